-- written by a program of this session (hprint.py), over the kit's printer
import Derived.Test.YtbllchfgjginoaaSoJ
import Derived.Test.YtbllchfgjginoaaPMf4
import Derived.Test.YtbllchfgjginoaaPMg1
namespace Go.Proofs.Ytbllchfgjginoaa.PMe
set_option maxHeartbeats 8000000
set_option maxRecDepth 100000
open Go.RowKit Go.Proofs.YtbllchfgjginoaaW.PrintWords Go.Proofs.YtbllchfgjginoaaW.PrintLast Go.Proofs.YtbllchfgjginoaaW.PrintMore
attribute [local go_sem] max2_int min2_int max_two min_two max_three min_three max_four min_four   -- for this text's walks alone
set_option linter.unusedVariables false
set_option linter.unusedSimpArgs false

/-! ### stolonref06_Make: function 30 -/
mutual
def stolonref06_Make.l0 : Nat → List Int → List Int → Int → Option (List Int)
  | 0, _, _, _ => none
  | k + 1, x0, x3, x4 => if x4 < (x0.length : Int) then (if 0 ≤ x4 then ((stolonref06_Has.f k x3 (rd x0 x4)).bind fun t146 => (if t146 = true then (stolonref06_Make.l0 k x0 x3 (wrap64 (x4 + 1))) else (stolonref06_Make.l1 k x0 x3 x4 ([] : List Int) 0))) else (none)) else (some x3)
def stolonref06_Make.l1 : Nat → List Int → List Int → Int → List Int → Int → Option (List Int)
  | 0, _, _, _, _, _ => none
  | k + 1, x0, x3, x4, x6, x7 => if x7 < (x3.length : Int) then (if 0 ≤ x7 then (if 0 ≤ x4 then (if x4 < (x0.length : Int) then (if (rd x3 x7) < (rd x0 x4) then (if x6.length < 35184372088832 then (stolonref06_Make.l1 k x0 x3 x4 (x6 ++ [rd x3 x7]) (wrap64 (x7 + 1))) else (none)) else (if x6.length < 35184372088832 then ((some (x6 ++ [rd x0 x4] : List Int)).bind fun y154 => (if x7 ≤ (x3.length : Int) then ((some (x3.drop (x7 : Int).toNat : List Int)).bind fun y157 => (if y154.length + y157.length < 35184372088832 then (stolonref06_Make.l0 k x0 (y154 ++ y157) (wrap64 (x4 + 1))) else (none))) else (none))) else (none))) else (none)) else (none)) else (none)) else (if 0 ≤ x4 then (if x4 < (x0.length : Int) then (if x6.length < 35184372088832 then ((some (x6 ++ [rd x0 x4] : List Int)).bind fun y165 => (if 0 ≤ x7 then (if x7 ≤ (x3.length : Int) then ((some (x3.drop (x7 : Int).toNat : List Int)).bind fun y168 => (if y165.length + y168.length < 35184372088832 then (stolonref06_Make.l0 k x0 (y165 ++ y168) (wrap64 (x4 + 1))) else (none))) else (none)) else (none))) else (none)) else (none)) else (none))
end
def stolonref06_Make.f (k : Nat) (l0 : List Int) : Option (List Int) := stolonref06_Make.l0 k l0 ([] : List Int) 0
theorem stolonref06_Make.mono_l : ∀ k, (∀ y0 y1 y2, LeO (stolonref06_Make.l0 k y0 y1 y2) (stolonref06_Make.l0 (k + 1) y0 y1 y2)) ∧ (∀ y0 y1 y2 y3 y4, LeO (stolonref06_Make.l1 k y0 y1 y2 y3 y4) (stolonref06_Make.l1 (k + 1) y0 y1 y2 y3 y4))
  | 0 => ⟨fun _ _ _ r h => by simp [stolonref06_Make.l0] at h, fun _ _ _ _ _ r h => by simp [stolonref06_Make.l1] at h⟩
  | k + 1 => by
    obtain ⟨ih0, ih1⟩ := stolonref06_Make.mono_l k
    refine ⟨?_, ?_⟩
    · intro y0 y1 y2
      unfold stolonref06_Make.l0
      repeat' first
      | (with_reducible exact ih0 _ _ _)
      | (with_reducible exact ih1 _ _ _ _ _)
      | (with_reducible exact stolonref06_Has.mono _ _ _)
      | (with_reducible exact LeO.refl _)
      | (with_reducible exact LeO.none _)
      | (with_reducible refine LeO.ite ?_ ?_)
      | (with_reducible refine LeO.bind ?_ (fun _ => ?_))
      | exact ih0 _ _ _
      | exact ih1 _ _ _ _ _
      | exact stolonref06_Has.mono _ _ _
      | exact LeO.none _
      | refine LeO.ite ?_ ?_
      | refine LeO.bind ?_ (fun _ => ?_)
    · intro y0 y1 y2 y3 y4
      unfold stolonref06_Make.l1
      repeat' first
      | (with_reducible exact ih0 _ _ _)
      | (with_reducible exact ih1 _ _ _ _ _)
      | (with_reducible exact stolonref06_Has.mono _ _ _)
      | (with_reducible exact LeO.refl _)
      | (with_reducible exact LeO.none _)
      | (with_reducible refine LeO.ite ?_ ?_)
      | (with_reducible refine LeO.bind ?_ (fun _ => ?_))
      | exact ih0 _ _ _
      | exact ih1 _ _ _ _ _
      | exact stolonref06_Has.mono _ _ _
      | exact LeO.none _
      | refine LeO.ite ?_ ?_
      | refine LeO.bind ?_ (fun _ => ?_)
theorem stolonref06_Make.mono : ∀ a0 k, LeO (stolonref06_Make.f k a0) (stolonref06_Make.f (k + 1) a0) := by
  intro a0 k
  obtain ⟨ih0, ih1⟩ := stolonref06_Make.mono_l k
  unfold stolonref06_Make.f
  repeat' first
      | (with_reducible exact ih0 _ _ _)
      | (with_reducible exact ih1 _ _ _ _ _)
      | (with_reducible exact stolonref06_Has.mono _ _ _)
      | (with_reducible exact LeO.refl _)
      | (with_reducible exact LeO.none _)
      | (with_reducible refine LeO.ite ?_ ?_)
      | (with_reducible refine LeO.bind ?_ (fun _ => ?_))
      | exact ih0 _ _ _
      | exact ih1 _ _ _ _ _
      | exact stolonref06_Has.mono _ _ _
      | exact LeO.none _
      | refine LeO.ite ?_ ?_
      | refine LeO.bind ?_ (fun _ => ?_)
theorem stolonref06_Make.calls (k : Nat) (A0 : Option Addr) (c0 : Nat) (l0 : List Int) (r : List Int) (w : World) (hr0 : Kd.C (Kd.int .u32) w A0 l0.length l0) (hc0 : l0.length ≤ c0) (h : stolonref06_Make.f k l0 = some r) :
    Calls Try.prog 30 #[.slice A0 l0.length c0] w fun e w' => ∃ v0_ : Value, e = .returned (v0_) ∧ Kd.R (Kd.int .u32) 25 w' w.heap.size (fun _ => True) v0_ r ∧ Below w.heap.size w w' := by
  have HR0 := Aside0.mk hr0
  have HC0 := Aside0.mk hc0
  clear hr0 hc0
  have HB := Aside0.mk (Below.refl w.heap.size w)
  have H : (stolonref06_Make.l0 k l0 ([] : List Int) 0) = some r := h
  clear h
  have H' := Aside0.mk H
  clear H
  go_enter Try.func30, Try.ntmps30
  go_wp2
  repeat (go_quiet (fail); try go_wp2)
  go_loopg [3, 4] k (fun kq v3 v4 w' => ∃ (x3_1 : List Int) (x4_1 : Int), v4 = .int .i64 x4_1 ∧ Aside0 (stolonref06_Make.l0 kq l0 x3_1 x4_1 = some r) ∧ Aside0 (kq ≤ k) ∧ Aside0 (Kd.R (Kd.int .u32) 25 w' w.heap.size (fun _ => True) v3 x3_1) ∧ Aside0 (Below w.heap.size w w'))
  case atStart => exact ⟨(([] : List Int)), (0), (fr), H', ⟨Nat.le_refl _⟩, ⟨nl⟩, ⟨bl HB⟩⟩
  case round =>
    clear H'
    obtain ⟨x3_1, x4_1, rfl, HA, HK1, HO_3, HB⟩ := hrel
    cases gk with
    | zero => exact absurd HA.out (by simp [stolonref06_Make.l0])
    | succ k1 =>
      have H := HA.out
      clear HA
      simp only [stolonref06_Make.l0] at H
      by_cases c2 : x4_1 < (l0.length : Int)
      · rw [if_pos c2] at H
        have c2b0 : decide (x4_1 < (l0.length : Int)) = true := decide_eq_true c2
        clear c2
        by_cases c3 : 0 ≤ x4_1
        · rw [if_pos c3] at H
          have c3b0 : decide (0 ≤ x4_1) = true := decide_eq_true c3
          clear c3
          replace H := Option.bind_eq_some_iff.mp H
          obtain ⟨t146, A40, H⟩ := H
          replace H : (if t146 = true then (stolonref06_Make.l0 k1 l0 x3_1 (wrap64 (x4_1 + 1))) else (stolonref06_Make.l1 k1 l0 x3_1 x4_1 ([] : List Int) 0)) = some r := H
          have A4 := Aside0.mk A40
          clear A40
          by_cases c5 : t146 = true
          · subst c5
            replace H : (stolonref06_Make.l0 k1 l0 x3_1 (wrap64 (x4_1 + 1))) = some r := by rw [if_pos rfl] at H; exact H
            have H' := Aside0.mk H
            clear H
            have p145 : 0 ≤ (x4_1 : Int) := od
            have q145 : x4_1 < (l0.length : Int) := od
            obtain ⟨ad145, e145, hx145_0⟩ := Kd.at_int HR0.out x4_1 p145 q145
            cases e145
            replace hx145_0 := hcz HB hx145_0
            replace p145 := eq_true p145
            replace q145 := eq_true q145
            obtain ⟨Ao6, co6, eo6⟩ := Kd.R_slice HO_3.out
            subst eo6
            go_wp2_with (first | (go_at_call 18; (with_reducible refine (stolonref06_Has.calls k1 _ _ x3_1 (rd l0 x4_1) true _ ?side1 ?side2 A4.out).mono ?_); (case side1 => exact ca (Kd.R_reads' HO_3.out).2.2); (case side2 => exact (Kd.R_reads' HO_3.out).2.1); rintro e w' ⟨rfl, ⟨nd, rfl⟩⟩; (try first | exact ⟨rfl, _, World.drewN_drewN _ _ _⟩ | exact ⟨rfl, _, Eq.trans (World.drewN_drewN _ _ _) (congrArg (World.drewN _) (Nat.add_assoc _ _ _))⟩)))
            repeat (go_quiet (first | (go_at_call 18; (with_reducible refine (stolonref06_Has.calls k1 _ _ x3_1 (rd l0 x4_1) true _ ?side1 ?side2 A4.out).mono ?_); (case side1 => exact ca (Kd.R_reads' HO_3.out).2.2); (case side2 => exact (Kd.R_reads' HO_3.out).2.1); rintro e w' ⟨rfl, ⟨nd, rfl⟩⟩; (try first | exact ⟨rfl, _, World.drewN_drewN _ _ _⟩ | exact ⟨rfl, _, Eq.trans (World.drewN_drewN _ _ _) (congrArg (World.drewN _) (Nat.add_assoc _ _ _))⟩))); try go_wp2_with (first | (go_at_call 18; (with_reducible refine (stolonref06_Has.calls k1 _ _ x3_1 (rd l0 x4_1) true _ ?side1 ?side2 A4.out).mono ?_); (case side1 => exact ca (Kd.R_reads' HO_3.out).2.2); (case side2 => exact (Kd.R_reads' HO_3.out).2.1); rintro e w' ⟨rfl, ⟨nd, rfl⟩⟩; (try first | exact ⟨rfl, _, World.drewN_drewN _ _ _⟩ | exact ⟨rfl, _, Eq.trans (World.drewN_drewN _ _ _) (congrArg (World.drewN _) (Nat.add_assoc _ _ _))⟩))))
            go_roundg k1
            case measure => have := HK1.out; omega
            case rel => exact ⟨(x3_1), (wrap64 (x4_1 + 1)), (fr), H', ⟨by have := HK1.out; omega⟩, ⟨rad HO_3.out⟩, ⟨bl HB⟩⟩
          · replace c5 := Bool.eq_false_iff.mpr c5
            subst c5
            replace H : (stolonref06_Make.l1 k1 l0 x3_1 x4_1 ([] : List Int) 0) = some r := by rw [if_neg (show ¬ (false = true) by decide)] at H; exact H
            have H' := Aside0.mk H
            clear H
            have p145 : 0 ≤ (x4_1 : Int) := od
            have q145 : x4_1 < (l0.length : Int) := od
            obtain ⟨ad145, e145, hx145_0⟩ := Kd.at_int HR0.out x4_1 p145 q145
            cases e145
            replace hx145_0 := hcz HB hx145_0
            replace p145 := eq_true p145
            replace q145 := eq_true q145
            obtain ⟨Ao7, co7, eo7⟩ := Kd.R_slice HO_3.out
            subst eo7
            go_wp2_with (first | (go_at_call 18; (with_reducible refine (stolonref06_Has.calls k1 _ _ x3_1 (rd l0 x4_1) false _ ?side1 ?side2 A4.out).mono ?_); (case side1 => exact ca (Kd.R_reads' HO_3.out).2.2); (case side2 => exact (Kd.R_reads' HO_3.out).2.1); rintro e w' ⟨rfl, ⟨nd, rfl⟩⟩; (try first | exact ⟨rfl, _, World.drewN_drewN _ _ _⟩ | exact ⟨rfl, _, Eq.trans (World.drewN_drewN _ _ _) (congrArg (World.drewN _) (Nat.add_assoc _ _ _))⟩)))
            repeat (go_quiet (first | (go_at_call 18; (with_reducible refine (stolonref06_Has.calls k1 _ _ x3_1 (rd l0 x4_1) false _ ?side1 ?side2 A4.out).mono ?_); (case side1 => exact ca (Kd.R_reads' HO_3.out).2.2); (case side2 => exact (Kd.R_reads' HO_3.out).2.1); rintro e w' ⟨rfl, ⟨nd, rfl⟩⟩; (try first | exact ⟨rfl, _, World.drewN_drewN _ _ _⟩ | exact ⟨rfl, _, Eq.trans (World.drewN_drewN _ _ _) (congrArg (World.drewN _) (Nat.add_assoc _ _ _))⟩))); try go_wp2_with (first | (go_at_call 18; (with_reducible refine (stolonref06_Has.calls k1 _ _ x3_1 (rd l0 x4_1) false _ ?side1 ?side2 A4.out).mono ?_); (case side1 => exact ca (Kd.R_reads' HO_3.out).2.2); (case side2 => exact (Kd.R_reads' HO_3.out).2.1); rintro e w' ⟨rfl, ⟨nd, rfl⟩⟩; (try first | exact ⟨rfl, _, World.drewN_drewN _ _ _⟩ | exact ⟨rfl, _, Eq.trans (World.drewN_drewN _ _ _) (congrArg (World.drewN _) (Nat.add_assoc _ _ _))⟩))))
            go_loopg [6, 7] k1 (fun kq v6 v7 w' => ∃ (x6_2 : List Int) (x7_2 : Int), v7 = .int .i64 x7_2 ∧ Aside0 (stolonref06_Make.l1 kq l0 x3_1 x4_1 x6_2 x7_2 = some r) ∧ Aside0 (kq ≤ k1) ∧ Aside0 (Kd.R (Kd.int .u32) 25 w' w.heap.size (fun k_ => some k_ ≠ (v6 : Value).ownBlock) (.slice Ao7 x3_1.length co7) x3_1) ∧ Aside0 (Kd.R (Kd.int .u32) 25 w' w.heap.size (fun k_ => some k_ ≠ ((.slice Ao7 x3_1.length co7) : Value).ownBlock) v6 x6_2) ∧ Aside0 (Below w.heap.size w w'))
            case atStart => exact ⟨(([] : List Int)), (0), (fr), H', ⟨Nat.le_refl _⟩, ⟨by refine rad ?_; exact Kd.R_mono HO_3.out (fun _ hk => (by simp [Value.ownBlock]))⟩, ⟨nl⟩, ⟨bl HB⟩⟩
            case round =>
              clear H'
              try clear p1
              try clear q1
              try clear hx1
              try clear c2
              try clear c2b0
              try clear p2
              try clear c3
              try clear c3b0
              try clear c5
              try clear p6
              try clear hx145_0
              try clear p145
              try clear q145
              obtain ⟨x6_2, x7_2, rfl, HA, HK2, HO_3, HO_6, HB⟩ := hrel
              cases gk with
              | zero => exact absurd HA.out (by simp [stolonref06_Make.l1])
              | succ k2 =>
                have H := HA.out
                clear HA
                simp only [stolonref06_Make.l1] at H
                by_cases c8 : x7_2 < (x3_1.length : Int)
                · rw [if_pos c8] at H
                  have c8b0 : decide (x7_2 < (x3_1.length : Int)) = true := decide_eq_true c8
                  clear c8
                  by_cases c9 : 0 ≤ x7_2
                  · rw [if_pos c9] at H
                    have c9b0 : decide (0 ≤ x7_2) = true := decide_eq_true c9
                    clear c9
                    by_cases c10 : 0 ≤ x4_1
                    · rw [if_pos c10] at H
                      have c10b0 : decide (0 ≤ x4_1) = true := decide_eq_true c10
                      clear c10
                      by_cases c11 : x4_1 < (l0.length : Int)
                      · rw [if_pos c11] at H
                        have c11b0 : decide (x4_1 < (l0.length : Int)) = true := decide_eq_true c11
                        clear c11
                        by_cases c12 : (rd x3_1 x7_2) < (rd l0 x4_1)
                        · rw [if_pos c12] at H
                          have c12b0 : decide ((rd x3_1 x7_2) < (rd l0 x4_1)) = true := decide_eq_true c12
                          clear c12
                          by_cases c13 : x6_2.length < 35184372088832
                          · rw [if_pos c13] at H
                            have LMc13 := Aside0.mk c13
                            clear c13
                            obtain ⟨y150, hy150⟩ : ∃ y_ : List Int, y_ = (x6_2 ++ [rd x3_1 x7_2]) := ⟨_, rfl⟩
                            replace H : (stolonref06_Make.l1 k2 l0 x3_1 x4_1 y150 (wrap64 (x7_2 + 1))) = some r := by first | (rw [hy150]; with_reducible exact H) | (have H2_ := (Option.bind_some _ _).symm.trans H; rw [hy150]; with_reducible exact H2_) | (have H2_ := (Option.bind_some _ _).symm.trans H; with_reducible exact H2_) | with_reducible exact H | (rw [hy150]; exact H) | exact H
                            have Ny150 := Aside0.mk hy150
                            clear hy150
                            have H' := Aside0.mk H
                            clear H
                            have p147 : 0 ≤ (x7_2 : Int) := od
                            have q147 : x7_2 < (x3_1.length : Int) := od
                            obtain ⟨ad147, e147, hx147_0⟩ := Kd.at_int (Kd.R_reads' HO_3.out).2.2 x7_2 p147 q147
                            cases e147
                            replace p147 := eq_true p147
                            replace q147 := eq_true q147
                            have p148 : 0 ≤ (x4_1 : Int) := od
                            have q148 : x4_1 < (l0.length : Int) := od
                            obtain ⟨ad148, e148, hx148_0⟩ := Kd.at_int HR0.out x4_1 p148 q148
                            obtain rfl : ad145 = ad148 := (by injection e148)
                            replace hx148_0 := hcz HB hx148_0
                            replace p148 := eq_true p148
                            replace q148 := eq_true q148
                            have p149 : 0 ≤ (x7_2 : Int) := od
                            have q149 : x7_2 < (x3_1.length : Int) := od
                            obtain ⟨ad149, e149, hx149_0⟩ := Kd.at_int (Kd.R_reads' HO_3.out).2.2 x7_2 p149 q149
                            obtain rfl : ad147 = ad149 := (by injection e149)
                            replace p149 := eq_true p149
                            replace q149 := eq_true q149
                            go_wp2_with (first | ((with_reducible refine gate_builtin (b := .append) (xs := #[.tmp 36, .tmp 41]) rfl ?_); at_builtin; refine Kd.R_append (Kd.int .u32) (w0 := w) w.heap.size rfl (.tmp 36) (.tmp 41) 29 25 (.int .u32 0) 4 rfl Try.underlying29 info25 rfl (by decide) (by omega) u6 x6_2 (rd x3_1 x7_2) [.int .u32 (rd x3_1 x7_2)] (fun k_ => some k_ ≠ (.slice (some ad147) x3_1.length co7 : Value).ownBlock) (fun _ => False) rfl rfl ?aP (fun _ hk => hk.elim) ?aF ?aO ?aB ?aS ?aL ?_; (case aP => exact rfl); (case aB => exact (bl HB)); (case aF => exact (fun k_ hk => Kd.fresh' (Kd.R_lt (rad HO_3.out)) k_ hk)); (case aO => exact (rad HO_6.out)); (case aS => exact (below_size (bl HB))); (case aL => have := LMc13.out; omega); intro v151 w14 ho hb hg hat; rw [← Ny150.out] at ho; have n0_ := Aside0.mk (Kd.R_after (ok := (fun _ => True)) (by refine rad ?_; exact Kd.R_mono HO_3.out (fun _ hk => ⟨trivial, hk⟩)) hg hat); have n1_ := Aside0.mk (hb); have n2_ := Aside0.mk (ho); clear HO_3; clear HB; clear HO_6; have HO_3 := n0_; have HB := n1_; have HO152 := n2_; clear n0_ n1_ n2_; clear ho hb hg hat))
                            repeat (go_quiet (first | ((with_reducible refine gate_builtin (b := .append) (xs := #[.tmp 36, .tmp 41]) rfl ?_); at_builtin; refine Kd.R_append (Kd.int .u32) (w0 := w) w.heap.size rfl (.tmp 36) (.tmp 41) 29 25 (.int .u32 0) 4 rfl Try.underlying29 info25 rfl (by decide) (by omega) u6 x6_2 (rd x3_1 x7_2) [.int .u32 (rd x3_1 x7_2)] (fun k_ => some k_ ≠ (.slice (some ad147) x3_1.length co7 : Value).ownBlock) (fun _ => False) rfl rfl ?aP (fun _ hk => hk.elim) ?aF ?aO ?aB ?aS ?aL ?_; (case aP => exact rfl); (case aB => exact (bl HB)); (case aF => exact (fun k_ hk => Kd.fresh' (Kd.R_lt (rad HO_3.out)) k_ hk)); (case aO => exact (rad HO_6.out)); (case aS => exact (below_size (bl HB))); (case aL => have := LMc13.out; omega); intro v151 w14 ho hb hg hat; rw [← Ny150.out] at ho; have n0_ := Aside0.mk (Kd.R_after (ok := (fun _ => True)) (by refine rad ?_; exact Kd.R_mono HO_3.out (fun _ hk => ⟨trivial, hk⟩)) hg hat); have n1_ := Aside0.mk (hb); have n2_ := Aside0.mk (ho); clear HO_3; clear HB; clear HO_6; have HO_3 := n0_; have HB := n1_; have HO152 := n2_; clear n0_ n1_ n2_; clear ho hb hg hat)); try go_wp2_with (first | ((with_reducible refine gate_builtin (b := .append) (xs := #[.tmp 36, .tmp 41]) rfl ?_); at_builtin; refine Kd.R_append (Kd.int .u32) (w0 := w) w.heap.size rfl (.tmp 36) (.tmp 41) 29 25 (.int .u32 0) 4 rfl Try.underlying29 info25 rfl (by decide) (by omega) u6 x6_2 (rd x3_1 x7_2) [.int .u32 (rd x3_1 x7_2)] (fun k_ => some k_ ≠ (.slice (some ad147) x3_1.length co7 : Value).ownBlock) (fun _ => False) rfl rfl ?aP (fun _ hk => hk.elim) ?aF ?aO ?aB ?aS ?aL ?_; (case aP => exact rfl); (case aB => exact (bl HB)); (case aF => exact (fun k_ hk => Kd.fresh' (Kd.R_lt (rad HO_3.out)) k_ hk)); (case aO => exact (rad HO_6.out)); (case aS => exact (below_size (bl HB))); (case aL => have := LMc13.out; omega); intro v151 w14 ho hb hg hat; rw [← Ny150.out] at ho; have n0_ := Aside0.mk (Kd.R_after (ok := (fun _ => True)) (by refine rad ?_; exact Kd.R_mono HO_3.out (fun _ hk => ⟨trivial, hk⟩)) hg hat); have n1_ := Aside0.mk (hb); have n2_ := Aside0.mk (ho); clear HO_3; clear HB; clear HO_6; have HO_3 := n0_; have HB := n1_; have HO152 := n2_; clear n0_ n1_ n2_; clear ho hb hg hat)))
                            go_roundg k2
                            case measure => have := HK1.out; have := HK2.out; omega
                            case rel => exact ⟨(y150), (wrap64 (x7_2 + 1)), (fr), H', ⟨by have := HK1.out; have := HK2.out; omega⟩, ⟨by refine rad ?_; exact Kd.R_mono HO_3.out (fun _ hk => hk.2)⟩, ⟨rad HO152.out⟩, ⟨bl HB⟩⟩
                          · rw [if_neg c13] at H
                            exact absurd H (by simp)
                        · rw [if_neg c12] at H
                          have c12b0 : decide ((rd x3_1 x7_2) < (rd l0 x4_1)) = false := decide_eq_false c12
                          clear c12
                          by_cases c15 : x6_2.length < 35184372088832
                          · rw [if_pos c15] at H
                            have LMc15 := Aside0.mk c15
                            clear c15
                            obtain ⟨y154, hy154⟩ : ∃ y_ : List Int, y_ = (x6_2 ++ [rd l0 x4_1]) := ⟨_, rfl⟩
                            replace H : (if x7_2 ≤ (x3_1.length : Int) then ((some (x3_1.drop (x7_2 : Int).toNat : List Int)).bind fun y157 => (if y154.length + y157.length < 35184372088832 then (stolonref06_Make.l0 k2 l0 (y154 ++ y157) (wrap64 (x4_1 + 1))) else (none))) else (none)) = some r := by first | (rw [hy154]; with_reducible exact H) | (have H2_ := (Option.bind_some _ _).symm.trans H; rw [hy154]; with_reducible exact H2_) | (have H2_ := (Option.bind_some _ _).symm.trans H; with_reducible exact H2_) | with_reducible exact H | (rw [hy154]; exact H) | exact H
                            have Ny154 := Aside0.mk hy154
                            clear hy154
                            have c16b0 := eq_true (od : 0 ≤ x7_2)
                            by_cases c17 : x7_2 ≤ (x3_1.length : Int)
                            · rw [if_pos c17] at H
                              have c17b0 := eq_true c17
                              have c17b1 : decide (x7_2 ≤ (x3_1.length : Int)) = true := decide_eq_true c17
                              clear c17
                              obtain ⟨y157, hy157⟩ : ∃ y_ : List Int, y_ = (x3_1.drop (x7_2 : Int).toNat) := ⟨_, rfl⟩
                              replace H : (if y154.length + y157.length < 35184372088832 then (stolonref06_Make.l0 k2 l0 (y154 ++ y157) (wrap64 (x4_1 + 1))) else (none)) = some r := by first | (rw [hy157]; with_reducible exact H) | (have H2_ := (Option.bind_some _ _).symm.trans H; rw [hy157]; with_reducible exact H2_) | (have H2_ := (Option.bind_some _ _).symm.trans H; with_reducible exact H2_) | with_reducible exact H | (rw [hy157]; exact H) | exact H
                              have Ny157 := Aside0.mk hy157
                              clear hy157
                              by_cases c18 : y154.length + y157.length < 35184372088832
                              · rw [if_pos c18] at H
                                have LMc18 := Aside0.mk c18
                                clear c18
                                obtain ⟨y161, hy161⟩ : ∃ y_ : List Int, y_ = (y154 ++ y157) := ⟨_, rfl⟩
                                replace H : (stolonref06_Make.l0 k2 l0 y161 (wrap64 (x4_1 + 1))) = some r := by first | (rw [hy161]; with_reducible exact H) | (have H2_ := (Option.bind_some _ _).symm.trans H; rw [hy161]; with_reducible exact H2_) | (have H2_ := (Option.bind_some _ _).symm.trans H; with_reducible exact H2_) | with_reducible exact H | (rw [hy161]; exact H) | exact H
                                have Ny161 := Aside0.mk hy161
                                clear hy161
                                have H' := Aside0.mk H
                                clear H
                                have p147 : 0 ≤ (x7_2 : Int) := od
                                have q147 : x7_2 < (x3_1.length : Int) := od
                                obtain ⟨ad147, e147, hx147_0⟩ := Kd.at_int (Kd.R_reads' HO_3.out).2.2 x7_2 p147 q147
                                cases e147
                                replace p147 := eq_true p147
                                replace q147 := eq_true q147
                                have p148 : 0 ≤ (x4_1 : Int) := od
                                have q148 : x4_1 < (l0.length : Int) := od
                                obtain ⟨ad148, e148, hx148_0⟩ := Kd.at_int HR0.out x4_1 p148 q148
                                obtain rfl : ad145 = ad148 := (by injection e148)
                                replace hx148_0 := hcz HB hx148_0
                                replace p148 := eq_true p148
                                replace q148 := eq_true q148
                                have p153 : 0 ≤ (x4_1 : Int) := od
                                have q153 : x4_1 < (l0.length : Int) := od
                                obtain ⟨ad153, e153, hx153_0⟩ := Kd.at_int HR0.out x4_1 p153 q153
                                obtain rfl : ad145 = ad153 := (by injection e153)
                                replace hx153_0 := hcz HB hx153_0
                                replace p153 := eq_true p153
                                replace q153 := eq_true q153
                                go_wp2_with (first | ((with_reducible refine gate_builtin (b := .append) (xs := #[.tmp 45, .tmp 50]) rfl ?_); at_builtin; refine Kd.R_append (Kd.int .u32) (w0 := w) w.heap.size rfl (.tmp 45) (.tmp 50) 29 25 (.int .u32 0) 4 rfl Try.underlying29 info25 rfl (by decide) (by omega) u6 x6_2 (rd l0 x4_1) [.int .u32 (rd l0 x4_1)] (fun k_ => some k_ ≠ (.slice (some ad147) x3_1.length co7 : Value).ownBlock) (fun _ => False) rfl rfl ?aP (fun _ hk => hk.elim) ?aF ?aO ?aB ?aS ?aL ?_; (case aP => exact rfl); (case aB => exact (bl HB)); (case aF => exact (fun k_ hk => Kd.fresh' (Kd.R_lt (rad HO_3.out)) k_ hk)); (case aO => exact (rad HO_6.out)); (case aS => exact (below_size (bl HB))); (case aL => have := LMc15.out; omega); intro v155 w19 ho hb hg hat; rw [← Ny154.out] at ho; have n0_ := Aside0.mk (Kd.R_after (ok := (fun _ => True)) (by refine rad ?_; exact Kd.R_mono HO_3.out (fun _ hk => ⟨trivial, hk⟩)) hg hat); have n1_ := Aside0.mk (hb); have n2_ := Aside0.mk (ho); clear HO_3; clear HB; clear HO_6; have HO_3 := n0_; have HB := n1_; have HO156 := n2_; clear n0_ n1_ n2_; clear ho hb hg hat; have q20 : (x7_2 : Int) ≤ ((x3_1.length : Int) : Int) := od; obtain ⟨i020, hi020, _, hsz20, _⟩ := info_parts info25; have hroom20 : x3_1.length ≤ co7 := (Kd.R_reads' HO_3.out).2.1; have hC20 : Kd.C (Kd.int .u32) _ (some ad147) x3_1.length x3_1 := (Kd.R_reads' HO_3.out).2.2; have q020 : (0 : Int) ≤ (x7_2 : Int) := od; have hcut20 := cut_from (P := Try.prog) 29 25 .i64 Try.underlying29 hi020 1 hsz20 (some ad147) x3_1.length co7 x7_2 q020 q20; have hr20 := Kd.C_drop (m := (x7_2 : Int).toNat) (c := co7) hC20 (by omega) hroom20; obtain ⟨A20, hA20⟩ : ∃ A1, A1 = (if co7 = (x7_2 : Int).toNat then (some ad147) else ((some ad147) : Option Addr).map (·.add ((x7_2 : Int).toNat * 1))) := ⟨_, rfl⟩; obtain ⟨c20, hc20⟩ : ∃ c1, c1 = co7 - (x7_2 : Int).toNat := ⟨_, rfl⟩; have hy20 : y157.length = x3_1.length - (x7_2 : Int).toNat := (by rw [Ny157.out, List.length_drop] <;> omega); rw [show (x3_1).drop (x7_2 : Int).toNat = y157 from Ny157.out.symm] at hr20; replace hr20 : Kd.C (Kd.int .u32) _ A20 y157.length y157 := (by rw [hA20]; exact hr20); rw [← hy20, ← hA20, ← hc20] at hcut20; have HR160 := Aside0.mk hr20; have HC160 := Aside0.mk (show y157.length ≤ c20 from by rw [hy20, hc20]; exact Nat.sub_le_sub_right hroom20 _); clear hr20 hC20 hroom20 hi020 hsz20 hc20; have KY20 := Aside0.mk hy20; have KA20 := Aside0.mk hA20; clear hy20 hA20; have KL20 := Aside0.mk (show (x7_2 : Int).toNat ≤ x3_1.length from by omega); replace q20 := eq_true q20) | ((with_reducible refine gate_builtin (b := .append) (xs := #[.tmp 52, .tmp 55]) rfl ?_); at_builtin; refine Kd.R_append_rows (Kd.int .u32) (w0 := w) w.heap.size rfl (.tmp 52) (.tmp 55) 29 25 (.int .u32 0) 4 rfl Try.underlying29 info25 rfl (by decide) (by omega) v155 y154 y157 _ _ _ (fun k_ => some k_ ≠ (.slice (some ad147) x3_1.length co7 : Value).ownBlock) (fun _ => False) rfl rfl ?aO ?aR (fun _ _ h => h) (fun _ h => h.elim) ?aF ?aB ?aS ?aL ?_; (case aR => repeat (first | exact (by repeat (first | (with_reducible exact HR160.out) | (with_reducible refine Kd.C_alloc ?_ _) | (with_reducible refine Kd.C_drewN ?_ _) | (with_reducible refine Kd.C_drew ?_) | exact HR160.out)) | (with_reducible refine Kd.C_alloc ?_ _) | (with_reducible refine Kd.C_drewN ?_ _) | (with_reducible refine Kd.C_drew ?_))); (case aB => exact (bl HB)); (case aF => exact (fun k_ hk => Kd.fresh' (Kd.R_lt (rad HO_3.out)) k_ hk)); (case aO => exact (rad HO156.out)); (case aS => exact (below_size (bl HB))); (case aL => have := LMc18.out; omega); intro v162 w21 ho hb hg hat; rw [← Ny161.out] at ho; have n0_ := Aside0.mk (Kd.R_after (ok := (fun _ => True)) (rad HO_3.out) hg hat); have n1_ := Aside0.mk (hb); have n2_ := Aside0.mk ((show Kd.C (Kd.int .u32) w21 A20 y157.length y157 from by rw [Ny157.out, KA20.out]; exact Kd.C_drop (m := (x7_2 : Int).toNat) (c := co7) ((Kd.R_reads' (Kd.R_after (ok := (fun _ => True)) (rad HO_3.out) hg hat)).2.2) KL20.out ((Kd.R_reads' (Kd.R_after (ok := (fun _ => True)) (rad HO_3.out) hg hat)).2.1))); have n3_ := Aside0.mk (ho); clear HO_3; clear HB; clear HR160; clear HO156; have HO_3 := n0_; have HB := n1_; have HR160 := n2_; have HO163 := n3_; clear n0_ n1_ n2_ n3_; clear ho hb hg hat))
                                repeat (go_quiet (first | ((with_reducible refine gate_builtin (b := .append) (xs := #[.tmp 45, .tmp 50]) rfl ?_); at_builtin; refine Kd.R_append (Kd.int .u32) (w0 := w) w.heap.size rfl (.tmp 45) (.tmp 50) 29 25 (.int .u32 0) 4 rfl Try.underlying29 info25 rfl (by decide) (by omega) u6 x6_2 (rd l0 x4_1) [.int .u32 (rd l0 x4_1)] (fun k_ => some k_ ≠ (.slice (some ad147) x3_1.length co7 : Value).ownBlock) (fun _ => False) rfl rfl ?aP (fun _ hk => hk.elim) ?aF ?aO ?aB ?aS ?aL ?_; (case aP => exact rfl); (case aB => exact (bl HB)); (case aF => exact (fun k_ hk => Kd.fresh' (Kd.R_lt (rad HO_3.out)) k_ hk)); (case aO => exact (rad HO_6.out)); (case aS => exact (below_size (bl HB))); (case aL => have := LMc15.out; omega); intro v155 w19 ho hb hg hat; rw [← Ny154.out] at ho; have n0_ := Aside0.mk (Kd.R_after (ok := (fun _ => True)) (by refine rad ?_; exact Kd.R_mono HO_3.out (fun _ hk => ⟨trivial, hk⟩)) hg hat); have n1_ := Aside0.mk (hb); have n2_ := Aside0.mk (ho); clear HO_3; clear HB; clear HO_6; have HO_3 := n0_; have HB := n1_; have HO156 := n2_; clear n0_ n1_ n2_; clear ho hb hg hat; have q20 : (x7_2 : Int) ≤ ((x3_1.length : Int) : Int) := od; obtain ⟨i020, hi020, _, hsz20, _⟩ := info_parts info25; have hroom20 : x3_1.length ≤ co7 := (Kd.R_reads' HO_3.out).2.1; have hC20 : Kd.C (Kd.int .u32) _ (some ad147) x3_1.length x3_1 := (Kd.R_reads' HO_3.out).2.2; have q020 : (0 : Int) ≤ (x7_2 : Int) := od; have hcut20 := cut_from (P := Try.prog) 29 25 .i64 Try.underlying29 hi020 1 hsz20 (some ad147) x3_1.length co7 x7_2 q020 q20; have hr20 := Kd.C_drop (m := (x7_2 : Int).toNat) (c := co7) hC20 (by omega) hroom20; obtain ⟨A20, hA20⟩ : ∃ A1, A1 = (if co7 = (x7_2 : Int).toNat then (some ad147) else ((some ad147) : Option Addr).map (·.add ((x7_2 : Int).toNat * 1))) := ⟨_, rfl⟩; obtain ⟨c20, hc20⟩ : ∃ c1, c1 = co7 - (x7_2 : Int).toNat := ⟨_, rfl⟩; have hy20 : y157.length = x3_1.length - (x7_2 : Int).toNat := (by rw [Ny157.out, List.length_drop] <;> omega); rw [show (x3_1).drop (x7_2 : Int).toNat = y157 from Ny157.out.symm] at hr20; replace hr20 : Kd.C (Kd.int .u32) _ A20 y157.length y157 := (by rw [hA20]; exact hr20); rw [← hy20, ← hA20, ← hc20] at hcut20; have HR160 := Aside0.mk hr20; have HC160 := Aside0.mk (show y157.length ≤ c20 from by rw [hy20, hc20]; exact Nat.sub_le_sub_right hroom20 _); clear hr20 hC20 hroom20 hi020 hsz20 hc20; have KY20 := Aside0.mk hy20; have KA20 := Aside0.mk hA20; clear hy20 hA20; have KL20 := Aside0.mk (show (x7_2 : Int).toNat ≤ x3_1.length from by omega); replace q20 := eq_true q20) | ((with_reducible refine gate_builtin (b := .append) (xs := #[.tmp 52, .tmp 55]) rfl ?_); at_builtin; refine Kd.R_append_rows (Kd.int .u32) (w0 := w) w.heap.size rfl (.tmp 52) (.tmp 55) 29 25 (.int .u32 0) 4 rfl Try.underlying29 info25 rfl (by decide) (by omega) v155 y154 y157 _ _ _ (fun k_ => some k_ ≠ (.slice (some ad147) x3_1.length co7 : Value).ownBlock) (fun _ => False) rfl rfl ?aO ?aR (fun _ _ h => h) (fun _ h => h.elim) ?aF ?aB ?aS ?aL ?_; (case aR => repeat (first | exact (by repeat (first | (with_reducible exact HR160.out) | (with_reducible refine Kd.C_alloc ?_ _) | (with_reducible refine Kd.C_drewN ?_ _) | (with_reducible refine Kd.C_drew ?_) | exact HR160.out)) | (with_reducible refine Kd.C_alloc ?_ _) | (with_reducible refine Kd.C_drewN ?_ _) | (with_reducible refine Kd.C_drew ?_))); (case aB => exact (bl HB)); (case aF => exact (fun k_ hk => Kd.fresh' (Kd.R_lt (rad HO_3.out)) k_ hk)); (case aO => exact (rad HO156.out)); (case aS => exact (below_size (bl HB))); (case aL => have := LMc18.out; omega); intro v162 w21 ho hb hg hat; rw [← Ny161.out] at ho; have n0_ := Aside0.mk (Kd.R_after (ok := (fun _ => True)) (rad HO_3.out) hg hat); have n1_ := Aside0.mk (hb); have n2_ := Aside0.mk ((show Kd.C (Kd.int .u32) w21 A20 y157.length y157 from by rw [Ny157.out, KA20.out]; exact Kd.C_drop (m := (x7_2 : Int).toNat) (c := co7) ((Kd.R_reads' (Kd.R_after (ok := (fun _ => True)) (rad HO_3.out) hg hat)).2.2) KL20.out ((Kd.R_reads' (Kd.R_after (ok := (fun _ => True)) (rad HO_3.out) hg hat)).2.1))); have n3_ := Aside0.mk (ho); clear HO_3; clear HB; clear HR160; clear HO156; have HO_3 := n0_; have HB := n1_; have HR160 := n2_; have HO163 := n3_; clear n0_ n1_ n2_ n3_; clear ho hb hg hat)); try go_wp2_with (first | ((with_reducible refine gate_builtin (b := .append) (xs := #[.tmp 45, .tmp 50]) rfl ?_); at_builtin; refine Kd.R_append (Kd.int .u32) (w0 := w) w.heap.size rfl (.tmp 45) (.tmp 50) 29 25 (.int .u32 0) 4 rfl Try.underlying29 info25 rfl (by decide) (by omega) u6 x6_2 (rd l0 x4_1) [.int .u32 (rd l0 x4_1)] (fun k_ => some k_ ≠ (.slice (some ad147) x3_1.length co7 : Value).ownBlock) (fun _ => False) rfl rfl ?aP (fun _ hk => hk.elim) ?aF ?aO ?aB ?aS ?aL ?_; (case aP => exact rfl); (case aB => exact (bl HB)); (case aF => exact (fun k_ hk => Kd.fresh' (Kd.R_lt (rad HO_3.out)) k_ hk)); (case aO => exact (rad HO_6.out)); (case aS => exact (below_size (bl HB))); (case aL => have := LMc15.out; omega); intro v155 w19 ho hb hg hat; rw [← Ny154.out] at ho; have n0_ := Aside0.mk (Kd.R_after (ok := (fun _ => True)) (by refine rad ?_; exact Kd.R_mono HO_3.out (fun _ hk => ⟨trivial, hk⟩)) hg hat); have n1_ := Aside0.mk (hb); have n2_ := Aside0.mk (ho); clear HO_3; clear HB; clear HO_6; have HO_3 := n0_; have HB := n1_; have HO156 := n2_; clear n0_ n1_ n2_; clear ho hb hg hat; have q20 : (x7_2 : Int) ≤ ((x3_1.length : Int) : Int) := od; obtain ⟨i020, hi020, _, hsz20, _⟩ := info_parts info25; have hroom20 : x3_1.length ≤ co7 := (Kd.R_reads' HO_3.out).2.1; have hC20 : Kd.C (Kd.int .u32) _ (some ad147) x3_1.length x3_1 := (Kd.R_reads' HO_3.out).2.2; have q020 : (0 : Int) ≤ (x7_2 : Int) := od; have hcut20 := cut_from (P := Try.prog) 29 25 .i64 Try.underlying29 hi020 1 hsz20 (some ad147) x3_1.length co7 x7_2 q020 q20; have hr20 := Kd.C_drop (m := (x7_2 : Int).toNat) (c := co7) hC20 (by omega) hroom20; obtain ⟨A20, hA20⟩ : ∃ A1, A1 = (if co7 = (x7_2 : Int).toNat then (some ad147) else ((some ad147) : Option Addr).map (·.add ((x7_2 : Int).toNat * 1))) := ⟨_, rfl⟩; obtain ⟨c20, hc20⟩ : ∃ c1, c1 = co7 - (x7_2 : Int).toNat := ⟨_, rfl⟩; have hy20 : y157.length = x3_1.length - (x7_2 : Int).toNat := (by rw [Ny157.out, List.length_drop] <;> omega); rw [show (x3_1).drop (x7_2 : Int).toNat = y157 from Ny157.out.symm] at hr20; replace hr20 : Kd.C (Kd.int .u32) _ A20 y157.length y157 := (by rw [hA20]; exact hr20); rw [← hy20, ← hA20, ← hc20] at hcut20; have HR160 := Aside0.mk hr20; have HC160 := Aside0.mk (show y157.length ≤ c20 from by rw [hy20, hc20]; exact Nat.sub_le_sub_right hroom20 _); clear hr20 hC20 hroom20 hi020 hsz20 hc20; have KY20 := Aside0.mk hy20; have KA20 := Aside0.mk hA20; clear hy20 hA20; have KL20 := Aside0.mk (show (x7_2 : Int).toNat ≤ x3_1.length from by omega); replace q20 := eq_true q20) | ((with_reducible refine gate_builtin (b := .append) (xs := #[.tmp 52, .tmp 55]) rfl ?_); at_builtin; refine Kd.R_append_rows (Kd.int .u32) (w0 := w) w.heap.size rfl (.tmp 52) (.tmp 55) 29 25 (.int .u32 0) 4 rfl Try.underlying29 info25 rfl (by decide) (by omega) v155 y154 y157 _ _ _ (fun k_ => some k_ ≠ (.slice (some ad147) x3_1.length co7 : Value).ownBlock) (fun _ => False) rfl rfl ?aO ?aR (fun _ _ h => h) (fun _ h => h.elim) ?aF ?aB ?aS ?aL ?_; (case aR => repeat (first | exact (by repeat (first | (with_reducible exact HR160.out) | (with_reducible refine Kd.C_alloc ?_ _) | (with_reducible refine Kd.C_drewN ?_ _) | (with_reducible refine Kd.C_drew ?_) | exact HR160.out)) | (with_reducible refine Kd.C_alloc ?_ _) | (with_reducible refine Kd.C_drewN ?_ _) | (with_reducible refine Kd.C_drew ?_))); (case aB => exact (bl HB)); (case aF => exact (fun k_ hk => Kd.fresh' (Kd.R_lt (rad HO_3.out)) k_ hk)); (case aO => exact (rad HO156.out)); (case aS => exact (below_size (bl HB))); (case aL => have := LMc18.out; omega); intro v162 w21 ho hb hg hat; rw [← Ny161.out] at ho; have n0_ := Aside0.mk (Kd.R_after (ok := (fun _ => True)) (rad HO_3.out) hg hat); have n1_ := Aside0.mk (hb); have n2_ := Aside0.mk ((show Kd.C (Kd.int .u32) w21 A20 y157.length y157 from by rw [Ny157.out, KA20.out]; exact Kd.C_drop (m := (x7_2 : Int).toNat) (c := co7) ((Kd.R_reads' (Kd.R_after (ok := (fun _ => True)) (rad HO_3.out) hg hat)).2.2) KL20.out ((Kd.R_reads' (Kd.R_after (ok := (fun _ => True)) (rad HO_3.out) hg hat)).2.1))); have n3_ := Aside0.mk (ho); clear HO_3; clear HB; clear HR160; clear HO156; have HO_3 := n0_; have HB := n1_; have HR160 := n2_; have HO163 := n3_; clear n0_ n1_ n2_ n3_; clear ho hb hg hat)))
                                go_roundg k2
                                case measure => have := HK1.out; have := HK2.out; omega
                                case rel => exact ⟨(y161), (wrap64 (x4_1 + 1)), (fr), H', ⟨by have := HK1.out; have := HK2.out; omega⟩, ⟨by refine rad ?_; exact Kd.R_mono HO163.out (fun _ hk => trivial)⟩, ⟨bl HB⟩⟩
                              · rw [if_neg c18] at H
                                exact absurd H (by simp)
                            · rw [if_neg c17] at H
                              exact absurd H (by simp)
                          · rw [if_neg c15] at H
                            exact absurd H (by simp)
                      · rw [if_neg c11] at H
                        exact absurd H (by simp)
                    · rw [if_neg c10] at H
                      exact absurd H (by simp)
                  · rw [if_neg c9] at H
                    exact absurd H (by simp)
                · rw [if_neg c8] at H
                  have c8b0 : decide (x7_2 < (x3_1.length : Int)) = false := decide_eq_false c8
                  clear c8
                  by_cases c22 : 0 ≤ x4_1
                  · rw [if_pos c22] at H
                    have c22b0 : decide (0 ≤ x4_1) = true := decide_eq_true c22
                    clear c22
                    by_cases c23 : x4_1 < (l0.length : Int)
                    · rw [if_pos c23] at H
                      have c23b0 : decide (x4_1 < (l0.length : Int)) = true := decide_eq_true c23
                      clear c23
                      by_cases c24 : x6_2.length < 35184372088832
                      · rw [if_pos c24] at H
                        have LMc24 := Aside0.mk c24
                        clear c24
                        obtain ⟨y165, hy165⟩ : ∃ y_ : List Int, y_ = (x6_2 ++ [rd l0 x4_1]) := ⟨_, rfl⟩
                        replace H : (if 0 ≤ x7_2 then (if x7_2 ≤ (x3_1.length : Int) then ((some (x3_1.drop (x7_2 : Int).toNat : List Int)).bind fun y168 => (if y165.length + y168.length < 35184372088832 then (stolonref06_Make.l0 k2 l0 (y165 ++ y168) (wrap64 (x4_1 + 1))) else (none))) else (none)) else (none)) = some r := by first | (rw [hy165]; with_reducible exact H) | (have H2_ := (Option.bind_some _ _).symm.trans H; rw [hy165]; with_reducible exact H2_) | (have H2_ := (Option.bind_some _ _).symm.trans H; with_reducible exact H2_) | with_reducible exact H | (rw [hy165]; exact H) | exact H
                        have Ny165 := Aside0.mk hy165
                        clear hy165
                        by_cases c25 : 0 ≤ x7_2
                        · rw [if_pos c25] at H
                          have c25b0 := eq_true c25
                          have c25b1 : decide (0 ≤ x7_2) = true := decide_eq_true c25
                          clear c25
                          by_cases c26 : x7_2 ≤ (x3_1.length : Int)
                          · rw [if_pos c26] at H
                            have c26b0 := eq_true c26
                            have c26b1 : decide (x7_2 ≤ (x3_1.length : Int)) = true := decide_eq_true c26
                            clear c26
                            obtain ⟨y168, hy168⟩ : ∃ y_ : List Int, y_ = (x3_1.drop (x7_2 : Int).toNat) := ⟨_, rfl⟩
                            replace H : (if y165.length + y168.length < 35184372088832 then (stolonref06_Make.l0 k2 l0 (y165 ++ y168) (wrap64 (x4_1 + 1))) else (none)) = some r := by first | (rw [hy168]; with_reducible exact H) | (have H2_ := (Option.bind_some _ _).symm.trans H; rw [hy168]; with_reducible exact H2_) | (have H2_ := (Option.bind_some _ _).symm.trans H; with_reducible exact H2_) | with_reducible exact H | (rw [hy168]; exact H) | exact H
                            have Ny168 := Aside0.mk hy168
                            clear hy168
                            by_cases c27 : y165.length + y168.length < 35184372088832
                            · rw [if_pos c27] at H
                              have LMc27 := Aside0.mk c27
                              clear c27
                              obtain ⟨y172, hy172⟩ : ∃ y_ : List Int, y_ = (y165 ++ y168) := ⟨_, rfl⟩
                              replace H : (stolonref06_Make.l0 k2 l0 y172 (wrap64 (x4_1 + 1))) = some r := by first | (rw [hy172]; with_reducible exact H) | (have H2_ := (Option.bind_some _ _).symm.trans H; rw [hy172]; with_reducible exact H2_) | (have H2_ := (Option.bind_some _ _).symm.trans H; with_reducible exact H2_) | with_reducible exact H | (rw [hy172]; exact H) | exact H
                              have Ny172 := Aside0.mk hy172
                              clear hy172
                              have H' := Aside0.mk H
                              clear H
                              have p164 : 0 ≤ (x4_1 : Int) := od
                              have q164 : x4_1 < (l0.length : Int) := od
                              obtain ⟨ad164, e164, hx164_0⟩ := Kd.at_int HR0.out x4_1 p164 q164
                              obtain rfl : ad145 = ad164 := (by injection e164)
                              replace hx164_0 := hcz HB hx164_0
                              replace p164 := eq_true p164
                              replace q164 := eq_true q164
                              go_wp2_with (first | ((with_reducible refine gate_builtin (b := .append) (xs := #[.tmp 45, .tmp 50]) rfl ?_); at_builtin; refine Kd.R_append (Kd.int .u32) (w0 := w) w.heap.size rfl (.tmp 45) (.tmp 50) 29 25 (.int .u32 0) 4 rfl Try.underlying29 info25 rfl (by decide) (by omega) u6 x6_2 (rd l0 x4_1) [.int .u32 (rd l0 x4_1)] (fun k_ => some k_ ≠ (.slice Ao7 x3_1.length co7 : Value).ownBlock) (fun _ => False) rfl rfl ?aP (fun _ hk => hk.elim) ?aF ?aO ?aB ?aS ?aL ?_; (case aP => exact rfl); (case aB => exact (bl HB)); (case aF => exact (fun k_ hk => Kd.fresh' (Kd.R_lt (rad HO_3.out)) k_ hk)); (case aO => exact (rad HO_6.out)); (case aS => exact (below_size (bl HB))); (case aL => have := LMc24.out; omega); intro v166 w28 ho hb hg hat; rw [← Ny165.out] at ho; have n0_ := Aside0.mk (Kd.R_after (ok := (fun _ => True)) (by refine rad ?_; exact Kd.R_mono HO_3.out (fun _ hk => ⟨trivial, hk⟩)) hg hat); have n1_ := Aside0.mk (hb); have n2_ := Aside0.mk (ho); clear HO_3; clear HB; clear HO_6; have HO_3 := n0_; have HB := n1_; have HO167 := n2_; clear n0_ n1_ n2_; clear ho hb hg hat; have q29 : (x7_2 : Int) ≤ ((x3_1.length : Int) : Int) := od; obtain ⟨i029, hi029, _, hsz29, _⟩ := info_parts info25; have hroom29 : x3_1.length ≤ co7 := (Kd.R_reads' HO_3.out).2.1; have hC29 : Kd.C (Kd.int .u32) _ Ao7 x3_1.length x3_1 := (Kd.R_reads' HO_3.out).2.2; have q029 : (0 : Int) ≤ (x7_2 : Int) := od; have hcut29 := cut_from (P := Try.prog) 29 25 .i64 Try.underlying29 hi029 1 hsz29 Ao7 x3_1.length co7 x7_2 q029 q29; have hr29 := Kd.C_drop (m := (x7_2 : Int).toNat) (c := co7) hC29 (by omega) hroom29; obtain ⟨A29, hA29⟩ : ∃ A1, A1 = (if co7 = (x7_2 : Int).toNat then Ao7 else (Ao7 : Option Addr).map (·.add ((x7_2 : Int).toNat * 1))) := ⟨_, rfl⟩; obtain ⟨c29, hc29⟩ : ∃ c1, c1 = co7 - (x7_2 : Int).toNat := ⟨_, rfl⟩; have hy29 : y168.length = x3_1.length - (x7_2 : Int).toNat := (by rw [Ny168.out, List.length_drop] <;> omega); rw [show (x3_1).drop (x7_2 : Int).toNat = y168 from Ny168.out.symm] at hr29; replace hr29 : Kd.C (Kd.int .u32) _ A29 y168.length y168 := (by rw [hA29]; exact hr29); rw [← hy29, ← hA29, ← hc29] at hcut29; have HR171 := Aside0.mk hr29; have HC171 := Aside0.mk (show y168.length ≤ c29 from by rw [hy29, hc29]; exact Nat.sub_le_sub_right hroom29 _); clear hr29 hC29 hroom29 hi029 hsz29 hc29; have KY29 := Aside0.mk hy29; have KA29 := Aside0.mk hA29; clear hy29 hA29; have KL29 := Aside0.mk (show (x7_2 : Int).toNat ≤ x3_1.length from by omega); replace q29 := eq_true q29) | ((with_reducible refine gate_builtin (b := .append) (xs := #[.tmp 52, .tmp 55]) rfl ?_); at_builtin; refine Kd.R_append_rows (Kd.int .u32) (w0 := w) w.heap.size rfl (.tmp 52) (.tmp 55) 29 25 (.int .u32 0) 4 rfl Try.underlying29 info25 rfl (by decide) (by omega) v166 y165 y168 _ _ _ (fun k_ => some k_ ≠ (.slice Ao7 x3_1.length co7 : Value).ownBlock) (fun _ => False) rfl rfl ?aO ?aR (fun _ _ h => h) (fun _ h => h.elim) ?aF ?aB ?aS ?aL ?_; (case aR => repeat (first | exact (by repeat (first | (with_reducible exact HR171.out) | (with_reducible refine Kd.C_alloc ?_ _) | (with_reducible refine Kd.C_drewN ?_ _) | (with_reducible refine Kd.C_drew ?_) | exact HR171.out)) | (with_reducible refine Kd.C_alloc ?_ _) | (with_reducible refine Kd.C_drewN ?_ _) | (with_reducible refine Kd.C_drew ?_))); (case aB => exact (bl HB)); (case aF => exact (fun k_ hk => Kd.fresh' (Kd.R_lt (rad HO_3.out)) k_ hk)); (case aO => exact (rad HO167.out)); (case aS => exact (below_size (bl HB))); (case aL => have := LMc27.out; omega); intro v173 w30 ho hb hg hat; rw [← Ny172.out] at ho; have n0_ := Aside0.mk (Kd.R_after (ok := (fun _ => True)) (rad HO_3.out) hg hat); have n1_ := Aside0.mk (hb); have n2_ := Aside0.mk ((show Kd.C (Kd.int .u32) w30 A29 y168.length y168 from by rw [Ny168.out, KA29.out]; exact Kd.C_drop (m := (x7_2 : Int).toNat) (c := co7) ((Kd.R_reads' (Kd.R_after (ok := (fun _ => True)) (rad HO_3.out) hg hat)).2.2) KL29.out ((Kd.R_reads' (Kd.R_after (ok := (fun _ => True)) (rad HO_3.out) hg hat)).2.1))); have n3_ := Aside0.mk (ho); clear HO_3; clear HB; clear HR171; clear HO167; have HO_3 := n0_; have HB := n1_; have HR171 := n2_; have HO174 := n3_; clear n0_ n1_ n2_ n3_; clear ho hb hg hat))
                              repeat (go_quiet (first | ((with_reducible refine gate_builtin (b := .append) (xs := #[.tmp 45, .tmp 50]) rfl ?_); at_builtin; refine Kd.R_append (Kd.int .u32) (w0 := w) w.heap.size rfl (.tmp 45) (.tmp 50) 29 25 (.int .u32 0) 4 rfl Try.underlying29 info25 rfl (by decide) (by omega) u6 x6_2 (rd l0 x4_1) [.int .u32 (rd l0 x4_1)] (fun k_ => some k_ ≠ (.slice Ao7 x3_1.length co7 : Value).ownBlock) (fun _ => False) rfl rfl ?aP (fun _ hk => hk.elim) ?aF ?aO ?aB ?aS ?aL ?_; (case aP => exact rfl); (case aB => exact (bl HB)); (case aF => exact (fun k_ hk => Kd.fresh' (Kd.R_lt (rad HO_3.out)) k_ hk)); (case aO => exact (rad HO_6.out)); (case aS => exact (below_size (bl HB))); (case aL => have := LMc24.out; omega); intro v166 w28 ho hb hg hat; rw [← Ny165.out] at ho; have n0_ := Aside0.mk (Kd.R_after (ok := (fun _ => True)) (by refine rad ?_; exact Kd.R_mono HO_3.out (fun _ hk => ⟨trivial, hk⟩)) hg hat); have n1_ := Aside0.mk (hb); have n2_ := Aside0.mk (ho); clear HO_3; clear HB; clear HO_6; have HO_3 := n0_; have HB := n1_; have HO167 := n2_; clear n0_ n1_ n2_; clear ho hb hg hat; have q29 : (x7_2 : Int) ≤ ((x3_1.length : Int) : Int) := od; obtain ⟨i029, hi029, _, hsz29, _⟩ := info_parts info25; have hroom29 : x3_1.length ≤ co7 := (Kd.R_reads' HO_3.out).2.1; have hC29 : Kd.C (Kd.int .u32) _ Ao7 x3_1.length x3_1 := (Kd.R_reads' HO_3.out).2.2; have q029 : (0 : Int) ≤ (x7_2 : Int) := od; have hcut29 := cut_from (P := Try.prog) 29 25 .i64 Try.underlying29 hi029 1 hsz29 Ao7 x3_1.length co7 x7_2 q029 q29; have hr29 := Kd.C_drop (m := (x7_2 : Int).toNat) (c := co7) hC29 (by omega) hroom29; obtain ⟨A29, hA29⟩ : ∃ A1, A1 = (if co7 = (x7_2 : Int).toNat then Ao7 else (Ao7 : Option Addr).map (·.add ((x7_2 : Int).toNat * 1))) := ⟨_, rfl⟩; obtain ⟨c29, hc29⟩ : ∃ c1, c1 = co7 - (x7_2 : Int).toNat := ⟨_, rfl⟩; have hy29 : y168.length = x3_1.length - (x7_2 : Int).toNat := (by rw [Ny168.out, List.length_drop] <;> omega); rw [show (x3_1).drop (x7_2 : Int).toNat = y168 from Ny168.out.symm] at hr29; replace hr29 : Kd.C (Kd.int .u32) _ A29 y168.length y168 := (by rw [hA29]; exact hr29); rw [← hy29, ← hA29, ← hc29] at hcut29; have HR171 := Aside0.mk hr29; have HC171 := Aside0.mk (show y168.length ≤ c29 from by rw [hy29, hc29]; exact Nat.sub_le_sub_right hroom29 _); clear hr29 hC29 hroom29 hi029 hsz29 hc29; have KY29 := Aside0.mk hy29; have KA29 := Aside0.mk hA29; clear hy29 hA29; have KL29 := Aside0.mk (show (x7_2 : Int).toNat ≤ x3_1.length from by omega); replace q29 := eq_true q29) | ((with_reducible refine gate_builtin (b := .append) (xs := #[.tmp 52, .tmp 55]) rfl ?_); at_builtin; refine Kd.R_append_rows (Kd.int .u32) (w0 := w) w.heap.size rfl (.tmp 52) (.tmp 55) 29 25 (.int .u32 0) 4 rfl Try.underlying29 info25 rfl (by decide) (by omega) v166 y165 y168 _ _ _ (fun k_ => some k_ ≠ (.slice Ao7 x3_1.length co7 : Value).ownBlock) (fun _ => False) rfl rfl ?aO ?aR (fun _ _ h => h) (fun _ h => h.elim) ?aF ?aB ?aS ?aL ?_; (case aR => repeat (first | exact (by repeat (first | (with_reducible exact HR171.out) | (with_reducible refine Kd.C_alloc ?_ _) | (with_reducible refine Kd.C_drewN ?_ _) | (with_reducible refine Kd.C_drew ?_) | exact HR171.out)) | (with_reducible refine Kd.C_alloc ?_ _) | (with_reducible refine Kd.C_drewN ?_ _) | (with_reducible refine Kd.C_drew ?_))); (case aB => exact (bl HB)); (case aF => exact (fun k_ hk => Kd.fresh' (Kd.R_lt (rad HO_3.out)) k_ hk)); (case aO => exact (rad HO167.out)); (case aS => exact (below_size (bl HB))); (case aL => have := LMc27.out; omega); intro v173 w30 ho hb hg hat; rw [← Ny172.out] at ho; have n0_ := Aside0.mk (Kd.R_after (ok := (fun _ => True)) (rad HO_3.out) hg hat); have n1_ := Aside0.mk (hb); have n2_ := Aside0.mk ((show Kd.C (Kd.int .u32) w30 A29 y168.length y168 from by rw [Ny168.out, KA29.out]; exact Kd.C_drop (m := (x7_2 : Int).toNat) (c := co7) ((Kd.R_reads' (Kd.R_after (ok := (fun _ => True)) (rad HO_3.out) hg hat)).2.2) KL29.out ((Kd.R_reads' (Kd.R_after (ok := (fun _ => True)) (rad HO_3.out) hg hat)).2.1))); have n3_ := Aside0.mk (ho); clear HO_3; clear HB; clear HR171; clear HO167; have HO_3 := n0_; have HB := n1_; have HR171 := n2_; have HO174 := n3_; clear n0_ n1_ n2_ n3_; clear ho hb hg hat)); try go_wp2_with (first | ((with_reducible refine gate_builtin (b := .append) (xs := #[.tmp 45, .tmp 50]) rfl ?_); at_builtin; refine Kd.R_append (Kd.int .u32) (w0 := w) w.heap.size rfl (.tmp 45) (.tmp 50) 29 25 (.int .u32 0) 4 rfl Try.underlying29 info25 rfl (by decide) (by omega) u6 x6_2 (rd l0 x4_1) [.int .u32 (rd l0 x4_1)] (fun k_ => some k_ ≠ (.slice Ao7 x3_1.length co7 : Value).ownBlock) (fun _ => False) rfl rfl ?aP (fun _ hk => hk.elim) ?aF ?aO ?aB ?aS ?aL ?_; (case aP => exact rfl); (case aB => exact (bl HB)); (case aF => exact (fun k_ hk => Kd.fresh' (Kd.R_lt (rad HO_3.out)) k_ hk)); (case aO => exact (rad HO_6.out)); (case aS => exact (below_size (bl HB))); (case aL => have := LMc24.out; omega); intro v166 w28 ho hb hg hat; rw [← Ny165.out] at ho; have n0_ := Aside0.mk (Kd.R_after (ok := (fun _ => True)) (by refine rad ?_; exact Kd.R_mono HO_3.out (fun _ hk => ⟨trivial, hk⟩)) hg hat); have n1_ := Aside0.mk (hb); have n2_ := Aside0.mk (ho); clear HO_3; clear HB; clear HO_6; have HO_3 := n0_; have HB := n1_; have HO167 := n2_; clear n0_ n1_ n2_; clear ho hb hg hat; have q29 : (x7_2 : Int) ≤ ((x3_1.length : Int) : Int) := od; obtain ⟨i029, hi029, _, hsz29, _⟩ := info_parts info25; have hroom29 : x3_1.length ≤ co7 := (Kd.R_reads' HO_3.out).2.1; have hC29 : Kd.C (Kd.int .u32) _ Ao7 x3_1.length x3_1 := (Kd.R_reads' HO_3.out).2.2; have q029 : (0 : Int) ≤ (x7_2 : Int) := od; have hcut29 := cut_from (P := Try.prog) 29 25 .i64 Try.underlying29 hi029 1 hsz29 Ao7 x3_1.length co7 x7_2 q029 q29; have hr29 := Kd.C_drop (m := (x7_2 : Int).toNat) (c := co7) hC29 (by omega) hroom29; obtain ⟨A29, hA29⟩ : ∃ A1, A1 = (if co7 = (x7_2 : Int).toNat then Ao7 else (Ao7 : Option Addr).map (·.add ((x7_2 : Int).toNat * 1))) := ⟨_, rfl⟩; obtain ⟨c29, hc29⟩ : ∃ c1, c1 = co7 - (x7_2 : Int).toNat := ⟨_, rfl⟩; have hy29 : y168.length = x3_1.length - (x7_2 : Int).toNat := (by rw [Ny168.out, List.length_drop] <;> omega); rw [show (x3_1).drop (x7_2 : Int).toNat = y168 from Ny168.out.symm] at hr29; replace hr29 : Kd.C (Kd.int .u32) _ A29 y168.length y168 := (by rw [hA29]; exact hr29); rw [← hy29, ← hA29, ← hc29] at hcut29; have HR171 := Aside0.mk hr29; have HC171 := Aside0.mk (show y168.length ≤ c29 from by rw [hy29, hc29]; exact Nat.sub_le_sub_right hroom29 _); clear hr29 hC29 hroom29 hi029 hsz29 hc29; have KY29 := Aside0.mk hy29; have KA29 := Aside0.mk hA29; clear hy29 hA29; have KL29 := Aside0.mk (show (x7_2 : Int).toNat ≤ x3_1.length from by omega); replace q29 := eq_true q29) | ((with_reducible refine gate_builtin (b := .append) (xs := #[.tmp 52, .tmp 55]) rfl ?_); at_builtin; refine Kd.R_append_rows (Kd.int .u32) (w0 := w) w.heap.size rfl (.tmp 52) (.tmp 55) 29 25 (.int .u32 0) 4 rfl Try.underlying29 info25 rfl (by decide) (by omega) v166 y165 y168 _ _ _ (fun k_ => some k_ ≠ (.slice Ao7 x3_1.length co7 : Value).ownBlock) (fun _ => False) rfl rfl ?aO ?aR (fun _ _ h => h) (fun _ h => h.elim) ?aF ?aB ?aS ?aL ?_; (case aR => repeat (first | exact (by repeat (first | (with_reducible exact HR171.out) | (with_reducible refine Kd.C_alloc ?_ _) | (with_reducible refine Kd.C_drewN ?_ _) | (with_reducible refine Kd.C_drew ?_) | exact HR171.out)) | (with_reducible refine Kd.C_alloc ?_ _) | (with_reducible refine Kd.C_drewN ?_ _) | (with_reducible refine Kd.C_drew ?_))); (case aB => exact (bl HB)); (case aF => exact (fun k_ hk => Kd.fresh' (Kd.R_lt (rad HO_3.out)) k_ hk)); (case aO => exact (rad HO167.out)); (case aS => exact (below_size (bl HB))); (case aL => have := LMc27.out; omega); intro v173 w30 ho hb hg hat; rw [← Ny172.out] at ho; have n0_ := Aside0.mk (Kd.R_after (ok := (fun _ => True)) (rad HO_3.out) hg hat); have n1_ := Aside0.mk (hb); have n2_ := Aside0.mk ((show Kd.C (Kd.int .u32) w30 A29 y168.length y168 from by rw [Ny168.out, KA29.out]; exact Kd.C_drop (m := (x7_2 : Int).toNat) (c := co7) ((Kd.R_reads' (Kd.R_after (ok := (fun _ => True)) (rad HO_3.out) hg hat)).2.2) KL29.out ((Kd.R_reads' (Kd.R_after (ok := (fun _ => True)) (rad HO_3.out) hg hat)).2.1))); have n3_ := Aside0.mk (ho); clear HO_3; clear HB; clear HR171; clear HO167; have HO_3 := n0_; have HB := n1_; have HR171 := n2_; have HO174 := n3_; clear n0_ n1_ n2_ n3_; clear ho hb hg hat)))
                              go_roundg k2
                              case measure => have := HK1.out; have := HK2.out; omega
                              case rel => exact ⟨(y172), (wrap64 (x4_1 + 1)), (fr), H', ⟨by have := HK1.out; have := HK2.out; omega⟩, ⟨by refine rad ?_; exact Kd.R_mono HO174.out (fun _ hk => trivial)⟩, ⟨bl HB⟩⟩
                            · rw [if_neg c27] at H
                              exact absurd H (by simp)
                          · rw [if_neg c26] at H
                            exact absurd H (by simp)
                        · rw [if_neg c25] at H
                          exact absurd H (by simp)
                      · rw [if_neg c24] at H
                        exact absurd H (by simp)
                    · rw [if_neg c23] at H
                      exact absurd H (by simp)
                  · rw [if_neg c22] at H
                    exact absurd H (by simp)
        · rw [if_neg c3] at H
          exact absurd H (by simp)
      · rw [if_neg c2] at H
        have c2b0 : decide (x4_1 < (l0.length : Int)) = false := decide_eq_false c2
        clear c2
        obtain rfl := Option.some.inj H
        go_wp2
        repeat (go_quiet (fail); try go_wp2)
        go_ret
        exact ⟨_, by first | rfl | (simp [errW_none, errW_some] <;> rfl) | (simp [*, errW_none, errW_some] <;> rfl), rad HO_3.out, bl HB⟩

/-! ### stolonref06_Union: function 47 -/
def stolonref06_Union.f (k : Nat) (l0 : List Int) (l1 : List Int) : Option (List Int) := (some (([] : List Int) : List Int)).bind fun y175 => (if y175.length + l0.length < 35184372088832 then ((some (y175 ++ l0 : List Int)).bind fun y178 => (if y178.length + l1.length < 35184372088832 then ((stolonref06_Make.f k (y178 ++ l1)).bind fun t184 => (some t184)) else (none))) else (none))
theorem stolonref06_Union.mono : ∀ a0 a1 k, LeO (stolonref06_Union.f k a0 a1) (stolonref06_Union.f (k + 1) a0 a1) := by
  intro a0 a1 k
  unfold stolonref06_Union.f
  repeat' first
      | (with_reducible exact stolonref06_Make.mono _ _)
      | (with_reducible exact LeO.refl _)
      | (with_reducible exact LeO.none _)
      | (with_reducible refine LeO.ite ?_ ?_)
      | (with_reducible refine LeO.bind ?_ (fun _ => ?_))
      | exact stolonref06_Make.mono _ _
      | exact LeO.none _
      | refine LeO.ite ?_ ?_
      | refine LeO.bind ?_ (fun _ => ?_)
theorem stolonref06_Union.calls (k : Nat) (A0 : Option Addr) (c0 : Nat) (l0 : List Int) (A1 : Option Addr) (c1 : Nat) (l1 : List Int) (r : List Int) (w : World) (hr0 : Kd.C (Kd.int .u32) w A0 l0.length l0) (hc0 : l0.length ≤ c0) (hr1 : Kd.C (Kd.int .u32) w A1 l1.length l1) (hc1 : l1.length ≤ c1) (h : stolonref06_Union.f k l0 l1 = some r) :
    Calls Try.prog 47 #[.slice A0 l0.length c0, .slice A1 l1.length c1] w fun e w' => ∃ v0_ : Value, e = .returned (v0_) ∧ Kd.R (Kd.int .u32) 25 w' w.heap.size (fun _ => True) v0_ r ∧ Below w.heap.size w w' := by
  have HR0 := Aside0.mk hr0
  have HC0 := Aside0.mk hc0
  clear hr0 hc0
  have HR1 := Aside0.mk hr1
  have HC1 := Aside0.mk hc1
  clear hr1 hc1
  have HB := Aside0.mk (Below.refl w.heap.size w)
  have H : ((some (([] : List Int) : List Int)).bind fun y175 => (if y175.length + l0.length < 35184372088832 then ((some (y175 ++ l0 : List Int)).bind fun y178 => (if y178.length + l1.length < 35184372088832 then ((stolonref06_Make.f k (y178 ++ l1)).bind fun t184 => (some t184)) else (none))) else (none))) = some r := h
  clear h
  obtain ⟨y175, hy175⟩ : ∃ y_ : List Int, y_ = (([] : List Int)) := ⟨_, rfl⟩
  replace H : (if y175.length + l0.length < 35184372088832 then ((some (y175 ++ l0 : List Int)).bind fun y178 => (if y178.length + l1.length < 35184372088832 then ((stolonref06_Make.f k (y178 ++ l1)).bind fun t184 => (some t184)) else (none))) else (none)) = some r := by first | (rw [hy175]; with_reducible exact H) | (have H2_ := (Option.bind_some _ _).symm.trans H; rw [hy175]; with_reducible exact H2_) | (have H2_ := (Option.bind_some _ _).symm.trans H; with_reducible exact H2_) | with_reducible exact H | (rw [hy175]; exact H) | exact H
  have Ny175 := Aside0.mk hy175
  clear hy175
  by_cases c3 : y175.length + l0.length < 35184372088832
  · rw [if_pos c3] at H
    have LMc3 := Aside0.mk c3
    clear c3
    obtain ⟨y178, hy178⟩ : ∃ y_ : List Int, y_ = (y175 ++ l0) := ⟨_, rfl⟩
    replace H : (if y178.length + l1.length < 35184372088832 then ((stolonref06_Make.f k (y178 ++ l1)).bind fun t184 => (some t184)) else (none)) = some r := by first | (rw [hy178]; with_reducible exact H) | (have H2_ := (Option.bind_some _ _).symm.trans H; rw [hy178]; with_reducible exact H2_) | (have H2_ := (Option.bind_some _ _).symm.trans H; with_reducible exact H2_) | with_reducible exact H | (rw [hy178]; exact H) | exact H
    have Ny178 := Aside0.mk hy178
    clear hy178
    by_cases c4 : y178.length + l1.length < 35184372088832
    · rw [if_pos c4] at H
      have LMc4 := Aside0.mk c4
      clear c4
      obtain ⟨y181, hy181⟩ : ∃ y_ : List Int, y_ = (y178 ++ l1) := ⟨_, rfl⟩
      replace H : ((stolonref06_Make.f k y181).bind fun t184 => (some t184)) = some r := by first | (rw [hy181]; with_reducible exact H) | (have H2_ := (Option.bind_some _ _).symm.trans H; rw [hy181]; with_reducible exact H2_) | (have H2_ := (Option.bind_some _ _).symm.trans H; with_reducible exact H2_) | with_reducible exact H | (rw [hy181]; exact H) | exact H
      have Ny181 := Aside0.mk hy181
      clear hy181
      replace H := Option.bind_eq_some_iff.mp H
      obtain ⟨t184, A50, H⟩ := H
      replace H : (some t184) = some r := H
      have A5 := Aside0.mk A50
      clear A50
      obtain rfl := Option.some.inj H
      go_enter Try.func47, Try.ntmps47
      go_wp2_with (first | ((with_reducible refine gate_dst (N := 5) rfl ?_); refine Kd.R_lit (Kd.int .u32) _ 25 ?hg (N := 5) ?hd (xs := ([] : List Int)) (inner := []) (ok := fun _ => True) (okp := fun _ => True) ?hr ?hp (fun _ hk => hk) trivial (Below.refl _ _) (Nat.le_refl _) (by simp) ?_; (case hd => rfl); (case hg => rfl); (case hr => first | (go_simp; done) | (go_simp; rfl)); (case hp => exact (Reps.none _ _)); intro v176 w6 ho7 hb hg_ hnew_; clear hg_ hnew_; (first | rw [← Ny175.out] at ho7 | (simp only [Int.reduceToNat] at ho7; rw [← Ny175.out] at ho7)); have HO177 := Aside0.mk (Kd.R_lower ho7 (below_size (bl HB))); replace HB := Aside0.mk (below_step (bl HB) hb); clear hb ho7) | ((with_reducible refine gate_builtin (b := .append) (xs := #[.tmp 5, .tmp 6]) rfl ?_); at_builtin; refine Kd.R_append_rows (Kd.int .u32) (w0 := w) w.heap.size rfl (.tmp 5) (.tmp 6) 29 25 (.int .u32 0) 4 rfl Try.underlying29 info25 rfl (by decide) (by omega) v176 y175 l0 _ _ _ (fun _ => True) (fun _ => False) rfl rfl ?aO ?aR (fun _ _ h => h) (fun _ h => h.elim) ?aF ?aB ?aS ?aL ?_; (case aR => repeat (first | exact (Kd.C_below HR0.out HB.out) | (with_reducible refine Kd.C_alloc ?_ _) | (with_reducible refine Kd.C_drewN ?_ _) | (with_reducible refine Kd.C_drew ?_))); (case aB => exact (bl HB)); (case aF => exact (fun _ _ => trivial)); (case aO => exact (rad HO177.out)); (case aS => exact (below_size (bl HB))); (case aL => have := LMc3.out; omega); intro v179 w8 ho hb hg hat; rw [← Ny178.out] at ho; have n0_ := Aside0.mk (hb); have n1_ := Aside0.mk (ho); clear HB; clear HO177; have HB := n0_; have HO180 := n1_; clear n0_ n1_; clear ho hb hg hat) | ((with_reducible refine gate_builtin (b := .append) (xs := #[.tmp 7, .tmp 8]) rfl ?_); at_builtin; refine Kd.R_append_rows (Kd.int .u32) (w0 := w) w.heap.size rfl (.tmp 7) (.tmp 8) 29 25 (.int .u32 0) 4 rfl Try.underlying29 info25 rfl (by decide) (by omega) v179 y178 l1 _ _ _ (fun _ => True) (fun _ => False) rfl rfl ?aO ?aR (fun _ _ h => h) (fun _ h => h.elim) ?aF ?aB ?aS ?aL ?_; (case aR => repeat (first | exact (Kd.C_below HR1.out HB.out) | (with_reducible refine Kd.C_alloc ?_ _) | (with_reducible refine Kd.C_drewN ?_ _) | (with_reducible refine Kd.C_drew ?_))); (case aB => exact (bl HB)); (case aF => exact (fun _ _ => trivial)); (case aO => exact (rad HO180.out)); (case aS => exact (below_size (bl HB))); (case aL => have := LMc4.out; omega); intro v182 w9 ho hb hg hat; rw [← Ny181.out] at ho; have n0_ := Aside0.mk (hb); have n1_ := Aside0.mk (ho); clear HB; clear HO180; have HB := n0_; have HO183 := n1_; clear n0_ n1_; clear ho hb hg hat; obtain ⟨Ao10, co10, eo10⟩ := Kd.R_slice HO183.out; subst eo10) | ((with_reducible refine gate_callee (f := 30) rfl ?_); refine goesL_ (some 10) rfl rfl Try.func30 (by kernel_rfl) rfl #[.slice Ao10 y181.length co10] rfl (by (try simp only [List.map_toArray, List.map_cons, List.map_nil]); first | done | rfl | (simp only [List.length_drop, List.length_take]; rfl)) ?_; (with_reducible refine (stolonref06_Make.calls k _ _ y181 t184 _ ?side1 ?side2 A5.out).mono ?_); (case side1 => exact ca (Kd.R_reads' HO183.out).2.2); (case side2 => exact (Kd.R_reads' HO183.out).2.1); rintro e w11 ⟨v185, rfl, ho0, hb⟩; refine ⟨_, rfl, ?_⟩; have n0_ := Aside0.mk (Kd.R_elder' (rad HO183.out) (Kd.R_base ho0) hb); have n1_ := Aside0.mk (Kd.R_lower (Kd.R_new' ho0 (Kd.R_lt (rad HO183.out))) (below_size (bl HB))); have n2_ := Aside0.mk (below_step (bl HB) hb); clear HO183; clear HB; have HO183 := n0_; have HO186 := n1_; have HB := n2_; clear n0_ n1_ n2_; (try clear hb); (try clear hb2); (try clear hk); (try clear hi); (try clear ho0)))
      go_ret
      exact ⟨_, by first | rfl | (simp [errW_none, errW_some] <;> rfl) | (simp [*, errW_none, errW_some] <;> rfl), by refine rad ?_; exact Kd.R_mono HO186.out (fun _ hk => trivial), bl HB⟩
    · rw [if_neg c4] at H
      exact absurd H (by simp)
  · rw [if_neg c3] at H
    exact absurd H (by simp)

/-! ### stolonref06_Inter: function 50 -/
def stolonref06_Inter.l0 : Nat → List Int → List Int → List Int → Int → Option (List Int)
  | 0, _, _, _, _ => none
  | k + 1, x0, x1, x5, x6 => if x6 < (x0.length : Int) then (if 0 ≤ x6 then ((stolonref06_Has.f k x1 (rd x0 x6)).bind fun t188 => (if t188 = true then (if x5.length < 35184372088832 then (stolonref06_Inter.l0 k x0 x1 (x5 ++ [rd x0 x6]) (wrap64 (x6 + 1))) else (none)) else (stolonref06_Inter.l0 k x0 x1 x5 (wrap64 (x6 + 1))))) else (none)) else (some x5)
def stolonref06_Inter.f (k : Nat) (l0 : List Int) (l1 : List Int) : Option (List Int) := stolonref06_Inter.l0 k l0 l1 ([] : List Int) 0
theorem stolonref06_Inter.mono_l : ∀ k, (∀ y0 y1 y2 y3, LeO (stolonref06_Inter.l0 k y0 y1 y2 y3) (stolonref06_Inter.l0 (k + 1) y0 y1 y2 y3))
  | 0 => fun _ _ _ _ r h => by simp [stolonref06_Inter.l0] at h
  | k + 1 => by
    have ih0 := stolonref06_Inter.mono_l k
    · intro y0 y1 y2 y3
      unfold stolonref06_Inter.l0
      repeat' first
      | (with_reducible exact ih0 _ _ _ _)
      | (with_reducible exact stolonref06_Has.mono _ _ _)
      | (with_reducible exact LeO.refl _)
      | (with_reducible exact LeO.none _)
      | (with_reducible refine LeO.ite ?_ ?_)
      | (with_reducible refine LeO.bind ?_ (fun _ => ?_))
      | exact ih0 _ _ _ _
      | exact stolonref06_Has.mono _ _ _
      | exact LeO.none _
      | refine LeO.ite ?_ ?_
      | refine LeO.bind ?_ (fun _ => ?_)
theorem stolonref06_Inter.mono : ∀ a0 a1 k, LeO (stolonref06_Inter.f k a0 a1) (stolonref06_Inter.f (k + 1) a0 a1) := by
  intro a0 a1 k
  have ih0 := stolonref06_Inter.mono_l k
  unfold stolonref06_Inter.f
  repeat' first
      | (with_reducible exact ih0 _ _ _ _)
      | (with_reducible exact stolonref06_Has.mono _ _ _)
      | (with_reducible exact LeO.refl _)
      | (with_reducible exact LeO.none _)
      | (with_reducible refine LeO.ite ?_ ?_)
      | (with_reducible refine LeO.bind ?_ (fun _ => ?_))
      | exact ih0 _ _ _ _
      | exact stolonref06_Has.mono _ _ _
      | exact LeO.none _
      | refine LeO.ite ?_ ?_
      | refine LeO.bind ?_ (fun _ => ?_)
theorem stolonref06_Inter.calls (k : Nat) (A0 : Option Addr) (c0 : Nat) (l0 : List Int) (A1 : Option Addr) (c1 : Nat) (l1 : List Int) (r : List Int) (w : World) (hr0 : Kd.C (Kd.int .u32) w A0 l0.length l0) (hc0 : l0.length ≤ c0) (hr1 : Kd.C (Kd.int .u32) w A1 l1.length l1) (hc1 : l1.length ≤ c1) (h : stolonref06_Inter.f k l0 l1 = some r) :
    Calls Try.prog 50 #[.slice A0 l0.length c0, .slice A1 l1.length c1] w fun e w' => ∃ v0_ : Value, e = .returned (v0_) ∧ Kd.R (Kd.int .u32) 25 w' w.heap.size (fun _ => True) v0_ r ∧ Below w.heap.size w w' := by
  have HR0 := Aside0.mk hr0
  have HC0 := Aside0.mk hc0
  clear hr0 hc0
  have HR1 := Aside0.mk hr1
  have HC1 := Aside0.mk hc1
  clear hr1 hc1
  have HB := Aside0.mk (Below.refl w.heap.size w)
  have H : (stolonref06_Inter.l0 k l0 l1 ([] : List Int) 0) = some r := h
  clear h
  have H' := Aside0.mk H
  clear H
  go_enter Try.func50, Try.ntmps50
  go_wp2
  go_loopg [5, 6] k (fun kq v5 v6 w' => ∃ (x5_1 : List Int) (x6_1 : Int), v6 = .int .i64 x6_1 ∧ Aside0 (stolonref06_Inter.l0 kq l0 l1 x5_1 x6_1 = some r) ∧ Aside0 (kq ≤ k) ∧ Aside0 (Kd.R (Kd.int .u32) 25 w' w.heap.size (fun _ => True) v5 x5_1) ∧ Aside0 (Below w.heap.size w w'))
  case atStart => exact ⟨(([] : List Int)), (0), (fr), H', ⟨Nat.le_refl _⟩, ⟨nl⟩, ⟨bl HB⟩⟩
  case round =>
    clear H'
    try clear c1
    try clear p2
    obtain ⟨x5_1, x6_1, rfl, HA, HK1, HO_5, HB⟩ := hrel
    cases gk with
    | zero => exact absurd HA.out (by simp [stolonref06_Inter.l0])
    | succ k1 =>
      have H := HA.out
      clear HA
      simp only [stolonref06_Inter.l0] at H
      by_cases c3 : x6_1 < (l0.length : Int)
      · rw [if_pos c3] at H
        have c3b0 : decide (x6_1 < (l0.length : Int)) = true := decide_eq_true c3
        clear c3
        by_cases c4 : 0 ≤ x6_1
        · rw [if_pos c4] at H
          have c4b0 : decide (0 ≤ x6_1) = true := decide_eq_true c4
          clear c4
          replace H := Option.bind_eq_some_iff.mp H
          obtain ⟨t188, A50, H⟩ := H
          replace H : (if t188 = true then (if x5_1.length < 35184372088832 then (stolonref06_Inter.l0 k1 l0 l1 (x5_1 ++ [rd l0 x6_1]) (wrap64 (x6_1 + 1))) else (none)) else (stolonref06_Inter.l0 k1 l0 l1 x5_1 (wrap64 (x6_1 + 1)))) = some r := H
          have A5 := Aside0.mk A50
          clear A50
          by_cases c6 : t188 = true
          · subst c6
            replace H : (if x5_1.length < 35184372088832 then (stolonref06_Inter.l0 k1 l0 l1 (x5_1 ++ [rd l0 x6_1]) (wrap64 (x6_1 + 1))) else (none)) = some r := by rw [if_pos rfl] at H; exact H
            by_cases c7 : x5_1.length < 35184372088832
            · rw [if_pos c7] at H
              have LMc7 := Aside0.mk c7
              clear c7
              obtain ⟨y190, hy190⟩ : ∃ y_ : List Int, y_ = (x5_1 ++ [rd l0 x6_1]) := ⟨_, rfl⟩
              replace H : (stolonref06_Inter.l0 k1 l0 l1 y190 (wrap64 (x6_1 + 1))) = some r := by first | (rw [hy190]; with_reducible exact H) | (have H2_ := (Option.bind_some _ _).symm.trans H; rw [hy190]; with_reducible exact H2_) | (have H2_ := (Option.bind_some _ _).symm.trans H; with_reducible exact H2_) | with_reducible exact H | (rw [hy190]; exact H) | exact H
              have Ny190 := Aside0.mk hy190
              clear hy190
              have H' := Aside0.mk H
              clear H
              have p187 : 0 ≤ (x6_1 : Int) := od
              have q187 : x6_1 < (l0.length : Int) := od
              obtain ⟨ad187, e187, hx187_0⟩ := Kd.at_int HR0.out x6_1 p187 q187
              cases e187
              replace hx187_0 := hcz HB hx187_0
              replace p187 := eq_true p187
              replace q187 := eq_true q187
              go_wp2_with (first | ((with_reducible refine gate_callee (f := 18) rfl ?_); refine goesL_ (some 19) rfl rfl Try.func18 (by kernel_rfl) rfl #[.slice A1 l1.length c1, .int .u32 (rd l0 x6_1)] rfl (by (try simp only [List.map_toArray, List.map_cons, List.map_nil]); first | done | rfl | (simp only [List.length_drop, List.length_take]; rfl)) ?_; (with_reducible refine (stolonref06_Has.calls k1 _ _ l1 (rd l0 x6_1) true _ ?side1 ?side2 A5.out).mono ?_); (case side1 => exact ca (Kd.C_below HR1.out HB.out)); (case side2 => exact HC1.out); rintro e w' ⟨rfl, ⟨nd, rfl⟩⟩; refine ⟨_, rfl, ?_⟩; have p189 : 0 ≤ (x6_1 : Int) := od; have q189 : x6_1 < (l0.length : Int) := od; obtain ⟨ad189, e189, hx189_0⟩ := Kd.at_int HR0.out x6_1 p189 q189; obtain rfl : ad187 = ad189 := (by injection e189); replace hx189_0 := hcz HB hx189_0; replace p189 := eq_true p189; replace q189 := eq_true q189) | ((with_reducible refine gate_builtin (b := .append) (xs := #[.tmp 21, .tmp 26]) rfl ?_); at_builtin; refine Kd.R_append (Kd.int .u32) (w0 := w) w.heap.size rfl (.tmp 21) (.tmp 26) 29 25 (.int .u32 0) 4 rfl Try.underlying29 info25 rfl (by decide) (by omega) u5 x5_1 (rd l0 x6_1) [.int .u32 (rd l0 x6_1)] (fun _ => True) (fun _ => False) rfl rfl ?aP (fun _ hk => hk.elim) ?aF ?aO ?aB ?aS ?aL ?_; (case aP => exact rfl); (case aB => exact (bl HB)); (case aF => exact (fun _ _ => trivial)); (case aO => exact (rad HO_5.out)); (case aS => exact (below_size (bl HB))); (case aL => have := LMc7.out; omega); intro v191 w8 ho hb hg hat; rw [← Ny190.out] at ho; have n0_ := Aside0.mk (hb); have n1_ := Aside0.mk (ho); clear HB; clear HO_5; have HB := n0_; have HO192 := n1_; clear n0_ n1_; clear ho hb hg hat))
              go_roundg k1
              case measure => have := HK1.out; omega
              case rel => exact ⟨(y190), (wrap64 (x6_1 + 1)), (fr), H', ⟨by have := HK1.out; omega⟩, ⟨rad HO192.out⟩, ⟨bl HB⟩⟩
            · rw [if_neg c7] at H
              exact absurd H (by simp)
          · replace c6 := Bool.eq_false_iff.mpr c6
            subst c6
            replace H : (stolonref06_Inter.l0 k1 l0 l1 x5_1 (wrap64 (x6_1 + 1))) = some r := by rw [if_neg (show ¬ (false = true) by decide)] at H; exact H
            have H' := Aside0.mk H
            clear H
            have p187 : 0 ≤ (x6_1 : Int) := od
            have q187 : x6_1 < (l0.length : Int) := od
            obtain ⟨ad187, e187, hx187_0⟩ := Kd.at_int HR0.out x6_1 p187 q187
            cases e187
            replace hx187_0 := hcz HB hx187_0
            replace p187 := eq_true p187
            replace q187 := eq_true q187
            go_wp2_with (first | ((with_reducible refine gate_callee (f := 18) rfl ?_); refine goesL_ (some 19) rfl rfl Try.func18 (by kernel_rfl) rfl #[.slice A1 l1.length c1, .int .u32 (rd l0 x6_1)] rfl (by (try simp only [List.map_toArray, List.map_cons, List.map_nil]); first | done | rfl | (simp only [List.length_drop, List.length_take]; rfl)) ?_; (with_reducible refine (stolonref06_Has.calls k1 _ _ l1 (rd l0 x6_1) false _ ?side1 ?side2 A5.out).mono ?_); (case side1 => exact ca (Kd.C_below HR1.out HB.out)); (case side2 => exact HC1.out); rintro e w' ⟨rfl, ⟨nd, rfl⟩⟩; refine ⟨_, rfl, ?_⟩))
            go_roundg k1
            case measure => have := HK1.out; omega
            case rel => exact ⟨(x5_1), (wrap64 (x6_1 + 1)), (fr), H', ⟨by have := HK1.out; omega⟩, ⟨rad HO_5.out⟩, ⟨bl HB⟩⟩
        · rw [if_neg c4] at H
          exact absurd H (by simp)
      · rw [if_neg c3] at H
        have c3b0 : decide (x6_1 < (l0.length : Int)) = false := decide_eq_false c3
        clear c3
        obtain rfl := Option.some.inj H
        go_wp2
        go_ret
        exact ⟨_, by first | rfl | (simp [errW_none, errW_some] <;> rfl) | (simp [*, errW_none, errW_some] <;> rfl), rad HO_5.out, bl HB⟩

/-! ### stolonref06_Minus: function 51 -/
def stolonref06_Minus.l0 : Nat → List Int → List Int → List Int → Int → Option (List Int)
  | 0, _, _, _, _ => none
  | k + 1, x0, x1, x5, x6 => if x6 < (x0.length : Int) then (if 0 ≤ x6 then ((stolonref06_Has.f k x1 (rd x0 x6)).bind fun t194 => (if t194 = true then (stolonref06_Minus.l0 k x0 x1 x5 (wrap64 (x6 + 1))) else (if x5.length < 35184372088832 then (stolonref06_Minus.l0 k x0 x1 (x5 ++ [rd x0 x6]) (wrap64 (x6 + 1))) else (none)))) else (none)) else (some x5)
def stolonref06_Minus.f (k : Nat) (l0 : List Int) (l1 : List Int) : Option (List Int) := stolonref06_Minus.l0 k l0 l1 ([] : List Int) 0
theorem stolonref06_Minus.mono_l : ∀ k, (∀ y0 y1 y2 y3, LeO (stolonref06_Minus.l0 k y0 y1 y2 y3) (stolonref06_Minus.l0 (k + 1) y0 y1 y2 y3))
  | 0 => fun _ _ _ _ r h => by simp [stolonref06_Minus.l0] at h
  | k + 1 => by
    have ih0 := stolonref06_Minus.mono_l k
    · intro y0 y1 y2 y3
      unfold stolonref06_Minus.l0
      repeat' first
      | (with_reducible exact ih0 _ _ _ _)
      | (with_reducible exact stolonref06_Has.mono _ _ _)
      | (with_reducible exact LeO.refl _)
      | (with_reducible exact LeO.none _)
      | (with_reducible refine LeO.ite ?_ ?_)
      | (with_reducible refine LeO.bind ?_ (fun _ => ?_))
      | exact ih0 _ _ _ _
      | exact stolonref06_Has.mono _ _ _
      | exact LeO.none _
      | refine LeO.ite ?_ ?_
      | refine LeO.bind ?_ (fun _ => ?_)
theorem stolonref06_Minus.mono : ∀ a0 a1 k, LeO (stolonref06_Minus.f k a0 a1) (stolonref06_Minus.f (k + 1) a0 a1) := by
  intro a0 a1 k
  have ih0 := stolonref06_Minus.mono_l k
  unfold stolonref06_Minus.f
  repeat' first
      | (with_reducible exact ih0 _ _ _ _)
      | (with_reducible exact stolonref06_Has.mono _ _ _)
      | (with_reducible exact LeO.refl _)
      | (with_reducible exact LeO.none _)
      | (with_reducible refine LeO.ite ?_ ?_)
      | (with_reducible refine LeO.bind ?_ (fun _ => ?_))
      | exact ih0 _ _ _ _
      | exact stolonref06_Has.mono _ _ _
      | exact LeO.none _
      | refine LeO.ite ?_ ?_
      | refine LeO.bind ?_ (fun _ => ?_)
theorem stolonref06_Minus.calls (k : Nat) (A0 : Option Addr) (c0 : Nat) (l0 : List Int) (A1 : Option Addr) (c1 : Nat) (l1 : List Int) (r : List Int) (w : World) (hr0 : Kd.C (Kd.int .u32) w A0 l0.length l0) (hc0 : l0.length ≤ c0) (hr1 : Kd.C (Kd.int .u32) w A1 l1.length l1) (hc1 : l1.length ≤ c1) (h : stolonref06_Minus.f k l0 l1 = some r) :
    Calls Try.prog 51 #[.slice A0 l0.length c0, .slice A1 l1.length c1] w fun e w' => ∃ v0_ : Value, e = .returned (v0_) ∧ Kd.R (Kd.int .u32) 25 w' w.heap.size (fun _ => True) v0_ r ∧ Below w.heap.size w w' := by
  have HR0 := Aside0.mk hr0
  have HC0 := Aside0.mk hc0
  clear hr0 hc0
  have HR1 := Aside0.mk hr1
  have HC1 := Aside0.mk hc1
  clear hr1 hc1
  have HB := Aside0.mk (Below.refl w.heap.size w)
  have H : (stolonref06_Minus.l0 k l0 l1 ([] : List Int) 0) = some r := h
  clear h
  have H' := Aside0.mk H
  clear H
  go_enter Try.func51, Try.ntmps51
  go_wp2
  go_loopg [5, 6] k (fun kq v5 v6 w' => ∃ (x5_1 : List Int) (x6_1 : Int), v6 = .int .i64 x6_1 ∧ Aside0 (stolonref06_Minus.l0 kq l0 l1 x5_1 x6_1 = some r) ∧ Aside0 (kq ≤ k) ∧ Aside0 (Kd.R (Kd.int .u32) 25 w' w.heap.size (fun _ => True) v5 x5_1) ∧ Aside0 (Below w.heap.size w w'))
  case atStart => exact ⟨(([] : List Int)), (0), (fr), H', ⟨Nat.le_refl _⟩, ⟨nl⟩, ⟨bl HB⟩⟩
  case round =>
    clear H'
    try clear c1
    try clear p2
    obtain ⟨x5_1, x6_1, rfl, HA, HK1, HO_5, HB⟩ := hrel
    cases gk with
    | zero => exact absurd HA.out (by simp [stolonref06_Minus.l0])
    | succ k1 =>
      have H := HA.out
      clear HA
      simp only [stolonref06_Minus.l0] at H
      by_cases c3 : x6_1 < (l0.length : Int)
      · rw [if_pos c3] at H
        have c3b0 : decide (x6_1 < (l0.length : Int)) = true := decide_eq_true c3
        clear c3
        by_cases c4 : 0 ≤ x6_1
        · rw [if_pos c4] at H
          have c4b0 : decide (0 ≤ x6_1) = true := decide_eq_true c4
          clear c4
          replace H := Option.bind_eq_some_iff.mp H
          obtain ⟨t194, A50, H⟩ := H
          replace H : (if t194 = true then (stolonref06_Minus.l0 k1 l0 l1 x5_1 (wrap64 (x6_1 + 1))) else (if x5_1.length < 35184372088832 then (stolonref06_Minus.l0 k1 l0 l1 (x5_1 ++ [rd l0 x6_1]) (wrap64 (x6_1 + 1))) else (none))) = some r := H
          have A5 := Aside0.mk A50
          clear A50
          by_cases c6 : t194 = true
          · subst c6
            replace H : (stolonref06_Minus.l0 k1 l0 l1 x5_1 (wrap64 (x6_1 + 1))) = some r := by rw [if_pos rfl] at H; exact H
            have H' := Aside0.mk H
            clear H
            have p193 : 0 ≤ (x6_1 : Int) := od
            have q193 : x6_1 < (l0.length : Int) := od
            obtain ⟨ad193, e193, hx193_0⟩ := Kd.at_int HR0.out x6_1 p193 q193
            cases e193
            replace hx193_0 := hcz HB hx193_0
            replace p193 := eq_true p193
            replace q193 := eq_true q193
            go_wp2_with (first | ((with_reducible refine gate_callee (f := 18) rfl ?_); refine goesL_ (some 19) rfl rfl Try.func18 (by kernel_rfl) rfl #[.slice A1 l1.length c1, .int .u32 (rd l0 x6_1)] rfl (by (try simp only [List.map_toArray, List.map_cons, List.map_nil]); first | done | rfl | (simp only [List.length_drop, List.length_take]; rfl)) ?_; (with_reducible refine (stolonref06_Has.calls k1 _ _ l1 (rd l0 x6_1) true _ ?side1 ?side2 A5.out).mono ?_); (case side1 => exact ca (Kd.C_below HR1.out HB.out)); (case side2 => exact HC1.out); rintro e w' ⟨rfl, ⟨nd, rfl⟩⟩; refine ⟨_, rfl, ?_⟩))
            go_roundg k1
            case measure => have := HK1.out; omega
            case rel => exact ⟨(x5_1), (wrap64 (x6_1 + 1)), (fr), H', ⟨by have := HK1.out; omega⟩, ⟨rad HO_5.out⟩, ⟨bl HB⟩⟩
          · replace c6 := Bool.eq_false_iff.mpr c6
            subst c6
            replace H : (if x5_1.length < 35184372088832 then (stolonref06_Minus.l0 k1 l0 l1 (x5_1 ++ [rd l0 x6_1]) (wrap64 (x6_1 + 1))) else (none)) = some r := by rw [if_neg (show ¬ (false = true) by decide)] at H; exact H
            by_cases c7 : x5_1.length < 35184372088832
            · rw [if_pos c7] at H
              have LMc7 := Aside0.mk c7
              clear c7
              obtain ⟨y196, hy196⟩ : ∃ y_ : List Int, y_ = (x5_1 ++ [rd l0 x6_1]) := ⟨_, rfl⟩
              replace H : (stolonref06_Minus.l0 k1 l0 l1 y196 (wrap64 (x6_1 + 1))) = some r := by first | (rw [hy196]; with_reducible exact H) | (have H2_ := (Option.bind_some _ _).symm.trans H; rw [hy196]; with_reducible exact H2_) | (have H2_ := (Option.bind_some _ _).symm.trans H; with_reducible exact H2_) | with_reducible exact H | (rw [hy196]; exact H) | exact H
              have Ny196 := Aside0.mk hy196
              clear hy196
              have H' := Aside0.mk H
              clear H
              have p193 : 0 ≤ (x6_1 : Int) := od
              have q193 : x6_1 < (l0.length : Int) := od
              obtain ⟨ad193, e193, hx193_0⟩ := Kd.at_int HR0.out x6_1 p193 q193
              cases e193
              replace hx193_0 := hcz HB hx193_0
              replace p193 := eq_true p193
              replace q193 := eq_true q193
              go_wp2_with (first | ((with_reducible refine gate_callee (f := 18) rfl ?_); refine goesL_ (some 19) rfl rfl Try.func18 (by kernel_rfl) rfl #[.slice A1 l1.length c1, .int .u32 (rd l0 x6_1)] rfl (by (try simp only [List.map_toArray, List.map_cons, List.map_nil]); first | done | rfl | (simp only [List.length_drop, List.length_take]; rfl)) ?_; (with_reducible refine (stolonref06_Has.calls k1 _ _ l1 (rd l0 x6_1) false _ ?side1 ?side2 A5.out).mono ?_); (case side1 => exact ca (Kd.C_below HR1.out HB.out)); (case side2 => exact HC1.out); rintro e w' ⟨rfl, ⟨nd, rfl⟩⟩; refine ⟨_, rfl, ?_⟩; have p195 : 0 ≤ (x6_1 : Int) := od; have q195 : x6_1 < (l0.length : Int) := od; obtain ⟨ad195, e195, hx195_0⟩ := Kd.at_int HR0.out x6_1 p195 q195; obtain rfl : ad193 = ad195 := (by injection e195); replace hx195_0 := hcz HB hx195_0; replace p195 := eq_true p195; replace q195 := eq_true q195) | ((with_reducible refine gate_builtin (b := .append) (xs := #[.tmp 22, .tmp 27]) rfl ?_); at_builtin; refine Kd.R_append (Kd.int .u32) (w0 := w) w.heap.size rfl (.tmp 22) (.tmp 27) 29 25 (.int .u32 0) 4 rfl Try.underlying29 info25 rfl (by decide) (by omega) u5 x5_1 (rd l0 x6_1) [.int .u32 (rd l0 x6_1)] (fun _ => True) (fun _ => False) rfl rfl ?aP (fun _ hk => hk.elim) ?aF ?aO ?aB ?aS ?aL ?_; (case aP => exact rfl); (case aB => exact (bl HB)); (case aF => exact (fun _ _ => trivial)); (case aO => exact (rad HO_5.out)); (case aS => exact (below_size (bl HB))); (case aL => have := LMc7.out; omega); intro v197 w8 ho hb hg hat; rw [← Ny196.out] at ho; have n0_ := Aside0.mk (hb); have n1_ := Aside0.mk (ho); clear HB; clear HO_5; have HB := n0_; have HO198 := n1_; clear n0_ n1_; clear ho hb hg hat))
              go_roundg k1
              case measure => have := HK1.out; omega
              case rel => exact ⟨(y196), (wrap64 (x6_1 + 1)), (fr), H', ⟨by have := HK1.out; omega⟩, ⟨rad HO198.out⟩, ⟨bl HB⟩⟩
            · rw [if_neg c7] at H
              exact absurd H (by simp)
        · rw [if_neg c4] at H
          exact absurd H (by simp)
      · rw [if_neg c3] at H
        have c3b0 : decide (x6_1 < (l0.length : Int)) = false := decide_eq_false c3
        clear c3
        obtain rfl := Option.some.inj H
        go_wp2
        go_ret
        exact ⟨_, by first | rfl | (simp [errW_none, errW_some] <;> rfl) | (simp [*, errW_none, errW_some] <;> rfl), rad HO_5.out, bl HB⟩

end Go.Proofs.Ytbllchfgjginoaa.PMe
