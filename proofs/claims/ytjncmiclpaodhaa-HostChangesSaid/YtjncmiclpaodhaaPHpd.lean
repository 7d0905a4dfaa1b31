-- written by a program of this session (hprint.py), over the kit's printer
import Derived.Test.YtjncmiclpaodhaaSoI
import Derived.Test.YtjncmiclpaodhaaPHoy1
namespace Go.Proofs.Ytjncmiclpaodhaa.PHo
set_option maxHeartbeats 8000000
set_option maxRecDepth 100000
open Go.RowKit Go.Proofs.YtjncmiclpaodhaaW.PrintWords Go.Proofs.YtjncmiclpaodhaaW.PrintLast Go.Proofs.YtjncmiclpaodhaaW.PrintMore
attribute [local go_sem] max2_int min2_int max_two min_two max_three min_three max_four min_four   -- for this text's walks alone
set_option linter.unusedVariables false
set_option linter.unusedSimpArgs false
/-! ### stolonref06_Minus: function 39 -/
def stolonref06_Minus.l0 : Nat → List Int → List Int → List Int → Int → Option (List Int)
  | 0, _, _, _, _ => none
  | k + 1, x0, x1, x5, x6 => if x6 < (x0.length : Int) then (if 0 ≤ x6 then ((stolonref06_Has.f k x1 (rd x0 x6)).bind fun t338 => (if t338 = true then (stolonref06_Minus.l0 k x0 x1 x5 (wrap64 (x6 + 1))) else (if x5.length < 35184372088832 then (stolonref06_Minus.l0 k x0 x1 (x5 ++ [rd x0 x6]) (wrap64 (x6 + 1))) else (none)))) else (none)) else (some x5)
def stolonref06_Minus.f (k : Nat) (l0 : List Int) (l1 : List Int) : Option (List Int) := stolonref06_Minus.l0 k l0 l1 ([] : List Int) 0
theorem stolonref06_Minus.mono_l : ∀ k, (∀ y0 y1 y2 y3, LeO (stolonref06_Minus.l0 k y0 y1 y2 y3) (stolonref06_Minus.l0 (k + 1) y0 y1 y2 y3))
  | 0 => fun _ _ _ _ r h => by simp [stolonref06_Minus.l0] at h
  | k + 1 => by
    have ih0 := stolonref06_Minus.mono_l k
    · intro y0 y1 y2 y3
      unfold stolonref06_Minus.l0
      repeat' first
      | (with_reducible exact ih0 _ _ _ _)
      | (with_reducible exact stolonref06_Has.mono _ _ _)
      | (with_reducible exact LeO.refl _)
      | (with_reducible exact LeO.none _)
      | (with_reducible refine LeO.ite ?_ ?_)
      | (with_reducible refine LeO.bind ?_ (fun _ => ?_))
      | exact ih0 _ _ _ _
      | exact stolonref06_Has.mono _ _ _
      | exact LeO.none _
      | refine LeO.ite ?_ ?_
      | refine LeO.bind ?_ (fun _ => ?_)
theorem stolonref06_Minus.mono : ∀ a0 a1 k, LeO (stolonref06_Minus.f k a0 a1) (stolonref06_Minus.f (k + 1) a0 a1) := by
  intro a0 a1 k
  have ih0 := stolonref06_Minus.mono_l k
  unfold stolonref06_Minus.f
  repeat' first
      | (with_reducible exact ih0 _ _ _ _)
      | (with_reducible exact stolonref06_Has.mono _ _ _)
      | (with_reducible exact LeO.refl _)
      | (with_reducible exact LeO.none _)
      | (with_reducible refine LeO.ite ?_ ?_)
      | (with_reducible refine LeO.bind ?_ (fun _ => ?_))
      | exact ih0 _ _ _ _
      | exact stolonref06_Has.mono _ _ _
      | exact LeO.none _
      | refine LeO.ite ?_ ?_
      | refine LeO.bind ?_ (fun _ => ?_)
theorem stolonref06_Minus.calls (k : Nat) (A0 : Option Addr) (c0 : Nat) (l0 : List Int) (A1 : Option Addr) (c1 : Nat) (l1 : List Int) (r : List Int) (w : World) (hr0 : Kd.C (Kd.int .u32) w A0 l0.length l0) (hc0 : l0.length ≤ c0) (hr1 : Kd.C (Kd.int .u32) w A1 l1.length l1) (hc1 : l1.length ≤ c1) (h : stolonref06_Minus.f k l0 l1 = some r) :
    Calls Try.prog 39 #[.slice A0 l0.length c0, .slice A1 l1.length c1] w fun e w' => ∃ v0_ : Value, e = .returned (v0_) ∧ Kd.R (Kd.int .u32) 23 w' w.heap.size (fun _ => True) v0_ r ∧ Below w.heap.size w w' := by
  have HR0 := Aside0.mk hr0
  have HC0 := Aside0.mk hc0
  clear hr0 hc0
  have HR1 := Aside0.mk hr1
  have HC1 := Aside0.mk hc1
  clear hr1 hc1
  have HB := Aside0.mk (Below.refl w.heap.size w)
  have H : (stolonref06_Minus.l0 k l0 l1 ([] : List Int) 0) = some r := h
  clear h
  have H' := Aside0.mk H
  clear H
  go_enter Try.func39, Try.ntmps39
  go_wp2
  go_loopg [5, 6] k (fun kq v5 v6 w' => ∃ (x5_1 : List Int) (x6_1 : Int), v6 = .int .i64 x6_1 ∧ Aside0 (stolonref06_Minus.l0 kq l0 l1 x5_1 x6_1 = some r) ∧ Aside0 (kq ≤ k) ∧ Aside0 (Kd.R (Kd.int .u32) 23 w' w.heap.size (fun _ => True) v5 x5_1) ∧ Aside0 (Below w.heap.size w w'))
  case atStart => exact ⟨(([] : List Int)), (0), (fr), H', ⟨Nat.le_refl _⟩, ⟨nl⟩, ⟨bl HB⟩⟩
  case round =>
    clear H'
    try clear c1
    try clear p2
    obtain ⟨x5_1, x6_1, rfl, HA, HK1, HO_5, HB⟩ := hrel
    cases gk with
    | zero => exact absurd HA.out (by simp [stolonref06_Minus.l0])
    | succ k1 =>
      have H := HA.out
      clear HA
      simp only [stolonref06_Minus.l0] at H
      by_cases c3 : x6_1 < (l0.length : Int)
      · rw [if_pos c3] at H
        have c3b0 : decide (x6_1 < (l0.length : Int)) = true := decide_eq_true c3
        clear c3
        by_cases c4 : 0 ≤ x6_1
        · rw [if_pos c4] at H
          have c4b0 : decide (0 ≤ x6_1) = true := decide_eq_true c4
          clear c4
          replace H := Option.bind_eq_some_iff.mp H
          obtain ⟨t338, A50, H⟩ := H
          replace H : (if t338 = true then (stolonref06_Minus.l0 k1 l0 l1 x5_1 (wrap64 (x6_1 + 1))) else (if x5_1.length < 35184372088832 then (stolonref06_Minus.l0 k1 l0 l1 (x5_1 ++ [rd l0 x6_1]) (wrap64 (x6_1 + 1))) else (none))) = some r := H
          have A5 := Aside0.mk A50
          clear A50
          by_cases c6 : t338 = true
          · subst c6
            replace H : (stolonref06_Minus.l0 k1 l0 l1 x5_1 (wrap64 (x6_1 + 1))) = some r := by rw [if_pos rfl] at H; exact H
            have H' := Aside0.mk H
            clear H
            have p337 : 0 ≤ (x6_1 : Int) := od
            have q337 : x6_1 < (l0.length : Int) := od
            obtain ⟨ad337, e337, hx337_0⟩ := Kd.at_int HR0.out x6_1 p337 q337
            cases e337
            replace hx337_0 := hcz HB hx337_0
            replace p337 := eq_true p337
            replace q337 := eq_true q337
            go_wp2_with (first | ((with_reducible refine gate_callee (f := 12) rfl ?_); refine goesL_ (some 19) rfl rfl Try.func12 (by kernel_rfl) rfl #[.slice A1 l1.length c1, .int .u32 (rd l0 x6_1)] rfl (by (try simp only [List.map_toArray, List.map_cons, List.map_nil]); first | done | rfl | (simp only [List.length_drop, List.length_take]; rfl)) ?_; (with_reducible refine (stolonref06_Has.calls k1 _ _ l1 (rd l0 x6_1) true _ ?side1 ?side2 A5.out).mono ?_); (case side1 => exact ca (Kd.C_below HR1.out HB.out)); (case side2 => exact HC1.out); rintro e w' ⟨rfl, ⟨nd, rfl⟩⟩; refine ⟨_, rfl, ?_⟩))
            go_roundg k1
            case measure => have := HK1.out; omega
            case rel => exact ⟨(x5_1), (wrap64 (x6_1 + 1)), (fr), H', ⟨by have := HK1.out; omega⟩, ⟨rad HO_5.out⟩, ⟨bl HB⟩⟩
          · replace c6 := Bool.eq_false_iff.mpr c6
            subst c6
            replace H : (if x5_1.length < 35184372088832 then (stolonref06_Minus.l0 k1 l0 l1 (x5_1 ++ [rd l0 x6_1]) (wrap64 (x6_1 + 1))) else (none)) = some r := by rw [if_neg (show ¬ (false = true) by decide)] at H; exact H
            by_cases c7 : x5_1.length < 35184372088832
            · rw [if_pos c7] at H
              have LMc7 := Aside0.mk c7
              clear c7
              obtain ⟨y340, hy340⟩ : ∃ y_ : List Int, y_ = (x5_1 ++ [rd l0 x6_1]) := ⟨_, rfl⟩
              replace H : (stolonref06_Minus.l0 k1 l0 l1 y340 (wrap64 (x6_1 + 1))) = some r := by first | (rw [hy340]; with_reducible exact H) | (have H2_ := (Option.bind_some _ _).symm.trans H; rw [hy340]; with_reducible exact H2_) | (have H2_ := (Option.bind_some _ _).symm.trans H; with_reducible exact H2_) | with_reducible exact H | (rw [hy340]; exact H) | exact H
              have Ny340 := Aside0.mk hy340
              clear hy340
              have H' := Aside0.mk H
              clear H
              have p337 : 0 ≤ (x6_1 : Int) := od
              have q337 : x6_1 < (l0.length : Int) := od
              obtain ⟨ad337, e337, hx337_0⟩ := Kd.at_int HR0.out x6_1 p337 q337
              cases e337
              replace hx337_0 := hcz HB hx337_0
              replace p337 := eq_true p337
              replace q337 := eq_true q337
              go_wp2_with (first | ((with_reducible refine gate_callee (f := 12) rfl ?_); refine goesL_ (some 19) rfl rfl Try.func12 (by kernel_rfl) rfl #[.slice A1 l1.length c1, .int .u32 (rd l0 x6_1)] rfl (by (try simp only [List.map_toArray, List.map_cons, List.map_nil]); first | done | rfl | (simp only [List.length_drop, List.length_take]; rfl)) ?_; (with_reducible refine (stolonref06_Has.calls k1 _ _ l1 (rd l0 x6_1) false _ ?side1 ?side2 A5.out).mono ?_); (case side1 => exact ca (Kd.C_below HR1.out HB.out)); (case side2 => exact HC1.out); rintro e w' ⟨rfl, ⟨nd, rfl⟩⟩; refine ⟨_, rfl, ?_⟩; have p339 : 0 ≤ (x6_1 : Int) := od; have q339 : x6_1 < (l0.length : Int) := od; obtain ⟨ad339, e339, hx339_0⟩ := Kd.at_int HR0.out x6_1 p339 q339; obtain rfl : ad337 = ad339 := (by injection e339); replace hx339_0 := hcz HB hx339_0; replace p339 := eq_true p339; replace q339 := eq_true q339) | ((with_reducible refine gate_builtin (b := .append) (xs := #[.tmp 22, .tmp 27]) rfl ?_); at_builtin; refine Kd.R_append (Kd.int .u32) (w0 := w) w.heap.size rfl (.tmp 22) (.tmp 27) 24 23 (.int .u32 0) 4 rfl Try.underlying24 info23 rfl (by decide) (by omega) u5 x5_1 (rd l0 x6_1) [.int .u32 (rd l0 x6_1)] (fun _ => True) (fun _ => False) rfl rfl ?aP (fun _ hk => hk.elim) ?aF ?aO ?aB ?aS ?aL ?_; (case aP => exact rfl); (case aB => exact (bl HB)); (case aF => exact (fun _ _ => trivial)); (case aO => exact (rad HO_5.out)); (case aS => exact (below_size (bl HB))); (case aL => have := LMc7.out; omega); intro v341 w8 ho hb hg hat; rw [← Ny340.out] at ho; have n0_ := Aside0.mk (hb); have n1_ := Aside0.mk (ho); clear HB; clear HO_5; have HB := n0_; have HO342 := n1_; clear n0_ n1_; clear ho hb hg hat))
              go_roundg k1
              case measure => have := HK1.out; omega
              case rel => exact ⟨(y340), (wrap64 (x6_1 + 1)), (fr), H', ⟨by have := HK1.out; omega⟩, ⟨rad HO342.out⟩, ⟨bl HB⟩⟩
            · rw [if_neg c7] at H
              exact absurd H (by simp)
        · rw [if_neg c4] at H
          exact absurd H (by simp)
      · rw [if_neg c3] at H
        have c3b0 : decide (x6_1 < (l0.length : Int)) = false := decide_eq_false c3
        clear c3
        obtain rfl := Option.some.inj H
        go_wp2
        go_ret
        exact ⟨_, by first | rfl | (simp [errW_none, errW_some] <;> rfl) | (simp [*, errW_none, errW_some] <;> rfl), rad HO_5.out, bl HB⟩
/-! ### stolonref06_Make: function 80 -/
mutual
def stolonref06_Make.l0 : Nat → List Int → List Int → Int → Option (List Int)
  | 0, _, _, _ => none
  | k + 1, x0, x3, x4 => if x4 < (x0.length : Int) then (if 0 ≤ x4 then ((stolonref06_Has.f k x3 (rd x0 x4)).bind fun t344 => (if t344 = true then (stolonref06_Make.l0 k x0 x3 (wrap64 (x4 + 1))) else (stolonref06_Make.l1 k x0 x3 x4 ([] : List Int) 0))) else (none)) else (some x3)
def stolonref06_Make.l1 : Nat → List Int → List Int → Int → List Int → Int → Option (List Int)
  | 0, _, _, _, _, _ => none
  | k + 1, x0, x3, x4, x6, x7 => if x7 < (x3.length : Int) then (if 0 ≤ x7 then (if 0 ≤ x4 then (if x4 < (x0.length : Int) then (if (rd x3 x7) < (rd x0 x4) then (if x6.length < 35184372088832 then (stolonref06_Make.l1 k x0 x3 x4 (x6 ++ [rd x3 x7]) (wrap64 (x7 + 1))) else (none)) else (if x6.length < 35184372088832 then ((some (x6 ++ [rd x0 x4] : List Int)).bind fun y352 => (if x7 ≤ (x3.length : Int) then ((some (x3.drop (x7 : Int).toNat : List Int)).bind fun y355 => (if y352.length + y355.length < 35184372088832 then (stolonref06_Make.l0 k x0 (y352 ++ y355) (wrap64 (x4 + 1))) else (none))) else (none))) else (none))) else (none)) else (none)) else (none)) else (if 0 ≤ x4 then (if x4 < (x0.length : Int) then (if x6.length < 35184372088832 then ((some (x6 ++ [rd x0 x4] : List Int)).bind fun y363 => (if 0 ≤ x7 then (if x7 ≤ (x3.length : Int) then ((some (x3.drop (x7 : Int).toNat : List Int)).bind fun y366 => (if y363.length + y366.length < 35184372088832 then (stolonref06_Make.l0 k x0 (y363 ++ y366) (wrap64 (x4 + 1))) else (none))) else (none)) else (none))) else (none)) else (none)) else (none))
end
def stolonref06_Make.f (k : Nat) (l0 : List Int) : Option (List Int) := stolonref06_Make.l0 k l0 ([] : List Int) 0
theorem stolonref06_Make.mono_l : ∀ k, (∀ y0 y1 y2, LeO (stolonref06_Make.l0 k y0 y1 y2) (stolonref06_Make.l0 (k + 1) y0 y1 y2)) ∧ (∀ y0 y1 y2 y3 y4, LeO (stolonref06_Make.l1 k y0 y1 y2 y3 y4) (stolonref06_Make.l1 (k + 1) y0 y1 y2 y3 y4))
  | 0 => ⟨fun _ _ _ r h => by simp [stolonref06_Make.l0] at h, fun _ _ _ _ _ r h => by simp [stolonref06_Make.l1] at h⟩
  | k + 1 => by
    obtain ⟨ih0, ih1⟩ := stolonref06_Make.mono_l k
    refine ⟨?_, ?_⟩
    · intro y0 y1 y2
      unfold stolonref06_Make.l0
      repeat' first
      | (with_reducible exact ih0 _ _ _)
      | (with_reducible exact ih1 _ _ _ _ _)
      | (with_reducible exact stolonref06_Has.mono _ _ _)
      | (with_reducible exact LeO.refl _)
      | (with_reducible exact LeO.none _)
      | (with_reducible refine LeO.ite ?_ ?_)
      | (with_reducible refine LeO.bind ?_ (fun _ => ?_))
      | exact ih0 _ _ _
      | exact ih1 _ _ _ _ _
      | exact stolonref06_Has.mono _ _ _
      | exact LeO.none _
      | refine LeO.ite ?_ ?_
      | refine LeO.bind ?_ (fun _ => ?_)
    · intro y0 y1 y2 y3 y4
      unfold stolonref06_Make.l1
      repeat' first
      | (with_reducible exact ih0 _ _ _)
      | (with_reducible exact ih1 _ _ _ _ _)
      | (with_reducible exact stolonref06_Has.mono _ _ _)
      | (with_reducible exact LeO.refl _)
      | (with_reducible exact LeO.none _)
      | (with_reducible refine LeO.ite ?_ ?_)
      | (with_reducible refine LeO.bind ?_ (fun _ => ?_))
      | exact ih0 _ _ _
      | exact ih1 _ _ _ _ _
      | exact stolonref06_Has.mono _ _ _
      | exact LeO.none _
      | refine LeO.ite ?_ ?_
      | refine LeO.bind ?_ (fun _ => ?_)
theorem stolonref06_Make.mono : ∀ a0 k, LeO (stolonref06_Make.f k a0) (stolonref06_Make.f (k + 1) a0) := by
  intro a0 k
  obtain ⟨ih0, ih1⟩ := stolonref06_Make.mono_l k
  unfold stolonref06_Make.f
  repeat' first
      | (with_reducible exact ih0 _ _ _)
      | (with_reducible exact ih1 _ _ _ _ _)
      | (with_reducible exact stolonref06_Has.mono _ _ _)
      | (with_reducible exact LeO.refl _)
      | (with_reducible exact LeO.none _)
      | (with_reducible refine LeO.ite ?_ ?_)
      | (with_reducible refine LeO.bind ?_ (fun _ => ?_))
      | exact ih0 _ _ _
      | exact ih1 _ _ _ _ _
      | exact stolonref06_Has.mono _ _ _
      | exact LeO.none _
      | refine LeO.ite ?_ ?_
      | refine LeO.bind ?_ (fun _ => ?_)
theorem stolonref06_Make.calls (k : Nat) (A0 : Option Addr) (c0 : Nat) (l0 : List Int) (r : List Int) (w : World) (hr0 : Kd.C (Kd.int .u32) w A0 l0.length l0) (hc0 : l0.length ≤ c0) (h : stolonref06_Make.f k l0 = some r) :
    Calls Try.prog 80 #[.slice A0 l0.length c0] w fun e w' => ∃ v0_ : Value, e = .returned (v0_) ∧ Kd.R (Kd.int .u32) 23 w' w.heap.size (fun _ => True) v0_ r ∧ Below w.heap.size w w' := by
  have HR0 := Aside0.mk hr0
  have HC0 := Aside0.mk hc0
  clear hr0 hc0
  have HB := Aside0.mk (Below.refl w.heap.size w)
  have H : (stolonref06_Make.l0 k l0 ([] : List Int) 0) = some r := h
  clear h
  have H' := Aside0.mk H
  clear H
  go_enter Try.func80, Try.ntmps80
  go_wp2
  repeat (go_quiet (fail); try go_wp2)
  go_loopg [3, 4] k (fun kq v3 v4 w' => ∃ (x3_1 : List Int) (x4_1 : Int), v4 = .int .i64 x4_1 ∧ Aside0 (stolonref06_Make.l0 kq l0 x3_1 x4_1 = some r) ∧ Aside0 (kq ≤ k) ∧ Aside0 (Kd.R (Kd.int .u32) 23 w' w.heap.size (fun _ => True) v3 x3_1) ∧ Aside0 (Below w.heap.size w w'))
  case atStart => exact ⟨(([] : List Int)), (0), (fr), H', ⟨Nat.le_refl _⟩, ⟨nl⟩, ⟨bl HB⟩⟩
  case round =>
    clear H'
    obtain ⟨x3_1, x4_1, rfl, HA, HK1, HO_3, HB⟩ := hrel
    cases gk with
    | zero => exact absurd HA.out (by simp [stolonref06_Make.l0])
    | succ k1 =>
      have H := HA.out
      clear HA
      simp only [stolonref06_Make.l0] at H
      by_cases c2 : x4_1 < (l0.length : Int)
      · rw [if_pos c2] at H
        have c2b0 : decide (x4_1 < (l0.length : Int)) = true := decide_eq_true c2
        clear c2
        by_cases c3 : 0 ≤ x4_1
        · rw [if_pos c3] at H
          have c3b0 : decide (0 ≤ x4_1) = true := decide_eq_true c3
          clear c3
          replace H := Option.bind_eq_some_iff.mp H
          obtain ⟨t344, A40, H⟩ := H
          replace H : (if t344 = true then (stolonref06_Make.l0 k1 l0 x3_1 (wrap64 (x4_1 + 1))) else (stolonref06_Make.l1 k1 l0 x3_1 x4_1 ([] : List Int) 0)) = some r := H
          have A4 := Aside0.mk A40
          clear A40
          by_cases c5 : t344 = true
          · subst c5
            replace H : (stolonref06_Make.l0 k1 l0 x3_1 (wrap64 (x4_1 + 1))) = some r := by rw [if_pos rfl] at H; exact H
            have H' := Aside0.mk H
            clear H
            have p343 : 0 ≤ (x4_1 : Int) := od
            have q343 : x4_1 < (l0.length : Int) := od
            obtain ⟨ad343, e343, hx343_0⟩ := Kd.at_int HR0.out x4_1 p343 q343
            cases e343
            replace hx343_0 := hcz HB hx343_0
            replace p343 := eq_true p343
            replace q343 := eq_true q343
            obtain ⟨Ao6, co6, eo6⟩ := Kd.R_slice HO_3.out
            subst eo6
            go_wp2_with (first | (go_at_call 12; (with_reducible refine (stolonref06_Has.calls k1 _ _ x3_1 (rd l0 x4_1) true _ ?side1 ?side2 A4.out).mono ?_); (case side1 => exact ca (Kd.R_reads' HO_3.out).2.2); (case side2 => exact (Kd.R_reads' HO_3.out).2.1); rintro e w' ⟨rfl, ⟨nd, rfl⟩⟩; (try first | exact ⟨rfl, _, World.drewN_drewN _ _ _⟩ | exact ⟨rfl, _, Eq.trans (World.drewN_drewN _ _ _) (congrArg (World.drewN _) (Nat.add_assoc _ _ _))⟩)))
            repeat (go_quiet (first | (go_at_call 12; (with_reducible refine (stolonref06_Has.calls k1 _ _ x3_1 (rd l0 x4_1) true _ ?side1 ?side2 A4.out).mono ?_); (case side1 => exact ca (Kd.R_reads' HO_3.out).2.2); (case side2 => exact (Kd.R_reads' HO_3.out).2.1); rintro e w' ⟨rfl, ⟨nd, rfl⟩⟩; (try first | exact ⟨rfl, _, World.drewN_drewN _ _ _⟩ | exact ⟨rfl, _, Eq.trans (World.drewN_drewN _ _ _) (congrArg (World.drewN _) (Nat.add_assoc _ _ _))⟩))); try go_wp2_with (first | (go_at_call 12; (with_reducible refine (stolonref06_Has.calls k1 _ _ x3_1 (rd l0 x4_1) true _ ?side1 ?side2 A4.out).mono ?_); (case side1 => exact ca (Kd.R_reads' HO_3.out).2.2); (case side2 => exact (Kd.R_reads' HO_3.out).2.1); rintro e w' ⟨rfl, ⟨nd, rfl⟩⟩; (try first | exact ⟨rfl, _, World.drewN_drewN _ _ _⟩ | exact ⟨rfl, _, Eq.trans (World.drewN_drewN _ _ _) (congrArg (World.drewN _) (Nat.add_assoc _ _ _))⟩))))
            go_roundg k1
            case measure => have := HK1.out; omega
            case rel => exact ⟨(x3_1), (wrap64 (x4_1 + 1)), (fr), H', ⟨by have := HK1.out; omega⟩, ⟨rad HO_3.out⟩, ⟨bl HB⟩⟩
          · replace c5 := Bool.eq_false_iff.mpr c5
            subst c5
            replace H : (stolonref06_Make.l1 k1 l0 x3_1 x4_1 ([] : List Int) 0) = some r := by rw [if_neg (show ¬ (false = true) by decide)] at H; exact H
            have H' := Aside0.mk H
            clear H
            have p343 : 0 ≤ (x4_1 : Int) := od
            have q343 : x4_1 < (l0.length : Int) := od
            obtain ⟨ad343, e343, hx343_0⟩ := Kd.at_int HR0.out x4_1 p343 q343
            cases e343
            replace hx343_0 := hcz HB hx343_0
            replace p343 := eq_true p343
            replace q343 := eq_true q343
            obtain ⟨Ao7, co7, eo7⟩ := Kd.R_slice HO_3.out
            subst eo7
            go_wp2_with (first | (go_at_call 12; (with_reducible refine (stolonref06_Has.calls k1 _ _ x3_1 (rd l0 x4_1) false _ ?side1 ?side2 A4.out).mono ?_); (case side1 => exact ca (Kd.R_reads' HO_3.out).2.2); (case side2 => exact (Kd.R_reads' HO_3.out).2.1); rintro e w' ⟨rfl, ⟨nd, rfl⟩⟩; (try first | exact ⟨rfl, _, World.drewN_drewN _ _ _⟩ | exact ⟨rfl, _, Eq.trans (World.drewN_drewN _ _ _) (congrArg (World.drewN _) (Nat.add_assoc _ _ _))⟩)))
            repeat (go_quiet (first | (go_at_call 12; (with_reducible refine (stolonref06_Has.calls k1 _ _ x3_1 (rd l0 x4_1) false _ ?side1 ?side2 A4.out).mono ?_); (case side1 => exact ca (Kd.R_reads' HO_3.out).2.2); (case side2 => exact (Kd.R_reads' HO_3.out).2.1); rintro e w' ⟨rfl, ⟨nd, rfl⟩⟩; (try first | exact ⟨rfl, _, World.drewN_drewN _ _ _⟩ | exact ⟨rfl, _, Eq.trans (World.drewN_drewN _ _ _) (congrArg (World.drewN _) (Nat.add_assoc _ _ _))⟩))); try go_wp2_with (first | (go_at_call 12; (with_reducible refine (stolonref06_Has.calls k1 _ _ x3_1 (rd l0 x4_1) false _ ?side1 ?side2 A4.out).mono ?_); (case side1 => exact ca (Kd.R_reads' HO_3.out).2.2); (case side2 => exact (Kd.R_reads' HO_3.out).2.1); rintro e w' ⟨rfl, ⟨nd, rfl⟩⟩; (try first | exact ⟨rfl, _, World.drewN_drewN _ _ _⟩ | exact ⟨rfl, _, Eq.trans (World.drewN_drewN _ _ _) (congrArg (World.drewN _) (Nat.add_assoc _ _ _))⟩))))
            go_loopg [6, 7] k1 (fun kq v6 v7 w' => ∃ (x6_2 : List Int) (x7_2 : Int), v7 = .int .i64 x7_2 ∧ Aside0 (stolonref06_Make.l1 kq l0 x3_1 x4_1 x6_2 x7_2 = some r) ∧ Aside0 (kq ≤ k1) ∧ Aside0 (Kd.R (Kd.int .u32) 23 w' w.heap.size (fun k_ => some k_ ≠ (v6 : Value).ownBlock) (.slice Ao7 x3_1.length co7) x3_1) ∧ Aside0 (Kd.R (Kd.int .u32) 23 w' w.heap.size (fun k_ => some k_ ≠ ((.slice Ao7 x3_1.length co7) : Value).ownBlock) v6 x6_2) ∧ Aside0 (Below w.heap.size w w'))
            case atStart => exact ⟨(([] : List Int)), (0), (fr), H', ⟨Nat.le_refl _⟩, ⟨by refine rad ?_; exact Kd.R_mono HO_3.out (fun _ hk => (by simp [Value.ownBlock]))⟩, ⟨nl⟩, ⟨bl HB⟩⟩
            case round =>
              clear H'
              try clear c2
              try clear c2b0
              try clear p2
              try clear c3
              try clear c3b0
              try clear p3
              try clear q3
              try clear hx3
              try clear c5
              try clear p6
              try clear hx343_0
              try clear p343
              try clear q343
              obtain ⟨x6_2, x7_2, rfl, HA, HK2, HO_3, HO_6, HB⟩ := hrel
              cases gk with
              | zero => exact absurd HA.out (by simp [stolonref06_Make.l1])
              | succ k2 =>
                have H := HA.out
                clear HA
                simp only [stolonref06_Make.l1] at H
                by_cases c8 : x7_2 < (x3_1.length : Int)
                · rw [if_pos c8] at H
                  have c8b0 : decide (x7_2 < (x3_1.length : Int)) = true := decide_eq_true c8
                  clear c8
                  by_cases c9 : 0 ≤ x7_2
                  · rw [if_pos c9] at H
                    have c9b0 : decide (0 ≤ x7_2) = true := decide_eq_true c9
                    clear c9
                    by_cases c10 : 0 ≤ x4_1
                    · rw [if_pos c10] at H
                      have c10b0 : decide (0 ≤ x4_1) = true := decide_eq_true c10
                      clear c10
                      by_cases c11 : x4_1 < (l0.length : Int)
                      · rw [if_pos c11] at H
                        have c11b0 : decide (x4_1 < (l0.length : Int)) = true := decide_eq_true c11
                        clear c11
                        by_cases c12 : (rd x3_1 x7_2) < (rd l0 x4_1)
                        · rw [if_pos c12] at H
                          have c12b0 : decide ((rd x3_1 x7_2) < (rd l0 x4_1)) = true := decide_eq_true c12
                          clear c12
                          by_cases c13 : x6_2.length < 35184372088832
                          · rw [if_pos c13] at H
                            have LMc13 := Aside0.mk c13
                            clear c13
                            obtain ⟨y348, hy348⟩ : ∃ y_ : List Int, y_ = (x6_2 ++ [rd x3_1 x7_2]) := ⟨_, rfl⟩
                            replace H : (stolonref06_Make.l1 k2 l0 x3_1 x4_1 y348 (wrap64 (x7_2 + 1))) = some r := by first | (rw [hy348]; with_reducible exact H) | (have H2_ := (Option.bind_some _ _).symm.trans H; rw [hy348]; with_reducible exact H2_) | (have H2_ := (Option.bind_some _ _).symm.trans H; with_reducible exact H2_) | with_reducible exact H | (rw [hy348]; exact H) | exact H
                            have Ny348 := Aside0.mk hy348
                            clear hy348
                            have H' := Aside0.mk H
                            clear H
                            have p345 : 0 ≤ (x7_2 : Int) := od
                            have q345 : x7_2 < (x3_1.length : Int) := od
                            obtain ⟨ad345, e345, hx345_0⟩ := Kd.at_int (Kd.R_reads' HO_3.out).2.2 x7_2 p345 q345
                            cases e345
                            replace p345 := eq_true p345
                            replace q345 := eq_true q345
                            have p346 : 0 ≤ (x4_1 : Int) := od
                            have q346 : x4_1 < (l0.length : Int) := od
                            obtain ⟨ad346, e346, hx346_0⟩ := Kd.at_int HR0.out x4_1 p346 q346
                            obtain rfl : ad343 = ad346 := (by injection e346)
                            replace hx346_0 := hcz HB hx346_0
                            replace p346 := eq_true p346
                            replace q346 := eq_true q346
                            have p347 : 0 ≤ (x7_2 : Int) := od
                            have q347 : x7_2 < (x3_1.length : Int) := od
                            obtain ⟨ad347, e347, hx347_0⟩ := Kd.at_int (Kd.R_reads' HO_3.out).2.2 x7_2 p347 q347
                            obtain rfl : ad345 = ad347 := (by injection e347)
                            replace p347 := eq_true p347
                            replace q347 := eq_true q347
                            go_wp2_with (first | ((with_reducible refine gate_builtin (b := .append) (xs := #[.tmp 36, .tmp 41]) rfl ?_); at_builtin; refine Kd.R_append (Kd.int .u32) (w0 := w) w.heap.size rfl (.tmp 36) (.tmp 41) 24 23 (.int .u32 0) 4 rfl Try.underlying24 info23 rfl (by decide) (by omega) u6 x6_2 (rd x3_1 x7_2) [.int .u32 (rd x3_1 x7_2)] (fun k_ => some k_ ≠ (.slice (some ad345) x3_1.length co7 : Value).ownBlock) (fun _ => False) rfl rfl ?aP (fun _ hk => hk.elim) ?aF ?aO ?aB ?aS ?aL ?_; (case aP => exact rfl); (case aB => exact (bl HB)); (case aF => exact (fun k_ hk => Kd.fresh' (Kd.R_lt (rad HO_3.out)) k_ hk)); (case aO => exact (rad HO_6.out)); (case aS => exact (below_size (bl HB))); (case aL => have := LMc13.out; omega); intro v349 w14 ho hb hg hat; rw [← Ny348.out] at ho; have n0_ := Aside0.mk (Kd.R_after (ok := (fun _ => True)) (by refine rad ?_; exact Kd.R_mono HO_3.out (fun _ hk => ⟨trivial, hk⟩)) hg hat); have n1_ := Aside0.mk (hb); have n2_ := Aside0.mk (ho); clear HO_3; clear HB; clear HO_6; have HO_3 := n0_; have HB := n1_; have HO350 := n2_; clear n0_ n1_ n2_; clear ho hb hg hat))
                            repeat (go_quiet (first | ((with_reducible refine gate_builtin (b := .append) (xs := #[.tmp 36, .tmp 41]) rfl ?_); at_builtin; refine Kd.R_append (Kd.int .u32) (w0 := w) w.heap.size rfl (.tmp 36) (.tmp 41) 24 23 (.int .u32 0) 4 rfl Try.underlying24 info23 rfl (by decide) (by omega) u6 x6_2 (rd x3_1 x7_2) [.int .u32 (rd x3_1 x7_2)] (fun k_ => some k_ ≠ (.slice (some ad345) x3_1.length co7 : Value).ownBlock) (fun _ => False) rfl rfl ?aP (fun _ hk => hk.elim) ?aF ?aO ?aB ?aS ?aL ?_; (case aP => exact rfl); (case aB => exact (bl HB)); (case aF => exact (fun k_ hk => Kd.fresh' (Kd.R_lt (rad HO_3.out)) k_ hk)); (case aO => exact (rad HO_6.out)); (case aS => exact (below_size (bl HB))); (case aL => have := LMc13.out; omega); intro v349 w14 ho hb hg hat; rw [← Ny348.out] at ho; have n0_ := Aside0.mk (Kd.R_after (ok := (fun _ => True)) (by refine rad ?_; exact Kd.R_mono HO_3.out (fun _ hk => ⟨trivial, hk⟩)) hg hat); have n1_ := Aside0.mk (hb); have n2_ := Aside0.mk (ho); clear HO_3; clear HB; clear HO_6; have HO_3 := n0_; have HB := n1_; have HO350 := n2_; clear n0_ n1_ n2_; clear ho hb hg hat)); try go_wp2_with (first | ((with_reducible refine gate_builtin (b := .append) (xs := #[.tmp 36, .tmp 41]) rfl ?_); at_builtin; refine Kd.R_append (Kd.int .u32) (w0 := w) w.heap.size rfl (.tmp 36) (.tmp 41) 24 23 (.int .u32 0) 4 rfl Try.underlying24 info23 rfl (by decide) (by omega) u6 x6_2 (rd x3_1 x7_2) [.int .u32 (rd x3_1 x7_2)] (fun k_ => some k_ ≠ (.slice (some ad345) x3_1.length co7 : Value).ownBlock) (fun _ => False) rfl rfl ?aP (fun _ hk => hk.elim) ?aF ?aO ?aB ?aS ?aL ?_; (case aP => exact rfl); (case aB => exact (bl HB)); (case aF => exact (fun k_ hk => Kd.fresh' (Kd.R_lt (rad HO_3.out)) k_ hk)); (case aO => exact (rad HO_6.out)); (case aS => exact (below_size (bl HB))); (case aL => have := LMc13.out; omega); intro v349 w14 ho hb hg hat; rw [← Ny348.out] at ho; have n0_ := Aside0.mk (Kd.R_after (ok := (fun _ => True)) (by refine rad ?_; exact Kd.R_mono HO_3.out (fun _ hk => ⟨trivial, hk⟩)) hg hat); have n1_ := Aside0.mk (hb); have n2_ := Aside0.mk (ho); clear HO_3; clear HB; clear HO_6; have HO_3 := n0_; have HB := n1_; have HO350 := n2_; clear n0_ n1_ n2_; clear ho hb hg hat)))
                            go_roundg k2
                            case measure => have := HK1.out; have := HK2.out; omega
                            case rel => exact ⟨(y348), (wrap64 (x7_2 + 1)), (fr), H', ⟨by have := HK1.out; have := HK2.out; omega⟩, ⟨by refine rad ?_; exact Kd.R_mono HO_3.out (fun _ hk => hk.2)⟩, ⟨rad HO350.out⟩, ⟨bl HB⟩⟩
                          · rw [if_neg c13] at H
                            exact absurd H (by simp)
                        · rw [if_neg c12] at H
                          have c12b0 : decide ((rd x3_1 x7_2) < (rd l0 x4_1)) = false := decide_eq_false c12
                          clear c12
                          by_cases c15 : x6_2.length < 35184372088832
                          · rw [if_pos c15] at H
                            have LMc15 := Aside0.mk c15
                            clear c15
                            obtain ⟨y352, hy352⟩ : ∃ y_ : List Int, y_ = (x6_2 ++ [rd l0 x4_1]) := ⟨_, rfl⟩
                            replace H : (if x7_2 ≤ (x3_1.length : Int) then ((some (x3_1.drop (x7_2 : Int).toNat : List Int)).bind fun y355 => (if y352.length + y355.length < 35184372088832 then (stolonref06_Make.l0 k2 l0 (y352 ++ y355) (wrap64 (x4_1 + 1))) else (none))) else (none)) = some r := by first | (rw [hy352]; with_reducible exact H) | (have H2_ := (Option.bind_some _ _).symm.trans H; rw [hy352]; with_reducible exact H2_) | (have H2_ := (Option.bind_some _ _).symm.trans H; with_reducible exact H2_) | with_reducible exact H | (rw [hy352]; exact H) | exact H
                            have Ny352 := Aside0.mk hy352
                            clear hy352
                            have c16b0 := eq_true (od : 0 ≤ x7_2)
                            by_cases c17 : x7_2 ≤ (x3_1.length : Int)
                            · rw [if_pos c17] at H
                              have c17b0 := eq_true c17
                              have c17b1 : decide (x7_2 ≤ (x3_1.length : Int)) = true := decide_eq_true c17
                              clear c17
                              obtain ⟨y355, hy355⟩ : ∃ y_ : List Int, y_ = (x3_1.drop (x7_2 : Int).toNat) := ⟨_, rfl⟩
                              replace H : (if y352.length + y355.length < 35184372088832 then (stolonref06_Make.l0 k2 l0 (y352 ++ y355) (wrap64 (x4_1 + 1))) else (none)) = some r := by first | (rw [hy355]; with_reducible exact H) | (have H2_ := (Option.bind_some _ _).symm.trans H; rw [hy355]; with_reducible exact H2_) | (have H2_ := (Option.bind_some _ _).symm.trans H; with_reducible exact H2_) | with_reducible exact H | (rw [hy355]; exact H) | exact H
                              have Ny355 := Aside0.mk hy355
                              clear hy355
                              by_cases c18 : y352.length + y355.length < 35184372088832
                              · rw [if_pos c18] at H
                                have LMc18 := Aside0.mk c18
                                clear c18
                                obtain ⟨y359, hy359⟩ : ∃ y_ : List Int, y_ = (y352 ++ y355) := ⟨_, rfl⟩
                                replace H : (stolonref06_Make.l0 k2 l0 y359 (wrap64 (x4_1 + 1))) = some r := by first | (rw [hy359]; with_reducible exact H) | (have H2_ := (Option.bind_some _ _).symm.trans H; rw [hy359]; with_reducible exact H2_) | (have H2_ := (Option.bind_some _ _).symm.trans H; with_reducible exact H2_) | with_reducible exact H | (rw [hy359]; exact H) | exact H
                                have Ny359 := Aside0.mk hy359
                                clear hy359
                                have H' := Aside0.mk H
                                clear H
                                have p345 : 0 ≤ (x7_2 : Int) := od
                                have q345 : x7_2 < (x3_1.length : Int) := od
                                obtain ⟨ad345, e345, hx345_0⟩ := Kd.at_int (Kd.R_reads' HO_3.out).2.2 x7_2 p345 q345
                                cases e345
                                replace p345 := eq_true p345
                                replace q345 := eq_true q345
                                have p346 : 0 ≤ (x4_1 : Int) := od
                                have q346 : x4_1 < (l0.length : Int) := od
                                obtain ⟨ad346, e346, hx346_0⟩ := Kd.at_int HR0.out x4_1 p346 q346
                                obtain rfl : ad343 = ad346 := (by injection e346)
                                replace hx346_0 := hcz HB hx346_0
                                replace p346 := eq_true p346
                                replace q346 := eq_true q346
                                have p351 : 0 ≤ (x4_1 : Int) := od
                                have q351 : x4_1 < (l0.length : Int) := od
                                obtain ⟨ad351, e351, hx351_0⟩ := Kd.at_int HR0.out x4_1 p351 q351
                                obtain rfl : ad343 = ad351 := (by injection e351)
                                replace hx351_0 := hcz HB hx351_0
                                replace p351 := eq_true p351
                                replace q351 := eq_true q351
                                go_wp2_with (first | ((with_reducible refine gate_builtin (b := .append) (xs := #[.tmp 45, .tmp 50]) rfl ?_); at_builtin; refine Kd.R_append (Kd.int .u32) (w0 := w) w.heap.size rfl (.tmp 45) (.tmp 50) 24 23 (.int .u32 0) 4 rfl Try.underlying24 info23 rfl (by decide) (by omega) u6 x6_2 (rd l0 x4_1) [.int .u32 (rd l0 x4_1)] (fun k_ => some k_ ≠ (.slice (some ad345) x3_1.length co7 : Value).ownBlock) (fun _ => False) rfl rfl ?aP (fun _ hk => hk.elim) ?aF ?aO ?aB ?aS ?aL ?_; (case aP => exact rfl); (case aB => exact (bl HB)); (case aF => exact (fun k_ hk => Kd.fresh' (Kd.R_lt (rad HO_3.out)) k_ hk)); (case aO => exact (rad HO_6.out)); (case aS => exact (below_size (bl HB))); (case aL => have := LMc15.out; omega); intro v353 w19 ho hb hg hat; rw [← Ny352.out] at ho; have n0_ := Aside0.mk (Kd.R_after (ok := (fun _ => True)) (by refine rad ?_; exact Kd.R_mono HO_3.out (fun _ hk => ⟨trivial, hk⟩)) hg hat); have n1_ := Aside0.mk (hb); have n2_ := Aside0.mk (ho); clear HO_3; clear HB; clear HO_6; have HO_3 := n0_; have HB := n1_; have HO354 := n2_; clear n0_ n1_ n2_; clear ho hb hg hat; have q20 : (x7_2 : Int) ≤ ((x3_1.length : Int) : Int) := od; obtain ⟨i020, hi020, _, hsz20, _⟩ := info_parts info23; have hroom20 : x3_1.length ≤ co7 := (Kd.R_reads' HO_3.out).2.1; have hC20 : Kd.C (Kd.int .u32) _ (some ad345) x3_1.length x3_1 := (Kd.R_reads' HO_3.out).2.2; have q020 : (0 : Int) ≤ (x7_2 : Int) := od; have hcut20 := cut_from (P := Try.prog) 24 23 .i64 Try.underlying24 hi020 1 hsz20 (some ad345) x3_1.length co7 x7_2 q020 q20; have hr20 := Kd.C_drop (m := (x7_2 : Int).toNat) (c := co7) hC20 (by omega) hroom20; obtain ⟨A20, hA20⟩ : ∃ A1, A1 = (if co7 = (x7_2 : Int).toNat then (some ad345) else ((some ad345) : Option Addr).map (·.add ((x7_2 : Int).toNat * 1))) := ⟨_, rfl⟩; obtain ⟨c20, hc20⟩ : ∃ c1, c1 = co7 - (x7_2 : Int).toNat := ⟨_, rfl⟩; have hy20 : y355.length = x3_1.length - (x7_2 : Int).toNat := (by rw [Ny355.out, List.length_drop] <;> omega); rw [show (x3_1).drop (x7_2 : Int).toNat = y355 from Ny355.out.symm] at hr20; replace hr20 : Kd.C (Kd.int .u32) _ A20 y355.length y355 := (by rw [hA20]; exact hr20); rw [← hy20, ← hA20, ← hc20] at hcut20; have HR358 := Aside0.mk hr20; have HC358 := Aside0.mk (show y355.length ≤ c20 from by rw [hy20, hc20]; exact Nat.sub_le_sub_right hroom20 _); clear hr20 hC20 hroom20 hi020 hsz20 hc20; have KY20 := Aside0.mk hy20; have KA20 := Aside0.mk hA20; clear hy20 hA20; have KL20 := Aside0.mk (show (x7_2 : Int).toNat ≤ x3_1.length from by omega); replace q20 := eq_true q20) | ((with_reducible refine gate_builtin (b := .append) (xs := #[.tmp 52, .tmp 55]) rfl ?_); at_builtin; refine Kd.R_append_rows (Kd.int .u32) (w0 := w) w.heap.size rfl (.tmp 52) (.tmp 55) 24 23 (.int .u32 0) 4 rfl Try.underlying24 info23 rfl (by decide) (by omega) v353 y352 y355 _ _ _ (fun k_ => some k_ ≠ (.slice (some ad345) x3_1.length co7 : Value).ownBlock) (fun _ => False) rfl rfl ?aO ?aR (fun _ _ h => h) (fun _ h => h.elim) ?aF ?aB ?aS ?aL ?_; (case aR => repeat (first | exact (by repeat (first | (with_reducible exact HR358.out) | (with_reducible refine Kd.C_alloc ?_ _) | (with_reducible refine Kd.C_drewN ?_ _) | (with_reducible refine Kd.C_drew ?_) | exact HR358.out)) | (with_reducible refine Kd.C_alloc ?_ _) | (with_reducible refine Kd.C_drewN ?_ _) | (with_reducible refine Kd.C_drew ?_))); (case aB => exact (bl HB)); (case aF => exact (fun k_ hk => Kd.fresh' (Kd.R_lt (rad HO_3.out)) k_ hk)); (case aO => exact (rad HO354.out)); (case aS => exact (below_size (bl HB))); (case aL => have := LMc18.out; omega); intro v360 w21 ho hb hg hat; rw [← Ny359.out] at ho; have n0_ := Aside0.mk (Kd.R_after (ok := (fun _ => True)) (rad HO_3.out) hg hat); have n1_ := Aside0.mk (hb); have n2_ := Aside0.mk ((show Kd.C (Kd.int .u32) w21 A20 y355.length y355 from by rw [Ny355.out, KA20.out]; exact Kd.C_drop (m := (x7_2 : Int).toNat) (c := co7) ((Kd.R_reads' (Kd.R_after (ok := (fun _ => True)) (rad HO_3.out) hg hat)).2.2) KL20.out ((Kd.R_reads' (Kd.R_after (ok := (fun _ => True)) (rad HO_3.out) hg hat)).2.1))); have n3_ := Aside0.mk (ho); clear HO_3; clear HB; clear HR358; clear HO354; have HO_3 := n0_; have HB := n1_; have HR358 := n2_; have HO361 := n3_; clear n0_ n1_ n2_ n3_; clear ho hb hg hat))
                                repeat (go_quiet (first | ((with_reducible refine gate_builtin (b := .append) (xs := #[.tmp 45, .tmp 50]) rfl ?_); at_builtin; refine Kd.R_append (Kd.int .u32) (w0 := w) w.heap.size rfl (.tmp 45) (.tmp 50) 24 23 (.int .u32 0) 4 rfl Try.underlying24 info23 rfl (by decide) (by omega) u6 x6_2 (rd l0 x4_1) [.int .u32 (rd l0 x4_1)] (fun k_ => some k_ ≠ (.slice (some ad345) x3_1.length co7 : Value).ownBlock) (fun _ => False) rfl rfl ?aP (fun _ hk => hk.elim) ?aF ?aO ?aB ?aS ?aL ?_; (case aP => exact rfl); (case aB => exact (bl HB)); (case aF => exact (fun k_ hk => Kd.fresh' (Kd.R_lt (rad HO_3.out)) k_ hk)); (case aO => exact (rad HO_6.out)); (case aS => exact (below_size (bl HB))); (case aL => have := LMc15.out; omega); intro v353 w19 ho hb hg hat; rw [← Ny352.out] at ho; have n0_ := Aside0.mk (Kd.R_after (ok := (fun _ => True)) (by refine rad ?_; exact Kd.R_mono HO_3.out (fun _ hk => ⟨trivial, hk⟩)) hg hat); have n1_ := Aside0.mk (hb); have n2_ := Aside0.mk (ho); clear HO_3; clear HB; clear HO_6; have HO_3 := n0_; have HB := n1_; have HO354 := n2_; clear n0_ n1_ n2_; clear ho hb hg hat; have q20 : (x7_2 : Int) ≤ ((x3_1.length : Int) : Int) := od; obtain ⟨i020, hi020, _, hsz20, _⟩ := info_parts info23; have hroom20 : x3_1.length ≤ co7 := (Kd.R_reads' HO_3.out).2.1; have hC20 : Kd.C (Kd.int .u32) _ (some ad345) x3_1.length x3_1 := (Kd.R_reads' HO_3.out).2.2; have q020 : (0 : Int) ≤ (x7_2 : Int) := od; have hcut20 := cut_from (P := Try.prog) 24 23 .i64 Try.underlying24 hi020 1 hsz20 (some ad345) x3_1.length co7 x7_2 q020 q20; have hr20 := Kd.C_drop (m := (x7_2 : Int).toNat) (c := co7) hC20 (by omega) hroom20; obtain ⟨A20, hA20⟩ : ∃ A1, A1 = (if co7 = (x7_2 : Int).toNat then (some ad345) else ((some ad345) : Option Addr).map (·.add ((x7_2 : Int).toNat * 1))) := ⟨_, rfl⟩; obtain ⟨c20, hc20⟩ : ∃ c1, c1 = co7 - (x7_2 : Int).toNat := ⟨_, rfl⟩; have hy20 : y355.length = x3_1.length - (x7_2 : Int).toNat := (by rw [Ny355.out, List.length_drop] <;> omega); rw [show (x3_1).drop (x7_2 : Int).toNat = y355 from Ny355.out.symm] at hr20; replace hr20 : Kd.C (Kd.int .u32) _ A20 y355.length y355 := (by rw [hA20]; exact hr20); rw [← hy20, ← hA20, ← hc20] at hcut20; have HR358 := Aside0.mk hr20; have HC358 := Aside0.mk (show y355.length ≤ c20 from by rw [hy20, hc20]; exact Nat.sub_le_sub_right hroom20 _); clear hr20 hC20 hroom20 hi020 hsz20 hc20; have KY20 := Aside0.mk hy20; have KA20 := Aside0.mk hA20; clear hy20 hA20; have KL20 := Aside0.mk (show (x7_2 : Int).toNat ≤ x3_1.length from by omega); replace q20 := eq_true q20) | ((with_reducible refine gate_builtin (b := .append) (xs := #[.tmp 52, .tmp 55]) rfl ?_); at_builtin; refine Kd.R_append_rows (Kd.int .u32) (w0 := w) w.heap.size rfl (.tmp 52) (.tmp 55) 24 23 (.int .u32 0) 4 rfl Try.underlying24 info23 rfl (by decide) (by omega) v353 y352 y355 _ _ _ (fun k_ => some k_ ≠ (.slice (some ad345) x3_1.length co7 : Value).ownBlock) (fun _ => False) rfl rfl ?aO ?aR (fun _ _ h => h) (fun _ h => h.elim) ?aF ?aB ?aS ?aL ?_; (case aR => repeat (first | exact (by repeat (first | (with_reducible exact HR358.out) | (with_reducible refine Kd.C_alloc ?_ _) | (with_reducible refine Kd.C_drewN ?_ _) | (with_reducible refine Kd.C_drew ?_) | exact HR358.out)) | (with_reducible refine Kd.C_alloc ?_ _) | (with_reducible refine Kd.C_drewN ?_ _) | (with_reducible refine Kd.C_drew ?_))); (case aB => exact (bl HB)); (case aF => exact (fun k_ hk => Kd.fresh' (Kd.R_lt (rad HO_3.out)) k_ hk)); (case aO => exact (rad HO354.out)); (case aS => exact (below_size (bl HB))); (case aL => have := LMc18.out; omega); intro v360 w21 ho hb hg hat; rw [← Ny359.out] at ho; have n0_ := Aside0.mk (Kd.R_after (ok := (fun _ => True)) (rad HO_3.out) hg hat); have n1_ := Aside0.mk (hb); have n2_ := Aside0.mk ((show Kd.C (Kd.int .u32) w21 A20 y355.length y355 from by rw [Ny355.out, KA20.out]; exact Kd.C_drop (m := (x7_2 : Int).toNat) (c := co7) ((Kd.R_reads' (Kd.R_after (ok := (fun _ => True)) (rad HO_3.out) hg hat)).2.2) KL20.out ((Kd.R_reads' (Kd.R_after (ok := (fun _ => True)) (rad HO_3.out) hg hat)).2.1))); have n3_ := Aside0.mk (ho); clear HO_3; clear HB; clear HR358; clear HO354; have HO_3 := n0_; have HB := n1_; have HR358 := n2_; have HO361 := n3_; clear n0_ n1_ n2_ n3_; clear ho hb hg hat)); try go_wp2_with (first | ((with_reducible refine gate_builtin (b := .append) (xs := #[.tmp 45, .tmp 50]) rfl ?_); at_builtin; refine Kd.R_append (Kd.int .u32) (w0 := w) w.heap.size rfl (.tmp 45) (.tmp 50) 24 23 (.int .u32 0) 4 rfl Try.underlying24 info23 rfl (by decide) (by omega) u6 x6_2 (rd l0 x4_1) [.int .u32 (rd l0 x4_1)] (fun k_ => some k_ ≠ (.slice (some ad345) x3_1.length co7 : Value).ownBlock) (fun _ => False) rfl rfl ?aP (fun _ hk => hk.elim) ?aF ?aO ?aB ?aS ?aL ?_; (case aP => exact rfl); (case aB => exact (bl HB)); (case aF => exact (fun k_ hk => Kd.fresh' (Kd.R_lt (rad HO_3.out)) k_ hk)); (case aO => exact (rad HO_6.out)); (case aS => exact (below_size (bl HB))); (case aL => have := LMc15.out; omega); intro v353 w19 ho hb hg hat; rw [← Ny352.out] at ho; have n0_ := Aside0.mk (Kd.R_after (ok := (fun _ => True)) (by refine rad ?_; exact Kd.R_mono HO_3.out (fun _ hk => ⟨trivial, hk⟩)) hg hat); have n1_ := Aside0.mk (hb); have n2_ := Aside0.mk (ho); clear HO_3; clear HB; clear HO_6; have HO_3 := n0_; have HB := n1_; have HO354 := n2_; clear n0_ n1_ n2_; clear ho hb hg hat; have q20 : (x7_2 : Int) ≤ ((x3_1.length : Int) : Int) := od; obtain ⟨i020, hi020, _, hsz20, _⟩ := info_parts info23; have hroom20 : x3_1.length ≤ co7 := (Kd.R_reads' HO_3.out).2.1; have hC20 : Kd.C (Kd.int .u32) _ (some ad345) x3_1.length x3_1 := (Kd.R_reads' HO_3.out).2.2; have q020 : (0 : Int) ≤ (x7_2 : Int) := od; have hcut20 := cut_from (P := Try.prog) 24 23 .i64 Try.underlying24 hi020 1 hsz20 (some ad345) x3_1.length co7 x7_2 q020 q20; have hr20 := Kd.C_drop (m := (x7_2 : Int).toNat) (c := co7) hC20 (by omega) hroom20; obtain ⟨A20, hA20⟩ : ∃ A1, A1 = (if co7 = (x7_2 : Int).toNat then (some ad345) else ((some ad345) : Option Addr).map (·.add ((x7_2 : Int).toNat * 1))) := ⟨_, rfl⟩; obtain ⟨c20, hc20⟩ : ∃ c1, c1 = co7 - (x7_2 : Int).toNat := ⟨_, rfl⟩; have hy20 : y355.length = x3_1.length - (x7_2 : Int).toNat := (by rw [Ny355.out, List.length_drop] <;> omega); rw [show (x3_1).drop (x7_2 : Int).toNat = y355 from Ny355.out.symm] at hr20; replace hr20 : Kd.C (Kd.int .u32) _ A20 y355.length y355 := (by rw [hA20]; exact hr20); rw [← hy20, ← hA20, ← hc20] at hcut20; have HR358 := Aside0.mk hr20; have HC358 := Aside0.mk (show y355.length ≤ c20 from by rw [hy20, hc20]; exact Nat.sub_le_sub_right hroom20 _); clear hr20 hC20 hroom20 hi020 hsz20 hc20; have KY20 := Aside0.mk hy20; have KA20 := Aside0.mk hA20; clear hy20 hA20; have KL20 := Aside0.mk (show (x7_2 : Int).toNat ≤ x3_1.length from by omega); replace q20 := eq_true q20) | ((with_reducible refine gate_builtin (b := .append) (xs := #[.tmp 52, .tmp 55]) rfl ?_); at_builtin; refine Kd.R_append_rows (Kd.int .u32) (w0 := w) w.heap.size rfl (.tmp 52) (.tmp 55) 24 23 (.int .u32 0) 4 rfl Try.underlying24 info23 rfl (by decide) (by omega) v353 y352 y355 _ _ _ (fun k_ => some k_ ≠ (.slice (some ad345) x3_1.length co7 : Value).ownBlock) (fun _ => False) rfl rfl ?aO ?aR (fun _ _ h => h) (fun _ h => h.elim) ?aF ?aB ?aS ?aL ?_; (case aR => repeat (first | exact (by repeat (first | (with_reducible exact HR358.out) | (with_reducible refine Kd.C_alloc ?_ _) | (with_reducible refine Kd.C_drewN ?_ _) | (with_reducible refine Kd.C_drew ?_) | exact HR358.out)) | (with_reducible refine Kd.C_alloc ?_ _) | (with_reducible refine Kd.C_drewN ?_ _) | (with_reducible refine Kd.C_drew ?_))); (case aB => exact (bl HB)); (case aF => exact (fun k_ hk => Kd.fresh' (Kd.R_lt (rad HO_3.out)) k_ hk)); (case aO => exact (rad HO354.out)); (case aS => exact (below_size (bl HB))); (case aL => have := LMc18.out; omega); intro v360 w21 ho hb hg hat; rw [← Ny359.out] at ho; have n0_ := Aside0.mk (Kd.R_after (ok := (fun _ => True)) (rad HO_3.out) hg hat); have n1_ := Aside0.mk (hb); have n2_ := Aside0.mk ((show Kd.C (Kd.int .u32) w21 A20 y355.length y355 from by rw [Ny355.out, KA20.out]; exact Kd.C_drop (m := (x7_2 : Int).toNat) (c := co7) ((Kd.R_reads' (Kd.R_after (ok := (fun _ => True)) (rad HO_3.out) hg hat)).2.2) KL20.out ((Kd.R_reads' (Kd.R_after (ok := (fun _ => True)) (rad HO_3.out) hg hat)).2.1))); have n3_ := Aside0.mk (ho); clear HO_3; clear HB; clear HR358; clear HO354; have HO_3 := n0_; have HB := n1_; have HR358 := n2_; have HO361 := n3_; clear n0_ n1_ n2_ n3_; clear ho hb hg hat)))
                                go_roundg k2
                                case measure => have := HK1.out; have := HK2.out; omega
                                case rel => exact ⟨(y359), (wrap64 (x4_1 + 1)), (fr), H', ⟨by have := HK1.out; have := HK2.out; omega⟩, ⟨by refine rad ?_; exact Kd.R_mono HO361.out (fun _ hk => trivial)⟩, ⟨bl HB⟩⟩
                              · rw [if_neg c18] at H
                                exact absurd H (by simp)
                            · rw [if_neg c17] at H
                              exact absurd H (by simp)
                          · rw [if_neg c15] at H
                            exact absurd H (by simp)
                      · rw [if_neg c11] at H
                        exact absurd H (by simp)
                    · rw [if_neg c10] at H
                      exact absurd H (by simp)
                  · rw [if_neg c9] at H
                    exact absurd H (by simp)
                · rw [if_neg c8] at H
                  have c8b0 : decide (x7_2 < (x3_1.length : Int)) = false := decide_eq_false c8
                  clear c8
                  by_cases c22 : 0 ≤ x4_1
                  · rw [if_pos c22] at H
                    have c22b0 : decide (0 ≤ x4_1) = true := decide_eq_true c22
                    clear c22
                    by_cases c23 : x4_1 < (l0.length : Int)
                    · rw [if_pos c23] at H
                      have c23b0 : decide (x4_1 < (l0.length : Int)) = true := decide_eq_true c23
                      clear c23
                      by_cases c24 : x6_2.length < 35184372088832
                      · rw [if_pos c24] at H
                        have LMc24 := Aside0.mk c24
                        clear c24
                        obtain ⟨y363, hy363⟩ : ∃ y_ : List Int, y_ = (x6_2 ++ [rd l0 x4_1]) := ⟨_, rfl⟩
                        replace H : (if 0 ≤ x7_2 then (if x7_2 ≤ (x3_1.length : Int) then ((some (x3_1.drop (x7_2 : Int).toNat : List Int)).bind fun y366 => (if y363.length + y366.length < 35184372088832 then (stolonref06_Make.l0 k2 l0 (y363 ++ y366) (wrap64 (x4_1 + 1))) else (none))) else (none)) else (none)) = some r := by first | (rw [hy363]; with_reducible exact H) | (have H2_ := (Option.bind_some _ _).symm.trans H; rw [hy363]; with_reducible exact H2_) | (have H2_ := (Option.bind_some _ _).symm.trans H; with_reducible exact H2_) | with_reducible exact H | (rw [hy363]; exact H) | exact H
                        have Ny363 := Aside0.mk hy363
                        clear hy363
                        by_cases c25 : 0 ≤ x7_2
                        · rw [if_pos c25] at H
                          have c25b0 := eq_true c25
                          have c25b1 : decide (0 ≤ x7_2) = true := decide_eq_true c25
                          clear c25
                          by_cases c26 : x7_2 ≤ (x3_1.length : Int)
                          · rw [if_pos c26] at H
                            have c26b0 := eq_true c26
                            have c26b1 : decide (x7_2 ≤ (x3_1.length : Int)) = true := decide_eq_true c26
                            clear c26
                            obtain ⟨y366, hy366⟩ : ∃ y_ : List Int, y_ = (x3_1.drop (x7_2 : Int).toNat) := ⟨_, rfl⟩
                            replace H : (if y363.length + y366.length < 35184372088832 then (stolonref06_Make.l0 k2 l0 (y363 ++ y366) (wrap64 (x4_1 + 1))) else (none)) = some r := by first | (rw [hy366]; with_reducible exact H) | (have H2_ := (Option.bind_some _ _).symm.trans H; rw [hy366]; with_reducible exact H2_) | (have H2_ := (Option.bind_some _ _).symm.trans H; with_reducible exact H2_) | with_reducible exact H | (rw [hy366]; exact H) | exact H
                            have Ny366 := Aside0.mk hy366
                            clear hy366
                            by_cases c27 : y363.length + y366.length < 35184372088832
                            · rw [if_pos c27] at H
                              have LMc27 := Aside0.mk c27
                              clear c27
                              obtain ⟨y370, hy370⟩ : ∃ y_ : List Int, y_ = (y363 ++ y366) := ⟨_, rfl⟩
                              replace H : (stolonref06_Make.l0 k2 l0 y370 (wrap64 (x4_1 + 1))) = some r := by first | (rw [hy370]; with_reducible exact H) | (have H2_ := (Option.bind_some _ _).symm.trans H; rw [hy370]; with_reducible exact H2_) | (have H2_ := (Option.bind_some _ _).symm.trans H; with_reducible exact H2_) | with_reducible exact H | (rw [hy370]; exact H) | exact H
                              have Ny370 := Aside0.mk hy370
                              clear hy370
                              have H' := Aside0.mk H
                              clear H
                              have p362 : 0 ≤ (x4_1 : Int) := od
                              have q362 : x4_1 < (l0.length : Int) := od
                              obtain ⟨ad362, e362, hx362_0⟩ := Kd.at_int HR0.out x4_1 p362 q362
                              obtain rfl : ad343 = ad362 := (by injection e362)
                              replace hx362_0 := hcz HB hx362_0
                              replace p362 := eq_true p362
                              replace q362 := eq_true q362
                              go_wp2_with (first | ((with_reducible refine gate_builtin (b := .append) (xs := #[.tmp 45, .tmp 50]) rfl ?_); at_builtin; refine Kd.R_append (Kd.int .u32) (w0 := w) w.heap.size rfl (.tmp 45) (.tmp 50) 24 23 (.int .u32 0) 4 rfl Try.underlying24 info23 rfl (by decide) (by omega) u6 x6_2 (rd l0 x4_1) [.int .u32 (rd l0 x4_1)] (fun k_ => some k_ ≠ (.slice Ao7 x3_1.length co7 : Value).ownBlock) (fun _ => False) rfl rfl ?aP (fun _ hk => hk.elim) ?aF ?aO ?aB ?aS ?aL ?_; (case aP => exact rfl); (case aB => exact (bl HB)); (case aF => exact (fun k_ hk => Kd.fresh' (Kd.R_lt (rad HO_3.out)) k_ hk)); (case aO => exact (rad HO_6.out)); (case aS => exact (below_size (bl HB))); (case aL => have := LMc24.out; omega); intro v364 w28 ho hb hg hat; rw [← Ny363.out] at ho; have n0_ := Aside0.mk (Kd.R_after (ok := (fun _ => True)) (by refine rad ?_; exact Kd.R_mono HO_3.out (fun _ hk => ⟨trivial, hk⟩)) hg hat); have n1_ := Aside0.mk (hb); have n2_ := Aside0.mk (ho); clear HO_3; clear HB; clear HO_6; have HO_3 := n0_; have HB := n1_; have HO365 := n2_; clear n0_ n1_ n2_; clear ho hb hg hat; have q29 : (x7_2 : Int) ≤ ((x3_1.length : Int) : Int) := od; obtain ⟨i029, hi029, _, hsz29, _⟩ := info_parts info23; have hroom29 : x3_1.length ≤ co7 := (Kd.R_reads' HO_3.out).2.1; have hC29 : Kd.C (Kd.int .u32) _ Ao7 x3_1.length x3_1 := (Kd.R_reads' HO_3.out).2.2; have q029 : (0 : Int) ≤ (x7_2 : Int) := od; have hcut29 := cut_from (P := Try.prog) 24 23 .i64 Try.underlying24 hi029 1 hsz29 Ao7 x3_1.length co7 x7_2 q029 q29; have hr29 := Kd.C_drop (m := (x7_2 : Int).toNat) (c := co7) hC29 (by omega) hroom29; obtain ⟨A29, hA29⟩ : ∃ A1, A1 = (if co7 = (x7_2 : Int).toNat then Ao7 else (Ao7 : Option Addr).map (·.add ((x7_2 : Int).toNat * 1))) := ⟨_, rfl⟩; obtain ⟨c29, hc29⟩ : ∃ c1, c1 = co7 - (x7_2 : Int).toNat := ⟨_, rfl⟩; have hy29 : y366.length = x3_1.length - (x7_2 : Int).toNat := (by rw [Ny366.out, List.length_drop] <;> omega); rw [show (x3_1).drop (x7_2 : Int).toNat = y366 from Ny366.out.symm] at hr29; replace hr29 : Kd.C (Kd.int .u32) _ A29 y366.length y366 := (by rw [hA29]; exact hr29); rw [← hy29, ← hA29, ← hc29] at hcut29; have HR369 := Aside0.mk hr29; have HC369 := Aside0.mk (show y366.length ≤ c29 from by rw [hy29, hc29]; exact Nat.sub_le_sub_right hroom29 _); clear hr29 hC29 hroom29 hi029 hsz29 hc29; have KY29 := Aside0.mk hy29; have KA29 := Aside0.mk hA29; clear hy29 hA29; have KL29 := Aside0.mk (show (x7_2 : Int).toNat ≤ x3_1.length from by omega); replace q29 := eq_true q29) | ((with_reducible refine gate_builtin (b := .append) (xs := #[.tmp 52, .tmp 55]) rfl ?_); at_builtin; refine Kd.R_append_rows (Kd.int .u32) (w0 := w) w.heap.size rfl (.tmp 52) (.tmp 55) 24 23 (.int .u32 0) 4 rfl Try.underlying24 info23 rfl (by decide) (by omega) v364 y363 y366 _ _ _ (fun k_ => some k_ ≠ (.slice Ao7 x3_1.length co7 : Value).ownBlock) (fun _ => False) rfl rfl ?aO ?aR (fun _ _ h => h) (fun _ h => h.elim) ?aF ?aB ?aS ?aL ?_; (case aR => repeat (first | exact (by repeat (first | (with_reducible exact HR369.out) | (with_reducible refine Kd.C_alloc ?_ _) | (with_reducible refine Kd.C_drewN ?_ _) | (with_reducible refine Kd.C_drew ?_) | exact HR369.out)) | (with_reducible refine Kd.C_alloc ?_ _) | (with_reducible refine Kd.C_drewN ?_ _) | (with_reducible refine Kd.C_drew ?_))); (case aB => exact (bl HB)); (case aF => exact (fun k_ hk => Kd.fresh' (Kd.R_lt (rad HO_3.out)) k_ hk)); (case aO => exact (rad HO365.out)); (case aS => exact (below_size (bl HB))); (case aL => have := LMc27.out; omega); intro v371 w30 ho hb hg hat; rw [← Ny370.out] at ho; have n0_ := Aside0.mk (Kd.R_after (ok := (fun _ => True)) (rad HO_3.out) hg hat); have n1_ := Aside0.mk (hb); have n2_ := Aside0.mk ((show Kd.C (Kd.int .u32) w30 A29 y366.length y366 from by rw [Ny366.out, KA29.out]; exact Kd.C_drop (m := (x7_2 : Int).toNat) (c := co7) ((Kd.R_reads' (Kd.R_after (ok := (fun _ => True)) (rad HO_3.out) hg hat)).2.2) KL29.out ((Kd.R_reads' (Kd.R_after (ok := (fun _ => True)) (rad HO_3.out) hg hat)).2.1))); have n3_ := Aside0.mk (ho); clear HO_3; clear HB; clear HR369; clear HO365; have HO_3 := n0_; have HB := n1_; have HR369 := n2_; have HO372 := n3_; clear n0_ n1_ n2_ n3_; clear ho hb hg hat))
                              repeat (go_quiet (first | ((with_reducible refine gate_builtin (b := .append) (xs := #[.tmp 45, .tmp 50]) rfl ?_); at_builtin; refine Kd.R_append (Kd.int .u32) (w0 := w) w.heap.size rfl (.tmp 45) (.tmp 50) 24 23 (.int .u32 0) 4 rfl Try.underlying24 info23 rfl (by decide) (by omega) u6 x6_2 (rd l0 x4_1) [.int .u32 (rd l0 x4_1)] (fun k_ => some k_ ≠ (.slice Ao7 x3_1.length co7 : Value).ownBlock) (fun _ => False) rfl rfl ?aP (fun _ hk => hk.elim) ?aF ?aO ?aB ?aS ?aL ?_; (case aP => exact rfl); (case aB => exact (bl HB)); (case aF => exact (fun k_ hk => Kd.fresh' (Kd.R_lt (rad HO_3.out)) k_ hk)); (case aO => exact (rad HO_6.out)); (case aS => exact (below_size (bl HB))); (case aL => have := LMc24.out; omega); intro v364 w28 ho hb hg hat; rw [← Ny363.out] at ho; have n0_ := Aside0.mk (Kd.R_after (ok := (fun _ => True)) (by refine rad ?_; exact Kd.R_mono HO_3.out (fun _ hk => ⟨trivial, hk⟩)) hg hat); have n1_ := Aside0.mk (hb); have n2_ := Aside0.mk (ho); clear HO_3; clear HB; clear HO_6; have HO_3 := n0_; have HB := n1_; have HO365 := n2_; clear n0_ n1_ n2_; clear ho hb hg hat; have q29 : (x7_2 : Int) ≤ ((x3_1.length : Int) : Int) := od; obtain ⟨i029, hi029, _, hsz29, _⟩ := info_parts info23; have hroom29 : x3_1.length ≤ co7 := (Kd.R_reads' HO_3.out).2.1; have hC29 : Kd.C (Kd.int .u32) _ Ao7 x3_1.length x3_1 := (Kd.R_reads' HO_3.out).2.2; have q029 : (0 : Int) ≤ (x7_2 : Int) := od; have hcut29 := cut_from (P := Try.prog) 24 23 .i64 Try.underlying24 hi029 1 hsz29 Ao7 x3_1.length co7 x7_2 q029 q29; have hr29 := Kd.C_drop (m := (x7_2 : Int).toNat) (c := co7) hC29 (by omega) hroom29; obtain ⟨A29, hA29⟩ : ∃ A1, A1 = (if co7 = (x7_2 : Int).toNat then Ao7 else (Ao7 : Option Addr).map (·.add ((x7_2 : Int).toNat * 1))) := ⟨_, rfl⟩; obtain ⟨c29, hc29⟩ : ∃ c1, c1 = co7 - (x7_2 : Int).toNat := ⟨_, rfl⟩; have hy29 : y366.length = x3_1.length - (x7_2 : Int).toNat := (by rw [Ny366.out, List.length_drop] <;> omega); rw [show (x3_1).drop (x7_2 : Int).toNat = y366 from Ny366.out.symm] at hr29; replace hr29 : Kd.C (Kd.int .u32) _ A29 y366.length y366 := (by rw [hA29]; exact hr29); rw [← hy29, ← hA29, ← hc29] at hcut29; have HR369 := Aside0.mk hr29; have HC369 := Aside0.mk (show y366.length ≤ c29 from by rw [hy29, hc29]; exact Nat.sub_le_sub_right hroom29 _); clear hr29 hC29 hroom29 hi029 hsz29 hc29; have KY29 := Aside0.mk hy29; have KA29 := Aside0.mk hA29; clear hy29 hA29; have KL29 := Aside0.mk (show (x7_2 : Int).toNat ≤ x3_1.length from by omega); replace q29 := eq_true q29) | ((with_reducible refine gate_builtin (b := .append) (xs := #[.tmp 52, .tmp 55]) rfl ?_); at_builtin; refine Kd.R_append_rows (Kd.int .u32) (w0 := w) w.heap.size rfl (.tmp 52) (.tmp 55) 24 23 (.int .u32 0) 4 rfl Try.underlying24 info23 rfl (by decide) (by omega) v364 y363 y366 _ _ _ (fun k_ => some k_ ≠ (.slice Ao7 x3_1.length co7 : Value).ownBlock) (fun _ => False) rfl rfl ?aO ?aR (fun _ _ h => h) (fun _ h => h.elim) ?aF ?aB ?aS ?aL ?_; (case aR => repeat (first | exact (by repeat (first | (with_reducible exact HR369.out) | (with_reducible refine Kd.C_alloc ?_ _) | (with_reducible refine Kd.C_drewN ?_ _) | (with_reducible refine Kd.C_drew ?_) | exact HR369.out)) | (with_reducible refine Kd.C_alloc ?_ _) | (with_reducible refine Kd.C_drewN ?_ _) | (with_reducible refine Kd.C_drew ?_))); (case aB => exact (bl HB)); (case aF => exact (fun k_ hk => Kd.fresh' (Kd.R_lt (rad HO_3.out)) k_ hk)); (case aO => exact (rad HO365.out)); (case aS => exact (below_size (bl HB))); (case aL => have := LMc27.out; omega); intro v371 w30 ho hb hg hat; rw [← Ny370.out] at ho; have n0_ := Aside0.mk (Kd.R_after (ok := (fun _ => True)) (rad HO_3.out) hg hat); have n1_ := Aside0.mk (hb); have n2_ := Aside0.mk ((show Kd.C (Kd.int .u32) w30 A29 y366.length y366 from by rw [Ny366.out, KA29.out]; exact Kd.C_drop (m := (x7_2 : Int).toNat) (c := co7) ((Kd.R_reads' (Kd.R_after (ok := (fun _ => True)) (rad HO_3.out) hg hat)).2.2) KL29.out ((Kd.R_reads' (Kd.R_after (ok := (fun _ => True)) (rad HO_3.out) hg hat)).2.1))); have n3_ := Aside0.mk (ho); clear HO_3; clear HB; clear HR369; clear HO365; have HO_3 := n0_; have HB := n1_; have HR369 := n2_; have HO372 := n3_; clear n0_ n1_ n2_ n3_; clear ho hb hg hat)); try go_wp2_with (first | ((with_reducible refine gate_builtin (b := .append) (xs := #[.tmp 45, .tmp 50]) rfl ?_); at_builtin; refine Kd.R_append (Kd.int .u32) (w0 := w) w.heap.size rfl (.tmp 45) (.tmp 50) 24 23 (.int .u32 0) 4 rfl Try.underlying24 info23 rfl (by decide) (by omega) u6 x6_2 (rd l0 x4_1) [.int .u32 (rd l0 x4_1)] (fun k_ => some k_ ≠ (.slice Ao7 x3_1.length co7 : Value).ownBlock) (fun _ => False) rfl rfl ?aP (fun _ hk => hk.elim) ?aF ?aO ?aB ?aS ?aL ?_; (case aP => exact rfl); (case aB => exact (bl HB)); (case aF => exact (fun k_ hk => Kd.fresh' (Kd.R_lt (rad HO_3.out)) k_ hk)); (case aO => exact (rad HO_6.out)); (case aS => exact (below_size (bl HB))); (case aL => have := LMc24.out; omega); intro v364 w28 ho hb hg hat; rw [← Ny363.out] at ho; have n0_ := Aside0.mk (Kd.R_after (ok := (fun _ => True)) (by refine rad ?_; exact Kd.R_mono HO_3.out (fun _ hk => ⟨trivial, hk⟩)) hg hat); have n1_ := Aside0.mk (hb); have n2_ := Aside0.mk (ho); clear HO_3; clear HB; clear HO_6; have HO_3 := n0_; have HB := n1_; have HO365 := n2_; clear n0_ n1_ n2_; clear ho hb hg hat; have q29 : (x7_2 : Int) ≤ ((x3_1.length : Int) : Int) := od; obtain ⟨i029, hi029, _, hsz29, _⟩ := info_parts info23; have hroom29 : x3_1.length ≤ co7 := (Kd.R_reads' HO_3.out).2.1; have hC29 : Kd.C (Kd.int .u32) _ Ao7 x3_1.length x3_1 := (Kd.R_reads' HO_3.out).2.2; have q029 : (0 : Int) ≤ (x7_2 : Int) := od; have hcut29 := cut_from (P := Try.prog) 24 23 .i64 Try.underlying24 hi029 1 hsz29 Ao7 x3_1.length co7 x7_2 q029 q29; have hr29 := Kd.C_drop (m := (x7_2 : Int).toNat) (c := co7) hC29 (by omega) hroom29; obtain ⟨A29, hA29⟩ : ∃ A1, A1 = (if co7 = (x7_2 : Int).toNat then Ao7 else (Ao7 : Option Addr).map (·.add ((x7_2 : Int).toNat * 1))) := ⟨_, rfl⟩; obtain ⟨c29, hc29⟩ : ∃ c1, c1 = co7 - (x7_2 : Int).toNat := ⟨_, rfl⟩; have hy29 : y366.length = x3_1.length - (x7_2 : Int).toNat := (by rw [Ny366.out, List.length_drop] <;> omega); rw [show (x3_1).drop (x7_2 : Int).toNat = y366 from Ny366.out.symm] at hr29; replace hr29 : Kd.C (Kd.int .u32) _ A29 y366.length y366 := (by rw [hA29]; exact hr29); rw [← hy29, ← hA29, ← hc29] at hcut29; have HR369 := Aside0.mk hr29; have HC369 := Aside0.mk (show y366.length ≤ c29 from by rw [hy29, hc29]; exact Nat.sub_le_sub_right hroom29 _); clear hr29 hC29 hroom29 hi029 hsz29 hc29; have KY29 := Aside0.mk hy29; have KA29 := Aside0.mk hA29; clear hy29 hA29; have KL29 := Aside0.mk (show (x7_2 : Int).toNat ≤ x3_1.length from by omega); replace q29 := eq_true q29) | ((with_reducible refine gate_builtin (b := .append) (xs := #[.tmp 52, .tmp 55]) rfl ?_); at_builtin; refine Kd.R_append_rows (Kd.int .u32) (w0 := w) w.heap.size rfl (.tmp 52) (.tmp 55) 24 23 (.int .u32 0) 4 rfl Try.underlying24 info23 rfl (by decide) (by omega) v364 y363 y366 _ _ _ (fun k_ => some k_ ≠ (.slice Ao7 x3_1.length co7 : Value).ownBlock) (fun _ => False) rfl rfl ?aO ?aR (fun _ _ h => h) (fun _ h => h.elim) ?aF ?aB ?aS ?aL ?_; (case aR => repeat (first | exact (by repeat (first | (with_reducible exact HR369.out) | (with_reducible refine Kd.C_alloc ?_ _) | (with_reducible refine Kd.C_drewN ?_ _) | (with_reducible refine Kd.C_drew ?_) | exact HR369.out)) | (with_reducible refine Kd.C_alloc ?_ _) | (with_reducible refine Kd.C_drewN ?_ _) | (with_reducible refine Kd.C_drew ?_))); (case aB => exact (bl HB)); (case aF => exact (fun k_ hk => Kd.fresh' (Kd.R_lt (rad HO_3.out)) k_ hk)); (case aO => exact (rad HO365.out)); (case aS => exact (below_size (bl HB))); (case aL => have := LMc27.out; omega); intro v371 w30 ho hb hg hat; rw [← Ny370.out] at ho; have n0_ := Aside0.mk (Kd.R_after (ok := (fun _ => True)) (rad HO_3.out) hg hat); have n1_ := Aside0.mk (hb); have n2_ := Aside0.mk ((show Kd.C (Kd.int .u32) w30 A29 y366.length y366 from by rw [Ny366.out, KA29.out]; exact Kd.C_drop (m := (x7_2 : Int).toNat) (c := co7) ((Kd.R_reads' (Kd.R_after (ok := (fun _ => True)) (rad HO_3.out) hg hat)).2.2) KL29.out ((Kd.R_reads' (Kd.R_after (ok := (fun _ => True)) (rad HO_3.out) hg hat)).2.1))); have n3_ := Aside0.mk (ho); clear HO_3; clear HB; clear HR369; clear HO365; have HO_3 := n0_; have HB := n1_; have HR369 := n2_; have HO372 := n3_; clear n0_ n1_ n2_ n3_; clear ho hb hg hat)))
                              go_roundg k2
                              case measure => have := HK1.out; have := HK2.out; omega
                              case rel => exact ⟨(y370), (wrap64 (x4_1 + 1)), (fr), H', ⟨by have := HK1.out; have := HK2.out; omega⟩, ⟨by refine rad ?_; exact Kd.R_mono HO372.out (fun _ hk => trivial)⟩, ⟨bl HB⟩⟩
                            · rw [if_neg c27] at H
                              exact absurd H (by simp)
                          · rw [if_neg c26] at H
                            exact absurd H (by simp)
                        · rw [if_neg c25] at H
                          exact absurd H (by simp)
                      · rw [if_neg c24] at H
                        exact absurd H (by simp)
                    · rw [if_neg c23] at H
                      exact absurd H (by simp)
                  · rw [if_neg c22] at H
                    exact absurd H (by simp)
        · rw [if_neg c3] at H
          exact absurd H (by simp)
      · rw [if_neg c2] at H
        have c2b0 : decide (x4_1 < (l0.length : Int)) = false := decide_eq_false c2
        clear c2
        obtain rfl := Option.some.inj H
        go_wp2
        repeat (go_quiet (fail); try go_wp2)
        go_ret
        exact ⟨_, by first | rfl | (simp [errW_none, errW_some] <;> rfl) | (simp [*, errW_none, errW_some] <;> rfl), rad HO_3.out, bl HB⟩
/-! ### stolonref06_Union: function 72 -/
def stolonref06_Union.f (k : Nat) (l0 : List Int) (l1 : List Int) : Option (List Int) := (some (([] : List Int) : List Int)).bind fun y373 => (if y373.length + l0.length < 35184372088832 then ((some (y373 ++ l0 : List Int)).bind fun y376 => (if y376.length + l1.length < 35184372088832 then ((stolonref06_Make.f k (y376 ++ l1)).bind fun t382 => (some t382)) else (none))) else (none))
theorem stolonref06_Union.mono : ∀ a0 a1 k, LeO (stolonref06_Union.f k a0 a1) (stolonref06_Union.f (k + 1) a0 a1) := by
  intro a0 a1 k
  unfold stolonref06_Union.f
  repeat' first
      | (with_reducible exact stolonref06_Make.mono _ _)
      | (with_reducible exact LeO.refl _)
      | (with_reducible exact LeO.none _)
      | (with_reducible refine LeO.ite ?_ ?_)
      | (with_reducible refine LeO.bind ?_ (fun _ => ?_))
      | exact stolonref06_Make.mono _ _
      | exact LeO.none _
      | refine LeO.ite ?_ ?_
      | refine LeO.bind ?_ (fun _ => ?_)
theorem stolonref06_Union.calls (k : Nat) (A0 : Option Addr) (c0 : Nat) (l0 : List Int) (A1 : Option Addr) (c1 : Nat) (l1 : List Int) (r : List Int) (w : World) (hr0 : Kd.C (Kd.int .u32) w A0 l0.length l0) (hc0 : l0.length ≤ c0) (hr1 : Kd.C (Kd.int .u32) w A1 l1.length l1) (hc1 : l1.length ≤ c1) (h : stolonref06_Union.f k l0 l1 = some r) :
    Calls Try.prog 72 #[.slice A0 l0.length c0, .slice A1 l1.length c1] w fun e w' => ∃ v0_ : Value, e = .returned (v0_) ∧ Kd.R (Kd.int .u32) 23 w' w.heap.size (fun _ => True) v0_ r ∧ Below w.heap.size w w' := by
  have HR0 := Aside0.mk hr0
  have HC0 := Aside0.mk hc0
  clear hr0 hc0
  have HR1 := Aside0.mk hr1
  have HC1 := Aside0.mk hc1
  clear hr1 hc1
  have HB := Aside0.mk (Below.refl w.heap.size w)
  have H : ((some (([] : List Int) : List Int)).bind fun y373 => (if y373.length + l0.length < 35184372088832 then ((some (y373 ++ l0 : List Int)).bind fun y376 => (if y376.length + l1.length < 35184372088832 then ((stolonref06_Make.f k (y376 ++ l1)).bind fun t382 => (some t382)) else (none))) else (none))) = some r := h
  clear h
  obtain ⟨y373, hy373⟩ : ∃ y_ : List Int, y_ = (([] : List Int)) := ⟨_, rfl⟩
  replace H : (if y373.length + l0.length < 35184372088832 then ((some (y373 ++ l0 : List Int)).bind fun y376 => (if y376.length + l1.length < 35184372088832 then ((stolonref06_Make.f k (y376 ++ l1)).bind fun t382 => (some t382)) else (none))) else (none)) = some r := by first | (rw [hy373]; with_reducible exact H) | (have H2_ := (Option.bind_some _ _).symm.trans H; rw [hy373]; with_reducible exact H2_) | (have H2_ := (Option.bind_some _ _).symm.trans H; with_reducible exact H2_) | with_reducible exact H | (rw [hy373]; exact H) | exact H
  have Ny373 := Aside0.mk hy373
  clear hy373
  by_cases c3 : y373.length + l0.length < 35184372088832
  · rw [if_pos c3] at H
    have LMc3 := Aside0.mk c3
    clear c3
    obtain ⟨y376, hy376⟩ : ∃ y_ : List Int, y_ = (y373 ++ l0) := ⟨_, rfl⟩
    replace H : (if y376.length + l1.length < 35184372088832 then ((stolonref06_Make.f k (y376 ++ l1)).bind fun t382 => (some t382)) else (none)) = some r := by first | (rw [hy376]; with_reducible exact H) | (have H2_ := (Option.bind_some _ _).symm.trans H; rw [hy376]; with_reducible exact H2_) | (have H2_ := (Option.bind_some _ _).symm.trans H; with_reducible exact H2_) | with_reducible exact H | (rw [hy376]; exact H) | exact H
    have Ny376 := Aside0.mk hy376
    clear hy376
    by_cases c4 : y376.length + l1.length < 35184372088832
    · rw [if_pos c4] at H
      have LMc4 := Aside0.mk c4
      clear c4
      obtain ⟨y379, hy379⟩ : ∃ y_ : List Int, y_ = (y376 ++ l1) := ⟨_, rfl⟩
      replace H : ((stolonref06_Make.f k y379).bind fun t382 => (some t382)) = some r := by first | (rw [hy379]; with_reducible exact H) | (have H2_ := (Option.bind_some _ _).symm.trans H; rw [hy379]; with_reducible exact H2_) | (have H2_ := (Option.bind_some _ _).symm.trans H; with_reducible exact H2_) | with_reducible exact H | (rw [hy379]; exact H) | exact H
      have Ny379 := Aside0.mk hy379
      clear hy379
      replace H := Option.bind_eq_some_iff.mp H
      obtain ⟨t382, A50, H⟩ := H
      replace H : (some t382) = some r := H
      have A5 := Aside0.mk A50
      clear A50
      obtain rfl := Option.some.inj H
      go_enter Try.func72, Try.ntmps72
      go_wp2_with (first | ((with_reducible refine gate_dst (N := 5) rfl ?_); refine Kd.R_lit (Kd.int .u32) _ 23 ?hg (N := 5) ?hd (xs := ([] : List Int)) (inner := []) (ok := fun _ => True) (okp := fun _ => True) ?hr ?hp (fun _ hk => hk) trivial (Below.refl _ _) (Nat.le_refl _) (by simp) ?_; (case hd => rfl); (case hg => rfl); (case hr => first | (go_simp; done) | (go_simp; rfl)); (case hp => exact (Reps.none _ _)); intro v374 w6 ho7 hb hg_ hnew_; clear hg_ hnew_; (first | rw [← Ny373.out] at ho7 | (simp only [Int.reduceToNat] at ho7; rw [← Ny373.out] at ho7)); have HO375 := Aside0.mk (Kd.R_lower ho7 (below_size (bl HB))); replace HB := Aside0.mk (below_step (bl HB) hb); clear hb ho7) | ((with_reducible refine gate_builtin (b := .append) (xs := #[.tmp 5, .tmp 6]) rfl ?_); at_builtin; refine Kd.R_append_rows (Kd.int .u32) (w0 := w) w.heap.size rfl (.tmp 5) (.tmp 6) 24 23 (.int .u32 0) 4 rfl Try.underlying24 info23 rfl (by decide) (by omega) v374 y373 l0 _ _ _ (fun _ => True) (fun _ => False) rfl rfl ?aO ?aR (fun _ _ h => h) (fun _ h => h.elim) ?aF ?aB ?aS ?aL ?_; (case aR => repeat (first | exact (Kd.C_below HR0.out HB.out) | (with_reducible refine Kd.C_alloc ?_ _) | (with_reducible refine Kd.C_drewN ?_ _) | (with_reducible refine Kd.C_drew ?_))); (case aB => exact (bl HB)); (case aF => exact (fun _ _ => trivial)); (case aO => exact (rad HO375.out)); (case aS => exact (below_size (bl HB))); (case aL => have := LMc3.out; omega); intro v377 w8 ho hb hg hat; rw [← Ny376.out] at ho; have n0_ := Aside0.mk (hb); have n1_ := Aside0.mk (ho); clear HB; clear HO375; have HB := n0_; have HO378 := n1_; clear n0_ n1_; clear ho hb hg hat) | ((with_reducible refine gate_builtin (b := .append) (xs := #[.tmp 7, .tmp 8]) rfl ?_); at_builtin; refine Kd.R_append_rows (Kd.int .u32) (w0 := w) w.heap.size rfl (.tmp 7) (.tmp 8) 24 23 (.int .u32 0) 4 rfl Try.underlying24 info23 rfl (by decide) (by omega) v377 y376 l1 _ _ _ (fun _ => True) (fun _ => False) rfl rfl ?aO ?aR (fun _ _ h => h) (fun _ h => h.elim) ?aF ?aB ?aS ?aL ?_; (case aR => repeat (first | exact (Kd.C_below HR1.out HB.out) | (with_reducible refine Kd.C_alloc ?_ _) | (with_reducible refine Kd.C_drewN ?_ _) | (with_reducible refine Kd.C_drew ?_))); (case aB => exact (bl HB)); (case aF => exact (fun _ _ => trivial)); (case aO => exact (rad HO378.out)); (case aS => exact (below_size (bl HB))); (case aL => have := LMc4.out; omega); intro v380 w9 ho hb hg hat; rw [← Ny379.out] at ho; have n0_ := Aside0.mk (hb); have n1_ := Aside0.mk (ho); clear HB; clear HO378; have HB := n0_; have HO381 := n1_; clear n0_ n1_; clear ho hb hg hat; obtain ⟨Ao10, co10, eo10⟩ := Kd.R_slice HO381.out; subst eo10) | ((with_reducible refine gate_callee (f := 80) rfl ?_); refine goesL_ (some 10) rfl rfl Try.func80 (by kernel_rfl) rfl #[.slice Ao10 y379.length co10] rfl (by (try simp only [List.map_toArray, List.map_cons, List.map_nil]); first | done | rfl | (simp only [List.length_drop, List.length_take]; rfl)) ?_; (with_reducible refine (stolonref06_Make.calls k _ _ y379 t382 _ ?side1 ?side2 A5.out).mono ?_); (case side1 => exact ca (Kd.R_reads' HO381.out).2.2); (case side2 => exact (Kd.R_reads' HO381.out).2.1); rintro e w11 ⟨v383, rfl, ho0, hb⟩; refine ⟨_, rfl, ?_⟩; have n0_ := Aside0.mk (Kd.R_elder' (rad HO381.out) (Kd.R_base ho0) hb); have n1_ := Aside0.mk (Kd.R_lower (Kd.R_new' ho0 (Kd.R_lt (rad HO381.out))) (below_size (bl HB))); have n2_ := Aside0.mk (below_step (bl HB) hb); clear HO381; clear HB; have HO381 := n0_; have HO384 := n1_; have HB := n2_; clear n0_ n1_ n2_; (try clear hb); (try clear hb2); (try clear hk); (try clear hi); (try clear ho0)))
      go_ret
      exact ⟨_, by first | rfl | (simp [errW_none, errW_some] <;> rfl) | (simp [*, errW_none, errW_some] <;> rfl), by refine rad ?_; exact Kd.R_mono HO384.out (fun _ hk => trivial), bl HB⟩
    · rw [if_neg c4] at H
      exact absurd H (by simp)
  · rw [if_neg c3] at H
    exact absurd H (by simp)
/-! ### stolonref06_Inter: function 73 -/
def stolonref06_Inter.l0 : Nat → List Int → List Int → List Int → Int → Option (List Int)
  | 0, _, _, _, _ => none
  | k + 1, x0, x1, x5, x6 => if x6 < (x0.length : Int) then (if 0 ≤ x6 then ((stolonref06_Has.f k x1 (rd x0 x6)).bind fun t386 => (if t386 = true then (if x5.length < 35184372088832 then (stolonref06_Inter.l0 k x0 x1 (x5 ++ [rd x0 x6]) (wrap64 (x6 + 1))) else (none)) else (stolonref06_Inter.l0 k x0 x1 x5 (wrap64 (x6 + 1))))) else (none)) else (some x5)
def stolonref06_Inter.f (k : Nat) (l0 : List Int) (l1 : List Int) : Option (List Int) := stolonref06_Inter.l0 k l0 l1 ([] : List Int) 0
theorem stolonref06_Inter.mono_l : ∀ k, (∀ y0 y1 y2 y3, LeO (stolonref06_Inter.l0 k y0 y1 y2 y3) (stolonref06_Inter.l0 (k + 1) y0 y1 y2 y3))
  | 0 => fun _ _ _ _ r h => by simp [stolonref06_Inter.l0] at h
  | k + 1 => by
    have ih0 := stolonref06_Inter.mono_l k
    · intro y0 y1 y2 y3
      unfold stolonref06_Inter.l0
      repeat' first
      | (with_reducible exact ih0 _ _ _ _)
      | (with_reducible exact stolonref06_Has.mono _ _ _)
      | (with_reducible exact LeO.refl _)
      | (with_reducible exact LeO.none _)
      | (with_reducible refine LeO.ite ?_ ?_)
      | (with_reducible refine LeO.bind ?_ (fun _ => ?_))
      | exact ih0 _ _ _ _
      | exact stolonref06_Has.mono _ _ _
      | exact LeO.none _
      | refine LeO.ite ?_ ?_
      | refine LeO.bind ?_ (fun _ => ?_)
theorem stolonref06_Inter.mono : ∀ a0 a1 k, LeO (stolonref06_Inter.f k a0 a1) (stolonref06_Inter.f (k + 1) a0 a1) := by
  intro a0 a1 k
  have ih0 := stolonref06_Inter.mono_l k
  unfold stolonref06_Inter.f
  repeat' first
      | (with_reducible exact ih0 _ _ _ _)
      | (with_reducible exact stolonref06_Has.mono _ _ _)
      | (with_reducible exact LeO.refl _)
      | (with_reducible exact LeO.none _)
      | (with_reducible refine LeO.ite ?_ ?_)
      | (with_reducible refine LeO.bind ?_ (fun _ => ?_))
      | exact ih0 _ _ _ _
      | exact stolonref06_Has.mono _ _ _
      | exact LeO.none _
      | refine LeO.ite ?_ ?_
      | refine LeO.bind ?_ (fun _ => ?_)
theorem stolonref06_Inter.calls (k : Nat) (A0 : Option Addr) (c0 : Nat) (l0 : List Int) (A1 : Option Addr) (c1 : Nat) (l1 : List Int) (r : List Int) (w : World) (hr0 : Kd.C (Kd.int .u32) w A0 l0.length l0) (hc0 : l0.length ≤ c0) (hr1 : Kd.C (Kd.int .u32) w A1 l1.length l1) (hc1 : l1.length ≤ c1) (h : stolonref06_Inter.f k l0 l1 = some r) :
    Calls Try.prog 73 #[.slice A0 l0.length c0, .slice A1 l1.length c1] w fun e w' => ∃ v0_ : Value, e = .returned (v0_) ∧ Kd.R (Kd.int .u32) 23 w' w.heap.size (fun _ => True) v0_ r ∧ Below w.heap.size w w' := by
  have HR0 := Aside0.mk hr0
  have HC0 := Aside0.mk hc0
  clear hr0 hc0
  have HR1 := Aside0.mk hr1
  have HC1 := Aside0.mk hc1
  clear hr1 hc1
  have HB := Aside0.mk (Below.refl w.heap.size w)
  have H : (stolonref06_Inter.l0 k l0 l1 ([] : List Int) 0) = some r := h
  clear h
  have H' := Aside0.mk H
  clear H
  go_enter Try.func73, Try.ntmps73
  go_wp2
  go_loopg [5, 6] k (fun kq v5 v6 w' => ∃ (x5_1 : List Int) (x6_1 : Int), v6 = .int .i64 x6_1 ∧ Aside0 (stolonref06_Inter.l0 kq l0 l1 x5_1 x6_1 = some r) ∧ Aside0 (kq ≤ k) ∧ Aside0 (Kd.R (Kd.int .u32) 23 w' w.heap.size (fun _ => True) v5 x5_1) ∧ Aside0 (Below w.heap.size w w'))
  case atStart => exact ⟨(([] : List Int)), (0), (fr), H', ⟨Nat.le_refl _⟩, ⟨nl⟩, ⟨bl HB⟩⟩
  case round =>
    clear H'
    try clear c1
    try clear p2
    obtain ⟨x5_1, x6_1, rfl, HA, HK1, HO_5, HB⟩ := hrel
    cases gk with
    | zero => exact absurd HA.out (by simp [stolonref06_Inter.l0])
    | succ k1 =>
      have H := HA.out
      clear HA
      simp only [stolonref06_Inter.l0] at H
      by_cases c3 : x6_1 < (l0.length : Int)
      · rw [if_pos c3] at H
        have c3b0 : decide (x6_1 < (l0.length : Int)) = true := decide_eq_true c3
        clear c3
        by_cases c4 : 0 ≤ x6_1
        · rw [if_pos c4] at H
          have c4b0 : decide (0 ≤ x6_1) = true := decide_eq_true c4
          clear c4
          replace H := Option.bind_eq_some_iff.mp H
          obtain ⟨t386, A50, H⟩ := H
          replace H : (if t386 = true then (if x5_1.length < 35184372088832 then (stolonref06_Inter.l0 k1 l0 l1 (x5_1 ++ [rd l0 x6_1]) (wrap64 (x6_1 + 1))) else (none)) else (stolonref06_Inter.l0 k1 l0 l1 x5_1 (wrap64 (x6_1 + 1)))) = some r := H
          have A5 := Aside0.mk A50
          clear A50
          by_cases c6 : t386 = true
          · subst c6
            replace H : (if x5_1.length < 35184372088832 then (stolonref06_Inter.l0 k1 l0 l1 (x5_1 ++ [rd l0 x6_1]) (wrap64 (x6_1 + 1))) else (none)) = some r := by rw [if_pos rfl] at H; exact H
            by_cases c7 : x5_1.length < 35184372088832
            · rw [if_pos c7] at H
              have LMc7 := Aside0.mk c7
              clear c7
              obtain ⟨y388, hy388⟩ : ∃ y_ : List Int, y_ = (x5_1 ++ [rd l0 x6_1]) := ⟨_, rfl⟩
              replace H : (stolonref06_Inter.l0 k1 l0 l1 y388 (wrap64 (x6_1 + 1))) = some r := by first | (rw [hy388]; with_reducible exact H) | (have H2_ := (Option.bind_some _ _).symm.trans H; rw [hy388]; with_reducible exact H2_) | (have H2_ := (Option.bind_some _ _).symm.trans H; with_reducible exact H2_) | with_reducible exact H | (rw [hy388]; exact H) | exact H
              have Ny388 := Aside0.mk hy388
              clear hy388
              have H' := Aside0.mk H
              clear H
              have p385 : 0 ≤ (x6_1 : Int) := od
              have q385 : x6_1 < (l0.length : Int) := od
              obtain ⟨ad385, e385, hx385_0⟩ := Kd.at_int HR0.out x6_1 p385 q385
              cases e385
              replace hx385_0 := hcz HB hx385_0
              replace p385 := eq_true p385
              replace q385 := eq_true q385
              go_wp2_with (first | ((with_reducible refine gate_callee (f := 12) rfl ?_); refine goesL_ (some 19) rfl rfl Try.func12 (by kernel_rfl) rfl #[.slice A1 l1.length c1, .int .u32 (rd l0 x6_1)] rfl (by (try simp only [List.map_toArray, List.map_cons, List.map_nil]); first | done | rfl | (simp only [List.length_drop, List.length_take]; rfl)) ?_; (with_reducible refine (stolonref06_Has.calls k1 _ _ l1 (rd l0 x6_1) true _ ?side1 ?side2 A5.out).mono ?_); (case side1 => exact ca (Kd.C_below HR1.out HB.out)); (case side2 => exact HC1.out); rintro e w' ⟨rfl, ⟨nd, rfl⟩⟩; refine ⟨_, rfl, ?_⟩; have p387 : 0 ≤ (x6_1 : Int) := od; have q387 : x6_1 < (l0.length : Int) := od; obtain ⟨ad387, e387, hx387_0⟩ := Kd.at_int HR0.out x6_1 p387 q387; obtain rfl : ad385 = ad387 := (by injection e387); replace hx387_0 := hcz HB hx387_0; replace p387 := eq_true p387; replace q387 := eq_true q387) | ((with_reducible refine gate_builtin (b := .append) (xs := #[.tmp 21, .tmp 26]) rfl ?_); at_builtin; refine Kd.R_append (Kd.int .u32) (w0 := w) w.heap.size rfl (.tmp 21) (.tmp 26) 24 23 (.int .u32 0) 4 rfl Try.underlying24 info23 rfl (by decide) (by omega) u5 x5_1 (rd l0 x6_1) [.int .u32 (rd l0 x6_1)] (fun _ => True) (fun _ => False) rfl rfl ?aP (fun _ hk => hk.elim) ?aF ?aO ?aB ?aS ?aL ?_; (case aP => exact rfl); (case aB => exact (bl HB)); (case aF => exact (fun _ _ => trivial)); (case aO => exact (rad HO_5.out)); (case aS => exact (below_size (bl HB))); (case aL => have := LMc7.out; omega); intro v389 w8 ho hb hg hat; rw [← Ny388.out] at ho; have n0_ := Aside0.mk (hb); have n1_ := Aside0.mk (ho); clear HB; clear HO_5; have HB := n0_; have HO390 := n1_; clear n0_ n1_; clear ho hb hg hat))
              go_roundg k1
              case measure => have := HK1.out; omega
              case rel => exact ⟨(y388), (wrap64 (x6_1 + 1)), (fr), H', ⟨by have := HK1.out; omega⟩, ⟨rad HO390.out⟩, ⟨bl HB⟩⟩
            · rw [if_neg c7] at H
              exact absurd H (by simp)
          · replace c6 := Bool.eq_false_iff.mpr c6
            subst c6
            replace H : (stolonref06_Inter.l0 k1 l0 l1 x5_1 (wrap64 (x6_1 + 1))) = some r := by rw [if_neg (show ¬ (false = true) by decide)] at H; exact H
            have H' := Aside0.mk H
            clear H
            have p385 : 0 ≤ (x6_1 : Int) := od
            have q385 : x6_1 < (l0.length : Int) := od
            obtain ⟨ad385, e385, hx385_0⟩ := Kd.at_int HR0.out x6_1 p385 q385
            cases e385
            replace hx385_0 := hcz HB hx385_0
            replace p385 := eq_true p385
            replace q385 := eq_true q385
            go_wp2_with (first | ((with_reducible refine gate_callee (f := 12) rfl ?_); refine goesL_ (some 19) rfl rfl Try.func12 (by kernel_rfl) rfl #[.slice A1 l1.length c1, .int .u32 (rd l0 x6_1)] rfl (by (try simp only [List.map_toArray, List.map_cons, List.map_nil]); first | done | rfl | (simp only [List.length_drop, List.length_take]; rfl)) ?_; (with_reducible refine (stolonref06_Has.calls k1 _ _ l1 (rd l0 x6_1) false _ ?side1 ?side2 A5.out).mono ?_); (case side1 => exact ca (Kd.C_below HR1.out HB.out)); (case side2 => exact HC1.out); rintro e w' ⟨rfl, ⟨nd, rfl⟩⟩; refine ⟨_, rfl, ?_⟩))
            go_roundg k1
            case measure => have := HK1.out; omega
            case rel => exact ⟨(x5_1), (wrap64 (x6_1 + 1)), (fr), H', ⟨by have := HK1.out; omega⟩, ⟨rad HO_5.out⟩, ⟨bl HB⟩⟩
        · rw [if_neg c4] at H
          exact absurd H (by simp)
      · rw [if_neg c3] at H
        have c3b0 : decide (x6_1 < (l0.length : Int)) = false := decide_eq_false c3
        clear c3
        obtain rfl := Option.some.inj H
        go_wp2
        go_ret
        exact ⟨_, by first | rfl | (simp [errW_none, errW_some] <;> rfl) | (simp [*, errW_none, errW_some] <;> rfl), rad HO_5.out, bl HB⟩
/-! ### stolonref06_Filter: function 59 -/
def stolonref06_Filter.l0 : Nat → List (S26) → List Int → List Int → Bool → Int → Option (Bool × List Int)
 | 0, _, _, _, _, _ => none
 | k + 1, x0, x3, x4, x5, x6 => if x6 < (x0.length : Int) then (if 0 ≤ x6 then (if ((rd_T26 x0 x6).f0 = true) then (if x5 = true then ((stolonref06_Inter.f k x4 ((rd_T26 x0 x6).f1)).bind fun t324 => (stolonref06_Filter.l0 k x0 x3 t324 x5 (wrap64 (x6 + 1)))) else (stolonref06_Filter.l0 k x0 x3 ((rd_T26 x0 x6).f1) true (wrap64 (x6 + 1)))) else ((stolonref06_Union.f k x3 ((rd_T26 x0 x6).f1)).bind fun t329 => (stolonref06_Filter.l0 k x0 t329 x4 x5 (wrap64 (x6 + 1))))) else (none)) else (if x5 = true then ((stolonref06_Minus.f k x4 x3).bind fun t319 => (some (true, t319))) else (some (false, x3)))
def stolonref06_Filter.f (k : Nat) (l0 : List (S26)) : Option (Bool × List Int) := stolonref06_Filter.l0 k l0 ([] : List Int) ([] : List Int) false 0
theorem stolonref06_Filter.mono_l : ∀ k, (∀ y0 y1 y2 y3 y4, LeO (stolonref06_Filter.l0 k y0 y1 y2 y3 y4) (stolonref06_Filter.l0 (k + 1) y0 y1 y2 y3 y4))
 | 0 => fun _ _ _ _ _ r h => by simp [stolonref06_Filter.l0] at h
 | k + 1 => by
  have ih0 := stolonref06_Filter.mono_l k
  · intro y0 y1 y2 y3 y4
    unfold stolonref06_Filter.l0
    repeat' first
    | (with_reducible exact ih0 _ _ _ _ _)
    | (with_reducible exact stolonref06_Inter.mono _ _ _)
    | (with_reducible exact stolonref06_Minus.mono _ _ _)
    | (with_reducible exact stolonref06_Union.mono _ _ _)
    | (with_reducible exact LeO.refl _)
    | (with_reducible exact LeO.none _)
    | (with_reducible refine LeO.ite ?_ ?_)
    | (with_reducible refine LeO.bind ?_ (fun _ => ?_))
    | exact ih0 _ _ _ _ _
    | exact stolonref06_Inter.mono _ _ _
    | exact stolonref06_Minus.mono _ _ _
    | exact stolonref06_Union.mono _ _ _
    | exact LeO.none _
    | refine LeO.ite ?_ ?_
    | refine LeO.bind ?_ (fun _ => ?_)
theorem stolonref06_Filter.mono : ∀ a0 k, LeO (stolonref06_Filter.f k a0) (stolonref06_Filter.f (k + 1) a0) := by
 intro a0 k
 have ih0 := stolonref06_Filter.mono_l k
 unfold stolonref06_Filter.f
 repeat' first
  | (with_reducible exact ih0 _ _ _ _ _)
  | (with_reducible exact stolonref06_Inter.mono _ _ _)
  | (with_reducible exact stolonref06_Minus.mono _ _ _)
  | (with_reducible exact stolonref06_Union.mono _ _ _)
  | (with_reducible exact LeO.refl _)
  | (with_reducible exact LeO.none _)
  | (with_reducible refine LeO.ite ?_ ?_)
  | (with_reducible refine LeO.bind ?_ (fun _ => ?_))
  | exact ih0 _ _ _ _ _
  | exact stolonref06_Inter.mono _ _ _
  | exact stolonref06_Minus.mono _ _ _
  | exact stolonref06_Union.mono _ _ _
  | exact LeO.none _
  | refine LeO.ite ?_ ?_
  | refine LeO.bind ?_ (fun _ => ?_)
theorem stolonref06_Filter.calls (k : Nat) (P0_ : Nat → Prop) (A0 : Option Addr) (c0 : Nat) (l0 : List (S26)) (r1 : Bool) (r2 : List Int) (w : World) (hs0 : Kd.V k26 26 w w.heap.size (fun k_ => P0_ k_) (.slice A0 l0.length c0) l0) (h : stolonref06_Filter.f k l0 = some (r1, r2)) :
 Calls Try.prog 59 #[.slice A0 l0.length c0] w fun e w' => ∃ v1_ : Value, e = .returned (.agg #[.bool r1, v1_]) ∧ Kd.R (Kd.int .u32) 23 w' w.heap.size (fun k_ => (w.heap.size ≤ k_)) v1_ r2 ∧ Below w.heap.size w w' := by
 have hu26 := Try.underlying26
 have HO0 := Aside0.mk (show Kd.V k26 26 w w.heap.size (fun k_ => (P0_ k_ ∨ w.heap.size ≤ k_)) (.slice A0 l0.length c0) l0 from Kd.V_mono hs0 (fun k_ hk => .inl hk))
 have HB := Aside0.mk (Below.refl w.heap.size w)
 have H : (stolonref06_Filter.l0 k l0 ([] : List Int) ([] : List Int) false 0) = some (r1, r2) := h
 clear h
 have H' := Aside0.mk H
 clear H
 go_enter Try.func59, Try.ntmps59
 go_wp2_with (first | ((with_reducible refine gate_dst (N := 2) rfl ?_); refine bxn (cs := #[.bool false, .slice none 0 0]) (t := 26) ?_; intro gb318 hg w2 hbox hb; have n0_ := Aside0.mk (Kd.V_below (Kd.V_elderB (rad HO0.out) gb318 (Nat.le_of_eq hg.symm)) hb); have n1_ := Aside0.mk (below_step HB.out hb); have n2_ := Aside0.mk (hbox); have n3_ := Aside0.mk ((by rw [hg]; exact (below_size HB.out) : w.heap.size ≤ gb318)); have n4_ := Aside0.mk ((by rw [hg]; exact (below_size HB.out) : w.heap.size ≤ gb318)); clear HO0; clear HB; have HO0 := n0_; have HB := n1_; have BK318 := n2_; have GW318 := n3_; have GE318 := n4_; clear n0_ n1_ n2_ n3_ n4_; clear hb hbox hg))
 go_loopg [3, 4, 5, 6] k (fun kq v3 v4 v5 v6 w' => ∃ (x3_1 : List Int) (x4_1 : List Int) (x5_1 : Bool) (x6_1 : Int), v5 = .bool x5_1 ∧ v6 = .int .i64 x6_1 ∧ Aside0 (stolonref06_Filter.l0 kq l0 x3_1 x4_1 x5_1 x6_1 = some (r1, r2)) ∧ Aside0 (kq ≤ k) ∧ Aside0 (Kd.V k26 26 w' w.heap.size (fun k_ => (P0_ k_ ∨ w.heap.size ≤ k_) ∧ some k_ ≠ (v3 : Value).ownBlock ∧ k_ ≠ gb318) (.slice A0 l0.length c0) l0) ∧ Aside0 (Kd.R (Kd.int .u32) 23 w' w.heap.size (fun k_ => (w.heap.size ≤ k_)) v3 x3_1) ∧ Aside0 (Kd.V (Kd.int .u32) 23 w' w.heap.size (fun k_ => (P0_ k_ ∨ w.heap.size ≤ k_) ∧ some k_ ≠ (v3 : Value).ownBlock ∧ k_ ≠ gb318) v4 x4_1) ∧ Aside0 (w'.heap[gb318]? = some (.cells #[.bool false, (.slice none 0 0)] 26 (0, 0))) ∧ Aside0 (Below w.heap.size w w'))
 case atStart => exact ⟨(([] : List Int)), (([] : List Int)), (false), (0), (fr), (fr), H', ⟨Nat.le_refl _⟩, ⟨by refine rad ?_; exact Kd.V_mono HO0.out (fun _ hk => ⟨hk.1, ⟨(by simp [Value.ownBlock]), hk.2⟩⟩)⟩, ⟨nl⟩, ⟨Kd.V_nil _ _ _ _ _⟩, ⟨BK318.out⟩, ⟨HB.out⟩⟩
 case round =>
  clear H'
  try clear c1
  try clear p2
  obtain ⟨x3_1, x4_1, x5_1, x6_1, rfl, rfl, HA, HK1, HO_0, HO_3, HO_4, BK318, HB⟩ := hrel
  cases gk with
  | zero => exact absurd HA.out (by simp [stolonref06_Filter.l0])
  | succ k1 =>
   have H := HA.out
   clear HA
   simp only [stolonref06_Filter.l0] at H
   by_cases c3 : x6_1 < (l0.length : Int)
   · rw [if_pos c3] at H
     have c3b0 : decide (x6_1 < (l0.length : Int)) = true := decide_eq_true c3
     clear c3
     by_cases c4 : 0 ≤ x6_1
     case neg => rw [if_neg c4] at H; exact absurd H (by simp)
     rw [if_pos c4] at H
     have c4b0 : decide (0 ≤ x6_1) = true := decide_eq_true c4
     clear c4
     obtain ⟨bq5, hbq5⟩ : ∃ b_ : Bool, b_ = ((rd_T26 l0 x6_1).f0) := ⟨_, rfl⟩
     replace H : (if (bq5 = true) then (if x5_1 = true then ((stolonref06_Inter.f k1 x4_1 ((rd_T26 l0 x6_1).f1)).bind fun t324 => (stolonref06_Filter.l0 k1 l0 x3_1 t324 x5_1 (wrap64 (x6_1 + 1)))) else (stolonref06_Filter.l0 k1 l0 x3_1 ((rd_T26 l0 x6_1).f1) true (wrap64 (x6_1 + 1)))) else ((stolonref06_Union.f k1 x3_1 ((rd_T26 l0 x6_1).f1)).bind fun t329 => (stolonref06_Filter.l0 k1 l0 t329 x4_1 x5_1 (wrap64 (x6_1 + 1))))) = some (r1, r2) := by rw [← hbq5] at H; exact H
     have Nbq5 := Aside0.mk hbq5
     clear hbq5
     by_cases c6 : (bq5 = true)
     · subst c6
       replace H : (if x5_1 = true then ((stolonref06_Inter.f k1 x4_1 ((rd_T26 l0 x6_1).f1)).bind fun t324 => (stolonref06_Filter.l0 k1 l0 x3_1 t324 x5_1 (wrap64 (x6_1 + 1)))) else (stolonref06_Filter.l0 k1 l0 x3_1 ((rd_T26 l0 x6_1).f1) true (wrap64 (x6_1 + 1)))) = some (r1, r2) := by rw [if_pos rfl] at H; exact H
       by_cases c7 : x5_1 = true
       · subst c7
         replace H : ((stolonref06_Inter.f k1 x4_1 ((rd_T26 l0 x6_1).f1)).bind fun t324 => (stolonref06_Filter.l0 k1 l0 x3_1 t324 true (wrap64 (x6_1 + 1)))) = some (r1, r2) := by rw [if_pos rfl] at H; exact H
         replace H := Option.bind_eq_some_iff.mp H
         obtain ⟨t324, A80, H⟩ := H
         replace H : (stolonref06_Filter.l0 k1 l0 x3_1 t324 true (wrap64 (x6_1 + 1))) = some (r1, r2) := H
         have A8 := Aside0.mk A80
         clear A80
         have H' := Aside0.mk H
         clear H
         have p322 : 0 ≤ (x6_1 : Int) := od
         have q322 : x6_1 < (l0.length : Int) := od
         obtain ⟨ad322, A322_1, c322_1, e322, hx322_0, hx322_1, hl322_1, hi322_1⟩ := at_T26 (Kd.V_reads' HO_0.out).2.2 x6_1 p322 q322
         (try rw [← Nbq5.out] at hx322_0)
         cases e322
         obtain ⟨ce322, hce322, hMe322, hcc322⟩ := Kd.V_get HO_0.out z26 x6_1 p322 (by first | exact q322 | exact od | (have e_ := (Kd.V_reads' HO_0.out).1; omega))
         obtain ⟨ua322_1, uc322_1, rfl, ul322_1, ge322_1⟩ := k26_openF hMe322
         have hv322_1 := hcc322 1 _ rfl
         rw [add_field _ _ 1 (by omega)] at hv322_1
         replace hv322_1 := Option.some.inj (hv322_1.symm.trans hx322_1)
         injection hv322_1 with hva_ hvn_ hvc_
         rw [hva_] at ge322_1
         rw [hvc_] at ul322_1
         have HL322_1 := Aside0.mk (show Kd.V (Kd.int .u32) 23 _ w.heap.size _ _ ((rd_T26 l0 x6_1).f1) from Kd.V_mk ul322_1 ge322_1)
         clear hva_ hvn_ hvc_ ge322_1 ul322_1
         clear hcc322 hce322
         have HR322_1 := Aside0.mk hi322_1
         have HC322_1 := Aside0.mk hl322_1
         clear hi322_1 hl322_1
         replace p322 := eq_true p322
         replace q322 := eq_true q322
         have p323 : 0 ≤ (x6_1 : Int) := od
         have q323 : x6_1 < (l0.length : Int) := od
         obtain ⟨ad323, A323_1, c323_1, e323, hx323_0, hx323_1, hl323_1, hi323_1⟩ := at_T26 (Kd.V_reads' HO_0.out).2.2 x6_1 p323 q323
         (try rw [← Nbq5.out] at hx323_0)
         obtain rfl : ad322 = ad323 := (by injection e323)
         obtain ⟨ce323, hce323, hMe323, hcc323⟩ := Kd.V_get HO_0.out z26 x6_1 p323 (by first | exact q323 | exact od | (have e_ := (Kd.V_reads' HO_0.out).1; omega))
         obtain ⟨ua323_1, uc323_1, rfl, ul323_1, ge323_1⟩ := k26_openF hMe323
         have hv323_1 := hcc323 1 _ rfl
         rw [add_field _ _ 1 (by omega)] at hv323_1
         replace hv323_1 := Option.some.inj (hv323_1.symm.trans hx323_1)
         injection hv323_1 with hva_ hvn_ hvc_
         rw [hva_] at ge323_1
         rw [hvc_] at ul323_1
         have HL323_1 := Aside0.mk (show Kd.V (Kd.int .u32) 23 _ w.heap.size _ _ ((rd_T26 l0 x6_1).f1) from Kd.V_mk ul323_1 ge323_1)
         clear hva_ hvn_ hvc_ ge323_1 ul323_1
         clear hcc323 hce323
         have HR323_1 := Aside0.mk hi323_1
         have HC323_1 := Aside0.mk hl323_1
         clear hi323_1 hl323_1
         replace p323 := eq_true p323
         replace q323 := eq_true q323
         have ea_ := Option.some.inj (hx322_1.symm.trans hx323_1)
         injection ea_ with ea_ en_ ec_
         subst ea_
         subst ec_
         clear en_
         obtain ⟨Ao9, co9, eo9⟩ := Kd.V_slice HO_4.out
         subst eo9
         go_wp2_with (first | ((with_reducible refine gate_callee (f := 73) rfl ?_); refine goesL_ (some 33) rfl rfl Try.func73 (by kernel_rfl) rfl #[.slice Ao9 x4_1.length co9, .slice A322_1 ((rd_T26 l0 x6_1).f1).length c322_1] rfl (by (try simp only [List.map_toArray, List.map_cons, List.map_nil]); first | done | rfl | (simp only [List.length_drop, List.length_take]; rfl)) ?_; (with_reducible refine (stolonref06_Inter.calls k1 _ _ x4_1 _ _ ((rd_T26 l0 x6_1).f1) t324 _ ?side1 ?side2 ?side3 ?side4 A8.out).mono ?_); (case side1 => exact ca (Kd.V_reads' HO_4.out).2.2); (case side2 => exact (Kd.V_reads' HO_4.out).2.1); (case side3 => exact ca (by repeat (first | (with_reducible exact HR323_1.out) | (with_reducible refine Kd.C_alloc ?_ _) | (with_reducible refine Kd.C_drewN ?_ _) | (with_reducible refine Kd.C_drew ?_) | exact HR323_1.out))); (case side4 => exact HC323_1.out); rintro e w10 ⟨v325, rfl, ho0, hb⟩; refine ⟨_, rfl, ?_⟩; have n0_ := Aside0.mk (Kd.V_elder' (rad HO_0.out) (Kd.R_base ho0) hb); have n1_ := Aside0.mk (Kd.R_elder' (rad HO_3.out) (Kd.R_base ho0) hb); have n2_ := Aside0.mk (Kd.V_elder' (rad HO_4.out) (Kd.R_base ho0) hb); have n3_ := Aside0.mk (Kd.V_elder' (rad HL322_1.out) (Kd.R_base ho0) hb); have n4_ := Aside0.mk (Kd.V_elder' (rad HL323_1.out) (Kd.R_base ho0) hb); have n5_ := Aside0.mk (Kd.R_lower (Kd.R_new' (Kd.R_newM (M := fun k_ => (w.heap.size ≤ k_)) ho0 (below_size HB.out) (fun k_ h_ => h_)) (Kd.R_lt (rad HO_3.out))) (below_size HB.out)); have n6_ := Aside0.mk (blk_below BK318.out hb); have n7_ := Aside0.mk (Kd.C_below (by repeat (first | (with_reducible exact HR322_1.out) | (with_reducible refine Kd.C_alloc ?_ _) | (with_reducible refine Kd.C_drewN ?_ _) | (with_reducible refine Kd.C_drew ?_) | exact HR322_1.out)) hb); have n8_ := Aside0.mk (Kd.C_below (by repeat (first | (with_reducible exact HR323_1.out) | (with_reducible refine Kd.C_alloc ?_ _) | (with_reducible refine Kd.C_drewN ?_ _) | (with_reducible refine Kd.C_drew ?_) | exact HR323_1.out)) hb); have n9_ := Aside0.mk (below_step HB.out hb); clear HO_0; clear HO_3; clear HO_4; clear HL322_1; clear HL323_1; clear BK318; clear HR322_1; clear HR323_1; clear HB; have HO_0 := n0_; have HO_3 := n1_; have HO_4 := n2_; have HL322_1 := n3_; have HL323_1 := n4_; have HO326 := n5_; have BK318 := n6_; have HR322_1 := n7_; have HR323_1 := n8_; have HB := n9_; clear n0_ n1_ n2_ n3_ n4_ n5_ n6_ n7_ n8_ n9_; (try clear hb); (try clear hb2); (try clear hk); (try clear hi); (try clear ho0)))
         go_roundg k1
         case measure => have := HK1.out; omega
         case rel => exact ⟨(x3_1), (t324), (true), (wrap64 (x6_1 + 1)), (fr), (fr), H', ⟨by have := HK1.out; omega⟩, ⟨by refine rad ?_; exact Kd.V_mono HO_0.out (fun _ hk => ⟨hk.1.1, ⟨hk.1.2.1, hk.1.2.2⟩⟩)⟩, ⟨by refine rad ?_; exact Kd.R_mono HO_3.out (fun _ hk => hk.1)⟩, ⟨Kd.V_mono (ok := fun k_ => w.heap.size ≤ k_ ∧ (some k_ ≠ (u3 : Value).ownBlock ∧ k_ ≠ gb318)) (Kd.R_V (by refine rad ?_; exact Kd.R_mono (Kd.R_types HO326.out BK318.out (by decide)) (fun _ hk => ⟨hk.1.1.1, ⟨hk.1.2, hk.2⟩⟩))) (fun k_ hk => by first | exact ⟨(.inr (hk.1)), hk.2⟩ | exact (.inr (hk)))⟩, ⟨BK318.out⟩, ⟨HB.out⟩⟩
       · replace c7 := Bool.eq_false_iff.mpr c7
         subst c7
         replace H : (stolonref06_Filter.l0 k1 l0 x3_1 ((rd_T26 l0 x6_1).f1) true (wrap64 (x6_1 + 1))) = some (r1, r2) := by rw [if_neg (show ¬ (false = true) by decide)] at H; exact H
         have H' := Aside0.mk H
         clear H
         have p322 : 0 ≤ (x6_1 : Int) := od
         have q322 : x6_1 < (l0.length : Int) := od
         obtain ⟨ad322, A322_1, c322_1, e322, hx322_0, hx322_1, hl322_1, hi322_1⟩ := at_T26 (Kd.V_reads' HO_0.out).2.2 x6_1 p322 q322
         (try rw [← Nbq5.out] at hx322_0)
         cases e322
         obtain ⟨ce322, hce322, hMe322, hcc322⟩ := Kd.V_get HO_0.out z26 x6_1 p322 (by first | exact q322 | exact od | (have e_ := (Kd.V_reads' HO_0.out).1; omega))
         obtain ⟨ua322_1, uc322_1, rfl, ul322_1, ge322_1⟩ := k26_openF hMe322
         have hv322_1 := hcc322 1 _ rfl
         rw [add_field _ _ 1 (by omega)] at hv322_1
         replace hv322_1 := Option.some.inj (hv322_1.symm.trans hx322_1)
         injection hv322_1 with hva_ hvn_ hvc_
         rw [hva_] at ge322_1
         rw [hvc_] at ul322_1
         have HL322_1 := Aside0.mk (show Kd.V (Kd.int .u32) 23 _ w.heap.size _ _ ((rd_T26 l0 x6_1).f1) from Kd.V_mk ul322_1 ge322_1)
         clear hva_ hvn_ hvc_ ge322_1 ul322_1
         clear hcc322 hce322
         have HR322_1 := Aside0.mk hi322_1
         have HC322_1 := Aside0.mk hl322_1
         clear hi322_1 hl322_1
         replace p322 := eq_true p322
         replace q322 := eq_true q322
         have p327 : 0 ≤ (x6_1 : Int) := od
         have q327 : x6_1 < (l0.length : Int) := od
         obtain ⟨ad327, A327_1, c327_1, e327, hx327_0, hx327_1, hl327_1, hi327_1⟩ := at_T26 (Kd.V_reads' HO_0.out).2.2 x6_1 p327 q327
         (try rw [← Nbq5.out] at hx327_0)
         obtain rfl : ad322 = ad327 := (by injection e327)
         obtain ⟨ce327, hce327, hMe327, hcc327⟩ := Kd.V_get HO_0.out z26 x6_1 p327 (by first | exact q327 | exact od | (have e_ := (Kd.V_reads' HO_0.out).1; omega))
         obtain ⟨ua327_1, uc327_1, rfl, ul327_1, ge327_1⟩ := k26_openF hMe327
         have hv327_1 := hcc327 1 _ rfl
         rw [add_field _ _ 1 (by omega)] at hv327_1
         replace hv327_1 := Option.some.inj (hv327_1.symm.trans hx327_1)
         injection hv327_1 with hva_ hvn_ hvc_
         rw [hva_] at ge327_1
         rw [hvc_] at ul327_1
         have HL327_1 := Aside0.mk (show Kd.V (Kd.int .u32) 23 _ w.heap.size _ _ ((rd_T26 l0 x6_1).f1) from Kd.V_mk ul327_1 ge327_1)
         clear hva_ hvn_ hvc_ ge327_1 ul327_1
         clear hcc327 hce327
         have HR327_1 := Aside0.mk hi327_1
         have HC327_1 := Aside0.mk hl327_1
         clear hi327_1 hl327_1
         replace p327 := eq_true p327
         replace q327 := eq_true q327
         have ea_ := Option.some.inj (hx322_1.symm.trans hx327_1)
         injection ea_ with ea_ en_ ec_
         subst ea_
         subst ec_
         clear en_
         go_wp2
         go_roundg k1
         case measure => have := HK1.out; omega
         case rel => exact ⟨(x3_1), ((rd_T26 l0 x6_1).f1), (true), (wrap64 (x6_1 + 1)), (fr), (fr), H', ⟨by have := HK1.out; omega⟩, ⟨rad HO_0.out⟩, ⟨rad HO_3.out⟩, ⟨rad HL327_1.out⟩, ⟨BK318.out⟩, ⟨HB.out⟩⟩
     · replace c6 := Bool.eq_false_iff.mpr c6
       subst c6
       replace H : ((stolonref06_Union.f k1 x3_1 ((rd_T26 l0 x6_1).f1)).bind fun t329 => (stolonref06_Filter.l0 k1 l0 t329 x4_1 x5_1 (wrap64 (x6_1 + 1)))) = some (r1, r2) := by rw [if_neg (show ¬ (false = true) by decide)] at H; exact H
       replace H := Option.bind_eq_some_iff.mp H
       obtain ⟨t329, A110, H⟩ := H
       replace H : (stolonref06_Filter.l0 k1 l0 t329 x4_1 x5_1 (wrap64 (x6_1 + 1))) = some (r1, r2) := H
       have A11 := Aside0.mk A110
       clear A110
       have H' := Aside0.mk H
       clear H
       have p322 : 0 ≤ (x6_1 : Int) := od
       have q322 : x6_1 < (l0.length : Int) := od
       obtain ⟨ad322, A322_1, c322_1, e322, hx322_0, hx322_1, hl322_1, hi322_1⟩ := at_T26 (Kd.V_reads' HO_0.out).2.2 x6_1 p322 q322
       (try rw [← Nbq5.out] at hx322_0)
       cases e322
       obtain ⟨ce322, hce322, hMe322, hcc322⟩ := Kd.V_get HO_0.out z26 x6_1 p322 (by first | exact q322 | exact od | (have e_ := (Kd.V_reads' HO_0.out).1; omega))
       obtain ⟨ua322_1, uc322_1, rfl, ul322_1, ge322_1⟩ := k26_openF hMe322
       have hv322_1 := hcc322 1 _ rfl
       rw [add_field _ _ 1 (by omega)] at hv322_1
       replace hv322_1 := Option.some.inj (hv322_1.symm.trans hx322_1)
       injection hv322_1 with hva_ hvn_ hvc_
       rw [hva_] at ge322_1
       rw [hvc_] at ul322_1
       have HL322_1 := Aside0.mk (show Kd.V (Kd.int .u32) 23 _ w.heap.size _ _ ((rd_T26 l0 x6_1).f1) from Kd.V_mk ul322_1 ge322_1)
       clear hva_ hvn_ hvc_ ge322_1 ul322_1
       clear hcc322 hce322
       have HR322_1 := Aside0.mk hi322_1
       have HC322_1 := Aside0.mk hl322_1
       clear hi322_1 hl322_1
       replace p322 := eq_true p322
       replace q322 := eq_true q322
       have p328 : 0 ≤ (x6_1 : Int) := od
       have q328 : x6_1 < (l0.length : Int) := od
       obtain ⟨ad328, A328_1, c328_1, e328, hx328_0, hx328_1, hl328_1, hi328_1⟩ := at_T26 (Kd.V_reads' HO_0.out).2.2 x6_1 p328 q328
       (try rw [← Nbq5.out] at hx328_0)
       obtain rfl : ad322 = ad328 := (by injection e328)
       obtain ⟨ce328, hce328, hMe328, hcc328⟩ := Kd.V_get HO_0.out z26 x6_1 p328 (by first | exact q328 | exact od | (have e_ := (Kd.V_reads' HO_0.out).1; omega))
       obtain ⟨ua328_1, uc328_1, rfl, ul328_1, ge328_1⟩ := k26_openF hMe328
       have hv328_1 := hcc328 1 _ rfl
       rw [add_field _ _ 1 (by omega)] at hv328_1
       replace hv328_1 := Option.some.inj (hv328_1.symm.trans hx328_1)
       injection hv328_1 with hva_ hvn_ hvc_
       rw [hva_] at ge328_1
       rw [hvc_] at ul328_1
       have HL328_1 := Aside0.mk (show Kd.V (Kd.int .u32) 23 _ w.heap.size _ _ ((rd_T26 l0 x6_1).f1) from Kd.V_mk ul328_1 ge328_1)
       clear hva_ hvn_ hvc_ ge328_1 ul328_1
       clear hcc328 hce328
       have HR328_1 := Aside0.mk hi328_1
       have HC328_1 := Aside0.mk hl328_1
       clear hi328_1 hl328_1
       replace p328 := eq_true p328
       replace q328 := eq_true q328
       have ea_ := Option.some.inj (hx322_1.symm.trans hx328_1)
       injection ea_ with ea_ en_ ec_
       subst ea_
       subst ec_
       clear en_
       obtain ⟨Ao12, co12, eo12⟩ := Kd.R_slice HO_3.out
       subst eo12
       go_wp2_with (first | ((with_reducible refine gate_callee (f := 72) rfl ?_); refine goesL_ (some 25) rfl rfl Try.func72 (by kernel_rfl) rfl #[.slice Ao12 x3_1.length co12, .slice A322_1 ((rd_T26 l0 x6_1).f1).length c322_1] rfl (by (try simp only [List.map_toArray, List.map_cons, List.map_nil]); first | done | rfl | (simp only [List.length_drop, List.length_take]; rfl)) ?_; (with_reducible refine (stolonref06_Union.calls k1 _ _ x3_1 _ _ ((rd_T26 l0 x6_1).f1) t329 _ ?side1 ?side2 ?side3 ?side4 A11.out).mono ?_); (case side1 => exact ca (Kd.R_reads' HO_3.out).2.2); (case side2 => exact (Kd.R_reads' HO_3.out).2.1); (case side3 => exact ca (by repeat (first | (with_reducible exact HR328_1.out) | (with_reducible refine Kd.C_alloc ?_ _) | (with_reducible refine Kd.C_drewN ?_ _) | (with_reducible refine Kd.C_drew ?_) | exact HR328_1.out))); (case side4 => exact HC328_1.out); rintro e w13 ⟨v330, rfl, ho0, hb⟩; refine ⟨_, rfl, ?_⟩; have n0_ := Aside0.mk (Kd.V_elder' (rad HO_0.out) (Kd.R_base ho0) hb); have n1_ := Aside0.mk (Kd.R_elder' (rad HO_3.out) (Kd.R_base ho0) hb); have n2_ := Aside0.mk (Kd.V_elder' (rad HO_4.out) (Kd.R_base ho0) hb); have n3_ := Aside0.mk (Kd.V_elder' (rad HL322_1.out) (Kd.R_base ho0) hb); have n4_ := Aside0.mk (Kd.V_elder' (rad HL328_1.out) (Kd.R_base ho0) hb); have n5_ := Aside0.mk (Kd.R_lower (Kd.R_new' (Kd.R_newM (M := fun k_ => (w.heap.size ≤ k_)) ho0 (below_size HB.out) (fun k_ h_ => h_)) (Kd.R_lt (rad HO_3.out))) (below_size HB.out)); have n6_ := Aside0.mk (blk_below BK318.out hb); have n7_ := Aside0.mk (Kd.C_below (by repeat (first | (with_reducible exact HR322_1.out) | (with_reducible refine Kd.C_alloc ?_ _) | (with_reducible refine Kd.C_drewN ?_ _) | (with_reducible refine Kd.C_drew ?_) | exact HR322_1.out)) hb); have n8_ := Aside0.mk (Kd.C_below (by repeat (first | (with_reducible exact HR328_1.out) | (with_reducible refine Kd.C_alloc ?_ _) | (with_reducible refine Kd.C_drewN ?_ _) | (with_reducible refine Kd.C_drew ?_) | exact HR328_1.out)) hb); have n9_ := Aside0.mk (below_step HB.out hb); clear HO_0; clear HO_3; clear HO_4; clear HL322_1; clear HL328_1; clear BK318; clear HR322_1; clear HR328_1; clear HB; have HO_0 := n0_; have HO_3 := n1_; have HO_4 := n2_; have HL322_1 := n3_; have HL328_1 := n4_; have HO331 := n5_; have BK318 := n6_; have HR322_1 := n7_; have HR328_1 := n8_; have HB := n9_; clear n0_ n1_ n2_ n3_ n4_ n5_ n6_ n7_ n8_ n9_; (try clear hb); (try clear hb2); (try clear hk); (try clear hi); (try clear ho0)))
       go_roundg k1
       case measure => have := HK1.out; omega
       case rel => exact ⟨(t329), (x4_1), (x5_1), (wrap64 (x6_1 + 1)), (fr), (fr), H', ⟨by have := HK1.out; omega⟩, ⟨by refine rad ?_; exact Kd.V_mono HO_0.out (fun _ hk => ⟨hk.1.1, ⟨hk.2, hk.1.2.2⟩⟩)⟩, ⟨by refine rad ?_; exact Kd.R_mono HO331.out (fun _ hk => hk.1.1)⟩, ⟨by refine rad ?_; exact Kd.V_mono HO_4.out (fun _ hk => ⟨hk.1.1, ⟨hk.2, hk.1.2.2⟩⟩)⟩, ⟨BK318.out⟩, ⟨HB.out⟩⟩
   · rw [if_neg c3] at H
     have c3b0 : decide (x6_1 < (l0.length : Int)) = false := decide_eq_false c3
     clear c3
     by_cases c14 : x5_1 = true
     · subst c14
       replace H : ((stolonref06_Minus.f k1 x4_1 x3_1).bind fun t319 => (some (true, t319))) = some (r1, r2) := by rw [if_pos rfl] at H; exact H
       replace H := Option.bind_eq_some_iff.mp H
       obtain ⟨t319, A150, H⟩ := H
       replace H : (some (true, t319)) = some (r1, r2) := H
       have A15 := Aside0.mk A150
       clear A150
       simp only [Option.some.injEq, Prod.mk.injEq] at H
       obtain ⟨rfl, rfl⟩ := H
       obtain ⟨Ao16, co16, eo16⟩ := Kd.V_slice HO_4.out
       subst eo16
       obtain ⟨Ao17, co17, eo17⟩ := Kd.R_slice HO_3.out
       subst eo17
       go_wp2_with (first | ((with_reducible refine gate_callee (f := 39) rfl ?_); refine goesL_ (some 42) rfl rfl Try.func39 (by kernel_rfl) rfl #[.slice Ao16 x4_1.length co16, .slice Ao17 x3_1.length co17] rfl (by (try simp only [List.map_toArray, List.map_cons, List.map_nil]); first | done | rfl | (simp only [List.length_drop, List.length_take]; rfl)) ?_; (with_reducible refine (stolonref06_Minus.calls k1 _ _ x4_1 _ _ x3_1 t319 _ ?side1 ?side2 ?side3 ?side4 A15.out).mono ?_); (case side1 => exact ca (Kd.V_reads' HO_4.out).2.2); (case side2 => exact (Kd.V_reads' HO_4.out).2.1); (case side3 => exact ca (Kd.R_reads' HO_3.out).2.2); (case side4 => exact (Kd.R_reads' HO_3.out).2.1); rintro e w18 ⟨v320, rfl, ho0, hb⟩; refine ⟨_, rfl, ?_⟩; have n0_ := Aside0.mk (Kd.V_elder' (rad HO_0.out) (Kd.R_base ho0) hb); have n1_ := Aside0.mk (Kd.R_elder' (rad HO_3.out) (Kd.R_base ho0) hb); have n2_ := Aside0.mk (Kd.V_elder' (rad HO_4.out) (Kd.R_base ho0) hb); have n3_ := Aside0.mk (Kd.R_lower (Kd.R_new' (Kd.R_newM (M := fun k_ => (w.heap.size ≤ k_)) ho0 (below_size HB.out) (fun k_ h_ => h_)) (Kd.R_lt (rad HO_3.out))) (below_size HB.out)); have n4_ := Aside0.mk (blk_below BK318.out hb); have n5_ := Aside0.mk (below_step HB.out hb); clear HO_0; clear HO_3; clear HO_4; clear BK318; clear HB; have HO_0 := n0_; have HO_3 := n1_; have HO_4 := n2_; have HO321 := n3_; have BK318 := n4_; have HB := n5_; clear n0_ n1_ n2_ n3_ n4_ n5_; (try clear hb); (try clear hb2); (try clear hk); (try clear hi); (try clear ho0); obtain ⟨Ao19, co19, eo19⟩ := Kd.R_slice HO321.out; subst eo19; obtain ⟨hcz20_0, hcz20_1, hfz20_0, hfz20_1⟩ := cf2 BK318.out))
       refine bodyPost_ret (results_cell_row rfl _ _ gb318 26 #[.bool true, .slice Ao19 t319.length co19] (0, 0) _ rfl (by refine ba ?_; refine blk_put (cs := #[.bool true, .slice none 0 0]) ?_ 1 _ rfl; refine ba ?_; refine blk_put (cs := #[.bool false, .slice none 0 0]) ?_ 0 _ rfl; refine ba ?_; exact BK318.out) Try.underlying26 rfl (by kernel_rfl)) rfl ?_
       exact ⟨_, by first | rfl | (simp [errW_none, errW_some] <;> rfl) | (simp [*, errW_none, errW_some] <;> rfl), by refine rad ?_; exact Kd.R_mono (Kd.R_far (p := ⟨gb318, 1, none⟩) (Kd.R_far (p := ⟨gb318, 0, none⟩) (Kd.R_types HO321.out BK318.out (by decide)) (fun _ hk => hk.2) (.bool true)) (fun _ hk => hk.2) (.slice Ao19 t319.length co19)) (fun _ hk => hk.1.1.1), bl HB⟩
     · replace c14 := Bool.eq_false_iff.mpr c14
       subst c14
       replace H : (some (false, x3_1)) = some (r1, r2) := by rw [if_neg (show ¬ (false = true) by decide)] at H; exact H
       simp only [Option.some.injEq, Prod.mk.injEq] at H
       obtain ⟨rfl, rfl⟩ := H
       obtain ⟨Ao21, co21, eo21⟩ := Kd.R_slice HO_3.out
       subst eo21
       obtain ⟨hcz22_0, hcz22_1, hfz22_0, hfz22_1⟩ := cf2 BK318.out
       go_wp2
       refine bodyPost_ret (results_cell_row rfl _ _ gb318 26 #[.bool false, .slice Ao21 x3_1.length co21] (0, 0) _ rfl (by refine ba ?_; refine blk_put (cs := #[.bool false, .slice none 0 0]) ?_ 1 _ rfl; refine ba ?_; refine blk_put (cs := #[.bool false, .slice none 0 0]) ?_ 0 _ rfl; refine ba ?_; exact BK318.out) Try.underlying26 rfl (by kernel_rfl)) rfl ?_
       exact ⟨_, by first | rfl | (simp [errW_none, errW_some] <;> rfl) | (simp [*, errW_none, errW_some] <;> rfl), by refine rad ?_; exact Kd.R_mono (Kd.R_far (p := ⟨gb318, 1, none⟩) (Kd.R_far (p := ⟨gb318, 0, none⟩) (Kd.R_types HO_3.out BK318.out (by decide)) (fun _ hk => hk.2) (.bool false)) (fun _ hk => hk.2) (.slice Ao21 x3_1.length co21)) (fun _ hk => hk.1), bl HB⟩


/-! ### stolonref07_Wants: function 36 -/
def stolonref07_Wants.l0 : Nat → Int → List (S26) → Int → List (S42) → Option (Bool × List Int)
  | 0, _, _, _, _ => none
  | k + 1, x1, x5, x6, x406000 => if x6 < (x406000.length : Int) then (if 0 ≤ x6 then (if ((rd_T42 x406000 x6).f1) = x1 then (if x5.length < 4398046511104 then (stolonref07_Wants.l0 k x1 (x5 ++ [(⟨(rd_T42 x406000 x6).f2.f0, (rd_T42 x406000 x6).f2.f1⟩ : S26)]) (wrap64 (x6 + 1)) x406000) else (none)) else (stolonref07_Wants.l0 k x1 x5 (wrap64 (x6 + 1)) x406000)) else (none)) else ((stolonref06_Filter.f k x5).bind fun bt412 => (some (bt412.1, bt412.2)))
def stolonref07_Wants.f (k : Nat) (l0_0 : List (S42)) (a1 : Int) : Option (Bool × List Int) := stolonref07_Wants.l0 k a1 ([] : List (S26)) 0 l0_0
theorem stolonref07_Wants.mono_l : ∀ k, (∀ y0 y1 y2 y3, LeO (stolonref07_Wants.l0 k y0 y1 y2 y3) (stolonref07_Wants.l0 (k + 1) y0 y1 y2 y3))
  | 0 => fun _ _ _ _ r h => by simp [stolonref07_Wants.l0] at h
  | k + 1 => by
    have ih0 := stolonref07_Wants.mono_l k
    · intro y0 y1 y2 y3
      unfold stolonref07_Wants.l0
      repeat' first
      | (with_reducible exact ih0 _ _ _ _)
      | (with_reducible exact stolonref06_Filter.mono _ _)
      | (with_reducible exact LeO.refl _)
      | (with_reducible exact LeO.none _)
      | (with_reducible refine LeO.ite ?_ ?_)
      | (with_reducible refine LeO.bind ?_ (fun _ => ?_))
      | exact ih0 _ _ _ _
      | exact stolonref06_Filter.mono _ _
      | exact LeO.none _
      | refine LeO.ite ?_ ?_
      | refine LeO.bind ?_ (fun _ => ?_)
theorem stolonref07_Wants.mono : ∀ a0 a1 k, LeO (stolonref07_Wants.f k a0 a1) (stolonref07_Wants.f (k + 1) a0 a1) := by
  intro a0 a1 k
  have ih0 := stolonref07_Wants.mono_l k
  unfold stolonref07_Wants.f
  repeat' first
      | (with_reducible exact ih0 _ _ _ _)
      | (with_reducible exact stolonref06_Filter.mono _ _)
      | (with_reducible exact LeO.refl _)
      | (with_reducible exact LeO.none _)
      | (with_reducible refine LeO.ite ?_ ?_)
      | (with_reducible refine LeO.bind ?_ (fun _ => ?_))
      | exact ih0 _ _ _ _
      | exact stolonref06_Filter.mono _ _
      | exact LeO.none _
      | refine LeO.ite ?_ ?_
      | refine LeO.bind ?_ (fun _ => ?_)
theorem stolonref07_Wants.calls (k : Nat) (P0_0_ : Nat → Prop) (A0_0 : Option Addr) (c0_0 : Nat) (l0_0 : List (S42)) (a1 : Int) (r1 : Bool) (r2 : List Int) (w : World) (hs0_0 : Kd.V k42 42 w w.heap.size (fun k_ => P0_0_ k_) (.slice A0_0 l0_0.length c0_0) l0_0) (h : stolonref07_Wants.f k l0_0 a1 = some (r1, r2)) :
    Calls Try.prog 36 #[.agg #[.slice A0_0 l0_0.length c0_0], .int .u32 a1] w fun e w' => ∃ v1_ : Value, e = .returned (.agg #[.bool r1, v1_]) ∧ Kd.R (Kd.int .u32) 23 w' w.heap.size (fun k_ => (w.heap.size ≤ k_)) v1_ r2 ∧ Below w.heap.size w w' := by
  have hu40 := Try.underlying40
  have hu26 := Try.underlying26
  have HO0_0 := Aside0.mk (show Kd.V k42 42 w w.heap.size (fun k_ => (P0_0_ k_ ∨ w.heap.size ≤ k_)) (.slice A0_0 l0_0.length c0_0) l0_0 from Kd.V_mono hs0_0 (fun k_ hk => .inl hk))
  have HB := Aside0.mk (Below.refl w.heap.size w)
  have H : (stolonref07_Wants.l0 k a1 ([] : List (S26)) 0 l0_0) = some (r1, r2) := h
  clear h
  have H' := Aside0.mk H
  clear H
  go_enter Try.func36, Try.ntmps36
  go_wp2_with (first | ((with_reducible refine gate_dst (N := 2) rfl ?_); refine bxn (cs := #[.slice A0_0 l0_0.length c0_0]) (t := 40) ?_; intro gb405 hg w3 hbox hb; have n0_ := Aside0.mk (Kd.V_below (Kd.V_elderB (rad HO0_0.out) gb405 (Nat.le_of_eq hg.symm)) hb); have n1_ := Aside0.mk (below_step (bl HB) hb); have n2_ := Aside0.mk (hbox); have n3_ := Aside0.mk ((by rw [hg]; exact (below_size (bl HB)) : w.heap.size ≤ gb405)); have n4_ := Aside0.mk ((by rw [hg]; exact (below_size (bl HB)) : w.heap.size ≤ gb405)); clear HO0_0; clear HB; have HO0_0 := n0_; have HB := n1_; have BK405 := n2_; have GW405 := n3_; have GE405 := n4_; clear n0_ n1_ n2_ n3_ n4_; clear hb hbox hg) | ((with_reducible refine gate_dst (N := 4) rfl ?_); refine bxn (cs := #[.bool false, .slice none 0 0]) (t := 26) ?_; intro gb406 hg w4 hbox hb; have n0_ := Aside0.mk (Kd.V_below (Kd.V_elderB (rad HO0_0.out) gb406 (Nat.le_of_eq hg.symm)) hb); have n1_ := Aside0.mk (blk_below (g := gb405) (o := .cells #[.slice A0_0 l0_0.length c0_0] 40 (0, 0)) (ba BK405.out) hb); have n2_ := Aside0.mk (below_step (bl HB) hb); have n3_ := Aside0.mk (hbox); have n4_ := Aside0.mk ((by rw [hg]; exact (below_size (bl HB)) : w.heap.size ≤ gb406)); have n5_ := Aside0.mk ((by rw [hg]; exact (below_size (bl HB)) : w.heap.size ≤ gb406)); have n6_ := Aside0.mk ((by rw [hg]; exact Nat.ne_of_lt (blk_lt (g := gb405) (o := .cells #[.slice A0_0 l0_0.length c0_0] 40 (0, 0)) (ba BK405.out)) : gb405 ≠ gb406)); have n7_ := Aside0.mk ((by rw [hg]; exact Nat.ne_of_gt (blk_lt (g := gb405) (o := .cells #[.slice A0_0 l0_0.length c0_0] 40 (0, 0)) (ba BK405.out)) : gb406 ≠ gb405)); clear HO0_0; clear BK405; clear HB; have HO0_0 := n0_; have BK405 := n1_; have HB := n2_; have BK406 := n3_; have GW406 := n4_; have GE406 := n5_; have NB405_406 := n6_; have NB406_405 := n7_; clear n0_ n1_ n2_ n3_ n4_ n5_ n6_ n7_; clear hb hbox hg))
  go_loopg [5, 6] k (fun kq v5 v6 w' => ∃ (x5_1 : List (S26)) (x6_1 : Int), v6 = .int .i64 x6_1 ∧ Aside0 (stolonref07_Wants.l0 kq a1 x5_1 x6_1 l0_0 = some (r1, r2)) ∧ Aside0 (kq ≤ k) ∧ Aside0 (Kd.N k26 26 w' w.heap.size (fun k_ => (P0_0_ k_ ∨ w.heap.size ≤ k_) ∧ k_ ≠ gb405 ∧ k_ ≠ gb406) v5 x5_1) ∧ Aside0 (Kd.V k42 42 w' w.heap.size (fun k_ => (P0_0_ k_ ∨ w.heap.size ≤ k_) ∧ some k_ ≠ (v5 : Value).ownBlock ∧ k_ ≠ gb405 ∧ k_ ≠ gb406) (.slice A0_0 l0_0.length c0_0) l0_0) ∧ Aside0 (w'.heap[gb405]? = some (.cells #[(.slice A0_0 l0_0.length c0_0)] 40 (0, 0))) ∧ Aside0 (w'.heap[gb406]? = some (.cells #[.bool false, (.slice none 0 0)] 26 (0, 0))) ∧ Aside0 (Below w.heap.size w w'))
  case atStart => exact ⟨(([] : List (S26))), (0), (fr), H', ⟨Nat.le_refl _⟩, ⟨nl⟩, ⟨by refine rad ?_; exact Kd.V_mono HO0_0.out (fun _ hk => ⟨hk.1.1, ⟨(by simp [Value.ownBlock]), ⟨hk.1.2, hk.2⟩⟩⟩)⟩, ⟨ba BK405.out⟩, ⟨ba BK406.out⟩, ⟨bl HB⟩⟩
  case round =>
    clear H'
    try clear p2
    try clear c3
    obtain ⟨x5_1, x6_1, rfl, HA, HK1, HO_5, HO_406000, BK405, BK406, HB⟩ := hrel
    cases gk with
    | zero => exact absurd HA.out (by simp [stolonref07_Wants.l0])
    | succ k1 =>
      have H := HA.out
      clear HA
      simp only [stolonref07_Wants.l0] at H
      by_cases c5 : x6_1 < (l0_0.length : Int)
      · rw [if_pos c5] at H
        have c5b0 : decide (x6_1 < (l0_0.length : Int)) = true := decide_eq_true c5
        clear c5
        by_cases c6 : 0 ≤ x6_1
        · rw [if_pos c6] at H
          have c6b0 : decide (0 ≤ x6_1) = true := decide_eq_true c6
          clear c6
          by_cases c7 : ((rd_T42 l0_0 x6_1).f1) = a1
          · rw [if_pos c7] at H
            have c7b0 : (((rd_T42 l0_0 x6_1).f1) == a1) = true := beq_iff_eq.mpr c7
            have c7b1 : (((rd_T42 l0_0 x6_1).f1) != a1) = false := bne_eq_false_iff_eq.mpr c7
            clear c7
            by_cases c8 : x5_1.length < 4398046511104
            · rw [if_pos c8] at H
              have LMc8 := Aside0.mk c8
              clear c8
              obtain ⟨y409, hy409⟩ : ∃ y_ : List (S26), y_ = (x5_1 ++ [(⟨(rd_T42 l0_0 x6_1).f2.f0, (rd_T42 l0_0 x6_1).f2.f1⟩ : S26)]) := ⟨_, rfl⟩
              replace H : (stolonref07_Wants.l0 k1 a1 y409 (wrap64 (x6_1 + 1)) l0_0) = some (r1, r2) := by first | (rw [hy409]; with_reducible exact H) | (have H2_ := (Option.bind_some _ _).symm.trans H; rw [hy409]; with_reducible exact H2_) | (have H2_ := (Option.bind_some _ _).symm.trans H; with_reducible exact H2_) | with_reducible exact H | (rw [hy409]; exact H) | exact H
              have Ny409 := Aside0.mk hy409
              clear hy409
              have H' := Aside0.mk H
              clear H
              have hnb9 := NB405_406.out
              have hnc9 := NB406_405.out
              obtain ⟨hcz10_0, hfz10_0⟩ := cf1 BK405.out
              have p407 : 0 ≤ (x6_1 : Int) := od
              have q407 : x6_1 < (l0_0.length : Int) := od
              obtain ⟨ad407, A407_3, c407_3, e407, hx407_0, hx407_1, hx407_2, hx407_3, hl407_3, hi407_3⟩ := at_T42 (Kd.V_reads' HO_406000.out).2.2 x6_1 p407 q407
              cases e407
              obtain ⟨ce407, hce407, hMe407, hcc407⟩ := Kd.V_get HO_406000.out z42 x6_1 p407 (by first | exact q407 | exact od | (have e_ := (Kd.V_reads' HO_406000.out).1; omega))
              obtain ⟨ua407_3, uc407_3, rfl, ul407_3, ge407_3⟩ := k42_openF hMe407
              have hv407_3 := hcc407 3 _ rfl
              rw [add_field _ _ 3 (by omega)] at hv407_3
              replace hv407_3 := Option.some.inj (hv407_3.symm.trans hx407_3)
              injection hv407_3 with hva_ hvn_ hvc_
              rw [hva_] at ge407_3
              rw [hvc_] at ul407_3
              have HL407_3 := Aside0.mk (show Kd.V (Kd.int .u32) 23 _ w.heap.size _ _ ((rd_T42 l0_0 x6_1).f2.f1) from Kd.V_mk ul407_3 ge407_3)
              clear hva_ hvn_ hvc_ ge407_3 ul407_3
              clear hcc407 hce407
              have HR407_3 := Aside0.mk hi407_3
              have HC407_3 := Aside0.mk hl407_3
              clear hi407_3 hl407_3
              replace p407 := eq_true p407
              replace q407 := eq_true q407
              have p408 : 0 ≤ (x6_1 : Int) := od
              have q408 : x6_1 < (l0_0.length : Int) := od
              obtain ⟨ad408, A408_3, c408_3, e408, hx408_0, hx408_1, hx408_2, hx408_3, hl408_3, hi408_3⟩ := at_T42 (Kd.V_reads' HO_406000.out).2.2 x6_1 p408 q408
              obtain rfl : ad407 = ad408 := (by injection e408)
              obtain ⟨ce408, hce408, hMe408, hcc408⟩ := Kd.V_get HO_406000.out z42 x6_1 p408 (by first | exact q408 | exact od | (have e_ := (Kd.V_reads' HO_406000.out).1; omega))
              obtain ⟨ua408_3, uc408_3, rfl, ul408_3, ge408_3⟩ := k42_openF hMe408
              have hv408_3 := hcc408 3 _ rfl
              rw [add_field _ _ 3 (by omega)] at hv408_3
              replace hv408_3 := Option.some.inj (hv408_3.symm.trans hx408_3)
              injection hv408_3 with hva_ hvn_ hvc_
              rw [hva_] at ge408_3
              rw [hvc_] at ul408_3
              have HL408_3 := Aside0.mk (show Kd.V (Kd.int .u32) 23 _ w.heap.size _ _ ((rd_T42 l0_0 x6_1).f2.f1) from Kd.V_mk ul408_3 ge408_3)
              clear hva_ hvn_ hvc_ ge408_3 ul408_3
              clear hcc408 hce408
              have HR408_3 := Aside0.mk hi408_3
              have HC408_3 := Aside0.mk hl408_3
              clear hi408_3 hl408_3
              replace p408 := eq_true p408
              replace q408 := eq_true q408
              have ea_ := Option.some.inj (hx407_3.symm.trans hx408_3)
              injection ea_ with ea_ en_ ec_
              subst ea_
              subst ec_
              clear en_
              go_wp2_with (first | ((with_reducible refine gate_builtin (b := .append) (xs := #[.tmp 22, .tmp 29]) rfl ?_); at_builtin; refine Kd.N_append k26 (w0 := w) w.heap.size rfl (.tmp 22) (.tmp 29) 76 26 (.agg #[(.bool false), (.slice none 0 0)]) 32 rfl Try.underlying76 info26 rfl (by decide) (by omega) u5 x5_1 (⟨(rd_T42 l0_0 x6_1).f2.f0, (rd_T42 l0_0 x6_1).f2.f1⟩ : S26) [.bool ((rd_T42 l0_0 x6_1).f2.f0), .slice A407_3 ((rd_T42 l0_0 x6_1).f2.f1).length c407_3] (fun k_ => (P0_0_ k_ ∨ w.heap.size ≤ k_) ∧ k_ ≠ gb405 ∧ k_ ≠ gb406) (fun k_ => ((fun k_ => (P0_0_ k_ ∨ w.heap.size ≤ k_) ∧ k_ ≠ gb405 ∧ k_ ≠ gb406)) k_ ∧ some k_ ≠ (u5 : Value).ownBlock) rfl rfl ?aP (fun _ hk => hk) ?aF ?aO ?aB ?aS ?aL ?_; (case aP => exact (k26_mkF _ _ (⟨(rd_T42 l0_0 x6_1).f2.f0, (rd_T42 l0_0 x6_1).f2.f1⟩ : S26) (Kd.V_reads' (Kd.V_mono (ok' := (fun k_ => ((fun k_ => (P0_0_ k_ ∨ w.heap.size ≤ k_) ∧ k_ ≠ gb405 ∧ k_ ≠ gb406)) k_ ∧ some k_ ≠ (u5 : Value).ownBlock)) (HL408_3.out) (fun k_ hk => ⟨⟨hk.1, ⟨hk.2.2.1, hk.2.2.2⟩⟩, hk.2.1⟩))).2.1 (Kd.V_F (Kd.V_mono (ok' := (fun k_ => ((fun k_ => (P0_0_ k_ ∨ w.heap.size ≤ k_) ∧ k_ ≠ gb405 ∧ k_ ≠ gb406)) k_ ∧ some k_ ≠ (u5 : Value).ownBlock)) (HL408_3.out) (fun k_ hk => ⟨⟨hk.1, ⟨hk.2.2.1, hk.2.2.2⟩⟩, hk.2.1⟩))))); (case aB => exact (bl HB)); (case aF => exact (fun k_ hk => ⟨(.inr (Nat.le_trans (below_size (bl HB)) hk)), Kd.freshB (g := gb405) (o := .cells #[.slice (some ad407) l0_0.length c0_0] 40 (0, 0)) (ba BK405.out) k_ hk, Kd.freshB (g := gb406) (o := .cells #[.bool false, .slice none 0 0] 26 (0, 0)) (ba BK406.out) k_ hk⟩)); (case aO => exact (rad HO_5.out)); (case aS => exact (below_size (bl HB))); (case aL => have := LMc8.out; omega); intro v410 w11 ho hb hg hat; rw [← Ny409.out] at ho; have n0_ := Aside0.mk (Kd.V_afterv (ok := (fun k_ => (P0_0_ k_ ∨ w.heap.size ≤ k_) ∧ k_ ≠ gb405 ∧ k_ ≠ gb406)) (by refine rad ?_; exact Kd.V_mono HO_406000.out (fun _ hk => ⟨⟨hk.1, ⟨hk.2.2.1, hk.2.2.2⟩⟩, hk.2.1⟩)) hg hat); have n1_ := Aside0.mk (blk_grown (g := gb405) (o := .cells #[.slice (some ad407) l0_0.length c0_0] 40 (0, 0)) (ba BK405.out) hg (Kd.N_ne HO_5.out BK405.out (by decide))); have n2_ := Aside0.mk (blk_grown (g := gb406) (o := .cells #[.bool false, .slice none 0 0] 26 (0, 0)) (ba BK406.out) hg (Kd.N_away HO_5.out (fun _ hk => hk.2.2))); have n3_ := Aside0.mk (Kd.V_afterv (ok := (fun k_ => (P0_0_ k_ ∨ w.heap.size ≤ k_) ∧ k_ ≠ gb405 ∧ k_ ≠ gb406)) (by refine rad ?_; exact Kd.V_mono HL407_3.out (fun _ hk => ⟨⟨hk.1, ⟨hk.2.2.1, hk.2.2.2⟩⟩, hk.2.1⟩)) hg hat); have n4_ := Aside0.mk (Kd.V_afterv (ok := (fun k_ => (P0_0_ k_ ∨ w.heap.size ≤ k_) ∧ k_ ≠ gb405 ∧ k_ ≠ gb406)) (by refine rad ?_; exact Kd.V_mono HL408_3.out (fun _ hk => ⟨⟨hk.1, ⟨hk.2.2.1, hk.2.2.2⟩⟩, hk.2.1⟩)) hg hat); have n5_ := Aside0.mk (hb); have n6_ := Aside0.mk (ho); clear HO_406000; clear BK405; clear BK406; clear HL407_3; clear HL408_3; clear HB; clear HO_5; have HO_406000 := n0_; have BK405 := n1_; have BK406 := n2_; have HL407_3 := n3_; have HL408_3 := n4_; have HB := n5_; have HO411 := n6_; clear n0_ n1_ n2_ n3_ n4_ n5_ n6_; clear ho hb hg hat))
              go_roundg k1
              case measure => have := HK1.out; omega
              case rel => exact ⟨(y409), (wrap64 (x6_1 + 1)), (fr), H', ⟨by have := HK1.out; omega⟩, ⟨rad HO411.out⟩, ⟨by refine rad ?_; exact Kd.V_mono HO_406000.out (fun _ hk => ⟨hk.1.1, ⟨hk.2, ⟨hk.1.2.1, hk.1.2.2⟩⟩⟩)⟩, ⟨ba BK405.out⟩, ⟨ba BK406.out⟩, ⟨bl HB⟩⟩
            · rw [if_neg c8] at H
              exact absurd H (by simp)
          · rw [if_neg c7] at H
            have c7b0 : (((rd_T42 l0_0 x6_1).f1) == a1) = false := beq_eq_false_iff_ne.mpr c7
            have c7b1 : (((rd_T42 l0_0 x6_1).f1) != a1) = true := bne_iff_ne.mpr c7
            have H' := Aside0.mk H
            clear H
            have hnb12 := NB405_406.out
            have hnc12 := NB406_405.out
            obtain ⟨hcz13_0, hfz13_0⟩ := cf1 BK405.out
            have p407 : 0 ≤ (x6_1 : Int) := od
            have q407 : x6_1 < (l0_0.length : Int) := od
            obtain ⟨ad407, A407_3, c407_3, e407, hx407_0, hx407_1, hx407_2, hx407_3, hl407_3, hi407_3⟩ := at_T42 (Kd.V_reads' HO_406000.out).2.2 x6_1 p407 q407
            cases e407
            obtain ⟨ce407, hce407, hMe407, hcc407⟩ := Kd.V_get HO_406000.out z42 x6_1 p407 (by first | exact q407 | exact od | (have e_ := (Kd.V_reads' HO_406000.out).1; omega))
            obtain ⟨ua407_3, uc407_3, rfl, ul407_3, ge407_3⟩ := k42_openF hMe407
            have hv407_3 := hcc407 3 _ rfl
            rw [add_field _ _ 3 (by omega)] at hv407_3
            replace hv407_3 := Option.some.inj (hv407_3.symm.trans hx407_3)
            injection hv407_3 with hva_ hvn_ hvc_
            rw [hva_] at ge407_3
            rw [hvc_] at ul407_3
            have HL407_3 := Aside0.mk (show Kd.V (Kd.int .u32) 23 _ w.heap.size _ _ ((rd_T42 l0_0 x6_1).f2.f1) from Kd.V_mk ul407_3 ge407_3)
            clear hva_ hvn_ hvc_ ge407_3 ul407_3
            clear hcc407 hce407
            have HR407_3 := Aside0.mk hi407_3
            have HC407_3 := Aside0.mk hl407_3
            clear hi407_3 hl407_3
            replace p407 := eq_true p407
            replace q407 := eq_true q407
            go_wp2
            go_roundg k1
            case measure => have := HK1.out; omega
            case rel => exact ⟨(x5_1), (wrap64 (x6_1 + 1)), (fr), H', ⟨by have := HK1.out; omega⟩, ⟨rad HO_5.out⟩, ⟨rad HO_406000.out⟩, ⟨ba BK405.out⟩, ⟨ba BK406.out⟩, ⟨bl HB⟩⟩
        · rw [if_neg c6] at H
          exact absurd H (by simp)
      · rw [if_neg c5] at H
        have c5b0 : decide (x6_1 < (l0_0.length : Int)) = false := decide_eq_false c5
        clear c5
        replace H := Option.bind_eq_some_iff.mp H
        obtain ⟨⟨t412, t413⟩, A140, H⟩ := H
        replace H : (some (t412, t413)) = some (r1, r2) := H
        have A14 := Aside0.mk A140
        clear A140
        simp only [Option.some.injEq, Prod.mk.injEq] at H
        obtain ⟨rfl, rfl⟩ := H
        have hnb15 := NB405_406.out
        have hnc15 := NB406_405.out
        obtain ⟨hcz16_0, hfz16_0⟩ := cf1 BK405.out
        obtain ⟨Ao17, co17, eo17⟩ := Kd.N_slice HO_5.out
        subst eo17
        go_wp2_with (first | ((with_reducible refine gate_callee (f := 59) rfl ?_); refine goesL_ (some 32) rfl rfl Try.func59 (by kernel_rfl) rfl #[.slice Ao17 x5_1.length co17] rfl (by (try simp only [List.map_toArray, List.map_cons, List.map_nil]); first | done | rfl | (simp only [List.length_drop, List.length_take]; rfl)) ?_; (with_reducible refine (stolonref06_Filter.calls k1 (fun k_ => ((P0_0_ k_ ∨ w.heap.size ≤ k_) ∧ (k_ ≠ gb405 ∧ k_ ≠ gb406))) _ _ x5_1 t412 t413 _ ?side1 A14.out).mono ?_); (case side1 => exact Kd.N_V (HO_5.out)); rintro e w18 ⟨v414, rfl, ho0, hb⟩; refine ⟨_, rfl, ?_⟩; have n0_ := Aside0.mk (Kd.N_elder' (rad HO_5.out) (Kd.R_base ho0) hb); have n1_ := Aside0.mk (Kd.V_elder' (rad HO_406000.out) (Kd.R_base ho0) hb); have n2_ := Aside0.mk (Kd.R_lower (Kd.R_newM (M := fun k_ => (w.heap.size ≤ k_)) (Kd.R_mono (ok' := fun k_ => True) ho0 (fun _ hk_ => trivial)) (below_size (bl HB)) (fun k_ h_ => h_)) (below_size (bl HB))); have n3_ := Aside0.mk (blk_below (g := gb405) (o := .cells #[.slice A0_0 l0_0.length c0_0] 40 (0, 0)) (ba BK405.out) hb); have n4_ := Aside0.mk (blk_below (g := gb406) (o := .cells #[.bool false, .slice none 0 0] 26 (0, 0)) (ba BK406.out) hb); have n5_ := Aside0.mk (below_step (bl HB) hb); clear HO_5; clear HO_406000; clear BK405; clear BK406; clear HB; have HO_5 := n0_; have HO_406000 := n1_; have HO415 := n2_; have BK405 := n3_; have BK406 := n4_; have HB := n5_; clear n0_ n1_ n2_ n3_ n4_ n5_; (try clear hb); (try clear hb2); (try clear hk); (try clear hi); (try clear ho0); obtain ⟨hcz19_0, hcz19_1, hfz19_0, hfz19_1⟩ := cf2 BK406.out; obtain ⟨Ao20, co20, eo20⟩ := Kd.R_slice HO415.out; subst eo20))
        refine bodyPost_ret (results_cell_row rfl _ _ gb406 26 #[.bool t412, .slice Ao20 t413.length co20] (0, 0) _ rfl (by refine ba ?_; refine blk_put (cs := #[.bool t412, .slice none 0 0]) ?_ 1 _ rfl; refine ba ?_; refine blk_put (cs := #[.bool false, .slice none 0 0]) ?_ 0 _ rfl; refine ba ?_; exact BK406.out) Try.underlying26 rfl (by kernel_rfl)) rfl ?_
        exact ⟨_, by first | rfl | (simp [errW_none, errW_some] <;> rfl) | (simp [*, errW_none, errW_some] <;> rfl), by refine rad ?_; exact Kd.R_mono (Kd.R_far (p := ⟨gb406, 1, none⟩) (Kd.R_far (p := ⟨gb406, 0, none⟩) (Kd.R_types HO415.out BK406.out (by decide)) (fun _ hk => hk.2) (.bool t412)) (fun _ hk => hk.2) (.slice Ao20 t413.length co20)) (fun _ hk => hk.1.1), bl HB⟩
end Go.Proofs.Ytjncmiclpaodhaa.PHo
