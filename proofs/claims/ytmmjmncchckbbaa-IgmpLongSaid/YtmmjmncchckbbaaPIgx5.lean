-- written by a program of this session (hprint.py), over the kit's printer
import Derived.Test.YtmmjmncchckbbaaPIgx0
import Derived.Test.YtmmjmncchckbbaaIgX
namespace Go.Proofs.Ytmmjmncchckbbaa.PIg
open Go.RowKit Go.Proofs.YtmmjmncchckbbaaW.PrintWords Go.Proofs.YtmmjmncchckbbaaW.PrintLast Go.Proofs.YtmmjmncchckbbaaW.PrintMore
attribute [local go_sem] max2_int min2_int max_two min_two max_three min_three max_four min_four   -- for this text's walks alone
set_option linter.unusedVariables false
set_option linter.unusedSimpArgs false

/-! ### stolonref05_Right: function 16 -/
mutual
def stolonref05_Right.j0 : Nat → Bool → Int → Int → Int → Int → Bool → Int → Int → List Int → List (S44) → Option (Bool)
  | 0, _, _, _, _, _, _, _, _, _, _ => none
  | k + 1, x3, x160000, x160001, x160002, x160003, x160004, x160005, x160006, x160007, x160008 => (stolonref01_Asked.f x160003).bind fun t160 => (if x160000 = 34 then (if x3 = true then (if x160001 = 0 then (if x160002 = 0 then (if x160003 = 0 then (stolonref05_Right.j1 k (decide ((x160008.length : Int) > 32)) x160000 x160001 x160002 x160003 x160004 x160005 x160006 x160007 x160008) else (stolonref05_Right.j1 k true x160000 x160001 x160002 x160003 x160004 x160005 x160006 x160007 x160008)) else (stolonref05_Right.j1 k true x160000 x160001 x160002 x160003 x160004 x160005 x160006 x160007 x160008)) else (stolonref05_Right.j1 k true x160000 x160001 x160002 x160003 x160004 x160005 x160006 x160007 x160008)) else (stolonref05_Right.j1 k true x160000 x160001 x160002 x160003 x160004 x160005 x160006 x160007 x160008)) else (if (x160008.length : Int) > 0 then (some false) else (if x160000 = 18 then (stolonref05_Right.j3 k x3 t160 true x160000 x160001 x160002 x160003 x160004 x160005 x160006 x160007 x160008) else (if x160000 = 22 then (stolonref05_Right.j3 k x3 t160 true x160000 x160001 x160002 x160003 x160004 x160005 x160006 x160007 x160008) else (stolonref05_Right.j3 k x3 t160 (x160000 == 23) x160000 x160001 x160002 x160003 x160004 x160005 x160006 x160007 x160008)))))
def stolonref05_Right.j1 : Nat → Bool → Int → Int → Int → Int → Bool → Int → Int → List Int → List (S44) → Option (Bool)
  | 0, _, _, _, _, _, _, _, _, _, _ => none
  | k + 1, x55, x160000, x160001, x160002, x160003, x160004, x160005, x160006, x160007, x160008 => if x55 = true then (some false) else (stolonref05_Right.l0 k 0 x160000 x160001 x160002 x160003 x160004 x160005 x160006 x160007 x160008)
def stolonref05_Right.l0 : Nat → Int → Int → Int → Int → Int → Bool → Int → Int → List Int → List (S44) → Option (Bool)
  | 0, _, _, _, _, _, _, _, _, _, _ => none
  | k + 1, x5, x160000, x160001, x160002, x160003, x160004, x160005, x160006, x160007, x160008 => if x5 < (x160008.length : Int) then (if 0 ≤ x5 then ((stolonref01_Asked.f ((rd_T44 x160008 x5).f1)).bind fun t163 => (if ((rd_T44 x160008 x5).f0) < 1 then (some false) else (if ((rd_T44 x160008 x5).f0) > 6 then (some false) else (if t163 = true then (if (((rd_T44 x160008 x5).f2).length : Int) > 64 then (some false) else (stolonref05_Right.l0 k (wrap64 (x5 + 1)) x160000 x160001 x160002 x160003 x160004 x160005 x160006 x160007 x160008)) else (some false))))) else (none)) else (some true)
def stolonref05_Right.j3 : Nat → Bool → Bool → Bool → Int → Int → Int → Int → Bool → Int → Int → List Int → List (S44) → Option (Bool)
  | 0, _, _, _, _, _, _, _, _, _, _, _, _ => none
  | k + 1, x3, x4, x105, x160000, x160001, x160002, x160003, x160004, x160005, x160006, x160007, x160008 => if x105 = true then (if x3 = true then (if x160001 = 0 then (if x160002 = 0 then (some x4) else (some false)) else (some false)) else (some false)) else (if x160000 = 17 then (if x160001 = 1 then (if x3 = true then (if x160002 = 0 then (some (x160003 == 0)) else (some false)) else (some false)) else (if x160001 = 2 then (if x3 = true then (if x160002 > 0 then (if x160003 = 0 then (some true) else (some x4)) else (some false)) else (some false)) else (if x160001 = 3 then (if x160005 < 8 then (if (x160007.length : Int) ≤ 64 then (if x4 = true then (some true) else (if x160003 = 0 then (some ((x160007.length : Int) == 0)) else (some false))) else (some false)) else (some false)) else (some false)))) else (some false))
end
def stolonref05_Right.f (k : Nat) (a0_0 : Int) (a0_1 : Int) (a0_2 : Int) (a0_3 : Int) (a0_4 : Bool) (a0_5 : Int) (a0_6 : Int) (l0_7 : List Int) (l0_8 : List (S44)) : Option (Bool) := if a0_4 = true then (stolonref05_Right.j0 k false a0_0 a0_1 a0_2 a0_3 a0_4 a0_5 a0_6 l0_7 l0_8) else (if a0_5 = 0 then (if a0_6 = 0 then (stolonref05_Right.j0 k ((l0_7.length : Int) == 0) a0_0 a0_1 a0_2 a0_3 a0_4 a0_5 a0_6 l0_7 l0_8) else (stolonref05_Right.j0 k false a0_0 a0_1 a0_2 a0_3 a0_4 a0_5 a0_6 l0_7 l0_8)) else (stolonref05_Right.j0 k false a0_0 a0_1 a0_2 a0_3 a0_4 a0_5 a0_6 l0_7 l0_8))
theorem stolonref05_Right.mono_l : ∀ k, (∀ y0 y1 y2 y3 y4 y5 y6 y7 y8 y9, LeO (stolonref05_Right.j0 k y0 y1 y2 y3 y4 y5 y6 y7 y8 y9) (stolonref05_Right.j0 (k + 1) y0 y1 y2 y3 y4 y5 y6 y7 y8 y9)) ∧ (∀ y0 y1 y2 y3 y4 y5 y6 y7 y8 y9, LeO (stolonref05_Right.j1 k y0 y1 y2 y3 y4 y5 y6 y7 y8 y9) (stolonref05_Right.j1 (k + 1) y0 y1 y2 y3 y4 y5 y6 y7 y8 y9)) ∧ (∀ y0 y1 y2 y3 y4 y5 y6 y7 y8 y9, LeO (stolonref05_Right.l0 k y0 y1 y2 y3 y4 y5 y6 y7 y8 y9) (stolonref05_Right.l0 (k + 1) y0 y1 y2 y3 y4 y5 y6 y7 y8 y9)) ∧ (∀ y0 y1 y2 y3 y4 y5 y6 y7 y8 y9 y10 y11, LeO (stolonref05_Right.j3 k y0 y1 y2 y3 y4 y5 y6 y7 y8 y9 y10 y11) (stolonref05_Right.j3 (k + 1) y0 y1 y2 y3 y4 y5 y6 y7 y8 y9 y10 y11))
  | 0 => ⟨fun _ _ _ _ _ _ _ _ _ _ r h => by simp [stolonref05_Right.j0] at h, fun _ _ _ _ _ _ _ _ _ _ r h => by simp [stolonref05_Right.j1] at h, fun _ _ _ _ _ _ _ _ _ _ r h => by simp [stolonref05_Right.l0] at h, fun _ _ _ _ _ _ _ _ _ _ _ _ r h => by simp [stolonref05_Right.j3] at h⟩
  | k + 1 => by
    obtain ⟨ih0, ih1, ih2, ih3⟩ := stolonref05_Right.mono_l k
    refine ⟨?_, ?_, ?_, ?_⟩
    · intro y0 y1 y2 y3 y4 y5 y6 y7 y8 y9
      unfold stolonref05_Right.j0
      repeat' first
      | (with_reducible exact ih0 _ _ _ _ _ _ _ _ _ _)
      | (with_reducible exact ih1 _ _ _ _ _ _ _ _ _ _)
      | (with_reducible exact ih2 _ _ _ _ _ _ _ _ _ _)
      | (with_reducible exact ih3 _ _ _ _ _ _ _ _ _ _ _ _)
      | (with_reducible exact LeO.refl _)
      | (with_reducible exact LeO.none _)
      | (with_reducible refine LeO.ite ?_ ?_)
      | (with_reducible refine LeO.bind ?_ (fun _ => ?_))
      | exact ih0 _ _ _ _ _ _ _ _ _ _
      | exact ih1 _ _ _ _ _ _ _ _ _ _
      | exact ih2 _ _ _ _ _ _ _ _ _ _
      | exact ih3 _ _ _ _ _ _ _ _ _ _ _ _
      | exact LeO.none _
      | refine LeO.ite ?_ ?_
      | refine LeO.bind ?_ (fun _ => ?_)
    · intro y0 y1 y2 y3 y4 y5 y6 y7 y8 y9
      unfold stolonref05_Right.j1
      repeat' first
      | (with_reducible exact ih0 _ _ _ _ _ _ _ _ _ _)
      | (with_reducible exact ih1 _ _ _ _ _ _ _ _ _ _)
      | (with_reducible exact ih2 _ _ _ _ _ _ _ _ _ _)
      | (with_reducible exact ih3 _ _ _ _ _ _ _ _ _ _ _ _)
      | (with_reducible exact LeO.refl _)
      | (with_reducible exact LeO.none _)
      | (with_reducible refine LeO.ite ?_ ?_)
      | (with_reducible refine LeO.bind ?_ (fun _ => ?_))
      | exact ih0 _ _ _ _ _ _ _ _ _ _
      | exact ih1 _ _ _ _ _ _ _ _ _ _
      | exact ih2 _ _ _ _ _ _ _ _ _ _
      | exact ih3 _ _ _ _ _ _ _ _ _ _ _ _
      | exact LeO.none _
      | refine LeO.ite ?_ ?_
      | refine LeO.bind ?_ (fun _ => ?_)
    · intro y0 y1 y2 y3 y4 y5 y6 y7 y8 y9
      unfold stolonref05_Right.l0
      repeat' first
      | (with_reducible exact ih0 _ _ _ _ _ _ _ _ _ _)
      | (with_reducible exact ih1 _ _ _ _ _ _ _ _ _ _)
      | (with_reducible exact ih2 _ _ _ _ _ _ _ _ _ _)
      | (with_reducible exact ih3 _ _ _ _ _ _ _ _ _ _ _ _)
      | (with_reducible exact LeO.refl _)
      | (with_reducible exact LeO.none _)
      | (with_reducible refine LeO.ite ?_ ?_)
      | (with_reducible refine LeO.bind ?_ (fun _ => ?_))
      | exact ih0 _ _ _ _ _ _ _ _ _ _
      | exact ih1 _ _ _ _ _ _ _ _ _ _
      | exact ih2 _ _ _ _ _ _ _ _ _ _
      | exact ih3 _ _ _ _ _ _ _ _ _ _ _ _
      | exact LeO.none _
      | refine LeO.ite ?_ ?_
      | refine LeO.bind ?_ (fun _ => ?_)
    · intro y0 y1 y2 y3 y4 y5 y6 y7 y8 y9 y10 y11
      unfold stolonref05_Right.j3
      repeat' first
      | (with_reducible exact ih0 _ _ _ _ _ _ _ _ _ _)
      | (with_reducible exact ih1 _ _ _ _ _ _ _ _ _ _)
      | (with_reducible exact ih2 _ _ _ _ _ _ _ _ _ _)
      | (with_reducible exact ih3 _ _ _ _ _ _ _ _ _ _ _ _)
      | (with_reducible exact LeO.refl _)
      | (with_reducible exact LeO.none _)
      | (with_reducible refine LeO.ite ?_ ?_)
      | (with_reducible refine LeO.bind ?_ (fun _ => ?_))
      | exact ih0 _ _ _ _ _ _ _ _ _ _
      | exact ih1 _ _ _ _ _ _ _ _ _ _
      | exact ih2 _ _ _ _ _ _ _ _ _ _
      | exact ih3 _ _ _ _ _ _ _ _ _ _ _ _
      | exact LeO.none _
      | refine LeO.ite ?_ ?_
      | refine LeO.bind ?_ (fun _ => ?_)
theorem stolonref05_Right.mono : ∀ a0 a1 a2 a3 a4 a5 a6 a7 a8 k, LeO (stolonref05_Right.f k a0 a1 a2 a3 a4 a5 a6 a7 a8) (stolonref05_Right.f (k + 1) a0 a1 a2 a3 a4 a5 a6 a7 a8) := by
  intro a0 a1 a2 a3 a4 a5 a6 a7 a8 k
  obtain ⟨ih0, ih1, ih2, ih3⟩ := stolonref05_Right.mono_l k
  unfold stolonref05_Right.f
  repeat' first
      | (with_reducible exact ih0 _ _ _ _ _ _ _ _ _ _)
      | (with_reducible exact ih1 _ _ _ _ _ _ _ _ _ _)
      | (with_reducible exact ih2 _ _ _ _ _ _ _ _ _ _)
      | (with_reducible exact ih3 _ _ _ _ _ _ _ _ _ _ _ _)
      | (with_reducible exact LeO.refl _)
      | (with_reducible exact LeO.none _)
      | (with_reducible refine LeO.ite ?_ ?_)
      | (with_reducible refine LeO.bind ?_ (fun _ => ?_))
      | exact ih0 _ _ _ _ _ _ _ _ _ _
      | exact ih1 _ _ _ _ _ _ _ _ _ _
      | exact ih2 _ _ _ _ _ _ _ _ _ _
      | exact ih3 _ _ _ _ _ _ _ _ _ _ _ _
      | exact LeO.none _
      | refine LeO.ite ?_ ?_
      | refine LeO.bind ?_ (fun _ => ?_)
set_option maxHeartbeats 8000000 in
set_option maxRecDepth 100000 in
theorem stolonref05_Right.calls (k : Nat) (a0_0 : Int) (a0_1 : Int) (a0_2 : Int) (a0_3 : Int) (a0_4 : Bool) (a0_5 : Int) (a0_6 : Int) (A0_7 : Option Addr) (c0_7 : Nat) (l0_7 : List Int) (A0_8 : Option Addr) (c0_8 : Nat) (l0_8 : List (S44)) (r : Bool) (w : World) (hr0_7 : Kd.C (Kd.int .u32) w A0_7 l0_7.length l0_7) (hc0_7 : l0_7.length ≤ c0_7) (hr0_8 : Kd.C k44 w A0_8 l0_8.length l0_8) (hc0_8 : l0_8.length ≤ c0_8) (h : stolonref05_Right.f k a0_0 a0_1 a0_2 a0_3 a0_4 a0_5 a0_6 l0_7 l0_8 = some r) :
    Calls Try.prog 16 #[.agg #[.int .u8 a0_0, .int .i64 a0_1, .int .u8 a0_2, .int .u32 a0_3, .bool a0_4, .int .u8 a0_5, .int .u8 a0_6, .slice A0_7 l0_7.length c0_7, .slice A0_8 l0_8.length c0_8]] w fun e w' => e = .returned (.bool r) ∧ Below w.heap.size w w' := by
  have hu27 := Try.underlying27
  have hu44 := Try.underlying44
  have HR0_7 := Aside0.mk hr0_7
  have HC0_7 := Aside0.mk hc0_7
  clear hr0_7 hc0_7
  have HR0_8 := Aside0.mk hr0_8
  have HC0_8 := Aside0.mk hc0_8
  clear hr0_8 hc0_8
  have HB := Aside0.mk (Below.refl w.heap.size w)
  have H : (if a0_4 = true then (stolonref05_Right.j0 k false a0_0 a0_1 a0_2 a0_3 a0_4 a0_5 a0_6 l0_7 l0_8) else (if a0_5 = 0 then (if a0_6 = 0 then (stolonref05_Right.j0 k ((l0_7.length : Int) == 0) a0_0 a0_1 a0_2 a0_3 a0_4 a0_5 a0_6 l0_7 l0_8) else (stolonref05_Right.j0 k false a0_0 a0_1 a0_2 a0_3 a0_4 a0_5 a0_6 l0_7 l0_8)) else (stolonref05_Right.j0 k false a0_0 a0_1 a0_2 a0_3 a0_4 a0_5 a0_6 l0_7 l0_8))) = some r := h
  clear h
  have HC2 := Aside0.mk H
  clear H
  go_enter Try.func16, Try.ntmps16
  go_upto_region 1 with (first | ((with_reducible refine gate_dst (N := 1) rfl ?_); (try (refine gate_guard (by rfl) ?_; dsimp only)); refine box_event ?hg (N := 1) ?hd (cs := #[.int .u8 a0_0, .int .i64 a0_1, .int .u8 a0_2, .int .u32 a0_3, .bool a0_4, .int .u8 a0_5, .int .u8 a0_6, .slice A0_7 l0_7.length c0_7, .slice A0_8 l0_8.length c0_8]) (t := 27) ?hr ?_; (case hd => rfl); (case hg => rfl); (case hr => first | (go_simp; done) | (go_simp; rfl)); intro gb159 hg w3 hbox hb; have n0_ := Aside0.mk (below_step (by repeat (first | (with_reducible first | exact HB.out | apply below_alloc | apply pw_below_drewN | apply below_drew1) | exact HB.out)) hb); have n1_ := Aside0.mk (hbox); have n2_ := Aside0.mk ((by rw [hg]; exact (below_size (by repeat (first | (with_reducible first | exact HB.out | apply below_alloc | apply pw_below_drewN | apply below_drew1) | exact HB.out))) : w.heap.size ≤ gb159)); have n3_ := Aside0.mk ((by rw [hg]; exact (below_size (by repeat (first | (with_reducible first | exact HB.out | apply below_alloc | apply pw_below_drewN | apply below_drew1) | exact HB.out))) : w.heap.size ≤ gb159)); clear HB; have HB := n0_; have BK159 := n1_; have GW159 := n2_; have GE159 := n3_; clear n0_ n1_ n2_ n3_; clear hb hbox hg))
  (try simp only [Act.put, List.setIfInBounds_toArray, List.set_cons_zero, List.set_cons_succ])
  go_cut [3] (fun v3 wc => ∃ (kq : Nat) (x3_1 : Bool), v3 = .bool x3_1 ∧ Aside0 (stolonref05_Right.j0 kq x3_1 a0_0 a0_1 a0_2 a0_3 a0_4 a0_5 a0_6 l0_7 l0_8 = some r) ∧ Aside0 (kq ≤ k) ∧ Aside0 (wc.heap[gb159]? = some (.cells #[.int .u8 a0_0, .int .i64 a0_1, .int .u8 a0_2, .int .u32 a0_3, .bool a0_4, .int .u8 a0_5, .int .u8 a0_6, (.slice A0_7 l0_7.length c0_7), (.slice A0_8 l0_8.length c0_8)] 27 (0, 0))) ∧ Aside0 (Below w.heap.size w wc))
  case first =>
    have H := HC2.out
    clear HC2
    by_cases c4 : a0_4 = true
    · subst c4
      have H1 : (stolonref05_Right.j0 k false a0_0 a0_1 a0_2 a0_3 true a0_5 a0_6 l0_7 l0_8) = some r := by rw [if_pos rfl] at H; exact H
      clear H
      have H := H1
      clear H1
      have H' := Aside0.mk H
      clear H
      have hcz5_0 : w3.cell? ⟨gb159, 0, none⟩ = some (.int .u8 a0_0) := (blk_cell BK159.out 0).trans rfl
      have hcz5_1 : w3.cell? ⟨gb159, 1, none⟩ = some (.int .i64 a0_1) := (blk_cell BK159.out 1).trans rfl
      have hcz5_2 : w3.cell? ⟨gb159, 2, none⟩ = some (.int .u8 a0_2) := (blk_cell BK159.out 2).trans rfl
      have hcz5_3 : w3.cell? ⟨gb159, 3, none⟩ = some (.int .u32 a0_3) := (blk_cell BK159.out 3).trans rfl
      have hcz5_4 : w3.cell? ⟨gb159, 4, none⟩ = some (.bool true) := (blk_cell BK159.out 4).trans rfl
      have hcz5_5 : w3.cell? ⟨gb159, 5, none⟩ = some (.int .u8 a0_5) := (blk_cell BK159.out 5).trans rfl
      have hcz5_6 : w3.cell? ⟨gb159, 6, none⟩ = some (.int .u8 a0_6) := (blk_cell BK159.out 6).trans rfl
      have hcz5_7 : w3.cell? ⟨gb159, 7, none⟩ = some (.slice A0_7 l0_7.length c0_7) := (blk_cell BK159.out 7).trans rfl
      have hcz5_8 : w3.cell? ⟨gb159, 8, none⟩ = some (.slice A0_8 l0_8.length c0_8) := (blk_cell BK159.out 8).trans rfl
      have hfz5_0 := blk_frozen BK159.out 0
      have hfz5_1 := blk_frozen BK159.out 1
      have hfz5_2 := blk_frozen BK159.out 2
      have hfz5_3 := blk_frozen BK159.out 3
      have hfz5_4 := blk_frozen BK159.out 4
      have hfz5_5 := blk_frozen BK159.out 5
      have hfz5_6 := blk_frozen BK159.out 6
      have hfz5_7 := blk_frozen BK159.out 7
      have hfz5_8 := blk_frozen BK159.out 8
      go_wp2
      go_meet
      case rel => exact ⟨_, (false), (by first | rfl | (simp; done) | (simp [*]; done)), H', ⟨by first | omega | exact Nat.le_refl _⟩, ⟨by (with_reducible repeat (first | refine blk_drewN ?_ _ | refine blk_drew ?_ | refine blk_alloc ?_ _)); exact BK159.out⟩, ⟨by repeat (first | (with_reducible first | exact HB.out | apply below_alloc | apply pw_below_drewN | apply below_drew1 | refine below_set ?_ GE159.out) | exact HB.out)⟩⟩
    · replace c4 := Bool.eq_false_iff.mpr c4
      subst c4
      have H1 : (if a0_5 = 0 then (if a0_6 = 0 then (stolonref05_Right.j0 k ((l0_7.length : Int) == 0) a0_0 a0_1 a0_2 a0_3 false a0_5 a0_6 l0_7 l0_8) else (stolonref05_Right.j0 k false a0_0 a0_1 a0_2 a0_3 false a0_5 a0_6 l0_7 l0_8)) else (stolonref05_Right.j0 k false a0_0 a0_1 a0_2 a0_3 false a0_5 a0_6 l0_7 l0_8)) = some r := by rw [if_neg (show ¬ (false = true) by decide)] at H; exact H
      clear H
      have H := H1
      clear H1
      by_cases c6 : a0_5 = 0
      · rw [if_pos c6] at H
        have c6b0 : (a0_5 == 0) = true := beq_iff_eq.mpr c6
        have c6b1 : (a0_5 != 0) = false := bne_eq_false_iff_eq.mpr c6
        clear c6
        (first | rw [c6b0] | (simp only [i64_w, i32_w]; rw [c6b0]) | skip)
        by_cases c7 : a0_6 = 0
        · rw [if_pos c7] at H
          have c7b0 : (a0_6 == 0) = true := beq_iff_eq.mpr c7
          have c7b1 : (a0_6 != 0) = false := bne_eq_false_iff_eq.mpr c7
          clear c7
          have H' := Aside0.mk H
          clear H
          have hcz8_0 : w3.cell? ⟨gb159, 0, none⟩ = some (.int .u8 a0_0) := (blk_cell BK159.out 0).trans rfl
          have hcz8_1 : w3.cell? ⟨gb159, 1, none⟩ = some (.int .i64 a0_1) := (blk_cell BK159.out 1).trans rfl
          have hcz8_2 : w3.cell? ⟨gb159, 2, none⟩ = some (.int .u8 a0_2) := (blk_cell BK159.out 2).trans rfl
          have hcz8_3 : w3.cell? ⟨gb159, 3, none⟩ = some (.int .u32 a0_3) := (blk_cell BK159.out 3).trans rfl
          have hcz8_4 : w3.cell? ⟨gb159, 4, none⟩ = some (.bool false) := (blk_cell BK159.out 4).trans rfl
          have hcz8_5 : w3.cell? ⟨gb159, 5, none⟩ = some (.int .u8 a0_5) := (blk_cell BK159.out 5).trans rfl
          have hcz8_6 : w3.cell? ⟨gb159, 6, none⟩ = some (.int .u8 a0_6) := (blk_cell BK159.out 6).trans rfl
          have hcz8_7 : w3.cell? ⟨gb159, 7, none⟩ = some (.slice A0_7 l0_7.length c0_7) := (blk_cell BK159.out 7).trans rfl
          have hcz8_8 : w3.cell? ⟨gb159, 8, none⟩ = some (.slice A0_8 l0_8.length c0_8) := (blk_cell BK159.out 8).trans rfl
          have hfz8_0 := blk_frozen BK159.out 0
          have hfz8_1 := blk_frozen BK159.out 1
          have hfz8_2 := blk_frozen BK159.out 2
          have hfz8_3 := blk_frozen BK159.out 3
          have hfz8_4 := blk_frozen BK159.out 4
          have hfz8_5 := blk_frozen BK159.out 5
          have hfz8_6 := blk_frozen BK159.out 6
          have hfz8_7 := blk_frozen BK159.out 7
          have hfz8_8 := blk_frozen BK159.out 8
          go_wp2
          go_meet
          case rel => exact ⟨_, (((l0_7.length : Int) == 0)), (by first | rfl | (simp; done) | (simp [*]; done)), H', ⟨by first | omega | exact Nat.le_refl _⟩, ⟨by (with_reducible repeat (first | refine blk_drewN ?_ _ | refine blk_drew ?_ | refine blk_alloc ?_ _)); exact BK159.out⟩, ⟨by repeat (first | (with_reducible first | exact HB.out | apply below_alloc | apply pw_below_drewN | apply below_drew1 | refine below_set ?_ GE159.out) | exact HB.out)⟩⟩
        · rw [if_neg c7] at H
          have c7b0 : (a0_6 == 0) = false := beq_eq_false_iff_ne.mpr c7
          have c7b1 : (a0_6 != 0) = true := bne_iff_ne.mpr c7
          have H' := Aside0.mk H
          clear H
          have hcz9_0 : w3.cell? ⟨gb159, 0, none⟩ = some (.int .u8 a0_0) := (blk_cell BK159.out 0).trans rfl
          have hcz9_1 : w3.cell? ⟨gb159, 1, none⟩ = some (.int .i64 a0_1) := (blk_cell BK159.out 1).trans rfl
          have hcz9_2 : w3.cell? ⟨gb159, 2, none⟩ = some (.int .u8 a0_2) := (blk_cell BK159.out 2).trans rfl
          have hcz9_3 : w3.cell? ⟨gb159, 3, none⟩ = some (.int .u32 a0_3) := (blk_cell BK159.out 3).trans rfl
          have hcz9_4 : w3.cell? ⟨gb159, 4, none⟩ = some (.bool false) := (blk_cell BK159.out 4).trans rfl
          have hcz9_5 : w3.cell? ⟨gb159, 5, none⟩ = some (.int .u8 a0_5) := (blk_cell BK159.out 5).trans rfl
          have hcz9_6 : w3.cell? ⟨gb159, 6, none⟩ = some (.int .u8 a0_6) := (blk_cell BK159.out 6).trans rfl
          have hcz9_7 : w3.cell? ⟨gb159, 7, none⟩ = some (.slice A0_7 l0_7.length c0_7) := (blk_cell BK159.out 7).trans rfl
          have hcz9_8 : w3.cell? ⟨gb159, 8, none⟩ = some (.slice A0_8 l0_8.length c0_8) := (blk_cell BK159.out 8).trans rfl
          have hfz9_0 := blk_frozen BK159.out 0
          have hfz9_1 := blk_frozen BK159.out 1
          have hfz9_2 := blk_frozen BK159.out 2
          have hfz9_3 := blk_frozen BK159.out 3
          have hfz9_4 := blk_frozen BK159.out 4
          have hfz9_5 := blk_frozen BK159.out 5
          have hfz9_6 := blk_frozen BK159.out 6
          have hfz9_7 := blk_frozen BK159.out 7
          have hfz9_8 := blk_frozen BK159.out 8
          go_wp2
          go_meet
          case rel => exact ⟨_, (false), (by first | rfl | (simp; done) | (simp [*]; done)), H', ⟨by first | omega | exact Nat.le_refl _⟩, ⟨by (with_reducible repeat (first | refine blk_drewN ?_ _ | refine blk_drew ?_ | refine blk_alloc ?_ _)); exact BK159.out⟩, ⟨by repeat (first | (with_reducible first | exact HB.out | apply below_alloc | apply pw_below_drewN | apply below_drew1 | refine below_set ?_ GE159.out) | exact HB.out)⟩⟩
      · rw [if_neg c6] at H
        have c6b0 : (a0_5 == 0) = false := beq_eq_false_iff_ne.mpr c6
        have c6b1 : (a0_5 != 0) = true := bne_iff_ne.mpr c6
        (first | rw [c6b0] | (simp only [i64_w, i32_w]; rw [c6b0]) | skip)
        have H' := Aside0.mk H
        clear H
        have hcz10_0 : w3.cell? ⟨gb159, 0, none⟩ = some (.int .u8 a0_0) := (blk_cell BK159.out 0).trans rfl
        have hcz10_1 : w3.cell? ⟨gb159, 1, none⟩ = some (.int .i64 a0_1) := (blk_cell BK159.out 1).trans rfl
        have hcz10_2 : w3.cell? ⟨gb159, 2, none⟩ = some (.int .u8 a0_2) := (blk_cell BK159.out 2).trans rfl
        have hcz10_3 : w3.cell? ⟨gb159, 3, none⟩ = some (.int .u32 a0_3) := (blk_cell BK159.out 3).trans rfl
        have hcz10_4 : w3.cell? ⟨gb159, 4, none⟩ = some (.bool false) := (blk_cell BK159.out 4).trans rfl
        have hcz10_5 : w3.cell? ⟨gb159, 5, none⟩ = some (.int .u8 a0_5) := (blk_cell BK159.out 5).trans rfl
        have hcz10_6 : w3.cell? ⟨gb159, 6, none⟩ = some (.int .u8 a0_6) := (blk_cell BK159.out 6).trans rfl
        have hcz10_7 : w3.cell? ⟨gb159, 7, none⟩ = some (.slice A0_7 l0_7.length c0_7) := (blk_cell BK159.out 7).trans rfl
        have hcz10_8 : w3.cell? ⟨gb159, 8, none⟩ = some (.slice A0_8 l0_8.length c0_8) := (blk_cell BK159.out 8).trans rfl
        have hfz10_0 := blk_frozen BK159.out 0
        have hfz10_1 := blk_frozen BK159.out 1
        have hfz10_2 := blk_frozen BK159.out 2
        have hfz10_3 := blk_frozen BK159.out 3
        have hfz10_4 := blk_frozen BK159.out 4
        have hfz10_5 := blk_frozen BK159.out 5
        have hfz10_6 := blk_frozen BK159.out 6
        have hfz10_7 := blk_frozen BK159.out 7
        have hfz10_8 := blk_frozen BK159.out 8
        go_wp2
        go_meet
        case rel => exact ⟨_, (false), (by first | rfl | (simp; done) | (simp [*]; done)), H', ⟨by first | omega | exact Nat.le_refl _⟩, ⟨by (with_reducible repeat (first | refine blk_drewN ?_ _ | refine blk_drew ?_ | refine blk_alloc ?_ _)); exact BK159.out⟩, ⟨by repeat (first | (with_reducible first | exact HB.out | apply below_alloc | apply pw_below_drewN | apply below_drew1 | refine below_set ?_ GE159.out) | exact HB.out)⟩⟩
  case rest =>
    clear HC2
    try clear c1
    try clear p2
    try clear c4
    try clear c6
    try clear c6b0
    try clear c6b1
    try clear c7
    try clear c7b0
    try clear c7b1
    try clear hcz10_0
    try clear hcz10_1
    try clear hcz10_2
    try clear hcz10_3
    try clear hcz10_4
    try clear hcz10_5
    try clear hcz10_6
    try clear hcz10_7
    try clear hcz10_8
    try clear hcz5_0
    try clear hcz5_1
    try clear hcz5_2
    try clear hcz5_3
    try clear hcz5_4
    try clear hcz5_5
    try clear hcz5_6
    try clear hcz5_7
    try clear hcz5_8
    try clear hcz8_0
    try clear hcz8_1
    try clear hcz8_2
    try clear hcz8_3
    try clear hcz8_4
    try clear hcz8_5
    try clear hcz8_6
    try clear hcz8_7
    try clear hcz8_8
    try clear hcz9_0
    try clear hcz9_1
    try clear hcz9_2
    try clear hcz9_3
    try clear hcz9_4
    try clear hcz9_5
    try clear hcz9_6
    try clear hcz9_7
    try clear hcz9_8
    try clear hfz10_0
    try clear hfz10_1
    try clear hfz10_2
    try clear hfz10_3
    try clear hfz10_4
    try clear hfz10_5
    try clear hfz10_6
    try clear hfz10_7
    try clear hfz10_8
    try clear hfz5_0
    try clear hfz5_1
    try clear hfz5_2
    try clear hfz5_3
    try clear hfz5_4
    try clear hfz5_5
    try clear hfz5_6
    try clear hfz5_7
    try clear hfz5_8
    try clear hfz8_0
    try clear hfz8_1
    try clear hfz8_2
    try clear hfz8_3
    try clear hfz8_4
    try clear hfz8_5
    try clear hfz8_6
    try clear hfz8_7
    try clear hfz8_8
    try clear hfz9_0
    try clear hfz9_1
    try clear hfz9_2
    try clear hfz9_3
    try clear hfz9_4
    try clear hfz9_5
    try clear hfz9_6
    try clear hfz9_7
    try clear hfz9_8
    obtain ⟨kq, x3_1, rfl, HA, HJ1, BK159, HB⟩ := hcut
    cases kq with
    | zero => exact absurd HA.out (by simp [stolonref05_Right.j0])
    | succ kj1 =>
      have H := HA.out
      clear HA
      simp only [stolonref05_Right.j0] at H
      replace H := Option.bind_eq_some_iff.mp H
      obtain ⟨t160, A110, H⟩ := H
      replace H : (if a0_0 = 34 then (if x3_1 = true then (if a0_1 = 0 then (if a0_2 = 0 then (if a0_3 = 0 then (stolonref05_Right.j1 kj1 (decide ((l0_8.length : Int) > 32)) a0_0 a0_1 a0_2 a0_3 a0_4 a0_5 a0_6 l0_7 l0_8) else (stolonref05_Right.j1 kj1 true a0_0 a0_1 a0_2 a0_3 a0_4 a0_5 a0_6 l0_7 l0_8)) else (stolonref05_Right.j1 kj1 true a0_0 a0_1 a0_2 a0_3 a0_4 a0_5 a0_6 l0_7 l0_8)) else (stolonref05_Right.j1 kj1 true a0_0 a0_1 a0_2 a0_3 a0_4 a0_5 a0_6 l0_7 l0_8)) else (stolonref05_Right.j1 kj1 true a0_0 a0_1 a0_2 a0_3 a0_4 a0_5 a0_6 l0_7 l0_8)) else (if (l0_8.length : Int) > 0 then (some false) else (if a0_0 = 18 then (stolonref05_Right.j3 kj1 x3_1 t160 true a0_0 a0_1 a0_2 a0_3 a0_4 a0_5 a0_6 l0_7 l0_8) else (if a0_0 = 22 then (stolonref05_Right.j3 kj1 x3_1 t160 true a0_0 a0_1 a0_2 a0_3 a0_4 a0_5 a0_6 l0_7 l0_8) else (stolonref05_Right.j3 kj1 x3_1 t160 (a0_0 == 23) a0_0 a0_1 a0_2 a0_3 a0_4 a0_5 a0_6 l0_7 l0_8))))) = some r := H
      have A11 := Aside0.mk A110
      clear A110
      by_cases c12 : a0_0 = 34
      · rw [if_pos c12] at H
        have c12b0 : (a0_0 == 34) = true := beq_iff_eq.mpr c12
        have c12b1 : (a0_0 != 34) = false := bne_eq_false_iff_eq.mpr c12
        clear c12
        have HC13 := Aside0.mk H
        clear H
        have hcz14_0 : wc.cell? ⟨gb159, 0, none⟩ = some (.int .u8 a0_0) := (blk_cell BK159.out 0).trans rfl
        have hcz14_1 : wc.cell? ⟨gb159, 1, none⟩ = some (.int .i64 a0_1) := (blk_cell BK159.out 1).trans rfl
        have hcz14_2 : wc.cell? ⟨gb159, 2, none⟩ = some (.int .u8 a0_2) := (blk_cell BK159.out 2).trans rfl
        have hcz14_3 : wc.cell? ⟨gb159, 3, none⟩ = some (.int .u32 a0_3) := (blk_cell BK159.out 3).trans rfl
        have hcz14_4 : wc.cell? ⟨gb159, 4, none⟩ = some (.bool a0_4) := (blk_cell BK159.out 4).trans rfl
        have hcz14_5 : wc.cell? ⟨gb159, 5, none⟩ = some (.int .u8 a0_5) := (blk_cell BK159.out 5).trans rfl
        have hcz14_6 : wc.cell? ⟨gb159, 6, none⟩ = some (.int .u8 a0_6) := (blk_cell BK159.out 6).trans rfl
        have hcz14_7 : wc.cell? ⟨gb159, 7, none⟩ = some (.slice A0_7 l0_7.length c0_7) := (blk_cell BK159.out 7).trans rfl
        have hcz14_8 : wc.cell? ⟨gb159, 8, none⟩ = some (.slice A0_8 l0_8.length c0_8) := (blk_cell BK159.out 8).trans rfl
        have hfz14_0 := blk_frozen BK159.out 0
        have hfz14_1 := blk_frozen BK159.out 1
        have hfz14_2 := blk_frozen BK159.out 2
        have hfz14_3 := blk_frozen BK159.out 3
        have hfz14_4 := blk_frozen BK159.out 4
        have hfz14_5 := blk_frozen BK159.out 5
        have hfz14_6 := blk_frozen BK159.out 6
        have hfz14_7 := blk_frozen BK159.out 7
        have hfz14_8 := blk_frozen BK159.out 8
        go_upto_region 4 with (first | ((with_reducible refine gate_callee (f := 22) rfl ?_); refine goesL_ (some 29) rfl rfl Try.func22 (by kernel_rfl) rfl #[.int .u32 a0_3] rfl (by (try simp only [List.map_toArray, List.map_cons, List.map_nil]); first | done | rfl | (simp only [List.length_drop, List.length_take]; rfl)) ?_; (with_reducible refine (stolonref01_Asked.calls a0_3 t160 _ A11.out).mono ?_); rintro e w' ⟨rfl, ⟨nd, rfl⟩⟩; refine ⟨_, rfl, ?_⟩))
        (try simp only [Act.put, List.setIfInBounds_toArray, List.set_cons_zero, List.set_cons_succ])
        go_cut [55] (fun v55 wc => ∃ (kq : Nat) (x55_12 : Bool), v55 = .bool x55_12 ∧ Aside0 (stolonref05_Right.j1 kq x55_12 a0_0 a0_1 a0_2 a0_3 a0_4 a0_5 a0_6 l0_7 l0_8 = some r) ∧ Aside0 (kq ≤ kj1) ∧ Aside0 (wc.heap[gb159]? = some (.cells #[.int .u8 a0_0, .int .i64 a0_1, .int .u8 a0_2, .int .u32 a0_3, .bool a0_4, .int .u8 a0_5, .int .u8 a0_6, (.slice A0_7 l0_7.length c0_7), (.slice A0_8 l0_8.length c0_8)] 27 (0, 0))) ∧ Aside0 (Below w.heap.size w wc))
        case first =>
          have H := HC13.out
          clear HC13
          by_cases c15 : x3_1 = true
          · subst c15
            have H1 : (if a0_1 = 0 then (if a0_2 = 0 then (if a0_3 = 0 then (stolonref05_Right.j1 kj1 (decide ((l0_8.length : Int) > 32)) a0_0 a0_1 a0_2 a0_3 a0_4 a0_5 a0_6 l0_7 l0_8) else (stolonref05_Right.j1 kj1 true a0_0 a0_1 a0_2 a0_3 a0_4 a0_5 a0_6 l0_7 l0_8)) else (stolonref05_Right.j1 kj1 true a0_0 a0_1 a0_2 a0_3 a0_4 a0_5 a0_6 l0_7 l0_8)) else (stolonref05_Right.j1 kj1 true a0_0 a0_1 a0_2 a0_3 a0_4 a0_5 a0_6 l0_7 l0_8)) = some r := by rw [if_pos rfl] at H; exact H
            clear H
            have H := H1
            clear H1
            by_cases c16 : a0_1 = 0
            · rw [if_pos c16] at H
              have c16b0 : (a0_1 == 0) = true := beq_iff_eq.mpr c16
              have c16b1 : (a0_1 != 0) = false := bne_eq_false_iff_eq.mpr c16
              clear c16
              (first | rw [c16b0] | (simp only [i64_w, i32_w]; rw [c16b0]) | skip)
              by_cases c17 : a0_2 = 0
              · rw [if_pos c17] at H
                have c17b0 : (a0_2 == 0) = true := beq_iff_eq.mpr c17
                have c17b1 : (a0_2 != 0) = false := bne_eq_false_iff_eq.mpr c17
                clear c17
                by_cases c18 : a0_3 = 0
                · rw [if_pos c18] at H
                  have c18b0 : (a0_3 == 0) = true := beq_iff_eq.mpr c18
                  have c18b1 : (a0_3 != 0) = false := bne_eq_false_iff_eq.mpr c18
                  clear c18
                  have H' := Aside0.mk H
                  clear H
                  have hcz19_0 : wc.cell? ⟨gb159, 0, none⟩ = some (.int .u8 a0_0) := (blk_cell BK159.out 0).trans rfl
                  have hcz19_1 : wc.cell? ⟨gb159, 1, none⟩ = some (.int .i64 a0_1) := (blk_cell BK159.out 1).trans rfl
                  have hcz19_2 : wc.cell? ⟨gb159, 2, none⟩ = some (.int .u8 a0_2) := (blk_cell BK159.out 2).trans rfl
                  have hcz19_3 : wc.cell? ⟨gb159, 3, none⟩ = some (.int .u32 a0_3) := (blk_cell BK159.out 3).trans rfl
                  have hcz19_4 : wc.cell? ⟨gb159, 4, none⟩ = some (.bool a0_4) := (blk_cell BK159.out 4).trans rfl
                  have hcz19_5 : wc.cell? ⟨gb159, 5, none⟩ = some (.int .u8 a0_5) := (blk_cell BK159.out 5).trans rfl
                  have hcz19_6 : wc.cell? ⟨gb159, 6, none⟩ = some (.int .u8 a0_6) := (blk_cell BK159.out 6).trans rfl
                  have hcz19_7 : wc.cell? ⟨gb159, 7, none⟩ = some (.slice A0_7 l0_7.length c0_7) := (blk_cell BK159.out 7).trans rfl
                  have hcz19_8 : wc.cell? ⟨gb159, 8, none⟩ = some (.slice A0_8 l0_8.length c0_8) := (blk_cell BK159.out 8).trans rfl
                  have hfz19_0 := blk_frozen BK159.out 0
                  have hfz19_1 := blk_frozen BK159.out 1
                  have hfz19_2 := blk_frozen BK159.out 2
                  have hfz19_3 := blk_frozen BK159.out 3
                  have hfz19_4 := blk_frozen BK159.out 4
                  have hfz19_5 := blk_frozen BK159.out 5
                  have hfz19_6 := blk_frozen BK159.out 6
                  have hfz19_7 := blk_frozen BK159.out 7
                  have hfz19_8 := blk_frozen BK159.out 8
                  go_wp2
                  go_meet
                  case rel => exact ⟨_, (decide ((l0_8.length : Int) > 32)), (by first | rfl | (simp; done) | (simp [*]; done)), H', ⟨by have := HJ1.out; first | omega | exact Nat.le_refl _⟩, ⟨by (with_reducible repeat (first | refine blk_drewN ?_ _ | refine blk_drew ?_ | refine blk_alloc ?_ _)); exact BK159.out⟩, ⟨by repeat (first | (with_reducible first | exact HB.out | apply below_alloc | apply pw_below_drewN | apply below_drew1 | refine below_set ?_ GE159.out) | exact HB.out)⟩⟩
                · rw [if_neg c18] at H
                  have c18b0 : (a0_3 == 0) = false := beq_eq_false_iff_ne.mpr c18
                  have c18b1 : (a0_3 != 0) = true := bne_iff_ne.mpr c18
                  have H' := Aside0.mk H
                  clear H
                  have hcz20_0 : wc.cell? ⟨gb159, 0, none⟩ = some (.int .u8 a0_0) := (blk_cell BK159.out 0).trans rfl
                  have hcz20_1 : wc.cell? ⟨gb159, 1, none⟩ = some (.int .i64 a0_1) := (blk_cell BK159.out 1).trans rfl
                  have hcz20_2 : wc.cell? ⟨gb159, 2, none⟩ = some (.int .u8 a0_2) := (blk_cell BK159.out 2).trans rfl
                  have hcz20_3 : wc.cell? ⟨gb159, 3, none⟩ = some (.int .u32 a0_3) := (blk_cell BK159.out 3).trans rfl
                  have hcz20_4 : wc.cell? ⟨gb159, 4, none⟩ = some (.bool a0_4) := (blk_cell BK159.out 4).trans rfl
                  have hcz20_5 : wc.cell? ⟨gb159, 5, none⟩ = some (.int .u8 a0_5) := (blk_cell BK159.out 5).trans rfl
                  have hcz20_6 : wc.cell? ⟨gb159, 6, none⟩ = some (.int .u8 a0_6) := (blk_cell BK159.out 6).trans rfl
                  have hcz20_7 : wc.cell? ⟨gb159, 7, none⟩ = some (.slice A0_7 l0_7.length c0_7) := (blk_cell BK159.out 7).trans rfl
                  have hcz20_8 : wc.cell? ⟨gb159, 8, none⟩ = some (.slice A0_8 l0_8.length c0_8) := (blk_cell BK159.out 8).trans rfl
                  have hfz20_0 := blk_frozen BK159.out 0
                  have hfz20_1 := blk_frozen BK159.out 1
                  have hfz20_2 := blk_frozen BK159.out 2
                  have hfz20_3 := blk_frozen BK159.out 3
                  have hfz20_4 := blk_frozen BK159.out 4
                  have hfz20_5 := blk_frozen BK159.out 5
                  have hfz20_6 := blk_frozen BK159.out 6
                  have hfz20_7 := blk_frozen BK159.out 7
                  have hfz20_8 := blk_frozen BK159.out 8
                  go_wp2
                  go_meet
                  case rel => exact ⟨_, (true), (by first | rfl | (simp; done) | (simp [*]; done)), H', ⟨by have := HJ1.out; first | omega | exact Nat.le_refl _⟩, ⟨by (with_reducible repeat (first | refine blk_drewN ?_ _ | refine blk_drew ?_ | refine blk_alloc ?_ _)); exact BK159.out⟩, ⟨by repeat (first | (with_reducible first | exact HB.out | apply below_alloc | apply pw_below_drewN | apply below_drew1 | refine below_set ?_ GE159.out) | exact HB.out)⟩⟩
              · rw [if_neg c17] at H
                have c17b0 : (a0_2 == 0) = false := beq_eq_false_iff_ne.mpr c17
                have c17b1 : (a0_2 != 0) = true := bne_iff_ne.mpr c17
                have H' := Aside0.mk H
                clear H
                have hcz21_0 : wc.cell? ⟨gb159, 0, none⟩ = some (.int .u8 a0_0) := (blk_cell BK159.out 0).trans rfl
                have hcz21_1 : wc.cell? ⟨gb159, 1, none⟩ = some (.int .i64 a0_1) := (blk_cell BK159.out 1).trans rfl
                have hcz21_2 : wc.cell? ⟨gb159, 2, none⟩ = some (.int .u8 a0_2) := (blk_cell BK159.out 2).trans rfl
                have hcz21_3 : wc.cell? ⟨gb159, 3, none⟩ = some (.int .u32 a0_3) := (blk_cell BK159.out 3).trans rfl
                have hcz21_4 : wc.cell? ⟨gb159, 4, none⟩ = some (.bool a0_4) := (blk_cell BK159.out 4).trans rfl
                have hcz21_5 : wc.cell? ⟨gb159, 5, none⟩ = some (.int .u8 a0_5) := (blk_cell BK159.out 5).trans rfl
                have hcz21_6 : wc.cell? ⟨gb159, 6, none⟩ = some (.int .u8 a0_6) := (blk_cell BK159.out 6).trans rfl
                have hcz21_7 : wc.cell? ⟨gb159, 7, none⟩ = some (.slice A0_7 l0_7.length c0_7) := (blk_cell BK159.out 7).trans rfl
                have hcz21_8 : wc.cell? ⟨gb159, 8, none⟩ = some (.slice A0_8 l0_8.length c0_8) := (blk_cell BK159.out 8).trans rfl
                have hfz21_0 := blk_frozen BK159.out 0
                have hfz21_1 := blk_frozen BK159.out 1
                have hfz21_2 := blk_frozen BK159.out 2
                have hfz21_3 := blk_frozen BK159.out 3
                have hfz21_4 := blk_frozen BK159.out 4
                have hfz21_5 := blk_frozen BK159.out 5
                have hfz21_6 := blk_frozen BK159.out 6
                have hfz21_7 := blk_frozen BK159.out 7
                have hfz21_8 := blk_frozen BK159.out 8
                go_wp2
                go_meet
                case rel => exact ⟨_, (true), (by first | rfl | (simp; done) | (simp [*]; done)), H', ⟨by have := HJ1.out; first | omega | exact Nat.le_refl _⟩, ⟨by (with_reducible repeat (first | refine blk_drewN ?_ _ | refine blk_drew ?_ | refine blk_alloc ?_ _)); exact BK159.out⟩, ⟨by repeat (first | (with_reducible first | exact HB.out | apply below_alloc | apply pw_below_drewN | apply below_drew1 | refine below_set ?_ GE159.out) | exact HB.out)⟩⟩
            · rw [if_neg c16] at H
              have c16b0 : (a0_1 == 0) = false := beq_eq_false_iff_ne.mpr c16
              have c16b1 : (a0_1 != 0) = true := bne_iff_ne.mpr c16
              (first | rw [c16b0] | (simp only [i64_w, i32_w]; rw [c16b0]) | skip)
              have H' := Aside0.mk H
              clear H
              have hcz22_0 : wc.cell? ⟨gb159, 0, none⟩ = some (.int .u8 a0_0) := (blk_cell BK159.out 0).trans rfl
              have hcz22_1 : wc.cell? ⟨gb159, 1, none⟩ = some (.int .i64 a0_1) := (blk_cell BK159.out 1).trans rfl
              have hcz22_2 : wc.cell? ⟨gb159, 2, none⟩ = some (.int .u8 a0_2) := (blk_cell BK159.out 2).trans rfl
              have hcz22_3 : wc.cell? ⟨gb159, 3, none⟩ = some (.int .u32 a0_3) := (blk_cell BK159.out 3).trans rfl
              have hcz22_4 : wc.cell? ⟨gb159, 4, none⟩ = some (.bool a0_4) := (blk_cell BK159.out 4).trans rfl
              have hcz22_5 : wc.cell? ⟨gb159, 5, none⟩ = some (.int .u8 a0_5) := (blk_cell BK159.out 5).trans rfl
              have hcz22_6 : wc.cell? ⟨gb159, 6, none⟩ = some (.int .u8 a0_6) := (blk_cell BK159.out 6).trans rfl
              have hcz22_7 : wc.cell? ⟨gb159, 7, none⟩ = some (.slice A0_7 l0_7.length c0_7) := (blk_cell BK159.out 7).trans rfl
              have hcz22_8 : wc.cell? ⟨gb159, 8, none⟩ = some (.slice A0_8 l0_8.length c0_8) := (blk_cell BK159.out 8).trans rfl
              have hfz22_0 := blk_frozen BK159.out 0
              have hfz22_1 := blk_frozen BK159.out 1
              have hfz22_2 := blk_frozen BK159.out 2
              have hfz22_3 := blk_frozen BK159.out 3
              have hfz22_4 := blk_frozen BK159.out 4
              have hfz22_5 := blk_frozen BK159.out 5
              have hfz22_6 := blk_frozen BK159.out 6
              have hfz22_7 := blk_frozen BK159.out 7
              have hfz22_8 := blk_frozen BK159.out 8
              go_wp2
              go_meet
              case rel => exact ⟨_, (true), (by first | rfl | (simp; done) | (simp [*]; done)), H', ⟨by have := HJ1.out; first | omega | exact Nat.le_refl _⟩, ⟨by (with_reducible repeat (first | refine blk_drewN ?_ _ | refine blk_drew ?_ | refine blk_alloc ?_ _)); exact BK159.out⟩, ⟨by repeat (first | (with_reducible first | exact HB.out | apply below_alloc | apply pw_below_drewN | apply below_drew1 | refine below_set ?_ GE159.out) | exact HB.out)⟩⟩
          · replace c15 := Bool.eq_false_iff.mpr c15
            subst c15
            have H1 : (stolonref05_Right.j1 kj1 true a0_0 a0_1 a0_2 a0_3 a0_4 a0_5 a0_6 l0_7 l0_8) = some r := by rw [if_neg (show ¬ (false = true) by decide)] at H; exact H
            clear H
            have H := H1
            clear H1
            have H' := Aside0.mk H
            clear H
            go_wp2
            go_meet
            case rel => exact ⟨_, (true), (by first | rfl | (simp; done) | (simp [*]; done)), H', ⟨by have := HJ1.out; first | omega | exact Nat.le_refl _⟩, ⟨by (with_reducible repeat (first | refine blk_drewN ?_ _ | refine blk_drew ?_ | refine blk_alloc ?_ _)); exact BK159.out⟩, ⟨by repeat (first | (with_reducible first | exact HB.out | apply below_alloc | apply pw_below_drewN | apply below_drew1 | refine below_set ?_ GE159.out) | exact HB.out)⟩⟩
        case rest =>
          clear HC13
          try clear c1
          try clear c2
          try clear p2
          try clear c4
          try clear c6
          try clear c6b0
          try clear c6b1
          try clear c7
          try clear c7b0
          try clear c7b1
          try clear c12
          try clear c12b0
          try clear c12b1
          try clear c15
          try clear c16
          try clear c16b0
          try clear c16b1
          try clear c17
          try clear c17b0
          try clear c17b1
          try clear c18
          try clear c18b0
          try clear c18b1
          try clear c22
          try clear hcz10_0
          try clear hcz10_1
          try clear hcz10_2
          try clear hcz10_3
          try clear hcz10_4
          try clear hcz10_5
          try clear hcz10_6
          try clear hcz10_7
          try clear hcz10_8
          try clear hcz14_0
          try clear hcz14_1
          try clear hcz14_2
          try clear hcz14_3
          try clear hcz14_4
          try clear hcz14_5
          try clear hcz14_6
          try clear hcz14_7
          try clear hcz14_8
          try clear hcz19_0
          try clear hcz19_1
          try clear hcz19_2
          try clear hcz19_3
          try clear hcz19_4
          try clear hcz19_5
          try clear hcz19_6
          try clear hcz19_7
          try clear hcz19_8
          try clear hcz20_0
          try clear hcz20_1
          try clear hcz20_2
          try clear hcz20_3
          try clear hcz20_4
          try clear hcz20_5
          try clear hcz20_6
          try clear hcz20_7
          try clear hcz20_8
          try clear hcz21_0
          try clear hcz21_1
          try clear hcz21_2
          try clear hcz21_3
          try clear hcz21_4
          try clear hcz21_5
          try clear hcz21_6
          try clear hcz21_7
          try clear hcz21_8
          try clear hcz22_0
          try clear hcz22_1
          try clear hcz22_2
          try clear hcz22_3
          try clear hcz22_4
          try clear hcz22_5
          try clear hcz22_6
          try clear hcz22_7
          try clear hcz22_8
          try clear hcz5_0
          try clear hcz5_1
          try clear hcz5_2
          try clear hcz5_3
          try clear hcz5_4
          try clear hcz5_5
          try clear hcz5_6
          try clear hcz5_7
          try clear hcz5_8
          try clear hcz8_0
          try clear hcz8_1
          try clear hcz8_2
          try clear hcz8_3
          try clear hcz8_4
          try clear hcz8_5
          try clear hcz8_6
          try clear hcz8_7
          try clear hcz8_8
          try clear hcz9_0
          try clear hcz9_1
          try clear hcz9_2
          try clear hcz9_3
          try clear hcz9_4
          try clear hcz9_5
          try clear hcz9_6
          try clear hcz9_7
          try clear hcz9_8
          try clear hfz10_0
          try clear hfz10_1
          try clear hfz10_2
          try clear hfz10_3
          try clear hfz10_4
          try clear hfz10_5
          try clear hfz10_6
          try clear hfz10_7
          try clear hfz10_8
          try clear hfz14_0
          try clear hfz14_1
          try clear hfz14_2
          try clear hfz14_3
          try clear hfz14_4
          try clear hfz14_5
          try clear hfz14_6
          try clear hfz14_7
          try clear hfz14_8
          try clear hfz19_0
          try clear hfz19_1
          try clear hfz19_2
          try clear hfz19_3
          try clear hfz19_4
          try clear hfz19_5
          try clear hfz19_6
          try clear hfz19_7
          try clear hfz19_8
          try clear hfz20_0
          try clear hfz20_1
          try clear hfz20_2
          try clear hfz20_3
          try clear hfz20_4
          try clear hfz20_5
          try clear hfz20_6
          try clear hfz20_7
          try clear hfz20_8
          try clear hfz21_0
          try clear hfz21_1
          try clear hfz21_2
          try clear hfz21_3
          try clear hfz21_4
          try clear hfz21_5
          try clear hfz21_6
          try clear hfz21_7
          try clear hfz21_8
          try clear hfz22_0
          try clear hfz22_1
          try clear hfz22_2
          try clear hfz22_3
          try clear hfz22_4
          try clear hfz22_5
          try clear hfz22_6
          try clear hfz22_7
          try clear hfz22_8
          try clear hfz5_0
          try clear hfz5_1
          try clear hfz5_2
          try clear hfz5_3
          try clear hfz5_4
          try clear hfz5_5
          try clear hfz5_6
          try clear hfz5_7
          try clear hfz5_8
          try clear hfz8_0
          try clear hfz8_1
          try clear hfz8_2
          try clear hfz8_3
          try clear hfz8_4
          try clear hfz8_5
          try clear hfz8_6
          try clear hfz8_7
          try clear hfz8_8
          try clear hfz9_0
          try clear hfz9_1
          try clear hfz9_2
          try clear hfz9_3
          try clear hfz9_4
          try clear hfz9_5
          try clear hfz9_6
          try clear hfz9_7
          try clear hfz9_8
          try clear p2
          obtain ⟨kq, x55_12, rfl, HA, HJ12, BK159, HB⟩ := hcut
          cases kq with
          | zero => exact absurd HA.out (by simp [stolonref05_Right.j1])
          | succ kj12 =>
            have H := HA.out
            clear HA
            simp only [stolonref05_Right.j1] at H
            by_cases c23 : x55_12 = true
            · subst c23
              have H1 : (some false) = some r := by rw [if_pos rfl] at H; exact H
              clear H
              have H := H1
              clear H1
              obtain rfl := Option.some.inj H
              go_wp2
              go_ret
              exact ⟨by first | rfl | (simp [errW_none, errW_some] <;> rfl) | (simp [*, errW_none, errW_some] <;> rfl), by repeat (first | (with_reducible first | exact HB.out | apply below_alloc | apply pw_below_drewN | apply below_drew1 | refine below_set ?_ GE159.out) | exact HB.out)⟩
            · replace c23 := Bool.eq_false_iff.mpr c23
              subst c23
              have H1 : (stolonref05_Right.l0 kj12 0 a0_0 a0_1 a0_2 a0_3 a0_4 a0_5 a0_6 l0_7 l0_8) = some r := by rw [if_neg (show ¬ (false = true) by decide)] at H; exact H
              clear H
              have H := H1
              clear H1
              have H' := Aside0.mk H
              clear H
              go_wp2
              go_loopg [5] kj12 (fun kq v5 w' => ∃ (x5_3 : Int), v5 = .int .i64 x5_3 ∧ Aside0 (stolonref05_Right.l0 kq x5_3 a0_0 a0_1 a0_2 a0_3 a0_4 a0_5 a0_6 l0_7 l0_8 = some r) ∧ Aside0 (kq ≤ kj12) ∧ Aside0 (w'.heap[gb159]? = some (.cells #[.int .u8 a0_0, .int .i64 a0_1, .int .u8 a0_2, .int .u32 a0_3, .bool a0_4, .int .u8 a0_5, .int .u8 a0_6, (.slice A0_7 l0_7.length c0_7), (.slice A0_8 l0_8.length c0_8)] 27 (0, 0))) ∧ Aside0 (Below w.heap.size w w'))
              case atStart => exact ⟨(0), (by first | rfl | (simp; done) | (simp [*]; done)), H', ⟨Nat.le_refl _⟩, ⟨by (with_reducible repeat (first | refine blk_drewN ?_ _ | refine blk_drew ?_ | refine blk_alloc ?_ _)); exact BK159.out⟩, ⟨by repeat (first | (with_reducible first | exact HB.out | apply below_alloc | apply pw_below_drewN | apply below_drew1 | refine below_set ?_ GE159.out) | exact HB.out)⟩⟩
              case round =>
                clear H'
                try clear c1
                try clear c2
                try clear p2
                try clear c4
                try clear c6
                try clear c6b0
                try clear c6b1
                try clear c7
                try clear c7b0
                try clear c7b1
                try clear c12
                try clear c12b0
                try clear c12b1
                try clear c15
                try clear c16
                try clear c16b0
                try clear c16b1
                try clear c17
                try clear c17b0
                try clear c17b1
                try clear c18
                try clear c18b0
                try clear c18b1
                try clear c22
                try clear c23
                try clear hcz10_0
                try clear hcz10_1
                try clear hcz10_2
                try clear hcz10_3
                try clear hcz10_4
                try clear hcz10_5
                try clear hcz10_6
                try clear hcz10_7
                try clear hcz10_8
                try clear hcz14_0
                try clear hcz14_1
                try clear hcz14_2
                try clear hcz14_3
                try clear hcz14_4
                try clear hcz14_5
                try clear hcz14_6
                try clear hcz14_7
                try clear hcz14_8
                try clear hcz19_0
                try clear hcz19_1
                try clear hcz19_2
                try clear hcz19_3
                try clear hcz19_4
                try clear hcz19_5
                try clear hcz19_6
                try clear hcz19_7
                try clear hcz19_8
                try clear hcz20_0
                try clear hcz20_1
                try clear hcz20_2
                try clear hcz20_3
                try clear hcz20_4
                try clear hcz20_5
                try clear hcz20_6
                try clear hcz20_7
                try clear hcz20_8
                try clear hcz21_0
                try clear hcz21_1
                try clear hcz21_2
                try clear hcz21_3
                try clear hcz21_4
                try clear hcz21_5
                try clear hcz21_6
                try clear hcz21_7
                try clear hcz21_8
                try clear hcz22_0
                try clear hcz22_1
                try clear hcz22_2
                try clear hcz22_3
                try clear hcz22_4
                try clear hcz22_5
                try clear hcz22_6
                try clear hcz22_7
                try clear hcz22_8
                try clear hcz5_0
                try clear hcz5_1
                try clear hcz5_2
                try clear hcz5_3
                try clear hcz5_4
                try clear hcz5_5
                try clear hcz5_6
                try clear hcz5_7
                try clear hcz5_8
                try clear hcz8_0
                try clear hcz8_1
                try clear hcz8_2
                try clear hcz8_3
                try clear hcz8_4
                try clear hcz8_5
                try clear hcz8_6
                try clear hcz8_7
                try clear hcz8_8
                try clear hcz9_0
                try clear hcz9_1
                try clear hcz9_2
                try clear hcz9_3
                try clear hcz9_4
                try clear hcz9_5
                try clear hcz9_6
                try clear hcz9_7
                try clear hcz9_8
                try clear hfz10_0
                try clear hfz10_1
                try clear hfz10_2
                try clear hfz10_3
                try clear hfz10_4
                try clear hfz10_5
                try clear hfz10_6
                try clear hfz10_7
                try clear hfz10_8
                try clear hfz14_0
                try clear hfz14_1
                try clear hfz14_2
                try clear hfz14_3
                try clear hfz14_4
                try clear hfz14_5
                try clear hfz14_6
                try clear hfz14_7
                try clear hfz14_8
                try clear hfz19_0
                try clear hfz19_1
                try clear hfz19_2
                try clear hfz19_3
                try clear hfz19_4
                try clear hfz19_5
                try clear hfz19_6
                try clear hfz19_7
                try clear hfz19_8
                try clear hfz20_0
                try clear hfz20_1
                try clear hfz20_2
                try clear hfz20_3
                try clear hfz20_4
                try clear hfz20_5
                try clear hfz20_6
                try clear hfz20_7
                try clear hfz20_8
                try clear hfz21_0
                try clear hfz21_1
                try clear hfz21_2
                try clear hfz21_3
                try clear hfz21_4
                try clear hfz21_5
                try clear hfz21_6
                try clear hfz21_7
                try clear hfz21_8
                try clear hfz22_0
                try clear hfz22_1
                try clear hfz22_2
                try clear hfz22_3
                try clear hfz22_4
                try clear hfz22_5
                try clear hfz22_6
                try clear hfz22_7
                try clear hfz22_8
                try clear hfz5_0
                try clear hfz5_1
                try clear hfz5_2
                try clear hfz5_3
                try clear hfz5_4
                try clear hfz5_5
                try clear hfz5_6
                try clear hfz5_7
                try clear hfz5_8
                try clear hfz8_0
                try clear hfz8_1
                try clear hfz8_2
                try clear hfz8_3
                try clear hfz8_4
                try clear hfz8_5
                try clear hfz8_6
                try clear hfz8_7
                try clear hfz8_8
                try clear hfz9_0
                try clear hfz9_1
                try clear hfz9_2
                try clear hfz9_3
                try clear hfz9_4
                try clear hfz9_5
                try clear hfz9_6
                try clear hfz9_7
                try clear hfz9_8
                try clear p2
                obtain ⟨x5_3, rfl, HA, HK3, BK159, HB⟩ := hrel
                cases gk with
                | zero => exact absurd HA.out (by simp [stolonref05_Right.l0])
                | succ k3 =>
                  have H := HA.out
                  clear HA
                  simp only [stolonref05_Right.l0] at H
                  by_cases c24 : x5_3 < (l0_8.length : Int)
                  · rw [if_pos c24] at H
                    have c24b0 : decide (x5_3 < (l0_8.length : Int)) = true := decide_eq_true c24
                    clear c24
                    by_cases c25 : 0 ≤ x5_3
                    · rw [if_pos c25] at H
                      have c25b0 : decide (0 ≤ x5_3) = true := decide_eq_true c25
                      clear c25
                      replace H := Option.bind_eq_some_iff.mp H
                      obtain ⟨t163, A260, H⟩ := H
                      replace H : (if ((rd_T44 l0_8 x5_3).f0) < 1 then (some false) else (if ((rd_T44 l0_8 x5_3).f0) > 6 then (some false) else (if t163 = true then (if (((rd_T44 l0_8 x5_3).f2).length : Int) > 64 then (some false) else (stolonref05_Right.l0 k3 (wrap64 (x5_3 + 1)) a0_0 a0_1 a0_2 a0_3 a0_4 a0_5 a0_6 l0_7 l0_8)) else (some false)))) = some r := H
                      have A26 := Aside0.mk A260
                      clear A260
                      by_cases c27 : ((rd_T44 l0_8 x5_3).f0) < 1
                      · rw [if_pos c27] at H
                        have c27b0 : decide (((rd_T44 l0_8 x5_3).f0) < 1) = true := decide_eq_true c27
                        clear c27
                        obtain rfl := Option.some.inj H
                        have hcz28_0 : wr.cell? ⟨gb159, 0, none⟩ = some (.int .u8 a0_0) := (blk_cell BK159.out 0).trans rfl
                        have hcz28_1 : wr.cell? ⟨gb159, 1, none⟩ = some (.int .i64 a0_1) := (blk_cell BK159.out 1).trans rfl
                        have hcz28_2 : wr.cell? ⟨gb159, 2, none⟩ = some (.int .u8 a0_2) := (blk_cell BK159.out 2).trans rfl
                        have hcz28_3 : wr.cell? ⟨gb159, 3, none⟩ = some (.int .u32 a0_3) := (blk_cell BK159.out 3).trans rfl
                        have hcz28_4 : wr.cell? ⟨gb159, 4, none⟩ = some (.bool a0_4) := (blk_cell BK159.out 4).trans rfl
                        have hcz28_5 : wr.cell? ⟨gb159, 5, none⟩ = some (.int .u8 a0_5) := (blk_cell BK159.out 5).trans rfl
                        have hcz28_6 : wr.cell? ⟨gb159, 6, none⟩ = some (.int .u8 a0_6) := (blk_cell BK159.out 6).trans rfl
                        have hcz28_7 : wr.cell? ⟨gb159, 7, none⟩ = some (.slice A0_7 l0_7.length c0_7) := (blk_cell BK159.out 7).trans rfl
                        have hcz28_8 : wr.cell? ⟨gb159, 8, none⟩ = some (.slice A0_8 l0_8.length c0_8) := (blk_cell BK159.out 8).trans rfl
                        have hfz28_0 := blk_frozen BK159.out 0
                        have hfz28_1 := blk_frozen BK159.out 1
                        have hfz28_2 := blk_frozen BK159.out 2
                        have hfz28_3 := blk_frozen BK159.out 3
                        have hfz28_4 := blk_frozen BK159.out 4
                        have hfz28_5 := blk_frozen BK159.out 5
                        have hfz28_6 := blk_frozen BK159.out 6
                        have hfz28_7 := blk_frozen BK159.out 7
                        have hfz28_8 := blk_frozen BK159.out 8
                        have p161 : 0 ≤ (x5_3 : Int) := of_decide_eq_true (by first | (with_reducible assumption) | assumption)
                        have q161 : x5_3 < (l0_8.length : Int) := of_decide_eq_true (by first | (with_reducible assumption) | assumption)
                        obtain ⟨ad161, A161_2, c161_2, e161, hx161_0, hx161_1, hx161_2, hl161_2, hi161_2⟩ := at_T44 HR0_8.out x5_3 p161 q161
                        cases e161
                        replace hx161_0 := (HB.out.cell (World.block_lt_of_cell? w _ hx161_0)).trans hx161_0
                        replace hx161_1 := (HB.out.cell (World.block_lt_of_cell? w _ hx161_1)).trans hx161_1
                        replace hx161_2 := (HB.out.cell (World.block_lt_of_cell? w _ hx161_2)).trans hx161_2
                        have HR161_2 := Aside0.mk hi161_2
                        have HC161_2 := Aside0.mk hl161_2
                        clear hi161_2 hl161_2
                        replace p161 := eq_true p161
                        replace q161 := eq_true q161
                        go_wp2_with (first | ((with_reducible refine gate_dst (N := 6) rfl ?_); (try (refine gate_guard (by rfl) ?_; dsimp only)); refine box_event ?hg (N := 6) ?hd (cs := #[.int .u8 0, .int .u32 0, .slice none 0 0]) (t := 44) ?hr ?_; (case hd => rfl); (case hg => rfl); (case hr => first | (go_simp; done) | (go_simp; rfl)); intro gb162 hg w29 hbox hb; have n0_ := Aside0.mk (blk_below (g := gb159) (o := .cells #[.int .u8 a0_0, .int .i64 a0_1, .int .u8 a0_2, .int .u32 a0_3, .bool a0_4, .int .u8 a0_5, .int .u8 a0_6, .slice A0_7 l0_7.length c0_7, .slice (some ad161) l0_8.length c0_8] 27 (0, 0)) (by (with_reducible repeat (first | refine blk_drewN ?_ _ | refine blk_drew ?_ | refine blk_alloc ?_ _)); exact BK159.out) hb); have n1_ := Aside0.mk (below_step (by repeat (first | (with_reducible first | exact HB.out | apply below_alloc | apply pw_below_drewN | apply below_drew1 | refine below_set ?_ GE159.out) | exact HB.out)) hb); have n2_ := Aside0.mk (hbox); have n3_ := Aside0.mk ((by rw [hg]; exact (below_size (by repeat (first | (with_reducible first | exact HB.out | apply below_alloc | apply pw_below_drewN | apply below_drew1 | refine below_set ?_ GE159.out) | exact HB.out))) : w.heap.size ≤ gb162)); have n4_ := Aside0.mk ((by rw [hg]; exact (below_size (by repeat (first | (with_reducible first | exact HB.out | apply below_alloc | apply pw_below_drewN | apply below_drew1 | refine below_set ?_ GE159.out) | exact HB.out))) : w.heap.size ≤ gb162)); have n5_ := Aside0.mk ((by rw [hg]; exact Nat.ne_of_lt (blk_lt (g := gb159) (o := .cells #[.int .u8 a0_0, .int .i64 a0_1, .int .u8 a0_2, .int .u32 a0_3, .bool a0_4, .int .u8 a0_5, .int .u8 a0_6, .slice A0_7 l0_7.length c0_7, .slice (some ad161) l0_8.length c0_8] 27 (0, 0)) (by (with_reducible repeat (first | refine blk_drewN ?_ _ | refine blk_drew ?_ | refine blk_alloc ?_ _)); exact BK159.out)) : gb159 ≠ gb162)); have n6_ := Aside0.mk ((by rw [hg]; exact Nat.ne_of_gt (blk_lt (g := gb159) (o := .cells #[.int .u8 a0_0, .int .i64 a0_1, .int .u8 a0_2, .int .u32 a0_3, .bool a0_4, .int .u8 a0_5, .int .u8 a0_6, .slice A0_7 l0_7.length c0_7, .slice (some ad161) l0_8.length c0_8] 27 (0, 0)) (by (with_reducible repeat (first | refine blk_drewN ?_ _ | refine blk_drew ?_ | refine blk_alloc ?_ _)); exact BK159.out)) : gb162 ≠ gb159)); clear BK159; clear HB; have BK159 := n0_; have HB := n1_; have BK162 := n2_; have GW162 := n3_; have GE162 := n4_; have NB159_162 := n5_; have NB162_159 := n6_; clear n0_ n1_ n2_ n3_ n4_ n5_ n6_; clear hb hbox hg; have hnb30 := NB162_159.out; have hnc30 := NB159_162.out; have hcz31_0 : w29.cell? ⟨gb162, 0, none⟩ = some (.int .u8 0) := (blk_cell BK162.out 0).trans rfl; have hcz31_1 : w29.cell? ⟨gb162, 1, none⟩ = some (.int .u32 0) := (blk_cell BK162.out 1).trans rfl; have hcz31_2 : w29.cell? ⟨gb162, 2, none⟩ = some (.slice none 0 0) := (blk_cell BK162.out 2).trans rfl; have hfz31_0 := blk_frozen BK162.out 0; have hfz31_1 := blk_frozen BK162.out 1; have hfz31_2 := blk_frozen BK162.out 2) | ((with_reducible refine gate_callee (f := 22) rfl ?_); refine goesL_ (some 70) rfl rfl Try.func22 (by kernel_rfl) rfl #[.int .u32 ((rd_T44 l0_8 x5_3).f1)] rfl (by (try simp only [List.map_toArray, List.map_cons, List.map_nil]); first | done | rfl | (simp only [List.length_drop, List.length_take]; rfl)) ?_; (with_reducible refine (stolonref01_Asked.calls ((rd_T44 l0_8 x5_3).f1) t163 _ A26.out).mono ?_); rintro e w' ⟨rfl, ⟨nd, rfl⟩⟩; refine ⟨_, rfl, ?_⟩))
                        go_ret
                        exact ⟨by first | rfl | (simp [errW_none, errW_some] <;> rfl) | (simp [*, errW_none, errW_some] <;> rfl), by repeat (first | (with_reducible first | exact HB.out | apply below_alloc | apply pw_below_drewN | apply below_drew1 | refine below_set ?_ GE159.out | refine below_set ?_ GE162.out) | exact HB.out)⟩
                      · rw [if_neg c27] at H
                        have c27b0 : decide (((rd_T44 l0_8 x5_3).f0) < 1) = false := decide_eq_false c27
                        clear c27
                        by_cases c32 : ((rd_T44 l0_8 x5_3).f0) > 6
                        · rw [if_pos c32] at H
                          have c32b0 : decide (6 < ((rd_T44 l0_8 x5_3).f0)) = true := decide_eq_true c32
                          clear c32
                          obtain rfl := Option.some.inj H
                          have hcz33_0 : wr.cell? ⟨gb159, 0, none⟩ = some (.int .u8 a0_0) := (blk_cell BK159.out 0).trans rfl
                          have hcz33_1 : wr.cell? ⟨gb159, 1, none⟩ = some (.int .i64 a0_1) := (blk_cell BK159.out 1).trans rfl
                          have hcz33_2 : wr.cell? ⟨gb159, 2, none⟩ = some (.int .u8 a0_2) := (blk_cell BK159.out 2).trans rfl
                          have hcz33_3 : wr.cell? ⟨gb159, 3, none⟩ = some (.int .u32 a0_3) := (blk_cell BK159.out 3).trans rfl
                          have hcz33_4 : wr.cell? ⟨gb159, 4, none⟩ = some (.bool a0_4) := (blk_cell BK159.out 4).trans rfl
                          have hcz33_5 : wr.cell? ⟨gb159, 5, none⟩ = some (.int .u8 a0_5) := (blk_cell BK159.out 5).trans rfl
                          have hcz33_6 : wr.cell? ⟨gb159, 6, none⟩ = some (.int .u8 a0_6) := (blk_cell BK159.out 6).trans rfl
                          have hcz33_7 : wr.cell? ⟨gb159, 7, none⟩ = some (.slice A0_7 l0_7.length c0_7) := (blk_cell BK159.out 7).trans rfl
                          have hcz33_8 : wr.cell? ⟨gb159, 8, none⟩ = some (.slice A0_8 l0_8.length c0_8) := (blk_cell BK159.out 8).trans rfl
                          have hfz33_0 := blk_frozen BK159.out 0
                          have hfz33_1 := blk_frozen BK159.out 1
                          have hfz33_2 := blk_frozen BK159.out 2
                          have hfz33_3 := blk_frozen BK159.out 3
                          have hfz33_4 := blk_frozen BK159.out 4
                          have hfz33_5 := blk_frozen BK159.out 5
                          have hfz33_6 := blk_frozen BK159.out 6
                          have hfz33_7 := blk_frozen BK159.out 7
                          have hfz33_8 := blk_frozen BK159.out 8
                          have p161 : 0 ≤ (x5_3 : Int) := of_decide_eq_true (by first | (with_reducible assumption) | assumption)
                          have q161 : x5_3 < (l0_8.length : Int) := of_decide_eq_true (by first | (with_reducible assumption) | assumption)
                          obtain ⟨ad161, A161_2, c161_2, e161, hx161_0, hx161_1, hx161_2, hl161_2, hi161_2⟩ := at_T44 HR0_8.out x5_3 p161 q161
                          cases e161
                          replace hx161_0 := (HB.out.cell (World.block_lt_of_cell? w _ hx161_0)).trans hx161_0
                          replace hx161_1 := (HB.out.cell (World.block_lt_of_cell? w _ hx161_1)).trans hx161_1
                          replace hx161_2 := (HB.out.cell (World.block_lt_of_cell? w _ hx161_2)).trans hx161_2
                          have HR161_2 := Aside0.mk hi161_2
                          have HC161_2 := Aside0.mk hl161_2
                          clear hi161_2 hl161_2
                          replace p161 := eq_true p161
                          replace q161 := eq_true q161
                          go_wp2_with (first | ((with_reducible refine gate_dst (N := 6) rfl ?_); (try (refine gate_guard (by rfl) ?_; dsimp only)); refine box_event ?hg (N := 6) ?hd (cs := #[.int .u8 0, .int .u32 0, .slice none 0 0]) (t := 44) ?hr ?_; (case hd => rfl); (case hg => rfl); (case hr => first | (go_simp; done) | (go_simp; rfl)); intro gb162 hg w34 hbox hb; have n0_ := Aside0.mk (blk_below (g := gb159) (o := .cells #[.int .u8 a0_0, .int .i64 a0_1, .int .u8 a0_2, .int .u32 a0_3, .bool a0_4, .int .u8 a0_5, .int .u8 a0_6, .slice A0_7 l0_7.length c0_7, .slice (some ad161) l0_8.length c0_8] 27 (0, 0)) (by (with_reducible repeat (first | refine blk_drewN ?_ _ | refine blk_drew ?_ | refine blk_alloc ?_ _)); exact BK159.out) hb); have n1_ := Aside0.mk (below_step (by repeat (first | (with_reducible first | exact HB.out | apply below_alloc | apply pw_below_drewN | apply below_drew1 | refine below_set ?_ GE159.out) | exact HB.out)) hb); have n2_ := Aside0.mk (hbox); have n3_ := Aside0.mk ((by rw [hg]; exact (below_size (by repeat (first | (with_reducible first | exact HB.out | apply below_alloc | apply pw_below_drewN | apply below_drew1 | refine below_set ?_ GE159.out) | exact HB.out))) : w.heap.size ≤ gb162)); have n4_ := Aside0.mk ((by rw [hg]; exact (below_size (by repeat (first | (with_reducible first | exact HB.out | apply below_alloc | apply pw_below_drewN | apply below_drew1 | refine below_set ?_ GE159.out) | exact HB.out))) : w.heap.size ≤ gb162)); have n5_ := Aside0.mk ((by rw [hg]; exact Nat.ne_of_lt (blk_lt (g := gb159) (o := .cells #[.int .u8 a0_0, .int .i64 a0_1, .int .u8 a0_2, .int .u32 a0_3, .bool a0_4, .int .u8 a0_5, .int .u8 a0_6, .slice A0_7 l0_7.length c0_7, .slice (some ad161) l0_8.length c0_8] 27 (0, 0)) (by (with_reducible repeat (first | refine blk_drewN ?_ _ | refine blk_drew ?_ | refine blk_alloc ?_ _)); exact BK159.out)) : gb159 ≠ gb162)); have n6_ := Aside0.mk ((by rw [hg]; exact Nat.ne_of_gt (blk_lt (g := gb159) (o := .cells #[.int .u8 a0_0, .int .i64 a0_1, .int .u8 a0_2, .int .u32 a0_3, .bool a0_4, .int .u8 a0_5, .int .u8 a0_6, .slice A0_7 l0_7.length c0_7, .slice (some ad161) l0_8.length c0_8] 27 (0, 0)) (by (with_reducible repeat (first | refine blk_drewN ?_ _ | refine blk_drew ?_ | refine blk_alloc ?_ _)); exact BK159.out)) : gb162 ≠ gb159)); clear BK159; clear HB; have BK159 := n0_; have HB := n1_; have BK162 := n2_; have GW162 := n3_; have GE162 := n4_; have NB159_162 := n5_; have NB162_159 := n6_; clear n0_ n1_ n2_ n3_ n4_ n5_ n6_; clear hb hbox hg; have hnb35 := NB162_159.out; have hnc35 := NB159_162.out; have hcz36_0 : w34.cell? ⟨gb162, 0, none⟩ = some (.int .u8 0) := (blk_cell BK162.out 0).trans rfl; have hcz36_1 : w34.cell? ⟨gb162, 1, none⟩ = some (.int .u32 0) := (blk_cell BK162.out 1).trans rfl; have hcz36_2 : w34.cell? ⟨gb162, 2, none⟩ = some (.slice none 0 0) := (blk_cell BK162.out 2).trans rfl; have hfz36_0 := blk_frozen BK162.out 0; have hfz36_1 := blk_frozen BK162.out 1; have hfz36_2 := blk_frozen BK162.out 2) | ((with_reducible refine gate_callee (f := 22) rfl ?_); refine goesL_ (some 70) rfl rfl Try.func22 (by kernel_rfl) rfl #[.int .u32 ((rd_T44 l0_8 x5_3).f1)] rfl (by (try simp only [List.map_toArray, List.map_cons, List.map_nil]); first | done | rfl | (simp only [List.length_drop, List.length_take]; rfl)) ?_; (with_reducible refine (stolonref01_Asked.calls ((rd_T44 l0_8 x5_3).f1) t163 _ A26.out).mono ?_); rintro e w' ⟨rfl, ⟨nd, rfl⟩⟩; refine ⟨_, rfl, ?_⟩))
                          go_ret
                          exact ⟨by first | rfl | (simp [errW_none, errW_some] <;> rfl) | (simp [*, errW_none, errW_some] <;> rfl), by repeat (first | (with_reducible first | exact HB.out | apply below_alloc | apply pw_below_drewN | apply below_drew1 | refine below_set ?_ GE159.out | refine below_set ?_ GE162.out) | exact HB.out)⟩
                        · rw [if_neg c32] at H
                          have c32b0 : decide (6 < ((rd_T44 l0_8 x5_3).f0)) = false := decide_eq_false c32
                          clear c32
                          by_cases c37 : t163 = true
                          · subst c37
                            have H1 : (if (((rd_T44 l0_8 x5_3).f2).length : Int) > 64 then (some false) else (stolonref05_Right.l0 k3 (wrap64 (x5_3 + 1)) a0_0 a0_1 a0_2 a0_3 a0_4 a0_5 a0_6 l0_7 l0_8)) = some r := by rw [if_pos rfl] at H; exact H
                            clear H
                            have H := H1
                            clear H1
                            by_cases c38 : (((rd_T44 l0_8 x5_3).f2).length : Int) > 64
                            · rw [if_pos c38] at H
                              have c38b0 : decide (64 < (((rd_T44 l0_8 x5_3).f2).length : Int)) = true := decide_eq_true c38
                              have c38b1 : decide (64 < ((rd_T44 l0_8 x5_3).f2).length) = true := decide_eq_true (by omega)
                              clear c38
                              obtain rfl := Option.some.inj H
                              have hcz39_0 : wr.cell? ⟨gb159, 0, none⟩ = some (.int .u8 a0_0) := (blk_cell BK159.out 0).trans rfl
                              have hcz39_1 : wr.cell? ⟨gb159, 1, none⟩ = some (.int .i64 a0_1) := (blk_cell BK159.out 1).trans rfl
                              have hcz39_2 : wr.cell? ⟨gb159, 2, none⟩ = some (.int .u8 a0_2) := (blk_cell BK159.out 2).trans rfl
                              have hcz39_3 : wr.cell? ⟨gb159, 3, none⟩ = some (.int .u32 a0_3) := (blk_cell BK159.out 3).trans rfl
                              have hcz39_4 : wr.cell? ⟨gb159, 4, none⟩ = some (.bool a0_4) := (blk_cell BK159.out 4).trans rfl
                              have hcz39_5 : wr.cell? ⟨gb159, 5, none⟩ = some (.int .u8 a0_5) := (blk_cell BK159.out 5).trans rfl
                              have hcz39_6 : wr.cell? ⟨gb159, 6, none⟩ = some (.int .u8 a0_6) := (blk_cell BK159.out 6).trans rfl
                              have hcz39_7 : wr.cell? ⟨gb159, 7, none⟩ = some (.slice A0_7 l0_7.length c0_7) := (blk_cell BK159.out 7).trans rfl
                              have hcz39_8 : wr.cell? ⟨gb159, 8, none⟩ = some (.slice A0_8 l0_8.length c0_8) := (blk_cell BK159.out 8).trans rfl
                              have hfz39_0 := blk_frozen BK159.out 0
                              have hfz39_1 := blk_frozen BK159.out 1
                              have hfz39_2 := blk_frozen BK159.out 2
                              have hfz39_3 := blk_frozen BK159.out 3
                              have hfz39_4 := blk_frozen BK159.out 4
                              have hfz39_5 := blk_frozen BK159.out 5
                              have hfz39_6 := blk_frozen BK159.out 6
                              have hfz39_7 := blk_frozen BK159.out 7
                              have hfz39_8 := blk_frozen BK159.out 8
                              have p161 : 0 ≤ (x5_3 : Int) := of_decide_eq_true (by first | (with_reducible assumption) | assumption)
                              have q161 : x5_3 < (l0_8.length : Int) := of_decide_eq_true (by first | (with_reducible assumption) | assumption)
                              obtain ⟨ad161, A161_2, c161_2, e161, hx161_0, hx161_1, hx161_2, hl161_2, hi161_2⟩ := at_T44 HR0_8.out x5_3 p161 q161
                              cases e161
                              replace hx161_0 := (HB.out.cell (World.block_lt_of_cell? w _ hx161_0)).trans hx161_0
                              replace hx161_1 := (HB.out.cell (World.block_lt_of_cell? w _ hx161_1)).trans hx161_1
                              replace hx161_2 := (HB.out.cell (World.block_lt_of_cell? w _ hx161_2)).trans hx161_2
                              have HR161_2 := Aside0.mk hi161_2
                              have HC161_2 := Aside0.mk hl161_2
                              clear hi161_2 hl161_2
                              replace p161 := eq_true p161
                              replace q161 := eq_true q161
                              go_wp2_with (first | ((with_reducible refine gate_dst (N := 6) rfl ?_); (try (refine gate_guard (by rfl) ?_; dsimp only)); refine box_event ?hg (N := 6) ?hd (cs := #[.int .u8 0, .int .u32 0, .slice none 0 0]) (t := 44) ?hr ?_; (case hd => rfl); (case hg => rfl); (case hr => first | (go_simp; done) | (go_simp; rfl)); intro gb162 hg w40 hbox hb; have n0_ := Aside0.mk (blk_below (g := gb159) (o := .cells #[.int .u8 a0_0, .int .i64 a0_1, .int .u8 a0_2, .int .u32 a0_3, .bool a0_4, .int .u8 a0_5, .int .u8 a0_6, .slice A0_7 l0_7.length c0_7, .slice (some ad161) l0_8.length c0_8] 27 (0, 0)) (by (with_reducible repeat (first | refine blk_drewN ?_ _ | refine blk_drew ?_ | refine blk_alloc ?_ _)); exact BK159.out) hb); have n1_ := Aside0.mk (below_step (by repeat (first | (with_reducible first | exact HB.out | apply below_alloc | apply pw_below_drewN | apply below_drew1 | refine below_set ?_ GE159.out) | exact HB.out)) hb); have n2_ := Aside0.mk (hbox); have n3_ := Aside0.mk ((by rw [hg]; exact (below_size (by repeat (first | (with_reducible first | exact HB.out | apply below_alloc | apply pw_below_drewN | apply below_drew1 | refine below_set ?_ GE159.out) | exact HB.out))) : w.heap.size ≤ gb162)); have n4_ := Aside0.mk ((by rw [hg]; exact (below_size (by repeat (first | (with_reducible first | exact HB.out | apply below_alloc | apply pw_below_drewN | apply below_drew1 | refine below_set ?_ GE159.out) | exact HB.out))) : w.heap.size ≤ gb162)); have n5_ := Aside0.mk ((by rw [hg]; exact Nat.ne_of_lt (blk_lt (g := gb159) (o := .cells #[.int .u8 a0_0, .int .i64 a0_1, .int .u8 a0_2, .int .u32 a0_3, .bool a0_4, .int .u8 a0_5, .int .u8 a0_6, .slice A0_7 l0_7.length c0_7, .slice (some ad161) l0_8.length c0_8] 27 (0, 0)) (by (with_reducible repeat (first | refine blk_drewN ?_ _ | refine blk_drew ?_ | refine blk_alloc ?_ _)); exact BK159.out)) : gb159 ≠ gb162)); have n6_ := Aside0.mk ((by rw [hg]; exact Nat.ne_of_gt (blk_lt (g := gb159) (o := .cells #[.int .u8 a0_0, .int .i64 a0_1, .int .u8 a0_2, .int .u32 a0_3, .bool a0_4, .int .u8 a0_5, .int .u8 a0_6, .slice A0_7 l0_7.length c0_7, .slice (some ad161) l0_8.length c0_8] 27 (0, 0)) (by (with_reducible repeat (first | refine blk_drewN ?_ _ | refine blk_drew ?_ | refine blk_alloc ?_ _)); exact BK159.out)) : gb162 ≠ gb159)); clear BK159; clear HB; have BK159 := n0_; have HB := n1_; have BK162 := n2_; have GW162 := n3_; have GE162 := n4_; have NB159_162 := n5_; have NB162_159 := n6_; clear n0_ n1_ n2_ n3_ n4_ n5_ n6_; clear hb hbox hg; have hnb41 := NB162_159.out; have hnc41 := NB159_162.out; have hcz42_0 : w40.cell? ⟨gb162, 0, none⟩ = some (.int .u8 0) := (blk_cell BK162.out 0).trans rfl; have hcz42_1 : w40.cell? ⟨gb162, 1, none⟩ = some (.int .u32 0) := (blk_cell BK162.out 1).trans rfl; have hcz42_2 : w40.cell? ⟨gb162, 2, none⟩ = some (.slice none 0 0) := (blk_cell BK162.out 2).trans rfl; have hfz42_0 := blk_frozen BK162.out 0; have hfz42_1 := blk_frozen BK162.out 1; have hfz42_2 := blk_frozen BK162.out 2) | ((with_reducible refine gate_callee (f := 22) rfl ?_); refine goesL_ (some 70) rfl rfl Try.func22 (by kernel_rfl) rfl #[.int .u32 ((rd_T44 l0_8 x5_3).f1)] rfl (by (try simp only [List.map_toArray, List.map_cons, List.map_nil]); first | done | rfl | (simp only [List.length_drop, List.length_take]; rfl)) ?_; (with_reducible refine (stolonref01_Asked.calls ((rd_T44 l0_8 x5_3).f1) true _ A26.out).mono ?_); rintro e w' ⟨rfl, ⟨nd, rfl⟩⟩; refine ⟨_, rfl, ?_⟩))
                              go_ret
                              exact ⟨by first | rfl | (simp [errW_none, errW_some] <;> rfl) | (simp [*, errW_none, errW_some] <;> rfl), by repeat (first | (with_reducible first | exact HB.out | apply below_alloc | apply pw_below_drewN | apply below_drew1 | refine below_set ?_ GE159.out | refine below_set ?_ GE162.out) | exact HB.out)⟩
                            · rw [if_neg c38] at H
                              have c38b0 : decide (64 < (((rd_T44 l0_8 x5_3).f2).length : Int)) = false := decide_eq_false c38
                              have c38b1 : decide (64 < ((rd_T44 l0_8 x5_3).f2).length) = false := decide_eq_false (by omega)
                              clear c38
                              have H' := Aside0.mk H
                              clear H
                              have hcz43_0 : wr.cell? ⟨gb159, 0, none⟩ = some (.int .u8 a0_0) := (blk_cell BK159.out 0).trans rfl
                              have hcz43_1 : wr.cell? ⟨gb159, 1, none⟩ = some (.int .i64 a0_1) := (blk_cell BK159.out 1).trans rfl
                              have hcz43_2 : wr.cell? ⟨gb159, 2, none⟩ = some (.int .u8 a0_2) := (blk_cell BK159.out 2).trans rfl
                              have hcz43_3 : wr.cell? ⟨gb159, 3, none⟩ = some (.int .u32 a0_3) := (blk_cell BK159.out 3).trans rfl
                              have hcz43_4 : wr.cell? ⟨gb159, 4, none⟩ = some (.bool a0_4) := (blk_cell BK159.out 4).trans rfl
                              have hcz43_5 : wr.cell? ⟨gb159, 5, none⟩ = some (.int .u8 a0_5) := (blk_cell BK159.out 5).trans rfl
                              have hcz43_6 : wr.cell? ⟨gb159, 6, none⟩ = some (.int .u8 a0_6) := (blk_cell BK159.out 6).trans rfl
                              have hcz43_7 : wr.cell? ⟨gb159, 7, none⟩ = some (.slice A0_7 l0_7.length c0_7) := (blk_cell BK159.out 7).trans rfl
                              have hcz43_8 : wr.cell? ⟨gb159, 8, none⟩ = some (.slice A0_8 l0_8.length c0_8) := (blk_cell BK159.out 8).trans rfl
                              have hfz43_0 := blk_frozen BK159.out 0
                              have hfz43_1 := blk_frozen BK159.out 1
                              have hfz43_2 := blk_frozen BK159.out 2
                              have hfz43_3 := blk_frozen BK159.out 3
                              have hfz43_4 := blk_frozen BK159.out 4
                              have hfz43_5 := blk_frozen BK159.out 5
                              have hfz43_6 := blk_frozen BK159.out 6
                              have hfz43_7 := blk_frozen BK159.out 7
                              have hfz43_8 := blk_frozen BK159.out 8
                              have p161 : 0 ≤ (x5_3 : Int) := of_decide_eq_true (by first | (with_reducible assumption) | assumption)
                              have q161 : x5_3 < (l0_8.length : Int) := of_decide_eq_true (by first | (with_reducible assumption) | assumption)
                              obtain ⟨ad161, A161_2, c161_2, e161, hx161_0, hx161_1, hx161_2, hl161_2, hi161_2⟩ := at_T44 HR0_8.out x5_3 p161 q161
                              cases e161
                              replace hx161_0 := (HB.out.cell (World.block_lt_of_cell? w _ hx161_0)).trans hx161_0
                              replace hx161_1 := (HB.out.cell (World.block_lt_of_cell? w _ hx161_1)).trans hx161_1
                              replace hx161_2 := (HB.out.cell (World.block_lt_of_cell? w _ hx161_2)).trans hx161_2
                              have HR161_2 := Aside0.mk hi161_2
                              have HC161_2 := Aside0.mk hl161_2
                              clear hi161_2 hl161_2
                              replace p161 := eq_true p161
                              replace q161 := eq_true q161
                              go_wp2_with (first | ((with_reducible refine gate_dst (N := 6) rfl ?_); (try (refine gate_guard (by rfl) ?_; dsimp only)); refine box_event ?hg (N := 6) ?hd (cs := #[.int .u8 0, .int .u32 0, .slice none 0 0]) (t := 44) ?hr ?_; (case hd => rfl); (case hg => rfl); (case hr => first | (go_simp; done) | (go_simp; rfl)); intro gb162 hg w44 hbox hb; have n0_ := Aside0.mk (blk_below (g := gb159) (o := .cells #[.int .u8 a0_0, .int .i64 a0_1, .int .u8 a0_2, .int .u32 a0_3, .bool a0_4, .int .u8 a0_5, .int .u8 a0_6, .slice A0_7 l0_7.length c0_7, .slice (some ad161) l0_8.length c0_8] 27 (0, 0)) (by (with_reducible repeat (first | refine blk_drewN ?_ _ | refine blk_drew ?_ | refine blk_alloc ?_ _)); exact BK159.out) hb); have n1_ := Aside0.mk (below_step (by repeat (first | (with_reducible first | exact HB.out | apply below_alloc | apply pw_below_drewN | apply below_drew1 | refine below_set ?_ GE159.out) | exact HB.out)) hb); have n2_ := Aside0.mk (hbox); have n3_ := Aside0.mk ((by rw [hg]; exact (below_size (by repeat (first | (with_reducible first | exact HB.out | apply below_alloc | apply pw_below_drewN | apply below_drew1 | refine below_set ?_ GE159.out) | exact HB.out))) : w.heap.size ≤ gb162)); have n4_ := Aside0.mk ((by rw [hg]; exact (below_size (by repeat (first | (with_reducible first | exact HB.out | apply below_alloc | apply pw_below_drewN | apply below_drew1 | refine below_set ?_ GE159.out) | exact HB.out))) : w.heap.size ≤ gb162)); have n5_ := Aside0.mk ((by rw [hg]; exact Nat.ne_of_lt (blk_lt (g := gb159) (o := .cells #[.int .u8 a0_0, .int .i64 a0_1, .int .u8 a0_2, .int .u32 a0_3, .bool a0_4, .int .u8 a0_5, .int .u8 a0_6, .slice A0_7 l0_7.length c0_7, .slice (some ad161) l0_8.length c0_8] 27 (0, 0)) (by (with_reducible repeat (first | refine blk_drewN ?_ _ | refine blk_drew ?_ | refine blk_alloc ?_ _)); exact BK159.out)) : gb159 ≠ gb162)); have n6_ := Aside0.mk ((by rw [hg]; exact Nat.ne_of_gt (blk_lt (g := gb159) (o := .cells #[.int .u8 a0_0, .int .i64 a0_1, .int .u8 a0_2, .int .u32 a0_3, .bool a0_4, .int .u8 a0_5, .int .u8 a0_6, .slice A0_7 l0_7.length c0_7, .slice (some ad161) l0_8.length c0_8] 27 (0, 0)) (by (with_reducible repeat (first | refine blk_drewN ?_ _ | refine blk_drew ?_ | refine blk_alloc ?_ _)); exact BK159.out)) : gb162 ≠ gb159)); clear BK159; clear HB; have BK159 := n0_; have HB := n1_; have BK162 := n2_; have GW162 := n3_; have GE162 := n4_; have NB159_162 := n5_; have NB162_159 := n6_; clear n0_ n1_ n2_ n3_ n4_ n5_ n6_; clear hb hbox hg; have hnb45 := NB162_159.out; have hnc45 := NB159_162.out; have hcz46_0 : w44.cell? ⟨gb162, 0, none⟩ = some (.int .u8 0) := (blk_cell BK162.out 0).trans rfl; have hcz46_1 : w44.cell? ⟨gb162, 1, none⟩ = some (.int .u32 0) := (blk_cell BK162.out 1).trans rfl; have hcz46_2 : w44.cell? ⟨gb162, 2, none⟩ = some (.slice none 0 0) := (blk_cell BK162.out 2).trans rfl; have hfz46_0 := blk_frozen BK162.out 0; have hfz46_1 := blk_frozen BK162.out 1; have hfz46_2 := blk_frozen BK162.out 2) | ((with_reducible refine gate_callee (f := 22) rfl ?_); refine goesL_ (some 70) rfl rfl Try.func22 (by kernel_rfl) rfl #[.int .u32 ((rd_T44 l0_8 x5_3).f1)] rfl (by (try simp only [List.map_toArray, List.map_cons, List.map_nil]); first | done | rfl | (simp only [List.length_drop, List.length_take]; rfl)) ?_; (with_reducible refine (stolonref01_Asked.calls ((rd_T44 l0_8 x5_3).f1) true _ A26.out).mono ?_); rintro e w' ⟨rfl, ⟨nd, rfl⟩⟩; refine ⟨_, rfl, ?_⟩))
                              go_roundg k3
                              case measure => have := HJ1.out; have := HJ12.out; have := HK3.out; omega
                              case rel => exact ⟨(wrap64 (x5_3 + 1)), (by first | rfl | (simp; done) | (simp [*]; done)), H', ⟨by have := HJ1.out; have := HJ12.out; have := HK3.out; omega⟩, ⟨by (with_reducible repeat (first | refine blk_drewN ?_ _ | refine blk_drew ?_ | refine blk_alloc ?_ _)); refine blk_far ?_ NB159_162.out _; (with_reducible repeat (first | refine blk_drewN ?_ _ | refine blk_drew ?_ | refine blk_alloc ?_ _)); refine blk_far ?_ NB159_162.out _; (with_reducible repeat (first | refine blk_drewN ?_ _ | refine blk_drew ?_ | refine blk_alloc ?_ _)); refine blk_far ?_ NB159_162.out _; (with_reducible repeat (first | refine blk_drewN ?_ _ | refine blk_drew ?_ | refine blk_alloc ?_ _)); exact BK159.out⟩, ⟨by repeat (first | (with_reducible first | exact HB.out | apply below_alloc | apply pw_below_drewN | apply below_drew1 | refine below_set ?_ GE159.out | refine below_set ?_ GE162.out) | exact HB.out)⟩⟩
                          · replace c37 := Bool.eq_false_iff.mpr c37
                            subst c37
                            have H1 : (some false) = some r := by rw [if_neg (show ¬ (false = true) by decide)] at H; exact H
                            clear H
                            have H := H1
                            clear H1
                            obtain rfl := Option.some.inj H
                            have hcz47_0 : wr.cell? ⟨gb159, 0, none⟩ = some (.int .u8 a0_0) := (blk_cell BK159.out 0).trans rfl
                            have hcz47_1 : wr.cell? ⟨gb159, 1, none⟩ = some (.int .i64 a0_1) := (blk_cell BK159.out 1).trans rfl
                            have hcz47_2 : wr.cell? ⟨gb159, 2, none⟩ = some (.int .u8 a0_2) := (blk_cell BK159.out 2).trans rfl
                            have hcz47_3 : wr.cell? ⟨gb159, 3, none⟩ = some (.int .u32 a0_3) := (blk_cell BK159.out 3).trans rfl
                            have hcz47_4 : wr.cell? ⟨gb159, 4, none⟩ = some (.bool a0_4) := (blk_cell BK159.out 4).trans rfl
                            have hcz47_5 : wr.cell? ⟨gb159, 5, none⟩ = some (.int .u8 a0_5) := (blk_cell BK159.out 5).trans rfl
                            have hcz47_6 : wr.cell? ⟨gb159, 6, none⟩ = some (.int .u8 a0_6) := (blk_cell BK159.out 6).trans rfl
                            have hcz47_7 : wr.cell? ⟨gb159, 7, none⟩ = some (.slice A0_7 l0_7.length c0_7) := (blk_cell BK159.out 7).trans rfl
                            have hcz47_8 : wr.cell? ⟨gb159, 8, none⟩ = some (.slice A0_8 l0_8.length c0_8) := (blk_cell BK159.out 8).trans rfl
                            have hfz47_0 := blk_frozen BK159.out 0
                            have hfz47_1 := blk_frozen BK159.out 1
                            have hfz47_2 := blk_frozen BK159.out 2
                            have hfz47_3 := blk_frozen BK159.out 3
                            have hfz47_4 := blk_frozen BK159.out 4
                            have hfz47_5 := blk_frozen BK159.out 5
                            have hfz47_6 := blk_frozen BK159.out 6
                            have hfz47_7 := blk_frozen BK159.out 7
                            have hfz47_8 := blk_frozen BK159.out 8
                            have p161 : 0 ≤ (x5_3 : Int) := of_decide_eq_true (by first | (with_reducible assumption) | assumption)
                            have q161 : x5_3 < (l0_8.length : Int) := of_decide_eq_true (by first | (with_reducible assumption) | assumption)
                            obtain ⟨ad161, A161_2, c161_2, e161, hx161_0, hx161_1, hx161_2, hl161_2, hi161_2⟩ := at_T44 HR0_8.out x5_3 p161 q161
                            cases e161
                            replace hx161_0 := (HB.out.cell (World.block_lt_of_cell? w _ hx161_0)).trans hx161_0
                            replace hx161_1 := (HB.out.cell (World.block_lt_of_cell? w _ hx161_1)).trans hx161_1
                            replace hx161_2 := (HB.out.cell (World.block_lt_of_cell? w _ hx161_2)).trans hx161_2
                            have HR161_2 := Aside0.mk hi161_2
                            have HC161_2 := Aside0.mk hl161_2
                            clear hi161_2 hl161_2
                            replace p161 := eq_true p161
                            replace q161 := eq_true q161
                            go_wp2_with (first | ((with_reducible refine gate_dst (N := 6) rfl ?_); (try (refine gate_guard (by rfl) ?_; dsimp only)); refine box_event ?hg (N := 6) ?hd (cs := #[.int .u8 0, .int .u32 0, .slice none 0 0]) (t := 44) ?hr ?_; (case hd => rfl); (case hg => rfl); (case hr => first | (go_simp; done) | (go_simp; rfl)); intro gb162 hg w48 hbox hb; have n0_ := Aside0.mk (blk_below (g := gb159) (o := .cells #[.int .u8 a0_0, .int .i64 a0_1, .int .u8 a0_2, .int .u32 a0_3, .bool a0_4, .int .u8 a0_5, .int .u8 a0_6, .slice A0_7 l0_7.length c0_7, .slice (some ad161) l0_8.length c0_8] 27 (0, 0)) (by (with_reducible repeat (first | refine blk_drewN ?_ _ | refine blk_drew ?_ | refine blk_alloc ?_ _)); exact BK159.out) hb); have n1_ := Aside0.mk (below_step (by repeat (first | (with_reducible first | exact HB.out | apply below_alloc | apply pw_below_drewN | apply below_drew1 | refine below_set ?_ GE159.out) | exact HB.out)) hb); have n2_ := Aside0.mk (hbox); have n3_ := Aside0.mk ((by rw [hg]; exact (below_size (by repeat (first | (with_reducible first | exact HB.out | apply below_alloc | apply pw_below_drewN | apply below_drew1 | refine below_set ?_ GE159.out) | exact HB.out))) : w.heap.size ≤ gb162)); have n4_ := Aside0.mk ((by rw [hg]; exact (below_size (by repeat (first | (with_reducible first | exact HB.out | apply below_alloc | apply pw_below_drewN | apply below_drew1 | refine below_set ?_ GE159.out) | exact HB.out))) : w.heap.size ≤ gb162)); have n5_ := Aside0.mk ((by rw [hg]; exact Nat.ne_of_lt (blk_lt (g := gb159) (o := .cells #[.int .u8 a0_0, .int .i64 a0_1, .int .u8 a0_2, .int .u32 a0_3, .bool a0_4, .int .u8 a0_5, .int .u8 a0_6, .slice A0_7 l0_7.length c0_7, .slice (some ad161) l0_8.length c0_8] 27 (0, 0)) (by (with_reducible repeat (first | refine blk_drewN ?_ _ | refine blk_drew ?_ | refine blk_alloc ?_ _)); exact BK159.out)) : gb159 ≠ gb162)); have n6_ := Aside0.mk ((by rw [hg]; exact Nat.ne_of_gt (blk_lt (g := gb159) (o := .cells #[.int .u8 a0_0, .int .i64 a0_1, .int .u8 a0_2, .int .u32 a0_3, .bool a0_4, .int .u8 a0_5, .int .u8 a0_6, .slice A0_7 l0_7.length c0_7, .slice (some ad161) l0_8.length c0_8] 27 (0, 0)) (by (with_reducible repeat (first | refine blk_drewN ?_ _ | refine blk_drew ?_ | refine blk_alloc ?_ _)); exact BK159.out)) : gb162 ≠ gb159)); clear BK159; clear HB; have BK159 := n0_; have HB := n1_; have BK162 := n2_; have GW162 := n3_; have GE162 := n4_; have NB159_162 := n5_; have NB162_159 := n6_; clear n0_ n1_ n2_ n3_ n4_ n5_ n6_; clear hb hbox hg; have hnb49 := NB162_159.out; have hnc49 := NB159_162.out; have hcz50_0 : w48.cell? ⟨gb162, 0, none⟩ = some (.int .u8 0) := (blk_cell BK162.out 0).trans rfl; have hcz50_1 : w48.cell? ⟨gb162, 1, none⟩ = some (.int .u32 0) := (blk_cell BK162.out 1).trans rfl; have hcz50_2 : w48.cell? ⟨gb162, 2, none⟩ = some (.slice none 0 0) := (blk_cell BK162.out 2).trans rfl; have hfz50_0 := blk_frozen BK162.out 0; have hfz50_1 := blk_frozen BK162.out 1; have hfz50_2 := blk_frozen BK162.out 2) | ((with_reducible refine gate_callee (f := 22) rfl ?_); refine goesL_ (some 70) rfl rfl Try.func22 (by kernel_rfl) rfl #[.int .u32 ((rd_T44 l0_8 x5_3).f1)] rfl (by (try simp only [List.map_toArray, List.map_cons, List.map_nil]); first | done | rfl | (simp only [List.length_drop, List.length_take]; rfl)) ?_; (with_reducible refine (stolonref01_Asked.calls ((rd_T44 l0_8 x5_3).f1) false _ A26.out).mono ?_); rintro e w' ⟨rfl, ⟨nd, rfl⟩⟩; refine ⟨_, rfl, ?_⟩))
                            go_ret
                            exact ⟨by first | rfl | (simp [errW_none, errW_some] <;> rfl) | (simp [*, errW_none, errW_some] <;> rfl), by repeat (first | (with_reducible first | exact HB.out | apply below_alloc | apply pw_below_drewN | apply below_drew1 | refine below_set ?_ GE159.out | refine below_set ?_ GE162.out) | exact HB.out)⟩
                    · rw [if_neg c25] at H
                      exact absurd H (by simp)
                  · rw [if_neg c24] at H
                    have c24b0 : decide (x5_3 < (l0_8.length : Int)) = false := decide_eq_false c24
                    clear c24
                    obtain rfl := Option.some.inj H
                    have hcz51_0 : wr.cell? ⟨gb159, 0, none⟩ = some (.int .u8 a0_0) := (blk_cell BK159.out 0).trans rfl
                    have hcz51_1 : wr.cell? ⟨gb159, 1, none⟩ = some (.int .i64 a0_1) := (blk_cell BK159.out 1).trans rfl
                    have hcz51_2 : wr.cell? ⟨gb159, 2, none⟩ = some (.int .u8 a0_2) := (blk_cell BK159.out 2).trans rfl
                    have hcz51_3 : wr.cell? ⟨gb159, 3, none⟩ = some (.int .u32 a0_3) := (blk_cell BK159.out 3).trans rfl
                    have hcz51_4 : wr.cell? ⟨gb159, 4, none⟩ = some (.bool a0_4) := (blk_cell BK159.out 4).trans rfl
                    have hcz51_5 : wr.cell? ⟨gb159, 5, none⟩ = some (.int .u8 a0_5) := (blk_cell BK159.out 5).trans rfl
                    have hcz51_6 : wr.cell? ⟨gb159, 6, none⟩ = some (.int .u8 a0_6) := (blk_cell BK159.out 6).trans rfl
                    have hcz51_7 : wr.cell? ⟨gb159, 7, none⟩ = some (.slice A0_7 l0_7.length c0_7) := (blk_cell BK159.out 7).trans rfl
                    have hcz51_8 : wr.cell? ⟨gb159, 8, none⟩ = some (.slice A0_8 l0_8.length c0_8) := (blk_cell BK159.out 8).trans rfl
                    have hfz51_0 := blk_frozen BK159.out 0
                    have hfz51_1 := blk_frozen BK159.out 1
                    have hfz51_2 := blk_frozen BK159.out 2
                    have hfz51_3 := blk_frozen BK159.out 3
                    have hfz51_4 := blk_frozen BK159.out 4
                    have hfz51_5 := blk_frozen BK159.out 5
                    have hfz51_6 := blk_frozen BK159.out 6
                    have hfz51_7 := blk_frozen BK159.out 7
                    have hfz51_8 := blk_frozen BK159.out 8
                    go_wp2
                    go_ret
                    exact ⟨by first | rfl | (simp [errW_none, errW_some] <;> rfl) | (simp [*, errW_none, errW_some] <;> rfl), by repeat (first | (with_reducible first | exact HB.out | apply below_alloc | apply pw_below_drewN | apply below_drew1 | refine below_set ?_ GE159.out) | exact HB.out)⟩
      · rw [if_neg c12] at H
        have c12b0 : (a0_0 == 34) = false := beq_eq_false_iff_ne.mpr c12
        have c12b1 : (a0_0 != 34) = true := bne_iff_ne.mpr c12
        by_cases c52 : (l0_8.length : Int) > 0
        · rw [if_pos c52] at H
          have c52b0 : decide (0 < (l0_8.length : Int)) = true := decide_eq_true c52
          have c52b1 : decide (0 < l0_8.length) = true := decide_eq_true (by omega)
          clear c52
          obtain rfl := Option.some.inj H
          have hcz53_0 : wc.cell? ⟨gb159, 0, none⟩ = some (.int .u8 a0_0) := (blk_cell BK159.out 0).trans rfl
          have hcz53_1 : wc.cell? ⟨gb159, 1, none⟩ = some (.int .i64 a0_1) := (blk_cell BK159.out 1).trans rfl
          have hcz53_2 : wc.cell? ⟨gb159, 2, none⟩ = some (.int .u8 a0_2) := (blk_cell BK159.out 2).trans rfl
          have hcz53_3 : wc.cell? ⟨gb159, 3, none⟩ = some (.int .u32 a0_3) := (blk_cell BK159.out 3).trans rfl
          have hcz53_4 : wc.cell? ⟨gb159, 4, none⟩ = some (.bool a0_4) := (blk_cell BK159.out 4).trans rfl
          have hcz53_5 : wc.cell? ⟨gb159, 5, none⟩ = some (.int .u8 a0_5) := (blk_cell BK159.out 5).trans rfl
          have hcz53_6 : wc.cell? ⟨gb159, 6, none⟩ = some (.int .u8 a0_6) := (blk_cell BK159.out 6).trans rfl
          have hcz53_7 : wc.cell? ⟨gb159, 7, none⟩ = some (.slice A0_7 l0_7.length c0_7) := (blk_cell BK159.out 7).trans rfl
          have hcz53_8 : wc.cell? ⟨gb159, 8, none⟩ = some (.slice A0_8 l0_8.length c0_8) := (blk_cell BK159.out 8).trans rfl
          have hfz53_0 := blk_frozen BK159.out 0
          have hfz53_1 := blk_frozen BK159.out 1
          have hfz53_2 := blk_frozen BK159.out 2
          have hfz53_3 := blk_frozen BK159.out 3
          have hfz53_4 := blk_frozen BK159.out 4
          have hfz53_5 := blk_frozen BK159.out 5
          have hfz53_6 := blk_frozen BK159.out 6
          have hfz53_7 := blk_frozen BK159.out 7
          have hfz53_8 := blk_frozen BK159.out 8
          go_wp2_with (first | ((with_reducible refine gate_callee (f := 22) rfl ?_); refine goesL_ (some 29) rfl rfl Try.func22 (by kernel_rfl) rfl #[.int .u32 a0_3] rfl (by (try simp only [List.map_toArray, List.map_cons, List.map_nil]); first | done | rfl | (simp only [List.length_drop, List.length_take]; rfl)) ?_; (with_reducible refine (stolonref01_Asked.calls a0_3 t160 _ A11.out).mono ?_); rintro e w' ⟨rfl, ⟨nd, rfl⟩⟩; refine ⟨_, rfl, ?_⟩))
          go_ret
          exact ⟨by first | rfl | (simp [errW_none, errW_some] <;> rfl) | (simp [*, errW_none, errW_some] <;> rfl), by repeat (first | (with_reducible first | exact HB.out | apply below_alloc | apply pw_below_drewN | apply below_drew1 | refine below_set ?_ GE159.out) | exact HB.out)⟩
        · rw [if_neg c52] at H
          have c52b0 : decide (0 < (l0_8.length : Int)) = false := decide_eq_false c52
          have c52b1 : decide (0 < l0_8.length) = false := decide_eq_false (by omega)
          clear c52
          have HC54 := Aside0.mk H
          clear H
          have hcz55_0 : wc.cell? ⟨gb159, 0, none⟩ = some (.int .u8 a0_0) := (blk_cell BK159.out 0).trans rfl
          have hcz55_1 : wc.cell? ⟨gb159, 1, none⟩ = some (.int .i64 a0_1) := (blk_cell BK159.out 1).trans rfl
          have hcz55_2 : wc.cell? ⟨gb159, 2, none⟩ = some (.int .u8 a0_2) := (blk_cell BK159.out 2).trans rfl
          have hcz55_3 : wc.cell? ⟨gb159, 3, none⟩ = some (.int .u32 a0_3) := (blk_cell BK159.out 3).trans rfl
          have hcz55_4 : wc.cell? ⟨gb159, 4, none⟩ = some (.bool a0_4) := (blk_cell BK159.out 4).trans rfl
          have hcz55_5 : wc.cell? ⟨gb159, 5, none⟩ = some (.int .u8 a0_5) := (blk_cell BK159.out 5).trans rfl
          have hcz55_6 : wc.cell? ⟨gb159, 6, none⟩ = some (.int .u8 a0_6) := (blk_cell BK159.out 6).trans rfl
          have hcz55_7 : wc.cell? ⟨gb159, 7, none⟩ = some (.slice A0_7 l0_7.length c0_7) := (blk_cell BK159.out 7).trans rfl
          have hcz55_8 : wc.cell? ⟨gb159, 8, none⟩ = some (.slice A0_8 l0_8.length c0_8) := (blk_cell BK159.out 8).trans rfl
          have hfz55_0 := blk_frozen BK159.out 0
          have hfz55_1 := blk_frozen BK159.out 1
          have hfz55_2 := blk_frozen BK159.out 2
          have hfz55_3 := blk_frozen BK159.out 3
          have hfz55_4 := blk_frozen BK159.out 4
          have hfz55_5 := blk_frozen BK159.out 5
          have hfz55_6 := blk_frozen BK159.out 6
          have hfz55_7 := blk_frozen BK159.out 7
          have hfz55_8 := blk_frozen BK159.out 8
          go_upto_region 16 with (first | ((with_reducible refine gate_callee (f := 22) rfl ?_); refine goesL_ (some 29) rfl rfl Try.func22 (by kernel_rfl) rfl #[.int .u32 a0_3] rfl (by (try simp only [List.map_toArray, List.map_cons, List.map_nil]); first | done | rfl | (simp only [List.length_drop, List.length_take]; rfl)) ?_; (with_reducible refine (stolonref01_Asked.calls a0_3 t160 _ A11.out).mono ?_); rintro e w' ⟨rfl, ⟨nd, rfl⟩⟩; refine ⟨_, rfl, ?_⟩))
          (try simp only [Act.put, List.setIfInBounds_toArray, List.set_cons_zero, List.set_cons_succ])
          go_cut [105] (fun v105 wc => ∃ (kq : Nat) (x105_53 : Bool), v105 = .bool x105_53 ∧ Aside0 (stolonref05_Right.j3 kq x3_1 t160 x105_53 a0_0 a0_1 a0_2 a0_3 a0_4 a0_5 a0_6 l0_7 l0_8 = some r) ∧ Aside0 (kq ≤ kj1) ∧ Aside0 (wc.heap[gb159]? = some (.cells #[.int .u8 a0_0, .int .i64 a0_1, .int .u8 a0_2, .int .u32 a0_3, .bool a0_4, .int .u8 a0_5, .int .u8 a0_6, (.slice A0_7 l0_7.length c0_7), (.slice A0_8 l0_8.length c0_8)] 27 (0, 0))) ∧ Aside0 (Below w.heap.size w wc))
          case first =>
            have H := HC54.out
            clear HC54
            by_cases c56 : a0_0 = 18
            · rw [if_pos c56] at H
              have c56b0 : (a0_0 == 18) = true := beq_iff_eq.mpr c56
              have c56b1 : (a0_0 != 18) = false := bne_eq_false_iff_eq.mpr c56
              clear c56
              (first | rw [c56b0] | (simp only [i64_w, i32_w]; rw [c56b0]) | skip)
              have H' := Aside0.mk H
              clear H
              have hcz57_0 : wc.cell? ⟨gb159, 0, none⟩ = some (.int .u8 a0_0) := (blk_cell BK159.out 0).trans rfl
              have hcz57_1 : wc.cell? ⟨gb159, 1, none⟩ = some (.int .i64 a0_1) := (blk_cell BK159.out 1).trans rfl
              have hcz57_2 : wc.cell? ⟨gb159, 2, none⟩ = some (.int .u8 a0_2) := (blk_cell BK159.out 2).trans rfl
              have hcz57_3 : wc.cell? ⟨gb159, 3, none⟩ = some (.int .u32 a0_3) := (blk_cell BK159.out 3).trans rfl
              have hcz57_4 : wc.cell? ⟨gb159, 4, none⟩ = some (.bool a0_4) := (blk_cell BK159.out 4).trans rfl
              have hcz57_5 : wc.cell? ⟨gb159, 5, none⟩ = some (.int .u8 a0_5) := (blk_cell BK159.out 5).trans rfl
              have hcz57_6 : wc.cell? ⟨gb159, 6, none⟩ = some (.int .u8 a0_6) := (blk_cell BK159.out 6).trans rfl
              have hcz57_7 : wc.cell? ⟨gb159, 7, none⟩ = some (.slice A0_7 l0_7.length c0_7) := (blk_cell BK159.out 7).trans rfl
              have hcz57_8 : wc.cell? ⟨gb159, 8, none⟩ = some (.slice A0_8 l0_8.length c0_8) := (blk_cell BK159.out 8).trans rfl
              have hfz57_0 := blk_frozen BK159.out 0
              have hfz57_1 := blk_frozen BK159.out 1
              have hfz57_2 := blk_frozen BK159.out 2
              have hfz57_3 := blk_frozen BK159.out 3
              have hfz57_4 := blk_frozen BK159.out 4
              have hfz57_5 := blk_frozen BK159.out 5
              have hfz57_6 := blk_frozen BK159.out 6
              have hfz57_7 := blk_frozen BK159.out 7
              have hfz57_8 := blk_frozen BK159.out 8
              go_wp2
              go_meet
              case rel => exact ⟨_, (true), (by first | rfl | (simp; done) | (simp [*]; done)), H', ⟨by have := HJ1.out; first | omega | exact Nat.le_refl _⟩, ⟨by (with_reducible repeat (first | refine blk_drewN ?_ _ | refine blk_drew ?_ | refine blk_alloc ?_ _)); exact BK159.out⟩, ⟨by repeat (first | (with_reducible first | exact HB.out | apply below_alloc | apply pw_below_drewN | apply below_drew1 | refine below_set ?_ GE159.out) | exact HB.out)⟩⟩
            · rw [if_neg c56] at H
              have c56b0 : (a0_0 == 18) = false := beq_eq_false_iff_ne.mpr c56
              have c56b1 : (a0_0 != 18) = true := bne_iff_ne.mpr c56
              (first | rw [c56b0] | (simp only [i64_w, i32_w]; rw [c56b0]) | skip)
              by_cases c58 : a0_0 = 22
              · rw [if_pos c58] at H
                have c58b0 : (a0_0 == 22) = true := beq_iff_eq.mpr c58
                have c58b1 : (a0_0 != 22) = false := bne_eq_false_iff_eq.mpr c58
                clear c58
                have H' := Aside0.mk H
                clear H
                have hcz59_0 : wc.cell? ⟨gb159, 0, none⟩ = some (.int .u8 a0_0) := (blk_cell BK159.out 0).trans rfl
                have hcz59_1 : wc.cell? ⟨gb159, 1, none⟩ = some (.int .i64 a0_1) := (blk_cell BK159.out 1).trans rfl
                have hcz59_2 : wc.cell? ⟨gb159, 2, none⟩ = some (.int .u8 a0_2) := (blk_cell BK159.out 2).trans rfl
                have hcz59_3 : wc.cell? ⟨gb159, 3, none⟩ = some (.int .u32 a0_3) := (blk_cell BK159.out 3).trans rfl
                have hcz59_4 : wc.cell? ⟨gb159, 4, none⟩ = some (.bool a0_4) := (blk_cell BK159.out 4).trans rfl
                have hcz59_5 : wc.cell? ⟨gb159, 5, none⟩ = some (.int .u8 a0_5) := (blk_cell BK159.out 5).trans rfl
                have hcz59_6 : wc.cell? ⟨gb159, 6, none⟩ = some (.int .u8 a0_6) := (blk_cell BK159.out 6).trans rfl
                have hcz59_7 : wc.cell? ⟨gb159, 7, none⟩ = some (.slice A0_7 l0_7.length c0_7) := (blk_cell BK159.out 7).trans rfl
                have hcz59_8 : wc.cell? ⟨gb159, 8, none⟩ = some (.slice A0_8 l0_8.length c0_8) := (blk_cell BK159.out 8).trans rfl
                have hfz59_0 := blk_frozen BK159.out 0
                have hfz59_1 := blk_frozen BK159.out 1
                have hfz59_2 := blk_frozen BK159.out 2
                have hfz59_3 := blk_frozen BK159.out 3
                have hfz59_4 := blk_frozen BK159.out 4
                have hfz59_5 := blk_frozen BK159.out 5
                have hfz59_6 := blk_frozen BK159.out 6
                have hfz59_7 := blk_frozen BK159.out 7
                have hfz59_8 := blk_frozen BK159.out 8
                go_wp2
                go_meet
                case rel => exact ⟨_, (true), (by first | rfl | (simp; done) | (simp [*]; done)), H', ⟨by have := HJ1.out; first | omega | exact Nat.le_refl _⟩, ⟨by (with_reducible repeat (first | refine blk_drewN ?_ _ | refine blk_drew ?_ | refine blk_alloc ?_ _)); exact BK159.out⟩, ⟨by repeat (first | (with_reducible first | exact HB.out | apply below_alloc | apply pw_below_drewN | apply below_drew1 | refine below_set ?_ GE159.out) | exact HB.out)⟩⟩
              · rw [if_neg c58] at H
                have c58b0 : (a0_0 == 22) = false := beq_eq_false_iff_ne.mpr c58
                have c58b1 : (a0_0 != 22) = true := bne_iff_ne.mpr c58
                have H' := Aside0.mk H
                clear H
                have hcz60_0 : wc.cell? ⟨gb159, 0, none⟩ = some (.int .u8 a0_0) := (blk_cell BK159.out 0).trans rfl
                have hcz60_1 : wc.cell? ⟨gb159, 1, none⟩ = some (.int .i64 a0_1) := (blk_cell BK159.out 1).trans rfl
                have hcz60_2 : wc.cell? ⟨gb159, 2, none⟩ = some (.int .u8 a0_2) := (blk_cell BK159.out 2).trans rfl
                have hcz60_3 : wc.cell? ⟨gb159, 3, none⟩ = some (.int .u32 a0_3) := (blk_cell BK159.out 3).trans rfl
                have hcz60_4 : wc.cell? ⟨gb159, 4, none⟩ = some (.bool a0_4) := (blk_cell BK159.out 4).trans rfl
                have hcz60_5 : wc.cell? ⟨gb159, 5, none⟩ = some (.int .u8 a0_5) := (blk_cell BK159.out 5).trans rfl
                have hcz60_6 : wc.cell? ⟨gb159, 6, none⟩ = some (.int .u8 a0_6) := (blk_cell BK159.out 6).trans rfl
                have hcz60_7 : wc.cell? ⟨gb159, 7, none⟩ = some (.slice A0_7 l0_7.length c0_7) := (blk_cell BK159.out 7).trans rfl
                have hcz60_8 : wc.cell? ⟨gb159, 8, none⟩ = some (.slice A0_8 l0_8.length c0_8) := (blk_cell BK159.out 8).trans rfl
                have hfz60_0 := blk_frozen BK159.out 0
                have hfz60_1 := blk_frozen BK159.out 1
                have hfz60_2 := blk_frozen BK159.out 2
                have hfz60_3 := blk_frozen BK159.out 3
                have hfz60_4 := blk_frozen BK159.out 4
                have hfz60_5 := blk_frozen BK159.out 5
                have hfz60_6 := blk_frozen BK159.out 6
                have hfz60_7 := blk_frozen BK159.out 7
                have hfz60_8 := blk_frozen BK159.out 8
                go_wp2
                go_meet
                case rel => exact ⟨_, ((a0_0 == 23)), (by first | rfl | (simp; done) | (simp [*]; done)), H', ⟨by have := HJ1.out; first | omega | exact Nat.le_refl _⟩, ⟨by (with_reducible repeat (first | refine blk_drewN ?_ _ | refine blk_drew ?_ | refine blk_alloc ?_ _)); exact BK159.out⟩, ⟨by repeat (first | (with_reducible first | exact HB.out | apply below_alloc | apply pw_below_drewN | apply below_drew1 | refine below_set ?_ GE159.out) | exact HB.out)⟩⟩
          case rest =>
            clear HC54
            try clear c1
            try clear p1
            try clear q1
            try clear hx1
            try clear c2
            try clear p2
            try clear c3
            try clear c4
            try clear c5
            try clear c6
            try clear c6b0
            try clear c6b1
            try clear p6
            try clear c7
            try clear c7b0
            try clear c7b1
            try clear c12
            try clear c12b0
            try clear c12b1
            try clear c15
            try clear c16
            try clear c16b0
            try clear c16b1
            try clear p16
            try clear q16
            try clear hx16
            try clear c17
            try clear c17b0
            try clear c17b1
            try clear c18
            try clear c18b0
            try clear c18b1
            try clear c22
            try clear c23
            try clear c24
            try clear c24b0
            try clear c25
            try clear c25b0
            try clear c27
            try clear c27b0
            try clear c30
            try clear c32
            try clear c32b0
            try clear c35
            try clear c37
            try clear c38
            try clear c38b0
            try clear c38b1
            try clear c41
            try clear c45
            try clear c49
            try clear c52
            try clear c52b0
            try clear c52b1
            try clear c56
            try clear c56b0
            try clear c56b1
            try clear c58
            try clear c58b0
            try clear c58b1
            try clear hcz10_0
            try clear hcz10_1
            try clear hcz10_2
            try clear hcz10_3
            try clear hcz10_4
            try clear hcz10_5
            try clear hcz10_6
            try clear hcz10_7
            try clear hcz10_8
            try clear hcz14_0
            try clear hcz14_1
            try clear hcz14_2
            try clear hcz14_3
            try clear hcz14_4
            try clear hcz14_5
            try clear hcz14_6
            try clear hcz14_7
            try clear hcz14_8
            try clear hcz19_0
            try clear hcz19_1
            try clear hcz19_2
            try clear hcz19_3
            try clear hcz19_4
            try clear hcz19_5
            try clear hcz19_6
            try clear hcz19_7
            try clear hcz19_8
            try clear hcz20_0
            try clear hcz20_1
            try clear hcz20_2
            try clear hcz20_3
            try clear hcz20_4
            try clear hcz20_5
            try clear hcz20_6
            try clear hcz20_7
            try clear hcz20_8
            try clear hcz21_0
            try clear hcz21_1
            try clear hcz21_2
            try clear hcz21_3
            try clear hcz21_4
            try clear hcz21_5
            try clear hcz21_6
            try clear hcz21_7
            try clear hcz21_8
            try clear hcz22_0
            try clear hcz22_1
            try clear hcz22_2
            try clear hcz22_3
            try clear hcz22_4
            try clear hcz22_5
            try clear hcz22_6
            try clear hcz22_7
            try clear hcz22_8
            try clear hcz28_0
            try clear hcz28_1
            try clear hcz28_2
            try clear hcz28_3
            try clear hcz28_4
            try clear hcz28_5
            try clear hcz28_6
            try clear hcz28_7
            try clear hcz28_8
            try clear hcz31_0
            try clear hcz31_1
            try clear hcz31_2
            try clear hcz33_0
            try clear hcz33_1
            try clear hcz33_2
            try clear hcz33_3
            try clear hcz33_4
            try clear hcz33_5
            try clear hcz33_6
            try clear hcz33_7
            try clear hcz33_8
            try clear hcz36_0
            try clear hcz36_1
            try clear hcz36_2
            try clear hcz39_0
            try clear hcz39_1
            try clear hcz39_2
            try clear hcz39_3
            try clear hcz39_4
            try clear hcz39_5
            try clear hcz39_6
            try clear hcz39_7
            try clear hcz39_8
            try clear hcz42_0
            try clear hcz42_1
            try clear hcz42_2
            try clear hcz43_0
            try clear hcz43_1
            try clear hcz43_2
            try clear hcz43_3
            try clear hcz43_4
            try clear hcz43_5
            try clear hcz43_6
            try clear hcz43_7
            try clear hcz43_8
            try clear hcz46_0
            try clear hcz46_1
            try clear hcz46_2
            try clear hcz47_0
            try clear hcz47_1
            try clear hcz47_2
            try clear hcz47_3
            try clear hcz47_4
            try clear hcz47_5
            try clear hcz47_6
            try clear hcz47_7
            try clear hcz47_8
            try clear hcz50_0
            try clear hcz50_1
            try clear hcz50_2
            try clear hcz51_0
            try clear hcz51_1
            try clear hcz51_2
            try clear hcz51_3
            try clear hcz51_4
            try clear hcz51_5
            try clear hcz51_6
            try clear hcz51_7
            try clear hcz51_8
            try clear hcz53_0
            try clear hcz53_1
            try clear hcz53_2
            try clear hcz53_3
            try clear hcz53_4
            try clear hcz53_5
            try clear hcz53_6
            try clear hcz53_7
            try clear hcz53_8
            try clear hcz55_0
            try clear hcz55_1
            try clear hcz55_2
            try clear hcz55_3
            try clear hcz55_4
            try clear hcz55_5
            try clear hcz55_6
            try clear hcz55_7
            try clear hcz55_8
            try clear hcz57_0
            try clear hcz57_1
            try clear hcz57_2
            try clear hcz57_3
            try clear hcz57_4
            try clear hcz57_5
            try clear hcz57_6
            try clear hcz57_7
            try clear hcz57_8
            try clear hcz59_0
            try clear hcz59_1
            try clear hcz59_2
            try clear hcz59_3
            try clear hcz59_4
            try clear hcz59_5
            try clear hcz59_6
            try clear hcz59_7
            try clear hcz59_8
            try clear hcz5_0
            try clear hcz5_1
            try clear hcz5_2
            try clear hcz5_3
            try clear hcz5_4
            try clear hcz5_5
            try clear hcz5_6
            try clear hcz5_7
            try clear hcz5_8
            try clear hcz60_0
            try clear hcz60_1
            try clear hcz60_2
            try clear hcz60_3
            try clear hcz60_4
            try clear hcz60_5
            try clear hcz60_6
            try clear hcz60_7
            try clear hcz60_8
            try clear hcz8_0
            try clear hcz8_1
            try clear hcz8_2
            try clear hcz8_3
            try clear hcz8_4
            try clear hcz8_5
            try clear hcz8_6
            try clear hcz8_7
            try clear hcz8_8
            try clear hcz9_0
            try clear hcz9_1
            try clear hcz9_2
            try clear hcz9_3
            try clear hcz9_4
            try clear hcz9_5
            try clear hcz9_6
            try clear hcz9_7
            try clear hcz9_8
            try clear hfz10_0
            try clear hfz10_1
            try clear hfz10_2
            try clear hfz10_3
            try clear hfz10_4
            try clear hfz10_5
            try clear hfz10_6
            try clear hfz10_7
            try clear hfz10_8
            try clear hfz14_0
            try clear hfz14_1
            try clear hfz14_2
            try clear hfz14_3
            try clear hfz14_4
            try clear hfz14_5
            try clear hfz14_6
            try clear hfz14_7
            try clear hfz14_8
            try clear hfz19_0
            try clear hfz19_1
            try clear hfz19_2
            try clear hfz19_3
            try clear hfz19_4
            try clear hfz19_5
            try clear hfz19_6
            try clear hfz19_7
            try clear hfz19_8
            try clear hfz20_0
            try clear hfz20_1
            try clear hfz20_2
            try clear hfz20_3
            try clear hfz20_4
            try clear hfz20_5
            try clear hfz20_6
            try clear hfz20_7
            try clear hfz20_8
            try clear hfz21_0
            try clear hfz21_1
            try clear hfz21_2
            try clear hfz21_3
            try clear hfz21_4
            try clear hfz21_5
            try clear hfz21_6
            try clear hfz21_7
            try clear hfz21_8
            try clear hfz22_0
            try clear hfz22_1
            try clear hfz22_2
            try clear hfz22_3
            try clear hfz22_4
            try clear hfz22_5
            try clear hfz22_6
            try clear hfz22_7
            try clear hfz22_8
            try clear hfz28_0
            try clear hfz28_1
            try clear hfz28_2
            try clear hfz28_3
            try clear hfz28_4
            try clear hfz28_5
            try clear hfz28_6
            try clear hfz28_7
            try clear hfz28_8
            try clear hfz31_0
            try clear hfz31_1
            try clear hfz31_2
            try clear hfz33_0
            try clear hfz33_1
            try clear hfz33_2
            try clear hfz33_3
            try clear hfz33_4
            try clear hfz33_5
            try clear hfz33_6
            try clear hfz33_7
            try clear hfz33_8
            try clear hfz36_0
            try clear hfz36_1
            try clear hfz36_2
            try clear hfz39_0
            try clear hfz39_1
            try clear hfz39_2
            try clear hfz39_3
            try clear hfz39_4
            try clear hfz39_5
            try clear hfz39_6
            try clear hfz39_7
            try clear hfz39_8
            try clear hfz42_0
            try clear hfz42_1
            try clear hfz42_2
            try clear hfz43_0
            try clear hfz43_1
            try clear hfz43_2
            try clear hfz43_3
            try clear hfz43_4
            try clear hfz43_5
            try clear hfz43_6
            try clear hfz43_7
            try clear hfz43_8
            try clear hfz46_0
            try clear hfz46_1
            try clear hfz46_2
            try clear hfz47_0
            try clear hfz47_1
            try clear hfz47_2
            try clear hfz47_3
            try clear hfz47_4
            try clear hfz47_5
            try clear hfz47_6
            try clear hfz47_7
            try clear hfz47_8
            try clear hfz50_0
            try clear hfz50_1
            try clear hfz50_2
            try clear hfz51_0
            try clear hfz51_1
            try clear hfz51_2
            try clear hfz51_3
            try clear hfz51_4
            try clear hfz51_5
            try clear hfz51_6
            try clear hfz51_7
            try clear hfz51_8
            try clear hfz53_0
            try clear hfz53_1
            try clear hfz53_2
            try clear hfz53_3
            try clear hfz53_4
            try clear hfz53_5
            try clear hfz53_6
            try clear hfz53_7
            try clear hfz53_8
            try clear hfz55_0
            try clear hfz55_1
            try clear hfz55_2
            try clear hfz55_3
            try clear hfz55_4
            try clear hfz55_5
            try clear hfz55_6
            try clear hfz55_7
            try clear hfz55_8
            try clear hfz57_0
            try clear hfz57_1
            try clear hfz57_2
            try clear hfz57_3
            try clear hfz57_4
            try clear hfz57_5
            try clear hfz57_6
            try clear hfz57_7
            try clear hfz57_8
            try clear hfz59_0
            try clear hfz59_1
            try clear hfz59_2
            try clear hfz59_3
            try clear hfz59_4
            try clear hfz59_5
            try clear hfz59_6
            try clear hfz59_7
            try clear hfz59_8
            try clear hfz5_0
            try clear hfz5_1
            try clear hfz5_2
            try clear hfz5_3
            try clear hfz5_4
            try clear hfz5_5
            try clear hfz5_6
            try clear hfz5_7
            try clear hfz5_8
            try clear hfz60_0
            try clear hfz60_1
            try clear hfz60_2
            try clear hfz60_3
            try clear hfz60_4
            try clear hfz60_5
            try clear hfz60_6
            try clear hfz60_7
            try clear hfz60_8
            try clear hfz8_0
            try clear hfz8_1
            try clear hfz8_2
            try clear hfz8_3
            try clear hfz8_4
            try clear hfz8_5
            try clear hfz8_6
            try clear hfz8_7
            try clear hfz8_8
            try clear hfz9_0
            try clear hfz9_1
            try clear hfz9_2
            try clear hfz9_3
            try clear hfz9_4
            try clear hfz9_5
            try clear hfz9_6
            try clear hfz9_7
            try clear hfz9_8
            try clear hx161_0
            try clear hx161_1
            try clear hx161_2
            try clear p161
            try clear p2
            try clear q161
            obtain ⟨kq, x105_53, rfl, HA, HJ53, BK159, HB⟩ := hcut
            cases kq with
            | zero => exact absurd HA.out (by simp [stolonref05_Right.j3])
            | succ kj53 =>
              have H := HA.out
              clear HA
              simp only [stolonref05_Right.j3] at H
              by_cases c61 : x105_53 = true
              · subst c61
                have H1 : (if x3_1 = true then (if a0_1 = 0 then (if a0_2 = 0 then (some t160) else (some false)) else (some false)) else (some false)) = some r := by rw [if_pos rfl] at H; exact H
                clear H
                have H := H1
                clear H1
                by_cases c62 : x3_1 = true
                · subst c62
                  have H1 : (if a0_1 = 0 then (if a0_2 = 0 then (some t160) else (some false)) else (some false)) = some r := by rw [if_pos rfl] at H; exact H
                  clear H
                  have H := H1
                  clear H1
                  by_cases c63 : a0_1 = 0
                  · rw [if_pos c63] at H
                    have c63b0 : (a0_1 == 0) = true := beq_iff_eq.mpr c63
                    have c63b1 : (a0_1 != 0) = false := bne_eq_false_iff_eq.mpr c63
                    clear c63
                    by_cases c64 : a0_2 = 0
                    · rw [if_pos c64] at H
                      have c64b0 : (a0_2 == 0) = true := beq_iff_eq.mpr c64
                      have c64b1 : (a0_2 != 0) = false := bne_eq_false_iff_eq.mpr c64
                      clear c64
                      obtain rfl := Option.some.inj H
                      have hcz65_0 : wc.cell? ⟨gb159, 0, none⟩ = some (.int .u8 a0_0) := (blk_cell BK159.out 0).trans rfl
                      have hcz65_1 : wc.cell? ⟨gb159, 1, none⟩ = some (.int .i64 a0_1) := (blk_cell BK159.out 1).trans rfl
                      have hcz65_2 : wc.cell? ⟨gb159, 2, none⟩ = some (.int .u8 a0_2) := (blk_cell BK159.out 2).trans rfl
                      have hcz65_3 : wc.cell? ⟨gb159, 3, none⟩ = some (.int .u32 a0_3) := (blk_cell BK159.out 3).trans rfl
                      have hcz65_4 : wc.cell? ⟨gb159, 4, none⟩ = some (.bool a0_4) := (blk_cell BK159.out 4).trans rfl
                      have hcz65_5 : wc.cell? ⟨gb159, 5, none⟩ = some (.int .u8 a0_5) := (blk_cell BK159.out 5).trans rfl
                      have hcz65_6 : wc.cell? ⟨gb159, 6, none⟩ = some (.int .u8 a0_6) := (blk_cell BK159.out 6).trans rfl
                      have hcz65_7 : wc.cell? ⟨gb159, 7, none⟩ = some (.slice A0_7 l0_7.length c0_7) := (blk_cell BK159.out 7).trans rfl
                      have hcz65_8 : wc.cell? ⟨gb159, 8, none⟩ = some (.slice A0_8 l0_8.length c0_8) := (blk_cell BK159.out 8).trans rfl
                      have hfz65_0 := blk_frozen BK159.out 0
                      have hfz65_1 := blk_frozen BK159.out 1
                      have hfz65_2 := blk_frozen BK159.out 2
                      have hfz65_3 := blk_frozen BK159.out 3
                      have hfz65_4 := blk_frozen BK159.out 4
                      have hfz65_5 := blk_frozen BK159.out 5
                      have hfz65_6 := blk_frozen BK159.out 6
                      have hfz65_7 := blk_frozen BK159.out 7
                      have hfz65_8 := blk_frozen BK159.out 8
                      go_wp2
                      go_ret
                      exact ⟨by first | rfl | (simp [errW_none, errW_some] <;> rfl) | (simp [*, errW_none, errW_some] <;> rfl), by repeat (first | (with_reducible first | exact HB.out | apply below_alloc | apply pw_below_drewN | apply below_drew1 | refine below_set ?_ GE159.out) | exact HB.out)⟩
                    · rw [if_neg c64] at H
                      have c64b0 : (a0_2 == 0) = false := beq_eq_false_iff_ne.mpr c64
                      have c64b1 : (a0_2 != 0) = true := bne_iff_ne.mpr c64
                      obtain rfl := Option.some.inj H
                      have hcz66_0 : wc.cell? ⟨gb159, 0, none⟩ = some (.int .u8 a0_0) := (blk_cell BK159.out 0).trans rfl
                      have hcz66_1 : wc.cell? ⟨gb159, 1, none⟩ = some (.int .i64 a0_1) := (blk_cell BK159.out 1).trans rfl
                      have hcz66_2 : wc.cell? ⟨gb159, 2, none⟩ = some (.int .u8 a0_2) := (blk_cell BK159.out 2).trans rfl
                      have hcz66_3 : wc.cell? ⟨gb159, 3, none⟩ = some (.int .u32 a0_3) := (blk_cell BK159.out 3).trans rfl
                      have hcz66_4 : wc.cell? ⟨gb159, 4, none⟩ = some (.bool a0_4) := (blk_cell BK159.out 4).trans rfl
                      have hcz66_5 : wc.cell? ⟨gb159, 5, none⟩ = some (.int .u8 a0_5) := (blk_cell BK159.out 5).trans rfl
                      have hcz66_6 : wc.cell? ⟨gb159, 6, none⟩ = some (.int .u8 a0_6) := (blk_cell BK159.out 6).trans rfl
                      have hcz66_7 : wc.cell? ⟨gb159, 7, none⟩ = some (.slice A0_7 l0_7.length c0_7) := (blk_cell BK159.out 7).trans rfl
                      have hcz66_8 : wc.cell? ⟨gb159, 8, none⟩ = some (.slice A0_8 l0_8.length c0_8) := (blk_cell BK159.out 8).trans rfl
                      have hfz66_0 := blk_frozen BK159.out 0
                      have hfz66_1 := blk_frozen BK159.out 1
                      have hfz66_2 := blk_frozen BK159.out 2
                      have hfz66_3 := blk_frozen BK159.out 3
                      have hfz66_4 := blk_frozen BK159.out 4
                      have hfz66_5 := blk_frozen BK159.out 5
                      have hfz66_6 := blk_frozen BK159.out 6
                      have hfz66_7 := blk_frozen BK159.out 7
                      have hfz66_8 := blk_frozen BK159.out 8
                      go_wp2
                      go_ret
                      exact ⟨by first | rfl | (simp [errW_none, errW_some] <;> rfl) | (simp [*, errW_none, errW_some] <;> rfl), by repeat (first | (with_reducible first | exact HB.out | apply below_alloc | apply pw_below_drewN | apply below_drew1 | refine below_set ?_ GE159.out) | exact HB.out)⟩
                  · rw [if_neg c63] at H
                    have c63b0 : (a0_1 == 0) = false := beq_eq_false_iff_ne.mpr c63
                    have c63b1 : (a0_1 != 0) = true := bne_iff_ne.mpr c63
                    obtain rfl := Option.some.inj H
                    have hcz67_0 : wc.cell? ⟨gb159, 0, none⟩ = some (.int .u8 a0_0) := (blk_cell BK159.out 0).trans rfl
                    have hcz67_1 : wc.cell? ⟨gb159, 1, none⟩ = some (.int .i64 a0_1) := (blk_cell BK159.out 1).trans rfl
                    have hcz67_2 : wc.cell? ⟨gb159, 2, none⟩ = some (.int .u8 a0_2) := (blk_cell BK159.out 2).trans rfl
                    have hcz67_3 : wc.cell? ⟨gb159, 3, none⟩ = some (.int .u32 a0_3) := (blk_cell BK159.out 3).trans rfl
                    have hcz67_4 : wc.cell? ⟨gb159, 4, none⟩ = some (.bool a0_4) := (blk_cell BK159.out 4).trans rfl
                    have hcz67_5 : wc.cell? ⟨gb159, 5, none⟩ = some (.int .u8 a0_5) := (blk_cell BK159.out 5).trans rfl
                    have hcz67_6 : wc.cell? ⟨gb159, 6, none⟩ = some (.int .u8 a0_6) := (blk_cell BK159.out 6).trans rfl
                    have hcz67_7 : wc.cell? ⟨gb159, 7, none⟩ = some (.slice A0_7 l0_7.length c0_7) := (blk_cell BK159.out 7).trans rfl
                    have hcz67_8 : wc.cell? ⟨gb159, 8, none⟩ = some (.slice A0_8 l0_8.length c0_8) := (blk_cell BK159.out 8).trans rfl
                    have hfz67_0 := blk_frozen BK159.out 0
                    have hfz67_1 := blk_frozen BK159.out 1
                    have hfz67_2 := blk_frozen BK159.out 2
                    have hfz67_3 := blk_frozen BK159.out 3
                    have hfz67_4 := blk_frozen BK159.out 4
                    have hfz67_5 := blk_frozen BK159.out 5
                    have hfz67_6 := blk_frozen BK159.out 6
                    have hfz67_7 := blk_frozen BK159.out 7
                    have hfz67_8 := blk_frozen BK159.out 8
                    go_wp2
                    go_ret
                    exact ⟨by first | rfl | (simp [errW_none, errW_some] <;> rfl) | (simp [*, errW_none, errW_some] <;> rfl), by repeat (first | (with_reducible first | exact HB.out | apply below_alloc | apply pw_below_drewN | apply below_drew1 | refine below_set ?_ GE159.out) | exact HB.out)⟩
                · replace c62 := Bool.eq_false_iff.mpr c62
                  subst c62
                  have H1 : (some false) = some r := by rw [if_neg (show ¬ (false = true) by decide)] at H; exact H
                  clear H
                  have H := H1
                  clear H1
                  obtain rfl := Option.some.inj H
                  go_wp2
                  go_ret
                  exact ⟨by first | rfl | (simp [errW_none, errW_some] <;> rfl) | (simp [*, errW_none, errW_some] <;> rfl), by repeat (first | (with_reducible first | exact HB.out | apply below_alloc | apply pw_below_drewN | apply below_drew1 | refine below_set ?_ GE159.out) | exact HB.out)⟩
              · replace c61 := Bool.eq_false_iff.mpr c61
                subst c61
                have H1 : (if a0_0 = 17 then (if a0_1 = 1 then (if x3_1 = true then (if a0_2 = 0 then (some (a0_3 == 0)) else (some false)) else (some false)) else (if a0_1 = 2 then (if x3_1 = true then (if a0_2 > 0 then (if a0_3 = 0 then (some true) else (some t160)) else (some false)) else (some false)) else (if a0_1 = 3 then (if a0_5 < 8 then (if (l0_7.length : Int) ≤ 64 then (if t160 = true then (some true) else (if a0_3 = 0 then (some ((l0_7.length : Int) == 0)) else (some false))) else (some false)) else (some false)) else (some false)))) else (some false)) = some r := by rw [if_neg (show ¬ (false = true) by decide)] at H; exact H
                clear H
                have H := H1
                clear H1
                by_cases c68 : a0_0 = 17
                · rw [if_pos c68] at H
                  have c68b0 : (a0_0 == 17) = true := beq_iff_eq.mpr c68
                  have c68b1 : (a0_0 != 17) = false := bne_eq_false_iff_eq.mpr c68
                  clear c68
                  by_cases c69 : a0_1 = 1
                  · rw [if_pos c69] at H
                    have c69b0 : (a0_1 == 1) = true := beq_iff_eq.mpr c69
                    have c69b1 : (a0_1 != 1) = false := bne_eq_false_iff_eq.mpr c69
                    clear c69
                    by_cases c70 : x3_1 = true
                    · subst c70
                      have H1 : (if a0_2 = 0 then (some (a0_3 == 0)) else (some false)) = some r := by rw [if_pos rfl] at H; exact H
                      clear H
                      have H := H1
                      clear H1
                      by_cases c71 : a0_2 = 0
                      · rw [if_pos c71] at H
                        have c71b0 : (a0_2 == 0) = true := beq_iff_eq.mpr c71
                        have c71b1 : (a0_2 != 0) = false := bne_eq_false_iff_eq.mpr c71
                        clear c71
                        obtain rfl := Option.some.inj H
                        have hcz72_0 : wc.cell? ⟨gb159, 0, none⟩ = some (.int .u8 a0_0) := (blk_cell BK159.out 0).trans rfl
                        have hcz72_1 : wc.cell? ⟨gb159, 1, none⟩ = some (.int .i64 a0_1) := (blk_cell BK159.out 1).trans rfl
                        have hcz72_2 : wc.cell? ⟨gb159, 2, none⟩ = some (.int .u8 a0_2) := (blk_cell BK159.out 2).trans rfl
                        have hcz72_3 : wc.cell? ⟨gb159, 3, none⟩ = some (.int .u32 a0_3) := (blk_cell BK159.out 3).trans rfl
                        have hcz72_4 : wc.cell? ⟨gb159, 4, none⟩ = some (.bool a0_4) := (blk_cell BK159.out 4).trans rfl
                        have hcz72_5 : wc.cell? ⟨gb159, 5, none⟩ = some (.int .u8 a0_5) := (blk_cell BK159.out 5).trans rfl
                        have hcz72_6 : wc.cell? ⟨gb159, 6, none⟩ = some (.int .u8 a0_6) := (blk_cell BK159.out 6).trans rfl
                        have hcz72_7 : wc.cell? ⟨gb159, 7, none⟩ = some (.slice A0_7 l0_7.length c0_7) := (blk_cell BK159.out 7).trans rfl
                        have hcz72_8 : wc.cell? ⟨gb159, 8, none⟩ = some (.slice A0_8 l0_8.length c0_8) := (blk_cell BK159.out 8).trans rfl
                        have hfz72_0 := blk_frozen BK159.out 0
                        have hfz72_1 := blk_frozen BK159.out 1
                        have hfz72_2 := blk_frozen BK159.out 2
                        have hfz72_3 := blk_frozen BK159.out 3
                        have hfz72_4 := blk_frozen BK159.out 4
                        have hfz72_5 := blk_frozen BK159.out 5
                        have hfz72_6 := blk_frozen BK159.out 6
                        have hfz72_7 := blk_frozen BK159.out 7
                        have hfz72_8 := blk_frozen BK159.out 8
                        go_wp2
                        go_ret
                        exact ⟨by first | rfl | (simp [errW_none, errW_some] <;> rfl) | (simp [*, errW_none, errW_some] <;> rfl), by repeat (first | (with_reducible first | exact HB.out | apply below_alloc | apply pw_below_drewN | apply below_drew1 | refine below_set ?_ GE159.out) | exact HB.out)⟩
                      · rw [if_neg c71] at H
                        have c71b0 : (a0_2 == 0) = false := beq_eq_false_iff_ne.mpr c71
                        have c71b1 : (a0_2 != 0) = true := bne_iff_ne.mpr c71
                        obtain rfl := Option.some.inj H
                        have hcz73_0 : wc.cell? ⟨gb159, 0, none⟩ = some (.int .u8 a0_0) := (blk_cell BK159.out 0).trans rfl
                        have hcz73_1 : wc.cell? ⟨gb159, 1, none⟩ = some (.int .i64 a0_1) := (blk_cell BK159.out 1).trans rfl
                        have hcz73_2 : wc.cell? ⟨gb159, 2, none⟩ = some (.int .u8 a0_2) := (blk_cell BK159.out 2).trans rfl
                        have hcz73_3 : wc.cell? ⟨gb159, 3, none⟩ = some (.int .u32 a0_3) := (blk_cell BK159.out 3).trans rfl
                        have hcz73_4 : wc.cell? ⟨gb159, 4, none⟩ = some (.bool a0_4) := (blk_cell BK159.out 4).trans rfl
                        have hcz73_5 : wc.cell? ⟨gb159, 5, none⟩ = some (.int .u8 a0_5) := (blk_cell BK159.out 5).trans rfl
                        have hcz73_6 : wc.cell? ⟨gb159, 6, none⟩ = some (.int .u8 a0_6) := (blk_cell BK159.out 6).trans rfl
                        have hcz73_7 : wc.cell? ⟨gb159, 7, none⟩ = some (.slice A0_7 l0_7.length c0_7) := (blk_cell BK159.out 7).trans rfl
                        have hcz73_8 : wc.cell? ⟨gb159, 8, none⟩ = some (.slice A0_8 l0_8.length c0_8) := (blk_cell BK159.out 8).trans rfl
                        have hfz73_0 := blk_frozen BK159.out 0
                        have hfz73_1 := blk_frozen BK159.out 1
                        have hfz73_2 := blk_frozen BK159.out 2
                        have hfz73_3 := blk_frozen BK159.out 3
                        have hfz73_4 := blk_frozen BK159.out 4
                        have hfz73_5 := blk_frozen BK159.out 5
                        have hfz73_6 := blk_frozen BK159.out 6
                        have hfz73_7 := blk_frozen BK159.out 7
                        have hfz73_8 := blk_frozen BK159.out 8
                        go_wp2
                        go_ret
                        exact ⟨by first | rfl | (simp [errW_none, errW_some] <;> rfl) | (simp [*, errW_none, errW_some] <;> rfl), by repeat (first | (with_reducible first | exact HB.out | apply below_alloc | apply pw_below_drewN | apply below_drew1 | refine below_set ?_ GE159.out) | exact HB.out)⟩
                    · replace c70 := Bool.eq_false_iff.mpr c70
                      subst c70
                      have H1 : (some false) = some r := by rw [if_neg (show ¬ (false = true) by decide)] at H; exact H
                      clear H
                      have H := H1
                      clear H1
                      obtain rfl := Option.some.inj H
                      have hcz74_0 : wc.cell? ⟨gb159, 0, none⟩ = some (.int .u8 a0_0) := (blk_cell BK159.out 0).trans rfl
                      have hcz74_1 : wc.cell? ⟨gb159, 1, none⟩ = some (.int .i64 a0_1) := (blk_cell BK159.out 1).trans rfl
                      have hcz74_2 : wc.cell? ⟨gb159, 2, none⟩ = some (.int .u8 a0_2) := (blk_cell BK159.out 2).trans rfl
                      have hcz74_3 : wc.cell? ⟨gb159, 3, none⟩ = some (.int .u32 a0_3) := (blk_cell BK159.out 3).trans rfl
                      have hcz74_4 : wc.cell? ⟨gb159, 4, none⟩ = some (.bool a0_4) := (blk_cell BK159.out 4).trans rfl
                      have hcz74_5 : wc.cell? ⟨gb159, 5, none⟩ = some (.int .u8 a0_5) := (blk_cell BK159.out 5).trans rfl
                      have hcz74_6 : wc.cell? ⟨gb159, 6, none⟩ = some (.int .u8 a0_6) := (blk_cell BK159.out 6).trans rfl
                      have hcz74_7 : wc.cell? ⟨gb159, 7, none⟩ = some (.slice A0_7 l0_7.length c0_7) := (blk_cell BK159.out 7).trans rfl
                      have hcz74_8 : wc.cell? ⟨gb159, 8, none⟩ = some (.slice A0_8 l0_8.length c0_8) := (blk_cell BK159.out 8).trans rfl
                      have hfz74_0 := blk_frozen BK159.out 0
                      have hfz74_1 := blk_frozen BK159.out 1
                      have hfz74_2 := blk_frozen BK159.out 2
                      have hfz74_3 := blk_frozen BK159.out 3
                      have hfz74_4 := blk_frozen BK159.out 4
                      have hfz74_5 := blk_frozen BK159.out 5
                      have hfz74_6 := blk_frozen BK159.out 6
                      have hfz74_7 := blk_frozen BK159.out 7
                      have hfz74_8 := blk_frozen BK159.out 8
                      go_wp2
                      go_ret
                      exact ⟨by first | rfl | (simp [errW_none, errW_some] <;> rfl) | (simp [*, errW_none, errW_some] <;> rfl), by repeat (first | (with_reducible first | exact HB.out | apply below_alloc | apply pw_below_drewN | apply below_drew1 | refine below_set ?_ GE159.out) | exact HB.out)⟩
                  · rw [if_neg c69] at H
                    have c69b0 : (a0_1 == 1) = false := beq_eq_false_iff_ne.mpr c69
                    have c69b1 : (a0_1 != 1) = true := bne_iff_ne.mpr c69
                    by_cases c75 : a0_1 = 2
                    · rw [if_pos c75] at H
                      have c75b0 : (a0_1 == 2) = true := beq_iff_eq.mpr c75
                      have c75b1 : (a0_1 != 2) = false := bne_eq_false_iff_eq.mpr c75
                      clear c75
                      by_cases c76 : x3_1 = true
                      · subst c76
                        have H1 : (if a0_2 > 0 then (if a0_3 = 0 then (some true) else (some t160)) else (some false)) = some r := by rw [if_pos rfl] at H; exact H
                        clear H
                        have H := H1
                        clear H1
                        by_cases c77 : a0_2 > 0
                        · rw [if_pos c77] at H
                          have c77b0 : decide (0 < a0_2) = true := decide_eq_true c77
                          clear c77
                          by_cases c78 : a0_3 = 0
                          · rw [if_pos c78] at H
                            have c78b0 : (a0_3 == 0) = true := beq_iff_eq.mpr c78
                            have c78b1 : (a0_3 != 0) = false := bne_eq_false_iff_eq.mpr c78
                            clear c78
                            obtain rfl := Option.some.inj H
                            have hcz79_0 : wc.cell? ⟨gb159, 0, none⟩ = some (.int .u8 a0_0) := (blk_cell BK159.out 0).trans rfl
                            have hcz79_1 : wc.cell? ⟨gb159, 1, none⟩ = some (.int .i64 a0_1) := (blk_cell BK159.out 1).trans rfl
                            have hcz79_2 : wc.cell? ⟨gb159, 2, none⟩ = some (.int .u8 a0_2) := (blk_cell BK159.out 2).trans rfl
                            have hcz79_3 : wc.cell? ⟨gb159, 3, none⟩ = some (.int .u32 a0_3) := (blk_cell BK159.out 3).trans rfl
                            have hcz79_4 : wc.cell? ⟨gb159, 4, none⟩ = some (.bool a0_4) := (blk_cell BK159.out 4).trans rfl
                            have hcz79_5 : wc.cell? ⟨gb159, 5, none⟩ = some (.int .u8 a0_5) := (blk_cell BK159.out 5).trans rfl
                            have hcz79_6 : wc.cell? ⟨gb159, 6, none⟩ = some (.int .u8 a0_6) := (blk_cell BK159.out 6).trans rfl
                            have hcz79_7 : wc.cell? ⟨gb159, 7, none⟩ = some (.slice A0_7 l0_7.length c0_7) := (blk_cell BK159.out 7).trans rfl
                            have hcz79_8 : wc.cell? ⟨gb159, 8, none⟩ = some (.slice A0_8 l0_8.length c0_8) := (blk_cell BK159.out 8).trans rfl
                            have hfz79_0 := blk_frozen BK159.out 0
                            have hfz79_1 := blk_frozen BK159.out 1
                            have hfz79_2 := blk_frozen BK159.out 2
                            have hfz79_3 := blk_frozen BK159.out 3
                            have hfz79_4 := blk_frozen BK159.out 4
                            have hfz79_5 := blk_frozen BK159.out 5
                            have hfz79_6 := blk_frozen BK159.out 6
                            have hfz79_7 := blk_frozen BK159.out 7
                            have hfz79_8 := blk_frozen BK159.out 8
                            go_wp2
                            go_ret
                            exact ⟨by first | rfl | (simp [errW_none, errW_some] <;> rfl) | (simp [*, errW_none, errW_some] <;> rfl), by repeat (first | (with_reducible first | exact HB.out | apply below_alloc | apply pw_below_drewN | apply below_drew1 | refine below_set ?_ GE159.out) | exact HB.out)⟩
                          · rw [if_neg c78] at H
                            have c78b0 : (a0_3 == 0) = false := beq_eq_false_iff_ne.mpr c78
                            have c78b1 : (a0_3 != 0) = true := bne_iff_ne.mpr c78
                            obtain rfl := Option.some.inj H
                            have hcz80_0 : wc.cell? ⟨gb159, 0, none⟩ = some (.int .u8 a0_0) := (blk_cell BK159.out 0).trans rfl
                            have hcz80_1 : wc.cell? ⟨gb159, 1, none⟩ = some (.int .i64 a0_1) := (blk_cell BK159.out 1).trans rfl
                            have hcz80_2 : wc.cell? ⟨gb159, 2, none⟩ = some (.int .u8 a0_2) := (blk_cell BK159.out 2).trans rfl
                            have hcz80_3 : wc.cell? ⟨gb159, 3, none⟩ = some (.int .u32 a0_3) := (blk_cell BK159.out 3).trans rfl
                            have hcz80_4 : wc.cell? ⟨gb159, 4, none⟩ = some (.bool a0_4) := (blk_cell BK159.out 4).trans rfl
                            have hcz80_5 : wc.cell? ⟨gb159, 5, none⟩ = some (.int .u8 a0_5) := (blk_cell BK159.out 5).trans rfl
                            have hcz80_6 : wc.cell? ⟨gb159, 6, none⟩ = some (.int .u8 a0_6) := (blk_cell BK159.out 6).trans rfl
                            have hcz80_7 : wc.cell? ⟨gb159, 7, none⟩ = some (.slice A0_7 l0_7.length c0_7) := (blk_cell BK159.out 7).trans rfl
                            have hcz80_8 : wc.cell? ⟨gb159, 8, none⟩ = some (.slice A0_8 l0_8.length c0_8) := (blk_cell BK159.out 8).trans rfl
                            have hfz80_0 := blk_frozen BK159.out 0
                            have hfz80_1 := blk_frozen BK159.out 1
                            have hfz80_2 := blk_frozen BK159.out 2
                            have hfz80_3 := blk_frozen BK159.out 3
                            have hfz80_4 := blk_frozen BK159.out 4
                            have hfz80_5 := blk_frozen BK159.out 5
                            have hfz80_6 := blk_frozen BK159.out 6
                            have hfz80_7 := blk_frozen BK159.out 7
                            have hfz80_8 := blk_frozen BK159.out 8
                            go_wp2
                            go_ret
                            exact ⟨by first | rfl | (simp [errW_none, errW_some] <;> rfl) | (simp [*, errW_none, errW_some] <;> rfl), by repeat (first | (with_reducible first | exact HB.out | apply below_alloc | apply pw_below_drewN | apply below_drew1 | refine below_set ?_ GE159.out) | exact HB.out)⟩
                        · rw [if_neg c77] at H
                          have c77b0 : decide (0 < a0_2) = false := decide_eq_false c77
                          clear c77
                          obtain rfl := Option.some.inj H
                          have hcz81_0 : wc.cell? ⟨gb159, 0, none⟩ = some (.int .u8 a0_0) := (blk_cell BK159.out 0).trans rfl
                          have hcz81_1 : wc.cell? ⟨gb159, 1, none⟩ = some (.int .i64 a0_1) := (blk_cell BK159.out 1).trans rfl
                          have hcz81_2 : wc.cell? ⟨gb159, 2, none⟩ = some (.int .u8 a0_2) := (blk_cell BK159.out 2).trans rfl
                          have hcz81_3 : wc.cell? ⟨gb159, 3, none⟩ = some (.int .u32 a0_3) := (blk_cell BK159.out 3).trans rfl
                          have hcz81_4 : wc.cell? ⟨gb159, 4, none⟩ = some (.bool a0_4) := (blk_cell BK159.out 4).trans rfl
                          have hcz81_5 : wc.cell? ⟨gb159, 5, none⟩ = some (.int .u8 a0_5) := (blk_cell BK159.out 5).trans rfl
                          have hcz81_6 : wc.cell? ⟨gb159, 6, none⟩ = some (.int .u8 a0_6) := (blk_cell BK159.out 6).trans rfl
                          have hcz81_7 : wc.cell? ⟨gb159, 7, none⟩ = some (.slice A0_7 l0_7.length c0_7) := (blk_cell BK159.out 7).trans rfl
                          have hcz81_8 : wc.cell? ⟨gb159, 8, none⟩ = some (.slice A0_8 l0_8.length c0_8) := (blk_cell BK159.out 8).trans rfl
                          have hfz81_0 := blk_frozen BK159.out 0
                          have hfz81_1 := blk_frozen BK159.out 1
                          have hfz81_2 := blk_frozen BK159.out 2
                          have hfz81_3 := blk_frozen BK159.out 3
                          have hfz81_4 := blk_frozen BK159.out 4
                          have hfz81_5 := blk_frozen BK159.out 5
                          have hfz81_6 := blk_frozen BK159.out 6
                          have hfz81_7 := blk_frozen BK159.out 7
                          have hfz81_8 := blk_frozen BK159.out 8
                          go_wp2
                          go_ret
                          exact ⟨by first | rfl | (simp [errW_none, errW_some] <;> rfl) | (simp [*, errW_none, errW_some] <;> rfl), by repeat (first | (with_reducible first | exact HB.out | apply below_alloc | apply pw_below_drewN | apply below_drew1 | refine below_set ?_ GE159.out) | exact HB.out)⟩
                      · replace c76 := Bool.eq_false_iff.mpr c76
                        subst c76
                        have H1 : (some false) = some r := by rw [if_neg (show ¬ (false = true) by decide)] at H; exact H
                        clear H
                        have H := H1
                        clear H1
                        obtain rfl := Option.some.inj H
                        have hcz82_0 : wc.cell? ⟨gb159, 0, none⟩ = some (.int .u8 a0_0) := (blk_cell BK159.out 0).trans rfl
                        have hcz82_1 : wc.cell? ⟨gb159, 1, none⟩ = some (.int .i64 a0_1) := (blk_cell BK159.out 1).trans rfl
                        have hcz82_2 : wc.cell? ⟨gb159, 2, none⟩ = some (.int .u8 a0_2) := (blk_cell BK159.out 2).trans rfl
                        have hcz82_3 : wc.cell? ⟨gb159, 3, none⟩ = some (.int .u32 a0_3) := (blk_cell BK159.out 3).trans rfl
                        have hcz82_4 : wc.cell? ⟨gb159, 4, none⟩ = some (.bool a0_4) := (blk_cell BK159.out 4).trans rfl
                        have hcz82_5 : wc.cell? ⟨gb159, 5, none⟩ = some (.int .u8 a0_5) := (blk_cell BK159.out 5).trans rfl
                        have hcz82_6 : wc.cell? ⟨gb159, 6, none⟩ = some (.int .u8 a0_6) := (blk_cell BK159.out 6).trans rfl
                        have hcz82_7 : wc.cell? ⟨gb159, 7, none⟩ = some (.slice A0_7 l0_7.length c0_7) := (blk_cell BK159.out 7).trans rfl
                        have hcz82_8 : wc.cell? ⟨gb159, 8, none⟩ = some (.slice A0_8 l0_8.length c0_8) := (blk_cell BK159.out 8).trans rfl
                        have hfz82_0 := blk_frozen BK159.out 0
                        have hfz82_1 := blk_frozen BK159.out 1
                        have hfz82_2 := blk_frozen BK159.out 2
                        have hfz82_3 := blk_frozen BK159.out 3
                        have hfz82_4 := blk_frozen BK159.out 4
                        have hfz82_5 := blk_frozen BK159.out 5
                        have hfz82_6 := blk_frozen BK159.out 6
                        have hfz82_7 := blk_frozen BK159.out 7
                        have hfz82_8 := blk_frozen BK159.out 8
                        go_wp2
                        go_ret
                        exact ⟨by first | rfl | (simp [errW_none, errW_some] <;> rfl) | (simp [*, errW_none, errW_some] <;> rfl), by repeat (first | (with_reducible first | exact HB.out | apply below_alloc | apply pw_below_drewN | apply below_drew1 | refine below_set ?_ GE159.out) | exact HB.out)⟩
                    · rw [if_neg c75] at H
                      have c75b0 : (a0_1 == 2) = false := beq_eq_false_iff_ne.mpr c75
                      have c75b1 : (a0_1 != 2) = true := bne_iff_ne.mpr c75
                      by_cases c83 : a0_1 = 3
                      · rw [if_pos c83] at H
                        have c83b0 : (a0_1 == 3) = true := beq_iff_eq.mpr c83
                        have c83b1 : (a0_1 != 3) = false := bne_eq_false_iff_eq.mpr c83
                        clear c83
                        by_cases c84 : a0_5 < 8
                        · rw [if_pos c84] at H
                          have c84b0 : decide (a0_5 < 8) = true := decide_eq_true c84
                          clear c84
                          by_cases c85 : (l0_7.length : Int) ≤ 64
                          · rw [if_pos c85] at H
                            have c85b0 : decide ((l0_7.length : Int) ≤ 64) = true := decide_eq_true c85
                            have c85b1 : decide (l0_7.length ≤ 64) = true := decide_eq_true (by omega)
                            clear c85
                            by_cases c86 : t160 = true
                            · subst c86
                              have H1 : (some true) = some r := by rw [if_pos rfl] at H; exact H
                              clear H
                              have H := H1
                              clear H1
                              obtain rfl := Option.some.inj H
                              have hcz87_0 : wc.cell? ⟨gb159, 0, none⟩ = some (.int .u8 a0_0) := (blk_cell BK159.out 0).trans rfl
                              have hcz87_1 : wc.cell? ⟨gb159, 1, none⟩ = some (.int .i64 a0_1) := (blk_cell BK159.out 1).trans rfl
                              have hcz87_2 : wc.cell? ⟨gb159, 2, none⟩ = some (.int .u8 a0_2) := (blk_cell BK159.out 2).trans rfl
                              have hcz87_3 : wc.cell? ⟨gb159, 3, none⟩ = some (.int .u32 a0_3) := (blk_cell BK159.out 3).trans rfl
                              have hcz87_4 : wc.cell? ⟨gb159, 4, none⟩ = some (.bool a0_4) := (blk_cell BK159.out 4).trans rfl
                              have hcz87_5 : wc.cell? ⟨gb159, 5, none⟩ = some (.int .u8 a0_5) := (blk_cell BK159.out 5).trans rfl
                              have hcz87_6 : wc.cell? ⟨gb159, 6, none⟩ = some (.int .u8 a0_6) := (blk_cell BK159.out 6).trans rfl
                              have hcz87_7 : wc.cell? ⟨gb159, 7, none⟩ = some (.slice A0_7 l0_7.length c0_7) := (blk_cell BK159.out 7).trans rfl
                              have hcz87_8 : wc.cell? ⟨gb159, 8, none⟩ = some (.slice A0_8 l0_8.length c0_8) := (blk_cell BK159.out 8).trans rfl
                              have hfz87_0 := blk_frozen BK159.out 0
                              have hfz87_1 := blk_frozen BK159.out 1
                              have hfz87_2 := blk_frozen BK159.out 2
                              have hfz87_3 := blk_frozen BK159.out 3
                              have hfz87_4 := blk_frozen BK159.out 4
                              have hfz87_5 := blk_frozen BK159.out 5
                              have hfz87_6 := blk_frozen BK159.out 6
                              have hfz87_7 := blk_frozen BK159.out 7
                              have hfz87_8 := blk_frozen BK159.out 8
                              go_wp2
                              go_ret
                              exact ⟨by first | rfl | (simp [errW_none, errW_some] <;> rfl) | (simp [*, errW_none, errW_some] <;> rfl), by repeat (first | (with_reducible first | exact HB.out | apply below_alloc | apply pw_below_drewN | apply below_drew1 | refine below_set ?_ GE159.out) | exact HB.out)⟩
                            · replace c86 := Bool.eq_false_iff.mpr c86
                              subst c86
                              have H1 : (if a0_3 = 0 then (some ((l0_7.length : Int) == 0)) else (some false)) = some r := by rw [if_neg (show ¬ (false = true) by decide)] at H; exact H
                              clear H
                              have H := H1
                              clear H1
                              by_cases c88 : a0_3 = 0
                              · rw [if_pos c88] at H
                                have c88b0 : (a0_3 == 0) = true := beq_iff_eq.mpr c88
                                have c88b1 : (a0_3 != 0) = false := bne_eq_false_iff_eq.mpr c88
                                clear c88
                                obtain rfl := Option.some.inj H
                                have hcz89_0 : wc.cell? ⟨gb159, 0, none⟩ = some (.int .u8 a0_0) := (blk_cell BK159.out 0).trans rfl
                                have hcz89_1 : wc.cell? ⟨gb159, 1, none⟩ = some (.int .i64 a0_1) := (blk_cell BK159.out 1).trans rfl
                                have hcz89_2 : wc.cell? ⟨gb159, 2, none⟩ = some (.int .u8 a0_2) := (blk_cell BK159.out 2).trans rfl
                                have hcz89_3 : wc.cell? ⟨gb159, 3, none⟩ = some (.int .u32 a0_3) := (blk_cell BK159.out 3).trans rfl
                                have hcz89_4 : wc.cell? ⟨gb159, 4, none⟩ = some (.bool a0_4) := (blk_cell BK159.out 4).trans rfl
                                have hcz89_5 : wc.cell? ⟨gb159, 5, none⟩ = some (.int .u8 a0_5) := (blk_cell BK159.out 5).trans rfl
                                have hcz89_6 : wc.cell? ⟨gb159, 6, none⟩ = some (.int .u8 a0_6) := (blk_cell BK159.out 6).trans rfl
                                have hcz89_7 : wc.cell? ⟨gb159, 7, none⟩ = some (.slice A0_7 l0_7.length c0_7) := (blk_cell BK159.out 7).trans rfl
                                have hcz89_8 : wc.cell? ⟨gb159, 8, none⟩ = some (.slice A0_8 l0_8.length c0_8) := (blk_cell BK159.out 8).trans rfl
                                have hfz89_0 := blk_frozen BK159.out 0
                                have hfz89_1 := blk_frozen BK159.out 1
                                have hfz89_2 := blk_frozen BK159.out 2
                                have hfz89_3 := blk_frozen BK159.out 3
                                have hfz89_4 := blk_frozen BK159.out 4
                                have hfz89_5 := blk_frozen BK159.out 5
                                have hfz89_6 := blk_frozen BK159.out 6
                                have hfz89_7 := blk_frozen BK159.out 7
                                have hfz89_8 := blk_frozen BK159.out 8
                                go_wp2
                                go_ret
                                exact ⟨by first | rfl | (simp [errW_none, errW_some] <;> rfl) | (simp [*, errW_none, errW_some] <;> rfl), by repeat (first | (with_reducible first | exact HB.out | apply below_alloc | apply pw_below_drewN | apply below_drew1 | refine below_set ?_ GE159.out) | exact HB.out)⟩
                              · rw [if_neg c88] at H
                                have c88b0 : (a0_3 == 0) = false := beq_eq_false_iff_ne.mpr c88
                                have c88b1 : (a0_3 != 0) = true := bne_iff_ne.mpr c88
                                obtain rfl := Option.some.inj H
                                have hcz90_0 : wc.cell? ⟨gb159, 0, none⟩ = some (.int .u8 a0_0) := (blk_cell BK159.out 0).trans rfl
                                have hcz90_1 : wc.cell? ⟨gb159, 1, none⟩ = some (.int .i64 a0_1) := (blk_cell BK159.out 1).trans rfl
                                have hcz90_2 : wc.cell? ⟨gb159, 2, none⟩ = some (.int .u8 a0_2) := (blk_cell BK159.out 2).trans rfl
                                have hcz90_3 : wc.cell? ⟨gb159, 3, none⟩ = some (.int .u32 a0_3) := (blk_cell BK159.out 3).trans rfl
                                have hcz90_4 : wc.cell? ⟨gb159, 4, none⟩ = some (.bool a0_4) := (blk_cell BK159.out 4).trans rfl
                                have hcz90_5 : wc.cell? ⟨gb159, 5, none⟩ = some (.int .u8 a0_5) := (blk_cell BK159.out 5).trans rfl
                                have hcz90_6 : wc.cell? ⟨gb159, 6, none⟩ = some (.int .u8 a0_6) := (blk_cell BK159.out 6).trans rfl
                                have hcz90_7 : wc.cell? ⟨gb159, 7, none⟩ = some (.slice A0_7 l0_7.length c0_7) := (blk_cell BK159.out 7).trans rfl
                                have hcz90_8 : wc.cell? ⟨gb159, 8, none⟩ = some (.slice A0_8 l0_8.length c0_8) := (blk_cell BK159.out 8).trans rfl
                                have hfz90_0 := blk_frozen BK159.out 0
                                have hfz90_1 := blk_frozen BK159.out 1
                                have hfz90_2 := blk_frozen BK159.out 2
                                have hfz90_3 := blk_frozen BK159.out 3
                                have hfz90_4 := blk_frozen BK159.out 4
                                have hfz90_5 := blk_frozen BK159.out 5
                                have hfz90_6 := blk_frozen BK159.out 6
                                have hfz90_7 := blk_frozen BK159.out 7
                                have hfz90_8 := blk_frozen BK159.out 8
                                go_wp2
                                go_ret
                                exact ⟨by first | rfl | (simp [errW_none, errW_some] <;> rfl) | (simp [*, errW_none, errW_some] <;> rfl), by repeat (first | (with_reducible first | exact HB.out | apply below_alloc | apply pw_below_drewN | apply below_drew1 | refine below_set ?_ GE159.out) | exact HB.out)⟩
                          · rw [if_neg c85] at H
                            have c85b0 : decide ((l0_7.length : Int) ≤ 64) = false := decide_eq_false c85
                            have c85b1 : decide (l0_7.length ≤ 64) = false := decide_eq_false (by omega)
                            clear c85
                            obtain rfl := Option.some.inj H
                            have hcz91_0 : wc.cell? ⟨gb159, 0, none⟩ = some (.int .u8 a0_0) := (blk_cell BK159.out 0).trans rfl
                            have hcz91_1 : wc.cell? ⟨gb159, 1, none⟩ = some (.int .i64 a0_1) := (blk_cell BK159.out 1).trans rfl
                            have hcz91_2 : wc.cell? ⟨gb159, 2, none⟩ = some (.int .u8 a0_2) := (blk_cell BK159.out 2).trans rfl
                            have hcz91_3 : wc.cell? ⟨gb159, 3, none⟩ = some (.int .u32 a0_3) := (blk_cell BK159.out 3).trans rfl
                            have hcz91_4 : wc.cell? ⟨gb159, 4, none⟩ = some (.bool a0_4) := (blk_cell BK159.out 4).trans rfl
                            have hcz91_5 : wc.cell? ⟨gb159, 5, none⟩ = some (.int .u8 a0_5) := (blk_cell BK159.out 5).trans rfl
                            have hcz91_6 : wc.cell? ⟨gb159, 6, none⟩ = some (.int .u8 a0_6) := (blk_cell BK159.out 6).trans rfl
                            have hcz91_7 : wc.cell? ⟨gb159, 7, none⟩ = some (.slice A0_7 l0_7.length c0_7) := (blk_cell BK159.out 7).trans rfl
                            have hcz91_8 : wc.cell? ⟨gb159, 8, none⟩ = some (.slice A0_8 l0_8.length c0_8) := (blk_cell BK159.out 8).trans rfl
                            have hfz91_0 := blk_frozen BK159.out 0
                            have hfz91_1 := blk_frozen BK159.out 1
                            have hfz91_2 := blk_frozen BK159.out 2
                            have hfz91_3 := blk_frozen BK159.out 3
                            have hfz91_4 := blk_frozen BK159.out 4
                            have hfz91_5 := blk_frozen BK159.out 5
                            have hfz91_6 := blk_frozen BK159.out 6
                            have hfz91_7 := blk_frozen BK159.out 7
                            have hfz91_8 := blk_frozen BK159.out 8
                            go_wp2
                            go_ret
                            exact ⟨by first | rfl | (simp [errW_none, errW_some] <;> rfl) | (simp [*, errW_none, errW_some] <;> rfl), by repeat (first | (with_reducible first | exact HB.out | apply below_alloc | apply pw_below_drewN | apply below_drew1 | refine below_set ?_ GE159.out) | exact HB.out)⟩
                        · rw [if_neg c84] at H
                          have c84b0 : decide (a0_5 < 8) = false := decide_eq_false c84
                          clear c84
                          obtain rfl := Option.some.inj H
                          have hcz92_0 : wc.cell? ⟨gb159, 0, none⟩ = some (.int .u8 a0_0) := (blk_cell BK159.out 0).trans rfl
                          have hcz92_1 : wc.cell? ⟨gb159, 1, none⟩ = some (.int .i64 a0_1) := (blk_cell BK159.out 1).trans rfl
                          have hcz92_2 : wc.cell? ⟨gb159, 2, none⟩ = some (.int .u8 a0_2) := (blk_cell BK159.out 2).trans rfl
                          have hcz92_3 : wc.cell? ⟨gb159, 3, none⟩ = some (.int .u32 a0_3) := (blk_cell BK159.out 3).trans rfl
                          have hcz92_4 : wc.cell? ⟨gb159, 4, none⟩ = some (.bool a0_4) := (blk_cell BK159.out 4).trans rfl
                          have hcz92_5 : wc.cell? ⟨gb159, 5, none⟩ = some (.int .u8 a0_5) := (blk_cell BK159.out 5).trans rfl
                          have hcz92_6 : wc.cell? ⟨gb159, 6, none⟩ = some (.int .u8 a0_6) := (blk_cell BK159.out 6).trans rfl
                          have hcz92_7 : wc.cell? ⟨gb159, 7, none⟩ = some (.slice A0_7 l0_7.length c0_7) := (blk_cell BK159.out 7).trans rfl
                          have hcz92_8 : wc.cell? ⟨gb159, 8, none⟩ = some (.slice A0_8 l0_8.length c0_8) := (blk_cell BK159.out 8).trans rfl
                          have hfz92_0 := blk_frozen BK159.out 0
                          have hfz92_1 := blk_frozen BK159.out 1
                          have hfz92_2 := blk_frozen BK159.out 2
                          have hfz92_3 := blk_frozen BK159.out 3
                          have hfz92_4 := blk_frozen BK159.out 4
                          have hfz92_5 := blk_frozen BK159.out 5
                          have hfz92_6 := blk_frozen BK159.out 6
                          have hfz92_7 := blk_frozen BK159.out 7
                          have hfz92_8 := blk_frozen BK159.out 8
                          go_wp2
                          go_ret
                          exact ⟨by first | rfl | (simp [errW_none, errW_some] <;> rfl) | (simp [*, errW_none, errW_some] <;> rfl), by repeat (first | (with_reducible first | exact HB.out | apply below_alloc | apply pw_below_drewN | apply below_drew1 | refine below_set ?_ GE159.out) | exact HB.out)⟩
                      · rw [if_neg c83] at H
                        have c83b0 : (a0_1 == 3) = false := beq_eq_false_iff_ne.mpr c83
                        have c83b1 : (a0_1 != 3) = true := bne_iff_ne.mpr c83
                        obtain rfl := Option.some.inj H
                        have hcz93_0 : wc.cell? ⟨gb159, 0, none⟩ = some (.int .u8 a0_0) := (blk_cell BK159.out 0).trans rfl
                        have hcz93_1 : wc.cell? ⟨gb159, 1, none⟩ = some (.int .i64 a0_1) := (blk_cell BK159.out 1).trans rfl
                        have hcz93_2 : wc.cell? ⟨gb159, 2, none⟩ = some (.int .u8 a0_2) := (blk_cell BK159.out 2).trans rfl
                        have hcz93_3 : wc.cell? ⟨gb159, 3, none⟩ = some (.int .u32 a0_3) := (blk_cell BK159.out 3).trans rfl
                        have hcz93_4 : wc.cell? ⟨gb159, 4, none⟩ = some (.bool a0_4) := (blk_cell BK159.out 4).trans rfl
                        have hcz93_5 : wc.cell? ⟨gb159, 5, none⟩ = some (.int .u8 a0_5) := (blk_cell BK159.out 5).trans rfl
                        have hcz93_6 : wc.cell? ⟨gb159, 6, none⟩ = some (.int .u8 a0_6) := (blk_cell BK159.out 6).trans rfl
                        have hcz93_7 : wc.cell? ⟨gb159, 7, none⟩ = some (.slice A0_7 l0_7.length c0_7) := (blk_cell BK159.out 7).trans rfl
                        have hcz93_8 : wc.cell? ⟨gb159, 8, none⟩ = some (.slice A0_8 l0_8.length c0_8) := (blk_cell BK159.out 8).trans rfl
                        have hfz93_0 := blk_frozen BK159.out 0
                        have hfz93_1 := blk_frozen BK159.out 1
                        have hfz93_2 := blk_frozen BK159.out 2
                        have hfz93_3 := blk_frozen BK159.out 3
                        have hfz93_4 := blk_frozen BK159.out 4
                        have hfz93_5 := blk_frozen BK159.out 5
                        have hfz93_6 := blk_frozen BK159.out 6
                        have hfz93_7 := blk_frozen BK159.out 7
                        have hfz93_8 := blk_frozen BK159.out 8
                        go_wp2
                        go_ret
                        exact ⟨by first | rfl | (simp [errW_none, errW_some] <;> rfl) | (simp [*, errW_none, errW_some] <;> rfl), by repeat (first | (with_reducible first | exact HB.out | apply below_alloc | apply pw_below_drewN | apply below_drew1 | refine below_set ?_ GE159.out) | exact HB.out)⟩
                · rw [if_neg c68] at H
                  have c68b0 : (a0_0 == 17) = false := beq_eq_false_iff_ne.mpr c68
                  have c68b1 : (a0_0 != 17) = true := bne_iff_ne.mpr c68
                  obtain rfl := Option.some.inj H
                  have hcz94_0 : wc.cell? ⟨gb159, 0, none⟩ = some (.int .u8 a0_0) := (blk_cell BK159.out 0).trans rfl
                  have hcz94_1 : wc.cell? ⟨gb159, 1, none⟩ = some (.int .i64 a0_1) := (blk_cell BK159.out 1).trans rfl
                  have hcz94_2 : wc.cell? ⟨gb159, 2, none⟩ = some (.int .u8 a0_2) := (blk_cell BK159.out 2).trans rfl
                  have hcz94_3 : wc.cell? ⟨gb159, 3, none⟩ = some (.int .u32 a0_3) := (blk_cell BK159.out 3).trans rfl
                  have hcz94_4 : wc.cell? ⟨gb159, 4, none⟩ = some (.bool a0_4) := (blk_cell BK159.out 4).trans rfl
                  have hcz94_5 : wc.cell? ⟨gb159, 5, none⟩ = some (.int .u8 a0_5) := (blk_cell BK159.out 5).trans rfl
                  have hcz94_6 : wc.cell? ⟨gb159, 6, none⟩ = some (.int .u8 a0_6) := (blk_cell BK159.out 6).trans rfl
                  have hcz94_7 : wc.cell? ⟨gb159, 7, none⟩ = some (.slice A0_7 l0_7.length c0_7) := (blk_cell BK159.out 7).trans rfl
                  have hcz94_8 : wc.cell? ⟨gb159, 8, none⟩ = some (.slice A0_8 l0_8.length c0_8) := (blk_cell BK159.out 8).trans rfl
                  have hfz94_0 := blk_frozen BK159.out 0
                  have hfz94_1 := blk_frozen BK159.out 1
                  have hfz94_2 := blk_frozen BK159.out 2
                  have hfz94_3 := blk_frozen BK159.out 3
                  have hfz94_4 := blk_frozen BK159.out 4
                  have hfz94_5 := blk_frozen BK159.out 5
                  have hfz94_6 := blk_frozen BK159.out 6
                  have hfz94_7 := blk_frozen BK159.out 7
                  have hfz94_8 := blk_frozen BK159.out 8
                  go_wp2
                  go_ret
                  exact ⟨by first | rfl | (simp [errW_none, errW_some] <;> rfl) | (simp [*, errW_none, errW_some] <;> rfl), by repeat (first | (with_reducible first | exact HB.out | apply below_alloc | apply pw_below_drewN | apply below_drew1 | refine below_set ?_ GE159.out) | exact HB.out)⟩

end Go.Proofs.Ytmmjmncchckbbaa.PIg
