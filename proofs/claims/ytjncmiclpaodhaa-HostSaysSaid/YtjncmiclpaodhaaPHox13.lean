-- written by a program of this session (hprint.py), over the kit's printer
import Derived.Test.YtjncmiclpaodhaaHoM
import Derived.Test.YtjncmiclpaodhaaPHox1
import Derived.Test.YtjncmiclpaodhaaHoS
namespace Go.Proofs.Ytjncmiclpaodhaa.PHo
open Go.RowKit Go.Proofs.YtjncmiclpaodhaaW.PrintWords Go.Proofs.YtjncmiclpaodhaaW.PrintLast Go.Proofs.YtjncmiclpaodhaaW.PrintMore
attribute [local go_sem] max2_int min2_int max_two min_two max_three min_three max_four min_four   -- for this text's walks alone
set_option linter.unusedVariables false
set_option linter.unusedSimpArgs false

/-! ### stolonlaw07_HostSays: function 3 -/
mutual
def stolonlaw07_HostSays.j0 : Nat → Int → Int → Bool → Bool → Bool → List Int → Bool → List Int → Option (Bool)
  | 0, _, _, _, _, _, _, _, _ => none
  | k + 1, x3, x6, x7, x40, x317000, x317001, x318000, x318001 => if x40 = true then (some x7) else ((host_Change.f x3 x317000 x317001 x318000 x318001).bind fun t321 => ((stolonref06_Wants.f k x317000 x317001 x6).bind fun t324 => (stolonlaw07_HostSays.l0 k x6 x7 t321 t324 0 x318000 x318001)))
def stolonlaw07_HostSays.l0 : Nat → Int → Bool → List (S36) → Bool → Int → Bool → List Int → Option (Bool)
  | 0, _, _, _, _, _, _, _ => none
  | k + 1, x6, x7, x8, x9, x10, x318000, x318001 => if x10 < (x8.length : Int) then (if 0 ≤ x10 then ((stolonref06_Has.f k ((rd_T36 x8 x10).f2) x6).bind fun t327 => (if ((rd_T36 x8 x10).f0) = 3 then (stolonlaw07_HostSays.l0 k x6 x7 x8 t327 (wrap64 (x10 + 1)) x318000 x318001) else (if ((rd_T36 x8 x10).f0) = 4 then (stolonlaw07_HostSays.l0 k x6 x7 x8 (!t327) (wrap64 (x10 + 1)) x318000 x318001) else (if ((rd_T36 x8 x10).f0) = 5 then (if x9 = true then (stolonlaw07_HostSays.l0 k x6 x7 x8 true (wrap64 (x10 + 1)) x318000 x318001) else (stolonlaw07_HostSays.l0 k x6 x7 x8 t327 (wrap64 (x10 + 1)) x318000 x318001)) else (if ((rd_T36 x8 x10).f0) = 6 then (if x9 = true then (stolonlaw07_HostSays.l0 k x6 x7 x8 (!t327) (wrap64 (x10 + 1)) x318000 x318001) else (stolonlaw07_HostSays.l0 k x6 x7 x8 false (wrap64 (x10 + 1)) x318000 x318001)) else (some false)))))) else (none)) else (if x7 = true then (if (x8.length : Int) ≤ 2 then ((stolonref06_Wants.f k x318000 x318001 x6).bind fun t325 => (some (x9 == t325))) else (some false)) else (some false))
end
def stolonlaw07_HostSays.f (k : Nat) (a0_0 : Int) (a0_1 : Bool) (l0_2 : List Int) (a0_3 : Bool) (l0_4 : List Int) (a0_5 : Int) : Option (Bool) := (stolonlaw07_shown.f).bind fun t318 => (if (wrap64 ((l0_2.length : Int) + (l0_4.length : Int))) > 100 then (stolonlaw07_HostSays.j0 k a0_0 a0_5 t318 true a0_1 l0_2 a0_3 l0_4) else ((stolonref06_Right.f k l0_2).bind fun t319 => (if t319 = true then ((stolonref06_Right.f k l0_4).bind fun t320 => (stolonlaw07_HostSays.j0 k a0_0 a0_5 t318 (!t320) a0_1 l0_2 a0_3 l0_4)) else (stolonlaw07_HostSays.j0 k a0_0 a0_5 t318 true a0_1 l0_2 a0_3 l0_4))))
theorem stolonlaw07_HostSays.mono_l : ∀ k, (∀ y0 y1 y2 y3 y4 y5 y6 y7, LeO (stolonlaw07_HostSays.j0 k y0 y1 y2 y3 y4 y5 y6 y7) (stolonlaw07_HostSays.j0 (k + 1) y0 y1 y2 y3 y4 y5 y6 y7)) ∧ (∀ y0 y1 y2 y3 y4 y5 y6, LeO (stolonlaw07_HostSays.l0 k y0 y1 y2 y3 y4 y5 y6) (stolonlaw07_HostSays.l0 (k + 1) y0 y1 y2 y3 y4 y5 y6))
  | 0 => ⟨fun _ _ _ _ _ _ _ _ r h => by simp [stolonlaw07_HostSays.j0] at h, fun _ _ _ _ _ _ _ r h => by simp [stolonlaw07_HostSays.l0] at h⟩
  | k + 1 => by
    obtain ⟨ih0, ih1⟩ := stolonlaw07_HostSays.mono_l k
    refine ⟨?_, ?_⟩
    · intro y0 y1 y2 y3 y4 y5 y6 y7
      unfold stolonlaw07_HostSays.j0
      repeat' first
      | (with_reducible exact ih0 _ _ _ _ _ _ _ _)
      | (with_reducible exact ih1 _ _ _ _ _ _ _)
      | (with_reducible exact stolonref06_Has.mono _ _ _)
      | (with_reducible exact stolonref06_Right.mono _ _)
      | (with_reducible exact stolonref06_Wants.mono _ _ _ _)
      | (with_reducible exact LeO.refl _)
      | (with_reducible exact LeO.none _)
      | (with_reducible refine LeO.ite ?_ ?_)
      | (with_reducible refine LeO.bind ?_ (fun _ => ?_))
      | exact ih0 _ _ _ _ _ _ _ _
      | exact ih1 _ _ _ _ _ _ _
      | exact stolonref06_Has.mono _ _ _
      | exact stolonref06_Right.mono _ _
      | exact stolonref06_Wants.mono _ _ _ _
      | exact LeO.none _
      | refine LeO.ite ?_ ?_
      | refine LeO.bind ?_ (fun _ => ?_)
    · intro y0 y1 y2 y3 y4 y5 y6
      unfold stolonlaw07_HostSays.l0
      repeat' first
      | (with_reducible exact ih0 _ _ _ _ _ _ _ _)
      | (with_reducible exact ih1 _ _ _ _ _ _ _)
      | (with_reducible exact stolonref06_Has.mono _ _ _)
      | (with_reducible exact stolonref06_Right.mono _ _)
      | (with_reducible exact stolonref06_Wants.mono _ _ _ _)
      | (with_reducible exact LeO.refl _)
      | (with_reducible exact LeO.none _)
      | (with_reducible refine LeO.ite ?_ ?_)
      | (with_reducible refine LeO.bind ?_ (fun _ => ?_))
      | exact ih0 _ _ _ _ _ _ _ _
      | exact ih1 _ _ _ _ _ _ _
      | exact stolonref06_Has.mono _ _ _
      | exact stolonref06_Right.mono _ _
      | exact stolonref06_Wants.mono _ _ _ _
      | exact LeO.none _
      | refine LeO.ite ?_ ?_
      | refine LeO.bind ?_ (fun _ => ?_)
theorem stolonlaw07_HostSays.mono : ∀ a0 a1 a2 a3 a4 a5 k, LeO (stolonlaw07_HostSays.f k a0 a1 a2 a3 a4 a5) (stolonlaw07_HostSays.f (k + 1) a0 a1 a2 a3 a4 a5) := by
  intro a0 a1 a2 a3 a4 a5 k
  obtain ⟨ih0, ih1⟩ := stolonlaw07_HostSays.mono_l k
  unfold stolonlaw07_HostSays.f
  repeat' first
      | (with_reducible exact ih0 _ _ _ _ _ _ _ _)
      | (with_reducible exact ih1 _ _ _ _ _ _ _)
      | (with_reducible exact stolonref06_Has.mono _ _ _)
      | (with_reducible exact stolonref06_Right.mono _ _)
      | (with_reducible exact stolonref06_Wants.mono _ _ _ _)
      | (with_reducible exact LeO.refl _)
      | (with_reducible exact LeO.none _)
      | (with_reducible refine LeO.ite ?_ ?_)
      | (with_reducible refine LeO.bind ?_ (fun _ => ?_))
      | exact ih0 _ _ _ _ _ _ _ _
      | exact ih1 _ _ _ _ _ _ _
      | exact stolonref06_Has.mono _ _ _
      | exact stolonref06_Right.mono _ _
      | exact stolonref06_Wants.mono _ _ _ _
      | exact LeO.none _
      | refine LeO.ite ?_ ?_
      | refine LeO.bind ?_ (fun _ => ?_)
set_option maxHeartbeats 8000000 in
set_option maxRecDepth 100000 in
theorem stolonlaw07_HostSays.calls (k : Nat) (a0_0 : Int) (a0_1 : Bool) (A0_2 : Option Addr) (c0_2 : Nat) (l0_2 : List Int) (a0_3 : Bool) (A0_4 : Option Addr) (c0_4 : Nat) (l0_4 : List Int) (a0_5 : Int) (r : Bool) (w : World) (hr0_2 : Kd.C (Kd.int .u32) w A0_2 l0_2.length l0_2) (hc0_2 : l0_2.length ≤ c0_2) (hr0_4 : Kd.C (Kd.int .u32) w A0_4 l0_4.length l0_4) (hc0_4 : l0_4.length ≤ c0_4) (h : stolonlaw07_HostSays.f k a0_0 a0_1 l0_2 a0_3 l0_4 a0_5 = some r) :
    Calls Try.prog 3 #[.agg #[.int .u32 a0_0, .bool a0_1, .slice A0_2 l0_2.length c0_2, .bool a0_3, .slice A0_4 l0_4.length c0_4, .int .u32 a0_5]] w fun e w' => e = .returned (.bool r) ∧ Below w.heap.size w w' := by
  have hu28 := Try.underlying28
  have hu26 := Try.underlying26
  have HR0_2 := Aside0.mk hr0_2
  have HC0_2 := Aside0.mk hc0_2
  clear hr0_2 hc0_2
  have HR0_4 := Aside0.mk hr0_4
  have HC0_4 := Aside0.mk hc0_4
  clear hr0_4 hc0_4
  have HB := Aside0.mk (Below.refl w.heap.size w)
  have H : ((stolonlaw07_shown.f).bind fun t318 => (if (wrap64 ((l0_2.length : Int) + (l0_4.length : Int))) > 100 then (stolonlaw07_HostSays.j0 k a0_0 a0_5 t318 true a0_1 l0_2 a0_3 l0_4) else ((stolonref06_Right.f k l0_2).bind fun t319 => (if t319 = true then ((stolonref06_Right.f k l0_4).bind fun t320 => (stolonlaw07_HostSays.j0 k a0_0 a0_5 t318 (!t320) a0_1 l0_2 a0_3 l0_4)) else (stolonlaw07_HostSays.j0 k a0_0 a0_5 t318 true a0_1 l0_2 a0_3 l0_4))))) = some r := h
  clear h
  replace H := Option.bind_eq_some_iff.mp H
  obtain ⟨t318, A20, H⟩ := H
  replace H : (if (wrap64 ((l0_2.length : Int) + (l0_4.length : Int))) > 100 then (stolonlaw07_HostSays.j0 k a0_0 a0_5 t318 true a0_1 l0_2 a0_3 l0_4) else ((stolonref06_Right.f k l0_2).bind fun t319 => (if t319 = true then ((stolonref06_Right.f k l0_4).bind fun t320 => (stolonlaw07_HostSays.j0 k a0_0 a0_5 t318 (!t320) a0_1 l0_2 a0_3 l0_4)) else (stolonlaw07_HostSays.j0 k a0_0 a0_5 t318 true a0_1 l0_2 a0_3 l0_4)))) = some r := H
  have A2 := Aside0.mk A20
  clear A20
  have HC3 := Aside0.mk H
  clear H
  go_enter Try.func3, Try.ntmps3
  go_upto_region 6 with (first | ((with_reducible refine gate_dst (N := 1) rfl ?_); (try (refine gate_guard (by rfl) ?_; dsimp only)); refine box_event ?hg (N := 1) ?hd (cs := #[.int .u32 a0_0, .bool a0_1, .slice A0_2 l0_2.length c0_2, .bool a0_3, .slice A0_4 l0_4.length c0_4, .int .u32 a0_5]) (t := 28) ?hr ?_; (case hd => rfl); (case hg => rfl); (case hr => first | (go_simp; done) | (go_simp; rfl)); intro gb315 hg w4 hbox hb; have n0_ := Aside0.mk (below_step (by repeat (first | (with_reducible first | exact HB.out | apply below_alloc | apply pw_below_drewN | apply below_drew1) | exact HB.out)) hb); have n1_ := Aside0.mk (hbox); have n2_ := Aside0.mk ((by rw [hg]; exact (below_size (by repeat (first | (with_reducible first | exact HB.out | apply below_alloc | apply pw_below_drewN | apply below_drew1) | exact HB.out))) : w.heap.size ≤ gb315)); have n3_ := Aside0.mk ((by rw [hg]; exact (below_size (by repeat (first | (with_reducible first | exact HB.out | apply below_alloc | apply pw_below_drewN | apply below_drew1) | exact HB.out))) : w.heap.size ≤ gb315)); clear HB; have HB := n0_; have BK315 := n1_; have GW315 := n2_; have GE315 := n3_; clear n0_ n1_ n2_ n3_; clear hb hbox hg; have hcz5_0 : w4.cell? ⟨gb315, 0, none⟩ = some (.int .u32 a0_0) := (blk_cell BK315.out 0).trans rfl; have hcz5_1 : w4.cell? ⟨gb315, 1, none⟩ = some (.bool a0_1) := (blk_cell BK315.out 1).trans rfl; have hcz5_2 : w4.cell? ⟨gb315, 2, none⟩ = some (.slice A0_2 l0_2.length c0_2) := (blk_cell BK315.out 2).trans rfl; have hcz5_3 : w4.cell? ⟨gb315, 3, none⟩ = some (.bool a0_3) := (blk_cell BK315.out 3).trans rfl; have hcz5_4 : w4.cell? ⟨gb315, 4, none⟩ = some (.slice A0_4 l0_4.length c0_4) := (blk_cell BK315.out 4).trans rfl; have hcz5_5 : w4.cell? ⟨gb315, 5, none⟩ = some (.int .u32 a0_5) := (blk_cell BK315.out 5).trans rfl; have hfz5_0 := blk_frozen BK315.out 0; have hfz5_1 := blk_frozen BK315.out 1; have hfz5_2 := blk_frozen BK315.out 2; have hfz5_3 := blk_frozen BK315.out 3; have hfz5_4 := blk_frozen BK315.out 4; have hfz5_5 := blk_frozen BK315.out 5) | ((with_reducible refine gate_dst (N := 4) rfl ?_); (try (refine gate_guard (by rfl) ?_; dsimp only)); refine box_event ?hg (N := 4) ?hd (cs := #[.bool false, .slice none 0 0]) (t := 26) ?hr ?_; (case hd => rfl); (case hg => rfl); (case hr => first | (go_simp; done) | (go_simp; rfl)); intro gb316 hg w6 hbox hb; have n0_ := Aside0.mk (blk_below (g := gb315) (o := .cells #[.int .u32 a0_0, .bool a0_1, .slice A0_2 l0_2.length c0_2, .bool a0_3, .slice A0_4 l0_4.length c0_4, .int .u32 a0_5] 28 (0, 0)) (by (with_reducible repeat (first | refine blk_drewN ?_ _ | refine blk_drew ?_ | refine blk_alloc ?_ _)); exact BK315.out) hb); have n1_ := Aside0.mk (below_step (by repeat (first | (with_reducible first | exact HB.out | apply below_alloc | apply pw_below_drewN | apply below_drew1 | refine below_set ?_ GE315.out) | exact HB.out)) hb); have n2_ := Aside0.mk (hbox); have n3_ := Aside0.mk ((by rw [hg]; exact (below_size (by repeat (first | (with_reducible first | exact HB.out | apply below_alloc | apply pw_below_drewN | apply below_drew1 | refine below_set ?_ GE315.out) | exact HB.out))) : w.heap.size ≤ gb316)); have n4_ := Aside0.mk ((by rw [hg]; exact (below_size (by repeat (first | (with_reducible first | exact HB.out | apply below_alloc | apply pw_below_drewN | apply below_drew1 | refine below_set ?_ GE315.out) | exact HB.out))) : w.heap.size ≤ gb316)); have n5_ := Aside0.mk ((by rw [hg]; exact Nat.ne_of_lt (blk_lt (g := gb315) (o := .cells #[.int .u32 a0_0, .bool a0_1, .slice A0_2 l0_2.length c0_2, .bool a0_3, .slice A0_4 l0_4.length c0_4, .int .u32 a0_5] 28 (0, 0)) (by (with_reducible repeat (first | refine blk_drewN ?_ _ | refine blk_drew ?_ | refine blk_alloc ?_ _)); exact BK315.out)) : gb315 ≠ gb316)); have n6_ := Aside0.mk ((by rw [hg]; exact Nat.ne_of_gt (blk_lt (g := gb315) (o := .cells #[.int .u32 a0_0, .bool a0_1, .slice A0_2 l0_2.length c0_2, .bool a0_3, .slice A0_4 l0_4.length c0_4, .int .u32 a0_5] 28 (0, 0)) (by (with_reducible repeat (first | refine blk_drewN ?_ _ | refine blk_drew ?_ | refine blk_alloc ?_ _)); exact BK315.out)) : gb316 ≠ gb315)); clear BK315; clear HB; have BK315 := n0_; have HB := n1_; have BK316 := n2_; have GW316 := n3_; have GE316 := n4_; have NB315_316 := n5_; have NB316_315 := n6_; clear n0_ n1_ n2_ n3_ n4_ n5_ n6_; clear hb hbox hg; have hnb7 := NB316_315.out; have hnc7 := NB315_316.out; have hcz8_0 : w6.cell? ⟨gb316, 0, none⟩ = some (.bool false) := (blk_cell BK316.out 0).trans rfl; have hcz8_1 : w6.cell? ⟨gb316, 1, none⟩ = some (.slice none 0 0) := (blk_cell BK316.out 1).trans rfl; have hfz8_0 := blk_frozen BK316.out 0; have hfz8_1 := blk_frozen BK316.out 1; have hcz9_0 : w6.cell? ⟨gb315, 0, none⟩ = some (.int .u32 a0_0) := (blk_cell BK315.out 0).trans rfl; have hcz9_1 : w6.cell? ⟨gb315, 1, none⟩ = some (.bool a0_1) := (blk_cell BK315.out 1).trans rfl; have hcz9_2 : w6.cell? ⟨gb315, 2, none⟩ = some (.slice A0_2 l0_2.length c0_2) := (blk_cell BK315.out 2).trans rfl; have hcz9_3 : w6.cell? ⟨gb315, 3, none⟩ = some (.bool a0_3) := (blk_cell BK315.out 3).trans rfl; have hcz9_4 : w6.cell? ⟨gb315, 4, none⟩ = some (.slice A0_4 l0_4.length c0_4) := (blk_cell BK315.out 4).trans rfl; have hcz9_5 : w6.cell? ⟨gb315, 5, none⟩ = some (.int .u32 a0_5) := (blk_cell BK315.out 5).trans rfl; have hfz9_0 := blk_frozen BK315.out 0; have hfz9_1 := blk_frozen BK315.out 1; have hfz9_2 := blk_frozen BK315.out 2; have hfz9_3 := blk_frozen BK315.out 3; have hfz9_4 := blk_frozen BK315.out 4; have hfz9_5 := blk_frozen BK315.out 5) | ((with_reducible refine gate_dst (N := 5) rfl ?_); (try (refine gate_guard (by rfl) ?_; dsimp only)); refine box_event ?hg (N := 5) ?hd (cs := #[.bool false, .slice none 0 0]) (t := 26) ?hr ?_; (case hd => rfl); (case hg => rfl); (case hr => first | (go_simp; done) | (go_simp; rfl)); intro gb317 hg w10 hbox hb; have n0_ := Aside0.mk (blk_below (g := gb315) (o := .cells #[.int .u32 a0_0, .bool a0_1, .slice A0_2 l0_2.length c0_2, .bool a0_3, .slice A0_4 l0_4.length c0_4, .int .u32 a0_5] 28 (0, 0)) (by (with_reducible repeat (first | refine blk_drewN ?_ _ | refine blk_drew ?_ | refine blk_alloc ?_ _)); refine blk_far ?_ NB315_316.out _; (with_reducible repeat (first | refine blk_drewN ?_ _ | refine blk_drew ?_ | refine blk_alloc ?_ _)); refine blk_far ?_ NB315_316.out _; (with_reducible repeat (first | refine blk_drewN ?_ _ | refine blk_drew ?_ | refine blk_alloc ?_ _)); exact BK315.out) hb); have n1_ := Aside0.mk (blk_below (g := gb316) (o := .cells #[.bool a0_1, .slice A0_2 l0_2.length c0_2] 26 (0, 0)) (by (with_reducible repeat (first | refine blk_drewN ?_ _ | refine blk_drew ?_ | refine blk_alloc ?_ _)); refine blk_put (cs := #[.bool a0_1, .slice none 0 0]) ?_ 1 _ rfl; (with_reducible repeat (first | refine blk_drewN ?_ _ | refine blk_drew ?_ | refine blk_alloc ?_ _)); refine blk_put (cs := #[.bool false, .slice none 0 0]) ?_ 0 _ rfl; (with_reducible repeat (first | refine blk_drewN ?_ _ | refine blk_drew ?_ | refine blk_alloc ?_ _)); exact BK316.out) hb); have n2_ := Aside0.mk (below_step (by repeat (first | (with_reducible first | exact HB.out | apply below_alloc | apply pw_below_drewN | apply below_drew1 | refine below_set ?_ GE315.out | refine below_set ?_ GE316.out) | exact HB.out)) hb); have n3_ := Aside0.mk (hbox); have n4_ := Aside0.mk ((by rw [hg]; exact (below_size (by repeat (first | (with_reducible first | exact HB.out | apply below_alloc | apply pw_below_drewN | apply below_drew1 | refine below_set ?_ GE315.out | refine below_set ?_ GE316.out) | exact HB.out))) : w.heap.size ≤ gb317)); have n5_ := Aside0.mk ((by rw [hg]; exact (below_size (by repeat (first | (with_reducible first | exact HB.out | apply below_alloc | apply pw_below_drewN | apply below_drew1 | refine below_set ?_ GE315.out | refine below_set ?_ GE316.out) | exact HB.out))) : w.heap.size ≤ gb317)); have n6_ := Aside0.mk ((by rw [hg]; exact Nat.ne_of_lt (blk_lt (g := gb315) (o := .cells #[.int .u32 a0_0, .bool a0_1, .slice A0_2 l0_2.length c0_2, .bool a0_3, .slice A0_4 l0_4.length c0_4, .int .u32 a0_5] 28 (0, 0)) (by (with_reducible repeat (first | refine blk_drewN ?_ _ | refine blk_drew ?_ | refine blk_alloc ?_ _)); refine blk_far ?_ NB315_316.out _; (with_reducible repeat (first | refine blk_drewN ?_ _ | refine blk_drew ?_ | refine blk_alloc ?_ _)); refine blk_far ?_ NB315_316.out _; (with_reducible repeat (first | refine blk_drewN ?_ _ | refine blk_drew ?_ | refine blk_alloc ?_ _)); exact BK315.out)) : gb315 ≠ gb317)); have n7_ := Aside0.mk ((by rw [hg]; exact Nat.ne_of_gt (blk_lt (g := gb315) (o := .cells #[.int .u32 a0_0, .bool a0_1, .slice A0_2 l0_2.length c0_2, .bool a0_3, .slice A0_4 l0_4.length c0_4, .int .u32 a0_5] 28 (0, 0)) (by (with_reducible repeat (first | refine blk_drewN ?_ _ | refine blk_drew ?_ | refine blk_alloc ?_ _)); refine blk_far ?_ NB315_316.out _; (with_reducible repeat (first | refine blk_drewN ?_ _ | refine blk_drew ?_ | refine blk_alloc ?_ _)); refine blk_far ?_ NB315_316.out _; (with_reducible repeat (first | refine blk_drewN ?_ _ | refine blk_drew ?_ | refine blk_alloc ?_ _)); exact BK315.out)) : gb317 ≠ gb315)); have n8_ := Aside0.mk ((by rw [hg]; exact Nat.ne_of_lt (blk_lt (g := gb316) (o := .cells #[.bool a0_1, .slice A0_2 l0_2.length c0_2] 26 (0, 0)) (by (with_reducible repeat (first | refine blk_drewN ?_ _ | refine blk_drew ?_ | refine blk_alloc ?_ _)); refine blk_put (cs := #[.bool a0_1, .slice none 0 0]) ?_ 1 _ rfl; (with_reducible repeat (first | refine blk_drewN ?_ _ | refine blk_drew ?_ | refine blk_alloc ?_ _)); refine blk_put (cs := #[.bool false, .slice none 0 0]) ?_ 0 _ rfl; (with_reducible repeat (first | refine blk_drewN ?_ _ | refine blk_drew ?_ | refine blk_alloc ?_ _)); exact BK316.out)) : gb316 ≠ gb317)); have n9_ := Aside0.mk ((by rw [hg]; exact Nat.ne_of_gt (blk_lt (g := gb316) (o := .cells #[.bool a0_1, .slice A0_2 l0_2.length c0_2] 26 (0, 0)) (by (with_reducible repeat (first | refine blk_drewN ?_ _ | refine blk_drew ?_ | refine blk_alloc ?_ _)); refine blk_put (cs := #[.bool a0_1, .slice none 0 0]) ?_ 1 _ rfl; (with_reducible repeat (first | refine blk_drewN ?_ _ | refine blk_drew ?_ | refine blk_alloc ?_ _)); refine blk_put (cs := #[.bool false, .slice none 0 0]) ?_ 0 _ rfl; (with_reducible repeat (first | refine blk_drewN ?_ _ | refine blk_drew ?_ | refine blk_alloc ?_ _)); exact BK316.out)) : gb317 ≠ gb316)); clear BK315; clear BK316; clear HB; have BK315 := n0_; have BK316 := n1_; have HB := n2_; have BK317 := n3_; have GW317 := n4_; have GE317 := n5_; have NB315_317 := n6_; have NB317_315 := n7_; have NB316_317 := n8_; have NB317_316 := n9_; clear n0_ n1_ n2_ n3_ n4_ n5_ n6_ n7_ n8_ n9_; clear hb hbox hg; have hnb11 := NB317_315.out; have hnc11 := NB315_317.out; have hnb12 := NB317_316.out; have hnc12 := NB316_317.out; have hcz13_0 : w10.cell? ⟨gb317, 0, none⟩ = some (.bool false) := (blk_cell BK317.out 0).trans rfl; have hcz13_1 : w10.cell? ⟨gb317, 1, none⟩ = some (.slice none 0 0) := (blk_cell BK317.out 1).trans rfl; have hfz13_0 := blk_frozen BK317.out 0; have hfz13_1 := blk_frozen BK317.out 1; have hcz14_0 : w10.cell? ⟨gb315, 0, none⟩ = some (.int .u32 a0_0) := (blk_cell BK315.out 0).trans rfl; have hcz14_1 : w10.cell? ⟨gb315, 1, none⟩ = some (.bool a0_1) := (blk_cell BK315.out 1).trans rfl; have hcz14_2 : w10.cell? ⟨gb315, 2, none⟩ = some (.slice A0_2 l0_2.length c0_2) := (blk_cell BK315.out 2).trans rfl; have hcz14_3 : w10.cell? ⟨gb315, 3, none⟩ = some (.bool a0_3) := (blk_cell BK315.out 3).trans rfl; have hcz14_4 : w10.cell? ⟨gb315, 4, none⟩ = some (.slice A0_4 l0_4.length c0_4) := (blk_cell BK315.out 4).trans rfl; have hcz14_5 : w10.cell? ⟨gb315, 5, none⟩ = some (.int .u32 a0_5) := (blk_cell BK315.out 5).trans rfl; have hfz14_0 := blk_frozen BK315.out 0; have hfz14_1 := blk_frozen BK315.out 1; have hfz14_2 := blk_frozen BK315.out 2; have hfz14_3 := blk_frozen BK315.out 3; have hfz14_4 := blk_frozen BK315.out 4; have hfz14_5 := blk_frozen BK315.out 5) | ((with_reducible refine gate_callee (f := 8) rfl ?_); refine goesL_ (some 20) rfl rfl Try.func8 (by kernel_rfl) rfl #[] rfl (by (try simp only [List.map_toArray, List.map_cons, List.map_nil]); first | done | rfl | (simp only [List.length_drop, List.length_take]; rfl)) ?_; (with_reducible refine (stolonlaw07_shown.calls  t318 _ A2.out).mono ?_); rintro e w15 ⟨rfl, hb⟩; refine ⟨_, rfl, ?_⟩; have n0_ := Aside0.mk (blk_below (g := gb315) (o := .cells #[.int .u32 a0_0, .bool a0_1, .slice A0_2 l0_2.length c0_2, .bool a0_3, .slice A0_4 l0_4.length c0_4, .int .u32 a0_5] 28 (0, 0)) (by (with_reducible repeat (first | refine blk_drewN ?_ _ | refine blk_drew ?_ | refine blk_alloc ?_ _)); refine blk_far ?_ NB315_317.out _; (with_reducible repeat (first | refine blk_drewN ?_ _ | refine blk_drew ?_ | refine blk_alloc ?_ _)); refine blk_far ?_ NB315_317.out _; (with_reducible repeat (first | refine blk_drewN ?_ _ | refine blk_drew ?_ | refine blk_alloc ?_ _)); exact BK315.out) hb); have n1_ := Aside0.mk (blk_below (g := gb316) (o := .cells #[.bool a0_1, .slice A0_2 l0_2.length c0_2] 26 (0, 0)) (by (with_reducible repeat (first | refine blk_drewN ?_ _ | refine blk_drew ?_ | refine blk_alloc ?_ _)); refine blk_far ?_ NB316_317.out _; (with_reducible repeat (first | refine blk_drewN ?_ _ | refine blk_drew ?_ | refine blk_alloc ?_ _)); refine blk_far ?_ NB316_317.out _; (with_reducible repeat (first | refine blk_drewN ?_ _ | refine blk_drew ?_ | refine blk_alloc ?_ _)); exact BK316.out) hb); have n2_ := Aside0.mk (blk_below (g := gb317) (o := .cells #[.bool a0_3, .slice A0_4 l0_4.length c0_4] 26 (0, 0)) (by (with_reducible repeat (first | refine blk_drewN ?_ _ | refine blk_drew ?_ | refine blk_alloc ?_ _)); refine blk_put (cs := #[.bool a0_3, .slice none 0 0]) ?_ 1 _ rfl; (with_reducible repeat (first | refine blk_drewN ?_ _ | refine blk_drew ?_ | refine blk_alloc ?_ _)); refine blk_put (cs := #[.bool false, .slice none 0 0]) ?_ 0 _ rfl; (with_reducible repeat (first | refine blk_drewN ?_ _ | refine blk_drew ?_ | refine blk_alloc ?_ _)); exact BK317.out) hb); have n3_ := Aside0.mk (below_step (by repeat (first | (with_reducible first | exact HB.out | apply below_alloc | apply pw_below_drewN | apply below_drew1 | refine below_set ?_ GE315.out | refine below_set ?_ GE316.out | refine below_set ?_ GE317.out) | exact HB.out)) hb); clear BK315; clear BK316; clear BK317; clear HB; have BK315 := n0_; have BK316 := n1_; have BK317 := n2_; have HB := n3_; clear n0_ n1_ n2_ n3_; (try clear hb); (try clear hb2); (try clear hk); (try clear hi)))
  (try simp only [Act.put, List.setIfInBounds_toArray, List.set_cons_zero, List.set_cons_succ])
  go_cut [40] (fun v40 wc => ∃ (kq : Nat) (x40_2 : Bool), v40 = .bool x40_2 ∧ Aside0 (stolonlaw07_HostSays.j0 kq a0_0 a0_5 t318 x40_2 a0_1 l0_2 a0_3 l0_4 = some r) ∧ Aside0 (kq ≤ k) ∧ Aside0 (wc.heap[gb315]? = some (.cells #[.int .u32 a0_0, .bool a0_1, (.slice A0_2 l0_2.length c0_2), .bool a0_3, (.slice A0_4 l0_4.length c0_4), .int .u32 a0_5] 28 (0, 0))) ∧ Aside0 (wc.heap[gb316]? = some (.cells #[.bool a0_1, (.slice A0_2 l0_2.length c0_2)] 26 (0, 0))) ∧ Aside0 (wc.heap[gb317]? = some (.cells #[.bool a0_3, (.slice A0_4 l0_4.length c0_4)] 26 (0, 0))) ∧ Aside0 (Below w.heap.size w wc))
  case first =>
    have H := HC3.out
    clear HC3
    by_cases c16 : (wrap64 ((l0_2.length : Int) + (l0_4.length : Int))) > 100
    · rw [if_pos c16] at H
      have c16b0 : decide (100 < (wrap64 ((l0_2.length : Int) + (l0_4.length : Int)))) = true := decide_eq_true c16
      clear c16
      (first | rw [c16b0] | (simp only [i64_w, i32_w]; rw [c16b0]) | skip)
      have H' := Aside0.mk H
      clear H
      have hnb17 := NB316_315.out
      have hnc17 := NB315_316.out
      have hnb18 := NB316_317.out
      have hnc18 := NB317_316.out
      have hcz19_0 : w15.cell? ⟨gb316, 0, none⟩ = some (.bool a0_1) := (blk_cell BK316.out 0).trans rfl
      have hcz19_1 : w15.cell? ⟨gb316, 1, none⟩ = some (.slice A0_2 l0_2.length c0_2) := (blk_cell BK316.out 1).trans rfl
      have hfz19_0 := blk_frozen BK316.out 0
      have hfz19_1 := blk_frozen BK316.out 1
      have hnb20 := NB317_315.out
      have hnc20 := NB315_317.out
      have hcz21_0 : w15.cell? ⟨gb317, 0, none⟩ = some (.bool a0_3) := (blk_cell BK317.out 0).trans rfl
      have hcz21_1 : w15.cell? ⟨gb317, 1, none⟩ = some (.slice A0_4 l0_4.length c0_4) := (blk_cell BK317.out 1).trans rfl
      have hfz21_0 := blk_frozen BK317.out 0
      have hfz21_1 := blk_frozen BK317.out 1
      go_wp2
      go_meet
      case rel => exact ⟨_, (true), (by first | rfl | (simp; done) | (simp [*]; done)), H', ⟨by first | omega | exact Nat.le_refl _⟩, ⟨by (with_reducible repeat (first | refine blk_drewN ?_ _ | refine blk_drew ?_ | refine blk_alloc ?_ _)); exact BK315.out⟩, ⟨by (with_reducible repeat (first | refine blk_drewN ?_ _ | refine blk_drew ?_ | refine blk_alloc ?_ _)); exact BK316.out⟩, ⟨by (with_reducible repeat (first | refine blk_drewN ?_ _ | refine blk_drew ?_ | refine blk_alloc ?_ _)); exact BK317.out⟩, ⟨by repeat (first | (with_reducible first | exact HB.out | apply below_alloc | apply pw_below_drewN | apply below_drew1 | refine below_set ?_ GE315.out | refine below_set ?_ GE316.out | refine below_set ?_ GE317.out) | exact HB.out)⟩⟩
    · rw [if_neg c16] at H
      have c16b0 : decide (100 < (wrap64 ((l0_2.length : Int) + (l0_4.length : Int)))) = false := decide_eq_false c16
      clear c16
      (first | rw [c16b0] | (simp only [i64_w, i32_w]; rw [c16b0]) | skip)
      replace H := Option.bind_eq_some_iff.mp H
      obtain ⟨t319, A220, H⟩ := H
      replace H : (if t319 = true then ((stolonref06_Right.f k l0_4).bind fun t320 => (stolonlaw07_HostSays.j0 k a0_0 a0_5 t318 (!t320) a0_1 l0_2 a0_3 l0_4)) else (stolonlaw07_HostSays.j0 k a0_0 a0_5 t318 true a0_1 l0_2 a0_3 l0_4)) = some r := H
      have A22 := Aside0.mk A220
      clear A220
      by_cases c23 : t319 = true
      · subst c23
        have H1 : ((stolonref06_Right.f k l0_4).bind fun t320 => (stolonlaw07_HostSays.j0 k a0_0 a0_5 t318 (!t320) a0_1 l0_2 a0_3 l0_4)) = some r := by rw [if_pos rfl] at H; exact H
        clear H
        have H := H1
        clear H1
        replace H := Option.bind_eq_some_iff.mp H
        obtain ⟨t320, A240, H⟩ := H
        replace H : (stolonlaw07_HostSays.j0 k a0_0 a0_5 t318 (!t320) a0_1 l0_2 a0_3 l0_4) = some r := H
        have A24 := Aside0.mk A240
        clear A240
        have H' := Aside0.mk H
        clear H
        have hnb25 := NB316_315.out
        have hnc25 := NB315_316.out
        have hnb26 := NB316_317.out
        have hnc26 := NB317_316.out
        have hcz27_0 : w15.cell? ⟨gb316, 0, none⟩ = some (.bool a0_1) := (blk_cell BK316.out 0).trans rfl
        have hcz27_1 : w15.cell? ⟨gb316, 1, none⟩ = some (.slice A0_2 l0_2.length c0_2) := (blk_cell BK316.out 1).trans rfl
        have hfz27_0 := blk_frozen BK316.out 0
        have hfz27_1 := blk_frozen BK316.out 1
        have hnb28 := NB317_315.out
        have hnc28 := NB315_317.out
        have hcz29_0 : w15.cell? ⟨gb317, 0, none⟩ = some (.bool a0_3) := (blk_cell BK317.out 0).trans rfl
        have hcz29_1 : w15.cell? ⟨gb317, 1, none⟩ = some (.slice A0_4 l0_4.length c0_4) := (blk_cell BK317.out 1).trans rfl
        have hfz29_0 := blk_frozen BK317.out 0
        have hfz29_1 := blk_frozen BK317.out 1
        go_wp2_with (first | (go_at_call 9; (with_reducible refine (stolonref06_Right.calls k _ _ l0_2 true _ ?side1 ?side2 A22.out).mono ?_); (case side1 => repeat (first | exact (Kd.C_below HR0_2.out HB.out) | (with_reducible refine Kd.C_alloc ?_ _) | (with_reducible refine Kd.C_drewN ?_ _) | (with_reducible refine Kd.C_drew ?_))); (case side2 => exact HC0_2.out); rintro e w' ⟨rfl, ⟨nd, rfl⟩⟩) | (go_at_call 9; (with_reducible refine (stolonref06_Right.calls k _ _ l0_4 t320 _ ?side1 ?side2 A24.out).mono ?_); (case side1 => repeat (first | exact (Kd.C_below HR0_4.out (by repeat (first | (with_reducible first | exact HB.out | apply below_alloc | apply pw_below_drewN | apply below_drew1 | refine below_set ?_ GE315.out | refine below_set ?_ GE316.out | refine below_set ?_ GE317.out) | exact HB.out))) | (with_reducible refine Kd.C_alloc ?_ _) | (with_reducible refine Kd.C_drewN ?_ _) | (with_reducible refine Kd.C_drew ?_))); (case side2 => exact HC0_4.out); rintro e w' ⟨rfl, ⟨nd, rfl⟩⟩))
        go_meet
        case rel => exact ⟨_, (!t320), (by first | rfl | (simp; done) | (simp [*]; done)), H', ⟨by first | omega | exact Nat.le_refl _⟩, ⟨by (with_reducible repeat (first | refine blk_drewN ?_ _ | refine blk_drew ?_ | refine blk_alloc ?_ _)); exact BK315.out⟩, ⟨by (with_reducible repeat (first | refine blk_drewN ?_ _ | refine blk_drew ?_ | refine blk_alloc ?_ _)); exact BK316.out⟩, ⟨by (with_reducible repeat (first | refine blk_drewN ?_ _ | refine blk_drew ?_ | refine blk_alloc ?_ _)); exact BK317.out⟩, ⟨by repeat (first | (with_reducible first | exact HB.out | apply below_alloc | apply pw_below_drewN | apply below_drew1 | refine below_set ?_ GE315.out | refine below_set ?_ GE316.out | refine below_set ?_ GE317.out) | exact HB.out)⟩⟩
      · replace c23 := Bool.eq_false_iff.mpr c23
        subst c23
        have H1 : (stolonlaw07_HostSays.j0 k a0_0 a0_5 t318 true a0_1 l0_2 a0_3 l0_4) = some r := by rw [if_neg (show ¬ (false = true) by decide)] at H; exact H
        clear H
        have H := H1
        clear H1
        have H' := Aside0.mk H
        clear H
        have hnb30 := NB316_315.out
        have hnc30 := NB315_316.out
        have hnb31 := NB316_317.out
        have hnc31 := NB317_316.out
        have hcz32_0 : w15.cell? ⟨gb316, 0, none⟩ = some (.bool a0_1) := (blk_cell BK316.out 0).trans rfl
        have hcz32_1 : w15.cell? ⟨gb316, 1, none⟩ = some (.slice A0_2 l0_2.length c0_2) := (blk_cell BK316.out 1).trans rfl
        have hfz32_0 := blk_frozen BK316.out 0
        have hfz32_1 := blk_frozen BK316.out 1
        have hnb33 := NB317_315.out
        have hnc33 := NB315_317.out
        have hcz34_0 : w15.cell? ⟨gb317, 0, none⟩ = some (.bool a0_3) := (blk_cell BK317.out 0).trans rfl
        have hcz34_1 : w15.cell? ⟨gb317, 1, none⟩ = some (.slice A0_4 l0_4.length c0_4) := (blk_cell BK317.out 1).trans rfl
        have hfz34_0 := blk_frozen BK317.out 0
        have hfz34_1 := blk_frozen BK317.out 1
        go_wp2_with (first | (go_at_call 9; (with_reducible refine (stolonref06_Right.calls k _ _ l0_2 false _ ?side1 ?side2 A22.out).mono ?_); (case side1 => repeat (first | exact (Kd.C_below HR0_2.out HB.out) | (with_reducible refine Kd.C_alloc ?_ _) | (with_reducible refine Kd.C_drewN ?_ _) | (with_reducible refine Kd.C_drew ?_))); (case side2 => exact HC0_2.out); rintro e w' ⟨rfl, ⟨nd, rfl⟩⟩))
        go_meet
        case rel => exact ⟨_, (true), (by first | rfl | (simp; done) | (simp [*]; done)), H', ⟨by first | omega | exact Nat.le_refl _⟩, ⟨by (with_reducible repeat (first | refine blk_drewN ?_ _ | refine blk_drew ?_ | refine blk_alloc ?_ _)); exact BK315.out⟩, ⟨by (with_reducible repeat (first | refine blk_drewN ?_ _ | refine blk_drew ?_ | refine blk_alloc ?_ _)); exact BK316.out⟩, ⟨by (with_reducible repeat (first | refine blk_drewN ?_ _ | refine blk_drew ?_ | refine blk_alloc ?_ _)); exact BK317.out⟩, ⟨by repeat (first | (with_reducible first | exact HB.out | apply below_alloc | apply pw_below_drewN | apply below_drew1 | refine below_set ?_ GE315.out | refine below_set ?_ GE316.out | refine below_set ?_ GE317.out) | exact HB.out)⟩⟩
  case rest =>
    clear HC3
    try clear c1
    try clear c2
    try clear p2
    try clear c3
    try clear p6
    try clear c7
    try clear c8
    try clear c11
    try clear c12
    try clear c16
    try clear c16b0
    try clear c17
    try clear c18
    try clear c20
    try clear c23
    try clear c25
    try clear c26
    try clear c28
    try clear c30
    try clear c31
    try clear c33
    try clear hcz13_0
    try clear hcz13_1
    try clear hcz14_0
    try clear hcz14_1
    try clear hcz14_2
    try clear hcz14_3
    try clear hcz14_4
    try clear hcz14_5
    try clear hcz19_0
    try clear hcz19_1
    try clear hcz21_0
    try clear hcz21_1
    try clear hcz27_0
    try clear hcz27_1
    try clear hcz29_0
    try clear hcz29_1
    try clear hcz32_0
    try clear hcz32_1
    try clear hcz34_0
    try clear hcz34_1
    try clear hcz5_0
    try clear hcz5_1
    try clear hcz5_2
    try clear hcz5_3
    try clear hcz5_4
    try clear hcz5_5
    try clear hcz8_0
    try clear hcz8_1
    try clear hcz9_0
    try clear hcz9_1
    try clear hcz9_2
    try clear hcz9_3
    try clear hcz9_4
    try clear hcz9_5
    try clear hfz13_0
    try clear hfz13_1
    try clear hfz14_0
    try clear hfz14_1
    try clear hfz14_2
    try clear hfz14_3
    try clear hfz14_4
    try clear hfz14_5
    try clear hfz19_0
    try clear hfz19_1
    try clear hfz21_0
    try clear hfz21_1
    try clear hfz27_0
    try clear hfz27_1
    try clear hfz29_0
    try clear hfz29_1
    try clear hfz32_0
    try clear hfz32_1
    try clear hfz34_0
    try clear hfz34_1
    try clear hfz5_0
    try clear hfz5_1
    try clear hfz5_2
    try clear hfz5_3
    try clear hfz5_4
    try clear hfz5_5
    try clear hfz8_0
    try clear hfz8_1
    try clear hfz9_0
    try clear hfz9_1
    try clear hfz9_2
    try clear hfz9_3
    try clear hfz9_4
    try clear hfz9_5
    obtain ⟨kq, x40_2, rfl, HA, HJ2, BK315, BK316, BK317, HB⟩ := hcut
    cases kq with
    | zero => exact absurd HA.out (by simp [stolonlaw07_HostSays.j0])
    | succ kj2 =>
      have H := HA.out
      clear HA
      simp only [stolonlaw07_HostSays.j0] at H
      by_cases c35 : x40_2 = true
      · subst c35
        have H1 : (some t318) = some r := by rw [if_pos rfl] at H; exact H
        clear H
        have H := H1
        clear H1
        obtain rfl := Option.some.inj H
        go_wp2
        go_ret
        exact ⟨by first | rfl | (simp [errW_none, errW_some] <;> rfl) | (simp [*, errW_none, errW_some] <;> rfl), by repeat (first | (with_reducible first | exact HB.out | apply below_alloc | apply pw_below_drewN | apply below_drew1 | refine below_set ?_ GE315.out | refine below_set ?_ GE316.out | refine below_set ?_ GE317.out) | exact HB.out)⟩
      · replace c35 := Bool.eq_false_iff.mpr c35
        subst c35
        have H1 : ((host_Change.f a0_0 a0_1 l0_2 a0_3 l0_4).bind fun t321 => ((stolonref06_Wants.f kj2 a0_1 l0_2 a0_5).bind fun t324 => (stolonlaw07_HostSays.l0 kj2 a0_5 t318 t321 t324 0 a0_3 l0_4))) = some r := by rw [if_neg (show ¬ (false = true) by decide)] at H; exact H
        clear H
        have H := H1
        clear H1
        replace H := Option.bind_eq_some_iff.mp H
        obtain ⟨t321, A360, H⟩ := H
        replace H : ((stolonref06_Wants.f kj2 a0_1 l0_2 a0_5).bind fun t324 => (stolonlaw07_HostSays.l0 kj2 a0_5 t318 t321 t324 0 a0_3 l0_4)) = some r := H
        have A36 := Aside0.mk A360
        clear A360
        replace H := Option.bind_eq_some_iff.mp H
        obtain ⟨t324, A370, H⟩ := H
        replace H : (stolonlaw07_HostSays.l0 kj2 a0_5 t318 t321 t324 0 a0_3 l0_4) = some r := H
        have A37 := Aside0.mk A370
        clear A370
        have H' := Aside0.mk H
        clear H
        have hnb38 := NB316_315.out
        have hnc38 := NB315_316.out
        have hnb39 := NB316_317.out
        have hnc39 := NB317_316.out
        have hcz40_0 : wc.cell? ⟨gb316, 0, none⟩ = some (.bool a0_1) := (blk_cell BK316.out 0).trans rfl
        have hcz40_1 : wc.cell? ⟨gb316, 1, none⟩ = some (.slice A0_2 l0_2.length c0_2) := (blk_cell BK316.out 1).trans rfl
        have hfz40_0 := blk_frozen BK316.out 0
        have hfz40_1 := blk_frozen BK316.out 1
        have hnb41 := NB317_315.out
        have hnc41 := NB315_317.out
        have hcz42_0 : wc.cell? ⟨gb317, 0, none⟩ = some (.bool a0_3) := (blk_cell BK317.out 0).trans rfl
        have hcz42_1 : wc.cell? ⟨gb317, 1, none⟩ = some (.slice A0_4 l0_4.length c0_4) := (blk_cell BK317.out 1).trans rfl
        have hfz42_0 := blk_frozen BK317.out 0
        have hfz42_1 := blk_frozen BK317.out 1
        go_wp2_with (first | ((with_reducible refine gate_callee (f := 10) rfl ?_); refine goesL_ (some 45) rfl rfl Try.func10 (by kernel_rfl) rfl #[.int .u32 a0_0, .agg #[.bool a0_1, .slice A0_2 l0_2.length c0_2], .agg #[.bool a0_3, .slice A0_4 l0_4.length c0_4]] rfl (by (try simp only [List.map_toArray, List.map_cons, List.map_nil]); first | done | rfl | (simp only [List.length_drop, List.length_take]; rfl)) ?_; (with_reducible refine (host_Change.calls a0_0 a0_1 _ _ l0_2 a0_3 (fun k_ => k_ < w.heap.size) _ _ l0_4 t321 _ ?side1 ?side2 ?side3 A36.out).mono ?_); (case side1 => repeat (first | exact (Kd.C_below HR0_2.out HB.out) | (with_reducible refine Kd.C_alloc ?_ _) | (with_reducible refine Kd.C_drewN ?_ _) | (with_reducible refine Kd.C_drew ?_))); (case side2 => exact HC0_2.out); (case side3 => exact Kd.V_mk HC0_4.out (Kd.F_below (Kd.C_F (Kd.heap_int .u32) HR0_4.out) (by repeat (first | (with_reducible first | exact HB.out | apply below_alloc | apply pw_below_drewN | apply below_drew1 | refine below_set ?_ GE315.out | refine below_set ?_ GE316.out | refine below_set ?_ GE317.out) | exact HB.out)))); rintro e w43 ⟨v322, rfl, ho0, hb⟩; refine ⟨_, rfl, ?_⟩; have n0_ := Aside0.mk (Kd.V_lower (Kd.V_mono (ok' := fun k_ => k_ ≠ gb315 ∧ k_ ≠ gb316 ∧ k_ ≠ gb317) ho0 (fun k_ hk_ => ⟨Or.elim hk_ (fun hs_ => fun e_ => Nat.not_le.2 hs_ (by rw [e_]; exact GW315.out)) (fun hn_ => (Kd.freshB (g := gb315) (o := .cells #[.int .u32 a0_0, .bool a0_1, .slice A0_2 l0_2.length c0_2, .bool a0_3, .slice A0_4 l0_4.length c0_4, .int .u32 a0_5] 28 (0, 0)) (by (with_reducible repeat (first | refine blk_drewN ?_ _ | refine blk_drew ?_ | refine blk_alloc ?_ _)); exact BK315.out) k_ hn_)), Or.elim hk_ (fun hs_ => fun e_ => Nat.not_le.2 hs_ (by rw [e_]; exact GW316.out)) (fun hn_ => (Kd.freshB (g := gb316) (o := .cells #[.bool a0_1, .slice A0_2 l0_2.length c0_2] 26 (0, 0)) (by (with_reducible repeat (first | refine blk_drewN ?_ _ | refine blk_drew ?_ | refine blk_alloc ?_ _)); exact BK316.out) k_ hn_)), Or.elim hk_ (fun hs_ => fun e_ => Nat.not_le.2 hs_ (by rw [e_]; exact GW317.out)) (fun hn_ => (Kd.freshB (g := gb317) (o := .cells #[.bool a0_3, .slice A0_4 l0_4.length c0_4] 26 (0, 0)) (by (with_reducible repeat (first | refine blk_drewN ?_ _ | refine blk_drew ?_ | refine blk_alloc ?_ _)); exact BK317.out) k_ hn_))⟩)) (below_size (by repeat (first | (with_reducible first | exact HB.out | apply below_alloc | apply pw_below_drewN | apply below_drew1 | refine below_set ?_ GE315.out | refine below_set ?_ GE316.out | refine below_set ?_ GE317.out) | exact HB.out)))); have n1_ := Aside0.mk (blk_below (g := gb315) (o := .cells #[.int .u32 a0_0, .bool a0_1, .slice A0_2 l0_2.length c0_2, .bool a0_3, .slice A0_4 l0_4.length c0_4, .int .u32 a0_5] 28 (0, 0)) (by (with_reducible repeat (first | refine blk_drewN ?_ _ | refine blk_drew ?_ | refine blk_alloc ?_ _)); exact BK315.out) hb); have n2_ := Aside0.mk (blk_below (g := gb316) (o := .cells #[.bool a0_1, .slice A0_2 l0_2.length c0_2] 26 (0, 0)) (by (with_reducible repeat (first | refine blk_drewN ?_ _ | refine blk_drew ?_ | refine blk_alloc ?_ _)); exact BK316.out) hb); have n3_ := Aside0.mk (blk_below (g := gb317) (o := .cells #[.bool a0_3, .slice A0_4 l0_4.length c0_4] 26 (0, 0)) (by (with_reducible repeat (first | refine blk_drewN ?_ _ | refine blk_drew ?_ | refine blk_alloc ?_ _)); exact BK317.out) hb); have n4_ := Aside0.mk (below_step (by repeat (first | (with_reducible first | exact HB.out | apply below_alloc | apply pw_below_drewN | apply below_drew1 | refine below_set ?_ GE315.out | refine below_set ?_ GE316.out | refine below_set ?_ GE317.out) | exact HB.out)) hb); clear BK315; clear BK316; clear BK317; clear HB; have HO323 := n0_; have BK315 := n1_; have BK316 := n2_; have BK317 := n3_; have HB := n4_; clear n0_ n1_ n2_ n3_ n4_; (try clear hb); (try clear hb2); (try clear hk); (try clear hi); (try clear ho0); have hcz44_0 : w43.cell? ⟨gb316, 0, none⟩ = some (.bool a0_1) := (blk_cell BK316.out 0).trans rfl; have hcz44_1 : w43.cell? ⟨gb316, 1, none⟩ = some (.slice A0_2 l0_2.length c0_2) := (blk_cell BK316.out 1).trans rfl; have hfz44_0 := blk_frozen BK316.out 0; have hfz44_1 := blk_frozen BK316.out 1) | ((with_reducible refine gate_callee (f := 11) rfl ?_); refine goesL_ (some 48) rfl rfl Try.func11 (by kernel_rfl) rfl #[.agg #[.bool a0_1, .slice A0_2 l0_2.length c0_2], .int .u32 a0_5] rfl (by (try simp only [List.map_toArray, List.map_cons, List.map_nil]); first | done | rfl | (simp only [List.length_drop, List.length_take]; rfl)) ?_; (with_reducible refine (stolonref06_Wants.calls kj2 a0_1 _ _ l0_2 a0_5 t324 _ ?side1 ?side2 A37.out).mono ?_); (case side1 => repeat (first | exact (Kd.C_below HR0_2.out HB.out) | (with_reducible refine Kd.C_alloc ?_ _) | (with_reducible refine Kd.C_drewN ?_ _) | (with_reducible refine Kd.C_drew ?_))); (case side2 => exact HC0_2.out); rintro e w45 ⟨rfl, hb⟩; refine ⟨_, rfl, ?_⟩; have n0_ := Aside0.mk (Kd.V_below (by (with_reducible repeat (first | apply Kd.V_alloc | apply Kd.V_drewN | apply Kd.V_drew)); exact HO323.out) hb); have n1_ := Aside0.mk (blk_below (g := gb315) (o := .cells #[.int .u32 a0_0, .bool a0_1, .slice A0_2 l0_2.length c0_2, .bool a0_3, .slice A0_4 l0_4.length c0_4, .int .u32 a0_5] 28 (0, 0)) (by (with_reducible repeat (first | refine blk_drewN ?_ _ | refine blk_drew ?_ | refine blk_alloc ?_ _)); exact BK315.out) hb); have n2_ := Aside0.mk (blk_below (g := gb316) (o := .cells #[.bool a0_1, .slice A0_2 l0_2.length c0_2] 26 (0, 0)) (by (with_reducible repeat (first | refine blk_drewN ?_ _ | refine blk_drew ?_ | refine blk_alloc ?_ _)); exact BK316.out) hb); have n3_ := Aside0.mk (blk_below (g := gb317) (o := .cells #[.bool a0_3, .slice A0_4 l0_4.length c0_4] 26 (0, 0)) (by (with_reducible repeat (first | refine blk_drewN ?_ _ | refine blk_drew ?_ | refine blk_alloc ?_ _)); exact BK317.out) hb); have n4_ := Aside0.mk (below_step (by repeat (first | (with_reducible first | exact HB.out | apply below_alloc | apply pw_below_drewN | apply below_drew1 | refine below_set ?_ GE315.out | refine below_set ?_ GE316.out | refine below_set ?_ GE317.out) | exact HB.out)) hb); clear HO323; clear BK315; clear BK316; clear BK317; clear HB; have HO323 := n0_; have BK315 := n1_; have BK316 := n2_; have BK317 := n3_; have HB := n4_; clear n0_ n1_ n2_ n3_ n4_; (try clear hb); (try clear hb2); (try clear hk); (try clear hi)))
        go_loopg [9, 10] kj2 (fun kq v9 v10 w' => ∃ (x9_2 : Bool) (x10_2 : Int), v9 = .bool x9_2 ∧ v10 = .int .i64 x10_2 ∧ Aside0 (stolonlaw07_HostSays.l0 kq a0_5 t318 t321 x9_2 x10_2 a0_3 l0_4 = some r) ∧ Aside0 (kq ≤ kj2) ∧ Aside0 (Kd.V k36 36 w' w.heap.size (fun k_ => k_ ≠ gb315 ∧ k_ ≠ gb316 ∧ k_ ≠ gb317) v322 t321) ∧ Aside0 (w'.heap[gb315]? = some (.cells #[.int .u32 a0_0, .bool a0_1, (.slice A0_2 l0_2.length c0_2), .bool a0_3, (.slice A0_4 l0_4.length c0_4), .int .u32 a0_5] 28 (0, 0))) ∧ Aside0 (w'.heap[gb316]? = some (.cells #[.bool a0_1, (.slice A0_2 l0_2.length c0_2)] 26 (0, 0))) ∧ Aside0 (w'.heap[gb317]? = some (.cells #[.bool a0_3, (.slice A0_4 l0_4.length c0_4)] 26 (0, 0))) ∧ Aside0 (Below w.heap.size w w'))
        case atStart => exact ⟨(t324), (0), (by first | rfl | (simp; done) | (simp [*]; done)), (by first | rfl | (simp; done) | (simp [*]; done)), H', ⟨Nat.le_refl _⟩, ⟨by (with_reducible repeat (first | apply Kd.V_alloc | apply Kd.V_drewN | apply Kd.V_drew)); exact HO323.out⟩, ⟨by (with_reducible repeat (first | refine blk_drewN ?_ _ | refine blk_drew ?_ | refine blk_alloc ?_ _)); exact BK315.out⟩, ⟨by (with_reducible repeat (first | refine blk_drewN ?_ _ | refine blk_drew ?_ | refine blk_alloc ?_ _)); exact BK316.out⟩, ⟨by (with_reducible repeat (first | refine blk_drewN ?_ _ | refine blk_drew ?_ | refine blk_alloc ?_ _)); exact BK317.out⟩, ⟨by repeat (first | (with_reducible first | exact HB.out | apply below_alloc | apply pw_below_drewN | apply below_drew1 | refine below_set ?_ GE315.out | refine below_set ?_ GE316.out | refine below_set ?_ GE317.out) | exact HB.out)⟩⟩
        case round =>
          clear H'
          try clear c1
          try clear c2
          try clear p2
          try clear c3
          try clear c4
          try clear p6
          try clear c7
          try clear c8
          try clear c10
          try clear c11
          try clear c12
          try clear c16
          try clear c16b0
          try clear c17
          try clear c18
          try clear c20
          try clear c23
          try clear c25
          try clear c26
          try clear c28
          try clear c30
          try clear c31
          try clear c33
          try clear c35
          try clear c38
          try clear c39
          try clear c41
          try clear hcz13_0
          try clear hcz13_1
          try clear hcz14_0
          try clear hcz14_1
          try clear hcz14_2
          try clear hcz14_3
          try clear hcz14_4
          try clear hcz14_5
          try clear hcz19_0
          try clear hcz19_1
          try clear hcz21_0
          try clear hcz21_1
          try clear hcz27_0
          try clear hcz27_1
          try clear hcz29_0
          try clear hcz29_1
          try clear hcz32_0
          try clear hcz32_1
          try clear hcz34_0
          try clear hcz34_1
          try clear hcz40_0
          try clear hcz40_1
          try clear hcz42_0
          try clear hcz42_1
          try clear hcz44_0
          try clear hcz44_1
          try clear hcz5_0
          try clear hcz5_1
          try clear hcz5_2
          try clear hcz5_3
          try clear hcz5_4
          try clear hcz5_5
          try clear hcz8_0
          try clear hcz8_1
          try clear hcz9_0
          try clear hcz9_1
          try clear hcz9_2
          try clear hcz9_3
          try clear hcz9_4
          try clear hcz9_5
          try clear hfz13_0
          try clear hfz13_1
          try clear hfz14_0
          try clear hfz14_1
          try clear hfz14_2
          try clear hfz14_3
          try clear hfz14_4
          try clear hfz14_5
          try clear hfz19_0
          try clear hfz19_1
          try clear hfz21_0
          try clear hfz21_1
          try clear hfz27_0
          try clear hfz27_1
          try clear hfz29_0
          try clear hfz29_1
          try clear hfz32_0
          try clear hfz32_1
          try clear hfz34_0
          try clear hfz34_1
          try clear hfz40_0
          try clear hfz40_1
          try clear hfz42_0
          try clear hfz42_1
          try clear hfz44_0
          try clear hfz44_1
          try clear hfz5_0
          try clear hfz5_1
          try clear hfz5_2
          try clear hfz5_3
          try clear hfz5_4
          try clear hfz5_5
          try clear hfz8_0
          try clear hfz8_1
          try clear hfz9_0
          try clear hfz9_1
          try clear hfz9_2
          try clear hfz9_3
          try clear hfz9_4
          try clear hfz9_5
          try clear p2
          try clear p6
          obtain ⟨x9_2, x10_2, rfl, rfl, HA, HK2, HO_8, BK315, BK316, BK317, HB⟩ := hrel
          cases gk with
          | zero => exact absurd HA.out (by simp [stolonlaw07_HostSays.l0])
          | succ k2 =>
            have H := HA.out
            clear HA
            simp only [stolonlaw07_HostSays.l0] at H
            by_cases c46 : x10_2 < (t321.length : Int)
            · rw [if_pos c46] at H
              have c46b0 : decide (x10_2 < (t321.length : Int)) = true := decide_eq_true c46
              clear c46
              by_cases c47 : 0 ≤ x10_2
              · rw [if_pos c47] at H
                have c47b0 : decide (0 ≤ x10_2) = true := decide_eq_true c47
                clear c47
                replace H := Option.bind_eq_some_iff.mp H
                obtain ⟨t327, A480, H⟩ := H
                replace H : (if ((rd_T36 t321 x10_2).f0) = 3 then (stolonlaw07_HostSays.l0 k2 a0_5 t318 t321 t327 (wrap64 (x10_2 + 1)) a0_3 l0_4) else (if ((rd_T36 t321 x10_2).f0) = 4 then (stolonlaw07_HostSays.l0 k2 a0_5 t318 t321 (!t327) (wrap64 (x10_2 + 1)) a0_3 l0_4) else (if ((rd_T36 t321 x10_2).f0) = 5 then (if x9_2 = true then (stolonlaw07_HostSays.l0 k2 a0_5 t318 t321 true (wrap64 (x10_2 + 1)) a0_3 l0_4) else (stolonlaw07_HostSays.l0 k2 a0_5 t318 t321 t327 (wrap64 (x10_2 + 1)) a0_3 l0_4)) else (if ((rd_T36 t321 x10_2).f0) = 6 then (if x9_2 = true then (stolonlaw07_HostSays.l0 k2 a0_5 t318 t321 (!t327) (wrap64 (x10_2 + 1)) a0_3 l0_4) else (stolonlaw07_HostSays.l0 k2 a0_5 t318 t321 false (wrap64 (x10_2 + 1)) a0_3 l0_4)) else (some false))))) = some r := H
                have A48 := Aside0.mk A480
                clear A480
                by_cases c49 : ((rd_T36 t321 x10_2).f0) = 3
                · rw [if_pos c49] at H
                  have c49b0 : (((rd_T36 t321 x10_2).f0) == 3) = true := beq_iff_eq.mpr c49
                  have c49b1 : (((rd_T36 t321 x10_2).f0) != 3) = false := bne_eq_false_iff_eq.mpr c49
                  clear c49
                  have H' := Aside0.mk H
                  clear H
                  obtain ⟨Ao50, co50, eo50⟩ := Kd.V_slice HO_8.out
                  subst eo50
                  have p326 : 0 ≤ (x10_2 : Int) := of_decide_eq_true (by first | (with_reducible assumption) | assumption)
                  have q326 : x10_2 < (t321.length : Int) := of_decide_eq_true (by first | (with_reducible assumption) | assumption)
                  obtain ⟨ad326, A326_2, c326_2, e326, hx326_0, hx326_1, hx326_2, hl326_2, hi326_2⟩ := at_T36 (Kd.V_reads' HO_8.out).2.2 x10_2 p326 q326
                  cases e326
                  obtain ⟨ce326, hce326, hMe326, hcc326⟩ := Kd.V_get HO_8.out z36 x10_2 p326 (by first | exact q326 | exact of_decide_eq_true (by first | (with_reducible assumption) | assumption) | (have e_ := (Kd.V_reads' HO_8.out).1; omega))
                  obtain ⟨ua326_2, uc326_2, rfl, ul326_2, ge326_2⟩ := k36_openF hMe326
                  have hv326_2 := hcc326 2 _ rfl
                  rw [add_field _ _ 2 (by omega)] at hv326_2
                  replace hv326_2 := Option.some.inj (hv326_2.symm.trans hx326_2)
                  injection hv326_2 with hva_ hvn_ hvc_
                  rw [hva_] at ge326_2
                  rw [hvc_] at ul326_2
                  have HL326_2 := Aside0.mk (show Kd.V (Kd.int .u32) 23 _ w.heap.size _ _ ((rd_T36 t321 x10_2).f2) from Kd.V_mk ul326_2 ge326_2)
                  clear hva_ hvn_ hvc_ ge326_2 ul326_2
                  clear hcc326 hce326
                  have HR326_2 := Aside0.mk hi326_2
                  have HC326_2 := Aside0.mk hl326_2
                  clear hi326_2 hl326_2
                  replace p326 := eq_true p326
                  replace q326 := eq_true q326
                  go_wp2_with (first | ((with_reducible refine gate_callee (f := 12) rfl ?_); refine goesL_ (some 61) rfl rfl Try.func12 (by kernel_rfl) rfl #[.slice A326_2 ((rd_T36 t321 x10_2).f2).length c326_2, .int .u32 a0_5] rfl (by (try simp only [List.map_toArray, List.map_cons, List.map_nil]); first | done | rfl | (simp only [List.length_drop, List.length_take]; rfl)) ?_; (with_reducible refine (stolonref06_Has.calls k2 _ _ ((rd_T36 t321 x10_2).f2) a0_5 t327 _ ?side1 ?side2 A48.out).mono ?_); (case side1 => repeat (first | exact (by repeat (first | (with_reducible exact HR326_2.out) | (with_reducible refine Kd.C_alloc ?_ _) | (with_reducible refine Kd.C_drewN ?_ _) | (with_reducible refine Kd.C_drew ?_) | exact HR326_2.out)) | (with_reducible refine Kd.C_alloc ?_ _) | (with_reducible refine Kd.C_drewN ?_ _) | (with_reducible refine Kd.C_drew ?_))); (case side2 => exact HC326_2.out); rintro e w' ⟨rfl, ⟨nd, rfl⟩⟩; refine ⟨_, rfl, ?_⟩; have p328 : 0 ≤ (x10_2 : Int) := of_decide_eq_true (by first | (with_reducible assumption) | assumption); have q328 : x10_2 < (t321.length : Int) := of_decide_eq_true (by first | (with_reducible assumption) | assumption); obtain ⟨ad328, A328_2, c328_2, e328, hx328_0, hx328_1, hx328_2, hl328_2, hi328_2⟩ := at_T36 (Kd.V_reads' HO_8.out).2.2 x10_2 p328 q328; obtain rfl : ad326 = ad328 := (by injection e328); obtain ⟨ce328, hce328, hMe328, hcc328⟩ := Kd.V_get HO_8.out z36 x10_2 p328 (by first | exact q328 | exact of_decide_eq_true (by first | (with_reducible assumption) | assumption) | (have e_ := (Kd.V_reads' HO_8.out).1; omega)); obtain ⟨ua328_2, uc328_2, rfl, ul328_2, ge328_2⟩ := k36_openF hMe328; have hv328_2 := hcc328 2 _ rfl; rw [add_field _ _ 2 (by omega)] at hv328_2; replace hv328_2 := Option.some.inj (hv328_2.symm.trans hx328_2); injection hv328_2 with hva_ hvn_ hvc_; rw [hva_] at ge328_2; rw [hvc_] at ul328_2; have HL328_2 := Aside0.mk (show Kd.V (Kd.int .u32) 23 _ w.heap.size _ _ ((rd_T36 t321 x10_2).f2) from Kd.V_mk ul328_2 ge328_2); clear hva_ hvn_ hvc_ ge328_2 ul328_2; clear hcc328 hce328; have HR328_2 := Aside0.mk hi328_2; have HC328_2 := Aside0.mk hl328_2; clear hi328_2 hl328_2; replace p328 := eq_true p328; replace q328 := eq_true q328; have ea_ := Option.some.inj (hx326_2.symm.trans hx328_2); injection ea_ with ea_ en_ ec_; subst ea_; subst ec_; clear en_))
                  go_roundg k2
                  case measure => have := HJ2.out; have := HK2.out; omega
                  case rel => exact ⟨(t327), (wrap64 (x10_2 + 1)), (by first | rfl | (simp; done) | (simp [*]; done)), (by first | rfl | (simp; done) | (simp [*]; done)), H', ⟨by have := HJ2.out; have := HK2.out; omega⟩, ⟨by (with_reducible repeat (first | apply Kd.V_alloc | apply Kd.V_drewN | apply Kd.V_drew)); exact HO_8.out⟩, ⟨by (with_reducible repeat (first | refine blk_drewN ?_ _ | refine blk_drew ?_ | refine blk_alloc ?_ _)); exact BK315.out⟩, ⟨by (with_reducible repeat (first | refine blk_drewN ?_ _ | refine blk_drew ?_ | refine blk_alloc ?_ _)); exact BK316.out⟩, ⟨by (with_reducible repeat (first | refine blk_drewN ?_ _ | refine blk_drew ?_ | refine blk_alloc ?_ _)); exact BK317.out⟩, ⟨by repeat (first | (with_reducible first | exact HB.out | apply below_alloc | apply pw_below_drewN | apply below_drew1 | refine below_set ?_ GE315.out | refine below_set ?_ GE316.out | refine below_set ?_ GE317.out) | exact HB.out)⟩⟩
                · rw [if_neg c49] at H
                  have c49b0 : (((rd_T36 t321 x10_2).f0) == 3) = false := beq_eq_false_iff_ne.mpr c49
                  have c49b1 : (((rd_T36 t321 x10_2).f0) != 3) = true := bne_iff_ne.mpr c49
                  by_cases c51 : ((rd_T36 t321 x10_2).f0) = 4
                  · rw [if_pos c51] at H
                    have c51b0 : (((rd_T36 t321 x10_2).f0) == 4) = true := beq_iff_eq.mpr c51
                    have c51b1 : (((rd_T36 t321 x10_2).f0) != 4) = false := bne_eq_false_iff_eq.mpr c51
                    clear c51
                    have H' := Aside0.mk H
                    clear H
                    obtain ⟨Ao52, co52, eo52⟩ := Kd.V_slice HO_8.out
                    subst eo52
                    have p326 : 0 ≤ (x10_2 : Int) := of_decide_eq_true (by first | (with_reducible assumption) | assumption)
                    have q326 : x10_2 < (t321.length : Int) := of_decide_eq_true (by first | (with_reducible assumption) | assumption)
                    obtain ⟨ad326, A326_2, c326_2, e326, hx326_0, hx326_1, hx326_2, hl326_2, hi326_2⟩ := at_T36 (Kd.V_reads' HO_8.out).2.2 x10_2 p326 q326
                    cases e326
                    obtain ⟨ce326, hce326, hMe326, hcc326⟩ := Kd.V_get HO_8.out z36 x10_2 p326 (by first | exact q326 | exact of_decide_eq_true (by first | (with_reducible assumption) | assumption) | (have e_ := (Kd.V_reads' HO_8.out).1; omega))
                    obtain ⟨ua326_2, uc326_2, rfl, ul326_2, ge326_2⟩ := k36_openF hMe326
                    have hv326_2 := hcc326 2 _ rfl
                    rw [add_field _ _ 2 (by omega)] at hv326_2
                    replace hv326_2 := Option.some.inj (hv326_2.symm.trans hx326_2)
                    injection hv326_2 with hva_ hvn_ hvc_
                    rw [hva_] at ge326_2
                    rw [hvc_] at ul326_2
                    have HL326_2 := Aside0.mk (show Kd.V (Kd.int .u32) 23 _ w.heap.size _ _ ((rd_T36 t321 x10_2).f2) from Kd.V_mk ul326_2 ge326_2)
                    clear hva_ hvn_ hvc_ ge326_2 ul326_2
                    clear hcc326 hce326
                    have HR326_2 := Aside0.mk hi326_2
                    have HC326_2 := Aside0.mk hl326_2
                    clear hi326_2 hl326_2
                    replace p326 := eq_true p326
                    replace q326 := eq_true q326
                    go_wp2_with (first | ((with_reducible refine gate_callee (f := 12) rfl ?_); refine goesL_ (some 61) rfl rfl Try.func12 (by kernel_rfl) rfl #[.slice A326_2 ((rd_T36 t321 x10_2).f2).length c326_2, .int .u32 a0_5] rfl (by (try simp only [List.map_toArray, List.map_cons, List.map_nil]); first | done | rfl | (simp only [List.length_drop, List.length_take]; rfl)) ?_; (with_reducible refine (stolonref06_Has.calls k2 _ _ ((rd_T36 t321 x10_2).f2) a0_5 t327 _ ?side1 ?side2 A48.out).mono ?_); (case side1 => repeat (first | exact (by repeat (first | (with_reducible exact HR326_2.out) | (with_reducible refine Kd.C_alloc ?_ _) | (with_reducible refine Kd.C_drewN ?_ _) | (with_reducible refine Kd.C_drew ?_) | exact HR326_2.out)) | (with_reducible refine Kd.C_alloc ?_ _) | (with_reducible refine Kd.C_drewN ?_ _) | (with_reducible refine Kd.C_drew ?_))); (case side2 => exact HC326_2.out); rintro e w' ⟨rfl, ⟨nd, rfl⟩⟩; refine ⟨_, rfl, ?_⟩; have p328 : 0 ≤ (x10_2 : Int) := of_decide_eq_true (by first | (with_reducible assumption) | assumption); have q328 : x10_2 < (t321.length : Int) := of_decide_eq_true (by first | (with_reducible assumption) | assumption); obtain ⟨ad328, A328_2, c328_2, e328, hx328_0, hx328_1, hx328_2, hl328_2, hi328_2⟩ := at_T36 (Kd.V_reads' HO_8.out).2.2 x10_2 p328 q328; obtain rfl : ad326 = ad328 := (by injection e328); obtain ⟨ce328, hce328, hMe328, hcc328⟩ := Kd.V_get HO_8.out z36 x10_2 p328 (by first | exact q328 | exact of_decide_eq_true (by first | (with_reducible assumption) | assumption) | (have e_ := (Kd.V_reads' HO_8.out).1; omega)); obtain ⟨ua328_2, uc328_2, rfl, ul328_2, ge328_2⟩ := k36_openF hMe328; have hv328_2 := hcc328 2 _ rfl; rw [add_field _ _ 2 (by omega)] at hv328_2; replace hv328_2 := Option.some.inj (hv328_2.symm.trans hx328_2); injection hv328_2 with hva_ hvn_ hvc_; rw [hva_] at ge328_2; rw [hvc_] at ul328_2; have HL328_2 := Aside0.mk (show Kd.V (Kd.int .u32) 23 _ w.heap.size _ _ ((rd_T36 t321 x10_2).f2) from Kd.V_mk ul328_2 ge328_2); clear hva_ hvn_ hvc_ ge328_2 ul328_2; clear hcc328 hce328; have HR328_2 := Aside0.mk hi328_2; have HC328_2 := Aside0.mk hl328_2; clear hi328_2 hl328_2; replace p328 := eq_true p328; replace q328 := eq_true q328; have ea_ := Option.some.inj (hx326_2.symm.trans hx328_2); injection ea_ with ea_ en_ ec_; subst ea_; subst ec_; clear en_))
                    go_roundg k2
                    case measure => have := HJ2.out; have := HK2.out; omega
                    case rel => exact ⟨(!t327), (wrap64 (x10_2 + 1)), (by first | rfl | (simp; done) | (simp [*]; done)), (by first | rfl | (simp; done) | (simp [*]; done)), H', ⟨by have := HJ2.out; have := HK2.out; omega⟩, ⟨by (with_reducible repeat (first | apply Kd.V_alloc | apply Kd.V_drewN | apply Kd.V_drew)); exact HO_8.out⟩, ⟨by (with_reducible repeat (first | refine blk_drewN ?_ _ | refine blk_drew ?_ | refine blk_alloc ?_ _)); exact BK315.out⟩, ⟨by (with_reducible repeat (first | refine blk_drewN ?_ _ | refine blk_drew ?_ | refine blk_alloc ?_ _)); exact BK316.out⟩, ⟨by (with_reducible repeat (first | refine blk_drewN ?_ _ | refine blk_drew ?_ | refine blk_alloc ?_ _)); exact BK317.out⟩, ⟨by repeat (first | (with_reducible first | exact HB.out | apply below_alloc | apply pw_below_drewN | apply below_drew1 | refine below_set ?_ GE315.out | refine below_set ?_ GE316.out | refine below_set ?_ GE317.out) | exact HB.out)⟩⟩
                  · rw [if_neg c51] at H
                    have c51b0 : (((rd_T36 t321 x10_2).f0) == 4) = false := beq_eq_false_iff_ne.mpr c51
                    have c51b1 : (((rd_T36 t321 x10_2).f0) != 4) = true := bne_iff_ne.mpr c51
                    by_cases c53 : ((rd_T36 t321 x10_2).f0) = 5
                    · rw [if_pos c53] at H
                      have c53b0 : (((rd_T36 t321 x10_2).f0) == 5) = true := beq_iff_eq.mpr c53
                      have c53b1 : (((rd_T36 t321 x10_2).f0) != 5) = false := bne_eq_false_iff_eq.mpr c53
                      clear c53
                      by_cases c54 : x9_2 = true
                      · subst c54
                        have H1 : (stolonlaw07_HostSays.l0 k2 a0_5 t318 t321 true (wrap64 (x10_2 + 1)) a0_3 l0_4) = some r := by rw [if_pos rfl] at H; exact H
                        clear H
                        have H := H1
                        clear H1
                        have H' := Aside0.mk H
                        clear H
                        obtain ⟨Ao55, co55, eo55⟩ := Kd.V_slice HO_8.out
                        subst eo55
                        have p326 : 0 ≤ (x10_2 : Int) := of_decide_eq_true (by first | (with_reducible assumption) | assumption)
                        have q326 : x10_2 < (t321.length : Int) := of_decide_eq_true (by first | (with_reducible assumption) | assumption)
                        obtain ⟨ad326, A326_2, c326_2, e326, hx326_0, hx326_1, hx326_2, hl326_2, hi326_2⟩ := at_T36 (Kd.V_reads' HO_8.out).2.2 x10_2 p326 q326
                        cases e326
                        obtain ⟨ce326, hce326, hMe326, hcc326⟩ := Kd.V_get HO_8.out z36 x10_2 p326 (by first | exact q326 | exact of_decide_eq_true (by first | (with_reducible assumption) | assumption) | (have e_ := (Kd.V_reads' HO_8.out).1; omega))
                        obtain ⟨ua326_2, uc326_2, rfl, ul326_2, ge326_2⟩ := k36_openF hMe326
                        have hv326_2 := hcc326 2 _ rfl
                        rw [add_field _ _ 2 (by omega)] at hv326_2
                        replace hv326_2 := Option.some.inj (hv326_2.symm.trans hx326_2)
                        injection hv326_2 with hva_ hvn_ hvc_
                        rw [hva_] at ge326_2
                        rw [hvc_] at ul326_2
                        have HL326_2 := Aside0.mk (show Kd.V (Kd.int .u32) 23 _ w.heap.size _ _ ((rd_T36 t321 x10_2).f2) from Kd.V_mk ul326_2 ge326_2)
                        clear hva_ hvn_ hvc_ ge326_2 ul326_2
                        clear hcc326 hce326
                        have HR326_2 := Aside0.mk hi326_2
                        have HC326_2 := Aside0.mk hl326_2
                        clear hi326_2 hl326_2
                        replace p326 := eq_true p326
                        replace q326 := eq_true q326
                        go_wp2_with (first | ((with_reducible refine gate_callee (f := 12) rfl ?_); refine goesL_ (some 61) rfl rfl Try.func12 (by kernel_rfl) rfl #[.slice A326_2 ((rd_T36 t321 x10_2).f2).length c326_2, .int .u32 a0_5] rfl (by (try simp only [List.map_toArray, List.map_cons, List.map_nil]); first | done | rfl | (simp only [List.length_drop, List.length_take]; rfl)) ?_; (with_reducible refine (stolonref06_Has.calls k2 _ _ ((rd_T36 t321 x10_2).f2) a0_5 t327 _ ?side1 ?side2 A48.out).mono ?_); (case side1 => repeat (first | exact (by repeat (first | (with_reducible exact HR326_2.out) | (with_reducible refine Kd.C_alloc ?_ _) | (with_reducible refine Kd.C_drewN ?_ _) | (with_reducible refine Kd.C_drew ?_) | exact HR326_2.out)) | (with_reducible refine Kd.C_alloc ?_ _) | (with_reducible refine Kd.C_drewN ?_ _) | (with_reducible refine Kd.C_drew ?_))); (case side2 => exact HC326_2.out); rintro e w' ⟨rfl, ⟨nd, rfl⟩⟩; refine ⟨_, rfl, ?_⟩; have p328 : 0 ≤ (x10_2 : Int) := of_decide_eq_true (by first | (with_reducible assumption) | assumption); have q328 : x10_2 < (t321.length : Int) := of_decide_eq_true (by first | (with_reducible assumption) | assumption); obtain ⟨ad328, A328_2, c328_2, e328, hx328_0, hx328_1, hx328_2, hl328_2, hi328_2⟩ := at_T36 (Kd.V_reads' HO_8.out).2.2 x10_2 p328 q328; obtain rfl : ad326 = ad328 := (by injection e328); obtain ⟨ce328, hce328, hMe328, hcc328⟩ := Kd.V_get HO_8.out z36 x10_2 p328 (by first | exact q328 | exact of_decide_eq_true (by first | (with_reducible assumption) | assumption) | (have e_ := (Kd.V_reads' HO_8.out).1; omega)); obtain ⟨ua328_2, uc328_2, rfl, ul328_2, ge328_2⟩ := k36_openF hMe328; have hv328_2 := hcc328 2 _ rfl; rw [add_field _ _ 2 (by omega)] at hv328_2; replace hv328_2 := Option.some.inj (hv328_2.symm.trans hx328_2); injection hv328_2 with hva_ hvn_ hvc_; rw [hva_] at ge328_2; rw [hvc_] at ul328_2; have HL328_2 := Aside0.mk (show Kd.V (Kd.int .u32) 23 _ w.heap.size _ _ ((rd_T36 t321 x10_2).f2) from Kd.V_mk ul328_2 ge328_2); clear hva_ hvn_ hvc_ ge328_2 ul328_2; clear hcc328 hce328; have HR328_2 := Aside0.mk hi328_2; have HC328_2 := Aside0.mk hl328_2; clear hi328_2 hl328_2; replace p328 := eq_true p328; replace q328 := eq_true q328; have ea_ := Option.some.inj (hx326_2.symm.trans hx328_2); injection ea_ with ea_ en_ ec_; subst ea_; subst ec_; clear en_))
                        go_roundg k2
                        case measure => have := HJ2.out; have := HK2.out; omega
                        case rel => exact ⟨(true), (wrap64 (x10_2 + 1)), (by first | rfl | (simp; done) | (simp [*]; done)), (by first | rfl | (simp; done) | (simp [*]; done)), H', ⟨by have := HJ2.out; have := HK2.out; omega⟩, ⟨by (with_reducible repeat (first | apply Kd.V_alloc | apply Kd.V_drewN | apply Kd.V_drew)); exact HO_8.out⟩, ⟨by (with_reducible repeat (first | refine blk_drewN ?_ _ | refine blk_drew ?_ | refine blk_alloc ?_ _)); exact BK315.out⟩, ⟨by (with_reducible repeat (first | refine blk_drewN ?_ _ | refine blk_drew ?_ | refine blk_alloc ?_ _)); exact BK316.out⟩, ⟨by (with_reducible repeat (first | refine blk_drewN ?_ _ | refine blk_drew ?_ | refine blk_alloc ?_ _)); exact BK317.out⟩, ⟨by repeat (first | (with_reducible first | exact HB.out | apply below_alloc | apply pw_below_drewN | apply below_drew1 | refine below_set ?_ GE315.out | refine below_set ?_ GE316.out | refine below_set ?_ GE317.out) | exact HB.out)⟩⟩
                      · replace c54 := Bool.eq_false_iff.mpr c54
                        subst c54
                        have H1 : (stolonlaw07_HostSays.l0 k2 a0_5 t318 t321 t327 (wrap64 (x10_2 + 1)) a0_3 l0_4) = some r := by rw [if_neg (show ¬ (false = true) by decide)] at H; exact H
                        clear H
                        have H := H1
                        clear H1
                        have H' := Aside0.mk H
                        clear H
                        obtain ⟨Ao56, co56, eo56⟩ := Kd.V_slice HO_8.out
                        subst eo56
                        have p326 : 0 ≤ (x10_2 : Int) := of_decide_eq_true (by first | (with_reducible assumption) | assumption)
                        have q326 : x10_2 < (t321.length : Int) := of_decide_eq_true (by first | (with_reducible assumption) | assumption)
                        obtain ⟨ad326, A326_2, c326_2, e326, hx326_0, hx326_1, hx326_2, hl326_2, hi326_2⟩ := at_T36 (Kd.V_reads' HO_8.out).2.2 x10_2 p326 q326
                        cases e326
                        obtain ⟨ce326, hce326, hMe326, hcc326⟩ := Kd.V_get HO_8.out z36 x10_2 p326 (by first | exact q326 | exact of_decide_eq_true (by first | (with_reducible assumption) | assumption) | (have e_ := (Kd.V_reads' HO_8.out).1; omega))
                        obtain ⟨ua326_2, uc326_2, rfl, ul326_2, ge326_2⟩ := k36_openF hMe326
                        have hv326_2 := hcc326 2 _ rfl
                        rw [add_field _ _ 2 (by omega)] at hv326_2
                        replace hv326_2 := Option.some.inj (hv326_2.symm.trans hx326_2)
                        injection hv326_2 with hva_ hvn_ hvc_
                        rw [hva_] at ge326_2
                        rw [hvc_] at ul326_2
                        have HL326_2 := Aside0.mk (show Kd.V (Kd.int .u32) 23 _ w.heap.size _ _ ((rd_T36 t321 x10_2).f2) from Kd.V_mk ul326_2 ge326_2)
                        clear hva_ hvn_ hvc_ ge326_2 ul326_2
                        clear hcc326 hce326
                        have HR326_2 := Aside0.mk hi326_2
                        have HC326_2 := Aside0.mk hl326_2
                        clear hi326_2 hl326_2
                        replace p326 := eq_true p326
                        replace q326 := eq_true q326
                        go_wp2_with (first | ((with_reducible refine gate_callee (f := 12) rfl ?_); refine goesL_ (some 61) rfl rfl Try.func12 (by kernel_rfl) rfl #[.slice A326_2 ((rd_T36 t321 x10_2).f2).length c326_2, .int .u32 a0_5] rfl (by (try simp only [List.map_toArray, List.map_cons, List.map_nil]); first | done | rfl | (simp only [List.length_drop, List.length_take]; rfl)) ?_; (with_reducible refine (stolonref06_Has.calls k2 _ _ ((rd_T36 t321 x10_2).f2) a0_5 t327 _ ?side1 ?side2 A48.out).mono ?_); (case side1 => repeat (first | exact (by repeat (first | (with_reducible exact HR326_2.out) | (with_reducible refine Kd.C_alloc ?_ _) | (with_reducible refine Kd.C_drewN ?_ _) | (with_reducible refine Kd.C_drew ?_) | exact HR326_2.out)) | (with_reducible refine Kd.C_alloc ?_ _) | (with_reducible refine Kd.C_drewN ?_ _) | (with_reducible refine Kd.C_drew ?_))); (case side2 => exact HC326_2.out); rintro e w' ⟨rfl, ⟨nd, rfl⟩⟩; refine ⟨_, rfl, ?_⟩; have p328 : 0 ≤ (x10_2 : Int) := of_decide_eq_true (by first | (with_reducible assumption) | assumption); have q328 : x10_2 < (t321.length : Int) := of_decide_eq_true (by first | (with_reducible assumption) | assumption); obtain ⟨ad328, A328_2, c328_2, e328, hx328_0, hx328_1, hx328_2, hl328_2, hi328_2⟩ := at_T36 (Kd.V_reads' HO_8.out).2.2 x10_2 p328 q328; obtain rfl : ad326 = ad328 := (by injection e328); obtain ⟨ce328, hce328, hMe328, hcc328⟩ := Kd.V_get HO_8.out z36 x10_2 p328 (by first | exact q328 | exact of_decide_eq_true (by first | (with_reducible assumption) | assumption) | (have e_ := (Kd.V_reads' HO_8.out).1; omega)); obtain ⟨ua328_2, uc328_2, rfl, ul328_2, ge328_2⟩ := k36_openF hMe328; have hv328_2 := hcc328 2 _ rfl; rw [add_field _ _ 2 (by omega)] at hv328_2; replace hv328_2 := Option.some.inj (hv328_2.symm.trans hx328_2); injection hv328_2 with hva_ hvn_ hvc_; rw [hva_] at ge328_2; rw [hvc_] at ul328_2; have HL328_2 := Aside0.mk (show Kd.V (Kd.int .u32) 23 _ w.heap.size _ _ ((rd_T36 t321 x10_2).f2) from Kd.V_mk ul328_2 ge328_2); clear hva_ hvn_ hvc_ ge328_2 ul328_2; clear hcc328 hce328; have HR328_2 := Aside0.mk hi328_2; have HC328_2 := Aside0.mk hl328_2; clear hi328_2 hl328_2; replace p328 := eq_true p328; replace q328 := eq_true q328; have ea_ := Option.some.inj (hx326_2.symm.trans hx328_2); injection ea_ with ea_ en_ ec_; subst ea_; subst ec_; clear en_))
                        go_roundg k2
                        case measure => have := HJ2.out; have := HK2.out; omega
                        case rel => exact ⟨(t327), (wrap64 (x10_2 + 1)), (by first | rfl | (simp; done) | (simp [*]; done)), (by first | rfl | (simp; done) | (simp [*]; done)), H', ⟨by have := HJ2.out; have := HK2.out; omega⟩, ⟨by (with_reducible repeat (first | apply Kd.V_alloc | apply Kd.V_drewN | apply Kd.V_drew)); exact HO_8.out⟩, ⟨by (with_reducible repeat (first | refine blk_drewN ?_ _ | refine blk_drew ?_ | refine blk_alloc ?_ _)); exact BK315.out⟩, ⟨by (with_reducible repeat (first | refine blk_drewN ?_ _ | refine blk_drew ?_ | refine blk_alloc ?_ _)); exact BK316.out⟩, ⟨by (with_reducible repeat (first | refine blk_drewN ?_ _ | refine blk_drew ?_ | refine blk_alloc ?_ _)); exact BK317.out⟩, ⟨by repeat (first | (with_reducible first | exact HB.out | apply below_alloc | apply pw_below_drewN | apply below_drew1 | refine below_set ?_ GE315.out | refine below_set ?_ GE316.out | refine below_set ?_ GE317.out) | exact HB.out)⟩⟩
                    · rw [if_neg c53] at H
                      have c53b0 : (((rd_T36 t321 x10_2).f0) == 5) = false := beq_eq_false_iff_ne.mpr c53
                      have c53b1 : (((rd_T36 t321 x10_2).f0) != 5) = true := bne_iff_ne.mpr c53
                      by_cases c57 : ((rd_T36 t321 x10_2).f0) = 6
                      · rw [if_pos c57] at H
                        have c57b0 : (((rd_T36 t321 x10_2).f0) == 6) = true := beq_iff_eq.mpr c57
                        have c57b1 : (((rd_T36 t321 x10_2).f0) != 6) = false := bne_eq_false_iff_eq.mpr c57
                        clear c57
                        by_cases c58 : x9_2 = true
                        · subst c58
                          have H1 : (stolonlaw07_HostSays.l0 k2 a0_5 t318 t321 (!t327) (wrap64 (x10_2 + 1)) a0_3 l0_4) = some r := by rw [if_pos rfl] at H; exact H
                          clear H
                          have H := H1
                          clear H1
                          have H' := Aside0.mk H
                          clear H
                          obtain ⟨Ao59, co59, eo59⟩ := Kd.V_slice HO_8.out
                          subst eo59
                          have p326 : 0 ≤ (x10_2 : Int) := of_decide_eq_true (by first | (with_reducible assumption) | assumption)
                          have q326 : x10_2 < (t321.length : Int) := of_decide_eq_true (by first | (with_reducible assumption) | assumption)
                          obtain ⟨ad326, A326_2, c326_2, e326, hx326_0, hx326_1, hx326_2, hl326_2, hi326_2⟩ := at_T36 (Kd.V_reads' HO_8.out).2.2 x10_2 p326 q326
                          cases e326
                          obtain ⟨ce326, hce326, hMe326, hcc326⟩ := Kd.V_get HO_8.out z36 x10_2 p326 (by first | exact q326 | exact of_decide_eq_true (by first | (with_reducible assumption) | assumption) | (have e_ := (Kd.V_reads' HO_8.out).1; omega))
                          obtain ⟨ua326_2, uc326_2, rfl, ul326_2, ge326_2⟩ := k36_openF hMe326
                          have hv326_2 := hcc326 2 _ rfl
                          rw [add_field _ _ 2 (by omega)] at hv326_2
                          replace hv326_2 := Option.some.inj (hv326_2.symm.trans hx326_2)
                          injection hv326_2 with hva_ hvn_ hvc_
                          rw [hva_] at ge326_2
                          rw [hvc_] at ul326_2
                          have HL326_2 := Aside0.mk (show Kd.V (Kd.int .u32) 23 _ w.heap.size _ _ ((rd_T36 t321 x10_2).f2) from Kd.V_mk ul326_2 ge326_2)
                          clear hva_ hvn_ hvc_ ge326_2 ul326_2
                          clear hcc326 hce326
                          have HR326_2 := Aside0.mk hi326_2
                          have HC326_2 := Aside0.mk hl326_2
                          clear hi326_2 hl326_2
                          replace p326 := eq_true p326
                          replace q326 := eq_true q326
                          go_wp2_with (first | ((with_reducible refine gate_callee (f := 12) rfl ?_); refine goesL_ (some 61) rfl rfl Try.func12 (by kernel_rfl) rfl #[.slice A326_2 ((rd_T36 t321 x10_2).f2).length c326_2, .int .u32 a0_5] rfl (by (try simp only [List.map_toArray, List.map_cons, List.map_nil]); first | done | rfl | (simp only [List.length_drop, List.length_take]; rfl)) ?_; (with_reducible refine (stolonref06_Has.calls k2 _ _ ((rd_T36 t321 x10_2).f2) a0_5 t327 _ ?side1 ?side2 A48.out).mono ?_); (case side1 => repeat (first | exact (by repeat (first | (with_reducible exact HR326_2.out) | (with_reducible refine Kd.C_alloc ?_ _) | (with_reducible refine Kd.C_drewN ?_ _) | (with_reducible refine Kd.C_drew ?_) | exact HR326_2.out)) | (with_reducible refine Kd.C_alloc ?_ _) | (with_reducible refine Kd.C_drewN ?_ _) | (with_reducible refine Kd.C_drew ?_))); (case side2 => exact HC326_2.out); rintro e w' ⟨rfl, ⟨nd, rfl⟩⟩; refine ⟨_, rfl, ?_⟩; have p328 : 0 ≤ (x10_2 : Int) := of_decide_eq_true (by first | (with_reducible assumption) | assumption); have q328 : x10_2 < (t321.length : Int) := of_decide_eq_true (by first | (with_reducible assumption) | assumption); obtain ⟨ad328, A328_2, c328_2, e328, hx328_0, hx328_1, hx328_2, hl328_2, hi328_2⟩ := at_T36 (Kd.V_reads' HO_8.out).2.2 x10_2 p328 q328; obtain rfl : ad326 = ad328 := (by injection e328); obtain ⟨ce328, hce328, hMe328, hcc328⟩ := Kd.V_get HO_8.out z36 x10_2 p328 (by first | exact q328 | exact of_decide_eq_true (by first | (with_reducible assumption) | assumption) | (have e_ := (Kd.V_reads' HO_8.out).1; omega)); obtain ⟨ua328_2, uc328_2, rfl, ul328_2, ge328_2⟩ := k36_openF hMe328; have hv328_2 := hcc328 2 _ rfl; rw [add_field _ _ 2 (by omega)] at hv328_2; replace hv328_2 := Option.some.inj (hv328_2.symm.trans hx328_2); injection hv328_2 with hva_ hvn_ hvc_; rw [hva_] at ge328_2; rw [hvc_] at ul328_2; have HL328_2 := Aside0.mk (show Kd.V (Kd.int .u32) 23 _ w.heap.size _ _ ((rd_T36 t321 x10_2).f2) from Kd.V_mk ul328_2 ge328_2); clear hva_ hvn_ hvc_ ge328_2 ul328_2; clear hcc328 hce328; have HR328_2 := Aside0.mk hi328_2; have HC328_2 := Aside0.mk hl328_2; clear hi328_2 hl328_2; replace p328 := eq_true p328; replace q328 := eq_true q328; have ea_ := Option.some.inj (hx326_2.symm.trans hx328_2); injection ea_ with ea_ en_ ec_; subst ea_; subst ec_; clear en_))
                          go_roundg k2
                          case measure => have := HJ2.out; have := HK2.out; omega
                          case rel => exact ⟨(!t327), (wrap64 (x10_2 + 1)), (by first | rfl | (simp; done) | (simp [*]; done)), (by first | rfl | (simp; done) | (simp [*]; done)), H', ⟨by have := HJ2.out; have := HK2.out; omega⟩, ⟨by (with_reducible repeat (first | apply Kd.V_alloc | apply Kd.V_drewN | apply Kd.V_drew)); exact HO_8.out⟩, ⟨by (with_reducible repeat (first | refine blk_drewN ?_ _ | refine blk_drew ?_ | refine blk_alloc ?_ _)); exact BK315.out⟩, ⟨by (with_reducible repeat (first | refine blk_drewN ?_ _ | refine blk_drew ?_ | refine blk_alloc ?_ _)); exact BK316.out⟩, ⟨by (with_reducible repeat (first | refine blk_drewN ?_ _ | refine blk_drew ?_ | refine blk_alloc ?_ _)); exact BK317.out⟩, ⟨by repeat (first | (with_reducible first | exact HB.out | apply below_alloc | apply pw_below_drewN | apply below_drew1 | refine below_set ?_ GE315.out | refine below_set ?_ GE316.out | refine below_set ?_ GE317.out) | exact HB.out)⟩⟩
                        · replace c58 := Bool.eq_false_iff.mpr c58
                          subst c58
                          have H1 : (stolonlaw07_HostSays.l0 k2 a0_5 t318 t321 false (wrap64 (x10_2 + 1)) a0_3 l0_4) = some r := by rw [if_neg (show ¬ (false = true) by decide)] at H; exact H
                          clear H
                          have H := H1
                          clear H1
                          have H' := Aside0.mk H
                          clear H
                          obtain ⟨Ao60, co60, eo60⟩ := Kd.V_slice HO_8.out
                          subst eo60
                          have p326 : 0 ≤ (x10_2 : Int) := of_decide_eq_true (by first | (with_reducible assumption) | assumption)
                          have q326 : x10_2 < (t321.length : Int) := of_decide_eq_true (by first | (with_reducible assumption) | assumption)
                          obtain ⟨ad326, A326_2, c326_2, e326, hx326_0, hx326_1, hx326_2, hl326_2, hi326_2⟩ := at_T36 (Kd.V_reads' HO_8.out).2.2 x10_2 p326 q326
                          cases e326
                          obtain ⟨ce326, hce326, hMe326, hcc326⟩ := Kd.V_get HO_8.out z36 x10_2 p326 (by first | exact q326 | exact of_decide_eq_true (by first | (with_reducible assumption) | assumption) | (have e_ := (Kd.V_reads' HO_8.out).1; omega))
                          obtain ⟨ua326_2, uc326_2, rfl, ul326_2, ge326_2⟩ := k36_openF hMe326
                          have hv326_2 := hcc326 2 _ rfl
                          rw [add_field _ _ 2 (by omega)] at hv326_2
                          replace hv326_2 := Option.some.inj (hv326_2.symm.trans hx326_2)
                          injection hv326_2 with hva_ hvn_ hvc_
                          rw [hva_] at ge326_2
                          rw [hvc_] at ul326_2
                          have HL326_2 := Aside0.mk (show Kd.V (Kd.int .u32) 23 _ w.heap.size _ _ ((rd_T36 t321 x10_2).f2) from Kd.V_mk ul326_2 ge326_2)
                          clear hva_ hvn_ hvc_ ge326_2 ul326_2
                          clear hcc326 hce326
                          have HR326_2 := Aside0.mk hi326_2
                          have HC326_2 := Aside0.mk hl326_2
                          clear hi326_2 hl326_2
                          replace p326 := eq_true p326
                          replace q326 := eq_true q326
                          go_wp2_with (first | ((with_reducible refine gate_callee (f := 12) rfl ?_); refine goesL_ (some 61) rfl rfl Try.func12 (by kernel_rfl) rfl #[.slice A326_2 ((rd_T36 t321 x10_2).f2).length c326_2, .int .u32 a0_5] rfl (by (try simp only [List.map_toArray, List.map_cons, List.map_nil]); first | done | rfl | (simp only [List.length_drop, List.length_take]; rfl)) ?_; (with_reducible refine (stolonref06_Has.calls k2 _ _ ((rd_T36 t321 x10_2).f2) a0_5 t327 _ ?side1 ?side2 A48.out).mono ?_); (case side1 => repeat (first | exact (by repeat (first | (with_reducible exact HR326_2.out) | (with_reducible refine Kd.C_alloc ?_ _) | (with_reducible refine Kd.C_drewN ?_ _) | (with_reducible refine Kd.C_drew ?_) | exact HR326_2.out)) | (with_reducible refine Kd.C_alloc ?_ _) | (with_reducible refine Kd.C_drewN ?_ _) | (with_reducible refine Kd.C_drew ?_))); (case side2 => exact HC326_2.out); rintro e w' ⟨rfl, ⟨nd, rfl⟩⟩; refine ⟨_, rfl, ?_⟩; have p328 : 0 ≤ (x10_2 : Int) := of_decide_eq_true (by first | (with_reducible assumption) | assumption); have q328 : x10_2 < (t321.length : Int) := of_decide_eq_true (by first | (with_reducible assumption) | assumption); obtain ⟨ad328, A328_2, c328_2, e328, hx328_0, hx328_1, hx328_2, hl328_2, hi328_2⟩ := at_T36 (Kd.V_reads' HO_8.out).2.2 x10_2 p328 q328; obtain rfl : ad326 = ad328 := (by injection e328); obtain ⟨ce328, hce328, hMe328, hcc328⟩ := Kd.V_get HO_8.out z36 x10_2 p328 (by first | exact q328 | exact of_decide_eq_true (by first | (with_reducible assumption) | assumption) | (have e_ := (Kd.V_reads' HO_8.out).1; omega)); obtain ⟨ua328_2, uc328_2, rfl, ul328_2, ge328_2⟩ := k36_openF hMe328; have hv328_2 := hcc328 2 _ rfl; rw [add_field _ _ 2 (by omega)] at hv328_2; replace hv328_2 := Option.some.inj (hv328_2.symm.trans hx328_2); injection hv328_2 with hva_ hvn_ hvc_; rw [hva_] at ge328_2; rw [hvc_] at ul328_2; have HL328_2 := Aside0.mk (show Kd.V (Kd.int .u32) 23 _ w.heap.size _ _ ((rd_T36 t321 x10_2).f2) from Kd.V_mk ul328_2 ge328_2); clear hva_ hvn_ hvc_ ge328_2 ul328_2; clear hcc328 hce328; have HR328_2 := Aside0.mk hi328_2; have HC328_2 := Aside0.mk hl328_2; clear hi328_2 hl328_2; replace p328 := eq_true p328; replace q328 := eq_true q328; have ea_ := Option.some.inj (hx326_2.symm.trans hx328_2); injection ea_ with ea_ en_ ec_; subst ea_; subst ec_; clear en_))
                          go_roundg k2
                          case measure => have := HJ2.out; have := HK2.out; omega
                          case rel => exact ⟨(false), (wrap64 (x10_2 + 1)), (by first | rfl | (simp; done) | (simp [*]; done)), (by first | rfl | (simp; done) | (simp [*]; done)), H', ⟨by have := HJ2.out; have := HK2.out; omega⟩, ⟨by (with_reducible repeat (first | apply Kd.V_alloc | apply Kd.V_drewN | apply Kd.V_drew)); exact HO_8.out⟩, ⟨by (with_reducible repeat (first | refine blk_drewN ?_ _ | refine blk_drew ?_ | refine blk_alloc ?_ _)); exact BK315.out⟩, ⟨by (with_reducible repeat (first | refine blk_drewN ?_ _ | refine blk_drew ?_ | refine blk_alloc ?_ _)); exact BK316.out⟩, ⟨by (with_reducible repeat (first | refine blk_drewN ?_ _ | refine blk_drew ?_ | refine blk_alloc ?_ _)); exact BK317.out⟩, ⟨by repeat (first | (with_reducible first | exact HB.out | apply below_alloc | apply pw_below_drewN | apply below_drew1 | refine below_set ?_ GE315.out | refine below_set ?_ GE316.out | refine below_set ?_ GE317.out) | exact HB.out)⟩⟩
                      · rw [if_neg c57] at H
                        have c57b0 : (((rd_T36 t321 x10_2).f0) == 6) = false := beq_eq_false_iff_ne.mpr c57
                        have c57b1 : (((rd_T36 t321 x10_2).f0) != 6) = true := bne_iff_ne.mpr c57
                        obtain rfl := Option.some.inj H
                        obtain ⟨Ao61, co61, eo61⟩ := Kd.V_slice HO_8.out
                        subst eo61
                        have p326 : 0 ≤ (x10_2 : Int) := of_decide_eq_true (by first | (with_reducible assumption) | assumption)
                        have q326 : x10_2 < (t321.length : Int) := of_decide_eq_true (by first | (with_reducible assumption) | assumption)
                        obtain ⟨ad326, A326_2, c326_2, e326, hx326_0, hx326_1, hx326_2, hl326_2, hi326_2⟩ := at_T36 (Kd.V_reads' HO_8.out).2.2 x10_2 p326 q326
                        cases e326
                        obtain ⟨ce326, hce326, hMe326, hcc326⟩ := Kd.V_get HO_8.out z36 x10_2 p326 (by first | exact q326 | exact of_decide_eq_true (by first | (with_reducible assumption) | assumption) | (have e_ := (Kd.V_reads' HO_8.out).1; omega))
                        obtain ⟨ua326_2, uc326_2, rfl, ul326_2, ge326_2⟩ := k36_openF hMe326
                        have hv326_2 := hcc326 2 _ rfl
                        rw [add_field _ _ 2 (by omega)] at hv326_2
                        replace hv326_2 := Option.some.inj (hv326_2.symm.trans hx326_2)
                        injection hv326_2 with hva_ hvn_ hvc_
                        rw [hva_] at ge326_2
                        rw [hvc_] at ul326_2
                        have HL326_2 := Aside0.mk (show Kd.V (Kd.int .u32) 23 _ w.heap.size _ _ ((rd_T36 t321 x10_2).f2) from Kd.V_mk ul326_2 ge326_2)
                        clear hva_ hvn_ hvc_ ge326_2 ul326_2
                        clear hcc326 hce326
                        have HR326_2 := Aside0.mk hi326_2
                        have HC326_2 := Aside0.mk hl326_2
                        clear hi326_2 hl326_2
                        replace p326 := eq_true p326
                        replace q326 := eq_true q326
                        go_wp2_with (first | ((with_reducible refine gate_callee (f := 12) rfl ?_); refine goesL_ (some 61) rfl rfl Try.func12 (by kernel_rfl) rfl #[.slice A326_2 ((rd_T36 t321 x10_2).f2).length c326_2, .int .u32 a0_5] rfl (by (try simp only [List.map_toArray, List.map_cons, List.map_nil]); first | done | rfl | (simp only [List.length_drop, List.length_take]; rfl)) ?_; (with_reducible refine (stolonref06_Has.calls k2 _ _ ((rd_T36 t321 x10_2).f2) a0_5 t327 _ ?side1 ?side2 A48.out).mono ?_); (case side1 => repeat (first | exact (by repeat (first | (with_reducible exact HR326_2.out) | (with_reducible refine Kd.C_alloc ?_ _) | (with_reducible refine Kd.C_drewN ?_ _) | (with_reducible refine Kd.C_drew ?_) | exact HR326_2.out)) | (with_reducible refine Kd.C_alloc ?_ _) | (with_reducible refine Kd.C_drewN ?_ _) | (with_reducible refine Kd.C_drew ?_))); (case side2 => exact HC326_2.out); rintro e w' ⟨rfl, ⟨nd, rfl⟩⟩; refine ⟨_, rfl, ?_⟩; have p328 : 0 ≤ (x10_2 : Int) := of_decide_eq_true (by first | (with_reducible assumption) | assumption); have q328 : x10_2 < (t321.length : Int) := of_decide_eq_true (by first | (with_reducible assumption) | assumption); obtain ⟨ad328, A328_2, c328_2, e328, hx328_0, hx328_1, hx328_2, hl328_2, hi328_2⟩ := at_T36 (Kd.V_reads' HO_8.out).2.2 x10_2 p328 q328; obtain rfl : ad326 = ad328 := (by injection e328); obtain ⟨ce328, hce328, hMe328, hcc328⟩ := Kd.V_get HO_8.out z36 x10_2 p328 (by first | exact q328 | exact of_decide_eq_true (by first | (with_reducible assumption) | assumption) | (have e_ := (Kd.V_reads' HO_8.out).1; omega)); obtain ⟨ua328_2, uc328_2, rfl, ul328_2, ge328_2⟩ := k36_openF hMe328; have hv328_2 := hcc328 2 _ rfl; rw [add_field _ _ 2 (by omega)] at hv328_2; replace hv328_2 := Option.some.inj (hv328_2.symm.trans hx328_2); injection hv328_2 with hva_ hvn_ hvc_; rw [hva_] at ge328_2; rw [hvc_] at ul328_2; have HL328_2 := Aside0.mk (show Kd.V (Kd.int .u32) 23 _ w.heap.size _ _ ((rd_T36 t321 x10_2).f2) from Kd.V_mk ul328_2 ge328_2); clear hva_ hvn_ hvc_ ge328_2 ul328_2; clear hcc328 hce328; have HR328_2 := Aside0.mk hi328_2; have HC328_2 := Aside0.mk hl328_2; clear hi328_2 hl328_2; replace p328 := eq_true p328; replace q328 := eq_true q328; have ea_ := Option.some.inj (hx326_2.symm.trans hx328_2); injection ea_ with ea_ en_ ec_; subst ea_; subst ec_; clear en_))
                        go_ret
                        exact ⟨by first | rfl | (simp [errW_none, errW_some] <;> rfl) | (simp [*, errW_none, errW_some] <;> rfl), by repeat (first | (with_reducible first | exact HB.out | apply below_alloc | apply pw_below_drewN | apply below_drew1 | refine below_set ?_ GE315.out | refine below_set ?_ GE316.out | refine below_set ?_ GE317.out) | exact HB.out)⟩
              · rw [if_neg c47] at H
                exact absurd H (by simp)
            · rw [if_neg c46] at H
              have c46b0 : decide (x10_2 < (t321.length : Int)) = false := decide_eq_false c46
              clear c46
              by_cases c62 : t318 = true
              · subst c62
                have H1 : (if (t321.length : Int) ≤ 2 then ((stolonref06_Wants.f k2 a0_3 l0_4 a0_5).bind fun t325 => (some (x9_2 == t325))) else (some false)) = some r := by rw [if_pos rfl] at H; exact H
                clear H
                have H := H1
                clear H1
                by_cases c63 : (t321.length : Int) ≤ 2
                · rw [if_pos c63] at H
                  have c63b0 : decide ((t321.length : Int) ≤ 2) = true := decide_eq_true c63
                  have c63b1 : decide (t321.length ≤ 2) = true := decide_eq_true (by omega)
                  clear c63
                  replace H := Option.bind_eq_some_iff.mp H
                  obtain ⟨t325, A640, H⟩ := H
                  replace H : (some (x9_2 == t325)) = some r := H
                  have A64 := Aside0.mk A640
                  clear A640
                  obtain rfl := Option.some.inj H
                  obtain ⟨Ao65, co65, eo65⟩ := Kd.V_slice HO_8.out
                  subst eo65
                  have hnb66 := NB317_315.out
                  have hnc66 := NB315_317.out
                  have hnb67 := NB317_316.out
                  have hnc67 := NB316_317.out
                  have hcz68_0 : wr.cell? ⟨gb317, 0, none⟩ = some (.bool a0_3) := (blk_cell BK317.out 0).trans rfl
                  have hcz68_1 : wr.cell? ⟨gb317, 1, none⟩ = some (.slice A0_4 l0_4.length c0_4) := (blk_cell BK317.out 1).trans rfl
                  have hfz68_0 := blk_frozen BK317.out 0
                  have hfz68_1 := blk_frozen BK317.out 1
                  go_wp2_with (first | (go_at_call 11; (with_reducible refine (stolonref06_Wants.calls k2 a0_3 _ _ l0_4 a0_5 t325 _ ?side1 ?side2 A64.out).mono ?_); (case side1 => repeat (first | exact (Kd.C_below HR0_4.out HB.out) | (with_reducible refine Kd.C_alloc ?_ _) | (with_reducible refine Kd.C_drewN ?_ _) | (with_reducible refine Kd.C_drew ?_))); (case side2 => exact HC0_4.out); rintro e w69 ⟨rfl, hb⟩; have n0_ := Aside0.mk (Kd.V_below (by (with_reducible repeat (first | apply Kd.V_alloc | apply Kd.V_drewN | apply Kd.V_drew)); exact HO_8.out) hb); have n1_ := Aside0.mk (blk_below (g := gb315) (o := .cells #[.int .u32 a0_0, .bool a0_1, .slice A0_2 l0_2.length c0_2, .bool a0_3, .slice A0_4 l0_4.length c0_4, .int .u32 a0_5] 28 (0, 0)) (by (with_reducible repeat (first | refine blk_drewN ?_ _ | refine blk_drew ?_ | refine blk_alloc ?_ _)); exact BK315.out) hb); have n2_ := Aside0.mk (blk_below (g := gb316) (o := .cells #[.bool a0_1, .slice A0_2 l0_2.length c0_2] 26 (0, 0)) (by (with_reducible repeat (first | refine blk_drewN ?_ _ | refine blk_drew ?_ | refine blk_alloc ?_ _)); exact BK316.out) hb); have n3_ := Aside0.mk (blk_below (g := gb317) (o := .cells #[.bool a0_3, .slice A0_4 l0_4.length c0_4] 26 (0, 0)) (by (with_reducible repeat (first | refine blk_drewN ?_ _ | refine blk_drew ?_ | refine blk_alloc ?_ _)); exact BK317.out) hb); have n4_ := Aside0.mk (below_step (by repeat (first | (with_reducible first | exact HB.out | apply below_alloc | apply pw_below_drewN | apply below_drew1 | refine below_set ?_ GE315.out | refine below_set ?_ GE316.out | refine below_set ?_ GE317.out) | exact HB.out)) hb); clear HO_8; clear BK315; clear BK316; clear BK317; clear HB; have HO_8 := n0_; have BK315 := n1_; have BK316 := n2_; have BK317 := n3_; have HB := n4_; clear n0_ n1_ n2_ n3_ n4_; (try clear hb); (try clear hb2); (try clear hk); (try clear hi)))
                  go_ret
                  exact ⟨by first | rfl | (simp [errW_none, errW_some] <;> rfl) | (simp [*, errW_none, errW_some] <;> rfl), by repeat (first | (with_reducible first | exact HB.out | apply below_alloc | apply pw_below_drewN | apply below_drew1 | refine below_set ?_ GE315.out | refine below_set ?_ GE316.out | refine below_set ?_ GE317.out) | exact HB.out)⟩
                · rw [if_neg c63] at H
                  have c63b0 : decide ((t321.length : Int) ≤ 2) = false := decide_eq_false c63
                  have c63b1 : decide (t321.length ≤ 2) = false := decide_eq_false (by omega)
                  clear c63
                  obtain rfl := Option.some.inj H
                  obtain ⟨Ao70, co70, eo70⟩ := Kd.V_slice HO_8.out
                  subst eo70
                  go_wp2
                  go_ret
                  exact ⟨by first | rfl | (simp [errW_none, errW_some] <;> rfl) | (simp [*, errW_none, errW_some] <;> rfl), by repeat (first | (with_reducible first | exact HB.out | apply below_alloc | apply pw_below_drewN | apply below_drew1 | refine below_set ?_ GE315.out | refine below_set ?_ GE316.out | refine below_set ?_ GE317.out) | exact HB.out)⟩
              · replace c62 := Bool.eq_false_iff.mpr c62
                subst c62
                have H1 : (some false) = some r := by rw [if_neg (show ¬ (false = true) by decide)] at H; exact H
                clear H
                have H := H1
                clear H1
                obtain rfl := Option.some.inj H
                obtain ⟨Ao71, co71, eo71⟩ := Kd.V_slice HO_8.out
                subst eo71
                go_wp2
                go_ret
                exact ⟨by first | rfl | (simp [errW_none, errW_some] <;> rfl) | (simp [*, errW_none, errW_some] <;> rfl), by repeat (first | (with_reducible first | exact HB.out | apply below_alloc | apply pw_below_drewN | apply below_drew1 | refine below_set ?_ GE315.out | refine below_set ?_ GE316.out | refine below_set ?_ GE317.out) | exact HB.out)⟩

end Go.Proofs.Ytjncmiclpaodhaa.PHo
