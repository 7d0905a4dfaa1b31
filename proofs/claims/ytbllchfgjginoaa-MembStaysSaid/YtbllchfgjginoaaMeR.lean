/- Texts of a claim. -/
import Derived.Test.YtbllchfgjginoaaPMe0
import Derived.Test.YtbllchfgjginoaaMeV
import Derived.Test.YtbllchfgjginoaaPMf2
import Derived.Test.YtbllchfgjginoaaMeF
import Derived.Test.YtbllchfgjginoaaMeQ
import Derived.Test.YtbllchfgjginoaaPMf4
-- written by a program of this session (hprint.py), over the kit's printer
namespace Go.Proofs.Ytbllchfgjginoaa.PMe
open Go.RowKit Go.Proofs.YtbllchfgjginoaaW.PrintWords Go.Proofs.YtbllchfgjginoaaW.PrintLast Go.Proofs.YtbllchfgjginoaaW.PrintMore
attribute [local go_sem] max2_int min2_int max_two min_two max_three min_three max_four min_four   -- for this text's walks alone
set_option linter.unusedVariables false
set_option linter.unusedSimpArgs false

theorem eqA49 (d : Nat) (w : World) (x0 y0 : Int) (x1 y1 : Int) :
    (Op.equalIn (d + 2) 49 (.agg #[.int .u32 x0, .int .i64 x1]) (.agg #[.int .u32 y0, .int .i64 y1])).run Try.prog w = .ok (x0 == y0 && (x1 == y1)) w := by
  refine eqA_of Try.underlying49 (by kernel_rfl) ?_
  refine eqf_cons (by rfl) (by go_simp; rfl) (by go_simp; rfl) (by go_simp) ?_
  exact eqf_last (by rfl) (by go_simp; rfl) (by go_simp; rfl) (by go_simp)

attribute [local go_sem high] eqA49
/-! ### stolonref08_Same: function 14 -/
mutual
def stolonref08_Same.j0 : Nat → Bool → Int → Bool → Int → List (S49) → Int → Bool → Int → List (S49) → Option (Bool)
  | 0, _, _, _, _, _, _, _, _, _ => none
  | k + 1, x33, x127000, x127001, x127002, x127003, x128000, x128001, x128002, x128003 => if x33 = true then (some false) else (stolonref08_Same.l0 k 0 x127000 x127001 x127002 x127003 x128000 x128001 x128002 x128003)
def stolonref08_Same.l0 : Nat → Int → Int → Bool → Int → List (S49) → Int → Bool → Int → List (S49) → Option (Bool)
  | 0, _, _, _, _, _, _, _, _, _ => none
  | k + 1, x5, x127000, x127001, x127002, x127003, x128000, x128001, x128002, x128003 => if x5 < (x127003.length : Int) then (if 0 ≤ x5 then (if x5 < (x128003.length : Int) then (if (!(((rd_T49 x127003 x5).f0) == ((rd_T49 x128003 x5).f0)) || (!(((rd_T49 x127003 x5).f1) == ((rd_T49 x128003 x5).f1)))) = true then (some false) else (stolonref08_Same.l0 k (wrap64 (x5 + 1)) x127000 x127001 x127002 x127003 x128000 x128001 x128002 x128003)) else (none)) else (none)) else (some true)
end
def stolonref08_Same.f (k : Nat) (a0_0 : Int) (a0_1 : Bool) (a0_2 : Int) (l0_3 : List (S49)) (a1_0 : Int) (a1_1 : Bool) (a1_2 : Int) (l1_3 : List (S49)) : Option (Bool) := if a0_0 = a1_0 then (if (a0_1 != a1_1) = true then (stolonref08_Same.j0 k true a0_0 a0_1 a0_2 l0_3 a1_0 a1_1 a1_2 l1_3) else (if a0_2 = a1_2 then (stolonref08_Same.j0 k ((l0_3.length : Int) != (l1_3.length : Int)) a0_0 a0_1 a0_2 l0_3 a1_0 a1_1 a1_2 l1_3) else (stolonref08_Same.j0 k true a0_0 a0_1 a0_2 l0_3 a1_0 a1_1 a1_2 l1_3))) else (stolonref08_Same.j0 k true a0_0 a0_1 a0_2 l0_3 a1_0 a1_1 a1_2 l1_3)
set_option maxHeartbeats 8000000 in
set_option maxRecDepth 100000 in
theorem stolonref08_Same.calls (k : Nat) (a0_0 : Int) (a0_1 : Bool) (a0_2 : Int) (A0_3 : Option Addr) (c0_3 : Nat) (l0_3 : List (S49)) (a1_0 : Int) (a1_1 : Bool) (a1_2 : Int) (A1_3 : Option Addr) (c1_3 : Nat) (l1_3 : List (S49)) (r : Bool) (w : World) (hr0_3 : Kd.C k49 w A0_3 l0_3.length l0_3) (hc0_3 : l0_3.length ≤ c0_3) (hr1_3 : Kd.C k49 w A1_3 l1_3.length l1_3) (hc1_3 : l1_3.length ≤ c1_3) (h : stolonref08_Same.f k a0_0 a0_1 a0_2 l0_3 a1_0 a1_1 a1_2 l1_3 = some r) :
    Calls Try.prog 14 #[.agg #[.int .u32 a0_0, .bool a0_1, .int .i64 a0_2, .slice A0_3 l0_3.length c0_3], .agg #[.int .u32 a1_0, .bool a1_1, .int .i64 a1_2, .slice A1_3 l1_3.length c1_3]] w fun e w' => e = .returned (.bool r) ∧ Below w.heap.size w w' := by
  have hu28 := Try.underlying28
  have hu49 := Try.underlying49
  have HR0_3 := Aside0.mk hr0_3
  have HC0_3 := Aside0.mk hc0_3
  clear hr0_3 hc0_3
  have HR1_3 := Aside0.mk hr1_3
  have HC1_3 := Aside0.mk hc1_3
  clear hr1_3 hc1_3
  have HB := Aside0.mk (Below.refl w.heap.size w)
  have H : (if a0_0 = a1_0 then (if (a0_1 != a1_1) = true then (stolonref08_Same.j0 k true a0_0 a0_1 a0_2 l0_3 a1_0 a1_1 a1_2 l1_3) else (if a0_2 = a1_2 then (stolonref08_Same.j0 k ((l0_3.length : Int) != (l1_3.length : Int)) a0_0 a0_1 a0_2 l0_3 a1_0 a1_1 a1_2 l1_3) else (stolonref08_Same.j0 k true a0_0 a0_1 a0_2 l0_3 a1_0 a1_1 a1_2 l1_3))) else (stolonref08_Same.j0 k true a0_0 a0_1 a0_2 l0_3 a1_0 a1_1 a1_2 l1_3)) = some r := h
  clear h
  have HC3 := Aside0.mk H
  clear H
  go_enter Try.func14, Try.ntmps14
  go_upto_region 1 with (first | ((with_reducible refine gate_dst (N := 2) rfl ?_); (try (refine gate_guard (by rfl) ?_; dsimp only)); refine box_event ?hg (N := 2) ?hd (cs := #[.int .u32 a0_0, .bool a0_1, .int .i64 a0_2, .slice A0_3 l0_3.length c0_3]) (t := 28) ?hr ?_; (case hd => rfl); (case hg => rfl); (case hr => first | (go_simp; done) | (go_simp; rfl)); intro gb126 hg w4 hbox hb; have n0_ := Aside0.mk (below_step (by repeat (first | (with_reducible first | exact HB.out | apply below_alloc | apply pw_below_drewN | apply below_drew1) | exact HB.out)) hb); have n1_ := Aside0.mk (hbox); have n2_ := Aside0.mk ((by rw [hg]; exact (below_size (by repeat (first | (with_reducible first | exact HB.out | apply below_alloc | apply pw_below_drewN | apply below_drew1) | exact HB.out))) : w.heap.size ≤ gb126)); have n3_ := Aside0.mk ((by rw [hg]; exact (below_size (by repeat (first | (with_reducible first | exact HB.out | apply below_alloc | apply pw_below_drewN | apply below_drew1) | exact HB.out))) : w.heap.size ≤ gb126)); clear HB; have HB := n0_; have BK126 := n1_; have GW126 := n2_; have GE126 := n3_; clear n0_ n1_ n2_ n3_; clear hb hbox hg) | ((with_reducible refine gate_dst (N := 3) rfl ?_); (try (refine gate_guard (by rfl) ?_; dsimp only)); refine box_event ?hg (N := 3) ?hd (cs := #[.int .u32 a1_0, .bool a1_1, .int .i64 a1_2, .slice A1_3 l1_3.length c1_3]) (t := 28) ?hr ?_; (case hd => rfl); (case hg => rfl); (case hr => first | (go_simp; done) | (go_simp; rfl)); intro gb127 hg w5 hbox hb; have n0_ := Aside0.mk (blk_below (g := gb126) (o := .cells #[.int .u32 a0_0, .bool a0_1, .int .i64 a0_2, .slice A0_3 l0_3.length c0_3] 28 (0, 0)) (by (with_reducible repeat (first | refine blk_drewN ?_ _ | refine blk_drew ?_ | refine blk_alloc ?_ _)); exact BK126.out) hb); have n1_ := Aside0.mk (below_step (by repeat (first | (with_reducible first | exact HB.out | apply below_alloc | apply pw_below_drewN | apply below_drew1 | refine below_set ?_ GE126.out) | exact HB.out)) hb); have n2_ := Aside0.mk (hbox); have n3_ := Aside0.mk ((by rw [hg]; exact (below_size (by repeat (first | (with_reducible first | exact HB.out | apply below_alloc | apply pw_below_drewN | apply below_drew1 | refine below_set ?_ GE126.out) | exact HB.out))) : w.heap.size ≤ gb127)); have n4_ := Aside0.mk ((by rw [hg]; exact (below_size (by repeat (first | (with_reducible first | exact HB.out | apply below_alloc | apply pw_below_drewN | apply below_drew1 | refine below_set ?_ GE126.out) | exact HB.out))) : w.heap.size ≤ gb127)); have n5_ := Aside0.mk ((by rw [hg]; exact Nat.ne_of_lt (blk_lt (g := gb126) (o := .cells #[.int .u32 a0_0, .bool a0_1, .int .i64 a0_2, .slice A0_3 l0_3.length c0_3] 28 (0, 0)) (by (with_reducible repeat (first | refine blk_drewN ?_ _ | refine blk_drew ?_ | refine blk_alloc ?_ _)); exact BK126.out)) : gb126 ≠ gb127)); have n6_ := Aside0.mk ((by rw [hg]; exact Nat.ne_of_gt (blk_lt (g := gb126) (o := .cells #[.int .u32 a0_0, .bool a0_1, .int .i64 a0_2, .slice A0_3 l0_3.length c0_3] 28 (0, 0)) (by (with_reducible repeat (first | refine blk_drewN ?_ _ | refine blk_drew ?_ | refine blk_alloc ?_ _)); exact BK126.out)) : gb127 ≠ gb126)); clear BK126; clear HB; have BK126 := n0_; have HB := n1_; have BK127 := n2_; have GW127 := n3_; have GE127 := n4_; have NB126_127 := n5_; have NB127_126 := n6_; clear n0_ n1_ n2_ n3_ n4_ n5_ n6_; clear hb hbox hg))
  repeat (go_quiet (first | ((with_reducible refine gate_dst (N := 2) rfl ?_); (try (refine gate_guard (by rfl) ?_; dsimp only)); refine box_event ?hg (N := 2) ?hd (cs := #[.int .u32 a0_0, .bool a0_1, .int .i64 a0_2, .slice A0_3 l0_3.length c0_3]) (t := 28) ?hr ?_; (case hd => rfl); (case hg => rfl); (case hr => first | (go_simp; done) | (go_simp; rfl)); intro gb126 hg w4 hbox hb; have n0_ := Aside0.mk (below_step (by repeat (first | (with_reducible first | exact HB.out | apply below_alloc | apply pw_below_drewN | apply below_drew1) | exact HB.out)) hb); have n1_ := Aside0.mk (hbox); have n2_ := Aside0.mk ((by rw [hg]; exact (below_size (by repeat (first | (with_reducible first | exact HB.out | apply below_alloc | apply pw_below_drewN | apply below_drew1) | exact HB.out))) : w.heap.size ≤ gb126)); have n3_ := Aside0.mk ((by rw [hg]; exact (below_size (by repeat (first | (with_reducible first | exact HB.out | apply below_alloc | apply pw_below_drewN | apply below_drew1) | exact HB.out))) : w.heap.size ≤ gb126)); clear HB; have HB := n0_; have BK126 := n1_; have GW126 := n2_; have GE126 := n3_; clear n0_ n1_ n2_ n3_; clear hb hbox hg) | ((with_reducible refine gate_dst (N := 3) rfl ?_); (try (refine gate_guard (by rfl) ?_; dsimp only)); refine box_event ?hg (N := 3) ?hd (cs := #[.int .u32 a1_0, .bool a1_1, .int .i64 a1_2, .slice A1_3 l1_3.length c1_3]) (t := 28) ?hr ?_; (case hd => rfl); (case hg => rfl); (case hr => first | (go_simp; done) | (go_simp; rfl)); intro gb127 hg w5 hbox hb; have n0_ := Aside0.mk (blk_below (g := gb126) (o := .cells #[.int .u32 a0_0, .bool a0_1, .int .i64 a0_2, .slice A0_3 l0_3.length c0_3] 28 (0, 0)) (by (with_reducible repeat (first | refine blk_drewN ?_ _ | refine blk_drew ?_ | refine blk_alloc ?_ _)); exact BK126.out) hb); have n1_ := Aside0.mk (below_step (by repeat (first | (with_reducible first | exact HB.out | apply below_alloc | apply pw_below_drewN | apply below_drew1 | refine below_set ?_ GE126.out) | exact HB.out)) hb); have n2_ := Aside0.mk (hbox); have n3_ := Aside0.mk ((by rw [hg]; exact (below_size (by repeat (first | (with_reducible first | exact HB.out | apply below_alloc | apply pw_below_drewN | apply below_drew1 | refine below_set ?_ GE126.out) | exact HB.out))) : w.heap.size ≤ gb127)); have n4_ := Aside0.mk ((by rw [hg]; exact (below_size (by repeat (first | (with_reducible first | exact HB.out | apply below_alloc | apply pw_below_drewN | apply below_drew1 | refine below_set ?_ GE126.out) | exact HB.out))) : w.heap.size ≤ gb127)); have n5_ := Aside0.mk ((by rw [hg]; exact Nat.ne_of_lt (blk_lt (g := gb126) (o := .cells #[.int .u32 a0_0, .bool a0_1, .int .i64 a0_2, .slice A0_3 l0_3.length c0_3] 28 (0, 0)) (by (with_reducible repeat (first | refine blk_drewN ?_ _ | refine blk_drew ?_ | refine blk_alloc ?_ _)); exact BK126.out)) : gb126 ≠ gb127)); have n6_ := Aside0.mk ((by rw [hg]; exact Nat.ne_of_gt (blk_lt (g := gb126) (o := .cells #[.int .u32 a0_0, .bool a0_1, .int .i64 a0_2, .slice A0_3 l0_3.length c0_3] 28 (0, 0)) (by (with_reducible repeat (first | refine blk_drewN ?_ _ | refine blk_drew ?_ | refine blk_alloc ?_ _)); exact BK126.out)) : gb127 ≠ gb126)); clear BK126; clear HB; have BK126 := n0_; have HB := n1_; have BK127 := n2_; have GW127 := n3_; have GE127 := n4_; have NB126_127 := n5_; have NB127_126 := n6_; clear n0_ n1_ n2_ n3_ n4_ n5_ n6_; clear hb hbox hg)); go_upto_region 1 with (first | ((with_reducible refine gate_dst (N := 2) rfl ?_); (try (refine gate_guard (by rfl) ?_; dsimp only)); refine box_event ?hg (N := 2) ?hd (cs := #[.int .u32 a0_0, .bool a0_1, .int .i64 a0_2, .slice A0_3 l0_3.length c0_3]) (t := 28) ?hr ?_; (case hd => rfl); (case hg => rfl); (case hr => first | (go_simp; done) | (go_simp; rfl)); intro gb126 hg w4 hbox hb; have n0_ := Aside0.mk (below_step (by repeat (first | (with_reducible first | exact HB.out | apply below_alloc | apply pw_below_drewN | apply below_drew1) | exact HB.out)) hb); have n1_ := Aside0.mk (hbox); have n2_ := Aside0.mk ((by rw [hg]; exact (below_size (by repeat (first | (with_reducible first | exact HB.out | apply below_alloc | apply pw_below_drewN | apply below_drew1) | exact HB.out))) : w.heap.size ≤ gb126)); have n3_ := Aside0.mk ((by rw [hg]; exact (below_size (by repeat (first | (with_reducible first | exact HB.out | apply below_alloc | apply pw_below_drewN | apply below_drew1) | exact HB.out))) : w.heap.size ≤ gb126)); clear HB; have HB := n0_; have BK126 := n1_; have GW126 := n2_; have GE126 := n3_; clear n0_ n1_ n2_ n3_; clear hb hbox hg) | ((with_reducible refine gate_dst (N := 3) rfl ?_); (try (refine gate_guard (by rfl) ?_; dsimp only)); refine box_event ?hg (N := 3) ?hd (cs := #[.int .u32 a1_0, .bool a1_1, .int .i64 a1_2, .slice A1_3 l1_3.length c1_3]) (t := 28) ?hr ?_; (case hd => rfl); (case hg => rfl); (case hr => first | (go_simp; done) | (go_simp; rfl)); intro gb127 hg w5 hbox hb; have n0_ := Aside0.mk (blk_below (g := gb126) (o := .cells #[.int .u32 a0_0, .bool a0_1, .int .i64 a0_2, .slice A0_3 l0_3.length c0_3] 28 (0, 0)) (by (with_reducible repeat (first | refine blk_drewN ?_ _ | refine blk_drew ?_ | refine blk_alloc ?_ _)); exact BK126.out) hb); have n1_ := Aside0.mk (below_step (by repeat (first | (with_reducible first | exact HB.out | apply below_alloc | apply pw_below_drewN | apply below_drew1 | refine below_set ?_ GE126.out) | exact HB.out)) hb); have n2_ := Aside0.mk (hbox); have n3_ := Aside0.mk ((by rw [hg]; exact (below_size (by repeat (first | (with_reducible first | exact HB.out | apply below_alloc | apply pw_below_drewN | apply below_drew1 | refine below_set ?_ GE126.out) | exact HB.out))) : w.heap.size ≤ gb127)); have n4_ := Aside0.mk ((by rw [hg]; exact (below_size (by repeat (first | (with_reducible first | exact HB.out | apply below_alloc | apply pw_below_drewN | apply below_drew1 | refine below_set ?_ GE126.out) | exact HB.out))) : w.heap.size ≤ gb127)); have n5_ := Aside0.mk ((by rw [hg]; exact Nat.ne_of_lt (blk_lt (g := gb126) (o := .cells #[.int .u32 a0_0, .bool a0_1, .int .i64 a0_2, .slice A0_3 l0_3.length c0_3] 28 (0, 0)) (by (with_reducible repeat (first | refine blk_drewN ?_ _ | refine blk_drew ?_ | refine blk_alloc ?_ _)); exact BK126.out)) : gb126 ≠ gb127)); have n6_ := Aside0.mk ((by rw [hg]; exact Nat.ne_of_gt (blk_lt (g := gb126) (o := .cells #[.int .u32 a0_0, .bool a0_1, .int .i64 a0_2, .slice A0_3 l0_3.length c0_3] 28 (0, 0)) (by (with_reducible repeat (first | refine blk_drewN ?_ _ | refine blk_drew ?_ | refine blk_alloc ?_ _)); exact BK126.out)) : gb127 ≠ gb126)); clear BK126; clear HB; have BK126 := n0_; have HB := n1_; have BK127 := n2_; have GW127 := n3_; have GE127 := n4_; have NB126_127 := n5_; have NB127_126 := n6_; clear n0_ n1_ n2_ n3_ n4_ n5_ n6_; clear hb hbox hg)))
  (try simp only [Act.put, List.setIfInBounds_toArray, List.set_cons_zero, List.set_cons_succ])
  go_cut [33] (fun v33 wc => ∃ (kq : Nat) (x33_2 : Bool), v33 = .bool x33_2 ∧ Aside0 (stolonref08_Same.j0 kq x33_2 a0_0 a0_1 a0_2 l0_3 a1_0 a1_1 a1_2 l1_3 = some r) ∧ Aside0 (kq ≤ k) ∧ Aside0 (wc.heap[gb126]? = some (.cells #[.int .u32 a0_0, .bool a0_1, .int .i64 a0_2, (.slice A0_3 l0_3.length c0_3)] 28 (0, 0))) ∧ Aside0 (wc.heap[gb127]? = some (.cells #[.int .u32 a1_0, .bool a1_1, .int .i64 a1_2, (.slice A1_3 l1_3.length c1_3)] 28 (0, 0))) ∧ Aside0 (Below w.heap.size w wc))
  case first =>
    have H := HC3.out
    clear HC3
    by_cases c6 : a0_0 = a1_0
    · rw [if_pos c6] at H
      have c6b0 : (a0_0 == a1_0) = true := beq_iff_eq.mpr c6
      have c6b1 : (a0_0 != a1_0) = false := bne_eq_false_iff_eq.mpr c6
      clear c6
      (first | rw [c6b0] | (simp only [i64_w, i32_w]; rw [c6b0]) | skip)
      by_cases c7 : (a0_1 != a1_1) = true
      · rw [if_pos c7] at H
        have c7b0 : (a0_1 != a1_1) = true := c7
        (try (have c7b1 : decide (a0_1 = a1_1) = false := by simpa using c7))
        (try (have c7b2 : (a0_1 == a1_1) = false := by simpa using c7))
        (try (have c7b3 : ¬ (a0_1 = a1_1) := by simpa using c7))
        clear c7
        have H' := Aside0.mk H
        clear H
        have hnb8 := NB126_127.out
        have hnc8 := NB127_126.out
        have hcz9_0 : w5.cell? ⟨gb126, 0, none⟩ = some (.int .u32 a0_0) := (blk_cell BK126.out 0).trans rfl
        have hcz9_1 : w5.cell? ⟨gb126, 1, none⟩ = some (.bool a0_1) := (blk_cell BK126.out 1).trans rfl
        have hcz9_2 : w5.cell? ⟨gb126, 2, none⟩ = some (.int .i64 a0_2) := (blk_cell BK126.out 2).trans rfl
        have hcz9_3 : w5.cell? ⟨gb126, 3, none⟩ = some (.slice A0_3 l0_3.length c0_3) := (blk_cell BK126.out 3).trans rfl
        have hfz9_0 := blk_frozen BK126.out 0
        have hfz9_1 := blk_frozen BK126.out 1
        have hfz9_2 := blk_frozen BK126.out 2
        have hfz9_3 := blk_frozen BK126.out 3
        have hcz10_0 : w5.cell? ⟨gb127, 0, none⟩ = some (.int .u32 a1_0) := (blk_cell BK127.out 0).trans rfl
        have hcz10_1 : w5.cell? ⟨gb127, 1, none⟩ = some (.bool a1_1) := (blk_cell BK127.out 1).trans rfl
        have hcz10_2 : w5.cell? ⟨gb127, 2, none⟩ = some (.int .i64 a1_2) := (blk_cell BK127.out 2).trans rfl
        have hcz10_3 : w5.cell? ⟨gb127, 3, none⟩ = some (.slice A1_3 l1_3.length c1_3) := (blk_cell BK127.out 3).trans rfl
        have hfz10_0 := blk_frozen BK127.out 0
        have hfz10_1 := blk_frozen BK127.out 1
        have hfz10_2 := blk_frozen BK127.out 2
        have hfz10_3 := blk_frozen BK127.out 3
        go_wp2
        repeat (go_quiet (fail); try go_wp2)
        go_meet
        case rel => exact ⟨_, (true), (by first | rfl | (simp; done) | (simp [*]; done)), H', ⟨by first | omega | exact Nat.le_refl _⟩, ⟨by (with_reducible repeat (first | refine blk_drewN ?_ _ | refine blk_drew ?_ | refine blk_alloc ?_ _)); exact BK126.out⟩, ⟨by (with_reducible repeat (first | refine blk_drewN ?_ _ | refine blk_drew ?_ | refine blk_alloc ?_ _)); exact BK127.out⟩, ⟨by repeat (first | (with_reducible first | exact HB.out | apply below_alloc | apply pw_below_drewN | apply below_drew1 | refine below_set ?_ GE126.out | refine below_set ?_ GE127.out) | exact HB.out)⟩⟩
      · rw [if_neg c7] at H
        have c7b0 : (a0_1 != a1_1) = false := by simpa using c7
        (try (have c7b1 : decide (a0_1 = a1_1) = true := by simpa using c7))
        (try (have c7b2 : (a0_1 == a1_1) = true := by simpa using c7))
        clear c7
        by_cases c11 : a0_2 = a1_2
        · rw [if_pos c11] at H
          have c11b0 : (a0_2 == a1_2) = true := beq_iff_eq.mpr c11
          have c11b1 : (a0_2 != a1_2) = false := bne_eq_false_iff_eq.mpr c11
          clear c11
          have H' := Aside0.mk H
          clear H
          have hnb12 := NB126_127.out
          have hnc12 := NB127_126.out
          have hcz13_0 : w5.cell? ⟨gb126, 0, none⟩ = some (.int .u32 a0_0) := (blk_cell BK126.out 0).trans rfl
          have hcz13_1 : w5.cell? ⟨gb126, 1, none⟩ = some (.bool a0_1) := (blk_cell BK126.out 1).trans rfl
          have hcz13_2 : w5.cell? ⟨gb126, 2, none⟩ = some (.int .i64 a0_2) := (blk_cell BK126.out 2).trans rfl
          have hcz13_3 : w5.cell? ⟨gb126, 3, none⟩ = some (.slice A0_3 l0_3.length c0_3) := (blk_cell BK126.out 3).trans rfl
          have hfz13_0 := blk_frozen BK126.out 0
          have hfz13_1 := blk_frozen BK126.out 1
          have hfz13_2 := blk_frozen BK126.out 2
          have hfz13_3 := blk_frozen BK126.out 3
          have hcz14_0 : w5.cell? ⟨gb127, 0, none⟩ = some (.int .u32 a1_0) := (blk_cell BK127.out 0).trans rfl
          have hcz14_1 : w5.cell? ⟨gb127, 1, none⟩ = some (.bool a1_1) := (blk_cell BK127.out 1).trans rfl
          have hcz14_2 : w5.cell? ⟨gb127, 2, none⟩ = some (.int .i64 a1_2) := (blk_cell BK127.out 2).trans rfl
          have hcz14_3 : w5.cell? ⟨gb127, 3, none⟩ = some (.slice A1_3 l1_3.length c1_3) := (blk_cell BK127.out 3).trans rfl
          have hfz14_0 := blk_frozen BK127.out 0
          have hfz14_1 := blk_frozen BK127.out 1
          have hfz14_2 := blk_frozen BK127.out 2
          have hfz14_3 := blk_frozen BK127.out 3
          go_wp2
          repeat (go_quiet (fail); try go_wp2)
          go_meet
          case rel => exact ⟨_, (((l0_3.length : Int) != (l1_3.length : Int))), (by first | rfl | (simp; done) | (simp [*]; done)), H', ⟨by first | omega | exact Nat.le_refl _⟩, ⟨by (with_reducible repeat (first | refine blk_drewN ?_ _ | refine blk_drew ?_ | refine blk_alloc ?_ _)); exact BK126.out⟩, ⟨by (with_reducible repeat (first | refine blk_drewN ?_ _ | refine blk_drew ?_ | refine blk_alloc ?_ _)); exact BK127.out⟩, ⟨by repeat (first | (with_reducible first | exact HB.out | apply below_alloc | apply pw_below_drewN | apply below_drew1 | refine below_set ?_ GE126.out | refine below_set ?_ GE127.out) | exact HB.out)⟩⟩
        · rw [if_neg c11] at H
          have c11b0 : (a0_2 == a1_2) = false := beq_eq_false_iff_ne.mpr c11
          have c11b1 : (a0_2 != a1_2) = true := bne_iff_ne.mpr c11
          have H' := Aside0.mk H
          clear H
          have hnb15 := NB126_127.out
          have hnc15 := NB127_126.out
          have hcz16_0 : w5.cell? ⟨gb126, 0, none⟩ = some (.int .u32 a0_0) := (blk_cell BK126.out 0).trans rfl
          have hcz16_1 : w5.cell? ⟨gb126, 1, none⟩ = some (.bool a0_1) := (blk_cell BK126.out 1).trans rfl
          have hcz16_2 : w5.cell? ⟨gb126, 2, none⟩ = some (.int .i64 a0_2) := (blk_cell BK126.out 2).trans rfl
          have hcz16_3 : w5.cell? ⟨gb126, 3, none⟩ = some (.slice A0_3 l0_3.length c0_3) := (blk_cell BK126.out 3).trans rfl
          have hfz16_0 := blk_frozen BK126.out 0
          have hfz16_1 := blk_frozen BK126.out 1
          have hfz16_2 := blk_frozen BK126.out 2
          have hfz16_3 := blk_frozen BK126.out 3
          have hcz17_0 : w5.cell? ⟨gb127, 0, none⟩ = some (.int .u32 a1_0) := (blk_cell BK127.out 0).trans rfl
          have hcz17_1 : w5.cell? ⟨gb127, 1, none⟩ = some (.bool a1_1) := (blk_cell BK127.out 1).trans rfl
          have hcz17_2 : w5.cell? ⟨gb127, 2, none⟩ = some (.int .i64 a1_2) := (blk_cell BK127.out 2).trans rfl
          have hcz17_3 : w5.cell? ⟨gb127, 3, none⟩ = some (.slice A1_3 l1_3.length c1_3) := (blk_cell BK127.out 3).trans rfl
          have hfz17_0 := blk_frozen BK127.out 0
          have hfz17_1 := blk_frozen BK127.out 1
          have hfz17_2 := blk_frozen BK127.out 2
          have hfz17_3 := blk_frozen BK127.out 3
          go_wp2
          repeat (go_quiet (fail); try go_wp2)
          go_meet
          case rel => exact ⟨_, (true), (by first | rfl | (simp; done) | (simp [*]; done)), H', ⟨by first | omega | exact Nat.le_refl _⟩, ⟨by (with_reducible repeat (first | refine blk_drewN ?_ _ | refine blk_drew ?_ | refine blk_alloc ?_ _)); exact BK126.out⟩, ⟨by (with_reducible repeat (first | refine blk_drewN ?_ _ | refine blk_drew ?_ | refine blk_alloc ?_ _)); exact BK127.out⟩, ⟨by repeat (first | (with_reducible first | exact HB.out | apply below_alloc | apply pw_below_drewN | apply below_drew1 | refine below_set ?_ GE126.out | refine below_set ?_ GE127.out) | exact HB.out)⟩⟩
    · rw [if_neg c6] at H
      have c6b0 : (a0_0 == a1_0) = false := beq_eq_false_iff_ne.mpr c6
      have c6b1 : (a0_0 != a1_0) = true := bne_iff_ne.mpr c6
      (first | rw [c6b0] | (simp only [i64_w, i32_w]; rw [c6b0]) | skip)
      have H' := Aside0.mk H
      clear H
      have hnb18 := NB126_127.out
      have hnc18 := NB127_126.out
      have hcz19_0 : w5.cell? ⟨gb126, 0, none⟩ = some (.int .u32 a0_0) := (blk_cell BK126.out 0).trans rfl
      have hcz19_1 : w5.cell? ⟨gb126, 1, none⟩ = some (.bool a0_1) := (blk_cell BK126.out 1).trans rfl
      have hcz19_2 : w5.cell? ⟨gb126, 2, none⟩ = some (.int .i64 a0_2) := (blk_cell BK126.out 2).trans rfl
      have hcz19_3 : w5.cell? ⟨gb126, 3, none⟩ = some (.slice A0_3 l0_3.length c0_3) := (blk_cell BK126.out 3).trans rfl
      have hfz19_0 := blk_frozen BK126.out 0
      have hfz19_1 := blk_frozen BK126.out 1
      have hfz19_2 := blk_frozen BK126.out 2
      have hfz19_3 := blk_frozen BK126.out 3
      have hcz20_0 : w5.cell? ⟨gb127, 0, none⟩ = some (.int .u32 a1_0) := (blk_cell BK127.out 0).trans rfl
      have hcz20_1 : w5.cell? ⟨gb127, 1, none⟩ = some (.bool a1_1) := (blk_cell BK127.out 1).trans rfl
      have hcz20_2 : w5.cell? ⟨gb127, 2, none⟩ = some (.int .i64 a1_2) := (blk_cell BK127.out 2).trans rfl
      have hcz20_3 : w5.cell? ⟨gb127, 3, none⟩ = some (.slice A1_3 l1_3.length c1_3) := (blk_cell BK127.out 3).trans rfl
      have hfz20_0 := blk_frozen BK127.out 0
      have hfz20_1 := blk_frozen BK127.out 1
      have hfz20_2 := blk_frozen BK127.out 2
      have hfz20_3 := blk_frozen BK127.out 3
      go_wp2
      repeat (go_quiet (fail); try go_wp2)
      go_meet
      case rel => exact ⟨_, (true), (by first | rfl | (simp; done) | (simp [*]; done)), H', ⟨by first | omega | exact Nat.le_refl _⟩, ⟨by (with_reducible repeat (first | refine blk_drewN ?_ _ | refine blk_drew ?_ | refine blk_alloc ?_ _)); exact BK126.out⟩, ⟨by (with_reducible repeat (first | refine blk_drewN ?_ _ | refine blk_drew ?_ | refine blk_alloc ?_ _)); exact BK127.out⟩, ⟨by repeat (first | (with_reducible first | exact HB.out | apply below_alloc | apply pw_below_drewN | apply below_drew1 | refine below_set ?_ GE126.out | refine below_set ?_ GE127.out) | exact HB.out)⟩⟩
  case rest =>
    clear HC3
    try clear c1
    try clear p2
    try clear c6
    try clear c6b0
    try clear c6b1
    try clear c7
    try clear c7b0
    try clear c7b1
    try clear c7b2
    try clear c8
    try clear c11
    try clear c11b0
    try clear c11b1
    try clear c12
    try clear c14
    try clear c15
    try clear c18
    try clear hcz10_0
    try clear hcz10_1
    try clear hcz10_2
    try clear hcz10_3
    try clear hcz13_0
    try clear hcz13_1
    try clear hcz13_2
    try clear hcz13_3
    try clear hcz14_0
    try clear hcz14_1
    try clear hcz14_2
    try clear hcz14_3
    try clear hcz16_0
    try clear hcz16_1
    try clear hcz16_2
    try clear hcz16_3
    try clear hcz17_0
    try clear hcz17_1
    try clear hcz17_2
    try clear hcz17_3
    try clear hcz19_0
    try clear hcz19_1
    try clear hcz19_2
    try clear hcz19_3
    try clear hcz20_0
    try clear hcz20_1
    try clear hcz20_2
    try clear hcz20_3
    try clear hcz9_0
    try clear hcz9_1
    try clear hcz9_2
    try clear hcz9_3
    try clear hfz10_0
    try clear hfz10_1
    try clear hfz10_2
    try clear hfz10_3
    try clear hfz13_0
    try clear hfz13_1
    try clear hfz13_2
    try clear hfz13_3
    try clear hfz14_0
    try clear hfz14_1
    try clear hfz14_2
    try clear hfz14_3
    try clear hfz16_0
    try clear hfz16_1
    try clear hfz16_2
    try clear hfz16_3
    try clear hfz17_0
    try clear hfz17_1
    try clear hfz17_2
    try clear hfz17_3
    try clear hfz19_0
    try clear hfz19_1
    try clear hfz19_2
    try clear hfz19_3
    try clear hfz20_0
    try clear hfz20_1
    try clear hfz20_2
    try clear hfz20_3
    try clear hfz9_0
    try clear hfz9_1
    try clear hfz9_2
    try clear hfz9_3
    obtain ⟨kq, x33_2, rfl, HA, HJ2, BK126, BK127, HB⟩ := hcut
    cases kq with
    | zero => exact absurd HA.out (by simp [stolonref08_Same.j0])
    | succ kj2 =>
      have H := HA.out
      clear HA
      simp only [stolonref08_Same.j0] at H
      by_cases c21 : x33_2 = true
      · subst c21
        have H1 : (some false) = some r := by rw [if_pos rfl] at H; exact H
        clear H
        have H := H1
        clear H1
        obtain rfl := Option.some.inj H
        go_wp2
        repeat (go_quiet (fail); try go_wp2)
        go_ret
        exact ⟨by first | rfl | (simp [errW_none, errW_some] <;> rfl) | (simp [*, errW_none, errW_some] <;> rfl), by repeat (first | (with_reducible first | exact HB.out | apply below_alloc | apply pw_below_drewN | apply below_drew1 | refine below_set ?_ GE126.out | refine below_set ?_ GE127.out) | exact HB.out)⟩
      · replace c21 := Bool.eq_false_iff.mpr c21
        subst c21
        have H1 : (stolonref08_Same.l0 kj2 0 a0_0 a0_1 a0_2 l0_3 a1_0 a1_1 a1_2 l1_3) = some r := by rw [if_neg (show ¬ (false = true) by decide)] at H; exact H
        clear H
        have H := H1
        clear H1
        have H' := Aside0.mk H
        clear H
        go_wp2
        repeat (go_quiet (fail); try go_wp2)
        go_loopg [5] kj2 (fun kq v5 w' => ∃ (x5_2 : Int), v5 = .int .i64 x5_2 ∧ Aside0 (stolonref08_Same.l0 kq x5_2 a0_0 a0_1 a0_2 l0_3 a1_0 a1_1 a1_2 l1_3 = some r) ∧ Aside0 (kq ≤ kj2) ∧ Aside0 (w'.heap[gb126]? = some (.cells #[.int .u32 a0_0, .bool a0_1, .int .i64 a0_2, (.slice A0_3 l0_3.length c0_3)] 28 (0, 0))) ∧ Aside0 (w'.heap[gb127]? = some (.cells #[.int .u32 a1_0, .bool a1_1, .int .i64 a1_2, (.slice A1_3 l1_3.length c1_3)] 28 (0, 0))) ∧ Aside0 (Below w.heap.size w w'))
        case atStart => exact ⟨(0), (by first | rfl | (simp; done) | (simp [*]; done)), H', ⟨Nat.le_refl _⟩, ⟨by (with_reducible repeat (first | refine blk_drewN ?_ _ | refine blk_drew ?_ | refine blk_alloc ?_ _)); exact BK126.out⟩, ⟨by (with_reducible repeat (first | refine blk_drewN ?_ _ | refine blk_drew ?_ | refine blk_alloc ?_ _)); exact BK127.out⟩, ⟨by repeat (first | (with_reducible first | exact HB.out | apply below_alloc | apply pw_below_drewN | apply below_drew1 | refine below_set ?_ GE126.out | refine below_set ?_ GE127.out) | exact HB.out)⟩⟩
        case round =>
          clear H'
          try clear c1
          try clear c2
          try clear p2
          try clear c6
          try clear c6b0
          try clear c6b1
          try clear c7
          try clear c7b0
          try clear c7b1
          try clear c7b2
          try clear c8
          try clear c11
          try clear c11b0
          try clear c11b1
          try clear c12
          try clear c14
          try clear c15
          try clear c18
          try clear c21
          try clear hcz10_0
          try clear hcz10_1
          try clear hcz10_2
          try clear hcz10_3
          try clear hcz13_0
          try clear hcz13_1
          try clear hcz13_2
          try clear hcz13_3
          try clear hcz14_0
          try clear hcz14_1
          try clear hcz14_2
          try clear hcz14_3
          try clear hcz16_0
          try clear hcz16_1
          try clear hcz16_2
          try clear hcz16_3
          try clear hcz17_0
          try clear hcz17_1
          try clear hcz17_2
          try clear hcz17_3
          try clear hcz19_0
          try clear hcz19_1
          try clear hcz19_2
          try clear hcz19_3
          try clear hcz20_0
          try clear hcz20_1
          try clear hcz20_2
          try clear hcz20_3
          try clear hcz9_0
          try clear hcz9_1
          try clear hcz9_2
          try clear hcz9_3
          try clear hfz10_0
          try clear hfz10_1
          try clear hfz10_2
          try clear hfz10_3
          try clear hfz13_0
          try clear hfz13_1
          try clear hfz13_2
          try clear hfz13_3
          try clear hfz14_0
          try clear hfz14_1
          try clear hfz14_2
          try clear hfz14_3
          try clear hfz16_0
          try clear hfz16_1
          try clear hfz16_2
          try clear hfz16_3
          try clear hfz17_0
          try clear hfz17_1
          try clear hfz17_2
          try clear hfz17_3
          try clear hfz19_0
          try clear hfz19_1
          try clear hfz19_2
          try clear hfz19_3
          try clear hfz20_0
          try clear hfz20_1
          try clear hfz20_2
          try clear hfz20_3
          try clear hfz9_0
          try clear hfz9_1
          try clear hfz9_2
          try clear hfz9_3
          try clear p2
          obtain ⟨x5_2, rfl, HA, HK2, BK126, BK127, HB⟩ := hrel
          cases gk with
          | zero => exact absurd HA.out (by simp [stolonref08_Same.l0])
          | succ k2 =>
            have H := HA.out
            clear HA
            simp only [stolonref08_Same.l0] at H
            by_cases c22 : x5_2 < (l0_3.length : Int)
            · rw [if_pos c22] at H
              have c22b0 : decide (x5_2 < (l0_3.length : Int)) = true := decide_eq_true c22
              clear c22
              by_cases c23 : 0 ≤ x5_2
              · rw [if_pos c23] at H
                have c23b0 : decide (0 ≤ x5_2) = true := decide_eq_true c23
                clear c23
                by_cases c24 : x5_2 < (l1_3.length : Int)
                · rw [if_pos c24] at H
                  have c24b0 : decide (x5_2 < (l1_3.length : Int)) = true := decide_eq_true c24
                  clear c24
                  by_cases c25 : (!(((rd_T49 l0_3 x5_2).f0) == ((rd_T49 l1_3 x5_2).f0)) || (!(((rd_T49 l0_3 x5_2).f1) == ((rd_T49 l1_3 x5_2).f1)))) = true
                  · rw [if_pos c25] at H
                    have c25b0 : (!(((rd_T49 l0_3 x5_2).f0) == ((rd_T49 l1_3 x5_2).f0)) || (!(((rd_T49 l0_3 x5_2).f1) == ((rd_T49 l1_3 x5_2).f1)))) = true := c25
                    clear c25
                    obtain rfl := Option.some.inj H
                    have hnb26 := NB126_127.out
                    have hnc26 := NB127_126.out
                    have hcz27_0 : wr.cell? ⟨gb126, 0, none⟩ = some (.int .u32 a0_0) := (blk_cell BK126.out 0).trans rfl
                    have hcz27_1 : wr.cell? ⟨gb126, 1, none⟩ = some (.bool a0_1) := (blk_cell BK126.out 1).trans rfl
                    have hcz27_2 : wr.cell? ⟨gb126, 2, none⟩ = some (.int .i64 a0_2) := (blk_cell BK126.out 2).trans rfl
                    have hcz27_3 : wr.cell? ⟨gb126, 3, none⟩ = some (.slice A0_3 l0_3.length c0_3) := (blk_cell BK126.out 3).trans rfl
                    have hfz27_0 := blk_frozen BK126.out 0
                    have hfz27_1 := blk_frozen BK126.out 1
                    have hfz27_2 := blk_frozen BK126.out 2
                    have hfz27_3 := blk_frozen BK126.out 3
                    have p128 : 0 ≤ (x5_2 : Int) := of_decide_eq_true (by first | (with_reducible assumption) | assumption)
                    have q128 : x5_2 < (l0_3.length : Int) := of_decide_eq_true (by first | (with_reducible assumption) | assumption)
                    obtain ⟨ad128, e128, hx128_0, hx128_1⟩ := at_T49 HR0_3.out x5_2 p128 q128
                    cases e128
                    replace hx128_0 := (HB.out.cell (World.block_lt_of_cell? w _ hx128_0)).trans hx128_0
                    replace hx128_1 := (HB.out.cell (World.block_lt_of_cell? w _ hx128_1)).trans hx128_1
                    replace p128 := eq_true p128
                    replace q128 := eq_true q128
                    have hcz28_0 : wr.cell? ⟨gb127, 0, none⟩ = some (.int .u32 a1_0) := (blk_cell BK127.out 0).trans rfl
                    have hcz28_1 : wr.cell? ⟨gb127, 1, none⟩ = some (.bool a1_1) := (blk_cell BK127.out 1).trans rfl
                    have hcz28_2 : wr.cell? ⟨gb127, 2, none⟩ = some (.int .i64 a1_2) := (blk_cell BK127.out 2).trans rfl
                    have hcz28_3 : wr.cell? ⟨gb127, 3, none⟩ = some (.slice A1_3 l1_3.length c1_3) := (blk_cell BK127.out 3).trans rfl
                    have hfz28_0 := blk_frozen BK127.out 0
                    have hfz28_1 := blk_frozen BK127.out 1
                    have hfz28_2 := blk_frozen BK127.out 2
                    have hfz28_3 := blk_frozen BK127.out 3
                    have p129 : 0 ≤ (x5_2 : Int) := of_decide_eq_true (by first | (with_reducible assumption) | assumption)
                    have q129 : x5_2 < (l1_3.length : Int) := of_decide_eq_true (by first | (with_reducible assumption) | assumption)
                    obtain ⟨ad129, e129, hx129_0, hx129_1⟩ := at_T49 HR1_3.out x5_2 p129 q129
                    cases e129
                    replace hx129_0 := (HB.out.cell (World.block_lt_of_cell? w _ hx129_0)).trans hx129_0
                    replace hx129_1 := (HB.out.cell (World.block_lt_of_cell? w _ hx129_1)).trans hx129_1
                    replace p129 := eq_true p129
                    replace q129 := eq_true q129
                    go_wp2
                    repeat (go_quiet (fail); try go_wp2)
                    go_ret
                    exact ⟨by first | rfl | (simp [errW_none, errW_some] <;> rfl) | (simp [*, errW_none, errW_some] <;> rfl), by repeat (first | (with_reducible first | exact HB.out | apply below_alloc | apply pw_below_drewN | apply below_drew1 | refine below_set ?_ GE126.out | refine below_set ?_ GE127.out) | exact HB.out)⟩
                  · rw [if_neg c25] at H
                    have c25b0 : (!(((rd_T49 l0_3 x5_2).f0) == ((rd_T49 l1_3 x5_2).f0)) || (!(((rd_T49 l0_3 x5_2).f1) == ((rd_T49 l1_3 x5_2).f1)))) = false := by simpa using c25
                    clear c25
                    have H' := Aside0.mk H
                    clear H
                    have hnb29 := NB126_127.out
                    have hnc29 := NB127_126.out
                    have hcz30_0 : wr.cell? ⟨gb126, 0, none⟩ = some (.int .u32 a0_0) := (blk_cell BK126.out 0).trans rfl
                    have hcz30_1 : wr.cell? ⟨gb126, 1, none⟩ = some (.bool a0_1) := (blk_cell BK126.out 1).trans rfl
                    have hcz30_2 : wr.cell? ⟨gb126, 2, none⟩ = some (.int .i64 a0_2) := (blk_cell BK126.out 2).trans rfl
                    have hcz30_3 : wr.cell? ⟨gb126, 3, none⟩ = some (.slice A0_3 l0_3.length c0_3) := (blk_cell BK126.out 3).trans rfl
                    have hfz30_0 := blk_frozen BK126.out 0
                    have hfz30_1 := blk_frozen BK126.out 1
                    have hfz30_2 := blk_frozen BK126.out 2
                    have hfz30_3 := blk_frozen BK126.out 3
                    have p128 : 0 ≤ (x5_2 : Int) := of_decide_eq_true (by first | (with_reducible assumption) | assumption)
                    have q128 : x5_2 < (l0_3.length : Int) := of_decide_eq_true (by first | (with_reducible assumption) | assumption)
                    obtain ⟨ad128, e128, hx128_0, hx128_1⟩ := at_T49 HR0_3.out x5_2 p128 q128
                    cases e128
                    replace hx128_0 := (HB.out.cell (World.block_lt_of_cell? w _ hx128_0)).trans hx128_0
                    replace hx128_1 := (HB.out.cell (World.block_lt_of_cell? w _ hx128_1)).trans hx128_1
                    replace p128 := eq_true p128
                    replace q128 := eq_true q128
                    have hcz31_0 : wr.cell? ⟨gb127, 0, none⟩ = some (.int .u32 a1_0) := (blk_cell BK127.out 0).trans rfl
                    have hcz31_1 : wr.cell? ⟨gb127, 1, none⟩ = some (.bool a1_1) := (blk_cell BK127.out 1).trans rfl
                    have hcz31_2 : wr.cell? ⟨gb127, 2, none⟩ = some (.int .i64 a1_2) := (blk_cell BK127.out 2).trans rfl
                    have hcz31_3 : wr.cell? ⟨gb127, 3, none⟩ = some (.slice A1_3 l1_3.length c1_3) := (blk_cell BK127.out 3).trans rfl
                    have hfz31_0 := blk_frozen BK127.out 0
                    have hfz31_1 := blk_frozen BK127.out 1
                    have hfz31_2 := blk_frozen BK127.out 2
                    have hfz31_3 := blk_frozen BK127.out 3
                    have p129 : 0 ≤ (x5_2 : Int) := of_decide_eq_true (by first | (with_reducible assumption) | assumption)
                    have q129 : x5_2 < (l1_3.length : Int) := of_decide_eq_true (by first | (with_reducible assumption) | assumption)
                    obtain ⟨ad129, e129, hx129_0, hx129_1⟩ := at_T49 HR1_3.out x5_2 p129 q129
                    cases e129
                    replace hx129_0 := (HB.out.cell (World.block_lt_of_cell? w _ hx129_0)).trans hx129_0
                    replace hx129_1 := (HB.out.cell (World.block_lt_of_cell? w _ hx129_1)).trans hx129_1
                    replace p129 := eq_true p129
                    replace q129 := eq_true q129
                    go_wp2
                    repeat (go_quiet (fail); try go_wp2)
                    go_roundg k2
                    case measure => have := HJ2.out; have := HK2.out; omega
                    case rel => exact ⟨(wrap64 (x5_2 + 1)), (by first | rfl | (simp; done) | (simp [*]; done)), H', ⟨by have := HJ2.out; have := HK2.out; omega⟩, ⟨by (with_reducible repeat (first | refine blk_drewN ?_ _ | refine blk_drew ?_ | refine blk_alloc ?_ _)); exact BK126.out⟩, ⟨by (with_reducible repeat (first | refine blk_drewN ?_ _ | refine blk_drew ?_ | refine blk_alloc ?_ _)); exact BK127.out⟩, ⟨by repeat (first | (with_reducible first | exact HB.out | apply below_alloc | apply pw_below_drewN | apply below_drew1 | refine below_set ?_ GE126.out | refine below_set ?_ GE127.out) | exact HB.out)⟩⟩
                · rw [if_neg c24] at H
                  exact absurd H (by simp)
              · rw [if_neg c23] at H
                exact absurd H (by simp)
            · rw [if_neg c22] at H
              have c22b0 : decide (x5_2 < (l0_3.length : Int)) = false := decide_eq_false c22
              clear c22
              obtain rfl := Option.some.inj H
              have hnb32 := NB126_127.out
              have hnc32 := NB127_126.out
              have hcz33_0 : wr.cell? ⟨gb126, 0, none⟩ = some (.int .u32 a0_0) := (blk_cell BK126.out 0).trans rfl
              have hcz33_1 : wr.cell? ⟨gb126, 1, none⟩ = some (.bool a0_1) := (blk_cell BK126.out 1).trans rfl
              have hcz33_2 : wr.cell? ⟨gb126, 2, none⟩ = some (.int .i64 a0_2) := (blk_cell BK126.out 2).trans rfl
              have hcz33_3 : wr.cell? ⟨gb126, 3, none⟩ = some (.slice A0_3 l0_3.length c0_3) := (blk_cell BK126.out 3).trans rfl
              have hfz33_0 := blk_frozen BK126.out 0
              have hfz33_1 := blk_frozen BK126.out 1
              have hfz33_2 := blk_frozen BK126.out 2
              have hfz33_3 := blk_frozen BK126.out 3
              go_wp2
              repeat (go_quiet (fail); try go_wp2)
              go_ret
              exact ⟨by first | rfl | (simp [errW_none, errW_some] <;> rfl) | (simp [*, errW_none, errW_some] <;> rfl), by repeat (first | (with_reducible first | exact HB.out | apply below_alloc | apply pw_below_drewN | apply below_drew1 | refine below_set ?_ GE126.out | refine below_set ?_ GE127.out) | exact HB.out)⟩

end Go.Proofs.Ytbllchfgjginoaa.PMe
/-
  What is right, what is had, wanted and the same, in plain lists (chapter 08).
-/
namespace Go.Proofs.Ytbllchfgjginoaa
open Go.RowKit Go.Lib Go.Proofs.YtbllchfgjginoaaW.PrintWords Go.Proofs.Ytbllchfgjginoaa.PMe
set_option linter.unusedVariables false
set_option linter.unusedSimpArgs false
/-- The j-th source is right beside the one ahead of it. -/
def goodH (ex : Bool) (l : List S49) (j : Nat) : Prop := 0 ≤ (rd_T49 l j).f1 ∧ (rd_T49 l j).f1 ≤ 1000000 ∧ ((rd_T49 l j).f1 = 0 → ex = true) ∧ (0 < j → (rd_T49 l ((j - 1 : Nat) : Int)).f0 < (rd_T49 l j).f0)
structure MOk (x : S28) : Prop where
  asked : 3758096640 ≤ x.f0 ∧ x.f0 ≤ 4026531839
  len : x.f3.length ≤ 64
  ex : x.f1 = true → 1 ≤ x.f2 ∧ x.f2 ≤ 1000000
  inn : x.f1 = false → x.f2 = 0
  all : ∀ j, j < x.f3.length → goodH x.f1 x.f3 j
theorem right_loop (g lf : Int) (ex : Bool) (l : List S49) (hl : l.length ≤ 64) : ∀ n k (i : Nat), l.length ≤ i + n → n < k → i ≤ l.length → ∃ b, stolonref08_Right.l0 k i g ex lf l = some b ∧ (b = true ↔ ∀ j, i ≤ j → j < l.length → goodH ex l j) := by
  intro n
  induction n with
  | zero =>
    intro k i h1 h2 h3
    obtain ⟨k, rfl⟩ : ∃ k', k = k' + 1 := ⟨k - 1, by omega⟩
    refine ⟨true, ?_, by simp; intro j h4 h5; omega⟩
    rw [stolonref08_Right.l0, if_neg (by omega)]
  | succ n ih =>
    intro k i h1 h2 h3
    obtain ⟨k, rfl⟩ : ∃ k', k = k' + 1 := ⟨k - 1, by omega⟩
    by_cases h4 : i < l.length
    · have nx : (∃ b, stolonref08_Right.l0 k (wrap64 ((i : Int) + 1)) g ex lf l = some b ∧ (b = true ↔ ∀ j, i + 1 ≤ j → j < l.length → goodH ex l j)) := by
        rw [step64 i (by omega)]
        exact ih k (i + 1) (by omega) (by omega) (by omega)
      have no : ∀ c : Option Bool, c = some false → ¬ goodH ex l i → ∃ b, c = some b ∧ (b = true ↔ ∀ j, i ≤ j → j < l.length → goodH ex l j) := fun c e h => ⟨false, e, by simp; exact ⟨i, Nat.le_refl _, h4, h⟩⟩
      have ye : ∀ c : Option Bool, c = stolonref08_Right.l0 k (wrap64 ((i : Int) + 1)) g ex lf l → goodH ex l i → ∃ b, c = some b ∧ (b = true ↔ ∀ j, i ≤ j → j < l.length → goodH ex l j) := by
        intro c e h
        obtain ⟨b, h5, h6⟩ := nx
        refine ⟨b, e.trans h5, h6.trans ⟨fun h7 j h8 h9 => ?_, fun h7 j h8 h9 => h7 j (by omega) h9⟩⟩
        by_cases e2 : j = i
        · subst e2; exact h
        · exact h7 j (by omega) h9
      rw [stolonref08_Right.l0, if_pos (by omega), if_pos (by omega)]
      by_cases c1 : (rd_T49 l i).f1 < 0
      · rw [if_pos c1]; exact no _ rfl (fun h => by have := h.1; omega)
      rw [if_neg c1]
      by_cases c2 : (rd_T49 l i).f1 > 1000000
      · rw [if_pos c2]; exact no _ rfl (fun h => by have := h.2.1; omega)
      rw [if_neg c2]
      by_cases c4 : (i : Int) > 0
      · have e1 : wrap64 ((i : Int) - 1) = ((i - 1 : Nat) : Int) := by rw [w64 (by omega) (by omega)]; omega
        by_cases c5 : (rd_T49 l i).f0 ≤ (rd_T49 l ((i - 1 : Nat) : Int)).f0
        · by_cases c3 : (rd_T49 l i).f1 = 0
          · rw [if_pos c3]
            by_cases c6 : ex = true
            · rw [if_pos c6, if_pos c4, e1, if_pos (by omega), if_pos (by omega), if_pos c5]; exact no _ rfl (fun h => by have := h.2.2.2 (by omega); omega)
            · rw [if_neg c6]; exact no _ rfl (fun h => c6 (h.2.2.1 c3))
          · rw [if_neg c3, if_pos c4, e1, if_pos (by omega), if_pos (by omega), if_pos c5]; exact no _ rfl (fun h => by have := h.2.2.2 (by omega); omega)
        · by_cases c3 : (rd_T49 l i).f1 = 0
          · rw [if_pos c3]
            by_cases c6 : ex = true
            · rw [if_pos c6, if_pos c4, e1, if_pos (by omega), if_pos (by omega), if_neg c5]; exact ye _ rfl ⟨by omega, by omega, fun _ => c6, fun _ => by omega⟩
            · rw [if_neg c6]; exact no _ rfl (fun h => c6 (h.2.2.1 c3))
          · rw [if_neg c3, if_pos c4, e1, if_pos (by omega), if_pos (by omega), if_neg c5]; exact ye _ rfl ⟨by omega, by omega, fun h => absurd h c3, fun _ => by omega⟩
      · by_cases c3 : (rd_T49 l i).f1 = 0
        · rw [if_pos c3]
          by_cases c6 : ex = true
          · rw [if_pos c6, if_neg c4]; exact ye _ rfl ⟨by omega, by omega, fun _ => c6, fun h => by omega⟩
          · rw [if_neg c6]; exact no _ rfl (fun h => c6 (h.2.2.1 c3))
        · rw [if_neg c3, if_neg c4]; exact ye _ rfl ⟨by omega, by omega, fun h => absurd h c3, fun h => by omega⟩
    · refine ⟨true, ?_, by simp; intro j h5 h6; omega⟩
      rw [stolonref08_Right.l0, if_neg (by omega)]
theorem right_some (x : S28) (k : Nat) (hk : 100 ≤ k) : ∃ b, stolonref08_Right.f k x.f0 x.f1 x.f2 x.f3 = some b ∧ (b = true ↔ MOk x) := by
  obtain ⟨k, rfl⟩ : ∃ k', k = k' + 1 := ⟨k - 1, by omega⟩
  obtain ⟨k, rfl⟩ : ∃ k', k = k' + 1 := ⟨k - 1, by omega⟩
  have no : ¬ MOk x → ∀ c : Option Bool, c = some false → ∃ b, c = some b ∧ (b = true ↔ MOk x) := fun h c e => ⟨false, e, by simp [h]⟩
  have f1 : ∀ k', stolonref08_Right.j0 (k' + 1) true x.f0 x.f1 x.f2 x.f3 = some false := fun k' => by rw [stolonref08_Right.j0, if_pos rfl]
  unfold stolonref08_Right.f stolonref01_Asked.f
  by_cases a1 : x.f0 ≥ 3758096640
  · rw [if_pos a1, Option.bind_some]
    by_cases a2 : x.f0 ≤ 4026531839
    · rw [if_pos (by simp [a2])]
      by_cases a3 : x.f3.length ≤ 64
      · rw [show decide ((x.f3.length : Int) > 64) = false from decide_eq_false (by omega), stolonref08_Right.j0, if_neg (by simp)]
        have j1t : stolonref08_Right.j1 (k + 1) true x.f0 x.f1 x.f2 x.f3 = some false := by rw [stolonref08_Right.j1, if_pos rfl]
        have j1f : stolonref08_Right.j1 (k + 1) false x.f0 x.f1 x.f2 x.f3 = stolonref08_Right.l0 k 0 x.f0 x.f1 x.f2 x.f3 := by rw [stolonref08_Right.j1, if_neg (by simp)]
        obtain ⟨b, h1, h2⟩ := right_loop x.f0 x.f2 x.f1 x.f3 a3 65 k 0 (by omega) (by omega) (by omega)
        have h1' : stolonref08_Right.l0 k 0 x.f0 x.f1 x.f2 x.f3 = some b := h1
        by_cases e : x.f1 = true
        · rw [if_pos e]
          by_cases b1 : x.f2 < 1
          · rw [if_pos b1]; exact no (fun h => by have := h.ex e; omega) _ j1t
          rw [if_neg b1]
          by_cases b2 : x.f2 > 1000000
          · rw [if_pos b2]; exact no (fun h => by have := h.ex e; omega) _ j1t
          rw [if_neg b2, j1f, h1']
          exact ⟨b, rfl, h2.trans ⟨fun h => ⟨⟨a1, a2⟩, a3, fun _ => ⟨by omega, by omega⟩, fun h' => by rw [e] at h'; simp at h', fun j hj => h j (Nat.zero_le _) hj⟩, fun h j _ hj => h.all j hj⟩⟩
        · rw [if_neg e]
          by_cases b1 : x.f2 = 0
          · rw [show (x.f2 != 0) = false by simp [b1], j1f, h1']
            exact ⟨b, rfl, h2.trans ⟨fun h => ⟨⟨a1, a2⟩, a3, fun h' => absurd h' e, fun _ => b1, fun j hj => h j (Nat.zero_le _) hj⟩, fun h j _ hj => h.all j hj⟩⟩
          · rw [show (x.f2 != 0) = true by simp [b1]]
            exact no (fun h => b1 (h.inn (by simpa using e))) _ j1t
      · rw [show decide ((x.f3.length : Int) > 64) = true from decide_eq_true (by omega)]
        exact no (fun h => a3 h.len) _ (f1 _)
    · rw [if_neg (by simp [a2])]
      exact no (fun h => a2 h.asked.2) _ (f1 _)
  · rw [if_neg a1, Option.bind_some, if_neg (by simp)]
    exact no (fun h => a1 h.asked.1) _ (f1 _)
theorem MOk.sort {x : S28} (h : MOk x) : SortH x.f3 := by
  unfold SortH
  rw [List.pairwise_iff_getElem]
  have main : ∀ d i, (hi : i + d + 1 < x.f3.length) → (rd_T49 x.f3 i).f0 < (rd_T49 x.f3 ((i + d + 1 : Nat) : Int)).f0 := by
    intro d
    induction d with
    | zero => intro i hi; have := (h.all (i + 0 + 1) hi).2.2.2 (by omega); simpa using this
    | succ d ih =>
      intro i hi
      have h1 := ih i (by omega)
      have h2 := (h.all (i + (d + 1) + 1) hi).2.2.2 (by omega)
      have e : i + (d + 1) + 1 - 1 = i + d + 1 := by omega
      rw [e] at h2
      omega
  intro i j hi hj hij
  have := main (j - i - 1) i (by omega)
  rw [show i + (j - i - 1) + 1 = j by omega, rd49 _ i hi, rd49 _ j hj] at this
  exact this
end Go.Proofs.Ytbllchfgjginoaa
/-
  What is wanted, what time does, and what is the same, in plain lists (chapter 08).
-/
namespace Go.Proofs.Ytbllchfgjginoaa
open Go.RowKit Go.Lib Go.Proofs.YtbllchfgjginoaaW.PrintWords Go.Proofs.Ytbllchfgjginoaa.PMe
set_option linter.unusedVariables false
set_option linter.unusedSimpArgs false
def wantsB (x : S28) (a : Int) : Bool := if x.f1 = true then x.f3.all (fun s => !decide (s.f0 = a) || decide (0 < s.f1)) else hasH x.f3 a
theorem posH_at {l : List S49} (hs : SortH l) {x : S49} (hx : x ∈ l) : posH l x.f0 < l.length ∧ rd_T49 l (posH l x.f0) = x := by
  have e := splitH_at hs hx
  have h1 : l[posH l x.f0]? = some x := by
    have := getH_mid (ltH l x.f0) (gtH l x.f0) x
    rw [← e] at this
    exact this
  obtain ⟨h2, h3⟩ := List.getElem?_eq_some_iff.1 h1
  exact ⟨h2, by rw [rd49 l _ h2, h3]⟩
theorem sortH_uniq {l : List S49} (hs : SortH l) {x y : S49} (hx : x ∈ l) (hy : y ∈ l) (he : x.f0 = y.f0) : x = y := by
  have h1 := (posH_at hs hx).2
  have h2 := (posH_at hs hy).2
  rw [he] at h1
  exact h1.symm.trans h2
theorem wants_some (x : S28) (a : Int) (hs : SortH x.f3) (hn : x.f3.length ≤ 1000000) : memb_Wants.f x.f0 x.f1 x.f2 x.f3 a = some (wantsB x a) := by
  unfold memb_Wants.f wantsB
  rw [memb_place.some hs hn, Option.bind_some]
  by_cases h1 : x.f1 = true
  · rw [if_pos h1, if_pos h1]
    dsimp only
    by_cases h2 : hasH x.f3 a = true
    · obtain ⟨s, h3, h4⟩ := hasH_iff.1 h2
      subst h4
      obtain ⟨h5, h6⟩ := posH_at hs h3
      rw [if_pos h2, if_pos (by omega), if_pos (by omega), h6]
      congr 1
      rw [Bool.eq_iff_iff, decide_eq_true_eq, List.all_eq_true]
      constructor
      · intro h7 y h8
        by_cases h9 : y.f0 = s.f0
        · rw [sortH_uniq hs h8 h3 h9]
          simp [h7]
        · simp [h9]
      · intro h7
        have := h7 s h3
        simpa using this
    · rw [if_neg h2]
      congr 1
      symm
      rw [List.all_eq_true]
      intro y h3
      have h4 : ¬ y.f0 = a := fun e => h2 (hasH_iff.2 ⟨y, h3, e⟩)
      simp [h4]
  · rw [if_neg h1, if_neg h1]
def tickS (n : Int) (s : S49) : S49 := ⟨s.f0, mx (s.f1 - n) 0⟩
def tickL (ex : Bool) (n : Int) (l : List S49) : List S49 := (l.map (tickS n)).filter (fun s => ex || decide (0 < s.f1))
def tickM (x : S28) (n : Int) : S28 :=
  ⟨x.f0, x.f1 && decide (0 < mx (x.f2 - n) 0), mx (x.f2 - n) 0, tickL (x.f1 && decide (0 < mx (x.f2 - n) 0)) n x.f3⟩
/-- All times are within reach. -/
def Soon (l : List S49) : Prop := ∀ s ∈ l, 0 ≤ s.f1 ∧ s.f1 ≤ 1000000
theorem tick_loop (n g lf : Int) (ex : Bool) (l : List S49) (hn : 0 ≤ n ∧ n ≤ 1000000) (hl : l.length ≤ 1000000) (hs : Soon l) : ∀ d k (i : Nat) (acc : List S49), l.length ≤ i + d → d < k → i ≤ l.length → acc.length ≤ i →
    memb_Tick.l0 k n acc l (l.length : Int) i g ex lf l = some (g, ex, lf, acc ++ tickL ex n (l.drop i)) := by
  intro d
  induction d with
  | zero =>
    intro k i acc h1 h2 h3 h4
    obtain ⟨k, rfl⟩ : ∃ k', k = k' + 1 := ⟨k - 1, by omega⟩
    rw [memb_Tick.l0, if_neg (by omega), List.drop_eq_nil_of_le (by omega)]
    simp [tickL]
  | succ d ih =>
    intro k i acc h1 h2 h3 h4
    obtain ⟨k, rfl⟩ : ∃ k', k = k' + 1 := ⟨k - 1, by omega⟩
    by_cases h5 : i < l.length
    · have h6 := hs l[i] (List.getElem_mem h5)
      have e1 : wrap64 (l[i].f1 - n) = l[i].f1 - n := w64 (by omega) (by omega)
      rw [memb_Tick.l0, if_pos (by omega), if_pos (by omega), if_pos (by omega), step64 i (by omega), rd49 l i h5, e1, List.drop_eq_getElem_cons h5]
      have e2 : tickL ex n (l[i] :: l.drop (i + 1)) = (if (ex || decide (0 < (tickS n l[i]).f1)) = true then [tickS n l[i]] else []) ++ tickL ex n (l.drop (i + 1)) := by
        unfold tickL
        rw [List.map_cons, List.filter_cons]
        split <;> simp
      rw [e2]
      by_cases c1 : ex = true
      · rw [if_pos c1, if_pos (by omega), ih k (i + 1) _ (by omega) (by omega) (by omega) (by rw [List.length_append]; simp; omega), if_pos (by simp [c1])]
        simp [tickS]
      · rw [if_neg c1]
        by_cases c2 : mx (l[i].f1 - n) 0 > 0
        · rw [if_pos c2, if_pos (by omega), ih k (i + 1) _ (by omega) (by omega) (by omega) (by rw [List.length_append]; simp; omega), if_pos (by rw [Bool.or_eq_true]; exact .inr (decide_eq_true c2))]
          simp [tickS]
        · rw [if_neg c2, ih k (i + 1) _ (by omega) (by omega) (by omega) (by omega), if_neg (by rw [Bool.or_eq_true]; rintro (h | h); exact c1 h; exact c2 (of_decide_eq_true h))]
          simp
    · rw [memb_Tick.l0, if_neg (by omega), List.drop_eq_nil_of_le (by omega)]
      simp [tickL]
theorem tick_some (x : S28) (n : Int) (hl : x.f3.length ≤ 1000000) (hs : Soon x.f3) (hf : 0 ≤ x.f2 ∧ x.f2 ≤ 1000000) (k : Nat) (hk : x.f3.length + 2 ≤ k) :
    memb_Tick.f k x.f0 x.f1 x.f2 x.f3 n = some ((tickM x (mn (mx n 0) 1000000)).f0, (tickM x (mn (mx n 0) 1000000)).f1, (tickM x (mn (mx n 0) 1000000)).f2, (tickM x (mn (mx n 0) 1000000)).f3) := by
  obtain ⟨k, rfl⟩ : ∃ k', k = k' + 1 := ⟨k - 1, by omega⟩
  have hm : 0 ≤ mn (mx n 0) 1000000 ∧ mn (mx n 0) 1000000 ≤ 1000000 := by unfold mn mx; constructor <;> (repeat' split) <;> omega
  have e1 : wrap64 (x.f2 - mn (mx n 0) 1000000) = x.f2 - mn (mx n 0) 1000000 := w64 (by omega) (by omega)
  have lp := fun ex lf => tick_loop (mn (mx n 0) 1000000) x.f0 lf ex x.f3 hm hl hs x.f3.length k 0 [] (by omega) (by omega) (by omega) (Nat.zero_le _)
  unfold memb_Tick.f
  rw [e1]
  by_cases h1 : x.f1 = true
  · rw [if_pos h1, memb_Tick.j0]
    refine (lp _ _).trans ?_
    rw [List.nil_append, List.drop_zero]
    simp only [tickM, h1, Bool.true_and]
  · rw [if_neg h1, memb_Tick.j0]
    refine (lp _ _).trans ?_
    have h2 : x.f1 = false := by simpa using h1
    rw [List.nil_append, List.drop_zero]
    simp only [tickM, h2, Bool.false_and]
deriving instance DecidableEq for S49
theorem same_loop (g1 f1 g2 f2 : Int) (e1 e2 : Bool) (l m : List S49) (hl : l.length ≤ 1000000) (hm : l.length = m.length) : ∀ n k (i : Nat), l.length ≤ i + n → n < k → i ≤ l.length → stolonref08_Same.l0 k i g1 e1 f1 l g2 e2 f2 m = some (decide (l.drop i = m.drop i)) := by
  intro n
  induction n with
  | zero =>
    intro k i h1 h2 h3
    obtain ⟨k, rfl⟩ : ∃ k', k = k' + 1 := ⟨k - 1, by omega⟩
    rw [stolonref08_Same.l0, if_neg (by omega), List.drop_eq_nil_of_le (by omega), List.drop_eq_nil_of_le (by omega)]
    simp
  | succ n ih =>
    intro k i h1 h2 h3
    obtain ⟨k, rfl⟩ : ∃ k', k = k' + 1 := ⟨k - 1, by omega⟩
    by_cases h4 : i < l.length
    · rw [stolonref08_Same.l0, if_pos (by omega), if_pos (by omega), if_pos (by omega), rd49 l i h4, rd49 m i (by omega), List.drop_eq_getElem_cons h4, List.drop_eq_getElem_cons (l := m) (by omega)]
      by_cases c : l[i] = m[i]
      · rw [if_neg (by rw [c]; simp), step64 i (by omega), ih k (i + 1) (by omega) (by omega) (by omega)]
        congr 1
        rw [decide_eq_decide]
        constructor
        · intro h; rw [c, h]
        · intro h; exact (List.cons.inj h).2
      · rw [if_pos ?_]
        · congr 1
          symm
          exact decide_eq_false (fun h => c (List.cons.inj h).1)
        · by_cases d0 : l[i].f0 = m[i].f0
          · by_cases d1 : l[i].f1 = m[i].f1
            · exact absurd (by cases hx : l[i]; cases hy : m[i]; rw [hx, hy] at d0 d1; dsimp only at d0 d1; rw [d0, d1]) c
            · simp [d1]
          · simp [d0]
    · rw [stolonref08_Same.l0, if_neg (by omega), List.drop_eq_nil_of_le (by omega), List.drop_eq_nil_of_le (by omega)]
      simp
theorem same_self (x : S28) (hl : x.f3.length ≤ 1000000) (k : Nat) (hk : x.f3.length + 2 ≤ k) : stolonref08_Same.f k x.f0 x.f1 x.f2 x.f3 x.f0 x.f1 x.f2 x.f3 = some true := by
  obtain ⟨k, rfl⟩ : ∃ k', k = k' + 1 := ⟨k - 1, by omega⟩
  unfold stolonref08_Same.f
  rw [if_pos rfl, if_neg (by simp), if_pos rfl, show ((x.f3.length : Int) != (x.f3.length : Int)) = false by simp, stolonref08_Same.j0, if_neg (by simp)]
  have := same_loop x.f0 x.f2 x.f0 x.f2 x.f1 x.f1 x.f3 x.f3 hl rfl x.f3.length k 0 (by omega) (by omega) (by omega)
  simpa using this
end Go.Proofs.Ytbllchfgjginoaa
/-
  What the laws call, for their walks (chapter 08).
-/
namespace Go.Proofs.Ytbllchfgjginoaa
open Go.RowKit Go.Lib Go.Proofs.YtbllchfgjginoaaW.PrintWords Go.Proofs.YtbllchfgjginoaaW.PrintLast Go.Proofs.YtbllchfgjginoaaW.PrintMore Go.Proofs.Ytbllchfgjginoaa.PMe
set_option linter.unusedVariables false
set_option linter.unusedSimpArgs false
theorem hear_view {t : S23} {x r : S28} {kind : Int} {l : List Int} {asks : List S46} {n : Nat} {err : Int} (hs : SortH x.f3) (hn : x.f3.length ≤ 1000) (hm : l.length ≤ 1000) (h : hearR t x kind l = (r, asks, err)) (h2 : asks.length = n) (A : Option Addr) (c : Nat) (B : Option Addr) (d : Nat) (w : World) (hr : Kd.C k49 w A x.f3.length x.f3) (hc : x.f3.length ≤ c) (hl : Kd.C (Kd.int .u32) w B l.length l) (hd : l.length ≤ d) :
    Calls Try.prog 12 #[.agg #[.int .i64 t.f0, .int .i64 t.f1], .agg #[.int .u32 x.f0, .bool x.f1, .int .i64 x.f2, .slice A x.f3.length c], .int .u8 kind, .slice B l.length d] w fun e w' => ∃ A0 c0 A1 c1, e = .returned (.tuple #[.agg #[.int .u32 r.f0, .bool r.f1, .int .i64 r.f2, .slice A0 r.f3.length c0], .slice A1 n c1, .int .i64 err]) ∧ Kd.C k49 w' A0 r.f3.length r.f3 ∧ r.f3.length ≤ c0 ∧ Below w.heap.size w w' := by
  subst h2
  have hw := hear_w t x kind l hs hn hm A c B d w hr hc hl hd (fun k => k < w.heap.size) (fun _ h => h) (Kd.C_F k49_heap hr)
  rw [h] at hw
  refine hw.mono fun e w' hp => ?_
  obtain ⟨v0, v1, rfl, h0, h1, hB⟩ := hp
  obtain ⟨A0, c0, rfl⟩ := Kd.V_slice h0
  obtain ⟨A1, c1, rfl⟩ := Kd.V_slice h1
  exact ⟨A0, c0, A1, c1, rfl, (Kd.V_reads' h0).2.2, (Kd.V_reads' h0).2.1, hB⟩
theorem wants_w {x : S28} {a : Int} {b : Bool} (hs : SortH x.f3) (hn : x.f3.length ≤ 1000000) (h : wantsB x a = b) (A : Option Addr) (c : Nat) (w : World) (hr : Kd.C k49 w A x.f3.length x.f3) (hc : x.f3.length ≤ c) :
    Calls Try.prog 19 #[.agg #[.int .u32 x.f0, .bool x.f1, .int .i64 x.f2, .slice A x.f3.length c], .int .u32 a] w fun e w' => e = .returned (.bool b) ∧ Below w.heap.size w w' :=
  memb_Wants.calls _ _ _ A c _ _ _ w hr hc (h ▸ wants_some x a hs hn)
def someB (x : S28) : Bool := x.f1 || decide (0 < x.f3.length)
theorem some_w {x : S28} {b : Bool} (h : someB x = b) (A : Option Addr) (c : Nat) (w : World) (hr : Kd.C k49 w A x.f3.length x.f3) (hc : x.f3.length ≤ c) :
    Calls Try.prog 20 #[.agg #[.int .u32 x.f0, .bool x.f1, .int .i64 x.f2, .slice A x.f3.length c]] w fun e w' => e = .returned (.bool b) ∧ Below w.heap.size w w' :=
  memb_Some.calls _ _ _ A c _ _ w hr hc (by
    subst h
    unfold memb_Some.f someB
    cases x.f1
    · simp
    · simp)
theorem right_w {x : S28} {b : Bool} (h : b = true ↔ MOk x) (A : Option Addr) (c : Nat) (w : World) (hr : Kd.C k49 w A x.f3.length x.f3) (hc : x.f3.length ≤ c) :
    Calls Try.prog 11 #[.agg #[.int .u32 x.f0, .bool x.f1, .int .i64 x.f2, .slice A x.f3.length c]] w fun e w' => e = .returned (.bool b) ∧ Below w.heap.size w w' := by
  obtain ⟨b', h1, h2⟩ := right_some x 100 (Nat.le_refl _)
  have e : b' = b := Bool.eq_iff_iff.2 (h2.trans h.symm)
  subst e
  exact stolonref08_Right.calls 100 _ _ _ A c _ _ w hr hc h1
def mayB (t : S23) : Bool := decide (1 ≤ t.f1) && decide (t.f1 ≤ t.f0) && decide (t.f0 ≤ 1000000)
theorem mayR_w {t : S23} {b : Bool} (h : mayB t = b) (w : World) : Calls Try.prog 10 #[.agg #[.int .i64 t.f0, .int .i64 t.f1]] w fun e w' => e = .returned (.bool b) ∧ Below w.heap.size w w' :=
  stolonref08_May.calls _ _ _ w (by
    subst h
    unfold stolonref08_May.f mayB
    by_cases h1 : 1 ≤ t.f1
    · by_cases h2 : t.f1 ≤ t.f0
      · rw [if_pos h1, if_pos h2]; simp [h1, h2]
      · rw [if_pos h1, if_neg h2]; simp [h2]
    · rw [if_neg h1]; simp [h1])
theorem may_w {t : S23} {b : Bool} (h : mayB t = b) (w : World) : Calls Try.prog 21 #[.agg #[.int .i64 t.f0, .int .i64 t.f1]] w fun e w' => e = .returned (.bool b) ∧ Below w.heap.size w w' :=
  memb_May.calls _ _ _ w (by
    subst h
    unfold memb_May.f mayB
    by_cases h1 : 1 ≤ t.f1
    · by_cases h2 : t.f1 ≤ t.f0
      · rw [if_pos h1, if_pos h2]; simp [h1, h2]
      · rw [if_pos h1, if_neg h2]; simp [h2]
    · rw [if_neg h1]; simp [h1])
end Go.Proofs.Ytbllchfgjginoaa
