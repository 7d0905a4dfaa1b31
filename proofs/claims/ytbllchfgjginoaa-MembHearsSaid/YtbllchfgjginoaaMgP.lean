/- Texts of a claim. -/
import Derived.Test.YtbllchfgjginoaaSoJ
import Derived.Test.YtbllchfgjginoaaPMf4
import Derived.Test.YtbllchfgjginoaaMeK
import Derived.Test.YtbllchfgjginoaaPMf2
import Derived.Test.YtbllchfgjginoaaMeJ
import Derived.Test.YtbllchfgjginoaaPMf3
import Derived.Test.YtbllchfgjginoaaPMg3
import Derived.Test.YtbllchfgjginoaaPMg2
-- written by a program of this session (hprint.py), over the kit's printer
namespace Go.Proofs.Ytbllchfgjginoaa.PMe
open Go.RowKit Go.Proofs.YtbllchfgjginoaaW.PrintWords Go.Proofs.YtbllchfgjginoaaW.PrintLast Go.Proofs.YtbllchfgjginoaaW.PrintMore
attribute [local go_sem] max2_int min2_int max_two min_two max_three min_three max_four min_four   -- for this text's walks alone
set_option linter.unusedVariables false
set_option linter.unusedSimpArgs false

theorem eqA49 (d : Nat) (w : World) (x0 y0 : Int) (x1 y1 : Int) :
    (Op.equalIn (d + 2) 49 (.agg #[.int .u32 x0, .int .i64 x1]) (.agg #[.int .u32 y0, .int .i64 y1])).run Try.prog w = .ok (x0 == y0 && (x1 == y1)) w := by
  refine eqA_of Try.underlying49 (by kernel_rfl) ?_
  refine eqf_cons (by rfl) (by go_simp; rfl) (by go_simp; rfl) (by go_simp) ?_
  exact eqf_last (by rfl) (by go_simp; rfl) (by go_simp; rfl) (by go_simp)

attribute [local go_sem high] eqA49
/-! ### stolonref08_Same: function 14 -/
mutual
def stolonref08_Same.j0 : Nat → Bool → Int → Bool → Int → List (S49) → Int → Bool → Int → List (S49) → Option (Bool)
  | 0, _, _, _, _, _, _, _, _, _ => none
  | k + 1, x33, x127000, x127001, x127002, x127003, x128000, x128001, x128002, x128003 => if x33 = true then (some false) else (stolonref08_Same.l0 k 0 x127000 x127001 x127002 x127003 x128000 x128001 x128002 x128003)
def stolonref08_Same.l0 : Nat → Int → Int → Bool → Int → List (S49) → Int → Bool → Int → List (S49) → Option (Bool)
  | 0, _, _, _, _, _, _, _, _, _ => none
  | k + 1, x5, x127000, x127001, x127002, x127003, x128000, x128001, x128002, x128003 => if x5 < (x127003.length : Int) then (if 0 ≤ x5 then (if x5 < (x128003.length : Int) then (if (!(((rd_T49 x127003 x5).f0) == ((rd_T49 x128003 x5).f0)) || (!(((rd_T49 x127003 x5).f1) == ((rd_T49 x128003 x5).f1)))) = true then (some false) else (stolonref08_Same.l0 k (wrap64 (x5 + 1)) x127000 x127001 x127002 x127003 x128000 x128001 x128002 x128003)) else (none)) else (none)) else (some true)
end
def stolonref08_Same.f (k : Nat) (a0_0 : Int) (a0_1 : Bool) (a0_2 : Int) (l0_3 : List (S49)) (a1_0 : Int) (a1_1 : Bool) (a1_2 : Int) (l1_3 : List (S49)) : Option (Bool) := if a0_0 = a1_0 then (if (a0_1 != a1_1) = true then (stolonref08_Same.j0 k true a0_0 a0_1 a0_2 l0_3 a1_0 a1_1 a1_2 l1_3) else (if a0_2 = a1_2 then (stolonref08_Same.j0 k ((l0_3.length : Int) != (l1_3.length : Int)) a0_0 a0_1 a0_2 l0_3 a1_0 a1_1 a1_2 l1_3) else (stolonref08_Same.j0 k true a0_0 a0_1 a0_2 l0_3 a1_0 a1_1 a1_2 l1_3))) else (stolonref08_Same.j0 k true a0_0 a0_1 a0_2 l0_3 a1_0 a1_1 a1_2 l1_3)
set_option maxHeartbeats 8000000 in
set_option maxRecDepth 100000 in
theorem stolonref08_Same.calls (k : Nat) (a0_0 : Int) (a0_1 : Bool) (a0_2 : Int) (A0_3 : Option Addr) (c0_3 : Nat) (l0_3 : List (S49)) (a1_0 : Int) (a1_1 : Bool) (a1_2 : Int) (A1_3 : Option Addr) (c1_3 : Nat) (l1_3 : List (S49)) (r : Bool) (w : World) (hr0_3 : Kd.C k49 w A0_3 l0_3.length l0_3) (hc0_3 : l0_3.length ≤ c0_3) (hr1_3 : Kd.C k49 w A1_3 l1_3.length l1_3) (hc1_3 : l1_3.length ≤ c1_3) (h : stolonref08_Same.f k a0_0 a0_1 a0_2 l0_3 a1_0 a1_1 a1_2 l1_3 = some r) :
    Calls Try.prog 14 #[.agg #[.int .u32 a0_0, .bool a0_1, .int .i64 a0_2, .slice A0_3 l0_3.length c0_3], .agg #[.int .u32 a1_0, .bool a1_1, .int .i64 a1_2, .slice A1_3 l1_3.length c1_3]] w fun e w' => e = .returned (.bool r) ∧ Below w.heap.size w w' := by
  have hu28 := Try.underlying28
  have hu49 := Try.underlying49
  have HR0_3 := Aside0.mk hr0_3
  have HC0_3 := Aside0.mk hc0_3
  clear hr0_3 hc0_3
  have HR1_3 := Aside0.mk hr1_3
  have HC1_3 := Aside0.mk hc1_3
  clear hr1_3 hc1_3
  have HB := Aside0.mk (Below.refl w.heap.size w)
  have H : (if a0_0 = a1_0 then (if (a0_1 != a1_1) = true then (stolonref08_Same.j0 k true a0_0 a0_1 a0_2 l0_3 a1_0 a1_1 a1_2 l1_3) else (if a0_2 = a1_2 then (stolonref08_Same.j0 k ((l0_3.length : Int) != (l1_3.length : Int)) a0_0 a0_1 a0_2 l0_3 a1_0 a1_1 a1_2 l1_3) else (stolonref08_Same.j0 k true a0_0 a0_1 a0_2 l0_3 a1_0 a1_1 a1_2 l1_3))) else (stolonref08_Same.j0 k true a0_0 a0_1 a0_2 l0_3 a1_0 a1_1 a1_2 l1_3)) = some r := h
  clear h
  have HC3 := Aside0.mk H
  clear H
  go_enter Try.func14, Try.ntmps14
  go_upto_region 1 with (first | ((with_reducible refine gate_dst (N := 2) rfl ?_); (try (refine gate_guard (by rfl) ?_; dsimp only)); refine bxn (cs := #[.int .u32 a0_0, .bool a0_1, .int .i64 a0_2, .slice A0_3 l0_3.length c0_3]) (t := 28) ?_; intro gb126 hg w4 hbox hb; have BK126 := Aside0.mk (hbox); have GW126 := Aside0.mk ((by rw [hg]; exact (below_size (bl HB)) : w.heap.size ≤ gb126)); have GE126 := Aside0.mk ((by rw [hg]; exact (below_size (bl HB)) : w.heap.size ≤ gb126)); replace HB := Aside0.mk (below_step (bl HB) hb); clear hb hbox hg) | ((with_reducible refine gate_dst (N := 3) rfl ?_); (try (refine gate_guard (by rfl) ?_; dsimp only)); refine bxn (cs := #[.int .u32 a1_0, .bool a1_1, .int .i64 a1_2, .slice A1_3 l1_3.length c1_3]) (t := 28) ?_; intro gb127 hg w5 hbox hb; have n0_ := Aside0.mk (blk_below (g := gb126) (o := .cells #[.int .u32 a0_0, .bool a0_1, .int .i64 a0_2, .slice A0_3 l0_3.length c0_3] 28 (0, 0)) (ba BK126.out) hb); have n1_ := Aside0.mk (below_step (bl HB) hb); have n2_ := Aside0.mk (hbox); have n3_ := Aside0.mk ((by rw [hg]; exact (below_size (bl HB)) : w.heap.size ≤ gb127)); have n4_ := Aside0.mk ((by rw [hg]; exact (below_size (bl HB)) : w.heap.size ≤ gb127)); have n5_ := Aside0.mk ((by rw [hg]; exact Nat.ne_of_lt (blk_lt (g := gb126) (o := .cells #[.int .u32 a0_0, .bool a0_1, .int .i64 a0_2, .slice A0_3 l0_3.length c0_3] 28 (0, 0)) (ba BK126.out)) : gb126 ≠ gb127)); have n6_ := Aside0.mk ((by rw [hg]; exact Nat.ne_of_gt (blk_lt (g := gb126) (o := .cells #[.int .u32 a0_0, .bool a0_1, .int .i64 a0_2, .slice A0_3 l0_3.length c0_3] 28 (0, 0)) (ba BK126.out)) : gb127 ≠ gb126)); clear BK126; clear HB; have BK126 := n0_; have HB := n1_; have BK127 := n2_; have GW127 := n3_; have GE127 := n4_; have NB126_127 := n5_; have NB127_126 := n6_; clear n0_ n1_ n2_ n3_ n4_ n5_ n6_; clear hb hbox hg))
  repeat (go_quiet (first | ((with_reducible refine gate_dst (N := 2) rfl ?_); (try (refine gate_guard (by rfl) ?_; dsimp only)); refine bxn (cs := #[.int .u32 a0_0, .bool a0_1, .int .i64 a0_2, .slice A0_3 l0_3.length c0_3]) (t := 28) ?_; intro gb126 hg w4 hbox hb; have BK126 := Aside0.mk (hbox); have GW126 := Aside0.mk ((by rw [hg]; exact (below_size (bl HB)) : w.heap.size ≤ gb126)); have GE126 := Aside0.mk ((by rw [hg]; exact (below_size (bl HB)) : w.heap.size ≤ gb126)); replace HB := Aside0.mk (below_step (bl HB) hb); clear hb hbox hg) | ((with_reducible refine gate_dst (N := 3) rfl ?_); (try (refine gate_guard (by rfl) ?_; dsimp only)); refine bxn (cs := #[.int .u32 a1_0, .bool a1_1, .int .i64 a1_2, .slice A1_3 l1_3.length c1_3]) (t := 28) ?_; intro gb127 hg w5 hbox hb; have n0_ := Aside0.mk (blk_below (g := gb126) (o := .cells #[.int .u32 a0_0, .bool a0_1, .int .i64 a0_2, .slice A0_3 l0_3.length c0_3] 28 (0, 0)) (ba BK126.out) hb); have n1_ := Aside0.mk (below_step (bl HB) hb); have n2_ := Aside0.mk (hbox); have n3_ := Aside0.mk ((by rw [hg]; exact (below_size (bl HB)) : w.heap.size ≤ gb127)); have n4_ := Aside0.mk ((by rw [hg]; exact (below_size (bl HB)) : w.heap.size ≤ gb127)); have n5_ := Aside0.mk ((by rw [hg]; exact Nat.ne_of_lt (blk_lt (g := gb126) (o := .cells #[.int .u32 a0_0, .bool a0_1, .int .i64 a0_2, .slice A0_3 l0_3.length c0_3] 28 (0, 0)) (ba BK126.out)) : gb126 ≠ gb127)); have n6_ := Aside0.mk ((by rw [hg]; exact Nat.ne_of_gt (blk_lt (g := gb126) (o := .cells #[.int .u32 a0_0, .bool a0_1, .int .i64 a0_2, .slice A0_3 l0_3.length c0_3] 28 (0, 0)) (ba BK126.out)) : gb127 ≠ gb126)); clear BK126; clear HB; have BK126 := n0_; have HB := n1_; have BK127 := n2_; have GW127 := n3_; have GE127 := n4_; have NB126_127 := n5_; have NB127_126 := n6_; clear n0_ n1_ n2_ n3_ n4_ n5_ n6_; clear hb hbox hg)); go_upto_region 1 with (first | ((with_reducible refine gate_dst (N := 2) rfl ?_); (try (refine gate_guard (by rfl) ?_; dsimp only)); refine bxn (cs := #[.int .u32 a0_0, .bool a0_1, .int .i64 a0_2, .slice A0_3 l0_3.length c0_3]) (t := 28) ?_; intro gb126 hg w4 hbox hb; have BK126 := Aside0.mk (hbox); have GW126 := Aside0.mk ((by rw [hg]; exact (below_size (bl HB)) : w.heap.size ≤ gb126)); have GE126 := Aside0.mk ((by rw [hg]; exact (below_size (bl HB)) : w.heap.size ≤ gb126)); replace HB := Aside0.mk (below_step (bl HB) hb); clear hb hbox hg) | ((with_reducible refine gate_dst (N := 3) rfl ?_); (try (refine gate_guard (by rfl) ?_; dsimp only)); refine bxn (cs := #[.int .u32 a1_0, .bool a1_1, .int .i64 a1_2, .slice A1_3 l1_3.length c1_3]) (t := 28) ?_; intro gb127 hg w5 hbox hb; have n0_ := Aside0.mk (blk_below (g := gb126) (o := .cells #[.int .u32 a0_0, .bool a0_1, .int .i64 a0_2, .slice A0_3 l0_3.length c0_3] 28 (0, 0)) (ba BK126.out) hb); have n1_ := Aside0.mk (below_step (bl HB) hb); have n2_ := Aside0.mk (hbox); have n3_ := Aside0.mk ((by rw [hg]; exact (below_size (bl HB)) : w.heap.size ≤ gb127)); have n4_ := Aside0.mk ((by rw [hg]; exact (below_size (bl HB)) : w.heap.size ≤ gb127)); have n5_ := Aside0.mk ((by rw [hg]; exact Nat.ne_of_lt (blk_lt (g := gb126) (o := .cells #[.int .u32 a0_0, .bool a0_1, .int .i64 a0_2, .slice A0_3 l0_3.length c0_3] 28 (0, 0)) (ba BK126.out)) : gb126 ≠ gb127)); have n6_ := Aside0.mk ((by rw [hg]; exact Nat.ne_of_gt (blk_lt (g := gb126) (o := .cells #[.int .u32 a0_0, .bool a0_1, .int .i64 a0_2, .slice A0_3 l0_3.length c0_3] 28 (0, 0)) (ba BK126.out)) : gb127 ≠ gb126)); clear BK126; clear HB; have BK126 := n0_; have HB := n1_; have BK127 := n2_; have GW127 := n3_; have GE127 := n4_; have NB126_127 := n5_; have NB127_126 := n6_; clear n0_ n1_ n2_ n3_ n4_ n5_ n6_; clear hb hbox hg)))
  (try simp only [Act.put, List.setIfInBounds_toArray, List.set_cons_zero, List.set_cons_succ])
  go_cut [33] (fun v33 wc => ∃ (kq : Nat) (x33_2 : Bool), v33 = .bool x33_2 ∧ Aside0 (stolonref08_Same.j0 kq x33_2 a0_0 a0_1 a0_2 l0_3 a1_0 a1_1 a1_2 l1_3 = some r) ∧ Aside0 (kq ≤ k) ∧ Aside0 (wc.heap[gb126]? = some (.cells #[.int .u32 a0_0, .bool a0_1, .int .i64 a0_2, (.slice A0_3 l0_3.length c0_3)] 28 (0, 0))) ∧ Aside0 (wc.heap[gb127]? = some (.cells #[.int .u32 a1_0, .bool a1_1, .int .i64 a1_2, (.slice A1_3 l1_3.length c1_3)] 28 (0, 0))) ∧ Aside0 (Below w.heap.size w wc))
  case first =>
    have H := HC3.out
    clear HC3
    by_cases c6 : a0_0 = a1_0
    · rw [if_pos c6] at H
      have c6b0 : (a0_0 == a1_0) = true := beq_iff_eq.mpr c6
      have c6b1 : (a0_0 != a1_0) = false := bne_eq_false_iff_eq.mpr c6
      clear c6
      (first | rw [c6b0] | (simp only [i64_w, i32_w]; rw [c6b0]) | skip)
      by_cases c7 : (a0_1 != a1_1) = true
      · rw [if_pos c7] at H
        have c7b0 : (a0_1 != a1_1) = true := c7
        (try (have c7b1 : decide (a0_1 = a1_1) = false := by simpa using c7))
        (try (have c7b2 : (a0_1 == a1_1) = false := by simpa using c7))
        (try (have c7b3 : ¬ (a0_1 = a1_1) := by simpa using c7))
        clear c7
        have H' := Aside0.mk H
        clear H
        have hnb8 := NB126_127.out
        have hnc8 := NB127_126.out
        obtain ⟨hcz9_0, hcz9_1, hcz9_2, hcz9_3, hfz9_0, hfz9_1, hfz9_2, hfz9_3⟩ := cf4 BK126.out
        obtain ⟨hcz10_0, hcz10_1, hcz10_2, hcz10_3, hfz10_0, hfz10_1, hfz10_2, hfz10_3⟩ := cf4 BK127.out
        go_wp2
        repeat (go_quiet (fail); try go_wp2)
        go_meet
        case rel => exact ⟨_, (true), (fr), H', ⟨by first | omega | exact Nat.le_refl _⟩, ⟨ba BK126.out⟩, ⟨ba BK127.out⟩, ⟨bl HB⟩⟩
      · rw [if_neg c7] at H
        have c7b0 : (a0_1 != a1_1) = false := by simpa using c7
        (try (have c7b1 : decide (a0_1 = a1_1) = true := by simpa using c7))
        (try (have c7b2 : (a0_1 == a1_1) = true := by simpa using c7))
        clear c7
        by_cases c11 : a0_2 = a1_2
        · rw [if_pos c11] at H
          have c11b0 : (a0_2 == a1_2) = true := beq_iff_eq.mpr c11
          have c11b1 : (a0_2 != a1_2) = false := bne_eq_false_iff_eq.mpr c11
          clear c11
          have H' := Aside0.mk H
          clear H
          have hnb12 := NB126_127.out
          have hnc12 := NB127_126.out
          obtain ⟨hcz13_0, hcz13_1, hcz13_2, hcz13_3, hfz13_0, hfz13_1, hfz13_2, hfz13_3⟩ := cf4 BK126.out
          obtain ⟨hcz14_0, hcz14_1, hcz14_2, hcz14_3, hfz14_0, hfz14_1, hfz14_2, hfz14_3⟩ := cf4 BK127.out
          go_wp2
          repeat (go_quiet (fail); try go_wp2)
          go_meet
          case rel => exact ⟨_, (((l0_3.length : Int) != (l1_3.length : Int))), (fr), H', ⟨by first | omega | exact Nat.le_refl _⟩, ⟨ba BK126.out⟩, ⟨ba BK127.out⟩, ⟨bl HB⟩⟩
        · rw [if_neg c11] at H
          have c11b0 : (a0_2 == a1_2) = false := beq_eq_false_iff_ne.mpr c11
          have c11b1 : (a0_2 != a1_2) = true := bne_iff_ne.mpr c11
          have H' := Aside0.mk H
          clear H
          have hnb15 := NB126_127.out
          have hnc15 := NB127_126.out
          obtain ⟨hcz16_0, hcz16_1, hcz16_2, hcz16_3, hfz16_0, hfz16_1, hfz16_2, hfz16_3⟩ := cf4 BK126.out
          obtain ⟨hcz17_0, hcz17_1, hcz17_2, hcz17_3, hfz17_0, hfz17_1, hfz17_2, hfz17_3⟩ := cf4 BK127.out
          go_wp2
          repeat (go_quiet (fail); try go_wp2)
          go_meet
          case rel => exact ⟨_, (true), (fr), H', ⟨by first | omega | exact Nat.le_refl _⟩, ⟨ba BK126.out⟩, ⟨ba BK127.out⟩, ⟨bl HB⟩⟩
    · rw [if_neg c6] at H
      have c6b0 : (a0_0 == a1_0) = false := beq_eq_false_iff_ne.mpr c6
      have c6b1 : (a0_0 != a1_0) = true := bne_iff_ne.mpr c6
      (first | rw [c6b0] | (simp only [i64_w, i32_w]; rw [c6b0]) | skip)
      have H' := Aside0.mk H
      clear H
      have hnb18 := NB126_127.out
      have hnc18 := NB127_126.out
      obtain ⟨hcz19_0, hcz19_1, hcz19_2, hcz19_3, hfz19_0, hfz19_1, hfz19_2, hfz19_3⟩ := cf4 BK126.out
      obtain ⟨hcz20_0, hcz20_1, hcz20_2, hcz20_3, hfz20_0, hfz20_1, hfz20_2, hfz20_3⟩ := cf4 BK127.out
      go_wp2
      repeat (go_quiet (fail); try go_wp2)
      go_meet
      case rel => exact ⟨_, (true), (fr), H', ⟨by first | omega | exact Nat.le_refl _⟩, ⟨ba BK126.out⟩, ⟨ba BK127.out⟩, ⟨bl HB⟩⟩
  case rest =>
    clear HC3
    try clear c1
    try clear p2
    try clear c6
    try clear c6b0
    try clear c6b1
    try clear c7
    try clear c7b0
    try clear c7b1
    try clear c7b2
    try clear c8
    try clear c11
    try clear c11b0
    try clear c11b1
    try clear c12
    try clear c14
    try clear c15
    try clear c18
    try clear hcz10_0
    try clear hcz10_1
    try clear hcz10_2
    try clear hcz10_3
    try clear hcz13_0
    try clear hcz13_1
    try clear hcz13_2
    try clear hcz13_3
    try clear hcz14_0
    try clear hcz14_1
    try clear hcz14_2
    try clear hcz14_3
    try clear hcz16_0
    try clear hcz16_1
    try clear hcz16_2
    try clear hcz16_3
    try clear hcz17_0
    try clear hcz17_1
    try clear hcz17_2
    try clear hcz17_3
    try clear hcz19_0
    try clear hcz19_1
    try clear hcz19_2
    try clear hcz19_3
    try clear hcz20_0
    try clear hcz20_1
    try clear hcz20_2
    try clear hcz20_3
    try clear hcz9_0
    try clear hcz9_1
    try clear hcz9_2
    try clear hcz9_3
    try clear hfz10_0
    try clear hfz10_1
    try clear hfz10_2
    try clear hfz10_3
    try clear hfz13_0
    try clear hfz13_1
    try clear hfz13_2
    try clear hfz13_3
    try clear hfz14_0
    try clear hfz14_1
    try clear hfz14_2
    try clear hfz14_3
    try clear hfz16_0
    try clear hfz16_1
    try clear hfz16_2
    try clear hfz16_3
    try clear hfz17_0
    try clear hfz17_1
    try clear hfz17_2
    try clear hfz17_3
    try clear hfz19_0
    try clear hfz19_1
    try clear hfz19_2
    try clear hfz19_3
    try clear hfz20_0
    try clear hfz20_1
    try clear hfz20_2
    try clear hfz20_3
    try clear hfz9_0
    try clear hfz9_1
    try clear hfz9_2
    try clear hfz9_3
    obtain ⟨kq, x33_2, rfl, HA, HJ2, BK126, BK127, HB⟩ := hcut
    cases kq with
    | zero => exact absurd HA.out (by simp [stolonref08_Same.j0])
    | succ kj2 =>
      have H := HA.out
      clear HA
      simp only [stolonref08_Same.j0] at H
      by_cases c21 : x33_2 = true
      · subst c21
        replace H : (some false) = some r := by rw [if_pos rfl] at H; exact H
        obtain rfl := Option.some.inj H
        go_wp2
        repeat (go_quiet (fail); try go_wp2)
        go_ret
        exact ⟨by first | rfl | (simp [errW_none, errW_some] <;> rfl) | (simp [*, errW_none, errW_some] <;> rfl), bl HB⟩
      · replace c21 := Bool.eq_false_iff.mpr c21
        subst c21
        replace H : (stolonref08_Same.l0 kj2 0 a0_0 a0_1 a0_2 l0_3 a1_0 a1_1 a1_2 l1_3) = some r := by rw [if_neg (show ¬ (false = true) by decide)] at H; exact H
        have H' := Aside0.mk H
        clear H
        go_wp2
        repeat (go_quiet (fail); try go_wp2)
        go_loopg [5] kj2 (fun kq v5 w' => ∃ (x5_2 : Int), v5 = .int .i64 x5_2 ∧ Aside0 (stolonref08_Same.l0 kq x5_2 a0_0 a0_1 a0_2 l0_3 a1_0 a1_1 a1_2 l1_3 = some r) ∧ Aside0 (kq ≤ kj2) ∧ Aside0 (w'.heap[gb126]? = some (.cells #[.int .u32 a0_0, .bool a0_1, .int .i64 a0_2, (.slice A0_3 l0_3.length c0_3)] 28 (0, 0))) ∧ Aside0 (w'.heap[gb127]? = some (.cells #[.int .u32 a1_0, .bool a1_1, .int .i64 a1_2, (.slice A1_3 l1_3.length c1_3)] 28 (0, 0))) ∧ Aside0 (Below w.heap.size w w'))
        case atStart => exact ⟨(0), (fr), H', ⟨Nat.le_refl _⟩, ⟨ba BK126.out⟩, ⟨ba BK127.out⟩, ⟨bl HB⟩⟩
        case round =>
          clear H'
          try clear c1
          try clear c2
          try clear p2
          try clear c6
          try clear c6b0
          try clear c6b1
          try clear c7
          try clear c7b0
          try clear c7b1
          try clear c7b2
          try clear c8
          try clear c11
          try clear c11b0
          try clear c11b1
          try clear c12
          try clear c14
          try clear c15
          try clear c18
          try clear c21
          try clear hcz10_0
          try clear hcz10_1
          try clear hcz10_2
          try clear hcz10_3
          try clear hcz13_0
          try clear hcz13_1
          try clear hcz13_2
          try clear hcz13_3
          try clear hcz14_0
          try clear hcz14_1
          try clear hcz14_2
          try clear hcz14_3
          try clear hcz16_0
          try clear hcz16_1
          try clear hcz16_2
          try clear hcz16_3
          try clear hcz17_0
          try clear hcz17_1
          try clear hcz17_2
          try clear hcz17_3
          try clear hcz19_0
          try clear hcz19_1
          try clear hcz19_2
          try clear hcz19_3
          try clear hcz20_0
          try clear hcz20_1
          try clear hcz20_2
          try clear hcz20_3
          try clear hcz9_0
          try clear hcz9_1
          try clear hcz9_2
          try clear hcz9_3
          try clear hfz10_0
          try clear hfz10_1
          try clear hfz10_2
          try clear hfz10_3
          try clear hfz13_0
          try clear hfz13_1
          try clear hfz13_2
          try clear hfz13_3
          try clear hfz14_0
          try clear hfz14_1
          try clear hfz14_2
          try clear hfz14_3
          try clear hfz16_0
          try clear hfz16_1
          try clear hfz16_2
          try clear hfz16_3
          try clear hfz17_0
          try clear hfz17_1
          try clear hfz17_2
          try clear hfz17_3
          try clear hfz19_0
          try clear hfz19_1
          try clear hfz19_2
          try clear hfz19_3
          try clear hfz20_0
          try clear hfz20_1
          try clear hfz20_2
          try clear hfz20_3
          try clear hfz9_0
          try clear hfz9_1
          try clear hfz9_2
          try clear hfz9_3
          try clear p2
          obtain ⟨x5_2, rfl, HA, HK2, BK126, BK127, HB⟩ := hrel
          cases gk with
          | zero => exact absurd HA.out (by simp [stolonref08_Same.l0])
          | succ k2 =>
            have H := HA.out
            clear HA
            simp only [stolonref08_Same.l0] at H
            by_cases c22 : x5_2 < (l0_3.length : Int)
            · rw [if_pos c22] at H
              have c22b0 : decide (x5_2 < (l0_3.length : Int)) = true := decide_eq_true c22
              clear c22
              by_cases c23 : 0 ≤ x5_2
              · rw [if_pos c23] at H
                have c23b0 : decide (0 ≤ x5_2) = true := decide_eq_true c23
                clear c23
                by_cases c24 : x5_2 < (l1_3.length : Int)
                · rw [if_pos c24] at H
                  have c24b0 : decide (x5_2 < (l1_3.length : Int)) = true := decide_eq_true c24
                  clear c24
                  by_cases c25 : (!(((rd_T49 l0_3 x5_2).f0) == ((rd_T49 l1_3 x5_2).f0)) || (!(((rd_T49 l0_3 x5_2).f1) == ((rd_T49 l1_3 x5_2).f1)))) = true
                  · rw [if_pos c25] at H
                    have c25b0 : (!(((rd_T49 l0_3 x5_2).f0) == ((rd_T49 l1_3 x5_2).f0)) || (!(((rd_T49 l0_3 x5_2).f1) == ((rd_T49 l1_3 x5_2).f1)))) = true := c25
                    clear c25
                    obtain rfl := Option.some.inj H
                    have hnb26 := NB126_127.out
                    have hnc26 := NB127_126.out
                    obtain ⟨hcz27_0, hcz27_1, hcz27_2, hcz27_3, hfz27_0, hfz27_1, hfz27_2, hfz27_3⟩ := cf4 BK126.out
                    have p128 : 0 ≤ (x5_2 : Int) := od
                    have q128 : x5_2 < (l0_3.length : Int) := od
                    obtain ⟨ad128, e128, hx128_0, hx128_1⟩ := at_T49 HR0_3.out x5_2 p128 q128
                    cases e128
                    replace hx128_0 := hcz HB hx128_0
                    replace hx128_1 := hcz HB hx128_1
                    replace p128 := eq_true p128
                    replace q128 := eq_true q128
                    obtain ⟨hcz28_0, hcz28_1, hcz28_2, hcz28_3, hfz28_0, hfz28_1, hfz28_2, hfz28_3⟩ := cf4 BK127.out
                    have p129 : 0 ≤ (x5_2 : Int) := od
                    have q129 : x5_2 < (l1_3.length : Int) := od
                    obtain ⟨ad129, e129, hx129_0, hx129_1⟩ := at_T49 HR1_3.out x5_2 p129 q129
                    cases e129
                    replace hx129_0 := hcz HB hx129_0
                    replace hx129_1 := hcz HB hx129_1
                    replace p129 := eq_true p129
                    replace q129 := eq_true q129
                    go_wp2
                    repeat (go_quiet (fail); try go_wp2)
                    go_ret
                    exact ⟨by first | rfl | (simp [errW_none, errW_some] <;> rfl) | (simp [*, errW_none, errW_some] <;> rfl), bl HB⟩
                  · rw [if_neg c25] at H
                    have c25b0 : (!(((rd_T49 l0_3 x5_2).f0) == ((rd_T49 l1_3 x5_2).f0)) || (!(((rd_T49 l0_3 x5_2).f1) == ((rd_T49 l1_3 x5_2).f1)))) = false := by simpa using c25
                    clear c25
                    have H' := Aside0.mk H
                    clear H
                    have hnb29 := NB126_127.out
                    have hnc29 := NB127_126.out
                    obtain ⟨hcz30_0, hcz30_1, hcz30_2, hcz30_3, hfz30_0, hfz30_1, hfz30_2, hfz30_3⟩ := cf4 BK126.out
                    have p128 : 0 ≤ (x5_2 : Int) := od
                    have q128 : x5_2 < (l0_3.length : Int) := od
                    obtain ⟨ad128, e128, hx128_0, hx128_1⟩ := at_T49 HR0_3.out x5_2 p128 q128
                    cases e128
                    replace hx128_0 := hcz HB hx128_0
                    replace hx128_1 := hcz HB hx128_1
                    replace p128 := eq_true p128
                    replace q128 := eq_true q128
                    obtain ⟨hcz31_0, hcz31_1, hcz31_2, hcz31_3, hfz31_0, hfz31_1, hfz31_2, hfz31_3⟩ := cf4 BK127.out
                    have p129 : 0 ≤ (x5_2 : Int) := od
                    have q129 : x5_2 < (l1_3.length : Int) := od
                    obtain ⟨ad129, e129, hx129_0, hx129_1⟩ := at_T49 HR1_3.out x5_2 p129 q129
                    cases e129
                    replace hx129_0 := hcz HB hx129_0
                    replace hx129_1 := hcz HB hx129_1
                    replace p129 := eq_true p129
                    replace q129 := eq_true q129
                    go_wp2
                    repeat (go_quiet (fail); try go_wp2)
                    go_roundg k2
                    case measure => have := HJ2.out; have := HK2.out; omega
                    case rel => exact ⟨(wrap64 (x5_2 + 1)), (fr), H', ⟨by have := HJ2.out; have := HK2.out; omega⟩, ⟨ba BK126.out⟩, ⟨ba BK127.out⟩, ⟨bl HB⟩⟩
                · rw [if_neg c24] at H
                  exact absurd H (by simp)
              · rw [if_neg c23] at H
                exact absurd H (by simp)
            · rw [if_neg c22] at H
              have c22b0 : decide (x5_2 < (l0_3.length : Int)) = false := decide_eq_false c22
              clear c22
              obtain rfl := Option.some.inj H
              have hnb32 := NB126_127.out
              have hnc32 := NB127_126.out
              obtain ⟨hcz33_0, hcz33_1, hcz33_2, hcz33_3, hfz33_0, hfz33_1, hfz33_2, hfz33_3⟩ := cf4 BK126.out
              go_wp2
              repeat (go_quiet (fail); try go_wp2)
              go_ret
              exact ⟨by first | rfl | (simp [errW_none, errW_some] <;> rfl) | (simp [*, errW_none, errW_some] <;> rfl), bl HB⟩

end Go.Proofs.Ytbllchfgjginoaa.PMe
/-
  What is right, what is had, wanted and the same, in plain lists (chapter 08).
-/
namespace Go.Proofs.Ytbllchfgjginoaa
open Go.RowKit Go.Lib Go.Proofs.YtbllchfgjginoaaW.PrintWords Go.Proofs.Ytbllchfgjginoaa.PMe
set_option linter.unusedVariables false
set_option linter.unusedSimpArgs false
/-- The j-th source is right beside the one ahead of it. -/
def goodH (ex : Bool) (l : List S49) (j : Nat) : Prop := 0 ≤ (rd_T49 l j).f1 ∧ (rd_T49 l j).f1 ≤ 1000000 ∧ ((rd_T49 l j).f1 = 0 → ex = true) ∧ (0 < j → (rd_T49 l ((j - 1 : Nat) : Int)).f0 < (rd_T49 l j).f0)
structure MOk (x : S28) : Prop where
  asked : 3758096640 ≤ x.f0 ∧ x.f0 ≤ 4026531839
  len : x.f3.length ≤ 64
  ex : x.f1 = true → 1 ≤ x.f2 ∧ x.f2 ≤ 1000000
  inn : x.f1 = false → x.f2 = 0
  all : ∀ j, j < x.f3.length → goodH x.f1 x.f3 j
theorem right_loop (g lf : Int) (ex : Bool) (l : List S49) (hl : l.length ≤ 64) : ∀ n k (i : Nat), l.length ≤ i + n → n < k → i ≤ l.length → ∃ b, stolonref08_Right.l0 k i g ex lf l = some b ∧ (b = true ↔ ∀ j, i ≤ j → j < l.length → goodH ex l j) := by
  intro n
  induction n with
  | zero =>
    intro k i h1 h2 h3
    obtain ⟨k, rfl⟩ : ∃ k', k = k' + 1 := ⟨k - 1, by omega⟩
    refine ⟨true, ?_, by simp; intro j h4 h5; omega⟩
    rw [stolonref08_Right.l0, if_neg (by omega)]
  | succ n ih =>
    intro k i h1 h2 h3
    obtain ⟨k, rfl⟩ : ∃ k', k = k' + 1 := ⟨k - 1, by omega⟩
    by_cases h4 : i < l.length
    · have nx : (∃ b, stolonref08_Right.l0 k (wrap64 ((i : Int) + 1)) g ex lf l = some b ∧ (b = true ↔ ∀ j, i + 1 ≤ j → j < l.length → goodH ex l j)) := by
        rw [step64 i (by omega)]
        exact ih k (i + 1) (by omega) (by omega) (by omega)
      have no : ∀ c : Option Bool, c = some false → ¬ goodH ex l i → ∃ b, c = some b ∧ (b = true ↔ ∀ j, i ≤ j → j < l.length → goodH ex l j) := fun c e h => ⟨false, e, by simp; exact ⟨i, Nat.le_refl _, h4, h⟩⟩
      have ye : ∀ c : Option Bool, c = stolonref08_Right.l0 k (wrap64 ((i : Int) + 1)) g ex lf l → goodH ex l i → ∃ b, c = some b ∧ (b = true ↔ ∀ j, i ≤ j → j < l.length → goodH ex l j) := by
        intro c e h
        obtain ⟨b, h5, h6⟩ := nx
        refine ⟨b, e.trans h5, h6.trans ⟨fun h7 j h8 h9 => ?_, fun h7 j h8 h9 => h7 j (by omega) h9⟩⟩
        by_cases e2 : j = i
        · subst e2; exact h
        · exact h7 j (by omega) h9
      rw [stolonref08_Right.l0, if_pos (by omega), if_pos (by omega)]
      by_cases c1 : (rd_T49 l i).f1 < 0
      · rw [if_pos c1]; exact no _ rfl (fun h => by have := h.1; omega)
      rw [if_neg c1]
      by_cases c2 : (rd_T49 l i).f1 > 1000000
      · rw [if_pos c2]; exact no _ rfl (fun h => by have := h.2.1; omega)
      rw [if_neg c2]
      by_cases c4 : (i : Int) > 0
      · have e1 : wrap64 ((i : Int) - 1) = ((i - 1 : Nat) : Int) := by rw [w64 (by omega) (by omega)]; omega
        by_cases c5 : (rd_T49 l i).f0 ≤ (rd_T49 l ((i - 1 : Nat) : Int)).f0
        · by_cases c3 : (rd_T49 l i).f1 = 0
          · rw [if_pos c3]
            by_cases c6 : ex = true
            · rw [if_pos c6, if_pos c4, e1, if_pos (by omega), if_pos (by omega), if_pos c5]; exact no _ rfl (fun h => by have := h.2.2.2 (by omega); omega)
            · rw [if_neg c6]; exact no _ rfl (fun h => c6 (h.2.2.1 c3))
          · rw [if_neg c3, if_pos c4, e1, if_pos (by omega), if_pos (by omega), if_pos c5]; exact no _ rfl (fun h => by have := h.2.2.2 (by omega); omega)
        · by_cases c3 : (rd_T49 l i).f1 = 0
          · rw [if_pos c3]
            by_cases c6 : ex = true
            · rw [if_pos c6, if_pos c4, e1, if_pos (by omega), if_pos (by omega), if_neg c5]; exact ye _ rfl ⟨by omega, by omega, fun _ => c6, fun _ => by omega⟩
            · rw [if_neg c6]; exact no _ rfl (fun h => c6 (h.2.2.1 c3))
          · rw [if_neg c3, if_pos c4, e1, if_pos (by omega), if_pos (by omega), if_neg c5]; exact ye _ rfl ⟨by omega, by omega, fun h => absurd h c3, fun _ => by omega⟩
      · by_cases c3 : (rd_T49 l i).f1 = 0
        · rw [if_pos c3]
          by_cases c6 : ex = true
          · rw [if_pos c6, if_neg c4]; exact ye _ rfl ⟨by omega, by omega, fun _ => c6, fun h => by omega⟩
          · rw [if_neg c6]; exact no _ rfl (fun h => c6 (h.2.2.1 c3))
        · rw [if_neg c3, if_neg c4]; exact ye _ rfl ⟨by omega, by omega, fun h => absurd h c3, fun h => by omega⟩
    · refine ⟨true, ?_, by simp; intro j h5 h6; omega⟩
      rw [stolonref08_Right.l0, if_neg (by omega)]
theorem right_some (x : S28) (k : Nat) (hk : 100 ≤ k) : ∃ b, stolonref08_Right.f k x.f0 x.f1 x.f2 x.f3 = some b ∧ (b = true ↔ MOk x) := by
  obtain ⟨k, rfl⟩ : ∃ k', k = k' + 1 := ⟨k - 1, by omega⟩
  obtain ⟨k, rfl⟩ : ∃ k', k = k' + 1 := ⟨k - 1, by omega⟩
  have no : ¬ MOk x → ∀ c : Option Bool, c = some false → ∃ b, c = some b ∧ (b = true ↔ MOk x) := fun h c e => ⟨false, e, by simp [h]⟩
  have f1 : ∀ k', stolonref08_Right.j0 (k' + 1) true x.f0 x.f1 x.f2 x.f3 = some false := fun k' => by rw [stolonref08_Right.j0, if_pos rfl]
  unfold stolonref08_Right.f stolonref01_Asked.f
  by_cases a1 : x.f0 ≥ 3758096640
  · rw [if_pos a1, Option.bind_some]
    by_cases a2 : x.f0 ≤ 4026531839
    · rw [if_pos (by simp [a2])]
      by_cases a3 : x.f3.length ≤ 64
      · rw [show decide ((x.f3.length : Int) > 64) = false from decide_eq_false (by omega), stolonref08_Right.j0, if_neg (by simp)]
        have j1t : stolonref08_Right.j1 (k + 1) true x.f0 x.f1 x.f2 x.f3 = some false := by rw [stolonref08_Right.j1, if_pos rfl]
        have j1f : stolonref08_Right.j1 (k + 1) false x.f0 x.f1 x.f2 x.f3 = stolonref08_Right.l0 k 0 x.f0 x.f1 x.f2 x.f3 := by rw [stolonref08_Right.j1, if_neg (by simp)]
        obtain ⟨b, h1, h2⟩ := right_loop x.f0 x.f2 x.f1 x.f3 a3 65 k 0 (by omega) (by omega) (by omega)
        have h1' : stolonref08_Right.l0 k 0 x.f0 x.f1 x.f2 x.f3 = some b := h1
        by_cases e : x.f1 = true
        · rw [if_pos e]
          by_cases b1 : x.f2 < 1
          · rw [if_pos b1]; exact no (fun h => by have := h.ex e; omega) _ j1t
          rw [if_neg b1]
          by_cases b2 : x.f2 > 1000000
          · rw [if_pos b2]; exact no (fun h => by have := h.ex e; omega) _ j1t
          rw [if_neg b2, j1f, h1']
          exact ⟨b, rfl, h2.trans ⟨fun h => ⟨⟨a1, a2⟩, a3, fun _ => ⟨by omega, by omega⟩, fun h' => by rw [e] at h'; simp at h', fun j hj => h j (Nat.zero_le _) hj⟩, fun h j _ hj => h.all j hj⟩⟩
        · rw [if_neg e]
          by_cases b1 : x.f2 = 0
          · rw [show (x.f2 != 0) = false by simp [b1], j1f, h1']
            exact ⟨b, rfl, h2.trans ⟨fun h => ⟨⟨a1, a2⟩, a3, fun h' => absurd h' e, fun _ => b1, fun j hj => h j (Nat.zero_le _) hj⟩, fun h j _ hj => h.all j hj⟩⟩
          · rw [show (x.f2 != 0) = true by simp [b1]]
            exact no (fun h => b1 (h.inn (by simpa using e))) _ j1t
      · rw [show decide ((x.f3.length : Int) > 64) = true from decide_eq_true (by omega)]
        exact no (fun h => a3 h.len) _ (f1 _)
    · rw [if_neg (by simp [a2])]
      exact no (fun h => a2 h.asked.2) _ (f1 _)
  · rw [if_neg a1, Option.bind_some, if_neg (by simp)]
    exact no (fun h => a1 h.asked.1) _ (f1 _)
theorem MOk.sort {x : S28} (h : MOk x) : SortH x.f3 := by
  unfold SortH
  rw [List.pairwise_iff_getElem]
  have main : ∀ d i, (hi : i + d + 1 < x.f3.length) → (rd_T49 x.f3 i).f0 < (rd_T49 x.f3 ((i + d + 1 : Nat) : Int)).f0 := by
    intro d
    induction d with
    | zero => intro i hi; have := (h.all (i + 0 + 1) hi).2.2.2 (by omega); simpa using this
    | succ d ih =>
      intro i hi
      have h1 := ih i (by omega)
      have h2 := (h.all (i + (d + 1) + 1) hi).2.2.2 (by omega)
      have e : i + (d + 1) + 1 - 1 = i + d + 1 := by omega
      rw [e] at h2
      omega
  intro i j hi hj hij
  have := main (j - i - 1) i (by omega)
  rw [show i + (j - i - 1) + 1 = j by omega, rd49 _ i hi, rd49 _ j hj] at this
  exact this
theorem has6_loop (l : List Int) (a : Int) (hl : l.length ≤ 1000000) : ∀ n k (i : Nat), l.length ≤ i + n → n < k → i ≤ l.length → stolonref06_Has.l0 k l a i = some (decide (a ∈ l.drop i)) := by
  intro n
  induction n with
  | zero =>
    intro k i h1 h2 h3
    obtain ⟨k, rfl⟩ : ∃ k', k = k' + 1 := ⟨k - 1, by omega⟩
    rw [stolonref06_Has.l0, if_neg (by omega), List.drop_eq_nil_of_le (by omega)]
    simp
  | succ n ih =>
    intro k i h1 h2 h3
    obtain ⟨k, rfl⟩ : ∃ k', k = k' + 1 := ⟨k - 1, by omega⟩
    by_cases h4 : i < l.length
    · rw [stolonref06_Has.l0, if_pos (by omega), if_pos (by omega), rdI l i h4, List.drop_eq_getElem_cons h4]
      by_cases c : l[i] = a
      · rw [if_pos c]; simp [c]
      · rw [if_neg c, step64 i (by omega), ih k (i + 1) (by omega) (by omega) (by omega)]
        congr 1
        simp only [List.mem_cons, Bool.decide_or]
        rw [show decide (a = l[i]) = false from decide_eq_false (fun e => c e.symm)]
        rfl
    · rw [stolonref06_Has.l0, if_neg (by omega), List.drop_eq_nil_of_le (by omega)]
      simp
theorem has6_some (l : List Int) (a : Int) (hl : l.length ≤ 1000000) (k : Nat) (hk : l.length < k) : stolonref06_Has.f k l a = some (decide (a ∈ l)) :=
  has6_loop l a hl l.length k 0 (by omega) hk (by omega)
end Go.Proofs.Ytbllchfgjginoaa
/-
  What is wanted, what time does, and what is the same, in plain lists (chapter 08).
-/
namespace Go.Proofs.Ytbllchfgjginoaa
open Go.RowKit Go.Lib Go.Proofs.YtbllchfgjginoaaW.PrintWords Go.Proofs.Ytbllchfgjginoaa.PMe
set_option linter.unusedVariables false
set_option linter.unusedSimpArgs false
def wantsB (x : S28) (a : Int) : Bool := if x.f1 = true then x.f3.all (fun s => !decide (s.f0 = a) || decide (0 < s.f1)) else hasH x.f3 a
theorem posH_at {l : List S49} (hs : SortH l) {x : S49} (hx : x ∈ l) : posH l x.f0 < l.length ∧ rd_T49 l (posH l x.f0) = x := by
  have e := splitH_at hs hx
  have h1 : l[posH l x.f0]? = some x := by
    have := getH_mid (ltH l x.f0) (gtH l x.f0) x
    rw [← e] at this
    exact this
  obtain ⟨h2, h3⟩ := List.getElem?_eq_some_iff.1 h1
  exact ⟨h2, by rw [rd49 l _ h2, h3]⟩
theorem sortH_uniq {l : List S49} (hs : SortH l) {x y : S49} (hx : x ∈ l) (hy : y ∈ l) (he : x.f0 = y.f0) : x = y := by
  have h1 := (posH_at hs hx).2
  have h2 := (posH_at hs hy).2
  rw [he] at h1
  exact h1.symm.trans h2
theorem wants_some (x : S28) (a : Int) (hs : SortH x.f3) (hn : x.f3.length ≤ 1000000) : memb_Wants.f x.f0 x.f1 x.f2 x.f3 a = some (wantsB x a) := by
  unfold memb_Wants.f wantsB
  rw [memb_place.some hs hn, Option.bind_some]
  by_cases h1 : x.f1 = true
  · rw [if_pos h1, if_pos h1]
    dsimp only
    by_cases h2 : hasH x.f3 a = true
    · obtain ⟨s, h3, h4⟩ := hasH_iff.1 h2
      subst h4
      obtain ⟨h5, h6⟩ := posH_at hs h3
      rw [if_pos h2, if_pos (by omega), if_pos (by omega), h6]
      congr 1
      rw [Bool.eq_iff_iff, decide_eq_true_eq, List.all_eq_true]
      constructor
      · intro h7 y h8
        by_cases h9 : y.f0 = s.f0
        · rw [sortH_uniq hs h8 h3 h9]
          simp [h7]
        · simp [h9]
      · intro h7
        have := h7 s h3
        simpa using this
    · rw [if_neg h2]
      congr 1
      symm
      rw [List.all_eq_true]
      intro y h3
      have h4 : ¬ y.f0 = a := fun e => h2 (hasH_iff.2 ⟨y, h3, e⟩)
      simp [h4]
  · rw [if_neg h1, if_neg h1]
deriving instance DecidableEq for S49
theorem same_loop (g1 f1 g2 f2 : Int) (e1 e2 : Bool) (l m : List S49) (hl : l.length ≤ 1000000) (hm : l.length = m.length) : ∀ n k (i : Nat), l.length ≤ i + n → n < k → i ≤ l.length → stolonref08_Same.l0 k i g1 e1 f1 l g2 e2 f2 m = some (decide (l.drop i = m.drop i)) := by
  intro n
  induction n with
  | zero =>
    intro k i h1 h2 h3
    obtain ⟨k, rfl⟩ : ∃ k', k = k' + 1 := ⟨k - 1, by omega⟩
    rw [stolonref08_Same.l0, if_neg (by omega), List.drop_eq_nil_of_le (by omega), List.drop_eq_nil_of_le (by omega)]
    simp
  | succ n ih =>
    intro k i h1 h2 h3
    obtain ⟨k, rfl⟩ : ∃ k', k = k' + 1 := ⟨k - 1, by omega⟩
    by_cases h4 : i < l.length
    · rw [stolonref08_Same.l0, if_pos (by omega), if_pos (by omega), if_pos (by omega), rd49 l i h4, rd49 m i (by omega), List.drop_eq_getElem_cons h4, List.drop_eq_getElem_cons (l := m) (by omega)]
      by_cases c : l[i] = m[i]
      · rw [if_neg (by rw [c]; simp), step64 i (by omega), ih k (i + 1) (by omega) (by omega) (by omega)]
        congr 1
        rw [decide_eq_decide]
        constructor
        · intro h; rw [c, h]
        · intro h; exact (List.cons.inj h).2
      · rw [if_pos ?_]
        · congr 1
          symm
          exact decide_eq_false (fun h => c (List.cons.inj h).1)
        · by_cases d0 : l[i].f0 = m[i].f0
          · by_cases d1 : l[i].f1 = m[i].f1
            · exact absurd (by cases hx : l[i]; cases hy : m[i]; rw [hx, hy] at d0 d1; dsimp only at d0 d1; rw [d0, d1]) c
            · simp [d1]
          · simp [d0]
    · rw [stolonref08_Same.l0, if_neg (by omega), List.drop_eq_nil_of_le (by omega), List.drop_eq_nil_of_le (by omega)]
      simp
theorem same_self (x : S28) (hl : x.f3.length ≤ 1000000) (k : Nat) (hk : x.f3.length + 2 ≤ k) : stolonref08_Same.f k x.f0 x.f1 x.f2 x.f3 x.f0 x.f1 x.f2 x.f3 = some true := by
  obtain ⟨k, rfl⟩ : ∃ k', k = k' + 1 := ⟨k - 1, by omega⟩
  unfold stolonref08_Same.f
  rw [if_pos rfl, if_neg (by simp), if_pos rfl, show ((x.f3.length : Int) != (x.f3.length : Int)) = false by simp, stolonref08_Same.j0, if_neg (by simp)]
  have := same_loop x.f0 x.f2 x.f0 x.f2 x.f1 x.f1 x.f3 x.f3 hl rfl x.f3.length k 0 (by omega) (by omega) (by omega)
  simpa using this
end Go.Proofs.Ytbllchfgjginoaa
/-
  What the laws call, for their walks (chapter 08).
-/
namespace Go.Proofs.Ytbllchfgjginoaa
open Go.RowKit Go.Lib Go.Proofs.YtbllchfgjginoaaW.PrintWords Go.Proofs.YtbllchfgjginoaaW.PrintLast Go.Proofs.YtbllchfgjginoaaW.PrintMore Go.Proofs.Ytbllchfgjginoaa.PMe
set_option linter.unusedVariables false
set_option linter.unusedSimpArgs false
theorem hear_view {t : S23} {x r : S28} {kind : Int} {l : List Int} {asks : List S46} {n : Nat} {err : Int} (hs : SortH x.f3) (hn : x.f3.length ≤ 1000) (hm : l.length ≤ 1000) (h : hearR t x kind l = (r, asks, err)) (h2 : asks.length = n) (A : Option Addr) (c : Nat) (B : Option Addr) (d : Nat) (w : World) (hr : Kd.C k49 w A x.f3.length x.f3) (hc : x.f3.length ≤ c) (hl : Kd.C (Kd.int .u32) w B l.length l) (hd : l.length ≤ d) :
    Calls Try.prog 12 #[.agg #[.int .i64 t.f0, .int .i64 t.f1], .agg #[.int .u32 x.f0, .bool x.f1, .int .i64 x.f2, .slice A x.f3.length c], .int .u8 kind, .slice B l.length d] w fun e w' => ∃ A0 c0 A1 c1, e = .returned (.tuple #[.agg #[.int .u32 r.f0, .bool r.f1, .int .i64 r.f2, .slice A0 r.f3.length c0], .slice A1 n c1, .int .i64 err]) ∧ Kd.C k49 w' A0 r.f3.length r.f3 ∧ r.f3.length ≤ c0 ∧ Below w.heap.size w w' := by
  subst h2
  have hw := hear_w t x kind l hs hn hm A c B d w hr hc hl hd (fun k => k < w.heap.size) (fun _ h => h) (Kd.C_F k49_heap hr)
  rw [h] at hw
  refine hw.mono fun e w' hp => ?_
  obtain ⟨v0, v1, rfl, h0, h1, hB⟩ := hp
  obtain ⟨A0, c0, rfl⟩ := Kd.V_slice h0
  obtain ⟨A1, c1, rfl⟩ := Kd.V_slice h1
  exact ⟨A0, c0, A1, c1, rfl, (Kd.V_reads' h0).2.2, (Kd.V_reads' h0).2.1, hB⟩
theorem wants_w {x : S28} {a : Int} {b : Bool} (hs : SortH x.f3) (hn : x.f3.length ≤ 1000000) (h : wantsB x a = b) (A : Option Addr) (c : Nat) (w : World) (hr : Kd.C k49 w A x.f3.length x.f3) (hc : x.f3.length ≤ c) :
    Calls Try.prog 19 #[.agg #[.int .u32 x.f0, .bool x.f1, .int .i64 x.f2, .slice A x.f3.length c], .int .u32 a] w fun e w' => e = .returned (.bool b) ∧ Below w.heap.size w w' :=
  memb_Wants.calls _ _ _ A c _ _ _ w hr hc (h ▸ wants_some x a hs hn)
def someB (x : S28) : Bool := x.f1 || decide (0 < x.f3.length)
theorem some_w {x : S28} {b : Bool} (h : someB x = b) (A : Option Addr) (c : Nat) (w : World) (hr : Kd.C k49 w A x.f3.length x.f3) (hc : x.f3.length ≤ c) :
    Calls Try.prog 20 #[.agg #[.int .u32 x.f0, .bool x.f1, .int .i64 x.f2, .slice A x.f3.length c]] w fun e w' => e = .returned (.bool b) ∧ Below w.heap.size w w' :=
  memb_Some.calls _ _ _ A c _ _ w hr hc (by
    subst h
    unfold memb_Some.f someB
    cases x.f1
    · simp
    · simp)
theorem right_w {x : S28} {b : Bool} (h : b = true ↔ MOk x) (A : Option Addr) (c : Nat) (w : World) (hr : Kd.C k49 w A x.f3.length x.f3) (hc : x.f3.length ≤ c) :
    Calls Try.prog 11 #[.agg #[.int .u32 x.f0, .bool x.f1, .int .i64 x.f2, .slice A x.f3.length c]] w fun e w' => e = .returned (.bool b) ∧ Below w.heap.size w w' := by
  obtain ⟨b', h1, h2⟩ := right_some x 100 (Nat.le_refl _)
  have e : b' = b := Bool.eq_iff_iff.2 (h2.trans h.symm)
  subst e
  exact stolonref08_Right.calls 100 _ _ _ A c _ _ w hr hc h1
def mayB (t : S23) : Bool := decide (1 ≤ t.f1) && decide (t.f1 ≤ t.f0) && decide (t.f0 ≤ 1000000)
theorem mayR_w {t : S23} {b : Bool} (h : mayB t = b) (w : World) : Calls Try.prog 10 #[.agg #[.int .i64 t.f0, .int .i64 t.f1]] w fun e w' => e = .returned (.bool b) ∧ Below w.heap.size w w' :=
  stolonref08_May.calls _ _ _ w (by
    subst h
    unfold stolonref08_May.f mayB
    by_cases h1 : 1 ≤ t.f1
    · by_cases h2 : t.f1 ≤ t.f0
      · rw [if_pos h1, if_pos h2]; simp [h1, h2]
      · rw [if_pos h1, if_neg h2]; simp [h2]
    · rw [if_neg h1]; simp [h1])
theorem may_w {t : S23} {b : Bool} (h : mayB t = b) (w : World) : Calls Try.prog 21 #[.agg #[.int .i64 t.f0, .int .i64 t.f1]] w fun e w' => e = .returned (.bool b) ∧ Below w.heap.size w w' :=
  memb_May.calls _ _ _ w (by
    subst h
    unfold memb_May.f mayB
    by_cases h1 : 1 ≤ t.f1
    · by_cases h2 : t.f1 ≤ t.f0
      · rw [if_pos h1, if_pos h2]; simp [h1, h2]
      · rw [if_pos h1, if_neg h2]; simp [h2]
    · rw [if_neg h1]; simp [h1])
theorem has6_w {l : List Int} {a : Int} {b : Bool} (hl : l.length ≤ 1000000) (h : decide (a ∈ l) = b) (A : Option Addr) (c : Nat) (w : World) (hr : Kd.C (Kd.int .u32) w A l.length l) (hc : l.length ≤ c) :
    Calls Try.prog 18 #[.slice A l.length c, .int .u32 a] w fun e w' => e = .returned (.bool b) ∧ Below w.heap.size w w' :=
  (stolonref06_Has.calls _ A c l a b w hr hc (h ▸ has6_some l a hl _ (Nat.lt_succ_self _))).mono fun e w' h => ⟨h.1, by obtain ⟨⟨n, rfl⟩⟩ := h.2; exact pw_below_drewN (Below.refl _ _) n⟩
end Go.Proofs.Ytbllchfgjginoaa
/-
  What comes of a record, in plain lists (chapter 08).
-/
namespace Go.Proofs.Ytbllchfgjginoaa
open Go.RowKit Go.Lib Go.Proofs.YtbllchfgjginoaaW.PrintWords Go.Proofs.Ytbllchfgjginoaa.PMe
set_option linter.unusedVariables false
set_option linter.unusedSimpArgs false
theorem mem_keep (left : Int) (s : S49) : ∀ (l : List Int) (srcs : List S49), s ∈ keepS srcs l left ↔ (s.f0 ∈ l ∧ s.f1 = left) ∨ (s.f0 ∉ l ∧ s ∈ srcs) := by
  intro l
  induction l with
  | nil => intro srcs; simp [keepS]
  | cons a l ih =>
    intro srcs
    have e : keepS srcs (a :: l) left = keepS (insH srcs ⟨a, left⟩) l left := rfl
    rw [e, ih, mem_insH]
    simp only [List.mem_cons]
    constructor
    · rintro (⟨h1, h2⟩ | ⟨h1, rfl | ⟨h2, h3⟩⟩)
      · exact .inl ⟨.inr h1, h2⟩
      · exact .inl ⟨.inl rfl, rfl⟩
      · exact .inr ⟨fun h => h.elim h3 h1, h2⟩
    · rintro (⟨h1 | h1, h2⟩ | ⟨h1, h2⟩)
      · by_cases h3 : s.f0 ∈ l
        · exact .inl ⟨h3, h2⟩
        · refine .inr ⟨h3, .inl ?_⟩
          cases s
          dsimp only at h1 h2
          rw [h1, h2]
      · exact .inl ⟨h1, h2⟩
      · exact .inr ⟨fun h => h1 (.inr h), .inr ⟨h2, fun h => h1 (.inl h)⟩⟩
/-- The times of sources are right. -/
def TOk (ex : Bool) (l : List S49) : Prop := ∀ s ∈ l, 0 ≤ s.f1 ∧ s.f1 ≤ 1000000 ∧ (s.f1 = 0 → ex = true)
theorem MOk.times {x : S28} (h : MOk x) : TOk x.f1 x.f3 := by
  intro s hs
  obtain ⟨i, hi, rfl⟩ := List.getElem_of_mem hs
  have := h.all i hi
  unfold goodH at this
  rw [rd49 _ i hi] at this
  exact ⟨this.1, this.2.1, this.2.2.1⟩
theorem MOk.of {x : S28} (h1 : 3758096640 ≤ x.f0 ∧ x.f0 ≤ 4026531839) (h2 : x.f3.length ≤ 64) (h3 : x.f1 = true → 1 ≤ x.f2 ∧ x.f2 ≤ 1000000) (h4 : x.f1 = false → x.f2 = 0) (h5 : SortH x.f3) (h6 : TOk x.f1 x.f3) : MOk x := by
  refine ⟨h1, h2, h3, h4, fun j hj => ?_⟩
  unfold goodH
  rw [rd49 _ j hj]
  have h7 := h6 _ (List.getElem_mem hj)
  refine ⟨h7.1, h7.2.1, h7.2.2, fun h8 => ?_⟩
  rw [rd49 _ (j - 1) (by omega)]
  exact (List.pairwise_iff_getElem.1 h5) (j - 1) j (by omega) hj (by omega)
theorem TOk.keep {ex : Bool} {xs : List S49} (h : TOk ex xs) (l : List Int) {left : Int} (h1 : 0 ≤ left ∧ left ≤ 1000000) (h2 : left = 0 → ex = true) : TOk ex (keepS xs l left) := by
  intro s hs
  rcases (mem_keep left s l xs).1 hs with h3 | h3
  · rw [h3.2]; exact ⟨h1.1, h1.2, h2⟩
  · exact h s h3.2
theorem TOk.mono {ex : Bool} {xs : List S49} (h : TOk ex xs) : TOk true xs := fun s hs => ⟨(h s hs).1, (h s hs).2.1, fun _ => rfl⟩
theorem TOk.only {ex : Bool} {xs : List S49} (h : TOk ex xs) (l : List Int) : TOk ex (onlyS xs l) := fun s hs => h s ((List.mem_filter.1 hs).1)
theorem TOk.ask {ex : Bool} {xs : List S49} (h : TOk ex xs) {last : Int} (h1 : 1 ≤ last) (l : List Int) : TOk ex (askS last l xs) := by
  intro s hs
  obtain ⟨y, h2, h3⟩ := List.mem_map.1 hs
  have h4 := h y h2
  subst h3
  unfold ask1
  split
  · dsimp only
    refine ⟨by omega, by omega, fun h5 => h4.2.2 (by omega)⟩
  · exact h4
theorem ask_sort {xs : List S49} (h : SortH xs) (last : Int) (l : List Int) : SortH (askS last l xs) := by
  unfold SortH at *
  unfold askS
  rw [List.pairwise_map]
  refine h.imp fun {a b} hab => ?_
  unfold ask1
  split <;> split <;> exact hab
/-- A work that is right but for how many sources it has. -/
structure WRight (t : S23) (g : Int) (m : WM) : Prop where
  g : m.g = g
  keep : m.keep = t.f0
  last : m.last = t.f1
  s : SortH m.srcs
  t : TOk m.ex m.srcs
  ex : m.ex = true → 1 ≤ m.left ∧ m.left ≤ 1000000
  inn : m.ex = false → m.left = 0
theorem may_iff {t : S23} : mayB t = true ↔ 1 ≤ t.f1 ∧ t.f1 ≤ t.f0 ∧ t.f0 ≤ 1000000 := by
  unfold mayB
  rw [Bool.and_eq_true, Bool.and_eq_true, decide_eq_true_eq, decide_eq_true_eq, decide_eq_true_eq, and_assoc]
variable {t : S23} {g : Int} {m : WM}
theorem WRight.allow (ht : mayB t = true) (h : WRight t g m) : WRight t g (allowM m) := by
  have h1 := may_iff.1 ht
  exact ⟨h.g, h.keep, h.last, keep_sorted _ _ h.s, h.t.keep _ (by rw [h.keep]; omega) (by rw [h.keep]; intro h2; omega), h.ex, h.inn⟩
theorem WRight.except (ht : mayB t = true) (h : WRight t g m) {left : Int} (hl : 0 ≤ left ∧ left ≤ 1000000) : WRight t g (exceptM m left) := by
  have h1 := may_iff.1 ht
  exact ⟨h.g, h.keep, h.last, keep_sorted _ _ (only_sorted h.s _), (h.t.mono.only _).keep _ hl (fun _ => rfl), fun _ => by show 1 ≤ m.keep ∧ m.keep ≤ 1000000; rw [h.keep]; omega, fun h2 => by simp [exceptM] at h2⟩
theorem WRight.ask (ht : mayB t = true) (h : WRight t g m) (l : List Int) : WRight t g (askM m l) := by
  have h1 := may_iff.1 ht
  unfold askM
  split
  · exact h
  · exact ⟨h.g, h.keep, h.last, ask_sort h.s _ _, h.t.ask (by rw [h.last]; exact h1.1) _, h.ex, h.inn⟩
theorem WRight.isEx (ht : mayB t = true) (h : WRight t g m) : WRight t g (isExM m) := by
  have h1 := may_iff.1 ht
  unfold isExM
  split
  · exact h.except ht (by rw [h.keep]; omega)
  · exact h.except ht (by omega)
theorem WRight.block (ht : mayB t = true) (h : WRight t g m) : WRight t g (blockM m) := by
  have h1 := may_iff.1 ht
  unfold blockM
  split
  · rename_i he
    have h2 := h.ex he
    refine WRight.ask ht ?_ _
    exact ⟨h.g, h.keep, h.last, keep_sorted _ _ h.s, h.t.keep _ (by omega) (fun h3 => by omega), h.ex, h.inn⟩
  · exact h.ask ht _
theorem WRight.toEx (ht : mayB t = true) (h : WRight t g m) : WRight t g (toExM m) := by
  have h1 := may_iff.1 ht
  unfold toExM
  split
  · rename_i he
    have h2 := h.ex he
    exact (h.except ht (by omega)).ask ht _
  · exact (h.except ht (by omega)).ask ht _
theorem WRight.toIn (ht : mayB t = true) (h : WRight t g m) : WRight t g (toInM m) := by
  have h1 := may_iff.1 ht
  have h2 := (h.allow ht).ask ht (mns (xS m.srcs) m.b)
  unfold toInM
  split
  · rename_i he
    have h3 := h2.ex he
    have h4 := h2.last
    exact ⟨h2.g, h2.keep, h2.last, h2.s, h2.t, fun _ => by show 1 ≤ min _ _ ∧ min _ _ ≤ _; omega, fun h5 => absurd (he.symm.trans h5) (by simp)⟩
  · exact h2
theorem WRight.kind (ht : mayB t = true) (h : WRight t g m) (kind : Int) : WRight t g (kindM kind m) := by
  unfold kindM
  split
  · exact h.allow ht
  split
  · exact h.isEx ht
  split
  · exact h.block ht
  split
  · exact h.toEx ht
  exact h.toIn ht
theorem hear_right (ht : mayB t = true) {x : S28} (h : MOk x) (kind : Int) (l : List Int) : MOk (hearR t x kind l).1 := by
  unfold hearR
  split
  · split
    · exact h
    · rename_i h2
      have h3 : WRight t x.f0 (hearD t x kind l) := WRight.kind (m := hear0 t x l) (g := x.f0) ht ⟨rfl, rfl, rfl, h.sort, h.times, h.ex, h.inn⟩ kind
      exact MOk.of (by show _ ≤ (hearD t x kind l).g ∧ _; rw [h3.g]; exact h.asked) (by show (hearD t x kind l).srcs.length ≤ _; omega) h3.ex h3.inn h3.s h3.t
  · exact h
end Go.Proofs.Ytbllchfgjginoaa
/-
  What comes of time, in plain lists (chapter 08).
-/
namespace Go.Proofs.Ytbllchfgjginoaa
open Go.RowKit Go.Lib Go.Proofs.YtbllchfgjginoaaW.PrintWords Go.Proofs.Ytbllchfgjginoaa.PMe
set_option linter.unusedVariables false
set_option linter.unusedSimpArgs false
end Go.Proofs.Ytbllchfgjginoaa
/-
  What is wanted behind a record, in plain lists (chapter 08).
-/
namespace Go.Proofs.Ytbllchfgjginoaa
open Go.RowKit Go.Lib Go.Proofs.YtbllchfgjginoaaW.PrintWords Go.Proofs.Ytbllchfgjginoaa.PMe
set_option linter.unusedVariables false
set_option linter.unusedSimpArgs false
theorem at_keep {left a n : Int} {l : List Int} {xs : List S49} : (⟨a, n⟩ : S49) ∈ keepS xs l left ↔ (a ∈ l ∧ n = left) ∨ (a ∉ l ∧ (⟨a, n⟩ : S49) ∈ xs) := mem_keep left ⟨a, n⟩ l xs
theorem at_only {a n : Int} {l : List Int} {xs : List S49} : (⟨a, n⟩ : S49) ∈ onlyS xs l ↔ a ∈ l ∧ (⟨a, n⟩ : S49) ∈ xs := by
  unfold onlyS; rw [List.mem_filter, decide_eq_true_eq]; exact and_comm
theorem at_all {a : Int} {xs : List S49} : a ∈ allS xs ↔ ∃ n, (⟨a, n⟩ : S49) ∈ xs := by
  unfold allS thoseS
  rw [List.mem_map]
  constructor
  · rintro ⟨s, h, rfl⟩; exact ⟨s.f1, (List.mem_filter.1 h).1⟩
  · rintro ⟨n, h⟩; exact ⟨_, List.mem_filter.2 ⟨h, rfl⟩, rfl⟩
theorem at_x {a : Int} {xs : List S49} : a ∈ xS xs ↔ ∃ n, (⟨a, n⟩ : S49) ∈ xs ∧ 0 < n := by
  unfold xS thoseS
  rw [List.mem_map]
  constructor
  · rintro ⟨s, h, rfl⟩; exact ⟨s.f1, (List.mem_filter.1 h).1, by simpa using (List.mem_filter.1 h).2⟩
  · rintro ⟨n, h, h2⟩; exact ⟨_, List.mem_filter.2 ⟨h, by simpa using h2⟩, rfl⟩
theorem ask_nil (last : Int) (xs : List S49) : askS last [] xs = xs := by
  unfold askS
  conv => rhs; rw [← List.map_id xs]
  refine List.map_congr_left fun s _ => ?_
  unfold ask1; rw [if_neg (by simp)]; rfl
theorem askM_srcs (m : WM) (l : List Int) : (askM m l).srcs = askS m.last l m.srcs := by
  unfold askM
  by_cases h : l.length = 0
  · rw [if_pos h, List.length_eq_zero_iff.1 h, ask_nil]
  · rw [if_neg h]
theorem askM_ex (m : WM) (l : List Int) : (askM m l).ex = m.ex := by unfold askM; split <;> rfl
theorem askM_left (m : WM) (l : List Int) : (askM m l).left = m.left := by unfold askM; split <;> rfl
theorem askM_last (m : WM) (l : List Int) : (askM m l).last = m.last := by unfold askM; split <;> rfl
theorem askM_g (m : WM) (l : List Int) : (askM m l).g = m.g := by unfold askM; split <;> rfl
theorem askM_asks (m : WM) (l : List Int) : (askM m l).asks = m.asks ++ if l.length = 0 then [] else [⟨m.g, l⟩] := by
  unfold askM; split
  · rw [List.append_nil]
  · rfl
theorem one_time {xs : List S49} (h : SortH xs) {a n m : Int} (h1 : (⟨a, n⟩ : S49) ∈ xs) (h2 : (⟨a, m⟩ : S49) ∈ xs) : n = m := by
  have := sortH_uniq h h1 h2 rfl
  injection this
variable {t : S23} {x : S28} {l : List Int} {a : Int}
end Go.Proofs.Ytbllchfgjginoaa
/-
  What a host's turns bring, what is kept, and what is asked, in plain lists (chapter 08).
-/
namespace Go.Proofs.Ytbllchfgjginoaa
open Go.RowKit Go.Lib Go.Proofs.YtbllchfgjginoaaW.PrintWords Go.Proofs.Ytbllchfgjginoaa.PMe
set_option linter.unusedVariables false
set_option linter.unusedSimpArgs false
variable {t : S23} {x : S28} {l : List Int} {a : Int}
theorem toIn_is (t : S23) (x : S28) (l : List Int) : (hearD t x 3 l).ex = x.f1 ∧ (hearD t x 3 l).left = (if x.f1 = true then min x.f2 t.f1 else x.f2) ∧ (hearD t x 3 l).srcs = askS t.f1 (mns (xS x.f3) (mk l)) (keepS x.f3 (mk l) t.f0) ∧ (hearD t x 3 l).asks = (if (mns (xS x.f3) (mk l)).length = 0 then [] else [⟨x.f0, mns (xS x.f3) (mk l)⟩]) ++ (if x.f1 = true then [⟨x.f0, []⟩] else []) := by
  have e : hearD t x 3 l = toInM (hear0 t x l) := rfl
  rw [e]
  unfold toInM
  have e1 : (askM (allowM (hear0 t x l)) (mns (xS (hear0 t x l).srcs) (hear0 t x l).b)).ex = x.f1 := by rw [askM_ex]; rfl
  have e2 : (askM (allowM (hear0 t x l)) (mns (xS (hear0 t x l).srcs) (hear0 t x l).b)).left = x.f2 := by rw [askM_left]; rfl
  have e3 : (askM (allowM (hear0 t x l)) (mns (xS (hear0 t x l).srcs) (hear0 t x l).b)).last = t.f1 := by rw [askM_last]; rfl
  have e4 : (askM (allowM (hear0 t x l)) (mns (xS (hear0 t x l).srcs) (hear0 t x l).b)).srcs = askS t.f1 (mns (xS x.f3) (mk l)) (keepS x.f3 (mk l) t.f0) := by rw [askM_srcs]; rfl
  have e5 : (askM (allowM (hear0 t x l)) (mns (xS (hear0 t x l).srcs) (hear0 t x l).b)).g = x.f0 := by rw [askM_g]; rfl
  have e6 : (askM (allowM (hear0 t x l)) (mns (xS (hear0 t x l).srcs) (hear0 t x l).b)).asks = if (mns (xS x.f3) (mk l)).length = 0 then [] else [⟨x.f0, mns (xS x.f3) (mk l)⟩] := by rw [askM_asks]; rfl
  by_cases c : x.f1 = true
  · rw [if_pos (e1.trans c), if_pos c, if_pos c]
    exact ⟨e1, by show min _ _ = _; rw [e2, e3], e4, by show _ ++ _ = _; rw [e6, e5]⟩
  · rw [if_neg (fun h => c (e1.symm.trans h)), if_neg c, if_neg c]
    exact ⟨e1, e2, e4, by rw [e6, List.append_nil]⟩
end Go.Proofs.Ytbllchfgjginoaa
/-
  The document's sets in plain lists, for chapter 08 (out of chapter 06's plain laws).
-/
namespace Go.Proofs.Ytbllchfgjginoaa
open Go.RowKit Go.Proofs.YtbllchfgjginoaaW.PrintWords Go.Proofs.Ytbllchfgjginoaa.PMe
set_option linter.unusedVariables false
set_option linter.unusedSimpArgs false
theorem rhas_loop (l : List Int) (x : Int) (hm : l.length ≤ 1000000000) : ∀ n k (j : Nat), l.length ≤ j + n → n < k → stolonref06_Has.l0 k l x j = some (decide (x ∈ l.drop j)) := by
  intro n
  induction n with
  | zero =>
    intro k j h2 hk
    obtain ⟨k, rfl⟩ : ∃ k', k = k' + 1 := ⟨k - 1, by omega⟩
    rw [stolonref06_Has.l0, if_neg (by omega), List.drop_of_length_le (by omega)]
    simp
  | succ n ih =>
    intro k j h2 hk
    obtain ⟨k, rfl⟩ : ∃ k', k = k' + 1 := ⟨k - 1, by omega⟩
    rw [stolonref06_Has.l0]
    by_cases hj : j < l.length
    · rw [if_pos (by omega), if_pos (by omega), rd_eq, Int.toNat_natCast, getD_eq l j hj, step64 j (by omega), ih k (j + 1) (by omega) (by omega), List.drop_eq_getElem_cons hj]
      split
      · rename_i h; rw [h]; simp
      · rename_i h
        congr 1
        rw [decide_eq_decide, List.mem_cons]
        exact ⟨.inr, fun h' => h'.resolve_left (fun e => h e.symm)⟩
    · rw [if_neg (by omega), List.drop_of_length_le (by omega)]
      simp
theorem rhas_some (l : List Int) (x : Int) (hm : l.length ≤ 1000000000) (k : Nat) (hk : l.length < k) : stolonref06_Has.f k l x = some (decide (x ∈ l)) := by
  unfold stolonref06_Has.f
  exact rhas_loop l x hm l.length k 0 (by omega) hk
theorem rinter_loop (a b : List Int) (ha : a.length ≤ 1000000) (hb : b.length ≤ 1000000) : ∀ n k (j : Nat) (out : List Int), a.length = j + n → out.length ≤ j → n + b.length < k →
    stolonref06_Inter.l0 k a b out j = some (out ++ (a.drop j).filter (fun x => decide (x ∈ b))) := by
  intro n
  induction n with
  | zero =>
    intro k j out h2 ho hk
    obtain ⟨k, rfl⟩ : ∃ k', k = k' + 1 := ⟨k - 1, by omega⟩
    rw [stolonref06_Inter.l0, if_neg (by omega), List.drop_of_length_le (by omega)]
    simp
  | succ n ih =>
    intro k j out h2 ho hk
    obtain ⟨k, rfl⟩ : ∃ k', k = k' + 1 := ⟨k - 1, by omega⟩
    have hj : j < a.length := by omega
    have hn : out.length < 35184372088832 := by omega
    rw [stolonref06_Inter.l0, if_pos (by omega), if_pos (by omega), rd_eq, Int.toNat_natCast, getD_eq a j hj, step64 j (by omega), rhas_some b _ (by omega) k (by omega), Option.bind_some, List.drop_eq_getElem_cons hj]
    by_cases h : a[j] ∈ b
    · rw [decide_eq_true h, if_pos rfl, if_pos hn, ih k (j + 1) _ (by omega) (by simp; omega) (by omega), List.filter_cons_of_pos (by simpa using h), List.append_assoc]; rfl
    · rw [decide_eq_false h, if_neg (by decide), ih k (j + 1) _ (by omega) (by omega) (by omega), List.filter_cons_of_neg (by simpa using h)]
theorem rinter_some (a b : List Int) (ha : a.length ≤ 1000000) (hb : b.length ≤ 1000000) (ra : Rise a) (rb : Rise b) (k : Nat) (hk : a.length + b.length < k) : stolonref06_Inter.f k a b = some (int a b) := by
  unfold stolonref06_Inter.f
  have := rinter_loop a b ha hb a.length k 0 [] (by omega) (by simp) hk
  rw [show ((0 : Nat) : Int) = 0 from rfl] at this
  rw [this, List.nil_append, List.drop_zero]
  congr 1
  refine rise_ext (ra.filter _) (int_rise ra rb) fun x => ?_
  rw [int_mem ra rb, List.mem_filter, decide_eq_true_eq]
theorem rminus_loop (a b : List Int) (ha : a.length ≤ 1000000) (hb : b.length ≤ 1000000) : ∀ n k (j : Nat) (out : List Int), a.length = j + n → out.length ≤ j → n + b.length < k →
    stolonref06_Minus.l0 k a b out j = some (out ++ (a.drop j).filter (fun x => !decide (x ∈ b))) := by
  intro n
  induction n with
  | zero =>
    intro k j out h2 ho hk
    obtain ⟨k, rfl⟩ : ∃ k', k = k' + 1 := ⟨k - 1, by omega⟩
    rw [stolonref06_Minus.l0, if_neg (by omega), List.drop_of_length_le (by omega)]
    simp
  | succ n ih =>
    intro k j out h2 ho hk
    obtain ⟨k, rfl⟩ : ∃ k', k = k' + 1 := ⟨k - 1, by omega⟩
    have hj : j < a.length := by omega
    have hn : out.length < 35184372088832 := by omega
    rw [stolonref06_Minus.l0, if_pos (by omega), if_pos (by omega), rd_eq, Int.toNat_natCast, getD_eq a j hj, step64 j (by omega), rhas_some b _ (by omega) k (by omega), Option.bind_some, List.drop_eq_getElem_cons hj]
    by_cases h : a[j] ∈ b
    · rw [decide_eq_true h, if_pos rfl, ih k (j + 1) _ (by omega) (by omega) (by omega), List.filter_cons_of_neg (by simpa using h)]
    · rw [decide_eq_false h, if_neg (by decide), if_pos hn, ih k (j + 1) _ (by omega) (by simp; omega) (by omega), List.filter_cons_of_pos (by simpa using h), List.append_assoc]; rfl
theorem rminus_some (a b : List Int) (ha : a.length ≤ 1000000) (hb : b.length ≤ 1000000) (ra : Rise a) (rb : Rise b) (k : Nat) (hk : a.length + b.length < k) : stolonref06_Minus.f k a b = some (mns a b) := by
  unfold stolonref06_Minus.f
  have := rminus_loop a b ha hb a.length k 0 [] (by omega) (by simp) hk
  rw [show ((0 : Nat) : Int) = 0 from rfl] at this
  rw [this, List.nil_append, List.drop_zero]
  congr 1
  refine rise_ext (ra.filter _) (mns_rise ra rb) fun x => ?_
  rw [mns_mem ra rb, List.mem_filter, Bool.not_eq_true', decide_eq_false_iff_not]
def putIn (out : List Int) (p : Nat) (x : Int) : List Int := out.take p ++ [x] ++ out.drop p
theorem putIn_mem (out : List Int) (p : Nat) (x y : Int) : y ∈ putIn out p x ↔ y = x ∨ y ∈ out := by
  unfold putIn
  rw [List.append_assoc, List.mem_append, List.mem_append, List.mem_singleton]
  conv => rhs; rw [← List.take_append_drop p out, List.mem_append]
  constructor
  · rintro (h | h | h)
    · exact .inr (.inl h)
    · exact .inl h
    · exact .inr (.inr h)
  · rintro (h | h | h)
    · exact .inr (.inl h)
    · exact .inl h
    · exact .inr (.inr h)
theorem putIn_rise {out : List Int} {p : Nat} {x : Int} (hr : Rise out) (h1 : ∀ i (_ : i < out.length), i < p → out[i] < x) (h2 : ∀ i (_ : i < out.length), p ≤ i → x < out[i]) : Rise (putIn out p x) := by
  unfold putIn
  have t1 : ∀ y ∈ out.take p, y < x := by
    intro y hy
    obtain ⟨i, hi, rfl⟩ := List.mem_iff_getElem.1 hy
    rw [List.getElem_take]
    simp at hi
    exact h1 i (by omega) (by omega)
  have t2 : ∀ y ∈ out.drop p, x < y := by
    intro y hy
    obtain ⟨i, hi, rfl⟩ := List.mem_iff_getElem.1 hy
    rw [List.getElem_drop]
    simp at hi
    exact h2 (p + i) (by omega) (by omega)
  rw [Rise, List.append_assoc, List.pairwise_append]
  refine ⟨hr.sublist (List.take_sublist _ _), List.pairwise_cons.2 ⟨t2, hr.sublist (List.drop_sublist _ _)⟩, fun a ha b hb => ?_⟩
  rcases List.mem_cons.1 hb with rfl | hb
  · exact t1 a ha
  · have := t1 a ha; have := t2 b hb; omega
theorem putIn_len (out : List Int) (p : Nat) (x : Int) (hp : p ≤ out.length) : (putIn out p x).length = out.length + 1 := by unfold putIn; simp; omega
set_option maxRecDepth 100000 in
theorem rmake_put (l out : List Int) (i : Nat) (hi : i < l.length) (hl : l.length ≤ 1000000) (ho : out.length ≤ 1000000) (hr : Rise out) : ∀ n k (j : Nat), out.length = j + n → n < k → (∀ q (_ : q < out.length), q < j → out[q] < l[i]) →
    ∃ k' p, k ≤ k' + n + 1 ∧ p ≤ out.length ∧ stolonref06_Make.l1 k l out i (out.take j) j = stolonref06_Make.l0 k' l (putIn out p l[i]) ((i + 1 : Nat) : Int) ∧
      (∀ q (_ : q < out.length), q < p → out[q] < l[i]) ∧ (∀ q (_ : q < out.length), p ≤ q → l[i] ≤ out[q]) := by
  intro n
  have hx : rd l (i : Int) = l[i] := by rw [rd_eq, Int.toNat_natCast, getD_eq l i hi]
  induction n with
  | zero =>
    intro k j h2 hk hlt
    obtain ⟨k, rfl⟩ : ∃ k', k = k' + 1 := ⟨k - 1, by omega⟩
    refine ⟨k, out.length, by omega, Nat.le_refl _, ?_, fun q hq _ => hlt q hq (by omega), fun q hq h => by omega⟩
    have hn : (out.take j).length < 35184372088832 := by simp; omega
    have hn2 : (out.take j ++ [l[i]]).length + (out.drop j).length < 35184372088832 := by simp; omega
    rw [stolonref06_Make.l1, if_neg (by omega), if_pos (by omega), if_pos (by omega), if_pos hn, Option.bind_some, if_pos (by omega), if_pos (by omega), Option.bind_some, Int.toNat_natCast, hx, if_pos hn2, step64 i (by omega)]
    rw [show j = out.length from by omega]
    rfl
  | succ n ih =>
    intro k j h2 hk hlt
    obtain ⟨k, rfl⟩ : ∃ k', k = k' + 1 := ⟨k - 1, by omega⟩
    have hj : j < out.length := by omega
    have hn : (out.take j).length < 35184372088832 := by simp; omega
    have hn2 : (out.take j ++ [l[i]]).length + (out.drop j).length < 35184372088832 := by simp; omega
    have hy : rd out (j : Int) = out[j] := by rw [rd_eq, Int.toNat_natCast, getD_eq out j hj]
    rw [stolonref06_Make.l1, if_pos (by omega), if_pos (by omega), if_pos (by omega), if_pos (by omega), hx, hy]
    by_cases c : out[j] < l[i]
    · rw [if_pos c, if_pos hn, step64 j (by omega), ← List.take_succ_eq_append_getElem hj]
      obtain ⟨k', p, h3, h4, h5, h6, h7⟩ := ih k (j + 1) (by omega) (by omega) (fun q hq h => by
        rcases Nat.lt_or_ge q j with h' | h'
        · exact hlt q hq h'
        · obtain rfl : q = j := by omega
          exact c)
      exact ⟨k', p, by omega, h4, h5, h6, h7⟩
    · refine ⟨k, j, by omega, by omega, ?_, hlt, fun q hq h => ?_⟩
      · rw [if_neg c, if_pos hn, Option.bind_some, if_pos (by omega), Option.bind_some, Int.toNat_natCast, if_pos hn2, step64 i (by omega)]
        rfl
      · rcases Nat.lt_or_ge j q with h' | h'
        · have := (List.pairwise_iff_getElem.1 hr) j q hj hq h'
          omega
        · obtain rfl : q = j := by omega
          omega
def needM : Nat → Nat
  | 0 => 200001
  | n + 1 => needM n + 200001
theorem needM_le (n : Nat) : needM n ≤ 200001 + n * 200001 := by
  induction n with
  | zero => rw [needM]; omega
  | succ n ih => rw [needM]; omega
theorem needM_pos (n : Nat) : 200001 ≤ needM n := by
  induction n with
  | zero => rw [needM]; omega
  | succ n ih => rw [needM]; omega
theorem rmake_loop (l : List Int) (hl : l.length ≤ 100000) : ∀ n k (i : Nat) (out : List Int), l.length = i + n → out.length ≤ i → Rise out → needM n ≤ k →
    ∃ r, stolonref06_Make.l0 k l out i = some r ∧ Rise r ∧ (∀ x, x ∈ r ↔ x ∈ out ∨ x ∈ l.drop i) ∧ r.length ≤ out.length + n := by
  intro n
  induction n with
  | zero =>
    intro k i out h2 ho hr hk
    rw [needM] at hk
    obtain ⟨k, rfl⟩ : ∃ k', k = k' + 1 := ⟨k - 1, by omega⟩
    rw [stolonref06_Make.l0, if_neg (by omega), List.drop_of_length_le (by omega)]
    exact ⟨out, rfl, hr, fun x => by simp, by omega⟩
  | succ n ih =>
    intro k i out h2 ho hr hk
    rw [needM] at hk
    have hnp := needM_pos n
    obtain ⟨k, rfl⟩ : ∃ k', k = k' + 1 := ⟨k - 1, by omega⟩
    have hi : i < l.length := by omega
    have hx : rd l (i : Int) = l[i] := by rw [rd_eq, Int.toNat_natCast, getD_eq l i hi]
    rw [stolonref06_Make.l0, if_pos (by omega), if_pos (by omega), hx, rhas_some out _ (by omega) k (by omega), Option.bind_some, List.drop_eq_getElem_cons hi]
    by_cases c : l[i] ∈ out
    · rw [decide_eq_true c, if_pos rfl, step64 i (by omega)]
      obtain ⟨r, h3, h4, h5, h6⟩ := ih k (i + 1) out (by omega) (by omega) hr (by omega)
      refine ⟨r, h3, h4, fun x => ?_, by omega⟩
      rw [h5, List.mem_cons]
      constructor
      · rintro (h | h)
        · exact .inl h
        · exact .inr (.inr h)
      · rintro (h | h | h)
        · exact .inl h
        · subst h; exact .inl c
        · exact .inr h
    · rw [decide_eq_false c, if_neg (by decide)]
      obtain ⟨k', p, h3, h4, h5, h6, h7⟩ := rmake_put l out i hi (by omega) (by omega) hr out.length k 0 (by omega) (by omega) (fun q hq h => by omega)
      rw [List.take_zero, show ((0 : Nat) : Int) = 0 from rfl] at h5
      rw [h5]
      have hpr : Rise (putIn out p l[i]) := putIn_rise hr h6 (fun q hq h => by
        have h8 := h7 q hq h
        have : l[i] ≠ out[q] := fun e => c (by rw [e]; exact List.getElem_mem _)
        omega)
      have hpl := putIn_len out p l[i] h4
      obtain ⟨r, h8, h9, h10, h11⟩ := ih k' (i + 1) (putIn out p l[i]) (by omega) (by omega) hpr (by omega)
      refine ⟨r, h8, h9, fun x => ?_, by omega⟩
      rw [h10, putIn_mem, List.mem_cons]
      constructor
      · rintro ((h | h) | h)
        · exact .inr (.inl h)
        · exact .inl h
        · exact .inr (.inr h)
      · rintro (h | h | h)
        · exact .inl (.inr h)
        · exact .inl (.inl h)
        · exact .inr h
theorem rmake_some (l : List Int) (h : l.length ≤ 100000) (k : Nat) (hk : 30000000000 ≤ k) : stolonref06_Make.f k l = some (mk l) := by
  unfold stolonref06_Make.f
  obtain ⟨r, h3, h4, h5, h6⟩ := rmake_loop l h l.length k 0 [] (by simp) (by simp) List.Pairwise.nil (by have := needM_le l.length; omega)
  rw [show ((0 : Nat) : Int) = 0 from rfl] at h3
  rw [h3]
  congr 1
  refine rise_ext h4 (mk_rise l) fun x => ?_
  rw [h5, mk_mem]
  simp
end Go.Proofs.Ytbllchfgjginoaa
