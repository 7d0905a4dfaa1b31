-- written by a program of this session (hprint.py), over the kit's printer
import Derived.Test.YtlaanmkangikbaaPIpx0
import Derived.Test.YtlaanmkangikbaaIpE
import Derived.Test.YtlaanmkangikbaaPIpx1
namespace Go.Proofs.Ytlaanmkangikbaa.PIp
open Go.RowKit Go.Proofs.YtlaanmkangikbaaW.PrintWords Go.Proofs.YtlaanmkangikbaaW.PrintLast Go.Proofs.YtlaanmkangikbaaW.PrintMore
attribute [local go_sem] max2_int min2_int max_two min_two max_three min_three max_four min_four   -- for this text's walks alone
set_option linter.unusedVariables false
set_option linter.unusedSimpArgs false

/-! ### ip_head: function 19 -/
def ip_head.j0 : Nat → Int → Int → List Int → Int → Int → Int → Int → Int → Bool → Option (List Int)
 | 0, _, _, _, _, _, _, _, _, _ => none
 | k + 1, x1, x5, x6, x114000, x114001, x114002, x114003, x114004, x114005 => (ip_two.f x1).bind fun t120 => ((ip_two.f (wrap64 (x114004))).bind fun t123 => ((addr_Bytes.f k x114000).bind fun t129 => ((addr_Bytes.f k x114001).bind fun t132 => ((ip_joined.f (([(([x5, 0] : List Int)), t120, t123, (([0, 0, x114003, x114002, 0, 0] : List Int)), t129, t132, x6] : List (List Int)))).bind fun t138 => ((sum_Put.f t138 10).bind fun bt141 => (some bt141.1))))))
def ip_head.f (k : Nat) (a0_0 : Int) (a0_1 : Int) (a0_2 : Int) (a0_3 : Int) (a0_4 : Int) (a0_5 : Bool) (a1 : Int) : Option (List Int) := if a0_5 = true then ((ip_option.f).bind fun t114 => (ip_head.j0 k a1 70 t114 a0_0 a0_1 a0_2 a0_3 a0_4 a0_5)) else (ip_head.j0 k a1 69 ([] : List Int) a0_0 a0_1 a0_2 a0_3 a0_4 a0_5)
def ip_head.T4 : Bool × List (List Nat × List Nat) := (true, [([], []), ([0], [0]), ([], []), ([2], [2]), ([], []), ([4], [4]), ([5], [5]), ([6, 3], [6]), ([], []), ([8], [8]), ([], []), ([10], [10]), ([9, 11], [9, 11]), ([], []), ([13], [13]), ([14, 7], [14]), ([], []), ([16], [16]), ([17, 15], [17]), ([], []), ([1, 3, 7, 12, 15, 18, 19], [1, 3, 7, 12, 15, 18, 19]), ([20, 18], [20]), ([21, 21, 0, 1, 2, 3, 4, 5, 6, 7, 8, 9, 10, 11, 12, 13, 14, 15, 16, 17, 18, 19, 20, 21], [21])])
def ip_head.B4 : List Nat := [0, 1, 0, 4, 0, 16, 48, 124, 0, 256, 0, 1024, 3840, 0, 8192, 24828, 0, 65536, 254204, 0, 1048575, 2097151, 4194303]
theorem ip_head.tab4 : rtab .any (opsOf Try.f19 4) = ip_head.T4 := by kernel_rfl
theorem ip_head.bits4 : waitsOk ip_head.T4.2 ip_head.B4 = true := by kernel_rfl
set_option maxHeartbeats 8000000 in
set_option maxRecDepth 100000 in
theorem ip_head.calls (k : Nat) (a0_0 : Int) (a0_1 : Int) (a0_2 : Int) (a0_3 : Int) (a0_4 : Int) (a0_5 : Bool) (a1 : Int) (r : List Int) (w : World) (h : ip_head.f k a0_0 a0_1 a0_2 a0_3 a0_4 a0_5 a1 = some r) :
 Calls Try.prog 19 #[.agg #[.int .u32 a0_0, .int .u32 a0_1, .int .u8 a0_2, .int .u8 a0_3, .int .u16 a0_4, .bool a0_5], .int .i64 a1] w fun e w' => ∃ v0_ : Value, e = .returned (v0_) ∧ Kd.R (Kd.int .u8) 5 w' w.heap.size (fun _ => True) v0_ r ∧ Below w.heap.size w w' := by
 have hu26 := Try.underlying26
 have HB := Aside0.mk (Below.refl w.heap.size w)
 have H : (if a0_5 = true then ((ip_option.f).bind fun t114 => (ip_head.j0 k a1 70 t114 a0_0 a0_1 a0_2 a0_3 a0_4 a0_5)) else (ip_head.j0 k a1 69 ([] : List Int) a0_0 a0_1 a0_2 a0_3 a0_4 a0_5)) = some r := h
 clear h
 have HC3 := Aside0.mk H
 clear H
 go_enter Try.func19, Try.ntmps19
 go_upto_if 9 with (first | ((with_reducible refine gate_dst (N := 2) rfl ?_); refine box_event ?hg (N := 2) ?hd (cs := #[.int .u32 a0_0, .int .u32 a0_1, .int .u8 a0_2, .int .u8 a0_3, .int .u16 a0_4, .bool a0_5]) (t := 26) ?hr ?_; (case hd => rfl); (case hg => rfl); (case hr => first | (go_simp; done) | (go_simp; rfl)); intro gb113 hg w4 hbox hb; have n0_ := Aside0.mk (below_step (by repeat (first | (with_reducible first | exact HB.out | apply below_alloc | apply pw_below_drewN | apply below_drew1) | exact HB.out)) hb); have n1_ := Aside0.mk (hbox); have n2_ := Aside0.mk ((by rw [hg]; exact (below_size (by repeat (first | (with_reducible first | exact HB.out | apply below_alloc | apply pw_below_drewN | apply below_drew1) | exact HB.out))) : w.heap.size ≤ gb113)); have n3_ := Aside0.mk ((by rw [hg]; exact (below_size (by repeat (first | (with_reducible first | exact HB.out | apply below_alloc | apply pw_below_drewN | apply below_drew1) | exact HB.out))) : w.heap.size ≤ gb113)); clear HB; have HB := n0_; have BK113 := n1_; have GW113 := n2_; have GE113 := n3_; clear n0_ n1_ n2_ n3_; clear hb hbox hg; have hcz5_0 : w4.cell? ⟨gb113, 0, none⟩ = some (.int .u32 a0_0) := (blk_cell BK113.out 0).trans rfl; have hcz5_1 : w4.cell? ⟨gb113, 1, none⟩ = some (.int .u32 a0_1) := (blk_cell BK113.out 1).trans rfl; have hcz5_2 : w4.cell? ⟨gb113, 2, none⟩ = some (.int .u8 a0_2) := (blk_cell BK113.out 2).trans rfl; have hcz5_3 : w4.cell? ⟨gb113, 3, none⟩ = some (.int .u8 a0_3) := (blk_cell BK113.out 3).trans rfl; have hcz5_4 : w4.cell? ⟨gb113, 4, none⟩ = some (.int .u16 a0_4) := (blk_cell BK113.out 4).trans rfl; have hcz5_5 : w4.cell? ⟨gb113, 5, none⟩ = some (.bool a0_5) := (blk_cell BK113.out 5).trans rfl; have hfz5_0 := blk_frozen BK113.out 0; have hfz5_1 := blk_frozen BK113.out 1; have hfz5_2 := blk_frozen BK113.out 2; have hfz5_3 := blk_frozen BK113.out 3; have hfz5_4 := blk_frozen BK113.out 4; have hfz5_5 := blk_frozen BK113.out 5))
 (try simp only [Act.put, List.setIfInBounds_toArray, List.set_cons_zero, List.set_cons_succ])
 go_cut [5, 6] (fun v5 v6 wc => ∃ (kq : Nat) (x5_2 : Int) (x6_2 : List Int), v5 = .int .u8 x5_2 ∧ Aside0 (ip_head.j0 kq a1 x5_2 x6_2 a0_0 a0_1 a0_2 a0_3 a0_4 a0_5 = some r) ∧ Aside0 (kq ≤ k) ∧ Aside0 (Kd.R (Kd.int .u8) 5 wc w.heap.size (fun _ => True) v6 x6_2) ∧ Aside0 (wc.heap[gb113]? = some (.cells #[.int .u32 a0_0, .int .u32 a0_1, .int .u8 a0_2, .int .u8 a0_3, .int .u16 a0_4, .bool a0_5] 26 (0, 0))) ∧ Aside0 (Below w.heap.size w wc))
 case first =>
  have H := HC3.out
  clear HC3
  by_cases c6 : a0_5 = true
  · subst c6
    have H1 : ((ip_option.f).bind fun t114 => (ip_head.j0 k a1 70 t114 a0_0 a0_1 a0_2 a0_3 a0_4 true)) = some r := by rw [if_pos rfl] at H; exact H
    clear H
    have H := H1
    clear H1
    replace H := Option.bind_eq_some_iff.mp H
    obtain ⟨t114, A70, H⟩ := H
    replace H : (ip_head.j0 k a1 70 t114 a0_0 a0_1 a0_2 a0_3 a0_4 true) = some r := H
    have A7 := Aside0.mk A70
    clear A70
    have H' := Aside0.mk H
    clear H
    go_wp2_with (first | ((with_reducible refine gate_callee (f := 24) rfl ?_); refine goesL_ (some 10) rfl rfl Try.func24 (by kernel_rfl) rfl #[] rfl (by (try simp only [List.map_toArray, List.map_cons, List.map_nil]); first | done | rfl | (simp only [List.length_drop, List.length_take]; rfl)) ?_; (with_reducible refine (ip_option.calls  t114 _ A7.out).mono ?_); rintro e w8 ⟨v115, rfl, ho0, hb⟩; refine ⟨_, rfl, ?_⟩; have n0_ := Aside0.mk (Kd.R_lower ho0 (below_size (by repeat (first | (with_reducible first | exact HB.out | apply below_alloc | apply pw_below_drewN | apply below_drew1 | refine below_set ?_ GE113.out) | exact HB.out)))); have n1_ := Aside0.mk (blk_below (g := gb113) (o := .cells #[.int .u32 a0_0, .int .u32 a0_1, .int .u8 a0_2, .int .u8 a0_3, .int .u16 a0_4, .bool true] 26 (0, 0)) (by (with_reducible repeat (first | refine blk_drewN ?_ _ | refine blk_drew ?_ | refine blk_alloc ?_ _)); exact BK113.out) hb); have n2_ := Aside0.mk (below_step (by repeat (first | (with_reducible first | exact HB.out | apply below_alloc | apply pw_below_drewN | apply below_drew1 | refine below_set ?_ GE113.out) | exact HB.out)) hb); clear BK113; clear HB; have HO116 := n0_; have BK113 := n1_; have HB := n2_; clear n0_ n1_ n2_; (try clear hb); (try clear hb2); (try clear hk); (try clear hi); (try clear ho0)))
    go_meet
    case rel => exact ⟨_, (70), (t114), (by first | rfl | (simp; done) | (simp [*]; done)), H', ⟨by first | omega | exact Nat.le_refl _⟩, ⟨by (with_reducible repeat (first | apply Kd.R_alloc | apply Kd.R_drewN | apply Kd.R_drew)); exact HO116.out⟩, ⟨by (with_reducible repeat (first | refine blk_drewN ?_ _ | refine blk_drew ?_ | refine blk_alloc ?_ _)); exact BK113.out⟩, ⟨by repeat (first | (with_reducible first | exact HB.out | apply below_alloc | apply pw_below_drewN | apply below_drew1 | refine below_set ?_ GE113.out) | exact HB.out)⟩⟩
  · replace c6 := Bool.eq_false_iff.mpr c6
    subst c6
    have H1 : (ip_head.j0 k a1 69 ([] : List Int) a0_0 a0_1 a0_2 a0_3 a0_4 false) = some r := by rw [if_neg (show ¬ (false = true) by decide)] at H; exact H
    clear H
    have H := H1
    clear H1
    have H' := Aside0.mk H
    clear H
    go_wp2
    go_meet
    case rel => exact ⟨_, (69), (([] : List Int)), (by first | rfl | (simp; done) | (simp [*]; done)), H', ⟨by first | omega | exact Nat.le_refl _⟩, ⟨by first | exact Kd.R_nil _ _ _ _ _ | exact Kd.N_nil _ _ _ _ _ | exact Kd.V_nil _ _ _ _ _ | exact Kd.Q_nil _ _ _ _ _ | exact Kd.S_nil _ _ _ _ _⟩, ⟨by (with_reducible repeat (first | refine blk_drewN ?_ _ | refine blk_drew ?_ | refine blk_alloc ?_ _)); exact BK113.out⟩, ⟨by repeat (first | (with_reducible first | exact HB.out | apply below_alloc | apply pw_below_drewN | apply below_drew1 | refine below_set ?_ GE113.out) | exact HB.out)⟩⟩
 case rest =>
  clear HC3
  try clear c1
  try clear c2
  try clear p2
  try clear c6
  try clear hcz5_0
  try clear hcz5_1
  try clear hcz5_2
  try clear hcz5_3
  try clear hcz5_4
  try clear hcz5_5
  try clear hfz5_0
  try clear hfz5_1
  try clear hfz5_2
  try clear hfz5_3
  try clear hfz5_4
  try clear hfz5_5
  obtain ⟨kq, x5_2, x6_2, rfl, HA, HJ2, HO_6, BK113, HB⟩ := hcut
  cases kq with
  | zero => exact absurd HA.out (by simp [ip_head.j0])
  | succ kj2 =>
   have H := HA.out
   clear HA
   simp only [ip_head.j0] at H
   obtain ⟨y117, hy117⟩ : ∃ y_ : List Int, y_ = (([x5_2, 0] : List Int)) := ⟨_, rfl⟩
   replace H : ((ip_two.f a1).bind fun t120 => ((ip_two.f (wrap64 (a0_4))).bind fun t123 => ((addr_Bytes.f kj2 a0_0).bind fun t129 => ((addr_Bytes.f kj2 a0_1).bind fun t132 => ((ip_joined.f (([y117, t120, t123, (([0, 0, a0_3, a0_2, 0, 0] : List Int)), t129, t132, x6_2] : List (List Int)))).bind fun t138 => ((sum_Put.f t138 10).bind fun bt141 => (some bt141.1))))))) = some r := by first | (rw [hy117]; with_reducible exact H) | (have H2_ := (Option.bind_some _ _).symm.trans H; rw [hy117]; with_reducible exact H2_) | (have H2_ := (Option.bind_some _ _).symm.trans H; with_reducible exact H2_) | with_reducible exact H | (rw [hy117]; exact H) | exact H
   have Ny117 := Aside0.mk hy117
   clear hy117
   replace H := Option.bind_eq_some_iff.mp H
   obtain ⟨t120, A90, H⟩ := H
   replace H : ((ip_two.f (wrap64 (a0_4))).bind fun t123 => ((addr_Bytes.f kj2 a0_0).bind fun t129 => ((addr_Bytes.f kj2 a0_1).bind fun t132 => ((ip_joined.f (([y117, t120, t123, (([0, 0, a0_3, a0_2, 0, 0] : List Int)), t129, t132, x6_2] : List (List Int)))).bind fun t138 => ((sum_Put.f t138 10).bind fun bt141 => (some bt141.1)))))) = some r := H
   have A9 := Aside0.mk A90
   clear A90
   replace H := Option.bind_eq_some_iff.mp H
   obtain ⟨t123, A100, H⟩ := H
   replace H : ((addr_Bytes.f kj2 a0_0).bind fun t129 => ((addr_Bytes.f kj2 a0_1).bind fun t132 => ((ip_joined.f (([y117, t120, t123, (([0, 0, a0_3, a0_2, 0, 0] : List Int)), t129, t132, x6_2] : List (List Int)))).bind fun t138 => ((sum_Put.f t138 10).bind fun bt141 => (some bt141.1))))) = some r := H
   have A10 := Aside0.mk A100
   clear A100
   obtain ⟨y126, hy126⟩ : ∃ y_ : List Int, y_ = (([0, 0, a0_3, a0_2, 0, 0] : List Int)) := ⟨_, rfl⟩
   replace H : ((addr_Bytes.f kj2 a0_0).bind fun t129 => ((addr_Bytes.f kj2 a0_1).bind fun t132 => ((ip_joined.f (([y117, t120, t123, y126, t129, t132, x6_2] : List (List Int)))).bind fun t138 => ((sum_Put.f t138 10).bind fun bt141 => (some bt141.1))))) = some r := by first | (rw [hy126]; with_reducible exact H) | (have H2_ := (Option.bind_some _ _).symm.trans H; rw [hy126]; with_reducible exact H2_) | (have H2_ := (Option.bind_some _ _).symm.trans H; with_reducible exact H2_) | with_reducible exact H | (rw [hy126]; exact H) | exact H
   have Ny126 := Aside0.mk hy126
   clear hy126
   replace H := Option.bind_eq_some_iff.mp H
   obtain ⟨t129, A110, H⟩ := H
   replace H : ((addr_Bytes.f kj2 a0_1).bind fun t132 => ((ip_joined.f (([y117, t120, t123, y126, t129, t132, x6_2] : List (List Int)))).bind fun t138 => ((sum_Put.f t138 10).bind fun bt141 => (some bt141.1)))) = some r := H
   have A11 := Aside0.mk A110
   clear A110
   replace H := Option.bind_eq_some_iff.mp H
   obtain ⟨t132, A120, H⟩ := H
   replace H : ((ip_joined.f (([y117, t120, t123, y126, t129, t132, x6_2] : List (List Int)))).bind fun t138 => ((sum_Put.f t138 10).bind fun bt141 => (some bt141.1))) = some r := H
   have A12 := Aside0.mk A120
   clear A120
   obtain ⟨y135, hy135⟩ : ∃ y_ : List (List Int), y_ = (([y117, t120, t123, y126, t129, t132, x6_2] : List (List Int))) := ⟨_, rfl⟩
   replace H : ((ip_joined.f y135).bind fun t138 => ((sum_Put.f t138 10).bind fun bt141 => (some bt141.1))) = some r := by first | (rw [hy135]; with_reducible exact H) | (have H2_ := (Option.bind_some _ _).symm.trans H; rw [hy135]; with_reducible exact H2_) | (have H2_ := (Option.bind_some _ _).symm.trans H; with_reducible exact H2_) | with_reducible exact H | (rw [hy135]; exact H) | exact H
   have Ny135 := Aside0.mk hy135
   clear hy135
   replace H := Option.bind_eq_some_iff.mp H
   obtain ⟨t138, A130, H⟩ := H
   replace H : ((sum_Put.f t138 10).bind fun bt141 => (some bt141.1)) = some r := H
   have A13 := Aside0.mk A130
   clear A130
   replace H := Option.bind_eq_some_iff.mp H
   obtain ⟨⟨t141, t142⟩, A140, H⟩ := H
   replace H : (some t141) = some r := H
   have A14 := Aside0.mk A140
   clear A140
   obtain rfl := Option.some.inj H
   try go_wp2
   have n0_ := Aside0.mk (Kd.R_drew HO_6.out)
   have n1_ := Aside0.mk (blk_drew BK113.out)
   have n2_ := Aside0.mk (below_drew1 HB.out)
   clear HO_6
   clear BK113
   clear HB
   have HO_6 := n0_
   have BK113 := n1_
   have HB := n2_
   clear n0_ n1_ n2_
   refine start_ (n := 23) (S := fun w' => True) (ds := []) #[false, false, false, false, false, false, false, false, false, false, false, false, false, false, false, false, false, false, false, false, false, false, false] (by kernel_rfl) rfl rfl trivial (fun hHeld => ?_); refine with_tabW ip_head.tab4 ip_head.bits4 (fun HT_ HW_ => ?_)
   generalize wc.drew = w15 at HO_6 BK113 HB hHeld ⊢
   refine pu 0 11 (bb 23 1) rfl rfl (any_of HT_.out (by kernel_rfl)) (fun _ _ _ h => h) (by rfl) (fun w' => by go_simp; with_reducible rfl) (by simp only [Act.put, sA, sB, sC, i64_w, i32_w]; rfl) ?_
   refine pu 2 13 (bb 23 5) rfl rfl (any_of HT_.out (by kernel_rfl)) (fun _ _ _ h => h) (by rfl) (fun w' => by go_simp; with_reducible rfl) (by simp only [Act.put, sA, sB, sC, i64_w, i32_w]; rfl) ?_
   refine pu 4 15 (bb 23 21) rfl rfl (any_of HT_.out (by kernel_rfl)) (fun _ _ _ h => h) (by rfl) (fun w' => by go_simp; with_reducible rfl) (by simp only [Act.put, sA, sB, sC, i64_w, i32_w]; rfl) ?_
   refine pu 8 19 (bb 23 277) rfl rfl (any_of HT_.out (by kernel_rfl)) (fun _ _ _ h => h) (by rfl) (fun w' => by go_simp; with_reducible rfl) (by simp only [Act.put, sA, sB, sC, i64_w, i32_w]; rfl) ?_
   refine pu 10 21 (bb 23 1301) rfl rfl (any_of HT_.out (by kernel_rfl)) (fun _ _ _ h => h) (by rfl) (fun w' => by go_simp; with_reducible rfl) (by simp only [Act.put, sA, sB, sC, i64_w, i32_w]; rfl) ?_
   refine pu 13 24 (bb 23 9493) rfl rfl (any_of HT_.out (by kernel_rfl)) (fun _ _ _ h => h) (by rfl) (fun w' => by go_simp; with_reducible rfl) (by simp only [Act.put, sA, sB, sC, i64_w, i32_w]; rfl) ?_
   refine pu 16 27 (bb 23 75029) rfl rfl (any_of HT_.out (by kernel_rfl)) (fun _ _ _ h => h) (by rfl) (fun w' => by go_simp; with_reducible rfl) (by simp only [Act.put, sA, sB, sC, i64_w, i32_w]; rfl) ?_
   refine pu 19 30 (bb 23 599317) rfl rfl (any_of HT_.out (by kernel_rfl)) (fun _ _ _ h => h) (by rfl) (fun w' => by go_simp; with_reducible rfl) (by simp only [Act.put, sA, sB, sC, i64_w, i32_w]; rfl) ?_
   refine inv_at [1, 3, 5, 6, 7, 9, 11, 12, 14, 15, 17, 18, 20, 21, 22] (fun a0_ b a w' => ∃ (v118 : Value) (v121 : Value) (v124 : Value) (v127 : Value) (v130 : Value) (v133 : Value) (v136 : Value) (v139 : Value) (m22_ : Value), a = putSel a0_ b [(1, 12, v118), (3, 14, v121), (5, 16, .int .u16 a0_4), (6, 17, .int .i64 (wrap64 (a0_4))), (7, 18, v124), (9, 20, .int .u8 a0_3), (11, 22, .int .u8 a0_2), (12, 23, v127), (14, 25, .int .u32 a0_0), (15, 26, v130), (17, 28, .int .u32 a0_1), (18, 29, v133), (20, 31, v136), (21, 32, v139), (22, 7, m22_)] ∧ (b 20 = false → Kd.R (Kd.int .u8) 5 w' w.heap.size (fun _ => True) u6 x6_2) ∧ (w'.heap[gb113]? = some (.cells #[.int .u32 a0_0, .int .u32 a0_1, .int .u8 a0_2, .int .u8 a0_3, .int .u16 a0_4, .bool a0_5] 26 (0, 0))) ∧ (Below w.heap.size w w') ∧ (b 1 = true → b 20 = false → Kd.R (Kd.int .u8) 5 w' w.heap.size (fun k_ => some k_ ≠ (u6 : Value).ownBlock) v118 y117) ∧ (b 3 = true → b 20 = false → Kd.R (Kd.int .u8) 5 w' w.heap.size (fun k_ => some k_ ≠ (u6 : Value).ownBlock) v121 t120) ∧ (b 7 = true → b 20 = false → Kd.R (Kd.int .u8) 5 w' w.heap.size (fun k_ => some k_ ≠ (u6 : Value).ownBlock) v124 t123) ∧ (b 12 = true → b 20 = false → Kd.R (Kd.int .u8) 5 w' w.heap.size (fun k_ => some k_ ≠ (u6 : Value).ownBlock) v127 y126) ∧ (b 15 = true → b 20 = false → Kd.R (Kd.int .u8) 5 w' w.heap.size (fun k_ => some k_ ≠ (u6 : Value).ownBlock) v130 t129) ∧ (b 18 = true → b 20 = false → Kd.R (Kd.int .u8) 5 w' w.heap.size (fun k_ => some k_ ≠ (u6 : Value).ownBlock) v133 t132) ∧ (b 20 = true → Kd.N (Kd.slice 5 (Kd.int .u8)) 27 w' w.heap.size (fun k_ => k_ ≠ gb113) v136 y135) ∧ (b 21 = true → Kd.R (Kd.int .u8) 5 w' w.heap.size (fun _ => True) v139 t138) ∧ (b 22 = true → (m22_ : Value) = v139)) HT_.out HW_.out (by kernel_rfl) (by kernel_rfl) ?_ ?_ ?_
   · exact ⟨.bool false, .bool false, .bool false, .bool false, .bool false, .bool false, .bool false, .bool false, .bool false, by simp only [putSel, Bool.false_eq_true, if_false], fun _ => HO_6.out, BK113.out, HB.out, fun h_ => absurd h_ (by decide), fun h_ => absurd h_ (by decide), fun h_ => absurd h_ (by decide), fun h_ => absurd h_ (by decide), fun h_ => absurd h_ (by decide), fun h_ => absurd h_ (by decide), fun h_ => absurd h_ (by decide), fun h_ => absurd h_ (by decide), fun h_ => absurd h_ (by decide)⟩
   · skip
     clear BK113 HB HO_6
     refine steps_cons ?_ ?_
     · rintro b a w' ⟨v118, v121, v124, v127, v130, v133, v136, v139, m22_, ha, Q_HO_6, Q_BK113, Q_HB, Q_HO119, Q_HO122, Q_HO125, Q_HO128, Q_HO131, Q_HO134, Q_HO137, Q_HO140, Q_X22_⟩ hb_ hon hoff
       refine ⟨_, rfl, fun K hK => ?_⟩
       have e11 : a.tmps[11]? = some (.int .u8 x5_2) := by rw [ha]; exact (putSel_off rfl).trans rfl
       replace ha := Aside0.mk ha
       have HO_6 := Aside0.mk (Q_HO_6 (hoff 20 (by kernel_rfl)))
       have BK113 := Aside0.mk Q_BK113
       have HB := Aside0.mk Q_HB
       refine Kd.R_lit_step (Kd.int .u8) _ 5 ?hg (N := 12) ?hd (xs := ([x5_2, 0] : List Int)) (inner := [.int .u8 x5_2, .int .u8 0]) (ok := fun _ => True) (okp := fun _ => True) ?hr ?hp (fun _ hk => hk) trivial (Below.refl _ _) (Nat.le_refl _) (by simp) ?_; (case hd => rfl); (case hg => rfl); (case hr => first | (go_simp; done) | (go_simp; rfl)); (case hp => exact (Reps.one (show Kd.M (Kd.int .u8) _ _ _ x5_2 [.int .u8 x5_2] from rfl) (Reps.one (show Kd.M (Kd.int .u8) _ _ _ 0 [.int .u8 0] from rfl) (Reps.none _ _))))
       intro v118 w16 ho17 hb hg_ hnew_
       clear hg_ hnew_
       (first | rw [← Ny117.out] at ho17 | (simp only [Int.reduceToNat] at ho17; rw [← Ny117.out] at ho17))
       have n0_ := Aside0.mk (Kd.R_elder' (by (with_reducible repeat (first | apply Kd.R_alloc | apply Kd.R_drewN | apply Kd.R_drew)); exact HO_6.out) (Kd.R_base ho17) hb)
       have n1_ := Aside0.mk (Kd.R_lower (Kd.R_new' ho17 (Kd.R_lt (by (with_reducible repeat (first | apply Kd.R_alloc | apply Kd.R_drewN | apply Kd.R_drew)); exact HO_6.out))) (below_size (by repeat (first | (with_reducible first | exact HB.out | apply below_alloc | apply pw_below_drewN | apply below_drew1 | refine below_set ?_ GE113.out) | exact HB.out))))
       have n2_ := Aside0.mk (blk_below (g := gb113) (o := .cells #[.int .u32 a0_0, .int .u32 a0_1, .int .u8 a0_2, .int .u8 a0_3, .int .u16 a0_4, .bool a0_5] 26 (0, 0)) (by (with_reducible repeat (first | refine blk_drewN ?_ _ | refine blk_drew ?_ | refine blk_alloc ?_ _)); exact BK113.out) hb)
       have n3_ := Aside0.mk (below_step (by repeat (first | (with_reducible first | exact HB.out | apply below_alloc | apply pw_below_drewN | apply below_drew1 | refine below_set ?_ GE113.out) | exact HB.out)) hb)
       have z_HO122 := fun (h0_ : b 3 = true) (h1_ : b 20 = false) => (show Kd.R (Kd.int .u8) 5 w16 w.heap.size (fun k_ => some k_ ≠ (u6 : Value).ownBlock) v121 t120 from by first | exact (Kd.R_elder' (by (with_reducible repeat (first | apply Kd.R_alloc | apply Kd.R_drewN | apply Kd.R_drew)); exact (Q_HO122 h0_ h1_)) (Kd.R_base ho17) hb) | exact Kd.R_mono (Kd.R_elder' (by (with_reducible repeat (first | apply Kd.R_alloc | apply Kd.R_drewN | apply Kd.R_drew)); exact (Q_HO122 h0_ h1_)) (Kd.R_base ho17) hb) (fun _ h_ => by first | trivial | exact h_ | exact h_.1))
       have z_HO125 := fun (h0_ : b 7 = true) (h1_ : b 20 = false) => (show Kd.R (Kd.int .u8) 5 w16 w.heap.size (fun k_ => some k_ ≠ (u6 : Value).ownBlock) v124 t123 from by first | exact (Kd.R_elder' (by (with_reducible repeat (first | apply Kd.R_alloc | apply Kd.R_drewN | apply Kd.R_drew)); exact (Q_HO125 h0_ h1_)) (Kd.R_base ho17) hb) | exact Kd.R_mono (Kd.R_elder' (by (with_reducible repeat (first | apply Kd.R_alloc | apply Kd.R_drewN | apply Kd.R_drew)); exact (Q_HO125 h0_ h1_)) (Kd.R_base ho17) hb) (fun _ h_ => by first | trivial | exact h_ | exact h_.1))
       have z_HO128 := fun (h0_ : b 12 = true) (h1_ : b 20 = false) => (show Kd.R (Kd.int .u8) 5 w16 w.heap.size (fun k_ => some k_ ≠ (u6 : Value).ownBlock) v127 y126 from by first | exact (Kd.R_elder' (by (with_reducible repeat (first | apply Kd.R_alloc | apply Kd.R_drewN | apply Kd.R_drew)); exact (Q_HO128 h0_ h1_)) (Kd.R_base ho17) hb) | exact Kd.R_mono (Kd.R_elder' (by (with_reducible repeat (first | apply Kd.R_alloc | apply Kd.R_drewN | apply Kd.R_drew)); exact (Q_HO128 h0_ h1_)) (Kd.R_base ho17) hb) (fun _ h_ => by first | trivial | exact h_ | exact h_.1))
       have z_HO131 := fun (h0_ : b 15 = true) (h1_ : b 20 = false) => (show Kd.R (Kd.int .u8) 5 w16 w.heap.size (fun k_ => some k_ ≠ (u6 : Value).ownBlock) v130 t129 from by first | exact (Kd.R_elder' (by (with_reducible repeat (first | apply Kd.R_alloc | apply Kd.R_drewN | apply Kd.R_drew)); exact (Q_HO131 h0_ h1_)) (Kd.R_base ho17) hb) | exact Kd.R_mono (Kd.R_elder' (by (with_reducible repeat (first | apply Kd.R_alloc | apply Kd.R_drewN | apply Kd.R_drew)); exact (Q_HO131 h0_ h1_)) (Kd.R_base ho17) hb) (fun _ h_ => by first | trivial | exact h_ | exact h_.1))
       have z_HO134 := fun (h0_ : b 18 = true) (h1_ : b 20 = false) => (show Kd.R (Kd.int .u8) 5 w16 w.heap.size (fun k_ => some k_ ≠ (u6 : Value).ownBlock) v133 t132 from by first | exact (Kd.R_elder' (by (with_reducible repeat (first | apply Kd.R_alloc | apply Kd.R_drewN | apply Kd.R_drew)); exact (Q_HO134 h0_ h1_)) (Kd.R_base ho17) hb) | exact Kd.R_mono (Kd.R_elder' (by (with_reducible repeat (first | apply Kd.R_alloc | apply Kd.R_drewN | apply Kd.R_drew)); exact (Q_HO134 h0_ h1_)) (Kd.R_base ho17) hb) (fun _ h_ => by first | trivial | exact h_ | exact h_.1))
       clear HO_6
       clear BK113
       clear HB
       have HO_6 := n0_
       have HO119 := n1_
       have BK113 := n2_
       have HB := n3_
       clear n0_ n1_ n2_ n3_
       clear hb ho17
       refine hK.out _ _ ⟨v118, v121, v124, v127, v130, v133, v136, v139, m22_, (by rw [ha.out]; exact putSel_upk 0 hb_ rfl rfl rfl), fun _ => (by (with_reducible repeat (first | apply Kd.R_alloc | apply Kd.R_drewN | apply Kd.R_drew)); exact Kd.R_mono HO_6.out (fun _ hk => by first | trivial | exact hk | exact hk.1 | exact hk.2 | exact hk.1.2 | exact hk.1.1 | exact hk.2.1 | exact hk.2.2 | exact hk.1.1.2 | exact hk.1.2.2 | exact hk.1.1.1.2 | exact hk.1.1.1.1.2)), (by (with_reducible repeat (first | refine blk_drewN ?_ _ | refine blk_drew ?_ | refine blk_alloc ?_ _)); exact BK113.out), (by repeat (first | (with_reducible first | exact HB.out | apply below_alloc | apply pw_below_drewN | apply below_drew1 | refine below_set ?_ GE113.out) | exact HB.out)), fun _ _ => (by (with_reducible repeat (first | apply Kd.R_alloc | apply Kd.R_drewN | apply Kd.R_drew)); exact Kd.R_mono HO119.out (fun _ hk => by first | trivial | exact hk | exact hk.1 | exact hk.2 | exact hk.1.2 | exact hk.1.1 | exact hk.2.1 | exact hk.2.2 | exact hk.1.1.2 | exact hk.1.2.2 | exact hk.1.1.1.2 | exact hk.1.1.1.1.2)), z_HO122, z_HO125, z_HO128, z_HO131, z_HO134, fun h0_ => absurd ((hoff 20 (by kernel_rfl)).symm.trans h0_) (by decide), fun h0_ => absurd ((hoff 21 (by kernel_rfl)).symm.trans h0_) (by decide), fun h0_ => absurd ((hoff 22 (by kernel_rfl)).symm.trans h0_) (by decide)⟩
     refine steps_cons ?_ ?_
     · rintro b a w' ⟨v118, v121, v124, v127, v130, v133, v136, v139, m22_, ha, Q_HO_6, Q_BK113, Q_HB, Q_HO119, Q_HO122, Q_HO125, Q_HO128, Q_HO131, Q_HO134, Q_HO137, Q_HO140, Q_X22_⟩ hb_ hon hoff
       refine ⟨_, rfl, fun K hK => ?_⟩
       have e13 : a.tmps[13]? = some (.int .i64 a1) := by rw [ha]; exact (putSel_off rfl).trans rfl
       replace ha := Aside0.mk ha
       have HO_6 := Aside0.mk (Q_HO_6 (hoff 20 (by kernel_rfl)))
       have BK113 := Aside0.mk Q_BK113
       have HB := Aside0.mk Q_HB
       refine goes_ Try.func31 (by kernel_rfl) rfl #[.int .i64 a1] (by rfl) rfl rfl (by first | (simp only [List.map_toArray, List.map_cons, List.map_nil, Act.eval, Array.getD_eq_getD_getElem?, Option.getD_some, e13]; done) | (simp only [List.map_toArray, List.map_cons, List.map_nil, Act.eval, Array.getD_eq_getD_getElem?, Option.getD_some, e13]; rfl)) ?_
       with_reducible refine (ip_two.calls a1 t120 _ A9.out).mono ?_
       rintro e w16 ⟨v121, rfl, ho0, hb⟩
       refine ⟨_, rfl, ?_⟩
       have n0_ := Aside0.mk (Kd.R_elder' (by (with_reducible repeat (first | apply Kd.R_alloc | apply Kd.R_drewN | apply Kd.R_drew)); exact HO_6.out) (Kd.R_base ho0) hb)
       have n1_ := Aside0.mk (Kd.R_lower (Kd.R_new' ho0 (Kd.R_lt (by (with_reducible repeat (first | apply Kd.R_alloc | apply Kd.R_drewN | apply Kd.R_drew)); exact HO_6.out))) (below_size (by repeat (first | (with_reducible first | exact HB.out | apply below_alloc | apply pw_below_drewN | apply below_drew1 | refine below_set ?_ GE113.out) | exact HB.out))))
       have n2_ := Aside0.mk (blk_below (g := gb113) (o := .cells #[.int .u32 a0_0, .int .u32 a0_1, .int .u8 a0_2, .int .u8 a0_3, .int .u16 a0_4, .bool a0_5] 26 (0, 0)) (by (with_reducible repeat (first | refine blk_drewN ?_ _ | refine blk_drew ?_ | refine blk_alloc ?_ _)); exact BK113.out) hb)
       have n3_ := Aside0.mk (below_step (by repeat (first | (with_reducible first | exact HB.out | apply below_alloc | apply pw_below_drewN | apply below_drew1 | refine below_set ?_ GE113.out) | exact HB.out)) hb)
       have z_HO119 := fun (h0_ : b 1 = true) (h1_ : b 20 = false) => (show Kd.R (Kd.int .u8) 5 w16 w.heap.size (fun k_ => some k_ ≠ (u6 : Value).ownBlock) v118 y117 from by first | exact (Kd.R_elder' (by (with_reducible repeat (first | apply Kd.R_alloc | apply Kd.R_drewN | apply Kd.R_drew)); exact (Q_HO119 h0_ h1_)) (Kd.R_base ho0) hb) | exact Kd.R_mono (Kd.R_elder' (by (with_reducible repeat (first | apply Kd.R_alloc | apply Kd.R_drewN | apply Kd.R_drew)); exact (Q_HO119 h0_ h1_)) (Kd.R_base ho0) hb) (fun _ h_ => by first | trivial | exact h_ | exact h_.1))
       have z_HO128 := fun (h0_ : b 12 = true) (h1_ : b 20 = false) => (show Kd.R (Kd.int .u8) 5 w16 w.heap.size (fun k_ => some k_ ≠ (u6 : Value).ownBlock) v127 y126 from by first | exact (Kd.R_elder' (by (with_reducible repeat (first | apply Kd.R_alloc | apply Kd.R_drewN | apply Kd.R_drew)); exact (Q_HO128 h0_ h1_)) (Kd.R_base ho0) hb) | exact Kd.R_mono (Kd.R_elder' (by (with_reducible repeat (first | apply Kd.R_alloc | apply Kd.R_drewN | apply Kd.R_drew)); exact (Q_HO128 h0_ h1_)) (Kd.R_base ho0) hb) (fun _ h_ => by first | trivial | exact h_ | exact h_.1))
       clear HO_6
       clear BK113
       clear HB
       have HO_6 := n0_
       have HO122 := n1_
       have BK113 := n2_
       have HB := n3_
       clear n0_ n1_ n2_ n3_
       (try clear hb)
       (try clear hb2)
       (try clear hk)
       (try clear hi)
       (try clear ho0)
       refine hK.out _ _ ⟨v118, v121, v124, v127, v130, v133, v136, v139, m22_, (by rw [ha.out]; exact putSel_upk 1 hb_ rfl rfl rfl), fun _ => (by (with_reducible repeat (first | apply Kd.R_alloc | apply Kd.R_drewN | apply Kd.R_drew)); exact Kd.R_mono HO_6.out (fun _ hk => by first | trivial | exact hk | exact hk.1 | exact hk.2 | exact hk.1.2 | exact hk.1.1 | exact hk.2.1 | exact hk.2.2 | exact hk.1.1.2 | exact hk.1.2.2 | exact hk.1.1.1.2 | exact hk.1.1.1.1.2)), (by (with_reducible repeat (first | refine blk_drewN ?_ _ | refine blk_drew ?_ | refine blk_alloc ?_ _)); exact BK113.out), (by repeat (first | (with_reducible first | exact HB.out | apply below_alloc | apply pw_below_drewN | apply below_drew1 | refine below_set ?_ GE113.out) | exact HB.out)), z_HO119, fun _ _ => (by (with_reducible repeat (first | apply Kd.R_alloc | apply Kd.R_drewN | apply Kd.R_drew)); exact Kd.R_mono HO122.out (fun _ hk => by first | trivial | exact hk | exact hk.1 | exact hk.2 | exact hk.1.2 | exact hk.1.1 | exact hk.2.1 | exact hk.2.2 | exact hk.1.1.2 | exact hk.1.2.2 | exact hk.1.1.1.2 | exact hk.1.1.1.1.2)), fun h0_ _ => absurd ((hoff 7 (by kernel_rfl)).symm.trans h0_) (by decide), z_HO128, fun h0_ _ => absurd ((hoff 15 (by kernel_rfl)).symm.trans h0_) (by decide), fun h0_ _ => absurd ((hoff 18 (by kernel_rfl)).symm.trans h0_) (by decide), fun h0_ => absurd ((hoff 20 (by kernel_rfl)).symm.trans h0_) (by decide), fun h0_ => absurd ((hoff 21 (by kernel_rfl)).symm.trans h0_) (by decide), fun h0_ => absurd ((hoff 22 (by kernel_rfl)).symm.trans h0_) (by decide)⟩
     refine steps_cons ?_ ?_
     · rintro b a w' ⟨v118, v121, v124, v127, v130, v133, v136, v139, m22_, ha, Q_HO_6, Q_BK113, Q_HB, Q_HO119, Q_HO122, Q_HO125, Q_HO128, Q_HO131, Q_HO134, Q_HO137, Q_HO140, Q_X22_⟩ hb_ hon hoff
       refine ⟨_, rfl, fun K hK => ?_⟩
       have e15 : a.tmps[15]? = some (.pointer (some ⟨gb113, 4, none⟩)) := by rw [ha]; exact (putSel_off rfl).trans rfl
       replace ha := Aside0.mk ha
       have HO_6 := Aside0.mk (Q_HO_6 (hoff 20 (by kernel_rfl)))
       have BK113 := Aside0.mk Q_BK113
       have HB := Aside0.mk Q_HB
       have hc0_ : w'.cell? ⟨gb113, 0, none⟩ = some (.int .u32 a0_0) := (blk_cell BK113.out 0).trans rfl
       have hc1_ : w'.cell? ⟨gb113, 1, none⟩ = some (.int .u32 a0_1) := (blk_cell BK113.out 1).trans rfl
       have hc2_ : w'.cell? ⟨gb113, 2, none⟩ = some (.int .u8 a0_2) := (blk_cell BK113.out 2).trans rfl
       have hc3_ : w'.cell? ⟨gb113, 3, none⟩ = some (.int .u8 a0_3) := (blk_cell BK113.out 3).trans rfl
       have hc4_ : w'.cell? ⟨gb113, 4, none⟩ = some (.int .u16 a0_4) := (blk_cell BK113.out 4).trans rfl
       have hc5_ : w'.cell? ⟨gb113, 5, none⟩ = some (.bool a0_5) := (blk_cell BK113.out 5).trans rfl
       refine value_ (w1 := w') (v := .int .u16 a0_4) (by rfl) rfl ?_ ?_
       · go_simp
         (try simp only [i64_w])
         try rfl
       refine hK.out _ _ ⟨v118, v121, v124, v127, v130, v133, v136, v139, m22_, (by rw [ha.out]; exact putSel_upk 2 hb_ rfl rfl rfl), Q_HO_6, Q_BK113, Q_HB, Q_HO119, Q_HO122, fun h0_ _ => absurd ((hoff 7 (by kernel_rfl)).symm.trans h0_) (by decide), Q_HO128, fun h0_ _ => absurd ((hoff 15 (by kernel_rfl)).symm.trans h0_) (by decide), fun h0_ _ => absurd ((hoff 18 (by kernel_rfl)).symm.trans h0_) (by decide), fun h0_ => absurd ((hoff 20 (by kernel_rfl)).symm.trans h0_) (by decide), fun h0_ => absurd ((hoff 21 (by kernel_rfl)).symm.trans h0_) (by decide), fun h0_ => absurd ((hoff 22 (by kernel_rfl)).symm.trans h0_) (by decide)⟩
     refine steps_cons ?_ ?_
     · rintro b a w' ⟨v118, v121, v124, v127, v130, v133, v136, v139, m22_, ha, Q_HO_6, Q_BK113, Q_HB, Q_HO119, Q_HO122, Q_HO125, Q_HO128, Q_HO131, Q_HO134, Q_HO137, Q_HO140, Q_X22_⟩ hb_ hon hoff
       refine ⟨_, rfl, fun K hK => ?_⟩
       have e16 : a.tmps[16]? = some (.int .u16 a0_4) := by rw [ha]; exact putSel_on (e := (5, 16, .int .u16 a0_4)) 2 rfl rfl (hon 5 (by kernel_rfl)) rfl
       replace ha := Aside0.mk ha
       have HO_6 := Aside0.mk (Q_HO_6 (hoff 20 (by kernel_rfl)))
       have BK113 := Aside0.mk Q_BK113
       have HB := Aside0.mk Q_HB
       refine value_ (w1 := w') (v := .int .i64 (wrap64 (a0_4))) (by rfl) rfl ?_ ?_
       · go_simp
         (try simp only [i64_w])
         try rfl
       refine hK.out _ _ ⟨v118, v121, v124, v127, v130, v133, v136, v139, m22_, (by rw [ha.out]; exact putSel_upk 3 hb_ rfl rfl rfl), Q_HO_6, Q_BK113, Q_HB, Q_HO119, Q_HO122, fun h0_ _ => absurd ((hoff 7 (by kernel_rfl)).symm.trans h0_) (by decide), Q_HO128, fun h0_ _ => absurd ((hoff 15 (by kernel_rfl)).symm.trans h0_) (by decide), fun h0_ _ => absurd ((hoff 18 (by kernel_rfl)).symm.trans h0_) (by decide), fun h0_ => absurd ((hoff 20 (by kernel_rfl)).symm.trans h0_) (by decide), fun h0_ => absurd ((hoff 21 (by kernel_rfl)).symm.trans h0_) (by decide), fun h0_ => absurd ((hoff 22 (by kernel_rfl)).symm.trans h0_) (by decide)⟩
     refine steps_cons ?_ ?_
     · rintro b a w' ⟨v118, v121, v124, v127, v130, v133, v136, v139, m22_, ha, Q_HO_6, Q_BK113, Q_HB, Q_HO119, Q_HO122, Q_HO125, Q_HO128, Q_HO131, Q_HO134, Q_HO137, Q_HO140, Q_X22_⟩ hb_ hon hoff
       refine ⟨_, rfl, fun K hK => ?_⟩
       have e17 : a.tmps[17]? = some (.int .i64 (wrap64 (a0_4))) := by rw [ha]; exact putSel_on (e := (6, 17, .int .i64 (wrap64 (a0_4)))) 3 rfl rfl (hon 6 (by kernel_rfl)) rfl
       replace ha := Aside0.mk ha
       have HO_6 := Aside0.mk (Q_HO_6 (hoff 20 (by kernel_rfl)))
       have BK113 := Aside0.mk Q_BK113
       have HB := Aside0.mk Q_HB
       have HO122 := Aside0.mk (Q_HO122 (hon 3 (by kernel_rfl)) (hoff 20 (by kernel_rfl)))
       refine goes_ Try.func31 (by kernel_rfl) rfl #[.int .i64 (wrap64 (a0_4))] (by rfl) rfl rfl (by first | (simp only [List.map_toArray, List.map_cons, List.map_nil, Act.eval, Array.getD_eq_getD_getElem?, Option.getD_some, e17]; done) | (simp only [List.map_toArray, List.map_cons, List.map_nil, Act.eval, Array.getD_eq_getD_getElem?, Option.getD_some, e17]; rfl)) ?_
       with_reducible refine (ip_two.calls (wrap64 (a0_4)) t123 _ A10.out).mono ?_
       rintro e w18 ⟨v124, rfl, ho0, hb⟩
       refine ⟨_, rfl, ?_⟩
       have n0_ := Aside0.mk (Kd.R_elder' (by (with_reducible repeat (first | apply Kd.R_alloc | apply Kd.R_drewN | apply Kd.R_drew)); exact HO_6.out) (Kd.R_base ho0) hb)
       have n1_ := Aside0.mk (Kd.R_elder' (by (with_reducible repeat (first | apply Kd.R_alloc | apply Kd.R_drewN | apply Kd.R_drew)); exact HO122.out) (Kd.R_base ho0) hb)
       have n2_ := Aside0.mk (Kd.R_lower (Kd.R_new' (Kd.R_new' ho0 (Kd.R_lt (by (with_reducible repeat (first | apply Kd.R_alloc | apply Kd.R_drewN | apply Kd.R_drew)); exact HO_6.out))) (Kd.R_lt (by (with_reducible repeat (first | apply Kd.R_alloc | apply Kd.R_drewN | apply Kd.R_drew)); exact HO122.out))) (below_size (by repeat (first | (with_reducible first | exact HB.out | apply below_alloc | apply pw_below_drewN | apply below_drew1 | refine below_set ?_ GE113.out) | exact HB.out))))
       have n3_ := Aside0.mk (blk_below (g := gb113) (o := .cells #[.int .u32 a0_0, .int .u32 a0_1, .int .u8 a0_2, .int .u8 a0_3, .int .u16 a0_4, .bool a0_5] 26 (0, 0)) (by (with_reducible repeat (first | refine blk_drewN ?_ _ | refine blk_drew ?_ | refine blk_alloc ?_ _)); exact BK113.out) hb)
       have n4_ := Aside0.mk (below_step (by repeat (first | (with_reducible first | exact HB.out | apply below_alloc | apply pw_below_drewN | apply below_drew1 | refine below_set ?_ GE113.out) | exact HB.out)) hb)
       have z_HO119 := fun (h0_ : b 1 = true) (h1_ : b 20 = false) => (show Kd.R (Kd.int .u8) 5 w18 w.heap.size (fun k_ => some k_ ≠ (u6 : Value).ownBlock) v118 y117 from by first | exact (Kd.R_elder' (by (with_reducible repeat (first | apply Kd.R_alloc | apply Kd.R_drewN | apply Kd.R_drew)); exact (Q_HO119 h0_ h1_)) (Kd.R_base ho0) hb) | exact Kd.R_mono (Kd.R_elder' (by (with_reducible repeat (first | apply Kd.R_alloc | apply Kd.R_drewN | apply Kd.R_drew)); exact (Q_HO119 h0_ h1_)) (Kd.R_base ho0) hb) (fun _ h_ => by first | trivial | exact h_ | exact h_.1))
       have z_HO128 := fun (h0_ : b 12 = true) (h1_ : b 20 = false) => (show Kd.R (Kd.int .u8) 5 w18 w.heap.size (fun k_ => some k_ ≠ (u6 : Value).ownBlock) v127 y126 from by first | exact (Kd.R_elder' (by (with_reducible repeat (first | apply Kd.R_alloc | apply Kd.R_drewN | apply Kd.R_drew)); exact (Q_HO128 h0_ h1_)) (Kd.R_base ho0) hb) | exact Kd.R_mono (Kd.R_elder' (by (with_reducible repeat (first | apply Kd.R_alloc | apply Kd.R_drewN | apply Kd.R_drew)); exact (Q_HO128 h0_ h1_)) (Kd.R_base ho0) hb) (fun _ h_ => by first | trivial | exact h_ | exact h_.1))
       clear HO_6
       clear HO122
       clear BK113
       clear HB
       have HO_6 := n0_
       have HO122 := n1_
       have HO125 := n2_
       have BK113 := n3_
       have HB := n4_
       clear n0_ n1_ n2_ n3_ n4_
       (try clear hb)
       (try clear hb2)
       (try clear hk)
       (try clear hi)
       (try clear ho0)
       refine hK.out _ _ ⟨v118, v121, v124, v127, v130, v133, v136, v139, m22_, (by rw [ha.out]; exact putSel_upk 4 hb_ rfl rfl rfl), fun _ => (by (with_reducible repeat (first | apply Kd.R_alloc | apply Kd.R_drewN | apply Kd.R_drew)); exact Kd.R_mono HO_6.out (fun _ hk => by first | trivial | exact hk | exact hk.1 | exact hk.2 | exact hk.1.2 | exact hk.1.1 | exact hk.2.1 | exact hk.2.2 | exact hk.1.1.2 | exact hk.1.2.2 | exact hk.1.1.1.2 | exact hk.1.1.1.1.2)), (by (with_reducible repeat (first | refine blk_drewN ?_ _ | refine blk_drew ?_ | refine blk_alloc ?_ _)); exact BK113.out), (by repeat (first | (with_reducible first | exact HB.out | apply below_alloc | apply pw_below_drewN | apply below_drew1 | refine below_set ?_ GE113.out) | exact HB.out)), z_HO119, fun _ _ => (by (with_reducible repeat (first | apply Kd.R_alloc | apply Kd.R_drewN | apply Kd.R_drew)); exact Kd.R_mono HO122.out (fun _ hk => by first | trivial | exact hk | exact hk.1 | exact hk.2 | exact hk.1.2 | exact hk.1.1 | exact hk.2.1 | exact hk.2.2 | exact hk.1.1.2 | exact hk.1.2.2 | exact hk.1.1.1.2 | exact hk.1.1.1.1.2)), fun _ _ => (by (with_reducible repeat (first | apply Kd.R_alloc | apply Kd.R_drewN | apply Kd.R_drew)); exact Kd.R_mono HO125.out (fun _ hk => by first | trivial | exact hk | exact hk.1 | exact hk.2 | exact hk.1.2 | exact hk.1.1 | exact hk.2.1 | exact hk.2.2 | exact hk.1.1.2 | exact hk.1.2.2 | exact hk.1.1.1.2 | exact hk.1.1.1.1.2)), z_HO128, fun h0_ _ => absurd ((hoff 15 (by kernel_rfl)).symm.trans h0_) (by decide), fun h0_ _ => absurd ((hoff 18 (by kernel_rfl)).symm.trans h0_) (by decide), fun h0_ => absurd ((hoff 20 (by kernel_rfl)).symm.trans h0_) (by decide), fun h0_ => absurd ((hoff 21 (by kernel_rfl)).symm.trans h0_) (by decide), fun h0_ => absurd ((hoff 22 (by kernel_rfl)).symm.trans h0_) (by decide)⟩
     refine steps_cons ?_ ?_
     · rintro b a w' ⟨v118, v121, v124, v127, v130, v133, v136, v139, m22_, ha, Q_HO_6, Q_BK113, Q_HB, Q_HO119, Q_HO122, Q_HO125, Q_HO128, Q_HO131, Q_HO134, Q_HO137, Q_HO140, Q_X22_⟩ hb_ hon hoff
       refine ⟨_, rfl, fun K hK => ?_⟩
       have e19 : a.tmps[19]? = some (.pointer (some ⟨gb113, 3, none⟩)) := by rw [ha]; exact (putSel_off rfl).trans rfl
       replace ha := Aside0.mk ha
       have HO_6 := Aside0.mk (Q_HO_6 (hoff 20 (by kernel_rfl)))
       have BK113 := Aside0.mk Q_BK113
       have HB := Aside0.mk Q_HB
       have hc0_ : w'.cell? ⟨gb113, 0, none⟩ = some (.int .u32 a0_0) := (blk_cell BK113.out 0).trans rfl
       have hc1_ : w'.cell? ⟨gb113, 1, none⟩ = some (.int .u32 a0_1) := (blk_cell BK113.out 1).trans rfl
       have hc2_ : w'.cell? ⟨gb113, 2, none⟩ = some (.int .u8 a0_2) := (blk_cell BK113.out 2).trans rfl
       have hc3_ : w'.cell? ⟨gb113, 3, none⟩ = some (.int .u8 a0_3) := (blk_cell BK113.out 3).trans rfl
       have hc4_ : w'.cell? ⟨gb113, 4, none⟩ = some (.int .u16 a0_4) := (blk_cell BK113.out 4).trans rfl
       have hc5_ : w'.cell? ⟨gb113, 5, none⟩ = some (.bool a0_5) := (blk_cell BK113.out 5).trans rfl
       refine value_ (w1 := w') (v := .int .u8 a0_3) (by rfl) rfl ?_ ?_
       · go_simp
         (try simp only [i64_w])
         try rfl
       refine hK.out _ _ ⟨v118, v121, v124, v127, v130, v133, v136, v139, m22_, (by rw [ha.out]; exact putSel_upk 5 hb_ rfl rfl rfl), Q_HO_6, Q_BK113, Q_HB, Q_HO119, Q_HO122, Q_HO125, fun h0_ _ => absurd ((hoff 12 (by kernel_rfl)).symm.trans h0_) (by decide), Q_HO131, Q_HO134, fun h0_ => absurd ((hoff 20 (by kernel_rfl)).symm.trans h0_) (by decide), fun h0_ => absurd ((hoff 21 (by kernel_rfl)).symm.trans h0_) (by decide), fun h0_ => absurd ((hoff 22 (by kernel_rfl)).symm.trans h0_) (by decide)⟩
     refine steps_cons ?_ ?_
     · rintro b a w' ⟨v118, v121, v124, v127, v130, v133, v136, v139, m22_, ha, Q_HO_6, Q_BK113, Q_HB, Q_HO119, Q_HO122, Q_HO125, Q_HO128, Q_HO131, Q_HO134, Q_HO137, Q_HO140, Q_X22_⟩ hb_ hon hoff
       refine ⟨_, rfl, fun K hK => ?_⟩
       have e21 : a.tmps[21]? = some (.pointer (some ⟨gb113, 2, none⟩)) := by rw [ha]; exact (putSel_off rfl).trans rfl
       replace ha := Aside0.mk ha
       have HO_6 := Aside0.mk (Q_HO_6 (hoff 20 (by kernel_rfl)))
       have BK113 := Aside0.mk Q_BK113
       have HB := Aside0.mk Q_HB
       have hc0_ : w'.cell? ⟨gb113, 0, none⟩ = some (.int .u32 a0_0) := (blk_cell BK113.out 0).trans rfl
       have hc1_ : w'.cell? ⟨gb113, 1, none⟩ = some (.int .u32 a0_1) := (blk_cell BK113.out 1).trans rfl
       have hc2_ : w'.cell? ⟨gb113, 2, none⟩ = some (.int .u8 a0_2) := (blk_cell BK113.out 2).trans rfl
       have hc3_ : w'.cell? ⟨gb113, 3, none⟩ = some (.int .u8 a0_3) := (blk_cell BK113.out 3).trans rfl
       have hc4_ : w'.cell? ⟨gb113, 4, none⟩ = some (.int .u16 a0_4) := (blk_cell BK113.out 4).trans rfl
       have hc5_ : w'.cell? ⟨gb113, 5, none⟩ = some (.bool a0_5) := (blk_cell BK113.out 5).trans rfl
       refine value_ (w1 := w') (v := .int .u8 a0_2) (by rfl) rfl ?_ ?_
       · go_simp
         (try simp only [i64_w])
         try rfl
       refine hK.out _ _ ⟨v118, v121, v124, v127, v130, v133, v136, v139, m22_, (by rw [ha.out]; exact putSel_upk 6 hb_ rfl rfl rfl), Q_HO_6, Q_BK113, Q_HB, Q_HO119, Q_HO122, Q_HO125, fun h0_ _ => absurd ((hoff 12 (by kernel_rfl)).symm.trans h0_) (by decide), Q_HO131, Q_HO134, fun h0_ => absurd ((hoff 20 (by kernel_rfl)).symm.trans h0_) (by decide), fun h0_ => absurd ((hoff 21 (by kernel_rfl)).symm.trans h0_) (by decide), fun h0_ => absurd ((hoff 22 (by kernel_rfl)).symm.trans h0_) (by decide)⟩
     refine steps_cons ?_ ?_
     · rintro b a w' ⟨v118, v121, v124, v127, v130, v133, v136, v139, m22_, ha, Q_HO_6, Q_BK113, Q_HB, Q_HO119, Q_HO122, Q_HO125, Q_HO128, Q_HO131, Q_HO134, Q_HO137, Q_HO140, Q_X22_⟩ hb_ hon hoff
       refine ⟨_, rfl, fun K hK => ?_⟩
       have e20 : a.tmps[20]? = some (.int .u8 a0_3) := by rw [ha]; exact putSel_on (e := (9, 20, .int .u8 a0_3)) 5 rfl rfl (hon 9 (by kernel_rfl)) rfl
       have e22 : a.tmps[22]? = some (.int .u8 a0_2) := by rw [ha]; exact putSel_on (e := (11, 22, .int .u8 a0_2)) 6 rfl rfl (hon 11 (by kernel_rfl)) rfl
       replace ha := Aside0.mk ha
       have HO_6 := Aside0.mk (Q_HO_6 (hoff 20 (by kernel_rfl)))
       have BK113 := Aside0.mk Q_BK113
       have HB := Aside0.mk Q_HB
       refine Kd.R_lit_step (Kd.int .u8) _ 5 ?hg (N := 23) ?hd (xs := ([0, 0, a0_3, a0_2, 0, 0] : List Int)) (inner := [.int .u8 0, .int .u8 0, .int .u8 a0_3, .int .u8 a0_2, .int .u8 0, .int .u8 0]) (ok := fun _ => True) (okp := fun _ => True) ?hr ?hp (fun _ hk => hk) trivial (Below.refl _ _) (Nat.le_refl _) (by simp) ?_; (case hd => rfl); (case hg => rfl); (case hr => first | (go_simp; done) | (go_simp; rfl)); (case hp => exact (Reps.one (show Kd.M (Kd.int .u8) _ _ _ 0 [.int .u8 0] from rfl) (Reps.one (show Kd.M (Kd.int .u8) _ _ _ 0 [.int .u8 0] from rfl) (Reps.one (show Kd.M (Kd.int .u8) _ _ _ a0_3 [.int .u8 a0_3] from rfl) (Reps.one (show Kd.M (Kd.int .u8) _ _ _ a0_2 [.int .u8 a0_2] from rfl) (Reps.one (show Kd.M (Kd.int .u8) _ _ _ 0 [.int .u8 0] from rfl) (Reps.one (show Kd.M (Kd.int .u8) _ _ _ 0 [.int .u8 0] from rfl) (Reps.none _ _))))))))
       intro v127 w16 ho17 hb hg_ hnew_
       clear hg_ hnew_
       (first | rw [← Ny126.out] at ho17 | (simp only [Int.reduceToNat] at ho17; rw [← Ny126.out] at ho17))
       have n0_ := Aside0.mk (Kd.R_elder' (by (with_reducible repeat (first | apply Kd.R_alloc | apply Kd.R_drewN | apply Kd.R_drew)); exact HO_6.out) (Kd.R_base ho17) hb)
       have n1_ := Aside0.mk (Kd.R_lower (Kd.R_new' ho17 (Kd.R_lt (by (with_reducible repeat (first | apply Kd.R_alloc | apply Kd.R_drewN | apply Kd.R_drew)); exact HO_6.out))) (below_size (by repeat (first | (with_reducible first | exact HB.out | apply below_alloc | apply pw_below_drewN | apply below_drew1 | refine below_set ?_ GE113.out) | exact HB.out))))
       have n2_ := Aside0.mk (blk_below (g := gb113) (o := .cells #[.int .u32 a0_0, .int .u32 a0_1, .int .u8 a0_2, .int .u8 a0_3, .int .u16 a0_4, .bool a0_5] 26 (0, 0)) (by (with_reducible repeat (first | refine blk_drewN ?_ _ | refine blk_drew ?_ | refine blk_alloc ?_ _)); exact BK113.out) hb)
       have n3_ := Aside0.mk (below_step (by repeat (first | (with_reducible first | exact HB.out | apply below_alloc | apply pw_below_drewN | apply below_drew1 | refine below_set ?_ GE113.out) | exact HB.out)) hb)
       have z_HO119 := fun (h0_ : b 1 = true) (h1_ : b 20 = false) => (show Kd.R (Kd.int .u8) 5 w16 w.heap.size (fun k_ => some k_ ≠ (u6 : Value).ownBlock) v118 y117 from by first | exact (Kd.R_elder' (by (with_reducible repeat (first | apply Kd.R_alloc | apply Kd.R_drewN | apply Kd.R_drew)); exact (Q_HO119 h0_ h1_)) (Kd.R_base ho17) hb) | exact Kd.R_mono (Kd.R_elder' (by (with_reducible repeat (first | apply Kd.R_alloc | apply Kd.R_drewN | apply Kd.R_drew)); exact (Q_HO119 h0_ h1_)) (Kd.R_base ho17) hb) (fun _ h_ => by first | trivial | exact h_ | exact h_.1))
       have z_HO122 := fun (h0_ : b 3 = true) (h1_ : b 20 = false) => (show Kd.R (Kd.int .u8) 5 w16 w.heap.size (fun k_ => some k_ ≠ (u6 : Value).ownBlock) v121 t120 from by first | exact (Kd.R_elder' (by (with_reducible repeat (first | apply Kd.R_alloc | apply Kd.R_drewN | apply Kd.R_drew)); exact (Q_HO122 h0_ h1_)) (Kd.R_base ho17) hb) | exact Kd.R_mono (Kd.R_elder' (by (with_reducible repeat (first | apply Kd.R_alloc | apply Kd.R_drewN | apply Kd.R_drew)); exact (Q_HO122 h0_ h1_)) (Kd.R_base ho17) hb) (fun _ h_ => by first | trivial | exact h_ | exact h_.1))
       have z_HO125 := fun (h0_ : b 7 = true) (h1_ : b 20 = false) => (show Kd.R (Kd.int .u8) 5 w16 w.heap.size (fun k_ => some k_ ≠ (u6 : Value).ownBlock) v124 t123 from by first | exact (Kd.R_elder' (by (with_reducible repeat (first | apply Kd.R_alloc | apply Kd.R_drewN | apply Kd.R_drew)); exact (Q_HO125 h0_ h1_)) (Kd.R_base ho17) hb) | exact Kd.R_mono (Kd.R_elder' (by (with_reducible repeat (first | apply Kd.R_alloc | apply Kd.R_drewN | apply Kd.R_drew)); exact (Q_HO125 h0_ h1_)) (Kd.R_base ho17) hb) (fun _ h_ => by first | trivial | exact h_ | exact h_.1))
       have z_HO131 := fun (h0_ : b 15 = true) (h1_ : b 20 = false) => (show Kd.R (Kd.int .u8) 5 w16 w.heap.size (fun k_ => some k_ ≠ (u6 : Value).ownBlock) v130 t129 from by first | exact (Kd.R_elder' (by (with_reducible repeat (first | apply Kd.R_alloc | apply Kd.R_drewN | apply Kd.R_drew)); exact (Q_HO131 h0_ h1_)) (Kd.R_base ho17) hb) | exact Kd.R_mono (Kd.R_elder' (by (with_reducible repeat (first | apply Kd.R_alloc | apply Kd.R_drewN | apply Kd.R_drew)); exact (Q_HO131 h0_ h1_)) (Kd.R_base ho17) hb) (fun _ h_ => by first | trivial | exact h_ | exact h_.1))
       have z_HO134 := fun (h0_ : b 18 = true) (h1_ : b 20 = false) => (show Kd.R (Kd.int .u8) 5 w16 w.heap.size (fun k_ => some k_ ≠ (u6 : Value).ownBlock) v133 t132 from by first | exact (Kd.R_elder' (by (with_reducible repeat (first | apply Kd.R_alloc | apply Kd.R_drewN | apply Kd.R_drew)); exact (Q_HO134 h0_ h1_)) (Kd.R_base ho17) hb) | exact Kd.R_mono (Kd.R_elder' (by (with_reducible repeat (first | apply Kd.R_alloc | apply Kd.R_drewN | apply Kd.R_drew)); exact (Q_HO134 h0_ h1_)) (Kd.R_base ho17) hb) (fun _ h_ => by first | trivial | exact h_ | exact h_.1))
       clear HO_6
       clear BK113
       clear HB
       have HO_6 := n0_
       have HO128 := n1_
       have BK113 := n2_
       have HB := n3_
       clear n0_ n1_ n2_ n3_
       clear hb ho17
       refine hK.out _ _ ⟨v118, v121, v124, v127, v130, v133, v136, v139, m22_, (by rw [ha.out]; exact putSel_upk 7 hb_ rfl rfl rfl), fun _ => (by (with_reducible repeat (first | apply Kd.R_alloc | apply Kd.R_drewN | apply Kd.R_drew)); exact Kd.R_mono HO_6.out (fun _ hk => by first | trivial | exact hk | exact hk.1 | exact hk.2 | exact hk.1.2 | exact hk.1.1 | exact hk.2.1 | exact hk.2.2 | exact hk.1.1.2 | exact hk.1.2.2 | exact hk.1.1.1.2 | exact hk.1.1.1.1.2)), (by (with_reducible repeat (first | refine blk_drewN ?_ _ | refine blk_drew ?_ | refine blk_alloc ?_ _)); exact BK113.out), (by repeat (first | (with_reducible first | exact HB.out | apply below_alloc | apply pw_below_drewN | apply below_drew1 | refine below_set ?_ GE113.out) | exact HB.out)), z_HO119, z_HO122, z_HO125, fun _ _ => (by (with_reducible repeat (first | apply Kd.R_alloc | apply Kd.R_drewN | apply Kd.R_drew)); exact Kd.R_mono HO128.out (fun _ hk => by first | trivial | exact hk | exact hk.1 | exact hk.2 | exact hk.1.2 | exact hk.1.1 | exact hk.2.1 | exact hk.2.2 | exact hk.1.1.2 | exact hk.1.2.2 | exact hk.1.1.1.2 | exact hk.1.1.1.1.2)), z_HO131, z_HO134, fun h0_ => absurd ((hoff 20 (by kernel_rfl)).symm.trans h0_) (by decide), fun h0_ => absurd ((hoff 21 (by kernel_rfl)).symm.trans h0_) (by decide), fun h0_ => absurd ((hoff 22 (by kernel_rfl)).symm.trans h0_) (by decide)⟩
     refine steps_cons ?_ ?_
     · rintro b a w' ⟨v118, v121, v124, v127, v130, v133, v136, v139, m22_, ha, Q_HO_6, Q_BK113, Q_HB, Q_HO119, Q_HO122, Q_HO125, Q_HO128, Q_HO131, Q_HO134, Q_HO137, Q_HO140, Q_X22_⟩ hb_ hon hoff
       refine ⟨_, rfl, fun K hK => ?_⟩
       have e24 : a.tmps[24]? = some (.pointer (some ⟨gb113, 0, none⟩)) := by rw [ha]; exact (putSel_off rfl).trans rfl
       replace ha := Aside0.mk ha
       have HO_6 := Aside0.mk (Q_HO_6 (hoff 20 (by kernel_rfl)))
       have BK113 := Aside0.mk Q_BK113
       have HB := Aside0.mk Q_HB
       have hc0_ : w'.cell? ⟨gb113, 0, none⟩ = some (.int .u32 a0_0) := (blk_cell BK113.out 0).trans rfl
       have hc1_ : w'.cell? ⟨gb113, 1, none⟩ = some (.int .u32 a0_1) := (blk_cell BK113.out 1).trans rfl
       have hc2_ : w'.cell? ⟨gb113, 2, none⟩ = some (.int .u8 a0_2) := (blk_cell BK113.out 2).trans rfl
       have hc3_ : w'.cell? ⟨gb113, 3, none⟩ = some (.int .u8 a0_3) := (blk_cell BK113.out 3).trans rfl
       have hc4_ : w'.cell? ⟨gb113, 4, none⟩ = some (.int .u16 a0_4) := (blk_cell BK113.out 4).trans rfl
       have hc5_ : w'.cell? ⟨gb113, 5, none⟩ = some (.bool a0_5) := (blk_cell BK113.out 5).trans rfl
       refine value_ (w1 := w') (v := .int .u32 a0_0) (by rfl) rfl ?_ ?_
       · go_simp
         (try simp only [i64_w])
         try rfl
       refine hK.out _ _ ⟨v118, v121, v124, v127, v130, v133, v136, v139, m22_, (by rw [ha.out]; exact putSel_upk 8 hb_ rfl rfl rfl), Q_HO_6, Q_BK113, Q_HB, Q_HO119, Q_HO122, Q_HO125, Q_HO128, fun h0_ _ => absurd ((hoff 15 (by kernel_rfl)).symm.trans h0_) (by decide), fun h0_ _ => absurd ((hoff 18 (by kernel_rfl)).symm.trans h0_) (by decide), fun h0_ => absurd ((hoff 20 (by kernel_rfl)).symm.trans h0_) (by decide), fun h0_ => absurd ((hoff 21 (by kernel_rfl)).symm.trans h0_) (by decide), fun h0_ => absurd ((hoff 22 (by kernel_rfl)).symm.trans h0_) (by decide)⟩
     refine steps_cons ?_ ?_
     · rintro b a w' ⟨v118, v121, v124, v127, v130, v133, v136, v139, m22_, ha, Q_HO_6, Q_BK113, Q_HB, Q_HO119, Q_HO122, Q_HO125, Q_HO128, Q_HO131, Q_HO134, Q_HO137, Q_HO140, Q_X22_⟩ hb_ hon hoff
       refine ⟨_, rfl, fun K hK => ?_⟩
       have e25 : a.tmps[25]? = some (.int .u32 a0_0) := by rw [ha]; exact putSel_on (e := (14, 25, .int .u32 a0_0)) 8 rfl rfl (hon 14 (by kernel_rfl)) rfl
       replace ha := Aside0.mk ha
       have HO_6 := Aside0.mk (Q_HO_6 (hoff 20 (by kernel_rfl)))
       have BK113 := Aside0.mk Q_BK113
       have HB := Aside0.mk Q_HB
       have HO122 := Aside0.mk (Q_HO122 (hon 3 (by kernel_rfl)) (hoff 20 (by kernel_rfl)))
       have HO125 := Aside0.mk (Q_HO125 (hon 7 (by kernel_rfl)) (hoff 20 (by kernel_rfl)))
       refine goes_ Try.func32 (by kernel_rfl) rfl #[.int .u32 a0_0] (by rfl) rfl rfl (by first | (simp only [List.map_toArray, List.map_cons, List.map_nil, Act.eval, Array.getD_eq_getD_getElem?, Option.getD_some, e25]; done) | (simp only [List.map_toArray, List.map_cons, List.map_nil, Act.eval, Array.getD_eq_getD_getElem?, Option.getD_some, e25]; rfl)) ?_
       with_reducible refine (addr_Bytes.calls kj2 a0_0 t129 _ A11.out).mono ?_
       rintro e w19 ⟨v130, rfl, ho0, hb⟩
       refine ⟨_, rfl, ?_⟩
       have n0_ := Aside0.mk (Kd.R_elder' (by (with_reducible repeat (first | apply Kd.R_alloc | apply Kd.R_drewN | apply Kd.R_drew)); exact HO_6.out) (Kd.R_base ho0) hb)
       have n1_ := Aside0.mk (Kd.R_elder' (by (with_reducible repeat (first | apply Kd.R_alloc | apply Kd.R_drewN | apply Kd.R_drew)); exact HO122.out) (Kd.R_base ho0) hb)
       have n2_ := Aside0.mk (Kd.R_elder' (by (with_reducible repeat (first | apply Kd.R_alloc | apply Kd.R_drewN | apply Kd.R_drew)); exact HO125.out) (Kd.R_base ho0) hb)
       have n3_ := Aside0.mk (Kd.R_lower (Kd.R_new' (Kd.R_new' (Kd.R_new' ho0 (Kd.R_lt (by (with_reducible repeat (first | apply Kd.R_alloc | apply Kd.R_drewN | apply Kd.R_drew)); exact HO_6.out))) (Kd.R_lt (by (with_reducible repeat (first | apply Kd.R_alloc | apply Kd.R_drewN | apply Kd.R_drew)); exact HO122.out))) (Kd.R_lt (by (with_reducible repeat (first | apply Kd.R_alloc | apply Kd.R_drewN | apply Kd.R_drew)); exact HO125.out))) (below_size (by repeat (first | (with_reducible first | exact HB.out | apply below_alloc | apply pw_below_drewN | apply below_drew1 | refine below_set ?_ GE113.out) | exact HB.out))))
       have n4_ := Aside0.mk (blk_below (g := gb113) (o := .cells #[.int .u32 a0_0, .int .u32 a0_1, .int .u8 a0_2, .int .u8 a0_3, .int .u16 a0_4, .bool a0_5] 26 (0, 0)) (by (with_reducible repeat (first | refine blk_drewN ?_ _ | refine blk_drew ?_ | refine blk_alloc ?_ _)); exact BK113.out) hb)
       have n5_ := Aside0.mk (below_step (by repeat (first | (with_reducible first | exact HB.out | apply below_alloc | apply pw_below_drewN | apply below_drew1 | refine below_set ?_ GE113.out) | exact HB.out)) hb)
       have z_HO119 := fun (h0_ : b 1 = true) (h1_ : b 20 = false) => (show Kd.R (Kd.int .u8) 5 w19 w.heap.size (fun k_ => some k_ ≠ (u6 : Value).ownBlock) v118 y117 from by first | exact (Kd.R_elder' (by (with_reducible repeat (first | apply Kd.R_alloc | apply Kd.R_drewN | apply Kd.R_drew)); exact (Q_HO119 h0_ h1_)) (Kd.R_base ho0) hb) | exact Kd.R_mono (Kd.R_elder' (by (with_reducible repeat (first | apply Kd.R_alloc | apply Kd.R_drewN | apply Kd.R_drew)); exact (Q_HO119 h0_ h1_)) (Kd.R_base ho0) hb) (fun _ h_ => by first | trivial | exact h_ | exact h_.1))
       have z_HO128 := fun (h0_ : b 12 = true) (h1_ : b 20 = false) => (show Kd.R (Kd.int .u8) 5 w19 w.heap.size (fun k_ => some k_ ≠ (u6 : Value).ownBlock) v127 y126 from by first | exact (Kd.R_elder' (by (with_reducible repeat (first | apply Kd.R_alloc | apply Kd.R_drewN | apply Kd.R_drew)); exact (Q_HO128 h0_ h1_)) (Kd.R_base ho0) hb) | exact Kd.R_mono (Kd.R_elder' (by (with_reducible repeat (first | apply Kd.R_alloc | apply Kd.R_drewN | apply Kd.R_drew)); exact (Q_HO128 h0_ h1_)) (Kd.R_base ho0) hb) (fun _ h_ => by first | trivial | exact h_ | exact h_.1))
       clear HO_6
       clear HO122
       clear HO125
       clear BK113
       clear HB
       have HO_6 := n0_
       have HO122 := n1_
       have HO125 := n2_
       have HO131 := n3_
       have BK113 := n4_
       have HB := n5_
       clear n0_ n1_ n2_ n3_ n4_ n5_
       (try clear hb)
       (try clear hb2)
       (try clear hk)
       (try clear hi)
       (try clear ho0)
       refine hK.out _ _ ⟨v118, v121, v124, v127, v130, v133, v136, v139, m22_, (by rw [ha.out]; exact putSel_upk 9 hb_ rfl rfl rfl), fun _ => (by (with_reducible repeat (first | apply Kd.R_alloc | apply Kd.R_drewN | apply Kd.R_drew)); exact Kd.R_mono HO_6.out (fun _ hk => by first | trivial | exact hk | exact hk.1 | exact hk.2 | exact hk.1.2 | exact hk.1.1 | exact hk.2.1 | exact hk.2.2 | exact hk.1.1.2 | exact hk.1.2.2 | exact hk.1.1.1.2 | exact hk.1.1.1.1.2)), (by (with_reducible repeat (first | refine blk_drewN ?_ _ | refine blk_drew ?_ | refine blk_alloc ?_ _)); exact BK113.out), (by repeat (first | (with_reducible first | exact HB.out | apply below_alloc | apply pw_below_drewN | apply below_drew1 | refine below_set ?_ GE113.out) | exact HB.out)), z_HO119, fun _ _ => (by (with_reducible repeat (first | apply Kd.R_alloc | apply Kd.R_drewN | apply Kd.R_drew)); exact Kd.R_mono HO122.out (fun _ hk => by first | trivial | exact hk | exact hk.1 | exact hk.2 | exact hk.1.2 | exact hk.1.1 | exact hk.2.1 | exact hk.2.2 | exact hk.1.1.2 | exact hk.1.2.2 | exact hk.1.1.1.2 | exact hk.1.1.1.1.2)), fun _ _ => (by (with_reducible repeat (first | apply Kd.R_alloc | apply Kd.R_drewN | apply Kd.R_drew)); exact Kd.R_mono HO125.out (fun _ hk => by first | trivial | exact hk | exact hk.1 | exact hk.2 | exact hk.1.2 | exact hk.1.1 | exact hk.2.1 | exact hk.2.2 | exact hk.1.1.2 | exact hk.1.2.2 | exact hk.1.1.1.2 | exact hk.1.1.1.1.2)), z_HO128, fun _ _ => (by (with_reducible repeat (first | apply Kd.R_alloc | apply Kd.R_drewN | apply Kd.R_drew)); exact Kd.R_mono HO131.out (fun _ hk => by first | trivial | exact hk | exact hk.1 | exact hk.2 | exact hk.1.2 | exact hk.1.1 | exact hk.2.1 | exact hk.2.2 | exact hk.1.1.2 | exact hk.1.2.2 | exact hk.1.1.1.2 | exact hk.1.1.1.1.2)), fun h0_ _ => absurd ((hoff 18 (by kernel_rfl)).symm.trans h0_) (by decide), fun h0_ => absurd ((hoff 20 (by kernel_rfl)).symm.trans h0_) (by decide), fun h0_ => absurd ((hoff 21 (by kernel_rfl)).symm.trans h0_) (by decide), fun h0_ => absurd ((hoff 22 (by kernel_rfl)).symm.trans h0_) (by decide)⟩
     refine steps_cons ?_ ?_
     · rintro b a w' ⟨v118, v121, v124, v127, v130, v133, v136, v139, m22_, ha, Q_HO_6, Q_BK113, Q_HB, Q_HO119, Q_HO122, Q_HO125, Q_HO128, Q_HO131, Q_HO134, Q_HO137, Q_HO140, Q_X22_⟩ hb_ hon hoff
       refine ⟨_, rfl, fun K hK => ?_⟩
       have e27 : a.tmps[27]? = some (.pointer (some ⟨gb113, 1, none⟩)) := by rw [ha]; exact (putSel_off rfl).trans rfl
       replace ha := Aside0.mk ha
       have HO_6 := Aside0.mk (Q_HO_6 (hoff 20 (by kernel_rfl)))
       have BK113 := Aside0.mk Q_BK113
       have HB := Aside0.mk Q_HB
       have hc0_ : w'.cell? ⟨gb113, 0, none⟩ = some (.int .u32 a0_0) := (blk_cell BK113.out 0).trans rfl
       have hc1_ : w'.cell? ⟨gb113, 1, none⟩ = some (.int .u32 a0_1) := (blk_cell BK113.out 1).trans rfl
       have hc2_ : w'.cell? ⟨gb113, 2, none⟩ = some (.int .u8 a0_2) := (blk_cell BK113.out 2).trans rfl
       have hc3_ : w'.cell? ⟨gb113, 3, none⟩ = some (.int .u8 a0_3) := (blk_cell BK113.out 3).trans rfl
       have hc4_ : w'.cell? ⟨gb113, 4, none⟩ = some (.int .u16 a0_4) := (blk_cell BK113.out 4).trans rfl
       have hc5_ : w'.cell? ⟨gb113, 5, none⟩ = some (.bool a0_5) := (blk_cell BK113.out 5).trans rfl
       refine value_ (w1 := w') (v := .int .u32 a0_1) (by rfl) rfl ?_ ?_
       · go_simp
         (try simp only [i64_w])
         try rfl
       refine hK.out _ _ ⟨v118, v121, v124, v127, v130, v133, v136, v139, m22_, (by rw [ha.out]; exact putSel_upk 10 hb_ rfl rfl rfl), Q_HO_6, Q_BK113, Q_HB, Q_HO119, Q_HO122, Q_HO125, Q_HO128, Q_HO131, fun h0_ _ => absurd ((hoff 18 (by kernel_rfl)).symm.trans h0_) (by decide), fun h0_ => absurd ((hoff 20 (by kernel_rfl)).symm.trans h0_) (by decide), fun h0_ => absurd ((hoff 21 (by kernel_rfl)).symm.trans h0_) (by decide), fun h0_ => absurd ((hoff 22 (by kernel_rfl)).symm.trans h0_) (by decide)⟩
     refine steps_cons ?_ ?_
     · rintro b a w' ⟨v118, v121, v124, v127, v130, v133, v136, v139, m22_, ha, Q_HO_6, Q_BK113, Q_HB, Q_HO119, Q_HO122, Q_HO125, Q_HO128, Q_HO131, Q_HO134, Q_HO137, Q_HO140, Q_X22_⟩ hb_ hon hoff
       refine ⟨_, rfl, fun K hK => ?_⟩
       have e28 : a.tmps[28]? = some (.int .u32 a0_1) := by rw [ha]; exact putSel_on (e := (17, 28, .int .u32 a0_1)) 10 rfl rfl (hon 17 (by kernel_rfl)) rfl
       replace ha := Aside0.mk ha
       have HO_6 := Aside0.mk (Q_HO_6 (hoff 20 (by kernel_rfl)))
       have BK113 := Aside0.mk Q_BK113
       have HB := Aside0.mk Q_HB
       have HO122 := Aside0.mk (Q_HO122 (hon 3 (by kernel_rfl)) (hoff 20 (by kernel_rfl)))
       have HO125 := Aside0.mk (Q_HO125 (hon 7 (by kernel_rfl)) (hoff 20 (by kernel_rfl)))
       have HO131 := Aside0.mk (Q_HO131 (hon 15 (by kernel_rfl)) (hoff 20 (by kernel_rfl)))
       refine goes_ Try.func32 (by kernel_rfl) rfl #[.int .u32 a0_1] (by rfl) rfl rfl (by first | (simp only [List.map_toArray, List.map_cons, List.map_nil, Act.eval, Array.getD_eq_getD_getElem?, Option.getD_some, e28]; done) | (simp only [List.map_toArray, List.map_cons, List.map_nil, Act.eval, Array.getD_eq_getD_getElem?, Option.getD_some, e28]; rfl)) ?_
       with_reducible refine (addr_Bytes.calls kj2 a0_1 t132 _ A12.out).mono ?_
       rintro e w20 ⟨v133, rfl, ho0, hb⟩
       refine ⟨_, rfl, ?_⟩
       have n0_ := Aside0.mk (Kd.R_elder' (by (with_reducible repeat (first | apply Kd.R_alloc | apply Kd.R_drewN | apply Kd.R_drew)); exact HO_6.out) (Kd.R_base ho0) hb)
       have n1_ := Aside0.mk (Kd.R_elder' (by (with_reducible repeat (first | apply Kd.R_alloc | apply Kd.R_drewN | apply Kd.R_drew)); exact HO122.out) (Kd.R_base ho0) hb)
       have n2_ := Aside0.mk (Kd.R_elder' (by (with_reducible repeat (first | apply Kd.R_alloc | apply Kd.R_drewN | apply Kd.R_drew)); exact HO125.out) (Kd.R_base ho0) hb)
       have n3_ := Aside0.mk (Kd.R_elder' (by (with_reducible repeat (first | apply Kd.R_alloc | apply Kd.R_drewN | apply Kd.R_drew)); exact HO131.out) (Kd.R_base ho0) hb)
       have n4_ := Aside0.mk (Kd.R_lower (Kd.R_new' (Kd.R_new' (Kd.R_new' (Kd.R_new' ho0 (Kd.R_lt (by (with_reducible repeat (first | apply Kd.R_alloc | apply Kd.R_drewN | apply Kd.R_drew)); exact HO_6.out))) (Kd.R_lt (by (with_reducible repeat (first | apply Kd.R_alloc | apply Kd.R_drewN | apply Kd.R_drew)); exact HO122.out))) (Kd.R_lt (by (with_reducible repeat (first | apply Kd.R_alloc | apply Kd.R_drewN | apply Kd.R_drew)); exact HO125.out))) (Kd.R_lt (by (with_reducible repeat (first | apply Kd.R_alloc | apply Kd.R_drewN | apply Kd.R_drew)); exact HO131.out))) (below_size (by repeat (first | (with_reducible first | exact HB.out | apply below_alloc | apply pw_below_drewN | apply below_drew1 | refine below_set ?_ GE113.out) | exact HB.out))))
       have n5_ := Aside0.mk (blk_below (g := gb113) (o := .cells #[.int .u32 a0_0, .int .u32 a0_1, .int .u8 a0_2, .int .u8 a0_3, .int .u16 a0_4, .bool a0_5] 26 (0, 0)) (by (with_reducible repeat (first | refine blk_drewN ?_ _ | refine blk_drew ?_ | refine blk_alloc ?_ _)); exact BK113.out) hb)
       have n6_ := Aside0.mk (below_step (by repeat (first | (with_reducible first | exact HB.out | apply below_alloc | apply pw_below_drewN | apply below_drew1 | refine below_set ?_ GE113.out) | exact HB.out)) hb)
       have z_HO119 := fun (h0_ : b 1 = true) (h1_ : b 20 = false) => (show Kd.R (Kd.int .u8) 5 w20 w.heap.size (fun k_ => some k_ ≠ (u6 : Value).ownBlock) v118 y117 from by first | exact (Kd.R_elder' (by (with_reducible repeat (first | apply Kd.R_alloc | apply Kd.R_drewN | apply Kd.R_drew)); exact (Q_HO119 h0_ h1_)) (Kd.R_base ho0) hb) | exact Kd.R_mono (Kd.R_elder' (by (with_reducible repeat (first | apply Kd.R_alloc | apply Kd.R_drewN | apply Kd.R_drew)); exact (Q_HO119 h0_ h1_)) (Kd.R_base ho0) hb) (fun _ h_ => by first | trivial | exact h_ | exact h_.1))
       have z_HO128 := fun (h0_ : b 12 = true) (h1_ : b 20 = false) => (show Kd.R (Kd.int .u8) 5 w20 w.heap.size (fun k_ => some k_ ≠ (u6 : Value).ownBlock) v127 y126 from by first | exact (Kd.R_elder' (by (with_reducible repeat (first | apply Kd.R_alloc | apply Kd.R_drewN | apply Kd.R_drew)); exact (Q_HO128 h0_ h1_)) (Kd.R_base ho0) hb) | exact Kd.R_mono (Kd.R_elder' (by (with_reducible repeat (first | apply Kd.R_alloc | apply Kd.R_drewN | apply Kd.R_drew)); exact (Q_HO128 h0_ h1_)) (Kd.R_base ho0) hb) (fun _ h_ => by first | trivial | exact h_ | exact h_.1))
       clear HO_6
       clear HO122
       clear HO125
       clear HO131
       clear BK113
       clear HB
       have HO_6 := n0_
       have HO122 := n1_
       have HO125 := n2_
       have HO131 := n3_
       have HO134 := n4_
       have BK113 := n5_
       have HB := n6_
       clear n0_ n1_ n2_ n3_ n4_ n5_ n6_
       (try clear hb)
       (try clear hb2)
       (try clear hk)
       (try clear hi)
       (try clear ho0)
       refine hK.out _ _ ⟨v118, v121, v124, v127, v130, v133, v136, v139, m22_, (by rw [ha.out]; exact putSel_upk 11 hb_ rfl rfl rfl), fun _ => (by (with_reducible repeat (first | apply Kd.R_alloc | apply Kd.R_drewN | apply Kd.R_drew)); exact Kd.R_mono HO_6.out (fun _ hk => by first | trivial | exact hk | exact hk.1 | exact hk.2 | exact hk.1.2 | exact hk.1.1 | exact hk.2.1 | exact hk.2.2 | exact hk.1.1.2 | exact hk.1.2.2 | exact hk.1.1.1.2 | exact hk.1.1.1.1.2)), (by (with_reducible repeat (first | refine blk_drewN ?_ _ | refine blk_drew ?_ | refine blk_alloc ?_ _)); exact BK113.out), (by repeat (first | (with_reducible first | exact HB.out | apply below_alloc | apply pw_below_drewN | apply below_drew1 | refine below_set ?_ GE113.out) | exact HB.out)), z_HO119, fun _ _ => (by (with_reducible repeat (first | apply Kd.R_alloc | apply Kd.R_drewN | apply Kd.R_drew)); exact Kd.R_mono HO122.out (fun _ hk => by first | trivial | exact hk | exact hk.1 | exact hk.2 | exact hk.1.2 | exact hk.1.1 | exact hk.2.1 | exact hk.2.2 | exact hk.1.1.2 | exact hk.1.2.2 | exact hk.1.1.1.2 | exact hk.1.1.1.1.2)), fun _ _ => (by (with_reducible repeat (first | apply Kd.R_alloc | apply Kd.R_drewN | apply Kd.R_drew)); exact Kd.R_mono HO125.out (fun _ hk => by first | trivial | exact hk | exact hk.1 | exact hk.2 | exact hk.1.2 | exact hk.1.1 | exact hk.2.1 | exact hk.2.2 | exact hk.1.1.2 | exact hk.1.2.2 | exact hk.1.1.1.2 | exact hk.1.1.1.1.2)), z_HO128, fun _ _ => (by (with_reducible repeat (first | apply Kd.R_alloc | apply Kd.R_drewN | apply Kd.R_drew)); exact Kd.R_mono HO131.out (fun _ hk => by first | trivial | exact hk | exact hk.1 | exact hk.2 | exact hk.1.2 | exact hk.1.1 | exact hk.2.1 | exact hk.2.2 | exact hk.1.1.2 | exact hk.1.2.2 | exact hk.1.1.1.2 | exact hk.1.1.1.1.2)), fun _ _ => (by (with_reducible repeat (first | apply Kd.R_alloc | apply Kd.R_drewN | apply Kd.R_drew)); exact Kd.R_mono HO134.out (fun _ hk => by first | trivial | exact hk | exact hk.1 | exact hk.2 | exact hk.1.2 | exact hk.1.1 | exact hk.2.1 | exact hk.2.2 | exact hk.1.1.2 | exact hk.1.2.2 | exact hk.1.1.1.2 | exact hk.1.1.1.1.2)), fun h0_ => absurd ((hoff 20 (by kernel_rfl)).symm.trans h0_) (by decide), fun h0_ => absurd ((hoff 21 (by kernel_rfl)).symm.trans h0_) (by decide), fun h0_ => absurd ((hoff 22 (by kernel_rfl)).symm.trans h0_) (by decide)⟩
     refine steps_cons ?_ ?_
     · rintro b a w' ⟨v118, v121, v124, v127, v130, v133, v136, v139, m22_, ha, Q_HO_6, Q_BK113, Q_HB, Q_HO119, Q_HO122, Q_HO125, Q_HO128, Q_HO131, Q_HO134, Q_HO137, Q_HO140, Q_X22_⟩ hb_ hon hoff
       refine ⟨_, rfl, fun K hK => ?_⟩
       have e12 : a.tmps[12]? = some (v118) := by rw [ha]; exact putSel_on (e := (1, 12, v118)) 0 rfl rfl (hon 1 (by kernel_rfl)) rfl
       have e14 : a.tmps[14]? = some (v121) := by rw [ha]; exact putSel_on (e := (3, 14, v121)) 1 rfl rfl (hon 3 (by kernel_rfl)) rfl
       have e18 : a.tmps[18]? = some (v124) := by rw [ha]; exact putSel_on (e := (7, 18, v124)) 4 rfl rfl (hon 7 (by kernel_rfl)) rfl
       have e23 : a.tmps[23]? = some (v127) := by rw [ha]; exact putSel_on (e := (12, 23, v127)) 7 rfl rfl (hon 12 (by kernel_rfl)) rfl
       have e26 : a.tmps[26]? = some (v130) := by rw [ha]; exact putSel_on (e := (15, 26, v130)) 9 rfl rfl (hon 15 (by kernel_rfl)) rfl
       have e29 : a.tmps[29]? = some (v133) := by rw [ha]; exact putSel_on (e := (18, 29, v133)) 11 rfl rfl (hon 18 (by kernel_rfl)) rfl
       have e30 : a.tmps[30]? = some u6 := by rw [ha]; exact (putSel_off rfl).trans rfl
       replace ha := Aside0.mk ha
       have HO_6 := Aside0.mk (Q_HO_6 hb_)
       have BK113 := Aside0.mk Q_BK113
       have HB := Aside0.mk Q_HB
       have HO119 := Aside0.mk (Q_HO119 (hon 1 (by kernel_rfl)) hb_)
       have HO122 := Aside0.mk (Q_HO122 (hon 3 (by kernel_rfl)) hb_)
       have HO125 := Aside0.mk (Q_HO125 (hon 7 (by kernel_rfl)) hb_)
       have HO128 := Aside0.mk (Q_HO128 (hon 12 (by kernel_rfl)) hb_)
       have HO131 := Aside0.mk (Q_HO131 (hon 15 (by kernel_rfl)) hb_)
       have HO134 := Aside0.mk (Q_HO134 (hon 18 (by kernel_rfl)) hb_)
       obtain ⟨Ao25, co25, eo25⟩ := Kd.R_slice HO119.out
       (first | subst eo25 | (injection eo25 with f1_ f2_ f3_; have f4_ := f1_.symm; have f5_ := f3_.symm; clear f1_ f2_ f3_; subst f4_; subst f5_))
       obtain ⟨Ao26, co26, eo26⟩ := Kd.R_slice HO122.out
       (first | subst eo26 | (injection eo26 with f1_ f2_ f3_; have f4_ := f1_.symm; have f5_ := f3_.symm; clear f1_ f2_ f3_; subst f4_; subst f5_))
       obtain ⟨Ao27, co27, eo27⟩ := Kd.R_slice HO125.out
       (first | subst eo27 | (injection eo27 with f1_ f2_ f3_; have f4_ := f1_.symm; have f5_ := f3_.symm; clear f1_ f2_ f3_; subst f4_; subst f5_))
       obtain ⟨Ao28, co28, eo28⟩ := Kd.R_slice HO128.out
       (first | subst eo28 | (injection eo28 with f1_ f2_ f3_; have f4_ := f1_.symm; have f5_ := f3_.symm; clear f1_ f2_ f3_; subst f4_; subst f5_))
       obtain ⟨Ao29, co29, eo29⟩ := Kd.R_slice HO131.out
       (first | subst eo29 | (injection eo29 with f1_ f2_ f3_; have f4_ := f1_.symm; have f5_ := f3_.symm; clear f1_ f2_ f3_; subst f4_; subst f5_))
       obtain ⟨Ao30, co30, eo30⟩ := Kd.R_slice HO134.out
       (first | subst eo30 | (injection eo30 with f1_ f2_ f3_; have f4_ := f1_.symm; have f5_ := f3_.symm; clear f1_ f2_ f3_; subst f4_; subst f5_))
       obtain ⟨Ao31, co31, eo31⟩ := Kd.R_slice HO_6.out
       (first | subst eo31 | (injection eo31 with f1_ f2_ f3_; have f4_ := f1_.symm; have f5_ := f3_.symm; clear f1_ f2_ f3_; subst f4_; subst f5_))
       refine Kd.N_lit_step (Kd.slice 5 (Kd.int .u8)) _ 27 ?hg (N' := 31) ?hd (xs := ([y117, t120, t123, y126, t129, t132, x6_2] : List (List Int))) (inner := [.slice Ao25 y117.length co25, .slice Ao26 t120.length co26, .slice Ao27 t123.length co27, .slice Ao28 y126.length co28, .slice Ao29 t129.length co29, .slice Ao30 t132.length co30, .slice Ao31 x6_2.length co31]) (ok := (fun k_ => k_ ≠ gb113)) (okp := (fun k_ => k_ ≠ gb113)) ?hr ?hp (fun _ hk => hk) ((show ∀ k_, w'.heap.size ≤ k_ → (fun k_ => k_ ≠ gb113) k_ from fun k_ hk => Kd.freshB (g := gb113) (o := .cells #[.int .u32 a0_0, .int .u32 a0_1, .int .u8 a0_2, .int .u8 a0_3, .int .u16 a0_4, .bool a0_5] 26 (0, 0)) (by (with_reducible repeat (first | refine blk_drewN ?_ _ | refine blk_drew ?_ | refine blk_alloc ?_ _)); exact BK113.out) k_ hk) _ (Nat.le_refl _)) (Below.refl _ _) (Nat.le_refl _) (by simp) ?_; (case hd => rfl); (case hg => rfl); (case hr => first | (go_simp; done) | (go_simp; rfl)); (case hp => exact (Reps.one (show Kd.FK (Kd.slice 5 (Kd.int .u8)) _ _ y117 [.slice Ao25 y117.length co25] from (Kd.FK_slice_mk (Kd.R_reads' (Kd.R_mono (ok' := (fun k_ => k_ ≠ gb113)) (Kd.R_types (HO119.out) BK113.out (by decide)) (fun k_ hk => hk.2))).2.1 (Kd.R_F (Kd.R_mono (ok' := (fun k_ => k_ ≠ gb113)) (Kd.R_types (HO119.out) BK113.out (by decide)) (fun k_ hk => hk.2))))) (Reps.one (show Kd.FK (Kd.slice 5 (Kd.int .u8)) _ _ t120 [.slice Ao26 t120.length co26] from (Kd.FK_slice_mk (Kd.R_reads' (Kd.R_mono (ok' := (fun k_ => k_ ≠ gb113)) (Kd.R_types (HO122.out) BK113.out (by decide)) (fun k_ hk => hk.2))).2.1 (Kd.R_F (Kd.R_mono (ok' := (fun k_ => k_ ≠ gb113)) (Kd.R_types (HO122.out) BK113.out (by decide)) (fun k_ hk => hk.2))))) (Reps.one (show Kd.FK (Kd.slice 5 (Kd.int .u8)) _ _ t123 [.slice Ao27 t123.length co27] from (Kd.FK_slice_mk (Kd.R_reads' (Kd.R_mono (ok' := (fun k_ => k_ ≠ gb113)) (Kd.R_types (HO125.out) BK113.out (by decide)) (fun k_ hk => hk.2))).2.1 (Kd.R_F (Kd.R_mono (ok' := (fun k_ => k_ ≠ gb113)) (Kd.R_types (HO125.out) BK113.out (by decide)) (fun k_ hk => hk.2))))) (Reps.one (show Kd.FK (Kd.slice 5 (Kd.int .u8)) _ _ y126 [.slice Ao28 y126.length co28] from (Kd.FK_slice_mk (Kd.R_reads' (Kd.R_mono (ok' := (fun k_ => k_ ≠ gb113)) (Kd.R_types (HO128.out) BK113.out (by decide)) (fun k_ hk => hk.2))).2.1 (Kd.R_F (Kd.R_mono (ok' := (fun k_ => k_ ≠ gb113)) (Kd.R_types (HO128.out) BK113.out (by decide)) (fun k_ hk => hk.2))))) (Reps.one (show Kd.FK (Kd.slice 5 (Kd.int .u8)) _ _ t129 [.slice Ao29 t129.length co29] from (Kd.FK_slice_mk (Kd.R_reads' (Kd.R_mono (ok' := (fun k_ => k_ ≠ gb113)) (Kd.R_types (HO131.out) BK113.out (by decide)) (fun k_ hk => hk.2))).2.1 (Kd.R_F (Kd.R_mono (ok' := (fun k_ => k_ ≠ gb113)) (Kd.R_types (HO131.out) BK113.out (by decide)) (fun k_ hk => hk.2))))) (Reps.one (show Kd.FK (Kd.slice 5 (Kd.int .u8)) _ _ t132 [.slice Ao30 t132.length co30] from (Kd.FK_slice_mk (Kd.R_reads' (Kd.R_mono (ok' := (fun k_ => k_ ≠ gb113)) (Kd.R_types (HO134.out) BK113.out (by decide)) (fun k_ hk => hk.2))).2.1 (Kd.R_F (Kd.R_mono (ok' := (fun k_ => k_ ≠ gb113)) (Kd.R_types (HO134.out) BK113.out (by decide)) (fun k_ hk => hk.2))))) (Reps.one (show Kd.FK (Kd.slice 5 (Kd.int .u8)) _ _ x6_2 [.slice Ao31 x6_2.length co31] from (Kd.FK_slice_mk (Kd.R_reads' (Kd.R_mono (ok' := (fun k_ => k_ ≠ gb113)) (Kd.R_types (HO_6.out) BK113.out (by decide)) (fun k_ hk => hk.2))).2.1 (Kd.R_F (Kd.R_mono (ok' := (fun k_ => k_ ≠ gb113)) (Kd.R_types (HO_6.out) BK113.out (by decide)) (fun k_ hk => hk.2))))) (Reps.none _ _)))))))))
       intro v136 w32 ho33 hb hg_ hnew_
       clear hg_ hnew_
       (first | rw [← Ny135.out] at ho33 | (simp only [Int.reduceToNat] at ho33; rw [← Ny135.out] at ho33))
       have n0_ := Aside0.mk (Kd.N_lower ho33 (below_size (by repeat (first | (with_reducible first | exact HB.out | apply below_alloc | apply pw_below_drewN | apply below_drew1 | refine below_set ?_ GE113.out) | exact HB.out))))
       have n1_ := Aside0.mk (blk_below (g := gb113) (o := .cells #[.int .u32 a0_0, .int .u32 a0_1, .int .u8 a0_2, .int .u8 a0_3, .int .u16 a0_4, .bool a0_5] 26 (0, 0)) (by (with_reducible repeat (first | refine blk_drewN ?_ _ | refine blk_drew ?_ | refine blk_alloc ?_ _)); exact BK113.out) hb)
       have n2_ := Aside0.mk (below_step (by repeat (first | (with_reducible first | exact HB.out | apply below_alloc | apply pw_below_drewN | apply below_drew1 | refine below_set ?_ GE113.out) | exact HB.out)) hb)
       clear BK113
       clear HB
       clear HO119
       clear HO122
       clear HO125
       clear HO128
       clear HO131
       clear HO134
       clear HO_6
       have HO137 := n0_
       have BK113 := n1_
       have HB := n2_
       clear n0_ n1_ n2_
       clear hb ho33
       refine hK.out _ _ ⟨.slice Ao25 y117.length co25, .slice Ao26 t120.length co26, .slice Ao27 t123.length co27, .slice Ao28 y126.length co28, .slice Ao29 t129.length co29, .slice Ao30 t132.length co30, v136, v139, m22_, (by rw [ha.out]; exact putSel_upk 12 hb_ rfl rfl rfl), fun h0_ => absurd ((up_self b 20).symm.trans h0_) (by decide), (by (with_reducible repeat (first | refine blk_drewN ?_ _ | refine blk_drew ?_ | refine blk_alloc ?_ _)); exact BK113.out), (by repeat (first | (with_reducible first | exact HB.out | apply below_alloc | apply pw_below_drewN | apply below_drew1 | refine below_set ?_ GE113.out) | exact HB.out)), fun _ h1_ => absurd ((up_self b 20).symm.trans h1_) (by decide), fun _ h1_ => absurd ((up_self b 20).symm.trans h1_) (by decide), fun _ h1_ => absurd ((up_self b 20).symm.trans h1_) (by decide), fun _ h1_ => absurd ((up_self b 20).symm.trans h1_) (by decide), fun _ h1_ => absurd ((up_self b 20).symm.trans h1_) (by decide), fun _ h1_ => absurd ((up_self b 20).symm.trans h1_) (by decide), fun _ => (by (with_reducible repeat (first | apply Kd.N_alloc | apply Kd.N_drewN | apply Kd.N_drew)); exact HO137.out), fun h0_ => absurd ((hoff 21 (by kernel_rfl)).symm.trans h0_) (by decide), fun h0_ => absurd ((hoff 22 (by kernel_rfl)).symm.trans h0_) (by decide)⟩
     refine steps_cons ?_ ?_
     · rintro b a w' ⟨v118, v121, v124, v127, v130, v133, v136, v139, m22_, ha, Q_HO_6, Q_BK113, Q_HB, Q_HO119, Q_HO122, Q_HO125, Q_HO128, Q_HO131, Q_HO134, Q_HO137, Q_HO140, Q_X22_⟩ hb_ hon hoff
       refine ⟨_, rfl, fun K hK => ?_⟩
       have e31 : a.tmps[31]? = some (v136) := by rw [ha]; exact putSel_on (e := (20, 31, v136)) 12 rfl rfl (hon 20 (by kernel_rfl)) rfl
       replace ha := Aside0.mk ha
       have BK113 := Aside0.mk Q_BK113
       have HB := Aside0.mk Q_HB
       have HO137 := Aside0.mk (Q_HO137 (hon 20 (by kernel_rfl)))
       obtain ⟨Ao34, co34, eo34⟩ := Kd.N_slice HO137.out
       (first | subst eo34 | (injection eo34 with f1_ f2_ f3_; have f4_ := f1_.symm; have f5_ := f3_.symm; clear f1_ f2_ f3_; subst f4_; subst f5_))
       refine goes_ Try.func18 (by kernel_rfl) rfl #[.slice Ao34 y135.length co34] (by rfl) rfl rfl (by first | (simp only [List.map_toArray, List.map_cons, List.map_nil, Act.eval, Array.getD_eq_getD_getElem?, Option.getD_some, e31]; done) | (simp only [List.map_toArray, List.map_cons, List.map_nil, Act.eval, Array.getD_eq_getD_getElem?, Option.getD_some, e31]; rfl)) ?_
       with_reducible refine (ip_joined.calls _ _ y135 t138 _ ?side1 ?side2 A13.out).mono ?_
       (case side1 => repeat (first | exact (Kd.N_reads' HO137.out).2.2 | (with_reducible refine Kd.C_alloc ?_ _) | (with_reducible refine Kd.C_drewN ?_ _) | (with_reducible refine Kd.C_drew ?_)))
       (case side2 => exact (Kd.N_reads' HO137.out).2.1)
       rintro e w35 ⟨v139, rfl, ho0, hb⟩
       refine ⟨_, rfl, ?_⟩
       have n0_ := Aside0.mk (Kd.N_elder' (by (with_reducible repeat (first | apply Kd.N_alloc | apply Kd.N_drewN | apply Kd.N_drew)); exact HO137.out) (Kd.R_base ho0) hb)
       have n1_ := Aside0.mk (Kd.R_lower ho0 (below_size (by repeat (first | (with_reducible first | exact HB.out | apply below_alloc | apply pw_below_drewN | apply below_drew1 | refine below_set ?_ GE113.out) | exact HB.out))))
       have n2_ := Aside0.mk (blk_below (g := gb113) (o := .cells #[.int .u32 a0_0, .int .u32 a0_1, .int .u8 a0_2, .int .u8 a0_3, .int .u16 a0_4, .bool a0_5] 26 (0, 0)) (by (with_reducible repeat (first | refine blk_drewN ?_ _ | refine blk_drew ?_ | refine blk_alloc ?_ _)); exact BK113.out) hb)
       have n3_ := Aside0.mk (below_step (by repeat (first | (with_reducible first | exact HB.out | apply below_alloc | apply pw_below_drewN | apply below_drew1 | refine below_set ?_ GE113.out) | exact HB.out)) hb)
       clear HO137
       clear BK113
       clear HB
       have HO137 := n0_
       have HO140 := n1_
       have BK113 := n2_
       have HB := n3_
       clear n0_ n1_ n2_ n3_
       (try clear hb)
       (try clear hb2)
       (try clear hk)
       (try clear hi)
       (try clear ho0)
       refine hK.out _ _ ⟨v118, v121, v124, v127, v130, v133, .slice Ao34 y135.length co34, v139, m22_, (by rw [ha.out]; exact putSel_upk 13 hb_ rfl rfl rfl), fun h0_ => absurd ((hon 20 (by kernel_rfl)).symm.trans h0_) (by decide), (by (with_reducible repeat (first | refine blk_drewN ?_ _ | refine blk_drew ?_ | refine blk_alloc ?_ _)); exact BK113.out), (by repeat (first | (with_reducible first | exact HB.out | apply below_alloc | apply pw_below_drewN | apply below_drew1 | refine below_set ?_ GE113.out) | exact HB.out)), fun _ h1_ => absurd ((hon 20 (by kernel_rfl)).symm.trans h1_) (by decide), fun _ h1_ => absurd ((hon 20 (by kernel_rfl)).symm.trans h1_) (by decide), fun _ h1_ => absurd ((hon 20 (by kernel_rfl)).symm.trans h1_) (by decide), fun _ h1_ => absurd ((hon 20 (by kernel_rfl)).symm.trans h1_) (by decide), fun _ h1_ => absurd ((hon 20 (by kernel_rfl)).symm.trans h1_) (by decide), fun _ h1_ => absurd ((hon 20 (by kernel_rfl)).symm.trans h1_) (by decide), fun _ => (by (with_reducible repeat (first | apply Kd.N_alloc | apply Kd.N_drewN | apply Kd.N_drew)); exact Kd.N_mono HO137.out (fun _ hk => by first | trivial | exact hk | exact hk.1 | exact hk.2 | exact hk.1.2 | exact hk.1.1 | exact hk.2.1 | exact hk.2.2 | exact hk.1.1.2 | exact hk.1.2.2 | exact hk.1.1.1.2 | exact hk.1.1.1.1.2)), fun _ => (by (with_reducible repeat (first | apply Kd.R_alloc | apply Kd.R_drewN | apply Kd.R_drew)); exact HO140.out), fun h0_ => absurd ((hoff 22 (by kernel_rfl)).symm.trans h0_) (by decide)⟩
     refine steps_cons ?_ ?_
     · rintro b a w' ⟨v118, v121, v124, v127, v130, v133, v136, v139, m22_, ha, Q_HO_6, Q_BK113, Q_HB, Q_HO119, Q_HO122, Q_HO125, Q_HO128, Q_HO131, Q_HO134, Q_HO137, Q_HO140, Q_X22_⟩ hb_ hon hoff
       refine ⟨_, rfl, fun K hK => ?_⟩
       have e32 : a.tmps[32]? = some (v139) := by rw [ha]; exact putSel_on (e := (21, 32, v139)) 13 rfl rfl (hon 21 (by kernel_rfl)) rfl
       replace ha := Aside0.mk ha
       have BK113 := Aside0.mk Q_BK113
       have HB := Aside0.mk Q_HB
       have HO137 := Aside0.mk (Q_HO137 (hon 20 (by kernel_rfl)))
       have HO140 := Aside0.mk (Q_HO140 (hon 21 (by kernel_rfl)))
       refine value_ (w1 := w') (v := v139) (by rfl) rfl ?_ ?_
       · go_simp
         (try simp only [i64_w])
         try rfl
       refine hK.out _ _ ⟨v118, v121, v124, v127, v130, v133, v136, v139, (v139), (by rw [ha.out]; exact putSel_upk 14 hb_ rfl rfl rfl), fun h0_ => absurd ((hon 20 (by kernel_rfl)).symm.trans h0_) (by decide), Q_BK113, Q_HB, fun _ h1_ => absurd ((hon 20 (by kernel_rfl)).symm.trans h1_) (by decide), fun _ h1_ => absurd ((hon 20 (by kernel_rfl)).symm.trans h1_) (by decide), fun _ h1_ => absurd ((hon 20 (by kernel_rfl)).symm.trans h1_) (by decide), fun _ h1_ => absurd ((hon 20 (by kernel_rfl)).symm.trans h1_) (by decide), fun _ h1_ => absurd ((hon 20 (by kernel_rfl)).symm.trans h1_) (by decide), fun _ h1_ => absurd ((hon 20 (by kernel_rfl)).symm.trans h1_) (by decide), Q_HO137, Q_HO140, fun _ => rfl⟩
     exact steps_nil
   rintro b a w35 hall ⟨v118, v121, v124, v127, v130, v133, v136, v139, m22_, ha, Q_HO_6, Q_BK113, Q_HB, Q_HO119, Q_HO122, Q_HO125, Q_HO128, Q_HO131, Q_HO134, Q_HO137, Q_HO140, Q_X22_⟩
   clear BK113 HB HO_6
   have hb1_ := hall 1 (by kernel_rfl)
   have hb3_ := hall 3 (by kernel_rfl)
   have hb5_ := hall 5 (by kernel_rfl)
   have hb6_ := hall 6 (by kernel_rfl)
   have hb7_ := hall 7 (by kernel_rfl)
   have hb9_ := hall 9 (by kernel_rfl)
   have hb11_ := hall 11 (by kernel_rfl)
   have hb12_ := hall 12 (by kernel_rfl)
   have hb14_ := hall 14 (by kernel_rfl)
   have hb15_ := hall 15 (by kernel_rfl)
   have hb17_ := hall 17 (by kernel_rfl)
   have hb18_ := hall 18 (by kernel_rfl)
   have hb20_ := hall 20 (by kernel_rfl)
   have hb21_ := hall 21 (by kernel_rfl)
   have hb22_ := hall 22 (by kernel_rfl)
   subst ha
   obtain rfl := Q_X22_ hb22_
   simp only [putSel, hb1_, hb3_, hb5_, hb6_, hb7_, hb9_, hb11_, hb12_, hb14_, hb15_, hb17_, hb18_, hb20_, hb21_, hb22_, if_true, Act.put, List.setIfInBounds_toArray, List.set_cons_zero, List.set_cons_succ]
   clear Q_HO_6
   have BK113 := Aside0.mk Q_BK113
   clear Q_BK113
   have HB := Aside0.mk Q_HB
   clear Q_HB
   clear Q_HO119
   clear Q_HO122
   clear Q_HO125
   clear Q_HO128
   clear Q_HO131
   clear Q_HO134
   have HO137 := Aside0.mk (Q_HO137 hb20_)
   clear Q_HO137
   have HO140 := Aside0.mk (Q_HO140 hb21_)
   clear Q_HO140
   clear hall hb1_ hb3_ hb5_ hb6_ hb7_ hb9_ hb11_ hb12_ hb14_ hb15_ hb17_ hb18_ hb20_ hb21_ hb22_
   obtain ⟨Ao36, co36, eo36⟩ := Kd.R_slice HO140.out
   subst eo36
   try go_wp2_with (first | ((with_reducible refine gate_callee (f := 33) rfl ?_); refine goesL_ (some 35) rfl rfl Try.func33 (by kernel_rfl) rfl #[.slice Ao36 t138.length co36, .int .i64 10] rfl (by (try simp only [List.map_toArray, List.map_cons, List.map_nil]); first | done | rfl | (simp only [List.length_drop, List.length_take]; rfl)) ?_; (with_reducible refine (sum_Put.calls _ _ t138 10 t141 t142 _ ?side1 ?side2 A14.out).mono ?_); (case side1 => repeat (first | exact (Kd.R_reads' HO140.out).2.2 | (with_reducible refine Kd.C_alloc ?_ _) | (with_reducible refine Kd.C_drewN ?_ _) | (with_reducible refine Kd.C_drew ?_))); (case side2 => exact (Kd.R_reads' HO140.out).2.1); rintro e w37 ⟨v143, rfl, ho0, hb⟩; refine ⟨_, rfl, ?_⟩; have n0_ := Aside0.mk (Kd.N_elder' (by (with_reducible repeat (first | apply Kd.N_alloc | apply Kd.N_drewN | apply Kd.N_drew)); exact HO137.out) (Kd.R_base ho0) hb); have n1_ := Aside0.mk (Kd.R_elder' (by (with_reducible repeat (first | apply Kd.R_alloc | apply Kd.R_drewN | apply Kd.R_drew)); exact HO140.out) (Kd.R_base ho0) hb); have n2_ := Aside0.mk (Kd.R_lower (Kd.R_new' ho0 (Kd.R_lt (by (with_reducible repeat (first | apply Kd.R_alloc | apply Kd.R_drewN | apply Kd.R_drew)); exact HO140.out))) (below_size (by repeat (first | (with_reducible first | exact HB.out | apply below_alloc | apply pw_below_drewN | apply below_drew1 | refine below_set ?_ GE113.out) | exact HB.out)))); have n3_ := Aside0.mk (blk_below (g := gb113) (o := .cells #[.int .u32 a0_0, .int .u32 a0_1, .int .u8 a0_2, .int .u8 a0_3, .int .u16 a0_4, .bool a0_5] 26 (0, 0)) (by (with_reducible repeat (first | refine blk_drewN ?_ _ | refine blk_drew ?_ | refine blk_alloc ?_ _)); exact BK113.out) hb); have n4_ := Aside0.mk (below_step (by repeat (first | (with_reducible first | exact HB.out | apply below_alloc | apply pw_below_drewN | apply below_drew1 | refine below_set ?_ GE113.out) | exact HB.out)) hb); clear HO137; clear HO140; clear BK113; clear HB; have HO137 := n0_; have HO140 := n1_; have HO144 := n2_; have BK113 := n3_; have HB := n4_; clear n0_ n1_ n2_ n3_ n4_; (try clear hb); (try clear hb2); (try clear hk); (try clear hi); (try clear ho0)))
   go_ret
   exact ⟨_, by first | rfl | (simp [errW_none, errW_some] <;> rfl) | (simp [*, errW_none, errW_some] <;> rfl), by (with_reducible repeat (first | apply Kd.R_alloc | apply Kd.R_drewN | apply Kd.R_drew)); exact Kd.R_mono HO144.out (fun _ hk => trivial), by repeat (first | (with_reducible first | exact HB.out | apply below_alloc | apply pw_below_drewN | apply below_drew1 | refine below_set ?_ GE113.out) | exact HB.out)⟩

/-! ### ip_Encode: function 10 -/
def ip_Encode.f (k : Nat) (a0_0 : Int) (a0_1 : Int) (a0_2 : Int) (a0_3 : Int) (a0_4 : Int) (a0_5 : Bool) (l1 : List Int) : Option (List Int × Int) := (ip_size.f a0_5).bind fun t146 => (if (wrap64 (t146 + (l1.length : Int))) > 1500 then (some (([] : List Int), 7)) else ((ip_head.f k a0_0 a0_1 a0_2 a0_3 a0_4 a0_5 (wrap64 (t146 + (l1.length : Int)))).bind fun t147 => ((ip_joined.f (([t147, l1] : List (List Int)))).bind fun t153 => (some (t153, 0)))))
set_option maxHeartbeats 8000000 in
set_option maxRecDepth 100000 in
theorem ip_Encode.calls (k : Nat) (a0_0 : Int) (a0_1 : Int) (a0_2 : Int) (a0_3 : Int) (a0_4 : Int) (a0_5 : Bool) (P1_ : Nat → Prop) (A1 : Option Addr) (c1 : Nat) (l1 : List Int) (r1 : List Int) (r2 : Int) (w : World) (hs1 : Kd.V (Kd.int .u8) 5 w w.heap.size (fun k_ => P1_ k_) (.slice A1 l1.length c1) l1) (h : ip_Encode.f k a0_0 a0_1 a0_2 a0_3 a0_4 a0_5 l1 = some (r1, r2)) :
 Calls Try.prog 10 #[.agg #[.int .u32 a0_0, .int .u32 a0_1, .int .u8 a0_2, .int .u8 a0_3, .int .u16 a0_4, .bool a0_5], .slice A1 l1.length c1] w fun e w' => ∃ v0_ : Value, e = .returned (.tuple #[v0_, .int .i64 r2]) ∧ Kd.R (Kd.int .u8) 5 w' w.heap.size (fun k_ => (w.heap.size ≤ k_)) v0_ r1 ∧ Below w.heap.size w w' := by
 have hu26 := Try.underlying26
 have HO1 := Aside0.mk (show Kd.V (Kd.int .u8) 5 w w.heap.size (fun k_ => (P1_ k_ ∨ w.heap.size ≤ k_)) (.slice A1 l1.length c1) l1 from Kd.V_mono hs1 (fun k_ hk => .inl hk))
 have HB := Aside0.mk (Below.refl w.heap.size w)
 have H : ((ip_size.f a0_5).bind fun t146 => (if (wrap64 (t146 + (l1.length : Int))) > 1500 then (some (([] : List Int), 7)) else ((ip_head.f k a0_0 a0_1 a0_2 a0_3 a0_4 a0_5 (wrap64 (t146 + (l1.length : Int)))).bind fun t147 => ((ip_joined.f (([t147, l1] : List (List Int)))).bind fun t153 => (some (t153, 0)))))) = some (r1, r2) := h
 clear h
 replace H := Option.bind_eq_some_iff.mp H
 obtain ⟨t146, A30, H⟩ := H
 replace H : (if (wrap64 (t146 + (l1.length : Int))) > 1500 then (some (([] : List Int), 7)) else ((ip_head.f k a0_0 a0_1 a0_2 a0_3 a0_4 a0_5 (wrap64 (t146 + (l1.length : Int)))).bind fun t147 => ((ip_joined.f (([t147, l1] : List (List Int)))).bind fun t153 => (some (t153, 0))))) = some (r1, r2) := H
 have A3 := Aside0.mk A30
 clear A30
 by_cases c4 : (wrap64 (t146 + (l1.length : Int))) > 1500
 · rw [if_pos c4] at H
   have c4b0 : decide (1500 < (wrap64 (t146 + (l1.length : Int)))) = true := decide_eq_true c4
   clear c4
   simp only [Option.some.injEq, Prod.mk.injEq] at H
   obtain ⟨rfl, rfl⟩ := H
   go_enter Try.func10, Try.ntmps10
   go_wp2_with (first | ((with_reducible refine gate_dst (N := 2) rfl ?_); refine box_event ?hg (N := 2) ?hd (cs := #[.int .u32 a0_0, .int .u32 a0_1, .int .u8 a0_2, .int .u8 a0_3, .int .u16 a0_4, .bool a0_5]) (t := 26) ?hr ?_; (case hd => rfl); (case hg => rfl); (case hr => first | (go_simp; done) | (go_simp; rfl)); intro gb145 hg w5 hbox hb; have n0_ := Aside0.mk (Kd.V_below (Kd.V_elderB (by (with_reducible repeat (first | apply Kd.V_alloc | apply Kd.V_drewN | apply Kd.V_drew)); exact HO1.out) gb145 (Nat.le_of_eq hg.symm)) hb); have n1_ := Aside0.mk (below_step (by repeat (first | (with_reducible first | exact HB.out | apply below_alloc | apply pw_below_drewN | apply below_drew1) | exact HB.out)) hb); have n2_ := Aside0.mk (hbox); have n3_ := Aside0.mk ((by rw [hg]; exact (below_size (by repeat (first | (with_reducible first | exact HB.out | apply below_alloc | apply pw_below_drewN | apply below_drew1) | exact HB.out))) : w.heap.size ≤ gb145)); have n4_ := Aside0.mk ((by rw [hg]; exact (below_size (by repeat (first | (with_reducible first | exact HB.out | apply below_alloc | apply pw_below_drewN | apply below_drew1) | exact HB.out))) : w.heap.size ≤ gb145)); clear HO1; clear HB; have HO1 := n0_; have HB := n1_; have BK145 := n2_; have GW145 := n3_; have GE145 := n4_; clear n0_ n1_ n2_ n3_ n4_; clear hb hbox hg; have hcz6_0 : w5.cell? ⟨gb145, 0, none⟩ = some (.int .u32 a0_0) := (blk_cell BK145.out 0).trans rfl; have hcz6_1 : w5.cell? ⟨gb145, 1, none⟩ = some (.int .u32 a0_1) := (blk_cell BK145.out 1).trans rfl; have hcz6_2 : w5.cell? ⟨gb145, 2, none⟩ = some (.int .u8 a0_2) := (blk_cell BK145.out 2).trans rfl; have hcz6_3 : w5.cell? ⟨gb145, 3, none⟩ = some (.int .u8 a0_3) := (blk_cell BK145.out 3).trans rfl; have hcz6_4 : w5.cell? ⟨gb145, 4, none⟩ = some (.int .u16 a0_4) := (blk_cell BK145.out 4).trans rfl; have hcz6_5 : w5.cell? ⟨gb145, 5, none⟩ = some (.bool a0_5) := (blk_cell BK145.out 5).trans rfl; have hfz6_0 := blk_frozen BK145.out 0; have hfz6_1 := blk_frozen BK145.out 1; have hfz6_2 := blk_frozen BK145.out 2; have hfz6_3 := blk_frozen BK145.out 3; have hfz6_4 := blk_frozen BK145.out 4; have hfz6_5 := blk_frozen BK145.out 5) | ((with_reducible refine gate_callee (f := 17) rfl ?_); refine goesL_ (some 9) rfl rfl Try.func17 (by kernel_rfl) rfl #[.bool a0_5] rfl (by (try simp only [List.map_toArray, List.map_cons, List.map_nil]); first | done | rfl | (simp only [List.length_drop, List.length_take]; rfl)) ?_; (with_reducible refine (ip_size.calls a0_5 t146 _ A3.out).mono ?_); rintro e w' ⟨rfl, ⟨nd, rfl⟩⟩; refine ⟨_, rfl, ?_⟩))
   go_ret2
   exact ⟨_, by first | rfl | (simp [errW_none, errW_some] <;> rfl) | (simp [*, errW_none, errW_some] <;> rfl), by first | exact Kd.R_nil _ _ _ _ _ | exact Kd.N_nil _ _ _ _ _ | exact Kd.V_nil _ _ _ _ _ | exact Kd.Q_nil _ _ _ _ _ | exact Kd.S_nil _ _ _ _ _, by repeat (first | (with_reducible first | exact HB.out | apply below_alloc | apply pw_below_drewN | apply below_drew1 | refine below_set ?_ GE145.out) | exact HB.out)⟩
 · rw [if_neg c4] at H
   have c4b0 : decide (1500 < (wrap64 (t146 + (l1.length : Int)))) = false := decide_eq_false c4
   clear c4
   replace H := Option.bind_eq_some_iff.mp H
   obtain ⟨t147, A70, H⟩ := H
   replace H : ((ip_joined.f (([t147, l1] : List (List Int)))).bind fun t153 => (some (t153, 0))) = some (r1, r2) := H
   have A7 := Aside0.mk A70
   clear A70
   obtain ⟨y150, hy150⟩ : ∃ y_ : List (List Int), y_ = (([t147, l1] : List (List Int))) := ⟨_, rfl⟩
   replace H : ((ip_joined.f y150).bind fun t153 => (some (t153, 0))) = some (r1, r2) := by first | (rw [hy150]; with_reducible exact H) | (have H2_ := (Option.bind_some _ _).symm.trans H; rw [hy150]; with_reducible exact H2_) | (have H2_ := (Option.bind_some _ _).symm.trans H; with_reducible exact H2_) | with_reducible exact H | (rw [hy150]; exact H) | exact H
   have Ny150 := Aside0.mk hy150
   clear hy150
   replace H := Option.bind_eq_some_iff.mp H
   obtain ⟨t153, A80, H⟩ := H
   replace H : (some (t153, 0)) = some (r1, r2) := H
   have A8 := Aside0.mk A80
   clear A80
   simp only [Option.some.injEq, Prod.mk.injEq] at H
   obtain ⟨rfl, rfl⟩ := H
   go_enter Try.func10, Try.ntmps10
   go_wp2_with (first | ((with_reducible refine gate_dst (N := 2) rfl ?_); refine box_event ?hg (N := 2) ?hd (cs := #[.int .u32 a0_0, .int .u32 a0_1, .int .u8 a0_2, .int .u8 a0_3, .int .u16 a0_4, .bool a0_5]) (t := 26) ?hr ?_; (case hd => rfl); (case hg => rfl); (case hr => first | (go_simp; done) | (go_simp; rfl)); intro gb145 hg w9 hbox hb; have n0_ := Aside0.mk (Kd.V_below (Kd.V_elderB (by (with_reducible repeat (first | apply Kd.V_alloc | apply Kd.V_drewN | apply Kd.V_drew)); exact HO1.out) gb145 (Nat.le_of_eq hg.symm)) hb); have n1_ := Aside0.mk (below_step (by repeat (first | (with_reducible first | exact HB.out | apply below_alloc | apply pw_below_drewN | apply below_drew1) | exact HB.out)) hb); have n2_ := Aside0.mk (hbox); have n3_ := Aside0.mk ((by rw [hg]; exact (below_size (by repeat (first | (with_reducible first | exact HB.out | apply below_alloc | apply pw_below_drewN | apply below_drew1) | exact HB.out))) : w.heap.size ≤ gb145)); have n4_ := Aside0.mk ((by rw [hg]; exact (below_size (by repeat (first | (with_reducible first | exact HB.out | apply below_alloc | apply pw_below_drewN | apply below_drew1) | exact HB.out))) : w.heap.size ≤ gb145)); clear HO1; clear HB; have HO1 := n0_; have HB := n1_; have BK145 := n2_; have GW145 := n3_; have GE145 := n4_; clear n0_ n1_ n2_ n3_ n4_; clear hb hbox hg; have hcz10_0 : w9.cell? ⟨gb145, 0, none⟩ = some (.int .u32 a0_0) := (blk_cell BK145.out 0).trans rfl; have hcz10_1 : w9.cell? ⟨gb145, 1, none⟩ = some (.int .u32 a0_1) := (blk_cell BK145.out 1).trans rfl; have hcz10_2 : w9.cell? ⟨gb145, 2, none⟩ = some (.int .u8 a0_2) := (blk_cell BK145.out 2).trans rfl; have hcz10_3 : w9.cell? ⟨gb145, 3, none⟩ = some (.int .u8 a0_3) := (blk_cell BK145.out 3).trans rfl; have hcz10_4 : w9.cell? ⟨gb145, 4, none⟩ = some (.int .u16 a0_4) := (blk_cell BK145.out 4).trans rfl; have hcz10_5 : w9.cell? ⟨gb145, 5, none⟩ = some (.bool a0_5) := (blk_cell BK145.out 5).trans rfl; have hfz10_0 := blk_frozen BK145.out 0; have hfz10_1 := blk_frozen BK145.out 1; have hfz10_2 := blk_frozen BK145.out 2; have hfz10_3 := blk_frozen BK145.out 3; have hfz10_4 := blk_frozen BK145.out 4; have hfz10_5 := blk_frozen BK145.out 5) | ((with_reducible refine gate_callee (f := 17) rfl ?_); refine goesL_ (some 9) rfl rfl Try.func17 (by kernel_rfl) rfl #[.bool a0_5] rfl (by (try simp only [List.map_toArray, List.map_cons, List.map_nil]); first | done | rfl | (simp only [List.length_drop, List.length_take]; rfl)) ?_; (with_reducible refine (ip_size.calls a0_5 t146 _ A3.out).mono ?_); rintro e w' ⟨rfl, ⟨nd, rfl⟩⟩; refine ⟨_, rfl, ?_⟩) | ((with_reducible refine gate_callee (f := 19) rfl ?_); refine goesL_ (some 17) rfl rfl Try.func19 (by kernel_rfl) rfl #[.agg #[.int .u32 a0_0, .int .u32 a0_1, .int .u8 a0_2, .int .u8 a0_3, .int .u16 a0_4, .bool a0_5], .int .i64 (wrap64 (t146 + (l1.length : Int)))] rfl (by (try simp only [List.map_toArray, List.map_cons, List.map_nil]); first | done | rfl | (simp only [List.length_drop, List.length_take]; rfl)) ?_; (with_reducible refine (ip_head.calls k a0_0 a0_1 a0_2 a0_3 a0_4 a0_5 (wrap64 (t146 + (l1.length : Int))) t147 _ A7.out).mono ?_); rintro e w11 ⟨v148, rfl, ho0, hb⟩; refine ⟨_, rfl, ?_⟩; have n0_ := Aside0.mk (Kd.V_elder' (by (with_reducible repeat (first | apply Kd.V_alloc | apply Kd.V_drewN | apply Kd.V_drew)); exact HO1.out) (Kd.R_base ho0) hb); have n1_ := Aside0.mk (Kd.R_lower (Kd.R_newM (M := fun k_ => (w.heap.size ≤ k_)) ho0 (below_size (by repeat (first | (with_reducible first | exact HB.out | apply below_alloc | apply pw_below_drewN | apply below_drew1 | refine below_set ?_ GE145.out) | exact HB.out))) (fun k_ h_ => h_)) (below_size (by repeat (first | (with_reducible first | exact HB.out | apply below_alloc | apply pw_below_drewN | apply below_drew1 | refine below_set ?_ GE145.out) | exact HB.out)))); have n2_ := Aside0.mk (blk_below (g := gb145) (o := .cells #[.int .u32 a0_0, .int .u32 a0_1, .int .u8 a0_2, .int .u8 a0_3, .int .u16 a0_4, .bool a0_5] 26 (0, 0)) (by (with_reducible repeat (first | refine blk_drewN ?_ _ | refine blk_drew ?_ | refine blk_alloc ?_ _)); exact BK145.out) hb); have n3_ := Aside0.mk (below_step (by repeat (first | (with_reducible first | exact HB.out | apply below_alloc | apply pw_below_drewN | apply below_drew1 | refine below_set ?_ GE145.out) | exact HB.out)) hb); clear HO1; clear BK145; clear HB; have HO1 := n0_; have HO149 := n1_; have BK145 := n2_; have HB := n3_; clear n0_ n1_ n2_ n3_; (try clear hb); (try clear hb2); (try clear hk); (try clear hi); (try clear ho0); obtain ⟨Ao12, co12, eo12⟩ := Kd.R_slice HO149.out; subst eo12) | ((with_reducible refine gate_dst (N := 19) rfl ?_); refine Kd.N_lit (Kd.slice 5 (Kd.int .u8)) _ 27 ?hg (N' := 19) ?hd (xs := ([t147, l1] : List (List Int))) (inner := [.slice Ao12 t147.length co12, .slice A1 l1.length c1]) (ok := (fun k_ => (P1_ k_ ∨ w.heap.size ≤ k_) ∧ k_ ≠ gb145)) (okp := (fun k_ => (P1_ k_ ∨ w.heap.size ≤ k_) ∧ k_ ≠ gb145)) ?hr ?hp (fun _ hk => hk) ((show ∀ k_, w11.heap.size ≤ k_ → (fun k_ => (P1_ k_ ∨ w.heap.size ≤ k_) ∧ k_ ≠ gb145) k_ from fun k_ hk => ⟨(.inr (Nat.le_trans (below_size (by repeat (first | (with_reducible first | exact HB.out | apply below_alloc | apply pw_below_drewN | apply below_drew1 | refine below_set ?_ GE145.out) | exact HB.out))) hk)), Kd.freshB (g := gb145) (o := .cells #[.int .u32 a0_0, .int .u32 a0_1, .int .u8 a0_2, .int .u8 a0_3, .int .u16 a0_4, .bool a0_5] 26 (0, 0)) (by (with_reducible repeat (first | refine blk_drewN ?_ _ | refine blk_drew ?_ | refine blk_alloc ?_ _)); exact BK145.out) k_ hk⟩) _ (Nat.le_refl _)) (Below.refl _ _) (Nat.le_refl _) (by simp) ?_; (case hd => rfl); (case hg => rfl); (case hr => first | (go_simp; done) | (go_simp; rfl)); (case hp => exact (Reps.one (show Kd.FK (Kd.slice 5 (Kd.int .u8)) _ _ t147 [.slice Ao12 t147.length co12] from (Kd.FK_slice_mk (Kd.R_reads' (Kd.R_mono (ok' := (fun k_ => (P1_ k_ ∨ w.heap.size ≤ k_) ∧ k_ ≠ gb145)) (Kd.R_types (HO149.out) BK145.out (by decide)) (fun k_ hk => ⟨(.inr (hk.1.1)), hk.2⟩))).2.1 (Kd.R_F (Kd.R_mono (ok' := (fun k_ => (P1_ k_ ∨ w.heap.size ≤ k_) ∧ k_ ≠ gb145)) (Kd.R_types (HO149.out) BK145.out (by decide)) (fun k_ hk => ⟨(.inr (hk.1.1)), hk.2⟩))))) (Reps.one (show Kd.FK (Kd.slice 5 (Kd.int .u8)) _ _ l1 [.slice A1 l1.length c1] from (Kd.FK_slice_mk (Kd.V_reads' (Kd.V_mono (ok' := (fun k_ => (P1_ k_ ∨ w.heap.size ≤ k_) ∧ k_ ≠ gb145)) (HO1.out) (fun k_ hk => ⟨hk.1.1, hk.1.2⟩))).2.1 (Kd.V_F (Kd.V_mono (ok' := (fun k_ => (P1_ k_ ∨ w.heap.size ≤ k_) ∧ k_ ≠ gb145)) (HO1.out) (fun k_ hk => ⟨hk.1.1, hk.1.2⟩))))) (Reps.none _ _)))); intro v151 w13 ho14 hb hg_ hnew_; clear hg_ hnew_; (first | rw [← Ny150.out] at ho14 | (simp only [Int.reduceToNat] at ho14; rw [← Ny150.out] at ho14)); have n0_ := Aside0.mk (Kd.V_elder' (by (with_reducible repeat (first | apply Kd.V_alloc | apply Kd.V_drewN | apply Kd.V_drew)); exact HO1.out) (Kd.N_base ho14) hb); have n1_ := Aside0.mk (Kd.N_lower ho14 (below_size (by repeat (first | (with_reducible first | exact HB.out | apply below_alloc | apply pw_below_drewN | apply below_drew1 | refine below_set ?_ GE145.out) | exact HB.out)))); have n2_ := Aside0.mk (blk_below (g := gb145) (o := .cells #[.int .u32 a0_0, .int .u32 a0_1, .int .u8 a0_2, .int .u8 a0_3, .int .u16 a0_4, .bool a0_5] 26 (0, 0)) (by (with_reducible repeat (first | refine blk_drewN ?_ _ | refine blk_drew ?_ | refine blk_alloc ?_ _)); exact BK145.out) hb); have n3_ := Aside0.mk (below_step (by repeat (first | (with_reducible first | exact HB.out | apply below_alloc | apply pw_below_drewN | apply below_drew1 | refine below_set ?_ GE145.out) | exact HB.out)) hb); clear HO1; clear BK145; clear HB; clear HO149; have HO1 := n0_; have HO152 := n1_; have BK145 := n2_; have HB := n3_; clear n0_ n1_ n2_ n3_; clear hb ho14; obtain ⟨Ao15, co15, eo15⟩ := Kd.N_slice HO152.out; subst eo15) | ((with_reducible refine gate_callee (f := 18) rfl ?_); refine goesL_ (some 20) rfl rfl Try.func18 (by kernel_rfl) rfl #[.slice Ao15 y150.length co15] rfl (by (try simp only [List.map_toArray, List.map_cons, List.map_nil]); first | done | rfl | (simp only [List.length_drop, List.length_take]; rfl)) ?_; (with_reducible refine (ip_joined.calls _ _ y150 t153 _ ?side1 ?side2 A8.out).mono ?_); (case side1 => repeat (first | exact (Kd.N_reads' HO152.out).2.2 | (with_reducible refine Kd.C_alloc ?_ _) | (with_reducible refine Kd.C_drewN ?_ _) | (with_reducible refine Kd.C_drew ?_))); (case side2 => exact (Kd.N_reads' HO152.out).2.1); rintro e w16 ⟨v154, rfl, ho0, hb⟩; refine ⟨_, rfl, ?_⟩; have n0_ := Aside0.mk (Kd.V_elder' (by (with_reducible repeat (first | apply Kd.V_alloc | apply Kd.V_drewN | apply Kd.V_drew)); exact HO1.out) (Kd.R_base ho0) hb); have n1_ := Aside0.mk (Kd.N_elder' (by (with_reducible repeat (first | apply Kd.N_alloc | apply Kd.N_drewN | apply Kd.N_drew)); exact HO152.out) (Kd.R_base ho0) hb); have n2_ := Aside0.mk (Kd.R_lower (Kd.R_newM (M := fun k_ => (w.heap.size ≤ k_)) ho0 (below_size (by repeat (first | (with_reducible first | exact HB.out | apply below_alloc | apply pw_below_drewN | apply below_drew1 | refine below_set ?_ GE145.out) | exact HB.out))) (fun k_ h_ => h_)) (below_size (by repeat (first | (with_reducible first | exact HB.out | apply below_alloc | apply pw_below_drewN | apply below_drew1 | refine below_set ?_ GE145.out) | exact HB.out)))); have n3_ := Aside0.mk (blk_below (g := gb145) (o := .cells #[.int .u32 a0_0, .int .u32 a0_1, .int .u8 a0_2, .int .u8 a0_3, .int .u16 a0_4, .bool a0_5] 26 (0, 0)) (by (with_reducible repeat (first | refine blk_drewN ?_ _ | refine blk_drew ?_ | refine blk_alloc ?_ _)); exact BK145.out) hb); have n4_ := Aside0.mk (below_step (by repeat (first | (with_reducible first | exact HB.out | apply below_alloc | apply pw_below_drewN | apply below_drew1 | refine below_set ?_ GE145.out) | exact HB.out)) hb); clear HO1; clear HO152; clear BK145; clear HB; have HO1 := n0_; have HO152 := n1_; have HO155 := n2_; have BK145 := n3_; have HB := n4_; clear n0_ n1_ n2_ n3_ n4_; (try clear hb); (try clear hb2); (try clear hk); (try clear hi); (try clear ho0)))
   go_ret2
   exact ⟨_, by first | rfl | (simp [errW_none, errW_some] <;> rfl) | (simp [*, errW_none, errW_some] <;> rfl), by (with_reducible repeat (first | apply Kd.R_alloc | apply Kd.R_drewN | apply Kd.R_drew)); exact Kd.R_mono HO155.out (fun _ hk => hk.1), by repeat (first | (with_reducible first | exact HB.out | apply below_alloc | apply pw_below_drewN | apply below_drew1 | refine below_set ?_ GE145.out) | exact HB.out)⟩

/-! ### addr_Of: function 34 -/
def addr_Of.l0 : Nat → Int → List Int → Int → Int → Option (Int × Int)
 | 0, _, _, _, _ => none
 | k + 1, x4, x15, x16, x17 => if x17 < x16 then (if 0 ≤ x17 then (if x17 < (x15.length : Int) then (addr_Of.l0 k (Go.bits .or .u32 ((x4 * 256) % 4294967296) ((rd x15 x17) % 4294967296)) x15 x16 (wrap64 (x17 + 1))) else (none)) else (none)) else (some (x4, 0))
def addr_Of.f (k : Nat) (l0 : List Int) : Option (Int × Int) := if (l0.length : Int) < 4 then (some (0, 3)) else (if (l0.length : Int) > 4 then (some (0, 2)) else (addr_Of.l0 k 0 l0 (l0.length : Int) 0))
set_option maxHeartbeats 8000000 in
set_option maxRecDepth 100000 in
theorem addr_Of.calls (k : Nat) (A0 : Option Addr) (c0 : Nat) (l0 : List Int) (r1 : Int) (r2 : Int) (w : World) (hr0 : Kd.C (Kd.int .u8) w A0 l0.length l0) (hc0 : l0.length ≤ c0) (h : addr_Of.f k l0 = some (r1, r2)) :
 Calls Try.prog 34 #[.slice A0 l0.length c0] w fun e w' => e = .returned (.tuple #[.int .u32 r1, .int .i64 r2]) ∧ Drawn0 w w' := by
 have HR0 := Aside0.mk hr0
 have HC0 := Aside0.mk hc0
 clear hr0 hc0
 have H : (if (l0.length : Int) < 4 then (some (0, 3)) else (if (l0.length : Int) > 4 then (some (0, 2)) else (addr_Of.l0 k 0 l0 (l0.length : Int) 0))) = some (r1, r2) := h
 clear h
 by_cases c2 : (l0.length : Int) < 4
 · rw [if_pos c2] at H
   have c2b0 : decide ((l0.length : Int) < 4) = true := decide_eq_true c2
   have c2b1 : decide (l0.length < 4) = true := decide_eq_true (by omega)
   clear c2
   simp only [Option.some.injEq, Prod.mk.injEq] at H
   obtain ⟨rfl, rfl⟩ := H
   go_enter Try.func34, Try.ntmps34
   go_wp2
   go_ret2
   exact ⟨by first | rfl | (simp; done) | (simp [*]; done), by repeat (first | exact Drawn0.refl _ | apply Drawn0.step)⟩
 · rw [if_neg c2] at H
   have c2b0 : decide ((l0.length : Int) < 4) = false := decide_eq_false c2
   have c2b1 : decide (l0.length < 4) = false := decide_eq_false (by omega)
   clear c2
   by_cases c3 : (l0.length : Int) > 4
   · rw [if_pos c3] at H
     have c3b0 : decide (4 < (l0.length : Int)) = true := decide_eq_true c3
     have c3b1 : decide (4 < l0.length) = true := decide_eq_true (by omega)
     clear c3
     simp only [Option.some.injEq, Prod.mk.injEq] at H
     obtain ⟨rfl, rfl⟩ := H
     go_enter Try.func34, Try.ntmps34
     go_wp2
     go_ret2
     exact ⟨by first | rfl | (simp; done) | (simp [*]; done), by repeat (first | exact Drawn0.refl _ | apply Drawn0.step)⟩
   · rw [if_neg c3] at H
     have c3b0 : decide (4 < (l0.length : Int)) = false := decide_eq_false c3
     have c3b1 : decide (4 < l0.length) = false := decide_eq_false (by omega)
     clear c3
     have H' := Aside0.mk H
     clear H
     go_enter Try.func34, Try.ntmps34
     go_wp2
     go_loopg [4, 17] k (fun kq v4 v17 w' => ∃ (x4_1 : Int) (x17_1 : Int), v4 = .int .u32 x4_1 ∧ v17 = .int .i64 x17_1 ∧ Aside0 (addr_Of.l0 kq x4_1 l0 (l0.length : Int) x17_1 = some (r1, r2)) ∧ Aside0 (kq ≤ k) ∧ Drawn0 w w')
     case atStart => exact ⟨(0), (0), (by first | rfl | (simp; done) | (simp [*]; done)), (by first | rfl | (simp; done) | (simp [*]; done)), H', ⟨Nat.le_refl _⟩, by repeat (first | exact Drawn0.refl _ | apply Drawn0.step)⟩
     case round =>
      clear H'
      try clear c2
      try clear c2b0
      try clear c2b1
      try clear p2
      try clear c3
      try clear c3b0
      try clear c3b1
      obtain ⟨x4_1, x17_1, rfl, rfl, HA, HK1, ⟨m1, rfl⟩⟩ := hrel
      cases gk with
      | zero => exact absurd HA.out (by simp [addr_Of.l0])
      | succ k1 =>
       have H := HA.out
       clear HA
       simp only [addr_Of.l0] at H
       by_cases c4 : x17_1 < (l0.length : Int)
       · rw [if_pos c4] at H
         have c4b0 : decide (x17_1 < (l0.length : Int)) = true := decide_eq_true c4
         clear c4
         by_cases c5 : 0 ≤ x17_1
         case neg => rw [if_neg c5] at H; exact absurd H (by simp)
         rw [if_pos c5] at H
         have c5b0 : decide (0 ≤ x17_1) = true := decide_eq_true c5
         clear c5
         by_cases c6 : x17_1 < (l0.length : Int)
         case neg => rw [if_neg c6] at H; exact absurd H (by simp)
         rw [if_pos c6] at H
         have c6b0 : decide (x17_1 < (l0.length : Int)) = true := decide_eq_true c6
         clear c6
         have H' := Aside0.mk H
         clear H
         have p156 : 0 ≤ (x17_1 : Int) := of_decide_eq_true (by first | (with_reducible assumption) | assumption)
         have q156 : x17_1 < (l0.length : Int) := of_decide_eq_true (by first | (with_reducible assumption) | assumption)
         obtain ⟨ad156, e156, hx156_0⟩ := Kd.at_int HR0.out x17_1 p156 q156
         cases e156
         replace p156 := eq_true p156
         replace q156 := eq_true q156
         go_wp2
         go_roundg k1
         case measure => have := HK1.out; omega
         case rel => exact ⟨(Go.bits .or .u32 ((x4_1 * 256) % 4294967296) ((rd l0 x17_1) % 4294967296)), (wrap64 (x17_1 + 1)), (by first | rfl | (simp; done) | (simp [*]; done)), (by first | rfl | (simp; done) | (simp [*]; done)), H', ⟨by have := HK1.out; omega⟩, by repeat (first | exact Drawn0.refl _ | apply Drawn0.step)⟩
       · rw [if_neg c4] at H
         have c4b0 : decide (x17_1 < (l0.length : Int)) = false := decide_eq_false c4
         clear c4
         simp only [Option.some.injEq, Prod.mk.injEq] at H
         obtain ⟨rfl, rfl⟩ := H
         go_wp2
         go_ret2
         exact ⟨by first | rfl | (simp; done) | (simp [*]; done), by repeat (first | exact Drawn0.refl _ | apply Drawn0.step)⟩

end Go.Proofs.Ytlaanmkangikbaa.PIp
