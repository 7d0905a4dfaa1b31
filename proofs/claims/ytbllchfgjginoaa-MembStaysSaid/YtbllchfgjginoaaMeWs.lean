/-
  MembStays, walked.
-/
import Derived.Test.YtbllchfgjginoaaMeY3
namespace Go.Proofs.Ytbllchfgjginoaa
open Go.RowKit Go.Lib Go.Proofs.YtbllchfgjginoaaW.PrintWords Go.Proofs.YtbllchfgjginoaaW.PrintLast Go.Proofs.YtbllchfgjginoaaW.PrintMore Go.Proofs.Ytbllchfgjginoaa.PMe
set_option linter.unusedVariables false
set_option linter.unusedSimpArgs false
def ms_T10 : Bool × List (List Nat × List Nat) := (true, [([], []), ([], []), ([1], [1]), ([0, 2], [0, 2]), ([], []), ([4], [4]), ([3, 5, 3], [3, 5]), ([], []), ([7, 6, 6, 0, 1, 2, 3, 4, 5, 6, 7], [6, 7])])
def ms_B10 : List Nat := [0, 0, 2, 7, 0, 16, 63, 0, 255]
theorem ms_t10 : rtab .any (opsOf Try.f5 10) = ms_T10 := by kernel_rfl
theorem ms_b10 : waitsOk ms_T10.2 ms_B10 = true := by kernel_rfl
def ms_T11 : Bool × List (List Nat × List Nat) := (true, [([], []), ([0], [0]), ([1], [1]), ([2, 1, 1], [1, 2]), ([1, 3], [1, 3]), ([4, 3], [4]), ([5], [5]), ([6, 5, 5], [5, 6]), ([5, 7], [5, 7]), ([8, 7], [8]), ([9], [9]), ([9], [9]), ([9], [9]), ([12, 9], [9, 12]), ([9], [9]), ([14, 9], [9, 14]), ([13, 15, 9], [9, 13, 15]), ([11, 16, 9, 9], [9, 11, 16]), ([10, 17, 17, 9], [9, 10, 17]), ([9, 18], [9, 18]), ([19, 18], [19]), ([20], [20]), ([21, 20, 20], [20, 21]), ([20], [20]), ([22, 23, 22, 20], [20, 22, 23]), ([20, 24], [20, 24]), ([25, 24, 0, 1, 2, 3, 4, 5, 6, 7, 8, 9, 10, 11, 12, 13, 14, 15, 16, 17, 18, 19, 20, 21, 22, 23, 24, 25], [25])])
def ms_B11 : List Nat := [0, 1, 3, 7, 15, 31, 63, 127, 255, 511, 1023, 1023, 1023, 5119, 1023, 17407, 62463, 130047, 262143, 524287, 1048575, 2097151, 4194303, 2097151, 16777215, 33554431, 67108863]
theorem ms_t11 : rtab .any (opsOf Try.f5 11) = ms_T11 := by kernel_rfl
theorem ms_b11 : waitsOk ms_T11.2 ms_B11 = true := by kernel_rfl
theorem store_step {P : Program} {ops : Array Oper} {Q : Exit → Act → World → Prop} {oi : Oper} {a : Act} {w w1 : World} {K : Act → World → Prop} (hw : Region.wanted oi (yielded ops a.tmps) = true) (hN : oi.dst = none) (hrun : (execOp a.eval oi).run P w = .ok .skip w1) (h : K a w1) :
    if Region.wanted oi (yielded ops a.tmps) = true then Oper.wp P oi a w K Q else K (a.put oi.dst undef) w := by
  rw [if_pos hw]
  unfold Oper.wp
  rw [hrun]
  show K (a.put oi.dst undef) w1
  rw [hN]
  exact h
theorem MOk.le {x : S28} (h : MOk x) : x.f3.length ≤ 1000000 := by have := h.len; omega
theorem tick_R {x r : S28} {n : Int} (h : MOk x) (hn : 0 ≤ n) (e : tickM x n = r) (A : Option Addr) (c : Nat) (w : World) (hr : Kd.C k49 w A x.f3.length x.f3) (hc : x.f3.length ≤ c) :
    Calls Try.prog 17 #[.agg #[.int .u32 x.f0, .bool x.f1, .int .i64 x.f2, .slice A x.f3.length c], .int .i64 n] w fun e w' => ∃ v, e = .returned (.agg #[.int .u32 r.f0, .bool r.f1, .int .i64 r.f2, v]) ∧ Kd.R k49 49 w' w.heap.size (fun _ => True) v r.f3 ∧ Below w.heap.size w w' := by
  subst e
  have h1 := tick_some x n (by have := h.len; omega) h.times.soon h.left _ (Nat.le_refl _)
  rw [tick_clamp h hn] at h1
  exact memb_Tick.calls _ _ _ _ A c _ _ _ _ _ _ w hr hc h1
set_option maxHeartbeats 8000000 in
set_option maxRecDepth 100000 in
theorem mstays_may {t : S23} {x : S28} {kind : Int} {l : List Int} {n0 n1 : Int} (hm : mayB t = false) (A_x : Option Addr) (c_x : Nat) (A_l : Option Addr) (c_l : Nat) (w : World) (hr : Kd.C k49 w A_x x.f3.length x.f3) (hc : x.f3.length ≤ c_x) (hs : Kd.C (Kd.int .u32) w A_l l.length l) (hcs : l.length ≤ c_l) :
    Calls Try.prog 5 #[.agg #[.int .i64 t.f0, .int .i64 t.f1, .int .u32 x.f0, .bool x.f1, .int .i64 x.f2, .slice A_x x.f3.length c_x, .int .u8 kind, .slice A_l l.length c_l, .int .i64 n0, .int .i64 n1]] w (fun e w' => e = .returned (.bool true) ∧ Below w.heap.size w w') := by
  have hu23 := Try.underlying23
  have hu28 := Try.underlying28
  have hu51 := Try.underlying51
  have hu53 := Try.underlying53
  have HB := Aside0.mk (Below.refl w.heap.size w)
  have HC_x := Aside0.mk hr
  have HK_x := Aside0.mk hc
  have HC_l := Aside0.mk hs
  have HK_l := Aside0.mk hcs
  clear hr hc hs hcs
  have Xhm := Aside0.mk hm
  clear hm
  go_enter Try.func5, Try.ntmps5
  go_upto_region 2 with (first | ((with_reducible refine gate_dst (N := 1) rfl ?_); (try (refine gate_guard (by rfl) ?_; dsimp only)); refine box_event ?hg (N := 1) ?hd (cs := #[.int .i64 t.f0, .int .i64 t.f1, .int .u32 x.f0, .bool x.f1, .int .i64 x.f2, .slice A_x x.f3.length c_x, .int .u8 kind, .slice A_l l.length c_l, .int .i64 n0, .int .i64 n1]) (t := 53) ?hr ?_; (case hd => rfl); (case hg => rfl); (case hr => first | (go_simp; done) | (go_simp; rfl)); intro gp hg w1_ hbox hB; have HBo := Aside0.mk HB.out; have nHB := Aside0.mk (HB.out.trans (hB.mono HB.out.size)); clear HB; have HB := nHB; clear nHB; have BK_gp := Aside0.mk hbox; have GE_gp := Aside0.mk (show w.heap.size ≤ gp by rw [hg]; exact HBo.out.size); clear hg hbox hB; have hc_gp_0 : w1_.cell? ⟨gp, 0, none⟩ = some (.int .i64 t.f0) := (blk_cell BK_gp.out 0).trans rfl; have hf_gp_0 := blk_frozen BK_gp.out 0; have hc_gp_1 : w1_.cell? ⟨gp, 1, none⟩ = some (.int .i64 t.f1) := (blk_cell BK_gp.out 1).trans rfl; have hf_gp_1 := blk_frozen BK_gp.out 1; have hc_gp_2 : w1_.cell? ⟨gp, 2, none⟩ = some (.int .u32 x.f0) := (blk_cell BK_gp.out 2).trans rfl; have hf_gp_2 := blk_frozen BK_gp.out 2; have hc_gp_3 : w1_.cell? ⟨gp, 3, none⟩ = some (.bool x.f1) := (blk_cell BK_gp.out 3).trans rfl; have hf_gp_3 := blk_frozen BK_gp.out 3; have hc_gp_4 : w1_.cell? ⟨gp, 4, none⟩ = some (.int .i64 x.f2) := (blk_cell BK_gp.out 4).trans rfl; have hf_gp_4 := blk_frozen BK_gp.out 4; have hc_gp_5 : w1_.cell? ⟨gp, 5, none⟩ = some (.slice A_x x.f3.length c_x) := (blk_cell BK_gp.out 5).trans rfl; have hf_gp_5 := blk_frozen BK_gp.out 5; have hc_gp_6 : w1_.cell? ⟨gp, 6, none⟩ = some (.int .u8 kind) := (blk_cell BK_gp.out 6).trans rfl; have hf_gp_6 := blk_frozen BK_gp.out 6; have hc_gp_7 : w1_.cell? ⟨gp, 7, none⟩ = some (.slice A_l l.length c_l) := (blk_cell BK_gp.out 7).trans rfl; have hf_gp_7 := blk_frozen BK_gp.out 7; have hc_gp_8 : w1_.cell? ⟨gp, 8, none⟩ = some (.int .i64 n0) := (blk_cell BK_gp.out 8).trans rfl; have hf_gp_8 := blk_frozen BK_gp.out 8; have hc_gp_9 : w1_.cell? ⟨gp, 9, none⟩ = some (.int .i64 n1) := (blk_cell BK_gp.out 9).trans rfl; have hf_gp_9 := blk_frozen BK_gp.out 9; clear HBo) | ((with_reducible refine gate_dst (N := 3) rfl ?_); (try (refine gate_guard (by rfl) ?_; dsimp only)); refine box_event ?hg (N := 3) ?hd (cs := #[.int .i64 0, .int .i64 0]) (t := 23) ?hr ?_; (case hd => rfl); (case hg => rfl); (case hr => first | (go_simp; done) | (go_simp; rfl)); intro gt hg w2_ hbox hB0; have hG := Aside0.mk (show w1_.heap.size ≤ gt from Nat.le_of_eq hg.symm); clear hg; have hBX := Aside0.mk hbox; have hB1 := Aside0.mk hB0; clear hB0; have hc_gt_0 : w2_.cell? ⟨gt, 0, none⟩ = some (.int .i64 0) := (blk_cell hbox 0).trans rfl; have hf_gt_0 := blk_frozen hbox 0; have hc_gt_1 : w2_.cell? ⟨gt, 1, none⟩ = some (.int .i64 0) := (blk_cell hbox 1).trans rfl; have hf_gt_1 := blk_frozen hbox 1; clear hbox))
  have hB : Below w1_.heap.size w1_ ((w2_.setCell ⟨gt, 0, none⟩ (.int .i64 t.f0)).setCell ⟨gt, 1, none⟩ (.int .i64 t.f1)) := (below_set (below_set hB1.out hG.out) hG.out)
  have hBN : ((w2_.setCell ⟨gt, 0, none⟩ (.int .i64 t.f0)).setCell ⟨gt, 1, none⟩ (.int .i64 t.f1)).heap[gt]? = some (.cells #[.int .i64 t.f0, .int .i64 t.f1] 23 (0, 0)) := (blk_put (cs := #[.int .i64 t.f0, .int .i64 0]) (blk_put (cs := #[.int .i64 0, .int .i64 0]) hBX.out 0 (.int .i64 t.f0) rfl) 1 (.int .i64 t.f1) rfl)
  clear hBX hB1
  clear hc_gt_0 hf_gt_0 hc_gt_1 hf_gt_1
  generalize ((w2_.setCell ⟨gt, 0, none⟩ (.int .i64 t.f0)).setCell ⟨gt, 1, none⟩ (.int .i64 t.f1)) = w3_ at hB hBN ⊢
  have NB_gt_gp := Aside0.mk (show gt ≠ gp from Nat.ne_of_gt (Nat.lt_of_lt_of_le (blk_lt (g := gp) (o := .cells #[.int .i64 t.f0, .int .i64 t.f1, .int .u32 x.f0, .bool x.f1, .int .i64 x.f2, .slice A_x x.f3.length c_x, .int .u8 kind, .slice A_l l.length c_l, .int .i64 n0, .int .i64 n1] 53 (0, 0)) BK_gp.out) hG.out))
  have NB_gp_gt := Aside0.mk (Ne.symm NB_gt_gp.out)
  have HBo := Aside0.mk HB.out
  have nHB := Aside0.mk (HB.out.trans (hB.mono HB.out.size))
  clear HB
  have HB := nHB
  clear nHB
  clear hc_gp_0 hf_gp_0 hc_gp_1 hf_gp_1 hc_gp_2 hf_gp_2 hc_gp_3 hf_gp_3 hc_gp_4 hf_gp_4 hc_gp_5 hf_gp_5 hc_gp_6 hf_gp_6 hc_gp_7 hf_gp_7 hc_gp_8 hf_gp_8 hc_gp_9 hf_gp_9
  have nBK := Aside0.mk (blk_below (g := gp) (o := .cells #[.int .i64 t.f0, .int .i64 t.f1, .int .u32 x.f0, .bool x.f1, .int .i64 x.f2, .slice A_x x.f3.length c_x, .int .u8 kind, .slice A_l l.length c_l, .int .i64 n0, .int .i64 n1] 53 (0, 0)) BK_gp.out hB)
  clear BK_gp
  have BK_gp := nBK
  clear nBK
  have hc_gp_0 : w3_.cell? ⟨gp, 0, none⟩ = some (.int .i64 t.f0) := (blk_cell BK_gp.out 0).trans rfl
  have hf_gp_0 := blk_frozen BK_gp.out 0
  have hc_gp_1 : w3_.cell? ⟨gp, 1, none⟩ = some (.int .i64 t.f1) := (blk_cell BK_gp.out 1).trans rfl
  have hf_gp_1 := blk_frozen BK_gp.out 1
  have hc_gp_2 : w3_.cell? ⟨gp, 2, none⟩ = some (.int .u32 x.f0) := (blk_cell BK_gp.out 2).trans rfl
  have hf_gp_2 := blk_frozen BK_gp.out 2
  have hc_gp_3 : w3_.cell? ⟨gp, 3, none⟩ = some (.bool x.f1) := (blk_cell BK_gp.out 3).trans rfl
  have hf_gp_3 := blk_frozen BK_gp.out 3
  have hc_gp_4 : w3_.cell? ⟨gp, 4, none⟩ = some (.int .i64 x.f2) := (blk_cell BK_gp.out 4).trans rfl
  have hf_gp_4 := blk_frozen BK_gp.out 4
  have hc_gp_5 : w3_.cell? ⟨gp, 5, none⟩ = some (.slice A_x x.f3.length c_x) := (blk_cell BK_gp.out 5).trans rfl
  have hf_gp_5 := blk_frozen BK_gp.out 5
  have hc_gp_6 : w3_.cell? ⟨gp, 6, none⟩ = some (.int .u8 kind) := (blk_cell BK_gp.out 6).trans rfl
  have hf_gp_6 := blk_frozen BK_gp.out 6
  have hc_gp_7 : w3_.cell? ⟨gp, 7, none⟩ = some (.slice A_l l.length c_l) := (blk_cell BK_gp.out 7).trans rfl
  have hf_gp_7 := blk_frozen BK_gp.out 7
  have hc_gp_8 : w3_.cell? ⟨gp, 8, none⟩ = some (.int .i64 n0) := (blk_cell BK_gp.out 8).trans rfl
  have hf_gp_8 := blk_frozen BK_gp.out 8
  have hc_gp_9 : w3_.cell? ⟨gp, 9, none⟩ = some (.int .i64 n1) := (blk_cell BK_gp.out 9).trans rfl
  have hf_gp_9 := blk_frozen BK_gp.out 9
  have BK_gt := Aside0.mk hBN
  have GE_gt := Aside0.mk (Nat.le_trans HBo.out.size hG.out)
  clear HBo hG hBN hB
  have hc_gt_0 : w3_.cell? ⟨gt, 0, none⟩ = some (.int .i64 t.f0) := (blk_cell BK_gt.out 0).trans rfl
  have hf_gt_0 := blk_frozen BK_gt.out 0
  have hc_gt_1 : w3_.cell? ⟨gt, 1, none⟩ = some (.int .i64 t.f1) := (blk_cell BK_gt.out 1).trans rfl
  have hf_gt_1 := blk_frozen BK_gt.out 1
  go_upto_region 3 with (first | ((with_reducible refine gate_dst (N := 4) rfl ?_); (try (refine gate_guard (by rfl) ?_; dsimp only)); refine box_event ?hg (N := 4) ?hd (cs := #[.int .u32 0, .bool false, .int .i64 0, .slice none 0 0]) (t := 28) ?hr ?_; (case hd => rfl); (case hg => rfl); (case hr => first | (go_simp; done) | (go_simp; rfl)); intro gm hg w4_ hbox hB0; have hG := Aside0.mk (show w3_.heap.size ≤ gm from Nat.le_of_eq hg.symm); clear hg; have hBX := Aside0.mk hbox; have hB1 := Aside0.mk hB0; clear hB0; have hc_gm_0 : w4_.cell? ⟨gm, 0, none⟩ = some (.int .u32 0) := (blk_cell hbox 0).trans rfl; have hf_gm_0 := blk_frozen hbox 0; have hc_gm_1 : w4_.cell? ⟨gm, 1, none⟩ = some (.bool false) := (blk_cell hbox 1).trans rfl; have hf_gm_1 := blk_frozen hbox 1; have hc_gm_2 : w4_.cell? ⟨gm, 2, none⟩ = some (.int .i64 0) := (blk_cell hbox 2).trans rfl; have hf_gm_2 := blk_frozen hbox 2; have hc_gm_3 : w4_.cell? ⟨gm, 3, none⟩ = some (.slice none 0 0) := (blk_cell hbox 3).trans rfl; have hf_gm_3 := blk_frozen hbox 3; clear hbox))
  have hB : Below w3_.heap.size w3_ ((((w4_.setCell ⟨gm, 0, none⟩ (.int .u32 x.f0)).setCell ⟨gm, 1, none⟩ (.bool x.f1)).setCell ⟨gm, 2, none⟩ (.int .i64 x.f2)).setCell ⟨gm, 3, none⟩ (.slice A_x x.f3.length c_x)) := (below_set (below_set (below_set (below_set hB1.out hG.out) hG.out) hG.out) hG.out)
  have hBN : ((((w4_.setCell ⟨gm, 0, none⟩ (.int .u32 x.f0)).setCell ⟨gm, 1, none⟩ (.bool x.f1)).setCell ⟨gm, 2, none⟩ (.int .i64 x.f2)).setCell ⟨gm, 3, none⟩ (.slice A_x x.f3.length c_x)).heap[gm]? = some (.cells #[.int .u32 x.f0, .bool x.f1, .int .i64 x.f2, .slice A_x x.f3.length c_x] 28 (0, 0)) := (blk_put (cs := #[.int .u32 x.f0, .bool x.f1, .int .i64 x.f2, .slice none 0 0]) (blk_put (cs := #[.int .u32 x.f0, .bool x.f1, .int .i64 0, .slice none 0 0]) (blk_put (cs := #[.int .u32 x.f0, .bool false, .int .i64 0, .slice none 0 0]) (blk_put (cs := #[.int .u32 0, .bool false, .int .i64 0, .slice none 0 0]) hBX.out 0 (.int .u32 x.f0) rfl) 1 (.bool x.f1) rfl) 2 (.int .i64 x.f2) rfl) 3 (.slice A_x x.f3.length c_x) rfl)
  clear hBX hB1
  clear hc_gm_0 hf_gm_0 hc_gm_1 hf_gm_1 hc_gm_2 hf_gm_2 hc_gm_3 hf_gm_3
  generalize ((((w4_.setCell ⟨gm, 0, none⟩ (.int .u32 x.f0)).setCell ⟨gm, 1, none⟩ (.bool x.f1)).setCell ⟨gm, 2, none⟩ (.int .i64 x.f2)).setCell ⟨gm, 3, none⟩ (.slice A_x x.f3.length c_x)) = w5_ at hB hBN ⊢
  have NB_gm_gp := Aside0.mk (show gm ≠ gp from Nat.ne_of_gt (Nat.lt_of_lt_of_le (blk_lt (g := gp) (o := .cells #[.int .i64 t.f0, .int .i64 t.f1, .int .u32 x.f0, .bool x.f1, .int .i64 x.f2, .slice A_x x.f3.length c_x, .int .u8 kind, .slice A_l l.length c_l, .int .i64 n0, .int .i64 n1] 53 (0, 0)) BK_gp.out) hG.out))
  have NB_gp_gm := Aside0.mk (Ne.symm NB_gm_gp.out)
  have NB_gm_gt := Aside0.mk (show gm ≠ gt from Nat.ne_of_gt (Nat.lt_of_lt_of_le (blk_lt (g := gt) (o := .cells #[.int .i64 t.f0, .int .i64 t.f1] 23 (0, 0)) BK_gt.out) hG.out))
  have NB_gt_gm := Aside0.mk (Ne.symm NB_gm_gt.out)
  have HBo := Aside0.mk HB.out
  have nHB := Aside0.mk (HB.out.trans (hB.mono HB.out.size))
  clear HB
  have HB := nHB
  clear nHB
  clear hc_gp_0 hf_gp_0 hc_gp_1 hf_gp_1 hc_gp_2 hf_gp_2 hc_gp_3 hf_gp_3 hc_gp_4 hf_gp_4 hc_gp_5 hf_gp_5 hc_gp_6 hf_gp_6 hc_gp_7 hf_gp_7 hc_gp_8 hf_gp_8 hc_gp_9 hf_gp_9
  have nBK := Aside0.mk (blk_below (g := gp) (o := .cells #[.int .i64 t.f0, .int .i64 t.f1, .int .u32 x.f0, .bool x.f1, .int .i64 x.f2, .slice A_x x.f3.length c_x, .int .u8 kind, .slice A_l l.length c_l, .int .i64 n0, .int .i64 n1] 53 (0, 0)) BK_gp.out hB)
  clear BK_gp
  have BK_gp := nBK
  clear nBK
  have hc_gp_0 : w5_.cell? ⟨gp, 0, none⟩ = some (.int .i64 t.f0) := (blk_cell BK_gp.out 0).trans rfl
  have hf_gp_0 := blk_frozen BK_gp.out 0
  have hc_gp_1 : w5_.cell? ⟨gp, 1, none⟩ = some (.int .i64 t.f1) := (blk_cell BK_gp.out 1).trans rfl
  have hf_gp_1 := blk_frozen BK_gp.out 1
  have hc_gp_2 : w5_.cell? ⟨gp, 2, none⟩ = some (.int .u32 x.f0) := (blk_cell BK_gp.out 2).trans rfl
  have hf_gp_2 := blk_frozen BK_gp.out 2
  have hc_gp_3 : w5_.cell? ⟨gp, 3, none⟩ = some (.bool x.f1) := (blk_cell BK_gp.out 3).trans rfl
  have hf_gp_3 := blk_frozen BK_gp.out 3
  have hc_gp_4 : w5_.cell? ⟨gp, 4, none⟩ = some (.int .i64 x.f2) := (blk_cell BK_gp.out 4).trans rfl
  have hf_gp_4 := blk_frozen BK_gp.out 4
  have hc_gp_5 : w5_.cell? ⟨gp, 5, none⟩ = some (.slice A_x x.f3.length c_x) := (blk_cell BK_gp.out 5).trans rfl
  have hf_gp_5 := blk_frozen BK_gp.out 5
  have hc_gp_6 : w5_.cell? ⟨gp, 6, none⟩ = some (.int .u8 kind) := (blk_cell BK_gp.out 6).trans rfl
  have hf_gp_6 := blk_frozen BK_gp.out 6
  have hc_gp_7 : w5_.cell? ⟨gp, 7, none⟩ = some (.slice A_l l.length c_l) := (blk_cell BK_gp.out 7).trans rfl
  have hf_gp_7 := blk_frozen BK_gp.out 7
  have hc_gp_8 : w5_.cell? ⟨gp, 8, none⟩ = some (.int .i64 n0) := (blk_cell BK_gp.out 8).trans rfl
  have hf_gp_8 := blk_frozen BK_gp.out 8
  have hc_gp_9 : w5_.cell? ⟨gp, 9, none⟩ = some (.int .i64 n1) := (blk_cell BK_gp.out 9).trans rfl
  have hf_gp_9 := blk_frozen BK_gp.out 9
  clear hc_gt_0 hf_gt_0 hc_gt_1 hf_gt_1
  have nBK := Aside0.mk (blk_below (g := gt) (o := .cells #[.int .i64 t.f0, .int .i64 t.f1] 23 (0, 0)) BK_gt.out hB)
  clear BK_gt
  have BK_gt := nBK
  clear nBK
  have hc_gt_0 : w5_.cell? ⟨gt, 0, none⟩ = some (.int .i64 t.f0) := (blk_cell BK_gt.out 0).trans rfl
  have hf_gt_0 := blk_frozen BK_gt.out 0
  have hc_gt_1 : w5_.cell? ⟨gt, 1, none⟩ = some (.int .i64 t.f1) := (blk_cell BK_gt.out 1).trans rfl
  have hf_gt_1 := blk_frozen BK_gt.out 1
  have BK_gm := Aside0.mk hBN
  have GE_gm := Aside0.mk (Nat.le_trans HBo.out.size hG.out)
  clear HBo hG hBN hB
  have hc_gm_0 : w5_.cell? ⟨gm, 0, none⟩ = some (.int .u32 x.f0) := (blk_cell BK_gm.out 0).trans rfl
  have hf_gm_0 := blk_frozen BK_gm.out 0
  have hc_gm_1 : w5_.cell? ⟨gm, 1, none⟩ = some (.bool x.f1) := (blk_cell BK_gm.out 1).trans rfl
  have hf_gm_1 := blk_frozen BK_gm.out 1
  have hc_gm_2 : w5_.cell? ⟨gm, 2, none⟩ = some (.int .i64 x.f2) := (blk_cell BK_gm.out 2).trans rfl
  have hf_gm_2 := blk_frozen BK_gm.out 2
  have hc_gm_3 : w5_.cell? ⟨gm, 3, none⟩ = some (.slice A_x x.f3.length c_x) := (blk_cell BK_gm.out 3).trans rfl
  have hf_gm_3 := blk_frozen BK_gm.out 3
  go_upto_region 6 with (first | ((with_reducible refine gate_dst (N := 7) rfl ?_); (try (refine gate_guard (by rfl) ?_; dsimp only)); refine box_event ?hg (N := 7) ?hd (cs := #[.int .i64 0, .int .i64 0]) (t := 51) ?hr ?_; (case hd => rfl); (case hg => rfl); (case hr => first | (go_simp; done) | (go_simp; rfl)); intro gn hg w6_ hbox hB0; have hG := Aside0.mk (show w5_.heap.size ≤ gn from Nat.le_of_eq hg.symm); clear hg; have hBX := Aside0.mk hbox; have hB1 := Aside0.mk hB0; clear hB0; have hc_gn_0 : w6_.cell? ⟨gn, 0, none⟩ = some (.int .i64 0) := (blk_cell hbox 0).trans rfl; have hf_gn_0 := blk_frozen hbox 0; have hc_gn_1 : w6_.cell? ⟨gn, 1, none⟩ = some (.int .i64 0) := (blk_cell hbox 1).trans rfl; have hf_gn_1 := blk_frozen hbox 1; clear hbox))
  have hB : Below w5_.heap.size w5_ ((w6_.setCell ⟨gn, 0, none⟩ (.int .i64 n0)).setCell ⟨gn, 1, none⟩ (.int .i64 n1)) := (below_set (below_set hB1.out hG.out) hG.out)
  have hBN : ((w6_.setCell ⟨gn, 0, none⟩ (.int .i64 n0)).setCell ⟨gn, 1, none⟩ (.int .i64 n1)).heap[gn]? = some (.cells #[.int .i64 n0, .int .i64 n1] 51 (0, 0)) := (blk_put (cs := #[.int .i64 n0, .int .i64 0]) (blk_put (cs := #[.int .i64 0, .int .i64 0]) hBX.out 0 (.int .i64 n0) rfl) 1 (.int .i64 n1) rfl)
  clear hBX hB1
  clear hc_gn_0 hf_gn_0 hc_gn_1 hf_gn_1
  generalize ((w6_.setCell ⟨gn, 0, none⟩ (.int .i64 n0)).setCell ⟨gn, 1, none⟩ (.int .i64 n1)) = w7_ at hB hBN ⊢
  have NB_gn_gp := Aside0.mk (show gn ≠ gp from Nat.ne_of_gt (Nat.lt_of_lt_of_le (blk_lt (g := gp) (o := .cells #[.int .i64 t.f0, .int .i64 t.f1, .int .u32 x.f0, .bool x.f1, .int .i64 x.f2, .slice A_x x.f3.length c_x, .int .u8 kind, .slice A_l l.length c_l, .int .i64 n0, .int .i64 n1] 53 (0, 0)) BK_gp.out) hG.out))
  have NB_gp_gn := Aside0.mk (Ne.symm NB_gn_gp.out)
  have NB_gn_gt := Aside0.mk (show gn ≠ gt from Nat.ne_of_gt (Nat.lt_of_lt_of_le (blk_lt (g := gt) (o := .cells #[.int .i64 t.f0, .int .i64 t.f1] 23 (0, 0)) BK_gt.out) hG.out))
  have NB_gt_gn := Aside0.mk (Ne.symm NB_gn_gt.out)
  have NB_gn_gm := Aside0.mk (show gn ≠ gm from Nat.ne_of_gt (Nat.lt_of_lt_of_le (blk_lt (g := gm) (o := .cells #[.int .u32 x.f0, .bool x.f1, .int .i64 x.f2, .slice A_x x.f3.length c_x] 28 (0, 0)) BK_gm.out) hG.out))
  have NB_gm_gn := Aside0.mk (Ne.symm NB_gn_gm.out)
  have HBo := Aside0.mk HB.out
  have nHB := Aside0.mk (HB.out.trans (hB.mono HB.out.size))
  clear HB
  have HB := nHB
  clear nHB
  clear hc_gp_0 hf_gp_0 hc_gp_1 hf_gp_1 hc_gp_2 hf_gp_2 hc_gp_3 hf_gp_3 hc_gp_4 hf_gp_4 hc_gp_5 hf_gp_5 hc_gp_6 hf_gp_6 hc_gp_7 hf_gp_7 hc_gp_8 hf_gp_8 hc_gp_9 hf_gp_9
  have nBK := Aside0.mk (blk_below (g := gp) (o := .cells #[.int .i64 t.f0, .int .i64 t.f1, .int .u32 x.f0, .bool x.f1, .int .i64 x.f2, .slice A_x x.f3.length c_x, .int .u8 kind, .slice A_l l.length c_l, .int .i64 n0, .int .i64 n1] 53 (0, 0)) BK_gp.out hB)
  clear BK_gp
  have BK_gp := nBK
  clear nBK
  have hc_gp_0 : w7_.cell? ⟨gp, 0, none⟩ = some (.int .i64 t.f0) := (blk_cell BK_gp.out 0).trans rfl
  have hf_gp_0 := blk_frozen BK_gp.out 0
  have hc_gp_1 : w7_.cell? ⟨gp, 1, none⟩ = some (.int .i64 t.f1) := (blk_cell BK_gp.out 1).trans rfl
  have hf_gp_1 := blk_frozen BK_gp.out 1
  have hc_gp_2 : w7_.cell? ⟨gp, 2, none⟩ = some (.int .u32 x.f0) := (blk_cell BK_gp.out 2).trans rfl
  have hf_gp_2 := blk_frozen BK_gp.out 2
  have hc_gp_3 : w7_.cell? ⟨gp, 3, none⟩ = some (.bool x.f1) := (blk_cell BK_gp.out 3).trans rfl
  have hf_gp_3 := blk_frozen BK_gp.out 3
  have hc_gp_4 : w7_.cell? ⟨gp, 4, none⟩ = some (.int .i64 x.f2) := (blk_cell BK_gp.out 4).trans rfl
  have hf_gp_4 := blk_frozen BK_gp.out 4
  have hc_gp_5 : w7_.cell? ⟨gp, 5, none⟩ = some (.slice A_x x.f3.length c_x) := (blk_cell BK_gp.out 5).trans rfl
  have hf_gp_5 := blk_frozen BK_gp.out 5
  have hc_gp_6 : w7_.cell? ⟨gp, 6, none⟩ = some (.int .u8 kind) := (blk_cell BK_gp.out 6).trans rfl
  have hf_gp_6 := blk_frozen BK_gp.out 6
  have hc_gp_7 : w7_.cell? ⟨gp, 7, none⟩ = some (.slice A_l l.length c_l) := (blk_cell BK_gp.out 7).trans rfl
  have hf_gp_7 := blk_frozen BK_gp.out 7
  have hc_gp_8 : w7_.cell? ⟨gp, 8, none⟩ = some (.int .i64 n0) := (blk_cell BK_gp.out 8).trans rfl
  have hf_gp_8 := blk_frozen BK_gp.out 8
  have hc_gp_9 : w7_.cell? ⟨gp, 9, none⟩ = some (.int .i64 n1) := (blk_cell BK_gp.out 9).trans rfl
  have hf_gp_9 := blk_frozen BK_gp.out 9
  clear hc_gt_0 hf_gt_0 hc_gt_1 hf_gt_1
  have nBK := Aside0.mk (blk_below (g := gt) (o := .cells #[.int .i64 t.f0, .int .i64 t.f1] 23 (0, 0)) BK_gt.out hB)
  clear BK_gt
  have BK_gt := nBK
  clear nBK
  have hc_gt_0 : w7_.cell? ⟨gt, 0, none⟩ = some (.int .i64 t.f0) := (blk_cell BK_gt.out 0).trans rfl
  have hf_gt_0 := blk_frozen BK_gt.out 0
  have hc_gt_1 : w7_.cell? ⟨gt, 1, none⟩ = some (.int .i64 t.f1) := (blk_cell BK_gt.out 1).trans rfl
  have hf_gt_1 := blk_frozen BK_gt.out 1
  clear hc_gm_0 hf_gm_0 hc_gm_1 hf_gm_1 hc_gm_2 hf_gm_2 hc_gm_3 hf_gm_3
  have nBK := Aside0.mk (blk_below (g := gm) (o := .cells #[.int .u32 x.f0, .bool x.f1, .int .i64 x.f2, .slice A_x x.f3.length c_x] 28 (0, 0)) BK_gm.out hB)
  clear BK_gm
  have BK_gm := nBK
  clear nBK
  have hc_gm_0 : w7_.cell? ⟨gm, 0, none⟩ = some (.int .u32 x.f0) := (blk_cell BK_gm.out 0).trans rfl
  have hf_gm_0 := blk_frozen BK_gm.out 0
  have hc_gm_1 : w7_.cell? ⟨gm, 1, none⟩ = some (.bool x.f1) := (blk_cell BK_gm.out 1).trans rfl
  have hf_gm_1 := blk_frozen BK_gm.out 1
  have hc_gm_2 : w7_.cell? ⟨gm, 2, none⟩ = some (.int .i64 x.f2) := (blk_cell BK_gm.out 2).trans rfl
  have hf_gm_2 := blk_frozen BK_gm.out 2
  have hc_gm_3 : w7_.cell? ⟨gm, 3, none⟩ = some (.slice A_x x.f3.length c_x) := (blk_cell BK_gm.out 3).trans rfl
  have hf_gm_3 := blk_frozen BK_gm.out 3
  have BK_gn := Aside0.mk hBN
  have GE_gn := Aside0.mk (Nat.le_trans HBo.out.size hG.out)
  clear HBo hG hBN hB
  have hc_gn_0 : w7_.cell? ⟨gn, 0, none⟩ = some (.int .i64 n0) := (blk_cell BK_gn.out 0).trans rfl
  have hf_gn_0 := blk_frozen BK_gn.out 0
  have hc_gn_1 : w7_.cell? ⟨gn, 1, none⟩ = some (.int .i64 n1) := (blk_cell BK_gn.out 1).trans rfl
  have hf_gn_1 := blk_frozen BK_gn.out 1
  go_wp2_with (first | (go_at_call 9; with_reducible refine (shown_w _).mono ?_; rintro e w8_ ⟨rfl, hB⟩; have nHB := Aside0.mk (HB.out.trans (hB.mono HB.out.size)); clear HB; have HB := nHB; clear nHB; clear hc_gp_0 hf_gp_0 hc_gp_1 hf_gp_1 hc_gp_2 hf_gp_2 hc_gp_3 hf_gp_3 hc_gp_4 hf_gp_4 hc_gp_5 hf_gp_5 hc_gp_6 hf_gp_6 hc_gp_7 hf_gp_7 hc_gp_8 hf_gp_8 hc_gp_9 hf_gp_9; have nBK := Aside0.mk (blk_below (g := gp) (o := .cells #[.int .i64 t.f0, .int .i64 t.f1, .int .u32 x.f0, .bool x.f1, .int .i64 x.f2, .slice A_x x.f3.length c_x, .int .u8 kind, .slice A_l l.length c_l, .int .i64 n0, .int .i64 n1] 53 (0, 0)) BK_gp.out hB); clear BK_gp; have BK_gp := nBK; clear nBK; have hc_gp_0 : w8_.cell? ⟨gp, 0, none⟩ = some (.int .i64 t.f0) := (blk_cell BK_gp.out 0).trans rfl; have hf_gp_0 := blk_frozen BK_gp.out 0; have hc_gp_1 : w8_.cell? ⟨gp, 1, none⟩ = some (.int .i64 t.f1) := (blk_cell BK_gp.out 1).trans rfl; have hf_gp_1 := blk_frozen BK_gp.out 1; have hc_gp_2 : w8_.cell? ⟨gp, 2, none⟩ = some (.int .u32 x.f0) := (blk_cell BK_gp.out 2).trans rfl; have hf_gp_2 := blk_frozen BK_gp.out 2; have hc_gp_3 : w8_.cell? ⟨gp, 3, none⟩ = some (.bool x.f1) := (blk_cell BK_gp.out 3).trans rfl; have hf_gp_3 := blk_frozen BK_gp.out 3; have hc_gp_4 : w8_.cell? ⟨gp, 4, none⟩ = some (.int .i64 x.f2) := (blk_cell BK_gp.out 4).trans rfl; have hf_gp_4 := blk_frozen BK_gp.out 4; have hc_gp_5 : w8_.cell? ⟨gp, 5, none⟩ = some (.slice A_x x.f3.length c_x) := (blk_cell BK_gp.out 5).trans rfl; have hf_gp_5 := blk_frozen BK_gp.out 5; have hc_gp_6 : w8_.cell? ⟨gp, 6, none⟩ = some (.int .u8 kind) := (blk_cell BK_gp.out 6).trans rfl; have hf_gp_6 := blk_frozen BK_gp.out 6; have hc_gp_7 : w8_.cell? ⟨gp, 7, none⟩ = some (.slice A_l l.length c_l) := (blk_cell BK_gp.out 7).trans rfl; have hf_gp_7 := blk_frozen BK_gp.out 7; have hc_gp_8 : w8_.cell? ⟨gp, 8, none⟩ = some (.int .i64 n0) := (blk_cell BK_gp.out 8).trans rfl; have hf_gp_8 := blk_frozen BK_gp.out 8; have hc_gp_9 : w8_.cell? ⟨gp, 9, none⟩ = some (.int .i64 n1) := (blk_cell BK_gp.out 9).trans rfl; have hf_gp_9 := blk_frozen BK_gp.out 9; clear hc_gt_0 hf_gt_0 hc_gt_1 hf_gt_1; have nBK := Aside0.mk (blk_below (g := gt) (o := .cells #[.int .i64 t.f0, .int .i64 t.f1] 23 (0, 0)) BK_gt.out hB); clear BK_gt; have BK_gt := nBK; clear nBK; have hc_gt_0 : w8_.cell? ⟨gt, 0, none⟩ = some (.int .i64 t.f0) := (blk_cell BK_gt.out 0).trans rfl; have hf_gt_0 := blk_frozen BK_gt.out 0; have hc_gt_1 : w8_.cell? ⟨gt, 1, none⟩ = some (.int .i64 t.f1) := (blk_cell BK_gt.out 1).trans rfl; have hf_gt_1 := blk_frozen BK_gt.out 1; clear hc_gm_0 hf_gm_0 hc_gm_1 hf_gm_1 hc_gm_2 hf_gm_2 hc_gm_3 hf_gm_3; have nBK := Aside0.mk (blk_below (g := gm) (o := .cells #[.int .u32 x.f0, .bool x.f1, .int .i64 x.f2, .slice A_x x.f3.length c_x] 28 (0, 0)) BK_gm.out hB); clear BK_gm; have BK_gm := nBK; clear nBK; have hc_gm_0 : w8_.cell? ⟨gm, 0, none⟩ = some (.int .u32 x.f0) := (blk_cell BK_gm.out 0).trans rfl; have hf_gm_0 := blk_frozen BK_gm.out 0; have hc_gm_1 : w8_.cell? ⟨gm, 1, none⟩ = some (.bool x.f1) := (blk_cell BK_gm.out 1).trans rfl; have hf_gm_1 := blk_frozen BK_gm.out 1; have hc_gm_2 : w8_.cell? ⟨gm, 2, none⟩ = some (.int .i64 x.f2) := (blk_cell BK_gm.out 2).trans rfl; have hf_gm_2 := blk_frozen BK_gm.out 2; have hc_gm_3 : w8_.cell? ⟨gm, 3, none⟩ = some (.slice A_x x.f3.length c_x) := (blk_cell BK_gm.out 3).trans rfl; have hf_gm_3 := blk_frozen BK_gm.out 3; clear hc_gn_0 hf_gn_0 hc_gn_1 hf_gn_1; have nBK := Aside0.mk (blk_below (g := gn) (o := .cells #[.int .i64 n0, .int .i64 n1] 51 (0, 0)) BK_gn.out hB); clear BK_gn; have BK_gn := nBK; clear nBK; have hc_gn_0 : w8_.cell? ⟨gn, 0, none⟩ = some (.int .i64 n0) := (blk_cell BK_gn.out 0).trans rfl; have hf_gn_0 := blk_frozen BK_gn.out 0; have hc_gn_1 : w8_.cell? ⟨gn, 1, none⟩ = some (.int .i64 n1) := (blk_cell BK_gn.out 1).trans rfl; have hf_gn_1 := blk_frozen BK_gn.out 1; clear hB) | (go_at_call 10; with_reducible refine (mayR_w Xhm.out _).mono ?_; rintro e w9_ ⟨rfl, hB⟩; have nHB := Aside0.mk (HB.out.trans (hB.mono HB.out.size)); clear HB; have HB := nHB; clear nHB; clear hc_gp_0 hf_gp_0 hc_gp_1 hf_gp_1 hc_gp_2 hf_gp_2 hc_gp_3 hf_gp_3 hc_gp_4 hf_gp_4 hc_gp_5 hf_gp_5 hc_gp_6 hf_gp_6 hc_gp_7 hf_gp_7 hc_gp_8 hf_gp_8 hc_gp_9 hf_gp_9; have nBK := Aside0.mk (blk_below (g := gp) (o := .cells #[.int .i64 t.f0, .int .i64 t.f1, .int .u32 x.f0, .bool x.f1, .int .i64 x.f2, .slice A_x x.f3.length c_x, .int .u8 kind, .slice A_l l.length c_l, .int .i64 n0, .int .i64 n1] 53 (0, 0)) BK_gp.out hB); clear BK_gp; have BK_gp := nBK; clear nBK; have hc_gp_0 : w9_.cell? ⟨gp, 0, none⟩ = some (.int .i64 t.f0) := (blk_cell BK_gp.out 0).trans rfl; have hf_gp_0 := blk_frozen BK_gp.out 0; have hc_gp_1 : w9_.cell? ⟨gp, 1, none⟩ = some (.int .i64 t.f1) := (blk_cell BK_gp.out 1).trans rfl; have hf_gp_1 := blk_frozen BK_gp.out 1; have hc_gp_2 : w9_.cell? ⟨gp, 2, none⟩ = some (.int .u32 x.f0) := (blk_cell BK_gp.out 2).trans rfl; have hf_gp_2 := blk_frozen BK_gp.out 2; have hc_gp_3 : w9_.cell? ⟨gp, 3, none⟩ = some (.bool x.f1) := (blk_cell BK_gp.out 3).trans rfl; have hf_gp_3 := blk_frozen BK_gp.out 3; have hc_gp_4 : w9_.cell? ⟨gp, 4, none⟩ = some (.int .i64 x.f2) := (blk_cell BK_gp.out 4).trans rfl; have hf_gp_4 := blk_frozen BK_gp.out 4; have hc_gp_5 : w9_.cell? ⟨gp, 5, none⟩ = some (.slice A_x x.f3.length c_x) := (blk_cell BK_gp.out 5).trans rfl; have hf_gp_5 := blk_frozen BK_gp.out 5; have hc_gp_6 : w9_.cell? ⟨gp, 6, none⟩ = some (.int .u8 kind) := (blk_cell BK_gp.out 6).trans rfl; have hf_gp_6 := blk_frozen BK_gp.out 6; have hc_gp_7 : w9_.cell? ⟨gp, 7, none⟩ = some (.slice A_l l.length c_l) := (blk_cell BK_gp.out 7).trans rfl; have hf_gp_7 := blk_frozen BK_gp.out 7; have hc_gp_8 : w9_.cell? ⟨gp, 8, none⟩ = some (.int .i64 n0) := (blk_cell BK_gp.out 8).trans rfl; have hf_gp_8 := blk_frozen BK_gp.out 8; have hc_gp_9 : w9_.cell? ⟨gp, 9, none⟩ = some (.int .i64 n1) := (blk_cell BK_gp.out 9).trans rfl; have hf_gp_9 := blk_frozen BK_gp.out 9; clear hc_gt_0 hf_gt_0 hc_gt_1 hf_gt_1; have nBK := Aside0.mk (blk_below (g := gt) (o := .cells #[.int .i64 t.f0, .int .i64 t.f1] 23 (0, 0)) BK_gt.out hB); clear BK_gt; have BK_gt := nBK; clear nBK; have hc_gt_0 : w9_.cell? ⟨gt, 0, none⟩ = some (.int .i64 t.f0) := (blk_cell BK_gt.out 0).trans rfl; have hf_gt_0 := blk_frozen BK_gt.out 0; have hc_gt_1 : w9_.cell? ⟨gt, 1, none⟩ = some (.int .i64 t.f1) := (blk_cell BK_gt.out 1).trans rfl; have hf_gt_1 := blk_frozen BK_gt.out 1; clear hc_gm_0 hf_gm_0 hc_gm_1 hf_gm_1 hc_gm_2 hf_gm_2 hc_gm_3 hf_gm_3; have nBK := Aside0.mk (blk_below (g := gm) (o := .cells #[.int .u32 x.f0, .bool x.f1, .int .i64 x.f2, .slice A_x x.f3.length c_x] 28 (0, 0)) BK_gm.out hB); clear BK_gm; have BK_gm := nBK; clear nBK; have hc_gm_0 : w9_.cell? ⟨gm, 0, none⟩ = some (.int .u32 x.f0) := (blk_cell BK_gm.out 0).trans rfl; have hf_gm_0 := blk_frozen BK_gm.out 0; have hc_gm_1 : w9_.cell? ⟨gm, 1, none⟩ = some (.bool x.f1) := (blk_cell BK_gm.out 1).trans rfl; have hf_gm_1 := blk_frozen BK_gm.out 1; have hc_gm_2 : w9_.cell? ⟨gm, 2, none⟩ = some (.int .i64 x.f2) := (blk_cell BK_gm.out 2).trans rfl; have hf_gm_2 := blk_frozen BK_gm.out 2; have hc_gm_3 : w9_.cell? ⟨gm, 3, none⟩ = some (.slice A_x x.f3.length c_x) := (blk_cell BK_gm.out 3).trans rfl; have hf_gm_3 := blk_frozen BK_gm.out 3; clear hc_gn_0 hf_gn_0 hc_gn_1 hf_gn_1; have nBK := Aside0.mk (blk_below (g := gn) (o := .cells #[.int .i64 n0, .int .i64 n1] 51 (0, 0)) BK_gn.out hB); clear BK_gn; have BK_gn := nBK; clear nBK; have hc_gn_0 : w9_.cell? ⟨gn, 0, none⟩ = some (.int .i64 n0) := (blk_cell BK_gn.out 0).trans rfl; have hf_gn_0 := blk_frozen BK_gn.out 0; have hc_gn_1 : w9_.cell? ⟨gn, 1, none⟩ = some (.int .i64 n1) := (blk_cell BK_gn.out 1).trans rfl; have hf_gn_1 := blk_frozen BK_gn.out 1; clear hB))
  go_ret
  exact ⟨rfl, HB.out⟩
set_option maxHeartbeats 8000000 in
set_option maxRecDepth 100000 in
theorem mstays_wrong {t : S23} {x : S28} {kind : Int} {l : List Int} {n0 n1 : Int} (hm : mayB t = true) (hx : ¬ MOk x) (A_x : Option Addr) (c_x : Nat) (A_l : Option Addr) (c_l : Nat) (w : World) (hr : Kd.C k49 w A_x x.f3.length x.f3) (hc : x.f3.length ≤ c_x) (hs : Kd.C (Kd.int .u32) w A_l l.length l) (hcs : l.length ≤ c_l) :
    Calls Try.prog 5 #[.agg #[.int .i64 t.f0, .int .i64 t.f1, .int .u32 x.f0, .bool x.f1, .int .i64 x.f2, .slice A_x x.f3.length c_x, .int .u8 kind, .slice A_l l.length c_l, .int .i64 n0, .int .i64 n1]] w (fun e w' => e = .returned (.bool true) ∧ Below w.heap.size w w') := by
  have hu23 := Try.underlying23
  have hu28 := Try.underlying28
  have hu51 := Try.underlying51
  have hu53 := Try.underlying53
  have HB := Aside0.mk (Below.refl w.heap.size w)
  have HC_x := Aside0.mk hr
  have HK_x := Aside0.mk hc
  have HC_l := Aside0.mk hs
  have HK_l := Aside0.mk hcs
  clear hr hc hs hcs
  have Xhm := Aside0.mk hm
  have Xhx := Aside0.mk hx
  clear hm hx
  go_enter Try.func5, Try.ntmps5
  go_upto_region 2 with (first | ((with_reducible refine gate_dst (N := 1) rfl ?_); (try (refine gate_guard (by rfl) ?_; dsimp only)); refine box_event ?hg (N := 1) ?hd (cs := #[.int .i64 t.f0, .int .i64 t.f1, .int .u32 x.f0, .bool x.f1, .int .i64 x.f2, .slice A_x x.f3.length c_x, .int .u8 kind, .slice A_l l.length c_l, .int .i64 n0, .int .i64 n1]) (t := 53) ?hr ?_; (case hd => rfl); (case hg => rfl); (case hr => first | (go_simp; done) | (go_simp; rfl)); intro gp hg w1_ hbox hB; have HBo := Aside0.mk HB.out; have nHB := Aside0.mk (HB.out.trans (hB.mono HB.out.size)); clear HB; have HB := nHB; clear nHB; have BK_gp := Aside0.mk hbox; have GE_gp := Aside0.mk (show w.heap.size ≤ gp by rw [hg]; exact HBo.out.size); clear hg hbox hB; have hc_gp_0 : w1_.cell? ⟨gp, 0, none⟩ = some (.int .i64 t.f0) := (blk_cell BK_gp.out 0).trans rfl; have hf_gp_0 := blk_frozen BK_gp.out 0; have hc_gp_1 : w1_.cell? ⟨gp, 1, none⟩ = some (.int .i64 t.f1) := (blk_cell BK_gp.out 1).trans rfl; have hf_gp_1 := blk_frozen BK_gp.out 1; have hc_gp_2 : w1_.cell? ⟨gp, 2, none⟩ = some (.int .u32 x.f0) := (blk_cell BK_gp.out 2).trans rfl; have hf_gp_2 := blk_frozen BK_gp.out 2; have hc_gp_3 : w1_.cell? ⟨gp, 3, none⟩ = some (.bool x.f1) := (blk_cell BK_gp.out 3).trans rfl; have hf_gp_3 := blk_frozen BK_gp.out 3; have hc_gp_4 : w1_.cell? ⟨gp, 4, none⟩ = some (.int .i64 x.f2) := (blk_cell BK_gp.out 4).trans rfl; have hf_gp_4 := blk_frozen BK_gp.out 4; have hc_gp_5 : w1_.cell? ⟨gp, 5, none⟩ = some (.slice A_x x.f3.length c_x) := (blk_cell BK_gp.out 5).trans rfl; have hf_gp_5 := blk_frozen BK_gp.out 5; have hc_gp_6 : w1_.cell? ⟨gp, 6, none⟩ = some (.int .u8 kind) := (blk_cell BK_gp.out 6).trans rfl; have hf_gp_6 := blk_frozen BK_gp.out 6; have hc_gp_7 : w1_.cell? ⟨gp, 7, none⟩ = some (.slice A_l l.length c_l) := (blk_cell BK_gp.out 7).trans rfl; have hf_gp_7 := blk_frozen BK_gp.out 7; have hc_gp_8 : w1_.cell? ⟨gp, 8, none⟩ = some (.int .i64 n0) := (blk_cell BK_gp.out 8).trans rfl; have hf_gp_8 := blk_frozen BK_gp.out 8; have hc_gp_9 : w1_.cell? ⟨gp, 9, none⟩ = some (.int .i64 n1) := (blk_cell BK_gp.out 9).trans rfl; have hf_gp_9 := blk_frozen BK_gp.out 9; clear HBo) | ((with_reducible refine gate_dst (N := 3) rfl ?_); (try (refine gate_guard (by rfl) ?_; dsimp only)); refine box_event ?hg (N := 3) ?hd (cs := #[.int .i64 0, .int .i64 0]) (t := 23) ?hr ?_; (case hd => rfl); (case hg => rfl); (case hr => first | (go_simp; done) | (go_simp; rfl)); intro gt hg w2_ hbox hB0; have hG := Aside0.mk (show w1_.heap.size ≤ gt from Nat.le_of_eq hg.symm); clear hg; have hBX := Aside0.mk hbox; have hB1 := Aside0.mk hB0; clear hB0; have hc_gt_0 : w2_.cell? ⟨gt, 0, none⟩ = some (.int .i64 0) := (blk_cell hbox 0).trans rfl; have hf_gt_0 := blk_frozen hbox 0; have hc_gt_1 : w2_.cell? ⟨gt, 1, none⟩ = some (.int .i64 0) := (blk_cell hbox 1).trans rfl; have hf_gt_1 := blk_frozen hbox 1; clear hbox))
  have hB : Below w1_.heap.size w1_ ((w2_.setCell ⟨gt, 0, none⟩ (.int .i64 t.f0)).setCell ⟨gt, 1, none⟩ (.int .i64 t.f1)) := (below_set (below_set hB1.out hG.out) hG.out)
  have hBN : ((w2_.setCell ⟨gt, 0, none⟩ (.int .i64 t.f0)).setCell ⟨gt, 1, none⟩ (.int .i64 t.f1)).heap[gt]? = some (.cells #[.int .i64 t.f0, .int .i64 t.f1] 23 (0, 0)) := (blk_put (cs := #[.int .i64 t.f0, .int .i64 0]) (blk_put (cs := #[.int .i64 0, .int .i64 0]) hBX.out 0 (.int .i64 t.f0) rfl) 1 (.int .i64 t.f1) rfl)
  clear hBX hB1
  clear hc_gt_0 hf_gt_0 hc_gt_1 hf_gt_1
  generalize ((w2_.setCell ⟨gt, 0, none⟩ (.int .i64 t.f0)).setCell ⟨gt, 1, none⟩ (.int .i64 t.f1)) = w3_ at hB hBN ⊢
  have NB_gt_gp := Aside0.mk (show gt ≠ gp from Nat.ne_of_gt (Nat.lt_of_lt_of_le (blk_lt (g := gp) (o := .cells #[.int .i64 t.f0, .int .i64 t.f1, .int .u32 x.f0, .bool x.f1, .int .i64 x.f2, .slice A_x x.f3.length c_x, .int .u8 kind, .slice A_l l.length c_l, .int .i64 n0, .int .i64 n1] 53 (0, 0)) BK_gp.out) hG.out))
  have NB_gp_gt := Aside0.mk (Ne.symm NB_gt_gp.out)
  have HBo := Aside0.mk HB.out
  have nHB := Aside0.mk (HB.out.trans (hB.mono HB.out.size))
  clear HB
  have HB := nHB
  clear nHB
  clear hc_gp_0 hf_gp_0 hc_gp_1 hf_gp_1 hc_gp_2 hf_gp_2 hc_gp_3 hf_gp_3 hc_gp_4 hf_gp_4 hc_gp_5 hf_gp_5 hc_gp_6 hf_gp_6 hc_gp_7 hf_gp_7 hc_gp_8 hf_gp_8 hc_gp_9 hf_gp_9
  have nBK := Aside0.mk (blk_below (g := gp) (o := .cells #[.int .i64 t.f0, .int .i64 t.f1, .int .u32 x.f0, .bool x.f1, .int .i64 x.f2, .slice A_x x.f3.length c_x, .int .u8 kind, .slice A_l l.length c_l, .int .i64 n0, .int .i64 n1] 53 (0, 0)) BK_gp.out hB)
  clear BK_gp
  have BK_gp := nBK
  clear nBK
  have hc_gp_0 : w3_.cell? ⟨gp, 0, none⟩ = some (.int .i64 t.f0) := (blk_cell BK_gp.out 0).trans rfl
  have hf_gp_0 := blk_frozen BK_gp.out 0
  have hc_gp_1 : w3_.cell? ⟨gp, 1, none⟩ = some (.int .i64 t.f1) := (blk_cell BK_gp.out 1).trans rfl
  have hf_gp_1 := blk_frozen BK_gp.out 1
  have hc_gp_2 : w3_.cell? ⟨gp, 2, none⟩ = some (.int .u32 x.f0) := (blk_cell BK_gp.out 2).trans rfl
  have hf_gp_2 := blk_frozen BK_gp.out 2
  have hc_gp_3 : w3_.cell? ⟨gp, 3, none⟩ = some (.bool x.f1) := (blk_cell BK_gp.out 3).trans rfl
  have hf_gp_3 := blk_frozen BK_gp.out 3
  have hc_gp_4 : w3_.cell? ⟨gp, 4, none⟩ = some (.int .i64 x.f2) := (blk_cell BK_gp.out 4).trans rfl
  have hf_gp_4 := blk_frozen BK_gp.out 4
  have hc_gp_5 : w3_.cell? ⟨gp, 5, none⟩ = some (.slice A_x x.f3.length c_x) := (blk_cell BK_gp.out 5).trans rfl
  have hf_gp_5 := blk_frozen BK_gp.out 5
  have hc_gp_6 : w3_.cell? ⟨gp, 6, none⟩ = some (.int .u8 kind) := (blk_cell BK_gp.out 6).trans rfl
  have hf_gp_6 := blk_frozen BK_gp.out 6
  have hc_gp_7 : w3_.cell? ⟨gp, 7, none⟩ = some (.slice A_l l.length c_l) := (blk_cell BK_gp.out 7).trans rfl
  have hf_gp_7 := blk_frozen BK_gp.out 7
  have hc_gp_8 : w3_.cell? ⟨gp, 8, none⟩ = some (.int .i64 n0) := (blk_cell BK_gp.out 8).trans rfl
  have hf_gp_8 := blk_frozen BK_gp.out 8
  have hc_gp_9 : w3_.cell? ⟨gp, 9, none⟩ = some (.int .i64 n1) := (blk_cell BK_gp.out 9).trans rfl
  have hf_gp_9 := blk_frozen BK_gp.out 9
  have BK_gt := Aside0.mk hBN
  have GE_gt := Aside0.mk (Nat.le_trans HBo.out.size hG.out)
  clear HBo hG hBN hB
  have hc_gt_0 : w3_.cell? ⟨gt, 0, none⟩ = some (.int .i64 t.f0) := (blk_cell BK_gt.out 0).trans rfl
  have hf_gt_0 := blk_frozen BK_gt.out 0
  have hc_gt_1 : w3_.cell? ⟨gt, 1, none⟩ = some (.int .i64 t.f1) := (blk_cell BK_gt.out 1).trans rfl
  have hf_gt_1 := blk_frozen BK_gt.out 1
  go_upto_region 3 with (first | ((with_reducible refine gate_dst (N := 4) rfl ?_); (try (refine gate_guard (by rfl) ?_; dsimp only)); refine box_event ?hg (N := 4) ?hd (cs := #[.int .u32 0, .bool false, .int .i64 0, .slice none 0 0]) (t := 28) ?hr ?_; (case hd => rfl); (case hg => rfl); (case hr => first | (go_simp; done) | (go_simp; rfl)); intro gm hg w4_ hbox hB0; have hG := Aside0.mk (show w3_.heap.size ≤ gm from Nat.le_of_eq hg.symm); clear hg; have hBX := Aside0.mk hbox; have hB1 := Aside0.mk hB0; clear hB0; have hc_gm_0 : w4_.cell? ⟨gm, 0, none⟩ = some (.int .u32 0) := (blk_cell hbox 0).trans rfl; have hf_gm_0 := blk_frozen hbox 0; have hc_gm_1 : w4_.cell? ⟨gm, 1, none⟩ = some (.bool false) := (blk_cell hbox 1).trans rfl; have hf_gm_1 := blk_frozen hbox 1; have hc_gm_2 : w4_.cell? ⟨gm, 2, none⟩ = some (.int .i64 0) := (blk_cell hbox 2).trans rfl; have hf_gm_2 := blk_frozen hbox 2; have hc_gm_3 : w4_.cell? ⟨gm, 3, none⟩ = some (.slice none 0 0) := (blk_cell hbox 3).trans rfl; have hf_gm_3 := blk_frozen hbox 3; clear hbox))
  have hB : Below w3_.heap.size w3_ ((((w4_.setCell ⟨gm, 0, none⟩ (.int .u32 x.f0)).setCell ⟨gm, 1, none⟩ (.bool x.f1)).setCell ⟨gm, 2, none⟩ (.int .i64 x.f2)).setCell ⟨gm, 3, none⟩ (.slice A_x x.f3.length c_x)) := (below_set (below_set (below_set (below_set hB1.out hG.out) hG.out) hG.out) hG.out)
  have hBN : ((((w4_.setCell ⟨gm, 0, none⟩ (.int .u32 x.f0)).setCell ⟨gm, 1, none⟩ (.bool x.f1)).setCell ⟨gm, 2, none⟩ (.int .i64 x.f2)).setCell ⟨gm, 3, none⟩ (.slice A_x x.f3.length c_x)).heap[gm]? = some (.cells #[.int .u32 x.f0, .bool x.f1, .int .i64 x.f2, .slice A_x x.f3.length c_x] 28 (0, 0)) := (blk_put (cs := #[.int .u32 x.f0, .bool x.f1, .int .i64 x.f2, .slice none 0 0]) (blk_put (cs := #[.int .u32 x.f0, .bool x.f1, .int .i64 0, .slice none 0 0]) (blk_put (cs := #[.int .u32 x.f0, .bool false, .int .i64 0, .slice none 0 0]) (blk_put (cs := #[.int .u32 0, .bool false, .int .i64 0, .slice none 0 0]) hBX.out 0 (.int .u32 x.f0) rfl) 1 (.bool x.f1) rfl) 2 (.int .i64 x.f2) rfl) 3 (.slice A_x x.f3.length c_x) rfl)
  clear hBX hB1
  clear hc_gm_0 hf_gm_0 hc_gm_1 hf_gm_1 hc_gm_2 hf_gm_2 hc_gm_3 hf_gm_3
  generalize ((((w4_.setCell ⟨gm, 0, none⟩ (.int .u32 x.f0)).setCell ⟨gm, 1, none⟩ (.bool x.f1)).setCell ⟨gm, 2, none⟩ (.int .i64 x.f2)).setCell ⟨gm, 3, none⟩ (.slice A_x x.f3.length c_x)) = w5_ at hB hBN ⊢
  have NB_gm_gp := Aside0.mk (show gm ≠ gp from Nat.ne_of_gt (Nat.lt_of_lt_of_le (blk_lt (g := gp) (o := .cells #[.int .i64 t.f0, .int .i64 t.f1, .int .u32 x.f0, .bool x.f1, .int .i64 x.f2, .slice A_x x.f3.length c_x, .int .u8 kind, .slice A_l l.length c_l, .int .i64 n0, .int .i64 n1] 53 (0, 0)) BK_gp.out) hG.out))
  have NB_gp_gm := Aside0.mk (Ne.symm NB_gm_gp.out)
  have NB_gm_gt := Aside0.mk (show gm ≠ gt from Nat.ne_of_gt (Nat.lt_of_lt_of_le (blk_lt (g := gt) (o := .cells #[.int .i64 t.f0, .int .i64 t.f1] 23 (0, 0)) BK_gt.out) hG.out))
  have NB_gt_gm := Aside0.mk (Ne.symm NB_gm_gt.out)
  have HBo := Aside0.mk HB.out
  have nHB := Aside0.mk (HB.out.trans (hB.mono HB.out.size))
  clear HB
  have HB := nHB
  clear nHB
  clear hc_gp_0 hf_gp_0 hc_gp_1 hf_gp_1 hc_gp_2 hf_gp_2 hc_gp_3 hf_gp_3 hc_gp_4 hf_gp_4 hc_gp_5 hf_gp_5 hc_gp_6 hf_gp_6 hc_gp_7 hf_gp_7 hc_gp_8 hf_gp_8 hc_gp_9 hf_gp_9
  have nBK := Aside0.mk (blk_below (g := gp) (o := .cells #[.int .i64 t.f0, .int .i64 t.f1, .int .u32 x.f0, .bool x.f1, .int .i64 x.f2, .slice A_x x.f3.length c_x, .int .u8 kind, .slice A_l l.length c_l, .int .i64 n0, .int .i64 n1] 53 (0, 0)) BK_gp.out hB)
  clear BK_gp
  have BK_gp := nBK
  clear nBK
  have hc_gp_0 : w5_.cell? ⟨gp, 0, none⟩ = some (.int .i64 t.f0) := (blk_cell BK_gp.out 0).trans rfl
  have hf_gp_0 := blk_frozen BK_gp.out 0
  have hc_gp_1 : w5_.cell? ⟨gp, 1, none⟩ = some (.int .i64 t.f1) := (blk_cell BK_gp.out 1).trans rfl
  have hf_gp_1 := blk_frozen BK_gp.out 1
  have hc_gp_2 : w5_.cell? ⟨gp, 2, none⟩ = some (.int .u32 x.f0) := (blk_cell BK_gp.out 2).trans rfl
  have hf_gp_2 := blk_frozen BK_gp.out 2
  have hc_gp_3 : w5_.cell? ⟨gp, 3, none⟩ = some (.bool x.f1) := (blk_cell BK_gp.out 3).trans rfl
  have hf_gp_3 := blk_frozen BK_gp.out 3
  have hc_gp_4 : w5_.cell? ⟨gp, 4, none⟩ = some (.int .i64 x.f2) := (blk_cell BK_gp.out 4).trans rfl
  have hf_gp_4 := blk_frozen BK_gp.out 4
  have hc_gp_5 : w5_.cell? ⟨gp, 5, none⟩ = some (.slice A_x x.f3.length c_x) := (blk_cell BK_gp.out 5).trans rfl
  have hf_gp_5 := blk_frozen BK_gp.out 5
  have hc_gp_6 : w5_.cell? ⟨gp, 6, none⟩ = some (.int .u8 kind) := (blk_cell BK_gp.out 6).trans rfl
  have hf_gp_6 := blk_frozen BK_gp.out 6
  have hc_gp_7 : w5_.cell? ⟨gp, 7, none⟩ = some (.slice A_l l.length c_l) := (blk_cell BK_gp.out 7).trans rfl
  have hf_gp_7 := blk_frozen BK_gp.out 7
  have hc_gp_8 : w5_.cell? ⟨gp, 8, none⟩ = some (.int .i64 n0) := (blk_cell BK_gp.out 8).trans rfl
  have hf_gp_8 := blk_frozen BK_gp.out 8
  have hc_gp_9 : w5_.cell? ⟨gp, 9, none⟩ = some (.int .i64 n1) := (blk_cell BK_gp.out 9).trans rfl
  have hf_gp_9 := blk_frozen BK_gp.out 9
  clear hc_gt_0 hf_gt_0 hc_gt_1 hf_gt_1
  have nBK := Aside0.mk (blk_below (g := gt) (o := .cells #[.int .i64 t.f0, .int .i64 t.f1] 23 (0, 0)) BK_gt.out hB)
  clear BK_gt
  have BK_gt := nBK
  clear nBK
  have hc_gt_0 : w5_.cell? ⟨gt, 0, none⟩ = some (.int .i64 t.f0) := (blk_cell BK_gt.out 0).trans rfl
  have hf_gt_0 := blk_frozen BK_gt.out 0
  have hc_gt_1 : w5_.cell? ⟨gt, 1, none⟩ = some (.int .i64 t.f1) := (blk_cell BK_gt.out 1).trans rfl
  have hf_gt_1 := blk_frozen BK_gt.out 1
  have BK_gm := Aside0.mk hBN
  have GE_gm := Aside0.mk (Nat.le_trans HBo.out.size hG.out)
  clear HBo hG hBN hB
  have hc_gm_0 : w5_.cell? ⟨gm, 0, none⟩ = some (.int .u32 x.f0) := (blk_cell BK_gm.out 0).trans rfl
  have hf_gm_0 := blk_frozen BK_gm.out 0
  have hc_gm_1 : w5_.cell? ⟨gm, 1, none⟩ = some (.bool x.f1) := (blk_cell BK_gm.out 1).trans rfl
  have hf_gm_1 := blk_frozen BK_gm.out 1
  have hc_gm_2 : w5_.cell? ⟨gm, 2, none⟩ = some (.int .i64 x.f2) := (blk_cell BK_gm.out 2).trans rfl
  have hf_gm_2 := blk_frozen BK_gm.out 2
  have hc_gm_3 : w5_.cell? ⟨gm, 3, none⟩ = some (.slice A_x x.f3.length c_x) := (blk_cell BK_gm.out 3).trans rfl
  have hf_gm_3 := blk_frozen BK_gm.out 3
  go_upto_region 6 with (first | ((with_reducible refine gate_dst (N := 7) rfl ?_); (try (refine gate_guard (by rfl) ?_; dsimp only)); refine box_event ?hg (N := 7) ?hd (cs := #[.int .i64 0, .int .i64 0]) (t := 51) ?hr ?_; (case hd => rfl); (case hg => rfl); (case hr => first | (go_simp; done) | (go_simp; rfl)); intro gn hg w6_ hbox hB0; have hG := Aside0.mk (show w5_.heap.size ≤ gn from Nat.le_of_eq hg.symm); clear hg; have hBX := Aside0.mk hbox; have hB1 := Aside0.mk hB0; clear hB0; have hc_gn_0 : w6_.cell? ⟨gn, 0, none⟩ = some (.int .i64 0) := (blk_cell hbox 0).trans rfl; have hf_gn_0 := blk_frozen hbox 0; have hc_gn_1 : w6_.cell? ⟨gn, 1, none⟩ = some (.int .i64 0) := (blk_cell hbox 1).trans rfl; have hf_gn_1 := blk_frozen hbox 1; clear hbox))
  have hB : Below w5_.heap.size w5_ ((w6_.setCell ⟨gn, 0, none⟩ (.int .i64 n0)).setCell ⟨gn, 1, none⟩ (.int .i64 n1)) := (below_set (below_set hB1.out hG.out) hG.out)
  have hBN : ((w6_.setCell ⟨gn, 0, none⟩ (.int .i64 n0)).setCell ⟨gn, 1, none⟩ (.int .i64 n1)).heap[gn]? = some (.cells #[.int .i64 n0, .int .i64 n1] 51 (0, 0)) := (blk_put (cs := #[.int .i64 n0, .int .i64 0]) (blk_put (cs := #[.int .i64 0, .int .i64 0]) hBX.out 0 (.int .i64 n0) rfl) 1 (.int .i64 n1) rfl)
  clear hBX hB1
  clear hc_gn_0 hf_gn_0 hc_gn_1 hf_gn_1
  generalize ((w6_.setCell ⟨gn, 0, none⟩ (.int .i64 n0)).setCell ⟨gn, 1, none⟩ (.int .i64 n1)) = w7_ at hB hBN ⊢
  have NB_gn_gp := Aside0.mk (show gn ≠ gp from Nat.ne_of_gt (Nat.lt_of_lt_of_le (blk_lt (g := gp) (o := .cells #[.int .i64 t.f0, .int .i64 t.f1, .int .u32 x.f0, .bool x.f1, .int .i64 x.f2, .slice A_x x.f3.length c_x, .int .u8 kind, .slice A_l l.length c_l, .int .i64 n0, .int .i64 n1] 53 (0, 0)) BK_gp.out) hG.out))
  have NB_gp_gn := Aside0.mk (Ne.symm NB_gn_gp.out)
  have NB_gn_gt := Aside0.mk (show gn ≠ gt from Nat.ne_of_gt (Nat.lt_of_lt_of_le (blk_lt (g := gt) (o := .cells #[.int .i64 t.f0, .int .i64 t.f1] 23 (0, 0)) BK_gt.out) hG.out))
  have NB_gt_gn := Aside0.mk (Ne.symm NB_gn_gt.out)
  have NB_gn_gm := Aside0.mk (show gn ≠ gm from Nat.ne_of_gt (Nat.lt_of_lt_of_le (blk_lt (g := gm) (o := .cells #[.int .u32 x.f0, .bool x.f1, .int .i64 x.f2, .slice A_x x.f3.length c_x] 28 (0, 0)) BK_gm.out) hG.out))
  have NB_gm_gn := Aside0.mk (Ne.symm NB_gn_gm.out)
  have HBo := Aside0.mk HB.out
  have nHB := Aside0.mk (HB.out.trans (hB.mono HB.out.size))
  clear HB
  have HB := nHB
  clear nHB
  clear hc_gp_0 hf_gp_0 hc_gp_1 hf_gp_1 hc_gp_2 hf_gp_2 hc_gp_3 hf_gp_3 hc_gp_4 hf_gp_4 hc_gp_5 hf_gp_5 hc_gp_6 hf_gp_6 hc_gp_7 hf_gp_7 hc_gp_8 hf_gp_8 hc_gp_9 hf_gp_9
  have nBK := Aside0.mk (blk_below (g := gp) (o := .cells #[.int .i64 t.f0, .int .i64 t.f1, .int .u32 x.f0, .bool x.f1, .int .i64 x.f2, .slice A_x x.f3.length c_x, .int .u8 kind, .slice A_l l.length c_l, .int .i64 n0, .int .i64 n1] 53 (0, 0)) BK_gp.out hB)
  clear BK_gp
  have BK_gp := nBK
  clear nBK
  have hc_gp_0 : w7_.cell? ⟨gp, 0, none⟩ = some (.int .i64 t.f0) := (blk_cell BK_gp.out 0).trans rfl
  have hf_gp_0 := blk_frozen BK_gp.out 0
  have hc_gp_1 : w7_.cell? ⟨gp, 1, none⟩ = some (.int .i64 t.f1) := (blk_cell BK_gp.out 1).trans rfl
  have hf_gp_1 := blk_frozen BK_gp.out 1
  have hc_gp_2 : w7_.cell? ⟨gp, 2, none⟩ = some (.int .u32 x.f0) := (blk_cell BK_gp.out 2).trans rfl
  have hf_gp_2 := blk_frozen BK_gp.out 2
  have hc_gp_3 : w7_.cell? ⟨gp, 3, none⟩ = some (.bool x.f1) := (blk_cell BK_gp.out 3).trans rfl
  have hf_gp_3 := blk_frozen BK_gp.out 3
  have hc_gp_4 : w7_.cell? ⟨gp, 4, none⟩ = some (.int .i64 x.f2) := (blk_cell BK_gp.out 4).trans rfl
  have hf_gp_4 := blk_frozen BK_gp.out 4
  have hc_gp_5 : w7_.cell? ⟨gp, 5, none⟩ = some (.slice A_x x.f3.length c_x) := (blk_cell BK_gp.out 5).trans rfl
  have hf_gp_5 := blk_frozen BK_gp.out 5
  have hc_gp_6 : w7_.cell? ⟨gp, 6, none⟩ = some (.int .u8 kind) := (blk_cell BK_gp.out 6).trans rfl
  have hf_gp_6 := blk_frozen BK_gp.out 6
  have hc_gp_7 : w7_.cell? ⟨gp, 7, none⟩ = some (.slice A_l l.length c_l) := (blk_cell BK_gp.out 7).trans rfl
  have hf_gp_7 := blk_frozen BK_gp.out 7
  have hc_gp_8 : w7_.cell? ⟨gp, 8, none⟩ = some (.int .i64 n0) := (blk_cell BK_gp.out 8).trans rfl
  have hf_gp_8 := blk_frozen BK_gp.out 8
  have hc_gp_9 : w7_.cell? ⟨gp, 9, none⟩ = some (.int .i64 n1) := (blk_cell BK_gp.out 9).trans rfl
  have hf_gp_9 := blk_frozen BK_gp.out 9
  clear hc_gt_0 hf_gt_0 hc_gt_1 hf_gt_1
  have nBK := Aside0.mk (blk_below (g := gt) (o := .cells #[.int .i64 t.f0, .int .i64 t.f1] 23 (0, 0)) BK_gt.out hB)
  clear BK_gt
  have BK_gt := nBK
  clear nBK
  have hc_gt_0 : w7_.cell? ⟨gt, 0, none⟩ = some (.int .i64 t.f0) := (blk_cell BK_gt.out 0).trans rfl
  have hf_gt_0 := blk_frozen BK_gt.out 0
  have hc_gt_1 : w7_.cell? ⟨gt, 1, none⟩ = some (.int .i64 t.f1) := (blk_cell BK_gt.out 1).trans rfl
  have hf_gt_1 := blk_frozen BK_gt.out 1
  clear hc_gm_0 hf_gm_0 hc_gm_1 hf_gm_1 hc_gm_2 hf_gm_2 hc_gm_3 hf_gm_3
  have nBK := Aside0.mk (blk_below (g := gm) (o := .cells #[.int .u32 x.f0, .bool x.f1, .int .i64 x.f2, .slice A_x x.f3.length c_x] 28 (0, 0)) BK_gm.out hB)
  clear BK_gm
  have BK_gm := nBK
  clear nBK
  have hc_gm_0 : w7_.cell? ⟨gm, 0, none⟩ = some (.int .u32 x.f0) := (blk_cell BK_gm.out 0).trans rfl
  have hf_gm_0 := blk_frozen BK_gm.out 0
  have hc_gm_1 : w7_.cell? ⟨gm, 1, none⟩ = some (.bool x.f1) := (blk_cell BK_gm.out 1).trans rfl
  have hf_gm_1 := blk_frozen BK_gm.out 1
  have hc_gm_2 : w7_.cell? ⟨gm, 2, none⟩ = some (.int .i64 x.f2) := (blk_cell BK_gm.out 2).trans rfl
  have hf_gm_2 := blk_frozen BK_gm.out 2
  have hc_gm_3 : w7_.cell? ⟨gm, 3, none⟩ = some (.slice A_x x.f3.length c_x) := (blk_cell BK_gm.out 3).trans rfl
  have hf_gm_3 := blk_frozen BK_gm.out 3
  have BK_gn := Aside0.mk hBN
  have GE_gn := Aside0.mk (Nat.le_trans HBo.out.size hG.out)
  clear HBo hG hBN hB
  have hc_gn_0 : w7_.cell? ⟨gn, 0, none⟩ = some (.int .i64 n0) := (blk_cell BK_gn.out 0).trans rfl
  have hf_gn_0 := blk_frozen BK_gn.out 0
  have hc_gn_1 : w7_.cell? ⟨gn, 1, none⟩ = some (.int .i64 n1) := (blk_cell BK_gn.out 1).trans rfl
  have hf_gn_1 := blk_frozen BK_gn.out 1
  go_wp2_with (first | (go_at_call 9; with_reducible refine (shown_w _).mono ?_; rintro e w8_ ⟨rfl, hB⟩; have nHB := Aside0.mk (HB.out.trans (hB.mono HB.out.size)); clear HB; have HB := nHB; clear nHB; clear hc_gp_0 hf_gp_0 hc_gp_1 hf_gp_1 hc_gp_2 hf_gp_2 hc_gp_3 hf_gp_3 hc_gp_4 hf_gp_4 hc_gp_5 hf_gp_5 hc_gp_6 hf_gp_6 hc_gp_7 hf_gp_7 hc_gp_8 hf_gp_8 hc_gp_9 hf_gp_9; have nBK := Aside0.mk (blk_below (g := gp) (o := .cells #[.int .i64 t.f0, .int .i64 t.f1, .int .u32 x.f0, .bool x.f1, .int .i64 x.f2, .slice A_x x.f3.length c_x, .int .u8 kind, .slice A_l l.length c_l, .int .i64 n0, .int .i64 n1] 53 (0, 0)) BK_gp.out hB); clear BK_gp; have BK_gp := nBK; clear nBK; have hc_gp_0 : w8_.cell? ⟨gp, 0, none⟩ = some (.int .i64 t.f0) := (blk_cell BK_gp.out 0).trans rfl; have hf_gp_0 := blk_frozen BK_gp.out 0; have hc_gp_1 : w8_.cell? ⟨gp, 1, none⟩ = some (.int .i64 t.f1) := (blk_cell BK_gp.out 1).trans rfl; have hf_gp_1 := blk_frozen BK_gp.out 1; have hc_gp_2 : w8_.cell? ⟨gp, 2, none⟩ = some (.int .u32 x.f0) := (blk_cell BK_gp.out 2).trans rfl; have hf_gp_2 := blk_frozen BK_gp.out 2; have hc_gp_3 : w8_.cell? ⟨gp, 3, none⟩ = some (.bool x.f1) := (blk_cell BK_gp.out 3).trans rfl; have hf_gp_3 := blk_frozen BK_gp.out 3; have hc_gp_4 : w8_.cell? ⟨gp, 4, none⟩ = some (.int .i64 x.f2) := (blk_cell BK_gp.out 4).trans rfl; have hf_gp_4 := blk_frozen BK_gp.out 4; have hc_gp_5 : w8_.cell? ⟨gp, 5, none⟩ = some (.slice A_x x.f3.length c_x) := (blk_cell BK_gp.out 5).trans rfl; have hf_gp_5 := blk_frozen BK_gp.out 5; have hc_gp_6 : w8_.cell? ⟨gp, 6, none⟩ = some (.int .u8 kind) := (blk_cell BK_gp.out 6).trans rfl; have hf_gp_6 := blk_frozen BK_gp.out 6; have hc_gp_7 : w8_.cell? ⟨gp, 7, none⟩ = some (.slice A_l l.length c_l) := (blk_cell BK_gp.out 7).trans rfl; have hf_gp_7 := blk_frozen BK_gp.out 7; have hc_gp_8 : w8_.cell? ⟨gp, 8, none⟩ = some (.int .i64 n0) := (blk_cell BK_gp.out 8).trans rfl; have hf_gp_8 := blk_frozen BK_gp.out 8; have hc_gp_9 : w8_.cell? ⟨gp, 9, none⟩ = some (.int .i64 n1) := (blk_cell BK_gp.out 9).trans rfl; have hf_gp_9 := blk_frozen BK_gp.out 9; clear hc_gt_0 hf_gt_0 hc_gt_1 hf_gt_1; have nBK := Aside0.mk (blk_below (g := gt) (o := .cells #[.int .i64 t.f0, .int .i64 t.f1] 23 (0, 0)) BK_gt.out hB); clear BK_gt; have BK_gt := nBK; clear nBK; have hc_gt_0 : w8_.cell? ⟨gt, 0, none⟩ = some (.int .i64 t.f0) := (blk_cell BK_gt.out 0).trans rfl; have hf_gt_0 := blk_frozen BK_gt.out 0; have hc_gt_1 : w8_.cell? ⟨gt, 1, none⟩ = some (.int .i64 t.f1) := (blk_cell BK_gt.out 1).trans rfl; have hf_gt_1 := blk_frozen BK_gt.out 1; clear hc_gm_0 hf_gm_0 hc_gm_1 hf_gm_1 hc_gm_2 hf_gm_2 hc_gm_3 hf_gm_3; have nBK := Aside0.mk (blk_below (g := gm) (o := .cells #[.int .u32 x.f0, .bool x.f1, .int .i64 x.f2, .slice A_x x.f3.length c_x] 28 (0, 0)) BK_gm.out hB); clear BK_gm; have BK_gm := nBK; clear nBK; have hc_gm_0 : w8_.cell? ⟨gm, 0, none⟩ = some (.int .u32 x.f0) := (blk_cell BK_gm.out 0).trans rfl; have hf_gm_0 := blk_frozen BK_gm.out 0; have hc_gm_1 : w8_.cell? ⟨gm, 1, none⟩ = some (.bool x.f1) := (blk_cell BK_gm.out 1).trans rfl; have hf_gm_1 := blk_frozen BK_gm.out 1; have hc_gm_2 : w8_.cell? ⟨gm, 2, none⟩ = some (.int .i64 x.f2) := (blk_cell BK_gm.out 2).trans rfl; have hf_gm_2 := blk_frozen BK_gm.out 2; have hc_gm_3 : w8_.cell? ⟨gm, 3, none⟩ = some (.slice A_x x.f3.length c_x) := (blk_cell BK_gm.out 3).trans rfl; have hf_gm_3 := blk_frozen BK_gm.out 3; clear hc_gn_0 hf_gn_0 hc_gn_1 hf_gn_1; have nBK := Aside0.mk (blk_below (g := gn) (o := .cells #[.int .i64 n0, .int .i64 n1] 51 (0, 0)) BK_gn.out hB); clear BK_gn; have BK_gn := nBK; clear nBK; have hc_gn_0 : w8_.cell? ⟨gn, 0, none⟩ = some (.int .i64 n0) := (blk_cell BK_gn.out 0).trans rfl; have hf_gn_0 := blk_frozen BK_gn.out 0; have hc_gn_1 : w8_.cell? ⟨gn, 1, none⟩ = some (.int .i64 n1) := (blk_cell BK_gn.out 1).trans rfl; have hf_gn_1 := blk_frozen BK_gn.out 1; clear hB) | (go_at_call 10; with_reducible refine (mayR_w Xhm.out _).mono ?_; rintro e w9_ ⟨rfl, hB⟩; have nHB := Aside0.mk (HB.out.trans (hB.mono HB.out.size)); clear HB; have HB := nHB; clear nHB; clear hc_gp_0 hf_gp_0 hc_gp_1 hf_gp_1 hc_gp_2 hf_gp_2 hc_gp_3 hf_gp_3 hc_gp_4 hf_gp_4 hc_gp_5 hf_gp_5 hc_gp_6 hf_gp_6 hc_gp_7 hf_gp_7 hc_gp_8 hf_gp_8 hc_gp_9 hf_gp_9; have nBK := Aside0.mk (blk_below (g := gp) (o := .cells #[.int .i64 t.f0, .int .i64 t.f1, .int .u32 x.f0, .bool x.f1, .int .i64 x.f2, .slice A_x x.f3.length c_x, .int .u8 kind, .slice A_l l.length c_l, .int .i64 n0, .int .i64 n1] 53 (0, 0)) BK_gp.out hB); clear BK_gp; have BK_gp := nBK; clear nBK; have hc_gp_0 : w9_.cell? ⟨gp, 0, none⟩ = some (.int .i64 t.f0) := (blk_cell BK_gp.out 0).trans rfl; have hf_gp_0 := blk_frozen BK_gp.out 0; have hc_gp_1 : w9_.cell? ⟨gp, 1, none⟩ = some (.int .i64 t.f1) := (blk_cell BK_gp.out 1).trans rfl; have hf_gp_1 := blk_frozen BK_gp.out 1; have hc_gp_2 : w9_.cell? ⟨gp, 2, none⟩ = some (.int .u32 x.f0) := (blk_cell BK_gp.out 2).trans rfl; have hf_gp_2 := blk_frozen BK_gp.out 2; have hc_gp_3 : w9_.cell? ⟨gp, 3, none⟩ = some (.bool x.f1) := (blk_cell BK_gp.out 3).trans rfl; have hf_gp_3 := blk_frozen BK_gp.out 3; have hc_gp_4 : w9_.cell? ⟨gp, 4, none⟩ = some (.int .i64 x.f2) := (blk_cell BK_gp.out 4).trans rfl; have hf_gp_4 := blk_frozen BK_gp.out 4; have hc_gp_5 : w9_.cell? ⟨gp, 5, none⟩ = some (.slice A_x x.f3.length c_x) := (blk_cell BK_gp.out 5).trans rfl; have hf_gp_5 := blk_frozen BK_gp.out 5; have hc_gp_6 : w9_.cell? ⟨gp, 6, none⟩ = some (.int .u8 kind) := (blk_cell BK_gp.out 6).trans rfl; have hf_gp_6 := blk_frozen BK_gp.out 6; have hc_gp_7 : w9_.cell? ⟨gp, 7, none⟩ = some (.slice A_l l.length c_l) := (blk_cell BK_gp.out 7).trans rfl; have hf_gp_7 := blk_frozen BK_gp.out 7; have hc_gp_8 : w9_.cell? ⟨gp, 8, none⟩ = some (.int .i64 n0) := (blk_cell BK_gp.out 8).trans rfl; have hf_gp_8 := blk_frozen BK_gp.out 8; have hc_gp_9 : w9_.cell? ⟨gp, 9, none⟩ = some (.int .i64 n1) := (blk_cell BK_gp.out 9).trans rfl; have hf_gp_9 := blk_frozen BK_gp.out 9; clear hc_gt_0 hf_gt_0 hc_gt_1 hf_gt_1; have nBK := Aside0.mk (blk_below (g := gt) (o := .cells #[.int .i64 t.f0, .int .i64 t.f1] 23 (0, 0)) BK_gt.out hB); clear BK_gt; have BK_gt := nBK; clear nBK; have hc_gt_0 : w9_.cell? ⟨gt, 0, none⟩ = some (.int .i64 t.f0) := (blk_cell BK_gt.out 0).trans rfl; have hf_gt_0 := blk_frozen BK_gt.out 0; have hc_gt_1 : w9_.cell? ⟨gt, 1, none⟩ = some (.int .i64 t.f1) := (blk_cell BK_gt.out 1).trans rfl; have hf_gt_1 := blk_frozen BK_gt.out 1; clear hc_gm_0 hf_gm_0 hc_gm_1 hf_gm_1 hc_gm_2 hf_gm_2 hc_gm_3 hf_gm_3; have nBK := Aside0.mk (blk_below (g := gm) (o := .cells #[.int .u32 x.f0, .bool x.f1, .int .i64 x.f2, .slice A_x x.f3.length c_x] 28 (0, 0)) BK_gm.out hB); clear BK_gm; have BK_gm := nBK; clear nBK; have hc_gm_0 : w9_.cell? ⟨gm, 0, none⟩ = some (.int .u32 x.f0) := (blk_cell BK_gm.out 0).trans rfl; have hf_gm_0 := blk_frozen BK_gm.out 0; have hc_gm_1 : w9_.cell? ⟨gm, 1, none⟩ = some (.bool x.f1) := (blk_cell BK_gm.out 1).trans rfl; have hf_gm_1 := blk_frozen BK_gm.out 1; have hc_gm_2 : w9_.cell? ⟨gm, 2, none⟩ = some (.int .i64 x.f2) := (blk_cell BK_gm.out 2).trans rfl; have hf_gm_2 := blk_frozen BK_gm.out 2; have hc_gm_3 : w9_.cell? ⟨gm, 3, none⟩ = some (.slice A_x x.f3.length c_x) := (blk_cell BK_gm.out 3).trans rfl; have hf_gm_3 := blk_frozen BK_gm.out 3; clear hc_gn_0 hf_gn_0 hc_gn_1 hf_gn_1; have nBK := Aside0.mk (blk_below (g := gn) (o := .cells #[.int .i64 n0, .int .i64 n1] 51 (0, 0)) BK_gn.out hB); clear BK_gn; have BK_gn := nBK; clear nBK; have hc_gn_0 : w9_.cell? ⟨gn, 0, none⟩ = some (.int .i64 n0) := (blk_cell BK_gn.out 0).trans rfl; have hf_gn_0 := blk_frozen BK_gn.out 0; have hc_gn_1 : w9_.cell? ⟨gn, 1, none⟩ = some (.int .i64 n1) := (blk_cell BK_gn.out 1).trans rfl; have hf_gn_1 := blk_frozen BK_gn.out 1; clear hB) | (go_at_call 11; with_reducible refine (right_w (b := false) (by simp [Xhx.out]) _ _ _ (Kd.C_below HC_x.out HB.out) HK_x.out).mono ?_; rintro e w10_ ⟨rfl, hB⟩; have nHB := Aside0.mk (HB.out.trans (hB.mono HB.out.size)); clear HB; have HB := nHB; clear nHB; clear hc_gp_0 hf_gp_0 hc_gp_1 hf_gp_1 hc_gp_2 hf_gp_2 hc_gp_3 hf_gp_3 hc_gp_4 hf_gp_4 hc_gp_5 hf_gp_5 hc_gp_6 hf_gp_6 hc_gp_7 hf_gp_7 hc_gp_8 hf_gp_8 hc_gp_9 hf_gp_9; have nBK := Aside0.mk (blk_below (g := gp) (o := .cells #[.int .i64 t.f0, .int .i64 t.f1, .int .u32 x.f0, .bool x.f1, .int .i64 x.f2, .slice A_x x.f3.length c_x, .int .u8 kind, .slice A_l l.length c_l, .int .i64 n0, .int .i64 n1] 53 (0, 0)) BK_gp.out hB); clear BK_gp; have BK_gp := nBK; clear nBK; have hc_gp_0 : w10_.cell? ⟨gp, 0, none⟩ = some (.int .i64 t.f0) := (blk_cell BK_gp.out 0).trans rfl; have hf_gp_0 := blk_frozen BK_gp.out 0; have hc_gp_1 : w10_.cell? ⟨gp, 1, none⟩ = some (.int .i64 t.f1) := (blk_cell BK_gp.out 1).trans rfl; have hf_gp_1 := blk_frozen BK_gp.out 1; have hc_gp_2 : w10_.cell? ⟨gp, 2, none⟩ = some (.int .u32 x.f0) := (blk_cell BK_gp.out 2).trans rfl; have hf_gp_2 := blk_frozen BK_gp.out 2; have hc_gp_3 : w10_.cell? ⟨gp, 3, none⟩ = some (.bool x.f1) := (blk_cell BK_gp.out 3).trans rfl; have hf_gp_3 := blk_frozen BK_gp.out 3; have hc_gp_4 : w10_.cell? ⟨gp, 4, none⟩ = some (.int .i64 x.f2) := (blk_cell BK_gp.out 4).trans rfl; have hf_gp_4 := blk_frozen BK_gp.out 4; have hc_gp_5 : w10_.cell? ⟨gp, 5, none⟩ = some (.slice A_x x.f3.length c_x) := (blk_cell BK_gp.out 5).trans rfl; have hf_gp_5 := blk_frozen BK_gp.out 5; have hc_gp_6 : w10_.cell? ⟨gp, 6, none⟩ = some (.int .u8 kind) := (blk_cell BK_gp.out 6).trans rfl; have hf_gp_6 := blk_frozen BK_gp.out 6; have hc_gp_7 : w10_.cell? ⟨gp, 7, none⟩ = some (.slice A_l l.length c_l) := (blk_cell BK_gp.out 7).trans rfl; have hf_gp_7 := blk_frozen BK_gp.out 7; have hc_gp_8 : w10_.cell? ⟨gp, 8, none⟩ = some (.int .i64 n0) := (blk_cell BK_gp.out 8).trans rfl; have hf_gp_8 := blk_frozen BK_gp.out 8; have hc_gp_9 : w10_.cell? ⟨gp, 9, none⟩ = some (.int .i64 n1) := (blk_cell BK_gp.out 9).trans rfl; have hf_gp_9 := blk_frozen BK_gp.out 9; clear hc_gt_0 hf_gt_0 hc_gt_1 hf_gt_1; have nBK := Aside0.mk (blk_below (g := gt) (o := .cells #[.int .i64 t.f0, .int .i64 t.f1] 23 (0, 0)) BK_gt.out hB); clear BK_gt; have BK_gt := nBK; clear nBK; have hc_gt_0 : w10_.cell? ⟨gt, 0, none⟩ = some (.int .i64 t.f0) := (blk_cell BK_gt.out 0).trans rfl; have hf_gt_0 := blk_frozen BK_gt.out 0; have hc_gt_1 : w10_.cell? ⟨gt, 1, none⟩ = some (.int .i64 t.f1) := (blk_cell BK_gt.out 1).trans rfl; have hf_gt_1 := blk_frozen BK_gt.out 1; clear hc_gm_0 hf_gm_0 hc_gm_1 hf_gm_1 hc_gm_2 hf_gm_2 hc_gm_3 hf_gm_3; have nBK := Aside0.mk (blk_below (g := gm) (o := .cells #[.int .u32 x.f0, .bool x.f1, .int .i64 x.f2, .slice A_x x.f3.length c_x] 28 (0, 0)) BK_gm.out hB); clear BK_gm; have BK_gm := nBK; clear nBK; have hc_gm_0 : w10_.cell? ⟨gm, 0, none⟩ = some (.int .u32 x.f0) := (blk_cell BK_gm.out 0).trans rfl; have hf_gm_0 := blk_frozen BK_gm.out 0; have hc_gm_1 : w10_.cell? ⟨gm, 1, none⟩ = some (.bool x.f1) := (blk_cell BK_gm.out 1).trans rfl; have hf_gm_1 := blk_frozen BK_gm.out 1; have hc_gm_2 : w10_.cell? ⟨gm, 2, none⟩ = some (.int .i64 x.f2) := (blk_cell BK_gm.out 2).trans rfl; have hf_gm_2 := blk_frozen BK_gm.out 2; have hc_gm_3 : w10_.cell? ⟨gm, 3, none⟩ = some (.slice A_x x.f3.length c_x) := (blk_cell BK_gm.out 3).trans rfl; have hf_gm_3 := blk_frozen BK_gm.out 3; clear hc_gn_0 hf_gn_0 hc_gn_1 hf_gn_1; have nBK := Aside0.mk (blk_below (g := gn) (o := .cells #[.int .i64 n0, .int .i64 n1] 51 (0, 0)) BK_gn.out hB); clear BK_gn; have BK_gn := nBK; clear nBK; have hc_gn_0 : w10_.cell? ⟨gn, 0, none⟩ = some (.int .i64 n0) := (blk_cell BK_gn.out 0).trans rfl; have hf_gn_0 := blk_frozen BK_gn.out 0; have hc_gn_1 : w10_.cell? ⟨gn, 1, none⟩ = some (.int .i64 n1) := (blk_cell BK_gn.out 1).trans rfl; have hf_gn_1 := blk_frozen BK_gn.out 1; clear hB))
  go_ret
  exact ⟨rfl, HB.out⟩
set_option maxHeartbeats 8000000 in
set_option maxRecDepth 100000 in
theorem mstays_long {t : S23} {x : S28} {kind : Int} {l : List Int} {n0 n1 : Int} (hm : mayB t = true) (hx : MOk x) (h1 : (200 : Int) < (l.length : Int)) (A_x : Option Addr) (c_x : Nat) (A_l : Option Addr) (c_l : Nat) (w : World) (hr : Kd.C k49 w A_x x.f3.length x.f3) (hc : x.f3.length ≤ c_x) (hs : Kd.C (Kd.int .u32) w A_l l.length l) (hcs : l.length ≤ c_l) :
    Calls Try.prog 5 #[.agg #[.int .i64 t.f0, .int .i64 t.f1, .int .u32 x.f0, .bool x.f1, .int .i64 x.f2, .slice A_x x.f3.length c_x, .int .u8 kind, .slice A_l l.length c_l, .int .i64 n0, .int .i64 n1]] w (fun e w' => e = .returned (.bool true) ∧ Below w.heap.size w w') := by
  have hu23 := Try.underlying23
  have hu28 := Try.underlying28
  have hu51 := Try.underlying51
  have hu53 := Try.underlying53
  have HB := Aside0.mk (Below.refl w.heap.size w)
  have HC_x := Aside0.mk hr
  have HK_x := Aside0.mk hc
  have HC_l := Aside0.mk hs
  have HK_l := Aside0.mk hcs
  clear hr hc hs hcs
  have Xhm := Aside0.mk hm
  have Xhx := Aside0.mk hx
  clear hm hx
  go_enter Try.func5, Try.ntmps5
  go_upto_region 2 with (first | ((with_reducible refine gate_dst (N := 1) rfl ?_); (try (refine gate_guard (by rfl) ?_; dsimp only)); refine box_event ?hg (N := 1) ?hd (cs := #[.int .i64 t.f0, .int .i64 t.f1, .int .u32 x.f0, .bool x.f1, .int .i64 x.f2, .slice A_x x.f3.length c_x, .int .u8 kind, .slice A_l l.length c_l, .int .i64 n0, .int .i64 n1]) (t := 53) ?hr ?_; (case hd => rfl); (case hg => rfl); (case hr => first | (go_simp; done) | (go_simp; rfl)); intro gp hg w1_ hbox hB; have HBo := Aside0.mk HB.out; have nHB := Aside0.mk (HB.out.trans (hB.mono HB.out.size)); clear HB; have HB := nHB; clear nHB; have BK_gp := Aside0.mk hbox; have GE_gp := Aside0.mk (show w.heap.size ≤ gp by rw [hg]; exact HBo.out.size); clear hg hbox hB; have hc_gp_0 : w1_.cell? ⟨gp, 0, none⟩ = some (.int .i64 t.f0) := (blk_cell BK_gp.out 0).trans rfl; have hf_gp_0 := blk_frozen BK_gp.out 0; have hc_gp_1 : w1_.cell? ⟨gp, 1, none⟩ = some (.int .i64 t.f1) := (blk_cell BK_gp.out 1).trans rfl; have hf_gp_1 := blk_frozen BK_gp.out 1; have hc_gp_2 : w1_.cell? ⟨gp, 2, none⟩ = some (.int .u32 x.f0) := (blk_cell BK_gp.out 2).trans rfl; have hf_gp_2 := blk_frozen BK_gp.out 2; have hc_gp_3 : w1_.cell? ⟨gp, 3, none⟩ = some (.bool x.f1) := (blk_cell BK_gp.out 3).trans rfl; have hf_gp_3 := blk_frozen BK_gp.out 3; have hc_gp_4 : w1_.cell? ⟨gp, 4, none⟩ = some (.int .i64 x.f2) := (blk_cell BK_gp.out 4).trans rfl; have hf_gp_4 := blk_frozen BK_gp.out 4; have hc_gp_5 : w1_.cell? ⟨gp, 5, none⟩ = some (.slice A_x x.f3.length c_x) := (blk_cell BK_gp.out 5).trans rfl; have hf_gp_5 := blk_frozen BK_gp.out 5; have hc_gp_6 : w1_.cell? ⟨gp, 6, none⟩ = some (.int .u8 kind) := (blk_cell BK_gp.out 6).trans rfl; have hf_gp_6 := blk_frozen BK_gp.out 6; have hc_gp_7 : w1_.cell? ⟨gp, 7, none⟩ = some (.slice A_l l.length c_l) := (blk_cell BK_gp.out 7).trans rfl; have hf_gp_7 := blk_frozen BK_gp.out 7; have hc_gp_8 : w1_.cell? ⟨gp, 8, none⟩ = some (.int .i64 n0) := (blk_cell BK_gp.out 8).trans rfl; have hf_gp_8 := blk_frozen BK_gp.out 8; have hc_gp_9 : w1_.cell? ⟨gp, 9, none⟩ = some (.int .i64 n1) := (blk_cell BK_gp.out 9).trans rfl; have hf_gp_9 := blk_frozen BK_gp.out 9; clear HBo) | ((with_reducible refine gate_dst (N := 3) rfl ?_); (try (refine gate_guard (by rfl) ?_; dsimp only)); refine box_event ?hg (N := 3) ?hd (cs := #[.int .i64 0, .int .i64 0]) (t := 23) ?hr ?_; (case hd => rfl); (case hg => rfl); (case hr => first | (go_simp; done) | (go_simp; rfl)); intro gt hg w2_ hbox hB0; have hG := Aside0.mk (show w1_.heap.size ≤ gt from Nat.le_of_eq hg.symm); clear hg; have hBX := Aside0.mk hbox; have hB1 := Aside0.mk hB0; clear hB0; have hc_gt_0 : w2_.cell? ⟨gt, 0, none⟩ = some (.int .i64 0) := (blk_cell hbox 0).trans rfl; have hf_gt_0 := blk_frozen hbox 0; have hc_gt_1 : w2_.cell? ⟨gt, 1, none⟩ = some (.int .i64 0) := (blk_cell hbox 1).trans rfl; have hf_gt_1 := blk_frozen hbox 1; clear hbox))
  have hB : Below w1_.heap.size w1_ ((w2_.setCell ⟨gt, 0, none⟩ (.int .i64 t.f0)).setCell ⟨gt, 1, none⟩ (.int .i64 t.f1)) := (below_set (below_set hB1.out hG.out) hG.out)
  have hBN : ((w2_.setCell ⟨gt, 0, none⟩ (.int .i64 t.f0)).setCell ⟨gt, 1, none⟩ (.int .i64 t.f1)).heap[gt]? = some (.cells #[.int .i64 t.f0, .int .i64 t.f1] 23 (0, 0)) := (blk_put (cs := #[.int .i64 t.f0, .int .i64 0]) (blk_put (cs := #[.int .i64 0, .int .i64 0]) hBX.out 0 (.int .i64 t.f0) rfl) 1 (.int .i64 t.f1) rfl)
  clear hBX hB1
  clear hc_gt_0 hf_gt_0 hc_gt_1 hf_gt_1
  generalize ((w2_.setCell ⟨gt, 0, none⟩ (.int .i64 t.f0)).setCell ⟨gt, 1, none⟩ (.int .i64 t.f1)) = w3_ at hB hBN ⊢
  have NB_gt_gp := Aside0.mk (show gt ≠ gp from Nat.ne_of_gt (Nat.lt_of_lt_of_le (blk_lt (g := gp) (o := .cells #[.int .i64 t.f0, .int .i64 t.f1, .int .u32 x.f0, .bool x.f1, .int .i64 x.f2, .slice A_x x.f3.length c_x, .int .u8 kind, .slice A_l l.length c_l, .int .i64 n0, .int .i64 n1] 53 (0, 0)) BK_gp.out) hG.out))
  have NB_gp_gt := Aside0.mk (Ne.symm NB_gt_gp.out)
  have HBo := Aside0.mk HB.out
  have nHB := Aside0.mk (HB.out.trans (hB.mono HB.out.size))
  clear HB
  have HB := nHB
  clear nHB
  clear hc_gp_0 hf_gp_0 hc_gp_1 hf_gp_1 hc_gp_2 hf_gp_2 hc_gp_3 hf_gp_3 hc_gp_4 hf_gp_4 hc_gp_5 hf_gp_5 hc_gp_6 hf_gp_6 hc_gp_7 hf_gp_7 hc_gp_8 hf_gp_8 hc_gp_9 hf_gp_9
  have nBK := Aside0.mk (blk_below (g := gp) (o := .cells #[.int .i64 t.f0, .int .i64 t.f1, .int .u32 x.f0, .bool x.f1, .int .i64 x.f2, .slice A_x x.f3.length c_x, .int .u8 kind, .slice A_l l.length c_l, .int .i64 n0, .int .i64 n1] 53 (0, 0)) BK_gp.out hB)
  clear BK_gp
  have BK_gp := nBK
  clear nBK
  have hc_gp_0 : w3_.cell? ⟨gp, 0, none⟩ = some (.int .i64 t.f0) := (blk_cell BK_gp.out 0).trans rfl
  have hf_gp_0 := blk_frozen BK_gp.out 0
  have hc_gp_1 : w3_.cell? ⟨gp, 1, none⟩ = some (.int .i64 t.f1) := (blk_cell BK_gp.out 1).trans rfl
  have hf_gp_1 := blk_frozen BK_gp.out 1
  have hc_gp_2 : w3_.cell? ⟨gp, 2, none⟩ = some (.int .u32 x.f0) := (blk_cell BK_gp.out 2).trans rfl
  have hf_gp_2 := blk_frozen BK_gp.out 2
  have hc_gp_3 : w3_.cell? ⟨gp, 3, none⟩ = some (.bool x.f1) := (blk_cell BK_gp.out 3).trans rfl
  have hf_gp_3 := blk_frozen BK_gp.out 3
  have hc_gp_4 : w3_.cell? ⟨gp, 4, none⟩ = some (.int .i64 x.f2) := (blk_cell BK_gp.out 4).trans rfl
  have hf_gp_4 := blk_frozen BK_gp.out 4
  have hc_gp_5 : w3_.cell? ⟨gp, 5, none⟩ = some (.slice A_x x.f3.length c_x) := (blk_cell BK_gp.out 5).trans rfl
  have hf_gp_5 := blk_frozen BK_gp.out 5
  have hc_gp_6 : w3_.cell? ⟨gp, 6, none⟩ = some (.int .u8 kind) := (blk_cell BK_gp.out 6).trans rfl
  have hf_gp_6 := blk_frozen BK_gp.out 6
  have hc_gp_7 : w3_.cell? ⟨gp, 7, none⟩ = some (.slice A_l l.length c_l) := (blk_cell BK_gp.out 7).trans rfl
  have hf_gp_7 := blk_frozen BK_gp.out 7
  have hc_gp_8 : w3_.cell? ⟨gp, 8, none⟩ = some (.int .i64 n0) := (blk_cell BK_gp.out 8).trans rfl
  have hf_gp_8 := blk_frozen BK_gp.out 8
  have hc_gp_9 : w3_.cell? ⟨gp, 9, none⟩ = some (.int .i64 n1) := (blk_cell BK_gp.out 9).trans rfl
  have hf_gp_9 := blk_frozen BK_gp.out 9
  have BK_gt := Aside0.mk hBN
  have GE_gt := Aside0.mk (Nat.le_trans HBo.out.size hG.out)
  clear HBo hG hBN hB
  have hc_gt_0 : w3_.cell? ⟨gt, 0, none⟩ = some (.int .i64 t.f0) := (blk_cell BK_gt.out 0).trans rfl
  have hf_gt_0 := blk_frozen BK_gt.out 0
  have hc_gt_1 : w3_.cell? ⟨gt, 1, none⟩ = some (.int .i64 t.f1) := (blk_cell BK_gt.out 1).trans rfl
  have hf_gt_1 := blk_frozen BK_gt.out 1
  go_upto_region 3 with (first | ((with_reducible refine gate_dst (N := 4) rfl ?_); (try (refine gate_guard (by rfl) ?_; dsimp only)); refine box_event ?hg (N := 4) ?hd (cs := #[.int .u32 0, .bool false, .int .i64 0, .slice none 0 0]) (t := 28) ?hr ?_; (case hd => rfl); (case hg => rfl); (case hr => first | (go_simp; done) | (go_simp; rfl)); intro gm hg w4_ hbox hB0; have hG := Aside0.mk (show w3_.heap.size ≤ gm from Nat.le_of_eq hg.symm); clear hg; have hBX := Aside0.mk hbox; have hB1 := Aside0.mk hB0; clear hB0; have hc_gm_0 : w4_.cell? ⟨gm, 0, none⟩ = some (.int .u32 0) := (blk_cell hbox 0).trans rfl; have hf_gm_0 := blk_frozen hbox 0; have hc_gm_1 : w4_.cell? ⟨gm, 1, none⟩ = some (.bool false) := (blk_cell hbox 1).trans rfl; have hf_gm_1 := blk_frozen hbox 1; have hc_gm_2 : w4_.cell? ⟨gm, 2, none⟩ = some (.int .i64 0) := (blk_cell hbox 2).trans rfl; have hf_gm_2 := blk_frozen hbox 2; have hc_gm_3 : w4_.cell? ⟨gm, 3, none⟩ = some (.slice none 0 0) := (blk_cell hbox 3).trans rfl; have hf_gm_3 := blk_frozen hbox 3; clear hbox))
  have hB : Below w3_.heap.size w3_ ((((w4_.setCell ⟨gm, 0, none⟩ (.int .u32 x.f0)).setCell ⟨gm, 1, none⟩ (.bool x.f1)).setCell ⟨gm, 2, none⟩ (.int .i64 x.f2)).setCell ⟨gm, 3, none⟩ (.slice A_x x.f3.length c_x)) := (below_set (below_set (below_set (below_set hB1.out hG.out) hG.out) hG.out) hG.out)
  have hBN : ((((w4_.setCell ⟨gm, 0, none⟩ (.int .u32 x.f0)).setCell ⟨gm, 1, none⟩ (.bool x.f1)).setCell ⟨gm, 2, none⟩ (.int .i64 x.f2)).setCell ⟨gm, 3, none⟩ (.slice A_x x.f3.length c_x)).heap[gm]? = some (.cells #[.int .u32 x.f0, .bool x.f1, .int .i64 x.f2, .slice A_x x.f3.length c_x] 28 (0, 0)) := (blk_put (cs := #[.int .u32 x.f0, .bool x.f1, .int .i64 x.f2, .slice none 0 0]) (blk_put (cs := #[.int .u32 x.f0, .bool x.f1, .int .i64 0, .slice none 0 0]) (blk_put (cs := #[.int .u32 x.f0, .bool false, .int .i64 0, .slice none 0 0]) (blk_put (cs := #[.int .u32 0, .bool false, .int .i64 0, .slice none 0 0]) hBX.out 0 (.int .u32 x.f0) rfl) 1 (.bool x.f1) rfl) 2 (.int .i64 x.f2) rfl) 3 (.slice A_x x.f3.length c_x) rfl)
  clear hBX hB1
  clear hc_gm_0 hf_gm_0 hc_gm_1 hf_gm_1 hc_gm_2 hf_gm_2 hc_gm_3 hf_gm_3
  generalize ((((w4_.setCell ⟨gm, 0, none⟩ (.int .u32 x.f0)).setCell ⟨gm, 1, none⟩ (.bool x.f1)).setCell ⟨gm, 2, none⟩ (.int .i64 x.f2)).setCell ⟨gm, 3, none⟩ (.slice A_x x.f3.length c_x)) = w5_ at hB hBN ⊢
  have NB_gm_gp := Aside0.mk (show gm ≠ gp from Nat.ne_of_gt (Nat.lt_of_lt_of_le (blk_lt (g := gp) (o := .cells #[.int .i64 t.f0, .int .i64 t.f1, .int .u32 x.f0, .bool x.f1, .int .i64 x.f2, .slice A_x x.f3.length c_x, .int .u8 kind, .slice A_l l.length c_l, .int .i64 n0, .int .i64 n1] 53 (0, 0)) BK_gp.out) hG.out))
  have NB_gp_gm := Aside0.mk (Ne.symm NB_gm_gp.out)
  have NB_gm_gt := Aside0.mk (show gm ≠ gt from Nat.ne_of_gt (Nat.lt_of_lt_of_le (blk_lt (g := gt) (o := .cells #[.int .i64 t.f0, .int .i64 t.f1] 23 (0, 0)) BK_gt.out) hG.out))
  have NB_gt_gm := Aside0.mk (Ne.symm NB_gm_gt.out)
  have HBo := Aside0.mk HB.out
  have nHB := Aside0.mk (HB.out.trans (hB.mono HB.out.size))
  clear HB
  have HB := nHB
  clear nHB
  clear hc_gp_0 hf_gp_0 hc_gp_1 hf_gp_1 hc_gp_2 hf_gp_2 hc_gp_3 hf_gp_3 hc_gp_4 hf_gp_4 hc_gp_5 hf_gp_5 hc_gp_6 hf_gp_6 hc_gp_7 hf_gp_7 hc_gp_8 hf_gp_8 hc_gp_9 hf_gp_9
  have nBK := Aside0.mk (blk_below (g := gp) (o := .cells #[.int .i64 t.f0, .int .i64 t.f1, .int .u32 x.f0, .bool x.f1, .int .i64 x.f2, .slice A_x x.f3.length c_x, .int .u8 kind, .slice A_l l.length c_l, .int .i64 n0, .int .i64 n1] 53 (0, 0)) BK_gp.out hB)
  clear BK_gp
  have BK_gp := nBK
  clear nBK
  have hc_gp_0 : w5_.cell? ⟨gp, 0, none⟩ = some (.int .i64 t.f0) := (blk_cell BK_gp.out 0).trans rfl
  have hf_gp_0 := blk_frozen BK_gp.out 0
  have hc_gp_1 : w5_.cell? ⟨gp, 1, none⟩ = some (.int .i64 t.f1) := (blk_cell BK_gp.out 1).trans rfl
  have hf_gp_1 := blk_frozen BK_gp.out 1
  have hc_gp_2 : w5_.cell? ⟨gp, 2, none⟩ = some (.int .u32 x.f0) := (blk_cell BK_gp.out 2).trans rfl
  have hf_gp_2 := blk_frozen BK_gp.out 2
  have hc_gp_3 : w5_.cell? ⟨gp, 3, none⟩ = some (.bool x.f1) := (blk_cell BK_gp.out 3).trans rfl
  have hf_gp_3 := blk_frozen BK_gp.out 3
  have hc_gp_4 : w5_.cell? ⟨gp, 4, none⟩ = some (.int .i64 x.f2) := (blk_cell BK_gp.out 4).trans rfl
  have hf_gp_4 := blk_frozen BK_gp.out 4
  have hc_gp_5 : w5_.cell? ⟨gp, 5, none⟩ = some (.slice A_x x.f3.length c_x) := (blk_cell BK_gp.out 5).trans rfl
  have hf_gp_5 := blk_frozen BK_gp.out 5
  have hc_gp_6 : w5_.cell? ⟨gp, 6, none⟩ = some (.int .u8 kind) := (blk_cell BK_gp.out 6).trans rfl
  have hf_gp_6 := blk_frozen BK_gp.out 6
  have hc_gp_7 : w5_.cell? ⟨gp, 7, none⟩ = some (.slice A_l l.length c_l) := (blk_cell BK_gp.out 7).trans rfl
  have hf_gp_7 := blk_frozen BK_gp.out 7
  have hc_gp_8 : w5_.cell? ⟨gp, 8, none⟩ = some (.int .i64 n0) := (blk_cell BK_gp.out 8).trans rfl
  have hf_gp_8 := blk_frozen BK_gp.out 8
  have hc_gp_9 : w5_.cell? ⟨gp, 9, none⟩ = some (.int .i64 n1) := (blk_cell BK_gp.out 9).trans rfl
  have hf_gp_9 := blk_frozen BK_gp.out 9
  clear hc_gt_0 hf_gt_0 hc_gt_1 hf_gt_1
  have nBK := Aside0.mk (blk_below (g := gt) (o := .cells #[.int .i64 t.f0, .int .i64 t.f1] 23 (0, 0)) BK_gt.out hB)
  clear BK_gt
  have BK_gt := nBK
  clear nBK
  have hc_gt_0 : w5_.cell? ⟨gt, 0, none⟩ = some (.int .i64 t.f0) := (blk_cell BK_gt.out 0).trans rfl
  have hf_gt_0 := blk_frozen BK_gt.out 0
  have hc_gt_1 : w5_.cell? ⟨gt, 1, none⟩ = some (.int .i64 t.f1) := (blk_cell BK_gt.out 1).trans rfl
  have hf_gt_1 := blk_frozen BK_gt.out 1
  have BK_gm := Aside0.mk hBN
  have GE_gm := Aside0.mk (Nat.le_trans HBo.out.size hG.out)
  clear HBo hG hBN hB
  have hc_gm_0 : w5_.cell? ⟨gm, 0, none⟩ = some (.int .u32 x.f0) := (blk_cell BK_gm.out 0).trans rfl
  have hf_gm_0 := blk_frozen BK_gm.out 0
  have hc_gm_1 : w5_.cell? ⟨gm, 1, none⟩ = some (.bool x.f1) := (blk_cell BK_gm.out 1).trans rfl
  have hf_gm_1 := blk_frozen BK_gm.out 1
  have hc_gm_2 : w5_.cell? ⟨gm, 2, none⟩ = some (.int .i64 x.f2) := (blk_cell BK_gm.out 2).trans rfl
  have hf_gm_2 := blk_frozen BK_gm.out 2
  have hc_gm_3 : w5_.cell? ⟨gm, 3, none⟩ = some (.slice A_x x.f3.length c_x) := (blk_cell BK_gm.out 3).trans rfl
  have hf_gm_3 := blk_frozen BK_gm.out 3
  go_upto_region 6 with (first | ((with_reducible refine gate_dst (N := 7) rfl ?_); (try (refine gate_guard (by rfl) ?_; dsimp only)); refine box_event ?hg (N := 7) ?hd (cs := #[.int .i64 0, .int .i64 0]) (t := 51) ?hr ?_; (case hd => rfl); (case hg => rfl); (case hr => first | (go_simp; done) | (go_simp; rfl)); intro gn hg w6_ hbox hB0; have hG := Aside0.mk (show w5_.heap.size ≤ gn from Nat.le_of_eq hg.symm); clear hg; have hBX := Aside0.mk hbox; have hB1 := Aside0.mk hB0; clear hB0; have hc_gn_0 : w6_.cell? ⟨gn, 0, none⟩ = some (.int .i64 0) := (blk_cell hbox 0).trans rfl; have hf_gn_0 := blk_frozen hbox 0; have hc_gn_1 : w6_.cell? ⟨gn, 1, none⟩ = some (.int .i64 0) := (blk_cell hbox 1).trans rfl; have hf_gn_1 := blk_frozen hbox 1; clear hbox))
  have hB : Below w5_.heap.size w5_ ((w6_.setCell ⟨gn, 0, none⟩ (.int .i64 n0)).setCell ⟨gn, 1, none⟩ (.int .i64 n1)) := (below_set (below_set hB1.out hG.out) hG.out)
  have hBN : ((w6_.setCell ⟨gn, 0, none⟩ (.int .i64 n0)).setCell ⟨gn, 1, none⟩ (.int .i64 n1)).heap[gn]? = some (.cells #[.int .i64 n0, .int .i64 n1] 51 (0, 0)) := (blk_put (cs := #[.int .i64 n0, .int .i64 0]) (blk_put (cs := #[.int .i64 0, .int .i64 0]) hBX.out 0 (.int .i64 n0) rfl) 1 (.int .i64 n1) rfl)
  clear hBX hB1
  clear hc_gn_0 hf_gn_0 hc_gn_1 hf_gn_1
  generalize ((w6_.setCell ⟨gn, 0, none⟩ (.int .i64 n0)).setCell ⟨gn, 1, none⟩ (.int .i64 n1)) = w7_ at hB hBN ⊢
  have NB_gn_gp := Aside0.mk (show gn ≠ gp from Nat.ne_of_gt (Nat.lt_of_lt_of_le (blk_lt (g := gp) (o := .cells #[.int .i64 t.f0, .int .i64 t.f1, .int .u32 x.f0, .bool x.f1, .int .i64 x.f2, .slice A_x x.f3.length c_x, .int .u8 kind, .slice A_l l.length c_l, .int .i64 n0, .int .i64 n1] 53 (0, 0)) BK_gp.out) hG.out))
  have NB_gp_gn := Aside0.mk (Ne.symm NB_gn_gp.out)
  have NB_gn_gt := Aside0.mk (show gn ≠ gt from Nat.ne_of_gt (Nat.lt_of_lt_of_le (blk_lt (g := gt) (o := .cells #[.int .i64 t.f0, .int .i64 t.f1] 23 (0, 0)) BK_gt.out) hG.out))
  have NB_gt_gn := Aside0.mk (Ne.symm NB_gn_gt.out)
  have NB_gn_gm := Aside0.mk (show gn ≠ gm from Nat.ne_of_gt (Nat.lt_of_lt_of_le (blk_lt (g := gm) (o := .cells #[.int .u32 x.f0, .bool x.f1, .int .i64 x.f2, .slice A_x x.f3.length c_x] 28 (0, 0)) BK_gm.out) hG.out))
  have NB_gm_gn := Aside0.mk (Ne.symm NB_gn_gm.out)
  have HBo := Aside0.mk HB.out
  have nHB := Aside0.mk (HB.out.trans (hB.mono HB.out.size))
  clear HB
  have HB := nHB
  clear nHB
  clear hc_gp_0 hf_gp_0 hc_gp_1 hf_gp_1 hc_gp_2 hf_gp_2 hc_gp_3 hf_gp_3 hc_gp_4 hf_gp_4 hc_gp_5 hf_gp_5 hc_gp_6 hf_gp_6 hc_gp_7 hf_gp_7 hc_gp_8 hf_gp_8 hc_gp_9 hf_gp_9
  have nBK := Aside0.mk (blk_below (g := gp) (o := .cells #[.int .i64 t.f0, .int .i64 t.f1, .int .u32 x.f0, .bool x.f1, .int .i64 x.f2, .slice A_x x.f3.length c_x, .int .u8 kind, .slice A_l l.length c_l, .int .i64 n0, .int .i64 n1] 53 (0, 0)) BK_gp.out hB)
  clear BK_gp
  have BK_gp := nBK
  clear nBK
  have hc_gp_0 : w7_.cell? ⟨gp, 0, none⟩ = some (.int .i64 t.f0) := (blk_cell BK_gp.out 0).trans rfl
  have hf_gp_0 := blk_frozen BK_gp.out 0
  have hc_gp_1 : w7_.cell? ⟨gp, 1, none⟩ = some (.int .i64 t.f1) := (blk_cell BK_gp.out 1).trans rfl
  have hf_gp_1 := blk_frozen BK_gp.out 1
  have hc_gp_2 : w7_.cell? ⟨gp, 2, none⟩ = some (.int .u32 x.f0) := (blk_cell BK_gp.out 2).trans rfl
  have hf_gp_2 := blk_frozen BK_gp.out 2
  have hc_gp_3 : w7_.cell? ⟨gp, 3, none⟩ = some (.bool x.f1) := (blk_cell BK_gp.out 3).trans rfl
  have hf_gp_3 := blk_frozen BK_gp.out 3
  have hc_gp_4 : w7_.cell? ⟨gp, 4, none⟩ = some (.int .i64 x.f2) := (blk_cell BK_gp.out 4).trans rfl
  have hf_gp_4 := blk_frozen BK_gp.out 4
  have hc_gp_5 : w7_.cell? ⟨gp, 5, none⟩ = some (.slice A_x x.f3.length c_x) := (blk_cell BK_gp.out 5).trans rfl
  have hf_gp_5 := blk_frozen BK_gp.out 5
  have hc_gp_6 : w7_.cell? ⟨gp, 6, none⟩ = some (.int .u8 kind) := (blk_cell BK_gp.out 6).trans rfl
  have hf_gp_6 := blk_frozen BK_gp.out 6
  have hc_gp_7 : w7_.cell? ⟨gp, 7, none⟩ = some (.slice A_l l.length c_l) := (blk_cell BK_gp.out 7).trans rfl
  have hf_gp_7 := blk_frozen BK_gp.out 7
  have hc_gp_8 : w7_.cell? ⟨gp, 8, none⟩ = some (.int .i64 n0) := (blk_cell BK_gp.out 8).trans rfl
  have hf_gp_8 := blk_frozen BK_gp.out 8
  have hc_gp_9 : w7_.cell? ⟨gp, 9, none⟩ = some (.int .i64 n1) := (blk_cell BK_gp.out 9).trans rfl
  have hf_gp_9 := blk_frozen BK_gp.out 9
  clear hc_gt_0 hf_gt_0 hc_gt_1 hf_gt_1
  have nBK := Aside0.mk (blk_below (g := gt) (o := .cells #[.int .i64 t.f0, .int .i64 t.f1] 23 (0, 0)) BK_gt.out hB)
  clear BK_gt
  have BK_gt := nBK
  clear nBK
  have hc_gt_0 : w7_.cell? ⟨gt, 0, none⟩ = some (.int .i64 t.f0) := (blk_cell BK_gt.out 0).trans rfl
  have hf_gt_0 := blk_frozen BK_gt.out 0
  have hc_gt_1 : w7_.cell? ⟨gt, 1, none⟩ = some (.int .i64 t.f1) := (blk_cell BK_gt.out 1).trans rfl
  have hf_gt_1 := blk_frozen BK_gt.out 1
  clear hc_gm_0 hf_gm_0 hc_gm_1 hf_gm_1 hc_gm_2 hf_gm_2 hc_gm_3 hf_gm_3
  have nBK := Aside0.mk (blk_below (g := gm) (o := .cells #[.int .u32 x.f0, .bool x.f1, .int .i64 x.f2, .slice A_x x.f3.length c_x] 28 (0, 0)) BK_gm.out hB)
  clear BK_gm
  have BK_gm := nBK
  clear nBK
  have hc_gm_0 : w7_.cell? ⟨gm, 0, none⟩ = some (.int .u32 x.f0) := (blk_cell BK_gm.out 0).trans rfl
  have hf_gm_0 := blk_frozen BK_gm.out 0
  have hc_gm_1 : w7_.cell? ⟨gm, 1, none⟩ = some (.bool x.f1) := (blk_cell BK_gm.out 1).trans rfl
  have hf_gm_1 := blk_frozen BK_gm.out 1
  have hc_gm_2 : w7_.cell? ⟨gm, 2, none⟩ = some (.int .i64 x.f2) := (blk_cell BK_gm.out 2).trans rfl
  have hf_gm_2 := blk_frozen BK_gm.out 2
  have hc_gm_3 : w7_.cell? ⟨gm, 3, none⟩ = some (.slice A_x x.f3.length c_x) := (blk_cell BK_gm.out 3).trans rfl
  have hf_gm_3 := blk_frozen BK_gm.out 3
  have BK_gn := Aside0.mk hBN
  have GE_gn := Aside0.mk (Nat.le_trans HBo.out.size hG.out)
  clear HBo hG hBN hB
  have hc_gn_0 : w7_.cell? ⟨gn, 0, none⟩ = some (.int .i64 n0) := (blk_cell BK_gn.out 0).trans rfl
  have hf_gn_0 := blk_frozen BK_gn.out 0
  have hc_gn_1 : w7_.cell? ⟨gn, 1, none⟩ = some (.int .i64 n1) := (blk_cell BK_gn.out 1).trans rfl
  have hf_gn_1 := blk_frozen BK_gn.out 1
  go_wp2_with (first | (go_at_call 9; with_reducible refine (shown_w _).mono ?_; rintro e w8_ ⟨rfl, hB⟩; have nHB := Aside0.mk (HB.out.trans (hB.mono HB.out.size)); clear HB; have HB := nHB; clear nHB; clear hc_gp_0 hf_gp_0 hc_gp_1 hf_gp_1 hc_gp_2 hf_gp_2 hc_gp_3 hf_gp_3 hc_gp_4 hf_gp_4 hc_gp_5 hf_gp_5 hc_gp_6 hf_gp_6 hc_gp_7 hf_gp_7 hc_gp_8 hf_gp_8 hc_gp_9 hf_gp_9; have nBK := Aside0.mk (blk_below (g := gp) (o := .cells #[.int .i64 t.f0, .int .i64 t.f1, .int .u32 x.f0, .bool x.f1, .int .i64 x.f2, .slice A_x x.f3.length c_x, .int .u8 kind, .slice A_l l.length c_l, .int .i64 n0, .int .i64 n1] 53 (0, 0)) BK_gp.out hB); clear BK_gp; have BK_gp := nBK; clear nBK; have hc_gp_0 : w8_.cell? ⟨gp, 0, none⟩ = some (.int .i64 t.f0) := (blk_cell BK_gp.out 0).trans rfl; have hf_gp_0 := blk_frozen BK_gp.out 0; have hc_gp_1 : w8_.cell? ⟨gp, 1, none⟩ = some (.int .i64 t.f1) := (blk_cell BK_gp.out 1).trans rfl; have hf_gp_1 := blk_frozen BK_gp.out 1; have hc_gp_2 : w8_.cell? ⟨gp, 2, none⟩ = some (.int .u32 x.f0) := (blk_cell BK_gp.out 2).trans rfl; have hf_gp_2 := blk_frozen BK_gp.out 2; have hc_gp_3 : w8_.cell? ⟨gp, 3, none⟩ = some (.bool x.f1) := (blk_cell BK_gp.out 3).trans rfl; have hf_gp_3 := blk_frozen BK_gp.out 3; have hc_gp_4 : w8_.cell? ⟨gp, 4, none⟩ = some (.int .i64 x.f2) := (blk_cell BK_gp.out 4).trans rfl; have hf_gp_4 := blk_frozen BK_gp.out 4; have hc_gp_5 : w8_.cell? ⟨gp, 5, none⟩ = some (.slice A_x x.f3.length c_x) := (blk_cell BK_gp.out 5).trans rfl; have hf_gp_5 := blk_frozen BK_gp.out 5; have hc_gp_6 : w8_.cell? ⟨gp, 6, none⟩ = some (.int .u8 kind) := (blk_cell BK_gp.out 6).trans rfl; have hf_gp_6 := blk_frozen BK_gp.out 6; have hc_gp_7 : w8_.cell? ⟨gp, 7, none⟩ = some (.slice A_l l.length c_l) := (blk_cell BK_gp.out 7).trans rfl; have hf_gp_7 := blk_frozen BK_gp.out 7; have hc_gp_8 : w8_.cell? ⟨gp, 8, none⟩ = some (.int .i64 n0) := (blk_cell BK_gp.out 8).trans rfl; have hf_gp_8 := blk_frozen BK_gp.out 8; have hc_gp_9 : w8_.cell? ⟨gp, 9, none⟩ = some (.int .i64 n1) := (blk_cell BK_gp.out 9).trans rfl; have hf_gp_9 := blk_frozen BK_gp.out 9; clear hc_gt_0 hf_gt_0 hc_gt_1 hf_gt_1; have nBK := Aside0.mk (blk_below (g := gt) (o := .cells #[.int .i64 t.f0, .int .i64 t.f1] 23 (0, 0)) BK_gt.out hB); clear BK_gt; have BK_gt := nBK; clear nBK; have hc_gt_0 : w8_.cell? ⟨gt, 0, none⟩ = some (.int .i64 t.f0) := (blk_cell BK_gt.out 0).trans rfl; have hf_gt_0 := blk_frozen BK_gt.out 0; have hc_gt_1 : w8_.cell? ⟨gt, 1, none⟩ = some (.int .i64 t.f1) := (blk_cell BK_gt.out 1).trans rfl; have hf_gt_1 := blk_frozen BK_gt.out 1; clear hc_gm_0 hf_gm_0 hc_gm_1 hf_gm_1 hc_gm_2 hf_gm_2 hc_gm_3 hf_gm_3; have nBK := Aside0.mk (blk_below (g := gm) (o := .cells #[.int .u32 x.f0, .bool x.f1, .int .i64 x.f2, .slice A_x x.f3.length c_x] 28 (0, 0)) BK_gm.out hB); clear BK_gm; have BK_gm := nBK; clear nBK; have hc_gm_0 : w8_.cell? ⟨gm, 0, none⟩ = some (.int .u32 x.f0) := (blk_cell BK_gm.out 0).trans rfl; have hf_gm_0 := blk_frozen BK_gm.out 0; have hc_gm_1 : w8_.cell? ⟨gm, 1, none⟩ = some (.bool x.f1) := (blk_cell BK_gm.out 1).trans rfl; have hf_gm_1 := blk_frozen BK_gm.out 1; have hc_gm_2 : w8_.cell? ⟨gm, 2, none⟩ = some (.int .i64 x.f2) := (blk_cell BK_gm.out 2).trans rfl; have hf_gm_2 := blk_frozen BK_gm.out 2; have hc_gm_3 : w8_.cell? ⟨gm, 3, none⟩ = some (.slice A_x x.f3.length c_x) := (blk_cell BK_gm.out 3).trans rfl; have hf_gm_3 := blk_frozen BK_gm.out 3; clear hc_gn_0 hf_gn_0 hc_gn_1 hf_gn_1; have nBK := Aside0.mk (blk_below (g := gn) (o := .cells #[.int .i64 n0, .int .i64 n1] 51 (0, 0)) BK_gn.out hB); clear BK_gn; have BK_gn := nBK; clear nBK; have hc_gn_0 : w8_.cell? ⟨gn, 0, none⟩ = some (.int .i64 n0) := (blk_cell BK_gn.out 0).trans rfl; have hf_gn_0 := blk_frozen BK_gn.out 0; have hc_gn_1 : w8_.cell? ⟨gn, 1, none⟩ = some (.int .i64 n1) := (blk_cell BK_gn.out 1).trans rfl; have hf_gn_1 := blk_frozen BK_gn.out 1; clear hB) | (go_at_call 10; with_reducible refine (mayR_w Xhm.out _).mono ?_; rintro e w9_ ⟨rfl, hB⟩; have nHB := Aside0.mk (HB.out.trans (hB.mono HB.out.size)); clear HB; have HB := nHB; clear nHB; clear hc_gp_0 hf_gp_0 hc_gp_1 hf_gp_1 hc_gp_2 hf_gp_2 hc_gp_3 hf_gp_3 hc_gp_4 hf_gp_4 hc_gp_5 hf_gp_5 hc_gp_6 hf_gp_6 hc_gp_7 hf_gp_7 hc_gp_8 hf_gp_8 hc_gp_9 hf_gp_9; have nBK := Aside0.mk (blk_below (g := gp) (o := .cells #[.int .i64 t.f0, .int .i64 t.f1, .int .u32 x.f0, .bool x.f1, .int .i64 x.f2, .slice A_x x.f3.length c_x, .int .u8 kind, .slice A_l l.length c_l, .int .i64 n0, .int .i64 n1] 53 (0, 0)) BK_gp.out hB); clear BK_gp; have BK_gp := nBK; clear nBK; have hc_gp_0 : w9_.cell? ⟨gp, 0, none⟩ = some (.int .i64 t.f0) := (blk_cell BK_gp.out 0).trans rfl; have hf_gp_0 := blk_frozen BK_gp.out 0; have hc_gp_1 : w9_.cell? ⟨gp, 1, none⟩ = some (.int .i64 t.f1) := (blk_cell BK_gp.out 1).trans rfl; have hf_gp_1 := blk_frozen BK_gp.out 1; have hc_gp_2 : w9_.cell? ⟨gp, 2, none⟩ = some (.int .u32 x.f0) := (blk_cell BK_gp.out 2).trans rfl; have hf_gp_2 := blk_frozen BK_gp.out 2; have hc_gp_3 : w9_.cell? ⟨gp, 3, none⟩ = some (.bool x.f1) := (blk_cell BK_gp.out 3).trans rfl; have hf_gp_3 := blk_frozen BK_gp.out 3; have hc_gp_4 : w9_.cell? ⟨gp, 4, none⟩ = some (.int .i64 x.f2) := (blk_cell BK_gp.out 4).trans rfl; have hf_gp_4 := blk_frozen BK_gp.out 4; have hc_gp_5 : w9_.cell? ⟨gp, 5, none⟩ = some (.slice A_x x.f3.length c_x) := (blk_cell BK_gp.out 5).trans rfl; have hf_gp_5 := blk_frozen BK_gp.out 5; have hc_gp_6 : w9_.cell? ⟨gp, 6, none⟩ = some (.int .u8 kind) := (blk_cell BK_gp.out 6).trans rfl; have hf_gp_6 := blk_frozen BK_gp.out 6; have hc_gp_7 : w9_.cell? ⟨gp, 7, none⟩ = some (.slice A_l l.length c_l) := (blk_cell BK_gp.out 7).trans rfl; have hf_gp_7 := blk_frozen BK_gp.out 7; have hc_gp_8 : w9_.cell? ⟨gp, 8, none⟩ = some (.int .i64 n0) := (blk_cell BK_gp.out 8).trans rfl; have hf_gp_8 := blk_frozen BK_gp.out 8; have hc_gp_9 : w9_.cell? ⟨gp, 9, none⟩ = some (.int .i64 n1) := (blk_cell BK_gp.out 9).trans rfl; have hf_gp_9 := blk_frozen BK_gp.out 9; clear hc_gt_0 hf_gt_0 hc_gt_1 hf_gt_1; have nBK := Aside0.mk (blk_below (g := gt) (o := .cells #[.int .i64 t.f0, .int .i64 t.f1] 23 (0, 0)) BK_gt.out hB); clear BK_gt; have BK_gt := nBK; clear nBK; have hc_gt_0 : w9_.cell? ⟨gt, 0, none⟩ = some (.int .i64 t.f0) := (blk_cell BK_gt.out 0).trans rfl; have hf_gt_0 := blk_frozen BK_gt.out 0; have hc_gt_1 : w9_.cell? ⟨gt, 1, none⟩ = some (.int .i64 t.f1) := (blk_cell BK_gt.out 1).trans rfl; have hf_gt_1 := blk_frozen BK_gt.out 1; clear hc_gm_0 hf_gm_0 hc_gm_1 hf_gm_1 hc_gm_2 hf_gm_2 hc_gm_3 hf_gm_3; have nBK := Aside0.mk (blk_below (g := gm) (o := .cells #[.int .u32 x.f0, .bool x.f1, .int .i64 x.f2, .slice A_x x.f3.length c_x] 28 (0, 0)) BK_gm.out hB); clear BK_gm; have BK_gm := nBK; clear nBK; have hc_gm_0 : w9_.cell? ⟨gm, 0, none⟩ = some (.int .u32 x.f0) := (blk_cell BK_gm.out 0).trans rfl; have hf_gm_0 := blk_frozen BK_gm.out 0; have hc_gm_1 : w9_.cell? ⟨gm, 1, none⟩ = some (.bool x.f1) := (blk_cell BK_gm.out 1).trans rfl; have hf_gm_1 := blk_frozen BK_gm.out 1; have hc_gm_2 : w9_.cell? ⟨gm, 2, none⟩ = some (.int .i64 x.f2) := (blk_cell BK_gm.out 2).trans rfl; have hf_gm_2 := blk_frozen BK_gm.out 2; have hc_gm_3 : w9_.cell? ⟨gm, 3, none⟩ = some (.slice A_x x.f3.length c_x) := (blk_cell BK_gm.out 3).trans rfl; have hf_gm_3 := blk_frozen BK_gm.out 3; clear hc_gn_0 hf_gn_0 hc_gn_1 hf_gn_1; have nBK := Aside0.mk (blk_below (g := gn) (o := .cells #[.int .i64 n0, .int .i64 n1] 51 (0, 0)) BK_gn.out hB); clear BK_gn; have BK_gn := nBK; clear nBK; have hc_gn_0 : w9_.cell? ⟨gn, 0, none⟩ = some (.int .i64 n0) := (blk_cell BK_gn.out 0).trans rfl; have hf_gn_0 := blk_frozen BK_gn.out 0; have hc_gn_1 : w9_.cell? ⟨gn, 1, none⟩ = some (.int .i64 n1) := (blk_cell BK_gn.out 1).trans rfl; have hf_gn_1 := blk_frozen BK_gn.out 1; clear hB) | (go_at_call 11; with_reducible refine (right_w (b := true) (by simp [Xhx.out]) _ _ _ (Kd.C_below HC_x.out HB.out) HK_x.out).mono ?_; rintro e w10_ ⟨rfl, hB⟩; have nHB := Aside0.mk (HB.out.trans (hB.mono HB.out.size)); clear HB; have HB := nHB; clear nHB; clear hc_gp_0 hf_gp_0 hc_gp_1 hf_gp_1 hc_gp_2 hf_gp_2 hc_gp_3 hf_gp_3 hc_gp_4 hf_gp_4 hc_gp_5 hf_gp_5 hc_gp_6 hf_gp_6 hc_gp_7 hf_gp_7 hc_gp_8 hf_gp_8 hc_gp_9 hf_gp_9; have nBK := Aside0.mk (blk_below (g := gp) (o := .cells #[.int .i64 t.f0, .int .i64 t.f1, .int .u32 x.f0, .bool x.f1, .int .i64 x.f2, .slice A_x x.f3.length c_x, .int .u8 kind, .slice A_l l.length c_l, .int .i64 n0, .int .i64 n1] 53 (0, 0)) BK_gp.out hB); clear BK_gp; have BK_gp := nBK; clear nBK; have hc_gp_0 : w10_.cell? ⟨gp, 0, none⟩ = some (.int .i64 t.f0) := (blk_cell BK_gp.out 0).trans rfl; have hf_gp_0 := blk_frozen BK_gp.out 0; have hc_gp_1 : w10_.cell? ⟨gp, 1, none⟩ = some (.int .i64 t.f1) := (blk_cell BK_gp.out 1).trans rfl; have hf_gp_1 := blk_frozen BK_gp.out 1; have hc_gp_2 : w10_.cell? ⟨gp, 2, none⟩ = some (.int .u32 x.f0) := (blk_cell BK_gp.out 2).trans rfl; have hf_gp_2 := blk_frozen BK_gp.out 2; have hc_gp_3 : w10_.cell? ⟨gp, 3, none⟩ = some (.bool x.f1) := (blk_cell BK_gp.out 3).trans rfl; have hf_gp_3 := blk_frozen BK_gp.out 3; have hc_gp_4 : w10_.cell? ⟨gp, 4, none⟩ = some (.int .i64 x.f2) := (blk_cell BK_gp.out 4).trans rfl; have hf_gp_4 := blk_frozen BK_gp.out 4; have hc_gp_5 : w10_.cell? ⟨gp, 5, none⟩ = some (.slice A_x x.f3.length c_x) := (blk_cell BK_gp.out 5).trans rfl; have hf_gp_5 := blk_frozen BK_gp.out 5; have hc_gp_6 : w10_.cell? ⟨gp, 6, none⟩ = some (.int .u8 kind) := (blk_cell BK_gp.out 6).trans rfl; have hf_gp_6 := blk_frozen BK_gp.out 6; have hc_gp_7 : w10_.cell? ⟨gp, 7, none⟩ = some (.slice A_l l.length c_l) := (blk_cell BK_gp.out 7).trans rfl; have hf_gp_7 := blk_frozen BK_gp.out 7; have hc_gp_8 : w10_.cell? ⟨gp, 8, none⟩ = some (.int .i64 n0) := (blk_cell BK_gp.out 8).trans rfl; have hf_gp_8 := blk_frozen BK_gp.out 8; have hc_gp_9 : w10_.cell? ⟨gp, 9, none⟩ = some (.int .i64 n1) := (blk_cell BK_gp.out 9).trans rfl; have hf_gp_9 := blk_frozen BK_gp.out 9; clear hc_gt_0 hf_gt_0 hc_gt_1 hf_gt_1; have nBK := Aside0.mk (blk_below (g := gt) (o := .cells #[.int .i64 t.f0, .int .i64 t.f1] 23 (0, 0)) BK_gt.out hB); clear BK_gt; have BK_gt := nBK; clear nBK; have hc_gt_0 : w10_.cell? ⟨gt, 0, none⟩ = some (.int .i64 t.f0) := (blk_cell BK_gt.out 0).trans rfl; have hf_gt_0 := blk_frozen BK_gt.out 0; have hc_gt_1 : w10_.cell? ⟨gt, 1, none⟩ = some (.int .i64 t.f1) := (blk_cell BK_gt.out 1).trans rfl; have hf_gt_1 := blk_frozen BK_gt.out 1; clear hc_gm_0 hf_gm_0 hc_gm_1 hf_gm_1 hc_gm_2 hf_gm_2 hc_gm_3 hf_gm_3; have nBK := Aside0.mk (blk_below (g := gm) (o := .cells #[.int .u32 x.f0, .bool x.f1, .int .i64 x.f2, .slice A_x x.f3.length c_x] 28 (0, 0)) BK_gm.out hB); clear BK_gm; have BK_gm := nBK; clear nBK; have hc_gm_0 : w10_.cell? ⟨gm, 0, none⟩ = some (.int .u32 x.f0) := (blk_cell BK_gm.out 0).trans rfl; have hf_gm_0 := blk_frozen BK_gm.out 0; have hc_gm_1 : w10_.cell? ⟨gm, 1, none⟩ = some (.bool x.f1) := (blk_cell BK_gm.out 1).trans rfl; have hf_gm_1 := blk_frozen BK_gm.out 1; have hc_gm_2 : w10_.cell? ⟨gm, 2, none⟩ = some (.int .i64 x.f2) := (blk_cell BK_gm.out 2).trans rfl; have hf_gm_2 := blk_frozen BK_gm.out 2; have hc_gm_3 : w10_.cell? ⟨gm, 3, none⟩ = some (.slice A_x x.f3.length c_x) := (blk_cell BK_gm.out 3).trans rfl; have hf_gm_3 := blk_frozen BK_gm.out 3; clear hc_gn_0 hf_gn_0 hc_gn_1 hf_gn_1; have nBK := Aside0.mk (blk_below (g := gn) (o := .cells #[.int .i64 n0, .int .i64 n1] 51 (0, 0)) BK_gn.out hB); clear BK_gn; have BK_gn := nBK; clear nBK; have hc_gn_0 : w10_.cell? ⟨gn, 0, none⟩ = some (.int .i64 n0) := (blk_cell BK_gn.out 0).trans rfl; have hf_gn_0 := blk_frozen BK_gn.out 0; have hc_gn_1 : w10_.cell? ⟨gn, 1, none⟩ = some (.int .i64 n1) := (blk_cell BK_gn.out 1).trans rfl; have hf_gn_1 := blk_frozen BK_gn.out 1; clear hB))
  go_ret
  exact ⟨rfl, HB.out⟩
set_option maxHeartbeats 8000000 in
set_option maxRecDepth 100000 in
theorem mstays_neg0 {t : S23} {x : S28} {kind : Int} {l : List Int} {n0 n1 : Int} (hm : mayB t = true) (hx : MOk x) (h1 : ¬ (200 : Int) < (l.length : Int)) (h2 : n0 < 0) (A_x : Option Addr) (c_x : Nat) (A_l : Option Addr) (c_l : Nat) (w : World) (hr : Kd.C k49 w A_x x.f3.length x.f3) (hc : x.f3.length ≤ c_x) (hs : Kd.C (Kd.int .u32) w A_l l.length l) (hcs : l.length ≤ c_l) :
    Calls Try.prog 5 #[.agg #[.int .i64 t.f0, .int .i64 t.f1, .int .u32 x.f0, .bool x.f1, .int .i64 x.f2, .slice A_x x.f3.length c_x, .int .u8 kind, .slice A_l l.length c_l, .int .i64 n0, .int .i64 n1]] w (fun e w' => e = .returned (.bool true) ∧ Below w.heap.size w w') := by
  have hu23 := Try.underlying23
  have hu28 := Try.underlying28
  have hu51 := Try.underlying51
  have hu53 := Try.underlying53
  have HB := Aside0.mk (Below.refl w.heap.size w)
  have HC_x := Aside0.mk hr
  have HK_x := Aside0.mk hc
  have HC_l := Aside0.mk hs
  have HK_l := Aside0.mk hcs
  clear hr hc hs hcs
  have Xhm := Aside0.mk hm
  have Xhx := Aside0.mk hx
  clear hm hx
  go_enter Try.func5, Try.ntmps5
  go_upto_region 2 with (first | ((with_reducible refine gate_dst (N := 1) rfl ?_); (try (refine gate_guard (by rfl) ?_; dsimp only)); refine box_event ?hg (N := 1) ?hd (cs := #[.int .i64 t.f0, .int .i64 t.f1, .int .u32 x.f0, .bool x.f1, .int .i64 x.f2, .slice A_x x.f3.length c_x, .int .u8 kind, .slice A_l l.length c_l, .int .i64 n0, .int .i64 n1]) (t := 53) ?hr ?_; (case hd => rfl); (case hg => rfl); (case hr => first | (go_simp; done) | (go_simp; rfl)); intro gp hg w1_ hbox hB; have HBo := Aside0.mk HB.out; have nHB := Aside0.mk (HB.out.trans (hB.mono HB.out.size)); clear HB; have HB := nHB; clear nHB; have BK_gp := Aside0.mk hbox; have GE_gp := Aside0.mk (show w.heap.size ≤ gp by rw [hg]; exact HBo.out.size); clear hg hbox hB; have hc_gp_0 : w1_.cell? ⟨gp, 0, none⟩ = some (.int .i64 t.f0) := (blk_cell BK_gp.out 0).trans rfl; have hf_gp_0 := blk_frozen BK_gp.out 0; have hc_gp_1 : w1_.cell? ⟨gp, 1, none⟩ = some (.int .i64 t.f1) := (blk_cell BK_gp.out 1).trans rfl; have hf_gp_1 := blk_frozen BK_gp.out 1; have hc_gp_2 : w1_.cell? ⟨gp, 2, none⟩ = some (.int .u32 x.f0) := (blk_cell BK_gp.out 2).trans rfl; have hf_gp_2 := blk_frozen BK_gp.out 2; have hc_gp_3 : w1_.cell? ⟨gp, 3, none⟩ = some (.bool x.f1) := (blk_cell BK_gp.out 3).trans rfl; have hf_gp_3 := blk_frozen BK_gp.out 3; have hc_gp_4 : w1_.cell? ⟨gp, 4, none⟩ = some (.int .i64 x.f2) := (blk_cell BK_gp.out 4).trans rfl; have hf_gp_4 := blk_frozen BK_gp.out 4; have hc_gp_5 : w1_.cell? ⟨gp, 5, none⟩ = some (.slice A_x x.f3.length c_x) := (blk_cell BK_gp.out 5).trans rfl; have hf_gp_5 := blk_frozen BK_gp.out 5; have hc_gp_6 : w1_.cell? ⟨gp, 6, none⟩ = some (.int .u8 kind) := (blk_cell BK_gp.out 6).trans rfl; have hf_gp_6 := blk_frozen BK_gp.out 6; have hc_gp_7 : w1_.cell? ⟨gp, 7, none⟩ = some (.slice A_l l.length c_l) := (blk_cell BK_gp.out 7).trans rfl; have hf_gp_7 := blk_frozen BK_gp.out 7; have hc_gp_8 : w1_.cell? ⟨gp, 8, none⟩ = some (.int .i64 n0) := (blk_cell BK_gp.out 8).trans rfl; have hf_gp_8 := blk_frozen BK_gp.out 8; have hc_gp_9 : w1_.cell? ⟨gp, 9, none⟩ = some (.int .i64 n1) := (blk_cell BK_gp.out 9).trans rfl; have hf_gp_9 := blk_frozen BK_gp.out 9; clear HBo) | ((with_reducible refine gate_dst (N := 3) rfl ?_); (try (refine gate_guard (by rfl) ?_; dsimp only)); refine box_event ?hg (N := 3) ?hd (cs := #[.int .i64 0, .int .i64 0]) (t := 23) ?hr ?_; (case hd => rfl); (case hg => rfl); (case hr => first | (go_simp; done) | (go_simp; rfl)); intro gt hg w2_ hbox hB0; have hG := Aside0.mk (show w1_.heap.size ≤ gt from Nat.le_of_eq hg.symm); clear hg; have hBX := Aside0.mk hbox; have hB1 := Aside0.mk hB0; clear hB0; have hc_gt_0 : w2_.cell? ⟨gt, 0, none⟩ = some (.int .i64 0) := (blk_cell hbox 0).trans rfl; have hf_gt_0 := blk_frozen hbox 0; have hc_gt_1 : w2_.cell? ⟨gt, 1, none⟩ = some (.int .i64 0) := (blk_cell hbox 1).trans rfl; have hf_gt_1 := blk_frozen hbox 1; clear hbox))
  have hB : Below w1_.heap.size w1_ ((w2_.setCell ⟨gt, 0, none⟩ (.int .i64 t.f0)).setCell ⟨gt, 1, none⟩ (.int .i64 t.f1)) := (below_set (below_set hB1.out hG.out) hG.out)
  have hBN : ((w2_.setCell ⟨gt, 0, none⟩ (.int .i64 t.f0)).setCell ⟨gt, 1, none⟩ (.int .i64 t.f1)).heap[gt]? = some (.cells #[.int .i64 t.f0, .int .i64 t.f1] 23 (0, 0)) := (blk_put (cs := #[.int .i64 t.f0, .int .i64 0]) (blk_put (cs := #[.int .i64 0, .int .i64 0]) hBX.out 0 (.int .i64 t.f0) rfl) 1 (.int .i64 t.f1) rfl)
  clear hBX hB1
  clear hc_gt_0 hf_gt_0 hc_gt_1 hf_gt_1
  generalize ((w2_.setCell ⟨gt, 0, none⟩ (.int .i64 t.f0)).setCell ⟨gt, 1, none⟩ (.int .i64 t.f1)) = w3_ at hB hBN ⊢
  have NB_gt_gp := Aside0.mk (show gt ≠ gp from Nat.ne_of_gt (Nat.lt_of_lt_of_le (blk_lt (g := gp) (o := .cells #[.int .i64 t.f0, .int .i64 t.f1, .int .u32 x.f0, .bool x.f1, .int .i64 x.f2, .slice A_x x.f3.length c_x, .int .u8 kind, .slice A_l l.length c_l, .int .i64 n0, .int .i64 n1] 53 (0, 0)) BK_gp.out) hG.out))
  have NB_gp_gt := Aside0.mk (Ne.symm NB_gt_gp.out)
  have HBo := Aside0.mk HB.out
  have nHB := Aside0.mk (HB.out.trans (hB.mono HB.out.size))
  clear HB
  have HB := nHB
  clear nHB
  clear hc_gp_0 hf_gp_0 hc_gp_1 hf_gp_1 hc_gp_2 hf_gp_2 hc_gp_3 hf_gp_3 hc_gp_4 hf_gp_4 hc_gp_5 hf_gp_5 hc_gp_6 hf_gp_6 hc_gp_7 hf_gp_7 hc_gp_8 hf_gp_8 hc_gp_9 hf_gp_9
  have nBK := Aside0.mk (blk_below (g := gp) (o := .cells #[.int .i64 t.f0, .int .i64 t.f1, .int .u32 x.f0, .bool x.f1, .int .i64 x.f2, .slice A_x x.f3.length c_x, .int .u8 kind, .slice A_l l.length c_l, .int .i64 n0, .int .i64 n1] 53 (0, 0)) BK_gp.out hB)
  clear BK_gp
  have BK_gp := nBK
  clear nBK
  have hc_gp_0 : w3_.cell? ⟨gp, 0, none⟩ = some (.int .i64 t.f0) := (blk_cell BK_gp.out 0).trans rfl
  have hf_gp_0 := blk_frozen BK_gp.out 0
  have hc_gp_1 : w3_.cell? ⟨gp, 1, none⟩ = some (.int .i64 t.f1) := (blk_cell BK_gp.out 1).trans rfl
  have hf_gp_1 := blk_frozen BK_gp.out 1
  have hc_gp_2 : w3_.cell? ⟨gp, 2, none⟩ = some (.int .u32 x.f0) := (blk_cell BK_gp.out 2).trans rfl
  have hf_gp_2 := blk_frozen BK_gp.out 2
  have hc_gp_3 : w3_.cell? ⟨gp, 3, none⟩ = some (.bool x.f1) := (blk_cell BK_gp.out 3).trans rfl
  have hf_gp_3 := blk_frozen BK_gp.out 3
  have hc_gp_4 : w3_.cell? ⟨gp, 4, none⟩ = some (.int .i64 x.f2) := (blk_cell BK_gp.out 4).trans rfl
  have hf_gp_4 := blk_frozen BK_gp.out 4
  have hc_gp_5 : w3_.cell? ⟨gp, 5, none⟩ = some (.slice A_x x.f3.length c_x) := (blk_cell BK_gp.out 5).trans rfl
  have hf_gp_5 := blk_frozen BK_gp.out 5
  have hc_gp_6 : w3_.cell? ⟨gp, 6, none⟩ = some (.int .u8 kind) := (blk_cell BK_gp.out 6).trans rfl
  have hf_gp_6 := blk_frozen BK_gp.out 6
  have hc_gp_7 : w3_.cell? ⟨gp, 7, none⟩ = some (.slice A_l l.length c_l) := (blk_cell BK_gp.out 7).trans rfl
  have hf_gp_7 := blk_frozen BK_gp.out 7
  have hc_gp_8 : w3_.cell? ⟨gp, 8, none⟩ = some (.int .i64 n0) := (blk_cell BK_gp.out 8).trans rfl
  have hf_gp_8 := blk_frozen BK_gp.out 8
  have hc_gp_9 : w3_.cell? ⟨gp, 9, none⟩ = some (.int .i64 n1) := (blk_cell BK_gp.out 9).trans rfl
  have hf_gp_9 := blk_frozen BK_gp.out 9
  have BK_gt := Aside0.mk hBN
  have GE_gt := Aside0.mk (Nat.le_trans HBo.out.size hG.out)
  clear HBo hG hBN hB
  have hc_gt_0 : w3_.cell? ⟨gt, 0, none⟩ = some (.int .i64 t.f0) := (blk_cell BK_gt.out 0).trans rfl
  have hf_gt_0 := blk_frozen BK_gt.out 0
  have hc_gt_1 : w3_.cell? ⟨gt, 1, none⟩ = some (.int .i64 t.f1) := (blk_cell BK_gt.out 1).trans rfl
  have hf_gt_1 := blk_frozen BK_gt.out 1
  go_upto_region 3 with (first | ((with_reducible refine gate_dst (N := 4) rfl ?_); (try (refine gate_guard (by rfl) ?_; dsimp only)); refine box_event ?hg (N := 4) ?hd (cs := #[.int .u32 0, .bool false, .int .i64 0, .slice none 0 0]) (t := 28) ?hr ?_; (case hd => rfl); (case hg => rfl); (case hr => first | (go_simp; done) | (go_simp; rfl)); intro gm hg w4_ hbox hB0; have hG := Aside0.mk (show w3_.heap.size ≤ gm from Nat.le_of_eq hg.symm); clear hg; have hBX := Aside0.mk hbox; have hB1 := Aside0.mk hB0; clear hB0; have hc_gm_0 : w4_.cell? ⟨gm, 0, none⟩ = some (.int .u32 0) := (blk_cell hbox 0).trans rfl; have hf_gm_0 := blk_frozen hbox 0; have hc_gm_1 : w4_.cell? ⟨gm, 1, none⟩ = some (.bool false) := (blk_cell hbox 1).trans rfl; have hf_gm_1 := blk_frozen hbox 1; have hc_gm_2 : w4_.cell? ⟨gm, 2, none⟩ = some (.int .i64 0) := (blk_cell hbox 2).trans rfl; have hf_gm_2 := blk_frozen hbox 2; have hc_gm_3 : w4_.cell? ⟨gm, 3, none⟩ = some (.slice none 0 0) := (blk_cell hbox 3).trans rfl; have hf_gm_3 := blk_frozen hbox 3; clear hbox))
  have hB : Below w3_.heap.size w3_ ((((w4_.setCell ⟨gm, 0, none⟩ (.int .u32 x.f0)).setCell ⟨gm, 1, none⟩ (.bool x.f1)).setCell ⟨gm, 2, none⟩ (.int .i64 x.f2)).setCell ⟨gm, 3, none⟩ (.slice A_x x.f3.length c_x)) := (below_set (below_set (below_set (below_set hB1.out hG.out) hG.out) hG.out) hG.out)
  have hBN : ((((w4_.setCell ⟨gm, 0, none⟩ (.int .u32 x.f0)).setCell ⟨gm, 1, none⟩ (.bool x.f1)).setCell ⟨gm, 2, none⟩ (.int .i64 x.f2)).setCell ⟨gm, 3, none⟩ (.slice A_x x.f3.length c_x)).heap[gm]? = some (.cells #[.int .u32 x.f0, .bool x.f1, .int .i64 x.f2, .slice A_x x.f3.length c_x] 28 (0, 0)) := (blk_put (cs := #[.int .u32 x.f0, .bool x.f1, .int .i64 x.f2, .slice none 0 0]) (blk_put (cs := #[.int .u32 x.f0, .bool x.f1, .int .i64 0, .slice none 0 0]) (blk_put (cs := #[.int .u32 x.f0, .bool false, .int .i64 0, .slice none 0 0]) (blk_put (cs := #[.int .u32 0, .bool false, .int .i64 0, .slice none 0 0]) hBX.out 0 (.int .u32 x.f0) rfl) 1 (.bool x.f1) rfl) 2 (.int .i64 x.f2) rfl) 3 (.slice A_x x.f3.length c_x) rfl)
  clear hBX hB1
  clear hc_gm_0 hf_gm_0 hc_gm_1 hf_gm_1 hc_gm_2 hf_gm_2 hc_gm_3 hf_gm_3
  generalize ((((w4_.setCell ⟨gm, 0, none⟩ (.int .u32 x.f0)).setCell ⟨gm, 1, none⟩ (.bool x.f1)).setCell ⟨gm, 2, none⟩ (.int .i64 x.f2)).setCell ⟨gm, 3, none⟩ (.slice A_x x.f3.length c_x)) = w5_ at hB hBN ⊢
  have NB_gm_gp := Aside0.mk (show gm ≠ gp from Nat.ne_of_gt (Nat.lt_of_lt_of_le (blk_lt (g := gp) (o := .cells #[.int .i64 t.f0, .int .i64 t.f1, .int .u32 x.f0, .bool x.f1, .int .i64 x.f2, .slice A_x x.f3.length c_x, .int .u8 kind, .slice A_l l.length c_l, .int .i64 n0, .int .i64 n1] 53 (0, 0)) BK_gp.out) hG.out))
  have NB_gp_gm := Aside0.mk (Ne.symm NB_gm_gp.out)
  have NB_gm_gt := Aside0.mk (show gm ≠ gt from Nat.ne_of_gt (Nat.lt_of_lt_of_le (blk_lt (g := gt) (o := .cells #[.int .i64 t.f0, .int .i64 t.f1] 23 (0, 0)) BK_gt.out) hG.out))
  have NB_gt_gm := Aside0.mk (Ne.symm NB_gm_gt.out)
  have HBo := Aside0.mk HB.out
  have nHB := Aside0.mk (HB.out.trans (hB.mono HB.out.size))
  clear HB
  have HB := nHB
  clear nHB
  clear hc_gp_0 hf_gp_0 hc_gp_1 hf_gp_1 hc_gp_2 hf_gp_2 hc_gp_3 hf_gp_3 hc_gp_4 hf_gp_4 hc_gp_5 hf_gp_5 hc_gp_6 hf_gp_6 hc_gp_7 hf_gp_7 hc_gp_8 hf_gp_8 hc_gp_9 hf_gp_9
  have nBK := Aside0.mk (blk_below (g := gp) (o := .cells #[.int .i64 t.f0, .int .i64 t.f1, .int .u32 x.f0, .bool x.f1, .int .i64 x.f2, .slice A_x x.f3.length c_x, .int .u8 kind, .slice A_l l.length c_l, .int .i64 n0, .int .i64 n1] 53 (0, 0)) BK_gp.out hB)
  clear BK_gp
  have BK_gp := nBK
  clear nBK
  have hc_gp_0 : w5_.cell? ⟨gp, 0, none⟩ = some (.int .i64 t.f0) := (blk_cell BK_gp.out 0).trans rfl
  have hf_gp_0 := blk_frozen BK_gp.out 0
  have hc_gp_1 : w5_.cell? ⟨gp, 1, none⟩ = some (.int .i64 t.f1) := (blk_cell BK_gp.out 1).trans rfl
  have hf_gp_1 := blk_frozen BK_gp.out 1
  have hc_gp_2 : w5_.cell? ⟨gp, 2, none⟩ = some (.int .u32 x.f0) := (blk_cell BK_gp.out 2).trans rfl
  have hf_gp_2 := blk_frozen BK_gp.out 2
  have hc_gp_3 : w5_.cell? ⟨gp, 3, none⟩ = some (.bool x.f1) := (blk_cell BK_gp.out 3).trans rfl
  have hf_gp_3 := blk_frozen BK_gp.out 3
  have hc_gp_4 : w5_.cell? ⟨gp, 4, none⟩ = some (.int .i64 x.f2) := (blk_cell BK_gp.out 4).trans rfl
  have hf_gp_4 := blk_frozen BK_gp.out 4
  have hc_gp_5 : w5_.cell? ⟨gp, 5, none⟩ = some (.slice A_x x.f3.length c_x) := (blk_cell BK_gp.out 5).trans rfl
  have hf_gp_5 := blk_frozen BK_gp.out 5
  have hc_gp_6 : w5_.cell? ⟨gp, 6, none⟩ = some (.int .u8 kind) := (blk_cell BK_gp.out 6).trans rfl
  have hf_gp_6 := blk_frozen BK_gp.out 6
  have hc_gp_7 : w5_.cell? ⟨gp, 7, none⟩ = some (.slice A_l l.length c_l) := (blk_cell BK_gp.out 7).trans rfl
  have hf_gp_7 := blk_frozen BK_gp.out 7
  have hc_gp_8 : w5_.cell? ⟨gp, 8, none⟩ = some (.int .i64 n0) := (blk_cell BK_gp.out 8).trans rfl
  have hf_gp_8 := blk_frozen BK_gp.out 8
  have hc_gp_9 : w5_.cell? ⟨gp, 9, none⟩ = some (.int .i64 n1) := (blk_cell BK_gp.out 9).trans rfl
  have hf_gp_9 := blk_frozen BK_gp.out 9
  clear hc_gt_0 hf_gt_0 hc_gt_1 hf_gt_1
  have nBK := Aside0.mk (blk_below (g := gt) (o := .cells #[.int .i64 t.f0, .int .i64 t.f1] 23 (0, 0)) BK_gt.out hB)
  clear BK_gt
  have BK_gt := nBK
  clear nBK
  have hc_gt_0 : w5_.cell? ⟨gt, 0, none⟩ = some (.int .i64 t.f0) := (blk_cell BK_gt.out 0).trans rfl
  have hf_gt_0 := blk_frozen BK_gt.out 0
  have hc_gt_1 : w5_.cell? ⟨gt, 1, none⟩ = some (.int .i64 t.f1) := (blk_cell BK_gt.out 1).trans rfl
  have hf_gt_1 := blk_frozen BK_gt.out 1
  have BK_gm := Aside0.mk hBN
  have GE_gm := Aside0.mk (Nat.le_trans HBo.out.size hG.out)
  clear HBo hG hBN hB
  have hc_gm_0 : w5_.cell? ⟨gm, 0, none⟩ = some (.int .u32 x.f0) := (blk_cell BK_gm.out 0).trans rfl
  have hf_gm_0 := blk_frozen BK_gm.out 0
  have hc_gm_1 : w5_.cell? ⟨gm, 1, none⟩ = some (.bool x.f1) := (blk_cell BK_gm.out 1).trans rfl
  have hf_gm_1 := blk_frozen BK_gm.out 1
  have hc_gm_2 : w5_.cell? ⟨gm, 2, none⟩ = some (.int .i64 x.f2) := (blk_cell BK_gm.out 2).trans rfl
  have hf_gm_2 := blk_frozen BK_gm.out 2
  have hc_gm_3 : w5_.cell? ⟨gm, 3, none⟩ = some (.slice A_x x.f3.length c_x) := (blk_cell BK_gm.out 3).trans rfl
  have hf_gm_3 := blk_frozen BK_gm.out 3
  go_upto_region 6 with (first | ((with_reducible refine gate_dst (N := 7) rfl ?_); (try (refine gate_guard (by rfl) ?_; dsimp only)); refine box_event ?hg (N := 7) ?hd (cs := #[.int .i64 0, .int .i64 0]) (t := 51) ?hr ?_; (case hd => rfl); (case hg => rfl); (case hr => first | (go_simp; done) | (go_simp; rfl)); intro gn hg w6_ hbox hB0; have hG := Aside0.mk (show w5_.heap.size ≤ gn from Nat.le_of_eq hg.symm); clear hg; have hBX := Aside0.mk hbox; have hB1 := Aside0.mk hB0; clear hB0; have hc_gn_0 : w6_.cell? ⟨gn, 0, none⟩ = some (.int .i64 0) := (blk_cell hbox 0).trans rfl; have hf_gn_0 := blk_frozen hbox 0; have hc_gn_1 : w6_.cell? ⟨gn, 1, none⟩ = some (.int .i64 0) := (blk_cell hbox 1).trans rfl; have hf_gn_1 := blk_frozen hbox 1; clear hbox))
  have hB : Below w5_.heap.size w5_ ((w6_.setCell ⟨gn, 0, none⟩ (.int .i64 n0)).setCell ⟨gn, 1, none⟩ (.int .i64 n1)) := (below_set (below_set hB1.out hG.out) hG.out)
  have hBN : ((w6_.setCell ⟨gn, 0, none⟩ (.int .i64 n0)).setCell ⟨gn, 1, none⟩ (.int .i64 n1)).heap[gn]? = some (.cells #[.int .i64 n0, .int .i64 n1] 51 (0, 0)) := (blk_put (cs := #[.int .i64 n0, .int .i64 0]) (blk_put (cs := #[.int .i64 0, .int .i64 0]) hBX.out 0 (.int .i64 n0) rfl) 1 (.int .i64 n1) rfl)
  clear hBX hB1
  clear hc_gn_0 hf_gn_0 hc_gn_1 hf_gn_1
  generalize ((w6_.setCell ⟨gn, 0, none⟩ (.int .i64 n0)).setCell ⟨gn, 1, none⟩ (.int .i64 n1)) = w7_ at hB hBN ⊢
  have NB_gn_gp := Aside0.mk (show gn ≠ gp from Nat.ne_of_gt (Nat.lt_of_lt_of_le (blk_lt (g := gp) (o := .cells #[.int .i64 t.f0, .int .i64 t.f1, .int .u32 x.f0, .bool x.f1, .int .i64 x.f2, .slice A_x x.f3.length c_x, .int .u8 kind, .slice A_l l.length c_l, .int .i64 n0, .int .i64 n1] 53 (0, 0)) BK_gp.out) hG.out))
  have NB_gp_gn := Aside0.mk (Ne.symm NB_gn_gp.out)
  have NB_gn_gt := Aside0.mk (show gn ≠ gt from Nat.ne_of_gt (Nat.lt_of_lt_of_le (blk_lt (g := gt) (o := .cells #[.int .i64 t.f0, .int .i64 t.f1] 23 (0, 0)) BK_gt.out) hG.out))
  have NB_gt_gn := Aside0.mk (Ne.symm NB_gn_gt.out)
  have NB_gn_gm := Aside0.mk (show gn ≠ gm from Nat.ne_of_gt (Nat.lt_of_lt_of_le (blk_lt (g := gm) (o := .cells #[.int .u32 x.f0, .bool x.f1, .int .i64 x.f2, .slice A_x x.f3.length c_x] 28 (0, 0)) BK_gm.out) hG.out))
  have NB_gm_gn := Aside0.mk (Ne.symm NB_gn_gm.out)
  have HBo := Aside0.mk HB.out
  have nHB := Aside0.mk (HB.out.trans (hB.mono HB.out.size))
  clear HB
  have HB := nHB
  clear nHB
  clear hc_gp_0 hf_gp_0 hc_gp_1 hf_gp_1 hc_gp_2 hf_gp_2 hc_gp_3 hf_gp_3 hc_gp_4 hf_gp_4 hc_gp_5 hf_gp_5 hc_gp_6 hf_gp_6 hc_gp_7 hf_gp_7 hc_gp_8 hf_gp_8 hc_gp_9 hf_gp_9
  have nBK := Aside0.mk (blk_below (g := gp) (o := .cells #[.int .i64 t.f0, .int .i64 t.f1, .int .u32 x.f0, .bool x.f1, .int .i64 x.f2, .slice A_x x.f3.length c_x, .int .u8 kind, .slice A_l l.length c_l, .int .i64 n0, .int .i64 n1] 53 (0, 0)) BK_gp.out hB)
  clear BK_gp
  have BK_gp := nBK
  clear nBK
  have hc_gp_0 : w7_.cell? ⟨gp, 0, none⟩ = some (.int .i64 t.f0) := (blk_cell BK_gp.out 0).trans rfl
  have hf_gp_0 := blk_frozen BK_gp.out 0
  have hc_gp_1 : w7_.cell? ⟨gp, 1, none⟩ = some (.int .i64 t.f1) := (blk_cell BK_gp.out 1).trans rfl
  have hf_gp_1 := blk_frozen BK_gp.out 1
  have hc_gp_2 : w7_.cell? ⟨gp, 2, none⟩ = some (.int .u32 x.f0) := (blk_cell BK_gp.out 2).trans rfl
  have hf_gp_2 := blk_frozen BK_gp.out 2
  have hc_gp_3 : w7_.cell? ⟨gp, 3, none⟩ = some (.bool x.f1) := (blk_cell BK_gp.out 3).trans rfl
  have hf_gp_3 := blk_frozen BK_gp.out 3
  have hc_gp_4 : w7_.cell? ⟨gp, 4, none⟩ = some (.int .i64 x.f2) := (blk_cell BK_gp.out 4).trans rfl
  have hf_gp_4 := blk_frozen BK_gp.out 4
  have hc_gp_5 : w7_.cell? ⟨gp, 5, none⟩ = some (.slice A_x x.f3.length c_x) := (blk_cell BK_gp.out 5).trans rfl
  have hf_gp_5 := blk_frozen BK_gp.out 5
  have hc_gp_6 : w7_.cell? ⟨gp, 6, none⟩ = some (.int .u8 kind) := (blk_cell BK_gp.out 6).trans rfl
  have hf_gp_6 := blk_frozen BK_gp.out 6
  have hc_gp_7 : w7_.cell? ⟨gp, 7, none⟩ = some (.slice A_l l.length c_l) := (blk_cell BK_gp.out 7).trans rfl
  have hf_gp_7 := blk_frozen BK_gp.out 7
  have hc_gp_8 : w7_.cell? ⟨gp, 8, none⟩ = some (.int .i64 n0) := (blk_cell BK_gp.out 8).trans rfl
  have hf_gp_8 := blk_frozen BK_gp.out 8
  have hc_gp_9 : w7_.cell? ⟨gp, 9, none⟩ = some (.int .i64 n1) := (blk_cell BK_gp.out 9).trans rfl
  have hf_gp_9 := blk_frozen BK_gp.out 9
  clear hc_gt_0 hf_gt_0 hc_gt_1 hf_gt_1
  have nBK := Aside0.mk (blk_below (g := gt) (o := .cells #[.int .i64 t.f0, .int .i64 t.f1] 23 (0, 0)) BK_gt.out hB)
  clear BK_gt
  have BK_gt := nBK
  clear nBK
  have hc_gt_0 : w7_.cell? ⟨gt, 0, none⟩ = some (.int .i64 t.f0) := (blk_cell BK_gt.out 0).trans rfl
  have hf_gt_0 := blk_frozen BK_gt.out 0
  have hc_gt_1 : w7_.cell? ⟨gt, 1, none⟩ = some (.int .i64 t.f1) := (blk_cell BK_gt.out 1).trans rfl
  have hf_gt_1 := blk_frozen BK_gt.out 1
  clear hc_gm_0 hf_gm_0 hc_gm_1 hf_gm_1 hc_gm_2 hf_gm_2 hc_gm_3 hf_gm_3
  have nBK := Aside0.mk (blk_below (g := gm) (o := .cells #[.int .u32 x.f0, .bool x.f1, .int .i64 x.f2, .slice A_x x.f3.length c_x] 28 (0, 0)) BK_gm.out hB)
  clear BK_gm
  have BK_gm := nBK
  clear nBK
  have hc_gm_0 : w7_.cell? ⟨gm, 0, none⟩ = some (.int .u32 x.f0) := (blk_cell BK_gm.out 0).trans rfl
  have hf_gm_0 := blk_frozen BK_gm.out 0
  have hc_gm_1 : w7_.cell? ⟨gm, 1, none⟩ = some (.bool x.f1) := (blk_cell BK_gm.out 1).trans rfl
  have hf_gm_1 := blk_frozen BK_gm.out 1
  have hc_gm_2 : w7_.cell? ⟨gm, 2, none⟩ = some (.int .i64 x.f2) := (blk_cell BK_gm.out 2).trans rfl
  have hf_gm_2 := blk_frozen BK_gm.out 2
  have hc_gm_3 : w7_.cell? ⟨gm, 3, none⟩ = some (.slice A_x x.f3.length c_x) := (blk_cell BK_gm.out 3).trans rfl
  have hf_gm_3 := blk_frozen BK_gm.out 3
  have BK_gn := Aside0.mk hBN
  have GE_gn := Aside0.mk (Nat.le_trans HBo.out.size hG.out)
  clear HBo hG hBN hB
  have hc_gn_0 : w7_.cell? ⟨gn, 0, none⟩ = some (.int .i64 n0) := (blk_cell BK_gn.out 0).trans rfl
  have hf_gn_0 := blk_frozen BK_gn.out 0
  have hc_gn_1 : w7_.cell? ⟨gn, 1, none⟩ = some (.int .i64 n1) := (blk_cell BK_gn.out 1).trans rfl
  have hf_gn_1 := blk_frozen BK_gn.out 1
  go_wp2_with (first | (go_at_call 9; with_reducible refine (shown_w _).mono ?_; rintro e w8_ ⟨rfl, hB⟩; have nHB := Aside0.mk (HB.out.trans (hB.mono HB.out.size)); clear HB; have HB := nHB; clear nHB; clear hc_gp_0 hf_gp_0 hc_gp_1 hf_gp_1 hc_gp_2 hf_gp_2 hc_gp_3 hf_gp_3 hc_gp_4 hf_gp_4 hc_gp_5 hf_gp_5 hc_gp_6 hf_gp_6 hc_gp_7 hf_gp_7 hc_gp_8 hf_gp_8 hc_gp_9 hf_gp_9; have nBK := Aside0.mk (blk_below (g := gp) (o := .cells #[.int .i64 t.f0, .int .i64 t.f1, .int .u32 x.f0, .bool x.f1, .int .i64 x.f2, .slice A_x x.f3.length c_x, .int .u8 kind, .slice A_l l.length c_l, .int .i64 n0, .int .i64 n1] 53 (0, 0)) BK_gp.out hB); clear BK_gp; have BK_gp := nBK; clear nBK; have hc_gp_0 : w8_.cell? ⟨gp, 0, none⟩ = some (.int .i64 t.f0) := (blk_cell BK_gp.out 0).trans rfl; have hf_gp_0 := blk_frozen BK_gp.out 0; have hc_gp_1 : w8_.cell? ⟨gp, 1, none⟩ = some (.int .i64 t.f1) := (blk_cell BK_gp.out 1).trans rfl; have hf_gp_1 := blk_frozen BK_gp.out 1; have hc_gp_2 : w8_.cell? ⟨gp, 2, none⟩ = some (.int .u32 x.f0) := (blk_cell BK_gp.out 2).trans rfl; have hf_gp_2 := blk_frozen BK_gp.out 2; have hc_gp_3 : w8_.cell? ⟨gp, 3, none⟩ = some (.bool x.f1) := (blk_cell BK_gp.out 3).trans rfl; have hf_gp_3 := blk_frozen BK_gp.out 3; have hc_gp_4 : w8_.cell? ⟨gp, 4, none⟩ = some (.int .i64 x.f2) := (blk_cell BK_gp.out 4).trans rfl; have hf_gp_4 := blk_frozen BK_gp.out 4; have hc_gp_5 : w8_.cell? ⟨gp, 5, none⟩ = some (.slice A_x x.f3.length c_x) := (blk_cell BK_gp.out 5).trans rfl; have hf_gp_5 := blk_frozen BK_gp.out 5; have hc_gp_6 : w8_.cell? ⟨gp, 6, none⟩ = some (.int .u8 kind) := (blk_cell BK_gp.out 6).trans rfl; have hf_gp_6 := blk_frozen BK_gp.out 6; have hc_gp_7 : w8_.cell? ⟨gp, 7, none⟩ = some (.slice A_l l.length c_l) := (blk_cell BK_gp.out 7).trans rfl; have hf_gp_7 := blk_frozen BK_gp.out 7; have hc_gp_8 : w8_.cell? ⟨gp, 8, none⟩ = some (.int .i64 n0) := (blk_cell BK_gp.out 8).trans rfl; have hf_gp_8 := blk_frozen BK_gp.out 8; have hc_gp_9 : w8_.cell? ⟨gp, 9, none⟩ = some (.int .i64 n1) := (blk_cell BK_gp.out 9).trans rfl; have hf_gp_9 := blk_frozen BK_gp.out 9; clear hc_gt_0 hf_gt_0 hc_gt_1 hf_gt_1; have nBK := Aside0.mk (blk_below (g := gt) (o := .cells #[.int .i64 t.f0, .int .i64 t.f1] 23 (0, 0)) BK_gt.out hB); clear BK_gt; have BK_gt := nBK; clear nBK; have hc_gt_0 : w8_.cell? ⟨gt, 0, none⟩ = some (.int .i64 t.f0) := (blk_cell BK_gt.out 0).trans rfl; have hf_gt_0 := blk_frozen BK_gt.out 0; have hc_gt_1 : w8_.cell? ⟨gt, 1, none⟩ = some (.int .i64 t.f1) := (blk_cell BK_gt.out 1).trans rfl; have hf_gt_1 := blk_frozen BK_gt.out 1; clear hc_gm_0 hf_gm_0 hc_gm_1 hf_gm_1 hc_gm_2 hf_gm_2 hc_gm_3 hf_gm_3; have nBK := Aside0.mk (blk_below (g := gm) (o := .cells #[.int .u32 x.f0, .bool x.f1, .int .i64 x.f2, .slice A_x x.f3.length c_x] 28 (0, 0)) BK_gm.out hB); clear BK_gm; have BK_gm := nBK; clear nBK; have hc_gm_0 : w8_.cell? ⟨gm, 0, none⟩ = some (.int .u32 x.f0) := (blk_cell BK_gm.out 0).trans rfl; have hf_gm_0 := blk_frozen BK_gm.out 0; have hc_gm_1 : w8_.cell? ⟨gm, 1, none⟩ = some (.bool x.f1) := (blk_cell BK_gm.out 1).trans rfl; have hf_gm_1 := blk_frozen BK_gm.out 1; have hc_gm_2 : w8_.cell? ⟨gm, 2, none⟩ = some (.int .i64 x.f2) := (blk_cell BK_gm.out 2).trans rfl; have hf_gm_2 := blk_frozen BK_gm.out 2; have hc_gm_3 : w8_.cell? ⟨gm, 3, none⟩ = some (.slice A_x x.f3.length c_x) := (blk_cell BK_gm.out 3).trans rfl; have hf_gm_3 := blk_frozen BK_gm.out 3; clear hc_gn_0 hf_gn_0 hc_gn_1 hf_gn_1; have nBK := Aside0.mk (blk_below (g := gn) (o := .cells #[.int .i64 n0, .int .i64 n1] 51 (0, 0)) BK_gn.out hB); clear BK_gn; have BK_gn := nBK; clear nBK; have hc_gn_0 : w8_.cell? ⟨gn, 0, none⟩ = some (.int .i64 n0) := (blk_cell BK_gn.out 0).trans rfl; have hf_gn_0 := blk_frozen BK_gn.out 0; have hc_gn_1 : w8_.cell? ⟨gn, 1, none⟩ = some (.int .i64 n1) := (blk_cell BK_gn.out 1).trans rfl; have hf_gn_1 := blk_frozen BK_gn.out 1; clear hB) | (go_at_call 10; with_reducible refine (mayR_w Xhm.out _).mono ?_; rintro e w9_ ⟨rfl, hB⟩; have nHB := Aside0.mk (HB.out.trans (hB.mono HB.out.size)); clear HB; have HB := nHB; clear nHB; clear hc_gp_0 hf_gp_0 hc_gp_1 hf_gp_1 hc_gp_2 hf_gp_2 hc_gp_3 hf_gp_3 hc_gp_4 hf_gp_4 hc_gp_5 hf_gp_5 hc_gp_6 hf_gp_6 hc_gp_7 hf_gp_7 hc_gp_8 hf_gp_8 hc_gp_9 hf_gp_9; have nBK := Aside0.mk (blk_below (g := gp) (o := .cells #[.int .i64 t.f0, .int .i64 t.f1, .int .u32 x.f0, .bool x.f1, .int .i64 x.f2, .slice A_x x.f3.length c_x, .int .u8 kind, .slice A_l l.length c_l, .int .i64 n0, .int .i64 n1] 53 (0, 0)) BK_gp.out hB); clear BK_gp; have BK_gp := nBK; clear nBK; have hc_gp_0 : w9_.cell? ⟨gp, 0, none⟩ = some (.int .i64 t.f0) := (blk_cell BK_gp.out 0).trans rfl; have hf_gp_0 := blk_frozen BK_gp.out 0; have hc_gp_1 : w9_.cell? ⟨gp, 1, none⟩ = some (.int .i64 t.f1) := (blk_cell BK_gp.out 1).trans rfl; have hf_gp_1 := blk_frozen BK_gp.out 1; have hc_gp_2 : w9_.cell? ⟨gp, 2, none⟩ = some (.int .u32 x.f0) := (blk_cell BK_gp.out 2).trans rfl; have hf_gp_2 := blk_frozen BK_gp.out 2; have hc_gp_3 : w9_.cell? ⟨gp, 3, none⟩ = some (.bool x.f1) := (blk_cell BK_gp.out 3).trans rfl; have hf_gp_3 := blk_frozen BK_gp.out 3; have hc_gp_4 : w9_.cell? ⟨gp, 4, none⟩ = some (.int .i64 x.f2) := (blk_cell BK_gp.out 4).trans rfl; have hf_gp_4 := blk_frozen BK_gp.out 4; have hc_gp_5 : w9_.cell? ⟨gp, 5, none⟩ = some (.slice A_x x.f3.length c_x) := (blk_cell BK_gp.out 5).trans rfl; have hf_gp_5 := blk_frozen BK_gp.out 5; have hc_gp_6 : w9_.cell? ⟨gp, 6, none⟩ = some (.int .u8 kind) := (blk_cell BK_gp.out 6).trans rfl; have hf_gp_6 := blk_frozen BK_gp.out 6; have hc_gp_7 : w9_.cell? ⟨gp, 7, none⟩ = some (.slice A_l l.length c_l) := (blk_cell BK_gp.out 7).trans rfl; have hf_gp_7 := blk_frozen BK_gp.out 7; have hc_gp_8 : w9_.cell? ⟨gp, 8, none⟩ = some (.int .i64 n0) := (blk_cell BK_gp.out 8).trans rfl; have hf_gp_8 := blk_frozen BK_gp.out 8; have hc_gp_9 : w9_.cell? ⟨gp, 9, none⟩ = some (.int .i64 n1) := (blk_cell BK_gp.out 9).trans rfl; have hf_gp_9 := blk_frozen BK_gp.out 9; clear hc_gt_0 hf_gt_0 hc_gt_1 hf_gt_1; have nBK := Aside0.mk (blk_below (g := gt) (o := .cells #[.int .i64 t.f0, .int .i64 t.f1] 23 (0, 0)) BK_gt.out hB); clear BK_gt; have BK_gt := nBK; clear nBK; have hc_gt_0 : w9_.cell? ⟨gt, 0, none⟩ = some (.int .i64 t.f0) := (blk_cell BK_gt.out 0).trans rfl; have hf_gt_0 := blk_frozen BK_gt.out 0; have hc_gt_1 : w9_.cell? ⟨gt, 1, none⟩ = some (.int .i64 t.f1) := (blk_cell BK_gt.out 1).trans rfl; have hf_gt_1 := blk_frozen BK_gt.out 1; clear hc_gm_0 hf_gm_0 hc_gm_1 hf_gm_1 hc_gm_2 hf_gm_2 hc_gm_3 hf_gm_3; have nBK := Aside0.mk (blk_below (g := gm) (o := .cells #[.int .u32 x.f0, .bool x.f1, .int .i64 x.f2, .slice A_x x.f3.length c_x] 28 (0, 0)) BK_gm.out hB); clear BK_gm; have BK_gm := nBK; clear nBK; have hc_gm_0 : w9_.cell? ⟨gm, 0, none⟩ = some (.int .u32 x.f0) := (blk_cell BK_gm.out 0).trans rfl; have hf_gm_0 := blk_frozen BK_gm.out 0; have hc_gm_1 : w9_.cell? ⟨gm, 1, none⟩ = some (.bool x.f1) := (blk_cell BK_gm.out 1).trans rfl; have hf_gm_1 := blk_frozen BK_gm.out 1; have hc_gm_2 : w9_.cell? ⟨gm, 2, none⟩ = some (.int .i64 x.f2) := (blk_cell BK_gm.out 2).trans rfl; have hf_gm_2 := blk_frozen BK_gm.out 2; have hc_gm_3 : w9_.cell? ⟨gm, 3, none⟩ = some (.slice A_x x.f3.length c_x) := (blk_cell BK_gm.out 3).trans rfl; have hf_gm_3 := blk_frozen BK_gm.out 3; clear hc_gn_0 hf_gn_0 hc_gn_1 hf_gn_1; have nBK := Aside0.mk (blk_below (g := gn) (o := .cells #[.int .i64 n0, .int .i64 n1] 51 (0, 0)) BK_gn.out hB); clear BK_gn; have BK_gn := nBK; clear nBK; have hc_gn_0 : w9_.cell? ⟨gn, 0, none⟩ = some (.int .i64 n0) := (blk_cell BK_gn.out 0).trans rfl; have hf_gn_0 := blk_frozen BK_gn.out 0; have hc_gn_1 : w9_.cell? ⟨gn, 1, none⟩ = some (.int .i64 n1) := (blk_cell BK_gn.out 1).trans rfl; have hf_gn_1 := blk_frozen BK_gn.out 1; clear hB) | (go_at_call 11; with_reducible refine (right_w (b := true) (by simp [Xhx.out]) _ _ _ (Kd.C_below HC_x.out HB.out) HK_x.out).mono ?_; rintro e w10_ ⟨rfl, hB⟩; have nHB := Aside0.mk (HB.out.trans (hB.mono HB.out.size)); clear HB; have HB := nHB; clear nHB; clear hc_gp_0 hf_gp_0 hc_gp_1 hf_gp_1 hc_gp_2 hf_gp_2 hc_gp_3 hf_gp_3 hc_gp_4 hf_gp_4 hc_gp_5 hf_gp_5 hc_gp_6 hf_gp_6 hc_gp_7 hf_gp_7 hc_gp_8 hf_gp_8 hc_gp_9 hf_gp_9; have nBK := Aside0.mk (blk_below (g := gp) (o := .cells #[.int .i64 t.f0, .int .i64 t.f1, .int .u32 x.f0, .bool x.f1, .int .i64 x.f2, .slice A_x x.f3.length c_x, .int .u8 kind, .slice A_l l.length c_l, .int .i64 n0, .int .i64 n1] 53 (0, 0)) BK_gp.out hB); clear BK_gp; have BK_gp := nBK; clear nBK; have hc_gp_0 : w10_.cell? ⟨gp, 0, none⟩ = some (.int .i64 t.f0) := (blk_cell BK_gp.out 0).trans rfl; have hf_gp_0 := blk_frozen BK_gp.out 0; have hc_gp_1 : w10_.cell? ⟨gp, 1, none⟩ = some (.int .i64 t.f1) := (blk_cell BK_gp.out 1).trans rfl; have hf_gp_1 := blk_frozen BK_gp.out 1; have hc_gp_2 : w10_.cell? ⟨gp, 2, none⟩ = some (.int .u32 x.f0) := (blk_cell BK_gp.out 2).trans rfl; have hf_gp_2 := blk_frozen BK_gp.out 2; have hc_gp_3 : w10_.cell? ⟨gp, 3, none⟩ = some (.bool x.f1) := (blk_cell BK_gp.out 3).trans rfl; have hf_gp_3 := blk_frozen BK_gp.out 3; have hc_gp_4 : w10_.cell? ⟨gp, 4, none⟩ = some (.int .i64 x.f2) := (blk_cell BK_gp.out 4).trans rfl; have hf_gp_4 := blk_frozen BK_gp.out 4; have hc_gp_5 : w10_.cell? ⟨gp, 5, none⟩ = some (.slice A_x x.f3.length c_x) := (blk_cell BK_gp.out 5).trans rfl; have hf_gp_5 := blk_frozen BK_gp.out 5; have hc_gp_6 : w10_.cell? ⟨gp, 6, none⟩ = some (.int .u8 kind) := (blk_cell BK_gp.out 6).trans rfl; have hf_gp_6 := blk_frozen BK_gp.out 6; have hc_gp_7 : w10_.cell? ⟨gp, 7, none⟩ = some (.slice A_l l.length c_l) := (blk_cell BK_gp.out 7).trans rfl; have hf_gp_7 := blk_frozen BK_gp.out 7; have hc_gp_8 : w10_.cell? ⟨gp, 8, none⟩ = some (.int .i64 n0) := (blk_cell BK_gp.out 8).trans rfl; have hf_gp_8 := blk_frozen BK_gp.out 8; have hc_gp_9 : w10_.cell? ⟨gp, 9, none⟩ = some (.int .i64 n1) := (blk_cell BK_gp.out 9).trans rfl; have hf_gp_9 := blk_frozen BK_gp.out 9; clear hc_gt_0 hf_gt_0 hc_gt_1 hf_gt_1; have nBK := Aside0.mk (blk_below (g := gt) (o := .cells #[.int .i64 t.f0, .int .i64 t.f1] 23 (0, 0)) BK_gt.out hB); clear BK_gt; have BK_gt := nBK; clear nBK; have hc_gt_0 : w10_.cell? ⟨gt, 0, none⟩ = some (.int .i64 t.f0) := (blk_cell BK_gt.out 0).trans rfl; have hf_gt_0 := blk_frozen BK_gt.out 0; have hc_gt_1 : w10_.cell? ⟨gt, 1, none⟩ = some (.int .i64 t.f1) := (blk_cell BK_gt.out 1).trans rfl; have hf_gt_1 := blk_frozen BK_gt.out 1; clear hc_gm_0 hf_gm_0 hc_gm_1 hf_gm_1 hc_gm_2 hf_gm_2 hc_gm_3 hf_gm_3; have nBK := Aside0.mk (blk_below (g := gm) (o := .cells #[.int .u32 x.f0, .bool x.f1, .int .i64 x.f2, .slice A_x x.f3.length c_x] 28 (0, 0)) BK_gm.out hB); clear BK_gm; have BK_gm := nBK; clear nBK; have hc_gm_0 : w10_.cell? ⟨gm, 0, none⟩ = some (.int .u32 x.f0) := (blk_cell BK_gm.out 0).trans rfl; have hf_gm_0 := blk_frozen BK_gm.out 0; have hc_gm_1 : w10_.cell? ⟨gm, 1, none⟩ = some (.bool x.f1) := (blk_cell BK_gm.out 1).trans rfl; have hf_gm_1 := blk_frozen BK_gm.out 1; have hc_gm_2 : w10_.cell? ⟨gm, 2, none⟩ = some (.int .i64 x.f2) := (blk_cell BK_gm.out 2).trans rfl; have hf_gm_2 := blk_frozen BK_gm.out 2; have hc_gm_3 : w10_.cell? ⟨gm, 3, none⟩ = some (.slice A_x x.f3.length c_x) := (blk_cell BK_gm.out 3).trans rfl; have hf_gm_3 := blk_frozen BK_gm.out 3; clear hc_gn_0 hf_gn_0 hc_gn_1 hf_gn_1; have nBK := Aside0.mk (blk_below (g := gn) (o := .cells #[.int .i64 n0, .int .i64 n1] 51 (0, 0)) BK_gn.out hB); clear BK_gn; have BK_gn := nBK; clear nBK; have hc_gn_0 : w10_.cell? ⟨gn, 0, none⟩ = some (.int .i64 n0) := (blk_cell BK_gn.out 0).trans rfl; have hf_gn_0 := blk_frozen BK_gn.out 0; have hc_gn_1 : w10_.cell? ⟨gn, 1, none⟩ = some (.int .i64 n1) := (blk_cell BK_gn.out 1).trans rfl; have hf_gn_1 := blk_frozen BK_gn.out 1; clear hB))
  go_ret
  exact ⟨rfl, HB.out⟩
set_option maxHeartbeats 8000000 in
set_option maxRecDepth 100000 in
theorem mstays_neg1 {t : S23} {x : S28} {kind : Int} {l : List Int} {n0 n1 : Int} (hm : mayB t = true) (hx : MOk x) (h1 : ¬ (200 : Int) < (l.length : Int)) (h2 : ¬ n0 < 0) (h3 : n1 < 0) (A_x : Option Addr) (c_x : Nat) (A_l : Option Addr) (c_l : Nat) (w : World) (hr : Kd.C k49 w A_x x.f3.length x.f3) (hc : x.f3.length ≤ c_x) (hs : Kd.C (Kd.int .u32) w A_l l.length l) (hcs : l.length ≤ c_l) :
    Calls Try.prog 5 #[.agg #[.int .i64 t.f0, .int .i64 t.f1, .int .u32 x.f0, .bool x.f1, .int .i64 x.f2, .slice A_x x.f3.length c_x, .int .u8 kind, .slice A_l l.length c_l, .int .i64 n0, .int .i64 n1]] w (fun e w' => e = .returned (.bool true) ∧ Below w.heap.size w w') := by
  have hu23 := Try.underlying23
  have hu28 := Try.underlying28
  have hu51 := Try.underlying51
  have hu53 := Try.underlying53
  have HB := Aside0.mk (Below.refl w.heap.size w)
  have HC_x := Aside0.mk hr
  have HK_x := Aside0.mk hc
  have HC_l := Aside0.mk hs
  have HK_l := Aside0.mk hcs
  clear hr hc hs hcs
  have Xhm := Aside0.mk hm
  have Xhx := Aside0.mk hx
  clear hm hx
  go_enter Try.func5, Try.ntmps5
  go_upto_region 2 with (first | ((with_reducible refine gate_dst (N := 1) rfl ?_); (try (refine gate_guard (by rfl) ?_; dsimp only)); refine box_event ?hg (N := 1) ?hd (cs := #[.int .i64 t.f0, .int .i64 t.f1, .int .u32 x.f0, .bool x.f1, .int .i64 x.f2, .slice A_x x.f3.length c_x, .int .u8 kind, .slice A_l l.length c_l, .int .i64 n0, .int .i64 n1]) (t := 53) ?hr ?_; (case hd => rfl); (case hg => rfl); (case hr => first | (go_simp; done) | (go_simp; rfl)); intro gp hg w1_ hbox hB; have HBo := Aside0.mk HB.out; have nHB := Aside0.mk (HB.out.trans (hB.mono HB.out.size)); clear HB; have HB := nHB; clear nHB; have BK_gp := Aside0.mk hbox; have GE_gp := Aside0.mk (show w.heap.size ≤ gp by rw [hg]; exact HBo.out.size); clear hg hbox hB; have hc_gp_0 : w1_.cell? ⟨gp, 0, none⟩ = some (.int .i64 t.f0) := (blk_cell BK_gp.out 0).trans rfl; have hf_gp_0 := blk_frozen BK_gp.out 0; have hc_gp_1 : w1_.cell? ⟨gp, 1, none⟩ = some (.int .i64 t.f1) := (blk_cell BK_gp.out 1).trans rfl; have hf_gp_1 := blk_frozen BK_gp.out 1; have hc_gp_2 : w1_.cell? ⟨gp, 2, none⟩ = some (.int .u32 x.f0) := (blk_cell BK_gp.out 2).trans rfl; have hf_gp_2 := blk_frozen BK_gp.out 2; have hc_gp_3 : w1_.cell? ⟨gp, 3, none⟩ = some (.bool x.f1) := (blk_cell BK_gp.out 3).trans rfl; have hf_gp_3 := blk_frozen BK_gp.out 3; have hc_gp_4 : w1_.cell? ⟨gp, 4, none⟩ = some (.int .i64 x.f2) := (blk_cell BK_gp.out 4).trans rfl; have hf_gp_4 := blk_frozen BK_gp.out 4; have hc_gp_5 : w1_.cell? ⟨gp, 5, none⟩ = some (.slice A_x x.f3.length c_x) := (blk_cell BK_gp.out 5).trans rfl; have hf_gp_5 := blk_frozen BK_gp.out 5; have hc_gp_6 : w1_.cell? ⟨gp, 6, none⟩ = some (.int .u8 kind) := (blk_cell BK_gp.out 6).trans rfl; have hf_gp_6 := blk_frozen BK_gp.out 6; have hc_gp_7 : w1_.cell? ⟨gp, 7, none⟩ = some (.slice A_l l.length c_l) := (blk_cell BK_gp.out 7).trans rfl; have hf_gp_7 := blk_frozen BK_gp.out 7; have hc_gp_8 : w1_.cell? ⟨gp, 8, none⟩ = some (.int .i64 n0) := (blk_cell BK_gp.out 8).trans rfl; have hf_gp_8 := blk_frozen BK_gp.out 8; have hc_gp_9 : w1_.cell? ⟨gp, 9, none⟩ = some (.int .i64 n1) := (blk_cell BK_gp.out 9).trans rfl; have hf_gp_9 := blk_frozen BK_gp.out 9; clear HBo) | ((with_reducible refine gate_dst (N := 3) rfl ?_); (try (refine gate_guard (by rfl) ?_; dsimp only)); refine box_event ?hg (N := 3) ?hd (cs := #[.int .i64 0, .int .i64 0]) (t := 23) ?hr ?_; (case hd => rfl); (case hg => rfl); (case hr => first | (go_simp; done) | (go_simp; rfl)); intro gt hg w2_ hbox hB0; have hG := Aside0.mk (show w1_.heap.size ≤ gt from Nat.le_of_eq hg.symm); clear hg; have hBX := Aside0.mk hbox; have hB1 := Aside0.mk hB0; clear hB0; have hc_gt_0 : w2_.cell? ⟨gt, 0, none⟩ = some (.int .i64 0) := (blk_cell hbox 0).trans rfl; have hf_gt_0 := blk_frozen hbox 0; have hc_gt_1 : w2_.cell? ⟨gt, 1, none⟩ = some (.int .i64 0) := (blk_cell hbox 1).trans rfl; have hf_gt_1 := blk_frozen hbox 1; clear hbox))
  have hB : Below w1_.heap.size w1_ ((w2_.setCell ⟨gt, 0, none⟩ (.int .i64 t.f0)).setCell ⟨gt, 1, none⟩ (.int .i64 t.f1)) := (below_set (below_set hB1.out hG.out) hG.out)
  have hBN : ((w2_.setCell ⟨gt, 0, none⟩ (.int .i64 t.f0)).setCell ⟨gt, 1, none⟩ (.int .i64 t.f1)).heap[gt]? = some (.cells #[.int .i64 t.f0, .int .i64 t.f1] 23 (0, 0)) := (blk_put (cs := #[.int .i64 t.f0, .int .i64 0]) (blk_put (cs := #[.int .i64 0, .int .i64 0]) hBX.out 0 (.int .i64 t.f0) rfl) 1 (.int .i64 t.f1) rfl)
  clear hBX hB1
  clear hc_gt_0 hf_gt_0 hc_gt_1 hf_gt_1
  generalize ((w2_.setCell ⟨gt, 0, none⟩ (.int .i64 t.f0)).setCell ⟨gt, 1, none⟩ (.int .i64 t.f1)) = w3_ at hB hBN ⊢
  have NB_gt_gp := Aside0.mk (show gt ≠ gp from Nat.ne_of_gt (Nat.lt_of_lt_of_le (blk_lt (g := gp) (o := .cells #[.int .i64 t.f0, .int .i64 t.f1, .int .u32 x.f0, .bool x.f1, .int .i64 x.f2, .slice A_x x.f3.length c_x, .int .u8 kind, .slice A_l l.length c_l, .int .i64 n0, .int .i64 n1] 53 (0, 0)) BK_gp.out) hG.out))
  have NB_gp_gt := Aside0.mk (Ne.symm NB_gt_gp.out)
  have HBo := Aside0.mk HB.out
  have nHB := Aside0.mk (HB.out.trans (hB.mono HB.out.size))
  clear HB
  have HB := nHB
  clear nHB
  clear hc_gp_0 hf_gp_0 hc_gp_1 hf_gp_1 hc_gp_2 hf_gp_2 hc_gp_3 hf_gp_3 hc_gp_4 hf_gp_4 hc_gp_5 hf_gp_5 hc_gp_6 hf_gp_6 hc_gp_7 hf_gp_7 hc_gp_8 hf_gp_8 hc_gp_9 hf_gp_9
  have nBK := Aside0.mk (blk_below (g := gp) (o := .cells #[.int .i64 t.f0, .int .i64 t.f1, .int .u32 x.f0, .bool x.f1, .int .i64 x.f2, .slice A_x x.f3.length c_x, .int .u8 kind, .slice A_l l.length c_l, .int .i64 n0, .int .i64 n1] 53 (0, 0)) BK_gp.out hB)
  clear BK_gp
  have BK_gp := nBK
  clear nBK
  have hc_gp_0 : w3_.cell? ⟨gp, 0, none⟩ = some (.int .i64 t.f0) := (blk_cell BK_gp.out 0).trans rfl
  have hf_gp_0 := blk_frozen BK_gp.out 0
  have hc_gp_1 : w3_.cell? ⟨gp, 1, none⟩ = some (.int .i64 t.f1) := (blk_cell BK_gp.out 1).trans rfl
  have hf_gp_1 := blk_frozen BK_gp.out 1
  have hc_gp_2 : w3_.cell? ⟨gp, 2, none⟩ = some (.int .u32 x.f0) := (blk_cell BK_gp.out 2).trans rfl
  have hf_gp_2 := blk_frozen BK_gp.out 2
  have hc_gp_3 : w3_.cell? ⟨gp, 3, none⟩ = some (.bool x.f1) := (blk_cell BK_gp.out 3).trans rfl
  have hf_gp_3 := blk_frozen BK_gp.out 3
  have hc_gp_4 : w3_.cell? ⟨gp, 4, none⟩ = some (.int .i64 x.f2) := (blk_cell BK_gp.out 4).trans rfl
  have hf_gp_4 := blk_frozen BK_gp.out 4
  have hc_gp_5 : w3_.cell? ⟨gp, 5, none⟩ = some (.slice A_x x.f3.length c_x) := (blk_cell BK_gp.out 5).trans rfl
  have hf_gp_5 := blk_frozen BK_gp.out 5
  have hc_gp_6 : w3_.cell? ⟨gp, 6, none⟩ = some (.int .u8 kind) := (blk_cell BK_gp.out 6).trans rfl
  have hf_gp_6 := blk_frozen BK_gp.out 6
  have hc_gp_7 : w3_.cell? ⟨gp, 7, none⟩ = some (.slice A_l l.length c_l) := (blk_cell BK_gp.out 7).trans rfl
  have hf_gp_7 := blk_frozen BK_gp.out 7
  have hc_gp_8 : w3_.cell? ⟨gp, 8, none⟩ = some (.int .i64 n0) := (blk_cell BK_gp.out 8).trans rfl
  have hf_gp_8 := blk_frozen BK_gp.out 8
  have hc_gp_9 : w3_.cell? ⟨gp, 9, none⟩ = some (.int .i64 n1) := (blk_cell BK_gp.out 9).trans rfl
  have hf_gp_9 := blk_frozen BK_gp.out 9
  have BK_gt := Aside0.mk hBN
  have GE_gt := Aside0.mk (Nat.le_trans HBo.out.size hG.out)
  clear HBo hG hBN hB
  have hc_gt_0 : w3_.cell? ⟨gt, 0, none⟩ = some (.int .i64 t.f0) := (blk_cell BK_gt.out 0).trans rfl
  have hf_gt_0 := blk_frozen BK_gt.out 0
  have hc_gt_1 : w3_.cell? ⟨gt, 1, none⟩ = some (.int .i64 t.f1) := (blk_cell BK_gt.out 1).trans rfl
  have hf_gt_1 := blk_frozen BK_gt.out 1
  go_upto_region 3 with (first | ((with_reducible refine gate_dst (N := 4) rfl ?_); (try (refine gate_guard (by rfl) ?_; dsimp only)); refine box_event ?hg (N := 4) ?hd (cs := #[.int .u32 0, .bool false, .int .i64 0, .slice none 0 0]) (t := 28) ?hr ?_; (case hd => rfl); (case hg => rfl); (case hr => first | (go_simp; done) | (go_simp; rfl)); intro gm hg w4_ hbox hB0; have hG := Aside0.mk (show w3_.heap.size ≤ gm from Nat.le_of_eq hg.symm); clear hg; have hBX := Aside0.mk hbox; have hB1 := Aside0.mk hB0; clear hB0; have hc_gm_0 : w4_.cell? ⟨gm, 0, none⟩ = some (.int .u32 0) := (blk_cell hbox 0).trans rfl; have hf_gm_0 := blk_frozen hbox 0; have hc_gm_1 : w4_.cell? ⟨gm, 1, none⟩ = some (.bool false) := (blk_cell hbox 1).trans rfl; have hf_gm_1 := blk_frozen hbox 1; have hc_gm_2 : w4_.cell? ⟨gm, 2, none⟩ = some (.int .i64 0) := (blk_cell hbox 2).trans rfl; have hf_gm_2 := blk_frozen hbox 2; have hc_gm_3 : w4_.cell? ⟨gm, 3, none⟩ = some (.slice none 0 0) := (blk_cell hbox 3).trans rfl; have hf_gm_3 := blk_frozen hbox 3; clear hbox))
  have hB : Below w3_.heap.size w3_ ((((w4_.setCell ⟨gm, 0, none⟩ (.int .u32 x.f0)).setCell ⟨gm, 1, none⟩ (.bool x.f1)).setCell ⟨gm, 2, none⟩ (.int .i64 x.f2)).setCell ⟨gm, 3, none⟩ (.slice A_x x.f3.length c_x)) := (below_set (below_set (below_set (below_set hB1.out hG.out) hG.out) hG.out) hG.out)
  have hBN : ((((w4_.setCell ⟨gm, 0, none⟩ (.int .u32 x.f0)).setCell ⟨gm, 1, none⟩ (.bool x.f1)).setCell ⟨gm, 2, none⟩ (.int .i64 x.f2)).setCell ⟨gm, 3, none⟩ (.slice A_x x.f3.length c_x)).heap[gm]? = some (.cells #[.int .u32 x.f0, .bool x.f1, .int .i64 x.f2, .slice A_x x.f3.length c_x] 28 (0, 0)) := (blk_put (cs := #[.int .u32 x.f0, .bool x.f1, .int .i64 x.f2, .slice none 0 0]) (blk_put (cs := #[.int .u32 x.f0, .bool x.f1, .int .i64 0, .slice none 0 0]) (blk_put (cs := #[.int .u32 x.f0, .bool false, .int .i64 0, .slice none 0 0]) (blk_put (cs := #[.int .u32 0, .bool false, .int .i64 0, .slice none 0 0]) hBX.out 0 (.int .u32 x.f0) rfl) 1 (.bool x.f1) rfl) 2 (.int .i64 x.f2) rfl) 3 (.slice A_x x.f3.length c_x) rfl)
  clear hBX hB1
  clear hc_gm_0 hf_gm_0 hc_gm_1 hf_gm_1 hc_gm_2 hf_gm_2 hc_gm_3 hf_gm_3
  generalize ((((w4_.setCell ⟨gm, 0, none⟩ (.int .u32 x.f0)).setCell ⟨gm, 1, none⟩ (.bool x.f1)).setCell ⟨gm, 2, none⟩ (.int .i64 x.f2)).setCell ⟨gm, 3, none⟩ (.slice A_x x.f3.length c_x)) = w5_ at hB hBN ⊢
  have NB_gm_gp := Aside0.mk (show gm ≠ gp from Nat.ne_of_gt (Nat.lt_of_lt_of_le (blk_lt (g := gp) (o := .cells #[.int .i64 t.f0, .int .i64 t.f1, .int .u32 x.f0, .bool x.f1, .int .i64 x.f2, .slice A_x x.f3.length c_x, .int .u8 kind, .slice A_l l.length c_l, .int .i64 n0, .int .i64 n1] 53 (0, 0)) BK_gp.out) hG.out))
  have NB_gp_gm := Aside0.mk (Ne.symm NB_gm_gp.out)
  have NB_gm_gt := Aside0.mk (show gm ≠ gt from Nat.ne_of_gt (Nat.lt_of_lt_of_le (blk_lt (g := gt) (o := .cells #[.int .i64 t.f0, .int .i64 t.f1] 23 (0, 0)) BK_gt.out) hG.out))
  have NB_gt_gm := Aside0.mk (Ne.symm NB_gm_gt.out)
  have HBo := Aside0.mk HB.out
  have nHB := Aside0.mk (HB.out.trans (hB.mono HB.out.size))
  clear HB
  have HB := nHB
  clear nHB
  clear hc_gp_0 hf_gp_0 hc_gp_1 hf_gp_1 hc_gp_2 hf_gp_2 hc_gp_3 hf_gp_3 hc_gp_4 hf_gp_4 hc_gp_5 hf_gp_5 hc_gp_6 hf_gp_6 hc_gp_7 hf_gp_7 hc_gp_8 hf_gp_8 hc_gp_9 hf_gp_9
  have nBK := Aside0.mk (blk_below (g := gp) (o := .cells #[.int .i64 t.f0, .int .i64 t.f1, .int .u32 x.f0, .bool x.f1, .int .i64 x.f2, .slice A_x x.f3.length c_x, .int .u8 kind, .slice A_l l.length c_l, .int .i64 n0, .int .i64 n1] 53 (0, 0)) BK_gp.out hB)
  clear BK_gp
  have BK_gp := nBK
  clear nBK
  have hc_gp_0 : w5_.cell? ⟨gp, 0, none⟩ = some (.int .i64 t.f0) := (blk_cell BK_gp.out 0).trans rfl
  have hf_gp_0 := blk_frozen BK_gp.out 0
  have hc_gp_1 : w5_.cell? ⟨gp, 1, none⟩ = some (.int .i64 t.f1) := (blk_cell BK_gp.out 1).trans rfl
  have hf_gp_1 := blk_frozen BK_gp.out 1
  have hc_gp_2 : w5_.cell? ⟨gp, 2, none⟩ = some (.int .u32 x.f0) := (blk_cell BK_gp.out 2).trans rfl
  have hf_gp_2 := blk_frozen BK_gp.out 2
  have hc_gp_3 : w5_.cell? ⟨gp, 3, none⟩ = some (.bool x.f1) := (blk_cell BK_gp.out 3).trans rfl
  have hf_gp_3 := blk_frozen BK_gp.out 3
  have hc_gp_4 : w5_.cell? ⟨gp, 4, none⟩ = some (.int .i64 x.f2) := (blk_cell BK_gp.out 4).trans rfl
  have hf_gp_4 := blk_frozen BK_gp.out 4
  have hc_gp_5 : w5_.cell? ⟨gp, 5, none⟩ = some (.slice A_x x.f3.length c_x) := (blk_cell BK_gp.out 5).trans rfl
  have hf_gp_5 := blk_frozen BK_gp.out 5
  have hc_gp_6 : w5_.cell? ⟨gp, 6, none⟩ = some (.int .u8 kind) := (blk_cell BK_gp.out 6).trans rfl
  have hf_gp_6 := blk_frozen BK_gp.out 6
  have hc_gp_7 : w5_.cell? ⟨gp, 7, none⟩ = some (.slice A_l l.length c_l) := (blk_cell BK_gp.out 7).trans rfl
  have hf_gp_7 := blk_frozen BK_gp.out 7
  have hc_gp_8 : w5_.cell? ⟨gp, 8, none⟩ = some (.int .i64 n0) := (blk_cell BK_gp.out 8).trans rfl
  have hf_gp_8 := blk_frozen BK_gp.out 8
  have hc_gp_9 : w5_.cell? ⟨gp, 9, none⟩ = some (.int .i64 n1) := (blk_cell BK_gp.out 9).trans rfl
  have hf_gp_9 := blk_frozen BK_gp.out 9
  clear hc_gt_0 hf_gt_0 hc_gt_1 hf_gt_1
  have nBK := Aside0.mk (blk_below (g := gt) (o := .cells #[.int .i64 t.f0, .int .i64 t.f1] 23 (0, 0)) BK_gt.out hB)
  clear BK_gt
  have BK_gt := nBK
  clear nBK
  have hc_gt_0 : w5_.cell? ⟨gt, 0, none⟩ = some (.int .i64 t.f0) := (blk_cell BK_gt.out 0).trans rfl
  have hf_gt_0 := blk_frozen BK_gt.out 0
  have hc_gt_1 : w5_.cell? ⟨gt, 1, none⟩ = some (.int .i64 t.f1) := (blk_cell BK_gt.out 1).trans rfl
  have hf_gt_1 := blk_frozen BK_gt.out 1
  have BK_gm := Aside0.mk hBN
  have GE_gm := Aside0.mk (Nat.le_trans HBo.out.size hG.out)
  clear HBo hG hBN hB
  have hc_gm_0 : w5_.cell? ⟨gm, 0, none⟩ = some (.int .u32 x.f0) := (blk_cell BK_gm.out 0).trans rfl
  have hf_gm_0 := blk_frozen BK_gm.out 0
  have hc_gm_1 : w5_.cell? ⟨gm, 1, none⟩ = some (.bool x.f1) := (blk_cell BK_gm.out 1).trans rfl
  have hf_gm_1 := blk_frozen BK_gm.out 1
  have hc_gm_2 : w5_.cell? ⟨gm, 2, none⟩ = some (.int .i64 x.f2) := (blk_cell BK_gm.out 2).trans rfl
  have hf_gm_2 := blk_frozen BK_gm.out 2
  have hc_gm_3 : w5_.cell? ⟨gm, 3, none⟩ = some (.slice A_x x.f3.length c_x) := (blk_cell BK_gm.out 3).trans rfl
  have hf_gm_3 := blk_frozen BK_gm.out 3
  go_upto_region 6 with (first | ((with_reducible refine gate_dst (N := 7) rfl ?_); (try (refine gate_guard (by rfl) ?_; dsimp only)); refine box_event ?hg (N := 7) ?hd (cs := #[.int .i64 0, .int .i64 0]) (t := 51) ?hr ?_; (case hd => rfl); (case hg => rfl); (case hr => first | (go_simp; done) | (go_simp; rfl)); intro gn hg w6_ hbox hB0; have hG := Aside0.mk (show w5_.heap.size ≤ gn from Nat.le_of_eq hg.symm); clear hg; have hBX := Aside0.mk hbox; have hB1 := Aside0.mk hB0; clear hB0; have hc_gn_0 : w6_.cell? ⟨gn, 0, none⟩ = some (.int .i64 0) := (blk_cell hbox 0).trans rfl; have hf_gn_0 := blk_frozen hbox 0; have hc_gn_1 : w6_.cell? ⟨gn, 1, none⟩ = some (.int .i64 0) := (blk_cell hbox 1).trans rfl; have hf_gn_1 := blk_frozen hbox 1; clear hbox))
  have hB : Below w5_.heap.size w5_ ((w6_.setCell ⟨gn, 0, none⟩ (.int .i64 n0)).setCell ⟨gn, 1, none⟩ (.int .i64 n1)) := (below_set (below_set hB1.out hG.out) hG.out)
  have hBN : ((w6_.setCell ⟨gn, 0, none⟩ (.int .i64 n0)).setCell ⟨gn, 1, none⟩ (.int .i64 n1)).heap[gn]? = some (.cells #[.int .i64 n0, .int .i64 n1] 51 (0, 0)) := (blk_put (cs := #[.int .i64 n0, .int .i64 0]) (blk_put (cs := #[.int .i64 0, .int .i64 0]) hBX.out 0 (.int .i64 n0) rfl) 1 (.int .i64 n1) rfl)
  clear hBX hB1
  clear hc_gn_0 hf_gn_0 hc_gn_1 hf_gn_1
  generalize ((w6_.setCell ⟨gn, 0, none⟩ (.int .i64 n0)).setCell ⟨gn, 1, none⟩ (.int .i64 n1)) = w7_ at hB hBN ⊢
  have NB_gn_gp := Aside0.mk (show gn ≠ gp from Nat.ne_of_gt (Nat.lt_of_lt_of_le (blk_lt (g := gp) (o := .cells #[.int .i64 t.f0, .int .i64 t.f1, .int .u32 x.f0, .bool x.f1, .int .i64 x.f2, .slice A_x x.f3.length c_x, .int .u8 kind, .slice A_l l.length c_l, .int .i64 n0, .int .i64 n1] 53 (0, 0)) BK_gp.out) hG.out))
  have NB_gp_gn := Aside0.mk (Ne.symm NB_gn_gp.out)
  have NB_gn_gt := Aside0.mk (show gn ≠ gt from Nat.ne_of_gt (Nat.lt_of_lt_of_le (blk_lt (g := gt) (o := .cells #[.int .i64 t.f0, .int .i64 t.f1] 23 (0, 0)) BK_gt.out) hG.out))
  have NB_gt_gn := Aside0.mk (Ne.symm NB_gn_gt.out)
  have NB_gn_gm := Aside0.mk (show gn ≠ gm from Nat.ne_of_gt (Nat.lt_of_lt_of_le (blk_lt (g := gm) (o := .cells #[.int .u32 x.f0, .bool x.f1, .int .i64 x.f2, .slice A_x x.f3.length c_x] 28 (0, 0)) BK_gm.out) hG.out))
  have NB_gm_gn := Aside0.mk (Ne.symm NB_gn_gm.out)
  have HBo := Aside0.mk HB.out
  have nHB := Aside0.mk (HB.out.trans (hB.mono HB.out.size))
  clear HB
  have HB := nHB
  clear nHB
  clear hc_gp_0 hf_gp_0 hc_gp_1 hf_gp_1 hc_gp_2 hf_gp_2 hc_gp_3 hf_gp_3 hc_gp_4 hf_gp_4 hc_gp_5 hf_gp_5 hc_gp_6 hf_gp_6 hc_gp_7 hf_gp_7 hc_gp_8 hf_gp_8 hc_gp_9 hf_gp_9
  have nBK := Aside0.mk (blk_below (g := gp) (o := .cells #[.int .i64 t.f0, .int .i64 t.f1, .int .u32 x.f0, .bool x.f1, .int .i64 x.f2, .slice A_x x.f3.length c_x, .int .u8 kind, .slice A_l l.length c_l, .int .i64 n0, .int .i64 n1] 53 (0, 0)) BK_gp.out hB)
  clear BK_gp
  have BK_gp := nBK
  clear nBK
  have hc_gp_0 : w7_.cell? ⟨gp, 0, none⟩ = some (.int .i64 t.f0) := (blk_cell BK_gp.out 0).trans rfl
  have hf_gp_0 := blk_frozen BK_gp.out 0
  have hc_gp_1 : w7_.cell? ⟨gp, 1, none⟩ = some (.int .i64 t.f1) := (blk_cell BK_gp.out 1).trans rfl
  have hf_gp_1 := blk_frozen BK_gp.out 1
  have hc_gp_2 : w7_.cell? ⟨gp, 2, none⟩ = some (.int .u32 x.f0) := (blk_cell BK_gp.out 2).trans rfl
  have hf_gp_2 := blk_frozen BK_gp.out 2
  have hc_gp_3 : w7_.cell? ⟨gp, 3, none⟩ = some (.bool x.f1) := (blk_cell BK_gp.out 3).trans rfl
  have hf_gp_3 := blk_frozen BK_gp.out 3
  have hc_gp_4 : w7_.cell? ⟨gp, 4, none⟩ = some (.int .i64 x.f2) := (blk_cell BK_gp.out 4).trans rfl
  have hf_gp_4 := blk_frozen BK_gp.out 4
  have hc_gp_5 : w7_.cell? ⟨gp, 5, none⟩ = some (.slice A_x x.f3.length c_x) := (blk_cell BK_gp.out 5).trans rfl
  have hf_gp_5 := blk_frozen BK_gp.out 5
  have hc_gp_6 : w7_.cell? ⟨gp, 6, none⟩ = some (.int .u8 kind) := (blk_cell BK_gp.out 6).trans rfl
  have hf_gp_6 := blk_frozen BK_gp.out 6
  have hc_gp_7 : w7_.cell? ⟨gp, 7, none⟩ = some (.slice A_l l.length c_l) := (blk_cell BK_gp.out 7).trans rfl
  have hf_gp_7 := blk_frozen BK_gp.out 7
  have hc_gp_8 : w7_.cell? ⟨gp, 8, none⟩ = some (.int .i64 n0) := (blk_cell BK_gp.out 8).trans rfl
  have hf_gp_8 := blk_frozen BK_gp.out 8
  have hc_gp_9 : w7_.cell? ⟨gp, 9, none⟩ = some (.int .i64 n1) := (blk_cell BK_gp.out 9).trans rfl
  have hf_gp_9 := blk_frozen BK_gp.out 9
  clear hc_gt_0 hf_gt_0 hc_gt_1 hf_gt_1
  have nBK := Aside0.mk (blk_below (g := gt) (o := .cells #[.int .i64 t.f0, .int .i64 t.f1] 23 (0, 0)) BK_gt.out hB)
  clear BK_gt
  have BK_gt := nBK
  clear nBK
  have hc_gt_0 : w7_.cell? ⟨gt, 0, none⟩ = some (.int .i64 t.f0) := (blk_cell BK_gt.out 0).trans rfl
  have hf_gt_0 := blk_frozen BK_gt.out 0
  have hc_gt_1 : w7_.cell? ⟨gt, 1, none⟩ = some (.int .i64 t.f1) := (blk_cell BK_gt.out 1).trans rfl
  have hf_gt_1 := blk_frozen BK_gt.out 1
  clear hc_gm_0 hf_gm_0 hc_gm_1 hf_gm_1 hc_gm_2 hf_gm_2 hc_gm_3 hf_gm_3
  have nBK := Aside0.mk (blk_below (g := gm) (o := .cells #[.int .u32 x.f0, .bool x.f1, .int .i64 x.f2, .slice A_x x.f3.length c_x] 28 (0, 0)) BK_gm.out hB)
  clear BK_gm
  have BK_gm := nBK
  clear nBK
  have hc_gm_0 : w7_.cell? ⟨gm, 0, none⟩ = some (.int .u32 x.f0) := (blk_cell BK_gm.out 0).trans rfl
  have hf_gm_0 := blk_frozen BK_gm.out 0
  have hc_gm_1 : w7_.cell? ⟨gm, 1, none⟩ = some (.bool x.f1) := (blk_cell BK_gm.out 1).trans rfl
  have hf_gm_1 := blk_frozen BK_gm.out 1
  have hc_gm_2 : w7_.cell? ⟨gm, 2, none⟩ = some (.int .i64 x.f2) := (blk_cell BK_gm.out 2).trans rfl
  have hf_gm_2 := blk_frozen BK_gm.out 2
  have hc_gm_3 : w7_.cell? ⟨gm, 3, none⟩ = some (.slice A_x x.f3.length c_x) := (blk_cell BK_gm.out 3).trans rfl
  have hf_gm_3 := blk_frozen BK_gm.out 3
  have BK_gn := Aside0.mk hBN
  have GE_gn := Aside0.mk (Nat.le_trans HBo.out.size hG.out)
  clear HBo hG hBN hB
  have hc_gn_0 : w7_.cell? ⟨gn, 0, none⟩ = some (.int .i64 n0) := (blk_cell BK_gn.out 0).trans rfl
  have hf_gn_0 := blk_frozen BK_gn.out 0
  have hc_gn_1 : w7_.cell? ⟨gn, 1, none⟩ = some (.int .i64 n1) := (blk_cell BK_gn.out 1).trans rfl
  have hf_gn_1 := blk_frozen BK_gn.out 1
  go_wp2_with (first | (go_at_call 9; with_reducible refine (shown_w _).mono ?_; rintro e w8_ ⟨rfl, hB⟩; have nHB := Aside0.mk (HB.out.trans (hB.mono HB.out.size)); clear HB; have HB := nHB; clear nHB; clear hc_gp_0 hf_gp_0 hc_gp_1 hf_gp_1 hc_gp_2 hf_gp_2 hc_gp_3 hf_gp_3 hc_gp_4 hf_gp_4 hc_gp_5 hf_gp_5 hc_gp_6 hf_gp_6 hc_gp_7 hf_gp_7 hc_gp_8 hf_gp_8 hc_gp_9 hf_gp_9; have nBK := Aside0.mk (blk_below (g := gp) (o := .cells #[.int .i64 t.f0, .int .i64 t.f1, .int .u32 x.f0, .bool x.f1, .int .i64 x.f2, .slice A_x x.f3.length c_x, .int .u8 kind, .slice A_l l.length c_l, .int .i64 n0, .int .i64 n1] 53 (0, 0)) BK_gp.out hB); clear BK_gp; have BK_gp := nBK; clear nBK; have hc_gp_0 : w8_.cell? ⟨gp, 0, none⟩ = some (.int .i64 t.f0) := (blk_cell BK_gp.out 0).trans rfl; have hf_gp_0 := blk_frozen BK_gp.out 0; have hc_gp_1 : w8_.cell? ⟨gp, 1, none⟩ = some (.int .i64 t.f1) := (blk_cell BK_gp.out 1).trans rfl; have hf_gp_1 := blk_frozen BK_gp.out 1; have hc_gp_2 : w8_.cell? ⟨gp, 2, none⟩ = some (.int .u32 x.f0) := (blk_cell BK_gp.out 2).trans rfl; have hf_gp_2 := blk_frozen BK_gp.out 2; have hc_gp_3 : w8_.cell? ⟨gp, 3, none⟩ = some (.bool x.f1) := (blk_cell BK_gp.out 3).trans rfl; have hf_gp_3 := blk_frozen BK_gp.out 3; have hc_gp_4 : w8_.cell? ⟨gp, 4, none⟩ = some (.int .i64 x.f2) := (blk_cell BK_gp.out 4).trans rfl; have hf_gp_4 := blk_frozen BK_gp.out 4; have hc_gp_5 : w8_.cell? ⟨gp, 5, none⟩ = some (.slice A_x x.f3.length c_x) := (blk_cell BK_gp.out 5).trans rfl; have hf_gp_5 := blk_frozen BK_gp.out 5; have hc_gp_6 : w8_.cell? ⟨gp, 6, none⟩ = some (.int .u8 kind) := (blk_cell BK_gp.out 6).trans rfl; have hf_gp_6 := blk_frozen BK_gp.out 6; have hc_gp_7 : w8_.cell? ⟨gp, 7, none⟩ = some (.slice A_l l.length c_l) := (blk_cell BK_gp.out 7).trans rfl; have hf_gp_7 := blk_frozen BK_gp.out 7; have hc_gp_8 : w8_.cell? ⟨gp, 8, none⟩ = some (.int .i64 n0) := (blk_cell BK_gp.out 8).trans rfl; have hf_gp_8 := blk_frozen BK_gp.out 8; have hc_gp_9 : w8_.cell? ⟨gp, 9, none⟩ = some (.int .i64 n1) := (blk_cell BK_gp.out 9).trans rfl; have hf_gp_9 := blk_frozen BK_gp.out 9; clear hc_gt_0 hf_gt_0 hc_gt_1 hf_gt_1; have nBK := Aside0.mk (blk_below (g := gt) (o := .cells #[.int .i64 t.f0, .int .i64 t.f1] 23 (0, 0)) BK_gt.out hB); clear BK_gt; have BK_gt := nBK; clear nBK; have hc_gt_0 : w8_.cell? ⟨gt, 0, none⟩ = some (.int .i64 t.f0) := (blk_cell BK_gt.out 0).trans rfl; have hf_gt_0 := blk_frozen BK_gt.out 0; have hc_gt_1 : w8_.cell? ⟨gt, 1, none⟩ = some (.int .i64 t.f1) := (blk_cell BK_gt.out 1).trans rfl; have hf_gt_1 := blk_frozen BK_gt.out 1; clear hc_gm_0 hf_gm_0 hc_gm_1 hf_gm_1 hc_gm_2 hf_gm_2 hc_gm_3 hf_gm_3; have nBK := Aside0.mk (blk_below (g := gm) (o := .cells #[.int .u32 x.f0, .bool x.f1, .int .i64 x.f2, .slice A_x x.f3.length c_x] 28 (0, 0)) BK_gm.out hB); clear BK_gm; have BK_gm := nBK; clear nBK; have hc_gm_0 : w8_.cell? ⟨gm, 0, none⟩ = some (.int .u32 x.f0) := (blk_cell BK_gm.out 0).trans rfl; have hf_gm_0 := blk_frozen BK_gm.out 0; have hc_gm_1 : w8_.cell? ⟨gm, 1, none⟩ = some (.bool x.f1) := (blk_cell BK_gm.out 1).trans rfl; have hf_gm_1 := blk_frozen BK_gm.out 1; have hc_gm_2 : w8_.cell? ⟨gm, 2, none⟩ = some (.int .i64 x.f2) := (blk_cell BK_gm.out 2).trans rfl; have hf_gm_2 := blk_frozen BK_gm.out 2; have hc_gm_3 : w8_.cell? ⟨gm, 3, none⟩ = some (.slice A_x x.f3.length c_x) := (blk_cell BK_gm.out 3).trans rfl; have hf_gm_3 := blk_frozen BK_gm.out 3; clear hc_gn_0 hf_gn_0 hc_gn_1 hf_gn_1; have nBK := Aside0.mk (blk_below (g := gn) (o := .cells #[.int .i64 n0, .int .i64 n1] 51 (0, 0)) BK_gn.out hB); clear BK_gn; have BK_gn := nBK; clear nBK; have hc_gn_0 : w8_.cell? ⟨gn, 0, none⟩ = some (.int .i64 n0) := (blk_cell BK_gn.out 0).trans rfl; have hf_gn_0 := blk_frozen BK_gn.out 0; have hc_gn_1 : w8_.cell? ⟨gn, 1, none⟩ = some (.int .i64 n1) := (blk_cell BK_gn.out 1).trans rfl; have hf_gn_1 := blk_frozen BK_gn.out 1; clear hB) | (go_at_call 10; with_reducible refine (mayR_w Xhm.out _).mono ?_; rintro e w9_ ⟨rfl, hB⟩; have nHB := Aside0.mk (HB.out.trans (hB.mono HB.out.size)); clear HB; have HB := nHB; clear nHB; clear hc_gp_0 hf_gp_0 hc_gp_1 hf_gp_1 hc_gp_2 hf_gp_2 hc_gp_3 hf_gp_3 hc_gp_4 hf_gp_4 hc_gp_5 hf_gp_5 hc_gp_6 hf_gp_6 hc_gp_7 hf_gp_7 hc_gp_8 hf_gp_8 hc_gp_9 hf_gp_9; have nBK := Aside0.mk (blk_below (g := gp) (o := .cells #[.int .i64 t.f0, .int .i64 t.f1, .int .u32 x.f0, .bool x.f1, .int .i64 x.f2, .slice A_x x.f3.length c_x, .int .u8 kind, .slice A_l l.length c_l, .int .i64 n0, .int .i64 n1] 53 (0, 0)) BK_gp.out hB); clear BK_gp; have BK_gp := nBK; clear nBK; have hc_gp_0 : w9_.cell? ⟨gp, 0, none⟩ = some (.int .i64 t.f0) := (blk_cell BK_gp.out 0).trans rfl; have hf_gp_0 := blk_frozen BK_gp.out 0; have hc_gp_1 : w9_.cell? ⟨gp, 1, none⟩ = some (.int .i64 t.f1) := (blk_cell BK_gp.out 1).trans rfl; have hf_gp_1 := blk_frozen BK_gp.out 1; have hc_gp_2 : w9_.cell? ⟨gp, 2, none⟩ = some (.int .u32 x.f0) := (blk_cell BK_gp.out 2).trans rfl; have hf_gp_2 := blk_frozen BK_gp.out 2; have hc_gp_3 : w9_.cell? ⟨gp, 3, none⟩ = some (.bool x.f1) := (blk_cell BK_gp.out 3).trans rfl; have hf_gp_3 := blk_frozen BK_gp.out 3; have hc_gp_4 : w9_.cell? ⟨gp, 4, none⟩ = some (.int .i64 x.f2) := (blk_cell BK_gp.out 4).trans rfl; have hf_gp_4 := blk_frozen BK_gp.out 4; have hc_gp_5 : w9_.cell? ⟨gp, 5, none⟩ = some (.slice A_x x.f3.length c_x) := (blk_cell BK_gp.out 5).trans rfl; have hf_gp_5 := blk_frozen BK_gp.out 5; have hc_gp_6 : w9_.cell? ⟨gp, 6, none⟩ = some (.int .u8 kind) := (blk_cell BK_gp.out 6).trans rfl; have hf_gp_6 := blk_frozen BK_gp.out 6; have hc_gp_7 : w9_.cell? ⟨gp, 7, none⟩ = some (.slice A_l l.length c_l) := (blk_cell BK_gp.out 7).trans rfl; have hf_gp_7 := blk_frozen BK_gp.out 7; have hc_gp_8 : w9_.cell? ⟨gp, 8, none⟩ = some (.int .i64 n0) := (blk_cell BK_gp.out 8).trans rfl; have hf_gp_8 := blk_frozen BK_gp.out 8; have hc_gp_9 : w9_.cell? ⟨gp, 9, none⟩ = some (.int .i64 n1) := (blk_cell BK_gp.out 9).trans rfl; have hf_gp_9 := blk_frozen BK_gp.out 9; clear hc_gt_0 hf_gt_0 hc_gt_1 hf_gt_1; have nBK := Aside0.mk (blk_below (g := gt) (o := .cells #[.int .i64 t.f0, .int .i64 t.f1] 23 (0, 0)) BK_gt.out hB); clear BK_gt; have BK_gt := nBK; clear nBK; have hc_gt_0 : w9_.cell? ⟨gt, 0, none⟩ = some (.int .i64 t.f0) := (blk_cell BK_gt.out 0).trans rfl; have hf_gt_0 := blk_frozen BK_gt.out 0; have hc_gt_1 : w9_.cell? ⟨gt, 1, none⟩ = some (.int .i64 t.f1) := (blk_cell BK_gt.out 1).trans rfl; have hf_gt_1 := blk_frozen BK_gt.out 1; clear hc_gm_0 hf_gm_0 hc_gm_1 hf_gm_1 hc_gm_2 hf_gm_2 hc_gm_3 hf_gm_3; have nBK := Aside0.mk (blk_below (g := gm) (o := .cells #[.int .u32 x.f0, .bool x.f1, .int .i64 x.f2, .slice A_x x.f3.length c_x] 28 (0, 0)) BK_gm.out hB); clear BK_gm; have BK_gm := nBK; clear nBK; have hc_gm_0 : w9_.cell? ⟨gm, 0, none⟩ = some (.int .u32 x.f0) := (blk_cell BK_gm.out 0).trans rfl; have hf_gm_0 := blk_frozen BK_gm.out 0; have hc_gm_1 : w9_.cell? ⟨gm, 1, none⟩ = some (.bool x.f1) := (blk_cell BK_gm.out 1).trans rfl; have hf_gm_1 := blk_frozen BK_gm.out 1; have hc_gm_2 : w9_.cell? ⟨gm, 2, none⟩ = some (.int .i64 x.f2) := (blk_cell BK_gm.out 2).trans rfl; have hf_gm_2 := blk_frozen BK_gm.out 2; have hc_gm_3 : w9_.cell? ⟨gm, 3, none⟩ = some (.slice A_x x.f3.length c_x) := (blk_cell BK_gm.out 3).trans rfl; have hf_gm_3 := blk_frozen BK_gm.out 3; clear hc_gn_0 hf_gn_0 hc_gn_1 hf_gn_1; have nBK := Aside0.mk (blk_below (g := gn) (o := .cells #[.int .i64 n0, .int .i64 n1] 51 (0, 0)) BK_gn.out hB); clear BK_gn; have BK_gn := nBK; clear nBK; have hc_gn_0 : w9_.cell? ⟨gn, 0, none⟩ = some (.int .i64 n0) := (blk_cell BK_gn.out 0).trans rfl; have hf_gn_0 := blk_frozen BK_gn.out 0; have hc_gn_1 : w9_.cell? ⟨gn, 1, none⟩ = some (.int .i64 n1) := (blk_cell BK_gn.out 1).trans rfl; have hf_gn_1 := blk_frozen BK_gn.out 1; clear hB) | (go_at_call 11; with_reducible refine (right_w (b := true) (by simp [Xhx.out]) _ _ _ (Kd.C_below HC_x.out HB.out) HK_x.out).mono ?_; rintro e w10_ ⟨rfl, hB⟩; have nHB := Aside0.mk (HB.out.trans (hB.mono HB.out.size)); clear HB; have HB := nHB; clear nHB; clear hc_gp_0 hf_gp_0 hc_gp_1 hf_gp_1 hc_gp_2 hf_gp_2 hc_gp_3 hf_gp_3 hc_gp_4 hf_gp_4 hc_gp_5 hf_gp_5 hc_gp_6 hf_gp_6 hc_gp_7 hf_gp_7 hc_gp_8 hf_gp_8 hc_gp_9 hf_gp_9; have nBK := Aside0.mk (blk_below (g := gp) (o := .cells #[.int .i64 t.f0, .int .i64 t.f1, .int .u32 x.f0, .bool x.f1, .int .i64 x.f2, .slice A_x x.f3.length c_x, .int .u8 kind, .slice A_l l.length c_l, .int .i64 n0, .int .i64 n1] 53 (0, 0)) BK_gp.out hB); clear BK_gp; have BK_gp := nBK; clear nBK; have hc_gp_0 : w10_.cell? ⟨gp, 0, none⟩ = some (.int .i64 t.f0) := (blk_cell BK_gp.out 0).trans rfl; have hf_gp_0 := blk_frozen BK_gp.out 0; have hc_gp_1 : w10_.cell? ⟨gp, 1, none⟩ = some (.int .i64 t.f1) := (blk_cell BK_gp.out 1).trans rfl; have hf_gp_1 := blk_frozen BK_gp.out 1; have hc_gp_2 : w10_.cell? ⟨gp, 2, none⟩ = some (.int .u32 x.f0) := (blk_cell BK_gp.out 2).trans rfl; have hf_gp_2 := blk_frozen BK_gp.out 2; have hc_gp_3 : w10_.cell? ⟨gp, 3, none⟩ = some (.bool x.f1) := (blk_cell BK_gp.out 3).trans rfl; have hf_gp_3 := blk_frozen BK_gp.out 3; have hc_gp_4 : w10_.cell? ⟨gp, 4, none⟩ = some (.int .i64 x.f2) := (blk_cell BK_gp.out 4).trans rfl; have hf_gp_4 := blk_frozen BK_gp.out 4; have hc_gp_5 : w10_.cell? ⟨gp, 5, none⟩ = some (.slice A_x x.f3.length c_x) := (blk_cell BK_gp.out 5).trans rfl; have hf_gp_5 := blk_frozen BK_gp.out 5; have hc_gp_6 : w10_.cell? ⟨gp, 6, none⟩ = some (.int .u8 kind) := (blk_cell BK_gp.out 6).trans rfl; have hf_gp_6 := blk_frozen BK_gp.out 6; have hc_gp_7 : w10_.cell? ⟨gp, 7, none⟩ = some (.slice A_l l.length c_l) := (blk_cell BK_gp.out 7).trans rfl; have hf_gp_7 := blk_frozen BK_gp.out 7; have hc_gp_8 : w10_.cell? ⟨gp, 8, none⟩ = some (.int .i64 n0) := (blk_cell BK_gp.out 8).trans rfl; have hf_gp_8 := blk_frozen BK_gp.out 8; have hc_gp_9 : w10_.cell? ⟨gp, 9, none⟩ = some (.int .i64 n1) := (blk_cell BK_gp.out 9).trans rfl; have hf_gp_9 := blk_frozen BK_gp.out 9; clear hc_gt_0 hf_gt_0 hc_gt_1 hf_gt_1; have nBK := Aside0.mk (blk_below (g := gt) (o := .cells #[.int .i64 t.f0, .int .i64 t.f1] 23 (0, 0)) BK_gt.out hB); clear BK_gt; have BK_gt := nBK; clear nBK; have hc_gt_0 : w10_.cell? ⟨gt, 0, none⟩ = some (.int .i64 t.f0) := (blk_cell BK_gt.out 0).trans rfl; have hf_gt_0 := blk_frozen BK_gt.out 0; have hc_gt_1 : w10_.cell? ⟨gt, 1, none⟩ = some (.int .i64 t.f1) := (blk_cell BK_gt.out 1).trans rfl; have hf_gt_1 := blk_frozen BK_gt.out 1; clear hc_gm_0 hf_gm_0 hc_gm_1 hf_gm_1 hc_gm_2 hf_gm_2 hc_gm_3 hf_gm_3; have nBK := Aside0.mk (blk_below (g := gm) (o := .cells #[.int .u32 x.f0, .bool x.f1, .int .i64 x.f2, .slice A_x x.f3.length c_x] 28 (0, 0)) BK_gm.out hB); clear BK_gm; have BK_gm := nBK; clear nBK; have hc_gm_0 : w10_.cell? ⟨gm, 0, none⟩ = some (.int .u32 x.f0) := (blk_cell BK_gm.out 0).trans rfl; have hf_gm_0 := blk_frozen BK_gm.out 0; have hc_gm_1 : w10_.cell? ⟨gm, 1, none⟩ = some (.bool x.f1) := (blk_cell BK_gm.out 1).trans rfl; have hf_gm_1 := blk_frozen BK_gm.out 1; have hc_gm_2 : w10_.cell? ⟨gm, 2, none⟩ = some (.int .i64 x.f2) := (blk_cell BK_gm.out 2).trans rfl; have hf_gm_2 := blk_frozen BK_gm.out 2; have hc_gm_3 : w10_.cell? ⟨gm, 3, none⟩ = some (.slice A_x x.f3.length c_x) := (blk_cell BK_gm.out 3).trans rfl; have hf_gm_3 := blk_frozen BK_gm.out 3; clear hc_gn_0 hf_gn_0 hc_gn_1 hf_gn_1; have nBK := Aside0.mk (blk_below (g := gn) (o := .cells #[.int .i64 n0, .int .i64 n1] 51 (0, 0)) BK_gn.out hB); clear BK_gn; have BK_gn := nBK; clear nBK; have hc_gn_0 : w10_.cell? ⟨gn, 0, none⟩ = some (.int .i64 n0) := (blk_cell BK_gn.out 0).trans rfl; have hf_gn_0 := blk_frozen BK_gn.out 0; have hc_gn_1 : w10_.cell? ⟨gn, 1, none⟩ = some (.int .i64 n1) := (blk_cell BK_gn.out 1).trans rfl; have hf_gn_1 := blk_frozen BK_gn.out 1; clear hB))
  go_ret
  exact ⟨rfl, HB.out⟩
set_option maxHeartbeats 8000000 in
set_option maxRecDepth 100000 in
theorem mstays_far0 {t : S23} {x : S28} {kind : Int} {l : List Int} {n0 n1 : Int} (hm : mayB t = true) (hx : MOk x) (h1 : ¬ (200 : Int) < (l.length : Int)) (h2 : ¬ n0 < 0) (h3 : ¬ n1 < 0) (h4 : 1000000000 < n0) (A_x : Option Addr) (c_x : Nat) (A_l : Option Addr) (c_l : Nat) (w : World) (hr : Kd.C k49 w A_x x.f3.length x.f3) (hc : x.f3.length ≤ c_x) (hs : Kd.C (Kd.int .u32) w A_l l.length l) (hcs : l.length ≤ c_l) :
    Calls Try.prog 5 #[.agg #[.int .i64 t.f0, .int .i64 t.f1, .int .u32 x.f0, .bool x.f1, .int .i64 x.f2, .slice A_x x.f3.length c_x, .int .u8 kind, .slice A_l l.length c_l, .int .i64 n0, .int .i64 n1]] w (fun e w' => e = .returned (.bool true) ∧ Below w.heap.size w w') := by
  have hu23 := Try.underlying23
  have hu28 := Try.underlying28
  have hu51 := Try.underlying51
  have hu53 := Try.underlying53
  have HB := Aside0.mk (Below.refl w.heap.size w)
  have HC_x := Aside0.mk hr
  have HK_x := Aside0.mk hc
  have HC_l := Aside0.mk hs
  have HK_l := Aside0.mk hcs
  clear hr hc hs hcs
  have Xhm := Aside0.mk hm
  have Xhx := Aside0.mk hx
  clear hm hx
  go_enter Try.func5, Try.ntmps5
  go_upto_region 2 with (first | ((with_reducible refine gate_dst (N := 1) rfl ?_); (try (refine gate_guard (by rfl) ?_; dsimp only)); refine box_event ?hg (N := 1) ?hd (cs := #[.int .i64 t.f0, .int .i64 t.f1, .int .u32 x.f0, .bool x.f1, .int .i64 x.f2, .slice A_x x.f3.length c_x, .int .u8 kind, .slice A_l l.length c_l, .int .i64 n0, .int .i64 n1]) (t := 53) ?hr ?_; (case hd => rfl); (case hg => rfl); (case hr => first | (go_simp; done) | (go_simp; rfl)); intro gp hg w1_ hbox hB; have HBo := Aside0.mk HB.out; have nHB := Aside0.mk (HB.out.trans (hB.mono HB.out.size)); clear HB; have HB := nHB; clear nHB; have BK_gp := Aside0.mk hbox; have GE_gp := Aside0.mk (show w.heap.size ≤ gp by rw [hg]; exact HBo.out.size); clear hg hbox hB; have hc_gp_0 : w1_.cell? ⟨gp, 0, none⟩ = some (.int .i64 t.f0) := (blk_cell BK_gp.out 0).trans rfl; have hf_gp_0 := blk_frozen BK_gp.out 0; have hc_gp_1 : w1_.cell? ⟨gp, 1, none⟩ = some (.int .i64 t.f1) := (blk_cell BK_gp.out 1).trans rfl; have hf_gp_1 := blk_frozen BK_gp.out 1; have hc_gp_2 : w1_.cell? ⟨gp, 2, none⟩ = some (.int .u32 x.f0) := (blk_cell BK_gp.out 2).trans rfl; have hf_gp_2 := blk_frozen BK_gp.out 2; have hc_gp_3 : w1_.cell? ⟨gp, 3, none⟩ = some (.bool x.f1) := (blk_cell BK_gp.out 3).trans rfl; have hf_gp_3 := blk_frozen BK_gp.out 3; have hc_gp_4 : w1_.cell? ⟨gp, 4, none⟩ = some (.int .i64 x.f2) := (blk_cell BK_gp.out 4).trans rfl; have hf_gp_4 := blk_frozen BK_gp.out 4; have hc_gp_5 : w1_.cell? ⟨gp, 5, none⟩ = some (.slice A_x x.f3.length c_x) := (blk_cell BK_gp.out 5).trans rfl; have hf_gp_5 := blk_frozen BK_gp.out 5; have hc_gp_6 : w1_.cell? ⟨gp, 6, none⟩ = some (.int .u8 kind) := (blk_cell BK_gp.out 6).trans rfl; have hf_gp_6 := blk_frozen BK_gp.out 6; have hc_gp_7 : w1_.cell? ⟨gp, 7, none⟩ = some (.slice A_l l.length c_l) := (blk_cell BK_gp.out 7).trans rfl; have hf_gp_7 := blk_frozen BK_gp.out 7; have hc_gp_8 : w1_.cell? ⟨gp, 8, none⟩ = some (.int .i64 n0) := (blk_cell BK_gp.out 8).trans rfl; have hf_gp_8 := blk_frozen BK_gp.out 8; have hc_gp_9 : w1_.cell? ⟨gp, 9, none⟩ = some (.int .i64 n1) := (blk_cell BK_gp.out 9).trans rfl; have hf_gp_9 := blk_frozen BK_gp.out 9; clear HBo) | ((with_reducible refine gate_dst (N := 3) rfl ?_); (try (refine gate_guard (by rfl) ?_; dsimp only)); refine box_event ?hg (N := 3) ?hd (cs := #[.int .i64 0, .int .i64 0]) (t := 23) ?hr ?_; (case hd => rfl); (case hg => rfl); (case hr => first | (go_simp; done) | (go_simp; rfl)); intro gt hg w2_ hbox hB0; have hG := Aside0.mk (show w1_.heap.size ≤ gt from Nat.le_of_eq hg.symm); clear hg; have hBX := Aside0.mk hbox; have hB1 := Aside0.mk hB0; clear hB0; have hc_gt_0 : w2_.cell? ⟨gt, 0, none⟩ = some (.int .i64 0) := (blk_cell hbox 0).trans rfl; have hf_gt_0 := blk_frozen hbox 0; have hc_gt_1 : w2_.cell? ⟨gt, 1, none⟩ = some (.int .i64 0) := (blk_cell hbox 1).trans rfl; have hf_gt_1 := blk_frozen hbox 1; clear hbox))
  have hB : Below w1_.heap.size w1_ ((w2_.setCell ⟨gt, 0, none⟩ (.int .i64 t.f0)).setCell ⟨gt, 1, none⟩ (.int .i64 t.f1)) := (below_set (below_set hB1.out hG.out) hG.out)
  have hBN : ((w2_.setCell ⟨gt, 0, none⟩ (.int .i64 t.f0)).setCell ⟨gt, 1, none⟩ (.int .i64 t.f1)).heap[gt]? = some (.cells #[.int .i64 t.f0, .int .i64 t.f1] 23 (0, 0)) := (blk_put (cs := #[.int .i64 t.f0, .int .i64 0]) (blk_put (cs := #[.int .i64 0, .int .i64 0]) hBX.out 0 (.int .i64 t.f0) rfl) 1 (.int .i64 t.f1) rfl)
  clear hBX hB1
  clear hc_gt_0 hf_gt_0 hc_gt_1 hf_gt_1
  generalize ((w2_.setCell ⟨gt, 0, none⟩ (.int .i64 t.f0)).setCell ⟨gt, 1, none⟩ (.int .i64 t.f1)) = w3_ at hB hBN ⊢
  have NB_gt_gp := Aside0.mk (show gt ≠ gp from Nat.ne_of_gt (Nat.lt_of_lt_of_le (blk_lt (g := gp) (o := .cells #[.int .i64 t.f0, .int .i64 t.f1, .int .u32 x.f0, .bool x.f1, .int .i64 x.f2, .slice A_x x.f3.length c_x, .int .u8 kind, .slice A_l l.length c_l, .int .i64 n0, .int .i64 n1] 53 (0, 0)) BK_gp.out) hG.out))
  have NB_gp_gt := Aside0.mk (Ne.symm NB_gt_gp.out)
  have HBo := Aside0.mk HB.out
  have nHB := Aside0.mk (HB.out.trans (hB.mono HB.out.size))
  clear HB
  have HB := nHB
  clear nHB
  clear hc_gp_0 hf_gp_0 hc_gp_1 hf_gp_1 hc_gp_2 hf_gp_2 hc_gp_3 hf_gp_3 hc_gp_4 hf_gp_4 hc_gp_5 hf_gp_5 hc_gp_6 hf_gp_6 hc_gp_7 hf_gp_7 hc_gp_8 hf_gp_8 hc_gp_9 hf_gp_9
  have nBK := Aside0.mk (blk_below (g := gp) (o := .cells #[.int .i64 t.f0, .int .i64 t.f1, .int .u32 x.f0, .bool x.f1, .int .i64 x.f2, .slice A_x x.f3.length c_x, .int .u8 kind, .slice A_l l.length c_l, .int .i64 n0, .int .i64 n1] 53 (0, 0)) BK_gp.out hB)
  clear BK_gp
  have BK_gp := nBK
  clear nBK
  have hc_gp_0 : w3_.cell? ⟨gp, 0, none⟩ = some (.int .i64 t.f0) := (blk_cell BK_gp.out 0).trans rfl
  have hf_gp_0 := blk_frozen BK_gp.out 0
  have hc_gp_1 : w3_.cell? ⟨gp, 1, none⟩ = some (.int .i64 t.f1) := (blk_cell BK_gp.out 1).trans rfl
  have hf_gp_1 := blk_frozen BK_gp.out 1
  have hc_gp_2 : w3_.cell? ⟨gp, 2, none⟩ = some (.int .u32 x.f0) := (blk_cell BK_gp.out 2).trans rfl
  have hf_gp_2 := blk_frozen BK_gp.out 2
  have hc_gp_3 : w3_.cell? ⟨gp, 3, none⟩ = some (.bool x.f1) := (blk_cell BK_gp.out 3).trans rfl
  have hf_gp_3 := blk_frozen BK_gp.out 3
  have hc_gp_4 : w3_.cell? ⟨gp, 4, none⟩ = some (.int .i64 x.f2) := (blk_cell BK_gp.out 4).trans rfl
  have hf_gp_4 := blk_frozen BK_gp.out 4
  have hc_gp_5 : w3_.cell? ⟨gp, 5, none⟩ = some (.slice A_x x.f3.length c_x) := (blk_cell BK_gp.out 5).trans rfl
  have hf_gp_5 := blk_frozen BK_gp.out 5
  have hc_gp_6 : w3_.cell? ⟨gp, 6, none⟩ = some (.int .u8 kind) := (blk_cell BK_gp.out 6).trans rfl
  have hf_gp_6 := blk_frozen BK_gp.out 6
  have hc_gp_7 : w3_.cell? ⟨gp, 7, none⟩ = some (.slice A_l l.length c_l) := (blk_cell BK_gp.out 7).trans rfl
  have hf_gp_7 := blk_frozen BK_gp.out 7
  have hc_gp_8 : w3_.cell? ⟨gp, 8, none⟩ = some (.int .i64 n0) := (blk_cell BK_gp.out 8).trans rfl
  have hf_gp_8 := blk_frozen BK_gp.out 8
  have hc_gp_9 : w3_.cell? ⟨gp, 9, none⟩ = some (.int .i64 n1) := (blk_cell BK_gp.out 9).trans rfl
  have hf_gp_9 := blk_frozen BK_gp.out 9
  have BK_gt := Aside0.mk hBN
  have GE_gt := Aside0.mk (Nat.le_trans HBo.out.size hG.out)
  clear HBo hG hBN hB
  have hc_gt_0 : w3_.cell? ⟨gt, 0, none⟩ = some (.int .i64 t.f0) := (blk_cell BK_gt.out 0).trans rfl
  have hf_gt_0 := blk_frozen BK_gt.out 0
  have hc_gt_1 : w3_.cell? ⟨gt, 1, none⟩ = some (.int .i64 t.f1) := (blk_cell BK_gt.out 1).trans rfl
  have hf_gt_1 := blk_frozen BK_gt.out 1
  go_upto_region 3 with (first | ((with_reducible refine gate_dst (N := 4) rfl ?_); (try (refine gate_guard (by rfl) ?_; dsimp only)); refine box_event ?hg (N := 4) ?hd (cs := #[.int .u32 0, .bool false, .int .i64 0, .slice none 0 0]) (t := 28) ?hr ?_; (case hd => rfl); (case hg => rfl); (case hr => first | (go_simp; done) | (go_simp; rfl)); intro gm hg w4_ hbox hB0; have hG := Aside0.mk (show w3_.heap.size ≤ gm from Nat.le_of_eq hg.symm); clear hg; have hBX := Aside0.mk hbox; have hB1 := Aside0.mk hB0; clear hB0; have hc_gm_0 : w4_.cell? ⟨gm, 0, none⟩ = some (.int .u32 0) := (blk_cell hbox 0).trans rfl; have hf_gm_0 := blk_frozen hbox 0; have hc_gm_1 : w4_.cell? ⟨gm, 1, none⟩ = some (.bool false) := (blk_cell hbox 1).trans rfl; have hf_gm_1 := blk_frozen hbox 1; have hc_gm_2 : w4_.cell? ⟨gm, 2, none⟩ = some (.int .i64 0) := (blk_cell hbox 2).trans rfl; have hf_gm_2 := blk_frozen hbox 2; have hc_gm_3 : w4_.cell? ⟨gm, 3, none⟩ = some (.slice none 0 0) := (blk_cell hbox 3).trans rfl; have hf_gm_3 := blk_frozen hbox 3; clear hbox))
  have hB : Below w3_.heap.size w3_ ((((w4_.setCell ⟨gm, 0, none⟩ (.int .u32 x.f0)).setCell ⟨gm, 1, none⟩ (.bool x.f1)).setCell ⟨gm, 2, none⟩ (.int .i64 x.f2)).setCell ⟨gm, 3, none⟩ (.slice A_x x.f3.length c_x)) := (below_set (below_set (below_set (below_set hB1.out hG.out) hG.out) hG.out) hG.out)
  have hBN : ((((w4_.setCell ⟨gm, 0, none⟩ (.int .u32 x.f0)).setCell ⟨gm, 1, none⟩ (.bool x.f1)).setCell ⟨gm, 2, none⟩ (.int .i64 x.f2)).setCell ⟨gm, 3, none⟩ (.slice A_x x.f3.length c_x)).heap[gm]? = some (.cells #[.int .u32 x.f0, .bool x.f1, .int .i64 x.f2, .slice A_x x.f3.length c_x] 28 (0, 0)) := (blk_put (cs := #[.int .u32 x.f0, .bool x.f1, .int .i64 x.f2, .slice none 0 0]) (blk_put (cs := #[.int .u32 x.f0, .bool x.f1, .int .i64 0, .slice none 0 0]) (blk_put (cs := #[.int .u32 x.f0, .bool false, .int .i64 0, .slice none 0 0]) (blk_put (cs := #[.int .u32 0, .bool false, .int .i64 0, .slice none 0 0]) hBX.out 0 (.int .u32 x.f0) rfl) 1 (.bool x.f1) rfl) 2 (.int .i64 x.f2) rfl) 3 (.slice A_x x.f3.length c_x) rfl)
  clear hBX hB1
  clear hc_gm_0 hf_gm_0 hc_gm_1 hf_gm_1 hc_gm_2 hf_gm_2 hc_gm_3 hf_gm_3
  generalize ((((w4_.setCell ⟨gm, 0, none⟩ (.int .u32 x.f0)).setCell ⟨gm, 1, none⟩ (.bool x.f1)).setCell ⟨gm, 2, none⟩ (.int .i64 x.f2)).setCell ⟨gm, 3, none⟩ (.slice A_x x.f3.length c_x)) = w5_ at hB hBN ⊢
  have NB_gm_gp := Aside0.mk (show gm ≠ gp from Nat.ne_of_gt (Nat.lt_of_lt_of_le (blk_lt (g := gp) (o := .cells #[.int .i64 t.f0, .int .i64 t.f1, .int .u32 x.f0, .bool x.f1, .int .i64 x.f2, .slice A_x x.f3.length c_x, .int .u8 kind, .slice A_l l.length c_l, .int .i64 n0, .int .i64 n1] 53 (0, 0)) BK_gp.out) hG.out))
  have NB_gp_gm := Aside0.mk (Ne.symm NB_gm_gp.out)
  have NB_gm_gt := Aside0.mk (show gm ≠ gt from Nat.ne_of_gt (Nat.lt_of_lt_of_le (blk_lt (g := gt) (o := .cells #[.int .i64 t.f0, .int .i64 t.f1] 23 (0, 0)) BK_gt.out) hG.out))
  have NB_gt_gm := Aside0.mk (Ne.symm NB_gm_gt.out)
  have HBo := Aside0.mk HB.out
  have nHB := Aside0.mk (HB.out.trans (hB.mono HB.out.size))
  clear HB
  have HB := nHB
  clear nHB
  clear hc_gp_0 hf_gp_0 hc_gp_1 hf_gp_1 hc_gp_2 hf_gp_2 hc_gp_3 hf_gp_3 hc_gp_4 hf_gp_4 hc_gp_5 hf_gp_5 hc_gp_6 hf_gp_6 hc_gp_7 hf_gp_7 hc_gp_8 hf_gp_8 hc_gp_9 hf_gp_9
  have nBK := Aside0.mk (blk_below (g := gp) (o := .cells #[.int .i64 t.f0, .int .i64 t.f1, .int .u32 x.f0, .bool x.f1, .int .i64 x.f2, .slice A_x x.f3.length c_x, .int .u8 kind, .slice A_l l.length c_l, .int .i64 n0, .int .i64 n1] 53 (0, 0)) BK_gp.out hB)
  clear BK_gp
  have BK_gp := nBK
  clear nBK
  have hc_gp_0 : w5_.cell? ⟨gp, 0, none⟩ = some (.int .i64 t.f0) := (blk_cell BK_gp.out 0).trans rfl
  have hf_gp_0 := blk_frozen BK_gp.out 0
  have hc_gp_1 : w5_.cell? ⟨gp, 1, none⟩ = some (.int .i64 t.f1) := (blk_cell BK_gp.out 1).trans rfl
  have hf_gp_1 := blk_frozen BK_gp.out 1
  have hc_gp_2 : w5_.cell? ⟨gp, 2, none⟩ = some (.int .u32 x.f0) := (blk_cell BK_gp.out 2).trans rfl
  have hf_gp_2 := blk_frozen BK_gp.out 2
  have hc_gp_3 : w5_.cell? ⟨gp, 3, none⟩ = some (.bool x.f1) := (blk_cell BK_gp.out 3).trans rfl
  have hf_gp_3 := blk_frozen BK_gp.out 3
  have hc_gp_4 : w5_.cell? ⟨gp, 4, none⟩ = some (.int .i64 x.f2) := (blk_cell BK_gp.out 4).trans rfl
  have hf_gp_4 := blk_frozen BK_gp.out 4
  have hc_gp_5 : w5_.cell? ⟨gp, 5, none⟩ = some (.slice A_x x.f3.length c_x) := (blk_cell BK_gp.out 5).trans rfl
  have hf_gp_5 := blk_frozen BK_gp.out 5
  have hc_gp_6 : w5_.cell? ⟨gp, 6, none⟩ = some (.int .u8 kind) := (blk_cell BK_gp.out 6).trans rfl
  have hf_gp_6 := blk_frozen BK_gp.out 6
  have hc_gp_7 : w5_.cell? ⟨gp, 7, none⟩ = some (.slice A_l l.length c_l) := (blk_cell BK_gp.out 7).trans rfl
  have hf_gp_7 := blk_frozen BK_gp.out 7
  have hc_gp_8 : w5_.cell? ⟨gp, 8, none⟩ = some (.int .i64 n0) := (blk_cell BK_gp.out 8).trans rfl
  have hf_gp_8 := blk_frozen BK_gp.out 8
  have hc_gp_9 : w5_.cell? ⟨gp, 9, none⟩ = some (.int .i64 n1) := (blk_cell BK_gp.out 9).trans rfl
  have hf_gp_9 := blk_frozen BK_gp.out 9
  clear hc_gt_0 hf_gt_0 hc_gt_1 hf_gt_1
  have nBK := Aside0.mk (blk_below (g := gt) (o := .cells #[.int .i64 t.f0, .int .i64 t.f1] 23 (0, 0)) BK_gt.out hB)
  clear BK_gt
  have BK_gt := nBK
  clear nBK
  have hc_gt_0 : w5_.cell? ⟨gt, 0, none⟩ = some (.int .i64 t.f0) := (blk_cell BK_gt.out 0).trans rfl
  have hf_gt_0 := blk_frozen BK_gt.out 0
  have hc_gt_1 : w5_.cell? ⟨gt, 1, none⟩ = some (.int .i64 t.f1) := (blk_cell BK_gt.out 1).trans rfl
  have hf_gt_1 := blk_frozen BK_gt.out 1
  have BK_gm := Aside0.mk hBN
  have GE_gm := Aside0.mk (Nat.le_trans HBo.out.size hG.out)
  clear HBo hG hBN hB
  have hc_gm_0 : w5_.cell? ⟨gm, 0, none⟩ = some (.int .u32 x.f0) := (blk_cell BK_gm.out 0).trans rfl
  have hf_gm_0 := blk_frozen BK_gm.out 0
  have hc_gm_1 : w5_.cell? ⟨gm, 1, none⟩ = some (.bool x.f1) := (blk_cell BK_gm.out 1).trans rfl
  have hf_gm_1 := blk_frozen BK_gm.out 1
  have hc_gm_2 : w5_.cell? ⟨gm, 2, none⟩ = some (.int .i64 x.f2) := (blk_cell BK_gm.out 2).trans rfl
  have hf_gm_2 := blk_frozen BK_gm.out 2
  have hc_gm_3 : w5_.cell? ⟨gm, 3, none⟩ = some (.slice A_x x.f3.length c_x) := (blk_cell BK_gm.out 3).trans rfl
  have hf_gm_3 := blk_frozen BK_gm.out 3
  go_upto_region 6 with (first | ((with_reducible refine gate_dst (N := 7) rfl ?_); (try (refine gate_guard (by rfl) ?_; dsimp only)); refine box_event ?hg (N := 7) ?hd (cs := #[.int .i64 0, .int .i64 0]) (t := 51) ?hr ?_; (case hd => rfl); (case hg => rfl); (case hr => first | (go_simp; done) | (go_simp; rfl)); intro gn hg w6_ hbox hB0; have hG := Aside0.mk (show w5_.heap.size ≤ gn from Nat.le_of_eq hg.symm); clear hg; have hBX := Aside0.mk hbox; have hB1 := Aside0.mk hB0; clear hB0; have hc_gn_0 : w6_.cell? ⟨gn, 0, none⟩ = some (.int .i64 0) := (blk_cell hbox 0).trans rfl; have hf_gn_0 := blk_frozen hbox 0; have hc_gn_1 : w6_.cell? ⟨gn, 1, none⟩ = some (.int .i64 0) := (blk_cell hbox 1).trans rfl; have hf_gn_1 := blk_frozen hbox 1; clear hbox))
  have hB : Below w5_.heap.size w5_ ((w6_.setCell ⟨gn, 0, none⟩ (.int .i64 n0)).setCell ⟨gn, 1, none⟩ (.int .i64 n1)) := (below_set (below_set hB1.out hG.out) hG.out)
  have hBN : ((w6_.setCell ⟨gn, 0, none⟩ (.int .i64 n0)).setCell ⟨gn, 1, none⟩ (.int .i64 n1)).heap[gn]? = some (.cells #[.int .i64 n0, .int .i64 n1] 51 (0, 0)) := (blk_put (cs := #[.int .i64 n0, .int .i64 0]) (blk_put (cs := #[.int .i64 0, .int .i64 0]) hBX.out 0 (.int .i64 n0) rfl) 1 (.int .i64 n1) rfl)
  clear hBX hB1
  clear hc_gn_0 hf_gn_0 hc_gn_1 hf_gn_1
  generalize ((w6_.setCell ⟨gn, 0, none⟩ (.int .i64 n0)).setCell ⟨gn, 1, none⟩ (.int .i64 n1)) = w7_ at hB hBN ⊢
  have NB_gn_gp := Aside0.mk (show gn ≠ gp from Nat.ne_of_gt (Nat.lt_of_lt_of_le (blk_lt (g := gp) (o := .cells #[.int .i64 t.f0, .int .i64 t.f1, .int .u32 x.f0, .bool x.f1, .int .i64 x.f2, .slice A_x x.f3.length c_x, .int .u8 kind, .slice A_l l.length c_l, .int .i64 n0, .int .i64 n1] 53 (0, 0)) BK_gp.out) hG.out))
  have NB_gp_gn := Aside0.mk (Ne.symm NB_gn_gp.out)
  have NB_gn_gt := Aside0.mk (show gn ≠ gt from Nat.ne_of_gt (Nat.lt_of_lt_of_le (blk_lt (g := gt) (o := .cells #[.int .i64 t.f0, .int .i64 t.f1] 23 (0, 0)) BK_gt.out) hG.out))
  have NB_gt_gn := Aside0.mk (Ne.symm NB_gn_gt.out)
  have NB_gn_gm := Aside0.mk (show gn ≠ gm from Nat.ne_of_gt (Nat.lt_of_lt_of_le (blk_lt (g := gm) (o := .cells #[.int .u32 x.f0, .bool x.f1, .int .i64 x.f2, .slice A_x x.f3.length c_x] 28 (0, 0)) BK_gm.out) hG.out))
  have NB_gm_gn := Aside0.mk (Ne.symm NB_gn_gm.out)
  have HBo := Aside0.mk HB.out
  have nHB := Aside0.mk (HB.out.trans (hB.mono HB.out.size))
  clear HB
  have HB := nHB
  clear nHB
  clear hc_gp_0 hf_gp_0 hc_gp_1 hf_gp_1 hc_gp_2 hf_gp_2 hc_gp_3 hf_gp_3 hc_gp_4 hf_gp_4 hc_gp_5 hf_gp_5 hc_gp_6 hf_gp_6 hc_gp_7 hf_gp_7 hc_gp_8 hf_gp_8 hc_gp_9 hf_gp_9
  have nBK := Aside0.mk (blk_below (g := gp) (o := .cells #[.int .i64 t.f0, .int .i64 t.f1, .int .u32 x.f0, .bool x.f1, .int .i64 x.f2, .slice A_x x.f3.length c_x, .int .u8 kind, .slice A_l l.length c_l, .int .i64 n0, .int .i64 n1] 53 (0, 0)) BK_gp.out hB)
  clear BK_gp
  have BK_gp := nBK
  clear nBK
  have hc_gp_0 : w7_.cell? ⟨gp, 0, none⟩ = some (.int .i64 t.f0) := (blk_cell BK_gp.out 0).trans rfl
  have hf_gp_0 := blk_frozen BK_gp.out 0
  have hc_gp_1 : w7_.cell? ⟨gp, 1, none⟩ = some (.int .i64 t.f1) := (blk_cell BK_gp.out 1).trans rfl
  have hf_gp_1 := blk_frozen BK_gp.out 1
  have hc_gp_2 : w7_.cell? ⟨gp, 2, none⟩ = some (.int .u32 x.f0) := (blk_cell BK_gp.out 2).trans rfl
  have hf_gp_2 := blk_frozen BK_gp.out 2
  have hc_gp_3 : w7_.cell? ⟨gp, 3, none⟩ = some (.bool x.f1) := (blk_cell BK_gp.out 3).trans rfl
  have hf_gp_3 := blk_frozen BK_gp.out 3
  have hc_gp_4 : w7_.cell? ⟨gp, 4, none⟩ = some (.int .i64 x.f2) := (blk_cell BK_gp.out 4).trans rfl
  have hf_gp_4 := blk_frozen BK_gp.out 4
  have hc_gp_5 : w7_.cell? ⟨gp, 5, none⟩ = some (.slice A_x x.f3.length c_x) := (blk_cell BK_gp.out 5).trans rfl
  have hf_gp_5 := blk_frozen BK_gp.out 5
  have hc_gp_6 : w7_.cell? ⟨gp, 6, none⟩ = some (.int .u8 kind) := (blk_cell BK_gp.out 6).trans rfl
  have hf_gp_6 := blk_frozen BK_gp.out 6
  have hc_gp_7 : w7_.cell? ⟨gp, 7, none⟩ = some (.slice A_l l.length c_l) := (blk_cell BK_gp.out 7).trans rfl
  have hf_gp_7 := blk_frozen BK_gp.out 7
  have hc_gp_8 : w7_.cell? ⟨gp, 8, none⟩ = some (.int .i64 n0) := (blk_cell BK_gp.out 8).trans rfl
  have hf_gp_8 := blk_frozen BK_gp.out 8
  have hc_gp_9 : w7_.cell? ⟨gp, 9, none⟩ = some (.int .i64 n1) := (blk_cell BK_gp.out 9).trans rfl
  have hf_gp_9 := blk_frozen BK_gp.out 9
  clear hc_gt_0 hf_gt_0 hc_gt_1 hf_gt_1
  have nBK := Aside0.mk (blk_below (g := gt) (o := .cells #[.int .i64 t.f0, .int .i64 t.f1] 23 (0, 0)) BK_gt.out hB)
  clear BK_gt
  have BK_gt := nBK
  clear nBK
  have hc_gt_0 : w7_.cell? ⟨gt, 0, none⟩ = some (.int .i64 t.f0) := (blk_cell BK_gt.out 0).trans rfl
  have hf_gt_0 := blk_frozen BK_gt.out 0
  have hc_gt_1 : w7_.cell? ⟨gt, 1, none⟩ = some (.int .i64 t.f1) := (blk_cell BK_gt.out 1).trans rfl
  have hf_gt_1 := blk_frozen BK_gt.out 1
  clear hc_gm_0 hf_gm_0 hc_gm_1 hf_gm_1 hc_gm_2 hf_gm_2 hc_gm_3 hf_gm_3
  have nBK := Aside0.mk (blk_below (g := gm) (o := .cells #[.int .u32 x.f0, .bool x.f1, .int .i64 x.f2, .slice A_x x.f3.length c_x] 28 (0, 0)) BK_gm.out hB)
  clear BK_gm
  have BK_gm := nBK
  clear nBK
  have hc_gm_0 : w7_.cell? ⟨gm, 0, none⟩ = some (.int .u32 x.f0) := (blk_cell BK_gm.out 0).trans rfl
  have hf_gm_0 := blk_frozen BK_gm.out 0
  have hc_gm_1 : w7_.cell? ⟨gm, 1, none⟩ = some (.bool x.f1) := (blk_cell BK_gm.out 1).trans rfl
  have hf_gm_1 := blk_frozen BK_gm.out 1
  have hc_gm_2 : w7_.cell? ⟨gm, 2, none⟩ = some (.int .i64 x.f2) := (blk_cell BK_gm.out 2).trans rfl
  have hf_gm_2 := blk_frozen BK_gm.out 2
  have hc_gm_3 : w7_.cell? ⟨gm, 3, none⟩ = some (.slice A_x x.f3.length c_x) := (blk_cell BK_gm.out 3).trans rfl
  have hf_gm_3 := blk_frozen BK_gm.out 3
  have BK_gn := Aside0.mk hBN
  have GE_gn := Aside0.mk (Nat.le_trans HBo.out.size hG.out)
  clear HBo hG hBN hB
  have hc_gn_0 : w7_.cell? ⟨gn, 0, none⟩ = some (.int .i64 n0) := (blk_cell BK_gn.out 0).trans rfl
  have hf_gn_0 := blk_frozen BK_gn.out 0
  have hc_gn_1 : w7_.cell? ⟨gn, 1, none⟩ = some (.int .i64 n1) := (blk_cell BK_gn.out 1).trans rfl
  have hf_gn_1 := blk_frozen BK_gn.out 1
  go_wp2_with (first | (go_at_call 9; with_reducible refine (shown_w _).mono ?_; rintro e w8_ ⟨rfl, hB⟩; have nHB := Aside0.mk (HB.out.trans (hB.mono HB.out.size)); clear HB; have HB := nHB; clear nHB; clear hc_gp_0 hf_gp_0 hc_gp_1 hf_gp_1 hc_gp_2 hf_gp_2 hc_gp_3 hf_gp_3 hc_gp_4 hf_gp_4 hc_gp_5 hf_gp_5 hc_gp_6 hf_gp_6 hc_gp_7 hf_gp_7 hc_gp_8 hf_gp_8 hc_gp_9 hf_gp_9; have nBK := Aside0.mk (blk_below (g := gp) (o := .cells #[.int .i64 t.f0, .int .i64 t.f1, .int .u32 x.f0, .bool x.f1, .int .i64 x.f2, .slice A_x x.f3.length c_x, .int .u8 kind, .slice A_l l.length c_l, .int .i64 n0, .int .i64 n1] 53 (0, 0)) BK_gp.out hB); clear BK_gp; have BK_gp := nBK; clear nBK; have hc_gp_0 : w8_.cell? ⟨gp, 0, none⟩ = some (.int .i64 t.f0) := (blk_cell BK_gp.out 0).trans rfl; have hf_gp_0 := blk_frozen BK_gp.out 0; have hc_gp_1 : w8_.cell? ⟨gp, 1, none⟩ = some (.int .i64 t.f1) := (blk_cell BK_gp.out 1).trans rfl; have hf_gp_1 := blk_frozen BK_gp.out 1; have hc_gp_2 : w8_.cell? ⟨gp, 2, none⟩ = some (.int .u32 x.f0) := (blk_cell BK_gp.out 2).trans rfl; have hf_gp_2 := blk_frozen BK_gp.out 2; have hc_gp_3 : w8_.cell? ⟨gp, 3, none⟩ = some (.bool x.f1) := (blk_cell BK_gp.out 3).trans rfl; have hf_gp_3 := blk_frozen BK_gp.out 3; have hc_gp_4 : w8_.cell? ⟨gp, 4, none⟩ = some (.int .i64 x.f2) := (blk_cell BK_gp.out 4).trans rfl; have hf_gp_4 := blk_frozen BK_gp.out 4; have hc_gp_5 : w8_.cell? ⟨gp, 5, none⟩ = some (.slice A_x x.f3.length c_x) := (blk_cell BK_gp.out 5).trans rfl; have hf_gp_5 := blk_frozen BK_gp.out 5; have hc_gp_6 : w8_.cell? ⟨gp, 6, none⟩ = some (.int .u8 kind) := (blk_cell BK_gp.out 6).trans rfl; have hf_gp_6 := blk_frozen BK_gp.out 6; have hc_gp_7 : w8_.cell? ⟨gp, 7, none⟩ = some (.slice A_l l.length c_l) := (blk_cell BK_gp.out 7).trans rfl; have hf_gp_7 := blk_frozen BK_gp.out 7; have hc_gp_8 : w8_.cell? ⟨gp, 8, none⟩ = some (.int .i64 n0) := (blk_cell BK_gp.out 8).trans rfl; have hf_gp_8 := blk_frozen BK_gp.out 8; have hc_gp_9 : w8_.cell? ⟨gp, 9, none⟩ = some (.int .i64 n1) := (blk_cell BK_gp.out 9).trans rfl; have hf_gp_9 := blk_frozen BK_gp.out 9; clear hc_gt_0 hf_gt_0 hc_gt_1 hf_gt_1; have nBK := Aside0.mk (blk_below (g := gt) (o := .cells #[.int .i64 t.f0, .int .i64 t.f1] 23 (0, 0)) BK_gt.out hB); clear BK_gt; have BK_gt := nBK; clear nBK; have hc_gt_0 : w8_.cell? ⟨gt, 0, none⟩ = some (.int .i64 t.f0) := (blk_cell BK_gt.out 0).trans rfl; have hf_gt_0 := blk_frozen BK_gt.out 0; have hc_gt_1 : w8_.cell? ⟨gt, 1, none⟩ = some (.int .i64 t.f1) := (blk_cell BK_gt.out 1).trans rfl; have hf_gt_1 := blk_frozen BK_gt.out 1; clear hc_gm_0 hf_gm_0 hc_gm_1 hf_gm_1 hc_gm_2 hf_gm_2 hc_gm_3 hf_gm_3; have nBK := Aside0.mk (blk_below (g := gm) (o := .cells #[.int .u32 x.f0, .bool x.f1, .int .i64 x.f2, .slice A_x x.f3.length c_x] 28 (0, 0)) BK_gm.out hB); clear BK_gm; have BK_gm := nBK; clear nBK; have hc_gm_0 : w8_.cell? ⟨gm, 0, none⟩ = some (.int .u32 x.f0) := (blk_cell BK_gm.out 0).trans rfl; have hf_gm_0 := blk_frozen BK_gm.out 0; have hc_gm_1 : w8_.cell? ⟨gm, 1, none⟩ = some (.bool x.f1) := (blk_cell BK_gm.out 1).trans rfl; have hf_gm_1 := blk_frozen BK_gm.out 1; have hc_gm_2 : w8_.cell? ⟨gm, 2, none⟩ = some (.int .i64 x.f2) := (blk_cell BK_gm.out 2).trans rfl; have hf_gm_2 := blk_frozen BK_gm.out 2; have hc_gm_3 : w8_.cell? ⟨gm, 3, none⟩ = some (.slice A_x x.f3.length c_x) := (blk_cell BK_gm.out 3).trans rfl; have hf_gm_3 := blk_frozen BK_gm.out 3; clear hc_gn_0 hf_gn_0 hc_gn_1 hf_gn_1; have nBK := Aside0.mk (blk_below (g := gn) (o := .cells #[.int .i64 n0, .int .i64 n1] 51 (0, 0)) BK_gn.out hB); clear BK_gn; have BK_gn := nBK; clear nBK; have hc_gn_0 : w8_.cell? ⟨gn, 0, none⟩ = some (.int .i64 n0) := (blk_cell BK_gn.out 0).trans rfl; have hf_gn_0 := blk_frozen BK_gn.out 0; have hc_gn_1 : w8_.cell? ⟨gn, 1, none⟩ = some (.int .i64 n1) := (blk_cell BK_gn.out 1).trans rfl; have hf_gn_1 := blk_frozen BK_gn.out 1; clear hB) | (go_at_call 10; with_reducible refine (mayR_w Xhm.out _).mono ?_; rintro e w9_ ⟨rfl, hB⟩; have nHB := Aside0.mk (HB.out.trans (hB.mono HB.out.size)); clear HB; have HB := nHB; clear nHB; clear hc_gp_0 hf_gp_0 hc_gp_1 hf_gp_1 hc_gp_2 hf_gp_2 hc_gp_3 hf_gp_3 hc_gp_4 hf_gp_4 hc_gp_5 hf_gp_5 hc_gp_6 hf_gp_6 hc_gp_7 hf_gp_7 hc_gp_8 hf_gp_8 hc_gp_9 hf_gp_9; have nBK := Aside0.mk (blk_below (g := gp) (o := .cells #[.int .i64 t.f0, .int .i64 t.f1, .int .u32 x.f0, .bool x.f1, .int .i64 x.f2, .slice A_x x.f3.length c_x, .int .u8 kind, .slice A_l l.length c_l, .int .i64 n0, .int .i64 n1] 53 (0, 0)) BK_gp.out hB); clear BK_gp; have BK_gp := nBK; clear nBK; have hc_gp_0 : w9_.cell? ⟨gp, 0, none⟩ = some (.int .i64 t.f0) := (blk_cell BK_gp.out 0).trans rfl; have hf_gp_0 := blk_frozen BK_gp.out 0; have hc_gp_1 : w9_.cell? ⟨gp, 1, none⟩ = some (.int .i64 t.f1) := (blk_cell BK_gp.out 1).trans rfl; have hf_gp_1 := blk_frozen BK_gp.out 1; have hc_gp_2 : w9_.cell? ⟨gp, 2, none⟩ = some (.int .u32 x.f0) := (blk_cell BK_gp.out 2).trans rfl; have hf_gp_2 := blk_frozen BK_gp.out 2; have hc_gp_3 : w9_.cell? ⟨gp, 3, none⟩ = some (.bool x.f1) := (blk_cell BK_gp.out 3).trans rfl; have hf_gp_3 := blk_frozen BK_gp.out 3; have hc_gp_4 : w9_.cell? ⟨gp, 4, none⟩ = some (.int .i64 x.f2) := (blk_cell BK_gp.out 4).trans rfl; have hf_gp_4 := blk_frozen BK_gp.out 4; have hc_gp_5 : w9_.cell? ⟨gp, 5, none⟩ = some (.slice A_x x.f3.length c_x) := (blk_cell BK_gp.out 5).trans rfl; have hf_gp_5 := blk_frozen BK_gp.out 5; have hc_gp_6 : w9_.cell? ⟨gp, 6, none⟩ = some (.int .u8 kind) := (blk_cell BK_gp.out 6).trans rfl; have hf_gp_6 := blk_frozen BK_gp.out 6; have hc_gp_7 : w9_.cell? ⟨gp, 7, none⟩ = some (.slice A_l l.length c_l) := (blk_cell BK_gp.out 7).trans rfl; have hf_gp_7 := blk_frozen BK_gp.out 7; have hc_gp_8 : w9_.cell? ⟨gp, 8, none⟩ = some (.int .i64 n0) := (blk_cell BK_gp.out 8).trans rfl; have hf_gp_8 := blk_frozen BK_gp.out 8; have hc_gp_9 : w9_.cell? ⟨gp, 9, none⟩ = some (.int .i64 n1) := (blk_cell BK_gp.out 9).trans rfl; have hf_gp_9 := blk_frozen BK_gp.out 9; clear hc_gt_0 hf_gt_0 hc_gt_1 hf_gt_1; have nBK := Aside0.mk (blk_below (g := gt) (o := .cells #[.int .i64 t.f0, .int .i64 t.f1] 23 (0, 0)) BK_gt.out hB); clear BK_gt; have BK_gt := nBK; clear nBK; have hc_gt_0 : w9_.cell? ⟨gt, 0, none⟩ = some (.int .i64 t.f0) := (blk_cell BK_gt.out 0).trans rfl; have hf_gt_0 := blk_frozen BK_gt.out 0; have hc_gt_1 : w9_.cell? ⟨gt, 1, none⟩ = some (.int .i64 t.f1) := (blk_cell BK_gt.out 1).trans rfl; have hf_gt_1 := blk_frozen BK_gt.out 1; clear hc_gm_0 hf_gm_0 hc_gm_1 hf_gm_1 hc_gm_2 hf_gm_2 hc_gm_3 hf_gm_3; have nBK := Aside0.mk (blk_below (g := gm) (o := .cells #[.int .u32 x.f0, .bool x.f1, .int .i64 x.f2, .slice A_x x.f3.length c_x] 28 (0, 0)) BK_gm.out hB); clear BK_gm; have BK_gm := nBK; clear nBK; have hc_gm_0 : w9_.cell? ⟨gm, 0, none⟩ = some (.int .u32 x.f0) := (blk_cell BK_gm.out 0).trans rfl; have hf_gm_0 := blk_frozen BK_gm.out 0; have hc_gm_1 : w9_.cell? ⟨gm, 1, none⟩ = some (.bool x.f1) := (blk_cell BK_gm.out 1).trans rfl; have hf_gm_1 := blk_frozen BK_gm.out 1; have hc_gm_2 : w9_.cell? ⟨gm, 2, none⟩ = some (.int .i64 x.f2) := (blk_cell BK_gm.out 2).trans rfl; have hf_gm_2 := blk_frozen BK_gm.out 2; have hc_gm_3 : w9_.cell? ⟨gm, 3, none⟩ = some (.slice A_x x.f3.length c_x) := (blk_cell BK_gm.out 3).trans rfl; have hf_gm_3 := blk_frozen BK_gm.out 3; clear hc_gn_0 hf_gn_0 hc_gn_1 hf_gn_1; have nBK := Aside0.mk (blk_below (g := gn) (o := .cells #[.int .i64 n0, .int .i64 n1] 51 (0, 0)) BK_gn.out hB); clear BK_gn; have BK_gn := nBK; clear nBK; have hc_gn_0 : w9_.cell? ⟨gn, 0, none⟩ = some (.int .i64 n0) := (blk_cell BK_gn.out 0).trans rfl; have hf_gn_0 := blk_frozen BK_gn.out 0; have hc_gn_1 : w9_.cell? ⟨gn, 1, none⟩ = some (.int .i64 n1) := (blk_cell BK_gn.out 1).trans rfl; have hf_gn_1 := blk_frozen BK_gn.out 1; clear hB) | (go_at_call 11; with_reducible refine (right_w (b := true) (by simp [Xhx.out]) _ _ _ (Kd.C_below HC_x.out HB.out) HK_x.out).mono ?_; rintro e w10_ ⟨rfl, hB⟩; have nHB := Aside0.mk (HB.out.trans (hB.mono HB.out.size)); clear HB; have HB := nHB; clear nHB; clear hc_gp_0 hf_gp_0 hc_gp_1 hf_gp_1 hc_gp_2 hf_gp_2 hc_gp_3 hf_gp_3 hc_gp_4 hf_gp_4 hc_gp_5 hf_gp_5 hc_gp_6 hf_gp_6 hc_gp_7 hf_gp_7 hc_gp_8 hf_gp_8 hc_gp_9 hf_gp_9; have nBK := Aside0.mk (blk_below (g := gp) (o := .cells #[.int .i64 t.f0, .int .i64 t.f1, .int .u32 x.f0, .bool x.f1, .int .i64 x.f2, .slice A_x x.f3.length c_x, .int .u8 kind, .slice A_l l.length c_l, .int .i64 n0, .int .i64 n1] 53 (0, 0)) BK_gp.out hB); clear BK_gp; have BK_gp := nBK; clear nBK; have hc_gp_0 : w10_.cell? ⟨gp, 0, none⟩ = some (.int .i64 t.f0) := (blk_cell BK_gp.out 0).trans rfl; have hf_gp_0 := blk_frozen BK_gp.out 0; have hc_gp_1 : w10_.cell? ⟨gp, 1, none⟩ = some (.int .i64 t.f1) := (blk_cell BK_gp.out 1).trans rfl; have hf_gp_1 := blk_frozen BK_gp.out 1; have hc_gp_2 : w10_.cell? ⟨gp, 2, none⟩ = some (.int .u32 x.f0) := (blk_cell BK_gp.out 2).trans rfl; have hf_gp_2 := blk_frozen BK_gp.out 2; have hc_gp_3 : w10_.cell? ⟨gp, 3, none⟩ = some (.bool x.f1) := (blk_cell BK_gp.out 3).trans rfl; have hf_gp_3 := blk_frozen BK_gp.out 3; have hc_gp_4 : w10_.cell? ⟨gp, 4, none⟩ = some (.int .i64 x.f2) := (blk_cell BK_gp.out 4).trans rfl; have hf_gp_4 := blk_frozen BK_gp.out 4; have hc_gp_5 : w10_.cell? ⟨gp, 5, none⟩ = some (.slice A_x x.f3.length c_x) := (blk_cell BK_gp.out 5).trans rfl; have hf_gp_5 := blk_frozen BK_gp.out 5; have hc_gp_6 : w10_.cell? ⟨gp, 6, none⟩ = some (.int .u8 kind) := (blk_cell BK_gp.out 6).trans rfl; have hf_gp_6 := blk_frozen BK_gp.out 6; have hc_gp_7 : w10_.cell? ⟨gp, 7, none⟩ = some (.slice A_l l.length c_l) := (blk_cell BK_gp.out 7).trans rfl; have hf_gp_7 := blk_frozen BK_gp.out 7; have hc_gp_8 : w10_.cell? ⟨gp, 8, none⟩ = some (.int .i64 n0) := (blk_cell BK_gp.out 8).trans rfl; have hf_gp_8 := blk_frozen BK_gp.out 8; have hc_gp_9 : w10_.cell? ⟨gp, 9, none⟩ = some (.int .i64 n1) := (blk_cell BK_gp.out 9).trans rfl; have hf_gp_9 := blk_frozen BK_gp.out 9; clear hc_gt_0 hf_gt_0 hc_gt_1 hf_gt_1; have nBK := Aside0.mk (blk_below (g := gt) (o := .cells #[.int .i64 t.f0, .int .i64 t.f1] 23 (0, 0)) BK_gt.out hB); clear BK_gt; have BK_gt := nBK; clear nBK; have hc_gt_0 : w10_.cell? ⟨gt, 0, none⟩ = some (.int .i64 t.f0) := (blk_cell BK_gt.out 0).trans rfl; have hf_gt_0 := blk_frozen BK_gt.out 0; have hc_gt_1 : w10_.cell? ⟨gt, 1, none⟩ = some (.int .i64 t.f1) := (blk_cell BK_gt.out 1).trans rfl; have hf_gt_1 := blk_frozen BK_gt.out 1; clear hc_gm_0 hf_gm_0 hc_gm_1 hf_gm_1 hc_gm_2 hf_gm_2 hc_gm_3 hf_gm_3; have nBK := Aside0.mk (blk_below (g := gm) (o := .cells #[.int .u32 x.f0, .bool x.f1, .int .i64 x.f2, .slice A_x x.f3.length c_x] 28 (0, 0)) BK_gm.out hB); clear BK_gm; have BK_gm := nBK; clear nBK; have hc_gm_0 : w10_.cell? ⟨gm, 0, none⟩ = some (.int .u32 x.f0) := (blk_cell BK_gm.out 0).trans rfl; have hf_gm_0 := blk_frozen BK_gm.out 0; have hc_gm_1 : w10_.cell? ⟨gm, 1, none⟩ = some (.bool x.f1) := (blk_cell BK_gm.out 1).trans rfl; have hf_gm_1 := blk_frozen BK_gm.out 1; have hc_gm_2 : w10_.cell? ⟨gm, 2, none⟩ = some (.int .i64 x.f2) := (blk_cell BK_gm.out 2).trans rfl; have hf_gm_2 := blk_frozen BK_gm.out 2; have hc_gm_3 : w10_.cell? ⟨gm, 3, none⟩ = some (.slice A_x x.f3.length c_x) := (blk_cell BK_gm.out 3).trans rfl; have hf_gm_3 := blk_frozen BK_gm.out 3; clear hc_gn_0 hf_gn_0 hc_gn_1 hf_gn_1; have nBK := Aside0.mk (blk_below (g := gn) (o := .cells #[.int .i64 n0, .int .i64 n1] 51 (0, 0)) BK_gn.out hB); clear BK_gn; have BK_gn := nBK; clear nBK; have hc_gn_0 : w10_.cell? ⟨gn, 0, none⟩ = some (.int .i64 n0) := (blk_cell BK_gn.out 0).trans rfl; have hf_gn_0 := blk_frozen BK_gn.out 0; have hc_gn_1 : w10_.cell? ⟨gn, 1, none⟩ = some (.int .i64 n1) := (blk_cell BK_gn.out 1).trans rfl; have hf_gn_1 := blk_frozen BK_gn.out 1; clear hB))
  go_ret
  exact ⟨rfl, HB.out⟩
set_option maxHeartbeats 8000000 in
set_option maxRecDepth 100000 in
theorem mstays_far1 {t : S23} {x : S28} {kind : Int} {l : List Int} {n0 n1 : Int} (hm : mayB t = true) (hx : MOk x) (h1 : ¬ (200 : Int) < (l.length : Int)) (h2 : ¬ n0 < 0) (h3 : ¬ n1 < 0) (h4 : ¬ 1000000000 < n0) (h5 : 1000000000 < n1) (A_x : Option Addr) (c_x : Nat) (A_l : Option Addr) (c_l : Nat) (w : World) (hr : Kd.C k49 w A_x x.f3.length x.f3) (hc : x.f3.length ≤ c_x) (hs : Kd.C (Kd.int .u32) w A_l l.length l) (hcs : l.length ≤ c_l) :
    Calls Try.prog 5 #[.agg #[.int .i64 t.f0, .int .i64 t.f1, .int .u32 x.f0, .bool x.f1, .int .i64 x.f2, .slice A_x x.f3.length c_x, .int .u8 kind, .slice A_l l.length c_l, .int .i64 n0, .int .i64 n1]] w (fun e w' => e = .returned (.bool true) ∧ Below w.heap.size w w') := by
  have hu23 := Try.underlying23
  have hu28 := Try.underlying28
  have hu51 := Try.underlying51
  have hu53 := Try.underlying53
  have HB := Aside0.mk (Below.refl w.heap.size w)
  have HC_x := Aside0.mk hr
  have HK_x := Aside0.mk hc
  have HC_l := Aside0.mk hs
  have HK_l := Aside0.mk hcs
  clear hr hc hs hcs
  have Xhm := Aside0.mk hm
  have Xhx := Aside0.mk hx
  clear hm hx
  go_enter Try.func5, Try.ntmps5
  go_upto_region 2 with (first | ((with_reducible refine gate_dst (N := 1) rfl ?_); (try (refine gate_guard (by rfl) ?_; dsimp only)); refine box_event ?hg (N := 1) ?hd (cs := #[.int .i64 t.f0, .int .i64 t.f1, .int .u32 x.f0, .bool x.f1, .int .i64 x.f2, .slice A_x x.f3.length c_x, .int .u8 kind, .slice A_l l.length c_l, .int .i64 n0, .int .i64 n1]) (t := 53) ?hr ?_; (case hd => rfl); (case hg => rfl); (case hr => first | (go_simp; done) | (go_simp; rfl)); intro gp hg w1_ hbox hB; have HBo := Aside0.mk HB.out; have nHB := Aside0.mk (HB.out.trans (hB.mono HB.out.size)); clear HB; have HB := nHB; clear nHB; have BK_gp := Aside0.mk hbox; have GE_gp := Aside0.mk (show w.heap.size ≤ gp by rw [hg]; exact HBo.out.size); clear hg hbox hB; have hc_gp_0 : w1_.cell? ⟨gp, 0, none⟩ = some (.int .i64 t.f0) := (blk_cell BK_gp.out 0).trans rfl; have hf_gp_0 := blk_frozen BK_gp.out 0; have hc_gp_1 : w1_.cell? ⟨gp, 1, none⟩ = some (.int .i64 t.f1) := (blk_cell BK_gp.out 1).trans rfl; have hf_gp_1 := blk_frozen BK_gp.out 1; have hc_gp_2 : w1_.cell? ⟨gp, 2, none⟩ = some (.int .u32 x.f0) := (blk_cell BK_gp.out 2).trans rfl; have hf_gp_2 := blk_frozen BK_gp.out 2; have hc_gp_3 : w1_.cell? ⟨gp, 3, none⟩ = some (.bool x.f1) := (blk_cell BK_gp.out 3).trans rfl; have hf_gp_3 := blk_frozen BK_gp.out 3; have hc_gp_4 : w1_.cell? ⟨gp, 4, none⟩ = some (.int .i64 x.f2) := (blk_cell BK_gp.out 4).trans rfl; have hf_gp_4 := blk_frozen BK_gp.out 4; have hc_gp_5 : w1_.cell? ⟨gp, 5, none⟩ = some (.slice A_x x.f3.length c_x) := (blk_cell BK_gp.out 5).trans rfl; have hf_gp_5 := blk_frozen BK_gp.out 5; have hc_gp_6 : w1_.cell? ⟨gp, 6, none⟩ = some (.int .u8 kind) := (blk_cell BK_gp.out 6).trans rfl; have hf_gp_6 := blk_frozen BK_gp.out 6; have hc_gp_7 : w1_.cell? ⟨gp, 7, none⟩ = some (.slice A_l l.length c_l) := (blk_cell BK_gp.out 7).trans rfl; have hf_gp_7 := blk_frozen BK_gp.out 7; have hc_gp_8 : w1_.cell? ⟨gp, 8, none⟩ = some (.int .i64 n0) := (blk_cell BK_gp.out 8).trans rfl; have hf_gp_8 := blk_frozen BK_gp.out 8; have hc_gp_9 : w1_.cell? ⟨gp, 9, none⟩ = some (.int .i64 n1) := (blk_cell BK_gp.out 9).trans rfl; have hf_gp_9 := blk_frozen BK_gp.out 9; clear HBo) | ((with_reducible refine gate_dst (N := 3) rfl ?_); (try (refine gate_guard (by rfl) ?_; dsimp only)); refine box_event ?hg (N := 3) ?hd (cs := #[.int .i64 0, .int .i64 0]) (t := 23) ?hr ?_; (case hd => rfl); (case hg => rfl); (case hr => first | (go_simp; done) | (go_simp; rfl)); intro gt hg w2_ hbox hB0; have hG := Aside0.mk (show w1_.heap.size ≤ gt from Nat.le_of_eq hg.symm); clear hg; have hBX := Aside0.mk hbox; have hB1 := Aside0.mk hB0; clear hB0; have hc_gt_0 : w2_.cell? ⟨gt, 0, none⟩ = some (.int .i64 0) := (blk_cell hbox 0).trans rfl; have hf_gt_0 := blk_frozen hbox 0; have hc_gt_1 : w2_.cell? ⟨gt, 1, none⟩ = some (.int .i64 0) := (blk_cell hbox 1).trans rfl; have hf_gt_1 := blk_frozen hbox 1; clear hbox))
  have hB : Below w1_.heap.size w1_ ((w2_.setCell ⟨gt, 0, none⟩ (.int .i64 t.f0)).setCell ⟨gt, 1, none⟩ (.int .i64 t.f1)) := (below_set (below_set hB1.out hG.out) hG.out)
  have hBN : ((w2_.setCell ⟨gt, 0, none⟩ (.int .i64 t.f0)).setCell ⟨gt, 1, none⟩ (.int .i64 t.f1)).heap[gt]? = some (.cells #[.int .i64 t.f0, .int .i64 t.f1] 23 (0, 0)) := (blk_put (cs := #[.int .i64 t.f0, .int .i64 0]) (blk_put (cs := #[.int .i64 0, .int .i64 0]) hBX.out 0 (.int .i64 t.f0) rfl) 1 (.int .i64 t.f1) rfl)
  clear hBX hB1
  clear hc_gt_0 hf_gt_0 hc_gt_1 hf_gt_1
  generalize ((w2_.setCell ⟨gt, 0, none⟩ (.int .i64 t.f0)).setCell ⟨gt, 1, none⟩ (.int .i64 t.f1)) = w3_ at hB hBN ⊢
  have NB_gt_gp := Aside0.mk (show gt ≠ gp from Nat.ne_of_gt (Nat.lt_of_lt_of_le (blk_lt (g := gp) (o := .cells #[.int .i64 t.f0, .int .i64 t.f1, .int .u32 x.f0, .bool x.f1, .int .i64 x.f2, .slice A_x x.f3.length c_x, .int .u8 kind, .slice A_l l.length c_l, .int .i64 n0, .int .i64 n1] 53 (0, 0)) BK_gp.out) hG.out))
  have NB_gp_gt := Aside0.mk (Ne.symm NB_gt_gp.out)
  have HBo := Aside0.mk HB.out
  have nHB := Aside0.mk (HB.out.trans (hB.mono HB.out.size))
  clear HB
  have HB := nHB
  clear nHB
  clear hc_gp_0 hf_gp_0 hc_gp_1 hf_gp_1 hc_gp_2 hf_gp_2 hc_gp_3 hf_gp_3 hc_gp_4 hf_gp_4 hc_gp_5 hf_gp_5 hc_gp_6 hf_gp_6 hc_gp_7 hf_gp_7 hc_gp_8 hf_gp_8 hc_gp_9 hf_gp_9
  have nBK := Aside0.mk (blk_below (g := gp) (o := .cells #[.int .i64 t.f0, .int .i64 t.f1, .int .u32 x.f0, .bool x.f1, .int .i64 x.f2, .slice A_x x.f3.length c_x, .int .u8 kind, .slice A_l l.length c_l, .int .i64 n0, .int .i64 n1] 53 (0, 0)) BK_gp.out hB)
  clear BK_gp
  have BK_gp := nBK
  clear nBK
  have hc_gp_0 : w3_.cell? ⟨gp, 0, none⟩ = some (.int .i64 t.f0) := (blk_cell BK_gp.out 0).trans rfl
  have hf_gp_0 := blk_frozen BK_gp.out 0
  have hc_gp_1 : w3_.cell? ⟨gp, 1, none⟩ = some (.int .i64 t.f1) := (blk_cell BK_gp.out 1).trans rfl
  have hf_gp_1 := blk_frozen BK_gp.out 1
  have hc_gp_2 : w3_.cell? ⟨gp, 2, none⟩ = some (.int .u32 x.f0) := (blk_cell BK_gp.out 2).trans rfl
  have hf_gp_2 := blk_frozen BK_gp.out 2
  have hc_gp_3 : w3_.cell? ⟨gp, 3, none⟩ = some (.bool x.f1) := (blk_cell BK_gp.out 3).trans rfl
  have hf_gp_3 := blk_frozen BK_gp.out 3
  have hc_gp_4 : w3_.cell? ⟨gp, 4, none⟩ = some (.int .i64 x.f2) := (blk_cell BK_gp.out 4).trans rfl
  have hf_gp_4 := blk_frozen BK_gp.out 4
  have hc_gp_5 : w3_.cell? ⟨gp, 5, none⟩ = some (.slice A_x x.f3.length c_x) := (blk_cell BK_gp.out 5).trans rfl
  have hf_gp_5 := blk_frozen BK_gp.out 5
  have hc_gp_6 : w3_.cell? ⟨gp, 6, none⟩ = some (.int .u8 kind) := (blk_cell BK_gp.out 6).trans rfl
  have hf_gp_6 := blk_frozen BK_gp.out 6
  have hc_gp_7 : w3_.cell? ⟨gp, 7, none⟩ = some (.slice A_l l.length c_l) := (blk_cell BK_gp.out 7).trans rfl
  have hf_gp_7 := blk_frozen BK_gp.out 7
  have hc_gp_8 : w3_.cell? ⟨gp, 8, none⟩ = some (.int .i64 n0) := (blk_cell BK_gp.out 8).trans rfl
  have hf_gp_8 := blk_frozen BK_gp.out 8
  have hc_gp_9 : w3_.cell? ⟨gp, 9, none⟩ = some (.int .i64 n1) := (blk_cell BK_gp.out 9).trans rfl
  have hf_gp_9 := blk_frozen BK_gp.out 9
  have BK_gt := Aside0.mk hBN
  have GE_gt := Aside0.mk (Nat.le_trans HBo.out.size hG.out)
  clear HBo hG hBN hB
  have hc_gt_0 : w3_.cell? ⟨gt, 0, none⟩ = some (.int .i64 t.f0) := (blk_cell BK_gt.out 0).trans rfl
  have hf_gt_0 := blk_frozen BK_gt.out 0
  have hc_gt_1 : w3_.cell? ⟨gt, 1, none⟩ = some (.int .i64 t.f1) := (blk_cell BK_gt.out 1).trans rfl
  have hf_gt_1 := blk_frozen BK_gt.out 1
  go_upto_region 3 with (first | ((with_reducible refine gate_dst (N := 4) rfl ?_); (try (refine gate_guard (by rfl) ?_; dsimp only)); refine box_event ?hg (N := 4) ?hd (cs := #[.int .u32 0, .bool false, .int .i64 0, .slice none 0 0]) (t := 28) ?hr ?_; (case hd => rfl); (case hg => rfl); (case hr => first | (go_simp; done) | (go_simp; rfl)); intro gm hg w4_ hbox hB0; have hG := Aside0.mk (show w3_.heap.size ≤ gm from Nat.le_of_eq hg.symm); clear hg; have hBX := Aside0.mk hbox; have hB1 := Aside0.mk hB0; clear hB0; have hc_gm_0 : w4_.cell? ⟨gm, 0, none⟩ = some (.int .u32 0) := (blk_cell hbox 0).trans rfl; have hf_gm_0 := blk_frozen hbox 0; have hc_gm_1 : w4_.cell? ⟨gm, 1, none⟩ = some (.bool false) := (blk_cell hbox 1).trans rfl; have hf_gm_1 := blk_frozen hbox 1; have hc_gm_2 : w4_.cell? ⟨gm, 2, none⟩ = some (.int .i64 0) := (blk_cell hbox 2).trans rfl; have hf_gm_2 := blk_frozen hbox 2; have hc_gm_3 : w4_.cell? ⟨gm, 3, none⟩ = some (.slice none 0 0) := (blk_cell hbox 3).trans rfl; have hf_gm_3 := blk_frozen hbox 3; clear hbox))
  have hB : Below w3_.heap.size w3_ ((((w4_.setCell ⟨gm, 0, none⟩ (.int .u32 x.f0)).setCell ⟨gm, 1, none⟩ (.bool x.f1)).setCell ⟨gm, 2, none⟩ (.int .i64 x.f2)).setCell ⟨gm, 3, none⟩ (.slice A_x x.f3.length c_x)) := (below_set (below_set (below_set (below_set hB1.out hG.out) hG.out) hG.out) hG.out)
  have hBN : ((((w4_.setCell ⟨gm, 0, none⟩ (.int .u32 x.f0)).setCell ⟨gm, 1, none⟩ (.bool x.f1)).setCell ⟨gm, 2, none⟩ (.int .i64 x.f2)).setCell ⟨gm, 3, none⟩ (.slice A_x x.f3.length c_x)).heap[gm]? = some (.cells #[.int .u32 x.f0, .bool x.f1, .int .i64 x.f2, .slice A_x x.f3.length c_x] 28 (0, 0)) := (blk_put (cs := #[.int .u32 x.f0, .bool x.f1, .int .i64 x.f2, .slice none 0 0]) (blk_put (cs := #[.int .u32 x.f0, .bool x.f1, .int .i64 0, .slice none 0 0]) (blk_put (cs := #[.int .u32 x.f0, .bool false, .int .i64 0, .slice none 0 0]) (blk_put (cs := #[.int .u32 0, .bool false, .int .i64 0, .slice none 0 0]) hBX.out 0 (.int .u32 x.f0) rfl) 1 (.bool x.f1) rfl) 2 (.int .i64 x.f2) rfl) 3 (.slice A_x x.f3.length c_x) rfl)
  clear hBX hB1
  clear hc_gm_0 hf_gm_0 hc_gm_1 hf_gm_1 hc_gm_2 hf_gm_2 hc_gm_3 hf_gm_3
  generalize ((((w4_.setCell ⟨gm, 0, none⟩ (.int .u32 x.f0)).setCell ⟨gm, 1, none⟩ (.bool x.f1)).setCell ⟨gm, 2, none⟩ (.int .i64 x.f2)).setCell ⟨gm, 3, none⟩ (.slice A_x x.f3.length c_x)) = w5_ at hB hBN ⊢
  have NB_gm_gp := Aside0.mk (show gm ≠ gp from Nat.ne_of_gt (Nat.lt_of_lt_of_le (blk_lt (g := gp) (o := .cells #[.int .i64 t.f0, .int .i64 t.f1, .int .u32 x.f0, .bool x.f1, .int .i64 x.f2, .slice A_x x.f3.length c_x, .int .u8 kind, .slice A_l l.length c_l, .int .i64 n0, .int .i64 n1] 53 (0, 0)) BK_gp.out) hG.out))
  have NB_gp_gm := Aside0.mk (Ne.symm NB_gm_gp.out)
  have NB_gm_gt := Aside0.mk (show gm ≠ gt from Nat.ne_of_gt (Nat.lt_of_lt_of_le (blk_lt (g := gt) (o := .cells #[.int .i64 t.f0, .int .i64 t.f1] 23 (0, 0)) BK_gt.out) hG.out))
  have NB_gt_gm := Aside0.mk (Ne.symm NB_gm_gt.out)
  have HBo := Aside0.mk HB.out
  have nHB := Aside0.mk (HB.out.trans (hB.mono HB.out.size))
  clear HB
  have HB := nHB
  clear nHB
  clear hc_gp_0 hf_gp_0 hc_gp_1 hf_gp_1 hc_gp_2 hf_gp_2 hc_gp_3 hf_gp_3 hc_gp_4 hf_gp_4 hc_gp_5 hf_gp_5 hc_gp_6 hf_gp_6 hc_gp_7 hf_gp_7 hc_gp_8 hf_gp_8 hc_gp_9 hf_gp_9
  have nBK := Aside0.mk (blk_below (g := gp) (o := .cells #[.int .i64 t.f0, .int .i64 t.f1, .int .u32 x.f0, .bool x.f1, .int .i64 x.f2, .slice A_x x.f3.length c_x, .int .u8 kind, .slice A_l l.length c_l, .int .i64 n0, .int .i64 n1] 53 (0, 0)) BK_gp.out hB)
  clear BK_gp
  have BK_gp := nBK
  clear nBK
  have hc_gp_0 : w5_.cell? ⟨gp, 0, none⟩ = some (.int .i64 t.f0) := (blk_cell BK_gp.out 0).trans rfl
  have hf_gp_0 := blk_frozen BK_gp.out 0
  have hc_gp_1 : w5_.cell? ⟨gp, 1, none⟩ = some (.int .i64 t.f1) := (blk_cell BK_gp.out 1).trans rfl
  have hf_gp_1 := blk_frozen BK_gp.out 1
  have hc_gp_2 : w5_.cell? ⟨gp, 2, none⟩ = some (.int .u32 x.f0) := (blk_cell BK_gp.out 2).trans rfl
  have hf_gp_2 := blk_frozen BK_gp.out 2
  have hc_gp_3 : w5_.cell? ⟨gp, 3, none⟩ = some (.bool x.f1) := (blk_cell BK_gp.out 3).trans rfl
  have hf_gp_3 := blk_frozen BK_gp.out 3
  have hc_gp_4 : w5_.cell? ⟨gp, 4, none⟩ = some (.int .i64 x.f2) := (blk_cell BK_gp.out 4).trans rfl
  have hf_gp_4 := blk_frozen BK_gp.out 4
  have hc_gp_5 : w5_.cell? ⟨gp, 5, none⟩ = some (.slice A_x x.f3.length c_x) := (blk_cell BK_gp.out 5).trans rfl
  have hf_gp_5 := blk_frozen BK_gp.out 5
  have hc_gp_6 : w5_.cell? ⟨gp, 6, none⟩ = some (.int .u8 kind) := (blk_cell BK_gp.out 6).trans rfl
  have hf_gp_6 := blk_frozen BK_gp.out 6
  have hc_gp_7 : w5_.cell? ⟨gp, 7, none⟩ = some (.slice A_l l.length c_l) := (blk_cell BK_gp.out 7).trans rfl
  have hf_gp_7 := blk_frozen BK_gp.out 7
  have hc_gp_8 : w5_.cell? ⟨gp, 8, none⟩ = some (.int .i64 n0) := (blk_cell BK_gp.out 8).trans rfl
  have hf_gp_8 := blk_frozen BK_gp.out 8
  have hc_gp_9 : w5_.cell? ⟨gp, 9, none⟩ = some (.int .i64 n1) := (blk_cell BK_gp.out 9).trans rfl
  have hf_gp_9 := blk_frozen BK_gp.out 9
  clear hc_gt_0 hf_gt_0 hc_gt_1 hf_gt_1
  have nBK := Aside0.mk (blk_below (g := gt) (o := .cells #[.int .i64 t.f0, .int .i64 t.f1] 23 (0, 0)) BK_gt.out hB)
  clear BK_gt
  have BK_gt := nBK
  clear nBK
  have hc_gt_0 : w5_.cell? ⟨gt, 0, none⟩ = some (.int .i64 t.f0) := (blk_cell BK_gt.out 0).trans rfl
  have hf_gt_0 := blk_frozen BK_gt.out 0
  have hc_gt_1 : w5_.cell? ⟨gt, 1, none⟩ = some (.int .i64 t.f1) := (blk_cell BK_gt.out 1).trans rfl
  have hf_gt_1 := blk_frozen BK_gt.out 1
  have BK_gm := Aside0.mk hBN
  have GE_gm := Aside0.mk (Nat.le_trans HBo.out.size hG.out)
  clear HBo hG hBN hB
  have hc_gm_0 : w5_.cell? ⟨gm, 0, none⟩ = some (.int .u32 x.f0) := (blk_cell BK_gm.out 0).trans rfl
  have hf_gm_0 := blk_frozen BK_gm.out 0
  have hc_gm_1 : w5_.cell? ⟨gm, 1, none⟩ = some (.bool x.f1) := (blk_cell BK_gm.out 1).trans rfl
  have hf_gm_1 := blk_frozen BK_gm.out 1
  have hc_gm_2 : w5_.cell? ⟨gm, 2, none⟩ = some (.int .i64 x.f2) := (blk_cell BK_gm.out 2).trans rfl
  have hf_gm_2 := blk_frozen BK_gm.out 2
  have hc_gm_3 : w5_.cell? ⟨gm, 3, none⟩ = some (.slice A_x x.f3.length c_x) := (blk_cell BK_gm.out 3).trans rfl
  have hf_gm_3 := blk_frozen BK_gm.out 3
  go_upto_region 6 with (first | ((with_reducible refine gate_dst (N := 7) rfl ?_); (try (refine gate_guard (by rfl) ?_; dsimp only)); refine box_event ?hg (N := 7) ?hd (cs := #[.int .i64 0, .int .i64 0]) (t := 51) ?hr ?_; (case hd => rfl); (case hg => rfl); (case hr => first | (go_simp; done) | (go_simp; rfl)); intro gn hg w6_ hbox hB0; have hG := Aside0.mk (show w5_.heap.size ≤ gn from Nat.le_of_eq hg.symm); clear hg; have hBX := Aside0.mk hbox; have hB1 := Aside0.mk hB0; clear hB0; have hc_gn_0 : w6_.cell? ⟨gn, 0, none⟩ = some (.int .i64 0) := (blk_cell hbox 0).trans rfl; have hf_gn_0 := blk_frozen hbox 0; have hc_gn_1 : w6_.cell? ⟨gn, 1, none⟩ = some (.int .i64 0) := (blk_cell hbox 1).trans rfl; have hf_gn_1 := blk_frozen hbox 1; clear hbox))
  have hB : Below w5_.heap.size w5_ ((w6_.setCell ⟨gn, 0, none⟩ (.int .i64 n0)).setCell ⟨gn, 1, none⟩ (.int .i64 n1)) := (below_set (below_set hB1.out hG.out) hG.out)
  have hBN : ((w6_.setCell ⟨gn, 0, none⟩ (.int .i64 n0)).setCell ⟨gn, 1, none⟩ (.int .i64 n1)).heap[gn]? = some (.cells #[.int .i64 n0, .int .i64 n1] 51 (0, 0)) := (blk_put (cs := #[.int .i64 n0, .int .i64 0]) (blk_put (cs := #[.int .i64 0, .int .i64 0]) hBX.out 0 (.int .i64 n0) rfl) 1 (.int .i64 n1) rfl)
  clear hBX hB1
  clear hc_gn_0 hf_gn_0 hc_gn_1 hf_gn_1
  generalize ((w6_.setCell ⟨gn, 0, none⟩ (.int .i64 n0)).setCell ⟨gn, 1, none⟩ (.int .i64 n1)) = w7_ at hB hBN ⊢
  have NB_gn_gp := Aside0.mk (show gn ≠ gp from Nat.ne_of_gt (Nat.lt_of_lt_of_le (blk_lt (g := gp) (o := .cells #[.int .i64 t.f0, .int .i64 t.f1, .int .u32 x.f0, .bool x.f1, .int .i64 x.f2, .slice A_x x.f3.length c_x, .int .u8 kind, .slice A_l l.length c_l, .int .i64 n0, .int .i64 n1] 53 (0, 0)) BK_gp.out) hG.out))
  have NB_gp_gn := Aside0.mk (Ne.symm NB_gn_gp.out)
  have NB_gn_gt := Aside0.mk (show gn ≠ gt from Nat.ne_of_gt (Nat.lt_of_lt_of_le (blk_lt (g := gt) (o := .cells #[.int .i64 t.f0, .int .i64 t.f1] 23 (0, 0)) BK_gt.out) hG.out))
  have NB_gt_gn := Aside0.mk (Ne.symm NB_gn_gt.out)
  have NB_gn_gm := Aside0.mk (show gn ≠ gm from Nat.ne_of_gt (Nat.lt_of_lt_of_le (blk_lt (g := gm) (o := .cells #[.int .u32 x.f0, .bool x.f1, .int .i64 x.f2, .slice A_x x.f3.length c_x] 28 (0, 0)) BK_gm.out) hG.out))
  have NB_gm_gn := Aside0.mk (Ne.symm NB_gn_gm.out)
  have HBo := Aside0.mk HB.out
  have nHB := Aside0.mk (HB.out.trans (hB.mono HB.out.size))
  clear HB
  have HB := nHB
  clear nHB
  clear hc_gp_0 hf_gp_0 hc_gp_1 hf_gp_1 hc_gp_2 hf_gp_2 hc_gp_3 hf_gp_3 hc_gp_4 hf_gp_4 hc_gp_5 hf_gp_5 hc_gp_6 hf_gp_6 hc_gp_7 hf_gp_7 hc_gp_8 hf_gp_8 hc_gp_9 hf_gp_9
  have nBK := Aside0.mk (blk_below (g := gp) (o := .cells #[.int .i64 t.f0, .int .i64 t.f1, .int .u32 x.f0, .bool x.f1, .int .i64 x.f2, .slice A_x x.f3.length c_x, .int .u8 kind, .slice A_l l.length c_l, .int .i64 n0, .int .i64 n1] 53 (0, 0)) BK_gp.out hB)
  clear BK_gp
  have BK_gp := nBK
  clear nBK
  have hc_gp_0 : w7_.cell? ⟨gp, 0, none⟩ = some (.int .i64 t.f0) := (blk_cell BK_gp.out 0).trans rfl
  have hf_gp_0 := blk_frozen BK_gp.out 0
  have hc_gp_1 : w7_.cell? ⟨gp, 1, none⟩ = some (.int .i64 t.f1) := (blk_cell BK_gp.out 1).trans rfl
  have hf_gp_1 := blk_frozen BK_gp.out 1
  have hc_gp_2 : w7_.cell? ⟨gp, 2, none⟩ = some (.int .u32 x.f0) := (blk_cell BK_gp.out 2).trans rfl
  have hf_gp_2 := blk_frozen BK_gp.out 2
  have hc_gp_3 : w7_.cell? ⟨gp, 3, none⟩ = some (.bool x.f1) := (blk_cell BK_gp.out 3).trans rfl
  have hf_gp_3 := blk_frozen BK_gp.out 3
  have hc_gp_4 : w7_.cell? ⟨gp, 4, none⟩ = some (.int .i64 x.f2) := (blk_cell BK_gp.out 4).trans rfl
  have hf_gp_4 := blk_frozen BK_gp.out 4
  have hc_gp_5 : w7_.cell? ⟨gp, 5, none⟩ = some (.slice A_x x.f3.length c_x) := (blk_cell BK_gp.out 5).trans rfl
  have hf_gp_5 := blk_frozen BK_gp.out 5
  have hc_gp_6 : w7_.cell? ⟨gp, 6, none⟩ = some (.int .u8 kind) := (blk_cell BK_gp.out 6).trans rfl
  have hf_gp_6 := blk_frozen BK_gp.out 6
  have hc_gp_7 : w7_.cell? ⟨gp, 7, none⟩ = some (.slice A_l l.length c_l) := (blk_cell BK_gp.out 7).trans rfl
  have hf_gp_7 := blk_frozen BK_gp.out 7
  have hc_gp_8 : w7_.cell? ⟨gp, 8, none⟩ = some (.int .i64 n0) := (blk_cell BK_gp.out 8).trans rfl
  have hf_gp_8 := blk_frozen BK_gp.out 8
  have hc_gp_9 : w7_.cell? ⟨gp, 9, none⟩ = some (.int .i64 n1) := (blk_cell BK_gp.out 9).trans rfl
  have hf_gp_9 := blk_frozen BK_gp.out 9
  clear hc_gt_0 hf_gt_0 hc_gt_1 hf_gt_1
  have nBK := Aside0.mk (blk_below (g := gt) (o := .cells #[.int .i64 t.f0, .int .i64 t.f1] 23 (0, 0)) BK_gt.out hB)
  clear BK_gt
  have BK_gt := nBK
  clear nBK
  have hc_gt_0 : w7_.cell? ⟨gt, 0, none⟩ = some (.int .i64 t.f0) := (blk_cell BK_gt.out 0).trans rfl
  have hf_gt_0 := blk_frozen BK_gt.out 0
  have hc_gt_1 : w7_.cell? ⟨gt, 1, none⟩ = some (.int .i64 t.f1) := (blk_cell BK_gt.out 1).trans rfl
  have hf_gt_1 := blk_frozen BK_gt.out 1
  clear hc_gm_0 hf_gm_0 hc_gm_1 hf_gm_1 hc_gm_2 hf_gm_2 hc_gm_3 hf_gm_3
  have nBK := Aside0.mk (blk_below (g := gm) (o := .cells #[.int .u32 x.f0, .bool x.f1, .int .i64 x.f2, .slice A_x x.f3.length c_x] 28 (0, 0)) BK_gm.out hB)
  clear BK_gm
  have BK_gm := nBK
  clear nBK
  have hc_gm_0 : w7_.cell? ⟨gm, 0, none⟩ = some (.int .u32 x.f0) := (blk_cell BK_gm.out 0).trans rfl
  have hf_gm_0 := blk_frozen BK_gm.out 0
  have hc_gm_1 : w7_.cell? ⟨gm, 1, none⟩ = some (.bool x.f1) := (blk_cell BK_gm.out 1).trans rfl
  have hf_gm_1 := blk_frozen BK_gm.out 1
  have hc_gm_2 : w7_.cell? ⟨gm, 2, none⟩ = some (.int .i64 x.f2) := (blk_cell BK_gm.out 2).trans rfl
  have hf_gm_2 := blk_frozen BK_gm.out 2
  have hc_gm_3 : w7_.cell? ⟨gm, 3, none⟩ = some (.slice A_x x.f3.length c_x) := (blk_cell BK_gm.out 3).trans rfl
  have hf_gm_3 := blk_frozen BK_gm.out 3
  have BK_gn := Aside0.mk hBN
  have GE_gn := Aside0.mk (Nat.le_trans HBo.out.size hG.out)
  clear HBo hG hBN hB
  have hc_gn_0 : w7_.cell? ⟨gn, 0, none⟩ = some (.int .i64 n0) := (blk_cell BK_gn.out 0).trans rfl
  have hf_gn_0 := blk_frozen BK_gn.out 0
  have hc_gn_1 : w7_.cell? ⟨gn, 1, none⟩ = some (.int .i64 n1) := (blk_cell BK_gn.out 1).trans rfl
  have hf_gn_1 := blk_frozen BK_gn.out 1
  go_wp2_with (first | (go_at_call 9; with_reducible refine (shown_w _).mono ?_; rintro e w8_ ⟨rfl, hB⟩; have nHB := Aside0.mk (HB.out.trans (hB.mono HB.out.size)); clear HB; have HB := nHB; clear nHB; clear hc_gp_0 hf_gp_0 hc_gp_1 hf_gp_1 hc_gp_2 hf_gp_2 hc_gp_3 hf_gp_3 hc_gp_4 hf_gp_4 hc_gp_5 hf_gp_5 hc_gp_6 hf_gp_6 hc_gp_7 hf_gp_7 hc_gp_8 hf_gp_8 hc_gp_9 hf_gp_9; have nBK := Aside0.mk (blk_below (g := gp) (o := .cells #[.int .i64 t.f0, .int .i64 t.f1, .int .u32 x.f0, .bool x.f1, .int .i64 x.f2, .slice A_x x.f3.length c_x, .int .u8 kind, .slice A_l l.length c_l, .int .i64 n0, .int .i64 n1] 53 (0, 0)) BK_gp.out hB); clear BK_gp; have BK_gp := nBK; clear nBK; have hc_gp_0 : w8_.cell? ⟨gp, 0, none⟩ = some (.int .i64 t.f0) := (blk_cell BK_gp.out 0).trans rfl; have hf_gp_0 := blk_frozen BK_gp.out 0; have hc_gp_1 : w8_.cell? ⟨gp, 1, none⟩ = some (.int .i64 t.f1) := (blk_cell BK_gp.out 1).trans rfl; have hf_gp_1 := blk_frozen BK_gp.out 1; have hc_gp_2 : w8_.cell? ⟨gp, 2, none⟩ = some (.int .u32 x.f0) := (blk_cell BK_gp.out 2).trans rfl; have hf_gp_2 := blk_frozen BK_gp.out 2; have hc_gp_3 : w8_.cell? ⟨gp, 3, none⟩ = some (.bool x.f1) := (blk_cell BK_gp.out 3).trans rfl; have hf_gp_3 := blk_frozen BK_gp.out 3; have hc_gp_4 : w8_.cell? ⟨gp, 4, none⟩ = some (.int .i64 x.f2) := (blk_cell BK_gp.out 4).trans rfl; have hf_gp_4 := blk_frozen BK_gp.out 4; have hc_gp_5 : w8_.cell? ⟨gp, 5, none⟩ = some (.slice A_x x.f3.length c_x) := (blk_cell BK_gp.out 5).trans rfl; have hf_gp_5 := blk_frozen BK_gp.out 5; have hc_gp_6 : w8_.cell? ⟨gp, 6, none⟩ = some (.int .u8 kind) := (blk_cell BK_gp.out 6).trans rfl; have hf_gp_6 := blk_frozen BK_gp.out 6; have hc_gp_7 : w8_.cell? ⟨gp, 7, none⟩ = some (.slice A_l l.length c_l) := (blk_cell BK_gp.out 7).trans rfl; have hf_gp_7 := blk_frozen BK_gp.out 7; have hc_gp_8 : w8_.cell? ⟨gp, 8, none⟩ = some (.int .i64 n0) := (blk_cell BK_gp.out 8).trans rfl; have hf_gp_8 := blk_frozen BK_gp.out 8; have hc_gp_9 : w8_.cell? ⟨gp, 9, none⟩ = some (.int .i64 n1) := (blk_cell BK_gp.out 9).trans rfl; have hf_gp_9 := blk_frozen BK_gp.out 9; clear hc_gt_0 hf_gt_0 hc_gt_1 hf_gt_1; have nBK := Aside0.mk (blk_below (g := gt) (o := .cells #[.int .i64 t.f0, .int .i64 t.f1] 23 (0, 0)) BK_gt.out hB); clear BK_gt; have BK_gt := nBK; clear nBK; have hc_gt_0 : w8_.cell? ⟨gt, 0, none⟩ = some (.int .i64 t.f0) := (blk_cell BK_gt.out 0).trans rfl; have hf_gt_0 := blk_frozen BK_gt.out 0; have hc_gt_1 : w8_.cell? ⟨gt, 1, none⟩ = some (.int .i64 t.f1) := (blk_cell BK_gt.out 1).trans rfl; have hf_gt_1 := blk_frozen BK_gt.out 1; clear hc_gm_0 hf_gm_0 hc_gm_1 hf_gm_1 hc_gm_2 hf_gm_2 hc_gm_3 hf_gm_3; have nBK := Aside0.mk (blk_below (g := gm) (o := .cells #[.int .u32 x.f0, .bool x.f1, .int .i64 x.f2, .slice A_x x.f3.length c_x] 28 (0, 0)) BK_gm.out hB); clear BK_gm; have BK_gm := nBK; clear nBK; have hc_gm_0 : w8_.cell? ⟨gm, 0, none⟩ = some (.int .u32 x.f0) := (blk_cell BK_gm.out 0).trans rfl; have hf_gm_0 := blk_frozen BK_gm.out 0; have hc_gm_1 : w8_.cell? ⟨gm, 1, none⟩ = some (.bool x.f1) := (blk_cell BK_gm.out 1).trans rfl; have hf_gm_1 := blk_frozen BK_gm.out 1; have hc_gm_2 : w8_.cell? ⟨gm, 2, none⟩ = some (.int .i64 x.f2) := (blk_cell BK_gm.out 2).trans rfl; have hf_gm_2 := blk_frozen BK_gm.out 2; have hc_gm_3 : w8_.cell? ⟨gm, 3, none⟩ = some (.slice A_x x.f3.length c_x) := (blk_cell BK_gm.out 3).trans rfl; have hf_gm_3 := blk_frozen BK_gm.out 3; clear hc_gn_0 hf_gn_0 hc_gn_1 hf_gn_1; have nBK := Aside0.mk (blk_below (g := gn) (o := .cells #[.int .i64 n0, .int .i64 n1] 51 (0, 0)) BK_gn.out hB); clear BK_gn; have BK_gn := nBK; clear nBK; have hc_gn_0 : w8_.cell? ⟨gn, 0, none⟩ = some (.int .i64 n0) := (blk_cell BK_gn.out 0).trans rfl; have hf_gn_0 := blk_frozen BK_gn.out 0; have hc_gn_1 : w8_.cell? ⟨gn, 1, none⟩ = some (.int .i64 n1) := (blk_cell BK_gn.out 1).trans rfl; have hf_gn_1 := blk_frozen BK_gn.out 1; clear hB) | (go_at_call 10; with_reducible refine (mayR_w Xhm.out _).mono ?_; rintro e w9_ ⟨rfl, hB⟩; have nHB := Aside0.mk (HB.out.trans (hB.mono HB.out.size)); clear HB; have HB := nHB; clear nHB; clear hc_gp_0 hf_gp_0 hc_gp_1 hf_gp_1 hc_gp_2 hf_gp_2 hc_gp_3 hf_gp_3 hc_gp_4 hf_gp_4 hc_gp_5 hf_gp_5 hc_gp_6 hf_gp_6 hc_gp_7 hf_gp_7 hc_gp_8 hf_gp_8 hc_gp_9 hf_gp_9; have nBK := Aside0.mk (blk_below (g := gp) (o := .cells #[.int .i64 t.f0, .int .i64 t.f1, .int .u32 x.f0, .bool x.f1, .int .i64 x.f2, .slice A_x x.f3.length c_x, .int .u8 kind, .slice A_l l.length c_l, .int .i64 n0, .int .i64 n1] 53 (0, 0)) BK_gp.out hB); clear BK_gp; have BK_gp := nBK; clear nBK; have hc_gp_0 : w9_.cell? ⟨gp, 0, none⟩ = some (.int .i64 t.f0) := (blk_cell BK_gp.out 0).trans rfl; have hf_gp_0 := blk_frozen BK_gp.out 0; have hc_gp_1 : w9_.cell? ⟨gp, 1, none⟩ = some (.int .i64 t.f1) := (blk_cell BK_gp.out 1).trans rfl; have hf_gp_1 := blk_frozen BK_gp.out 1; have hc_gp_2 : w9_.cell? ⟨gp, 2, none⟩ = some (.int .u32 x.f0) := (blk_cell BK_gp.out 2).trans rfl; have hf_gp_2 := blk_frozen BK_gp.out 2; have hc_gp_3 : w9_.cell? ⟨gp, 3, none⟩ = some (.bool x.f1) := (blk_cell BK_gp.out 3).trans rfl; have hf_gp_3 := blk_frozen BK_gp.out 3; have hc_gp_4 : w9_.cell? ⟨gp, 4, none⟩ = some (.int .i64 x.f2) := (blk_cell BK_gp.out 4).trans rfl; have hf_gp_4 := blk_frozen BK_gp.out 4; have hc_gp_5 : w9_.cell? ⟨gp, 5, none⟩ = some (.slice A_x x.f3.length c_x) := (blk_cell BK_gp.out 5).trans rfl; have hf_gp_5 := blk_frozen BK_gp.out 5; have hc_gp_6 : w9_.cell? ⟨gp, 6, none⟩ = some (.int .u8 kind) := (blk_cell BK_gp.out 6).trans rfl; have hf_gp_6 := blk_frozen BK_gp.out 6; have hc_gp_7 : w9_.cell? ⟨gp, 7, none⟩ = some (.slice A_l l.length c_l) := (blk_cell BK_gp.out 7).trans rfl; have hf_gp_7 := blk_frozen BK_gp.out 7; have hc_gp_8 : w9_.cell? ⟨gp, 8, none⟩ = some (.int .i64 n0) := (blk_cell BK_gp.out 8).trans rfl; have hf_gp_8 := blk_frozen BK_gp.out 8; have hc_gp_9 : w9_.cell? ⟨gp, 9, none⟩ = some (.int .i64 n1) := (blk_cell BK_gp.out 9).trans rfl; have hf_gp_9 := blk_frozen BK_gp.out 9; clear hc_gt_0 hf_gt_0 hc_gt_1 hf_gt_1; have nBK := Aside0.mk (blk_below (g := gt) (o := .cells #[.int .i64 t.f0, .int .i64 t.f1] 23 (0, 0)) BK_gt.out hB); clear BK_gt; have BK_gt := nBK; clear nBK; have hc_gt_0 : w9_.cell? ⟨gt, 0, none⟩ = some (.int .i64 t.f0) := (blk_cell BK_gt.out 0).trans rfl; have hf_gt_0 := blk_frozen BK_gt.out 0; have hc_gt_1 : w9_.cell? ⟨gt, 1, none⟩ = some (.int .i64 t.f1) := (blk_cell BK_gt.out 1).trans rfl; have hf_gt_1 := blk_frozen BK_gt.out 1; clear hc_gm_0 hf_gm_0 hc_gm_1 hf_gm_1 hc_gm_2 hf_gm_2 hc_gm_3 hf_gm_3; have nBK := Aside0.mk (blk_below (g := gm) (o := .cells #[.int .u32 x.f0, .bool x.f1, .int .i64 x.f2, .slice A_x x.f3.length c_x] 28 (0, 0)) BK_gm.out hB); clear BK_gm; have BK_gm := nBK; clear nBK; have hc_gm_0 : w9_.cell? ⟨gm, 0, none⟩ = some (.int .u32 x.f0) := (blk_cell BK_gm.out 0).trans rfl; have hf_gm_0 := blk_frozen BK_gm.out 0; have hc_gm_1 : w9_.cell? ⟨gm, 1, none⟩ = some (.bool x.f1) := (blk_cell BK_gm.out 1).trans rfl; have hf_gm_1 := blk_frozen BK_gm.out 1; have hc_gm_2 : w9_.cell? ⟨gm, 2, none⟩ = some (.int .i64 x.f2) := (blk_cell BK_gm.out 2).trans rfl; have hf_gm_2 := blk_frozen BK_gm.out 2; have hc_gm_3 : w9_.cell? ⟨gm, 3, none⟩ = some (.slice A_x x.f3.length c_x) := (blk_cell BK_gm.out 3).trans rfl; have hf_gm_3 := blk_frozen BK_gm.out 3; clear hc_gn_0 hf_gn_0 hc_gn_1 hf_gn_1; have nBK := Aside0.mk (blk_below (g := gn) (o := .cells #[.int .i64 n0, .int .i64 n1] 51 (0, 0)) BK_gn.out hB); clear BK_gn; have BK_gn := nBK; clear nBK; have hc_gn_0 : w9_.cell? ⟨gn, 0, none⟩ = some (.int .i64 n0) := (blk_cell BK_gn.out 0).trans rfl; have hf_gn_0 := blk_frozen BK_gn.out 0; have hc_gn_1 : w9_.cell? ⟨gn, 1, none⟩ = some (.int .i64 n1) := (blk_cell BK_gn.out 1).trans rfl; have hf_gn_1 := blk_frozen BK_gn.out 1; clear hB) | (go_at_call 11; with_reducible refine (right_w (b := true) (by simp [Xhx.out]) _ _ _ (Kd.C_below HC_x.out HB.out) HK_x.out).mono ?_; rintro e w10_ ⟨rfl, hB⟩; have nHB := Aside0.mk (HB.out.trans (hB.mono HB.out.size)); clear HB; have HB := nHB; clear nHB; clear hc_gp_0 hf_gp_0 hc_gp_1 hf_gp_1 hc_gp_2 hf_gp_2 hc_gp_3 hf_gp_3 hc_gp_4 hf_gp_4 hc_gp_5 hf_gp_5 hc_gp_6 hf_gp_6 hc_gp_7 hf_gp_7 hc_gp_8 hf_gp_8 hc_gp_9 hf_gp_9; have nBK := Aside0.mk (blk_below (g := gp) (o := .cells #[.int .i64 t.f0, .int .i64 t.f1, .int .u32 x.f0, .bool x.f1, .int .i64 x.f2, .slice A_x x.f3.length c_x, .int .u8 kind, .slice A_l l.length c_l, .int .i64 n0, .int .i64 n1] 53 (0, 0)) BK_gp.out hB); clear BK_gp; have BK_gp := nBK; clear nBK; have hc_gp_0 : w10_.cell? ⟨gp, 0, none⟩ = some (.int .i64 t.f0) := (blk_cell BK_gp.out 0).trans rfl; have hf_gp_0 := blk_frozen BK_gp.out 0; have hc_gp_1 : w10_.cell? ⟨gp, 1, none⟩ = some (.int .i64 t.f1) := (blk_cell BK_gp.out 1).trans rfl; have hf_gp_1 := blk_frozen BK_gp.out 1; have hc_gp_2 : w10_.cell? ⟨gp, 2, none⟩ = some (.int .u32 x.f0) := (blk_cell BK_gp.out 2).trans rfl; have hf_gp_2 := blk_frozen BK_gp.out 2; have hc_gp_3 : w10_.cell? ⟨gp, 3, none⟩ = some (.bool x.f1) := (blk_cell BK_gp.out 3).trans rfl; have hf_gp_3 := blk_frozen BK_gp.out 3; have hc_gp_4 : w10_.cell? ⟨gp, 4, none⟩ = some (.int .i64 x.f2) := (blk_cell BK_gp.out 4).trans rfl; have hf_gp_4 := blk_frozen BK_gp.out 4; have hc_gp_5 : w10_.cell? ⟨gp, 5, none⟩ = some (.slice A_x x.f3.length c_x) := (blk_cell BK_gp.out 5).trans rfl; have hf_gp_5 := blk_frozen BK_gp.out 5; have hc_gp_6 : w10_.cell? ⟨gp, 6, none⟩ = some (.int .u8 kind) := (blk_cell BK_gp.out 6).trans rfl; have hf_gp_6 := blk_frozen BK_gp.out 6; have hc_gp_7 : w10_.cell? ⟨gp, 7, none⟩ = some (.slice A_l l.length c_l) := (blk_cell BK_gp.out 7).trans rfl; have hf_gp_7 := blk_frozen BK_gp.out 7; have hc_gp_8 : w10_.cell? ⟨gp, 8, none⟩ = some (.int .i64 n0) := (blk_cell BK_gp.out 8).trans rfl; have hf_gp_8 := blk_frozen BK_gp.out 8; have hc_gp_9 : w10_.cell? ⟨gp, 9, none⟩ = some (.int .i64 n1) := (blk_cell BK_gp.out 9).trans rfl; have hf_gp_9 := blk_frozen BK_gp.out 9; clear hc_gt_0 hf_gt_0 hc_gt_1 hf_gt_1; have nBK := Aside0.mk (blk_below (g := gt) (o := .cells #[.int .i64 t.f0, .int .i64 t.f1] 23 (0, 0)) BK_gt.out hB); clear BK_gt; have BK_gt := nBK; clear nBK; have hc_gt_0 : w10_.cell? ⟨gt, 0, none⟩ = some (.int .i64 t.f0) := (blk_cell BK_gt.out 0).trans rfl; have hf_gt_0 := blk_frozen BK_gt.out 0; have hc_gt_1 : w10_.cell? ⟨gt, 1, none⟩ = some (.int .i64 t.f1) := (blk_cell BK_gt.out 1).trans rfl; have hf_gt_1 := blk_frozen BK_gt.out 1; clear hc_gm_0 hf_gm_0 hc_gm_1 hf_gm_1 hc_gm_2 hf_gm_2 hc_gm_3 hf_gm_3; have nBK := Aside0.mk (blk_below (g := gm) (o := .cells #[.int .u32 x.f0, .bool x.f1, .int .i64 x.f2, .slice A_x x.f3.length c_x] 28 (0, 0)) BK_gm.out hB); clear BK_gm; have BK_gm := nBK; clear nBK; have hc_gm_0 : w10_.cell? ⟨gm, 0, none⟩ = some (.int .u32 x.f0) := (blk_cell BK_gm.out 0).trans rfl; have hf_gm_0 := blk_frozen BK_gm.out 0; have hc_gm_1 : w10_.cell? ⟨gm, 1, none⟩ = some (.bool x.f1) := (blk_cell BK_gm.out 1).trans rfl; have hf_gm_1 := blk_frozen BK_gm.out 1; have hc_gm_2 : w10_.cell? ⟨gm, 2, none⟩ = some (.int .i64 x.f2) := (blk_cell BK_gm.out 2).trans rfl; have hf_gm_2 := blk_frozen BK_gm.out 2; have hc_gm_3 : w10_.cell? ⟨gm, 3, none⟩ = some (.slice A_x x.f3.length c_x) := (blk_cell BK_gm.out 3).trans rfl; have hf_gm_3 := blk_frozen BK_gm.out 3; clear hc_gn_0 hf_gn_0 hc_gn_1 hf_gn_1; have nBK := Aside0.mk (blk_below (g := gn) (o := .cells #[.int .i64 n0, .int .i64 n1] 51 (0, 0)) BK_gn.out hB); clear BK_gn; have BK_gn := nBK; clear nBK; have hc_gn_0 : w10_.cell? ⟨gn, 0, none⟩ = some (.int .i64 n0) := (blk_cell BK_gn.out 0).trans rfl; have hf_gn_0 := blk_frozen BK_gn.out 0; have hc_gn_1 : w10_.cell? ⟨gn, 1, none⟩ = some (.int .i64 n1) := (blk_cell BK_gn.out 1).trans rfl; have hf_gn_1 := blk_frozen BK_gn.out 1; clear hB))
  go_ret
  exact ⟨rfl, HB.out⟩
end Go.Proofs.Ytbllchfgjginoaa
