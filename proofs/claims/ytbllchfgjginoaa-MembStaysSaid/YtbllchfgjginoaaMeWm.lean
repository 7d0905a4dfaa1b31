/-
  MembStays, walked: the main way.
-/
import Derived.Test.YtbllchfgjginoaaMeWs
namespace Go.Proofs.Ytbllchfgjginoaa
open Go.RowKit Go.Lib Go.Proofs.YtbllchfgjginoaaW.PrintWords Go.Proofs.YtbllchfgjginoaaW.PrintLast Go.Proofs.YtbllchfgjginoaaW.PrintMore Go.Proofs.Ytbllchfgjginoaa.PMe
set_option linter.unusedVariables false
set_option linter.unusedSimpArgs false
set_option maxHeartbeats 8000000 in
set_option maxRecDepth 100000 in
theorem mstays_main {t : S23} {x : S28} {kind : Int} {l : List Int} {n0 n1 : Int} (hm : mayB t = true) (hx : MOk x) (h1 : ¬ (200 : Int) < (l.length : Int)) (h2 : ¬ n0 < 0) (h3 : ¬ n1 < 0) (h4 : ¬ 1000000000 < n0) (h5 : ¬ 1000000000 < n1) {r : S28} {asks : List S46} {err : Int} (hh : hearR t x kind l = (r, asks, err)) {n : Nat} (hn : asks.length = n) (hrr : MOk r) {ra rb : S28} (ha : tickM r n0 = ra) (hb : tickM ra n1 = rb) (hra : MOk ra) (hrb : MOk rb) (hcc : tickM r (n0 + n1) = rb) (hd : tickM x 0 = x) (A_x : Option Addr) (c_x : Nat) (A_l : Option Addr) (c_l : Nat) (w : World) (hr : Kd.C k49 w A_x x.f3.length x.f3) (hc : x.f3.length ≤ c_x) (hs : Kd.C (Kd.int .u32) w A_l l.length l) (hcs : l.length ≤ c_l) :
    Calls Try.prog 5 #[.agg #[.int .i64 t.f0, .int .i64 t.f1, .int .u32 x.f0, .bool x.f1, .int .i64 x.f2, .slice A_x x.f3.length c_x, .int .u8 kind, .slice A_l l.length c_l, .int .i64 n0, .int .i64 n1]] w (fun e w' => e = .returned (.bool true) ∧ Below w.heap.size w w') := by
  have hu23 := Try.underlying23
  have hu28 := Try.underlying28
  have hu51 := Try.underlying51
  have hu53 := Try.underlying53
  have HB := Aside0.mk (Below.refl w.heap.size w)
  have HC_x := Aside0.mk hr
  have HK_x := Aside0.mk hc
  have HC_l := Aside0.mk hs
  have HK_l := Aside0.mk hcs
  clear hr hc hs hcs
  have Xhm := Aside0.mk hm
  have Xhx := Aside0.mk hx
  have Xhh := Aside0.mk hh
  have Xhn := Aside0.mk hn
  have Xhrr := Aside0.mk hrr
  have Xha := Aside0.mk ha
  have Xhb := Aside0.mk hb
  have Xhra := Aside0.mk hra
  have Xhrb := Aside0.mk hrb
  have Xhcc := Aside0.mk hcc
  have Xhd := Aside0.mk hd
  clear hm hx hh hn hrr ha hb hra hrb hcc hd
  go_enter Try.func5, Try.ntmps5
  go_upto_region 2 with (first | ((with_reducible refine gate_dst (N := 1) rfl ?_); (try (refine gate_guard (by rfl) ?_; dsimp only)); refine box_event ?hg (N := 1) ?hd (cs := #[.int .i64 t.f0, .int .i64 t.f1, .int .u32 x.f0, .bool x.f1, .int .i64 x.f2, .slice A_x x.f3.length c_x, .int .u8 kind, .slice A_l l.length c_l, .int .i64 n0, .int .i64 n1]) (t := 53) ?hr ?_; (case hd => rfl); (case hg => rfl); (case hr => first | (go_simp; done) | (go_simp; rfl)); intro gp hg w1_ hbox hB; have HBo := Aside0.mk HB.out; have nHB := Aside0.mk (HB.out.trans (hB.mono HB.out.size)); clear HB; have HB := nHB; clear nHB; have BK_gp := Aside0.mk hbox; have GE_gp := Aside0.mk (show w.heap.size ≤ gp by rw [hg]; exact HBo.out.size); clear hg hbox hB; have hc_gp_0 : w1_.cell? ⟨gp, 0, none⟩ = some (.int .i64 t.f0) := (blk_cell BK_gp.out 0).trans rfl; have hf_gp_0 := blk_frozen BK_gp.out 0; have hc_gp_1 : w1_.cell? ⟨gp, 1, none⟩ = some (.int .i64 t.f1) := (blk_cell BK_gp.out 1).trans rfl; have hf_gp_1 := blk_frozen BK_gp.out 1; have hc_gp_2 : w1_.cell? ⟨gp, 2, none⟩ = some (.int .u32 x.f0) := (blk_cell BK_gp.out 2).trans rfl; have hf_gp_2 := blk_frozen BK_gp.out 2; have hc_gp_3 : w1_.cell? ⟨gp, 3, none⟩ = some (.bool x.f1) := (blk_cell BK_gp.out 3).trans rfl; have hf_gp_3 := blk_frozen BK_gp.out 3; have hc_gp_4 : w1_.cell? ⟨gp, 4, none⟩ = some (.int .i64 x.f2) := (blk_cell BK_gp.out 4).trans rfl; have hf_gp_4 := blk_frozen BK_gp.out 4; have hc_gp_5 : w1_.cell? ⟨gp, 5, none⟩ = some (.slice A_x x.f3.length c_x) := (blk_cell BK_gp.out 5).trans rfl; have hf_gp_5 := blk_frozen BK_gp.out 5; have hc_gp_6 : w1_.cell? ⟨gp, 6, none⟩ = some (.int .u8 kind) := (blk_cell BK_gp.out 6).trans rfl; have hf_gp_6 := blk_frozen BK_gp.out 6; have hc_gp_7 : w1_.cell? ⟨gp, 7, none⟩ = some (.slice A_l l.length c_l) := (blk_cell BK_gp.out 7).trans rfl; have hf_gp_7 := blk_frozen BK_gp.out 7; have hc_gp_8 : w1_.cell? ⟨gp, 8, none⟩ = some (.int .i64 n0) := (blk_cell BK_gp.out 8).trans rfl; have hf_gp_8 := blk_frozen BK_gp.out 8; have hc_gp_9 : w1_.cell? ⟨gp, 9, none⟩ = some (.int .i64 n1) := (blk_cell BK_gp.out 9).trans rfl; have hf_gp_9 := blk_frozen BK_gp.out 9; clear HBo) | ((with_reducible refine gate_dst (N := 3) rfl ?_); (try (refine gate_guard (by rfl) ?_; dsimp only)); refine box_event ?hg (N := 3) ?hd (cs := #[.int .i64 0, .int .i64 0]) (t := 23) ?hr ?_; (case hd => rfl); (case hg => rfl); (case hr => first | (go_simp; done) | (go_simp; rfl)); intro gt hg w2_ hbox hB0; have hG := Aside0.mk (show w1_.heap.size ≤ gt from Nat.le_of_eq hg.symm); clear hg; have hBX := Aside0.mk hbox; have hB1 := Aside0.mk hB0; clear hB0; have hc_gt_0 : w2_.cell? ⟨gt, 0, none⟩ = some (.int .i64 0) := (blk_cell hbox 0).trans rfl; have hf_gt_0 := blk_frozen hbox 0; have hc_gt_1 : w2_.cell? ⟨gt, 1, none⟩ = some (.int .i64 0) := (blk_cell hbox 1).trans rfl; have hf_gt_1 := blk_frozen hbox 1; clear hbox))
  have hB : Below w1_.heap.size w1_ ((w2_.setCell ⟨gt, 0, none⟩ (.int .i64 t.f0)).setCell ⟨gt, 1, none⟩ (.int .i64 t.f1)) := (below_set (below_set hB1.out hG.out) hG.out)
  have hBN : ((w2_.setCell ⟨gt, 0, none⟩ (.int .i64 t.f0)).setCell ⟨gt, 1, none⟩ (.int .i64 t.f1)).heap[gt]? = some (.cells #[.int .i64 t.f0, .int .i64 t.f1] 23 (0, 0)) := (blk_put (cs := #[.int .i64 t.f0, .int .i64 0]) (blk_put (cs := #[.int .i64 0, .int .i64 0]) hBX.out 0 (.int .i64 t.f0) rfl) 1 (.int .i64 t.f1) rfl)
  clear hBX hB1
  clear hc_gt_0 hf_gt_0 hc_gt_1 hf_gt_1
  generalize ((w2_.setCell ⟨gt, 0, none⟩ (.int .i64 t.f0)).setCell ⟨gt, 1, none⟩ (.int .i64 t.f1)) = w3_ at hB hBN ⊢
  have NB_gt_gp := Aside0.mk (show gt ≠ gp from Nat.ne_of_gt (Nat.lt_of_lt_of_le (blk_lt (g := gp) (o := .cells #[.int .i64 t.f0, .int .i64 t.f1, .int .u32 x.f0, .bool x.f1, .int .i64 x.f2, .slice A_x x.f3.length c_x, .int .u8 kind, .slice A_l l.length c_l, .int .i64 n0, .int .i64 n1] 53 (0, 0)) BK_gp.out) hG.out))
  have NB_gp_gt := Aside0.mk (Ne.symm NB_gt_gp.out)
  have HBo := Aside0.mk HB.out
  have nHB := Aside0.mk (HB.out.trans (hB.mono HB.out.size))
  clear HB
  have HB := nHB
  clear nHB
  clear hc_gp_0 hf_gp_0 hc_gp_1 hf_gp_1 hc_gp_2 hf_gp_2 hc_gp_3 hf_gp_3 hc_gp_4 hf_gp_4 hc_gp_5 hf_gp_5 hc_gp_6 hf_gp_6 hc_gp_7 hf_gp_7 hc_gp_8 hf_gp_8 hc_gp_9 hf_gp_9
  have nBK := Aside0.mk (blk_below (g := gp) (o := .cells #[.int .i64 t.f0, .int .i64 t.f1, .int .u32 x.f0, .bool x.f1, .int .i64 x.f2, .slice A_x x.f3.length c_x, .int .u8 kind, .slice A_l l.length c_l, .int .i64 n0, .int .i64 n1] 53 (0, 0)) BK_gp.out hB)
  clear BK_gp
  have BK_gp := nBK
  clear nBK
  have hc_gp_0 : w3_.cell? ⟨gp, 0, none⟩ = some (.int .i64 t.f0) := (blk_cell BK_gp.out 0).trans rfl
  have hf_gp_0 := blk_frozen BK_gp.out 0
  have hc_gp_1 : w3_.cell? ⟨gp, 1, none⟩ = some (.int .i64 t.f1) := (blk_cell BK_gp.out 1).trans rfl
  have hf_gp_1 := blk_frozen BK_gp.out 1
  have hc_gp_2 : w3_.cell? ⟨gp, 2, none⟩ = some (.int .u32 x.f0) := (blk_cell BK_gp.out 2).trans rfl
  have hf_gp_2 := blk_frozen BK_gp.out 2
  have hc_gp_3 : w3_.cell? ⟨gp, 3, none⟩ = some (.bool x.f1) := (blk_cell BK_gp.out 3).trans rfl
  have hf_gp_3 := blk_frozen BK_gp.out 3
  have hc_gp_4 : w3_.cell? ⟨gp, 4, none⟩ = some (.int .i64 x.f2) := (blk_cell BK_gp.out 4).trans rfl
  have hf_gp_4 := blk_frozen BK_gp.out 4
  have hc_gp_5 : w3_.cell? ⟨gp, 5, none⟩ = some (.slice A_x x.f3.length c_x) := (blk_cell BK_gp.out 5).trans rfl
  have hf_gp_5 := blk_frozen BK_gp.out 5
  have hc_gp_6 : w3_.cell? ⟨gp, 6, none⟩ = some (.int .u8 kind) := (blk_cell BK_gp.out 6).trans rfl
  have hf_gp_6 := blk_frozen BK_gp.out 6
  have hc_gp_7 : w3_.cell? ⟨gp, 7, none⟩ = some (.slice A_l l.length c_l) := (blk_cell BK_gp.out 7).trans rfl
  have hf_gp_7 := blk_frozen BK_gp.out 7
  have hc_gp_8 : w3_.cell? ⟨gp, 8, none⟩ = some (.int .i64 n0) := (blk_cell BK_gp.out 8).trans rfl
  have hf_gp_8 := blk_frozen BK_gp.out 8
  have hc_gp_9 : w3_.cell? ⟨gp, 9, none⟩ = some (.int .i64 n1) := (blk_cell BK_gp.out 9).trans rfl
  have hf_gp_9 := blk_frozen BK_gp.out 9
  have BK_gt := Aside0.mk hBN
  have GE_gt := Aside0.mk (Nat.le_trans HBo.out.size hG.out)
  clear HBo hG hBN hB
  have hc_gt_0 : w3_.cell? ⟨gt, 0, none⟩ = some (.int .i64 t.f0) := (blk_cell BK_gt.out 0).trans rfl
  have hf_gt_0 := blk_frozen BK_gt.out 0
  have hc_gt_1 : w3_.cell? ⟨gt, 1, none⟩ = some (.int .i64 t.f1) := (blk_cell BK_gt.out 1).trans rfl
  have hf_gt_1 := blk_frozen BK_gt.out 1
  go_upto_region 3 with (first | ((with_reducible refine gate_dst (N := 4) rfl ?_); (try (refine gate_guard (by rfl) ?_; dsimp only)); refine box_event ?hg (N := 4) ?hd (cs := #[.int .u32 0, .bool false, .int .i64 0, .slice none 0 0]) (t := 28) ?hr ?_; (case hd => rfl); (case hg => rfl); (case hr => first | (go_simp; done) | (go_simp; rfl)); intro gm hg w4_ hbox hB0; have hG := Aside0.mk (show w3_.heap.size ≤ gm from Nat.le_of_eq hg.symm); clear hg; have hBX := Aside0.mk hbox; have hB1 := Aside0.mk hB0; clear hB0; have hc_gm_0 : w4_.cell? ⟨gm, 0, none⟩ = some (.int .u32 0) := (blk_cell hbox 0).trans rfl; have hf_gm_0 := blk_frozen hbox 0; have hc_gm_1 : w4_.cell? ⟨gm, 1, none⟩ = some (.bool false) := (blk_cell hbox 1).trans rfl; have hf_gm_1 := blk_frozen hbox 1; have hc_gm_2 : w4_.cell? ⟨gm, 2, none⟩ = some (.int .i64 0) := (blk_cell hbox 2).trans rfl; have hf_gm_2 := blk_frozen hbox 2; have hc_gm_3 : w4_.cell? ⟨gm, 3, none⟩ = some (.slice none 0 0) := (blk_cell hbox 3).trans rfl; have hf_gm_3 := blk_frozen hbox 3; clear hbox))
  have hB : Below w3_.heap.size w3_ ((((w4_.setCell ⟨gm, 0, none⟩ (.int .u32 x.f0)).setCell ⟨gm, 1, none⟩ (.bool x.f1)).setCell ⟨gm, 2, none⟩ (.int .i64 x.f2)).setCell ⟨gm, 3, none⟩ (.slice A_x x.f3.length c_x)) := (below_set (below_set (below_set (below_set hB1.out hG.out) hG.out) hG.out) hG.out)
  have hBN : ((((w4_.setCell ⟨gm, 0, none⟩ (.int .u32 x.f0)).setCell ⟨gm, 1, none⟩ (.bool x.f1)).setCell ⟨gm, 2, none⟩ (.int .i64 x.f2)).setCell ⟨gm, 3, none⟩ (.slice A_x x.f3.length c_x)).heap[gm]? = some (.cells #[.int .u32 x.f0, .bool x.f1, .int .i64 x.f2, .slice A_x x.f3.length c_x] 28 (0, 0)) := (blk_put (cs := #[.int .u32 x.f0, .bool x.f1, .int .i64 x.f2, .slice none 0 0]) (blk_put (cs := #[.int .u32 x.f0, .bool x.f1, .int .i64 0, .slice none 0 0]) (blk_put (cs := #[.int .u32 x.f0, .bool false, .int .i64 0, .slice none 0 0]) (blk_put (cs := #[.int .u32 0, .bool false, .int .i64 0, .slice none 0 0]) hBX.out 0 (.int .u32 x.f0) rfl) 1 (.bool x.f1) rfl) 2 (.int .i64 x.f2) rfl) 3 (.slice A_x x.f3.length c_x) rfl)
  clear hBX hB1
  clear hc_gm_0 hf_gm_0 hc_gm_1 hf_gm_1 hc_gm_2 hf_gm_2 hc_gm_3 hf_gm_3
  generalize ((((w4_.setCell ⟨gm, 0, none⟩ (.int .u32 x.f0)).setCell ⟨gm, 1, none⟩ (.bool x.f1)).setCell ⟨gm, 2, none⟩ (.int .i64 x.f2)).setCell ⟨gm, 3, none⟩ (.slice A_x x.f3.length c_x)) = w5_ at hB hBN ⊢
  have NB_gm_gp := Aside0.mk (show gm ≠ gp from Nat.ne_of_gt (Nat.lt_of_lt_of_le (blk_lt (g := gp) (o := .cells #[.int .i64 t.f0, .int .i64 t.f1, .int .u32 x.f0, .bool x.f1, .int .i64 x.f2, .slice A_x x.f3.length c_x, .int .u8 kind, .slice A_l l.length c_l, .int .i64 n0, .int .i64 n1] 53 (0, 0)) BK_gp.out) hG.out))
  have NB_gp_gm := Aside0.mk (Ne.symm NB_gm_gp.out)
  have NB_gm_gt := Aside0.mk (show gm ≠ gt from Nat.ne_of_gt (Nat.lt_of_lt_of_le (blk_lt (g := gt) (o := .cells #[.int .i64 t.f0, .int .i64 t.f1] 23 (0, 0)) BK_gt.out) hG.out))
  have NB_gt_gm := Aside0.mk (Ne.symm NB_gm_gt.out)
  have HBo := Aside0.mk HB.out
  have nHB := Aside0.mk (HB.out.trans (hB.mono HB.out.size))
  clear HB
  have HB := nHB
  clear nHB
  clear hc_gp_0 hf_gp_0 hc_gp_1 hf_gp_1 hc_gp_2 hf_gp_2 hc_gp_3 hf_gp_3 hc_gp_4 hf_gp_4 hc_gp_5 hf_gp_5 hc_gp_6 hf_gp_6 hc_gp_7 hf_gp_7 hc_gp_8 hf_gp_8 hc_gp_9 hf_gp_9
  have nBK := Aside0.mk (blk_below (g := gp) (o := .cells #[.int .i64 t.f0, .int .i64 t.f1, .int .u32 x.f0, .bool x.f1, .int .i64 x.f2, .slice A_x x.f3.length c_x, .int .u8 kind, .slice A_l l.length c_l, .int .i64 n0, .int .i64 n1] 53 (0, 0)) BK_gp.out hB)
  clear BK_gp
  have BK_gp := nBK
  clear nBK
  have hc_gp_0 : w5_.cell? ⟨gp, 0, none⟩ = some (.int .i64 t.f0) := (blk_cell BK_gp.out 0).trans rfl
  have hf_gp_0 := blk_frozen BK_gp.out 0
  have hc_gp_1 : w5_.cell? ⟨gp, 1, none⟩ = some (.int .i64 t.f1) := (blk_cell BK_gp.out 1).trans rfl
  have hf_gp_1 := blk_frozen BK_gp.out 1
  have hc_gp_2 : w5_.cell? ⟨gp, 2, none⟩ = some (.int .u32 x.f0) := (blk_cell BK_gp.out 2).trans rfl
  have hf_gp_2 := blk_frozen BK_gp.out 2
  have hc_gp_3 : w5_.cell? ⟨gp, 3, none⟩ = some (.bool x.f1) := (blk_cell BK_gp.out 3).trans rfl
  have hf_gp_3 := blk_frozen BK_gp.out 3
  have hc_gp_4 : w5_.cell? ⟨gp, 4, none⟩ = some (.int .i64 x.f2) := (blk_cell BK_gp.out 4).trans rfl
  have hf_gp_4 := blk_frozen BK_gp.out 4
  have hc_gp_5 : w5_.cell? ⟨gp, 5, none⟩ = some (.slice A_x x.f3.length c_x) := (blk_cell BK_gp.out 5).trans rfl
  have hf_gp_5 := blk_frozen BK_gp.out 5
  have hc_gp_6 : w5_.cell? ⟨gp, 6, none⟩ = some (.int .u8 kind) := (blk_cell BK_gp.out 6).trans rfl
  have hf_gp_6 := blk_frozen BK_gp.out 6
  have hc_gp_7 : w5_.cell? ⟨gp, 7, none⟩ = some (.slice A_l l.length c_l) := (blk_cell BK_gp.out 7).trans rfl
  have hf_gp_7 := blk_frozen BK_gp.out 7
  have hc_gp_8 : w5_.cell? ⟨gp, 8, none⟩ = some (.int .i64 n0) := (blk_cell BK_gp.out 8).trans rfl
  have hf_gp_8 := blk_frozen BK_gp.out 8
  have hc_gp_9 : w5_.cell? ⟨gp, 9, none⟩ = some (.int .i64 n1) := (blk_cell BK_gp.out 9).trans rfl
  have hf_gp_9 := blk_frozen BK_gp.out 9
  clear hc_gt_0 hf_gt_0 hc_gt_1 hf_gt_1
  have nBK := Aside0.mk (blk_below (g := gt) (o := .cells #[.int .i64 t.f0, .int .i64 t.f1] 23 (0, 0)) BK_gt.out hB)
  clear BK_gt
  have BK_gt := nBK
  clear nBK
  have hc_gt_0 : w5_.cell? ⟨gt, 0, none⟩ = some (.int .i64 t.f0) := (blk_cell BK_gt.out 0).trans rfl
  have hf_gt_0 := blk_frozen BK_gt.out 0
  have hc_gt_1 : w5_.cell? ⟨gt, 1, none⟩ = some (.int .i64 t.f1) := (blk_cell BK_gt.out 1).trans rfl
  have hf_gt_1 := blk_frozen BK_gt.out 1
  have BK_gm := Aside0.mk hBN
  have GE_gm := Aside0.mk (Nat.le_trans HBo.out.size hG.out)
  clear HBo hG hBN hB
  have hc_gm_0 : w5_.cell? ⟨gm, 0, none⟩ = some (.int .u32 x.f0) := (blk_cell BK_gm.out 0).trans rfl
  have hf_gm_0 := blk_frozen BK_gm.out 0
  have hc_gm_1 : w5_.cell? ⟨gm, 1, none⟩ = some (.bool x.f1) := (blk_cell BK_gm.out 1).trans rfl
  have hf_gm_1 := blk_frozen BK_gm.out 1
  have hc_gm_2 : w5_.cell? ⟨gm, 2, none⟩ = some (.int .i64 x.f2) := (blk_cell BK_gm.out 2).trans rfl
  have hf_gm_2 := blk_frozen BK_gm.out 2
  have hc_gm_3 : w5_.cell? ⟨gm, 3, none⟩ = some (.slice A_x x.f3.length c_x) := (blk_cell BK_gm.out 3).trans rfl
  have hf_gm_3 := blk_frozen BK_gm.out 3
  go_upto_region 6 with (first | ((with_reducible refine gate_dst (N := 7) rfl ?_); (try (refine gate_guard (by rfl) ?_; dsimp only)); refine box_event ?hg (N := 7) ?hd (cs := #[.int .i64 0, .int .i64 0]) (t := 51) ?hr ?_; (case hd => rfl); (case hg => rfl); (case hr => first | (go_simp; done) | (go_simp; rfl)); intro gn hg w6_ hbox hB0; have hG := Aside0.mk (show w5_.heap.size ≤ gn from Nat.le_of_eq hg.symm); clear hg; have hBX := Aside0.mk hbox; have hB1 := Aside0.mk hB0; clear hB0; have hc_gn_0 : w6_.cell? ⟨gn, 0, none⟩ = some (.int .i64 0) := (blk_cell hbox 0).trans rfl; have hf_gn_0 := blk_frozen hbox 0; have hc_gn_1 : w6_.cell? ⟨gn, 1, none⟩ = some (.int .i64 0) := (blk_cell hbox 1).trans rfl; have hf_gn_1 := blk_frozen hbox 1; clear hbox))
  have hB : Below w5_.heap.size w5_ ((w6_.setCell ⟨gn, 0, none⟩ (.int .i64 n0)).setCell ⟨gn, 1, none⟩ (.int .i64 n1)) := (below_set (below_set hB1.out hG.out) hG.out)
  have hBN : ((w6_.setCell ⟨gn, 0, none⟩ (.int .i64 n0)).setCell ⟨gn, 1, none⟩ (.int .i64 n1)).heap[gn]? = some (.cells #[.int .i64 n0, .int .i64 n1] 51 (0, 0)) := (blk_put (cs := #[.int .i64 n0, .int .i64 0]) (blk_put (cs := #[.int .i64 0, .int .i64 0]) hBX.out 0 (.int .i64 n0) rfl) 1 (.int .i64 n1) rfl)
  clear hBX hB1
  clear hc_gn_0 hf_gn_0 hc_gn_1 hf_gn_1
  generalize ((w6_.setCell ⟨gn, 0, none⟩ (.int .i64 n0)).setCell ⟨gn, 1, none⟩ (.int .i64 n1)) = w7_ at hB hBN ⊢
  have NB_gn_gp := Aside0.mk (show gn ≠ gp from Nat.ne_of_gt (Nat.lt_of_lt_of_le (blk_lt (g := gp) (o := .cells #[.int .i64 t.f0, .int .i64 t.f1, .int .u32 x.f0, .bool x.f1, .int .i64 x.f2, .slice A_x x.f3.length c_x, .int .u8 kind, .slice A_l l.length c_l, .int .i64 n0, .int .i64 n1] 53 (0, 0)) BK_gp.out) hG.out))
  have NB_gp_gn := Aside0.mk (Ne.symm NB_gn_gp.out)
  have NB_gn_gt := Aside0.mk (show gn ≠ gt from Nat.ne_of_gt (Nat.lt_of_lt_of_le (blk_lt (g := gt) (o := .cells #[.int .i64 t.f0, .int .i64 t.f1] 23 (0, 0)) BK_gt.out) hG.out))
  have NB_gt_gn := Aside0.mk (Ne.symm NB_gn_gt.out)
  have NB_gn_gm := Aside0.mk (show gn ≠ gm from Nat.ne_of_gt (Nat.lt_of_lt_of_le (blk_lt (g := gm) (o := .cells #[.int .u32 x.f0, .bool x.f1, .int .i64 x.f2, .slice A_x x.f3.length c_x] 28 (0, 0)) BK_gm.out) hG.out))
  have NB_gm_gn := Aside0.mk (Ne.symm NB_gn_gm.out)
  have HBo := Aside0.mk HB.out
  have nHB := Aside0.mk (HB.out.trans (hB.mono HB.out.size))
  clear HB
  have HB := nHB
  clear nHB
  clear hc_gp_0 hf_gp_0 hc_gp_1 hf_gp_1 hc_gp_2 hf_gp_2 hc_gp_3 hf_gp_3 hc_gp_4 hf_gp_4 hc_gp_5 hf_gp_5 hc_gp_6 hf_gp_6 hc_gp_7 hf_gp_7 hc_gp_8 hf_gp_8 hc_gp_9 hf_gp_9
  have nBK := Aside0.mk (blk_below (g := gp) (o := .cells #[.int .i64 t.f0, .int .i64 t.f1, .int .u32 x.f0, .bool x.f1, .int .i64 x.f2, .slice A_x x.f3.length c_x, .int .u8 kind, .slice A_l l.length c_l, .int .i64 n0, .int .i64 n1] 53 (0, 0)) BK_gp.out hB)
  clear BK_gp
  have BK_gp := nBK
  clear nBK
  have hc_gp_0 : w7_.cell? ⟨gp, 0, none⟩ = some (.int .i64 t.f0) := (blk_cell BK_gp.out 0).trans rfl
  have hf_gp_0 := blk_frozen BK_gp.out 0
  have hc_gp_1 : w7_.cell? ⟨gp, 1, none⟩ = some (.int .i64 t.f1) := (blk_cell BK_gp.out 1).trans rfl
  have hf_gp_1 := blk_frozen BK_gp.out 1
  have hc_gp_2 : w7_.cell? ⟨gp, 2, none⟩ = some (.int .u32 x.f0) := (blk_cell BK_gp.out 2).trans rfl
  have hf_gp_2 := blk_frozen BK_gp.out 2
  have hc_gp_3 : w7_.cell? ⟨gp, 3, none⟩ = some (.bool x.f1) := (blk_cell BK_gp.out 3).trans rfl
  have hf_gp_3 := blk_frozen BK_gp.out 3
  have hc_gp_4 : w7_.cell? ⟨gp, 4, none⟩ = some (.int .i64 x.f2) := (blk_cell BK_gp.out 4).trans rfl
  have hf_gp_4 := blk_frozen BK_gp.out 4
  have hc_gp_5 : w7_.cell? ⟨gp, 5, none⟩ = some (.slice A_x x.f3.length c_x) := (blk_cell BK_gp.out 5).trans rfl
  have hf_gp_5 := blk_frozen BK_gp.out 5
  have hc_gp_6 : w7_.cell? ⟨gp, 6, none⟩ = some (.int .u8 kind) := (blk_cell BK_gp.out 6).trans rfl
  have hf_gp_6 := blk_frozen BK_gp.out 6
  have hc_gp_7 : w7_.cell? ⟨gp, 7, none⟩ = some (.slice A_l l.length c_l) := (blk_cell BK_gp.out 7).trans rfl
  have hf_gp_7 := blk_frozen BK_gp.out 7
  have hc_gp_8 : w7_.cell? ⟨gp, 8, none⟩ = some (.int .i64 n0) := (blk_cell BK_gp.out 8).trans rfl
  have hf_gp_8 := blk_frozen BK_gp.out 8
  have hc_gp_9 : w7_.cell? ⟨gp, 9, none⟩ = some (.int .i64 n1) := (blk_cell BK_gp.out 9).trans rfl
  have hf_gp_9 := blk_frozen BK_gp.out 9
  clear hc_gt_0 hf_gt_0 hc_gt_1 hf_gt_1
  have nBK := Aside0.mk (blk_below (g := gt) (o := .cells #[.int .i64 t.f0, .int .i64 t.f1] 23 (0, 0)) BK_gt.out hB)
  clear BK_gt
  have BK_gt := nBK
  clear nBK
  have hc_gt_0 : w7_.cell? ⟨gt, 0, none⟩ = some (.int .i64 t.f0) := (blk_cell BK_gt.out 0).trans rfl
  have hf_gt_0 := blk_frozen BK_gt.out 0
  have hc_gt_1 : w7_.cell? ⟨gt, 1, none⟩ = some (.int .i64 t.f1) := (blk_cell BK_gt.out 1).trans rfl
  have hf_gt_1 := blk_frozen BK_gt.out 1
  clear hc_gm_0 hf_gm_0 hc_gm_1 hf_gm_1 hc_gm_2 hf_gm_2 hc_gm_3 hf_gm_3
  have nBK := Aside0.mk (blk_below (g := gm) (o := .cells #[.int .u32 x.f0, .bool x.f1, .int .i64 x.f2, .slice A_x x.f3.length c_x] 28 (0, 0)) BK_gm.out hB)
  clear BK_gm
  have BK_gm := nBK
  clear nBK
  have hc_gm_0 : w7_.cell? ⟨gm, 0, none⟩ = some (.int .u32 x.f0) := (blk_cell BK_gm.out 0).trans rfl
  have hf_gm_0 := blk_frozen BK_gm.out 0
  have hc_gm_1 : w7_.cell? ⟨gm, 1, none⟩ = some (.bool x.f1) := (blk_cell BK_gm.out 1).trans rfl
  have hf_gm_1 := blk_frozen BK_gm.out 1
  have hc_gm_2 : w7_.cell? ⟨gm, 2, none⟩ = some (.int .i64 x.f2) := (blk_cell BK_gm.out 2).trans rfl
  have hf_gm_2 := blk_frozen BK_gm.out 2
  have hc_gm_3 : w7_.cell? ⟨gm, 3, none⟩ = some (.slice A_x x.f3.length c_x) := (blk_cell BK_gm.out 3).trans rfl
  have hf_gm_3 := blk_frozen BK_gm.out 3
  have BK_gn := Aside0.mk hBN
  have GE_gn := Aside0.mk (Nat.le_trans HBo.out.size hG.out)
  clear HBo hG hBN hB
  have hc_gn_0 : w7_.cell? ⟨gn, 0, none⟩ = some (.int .i64 n0) := (blk_cell BK_gn.out 0).trans rfl
  have hf_gn_0 := blk_frozen BK_gn.out 0
  have hc_gn_1 : w7_.cell? ⟨gn, 1, none⟩ = some (.int .i64 n1) := (blk_cell BK_gn.out 1).trans rfl
  have hf_gn_1 := blk_frozen BK_gn.out 1
  go_upto_region 9 with (first | (go_at_call 9; with_reducible refine (shown_w _).mono ?_; rintro e w8_ ⟨rfl, hB⟩; have nHB := Aside0.mk (HB.out.trans (hB.mono HB.out.size)); clear HB; have HB := nHB; clear nHB; clear hc_gp_0 hf_gp_0 hc_gp_1 hf_gp_1 hc_gp_2 hf_gp_2 hc_gp_3 hf_gp_3 hc_gp_4 hf_gp_4 hc_gp_5 hf_gp_5 hc_gp_6 hf_gp_6 hc_gp_7 hf_gp_7 hc_gp_8 hf_gp_8 hc_gp_9 hf_gp_9; have nBK := Aside0.mk (blk_below (g := gp) (o := .cells #[.int .i64 t.f0, .int .i64 t.f1, .int .u32 x.f0, .bool x.f1, .int .i64 x.f2, .slice A_x x.f3.length c_x, .int .u8 kind, .slice A_l l.length c_l, .int .i64 n0, .int .i64 n1] 53 (0, 0)) BK_gp.out hB); clear BK_gp; have BK_gp := nBK; clear nBK; have hc_gp_0 : w8_.cell? ⟨gp, 0, none⟩ = some (.int .i64 t.f0) := (blk_cell BK_gp.out 0).trans rfl; have hf_gp_0 := blk_frozen BK_gp.out 0; have hc_gp_1 : w8_.cell? ⟨gp, 1, none⟩ = some (.int .i64 t.f1) := (blk_cell BK_gp.out 1).trans rfl; have hf_gp_1 := blk_frozen BK_gp.out 1; have hc_gp_2 : w8_.cell? ⟨gp, 2, none⟩ = some (.int .u32 x.f0) := (blk_cell BK_gp.out 2).trans rfl; have hf_gp_2 := blk_frozen BK_gp.out 2; have hc_gp_3 : w8_.cell? ⟨gp, 3, none⟩ = some (.bool x.f1) := (blk_cell BK_gp.out 3).trans rfl; have hf_gp_3 := blk_frozen BK_gp.out 3; have hc_gp_4 : w8_.cell? ⟨gp, 4, none⟩ = some (.int .i64 x.f2) := (blk_cell BK_gp.out 4).trans rfl; have hf_gp_4 := blk_frozen BK_gp.out 4; have hc_gp_5 : w8_.cell? ⟨gp, 5, none⟩ = some (.slice A_x x.f3.length c_x) := (blk_cell BK_gp.out 5).trans rfl; have hf_gp_5 := blk_frozen BK_gp.out 5; have hc_gp_6 : w8_.cell? ⟨gp, 6, none⟩ = some (.int .u8 kind) := (blk_cell BK_gp.out 6).trans rfl; have hf_gp_6 := blk_frozen BK_gp.out 6; have hc_gp_7 : w8_.cell? ⟨gp, 7, none⟩ = some (.slice A_l l.length c_l) := (blk_cell BK_gp.out 7).trans rfl; have hf_gp_7 := blk_frozen BK_gp.out 7; have hc_gp_8 : w8_.cell? ⟨gp, 8, none⟩ = some (.int .i64 n0) := (blk_cell BK_gp.out 8).trans rfl; have hf_gp_8 := blk_frozen BK_gp.out 8; have hc_gp_9 : w8_.cell? ⟨gp, 9, none⟩ = some (.int .i64 n1) := (blk_cell BK_gp.out 9).trans rfl; have hf_gp_9 := blk_frozen BK_gp.out 9; clear hc_gt_0 hf_gt_0 hc_gt_1 hf_gt_1; have nBK := Aside0.mk (blk_below (g := gt) (o := .cells #[.int .i64 t.f0, .int .i64 t.f1] 23 (0, 0)) BK_gt.out hB); clear BK_gt; have BK_gt := nBK; clear nBK; have hc_gt_0 : w8_.cell? ⟨gt, 0, none⟩ = some (.int .i64 t.f0) := (blk_cell BK_gt.out 0).trans rfl; have hf_gt_0 := blk_frozen BK_gt.out 0; have hc_gt_1 : w8_.cell? ⟨gt, 1, none⟩ = some (.int .i64 t.f1) := (blk_cell BK_gt.out 1).trans rfl; have hf_gt_1 := blk_frozen BK_gt.out 1; clear hc_gm_0 hf_gm_0 hc_gm_1 hf_gm_1 hc_gm_2 hf_gm_2 hc_gm_3 hf_gm_3; have nBK := Aside0.mk (blk_below (g := gm) (o := .cells #[.int .u32 x.f0, .bool x.f1, .int .i64 x.f2, .slice A_x x.f3.length c_x] 28 (0, 0)) BK_gm.out hB); clear BK_gm; have BK_gm := nBK; clear nBK; have hc_gm_0 : w8_.cell? ⟨gm, 0, none⟩ = some (.int .u32 x.f0) := (blk_cell BK_gm.out 0).trans rfl; have hf_gm_0 := blk_frozen BK_gm.out 0; have hc_gm_1 : w8_.cell? ⟨gm, 1, none⟩ = some (.bool x.f1) := (blk_cell BK_gm.out 1).trans rfl; have hf_gm_1 := blk_frozen BK_gm.out 1; have hc_gm_2 : w8_.cell? ⟨gm, 2, none⟩ = some (.int .i64 x.f2) := (blk_cell BK_gm.out 2).trans rfl; have hf_gm_2 := blk_frozen BK_gm.out 2; have hc_gm_3 : w8_.cell? ⟨gm, 3, none⟩ = some (.slice A_x x.f3.length c_x) := (blk_cell BK_gm.out 3).trans rfl; have hf_gm_3 := blk_frozen BK_gm.out 3; clear hc_gn_0 hf_gn_0 hc_gn_1 hf_gn_1; have nBK := Aside0.mk (blk_below (g := gn) (o := .cells #[.int .i64 n0, .int .i64 n1] 51 (0, 0)) BK_gn.out hB); clear BK_gn; have BK_gn := nBK; clear nBK; have hc_gn_0 : w8_.cell? ⟨gn, 0, none⟩ = some (.int .i64 n0) := (blk_cell BK_gn.out 0).trans rfl; have hf_gn_0 := blk_frozen BK_gn.out 0; have hc_gn_1 : w8_.cell? ⟨gn, 1, none⟩ = some (.int .i64 n1) := (blk_cell BK_gn.out 1).trans rfl; have hf_gn_1 := blk_frozen BK_gn.out 1; clear hB) | (go_at_call 10; with_reducible refine (mayR_w Xhm.out _).mono ?_; rintro e w9_ ⟨rfl, hB⟩; have nHB := Aside0.mk (HB.out.trans (hB.mono HB.out.size)); clear HB; have HB := nHB; clear nHB; clear hc_gp_0 hf_gp_0 hc_gp_1 hf_gp_1 hc_gp_2 hf_gp_2 hc_gp_3 hf_gp_3 hc_gp_4 hf_gp_4 hc_gp_5 hf_gp_5 hc_gp_6 hf_gp_6 hc_gp_7 hf_gp_7 hc_gp_8 hf_gp_8 hc_gp_9 hf_gp_9; have nBK := Aside0.mk (blk_below (g := gp) (o := .cells #[.int .i64 t.f0, .int .i64 t.f1, .int .u32 x.f0, .bool x.f1, .int .i64 x.f2, .slice A_x x.f3.length c_x, .int .u8 kind, .slice A_l l.length c_l, .int .i64 n0, .int .i64 n1] 53 (0, 0)) BK_gp.out hB); clear BK_gp; have BK_gp := nBK; clear nBK; have hc_gp_0 : w9_.cell? ⟨gp, 0, none⟩ = some (.int .i64 t.f0) := (blk_cell BK_gp.out 0).trans rfl; have hf_gp_0 := blk_frozen BK_gp.out 0; have hc_gp_1 : w9_.cell? ⟨gp, 1, none⟩ = some (.int .i64 t.f1) := (blk_cell BK_gp.out 1).trans rfl; have hf_gp_1 := blk_frozen BK_gp.out 1; have hc_gp_2 : w9_.cell? ⟨gp, 2, none⟩ = some (.int .u32 x.f0) := (blk_cell BK_gp.out 2).trans rfl; have hf_gp_2 := blk_frozen BK_gp.out 2; have hc_gp_3 : w9_.cell? ⟨gp, 3, none⟩ = some (.bool x.f1) := (blk_cell BK_gp.out 3).trans rfl; have hf_gp_3 := blk_frozen BK_gp.out 3; have hc_gp_4 : w9_.cell? ⟨gp, 4, none⟩ = some (.int .i64 x.f2) := (blk_cell BK_gp.out 4).trans rfl; have hf_gp_4 := blk_frozen BK_gp.out 4; have hc_gp_5 : w9_.cell? ⟨gp, 5, none⟩ = some (.slice A_x x.f3.length c_x) := (blk_cell BK_gp.out 5).trans rfl; have hf_gp_5 := blk_frozen BK_gp.out 5; have hc_gp_6 : w9_.cell? ⟨gp, 6, none⟩ = some (.int .u8 kind) := (blk_cell BK_gp.out 6).trans rfl; have hf_gp_6 := blk_frozen BK_gp.out 6; have hc_gp_7 : w9_.cell? ⟨gp, 7, none⟩ = some (.slice A_l l.length c_l) := (blk_cell BK_gp.out 7).trans rfl; have hf_gp_7 := blk_frozen BK_gp.out 7; have hc_gp_8 : w9_.cell? ⟨gp, 8, none⟩ = some (.int .i64 n0) := (blk_cell BK_gp.out 8).trans rfl; have hf_gp_8 := blk_frozen BK_gp.out 8; have hc_gp_9 : w9_.cell? ⟨gp, 9, none⟩ = some (.int .i64 n1) := (blk_cell BK_gp.out 9).trans rfl; have hf_gp_9 := blk_frozen BK_gp.out 9; clear hc_gt_0 hf_gt_0 hc_gt_1 hf_gt_1; have nBK := Aside0.mk (blk_below (g := gt) (o := .cells #[.int .i64 t.f0, .int .i64 t.f1] 23 (0, 0)) BK_gt.out hB); clear BK_gt; have BK_gt := nBK; clear nBK; have hc_gt_0 : w9_.cell? ⟨gt, 0, none⟩ = some (.int .i64 t.f0) := (blk_cell BK_gt.out 0).trans rfl; have hf_gt_0 := blk_frozen BK_gt.out 0; have hc_gt_1 : w9_.cell? ⟨gt, 1, none⟩ = some (.int .i64 t.f1) := (blk_cell BK_gt.out 1).trans rfl; have hf_gt_1 := blk_frozen BK_gt.out 1; clear hc_gm_0 hf_gm_0 hc_gm_1 hf_gm_1 hc_gm_2 hf_gm_2 hc_gm_3 hf_gm_3; have nBK := Aside0.mk (blk_below (g := gm) (o := .cells #[.int .u32 x.f0, .bool x.f1, .int .i64 x.f2, .slice A_x x.f3.length c_x] 28 (0, 0)) BK_gm.out hB); clear BK_gm; have BK_gm := nBK; clear nBK; have hc_gm_0 : w9_.cell? ⟨gm, 0, none⟩ = some (.int .u32 x.f0) := (blk_cell BK_gm.out 0).trans rfl; have hf_gm_0 := blk_frozen BK_gm.out 0; have hc_gm_1 : w9_.cell? ⟨gm, 1, none⟩ = some (.bool x.f1) := (blk_cell BK_gm.out 1).trans rfl; have hf_gm_1 := blk_frozen BK_gm.out 1; have hc_gm_2 : w9_.cell? ⟨gm, 2, none⟩ = some (.int .i64 x.f2) := (blk_cell BK_gm.out 2).trans rfl; have hf_gm_2 := blk_frozen BK_gm.out 2; have hc_gm_3 : w9_.cell? ⟨gm, 3, none⟩ = some (.slice A_x x.f3.length c_x) := (blk_cell BK_gm.out 3).trans rfl; have hf_gm_3 := blk_frozen BK_gm.out 3; clear hc_gn_0 hf_gn_0 hc_gn_1 hf_gn_1; have nBK := Aside0.mk (blk_below (g := gn) (o := .cells #[.int .i64 n0, .int .i64 n1] 51 (0, 0)) BK_gn.out hB); clear BK_gn; have BK_gn := nBK; clear nBK; have hc_gn_0 : w9_.cell? ⟨gn, 0, none⟩ = some (.int .i64 n0) := (blk_cell BK_gn.out 0).trans rfl; have hf_gn_0 := blk_frozen BK_gn.out 0; have hc_gn_1 : w9_.cell? ⟨gn, 1, none⟩ = some (.int .i64 n1) := (blk_cell BK_gn.out 1).trans rfl; have hf_gn_1 := blk_frozen BK_gn.out 1; clear hB) | (go_at_call 11; with_reducible refine (right_w (b := true) (by simp [Xhx.out]) _ _ _ (Kd.C_below HC_x.out HB.out) HK_x.out).mono ?_; rintro e w10_ ⟨rfl, hB⟩; have nHB := Aside0.mk (HB.out.trans (hB.mono HB.out.size)); clear HB; have HB := nHB; clear nHB; clear hc_gp_0 hf_gp_0 hc_gp_1 hf_gp_1 hc_gp_2 hf_gp_2 hc_gp_3 hf_gp_3 hc_gp_4 hf_gp_4 hc_gp_5 hf_gp_5 hc_gp_6 hf_gp_6 hc_gp_7 hf_gp_7 hc_gp_8 hf_gp_8 hc_gp_9 hf_gp_9; have nBK := Aside0.mk (blk_below (g := gp) (o := .cells #[.int .i64 t.f0, .int .i64 t.f1, .int .u32 x.f0, .bool x.f1, .int .i64 x.f2, .slice A_x x.f3.length c_x, .int .u8 kind, .slice A_l l.length c_l, .int .i64 n0, .int .i64 n1] 53 (0, 0)) BK_gp.out hB); clear BK_gp; have BK_gp := nBK; clear nBK; have hc_gp_0 : w10_.cell? ⟨gp, 0, none⟩ = some (.int .i64 t.f0) := (blk_cell BK_gp.out 0).trans rfl; have hf_gp_0 := blk_frozen BK_gp.out 0; have hc_gp_1 : w10_.cell? ⟨gp, 1, none⟩ = some (.int .i64 t.f1) := (blk_cell BK_gp.out 1).trans rfl; have hf_gp_1 := blk_frozen BK_gp.out 1; have hc_gp_2 : w10_.cell? ⟨gp, 2, none⟩ = some (.int .u32 x.f0) := (blk_cell BK_gp.out 2).trans rfl; have hf_gp_2 := blk_frozen BK_gp.out 2; have hc_gp_3 : w10_.cell? ⟨gp, 3, none⟩ = some (.bool x.f1) := (blk_cell BK_gp.out 3).trans rfl; have hf_gp_3 := blk_frozen BK_gp.out 3; have hc_gp_4 : w10_.cell? ⟨gp, 4, none⟩ = some (.int .i64 x.f2) := (blk_cell BK_gp.out 4).trans rfl; have hf_gp_4 := blk_frozen BK_gp.out 4; have hc_gp_5 : w10_.cell? ⟨gp, 5, none⟩ = some (.slice A_x x.f3.length c_x) := (blk_cell BK_gp.out 5).trans rfl; have hf_gp_5 := blk_frozen BK_gp.out 5; have hc_gp_6 : w10_.cell? ⟨gp, 6, none⟩ = some (.int .u8 kind) := (blk_cell BK_gp.out 6).trans rfl; have hf_gp_6 := blk_frozen BK_gp.out 6; have hc_gp_7 : w10_.cell? ⟨gp, 7, none⟩ = some (.slice A_l l.length c_l) := (blk_cell BK_gp.out 7).trans rfl; have hf_gp_7 := blk_frozen BK_gp.out 7; have hc_gp_8 : w10_.cell? ⟨gp, 8, none⟩ = some (.int .i64 n0) := (blk_cell BK_gp.out 8).trans rfl; have hf_gp_8 := blk_frozen BK_gp.out 8; have hc_gp_9 : w10_.cell? ⟨gp, 9, none⟩ = some (.int .i64 n1) := (blk_cell BK_gp.out 9).trans rfl; have hf_gp_9 := blk_frozen BK_gp.out 9; clear hc_gt_0 hf_gt_0 hc_gt_1 hf_gt_1; have nBK := Aside0.mk (blk_below (g := gt) (o := .cells #[.int .i64 t.f0, .int .i64 t.f1] 23 (0, 0)) BK_gt.out hB); clear BK_gt; have BK_gt := nBK; clear nBK; have hc_gt_0 : w10_.cell? ⟨gt, 0, none⟩ = some (.int .i64 t.f0) := (blk_cell BK_gt.out 0).trans rfl; have hf_gt_0 := blk_frozen BK_gt.out 0; have hc_gt_1 : w10_.cell? ⟨gt, 1, none⟩ = some (.int .i64 t.f1) := (blk_cell BK_gt.out 1).trans rfl; have hf_gt_1 := blk_frozen BK_gt.out 1; clear hc_gm_0 hf_gm_0 hc_gm_1 hf_gm_1 hc_gm_2 hf_gm_2 hc_gm_3 hf_gm_3; have nBK := Aside0.mk (blk_below (g := gm) (o := .cells #[.int .u32 x.f0, .bool x.f1, .int .i64 x.f2, .slice A_x x.f3.length c_x] 28 (0, 0)) BK_gm.out hB); clear BK_gm; have BK_gm := nBK; clear nBK; have hc_gm_0 : w10_.cell? ⟨gm, 0, none⟩ = some (.int .u32 x.f0) := (blk_cell BK_gm.out 0).trans rfl; have hf_gm_0 := blk_frozen BK_gm.out 0; have hc_gm_1 : w10_.cell? ⟨gm, 1, none⟩ = some (.bool x.f1) := (blk_cell BK_gm.out 1).trans rfl; have hf_gm_1 := blk_frozen BK_gm.out 1; have hc_gm_2 : w10_.cell? ⟨gm, 2, none⟩ = some (.int .i64 x.f2) := (blk_cell BK_gm.out 2).trans rfl; have hf_gm_2 := blk_frozen BK_gm.out 2; have hc_gm_3 : w10_.cell? ⟨gm, 3, none⟩ = some (.slice A_x x.f3.length c_x) := (blk_cell BK_gm.out 3).trans rfl; have hf_gm_3 := blk_frozen BK_gm.out 3; clear hc_gn_0 hf_gn_0 hc_gn_1 hf_gn_1; have nBK := Aside0.mk (blk_below (g := gn) (o := .cells #[.int .i64 n0, .int .i64 n1] 51 (0, 0)) BK_gn.out hB); clear BK_gn; have BK_gn := nBK; clear nBK; have hc_gn_0 : w10_.cell? ⟨gn, 0, none⟩ = some (.int .i64 n0) := (blk_cell BK_gn.out 0).trans rfl; have hf_gn_0 := blk_frozen BK_gn.out 0; have hc_gn_1 : w10_.cell? ⟨gn, 1, none⟩ = some (.int .i64 n1) := (blk_cell BK_gn.out 1).trans rfl; have hf_gn_1 := blk_frozen BK_gn.out 1; clear hB))
  have hl2 := Aside0.mk (show l.length ≤ 1000 by omega)
  go_upto_region 10 with (first | (go_at_call 12; (with_reducible refine (hear_view Xhx.out.sort (by have := Xhx.out.len; omega) hl2.out Xhh.out Xhn.out _ _ _ _ _ (Kd.C_below HC_x.out HB.out) HK_x.out (Kd.C_below HC_l.out HB.out) HK_l.out).mono ?_); rintro e_ w11_ ⟨A_r, c_r, A_ra, c_ra, rfl, hC, hK, hB⟩; have nHB := Aside0.mk (HB.out.trans (hB.mono HB.out.size)); clear HB; have HB := nHB; clear nHB; clear hc_gp_0 hf_gp_0 hc_gp_1 hf_gp_1 hc_gp_2 hf_gp_2 hc_gp_3 hf_gp_3 hc_gp_4 hf_gp_4 hc_gp_5 hf_gp_5 hc_gp_6 hf_gp_6 hc_gp_7 hf_gp_7 hc_gp_8 hf_gp_8 hc_gp_9 hf_gp_9; have nBK := Aside0.mk (blk_below (g := gp) (o := .cells #[.int .i64 t.f0, .int .i64 t.f1, .int .u32 x.f0, .bool x.f1, .int .i64 x.f2, .slice A_x x.f3.length c_x, .int .u8 kind, .slice A_l l.length c_l, .int .i64 n0, .int .i64 n1] 53 (0, 0)) BK_gp.out hB); clear BK_gp; have BK_gp := nBK; clear nBK; have hc_gp_0 : w11_.cell? ⟨gp, 0, none⟩ = some (.int .i64 t.f0) := (blk_cell BK_gp.out 0).trans rfl; have hf_gp_0 := blk_frozen BK_gp.out 0; have hc_gp_1 : w11_.cell? ⟨gp, 1, none⟩ = some (.int .i64 t.f1) := (blk_cell BK_gp.out 1).trans rfl; have hf_gp_1 := blk_frozen BK_gp.out 1; have hc_gp_2 : w11_.cell? ⟨gp, 2, none⟩ = some (.int .u32 x.f0) := (blk_cell BK_gp.out 2).trans rfl; have hf_gp_2 := blk_frozen BK_gp.out 2; have hc_gp_3 : w11_.cell? ⟨gp, 3, none⟩ = some (.bool x.f1) := (blk_cell BK_gp.out 3).trans rfl; have hf_gp_3 := blk_frozen BK_gp.out 3; have hc_gp_4 : w11_.cell? ⟨gp, 4, none⟩ = some (.int .i64 x.f2) := (blk_cell BK_gp.out 4).trans rfl; have hf_gp_4 := blk_frozen BK_gp.out 4; have hc_gp_5 : w11_.cell? ⟨gp, 5, none⟩ = some (.slice A_x x.f3.length c_x) := (blk_cell BK_gp.out 5).trans rfl; have hf_gp_5 := blk_frozen BK_gp.out 5; have hc_gp_6 : w11_.cell? ⟨gp, 6, none⟩ = some (.int .u8 kind) := (blk_cell BK_gp.out 6).trans rfl; have hf_gp_6 := blk_frozen BK_gp.out 6; have hc_gp_7 : w11_.cell? ⟨gp, 7, none⟩ = some (.slice A_l l.length c_l) := (blk_cell BK_gp.out 7).trans rfl; have hf_gp_7 := blk_frozen BK_gp.out 7; have hc_gp_8 : w11_.cell? ⟨gp, 8, none⟩ = some (.int .i64 n0) := (blk_cell BK_gp.out 8).trans rfl; have hf_gp_8 := blk_frozen BK_gp.out 8; have hc_gp_9 : w11_.cell? ⟨gp, 9, none⟩ = some (.int .i64 n1) := (blk_cell BK_gp.out 9).trans rfl; have hf_gp_9 := blk_frozen BK_gp.out 9; clear hc_gt_0 hf_gt_0 hc_gt_1 hf_gt_1; have nBK := Aside0.mk (blk_below (g := gt) (o := .cells #[.int .i64 t.f0, .int .i64 t.f1] 23 (0, 0)) BK_gt.out hB); clear BK_gt; have BK_gt := nBK; clear nBK; have hc_gt_0 : w11_.cell? ⟨gt, 0, none⟩ = some (.int .i64 t.f0) := (blk_cell BK_gt.out 0).trans rfl; have hf_gt_0 := blk_frozen BK_gt.out 0; have hc_gt_1 : w11_.cell? ⟨gt, 1, none⟩ = some (.int .i64 t.f1) := (blk_cell BK_gt.out 1).trans rfl; have hf_gt_1 := blk_frozen BK_gt.out 1; clear hc_gm_0 hf_gm_0 hc_gm_1 hf_gm_1 hc_gm_2 hf_gm_2 hc_gm_3 hf_gm_3; have nBK := Aside0.mk (blk_below (g := gm) (o := .cells #[.int .u32 x.f0, .bool x.f1, .int .i64 x.f2, .slice A_x x.f3.length c_x] 28 (0, 0)) BK_gm.out hB); clear BK_gm; have BK_gm := nBK; clear nBK; have hc_gm_0 : w11_.cell? ⟨gm, 0, none⟩ = some (.int .u32 x.f0) := (blk_cell BK_gm.out 0).trans rfl; have hf_gm_0 := blk_frozen BK_gm.out 0; have hc_gm_1 : w11_.cell? ⟨gm, 1, none⟩ = some (.bool x.f1) := (blk_cell BK_gm.out 1).trans rfl; have hf_gm_1 := blk_frozen BK_gm.out 1; have hc_gm_2 : w11_.cell? ⟨gm, 2, none⟩ = some (.int .i64 x.f2) := (blk_cell BK_gm.out 2).trans rfl; have hf_gm_2 := blk_frozen BK_gm.out 2; have hc_gm_3 : w11_.cell? ⟨gm, 3, none⟩ = some (.slice A_x x.f3.length c_x) := (blk_cell BK_gm.out 3).trans rfl; have hf_gm_3 := blk_frozen BK_gm.out 3; clear hc_gn_0 hf_gn_0 hc_gn_1 hf_gn_1; have nBK := Aside0.mk (blk_below (g := gn) (o := .cells #[.int .i64 n0, .int .i64 n1] 51 (0, 0)) BK_gn.out hB); clear BK_gn; have BK_gn := nBK; clear nBK; have hc_gn_0 : w11_.cell? ⟨gn, 0, none⟩ = some (.int .i64 n0) := (blk_cell BK_gn.out 0).trans rfl; have hf_gn_0 := blk_frozen BK_gn.out 0; have hc_gn_1 : w11_.cell? ⟨gn, 1, none⟩ = some (.int .i64 n1) := (blk_cell BK_gn.out 1).trans rfl; have hf_gn_1 := blk_frozen BK_gn.out 1; have HC_r := Aside0.mk hC; have HK_r := Aside0.mk hK; clear hC hK hB) | ((with_reducible refine gate_dst (N := 9) rfl ?_); (try (refine gate_guard (by rfl) ?_; dsimp only)); refine box_event ?hg (N := 9) ?hd (cs := #[.int .u32 0, .bool false, .int .i64 0, .slice none 0 0]) (t := 28) ?hr ?_; (case hd => rfl); (case hg => rfl); (case hr => first | (go_simp; done) | (go_simp; rfl)); intro gr hg w12_ hbox hB0; have hG := Aside0.mk (show w11_.heap.size ≤ gr from Nat.le_of_eq hg.symm); clear hg; have hBX := Aside0.mk hbox; have hB1 := Aside0.mk hB0; clear hB0; have hc_gr_0 : w12_.cell? ⟨gr, 0, none⟩ = some (.int .u32 0) := (blk_cell hbox 0).trans rfl; have hf_gr_0 := blk_frozen hbox 0; have hc_gr_1 : w12_.cell? ⟨gr, 1, none⟩ = some (.bool false) := (blk_cell hbox 1).trans rfl; have hf_gr_1 := blk_frozen hbox 1; have hc_gr_2 : w12_.cell? ⟨gr, 2, none⟩ = some (.int .i64 0) := (blk_cell hbox 2).trans rfl; have hf_gr_2 := blk_frozen hbox 2; have hc_gr_3 : w12_.cell? ⟨gr, 3, none⟩ = some (.slice none 0 0) := (blk_cell hbox 3).trans rfl; have hf_gr_3 := blk_frozen hbox 3; clear hbox))
  have hB : Below w11_.heap.size w11_ ((((w12_.setCell ⟨gr, 0, none⟩ (.int .u32 r.f0)).setCell ⟨gr, 1, none⟩ (.bool r.f1)).setCell ⟨gr, 2, none⟩ (.int .i64 r.f2)).setCell ⟨gr, 3, none⟩ (.slice A_r r.f3.length c_r)) := (below_set (below_set (below_set (below_set hB1.out hG.out) hG.out) hG.out) hG.out)
  have hBN : ((((w12_.setCell ⟨gr, 0, none⟩ (.int .u32 r.f0)).setCell ⟨gr, 1, none⟩ (.bool r.f1)).setCell ⟨gr, 2, none⟩ (.int .i64 r.f2)).setCell ⟨gr, 3, none⟩ (.slice A_r r.f3.length c_r)).heap[gr]? = some (.cells #[.int .u32 r.f0, .bool r.f1, .int .i64 r.f2, .slice A_r r.f3.length c_r] 28 (0, 0)) := (blk_put (cs := #[.int .u32 r.f0, .bool r.f1, .int .i64 r.f2, .slice none 0 0]) (blk_put (cs := #[.int .u32 r.f0, .bool r.f1, .int .i64 0, .slice none 0 0]) (blk_put (cs := #[.int .u32 r.f0, .bool false, .int .i64 0, .slice none 0 0]) (blk_put (cs := #[.int .u32 0, .bool false, .int .i64 0, .slice none 0 0]) hBX.out 0 (.int .u32 r.f0) rfl) 1 (.bool r.f1) rfl) 2 (.int .i64 r.f2) rfl) 3 (.slice A_r r.f3.length c_r) rfl)
  clear hBX hB1
  clear hc_gr_0 hf_gr_0 hc_gr_1 hf_gr_1 hc_gr_2 hf_gr_2 hc_gr_3 hf_gr_3
  generalize ((((w12_.setCell ⟨gr, 0, none⟩ (.int .u32 r.f0)).setCell ⟨gr, 1, none⟩ (.bool r.f1)).setCell ⟨gr, 2, none⟩ (.int .i64 r.f2)).setCell ⟨gr, 3, none⟩ (.slice A_r r.f3.length c_r)) = w13_ at hB hBN ⊢
  have NB_gr_gp := Aside0.mk (show gr ≠ gp from Nat.ne_of_gt (Nat.lt_of_lt_of_le (blk_lt (g := gp) (o := .cells #[.int .i64 t.f0, .int .i64 t.f1, .int .u32 x.f0, .bool x.f1, .int .i64 x.f2, .slice A_x x.f3.length c_x, .int .u8 kind, .slice A_l l.length c_l, .int .i64 n0, .int .i64 n1] 53 (0, 0)) BK_gp.out) hG.out))
  have NB_gp_gr := Aside0.mk (Ne.symm NB_gr_gp.out)
  have NB_gr_gt := Aside0.mk (show gr ≠ gt from Nat.ne_of_gt (Nat.lt_of_lt_of_le (blk_lt (g := gt) (o := .cells #[.int .i64 t.f0, .int .i64 t.f1] 23 (0, 0)) BK_gt.out) hG.out))
  have NB_gt_gr := Aside0.mk (Ne.symm NB_gr_gt.out)
  have NB_gr_gm := Aside0.mk (show gr ≠ gm from Nat.ne_of_gt (Nat.lt_of_lt_of_le (blk_lt (g := gm) (o := .cells #[.int .u32 x.f0, .bool x.f1, .int .i64 x.f2, .slice A_x x.f3.length c_x] 28 (0, 0)) BK_gm.out) hG.out))
  have NB_gm_gr := Aside0.mk (Ne.symm NB_gr_gm.out)
  have NB_gr_gn := Aside0.mk (show gr ≠ gn from Nat.ne_of_gt (Nat.lt_of_lt_of_le (blk_lt (g := gn) (o := .cells #[.int .i64 n0, .int .i64 n1] 51 (0, 0)) BK_gn.out) hG.out))
  have NB_gn_gr := Aside0.mk (Ne.symm NB_gr_gn.out)
  have HBo := Aside0.mk HB.out
  have nHB := Aside0.mk (HB.out.trans (hB.mono HB.out.size))
  clear HB
  have HB := nHB
  clear nHB
  clear hc_gp_0 hf_gp_0 hc_gp_1 hf_gp_1 hc_gp_2 hf_gp_2 hc_gp_3 hf_gp_3 hc_gp_4 hf_gp_4 hc_gp_5 hf_gp_5 hc_gp_6 hf_gp_6 hc_gp_7 hf_gp_7 hc_gp_8 hf_gp_8 hc_gp_9 hf_gp_9
  have nBK := Aside0.mk (blk_below (g := gp) (o := .cells #[.int .i64 t.f0, .int .i64 t.f1, .int .u32 x.f0, .bool x.f1, .int .i64 x.f2, .slice A_x x.f3.length c_x, .int .u8 kind, .slice A_l l.length c_l, .int .i64 n0, .int .i64 n1] 53 (0, 0)) BK_gp.out hB)
  clear BK_gp
  have BK_gp := nBK
  clear nBK
  have hc_gp_0 : w13_.cell? ⟨gp, 0, none⟩ = some (.int .i64 t.f0) := (blk_cell BK_gp.out 0).trans rfl
  have hf_gp_0 := blk_frozen BK_gp.out 0
  have hc_gp_1 : w13_.cell? ⟨gp, 1, none⟩ = some (.int .i64 t.f1) := (blk_cell BK_gp.out 1).trans rfl
  have hf_gp_1 := blk_frozen BK_gp.out 1
  have hc_gp_2 : w13_.cell? ⟨gp, 2, none⟩ = some (.int .u32 x.f0) := (blk_cell BK_gp.out 2).trans rfl
  have hf_gp_2 := blk_frozen BK_gp.out 2
  have hc_gp_3 : w13_.cell? ⟨gp, 3, none⟩ = some (.bool x.f1) := (blk_cell BK_gp.out 3).trans rfl
  have hf_gp_3 := blk_frozen BK_gp.out 3
  have hc_gp_4 : w13_.cell? ⟨gp, 4, none⟩ = some (.int .i64 x.f2) := (blk_cell BK_gp.out 4).trans rfl
  have hf_gp_4 := blk_frozen BK_gp.out 4
  have hc_gp_5 : w13_.cell? ⟨gp, 5, none⟩ = some (.slice A_x x.f3.length c_x) := (blk_cell BK_gp.out 5).trans rfl
  have hf_gp_5 := blk_frozen BK_gp.out 5
  have hc_gp_6 : w13_.cell? ⟨gp, 6, none⟩ = some (.int .u8 kind) := (blk_cell BK_gp.out 6).trans rfl
  have hf_gp_6 := blk_frozen BK_gp.out 6
  have hc_gp_7 : w13_.cell? ⟨gp, 7, none⟩ = some (.slice A_l l.length c_l) := (blk_cell BK_gp.out 7).trans rfl
  have hf_gp_7 := blk_frozen BK_gp.out 7
  have hc_gp_8 : w13_.cell? ⟨gp, 8, none⟩ = some (.int .i64 n0) := (blk_cell BK_gp.out 8).trans rfl
  have hf_gp_8 := blk_frozen BK_gp.out 8
  have hc_gp_9 : w13_.cell? ⟨gp, 9, none⟩ = some (.int .i64 n1) := (blk_cell BK_gp.out 9).trans rfl
  have hf_gp_9 := blk_frozen BK_gp.out 9
  clear hc_gt_0 hf_gt_0 hc_gt_1 hf_gt_1
  have nBK := Aside0.mk (blk_below (g := gt) (o := .cells #[.int .i64 t.f0, .int .i64 t.f1] 23 (0, 0)) BK_gt.out hB)
  clear BK_gt
  have BK_gt := nBK
  clear nBK
  have hc_gt_0 : w13_.cell? ⟨gt, 0, none⟩ = some (.int .i64 t.f0) := (blk_cell BK_gt.out 0).trans rfl
  have hf_gt_0 := blk_frozen BK_gt.out 0
  have hc_gt_1 : w13_.cell? ⟨gt, 1, none⟩ = some (.int .i64 t.f1) := (blk_cell BK_gt.out 1).trans rfl
  have hf_gt_1 := blk_frozen BK_gt.out 1
  clear hc_gm_0 hf_gm_0 hc_gm_1 hf_gm_1 hc_gm_2 hf_gm_2 hc_gm_3 hf_gm_3
  have nBK := Aside0.mk (blk_below (g := gm) (o := .cells #[.int .u32 x.f0, .bool x.f1, .int .i64 x.f2, .slice A_x x.f3.length c_x] 28 (0, 0)) BK_gm.out hB)
  clear BK_gm
  have BK_gm := nBK
  clear nBK
  have hc_gm_0 : w13_.cell? ⟨gm, 0, none⟩ = some (.int .u32 x.f0) := (blk_cell BK_gm.out 0).trans rfl
  have hf_gm_0 := blk_frozen BK_gm.out 0
  have hc_gm_1 : w13_.cell? ⟨gm, 1, none⟩ = some (.bool x.f1) := (blk_cell BK_gm.out 1).trans rfl
  have hf_gm_1 := blk_frozen BK_gm.out 1
  have hc_gm_2 : w13_.cell? ⟨gm, 2, none⟩ = some (.int .i64 x.f2) := (blk_cell BK_gm.out 2).trans rfl
  have hf_gm_2 := blk_frozen BK_gm.out 2
  have hc_gm_3 : w13_.cell? ⟨gm, 3, none⟩ = some (.slice A_x x.f3.length c_x) := (blk_cell BK_gm.out 3).trans rfl
  have hf_gm_3 := blk_frozen BK_gm.out 3
  clear hc_gn_0 hf_gn_0 hc_gn_1 hf_gn_1
  have nBK := Aside0.mk (blk_below (g := gn) (o := .cells #[.int .i64 n0, .int .i64 n1] 51 (0, 0)) BK_gn.out hB)
  clear BK_gn
  have BK_gn := nBK
  clear nBK
  have hc_gn_0 : w13_.cell? ⟨gn, 0, none⟩ = some (.int .i64 n0) := (blk_cell BK_gn.out 0).trans rfl
  have hf_gn_0 := blk_frozen BK_gn.out 0
  have hc_gn_1 : w13_.cell? ⟨gn, 1, none⟩ = some (.int .i64 n1) := (blk_cell BK_gn.out 1).trans rfl
  have hf_gn_1 := blk_frozen BK_gn.out 1
  have nHC := Aside0.mk (Kd.C_below HC_r.out hB)
  clear HC_r
  have HC_r := nHC
  clear nHC
  have BK_gr := Aside0.mk hBN
  have GE_gr := Aside0.mk (Nat.le_trans HBo.out.size hG.out)
  clear HBo hG hBN hB
  have hc_gr_0 : w13_.cell? ⟨gr, 0, none⟩ = some (.int .u32 r.f0) := (blk_cell BK_gr.out 0).trans rfl
  have hf_gr_0 := blk_frozen BK_gr.out 0
  have hc_gr_1 : w13_.cell? ⟨gr, 1, none⟩ = some (.bool r.f1) := (blk_cell BK_gr.out 1).trans rfl
  have hf_gr_1 := blk_frozen BK_gr.out 1
  have hc_gr_2 : w13_.cell? ⟨gr, 2, none⟩ = some (.int .i64 r.f2) := (blk_cell BK_gr.out 2).trans rfl
  have hf_gr_2 := blk_frozen BK_gr.out 2
  have hc_gr_3 : w13_.cell? ⟨gr, 3, none⟩ = some (.slice A_r r.f3.length c_r) := (blk_cell BK_gr.out 3).trans rfl
  have hf_gr_3 := blk_frozen BK_gr.out 3
  refine start_ (n := 9) (S := fun w' => True) (ds := []) #[false, false, false, false, false, false, false, false, false] (by kernel_rfl) rfl rfl trivial (fun hHeld => ?_); refine with_tabW ms_t10 ms_b10 (fun HT_ HW_ => ?_)
  have hB : Below w13_.heap.size w13_ w13_.drew := below_drew (Below.refl _ _)
  generalize w13_.drew = w13_d at hB hHeld ⊢
  have nHB := Aside0.mk (HB.out.trans (hB.mono HB.out.size))
  clear HB
  have HB := nHB
  clear nHB
  clear hc_gp_0 hf_gp_0 hc_gp_1 hf_gp_1 hc_gp_2 hf_gp_2 hc_gp_3 hf_gp_3 hc_gp_4 hf_gp_4 hc_gp_5 hf_gp_5 hc_gp_6 hf_gp_6 hc_gp_7 hf_gp_7 hc_gp_8 hf_gp_8 hc_gp_9 hf_gp_9
  have nBK := Aside0.mk (blk_below (g := gp) (o := .cells #[.int .i64 t.f0, .int .i64 t.f1, .int .u32 x.f0, .bool x.f1, .int .i64 x.f2, .slice A_x x.f3.length c_x, .int .u8 kind, .slice A_l l.length c_l, .int .i64 n0, .int .i64 n1] 53 (0, 0)) BK_gp.out hB)
  clear BK_gp
  have BK_gp := nBK
  clear nBK
  have hc_gp_0 : w13_d.cell? ⟨gp, 0, none⟩ = some (.int .i64 t.f0) := (blk_cell BK_gp.out 0).trans rfl
  have hf_gp_0 := blk_frozen BK_gp.out 0
  have hc_gp_1 : w13_d.cell? ⟨gp, 1, none⟩ = some (.int .i64 t.f1) := (blk_cell BK_gp.out 1).trans rfl
  have hf_gp_1 := blk_frozen BK_gp.out 1
  have hc_gp_2 : w13_d.cell? ⟨gp, 2, none⟩ = some (.int .u32 x.f0) := (blk_cell BK_gp.out 2).trans rfl
  have hf_gp_2 := blk_frozen BK_gp.out 2
  have hc_gp_3 : w13_d.cell? ⟨gp, 3, none⟩ = some (.bool x.f1) := (blk_cell BK_gp.out 3).trans rfl
  have hf_gp_3 := blk_frozen BK_gp.out 3
  have hc_gp_4 : w13_d.cell? ⟨gp, 4, none⟩ = some (.int .i64 x.f2) := (blk_cell BK_gp.out 4).trans rfl
  have hf_gp_4 := blk_frozen BK_gp.out 4
  have hc_gp_5 : w13_d.cell? ⟨gp, 5, none⟩ = some (.slice A_x x.f3.length c_x) := (blk_cell BK_gp.out 5).trans rfl
  have hf_gp_5 := blk_frozen BK_gp.out 5
  have hc_gp_6 : w13_d.cell? ⟨gp, 6, none⟩ = some (.int .u8 kind) := (blk_cell BK_gp.out 6).trans rfl
  have hf_gp_6 := blk_frozen BK_gp.out 6
  have hc_gp_7 : w13_d.cell? ⟨gp, 7, none⟩ = some (.slice A_l l.length c_l) := (blk_cell BK_gp.out 7).trans rfl
  have hf_gp_7 := blk_frozen BK_gp.out 7
  have hc_gp_8 : w13_d.cell? ⟨gp, 8, none⟩ = some (.int .i64 n0) := (blk_cell BK_gp.out 8).trans rfl
  have hf_gp_8 := blk_frozen BK_gp.out 8
  have hc_gp_9 : w13_d.cell? ⟨gp, 9, none⟩ = some (.int .i64 n1) := (blk_cell BK_gp.out 9).trans rfl
  have hf_gp_9 := blk_frozen BK_gp.out 9
  clear hc_gt_0 hf_gt_0 hc_gt_1 hf_gt_1
  have nBK := Aside0.mk (blk_below (g := gt) (o := .cells #[.int .i64 t.f0, .int .i64 t.f1] 23 (0, 0)) BK_gt.out hB)
  clear BK_gt
  have BK_gt := nBK
  clear nBK
  have hc_gt_0 : w13_d.cell? ⟨gt, 0, none⟩ = some (.int .i64 t.f0) := (blk_cell BK_gt.out 0).trans rfl
  have hf_gt_0 := blk_frozen BK_gt.out 0
  have hc_gt_1 : w13_d.cell? ⟨gt, 1, none⟩ = some (.int .i64 t.f1) := (blk_cell BK_gt.out 1).trans rfl
  have hf_gt_1 := blk_frozen BK_gt.out 1
  clear hc_gm_0 hf_gm_0 hc_gm_1 hf_gm_1 hc_gm_2 hf_gm_2 hc_gm_3 hf_gm_3
  have nBK := Aside0.mk (blk_below (g := gm) (o := .cells #[.int .u32 x.f0, .bool x.f1, .int .i64 x.f2, .slice A_x x.f3.length c_x] 28 (0, 0)) BK_gm.out hB)
  clear BK_gm
  have BK_gm := nBK
  clear nBK
  have hc_gm_0 : w13_d.cell? ⟨gm, 0, none⟩ = some (.int .u32 x.f0) := (blk_cell BK_gm.out 0).trans rfl
  have hf_gm_0 := blk_frozen BK_gm.out 0
  have hc_gm_1 : w13_d.cell? ⟨gm, 1, none⟩ = some (.bool x.f1) := (blk_cell BK_gm.out 1).trans rfl
  have hf_gm_1 := blk_frozen BK_gm.out 1
  have hc_gm_2 : w13_d.cell? ⟨gm, 2, none⟩ = some (.int .i64 x.f2) := (blk_cell BK_gm.out 2).trans rfl
  have hf_gm_2 := blk_frozen BK_gm.out 2
  have hc_gm_3 : w13_d.cell? ⟨gm, 3, none⟩ = some (.slice A_x x.f3.length c_x) := (blk_cell BK_gm.out 3).trans rfl
  have hf_gm_3 := blk_frozen BK_gm.out 3
  clear hc_gn_0 hf_gn_0 hc_gn_1 hf_gn_1
  have nBK := Aside0.mk (blk_below (g := gn) (o := .cells #[.int .i64 n0, .int .i64 n1] 51 (0, 0)) BK_gn.out hB)
  clear BK_gn
  have BK_gn := nBK
  clear nBK
  have hc_gn_0 : w13_d.cell? ⟨gn, 0, none⟩ = some (.int .i64 n0) := (blk_cell BK_gn.out 0).trans rfl
  have hf_gn_0 := blk_frozen BK_gn.out 0
  have hc_gn_1 : w13_d.cell? ⟨gn, 1, none⟩ = some (.int .i64 n1) := (blk_cell BK_gn.out 1).trans rfl
  have hf_gn_1 := blk_frozen BK_gn.out 1
  clear hc_gr_0 hf_gr_0 hc_gr_1 hf_gr_1 hc_gr_2 hf_gr_2 hc_gr_3 hf_gr_3
  have nBK := Aside0.mk (blk_below (g := gr) (o := .cells #[.int .u32 r.f0, .bool r.f1, .int .i64 r.f2, .slice A_r r.f3.length c_r] 28 (0, 0)) BK_gr.out hB)
  clear BK_gr
  have BK_gr := nBK
  clear nBK
  have hc_gr_0 : w13_d.cell? ⟨gr, 0, none⟩ = some (.int .u32 r.f0) := (blk_cell BK_gr.out 0).trans rfl
  have hf_gr_0 := blk_frozen BK_gr.out 0
  have hc_gr_1 : w13_d.cell? ⟨gr, 1, none⟩ = some (.bool r.f1) := (blk_cell BK_gr.out 1).trans rfl
  have hf_gr_1 := blk_frozen BK_gr.out 1
  have hc_gr_2 : w13_d.cell? ⟨gr, 2, none⟩ = some (.int .i64 r.f2) := (blk_cell BK_gr.out 2).trans rfl
  have hf_gr_2 := blk_frozen BK_gr.out 2
  have hc_gr_3 : w13_d.cell? ⟨gr, 3, none⟩ = some (.slice A_r r.f3.length c_r) := (blk_cell BK_gr.out 3).trans rfl
  have hf_gr_3 := blk_frozen BK_gr.out 3
  have nHC := Aside0.mk (Kd.C_below HC_r.out hB)
  clear HC_r
  have HC_r := nHC
  clear nHC
  clear hB
  have HCr_V := Aside0.mk HC_r.out
  refine inv_at [0, 1, 2, 3, 4, 5, 6, 7, 8] (fun a0_ b a w' => ∃ (v70 v73 : Value) (g9 : Nat), a = putSel a0_ b [(0, 67, .agg #[.int .u32 r.f0, .bool r.f1, .int .i64 r.f2, .slice A_r r.f3.length c_r]), (1, 68, .pointer (some ⟨gn, 0, none⟩)), (2, 69, .int .i64 n0), (3, 70, .agg #[.int .u32 ra.f0, .bool ra.f1, .int .i64 ra.f2, v70]), (4, 71, .pointer (some ⟨gn, 1, none⟩)), (5, 72, .int .i64 n1), (6, 73, .agg #[.int .u32 rb.f0, .bool rb.f1, .int .i64 rb.f2, v73]), (7, 12, .pointer (some ⟨g9, 0, none⟩))] ∧ Below w13_d.heap.size w13_d w'
    ∧ (b 3 = true → b 6 = false → Kd.V k49 49 w' 0 (fun _ => True) v70 ra.f3)
    ∧ (b 6 = true → Kd.V k49 49 w' 0 (fun k => b 7 = true → k ≠ g9) v73 rb.f3)
    ∧ (b 7 = true → w13_d.heap.size ≤ g9 ∧ w'.heap[g9]? = some (.cells (if b 8 = true then #[.int .u32 rb.f0, .bool rb.f1, .int .i64 rb.f2, v73] else #[.int .u32 0, .bool false, .int .i64 0, .slice none 0 0]) 28 (0, 0)))) HT_.out HW_.out (by kernel_rfl) (by kernel_rfl) ?_ ?_ ?_
  · exact ⟨.bool false, .bool false, 0, by simp only [putSel, Bool.false_eq_true, if_false], Below.refl _ _, fun h => absurd h (by decide), fun h => absurd h (by decide), fun h => absurd h (by decide)⟩
  · skip
    refine steps_cons ?_ ?_
    · rintro b a w' ⟨v70, v73, g9, ha, QB, Q3, Q6, Q7⟩ hb_ hon hoff
      refine ⟨_, rfl, fun K hK => ?_⟩
      have e9 : a.tmps[9]? = some (.pointer (some ⟨gr, 0, none⟩)) := by rw [ha]; exact (putSel_off rfl).trans rfl
      replace ha := Aside0.mk ha
      have hd0 : w'.cell? ⟨gr, 0, none⟩ = some (.int .u32 r.f0) := (blk_cell (blk_below (g := gr) (o := .cells #[.int .u32 r.f0, .bool r.f1, .int .i64 r.f2, .slice A_r r.f3.length c_r] 28 (0, 0)) BK_gr.out QB) 0).trans rfl
      have hd1 : w'.cell? ⟨gr, 1, none⟩ = some (.bool r.f1) := (blk_cell (blk_below (g := gr) (o := .cells #[.int .u32 r.f0, .bool r.f1, .int .i64 r.f2, .slice A_r r.f3.length c_r] 28 (0, 0)) BK_gr.out QB) 1).trans rfl
      have hd2 : w'.cell? ⟨gr, 2, none⟩ = some (.int .i64 r.f2) := (blk_cell (blk_below (g := gr) (o := .cells #[.int .u32 r.f0, .bool r.f1, .int .i64 r.f2, .slice A_r r.f3.length c_r] 28 (0, 0)) BK_gr.out QB) 2).trans rfl
      have hd3 : w'.cell? ⟨gr, 3, none⟩ = some (.slice A_r r.f3.length c_r) := (blk_cell (blk_below (g := gr) (o := .cells #[.int .u32 r.f0, .bool r.f1, .int .i64 r.f2, .slice A_r r.f3.length c_r] 28 (0, 0)) BK_gr.out QB) 3).trans rfl
      refine value_ (w1 := w') (v := .agg #[.int .u32 r.f0, .bool r.f1, .int .i64 r.f2, .slice A_r r.f3.length c_r]) (by rfl) rfl ?_ ?_
      · go_simp
        try rfl
      exact hK.out _ _ ⟨v70, v73, g9, (by rw [ha.out]; exact putSel_upk 0 hb_ rfl rfl rfl), QB, Q3, Q6, Q7⟩
    refine steps_cons ?_ ?_
    · rintro b a w' ⟨v70, v73, g9, ha, QB, Q3, Q6, Q7⟩ hb_ hon hoff
      refine ⟨_, rfl, fun K hK => ?_⟩
      have e7 : a.tmps[7]? = some (.pointer (some ⟨gn, 0, none⟩)) := by rw [ha]; exact (putSel_off rfl).trans rfl
      replace ha := Aside0.mk ha
      refine value_ (w1 := w') (v := .pointer (some ⟨gn, 0, none⟩)) (by rfl) rfl ?_ ?_
      · go_simp
        try rfl
      exact hK.out _ _ ⟨v70, v73, g9, (by rw [ha.out]; exact putSel_upk 1 hb_ rfl rfl rfl), QB, Q3, Q6, Q7⟩
    refine steps_cons ?_ ?_
    · rintro b a w' ⟨v70, v73, g9, ha, QB, Q3, Q6, Q7⟩ hb_ hon hoff
      refine ⟨_, rfl, fun K hK => ?_⟩
      have e68 : a.tmps[68]? = some (.pointer (some ⟨gn, 0, none⟩)) := by rw [ha]; exact putSel_on (e := (1, 68, .pointer (some ⟨gn, 0, none⟩))) 1 rfl rfl (hon 1 (by kernel_rfl)) rfl
      replace ha := Aside0.mk ha
      have hd0 : w'.cell? ⟨gn, 0, none⟩ = some (.int .i64 n0) := (blk_cell (blk_below (g := gn) (o := .cells #[.int .i64 n0, .int .i64 n1] 51 (0, 0)) BK_gn.out QB) 0).trans rfl
      refine value_ (w1 := w') (v := .int .i64 n0) (by rfl) rfl ?_ ?_
      · go_simp
        try rfl
      exact hK.out _ _ ⟨v70, v73, g9, (by rw [ha.out]; exact putSel_upk 2 hb_ rfl rfl rfl), QB, Q3, Q6, Q7⟩
    refine steps_cons ?_ ?_
    · rintro b a w' ⟨v70, v73, g9, ha, QB, Q3, Q6, Q7⟩ hb_ hon hoff
      refine ⟨_, rfl, fun K hK => ?_⟩
      have e67 : a.tmps[67]? = some (.agg #[.int .u32 r.f0, .bool r.f1, .int .i64 r.f2, .slice A_r r.f3.length c_r]) := by rw [ha]; exact putSel_on (e := (0, 67, .agg #[.int .u32 r.f0, .bool r.f1, .int .i64 r.f2, .slice A_r r.f3.length c_r])) 0 rfl rfl (hon 0 (by kernel_rfl)) rfl
      have e69 : a.tmps[69]? = some (.int .i64 n0) := by rw [ha]; exact putSel_on (e := (2, 69, .int .i64 n0)) 2 rfl rfl (hon 2 (by kernel_rfl)) rfl
      replace ha := Aside0.mk ha
      refine goes_ Try.func17 (by kernel_rfl) rfl #[.agg #[.int .u32 r.f0, .bool r.f1, .int .i64 r.f2, .slice A_r r.f3.length c_r], .int .i64 n0] (by rfl) rfl rfl (by first | (simp only [List.map_toArray, List.map_cons, List.map_nil, Act.eval, Array.getD_eq_getD_getElem?, Option.getD_some, e67, e69]; done) | (simp only [List.map_toArray, List.map_cons, List.map_nil, Act.eval, Array.getD_eq_getD_getElem?, Option.getD_some, e67, e69]; rfl)) ?_
      with_reducible refine (tick_R Xhrr.out (by omega) Xha.out _ _ _ (Kd.C_below HCr_V.out QB) HK_r.out).mono ?_
      rintro e w1 ⟨u, rfl, hR, hb⟩
      refine ⟨_, rfl, ?_⟩
      exact hK.out _ _ ⟨u, v73, g9, (by rw [ha.out]; exact putSel_upk 3 hb_ rfl rfl rfl), QB.trans (hb.mono QB.size), fun _ _ => Kd.V_mono (Kd.R_V (Kd.R_bound hR)) (fun _ _ => trivial), fun h => absurd ((hoff 6 (by kernel_rfl)).symm.trans h) (by decide), fun h7 => ⟨(Q7 h7).1, by rw [if_neg (by rw [show up b 3 8 = b 8 from rfl, (hoff 8 (by kernel_rfl))]; decide)]; have h9 := (Q7 h7).2; rw [if_neg (by rw [(hoff 8 (by kernel_rfl))]; decide)] at h9; exact blk_below h9 hb⟩⟩
    refine steps_cons ?_ ?_
    · rintro b a w' ⟨v70, v73, g9, ha, QB, Q3, Q6, Q7⟩ hb_ hon hoff
      refine ⟨_, rfl, fun K hK => ?_⟩
      have e7 : a.tmps[7]? = some (.pointer (some ⟨gn, 0, none⟩)) := by rw [ha]; exact (putSel_off rfl).trans rfl
      replace ha := Aside0.mk ha
      refine value_ (w1 := w') (v := .pointer (some ⟨gn, 1, none⟩)) (by rfl) rfl ?_ ?_
      · go_simp
        try rfl
      exact hK.out _ _ ⟨v70, v73, g9, (by rw [ha.out]; exact putSel_upk 4 hb_ rfl rfl rfl), QB, Q3, Q6, Q7⟩
    refine steps_cons ?_ ?_
    · rintro b a w' ⟨v70, v73, g9, ha, QB, Q3, Q6, Q7⟩ hb_ hon hoff
      refine ⟨_, rfl, fun K hK => ?_⟩
      have e71 : a.tmps[71]? = some (.pointer (some ⟨gn, 1, none⟩)) := by rw [ha]; exact putSel_on (e := (4, 71, .pointer (some ⟨gn, 1, none⟩))) 4 rfl rfl (hon 4 (by kernel_rfl)) rfl
      replace ha := Aside0.mk ha
      have hd0 : w'.cell? ⟨gn, 1, none⟩ = some (.int .i64 n1) := (blk_cell (blk_below (g := gn) (o := .cells #[.int .i64 n0, .int .i64 n1] 51 (0, 0)) BK_gn.out QB) 1).trans rfl
      refine value_ (w1 := w') (v := .int .i64 n1) (by rfl) rfl ?_ ?_
      · go_simp
        try rfl
      exact hK.out _ _ ⟨v70, v73, g9, (by rw [ha.out]; exact putSel_upk 5 hb_ rfl rfl rfl), QB, Q3, Q6, Q7⟩
    refine steps_cons ?_ ?_
    · rintro b a w' ⟨v70, v73, g9, ha, QB, Q3, Q6, Q7⟩ hb_ hon hoff
      refine ⟨_, rfl, fun K hK => ?_⟩
      have e70 : a.tmps[70]? = some (.agg #[.int .u32 ra.f0, .bool ra.f1, .int .i64 ra.f2, v70]) := by rw [ha]; exact putSel_on (e := (3, 70, .agg #[.int .u32 ra.f0, .bool ra.f1, .int .i64 ra.f2, v70])) 3 rfl rfl (hon 3 (by kernel_rfl)) rfl
      have e72 : a.tmps[72]? = some (.int .i64 n1) := by rw [ha]; exact putSel_on (e := (5, 72, .int .i64 n1)) 5 rfl rfl (hon 5 (by kernel_rfl)) rfl
      have V3 := Q3 (hon 3 (by kernel_rfl)) hb_
      obtain ⟨Ar, cr, hq⟩ := Kd.V_slice V3
      rw [hq] at V3
      replace ha := Aside0.mk ha
      refine goes_ Try.func17 (by kernel_rfl) rfl #[.agg #[.int .u32 ra.f0, .bool ra.f1, .int .i64 ra.f2, .slice Ar ra.f3.length cr], .int .i64 n1] (by rfl) rfl rfl (by first | (simp only [List.map_toArray, List.map_cons, List.map_nil, Act.eval, Array.getD_eq_getD_getElem?, Option.getD_some, e70, e72, hq]; done) | (simp only [List.map_toArray, List.map_cons, List.map_nil, Act.eval, Array.getD_eq_getD_getElem?, Option.getD_some, e70, e72, hq]; rfl)) ?_
      with_reducible refine (tick_R Xhra.out (by omega) Xhb.out _ _ _ (Kd.V_reads' V3).2.2 (Kd.V_reads' V3).2.1).mono ?_
      rintro e w1 ⟨u, rfl, hR, hb⟩
      refine ⟨_, rfl, ?_⟩
      exact hK.out _ _ ⟨v70, u, g9, (by rw [ha.out]; exact putSel_upk 6 hb_ rfl rfl rfl), QB.trans (hb.mono QB.size), fun _ h => absurd ((up_self b 6).symm.trans h) (by decide), fun _ => Kd.V_mono (Kd.R_V (Kd.R_bound hR)) (fun k hk h7 e => by have := blk_lt (Q7 h7).2; have := hk.2.1; omega), fun h7 => ⟨(Q7 h7).1, by rw [if_neg (by rw [show up b 6 8 = b 8 from rfl, (hoff 8 (by kernel_rfl))]; decide)]; have h9 := (Q7 h7).2; rw [if_neg (by rw [(hoff 8 (by kernel_rfl))]; decide)] at h9; exact blk_below h9 hb⟩⟩
    refine steps_cons ?_ ?_
    · rintro b a w' ⟨v70, v73, g9, ha, QB, Q3, Q6, Q7⟩ hb_ hon hoff
      refine ⟨_, rfl, fun K hK => ?_⟩
      replace ha := Aside0.mk ha
      refine box_step (by rfl) (N := 12) rfl (cs := #[.int .u32 0, .bool false, .int .i64 0, .slice none 0 0]) (t := 28) ?hr ?_; (case hr => first | (go_simp; done) | (go_simp; rfl))
      intro g hg w1 hbox hb
      exact hK.out _ _ ⟨v70, v73, g, (by rw [ha.out]; exact putSel_upk 7 hb_ rfl rfl rfl), QB.trans (hb.mono QB.size), fun h h6 => Kd.V_below (Q3 h h6) hb, fun h6 => Kd.V_mono (Kd.V_below (Kd.V_bound (Q6 h6)) hb) (fun k hk _ e => by have := hk.2; omega), fun _ => ⟨by have := QB.size; omega, by rw [if_neg (by rw [show up b 7 8 = b 8 from rfl, (hoff 8 (by kernel_rfl))]; decide)]; exact hbox⟩⟩
    refine steps_cons ?_ ?_
    · rintro b a w' ⟨v70, v73, g9, ha, QB, Q3, Q6, Q7⟩ hb_ hon hoff
      refine ⟨_, rfl, fun K hK => ?_⟩
      have e12 : a.tmps[12]? = some (.pointer (some ⟨g9, 0, none⟩)) := by rw [ha]; exact putSel_on (e := (7, 12, .pointer (some ⟨g9, 0, none⟩))) 7 rfl rfl (hon 7 (by kernel_rfl)) rfl
      have e73 : a.tmps[73]? = some (.agg #[.int .u32 rb.f0, .bool rb.f1, .int .i64 rb.f2, v73]) := by rw [ha]; exact putSel_on (e := (6, 73, .agg #[.int .u32 rb.f0, .bool rb.f1, .int .i64 rb.f2, v73])) 6 rfl rfl (hon 6 (by kernel_rfl)) rfl
      replace ha := Aside0.mk ha
      have V6 := Q6 (hon 6 (by kernel_rfl))
      obtain ⟨g1, g4⟩ := Q7 (hon 7 (by kernel_rfl))
      rw [if_neg (by rw [hb_]; decide)] at g4
      have hd0 : w'.cell? ⟨g9, 0, none⟩ = some (.int .u32 0) := (blk_cell g4 0).trans rfl
      have hf0 := blk_frozen g4 0
      have hd1 : w'.cell? ⟨g9, 1, none⟩ = some (.bool false) := (blk_cell g4 1).trans rfl
      have hf1 := blk_frozen g4 1
      have hd2 : w'.cell? ⟨g9, 2, none⟩ = some (.int .i64 0) := (blk_cell g4 2).trans rfl
      have hf2 := blk_frozen g4 2
      have hd3 : w'.cell? ⟨g9, 3, none⟩ = some (.slice none 0 0) := (blk_cell g4 3).trans rfl
      have hf3 := blk_frozen g4 3
      obtain ⟨As, cs, rfl⟩ := Kd.V_slice V6
      refine store_step (w1 := ((((w'.setCell ⟨g9, 0, none⟩ (.int .u32 rb.f0)).setCell ⟨g9, 1, none⟩ (.bool rb.f1)).setCell ⟨g9, 2, none⟩ (.int .i64 rb.f2)).setCell ⟨g9, 3, none⟩ (.slice As rb.f3.length cs))) (by rfl) rfl ?_ ?_
      · go_simp
        try rfl
      exact hK.out _ _ ⟨v70, .slice As rb.f3.length cs, g9, (by rw [ha.out]; exact (putSel_same rfl).symm), (below_set (below_set (below_set (below_set QB g1) g1) g1) g1), fun _ h => absurd ((hon 6 (by kernel_rfl)).symm.trans h) (by decide), fun _ => Kd.V_mono ((Kd.V_far (p := ⟨g9, 3, none⟩) (Kd.V_far (p := ⟨g9, 2, none⟩) (Kd.V_far (p := ⟨g9, 1, none⟩) (Kd.V_far (p := ⟨g9, 0, none⟩) V6 (fun _ hk => hk (hon 7 (by kernel_rfl))) (.int .u32 rb.f0)) (fun _ hk => hk (hon 7 (by kernel_rfl))) (.bool rb.f1)) (fun _ hk => hk (hon 7 (by kernel_rfl))) (.int .i64 rb.f2)) (fun _ hk => hk (hon 7 (by kernel_rfl))) (.slice As rb.f3.length cs))) (fun _ hk => hk), fun _ => ⟨g1, by rw [if_pos (up_self b 8)]; exact (blk_put (cs := #[.int .u32 rb.f0, .bool rb.f1, .int .i64 rb.f2, .slice none 0 0]) (blk_put (cs := #[.int .u32 rb.f0, .bool rb.f1, .int .i64 0, .slice none 0 0]) (blk_put (cs := #[.int .u32 rb.f0, .bool false, .int .i64 0, .slice none 0 0]) (blk_put (cs := #[.int .u32 0, .bool false, .int .i64 0, .slice none 0 0]) g4 0 (.int .u32 rb.f0) rfl) 1 (.bool rb.f1) rfl) 2 (.int .i64 rb.f2) rfl) 3 (.slice As rb.f3.length cs) rfl)⟩⟩
    exact steps_nil
  rintro b a w9 hall ⟨v70, v73, g9, ha, QB, Q3, Q6, Q7⟩
  have hb0_ := hall 0 (by kernel_rfl)
  have hb1_ := hall 1 (by kernel_rfl)
  have hb2_ := hall 2 (by kernel_rfl)
  have hb3_ := hall 3 (by kernel_rfl)
  have hb4_ := hall 4 (by kernel_rfl)
  have hb5_ := hall 5 (by kernel_rfl)
  have hb6_ := hall 6 (by kernel_rfl)
  have hb7_ := hall 7 (by kernel_rfl)
  have hb8_ := hall 8 (by kernel_rfl)
  subst ha
  simp only [putSel, hb0_, hb1_, hb2_, hb3_, hb4_, hb5_, hb6_, hb7_, if_true, Act.put, List.setIfInBounds_toArray, List.set_cons_zero, List.set_cons_succ]
  have V6 := Q6 hb6_
  obtain ⟨g1, g4⟩ := Q7 hb7_
  rw [if_pos hb8_] at g4
  obtain ⟨A_b, c_b, rfl⟩ := Kd.V_slice V6
  have HC_b := Aside0.mk (Kd.V_reads' V6).2.2
  have HK_b := Aside0.mk (Kd.V_reads' V6).2.1
  have hB := QB
  clear Q3 Q6 Q7 V6 hall hb0_ hb1_ hb2_ hb3_ hb4_ hb5_ hb6_ hb7_ hb8_
  have nHB := Aside0.mk (HB.out.trans (hB.mono HB.out.size))
  clear HB
  have HB := nHB
  clear nHB
  clear hc_gp_0 hf_gp_0 hc_gp_1 hf_gp_1 hc_gp_2 hf_gp_2 hc_gp_3 hf_gp_3 hc_gp_4 hf_gp_4 hc_gp_5 hf_gp_5 hc_gp_6 hf_gp_6 hc_gp_7 hf_gp_7 hc_gp_8 hf_gp_8 hc_gp_9 hf_gp_9
  have nBK := Aside0.mk (blk_below (g := gp) (o := .cells #[.int .i64 t.f0, .int .i64 t.f1, .int .u32 x.f0, .bool x.f1, .int .i64 x.f2, .slice A_x x.f3.length c_x, .int .u8 kind, .slice A_l l.length c_l, .int .i64 n0, .int .i64 n1] 53 (0, 0)) BK_gp.out hB)
  clear BK_gp
  have BK_gp := nBK
  clear nBK
  have hc_gp_0 : w9.cell? ⟨gp, 0, none⟩ = some (.int .i64 t.f0) := (blk_cell BK_gp.out 0).trans rfl
  have hf_gp_0 := blk_frozen BK_gp.out 0
  have hc_gp_1 : w9.cell? ⟨gp, 1, none⟩ = some (.int .i64 t.f1) := (blk_cell BK_gp.out 1).trans rfl
  have hf_gp_1 := blk_frozen BK_gp.out 1
  have hc_gp_2 : w9.cell? ⟨gp, 2, none⟩ = some (.int .u32 x.f0) := (blk_cell BK_gp.out 2).trans rfl
  have hf_gp_2 := blk_frozen BK_gp.out 2
  have hc_gp_3 : w9.cell? ⟨gp, 3, none⟩ = some (.bool x.f1) := (blk_cell BK_gp.out 3).trans rfl
  have hf_gp_3 := blk_frozen BK_gp.out 3
  have hc_gp_4 : w9.cell? ⟨gp, 4, none⟩ = some (.int .i64 x.f2) := (blk_cell BK_gp.out 4).trans rfl
  have hf_gp_4 := blk_frozen BK_gp.out 4
  have hc_gp_5 : w9.cell? ⟨gp, 5, none⟩ = some (.slice A_x x.f3.length c_x) := (blk_cell BK_gp.out 5).trans rfl
  have hf_gp_5 := blk_frozen BK_gp.out 5
  have hc_gp_6 : w9.cell? ⟨gp, 6, none⟩ = some (.int .u8 kind) := (blk_cell BK_gp.out 6).trans rfl
  have hf_gp_6 := blk_frozen BK_gp.out 6
  have hc_gp_7 : w9.cell? ⟨gp, 7, none⟩ = some (.slice A_l l.length c_l) := (blk_cell BK_gp.out 7).trans rfl
  have hf_gp_7 := blk_frozen BK_gp.out 7
  have hc_gp_8 : w9.cell? ⟨gp, 8, none⟩ = some (.int .i64 n0) := (blk_cell BK_gp.out 8).trans rfl
  have hf_gp_8 := blk_frozen BK_gp.out 8
  have hc_gp_9 : w9.cell? ⟨gp, 9, none⟩ = some (.int .i64 n1) := (blk_cell BK_gp.out 9).trans rfl
  have hf_gp_9 := blk_frozen BK_gp.out 9
  clear hc_gt_0 hf_gt_0 hc_gt_1 hf_gt_1
  have nBK := Aside0.mk (blk_below (g := gt) (o := .cells #[.int .i64 t.f0, .int .i64 t.f1] 23 (0, 0)) BK_gt.out hB)
  clear BK_gt
  have BK_gt := nBK
  clear nBK
  have hc_gt_0 : w9.cell? ⟨gt, 0, none⟩ = some (.int .i64 t.f0) := (blk_cell BK_gt.out 0).trans rfl
  have hf_gt_0 := blk_frozen BK_gt.out 0
  have hc_gt_1 : w9.cell? ⟨gt, 1, none⟩ = some (.int .i64 t.f1) := (blk_cell BK_gt.out 1).trans rfl
  have hf_gt_1 := blk_frozen BK_gt.out 1
  clear hc_gm_0 hf_gm_0 hc_gm_1 hf_gm_1 hc_gm_2 hf_gm_2 hc_gm_3 hf_gm_3
  have nBK := Aside0.mk (blk_below (g := gm) (o := .cells #[.int .u32 x.f0, .bool x.f1, .int .i64 x.f2, .slice A_x x.f3.length c_x] 28 (0, 0)) BK_gm.out hB)
  clear BK_gm
  have BK_gm := nBK
  clear nBK
  have hc_gm_0 : w9.cell? ⟨gm, 0, none⟩ = some (.int .u32 x.f0) := (blk_cell BK_gm.out 0).trans rfl
  have hf_gm_0 := blk_frozen BK_gm.out 0
  have hc_gm_1 : w9.cell? ⟨gm, 1, none⟩ = some (.bool x.f1) := (blk_cell BK_gm.out 1).trans rfl
  have hf_gm_1 := blk_frozen BK_gm.out 1
  have hc_gm_2 : w9.cell? ⟨gm, 2, none⟩ = some (.int .i64 x.f2) := (blk_cell BK_gm.out 2).trans rfl
  have hf_gm_2 := blk_frozen BK_gm.out 2
  have hc_gm_3 : w9.cell? ⟨gm, 3, none⟩ = some (.slice A_x x.f3.length c_x) := (blk_cell BK_gm.out 3).trans rfl
  have hf_gm_3 := blk_frozen BK_gm.out 3
  clear hc_gn_0 hf_gn_0 hc_gn_1 hf_gn_1
  have nBK := Aside0.mk (blk_below (g := gn) (o := .cells #[.int .i64 n0, .int .i64 n1] 51 (0, 0)) BK_gn.out hB)
  clear BK_gn
  have BK_gn := nBK
  clear nBK
  have hc_gn_0 : w9.cell? ⟨gn, 0, none⟩ = some (.int .i64 n0) := (blk_cell BK_gn.out 0).trans rfl
  have hf_gn_0 := blk_frozen BK_gn.out 0
  have hc_gn_1 : w9.cell? ⟨gn, 1, none⟩ = some (.int .i64 n1) := (blk_cell BK_gn.out 1).trans rfl
  have hf_gn_1 := blk_frozen BK_gn.out 1
  clear hc_gr_0 hf_gr_0 hc_gr_1 hf_gr_1 hc_gr_2 hf_gr_2 hc_gr_3 hf_gr_3
  have nBK := Aside0.mk (blk_below (g := gr) (o := .cells #[.int .u32 r.f0, .bool r.f1, .int .i64 r.f2, .slice A_r r.f3.length c_r] 28 (0, 0)) BK_gr.out hB)
  clear BK_gr
  have BK_gr := nBK
  clear nBK
  have hc_gr_0 : w9.cell? ⟨gr, 0, none⟩ = some (.int .u32 r.f0) := (blk_cell BK_gr.out 0).trans rfl
  have hf_gr_0 := blk_frozen BK_gr.out 0
  have hc_gr_1 : w9.cell? ⟨gr, 1, none⟩ = some (.bool r.f1) := (blk_cell BK_gr.out 1).trans rfl
  have hf_gr_1 := blk_frozen BK_gr.out 1
  have hc_gr_2 : w9.cell? ⟨gr, 2, none⟩ = some (.int .i64 r.f2) := (blk_cell BK_gr.out 2).trans rfl
  have hf_gr_2 := blk_frozen BK_gr.out 2
  have hc_gr_3 : w9.cell? ⟨gr, 3, none⟩ = some (.slice A_r r.f3.length c_r) := (blk_cell BK_gr.out 3).trans rfl
  have hf_gr_3 := blk_frozen BK_gr.out 3
  have nHC := Aside0.mk (Kd.C_below HC_r.out hB)
  clear HC_r
  have HC_r := nHC
  clear nHC
  have BK_g9 := Aside0.mk g4
  clear hB g1 g4 QB HCr_V
  have hc_g9_0 : w9.cell? ⟨g9, 0, none⟩ = some (.int .u32 rb.f0) := (blk_cell BK_g9.out 0).trans rfl
  have hf_g9_0 := blk_frozen BK_g9.out 0
  have hc_g9_1 : w9.cell? ⟨g9, 1, none⟩ = some (.bool rb.f1) := (blk_cell BK_g9.out 1).trans rfl
  have hf_g9_1 := blk_frozen BK_g9.out 1
  have hc_g9_2 : w9.cell? ⟨g9, 2, none⟩ = some (.int .i64 rb.f2) := (blk_cell BK_g9.out 2).trans rfl
  have hf_g9_2 := blk_frozen BK_g9.out 2
  have hc_g9_3 : w9.cell? ⟨g9, 3, none⟩ = some (.slice A_b rb.f3.length c_b) := (blk_cell BK_g9.out 3).trans rfl
  have hf_g9_3 := blk_frozen BK_g9.out 3
  have XCC := Aside0.mk (show tickM r (wrap64 (n0 + n1)) = rb by rw [w64 (i := n0 + n1) (by omega) (by omega)]; exact Xhcc.out)
  have X0C := Aside0.mk (show 0 ≤ wrap64 (n0 + n1) by rw [w64 (i := n0 + n1) (by omega) (by omega)]; omega)
  go_upto_region 11 with (fail)
  refine start_ (n := 27) (S := fun w' => w'.cell? ⟨gm, 0, none⟩ = some (.int .u32 x.f0) ∧ w'.cell? ⟨gm, 1, none⟩ = some (.bool x.f1) ∧ w'.cell? ⟨gm, 2, none⟩ = some (.int .i64 x.f2) ∧ w'.cell? ⟨gm, 3, none⟩ = some (.slice A_x x.f3.length c_x) ∧ w'.cell? ⟨gn, 0, none⟩ = some (.int .i64 n0) ∧ w'.cell? ⟨gn, 1, none⟩ = some (.int .i64 n1) ∧ w'.cell? ⟨gr, 0, none⟩ = some (.int .u32 r.f0) ∧ w'.cell? ⟨gr, 1, none⟩ = some (.bool r.f1) ∧ w'.cell? ⟨gr, 2, none⟩ = some (.int .i64 r.f2) ∧ w'.cell? ⟨gr, 3, none⟩ = some (.slice A_r r.f3.length c_r) ∧ w'.cell? ⟨g9, 0, none⟩ = some (.int .u32 rb.f0) ∧ w'.cell? ⟨g9, 1, none⟩ = some (.bool rb.f1) ∧ w'.cell? ⟨g9, 2, none⟩ = some (.int .i64 rb.f2) ∧ w'.cell? ⟨g9, 3, none⟩ = some (.slice A_b rb.f3.length c_b)) (ds := []) #[false, false, false, false, false, false, false, false, false, false, false, false, false, false, false, false, false, false, false, false, false, false, false, false, false, false, false] (by kernel_rfl) rfl rfl ⟨hc_gm_0, hc_gm_1, hc_gm_2, hc_gm_3, hc_gn_0, hc_gn_1, hc_gr_0, hc_gr_1, hc_gr_2, hc_gr_3, hc_g9_0, hc_g9_1, hc_g9_2, hc_g9_3⟩ (fun hHeld => ?_); refine with_tabW ms_t11 ms_b11 (fun HT_ HW_ => ?_)
  have hB : Below w9.heap.size w9 w9.drew := below_drew (Below.refl _ _)
  generalize w9.drew = w14_ at hB hHeld ⊢
  have nHB := Aside0.mk (HB.out.trans (hB.mono HB.out.size))
  clear HB
  have HB := nHB
  clear nHB
  clear hc_gp_0 hf_gp_0 hc_gp_1 hf_gp_1 hc_gp_2 hf_gp_2 hc_gp_3 hf_gp_3 hc_gp_4 hf_gp_4 hc_gp_5 hf_gp_5 hc_gp_6 hf_gp_6 hc_gp_7 hf_gp_7 hc_gp_8 hf_gp_8 hc_gp_9 hf_gp_9
  have nBK := Aside0.mk (blk_below (g := gp) (o := .cells #[.int .i64 t.f0, .int .i64 t.f1, .int .u32 x.f0, .bool x.f1, .int .i64 x.f2, .slice A_x x.f3.length c_x, .int .u8 kind, .slice A_l l.length c_l, .int .i64 n0, .int .i64 n1] 53 (0, 0)) BK_gp.out hB)
  clear BK_gp
  have BK_gp := nBK
  clear nBK
  have hc_gp_0 : w14_.cell? ⟨gp, 0, none⟩ = some (.int .i64 t.f0) := (blk_cell BK_gp.out 0).trans rfl
  have hf_gp_0 := blk_frozen BK_gp.out 0
  have hc_gp_1 : w14_.cell? ⟨gp, 1, none⟩ = some (.int .i64 t.f1) := (blk_cell BK_gp.out 1).trans rfl
  have hf_gp_1 := blk_frozen BK_gp.out 1
  have hc_gp_2 : w14_.cell? ⟨gp, 2, none⟩ = some (.int .u32 x.f0) := (blk_cell BK_gp.out 2).trans rfl
  have hf_gp_2 := blk_frozen BK_gp.out 2
  have hc_gp_3 : w14_.cell? ⟨gp, 3, none⟩ = some (.bool x.f1) := (blk_cell BK_gp.out 3).trans rfl
  have hf_gp_3 := blk_frozen BK_gp.out 3
  have hc_gp_4 : w14_.cell? ⟨gp, 4, none⟩ = some (.int .i64 x.f2) := (blk_cell BK_gp.out 4).trans rfl
  have hf_gp_4 := blk_frozen BK_gp.out 4
  have hc_gp_5 : w14_.cell? ⟨gp, 5, none⟩ = some (.slice A_x x.f3.length c_x) := (blk_cell BK_gp.out 5).trans rfl
  have hf_gp_5 := blk_frozen BK_gp.out 5
  have hc_gp_6 : w14_.cell? ⟨gp, 6, none⟩ = some (.int .u8 kind) := (blk_cell BK_gp.out 6).trans rfl
  have hf_gp_6 := blk_frozen BK_gp.out 6
  have hc_gp_7 : w14_.cell? ⟨gp, 7, none⟩ = some (.slice A_l l.length c_l) := (blk_cell BK_gp.out 7).trans rfl
  have hf_gp_7 := blk_frozen BK_gp.out 7
  have hc_gp_8 : w14_.cell? ⟨gp, 8, none⟩ = some (.int .i64 n0) := (blk_cell BK_gp.out 8).trans rfl
  have hf_gp_8 := blk_frozen BK_gp.out 8
  have hc_gp_9 : w14_.cell? ⟨gp, 9, none⟩ = some (.int .i64 n1) := (blk_cell BK_gp.out 9).trans rfl
  have hf_gp_9 := blk_frozen BK_gp.out 9
  clear hc_gt_0 hf_gt_0 hc_gt_1 hf_gt_1
  have nBK := Aside0.mk (blk_below (g := gt) (o := .cells #[.int .i64 t.f0, .int .i64 t.f1] 23 (0, 0)) BK_gt.out hB)
  clear BK_gt
  have BK_gt := nBK
  clear nBK
  have hc_gt_0 : w14_.cell? ⟨gt, 0, none⟩ = some (.int .i64 t.f0) := (blk_cell BK_gt.out 0).trans rfl
  have hf_gt_0 := blk_frozen BK_gt.out 0
  have hc_gt_1 : w14_.cell? ⟨gt, 1, none⟩ = some (.int .i64 t.f1) := (blk_cell BK_gt.out 1).trans rfl
  have hf_gt_1 := blk_frozen BK_gt.out 1
  clear hc_gm_0 hf_gm_0 hc_gm_1 hf_gm_1 hc_gm_2 hf_gm_2 hc_gm_3 hf_gm_3
  have nBK := Aside0.mk (blk_below (g := gm) (o := .cells #[.int .u32 x.f0, .bool x.f1, .int .i64 x.f2, .slice A_x x.f3.length c_x] 28 (0, 0)) BK_gm.out hB)
  clear BK_gm
  have BK_gm := nBK
  clear nBK
  have hc_gm_0 : w14_.cell? ⟨gm, 0, none⟩ = some (.int .u32 x.f0) := (blk_cell BK_gm.out 0).trans rfl
  have hf_gm_0 := blk_frozen BK_gm.out 0
  have hc_gm_1 : w14_.cell? ⟨gm, 1, none⟩ = some (.bool x.f1) := (blk_cell BK_gm.out 1).trans rfl
  have hf_gm_1 := blk_frozen BK_gm.out 1
  have hc_gm_2 : w14_.cell? ⟨gm, 2, none⟩ = some (.int .i64 x.f2) := (blk_cell BK_gm.out 2).trans rfl
  have hf_gm_2 := blk_frozen BK_gm.out 2
  have hc_gm_3 : w14_.cell? ⟨gm, 3, none⟩ = some (.slice A_x x.f3.length c_x) := (blk_cell BK_gm.out 3).trans rfl
  have hf_gm_3 := blk_frozen BK_gm.out 3
  clear hc_gn_0 hf_gn_0 hc_gn_1 hf_gn_1
  have nBK := Aside0.mk (blk_below (g := gn) (o := .cells #[.int .i64 n0, .int .i64 n1] 51 (0, 0)) BK_gn.out hB)
  clear BK_gn
  have BK_gn := nBK
  clear nBK
  have hc_gn_0 : w14_.cell? ⟨gn, 0, none⟩ = some (.int .i64 n0) := (blk_cell BK_gn.out 0).trans rfl
  have hf_gn_0 := blk_frozen BK_gn.out 0
  have hc_gn_1 : w14_.cell? ⟨gn, 1, none⟩ = some (.int .i64 n1) := (blk_cell BK_gn.out 1).trans rfl
  have hf_gn_1 := blk_frozen BK_gn.out 1
  clear hc_gr_0 hf_gr_0 hc_gr_1 hf_gr_1 hc_gr_2 hf_gr_2 hc_gr_3 hf_gr_3
  have nBK := Aside0.mk (blk_below (g := gr) (o := .cells #[.int .u32 r.f0, .bool r.f1, .int .i64 r.f2, .slice A_r r.f3.length c_r] 28 (0, 0)) BK_gr.out hB)
  clear BK_gr
  have BK_gr := nBK
  clear nBK
  have hc_gr_0 : w14_.cell? ⟨gr, 0, none⟩ = some (.int .u32 r.f0) := (blk_cell BK_gr.out 0).trans rfl
  have hf_gr_0 := blk_frozen BK_gr.out 0
  have hc_gr_1 : w14_.cell? ⟨gr, 1, none⟩ = some (.bool r.f1) := (blk_cell BK_gr.out 1).trans rfl
  have hf_gr_1 := blk_frozen BK_gr.out 1
  have hc_gr_2 : w14_.cell? ⟨gr, 2, none⟩ = some (.int .i64 r.f2) := (blk_cell BK_gr.out 2).trans rfl
  have hf_gr_2 := blk_frozen BK_gr.out 2
  have hc_gr_3 : w14_.cell? ⟨gr, 3, none⟩ = some (.slice A_r r.f3.length c_r) := (blk_cell BK_gr.out 3).trans rfl
  have hf_gr_3 := blk_frozen BK_gr.out 3
  clear hc_g9_0 hf_g9_0 hc_g9_1 hf_g9_1 hc_g9_2 hf_g9_2 hc_g9_3 hf_g9_3
  have nBK := Aside0.mk (blk_below (g := g9) (o := .cells #[.int .u32 rb.f0, .bool rb.f1, .int .i64 rb.f2, .slice A_b rb.f3.length c_b] 28 (0, 0)) BK_g9.out hB)
  clear BK_g9
  have BK_g9 := nBK
  clear nBK
  have hc_g9_0 : w14_.cell? ⟨g9, 0, none⟩ = some (.int .u32 rb.f0) := (blk_cell BK_g9.out 0).trans rfl
  have hf_g9_0 := blk_frozen BK_g9.out 0
  have hc_g9_1 : w14_.cell? ⟨g9, 1, none⟩ = some (.bool rb.f1) := (blk_cell BK_g9.out 1).trans rfl
  have hf_g9_1 := blk_frozen BK_g9.out 1
  have hc_g9_2 : w14_.cell? ⟨g9, 2, none⟩ = some (.int .i64 rb.f2) := (blk_cell BK_g9.out 2).trans rfl
  have hf_g9_2 := blk_frozen BK_g9.out 2
  have hc_g9_3 : w14_.cell? ⟨g9, 3, none⟩ = some (.slice A_b rb.f3.length c_b) := (blk_cell BK_g9.out 3).trans rfl
  have hf_g9_3 := blk_frozen BK_g9.out 3
  have nHC := Aside0.mk (Kd.C_below HC_r.out hB)
  clear HC_r
  have HC_r := nHC
  clear nHC
  have nHC := Aside0.mk (Kd.C_below HC_b.out hB)
  clear HC_b
  have HC_b := nHC
  clear nHC
  clear hB
  refine pure_ (i := 0) (N := some 74) (v := ?_) (a' := ?_) #[true, false, false, false, false, false, false, false, false, false, false, false, false, false, false, false, false, false, false, false, false, false, false, false, false, false, false] rfl rfl (any_of HT_.out (by kernel_rfl)) (fun _ _ _ h => h) (Or.inl ⟨by rfl, ?_⟩) ?_ ?_
  rotate_left
  · intro w'
    go_simp
    with_reducible rfl
  rotate_left
  · simp only [Act.put, List.setIfInBounds_toArray, List.set_cons_zero, List.set_cons_succ, i64_w, i32_w]
    rfl
  refine pure_ (i := 1) (N := some 75) (v := ?_) (a' := ?_) #[true, true, false, false, false, false, false, false, false, false, false, false, false, false, false, false, false, false, false, false, false, false, false, false, false, false, false] rfl rfl (any_of HT_.out (by kernel_rfl)) (fun _ _ _ h => h) (Or.inl ⟨by rfl, ?_⟩) ?_ ?_
  rotate_left
  · intro w'
    go_simp
    with_reducible rfl
  rotate_left
  · simp only [Act.put, List.setIfInBounds_toArray, List.set_cons_zero, List.set_cons_succ, i64_w, i32_w]
    rfl
  refine take_ (i := 2) (N := some 76) (v := ?_) (a' := ?_) #[true, true, true, false, false, false, false, false, false, false, false, false, false, false, false, false, false, false, false, false, false, false, false, false, false, false, false] rfl rfl (take_ofW HT_.out HW_.out (by kernel_rfl)) (fun _ _ _ h => h) (Or.inl ⟨by rfl, ?_⟩) hHeld ?_ ?_
  rotate_left
  · rintro w' ⟨s0, s1, s2, s3, s4, s5, s6, s7, s8, s9, s10, s11, s12, s13⟩
    go_simp
    with_reducible rfl
  rotate_left
  · simp only [Act.put, List.setIfInBounds_toArray, List.set_cons_zero, List.set_cons_succ, i64_w, i32_w]
    rfl
  refine one_ (i := 3) (N := some 77) #[true, true, true, true, false, false, false, false, false, false, false, false, false, false, false, false, false, false, false, false, false, false, false, false, false, false, false] rfl rfl (one_of HT_.out (by kernel_rfl)) (by decide) (fun K hK => ?_)
  refine goes_ Try.func11 (by kernel_rfl) rfl #[.agg #[.int .u32 r.f0, .bool r.f1, .int .i64 r.f2, .slice A_r r.f3.length c_r]] (by rfl) rfl rfl (by (try simp only [List.map_toArray, List.map_cons, List.map_nil]); first | done | rfl | (simp only [List.length_drop, List.length_take]; rfl)) ?_
  with_reducible refine (right_w (b := true) (by simp [Xhrr.out]) _ _ _ HC_r.out HK_r.out).mono ?_
  rintro e_ w15_ ⟨rfl, hB⟩
  refine ⟨_, rfl, ?_⟩
  have nHB := Aside0.mk (HB.out.trans (hB.mono HB.out.size))
  clear HB
  have HB := nHB
  clear nHB
  clear hc_gp_0 hf_gp_0 hc_gp_1 hf_gp_1 hc_gp_2 hf_gp_2 hc_gp_3 hf_gp_3 hc_gp_4 hf_gp_4 hc_gp_5 hf_gp_5 hc_gp_6 hf_gp_6 hc_gp_7 hf_gp_7 hc_gp_8 hf_gp_8 hc_gp_9 hf_gp_9
  have nBK := Aside0.mk (blk_below (g := gp) (o := .cells #[.int .i64 t.f0, .int .i64 t.f1, .int .u32 x.f0, .bool x.f1, .int .i64 x.f2, .slice A_x x.f3.length c_x, .int .u8 kind, .slice A_l l.length c_l, .int .i64 n0, .int .i64 n1] 53 (0, 0)) BK_gp.out hB)
  clear BK_gp
  have BK_gp := nBK
  clear nBK
  have hc_gp_0 : w15_.cell? ⟨gp, 0, none⟩ = some (.int .i64 t.f0) := (blk_cell BK_gp.out 0).trans rfl
  have hf_gp_0 := blk_frozen BK_gp.out 0
  have hc_gp_1 : w15_.cell? ⟨gp, 1, none⟩ = some (.int .i64 t.f1) := (blk_cell BK_gp.out 1).trans rfl
  have hf_gp_1 := blk_frozen BK_gp.out 1
  have hc_gp_2 : w15_.cell? ⟨gp, 2, none⟩ = some (.int .u32 x.f0) := (blk_cell BK_gp.out 2).trans rfl
  have hf_gp_2 := blk_frozen BK_gp.out 2
  have hc_gp_3 : w15_.cell? ⟨gp, 3, none⟩ = some (.bool x.f1) := (blk_cell BK_gp.out 3).trans rfl
  have hf_gp_3 := blk_frozen BK_gp.out 3
  have hc_gp_4 : w15_.cell? ⟨gp, 4, none⟩ = some (.int .i64 x.f2) := (blk_cell BK_gp.out 4).trans rfl
  have hf_gp_4 := blk_frozen BK_gp.out 4
  have hc_gp_5 : w15_.cell? ⟨gp, 5, none⟩ = some (.slice A_x x.f3.length c_x) := (blk_cell BK_gp.out 5).trans rfl
  have hf_gp_5 := blk_frozen BK_gp.out 5
  have hc_gp_6 : w15_.cell? ⟨gp, 6, none⟩ = some (.int .u8 kind) := (blk_cell BK_gp.out 6).trans rfl
  have hf_gp_6 := blk_frozen BK_gp.out 6
  have hc_gp_7 : w15_.cell? ⟨gp, 7, none⟩ = some (.slice A_l l.length c_l) := (blk_cell BK_gp.out 7).trans rfl
  have hf_gp_7 := blk_frozen BK_gp.out 7
  have hc_gp_8 : w15_.cell? ⟨gp, 8, none⟩ = some (.int .i64 n0) := (blk_cell BK_gp.out 8).trans rfl
  have hf_gp_8 := blk_frozen BK_gp.out 8
  have hc_gp_9 : w15_.cell? ⟨gp, 9, none⟩ = some (.int .i64 n1) := (blk_cell BK_gp.out 9).trans rfl
  have hf_gp_9 := blk_frozen BK_gp.out 9
  clear hc_gt_0 hf_gt_0 hc_gt_1 hf_gt_1
  have nBK := Aside0.mk (blk_below (g := gt) (o := .cells #[.int .i64 t.f0, .int .i64 t.f1] 23 (0, 0)) BK_gt.out hB)
  clear BK_gt
  have BK_gt := nBK
  clear nBK
  have hc_gt_0 : w15_.cell? ⟨gt, 0, none⟩ = some (.int .i64 t.f0) := (blk_cell BK_gt.out 0).trans rfl
  have hf_gt_0 := blk_frozen BK_gt.out 0
  have hc_gt_1 : w15_.cell? ⟨gt, 1, none⟩ = some (.int .i64 t.f1) := (blk_cell BK_gt.out 1).trans rfl
  have hf_gt_1 := blk_frozen BK_gt.out 1
  clear hc_gm_0 hf_gm_0 hc_gm_1 hf_gm_1 hc_gm_2 hf_gm_2 hc_gm_3 hf_gm_3
  have nBK := Aside0.mk (blk_below (g := gm) (o := .cells #[.int .u32 x.f0, .bool x.f1, .int .i64 x.f2, .slice A_x x.f3.length c_x] 28 (0, 0)) BK_gm.out hB)
  clear BK_gm
  have BK_gm := nBK
  clear nBK
  have hc_gm_0 : w15_.cell? ⟨gm, 0, none⟩ = some (.int .u32 x.f0) := (blk_cell BK_gm.out 0).trans rfl
  have hf_gm_0 := blk_frozen BK_gm.out 0
  have hc_gm_1 : w15_.cell? ⟨gm, 1, none⟩ = some (.bool x.f1) := (blk_cell BK_gm.out 1).trans rfl
  have hf_gm_1 := blk_frozen BK_gm.out 1
  have hc_gm_2 : w15_.cell? ⟨gm, 2, none⟩ = some (.int .i64 x.f2) := (blk_cell BK_gm.out 2).trans rfl
  have hf_gm_2 := blk_frozen BK_gm.out 2
  have hc_gm_3 : w15_.cell? ⟨gm, 3, none⟩ = some (.slice A_x x.f3.length c_x) := (blk_cell BK_gm.out 3).trans rfl
  have hf_gm_3 := blk_frozen BK_gm.out 3
  clear hc_gn_0 hf_gn_0 hc_gn_1 hf_gn_1
  have nBK := Aside0.mk (blk_below (g := gn) (o := .cells #[.int .i64 n0, .int .i64 n1] 51 (0, 0)) BK_gn.out hB)
  clear BK_gn
  have BK_gn := nBK
  clear nBK
  have hc_gn_0 : w15_.cell? ⟨gn, 0, none⟩ = some (.int .i64 n0) := (blk_cell BK_gn.out 0).trans rfl
  have hf_gn_0 := blk_frozen BK_gn.out 0
  have hc_gn_1 : w15_.cell? ⟨gn, 1, none⟩ = some (.int .i64 n1) := (blk_cell BK_gn.out 1).trans rfl
  have hf_gn_1 := blk_frozen BK_gn.out 1
  clear hc_gr_0 hf_gr_0 hc_gr_1 hf_gr_1 hc_gr_2 hf_gr_2 hc_gr_3 hf_gr_3
  have nBK := Aside0.mk (blk_below (g := gr) (o := .cells #[.int .u32 r.f0, .bool r.f1, .int .i64 r.f2, .slice A_r r.f3.length c_r] 28 (0, 0)) BK_gr.out hB)
  clear BK_gr
  have BK_gr := nBK
  clear nBK
  have hc_gr_0 : w15_.cell? ⟨gr, 0, none⟩ = some (.int .u32 r.f0) := (blk_cell BK_gr.out 0).trans rfl
  have hf_gr_0 := blk_frozen BK_gr.out 0
  have hc_gr_1 : w15_.cell? ⟨gr, 1, none⟩ = some (.bool r.f1) := (blk_cell BK_gr.out 1).trans rfl
  have hf_gr_1 := blk_frozen BK_gr.out 1
  have hc_gr_2 : w15_.cell? ⟨gr, 2, none⟩ = some (.int .i64 r.f2) := (blk_cell BK_gr.out 2).trans rfl
  have hf_gr_2 := blk_frozen BK_gr.out 2
  have hc_gr_3 : w15_.cell? ⟨gr, 3, none⟩ = some (.slice A_r r.f3.length c_r) := (blk_cell BK_gr.out 3).trans rfl
  have hf_gr_3 := blk_frozen BK_gr.out 3
  clear hc_g9_0 hf_g9_0 hc_g9_1 hf_g9_1 hc_g9_2 hf_g9_2 hc_g9_3 hf_g9_3
  have nBK := Aside0.mk (blk_below (g := g9) (o := .cells #[.int .u32 rb.f0, .bool rb.f1, .int .i64 rb.f2, .slice A_b rb.f3.length c_b] 28 (0, 0)) BK_g9.out hB)
  clear BK_g9
  have BK_g9 := nBK
  clear nBK
  have hc_g9_0 : w15_.cell? ⟨g9, 0, none⟩ = some (.int .u32 rb.f0) := (blk_cell BK_g9.out 0).trans rfl
  have hf_g9_0 := blk_frozen BK_g9.out 0
  have hc_g9_1 : w15_.cell? ⟨g9, 1, none⟩ = some (.bool rb.f1) := (blk_cell BK_g9.out 1).trans rfl
  have hf_g9_1 := blk_frozen BK_g9.out 1
  have hc_g9_2 : w15_.cell? ⟨g9, 2, none⟩ = some (.int .i64 rb.f2) := (blk_cell BK_g9.out 2).trans rfl
  have hf_g9_2 := blk_frozen BK_g9.out 2
  have hc_g9_3 : w15_.cell? ⟨g9, 3, none⟩ = some (.slice A_b rb.f3.length c_b) := (blk_cell BK_g9.out 3).trans rfl
  have hf_g9_3 := blk_frozen BK_g9.out 3
  have nHC := Aside0.mk (Kd.C_below HC_r.out hB)
  clear HC_r
  have HC_r := nHC
  clear nHC
  have nHC := Aside0.mk (Kd.C_below HC_b.out hB)
  clear HC_b
  have HC_b := nHC
  clear nHC
  clear hB
  refine hK.out _ _ ⟨hc_gm_0, hc_gm_1, hc_gm_2, hc_gm_3, hc_gn_0, hc_gn_1, hc_gr_0, hc_gr_1, hc_gr_2, hc_gr_3, hc_g9_0, hc_g9_1, hc_g9_2, hc_g9_3⟩ (fun hHeld => ?_)
  clear hK K
  refine norm_ (a' := ?_) ?_ ?_
  rotate_left
  · show Act.put _ (some 77) _ = _
    simp only [Act.put, List.setIfInBounds_toArray, List.set_cons_zero, List.set_cons_succ, i64_w, i32_w]
    rfl
  refine pure_ (i := 4) (N := some 78) (v := ?_) (a' := ?_) #[true, true, true, true, true, false, false, false, false, false, false, false, false, false, false, false, false, false, false, false, false, false, false, false, false, false, false] rfl rfl (any_of HT_.out (by kernel_rfl)) (fun _ _ _ h => h) (Or.inl ⟨by rfl, ?_⟩) ?_ ?_
  rotate_left
  · intro w'
    go_simp
    with_reducible rfl
  rotate_left
  · simp only [Act.put, List.setIfInBounds_toArray, List.set_cons_zero, List.set_cons_succ, i64_w, i32_w]
    rfl
  refine pure_ (i := 5) (N := some 79) (v := ?_) (a' := ?_) #[true, true, true, true, true, true, false, false, false, false, false, false, false, false, false, false, false, false, false, false, false, false, false, false, false, false, false] rfl rfl (any_of HT_.out (by kernel_rfl)) (fun _ _ _ h => h) (Or.inl ⟨by rfl, ?_⟩) ?_ ?_
  rotate_left
  · intro w'
    go_simp
    with_reducible rfl
  rotate_left
  · simp only [Act.put, List.setIfInBounds_toArray, List.set_cons_zero, List.set_cons_succ, i64_w, i32_w]
    rfl
  refine take_ (i := 6) (N := some 80) (v := ?_) (a' := ?_) #[true, true, true, true, true, true, true, false, false, false, false, false, false, false, false, false, false, false, false, false, false, false, false, false, false, false, false] rfl rfl (take_ofW HT_.out HW_.out (by kernel_rfl)) (fun _ _ _ h => h) (Or.inl ⟨by rfl, ?_⟩) hHeld ?_ ?_
  rotate_left
  · rintro w' ⟨s0, s1, s2, s3, s4, s5, s6, s7, s8, s9, s10, s11, s12, s13⟩
    go_simp
    with_reducible rfl
  rotate_left
  · simp only [Act.put, List.setIfInBounds_toArray, List.set_cons_zero, List.set_cons_succ, i64_w, i32_w]
    rfl
  refine one_ (i := 7) (N := some 81) #[true, true, true, true, true, true, true, true, false, false, false, false, false, false, false, false, false, false, false, false, false, false, false, false, false, false, false] rfl rfl (one_of HT_.out (by kernel_rfl)) (by decide) (fun K hK => ?_)
  refine goes_ Try.func11 (by kernel_rfl) rfl #[.agg #[.int .u32 rb.f0, .bool rb.f1, .int .i64 rb.f2, .slice A_b rb.f3.length c_b]] (by rfl) rfl rfl (by (try simp only [List.map_toArray, List.map_cons, List.map_nil]); first | done | rfl | (simp only [List.length_drop, List.length_take]; rfl)) ?_
  with_reducible refine (right_w (b := true) (by simp [Xhrb.out]) _ _ _ HC_b.out HK_b.out).mono ?_
  rintro e_ w16_ ⟨rfl, hB⟩
  refine ⟨_, rfl, ?_⟩
  have nHB := Aside0.mk (HB.out.trans (hB.mono HB.out.size))
  clear HB
  have HB := nHB
  clear nHB
  clear hc_gp_0 hf_gp_0 hc_gp_1 hf_gp_1 hc_gp_2 hf_gp_2 hc_gp_3 hf_gp_3 hc_gp_4 hf_gp_4 hc_gp_5 hf_gp_5 hc_gp_6 hf_gp_6 hc_gp_7 hf_gp_7 hc_gp_8 hf_gp_8 hc_gp_9 hf_gp_9
  have nBK := Aside0.mk (blk_below (g := gp) (o := .cells #[.int .i64 t.f0, .int .i64 t.f1, .int .u32 x.f0, .bool x.f1, .int .i64 x.f2, .slice A_x x.f3.length c_x, .int .u8 kind, .slice A_l l.length c_l, .int .i64 n0, .int .i64 n1] 53 (0, 0)) BK_gp.out hB)
  clear BK_gp
  have BK_gp := nBK
  clear nBK
  have hc_gp_0 : w16_.cell? ⟨gp, 0, none⟩ = some (.int .i64 t.f0) := (blk_cell BK_gp.out 0).trans rfl
  have hf_gp_0 := blk_frozen BK_gp.out 0
  have hc_gp_1 : w16_.cell? ⟨gp, 1, none⟩ = some (.int .i64 t.f1) := (blk_cell BK_gp.out 1).trans rfl
  have hf_gp_1 := blk_frozen BK_gp.out 1
  have hc_gp_2 : w16_.cell? ⟨gp, 2, none⟩ = some (.int .u32 x.f0) := (blk_cell BK_gp.out 2).trans rfl
  have hf_gp_2 := blk_frozen BK_gp.out 2
  have hc_gp_3 : w16_.cell? ⟨gp, 3, none⟩ = some (.bool x.f1) := (blk_cell BK_gp.out 3).trans rfl
  have hf_gp_3 := blk_frozen BK_gp.out 3
  have hc_gp_4 : w16_.cell? ⟨gp, 4, none⟩ = some (.int .i64 x.f2) := (blk_cell BK_gp.out 4).trans rfl
  have hf_gp_4 := blk_frozen BK_gp.out 4
  have hc_gp_5 : w16_.cell? ⟨gp, 5, none⟩ = some (.slice A_x x.f3.length c_x) := (blk_cell BK_gp.out 5).trans rfl
  have hf_gp_5 := blk_frozen BK_gp.out 5
  have hc_gp_6 : w16_.cell? ⟨gp, 6, none⟩ = some (.int .u8 kind) := (blk_cell BK_gp.out 6).trans rfl
  have hf_gp_6 := blk_frozen BK_gp.out 6
  have hc_gp_7 : w16_.cell? ⟨gp, 7, none⟩ = some (.slice A_l l.length c_l) := (blk_cell BK_gp.out 7).trans rfl
  have hf_gp_7 := blk_frozen BK_gp.out 7
  have hc_gp_8 : w16_.cell? ⟨gp, 8, none⟩ = some (.int .i64 n0) := (blk_cell BK_gp.out 8).trans rfl
  have hf_gp_8 := blk_frozen BK_gp.out 8
  have hc_gp_9 : w16_.cell? ⟨gp, 9, none⟩ = some (.int .i64 n1) := (blk_cell BK_gp.out 9).trans rfl
  have hf_gp_9 := blk_frozen BK_gp.out 9
  clear hc_gt_0 hf_gt_0 hc_gt_1 hf_gt_1
  have nBK := Aside0.mk (blk_below (g := gt) (o := .cells #[.int .i64 t.f0, .int .i64 t.f1] 23 (0, 0)) BK_gt.out hB)
  clear BK_gt
  have BK_gt := nBK
  clear nBK
  have hc_gt_0 : w16_.cell? ⟨gt, 0, none⟩ = some (.int .i64 t.f0) := (blk_cell BK_gt.out 0).trans rfl
  have hf_gt_0 := blk_frozen BK_gt.out 0
  have hc_gt_1 : w16_.cell? ⟨gt, 1, none⟩ = some (.int .i64 t.f1) := (blk_cell BK_gt.out 1).trans rfl
  have hf_gt_1 := blk_frozen BK_gt.out 1
  clear hc_gm_0 hf_gm_0 hc_gm_1 hf_gm_1 hc_gm_2 hf_gm_2 hc_gm_3 hf_gm_3
  have nBK := Aside0.mk (blk_below (g := gm) (o := .cells #[.int .u32 x.f0, .bool x.f1, .int .i64 x.f2, .slice A_x x.f3.length c_x] 28 (0, 0)) BK_gm.out hB)
  clear BK_gm
  have BK_gm := nBK
  clear nBK
  have hc_gm_0 : w16_.cell? ⟨gm, 0, none⟩ = some (.int .u32 x.f0) := (blk_cell BK_gm.out 0).trans rfl
  have hf_gm_0 := blk_frozen BK_gm.out 0
  have hc_gm_1 : w16_.cell? ⟨gm, 1, none⟩ = some (.bool x.f1) := (blk_cell BK_gm.out 1).trans rfl
  have hf_gm_1 := blk_frozen BK_gm.out 1
  have hc_gm_2 : w16_.cell? ⟨gm, 2, none⟩ = some (.int .i64 x.f2) := (blk_cell BK_gm.out 2).trans rfl
  have hf_gm_2 := blk_frozen BK_gm.out 2
  have hc_gm_3 : w16_.cell? ⟨gm, 3, none⟩ = some (.slice A_x x.f3.length c_x) := (blk_cell BK_gm.out 3).trans rfl
  have hf_gm_3 := blk_frozen BK_gm.out 3
  clear hc_gn_0 hf_gn_0 hc_gn_1 hf_gn_1
  have nBK := Aside0.mk (blk_below (g := gn) (o := .cells #[.int .i64 n0, .int .i64 n1] 51 (0, 0)) BK_gn.out hB)
  clear BK_gn
  have BK_gn := nBK
  clear nBK
  have hc_gn_0 : w16_.cell? ⟨gn, 0, none⟩ = some (.int .i64 n0) := (blk_cell BK_gn.out 0).trans rfl
  have hf_gn_0 := blk_frozen BK_gn.out 0
  have hc_gn_1 : w16_.cell? ⟨gn, 1, none⟩ = some (.int .i64 n1) := (blk_cell BK_gn.out 1).trans rfl
  have hf_gn_1 := blk_frozen BK_gn.out 1
  clear hc_gr_0 hf_gr_0 hc_gr_1 hf_gr_1 hc_gr_2 hf_gr_2 hc_gr_3 hf_gr_3
  have nBK := Aside0.mk (blk_below (g := gr) (o := .cells #[.int .u32 r.f0, .bool r.f1, .int .i64 r.f2, .slice A_r r.f3.length c_r] 28 (0, 0)) BK_gr.out hB)
  clear BK_gr
  have BK_gr := nBK
  clear nBK
  have hc_gr_0 : w16_.cell? ⟨gr, 0, none⟩ = some (.int .u32 r.f0) := (blk_cell BK_gr.out 0).trans rfl
  have hf_gr_0 := blk_frozen BK_gr.out 0
  have hc_gr_1 : w16_.cell? ⟨gr, 1, none⟩ = some (.bool r.f1) := (blk_cell BK_gr.out 1).trans rfl
  have hf_gr_1 := blk_frozen BK_gr.out 1
  have hc_gr_2 : w16_.cell? ⟨gr, 2, none⟩ = some (.int .i64 r.f2) := (blk_cell BK_gr.out 2).trans rfl
  have hf_gr_2 := blk_frozen BK_gr.out 2
  have hc_gr_3 : w16_.cell? ⟨gr, 3, none⟩ = some (.slice A_r r.f3.length c_r) := (blk_cell BK_gr.out 3).trans rfl
  have hf_gr_3 := blk_frozen BK_gr.out 3
  clear hc_g9_0 hf_g9_0 hc_g9_1 hf_g9_1 hc_g9_2 hf_g9_2 hc_g9_3 hf_g9_3
  have nBK := Aside0.mk (blk_below (g := g9) (o := .cells #[.int .u32 rb.f0, .bool rb.f1, .int .i64 rb.f2, .slice A_b rb.f3.length c_b] 28 (0, 0)) BK_g9.out hB)
  clear BK_g9
  have BK_g9 := nBK
  clear nBK
  have hc_g9_0 : w16_.cell? ⟨g9, 0, none⟩ = some (.int .u32 rb.f0) := (blk_cell BK_g9.out 0).trans rfl
  have hf_g9_0 := blk_frozen BK_g9.out 0
  have hc_g9_1 : w16_.cell? ⟨g9, 1, none⟩ = some (.bool rb.f1) := (blk_cell BK_g9.out 1).trans rfl
  have hf_g9_1 := blk_frozen BK_g9.out 1
  have hc_g9_2 : w16_.cell? ⟨g9, 2, none⟩ = some (.int .i64 rb.f2) := (blk_cell BK_g9.out 2).trans rfl
  have hf_g9_2 := blk_frozen BK_g9.out 2
  have hc_g9_3 : w16_.cell? ⟨g9, 3, none⟩ = some (.slice A_b rb.f3.length c_b) := (blk_cell BK_g9.out 3).trans rfl
  have hf_g9_3 := blk_frozen BK_g9.out 3
  have nHC := Aside0.mk (Kd.C_below HC_r.out hB)
  clear HC_r
  have HC_r := nHC
  clear nHC
  have nHC := Aside0.mk (Kd.C_below HC_b.out hB)
  clear HC_b
  have HC_b := nHC
  clear nHC
  clear hB
  refine hK.out _ _ ⟨hc_gm_0, hc_gm_1, hc_gm_2, hc_gm_3, hc_gn_0, hc_gn_1, hc_gr_0, hc_gr_1, hc_gr_2, hc_gr_3, hc_g9_0, hc_g9_1, hc_g9_2, hc_g9_3⟩ (fun hHeld => ?_)
  clear hK K
  refine norm_ (a' := ?_) ?_ ?_
  rotate_left
  · show Act.put _ (some 81) _ = _
    simp only [Act.put, List.setIfInBounds_toArray, List.set_cons_zero, List.set_cons_succ, i64_w, i32_w]
    rfl
  refine pure_ (i := 8) (N := some 82) (v := ?_) (a' := ?_) #[true, true, true, true, true, true, true, true, true, false, false, false, false, false, false, false, false, false, false, false, false, false, false, false, false, false, false] rfl rfl (any_of HT_.out (by kernel_rfl)) (fun _ _ _ h => h) (Or.inl ⟨by rfl, ?_⟩) ?_ ?_
  rotate_left
  · intro w'
    go_simp
    with_reducible rfl
  rotate_left
  · simp only [Act.put, List.setIfInBounds_toArray, List.set_cons_zero, List.set_cons_succ, i64_w, i32_w]
    rfl
  refine pure_ (i := 9) (N := some 83) (v := ?_) (a' := ?_) #[true, true, true, true, true, true, true, true, true, true, false, false, false, false, false, false, false, false, false, false, false, false, false, false, false, false, false] rfl rfl (any_of HT_.out (by kernel_rfl)) (fun _ _ _ h => h) (Or.inl ⟨by rfl, ?_⟩) ?_ ?_
  rotate_left
  · intro w'
    go_simp
    with_reducible rfl
  rotate_left
  · simp only [Act.put, List.setIfInBounds_toArray, List.set_cons_zero, List.set_cons_succ, i64_w, i32_w]
    rfl
  refine take_ (i := 10) (N := some 84) (v := ?_) (a' := ?_) #[true, true, true, true, true, true, true, true, true, true, true, false, false, false, false, false, false, false, false, false, false, false, false, false, false, false, false] rfl rfl (take_ofW HT_.out HW_.out (by kernel_rfl)) (fun _ _ _ h => h) (Or.inl ⟨by rfl, ?_⟩) hHeld ?_ ?_
  rotate_left
  · rintro w' ⟨s0, s1, s2, s3, s4, s5, s6, s7, s8, s9, s10, s11, s12, s13⟩
    go_simp
    with_reducible rfl
  rotate_left
  · simp only [Act.put, List.setIfInBounds_toArray, List.set_cons_zero, List.set_cons_succ, i64_w, i32_w]
    rfl
  refine take_ (i := 11) (N := some 85) (v := ?_) (a' := ?_) #[true, true, true, true, true, true, true, true, true, true, true, true, false, false, false, false, false, false, false, false, false, false, false, false, false, false, false] rfl rfl (take_ofW HT_.out HW_.out (by kernel_rfl)) (fun _ _ _ h => h) (Or.inl ⟨by rfl, ?_⟩) hHeld ?_ ?_
  rotate_left
  · rintro w' ⟨s0, s1, s2, s3, s4, s5, s6, s7, s8, s9, s10, s11, s12, s13⟩
    go_simp
    with_reducible rfl
  rotate_left
  · simp only [Act.put, List.setIfInBounds_toArray, List.set_cons_zero, List.set_cons_succ, i64_w, i32_w]
    rfl
  refine pure_ (i := 12) (N := some 86) (v := ?_) (a' := ?_) #[true, true, true, true, true, true, true, true, true, true, true, true, true, false, false, false, false, false, false, false, false, false, false, false, false, false, false] rfl rfl (any_of HT_.out (by kernel_rfl)) (fun _ _ _ h => h) (Or.inl ⟨by rfl, ?_⟩) ?_ ?_
  rotate_left
  · intro w'
    go_simp
    with_reducible rfl
  rotate_left
  · simp only [Act.put, List.setIfInBounds_toArray, List.set_cons_zero, List.set_cons_succ, i64_w, i32_w]
    rfl
  refine take_ (i := 13) (N := some 87) (v := ?_) (a' := ?_) #[true, true, true, true, true, true, true, true, true, true, true, true, true, true, false, false, false, false, false, false, false, false, false, false, false, false, false] rfl rfl (take_ofW HT_.out HW_.out (by kernel_rfl)) (fun _ _ _ h => h) (Or.inl ⟨by rfl, ?_⟩) hHeld ?_ ?_
  rotate_left
  · rintro w' ⟨s0, s1, s2, s3, s4, s5, s6, s7, s8, s9, s10, s11, s12, s13⟩
    go_simp
    with_reducible rfl
  rotate_left
  · simp only [Act.put, List.setIfInBounds_toArray, List.set_cons_zero, List.set_cons_succ, i64_w, i32_w]
    rfl
  refine pure_ (i := 14) (N := some 88) (v := ?_) (a' := ?_) #[true, true, true, true, true, true, true, true, true, true, true, true, true, true, true, false, false, false, false, false, false, false, false, false, false, false, false] rfl rfl (any_of HT_.out (by kernel_rfl)) (fun _ _ _ h => h) (Or.inl ⟨by rfl, ?_⟩) ?_ ?_
  rotate_left
  · intro w'
    go_simp
    with_reducible rfl
  rotate_left
  · simp only [Act.put, List.setIfInBounds_toArray, List.set_cons_zero, List.set_cons_succ, i64_w, i32_w]
    rfl
  refine take_ (i := 15) (N := some 89) (v := ?_) (a' := ?_) #[true, true, true, true, true, true, true, true, true, true, true, true, true, true, true, true, false, false, false, false, false, false, false, false, false, false, false] rfl rfl (take_ofW HT_.out HW_.out (by kernel_rfl)) (fun _ _ _ h => h) (Or.inl ⟨by rfl, ?_⟩) hHeld ?_ ?_
  rotate_left
  · rintro w' ⟨s0, s1, s2, s3, s4, s5, s6, s7, s8, s9, s10, s11, s12, s13⟩
    go_simp
    with_reducible rfl
  rotate_left
  · simp only [Act.put, List.setIfInBounds_toArray, List.set_cons_zero, List.set_cons_succ, i64_w, i32_w]
    rfl
  refine pure_ (i := 16) (N := some 90) (v := ?_) (a' := ?_) #[true, true, true, true, true, true, true, true, true, true, true, true, true, true, true, true, true, false, false, false, false, false, false, false, false, false, false] rfl rfl (any_of HT_.out (by kernel_rfl)) (fun _ _ _ h => h) (Or.inl ⟨by rfl, ?_⟩) ?_ ?_
  rotate_left
  · intro w'
    go_simp
    with_reducible rfl
  rotate_left
  · simp only [Act.put, List.setIfInBounds_toArray, List.set_cons_zero, List.set_cons_succ, i64_w, i32_w]
    rfl
  refine one_ (i := 17) (N := some 91) #[true, true, true, true, true, true, true, true, true, true, true, true, true, true, true, true, true, true, false, false, false, false, false, false, false, false, false] rfl rfl (one_of HT_.out (by kernel_rfl)) (by decide) (fun K hK => ?_)
  refine goes_ Try.func17 (by kernel_rfl) rfl #[.agg #[.int .u32 r.f0, .bool r.f1, .int .i64 r.f2, .slice A_r r.f3.length c_r], .int .i64 (wrap64 (n0 + n1))] (by rfl) rfl rfl (by (try simp only [List.map_toArray, List.map_cons, List.map_nil]); first | done | rfl | (simp only [List.length_drop, List.length_take]; rfl)) ?_
  with_reducible refine (tick_any Xhrr.out X0C.out XCC.out _ _ _ HC_r.out HK_r.out).mono ?_
  rintro e_ w17_ ⟨A_c, c_c, rfl, hC, hK, hB⟩
  refine ⟨_, rfl, ?_⟩
  have nHB := Aside0.mk (HB.out.trans (hB.mono HB.out.size))
  clear HB
  have HB := nHB
  clear nHB
  clear hc_gp_0 hf_gp_0 hc_gp_1 hf_gp_1 hc_gp_2 hf_gp_2 hc_gp_3 hf_gp_3 hc_gp_4 hf_gp_4 hc_gp_5 hf_gp_5 hc_gp_6 hf_gp_6 hc_gp_7 hf_gp_7 hc_gp_8 hf_gp_8 hc_gp_9 hf_gp_9
  have nBK := Aside0.mk (blk_below (g := gp) (o := .cells #[.int .i64 t.f0, .int .i64 t.f1, .int .u32 x.f0, .bool x.f1, .int .i64 x.f2, .slice A_x x.f3.length c_x, .int .u8 kind, .slice A_l l.length c_l, .int .i64 n0, .int .i64 n1] 53 (0, 0)) BK_gp.out hB)
  clear BK_gp
  have BK_gp := nBK
  clear nBK
  have hc_gp_0 : w17_.cell? ⟨gp, 0, none⟩ = some (.int .i64 t.f0) := (blk_cell BK_gp.out 0).trans rfl
  have hf_gp_0 := blk_frozen BK_gp.out 0
  have hc_gp_1 : w17_.cell? ⟨gp, 1, none⟩ = some (.int .i64 t.f1) := (blk_cell BK_gp.out 1).trans rfl
  have hf_gp_1 := blk_frozen BK_gp.out 1
  have hc_gp_2 : w17_.cell? ⟨gp, 2, none⟩ = some (.int .u32 x.f0) := (blk_cell BK_gp.out 2).trans rfl
  have hf_gp_2 := blk_frozen BK_gp.out 2
  have hc_gp_3 : w17_.cell? ⟨gp, 3, none⟩ = some (.bool x.f1) := (blk_cell BK_gp.out 3).trans rfl
  have hf_gp_3 := blk_frozen BK_gp.out 3
  have hc_gp_4 : w17_.cell? ⟨gp, 4, none⟩ = some (.int .i64 x.f2) := (blk_cell BK_gp.out 4).trans rfl
  have hf_gp_4 := blk_frozen BK_gp.out 4
  have hc_gp_5 : w17_.cell? ⟨gp, 5, none⟩ = some (.slice A_x x.f3.length c_x) := (blk_cell BK_gp.out 5).trans rfl
  have hf_gp_5 := blk_frozen BK_gp.out 5
  have hc_gp_6 : w17_.cell? ⟨gp, 6, none⟩ = some (.int .u8 kind) := (blk_cell BK_gp.out 6).trans rfl
  have hf_gp_6 := blk_frozen BK_gp.out 6
  have hc_gp_7 : w17_.cell? ⟨gp, 7, none⟩ = some (.slice A_l l.length c_l) := (blk_cell BK_gp.out 7).trans rfl
  have hf_gp_7 := blk_frozen BK_gp.out 7
  have hc_gp_8 : w17_.cell? ⟨gp, 8, none⟩ = some (.int .i64 n0) := (blk_cell BK_gp.out 8).trans rfl
  have hf_gp_8 := blk_frozen BK_gp.out 8
  have hc_gp_9 : w17_.cell? ⟨gp, 9, none⟩ = some (.int .i64 n1) := (blk_cell BK_gp.out 9).trans rfl
  have hf_gp_9 := blk_frozen BK_gp.out 9
  clear hc_gt_0 hf_gt_0 hc_gt_1 hf_gt_1
  have nBK := Aside0.mk (blk_below (g := gt) (o := .cells #[.int .i64 t.f0, .int .i64 t.f1] 23 (0, 0)) BK_gt.out hB)
  clear BK_gt
  have BK_gt := nBK
  clear nBK
  have hc_gt_0 : w17_.cell? ⟨gt, 0, none⟩ = some (.int .i64 t.f0) := (blk_cell BK_gt.out 0).trans rfl
  have hf_gt_0 := blk_frozen BK_gt.out 0
  have hc_gt_1 : w17_.cell? ⟨gt, 1, none⟩ = some (.int .i64 t.f1) := (blk_cell BK_gt.out 1).trans rfl
  have hf_gt_1 := blk_frozen BK_gt.out 1
  clear hc_gm_0 hf_gm_0 hc_gm_1 hf_gm_1 hc_gm_2 hf_gm_2 hc_gm_3 hf_gm_3
  have nBK := Aside0.mk (blk_below (g := gm) (o := .cells #[.int .u32 x.f0, .bool x.f1, .int .i64 x.f2, .slice A_x x.f3.length c_x] 28 (0, 0)) BK_gm.out hB)
  clear BK_gm
  have BK_gm := nBK
  clear nBK
  have hc_gm_0 : w17_.cell? ⟨gm, 0, none⟩ = some (.int .u32 x.f0) := (blk_cell BK_gm.out 0).trans rfl
  have hf_gm_0 := blk_frozen BK_gm.out 0
  have hc_gm_1 : w17_.cell? ⟨gm, 1, none⟩ = some (.bool x.f1) := (blk_cell BK_gm.out 1).trans rfl
  have hf_gm_1 := blk_frozen BK_gm.out 1
  have hc_gm_2 : w17_.cell? ⟨gm, 2, none⟩ = some (.int .i64 x.f2) := (blk_cell BK_gm.out 2).trans rfl
  have hf_gm_2 := blk_frozen BK_gm.out 2
  have hc_gm_3 : w17_.cell? ⟨gm, 3, none⟩ = some (.slice A_x x.f3.length c_x) := (blk_cell BK_gm.out 3).trans rfl
  have hf_gm_3 := blk_frozen BK_gm.out 3
  clear hc_gn_0 hf_gn_0 hc_gn_1 hf_gn_1
  have nBK := Aside0.mk (blk_below (g := gn) (o := .cells #[.int .i64 n0, .int .i64 n1] 51 (0, 0)) BK_gn.out hB)
  clear BK_gn
  have BK_gn := nBK
  clear nBK
  have hc_gn_0 : w17_.cell? ⟨gn, 0, none⟩ = some (.int .i64 n0) := (blk_cell BK_gn.out 0).trans rfl
  have hf_gn_0 := blk_frozen BK_gn.out 0
  have hc_gn_1 : w17_.cell? ⟨gn, 1, none⟩ = some (.int .i64 n1) := (blk_cell BK_gn.out 1).trans rfl
  have hf_gn_1 := blk_frozen BK_gn.out 1
  clear hc_gr_0 hf_gr_0 hc_gr_1 hf_gr_1 hc_gr_2 hf_gr_2 hc_gr_3 hf_gr_3
  have nBK := Aside0.mk (blk_below (g := gr) (o := .cells #[.int .u32 r.f0, .bool r.f1, .int .i64 r.f2, .slice A_r r.f3.length c_r] 28 (0, 0)) BK_gr.out hB)
  clear BK_gr
  have BK_gr := nBK
  clear nBK
  have hc_gr_0 : w17_.cell? ⟨gr, 0, none⟩ = some (.int .u32 r.f0) := (blk_cell BK_gr.out 0).trans rfl
  have hf_gr_0 := blk_frozen BK_gr.out 0
  have hc_gr_1 : w17_.cell? ⟨gr, 1, none⟩ = some (.bool r.f1) := (blk_cell BK_gr.out 1).trans rfl
  have hf_gr_1 := blk_frozen BK_gr.out 1
  have hc_gr_2 : w17_.cell? ⟨gr, 2, none⟩ = some (.int .i64 r.f2) := (blk_cell BK_gr.out 2).trans rfl
  have hf_gr_2 := blk_frozen BK_gr.out 2
  have hc_gr_3 : w17_.cell? ⟨gr, 3, none⟩ = some (.slice A_r r.f3.length c_r) := (blk_cell BK_gr.out 3).trans rfl
  have hf_gr_3 := blk_frozen BK_gr.out 3
  clear hc_g9_0 hf_g9_0 hc_g9_1 hf_g9_1 hc_g9_2 hf_g9_2 hc_g9_3 hf_g9_3
  have nBK := Aside0.mk (blk_below (g := g9) (o := .cells #[.int .u32 rb.f0, .bool rb.f1, .int .i64 rb.f2, .slice A_b rb.f3.length c_b] 28 (0, 0)) BK_g9.out hB)
  clear BK_g9
  have BK_g9 := nBK
  clear nBK
  have hc_g9_0 : w17_.cell? ⟨g9, 0, none⟩ = some (.int .u32 rb.f0) := (blk_cell BK_g9.out 0).trans rfl
  have hf_g9_0 := blk_frozen BK_g9.out 0
  have hc_g9_1 : w17_.cell? ⟨g9, 1, none⟩ = some (.bool rb.f1) := (blk_cell BK_g9.out 1).trans rfl
  have hf_g9_1 := blk_frozen BK_g9.out 1
  have hc_g9_2 : w17_.cell? ⟨g9, 2, none⟩ = some (.int .i64 rb.f2) := (blk_cell BK_g9.out 2).trans rfl
  have hf_g9_2 := blk_frozen BK_g9.out 2
  have hc_g9_3 : w17_.cell? ⟨g9, 3, none⟩ = some (.slice A_b rb.f3.length c_b) := (blk_cell BK_g9.out 3).trans rfl
  have hf_g9_3 := blk_frozen BK_g9.out 3
  have nHC := Aside0.mk (Kd.C_below HC_r.out hB)
  clear HC_r
  have HC_r := nHC
  clear nHC
  have nHC := Aside0.mk (Kd.C_below HC_b.out hB)
  clear HC_b
  have HC_b := nHC
  clear nHC
  have HC_c := Aside0.mk hC
  have HK_c := Aside0.mk hK
  clear hC hK hB
  refine hK.out _ _ ⟨hc_gm_0, hc_gm_1, hc_gm_2, hc_gm_3, hc_gn_0, hc_gn_1, hc_gr_0, hc_gr_1, hc_gr_2, hc_gr_3, hc_g9_0, hc_g9_1, hc_g9_2, hc_g9_3⟩ (fun hHeld => ?_)
  clear hK K
  refine norm_ (a' := ?_) ?_ ?_
  rotate_left
  · show Act.put _ (some 91) _ = _
    simp only [Act.put, List.setIfInBounds_toArray, List.set_cons_zero, List.set_cons_succ, i64_w, i32_w]
    rfl
  refine one_ (i := 18) (N := some 92) #[true, true, true, true, true, true, true, true, true, true, true, true, true, true, true, true, true, true, true, false, false, false, false, false, false, false, false] rfl rfl (one_of HT_.out (by kernel_rfl)) (by decide) (fun K hK => ?_)
  refine goes_ Try.func14 (by kernel_rfl) rfl #[.agg #[.int .u32 rb.f0, .bool rb.f1, .int .i64 rb.f2, .slice A_b rb.f3.length c_b], .agg #[.int .u32 rb.f0, .bool rb.f1, .int .i64 rb.f2, .slice A_c rb.f3.length c_c]] (by rfl) rfl rfl (by (try simp only [List.map_toArray, List.map_cons, List.map_nil]); first | done | rfl | (simp only [List.length_drop, List.length_take]; rfl)) ?_
  with_reducible refine (same_w Xhrb.out.le _ _ _ _ _ HC_b.out HK_b.out HC_c.out HK_c.out).mono ?_
  rintro e_ w18_ ⟨rfl, hB⟩
  refine ⟨_, rfl, ?_⟩
  have nHB := Aside0.mk (HB.out.trans (hB.mono HB.out.size))
  clear HB
  have HB := nHB
  clear nHB
  clear hc_gp_0 hf_gp_0 hc_gp_1 hf_gp_1 hc_gp_2 hf_gp_2 hc_gp_3 hf_gp_3 hc_gp_4 hf_gp_4 hc_gp_5 hf_gp_5 hc_gp_6 hf_gp_6 hc_gp_7 hf_gp_7 hc_gp_8 hf_gp_8 hc_gp_9 hf_gp_9
  have nBK := Aside0.mk (blk_below (g := gp) (o := .cells #[.int .i64 t.f0, .int .i64 t.f1, .int .u32 x.f0, .bool x.f1, .int .i64 x.f2, .slice A_x x.f3.length c_x, .int .u8 kind, .slice A_l l.length c_l, .int .i64 n0, .int .i64 n1] 53 (0, 0)) BK_gp.out hB)
  clear BK_gp
  have BK_gp := nBK
  clear nBK
  have hc_gp_0 : w18_.cell? ⟨gp, 0, none⟩ = some (.int .i64 t.f0) := (blk_cell BK_gp.out 0).trans rfl
  have hf_gp_0 := blk_frozen BK_gp.out 0
  have hc_gp_1 : w18_.cell? ⟨gp, 1, none⟩ = some (.int .i64 t.f1) := (blk_cell BK_gp.out 1).trans rfl
  have hf_gp_1 := blk_frozen BK_gp.out 1
  have hc_gp_2 : w18_.cell? ⟨gp, 2, none⟩ = some (.int .u32 x.f0) := (blk_cell BK_gp.out 2).trans rfl
  have hf_gp_2 := blk_frozen BK_gp.out 2
  have hc_gp_3 : w18_.cell? ⟨gp, 3, none⟩ = some (.bool x.f1) := (blk_cell BK_gp.out 3).trans rfl
  have hf_gp_3 := blk_frozen BK_gp.out 3
  have hc_gp_4 : w18_.cell? ⟨gp, 4, none⟩ = some (.int .i64 x.f2) := (blk_cell BK_gp.out 4).trans rfl
  have hf_gp_4 := blk_frozen BK_gp.out 4
  have hc_gp_5 : w18_.cell? ⟨gp, 5, none⟩ = some (.slice A_x x.f3.length c_x) := (blk_cell BK_gp.out 5).trans rfl
  have hf_gp_5 := blk_frozen BK_gp.out 5
  have hc_gp_6 : w18_.cell? ⟨gp, 6, none⟩ = some (.int .u8 kind) := (blk_cell BK_gp.out 6).trans rfl
  have hf_gp_6 := blk_frozen BK_gp.out 6
  have hc_gp_7 : w18_.cell? ⟨gp, 7, none⟩ = some (.slice A_l l.length c_l) := (blk_cell BK_gp.out 7).trans rfl
  have hf_gp_7 := blk_frozen BK_gp.out 7
  have hc_gp_8 : w18_.cell? ⟨gp, 8, none⟩ = some (.int .i64 n0) := (blk_cell BK_gp.out 8).trans rfl
  have hf_gp_8 := blk_frozen BK_gp.out 8
  have hc_gp_9 : w18_.cell? ⟨gp, 9, none⟩ = some (.int .i64 n1) := (blk_cell BK_gp.out 9).trans rfl
  have hf_gp_9 := blk_frozen BK_gp.out 9
  clear hc_gt_0 hf_gt_0 hc_gt_1 hf_gt_1
  have nBK := Aside0.mk (blk_below (g := gt) (o := .cells #[.int .i64 t.f0, .int .i64 t.f1] 23 (0, 0)) BK_gt.out hB)
  clear BK_gt
  have BK_gt := nBK
  clear nBK
  have hc_gt_0 : w18_.cell? ⟨gt, 0, none⟩ = some (.int .i64 t.f0) := (blk_cell BK_gt.out 0).trans rfl
  have hf_gt_0 := blk_frozen BK_gt.out 0
  have hc_gt_1 : w18_.cell? ⟨gt, 1, none⟩ = some (.int .i64 t.f1) := (blk_cell BK_gt.out 1).trans rfl
  have hf_gt_1 := blk_frozen BK_gt.out 1
  clear hc_gm_0 hf_gm_0 hc_gm_1 hf_gm_1 hc_gm_2 hf_gm_2 hc_gm_3 hf_gm_3
  have nBK := Aside0.mk (blk_below (g := gm) (o := .cells #[.int .u32 x.f0, .bool x.f1, .int .i64 x.f2, .slice A_x x.f3.length c_x] 28 (0, 0)) BK_gm.out hB)
  clear BK_gm
  have BK_gm := nBK
  clear nBK
  have hc_gm_0 : w18_.cell? ⟨gm, 0, none⟩ = some (.int .u32 x.f0) := (blk_cell BK_gm.out 0).trans rfl
  have hf_gm_0 := blk_frozen BK_gm.out 0
  have hc_gm_1 : w18_.cell? ⟨gm, 1, none⟩ = some (.bool x.f1) := (blk_cell BK_gm.out 1).trans rfl
  have hf_gm_1 := blk_frozen BK_gm.out 1
  have hc_gm_2 : w18_.cell? ⟨gm, 2, none⟩ = some (.int .i64 x.f2) := (blk_cell BK_gm.out 2).trans rfl
  have hf_gm_2 := blk_frozen BK_gm.out 2
  have hc_gm_3 : w18_.cell? ⟨gm, 3, none⟩ = some (.slice A_x x.f3.length c_x) := (blk_cell BK_gm.out 3).trans rfl
  have hf_gm_3 := blk_frozen BK_gm.out 3
  clear hc_gn_0 hf_gn_0 hc_gn_1 hf_gn_1
  have nBK := Aside0.mk (blk_below (g := gn) (o := .cells #[.int .i64 n0, .int .i64 n1] 51 (0, 0)) BK_gn.out hB)
  clear BK_gn
  have BK_gn := nBK
  clear nBK
  have hc_gn_0 : w18_.cell? ⟨gn, 0, none⟩ = some (.int .i64 n0) := (blk_cell BK_gn.out 0).trans rfl
  have hf_gn_0 := blk_frozen BK_gn.out 0
  have hc_gn_1 : w18_.cell? ⟨gn, 1, none⟩ = some (.int .i64 n1) := (blk_cell BK_gn.out 1).trans rfl
  have hf_gn_1 := blk_frozen BK_gn.out 1
  clear hc_gr_0 hf_gr_0 hc_gr_1 hf_gr_1 hc_gr_2 hf_gr_2 hc_gr_3 hf_gr_3
  have nBK := Aside0.mk (blk_below (g := gr) (o := .cells #[.int .u32 r.f0, .bool r.f1, .int .i64 r.f2, .slice A_r r.f3.length c_r] 28 (0, 0)) BK_gr.out hB)
  clear BK_gr
  have BK_gr := nBK
  clear nBK
  have hc_gr_0 : w18_.cell? ⟨gr, 0, none⟩ = some (.int .u32 r.f0) := (blk_cell BK_gr.out 0).trans rfl
  have hf_gr_0 := blk_frozen BK_gr.out 0
  have hc_gr_1 : w18_.cell? ⟨gr, 1, none⟩ = some (.bool r.f1) := (blk_cell BK_gr.out 1).trans rfl
  have hf_gr_1 := blk_frozen BK_gr.out 1
  have hc_gr_2 : w18_.cell? ⟨gr, 2, none⟩ = some (.int .i64 r.f2) := (blk_cell BK_gr.out 2).trans rfl
  have hf_gr_2 := blk_frozen BK_gr.out 2
  have hc_gr_3 : w18_.cell? ⟨gr, 3, none⟩ = some (.slice A_r r.f3.length c_r) := (blk_cell BK_gr.out 3).trans rfl
  have hf_gr_3 := blk_frozen BK_gr.out 3
  clear hc_g9_0 hf_g9_0 hc_g9_1 hf_g9_1 hc_g9_2 hf_g9_2 hc_g9_3 hf_g9_3
  have nBK := Aside0.mk (blk_below (g := g9) (o := .cells #[.int .u32 rb.f0, .bool rb.f1, .int .i64 rb.f2, .slice A_b rb.f3.length c_b] 28 (0, 0)) BK_g9.out hB)
  clear BK_g9
  have BK_g9 := nBK
  clear nBK
  have hc_g9_0 : w18_.cell? ⟨g9, 0, none⟩ = some (.int .u32 rb.f0) := (blk_cell BK_g9.out 0).trans rfl
  have hf_g9_0 := blk_frozen BK_g9.out 0
  have hc_g9_1 : w18_.cell? ⟨g9, 1, none⟩ = some (.bool rb.f1) := (blk_cell BK_g9.out 1).trans rfl
  have hf_g9_1 := blk_frozen BK_g9.out 1
  have hc_g9_2 : w18_.cell? ⟨g9, 2, none⟩ = some (.int .i64 rb.f2) := (blk_cell BK_g9.out 2).trans rfl
  have hf_g9_2 := blk_frozen BK_g9.out 2
  have hc_g9_3 : w18_.cell? ⟨g9, 3, none⟩ = some (.slice A_b rb.f3.length c_b) := (blk_cell BK_g9.out 3).trans rfl
  have hf_g9_3 := blk_frozen BK_g9.out 3
  have nHC := Aside0.mk (Kd.C_below HC_r.out hB)
  clear HC_r
  have HC_r := nHC
  clear nHC
  have nHC := Aside0.mk (Kd.C_below HC_b.out hB)
  clear HC_b
  have HC_b := nHC
  clear nHC
  have nHC := Aside0.mk (Kd.C_below HC_c.out hB)
  clear HC_c
  have HC_c := nHC
  clear nHC
  clear hB
  refine hK.out _ _ ⟨hc_gm_0, hc_gm_1, hc_gm_2, hc_gm_3, hc_gn_0, hc_gn_1, hc_gr_0, hc_gr_1, hc_gr_2, hc_gr_3, hc_g9_0, hc_g9_1, hc_g9_2, hc_g9_3⟩ (fun hHeld => ?_)
  clear hK K
  refine norm_ (a' := ?_) ?_ ?_
  rotate_left
  · show Act.put _ (some 92) _ = _
    simp only [Act.put, List.setIfInBounds_toArray, List.set_cons_zero, List.set_cons_succ, i64_w, i32_w]
    rfl
  refine pure_ (i := 19) (N := some 93) (v := ?_) (a' := ?_) #[true, true, true, true, true, true, true, true, true, true, true, true, true, true, true, true, true, true, true, true, false, false, false, false, false, false, false] rfl rfl (any_of HT_.out (by kernel_rfl)) (fun _ _ _ h => h) (Or.inl ⟨by rfl, ?_⟩) ?_ ?_
  rotate_left
  · intro w'
    go_simp
    with_reducible rfl
  rotate_left
  · simp only [Act.put, List.setIfInBounds_toArray, List.set_cons_zero, List.set_cons_succ, i64_w, i32_w]
    rfl
  refine pure_ (i := 20) (N := some 94) (v := ?_) (a' := ?_) #[true, true, true, true, true, true, true, true, true, true, true, true, true, true, true, true, true, true, true, true, true, false, false, false, false, false, false] rfl rfl (any_of HT_.out (by kernel_rfl)) (fun _ _ _ h => h) (Or.inl ⟨by rfl, ?_⟩) ?_ ?_
  rotate_left
  · intro w'
    go_simp
    with_reducible rfl
  rotate_left
  · simp only [Act.put, List.setIfInBounds_toArray, List.set_cons_zero, List.set_cons_succ, i64_w, i32_w]
    rfl
  refine take_ (i := 21) (N := some 95) (v := ?_) (a' := ?_) #[true, true, true, true, true, true, true, true, true, true, true, true, true, true, true, true, true, true, true, true, true, true, false, false, false, false, false] rfl rfl (take_ofW HT_.out HW_.out (by kernel_rfl)) (fun _ _ _ h => h) (Or.inl ⟨by rfl, ?_⟩) hHeld ?_ ?_
  rotate_left
  · rintro w' ⟨s0, s1, s2, s3, s4, s5, s6, s7, s8, s9, s10, s11, s12, s13⟩
    go_simp
    with_reducible rfl
  rotate_left
  · simp only [Act.put, List.setIfInBounds_toArray, List.set_cons_zero, List.set_cons_succ, i64_w, i32_w]
    rfl
  refine take_ (i := 23) (N := some 97) (v := ?_) (a' := ?_) #[true, true, true, true, true, true, true, true, true, true, true, true, true, true, true, true, true, true, true, true, true, true, false, true, false, false, false] rfl rfl (take_ofW HT_.out HW_.out (by kernel_rfl)) (fun _ _ _ h => h) (Or.inl ⟨by rfl, ?_⟩) hHeld ?_ ?_
  rotate_left
  · rintro w' ⟨s0, s1, s2, s3, s4, s5, s6, s7, s8, s9, s10, s11, s12, s13⟩
    go_simp
    with_reducible rfl
  rotate_left
  · simp only [Act.put, List.setIfInBounds_toArray, List.set_cons_zero, List.set_cons_succ, i64_w, i32_w]
    rfl
  refine one_ (i := 22) (N := some 96) #[true, true, true, true, true, true, true, true, true, true, true, true, true, true, true, true, true, true, true, true, true, true, true, true, false, false, false] rfl rfl (one_of HT_.out (by kernel_rfl)) (by decide) (fun K hK => ?_)
  refine goes_ Try.func17 (by kernel_rfl) rfl #[.agg #[.int .u32 x.f0, .bool x.f1, .int .i64 x.f2, .slice A_x x.f3.length c_x], .int .i64 0] (by rfl) rfl rfl (by (try simp only [List.map_toArray, List.map_cons, List.map_nil]); first | done | rfl | (simp only [List.length_drop, List.length_take]; rfl)) ?_
  with_reducible refine (tick_any Xhx.out (by omega) Xhd.out _ _ _ (Kd.C_below HC_x.out HB.out) HK_x.out).mono ?_
  rintro e_ w19_ ⟨A_d, c_d, rfl, hC, hK, hB⟩
  refine ⟨_, rfl, ?_⟩
  have nHB := Aside0.mk (HB.out.trans (hB.mono HB.out.size))
  clear HB
  have HB := nHB
  clear nHB
  clear hc_gp_0 hf_gp_0 hc_gp_1 hf_gp_1 hc_gp_2 hf_gp_2 hc_gp_3 hf_gp_3 hc_gp_4 hf_gp_4 hc_gp_5 hf_gp_5 hc_gp_6 hf_gp_6 hc_gp_7 hf_gp_7 hc_gp_8 hf_gp_8 hc_gp_9 hf_gp_9
  have nBK := Aside0.mk (blk_below (g := gp) (o := .cells #[.int .i64 t.f0, .int .i64 t.f1, .int .u32 x.f0, .bool x.f1, .int .i64 x.f2, .slice A_x x.f3.length c_x, .int .u8 kind, .slice A_l l.length c_l, .int .i64 n0, .int .i64 n1] 53 (0, 0)) BK_gp.out hB)
  clear BK_gp
  have BK_gp := nBK
  clear nBK
  have hc_gp_0 : w19_.cell? ⟨gp, 0, none⟩ = some (.int .i64 t.f0) := (blk_cell BK_gp.out 0).trans rfl
  have hf_gp_0 := blk_frozen BK_gp.out 0
  have hc_gp_1 : w19_.cell? ⟨gp, 1, none⟩ = some (.int .i64 t.f1) := (blk_cell BK_gp.out 1).trans rfl
  have hf_gp_1 := blk_frozen BK_gp.out 1
  have hc_gp_2 : w19_.cell? ⟨gp, 2, none⟩ = some (.int .u32 x.f0) := (blk_cell BK_gp.out 2).trans rfl
  have hf_gp_2 := blk_frozen BK_gp.out 2
  have hc_gp_3 : w19_.cell? ⟨gp, 3, none⟩ = some (.bool x.f1) := (blk_cell BK_gp.out 3).trans rfl
  have hf_gp_3 := blk_frozen BK_gp.out 3
  have hc_gp_4 : w19_.cell? ⟨gp, 4, none⟩ = some (.int .i64 x.f2) := (blk_cell BK_gp.out 4).trans rfl
  have hf_gp_4 := blk_frozen BK_gp.out 4
  have hc_gp_5 : w19_.cell? ⟨gp, 5, none⟩ = some (.slice A_x x.f3.length c_x) := (blk_cell BK_gp.out 5).trans rfl
  have hf_gp_5 := blk_frozen BK_gp.out 5
  have hc_gp_6 : w19_.cell? ⟨gp, 6, none⟩ = some (.int .u8 kind) := (blk_cell BK_gp.out 6).trans rfl
  have hf_gp_6 := blk_frozen BK_gp.out 6
  have hc_gp_7 : w19_.cell? ⟨gp, 7, none⟩ = some (.slice A_l l.length c_l) := (blk_cell BK_gp.out 7).trans rfl
  have hf_gp_7 := blk_frozen BK_gp.out 7
  have hc_gp_8 : w19_.cell? ⟨gp, 8, none⟩ = some (.int .i64 n0) := (blk_cell BK_gp.out 8).trans rfl
  have hf_gp_8 := blk_frozen BK_gp.out 8
  have hc_gp_9 : w19_.cell? ⟨gp, 9, none⟩ = some (.int .i64 n1) := (blk_cell BK_gp.out 9).trans rfl
  have hf_gp_9 := blk_frozen BK_gp.out 9
  clear hc_gt_0 hf_gt_0 hc_gt_1 hf_gt_1
  have nBK := Aside0.mk (blk_below (g := gt) (o := .cells #[.int .i64 t.f0, .int .i64 t.f1] 23 (0, 0)) BK_gt.out hB)
  clear BK_gt
  have BK_gt := nBK
  clear nBK
  have hc_gt_0 : w19_.cell? ⟨gt, 0, none⟩ = some (.int .i64 t.f0) := (blk_cell BK_gt.out 0).trans rfl
  have hf_gt_0 := blk_frozen BK_gt.out 0
  have hc_gt_1 : w19_.cell? ⟨gt, 1, none⟩ = some (.int .i64 t.f1) := (blk_cell BK_gt.out 1).trans rfl
  have hf_gt_1 := blk_frozen BK_gt.out 1
  clear hc_gm_0 hf_gm_0 hc_gm_1 hf_gm_1 hc_gm_2 hf_gm_2 hc_gm_3 hf_gm_3
  have nBK := Aside0.mk (blk_below (g := gm) (o := .cells #[.int .u32 x.f0, .bool x.f1, .int .i64 x.f2, .slice A_x x.f3.length c_x] 28 (0, 0)) BK_gm.out hB)
  clear BK_gm
  have BK_gm := nBK
  clear nBK
  have hc_gm_0 : w19_.cell? ⟨gm, 0, none⟩ = some (.int .u32 x.f0) := (blk_cell BK_gm.out 0).trans rfl
  have hf_gm_0 := blk_frozen BK_gm.out 0
  have hc_gm_1 : w19_.cell? ⟨gm, 1, none⟩ = some (.bool x.f1) := (blk_cell BK_gm.out 1).trans rfl
  have hf_gm_1 := blk_frozen BK_gm.out 1
  have hc_gm_2 : w19_.cell? ⟨gm, 2, none⟩ = some (.int .i64 x.f2) := (blk_cell BK_gm.out 2).trans rfl
  have hf_gm_2 := blk_frozen BK_gm.out 2
  have hc_gm_3 : w19_.cell? ⟨gm, 3, none⟩ = some (.slice A_x x.f3.length c_x) := (blk_cell BK_gm.out 3).trans rfl
  have hf_gm_3 := blk_frozen BK_gm.out 3
  clear hc_gn_0 hf_gn_0 hc_gn_1 hf_gn_1
  have nBK := Aside0.mk (blk_below (g := gn) (o := .cells #[.int .i64 n0, .int .i64 n1] 51 (0, 0)) BK_gn.out hB)
  clear BK_gn
  have BK_gn := nBK
  clear nBK
  have hc_gn_0 : w19_.cell? ⟨gn, 0, none⟩ = some (.int .i64 n0) := (blk_cell BK_gn.out 0).trans rfl
  have hf_gn_0 := blk_frozen BK_gn.out 0
  have hc_gn_1 : w19_.cell? ⟨gn, 1, none⟩ = some (.int .i64 n1) := (blk_cell BK_gn.out 1).trans rfl
  have hf_gn_1 := blk_frozen BK_gn.out 1
  clear hc_gr_0 hf_gr_0 hc_gr_1 hf_gr_1 hc_gr_2 hf_gr_2 hc_gr_3 hf_gr_3
  have nBK := Aside0.mk (blk_below (g := gr) (o := .cells #[.int .u32 r.f0, .bool r.f1, .int .i64 r.f2, .slice A_r r.f3.length c_r] 28 (0, 0)) BK_gr.out hB)
  clear BK_gr
  have BK_gr := nBK
  clear nBK
  have hc_gr_0 : w19_.cell? ⟨gr, 0, none⟩ = some (.int .u32 r.f0) := (blk_cell BK_gr.out 0).trans rfl
  have hf_gr_0 := blk_frozen BK_gr.out 0
  have hc_gr_1 : w19_.cell? ⟨gr, 1, none⟩ = some (.bool r.f1) := (blk_cell BK_gr.out 1).trans rfl
  have hf_gr_1 := blk_frozen BK_gr.out 1
  have hc_gr_2 : w19_.cell? ⟨gr, 2, none⟩ = some (.int .i64 r.f2) := (blk_cell BK_gr.out 2).trans rfl
  have hf_gr_2 := blk_frozen BK_gr.out 2
  have hc_gr_3 : w19_.cell? ⟨gr, 3, none⟩ = some (.slice A_r r.f3.length c_r) := (blk_cell BK_gr.out 3).trans rfl
  have hf_gr_3 := blk_frozen BK_gr.out 3
  clear hc_g9_0 hf_g9_0 hc_g9_1 hf_g9_1 hc_g9_2 hf_g9_2 hc_g9_3 hf_g9_3
  have nBK := Aside0.mk (blk_below (g := g9) (o := .cells #[.int .u32 rb.f0, .bool rb.f1, .int .i64 rb.f2, .slice A_b rb.f3.length c_b] 28 (0, 0)) BK_g9.out hB)
  clear BK_g9
  have BK_g9 := nBK
  clear nBK
  have hc_g9_0 : w19_.cell? ⟨g9, 0, none⟩ = some (.int .u32 rb.f0) := (blk_cell BK_g9.out 0).trans rfl
  have hf_g9_0 := blk_frozen BK_g9.out 0
  have hc_g9_1 : w19_.cell? ⟨g9, 1, none⟩ = some (.bool rb.f1) := (blk_cell BK_g9.out 1).trans rfl
  have hf_g9_1 := blk_frozen BK_g9.out 1
  have hc_g9_2 : w19_.cell? ⟨g9, 2, none⟩ = some (.int .i64 rb.f2) := (blk_cell BK_g9.out 2).trans rfl
  have hf_g9_2 := blk_frozen BK_g9.out 2
  have hc_g9_3 : w19_.cell? ⟨g9, 3, none⟩ = some (.slice A_b rb.f3.length c_b) := (blk_cell BK_g9.out 3).trans rfl
  have hf_g9_3 := blk_frozen BK_g9.out 3
  have nHC := Aside0.mk (Kd.C_below HC_r.out hB)
  clear HC_r
  have HC_r := nHC
  clear nHC
  have nHC := Aside0.mk (Kd.C_below HC_b.out hB)
  clear HC_b
  have HC_b := nHC
  clear nHC
  have nHC := Aside0.mk (Kd.C_below HC_c.out hB)
  clear HC_c
  have HC_c := nHC
  clear nHC
  have HC_d := Aside0.mk hC
  have HK_d := Aside0.mk hK
  clear hC hK hB
  refine hK.out _ _ ⟨hc_gm_0, hc_gm_1, hc_gm_2, hc_gm_3, hc_gn_0, hc_gn_1, hc_gr_0, hc_gr_1, hc_gr_2, hc_gr_3, hc_g9_0, hc_g9_1, hc_g9_2, hc_g9_3⟩ (fun hHeld => ?_)
  clear hK K
  refine norm_ (a' := ?_) ?_ ?_
  rotate_left
  · show Act.put _ (some 96) _ = _
    simp only [Act.put, List.setIfInBounds_toArray, List.set_cons_zero, List.set_cons_succ, i64_w, i32_w]
    rfl
  refine one_ (i := 24) (N := some 98) #[true, true, true, true, true, true, true, true, true, true, true, true, true, true, true, true, true, true, true, true, true, true, true, true, true, false, false] rfl rfl (one_of HT_.out (by kernel_rfl)) (by decide) (fun K hK => ?_)
  refine goes_ Try.func14 (by kernel_rfl) rfl #[.agg #[.int .u32 x.f0, .bool x.f1, .int .i64 x.f2, .slice A_d x.f3.length c_d], .agg #[.int .u32 x.f0, .bool x.f1, .int .i64 x.f2, .slice A_x x.f3.length c_x]] (by rfl) rfl rfl (by (try simp only [List.map_toArray, List.map_cons, List.map_nil]); first | done | rfl | (simp only [List.length_drop, List.length_take]; rfl)) ?_
  with_reducible refine (same_w Xhx.out.le _ _ _ _ _ HC_d.out HK_d.out (Kd.C_below HC_x.out HB.out) HK_x.out).mono ?_
  rintro e_ w20_ ⟨rfl, hB⟩
  refine ⟨_, rfl, ?_⟩
  have nHB := Aside0.mk (HB.out.trans (hB.mono HB.out.size))
  clear HB
  have HB := nHB
  clear nHB
  clear hc_gp_0 hf_gp_0 hc_gp_1 hf_gp_1 hc_gp_2 hf_gp_2 hc_gp_3 hf_gp_3 hc_gp_4 hf_gp_4 hc_gp_5 hf_gp_5 hc_gp_6 hf_gp_6 hc_gp_7 hf_gp_7 hc_gp_8 hf_gp_8 hc_gp_9 hf_gp_9
  have nBK := Aside0.mk (blk_below (g := gp) (o := .cells #[.int .i64 t.f0, .int .i64 t.f1, .int .u32 x.f0, .bool x.f1, .int .i64 x.f2, .slice A_x x.f3.length c_x, .int .u8 kind, .slice A_l l.length c_l, .int .i64 n0, .int .i64 n1] 53 (0, 0)) BK_gp.out hB)
  clear BK_gp
  have BK_gp := nBK
  clear nBK
  have hc_gp_0 : w20_.cell? ⟨gp, 0, none⟩ = some (.int .i64 t.f0) := (blk_cell BK_gp.out 0).trans rfl
  have hf_gp_0 := blk_frozen BK_gp.out 0
  have hc_gp_1 : w20_.cell? ⟨gp, 1, none⟩ = some (.int .i64 t.f1) := (blk_cell BK_gp.out 1).trans rfl
  have hf_gp_1 := blk_frozen BK_gp.out 1
  have hc_gp_2 : w20_.cell? ⟨gp, 2, none⟩ = some (.int .u32 x.f0) := (blk_cell BK_gp.out 2).trans rfl
  have hf_gp_2 := blk_frozen BK_gp.out 2
  have hc_gp_3 : w20_.cell? ⟨gp, 3, none⟩ = some (.bool x.f1) := (blk_cell BK_gp.out 3).trans rfl
  have hf_gp_3 := blk_frozen BK_gp.out 3
  have hc_gp_4 : w20_.cell? ⟨gp, 4, none⟩ = some (.int .i64 x.f2) := (blk_cell BK_gp.out 4).trans rfl
  have hf_gp_4 := blk_frozen BK_gp.out 4
  have hc_gp_5 : w20_.cell? ⟨gp, 5, none⟩ = some (.slice A_x x.f3.length c_x) := (blk_cell BK_gp.out 5).trans rfl
  have hf_gp_5 := blk_frozen BK_gp.out 5
  have hc_gp_6 : w20_.cell? ⟨gp, 6, none⟩ = some (.int .u8 kind) := (blk_cell BK_gp.out 6).trans rfl
  have hf_gp_6 := blk_frozen BK_gp.out 6
  have hc_gp_7 : w20_.cell? ⟨gp, 7, none⟩ = some (.slice A_l l.length c_l) := (blk_cell BK_gp.out 7).trans rfl
  have hf_gp_7 := blk_frozen BK_gp.out 7
  have hc_gp_8 : w20_.cell? ⟨gp, 8, none⟩ = some (.int .i64 n0) := (blk_cell BK_gp.out 8).trans rfl
  have hf_gp_8 := blk_frozen BK_gp.out 8
  have hc_gp_9 : w20_.cell? ⟨gp, 9, none⟩ = some (.int .i64 n1) := (blk_cell BK_gp.out 9).trans rfl
  have hf_gp_9 := blk_frozen BK_gp.out 9
  clear hc_gt_0 hf_gt_0 hc_gt_1 hf_gt_1
  have nBK := Aside0.mk (blk_below (g := gt) (o := .cells #[.int .i64 t.f0, .int .i64 t.f1] 23 (0, 0)) BK_gt.out hB)
  clear BK_gt
  have BK_gt := nBK
  clear nBK
  have hc_gt_0 : w20_.cell? ⟨gt, 0, none⟩ = some (.int .i64 t.f0) := (blk_cell BK_gt.out 0).trans rfl
  have hf_gt_0 := blk_frozen BK_gt.out 0
  have hc_gt_1 : w20_.cell? ⟨gt, 1, none⟩ = some (.int .i64 t.f1) := (blk_cell BK_gt.out 1).trans rfl
  have hf_gt_1 := blk_frozen BK_gt.out 1
  clear hc_gm_0 hf_gm_0 hc_gm_1 hf_gm_1 hc_gm_2 hf_gm_2 hc_gm_3 hf_gm_3
  have nBK := Aside0.mk (blk_below (g := gm) (o := .cells #[.int .u32 x.f0, .bool x.f1, .int .i64 x.f2, .slice A_x x.f3.length c_x] 28 (0, 0)) BK_gm.out hB)
  clear BK_gm
  have BK_gm := nBK
  clear nBK
  have hc_gm_0 : w20_.cell? ⟨gm, 0, none⟩ = some (.int .u32 x.f0) := (blk_cell BK_gm.out 0).trans rfl
  have hf_gm_0 := blk_frozen BK_gm.out 0
  have hc_gm_1 : w20_.cell? ⟨gm, 1, none⟩ = some (.bool x.f1) := (blk_cell BK_gm.out 1).trans rfl
  have hf_gm_1 := blk_frozen BK_gm.out 1
  have hc_gm_2 : w20_.cell? ⟨gm, 2, none⟩ = some (.int .i64 x.f2) := (blk_cell BK_gm.out 2).trans rfl
  have hf_gm_2 := blk_frozen BK_gm.out 2
  have hc_gm_3 : w20_.cell? ⟨gm, 3, none⟩ = some (.slice A_x x.f3.length c_x) := (blk_cell BK_gm.out 3).trans rfl
  have hf_gm_3 := blk_frozen BK_gm.out 3
  clear hc_gn_0 hf_gn_0 hc_gn_1 hf_gn_1
  have nBK := Aside0.mk (blk_below (g := gn) (o := .cells #[.int .i64 n0, .int .i64 n1] 51 (0, 0)) BK_gn.out hB)
  clear BK_gn
  have BK_gn := nBK
  clear nBK
  have hc_gn_0 : w20_.cell? ⟨gn, 0, none⟩ = some (.int .i64 n0) := (blk_cell BK_gn.out 0).trans rfl
  have hf_gn_0 := blk_frozen BK_gn.out 0
  have hc_gn_1 : w20_.cell? ⟨gn, 1, none⟩ = some (.int .i64 n1) := (blk_cell BK_gn.out 1).trans rfl
  have hf_gn_1 := blk_frozen BK_gn.out 1
  clear hc_gr_0 hf_gr_0 hc_gr_1 hf_gr_1 hc_gr_2 hf_gr_2 hc_gr_3 hf_gr_3
  have nBK := Aside0.mk (blk_below (g := gr) (o := .cells #[.int .u32 r.f0, .bool r.f1, .int .i64 r.f2, .slice A_r r.f3.length c_r] 28 (0, 0)) BK_gr.out hB)
  clear BK_gr
  have BK_gr := nBK
  clear nBK
  have hc_gr_0 : w20_.cell? ⟨gr, 0, none⟩ = some (.int .u32 r.f0) := (blk_cell BK_gr.out 0).trans rfl
  have hf_gr_0 := blk_frozen BK_gr.out 0
  have hc_gr_1 : w20_.cell? ⟨gr, 1, none⟩ = some (.bool r.f1) := (blk_cell BK_gr.out 1).trans rfl
  have hf_gr_1 := blk_frozen BK_gr.out 1
  have hc_gr_2 : w20_.cell? ⟨gr, 2, none⟩ = some (.int .i64 r.f2) := (blk_cell BK_gr.out 2).trans rfl
  have hf_gr_2 := blk_frozen BK_gr.out 2
  have hc_gr_3 : w20_.cell? ⟨gr, 3, none⟩ = some (.slice A_r r.f3.length c_r) := (blk_cell BK_gr.out 3).trans rfl
  have hf_gr_3 := blk_frozen BK_gr.out 3
  clear hc_g9_0 hf_g9_0 hc_g9_1 hf_g9_1 hc_g9_2 hf_g9_2 hc_g9_3 hf_g9_3
  have nBK := Aside0.mk (blk_below (g := g9) (o := .cells #[.int .u32 rb.f0, .bool rb.f1, .int .i64 rb.f2, .slice A_b rb.f3.length c_b] 28 (0, 0)) BK_g9.out hB)
  clear BK_g9
  have BK_g9 := nBK
  clear nBK
  have hc_g9_0 : w20_.cell? ⟨g9, 0, none⟩ = some (.int .u32 rb.f0) := (blk_cell BK_g9.out 0).trans rfl
  have hf_g9_0 := blk_frozen BK_g9.out 0
  have hc_g9_1 : w20_.cell? ⟨g9, 1, none⟩ = some (.bool rb.f1) := (blk_cell BK_g9.out 1).trans rfl
  have hf_g9_1 := blk_frozen BK_g9.out 1
  have hc_g9_2 : w20_.cell? ⟨g9, 2, none⟩ = some (.int .i64 rb.f2) := (blk_cell BK_g9.out 2).trans rfl
  have hf_g9_2 := blk_frozen BK_g9.out 2
  have hc_g9_3 : w20_.cell? ⟨g9, 3, none⟩ = some (.slice A_b rb.f3.length c_b) := (blk_cell BK_g9.out 3).trans rfl
  have hf_g9_3 := blk_frozen BK_g9.out 3
  have nHC := Aside0.mk (Kd.C_below HC_r.out hB)
  clear HC_r
  have HC_r := nHC
  clear nHC
  have nHC := Aside0.mk (Kd.C_below HC_b.out hB)
  clear HC_b
  have HC_b := nHC
  clear nHC
  have nHC := Aside0.mk (Kd.C_below HC_c.out hB)
  clear HC_c
  have HC_c := nHC
  clear nHC
  have nHC := Aside0.mk (Kd.C_below HC_d.out hB)
  clear HC_d
  have HC_d := nHC
  clear nHC
  clear hB
  refine hK.out _ _ ⟨hc_gm_0, hc_gm_1, hc_gm_2, hc_gm_3, hc_gn_0, hc_gn_1, hc_gr_0, hc_gr_1, hc_gr_2, hc_gr_3, hc_g9_0, hc_g9_1, hc_g9_2, hc_g9_3⟩ (fun hHeld => ?_)
  clear hK K
  refine norm_ (a' := ?_) ?_ ?_
  rotate_left
  · show Act.put _ (some 98) _ = _
    simp only [Act.put, List.setIfInBounds_toArray, List.set_cons_zero, List.set_cons_succ, i64_w, i32_w]
    rfl
  refine pure_ (i := 25) (N := some 99) (v := ?_) (a' := ?_) #[true, true, true, true, true, true, true, true, true, true, true, true, true, true, true, true, true, true, true, true, true, true, true, true, true, true, false] rfl rfl (any_of HT_.out (by kernel_rfl)) (fun _ _ _ h => h) (Or.inl ⟨by rfl, ?_⟩) ?_ ?_
  rotate_left
  · intro w'
    go_simp
    with_reducible rfl
  rotate_left
  · simp only [Act.put, List.setIfInBounds_toArray, List.set_cons_zero, List.set_cons_succ, i64_w, i32_w]
    rfl
  refine pure_ (i := 26) (N := some 2) (v := ?_) (a' := ?_) #[true, true, true, true, true, true, true, true, true, true, true, true, true, true, true, true, true, true, true, true, true, true, true, true, true, true, true] rfl rfl (any_of HT_.out (by kernel_rfl)) (fun _ _ _ h => h) (Or.inl ⟨by rfl, ?_⟩) ?_ ?_
  rotate_left
  · intro w'
    go_simp
    with_reducible rfl
  rotate_left
  · simp only [Act.put, List.setIfInBounds_toArray, List.set_cons_zero, List.set_cons_succ, i64_w, i32_w]
    rfl
  refine done_ (done_of HT_.out (by kernel_rfl)) ?_
  try go_wp2
  go_ret
  exact ⟨rfl, HB.out⟩
end Go.Proofs.Ytbllchfgjginoaa
