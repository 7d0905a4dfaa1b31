/-
  MembAdds, walked.
-/
import Derived.Test.YtbllchfgjginoaaMeRf
import Derived.Test.YtbllchfgjginoaaMeV
namespace Go.Proofs.Ytbllchfgjginoaa
open Go.RowKit Go.Lib Go.Proofs.YtbllchfgjginoaaW.PrintWords Go.Proofs.YtbllchfgjginoaaW.PrintLast Go.Proofs.YtbllchfgjginoaaW.PrintMore Go.Proofs.Ytbllchfgjginoaa.PMe
set_option linter.unusedVariables false
set_option linter.unusedSimpArgs false
def ma_T : Bool × List (List Nat × List Nat) := (true, [([], []), ([0], [0]), ([1], [1]), ([2], [2]), ([2], [2]), ([3, 4, 2, 2], [2, 3, 4]), ([2], [2]), ([2], [2]), ([6, 7, 5, 2], [2, 6, 7]), ([8, 8, 2], [2, 8]), ([9], [9]), ([9, 10, 2], [2, 9, 10]), ([5, 11, 2], [2, 5, 11]), ([2, 12], [2, 12]), ([13, 9], [13]), ([14], [14]), ([15, 14], [14, 15]), ([16, 14, 14], [14, 16]), ([17], [17]), ([17], [17]), ([18, 19, 17, 17], [17, 18, 19]), ([17], [17]), ([17], [17]), ([21, 22, 20, 17], [17, 21, 22]), ([20, 23, 17], [17, 20, 23]), ([17, 24, 14], [14, 17, 24]), ([14, 25], [14, 25])])
def ma_B : List Nat := [0, 1, 3, 7, 7, 31, 7, 7, 255, 511, 1023, 2047, 4095, 8191, 16383, 32767, 65535, 131071, 262143, 262143, 1048575, 262143, 262143, 8388607, 16777215, 33554431, 67108863]
theorem ma_t : rtab .any (opsOf Try.f7 11) = ma_T := by kernel_rfl
theorem ma_b : waitsOk ma_T.2 ma_B = true := by kernel_rfl
set_option maxHeartbeats 8000000 in
set_option maxRecDepth 100000 in
theorem membAdds_flat {t : S23} {g lf a : Int} {ex : Bool} {sr : List S49} {l : List Int} (A_x : Option Addr) (c_x : Nat) (A_l : Option Addr) (c_l : Nat) (w : World) (hr : Kd.C k49 w A_x sr.length sr) (hc : sr.length ≤ c_x) (hs : Kd.C (Kd.int .u32) w A_l l.length l) (hcs : l.length ≤ c_l) :
    Calls Try.prog 7 #[.agg #[.int .i64 t.f0, .int .i64 t.f1, .int .u32 g, .bool ex, .int .i64 lf, .slice A_x sr.length c_x, .slice A_l l.length c_l, .int .u32 a]] w (fun e w' => e = .returned (.bool true) ∧ Below w.heap.size w w') := by
  have hu23 := Try.underlying23
  have hu28 := Try.underlying28
  have hu62 := Try.underlying62
  have HB := Aside0.mk (Below.refl w.heap.size w)
  have HC_x := Aside0.mk hr
  have HK_x := Aside0.mk hc
  have HC_l := Aside0.mk hs
  have HK_l := Aside0.mk hcs
  clear hr hc hs hcs
  go_enter Try.func7, Try.ntmps7
  go_upto_region 2 with (first | ((with_reducible refine gate_dst (N := 1) rfl ?_); (try (refine gate_guard (by rfl) ?_; dsimp only)); refine box_event ?hg (N := 1) ?hd (cs := #[.int .i64 t.f0, .int .i64 t.f1, .int .u32 g, .bool ex, .int .i64 lf, .slice A_x sr.length c_x, .slice A_l l.length c_l, .int .u32 a]) (t := 62) ?hr ?_; (case hd => rfl); (case hg => rfl); (case hr => first | (go_simp; done) | (go_simp; rfl)); intro gp hg w1_ hbox hB; replace HB := mvH HB hB; have BK_gp := Aside0.mk hbox; clear hg hbox hB; have hc_gp_0 : w1_.cell? ⟨gp, 0, none⟩ = some (.int .i64 t.f0) := (blk_cell BK_gp.out 0).trans rfl; have hf_gp_0 := blk_frozen BK_gp.out 0; have hc_gp_1 : w1_.cell? ⟨gp, 1, none⟩ = some (.int .i64 t.f1) := (blk_cell BK_gp.out 1).trans rfl; have hf_gp_1 := blk_frozen BK_gp.out 1; have hc_gp_2 : w1_.cell? ⟨gp, 2, none⟩ = some (.int .u32 g) := (blk_cell BK_gp.out 2).trans rfl; have hf_gp_2 := blk_frozen BK_gp.out 2; have hc_gp_3 : w1_.cell? ⟨gp, 3, none⟩ = some (.bool ex) := (blk_cell BK_gp.out 3).trans rfl; have hf_gp_3 := blk_frozen BK_gp.out 3; have hc_gp_4 : w1_.cell? ⟨gp, 4, none⟩ = some (.int .i64 lf) := (blk_cell BK_gp.out 4).trans rfl; have hf_gp_4 := blk_frozen BK_gp.out 4; have hc_gp_5 : w1_.cell? ⟨gp, 5, none⟩ = some (.slice A_x sr.length c_x) := (blk_cell BK_gp.out 5).trans rfl; have hf_gp_5 := blk_frozen BK_gp.out 5; have hc_gp_6 : w1_.cell? ⟨gp, 6, none⟩ = some (.slice A_l l.length c_l) := (blk_cell BK_gp.out 6).trans rfl; have hf_gp_6 := blk_frozen BK_gp.out 6; have hc_gp_7 : w1_.cell? ⟨gp, 7, none⟩ = some (.int .u32 a) := (blk_cell BK_gp.out 7).trans rfl; have hf_gp_7 := blk_frozen BK_gp.out 7) | ((with_reducible refine gate_dst (N := 3) rfl ?_); (try (refine gate_guard (by rfl) ?_; dsimp only)); refine box_event ?hg (N := 3) ?hd (cs := #[.int .i64 0, .int .i64 0]) (t := 23) ?hr ?_; (case hd => rfl); (case hg => rfl); (case hr => first | (go_simp; done) | (go_simp; rfl)); intro gt hg w2_ hbox hB0; have hG := Aside0.mk (show w1_.heap.size ≤ gt from Nat.le_of_eq hg.symm); clear hg; have hBX := Aside0.mk hbox; have hB1 := Aside0.mk hB0; clear hB0; have hc_gt_0 : w2_.cell? ⟨gt, 0, none⟩ = some (.int .i64 0) := (blk_cell hbox 0).trans rfl; have hf_gt_0 := blk_frozen hbox 0; have hc_gt_1 : w2_.cell? ⟨gt, 1, none⟩ = some (.int .i64 0) := (blk_cell hbox 1).trans rfl; have hf_gt_1 := blk_frozen hbox 1; clear hbox))
  have hB : Below w1_.heap.size w1_ ((w2_.setCell ⟨gt, 0, none⟩ (.int .i64 t.f0)).setCell ⟨gt, 1, none⟩ (.int .i64 t.f1)) := (below_set (below_set hB1.out hG.out) hG.out)
  have hBN : ((w2_.setCell ⟨gt, 0, none⟩ (.int .i64 t.f0)).setCell ⟨gt, 1, none⟩ (.int .i64 t.f1)).heap[gt]? = some (.cells #[.int .i64 t.f0, .int .i64 t.f1] 23 (0, 0)) := (blk_put (cs := #[.int .i64 t.f0, .int .i64 0]) (blk_put (cs := #[.int .i64 0, .int .i64 0]) hBX.out 0 (.int .i64 t.f0) rfl) 1 (.int .i64 t.f1) rfl)
  clear hBX hB1
  clear hc_gt_0 hf_gt_0 hc_gt_1 hf_gt_1
  generalize ((w2_.setCell ⟨gt, 0, none⟩ (.int .i64 t.f0)).setCell ⟨gt, 1, none⟩ (.int .i64 t.f1)) = w3_ at hB hBN ⊢
  replace HB := mvH HB hB
  clear hc_gp_0 hf_gp_0 hc_gp_1 hf_gp_1 hc_gp_2 hf_gp_2 hc_gp_3 hf_gp_3 hc_gp_4 hf_gp_4 hc_gp_5 hf_gp_5 hc_gp_6 hf_gp_6 hc_gp_7 hf_gp_7
  replace BK_gp := mvB BK_gp hB
  have hc_gp_0 : w3_.cell? ⟨gp, 0, none⟩ = some (.int .i64 t.f0) := (blk_cell BK_gp.out 0).trans rfl
  have hf_gp_0 := blk_frozen BK_gp.out 0
  have hc_gp_1 : w3_.cell? ⟨gp, 1, none⟩ = some (.int .i64 t.f1) := (blk_cell BK_gp.out 1).trans rfl
  have hf_gp_1 := blk_frozen BK_gp.out 1
  have hc_gp_2 : w3_.cell? ⟨gp, 2, none⟩ = some (.int .u32 g) := (blk_cell BK_gp.out 2).trans rfl
  have hf_gp_2 := blk_frozen BK_gp.out 2
  have hc_gp_3 : w3_.cell? ⟨gp, 3, none⟩ = some (.bool ex) := (blk_cell BK_gp.out 3).trans rfl
  have hf_gp_3 := blk_frozen BK_gp.out 3
  have hc_gp_4 : w3_.cell? ⟨gp, 4, none⟩ = some (.int .i64 lf) := (blk_cell BK_gp.out 4).trans rfl
  have hf_gp_4 := blk_frozen BK_gp.out 4
  have hc_gp_5 : w3_.cell? ⟨gp, 5, none⟩ = some (.slice A_x sr.length c_x) := (blk_cell BK_gp.out 5).trans rfl
  have hf_gp_5 := blk_frozen BK_gp.out 5
  have hc_gp_6 : w3_.cell? ⟨gp, 6, none⟩ = some (.slice A_l l.length c_l) := (blk_cell BK_gp.out 6).trans rfl
  have hf_gp_6 := blk_frozen BK_gp.out 6
  have hc_gp_7 : w3_.cell? ⟨gp, 7, none⟩ = some (.int .u32 a) := (blk_cell BK_gp.out 7).trans rfl
  have hf_gp_7 := blk_frozen BK_gp.out 7
  have BK_gt := Aside0.mk hBN
  clear hG hBN hB
  have hc_gt_0 : w3_.cell? ⟨gt, 0, none⟩ = some (.int .i64 t.f0) := (blk_cell BK_gt.out 0).trans rfl
  have hf_gt_0 := blk_frozen BK_gt.out 0
  have hc_gt_1 : w3_.cell? ⟨gt, 1, none⟩ = some (.int .i64 t.f1) := (blk_cell BK_gt.out 1).trans rfl
  have hf_gt_1 := blk_frozen BK_gt.out 1
  go_upto_region 3 with (first | ((with_reducible refine gate_dst (N := 4) rfl ?_); (try (refine gate_guard (by rfl) ?_; dsimp only)); refine box_event ?hg (N := 4) ?hd (cs := #[.int .u32 0, .bool false, .int .i64 0, .slice none 0 0]) (t := 28) ?hr ?_; (case hd => rfl); (case hg => rfl); (case hr => first | (go_simp; done) | (go_simp; rfl)); intro gm hg w4_ hbox hB0; have hG := Aside0.mk (show w3_.heap.size ≤ gm from Nat.le_of_eq hg.symm); clear hg; have hBX := Aside0.mk hbox; have hB1 := Aside0.mk hB0; clear hB0; have hc_gm_0 : w4_.cell? ⟨gm, 0, none⟩ = some (.int .u32 0) := (blk_cell hbox 0).trans rfl; have hf_gm_0 := blk_frozen hbox 0; have hc_gm_1 : w4_.cell? ⟨gm, 1, none⟩ = some (.bool false) := (blk_cell hbox 1).trans rfl; have hf_gm_1 := blk_frozen hbox 1; have hc_gm_2 : w4_.cell? ⟨gm, 2, none⟩ = some (.int .i64 0) := (blk_cell hbox 2).trans rfl; have hf_gm_2 := blk_frozen hbox 2; have hc_gm_3 : w4_.cell? ⟨gm, 3, none⟩ = some (.slice none 0 0) := (blk_cell hbox 3).trans rfl; have hf_gm_3 := blk_frozen hbox 3; clear hbox))
  have hB : Below w3_.heap.size w3_ ((((w4_.setCell ⟨gm, 0, none⟩ (.int .u32 g)).setCell ⟨gm, 1, none⟩ (.bool ex)).setCell ⟨gm, 2, none⟩ (.int .i64 lf)).setCell ⟨gm, 3, none⟩ (.slice A_x sr.length c_x)) := (below_set (below_set (below_set (below_set hB1.out hG.out) hG.out) hG.out) hG.out)
  have hBN : ((((w4_.setCell ⟨gm, 0, none⟩ (.int .u32 g)).setCell ⟨gm, 1, none⟩ (.bool ex)).setCell ⟨gm, 2, none⟩ (.int .i64 lf)).setCell ⟨gm, 3, none⟩ (.slice A_x sr.length c_x)).heap[gm]? = some (.cells #[.int .u32 g, .bool ex, .int .i64 lf, .slice A_x sr.length c_x] 28 (0, 0)) := (blk_put (cs := #[.int .u32 g, .bool ex, .int .i64 lf, .slice none 0 0]) (blk_put (cs := #[.int .u32 g, .bool ex, .int .i64 0, .slice none 0 0]) (blk_put (cs := #[.int .u32 g, .bool false, .int .i64 0, .slice none 0 0]) (blk_put (cs := #[.int .u32 0, .bool false, .int .i64 0, .slice none 0 0]) hBX.out 0 (.int .u32 g) rfl) 1 (.bool ex) rfl) 2 (.int .i64 lf) rfl) 3 (.slice A_x sr.length c_x) rfl)
  clear hBX hB1
  clear hc_gm_0 hf_gm_0 hc_gm_1 hf_gm_1 hc_gm_2 hf_gm_2 hc_gm_3 hf_gm_3
  generalize ((((w4_.setCell ⟨gm, 0, none⟩ (.int .u32 g)).setCell ⟨gm, 1, none⟩ (.bool ex)).setCell ⟨gm, 2, none⟩ (.int .i64 lf)).setCell ⟨gm, 3, none⟩ (.slice A_x sr.length c_x)) = w5_ at hB hBN ⊢
  replace HB := mvH HB hB
  clear hc_gp_0 hf_gp_0 hc_gp_1 hf_gp_1 hc_gp_2 hf_gp_2 hc_gp_3 hf_gp_3 hc_gp_4 hf_gp_4 hc_gp_5 hf_gp_5 hc_gp_6 hf_gp_6 hc_gp_7 hf_gp_7
  replace BK_gp := mvB BK_gp hB
  have hc_gp_0 : w5_.cell? ⟨gp, 0, none⟩ = some (.int .i64 t.f0) := (blk_cell BK_gp.out 0).trans rfl
  have hf_gp_0 := blk_frozen BK_gp.out 0
  have hc_gp_1 : w5_.cell? ⟨gp, 1, none⟩ = some (.int .i64 t.f1) := (blk_cell BK_gp.out 1).trans rfl
  have hf_gp_1 := blk_frozen BK_gp.out 1
  have hc_gp_2 : w5_.cell? ⟨gp, 2, none⟩ = some (.int .u32 g) := (blk_cell BK_gp.out 2).trans rfl
  have hf_gp_2 := blk_frozen BK_gp.out 2
  have hc_gp_3 : w5_.cell? ⟨gp, 3, none⟩ = some (.bool ex) := (blk_cell BK_gp.out 3).trans rfl
  have hf_gp_3 := blk_frozen BK_gp.out 3
  have hc_gp_4 : w5_.cell? ⟨gp, 4, none⟩ = some (.int .i64 lf) := (blk_cell BK_gp.out 4).trans rfl
  have hf_gp_4 := blk_frozen BK_gp.out 4
  have hc_gp_5 : w5_.cell? ⟨gp, 5, none⟩ = some (.slice A_x sr.length c_x) := (blk_cell BK_gp.out 5).trans rfl
  have hf_gp_5 := blk_frozen BK_gp.out 5
  have hc_gp_6 : w5_.cell? ⟨gp, 6, none⟩ = some (.slice A_l l.length c_l) := (blk_cell BK_gp.out 6).trans rfl
  have hf_gp_6 := blk_frozen BK_gp.out 6
  have hc_gp_7 : w5_.cell? ⟨gp, 7, none⟩ = some (.int .u32 a) := (blk_cell BK_gp.out 7).trans rfl
  have hf_gp_7 := blk_frozen BK_gp.out 7
  clear hc_gt_0 hf_gt_0 hc_gt_1 hf_gt_1
  replace BK_gt := mvB BK_gt hB
  have hc_gt_0 : w5_.cell? ⟨gt, 0, none⟩ = some (.int .i64 t.f0) := (blk_cell BK_gt.out 0).trans rfl
  have hf_gt_0 := blk_frozen BK_gt.out 0
  have hc_gt_1 : w5_.cell? ⟨gt, 1, none⟩ = some (.int .i64 t.f1) := (blk_cell BK_gt.out 1).trans rfl
  have hf_gt_1 := blk_frozen BK_gt.out 1
  have BK_gm := Aside0.mk hBN
  clear hG hBN hB
  have hc_gm_0 : w5_.cell? ⟨gm, 0, none⟩ = some (.int .u32 g) := (blk_cell BK_gm.out 0).trans rfl
  have hf_gm_0 := blk_frozen BK_gm.out 0
  have hc_gm_1 : w5_.cell? ⟨gm, 1, none⟩ = some (.bool ex) := (blk_cell BK_gm.out 1).trans rfl
  have hf_gm_1 := blk_frozen BK_gm.out 1
  have hc_gm_2 : w5_.cell? ⟨gm, 2, none⟩ = some (.int .i64 lf) := (blk_cell BK_gm.out 2).trans rfl
  have hf_gm_2 := blk_frozen BK_gm.out 2
  have hc_gm_3 : w5_.cell? ⟨gm, 3, none⟩ = some (.slice A_x sr.length c_x) := (blk_cell BK_gm.out 3).trans rfl
  have hf_gm_3 := blk_frozen BK_gm.out 3
  go_upto_region 6 with (first | (go_at_call 9; with_reducible refine (shown_w _).mono ?_; rintro e w6_ ⟨rfl, hB⟩; replace HB := mvH HB hB; clear hc_gp_0 hf_gp_0 hc_gp_1 hf_gp_1 hc_gp_2 hf_gp_2 hc_gp_3 hf_gp_3 hc_gp_4 hf_gp_4 hc_gp_5 hf_gp_5 hc_gp_6 hf_gp_6 hc_gp_7 hf_gp_7; replace BK_gp := mvB BK_gp hB; have hc_gp_0 : w6_.cell? ⟨gp, 0, none⟩ = some (.int .i64 t.f0) := (blk_cell BK_gp.out 0).trans rfl; have hf_gp_0 := blk_frozen BK_gp.out 0; have hc_gp_1 : w6_.cell? ⟨gp, 1, none⟩ = some (.int .i64 t.f1) := (blk_cell BK_gp.out 1).trans rfl; have hf_gp_1 := blk_frozen BK_gp.out 1; have hc_gp_2 : w6_.cell? ⟨gp, 2, none⟩ = some (.int .u32 g) := (blk_cell BK_gp.out 2).trans rfl; have hf_gp_2 := blk_frozen BK_gp.out 2; have hc_gp_3 : w6_.cell? ⟨gp, 3, none⟩ = some (.bool ex) := (blk_cell BK_gp.out 3).trans rfl; have hf_gp_3 := blk_frozen BK_gp.out 3; have hc_gp_4 : w6_.cell? ⟨gp, 4, none⟩ = some (.int .i64 lf) := (blk_cell BK_gp.out 4).trans rfl; have hf_gp_4 := blk_frozen BK_gp.out 4; have hc_gp_5 : w6_.cell? ⟨gp, 5, none⟩ = some (.slice A_x sr.length c_x) := (blk_cell BK_gp.out 5).trans rfl; have hf_gp_5 := blk_frozen BK_gp.out 5; have hc_gp_6 : w6_.cell? ⟨gp, 6, none⟩ = some (.slice A_l l.length c_l) := (blk_cell BK_gp.out 6).trans rfl; have hf_gp_6 := blk_frozen BK_gp.out 6; have hc_gp_7 : w6_.cell? ⟨gp, 7, none⟩ = some (.int .u32 a) := (blk_cell BK_gp.out 7).trans rfl; have hf_gp_7 := blk_frozen BK_gp.out 7; clear hc_gt_0 hf_gt_0 hc_gt_1 hf_gt_1; replace BK_gt := mvB BK_gt hB; have hc_gt_0 : w6_.cell? ⟨gt, 0, none⟩ = some (.int .i64 t.f0) := (blk_cell BK_gt.out 0).trans rfl; have hf_gt_0 := blk_frozen BK_gt.out 0; have hc_gt_1 : w6_.cell? ⟨gt, 1, none⟩ = some (.int .i64 t.f1) := (blk_cell BK_gt.out 1).trans rfl; have hf_gt_1 := blk_frozen BK_gt.out 1; clear hc_gm_0 hf_gm_0 hc_gm_1 hf_gm_1 hc_gm_2 hf_gm_2 hc_gm_3 hf_gm_3; replace BK_gm := mvB BK_gm hB; have hc_gm_0 : w6_.cell? ⟨gm, 0, none⟩ = some (.int .u32 g) := (blk_cell BK_gm.out 0).trans rfl; have hf_gm_0 := blk_frozen BK_gm.out 0; have hc_gm_1 : w6_.cell? ⟨gm, 1, none⟩ = some (.bool ex) := (blk_cell BK_gm.out 1).trans rfl; have hf_gm_1 := blk_frozen BK_gm.out 1; have hc_gm_2 : w6_.cell? ⟨gm, 2, none⟩ = some (.int .i64 lf) := (blk_cell BK_gm.out 2).trans rfl; have hf_gm_2 := blk_frozen BK_gm.out 2; have hc_gm_3 : w6_.cell? ⟨gm, 3, none⟩ = some (.slice A_x sr.length c_x) := (blk_cell BK_gm.out 3).trans rfl; have hf_gm_3 := blk_frozen BK_gm.out 3; clear hB))
  clear hc_gp_0 hf_gp_0 hc_gp_1 hf_gp_1 hc_gp_2 hf_gp_2 hc_gp_3 hf_gp_3 hc_gp_4 hf_gp_4 hc_gp_5 hf_gp_5 hc_gp_6 hf_gp_6 hc_gp_7 hf_gp_7
  clear BK_gp
  cases hm : mayB t
  case false =>
    have XM := Aside0.mk hm
    clear hm
    go_wp2_with (first | (go_at_call 10; with_reducible refine (mayR_w XM.out _).mono ?_; rintro e w7_ ⟨rfl, hB⟩; replace HB := mvH HB hB; clear hc_gt_0 hf_gt_0 hc_gt_1 hf_gt_1; replace BK_gt := mvB BK_gt hB; have hc_gt_0 : w7_.cell? ⟨gt, 0, none⟩ = some (.int .i64 t.f0) := (blk_cell BK_gt.out 0).trans rfl; have hf_gt_0 := blk_frozen BK_gt.out 0; have hc_gt_1 : w7_.cell? ⟨gt, 1, none⟩ = some (.int .i64 t.f1) := (blk_cell BK_gt.out 1).trans rfl; have hf_gt_1 := blk_frozen BK_gt.out 1; clear hc_gm_0 hf_gm_0 hc_gm_1 hf_gm_1 hc_gm_2 hf_gm_2 hc_gm_3 hf_gm_3; replace BK_gm := mvB BK_gm hB; have hc_gm_0 : w7_.cell? ⟨gm, 0, none⟩ = some (.int .u32 g) := (blk_cell BK_gm.out 0).trans rfl; have hf_gm_0 := blk_frozen BK_gm.out 0; have hc_gm_1 : w7_.cell? ⟨gm, 1, none⟩ = some (.bool ex) := (blk_cell BK_gm.out 1).trans rfl; have hf_gm_1 := blk_frozen BK_gm.out 1; have hc_gm_2 : w7_.cell? ⟨gm, 2, none⟩ = some (.int .i64 lf) := (blk_cell BK_gm.out 2).trans rfl; have hf_gm_2 := blk_frozen BK_gm.out 2; have hc_gm_3 : w7_.cell? ⟨gm, 3, none⟩ = some (.slice A_x sr.length c_x) := (blk_cell BK_gm.out 3).trans rfl; have hf_gm_3 := blk_frozen BK_gm.out 3; clear hB))
    go_ret
    exact ⟨rfl, HB.out⟩
  by_cases hx : MOk ⟨g, ex, lf, sr⟩
  case neg =>
    have XM := Aside0.mk hm
    have XX : Aside0 (¬ MOk ⟨g, ex, lf, sr⟩) := ⟨hx⟩
    clear hm hx
    go_wp2_with (first | (go_at_call 10; with_reducible refine (mayR_w XM.out _).mono ?_; rintro e w7_ ⟨rfl, hB⟩; replace HB := mvH HB hB; clear hc_gt_0 hf_gt_0 hc_gt_1 hf_gt_1; replace BK_gt := mvB BK_gt hB; have hc_gt_0 : w7_.cell? ⟨gt, 0, none⟩ = some (.int .i64 t.f0) := (blk_cell BK_gt.out 0).trans rfl; have hf_gt_0 := blk_frozen BK_gt.out 0; have hc_gt_1 : w7_.cell? ⟨gt, 1, none⟩ = some (.int .i64 t.f1) := (blk_cell BK_gt.out 1).trans rfl; have hf_gt_1 := blk_frozen BK_gt.out 1; clear hc_gm_0 hf_gm_0 hc_gm_1 hf_gm_1 hc_gm_2 hf_gm_2 hc_gm_3 hf_gm_3; replace BK_gm := mvB BK_gm hB; have hc_gm_0 : w7_.cell? ⟨gm, 0, none⟩ = some (.int .u32 g) := (blk_cell BK_gm.out 0).trans rfl; have hf_gm_0 := blk_frozen BK_gm.out 0; have hc_gm_1 : w7_.cell? ⟨gm, 1, none⟩ = some (.bool ex) := (blk_cell BK_gm.out 1).trans rfl; have hf_gm_1 := blk_frozen BK_gm.out 1; have hc_gm_2 : w7_.cell? ⟨gm, 2, none⟩ = some (.int .i64 lf) := (blk_cell BK_gm.out 2).trans rfl; have hf_gm_2 := blk_frozen BK_gm.out 2; have hc_gm_3 : w7_.cell? ⟨gm, 3, none⟩ = some (.slice A_x sr.length c_x) := (blk_cell BK_gm.out 3).trans rfl; have hf_gm_3 := blk_frozen BK_gm.out 3; clear hB) | (go_at_call 11; with_reducible refine (right_flat (b := false) (by simp [XX.out]) _ _ _ (Kd.C_below HC_x.out HB.out) HK_x.out).mono ?_; rintro e w8_ ⟨rfl, hB⟩; replace HB := mvH HB hB; clear hc_gt_0 hf_gt_0 hc_gt_1 hf_gt_1; replace BK_gt := mvB BK_gt hB; have hc_gt_0 : w8_.cell? ⟨gt, 0, none⟩ = some (.int .i64 t.f0) := (blk_cell BK_gt.out 0).trans rfl; have hf_gt_0 := blk_frozen BK_gt.out 0; have hc_gt_1 : w8_.cell? ⟨gt, 1, none⟩ = some (.int .i64 t.f1) := (blk_cell BK_gt.out 1).trans rfl; have hf_gt_1 := blk_frozen BK_gt.out 1; clear hc_gm_0 hf_gm_0 hc_gm_1 hf_gm_1 hc_gm_2 hf_gm_2 hc_gm_3 hf_gm_3; replace BK_gm := mvB BK_gm hB; have hc_gm_0 : w8_.cell? ⟨gm, 0, none⟩ = some (.int .u32 g) := (blk_cell BK_gm.out 0).trans rfl; have hf_gm_0 := blk_frozen BK_gm.out 0; have hc_gm_1 : w8_.cell? ⟨gm, 1, none⟩ = some (.bool ex) := (blk_cell BK_gm.out 1).trans rfl; have hf_gm_1 := blk_frozen BK_gm.out 1; have hc_gm_2 : w8_.cell? ⟨gm, 2, none⟩ = some (.int .i64 lf) := (blk_cell BK_gm.out 2).trans rfl; have hf_gm_2 := blk_frozen BK_gm.out 2; have hc_gm_3 : w8_.cell? ⟨gm, 3, none⟩ = some (.slice A_x sr.length c_x) := (blk_cell BK_gm.out 3).trans rfl; have hf_gm_3 := blk_frozen BK_gm.out 3; clear hB))
    go_ret
    exact ⟨rfl, HB.out⟩
  have XM := Aside0.mk hm
  have XX : Aside0 (MOk ⟨g, ex, lf, sr⟩) := ⟨hx⟩
  clear hm
  by_cases h1 : (200 : Int) < (l.length : Int)
  · have XH := Aside0.mk hx
    clear hx
    go_wp2_with (first | (go_at_call 10; with_reducible refine (mayR_w XM.out _).mono ?_; rintro e w7_ ⟨rfl, hB⟩; replace HB := mvH HB hB; clear hc_gt_0 hf_gt_0 hc_gt_1 hf_gt_1; replace BK_gt := mvB BK_gt hB; have hc_gt_0 : w7_.cell? ⟨gt, 0, none⟩ = some (.int .i64 t.f0) := (blk_cell BK_gt.out 0).trans rfl; have hf_gt_0 := blk_frozen BK_gt.out 0; have hc_gt_1 : w7_.cell? ⟨gt, 1, none⟩ = some (.int .i64 t.f1) := (blk_cell BK_gt.out 1).trans rfl; have hf_gt_1 := blk_frozen BK_gt.out 1; clear hc_gm_0 hf_gm_0 hc_gm_1 hf_gm_1 hc_gm_2 hf_gm_2 hc_gm_3 hf_gm_3; replace BK_gm := mvB BK_gm hB; have hc_gm_0 : w7_.cell? ⟨gm, 0, none⟩ = some (.int .u32 g) := (blk_cell BK_gm.out 0).trans rfl; have hf_gm_0 := blk_frozen BK_gm.out 0; have hc_gm_1 : w7_.cell? ⟨gm, 1, none⟩ = some (.bool ex) := (blk_cell BK_gm.out 1).trans rfl; have hf_gm_1 := blk_frozen BK_gm.out 1; have hc_gm_2 : w7_.cell? ⟨gm, 2, none⟩ = some (.int .i64 lf) := (blk_cell BK_gm.out 2).trans rfl; have hf_gm_2 := blk_frozen BK_gm.out 2; have hc_gm_3 : w7_.cell? ⟨gm, 3, none⟩ = some (.slice A_x sr.length c_x) := (blk_cell BK_gm.out 3).trans rfl; have hf_gm_3 := blk_frozen BK_gm.out 3; clear hB) | (go_at_call 11; with_reducible refine (right_flat (b := true) (by simp [XX.out]) _ _ _ (Kd.C_below HC_x.out HB.out) HK_x.out).mono ?_; rintro e w8_ ⟨rfl, hB⟩; replace HB := mvH HB hB; clear hc_gt_0 hf_gt_0 hc_gt_1 hf_gt_1; replace BK_gt := mvB BK_gt hB; have hc_gt_0 : w8_.cell? ⟨gt, 0, none⟩ = some (.int .i64 t.f0) := (blk_cell BK_gt.out 0).trans rfl; have hf_gt_0 := blk_frozen BK_gt.out 0; have hc_gt_1 : w8_.cell? ⟨gt, 1, none⟩ = some (.int .i64 t.f1) := (blk_cell BK_gt.out 1).trans rfl; have hf_gt_1 := blk_frozen BK_gt.out 1; clear hc_gm_0 hf_gm_0 hc_gm_1 hf_gm_1 hc_gm_2 hf_gm_2 hc_gm_3 hf_gm_3; replace BK_gm := mvB BK_gm hB; have hc_gm_0 : w8_.cell? ⟨gm, 0, none⟩ = some (.int .u32 g) := (blk_cell BK_gm.out 0).trans rfl; have hf_gm_0 := blk_frozen BK_gm.out 0; have hc_gm_1 : w8_.cell? ⟨gm, 1, none⟩ = some (.bool ex) := (blk_cell BK_gm.out 1).trans rfl; have hf_gm_1 := blk_frozen BK_gm.out 1; have hc_gm_2 : w8_.cell? ⟨gm, 2, none⟩ = some (.int .i64 lf) := (blk_cell BK_gm.out 2).trans rfl; have hf_gm_2 := blk_frozen BK_gm.out 2; have hc_gm_3 : w8_.cell? ⟨gm, 3, none⟩ = some (.slice A_x sr.length c_x) := (blk_cell BK_gm.out 3).trans rfl; have hf_gm_3 := blk_frozen BK_gm.out 3; clear hB))
    go_ret
    exact ⟨rfl, HB.out⟩
  obtain ⟨bi, hbi⟩ : ∃ b, decide (a ∈ l) = b := ⟨_, rfl⟩
  obtain ⟨bm, hbm⟩ : ∃ b, wantsB ⟨g, ex, lf, sr⟩ a = b := ⟨_, rfl⟩
  obtain ⟨g1, e1, l1, s1, q1, r1, hh1, hm1⟩ := hear_tell (XM.out) hx 5 l
  obtain ⟨g2, e2, l2, s2, q2, r2, hh2, hm2⟩ := hear_tell (XM.out) hx 6 l
  obtain ⟨g4, e4, l4, s4, hh4⟩ : ∃ g4 e4 l4 s4, tickM ⟨g2, e2, l2, s2⟩ t.f1 = ⟨g4, e4, l4, s4⟩ := ⟨_, _, _, _, rfl⟩
  have hl4 : 0 ≤ t.f1 := by have := may_iff.1 XM.out; omega
  have hm4 : MOk ⟨g4, e4, l4, s4⟩ := by rw [← hh4]; exact tick_right hm2 hl4
  have d1 : (r1 = 0 ∧ wantsB ⟨g1, e1, l1, s1⟩ a = (bm || bi)) ∨ r1 = 7 := by
    have h2 := hear_err 5 l (by decide) ⟨g, ex, lf, sr⟩ (t := t)
    have h3 := adds_allow (t := t) (l := l) (a := a) XM.out hx
    rw [hh1] at h2 h3
    rw [hbm, hbi] at h3
    rcases h2 with h2 | h2
    · exact .inl ⟨h2, h3 h2⟩
    · exact .inr h2
  have d2 : (r2 = 0 ∧ wantsB ⟨g2, e2, l2, s2⟩ a = bm ∧ (bi = true → wantsB ⟨g4, e4, l4, s4⟩ a = false)) ∨ r2 = 7 := by
    have h2 := hear_err 6 l (by decide) ⟨g, ex, lf, sr⟩ (t := t)
    have h3 := adds_block (t := t) (l := l) (a := a) XM.out hx
    have h5 := adds_gone (t := t) (l := l) (a := a) XM.out hx
    rw [hh2] at h2 h3 h5
    rw [hh4] at h5
    rw [hbm] at h3
    rcases h2 with h2 | h2
    · exact .inl ⟨h2, h3 h2, fun hb => h5 h2 (by rw [hb] at hbi; simpa using hbi)⟩
    · exact .inr h2
  have hl2 := Aside0.mk (show l.length ≤ 1000 by omega)
  have Xhx := Aside0.mk hx
  have Xhbi := Aside0.mk hbi
  have Xhbm := Aside0.mk hbm
  have Xhh1 := Aside0.mk hh1
  have Xhm1 := Aside0.mk hm1
  have Xhh2 := Aside0.mk hh2
  have Xhm2 := Aside0.mk hm2
  have Xhh4 := Aside0.mk hh4
  have Xhm4 := Aside0.mk hm4
  have Xhl4 := Aside0.mk hl4
  have Xd1 := Aside0.mk d1
  have Xd2 := Aside0.mk d2
  obtain ⟨n1, hn1⟩ : ∃ n, q1.length = n := ⟨_, rfl⟩
  obtain ⟨n2, hn2⟩ : ∃ n, q2.length = n := ⟨_, rfl⟩
  have XN1 := Aside0.mk hn1
  have XN2 := Aside0.mk hn2
  clear hx hbi hbm hh1 hm1 hh2 hm2 hh4 hm4 hl4 d1 d2 hn1 hn2
  go_upto_region 9 with (first | (go_at_call 10; with_reducible refine (mayR_w XM.out _).mono ?_; rintro e w7_ ⟨rfl, hB⟩; replace HB := mvH HB hB; clear hc_gt_0 hf_gt_0 hc_gt_1 hf_gt_1; replace BK_gt := mvB BK_gt hB; have hc_gt_0 : w7_.cell? ⟨gt, 0, none⟩ = some (.int .i64 t.f0) := (blk_cell BK_gt.out 0).trans rfl; have hf_gt_0 := blk_frozen BK_gt.out 0; have hc_gt_1 : w7_.cell? ⟨gt, 1, none⟩ = some (.int .i64 t.f1) := (blk_cell BK_gt.out 1).trans rfl; have hf_gt_1 := blk_frozen BK_gt.out 1; clear hc_gm_0 hf_gm_0 hc_gm_1 hf_gm_1 hc_gm_2 hf_gm_2 hc_gm_3 hf_gm_3; replace BK_gm := mvB BK_gm hB; have hc_gm_0 : w7_.cell? ⟨gm, 0, none⟩ = some (.int .u32 g) := (blk_cell BK_gm.out 0).trans rfl; have hf_gm_0 := blk_frozen BK_gm.out 0; have hc_gm_1 : w7_.cell? ⟨gm, 1, none⟩ = some (.bool ex) := (blk_cell BK_gm.out 1).trans rfl; have hf_gm_1 := blk_frozen BK_gm.out 1; have hc_gm_2 : w7_.cell? ⟨gm, 2, none⟩ = some (.int .i64 lf) := (blk_cell BK_gm.out 2).trans rfl; have hf_gm_2 := blk_frozen BK_gm.out 2; have hc_gm_3 : w7_.cell? ⟨gm, 3, none⟩ = some (.slice A_x sr.length c_x) := (blk_cell BK_gm.out 3).trans rfl; have hf_gm_3 := blk_frozen BK_gm.out 3; clear hB) | (go_at_call 11; with_reducible refine (right_flat (b := true) (by simp [XX.out]) _ _ _ (Kd.C_below HC_x.out HB.out) HK_x.out).mono ?_; rintro e w8_ ⟨rfl, hB⟩; replace HB := mvH HB hB; clear hc_gt_0 hf_gt_0 hc_gt_1 hf_gt_1; replace BK_gt := mvB BK_gt hB; have hc_gt_0 : w8_.cell? ⟨gt, 0, none⟩ = some (.int .i64 t.f0) := (blk_cell BK_gt.out 0).trans rfl; have hf_gt_0 := blk_frozen BK_gt.out 0; have hc_gt_1 : w8_.cell? ⟨gt, 1, none⟩ = some (.int .i64 t.f1) := (blk_cell BK_gt.out 1).trans rfl; have hf_gt_1 := blk_frozen BK_gt.out 1; clear hc_gm_0 hf_gm_0 hc_gm_1 hf_gm_1 hc_gm_2 hf_gm_2 hc_gm_3 hf_gm_3; replace BK_gm := mvB BK_gm hB; have hc_gm_0 : w8_.cell? ⟨gm, 0, none⟩ = some (.int .u32 g) := (blk_cell BK_gm.out 0).trans rfl; have hf_gm_0 := blk_frozen BK_gm.out 0; have hc_gm_1 : w8_.cell? ⟨gm, 1, none⟩ = some (.bool ex) := (blk_cell BK_gm.out 1).trans rfl; have hf_gm_1 := blk_frozen BK_gm.out 1; have hc_gm_2 : w8_.cell? ⟨gm, 2, none⟩ = some (.int .i64 lf) := (blk_cell BK_gm.out 2).trans rfl; have hf_gm_2 := blk_frozen BK_gm.out 2; have hc_gm_3 : w8_.cell? ⟨gm, 3, none⟩ = some (.slice A_x sr.length c_x) := (blk_cell BK_gm.out 3).trans rfl; have hf_gm_3 := blk_frozen BK_gm.out 3; clear hB) | (go_at_call 12; (with_reducible refine (hear_flat Xhx.out hl2.out Xhh1.out XN1.out _ _ _ _ _ (Kd.C_below HC_x.out HB.out) HK_x.out (Kd.C_below HC_l.out HB.out) HK_l.out).mono ?_); rintro e_ w9_ ⟨A_r1, c_r1, A_r1a, c_r1a, rfl, hC, hK, hB⟩; replace HB := mvH HB hB; clear hc_gt_0 hf_gt_0 hc_gt_1 hf_gt_1; replace BK_gt := mvB BK_gt hB; have hc_gt_0 : w9_.cell? ⟨gt, 0, none⟩ = some (.int .i64 t.f0) := (blk_cell BK_gt.out 0).trans rfl; have hf_gt_0 := blk_frozen BK_gt.out 0; have hc_gt_1 : w9_.cell? ⟨gt, 1, none⟩ = some (.int .i64 t.f1) := (blk_cell BK_gt.out 1).trans rfl; have hf_gt_1 := blk_frozen BK_gt.out 1; clear hc_gm_0 hf_gm_0 hc_gm_1 hf_gm_1 hc_gm_2 hf_gm_2 hc_gm_3 hf_gm_3; replace BK_gm := mvB BK_gm hB; have hc_gm_0 : w9_.cell? ⟨gm, 0, none⟩ = some (.int .u32 g) := (blk_cell BK_gm.out 0).trans rfl; have hf_gm_0 := blk_frozen BK_gm.out 0; have hc_gm_1 : w9_.cell? ⟨gm, 1, none⟩ = some (.bool ex) := (blk_cell BK_gm.out 1).trans rfl; have hf_gm_1 := blk_frozen BK_gm.out 1; have hc_gm_2 : w9_.cell? ⟨gm, 2, none⟩ = some (.int .i64 lf) := (blk_cell BK_gm.out 2).trans rfl; have hf_gm_2 := blk_frozen BK_gm.out 2; have hc_gm_3 : w9_.cell? ⟨gm, 3, none⟩ = some (.slice A_x sr.length c_x) := (blk_cell BK_gm.out 3).trans rfl; have hf_gm_3 := blk_frozen BK_gm.out 3; have HC_r1 := Aside0.mk hC; have HK_r1 := Aside0.mk hK; clear hC hK hB) | ((with_reducible refine gate_dst (N := 8) rfl ?_); (try (refine gate_guard (by rfl) ?_; dsimp only)); refine box_event ?hg (N := 8) ?hd (cs := #[.int .u32 0, .bool false, .int .i64 0, .slice none 0 0]) (t := 28) ?hr ?_; (case hd => rfl); (case hg => rfl); (case hr => first | (go_simp; done) | (go_simp; rfl)); intro b1 hg w10_ hbox hB0; have hG := Aside0.mk (show w9_.heap.size ≤ b1 from Nat.le_of_eq hg.symm); clear hg; have hBX := Aside0.mk hbox; have hB1 := Aside0.mk hB0; clear hB0; have hc_b1_0 : w10_.cell? ⟨b1, 0, none⟩ = some (.int .u32 0) := (blk_cell hbox 0).trans rfl; have hf_b1_0 := blk_frozen hbox 0; have hc_b1_1 : w10_.cell? ⟨b1, 1, none⟩ = some (.bool false) := (blk_cell hbox 1).trans rfl; have hf_b1_1 := blk_frozen hbox 1; have hc_b1_2 : w10_.cell? ⟨b1, 2, none⟩ = some (.int .i64 0) := (blk_cell hbox 2).trans rfl; have hf_b1_2 := blk_frozen hbox 2; have hc_b1_3 : w10_.cell? ⟨b1, 3, none⟩ = some (.slice none 0 0) := (blk_cell hbox 3).trans rfl; have hf_b1_3 := blk_frozen hbox 3; clear hbox))
  have hB : Below w9_.heap.size w9_ ((((w10_.setCell ⟨b1, 0, none⟩ (.int .u32 g1)).setCell ⟨b1, 1, none⟩ (.bool e1)).setCell ⟨b1, 2, none⟩ (.int .i64 l1)).setCell ⟨b1, 3, none⟩ (.slice A_r1 s1.length c_r1)) := (below_set (below_set (below_set (below_set hB1.out hG.out) hG.out) hG.out) hG.out)
  have hBN : ((((w10_.setCell ⟨b1, 0, none⟩ (.int .u32 g1)).setCell ⟨b1, 1, none⟩ (.bool e1)).setCell ⟨b1, 2, none⟩ (.int .i64 l1)).setCell ⟨b1, 3, none⟩ (.slice A_r1 s1.length c_r1)).heap[b1]? = some (.cells #[.int .u32 g1, .bool e1, .int .i64 l1, .slice A_r1 s1.length c_r1] 28 (0, 0)) := (blk_put (cs := #[.int .u32 g1, .bool e1, .int .i64 l1, .slice none 0 0]) (blk_put (cs := #[.int .u32 g1, .bool e1, .int .i64 0, .slice none 0 0]) (blk_put (cs := #[.int .u32 g1, .bool false, .int .i64 0, .slice none 0 0]) (blk_put (cs := #[.int .u32 0, .bool false, .int .i64 0, .slice none 0 0]) hBX.out 0 (.int .u32 g1) rfl) 1 (.bool e1) rfl) 2 (.int .i64 l1) rfl) 3 (.slice A_r1 s1.length c_r1) rfl)
  clear hBX hB1
  clear hc_b1_0 hf_b1_0 hc_b1_1 hf_b1_1 hc_b1_2 hf_b1_2 hc_b1_3 hf_b1_3
  generalize ((((w10_.setCell ⟨b1, 0, none⟩ (.int .u32 g1)).setCell ⟨b1, 1, none⟩ (.bool e1)).setCell ⟨b1, 2, none⟩ (.int .i64 l1)).setCell ⟨b1, 3, none⟩ (.slice A_r1 s1.length c_r1)) = w11_ at hB hBN ⊢
  replace HB := mvH HB hB
  clear hc_gt_0 hf_gt_0 hc_gt_1 hf_gt_1
  replace BK_gt := mvB BK_gt hB
  have hc_gt_0 : w11_.cell? ⟨gt, 0, none⟩ = some (.int .i64 t.f0) := (blk_cell BK_gt.out 0).trans rfl
  have hf_gt_0 := blk_frozen BK_gt.out 0
  have hc_gt_1 : w11_.cell? ⟨gt, 1, none⟩ = some (.int .i64 t.f1) := (blk_cell BK_gt.out 1).trans rfl
  have hf_gt_1 := blk_frozen BK_gt.out 1
  clear hc_gm_0 hf_gm_0 hc_gm_1 hf_gm_1 hc_gm_2 hf_gm_2 hc_gm_3 hf_gm_3
  replace BK_gm := mvB BK_gm hB
  have hc_gm_0 : w11_.cell? ⟨gm, 0, none⟩ = some (.int .u32 g) := (blk_cell BK_gm.out 0).trans rfl
  have hf_gm_0 := blk_frozen BK_gm.out 0
  have hc_gm_1 : w11_.cell? ⟨gm, 1, none⟩ = some (.bool ex) := (blk_cell BK_gm.out 1).trans rfl
  have hf_gm_1 := blk_frozen BK_gm.out 1
  have hc_gm_2 : w11_.cell? ⟨gm, 2, none⟩ = some (.int .i64 lf) := (blk_cell BK_gm.out 2).trans rfl
  have hf_gm_2 := blk_frozen BK_gm.out 2
  have hc_gm_3 : w11_.cell? ⟨gm, 3, none⟩ = some (.slice A_x sr.length c_x) := (blk_cell BK_gm.out 3).trans rfl
  have hf_gm_3 := blk_frozen BK_gm.out 3
  replace HC_r1 := mvC HC_r1 hB
  have BK_b1 := Aside0.mk hBN
  clear hG hBN hB
  have hc_b1_0 : w11_.cell? ⟨b1, 0, none⟩ = some (.int .u32 g1) := (blk_cell BK_b1.out 0).trans rfl
  have hf_b1_0 := blk_frozen BK_b1.out 0
  have hc_b1_1 : w11_.cell? ⟨b1, 1, none⟩ = some (.bool e1) := (blk_cell BK_b1.out 1).trans rfl
  have hf_b1_1 := blk_frozen BK_b1.out 1
  have hc_b1_2 : w11_.cell? ⟨b1, 2, none⟩ = some (.int .i64 l1) := (blk_cell BK_b1.out 2).trans rfl
  have hf_b1_2 := blk_frozen BK_b1.out 2
  have hc_b1_3 : w11_.cell? ⟨b1, 3, none⟩ = some (.slice A_r1 s1.length c_r1) := (blk_cell BK_b1.out 3).trans rfl
  have hf_b1_3 := blk_frozen BK_b1.out 3
  go_upto_region 10 with (first | (go_at_call 12; (with_reducible refine (hear_flat Xhx.out hl2.out Xhh2.out XN2.out _ _ _ _ _ (Kd.C_below HC_x.out HB.out) HK_x.out (Kd.C_below HC_l.out HB.out) HK_l.out).mono ?_); rintro e_ w12_ ⟨A_r2, c_r2, A_r2a, c_r2a, rfl, hC, hK, hB⟩; replace HB := mvH HB hB; clear hc_gt_0 hf_gt_0 hc_gt_1 hf_gt_1; replace BK_gt := mvB BK_gt hB; have hc_gt_0 : w12_.cell? ⟨gt, 0, none⟩ = some (.int .i64 t.f0) := (blk_cell BK_gt.out 0).trans rfl; have hf_gt_0 := blk_frozen BK_gt.out 0; have hc_gt_1 : w12_.cell? ⟨gt, 1, none⟩ = some (.int .i64 t.f1) := (blk_cell BK_gt.out 1).trans rfl; have hf_gt_1 := blk_frozen BK_gt.out 1; clear hc_gm_0 hf_gm_0 hc_gm_1 hf_gm_1 hc_gm_2 hf_gm_2 hc_gm_3 hf_gm_3; replace BK_gm := mvB BK_gm hB; have hc_gm_0 : w12_.cell? ⟨gm, 0, none⟩ = some (.int .u32 g) := (blk_cell BK_gm.out 0).trans rfl; have hf_gm_0 := blk_frozen BK_gm.out 0; have hc_gm_1 : w12_.cell? ⟨gm, 1, none⟩ = some (.bool ex) := (blk_cell BK_gm.out 1).trans rfl; have hf_gm_1 := blk_frozen BK_gm.out 1; have hc_gm_2 : w12_.cell? ⟨gm, 2, none⟩ = some (.int .i64 lf) := (blk_cell BK_gm.out 2).trans rfl; have hf_gm_2 := blk_frozen BK_gm.out 2; have hc_gm_3 : w12_.cell? ⟨gm, 3, none⟩ = some (.slice A_x sr.length c_x) := (blk_cell BK_gm.out 3).trans rfl; have hf_gm_3 := blk_frozen BK_gm.out 3; clear hc_b1_0 hf_b1_0 hc_b1_1 hf_b1_1 hc_b1_2 hf_b1_2 hc_b1_3 hf_b1_3; replace BK_b1 := mvB BK_b1 hB; have hc_b1_0 : w12_.cell? ⟨b1, 0, none⟩ = some (.int .u32 g1) := (blk_cell BK_b1.out 0).trans rfl; have hf_b1_0 := blk_frozen BK_b1.out 0; have hc_b1_1 : w12_.cell? ⟨b1, 1, none⟩ = some (.bool e1) := (blk_cell BK_b1.out 1).trans rfl; have hf_b1_1 := blk_frozen BK_b1.out 1; have hc_b1_2 : w12_.cell? ⟨b1, 2, none⟩ = some (.int .i64 l1) := (blk_cell BK_b1.out 2).trans rfl; have hf_b1_2 := blk_frozen BK_b1.out 2; have hc_b1_3 : w12_.cell? ⟨b1, 3, none⟩ = some (.slice A_r1 s1.length c_r1) := (blk_cell BK_b1.out 3).trans rfl; have hf_b1_3 := blk_frozen BK_b1.out 3; replace HC_r1 := mvC HC_r1 hB; have HC_r2 := Aside0.mk hC; have HK_r2 := Aside0.mk hK; clear hC hK hB) | ((with_reducible refine gate_dst (N := 11) rfl ?_); (try (refine gate_guard (by rfl) ?_; dsimp only)); refine box_event ?hg (N := 11) ?hd (cs := #[.int .u32 0, .bool false, .int .i64 0, .slice none 0 0]) (t := 28) ?hr ?_; (case hd => rfl); (case hg => rfl); (case hr => first | (go_simp; done) | (go_simp; rfl)); intro b2 hg w13_ hbox hB0; have hG := Aside0.mk (show w12_.heap.size ≤ b2 from Nat.le_of_eq hg.symm); clear hg; have hBX := Aside0.mk hbox; have hB1 := Aside0.mk hB0; clear hB0; have hc_b2_0 : w13_.cell? ⟨b2, 0, none⟩ = some (.int .u32 0) := (blk_cell hbox 0).trans rfl; have hf_b2_0 := blk_frozen hbox 0; have hc_b2_1 : w13_.cell? ⟨b2, 1, none⟩ = some (.bool false) := (blk_cell hbox 1).trans rfl; have hf_b2_1 := blk_frozen hbox 1; have hc_b2_2 : w13_.cell? ⟨b2, 2, none⟩ = some (.int .i64 0) := (blk_cell hbox 2).trans rfl; have hf_b2_2 := blk_frozen hbox 2; have hc_b2_3 : w13_.cell? ⟨b2, 3, none⟩ = some (.slice none 0 0) := (blk_cell hbox 3).trans rfl; have hf_b2_3 := blk_frozen hbox 3; clear hbox))
  have hB : Below w12_.heap.size w12_ ((((w13_.setCell ⟨b2, 0, none⟩ (.int .u32 g2)).setCell ⟨b2, 1, none⟩ (.bool e2)).setCell ⟨b2, 2, none⟩ (.int .i64 l2)).setCell ⟨b2, 3, none⟩ (.slice A_r2 s2.length c_r2)) := (below_set (below_set (below_set (below_set hB1.out hG.out) hG.out) hG.out) hG.out)
  have hBN : ((((w13_.setCell ⟨b2, 0, none⟩ (.int .u32 g2)).setCell ⟨b2, 1, none⟩ (.bool e2)).setCell ⟨b2, 2, none⟩ (.int .i64 l2)).setCell ⟨b2, 3, none⟩ (.slice A_r2 s2.length c_r2)).heap[b2]? = some (.cells #[.int .u32 g2, .bool e2, .int .i64 l2, .slice A_r2 s2.length c_r2] 28 (0, 0)) := (blk_put (cs := #[.int .u32 g2, .bool e2, .int .i64 l2, .slice none 0 0]) (blk_put (cs := #[.int .u32 g2, .bool e2, .int .i64 0, .slice none 0 0]) (blk_put (cs := #[.int .u32 g2, .bool false, .int .i64 0, .slice none 0 0]) (blk_put (cs := #[.int .u32 0, .bool false, .int .i64 0, .slice none 0 0]) hBX.out 0 (.int .u32 g2) rfl) 1 (.bool e2) rfl) 2 (.int .i64 l2) rfl) 3 (.slice A_r2 s2.length c_r2) rfl)
  clear hBX hB1
  clear hc_b2_0 hf_b2_0 hc_b2_1 hf_b2_1 hc_b2_2 hf_b2_2 hc_b2_3 hf_b2_3
  generalize ((((w13_.setCell ⟨b2, 0, none⟩ (.int .u32 g2)).setCell ⟨b2, 1, none⟩ (.bool e2)).setCell ⟨b2, 2, none⟩ (.int .i64 l2)).setCell ⟨b2, 3, none⟩ (.slice A_r2 s2.length c_r2)) = w14_ at hB hBN ⊢
  replace HB := mvH HB hB
  clear hc_gt_0 hf_gt_0 hc_gt_1 hf_gt_1
  replace BK_gt := mvB BK_gt hB
  have hc_gt_0 : w14_.cell? ⟨gt, 0, none⟩ = some (.int .i64 t.f0) := (blk_cell BK_gt.out 0).trans rfl
  have hf_gt_0 := blk_frozen BK_gt.out 0
  have hc_gt_1 : w14_.cell? ⟨gt, 1, none⟩ = some (.int .i64 t.f1) := (blk_cell BK_gt.out 1).trans rfl
  have hf_gt_1 := blk_frozen BK_gt.out 1
  clear hc_gm_0 hf_gm_0 hc_gm_1 hf_gm_1 hc_gm_2 hf_gm_2 hc_gm_3 hf_gm_3
  replace BK_gm := mvB BK_gm hB
  have hc_gm_0 : w14_.cell? ⟨gm, 0, none⟩ = some (.int .u32 g) := (blk_cell BK_gm.out 0).trans rfl
  have hf_gm_0 := blk_frozen BK_gm.out 0
  have hc_gm_1 : w14_.cell? ⟨gm, 1, none⟩ = some (.bool ex) := (blk_cell BK_gm.out 1).trans rfl
  have hf_gm_1 := blk_frozen BK_gm.out 1
  have hc_gm_2 : w14_.cell? ⟨gm, 2, none⟩ = some (.int .i64 lf) := (blk_cell BK_gm.out 2).trans rfl
  have hf_gm_2 := blk_frozen BK_gm.out 2
  have hc_gm_3 : w14_.cell? ⟨gm, 3, none⟩ = some (.slice A_x sr.length c_x) := (blk_cell BK_gm.out 3).trans rfl
  have hf_gm_3 := blk_frozen BK_gm.out 3
  clear hc_b1_0 hf_b1_0 hc_b1_1 hf_b1_1 hc_b1_2 hf_b1_2 hc_b1_3 hf_b1_3
  replace BK_b1 := mvB BK_b1 hB
  have hc_b1_0 : w14_.cell? ⟨b1, 0, none⟩ = some (.int .u32 g1) := (blk_cell BK_b1.out 0).trans rfl
  have hf_b1_0 := blk_frozen BK_b1.out 0
  have hc_b1_1 : w14_.cell? ⟨b1, 1, none⟩ = some (.bool e1) := (blk_cell BK_b1.out 1).trans rfl
  have hf_b1_1 := blk_frozen BK_b1.out 1
  have hc_b1_2 : w14_.cell? ⟨b1, 2, none⟩ = some (.int .i64 l1) := (blk_cell BK_b1.out 2).trans rfl
  have hf_b1_2 := blk_frozen BK_b1.out 2
  have hc_b1_3 : w14_.cell? ⟨b1, 3, none⟩ = some (.slice A_r1 s1.length c_r1) := (blk_cell BK_b1.out 3).trans rfl
  have hf_b1_3 := blk_frozen BK_b1.out 3
  replace HC_r1 := mvC HC_r1 hB
  replace HC_r2 := mvC HC_r2 hB
  have BK_b2 := Aside0.mk hBN
  clear hG hBN hB
  have hc_b2_0 : w14_.cell? ⟨b2, 0, none⟩ = some (.int .u32 g2) := (blk_cell BK_b2.out 0).trans rfl
  have hf_b2_0 := blk_frozen BK_b2.out 0
  have hc_b2_1 : w14_.cell? ⟨b2, 1, none⟩ = some (.bool e2) := (blk_cell BK_b2.out 1).trans rfl
  have hf_b2_1 := blk_frozen BK_b2.out 1
  have hc_b2_2 : w14_.cell? ⟨b2, 2, none⟩ = some (.int .i64 l2) := (blk_cell BK_b2.out 2).trans rfl
  have hf_b2_2 := blk_frozen BK_b2.out 2
  have hc_b2_3 : w14_.cell? ⟨b2, 3, none⟩ = some (.slice A_r2 s2.length c_r2) := (blk_cell BK_b2.out 3).trans rfl
  have hf_b2_3 := blk_frozen BK_b2.out 3
  go_upto_region 11 with (first | (go_at_call 18; with_reducible refine (has6_w (by have := hl2.out; omega) Xhbi.out _ _ _ (Kd.C_below HC_l.out HB.out) HK_l.out).mono ?_; rintro e w15_ ⟨rfl, hB⟩; replace HB := mvH HB hB; clear hc_gt_0 hf_gt_0 hc_gt_1 hf_gt_1; replace BK_gt := mvB BK_gt hB; have hc_gt_0 : w15_.cell? ⟨gt, 0, none⟩ = some (.int .i64 t.f0) := (blk_cell BK_gt.out 0).trans rfl; have hf_gt_0 := blk_frozen BK_gt.out 0; have hc_gt_1 : w15_.cell? ⟨gt, 1, none⟩ = some (.int .i64 t.f1) := (blk_cell BK_gt.out 1).trans rfl; have hf_gt_1 := blk_frozen BK_gt.out 1; clear hc_gm_0 hf_gm_0 hc_gm_1 hf_gm_1 hc_gm_2 hf_gm_2 hc_gm_3 hf_gm_3; replace BK_gm := mvB BK_gm hB; have hc_gm_0 : w15_.cell? ⟨gm, 0, none⟩ = some (.int .u32 g) := (blk_cell BK_gm.out 0).trans rfl; have hf_gm_0 := blk_frozen BK_gm.out 0; have hc_gm_1 : w15_.cell? ⟨gm, 1, none⟩ = some (.bool ex) := (blk_cell BK_gm.out 1).trans rfl; have hf_gm_1 := blk_frozen BK_gm.out 1; have hc_gm_2 : w15_.cell? ⟨gm, 2, none⟩ = some (.int .i64 lf) := (blk_cell BK_gm.out 2).trans rfl; have hf_gm_2 := blk_frozen BK_gm.out 2; have hc_gm_3 : w15_.cell? ⟨gm, 3, none⟩ = some (.slice A_x sr.length c_x) := (blk_cell BK_gm.out 3).trans rfl; have hf_gm_3 := blk_frozen BK_gm.out 3; clear hc_b1_0 hf_b1_0 hc_b1_1 hf_b1_1 hc_b1_2 hf_b1_2 hc_b1_3 hf_b1_3; replace BK_b1 := mvB BK_b1 hB; have hc_b1_0 : w15_.cell? ⟨b1, 0, none⟩ = some (.int .u32 g1) := (blk_cell BK_b1.out 0).trans rfl; have hf_b1_0 := blk_frozen BK_b1.out 0; have hc_b1_1 : w15_.cell? ⟨b1, 1, none⟩ = some (.bool e1) := (blk_cell BK_b1.out 1).trans rfl; have hf_b1_1 := blk_frozen BK_b1.out 1; have hc_b1_2 : w15_.cell? ⟨b1, 2, none⟩ = some (.int .i64 l1) := (blk_cell BK_b1.out 2).trans rfl; have hf_b1_2 := blk_frozen BK_b1.out 2; have hc_b1_3 : w15_.cell? ⟨b1, 3, none⟩ = some (.slice A_r1 s1.length c_r1) := (blk_cell BK_b1.out 3).trans rfl; have hf_b1_3 := blk_frozen BK_b1.out 3; clear hc_b2_0 hf_b2_0 hc_b2_1 hf_b2_1 hc_b2_2 hf_b2_2 hc_b2_3 hf_b2_3; replace BK_b2 := mvB BK_b2 hB; have hc_b2_0 : w15_.cell? ⟨b2, 0, none⟩ = some (.int .u32 g2) := (blk_cell BK_b2.out 0).trans rfl; have hf_b2_0 := blk_frozen BK_b2.out 0; have hc_b2_1 : w15_.cell? ⟨b2, 1, none⟩ = some (.bool e2) := (blk_cell BK_b2.out 1).trans rfl; have hf_b2_1 := blk_frozen BK_b2.out 1; have hc_b2_2 : w15_.cell? ⟨b2, 2, none⟩ = some (.int .i64 l2) := (blk_cell BK_b2.out 2).trans rfl; have hf_b2_2 := blk_frozen BK_b2.out 2; have hc_b2_3 : w15_.cell? ⟨b2, 3, none⟩ = some (.slice A_r2 s2.length c_r2) := (blk_cell BK_b2.out 3).trans rfl; have hf_b2_3 := blk_frozen BK_b2.out 3; replace HC_r1 := mvC HC_r1 hB; replace HC_r2 := mvC HC_r2 hB; clear hB))
  go_cut [83] (fun v83 wc => v83 = .bool false ∧ Aside0 (Below w15_.heap.size w15_ wc))
  case first =>
    have HZ := Aside0.mk (Below.refl w15_.heap.size w15_)
    clear hc_gt_0 hf_gt_0 hc_gt_1 hf_gt_1
    clear BK_gt
    obtain ⟨d1⟩ := Xd1
    obtain ⟨d2⟩ := Xd2
    rcases d1 with ⟨rfl, hw1⟩ | rfl
    · rcases d2 with ⟨rfl, hw2, hg2⟩ | rfl
      · cases bm
        · simp only [Bool.false_or, Bool.true_or] at hw1
          have XW1 := Aside0.mk hw1
          clear hw1
          have XW2 := Aside0.mk hw2
          clear hw2 hg2
          refine start_ (n := 27) (S := fun w' => w'.cell? ⟨gm, 0, none⟩ = some (.int .u32 g) ∧ w'.cell? ⟨gm, 1, none⟩ = some (.bool ex) ∧ w'.cell? ⟨gm, 2, none⟩ = some (.int .i64 lf) ∧ w'.cell? ⟨gm, 3, none⟩ = some (.slice A_x sr.length c_x) ∧ w'.cell? ⟨b1, 0, none⟩ = some (.int .u32 g1) ∧ w'.cell? ⟨b1, 1, none⟩ = some (.bool e1) ∧ w'.cell? ⟨b1, 2, none⟩ = some (.int .i64 l1) ∧ w'.cell? ⟨b1, 3, none⟩ = some (.slice A_r1 s1.length c_r1) ∧ w'.cell? ⟨b2, 0, none⟩ = some (.int .u32 g2) ∧ w'.cell? ⟨b2, 1, none⟩ = some (.bool e2) ∧ w'.cell? ⟨b2, 2, none⟩ = some (.int .i64 l2) ∧ w'.cell? ⟨b2, 3, none⟩ = some (.slice A_r2 s2.length c_r2)) (ds := []) #[false, false, false, false, false, false, false, false, false, false, false, false, false, false, false, false, false, false, false, false, false, false, false, false, false, false, false] (by kernel_rfl) rfl rfl ⟨hc_gm_0, hc_gm_1, hc_gm_2, hc_gm_3, hc_b1_0, hc_b1_1, hc_b1_2, hc_b1_3, hc_b2_0, hc_b2_1, hc_b2_2, hc_b2_3⟩ (fun hHeld => ?_); refine with_tabW ma_t ma_b (fun HT_ HW_ => ?_)
          have hB : Below w15_.heap.size w15_ w15_.drew := below_drew (Below.refl _ _)
          generalize w15_.drew = w16_ at hB hHeld ⊢
          replace HB := mvH HB hB
          replace HZ := mvH HZ hB
          clear hc_gm_0 hf_gm_0 hc_gm_1 hf_gm_1 hc_gm_2 hf_gm_2 hc_gm_3 hf_gm_3
          replace BK_gm := mvB BK_gm hB
          have hc_gm_0 : w16_.cell? ⟨gm, 0, none⟩ = some (.int .u32 g) := (blk_cell BK_gm.out 0).trans rfl
          have hf_gm_0 := blk_frozen BK_gm.out 0
          have hc_gm_1 : w16_.cell? ⟨gm, 1, none⟩ = some (.bool ex) := (blk_cell BK_gm.out 1).trans rfl
          have hf_gm_1 := blk_frozen BK_gm.out 1
          have hc_gm_2 : w16_.cell? ⟨gm, 2, none⟩ = some (.int .i64 lf) := (blk_cell BK_gm.out 2).trans rfl
          have hf_gm_2 := blk_frozen BK_gm.out 2
          have hc_gm_3 : w16_.cell? ⟨gm, 3, none⟩ = some (.slice A_x sr.length c_x) := (blk_cell BK_gm.out 3).trans rfl
          have hf_gm_3 := blk_frozen BK_gm.out 3
          clear hc_b1_0 hf_b1_0 hc_b1_1 hf_b1_1 hc_b1_2 hf_b1_2 hc_b1_3 hf_b1_3
          replace BK_b1 := mvB BK_b1 hB
          have hc_b1_0 : w16_.cell? ⟨b1, 0, none⟩ = some (.int .u32 g1) := (blk_cell BK_b1.out 0).trans rfl
          have hf_b1_0 := blk_frozen BK_b1.out 0
          have hc_b1_1 : w16_.cell? ⟨b1, 1, none⟩ = some (.bool e1) := (blk_cell BK_b1.out 1).trans rfl
          have hf_b1_1 := blk_frozen BK_b1.out 1
          have hc_b1_2 : w16_.cell? ⟨b1, 2, none⟩ = some (.int .i64 l1) := (blk_cell BK_b1.out 2).trans rfl
          have hf_b1_2 := blk_frozen BK_b1.out 2
          have hc_b1_3 : w16_.cell? ⟨b1, 3, none⟩ = some (.slice A_r1 s1.length c_r1) := (blk_cell BK_b1.out 3).trans rfl
          have hf_b1_3 := blk_frozen BK_b1.out 3
          clear hc_b2_0 hf_b2_0 hc_b2_1 hf_b2_1 hc_b2_2 hf_b2_2 hc_b2_3 hf_b2_3
          replace BK_b2 := mvB BK_b2 hB
          have hc_b2_0 : w16_.cell? ⟨b2, 0, none⟩ = some (.int .u32 g2) := (blk_cell BK_b2.out 0).trans rfl
          have hf_b2_0 := blk_frozen BK_b2.out 0
          have hc_b2_1 : w16_.cell? ⟨b2, 1, none⟩ = some (.bool e2) := (blk_cell BK_b2.out 1).trans rfl
          have hf_b2_1 := blk_frozen BK_b2.out 1
          have hc_b2_2 : w16_.cell? ⟨b2, 2, none⟩ = some (.int .i64 l2) := (blk_cell BK_b2.out 2).trans rfl
          have hf_b2_2 := blk_frozen BK_b2.out 2
          have hc_b2_3 : w16_.cell? ⟨b2, 3, none⟩ = some (.slice A_r2 s2.length c_r2) := (blk_cell BK_b2.out 3).trans rfl
          have hf_b2_3 := blk_frozen BK_b2.out 3
          replace HC_r1 := mvC HC_r1 hB
          replace HC_r2 := mvC HC_r2 hB
          clear hB
          refine pure_ (i := 0) (N := some 57) (v := ?_) (a' := ?_) #[true, false, false, false, false, false, false, false, false, false, false, false, false, false, false, false, false, false, false, false, false, false, false, false, false, false, false] rfl rfl (any_of HT_.out (by kernel_rfl)) (fun _ _ _ h => h) (Or.inl ⟨by rfl, ?_⟩) ?_ ?_
          rotate_left
          · intro w'
            go_simp
            with_reducible rfl
          rotate_left
          · simp only [Act.put, List.setIfInBounds_toArray, List.set_cons_zero, List.set_cons_succ, i64_w, i32_w]
            rfl
          refine pure_ (i := 1) (N := some 58) (v := ?_) (a' := ?_) #[true, true, false, false, false, false, false, false, false, false, false, false, false, false, false, false, false, false, false, false, false, false, false, false, false, false, false] rfl rfl (any_of HT_.out (by kernel_rfl)) (fun _ _ _ h => h) (Or.inl ⟨by rfl, ?_⟩) ?_ ?_
          rotate_left
          · intro w'
            go_simp
            with_reducible rfl
          rotate_left
          · simp only [Act.put, List.setIfInBounds_toArray, List.set_cons_zero, List.set_cons_succ, i64_w, i32_w]
            rfl
          refine pure_ (i := 2) (N := some 59) (v := ?_) (a' := ?_) #[true, true, true, false, false, false, false, false, false, false, false, false, false, false, false, false, false, false, false, false, false, false, false, false, false, false, false] rfl rfl (any_of HT_.out (by kernel_rfl)) (fun _ _ _ h => h) (Or.inl ⟨by rfl, ?_⟩) ?_ ?_
          rotate_left
          · intro w'
            go_simp
            with_reducible rfl
          rotate_left
          · simp only [Act.put, List.setIfInBounds_toArray, List.set_cons_zero, List.set_cons_succ, i64_w, i32_w]
            rfl
          refine take_ (i := 3) (N := some 60) (v := ?_) (a' := ?_) #[true, true, true, true, false, false, false, false, false, false, false, false, false, false, false, false, false, false, false, false, false, false, false, false, false, false, false] rfl rfl (take_ofW HT_.out HW_.out (by kernel_rfl)) (fun _ _ _ h => h) (Or.inl ⟨by rfl, ?_⟩) hHeld ?_ ?_
          rotate_left
          · rintro w' ⟨s0, s1, s2, s3, s4, s5, s6, s7, s8, s9, s10, s11⟩
            go_simp
            with_reducible rfl
          rotate_left
          · simp only [Act.put, List.setIfInBounds_toArray, List.set_cons_zero, List.set_cons_succ, i64_w, i32_w]
            rfl
          refine pure_ (i := 4) (N := some 61) (v := ?_) (a' := ?_) #[true, true, true, true, true, false, false, false, false, false, false, false, false, false, false, false, false, false, false, false, false, false, false, false, false, false, false] rfl rfl (any_of HT_.out (by kernel_rfl)) (fun _ _ _ h => h) (Or.inl ⟨by rfl, ?_⟩) ?_ ?_
          rotate_left
          · intro w'
            go_simp
            with_reducible rfl
          rotate_left
          · simp only [Act.put, List.setIfInBounds_toArray, List.set_cons_zero, List.set_cons_succ, i64_w, i32_w]
            rfl
          refine take_ (i := 6) (N := some 63) (v := ?_) (a' := ?_) #[true, true, true, true, true, false, true, false, false, false, false, false, false, false, false, false, false, false, false, false, false, false, false, false, false, false, false] rfl rfl (take_ofW HT_.out HW_.out (by kernel_rfl)) (fun _ _ _ h => h) (Or.inl ⟨by rfl, ?_⟩) hHeld ?_ ?_
          rotate_left
          · rintro w' ⟨s0, s1, s2, s3, s4, s5, s6, s7, s8, s9, s10, s11⟩
            go_simp
            with_reducible rfl
          rotate_left
          · simp only [Act.put, List.setIfInBounds_toArray, List.set_cons_zero, List.set_cons_succ, i64_w, i32_w]
            rfl
          refine pure_ (i := 7) (N := some 64) (v := ?_) (a' := ?_) #[true, true, true, true, true, false, true, true, false, false, false, false, false, false, false, false, false, false, false, false, false, false, false, false, false, false, false] rfl rfl (any_of HT_.out (by kernel_rfl)) (fun _ _ _ h => h) (Or.inl ⟨by rfl, ?_⟩) ?_ ?_
          rotate_left
          · intro w'
            go_simp
            with_reducible rfl
          rotate_left
          · simp only [Act.put, List.setIfInBounds_toArray, List.set_cons_zero, List.set_cons_succ, i64_w, i32_w]
            rfl
          refine one_ (i := 5) (N := some 62) #[true, true, true, true, true, true, true, true, false, false, false, false, false, false, false, false, false, false, false, false, false, false, false, false, false, false, false] rfl rfl (one_of HT_.out (by kernel_rfl)) (by decide) (fun K hK => ?_)
          refine goes_ Try.func19 (by kernel_rfl) rfl #[.agg #[.int .u32 g1, .bool e1, .int .i64 l1, .slice A_r1 s1.length c_r1], .int .u32 a] (by rfl) rfl rfl (by (try simp only [List.map_toArray, List.map_cons, List.map_nil]); first | done | rfl | (simp only [List.length_drop, List.length_take]; rfl)) ?_
          with_reducible refine (wants_flat Xhm1.out XW1.out _ _ _ HC_r1.out HK_r1.out).mono ?_
          rintro e_ w17_ ⟨rfl, hB⟩
          refine ⟨_, rfl, ?_⟩
          replace HB := mvH HB hB
          replace HZ := mvH HZ hB
          clear hc_gm_0 hf_gm_0 hc_gm_1 hf_gm_1 hc_gm_2 hf_gm_2 hc_gm_3 hf_gm_3
          replace BK_gm := mvB BK_gm hB
          have hc_gm_0 : w17_.cell? ⟨gm, 0, none⟩ = some (.int .u32 g) := (blk_cell BK_gm.out 0).trans rfl
          have hf_gm_0 := blk_frozen BK_gm.out 0
          have hc_gm_1 : w17_.cell? ⟨gm, 1, none⟩ = some (.bool ex) := (blk_cell BK_gm.out 1).trans rfl
          have hf_gm_1 := blk_frozen BK_gm.out 1
          have hc_gm_2 : w17_.cell? ⟨gm, 2, none⟩ = some (.int .i64 lf) := (blk_cell BK_gm.out 2).trans rfl
          have hf_gm_2 := blk_frozen BK_gm.out 2
          have hc_gm_3 : w17_.cell? ⟨gm, 3, none⟩ = some (.slice A_x sr.length c_x) := (blk_cell BK_gm.out 3).trans rfl
          have hf_gm_3 := blk_frozen BK_gm.out 3
          clear hc_b1_0 hf_b1_0 hc_b1_1 hf_b1_1 hc_b1_2 hf_b1_2 hc_b1_3 hf_b1_3
          replace BK_b1 := mvB BK_b1 hB
          have hc_b1_0 : w17_.cell? ⟨b1, 0, none⟩ = some (.int .u32 g1) := (blk_cell BK_b1.out 0).trans rfl
          have hf_b1_0 := blk_frozen BK_b1.out 0
          have hc_b1_1 : w17_.cell? ⟨b1, 1, none⟩ = some (.bool e1) := (blk_cell BK_b1.out 1).trans rfl
          have hf_b1_1 := blk_frozen BK_b1.out 1
          have hc_b1_2 : w17_.cell? ⟨b1, 2, none⟩ = some (.int .i64 l1) := (blk_cell BK_b1.out 2).trans rfl
          have hf_b1_2 := blk_frozen BK_b1.out 2
          have hc_b1_3 : w17_.cell? ⟨b1, 3, none⟩ = some (.slice A_r1 s1.length c_r1) := (blk_cell BK_b1.out 3).trans rfl
          have hf_b1_3 := blk_frozen BK_b1.out 3
          clear hc_b2_0 hf_b2_0 hc_b2_1 hf_b2_1 hc_b2_2 hf_b2_2 hc_b2_3 hf_b2_3
          replace BK_b2 := mvB BK_b2 hB
          have hc_b2_0 : w17_.cell? ⟨b2, 0, none⟩ = some (.int .u32 g2) := (blk_cell BK_b2.out 0).trans rfl
          have hf_b2_0 := blk_frozen BK_b2.out 0
          have hc_b2_1 : w17_.cell? ⟨b2, 1, none⟩ = some (.bool e2) := (blk_cell BK_b2.out 1).trans rfl
          have hf_b2_1 := blk_frozen BK_b2.out 1
          have hc_b2_2 : w17_.cell? ⟨b2, 2, none⟩ = some (.int .i64 l2) := (blk_cell BK_b2.out 2).trans rfl
          have hf_b2_2 := blk_frozen BK_b2.out 2
          have hc_b2_3 : w17_.cell? ⟨b2, 3, none⟩ = some (.slice A_r2 s2.length c_r2) := (blk_cell BK_b2.out 3).trans rfl
          have hf_b2_3 := blk_frozen BK_b2.out 3
          replace HC_r1 := mvC HC_r1 hB
          replace HC_r2 := mvC HC_r2 hB
          clear hB
          refine hK.out _ _ ⟨hc_gm_0, hc_gm_1, hc_gm_2, hc_gm_3, hc_b1_0, hc_b1_1, hc_b1_2, hc_b1_3, hc_b2_0, hc_b2_1, hc_b2_2, hc_b2_3⟩ (fun hHeld => ?_)
          clear hK K
          refine norm_ (a' := ?_) ?_ ?_
          rotate_left
          · show Act.put _ (some 62) _ = _
            simp only [Act.put, List.setIfInBounds_toArray, List.set_cons_zero, List.set_cons_succ, i64_w, i32_w]
            rfl
          refine one_ (i := 8) (N := some 65) #[true, true, true, true, true, true, true, true, true, false, false, false, false, false, false, false, false, false, false, false, false, false, false, false, false, false, false] rfl rfl (one_of HT_.out (by kernel_rfl)) (by decide) (fun K hK => ?_)
          refine goes_ Try.func19 (by kernel_rfl) rfl #[.agg #[.int .u32 g, .bool ex, .int .i64 lf, .slice A_x sr.length c_x], .int .u32 a] (by rfl) rfl rfl (by (try simp only [List.map_toArray, List.map_cons, List.map_nil]); first | done | rfl | (simp only [List.length_drop, List.length_take]; rfl)) ?_
          with_reducible refine (wants_flat Xhx.out Xhbm.out _ _ _ (Kd.C_below HC_x.out HB.out) HK_x.out).mono ?_
          rintro e_ w18_ ⟨rfl, hB⟩
          refine ⟨_, rfl, ?_⟩
          replace HB := mvH HB hB
          replace HZ := mvH HZ hB
          clear hc_gm_0 hf_gm_0 hc_gm_1 hf_gm_1 hc_gm_2 hf_gm_2 hc_gm_3 hf_gm_3
          replace BK_gm := mvB BK_gm hB
          have hc_gm_0 : w18_.cell? ⟨gm, 0, none⟩ = some (.int .u32 g) := (blk_cell BK_gm.out 0).trans rfl
          have hf_gm_0 := blk_frozen BK_gm.out 0
          have hc_gm_1 : w18_.cell? ⟨gm, 1, none⟩ = some (.bool ex) := (blk_cell BK_gm.out 1).trans rfl
          have hf_gm_1 := blk_frozen BK_gm.out 1
          have hc_gm_2 : w18_.cell? ⟨gm, 2, none⟩ = some (.int .i64 lf) := (blk_cell BK_gm.out 2).trans rfl
          have hf_gm_2 := blk_frozen BK_gm.out 2
          have hc_gm_3 : w18_.cell? ⟨gm, 3, none⟩ = some (.slice A_x sr.length c_x) := (blk_cell BK_gm.out 3).trans rfl
          have hf_gm_3 := blk_frozen BK_gm.out 3
          clear hc_b1_0 hf_b1_0 hc_b1_1 hf_b1_1 hc_b1_2 hf_b1_2 hc_b1_3 hf_b1_3
          replace BK_b1 := mvB BK_b1 hB
          have hc_b1_0 : w18_.cell? ⟨b1, 0, none⟩ = some (.int .u32 g1) := (blk_cell BK_b1.out 0).trans rfl
          have hf_b1_0 := blk_frozen BK_b1.out 0
          have hc_b1_1 : w18_.cell? ⟨b1, 1, none⟩ = some (.bool e1) := (blk_cell BK_b1.out 1).trans rfl
          have hf_b1_1 := blk_frozen BK_b1.out 1
          have hc_b1_2 : w18_.cell? ⟨b1, 2, none⟩ = some (.int .i64 l1) := (blk_cell BK_b1.out 2).trans rfl
          have hf_b1_2 := blk_frozen BK_b1.out 2
          have hc_b1_3 : w18_.cell? ⟨b1, 3, none⟩ = some (.slice A_r1 s1.length c_r1) := (blk_cell BK_b1.out 3).trans rfl
          have hf_b1_3 := blk_frozen BK_b1.out 3
          clear hc_b2_0 hf_b2_0 hc_b2_1 hf_b2_1 hc_b2_2 hf_b2_2 hc_b2_3 hf_b2_3
          replace BK_b2 := mvB BK_b2 hB
          have hc_b2_0 : w18_.cell? ⟨b2, 0, none⟩ = some (.int .u32 g2) := (blk_cell BK_b2.out 0).trans rfl
          have hf_b2_0 := blk_frozen BK_b2.out 0
          have hc_b2_1 : w18_.cell? ⟨b2, 1, none⟩ = some (.bool e2) := (blk_cell BK_b2.out 1).trans rfl
          have hf_b2_1 := blk_frozen BK_b2.out 1
          have hc_b2_2 : w18_.cell? ⟨b2, 2, none⟩ = some (.int .i64 l2) := (blk_cell BK_b2.out 2).trans rfl
          have hf_b2_2 := blk_frozen BK_b2.out 2
          have hc_b2_3 : w18_.cell? ⟨b2, 3, none⟩ = some (.slice A_r2 s2.length c_r2) := (blk_cell BK_b2.out 3).trans rfl
          have hf_b2_3 := blk_frozen BK_b2.out 3
          replace HC_r1 := mvC HC_r1 hB
          replace HC_r2 := mvC HC_r2 hB
          clear hB
          refine hK.out _ _ ⟨hc_gm_0, hc_gm_1, hc_gm_2, hc_gm_3, hc_b1_0, hc_b1_1, hc_b1_2, hc_b1_3, hc_b2_0, hc_b2_1, hc_b2_2, hc_b2_3⟩ (fun hHeld => ?_)
          clear hK K
          refine norm_ (a' := ?_) ?_ ?_
          rotate_left
          · show Act.put _ (some 65) _ = _
            simp only [Act.put, List.setIfInBounds_toArray, List.set_cons_zero, List.set_cons_succ, i64_w, i32_w]
            rfl
          refine pure_ (i := 9) (N := some 66) (v := ?_) (a' := ?_) #[true, true, true, true, true, true, true, true, true, true, false, false, false, false, false, false, false, false, false, false, false, false, false, false, false, false, false] rfl rfl (any_of HT_.out (by kernel_rfl)) (fun _ _ _ h => h) (Or.inl ⟨by rfl, ?_⟩) ?_ ?_
          rotate_left
          · intro w'
            go_simp
            with_reducible rfl
          rotate_left
          · simp only [Act.put, List.setIfInBounds_toArray, List.set_cons_zero, List.set_cons_succ, i64_w, i32_w]
            rfl
          refine pure_ (i := 10) (N := some 67) (v := ?_) (a' := ?_) #[true, true, true, true, true, true, true, true, true, true, true, false, false, false, false, false, false, false, false, false, false, false, false, false, false, false, false] rfl rfl (any_of HT_.out (by kernel_rfl)) (fun _ _ _ h => h) (Or.inl ⟨by rfl, ?_⟩) ?_ ?_
          rotate_left
          · intro w'
            go_simp
            with_reducible rfl
          rotate_left
          · simp only [Act.put, List.setIfInBounds_toArray, List.set_cons_zero, List.set_cons_succ, i64_w, i32_w]
            rfl
          refine pure_ (i := 11) (N := some 68) (v := ?_) (a' := ?_) #[true, true, true, true, true, true, true, true, true, true, true, true, false, false, false, false, false, false, false, false, false, false, false, false, false, false, false] rfl rfl (any_of HT_.out (by kernel_rfl)) (fun _ _ _ h => h) (Or.inl ⟨by rfl, ?_⟩) ?_ ?_
          rotate_left
          · intro w'
            go_simp
            with_reducible rfl
          rotate_left
          · simp only [Act.put, List.setIfInBounds_toArray, List.set_cons_zero, List.set_cons_succ, i64_w, i32_w]
            rfl
          refine pure_ (i := 12) (N := some 69) (v := ?_) (a' := ?_) #[true, true, true, true, true, true, true, true, true, true, true, true, true, false, false, false, false, false, false, false, false, false, false, false, false, false, false] rfl rfl (any_of HT_.out (by kernel_rfl)) (fun _ _ _ h => h) (Or.inl ⟨by rfl, ?_⟩) ?_ ?_
          rotate_left
          · intro w'
            go_simp
            with_reducible rfl
          rotate_left
          · simp only [Act.put, List.setIfInBounds_toArray, List.set_cons_zero, List.set_cons_succ, i64_w, i32_w]
            rfl
          refine pure_ (i := 13) (N := some 70) (v := ?_) (a' := ?_) #[true, true, true, true, true, true, true, true, true, true, true, true, true, true, false, false, false, false, false, false, false, false, false, false, false, false, false] rfl rfl (any_of HT_.out (by kernel_rfl)) (fun _ _ _ h => h) (Or.inl ⟨by rfl, ?_⟩) ?_ ?_
          rotate_left
          · intro w'
            go_simp
            with_reducible rfl
          rotate_left
          · simp only [Act.put, List.setIfInBounds_toArray, List.set_cons_zero, List.set_cons_succ, i64_w, i32_w]
            rfl
          refine pure_ (i := 14) (N := some 71) (v := ?_) (a' := ?_) #[true, true, true, true, true, true, true, true, true, true, true, true, true, true, true, false, false, false, false, false, false, false, false, false, false, false, false] rfl rfl (any_of HT_.out (by kernel_rfl)) (fun _ _ _ h => h) (Or.inl ⟨by rfl, ?_⟩) ?_ ?_
          rotate_left
          · intro w'
            go_simp
            with_reducible rfl
          rotate_left
          · simp only [Act.put, List.setIfInBounds_toArray, List.set_cons_zero, List.set_cons_succ, i64_w, i32_w]
            rfl
          refine pure_ (i := 15) (N := some 72) (v := ?_) (a' := ?_) #[true, true, true, true, true, true, true, true, true, true, true, true, true, true, true, true, false, false, false, false, false, false, false, false, false, false, false] rfl rfl (any_of HT_.out (by kernel_rfl)) (fun _ _ _ h => h) (Or.inl ⟨by rfl, ?_⟩) ?_ ?_
          rotate_left
          · intro w'
            go_simp
            with_reducible rfl
          rotate_left
          · simp only [Act.put, List.setIfInBounds_toArray, List.set_cons_zero, List.set_cons_succ, i64_w, i32_w]
            rfl
          refine pure_ (i := 16) (N := some 73) (v := ?_) (a' := ?_) #[true, true, true, true, true, true, true, true, true, true, true, true, true, true, true, true, true, false, false, false, false, false, false, false, false, false, false] rfl rfl (any_of HT_.out (by kernel_rfl)) (fun _ _ _ h => h) (Or.inl ⟨by rfl, ?_⟩) ?_ ?_
          rotate_left
          · intro w'
            go_simp
            with_reducible rfl
          rotate_left
          · simp only [Act.put, List.setIfInBounds_toArray, List.set_cons_zero, List.set_cons_succ, i64_w, i32_w]
            rfl
          refine pure_ (i := 17) (N := some 74) (v := ?_) (a' := ?_) #[true, true, true, true, true, true, true, true, true, true, true, true, true, true, true, true, true, true, false, false, false, false, false, false, false, false, false] rfl rfl (any_of HT_.out (by kernel_rfl)) (fun _ _ _ h => h) (Or.inl ⟨by rfl, ?_⟩) ?_ ?_
          rotate_left
          · intro w'
            go_simp
            with_reducible rfl
          rotate_left
          · simp only [Act.put, List.setIfInBounds_toArray, List.set_cons_zero, List.set_cons_succ, i64_w, i32_w]
            rfl
          refine take_ (i := 18) (N := some 75) (v := ?_) (a' := ?_) #[true, true, true, true, true, true, true, true, true, true, true, true, true, true, true, true, true, true, true, false, false, false, false, false, false, false, false] rfl rfl (take_ofW HT_.out HW_.out (by kernel_rfl)) (fun _ _ _ h => h) (Or.inl ⟨by rfl, ?_⟩) hHeld ?_ ?_
          rotate_left
          · rintro w' ⟨s0, s1, s2, s3, s4, s5, s6, s7, s8, s9, s10, s11⟩
            go_simp
            with_reducible rfl
          rotate_left
          · simp only [Act.put, List.setIfInBounds_toArray, List.set_cons_zero, List.set_cons_succ, i64_w, i32_w]
            rfl
          refine pure_ (i := 19) (N := some 76) (v := ?_) (a' := ?_) #[true, true, true, true, true, true, true, true, true, true, true, true, true, true, true, true, true, true, true, true, false, false, false, false, false, false, false] rfl rfl (any_of HT_.out (by kernel_rfl)) (fun _ _ _ h => h) (Or.inl ⟨by rfl, ?_⟩) ?_ ?_
          rotate_left
          · intro w'
            go_simp
            with_reducible rfl
          rotate_left
          · simp only [Act.put, List.setIfInBounds_toArray, List.set_cons_zero, List.set_cons_succ, i64_w, i32_w]
            rfl
          refine take_ (i := 21) (N := some 78) (v := ?_) (a' := ?_) #[true, true, true, true, true, true, true, true, true, true, true, true, true, true, true, true, true, true, true, true, false, true, false, false, false, false, false] rfl rfl (take_ofW HT_.out HW_.out (by kernel_rfl)) (fun _ _ _ h => h) (Or.inl ⟨by rfl, ?_⟩) hHeld ?_ ?_
          rotate_left
          · rintro w' ⟨s0, s1, s2, s3, s4, s5, s6, s7, s8, s9, s10, s11⟩
            go_simp
            with_reducible rfl
          rotate_left
          · simp only [Act.put, List.setIfInBounds_toArray, List.set_cons_zero, List.set_cons_succ, i64_w, i32_w]
            rfl
          refine pure_ (i := 22) (N := some 79) (v := ?_) (a' := ?_) #[true, true, true, true, true, true, true, true, true, true, true, true, true, true, true, true, true, true, true, true, false, true, true, false, false, false, false] rfl rfl (any_of HT_.out (by kernel_rfl)) (fun _ _ _ h => h) (Or.inl ⟨by rfl, ?_⟩) ?_ ?_
          rotate_left
          · intro w'
            go_simp
            with_reducible rfl
          rotate_left
          · simp only [Act.put, List.setIfInBounds_toArray, List.set_cons_zero, List.set_cons_succ, i64_w, i32_w]
            rfl
          refine one_ (i := 20) (N := some 77) #[true, true, true, true, true, true, true, true, true, true, true, true, true, true, true, true, true, true, true, true, true, true, true, false, false, false, false] rfl rfl (one_of HT_.out (by kernel_rfl)) (by decide) (fun K hK => ?_)
          refine goes_ Try.func19 (by kernel_rfl) rfl #[.agg #[.int .u32 g2, .bool e2, .int .i64 l2, .slice A_r2 s2.length c_r2], .int .u32 a] (by rfl) rfl rfl (by (try simp only [List.map_toArray, List.map_cons, List.map_nil]); first | done | rfl | (simp only [List.length_drop, List.length_take]; rfl)) ?_
          with_reducible refine (wants_flat Xhm2.out XW2.out _ _ _ HC_r2.out HK_r2.out).mono ?_
          rintro e_ w19_ ⟨rfl, hB⟩
          refine ⟨_, rfl, ?_⟩
          replace HB := mvH HB hB
          replace HZ := mvH HZ hB
          clear hc_gm_0 hf_gm_0 hc_gm_1 hf_gm_1 hc_gm_2 hf_gm_2 hc_gm_3 hf_gm_3
          replace BK_gm := mvB BK_gm hB
          have hc_gm_0 : w19_.cell? ⟨gm, 0, none⟩ = some (.int .u32 g) := (blk_cell BK_gm.out 0).trans rfl
          have hf_gm_0 := blk_frozen BK_gm.out 0
          have hc_gm_1 : w19_.cell? ⟨gm, 1, none⟩ = some (.bool ex) := (blk_cell BK_gm.out 1).trans rfl
          have hf_gm_1 := blk_frozen BK_gm.out 1
          have hc_gm_2 : w19_.cell? ⟨gm, 2, none⟩ = some (.int .i64 lf) := (blk_cell BK_gm.out 2).trans rfl
          have hf_gm_2 := blk_frozen BK_gm.out 2
          have hc_gm_3 : w19_.cell? ⟨gm, 3, none⟩ = some (.slice A_x sr.length c_x) := (blk_cell BK_gm.out 3).trans rfl
          have hf_gm_3 := blk_frozen BK_gm.out 3
          clear hc_b1_0 hf_b1_0 hc_b1_1 hf_b1_1 hc_b1_2 hf_b1_2 hc_b1_3 hf_b1_3
          replace BK_b1 := mvB BK_b1 hB
          have hc_b1_0 : w19_.cell? ⟨b1, 0, none⟩ = some (.int .u32 g1) := (blk_cell BK_b1.out 0).trans rfl
          have hf_b1_0 := blk_frozen BK_b1.out 0
          have hc_b1_1 : w19_.cell? ⟨b1, 1, none⟩ = some (.bool e1) := (blk_cell BK_b1.out 1).trans rfl
          have hf_b1_1 := blk_frozen BK_b1.out 1
          have hc_b1_2 : w19_.cell? ⟨b1, 2, none⟩ = some (.int .i64 l1) := (blk_cell BK_b1.out 2).trans rfl
          have hf_b1_2 := blk_frozen BK_b1.out 2
          have hc_b1_3 : w19_.cell? ⟨b1, 3, none⟩ = some (.slice A_r1 s1.length c_r1) := (blk_cell BK_b1.out 3).trans rfl
          have hf_b1_3 := blk_frozen BK_b1.out 3
          clear hc_b2_0 hf_b2_0 hc_b2_1 hf_b2_1 hc_b2_2 hf_b2_2 hc_b2_3 hf_b2_3
          replace BK_b2 := mvB BK_b2 hB
          have hc_b2_0 : w19_.cell? ⟨b2, 0, none⟩ = some (.int .u32 g2) := (blk_cell BK_b2.out 0).trans rfl
          have hf_b2_0 := blk_frozen BK_b2.out 0
          have hc_b2_1 : w19_.cell? ⟨b2, 1, none⟩ = some (.bool e2) := (blk_cell BK_b2.out 1).trans rfl
          have hf_b2_1 := blk_frozen BK_b2.out 1
          have hc_b2_2 : w19_.cell? ⟨b2, 2, none⟩ = some (.int .i64 l2) := (blk_cell BK_b2.out 2).trans rfl
          have hf_b2_2 := blk_frozen BK_b2.out 2
          have hc_b2_3 : w19_.cell? ⟨b2, 3, none⟩ = some (.slice A_r2 s2.length c_r2) := (blk_cell BK_b2.out 3).trans rfl
          have hf_b2_3 := blk_frozen BK_b2.out 3
          replace HC_r1 := mvC HC_r1 hB
          replace HC_r2 := mvC HC_r2 hB
          clear hB
          refine hK.out _ _ ⟨hc_gm_0, hc_gm_1, hc_gm_2, hc_gm_3, hc_b1_0, hc_b1_1, hc_b1_2, hc_b1_3, hc_b2_0, hc_b2_1, hc_b2_2, hc_b2_3⟩ (fun hHeld => ?_)
          clear hK K
          refine norm_ (a' := ?_) ?_ ?_
          rotate_left
          · show Act.put _ (some 77) _ = _
            simp only [Act.put, List.setIfInBounds_toArray, List.set_cons_zero, List.set_cons_succ, i64_w, i32_w]
            rfl
          refine one_ (i := 23) (N := some 80) #[true, true, true, true, true, true, true, true, true, true, true, true, true, true, true, true, true, true, true, true, true, true, true, true, false, false, false] rfl rfl (one_of HT_.out (by kernel_rfl)) (by decide) (fun K hK => ?_)
          refine goes_ Try.func19 (by kernel_rfl) rfl #[.agg #[.int .u32 g, .bool ex, .int .i64 lf, .slice A_x sr.length c_x], .int .u32 a] (by rfl) rfl rfl (by (try simp only [List.map_toArray, List.map_cons, List.map_nil]); first | done | rfl | (simp only [List.length_drop, List.length_take]; rfl)) ?_
          with_reducible refine (wants_flat Xhx.out Xhbm.out _ _ _ (Kd.C_below HC_x.out HB.out) HK_x.out).mono ?_
          rintro e_ w20_ ⟨rfl, hB⟩
          refine ⟨_, rfl, ?_⟩
          replace HB := mvH HB hB
          replace HZ := mvH HZ hB
          clear hc_gm_0 hf_gm_0 hc_gm_1 hf_gm_1 hc_gm_2 hf_gm_2 hc_gm_3 hf_gm_3
          replace BK_gm := mvB BK_gm hB
          have hc_gm_0 : w20_.cell? ⟨gm, 0, none⟩ = some (.int .u32 g) := (blk_cell BK_gm.out 0).trans rfl
          have hf_gm_0 := blk_frozen BK_gm.out 0
          have hc_gm_1 : w20_.cell? ⟨gm, 1, none⟩ = some (.bool ex) := (blk_cell BK_gm.out 1).trans rfl
          have hf_gm_1 := blk_frozen BK_gm.out 1
          have hc_gm_2 : w20_.cell? ⟨gm, 2, none⟩ = some (.int .i64 lf) := (blk_cell BK_gm.out 2).trans rfl
          have hf_gm_2 := blk_frozen BK_gm.out 2
          have hc_gm_3 : w20_.cell? ⟨gm, 3, none⟩ = some (.slice A_x sr.length c_x) := (blk_cell BK_gm.out 3).trans rfl
          have hf_gm_3 := blk_frozen BK_gm.out 3
          clear hc_b1_0 hf_b1_0 hc_b1_1 hf_b1_1 hc_b1_2 hf_b1_2 hc_b1_3 hf_b1_3
          replace BK_b1 := mvB BK_b1 hB
          have hc_b1_0 : w20_.cell? ⟨b1, 0, none⟩ = some (.int .u32 g1) := (blk_cell BK_b1.out 0).trans rfl
          have hf_b1_0 := blk_frozen BK_b1.out 0
          have hc_b1_1 : w20_.cell? ⟨b1, 1, none⟩ = some (.bool e1) := (blk_cell BK_b1.out 1).trans rfl
          have hf_b1_1 := blk_frozen BK_b1.out 1
          have hc_b1_2 : w20_.cell? ⟨b1, 2, none⟩ = some (.int .i64 l1) := (blk_cell BK_b1.out 2).trans rfl
          have hf_b1_2 := blk_frozen BK_b1.out 2
          have hc_b1_3 : w20_.cell? ⟨b1, 3, none⟩ = some (.slice A_r1 s1.length c_r1) := (blk_cell BK_b1.out 3).trans rfl
          have hf_b1_3 := blk_frozen BK_b1.out 3
          clear hc_b2_0 hf_b2_0 hc_b2_1 hf_b2_1 hc_b2_2 hf_b2_2 hc_b2_3 hf_b2_3
          replace BK_b2 := mvB BK_b2 hB
          have hc_b2_0 : w20_.cell? ⟨b2, 0, none⟩ = some (.int .u32 g2) := (blk_cell BK_b2.out 0).trans rfl
          have hf_b2_0 := blk_frozen BK_b2.out 0
          have hc_b2_1 : w20_.cell? ⟨b2, 1, none⟩ = some (.bool e2) := (blk_cell BK_b2.out 1).trans rfl
          have hf_b2_1 := blk_frozen BK_b2.out 1
          have hc_b2_2 : w20_.cell? ⟨b2, 2, none⟩ = some (.int .i64 l2) := (blk_cell BK_b2.out 2).trans rfl
          have hf_b2_2 := blk_frozen BK_b2.out 2
          have hc_b2_3 : w20_.cell? ⟨b2, 3, none⟩ = some (.slice A_r2 s2.length c_r2) := (blk_cell BK_b2.out 3).trans rfl
          have hf_b2_3 := blk_frozen BK_b2.out 3
          replace HC_r1 := mvC HC_r1 hB
          replace HC_r2 := mvC HC_r2 hB
          clear hB
          refine hK.out _ _ ⟨hc_gm_0, hc_gm_1, hc_gm_2, hc_gm_3, hc_b1_0, hc_b1_1, hc_b1_2, hc_b1_3, hc_b2_0, hc_b2_1, hc_b2_2, hc_b2_3⟩ (fun hHeld => ?_)
          clear hK K
          refine norm_ (a' := ?_) ?_ ?_
          rotate_left
          · show Act.put _ (some 80) _ = _
            simp only [Act.put, List.setIfInBounds_toArray, List.set_cons_zero, List.set_cons_succ, i64_w, i32_w]
            rfl
          refine pure_ (i := 24) (N := some 81) (v := ?_) (a' := ?_) #[true, true, true, true, true, true, true, true, true, true, true, true, true, true, true, true, true, true, true, true, true, true, true, true, true, false, false] rfl rfl (any_of HT_.out (by kernel_rfl)) (fun _ _ _ h => h) (Or.inl ⟨by rfl, ?_⟩) ?_ ?_
          rotate_left
          · intro w'
            go_simp
            with_reducible rfl
          rotate_left
          · simp only [Act.put, List.setIfInBounds_toArray, List.set_cons_zero, List.set_cons_succ, i64_w, i32_w]
            rfl
          refine pure_ (i := 25) (N := some 82) (v := ?_) (a' := ?_) #[true, true, true, true, true, true, true, true, true, true, true, true, true, true, true, true, true, true, true, true, true, true, true, true, true, true, false] rfl rfl (any_of HT_.out (by kernel_rfl)) (fun _ _ _ h => h) (Or.inl ⟨by rfl, ?_⟩) ?_ ?_
          rotate_left
          · intro w'
            go_simp
            with_reducible rfl
          rotate_left
          · simp only [Act.put, List.setIfInBounds_toArray, List.set_cons_zero, List.set_cons_succ, i64_w, i32_w]
            rfl
          refine pure_ (i := 26) (N := some 83) (v := ?_) (a' := ?_) #[true, true, true, true, true, true, true, true, true, true, true, true, true, true, true, true, true, true, true, true, true, true, true, true, true, true, true] rfl rfl (any_of HT_.out (by kernel_rfl)) (fun _ _ _ h => h) (Or.inl ⟨by rfl, ?_⟩) ?_ ?_
          rotate_left
          · intro w'
            go_simp
            with_reducible rfl
          rotate_left
          · simp only [Act.put, List.setIfInBounds_toArray, List.set_cons_zero, List.set_cons_succ, i64_w, i32_w]
            rfl
          refine done_ (done_of HT_.out (by kernel_rfl)) ?_
          go_wp2
          go_meet
          case rel => exact ⟨rfl, HZ⟩
        · simp only [Bool.false_or, Bool.true_or] at hw1
          have XW1 := Aside0.mk hw1
          clear hw1
          have XW2 := Aside0.mk hw2
          clear hw2 hg2
          refine start_ (n := 27) (S := fun w' => w'.cell? ⟨gm, 0, none⟩ = some (.int .u32 g) ∧ w'.cell? ⟨gm, 1, none⟩ = some (.bool ex) ∧ w'.cell? ⟨gm, 2, none⟩ = some (.int .i64 lf) ∧ w'.cell? ⟨gm, 3, none⟩ = some (.slice A_x sr.length c_x) ∧ w'.cell? ⟨b1, 0, none⟩ = some (.int .u32 g1) ∧ w'.cell? ⟨b1, 1, none⟩ = some (.bool e1) ∧ w'.cell? ⟨b1, 2, none⟩ = some (.int .i64 l1) ∧ w'.cell? ⟨b1, 3, none⟩ = some (.slice A_r1 s1.length c_r1) ∧ w'.cell? ⟨b2, 0, none⟩ = some (.int .u32 g2) ∧ w'.cell? ⟨b2, 1, none⟩ = some (.bool e2) ∧ w'.cell? ⟨b2, 2, none⟩ = some (.int .i64 l2) ∧ w'.cell? ⟨b2, 3, none⟩ = some (.slice A_r2 s2.length c_r2)) (ds := []) #[false, false, false, false, false, false, false, false, false, false, false, false, false, false, false, false, false, false, false, false, false, false, false, false, false, false, false] (by kernel_rfl) rfl rfl ⟨hc_gm_0, hc_gm_1, hc_gm_2, hc_gm_3, hc_b1_0, hc_b1_1, hc_b1_2, hc_b1_3, hc_b2_0, hc_b2_1, hc_b2_2, hc_b2_3⟩ (fun hHeld => ?_); refine with_tabW ma_t ma_b (fun HT_ HW_ => ?_)
          have hB : Below w15_.heap.size w15_ w15_.drew := below_drew (Below.refl _ _)
          generalize w15_.drew = w16_ at hB hHeld ⊢
          replace HB := mvH HB hB
          replace HZ := mvH HZ hB
          clear hc_gm_0 hf_gm_0 hc_gm_1 hf_gm_1 hc_gm_2 hf_gm_2 hc_gm_3 hf_gm_3
          replace BK_gm := mvB BK_gm hB
          have hc_gm_0 : w16_.cell? ⟨gm, 0, none⟩ = some (.int .u32 g) := (blk_cell BK_gm.out 0).trans rfl
          have hf_gm_0 := blk_frozen BK_gm.out 0
          have hc_gm_1 : w16_.cell? ⟨gm, 1, none⟩ = some (.bool ex) := (blk_cell BK_gm.out 1).trans rfl
          have hf_gm_1 := blk_frozen BK_gm.out 1
          have hc_gm_2 : w16_.cell? ⟨gm, 2, none⟩ = some (.int .i64 lf) := (blk_cell BK_gm.out 2).trans rfl
          have hf_gm_2 := blk_frozen BK_gm.out 2
          have hc_gm_3 : w16_.cell? ⟨gm, 3, none⟩ = some (.slice A_x sr.length c_x) := (blk_cell BK_gm.out 3).trans rfl
          have hf_gm_3 := blk_frozen BK_gm.out 3
          clear hc_b1_0 hf_b1_0 hc_b1_1 hf_b1_1 hc_b1_2 hf_b1_2 hc_b1_3 hf_b1_3
          replace BK_b1 := mvB BK_b1 hB
          have hc_b1_0 : w16_.cell? ⟨b1, 0, none⟩ = some (.int .u32 g1) := (blk_cell BK_b1.out 0).trans rfl
          have hf_b1_0 := blk_frozen BK_b1.out 0
          have hc_b1_1 : w16_.cell? ⟨b1, 1, none⟩ = some (.bool e1) := (blk_cell BK_b1.out 1).trans rfl
          have hf_b1_1 := blk_frozen BK_b1.out 1
          have hc_b1_2 : w16_.cell? ⟨b1, 2, none⟩ = some (.int .i64 l1) := (blk_cell BK_b1.out 2).trans rfl
          have hf_b1_2 := blk_frozen BK_b1.out 2
          have hc_b1_3 : w16_.cell? ⟨b1, 3, none⟩ = some (.slice A_r1 s1.length c_r1) := (blk_cell BK_b1.out 3).trans rfl
          have hf_b1_3 := blk_frozen BK_b1.out 3
          clear hc_b2_0 hf_b2_0 hc_b2_1 hf_b2_1 hc_b2_2 hf_b2_2 hc_b2_3 hf_b2_3
          replace BK_b2 := mvB BK_b2 hB
          have hc_b2_0 : w16_.cell? ⟨b2, 0, none⟩ = some (.int .u32 g2) := (blk_cell BK_b2.out 0).trans rfl
          have hf_b2_0 := blk_frozen BK_b2.out 0
          have hc_b2_1 : w16_.cell? ⟨b2, 1, none⟩ = some (.bool e2) := (blk_cell BK_b2.out 1).trans rfl
          have hf_b2_1 := blk_frozen BK_b2.out 1
          have hc_b2_2 : w16_.cell? ⟨b2, 2, none⟩ = some (.int .i64 l2) := (blk_cell BK_b2.out 2).trans rfl
          have hf_b2_2 := blk_frozen BK_b2.out 2
          have hc_b2_3 : w16_.cell? ⟨b2, 3, none⟩ = some (.slice A_r2 s2.length c_r2) := (blk_cell BK_b2.out 3).trans rfl
          have hf_b2_3 := blk_frozen BK_b2.out 3
          replace HC_r1 := mvC HC_r1 hB
          replace HC_r2 := mvC HC_r2 hB
          clear hB
          refine pure_ (i := 0) (N := some 57) (v := ?_) (a' := ?_) #[true, false, false, false, false, false, false, false, false, false, false, false, false, false, false, false, false, false, false, false, false, false, false, false, false, false, false] rfl rfl (any_of HT_.out (by kernel_rfl)) (fun _ _ _ h => h) (Or.inl ⟨by rfl, ?_⟩) ?_ ?_
          rotate_left
          · intro w'
            go_simp
            with_reducible rfl
          rotate_left
          · simp only [Act.put, List.setIfInBounds_toArray, List.set_cons_zero, List.set_cons_succ, i64_w, i32_w]
            rfl
          refine pure_ (i := 1) (N := some 58) (v := ?_) (a' := ?_) #[true, true, false, false, false, false, false, false, false, false, false, false, false, false, false, false, false, false, false, false, false, false, false, false, false, false, false] rfl rfl (any_of HT_.out (by kernel_rfl)) (fun _ _ _ h => h) (Or.inl ⟨by rfl, ?_⟩) ?_ ?_
          rotate_left
          · intro w'
            go_simp
            with_reducible rfl
          rotate_left
          · simp only [Act.put, List.setIfInBounds_toArray, List.set_cons_zero, List.set_cons_succ, i64_w, i32_w]
            rfl
          refine pure_ (i := 2) (N := some 59) (v := ?_) (a' := ?_) #[true, true, true, false, false, false, false, false, false, false, false, false, false, false, false, false, false, false, false, false, false, false, false, false, false, false, false] rfl rfl (any_of HT_.out (by kernel_rfl)) (fun _ _ _ h => h) (Or.inl ⟨by rfl, ?_⟩) ?_ ?_
          rotate_left
          · intro w'
            go_simp
            with_reducible rfl
          rotate_left
          · simp only [Act.put, List.setIfInBounds_toArray, List.set_cons_zero, List.set_cons_succ, i64_w, i32_w]
            rfl
          refine take_ (i := 3) (N := some 60) (v := ?_) (a' := ?_) #[true, true, true, true, false, false, false, false, false, false, false, false, false, false, false, false, false, false, false, false, false, false, false, false, false, false, false] rfl rfl (take_ofW HT_.out HW_.out (by kernel_rfl)) (fun _ _ _ h => h) (Or.inl ⟨by rfl, ?_⟩) hHeld ?_ ?_
          rotate_left
          · rintro w' ⟨s0, s1, s2, s3, s4, s5, s6, s7, s8, s9, s10, s11⟩
            go_simp
            with_reducible rfl
          rotate_left
          · simp only [Act.put, List.setIfInBounds_toArray, List.set_cons_zero, List.set_cons_succ, i64_w, i32_w]
            rfl
          refine pure_ (i := 4) (N := some 61) (v := ?_) (a' := ?_) #[true, true, true, true, true, false, false, false, false, false, false, false, false, false, false, false, false, false, false, false, false, false, false, false, false, false, false] rfl rfl (any_of HT_.out (by kernel_rfl)) (fun _ _ _ h => h) (Or.inl ⟨by rfl, ?_⟩) ?_ ?_
          rotate_left
          · intro w'
            go_simp
            with_reducible rfl
          rotate_left
          · simp only [Act.put, List.setIfInBounds_toArray, List.set_cons_zero, List.set_cons_succ, i64_w, i32_w]
            rfl
          refine take_ (i := 6) (N := some 63) (v := ?_) (a' := ?_) #[true, true, true, true, true, false, true, false, false, false, false, false, false, false, false, false, false, false, false, false, false, false, false, false, false, false, false] rfl rfl (take_ofW HT_.out HW_.out (by kernel_rfl)) (fun _ _ _ h => h) (Or.inl ⟨by rfl, ?_⟩) hHeld ?_ ?_
          rotate_left
          · rintro w' ⟨s0, s1, s2, s3, s4, s5, s6, s7, s8, s9, s10, s11⟩
            go_simp
            with_reducible rfl
          rotate_left
          · simp only [Act.put, List.setIfInBounds_toArray, List.set_cons_zero, List.set_cons_succ, i64_w, i32_w]
            rfl
          refine pure_ (i := 7) (N := some 64) (v := ?_) (a' := ?_) #[true, true, true, true, true, false, true, true, false, false, false, false, false, false, false, false, false, false, false, false, false, false, false, false, false, false, false] rfl rfl (any_of HT_.out (by kernel_rfl)) (fun _ _ _ h => h) (Or.inl ⟨by rfl, ?_⟩) ?_ ?_
          rotate_left
          · intro w'
            go_simp
            with_reducible rfl
          rotate_left
          · simp only [Act.put, List.setIfInBounds_toArray, List.set_cons_zero, List.set_cons_succ, i64_w, i32_w]
            rfl
          refine one_ (i := 5) (N := some 62) #[true, true, true, true, true, true, true, true, false, false, false, false, false, false, false, false, false, false, false, false, false, false, false, false, false, false, false] rfl rfl (one_of HT_.out (by kernel_rfl)) (by decide) (fun K hK => ?_)
          refine goes_ Try.func19 (by kernel_rfl) rfl #[.agg #[.int .u32 g1, .bool e1, .int .i64 l1, .slice A_r1 s1.length c_r1], .int .u32 a] (by rfl) rfl rfl (by (try simp only [List.map_toArray, List.map_cons, List.map_nil]); first | done | rfl | (simp only [List.length_drop, List.length_take]; rfl)) ?_
          with_reducible refine (wants_flat Xhm1.out XW1.out _ _ _ HC_r1.out HK_r1.out).mono ?_
          rintro e_ w17_ ⟨rfl, hB⟩
          refine ⟨_, rfl, ?_⟩
          replace HB := mvH HB hB
          replace HZ := mvH HZ hB
          clear hc_gm_0 hf_gm_0 hc_gm_1 hf_gm_1 hc_gm_2 hf_gm_2 hc_gm_3 hf_gm_3
          replace BK_gm := mvB BK_gm hB
          have hc_gm_0 : w17_.cell? ⟨gm, 0, none⟩ = some (.int .u32 g) := (blk_cell BK_gm.out 0).trans rfl
          have hf_gm_0 := blk_frozen BK_gm.out 0
          have hc_gm_1 : w17_.cell? ⟨gm, 1, none⟩ = some (.bool ex) := (blk_cell BK_gm.out 1).trans rfl
          have hf_gm_1 := blk_frozen BK_gm.out 1
          have hc_gm_2 : w17_.cell? ⟨gm, 2, none⟩ = some (.int .i64 lf) := (blk_cell BK_gm.out 2).trans rfl
          have hf_gm_2 := blk_frozen BK_gm.out 2
          have hc_gm_3 : w17_.cell? ⟨gm, 3, none⟩ = some (.slice A_x sr.length c_x) := (blk_cell BK_gm.out 3).trans rfl
          have hf_gm_3 := blk_frozen BK_gm.out 3
          clear hc_b1_0 hf_b1_0 hc_b1_1 hf_b1_1 hc_b1_2 hf_b1_2 hc_b1_3 hf_b1_3
          replace BK_b1 := mvB BK_b1 hB
          have hc_b1_0 : w17_.cell? ⟨b1, 0, none⟩ = some (.int .u32 g1) := (blk_cell BK_b1.out 0).trans rfl
          have hf_b1_0 := blk_frozen BK_b1.out 0
          have hc_b1_1 : w17_.cell? ⟨b1, 1, none⟩ = some (.bool e1) := (blk_cell BK_b1.out 1).trans rfl
          have hf_b1_1 := blk_frozen BK_b1.out 1
          have hc_b1_2 : w17_.cell? ⟨b1, 2, none⟩ = some (.int .i64 l1) := (blk_cell BK_b1.out 2).trans rfl
          have hf_b1_2 := blk_frozen BK_b1.out 2
          have hc_b1_3 : w17_.cell? ⟨b1, 3, none⟩ = some (.slice A_r1 s1.length c_r1) := (blk_cell BK_b1.out 3).trans rfl
          have hf_b1_3 := blk_frozen BK_b1.out 3
          clear hc_b2_0 hf_b2_0 hc_b2_1 hf_b2_1 hc_b2_2 hf_b2_2 hc_b2_3 hf_b2_3
          replace BK_b2 := mvB BK_b2 hB
          have hc_b2_0 : w17_.cell? ⟨b2, 0, none⟩ = some (.int .u32 g2) := (blk_cell BK_b2.out 0).trans rfl
          have hf_b2_0 := blk_frozen BK_b2.out 0
          have hc_b2_1 : w17_.cell? ⟨b2, 1, none⟩ = some (.bool e2) := (blk_cell BK_b2.out 1).trans rfl
          have hf_b2_1 := blk_frozen BK_b2.out 1
          have hc_b2_2 : w17_.cell? ⟨b2, 2, none⟩ = some (.int .i64 l2) := (blk_cell BK_b2.out 2).trans rfl
          have hf_b2_2 := blk_frozen BK_b2.out 2
          have hc_b2_3 : w17_.cell? ⟨b2, 3, none⟩ = some (.slice A_r2 s2.length c_r2) := (blk_cell BK_b2.out 3).trans rfl
          have hf_b2_3 := blk_frozen BK_b2.out 3
          replace HC_r1 := mvC HC_r1 hB
          replace HC_r2 := mvC HC_r2 hB
          clear hB
          refine hK.out _ _ ⟨hc_gm_0, hc_gm_1, hc_gm_2, hc_gm_3, hc_b1_0, hc_b1_1, hc_b1_2, hc_b1_3, hc_b2_0, hc_b2_1, hc_b2_2, hc_b2_3⟩ (fun hHeld => ?_)
          clear hK K
          refine norm_ (a' := ?_) ?_ ?_
          rotate_left
          · show Act.put _ (some 62) _ = _
            simp only [Act.put, List.setIfInBounds_toArray, List.set_cons_zero, List.set_cons_succ, i64_w, i32_w]
            rfl
          refine one_ (i := 8) (N := some 65) #[true, true, true, true, true, true, true, true, true, false, false, false, false, false, false, false, false, false, false, false, false, false, false, false, false, false, false] rfl rfl (one_of HT_.out (by kernel_rfl)) (by decide) (fun K hK => ?_)
          refine goes_ Try.func19 (by kernel_rfl) rfl #[.agg #[.int .u32 g, .bool ex, .int .i64 lf, .slice A_x sr.length c_x], .int .u32 a] (by rfl) rfl rfl (by (try simp only [List.map_toArray, List.map_cons, List.map_nil]); first | done | rfl | (simp only [List.length_drop, List.length_take]; rfl)) ?_
          with_reducible refine (wants_flat Xhx.out Xhbm.out _ _ _ (Kd.C_below HC_x.out HB.out) HK_x.out).mono ?_
          rintro e_ w18_ ⟨rfl, hB⟩
          refine ⟨_, rfl, ?_⟩
          replace HB := mvH HB hB
          replace HZ := mvH HZ hB
          clear hc_gm_0 hf_gm_0 hc_gm_1 hf_gm_1 hc_gm_2 hf_gm_2 hc_gm_3 hf_gm_3
          replace BK_gm := mvB BK_gm hB
          have hc_gm_0 : w18_.cell? ⟨gm, 0, none⟩ = some (.int .u32 g) := (blk_cell BK_gm.out 0).trans rfl
          have hf_gm_0 := blk_frozen BK_gm.out 0
          have hc_gm_1 : w18_.cell? ⟨gm, 1, none⟩ = some (.bool ex) := (blk_cell BK_gm.out 1).trans rfl
          have hf_gm_1 := blk_frozen BK_gm.out 1
          have hc_gm_2 : w18_.cell? ⟨gm, 2, none⟩ = some (.int .i64 lf) := (blk_cell BK_gm.out 2).trans rfl
          have hf_gm_2 := blk_frozen BK_gm.out 2
          have hc_gm_3 : w18_.cell? ⟨gm, 3, none⟩ = some (.slice A_x sr.length c_x) := (blk_cell BK_gm.out 3).trans rfl
          have hf_gm_3 := blk_frozen BK_gm.out 3
          clear hc_b1_0 hf_b1_0 hc_b1_1 hf_b1_1 hc_b1_2 hf_b1_2 hc_b1_3 hf_b1_3
          replace BK_b1 := mvB BK_b1 hB
          have hc_b1_0 : w18_.cell? ⟨b1, 0, none⟩ = some (.int .u32 g1) := (blk_cell BK_b1.out 0).trans rfl
          have hf_b1_0 := blk_frozen BK_b1.out 0
          have hc_b1_1 : w18_.cell? ⟨b1, 1, none⟩ = some (.bool e1) := (blk_cell BK_b1.out 1).trans rfl
          have hf_b1_1 := blk_frozen BK_b1.out 1
          have hc_b1_2 : w18_.cell? ⟨b1, 2, none⟩ = some (.int .i64 l1) := (blk_cell BK_b1.out 2).trans rfl
          have hf_b1_2 := blk_frozen BK_b1.out 2
          have hc_b1_3 : w18_.cell? ⟨b1, 3, none⟩ = some (.slice A_r1 s1.length c_r1) := (blk_cell BK_b1.out 3).trans rfl
          have hf_b1_3 := blk_frozen BK_b1.out 3
          clear hc_b2_0 hf_b2_0 hc_b2_1 hf_b2_1 hc_b2_2 hf_b2_2 hc_b2_3 hf_b2_3
          replace BK_b2 := mvB BK_b2 hB
          have hc_b2_0 : w18_.cell? ⟨b2, 0, none⟩ = some (.int .u32 g2) := (blk_cell BK_b2.out 0).trans rfl
          have hf_b2_0 := blk_frozen BK_b2.out 0
          have hc_b2_1 : w18_.cell? ⟨b2, 1, none⟩ = some (.bool e2) := (blk_cell BK_b2.out 1).trans rfl
          have hf_b2_1 := blk_frozen BK_b2.out 1
          have hc_b2_2 : w18_.cell? ⟨b2, 2, none⟩ = some (.int .i64 l2) := (blk_cell BK_b2.out 2).trans rfl
          have hf_b2_2 := blk_frozen BK_b2.out 2
          have hc_b2_3 : w18_.cell? ⟨b2, 3, none⟩ = some (.slice A_r2 s2.length c_r2) := (blk_cell BK_b2.out 3).trans rfl
          have hf_b2_3 := blk_frozen BK_b2.out 3
          replace HC_r1 := mvC HC_r1 hB
          replace HC_r2 := mvC HC_r2 hB
          clear hB
          refine hK.out _ _ ⟨hc_gm_0, hc_gm_1, hc_gm_2, hc_gm_3, hc_b1_0, hc_b1_1, hc_b1_2, hc_b1_3, hc_b2_0, hc_b2_1, hc_b2_2, hc_b2_3⟩ (fun hHeld => ?_)
          clear hK K
          refine norm_ (a' := ?_) ?_ ?_
          rotate_left
          · show Act.put _ (some 65) _ = _
            simp only [Act.put, List.setIfInBounds_toArray, List.set_cons_zero, List.set_cons_succ, i64_w, i32_w]
            rfl
          refine pure_ (i := 9) (N := some 66) (v := ?_) (a' := ?_) #[true, true, true, true, true, true, true, true, true, true, false, false, false, false, false, false, false, false, false, false, false, false, false, false, false, false, false] rfl rfl (any_of HT_.out (by kernel_rfl)) (fun _ _ _ h => h) (Or.inl ⟨by rfl, ?_⟩) ?_ ?_
          rotate_left
          · intro w'
            go_simp
            with_reducible rfl
          rotate_left
          · simp only [Act.put, List.setIfInBounds_toArray, List.set_cons_zero, List.set_cons_succ, i64_w, i32_w]
            rfl
          refine pure_ (i := 10) (N := some 67) (v := undef) (a' := ?_) #[true, true, true, true, true, true, true, true, true, true, true, false, false, false, false, false, false, false, false, false, false, false, false, false, false, false, false] rfl rfl (any_of HT_.out (by kernel_rfl)) (fun _ _ _ h => h) (Or.inr ⟨by rfl, rfl⟩) ?_ ?_
          rotate_left
          · simp only [Act.put, List.setIfInBounds_toArray, List.set_cons_zero, List.set_cons_succ, i64_w, i32_w]
            rfl
          refine pure_ (i := 11) (N := some 68) (v := ?_) (a' := ?_) #[true, true, true, true, true, true, true, true, true, true, true, true, false, false, false, false, false, false, false, false, false, false, false, false, false, false, false] rfl rfl (any_of HT_.out (by kernel_rfl)) (fun _ _ _ h => h) (Or.inl ⟨by rfl, ?_⟩) ?_ ?_
          rotate_left
          · intro w'
            go_simp
            with_reducible rfl
          rotate_left
          · simp only [Act.put, List.setIfInBounds_toArray, List.set_cons_zero, List.set_cons_succ, i64_w, i32_w]
            rfl
          refine pure_ (i := 12) (N := some 69) (v := ?_) (a' := ?_) #[true, true, true, true, true, true, true, true, true, true, true, true, true, false, false, false, false, false, false, false, false, false, false, false, false, false, false] rfl rfl (any_of HT_.out (by kernel_rfl)) (fun _ _ _ h => h) (Or.inl ⟨by rfl, ?_⟩) ?_ ?_
          rotate_left
          · intro w'
            go_simp
            with_reducible rfl
          rotate_left
          · simp only [Act.put, List.setIfInBounds_toArray, List.set_cons_zero, List.set_cons_succ, i64_w, i32_w]
            rfl
          refine pure_ (i := 13) (N := some 70) (v := ?_) (a' := ?_) #[true, true, true, true, true, true, true, true, true, true, true, true, true, true, false, false, false, false, false, false, false, false, false, false, false, false, false] rfl rfl (any_of HT_.out (by kernel_rfl)) (fun _ _ _ h => h) (Or.inl ⟨by rfl, ?_⟩) ?_ ?_
          rotate_left
          · intro w'
            go_simp
            with_reducible rfl
          rotate_left
          · simp only [Act.put, List.setIfInBounds_toArray, List.set_cons_zero, List.set_cons_succ, i64_w, i32_w]
            rfl
          refine pure_ (i := 14) (N := some 71) (v := ?_) (a' := ?_) #[true, true, true, true, true, true, true, true, true, true, true, true, true, true, true, false, false, false, false, false, false, false, false, false, false, false, false] rfl rfl (any_of HT_.out (by kernel_rfl)) (fun _ _ _ h => h) (Or.inl ⟨by rfl, ?_⟩) ?_ ?_
          rotate_left
          · intro w'
            go_simp
            with_reducible rfl
          rotate_left
          · simp only [Act.put, List.setIfInBounds_toArray, List.set_cons_zero, List.set_cons_succ, i64_w, i32_w]
            rfl
          refine pure_ (i := 15) (N := some 72) (v := ?_) (a' := ?_) #[true, true, true, true, true, true, true, true, true, true, true, true, true, true, true, true, false, false, false, false, false, false, false, false, false, false, false] rfl rfl (any_of HT_.out (by kernel_rfl)) (fun _ _ _ h => h) (Or.inl ⟨by rfl, ?_⟩) ?_ ?_
          rotate_left
          · intro w'
            go_simp
            with_reducible rfl
          rotate_left
          · simp only [Act.put, List.setIfInBounds_toArray, List.set_cons_zero, List.set_cons_succ, i64_w, i32_w]
            rfl
          refine pure_ (i := 16) (N := some 73) (v := ?_) (a' := ?_) #[true, true, true, true, true, true, true, true, true, true, true, true, true, true, true, true, true, false, false, false, false, false, false, false, false, false, false] rfl rfl (any_of HT_.out (by kernel_rfl)) (fun _ _ _ h => h) (Or.inl ⟨by rfl, ?_⟩) ?_ ?_
          rotate_left
          · intro w'
            go_simp
            with_reducible rfl
          rotate_left
          · simp only [Act.put, List.setIfInBounds_toArray, List.set_cons_zero, List.set_cons_succ, i64_w, i32_w]
            rfl
          refine pure_ (i := 17) (N := some 74) (v := ?_) (a' := ?_) #[true, true, true, true, true, true, true, true, true, true, true, true, true, true, true, true, true, true, false, false, false, false, false, false, false, false, false] rfl rfl (any_of HT_.out (by kernel_rfl)) (fun _ _ _ h => h) (Or.inl ⟨by rfl, ?_⟩) ?_ ?_
          rotate_left
          · intro w'
            go_simp
            with_reducible rfl
          rotate_left
          · simp only [Act.put, List.setIfInBounds_toArray, List.set_cons_zero, List.set_cons_succ, i64_w, i32_w]
            rfl
          refine take_ (i := 18) (N := some 75) (v := ?_) (a' := ?_) #[true, true, true, true, true, true, true, true, true, true, true, true, true, true, true, true, true, true, true, false, false, false, false, false, false, false, false] rfl rfl (take_ofW HT_.out HW_.out (by kernel_rfl)) (fun _ _ _ h => h) (Or.inl ⟨by rfl, ?_⟩) hHeld ?_ ?_
          rotate_left
          · rintro w' ⟨s0, s1, s2, s3, s4, s5, s6, s7, s8, s9, s10, s11⟩
            go_simp
            with_reducible rfl
          rotate_left
          · simp only [Act.put, List.setIfInBounds_toArray, List.set_cons_zero, List.set_cons_succ, i64_w, i32_w]
            rfl
          refine pure_ (i := 19) (N := some 76) (v := ?_) (a' := ?_) #[true, true, true, true, true, true, true, true, true, true, true, true, true, true, true, true, true, true, true, true, false, false, false, false, false, false, false] rfl rfl (any_of HT_.out (by kernel_rfl)) (fun _ _ _ h => h) (Or.inl ⟨by rfl, ?_⟩) ?_ ?_
          rotate_left
          · intro w'
            go_simp
            with_reducible rfl
          rotate_left
          · simp only [Act.put, List.setIfInBounds_toArray, List.set_cons_zero, List.set_cons_succ, i64_w, i32_w]
            rfl
          refine take_ (i := 21) (N := some 78) (v := ?_) (a' := ?_) #[true, true, true, true, true, true, true, true, true, true, true, true, true, true, true, true, true, true, true, true, false, true, false, false, false, false, false] rfl rfl (take_ofW HT_.out HW_.out (by kernel_rfl)) (fun _ _ _ h => h) (Or.inl ⟨by rfl, ?_⟩) hHeld ?_ ?_
          rotate_left
          · rintro w' ⟨s0, s1, s2, s3, s4, s5, s6, s7, s8, s9, s10, s11⟩
            go_simp
            with_reducible rfl
          rotate_left
          · simp only [Act.put, List.setIfInBounds_toArray, List.set_cons_zero, List.set_cons_succ, i64_w, i32_w]
            rfl
          refine pure_ (i := 22) (N := some 79) (v := ?_) (a' := ?_) #[true, true, true, true, true, true, true, true, true, true, true, true, true, true, true, true, true, true, true, true, false, true, true, false, false, false, false] rfl rfl (any_of HT_.out (by kernel_rfl)) (fun _ _ _ h => h) (Or.inl ⟨by rfl, ?_⟩) ?_ ?_
          rotate_left
          · intro w'
            go_simp
            with_reducible rfl
          rotate_left
          · simp only [Act.put, List.setIfInBounds_toArray, List.set_cons_zero, List.set_cons_succ, i64_w, i32_w]
            rfl
          refine one_ (i := 20) (N := some 77) #[true, true, true, true, true, true, true, true, true, true, true, true, true, true, true, true, true, true, true, true, true, true, true, false, false, false, false] rfl rfl (one_of HT_.out (by kernel_rfl)) (by decide) (fun K hK => ?_)
          refine goes_ Try.func19 (by kernel_rfl) rfl #[.agg #[.int .u32 g2, .bool e2, .int .i64 l2, .slice A_r2 s2.length c_r2], .int .u32 a] (by rfl) rfl rfl (by (try simp only [List.map_toArray, List.map_cons, List.map_nil]); first | done | rfl | (simp only [List.length_drop, List.length_take]; rfl)) ?_
          with_reducible refine (wants_flat Xhm2.out XW2.out _ _ _ HC_r2.out HK_r2.out).mono ?_
          rintro e_ w19_ ⟨rfl, hB⟩
          refine ⟨_, rfl, ?_⟩
          replace HB := mvH HB hB
          replace HZ := mvH HZ hB
          clear hc_gm_0 hf_gm_0 hc_gm_1 hf_gm_1 hc_gm_2 hf_gm_2 hc_gm_3 hf_gm_3
          replace BK_gm := mvB BK_gm hB
          have hc_gm_0 : w19_.cell? ⟨gm, 0, none⟩ = some (.int .u32 g) := (blk_cell BK_gm.out 0).trans rfl
          have hf_gm_0 := blk_frozen BK_gm.out 0
          have hc_gm_1 : w19_.cell? ⟨gm, 1, none⟩ = some (.bool ex) := (blk_cell BK_gm.out 1).trans rfl
          have hf_gm_1 := blk_frozen BK_gm.out 1
          have hc_gm_2 : w19_.cell? ⟨gm, 2, none⟩ = some (.int .i64 lf) := (blk_cell BK_gm.out 2).trans rfl
          have hf_gm_2 := blk_frozen BK_gm.out 2
          have hc_gm_3 : w19_.cell? ⟨gm, 3, none⟩ = some (.slice A_x sr.length c_x) := (blk_cell BK_gm.out 3).trans rfl
          have hf_gm_3 := blk_frozen BK_gm.out 3
          clear hc_b1_0 hf_b1_0 hc_b1_1 hf_b1_1 hc_b1_2 hf_b1_2 hc_b1_3 hf_b1_3
          replace BK_b1 := mvB BK_b1 hB
          have hc_b1_0 : w19_.cell? ⟨b1, 0, none⟩ = some (.int .u32 g1) := (blk_cell BK_b1.out 0).trans rfl
          have hf_b1_0 := blk_frozen BK_b1.out 0
          have hc_b1_1 : w19_.cell? ⟨b1, 1, none⟩ = some (.bool e1) := (blk_cell BK_b1.out 1).trans rfl
          have hf_b1_1 := blk_frozen BK_b1.out 1
          have hc_b1_2 : w19_.cell? ⟨b1, 2, none⟩ = some (.int .i64 l1) := (blk_cell BK_b1.out 2).trans rfl
          have hf_b1_2 := blk_frozen BK_b1.out 2
          have hc_b1_3 : w19_.cell? ⟨b1, 3, none⟩ = some (.slice A_r1 s1.length c_r1) := (blk_cell BK_b1.out 3).trans rfl
          have hf_b1_3 := blk_frozen BK_b1.out 3
          clear hc_b2_0 hf_b2_0 hc_b2_1 hf_b2_1 hc_b2_2 hf_b2_2 hc_b2_3 hf_b2_3
          replace BK_b2 := mvB BK_b2 hB
          have hc_b2_0 : w19_.cell? ⟨b2, 0, none⟩ = some (.int .u32 g2) := (blk_cell BK_b2.out 0).trans rfl
          have hf_b2_0 := blk_frozen BK_b2.out 0
          have hc_b2_1 : w19_.cell? ⟨b2, 1, none⟩ = some (.bool e2) := (blk_cell BK_b2.out 1).trans rfl
          have hf_b2_1 := blk_frozen BK_b2.out 1
          have hc_b2_2 : w19_.cell? ⟨b2, 2, none⟩ = some (.int .i64 l2) := (blk_cell BK_b2.out 2).trans rfl
          have hf_b2_2 := blk_frozen BK_b2.out 2
          have hc_b2_3 : w19_.cell? ⟨b2, 3, none⟩ = some (.slice A_r2 s2.length c_r2) := (blk_cell BK_b2.out 3).trans rfl
          have hf_b2_3 := blk_frozen BK_b2.out 3
          replace HC_r1 := mvC HC_r1 hB
          replace HC_r2 := mvC HC_r2 hB
          clear hB
          refine hK.out _ _ ⟨hc_gm_0, hc_gm_1, hc_gm_2, hc_gm_3, hc_b1_0, hc_b1_1, hc_b1_2, hc_b1_3, hc_b2_0, hc_b2_1, hc_b2_2, hc_b2_3⟩ (fun hHeld => ?_)
          clear hK K
          refine norm_ (a' := ?_) ?_ ?_
          rotate_left
          · show Act.put _ (some 77) _ = _
            simp only [Act.put, List.setIfInBounds_toArray, List.set_cons_zero, List.set_cons_succ, i64_w, i32_w]
            rfl
          refine one_ (i := 23) (N := some 80) #[true, true, true, true, true, true, true, true, true, true, true, true, true, true, true, true, true, true, true, true, true, true, true, true, false, false, false] rfl rfl (one_of HT_.out (by kernel_rfl)) (by decide) (fun K hK => ?_)
          refine goes_ Try.func19 (by kernel_rfl) rfl #[.agg #[.int .u32 g, .bool ex, .int .i64 lf, .slice A_x sr.length c_x], .int .u32 a] (by rfl) rfl rfl (by (try simp only [List.map_toArray, List.map_cons, List.map_nil]); first | done | rfl | (simp only [List.length_drop, List.length_take]; rfl)) ?_
          with_reducible refine (wants_flat Xhx.out Xhbm.out _ _ _ (Kd.C_below HC_x.out HB.out) HK_x.out).mono ?_
          rintro e_ w20_ ⟨rfl, hB⟩
          refine ⟨_, rfl, ?_⟩
          replace HB := mvH HB hB
          replace HZ := mvH HZ hB
          clear hc_gm_0 hf_gm_0 hc_gm_1 hf_gm_1 hc_gm_2 hf_gm_2 hc_gm_3 hf_gm_3
          replace BK_gm := mvB BK_gm hB
          have hc_gm_0 : w20_.cell? ⟨gm, 0, none⟩ = some (.int .u32 g) := (blk_cell BK_gm.out 0).trans rfl
          have hf_gm_0 := blk_frozen BK_gm.out 0
          have hc_gm_1 : w20_.cell? ⟨gm, 1, none⟩ = some (.bool ex) := (blk_cell BK_gm.out 1).trans rfl
          have hf_gm_1 := blk_frozen BK_gm.out 1
          have hc_gm_2 : w20_.cell? ⟨gm, 2, none⟩ = some (.int .i64 lf) := (blk_cell BK_gm.out 2).trans rfl
          have hf_gm_2 := blk_frozen BK_gm.out 2
          have hc_gm_3 : w20_.cell? ⟨gm, 3, none⟩ = some (.slice A_x sr.length c_x) := (blk_cell BK_gm.out 3).trans rfl
          have hf_gm_3 := blk_frozen BK_gm.out 3
          clear hc_b1_0 hf_b1_0 hc_b1_1 hf_b1_1 hc_b1_2 hf_b1_2 hc_b1_3 hf_b1_3
          replace BK_b1 := mvB BK_b1 hB
          have hc_b1_0 : w20_.cell? ⟨b1, 0, none⟩ = some (.int .u32 g1) := (blk_cell BK_b1.out 0).trans rfl
          have hf_b1_0 := blk_frozen BK_b1.out 0
          have hc_b1_1 : w20_.cell? ⟨b1, 1, none⟩ = some (.bool e1) := (blk_cell BK_b1.out 1).trans rfl
          have hf_b1_1 := blk_frozen BK_b1.out 1
          have hc_b1_2 : w20_.cell? ⟨b1, 2, none⟩ = some (.int .i64 l1) := (blk_cell BK_b1.out 2).trans rfl
          have hf_b1_2 := blk_frozen BK_b1.out 2
          have hc_b1_3 : w20_.cell? ⟨b1, 3, none⟩ = some (.slice A_r1 s1.length c_r1) := (blk_cell BK_b1.out 3).trans rfl
          have hf_b1_3 := blk_frozen BK_b1.out 3
          clear hc_b2_0 hf_b2_0 hc_b2_1 hf_b2_1 hc_b2_2 hf_b2_2 hc_b2_3 hf_b2_3
          replace BK_b2 := mvB BK_b2 hB
          have hc_b2_0 : w20_.cell? ⟨b2, 0, none⟩ = some (.int .u32 g2) := (blk_cell BK_b2.out 0).trans rfl
          have hf_b2_0 := blk_frozen BK_b2.out 0
          have hc_b2_1 : w20_.cell? ⟨b2, 1, none⟩ = some (.bool e2) := (blk_cell BK_b2.out 1).trans rfl
          have hf_b2_1 := blk_frozen BK_b2.out 1
          have hc_b2_2 : w20_.cell? ⟨b2, 2, none⟩ = some (.int .i64 l2) := (blk_cell BK_b2.out 2).trans rfl
          have hf_b2_2 := blk_frozen BK_b2.out 2
          have hc_b2_3 : w20_.cell? ⟨b2, 3, none⟩ = some (.slice A_r2 s2.length c_r2) := (blk_cell BK_b2.out 3).trans rfl
          have hf_b2_3 := blk_frozen BK_b2.out 3
          replace HC_r1 := mvC HC_r1 hB
          replace HC_r2 := mvC HC_r2 hB
          clear hB
          refine hK.out _ _ ⟨hc_gm_0, hc_gm_1, hc_gm_2, hc_gm_3, hc_b1_0, hc_b1_1, hc_b1_2, hc_b1_3, hc_b2_0, hc_b2_1, hc_b2_2, hc_b2_3⟩ (fun hHeld => ?_)
          clear hK K
          refine norm_ (a' := ?_) ?_ ?_
          rotate_left
          · show Act.put _ (some 80) _ = _
            simp only [Act.put, List.setIfInBounds_toArray, List.set_cons_zero, List.set_cons_succ, i64_w, i32_w]
            rfl
          refine pure_ (i := 24) (N := some 81) (v := ?_) (a' := ?_) #[true, true, true, true, true, true, true, true, true, true, true, true, true, true, true, true, true, true, true, true, true, true, true, true, true, false, false] rfl rfl (any_of HT_.out (by kernel_rfl)) (fun _ _ _ h => h) (Or.inl ⟨by rfl, ?_⟩) ?_ ?_
          rotate_left
          · intro w'
            go_simp
            with_reducible rfl
          rotate_left
          · simp only [Act.put, List.setIfInBounds_toArray, List.set_cons_zero, List.set_cons_succ, i64_w, i32_w]
            rfl
          refine pure_ (i := 25) (N := some 82) (v := ?_) (a' := ?_) #[true, true, true, true, true, true, true, true, true, true, true, true, true, true, true, true, true, true, true, true, true, true, true, true, true, true, false] rfl rfl (any_of HT_.out (by kernel_rfl)) (fun _ _ _ h => h) (Or.inl ⟨by rfl, ?_⟩) ?_ ?_
          rotate_left
          · intro w'
            go_simp
            with_reducible rfl
          rotate_left
          · simp only [Act.put, List.setIfInBounds_toArray, List.set_cons_zero, List.set_cons_succ, i64_w, i32_w]
            rfl
          refine pure_ (i := 26) (N := some 83) (v := ?_) (a' := ?_) #[true, true, true, true, true, true, true, true, true, true, true, true, true, true, true, true, true, true, true, true, true, true, true, true, true, true, true] rfl rfl (any_of HT_.out (by kernel_rfl)) (fun _ _ _ h => h) (Or.inl ⟨by rfl, ?_⟩) ?_ ?_
          rotate_left
          · intro w'
            go_simp
            with_reducible rfl
          rotate_left
          · simp only [Act.put, List.setIfInBounds_toArray, List.set_cons_zero, List.set_cons_succ, i64_w, i32_w]
            rfl
          refine done_ (done_of HT_.out (by kernel_rfl)) ?_
          go_wp2
          go_meet
          case rel => exact ⟨rfl, HZ⟩
      · cases bm
        · simp only [Bool.false_or, Bool.true_or] at hw1
          have XW1 := Aside0.mk hw1
          clear hw1
          clear hc_b2_0 hf_b2_0 hc_b2_1 hf_b2_1 hc_b2_2 hf_b2_2 hc_b2_3 hf_b2_3
          clear BK_b2
          refine start_ (n := 27) (S := fun w' => w'.cell? ⟨gm, 0, none⟩ = some (.int .u32 g) ∧ w'.cell? ⟨gm, 1, none⟩ = some (.bool ex) ∧ w'.cell? ⟨gm, 2, none⟩ = some (.int .i64 lf) ∧ w'.cell? ⟨gm, 3, none⟩ = some (.slice A_x sr.length c_x) ∧ w'.cell? ⟨b1, 0, none⟩ = some (.int .u32 g1) ∧ w'.cell? ⟨b1, 1, none⟩ = some (.bool e1) ∧ w'.cell? ⟨b1, 2, none⟩ = some (.int .i64 l1) ∧ w'.cell? ⟨b1, 3, none⟩ = some (.slice A_r1 s1.length c_r1)) (ds := []) #[false, false, false, false, false, false, false, false, false, false, false, false, false, false, false, false, false, false, false, false, false, false, false, false, false, false, false] (by kernel_rfl) rfl rfl ⟨hc_gm_0, hc_gm_1, hc_gm_2, hc_gm_3, hc_b1_0, hc_b1_1, hc_b1_2, hc_b1_3⟩ (fun hHeld => ?_); refine with_tabW ma_t ma_b (fun HT_ HW_ => ?_)
          have hB : Below w15_.heap.size w15_ w15_.drew := below_drew (Below.refl _ _)
          generalize w15_.drew = w16_ at hB hHeld ⊢
          replace HB := mvH HB hB
          replace HZ := mvH HZ hB
          clear hc_gm_0 hf_gm_0 hc_gm_1 hf_gm_1 hc_gm_2 hf_gm_2 hc_gm_3 hf_gm_3
          replace BK_gm := mvB BK_gm hB
          have hc_gm_0 : w16_.cell? ⟨gm, 0, none⟩ = some (.int .u32 g) := (blk_cell BK_gm.out 0).trans rfl
          have hf_gm_0 := blk_frozen BK_gm.out 0
          have hc_gm_1 : w16_.cell? ⟨gm, 1, none⟩ = some (.bool ex) := (blk_cell BK_gm.out 1).trans rfl
          have hf_gm_1 := blk_frozen BK_gm.out 1
          have hc_gm_2 : w16_.cell? ⟨gm, 2, none⟩ = some (.int .i64 lf) := (blk_cell BK_gm.out 2).trans rfl
          have hf_gm_2 := blk_frozen BK_gm.out 2
          have hc_gm_3 : w16_.cell? ⟨gm, 3, none⟩ = some (.slice A_x sr.length c_x) := (blk_cell BK_gm.out 3).trans rfl
          have hf_gm_3 := blk_frozen BK_gm.out 3
          clear hc_b1_0 hf_b1_0 hc_b1_1 hf_b1_1 hc_b1_2 hf_b1_2 hc_b1_3 hf_b1_3
          replace BK_b1 := mvB BK_b1 hB
          have hc_b1_0 : w16_.cell? ⟨b1, 0, none⟩ = some (.int .u32 g1) := (blk_cell BK_b1.out 0).trans rfl
          have hf_b1_0 := blk_frozen BK_b1.out 0
          have hc_b1_1 : w16_.cell? ⟨b1, 1, none⟩ = some (.bool e1) := (blk_cell BK_b1.out 1).trans rfl
          have hf_b1_1 := blk_frozen BK_b1.out 1
          have hc_b1_2 : w16_.cell? ⟨b1, 2, none⟩ = some (.int .i64 l1) := (blk_cell BK_b1.out 2).trans rfl
          have hf_b1_2 := blk_frozen BK_b1.out 2
          have hc_b1_3 : w16_.cell? ⟨b1, 3, none⟩ = some (.slice A_r1 s1.length c_r1) := (blk_cell BK_b1.out 3).trans rfl
          have hf_b1_3 := blk_frozen BK_b1.out 3
          replace HC_r1 := mvC HC_r1 hB
          replace HC_r2 := mvC HC_r2 hB
          clear hB
          refine pure_ (i := 0) (N := some 57) (v := ?_) (a' := ?_) #[true, false, false, false, false, false, false, false, false, false, false, false, false, false, false, false, false, false, false, false, false, false, false, false, false, false, false] rfl rfl (any_of HT_.out (by kernel_rfl)) (fun _ _ _ h => h) (Or.inl ⟨by rfl, ?_⟩) ?_ ?_
          rotate_left
          · intro w'
            go_simp
            with_reducible rfl
          rotate_left
          · simp only [Act.put, List.setIfInBounds_toArray, List.set_cons_zero, List.set_cons_succ, i64_w, i32_w]
            rfl
          refine pure_ (i := 1) (N := some 58) (v := ?_) (a' := ?_) #[true, true, false, false, false, false, false, false, false, false, false, false, false, false, false, false, false, false, false, false, false, false, false, false, false, false, false] rfl rfl (any_of HT_.out (by kernel_rfl)) (fun _ _ _ h => h) (Or.inl ⟨by rfl, ?_⟩) ?_ ?_
          rotate_left
          · intro w'
            go_simp
            with_reducible rfl
          rotate_left
          · simp only [Act.put, List.setIfInBounds_toArray, List.set_cons_zero, List.set_cons_succ, i64_w, i32_w]
            rfl
          refine pure_ (i := 2) (N := some 59) (v := ?_) (a' := ?_) #[true, true, true, false, false, false, false, false, false, false, false, false, false, false, false, false, false, false, false, false, false, false, false, false, false, false, false] rfl rfl (any_of HT_.out (by kernel_rfl)) (fun _ _ _ h => h) (Or.inl ⟨by rfl, ?_⟩) ?_ ?_
          rotate_left
          · intro w'
            go_simp
            with_reducible rfl
          rotate_left
          · simp only [Act.put, List.setIfInBounds_toArray, List.set_cons_zero, List.set_cons_succ, i64_w, i32_w]
            rfl
          refine take_ (i := 3) (N := some 60) (v := ?_) (a' := ?_) #[true, true, true, true, false, false, false, false, false, false, false, false, false, false, false, false, false, false, false, false, false, false, false, false, false, false, false] rfl rfl (take_ofW HT_.out HW_.out (by kernel_rfl)) (fun _ _ _ h => h) (Or.inl ⟨by rfl, ?_⟩) hHeld ?_ ?_
          rotate_left
          · rintro w' ⟨s0, s1, s2, s3, s4, s5, s6, s7⟩
            go_simp
            with_reducible rfl
          rotate_left
          · simp only [Act.put, List.setIfInBounds_toArray, List.set_cons_zero, List.set_cons_succ, i64_w, i32_w]
            rfl
          refine pure_ (i := 4) (N := some 61) (v := ?_) (a' := ?_) #[true, true, true, true, true, false, false, false, false, false, false, false, false, false, false, false, false, false, false, false, false, false, false, false, false, false, false] rfl rfl (any_of HT_.out (by kernel_rfl)) (fun _ _ _ h => h) (Or.inl ⟨by rfl, ?_⟩) ?_ ?_
          rotate_left
          · intro w'
            go_simp
            with_reducible rfl
          rotate_left
          · simp only [Act.put, List.setIfInBounds_toArray, List.set_cons_zero, List.set_cons_succ, i64_w, i32_w]
            rfl
          refine take_ (i := 6) (N := some 63) (v := ?_) (a' := ?_) #[true, true, true, true, true, false, true, false, false, false, false, false, false, false, false, false, false, false, false, false, false, false, false, false, false, false, false] rfl rfl (take_ofW HT_.out HW_.out (by kernel_rfl)) (fun _ _ _ h => h) (Or.inl ⟨by rfl, ?_⟩) hHeld ?_ ?_
          rotate_left
          · rintro w' ⟨s0, s1, s2, s3, s4, s5, s6, s7⟩
            go_simp
            with_reducible rfl
          rotate_left
          · simp only [Act.put, List.setIfInBounds_toArray, List.set_cons_zero, List.set_cons_succ, i64_w, i32_w]
            rfl
          refine pure_ (i := 7) (N := some 64) (v := ?_) (a' := ?_) #[true, true, true, true, true, false, true, true, false, false, false, false, false, false, false, false, false, false, false, false, false, false, false, false, false, false, false] rfl rfl (any_of HT_.out (by kernel_rfl)) (fun _ _ _ h => h) (Or.inl ⟨by rfl, ?_⟩) ?_ ?_
          rotate_left
          · intro w'
            go_simp
            with_reducible rfl
          rotate_left
          · simp only [Act.put, List.setIfInBounds_toArray, List.set_cons_zero, List.set_cons_succ, i64_w, i32_w]
            rfl
          refine one_ (i := 5) (N := some 62) #[true, true, true, true, true, true, true, true, false, false, false, false, false, false, false, false, false, false, false, false, false, false, false, false, false, false, false] rfl rfl (one_of HT_.out (by kernel_rfl)) (by decide) (fun K hK => ?_)
          refine goes_ Try.func19 (by kernel_rfl) rfl #[.agg #[.int .u32 g1, .bool e1, .int .i64 l1, .slice A_r1 s1.length c_r1], .int .u32 a] (by rfl) rfl rfl (by (try simp only [List.map_toArray, List.map_cons, List.map_nil]); first | done | rfl | (simp only [List.length_drop, List.length_take]; rfl)) ?_
          with_reducible refine (wants_flat Xhm1.out XW1.out _ _ _ HC_r1.out HK_r1.out).mono ?_
          rintro e_ w17_ ⟨rfl, hB⟩
          refine ⟨_, rfl, ?_⟩
          replace HB := mvH HB hB
          replace HZ := mvH HZ hB
          clear hc_gm_0 hf_gm_0 hc_gm_1 hf_gm_1 hc_gm_2 hf_gm_2 hc_gm_3 hf_gm_3
          replace BK_gm := mvB BK_gm hB
          have hc_gm_0 : w17_.cell? ⟨gm, 0, none⟩ = some (.int .u32 g) := (blk_cell BK_gm.out 0).trans rfl
          have hf_gm_0 := blk_frozen BK_gm.out 0
          have hc_gm_1 : w17_.cell? ⟨gm, 1, none⟩ = some (.bool ex) := (blk_cell BK_gm.out 1).trans rfl
          have hf_gm_1 := blk_frozen BK_gm.out 1
          have hc_gm_2 : w17_.cell? ⟨gm, 2, none⟩ = some (.int .i64 lf) := (blk_cell BK_gm.out 2).trans rfl
          have hf_gm_2 := blk_frozen BK_gm.out 2
          have hc_gm_3 : w17_.cell? ⟨gm, 3, none⟩ = some (.slice A_x sr.length c_x) := (blk_cell BK_gm.out 3).trans rfl
          have hf_gm_3 := blk_frozen BK_gm.out 3
          clear hc_b1_0 hf_b1_0 hc_b1_1 hf_b1_1 hc_b1_2 hf_b1_2 hc_b1_3 hf_b1_3
          replace BK_b1 := mvB BK_b1 hB
          have hc_b1_0 : w17_.cell? ⟨b1, 0, none⟩ = some (.int .u32 g1) := (blk_cell BK_b1.out 0).trans rfl
          have hf_b1_0 := blk_frozen BK_b1.out 0
          have hc_b1_1 : w17_.cell? ⟨b1, 1, none⟩ = some (.bool e1) := (blk_cell BK_b1.out 1).trans rfl
          have hf_b1_1 := blk_frozen BK_b1.out 1
          have hc_b1_2 : w17_.cell? ⟨b1, 2, none⟩ = some (.int .i64 l1) := (blk_cell BK_b1.out 2).trans rfl
          have hf_b1_2 := blk_frozen BK_b1.out 2
          have hc_b1_3 : w17_.cell? ⟨b1, 3, none⟩ = some (.slice A_r1 s1.length c_r1) := (blk_cell BK_b1.out 3).trans rfl
          have hf_b1_3 := blk_frozen BK_b1.out 3
          replace HC_r1 := mvC HC_r1 hB
          replace HC_r2 := mvC HC_r2 hB
          clear hB
          refine hK.out _ _ ⟨hc_gm_0, hc_gm_1, hc_gm_2, hc_gm_3, hc_b1_0, hc_b1_1, hc_b1_2, hc_b1_3⟩ (fun hHeld => ?_)
          clear hK K
          refine norm_ (a' := ?_) ?_ ?_
          rotate_left
          · show Act.put _ (some 62) _ = _
            simp only [Act.put, List.setIfInBounds_toArray, List.set_cons_zero, List.set_cons_succ, i64_w, i32_w]
            rfl
          refine one_ (i := 8) (N := some 65) #[true, true, true, true, true, true, true, true, true, false, false, false, false, false, false, false, false, false, false, false, false, false, false, false, false, false, false] rfl rfl (one_of HT_.out (by kernel_rfl)) (by decide) (fun K hK => ?_)
          refine goes_ Try.func19 (by kernel_rfl) rfl #[.agg #[.int .u32 g, .bool ex, .int .i64 lf, .slice A_x sr.length c_x], .int .u32 a] (by rfl) rfl rfl (by (try simp only [List.map_toArray, List.map_cons, List.map_nil]); first | done | rfl | (simp only [List.length_drop, List.length_take]; rfl)) ?_
          with_reducible refine (wants_flat Xhx.out Xhbm.out _ _ _ (Kd.C_below HC_x.out HB.out) HK_x.out).mono ?_
          rintro e_ w18_ ⟨rfl, hB⟩
          refine ⟨_, rfl, ?_⟩
          replace HB := mvH HB hB
          replace HZ := mvH HZ hB
          clear hc_gm_0 hf_gm_0 hc_gm_1 hf_gm_1 hc_gm_2 hf_gm_2 hc_gm_3 hf_gm_3
          replace BK_gm := mvB BK_gm hB
          have hc_gm_0 : w18_.cell? ⟨gm, 0, none⟩ = some (.int .u32 g) := (blk_cell BK_gm.out 0).trans rfl
          have hf_gm_0 := blk_frozen BK_gm.out 0
          have hc_gm_1 : w18_.cell? ⟨gm, 1, none⟩ = some (.bool ex) := (blk_cell BK_gm.out 1).trans rfl
          have hf_gm_1 := blk_frozen BK_gm.out 1
          have hc_gm_2 : w18_.cell? ⟨gm, 2, none⟩ = some (.int .i64 lf) := (blk_cell BK_gm.out 2).trans rfl
          have hf_gm_2 := blk_frozen BK_gm.out 2
          have hc_gm_3 : w18_.cell? ⟨gm, 3, none⟩ = some (.slice A_x sr.length c_x) := (blk_cell BK_gm.out 3).trans rfl
          have hf_gm_3 := blk_frozen BK_gm.out 3
          clear hc_b1_0 hf_b1_0 hc_b1_1 hf_b1_1 hc_b1_2 hf_b1_2 hc_b1_3 hf_b1_3
          replace BK_b1 := mvB BK_b1 hB
          have hc_b1_0 : w18_.cell? ⟨b1, 0, none⟩ = some (.int .u32 g1) := (blk_cell BK_b1.out 0).trans rfl
          have hf_b1_0 := blk_frozen BK_b1.out 0
          have hc_b1_1 : w18_.cell? ⟨b1, 1, none⟩ = some (.bool e1) := (blk_cell BK_b1.out 1).trans rfl
          have hf_b1_1 := blk_frozen BK_b1.out 1
          have hc_b1_2 : w18_.cell? ⟨b1, 2, none⟩ = some (.int .i64 l1) := (blk_cell BK_b1.out 2).trans rfl
          have hf_b1_2 := blk_frozen BK_b1.out 2
          have hc_b1_3 : w18_.cell? ⟨b1, 3, none⟩ = some (.slice A_r1 s1.length c_r1) := (blk_cell BK_b1.out 3).trans rfl
          have hf_b1_3 := blk_frozen BK_b1.out 3
          replace HC_r1 := mvC HC_r1 hB
          replace HC_r2 := mvC HC_r2 hB
          clear hB
          refine hK.out _ _ ⟨hc_gm_0, hc_gm_1, hc_gm_2, hc_gm_3, hc_b1_0, hc_b1_1, hc_b1_2, hc_b1_3⟩ (fun hHeld => ?_)
          clear hK K
          refine norm_ (a' := ?_) ?_ ?_
          rotate_left
          · show Act.put _ (some 65) _ = _
            simp only [Act.put, List.setIfInBounds_toArray, List.set_cons_zero, List.set_cons_succ, i64_w, i32_w]
            rfl
          refine pure_ (i := 9) (N := some 66) (v := ?_) (a' := ?_) #[true, true, true, true, true, true, true, true, true, true, false, false, false, false, false, false, false, false, false, false, false, false, false, false, false, false, false] rfl rfl (any_of HT_.out (by kernel_rfl)) (fun _ _ _ h => h) (Or.inl ⟨by rfl, ?_⟩) ?_ ?_
          rotate_left
          · intro w'
            go_simp
            with_reducible rfl
          rotate_left
          · simp only [Act.put, List.setIfInBounds_toArray, List.set_cons_zero, List.set_cons_succ, i64_w, i32_w]
            rfl
          refine pure_ (i := 10) (N := some 67) (v := ?_) (a' := ?_) #[true, true, true, true, true, true, true, true, true, true, true, false, false, false, false, false, false, false, false, false, false, false, false, false, false, false, false] rfl rfl (any_of HT_.out (by kernel_rfl)) (fun _ _ _ h => h) (Or.inl ⟨by rfl, ?_⟩) ?_ ?_
          rotate_left
          · intro w'
            go_simp
            with_reducible rfl
          rotate_left
          · simp only [Act.put, List.setIfInBounds_toArray, List.set_cons_zero, List.set_cons_succ, i64_w, i32_w]
            rfl
          refine pure_ (i := 11) (N := some 68) (v := ?_) (a' := ?_) #[true, true, true, true, true, true, true, true, true, true, true, true, false, false, false, false, false, false, false, false, false, false, false, false, false, false, false] rfl rfl (any_of HT_.out (by kernel_rfl)) (fun _ _ _ h => h) (Or.inl ⟨by rfl, ?_⟩) ?_ ?_
          rotate_left
          · intro w'
            go_simp
            with_reducible rfl
          rotate_left
          · simp only [Act.put, List.setIfInBounds_toArray, List.set_cons_zero, List.set_cons_succ, i64_w, i32_w]
            rfl
          refine pure_ (i := 12) (N := some 69) (v := ?_) (a' := ?_) #[true, true, true, true, true, true, true, true, true, true, true, true, true, false, false, false, false, false, false, false, false, false, false, false, false, false, false] rfl rfl (any_of HT_.out (by kernel_rfl)) (fun _ _ _ h => h) (Or.inl ⟨by rfl, ?_⟩) ?_ ?_
          rotate_left
          · intro w'
            go_simp
            with_reducible rfl
          rotate_left
          · simp only [Act.put, List.setIfInBounds_toArray, List.set_cons_zero, List.set_cons_succ, i64_w, i32_w]
            rfl
          refine pure_ (i := 13) (N := some 70) (v := ?_) (a' := ?_) #[true, true, true, true, true, true, true, true, true, true, true, true, true, true, false, false, false, false, false, false, false, false, false, false, false, false, false] rfl rfl (any_of HT_.out (by kernel_rfl)) (fun _ _ _ h => h) (Or.inl ⟨by rfl, ?_⟩) ?_ ?_
          rotate_left
          · intro w'
            go_simp
            with_reducible rfl
          rotate_left
          · simp only [Act.put, List.setIfInBounds_toArray, List.set_cons_zero, List.set_cons_succ, i64_w, i32_w]
            rfl
          refine pure_ (i := 14) (N := some 71) (v := ?_) (a' := ?_) #[true, true, true, true, true, true, true, true, true, true, true, true, true, true, true, false, false, false, false, false, false, false, false, false, false, false, false] rfl rfl (any_of HT_.out (by kernel_rfl)) (fun _ _ _ h => h) (Or.inl ⟨by rfl, ?_⟩) ?_ ?_
          rotate_left
          · intro w'
            go_simp
            with_reducible rfl
          rotate_left
          · simp only [Act.put, List.setIfInBounds_toArray, List.set_cons_zero, List.set_cons_succ, i64_w, i32_w]
            rfl
          refine pure_ (i := 15) (N := some 72) (v := ?_) (a' := ?_) #[true, true, true, true, true, true, true, true, true, true, true, true, true, true, true, true, false, false, false, false, false, false, false, false, false, false, false] rfl rfl (any_of HT_.out (by kernel_rfl)) (fun _ _ _ h => h) (Or.inl ⟨by rfl, ?_⟩) ?_ ?_
          rotate_left
          · intro w'
            go_simp
            with_reducible rfl
          rotate_left
          · simp only [Act.put, List.setIfInBounds_toArray, List.set_cons_zero, List.set_cons_succ, i64_w, i32_w]
            rfl
          refine pure_ (i := 16) (N := some 73) (v := ?_) (a' := ?_) #[true, true, true, true, true, true, true, true, true, true, true, true, true, true, true, true, true, false, false, false, false, false, false, false, false, false, false] rfl rfl (any_of HT_.out (by kernel_rfl)) (fun _ _ _ h => h) (Or.inl ⟨by rfl, ?_⟩) ?_ ?_
          rotate_left
          · intro w'
            go_simp
            with_reducible rfl
          rotate_left
          · simp only [Act.put, List.setIfInBounds_toArray, List.set_cons_zero, List.set_cons_succ, i64_w, i32_w]
            rfl
          refine pure_ (i := 17) (N := some 74) (v := ?_) (a' := ?_) #[true, true, true, true, true, true, true, true, true, true, true, true, true, true, true, true, true, true, false, false, false, false, false, false, false, false, false] rfl rfl (any_of HT_.out (by kernel_rfl)) (fun _ _ _ h => h) (Or.inl ⟨by rfl, ?_⟩) ?_ ?_
          rotate_left
          · intro w'
            go_simp
            with_reducible rfl
          rotate_left
          · simp only [Act.put, List.setIfInBounds_toArray, List.set_cons_zero, List.set_cons_succ, i64_w, i32_w]
            rfl
          refine pure_ (i := 18) (N := some 75) (v := undef) (a' := ?_) #[true, true, true, true, true, true, true, true, true, true, true, true, true, true, true, true, true, true, true, false, false, false, false, false, false, false, false] rfl rfl (any_of HT_.out (by kernel_rfl)) (fun _ _ _ h => h) (Or.inr ⟨by rfl, rfl⟩) ?_ ?_
          rotate_left
          · simp only [Act.put, List.setIfInBounds_toArray, List.set_cons_zero, List.set_cons_succ, i64_w, i32_w]
            rfl
          refine pure_ (i := 19) (N := some 76) (v := undef) (a' := ?_) #[true, true, true, true, true, true, true, true, true, true, true, true, true, true, true, true, true, true, true, true, false, false, false, false, false, false, false] rfl rfl (any_of HT_.out (by kernel_rfl)) (fun _ _ _ h => h) (Or.inr ⟨by rfl, rfl⟩) ?_ ?_
          rotate_left
          · simp only [Act.put, List.setIfInBounds_toArray, List.set_cons_zero, List.set_cons_succ, i64_w, i32_w]
            rfl
          refine pure_ (i := 20) (N := some 77) (v := undef) (a' := ?_) #[true, true, true, true, true, true, true, true, true, true, true, true, true, true, true, true, true, true, true, true, true, false, false, false, false, false, false] rfl rfl (any_of HT_.out (by kernel_rfl)) (fun _ _ _ h => h) (Or.inr ⟨by rfl, rfl⟩) ?_ ?_
          rotate_left
          · simp only [Act.put, List.setIfInBounds_toArray, List.set_cons_zero, List.set_cons_succ, i64_w, i32_w]
            rfl
          refine pure_ (i := 21) (N := some 78) (v := undef) (a' := ?_) #[true, true, true, true, true, true, true, true, true, true, true, true, true, true, true, true, true, true, true, true, true, true, false, false, false, false, false] rfl rfl (any_of HT_.out (by kernel_rfl)) (fun _ _ _ h => h) (Or.inr ⟨by rfl, rfl⟩) ?_ ?_
          rotate_left
          · simp only [Act.put, List.setIfInBounds_toArray, List.set_cons_zero, List.set_cons_succ, i64_w, i32_w]
            rfl
          refine pure_ (i := 22) (N := some 79) (v := undef) (a' := ?_) #[true, true, true, true, true, true, true, true, true, true, true, true, true, true, true, true, true, true, true, true, true, true, true, false, false, false, false] rfl rfl (any_of HT_.out (by kernel_rfl)) (fun _ _ _ h => h) (Or.inr ⟨by rfl, rfl⟩) ?_ ?_
          rotate_left
          · simp only [Act.put, List.setIfInBounds_toArray, List.set_cons_zero, List.set_cons_succ, i64_w, i32_w]
            rfl
          refine pure_ (i := 23) (N := some 80) (v := undef) (a' := ?_) #[true, true, true, true, true, true, true, true, true, true, true, true, true, true, true, true, true, true, true, true, true, true, true, true, false, false, false] rfl rfl (any_of HT_.out (by kernel_rfl)) (fun _ _ _ h => h) (Or.inr ⟨by rfl, rfl⟩) ?_ ?_
          rotate_left
          · simp only [Act.put, List.setIfInBounds_toArray, List.set_cons_zero, List.set_cons_succ, i64_w, i32_w]
            rfl
          refine pure_ (i := 24) (N := some 81) (v := undef) (a' := ?_) #[true, true, true, true, true, true, true, true, true, true, true, true, true, true, true, true, true, true, true, true, true, true, true, true, true, false, false] rfl rfl (any_of HT_.out (by kernel_rfl)) (fun _ _ _ h => h) (Or.inr ⟨by rfl, rfl⟩) ?_ ?_
          rotate_left
          · simp only [Act.put, List.setIfInBounds_toArray, List.set_cons_zero, List.set_cons_succ, i64_w, i32_w]
            rfl
          refine pure_ (i := 25) (N := some 82) (v := ?_) (a' := ?_) #[true, true, true, true, true, true, true, true, true, true, true, true, true, true, true, true, true, true, true, true, true, true, true, true, true, true, false] rfl rfl (any_of HT_.out (by kernel_rfl)) (fun _ _ _ h => h) (Or.inl ⟨by rfl, ?_⟩) ?_ ?_
          rotate_left
          · intro w'
            go_simp
            with_reducible rfl
          rotate_left
          · simp only [Act.put, List.setIfInBounds_toArray, List.set_cons_zero, List.set_cons_succ, i64_w, i32_w]
            rfl
          refine pure_ (i := 26) (N := some 83) (v := ?_) (a' := ?_) #[true, true, true, true, true, true, true, true, true, true, true, true, true, true, true, true, true, true, true, true, true, true, true, true, true, true, true] rfl rfl (any_of HT_.out (by kernel_rfl)) (fun _ _ _ h => h) (Or.inl ⟨by rfl, ?_⟩) ?_ ?_
          rotate_left
          · intro w'
            go_simp
            with_reducible rfl
          rotate_left
          · simp only [Act.put, List.setIfInBounds_toArray, List.set_cons_zero, List.set_cons_succ, i64_w, i32_w]
            rfl
          refine done_ (done_of HT_.out (by kernel_rfl)) ?_
          go_wp2
          go_meet
          case rel => exact ⟨rfl, HZ⟩
        · simp only [Bool.false_or, Bool.true_or] at hw1
          have XW1 := Aside0.mk hw1
          clear hw1
          clear hc_b2_0 hf_b2_0 hc_b2_1 hf_b2_1 hc_b2_2 hf_b2_2 hc_b2_3 hf_b2_3
          clear BK_b2
          refine start_ (n := 27) (S := fun w' => w'.cell? ⟨gm, 0, none⟩ = some (.int .u32 g) ∧ w'.cell? ⟨gm, 1, none⟩ = some (.bool ex) ∧ w'.cell? ⟨gm, 2, none⟩ = some (.int .i64 lf) ∧ w'.cell? ⟨gm, 3, none⟩ = some (.slice A_x sr.length c_x) ∧ w'.cell? ⟨b1, 0, none⟩ = some (.int .u32 g1) ∧ w'.cell? ⟨b1, 1, none⟩ = some (.bool e1) ∧ w'.cell? ⟨b1, 2, none⟩ = some (.int .i64 l1) ∧ w'.cell? ⟨b1, 3, none⟩ = some (.slice A_r1 s1.length c_r1)) (ds := []) #[false, false, false, false, false, false, false, false, false, false, false, false, false, false, false, false, false, false, false, false, false, false, false, false, false, false, false] (by kernel_rfl) rfl rfl ⟨hc_gm_0, hc_gm_1, hc_gm_2, hc_gm_3, hc_b1_0, hc_b1_1, hc_b1_2, hc_b1_3⟩ (fun hHeld => ?_); refine with_tabW ma_t ma_b (fun HT_ HW_ => ?_)
          have hB : Below w15_.heap.size w15_ w15_.drew := below_drew (Below.refl _ _)
          generalize w15_.drew = w16_ at hB hHeld ⊢
          replace HB := mvH HB hB
          replace HZ := mvH HZ hB
          clear hc_gm_0 hf_gm_0 hc_gm_1 hf_gm_1 hc_gm_2 hf_gm_2 hc_gm_3 hf_gm_3
          replace BK_gm := mvB BK_gm hB
          have hc_gm_0 : w16_.cell? ⟨gm, 0, none⟩ = some (.int .u32 g) := (blk_cell BK_gm.out 0).trans rfl
          have hf_gm_0 := blk_frozen BK_gm.out 0
          have hc_gm_1 : w16_.cell? ⟨gm, 1, none⟩ = some (.bool ex) := (blk_cell BK_gm.out 1).trans rfl
          have hf_gm_1 := blk_frozen BK_gm.out 1
          have hc_gm_2 : w16_.cell? ⟨gm, 2, none⟩ = some (.int .i64 lf) := (blk_cell BK_gm.out 2).trans rfl
          have hf_gm_2 := blk_frozen BK_gm.out 2
          have hc_gm_3 : w16_.cell? ⟨gm, 3, none⟩ = some (.slice A_x sr.length c_x) := (blk_cell BK_gm.out 3).trans rfl
          have hf_gm_3 := blk_frozen BK_gm.out 3
          clear hc_b1_0 hf_b1_0 hc_b1_1 hf_b1_1 hc_b1_2 hf_b1_2 hc_b1_3 hf_b1_3
          replace BK_b1 := mvB BK_b1 hB
          have hc_b1_0 : w16_.cell? ⟨b1, 0, none⟩ = some (.int .u32 g1) := (blk_cell BK_b1.out 0).trans rfl
          have hf_b1_0 := blk_frozen BK_b1.out 0
          have hc_b1_1 : w16_.cell? ⟨b1, 1, none⟩ = some (.bool e1) := (blk_cell BK_b1.out 1).trans rfl
          have hf_b1_1 := blk_frozen BK_b1.out 1
          have hc_b1_2 : w16_.cell? ⟨b1, 2, none⟩ = some (.int .i64 l1) := (blk_cell BK_b1.out 2).trans rfl
          have hf_b1_2 := blk_frozen BK_b1.out 2
          have hc_b1_3 : w16_.cell? ⟨b1, 3, none⟩ = some (.slice A_r1 s1.length c_r1) := (blk_cell BK_b1.out 3).trans rfl
          have hf_b1_3 := blk_frozen BK_b1.out 3
          replace HC_r1 := mvC HC_r1 hB
          replace HC_r2 := mvC HC_r2 hB
          clear hB
          refine pure_ (i := 0) (N := some 57) (v := ?_) (a' := ?_) #[true, false, false, false, false, false, false, false, false, false, false, false, false, false, false, false, false, false, false, false, false, false, false, false, false, false, false] rfl rfl (any_of HT_.out (by kernel_rfl)) (fun _ _ _ h => h) (Or.inl ⟨by rfl, ?_⟩) ?_ ?_
          rotate_left
          · intro w'
            go_simp
            with_reducible rfl
          rotate_left
          · simp only [Act.put, List.setIfInBounds_toArray, List.set_cons_zero, List.set_cons_succ, i64_w, i32_w]
            rfl
          refine pure_ (i := 1) (N := some 58) (v := ?_) (a' := ?_) #[true, true, false, false, false, false, false, false, false, false, false, false, false, false, false, false, false, false, false, false, false, false, false, false, false, false, false] rfl rfl (any_of HT_.out (by kernel_rfl)) (fun _ _ _ h => h) (Or.inl ⟨by rfl, ?_⟩) ?_ ?_
          rotate_left
          · intro w'
            go_simp
            with_reducible rfl
          rotate_left
          · simp only [Act.put, List.setIfInBounds_toArray, List.set_cons_zero, List.set_cons_succ, i64_w, i32_w]
            rfl
          refine pure_ (i := 2) (N := some 59) (v := ?_) (a' := ?_) #[true, true, true, false, false, false, false, false, false, false, false, false, false, false, false, false, false, false, false, false, false, false, false, false, false, false, false] rfl rfl (any_of HT_.out (by kernel_rfl)) (fun _ _ _ h => h) (Or.inl ⟨by rfl, ?_⟩) ?_ ?_
          rotate_left
          · intro w'
            go_simp
            with_reducible rfl
          rotate_left
          · simp only [Act.put, List.setIfInBounds_toArray, List.set_cons_zero, List.set_cons_succ, i64_w, i32_w]
            rfl
          refine take_ (i := 3) (N := some 60) (v := ?_) (a' := ?_) #[true, true, true, true, false, false, false, false, false, false, false, false, false, false, false, false, false, false, false, false, false, false, false, false, false, false, false] rfl rfl (take_ofW HT_.out HW_.out (by kernel_rfl)) (fun _ _ _ h => h) (Or.inl ⟨by rfl, ?_⟩) hHeld ?_ ?_
          rotate_left
          · rintro w' ⟨s0, s1, s2, s3, s4, s5, s6, s7⟩
            go_simp
            with_reducible rfl
          rotate_left
          · simp only [Act.put, List.setIfInBounds_toArray, List.set_cons_zero, List.set_cons_succ, i64_w, i32_w]
            rfl
          refine pure_ (i := 4) (N := some 61) (v := ?_) (a' := ?_) #[true, true, true, true, true, false, false, false, false, false, false, false, false, false, false, false, false, false, false, false, false, false, false, false, false, false, false] rfl rfl (any_of HT_.out (by kernel_rfl)) (fun _ _ _ h => h) (Or.inl ⟨by rfl, ?_⟩) ?_ ?_
          rotate_left
          · intro w'
            go_simp
            with_reducible rfl
          rotate_left
          · simp only [Act.put, List.setIfInBounds_toArray, List.set_cons_zero, List.set_cons_succ, i64_w, i32_w]
            rfl
          refine take_ (i := 6) (N := some 63) (v := ?_) (a' := ?_) #[true, true, true, true, true, false, true, false, false, false, false, false, false, false, false, false, false, false, false, false, false, false, false, false, false, false, false] rfl rfl (take_ofW HT_.out HW_.out (by kernel_rfl)) (fun _ _ _ h => h) (Or.inl ⟨by rfl, ?_⟩) hHeld ?_ ?_
          rotate_left
          · rintro w' ⟨s0, s1, s2, s3, s4, s5, s6, s7⟩
            go_simp
            with_reducible rfl
          rotate_left
          · simp only [Act.put, List.setIfInBounds_toArray, List.set_cons_zero, List.set_cons_succ, i64_w, i32_w]
            rfl
          refine pure_ (i := 7) (N := some 64) (v := ?_) (a' := ?_) #[true, true, true, true, true, false, true, true, false, false, false, false, false, false, false, false, false, false, false, false, false, false, false, false, false, false, false] rfl rfl (any_of HT_.out (by kernel_rfl)) (fun _ _ _ h => h) (Or.inl ⟨by rfl, ?_⟩) ?_ ?_
          rotate_left
          · intro w'
            go_simp
            with_reducible rfl
          rotate_left
          · simp only [Act.put, List.setIfInBounds_toArray, List.set_cons_zero, List.set_cons_succ, i64_w, i32_w]
            rfl
          refine one_ (i := 5) (N := some 62) #[true, true, true, true, true, true, true, true, false, false, false, false, false, false, false, false, false, false, false, false, false, false, false, false, false, false, false] rfl rfl (one_of HT_.out (by kernel_rfl)) (by decide) (fun K hK => ?_)
          refine goes_ Try.func19 (by kernel_rfl) rfl #[.agg #[.int .u32 g1, .bool e1, .int .i64 l1, .slice A_r1 s1.length c_r1], .int .u32 a] (by rfl) rfl rfl (by (try simp only [List.map_toArray, List.map_cons, List.map_nil]); first | done | rfl | (simp only [List.length_drop, List.length_take]; rfl)) ?_
          with_reducible refine (wants_flat Xhm1.out XW1.out _ _ _ HC_r1.out HK_r1.out).mono ?_
          rintro e_ w17_ ⟨rfl, hB⟩
          refine ⟨_, rfl, ?_⟩
          replace HB := mvH HB hB
          replace HZ := mvH HZ hB
          clear hc_gm_0 hf_gm_0 hc_gm_1 hf_gm_1 hc_gm_2 hf_gm_2 hc_gm_3 hf_gm_3
          replace BK_gm := mvB BK_gm hB
          have hc_gm_0 : w17_.cell? ⟨gm, 0, none⟩ = some (.int .u32 g) := (blk_cell BK_gm.out 0).trans rfl
          have hf_gm_0 := blk_frozen BK_gm.out 0
          have hc_gm_1 : w17_.cell? ⟨gm, 1, none⟩ = some (.bool ex) := (blk_cell BK_gm.out 1).trans rfl
          have hf_gm_1 := blk_frozen BK_gm.out 1
          have hc_gm_2 : w17_.cell? ⟨gm, 2, none⟩ = some (.int .i64 lf) := (blk_cell BK_gm.out 2).trans rfl
          have hf_gm_2 := blk_frozen BK_gm.out 2
          have hc_gm_3 : w17_.cell? ⟨gm, 3, none⟩ = some (.slice A_x sr.length c_x) := (blk_cell BK_gm.out 3).trans rfl
          have hf_gm_3 := blk_frozen BK_gm.out 3
          clear hc_b1_0 hf_b1_0 hc_b1_1 hf_b1_1 hc_b1_2 hf_b1_2 hc_b1_3 hf_b1_3
          replace BK_b1 := mvB BK_b1 hB
          have hc_b1_0 : w17_.cell? ⟨b1, 0, none⟩ = some (.int .u32 g1) := (blk_cell BK_b1.out 0).trans rfl
          have hf_b1_0 := blk_frozen BK_b1.out 0
          have hc_b1_1 : w17_.cell? ⟨b1, 1, none⟩ = some (.bool e1) := (blk_cell BK_b1.out 1).trans rfl
          have hf_b1_1 := blk_frozen BK_b1.out 1
          have hc_b1_2 : w17_.cell? ⟨b1, 2, none⟩ = some (.int .i64 l1) := (blk_cell BK_b1.out 2).trans rfl
          have hf_b1_2 := blk_frozen BK_b1.out 2
          have hc_b1_3 : w17_.cell? ⟨b1, 3, none⟩ = some (.slice A_r1 s1.length c_r1) := (blk_cell BK_b1.out 3).trans rfl
          have hf_b1_3 := blk_frozen BK_b1.out 3
          replace HC_r1 := mvC HC_r1 hB
          replace HC_r2 := mvC HC_r2 hB
          clear hB
          refine hK.out _ _ ⟨hc_gm_0, hc_gm_1, hc_gm_2, hc_gm_3, hc_b1_0, hc_b1_1, hc_b1_2, hc_b1_3⟩ (fun hHeld => ?_)
          clear hK K
          refine norm_ (a' := ?_) ?_ ?_
          rotate_left
          · show Act.put _ (some 62) _ = _
            simp only [Act.put, List.setIfInBounds_toArray, List.set_cons_zero, List.set_cons_succ, i64_w, i32_w]
            rfl
          refine one_ (i := 8) (N := some 65) #[true, true, true, true, true, true, true, true, true, false, false, false, false, false, false, false, false, false, false, false, false, false, false, false, false, false, false] rfl rfl (one_of HT_.out (by kernel_rfl)) (by decide) (fun K hK => ?_)
          refine goes_ Try.func19 (by kernel_rfl) rfl #[.agg #[.int .u32 g, .bool ex, .int .i64 lf, .slice A_x sr.length c_x], .int .u32 a] (by rfl) rfl rfl (by (try simp only [List.map_toArray, List.map_cons, List.map_nil]); first | done | rfl | (simp only [List.length_drop, List.length_take]; rfl)) ?_
          with_reducible refine (wants_flat Xhx.out Xhbm.out _ _ _ (Kd.C_below HC_x.out HB.out) HK_x.out).mono ?_
          rintro e_ w18_ ⟨rfl, hB⟩
          refine ⟨_, rfl, ?_⟩
          replace HB := mvH HB hB
          replace HZ := mvH HZ hB
          clear hc_gm_0 hf_gm_0 hc_gm_1 hf_gm_1 hc_gm_2 hf_gm_2 hc_gm_3 hf_gm_3
          replace BK_gm := mvB BK_gm hB
          have hc_gm_0 : w18_.cell? ⟨gm, 0, none⟩ = some (.int .u32 g) := (blk_cell BK_gm.out 0).trans rfl
          have hf_gm_0 := blk_frozen BK_gm.out 0
          have hc_gm_1 : w18_.cell? ⟨gm, 1, none⟩ = some (.bool ex) := (blk_cell BK_gm.out 1).trans rfl
          have hf_gm_1 := blk_frozen BK_gm.out 1
          have hc_gm_2 : w18_.cell? ⟨gm, 2, none⟩ = some (.int .i64 lf) := (blk_cell BK_gm.out 2).trans rfl
          have hf_gm_2 := blk_frozen BK_gm.out 2
          have hc_gm_3 : w18_.cell? ⟨gm, 3, none⟩ = some (.slice A_x sr.length c_x) := (blk_cell BK_gm.out 3).trans rfl
          have hf_gm_3 := blk_frozen BK_gm.out 3
          clear hc_b1_0 hf_b1_0 hc_b1_1 hf_b1_1 hc_b1_2 hf_b1_2 hc_b1_3 hf_b1_3
          replace BK_b1 := mvB BK_b1 hB
          have hc_b1_0 : w18_.cell? ⟨b1, 0, none⟩ = some (.int .u32 g1) := (blk_cell BK_b1.out 0).trans rfl
          have hf_b1_0 := blk_frozen BK_b1.out 0
          have hc_b1_1 : w18_.cell? ⟨b1, 1, none⟩ = some (.bool e1) := (blk_cell BK_b1.out 1).trans rfl
          have hf_b1_1 := blk_frozen BK_b1.out 1
          have hc_b1_2 : w18_.cell? ⟨b1, 2, none⟩ = some (.int .i64 l1) := (blk_cell BK_b1.out 2).trans rfl
          have hf_b1_2 := blk_frozen BK_b1.out 2
          have hc_b1_3 : w18_.cell? ⟨b1, 3, none⟩ = some (.slice A_r1 s1.length c_r1) := (blk_cell BK_b1.out 3).trans rfl
          have hf_b1_3 := blk_frozen BK_b1.out 3
          replace HC_r1 := mvC HC_r1 hB
          replace HC_r2 := mvC HC_r2 hB
          clear hB
          refine hK.out _ _ ⟨hc_gm_0, hc_gm_1, hc_gm_2, hc_gm_3, hc_b1_0, hc_b1_1, hc_b1_2, hc_b1_3⟩ (fun hHeld => ?_)
          clear hK K
          refine norm_ (a' := ?_) ?_ ?_
          rotate_left
          · show Act.put _ (some 65) _ = _
            simp only [Act.put, List.setIfInBounds_toArray, List.set_cons_zero, List.set_cons_succ, i64_w, i32_w]
            rfl
          refine pure_ (i := 9) (N := some 66) (v := ?_) (a' := ?_) #[true, true, true, true, true, true, true, true, true, true, false, false, false, false, false, false, false, false, false, false, false, false, false, false, false, false, false] rfl rfl (any_of HT_.out (by kernel_rfl)) (fun _ _ _ h => h) (Or.inl ⟨by rfl, ?_⟩) ?_ ?_
          rotate_left
          · intro w'
            go_simp
            with_reducible rfl
          rotate_left
          · simp only [Act.put, List.setIfInBounds_toArray, List.set_cons_zero, List.set_cons_succ, i64_w, i32_w]
            rfl
          refine pure_ (i := 10) (N := some 67) (v := undef) (a' := ?_) #[true, true, true, true, true, true, true, true, true, true, true, false, false, false, false, false, false, false, false, false, false, false, false, false, false, false, false] rfl rfl (any_of HT_.out (by kernel_rfl)) (fun _ _ _ h => h) (Or.inr ⟨by rfl, rfl⟩) ?_ ?_
          rotate_left
          · simp only [Act.put, List.setIfInBounds_toArray, List.set_cons_zero, List.set_cons_succ, i64_w, i32_w]
            rfl
          refine pure_ (i := 11) (N := some 68) (v := ?_) (a' := ?_) #[true, true, true, true, true, true, true, true, true, true, true, true, false, false, false, false, false, false, false, false, false, false, false, false, false, false, false] rfl rfl (any_of HT_.out (by kernel_rfl)) (fun _ _ _ h => h) (Or.inl ⟨by rfl, ?_⟩) ?_ ?_
          rotate_left
          · intro w'
            go_simp
            with_reducible rfl
          rotate_left
          · simp only [Act.put, List.setIfInBounds_toArray, List.set_cons_zero, List.set_cons_succ, i64_w, i32_w]
            rfl
          refine pure_ (i := 12) (N := some 69) (v := ?_) (a' := ?_) #[true, true, true, true, true, true, true, true, true, true, true, true, true, false, false, false, false, false, false, false, false, false, false, false, false, false, false] rfl rfl (any_of HT_.out (by kernel_rfl)) (fun _ _ _ h => h) (Or.inl ⟨by rfl, ?_⟩) ?_ ?_
          rotate_left
          · intro w'
            go_simp
            with_reducible rfl
          rotate_left
          · simp only [Act.put, List.setIfInBounds_toArray, List.set_cons_zero, List.set_cons_succ, i64_w, i32_w]
            rfl
          refine pure_ (i := 13) (N := some 70) (v := ?_) (a' := ?_) #[true, true, true, true, true, true, true, true, true, true, true, true, true, true, false, false, false, false, false, false, false, false, false, false, false, false, false] rfl rfl (any_of HT_.out (by kernel_rfl)) (fun _ _ _ h => h) (Or.inl ⟨by rfl, ?_⟩) ?_ ?_
          rotate_left
          · intro w'
            go_simp
            with_reducible rfl
          rotate_left
          · simp only [Act.put, List.setIfInBounds_toArray, List.set_cons_zero, List.set_cons_succ, i64_w, i32_w]
            rfl
          refine pure_ (i := 14) (N := some 71) (v := ?_) (a' := ?_) #[true, true, true, true, true, true, true, true, true, true, true, true, true, true, true, false, false, false, false, false, false, false, false, false, false, false, false] rfl rfl (any_of HT_.out (by kernel_rfl)) (fun _ _ _ h => h) (Or.inl ⟨by rfl, ?_⟩) ?_ ?_
          rotate_left
          · intro w'
            go_simp
            with_reducible rfl
          rotate_left
          · simp only [Act.put, List.setIfInBounds_toArray, List.set_cons_zero, List.set_cons_succ, i64_w, i32_w]
            rfl
          refine pure_ (i := 15) (N := some 72) (v := ?_) (a' := ?_) #[true, true, true, true, true, true, true, true, true, true, true, true, true, true, true, true, false, false, false, false, false, false, false, false, false, false, false] rfl rfl (any_of HT_.out (by kernel_rfl)) (fun _ _ _ h => h) (Or.inl ⟨by rfl, ?_⟩) ?_ ?_
          rotate_left
          · intro w'
            go_simp
            with_reducible rfl
          rotate_left
          · simp only [Act.put, List.setIfInBounds_toArray, List.set_cons_zero, List.set_cons_succ, i64_w, i32_w]
            rfl
          refine pure_ (i := 16) (N := some 73) (v := ?_) (a' := ?_) #[true, true, true, true, true, true, true, true, true, true, true, true, true, true, true, true, true, false, false, false, false, false, false, false, false, false, false] rfl rfl (any_of HT_.out (by kernel_rfl)) (fun _ _ _ h => h) (Or.inl ⟨by rfl, ?_⟩) ?_ ?_
          rotate_left
          · intro w'
            go_simp
            with_reducible rfl
          rotate_left
          · simp only [Act.put, List.setIfInBounds_toArray, List.set_cons_zero, List.set_cons_succ, i64_w, i32_w]
            rfl
          refine pure_ (i := 17) (N := some 74) (v := ?_) (a' := ?_) #[true, true, true, true, true, true, true, true, true, true, true, true, true, true, true, true, true, true, false, false, false, false, false, false, false, false, false] rfl rfl (any_of HT_.out (by kernel_rfl)) (fun _ _ _ h => h) (Or.inl ⟨by rfl, ?_⟩) ?_ ?_
          rotate_left
          · intro w'
            go_simp
            with_reducible rfl
          rotate_left
          · simp only [Act.put, List.setIfInBounds_toArray, List.set_cons_zero, List.set_cons_succ, i64_w, i32_w]
            rfl
          refine pure_ (i := 18) (N := some 75) (v := undef) (a' := ?_) #[true, true, true, true, true, true, true, true, true, true, true, true, true, true, true, true, true, true, true, false, false, false, false, false, false, false, false] rfl rfl (any_of HT_.out (by kernel_rfl)) (fun _ _ _ h => h) (Or.inr ⟨by rfl, rfl⟩) ?_ ?_
          rotate_left
          · simp only [Act.put, List.setIfInBounds_toArray, List.set_cons_zero, List.set_cons_succ, i64_w, i32_w]
            rfl
          refine pure_ (i := 19) (N := some 76) (v := undef) (a' := ?_) #[true, true, true, true, true, true, true, true, true, true, true, true, true, true, true, true, true, true, true, true, false, false, false, false, false, false, false] rfl rfl (any_of HT_.out (by kernel_rfl)) (fun _ _ _ h => h) (Or.inr ⟨by rfl, rfl⟩) ?_ ?_
          rotate_left
          · simp only [Act.put, List.setIfInBounds_toArray, List.set_cons_zero, List.set_cons_succ, i64_w, i32_w]
            rfl
          refine pure_ (i := 20) (N := some 77) (v := undef) (a' := ?_) #[true, true, true, true, true, true, true, true, true, true, true, true, true, true, true, true, true, true, true, true, true, false, false, false, false, false, false] rfl rfl (any_of HT_.out (by kernel_rfl)) (fun _ _ _ h => h) (Or.inr ⟨by rfl, rfl⟩) ?_ ?_
          rotate_left
          · simp only [Act.put, List.setIfInBounds_toArray, List.set_cons_zero, List.set_cons_succ, i64_w, i32_w]
            rfl
          refine pure_ (i := 21) (N := some 78) (v := undef) (a' := ?_) #[true, true, true, true, true, true, true, true, true, true, true, true, true, true, true, true, true, true, true, true, true, true, false, false, false, false, false] rfl rfl (any_of HT_.out (by kernel_rfl)) (fun _ _ _ h => h) (Or.inr ⟨by rfl, rfl⟩) ?_ ?_
          rotate_left
          · simp only [Act.put, List.setIfInBounds_toArray, List.set_cons_zero, List.set_cons_succ, i64_w, i32_w]
            rfl
          refine pure_ (i := 22) (N := some 79) (v := undef) (a' := ?_) #[true, true, true, true, true, true, true, true, true, true, true, true, true, true, true, true, true, true, true, true, true, true, true, false, false, false, false] rfl rfl (any_of HT_.out (by kernel_rfl)) (fun _ _ _ h => h) (Or.inr ⟨by rfl, rfl⟩) ?_ ?_
          rotate_left
          · simp only [Act.put, List.setIfInBounds_toArray, List.set_cons_zero, List.set_cons_succ, i64_w, i32_w]
            rfl
          refine pure_ (i := 23) (N := some 80) (v := undef) (a' := ?_) #[true, true, true, true, true, true, true, true, true, true, true, true, true, true, true, true, true, true, true, true, true, true, true, true, false, false, false] rfl rfl (any_of HT_.out (by kernel_rfl)) (fun _ _ _ h => h) (Or.inr ⟨by rfl, rfl⟩) ?_ ?_
          rotate_left
          · simp only [Act.put, List.setIfInBounds_toArray, List.set_cons_zero, List.set_cons_succ, i64_w, i32_w]
            rfl
          refine pure_ (i := 24) (N := some 81) (v := undef) (a' := ?_) #[true, true, true, true, true, true, true, true, true, true, true, true, true, true, true, true, true, true, true, true, true, true, true, true, true, false, false] rfl rfl (any_of HT_.out (by kernel_rfl)) (fun _ _ _ h => h) (Or.inr ⟨by rfl, rfl⟩) ?_ ?_
          rotate_left
          · simp only [Act.put, List.setIfInBounds_toArray, List.set_cons_zero, List.set_cons_succ, i64_w, i32_w]
            rfl
          refine pure_ (i := 25) (N := some 82) (v := ?_) (a' := ?_) #[true, true, true, true, true, true, true, true, true, true, true, true, true, true, true, true, true, true, true, true, true, true, true, true, true, true, false] rfl rfl (any_of HT_.out (by kernel_rfl)) (fun _ _ _ h => h) (Or.inl ⟨by rfl, ?_⟩) ?_ ?_
          rotate_left
          · intro w'
            go_simp
            with_reducible rfl
          rotate_left
          · simp only [Act.put, List.setIfInBounds_toArray, List.set_cons_zero, List.set_cons_succ, i64_w, i32_w]
            rfl
          refine pure_ (i := 26) (N := some 83) (v := ?_) (a' := ?_) #[true, true, true, true, true, true, true, true, true, true, true, true, true, true, true, true, true, true, true, true, true, true, true, true, true, true, true] rfl rfl (any_of HT_.out (by kernel_rfl)) (fun _ _ _ h => h) (Or.inl ⟨by rfl, ?_⟩) ?_ ?_
          rotate_left
          · intro w'
            go_simp
            with_reducible rfl
          rotate_left
          · simp only [Act.put, List.setIfInBounds_toArray, List.set_cons_zero, List.set_cons_succ, i64_w, i32_w]
            rfl
          refine done_ (done_of HT_.out (by kernel_rfl)) ?_
          go_wp2
          go_meet
          case rel => exact ⟨rfl, HZ⟩
    · rcases d2 with ⟨rfl, hw2, hg2⟩ | rfl
      · clear hc_b1_0 hf_b1_0 hc_b1_1 hf_b1_1 hc_b1_2 hf_b1_2 hc_b1_3 hf_b1_3
        clear BK_b1
        have XW2 := Aside0.mk hw2
        clear hw2 hg2
        refine start_ (n := 27) (S := fun w' => w'.cell? ⟨gm, 0, none⟩ = some (.int .u32 g) ∧ w'.cell? ⟨gm, 1, none⟩ = some (.bool ex) ∧ w'.cell? ⟨gm, 2, none⟩ = some (.int .i64 lf) ∧ w'.cell? ⟨gm, 3, none⟩ = some (.slice A_x sr.length c_x) ∧ w'.cell? ⟨b2, 0, none⟩ = some (.int .u32 g2) ∧ w'.cell? ⟨b2, 1, none⟩ = some (.bool e2) ∧ w'.cell? ⟨b2, 2, none⟩ = some (.int .i64 l2) ∧ w'.cell? ⟨b2, 3, none⟩ = some (.slice A_r2 s2.length c_r2)) (ds := []) #[false, false, false, false, false, false, false, false, false, false, false, false, false, false, false, false, false, false, false, false, false, false, false, false, false, false, false] (by kernel_rfl) rfl rfl ⟨hc_gm_0, hc_gm_1, hc_gm_2, hc_gm_3, hc_b2_0, hc_b2_1, hc_b2_2, hc_b2_3⟩ (fun hHeld => ?_); refine with_tabW ma_t ma_b (fun HT_ HW_ => ?_)
        have hB : Below w15_.heap.size w15_ w15_.drew := below_drew (Below.refl _ _)
        generalize w15_.drew = w16_ at hB hHeld ⊢
        replace HB := mvH HB hB
        replace HZ := mvH HZ hB
        clear hc_gm_0 hf_gm_0 hc_gm_1 hf_gm_1 hc_gm_2 hf_gm_2 hc_gm_3 hf_gm_3
        replace BK_gm := mvB BK_gm hB
        have hc_gm_0 : w16_.cell? ⟨gm, 0, none⟩ = some (.int .u32 g) := (blk_cell BK_gm.out 0).trans rfl
        have hf_gm_0 := blk_frozen BK_gm.out 0
        have hc_gm_1 : w16_.cell? ⟨gm, 1, none⟩ = some (.bool ex) := (blk_cell BK_gm.out 1).trans rfl
        have hf_gm_1 := blk_frozen BK_gm.out 1
        have hc_gm_2 : w16_.cell? ⟨gm, 2, none⟩ = some (.int .i64 lf) := (blk_cell BK_gm.out 2).trans rfl
        have hf_gm_2 := blk_frozen BK_gm.out 2
        have hc_gm_3 : w16_.cell? ⟨gm, 3, none⟩ = some (.slice A_x sr.length c_x) := (blk_cell BK_gm.out 3).trans rfl
        have hf_gm_3 := blk_frozen BK_gm.out 3
        clear hc_b2_0 hf_b2_0 hc_b2_1 hf_b2_1 hc_b2_2 hf_b2_2 hc_b2_3 hf_b2_3
        replace BK_b2 := mvB BK_b2 hB
        have hc_b2_0 : w16_.cell? ⟨b2, 0, none⟩ = some (.int .u32 g2) := (blk_cell BK_b2.out 0).trans rfl
        have hf_b2_0 := blk_frozen BK_b2.out 0
        have hc_b2_1 : w16_.cell? ⟨b2, 1, none⟩ = some (.bool e2) := (blk_cell BK_b2.out 1).trans rfl
        have hf_b2_1 := blk_frozen BK_b2.out 1
        have hc_b2_2 : w16_.cell? ⟨b2, 2, none⟩ = some (.int .i64 l2) := (blk_cell BK_b2.out 2).trans rfl
        have hf_b2_2 := blk_frozen BK_b2.out 2
        have hc_b2_3 : w16_.cell? ⟨b2, 3, none⟩ = some (.slice A_r2 s2.length c_r2) := (blk_cell BK_b2.out 3).trans rfl
        have hf_b2_3 := blk_frozen BK_b2.out 3
        replace HC_r1 := mvC HC_r1 hB
        replace HC_r2 := mvC HC_r2 hB
        clear hB
        refine pure_ (i := 0) (N := some 57) (v := ?_) (a' := ?_) #[true, false, false, false, false, false, false, false, false, false, false, false, false, false, false, false, false, false, false, false, false, false, false, false, false, false, false] rfl rfl (any_of HT_.out (by kernel_rfl)) (fun _ _ _ h => h) (Or.inl ⟨by rfl, ?_⟩) ?_ ?_
        rotate_left
        · intro w'
          go_simp
          with_reducible rfl
        rotate_left
        · simp only [Act.put, List.setIfInBounds_toArray, List.set_cons_zero, List.set_cons_succ, i64_w, i32_w]
          rfl
        refine pure_ (i := 1) (N := some 58) (v := ?_) (a' := ?_) #[true, true, false, false, false, false, false, false, false, false, false, false, false, false, false, false, false, false, false, false, false, false, false, false, false, false, false] rfl rfl (any_of HT_.out (by kernel_rfl)) (fun _ _ _ h => h) (Or.inl ⟨by rfl, ?_⟩) ?_ ?_
        rotate_left
        · intro w'
          go_simp
          with_reducible rfl
        rotate_left
        · simp only [Act.put, List.setIfInBounds_toArray, List.set_cons_zero, List.set_cons_succ, i64_w, i32_w]
          rfl
        refine pure_ (i := 2) (N := some 59) (v := ?_) (a' := ?_) #[true, true, true, false, false, false, false, false, false, false, false, false, false, false, false, false, false, false, false, false, false, false, false, false, false, false, false] rfl rfl (any_of HT_.out (by kernel_rfl)) (fun _ _ _ h => h) (Or.inl ⟨by rfl, ?_⟩) ?_ ?_
        rotate_left
        · intro w'
          go_simp
          with_reducible rfl
        rotate_left
        · simp only [Act.put, List.setIfInBounds_toArray, List.set_cons_zero, List.set_cons_succ, i64_w, i32_w]
          rfl
        refine pure_ (i := 3) (N := some 60) (v := undef) (a' := ?_) #[true, true, true, true, false, false, false, false, false, false, false, false, false, false, false, false, false, false, false, false, false, false, false, false, false, false, false] rfl rfl (any_of HT_.out (by kernel_rfl)) (fun _ _ _ h => h) (Or.inr ⟨by rfl, rfl⟩) ?_ ?_
        rotate_left
        · simp only [Act.put, List.setIfInBounds_toArray, List.set_cons_zero, List.set_cons_succ, i64_w, i32_w]
          rfl
        refine pure_ (i := 4) (N := some 61) (v := undef) (a' := ?_) #[true, true, true, true, true, false, false, false, false, false, false, false, false, false, false, false, false, false, false, false, false, false, false, false, false, false, false] rfl rfl (any_of HT_.out (by kernel_rfl)) (fun _ _ _ h => h) (Or.inr ⟨by rfl, rfl⟩) ?_ ?_
        rotate_left
        · simp only [Act.put, List.setIfInBounds_toArray, List.set_cons_zero, List.set_cons_succ, i64_w, i32_w]
          rfl
        refine pure_ (i := 5) (N := some 62) (v := undef) (a' := ?_) #[true, true, true, true, true, true, false, false, false, false, false, false, false, false, false, false, false, false, false, false, false, false, false, false, false, false, false] rfl rfl (any_of HT_.out (by kernel_rfl)) (fun _ _ _ h => h) (Or.inr ⟨by rfl, rfl⟩) ?_ ?_
        rotate_left
        · simp only [Act.put, List.setIfInBounds_toArray, List.set_cons_zero, List.set_cons_succ, i64_w, i32_w]
          rfl
        refine pure_ (i := 6) (N := some 63) (v := undef) (a' := ?_) #[true, true, true, true, true, true, true, false, false, false, false, false, false, false, false, false, false, false, false, false, false, false, false, false, false, false, false] rfl rfl (any_of HT_.out (by kernel_rfl)) (fun _ _ _ h => h) (Or.inr ⟨by rfl, rfl⟩) ?_ ?_
        rotate_left
        · simp only [Act.put, List.setIfInBounds_toArray, List.set_cons_zero, List.set_cons_succ, i64_w, i32_w]
          rfl
        refine pure_ (i := 7) (N := some 64) (v := undef) (a' := ?_) #[true, true, true, true, true, true, true, true, false, false, false, false, false, false, false, false, false, false, false, false, false, false, false, false, false, false, false] rfl rfl (any_of HT_.out (by kernel_rfl)) (fun _ _ _ h => h) (Or.inr ⟨by rfl, rfl⟩) ?_ ?_
        rotate_left
        · simp only [Act.put, List.setIfInBounds_toArray, List.set_cons_zero, List.set_cons_succ, i64_w, i32_w]
          rfl
        refine pure_ (i := 8) (N := some 65) (v := undef) (a' := ?_) #[true, true, true, true, true, true, true, true, true, false, false, false, false, false, false, false, false, false, false, false, false, false, false, false, false, false, false] rfl rfl (any_of HT_.out (by kernel_rfl)) (fun _ _ _ h => h) (Or.inr ⟨by rfl, rfl⟩) ?_ ?_
        rotate_left
        · simp only [Act.put, List.setIfInBounds_toArray, List.set_cons_zero, List.set_cons_succ, i64_w, i32_w]
          rfl
        refine pure_ (i := 9) (N := some 66) (v := undef) (a' := ?_) #[true, true, true, true, true, true, true, true, true, true, false, false, false, false, false, false, false, false, false, false, false, false, false, false, false, false, false] rfl rfl (any_of HT_.out (by kernel_rfl)) (fun _ _ _ h => h) (Or.inr ⟨by rfl, rfl⟩) ?_ ?_
        rotate_left
        · simp only [Act.put, List.setIfInBounds_toArray, List.set_cons_zero, List.set_cons_succ, i64_w, i32_w]
          rfl
        refine pure_ (i := 10) (N := some 67) (v := undef) (a' := ?_) #[true, true, true, true, true, true, true, true, true, true, true, false, false, false, false, false, false, false, false, false, false, false, false, false, false, false, false] rfl rfl (any_of HT_.out (by kernel_rfl)) (fun _ _ _ h => h) (Or.inr ⟨by rfl, rfl⟩) ?_ ?_
        rotate_left
        · simp only [Act.put, List.setIfInBounds_toArray, List.set_cons_zero, List.set_cons_succ, i64_w, i32_w]
          rfl
        refine pure_ (i := 11) (N := some 68) (v := undef) (a' := ?_) #[true, true, true, true, true, true, true, true, true, true, true, true, false, false, false, false, false, false, false, false, false, false, false, false, false, false, false] rfl rfl (any_of HT_.out (by kernel_rfl)) (fun _ _ _ h => h) (Or.inr ⟨by rfl, rfl⟩) ?_ ?_
        rotate_left
        · simp only [Act.put, List.setIfInBounds_toArray, List.set_cons_zero, List.set_cons_succ, i64_w, i32_w]
          rfl
        refine pure_ (i := 12) (N := some 69) (v := undef) (a' := ?_) #[true, true, true, true, true, true, true, true, true, true, true, true, true, false, false, false, false, false, false, false, false, false, false, false, false, false, false] rfl rfl (any_of HT_.out (by kernel_rfl)) (fun _ _ _ h => h) (Or.inr ⟨by rfl, rfl⟩) ?_ ?_
        rotate_left
        · simp only [Act.put, List.setIfInBounds_toArray, List.set_cons_zero, List.set_cons_succ, i64_w, i32_w]
          rfl
        refine pure_ (i := 13) (N := some 70) (v := ?_) (a' := ?_) #[true, true, true, true, true, true, true, true, true, true, true, true, true, true, false, false, false, false, false, false, false, false, false, false, false, false, false] rfl rfl (any_of HT_.out (by kernel_rfl)) (fun _ _ _ h => h) (Or.inl ⟨by rfl, ?_⟩) ?_ ?_
        rotate_left
        · intro w'
          go_simp
          with_reducible rfl
        rotate_left
        · simp only [Act.put, List.setIfInBounds_toArray, List.set_cons_zero, List.set_cons_succ, i64_w, i32_w]
          rfl
        refine pure_ (i := 14) (N := some 71) (v := ?_) (a' := ?_) #[true, true, true, true, true, true, true, true, true, true, true, true, true, true, true, false, false, false, false, false, false, false, false, false, false, false, false] rfl rfl (any_of HT_.out (by kernel_rfl)) (fun _ _ _ h => h) (Or.inl ⟨by rfl, ?_⟩) ?_ ?_
        rotate_left
        · intro w'
          go_simp
          with_reducible rfl
        rotate_left
        · simp only [Act.put, List.setIfInBounds_toArray, List.set_cons_zero, List.set_cons_succ, i64_w, i32_w]
          rfl
        refine pure_ (i := 15) (N := some 72) (v := ?_) (a' := ?_) #[true, true, true, true, true, true, true, true, true, true, true, true, true, true, true, true, false, false, false, false, false, false, false, false, false, false, false] rfl rfl (any_of HT_.out (by kernel_rfl)) (fun _ _ _ h => h) (Or.inl ⟨by rfl, ?_⟩) ?_ ?_
        rotate_left
        · intro w'
          go_simp
          with_reducible rfl
        rotate_left
        · simp only [Act.put, List.setIfInBounds_toArray, List.set_cons_zero, List.set_cons_succ, i64_w, i32_w]
          rfl
        refine pure_ (i := 16) (N := some 73) (v := ?_) (a' := ?_) #[true, true, true, true, true, true, true, true, true, true, true, true, true, true, true, true, true, false, false, false, false, false, false, false, false, false, false] rfl rfl (any_of HT_.out (by kernel_rfl)) (fun _ _ _ h => h) (Or.inl ⟨by rfl, ?_⟩) ?_ ?_
        rotate_left
        · intro w'
          go_simp
          with_reducible rfl
        rotate_left
        · simp only [Act.put, List.setIfInBounds_toArray, List.set_cons_zero, List.set_cons_succ, i64_w, i32_w]
          rfl
        refine pure_ (i := 17) (N := some 74) (v := ?_) (a' := ?_) #[true, true, true, true, true, true, true, true, true, true, true, true, true, true, true, true, true, true, false, false, false, false, false, false, false, false, false] rfl rfl (any_of HT_.out (by kernel_rfl)) (fun _ _ _ h => h) (Or.inl ⟨by rfl, ?_⟩) ?_ ?_
        rotate_left
        · intro w'
          go_simp
          with_reducible rfl
        rotate_left
        · simp only [Act.put, List.setIfInBounds_toArray, List.set_cons_zero, List.set_cons_succ, i64_w, i32_w]
          rfl
        refine take_ (i := 18) (N := some 75) (v := ?_) (a' := ?_) #[true, true, true, true, true, true, true, true, true, true, true, true, true, true, true, true, true, true, true, false, false, false, false, false, false, false, false] rfl rfl (take_ofW HT_.out HW_.out (by kernel_rfl)) (fun _ _ _ h => h) (Or.inl ⟨by rfl, ?_⟩) hHeld ?_ ?_
        rotate_left
        · rintro w' ⟨s0, s1, s2, s3, s4, s5, s6, s7⟩
          go_simp
          with_reducible rfl
        rotate_left
        · simp only [Act.put, List.setIfInBounds_toArray, List.set_cons_zero, List.set_cons_succ, i64_w, i32_w]
          rfl
        refine pure_ (i := 19) (N := some 76) (v := ?_) (a' := ?_) #[true, true, true, true, true, true, true, true, true, true, true, true, true, true, true, true, true, true, true, true, false, false, false, false, false, false, false] rfl rfl (any_of HT_.out (by kernel_rfl)) (fun _ _ _ h => h) (Or.inl ⟨by rfl, ?_⟩) ?_ ?_
        rotate_left
        · intro w'
          go_simp
          with_reducible rfl
        rotate_left
        · simp only [Act.put, List.setIfInBounds_toArray, List.set_cons_zero, List.set_cons_succ, i64_w, i32_w]
          rfl
        refine take_ (i := 21) (N := some 78) (v := ?_) (a' := ?_) #[true, true, true, true, true, true, true, true, true, true, true, true, true, true, true, true, true, true, true, true, false, true, false, false, false, false, false] rfl rfl (take_ofW HT_.out HW_.out (by kernel_rfl)) (fun _ _ _ h => h) (Or.inl ⟨by rfl, ?_⟩) hHeld ?_ ?_
        rotate_left
        · rintro w' ⟨s0, s1, s2, s3, s4, s5, s6, s7⟩
          go_simp
          with_reducible rfl
        rotate_left
        · simp only [Act.put, List.setIfInBounds_toArray, List.set_cons_zero, List.set_cons_succ, i64_w, i32_w]
          rfl
        refine pure_ (i := 22) (N := some 79) (v := ?_) (a' := ?_) #[true, true, true, true, true, true, true, true, true, true, true, true, true, true, true, true, true, true, true, true, false, true, true, false, false, false, false] rfl rfl (any_of HT_.out (by kernel_rfl)) (fun _ _ _ h => h) (Or.inl ⟨by rfl, ?_⟩) ?_ ?_
        rotate_left
        · intro w'
          go_simp
          with_reducible rfl
        rotate_left
        · simp only [Act.put, List.setIfInBounds_toArray, List.set_cons_zero, List.set_cons_succ, i64_w, i32_w]
          rfl
        refine one_ (i := 20) (N := some 77) #[true, true, true, true, true, true, true, true, true, true, true, true, true, true, true, true, true, true, true, true, true, true, true, false, false, false, false] rfl rfl (one_of HT_.out (by kernel_rfl)) (by decide) (fun K hK => ?_)
        refine goes_ Try.func19 (by kernel_rfl) rfl #[.agg #[.int .u32 g2, .bool e2, .int .i64 l2, .slice A_r2 s2.length c_r2], .int .u32 a] (by rfl) rfl rfl (by (try simp only [List.map_toArray, List.map_cons, List.map_nil]); first | done | rfl | (simp only [List.length_drop, List.length_take]; rfl)) ?_
        with_reducible refine (wants_flat Xhm2.out XW2.out _ _ _ HC_r2.out HK_r2.out).mono ?_
        rintro e_ w17_ ⟨rfl, hB⟩
        refine ⟨_, rfl, ?_⟩
        replace HB := mvH HB hB
        replace HZ := mvH HZ hB
        clear hc_gm_0 hf_gm_0 hc_gm_1 hf_gm_1 hc_gm_2 hf_gm_2 hc_gm_3 hf_gm_3
        replace BK_gm := mvB BK_gm hB
        have hc_gm_0 : w17_.cell? ⟨gm, 0, none⟩ = some (.int .u32 g) := (blk_cell BK_gm.out 0).trans rfl
        have hf_gm_0 := blk_frozen BK_gm.out 0
        have hc_gm_1 : w17_.cell? ⟨gm, 1, none⟩ = some (.bool ex) := (blk_cell BK_gm.out 1).trans rfl
        have hf_gm_1 := blk_frozen BK_gm.out 1
        have hc_gm_2 : w17_.cell? ⟨gm, 2, none⟩ = some (.int .i64 lf) := (blk_cell BK_gm.out 2).trans rfl
        have hf_gm_2 := blk_frozen BK_gm.out 2
        have hc_gm_3 : w17_.cell? ⟨gm, 3, none⟩ = some (.slice A_x sr.length c_x) := (blk_cell BK_gm.out 3).trans rfl
        have hf_gm_3 := blk_frozen BK_gm.out 3
        clear hc_b2_0 hf_b2_0 hc_b2_1 hf_b2_1 hc_b2_2 hf_b2_2 hc_b2_3 hf_b2_3
        replace BK_b2 := mvB BK_b2 hB
        have hc_b2_0 : w17_.cell? ⟨b2, 0, none⟩ = some (.int .u32 g2) := (blk_cell BK_b2.out 0).trans rfl
        have hf_b2_0 := blk_frozen BK_b2.out 0
        have hc_b2_1 : w17_.cell? ⟨b2, 1, none⟩ = some (.bool e2) := (blk_cell BK_b2.out 1).trans rfl
        have hf_b2_1 := blk_frozen BK_b2.out 1
        have hc_b2_2 : w17_.cell? ⟨b2, 2, none⟩ = some (.int .i64 l2) := (blk_cell BK_b2.out 2).trans rfl
        have hf_b2_2 := blk_frozen BK_b2.out 2
        have hc_b2_3 : w17_.cell? ⟨b2, 3, none⟩ = some (.slice A_r2 s2.length c_r2) := (blk_cell BK_b2.out 3).trans rfl
        have hf_b2_3 := blk_frozen BK_b2.out 3
        replace HC_r1 := mvC HC_r1 hB
        replace HC_r2 := mvC HC_r2 hB
        clear hB
        refine hK.out _ _ ⟨hc_gm_0, hc_gm_1, hc_gm_2, hc_gm_3, hc_b2_0, hc_b2_1, hc_b2_2, hc_b2_3⟩ (fun hHeld => ?_)
        clear hK K
        refine norm_ (a' := ?_) ?_ ?_
        rotate_left
        · show Act.put _ (some 77) _ = _
          simp only [Act.put, List.setIfInBounds_toArray, List.set_cons_zero, List.set_cons_succ, i64_w, i32_w]
          rfl
        refine one_ (i := 23) (N := some 80) #[true, true, true, true, true, true, true, true, true, true, true, true, true, true, true, true, true, true, true, true, true, true, true, true, false, false, false] rfl rfl (one_of HT_.out (by kernel_rfl)) (by decide) (fun K hK => ?_)
        refine goes_ Try.func19 (by kernel_rfl) rfl #[.agg #[.int .u32 g, .bool ex, .int .i64 lf, .slice A_x sr.length c_x], .int .u32 a] (by rfl) rfl rfl (by (try simp only [List.map_toArray, List.map_cons, List.map_nil]); first | done | rfl | (simp only [List.length_drop, List.length_take]; rfl)) ?_
        with_reducible refine (wants_flat Xhx.out Xhbm.out _ _ _ (Kd.C_below HC_x.out HB.out) HK_x.out).mono ?_
        rintro e_ w18_ ⟨rfl, hB⟩
        refine ⟨_, rfl, ?_⟩
        replace HB := mvH HB hB
        replace HZ := mvH HZ hB
        clear hc_gm_0 hf_gm_0 hc_gm_1 hf_gm_1 hc_gm_2 hf_gm_2 hc_gm_3 hf_gm_3
        replace BK_gm := mvB BK_gm hB
        have hc_gm_0 : w18_.cell? ⟨gm, 0, none⟩ = some (.int .u32 g) := (blk_cell BK_gm.out 0).trans rfl
        have hf_gm_0 := blk_frozen BK_gm.out 0
        have hc_gm_1 : w18_.cell? ⟨gm, 1, none⟩ = some (.bool ex) := (blk_cell BK_gm.out 1).trans rfl
        have hf_gm_1 := blk_frozen BK_gm.out 1
        have hc_gm_2 : w18_.cell? ⟨gm, 2, none⟩ = some (.int .i64 lf) := (blk_cell BK_gm.out 2).trans rfl
        have hf_gm_2 := blk_frozen BK_gm.out 2
        have hc_gm_3 : w18_.cell? ⟨gm, 3, none⟩ = some (.slice A_x sr.length c_x) := (blk_cell BK_gm.out 3).trans rfl
        have hf_gm_3 := blk_frozen BK_gm.out 3
        clear hc_b2_0 hf_b2_0 hc_b2_1 hf_b2_1 hc_b2_2 hf_b2_2 hc_b2_3 hf_b2_3
        replace BK_b2 := mvB BK_b2 hB
        have hc_b2_0 : w18_.cell? ⟨b2, 0, none⟩ = some (.int .u32 g2) := (blk_cell BK_b2.out 0).trans rfl
        have hf_b2_0 := blk_frozen BK_b2.out 0
        have hc_b2_1 : w18_.cell? ⟨b2, 1, none⟩ = some (.bool e2) := (blk_cell BK_b2.out 1).trans rfl
        have hf_b2_1 := blk_frozen BK_b2.out 1
        have hc_b2_2 : w18_.cell? ⟨b2, 2, none⟩ = some (.int .i64 l2) := (blk_cell BK_b2.out 2).trans rfl
        have hf_b2_2 := blk_frozen BK_b2.out 2
        have hc_b2_3 : w18_.cell? ⟨b2, 3, none⟩ = some (.slice A_r2 s2.length c_r2) := (blk_cell BK_b2.out 3).trans rfl
        have hf_b2_3 := blk_frozen BK_b2.out 3
        replace HC_r1 := mvC HC_r1 hB
        replace HC_r2 := mvC HC_r2 hB
        clear hB
        refine hK.out _ _ ⟨hc_gm_0, hc_gm_1, hc_gm_2, hc_gm_3, hc_b2_0, hc_b2_1, hc_b2_2, hc_b2_3⟩ (fun hHeld => ?_)
        clear hK K
        refine norm_ (a' := ?_) ?_ ?_
        rotate_left
        · show Act.put _ (some 80) _ = _
          simp only [Act.put, List.setIfInBounds_toArray, List.set_cons_zero, List.set_cons_succ, i64_w, i32_w]
          rfl
        refine pure_ (i := 24) (N := some 81) (v := ?_) (a' := ?_) #[true, true, true, true, true, true, true, true, true, true, true, true, true, true, true, true, true, true, true, true, true, true, true, true, true, false, false] rfl rfl (any_of HT_.out (by kernel_rfl)) (fun _ _ _ h => h) (Or.inl ⟨by rfl, ?_⟩) ?_ ?_
        rotate_left
        · intro w'
          go_simp
          with_reducible rfl
        rotate_left
        · simp only [Act.put, List.setIfInBounds_toArray, List.set_cons_zero, List.set_cons_succ, i64_w, i32_w]
          rfl
        refine pure_ (i := 25) (N := some 82) (v := ?_) (a' := ?_) #[true, true, true, true, true, true, true, true, true, true, true, true, true, true, true, true, true, true, true, true, true, true, true, true, true, true, false] rfl rfl (any_of HT_.out (by kernel_rfl)) (fun _ _ _ h => h) (Or.inl ⟨by rfl, ?_⟩) ?_ ?_
        rotate_left
        · intro w'
          go_simp
          with_reducible rfl
        rotate_left
        · simp only [Act.put, List.setIfInBounds_toArray, List.set_cons_zero, List.set_cons_succ, i64_w, i32_w]
          rfl
        refine pure_ (i := 26) (N := some 83) (v := ?_) (a' := ?_) #[true, true, true, true, true, true, true, true, true, true, true, true, true, true, true, true, true, true, true, true, true, true, true, true, true, true, true] rfl rfl (any_of HT_.out (by kernel_rfl)) (fun _ _ _ h => h) (Or.inl ⟨by rfl, ?_⟩) ?_ ?_
        rotate_left
        · intro w'
          go_simp
          with_reducible rfl
        rotate_left
        · simp only [Act.put, List.setIfInBounds_toArray, List.set_cons_zero, List.set_cons_succ, i64_w, i32_w]
          rfl
        refine done_ (done_of HT_.out (by kernel_rfl)) ?_
        go_wp2
        go_meet
        case rel => exact ⟨rfl, HZ⟩
      · clear hc_b1_0 hf_b1_0 hc_b1_1 hf_b1_1 hc_b1_2 hf_b1_2 hc_b1_3 hf_b1_3
        clear BK_b1
        clear hc_b2_0 hf_b2_0 hc_b2_1 hf_b2_1 hc_b2_2 hf_b2_2 hc_b2_3 hf_b2_3
        clear BK_b2
        clear hc_gm_0 hf_gm_0 hc_gm_1 hf_gm_1 hc_gm_2 hf_gm_2 hc_gm_3 hf_gm_3
        clear BK_gm
        refine start_ (n := 27) (S := fun w' => True) (ds := []) #[false, false, false, false, false, false, false, false, false, false, false, false, false, false, false, false, false, false, false, false, false, false, false, false, false, false, false] (by kernel_rfl) rfl rfl trivial (fun hHeld => ?_); refine with_tabW ma_t ma_b (fun HT_ HW_ => ?_)
        have hB : Below w15_.heap.size w15_ w15_.drew := below_drew (Below.refl _ _)
        generalize w15_.drew = w16_ at hB hHeld ⊢
        replace HB := mvH HB hB
        replace HZ := mvH HZ hB
        replace HC_r1 := mvC HC_r1 hB
        replace HC_r2 := mvC HC_r2 hB
        clear hB
        refine pure_ (i := 0) (N := some 57) (v := ?_) (a' := ?_) #[true, false, false, false, false, false, false, false, false, false, false, false, false, false, false, false, false, false, false, false, false, false, false, false, false, false, false] rfl rfl (any_of HT_.out (by kernel_rfl)) (fun _ _ _ h => h) (Or.inl ⟨by rfl, ?_⟩) ?_ ?_
        rotate_left
        · intro w'
          go_simp
          with_reducible rfl
        rotate_left
        · simp only [Act.put, List.setIfInBounds_toArray, List.set_cons_zero, List.set_cons_succ, i64_w, i32_w]
          rfl
        refine pure_ (i := 1) (N := some 58) (v := ?_) (a' := ?_) #[true, true, false, false, false, false, false, false, false, false, false, false, false, false, false, false, false, false, false, false, false, false, false, false, false, false, false] rfl rfl (any_of HT_.out (by kernel_rfl)) (fun _ _ _ h => h) (Or.inl ⟨by rfl, ?_⟩) ?_ ?_
        rotate_left
        · intro w'
          go_simp
          with_reducible rfl
        rotate_left
        · simp only [Act.put, List.setIfInBounds_toArray, List.set_cons_zero, List.set_cons_succ, i64_w, i32_w]
          rfl
        refine pure_ (i := 2) (N := some 59) (v := ?_) (a' := ?_) #[true, true, true, false, false, false, false, false, false, false, false, false, false, false, false, false, false, false, false, false, false, false, false, false, false, false, false] rfl rfl (any_of HT_.out (by kernel_rfl)) (fun _ _ _ h => h) (Or.inl ⟨by rfl, ?_⟩) ?_ ?_
        rotate_left
        · intro w'
          go_simp
          with_reducible rfl
        rotate_left
        · simp only [Act.put, List.setIfInBounds_toArray, List.set_cons_zero, List.set_cons_succ, i64_w, i32_w]
          rfl
        refine pure_ (i := 3) (N := some 60) (v := undef) (a' := ?_) #[true, true, true, true, false, false, false, false, false, false, false, false, false, false, false, false, false, false, false, false, false, false, false, false, false, false, false] rfl rfl (any_of HT_.out (by kernel_rfl)) (fun _ _ _ h => h) (Or.inr ⟨by rfl, rfl⟩) ?_ ?_
        rotate_left
        · simp only [Act.put, List.setIfInBounds_toArray, List.set_cons_zero, List.set_cons_succ, i64_w, i32_w]
          rfl
        refine pure_ (i := 4) (N := some 61) (v := undef) (a' := ?_) #[true, true, true, true, true, false, false, false, false, false, false, false, false, false, false, false, false, false, false, false, false, false, false, false, false, false, false] rfl rfl (any_of HT_.out (by kernel_rfl)) (fun _ _ _ h => h) (Or.inr ⟨by rfl, rfl⟩) ?_ ?_
        rotate_left
        · simp only [Act.put, List.setIfInBounds_toArray, List.set_cons_zero, List.set_cons_succ, i64_w, i32_w]
          rfl
        refine pure_ (i := 5) (N := some 62) (v := undef) (a' := ?_) #[true, true, true, true, true, true, false, false, false, false, false, false, false, false, false, false, false, false, false, false, false, false, false, false, false, false, false] rfl rfl (any_of HT_.out (by kernel_rfl)) (fun _ _ _ h => h) (Or.inr ⟨by rfl, rfl⟩) ?_ ?_
        rotate_left
        · simp only [Act.put, List.setIfInBounds_toArray, List.set_cons_zero, List.set_cons_succ, i64_w, i32_w]
          rfl
        refine pure_ (i := 6) (N := some 63) (v := undef) (a' := ?_) #[true, true, true, true, true, true, true, false, false, false, false, false, false, false, false, false, false, false, false, false, false, false, false, false, false, false, false] rfl rfl (any_of HT_.out (by kernel_rfl)) (fun _ _ _ h => h) (Or.inr ⟨by rfl, rfl⟩) ?_ ?_
        rotate_left
        · simp only [Act.put, List.setIfInBounds_toArray, List.set_cons_zero, List.set_cons_succ, i64_w, i32_w]
          rfl
        refine pure_ (i := 7) (N := some 64) (v := undef) (a' := ?_) #[true, true, true, true, true, true, true, true, false, false, false, false, false, false, false, false, false, false, false, false, false, false, false, false, false, false, false] rfl rfl (any_of HT_.out (by kernel_rfl)) (fun _ _ _ h => h) (Or.inr ⟨by rfl, rfl⟩) ?_ ?_
        rotate_left
        · simp only [Act.put, List.setIfInBounds_toArray, List.set_cons_zero, List.set_cons_succ, i64_w, i32_w]
          rfl
        refine pure_ (i := 8) (N := some 65) (v := undef) (a' := ?_) #[true, true, true, true, true, true, true, true, true, false, false, false, false, false, false, false, false, false, false, false, false, false, false, false, false, false, false] rfl rfl (any_of HT_.out (by kernel_rfl)) (fun _ _ _ h => h) (Or.inr ⟨by rfl, rfl⟩) ?_ ?_
        rotate_left
        · simp only [Act.put, List.setIfInBounds_toArray, List.set_cons_zero, List.set_cons_succ, i64_w, i32_w]
          rfl
        refine pure_ (i := 9) (N := some 66) (v := undef) (a' := ?_) #[true, true, true, true, true, true, true, true, true, true, false, false, false, false, false, false, false, false, false, false, false, false, false, false, false, false, false] rfl rfl (any_of HT_.out (by kernel_rfl)) (fun _ _ _ h => h) (Or.inr ⟨by rfl, rfl⟩) ?_ ?_
        rotate_left
        · simp only [Act.put, List.setIfInBounds_toArray, List.set_cons_zero, List.set_cons_succ, i64_w, i32_w]
          rfl
        refine pure_ (i := 10) (N := some 67) (v := undef) (a' := ?_) #[true, true, true, true, true, true, true, true, true, true, true, false, false, false, false, false, false, false, false, false, false, false, false, false, false, false, false] rfl rfl (any_of HT_.out (by kernel_rfl)) (fun _ _ _ h => h) (Or.inr ⟨by rfl, rfl⟩) ?_ ?_
        rotate_left
        · simp only [Act.put, List.setIfInBounds_toArray, List.set_cons_zero, List.set_cons_succ, i64_w, i32_w]
          rfl
        refine pure_ (i := 11) (N := some 68) (v := undef) (a' := ?_) #[true, true, true, true, true, true, true, true, true, true, true, true, false, false, false, false, false, false, false, false, false, false, false, false, false, false, false] rfl rfl (any_of HT_.out (by kernel_rfl)) (fun _ _ _ h => h) (Or.inr ⟨by rfl, rfl⟩) ?_ ?_
        rotate_left
        · simp only [Act.put, List.setIfInBounds_toArray, List.set_cons_zero, List.set_cons_succ, i64_w, i32_w]
          rfl
        refine pure_ (i := 12) (N := some 69) (v := undef) (a' := ?_) #[true, true, true, true, true, true, true, true, true, true, true, true, true, false, false, false, false, false, false, false, false, false, false, false, false, false, false] rfl rfl (any_of HT_.out (by kernel_rfl)) (fun _ _ _ h => h) (Or.inr ⟨by rfl, rfl⟩) ?_ ?_
        rotate_left
        · simp only [Act.put, List.setIfInBounds_toArray, List.set_cons_zero, List.set_cons_succ, i64_w, i32_w]
          rfl
        refine pure_ (i := 13) (N := some 70) (v := ?_) (a' := ?_) #[true, true, true, true, true, true, true, true, true, true, true, true, true, true, false, false, false, false, false, false, false, false, false, false, false, false, false] rfl rfl (any_of HT_.out (by kernel_rfl)) (fun _ _ _ h => h) (Or.inl ⟨by rfl, ?_⟩) ?_ ?_
        rotate_left
        · intro w'
          go_simp
          with_reducible rfl
        rotate_left
        · simp only [Act.put, List.setIfInBounds_toArray, List.set_cons_zero, List.set_cons_succ, i64_w, i32_w]
          rfl
        refine pure_ (i := 14) (N := some 71) (v := ?_) (a' := ?_) #[true, true, true, true, true, true, true, true, true, true, true, true, true, true, true, false, false, false, false, false, false, false, false, false, false, false, false] rfl rfl (any_of HT_.out (by kernel_rfl)) (fun _ _ _ h => h) (Or.inl ⟨by rfl, ?_⟩) ?_ ?_
        rotate_left
        · intro w'
          go_simp
          with_reducible rfl
        rotate_left
        · simp only [Act.put, List.setIfInBounds_toArray, List.set_cons_zero, List.set_cons_succ, i64_w, i32_w]
          rfl
        refine pure_ (i := 15) (N := some 72) (v := ?_) (a' := ?_) #[true, true, true, true, true, true, true, true, true, true, true, true, true, true, true, true, false, false, false, false, false, false, false, false, false, false, false] rfl rfl (any_of HT_.out (by kernel_rfl)) (fun _ _ _ h => h) (Or.inl ⟨by rfl, ?_⟩) ?_ ?_
        rotate_left
        · intro w'
          go_simp
          with_reducible rfl
        rotate_left
        · simp only [Act.put, List.setIfInBounds_toArray, List.set_cons_zero, List.set_cons_succ, i64_w, i32_w]
          rfl
        refine pure_ (i := 16) (N := some 73) (v := ?_) (a' := ?_) #[true, true, true, true, true, true, true, true, true, true, true, true, true, true, true, true, true, false, false, false, false, false, false, false, false, false, false] rfl rfl (any_of HT_.out (by kernel_rfl)) (fun _ _ _ h => h) (Or.inl ⟨by rfl, ?_⟩) ?_ ?_
        rotate_left
        · intro w'
          go_simp
          with_reducible rfl
        rotate_left
        · simp only [Act.put, List.setIfInBounds_toArray, List.set_cons_zero, List.set_cons_succ, i64_w, i32_w]
          rfl
        refine pure_ (i := 17) (N := some 74) (v := ?_) (a' := ?_) #[true, true, true, true, true, true, true, true, true, true, true, true, true, true, true, true, true, true, false, false, false, false, false, false, false, false, false] rfl rfl (any_of HT_.out (by kernel_rfl)) (fun _ _ _ h => h) (Or.inl ⟨by rfl, ?_⟩) ?_ ?_
        rotate_left
        · intro w'
          go_simp
          with_reducible rfl
        rotate_left
        · simp only [Act.put, List.setIfInBounds_toArray, List.set_cons_zero, List.set_cons_succ, i64_w, i32_w]
          rfl
        refine pure_ (i := 18) (N := some 75) (v := undef) (a' := ?_) #[true, true, true, true, true, true, true, true, true, true, true, true, true, true, true, true, true, true, true, false, false, false, false, false, false, false, false] rfl rfl (any_of HT_.out (by kernel_rfl)) (fun _ _ _ h => h) (Or.inr ⟨by rfl, rfl⟩) ?_ ?_
        rotate_left
        · simp only [Act.put, List.setIfInBounds_toArray, List.set_cons_zero, List.set_cons_succ, i64_w, i32_w]
          rfl
        refine pure_ (i := 19) (N := some 76) (v := undef) (a' := ?_) #[true, true, true, true, true, true, true, true, true, true, true, true, true, true, true, true, true, true, true, true, false, false, false, false, false, false, false] rfl rfl (any_of HT_.out (by kernel_rfl)) (fun _ _ _ h => h) (Or.inr ⟨by rfl, rfl⟩) ?_ ?_
        rotate_left
        · simp only [Act.put, List.setIfInBounds_toArray, List.set_cons_zero, List.set_cons_succ, i64_w, i32_w]
          rfl
        refine pure_ (i := 20) (N := some 77) (v := undef) (a' := ?_) #[true, true, true, true, true, true, true, true, true, true, true, true, true, true, true, true, true, true, true, true, true, false, false, false, false, false, false] rfl rfl (any_of HT_.out (by kernel_rfl)) (fun _ _ _ h => h) (Or.inr ⟨by rfl, rfl⟩) ?_ ?_
        rotate_left
        · simp only [Act.put, List.setIfInBounds_toArray, List.set_cons_zero, List.set_cons_succ, i64_w, i32_w]
          rfl
        refine pure_ (i := 21) (N := some 78) (v := undef) (a' := ?_) #[true, true, true, true, true, true, true, true, true, true, true, true, true, true, true, true, true, true, true, true, true, true, false, false, false, false, false] rfl rfl (any_of HT_.out (by kernel_rfl)) (fun _ _ _ h => h) (Or.inr ⟨by rfl, rfl⟩) ?_ ?_
        rotate_left
        · simp only [Act.put, List.setIfInBounds_toArray, List.set_cons_zero, List.set_cons_succ, i64_w, i32_w]
          rfl
        refine pure_ (i := 22) (N := some 79) (v := undef) (a' := ?_) #[true, true, true, true, true, true, true, true, true, true, true, true, true, true, true, true, true, true, true, true, true, true, true, false, false, false, false] rfl rfl (any_of HT_.out (by kernel_rfl)) (fun _ _ _ h => h) (Or.inr ⟨by rfl, rfl⟩) ?_ ?_
        rotate_left
        · simp only [Act.put, List.setIfInBounds_toArray, List.set_cons_zero, List.set_cons_succ, i64_w, i32_w]
          rfl
        refine pure_ (i := 23) (N := some 80) (v := undef) (a' := ?_) #[true, true, true, true, true, true, true, true, true, true, true, true, true, true, true, true, true, true, true, true, true, true, true, true, false, false, false] rfl rfl (any_of HT_.out (by kernel_rfl)) (fun _ _ _ h => h) (Or.inr ⟨by rfl, rfl⟩) ?_ ?_
        rotate_left
        · simp only [Act.put, List.setIfInBounds_toArray, List.set_cons_zero, List.set_cons_succ, i64_w, i32_w]
          rfl
        refine pure_ (i := 24) (N := some 81) (v := undef) (a' := ?_) #[true, true, true, true, true, true, true, true, true, true, true, true, true, true, true, true, true, true, true, true, true, true, true, true, true, false, false] rfl rfl (any_of HT_.out (by kernel_rfl)) (fun _ _ _ h => h) (Or.inr ⟨by rfl, rfl⟩) ?_ ?_
        rotate_left
        · simp only [Act.put, List.setIfInBounds_toArray, List.set_cons_zero, List.set_cons_succ, i64_w, i32_w]
          rfl
        refine pure_ (i := 25) (N := some 82) (v := ?_) (a' := ?_) #[true, true, true, true, true, true, true, true, true, true, true, true, true, true, true, true, true, true, true, true, true, true, true, true, true, true, false] rfl rfl (any_of HT_.out (by kernel_rfl)) (fun _ _ _ h => h) (Or.inl ⟨by rfl, ?_⟩) ?_ ?_
        rotate_left
        · intro w'
          go_simp
          with_reducible rfl
        rotate_left
        · simp only [Act.put, List.setIfInBounds_toArray, List.set_cons_zero, List.set_cons_succ, i64_w, i32_w]
          rfl
        refine pure_ (i := 26) (N := some 83) (v := ?_) (a' := ?_) #[true, true, true, true, true, true, true, true, true, true, true, true, true, true, true, true, true, true, true, true, true, true, true, true, true, true, true] rfl rfl (any_of HT_.out (by kernel_rfl)) (fun _ _ _ h => h) (Or.inl ⟨by rfl, ?_⟩) ?_ ?_
        rotate_left
        · intro w'
          go_simp
          with_reducible rfl
        rotate_left
        · simp only [Act.put, List.setIfInBounds_toArray, List.set_cons_zero, List.set_cons_succ, i64_w, i32_w]
          rfl
        refine done_ (done_of HT_.out (by kernel_rfl)) ?_
        go_wp2
        go_meet
        case rel => exact ⟨rfl, HZ⟩
  case rest =>
    clear Xd1
    clear hc_b1_0 hf_b1_0 hc_b1_1 hf_b1_1 hc_b1_2 hf_b1_2 hc_b1_3 hf_b1_3
    clear BK_b1
    clear hc_gm_0 hf_gm_0 hc_gm_1 hf_gm_1 hc_gm_2 hf_gm_2 hc_gm_3 hf_gm_3
    clear BK_gm
    clear HC_r1 HK_r1
    obtain ⟨rfl, HZ⟩ := hcut
    have hB := HZ.out
    replace HB := mvH HB hB
    clear hc_gt_0 hf_gt_0 hc_gt_1 hf_gt_1
    replace BK_gt := mvB BK_gt hB
    have hc_gt_0 : wc.cell? ⟨gt, 0, none⟩ = some (.int .i64 t.f0) := (blk_cell BK_gt.out 0).trans rfl
    have hf_gt_0 := blk_frozen BK_gt.out 0
    have hc_gt_1 : wc.cell? ⟨gt, 1, none⟩ = some (.int .i64 t.f1) := (blk_cell BK_gt.out 1).trans rfl
    have hf_gt_1 := blk_frozen BK_gt.out 1
    clear hc_b2_0 hf_b2_0 hc_b2_1 hf_b2_1 hc_b2_2 hf_b2_2 hc_b2_3 hf_b2_3
    replace BK_b2 := mvB BK_b2 hB
    have hc_b2_0 : wc.cell? ⟨b2, 0, none⟩ = some (.int .u32 g2) := (blk_cell BK_b2.out 0).trans rfl
    have hf_b2_0 := blk_frozen BK_b2.out 0
    have hc_b2_1 : wc.cell? ⟨b2, 1, none⟩ = some (.bool e2) := (blk_cell BK_b2.out 1).trans rfl
    have hf_b2_1 := blk_frozen BK_b2.out 1
    have hc_b2_2 : wc.cell? ⟨b2, 2, none⟩ = some (.int .i64 l2) := (blk_cell BK_b2.out 2).trans rfl
    have hf_b2_2 := blk_frozen BK_b2.out 2
    have hc_b2_3 : wc.cell? ⟨b2, 3, none⟩ = some (.slice A_r2 s2.length c_r2) := (blk_cell BK_b2.out 3).trans rfl
    have hf_b2_3 := blk_frozen BK_b2.out 3
    replace HC_r2 := mvC HC_r2 hB
    clear hB HZ
    obtain ⟨d2⟩ := Xd2
    rcases d2 with ⟨rfl, _, hg⟩ | rfl
    · cases bi with
      | false =>
        clear hg
        go_wp2
        go_ret
        exact ⟨rfl, HB.out⟩
      | true =>
        have XG := Aside0.mk (hg rfl)
        clear hg
        go_wp2_with (first | (go_at_call 17; (with_reducible refine (tick_flat Xhm2.out Xhl4.out Xhh4.out _ _ _ HC_r2.out HK_r2.out).mono ?_); rintro e_ w16_ ⟨A_r4, c_r4, rfl, hC, hK, hB⟩; replace HB := mvH HB hB; clear hc_gt_0 hf_gt_0 hc_gt_1 hf_gt_1; replace BK_gt := mvB BK_gt hB; have hc_gt_0 : w16_.cell? ⟨gt, 0, none⟩ = some (.int .i64 t.f0) := (blk_cell BK_gt.out 0).trans rfl; have hf_gt_0 := blk_frozen BK_gt.out 0; have hc_gt_1 : w16_.cell? ⟨gt, 1, none⟩ = some (.int .i64 t.f1) := (blk_cell BK_gt.out 1).trans rfl; have hf_gt_1 := blk_frozen BK_gt.out 1; clear hc_b2_0 hf_b2_0 hc_b2_1 hf_b2_1 hc_b2_2 hf_b2_2 hc_b2_3 hf_b2_3; replace BK_b2 := mvB BK_b2 hB; have hc_b2_0 : w16_.cell? ⟨b2, 0, none⟩ = some (.int .u32 g2) := (blk_cell BK_b2.out 0).trans rfl; have hf_b2_0 := blk_frozen BK_b2.out 0; have hc_b2_1 : w16_.cell? ⟨b2, 1, none⟩ = some (.bool e2) := (blk_cell BK_b2.out 1).trans rfl; have hf_b2_1 := blk_frozen BK_b2.out 1; have hc_b2_2 : w16_.cell? ⟨b2, 2, none⟩ = some (.int .i64 l2) := (blk_cell BK_b2.out 2).trans rfl; have hf_b2_2 := blk_frozen BK_b2.out 2; have hc_b2_3 : w16_.cell? ⟨b2, 3, none⟩ = some (.slice A_r2 s2.length c_r2) := (blk_cell BK_b2.out 3).trans rfl; have hf_b2_3 := blk_frozen BK_b2.out 3; replace HC_r2 := mvC HC_r2 hB; have HC_r4 := Aside0.mk hC; have HK_r4 := Aside0.mk hK; clear hC hK hB) | (go_at_call 19; with_reducible refine (wants_flat Xhm4.out XG.out _ _ _ HC_r4.out HK_r4.out).mono ?_; rintro e w17_ ⟨rfl, hB⟩; replace HB := mvH HB hB; clear hc_gt_0 hf_gt_0 hc_gt_1 hf_gt_1; replace BK_gt := mvB BK_gt hB; have hc_gt_0 : w17_.cell? ⟨gt, 0, none⟩ = some (.int .i64 t.f0) := (blk_cell BK_gt.out 0).trans rfl; have hf_gt_0 := blk_frozen BK_gt.out 0; have hc_gt_1 : w17_.cell? ⟨gt, 1, none⟩ = some (.int .i64 t.f1) := (blk_cell BK_gt.out 1).trans rfl; have hf_gt_1 := blk_frozen BK_gt.out 1; clear hc_b2_0 hf_b2_0 hc_b2_1 hf_b2_1 hc_b2_2 hf_b2_2 hc_b2_3 hf_b2_3; replace BK_b2 := mvB BK_b2 hB; have hc_b2_0 : w17_.cell? ⟨b2, 0, none⟩ = some (.int .u32 g2) := (blk_cell BK_b2.out 0).trans rfl; have hf_b2_0 := blk_frozen BK_b2.out 0; have hc_b2_1 : w17_.cell? ⟨b2, 1, none⟩ = some (.bool e2) := (blk_cell BK_b2.out 1).trans rfl; have hf_b2_1 := blk_frozen BK_b2.out 1; have hc_b2_2 : w17_.cell? ⟨b2, 2, none⟩ = some (.int .i64 l2) := (blk_cell BK_b2.out 2).trans rfl; have hf_b2_2 := blk_frozen BK_b2.out 2; have hc_b2_3 : w17_.cell? ⟨b2, 3, none⟩ = some (.slice A_r2 s2.length c_r2) := (blk_cell BK_b2.out 3).trans rfl; have hf_b2_3 := blk_frozen BK_b2.out 3; replace HC_r2 := mvC HC_r2 hB; replace HC_r4 := mvC HC_r4 hB; clear hB))
        go_ret
        exact ⟨rfl, HB.out⟩
    · go_wp2
      go_ret
      exact ⟨rfl, HB.out⟩
theorem membAdds_call {t : S23} {x : S28} {l : List Int} {a : Int} (A_x : Option Addr) (c_x : Nat) (A_l : Option Addr) (c_l : Nat) (w : World) (hr : Kd.C k49 w A_x x.f3.length x.f3) (hc : x.f3.length ≤ c_x) (hs : Kd.C (Kd.int .u32) w A_l l.length l) (hcs : l.length ≤ c_l) :
    Calls Try.prog 7 #[.agg #[.int .i64 t.f0, .int .i64 t.f1, .int .u32 x.f0, .bool x.f1, .int .i64 x.f2, .slice A_x x.f3.length c_x, .slice A_l l.length c_l, .int .u32 a]] w (fun e w' => e = .returned (.bool true) ∧ Below w.heap.size w w') := membAdds_flat A_x c_x A_l c_l w hr hc hs hcs
end Go.Proofs.Ytbllchfgjginoaa
