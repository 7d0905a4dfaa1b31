/-
  MembTurns, walked.
-/
import Derived.Test.YtbllchfgjginoaaMeRf
import Derived.Test.YtbllchfgjginoaaMeV
namespace Go.Proofs.Ytbllchfgjginoaa
open Go.RowKit Go.Lib Go.Proofs.YtbllchfgjginoaaW.PrintWords Go.Proofs.YtbllchfgjginoaaW.PrintLast Go.Proofs.YtbllchfgjginoaaW.PrintMore Go.Proofs.Ytbllchfgjginoaa.PMe
set_option linter.unusedVariables false
set_option linter.unusedSimpArgs false
set_option maxHeartbeats 8000000 in
set_option maxRecDepth 100000 in
theorem membTurns_flat {t : S23} {g lf a : Int} {ex : Bool} {sr : List S49} {l : List Int} (A_x : Option Addr) (c_x : Nat) (A_l : Option Addr) (c_l : Nat) (w : World) (hr : Kd.C k49 w A_x sr.length sr) (hc : sr.length ≤ c_x) (hs : Kd.C (Kd.int .u32) w A_l l.length l) (hcs : l.length ≤ c_l) :
    Calls Try.prog 8 #[.agg #[.int .i64 t.f0, .int .i64 t.f1, .int .u32 g, .bool ex, .int .i64 lf, .slice A_x sr.length c_x, .slice A_l l.length c_l, .int .u32 a]] w (fun e w' => e = .returned (.bool true) ∧ Below w.heap.size w w') := by
  have hu23 := Try.underlying23
  have hu28 := Try.underlying28
  have hu64 := Try.underlying64
  have HB := Aside0.mk (Below.refl w.heap.size w)
  have HC_x := Aside0.mk hr
  have HK_x := Aside0.mk hc
  have HC_l := Aside0.mk hs
  have HK_l := Aside0.mk hcs
  clear hr hc hs hcs
  go_enter Try.func8, Try.ntmps8
  go_upto_region 2 with (first | ((with_reducible refine gate_dst (N := 1) rfl ?_); (try (refine gate_guard (by rfl) ?_; dsimp only)); refine box_event ?hg (N := 1) ?hd (cs := #[.int .i64 t.f0, .int .i64 t.f1, .int .u32 g, .bool ex, .int .i64 lf, .slice A_x sr.length c_x, .slice A_l l.length c_l, .int .u32 a]) (t := 64) ?hr ?_; (case hd => rfl); (case hg => rfl); (case hr => first | (go_simp; done) | (go_simp; rfl)); intro gp hg w1_ hbox hB; replace HB := mvH HB hB; have BK_gp := Aside0.mk hbox; clear hg hbox hB; have hc_gp_0 : w1_.cell? ⟨gp, 0, none⟩ = some (.int .i64 t.f0) := (blk_cell BK_gp.out 0).trans rfl; have hf_gp_0 := blk_frozen BK_gp.out 0; have hc_gp_1 : w1_.cell? ⟨gp, 1, none⟩ = some (.int .i64 t.f1) := (blk_cell BK_gp.out 1).trans rfl; have hf_gp_1 := blk_frozen BK_gp.out 1; have hc_gp_2 : w1_.cell? ⟨gp, 2, none⟩ = some (.int .u32 g) := (blk_cell BK_gp.out 2).trans rfl; have hf_gp_2 := blk_frozen BK_gp.out 2; have hc_gp_3 : w1_.cell? ⟨gp, 3, none⟩ = some (.bool ex) := (blk_cell BK_gp.out 3).trans rfl; have hf_gp_3 := blk_frozen BK_gp.out 3; have hc_gp_4 : w1_.cell? ⟨gp, 4, none⟩ = some (.int .i64 lf) := (blk_cell BK_gp.out 4).trans rfl; have hf_gp_4 := blk_frozen BK_gp.out 4; have hc_gp_5 : w1_.cell? ⟨gp, 5, none⟩ = some (.slice A_x sr.length c_x) := (blk_cell BK_gp.out 5).trans rfl; have hf_gp_5 := blk_frozen BK_gp.out 5; have hc_gp_6 : w1_.cell? ⟨gp, 6, none⟩ = some (.slice A_l l.length c_l) := (blk_cell BK_gp.out 6).trans rfl; have hf_gp_6 := blk_frozen BK_gp.out 6; have hc_gp_7 : w1_.cell? ⟨gp, 7, none⟩ = some (.int .u32 a) := (blk_cell BK_gp.out 7).trans rfl; have hf_gp_7 := blk_frozen BK_gp.out 7) | ((with_reducible refine gate_dst (N := 3) rfl ?_); (try (refine gate_guard (by rfl) ?_; dsimp only)); refine box_event ?hg (N := 3) ?hd (cs := #[.int .i64 0, .int .i64 0]) (t := 23) ?hr ?_; (case hd => rfl); (case hg => rfl); (case hr => first | (go_simp; done) | (go_simp; rfl)); intro gt hg w2_ hbox hB0; have hG := Aside0.mk (show w1_.heap.size ≤ gt from Nat.le_of_eq hg.symm); clear hg; have hBX := Aside0.mk hbox; have hB1 := Aside0.mk hB0; clear hB0; have hc_gt_0 : w2_.cell? ⟨gt, 0, none⟩ = some (.int .i64 0) := (blk_cell hbox 0).trans rfl; have hf_gt_0 := blk_frozen hbox 0; have hc_gt_1 : w2_.cell? ⟨gt, 1, none⟩ = some (.int .i64 0) := (blk_cell hbox 1).trans rfl; have hf_gt_1 := blk_frozen hbox 1; clear hbox))
  have hB : Below w1_.heap.size w1_ ((w2_.setCell ⟨gt, 0, none⟩ (.int .i64 t.f0)).setCell ⟨gt, 1, none⟩ (.int .i64 t.f1)) := (below_set (below_set hB1.out hG.out) hG.out)
  have hBN : ((w2_.setCell ⟨gt, 0, none⟩ (.int .i64 t.f0)).setCell ⟨gt, 1, none⟩ (.int .i64 t.f1)).heap[gt]? = some (.cells #[.int .i64 t.f0, .int .i64 t.f1] 23 (0, 0)) := (blk_put (cs := #[.int .i64 t.f0, .int .i64 0]) (blk_put (cs := #[.int .i64 0, .int .i64 0]) hBX.out 0 (.int .i64 t.f0) rfl) 1 (.int .i64 t.f1) rfl)
  clear hBX hB1
  clear hc_gt_0 hf_gt_0 hc_gt_1 hf_gt_1
  generalize ((w2_.setCell ⟨gt, 0, none⟩ (.int .i64 t.f0)).setCell ⟨gt, 1, none⟩ (.int .i64 t.f1)) = w3_ at hB hBN ⊢
  replace HB := mvH HB hB
  clear hc_gp_0 hf_gp_0 hc_gp_1 hf_gp_1 hc_gp_2 hf_gp_2 hc_gp_3 hf_gp_3 hc_gp_4 hf_gp_4 hc_gp_5 hf_gp_5 hc_gp_6 hf_gp_6 hc_gp_7 hf_gp_7
  replace BK_gp := mvB BK_gp hB
  have hc_gp_0 : w3_.cell? ⟨gp, 0, none⟩ = some (.int .i64 t.f0) := (blk_cell BK_gp.out 0).trans rfl
  have hf_gp_0 := blk_frozen BK_gp.out 0
  have hc_gp_1 : w3_.cell? ⟨gp, 1, none⟩ = some (.int .i64 t.f1) := (blk_cell BK_gp.out 1).trans rfl
  have hf_gp_1 := blk_frozen BK_gp.out 1
  have hc_gp_2 : w3_.cell? ⟨gp, 2, none⟩ = some (.int .u32 g) := (blk_cell BK_gp.out 2).trans rfl
  have hf_gp_2 := blk_frozen BK_gp.out 2
  have hc_gp_3 : w3_.cell? ⟨gp, 3, none⟩ = some (.bool ex) := (blk_cell BK_gp.out 3).trans rfl
  have hf_gp_3 := blk_frozen BK_gp.out 3
  have hc_gp_4 : w3_.cell? ⟨gp, 4, none⟩ = some (.int .i64 lf) := (blk_cell BK_gp.out 4).trans rfl
  have hf_gp_4 := blk_frozen BK_gp.out 4
  have hc_gp_5 : w3_.cell? ⟨gp, 5, none⟩ = some (.slice A_x sr.length c_x) := (blk_cell BK_gp.out 5).trans rfl
  have hf_gp_5 := blk_frozen BK_gp.out 5
  have hc_gp_6 : w3_.cell? ⟨gp, 6, none⟩ = some (.slice A_l l.length c_l) := (blk_cell BK_gp.out 6).trans rfl
  have hf_gp_6 := blk_frozen BK_gp.out 6
  have hc_gp_7 : w3_.cell? ⟨gp, 7, none⟩ = some (.int .u32 a) := (blk_cell BK_gp.out 7).trans rfl
  have hf_gp_7 := blk_frozen BK_gp.out 7
  have BK_gt := Aside0.mk hBN
  clear hG hBN hB
  have hc_gt_0 : w3_.cell? ⟨gt, 0, none⟩ = some (.int .i64 t.f0) := (blk_cell BK_gt.out 0).trans rfl
  have hf_gt_0 := blk_frozen BK_gt.out 0
  have hc_gt_1 : w3_.cell? ⟨gt, 1, none⟩ = some (.int .i64 t.f1) := (blk_cell BK_gt.out 1).trans rfl
  have hf_gt_1 := blk_frozen BK_gt.out 1
  go_upto_region 3 with (first | ((with_reducible refine gate_dst (N := 4) rfl ?_); (try (refine gate_guard (by rfl) ?_; dsimp only)); refine box_event ?hg (N := 4) ?hd (cs := #[.int .u32 0, .bool false, .int .i64 0, .slice none 0 0]) (t := 28) ?hr ?_; (case hd => rfl); (case hg => rfl); (case hr => first | (go_simp; done) | (go_simp; rfl)); intro gm hg w4_ hbox hB0; have hG := Aside0.mk (show w3_.heap.size ≤ gm from Nat.le_of_eq hg.symm); clear hg; have hBX := Aside0.mk hbox; have hB1 := Aside0.mk hB0; clear hB0; have hc_gm_0 : w4_.cell? ⟨gm, 0, none⟩ = some (.int .u32 0) := (blk_cell hbox 0).trans rfl; have hf_gm_0 := blk_frozen hbox 0; have hc_gm_1 : w4_.cell? ⟨gm, 1, none⟩ = some (.bool false) := (blk_cell hbox 1).trans rfl; have hf_gm_1 := blk_frozen hbox 1; have hc_gm_2 : w4_.cell? ⟨gm, 2, none⟩ = some (.int .i64 0) := (blk_cell hbox 2).trans rfl; have hf_gm_2 := blk_frozen hbox 2; have hc_gm_3 : w4_.cell? ⟨gm, 3, none⟩ = some (.slice none 0 0) := (blk_cell hbox 3).trans rfl; have hf_gm_3 := blk_frozen hbox 3; clear hbox))
  have hB : Below w3_.heap.size w3_ ((((w4_.setCell ⟨gm, 0, none⟩ (.int .u32 g)).setCell ⟨gm, 1, none⟩ (.bool ex)).setCell ⟨gm, 2, none⟩ (.int .i64 lf)).setCell ⟨gm, 3, none⟩ (.slice A_x sr.length c_x)) := (below_set (below_set (below_set (below_set hB1.out hG.out) hG.out) hG.out) hG.out)
  have hBN : ((((w4_.setCell ⟨gm, 0, none⟩ (.int .u32 g)).setCell ⟨gm, 1, none⟩ (.bool ex)).setCell ⟨gm, 2, none⟩ (.int .i64 lf)).setCell ⟨gm, 3, none⟩ (.slice A_x sr.length c_x)).heap[gm]? = some (.cells #[.int .u32 g, .bool ex, .int .i64 lf, .slice A_x sr.length c_x] 28 (0, 0)) := (blk_put (cs := #[.int .u32 g, .bool ex, .int .i64 lf, .slice none 0 0]) (blk_put (cs := #[.int .u32 g, .bool ex, .int .i64 0, .slice none 0 0]) (blk_put (cs := #[.int .u32 g, .bool false, .int .i64 0, .slice none 0 0]) (blk_put (cs := #[.int .u32 0, .bool false, .int .i64 0, .slice none 0 0]) hBX.out 0 (.int .u32 g) rfl) 1 (.bool ex) rfl) 2 (.int .i64 lf) rfl) 3 (.slice A_x sr.length c_x) rfl)
  clear hBX hB1
  clear hc_gm_0 hf_gm_0 hc_gm_1 hf_gm_1 hc_gm_2 hf_gm_2 hc_gm_3 hf_gm_3
  generalize ((((w4_.setCell ⟨gm, 0, none⟩ (.int .u32 g)).setCell ⟨gm, 1, none⟩ (.bool ex)).setCell ⟨gm, 2, none⟩ (.int .i64 lf)).setCell ⟨gm, 3, none⟩ (.slice A_x sr.length c_x)) = w5_ at hB hBN ⊢
  replace HB := mvH HB hB
  clear hc_gp_0 hf_gp_0 hc_gp_1 hf_gp_1 hc_gp_2 hf_gp_2 hc_gp_3 hf_gp_3 hc_gp_4 hf_gp_4 hc_gp_5 hf_gp_5 hc_gp_6 hf_gp_6 hc_gp_7 hf_gp_7
  replace BK_gp := mvB BK_gp hB
  have hc_gp_0 : w5_.cell? ⟨gp, 0, none⟩ = some (.int .i64 t.f0) := (blk_cell BK_gp.out 0).trans rfl
  have hf_gp_0 := blk_frozen BK_gp.out 0
  have hc_gp_1 : w5_.cell? ⟨gp, 1, none⟩ = some (.int .i64 t.f1) := (blk_cell BK_gp.out 1).trans rfl
  have hf_gp_1 := blk_frozen BK_gp.out 1
  have hc_gp_2 : w5_.cell? ⟨gp, 2, none⟩ = some (.int .u32 g) := (blk_cell BK_gp.out 2).trans rfl
  have hf_gp_2 := blk_frozen BK_gp.out 2
  have hc_gp_3 : w5_.cell? ⟨gp, 3, none⟩ = some (.bool ex) := (blk_cell BK_gp.out 3).trans rfl
  have hf_gp_3 := blk_frozen BK_gp.out 3
  have hc_gp_4 : w5_.cell? ⟨gp, 4, none⟩ = some (.int .i64 lf) := (blk_cell BK_gp.out 4).trans rfl
  have hf_gp_4 := blk_frozen BK_gp.out 4
  have hc_gp_5 : w5_.cell? ⟨gp, 5, none⟩ = some (.slice A_x sr.length c_x) := (blk_cell BK_gp.out 5).trans rfl
  have hf_gp_5 := blk_frozen BK_gp.out 5
  have hc_gp_6 : w5_.cell? ⟨gp, 6, none⟩ = some (.slice A_l l.length c_l) := (blk_cell BK_gp.out 6).trans rfl
  have hf_gp_6 := blk_frozen BK_gp.out 6
  have hc_gp_7 : w5_.cell? ⟨gp, 7, none⟩ = some (.int .u32 a) := (blk_cell BK_gp.out 7).trans rfl
  have hf_gp_7 := blk_frozen BK_gp.out 7
  clear hc_gt_0 hf_gt_0 hc_gt_1 hf_gt_1
  replace BK_gt := mvB BK_gt hB
  have hc_gt_0 : w5_.cell? ⟨gt, 0, none⟩ = some (.int .i64 t.f0) := (blk_cell BK_gt.out 0).trans rfl
  have hf_gt_0 := blk_frozen BK_gt.out 0
  have hc_gt_1 : w5_.cell? ⟨gt, 1, none⟩ = some (.int .i64 t.f1) := (blk_cell BK_gt.out 1).trans rfl
  have hf_gt_1 := blk_frozen BK_gt.out 1
  have BK_gm := Aside0.mk hBN
  clear hG hBN hB
  have hc_gm_0 : w5_.cell? ⟨gm, 0, none⟩ = some (.int .u32 g) := (blk_cell BK_gm.out 0).trans rfl
  have hf_gm_0 := blk_frozen BK_gm.out 0
  have hc_gm_1 : w5_.cell? ⟨gm, 1, none⟩ = some (.bool ex) := (blk_cell BK_gm.out 1).trans rfl
  have hf_gm_1 := blk_frozen BK_gm.out 1
  have hc_gm_2 : w5_.cell? ⟨gm, 2, none⟩ = some (.int .i64 lf) := (blk_cell BK_gm.out 2).trans rfl
  have hf_gm_2 := blk_frozen BK_gm.out 2
  have hc_gm_3 : w5_.cell? ⟨gm, 3, none⟩ = some (.slice A_x sr.length c_x) := (blk_cell BK_gm.out 3).trans rfl
  have hf_gm_3 := blk_frozen BK_gm.out 3
  go_upto_region 6 with (first | (go_at_call 9; with_reducible refine (shown_w _).mono ?_; rintro e w6_ ⟨rfl, hB⟩; replace HB := mvH HB hB; clear hc_gp_0 hf_gp_0 hc_gp_1 hf_gp_1 hc_gp_2 hf_gp_2 hc_gp_3 hf_gp_3 hc_gp_4 hf_gp_4 hc_gp_5 hf_gp_5 hc_gp_6 hf_gp_6 hc_gp_7 hf_gp_7; replace BK_gp := mvB BK_gp hB; have hc_gp_0 : w6_.cell? ⟨gp, 0, none⟩ = some (.int .i64 t.f0) := (blk_cell BK_gp.out 0).trans rfl; have hf_gp_0 := blk_frozen BK_gp.out 0; have hc_gp_1 : w6_.cell? ⟨gp, 1, none⟩ = some (.int .i64 t.f1) := (blk_cell BK_gp.out 1).trans rfl; have hf_gp_1 := blk_frozen BK_gp.out 1; have hc_gp_2 : w6_.cell? ⟨gp, 2, none⟩ = some (.int .u32 g) := (blk_cell BK_gp.out 2).trans rfl; have hf_gp_2 := blk_frozen BK_gp.out 2; have hc_gp_3 : w6_.cell? ⟨gp, 3, none⟩ = some (.bool ex) := (blk_cell BK_gp.out 3).trans rfl; have hf_gp_3 := blk_frozen BK_gp.out 3; have hc_gp_4 : w6_.cell? ⟨gp, 4, none⟩ = some (.int .i64 lf) := (blk_cell BK_gp.out 4).trans rfl; have hf_gp_4 := blk_frozen BK_gp.out 4; have hc_gp_5 : w6_.cell? ⟨gp, 5, none⟩ = some (.slice A_x sr.length c_x) := (blk_cell BK_gp.out 5).trans rfl; have hf_gp_5 := blk_frozen BK_gp.out 5; have hc_gp_6 : w6_.cell? ⟨gp, 6, none⟩ = some (.slice A_l l.length c_l) := (blk_cell BK_gp.out 6).trans rfl; have hf_gp_6 := blk_frozen BK_gp.out 6; have hc_gp_7 : w6_.cell? ⟨gp, 7, none⟩ = some (.int .u32 a) := (blk_cell BK_gp.out 7).trans rfl; have hf_gp_7 := blk_frozen BK_gp.out 7; clear hc_gt_0 hf_gt_0 hc_gt_1 hf_gt_1; replace BK_gt := mvB BK_gt hB; have hc_gt_0 : w6_.cell? ⟨gt, 0, none⟩ = some (.int .i64 t.f0) := (blk_cell BK_gt.out 0).trans rfl; have hf_gt_0 := blk_frozen BK_gt.out 0; have hc_gt_1 : w6_.cell? ⟨gt, 1, none⟩ = some (.int .i64 t.f1) := (blk_cell BK_gt.out 1).trans rfl; have hf_gt_1 := blk_frozen BK_gt.out 1; clear hc_gm_0 hf_gm_0 hc_gm_1 hf_gm_1 hc_gm_2 hf_gm_2 hc_gm_3 hf_gm_3; replace BK_gm := mvB BK_gm hB; have hc_gm_0 : w6_.cell? ⟨gm, 0, none⟩ = some (.int .u32 g) := (blk_cell BK_gm.out 0).trans rfl; have hf_gm_0 := blk_frozen BK_gm.out 0; have hc_gm_1 : w6_.cell? ⟨gm, 1, none⟩ = some (.bool ex) := (blk_cell BK_gm.out 1).trans rfl; have hf_gm_1 := blk_frozen BK_gm.out 1; have hc_gm_2 : w6_.cell? ⟨gm, 2, none⟩ = some (.int .i64 lf) := (blk_cell BK_gm.out 2).trans rfl; have hf_gm_2 := blk_frozen BK_gm.out 2; have hc_gm_3 : w6_.cell? ⟨gm, 3, none⟩ = some (.slice A_x sr.length c_x) := (blk_cell BK_gm.out 3).trans rfl; have hf_gm_3 := blk_frozen BK_gm.out 3; clear hB))
  clear hc_gp_0 hf_gp_0 hc_gp_1 hf_gp_1 hc_gp_2 hf_gp_2 hc_gp_3 hf_gp_3 hc_gp_4 hf_gp_4 hc_gp_5 hf_gp_5 hc_gp_6 hf_gp_6 hc_gp_7 hf_gp_7
  clear BK_gp
  cases hm : mayB t
  case false =>
    have XM := Aside0.mk hm
    clear hm
    go_wp2_with (first | (go_at_call 10; with_reducible refine (mayR_w XM.out _).mono ?_; rintro e w7_ ⟨rfl, hB⟩; replace HB := mvH HB hB; clear hc_gt_0 hf_gt_0 hc_gt_1 hf_gt_1; replace BK_gt := mvB BK_gt hB; have hc_gt_0 : w7_.cell? ⟨gt, 0, none⟩ = some (.int .i64 t.f0) := (blk_cell BK_gt.out 0).trans rfl; have hf_gt_0 := blk_frozen BK_gt.out 0; have hc_gt_1 : w7_.cell? ⟨gt, 1, none⟩ = some (.int .i64 t.f1) := (blk_cell BK_gt.out 1).trans rfl; have hf_gt_1 := blk_frozen BK_gt.out 1; clear hc_gm_0 hf_gm_0 hc_gm_1 hf_gm_1 hc_gm_2 hf_gm_2 hc_gm_3 hf_gm_3; replace BK_gm := mvB BK_gm hB; have hc_gm_0 : w7_.cell? ⟨gm, 0, none⟩ = some (.int .u32 g) := (blk_cell BK_gm.out 0).trans rfl; have hf_gm_0 := blk_frozen BK_gm.out 0; have hc_gm_1 : w7_.cell? ⟨gm, 1, none⟩ = some (.bool ex) := (blk_cell BK_gm.out 1).trans rfl; have hf_gm_1 := blk_frozen BK_gm.out 1; have hc_gm_2 : w7_.cell? ⟨gm, 2, none⟩ = some (.int .i64 lf) := (blk_cell BK_gm.out 2).trans rfl; have hf_gm_2 := blk_frozen BK_gm.out 2; have hc_gm_3 : w7_.cell? ⟨gm, 3, none⟩ = some (.slice A_x sr.length c_x) := (blk_cell BK_gm.out 3).trans rfl; have hf_gm_3 := blk_frozen BK_gm.out 3; clear hB))
    go_ret
    exact ⟨rfl, HB.out⟩
  by_cases hx : MOk ⟨g, ex, lf, sr⟩
  case neg =>
    have XM := Aside0.mk hm
    have XX : Aside0 (¬ MOk ⟨g, ex, lf, sr⟩) := ⟨hx⟩
    clear hm hx
    go_wp2_with (first | (go_at_call 10; with_reducible refine (mayR_w XM.out _).mono ?_; rintro e w7_ ⟨rfl, hB⟩; replace HB := mvH HB hB; clear hc_gt_0 hf_gt_0 hc_gt_1 hf_gt_1; replace BK_gt := mvB BK_gt hB; have hc_gt_0 : w7_.cell? ⟨gt, 0, none⟩ = some (.int .i64 t.f0) := (blk_cell BK_gt.out 0).trans rfl; have hf_gt_0 := blk_frozen BK_gt.out 0; have hc_gt_1 : w7_.cell? ⟨gt, 1, none⟩ = some (.int .i64 t.f1) := (blk_cell BK_gt.out 1).trans rfl; have hf_gt_1 := blk_frozen BK_gt.out 1; clear hc_gm_0 hf_gm_0 hc_gm_1 hf_gm_1 hc_gm_2 hf_gm_2 hc_gm_3 hf_gm_3; replace BK_gm := mvB BK_gm hB; have hc_gm_0 : w7_.cell? ⟨gm, 0, none⟩ = some (.int .u32 g) := (blk_cell BK_gm.out 0).trans rfl; have hf_gm_0 := blk_frozen BK_gm.out 0; have hc_gm_1 : w7_.cell? ⟨gm, 1, none⟩ = some (.bool ex) := (blk_cell BK_gm.out 1).trans rfl; have hf_gm_1 := blk_frozen BK_gm.out 1; have hc_gm_2 : w7_.cell? ⟨gm, 2, none⟩ = some (.int .i64 lf) := (blk_cell BK_gm.out 2).trans rfl; have hf_gm_2 := blk_frozen BK_gm.out 2; have hc_gm_3 : w7_.cell? ⟨gm, 3, none⟩ = some (.slice A_x sr.length c_x) := (blk_cell BK_gm.out 3).trans rfl; have hf_gm_3 := blk_frozen BK_gm.out 3; clear hB) | (go_at_call 11; with_reducible refine (right_flat (b := false) (by simp [XX.out]) _ _ _ (Kd.C_below HC_x.out HB.out) HK_x.out).mono ?_; rintro e w8_ ⟨rfl, hB⟩; replace HB := mvH HB hB; clear hc_gt_0 hf_gt_0 hc_gt_1 hf_gt_1; replace BK_gt := mvB BK_gt hB; have hc_gt_0 : w8_.cell? ⟨gt, 0, none⟩ = some (.int .i64 t.f0) := (blk_cell BK_gt.out 0).trans rfl; have hf_gt_0 := blk_frozen BK_gt.out 0; have hc_gt_1 : w8_.cell? ⟨gt, 1, none⟩ = some (.int .i64 t.f1) := (blk_cell BK_gt.out 1).trans rfl; have hf_gt_1 := blk_frozen BK_gt.out 1; clear hc_gm_0 hf_gm_0 hc_gm_1 hf_gm_1 hc_gm_2 hf_gm_2 hc_gm_3 hf_gm_3; replace BK_gm := mvB BK_gm hB; have hc_gm_0 : w8_.cell? ⟨gm, 0, none⟩ = some (.int .u32 g) := (blk_cell BK_gm.out 0).trans rfl; have hf_gm_0 := blk_frozen BK_gm.out 0; have hc_gm_1 : w8_.cell? ⟨gm, 1, none⟩ = some (.bool ex) := (blk_cell BK_gm.out 1).trans rfl; have hf_gm_1 := blk_frozen BK_gm.out 1; have hc_gm_2 : w8_.cell? ⟨gm, 2, none⟩ = some (.int .i64 lf) := (blk_cell BK_gm.out 2).trans rfl; have hf_gm_2 := blk_frozen BK_gm.out 2; have hc_gm_3 : w8_.cell? ⟨gm, 3, none⟩ = some (.slice A_x sr.length c_x) := (blk_cell BK_gm.out 3).trans rfl; have hf_gm_3 := blk_frozen BK_gm.out 3; clear hB))
    go_ret
    exact ⟨rfl, HB.out⟩
  have XM := Aside0.mk hm
  have XX : Aside0 (MOk ⟨g, ex, lf, sr⟩) := ⟨hx⟩
  clear hm
  by_cases h1 : (200 : Int) < (l.length : Int)
  · have XH := Aside0.mk hx
    clear hx
    go_wp2_with (first | (go_at_call 10; with_reducible refine (mayR_w XM.out _).mono ?_; rintro e w7_ ⟨rfl, hB⟩; replace HB := mvH HB hB; clear hc_gt_0 hf_gt_0 hc_gt_1 hf_gt_1; replace BK_gt := mvB BK_gt hB; have hc_gt_0 : w7_.cell? ⟨gt, 0, none⟩ = some (.int .i64 t.f0) := (blk_cell BK_gt.out 0).trans rfl; have hf_gt_0 := blk_frozen BK_gt.out 0; have hc_gt_1 : w7_.cell? ⟨gt, 1, none⟩ = some (.int .i64 t.f1) := (blk_cell BK_gt.out 1).trans rfl; have hf_gt_1 := blk_frozen BK_gt.out 1; clear hc_gm_0 hf_gm_0 hc_gm_1 hf_gm_1 hc_gm_2 hf_gm_2 hc_gm_3 hf_gm_3; replace BK_gm := mvB BK_gm hB; have hc_gm_0 : w7_.cell? ⟨gm, 0, none⟩ = some (.int .u32 g) := (blk_cell BK_gm.out 0).trans rfl; have hf_gm_0 := blk_frozen BK_gm.out 0; have hc_gm_1 : w7_.cell? ⟨gm, 1, none⟩ = some (.bool ex) := (blk_cell BK_gm.out 1).trans rfl; have hf_gm_1 := blk_frozen BK_gm.out 1; have hc_gm_2 : w7_.cell? ⟨gm, 2, none⟩ = some (.int .i64 lf) := (blk_cell BK_gm.out 2).trans rfl; have hf_gm_2 := blk_frozen BK_gm.out 2; have hc_gm_3 : w7_.cell? ⟨gm, 3, none⟩ = some (.slice A_x sr.length c_x) := (blk_cell BK_gm.out 3).trans rfl; have hf_gm_3 := blk_frozen BK_gm.out 3; clear hB) | (go_at_call 11; with_reducible refine (right_flat (b := true) (by simp [XX.out]) _ _ _ (Kd.C_below HC_x.out HB.out) HK_x.out).mono ?_; rintro e w8_ ⟨rfl, hB⟩; replace HB := mvH HB hB; clear hc_gt_0 hf_gt_0 hc_gt_1 hf_gt_1; replace BK_gt := mvB BK_gt hB; have hc_gt_0 : w8_.cell? ⟨gt, 0, none⟩ = some (.int .i64 t.f0) := (blk_cell BK_gt.out 0).trans rfl; have hf_gt_0 := blk_frozen BK_gt.out 0; have hc_gt_1 : w8_.cell? ⟨gt, 1, none⟩ = some (.int .i64 t.f1) := (blk_cell BK_gt.out 1).trans rfl; have hf_gt_1 := blk_frozen BK_gt.out 1; clear hc_gm_0 hf_gm_0 hc_gm_1 hf_gm_1 hc_gm_2 hf_gm_2 hc_gm_3 hf_gm_3; replace BK_gm := mvB BK_gm hB; have hc_gm_0 : w8_.cell? ⟨gm, 0, none⟩ = some (.int .u32 g) := (blk_cell BK_gm.out 0).trans rfl; have hf_gm_0 := blk_frozen BK_gm.out 0; have hc_gm_1 : w8_.cell? ⟨gm, 1, none⟩ = some (.bool ex) := (blk_cell BK_gm.out 1).trans rfl; have hf_gm_1 := blk_frozen BK_gm.out 1; have hc_gm_2 : w8_.cell? ⟨gm, 2, none⟩ = some (.int .i64 lf) := (blk_cell BK_gm.out 2).trans rfl; have hf_gm_2 := blk_frozen BK_gm.out 2; have hc_gm_3 : w8_.cell? ⟨gm, 3, none⟩ = some (.slice A_x sr.length c_x) := (blk_cell BK_gm.out 3).trans rfl; have hf_gm_3 := blk_frozen BK_gm.out 3; clear hB))
    go_ret
    exact ⟨rfl, HB.out⟩
  obtain ⟨bi, hbi⟩ : ∃ b, decide (a ∈ l) = b := ⟨_, rfl⟩
  obtain ⟨g1, e1, l1, s1, q1, r1, hh1, hm1⟩ := hear_tell (XM.out) hx 2 l
  obtain ⟨g2, e2, l2, s2, q2, r2, hh2, hm2⟩ := hear_tell (XM.out) hx 4 l
  obtain ⟨g3, e3, l3, s3, q3, r3, hh3, hm3⟩ := hear_tell (XM.out) hx 3 l
  have d1 : (r1 = 0 ∧ e1 = true ∧ (bi = false → wantsB ⟨g1, e1, l1, s1⟩ a = true)) ∨ r1 = 7 := by
    have h2 := hear_err 2 l (by decide) ⟨g, ex, lf, sr⟩ (t := t)
    have h3 := turns_ex (t := t) (l := l) (a := a) hx (.inl rfl : (2 : Int) = 2 ∨ (2 : Int) = 4)
    rw [hh1] at h2 h3
    rcases h2 with h2 | h2
    · exact .inl ⟨h2, (h3 h2).1, fun hb => (h3 h2).2 (by rw [hb] at hbi; simpa using hbi)⟩
    · exact .inr h2
  have d2 : (r2 = 0 ∧ e2 = true ∧ (bi = false → wantsB ⟨g2, e2, l2, s2⟩ a = true)) ∨ r2 = 7 := by
    have h2 := hear_err 4 l (by decide) ⟨g, ex, lf, sr⟩ (t := t)
    have h3 := turns_ex (t := t) (l := l) (a := a) hx (.inr rfl : (4 : Int) = 2 ∨ (4 : Int) = 4)
    rw [hh2] at h2 h3
    rcases h2 with h2 | h2
    · exact .inl ⟨h2, (h3 h2).1, fun hb => (h3 h2).2 (by rw [hb] at hbi; simpa using hbi)⟩
    · exact .inr h2
  obtain ⟨g4, e4, l4, s4, hh4⟩ : ∃ g4 e4 l4 s4, tickM ⟨g3, e3, l3, s3⟩ t.f1 = ⟨g4, e4, l4, s4⟩ := ⟨_, _, _, _, rfl⟩
  have hl4 : 0 ≤ t.f1 := by have := may_iff.1 XM.out; omega
  have hm4 : MOk ⟨g4, e4, l4, s4⟩ := by rw [← hh4]; exact tick_right hm3 hl4
  have d3 : (r3 = 0 ∧ e4 = false ∧ (ex = true → q3.length ≠ 0) ∧ (bi = false → wantsB ⟨g4, e4, l4, s4⟩ a = false) ∧ (bi = true → t.f0 ≠ t.f1 → wantsB ⟨g4, e4, l4, s4⟩ a = true)) ∨ r3 = 7 := by
    have h2 := turns_err t ⟨g, ex, lf, sr⟩ l
    have h3 := turns_in (t := t) (l := l) (a := a) XM.out hx
    have h5 := turns_asks (t := t) (x := ⟨g, ex, lf, sr⟩) (l := l)
    rw [hh3] at h2 h3 h5
    rw [hh4] at h3
    rcases h2 with h2 | h2
    · exact .inl ⟨h2, (h3 h2).1, fun hb => by have h6 : 0 < q3.length := h5 h2 hb; omega, fun hb => (h3 h2).2.1 (by rw [hb] at hbi; simpa using hbi), fun hb => (h3 h2).2.2 (by rw [hb] at hbi; simpa using hbi)⟩
    · exact .inr h2
  have hl2 := Aside0.mk (show l.length ≤ 1000 by omega)
  have Xhx := Aside0.mk hx
  have Xhbi := Aside0.mk hbi
  have Xhh1 := Aside0.mk hh1
  have Xhm1 := Aside0.mk hm1
  have Xhh2 := Aside0.mk hh2
  have Xhm2 := Aside0.mk hm2
  have Xhh3 := Aside0.mk hh3
  have Xhm3 := Aside0.mk hm3
  have Xhh4 := Aside0.mk hh4
  have Xhm4 := Aside0.mk hm4
  have Xhl4 := Aside0.mk hl4
  have Xd1 := Aside0.mk d1
  have Xd2 := Aside0.mk d2
  have Xd3 := Aside0.mk d3
  obtain ⟨n1, hn1⟩ : ∃ n, q1.length = n := ⟨_, rfl⟩
  obtain ⟨n2, hn2⟩ : ∃ n, q2.length = n := ⟨_, rfl⟩
  obtain ⟨n3, hn3⟩ : ∃ n, q3.length = n := ⟨_, rfl⟩
  have XN1 := Aside0.mk hn1
  have XN2 := Aside0.mk hn2
  have XN3 := Aside0.mk hn3
  clear hx hbi hh1 hm1 hh2 hm2 hh3 hm3 hh4 hm4 hl4 d1 d2 d3 hn1 hn2 hn3
  go_upto_region 10 with (first | (go_at_call 10; with_reducible refine (mayR_w XM.out _).mono ?_; rintro e w7_ ⟨rfl, hB⟩; replace HB := mvH HB hB; clear hc_gt_0 hf_gt_0 hc_gt_1 hf_gt_1; replace BK_gt := mvB BK_gt hB; have hc_gt_0 : w7_.cell? ⟨gt, 0, none⟩ = some (.int .i64 t.f0) := (blk_cell BK_gt.out 0).trans rfl; have hf_gt_0 := blk_frozen BK_gt.out 0; have hc_gt_1 : w7_.cell? ⟨gt, 1, none⟩ = some (.int .i64 t.f1) := (blk_cell BK_gt.out 1).trans rfl; have hf_gt_1 := blk_frozen BK_gt.out 1; clear hc_gm_0 hf_gm_0 hc_gm_1 hf_gm_1 hc_gm_2 hf_gm_2 hc_gm_3 hf_gm_3; replace BK_gm := mvB BK_gm hB; have hc_gm_0 : w7_.cell? ⟨gm, 0, none⟩ = some (.int .u32 g) := (blk_cell BK_gm.out 0).trans rfl; have hf_gm_0 := blk_frozen BK_gm.out 0; have hc_gm_1 : w7_.cell? ⟨gm, 1, none⟩ = some (.bool ex) := (blk_cell BK_gm.out 1).trans rfl; have hf_gm_1 := blk_frozen BK_gm.out 1; have hc_gm_2 : w7_.cell? ⟨gm, 2, none⟩ = some (.int .i64 lf) := (blk_cell BK_gm.out 2).trans rfl; have hf_gm_2 := blk_frozen BK_gm.out 2; have hc_gm_3 : w7_.cell? ⟨gm, 3, none⟩ = some (.slice A_x sr.length c_x) := (blk_cell BK_gm.out 3).trans rfl; have hf_gm_3 := blk_frozen BK_gm.out 3; clear hB) | (go_at_call 11; with_reducible refine (right_flat (b := true) (by simp [XX.out]) _ _ _ (Kd.C_below HC_x.out HB.out) HK_x.out).mono ?_; rintro e w8_ ⟨rfl, hB⟩; replace HB := mvH HB hB; clear hc_gt_0 hf_gt_0 hc_gt_1 hf_gt_1; replace BK_gt := mvB BK_gt hB; have hc_gt_0 : w8_.cell? ⟨gt, 0, none⟩ = some (.int .i64 t.f0) := (blk_cell BK_gt.out 0).trans rfl; have hf_gt_0 := blk_frozen BK_gt.out 0; have hc_gt_1 : w8_.cell? ⟨gt, 1, none⟩ = some (.int .i64 t.f1) := (blk_cell BK_gt.out 1).trans rfl; have hf_gt_1 := blk_frozen BK_gt.out 1; clear hc_gm_0 hf_gm_0 hc_gm_1 hf_gm_1 hc_gm_2 hf_gm_2 hc_gm_3 hf_gm_3; replace BK_gm := mvB BK_gm hB; have hc_gm_0 : w8_.cell? ⟨gm, 0, none⟩ = some (.int .u32 g) := (blk_cell BK_gm.out 0).trans rfl; have hf_gm_0 := blk_frozen BK_gm.out 0; have hc_gm_1 : w8_.cell? ⟨gm, 1, none⟩ = some (.bool ex) := (blk_cell BK_gm.out 1).trans rfl; have hf_gm_1 := blk_frozen BK_gm.out 1; have hc_gm_2 : w8_.cell? ⟨gm, 2, none⟩ = some (.int .i64 lf) := (blk_cell BK_gm.out 2).trans rfl; have hf_gm_2 := blk_frozen BK_gm.out 2; have hc_gm_3 : w8_.cell? ⟨gm, 3, none⟩ = some (.slice A_x sr.length c_x) := (blk_cell BK_gm.out 3).trans rfl; have hf_gm_3 := blk_frozen BK_gm.out 3; clear hB) | (go_at_call 18; with_reducible refine (has6_w (by have := hl2.out; omega) Xhbi.out _ _ _ (Kd.C_below HC_l.out HB.out) HK_l.out).mono ?_; rintro e w9_ ⟨rfl, hB⟩; replace HB := mvH HB hB; clear hc_gt_0 hf_gt_0 hc_gt_1 hf_gt_1; replace BK_gt := mvB BK_gt hB; have hc_gt_0 : w9_.cell? ⟨gt, 0, none⟩ = some (.int .i64 t.f0) := (blk_cell BK_gt.out 0).trans rfl; have hf_gt_0 := blk_frozen BK_gt.out 0; have hc_gt_1 : w9_.cell? ⟨gt, 1, none⟩ = some (.int .i64 t.f1) := (blk_cell BK_gt.out 1).trans rfl; have hf_gt_1 := blk_frozen BK_gt.out 1; clear hc_gm_0 hf_gm_0 hc_gm_1 hf_gm_1 hc_gm_2 hf_gm_2 hc_gm_3 hf_gm_3; replace BK_gm := mvB BK_gm hB; have hc_gm_0 : w9_.cell? ⟨gm, 0, none⟩ = some (.int .u32 g) := (blk_cell BK_gm.out 0).trans rfl; have hf_gm_0 := blk_frozen BK_gm.out 0; have hc_gm_1 : w9_.cell? ⟨gm, 1, none⟩ = some (.bool ex) := (blk_cell BK_gm.out 1).trans rfl; have hf_gm_1 := blk_frozen BK_gm.out 1; have hc_gm_2 : w9_.cell? ⟨gm, 2, none⟩ = some (.int .i64 lf) := (blk_cell BK_gm.out 2).trans rfl; have hf_gm_2 := blk_frozen BK_gm.out 2; have hc_gm_3 : w9_.cell? ⟨gm, 3, none⟩ = some (.slice A_x sr.length c_x) := (blk_cell BK_gm.out 3).trans rfl; have hf_gm_3 := blk_frozen BK_gm.out 3; clear hB) | (go_at_call 12; (with_reducible refine (hear_flat Xhx.out hl2.out Xhh1.out XN1.out _ _ _ _ _ (Kd.C_below HC_x.out HB.out) HK_x.out (Kd.C_below HC_l.out HB.out) HK_l.out).mono ?_); rintro e_ w10_ ⟨A_r1, c_r1, A_r1a, c_r1a, rfl, hC, hK, hB⟩; replace HB := mvH HB hB; clear hc_gt_0 hf_gt_0 hc_gt_1 hf_gt_1; replace BK_gt := mvB BK_gt hB; have hc_gt_0 : w10_.cell? ⟨gt, 0, none⟩ = some (.int .i64 t.f0) := (blk_cell BK_gt.out 0).trans rfl; have hf_gt_0 := blk_frozen BK_gt.out 0; have hc_gt_1 : w10_.cell? ⟨gt, 1, none⟩ = some (.int .i64 t.f1) := (blk_cell BK_gt.out 1).trans rfl; have hf_gt_1 := blk_frozen BK_gt.out 1; clear hc_gm_0 hf_gm_0 hc_gm_1 hf_gm_1 hc_gm_2 hf_gm_2 hc_gm_3 hf_gm_3; replace BK_gm := mvB BK_gm hB; have hc_gm_0 : w10_.cell? ⟨gm, 0, none⟩ = some (.int .u32 g) := (blk_cell BK_gm.out 0).trans rfl; have hf_gm_0 := blk_frozen BK_gm.out 0; have hc_gm_1 : w10_.cell? ⟨gm, 1, none⟩ = some (.bool ex) := (blk_cell BK_gm.out 1).trans rfl; have hf_gm_1 := blk_frozen BK_gm.out 1; have hc_gm_2 : w10_.cell? ⟨gm, 2, none⟩ = some (.int .i64 lf) := (blk_cell BK_gm.out 2).trans rfl; have hf_gm_2 := blk_frozen BK_gm.out 2; have hc_gm_3 : w10_.cell? ⟨gm, 3, none⟩ = some (.slice A_x sr.length c_x) := (blk_cell BK_gm.out 3).trans rfl; have hf_gm_3 := blk_frozen BK_gm.out 3; have HC_r1 := Aside0.mk hC; have HK_r1 := Aside0.mk hK; clear hC hK hB) | ((with_reducible refine gate_dst (N := 9) rfl ?_); (try (refine gate_guard (by rfl) ?_; dsimp only)); refine box_event ?hg (N := 9) ?hd (cs := #[.int .u32 0, .bool false, .int .i64 0, .slice none 0 0]) (t := 28) ?hr ?_; (case hd => rfl); (case hg => rfl); (case hr => first | (go_simp; done) | (go_simp; rfl)); intro b1 hg w11_ hbox hB0; have hG := Aside0.mk (show w10_.heap.size ≤ b1 from Nat.le_of_eq hg.symm); clear hg; have hBX := Aside0.mk hbox; have hB1 := Aside0.mk hB0; clear hB0; have hc_b1_0 : w11_.cell? ⟨b1, 0, none⟩ = some (.int .u32 0) := (blk_cell hbox 0).trans rfl; have hf_b1_0 := blk_frozen hbox 0; have hc_b1_1 : w11_.cell? ⟨b1, 1, none⟩ = some (.bool false) := (blk_cell hbox 1).trans rfl; have hf_b1_1 := blk_frozen hbox 1; have hc_b1_2 : w11_.cell? ⟨b1, 2, none⟩ = some (.int .i64 0) := (blk_cell hbox 2).trans rfl; have hf_b1_2 := blk_frozen hbox 2; have hc_b1_3 : w11_.cell? ⟨b1, 3, none⟩ = some (.slice none 0 0) := (blk_cell hbox 3).trans rfl; have hf_b1_3 := blk_frozen hbox 3; clear hbox))
  have hB : Below w10_.heap.size w10_ ((((w11_.setCell ⟨b1, 0, none⟩ (.int .u32 g1)).setCell ⟨b1, 1, none⟩ (.bool e1)).setCell ⟨b1, 2, none⟩ (.int .i64 l1)).setCell ⟨b1, 3, none⟩ (.slice A_r1 s1.length c_r1)) := (below_set (below_set (below_set (below_set hB1.out hG.out) hG.out) hG.out) hG.out)
  have hBN : ((((w11_.setCell ⟨b1, 0, none⟩ (.int .u32 g1)).setCell ⟨b1, 1, none⟩ (.bool e1)).setCell ⟨b1, 2, none⟩ (.int .i64 l1)).setCell ⟨b1, 3, none⟩ (.slice A_r1 s1.length c_r1)).heap[b1]? = some (.cells #[.int .u32 g1, .bool e1, .int .i64 l1, .slice A_r1 s1.length c_r1] 28 (0, 0)) := (blk_put (cs := #[.int .u32 g1, .bool e1, .int .i64 l1, .slice none 0 0]) (blk_put (cs := #[.int .u32 g1, .bool e1, .int .i64 0, .slice none 0 0]) (blk_put (cs := #[.int .u32 g1, .bool false, .int .i64 0, .slice none 0 0]) (blk_put (cs := #[.int .u32 0, .bool false, .int .i64 0, .slice none 0 0]) hBX.out 0 (.int .u32 g1) rfl) 1 (.bool e1) rfl) 2 (.int .i64 l1) rfl) 3 (.slice A_r1 s1.length c_r1) rfl)
  clear hBX hB1
  clear hc_b1_0 hf_b1_0 hc_b1_1 hf_b1_1 hc_b1_2 hf_b1_2 hc_b1_3 hf_b1_3
  generalize ((((w11_.setCell ⟨b1, 0, none⟩ (.int .u32 g1)).setCell ⟨b1, 1, none⟩ (.bool e1)).setCell ⟨b1, 2, none⟩ (.int .i64 l1)).setCell ⟨b1, 3, none⟩ (.slice A_r1 s1.length c_r1)) = w12_ at hB hBN ⊢
  replace HB := mvH HB hB
  clear hc_gt_0 hf_gt_0 hc_gt_1 hf_gt_1
  replace BK_gt := mvB BK_gt hB
  have hc_gt_0 : w12_.cell? ⟨gt, 0, none⟩ = some (.int .i64 t.f0) := (blk_cell BK_gt.out 0).trans rfl
  have hf_gt_0 := blk_frozen BK_gt.out 0
  have hc_gt_1 : w12_.cell? ⟨gt, 1, none⟩ = some (.int .i64 t.f1) := (blk_cell BK_gt.out 1).trans rfl
  have hf_gt_1 := blk_frozen BK_gt.out 1
  clear hc_gm_0 hf_gm_0 hc_gm_1 hf_gm_1 hc_gm_2 hf_gm_2 hc_gm_3 hf_gm_3
  replace BK_gm := mvB BK_gm hB
  have hc_gm_0 : w12_.cell? ⟨gm, 0, none⟩ = some (.int .u32 g) := (blk_cell BK_gm.out 0).trans rfl
  have hf_gm_0 := blk_frozen BK_gm.out 0
  have hc_gm_1 : w12_.cell? ⟨gm, 1, none⟩ = some (.bool ex) := (blk_cell BK_gm.out 1).trans rfl
  have hf_gm_1 := blk_frozen BK_gm.out 1
  have hc_gm_2 : w12_.cell? ⟨gm, 2, none⟩ = some (.int .i64 lf) := (blk_cell BK_gm.out 2).trans rfl
  have hf_gm_2 := blk_frozen BK_gm.out 2
  have hc_gm_3 : w12_.cell? ⟨gm, 3, none⟩ = some (.slice A_x sr.length c_x) := (blk_cell BK_gm.out 3).trans rfl
  have hf_gm_3 := blk_frozen BK_gm.out 3
  replace HC_r1 := mvC HC_r1 hB
  have BK_b1 := Aside0.mk hBN
  clear hG hBN hB
  have hc_b1_0 : w12_.cell? ⟨b1, 0, none⟩ = some (.int .u32 g1) := (blk_cell BK_b1.out 0).trans rfl
  have hf_b1_0 := blk_frozen BK_b1.out 0
  have hc_b1_1 : w12_.cell? ⟨b1, 1, none⟩ = some (.bool e1) := (blk_cell BK_b1.out 1).trans rfl
  have hf_b1_1 := blk_frozen BK_b1.out 1
  have hc_b1_2 : w12_.cell? ⟨b1, 2, none⟩ = some (.int .i64 l1) := (blk_cell BK_b1.out 2).trans rfl
  have hf_b1_2 := blk_frozen BK_b1.out 2
  have hc_b1_3 : w12_.cell? ⟨b1, 3, none⟩ = some (.slice A_r1 s1.length c_r1) := (blk_cell BK_b1.out 3).trans rfl
  have hf_b1_3 := blk_frozen BK_b1.out 3
  go_upto_region 11 with (first | (go_at_call 12; (with_reducible refine (hear_flat Xhx.out hl2.out Xhh2.out XN2.out _ _ _ _ _ (Kd.C_below HC_x.out HB.out) HK_x.out (Kd.C_below HC_l.out HB.out) HK_l.out).mono ?_); rintro e_ w13_ ⟨A_r2, c_r2, A_r2a, c_r2a, rfl, hC, hK, hB⟩; replace HB := mvH HB hB; clear hc_gt_0 hf_gt_0 hc_gt_1 hf_gt_1; replace BK_gt := mvB BK_gt hB; have hc_gt_0 : w13_.cell? ⟨gt, 0, none⟩ = some (.int .i64 t.f0) := (blk_cell BK_gt.out 0).trans rfl; have hf_gt_0 := blk_frozen BK_gt.out 0; have hc_gt_1 : w13_.cell? ⟨gt, 1, none⟩ = some (.int .i64 t.f1) := (blk_cell BK_gt.out 1).trans rfl; have hf_gt_1 := blk_frozen BK_gt.out 1; clear hc_gm_0 hf_gm_0 hc_gm_1 hf_gm_1 hc_gm_2 hf_gm_2 hc_gm_3 hf_gm_3; replace BK_gm := mvB BK_gm hB; have hc_gm_0 : w13_.cell? ⟨gm, 0, none⟩ = some (.int .u32 g) := (blk_cell BK_gm.out 0).trans rfl; have hf_gm_0 := blk_frozen BK_gm.out 0; have hc_gm_1 : w13_.cell? ⟨gm, 1, none⟩ = some (.bool ex) := (blk_cell BK_gm.out 1).trans rfl; have hf_gm_1 := blk_frozen BK_gm.out 1; have hc_gm_2 : w13_.cell? ⟨gm, 2, none⟩ = some (.int .i64 lf) := (blk_cell BK_gm.out 2).trans rfl; have hf_gm_2 := blk_frozen BK_gm.out 2; have hc_gm_3 : w13_.cell? ⟨gm, 3, none⟩ = some (.slice A_x sr.length c_x) := (blk_cell BK_gm.out 3).trans rfl; have hf_gm_3 := blk_frozen BK_gm.out 3; clear hc_b1_0 hf_b1_0 hc_b1_1 hf_b1_1 hc_b1_2 hf_b1_2 hc_b1_3 hf_b1_3; replace BK_b1 := mvB BK_b1 hB; have hc_b1_0 : w13_.cell? ⟨b1, 0, none⟩ = some (.int .u32 g1) := (blk_cell BK_b1.out 0).trans rfl; have hf_b1_0 := blk_frozen BK_b1.out 0; have hc_b1_1 : w13_.cell? ⟨b1, 1, none⟩ = some (.bool e1) := (blk_cell BK_b1.out 1).trans rfl; have hf_b1_1 := blk_frozen BK_b1.out 1; have hc_b1_2 : w13_.cell? ⟨b1, 2, none⟩ = some (.int .i64 l1) := (blk_cell BK_b1.out 2).trans rfl; have hf_b1_2 := blk_frozen BK_b1.out 2; have hc_b1_3 : w13_.cell? ⟨b1, 3, none⟩ = some (.slice A_r1 s1.length c_r1) := (blk_cell BK_b1.out 3).trans rfl; have hf_b1_3 := blk_frozen BK_b1.out 3; replace HC_r1 := mvC HC_r1 hB; have HC_r2 := Aside0.mk hC; have HK_r2 := Aside0.mk hK; clear hC hK hB) | ((with_reducible refine gate_dst (N := 12) rfl ?_); (try (refine gate_guard (by rfl) ?_; dsimp only)); refine box_event ?hg (N := 12) ?hd (cs := #[.int .u32 0, .bool false, .int .i64 0, .slice none 0 0]) (t := 28) ?hr ?_; (case hd => rfl); (case hg => rfl); (case hr => first | (go_simp; done) | (go_simp; rfl)); intro b2 hg w14_ hbox hB0; have hG := Aside0.mk (show w13_.heap.size ≤ b2 from Nat.le_of_eq hg.symm); clear hg; have hBX := Aside0.mk hbox; have hB1 := Aside0.mk hB0; clear hB0; have hc_b2_0 : w14_.cell? ⟨b2, 0, none⟩ = some (.int .u32 0) := (blk_cell hbox 0).trans rfl; have hf_b2_0 := blk_frozen hbox 0; have hc_b2_1 : w14_.cell? ⟨b2, 1, none⟩ = some (.bool false) := (blk_cell hbox 1).trans rfl; have hf_b2_1 := blk_frozen hbox 1; have hc_b2_2 : w14_.cell? ⟨b2, 2, none⟩ = some (.int .i64 0) := (blk_cell hbox 2).trans rfl; have hf_b2_2 := blk_frozen hbox 2; have hc_b2_3 : w14_.cell? ⟨b2, 3, none⟩ = some (.slice none 0 0) := (blk_cell hbox 3).trans rfl; have hf_b2_3 := blk_frozen hbox 3; clear hbox))
  have hB : Below w13_.heap.size w13_ ((((w14_.setCell ⟨b2, 0, none⟩ (.int .u32 g2)).setCell ⟨b2, 1, none⟩ (.bool e2)).setCell ⟨b2, 2, none⟩ (.int .i64 l2)).setCell ⟨b2, 3, none⟩ (.slice A_r2 s2.length c_r2)) := (below_set (below_set (below_set (below_set hB1.out hG.out) hG.out) hG.out) hG.out)
  have hBN : ((((w14_.setCell ⟨b2, 0, none⟩ (.int .u32 g2)).setCell ⟨b2, 1, none⟩ (.bool e2)).setCell ⟨b2, 2, none⟩ (.int .i64 l2)).setCell ⟨b2, 3, none⟩ (.slice A_r2 s2.length c_r2)).heap[b2]? = some (.cells #[.int .u32 g2, .bool e2, .int .i64 l2, .slice A_r2 s2.length c_r2] 28 (0, 0)) := (blk_put (cs := #[.int .u32 g2, .bool e2, .int .i64 l2, .slice none 0 0]) (blk_put (cs := #[.int .u32 g2, .bool e2, .int .i64 0, .slice none 0 0]) (blk_put (cs := #[.int .u32 g2, .bool false, .int .i64 0, .slice none 0 0]) (blk_put (cs := #[.int .u32 0, .bool false, .int .i64 0, .slice none 0 0]) hBX.out 0 (.int .u32 g2) rfl) 1 (.bool e2) rfl) 2 (.int .i64 l2) rfl) 3 (.slice A_r2 s2.length c_r2) rfl)
  clear hBX hB1
  clear hc_b2_0 hf_b2_0 hc_b2_1 hf_b2_1 hc_b2_2 hf_b2_2 hc_b2_3 hf_b2_3
  generalize ((((w14_.setCell ⟨b2, 0, none⟩ (.int .u32 g2)).setCell ⟨b2, 1, none⟩ (.bool e2)).setCell ⟨b2, 2, none⟩ (.int .i64 l2)).setCell ⟨b2, 3, none⟩ (.slice A_r2 s2.length c_r2)) = w15_ at hB hBN ⊢
  replace HB := mvH HB hB
  clear hc_gt_0 hf_gt_0 hc_gt_1 hf_gt_1
  replace BK_gt := mvB BK_gt hB
  have hc_gt_0 : w15_.cell? ⟨gt, 0, none⟩ = some (.int .i64 t.f0) := (blk_cell BK_gt.out 0).trans rfl
  have hf_gt_0 := blk_frozen BK_gt.out 0
  have hc_gt_1 : w15_.cell? ⟨gt, 1, none⟩ = some (.int .i64 t.f1) := (blk_cell BK_gt.out 1).trans rfl
  have hf_gt_1 := blk_frozen BK_gt.out 1
  clear hc_gm_0 hf_gm_0 hc_gm_1 hf_gm_1 hc_gm_2 hf_gm_2 hc_gm_3 hf_gm_3
  replace BK_gm := mvB BK_gm hB
  have hc_gm_0 : w15_.cell? ⟨gm, 0, none⟩ = some (.int .u32 g) := (blk_cell BK_gm.out 0).trans rfl
  have hf_gm_0 := blk_frozen BK_gm.out 0
  have hc_gm_1 : w15_.cell? ⟨gm, 1, none⟩ = some (.bool ex) := (blk_cell BK_gm.out 1).trans rfl
  have hf_gm_1 := blk_frozen BK_gm.out 1
  have hc_gm_2 : w15_.cell? ⟨gm, 2, none⟩ = some (.int .i64 lf) := (blk_cell BK_gm.out 2).trans rfl
  have hf_gm_2 := blk_frozen BK_gm.out 2
  have hc_gm_3 : w15_.cell? ⟨gm, 3, none⟩ = some (.slice A_x sr.length c_x) := (blk_cell BK_gm.out 3).trans rfl
  have hf_gm_3 := blk_frozen BK_gm.out 3
  clear hc_b1_0 hf_b1_0 hc_b1_1 hf_b1_1 hc_b1_2 hf_b1_2 hc_b1_3 hf_b1_3
  replace BK_b1 := mvB BK_b1 hB
  have hc_b1_0 : w15_.cell? ⟨b1, 0, none⟩ = some (.int .u32 g1) := (blk_cell BK_b1.out 0).trans rfl
  have hf_b1_0 := blk_frozen BK_b1.out 0
  have hc_b1_1 : w15_.cell? ⟨b1, 1, none⟩ = some (.bool e1) := (blk_cell BK_b1.out 1).trans rfl
  have hf_b1_1 := blk_frozen BK_b1.out 1
  have hc_b1_2 : w15_.cell? ⟨b1, 2, none⟩ = some (.int .i64 l1) := (blk_cell BK_b1.out 2).trans rfl
  have hf_b1_2 := blk_frozen BK_b1.out 2
  have hc_b1_3 : w15_.cell? ⟨b1, 3, none⟩ = some (.slice A_r1 s1.length c_r1) := (blk_cell BK_b1.out 3).trans rfl
  have hf_b1_3 := blk_frozen BK_b1.out 3
  replace HC_r1 := mvC HC_r1 hB
  replace HC_r2 := mvC HC_r2 hB
  have BK_b2 := Aside0.mk hBN
  clear hG hBN hB
  have hc_b2_0 : w15_.cell? ⟨b2, 0, none⟩ = some (.int .u32 g2) := (blk_cell BK_b2.out 0).trans rfl
  have hf_b2_0 := blk_frozen BK_b2.out 0
  have hc_b2_1 : w15_.cell? ⟨b2, 1, none⟩ = some (.bool e2) := (blk_cell BK_b2.out 1).trans rfl
  have hf_b2_1 := blk_frozen BK_b2.out 1
  have hc_b2_2 : w15_.cell? ⟨b2, 2, none⟩ = some (.int .i64 l2) := (blk_cell BK_b2.out 2).trans rfl
  have hf_b2_2 := blk_frozen BK_b2.out 2
  have hc_b2_3 : w15_.cell? ⟨b2, 3, none⟩ = some (.slice A_r2 s2.length c_r2) := (blk_cell BK_b2.out 3).trans rfl
  have hf_b2_3 := blk_frozen BK_b2.out 3
  go_upto_region 12 with (first | (go_at_call 12; (with_reducible refine (hear_flat Xhx.out hl2.out Xhh3.out XN3.out _ _ _ _ _ (Kd.C_below HC_x.out HB.out) HK_x.out (Kd.C_below HC_l.out HB.out) HK_l.out).mono ?_); rintro e_ w16_ ⟨A_r3, c_r3, A_r3a, c_r3a, rfl, hC, hK, hB⟩; replace HB := mvH HB hB; clear hc_gt_0 hf_gt_0 hc_gt_1 hf_gt_1; replace BK_gt := mvB BK_gt hB; have hc_gt_0 : w16_.cell? ⟨gt, 0, none⟩ = some (.int .i64 t.f0) := (blk_cell BK_gt.out 0).trans rfl; have hf_gt_0 := blk_frozen BK_gt.out 0; have hc_gt_1 : w16_.cell? ⟨gt, 1, none⟩ = some (.int .i64 t.f1) := (blk_cell BK_gt.out 1).trans rfl; have hf_gt_1 := blk_frozen BK_gt.out 1; clear hc_gm_0 hf_gm_0 hc_gm_1 hf_gm_1 hc_gm_2 hf_gm_2 hc_gm_3 hf_gm_3; replace BK_gm := mvB BK_gm hB; have hc_gm_0 : w16_.cell? ⟨gm, 0, none⟩ = some (.int .u32 g) := (blk_cell BK_gm.out 0).trans rfl; have hf_gm_0 := blk_frozen BK_gm.out 0; have hc_gm_1 : w16_.cell? ⟨gm, 1, none⟩ = some (.bool ex) := (blk_cell BK_gm.out 1).trans rfl; have hf_gm_1 := blk_frozen BK_gm.out 1; have hc_gm_2 : w16_.cell? ⟨gm, 2, none⟩ = some (.int .i64 lf) := (blk_cell BK_gm.out 2).trans rfl; have hf_gm_2 := blk_frozen BK_gm.out 2; have hc_gm_3 : w16_.cell? ⟨gm, 3, none⟩ = some (.slice A_x sr.length c_x) := (blk_cell BK_gm.out 3).trans rfl; have hf_gm_3 := blk_frozen BK_gm.out 3; clear hc_b1_0 hf_b1_0 hc_b1_1 hf_b1_1 hc_b1_2 hf_b1_2 hc_b1_3 hf_b1_3; replace BK_b1 := mvB BK_b1 hB; have hc_b1_0 : w16_.cell? ⟨b1, 0, none⟩ = some (.int .u32 g1) := (blk_cell BK_b1.out 0).trans rfl; have hf_b1_0 := blk_frozen BK_b1.out 0; have hc_b1_1 : w16_.cell? ⟨b1, 1, none⟩ = some (.bool e1) := (blk_cell BK_b1.out 1).trans rfl; have hf_b1_1 := blk_frozen BK_b1.out 1; have hc_b1_2 : w16_.cell? ⟨b1, 2, none⟩ = some (.int .i64 l1) := (blk_cell BK_b1.out 2).trans rfl; have hf_b1_2 := blk_frozen BK_b1.out 2; have hc_b1_3 : w16_.cell? ⟨b1, 3, none⟩ = some (.slice A_r1 s1.length c_r1) := (blk_cell BK_b1.out 3).trans rfl; have hf_b1_3 := blk_frozen BK_b1.out 3; clear hc_b2_0 hf_b2_0 hc_b2_1 hf_b2_1 hc_b2_2 hf_b2_2 hc_b2_3 hf_b2_3; replace BK_b2 := mvB BK_b2 hB; have hc_b2_0 : w16_.cell? ⟨b2, 0, none⟩ = some (.int .u32 g2) := (blk_cell BK_b2.out 0).trans rfl; have hf_b2_0 := blk_frozen BK_b2.out 0; have hc_b2_1 : w16_.cell? ⟨b2, 1, none⟩ = some (.bool e2) := (blk_cell BK_b2.out 1).trans rfl; have hf_b2_1 := blk_frozen BK_b2.out 1; have hc_b2_2 : w16_.cell? ⟨b2, 2, none⟩ = some (.int .i64 l2) := (blk_cell BK_b2.out 2).trans rfl; have hf_b2_2 := blk_frozen BK_b2.out 2; have hc_b2_3 : w16_.cell? ⟨b2, 3, none⟩ = some (.slice A_r2 s2.length c_r2) := (blk_cell BK_b2.out 3).trans rfl; have hf_b2_3 := blk_frozen BK_b2.out 3; replace HC_r1 := mvC HC_r1 hB; replace HC_r2 := mvC HC_r2 hB; have HC_r3 := Aside0.mk hC; have HK_r3 := Aside0.mk hK; clear hC hK hB) | ((with_reducible refine gate_dst (N := 15) rfl ?_); (try (refine gate_guard (by rfl) ?_; dsimp only)); refine box_event ?hg (N := 15) ?hd (cs := #[.int .u32 0, .bool false, .int .i64 0, .slice none 0 0]) (t := 28) ?hr ?_; (case hd => rfl); (case hg => rfl); (case hr => first | (go_simp; done) | (go_simp; rfl)); intro b3 hg w17_ hbox hB0; have hG := Aside0.mk (show w16_.heap.size ≤ b3 from Nat.le_of_eq hg.symm); clear hg; have hBX := Aside0.mk hbox; have hB1 := Aside0.mk hB0; clear hB0; have hc_b3_0 : w17_.cell? ⟨b3, 0, none⟩ = some (.int .u32 0) := (blk_cell hbox 0).trans rfl; have hf_b3_0 := blk_frozen hbox 0; have hc_b3_1 : w17_.cell? ⟨b3, 1, none⟩ = some (.bool false) := (blk_cell hbox 1).trans rfl; have hf_b3_1 := blk_frozen hbox 1; have hc_b3_2 : w17_.cell? ⟨b3, 2, none⟩ = some (.int .i64 0) := (blk_cell hbox 2).trans rfl; have hf_b3_2 := blk_frozen hbox 2; have hc_b3_3 : w17_.cell? ⟨b3, 3, none⟩ = some (.slice none 0 0) := (blk_cell hbox 3).trans rfl; have hf_b3_3 := blk_frozen hbox 3; clear hbox))
  have hB : Below w16_.heap.size w16_ ((((w17_.setCell ⟨b3, 0, none⟩ (.int .u32 g3)).setCell ⟨b3, 1, none⟩ (.bool e3)).setCell ⟨b3, 2, none⟩ (.int .i64 l3)).setCell ⟨b3, 3, none⟩ (.slice A_r3 s3.length c_r3)) := (below_set (below_set (below_set (below_set hB1.out hG.out) hG.out) hG.out) hG.out)
  have hBN : ((((w17_.setCell ⟨b3, 0, none⟩ (.int .u32 g3)).setCell ⟨b3, 1, none⟩ (.bool e3)).setCell ⟨b3, 2, none⟩ (.int .i64 l3)).setCell ⟨b3, 3, none⟩ (.slice A_r3 s3.length c_r3)).heap[b3]? = some (.cells #[.int .u32 g3, .bool e3, .int .i64 l3, .slice A_r3 s3.length c_r3] 28 (0, 0)) := (blk_put (cs := #[.int .u32 g3, .bool e3, .int .i64 l3, .slice none 0 0]) (blk_put (cs := #[.int .u32 g3, .bool e3, .int .i64 0, .slice none 0 0]) (blk_put (cs := #[.int .u32 g3, .bool false, .int .i64 0, .slice none 0 0]) (blk_put (cs := #[.int .u32 0, .bool false, .int .i64 0, .slice none 0 0]) hBX.out 0 (.int .u32 g3) rfl) 1 (.bool e3) rfl) 2 (.int .i64 l3) rfl) 3 (.slice A_r3 s3.length c_r3) rfl)
  clear hBX hB1
  clear hc_b3_0 hf_b3_0 hc_b3_1 hf_b3_1 hc_b3_2 hf_b3_2 hc_b3_3 hf_b3_3
  generalize ((((w17_.setCell ⟨b3, 0, none⟩ (.int .u32 g3)).setCell ⟨b3, 1, none⟩ (.bool e3)).setCell ⟨b3, 2, none⟩ (.int .i64 l3)).setCell ⟨b3, 3, none⟩ (.slice A_r3 s3.length c_r3)) = w18_ at hB hBN ⊢
  replace HB := mvH HB hB
  clear hc_gt_0 hf_gt_0 hc_gt_1 hf_gt_1
  replace BK_gt := mvB BK_gt hB
  have hc_gt_0 : w18_.cell? ⟨gt, 0, none⟩ = some (.int .i64 t.f0) := (blk_cell BK_gt.out 0).trans rfl
  have hf_gt_0 := blk_frozen BK_gt.out 0
  have hc_gt_1 : w18_.cell? ⟨gt, 1, none⟩ = some (.int .i64 t.f1) := (blk_cell BK_gt.out 1).trans rfl
  have hf_gt_1 := blk_frozen BK_gt.out 1
  clear hc_gm_0 hf_gm_0 hc_gm_1 hf_gm_1 hc_gm_2 hf_gm_2 hc_gm_3 hf_gm_3
  replace BK_gm := mvB BK_gm hB
  have hc_gm_0 : w18_.cell? ⟨gm, 0, none⟩ = some (.int .u32 g) := (blk_cell BK_gm.out 0).trans rfl
  have hf_gm_0 := blk_frozen BK_gm.out 0
  have hc_gm_1 : w18_.cell? ⟨gm, 1, none⟩ = some (.bool ex) := (blk_cell BK_gm.out 1).trans rfl
  have hf_gm_1 := blk_frozen BK_gm.out 1
  have hc_gm_2 : w18_.cell? ⟨gm, 2, none⟩ = some (.int .i64 lf) := (blk_cell BK_gm.out 2).trans rfl
  have hf_gm_2 := blk_frozen BK_gm.out 2
  have hc_gm_3 : w18_.cell? ⟨gm, 3, none⟩ = some (.slice A_x sr.length c_x) := (blk_cell BK_gm.out 3).trans rfl
  have hf_gm_3 := blk_frozen BK_gm.out 3
  clear hc_b1_0 hf_b1_0 hc_b1_1 hf_b1_1 hc_b1_2 hf_b1_2 hc_b1_3 hf_b1_3
  replace BK_b1 := mvB BK_b1 hB
  have hc_b1_0 : w18_.cell? ⟨b1, 0, none⟩ = some (.int .u32 g1) := (blk_cell BK_b1.out 0).trans rfl
  have hf_b1_0 := blk_frozen BK_b1.out 0
  have hc_b1_1 : w18_.cell? ⟨b1, 1, none⟩ = some (.bool e1) := (blk_cell BK_b1.out 1).trans rfl
  have hf_b1_1 := blk_frozen BK_b1.out 1
  have hc_b1_2 : w18_.cell? ⟨b1, 2, none⟩ = some (.int .i64 l1) := (blk_cell BK_b1.out 2).trans rfl
  have hf_b1_2 := blk_frozen BK_b1.out 2
  have hc_b1_3 : w18_.cell? ⟨b1, 3, none⟩ = some (.slice A_r1 s1.length c_r1) := (blk_cell BK_b1.out 3).trans rfl
  have hf_b1_3 := blk_frozen BK_b1.out 3
  clear hc_b2_0 hf_b2_0 hc_b2_1 hf_b2_1 hc_b2_2 hf_b2_2 hc_b2_3 hf_b2_3
  replace BK_b2 := mvB BK_b2 hB
  have hc_b2_0 : w18_.cell? ⟨b2, 0, none⟩ = some (.int .u32 g2) := (blk_cell BK_b2.out 0).trans rfl
  have hf_b2_0 := blk_frozen BK_b2.out 0
  have hc_b2_1 : w18_.cell? ⟨b2, 1, none⟩ = some (.bool e2) := (blk_cell BK_b2.out 1).trans rfl
  have hf_b2_1 := blk_frozen BK_b2.out 1
  have hc_b2_2 : w18_.cell? ⟨b2, 2, none⟩ = some (.int .i64 l2) := (blk_cell BK_b2.out 2).trans rfl
  have hf_b2_2 := blk_frozen BK_b2.out 2
  have hc_b2_3 : w18_.cell? ⟨b2, 3, none⟩ = some (.slice A_r2 s2.length c_r2) := (blk_cell BK_b2.out 3).trans rfl
  have hf_b2_3 := blk_frozen BK_b2.out 3
  replace HC_r1 := mvC HC_r1 hB
  replace HC_r2 := mvC HC_r2 hB
  replace HC_r3 := mvC HC_r3 hB
  have BK_b3 := Aside0.mk hBN
  clear hG hBN hB
  have hc_b3_0 : w18_.cell? ⟨b3, 0, none⟩ = some (.int .u32 g3) := (blk_cell BK_b3.out 0).trans rfl
  have hf_b3_0 := blk_frozen BK_b3.out 0
  have hc_b3_1 : w18_.cell? ⟨b3, 1, none⟩ = some (.bool e3) := (blk_cell BK_b3.out 1).trans rfl
  have hf_b3_1 := blk_frozen BK_b3.out 1
  have hc_b3_2 : w18_.cell? ⟨b3, 2, none⟩ = some (.int .i64 l3) := (blk_cell BK_b3.out 2).trans rfl
  have hf_b3_2 := blk_frozen BK_b3.out 2
  have hc_b3_3 : w18_.cell? ⟨b3, 3, none⟩ = some (.slice A_r3 s3.length c_r3) := (blk_cell BK_b3.out 3).trans rfl
  have hf_b3_3 := blk_frozen BK_b3.out 3
  go_cut [104] (fun v104 wc => v104 = .bool false ∧ Aside0 (Below w18_.heap.size w18_ wc))
  case first =>
    have HZ := Aside0.mk (Below.refl w18_.heap.size w18_)
    clear hc_gt_0 hf_gt_0 hc_gt_1 hf_gt_1
    clear BK_gt
    clear hc_gm_0 hf_gm_0 hc_gm_1 hf_gm_1 hc_gm_2 hf_gm_2 hc_gm_3 hf_gm_3
    clear BK_gm
    clear hc_b3_0 hf_b3_0 hc_b3_1 hf_b3_1 hc_b3_2 hf_b3_2 hc_b3_3 hf_b3_3
    clear BK_b3
    clear HC_r3 HK_r3
    clear Xd3
    obtain ⟨d1⟩ := Xd1
    obtain ⟨d2⟩ := Xd2
    rcases d1 with ⟨rfl, rfl, hw1⟩ | rfl
    · rcases d2 with ⟨rfl, rfl, hw2⟩ | rfl
      · cases bi
        · have XW1 := Aside0.mk (hw1 rfl)
          clear hw1
          have XW2 := Aside0.mk (hw2 rfl)
          clear hw2
          go_wp2_with (first | (go_at_call 19; with_reducible refine (wants_flat Xhm1.out XW1.out _ _ _ HC_r1.out HK_r1.out).mono ?_; rintro e w19_ ⟨rfl, hB⟩; replace HB := mvH HB hB; replace HZ := mvH HZ hB; clear hc_b1_0 hf_b1_0 hc_b1_1 hf_b1_1 hc_b1_2 hf_b1_2 hc_b1_3 hf_b1_3; replace BK_b1 := mvB BK_b1 hB; have hc_b1_0 : w19_.cell? ⟨b1, 0, none⟩ = some (.int .u32 g1) := (blk_cell BK_b1.out 0).trans rfl; have hf_b1_0 := blk_frozen BK_b1.out 0; have hc_b1_1 : w19_.cell? ⟨b1, 1, none⟩ = some (.bool true) := (blk_cell BK_b1.out 1).trans rfl; have hf_b1_1 := blk_frozen BK_b1.out 1; have hc_b1_2 : w19_.cell? ⟨b1, 2, none⟩ = some (.int .i64 l1) := (blk_cell BK_b1.out 2).trans rfl; have hf_b1_2 := blk_frozen BK_b1.out 2; have hc_b1_3 : w19_.cell? ⟨b1, 3, none⟩ = some (.slice A_r1 s1.length c_r1) := (blk_cell BK_b1.out 3).trans rfl; have hf_b1_3 := blk_frozen BK_b1.out 3; clear hc_b2_0 hf_b2_0 hc_b2_1 hf_b2_1 hc_b2_2 hf_b2_2 hc_b2_3 hf_b2_3; replace BK_b2 := mvB BK_b2 hB; have hc_b2_0 : w19_.cell? ⟨b2, 0, none⟩ = some (.int .u32 g2) := (blk_cell BK_b2.out 0).trans rfl; have hf_b2_0 := blk_frozen BK_b2.out 0; have hc_b2_1 : w19_.cell? ⟨b2, 1, none⟩ = some (.bool true) := (blk_cell BK_b2.out 1).trans rfl; have hf_b2_1 := blk_frozen BK_b2.out 1; have hc_b2_2 : w19_.cell? ⟨b2, 2, none⟩ = some (.int .i64 l2) := (blk_cell BK_b2.out 2).trans rfl; have hf_b2_2 := blk_frozen BK_b2.out 2; have hc_b2_3 : w19_.cell? ⟨b2, 3, none⟩ = some (.slice A_r2 s2.length c_r2) := (blk_cell BK_b2.out 3).trans rfl; have hf_b2_3 := blk_frozen BK_b2.out 3; replace HC_r1 := mvC HC_r1 hB; replace HC_r2 := mvC HC_r2 hB; clear hB) | (go_at_call 19; with_reducible refine (wants_flat Xhm2.out XW2.out _ _ _ HC_r2.out HK_r2.out).mono ?_; rintro e w20_ ⟨rfl, hB⟩; replace HB := mvH HB hB; replace HZ := mvH HZ hB; clear hc_b1_0 hf_b1_0 hc_b1_1 hf_b1_1 hc_b1_2 hf_b1_2 hc_b1_3 hf_b1_3; replace BK_b1 := mvB BK_b1 hB; have hc_b1_0 : w20_.cell? ⟨b1, 0, none⟩ = some (.int .u32 g1) := (blk_cell BK_b1.out 0).trans rfl; have hf_b1_0 := blk_frozen BK_b1.out 0; have hc_b1_1 : w20_.cell? ⟨b1, 1, none⟩ = some (.bool true) := (blk_cell BK_b1.out 1).trans rfl; have hf_b1_1 := blk_frozen BK_b1.out 1; have hc_b1_2 : w20_.cell? ⟨b1, 2, none⟩ = some (.int .i64 l1) := (blk_cell BK_b1.out 2).trans rfl; have hf_b1_2 := blk_frozen BK_b1.out 2; have hc_b1_3 : w20_.cell? ⟨b1, 3, none⟩ = some (.slice A_r1 s1.length c_r1) := (blk_cell BK_b1.out 3).trans rfl; have hf_b1_3 := blk_frozen BK_b1.out 3; clear hc_b2_0 hf_b2_0 hc_b2_1 hf_b2_1 hc_b2_2 hf_b2_2 hc_b2_3 hf_b2_3; replace BK_b2 := mvB BK_b2 hB; have hc_b2_0 : w20_.cell? ⟨b2, 0, none⟩ = some (.int .u32 g2) := (blk_cell BK_b2.out 0).trans rfl; have hf_b2_0 := blk_frozen BK_b2.out 0; have hc_b2_1 : w20_.cell? ⟨b2, 1, none⟩ = some (.bool true) := (blk_cell BK_b2.out 1).trans rfl; have hf_b2_1 := blk_frozen BK_b2.out 1; have hc_b2_2 : w20_.cell? ⟨b2, 2, none⟩ = some (.int .i64 l2) := (blk_cell BK_b2.out 2).trans rfl; have hf_b2_2 := blk_frozen BK_b2.out 2; have hc_b2_3 : w20_.cell? ⟨b2, 3, none⟩ = some (.slice A_r2 s2.length c_r2) := (blk_cell BK_b2.out 3).trans rfl; have hf_b2_3 := blk_frozen BK_b2.out 3; replace HC_r1 := mvC HC_r1 hB; replace HC_r2 := mvC HC_r2 hB; clear hB))
          go_meet
          case rel => exact ⟨rfl, HZ⟩
        · clear hw1
          clear hw2
          go_wp2
          go_meet
          case rel => exact ⟨rfl, HZ⟩
      · cases bi
        · have XW1 := Aside0.mk (hw1 rfl)
          clear hw1
          clear hc_b2_0 hf_b2_0 hc_b2_1 hf_b2_1 hc_b2_2 hf_b2_2 hc_b2_3 hf_b2_3
          clear BK_b2
          go_wp2_with (first | (go_at_call 19; with_reducible refine (wants_flat Xhm1.out XW1.out _ _ _ HC_r1.out HK_r1.out).mono ?_; rintro e w19_ ⟨rfl, hB⟩; replace HB := mvH HB hB; replace HZ := mvH HZ hB; clear hc_b1_0 hf_b1_0 hc_b1_1 hf_b1_1 hc_b1_2 hf_b1_2 hc_b1_3 hf_b1_3; replace BK_b1 := mvB BK_b1 hB; have hc_b1_0 : w19_.cell? ⟨b1, 0, none⟩ = some (.int .u32 g1) := (blk_cell BK_b1.out 0).trans rfl; have hf_b1_0 := blk_frozen BK_b1.out 0; have hc_b1_1 : w19_.cell? ⟨b1, 1, none⟩ = some (.bool true) := (blk_cell BK_b1.out 1).trans rfl; have hf_b1_1 := blk_frozen BK_b1.out 1; have hc_b1_2 : w19_.cell? ⟨b1, 2, none⟩ = some (.int .i64 l1) := (blk_cell BK_b1.out 2).trans rfl; have hf_b1_2 := blk_frozen BK_b1.out 2; have hc_b1_3 : w19_.cell? ⟨b1, 3, none⟩ = some (.slice A_r1 s1.length c_r1) := (blk_cell BK_b1.out 3).trans rfl; have hf_b1_3 := blk_frozen BK_b1.out 3; replace HC_r1 := mvC HC_r1 hB; replace HC_r2 := mvC HC_r2 hB; clear hB))
          go_meet
          case rel => exact ⟨rfl, HZ⟩
        · clear hw1
          clear hc_b2_0 hf_b2_0 hc_b2_1 hf_b2_1 hc_b2_2 hf_b2_2 hc_b2_3 hf_b2_3
          clear BK_b2
          go_wp2
          go_meet
          case rel => exact ⟨rfl, HZ⟩
    · rcases d2 with ⟨rfl, rfl, hw2⟩ | rfl
      · cases bi
        · have XW2 := Aside0.mk (hw2 rfl)
          clear hw2
          clear hc_b1_0 hf_b1_0 hc_b1_1 hf_b1_1 hc_b1_2 hf_b1_2 hc_b1_3 hf_b1_3
          clear BK_b1
          go_wp2_with (first | (go_at_call 19; with_reducible refine (wants_flat Xhm2.out XW2.out _ _ _ HC_r2.out HK_r2.out).mono ?_; rintro e w19_ ⟨rfl, hB⟩; replace HB := mvH HB hB; replace HZ := mvH HZ hB; clear hc_b2_0 hf_b2_0 hc_b2_1 hf_b2_1 hc_b2_2 hf_b2_2 hc_b2_3 hf_b2_3; replace BK_b2 := mvB BK_b2 hB; have hc_b2_0 : w19_.cell? ⟨b2, 0, none⟩ = some (.int .u32 g2) := (blk_cell BK_b2.out 0).trans rfl; have hf_b2_0 := blk_frozen BK_b2.out 0; have hc_b2_1 : w19_.cell? ⟨b2, 1, none⟩ = some (.bool true) := (blk_cell BK_b2.out 1).trans rfl; have hf_b2_1 := blk_frozen BK_b2.out 1; have hc_b2_2 : w19_.cell? ⟨b2, 2, none⟩ = some (.int .i64 l2) := (blk_cell BK_b2.out 2).trans rfl; have hf_b2_2 := blk_frozen BK_b2.out 2; have hc_b2_3 : w19_.cell? ⟨b2, 3, none⟩ = some (.slice A_r2 s2.length c_r2) := (blk_cell BK_b2.out 3).trans rfl; have hf_b2_3 := blk_frozen BK_b2.out 3; replace HC_r1 := mvC HC_r1 hB; replace HC_r2 := mvC HC_r2 hB; clear hB))
          go_meet
          case rel => exact ⟨rfl, HZ⟩
        · clear hw2
          clear hc_b1_0 hf_b1_0 hc_b1_1 hf_b1_1 hc_b1_2 hf_b1_2 hc_b1_3 hf_b1_3
          clear BK_b1
          go_wp2
          go_meet
          case rel => exact ⟨rfl, HZ⟩
      · cases bi
        · clear hc_b1_0 hf_b1_0 hc_b1_1 hf_b1_1 hc_b1_2 hf_b1_2 hc_b1_3 hf_b1_3
          clear BK_b1
          clear hc_b2_0 hf_b2_0 hc_b2_1 hf_b2_1 hc_b2_2 hf_b2_2 hc_b2_3 hf_b2_3
          clear BK_b2
          go_wp2
          go_meet
          case rel => exact ⟨rfl, HZ⟩
        · clear hc_b1_0 hf_b1_0 hc_b1_1 hf_b1_1 hc_b1_2 hf_b1_2 hc_b1_3 hf_b1_3
          clear BK_b1
          clear hc_b2_0 hf_b2_0 hc_b2_1 hf_b2_1 hc_b2_2 hf_b2_2 hc_b2_3 hf_b2_3
          clear BK_b2
          go_wp2
          go_meet
          case rel => exact ⟨rfl, HZ⟩
  case rest =>
    clear Xd1 Xd2
    clear hc_b1_0 hf_b1_0 hc_b1_1 hf_b1_1 hc_b1_2 hf_b1_2 hc_b1_3 hf_b1_3
    clear BK_b1
    clear hc_b2_0 hf_b2_0 hc_b2_1 hf_b2_1 hc_b2_2 hf_b2_2 hc_b2_3 hf_b2_3
    clear BK_b2
    clear HC_r1 HK_r1
    clear HC_r2 HK_r2
    obtain ⟨rfl, HZ⟩ := hcut
    have hB := HZ.out
    replace HB := mvH HB hB
    clear hc_gt_0 hf_gt_0 hc_gt_1 hf_gt_1
    replace BK_gt := mvB BK_gt hB
    have hc_gt_0 : wc.cell? ⟨gt, 0, none⟩ = some (.int .i64 t.f0) := (blk_cell BK_gt.out 0).trans rfl
    have hf_gt_0 := blk_frozen BK_gt.out 0
    have hc_gt_1 : wc.cell? ⟨gt, 1, none⟩ = some (.int .i64 t.f1) := (blk_cell BK_gt.out 1).trans rfl
    have hf_gt_1 := blk_frozen BK_gt.out 1
    clear hc_gm_0 hf_gm_0 hc_gm_1 hf_gm_1 hc_gm_2 hf_gm_2 hc_gm_3 hf_gm_3
    replace BK_gm := mvB BK_gm hB
    have hc_gm_0 : wc.cell? ⟨gm, 0, none⟩ = some (.int .u32 g) := (blk_cell BK_gm.out 0).trans rfl
    have hf_gm_0 := blk_frozen BK_gm.out 0
    have hc_gm_1 : wc.cell? ⟨gm, 1, none⟩ = some (.bool ex) := (blk_cell BK_gm.out 1).trans rfl
    have hf_gm_1 := blk_frozen BK_gm.out 1
    have hc_gm_2 : wc.cell? ⟨gm, 2, none⟩ = some (.int .i64 lf) := (blk_cell BK_gm.out 2).trans rfl
    have hf_gm_2 := blk_frozen BK_gm.out 2
    have hc_gm_3 : wc.cell? ⟨gm, 3, none⟩ = some (.slice A_x sr.length c_x) := (blk_cell BK_gm.out 3).trans rfl
    have hf_gm_3 := blk_frozen BK_gm.out 3
    clear hc_b3_0 hf_b3_0 hc_b3_1 hf_b3_1 hc_b3_2 hf_b3_2 hc_b3_3 hf_b3_3
    replace BK_b3 := mvB BK_b3 hB
    have hc_b3_0 : wc.cell? ⟨b3, 0, none⟩ = some (.int .u32 g3) := (blk_cell BK_b3.out 0).trans rfl
    have hf_b3_0 := blk_frozen BK_b3.out 0
    have hc_b3_1 : wc.cell? ⟨b3, 1, none⟩ = some (.bool e3) := (blk_cell BK_b3.out 1).trans rfl
    have hf_b3_1 := blk_frozen BK_b3.out 1
    have hc_b3_2 : wc.cell? ⟨b3, 2, none⟩ = some (.int .i64 l3) := (blk_cell BK_b3.out 2).trans rfl
    have hf_b3_2 := blk_frozen BK_b3.out 2
    have hc_b3_3 : wc.cell? ⟨b3, 3, none⟩ = some (.slice A_r3 s3.length c_r3) := (blk_cell BK_b3.out 3).trans rfl
    have hf_b3_3 := blk_frozen BK_b3.out 3
    replace HC_r3 := mvC HC_r3 hB
    clear hB HZ
    obtain ⟨d3⟩ := Xd3
    rcases d3 with ⟨rfl, rfl, hq, hwf, hwt⟩ | rfl
    · have XQ := Aside0.mk hq
      have XF := Aside0.mk hwf
      have XT := Aside0.mk hwt
      clear hq hwf hwt
      go_upto_region 17 with (first | (go_at_call 17; (with_reducible refine (tick_flat Xhm3.out Xhl4.out Xhh4.out _ _ _ HC_r3.out HK_r3.out).mono ?_); rintro e_ w19_ ⟨A_r4, c_r4, rfl, hC, hK, hB⟩; replace HB := mvH HB hB; clear hc_gt_0 hf_gt_0 hc_gt_1 hf_gt_1; replace BK_gt := mvB BK_gt hB; have hc_gt_0 : w19_.cell? ⟨gt, 0, none⟩ = some (.int .i64 t.f0) := (blk_cell BK_gt.out 0).trans rfl; have hf_gt_0 := blk_frozen BK_gt.out 0; have hc_gt_1 : w19_.cell? ⟨gt, 1, none⟩ = some (.int .i64 t.f1) := (blk_cell BK_gt.out 1).trans rfl; have hf_gt_1 := blk_frozen BK_gt.out 1; clear hc_gm_0 hf_gm_0 hc_gm_1 hf_gm_1 hc_gm_2 hf_gm_2 hc_gm_3 hf_gm_3; replace BK_gm := mvB BK_gm hB; have hc_gm_0 : w19_.cell? ⟨gm, 0, none⟩ = some (.int .u32 g) := (blk_cell BK_gm.out 0).trans rfl; have hf_gm_0 := blk_frozen BK_gm.out 0; have hc_gm_1 : w19_.cell? ⟨gm, 1, none⟩ = some (.bool ex) := (blk_cell BK_gm.out 1).trans rfl; have hf_gm_1 := blk_frozen BK_gm.out 1; have hc_gm_2 : w19_.cell? ⟨gm, 2, none⟩ = some (.int .i64 lf) := (blk_cell BK_gm.out 2).trans rfl; have hf_gm_2 := blk_frozen BK_gm.out 2; have hc_gm_3 : w19_.cell? ⟨gm, 3, none⟩ = some (.slice A_x sr.length c_x) := (blk_cell BK_gm.out 3).trans rfl; have hf_gm_3 := blk_frozen BK_gm.out 3; clear hc_b3_0 hf_b3_0 hc_b3_1 hf_b3_1 hc_b3_2 hf_b3_2 hc_b3_3 hf_b3_3; replace BK_b3 := mvB BK_b3 hB; have hc_b3_0 : w19_.cell? ⟨b3, 0, none⟩ = some (.int .u32 g3) := (blk_cell BK_b3.out 0).trans rfl; have hf_b3_0 := blk_frozen BK_b3.out 0; have hc_b3_1 : w19_.cell? ⟨b3, 1, none⟩ = some (.bool e3) := (blk_cell BK_b3.out 1).trans rfl; have hf_b3_1 := blk_frozen BK_b3.out 1; have hc_b3_2 : w19_.cell? ⟨b3, 2, none⟩ = some (.int .i64 l3) := (blk_cell BK_b3.out 2).trans rfl; have hf_b3_2 := blk_frozen BK_b3.out 2; have hc_b3_3 : w19_.cell? ⟨b3, 3, none⟩ = some (.slice A_r3 s3.length c_r3) := (blk_cell BK_b3.out 3).trans rfl; have hf_b3_3 := blk_frozen BK_b3.out 3; replace HC_r3 := mvC HC_r3 hB; have HC_r4 := Aside0.mk hC; have HK_r4 := Aside0.mk hK; clear hC hK hB) | ((with_reducible refine gate_dst (N := 18) rfl ?_); (try (refine gate_guard (by rfl) ?_; dsimp only)); refine box_event ?hg (N := 18) ?hd (cs := #[.int .u32 0, .bool false, .int .i64 0, .slice none 0 0]) (t := 28) ?hr ?_; (case hd => rfl); (case hg => rfl); (case hr => first | (go_simp; done) | (go_simp; rfl)); intro b4 hg w20_ hbox hB0; have hG := Aside0.mk (show w19_.heap.size ≤ b4 from Nat.le_of_eq hg.symm); clear hg; have hBX := Aside0.mk hbox; have hB1 := Aside0.mk hB0; clear hB0; have hc_b4_0 : w20_.cell? ⟨b4, 0, none⟩ = some (.int .u32 0) := (blk_cell hbox 0).trans rfl; have hf_b4_0 := blk_frozen hbox 0; have hc_b4_1 : w20_.cell? ⟨b4, 1, none⟩ = some (.bool false) := (blk_cell hbox 1).trans rfl; have hf_b4_1 := blk_frozen hbox 1; have hc_b4_2 : w20_.cell? ⟨b4, 2, none⟩ = some (.int .i64 0) := (blk_cell hbox 2).trans rfl; have hf_b4_2 := blk_frozen hbox 2; have hc_b4_3 : w20_.cell? ⟨b4, 3, none⟩ = some (.slice none 0 0) := (blk_cell hbox 3).trans rfl; have hf_b4_3 := blk_frozen hbox 3; clear hbox))
      have hB : Below w19_.heap.size w19_ ((((w20_.setCell ⟨b4, 0, none⟩ (.int .u32 g4)).setCell ⟨b4, 1, none⟩ (.bool false)).setCell ⟨b4, 2, none⟩ (.int .i64 l4)).setCell ⟨b4, 3, none⟩ (.slice A_r4 s4.length c_r4)) := (below_set (below_set (below_set (below_set hB1.out hG.out) hG.out) hG.out) hG.out)
      have hBN : ((((w20_.setCell ⟨b4, 0, none⟩ (.int .u32 g4)).setCell ⟨b4, 1, none⟩ (.bool false)).setCell ⟨b4, 2, none⟩ (.int .i64 l4)).setCell ⟨b4, 3, none⟩ (.slice A_r4 s4.length c_r4)).heap[b4]? = some (.cells #[.int .u32 g4, .bool false, .int .i64 l4, .slice A_r4 s4.length c_r4] 28 (0, 0)) := (blk_put (cs := #[.int .u32 g4, .bool false, .int .i64 l4, .slice none 0 0]) (blk_put (cs := #[.int .u32 g4, .bool false, .int .i64 0, .slice none 0 0]) (blk_put (cs := #[.int .u32 g4, .bool false, .int .i64 0, .slice none 0 0]) (blk_put (cs := #[.int .u32 0, .bool false, .int .i64 0, .slice none 0 0]) hBX.out 0 (.int .u32 g4) rfl) 1 (.bool false) rfl) 2 (.int .i64 l4) rfl) 3 (.slice A_r4 s4.length c_r4) rfl)
      clear hBX hB1
      clear hc_b4_0 hf_b4_0 hc_b4_1 hf_b4_1 hc_b4_2 hf_b4_2 hc_b4_3 hf_b4_3
      generalize ((((w20_.setCell ⟨b4, 0, none⟩ (.int .u32 g4)).setCell ⟨b4, 1, none⟩ (.bool false)).setCell ⟨b4, 2, none⟩ (.int .i64 l4)).setCell ⟨b4, 3, none⟩ (.slice A_r4 s4.length c_r4)) = w21_ at hB hBN ⊢
      replace HB := mvH HB hB
      clear hc_gt_0 hf_gt_0 hc_gt_1 hf_gt_1
      replace BK_gt := mvB BK_gt hB
      have hc_gt_0 : w21_.cell? ⟨gt, 0, none⟩ = some (.int .i64 t.f0) := (blk_cell BK_gt.out 0).trans rfl
      have hf_gt_0 := blk_frozen BK_gt.out 0
      have hc_gt_1 : w21_.cell? ⟨gt, 1, none⟩ = some (.int .i64 t.f1) := (blk_cell BK_gt.out 1).trans rfl
      have hf_gt_1 := blk_frozen BK_gt.out 1
      clear hc_gm_0 hf_gm_0 hc_gm_1 hf_gm_1 hc_gm_2 hf_gm_2 hc_gm_3 hf_gm_3
      replace BK_gm := mvB BK_gm hB
      have hc_gm_0 : w21_.cell? ⟨gm, 0, none⟩ = some (.int .u32 g) := (blk_cell BK_gm.out 0).trans rfl
      have hf_gm_0 := blk_frozen BK_gm.out 0
      have hc_gm_1 : w21_.cell? ⟨gm, 1, none⟩ = some (.bool ex) := (blk_cell BK_gm.out 1).trans rfl
      have hf_gm_1 := blk_frozen BK_gm.out 1
      have hc_gm_2 : w21_.cell? ⟨gm, 2, none⟩ = some (.int .i64 lf) := (blk_cell BK_gm.out 2).trans rfl
      have hf_gm_2 := blk_frozen BK_gm.out 2
      have hc_gm_3 : w21_.cell? ⟨gm, 3, none⟩ = some (.slice A_x sr.length c_x) := (blk_cell BK_gm.out 3).trans rfl
      have hf_gm_3 := blk_frozen BK_gm.out 3
      clear hc_b3_0 hf_b3_0 hc_b3_1 hf_b3_1 hc_b3_2 hf_b3_2 hc_b3_3 hf_b3_3
      replace BK_b3 := mvB BK_b3 hB
      have hc_b3_0 : w21_.cell? ⟨b3, 0, none⟩ = some (.int .u32 g3) := (blk_cell BK_b3.out 0).trans rfl
      have hf_b3_0 := blk_frozen BK_b3.out 0
      have hc_b3_1 : w21_.cell? ⟨b3, 1, none⟩ = some (.bool e3) := (blk_cell BK_b3.out 1).trans rfl
      have hf_b3_1 := blk_frozen BK_b3.out 1
      have hc_b3_2 : w21_.cell? ⟨b3, 2, none⟩ = some (.int .i64 l3) := (blk_cell BK_b3.out 2).trans rfl
      have hf_b3_2 := blk_frozen BK_b3.out 2
      have hc_b3_3 : w21_.cell? ⟨b3, 3, none⟩ = some (.slice A_r3 s3.length c_r3) := (blk_cell BK_b3.out 3).trans rfl
      have hf_b3_3 := blk_frozen BK_b3.out 3
      replace HC_r3 := mvC HC_r3 hB
      replace HC_r4 := mvC HC_r4 hB
      have BK_b4 := Aside0.mk hBN
      clear hG hBN hB
      have hc_b4_0 : w21_.cell? ⟨b4, 0, none⟩ = some (.int .u32 g4) := (blk_cell BK_b4.out 0).trans rfl
      have hf_b4_0 := blk_frozen BK_b4.out 0
      have hc_b4_1 : w21_.cell? ⟨b4, 1, none⟩ = some (.bool false) := (blk_cell BK_b4.out 1).trans rfl
      have hf_b4_1 := blk_frozen BK_b4.out 1
      have hc_b4_2 : w21_.cell? ⟨b4, 2, none⟩ = some (.int .i64 l4) := (blk_cell BK_b4.out 2).trans rfl
      have hf_b4_2 := blk_frozen BK_b4.out 2
      have hc_b4_3 : w21_.cell? ⟨b4, 3, none⟩ = some (.slice A_r4 s4.length c_r4) := (blk_cell BK_b4.out 3).trans rfl
      have hf_b4_3 := blk_frozen BK_b4.out 3
      clear hc_b3_0 hf_b3_0 hc_b3_1 hf_b3_1 hc_b3_2 hf_b3_2 hc_b3_3 hf_b3_3
      clear BK_b3
      clear HC_r3 HK_r3
      cases ex with
      | false =>
        clear XQ
        go_upto_region 19 with fail
        cases bi with
        | false =>
          have XW := Aside0.mk (XF.out rfl)
          clear XF XT
          go_wp2_with (first | (go_at_call 19; with_reducible refine (wants_flat Xhm4.out XW.out _ _ _ HC_r4.out HK_r4.out).mono ?_; rintro e w22_ ⟨rfl, hB⟩; replace HB := mvH HB hB; clear hc_gt_0 hf_gt_0 hc_gt_1 hf_gt_1; replace BK_gt := mvB BK_gt hB; have hc_gt_0 : w22_.cell? ⟨gt, 0, none⟩ = some (.int .i64 t.f0) := (blk_cell BK_gt.out 0).trans rfl; have hf_gt_0 := blk_frozen BK_gt.out 0; have hc_gt_1 : w22_.cell? ⟨gt, 1, none⟩ = some (.int .i64 t.f1) := (blk_cell BK_gt.out 1).trans rfl; have hf_gt_1 := blk_frozen BK_gt.out 1; clear hc_gm_0 hf_gm_0 hc_gm_1 hf_gm_1 hc_gm_2 hf_gm_2 hc_gm_3 hf_gm_3; replace BK_gm := mvB BK_gm hB; have hc_gm_0 : w22_.cell? ⟨gm, 0, none⟩ = some (.int .u32 g) := (blk_cell BK_gm.out 0).trans rfl; have hf_gm_0 := blk_frozen BK_gm.out 0; have hc_gm_1 : w22_.cell? ⟨gm, 1, none⟩ = some (.bool false) := (blk_cell BK_gm.out 1).trans rfl; have hf_gm_1 := blk_frozen BK_gm.out 1; have hc_gm_2 : w22_.cell? ⟨gm, 2, none⟩ = some (.int .i64 lf) := (blk_cell BK_gm.out 2).trans rfl; have hf_gm_2 := blk_frozen BK_gm.out 2; have hc_gm_3 : w22_.cell? ⟨gm, 3, none⟩ = some (.slice A_x sr.length c_x) := (blk_cell BK_gm.out 3).trans rfl; have hf_gm_3 := blk_frozen BK_gm.out 3; clear hc_b4_0 hf_b4_0 hc_b4_1 hf_b4_1 hc_b4_2 hf_b4_2 hc_b4_3 hf_b4_3; replace BK_b4 := mvB BK_b4 hB; have hc_b4_0 : w22_.cell? ⟨b4, 0, none⟩ = some (.int .u32 g4) := (blk_cell BK_b4.out 0).trans rfl; have hf_b4_0 := blk_frozen BK_b4.out 0; have hc_b4_1 : w22_.cell? ⟨b4, 1, none⟩ = some (.bool false) := (blk_cell BK_b4.out 1).trans rfl; have hf_b4_1 := blk_frozen BK_b4.out 1; have hc_b4_2 : w22_.cell? ⟨b4, 2, none⟩ = some (.int .i64 l4) := (blk_cell BK_b4.out 2).trans rfl; have hf_b4_2 := blk_frozen BK_b4.out 2; have hc_b4_3 : w22_.cell? ⟨b4, 3, none⟩ = some (.slice A_r4 s4.length c_r4) := (blk_cell BK_b4.out 3).trans rfl; have hf_b4_3 := blk_frozen BK_b4.out 3; replace HC_r4 := mvC HC_r4 hB; clear hB))
          go_ret
          exact ⟨rfl, HB.out⟩
        | true =>
          by_cases hk : t.f0 = t.f1
          · go_wp2
            go_ret
            exact ⟨rfl, HB.out⟩
          · have XW := Aside0.mk (XT.out rfl hk)
            clear XF XT
            go_wp2_with (first | (go_at_call 19; with_reducible refine (wants_flat Xhm4.out XW.out _ _ _ HC_r4.out HK_r4.out).mono ?_; rintro e w22_ ⟨rfl, hB⟩; replace HB := mvH HB hB; clear hc_gt_0 hf_gt_0 hc_gt_1 hf_gt_1; replace BK_gt := mvB BK_gt hB; have hc_gt_0 : w22_.cell? ⟨gt, 0, none⟩ = some (.int .i64 t.f0) := (blk_cell BK_gt.out 0).trans rfl; have hf_gt_0 := blk_frozen BK_gt.out 0; have hc_gt_1 : w22_.cell? ⟨gt, 1, none⟩ = some (.int .i64 t.f1) := (blk_cell BK_gt.out 1).trans rfl; have hf_gt_1 := blk_frozen BK_gt.out 1; clear hc_gm_0 hf_gm_0 hc_gm_1 hf_gm_1 hc_gm_2 hf_gm_2 hc_gm_3 hf_gm_3; replace BK_gm := mvB BK_gm hB; have hc_gm_0 : w22_.cell? ⟨gm, 0, none⟩ = some (.int .u32 g) := (blk_cell BK_gm.out 0).trans rfl; have hf_gm_0 := blk_frozen BK_gm.out 0; have hc_gm_1 : w22_.cell? ⟨gm, 1, none⟩ = some (.bool false) := (blk_cell BK_gm.out 1).trans rfl; have hf_gm_1 := blk_frozen BK_gm.out 1; have hc_gm_2 : w22_.cell? ⟨gm, 2, none⟩ = some (.int .i64 lf) := (blk_cell BK_gm.out 2).trans rfl; have hf_gm_2 := blk_frozen BK_gm.out 2; have hc_gm_3 : w22_.cell? ⟨gm, 3, none⟩ = some (.slice A_x sr.length c_x) := (blk_cell BK_gm.out 3).trans rfl; have hf_gm_3 := blk_frozen BK_gm.out 3; clear hc_b4_0 hf_b4_0 hc_b4_1 hf_b4_1 hc_b4_2 hf_b4_2 hc_b4_3 hf_b4_3; replace BK_b4 := mvB BK_b4 hB; have hc_b4_0 : w22_.cell? ⟨b4, 0, none⟩ = some (.int .u32 g4) := (blk_cell BK_b4.out 0).trans rfl; have hf_b4_0 := blk_frozen BK_b4.out 0; have hc_b4_1 : w22_.cell? ⟨b4, 1, none⟩ = some (.bool false) := (blk_cell BK_b4.out 1).trans rfl; have hf_b4_1 := blk_frozen BK_b4.out 1; have hc_b4_2 : w22_.cell? ⟨b4, 2, none⟩ = some (.int .i64 l4) := (blk_cell BK_b4.out 2).trans rfl; have hf_b4_2 := blk_frozen BK_b4.out 2; have hc_b4_3 : w22_.cell? ⟨b4, 3, none⟩ = some (.slice A_r4 s4.length c_r4) := (blk_cell BK_b4.out 3).trans rfl; have hf_b4_3 := blk_frozen BK_b4.out 3; replace HC_r4 := mvC HC_r4 hB; clear hB))
            go_ret
            exact ⟨rfl, HB.out⟩
      | true =>
        have hq : ¬ ((n3 : Int) = 0) := by have h1 := XQ.out rfl; rw [XN3.out] at h1; omega
        clear XQ
        go_upto_region 19 with fail
        clear hq
        cases bi with
        | false =>
          have XW := Aside0.mk (XF.out rfl)
          clear XF XT
          go_wp2_with (first | (go_at_call 19; with_reducible refine (wants_flat Xhm4.out XW.out _ _ _ HC_r4.out HK_r4.out).mono ?_; rintro e w22_ ⟨rfl, hB⟩; replace HB := mvH HB hB; clear hc_gt_0 hf_gt_0 hc_gt_1 hf_gt_1; replace BK_gt := mvB BK_gt hB; have hc_gt_0 : w22_.cell? ⟨gt, 0, none⟩ = some (.int .i64 t.f0) := (blk_cell BK_gt.out 0).trans rfl; have hf_gt_0 := blk_frozen BK_gt.out 0; have hc_gt_1 : w22_.cell? ⟨gt, 1, none⟩ = some (.int .i64 t.f1) := (blk_cell BK_gt.out 1).trans rfl; have hf_gt_1 := blk_frozen BK_gt.out 1; clear hc_gm_0 hf_gm_0 hc_gm_1 hf_gm_1 hc_gm_2 hf_gm_2 hc_gm_3 hf_gm_3; replace BK_gm := mvB BK_gm hB; have hc_gm_0 : w22_.cell? ⟨gm, 0, none⟩ = some (.int .u32 g) := (blk_cell BK_gm.out 0).trans rfl; have hf_gm_0 := blk_frozen BK_gm.out 0; have hc_gm_1 : w22_.cell? ⟨gm, 1, none⟩ = some (.bool true) := (blk_cell BK_gm.out 1).trans rfl; have hf_gm_1 := blk_frozen BK_gm.out 1; have hc_gm_2 : w22_.cell? ⟨gm, 2, none⟩ = some (.int .i64 lf) := (blk_cell BK_gm.out 2).trans rfl; have hf_gm_2 := blk_frozen BK_gm.out 2; have hc_gm_3 : w22_.cell? ⟨gm, 3, none⟩ = some (.slice A_x sr.length c_x) := (blk_cell BK_gm.out 3).trans rfl; have hf_gm_3 := blk_frozen BK_gm.out 3; clear hc_b4_0 hf_b4_0 hc_b4_1 hf_b4_1 hc_b4_2 hf_b4_2 hc_b4_3 hf_b4_3; replace BK_b4 := mvB BK_b4 hB; have hc_b4_0 : w22_.cell? ⟨b4, 0, none⟩ = some (.int .u32 g4) := (blk_cell BK_b4.out 0).trans rfl; have hf_b4_0 := blk_frozen BK_b4.out 0; have hc_b4_1 : w22_.cell? ⟨b4, 1, none⟩ = some (.bool false) := (blk_cell BK_b4.out 1).trans rfl; have hf_b4_1 := blk_frozen BK_b4.out 1; have hc_b4_2 : w22_.cell? ⟨b4, 2, none⟩ = some (.int .i64 l4) := (blk_cell BK_b4.out 2).trans rfl; have hf_b4_2 := blk_frozen BK_b4.out 2; have hc_b4_3 : w22_.cell? ⟨b4, 3, none⟩ = some (.slice A_r4 s4.length c_r4) := (blk_cell BK_b4.out 3).trans rfl; have hf_b4_3 := blk_frozen BK_b4.out 3; replace HC_r4 := mvC HC_r4 hB; clear hB))
          go_ret
          exact ⟨rfl, HB.out⟩
        | true =>
          by_cases hk : t.f0 = t.f1
          · go_wp2
            go_ret
            exact ⟨rfl, HB.out⟩
          · have XW := Aside0.mk (XT.out rfl hk)
            clear XF XT
            go_wp2_with (first | (go_at_call 19; with_reducible refine (wants_flat Xhm4.out XW.out _ _ _ HC_r4.out HK_r4.out).mono ?_; rintro e w22_ ⟨rfl, hB⟩; replace HB := mvH HB hB; clear hc_gt_0 hf_gt_0 hc_gt_1 hf_gt_1; replace BK_gt := mvB BK_gt hB; have hc_gt_0 : w22_.cell? ⟨gt, 0, none⟩ = some (.int .i64 t.f0) := (blk_cell BK_gt.out 0).trans rfl; have hf_gt_0 := blk_frozen BK_gt.out 0; have hc_gt_1 : w22_.cell? ⟨gt, 1, none⟩ = some (.int .i64 t.f1) := (blk_cell BK_gt.out 1).trans rfl; have hf_gt_1 := blk_frozen BK_gt.out 1; clear hc_gm_0 hf_gm_0 hc_gm_1 hf_gm_1 hc_gm_2 hf_gm_2 hc_gm_3 hf_gm_3; replace BK_gm := mvB BK_gm hB; have hc_gm_0 : w22_.cell? ⟨gm, 0, none⟩ = some (.int .u32 g) := (blk_cell BK_gm.out 0).trans rfl; have hf_gm_0 := blk_frozen BK_gm.out 0; have hc_gm_1 : w22_.cell? ⟨gm, 1, none⟩ = some (.bool true) := (blk_cell BK_gm.out 1).trans rfl; have hf_gm_1 := blk_frozen BK_gm.out 1; have hc_gm_2 : w22_.cell? ⟨gm, 2, none⟩ = some (.int .i64 lf) := (blk_cell BK_gm.out 2).trans rfl; have hf_gm_2 := blk_frozen BK_gm.out 2; have hc_gm_3 : w22_.cell? ⟨gm, 3, none⟩ = some (.slice A_x sr.length c_x) := (blk_cell BK_gm.out 3).trans rfl; have hf_gm_3 := blk_frozen BK_gm.out 3; clear hc_b4_0 hf_b4_0 hc_b4_1 hf_b4_1 hc_b4_2 hf_b4_2 hc_b4_3 hf_b4_3; replace BK_b4 := mvB BK_b4 hB; have hc_b4_0 : w22_.cell? ⟨b4, 0, none⟩ = some (.int .u32 g4) := (blk_cell BK_b4.out 0).trans rfl; have hf_b4_0 := blk_frozen BK_b4.out 0; have hc_b4_1 : w22_.cell? ⟨b4, 1, none⟩ = some (.bool false) := (blk_cell BK_b4.out 1).trans rfl; have hf_b4_1 := blk_frozen BK_b4.out 1; have hc_b4_2 : w22_.cell? ⟨b4, 2, none⟩ = some (.int .i64 l4) := (blk_cell BK_b4.out 2).trans rfl; have hf_b4_2 := blk_frozen BK_b4.out 2; have hc_b4_3 : w22_.cell? ⟨b4, 3, none⟩ = some (.slice A_r4 s4.length c_r4) := (blk_cell BK_b4.out 3).trans rfl; have hf_b4_3 := blk_frozen BK_b4.out 3; replace HC_r4 := mvC HC_r4 hB; clear hB))
            go_ret
            exact ⟨rfl, HB.out⟩
    · go_wp2
      go_ret
      exact ⟨rfl, HB.out⟩
theorem membTurns_call {t : S23} {x : S28} {l : List Int} {a : Int} (A_x : Option Addr) (c_x : Nat) (A_l : Option Addr) (c_l : Nat) (w : World) (hr : Kd.C k49 w A_x x.f3.length x.f3) (hc : x.f3.length ≤ c_x) (hs : Kd.C (Kd.int .u32) w A_l l.length l) (hcs : l.length ≤ c_l) :
    Calls Try.prog 8 #[.agg #[.int .i64 t.f0, .int .i64 t.f1, .int .u32 x.f0, .bool x.f1, .int .i64 x.f2, .slice A_x x.f3.length c_x, .slice A_l l.length c_l, .int .u32 a]] w (fun e w' => e = .returned (.bool true) ∧ Below w.heap.size w w') := membTurns_flat A_x c_x A_l c_l w hr hc hs hcs
end Go.Proofs.Ytbllchfgjginoaa
