/-
  MembKeeps, walked.
-/
import Derived.Test.YtbllchfgjginoaaMeRf
import Derived.Test.YtbllchfgjginoaaMeV
namespace Go.Proofs.Ytbllchfgjginoaa
open Go.RowKit Go.Lib Go.Proofs.YtbllchfgjginoaaW.PrintWords Go.Proofs.YtbllchfgjginoaaW.PrintLast Go.Proofs.YtbllchfgjginoaaW.PrintMore Go.Proofs.Ytbllchfgjginoaa.PMe
set_option linter.unusedVariables false
set_option linter.unusedSimpArgs false
def mk_T : Bool × List (List Nat × List Nat) := (true, [([], []), ([0], [0]), ([1], [1]), ([2, 1], [1, 2]), ([1, 3], [1, 3]), ([4, 1], [4]), ([5], [5]), ([6, 5], [5, 6]), ([5, 7], [5, 7]), ([8, 5], [8]), ([9], [9]), ([9], [9]), ([10, 11, 9, 9], [9, 10, 11]), ([9], [9]), ([13, 12, 9], [9, 13]), ([14], [14]), ([14], [14]), ([16, 14], [14, 16]), ([15, 17, 14], [14, 15, 17]), ([14, 18, 9], [9, 14, 18]), ([12, 19, 9], [9, 12, 19]), ([9, 20], [9, 20]), ([21, 14], [21]), ([22], [22]), ([22], [22]), ([23, 24, 22, 22], [22, 23, 24]), ([22], [22]), ([26, 22], [22, 26]), ([27, 25, 22], [22, 27]), ([28], [28]), ([28], [28]), ([30, 28], [28, 30]), ([29, 31, 28], [28, 29, 31]), ([28, 32, 22], [22, 28, 32]), ([25, 33, 22], [22, 25, 33]), ([22, 34], [22, 34]), ([35, 28], [35]), ([36], [36]), ([37, 36, 36], [36, 37]), ([36], [36]), ([36], [36]), ([40, 36], [36, 40]), ([39, 41, 36], [36, 39, 41]), ([38, 42, 36], [36, 38, 42]), ([36, 43], [36, 43]), ([44, 38, 0, 1, 2, 3, 4, 5, 6, 7, 8, 9, 10, 11, 12, 13, 14, 15, 16, 17, 18, 19, 20, 21, 22, 23, 24, 25, 26, 27, 28, 29, 30, 31, 32, 33, 34, 35, 36, 37, 38, 39, 40, 41, 42, 43, 44], [44])])
def mk_B : List Nat := [0, 1, 3, 7, 15, 31, 63, 127, 255, 511, 1023, 1023, 4095, 1023, 16383, 32767, 32767, 98303, 262143, 524287, 1048575, 2097151, 4194303, 8388607, 8388607, 33554431, 8388607, 75497471, 268435455, 536870911, 536870911, 1610612735, 4294967295, 8589934591, 17179869183, 34359738367, 68719476735, 137438953471, 274877906943, 137438953471, 137438953471, 1236950581247, 3985729650687, 8796093022207, 17592186044415, 35184372088831]
theorem mk_t : rtab .any (opsOf Try.f6 15) = mk_T := by kernel_rfl
theorem mk_b : waitsOk mk_T.2 mk_B = true := by kernel_rfl
theorem nil_C (w : World) : Kd.C k49 w none ([] : List S49).length ([] : List S49) := Kd.C_nil _ _ 
theorem right_nil {g : Int} {b : Bool} (h : b = true ↔ MOk ⟨g, false, 0, []⟩) (w : World) : Calls Try.prog 11 #[.agg #[.int .u32 g, .bool false, .int .i64 0, .slice none 0 0]] w fun e w' => e = .returned (.bool b) ∧ Below w.heap.size w w' :=
  right_flat h none 0 w (nil_C w) (Nat.le_refl _)
theorem hear_nil {t : S23} {g : Int} {kind : Int} {l : List Int} {g' lf' : Int} {ex' : Bool} {sr' : List S49} (hx : MOk ⟨g, false, 0, []⟩) (hm : l.length ≤ 1000) (h : hearR t ⟨g, false, 0, []⟩ kind l = (⟨g', ex', lf', sr'⟩, [], 0)) (B : Option Addr) (d : Nat) (w : World) (hl : Kd.C (Kd.int .u32) w B l.length l) (hd : l.length ≤ d) :
    Calls Try.prog 12 #[.agg #[.int .i64 t.f0, .int .i64 t.f1], .agg #[.int .u32 g, .bool false, .int .i64 0, .slice none 0 0], .int .u8 kind, .slice B l.length d] w fun e w' => ∃ A0 c0 A1 c1, e = .returned (.tuple #[.agg #[.int .u32 g', .bool ex', .int .i64 lf', .slice A0 sr'.length c0], .slice A1 0 c1, .int .i64 0]) ∧ Kd.C k49 w' A0 sr'.length sr' ∧ sr'.length ≤ c0 ∧ Below w.heap.size w w' :=
  hear_flat hx hm h rfl none 0 B d w (nil_C w) (Nat.le_refl _) hl hd
set_option maxHeartbeats 8000000 in
set_option maxRecDepth 100000 in
theorem membKeeps_call {t : S23} {g a n : Int} {l : List Int} (A_l : Option Addr) (c_l : Nat) (w : World) (hs : Kd.C (Kd.int .u32) w A_l l.length l) (hcs : l.length ≤ c_l) :
    Calls Try.prog 6 #[.agg #[.int .i64 t.f0, .int .i64 t.f1, .int .u32 g, .slice A_l l.length c_l, .int .u32 a, .int .i64 n]] w (fun e w' => e = .returned (.bool true) ∧ Below w.heap.size w w') := by
  have hu23 := Try.underlying23
  have hu28 := Try.underlying28
  have hu57 := Try.underlying57
  have HB := Aside0.mk (Below.refl w.heap.size w)
  have HC_l := Aside0.mk hs
  have HK_l := Aside0.mk hcs
  clear hs hcs
  go_enter Try.func6, Try.ntmps6
  go_upto_region 2 with (first | ((with_reducible refine gate_dst (N := 1) rfl ?_); (try (refine gate_guard (by rfl) ?_; dsimp only)); refine box_event ?hg (N := 1) ?hd (cs := #[.int .i64 t.f0, .int .i64 t.f1, .int .u32 g, .slice A_l l.length c_l, .int .u32 a, .int .i64 n]) (t := 57) ?hr ?_; (case hd => rfl); (case hg => rfl); (case hr => first | (go_simp; done) | (go_simp; rfl)); intro gp hg w1_ hbox hB; replace HB := mvH HB hB; have BK_gp := Aside0.mk hbox; clear hg hbox hB; have hc_gp_0 : w1_.cell? ⟨gp, 0, none⟩ = some (.int .i64 t.f0) := (blk_cell BK_gp.out 0).trans rfl; have hf_gp_0 := blk_frozen BK_gp.out 0; have hc_gp_1 : w1_.cell? ⟨gp, 1, none⟩ = some (.int .i64 t.f1) := (blk_cell BK_gp.out 1).trans rfl; have hf_gp_1 := blk_frozen BK_gp.out 1; have hc_gp_2 : w1_.cell? ⟨gp, 2, none⟩ = some (.int .u32 g) := (blk_cell BK_gp.out 2).trans rfl; have hf_gp_2 := blk_frozen BK_gp.out 2; have hc_gp_3 : w1_.cell? ⟨gp, 3, none⟩ = some (.slice A_l l.length c_l) := (blk_cell BK_gp.out 3).trans rfl; have hf_gp_3 := blk_frozen BK_gp.out 3; have hc_gp_4 : w1_.cell? ⟨gp, 4, none⟩ = some (.int .u32 a) := (blk_cell BK_gp.out 4).trans rfl; have hf_gp_4 := blk_frozen BK_gp.out 4; have hc_gp_5 : w1_.cell? ⟨gp, 5, none⟩ = some (.int .i64 n) := (blk_cell BK_gp.out 5).trans rfl; have hf_gp_5 := blk_frozen BK_gp.out 5) | ((with_reducible refine gate_dst (N := 3) rfl ?_); (try (refine gate_guard (by rfl) ?_; dsimp only)); refine box_event ?hg (N := 3) ?hd (cs := #[.int .i64 0, .int .i64 0]) (t := 23) ?hr ?_; (case hd => rfl); (case hg => rfl); (case hr => first | (go_simp; done) | (go_simp; rfl)); intro gt hg w2_ hbox hB0; have hG := Aside0.mk (show w1_.heap.size ≤ gt from Nat.le_of_eq hg.symm); clear hg; have hBX := Aside0.mk hbox; have hB1 := Aside0.mk hB0; clear hB0; have hc_gt_0 : w2_.cell? ⟨gt, 0, none⟩ = some (.int .i64 0) := (blk_cell hbox 0).trans rfl; have hf_gt_0 := blk_frozen hbox 0; have hc_gt_1 : w2_.cell? ⟨gt, 1, none⟩ = some (.int .i64 0) := (blk_cell hbox 1).trans rfl; have hf_gt_1 := blk_frozen hbox 1; clear hbox))
  have hB : Below w1_.heap.size w1_ ((w2_.setCell ⟨gt, 0, none⟩ (.int .i64 t.f0)).setCell ⟨gt, 1, none⟩ (.int .i64 t.f1)) := (below_set (below_set hB1.out hG.out) hG.out)
  have hBN : ((w2_.setCell ⟨gt, 0, none⟩ (.int .i64 t.f0)).setCell ⟨gt, 1, none⟩ (.int .i64 t.f1)).heap[gt]? = some (.cells #[.int .i64 t.f0, .int .i64 t.f1] 23 (0, 0)) := (blk_put (cs := #[.int .i64 t.f0, .int .i64 0]) (blk_put (cs := #[.int .i64 0, .int .i64 0]) hBX.out 0 (.int .i64 t.f0) rfl) 1 (.int .i64 t.f1) rfl)
  clear hBX hB1
  clear hc_gt_0 hf_gt_0 hc_gt_1 hf_gt_1
  generalize ((w2_.setCell ⟨gt, 0, none⟩ (.int .i64 t.f0)).setCell ⟨gt, 1, none⟩ (.int .i64 t.f1)) = w3_ at hB hBN ⊢
  replace HB := mvH HB hB
  clear hc_gp_0 hf_gp_0 hc_gp_1 hf_gp_1 hc_gp_2 hf_gp_2 hc_gp_3 hf_gp_3 hc_gp_4 hf_gp_4 hc_gp_5 hf_gp_5
  replace BK_gp := mvB BK_gp hB
  have hc_gp_0 : w3_.cell? ⟨gp, 0, none⟩ = some (.int .i64 t.f0) := (blk_cell BK_gp.out 0).trans rfl
  have hf_gp_0 := blk_frozen BK_gp.out 0
  have hc_gp_1 : w3_.cell? ⟨gp, 1, none⟩ = some (.int .i64 t.f1) := (blk_cell BK_gp.out 1).trans rfl
  have hf_gp_1 := blk_frozen BK_gp.out 1
  have hc_gp_2 : w3_.cell? ⟨gp, 2, none⟩ = some (.int .u32 g) := (blk_cell BK_gp.out 2).trans rfl
  have hf_gp_2 := blk_frozen BK_gp.out 2
  have hc_gp_3 : w3_.cell? ⟨gp, 3, none⟩ = some (.slice A_l l.length c_l) := (blk_cell BK_gp.out 3).trans rfl
  have hf_gp_3 := blk_frozen BK_gp.out 3
  have hc_gp_4 : w3_.cell? ⟨gp, 4, none⟩ = some (.int .u32 a) := (blk_cell BK_gp.out 4).trans rfl
  have hf_gp_4 := blk_frozen BK_gp.out 4
  have hc_gp_5 : w3_.cell? ⟨gp, 5, none⟩ = some (.int .i64 n) := (blk_cell BK_gp.out 5).trans rfl
  have hf_gp_5 := blk_frozen BK_gp.out 5
  have BK_gt := Aside0.mk hBN
  clear hG hBN hB
  have hc_gt_0 : w3_.cell? ⟨gt, 0, none⟩ = some (.int .i64 t.f0) := (blk_cell BK_gt.out 0).trans rfl
  have hf_gt_0 := blk_frozen BK_gt.out 0
  have hc_gt_1 : w3_.cell? ⟨gt, 1, none⟩ = some (.int .i64 t.f1) := (blk_cell BK_gt.out 1).trans rfl
  have hf_gt_1 := blk_frozen BK_gt.out 1
  go_upto_region 8 with (first | (go_at_call 9; with_reducible refine (shown_w _).mono ?_; rintro e w4_ ⟨rfl, hB⟩; replace HB := mvH HB hB; clear hc_gp_0 hf_gp_0 hc_gp_1 hf_gp_1 hc_gp_2 hf_gp_2 hc_gp_3 hf_gp_3 hc_gp_4 hf_gp_4 hc_gp_5 hf_gp_5; replace BK_gp := mvB BK_gp hB; have hc_gp_0 : w4_.cell? ⟨gp, 0, none⟩ = some (.int .i64 t.f0) := (blk_cell BK_gp.out 0).trans rfl; have hf_gp_0 := blk_frozen BK_gp.out 0; have hc_gp_1 : w4_.cell? ⟨gp, 1, none⟩ = some (.int .i64 t.f1) := (blk_cell BK_gp.out 1).trans rfl; have hf_gp_1 := blk_frozen BK_gp.out 1; have hc_gp_2 : w4_.cell? ⟨gp, 2, none⟩ = some (.int .u32 g) := (blk_cell BK_gp.out 2).trans rfl; have hf_gp_2 := blk_frozen BK_gp.out 2; have hc_gp_3 : w4_.cell? ⟨gp, 3, none⟩ = some (.slice A_l l.length c_l) := (blk_cell BK_gp.out 3).trans rfl; have hf_gp_3 := blk_frozen BK_gp.out 3; have hc_gp_4 : w4_.cell? ⟨gp, 4, none⟩ = some (.int .u32 a) := (blk_cell BK_gp.out 4).trans rfl; have hf_gp_4 := blk_frozen BK_gp.out 4; have hc_gp_5 : w4_.cell? ⟨gp, 5, none⟩ = some (.int .i64 n) := (blk_cell BK_gp.out 5).trans rfl; have hf_gp_5 := blk_frozen BK_gp.out 5; clear hc_gt_0 hf_gt_0 hc_gt_1 hf_gt_1; replace BK_gt := mvB BK_gt hB; have hc_gt_0 : w4_.cell? ⟨gt, 0, none⟩ = some (.int .i64 t.f0) := (blk_cell BK_gt.out 0).trans rfl; have hf_gt_0 := blk_frozen BK_gt.out 0; have hc_gt_1 : w4_.cell? ⟨gt, 1, none⟩ = some (.int .i64 t.f1) := (blk_cell BK_gt.out 1).trans rfl; have hf_gt_1 := blk_frozen BK_gt.out 1; clear hB) | ((with_reducible refine gate_dst (N := 9) rfl ?_); (try (refine gate_guard (by rfl) ?_; dsimp only)); refine box_event ?hg (N := 9) ?hd (cs := #[.int .u32 0, .bool false, .int .i64 0, .slice none 0 0]) (t := 28) ?hr ?_; (case hd => rfl); (case hg => rfl); (case hr => first | (go_simp; done) | (go_simp; rfl)); intro gm hg w5_ hbox hB0; have hG := Aside0.mk (show w4_.heap.size ≤ gm from Nat.le_of_eq hg.symm); clear hg; have hBX := Aside0.mk hbox; have hB1 := Aside0.mk hB0; clear hB0; have hc_gm_0 : w5_.cell? ⟨gm, 0, none⟩ = some (.int .u32 0) := (blk_cell hbox 0).trans rfl; have hf_gm_0 := blk_frozen hbox 0; have hc_gm_1 : w5_.cell? ⟨gm, 1, none⟩ = some (.bool false) := (blk_cell hbox 1).trans rfl; have hf_gm_1 := blk_frozen hbox 1; have hc_gm_2 : w5_.cell? ⟨gm, 2, none⟩ = some (.int .i64 0) := (blk_cell hbox 2).trans rfl; have hf_gm_2 := blk_frozen hbox 2; have hc_gm_3 : w5_.cell? ⟨gm, 3, none⟩ = some (.slice none 0 0) := (blk_cell hbox 3).trans rfl; have hf_gm_3 := blk_frozen hbox 3; clear hbox))
  have hB : Below w4_.heap.size w4_ ((((w5_.setCell ⟨gm, 0, none⟩ (.int .u32 g)).setCell ⟨gm, 1, none⟩ (.bool false)).setCell ⟨gm, 2, none⟩ (.int .i64 0)).setCell ⟨gm, 3, none⟩ (.slice none 0 0)) := (below_set (below_set (below_set (below_set hB1.out hG.out) hG.out) hG.out) hG.out)
  have hBN : ((((w5_.setCell ⟨gm, 0, none⟩ (.int .u32 g)).setCell ⟨gm, 1, none⟩ (.bool false)).setCell ⟨gm, 2, none⟩ (.int .i64 0)).setCell ⟨gm, 3, none⟩ (.slice none 0 0)).heap[gm]? = some (.cells #[.int .u32 g, .bool false, .int .i64 0, .slice none 0 0] 28 (0, 0)) := (blk_put (cs := #[.int .u32 g, .bool false, .int .i64 0, .slice none 0 0]) (blk_put (cs := #[.int .u32 g, .bool false, .int .i64 0, .slice none 0 0]) (blk_put (cs := #[.int .u32 g, .bool false, .int .i64 0, .slice none 0 0]) (blk_put (cs := #[.int .u32 0, .bool false, .int .i64 0, .slice none 0 0]) hBX.out 0 (.int .u32 g) rfl) 1 (.bool false) rfl) 2 (.int .i64 0) rfl) 3 (.slice none 0 0) rfl)
  clear hBX hB1
  clear hc_gm_0 hf_gm_0 hc_gm_1 hf_gm_1 hc_gm_2 hf_gm_2 hc_gm_3 hf_gm_3
  generalize ((((w5_.setCell ⟨gm, 0, none⟩ (.int .u32 g)).setCell ⟨gm, 1, none⟩ (.bool false)).setCell ⟨gm, 2, none⟩ (.int .i64 0)).setCell ⟨gm, 3, none⟩ (.slice none 0 0)) = w6_ at hB hBN ⊢
  replace HB := mvH HB hB
  clear hc_gp_0 hf_gp_0 hc_gp_1 hf_gp_1 hc_gp_2 hf_gp_2 hc_gp_3 hf_gp_3 hc_gp_4 hf_gp_4 hc_gp_5 hf_gp_5
  replace BK_gp := mvB BK_gp hB
  have hc_gp_0 : w6_.cell? ⟨gp, 0, none⟩ = some (.int .i64 t.f0) := (blk_cell BK_gp.out 0).trans rfl
  have hf_gp_0 := blk_frozen BK_gp.out 0
  have hc_gp_1 : w6_.cell? ⟨gp, 1, none⟩ = some (.int .i64 t.f1) := (blk_cell BK_gp.out 1).trans rfl
  have hf_gp_1 := blk_frozen BK_gp.out 1
  have hc_gp_2 : w6_.cell? ⟨gp, 2, none⟩ = some (.int .u32 g) := (blk_cell BK_gp.out 2).trans rfl
  have hf_gp_2 := blk_frozen BK_gp.out 2
  have hc_gp_3 : w6_.cell? ⟨gp, 3, none⟩ = some (.slice A_l l.length c_l) := (blk_cell BK_gp.out 3).trans rfl
  have hf_gp_3 := blk_frozen BK_gp.out 3
  have hc_gp_4 : w6_.cell? ⟨gp, 4, none⟩ = some (.int .u32 a) := (blk_cell BK_gp.out 4).trans rfl
  have hf_gp_4 := blk_frozen BK_gp.out 4
  have hc_gp_5 : w6_.cell? ⟨gp, 5, none⟩ = some (.int .i64 n) := (blk_cell BK_gp.out 5).trans rfl
  have hf_gp_5 := blk_frozen BK_gp.out 5
  clear hc_gt_0 hf_gt_0 hc_gt_1 hf_gt_1
  replace BK_gt := mvB BK_gt hB
  have hc_gt_0 : w6_.cell? ⟨gt, 0, none⟩ = some (.int .i64 t.f0) := (blk_cell BK_gt.out 0).trans rfl
  have hf_gt_0 := blk_frozen BK_gt.out 0
  have hc_gt_1 : w6_.cell? ⟨gt, 1, none⟩ = some (.int .i64 t.f1) := (blk_cell BK_gt.out 1).trans rfl
  have hf_gt_1 := blk_frozen BK_gt.out 1
  have BK_gm := Aside0.mk hBN
  clear hG hBN hB
  have hc_gm_0 : w6_.cell? ⟨gm, 0, none⟩ = some (.int .u32 g) := (blk_cell BK_gm.out 0).trans rfl
  have hf_gm_0 := blk_frozen BK_gm.out 0
  have hc_gm_1 : w6_.cell? ⟨gm, 1, none⟩ = some (.bool false) := (blk_cell BK_gm.out 1).trans rfl
  have hf_gm_1 := blk_frozen BK_gm.out 1
  have hc_gm_2 : w6_.cell? ⟨gm, 2, none⟩ = some (.int .i64 0) := (blk_cell BK_gm.out 2).trans rfl
  have hf_gm_2 := blk_frozen BK_gm.out 2
  have hc_gm_3 : w6_.cell? ⟨gm, 3, none⟩ = some (.slice none 0 0) := (blk_cell BK_gm.out 3).trans rfl
  have hf_gm_3 := blk_frozen BK_gm.out 3
  clear hc_gp_0 hf_gp_0 hc_gp_1 hf_gp_1 hc_gp_2 hf_gp_2 hc_gp_3 hf_gp_3 hc_gp_4 hf_gp_4 hc_gp_5 hf_gp_5
  clear BK_gp
  cases hm : mayB t
  case false =>
    have XM := Aside0.mk hm
    clear hm
    go_wp2_with (first | (go_at_call 10; with_reducible refine (mayR_w XM.out _).mono ?_; rintro e w7_ ⟨rfl, hB⟩; replace HB := mvH HB hB; clear hc_gt_0 hf_gt_0 hc_gt_1 hf_gt_1; replace BK_gt := mvB BK_gt hB; have hc_gt_0 : w7_.cell? ⟨gt, 0, none⟩ = some (.int .i64 t.f0) := (blk_cell BK_gt.out 0).trans rfl; have hf_gt_0 := blk_frozen BK_gt.out 0; have hc_gt_1 : w7_.cell? ⟨gt, 1, none⟩ = some (.int .i64 t.f1) := (blk_cell BK_gt.out 1).trans rfl; have hf_gt_1 := blk_frozen BK_gt.out 1; clear hc_gm_0 hf_gm_0 hc_gm_1 hf_gm_1 hc_gm_2 hf_gm_2 hc_gm_3 hf_gm_3; replace BK_gm := mvB BK_gm hB; have hc_gm_0 : w7_.cell? ⟨gm, 0, none⟩ = some (.int .u32 g) := (blk_cell BK_gm.out 0).trans rfl; have hf_gm_0 := blk_frozen BK_gm.out 0; have hc_gm_1 : w7_.cell? ⟨gm, 1, none⟩ = some (.bool false) := (blk_cell BK_gm.out 1).trans rfl; have hf_gm_1 := blk_frozen BK_gm.out 1; have hc_gm_2 : w7_.cell? ⟨gm, 2, none⟩ = some (.int .i64 0) := (blk_cell BK_gm.out 2).trans rfl; have hf_gm_2 := blk_frozen BK_gm.out 2; have hc_gm_3 : w7_.cell? ⟨gm, 3, none⟩ = some (.slice none 0 0) := (blk_cell BK_gm.out 3).trans rfl; have hf_gm_3 := blk_frozen BK_gm.out 3; clear hB))
    go_ret
    exact ⟨rfl, HB.out⟩
  by_cases hx : MOk ⟨g, false, 0, []⟩
  case neg =>
    have XM := Aside0.mk hm
    have XX : Aside0 (¬ MOk ⟨g, false, 0, []⟩) := ⟨hx⟩
    clear hm hx
    go_wp2_with (first | (go_at_call 10; with_reducible refine (mayR_w XM.out _).mono ?_; rintro e w7_ ⟨rfl, hB⟩; replace HB := mvH HB hB; clear hc_gt_0 hf_gt_0 hc_gt_1 hf_gt_1; replace BK_gt := mvB BK_gt hB; have hc_gt_0 : w7_.cell? ⟨gt, 0, none⟩ = some (.int .i64 t.f0) := (blk_cell BK_gt.out 0).trans rfl; have hf_gt_0 := blk_frozen BK_gt.out 0; have hc_gt_1 : w7_.cell? ⟨gt, 1, none⟩ = some (.int .i64 t.f1) := (blk_cell BK_gt.out 1).trans rfl; have hf_gt_1 := blk_frozen BK_gt.out 1; clear hc_gm_0 hf_gm_0 hc_gm_1 hf_gm_1 hc_gm_2 hf_gm_2 hc_gm_3 hf_gm_3; replace BK_gm := mvB BK_gm hB; have hc_gm_0 : w7_.cell? ⟨gm, 0, none⟩ = some (.int .u32 g) := (blk_cell BK_gm.out 0).trans rfl; have hf_gm_0 := blk_frozen BK_gm.out 0; have hc_gm_1 : w7_.cell? ⟨gm, 1, none⟩ = some (.bool false) := (blk_cell BK_gm.out 1).trans rfl; have hf_gm_1 := blk_frozen BK_gm.out 1; have hc_gm_2 : w7_.cell? ⟨gm, 2, none⟩ = some (.int .i64 0) := (blk_cell BK_gm.out 2).trans rfl; have hf_gm_2 := blk_frozen BK_gm.out 2; have hc_gm_3 : w7_.cell? ⟨gm, 3, none⟩ = some (.slice none 0 0) := (blk_cell BK_gm.out 3).trans rfl; have hf_gm_3 := blk_frozen BK_gm.out 3; clear hB) | (go_at_call 11; with_reducible refine (right_nil (b := false) (by simp [XX.out]) _).mono ?_; rintro e w8_ ⟨rfl, hB⟩; replace HB := mvH HB hB; clear hc_gt_0 hf_gt_0 hc_gt_1 hf_gt_1; replace BK_gt := mvB BK_gt hB; have hc_gt_0 : w8_.cell? ⟨gt, 0, none⟩ = some (.int .i64 t.f0) := (blk_cell BK_gt.out 0).trans rfl; have hf_gt_0 := blk_frozen BK_gt.out 0; have hc_gt_1 : w8_.cell? ⟨gt, 1, none⟩ = some (.int .i64 t.f1) := (blk_cell BK_gt.out 1).trans rfl; have hf_gt_1 := blk_frozen BK_gt.out 1; clear hc_gm_0 hf_gm_0 hc_gm_1 hf_gm_1 hc_gm_2 hf_gm_2 hc_gm_3 hf_gm_3; replace BK_gm := mvB BK_gm hB; have hc_gm_0 : w8_.cell? ⟨gm, 0, none⟩ = some (.int .u32 g) := (blk_cell BK_gm.out 0).trans rfl; have hf_gm_0 := blk_frozen BK_gm.out 0; have hc_gm_1 : w8_.cell? ⟨gm, 1, none⟩ = some (.bool false) := (blk_cell BK_gm.out 1).trans rfl; have hf_gm_1 := blk_frozen BK_gm.out 1; have hc_gm_2 : w8_.cell? ⟨gm, 2, none⟩ = some (.int .i64 0) := (blk_cell BK_gm.out 2).trans rfl; have hf_gm_2 := blk_frozen BK_gm.out 2; have hc_gm_3 : w8_.cell? ⟨gm, 3, none⟩ = some (.slice none 0 0) := (blk_cell BK_gm.out 3).trans rfl; have hf_gm_3 := blk_frozen BK_gm.out 3; clear hB))
    go_ret
    exact ⟨rfl, HB.out⟩
  have XM := Aside0.mk hm
  have XX : Aside0 (MOk ⟨g, false, 0, []⟩) := ⟨hx⟩
  clear hm hx
  by_cases h1 : (60 : Int) < (l.length : Int)
  · go_wp2_with (first | (go_at_call 10; with_reducible refine (mayR_w XM.out _).mono ?_; rintro e w7_ ⟨rfl, hB⟩; replace HB := mvH HB hB; clear hc_gt_0 hf_gt_0 hc_gt_1 hf_gt_1; replace BK_gt := mvB BK_gt hB; have hc_gt_0 : w7_.cell? ⟨gt, 0, none⟩ = some (.int .i64 t.f0) := (blk_cell BK_gt.out 0).trans rfl; have hf_gt_0 := blk_frozen BK_gt.out 0; have hc_gt_1 : w7_.cell? ⟨gt, 1, none⟩ = some (.int .i64 t.f1) := (blk_cell BK_gt.out 1).trans rfl; have hf_gt_1 := blk_frozen BK_gt.out 1; clear hc_gm_0 hf_gm_0 hc_gm_1 hf_gm_1 hc_gm_2 hf_gm_2 hc_gm_3 hf_gm_3; replace BK_gm := mvB BK_gm hB; have hc_gm_0 : w7_.cell? ⟨gm, 0, none⟩ = some (.int .u32 g) := (blk_cell BK_gm.out 0).trans rfl; have hf_gm_0 := blk_frozen BK_gm.out 0; have hc_gm_1 : w7_.cell? ⟨gm, 1, none⟩ = some (.bool false) := (blk_cell BK_gm.out 1).trans rfl; have hf_gm_1 := blk_frozen BK_gm.out 1; have hc_gm_2 : w7_.cell? ⟨gm, 2, none⟩ = some (.int .i64 0) := (blk_cell BK_gm.out 2).trans rfl; have hf_gm_2 := blk_frozen BK_gm.out 2; have hc_gm_3 : w7_.cell? ⟨gm, 3, none⟩ = some (.slice none 0 0) := (blk_cell BK_gm.out 3).trans rfl; have hf_gm_3 := blk_frozen BK_gm.out 3; clear hB) | (go_at_call 11; with_reducible refine (right_nil (b := true) (by simp [XX.out]) _).mono ?_; rintro e w8_ ⟨rfl, hB⟩; replace HB := mvH HB hB; clear hc_gt_0 hf_gt_0 hc_gt_1 hf_gt_1; replace BK_gt := mvB BK_gt hB; have hc_gt_0 : w8_.cell? ⟨gt, 0, none⟩ = some (.int .i64 t.f0) := (blk_cell BK_gt.out 0).trans rfl; have hf_gt_0 := blk_frozen BK_gt.out 0; have hc_gt_1 : w8_.cell? ⟨gt, 1, none⟩ = some (.int .i64 t.f1) := (blk_cell BK_gt.out 1).trans rfl; have hf_gt_1 := blk_frozen BK_gt.out 1; clear hc_gm_0 hf_gm_0 hc_gm_1 hf_gm_1 hc_gm_2 hf_gm_2 hc_gm_3 hf_gm_3; replace BK_gm := mvB BK_gm hB; have hc_gm_0 : w8_.cell? ⟨gm, 0, none⟩ = some (.int .u32 g) := (blk_cell BK_gm.out 0).trans rfl; have hf_gm_0 := blk_frozen BK_gm.out 0; have hc_gm_1 : w8_.cell? ⟨gm, 1, none⟩ = some (.bool false) := (blk_cell BK_gm.out 1).trans rfl; have hf_gm_1 := blk_frozen BK_gm.out 1; have hc_gm_2 : w8_.cell? ⟨gm, 2, none⟩ = some (.int .i64 0) := (blk_cell BK_gm.out 2).trans rfl; have hf_gm_2 := blk_frozen BK_gm.out 2; have hc_gm_3 : w8_.cell? ⟨gm, 3, none⟩ = some (.slice none 0 0) := (blk_cell BK_gm.out 3).trans rfl; have hf_gm_3 := blk_frozen BK_gm.out 3; clear hB))
    go_ret
    exact ⟨rfl, HB.out⟩
  by_cases h2 : n < 0
  · go_wp2_with (first | (go_at_call 10; with_reducible refine (mayR_w XM.out _).mono ?_; rintro e w7_ ⟨rfl, hB⟩; replace HB := mvH HB hB; clear hc_gt_0 hf_gt_0 hc_gt_1 hf_gt_1; replace BK_gt := mvB BK_gt hB; have hc_gt_0 : w7_.cell? ⟨gt, 0, none⟩ = some (.int .i64 t.f0) := (blk_cell BK_gt.out 0).trans rfl; have hf_gt_0 := blk_frozen BK_gt.out 0; have hc_gt_1 : w7_.cell? ⟨gt, 1, none⟩ = some (.int .i64 t.f1) := (blk_cell BK_gt.out 1).trans rfl; have hf_gt_1 := blk_frozen BK_gt.out 1; clear hc_gm_0 hf_gm_0 hc_gm_1 hf_gm_1 hc_gm_2 hf_gm_2 hc_gm_3 hf_gm_3; replace BK_gm := mvB BK_gm hB; have hc_gm_0 : w7_.cell? ⟨gm, 0, none⟩ = some (.int .u32 g) := (blk_cell BK_gm.out 0).trans rfl; have hf_gm_0 := blk_frozen BK_gm.out 0; have hc_gm_1 : w7_.cell? ⟨gm, 1, none⟩ = some (.bool false) := (blk_cell BK_gm.out 1).trans rfl; have hf_gm_1 := blk_frozen BK_gm.out 1; have hc_gm_2 : w7_.cell? ⟨gm, 2, none⟩ = some (.int .i64 0) := (blk_cell BK_gm.out 2).trans rfl; have hf_gm_2 := blk_frozen BK_gm.out 2; have hc_gm_3 : w7_.cell? ⟨gm, 3, none⟩ = some (.slice none 0 0) := (blk_cell BK_gm.out 3).trans rfl; have hf_gm_3 := blk_frozen BK_gm.out 3; clear hB) | (go_at_call 11; with_reducible refine (right_nil (b := true) (by simp [XX.out]) _).mono ?_; rintro e w8_ ⟨rfl, hB⟩; replace HB := mvH HB hB; clear hc_gt_0 hf_gt_0 hc_gt_1 hf_gt_1; replace BK_gt := mvB BK_gt hB; have hc_gt_0 : w8_.cell? ⟨gt, 0, none⟩ = some (.int .i64 t.f0) := (blk_cell BK_gt.out 0).trans rfl; have hf_gt_0 := blk_frozen BK_gt.out 0; have hc_gt_1 : w8_.cell? ⟨gt, 1, none⟩ = some (.int .i64 t.f1) := (blk_cell BK_gt.out 1).trans rfl; have hf_gt_1 := blk_frozen BK_gt.out 1; clear hc_gm_0 hf_gm_0 hc_gm_1 hf_gm_1 hc_gm_2 hf_gm_2 hc_gm_3 hf_gm_3; replace BK_gm := mvB BK_gm hB; have hc_gm_0 : w8_.cell? ⟨gm, 0, none⟩ = some (.int .u32 g) := (blk_cell BK_gm.out 0).trans rfl; have hf_gm_0 := blk_frozen BK_gm.out 0; have hc_gm_1 : w8_.cell? ⟨gm, 1, none⟩ = some (.bool false) := (blk_cell BK_gm.out 1).trans rfl; have hf_gm_1 := blk_frozen BK_gm.out 1; have hc_gm_2 : w8_.cell? ⟨gm, 2, none⟩ = some (.int .i64 0) := (blk_cell BK_gm.out 2).trans rfl; have hf_gm_2 := blk_frozen BK_gm.out 2; have hc_gm_3 : w8_.cell? ⟨gm, 3, none⟩ = some (.slice none 0 0) := (blk_cell BK_gm.out 3).trans rfl; have hf_gm_3 := blk_frozen BK_gm.out 3; clear hB))
    go_ret
    exact ⟨rfl, HB.out⟩
  by_cases h3 : 1000000000 < n
  · go_wp2_with (first | (go_at_call 10; with_reducible refine (mayR_w XM.out _).mono ?_; rintro e w7_ ⟨rfl, hB⟩; replace HB := mvH HB hB; clear hc_gt_0 hf_gt_0 hc_gt_1 hf_gt_1; replace BK_gt := mvB BK_gt hB; have hc_gt_0 : w7_.cell? ⟨gt, 0, none⟩ = some (.int .i64 t.f0) := (blk_cell BK_gt.out 0).trans rfl; have hf_gt_0 := blk_frozen BK_gt.out 0; have hc_gt_1 : w7_.cell? ⟨gt, 1, none⟩ = some (.int .i64 t.f1) := (blk_cell BK_gt.out 1).trans rfl; have hf_gt_1 := blk_frozen BK_gt.out 1; clear hc_gm_0 hf_gm_0 hc_gm_1 hf_gm_1 hc_gm_2 hf_gm_2 hc_gm_3 hf_gm_3; replace BK_gm := mvB BK_gm hB; have hc_gm_0 : w7_.cell? ⟨gm, 0, none⟩ = some (.int .u32 g) := (blk_cell BK_gm.out 0).trans rfl; have hf_gm_0 := blk_frozen BK_gm.out 0; have hc_gm_1 : w7_.cell? ⟨gm, 1, none⟩ = some (.bool false) := (blk_cell BK_gm.out 1).trans rfl; have hf_gm_1 := blk_frozen BK_gm.out 1; have hc_gm_2 : w7_.cell? ⟨gm, 2, none⟩ = some (.int .i64 0) := (blk_cell BK_gm.out 2).trans rfl; have hf_gm_2 := blk_frozen BK_gm.out 2; have hc_gm_3 : w7_.cell? ⟨gm, 3, none⟩ = some (.slice none 0 0) := (blk_cell BK_gm.out 3).trans rfl; have hf_gm_3 := blk_frozen BK_gm.out 3; clear hB) | (go_at_call 11; with_reducible refine (right_nil (b := true) (by simp [XX.out]) _).mono ?_; rintro e w8_ ⟨rfl, hB⟩; replace HB := mvH HB hB; clear hc_gt_0 hf_gt_0 hc_gt_1 hf_gt_1; replace BK_gt := mvB BK_gt hB; have hc_gt_0 : w8_.cell? ⟨gt, 0, none⟩ = some (.int .i64 t.f0) := (blk_cell BK_gt.out 0).trans rfl; have hf_gt_0 := blk_frozen BK_gt.out 0; have hc_gt_1 : w8_.cell? ⟨gt, 1, none⟩ = some (.int .i64 t.f1) := (blk_cell BK_gt.out 1).trans rfl; have hf_gt_1 := blk_frozen BK_gt.out 1; clear hc_gm_0 hf_gm_0 hc_gm_1 hf_gm_1 hc_gm_2 hf_gm_2 hc_gm_3 hf_gm_3; replace BK_gm := mvB BK_gm hB; have hc_gm_0 : w8_.cell? ⟨gm, 0, none⟩ = some (.int .u32 g) := (blk_cell BK_gm.out 0).trans rfl; have hf_gm_0 := blk_frozen BK_gm.out 0; have hc_gm_1 : w8_.cell? ⟨gm, 1, none⟩ = some (.bool false) := (blk_cell BK_gm.out 1).trans rfl; have hf_gm_1 := blk_frozen BK_gm.out 1; have hc_gm_2 : w8_.cell? ⟨gm, 2, none⟩ = some (.int .i64 0) := (blk_cell BK_gm.out 2).trans rfl; have hf_gm_2 := blk_frozen BK_gm.out 2; have hc_gm_3 : w8_.cell? ⟨gm, 3, none⟩ = some (.slice none 0 0) := (blk_cell BK_gm.out 3).trans rfl; have hf_gm_3 := blk_frozen BK_gm.out 3; clear hB))
    go_ret
    exact ⟨rfl, HB.out⟩
  have hl0 : l.length ≤ 60 := by omega
  have hn0 := Aside0.mk (show 0 ≤ n by omega)
  have hl2 := Aside0.mk (show l.length ≤ 1000 by omega)
  obtain ⟨bi, hbi⟩ : ∃ b, decide (a ∈ l) = b := ⟨_, rfl⟩
  have XR1 := Aside0.mk (hear_right XM.out XX.out 1 l)
  have XR2 := Aside0.mk (hear_right XM.out XX.out 2 l)
  have k1 := keeps_wx (t := t) (l := l) (a := a) (g := g) (n := n)
  have k2 := keeps_wy (t := t) (l := l) (a := a) (g := g) hn0.out
  have k3 := keeps_some (t := t) (l := l) (g := g) hn0.out
  rw [hbi] at k1 k2
  have hh1 := keeps_in t g l hl0
  have hh2 := keeps_ex t g l hl0
  obtain ⟨s1, hs1⟩ : ∃ s, keepS [] (mk l) t.f0 = s := ⟨_, rfl⟩
  obtain ⟨s2, hs2⟩ : ∃ s, keepS [] (mns (mk l) []) 0 = s := ⟨_, rfl⟩
  rw [hs1] at hh1 k1
  rw [hs2] at hh2 k2 k3
  have hm1 : MOk ⟨g, false, 0, s1⟩ := by have := XR1.out; rw [hh1] at this; exact this
  have hm2 : MOk ⟨g, true, t.f0, s2⟩ := by have := XR2.out; rw [hh2] at this; exact this
  have hm3 := tick_right hm1 hn0.out
  have hm4 := tick_right hm2 hn0.out
  obtain ⟨g3, e3, l3, s3, hh3⟩ : ∃ g4 e4 l4 s4, tickM ⟨g, false, 0, s1⟩ n = ⟨g4, e4, l4, s4⟩ := ⟨_, _, _, _, rfl⟩
  obtain ⟨g4, e4, l4, s4, hh4⟩ : ∃ g4 e4 l4 s4, tickM ⟨g, true, t.f0, s2⟩ n = ⟨g4, e4, l4, s4⟩ := ⟨_, _, _, _, rfl⟩
  rw [hh3] at k1 hm3
  rw [hh4] at k2 k3 hm4
  clear XR1 XR2 hs1 hs2 hl0
  have Xhbi := Aside0.mk hbi
  have Xhh1 := Aside0.mk hh1
  have Xhm1 := Aside0.mk hm1
  have Xhh2 := Aside0.mk hh2
  have Xhm2 := Aside0.mk hm2
  have Xhh3 := Aside0.mk hh3
  have Xhm3 := Aside0.mk hm3
  have Xhh4 := Aside0.mk hh4
  have Xhm4 := Aside0.mk hm4
  have Xk1 := Aside0.mk k1
  have Xk2 := Aside0.mk k2
  have Xk3 := Aside0.mk k3
  clear hbi hh1 hm1 hh2 hm2 hh3 hm3 hh4 hm4 k1 k2 k3
  go_upto_region 11 with (first | (go_at_call 10; with_reducible refine (mayR_w XM.out _).mono ?_; rintro e w7_ ⟨rfl, hB⟩; replace HB := mvH HB hB; clear hc_gt_0 hf_gt_0 hc_gt_1 hf_gt_1; replace BK_gt := mvB BK_gt hB; have hc_gt_0 : w7_.cell? ⟨gt, 0, none⟩ = some (.int .i64 t.f0) := (blk_cell BK_gt.out 0).trans rfl; have hf_gt_0 := blk_frozen BK_gt.out 0; have hc_gt_1 : w7_.cell? ⟨gt, 1, none⟩ = some (.int .i64 t.f1) := (blk_cell BK_gt.out 1).trans rfl; have hf_gt_1 := blk_frozen BK_gt.out 1; clear hc_gm_0 hf_gm_0 hc_gm_1 hf_gm_1 hc_gm_2 hf_gm_2 hc_gm_3 hf_gm_3; replace BK_gm := mvB BK_gm hB; have hc_gm_0 : w7_.cell? ⟨gm, 0, none⟩ = some (.int .u32 g) := (blk_cell BK_gm.out 0).trans rfl; have hf_gm_0 := blk_frozen BK_gm.out 0; have hc_gm_1 : w7_.cell? ⟨gm, 1, none⟩ = some (.bool false) := (blk_cell BK_gm.out 1).trans rfl; have hf_gm_1 := blk_frozen BK_gm.out 1; have hc_gm_2 : w7_.cell? ⟨gm, 2, none⟩ = some (.int .i64 0) := (blk_cell BK_gm.out 2).trans rfl; have hf_gm_2 := blk_frozen BK_gm.out 2; have hc_gm_3 : w7_.cell? ⟨gm, 3, none⟩ = some (.slice none 0 0) := (blk_cell BK_gm.out 3).trans rfl; have hf_gm_3 := blk_frozen BK_gm.out 3; clear hB) | (go_at_call 11; with_reducible refine (right_nil (b := true) (by simp [XX.out]) _).mono ?_; rintro e w8_ ⟨rfl, hB⟩; replace HB := mvH HB hB; clear hc_gt_0 hf_gt_0 hc_gt_1 hf_gt_1; replace BK_gt := mvB BK_gt hB; have hc_gt_0 : w8_.cell? ⟨gt, 0, none⟩ = some (.int .i64 t.f0) := (blk_cell BK_gt.out 0).trans rfl; have hf_gt_0 := blk_frozen BK_gt.out 0; have hc_gt_1 : w8_.cell? ⟨gt, 1, none⟩ = some (.int .i64 t.f1) := (blk_cell BK_gt.out 1).trans rfl; have hf_gt_1 := blk_frozen BK_gt.out 1; clear hc_gm_0 hf_gm_0 hc_gm_1 hf_gm_1 hc_gm_2 hf_gm_2 hc_gm_3 hf_gm_3; replace BK_gm := mvB BK_gm hB; have hc_gm_0 : w8_.cell? ⟨gm, 0, none⟩ = some (.int .u32 g) := (blk_cell BK_gm.out 0).trans rfl; have hf_gm_0 := blk_frozen BK_gm.out 0; have hc_gm_1 : w8_.cell? ⟨gm, 1, none⟩ = some (.bool false) := (blk_cell BK_gm.out 1).trans rfl; have hf_gm_1 := blk_frozen BK_gm.out 1; have hc_gm_2 : w8_.cell? ⟨gm, 2, none⟩ = some (.int .i64 0) := (blk_cell BK_gm.out 2).trans rfl; have hf_gm_2 := blk_frozen BK_gm.out 2; have hc_gm_3 : w8_.cell? ⟨gm, 3, none⟩ = some (.slice none 0 0) := (blk_cell BK_gm.out 3).trans rfl; have hf_gm_3 := blk_frozen BK_gm.out 3; clear hB) | (go_at_call 12; (with_reducible refine (hear_nil XX.out hl2.out Xhh1.out _ _ _ (Kd.C_below HC_l.out HB.out) HK_l.out).mono ?_); rintro e_ w9_ ⟨A_r1, c_r1, A_r1a, c_r1a, rfl, hC, hK, hB⟩; replace HB := mvH HB hB; clear hc_gt_0 hf_gt_0 hc_gt_1 hf_gt_1; replace BK_gt := mvB BK_gt hB; have hc_gt_0 : w9_.cell? ⟨gt, 0, none⟩ = some (.int .i64 t.f0) := (blk_cell BK_gt.out 0).trans rfl; have hf_gt_0 := blk_frozen BK_gt.out 0; have hc_gt_1 : w9_.cell? ⟨gt, 1, none⟩ = some (.int .i64 t.f1) := (blk_cell BK_gt.out 1).trans rfl; have hf_gt_1 := blk_frozen BK_gt.out 1; clear hc_gm_0 hf_gm_0 hc_gm_1 hf_gm_1 hc_gm_2 hf_gm_2 hc_gm_3 hf_gm_3; replace BK_gm := mvB BK_gm hB; have hc_gm_0 : w9_.cell? ⟨gm, 0, none⟩ = some (.int .u32 g) := (blk_cell BK_gm.out 0).trans rfl; have hf_gm_0 := blk_frozen BK_gm.out 0; have hc_gm_1 : w9_.cell? ⟨gm, 1, none⟩ = some (.bool false) := (blk_cell BK_gm.out 1).trans rfl; have hf_gm_1 := blk_frozen BK_gm.out 1; have hc_gm_2 : w9_.cell? ⟨gm, 2, none⟩ = some (.int .i64 0) := (blk_cell BK_gm.out 2).trans rfl; have hf_gm_2 := blk_frozen BK_gm.out 2; have hc_gm_3 : w9_.cell? ⟨gm, 3, none⟩ = some (.slice none 0 0) := (blk_cell BK_gm.out 3).trans rfl; have hf_gm_3 := blk_frozen BK_gm.out 3; have HC_r1 := Aside0.mk hC; have HK_r1 := Aside0.mk hK; clear hC hK hB) | ((with_reducible refine gate_dst (N := 10) rfl ?_); (try (refine gate_guard (by rfl) ?_; dsimp only)); refine box_event ?hg (N := 10) ?hd (cs := #[.int .u32 0, .bool false, .int .i64 0, .slice none 0 0]) (t := 28) ?hr ?_; (case hd => rfl); (case hg => rfl); (case hr => first | (go_simp; done) | (go_simp; rfl)); intro b1 hg w10_ hbox hB0; have hG := Aside0.mk (show w9_.heap.size ≤ b1 from Nat.le_of_eq hg.symm); clear hg; have hBX := Aside0.mk hbox; have hB1 := Aside0.mk hB0; clear hB0; have hc_b1_0 : w10_.cell? ⟨b1, 0, none⟩ = some (.int .u32 0) := (blk_cell hbox 0).trans rfl; have hf_b1_0 := blk_frozen hbox 0; have hc_b1_1 : w10_.cell? ⟨b1, 1, none⟩ = some (.bool false) := (blk_cell hbox 1).trans rfl; have hf_b1_1 := blk_frozen hbox 1; have hc_b1_2 : w10_.cell? ⟨b1, 2, none⟩ = some (.int .i64 0) := (blk_cell hbox 2).trans rfl; have hf_b1_2 := blk_frozen hbox 2; have hc_b1_3 : w10_.cell? ⟨b1, 3, none⟩ = some (.slice none 0 0) := (blk_cell hbox 3).trans rfl; have hf_b1_3 := blk_frozen hbox 3; clear hbox))
  have hB : Below w9_.heap.size w9_ ((((w10_.setCell ⟨b1, 0, none⟩ (.int .u32 g)).setCell ⟨b1, 1, none⟩ (.bool false)).setCell ⟨b1, 2, none⟩ (.int .i64 0)).setCell ⟨b1, 3, none⟩ (.slice A_r1 s1.length c_r1)) := (below_set (below_set (below_set (below_set hB1.out hG.out) hG.out) hG.out) hG.out)
  have hBN : ((((w10_.setCell ⟨b1, 0, none⟩ (.int .u32 g)).setCell ⟨b1, 1, none⟩ (.bool false)).setCell ⟨b1, 2, none⟩ (.int .i64 0)).setCell ⟨b1, 3, none⟩ (.slice A_r1 s1.length c_r1)).heap[b1]? = some (.cells #[.int .u32 g, .bool false, .int .i64 0, .slice A_r1 s1.length c_r1] 28 (0, 0)) := (blk_put (cs := #[.int .u32 g, .bool false, .int .i64 0, .slice none 0 0]) (blk_put (cs := #[.int .u32 g, .bool false, .int .i64 0, .slice none 0 0]) (blk_put (cs := #[.int .u32 g, .bool false, .int .i64 0, .slice none 0 0]) (blk_put (cs := #[.int .u32 0, .bool false, .int .i64 0, .slice none 0 0]) hBX.out 0 (.int .u32 g) rfl) 1 (.bool false) rfl) 2 (.int .i64 0) rfl) 3 (.slice A_r1 s1.length c_r1) rfl)
  clear hBX hB1
  clear hc_b1_0 hf_b1_0 hc_b1_1 hf_b1_1 hc_b1_2 hf_b1_2 hc_b1_3 hf_b1_3
  generalize ((((w10_.setCell ⟨b1, 0, none⟩ (.int .u32 g)).setCell ⟨b1, 1, none⟩ (.bool false)).setCell ⟨b1, 2, none⟩ (.int .i64 0)).setCell ⟨b1, 3, none⟩ (.slice A_r1 s1.length c_r1)) = w11_ at hB hBN ⊢
  replace HB := mvH HB hB
  clear hc_gt_0 hf_gt_0 hc_gt_1 hf_gt_1
  replace BK_gt := mvB BK_gt hB
  have hc_gt_0 : w11_.cell? ⟨gt, 0, none⟩ = some (.int .i64 t.f0) := (blk_cell BK_gt.out 0).trans rfl
  have hf_gt_0 := blk_frozen BK_gt.out 0
  have hc_gt_1 : w11_.cell? ⟨gt, 1, none⟩ = some (.int .i64 t.f1) := (blk_cell BK_gt.out 1).trans rfl
  have hf_gt_1 := blk_frozen BK_gt.out 1
  clear hc_gm_0 hf_gm_0 hc_gm_1 hf_gm_1 hc_gm_2 hf_gm_2 hc_gm_3 hf_gm_3
  replace BK_gm := mvB BK_gm hB
  have hc_gm_0 : w11_.cell? ⟨gm, 0, none⟩ = some (.int .u32 g) := (blk_cell BK_gm.out 0).trans rfl
  have hf_gm_0 := blk_frozen BK_gm.out 0
  have hc_gm_1 : w11_.cell? ⟨gm, 1, none⟩ = some (.bool false) := (blk_cell BK_gm.out 1).trans rfl
  have hf_gm_1 := blk_frozen BK_gm.out 1
  have hc_gm_2 : w11_.cell? ⟨gm, 2, none⟩ = some (.int .i64 0) := (blk_cell BK_gm.out 2).trans rfl
  have hf_gm_2 := blk_frozen BK_gm.out 2
  have hc_gm_3 : w11_.cell? ⟨gm, 3, none⟩ = some (.slice none 0 0) := (blk_cell BK_gm.out 3).trans rfl
  have hf_gm_3 := blk_frozen BK_gm.out 3
  replace HC_r1 := mvC HC_r1 hB
  have BK_b1 := Aside0.mk hBN
  clear hG hBN hB
  have hc_b1_0 : w11_.cell? ⟨b1, 0, none⟩ = some (.int .u32 g) := (blk_cell BK_b1.out 0).trans rfl
  have hf_b1_0 := blk_frozen BK_b1.out 0
  have hc_b1_1 : w11_.cell? ⟨b1, 1, none⟩ = some (.bool false) := (blk_cell BK_b1.out 1).trans rfl
  have hf_b1_1 := blk_frozen BK_b1.out 1
  have hc_b1_2 : w11_.cell? ⟨b1, 2, none⟩ = some (.int .i64 0) := (blk_cell BK_b1.out 2).trans rfl
  have hf_b1_2 := blk_frozen BK_b1.out 2
  have hc_b1_3 : w11_.cell? ⟨b1, 3, none⟩ = some (.slice A_r1 s1.length c_r1) := (blk_cell BK_b1.out 3).trans rfl
  have hf_b1_3 := blk_frozen BK_b1.out 3
  go_upto_region 12 with (first | (go_at_call 12; (with_reducible refine (hear_nil XX.out hl2.out Xhh2.out _ _ _ (Kd.C_below HC_l.out HB.out) HK_l.out).mono ?_); rintro e_ w12_ ⟨A_r2, c_r2, A_r2a, c_r2a, rfl, hC, hK, hB⟩; replace HB := mvH HB hB; clear hc_gt_0 hf_gt_0 hc_gt_1 hf_gt_1; replace BK_gt := mvB BK_gt hB; have hc_gt_0 : w12_.cell? ⟨gt, 0, none⟩ = some (.int .i64 t.f0) := (blk_cell BK_gt.out 0).trans rfl; have hf_gt_0 := blk_frozen BK_gt.out 0; have hc_gt_1 : w12_.cell? ⟨gt, 1, none⟩ = some (.int .i64 t.f1) := (blk_cell BK_gt.out 1).trans rfl; have hf_gt_1 := blk_frozen BK_gt.out 1; clear hc_gm_0 hf_gm_0 hc_gm_1 hf_gm_1 hc_gm_2 hf_gm_2 hc_gm_3 hf_gm_3; replace BK_gm := mvB BK_gm hB; have hc_gm_0 : w12_.cell? ⟨gm, 0, none⟩ = some (.int .u32 g) := (blk_cell BK_gm.out 0).trans rfl; have hf_gm_0 := blk_frozen BK_gm.out 0; have hc_gm_1 : w12_.cell? ⟨gm, 1, none⟩ = some (.bool false) := (blk_cell BK_gm.out 1).trans rfl; have hf_gm_1 := blk_frozen BK_gm.out 1; have hc_gm_2 : w12_.cell? ⟨gm, 2, none⟩ = some (.int .i64 0) := (blk_cell BK_gm.out 2).trans rfl; have hf_gm_2 := blk_frozen BK_gm.out 2; have hc_gm_3 : w12_.cell? ⟨gm, 3, none⟩ = some (.slice none 0 0) := (blk_cell BK_gm.out 3).trans rfl; have hf_gm_3 := blk_frozen BK_gm.out 3; clear hc_b1_0 hf_b1_0 hc_b1_1 hf_b1_1 hc_b1_2 hf_b1_2 hc_b1_3 hf_b1_3; replace BK_b1 := mvB BK_b1 hB; have hc_b1_0 : w12_.cell? ⟨b1, 0, none⟩ = some (.int .u32 g) := (blk_cell BK_b1.out 0).trans rfl; have hf_b1_0 := blk_frozen BK_b1.out 0; have hc_b1_1 : w12_.cell? ⟨b1, 1, none⟩ = some (.bool false) := (blk_cell BK_b1.out 1).trans rfl; have hf_b1_1 := blk_frozen BK_b1.out 1; have hc_b1_2 : w12_.cell? ⟨b1, 2, none⟩ = some (.int .i64 0) := (blk_cell BK_b1.out 2).trans rfl; have hf_b1_2 := blk_frozen BK_b1.out 2; have hc_b1_3 : w12_.cell? ⟨b1, 3, none⟩ = some (.slice A_r1 s1.length c_r1) := (blk_cell BK_b1.out 3).trans rfl; have hf_b1_3 := blk_frozen BK_b1.out 3; replace HC_r1 := mvC HC_r1 hB; have HC_r2 := Aside0.mk hC; have HK_r2 := Aside0.mk hK; clear hC hK hB) | ((with_reducible refine gate_dst (N := 13) rfl ?_); (try (refine gate_guard (by rfl) ?_; dsimp only)); refine box_event ?hg (N := 13) ?hd (cs := #[.int .u32 0, .bool false, .int .i64 0, .slice none 0 0]) (t := 28) ?hr ?_; (case hd => rfl); (case hg => rfl); (case hr => first | (go_simp; done) | (go_simp; rfl)); intro b2 hg w13_ hbox hB0; have hG := Aside0.mk (show w12_.heap.size ≤ b2 from Nat.le_of_eq hg.symm); clear hg; have hBX := Aside0.mk hbox; have hB1 := Aside0.mk hB0; clear hB0; have hc_b2_0 : w13_.cell? ⟨b2, 0, none⟩ = some (.int .u32 0) := (blk_cell hbox 0).trans rfl; have hf_b2_0 := blk_frozen hbox 0; have hc_b2_1 : w13_.cell? ⟨b2, 1, none⟩ = some (.bool false) := (blk_cell hbox 1).trans rfl; have hf_b2_1 := blk_frozen hbox 1; have hc_b2_2 : w13_.cell? ⟨b2, 2, none⟩ = some (.int .i64 0) := (blk_cell hbox 2).trans rfl; have hf_b2_2 := blk_frozen hbox 2; have hc_b2_3 : w13_.cell? ⟨b2, 3, none⟩ = some (.slice none 0 0) := (blk_cell hbox 3).trans rfl; have hf_b2_3 := blk_frozen hbox 3; clear hbox))
  have hB : Below w12_.heap.size w12_ ((((w13_.setCell ⟨b2, 0, none⟩ (.int .u32 g)).setCell ⟨b2, 1, none⟩ (.bool true)).setCell ⟨b2, 2, none⟩ (.int .i64 t.f0)).setCell ⟨b2, 3, none⟩ (.slice A_r2 s2.length c_r2)) := (below_set (below_set (below_set (below_set hB1.out hG.out) hG.out) hG.out) hG.out)
  have hBN : ((((w13_.setCell ⟨b2, 0, none⟩ (.int .u32 g)).setCell ⟨b2, 1, none⟩ (.bool true)).setCell ⟨b2, 2, none⟩ (.int .i64 t.f0)).setCell ⟨b2, 3, none⟩ (.slice A_r2 s2.length c_r2)).heap[b2]? = some (.cells #[.int .u32 g, .bool true, .int .i64 t.f0, .slice A_r2 s2.length c_r2] 28 (0, 0)) := (blk_put (cs := #[.int .u32 g, .bool true, .int .i64 t.f0, .slice none 0 0]) (blk_put (cs := #[.int .u32 g, .bool true, .int .i64 0, .slice none 0 0]) (blk_put (cs := #[.int .u32 g, .bool false, .int .i64 0, .slice none 0 0]) (blk_put (cs := #[.int .u32 0, .bool false, .int .i64 0, .slice none 0 0]) hBX.out 0 (.int .u32 g) rfl) 1 (.bool true) rfl) 2 (.int .i64 t.f0) rfl) 3 (.slice A_r2 s2.length c_r2) rfl)
  clear hBX hB1
  clear hc_b2_0 hf_b2_0 hc_b2_1 hf_b2_1 hc_b2_2 hf_b2_2 hc_b2_3 hf_b2_3
  generalize ((((w13_.setCell ⟨b2, 0, none⟩ (.int .u32 g)).setCell ⟨b2, 1, none⟩ (.bool true)).setCell ⟨b2, 2, none⟩ (.int .i64 t.f0)).setCell ⟨b2, 3, none⟩ (.slice A_r2 s2.length c_r2)) = w14_ at hB hBN ⊢
  replace HB := mvH HB hB
  clear hc_gt_0 hf_gt_0 hc_gt_1 hf_gt_1
  replace BK_gt := mvB BK_gt hB
  have hc_gt_0 : w14_.cell? ⟨gt, 0, none⟩ = some (.int .i64 t.f0) := (blk_cell BK_gt.out 0).trans rfl
  have hf_gt_0 := blk_frozen BK_gt.out 0
  have hc_gt_1 : w14_.cell? ⟨gt, 1, none⟩ = some (.int .i64 t.f1) := (blk_cell BK_gt.out 1).trans rfl
  have hf_gt_1 := blk_frozen BK_gt.out 1
  clear hc_gm_0 hf_gm_0 hc_gm_1 hf_gm_1 hc_gm_2 hf_gm_2 hc_gm_3 hf_gm_3
  replace BK_gm := mvB BK_gm hB
  have hc_gm_0 : w14_.cell? ⟨gm, 0, none⟩ = some (.int .u32 g) := (blk_cell BK_gm.out 0).trans rfl
  have hf_gm_0 := blk_frozen BK_gm.out 0
  have hc_gm_1 : w14_.cell? ⟨gm, 1, none⟩ = some (.bool false) := (blk_cell BK_gm.out 1).trans rfl
  have hf_gm_1 := blk_frozen BK_gm.out 1
  have hc_gm_2 : w14_.cell? ⟨gm, 2, none⟩ = some (.int .i64 0) := (blk_cell BK_gm.out 2).trans rfl
  have hf_gm_2 := blk_frozen BK_gm.out 2
  have hc_gm_3 : w14_.cell? ⟨gm, 3, none⟩ = some (.slice none 0 0) := (blk_cell BK_gm.out 3).trans rfl
  have hf_gm_3 := blk_frozen BK_gm.out 3
  clear hc_b1_0 hf_b1_0 hc_b1_1 hf_b1_1 hc_b1_2 hf_b1_2 hc_b1_3 hf_b1_3
  replace BK_b1 := mvB BK_b1 hB
  have hc_b1_0 : w14_.cell? ⟨b1, 0, none⟩ = some (.int .u32 g) := (blk_cell BK_b1.out 0).trans rfl
  have hf_b1_0 := blk_frozen BK_b1.out 0
  have hc_b1_1 : w14_.cell? ⟨b1, 1, none⟩ = some (.bool false) := (blk_cell BK_b1.out 1).trans rfl
  have hf_b1_1 := blk_frozen BK_b1.out 1
  have hc_b1_2 : w14_.cell? ⟨b1, 2, none⟩ = some (.int .i64 0) := (blk_cell BK_b1.out 2).trans rfl
  have hf_b1_2 := blk_frozen BK_b1.out 2
  have hc_b1_3 : w14_.cell? ⟨b1, 3, none⟩ = some (.slice A_r1 s1.length c_r1) := (blk_cell BK_b1.out 3).trans rfl
  have hf_b1_3 := blk_frozen BK_b1.out 3
  replace HC_r1 := mvC HC_r1 hB
  replace HC_r2 := mvC HC_r2 hB
  have BK_b2 := Aside0.mk hBN
  clear hG hBN hB
  have hc_b2_0 : w14_.cell? ⟨b2, 0, none⟩ = some (.int .u32 g) := (blk_cell BK_b2.out 0).trans rfl
  have hf_b2_0 := blk_frozen BK_b2.out 0
  have hc_b2_1 : w14_.cell? ⟨b2, 1, none⟩ = some (.bool true) := (blk_cell BK_b2.out 1).trans rfl
  have hf_b2_1 := blk_frozen BK_b2.out 1
  have hc_b2_2 : w14_.cell? ⟨b2, 2, none⟩ = some (.int .i64 t.f0) := (blk_cell BK_b2.out 2).trans rfl
  have hf_b2_2 := blk_frozen BK_b2.out 2
  have hc_b2_3 : w14_.cell? ⟨b2, 3, none⟩ = some (.slice A_r2 s2.length c_r2) := (blk_cell BK_b2.out 3).trans rfl
  have hf_b2_3 := blk_frozen BK_b2.out 3
  clear hc_gm_0 hf_gm_0 hc_gm_1 hf_gm_1 hc_gm_2 hf_gm_2 hc_gm_3 hf_gm_3
  clear BK_gm
  go_upto_region 14 with (first | (go_at_call 18; with_reducible refine (has6_w (by have := hl2.out; omega) Xhbi.out _ _ _ (Kd.C_below HC_l.out HB.out) HK_l.out).mono ?_; rintro e w15_ ⟨rfl, hB⟩; replace HB := mvH HB hB; clear hc_gt_0 hf_gt_0 hc_gt_1 hf_gt_1; replace BK_gt := mvB BK_gt hB; have hc_gt_0 : w15_.cell? ⟨gt, 0, none⟩ = some (.int .i64 t.f0) := (blk_cell BK_gt.out 0).trans rfl; have hf_gt_0 := blk_frozen BK_gt.out 0; have hc_gt_1 : w15_.cell? ⟨gt, 1, none⟩ = some (.int .i64 t.f1) := (blk_cell BK_gt.out 1).trans rfl; have hf_gt_1 := blk_frozen BK_gt.out 1; clear hc_b1_0 hf_b1_0 hc_b1_1 hf_b1_1 hc_b1_2 hf_b1_2 hc_b1_3 hf_b1_3; replace BK_b1 := mvB BK_b1 hB; have hc_b1_0 : w15_.cell? ⟨b1, 0, none⟩ = some (.int .u32 g) := (blk_cell BK_b1.out 0).trans rfl; have hf_b1_0 := blk_frozen BK_b1.out 0; have hc_b1_1 : w15_.cell? ⟨b1, 1, none⟩ = some (.bool false) := (blk_cell BK_b1.out 1).trans rfl; have hf_b1_1 := blk_frozen BK_b1.out 1; have hc_b1_2 : w15_.cell? ⟨b1, 2, none⟩ = some (.int .i64 0) := (blk_cell BK_b1.out 2).trans rfl; have hf_b1_2 := blk_frozen BK_b1.out 2; have hc_b1_3 : w15_.cell? ⟨b1, 3, none⟩ = some (.slice A_r1 s1.length c_r1) := (blk_cell BK_b1.out 3).trans rfl; have hf_b1_3 := blk_frozen BK_b1.out 3; clear hc_b2_0 hf_b2_0 hc_b2_1 hf_b2_1 hc_b2_2 hf_b2_2 hc_b2_3 hf_b2_3; replace BK_b2 := mvB BK_b2 hB; have hc_b2_0 : w15_.cell? ⟨b2, 0, none⟩ = some (.int .u32 g) := (blk_cell BK_b2.out 0).trans rfl; have hf_b2_0 := blk_frozen BK_b2.out 0; have hc_b2_1 : w15_.cell? ⟨b2, 1, none⟩ = some (.bool true) := (blk_cell BK_b2.out 1).trans rfl; have hf_b2_1 := blk_frozen BK_b2.out 1; have hc_b2_2 : w15_.cell? ⟨b2, 2, none⟩ = some (.int .i64 t.f0) := (blk_cell BK_b2.out 2).trans rfl; have hf_b2_2 := blk_frozen BK_b2.out 2; have hc_b2_3 : w15_.cell? ⟨b2, 3, none⟩ = some (.slice A_r2 s2.length c_r2) := (blk_cell BK_b2.out 3).trans rfl; have hf_b2_3 := blk_frozen BK_b2.out 3; replace HC_r1 := mvC HC_r1 hB; replace HC_r2 := mvC HC_r2 hB; clear hB) | (go_at_call 17; (with_reducible refine (tick_flat Xhm1.out hn0.out Xhh3.out _ _ _ HC_r1.out HK_r1.out).mono ?_); rintro e_ w16_ ⟨A_r3, c_r3, rfl, hC, hK, hB⟩; replace HB := mvH HB hB; clear hc_gt_0 hf_gt_0 hc_gt_1 hf_gt_1; replace BK_gt := mvB BK_gt hB; have hc_gt_0 : w16_.cell? ⟨gt, 0, none⟩ = some (.int .i64 t.f0) := (blk_cell BK_gt.out 0).trans rfl; have hf_gt_0 := blk_frozen BK_gt.out 0; have hc_gt_1 : w16_.cell? ⟨gt, 1, none⟩ = some (.int .i64 t.f1) := (blk_cell BK_gt.out 1).trans rfl; have hf_gt_1 := blk_frozen BK_gt.out 1; clear hc_b1_0 hf_b1_0 hc_b1_1 hf_b1_1 hc_b1_2 hf_b1_2 hc_b1_3 hf_b1_3; replace BK_b1 := mvB BK_b1 hB; have hc_b1_0 : w16_.cell? ⟨b1, 0, none⟩ = some (.int .u32 g) := (blk_cell BK_b1.out 0).trans rfl; have hf_b1_0 := blk_frozen BK_b1.out 0; have hc_b1_1 : w16_.cell? ⟨b1, 1, none⟩ = some (.bool false) := (blk_cell BK_b1.out 1).trans rfl; have hf_b1_1 := blk_frozen BK_b1.out 1; have hc_b1_2 : w16_.cell? ⟨b1, 2, none⟩ = some (.int .i64 0) := (blk_cell BK_b1.out 2).trans rfl; have hf_b1_2 := blk_frozen BK_b1.out 2; have hc_b1_3 : w16_.cell? ⟨b1, 3, none⟩ = some (.slice A_r1 s1.length c_r1) := (blk_cell BK_b1.out 3).trans rfl; have hf_b1_3 := blk_frozen BK_b1.out 3; clear hc_b2_0 hf_b2_0 hc_b2_1 hf_b2_1 hc_b2_2 hf_b2_2 hc_b2_3 hf_b2_3; replace BK_b2 := mvB BK_b2 hB; have hc_b2_0 : w16_.cell? ⟨b2, 0, none⟩ = some (.int .u32 g) := (blk_cell BK_b2.out 0).trans rfl; have hf_b2_0 := blk_frozen BK_b2.out 0; have hc_b2_1 : w16_.cell? ⟨b2, 1, none⟩ = some (.bool true) := (blk_cell BK_b2.out 1).trans rfl; have hf_b2_1 := blk_frozen BK_b2.out 1; have hc_b2_2 : w16_.cell? ⟨b2, 2, none⟩ = some (.int .i64 t.f0) := (blk_cell BK_b2.out 2).trans rfl; have hf_b2_2 := blk_frozen BK_b2.out 2; have hc_b2_3 : w16_.cell? ⟨b2, 3, none⟩ = some (.slice A_r2 s2.length c_r2) := (blk_cell BK_b2.out 3).trans rfl; have hf_b2_3 := blk_frozen BK_b2.out 3; replace HC_r1 := mvC HC_r1 hB; replace HC_r2 := mvC HC_r2 hB; have HC_r3 := Aside0.mk hC; have HK_r3 := Aside0.mk hK; clear hC hK hB) | ((with_reducible refine gate_dst (N := 17) rfl ?_); (try (refine gate_guard (by rfl) ?_; dsimp only)); refine box_event ?hg (N := 17) ?hd (cs := #[.int .u32 0, .bool false, .int .i64 0, .slice none 0 0]) (t := 28) ?hr ?_; (case hd => rfl); (case hg => rfl); (case hr => first | (go_simp; done) | (go_simp; rfl)); intro b3 hg w17_ hbox hB0; have hG := Aside0.mk (show w16_.heap.size ≤ b3 from Nat.le_of_eq hg.symm); clear hg; have hBX := Aside0.mk hbox; have hB1 := Aside0.mk hB0; clear hB0; have hc_b3_0 : w17_.cell? ⟨b3, 0, none⟩ = some (.int .u32 0) := (blk_cell hbox 0).trans rfl; have hf_b3_0 := blk_frozen hbox 0; have hc_b3_1 : w17_.cell? ⟨b3, 1, none⟩ = some (.bool false) := (blk_cell hbox 1).trans rfl; have hf_b3_1 := blk_frozen hbox 1; have hc_b3_2 : w17_.cell? ⟨b3, 2, none⟩ = some (.int .i64 0) := (blk_cell hbox 2).trans rfl; have hf_b3_2 := blk_frozen hbox 2; have hc_b3_3 : w17_.cell? ⟨b3, 3, none⟩ = some (.slice none 0 0) := (blk_cell hbox 3).trans rfl; have hf_b3_3 := blk_frozen hbox 3; clear hbox))
  have hB : Below w16_.heap.size w16_ ((((w17_.setCell ⟨b3, 0, none⟩ (.int .u32 g3)).setCell ⟨b3, 1, none⟩ (.bool e3)).setCell ⟨b3, 2, none⟩ (.int .i64 l3)).setCell ⟨b3, 3, none⟩ (.slice A_r3 s3.length c_r3)) := (below_set (below_set (below_set (below_set hB1.out hG.out) hG.out) hG.out) hG.out)
  have hBN : ((((w17_.setCell ⟨b3, 0, none⟩ (.int .u32 g3)).setCell ⟨b3, 1, none⟩ (.bool e3)).setCell ⟨b3, 2, none⟩ (.int .i64 l3)).setCell ⟨b3, 3, none⟩ (.slice A_r3 s3.length c_r3)).heap[b3]? = some (.cells #[.int .u32 g3, .bool e3, .int .i64 l3, .slice A_r3 s3.length c_r3] 28 (0, 0)) := (blk_put (cs := #[.int .u32 g3, .bool e3, .int .i64 l3, .slice none 0 0]) (blk_put (cs := #[.int .u32 g3, .bool e3, .int .i64 0, .slice none 0 0]) (blk_put (cs := #[.int .u32 g3, .bool false, .int .i64 0, .slice none 0 0]) (blk_put (cs := #[.int .u32 0, .bool false, .int .i64 0, .slice none 0 0]) hBX.out 0 (.int .u32 g3) rfl) 1 (.bool e3) rfl) 2 (.int .i64 l3) rfl) 3 (.slice A_r3 s3.length c_r3) rfl)
  clear hBX hB1
  clear hc_b3_0 hf_b3_0 hc_b3_1 hf_b3_1 hc_b3_2 hf_b3_2 hc_b3_3 hf_b3_3
  generalize ((((w17_.setCell ⟨b3, 0, none⟩ (.int .u32 g3)).setCell ⟨b3, 1, none⟩ (.bool e3)).setCell ⟨b3, 2, none⟩ (.int .i64 l3)).setCell ⟨b3, 3, none⟩ (.slice A_r3 s3.length c_r3)) = w18_ at hB hBN ⊢
  replace HB := mvH HB hB
  clear hc_gt_0 hf_gt_0 hc_gt_1 hf_gt_1
  replace BK_gt := mvB BK_gt hB
  have hc_gt_0 : w18_.cell? ⟨gt, 0, none⟩ = some (.int .i64 t.f0) := (blk_cell BK_gt.out 0).trans rfl
  have hf_gt_0 := blk_frozen BK_gt.out 0
  have hc_gt_1 : w18_.cell? ⟨gt, 1, none⟩ = some (.int .i64 t.f1) := (blk_cell BK_gt.out 1).trans rfl
  have hf_gt_1 := blk_frozen BK_gt.out 1
  clear hc_b1_0 hf_b1_0 hc_b1_1 hf_b1_1 hc_b1_2 hf_b1_2 hc_b1_3 hf_b1_3
  replace BK_b1 := mvB BK_b1 hB
  have hc_b1_0 : w18_.cell? ⟨b1, 0, none⟩ = some (.int .u32 g) := (blk_cell BK_b1.out 0).trans rfl
  have hf_b1_0 := blk_frozen BK_b1.out 0
  have hc_b1_1 : w18_.cell? ⟨b1, 1, none⟩ = some (.bool false) := (blk_cell BK_b1.out 1).trans rfl
  have hf_b1_1 := blk_frozen BK_b1.out 1
  have hc_b1_2 : w18_.cell? ⟨b1, 2, none⟩ = some (.int .i64 0) := (blk_cell BK_b1.out 2).trans rfl
  have hf_b1_2 := blk_frozen BK_b1.out 2
  have hc_b1_3 : w18_.cell? ⟨b1, 3, none⟩ = some (.slice A_r1 s1.length c_r1) := (blk_cell BK_b1.out 3).trans rfl
  have hf_b1_3 := blk_frozen BK_b1.out 3
  clear hc_b2_0 hf_b2_0 hc_b2_1 hf_b2_1 hc_b2_2 hf_b2_2 hc_b2_3 hf_b2_3
  replace BK_b2 := mvB BK_b2 hB
  have hc_b2_0 : w18_.cell? ⟨b2, 0, none⟩ = some (.int .u32 g) := (blk_cell BK_b2.out 0).trans rfl
  have hf_b2_0 := blk_frozen BK_b2.out 0
  have hc_b2_1 : w18_.cell? ⟨b2, 1, none⟩ = some (.bool true) := (blk_cell BK_b2.out 1).trans rfl
  have hf_b2_1 := blk_frozen BK_b2.out 1
  have hc_b2_2 : w18_.cell? ⟨b2, 2, none⟩ = some (.int .i64 t.f0) := (blk_cell BK_b2.out 2).trans rfl
  have hf_b2_2 := blk_frozen BK_b2.out 2
  have hc_b2_3 : w18_.cell? ⟨b2, 3, none⟩ = some (.slice A_r2 s2.length c_r2) := (blk_cell BK_b2.out 3).trans rfl
  have hf_b2_3 := blk_frozen BK_b2.out 3
  replace HC_r1 := mvC HC_r1 hB
  replace HC_r2 := mvC HC_r2 hB
  replace HC_r3 := mvC HC_r3 hB
  have BK_b3 := Aside0.mk hBN
  clear hG hBN hB
  have hc_b3_0 : w18_.cell? ⟨b3, 0, none⟩ = some (.int .u32 g3) := (blk_cell BK_b3.out 0).trans rfl
  have hf_b3_0 := blk_frozen BK_b3.out 0
  have hc_b3_1 : w18_.cell? ⟨b3, 1, none⟩ = some (.bool e3) := (blk_cell BK_b3.out 1).trans rfl
  have hf_b3_1 := blk_frozen BK_b3.out 1
  have hc_b3_2 : w18_.cell? ⟨b3, 2, none⟩ = some (.int .i64 l3) := (blk_cell BK_b3.out 2).trans rfl
  have hf_b3_2 := blk_frozen BK_b3.out 2
  have hc_b3_3 : w18_.cell? ⟨b3, 3, none⟩ = some (.slice A_r3 s3.length c_r3) := (blk_cell BK_b3.out 3).trans rfl
  have hf_b3_3 := blk_frozen BK_b3.out 3
  clear hc_b1_0 hf_b1_0 hc_b1_1 hf_b1_1 hc_b1_2 hf_b1_2 hc_b1_3 hf_b1_3
  clear BK_b1
  clear HC_r1 HK_r1
  go_upto_region 15 with (first | (go_at_call 17; (with_reducible refine (tick_flat Xhm2.out hn0.out Xhh4.out _ _ _ HC_r2.out HK_r2.out).mono ?_); rintro e_ w19_ ⟨A_r4, c_r4, rfl, hC, hK, hB⟩; replace HB := mvH HB hB; clear hc_gt_0 hf_gt_0 hc_gt_1 hf_gt_1; replace BK_gt := mvB BK_gt hB; have hc_gt_0 : w19_.cell? ⟨gt, 0, none⟩ = some (.int .i64 t.f0) := (blk_cell BK_gt.out 0).trans rfl; have hf_gt_0 := blk_frozen BK_gt.out 0; have hc_gt_1 : w19_.cell? ⟨gt, 1, none⟩ = some (.int .i64 t.f1) := (blk_cell BK_gt.out 1).trans rfl; have hf_gt_1 := blk_frozen BK_gt.out 1; clear hc_b2_0 hf_b2_0 hc_b2_1 hf_b2_1 hc_b2_2 hf_b2_2 hc_b2_3 hf_b2_3; replace BK_b2 := mvB BK_b2 hB; have hc_b2_0 : w19_.cell? ⟨b2, 0, none⟩ = some (.int .u32 g) := (blk_cell BK_b2.out 0).trans rfl; have hf_b2_0 := blk_frozen BK_b2.out 0; have hc_b2_1 : w19_.cell? ⟨b2, 1, none⟩ = some (.bool true) := (blk_cell BK_b2.out 1).trans rfl; have hf_b2_1 := blk_frozen BK_b2.out 1; have hc_b2_2 : w19_.cell? ⟨b2, 2, none⟩ = some (.int .i64 t.f0) := (blk_cell BK_b2.out 2).trans rfl; have hf_b2_2 := blk_frozen BK_b2.out 2; have hc_b2_3 : w19_.cell? ⟨b2, 3, none⟩ = some (.slice A_r2 s2.length c_r2) := (blk_cell BK_b2.out 3).trans rfl; have hf_b2_3 := blk_frozen BK_b2.out 3; clear hc_b3_0 hf_b3_0 hc_b3_1 hf_b3_1 hc_b3_2 hf_b3_2 hc_b3_3 hf_b3_3; replace BK_b3 := mvB BK_b3 hB; have hc_b3_0 : w19_.cell? ⟨b3, 0, none⟩ = some (.int .u32 g3) := (blk_cell BK_b3.out 0).trans rfl; have hf_b3_0 := blk_frozen BK_b3.out 0; have hc_b3_1 : w19_.cell? ⟨b3, 1, none⟩ = some (.bool e3) := (blk_cell BK_b3.out 1).trans rfl; have hf_b3_1 := blk_frozen BK_b3.out 1; have hc_b3_2 : w19_.cell? ⟨b3, 2, none⟩ = some (.int .i64 l3) := (blk_cell BK_b3.out 2).trans rfl; have hf_b3_2 := blk_frozen BK_b3.out 2; have hc_b3_3 : w19_.cell? ⟨b3, 3, none⟩ = some (.slice A_r3 s3.length c_r3) := (blk_cell BK_b3.out 3).trans rfl; have hf_b3_3 := blk_frozen BK_b3.out 3; replace HC_r2 := mvC HC_r2 hB; replace HC_r3 := mvC HC_r3 hB; have HC_r4 := Aside0.mk hC; have HK_r4 := Aside0.mk hK; clear hC hK hB) | ((with_reducible refine gate_dst (N := 18) rfl ?_); (try (refine gate_guard (by rfl) ?_; dsimp only)); refine box_event ?hg (N := 18) ?hd (cs := #[.int .u32 0, .bool false, .int .i64 0, .slice none 0 0]) (t := 28) ?hr ?_; (case hd => rfl); (case hg => rfl); (case hr => first | (go_simp; done) | (go_simp; rfl)); intro b4 hg w20_ hbox hB0; have hG := Aside0.mk (show w19_.heap.size ≤ b4 from Nat.le_of_eq hg.symm); clear hg; have hBX := Aside0.mk hbox; have hB1 := Aside0.mk hB0; clear hB0; have hc_b4_0 : w20_.cell? ⟨b4, 0, none⟩ = some (.int .u32 0) := (blk_cell hbox 0).trans rfl; have hf_b4_0 := blk_frozen hbox 0; have hc_b4_1 : w20_.cell? ⟨b4, 1, none⟩ = some (.bool false) := (blk_cell hbox 1).trans rfl; have hf_b4_1 := blk_frozen hbox 1; have hc_b4_2 : w20_.cell? ⟨b4, 2, none⟩ = some (.int .i64 0) := (blk_cell hbox 2).trans rfl; have hf_b4_2 := blk_frozen hbox 2; have hc_b4_3 : w20_.cell? ⟨b4, 3, none⟩ = some (.slice none 0 0) := (blk_cell hbox 3).trans rfl; have hf_b4_3 := blk_frozen hbox 3; clear hbox))
  have hB : Below w19_.heap.size w19_ ((((w20_.setCell ⟨b4, 0, none⟩ (.int .u32 g4)).setCell ⟨b4, 1, none⟩ (.bool e4)).setCell ⟨b4, 2, none⟩ (.int .i64 l4)).setCell ⟨b4, 3, none⟩ (.slice A_r4 s4.length c_r4)) := (below_set (below_set (below_set (below_set hB1.out hG.out) hG.out) hG.out) hG.out)
  have hBN : ((((w20_.setCell ⟨b4, 0, none⟩ (.int .u32 g4)).setCell ⟨b4, 1, none⟩ (.bool e4)).setCell ⟨b4, 2, none⟩ (.int .i64 l4)).setCell ⟨b4, 3, none⟩ (.slice A_r4 s4.length c_r4)).heap[b4]? = some (.cells #[.int .u32 g4, .bool e4, .int .i64 l4, .slice A_r4 s4.length c_r4] 28 (0, 0)) := (blk_put (cs := #[.int .u32 g4, .bool e4, .int .i64 l4, .slice none 0 0]) (blk_put (cs := #[.int .u32 g4, .bool e4, .int .i64 0, .slice none 0 0]) (blk_put (cs := #[.int .u32 g4, .bool false, .int .i64 0, .slice none 0 0]) (blk_put (cs := #[.int .u32 0, .bool false, .int .i64 0, .slice none 0 0]) hBX.out 0 (.int .u32 g4) rfl) 1 (.bool e4) rfl) 2 (.int .i64 l4) rfl) 3 (.slice A_r4 s4.length c_r4) rfl)
  clear hBX hB1
  clear hc_b4_0 hf_b4_0 hc_b4_1 hf_b4_1 hc_b4_2 hf_b4_2 hc_b4_3 hf_b4_3
  generalize ((((w20_.setCell ⟨b4, 0, none⟩ (.int .u32 g4)).setCell ⟨b4, 1, none⟩ (.bool e4)).setCell ⟨b4, 2, none⟩ (.int .i64 l4)).setCell ⟨b4, 3, none⟩ (.slice A_r4 s4.length c_r4)) = w21_ at hB hBN ⊢
  replace HB := mvH HB hB
  clear hc_gt_0 hf_gt_0 hc_gt_1 hf_gt_1
  replace BK_gt := mvB BK_gt hB
  have hc_gt_0 : w21_.cell? ⟨gt, 0, none⟩ = some (.int .i64 t.f0) := (blk_cell BK_gt.out 0).trans rfl
  have hf_gt_0 := blk_frozen BK_gt.out 0
  have hc_gt_1 : w21_.cell? ⟨gt, 1, none⟩ = some (.int .i64 t.f1) := (blk_cell BK_gt.out 1).trans rfl
  have hf_gt_1 := blk_frozen BK_gt.out 1
  clear hc_b2_0 hf_b2_0 hc_b2_1 hf_b2_1 hc_b2_2 hf_b2_2 hc_b2_3 hf_b2_3
  replace BK_b2 := mvB BK_b2 hB
  have hc_b2_0 : w21_.cell? ⟨b2, 0, none⟩ = some (.int .u32 g) := (blk_cell BK_b2.out 0).trans rfl
  have hf_b2_0 := blk_frozen BK_b2.out 0
  have hc_b2_1 : w21_.cell? ⟨b2, 1, none⟩ = some (.bool true) := (blk_cell BK_b2.out 1).trans rfl
  have hf_b2_1 := blk_frozen BK_b2.out 1
  have hc_b2_2 : w21_.cell? ⟨b2, 2, none⟩ = some (.int .i64 t.f0) := (blk_cell BK_b2.out 2).trans rfl
  have hf_b2_2 := blk_frozen BK_b2.out 2
  have hc_b2_3 : w21_.cell? ⟨b2, 3, none⟩ = some (.slice A_r2 s2.length c_r2) := (blk_cell BK_b2.out 3).trans rfl
  have hf_b2_3 := blk_frozen BK_b2.out 3
  clear hc_b3_0 hf_b3_0 hc_b3_1 hf_b3_1 hc_b3_2 hf_b3_2 hc_b3_3 hf_b3_3
  replace BK_b3 := mvB BK_b3 hB
  have hc_b3_0 : w21_.cell? ⟨b3, 0, none⟩ = some (.int .u32 g3) := (blk_cell BK_b3.out 0).trans rfl
  have hf_b3_0 := blk_frozen BK_b3.out 0
  have hc_b3_1 : w21_.cell? ⟨b3, 1, none⟩ = some (.bool e3) := (blk_cell BK_b3.out 1).trans rfl
  have hf_b3_1 := blk_frozen BK_b3.out 1
  have hc_b3_2 : w21_.cell? ⟨b3, 2, none⟩ = some (.int .i64 l3) := (blk_cell BK_b3.out 2).trans rfl
  have hf_b3_2 := blk_frozen BK_b3.out 2
  have hc_b3_3 : w21_.cell? ⟨b3, 3, none⟩ = some (.slice A_r3 s3.length c_r3) := (blk_cell BK_b3.out 3).trans rfl
  have hf_b3_3 := blk_frozen BK_b3.out 3
  replace HC_r2 := mvC HC_r2 hB
  replace HC_r3 := mvC HC_r3 hB
  replace HC_r4 := mvC HC_r4 hB
  have BK_b4 := Aside0.mk hBN
  clear hG hBN hB
  have hc_b4_0 : w21_.cell? ⟨b4, 0, none⟩ = some (.int .u32 g4) := (blk_cell BK_b4.out 0).trans rfl
  have hf_b4_0 := blk_frozen BK_b4.out 0
  have hc_b4_1 : w21_.cell? ⟨b4, 1, none⟩ = some (.bool e4) := (blk_cell BK_b4.out 1).trans rfl
  have hf_b4_1 := blk_frozen BK_b4.out 1
  have hc_b4_2 : w21_.cell? ⟨b4, 2, none⟩ = some (.int .i64 l4) := (blk_cell BK_b4.out 2).trans rfl
  have hf_b4_2 := blk_frozen BK_b4.out 2
  have hc_b4_3 : w21_.cell? ⟨b4, 3, none⟩ = some (.slice A_r4 s4.length c_r4) := (blk_cell BK_b4.out 3).trans rfl
  have hf_b4_3 := blk_frozen BK_b4.out 3
  clear hc_b2_0 hf_b2_0 hc_b2_1 hf_b2_1 hc_b2_2 hf_b2_2 hc_b2_3 hf_b2_3
  clear BK_b2
  clear HC_r2 HK_r2
  cases bi
  · refine start_ (n := 46) (S := fun w' => w'.cell? ⟨gt, 0, none⟩ = some (.int .i64 t.f0) ∧ w'.cell? ⟨gt, 1, none⟩ = some (.int .i64 t.f1) ∧ w'.cell? ⟨b3, 0, none⟩ = some (.int .u32 g3) ∧ w'.cell? ⟨b3, 1, none⟩ = some (.bool e3) ∧ w'.cell? ⟨b3, 2, none⟩ = some (.int .i64 l3) ∧ w'.cell? ⟨b3, 3, none⟩ = some (.slice A_r3 s3.length c_r3) ∧ w'.cell? ⟨b4, 0, none⟩ = some (.int .u32 g4) ∧ w'.cell? ⟨b4, 1, none⟩ = some (.bool e4) ∧ w'.cell? ⟨b4, 2, none⟩ = some (.int .i64 l4) ∧ w'.cell? ⟨b4, 3, none⟩ = some (.slice A_r4 s4.length c_r4)) (ds := []) #[false, false, false, false, false, false, false, false, false, false, false, false, false, false, false, false, false, false, false, false, false, false, false, false, false, false, false, false, false, false, false, false, false, false, false, false, false, false, false, false, false, false, false, false, false, false] (by kernel_rfl) rfl rfl ⟨hc_gt_0, hc_gt_1, hc_b3_0, hc_b3_1, hc_b3_2, hc_b3_3, hc_b4_0, hc_b4_1, hc_b4_2, hc_b4_3⟩ (fun hHeld => ?_); refine with_tabW mk_t mk_b (fun HT_ HW_ => ?_)
    have hB : Below w21_.heap.size w21_ w21_.drew := below_drew (Below.refl _ _)
    generalize w21_.drew = w22_ at hB hHeld ⊢
    replace HB := mvH HB hB
    clear hc_gt_0 hf_gt_0 hc_gt_1 hf_gt_1
    replace BK_gt := mvB BK_gt hB
    have hc_gt_0 : w22_.cell? ⟨gt, 0, none⟩ = some (.int .i64 t.f0) := (blk_cell BK_gt.out 0).trans rfl
    have hf_gt_0 := blk_frozen BK_gt.out 0
    have hc_gt_1 : w22_.cell? ⟨gt, 1, none⟩ = some (.int .i64 t.f1) := (blk_cell BK_gt.out 1).trans rfl
    have hf_gt_1 := blk_frozen BK_gt.out 1
    clear hc_b3_0 hf_b3_0 hc_b3_1 hf_b3_1 hc_b3_2 hf_b3_2 hc_b3_3 hf_b3_3
    replace BK_b3 := mvB BK_b3 hB
    have hc_b3_0 : w22_.cell? ⟨b3, 0, none⟩ = some (.int .u32 g3) := (blk_cell BK_b3.out 0).trans rfl
    have hf_b3_0 := blk_frozen BK_b3.out 0
    have hc_b3_1 : w22_.cell? ⟨b3, 1, none⟩ = some (.bool e3) := (blk_cell BK_b3.out 1).trans rfl
    have hf_b3_1 := blk_frozen BK_b3.out 1
    have hc_b3_2 : w22_.cell? ⟨b3, 2, none⟩ = some (.int .i64 l3) := (blk_cell BK_b3.out 2).trans rfl
    have hf_b3_2 := blk_frozen BK_b3.out 2
    have hc_b3_3 : w22_.cell? ⟨b3, 3, none⟩ = some (.slice A_r3 s3.length c_r3) := (blk_cell BK_b3.out 3).trans rfl
    have hf_b3_3 := blk_frozen BK_b3.out 3
    clear hc_b4_0 hf_b4_0 hc_b4_1 hf_b4_1 hc_b4_2 hf_b4_2 hc_b4_3 hf_b4_3
    replace BK_b4 := mvB BK_b4 hB
    have hc_b4_0 : w22_.cell? ⟨b4, 0, none⟩ = some (.int .u32 g4) := (blk_cell BK_b4.out 0).trans rfl
    have hf_b4_0 := blk_frozen BK_b4.out 0
    have hc_b4_1 : w22_.cell? ⟨b4, 1, none⟩ = some (.bool e4) := (blk_cell BK_b4.out 1).trans rfl
    have hf_b4_1 := blk_frozen BK_b4.out 1
    have hc_b4_2 : w22_.cell? ⟨b4, 2, none⟩ = some (.int .i64 l4) := (blk_cell BK_b4.out 2).trans rfl
    have hf_b4_2 := blk_frozen BK_b4.out 2
    have hc_b4_3 : w22_.cell? ⟨b4, 3, none⟩ = some (.slice A_r4 s4.length c_r4) := (blk_cell BK_b4.out 3).trans rfl
    have hf_b4_3 := blk_frozen BK_b4.out 3
    replace HC_r3 := mvC HC_r3 hB
    replace HC_r4 := mvC HC_r4 hB
    clear hB
    refine pure_ (i := 0) (N := some 79) (v := ?_) (a' := ?_) #[true, false, false, false, false, false, false, false, false, false, false, false, false, false, false, false, false, false, false, false, false, false, false, false, false, false, false, false, false, false, false, false, false, false, false, false, false, false, false, false, false, false, false, false, false, false] rfl rfl (any_of HT_.out (by kernel_rfl)) (fun _ _ _ h => h) (Or.inl ⟨by rfl, ?_⟩) ?_ ?_
    rotate_left
    · intro w'
      go_simp
      with_reducible rfl
    rotate_left
    · simp only [Act.put, List.setIfInBounds_toArray, List.set_cons_zero, List.set_cons_succ, i64_w, i32_w]
      rfl
    refine pure_ (i := 1) (N := some 80) (v := ?_) (a' := ?_) #[true, true, false, false, false, false, false, false, false, false, false, false, false, false, false, false, false, false, false, false, false, false, false, false, false, false, false, false, false, false, false, false, false, false, false, false, false, false, false, false, false, false, false, false, false, false] rfl rfl (any_of HT_.out (by kernel_rfl)) (fun _ _ _ h => h) (Or.inl ⟨by rfl, ?_⟩) ?_ ?_
    rotate_left
    · intro w'
      go_simp
      with_reducible rfl
    rotate_left
    · simp only [Act.put, List.setIfInBounds_toArray, List.set_cons_zero, List.set_cons_succ, i64_w, i32_w]
      rfl
    refine pure_ (i := 2) (N := some 81) (v := ?_) (a' := ?_) #[true, true, true, false, false, false, false, false, false, false, false, false, false, false, false, false, false, false, false, false, false, false, false, false, false, false, false, false, false, false, false, false, false, false, false, false, false, false, false, false, false, false, false, false, false, false] rfl rfl (any_of HT_.out (by kernel_rfl)) (fun _ _ _ h => h) (Or.inl ⟨by rfl, ?_⟩) ?_ ?_
    rotate_left
    · intro w'
      go_simp
      with_reducible rfl
    rotate_left
    · simp only [Act.put, List.setIfInBounds_toArray, List.set_cons_zero, List.set_cons_succ, i64_w, i32_w]
      rfl
    refine pure_ (i := 3) (N := some 82) (v := ?_) (a' := ?_) #[true, true, true, true, false, false, false, false, false, false, false, false, false, false, false, false, false, false, false, false, false, false, false, false, false, false, false, false, false, false, false, false, false, false, false, false, false, false, false, false, false, false, false, false, false, false] rfl rfl (any_of HT_.out (by kernel_rfl)) (fun _ _ _ h => h) (Or.inl ⟨by rfl, ?_⟩) ?_ ?_
    rotate_left
    · intro w'
      go_simp
      with_reducible rfl
    rotate_left
    · simp only [Act.put, List.setIfInBounds_toArray, List.set_cons_zero, List.set_cons_succ, i64_w, i32_w]
      rfl
    refine pure_ (i := 4) (N := some 83) (v := ?_) (a' := ?_) #[true, true, true, true, true, false, false, false, false, false, false, false, false, false, false, false, false, false, false, false, false, false, false, false, false, false, false, false, false, false, false, false, false, false, false, false, false, false, false, false, false, false, false, false, false, false] rfl rfl (any_of HT_.out (by kernel_rfl)) (fun _ _ _ h => h) (Or.inl ⟨by rfl, ?_⟩) ?_ ?_
    rotate_left
    · intro w'
      go_simp
      with_reducible rfl
    rotate_left
    · simp only [Act.put, List.setIfInBounds_toArray, List.set_cons_zero, List.set_cons_succ, i64_w, i32_w]
      rfl
    refine pure_ (i := 5) (N := some 84) (v := ?_) (a' := ?_) #[true, true, true, true, true, true, false, false, false, false, false, false, false, false, false, false, false, false, false, false, false, false, false, false, false, false, false, false, false, false, false, false, false, false, false, false, false, false, false, false, false, false, false, false, false, false] rfl rfl (any_of HT_.out (by kernel_rfl)) (fun _ _ _ h => h) (Or.inl ⟨by rfl, ?_⟩) ?_ ?_
    rotate_left
    · intro w'
      go_simp
      with_reducible rfl
    rotate_left
    · simp only [Act.put, List.setIfInBounds_toArray, List.set_cons_zero, List.set_cons_succ, i64_w, i32_w]
      rfl
    refine pure_ (i := 6) (N := some 85) (v := ?_) (a' := ?_) #[true, true, true, true, true, true, true, false, false, false, false, false, false, false, false, false, false, false, false, false, false, false, false, false, false, false, false, false, false, false, false, false, false, false, false, false, false, false, false, false, false, false, false, false, false, false] rfl rfl (any_of HT_.out (by kernel_rfl)) (fun _ _ _ h => h) (Or.inl ⟨by rfl, ?_⟩) ?_ ?_
    rotate_left
    · intro w'
      go_simp
      with_reducible rfl
    rotate_left
    · simp only [Act.put, List.setIfInBounds_toArray, List.set_cons_zero, List.set_cons_succ, i64_w, i32_w]
      rfl
    refine pure_ (i := 7) (N := some 86) (v := ?_) (a' := ?_) #[true, true, true, true, true, true, true, true, false, false, false, false, false, false, false, false, false, false, false, false, false, false, false, false, false, false, false, false, false, false, false, false, false, false, false, false, false, false, false, false, false, false, false, false, false, false] rfl rfl (any_of HT_.out (by kernel_rfl)) (fun _ _ _ h => h) (Or.inl ⟨by rfl, ?_⟩) ?_ ?_
    rotate_left
    · intro w'
      go_simp
      with_reducible rfl
    rotate_left
    · simp only [Act.put, List.setIfInBounds_toArray, List.set_cons_zero, List.set_cons_succ, i64_w, i32_w]
      rfl
    refine pure_ (i := 8) (N := some 87) (v := ?_) (a' := ?_) #[true, true, true, true, true, true, true, true, true, false, false, false, false, false, false, false, false, false, false, false, false, false, false, false, false, false, false, false, false, false, false, false, false, false, false, false, false, false, false, false, false, false, false, false, false, false] rfl rfl (any_of HT_.out (by kernel_rfl)) (fun _ _ _ h => h) (Or.inl ⟨by rfl, ?_⟩) ?_ ?_
    rotate_left
    · intro w'
      go_simp
      with_reducible rfl
    rotate_left
    · simp only [Act.put, List.setIfInBounds_toArray, List.set_cons_zero, List.set_cons_succ, i64_w, i32_w]
      rfl
    refine pure_ (i := 9) (N := some 88) (v := ?_) (a' := ?_) #[true, true, true, true, true, true, true, true, true, true, false, false, false, false, false, false, false, false, false, false, false, false, false, false, false, false, false, false, false, false, false, false, false, false, false, false, false, false, false, false, false, false, false, false, false, false] rfl rfl (any_of HT_.out (by kernel_rfl)) (fun _ _ _ h => h) (Or.inl ⟨by rfl, ?_⟩) ?_ ?_
    rotate_left
    · intro w'
      go_simp
      with_reducible rfl
    rotate_left
    · simp only [Act.put, List.setIfInBounds_toArray, List.set_cons_zero, List.set_cons_succ, i64_w, i32_w]
      rfl
    refine take_ (i := 10) (N := some 89) (v := ?_) (a' := ?_) #[true, true, true, true, true, true, true, true, true, true, true, false, false, false, false, false, false, false, false, false, false, false, false, false, false, false, false, false, false, false, false, false, false, false, false, false, false, false, false, false, false, false, false, false, false, false] rfl rfl (take_ofW HT_.out HW_.out (by kernel_rfl)) (fun _ _ _ h => h) (Or.inl ⟨by rfl, ?_⟩) hHeld ?_ ?_
    rotate_left
    · rintro w' ⟨s0, s1, s2, s3, s4, s5, s6, s7, s8, s9⟩
      go_simp
      with_reducible rfl
    rotate_left
    · simp only [Act.put, List.setIfInBounds_toArray, List.set_cons_zero, List.set_cons_succ, i64_w, i32_w]
      rfl
    refine pure_ (i := 11) (N := some 90) (v := ?_) (a' := ?_) #[true, true, true, true, true, true, true, true, true, true, true, true, false, false, false, false, false, false, false, false, false, false, false, false, false, false, false, false, false, false, false, false, false, false, false, false, false, false, false, false, false, false, false, false, false, false] rfl rfl (any_of HT_.out (by kernel_rfl)) (fun _ _ _ h => h) (Or.inl ⟨by rfl, ?_⟩) ?_ ?_
    rotate_left
    · intro w'
      go_simp
      with_reducible rfl
    rotate_left
    · simp only [Act.put, List.setIfInBounds_toArray, List.set_cons_zero, List.set_cons_succ, i64_w, i32_w]
      rfl
    refine pure_ (i := 13) (N := some 92) (v := ?_) (a' := ?_) #[true, true, true, true, true, true, true, true, true, true, true, true, false, true, false, false, false, false, false, false, false, false, false, false, false, false, false, false, false, false, false, false, false, false, false, false, false, false, false, false, false, false, false, false, false, false] rfl rfl (any_of HT_.out (by kernel_rfl)) (fun _ _ _ h => h) (Or.inl ⟨by rfl, ?_⟩) ?_ ?_
    rotate_left
    · intro w'
      go_simp
      with_reducible rfl
    rotate_left
    · simp only [Act.put, List.setIfInBounds_toArray, List.set_cons_zero, List.set_cons_succ, i64_w, i32_w]
      rfl
    refine one_ (i := 12) (N := some 91) #[true, true, true, true, true, true, true, true, true, true, true, true, true, true, false, false, false, false, false, false, false, false, false, false, false, false, false, false, false, false, false, false, false, false, false, false, false, false, false, false, false, false, false, false, false, false] rfl rfl (one_of HT_.out (by kernel_rfl)) (by decide) (fun K hK => ?_)
    refine goes_ Try.func19 (by kernel_rfl) rfl #[.agg #[.int .u32 g3, .bool e3, .int .i64 l3, .slice A_r3 s3.length c_r3], .int .u32 a] (by rfl) rfl rfl (by (try simp only [List.map_toArray, List.map_cons, List.map_nil]); first | done | rfl | (simp only [List.length_drop, List.length_take]; rfl)) ?_
    with_reducible refine (wants_flat Xhm3.out Xk1.out _ _ _ HC_r3.out HK_r3.out).mono ?_
    rintro e_ w23_ ⟨rfl, hB⟩
    refine ⟨_, rfl, ?_⟩
    replace HB := mvH HB hB
    clear hc_gt_0 hf_gt_0 hc_gt_1 hf_gt_1
    replace BK_gt := mvB BK_gt hB
    have hc_gt_0 : w23_.cell? ⟨gt, 0, none⟩ = some (.int .i64 t.f0) := (blk_cell BK_gt.out 0).trans rfl
    have hf_gt_0 := blk_frozen BK_gt.out 0
    have hc_gt_1 : w23_.cell? ⟨gt, 1, none⟩ = some (.int .i64 t.f1) := (blk_cell BK_gt.out 1).trans rfl
    have hf_gt_1 := blk_frozen BK_gt.out 1
    clear hc_b3_0 hf_b3_0 hc_b3_1 hf_b3_1 hc_b3_2 hf_b3_2 hc_b3_3 hf_b3_3
    replace BK_b3 := mvB BK_b3 hB
    have hc_b3_0 : w23_.cell? ⟨b3, 0, none⟩ = some (.int .u32 g3) := (blk_cell BK_b3.out 0).trans rfl
    have hf_b3_0 := blk_frozen BK_b3.out 0
    have hc_b3_1 : w23_.cell? ⟨b3, 1, none⟩ = some (.bool e3) := (blk_cell BK_b3.out 1).trans rfl
    have hf_b3_1 := blk_frozen BK_b3.out 1
    have hc_b3_2 : w23_.cell? ⟨b3, 2, none⟩ = some (.int .i64 l3) := (blk_cell BK_b3.out 2).trans rfl
    have hf_b3_2 := blk_frozen BK_b3.out 2
    have hc_b3_3 : w23_.cell? ⟨b3, 3, none⟩ = some (.slice A_r3 s3.length c_r3) := (blk_cell BK_b3.out 3).trans rfl
    have hf_b3_3 := blk_frozen BK_b3.out 3
    clear hc_b4_0 hf_b4_0 hc_b4_1 hf_b4_1 hc_b4_2 hf_b4_2 hc_b4_3 hf_b4_3
    replace BK_b4 := mvB BK_b4 hB
    have hc_b4_0 : w23_.cell? ⟨b4, 0, none⟩ = some (.int .u32 g4) := (blk_cell BK_b4.out 0).trans rfl
    have hf_b4_0 := blk_frozen BK_b4.out 0
    have hc_b4_1 : w23_.cell? ⟨b4, 1, none⟩ = some (.bool e4) := (blk_cell BK_b4.out 1).trans rfl
    have hf_b4_1 := blk_frozen BK_b4.out 1
    have hc_b4_2 : w23_.cell? ⟨b4, 2, none⟩ = some (.int .i64 l4) := (blk_cell BK_b4.out 2).trans rfl
    have hf_b4_2 := blk_frozen BK_b4.out 2
    have hc_b4_3 : w23_.cell? ⟨b4, 3, none⟩ = some (.slice A_r4 s4.length c_r4) := (blk_cell BK_b4.out 3).trans rfl
    have hf_b4_3 := blk_frozen BK_b4.out 3
    replace HC_r3 := mvC HC_r3 hB
    replace HC_r4 := mvC HC_r4 hB
    clear hB
    refine hK.out _ _ ⟨hc_gt_0, hc_gt_1, hc_b3_0, hc_b3_1, hc_b3_2, hc_b3_3, hc_b4_0, hc_b4_1, hc_b4_2, hc_b4_3⟩ (fun hHeld => ?_)
    clear hK K
    refine norm_ (a' := ?_) ?_ ?_
    rotate_left
    · show Act.put _ (some 91) _ = _
      simp only [Act.put, List.setIfInBounds_toArray, List.set_cons_zero, List.set_cons_succ, i64_w, i32_w]
      rfl
    refine pure_ (i := 14) (N := some 93) (v := ?_) (a' := ?_) #[true, true, true, true, true, true, true, true, true, true, true, true, true, true, true, false, false, false, false, false, false, false, false, false, false, false, false, false, false, false, false, false, false, false, false, false, false, false, false, false, false, false, false, false, false, false] rfl rfl (any_of HT_.out (by kernel_rfl)) (fun _ _ _ h => h) (Or.inl ⟨by rfl, ?_⟩) ?_ ?_
    rotate_left
    · intro w'
      go_simp
      with_reducible rfl
    rotate_left
    · simp only [Act.put, List.setIfInBounds_toArray, List.set_cons_zero, List.set_cons_succ, i64_w, i32_w]
      rfl
    refine pure_ (i := 15) (N := some 94) (v := undef) (a' := ?_) #[true, true, true, true, true, true, true, true, true, true, true, true, true, true, true, true, false, false, false, false, false, false, false, false, false, false, false, false, false, false, false, false, false, false, false, false, false, false, false, false, false, false, false, false, false, false] rfl rfl (any_of HT_.out (by kernel_rfl)) (fun _ _ _ h => h) (Or.inr ⟨by rfl, rfl⟩) ?_ ?_
    rotate_left
    · simp only [Act.put, List.setIfInBounds_toArray, List.set_cons_zero, List.set_cons_succ, i64_w, i32_w]
      rfl
    refine pure_ (i := 16) (N := some 95) (v := undef) (a' := ?_) #[true, true, true, true, true, true, true, true, true, true, true, true, true, true, true, true, true, false, false, false, false, false, false, false, false, false, false, false, false, false, false, false, false, false, false, false, false, false, false, false, false, false, false, false, false, false] rfl rfl (any_of HT_.out (by kernel_rfl)) (fun _ _ _ h => h) (Or.inr ⟨by rfl, rfl⟩) ?_ ?_
    rotate_left
    · simp only [Act.put, List.setIfInBounds_toArray, List.set_cons_zero, List.set_cons_succ, i64_w, i32_w]
      rfl
    refine pure_ (i := 17) (N := some 96) (v := undef) (a' := ?_) #[true, true, true, true, true, true, true, true, true, true, true, true, true, true, true, true, true, true, false, false, false, false, false, false, false, false, false, false, false, false, false, false, false, false, false, false, false, false, false, false, false, false, false, false, false, false] rfl rfl (any_of HT_.out (by kernel_rfl)) (fun _ _ _ h => h) (Or.inr ⟨by rfl, rfl⟩) ?_ ?_
    rotate_left
    · simp only [Act.put, List.setIfInBounds_toArray, List.set_cons_zero, List.set_cons_succ, i64_w, i32_w]
      rfl
    refine pure_ (i := 18) (N := some 97) (v := undef) (a' := ?_) #[true, true, true, true, true, true, true, true, true, true, true, true, true, true, true, true, true, true, true, false, false, false, false, false, false, false, false, false, false, false, false, false, false, false, false, false, false, false, false, false, false, false, false, false, false, false] rfl rfl (any_of HT_.out (by kernel_rfl)) (fun _ _ _ h => h) (Or.inr ⟨by rfl, rfl⟩) ?_ ?_
    rotate_left
    · simp only [Act.put, List.setIfInBounds_toArray, List.set_cons_zero, List.set_cons_succ, i64_w, i32_w]
      rfl
    refine pure_ (i := 19) (N := some 98) (v := ?_) (a' := ?_) #[true, true, true, true, true, true, true, true, true, true, true, true, true, true, true, true, true, true, true, true, false, false, false, false, false, false, false, false, false, false, false, false, false, false, false, false, false, false, false, false, false, false, false, false, false, false] rfl rfl (any_of HT_.out (by kernel_rfl)) (fun _ _ _ h => h) (Or.inl ⟨by rfl, ?_⟩) ?_ ?_
    rotate_left
    · intro w'
      go_simp
      with_reducible rfl
    rotate_left
    · simp only [Act.put, List.setIfInBounds_toArray, List.set_cons_zero, List.set_cons_succ, i64_w, i32_w]
      rfl
    refine pure_ (i := 20) (N := some 99) (v := ?_) (a' := ?_) #[true, true, true, true, true, true, true, true, true, true, true, true, true, true, true, true, true, true, true, true, true, false, false, false, false, false, false, false, false, false, false, false, false, false, false, false, false, false, false, false, false, false, false, false, false, false] rfl rfl (any_of HT_.out (by kernel_rfl)) (fun _ _ _ h => h) (Or.inl ⟨by rfl, ?_⟩) ?_ ?_
    rotate_left
    · intro w'
      go_simp
      with_reducible rfl
    rotate_left
    · simp only [Act.put, List.setIfInBounds_toArray, List.set_cons_zero, List.set_cons_succ, i64_w, i32_w]
      rfl
    refine pure_ (i := 21) (N := some 100) (v := ?_) (a' := ?_) #[true, true, true, true, true, true, true, true, true, true, true, true, true, true, true, true, true, true, true, true, true, true, false, false, false, false, false, false, false, false, false, false, false, false, false, false, false, false, false, false, false, false, false, false, false, false] rfl rfl (any_of HT_.out (by kernel_rfl)) (fun _ _ _ h => h) (Or.inl ⟨by rfl, ?_⟩) ?_ ?_
    rotate_left
    · intro w'
      go_simp
      with_reducible rfl
    rotate_left
    · simp only [Act.put, List.setIfInBounds_toArray, List.set_cons_zero, List.set_cons_succ, i64_w, i32_w]
      rfl
    refine pure_ (i := 22) (N := some 101) (v := ?_) (a' := ?_) #[true, true, true, true, true, true, true, true, true, true, true, true, true, true, true, true, true, true, true, true, true, true, true, false, false, false, false, false, false, false, false, false, false, false, false, false, false, false, false, false, false, false, false, false, false, false] rfl rfl (any_of HT_.out (by kernel_rfl)) (fun _ _ _ h => h) (Or.inl ⟨by rfl, ?_⟩) ?_ ?_
    rotate_left
    · intro w'
      go_simp
      with_reducible rfl
    rotate_left
    · simp only [Act.put, List.setIfInBounds_toArray, List.set_cons_zero, List.set_cons_succ, i64_w, i32_w]
      rfl
    refine take_ (i := 23) (N := some 102) (v := ?_) (a' := ?_) #[true, true, true, true, true, true, true, true, true, true, true, true, true, true, true, true, true, true, true, true, true, true, true, true, false, false, false, false, false, false, false, false, false, false, false, false, false, false, false, false, false, false, false, false, false, false] rfl rfl (take_ofW HT_.out HW_.out (by kernel_rfl)) (fun _ _ _ h => h) (Or.inl ⟨by rfl, ?_⟩) hHeld ?_ ?_
    rotate_left
    · rintro w' ⟨s0, s1, s2, s3, s4, s5, s6, s7, s8, s9⟩
      go_simp
      with_reducible rfl
    rotate_left
    · simp only [Act.put, List.setIfInBounds_toArray, List.set_cons_zero, List.set_cons_succ, i64_w, i32_w]
      rfl
    refine pure_ (i := 24) (N := some 103) (v := ?_) (a' := ?_) #[true, true, true, true, true, true, true, true, true, true, true, true, true, true, true, true, true, true, true, true, true, true, true, true, true, false, false, false, false, false, false, false, false, false, false, false, false, false, false, false, false, false, false, false, false, false] rfl rfl (any_of HT_.out (by kernel_rfl)) (fun _ _ _ h => h) (Or.inl ⟨by rfl, ?_⟩) ?_ ?_
    rotate_left
    · intro w'
      go_simp
      with_reducible rfl
    rotate_left
    · simp only [Act.put, List.setIfInBounds_toArray, List.set_cons_zero, List.set_cons_succ, i64_w, i32_w]
      rfl
    refine pure_ (i := 26) (N := some 105) (v := ?_) (a' := ?_) #[true, true, true, true, true, true, true, true, true, true, true, true, true, true, true, true, true, true, true, true, true, true, true, true, true, false, true, false, false, false, false, false, false, false, false, false, false, false, false, false, false, false, false, false, false, false] rfl rfl (any_of HT_.out (by kernel_rfl)) (fun _ _ _ h => h) (Or.inl ⟨by rfl, ?_⟩) ?_ ?_
    rotate_left
    · intro w'
      go_simp
      with_reducible rfl
    rotate_left
    · simp only [Act.put, List.setIfInBounds_toArray, List.set_cons_zero, List.set_cons_succ, i64_w, i32_w]
      rfl
    refine pure_ (i := 27) (N := some 106) (v := ?_) (a' := ?_) #[true, true, true, true, true, true, true, true, true, true, true, true, true, true, true, true, true, true, true, true, true, true, true, true, true, false, true, true, false, false, false, false, false, false, false, false, false, false, false, false, false, false, false, false, false, false] rfl rfl (any_of HT_.out (by kernel_rfl)) (fun _ _ _ h => h) (Or.inl ⟨by rfl, ?_⟩) ?_ ?_
    rotate_left
    · intro w'
      go_simp
      with_reducible rfl
    rotate_left
    · simp only [Act.put, List.setIfInBounds_toArray, List.set_cons_zero, List.set_cons_succ, i64_w, i32_w]
      rfl
    refine one_ (i := 25) (N := some 104) #[true, true, true, true, true, true, true, true, true, true, true, true, true, true, true, true, true, true, true, true, true, true, true, true, true, true, true, true, false, false, false, false, false, false, false, false, false, false, false, false, false, false, false, false, false, false] rfl rfl (one_of HT_.out (by kernel_rfl)) (by decide) (fun K hK => ?_)
    refine goes_ Try.func19 (by kernel_rfl) rfl #[.agg #[.int .u32 g4, .bool e4, .int .i64 l4, .slice A_r4 s4.length c_r4], .int .u32 a] (by rfl) rfl rfl (by (try simp only [List.map_toArray, List.map_cons, List.map_nil]); first | done | rfl | (simp only [List.length_drop, List.length_take]; rfl)) ?_
    with_reducible refine (wants_flat Xhm4.out Xk2.out _ _ _ HC_r4.out HK_r4.out).mono ?_
    rintro e_ w24_ ⟨rfl, hB⟩
    refine ⟨_, rfl, ?_⟩
    replace HB := mvH HB hB
    clear hc_gt_0 hf_gt_0 hc_gt_1 hf_gt_1
    replace BK_gt := mvB BK_gt hB
    have hc_gt_0 : w24_.cell? ⟨gt, 0, none⟩ = some (.int .i64 t.f0) := (blk_cell BK_gt.out 0).trans rfl
    have hf_gt_0 := blk_frozen BK_gt.out 0
    have hc_gt_1 : w24_.cell? ⟨gt, 1, none⟩ = some (.int .i64 t.f1) := (blk_cell BK_gt.out 1).trans rfl
    have hf_gt_1 := blk_frozen BK_gt.out 1
    clear hc_b3_0 hf_b3_0 hc_b3_1 hf_b3_1 hc_b3_2 hf_b3_2 hc_b3_3 hf_b3_3
    replace BK_b3 := mvB BK_b3 hB
    have hc_b3_0 : w24_.cell? ⟨b3, 0, none⟩ = some (.int .u32 g3) := (blk_cell BK_b3.out 0).trans rfl
    have hf_b3_0 := blk_frozen BK_b3.out 0
    have hc_b3_1 : w24_.cell? ⟨b3, 1, none⟩ = some (.bool e3) := (blk_cell BK_b3.out 1).trans rfl
    have hf_b3_1 := blk_frozen BK_b3.out 1
    have hc_b3_2 : w24_.cell? ⟨b3, 2, none⟩ = some (.int .i64 l3) := (blk_cell BK_b3.out 2).trans rfl
    have hf_b3_2 := blk_frozen BK_b3.out 2
    have hc_b3_3 : w24_.cell? ⟨b3, 3, none⟩ = some (.slice A_r3 s3.length c_r3) := (blk_cell BK_b3.out 3).trans rfl
    have hf_b3_3 := blk_frozen BK_b3.out 3
    clear hc_b4_0 hf_b4_0 hc_b4_1 hf_b4_1 hc_b4_2 hf_b4_2 hc_b4_3 hf_b4_3
    replace BK_b4 := mvB BK_b4 hB
    have hc_b4_0 : w24_.cell? ⟨b4, 0, none⟩ = some (.int .u32 g4) := (blk_cell BK_b4.out 0).trans rfl
    have hf_b4_0 := blk_frozen BK_b4.out 0
    have hc_b4_1 : w24_.cell? ⟨b4, 1, none⟩ = some (.bool e4) := (blk_cell BK_b4.out 1).trans rfl
    have hf_b4_1 := blk_frozen BK_b4.out 1
    have hc_b4_2 : w24_.cell? ⟨b4, 2, none⟩ = some (.int .i64 l4) := (blk_cell BK_b4.out 2).trans rfl
    have hf_b4_2 := blk_frozen BK_b4.out 2
    have hc_b4_3 : w24_.cell? ⟨b4, 3, none⟩ = some (.slice A_r4 s4.length c_r4) := (blk_cell BK_b4.out 3).trans rfl
    have hf_b4_3 := blk_frozen BK_b4.out 3
    replace HC_r3 := mvC HC_r3 hB
    replace HC_r4 := mvC HC_r4 hB
    clear hB
    refine hK.out _ _ ⟨hc_gt_0, hc_gt_1, hc_b3_0, hc_b3_1, hc_b3_2, hc_b3_3, hc_b4_0, hc_b4_1, hc_b4_2, hc_b4_3⟩ (fun hHeld => ?_)
    clear hK K
    refine norm_ (a' := ?_) ?_ ?_
    rotate_left
    · show Act.put _ (some 104) _ = _
      simp only [Act.put, List.setIfInBounds_toArray, List.set_cons_zero, List.set_cons_succ, i64_w, i32_w]
      rfl
    refine pure_ (i := 28) (N := some 107) (v := ?_) (a' := ?_) #[true, true, true, true, true, true, true, true, true, true, true, true, true, true, true, true, true, true, true, true, true, true, true, true, true, true, true, true, true, false, false, false, false, false, false, false, false, false, false, false, false, false, false, false, false, false] rfl rfl (any_of HT_.out (by kernel_rfl)) (fun _ _ _ h => h) (Or.inl ⟨by rfl, ?_⟩) ?_ ?_
    rotate_left
    · intro w'
      go_simp
      with_reducible rfl
    rotate_left
    · simp only [Act.put, List.setIfInBounds_toArray, List.set_cons_zero, List.set_cons_succ, i64_w, i32_w]
      rfl
    refine pure_ (i := 29) (N := some 108) (v := ?_) (a' := ?_) #[true, true, true, true, true, true, true, true, true, true, true, true, true, true, true, true, true, true, true, true, true, true, true, true, true, true, true, true, true, true, false, false, false, false, false, false, false, false, false, false, false, false, false, false, false, false] rfl rfl (any_of HT_.out (by kernel_rfl)) (fun _ _ _ h => h) (Or.inl ⟨by rfl, ?_⟩) ?_ ?_
    rotate_left
    · intro w'
      go_simp
      with_reducible rfl
    rotate_left
    · simp only [Act.put, List.setIfInBounds_toArray, List.set_cons_zero, List.set_cons_succ, i64_w, i32_w]
      rfl
    refine pure_ (i := 30) (N := some 109) (v := ?_) (a' := ?_) #[true, true, true, true, true, true, true, true, true, true, true, true, true, true, true, true, true, true, true, true, true, true, true, true, true, true, true, true, true, true, true, false, false, false, false, false, false, false, false, false, false, false, false, false, false, false] rfl rfl (any_of HT_.out (by kernel_rfl)) (fun _ _ _ h => h) (Or.inl ⟨by rfl, ?_⟩) ?_ ?_
    rotate_left
    · intro w'
      go_simp
      with_reducible rfl
    rotate_left
    · simp only [Act.put, List.setIfInBounds_toArray, List.set_cons_zero, List.set_cons_succ, i64_w, i32_w]
      rfl
    refine take_ (i := 31) (N := some 110) (v := ?_) (a' := ?_) #[true, true, true, true, true, true, true, true, true, true, true, true, true, true, true, true, true, true, true, true, true, true, true, true, true, true, true, true, true, true, true, true, false, false, false, false, false, false, false, false, false, false, false, false, false, false] rfl rfl (take_ofW HT_.out HW_.out (by kernel_rfl)) (fun _ _ _ h => h) (Or.inl ⟨by rfl, ?_⟩) hHeld ?_ ?_
    rotate_left
    · rintro w' ⟨s0, s1, s2, s3, s4, s5, s6, s7, s8, s9⟩
      go_simp
      with_reducible rfl
    rotate_left
    · simp only [Act.put, List.setIfInBounds_toArray, List.set_cons_zero, List.set_cons_succ, i64_w, i32_w]
      rfl
    refine pure_ (i := 32) (N := some 111) (v := ?_) (a' := ?_) #[true, true, true, true, true, true, true, true, true, true, true, true, true, true, true, true, true, true, true, true, true, true, true, true, true, true, true, true, true, true, true, true, true, false, false, false, false, false, false, false, false, false, false, false, false, false] rfl rfl (any_of HT_.out (by kernel_rfl)) (fun _ _ _ h => h) (Or.inl ⟨by rfl, ?_⟩) ?_ ?_
    rotate_left
    · intro w'
      go_simp
      with_reducible rfl
    rotate_left
    · simp only [Act.put, List.setIfInBounds_toArray, List.set_cons_zero, List.set_cons_succ, i64_w, i32_w]
      rfl
    refine pure_ (i := 33) (N := some 112) (v := ?_) (a' := ?_) #[true, true, true, true, true, true, true, true, true, true, true, true, true, true, true, true, true, true, true, true, true, true, true, true, true, true, true, true, true, true, true, true, true, true, false, false, false, false, false, false, false, false, false, false, false, false] rfl rfl (any_of HT_.out (by kernel_rfl)) (fun _ _ _ h => h) (Or.inl ⟨by rfl, ?_⟩) ?_ ?_
    rotate_left
    · intro w'
      go_simp
      with_reducible rfl
    rotate_left
    · simp only [Act.put, List.setIfInBounds_toArray, List.set_cons_zero, List.set_cons_succ, i64_w, i32_w]
      rfl
    refine pure_ (i := 34) (N := some 113) (v := ?_) (a' := ?_) #[true, true, true, true, true, true, true, true, true, true, true, true, true, true, true, true, true, true, true, true, true, true, true, true, true, true, true, true, true, true, true, true, true, true, true, false, false, false, false, false, false, false, false, false, false, false] rfl rfl (any_of HT_.out (by kernel_rfl)) (fun _ _ _ h => h) (Or.inl ⟨by rfl, ?_⟩) ?_ ?_
    rotate_left
    · intro w'
      go_simp
      with_reducible rfl
    rotate_left
    · simp only [Act.put, List.setIfInBounds_toArray, List.set_cons_zero, List.set_cons_succ, i64_w, i32_w]
      rfl
    refine pure_ (i := 35) (N := some 114) (v := ?_) (a' := ?_) #[true, true, true, true, true, true, true, true, true, true, true, true, true, true, true, true, true, true, true, true, true, true, true, true, true, true, true, true, true, true, true, true, true, true, true, true, false, false, false, false, false, false, false, false, false, false] rfl rfl (any_of HT_.out (by kernel_rfl)) (fun _ _ _ h => h) (Or.inl ⟨by rfl, ?_⟩) ?_ ?_
    rotate_left
    · intro w'
      go_simp
      with_reducible rfl
    rotate_left
    · simp only [Act.put, List.setIfInBounds_toArray, List.set_cons_zero, List.set_cons_succ, i64_w, i32_w]
      rfl
    refine pure_ (i := 36) (N := some 115) (v := ?_) (a' := ?_) #[true, true, true, true, true, true, true, true, true, true, true, true, true, true, true, true, true, true, true, true, true, true, true, true, true, true, true, true, true, true, true, true, true, true, true, true, true, false, false, false, false, false, false, false, false, false] rfl rfl (any_of HT_.out (by kernel_rfl)) (fun _ _ _ h => h) (Or.inl ⟨by rfl, ?_⟩) ?_ ?_
    rotate_left
    · intro w'
      go_simp
      with_reducible rfl
    rotate_left
    · simp only [Act.put, List.setIfInBounds_toArray, List.set_cons_zero, List.set_cons_succ, i64_w, i32_w]
      rfl
    refine take_ (i := 37) (N := some 116) (v := ?_) (a' := ?_) #[true, true, true, true, true, true, true, true, true, true, true, true, true, true, true, true, true, true, true, true, true, true, true, true, true, true, true, true, true, true, true, true, true, true, true, true, true, true, false, false, false, false, false, false, false, false] rfl rfl (take_ofW HT_.out HW_.out (by kernel_rfl)) (fun _ _ _ h => h) (Or.inl ⟨by rfl, ?_⟩) hHeld ?_ ?_
    rotate_left
    · rintro w' ⟨s0, s1, s2, s3, s4, s5, s6, s7, s8, s9⟩
      go_simp
      with_reducible rfl
    rotate_left
    · simp only [Act.put, List.setIfInBounds_toArray, List.set_cons_zero, List.set_cons_succ, i64_w, i32_w]
      rfl
    refine pure_ (i := 39) (N := some 118) (v := ?_) (a' := ?_) #[true, true, true, true, true, true, true, true, true, true, true, true, true, true, true, true, true, true, true, true, true, true, true, true, true, true, true, true, true, true, true, true, true, true, true, true, true, true, false, true, false, false, false, false, false, false] rfl rfl (any_of HT_.out (by kernel_rfl)) (fun _ _ _ h => h) (Or.inl ⟨by rfl, ?_⟩) ?_ ?_
    rotate_left
    · intro w'
      go_simp
      with_reducible rfl
    rotate_left
    · simp only [Act.put, List.setIfInBounds_toArray, List.set_cons_zero, List.set_cons_succ, i64_w, i32_w]
      rfl
    refine pure_ (i := 40) (N := some 119) (v := ?_) (a' := ?_) #[true, true, true, true, true, true, true, true, true, true, true, true, true, true, true, true, true, true, true, true, true, true, true, true, true, true, true, true, true, true, true, true, true, true, true, true, true, true, false, true, true, false, false, false, false, false] rfl rfl (any_of HT_.out (by kernel_rfl)) (fun _ _ _ h => h) (Or.inl ⟨by rfl, ?_⟩) ?_ ?_
    rotate_left
    · intro w'
      go_simp
      with_reducible rfl
    rotate_left
    · simp only [Act.put, List.setIfInBounds_toArray, List.set_cons_zero, List.set_cons_succ, i64_w, i32_w]
      rfl
    refine take_ (i := 41) (N := some 120) (v := ?_) (a' := ?_) #[true, true, true, true, true, true, true, true, true, true, true, true, true, true, true, true, true, true, true, true, true, true, true, true, true, true, true, true, true, true, true, true, true, true, true, true, true, true, false, true, true, true, false, false, false, false] rfl rfl (take_ofW HT_.out HW_.out (by kernel_rfl)) (fun _ _ _ h => h) (Or.inl ⟨by rfl, ?_⟩) hHeld ?_ ?_
    rotate_left
    · rintro w' ⟨s0, s1, s2, s3, s4, s5, s6, s7, s8, s9⟩
      go_simp
      with_reducible rfl
    rotate_left
    · simp only [Act.put, List.setIfInBounds_toArray, List.set_cons_zero, List.set_cons_succ, i64_w, i32_w]
      rfl
    refine pure_ (i := 42) (N := some 121) (v := ?_) (a' := ?_) #[true, true, true, true, true, true, true, true, true, true, true, true, true, true, true, true, true, true, true, true, true, true, true, true, true, true, true, true, true, true, true, true, true, true, true, true, true, true, false, true, true, true, true, false, false, false] rfl rfl (any_of HT_.out (by kernel_rfl)) (fun _ _ _ h => h) (Or.inl ⟨by rfl, ?_⟩) ?_ ?_
    rotate_left
    · intro w'
      go_simp
      with_reducible rfl
    rotate_left
    · simp only [Act.put, List.setIfInBounds_toArray, List.set_cons_zero, List.set_cons_succ, i64_w, i32_w]
      rfl
    refine one_ (i := 38) (N := some 117) #[true, true, true, true, true, true, true, true, true, true, true, true, true, true, true, true, true, true, true, true, true, true, true, true, true, true, true, true, true, true, true, true, true, true, true, true, true, true, true, true, true, true, true, false, false, false] rfl rfl (one_of HT_.out (by kernel_rfl)) (by decide) (fun K hK => ?_)
    refine goes_ Try.func20 (by kernel_rfl) rfl #[.agg #[.int .u32 g4, .bool e4, .int .i64 l4, .slice A_r4 s4.length c_r4]] (by rfl) rfl rfl (by (try simp only [List.map_toArray, List.map_cons, List.map_nil]); first | done | rfl | (simp only [List.length_drop, List.length_take]; rfl)) ?_
    with_reducible refine (some_flat Xk3.out _ _ _ HC_r4.out HK_r4.out).mono ?_
    rintro e_ w25_ ⟨rfl, hB⟩
    refine ⟨_, rfl, ?_⟩
    replace HB := mvH HB hB
    clear hc_gt_0 hf_gt_0 hc_gt_1 hf_gt_1
    replace BK_gt := mvB BK_gt hB
    have hc_gt_0 : w25_.cell? ⟨gt, 0, none⟩ = some (.int .i64 t.f0) := (blk_cell BK_gt.out 0).trans rfl
    have hf_gt_0 := blk_frozen BK_gt.out 0
    have hc_gt_1 : w25_.cell? ⟨gt, 1, none⟩ = some (.int .i64 t.f1) := (blk_cell BK_gt.out 1).trans rfl
    have hf_gt_1 := blk_frozen BK_gt.out 1
    clear hc_b3_0 hf_b3_0 hc_b3_1 hf_b3_1 hc_b3_2 hf_b3_2 hc_b3_3 hf_b3_3
    replace BK_b3 := mvB BK_b3 hB
    have hc_b3_0 : w25_.cell? ⟨b3, 0, none⟩ = some (.int .u32 g3) := (blk_cell BK_b3.out 0).trans rfl
    have hf_b3_0 := blk_frozen BK_b3.out 0
    have hc_b3_1 : w25_.cell? ⟨b3, 1, none⟩ = some (.bool e3) := (blk_cell BK_b3.out 1).trans rfl
    have hf_b3_1 := blk_frozen BK_b3.out 1
    have hc_b3_2 : w25_.cell? ⟨b3, 2, none⟩ = some (.int .i64 l3) := (blk_cell BK_b3.out 2).trans rfl
    have hf_b3_2 := blk_frozen BK_b3.out 2
    have hc_b3_3 : w25_.cell? ⟨b3, 3, none⟩ = some (.slice A_r3 s3.length c_r3) := (blk_cell BK_b3.out 3).trans rfl
    have hf_b3_3 := blk_frozen BK_b3.out 3
    clear hc_b4_0 hf_b4_0 hc_b4_1 hf_b4_1 hc_b4_2 hf_b4_2 hc_b4_3 hf_b4_3
    replace BK_b4 := mvB BK_b4 hB
    have hc_b4_0 : w25_.cell? ⟨b4, 0, none⟩ = some (.int .u32 g4) := (blk_cell BK_b4.out 0).trans rfl
    have hf_b4_0 := blk_frozen BK_b4.out 0
    have hc_b4_1 : w25_.cell? ⟨b4, 1, none⟩ = some (.bool e4) := (blk_cell BK_b4.out 1).trans rfl
    have hf_b4_1 := blk_frozen BK_b4.out 1
    have hc_b4_2 : w25_.cell? ⟨b4, 2, none⟩ = some (.int .i64 l4) := (blk_cell BK_b4.out 2).trans rfl
    have hf_b4_2 := blk_frozen BK_b4.out 2
    have hc_b4_3 : w25_.cell? ⟨b4, 3, none⟩ = some (.slice A_r4 s4.length c_r4) := (blk_cell BK_b4.out 3).trans rfl
    have hf_b4_3 := blk_frozen BK_b4.out 3
    replace HC_r3 := mvC HC_r3 hB
    replace HC_r4 := mvC HC_r4 hB
    clear hB
    refine hK.out _ _ ⟨hc_gt_0, hc_gt_1, hc_b3_0, hc_b3_1, hc_b3_2, hc_b3_3, hc_b4_0, hc_b4_1, hc_b4_2, hc_b4_3⟩ (fun hHeld => ?_)
    clear hK K
    refine norm_ (a' := ?_) ?_ ?_
    rotate_left
    · show Act.put _ (some 117) _ = _
      simp only [Act.put, List.setIfInBounds_toArray, List.set_cons_zero, List.set_cons_succ, i64_w, i32_w]
      rfl
    refine pure_ (i := 43) (N := some 122) (v := ?_) (a' := ?_) #[true, true, true, true, true, true, true, true, true, true, true, true, true, true, true, true, true, true, true, true, true, true, true, true, true, true, true, true, true, true, true, true, true, true, true, true, true, true, true, true, true, true, true, true, false, false] rfl rfl (any_of HT_.out (by kernel_rfl)) (fun _ _ _ h => h) (Or.inl ⟨by rfl, ?_⟩) ?_ ?_
    rotate_left
    · intro w'
      go_simp
      with_reducible rfl
    rotate_left
    · simp only [Act.put, List.setIfInBounds_toArray, List.set_cons_zero, List.set_cons_succ, i64_w, i32_w]
      rfl
    refine pure_ (i := 44) (N := some 123) (v := ?_) (a' := ?_) #[true, true, true, true, true, true, true, true, true, true, true, true, true, true, true, true, true, true, true, true, true, true, true, true, true, true, true, true, true, true, true, true, true, true, true, true, true, true, true, true, true, true, true, true, true, false] rfl rfl (any_of HT_.out (by kernel_rfl)) (fun _ _ _ h => h) (Or.inl ⟨by rfl, ?_⟩) ?_ ?_
    rotate_left
    · intro w'
      go_simp
      with_reducible rfl
    rotate_left
    · simp only [Act.put, List.setIfInBounds_toArray, List.set_cons_zero, List.set_cons_succ, i64_w, i32_w]
      rfl
    refine pure_ (i := 45) (N := some 2) (v := ?_) (a' := ?_) #[true, true, true, true, true, true, true, true, true, true, true, true, true, true, true, true, true, true, true, true, true, true, true, true, true, true, true, true, true, true, true, true, true, true, true, true, true, true, true, true, true, true, true, true, true, true] rfl rfl (any_of HT_.out (by kernel_rfl)) (fun _ _ _ h => h) (Or.inl ⟨by rfl, ?_⟩) ?_ ?_
    rotate_left
    · intro w'
      go_simp
      with_reducible rfl
    rotate_left
    · simp only [Act.put, List.setIfInBounds_toArray, List.set_cons_zero, List.set_cons_succ, i64_w, i32_w]
      rfl
    refine done_ (done_of HT_.out (by kernel_rfl)) ?_
    try go_wp2
    go_ret
    exact ⟨rfl, HB.out⟩
  · refine start_ (n := 46) (S := fun w' => w'.cell? ⟨gt, 0, none⟩ = some (.int .i64 t.f0) ∧ w'.cell? ⟨gt, 1, none⟩ = some (.int .i64 t.f1) ∧ w'.cell? ⟨b3, 0, none⟩ = some (.int .u32 g3) ∧ w'.cell? ⟨b3, 1, none⟩ = some (.bool e3) ∧ w'.cell? ⟨b3, 2, none⟩ = some (.int .i64 l3) ∧ w'.cell? ⟨b3, 3, none⟩ = some (.slice A_r3 s3.length c_r3) ∧ w'.cell? ⟨b4, 0, none⟩ = some (.int .u32 g4) ∧ w'.cell? ⟨b4, 1, none⟩ = some (.bool e4) ∧ w'.cell? ⟨b4, 2, none⟩ = some (.int .i64 l4) ∧ w'.cell? ⟨b4, 3, none⟩ = some (.slice A_r4 s4.length c_r4)) (ds := []) #[false, false, false, false, false, false, false, false, false, false, false, false, false, false, false, false, false, false, false, false, false, false, false, false, false, false, false, false, false, false, false, false, false, false, false, false, false, false, false, false, false, false, false, false, false, false] (by kernel_rfl) rfl rfl ⟨hc_gt_0, hc_gt_1, hc_b3_0, hc_b3_1, hc_b3_2, hc_b3_3, hc_b4_0, hc_b4_1, hc_b4_2, hc_b4_3⟩ (fun hHeld => ?_); refine with_tabW mk_t mk_b (fun HT_ HW_ => ?_)
    have hB : Below w21_.heap.size w21_ w21_.drew := below_drew (Below.refl _ _)
    generalize w21_.drew = w22_ at hB hHeld ⊢
    replace HB := mvH HB hB
    clear hc_gt_0 hf_gt_0 hc_gt_1 hf_gt_1
    replace BK_gt := mvB BK_gt hB
    have hc_gt_0 : w22_.cell? ⟨gt, 0, none⟩ = some (.int .i64 t.f0) := (blk_cell BK_gt.out 0).trans rfl
    have hf_gt_0 := blk_frozen BK_gt.out 0
    have hc_gt_1 : w22_.cell? ⟨gt, 1, none⟩ = some (.int .i64 t.f1) := (blk_cell BK_gt.out 1).trans rfl
    have hf_gt_1 := blk_frozen BK_gt.out 1
    clear hc_b3_0 hf_b3_0 hc_b3_1 hf_b3_1 hc_b3_2 hf_b3_2 hc_b3_3 hf_b3_3
    replace BK_b3 := mvB BK_b3 hB
    have hc_b3_0 : w22_.cell? ⟨b3, 0, none⟩ = some (.int .u32 g3) := (blk_cell BK_b3.out 0).trans rfl
    have hf_b3_0 := blk_frozen BK_b3.out 0
    have hc_b3_1 : w22_.cell? ⟨b3, 1, none⟩ = some (.bool e3) := (blk_cell BK_b3.out 1).trans rfl
    have hf_b3_1 := blk_frozen BK_b3.out 1
    have hc_b3_2 : w22_.cell? ⟨b3, 2, none⟩ = some (.int .i64 l3) := (blk_cell BK_b3.out 2).trans rfl
    have hf_b3_2 := blk_frozen BK_b3.out 2
    have hc_b3_3 : w22_.cell? ⟨b3, 3, none⟩ = some (.slice A_r3 s3.length c_r3) := (blk_cell BK_b3.out 3).trans rfl
    have hf_b3_3 := blk_frozen BK_b3.out 3
    clear hc_b4_0 hf_b4_0 hc_b4_1 hf_b4_1 hc_b4_2 hf_b4_2 hc_b4_3 hf_b4_3
    replace BK_b4 := mvB BK_b4 hB
    have hc_b4_0 : w22_.cell? ⟨b4, 0, none⟩ = some (.int .u32 g4) := (blk_cell BK_b4.out 0).trans rfl
    have hf_b4_0 := blk_frozen BK_b4.out 0
    have hc_b4_1 : w22_.cell? ⟨b4, 1, none⟩ = some (.bool e4) := (blk_cell BK_b4.out 1).trans rfl
    have hf_b4_1 := blk_frozen BK_b4.out 1
    have hc_b4_2 : w22_.cell? ⟨b4, 2, none⟩ = some (.int .i64 l4) := (blk_cell BK_b4.out 2).trans rfl
    have hf_b4_2 := blk_frozen BK_b4.out 2
    have hc_b4_3 : w22_.cell? ⟨b4, 3, none⟩ = some (.slice A_r4 s4.length c_r4) := (blk_cell BK_b4.out 3).trans rfl
    have hf_b4_3 := blk_frozen BK_b4.out 3
    replace HC_r3 := mvC HC_r3 hB
    replace HC_r4 := mvC HC_r4 hB
    clear hB
    refine pure_ (i := 0) (N := some 79) (v := ?_) (a' := ?_) #[true, false, false, false, false, false, false, false, false, false, false, false, false, false, false, false, false, false, false, false, false, false, false, false, false, false, false, false, false, false, false, false, false, false, false, false, false, false, false, false, false, false, false, false, false, false] rfl rfl (any_of HT_.out (by kernel_rfl)) (fun _ _ _ h => h) (Or.inl ⟨by rfl, ?_⟩) ?_ ?_
    rotate_left
    · intro w'
      go_simp
      with_reducible rfl
    rotate_left
    · simp only [Act.put, List.setIfInBounds_toArray, List.set_cons_zero, List.set_cons_succ, i64_w, i32_w]
      rfl
    refine pure_ (i := 1) (N := some 80) (v := ?_) (a' := ?_) #[true, true, false, false, false, false, false, false, false, false, false, false, false, false, false, false, false, false, false, false, false, false, false, false, false, false, false, false, false, false, false, false, false, false, false, false, false, false, false, false, false, false, false, false, false, false] rfl rfl (any_of HT_.out (by kernel_rfl)) (fun _ _ _ h => h) (Or.inl ⟨by rfl, ?_⟩) ?_ ?_
    rotate_left
    · intro w'
      go_simp
      with_reducible rfl
    rotate_left
    · simp only [Act.put, List.setIfInBounds_toArray, List.set_cons_zero, List.set_cons_succ, i64_w, i32_w]
      rfl
    refine pure_ (i := 2) (N := some 81) (v := ?_) (a' := ?_) #[true, true, true, false, false, false, false, false, false, false, false, false, false, false, false, false, false, false, false, false, false, false, false, false, false, false, false, false, false, false, false, false, false, false, false, false, false, false, false, false, false, false, false, false, false, false] rfl rfl (any_of HT_.out (by kernel_rfl)) (fun _ _ _ h => h) (Or.inl ⟨by rfl, ?_⟩) ?_ ?_
    rotate_left
    · intro w'
      go_simp
      with_reducible rfl
    rotate_left
    · simp only [Act.put, List.setIfInBounds_toArray, List.set_cons_zero, List.set_cons_succ, i64_w, i32_w]
      rfl
    refine pure_ (i := 3) (N := some 82) (v := ?_) (a' := ?_) #[true, true, true, true, false, false, false, false, false, false, false, false, false, false, false, false, false, false, false, false, false, false, false, false, false, false, false, false, false, false, false, false, false, false, false, false, false, false, false, false, false, false, false, false, false, false] rfl rfl (any_of HT_.out (by kernel_rfl)) (fun _ _ _ h => h) (Or.inl ⟨by rfl, ?_⟩) ?_ ?_
    rotate_left
    · intro w'
      go_simp
      with_reducible rfl
    rotate_left
    · simp only [Act.put, List.setIfInBounds_toArray, List.set_cons_zero, List.set_cons_succ, i64_w, i32_w]
      rfl
    refine pure_ (i := 4) (N := some 83) (v := ?_) (a' := ?_) #[true, true, true, true, true, false, false, false, false, false, false, false, false, false, false, false, false, false, false, false, false, false, false, false, false, false, false, false, false, false, false, false, false, false, false, false, false, false, false, false, false, false, false, false, false, false] rfl rfl (any_of HT_.out (by kernel_rfl)) (fun _ _ _ h => h) (Or.inl ⟨by rfl, ?_⟩) ?_ ?_
    rotate_left
    · intro w'
      go_simp
      with_reducible rfl
    rotate_left
    · simp only [Act.put, List.setIfInBounds_toArray, List.set_cons_zero, List.set_cons_succ, i64_w, i32_w]
      rfl
    refine pure_ (i := 5) (N := some 84) (v := ?_) (a' := ?_) #[true, true, true, true, true, true, false, false, false, false, false, false, false, false, false, false, false, false, false, false, false, false, false, false, false, false, false, false, false, false, false, false, false, false, false, false, false, false, false, false, false, false, false, false, false, false] rfl rfl (any_of HT_.out (by kernel_rfl)) (fun _ _ _ h => h) (Or.inl ⟨by rfl, ?_⟩) ?_ ?_
    rotate_left
    · intro w'
      go_simp
      with_reducible rfl
    rotate_left
    · simp only [Act.put, List.setIfInBounds_toArray, List.set_cons_zero, List.set_cons_succ, i64_w, i32_w]
      rfl
    refine pure_ (i := 6) (N := some 85) (v := ?_) (a' := ?_) #[true, true, true, true, true, true, true, false, false, false, false, false, false, false, false, false, false, false, false, false, false, false, false, false, false, false, false, false, false, false, false, false, false, false, false, false, false, false, false, false, false, false, false, false, false, false] rfl rfl (any_of HT_.out (by kernel_rfl)) (fun _ _ _ h => h) (Or.inl ⟨by rfl, ?_⟩) ?_ ?_
    rotate_left
    · intro w'
      go_simp
      with_reducible rfl
    rotate_left
    · simp only [Act.put, List.setIfInBounds_toArray, List.set_cons_zero, List.set_cons_succ, i64_w, i32_w]
      rfl
    refine pure_ (i := 7) (N := some 86) (v := ?_) (a' := ?_) #[true, true, true, true, true, true, true, true, false, false, false, false, false, false, false, false, false, false, false, false, false, false, false, false, false, false, false, false, false, false, false, false, false, false, false, false, false, false, false, false, false, false, false, false, false, false] rfl rfl (any_of HT_.out (by kernel_rfl)) (fun _ _ _ h => h) (Or.inl ⟨by rfl, ?_⟩) ?_ ?_
    rotate_left
    · intro w'
      go_simp
      with_reducible rfl
    rotate_left
    · simp only [Act.put, List.setIfInBounds_toArray, List.set_cons_zero, List.set_cons_succ, i64_w, i32_w]
      rfl
    refine pure_ (i := 8) (N := some 87) (v := ?_) (a' := ?_) #[true, true, true, true, true, true, true, true, true, false, false, false, false, false, false, false, false, false, false, false, false, false, false, false, false, false, false, false, false, false, false, false, false, false, false, false, false, false, false, false, false, false, false, false, false, false] rfl rfl (any_of HT_.out (by kernel_rfl)) (fun _ _ _ h => h) (Or.inl ⟨by rfl, ?_⟩) ?_ ?_
    rotate_left
    · intro w'
      go_simp
      with_reducible rfl
    rotate_left
    · simp only [Act.put, List.setIfInBounds_toArray, List.set_cons_zero, List.set_cons_succ, i64_w, i32_w]
      rfl
    refine pure_ (i := 9) (N := some 88) (v := ?_) (a' := ?_) #[true, true, true, true, true, true, true, true, true, true, false, false, false, false, false, false, false, false, false, false, false, false, false, false, false, false, false, false, false, false, false, false, false, false, false, false, false, false, false, false, false, false, false, false, false, false] rfl rfl (any_of HT_.out (by kernel_rfl)) (fun _ _ _ h => h) (Or.inl ⟨by rfl, ?_⟩) ?_ ?_
    rotate_left
    · intro w'
      go_simp
      with_reducible rfl
    rotate_left
    · simp only [Act.put, List.setIfInBounds_toArray, List.set_cons_zero, List.set_cons_succ, i64_w, i32_w]
      rfl
    refine take_ (i := 10) (N := some 89) (v := ?_) (a' := ?_) #[true, true, true, true, true, true, true, true, true, true, true, false, false, false, false, false, false, false, false, false, false, false, false, false, false, false, false, false, false, false, false, false, false, false, false, false, false, false, false, false, false, false, false, false, false, false] rfl rfl (take_ofW HT_.out HW_.out (by kernel_rfl)) (fun _ _ _ h => h) (Or.inl ⟨by rfl, ?_⟩) hHeld ?_ ?_
    rotate_left
    · rintro w' ⟨s0, s1, s2, s3, s4, s5, s6, s7, s8, s9⟩
      go_simp
      with_reducible rfl
    rotate_left
    · simp only [Act.put, List.setIfInBounds_toArray, List.set_cons_zero, List.set_cons_succ, i64_w, i32_w]
      rfl
    refine pure_ (i := 11) (N := some 90) (v := ?_) (a' := ?_) #[true, true, true, true, true, true, true, true, true, true, true, true, false, false, false, false, false, false, false, false, false, false, false, false, false, false, false, false, false, false, false, false, false, false, false, false, false, false, false, false, false, false, false, false, false, false] rfl rfl (any_of HT_.out (by kernel_rfl)) (fun _ _ _ h => h) (Or.inl ⟨by rfl, ?_⟩) ?_ ?_
    rotate_left
    · intro w'
      go_simp
      with_reducible rfl
    rotate_left
    · simp only [Act.put, List.setIfInBounds_toArray, List.set_cons_zero, List.set_cons_succ, i64_w, i32_w]
      rfl
    refine pure_ (i := 13) (N := some 92) (v := ?_) (a' := ?_) #[true, true, true, true, true, true, true, true, true, true, true, true, false, true, false, false, false, false, false, false, false, false, false, false, false, false, false, false, false, false, false, false, false, false, false, false, false, false, false, false, false, false, false, false, false, false] rfl rfl (any_of HT_.out (by kernel_rfl)) (fun _ _ _ h => h) (Or.inl ⟨by rfl, ?_⟩) ?_ ?_
    rotate_left
    · intro w'
      go_simp
      with_reducible rfl
    rotate_left
    · simp only [Act.put, List.setIfInBounds_toArray, List.set_cons_zero, List.set_cons_succ, i64_w, i32_w]
      rfl
    refine one_ (i := 12) (N := some 91) #[true, true, true, true, true, true, true, true, true, true, true, true, true, true, false, false, false, false, false, false, false, false, false, false, false, false, false, false, false, false, false, false, false, false, false, false, false, false, false, false, false, false, false, false, false, false] rfl rfl (one_of HT_.out (by kernel_rfl)) (by decide) (fun K hK => ?_)
    refine goes_ Try.func19 (by kernel_rfl) rfl #[.agg #[.int .u32 g3, .bool e3, .int .i64 l3, .slice A_r3 s3.length c_r3], .int .u32 a] (by rfl) rfl rfl (by (try simp only [List.map_toArray, List.map_cons, List.map_nil]); first | done | rfl | (simp only [List.length_drop, List.length_take]; rfl)) ?_
    with_reducible refine (wants_flat Xhm3.out Xk1.out _ _ _ HC_r3.out HK_r3.out).mono ?_
    rintro e_ w23_ ⟨rfl, hB⟩
    refine ⟨_, rfl, ?_⟩
    replace HB := mvH HB hB
    clear hc_gt_0 hf_gt_0 hc_gt_1 hf_gt_1
    replace BK_gt := mvB BK_gt hB
    have hc_gt_0 : w23_.cell? ⟨gt, 0, none⟩ = some (.int .i64 t.f0) := (blk_cell BK_gt.out 0).trans rfl
    have hf_gt_0 := blk_frozen BK_gt.out 0
    have hc_gt_1 : w23_.cell? ⟨gt, 1, none⟩ = some (.int .i64 t.f1) := (blk_cell BK_gt.out 1).trans rfl
    have hf_gt_1 := blk_frozen BK_gt.out 1
    clear hc_b3_0 hf_b3_0 hc_b3_1 hf_b3_1 hc_b3_2 hf_b3_2 hc_b3_3 hf_b3_3
    replace BK_b3 := mvB BK_b3 hB
    have hc_b3_0 : w23_.cell? ⟨b3, 0, none⟩ = some (.int .u32 g3) := (blk_cell BK_b3.out 0).trans rfl
    have hf_b3_0 := blk_frozen BK_b3.out 0
    have hc_b3_1 : w23_.cell? ⟨b3, 1, none⟩ = some (.bool e3) := (blk_cell BK_b3.out 1).trans rfl
    have hf_b3_1 := blk_frozen BK_b3.out 1
    have hc_b3_2 : w23_.cell? ⟨b3, 2, none⟩ = some (.int .i64 l3) := (blk_cell BK_b3.out 2).trans rfl
    have hf_b3_2 := blk_frozen BK_b3.out 2
    have hc_b3_3 : w23_.cell? ⟨b3, 3, none⟩ = some (.slice A_r3 s3.length c_r3) := (blk_cell BK_b3.out 3).trans rfl
    have hf_b3_3 := blk_frozen BK_b3.out 3
    clear hc_b4_0 hf_b4_0 hc_b4_1 hf_b4_1 hc_b4_2 hf_b4_2 hc_b4_3 hf_b4_3
    replace BK_b4 := mvB BK_b4 hB
    have hc_b4_0 : w23_.cell? ⟨b4, 0, none⟩ = some (.int .u32 g4) := (blk_cell BK_b4.out 0).trans rfl
    have hf_b4_0 := blk_frozen BK_b4.out 0
    have hc_b4_1 : w23_.cell? ⟨b4, 1, none⟩ = some (.bool e4) := (blk_cell BK_b4.out 1).trans rfl
    have hf_b4_1 := blk_frozen BK_b4.out 1
    have hc_b4_2 : w23_.cell? ⟨b4, 2, none⟩ = some (.int .i64 l4) := (blk_cell BK_b4.out 2).trans rfl
    have hf_b4_2 := blk_frozen BK_b4.out 2
    have hc_b4_3 : w23_.cell? ⟨b4, 3, none⟩ = some (.slice A_r4 s4.length c_r4) := (blk_cell BK_b4.out 3).trans rfl
    have hf_b4_3 := blk_frozen BK_b4.out 3
    replace HC_r3 := mvC HC_r3 hB
    replace HC_r4 := mvC HC_r4 hB
    clear hB
    refine hK.out _ _ ⟨hc_gt_0, hc_gt_1, hc_b3_0, hc_b3_1, hc_b3_2, hc_b3_3, hc_b4_0, hc_b4_1, hc_b4_2, hc_b4_3⟩ (fun hHeld => ?_)
    clear hK K
    refine norm_ (a' := ?_) ?_ ?_
    rotate_left
    · show Act.put _ (some 91) _ = _
      simp only [Act.put, List.setIfInBounds_toArray, List.set_cons_zero, List.set_cons_succ, i64_w, i32_w]
      rfl
    refine pure_ (i := 14) (N := some 93) (v := ?_) (a' := ?_) #[true, true, true, true, true, true, true, true, true, true, true, true, true, true, true, false, false, false, false, false, false, false, false, false, false, false, false, false, false, false, false, false, false, false, false, false, false, false, false, false, false, false, false, false, false, false] rfl rfl (any_of HT_.out (by kernel_rfl)) (fun _ _ _ h => h) (Or.inl ⟨by rfl, ?_⟩) ?_ ?_
    rotate_left
    · intro w'
      go_simp
      with_reducible rfl
    rotate_left
    · simp only [Act.put, List.setIfInBounds_toArray, List.set_cons_zero, List.set_cons_succ, i64_w, i32_w]
      rfl
    refine pure_ (i := 15) (N := some 94) (v := ?_) (a' := ?_) #[true, true, true, true, true, true, true, true, true, true, true, true, true, true, true, true, false, false, false, false, false, false, false, false, false, false, false, false, false, false, false, false, false, false, false, false, false, false, false, false, false, false, false, false, false, false] rfl rfl (any_of HT_.out (by kernel_rfl)) (fun _ _ _ h => h) (Or.inl ⟨by rfl, ?_⟩) ?_ ?_
    rotate_left
    · intro w'
      go_simp
      with_reducible rfl
    rotate_left
    · simp only [Act.put, List.setIfInBounds_toArray, List.set_cons_zero, List.set_cons_succ, i64_w, i32_w]
      rfl
    refine pure_ (i := 16) (N := some 95) (v := ?_) (a' := ?_) #[true, true, true, true, true, true, true, true, true, true, true, true, true, true, true, true, true, false, false, false, false, false, false, false, false, false, false, false, false, false, false, false, false, false, false, false, false, false, false, false, false, false, false, false, false, false] rfl rfl (any_of HT_.out (by kernel_rfl)) (fun _ _ _ h => h) (Or.inl ⟨by rfl, ?_⟩) ?_ ?_
    rotate_left
    · intro w'
      go_simp
      with_reducible rfl
    rotate_left
    · simp only [Act.put, List.setIfInBounds_toArray, List.set_cons_zero, List.set_cons_succ, i64_w, i32_w]
      rfl
    refine take_ (i := 17) (N := some 96) (v := ?_) (a' := ?_) #[true, true, true, true, true, true, true, true, true, true, true, true, true, true, true, true, true, true, false, false, false, false, false, false, false, false, false, false, false, false, false, false, false, false, false, false, false, false, false, false, false, false, false, false, false, false] rfl rfl (take_ofW HT_.out HW_.out (by kernel_rfl)) (fun _ _ _ h => h) (Or.inl ⟨by rfl, ?_⟩) hHeld ?_ ?_
    rotate_left
    · rintro w' ⟨s0, s1, s2, s3, s4, s5, s6, s7, s8, s9⟩
      go_simp
      with_reducible rfl
    rotate_left
    · simp only [Act.put, List.setIfInBounds_toArray, List.set_cons_zero, List.set_cons_succ, i64_w, i32_w]
      rfl
    refine pure_ (i := 18) (N := some 97) (v := ?_) (a' := ?_) #[true, true, true, true, true, true, true, true, true, true, true, true, true, true, true, true, true, true, true, false, false, false, false, false, false, false, false, false, false, false, false, false, false, false, false, false, false, false, false, false, false, false, false, false, false, false] rfl rfl (any_of HT_.out (by kernel_rfl)) (fun _ _ _ h => h) (Or.inl ⟨by rfl, ?_⟩) ?_ ?_
    rotate_left
    · intro w'
      go_simp
      with_reducible rfl
    rotate_left
    · simp only [Act.put, List.setIfInBounds_toArray, List.set_cons_zero, List.set_cons_succ, i64_w, i32_w]
      rfl
    refine pure_ (i := 19) (N := some 98) (v := ?_) (a' := ?_) #[true, true, true, true, true, true, true, true, true, true, true, true, true, true, true, true, true, true, true, true, false, false, false, false, false, false, false, false, false, false, false, false, false, false, false, false, false, false, false, false, false, false, false, false, false, false] rfl rfl (any_of HT_.out (by kernel_rfl)) (fun _ _ _ h => h) (Or.inl ⟨by rfl, ?_⟩) ?_ ?_
    rotate_left
    · intro w'
      go_simp
      with_reducible rfl
    rotate_left
    · simp only [Act.put, List.setIfInBounds_toArray, List.set_cons_zero, List.set_cons_succ, i64_w, i32_w]
      rfl
    refine pure_ (i := 20) (N := some 99) (v := ?_) (a' := ?_) #[true, true, true, true, true, true, true, true, true, true, true, true, true, true, true, true, true, true, true, true, true, false, false, false, false, false, false, false, false, false, false, false, false, false, false, false, false, false, false, false, false, false, false, false, false, false] rfl rfl (any_of HT_.out (by kernel_rfl)) (fun _ _ _ h => h) (Or.inl ⟨by rfl, ?_⟩) ?_ ?_
    rotate_left
    · intro w'
      go_simp
      with_reducible rfl
    rotate_left
    · simp only [Act.put, List.setIfInBounds_toArray, List.set_cons_zero, List.set_cons_succ, i64_w, i32_w]
      rfl
    refine pure_ (i := 21) (N := some 100) (v := ?_) (a' := ?_) #[true, true, true, true, true, true, true, true, true, true, true, true, true, true, true, true, true, true, true, true, true, true, false, false, false, false, false, false, false, false, false, false, false, false, false, false, false, false, false, false, false, false, false, false, false, false] rfl rfl (any_of HT_.out (by kernel_rfl)) (fun _ _ _ h => h) (Or.inl ⟨by rfl, ?_⟩) ?_ ?_
    rotate_left
    · intro w'
      go_simp
      with_reducible rfl
    rotate_left
    · simp only [Act.put, List.setIfInBounds_toArray, List.set_cons_zero, List.set_cons_succ, i64_w, i32_w]
      rfl
    refine pure_ (i := 22) (N := some 101) (v := ?_) (a' := ?_) #[true, true, true, true, true, true, true, true, true, true, true, true, true, true, true, true, true, true, true, true, true, true, true, false, false, false, false, false, false, false, false, false, false, false, false, false, false, false, false, false, false, false, false, false, false, false] rfl rfl (any_of HT_.out (by kernel_rfl)) (fun _ _ _ h => h) (Or.inl ⟨by rfl, ?_⟩) ?_ ?_
    rotate_left
    · intro w'
      go_simp
      with_reducible rfl
    rotate_left
    · simp only [Act.put, List.setIfInBounds_toArray, List.set_cons_zero, List.set_cons_succ, i64_w, i32_w]
      rfl
    refine take_ (i := 23) (N := some 102) (v := ?_) (a' := ?_) #[true, true, true, true, true, true, true, true, true, true, true, true, true, true, true, true, true, true, true, true, true, true, true, true, false, false, false, false, false, false, false, false, false, false, false, false, false, false, false, false, false, false, false, false, false, false] rfl rfl (take_ofW HT_.out HW_.out (by kernel_rfl)) (fun _ _ _ h => h) (Or.inl ⟨by rfl, ?_⟩) hHeld ?_ ?_
    rotate_left
    · rintro w' ⟨s0, s1, s2, s3, s4, s5, s6, s7, s8, s9⟩
      go_simp
      with_reducible rfl
    rotate_left
    · simp only [Act.put, List.setIfInBounds_toArray, List.set_cons_zero, List.set_cons_succ, i64_w, i32_w]
      rfl
    refine pure_ (i := 24) (N := some 103) (v := ?_) (a' := ?_) #[true, true, true, true, true, true, true, true, true, true, true, true, true, true, true, true, true, true, true, true, true, true, true, true, true, false, false, false, false, false, false, false, false, false, false, false, false, false, false, false, false, false, false, false, false, false] rfl rfl (any_of HT_.out (by kernel_rfl)) (fun _ _ _ h => h) (Or.inl ⟨by rfl, ?_⟩) ?_ ?_
    rotate_left
    · intro w'
      go_simp
      with_reducible rfl
    rotate_left
    · simp only [Act.put, List.setIfInBounds_toArray, List.set_cons_zero, List.set_cons_succ, i64_w, i32_w]
      rfl
    refine pure_ (i := 26) (N := some 105) (v := ?_) (a' := ?_) #[true, true, true, true, true, true, true, true, true, true, true, true, true, true, true, true, true, true, true, true, true, true, true, true, true, false, true, false, false, false, false, false, false, false, false, false, false, false, false, false, false, false, false, false, false, false] rfl rfl (any_of HT_.out (by kernel_rfl)) (fun _ _ _ h => h) (Or.inl ⟨by rfl, ?_⟩) ?_ ?_
    rotate_left
    · intro w'
      go_simp
      with_reducible rfl
    rotate_left
    · simp only [Act.put, List.setIfInBounds_toArray, List.set_cons_zero, List.set_cons_succ, i64_w, i32_w]
      rfl
    refine pure_ (i := 27) (N := some 106) (v := ?_) (a' := ?_) #[true, true, true, true, true, true, true, true, true, true, true, true, true, true, true, true, true, true, true, true, true, true, true, true, true, false, true, true, false, false, false, false, false, false, false, false, false, false, false, false, false, false, false, false, false, false] rfl rfl (any_of HT_.out (by kernel_rfl)) (fun _ _ _ h => h) (Or.inl ⟨by rfl, ?_⟩) ?_ ?_
    rotate_left
    · intro w'
      go_simp
      with_reducible rfl
    rotate_left
    · simp only [Act.put, List.setIfInBounds_toArray, List.set_cons_zero, List.set_cons_succ, i64_w, i32_w]
      rfl
    refine one_ (i := 25) (N := some 104) #[true, true, true, true, true, true, true, true, true, true, true, true, true, true, true, true, true, true, true, true, true, true, true, true, true, true, true, true, false, false, false, false, false, false, false, false, false, false, false, false, false, false, false, false, false, false] rfl rfl (one_of HT_.out (by kernel_rfl)) (by decide) (fun K hK => ?_)
    refine goes_ Try.func19 (by kernel_rfl) rfl #[.agg #[.int .u32 g4, .bool e4, .int .i64 l4, .slice A_r4 s4.length c_r4], .int .u32 a] (by rfl) rfl rfl (by (try simp only [List.map_toArray, List.map_cons, List.map_nil]); first | done | rfl | (simp only [List.length_drop, List.length_take]; rfl)) ?_
    with_reducible refine (wants_flat Xhm4.out Xk2.out _ _ _ HC_r4.out HK_r4.out).mono ?_
    rintro e_ w24_ ⟨rfl, hB⟩
    refine ⟨_, rfl, ?_⟩
    replace HB := mvH HB hB
    clear hc_gt_0 hf_gt_0 hc_gt_1 hf_gt_1
    replace BK_gt := mvB BK_gt hB
    have hc_gt_0 : w24_.cell? ⟨gt, 0, none⟩ = some (.int .i64 t.f0) := (blk_cell BK_gt.out 0).trans rfl
    have hf_gt_0 := blk_frozen BK_gt.out 0
    have hc_gt_1 : w24_.cell? ⟨gt, 1, none⟩ = some (.int .i64 t.f1) := (blk_cell BK_gt.out 1).trans rfl
    have hf_gt_1 := blk_frozen BK_gt.out 1
    clear hc_b3_0 hf_b3_0 hc_b3_1 hf_b3_1 hc_b3_2 hf_b3_2 hc_b3_3 hf_b3_3
    replace BK_b3 := mvB BK_b3 hB
    have hc_b3_0 : w24_.cell? ⟨b3, 0, none⟩ = some (.int .u32 g3) := (blk_cell BK_b3.out 0).trans rfl
    have hf_b3_0 := blk_frozen BK_b3.out 0
    have hc_b3_1 : w24_.cell? ⟨b3, 1, none⟩ = some (.bool e3) := (blk_cell BK_b3.out 1).trans rfl
    have hf_b3_1 := blk_frozen BK_b3.out 1
    have hc_b3_2 : w24_.cell? ⟨b3, 2, none⟩ = some (.int .i64 l3) := (blk_cell BK_b3.out 2).trans rfl
    have hf_b3_2 := blk_frozen BK_b3.out 2
    have hc_b3_3 : w24_.cell? ⟨b3, 3, none⟩ = some (.slice A_r3 s3.length c_r3) := (blk_cell BK_b3.out 3).trans rfl
    have hf_b3_3 := blk_frozen BK_b3.out 3
    clear hc_b4_0 hf_b4_0 hc_b4_1 hf_b4_1 hc_b4_2 hf_b4_2 hc_b4_3 hf_b4_3
    replace BK_b4 := mvB BK_b4 hB
    have hc_b4_0 : w24_.cell? ⟨b4, 0, none⟩ = some (.int .u32 g4) := (blk_cell BK_b4.out 0).trans rfl
    have hf_b4_0 := blk_frozen BK_b4.out 0
    have hc_b4_1 : w24_.cell? ⟨b4, 1, none⟩ = some (.bool e4) := (blk_cell BK_b4.out 1).trans rfl
    have hf_b4_1 := blk_frozen BK_b4.out 1
    have hc_b4_2 : w24_.cell? ⟨b4, 2, none⟩ = some (.int .i64 l4) := (blk_cell BK_b4.out 2).trans rfl
    have hf_b4_2 := blk_frozen BK_b4.out 2
    have hc_b4_3 : w24_.cell? ⟨b4, 3, none⟩ = some (.slice A_r4 s4.length c_r4) := (blk_cell BK_b4.out 3).trans rfl
    have hf_b4_3 := blk_frozen BK_b4.out 3
    replace HC_r3 := mvC HC_r3 hB
    replace HC_r4 := mvC HC_r4 hB
    clear hB
    refine hK.out _ _ ⟨hc_gt_0, hc_gt_1, hc_b3_0, hc_b3_1, hc_b3_2, hc_b3_3, hc_b4_0, hc_b4_1, hc_b4_2, hc_b4_3⟩ (fun hHeld => ?_)
    clear hK K
    refine norm_ (a' := ?_) ?_ ?_
    rotate_left
    · show Act.put _ (some 104) _ = _
      simp only [Act.put, List.setIfInBounds_toArray, List.set_cons_zero, List.set_cons_succ, i64_w, i32_w]
      rfl
    refine pure_ (i := 28) (N := some 107) (v := ?_) (a' := ?_) #[true, true, true, true, true, true, true, true, true, true, true, true, true, true, true, true, true, true, true, true, true, true, true, true, true, true, true, true, true, false, false, false, false, false, false, false, false, false, false, false, false, false, false, false, false, false] rfl rfl (any_of HT_.out (by kernel_rfl)) (fun _ _ _ h => h) (Or.inl ⟨by rfl, ?_⟩) ?_ ?_
    rotate_left
    · intro w'
      go_simp
      with_reducible rfl
    rotate_left
    · simp only [Act.put, List.setIfInBounds_toArray, List.set_cons_zero, List.set_cons_succ, i64_w, i32_w]
      rfl
    refine pure_ (i := 29) (N := some 108) (v := undef) (a' := ?_) #[true, true, true, true, true, true, true, true, true, true, true, true, true, true, true, true, true, true, true, true, true, true, true, true, true, true, true, true, true, true, false, false, false, false, false, false, false, false, false, false, false, false, false, false, false, false] rfl rfl (any_of HT_.out (by kernel_rfl)) (fun _ _ _ h => h) (Or.inr ⟨by rfl, rfl⟩) ?_ ?_
    rotate_left
    · simp only [Act.put, List.setIfInBounds_toArray, List.set_cons_zero, List.set_cons_succ, i64_w, i32_w]
      rfl
    refine pure_ (i := 30) (N := some 109) (v := undef) (a' := ?_) #[true, true, true, true, true, true, true, true, true, true, true, true, true, true, true, true, true, true, true, true, true, true, true, true, true, true, true, true, true, true, true, false, false, false, false, false, false, false, false, false, false, false, false, false, false, false] rfl rfl (any_of HT_.out (by kernel_rfl)) (fun _ _ _ h => h) (Or.inr ⟨by rfl, rfl⟩) ?_ ?_
    rotate_left
    · simp only [Act.put, List.setIfInBounds_toArray, List.set_cons_zero, List.set_cons_succ, i64_w, i32_w]
      rfl
    refine pure_ (i := 31) (N := some 110) (v := undef) (a' := ?_) #[true, true, true, true, true, true, true, true, true, true, true, true, true, true, true, true, true, true, true, true, true, true, true, true, true, true, true, true, true, true, true, true, false, false, false, false, false, false, false, false, false, false, false, false, false, false] rfl rfl (any_of HT_.out (by kernel_rfl)) (fun _ _ _ h => h) (Or.inr ⟨by rfl, rfl⟩) ?_ ?_
    rotate_left
    · simp only [Act.put, List.setIfInBounds_toArray, List.set_cons_zero, List.set_cons_succ, i64_w, i32_w]
      rfl
    refine pure_ (i := 32) (N := some 111) (v := undef) (a' := ?_) #[true, true, true, true, true, true, true, true, true, true, true, true, true, true, true, true, true, true, true, true, true, true, true, true, true, true, true, true, true, true, true, true, true, false, false, false, false, false, false, false, false, false, false, false, false, false] rfl rfl (any_of HT_.out (by kernel_rfl)) (fun _ _ _ h => h) (Or.inr ⟨by rfl, rfl⟩) ?_ ?_
    rotate_left
    · simp only [Act.put, List.setIfInBounds_toArray, List.set_cons_zero, List.set_cons_succ, i64_w, i32_w]
      rfl
    refine pure_ (i := 33) (N := some 112) (v := ?_) (a' := ?_) #[true, true, true, true, true, true, true, true, true, true, true, true, true, true, true, true, true, true, true, true, true, true, true, true, true, true, true, true, true, true, true, true, true, true, false, false, false, false, false, false, false, false, false, false, false, false] rfl rfl (any_of HT_.out (by kernel_rfl)) (fun _ _ _ h => h) (Or.inl ⟨by rfl, ?_⟩) ?_ ?_
    rotate_left
    · intro w'
      go_simp
      with_reducible rfl
    rotate_left
    · simp only [Act.put, List.setIfInBounds_toArray, List.set_cons_zero, List.set_cons_succ, i64_w, i32_w]
      rfl
    refine pure_ (i := 34) (N := some 113) (v := ?_) (a' := ?_) #[true, true, true, true, true, true, true, true, true, true, true, true, true, true, true, true, true, true, true, true, true, true, true, true, true, true, true, true, true, true, true, true, true, true, true, false, false, false, false, false, false, false, false, false, false, false] rfl rfl (any_of HT_.out (by kernel_rfl)) (fun _ _ _ h => h) (Or.inl ⟨by rfl, ?_⟩) ?_ ?_
    rotate_left
    · intro w'
      go_simp
      with_reducible rfl
    rotate_left
    · simp only [Act.put, List.setIfInBounds_toArray, List.set_cons_zero, List.set_cons_succ, i64_w, i32_w]
      rfl
    refine pure_ (i := 35) (N := some 114) (v := ?_) (a' := ?_) #[true, true, true, true, true, true, true, true, true, true, true, true, true, true, true, true, true, true, true, true, true, true, true, true, true, true, true, true, true, true, true, true, true, true, true, true, false, false, false, false, false, false, false, false, false, false] rfl rfl (any_of HT_.out (by kernel_rfl)) (fun _ _ _ h => h) (Or.inl ⟨by rfl, ?_⟩) ?_ ?_
    rotate_left
    · intro w'
      go_simp
      with_reducible rfl
    rotate_left
    · simp only [Act.put, List.setIfInBounds_toArray, List.set_cons_zero, List.set_cons_succ, i64_w, i32_w]
      rfl
    refine pure_ (i := 36) (N := some 115) (v := ?_) (a' := ?_) #[true, true, true, true, true, true, true, true, true, true, true, true, true, true, true, true, true, true, true, true, true, true, true, true, true, true, true, true, true, true, true, true, true, true, true, true, true, false, false, false, false, false, false, false, false, false] rfl rfl (any_of HT_.out (by kernel_rfl)) (fun _ _ _ h => h) (Or.inl ⟨by rfl, ?_⟩) ?_ ?_
    rotate_left
    · intro w'
      go_simp
      with_reducible rfl
    rotate_left
    · simp only [Act.put, List.setIfInBounds_toArray, List.set_cons_zero, List.set_cons_succ, i64_w, i32_w]
      rfl
    refine take_ (i := 37) (N := some 116) (v := ?_) (a' := ?_) #[true, true, true, true, true, true, true, true, true, true, true, true, true, true, true, true, true, true, true, true, true, true, true, true, true, true, true, true, true, true, true, true, true, true, true, true, true, true, false, false, false, false, false, false, false, false] rfl rfl (take_ofW HT_.out HW_.out (by kernel_rfl)) (fun _ _ _ h => h) (Or.inl ⟨by rfl, ?_⟩) hHeld ?_ ?_
    rotate_left
    · rintro w' ⟨s0, s1, s2, s3, s4, s5, s6, s7, s8, s9⟩
      go_simp
      with_reducible rfl
    rotate_left
    · simp only [Act.put, List.setIfInBounds_toArray, List.set_cons_zero, List.set_cons_succ, i64_w, i32_w]
      rfl
    refine pure_ (i := 39) (N := some 118) (v := ?_) (a' := ?_) #[true, true, true, true, true, true, true, true, true, true, true, true, true, true, true, true, true, true, true, true, true, true, true, true, true, true, true, true, true, true, true, true, true, true, true, true, true, true, false, true, false, false, false, false, false, false] rfl rfl (any_of HT_.out (by kernel_rfl)) (fun _ _ _ h => h) (Or.inl ⟨by rfl, ?_⟩) ?_ ?_
    rotate_left
    · intro w'
      go_simp
      with_reducible rfl
    rotate_left
    · simp only [Act.put, List.setIfInBounds_toArray, List.set_cons_zero, List.set_cons_succ, i64_w, i32_w]
      rfl
    refine pure_ (i := 40) (N := some 119) (v := ?_) (a' := ?_) #[true, true, true, true, true, true, true, true, true, true, true, true, true, true, true, true, true, true, true, true, true, true, true, true, true, true, true, true, true, true, true, true, true, true, true, true, true, true, false, true, true, false, false, false, false, false] rfl rfl (any_of HT_.out (by kernel_rfl)) (fun _ _ _ h => h) (Or.inl ⟨by rfl, ?_⟩) ?_ ?_
    rotate_left
    · intro w'
      go_simp
      with_reducible rfl
    rotate_left
    · simp only [Act.put, List.setIfInBounds_toArray, List.set_cons_zero, List.set_cons_succ, i64_w, i32_w]
      rfl
    refine take_ (i := 41) (N := some 120) (v := ?_) (a' := ?_) #[true, true, true, true, true, true, true, true, true, true, true, true, true, true, true, true, true, true, true, true, true, true, true, true, true, true, true, true, true, true, true, true, true, true, true, true, true, true, false, true, true, true, false, false, false, false] rfl rfl (take_ofW HT_.out HW_.out (by kernel_rfl)) (fun _ _ _ h => h) (Or.inl ⟨by rfl, ?_⟩) hHeld ?_ ?_
    rotate_left
    · rintro w' ⟨s0, s1, s2, s3, s4, s5, s6, s7, s8, s9⟩
      go_simp
      with_reducible rfl
    rotate_left
    · simp only [Act.put, List.setIfInBounds_toArray, List.set_cons_zero, List.set_cons_succ, i64_w, i32_w]
      rfl
    refine pure_ (i := 42) (N := some 121) (v := ?_) (a' := ?_) #[true, true, true, true, true, true, true, true, true, true, true, true, true, true, true, true, true, true, true, true, true, true, true, true, true, true, true, true, true, true, true, true, true, true, true, true, true, true, false, true, true, true, true, false, false, false] rfl rfl (any_of HT_.out (by kernel_rfl)) (fun _ _ _ h => h) (Or.inl ⟨by rfl, ?_⟩) ?_ ?_
    rotate_left
    · intro w'
      go_simp
      with_reducible rfl
    rotate_left
    · simp only [Act.put, List.setIfInBounds_toArray, List.set_cons_zero, List.set_cons_succ, i64_w, i32_w]
      rfl
    refine one_ (i := 38) (N := some 117) #[true, true, true, true, true, true, true, true, true, true, true, true, true, true, true, true, true, true, true, true, true, true, true, true, true, true, true, true, true, true, true, true, true, true, true, true, true, true, true, true, true, true, true, false, false, false] rfl rfl (one_of HT_.out (by kernel_rfl)) (by decide) (fun K hK => ?_)
    refine goes_ Try.func20 (by kernel_rfl) rfl #[.agg #[.int .u32 g4, .bool e4, .int .i64 l4, .slice A_r4 s4.length c_r4]] (by rfl) rfl rfl (by (try simp only [List.map_toArray, List.map_cons, List.map_nil]); first | done | rfl | (simp only [List.length_drop, List.length_take]; rfl)) ?_
    with_reducible refine (some_flat Xk3.out _ _ _ HC_r4.out HK_r4.out).mono ?_
    rintro e_ w25_ ⟨rfl, hB⟩
    refine ⟨_, rfl, ?_⟩
    replace HB := mvH HB hB
    clear hc_gt_0 hf_gt_0 hc_gt_1 hf_gt_1
    replace BK_gt := mvB BK_gt hB
    have hc_gt_0 : w25_.cell? ⟨gt, 0, none⟩ = some (.int .i64 t.f0) := (blk_cell BK_gt.out 0).trans rfl
    have hf_gt_0 := blk_frozen BK_gt.out 0
    have hc_gt_1 : w25_.cell? ⟨gt, 1, none⟩ = some (.int .i64 t.f1) := (blk_cell BK_gt.out 1).trans rfl
    have hf_gt_1 := blk_frozen BK_gt.out 1
    clear hc_b3_0 hf_b3_0 hc_b3_1 hf_b3_1 hc_b3_2 hf_b3_2 hc_b3_3 hf_b3_3
    replace BK_b3 := mvB BK_b3 hB
    have hc_b3_0 : w25_.cell? ⟨b3, 0, none⟩ = some (.int .u32 g3) := (blk_cell BK_b3.out 0).trans rfl
    have hf_b3_0 := blk_frozen BK_b3.out 0
    have hc_b3_1 : w25_.cell? ⟨b3, 1, none⟩ = some (.bool e3) := (blk_cell BK_b3.out 1).trans rfl
    have hf_b3_1 := blk_frozen BK_b3.out 1
    have hc_b3_2 : w25_.cell? ⟨b3, 2, none⟩ = some (.int .i64 l3) := (blk_cell BK_b3.out 2).trans rfl
    have hf_b3_2 := blk_frozen BK_b3.out 2
    have hc_b3_3 : w25_.cell? ⟨b3, 3, none⟩ = some (.slice A_r3 s3.length c_r3) := (blk_cell BK_b3.out 3).trans rfl
    have hf_b3_3 := blk_frozen BK_b3.out 3
    clear hc_b4_0 hf_b4_0 hc_b4_1 hf_b4_1 hc_b4_2 hf_b4_2 hc_b4_3 hf_b4_3
    replace BK_b4 := mvB BK_b4 hB
    have hc_b4_0 : w25_.cell? ⟨b4, 0, none⟩ = some (.int .u32 g4) := (blk_cell BK_b4.out 0).trans rfl
    have hf_b4_0 := blk_frozen BK_b4.out 0
    have hc_b4_1 : w25_.cell? ⟨b4, 1, none⟩ = some (.bool e4) := (blk_cell BK_b4.out 1).trans rfl
    have hf_b4_1 := blk_frozen BK_b4.out 1
    have hc_b4_2 : w25_.cell? ⟨b4, 2, none⟩ = some (.int .i64 l4) := (blk_cell BK_b4.out 2).trans rfl
    have hf_b4_2 := blk_frozen BK_b4.out 2
    have hc_b4_3 : w25_.cell? ⟨b4, 3, none⟩ = some (.slice A_r4 s4.length c_r4) := (blk_cell BK_b4.out 3).trans rfl
    have hf_b4_3 := blk_frozen BK_b4.out 3
    replace HC_r3 := mvC HC_r3 hB
    replace HC_r4 := mvC HC_r4 hB
    clear hB
    refine hK.out _ _ ⟨hc_gt_0, hc_gt_1, hc_b3_0, hc_b3_1, hc_b3_2, hc_b3_3, hc_b4_0, hc_b4_1, hc_b4_2, hc_b4_3⟩ (fun hHeld => ?_)
    clear hK K
    refine norm_ (a' := ?_) ?_ ?_
    rotate_left
    · show Act.put _ (some 117) _ = _
      simp only [Act.put, List.setIfInBounds_toArray, List.set_cons_zero, List.set_cons_succ, i64_w, i32_w]
      rfl
    refine pure_ (i := 43) (N := some 122) (v := ?_) (a' := ?_) #[true, true, true, true, true, true, true, true, true, true, true, true, true, true, true, true, true, true, true, true, true, true, true, true, true, true, true, true, true, true, true, true, true, true, true, true, true, true, true, true, true, true, true, true, false, false] rfl rfl (any_of HT_.out (by kernel_rfl)) (fun _ _ _ h => h) (Or.inl ⟨by rfl, ?_⟩) ?_ ?_
    rotate_left
    · intro w'
      go_simp
      with_reducible rfl
    rotate_left
    · simp only [Act.put, List.setIfInBounds_toArray, List.set_cons_zero, List.set_cons_succ, i64_w, i32_w]
      rfl
    refine pure_ (i := 44) (N := some 123) (v := ?_) (a' := ?_) #[true, true, true, true, true, true, true, true, true, true, true, true, true, true, true, true, true, true, true, true, true, true, true, true, true, true, true, true, true, true, true, true, true, true, true, true, true, true, true, true, true, true, true, true, true, false] rfl rfl (any_of HT_.out (by kernel_rfl)) (fun _ _ _ h => h) (Or.inl ⟨by rfl, ?_⟩) ?_ ?_
    rotate_left
    · intro w'
      go_simp
      with_reducible rfl
    rotate_left
    · simp only [Act.put, List.setIfInBounds_toArray, List.set_cons_zero, List.set_cons_succ, i64_w, i32_w]
      rfl
    refine pure_ (i := 45) (N := some 2) (v := ?_) (a' := ?_) #[true, true, true, true, true, true, true, true, true, true, true, true, true, true, true, true, true, true, true, true, true, true, true, true, true, true, true, true, true, true, true, true, true, true, true, true, true, true, true, true, true, true, true, true, true, true] rfl rfl (any_of HT_.out (by kernel_rfl)) (fun _ _ _ h => h) (Or.inl ⟨by rfl, ?_⟩) ?_ ?_
    rotate_left
    · intro w'
      go_simp
      with_reducible rfl
    rotate_left
    · simp only [Act.put, List.setIfInBounds_toArray, List.set_cons_zero, List.set_cons_succ, i64_w, i32_w]
      rfl
    refine done_ (done_of HT_.out (by kernel_rfl)) ?_
    try go_wp2
    go_ret
    exact ⟨rfl, HB.out⟩
end Go.Proofs.Ytbllchfgjginoaa
