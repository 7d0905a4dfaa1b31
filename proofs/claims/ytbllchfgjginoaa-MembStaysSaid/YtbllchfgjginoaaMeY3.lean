/-
  The document's example for chapter 08.
-/
import Derived.Test.YtbllchfgjginoaaMeR
namespace Go.Proofs.Ytbllchfgjginoaa
open Go.RowKit Go.Lib Go.Proofs.YtbllchfgjginoaaW.PrintWords Go.Proofs.YtbllchfgjginoaaW.PrintLast Go.Proofs.YtbllchfgjginoaaW.PrintMore Go.Proofs.Ytbllchfgjginoaa.PMe
set_option linter.unusedVariables false
set_option linter.unusedSimpArgs false
theorem sort1 (x : S49) : SortH [x] := by unfold SortH; simp
theorem hear1st : hearR ⟨10, 2⟩ ⟨4009820675, false, 0, []⟩ 1 [5] = ((⟨4009820675, false, 0, [⟨5, 10⟩]⟩ : S28), [], 0) := by kernel_rfl
theorem hear0_w (B : Option Addr) (d : Nat) (w : World) (hl : Kd.C (Kd.int .u32) w B 1 [5]) (hd : 1 ≤ d) :
    Calls Try.prog 12 #[.agg #[.int .i64 10, .int .i64 2], .agg #[.int .u32 4009820675, .bool false, .int .i64 0, .slice none 0 0], .int .u8 1, .slice B 1 d] w fun e w' => ∃ A0 c0 A1 c1, e = .returned (.tuple #[.agg #[.int .u32 4009820675, .bool false, .int .i64 0, .slice A0 1 c0], .slice A1 0 c1, .int .i64 0]) ∧ Kd.C k49 w' A0 1 [⟨5, 10⟩] ∧ 1 ≤ c0 ∧ Below w.heap.size w w' :=
  hear_view (t := ⟨10, 2⟩) (x := ⟨4009820675, false, 0, []⟩) (kind := 1) (l := [5]) (r := (⟨4009820675, false, 0, [⟨5, 10⟩]⟩ : S28)) (asks := []) (n := 0) (err := 0) (by simp [SortH]) (by simp) (by simp) hear1st rfl none 0 B d w (Kd.C_nil _ _) (Nat.le_refl _) hl hd
theorem wants5_w (A : Option Addr) (c : Nat) (w : World) (hr : Kd.C k49 w A 1 [⟨5, 10⟩]) (hc : 1 ≤ c) : Calls Try.prog 19 #[.agg #[.int .u32 4009820675, .bool false, .int .i64 0, .slice A 1 c], .int .u32 5] w fun e w' => e = .returned (.bool true) ∧ Below w.heap.size w w' := wants_w (x := (⟨4009820675, false, 0, [⟨5, 10⟩]⟩ : S28)) (a := 5) (b := true) (sort1 _) (by simp) (by decide) A c w hr hc
theorem wants6_w (A : Option Addr) (c : Nat) (w : World) (hr : Kd.C k49 w A 1 [⟨5, 10⟩]) (hc : 1 ≤ c) : Calls Try.prog 19 #[.agg #[.int .u32 4009820675, .bool false, .int .i64 0, .slice A 1 c], .int .u32 6] w fun e w' => e = .returned (.bool false) ∧ Below w.heap.size w w' := wants_w (x := (⟨4009820675, false, 0, [⟨5, 10⟩]⟩ : S28)) (a := 6) (b := false) (sort1 _) (by simp) (by decide) A c w hr hc
theorem some0_w (A : Option Addr) (c : Nat) (w : World) (hr : Kd.C k49 w A 1 [⟨5, 10⟩]) (hc : 1 ≤ c) : Calls Try.prog 20 #[.agg #[.int .u32 4009820675, .bool false, .int .i64 0, .slice A 1 c]] w fun e w' => e = .returned (.bool true) ∧ Below w.heap.size w w' := some_w (x := (⟨4009820675, false, 0, [⟨5, 10⟩]⟩ : S28)) (b := true) (by decide) A c w hr hc
theorem may0_w (w : World) : Calls Try.prog 21 #[.agg #[.int .i64 10, .int .i64 2]] w fun e w' => e = .returned (.bool true) ∧ Below w.heap.size w w' := may_w (t := ⟨10, 2⟩) (b := true) (by decide) w
attribute [local go_sem high] eqA49
set_option maxHeartbeats 8000000 in
set_option maxRecDepth 100000 in
theorem shown_w (w : World) : Calls Try.prog 9 #[] w fun e w' => e = .returned (.bool true) ∧ Below w.heap.size w w' := by
  have hu23 := Try.underlying23
  have hu28 := Try.underlying28
  have hu49 := Try.underlying49
  have HB := Aside0.mk (Below.refl w.heap.size w)
  go_enter Try.func9, Try.ntmps9
  go_upto_region 2 with (first | ((with_reducible refine gate_dst (N := 1) rfl ?_); (try (refine gate_guard (by rfl) ?_; dsimp only)); refine box_event ?hg (N := 1) ?hd (cs := #[.int .i64 0, .int .i64 0]) (t := 23) ?hr ?_; (case hd => rfl); (case hg => rfl); (case hr => first | (go_simp; done) | (go_simp; rfl)); intro gt hg w1_ hbox hB0; have hG := Aside0.mk (show w.heap.size ≤ gt from Nat.le_of_eq hg.symm); clear hg; have hBX := Aside0.mk hbox; have hB1 := Aside0.mk hB0; clear hB0; have hc_gt_0 : w1_.cell? ⟨gt, 0, none⟩ = some (.int .i64 0) := (blk_cell hbox 0).trans rfl; have hf_gt_0 := blk_frozen hbox 0; have hc_gt_1 : w1_.cell? ⟨gt, 1, none⟩ = some (.int .i64 0) := (blk_cell hbox 1).trans rfl; have hf_gt_1 := blk_frozen hbox 1; clear hbox))
  have hB : Below w.heap.size w ((w1_.setCell ⟨gt, 0, none⟩ (.int .i64 10)).setCell ⟨gt, 1, none⟩ (.int .i64 2)) := (below_set (below_set hB1.out hG.out) hG.out)
  have hBN : ((w1_.setCell ⟨gt, 0, none⟩ (.int .i64 10)).setCell ⟨gt, 1, none⟩ (.int .i64 2)).heap[gt]? = some (.cells #[.int .i64 10, .int .i64 2] 23 (0, 0)) := (blk_put (cs := #[.int .i64 10, .int .i64 0]) (blk_put (cs := #[.int .i64 0, .int .i64 0]) hBX.out 0 (.int .i64 10) rfl) 1 (.int .i64 2) rfl)
  clear hBX hB1
  clear hc_gt_0 hf_gt_0 hc_gt_1 hf_gt_1
  generalize ((w1_.setCell ⟨gt, 0, none⟩ (.int .i64 10)).setCell ⟨gt, 1, none⟩ (.int .i64 2)) = w2_ at hB hBN ⊢
  have HBo := Aside0.mk HB.out
  have nHB := Aside0.mk (HB.out.trans (hB.mono HB.out.size))
  clear HB
  have HB := nHB
  clear nHB
  have BK_gt := Aside0.mk hBN
  have GE_gt := Aside0.mk (Nat.le_trans HBo.out.size hG.out)
  clear HBo hG hBN hB
  have hc_gt_0 : w2_.cell? ⟨gt, 0, none⟩ = some (.int .i64 10) := (blk_cell BK_gt.out 0).trans rfl
  have hf_gt_0 := blk_frozen BK_gt.out 0
  have hc_gt_1 : w2_.cell? ⟨gt, 1, none⟩ = some (.int .i64 2) := (blk_cell BK_gt.out 1).trans rfl
  have hf_gt_1 := blk_frozen BK_gt.out 1
  go_upto_region 3 with (first | ((with_reducible refine gate_dst (N := 9) rfl ?_); (try (refine gate_guard (by rfl) ?_; dsimp only)); refine Kd.R_lit (Kd.int .u32) _ 25 ?hg (N := 9) ?hd (xs := ([5] : List Int)) (inner := [.int .u32 5]) (ok := fun _ => True) (okp := fun _ => True) ?hr ?hp (fun _ hk => hk) trivial (Below.refl _ _) (Nat.le_refl _) (by simp) ?_; (case hd => rfl); (case hg => rfl); (case hr => first | (go_simp; done) | (go_simp; rfl)); (case hp => exact Reps.one (show Kd.M (Kd.int .u32) _ _ _ 5 [.int .u32 5] from rfl) (Reps.none _ _)); intro v_l w3_ hR hB hg_ hnew_; clear hg_ hnew_; obtain ⟨A_l, c_l, rfl⟩ : ∃ A c, v_l = .slice A 1 c := Kd.R_slice hR; have nHB := Aside0.mk (HB.out.trans (hB.mono HB.out.size)); clear HB; have HB := nHB; clear nHB; clear hc_gt_0 hf_gt_0 hc_gt_1 hf_gt_1; have nBK := Aside0.mk (blk_below (g := gt) (o := .cells #[.int .i64 10, .int .i64 2] 23 (0, 0)) BK_gt.out hB); clear BK_gt; have BK_gt := nBK; clear nBK; have hc_gt_0 : w3_.cell? ⟨gt, 0, none⟩ = some (.int .i64 10) := (blk_cell BK_gt.out 0).trans rfl; have hf_gt_0 := blk_frozen BK_gt.out 0; have hc_gt_1 : w3_.cell? ⟨gt, 1, none⟩ = some (.int .i64 2) := (blk_cell BK_gt.out 1).trans rfl; have hf_gt_1 := blk_frozen BK_gt.out 1; have HC_l := Aside0.mk (show Kd.C (Kd.int .u32) w3_ A_l 1 [5] from (Kd.R_reads' hR).2.2); have HK_l := Aside0.mk (show 1 ≤ c_l from (Kd.R_reads' hR).2.1); clear hR hB) | (go_at_call 12; (with_reducible refine (hear0_w A_l c_l _ HC_l.out HK_l.out).mono ?_); rintro e_ w4_ ⟨A_m, c_m, A_ma, c_ma, rfl, hC, hK, hB⟩; have nHB := Aside0.mk (HB.out.trans (hB.mono HB.out.size)); clear HB; have HB := nHB; clear nHB; clear hc_gt_0 hf_gt_0 hc_gt_1 hf_gt_1; have nBK := Aside0.mk (blk_below (g := gt) (o := .cells #[.int .i64 10, .int .i64 2] 23 (0, 0)) BK_gt.out hB); clear BK_gt; have BK_gt := nBK; clear nBK; have hc_gt_0 : w4_.cell? ⟨gt, 0, none⟩ = some (.int .i64 10) := (blk_cell BK_gt.out 0).trans rfl; have hf_gt_0 := blk_frozen BK_gt.out 0; have hc_gt_1 : w4_.cell? ⟨gt, 1, none⟩ = some (.int .i64 2) := (blk_cell BK_gt.out 1).trans rfl; have hf_gt_1 := blk_frozen BK_gt.out 1; have nHC := Aside0.mk (Kd.C_below HC_l.out hB); clear HC_l; have HC_l := nHC; clear nHC; have HC_m := Aside0.mk hC; have HK_m := Aside0.mk hK; clear hC hK hB) | ((with_reducible refine gate_dst (N := 2) rfl ?_); (try (refine gate_guard (by rfl) ?_; dsimp only)); refine box_event ?hg (N := 2) ?hd (cs := #[.int .u32 0, .bool false, .int .i64 0, .slice none 0 0]) (t := 28) ?hr ?_; (case hd => rfl); (case hg => rfl); (case hr => first | (go_simp; done) | (go_simp; rfl)); intro gm hg w5_ hbox hB0; have hG := Aside0.mk (show w4_.heap.size ≤ gm from Nat.le_of_eq hg.symm); clear hg; have hBX := Aside0.mk hbox; have hB1 := Aside0.mk hB0; clear hB0; have hc_gm_0 : w5_.cell? ⟨gm, 0, none⟩ = some (.int .u32 0) := (blk_cell hbox 0).trans rfl; have hf_gm_0 := blk_frozen hbox 0; have hc_gm_1 : w5_.cell? ⟨gm, 1, none⟩ = some (.bool false) := (blk_cell hbox 1).trans rfl; have hf_gm_1 := blk_frozen hbox 1; have hc_gm_2 : w5_.cell? ⟨gm, 2, none⟩ = some (.int .i64 0) := (blk_cell hbox 2).trans rfl; have hf_gm_2 := blk_frozen hbox 2; have hc_gm_3 : w5_.cell? ⟨gm, 3, none⟩ = some (.slice none 0 0) := (blk_cell hbox 3).trans rfl; have hf_gm_3 := blk_frozen hbox 3; clear hbox))
  have hB : Below w4_.heap.size w4_ ((((w5_.setCell ⟨gm, 0, none⟩ (.int .u32 4009820675)).setCell ⟨gm, 1, none⟩ (.bool false)).setCell ⟨gm, 2, none⟩ (.int .i64 0)).setCell ⟨gm, 3, none⟩ (.slice A_m 1 c_m)) := (below_set (below_set (below_set (below_set hB1.out hG.out) hG.out) hG.out) hG.out)
  have hBN : ((((w5_.setCell ⟨gm, 0, none⟩ (.int .u32 4009820675)).setCell ⟨gm, 1, none⟩ (.bool false)).setCell ⟨gm, 2, none⟩ (.int .i64 0)).setCell ⟨gm, 3, none⟩ (.slice A_m 1 c_m)).heap[gm]? = some (.cells #[.int .u32 4009820675, .bool false, .int .i64 0, .slice A_m 1 c_m] 28 (0, 0)) := (blk_put (cs := #[.int .u32 4009820675, .bool false, .int .i64 0, .slice none 0 0]) (blk_put (cs := #[.int .u32 4009820675, .bool false, .int .i64 0, .slice none 0 0]) (blk_put (cs := #[.int .u32 4009820675, .bool false, .int .i64 0, .slice none 0 0]) (blk_put (cs := #[.int .u32 0, .bool false, .int .i64 0, .slice none 0 0]) hBX.out 0 (.int .u32 4009820675) rfl) 1 (.bool false) rfl) 2 (.int .i64 0) rfl) 3 (.slice A_m 1 c_m) rfl)
  clear hBX hB1
  clear hc_gm_0 hf_gm_0 hc_gm_1 hf_gm_1 hc_gm_2 hf_gm_2 hc_gm_3 hf_gm_3
  generalize ((((w5_.setCell ⟨gm, 0, none⟩ (.int .u32 4009820675)).setCell ⟨gm, 1, none⟩ (.bool false)).setCell ⟨gm, 2, none⟩ (.int .i64 0)).setCell ⟨gm, 3, none⟩ (.slice A_m 1 c_m)) = w6_ at hB hBN ⊢
  have NB_gm_gt := Aside0.mk (show gm ≠ gt from Nat.ne_of_gt (Nat.lt_of_lt_of_le (blk_lt (g := gt) (o := .cells #[.int .i64 10, .int .i64 2] 23 (0, 0)) BK_gt.out) hG.out))
  have NB_gt_gm := Aside0.mk (Ne.symm NB_gm_gt.out)
  have HBo := Aside0.mk HB.out
  have nHB := Aside0.mk (HB.out.trans (hB.mono HB.out.size))
  clear HB
  have HB := nHB
  clear nHB
  clear hc_gt_0 hf_gt_0 hc_gt_1 hf_gt_1
  have nBK := Aside0.mk (blk_below (g := gt) (o := .cells #[.int .i64 10, .int .i64 2] 23 (0, 0)) BK_gt.out hB)
  clear BK_gt
  have BK_gt := nBK
  clear nBK
  have hc_gt_0 : w6_.cell? ⟨gt, 0, none⟩ = some (.int .i64 10) := (blk_cell BK_gt.out 0).trans rfl
  have hf_gt_0 := blk_frozen BK_gt.out 0
  have hc_gt_1 : w6_.cell? ⟨gt, 1, none⟩ = some (.int .i64 2) := (blk_cell BK_gt.out 1).trans rfl
  have hf_gt_1 := blk_frozen BK_gt.out 1
  have nHC := Aside0.mk (Kd.C_below HC_l.out hB)
  clear HC_l
  have HC_l := nHC
  clear nHC
  have nHC := Aside0.mk (Kd.C_below HC_m.out hB)
  clear HC_m
  have HC_m := nHC
  clear nHC
  have BK_gm := Aside0.mk hBN
  have GE_gm := Aside0.mk (Nat.le_trans HBo.out.size hG.out)
  clear HBo hG hBN hB
  have hc_gm_0 : w6_.cell? ⟨gm, 0, none⟩ = some (.int .u32 4009820675) := (blk_cell BK_gm.out 0).trans rfl
  have hf_gm_0 := blk_frozen BK_gm.out 0
  have hc_gm_1 : w6_.cell? ⟨gm, 1, none⟩ = some (.bool false) := (blk_cell BK_gm.out 1).trans rfl
  have hf_gm_1 := blk_frozen BK_gm.out 1
  have hc_gm_2 : w6_.cell? ⟨gm, 2, none⟩ = some (.int .i64 0) := (blk_cell BK_gm.out 2).trans rfl
  have hf_gm_2 := blk_frozen BK_gm.out 2
  have hc_gm_3 : w6_.cell? ⟨gm, 3, none⟩ = some (.slice A_m 1 c_m) := (blk_cell BK_gm.out 3).trans rfl
  have hf_gm_3 := blk_frozen BK_gm.out 3
  obtain ⟨ad, he_, hx0, hx1⟩ := at_T49 HC_m.out 0 (by decide) (by decide)
  subst he_
  have hx0' : w6_.cell? (ad.add (Int.toNat 0 * 2)) = some (.int .u32 5) := hx0
  have hx1' : w6_.cell? ⟨(ad.add (Int.toNat 0 * 2)).block, (ad.add (Int.toNat 0 * 2)).off + 1, none⟩ = some (.int .i64 10) := hx1
  have hx2 : w6_.cell? ad = some (.int .u32 5) := hx0'
  have hx3 : w6_.cell? ⟨ad.block, ad.off + 1, none⟩ = some (.int .i64 10) := hx1'
  clear hx0 hx1
  go_wp2_with (first | (go_at_call 19; with_reducible refine (wants5_w (some ad) c_m _ HC_m.out HK_m.out).mono ?_; rintro e w7_ ⟨rfl, hB⟩; have nHB := Aside0.mk (HB.out.trans (hB.mono HB.out.size)); clear HB; have HB := nHB; clear nHB; clear hc_gt_0 hf_gt_0 hc_gt_1 hf_gt_1; have nBK := Aside0.mk (blk_below (g := gt) (o := .cells #[.int .i64 10, .int .i64 2] 23 (0, 0)) BK_gt.out hB); clear BK_gt; have BK_gt := nBK; clear nBK; have hc_gt_0 : w7_.cell? ⟨gt, 0, none⟩ = some (.int .i64 10) := (blk_cell BK_gt.out 0).trans rfl; have hf_gt_0 := blk_frozen BK_gt.out 0; have hc_gt_1 : w7_.cell? ⟨gt, 1, none⟩ = some (.int .i64 2) := (blk_cell BK_gt.out 1).trans rfl; have hf_gt_1 := blk_frozen BK_gt.out 1; clear hc_gm_0 hf_gm_0 hc_gm_1 hf_gm_1 hc_gm_2 hf_gm_2 hc_gm_3 hf_gm_3; have nBK := Aside0.mk (blk_below (g := gm) (o := .cells #[.int .u32 4009820675, .bool false, .int .i64 0, .slice (some ad) 1 c_m] 28 (0, 0)) BK_gm.out hB); clear BK_gm; have BK_gm := nBK; clear nBK; have hc_gm_0 : w7_.cell? ⟨gm, 0, none⟩ = some (.int .u32 4009820675) := (blk_cell BK_gm.out 0).trans rfl; have hf_gm_0 := blk_frozen BK_gm.out 0; have hc_gm_1 : w7_.cell? ⟨gm, 1, none⟩ = some (.bool false) := (blk_cell BK_gm.out 1).trans rfl; have hf_gm_1 := blk_frozen BK_gm.out 1; have hc_gm_2 : w7_.cell? ⟨gm, 2, none⟩ = some (.int .i64 0) := (blk_cell BK_gm.out 2).trans rfl; have hf_gm_2 := blk_frozen BK_gm.out 2; have hc_gm_3 : w7_.cell? ⟨gm, 3, none⟩ = some (.slice (some ad) 1 c_m) := (blk_cell BK_gm.out 3).trans rfl; have hf_gm_3 := blk_frozen BK_gm.out 3; have nHC := Aside0.mk (Kd.C_below HC_l.out hB); clear HC_l; have HC_l := nHC; clear nHC; have nHC := Aside0.mk (Kd.C_below HC_m.out hB); clear HC_m; have HC_m := nHC; clear nHC; clear hB) | (go_at_call 19; with_reducible refine (wants6_w (some ad) c_m _ HC_m.out HK_m.out).mono ?_; rintro e w8_ ⟨rfl, hB⟩; have nHB := Aside0.mk (HB.out.trans (hB.mono HB.out.size)); clear HB; have HB := nHB; clear nHB; clear hc_gt_0 hf_gt_0 hc_gt_1 hf_gt_1; have nBK := Aside0.mk (blk_below (g := gt) (o := .cells #[.int .i64 10, .int .i64 2] 23 (0, 0)) BK_gt.out hB); clear BK_gt; have BK_gt := nBK; clear nBK; have hc_gt_0 : w8_.cell? ⟨gt, 0, none⟩ = some (.int .i64 10) := (blk_cell BK_gt.out 0).trans rfl; have hf_gt_0 := blk_frozen BK_gt.out 0; have hc_gt_1 : w8_.cell? ⟨gt, 1, none⟩ = some (.int .i64 2) := (blk_cell BK_gt.out 1).trans rfl; have hf_gt_1 := blk_frozen BK_gt.out 1; clear hc_gm_0 hf_gm_0 hc_gm_1 hf_gm_1 hc_gm_2 hf_gm_2 hc_gm_3 hf_gm_3; have nBK := Aside0.mk (blk_below (g := gm) (o := .cells #[.int .u32 4009820675, .bool false, .int .i64 0, .slice (some ad) 1 c_m] 28 (0, 0)) BK_gm.out hB); clear BK_gm; have BK_gm := nBK; clear nBK; have hc_gm_0 : w8_.cell? ⟨gm, 0, none⟩ = some (.int .u32 4009820675) := (blk_cell BK_gm.out 0).trans rfl; have hf_gm_0 := blk_frozen BK_gm.out 0; have hc_gm_1 : w8_.cell? ⟨gm, 1, none⟩ = some (.bool false) := (blk_cell BK_gm.out 1).trans rfl; have hf_gm_1 := blk_frozen BK_gm.out 1; have hc_gm_2 : w8_.cell? ⟨gm, 2, none⟩ = some (.int .i64 0) := (blk_cell BK_gm.out 2).trans rfl; have hf_gm_2 := blk_frozen BK_gm.out 2; have hc_gm_3 : w8_.cell? ⟨gm, 3, none⟩ = some (.slice (some ad) 1 c_m) := (blk_cell BK_gm.out 3).trans rfl; have hf_gm_3 := blk_frozen BK_gm.out 3; have nHC := Aside0.mk (Kd.C_below HC_l.out hB); clear HC_l; have HC_l := nHC; clear nHC; have nHC := Aside0.mk (Kd.C_below HC_m.out hB); clear HC_m; have HC_m := nHC; clear nHC; clear hB) | (go_at_call 20; with_reducible refine (some0_w (some ad) c_m _ HC_m.out HK_m.out).mono ?_; rintro e w9_ ⟨rfl, hB⟩; have nHB := Aside0.mk (HB.out.trans (hB.mono HB.out.size)); clear HB; have HB := nHB; clear nHB; clear hc_gt_0 hf_gt_0 hc_gt_1 hf_gt_1; have nBK := Aside0.mk (blk_below (g := gt) (o := .cells #[.int .i64 10, .int .i64 2] 23 (0, 0)) BK_gt.out hB); clear BK_gt; have BK_gt := nBK; clear nBK; have hc_gt_0 : w9_.cell? ⟨gt, 0, none⟩ = some (.int .i64 10) := (blk_cell BK_gt.out 0).trans rfl; have hf_gt_0 := blk_frozen BK_gt.out 0; have hc_gt_1 : w9_.cell? ⟨gt, 1, none⟩ = some (.int .i64 2) := (blk_cell BK_gt.out 1).trans rfl; have hf_gt_1 := blk_frozen BK_gt.out 1; clear hc_gm_0 hf_gm_0 hc_gm_1 hf_gm_1 hc_gm_2 hf_gm_2 hc_gm_3 hf_gm_3; have nBK := Aside0.mk (blk_below (g := gm) (o := .cells #[.int .u32 4009820675, .bool false, .int .i64 0, .slice (some ad) 1 c_m] 28 (0, 0)) BK_gm.out hB); clear BK_gm; have BK_gm := nBK; clear nBK; have hc_gm_0 : w9_.cell? ⟨gm, 0, none⟩ = some (.int .u32 4009820675) := (blk_cell BK_gm.out 0).trans rfl; have hf_gm_0 := blk_frozen BK_gm.out 0; have hc_gm_1 : w9_.cell? ⟨gm, 1, none⟩ = some (.bool false) := (blk_cell BK_gm.out 1).trans rfl; have hf_gm_1 := blk_frozen BK_gm.out 1; have hc_gm_2 : w9_.cell? ⟨gm, 2, none⟩ = some (.int .i64 0) := (blk_cell BK_gm.out 2).trans rfl; have hf_gm_2 := blk_frozen BK_gm.out 2; have hc_gm_3 : w9_.cell? ⟨gm, 3, none⟩ = some (.slice (some ad) 1 c_m) := (blk_cell BK_gm.out 3).trans rfl; have hf_gm_3 := blk_frozen BK_gm.out 3; have nHC := Aside0.mk (Kd.C_below HC_l.out hB); clear HC_l; have HC_l := nHC; clear nHC; have nHC := Aside0.mk (Kd.C_below HC_m.out hB); clear HC_m; have HC_m := nHC; clear nHC; clear hB) | (go_at_call 21; with_reducible refine (may0_w _).mono ?_; rintro e w10_ ⟨rfl, hB⟩; have nHB := Aside0.mk (HB.out.trans (hB.mono HB.out.size)); clear HB; have HB := nHB; clear nHB; clear hc_gt_0 hf_gt_0 hc_gt_1 hf_gt_1; have nBK := Aside0.mk (blk_below (g := gt) (o := .cells #[.int .i64 10, .int .i64 2] 23 (0, 0)) BK_gt.out hB); clear BK_gt; have BK_gt := nBK; clear nBK; have hc_gt_0 : w10_.cell? ⟨gt, 0, none⟩ = some (.int .i64 10) := (blk_cell BK_gt.out 0).trans rfl; have hf_gt_0 := blk_frozen BK_gt.out 0; have hc_gt_1 : w10_.cell? ⟨gt, 1, none⟩ = some (.int .i64 2) := (blk_cell BK_gt.out 1).trans rfl; have hf_gt_1 := blk_frozen BK_gt.out 1; clear hc_gm_0 hf_gm_0 hc_gm_1 hf_gm_1 hc_gm_2 hf_gm_2 hc_gm_3 hf_gm_3; have nBK := Aside0.mk (blk_below (g := gm) (o := .cells #[.int .u32 4009820675, .bool false, .int .i64 0, .slice (some ad) 1 c_m] 28 (0, 0)) BK_gm.out hB); clear BK_gm; have BK_gm := nBK; clear nBK; have hc_gm_0 : w10_.cell? ⟨gm, 0, none⟩ = some (.int .u32 4009820675) := (blk_cell BK_gm.out 0).trans rfl; have hf_gm_0 := blk_frozen BK_gm.out 0; have hc_gm_1 : w10_.cell? ⟨gm, 1, none⟩ = some (.bool false) := (blk_cell BK_gm.out 1).trans rfl; have hf_gm_1 := blk_frozen BK_gm.out 1; have hc_gm_2 : w10_.cell? ⟨gm, 2, none⟩ = some (.int .i64 0) := (blk_cell BK_gm.out 2).trans rfl; have hf_gm_2 := blk_frozen BK_gm.out 2; have hc_gm_3 : w10_.cell? ⟨gm, 3, none⟩ = some (.slice (some ad) 1 c_m) := (blk_cell BK_gm.out 3).trans rfl; have hf_gm_3 := blk_frozen BK_gm.out 3; have nHC := Aside0.mk (Kd.C_below HC_l.out hB); clear HC_l; have HC_l := nHC; clear nHC; have nHC := Aside0.mk (Kd.C_below HC_m.out hB); clear HC_m; have HC_m := nHC; clear nHC; clear hB))
  go_ret
  exact ⟨rfl, HB.out⟩
end Go.Proofs.Ytbllchfgjginoaa
/-
  What comes of a record, in plain lists (chapter 08).
-/
namespace Go.Proofs.Ytbllchfgjginoaa
open Go.RowKit Go.Lib Go.Proofs.YtbllchfgjginoaaW.PrintWords Go.Proofs.Ytbllchfgjginoaa.PMe
set_option linter.unusedVariables false
set_option linter.unusedSimpArgs false
theorem mem_keep (left : Int) (s : S49) : ∀ (l : List Int) (srcs : List S49), s ∈ keepS srcs l left ↔ (s.f0 ∈ l ∧ s.f1 = left) ∨ (s.f0 ∉ l ∧ s ∈ srcs) := by
  intro l
  induction l with
  | nil => intro srcs; simp [keepS]
  | cons a l ih =>
    intro srcs
    have e : keepS srcs (a :: l) left = keepS (insH srcs ⟨a, left⟩) l left := rfl
    rw [e, ih, mem_insH]
    simp only [List.mem_cons]
    constructor
    · rintro (⟨h1, h2⟩ | ⟨h1, rfl | ⟨h2, h3⟩⟩)
      · exact .inl ⟨.inr h1, h2⟩
      · exact .inl ⟨.inl rfl, rfl⟩
      · exact .inr ⟨fun h => h.elim h3 h1, h2⟩
    · rintro (⟨h1 | h1, h2⟩ | ⟨h1, h2⟩)
      · by_cases h3 : s.f0 ∈ l
        · exact .inl ⟨h3, h2⟩
        · refine .inr ⟨h3, .inl ?_⟩
          cases s
          dsimp only at h1 h2
          rw [h1, h2]
      · exact .inl ⟨h1, h2⟩
      · exact .inr ⟨fun h => h1 (.inr h), .inr ⟨h2, fun h => h1 (.inl h)⟩⟩
/-- The times of sources are right. -/
def TOk (ex : Bool) (l : List S49) : Prop := ∀ s ∈ l, 0 ≤ s.f1 ∧ s.f1 ≤ 1000000 ∧ (s.f1 = 0 → ex = true)
theorem MOk.times {x : S28} (h : MOk x) : TOk x.f1 x.f3 := by
  intro s hs
  obtain ⟨i, hi, rfl⟩ := List.getElem_of_mem hs
  have := h.all i hi
  unfold goodH at this
  rw [rd49 _ i hi] at this
  exact ⟨this.1, this.2.1, this.2.2.1⟩
theorem MOk.of {x : S28} (h1 : 3758096640 ≤ x.f0 ∧ x.f0 ≤ 4026531839) (h2 : x.f3.length ≤ 64) (h3 : x.f1 = true → 1 ≤ x.f2 ∧ x.f2 ≤ 1000000) (h4 : x.f1 = false → x.f2 = 0) (h5 : SortH x.f3) (h6 : TOk x.f1 x.f3) : MOk x := by
  refine ⟨h1, h2, h3, h4, fun j hj => ?_⟩
  unfold goodH
  rw [rd49 _ j hj]
  have h7 := h6 _ (List.getElem_mem hj)
  refine ⟨h7.1, h7.2.1, h7.2.2, fun h8 => ?_⟩
  rw [rd49 _ (j - 1) (by omega)]
  exact (List.pairwise_iff_getElem.1 h5) (j - 1) j (by omega) hj (by omega)
theorem TOk.soon {ex : Bool} {l : List S49} (h : TOk ex l) : Soon l := fun s hs => ⟨(h s hs).1, (h s hs).2.1⟩
theorem TOk.keep {ex : Bool} {xs : List S49} (h : TOk ex xs) (l : List Int) {left : Int} (h1 : 0 ≤ left ∧ left ≤ 1000000) (h2 : left = 0 → ex = true) : TOk ex (keepS xs l left) := by
  intro s hs
  rcases (mem_keep left s l xs).1 hs with h3 | h3
  · rw [h3.2]; exact ⟨h1.1, h1.2, h2⟩
  · exact h s h3.2
theorem TOk.mono {ex : Bool} {xs : List S49} (h : TOk ex xs) : TOk true xs := fun s hs => ⟨(h s hs).1, (h s hs).2.1, fun _ => rfl⟩
theorem TOk.only {ex : Bool} {xs : List S49} (h : TOk ex xs) (l : List Int) : TOk ex (onlyS xs l) := fun s hs => h s ((List.mem_filter.1 hs).1)
theorem TOk.ask {ex : Bool} {xs : List S49} (h : TOk ex xs) {last : Int} (h1 : 1 ≤ last) (l : List Int) : TOk ex (askS last l xs) := by
  intro s hs
  obtain ⟨y, h2, h3⟩ := List.mem_map.1 hs
  have h4 := h y h2
  subst h3
  unfold ask1
  split
  · dsimp only
    refine ⟨by omega, by omega, fun h5 => h4.2.2 (by omega)⟩
  · exact h4
theorem ask_sort {xs : List S49} (h : SortH xs) (last : Int) (l : List Int) : SortH (askS last l xs) := by
  unfold SortH at *
  unfold askS
  rw [List.pairwise_map]
  refine h.imp fun {a b} hab => ?_
  unfold ask1
  split <;> split <;> exact hab
/-- A work that is right but for how many sources it has. -/
structure WRight (t : S23) (g : Int) (m : WM) : Prop where
  g : m.g = g
  keep : m.keep = t.f0
  last : m.last = t.f1
  s : SortH m.srcs
  t : TOk m.ex m.srcs
  ex : m.ex = true → 1 ≤ m.left ∧ m.left ≤ 1000000
  inn : m.ex = false → m.left = 0
theorem may_iff {t : S23} : mayB t = true ↔ 1 ≤ t.f1 ∧ t.f1 ≤ t.f0 ∧ t.f0 ≤ 1000000 := by
  unfold mayB
  rw [Bool.and_eq_true, Bool.and_eq_true, decide_eq_true_eq, decide_eq_true_eq, decide_eq_true_eq, and_assoc]
variable {t : S23} {g : Int} {m : WM}
theorem WRight.allow (ht : mayB t = true) (h : WRight t g m) : WRight t g (allowM m) := by
  have h1 := may_iff.1 ht
  exact ⟨h.g, h.keep, h.last, keep_sorted _ _ h.s, h.t.keep _ (by rw [h.keep]; omega) (by rw [h.keep]; intro h2; omega), h.ex, h.inn⟩
theorem WRight.except (ht : mayB t = true) (h : WRight t g m) {left : Int} (hl : 0 ≤ left ∧ left ≤ 1000000) : WRight t g (exceptM m left) := by
  have h1 := may_iff.1 ht
  exact ⟨h.g, h.keep, h.last, keep_sorted _ _ (only_sorted h.s _), (h.t.mono.only _).keep _ hl (fun _ => rfl), fun _ => by show 1 ≤ m.keep ∧ m.keep ≤ 1000000; rw [h.keep]; omega, fun h2 => by simp [exceptM] at h2⟩
theorem WRight.ask (ht : mayB t = true) (h : WRight t g m) (l : List Int) : WRight t g (askM m l) := by
  have h1 := may_iff.1 ht
  unfold askM
  split
  · exact h
  · exact ⟨h.g, h.keep, h.last, ask_sort h.s _ _, h.t.ask (by rw [h.last]; exact h1.1) _, h.ex, h.inn⟩
theorem WRight.isEx (ht : mayB t = true) (h : WRight t g m) : WRight t g (isExM m) := by
  have h1 := may_iff.1 ht
  unfold isExM
  split
  · exact h.except ht (by rw [h.keep]; omega)
  · exact h.except ht (by omega)
theorem WRight.block (ht : mayB t = true) (h : WRight t g m) : WRight t g (blockM m) := by
  have h1 := may_iff.1 ht
  unfold blockM
  split
  · rename_i he
    have h2 := h.ex he
    refine WRight.ask ht ?_ _
    exact ⟨h.g, h.keep, h.last, keep_sorted _ _ h.s, h.t.keep _ (by omega) (fun h3 => by omega), h.ex, h.inn⟩
  · exact h.ask ht _
theorem WRight.toEx (ht : mayB t = true) (h : WRight t g m) : WRight t g (toExM m) := by
  have h1 := may_iff.1 ht
  unfold toExM
  split
  · rename_i he
    have h2 := h.ex he
    exact (h.except ht (by omega)).ask ht _
  · exact (h.except ht (by omega)).ask ht _
theorem WRight.toIn (ht : mayB t = true) (h : WRight t g m) : WRight t g (toInM m) := by
  have h1 := may_iff.1 ht
  have h2 := (h.allow ht).ask ht (mns (xS m.srcs) m.b)
  unfold toInM
  split
  · rename_i he
    have h3 := h2.ex he
    have h4 := h2.last
    exact ⟨h2.g, h2.keep, h2.last, h2.s, h2.t, fun _ => by show 1 ≤ min _ _ ∧ min _ _ ≤ _; omega, fun h5 => absurd (he.symm.trans h5) (by simp)⟩
  · exact h2
theorem WRight.kind (ht : mayB t = true) (h : WRight t g m) (kind : Int) : WRight t g (kindM kind m) := by
  unfold kindM
  split
  · exact h.allow ht
  split
  · exact h.isEx ht
  split
  · exact h.block ht
  split
  · exact h.toEx ht
  exact h.toIn ht
theorem hear_right (ht : mayB t = true) {x : S28} (h : MOk x) (kind : Int) (l : List Int) : MOk (hearR t x kind l).1 := by
  unfold hearR
  split
  · split
    · exact h
    · rename_i h2
      have h3 : WRight t x.f0 (hearD t x kind l) := WRight.kind (m := hear0 t x l) (g := x.f0) ht ⟨rfl, rfl, rfl, h.sort, h.times, h.ex, h.inn⟩ kind
      exact MOk.of (by show _ ≤ (hearD t x kind l).g ∧ _; rw [h3.g]; exact h.asked) (by show (hearD t x kind l).srcs.length ≤ _; omega) h3.ex h3.inn h3.s h3.t
  · exact h
end Go.Proofs.Ytbllchfgjginoaa
/-
  What comes of time, in plain lists (chapter 08).
-/
namespace Go.Proofs.Ytbllchfgjginoaa
open Go.RowKit Go.Lib Go.Proofs.YtbllchfgjginoaaW.PrintWords Go.Proofs.Ytbllchfgjginoaa.PMe
set_option linter.unusedVariables false
set_option linter.unusedSimpArgs false
theorem mx0 (a : Int) : mx a 0 = max a 0 := by unfold mx; split <;> omega
theorem mem_tick {ex : Bool} {n : Int} {l : List S49} {s : S49} : s ∈ tickL ex n l ↔ (∃ y ∈ l, tickS n y = s) ∧ (ex = true ∨ 0 < s.f1) := by
  unfold tickL
  rw [List.mem_filter, List.mem_map, Bool.or_eq_true, decide_eq_true_eq]
theorem tick_sort {l : List S49} (h : SortH l) (ex : Bool) (n : Int) : SortH (tickL ex n l) := by
  unfold tickL
  refine List.Pairwise.filter _ ?_
  rw [List.pairwise_map]
  exact h
theorem tick_len (ex : Bool) (n : Int) (l : List S49) : (tickL ex n l).length ≤ l.length := by
  unfold tickL
  exact Nat.le_trans (List.length_filter_le _ _) (by rw [List.length_map]; exact Nat.le_refl _)
theorem tick_right {x : S28} (h : MOk x) {n : Int} (hn : 0 ≤ n) : MOk (tickM x n) := by
  have hl : 0 ≤ x.f2 ∧ x.f2 ≤ 1000000 := by
    cases e : x.f1
    · have := h.inn e; omega
    · have := h.ex e; omega
  refine MOk.of h.asked (Nat.le_trans (tick_len _ _ _) h.len) ?_ ?_ (tick_sort h.sort _ _) ?_
  · intro h1
    have h2 : (x.f1 && decide (0 < mx (x.f2 - n) 0)) = true := h1
    rw [Bool.and_eq_true, decide_eq_true_eq] at h2
    show 1 ≤ mx (x.f2 - n) 0 ∧ mx (x.f2 - n) 0 ≤ 1000000
    have h3 := h2.2
    rw [mx0] at h3 ⊢
    omega
  · intro h1
    have h2 : (x.f1 && decide (0 < mx (x.f2 - n) 0)) = false := h1
    show mx (x.f2 - n) 0 = 0
    rw [mx0] at h2 ⊢
    cases e : x.f1
    · have := h.inn e; omega
    · rw [e, Bool.true_and, decide_eq_false_iff_not] at h2; omega
  · intro s hs
    obtain ⟨⟨y, h1, rfl⟩, h2⟩ := mem_tick.1 hs
    have h3 := h.times y h1
    show 0 ≤ mx (y.f1 - n) 0 ∧ mx (y.f1 - n) 0 ≤ 1000000 ∧ (mx (y.f1 - n) 0 = 0 → _)
    have h4 : (x.f1 && decide (0 < mx (x.f2 - n) 0)) = true ∨ 0 < mx (y.f1 - n) 0 := h2
    refine ⟨by rw [mx0]; omega, by rw [mx0]; omega, fun h5 => ?_⟩
    rcases h4 with h4 | h4
    · exact h4
    · omega
theorem tick_zero {x : S28} (h : MOk x) : tickM x 0 = x := by
  have hl : 0 ≤ x.f2 ∧ x.f2 ≤ 1000000 := by
    cases e : x.f1
    · have := h.inn e; omega
    · have := h.ex e; omega
  have e2 : mx (x.f2 - 0) 0 = x.f2 := by rw [mx0]; omega
  have e1 : (x.f1 && decide (0 < mx (x.f2 - 0) 0)) = x.f1 := by
    rw [e2]
    cases e : x.f1
    · rfl
    · have := h.ex e; rw [Bool.true_and]; exact decide_eq_true (by omega)
  unfold tickM
  rw [e1, e2]
  have e3 : tickL x.f1 0 x.f3 = x.f3 := by
    unfold tickL
    have e4 : x.f3.map (tickS 0) = x.f3 := by
      conv => rhs; rw [← List.map_id x.f3]
      refine List.map_congr_left fun s hs => ?_
      have := h.times s hs
      unfold tickS
      rw [mx0]
      cases s with
      | mk a b => show (⟨a, max (b - 0) 0⟩ : S49) = ⟨a, b⟩; rw [show max (b - 0) 0 = b by dsimp only at this; omega]
    rw [e4]
    refine List.filter_eq_self.2 fun s hs => ?_
    have := h.times s hs
    by_cases h0 : s.f1 = 0
    · rw [this.2.2 h0]; rfl
    · rw [Bool.or_eq_true]; exact .inr (decide_eq_true (by omega))
  rw [e3]
theorem mx_add {a n k : Int} (hk : 0 ≤ k) : mx (mx (a - n) 0 - k) 0 = mx (a - (n + k)) 0 := by rw [mx0, mx0, mx0]; omega
theorem tickS_add (n k : Int) (hk : 0 ≤ k) (s : S49) : tickS k (tickS n s) = tickS (n + k) s := by
  unfold tickS
  dsimp only
  rw [mx_add hk]
theorem tickL_add {e1 e2 : Bool} (he : e2 = true → e1 = true) {n k : Int} (hk : 0 ≤ k) (l : List S49) : tickL e2 k (tickL e1 n l) = tickL e2 (n + k) l := by
  induction l with
  | nil => rfl
  | cons y l ih =>
    have c : ∀ (e : Bool) (n : Int) (y : S49) (l : List S49), tickL e n (y :: l) = if (e || decide (0 < (tickS n y).f1)) = true then tickS n y :: tickL e n l else tickL e n l := by
      intro e n y l
      unfold tickL
      rw [List.map_cons, List.filter_cons]
    rw [c e1 n y l, c e2 (n + k) y l]
    by_cases h1 : (e1 || decide (0 < (tickS n y).f1)) = true
    · rw [if_pos h1, c e2 k, tickS_add n k hk, ih]
    · rw [if_neg h1, if_neg ?_, ih]
      rw [Bool.or_eq_true, decide_eq_true_eq] at h1 ⊢
      rintro (h2 | h2)
      · exact h1 (.inl (he h2))
      · refine h1 (.inr ?_)
        have h3 : 0 < mx (y.f1 - (n + k)) 0 := h2
        show 0 < mx (y.f1 - n) 0
        rw [mx0] at h3 ⊢
        omega
theorem tick_add (x : S28) {n k : Int} (hk : 0 ≤ k) : tickM (tickM x n) k = tickM x (n + k) := by
  have e : ((x.f1 && decide (0 < mx (x.f2 - n) 0)) && decide (0 < mx (x.f2 - (n + k)) 0)) = (x.f1 && decide (0 < mx (x.f2 - (n + k)) 0)) := by
    by_cases h : 0 < mx (x.f2 - (n + k)) 0
    · rw [show decide (0 < mx (x.f2 - n) 0) = true from decide_eq_true (by rw [mx0] at h ⊢; omega), Bool.and_true]
    · rw [show decide (0 < mx (x.f2 - (n + k)) 0) = false from decide_eq_false h, Bool.and_false, Bool.and_false]
  unfold tickM
  dsimp only
  rw [mx_add hk, e, tickL_add ?_ hk]
  intro h
  rw [Bool.and_eq_true] at h ⊢
  refine ⟨h.1, ?_⟩
  have h2 := of_decide_eq_true h.2
  exact decide_eq_true (by rw [mx0] at h2 ⊢; omega)
theorem tick_big {x : S28} (h : MOk x) {n : Int} (hn : 1000000 ≤ n) : tickM x n = tickM x 1000000 := by
  have hl : 0 ≤ x.f2 ∧ x.f2 ≤ 1000000 := by
    cases e : x.f1
    · have := h.inn e; omega
    · have := h.ex e; omega
  have e1 : mx (x.f2 - n) 0 = mx (x.f2 - 1000000) 0 := by rw [mx0, mx0]; omega
  have e2 : x.f3.map (tickS n) = x.f3.map (tickS 1000000) := by
    refine List.map_congr_left fun s hs => ?_
    have := h.times s hs
    unfold tickS
    rw [show mx (s.f1 - n) 0 = mx (s.f1 - 1000000) 0 by rw [mx0, mx0]; omega]
  unfold tickM tickL
  rw [e1, e2]
end Go.Proofs.Ytbllchfgjginoaa
/-
  Time of any length, called (chapter 08).
-/
namespace Go.Proofs.Ytbllchfgjginoaa
open Go.RowKit Go.Lib Go.Proofs.YtbllchfgjginoaaW.PrintWords Go.Proofs.Ytbllchfgjginoaa.PMe
set_option linter.unusedVariables false
set_option linter.unusedSimpArgs false
theorem MOk.left {x : S28} (h : MOk x) : 0 ≤ x.f2 ∧ x.f2 ≤ 1000000 := by
  cases e : x.f1
  · have := h.inn e; omega
  · have := h.ex e; omega
theorem tick_clamp {x : S28} (h : MOk x) {n : Int} (hn : 0 ≤ n) : tickM x (mn (mx n 0) 1000000) = tickM x n := by
  by_cases h1 : n ≤ 1000000
  · rw [show mn (mx n 0) 1000000 = n by unfold mn mx; (repeat' split) <;> omega]
  · rw [show mn (mx n 0) 1000000 = 1000000 by unfold mn mx; (repeat' split) <;> omega]; exact (tick_big h (by omega)).symm
theorem tick_any {x r : S28} {n : Int} (h : MOk x) (hn : 0 ≤ n) (e : tickM x n = r) (A : Option Addr) (c : Nat) (w : World) (hr : Kd.C k49 w A x.f3.length x.f3) (hc : x.f3.length ≤ c) :
    Calls Try.prog 17 #[.agg #[.int .u32 x.f0, .bool x.f1, .int .i64 x.f2, .slice A x.f3.length c], .int .i64 n] w fun e w' => ∃ A0 c0, e = .returned (.agg #[.int .u32 r.f0, .bool r.f1, .int .i64 r.f2, .slice A0 r.f3.length c0]) ∧ Kd.C k49 w' A0 r.f3.length r.f3 ∧ r.f3.length ≤ c0 ∧ Below w.heap.size w w' := by
  subst e
  have h1 := tick_some x n (by have := h.len; omega) h.times.soon h.left _ (Nat.le_refl _)
  rw [tick_clamp h hn] at h1
  refine (memb_Tick.calls _ _ _ _ A c _ _ _ _ _ _ w hr hc h1).mono fun e w' hp => ?_
  obtain ⟨v, rfl, hR, hB⟩ := hp
  obtain ⟨A0, c0, rfl⟩ := Kd.R_slice hR
  exact ⟨A0, c0, rfl, (Kd.R_reads' hR).2.2, (Kd.R_reads' hR).2.1, hB⟩
theorem same_w {x : S28} (hl : x.f3.length ≤ 1000000) (A : Option Addr) (c : Nat) (B : Option Addr) (d : Nat) (w : World) (hr : Kd.C k49 w A x.f3.length x.f3) (hc : x.f3.length ≤ c) (hs : Kd.C k49 w B x.f3.length x.f3) (hd : x.f3.length ≤ d) :
    Calls Try.prog 14 #[.agg #[.int .u32 x.f0, .bool x.f1, .int .i64 x.f2, .slice A x.f3.length c], .agg #[.int .u32 x.f0, .bool x.f1, .int .i64 x.f2, .slice B x.f3.length d]] w fun e w' => e = .returned (.bool true) ∧ Below w.heap.size w w' :=
  stolonref08_Same.calls _ _ _ _ A c _ _ _ _ B d _ true w hr hc hs hd (same_self x hl _ (Nat.le_refl _))
end Go.Proofs.Ytbllchfgjginoaa
