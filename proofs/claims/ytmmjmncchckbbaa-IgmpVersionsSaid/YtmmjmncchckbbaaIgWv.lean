/-
  IgmpVersions, walked.
-/
import Derived.Test.YtmmjmncchckbbaaIgC
namespace Go.Proofs.Ytmmjmncchckbbaa
open Go.RowKit Go.Proofs.YtmmjmncchckbbaaW.PrintWords Go.Proofs.YtmmjmncchckbbaaW.PrintLast Go.Proofs.YtmmjmncchckbbaaW.PrintMore Go.Proofs.Ytmmjmncchckbbaa.PIg
set_option linter.unusedVariables false
set_option linter.unusedSimpArgs false
def v1 : Msg := ⟨17, 1, 0, 0, false, 0, 0, [], []⟩
def v2 (c : Int) : Msg := ⟨17, 2, c, 0, false, 0, 0, [], []⟩
def v3 (c : Int) (q : Bool) (e : Int) : Msg := ⟨17, 3, c, 0, q, 0, e, [], []⟩
theorem v1_ok : v1.Ok := ⟨by simp [v1, U8], by simp [v1, U8], by simp [v1, U32], by simp [v1, U8], by simp [v1, U8], by simp [v1], by simp [v1]⟩
theorem v2_ok {c : Int} (hc : U8 c) : (v2 c).Ok := ⟨by simp [v2, U8], hc, by simp [v2, U32], by simp [v2, U8], by simp [v2, U8], by simp [v2], by simp [v2]⟩
theorem v3_ok {c : Int} (hc : U8 c) (q : Bool) {e : Int} (he : U8 e) : (v3 c q e).Ok := ⟨by simp [v3, U8], hc, by simp [v3, U32], by simp [v3, U8], he, by simp [v3], by simp [v3]⟩
theorem v1_right : rightB v1 = true := by decide
theorem v2_right {c : Int} (h : 0 < c) : rightB (v2 c) = true := by simp [rightB, queryB, v2, grpB, h]
theorem v2_wrong {c : Int} (h : ¬ 0 < c) : rightB (v2 c) = false := by simp [rightB, queryB, v2, h]
theorem v3_right (c : Int) (q : Bool) (e : Int) : rightB (v3 c q e) = true := by simp [rightB, queryB, v3, grpB]
theorem e1_w {x : List Int} (hx : enc v1 = x) (w : World) : Calls Try.prog 13 #[.agg #[.int .u8 17, .int .i64 1, .int .u8 0, .int .u32 0, .bool false, .int .u8 0, .int .u8 0, .slice none 0 0, .slice none 0 0]] w fun e w' => ∃ v, e = .returned (.tuple #[v, .int .i64 0]) ∧ Kd.R (Kd.int .u8) 5 w' w.heap.size (fun _ => True) v x ∧ Below w.heap.size w w' := encok_w v1_ok v1_right hx none 0 none 0 w (Kd.C_nil _ _) (Nat.le_refl _) (Kd.C_nil _ _) (Nat.le_refl _)
theorem e2_w {c : Int} (hc : U8 c) (h : 0 < c) {x : List Int} (hx : enc (v2 c) = x) (w : World) : Calls Try.prog 13 #[.agg #[.int .u8 17, .int .i64 2, .int .u8 c, .int .u32 0, .bool false, .int .u8 0, .int .u8 0, .slice none 0 0, .slice none 0 0]] w fun e w' => ∃ v, e = .returned (.tuple #[v, .int .i64 0]) ∧ Kd.R (Kd.int .u8) 5 w' w.heap.size (fun _ => True) v x ∧ Below w.heap.size w w' := encok_w (v2_ok hc) (v2_right h) hx none 0 none 0 w (Kd.C_nil _ _) (Nat.le_refl _) (Kd.C_nil _ _) (Nat.le_refl _)
theorem e2n_w (w : World) : Calls Try.prog 13 #[.agg #[.int .u8 17, .int .i64 2, .int .u8 0, .int .u32 0, .bool false, .int .u8 0, .int .u8 0, .slice none 0 0, .slice none 0 0]] w fun e w' => e = .returned (.tuple #[.slice none 0 0, .int .i64 1]) ∧ Below w.heap.size w w' := encno_w (v2_ok (c := 0) (by simp [U8])) (by decide) (v2_wrong (by decide)) none 0 none 0 w (Kd.C_nil _ _) (Nat.le_refl _) (Kd.C_nil _ _) (Nat.le_refl _)
theorem e3_w {c : Int} (hc : U8 c) (q : Bool) {e0 : Int} (he : U8 e0) {x : List Int} (hx : enc (v3 c q e0) = x) (w : World) : Calls Try.prog 13 #[.agg #[.int .u8 17, .int .i64 3, .int .u8 c, .int .u32 0, .bool q, .int .u8 0, .int .u8 e0, .slice none 0 0, .slice none 0 0]] w fun e w' => ∃ v, e = .returned (.tuple #[v, .int .i64 0]) ∧ Kd.R (Kd.int .u8) 5 w' w.heap.size (fun _ => True) v x ∧ Below w.heap.size w w' := encok_w (v3_ok hc q he) (v3_right c q e0) hx none 0 none 0 w (Kd.C_nil _ _) (Nat.le_refl _) (Kd.C_nil _ _) (Nat.le_refl _)
theorem d1_w  {x : List Int} (hb : Byt x) (hl : x.length ≤ 400000) (hd : dcm x = (v1, 0)) (A : Option Addr) (c_ : Nat) (w : World) (hr : Kd.C (Kd.int .u8) w A x.length x) (hc : x.length ≤ c_) : Calls Try.prog 20 #[.slice A x.length c_] w fun e w' => ∃ vS vR, e = .returned (.tuple #[.agg #[.int .u8 17, .int .i64 1, .int .u8 0, .int .u32 0, .bool false, .int .u8 0, .int .u8 0, vS, vR], .int .i64 0]) ∧ Kd.R (Kd.int .u32) 23 w' w.heap.size (fun _ => True) vS [] ∧ Kd.N k44 44 w' w.heap.size (fun _ => True) vR [] ∧ Below w.heap.size w w' := decm_w hb hl hd A c_ w hr hc
theorem d2_w {c : Int} {x : List Int} (hb : Byt x) (hl : x.length ≤ 400000) (hd : dcm x = (v2 c, 0)) (A : Option Addr) (c_ : Nat) (w : World) (hr : Kd.C (Kd.int .u8) w A x.length x) (hc : x.length ≤ c_) : Calls Try.prog 20 #[.slice A x.length c_] w fun e w' => ∃ vS vR, e = .returned (.tuple #[.agg #[.int .u8 17, .int .i64 2, .int .u8 c, .int .u32 0, .bool false, .int .u8 0, .int .u8 0, vS, vR], .int .i64 0]) ∧ Kd.R (Kd.int .u32) 23 w' w.heap.size (fun _ => True) vS [] ∧ Kd.N k44 44 w' w.heap.size (fun _ => True) vR [] ∧ Below w.heap.size w w' := decm_w hb hl hd A c_ w hr hc
theorem d3_w {c : Int} {q : Bool} {e0 : Int} {x : List Int} (hb : Byt x) (hl : x.length ≤ 400000) (hd : dcm x = (v3 c q e0, 0)) (A : Option Addr) (c_ : Nat) (w : World) (hr : Kd.C (Kd.int .u8) w A x.length x) (hc : x.length ≤ c_) : Calls Try.prog 20 #[.slice A x.length c_] w fun e w' => ∃ vS vR, e = .returned (.tuple #[.agg #[.int .u8 17, .int .i64 3, .int .u8 c, .int .u32 0, .bool q, .int .u8 0, .int .u8 e0, vS, vR], .int .i64 0]) ∧ Kd.R (Kd.int .u32) 23 w' w.heap.size (fun _ => True) vS [] ∧ Kd.N k44 44 w' w.heap.size (fun _ => True) vR [] ∧ Below w.heap.size w w' := decm_w hb hl hd A c_ w hr hc
theorem dnil_w (w : World) : Calls Try.prog 20 #[.slice none 0 0] w fun e w' => ∃ vS vR, e = .returned (.tuple #[.agg #[.int .u8 0, .int .i64 0, .int .u8 0, .int .u32 0, .bool false, .int .u8 0, .int .u8 0, vS, vR], .int .i64 3]) ∧ Kd.R (Kd.int .u32) 23 w' w.heap.size (fun _ => True) vS [] ∧ Kd.N k44 44 w' w.heap.size (fun _ => True) vR [] ∧ Below w.heap.size w w' := dec0_w (l := []) (er := 3) byt_nil (by decide) rfl none 0 w (Kd.C_nil _ _) (Nat.le_refl _)
set_option maxHeartbeats 8000000 in
set_option maxRecDepth 100000 in
theorem versions_some {c : Int} (h : 0 < c) (hz0 : (c == 0) = false) (hz1 : decide (0 < c) = true) (hc : U8 c) (q : Bool) {e0 : Int} (he : U8 e0) {x1 x2 x3 : List Int} (hx1 : enc v1 = x1) (hx2 : enc (v2 c) = x2) (hx3 : enc (v3 c q e0) = x3) (hb1 : Byt x1) (hl1 : x1.length ≤ 400000) (hd1 : dcm x1 = (v1, 0)) (hb2 : Byt x2) (hl2 : x2.length ≤ 400000) (hd2 : dcm x2 = (v2 c, 0)) (hb3 : Byt x3) (hl3 : x3.length ≤ 400000) (hd3 : dcm x3 = (v3 c q e0, 0)) (w : World) : Calls Try.prog 8 #[.int .u8 c, .bool q, .int .u8 e0] w fun e w' => e = .returned (.bool true) ∧ Below w.heap.size w w' := by
  have hu27 := Try.underlying27
  have HB := Aside0.mk (Below.refl w.heap.size w)
  have HC := Aside0.mk hc; clear hc; have H := Aside0.mk h; clear h
  have HE := Aside0.mk he; clear he; have HX1 := Aside0.mk hx1; clear hx1; have HX3 := Aside0.mk hx3; clear hx3; have HB1 := Aside0.mk hb1; clear hb1; have HL1 := Aside0.mk hl1; clear hl1; have HD1 := Aside0.mk hd1; clear hd1; have HB3 := Aside0.mk hb3; clear hb3; have HL3 := Aside0.mk hl3; clear hl3; have HD3 := Aside0.mk hd3; clear hd3
  have HX2 := Aside0.mk hx2; clear hx2; have HB2 := Aside0.mk hb2; clear hb2; have HL2 := Aside0.mk hl2; clear hl2; have HD2 := Aside0.mk hd2; clear hd2
  go_enter Try.func8, Try.ntmps8
  go_upto_region 6 with (first | (go_at_call 11; with_reducible refine (shown_calls _).mono ?_; rintro e w1_ ⟨rfl, hB⟩; have nHB := Aside0.mk (HB.out.trans (hB.mono HB.out.size)); clear HB; have HB := nHB; clear nHB; clear hB) | (go_at_call 13; with_reducible refine (e1_w HX1.out _).mono ?_; rintro e w2_ ⟨v_x1, rfl, hR, hB⟩; obtain ⟨A_x1, c_x1, rfl⟩ := Kd.R_slice hR; have hsz := HB.out.size; have nHB := Aside0.mk (HB.out.trans (hB.mono HB.out.size)); clear HB; have HB := nHB; clear nHB; have HR_x1 := Aside0.mk (Kd.R_mono (Kd.R_lower hR hsz) (fun _ _ => trivial : ∀ k, _ → (fun _ => True) k)); clear hR hsz; clear hB) | (go_at_call 13; with_reducible refine (e2_w HC.out H.out HX2.out _).mono ?_; rintro e w3_ ⟨v_x2, rfl, hR, hB⟩; obtain ⟨A_x2, c_x2, rfl⟩ := Kd.R_slice hR; have hsz := HB.out.size; have nHB := Aside0.mk (HB.out.trans (hB.mono HB.out.size)); clear HB; have HB := nHB; clear nHB; have nHC := Aside0.mk (Kd.R_below HR_x1.out hB); clear HR_x1; have HR_x1 := nHC; clear nHC; have HR_x2 := Aside0.mk (Kd.R_mono (Kd.R_lower hR hsz) (fun _ _ => trivial : ∀ k, _ → (fun _ => True) k)); clear hR hsz; clear hB) | (go_at_call 13; with_reducible refine (e3_w HC.out q HE.out HX3.out _).mono ?_; rintro e w4_ ⟨v_x3, rfl, hR, hB⟩; obtain ⟨A_x3, c_x3, rfl⟩ := Kd.R_slice hR; have hsz := HB.out.size; have nHB := Aside0.mk (HB.out.trans (hB.mono HB.out.size)); clear HB; have HB := nHB; clear nHB; have nHC := Aside0.mk (Kd.R_below HR_x1.out hB); clear HR_x1; have HR_x1 := nHC; clear nHC; have nHC := Aside0.mk (Kd.R_below HR_x2.out hB); clear HR_x2; have HR_x2 := nHC; clear nHC; have HR_x3 := Aside0.mk (Kd.R_mono (Kd.R_lower hR hsz) (fun _ _ => trivial : ∀ k, _ → (fun _ => True) k)); clear hR hsz; clear hB) | (go_at_call 20; (with_reducible refine (d1_w HB1.out HL1.out HD1.out _ _ _ (Kd.R_reads' HR_x1.out).2.2 (Kd.R_reads' HR_x1.out).2.1).mono ?_); rintro e w5_ ⟨v_p1, v_q1, rfl, hS, hN, hB⟩; obtain ⟨A_p1, c_p1, rfl⟩ := Kd.R_slice hS; obtain ⟨A_q1, c_q1, rfl⟩ := Kd.N_slice hN; have nHB := Aside0.mk (HB.out.trans (hB.mono HB.out.size)); clear HB; have HB := nHB; clear nHB; have nHC := Aside0.mk (Kd.R_below HR_x1.out hB); clear HR_x1; have HR_x1 := nHC; clear nHC; have nHC := Aside0.mk (Kd.R_below HR_x2.out hB); clear HR_x2; have HR_x2 := nHC; clear nHC; have nHC := Aside0.mk (Kd.R_below HR_x3.out hB); clear HR_x3; have HR_x3 := nHC; clear nHC; have HC_p1 := Aside0.mk (show Kd.C (Kd.int .u32) w5_ A_p1 0 [] from (Kd.R_reads' hS).2.2); have HK_p1 := Aside0.mk (show 0 ≤ c_p1 from (Kd.R_reads' hS).2.1); have HC_q1 := Aside0.mk (show Kd.C k44 w5_ A_q1 0 [] from (Kd.N_reads' hN).2.2); have HK_q1 := Aside0.mk (show 0 ≤ c_q1 from (Kd.N_reads' hN).2.1); clear hS hN hB) | ((with_reducible refine gate_dst (N := 14) rfl ?_); (try (refine gate_guard (by rfl) ?_; dsimp only)); refine box_event ?hg (N := 14) ?hd (cs := #[.int .u8 0, .int .i64 0, .int .u8 0, .int .u32 0, .bool false, .int .u8 0, .int .u8 0, .slice none 0 0, .slice none 0 0]) (t := 27) ?hr ?_; (case hd => rfl); (case hg => rfl); (case hr => first | (go_simp; done) | (go_simp; rfl)); intro g1 hg w6_ hbox hB0; have hG := Aside0.mk (show w5_.heap.size ≤ g1 from Nat.le_of_eq hg.symm); clear hg; have hBX := Aside0.mk hbox; have hB1 := Aside0.mk hB0; clear hB0; have hc_g1_0 : w6_.cell? ⟨g1, 0, none⟩ = some (.int .u8 0) := (blk_cell hbox 0).trans rfl; have hf_g1_0 := blk_frozen hbox 0; have hc_g1_1 : w6_.cell? ⟨g1, 1, none⟩ = some (.int .i64 0) := (blk_cell hbox 1).trans rfl; have hf_g1_1 := blk_frozen hbox 1; have hc_g1_2 : w6_.cell? ⟨g1, 2, none⟩ = some (.int .u8 0) := (blk_cell hbox 2).trans rfl; have hf_g1_2 := blk_frozen hbox 2; have hc_g1_3 : w6_.cell? ⟨g1, 3, none⟩ = some (.int .u32 0) := (blk_cell hbox 3).trans rfl; have hf_g1_3 := blk_frozen hbox 3; have hc_g1_4 : w6_.cell? ⟨g1, 4, none⟩ = some (.bool false) := (blk_cell hbox 4).trans rfl; have hf_g1_4 := blk_frozen hbox 4; have hc_g1_5 : w6_.cell? ⟨g1, 5, none⟩ = some (.int .u8 0) := (blk_cell hbox 5).trans rfl; have hf_g1_5 := blk_frozen hbox 5; have hc_g1_6 : w6_.cell? ⟨g1, 6, none⟩ = some (.int .u8 0) := (blk_cell hbox 6).trans rfl; have hf_g1_6 := blk_frozen hbox 6; have hc_g1_7 : w6_.cell? ⟨g1, 7, none⟩ = some (.slice none 0 0) := (blk_cell hbox 7).trans rfl; have hf_g1_7 := blk_frozen hbox 7; have hc_g1_8 : w6_.cell? ⟨g1, 8, none⟩ = some (.slice none 0 0) := (blk_cell hbox 8).trans rfl; have hf_g1_8 := blk_frozen hbox 8; clear hbox))
  have hB : Below w5_.heap.size w5_ (((((((((w6_.setCell ⟨g1, 0, none⟩ (.int .u8 17)).setCell ⟨g1, 1, none⟩ (.int .i64 1)).setCell ⟨g1, 2, none⟩ (.int .u8 0)).setCell ⟨g1, 3, none⟩ (.int .u32 0)).setCell ⟨g1, 4, none⟩ (.bool false)).setCell ⟨g1, 5, none⟩ (.int .u8 0)).setCell ⟨g1, 6, none⟩ (.int .u8 0)).setCell ⟨g1, 7, none⟩ (.slice A_p1 0 c_p1)).setCell ⟨g1, 8, none⟩ (.slice A_q1 0 c_q1)) := (below_set (below_set (below_set (below_set (below_set (below_set (below_set (below_set (below_set hB1.out hG.out) hG.out) hG.out) hG.out) hG.out) hG.out) hG.out) hG.out) hG.out)
  have hBN : (((((((((w6_.setCell ⟨g1, 0, none⟩ (.int .u8 17)).setCell ⟨g1, 1, none⟩ (.int .i64 1)).setCell ⟨g1, 2, none⟩ (.int .u8 0)).setCell ⟨g1, 3, none⟩ (.int .u32 0)).setCell ⟨g1, 4, none⟩ (.bool false)).setCell ⟨g1, 5, none⟩ (.int .u8 0)).setCell ⟨g1, 6, none⟩ (.int .u8 0)).setCell ⟨g1, 7, none⟩ (.slice A_p1 0 c_p1)).setCell ⟨g1, 8, none⟩ (.slice A_q1 0 c_q1)).heap[g1]? = some (.cells #[.int .u8 17, .int .i64 1, .int .u8 0, .int .u32 0, .bool false, .int .u8 0, .int .u8 0, .slice A_p1 0 c_p1, .slice A_q1 0 c_q1] 27 (0, 0)) := (blk_put (cs := #[.int .u8 17, .int .i64 1, .int .u8 0, .int .u32 0, .bool false, .int .u8 0, .int .u8 0, .slice A_p1 0 c_p1, .slice none 0 0]) (blk_put (cs := #[.int .u8 17, .int .i64 1, .int .u8 0, .int .u32 0, .bool false, .int .u8 0, .int .u8 0, .slice none 0 0, .slice none 0 0]) (blk_put (cs := #[.int .u8 17, .int .i64 1, .int .u8 0, .int .u32 0, .bool false, .int .u8 0, .int .u8 0, .slice none 0 0, .slice none 0 0]) (blk_put (cs := #[.int .u8 17, .int .i64 1, .int .u8 0, .int .u32 0, .bool false, .int .u8 0, .int .u8 0, .slice none 0 0, .slice none 0 0]) (blk_put (cs := #[.int .u8 17, .int .i64 1, .int .u8 0, .int .u32 0, .bool false, .int .u8 0, .int .u8 0, .slice none 0 0, .slice none 0 0]) (blk_put (cs := #[.int .u8 17, .int .i64 1, .int .u8 0, .int .u32 0, .bool false, .int .u8 0, .int .u8 0, .slice none 0 0, .slice none 0 0]) (blk_put (cs := #[.int .u8 17, .int .i64 1, .int .u8 0, .int .u32 0, .bool false, .int .u8 0, .int .u8 0, .slice none 0 0, .slice none 0 0]) (blk_put (cs := #[.int .u8 17, .int .i64 0, .int .u8 0, .int .u32 0, .bool false, .int .u8 0, .int .u8 0, .slice none 0 0, .slice none 0 0]) (blk_put (cs := #[.int .u8 0, .int .i64 0, .int .u8 0, .int .u32 0, .bool false, .int .u8 0, .int .u8 0, .slice none 0 0, .slice none 0 0]) hBX.out 0 (.int .u8 17) rfl) 1 (.int .i64 1) rfl) 2 (.int .u8 0) rfl) 3 (.int .u32 0) rfl) 4 (.bool false) rfl) 5 (.int .u8 0) rfl) 6 (.int .u8 0) rfl) 7 (.slice A_p1 0 c_p1) rfl) 8 (.slice A_q1 0 c_q1) rfl)
  clear hBX hB1
  clear hc_g1_0 hf_g1_0 hc_g1_1 hf_g1_1 hc_g1_2 hf_g1_2 hc_g1_3 hf_g1_3 hc_g1_4 hf_g1_4 hc_g1_5 hf_g1_5 hc_g1_6 hf_g1_6 hc_g1_7 hf_g1_7 hc_g1_8 hf_g1_8
  generalize (((((((((w6_.setCell ⟨g1, 0, none⟩ (.int .u8 17)).setCell ⟨g1, 1, none⟩ (.int .i64 1)).setCell ⟨g1, 2, none⟩ (.int .u8 0)).setCell ⟨g1, 3, none⟩ (.int .u32 0)).setCell ⟨g1, 4, none⟩ (.bool false)).setCell ⟨g1, 5, none⟩ (.int .u8 0)).setCell ⟨g1, 6, none⟩ (.int .u8 0)).setCell ⟨g1, 7, none⟩ (.slice A_p1 0 c_p1)).setCell ⟨g1, 8, none⟩ (.slice A_q1 0 c_q1)) = w7_ at hB hBN ⊢
  have HBo := Aside0.mk HB.out
  have nHB := Aside0.mk (HB.out.trans (hB.mono HB.out.size))
  clear HB
  have HB := nHB
  clear nHB
  have nHC := Aside0.mk (Kd.R_below HR_x1.out hB)
  clear HR_x1
  have HR_x1 := nHC
  clear nHC
  have nHC := Aside0.mk (Kd.R_below HR_x2.out hB)
  clear HR_x2
  have HR_x2 := nHC
  clear nHC
  have nHC := Aside0.mk (Kd.R_below HR_x3.out hB)
  clear HR_x3
  have HR_x3 := nHC
  clear nHC
  have nHC := Aside0.mk (Kd.C_below HC_p1.out hB)
  clear HC_p1
  have HC_p1 := nHC
  clear nHC
  have nHC := Aside0.mk (Kd.C_below HC_q1.out hB)
  clear HC_q1
  have HC_q1 := nHC
  clear nHC
  have BK_g1 := Aside0.mk hBN
  have GE_g1 := Aside0.mk (Nat.le_trans HBo.out.size hG.out)
  clear HBo hG hBN hB
  have hc_g1_0 : w7_.cell? ⟨g1, 0, none⟩ = some (.int .u8 17) := (blk_cell BK_g1.out 0).trans rfl
  have hf_g1_0 := blk_frozen BK_g1.out 0
  have hc_g1_1 : w7_.cell? ⟨g1, 1, none⟩ = some (.int .i64 1) := (blk_cell BK_g1.out 1).trans rfl
  have hf_g1_1 := blk_frozen BK_g1.out 1
  have hc_g1_2 : w7_.cell? ⟨g1, 2, none⟩ = some (.int .u8 0) := (blk_cell BK_g1.out 2).trans rfl
  have hf_g1_2 := blk_frozen BK_g1.out 2
  have hc_g1_3 : w7_.cell? ⟨g1, 3, none⟩ = some (.int .u32 0) := (blk_cell BK_g1.out 3).trans rfl
  have hf_g1_3 := blk_frozen BK_g1.out 3
  have hc_g1_4 : w7_.cell? ⟨g1, 4, none⟩ = some (.bool false) := (blk_cell BK_g1.out 4).trans rfl
  have hf_g1_4 := blk_frozen BK_g1.out 4
  have hc_g1_5 : w7_.cell? ⟨g1, 5, none⟩ = some (.int .u8 0) := (blk_cell BK_g1.out 5).trans rfl
  have hf_g1_5 := blk_frozen BK_g1.out 5
  have hc_g1_6 : w7_.cell? ⟨g1, 6, none⟩ = some (.int .u8 0) := (blk_cell BK_g1.out 6).trans rfl
  have hf_g1_6 := blk_frozen BK_g1.out 6
  have hc_g1_7 : w7_.cell? ⟨g1, 7, none⟩ = some (.slice A_p1 0 c_p1) := (blk_cell BK_g1.out 7).trans rfl
  have hf_g1_7 := blk_frozen BK_g1.out 7
  have hc_g1_8 : w7_.cell? ⟨g1, 8, none⟩ = some (.slice A_q1 0 c_q1) := (blk_cell BK_g1.out 8).trans rfl
  have hf_g1_8 := blk_frozen BK_g1.out 8
  go_upto_region 7 with (first | (go_at_call 20; (with_reducible refine (d2_w HB2.out HL2.out HD2.out _ _ _ (Kd.R_reads' HR_x2.out).2.2 (Kd.R_reads' HR_x2.out).2.1).mono ?_); rintro e w8_ ⟨v_p2, v_q2, rfl, hS, hN, hB⟩; obtain ⟨A_p2, c_p2, rfl⟩ := Kd.R_slice hS; obtain ⟨A_q2, c_q2, rfl⟩ := Kd.N_slice hN; have nHB := Aside0.mk (HB.out.trans (hB.mono HB.out.size)); clear HB; have HB := nHB; clear nHB; clear hc_g1_0 hf_g1_0 hc_g1_1 hf_g1_1 hc_g1_2 hf_g1_2 hc_g1_3 hf_g1_3 hc_g1_4 hf_g1_4 hc_g1_5 hf_g1_5 hc_g1_6 hf_g1_6 hc_g1_7 hf_g1_7 hc_g1_8 hf_g1_8; have nBK := Aside0.mk (blk_below (g := g1) (o := .cells #[.int .u8 17, .int .i64 1, .int .u8 0, .int .u32 0, .bool false, .int .u8 0, .int .u8 0, .slice A_p1 0 c_p1, .slice A_q1 0 c_q1] 27 (0, 0)) BK_g1.out hB); clear BK_g1; have BK_g1 := nBK; clear nBK; have hc_g1_0 : w8_.cell? ⟨g1, 0, none⟩ = some (.int .u8 17) := (blk_cell BK_g1.out 0).trans rfl; have hf_g1_0 := blk_frozen BK_g1.out 0; have hc_g1_1 : w8_.cell? ⟨g1, 1, none⟩ = some (.int .i64 1) := (blk_cell BK_g1.out 1).trans rfl; have hf_g1_1 := blk_frozen BK_g1.out 1; have hc_g1_2 : w8_.cell? ⟨g1, 2, none⟩ = some (.int .u8 0) := (blk_cell BK_g1.out 2).trans rfl; have hf_g1_2 := blk_frozen BK_g1.out 2; have hc_g1_3 : w8_.cell? ⟨g1, 3, none⟩ = some (.int .u32 0) := (blk_cell BK_g1.out 3).trans rfl; have hf_g1_3 := blk_frozen BK_g1.out 3; have hc_g1_4 : w8_.cell? ⟨g1, 4, none⟩ = some (.bool false) := (blk_cell BK_g1.out 4).trans rfl; have hf_g1_4 := blk_frozen BK_g1.out 4; have hc_g1_5 : w8_.cell? ⟨g1, 5, none⟩ = some (.int .u8 0) := (blk_cell BK_g1.out 5).trans rfl; have hf_g1_5 := blk_frozen BK_g1.out 5; have hc_g1_6 : w8_.cell? ⟨g1, 6, none⟩ = some (.int .u8 0) := (blk_cell BK_g1.out 6).trans rfl; have hf_g1_6 := blk_frozen BK_g1.out 6; have hc_g1_7 : w8_.cell? ⟨g1, 7, none⟩ = some (.slice A_p1 0 c_p1) := (blk_cell BK_g1.out 7).trans rfl; have hf_g1_7 := blk_frozen BK_g1.out 7; have hc_g1_8 : w8_.cell? ⟨g1, 8, none⟩ = some (.slice A_q1 0 c_q1) := (blk_cell BK_g1.out 8).trans rfl; have hf_g1_8 := blk_frozen BK_g1.out 8; have nHC := Aside0.mk (Kd.R_below HR_x1.out hB); clear HR_x1; have HR_x1 := nHC; clear nHC; have nHC := Aside0.mk (Kd.R_below HR_x2.out hB); clear HR_x2; have HR_x2 := nHC; clear nHC; have nHC := Aside0.mk (Kd.R_below HR_x3.out hB); clear HR_x3; have HR_x3 := nHC; clear nHC; have nHC := Aside0.mk (Kd.C_below HC_p1.out hB); clear HC_p1; have HC_p1 := nHC; clear nHC; have nHC := Aside0.mk (Kd.C_below HC_q1.out hB); clear HC_q1; have HC_q1 := nHC; clear nHC; have HC_p2 := Aside0.mk (show Kd.C (Kd.int .u32) w8_ A_p2 0 [] from (Kd.R_reads' hS).2.2); have HK_p2 := Aside0.mk (show 0 ≤ c_p2 from (Kd.R_reads' hS).2.1); have HC_q2 := Aside0.mk (show Kd.C k44 w8_ A_q2 0 [] from (Kd.N_reads' hN).2.2); have HK_q2 := Aside0.mk (show 0 ≤ c_q2 from (Kd.N_reads' hN).2.1); clear hS hN hB) | ((with_reducible refine gate_dst (N := 16) rfl ?_); (try (refine gate_guard (by rfl) ?_; dsimp only)); refine box_event ?hg (N := 16) ?hd (cs := #[.int .u8 0, .int .i64 0, .int .u8 0, .int .u32 0, .bool false, .int .u8 0, .int .u8 0, .slice none 0 0, .slice none 0 0]) (t := 27) ?hr ?_; (case hd => rfl); (case hg => rfl); (case hr => first | (go_simp; done) | (go_simp; rfl)); intro g2 hg w9_ hbox hB0; have hG := Aside0.mk (show w8_.heap.size ≤ g2 from Nat.le_of_eq hg.symm); clear hg; have hBX := Aside0.mk hbox; have hB1 := Aside0.mk hB0; clear hB0; have hc_g2_0 : w9_.cell? ⟨g2, 0, none⟩ = some (.int .u8 0) := (blk_cell hbox 0).trans rfl; have hf_g2_0 := blk_frozen hbox 0; have hc_g2_1 : w9_.cell? ⟨g2, 1, none⟩ = some (.int .i64 0) := (blk_cell hbox 1).trans rfl; have hf_g2_1 := blk_frozen hbox 1; have hc_g2_2 : w9_.cell? ⟨g2, 2, none⟩ = some (.int .u8 0) := (blk_cell hbox 2).trans rfl; have hf_g2_2 := blk_frozen hbox 2; have hc_g2_3 : w9_.cell? ⟨g2, 3, none⟩ = some (.int .u32 0) := (blk_cell hbox 3).trans rfl; have hf_g2_3 := blk_frozen hbox 3; have hc_g2_4 : w9_.cell? ⟨g2, 4, none⟩ = some (.bool false) := (blk_cell hbox 4).trans rfl; have hf_g2_4 := blk_frozen hbox 4; have hc_g2_5 : w9_.cell? ⟨g2, 5, none⟩ = some (.int .u8 0) := (blk_cell hbox 5).trans rfl; have hf_g2_5 := blk_frozen hbox 5; have hc_g2_6 : w9_.cell? ⟨g2, 6, none⟩ = some (.int .u8 0) := (blk_cell hbox 6).trans rfl; have hf_g2_6 := blk_frozen hbox 6; have hc_g2_7 : w9_.cell? ⟨g2, 7, none⟩ = some (.slice none 0 0) := (blk_cell hbox 7).trans rfl; have hf_g2_7 := blk_frozen hbox 7; have hc_g2_8 : w9_.cell? ⟨g2, 8, none⟩ = some (.slice none 0 0) := (blk_cell hbox 8).trans rfl; have hf_g2_8 := blk_frozen hbox 8; clear hbox))
  have hB : Below w8_.heap.size w8_ (((((((((w9_.setCell ⟨g2, 0, none⟩ (.int .u8 17)).setCell ⟨g2, 1, none⟩ (.int .i64 2)).setCell ⟨g2, 2, none⟩ (.int .u8 c)).setCell ⟨g2, 3, none⟩ (.int .u32 0)).setCell ⟨g2, 4, none⟩ (.bool false)).setCell ⟨g2, 5, none⟩ (.int .u8 0)).setCell ⟨g2, 6, none⟩ (.int .u8 0)).setCell ⟨g2, 7, none⟩ (.slice A_p2 0 c_p2)).setCell ⟨g2, 8, none⟩ (.slice A_q2 0 c_q2)) := (below_set (below_set (below_set (below_set (below_set (below_set (below_set (below_set (below_set hB1.out hG.out) hG.out) hG.out) hG.out) hG.out) hG.out) hG.out) hG.out) hG.out)
  have hBN : (((((((((w9_.setCell ⟨g2, 0, none⟩ (.int .u8 17)).setCell ⟨g2, 1, none⟩ (.int .i64 2)).setCell ⟨g2, 2, none⟩ (.int .u8 c)).setCell ⟨g2, 3, none⟩ (.int .u32 0)).setCell ⟨g2, 4, none⟩ (.bool false)).setCell ⟨g2, 5, none⟩ (.int .u8 0)).setCell ⟨g2, 6, none⟩ (.int .u8 0)).setCell ⟨g2, 7, none⟩ (.slice A_p2 0 c_p2)).setCell ⟨g2, 8, none⟩ (.slice A_q2 0 c_q2)).heap[g2]? = some (.cells #[.int .u8 17, .int .i64 2, .int .u8 c, .int .u32 0, .bool false, .int .u8 0, .int .u8 0, .slice A_p2 0 c_p2, .slice A_q2 0 c_q2] 27 (0, 0)) := (blk_put (cs := #[.int .u8 17, .int .i64 2, .int .u8 c, .int .u32 0, .bool false, .int .u8 0, .int .u8 0, .slice A_p2 0 c_p2, .slice none 0 0]) (blk_put (cs := #[.int .u8 17, .int .i64 2, .int .u8 c, .int .u32 0, .bool false, .int .u8 0, .int .u8 0, .slice none 0 0, .slice none 0 0]) (blk_put (cs := #[.int .u8 17, .int .i64 2, .int .u8 c, .int .u32 0, .bool false, .int .u8 0, .int .u8 0, .slice none 0 0, .slice none 0 0]) (blk_put (cs := #[.int .u8 17, .int .i64 2, .int .u8 c, .int .u32 0, .bool false, .int .u8 0, .int .u8 0, .slice none 0 0, .slice none 0 0]) (blk_put (cs := #[.int .u8 17, .int .i64 2, .int .u8 c, .int .u32 0, .bool false, .int .u8 0, .int .u8 0, .slice none 0 0, .slice none 0 0]) (blk_put (cs := #[.int .u8 17, .int .i64 2, .int .u8 c, .int .u32 0, .bool false, .int .u8 0, .int .u8 0, .slice none 0 0, .slice none 0 0]) (blk_put (cs := #[.int .u8 17, .int .i64 2, .int .u8 0, .int .u32 0, .bool false, .int .u8 0, .int .u8 0, .slice none 0 0, .slice none 0 0]) (blk_put (cs := #[.int .u8 17, .int .i64 0, .int .u8 0, .int .u32 0, .bool false, .int .u8 0, .int .u8 0, .slice none 0 0, .slice none 0 0]) (blk_put (cs := #[.int .u8 0, .int .i64 0, .int .u8 0, .int .u32 0, .bool false, .int .u8 0, .int .u8 0, .slice none 0 0, .slice none 0 0]) hBX.out 0 (.int .u8 17) rfl) 1 (.int .i64 2) rfl) 2 (.int .u8 c) rfl) 3 (.int .u32 0) rfl) 4 (.bool false) rfl) 5 (.int .u8 0) rfl) 6 (.int .u8 0) rfl) 7 (.slice A_p2 0 c_p2) rfl) 8 (.slice A_q2 0 c_q2) rfl)
  clear hBX hB1
  clear hc_g2_0 hf_g2_0 hc_g2_1 hf_g2_1 hc_g2_2 hf_g2_2 hc_g2_3 hf_g2_3 hc_g2_4 hf_g2_4 hc_g2_5 hf_g2_5 hc_g2_6 hf_g2_6 hc_g2_7 hf_g2_7 hc_g2_8 hf_g2_8
  generalize (((((((((w9_.setCell ⟨g2, 0, none⟩ (.int .u8 17)).setCell ⟨g2, 1, none⟩ (.int .i64 2)).setCell ⟨g2, 2, none⟩ (.int .u8 c)).setCell ⟨g2, 3, none⟩ (.int .u32 0)).setCell ⟨g2, 4, none⟩ (.bool false)).setCell ⟨g2, 5, none⟩ (.int .u8 0)).setCell ⟨g2, 6, none⟩ (.int .u8 0)).setCell ⟨g2, 7, none⟩ (.slice A_p2 0 c_p2)).setCell ⟨g2, 8, none⟩ (.slice A_q2 0 c_q2)) = w10_ at hB hBN ⊢
  have NB_g2_g1 := Aside0.mk (show g2 ≠ g1 from Nat.ne_of_gt (Nat.lt_of_lt_of_le (blk_lt (g := g1) (o := .cells #[.int .u8 17, .int .i64 1, .int .u8 0, .int .u32 0, .bool false, .int .u8 0, .int .u8 0, .slice A_p1 0 c_p1, .slice A_q1 0 c_q1] 27 (0, 0)) BK_g1.out) hG.out))
  have NB_g1_g2 := Aside0.mk (Ne.symm NB_g2_g1.out)
  have HBo := Aside0.mk HB.out
  have nHB := Aside0.mk (HB.out.trans (hB.mono HB.out.size))
  clear HB
  have HB := nHB
  clear nHB
  clear hc_g1_0 hf_g1_0 hc_g1_1 hf_g1_1 hc_g1_2 hf_g1_2 hc_g1_3 hf_g1_3 hc_g1_4 hf_g1_4 hc_g1_5 hf_g1_5 hc_g1_6 hf_g1_6 hc_g1_7 hf_g1_7 hc_g1_8 hf_g1_8
  have nBK := Aside0.mk (blk_below (g := g1) (o := .cells #[.int .u8 17, .int .i64 1, .int .u8 0, .int .u32 0, .bool false, .int .u8 0, .int .u8 0, .slice A_p1 0 c_p1, .slice A_q1 0 c_q1] 27 (0, 0)) BK_g1.out hB)
  clear BK_g1
  have BK_g1 := nBK
  clear nBK
  have hc_g1_0 : w10_.cell? ⟨g1, 0, none⟩ = some (.int .u8 17) := (blk_cell BK_g1.out 0).trans rfl
  have hf_g1_0 := blk_frozen BK_g1.out 0
  have hc_g1_1 : w10_.cell? ⟨g1, 1, none⟩ = some (.int .i64 1) := (blk_cell BK_g1.out 1).trans rfl
  have hf_g1_1 := blk_frozen BK_g1.out 1
  have hc_g1_2 : w10_.cell? ⟨g1, 2, none⟩ = some (.int .u8 0) := (blk_cell BK_g1.out 2).trans rfl
  have hf_g1_2 := blk_frozen BK_g1.out 2
  have hc_g1_3 : w10_.cell? ⟨g1, 3, none⟩ = some (.int .u32 0) := (blk_cell BK_g1.out 3).trans rfl
  have hf_g1_3 := blk_frozen BK_g1.out 3
  have hc_g1_4 : w10_.cell? ⟨g1, 4, none⟩ = some (.bool false) := (blk_cell BK_g1.out 4).trans rfl
  have hf_g1_4 := blk_frozen BK_g1.out 4
  have hc_g1_5 : w10_.cell? ⟨g1, 5, none⟩ = some (.int .u8 0) := (blk_cell BK_g1.out 5).trans rfl
  have hf_g1_5 := blk_frozen BK_g1.out 5
  have hc_g1_6 : w10_.cell? ⟨g1, 6, none⟩ = some (.int .u8 0) := (blk_cell BK_g1.out 6).trans rfl
  have hf_g1_6 := blk_frozen BK_g1.out 6
  have hc_g1_7 : w10_.cell? ⟨g1, 7, none⟩ = some (.slice A_p1 0 c_p1) := (blk_cell BK_g1.out 7).trans rfl
  have hf_g1_7 := blk_frozen BK_g1.out 7
  have hc_g1_8 : w10_.cell? ⟨g1, 8, none⟩ = some (.slice A_q1 0 c_q1) := (blk_cell BK_g1.out 8).trans rfl
  have hf_g1_8 := blk_frozen BK_g1.out 8
  have nHC := Aside0.mk (Kd.R_below HR_x1.out hB)
  clear HR_x1
  have HR_x1 := nHC
  clear nHC
  have nHC := Aside0.mk (Kd.R_below HR_x2.out hB)
  clear HR_x2
  have HR_x2 := nHC
  clear nHC
  have nHC := Aside0.mk (Kd.R_below HR_x3.out hB)
  clear HR_x3
  have HR_x3 := nHC
  clear nHC
  have nHC := Aside0.mk (Kd.C_below HC_p1.out hB)
  clear HC_p1
  have HC_p1 := nHC
  clear nHC
  have nHC := Aside0.mk (Kd.C_below HC_q1.out hB)
  clear HC_q1
  have HC_q1 := nHC
  clear nHC
  have nHC := Aside0.mk (Kd.C_below HC_p2.out hB)
  clear HC_p2
  have HC_p2 := nHC
  clear nHC
  have nHC := Aside0.mk (Kd.C_below HC_q2.out hB)
  clear HC_q2
  have HC_q2 := nHC
  clear nHC
  have BK_g2 := Aside0.mk hBN
  have GE_g2 := Aside0.mk (Nat.le_trans HBo.out.size hG.out)
  clear HBo hG hBN hB
  have hc_g2_0 : w10_.cell? ⟨g2, 0, none⟩ = some (.int .u8 17) := (blk_cell BK_g2.out 0).trans rfl
  have hf_g2_0 := blk_frozen BK_g2.out 0
  have hc_g2_1 : w10_.cell? ⟨g2, 1, none⟩ = some (.int .i64 2) := (blk_cell BK_g2.out 1).trans rfl
  have hf_g2_1 := blk_frozen BK_g2.out 1
  have hc_g2_2 : w10_.cell? ⟨g2, 2, none⟩ = some (.int .u8 c) := (blk_cell BK_g2.out 2).trans rfl
  have hf_g2_2 := blk_frozen BK_g2.out 2
  have hc_g2_3 : w10_.cell? ⟨g2, 3, none⟩ = some (.int .u32 0) := (blk_cell BK_g2.out 3).trans rfl
  have hf_g2_3 := blk_frozen BK_g2.out 3
  have hc_g2_4 : w10_.cell? ⟨g2, 4, none⟩ = some (.bool false) := (blk_cell BK_g2.out 4).trans rfl
  have hf_g2_4 := blk_frozen BK_g2.out 4
  have hc_g2_5 : w10_.cell? ⟨g2, 5, none⟩ = some (.int .u8 0) := (blk_cell BK_g2.out 5).trans rfl
  have hf_g2_5 := blk_frozen BK_g2.out 5
  have hc_g2_6 : w10_.cell? ⟨g2, 6, none⟩ = some (.int .u8 0) := (blk_cell BK_g2.out 6).trans rfl
  have hf_g2_6 := blk_frozen BK_g2.out 6
  have hc_g2_7 : w10_.cell? ⟨g2, 7, none⟩ = some (.slice A_p2 0 c_p2) := (blk_cell BK_g2.out 7).trans rfl
  have hf_g2_7 := blk_frozen BK_g2.out 7
  have hc_g2_8 : w10_.cell? ⟨g2, 8, none⟩ = some (.slice A_q2 0 c_q2) := (blk_cell BK_g2.out 8).trans rfl
  have hf_g2_8 := blk_frozen BK_g2.out 8
  go_upto_region 8 with (first | (go_at_call 20; (with_reducible refine (d3_w HB3.out HL3.out HD3.out _ _ _ (Kd.R_reads' HR_x3.out).2.2 (Kd.R_reads' HR_x3.out).2.1).mono ?_); rintro e w11_ ⟨v_p3, v_q3, rfl, hS, hN, hB⟩; obtain ⟨A_p3, c_p3, rfl⟩ := Kd.R_slice hS; obtain ⟨A_q3, c_q3, rfl⟩ := Kd.N_slice hN; have nHB := Aside0.mk (HB.out.trans (hB.mono HB.out.size)); clear HB; have HB := nHB; clear nHB; clear hc_g1_0 hf_g1_0 hc_g1_1 hf_g1_1 hc_g1_2 hf_g1_2 hc_g1_3 hf_g1_3 hc_g1_4 hf_g1_4 hc_g1_5 hf_g1_5 hc_g1_6 hf_g1_6 hc_g1_7 hf_g1_7 hc_g1_8 hf_g1_8; have nBK := Aside0.mk (blk_below (g := g1) (o := .cells #[.int .u8 17, .int .i64 1, .int .u8 0, .int .u32 0, .bool false, .int .u8 0, .int .u8 0, .slice A_p1 0 c_p1, .slice A_q1 0 c_q1] 27 (0, 0)) BK_g1.out hB); clear BK_g1; have BK_g1 := nBK; clear nBK; have hc_g1_0 : w11_.cell? ⟨g1, 0, none⟩ = some (.int .u8 17) := (blk_cell BK_g1.out 0).trans rfl; have hf_g1_0 := blk_frozen BK_g1.out 0; have hc_g1_1 : w11_.cell? ⟨g1, 1, none⟩ = some (.int .i64 1) := (blk_cell BK_g1.out 1).trans rfl; have hf_g1_1 := blk_frozen BK_g1.out 1; have hc_g1_2 : w11_.cell? ⟨g1, 2, none⟩ = some (.int .u8 0) := (blk_cell BK_g1.out 2).trans rfl; have hf_g1_2 := blk_frozen BK_g1.out 2; have hc_g1_3 : w11_.cell? ⟨g1, 3, none⟩ = some (.int .u32 0) := (blk_cell BK_g1.out 3).trans rfl; have hf_g1_3 := blk_frozen BK_g1.out 3; have hc_g1_4 : w11_.cell? ⟨g1, 4, none⟩ = some (.bool false) := (blk_cell BK_g1.out 4).trans rfl; have hf_g1_4 := blk_frozen BK_g1.out 4; have hc_g1_5 : w11_.cell? ⟨g1, 5, none⟩ = some (.int .u8 0) := (blk_cell BK_g1.out 5).trans rfl; have hf_g1_5 := blk_frozen BK_g1.out 5; have hc_g1_6 : w11_.cell? ⟨g1, 6, none⟩ = some (.int .u8 0) := (blk_cell BK_g1.out 6).trans rfl; have hf_g1_6 := blk_frozen BK_g1.out 6; have hc_g1_7 : w11_.cell? ⟨g1, 7, none⟩ = some (.slice A_p1 0 c_p1) := (blk_cell BK_g1.out 7).trans rfl; have hf_g1_7 := blk_frozen BK_g1.out 7; have hc_g1_8 : w11_.cell? ⟨g1, 8, none⟩ = some (.slice A_q1 0 c_q1) := (blk_cell BK_g1.out 8).trans rfl; have hf_g1_8 := blk_frozen BK_g1.out 8; clear hc_g2_0 hf_g2_0 hc_g2_1 hf_g2_1 hc_g2_2 hf_g2_2 hc_g2_3 hf_g2_3 hc_g2_4 hf_g2_4 hc_g2_5 hf_g2_5 hc_g2_6 hf_g2_6 hc_g2_7 hf_g2_7 hc_g2_8 hf_g2_8; have nBK := Aside0.mk (blk_below (g := g2) (o := .cells #[.int .u8 17, .int .i64 2, .int .u8 c, .int .u32 0, .bool false, .int .u8 0, .int .u8 0, .slice A_p2 0 c_p2, .slice A_q2 0 c_q2] 27 (0, 0)) BK_g2.out hB); clear BK_g2; have BK_g2 := nBK; clear nBK; have hc_g2_0 : w11_.cell? ⟨g2, 0, none⟩ = some (.int .u8 17) := (blk_cell BK_g2.out 0).trans rfl; have hf_g2_0 := blk_frozen BK_g2.out 0; have hc_g2_1 : w11_.cell? ⟨g2, 1, none⟩ = some (.int .i64 2) := (blk_cell BK_g2.out 1).trans rfl; have hf_g2_1 := blk_frozen BK_g2.out 1; have hc_g2_2 : w11_.cell? ⟨g2, 2, none⟩ = some (.int .u8 c) := (blk_cell BK_g2.out 2).trans rfl; have hf_g2_2 := blk_frozen BK_g2.out 2; have hc_g2_3 : w11_.cell? ⟨g2, 3, none⟩ = some (.int .u32 0) := (blk_cell BK_g2.out 3).trans rfl; have hf_g2_3 := blk_frozen BK_g2.out 3; have hc_g2_4 : w11_.cell? ⟨g2, 4, none⟩ = some (.bool false) := (blk_cell BK_g2.out 4).trans rfl; have hf_g2_4 := blk_frozen BK_g2.out 4; have hc_g2_5 : w11_.cell? ⟨g2, 5, none⟩ = some (.int .u8 0) := (blk_cell BK_g2.out 5).trans rfl; have hf_g2_5 := blk_frozen BK_g2.out 5; have hc_g2_6 : w11_.cell? ⟨g2, 6, none⟩ = some (.int .u8 0) := (blk_cell BK_g2.out 6).trans rfl; have hf_g2_6 := blk_frozen BK_g2.out 6; have hc_g2_7 : w11_.cell? ⟨g2, 7, none⟩ = some (.slice A_p2 0 c_p2) := (blk_cell BK_g2.out 7).trans rfl; have hf_g2_7 := blk_frozen BK_g2.out 7; have hc_g2_8 : w11_.cell? ⟨g2, 8, none⟩ = some (.slice A_q2 0 c_q2) := (blk_cell BK_g2.out 8).trans rfl; have hf_g2_8 := blk_frozen BK_g2.out 8; have nHC := Aside0.mk (Kd.R_below HR_x1.out hB); clear HR_x1; have HR_x1 := nHC; clear nHC; have nHC := Aside0.mk (Kd.R_below HR_x2.out hB); clear HR_x2; have HR_x2 := nHC; clear nHC; have nHC := Aside0.mk (Kd.R_below HR_x3.out hB); clear HR_x3; have HR_x3 := nHC; clear nHC; have nHC := Aside0.mk (Kd.C_below HC_p1.out hB); clear HC_p1; have HC_p1 := nHC; clear nHC; have nHC := Aside0.mk (Kd.C_below HC_q1.out hB); clear HC_q1; have HC_q1 := nHC; clear nHC; have nHC := Aside0.mk (Kd.C_below HC_p2.out hB); clear HC_p2; have HC_p2 := nHC; clear nHC; have nHC := Aside0.mk (Kd.C_below HC_q2.out hB); clear HC_q2; have HC_q2 := nHC; clear nHC; have HC_p3 := Aside0.mk (show Kd.C (Kd.int .u32) w11_ A_p3 0 [] from (Kd.R_reads' hS).2.2); have HK_p3 := Aside0.mk (show 0 ≤ c_p3 from (Kd.R_reads' hS).2.1); have HC_q3 := Aside0.mk (show Kd.C k44 w11_ A_q3 0 [] from (Kd.N_reads' hN).2.2); have HK_q3 := Aside0.mk (show 0 ≤ c_q3 from (Kd.N_reads' hN).2.1); clear hS hN hB) | ((with_reducible refine gate_dst (N := 18) rfl ?_); (try (refine gate_guard (by rfl) ?_; dsimp only)); refine box_event ?hg (N := 18) ?hd (cs := #[.int .u8 0, .int .i64 0, .int .u8 0, .int .u32 0, .bool false, .int .u8 0, .int .u8 0, .slice none 0 0, .slice none 0 0]) (t := 27) ?hr ?_; (case hd => rfl); (case hg => rfl); (case hr => first | (go_simp; done) | (go_simp; rfl)); intro g3 hg w12_ hbox hB0; have hG := Aside0.mk (show w11_.heap.size ≤ g3 from Nat.le_of_eq hg.symm); clear hg; have hBX := Aside0.mk hbox; have hB1 := Aside0.mk hB0; clear hB0; have hc_g3_0 : w12_.cell? ⟨g3, 0, none⟩ = some (.int .u8 0) := (blk_cell hbox 0).trans rfl; have hf_g3_0 := blk_frozen hbox 0; have hc_g3_1 : w12_.cell? ⟨g3, 1, none⟩ = some (.int .i64 0) := (blk_cell hbox 1).trans rfl; have hf_g3_1 := blk_frozen hbox 1; have hc_g3_2 : w12_.cell? ⟨g3, 2, none⟩ = some (.int .u8 0) := (blk_cell hbox 2).trans rfl; have hf_g3_2 := blk_frozen hbox 2; have hc_g3_3 : w12_.cell? ⟨g3, 3, none⟩ = some (.int .u32 0) := (blk_cell hbox 3).trans rfl; have hf_g3_3 := blk_frozen hbox 3; have hc_g3_4 : w12_.cell? ⟨g3, 4, none⟩ = some (.bool false) := (blk_cell hbox 4).trans rfl; have hf_g3_4 := blk_frozen hbox 4; have hc_g3_5 : w12_.cell? ⟨g3, 5, none⟩ = some (.int .u8 0) := (blk_cell hbox 5).trans rfl; have hf_g3_5 := blk_frozen hbox 5; have hc_g3_6 : w12_.cell? ⟨g3, 6, none⟩ = some (.int .u8 0) := (blk_cell hbox 6).trans rfl; have hf_g3_6 := blk_frozen hbox 6; have hc_g3_7 : w12_.cell? ⟨g3, 7, none⟩ = some (.slice none 0 0) := (blk_cell hbox 7).trans rfl; have hf_g3_7 := blk_frozen hbox 7; have hc_g3_8 : w12_.cell? ⟨g3, 8, none⟩ = some (.slice none 0 0) := (blk_cell hbox 8).trans rfl; have hf_g3_8 := blk_frozen hbox 8; clear hbox))
  have hB : Below w11_.heap.size w11_ (((((((((w12_.setCell ⟨g3, 0, none⟩ (.int .u8 17)).setCell ⟨g3, 1, none⟩ (.int .i64 3)).setCell ⟨g3, 2, none⟩ (.int .u8 c)).setCell ⟨g3, 3, none⟩ (.int .u32 0)).setCell ⟨g3, 4, none⟩ (.bool q)).setCell ⟨g3, 5, none⟩ (.int .u8 0)).setCell ⟨g3, 6, none⟩ (.int .u8 e0)).setCell ⟨g3, 7, none⟩ (.slice A_p3 0 c_p3)).setCell ⟨g3, 8, none⟩ (.slice A_q3 0 c_q3)) := (below_set (below_set (below_set (below_set (below_set (below_set (below_set (below_set (below_set hB1.out hG.out) hG.out) hG.out) hG.out) hG.out) hG.out) hG.out) hG.out) hG.out)
  have hBN : (((((((((w12_.setCell ⟨g3, 0, none⟩ (.int .u8 17)).setCell ⟨g3, 1, none⟩ (.int .i64 3)).setCell ⟨g3, 2, none⟩ (.int .u8 c)).setCell ⟨g3, 3, none⟩ (.int .u32 0)).setCell ⟨g3, 4, none⟩ (.bool q)).setCell ⟨g3, 5, none⟩ (.int .u8 0)).setCell ⟨g3, 6, none⟩ (.int .u8 e0)).setCell ⟨g3, 7, none⟩ (.slice A_p3 0 c_p3)).setCell ⟨g3, 8, none⟩ (.slice A_q3 0 c_q3)).heap[g3]? = some (.cells #[.int .u8 17, .int .i64 3, .int .u8 c, .int .u32 0, .bool q, .int .u8 0, .int .u8 e0, .slice A_p3 0 c_p3, .slice A_q3 0 c_q3] 27 (0, 0)) := (blk_put (cs := #[.int .u8 17, .int .i64 3, .int .u8 c, .int .u32 0, .bool q, .int .u8 0, .int .u8 e0, .slice A_p3 0 c_p3, .slice none 0 0]) (blk_put (cs := #[.int .u8 17, .int .i64 3, .int .u8 c, .int .u32 0, .bool q, .int .u8 0, .int .u8 e0, .slice none 0 0, .slice none 0 0]) (blk_put (cs := #[.int .u8 17, .int .i64 3, .int .u8 c, .int .u32 0, .bool q, .int .u8 0, .int .u8 0, .slice none 0 0, .slice none 0 0]) (blk_put (cs := #[.int .u8 17, .int .i64 3, .int .u8 c, .int .u32 0, .bool q, .int .u8 0, .int .u8 0, .slice none 0 0, .slice none 0 0]) (blk_put (cs := #[.int .u8 17, .int .i64 3, .int .u8 c, .int .u32 0, .bool false, .int .u8 0, .int .u8 0, .slice none 0 0, .slice none 0 0]) (blk_put (cs := #[.int .u8 17, .int .i64 3, .int .u8 c, .int .u32 0, .bool false, .int .u8 0, .int .u8 0, .slice none 0 0, .slice none 0 0]) (blk_put (cs := #[.int .u8 17, .int .i64 3, .int .u8 0, .int .u32 0, .bool false, .int .u8 0, .int .u8 0, .slice none 0 0, .slice none 0 0]) (blk_put (cs := #[.int .u8 17, .int .i64 0, .int .u8 0, .int .u32 0, .bool false, .int .u8 0, .int .u8 0, .slice none 0 0, .slice none 0 0]) (blk_put (cs := #[.int .u8 0, .int .i64 0, .int .u8 0, .int .u32 0, .bool false, .int .u8 0, .int .u8 0, .slice none 0 0, .slice none 0 0]) hBX.out 0 (.int .u8 17) rfl) 1 (.int .i64 3) rfl) 2 (.int .u8 c) rfl) 3 (.int .u32 0) rfl) 4 (.bool q) rfl) 5 (.int .u8 0) rfl) 6 (.int .u8 e0) rfl) 7 (.slice A_p3 0 c_p3) rfl) 8 (.slice A_q3 0 c_q3) rfl)
  clear hBX hB1
  clear hc_g3_0 hf_g3_0 hc_g3_1 hf_g3_1 hc_g3_2 hf_g3_2 hc_g3_3 hf_g3_3 hc_g3_4 hf_g3_4 hc_g3_5 hf_g3_5 hc_g3_6 hf_g3_6 hc_g3_7 hf_g3_7 hc_g3_8 hf_g3_8
  generalize (((((((((w12_.setCell ⟨g3, 0, none⟩ (.int .u8 17)).setCell ⟨g3, 1, none⟩ (.int .i64 3)).setCell ⟨g3, 2, none⟩ (.int .u8 c)).setCell ⟨g3, 3, none⟩ (.int .u32 0)).setCell ⟨g3, 4, none⟩ (.bool q)).setCell ⟨g3, 5, none⟩ (.int .u8 0)).setCell ⟨g3, 6, none⟩ (.int .u8 e0)).setCell ⟨g3, 7, none⟩ (.slice A_p3 0 c_p3)).setCell ⟨g3, 8, none⟩ (.slice A_q3 0 c_q3)) = w13_ at hB hBN ⊢
  have NB_g3_g1 := Aside0.mk (show g3 ≠ g1 from Nat.ne_of_gt (Nat.lt_of_lt_of_le (blk_lt (g := g1) (o := .cells #[.int .u8 17, .int .i64 1, .int .u8 0, .int .u32 0, .bool false, .int .u8 0, .int .u8 0, .slice A_p1 0 c_p1, .slice A_q1 0 c_q1] 27 (0, 0)) BK_g1.out) hG.out))
  have NB_g1_g3 := Aside0.mk (Ne.symm NB_g3_g1.out)
  have NB_g3_g2 := Aside0.mk (show g3 ≠ g2 from Nat.ne_of_gt (Nat.lt_of_lt_of_le (blk_lt (g := g2) (o := .cells #[.int .u8 17, .int .i64 2, .int .u8 c, .int .u32 0, .bool false, .int .u8 0, .int .u8 0, .slice A_p2 0 c_p2, .slice A_q2 0 c_q2] 27 (0, 0)) BK_g2.out) hG.out))
  have NB_g2_g3 := Aside0.mk (Ne.symm NB_g3_g2.out)
  have HBo := Aside0.mk HB.out
  have nHB := Aside0.mk (HB.out.trans (hB.mono HB.out.size))
  clear HB
  have HB := nHB
  clear nHB
  clear hc_g1_0 hf_g1_0 hc_g1_1 hf_g1_1 hc_g1_2 hf_g1_2 hc_g1_3 hf_g1_3 hc_g1_4 hf_g1_4 hc_g1_5 hf_g1_5 hc_g1_6 hf_g1_6 hc_g1_7 hf_g1_7 hc_g1_8 hf_g1_8
  have nBK := Aside0.mk (blk_below (g := g1) (o := .cells #[.int .u8 17, .int .i64 1, .int .u8 0, .int .u32 0, .bool false, .int .u8 0, .int .u8 0, .slice A_p1 0 c_p1, .slice A_q1 0 c_q1] 27 (0, 0)) BK_g1.out hB)
  clear BK_g1
  have BK_g1 := nBK
  clear nBK
  have hc_g1_0 : w13_.cell? ⟨g1, 0, none⟩ = some (.int .u8 17) := (blk_cell BK_g1.out 0).trans rfl
  have hf_g1_0 := blk_frozen BK_g1.out 0
  have hc_g1_1 : w13_.cell? ⟨g1, 1, none⟩ = some (.int .i64 1) := (blk_cell BK_g1.out 1).trans rfl
  have hf_g1_1 := blk_frozen BK_g1.out 1
  have hc_g1_2 : w13_.cell? ⟨g1, 2, none⟩ = some (.int .u8 0) := (blk_cell BK_g1.out 2).trans rfl
  have hf_g1_2 := blk_frozen BK_g1.out 2
  have hc_g1_3 : w13_.cell? ⟨g1, 3, none⟩ = some (.int .u32 0) := (blk_cell BK_g1.out 3).trans rfl
  have hf_g1_3 := blk_frozen BK_g1.out 3
  have hc_g1_4 : w13_.cell? ⟨g1, 4, none⟩ = some (.bool false) := (blk_cell BK_g1.out 4).trans rfl
  have hf_g1_4 := blk_frozen BK_g1.out 4
  have hc_g1_5 : w13_.cell? ⟨g1, 5, none⟩ = some (.int .u8 0) := (blk_cell BK_g1.out 5).trans rfl
  have hf_g1_5 := blk_frozen BK_g1.out 5
  have hc_g1_6 : w13_.cell? ⟨g1, 6, none⟩ = some (.int .u8 0) := (blk_cell BK_g1.out 6).trans rfl
  have hf_g1_6 := blk_frozen BK_g1.out 6
  have hc_g1_7 : w13_.cell? ⟨g1, 7, none⟩ = some (.slice A_p1 0 c_p1) := (blk_cell BK_g1.out 7).trans rfl
  have hf_g1_7 := blk_frozen BK_g1.out 7
  have hc_g1_8 : w13_.cell? ⟨g1, 8, none⟩ = some (.slice A_q1 0 c_q1) := (blk_cell BK_g1.out 8).trans rfl
  have hf_g1_8 := blk_frozen BK_g1.out 8
  clear hc_g2_0 hf_g2_0 hc_g2_1 hf_g2_1 hc_g2_2 hf_g2_2 hc_g2_3 hf_g2_3 hc_g2_4 hf_g2_4 hc_g2_5 hf_g2_5 hc_g2_6 hf_g2_6 hc_g2_7 hf_g2_7 hc_g2_8 hf_g2_8
  have nBK := Aside0.mk (blk_below (g := g2) (o := .cells #[.int .u8 17, .int .i64 2, .int .u8 c, .int .u32 0, .bool false, .int .u8 0, .int .u8 0, .slice A_p2 0 c_p2, .slice A_q2 0 c_q2] 27 (0, 0)) BK_g2.out hB)
  clear BK_g2
  have BK_g2 := nBK
  clear nBK
  have hc_g2_0 : w13_.cell? ⟨g2, 0, none⟩ = some (.int .u8 17) := (blk_cell BK_g2.out 0).trans rfl
  have hf_g2_0 := blk_frozen BK_g2.out 0
  have hc_g2_1 : w13_.cell? ⟨g2, 1, none⟩ = some (.int .i64 2) := (blk_cell BK_g2.out 1).trans rfl
  have hf_g2_1 := blk_frozen BK_g2.out 1
  have hc_g2_2 : w13_.cell? ⟨g2, 2, none⟩ = some (.int .u8 c) := (blk_cell BK_g2.out 2).trans rfl
  have hf_g2_2 := blk_frozen BK_g2.out 2
  have hc_g2_3 : w13_.cell? ⟨g2, 3, none⟩ = some (.int .u32 0) := (blk_cell BK_g2.out 3).trans rfl
  have hf_g2_3 := blk_frozen BK_g2.out 3
  have hc_g2_4 : w13_.cell? ⟨g2, 4, none⟩ = some (.bool false) := (blk_cell BK_g2.out 4).trans rfl
  have hf_g2_4 := blk_frozen BK_g2.out 4
  have hc_g2_5 : w13_.cell? ⟨g2, 5, none⟩ = some (.int .u8 0) := (blk_cell BK_g2.out 5).trans rfl
  have hf_g2_5 := blk_frozen BK_g2.out 5
  have hc_g2_6 : w13_.cell? ⟨g2, 6, none⟩ = some (.int .u8 0) := (blk_cell BK_g2.out 6).trans rfl
  have hf_g2_6 := blk_frozen BK_g2.out 6
  have hc_g2_7 : w13_.cell? ⟨g2, 7, none⟩ = some (.slice A_p2 0 c_p2) := (blk_cell BK_g2.out 7).trans rfl
  have hf_g2_7 := blk_frozen BK_g2.out 7
  have hc_g2_8 : w13_.cell? ⟨g2, 8, none⟩ = some (.slice A_q2 0 c_q2) := (blk_cell BK_g2.out 8).trans rfl
  have hf_g2_8 := blk_frozen BK_g2.out 8
  have nHC := Aside0.mk (Kd.R_below HR_x1.out hB)
  clear HR_x1
  have HR_x1 := nHC
  clear nHC
  have nHC := Aside0.mk (Kd.R_below HR_x2.out hB)
  clear HR_x2
  have HR_x2 := nHC
  clear nHC
  have nHC := Aside0.mk (Kd.R_below HR_x3.out hB)
  clear HR_x3
  have HR_x3 := nHC
  clear nHC
  have nHC := Aside0.mk (Kd.C_below HC_p1.out hB)
  clear HC_p1
  have HC_p1 := nHC
  clear nHC
  have nHC := Aside0.mk (Kd.C_below HC_q1.out hB)
  clear HC_q1
  have HC_q1 := nHC
  clear nHC
  have nHC := Aside0.mk (Kd.C_below HC_p2.out hB)
  clear HC_p2
  have HC_p2 := nHC
  clear nHC
  have nHC := Aside0.mk (Kd.C_below HC_q2.out hB)
  clear HC_q2
  have HC_q2 := nHC
  clear nHC
  have nHC := Aside0.mk (Kd.C_below HC_p3.out hB)
  clear HC_p3
  have HC_p3 := nHC
  clear nHC
  have nHC := Aside0.mk (Kd.C_below HC_q3.out hB)
  clear HC_q3
  have HC_q3 := nHC
  clear nHC
  have BK_g3 := Aside0.mk hBN
  have GE_g3 := Aside0.mk (Nat.le_trans HBo.out.size hG.out)
  clear HBo hG hBN hB
  have hc_g3_0 : w13_.cell? ⟨g3, 0, none⟩ = some (.int .u8 17) := (blk_cell BK_g3.out 0).trans rfl
  have hf_g3_0 := blk_frozen BK_g3.out 0
  have hc_g3_1 : w13_.cell? ⟨g3, 1, none⟩ = some (.int .i64 3) := (blk_cell BK_g3.out 1).trans rfl
  have hf_g3_1 := blk_frozen BK_g3.out 1
  have hc_g3_2 : w13_.cell? ⟨g3, 2, none⟩ = some (.int .u8 c) := (blk_cell BK_g3.out 2).trans rfl
  have hf_g3_2 := blk_frozen BK_g3.out 2
  have hc_g3_3 : w13_.cell? ⟨g3, 3, none⟩ = some (.int .u32 0) := (blk_cell BK_g3.out 3).trans rfl
  have hf_g3_3 := blk_frozen BK_g3.out 3
  have hc_g3_4 : w13_.cell? ⟨g3, 4, none⟩ = some (.bool q) := (blk_cell BK_g3.out 4).trans rfl
  have hf_g3_4 := blk_frozen BK_g3.out 4
  have hc_g3_5 : w13_.cell? ⟨g3, 5, none⟩ = some (.int .u8 0) := (blk_cell BK_g3.out 5).trans rfl
  have hf_g3_5 := blk_frozen BK_g3.out 5
  have hc_g3_6 : w13_.cell? ⟨g3, 6, none⟩ = some (.int .u8 e0) := (blk_cell BK_g3.out 6).trans rfl
  have hf_g3_6 := blk_frozen BK_g3.out 6
  have hc_g3_7 : w13_.cell? ⟨g3, 7, none⟩ = some (.slice A_p3 0 c_p3) := (blk_cell BK_g3.out 7).trans rfl
  have hf_g3_7 := blk_frozen BK_g3.out 7
  have hc_g3_8 : w13_.cell? ⟨g3, 8, none⟩ = some (.slice A_q3 0 c_q3) := (blk_cell BK_g3.out 8).trans rfl
  have hf_g3_8 := blk_frozen BK_g3.out 8
  go_wp2
  go_ret
  exact ⟨rfl, HB.out⟩
set_option maxHeartbeats 8000000 in
set_option maxRecDepth 100000 in
theorem versions_none  (q : Bool) {e0 : Int} (he : U8 e0) {x1 x2 x3 : List Int} (hx1 : enc v1 = x1)  (hx3 : enc (v3 0 q e0) = x3) (hb1 : Byt x1) (hl1 : x1.length ≤ 400000) (hd1 : dcm x1 = (v1, 0))  (hb3 : Byt x3) (hl3 : x3.length ≤ 400000) (hd3 : dcm x3 = (v3 0 q e0, 0)) (w : World) : Calls Try.prog 8 #[.int .u8 0, .bool q, .int .u8 e0] w fun e w' => e = .returned (.bool true) ∧ Below w.heap.size w w' := by
  have hu27 := Try.underlying27
  have HB := Aside0.mk (Below.refl w.heap.size w)
  have HC := Aside0.mk (show U8 0 by simp [U8])
  have HE := Aside0.mk he; clear he; have HX1 := Aside0.mk hx1; clear hx1; have HX3 := Aside0.mk hx3; clear hx3; have HB1 := Aside0.mk hb1; clear hb1; have HL1 := Aside0.mk hl1; clear hl1; have HD1 := Aside0.mk hd1; clear hd1; have HB3 := Aside0.mk hb3; clear hb3; have HL3 := Aside0.mk hl3; clear hl3; have HD3 := Aside0.mk hd3; clear hd3
  go_enter Try.func8, Try.ntmps8
  go_upto_region 6 with (first | (go_at_call 11; with_reducible refine (shown_calls _).mono ?_; rintro e w1_ ⟨rfl, hB⟩; have nHB := Aside0.mk (HB.out.trans (hB.mono HB.out.size)); clear HB; have HB := nHB; clear nHB; clear hB) | (go_at_call 13; with_reducible refine (e1_w HX1.out _).mono ?_; rintro e w2_ ⟨v_x1, rfl, hR, hB⟩; obtain ⟨A_x1, c_x1, rfl⟩ := Kd.R_slice hR; have hsz := HB.out.size; have nHB := Aside0.mk (HB.out.trans (hB.mono HB.out.size)); clear HB; have HB := nHB; clear nHB; have HR_x1 := Aside0.mk (Kd.R_mono (Kd.R_lower hR hsz) (fun _ _ => trivial : ∀ k, _ → (fun _ => True) k)); clear hR hsz; clear hB) | (go_at_call 13; with_reducible refine (e2n_w _).mono ?_; rintro e w3_ ⟨rfl, hB⟩; have nHB := Aside0.mk (HB.out.trans (hB.mono HB.out.size)); clear HB; have HB := nHB; clear nHB; have nHC := Aside0.mk (Kd.R_below HR_x1.out hB); clear HR_x1; have HR_x1 := nHC; clear nHC; clear hB) | (go_at_call 13; with_reducible refine (e3_w HC.out q HE.out HX3.out _).mono ?_; rintro e w4_ ⟨v_x3, rfl, hR, hB⟩; obtain ⟨A_x3, c_x3, rfl⟩ := Kd.R_slice hR; have hsz := HB.out.size; have nHB := Aside0.mk (HB.out.trans (hB.mono HB.out.size)); clear HB; have HB := nHB; clear nHB; have nHC := Aside0.mk (Kd.R_below HR_x1.out hB); clear HR_x1; have HR_x1 := nHC; clear nHC; have HR_x3 := Aside0.mk (Kd.R_mono (Kd.R_lower hR hsz) (fun _ _ => trivial : ∀ k, _ → (fun _ => True) k)); clear hR hsz; clear hB) | (go_at_call 20; (with_reducible refine (d1_w HB1.out HL1.out HD1.out _ _ _ (Kd.R_reads' HR_x1.out).2.2 (Kd.R_reads' HR_x1.out).2.1).mono ?_); rintro e w5_ ⟨v_p1, v_q1, rfl, hS, hN, hB⟩; obtain ⟨A_p1, c_p1, rfl⟩ := Kd.R_slice hS; obtain ⟨A_q1, c_q1, rfl⟩ := Kd.N_slice hN; have nHB := Aside0.mk (HB.out.trans (hB.mono HB.out.size)); clear HB; have HB := nHB; clear nHB; have nHC := Aside0.mk (Kd.R_below HR_x1.out hB); clear HR_x1; have HR_x1 := nHC; clear nHC; have nHC := Aside0.mk (Kd.R_below HR_x3.out hB); clear HR_x3; have HR_x3 := nHC; clear nHC; have HC_p1 := Aside0.mk (show Kd.C (Kd.int .u32) w5_ A_p1 0 [] from (Kd.R_reads' hS).2.2); have HK_p1 := Aside0.mk (show 0 ≤ c_p1 from (Kd.R_reads' hS).2.1); have HC_q1 := Aside0.mk (show Kd.C k44 w5_ A_q1 0 [] from (Kd.N_reads' hN).2.2); have HK_q1 := Aside0.mk (show 0 ≤ c_q1 from (Kd.N_reads' hN).2.1); clear hS hN hB) | ((with_reducible refine gate_dst (N := 14) rfl ?_); (try (refine gate_guard (by rfl) ?_; dsimp only)); refine box_event ?hg (N := 14) ?hd (cs := #[.int .u8 0, .int .i64 0, .int .u8 0, .int .u32 0, .bool false, .int .u8 0, .int .u8 0, .slice none 0 0, .slice none 0 0]) (t := 27) ?hr ?_; (case hd => rfl); (case hg => rfl); (case hr => first | (go_simp; done) | (go_simp; rfl)); intro g1 hg w6_ hbox hB0; have hG := Aside0.mk (show w5_.heap.size ≤ g1 from Nat.le_of_eq hg.symm); clear hg; have hBX := Aside0.mk hbox; have hB1 := Aside0.mk hB0; clear hB0; have hc_g1_0 : w6_.cell? ⟨g1, 0, none⟩ = some (.int .u8 0) := (blk_cell hbox 0).trans rfl; have hf_g1_0 := blk_frozen hbox 0; have hc_g1_1 : w6_.cell? ⟨g1, 1, none⟩ = some (.int .i64 0) := (blk_cell hbox 1).trans rfl; have hf_g1_1 := blk_frozen hbox 1; have hc_g1_2 : w6_.cell? ⟨g1, 2, none⟩ = some (.int .u8 0) := (blk_cell hbox 2).trans rfl; have hf_g1_2 := blk_frozen hbox 2; have hc_g1_3 : w6_.cell? ⟨g1, 3, none⟩ = some (.int .u32 0) := (blk_cell hbox 3).trans rfl; have hf_g1_3 := blk_frozen hbox 3; have hc_g1_4 : w6_.cell? ⟨g1, 4, none⟩ = some (.bool false) := (blk_cell hbox 4).trans rfl; have hf_g1_4 := blk_frozen hbox 4; have hc_g1_5 : w6_.cell? ⟨g1, 5, none⟩ = some (.int .u8 0) := (blk_cell hbox 5).trans rfl; have hf_g1_5 := blk_frozen hbox 5; have hc_g1_6 : w6_.cell? ⟨g1, 6, none⟩ = some (.int .u8 0) := (blk_cell hbox 6).trans rfl; have hf_g1_6 := blk_frozen hbox 6; have hc_g1_7 : w6_.cell? ⟨g1, 7, none⟩ = some (.slice none 0 0) := (blk_cell hbox 7).trans rfl; have hf_g1_7 := blk_frozen hbox 7; have hc_g1_8 : w6_.cell? ⟨g1, 8, none⟩ = some (.slice none 0 0) := (blk_cell hbox 8).trans rfl; have hf_g1_8 := blk_frozen hbox 8; clear hbox))
  have hB : Below w5_.heap.size w5_ (((((((((w6_.setCell ⟨g1, 0, none⟩ (.int .u8 17)).setCell ⟨g1, 1, none⟩ (.int .i64 1)).setCell ⟨g1, 2, none⟩ (.int .u8 0)).setCell ⟨g1, 3, none⟩ (.int .u32 0)).setCell ⟨g1, 4, none⟩ (.bool false)).setCell ⟨g1, 5, none⟩ (.int .u8 0)).setCell ⟨g1, 6, none⟩ (.int .u8 0)).setCell ⟨g1, 7, none⟩ (.slice A_p1 0 c_p1)).setCell ⟨g1, 8, none⟩ (.slice A_q1 0 c_q1)) := (below_set (below_set (below_set (below_set (below_set (below_set (below_set (below_set (below_set hB1.out hG.out) hG.out) hG.out) hG.out) hG.out) hG.out) hG.out) hG.out) hG.out)
  have hBN : (((((((((w6_.setCell ⟨g1, 0, none⟩ (.int .u8 17)).setCell ⟨g1, 1, none⟩ (.int .i64 1)).setCell ⟨g1, 2, none⟩ (.int .u8 0)).setCell ⟨g1, 3, none⟩ (.int .u32 0)).setCell ⟨g1, 4, none⟩ (.bool false)).setCell ⟨g1, 5, none⟩ (.int .u8 0)).setCell ⟨g1, 6, none⟩ (.int .u8 0)).setCell ⟨g1, 7, none⟩ (.slice A_p1 0 c_p1)).setCell ⟨g1, 8, none⟩ (.slice A_q1 0 c_q1)).heap[g1]? = some (.cells #[.int .u8 17, .int .i64 1, .int .u8 0, .int .u32 0, .bool false, .int .u8 0, .int .u8 0, .slice A_p1 0 c_p1, .slice A_q1 0 c_q1] 27 (0, 0)) := (blk_put (cs := #[.int .u8 17, .int .i64 1, .int .u8 0, .int .u32 0, .bool false, .int .u8 0, .int .u8 0, .slice A_p1 0 c_p1, .slice none 0 0]) (blk_put (cs := #[.int .u8 17, .int .i64 1, .int .u8 0, .int .u32 0, .bool false, .int .u8 0, .int .u8 0, .slice none 0 0, .slice none 0 0]) (blk_put (cs := #[.int .u8 17, .int .i64 1, .int .u8 0, .int .u32 0, .bool false, .int .u8 0, .int .u8 0, .slice none 0 0, .slice none 0 0]) (blk_put (cs := #[.int .u8 17, .int .i64 1, .int .u8 0, .int .u32 0, .bool false, .int .u8 0, .int .u8 0, .slice none 0 0, .slice none 0 0]) (blk_put (cs := #[.int .u8 17, .int .i64 1, .int .u8 0, .int .u32 0, .bool false, .int .u8 0, .int .u8 0, .slice none 0 0, .slice none 0 0]) (blk_put (cs := #[.int .u8 17, .int .i64 1, .int .u8 0, .int .u32 0, .bool false, .int .u8 0, .int .u8 0, .slice none 0 0, .slice none 0 0]) (blk_put (cs := #[.int .u8 17, .int .i64 1, .int .u8 0, .int .u32 0, .bool false, .int .u8 0, .int .u8 0, .slice none 0 0, .slice none 0 0]) (blk_put (cs := #[.int .u8 17, .int .i64 0, .int .u8 0, .int .u32 0, .bool false, .int .u8 0, .int .u8 0, .slice none 0 0, .slice none 0 0]) (blk_put (cs := #[.int .u8 0, .int .i64 0, .int .u8 0, .int .u32 0, .bool false, .int .u8 0, .int .u8 0, .slice none 0 0, .slice none 0 0]) hBX.out 0 (.int .u8 17) rfl) 1 (.int .i64 1) rfl) 2 (.int .u8 0) rfl) 3 (.int .u32 0) rfl) 4 (.bool false) rfl) 5 (.int .u8 0) rfl) 6 (.int .u8 0) rfl) 7 (.slice A_p1 0 c_p1) rfl) 8 (.slice A_q1 0 c_q1) rfl)
  clear hBX hB1
  clear hc_g1_0 hf_g1_0 hc_g1_1 hf_g1_1 hc_g1_2 hf_g1_2 hc_g1_3 hf_g1_3 hc_g1_4 hf_g1_4 hc_g1_5 hf_g1_5 hc_g1_6 hf_g1_6 hc_g1_7 hf_g1_7 hc_g1_8 hf_g1_8
  generalize (((((((((w6_.setCell ⟨g1, 0, none⟩ (.int .u8 17)).setCell ⟨g1, 1, none⟩ (.int .i64 1)).setCell ⟨g1, 2, none⟩ (.int .u8 0)).setCell ⟨g1, 3, none⟩ (.int .u32 0)).setCell ⟨g1, 4, none⟩ (.bool false)).setCell ⟨g1, 5, none⟩ (.int .u8 0)).setCell ⟨g1, 6, none⟩ (.int .u8 0)).setCell ⟨g1, 7, none⟩ (.slice A_p1 0 c_p1)).setCell ⟨g1, 8, none⟩ (.slice A_q1 0 c_q1)) = w7_ at hB hBN ⊢
  have HBo := Aside0.mk HB.out
  have nHB := Aside0.mk (HB.out.trans (hB.mono HB.out.size))
  clear HB
  have HB := nHB
  clear nHB
  have nHC := Aside0.mk (Kd.R_below HR_x1.out hB)
  clear HR_x1
  have HR_x1 := nHC
  clear nHC
  have nHC := Aside0.mk (Kd.R_below HR_x3.out hB)
  clear HR_x3
  have HR_x3 := nHC
  clear nHC
  have nHC := Aside0.mk (Kd.C_below HC_p1.out hB)
  clear HC_p1
  have HC_p1 := nHC
  clear nHC
  have nHC := Aside0.mk (Kd.C_below HC_q1.out hB)
  clear HC_q1
  have HC_q1 := nHC
  clear nHC
  have BK_g1 := Aside0.mk hBN
  have GE_g1 := Aside0.mk (Nat.le_trans HBo.out.size hG.out)
  clear HBo hG hBN hB
  have hc_g1_0 : w7_.cell? ⟨g1, 0, none⟩ = some (.int .u8 17) := (blk_cell BK_g1.out 0).trans rfl
  have hf_g1_0 := blk_frozen BK_g1.out 0
  have hc_g1_1 : w7_.cell? ⟨g1, 1, none⟩ = some (.int .i64 1) := (blk_cell BK_g1.out 1).trans rfl
  have hf_g1_1 := blk_frozen BK_g1.out 1
  have hc_g1_2 : w7_.cell? ⟨g1, 2, none⟩ = some (.int .u8 0) := (blk_cell BK_g1.out 2).trans rfl
  have hf_g1_2 := blk_frozen BK_g1.out 2
  have hc_g1_3 : w7_.cell? ⟨g1, 3, none⟩ = some (.int .u32 0) := (blk_cell BK_g1.out 3).trans rfl
  have hf_g1_3 := blk_frozen BK_g1.out 3
  have hc_g1_4 : w7_.cell? ⟨g1, 4, none⟩ = some (.bool false) := (blk_cell BK_g1.out 4).trans rfl
  have hf_g1_4 := blk_frozen BK_g1.out 4
  have hc_g1_5 : w7_.cell? ⟨g1, 5, none⟩ = some (.int .u8 0) := (blk_cell BK_g1.out 5).trans rfl
  have hf_g1_5 := blk_frozen BK_g1.out 5
  have hc_g1_6 : w7_.cell? ⟨g1, 6, none⟩ = some (.int .u8 0) := (blk_cell BK_g1.out 6).trans rfl
  have hf_g1_6 := blk_frozen BK_g1.out 6
  have hc_g1_7 : w7_.cell? ⟨g1, 7, none⟩ = some (.slice A_p1 0 c_p1) := (blk_cell BK_g1.out 7).trans rfl
  have hf_g1_7 := blk_frozen BK_g1.out 7
  have hc_g1_8 : w7_.cell? ⟨g1, 8, none⟩ = some (.slice A_q1 0 c_q1) := (blk_cell BK_g1.out 8).trans rfl
  have hf_g1_8 := blk_frozen BK_g1.out 8
  go_upto_region 7 with (first | (go_at_call 20; (with_reducible refine (dnil_w _).mono ?_); rintro e w8_ ⟨v_p2, v_q2, rfl, hS, hN, hB⟩; obtain ⟨A_p2, c_p2, rfl⟩ := Kd.R_slice hS; obtain ⟨A_q2, c_q2, rfl⟩ := Kd.N_slice hN; have nHB := Aside0.mk (HB.out.trans (hB.mono HB.out.size)); clear HB; have HB := nHB; clear nHB; clear hc_g1_0 hf_g1_0 hc_g1_1 hf_g1_1 hc_g1_2 hf_g1_2 hc_g1_3 hf_g1_3 hc_g1_4 hf_g1_4 hc_g1_5 hf_g1_5 hc_g1_6 hf_g1_6 hc_g1_7 hf_g1_7 hc_g1_8 hf_g1_8; have nBK := Aside0.mk (blk_below (g := g1) (o := .cells #[.int .u8 17, .int .i64 1, .int .u8 0, .int .u32 0, .bool false, .int .u8 0, .int .u8 0, .slice A_p1 0 c_p1, .slice A_q1 0 c_q1] 27 (0, 0)) BK_g1.out hB); clear BK_g1; have BK_g1 := nBK; clear nBK; have hc_g1_0 : w8_.cell? ⟨g1, 0, none⟩ = some (.int .u8 17) := (blk_cell BK_g1.out 0).trans rfl; have hf_g1_0 := blk_frozen BK_g1.out 0; have hc_g1_1 : w8_.cell? ⟨g1, 1, none⟩ = some (.int .i64 1) := (blk_cell BK_g1.out 1).trans rfl; have hf_g1_1 := blk_frozen BK_g1.out 1; have hc_g1_2 : w8_.cell? ⟨g1, 2, none⟩ = some (.int .u8 0) := (blk_cell BK_g1.out 2).trans rfl; have hf_g1_2 := blk_frozen BK_g1.out 2; have hc_g1_3 : w8_.cell? ⟨g1, 3, none⟩ = some (.int .u32 0) := (blk_cell BK_g1.out 3).trans rfl; have hf_g1_3 := blk_frozen BK_g1.out 3; have hc_g1_4 : w8_.cell? ⟨g1, 4, none⟩ = some (.bool false) := (blk_cell BK_g1.out 4).trans rfl; have hf_g1_4 := blk_frozen BK_g1.out 4; have hc_g1_5 : w8_.cell? ⟨g1, 5, none⟩ = some (.int .u8 0) := (blk_cell BK_g1.out 5).trans rfl; have hf_g1_5 := blk_frozen BK_g1.out 5; have hc_g1_6 : w8_.cell? ⟨g1, 6, none⟩ = some (.int .u8 0) := (blk_cell BK_g1.out 6).trans rfl; have hf_g1_6 := blk_frozen BK_g1.out 6; have hc_g1_7 : w8_.cell? ⟨g1, 7, none⟩ = some (.slice A_p1 0 c_p1) := (blk_cell BK_g1.out 7).trans rfl; have hf_g1_7 := blk_frozen BK_g1.out 7; have hc_g1_8 : w8_.cell? ⟨g1, 8, none⟩ = some (.slice A_q1 0 c_q1) := (blk_cell BK_g1.out 8).trans rfl; have hf_g1_8 := blk_frozen BK_g1.out 8; have nHC := Aside0.mk (Kd.R_below HR_x1.out hB); clear HR_x1; have HR_x1 := nHC; clear nHC; have nHC := Aside0.mk (Kd.R_below HR_x3.out hB); clear HR_x3; have HR_x3 := nHC; clear nHC; have nHC := Aside0.mk (Kd.C_below HC_p1.out hB); clear HC_p1; have HC_p1 := nHC; clear nHC; have nHC := Aside0.mk (Kd.C_below HC_q1.out hB); clear HC_q1; have HC_q1 := nHC; clear nHC; have HC_p2 := Aside0.mk (show Kd.C (Kd.int .u32) w8_ A_p2 0 [] from (Kd.R_reads' hS).2.2); have HK_p2 := Aside0.mk (show 0 ≤ c_p2 from (Kd.R_reads' hS).2.1); have HC_q2 := Aside0.mk (show Kd.C k44 w8_ A_q2 0 [] from (Kd.N_reads' hN).2.2); have HK_q2 := Aside0.mk (show 0 ≤ c_q2 from (Kd.N_reads' hN).2.1); clear hS hN hB) | ((with_reducible refine gate_dst (N := 16) rfl ?_); (try (refine gate_guard (by rfl) ?_; dsimp only)); refine box_event ?hg (N := 16) ?hd (cs := #[.int .u8 0, .int .i64 0, .int .u8 0, .int .u32 0, .bool false, .int .u8 0, .int .u8 0, .slice none 0 0, .slice none 0 0]) (t := 27) ?hr ?_; (case hd => rfl); (case hg => rfl); (case hr => first | (go_simp; done) | (go_simp; rfl)); intro g2 hg w9_ hbox hB0; have hG := Aside0.mk (show w8_.heap.size ≤ g2 from Nat.le_of_eq hg.symm); clear hg; have hBX := Aside0.mk hbox; have hB1 := Aside0.mk hB0; clear hB0; have hc_g2_0 : w9_.cell? ⟨g2, 0, none⟩ = some (.int .u8 0) := (blk_cell hbox 0).trans rfl; have hf_g2_0 := blk_frozen hbox 0; have hc_g2_1 : w9_.cell? ⟨g2, 1, none⟩ = some (.int .i64 0) := (blk_cell hbox 1).trans rfl; have hf_g2_1 := blk_frozen hbox 1; have hc_g2_2 : w9_.cell? ⟨g2, 2, none⟩ = some (.int .u8 0) := (blk_cell hbox 2).trans rfl; have hf_g2_2 := blk_frozen hbox 2; have hc_g2_3 : w9_.cell? ⟨g2, 3, none⟩ = some (.int .u32 0) := (blk_cell hbox 3).trans rfl; have hf_g2_3 := blk_frozen hbox 3; have hc_g2_4 : w9_.cell? ⟨g2, 4, none⟩ = some (.bool false) := (blk_cell hbox 4).trans rfl; have hf_g2_4 := blk_frozen hbox 4; have hc_g2_5 : w9_.cell? ⟨g2, 5, none⟩ = some (.int .u8 0) := (blk_cell hbox 5).trans rfl; have hf_g2_5 := blk_frozen hbox 5; have hc_g2_6 : w9_.cell? ⟨g2, 6, none⟩ = some (.int .u8 0) := (blk_cell hbox 6).trans rfl; have hf_g2_6 := blk_frozen hbox 6; have hc_g2_7 : w9_.cell? ⟨g2, 7, none⟩ = some (.slice none 0 0) := (blk_cell hbox 7).trans rfl; have hf_g2_7 := blk_frozen hbox 7; have hc_g2_8 : w9_.cell? ⟨g2, 8, none⟩ = some (.slice none 0 0) := (blk_cell hbox 8).trans rfl; have hf_g2_8 := blk_frozen hbox 8; clear hbox))
  have hB : Below w8_.heap.size w8_ (((((((((w9_.setCell ⟨g2, 0, none⟩ (.int .u8 0)).setCell ⟨g2, 1, none⟩ (.int .i64 0)).setCell ⟨g2, 2, none⟩ (.int .u8 0)).setCell ⟨g2, 3, none⟩ (.int .u32 0)).setCell ⟨g2, 4, none⟩ (.bool false)).setCell ⟨g2, 5, none⟩ (.int .u8 0)).setCell ⟨g2, 6, none⟩ (.int .u8 0)).setCell ⟨g2, 7, none⟩ (.slice A_p2 0 c_p2)).setCell ⟨g2, 8, none⟩ (.slice A_q2 0 c_q2)) := (below_set (below_set (below_set (below_set (below_set (below_set (below_set (below_set (below_set hB1.out hG.out) hG.out) hG.out) hG.out) hG.out) hG.out) hG.out) hG.out) hG.out)
  have hBN : (((((((((w9_.setCell ⟨g2, 0, none⟩ (.int .u8 0)).setCell ⟨g2, 1, none⟩ (.int .i64 0)).setCell ⟨g2, 2, none⟩ (.int .u8 0)).setCell ⟨g2, 3, none⟩ (.int .u32 0)).setCell ⟨g2, 4, none⟩ (.bool false)).setCell ⟨g2, 5, none⟩ (.int .u8 0)).setCell ⟨g2, 6, none⟩ (.int .u8 0)).setCell ⟨g2, 7, none⟩ (.slice A_p2 0 c_p2)).setCell ⟨g2, 8, none⟩ (.slice A_q2 0 c_q2)).heap[g2]? = some (.cells #[.int .u8 0, .int .i64 0, .int .u8 0, .int .u32 0, .bool false, .int .u8 0, .int .u8 0, .slice A_p2 0 c_p2, .slice A_q2 0 c_q2] 27 (0, 0)) := (blk_put (cs := #[.int .u8 0, .int .i64 0, .int .u8 0, .int .u32 0, .bool false, .int .u8 0, .int .u8 0, .slice A_p2 0 c_p2, .slice none 0 0]) (blk_put (cs := #[.int .u8 0, .int .i64 0, .int .u8 0, .int .u32 0, .bool false, .int .u8 0, .int .u8 0, .slice none 0 0, .slice none 0 0]) (blk_put (cs := #[.int .u8 0, .int .i64 0, .int .u8 0, .int .u32 0, .bool false, .int .u8 0, .int .u8 0, .slice none 0 0, .slice none 0 0]) (blk_put (cs := #[.int .u8 0, .int .i64 0, .int .u8 0, .int .u32 0, .bool false, .int .u8 0, .int .u8 0, .slice none 0 0, .slice none 0 0]) (blk_put (cs := #[.int .u8 0, .int .i64 0, .int .u8 0, .int .u32 0, .bool false, .int .u8 0, .int .u8 0, .slice none 0 0, .slice none 0 0]) (blk_put (cs := #[.int .u8 0, .int .i64 0, .int .u8 0, .int .u32 0, .bool false, .int .u8 0, .int .u8 0, .slice none 0 0, .slice none 0 0]) (blk_put (cs := #[.int .u8 0, .int .i64 0, .int .u8 0, .int .u32 0, .bool false, .int .u8 0, .int .u8 0, .slice none 0 0, .slice none 0 0]) (blk_put (cs := #[.int .u8 0, .int .i64 0, .int .u8 0, .int .u32 0, .bool false, .int .u8 0, .int .u8 0, .slice none 0 0, .slice none 0 0]) (blk_put (cs := #[.int .u8 0, .int .i64 0, .int .u8 0, .int .u32 0, .bool false, .int .u8 0, .int .u8 0, .slice none 0 0, .slice none 0 0]) hBX.out 0 (.int .u8 0) rfl) 1 (.int .i64 0) rfl) 2 (.int .u8 0) rfl) 3 (.int .u32 0) rfl) 4 (.bool false) rfl) 5 (.int .u8 0) rfl) 6 (.int .u8 0) rfl) 7 (.slice A_p2 0 c_p2) rfl) 8 (.slice A_q2 0 c_q2) rfl)
  clear hBX hB1
  clear hc_g2_0 hf_g2_0 hc_g2_1 hf_g2_1 hc_g2_2 hf_g2_2 hc_g2_3 hf_g2_3 hc_g2_4 hf_g2_4 hc_g2_5 hf_g2_5 hc_g2_6 hf_g2_6 hc_g2_7 hf_g2_7 hc_g2_8 hf_g2_8
  generalize (((((((((w9_.setCell ⟨g2, 0, none⟩ (.int .u8 0)).setCell ⟨g2, 1, none⟩ (.int .i64 0)).setCell ⟨g2, 2, none⟩ (.int .u8 0)).setCell ⟨g2, 3, none⟩ (.int .u32 0)).setCell ⟨g2, 4, none⟩ (.bool false)).setCell ⟨g2, 5, none⟩ (.int .u8 0)).setCell ⟨g2, 6, none⟩ (.int .u8 0)).setCell ⟨g2, 7, none⟩ (.slice A_p2 0 c_p2)).setCell ⟨g2, 8, none⟩ (.slice A_q2 0 c_q2)) = w10_ at hB hBN ⊢
  have NB_g2_g1 := Aside0.mk (show g2 ≠ g1 from Nat.ne_of_gt (Nat.lt_of_lt_of_le (blk_lt (g := g1) (o := .cells #[.int .u8 17, .int .i64 1, .int .u8 0, .int .u32 0, .bool false, .int .u8 0, .int .u8 0, .slice A_p1 0 c_p1, .slice A_q1 0 c_q1] 27 (0, 0)) BK_g1.out) hG.out))
  have NB_g1_g2 := Aside0.mk (Ne.symm NB_g2_g1.out)
  have HBo := Aside0.mk HB.out
  have nHB := Aside0.mk (HB.out.trans (hB.mono HB.out.size))
  clear HB
  have HB := nHB
  clear nHB
  clear hc_g1_0 hf_g1_0 hc_g1_1 hf_g1_1 hc_g1_2 hf_g1_2 hc_g1_3 hf_g1_3 hc_g1_4 hf_g1_4 hc_g1_5 hf_g1_5 hc_g1_6 hf_g1_6 hc_g1_7 hf_g1_7 hc_g1_8 hf_g1_8
  have nBK := Aside0.mk (blk_below (g := g1) (o := .cells #[.int .u8 17, .int .i64 1, .int .u8 0, .int .u32 0, .bool false, .int .u8 0, .int .u8 0, .slice A_p1 0 c_p1, .slice A_q1 0 c_q1] 27 (0, 0)) BK_g1.out hB)
  clear BK_g1
  have BK_g1 := nBK
  clear nBK
  have hc_g1_0 : w10_.cell? ⟨g1, 0, none⟩ = some (.int .u8 17) := (blk_cell BK_g1.out 0).trans rfl
  have hf_g1_0 := blk_frozen BK_g1.out 0
  have hc_g1_1 : w10_.cell? ⟨g1, 1, none⟩ = some (.int .i64 1) := (blk_cell BK_g1.out 1).trans rfl
  have hf_g1_1 := blk_frozen BK_g1.out 1
  have hc_g1_2 : w10_.cell? ⟨g1, 2, none⟩ = some (.int .u8 0) := (blk_cell BK_g1.out 2).trans rfl
  have hf_g1_2 := blk_frozen BK_g1.out 2
  have hc_g1_3 : w10_.cell? ⟨g1, 3, none⟩ = some (.int .u32 0) := (blk_cell BK_g1.out 3).trans rfl
  have hf_g1_3 := blk_frozen BK_g1.out 3
  have hc_g1_4 : w10_.cell? ⟨g1, 4, none⟩ = some (.bool false) := (blk_cell BK_g1.out 4).trans rfl
  have hf_g1_4 := blk_frozen BK_g1.out 4
  have hc_g1_5 : w10_.cell? ⟨g1, 5, none⟩ = some (.int .u8 0) := (blk_cell BK_g1.out 5).trans rfl
  have hf_g1_5 := blk_frozen BK_g1.out 5
  have hc_g1_6 : w10_.cell? ⟨g1, 6, none⟩ = some (.int .u8 0) := (blk_cell BK_g1.out 6).trans rfl
  have hf_g1_6 := blk_frozen BK_g1.out 6
  have hc_g1_7 : w10_.cell? ⟨g1, 7, none⟩ = some (.slice A_p1 0 c_p1) := (blk_cell BK_g1.out 7).trans rfl
  have hf_g1_7 := blk_frozen BK_g1.out 7
  have hc_g1_8 : w10_.cell? ⟨g1, 8, none⟩ = some (.slice A_q1 0 c_q1) := (blk_cell BK_g1.out 8).trans rfl
  have hf_g1_8 := blk_frozen BK_g1.out 8
  have nHC := Aside0.mk (Kd.R_below HR_x1.out hB)
  clear HR_x1
  have HR_x1 := nHC
  clear nHC
  have nHC := Aside0.mk (Kd.R_below HR_x3.out hB)
  clear HR_x3
  have HR_x3 := nHC
  clear nHC
  have nHC := Aside0.mk (Kd.C_below HC_p1.out hB)
  clear HC_p1
  have HC_p1 := nHC
  clear nHC
  have nHC := Aside0.mk (Kd.C_below HC_q1.out hB)
  clear HC_q1
  have HC_q1 := nHC
  clear nHC
  have nHC := Aside0.mk (Kd.C_below HC_p2.out hB)
  clear HC_p2
  have HC_p2 := nHC
  clear nHC
  have nHC := Aside0.mk (Kd.C_below HC_q2.out hB)
  clear HC_q2
  have HC_q2 := nHC
  clear nHC
  have BK_g2 := Aside0.mk hBN
  have GE_g2 := Aside0.mk (Nat.le_trans HBo.out.size hG.out)
  clear HBo hG hBN hB
  have hc_g2_0 : w10_.cell? ⟨g2, 0, none⟩ = some (.int .u8 0) := (blk_cell BK_g2.out 0).trans rfl
  have hf_g2_0 := blk_frozen BK_g2.out 0
  have hc_g2_1 : w10_.cell? ⟨g2, 1, none⟩ = some (.int .i64 0) := (blk_cell BK_g2.out 1).trans rfl
  have hf_g2_1 := blk_frozen BK_g2.out 1
  have hc_g2_2 : w10_.cell? ⟨g2, 2, none⟩ = some (.int .u8 0) := (blk_cell BK_g2.out 2).trans rfl
  have hf_g2_2 := blk_frozen BK_g2.out 2
  have hc_g2_3 : w10_.cell? ⟨g2, 3, none⟩ = some (.int .u32 0) := (blk_cell BK_g2.out 3).trans rfl
  have hf_g2_3 := blk_frozen BK_g2.out 3
  have hc_g2_4 : w10_.cell? ⟨g2, 4, none⟩ = some (.bool false) := (blk_cell BK_g2.out 4).trans rfl
  have hf_g2_4 := blk_frozen BK_g2.out 4
  have hc_g2_5 : w10_.cell? ⟨g2, 5, none⟩ = some (.int .u8 0) := (blk_cell BK_g2.out 5).trans rfl
  have hf_g2_5 := blk_frozen BK_g2.out 5
  have hc_g2_6 : w10_.cell? ⟨g2, 6, none⟩ = some (.int .u8 0) := (blk_cell BK_g2.out 6).trans rfl
  have hf_g2_6 := blk_frozen BK_g2.out 6
  have hc_g2_7 : w10_.cell? ⟨g2, 7, none⟩ = some (.slice A_p2 0 c_p2) := (blk_cell BK_g2.out 7).trans rfl
  have hf_g2_7 := blk_frozen BK_g2.out 7
  have hc_g2_8 : w10_.cell? ⟨g2, 8, none⟩ = some (.slice A_q2 0 c_q2) := (blk_cell BK_g2.out 8).trans rfl
  have hf_g2_8 := blk_frozen BK_g2.out 8
  go_upto_region 8 with (first | (go_at_call 20; (with_reducible refine (d3_w HB3.out HL3.out HD3.out _ _ _ (Kd.R_reads' HR_x3.out).2.2 (Kd.R_reads' HR_x3.out).2.1).mono ?_); rintro e w11_ ⟨v_p3, v_q3, rfl, hS, hN, hB⟩; obtain ⟨A_p3, c_p3, rfl⟩ := Kd.R_slice hS; obtain ⟨A_q3, c_q3, rfl⟩ := Kd.N_slice hN; have nHB := Aside0.mk (HB.out.trans (hB.mono HB.out.size)); clear HB; have HB := nHB; clear nHB; clear hc_g1_0 hf_g1_0 hc_g1_1 hf_g1_1 hc_g1_2 hf_g1_2 hc_g1_3 hf_g1_3 hc_g1_4 hf_g1_4 hc_g1_5 hf_g1_5 hc_g1_6 hf_g1_6 hc_g1_7 hf_g1_7 hc_g1_8 hf_g1_8; have nBK := Aside0.mk (blk_below (g := g1) (o := .cells #[.int .u8 17, .int .i64 1, .int .u8 0, .int .u32 0, .bool false, .int .u8 0, .int .u8 0, .slice A_p1 0 c_p1, .slice A_q1 0 c_q1] 27 (0, 0)) BK_g1.out hB); clear BK_g1; have BK_g1 := nBK; clear nBK; have hc_g1_0 : w11_.cell? ⟨g1, 0, none⟩ = some (.int .u8 17) := (blk_cell BK_g1.out 0).trans rfl; have hf_g1_0 := blk_frozen BK_g1.out 0; have hc_g1_1 : w11_.cell? ⟨g1, 1, none⟩ = some (.int .i64 1) := (blk_cell BK_g1.out 1).trans rfl; have hf_g1_1 := blk_frozen BK_g1.out 1; have hc_g1_2 : w11_.cell? ⟨g1, 2, none⟩ = some (.int .u8 0) := (blk_cell BK_g1.out 2).trans rfl; have hf_g1_2 := blk_frozen BK_g1.out 2; have hc_g1_3 : w11_.cell? ⟨g1, 3, none⟩ = some (.int .u32 0) := (blk_cell BK_g1.out 3).trans rfl; have hf_g1_3 := blk_frozen BK_g1.out 3; have hc_g1_4 : w11_.cell? ⟨g1, 4, none⟩ = some (.bool false) := (blk_cell BK_g1.out 4).trans rfl; have hf_g1_4 := blk_frozen BK_g1.out 4; have hc_g1_5 : w11_.cell? ⟨g1, 5, none⟩ = some (.int .u8 0) := (blk_cell BK_g1.out 5).trans rfl; have hf_g1_5 := blk_frozen BK_g1.out 5; have hc_g1_6 : w11_.cell? ⟨g1, 6, none⟩ = some (.int .u8 0) := (blk_cell BK_g1.out 6).trans rfl; have hf_g1_6 := blk_frozen BK_g1.out 6; have hc_g1_7 : w11_.cell? ⟨g1, 7, none⟩ = some (.slice A_p1 0 c_p1) := (blk_cell BK_g1.out 7).trans rfl; have hf_g1_7 := blk_frozen BK_g1.out 7; have hc_g1_8 : w11_.cell? ⟨g1, 8, none⟩ = some (.slice A_q1 0 c_q1) := (blk_cell BK_g1.out 8).trans rfl; have hf_g1_8 := blk_frozen BK_g1.out 8; clear hc_g2_0 hf_g2_0 hc_g2_1 hf_g2_1 hc_g2_2 hf_g2_2 hc_g2_3 hf_g2_3 hc_g2_4 hf_g2_4 hc_g2_5 hf_g2_5 hc_g2_6 hf_g2_6 hc_g2_7 hf_g2_7 hc_g2_8 hf_g2_8; have nBK := Aside0.mk (blk_below (g := g2) (o := .cells #[.int .u8 0, .int .i64 0, .int .u8 0, .int .u32 0, .bool false, .int .u8 0, .int .u8 0, .slice A_p2 0 c_p2, .slice A_q2 0 c_q2] 27 (0, 0)) BK_g2.out hB); clear BK_g2; have BK_g2 := nBK; clear nBK; have hc_g2_0 : w11_.cell? ⟨g2, 0, none⟩ = some (.int .u8 0) := (blk_cell BK_g2.out 0).trans rfl; have hf_g2_0 := blk_frozen BK_g2.out 0; have hc_g2_1 : w11_.cell? ⟨g2, 1, none⟩ = some (.int .i64 0) := (blk_cell BK_g2.out 1).trans rfl; have hf_g2_1 := blk_frozen BK_g2.out 1; have hc_g2_2 : w11_.cell? ⟨g2, 2, none⟩ = some (.int .u8 0) := (blk_cell BK_g2.out 2).trans rfl; have hf_g2_2 := blk_frozen BK_g2.out 2; have hc_g2_3 : w11_.cell? ⟨g2, 3, none⟩ = some (.int .u32 0) := (blk_cell BK_g2.out 3).trans rfl; have hf_g2_3 := blk_frozen BK_g2.out 3; have hc_g2_4 : w11_.cell? ⟨g2, 4, none⟩ = some (.bool false) := (blk_cell BK_g2.out 4).trans rfl; have hf_g2_4 := blk_frozen BK_g2.out 4; have hc_g2_5 : w11_.cell? ⟨g2, 5, none⟩ = some (.int .u8 0) := (blk_cell BK_g2.out 5).trans rfl; have hf_g2_5 := blk_frozen BK_g2.out 5; have hc_g2_6 : w11_.cell? ⟨g2, 6, none⟩ = some (.int .u8 0) := (blk_cell BK_g2.out 6).trans rfl; have hf_g2_6 := blk_frozen BK_g2.out 6; have hc_g2_7 : w11_.cell? ⟨g2, 7, none⟩ = some (.slice A_p2 0 c_p2) := (blk_cell BK_g2.out 7).trans rfl; have hf_g2_7 := blk_frozen BK_g2.out 7; have hc_g2_8 : w11_.cell? ⟨g2, 8, none⟩ = some (.slice A_q2 0 c_q2) := (blk_cell BK_g2.out 8).trans rfl; have hf_g2_8 := blk_frozen BK_g2.out 8; have nHC := Aside0.mk (Kd.R_below HR_x1.out hB); clear HR_x1; have HR_x1 := nHC; clear nHC; have nHC := Aside0.mk (Kd.R_below HR_x3.out hB); clear HR_x3; have HR_x3 := nHC; clear nHC; have nHC := Aside0.mk (Kd.C_below HC_p1.out hB); clear HC_p1; have HC_p1 := nHC; clear nHC; have nHC := Aside0.mk (Kd.C_below HC_q1.out hB); clear HC_q1; have HC_q1 := nHC; clear nHC; have nHC := Aside0.mk (Kd.C_below HC_p2.out hB); clear HC_p2; have HC_p2 := nHC; clear nHC; have nHC := Aside0.mk (Kd.C_below HC_q2.out hB); clear HC_q2; have HC_q2 := nHC; clear nHC; have HC_p3 := Aside0.mk (show Kd.C (Kd.int .u32) w11_ A_p3 0 [] from (Kd.R_reads' hS).2.2); have HK_p3 := Aside0.mk (show 0 ≤ c_p3 from (Kd.R_reads' hS).2.1); have HC_q3 := Aside0.mk (show Kd.C k44 w11_ A_q3 0 [] from (Kd.N_reads' hN).2.2); have HK_q3 := Aside0.mk (show 0 ≤ c_q3 from (Kd.N_reads' hN).2.1); clear hS hN hB) | ((with_reducible refine gate_dst (N := 18) rfl ?_); (try (refine gate_guard (by rfl) ?_; dsimp only)); refine box_event ?hg (N := 18) ?hd (cs := #[.int .u8 0, .int .i64 0, .int .u8 0, .int .u32 0, .bool false, .int .u8 0, .int .u8 0, .slice none 0 0, .slice none 0 0]) (t := 27) ?hr ?_; (case hd => rfl); (case hg => rfl); (case hr => first | (go_simp; done) | (go_simp; rfl)); intro g3 hg w12_ hbox hB0; have hG := Aside0.mk (show w11_.heap.size ≤ g3 from Nat.le_of_eq hg.symm); clear hg; have hBX := Aside0.mk hbox; have hB1 := Aside0.mk hB0; clear hB0; have hc_g3_0 : w12_.cell? ⟨g3, 0, none⟩ = some (.int .u8 0) := (blk_cell hbox 0).trans rfl; have hf_g3_0 := blk_frozen hbox 0; have hc_g3_1 : w12_.cell? ⟨g3, 1, none⟩ = some (.int .i64 0) := (blk_cell hbox 1).trans rfl; have hf_g3_1 := blk_frozen hbox 1; have hc_g3_2 : w12_.cell? ⟨g3, 2, none⟩ = some (.int .u8 0) := (blk_cell hbox 2).trans rfl; have hf_g3_2 := blk_frozen hbox 2; have hc_g3_3 : w12_.cell? ⟨g3, 3, none⟩ = some (.int .u32 0) := (blk_cell hbox 3).trans rfl; have hf_g3_3 := blk_frozen hbox 3; have hc_g3_4 : w12_.cell? ⟨g3, 4, none⟩ = some (.bool false) := (blk_cell hbox 4).trans rfl; have hf_g3_4 := blk_frozen hbox 4; have hc_g3_5 : w12_.cell? ⟨g3, 5, none⟩ = some (.int .u8 0) := (blk_cell hbox 5).trans rfl; have hf_g3_5 := blk_frozen hbox 5; have hc_g3_6 : w12_.cell? ⟨g3, 6, none⟩ = some (.int .u8 0) := (blk_cell hbox 6).trans rfl; have hf_g3_6 := blk_frozen hbox 6; have hc_g3_7 : w12_.cell? ⟨g3, 7, none⟩ = some (.slice none 0 0) := (blk_cell hbox 7).trans rfl; have hf_g3_7 := blk_frozen hbox 7; have hc_g3_8 : w12_.cell? ⟨g3, 8, none⟩ = some (.slice none 0 0) := (blk_cell hbox 8).trans rfl; have hf_g3_8 := blk_frozen hbox 8; clear hbox))
  have hB : Below w11_.heap.size w11_ (((((((((w12_.setCell ⟨g3, 0, none⟩ (.int .u8 17)).setCell ⟨g3, 1, none⟩ (.int .i64 3)).setCell ⟨g3, 2, none⟩ (.int .u8 0)).setCell ⟨g3, 3, none⟩ (.int .u32 0)).setCell ⟨g3, 4, none⟩ (.bool q)).setCell ⟨g3, 5, none⟩ (.int .u8 0)).setCell ⟨g3, 6, none⟩ (.int .u8 e0)).setCell ⟨g3, 7, none⟩ (.slice A_p3 0 c_p3)).setCell ⟨g3, 8, none⟩ (.slice A_q3 0 c_q3)) := (below_set (below_set (below_set (below_set (below_set (below_set (below_set (below_set (below_set hB1.out hG.out) hG.out) hG.out) hG.out) hG.out) hG.out) hG.out) hG.out) hG.out)
  have hBN : (((((((((w12_.setCell ⟨g3, 0, none⟩ (.int .u8 17)).setCell ⟨g3, 1, none⟩ (.int .i64 3)).setCell ⟨g3, 2, none⟩ (.int .u8 0)).setCell ⟨g3, 3, none⟩ (.int .u32 0)).setCell ⟨g3, 4, none⟩ (.bool q)).setCell ⟨g3, 5, none⟩ (.int .u8 0)).setCell ⟨g3, 6, none⟩ (.int .u8 e0)).setCell ⟨g3, 7, none⟩ (.slice A_p3 0 c_p3)).setCell ⟨g3, 8, none⟩ (.slice A_q3 0 c_q3)).heap[g3]? = some (.cells #[.int .u8 17, .int .i64 3, .int .u8 0, .int .u32 0, .bool q, .int .u8 0, .int .u8 e0, .slice A_p3 0 c_p3, .slice A_q3 0 c_q3] 27 (0, 0)) := (blk_put (cs := #[.int .u8 17, .int .i64 3, .int .u8 0, .int .u32 0, .bool q, .int .u8 0, .int .u8 e0, .slice A_p3 0 c_p3, .slice none 0 0]) (blk_put (cs := #[.int .u8 17, .int .i64 3, .int .u8 0, .int .u32 0, .bool q, .int .u8 0, .int .u8 e0, .slice none 0 0, .slice none 0 0]) (blk_put (cs := #[.int .u8 17, .int .i64 3, .int .u8 0, .int .u32 0, .bool q, .int .u8 0, .int .u8 0, .slice none 0 0, .slice none 0 0]) (blk_put (cs := #[.int .u8 17, .int .i64 3, .int .u8 0, .int .u32 0, .bool q, .int .u8 0, .int .u8 0, .slice none 0 0, .slice none 0 0]) (blk_put (cs := #[.int .u8 17, .int .i64 3, .int .u8 0, .int .u32 0, .bool false, .int .u8 0, .int .u8 0, .slice none 0 0, .slice none 0 0]) (blk_put (cs := #[.int .u8 17, .int .i64 3, .int .u8 0, .int .u32 0, .bool false, .int .u8 0, .int .u8 0, .slice none 0 0, .slice none 0 0]) (blk_put (cs := #[.int .u8 17, .int .i64 3, .int .u8 0, .int .u32 0, .bool false, .int .u8 0, .int .u8 0, .slice none 0 0, .slice none 0 0]) (blk_put (cs := #[.int .u8 17, .int .i64 0, .int .u8 0, .int .u32 0, .bool false, .int .u8 0, .int .u8 0, .slice none 0 0, .slice none 0 0]) (blk_put (cs := #[.int .u8 0, .int .i64 0, .int .u8 0, .int .u32 0, .bool false, .int .u8 0, .int .u8 0, .slice none 0 0, .slice none 0 0]) hBX.out 0 (.int .u8 17) rfl) 1 (.int .i64 3) rfl) 2 (.int .u8 0) rfl) 3 (.int .u32 0) rfl) 4 (.bool q) rfl) 5 (.int .u8 0) rfl) 6 (.int .u8 e0) rfl) 7 (.slice A_p3 0 c_p3) rfl) 8 (.slice A_q3 0 c_q3) rfl)
  clear hBX hB1
  clear hc_g3_0 hf_g3_0 hc_g3_1 hf_g3_1 hc_g3_2 hf_g3_2 hc_g3_3 hf_g3_3 hc_g3_4 hf_g3_4 hc_g3_5 hf_g3_5 hc_g3_6 hf_g3_6 hc_g3_7 hf_g3_7 hc_g3_8 hf_g3_8
  generalize (((((((((w12_.setCell ⟨g3, 0, none⟩ (.int .u8 17)).setCell ⟨g3, 1, none⟩ (.int .i64 3)).setCell ⟨g3, 2, none⟩ (.int .u8 0)).setCell ⟨g3, 3, none⟩ (.int .u32 0)).setCell ⟨g3, 4, none⟩ (.bool q)).setCell ⟨g3, 5, none⟩ (.int .u8 0)).setCell ⟨g3, 6, none⟩ (.int .u8 e0)).setCell ⟨g3, 7, none⟩ (.slice A_p3 0 c_p3)).setCell ⟨g3, 8, none⟩ (.slice A_q3 0 c_q3)) = w13_ at hB hBN ⊢
  have NB_g3_g1 := Aside0.mk (show g3 ≠ g1 from Nat.ne_of_gt (Nat.lt_of_lt_of_le (blk_lt (g := g1) (o := .cells #[.int .u8 17, .int .i64 1, .int .u8 0, .int .u32 0, .bool false, .int .u8 0, .int .u8 0, .slice A_p1 0 c_p1, .slice A_q1 0 c_q1] 27 (0, 0)) BK_g1.out) hG.out))
  have NB_g1_g3 := Aside0.mk (Ne.symm NB_g3_g1.out)
  have NB_g3_g2 := Aside0.mk (show g3 ≠ g2 from Nat.ne_of_gt (Nat.lt_of_lt_of_le (blk_lt (g := g2) (o := .cells #[.int .u8 0, .int .i64 0, .int .u8 0, .int .u32 0, .bool false, .int .u8 0, .int .u8 0, .slice A_p2 0 c_p2, .slice A_q2 0 c_q2] 27 (0, 0)) BK_g2.out) hG.out))
  have NB_g2_g3 := Aside0.mk (Ne.symm NB_g3_g2.out)
  have HBo := Aside0.mk HB.out
  have nHB := Aside0.mk (HB.out.trans (hB.mono HB.out.size))
  clear HB
  have HB := nHB
  clear nHB
  clear hc_g1_0 hf_g1_0 hc_g1_1 hf_g1_1 hc_g1_2 hf_g1_2 hc_g1_3 hf_g1_3 hc_g1_4 hf_g1_4 hc_g1_5 hf_g1_5 hc_g1_6 hf_g1_6 hc_g1_7 hf_g1_7 hc_g1_8 hf_g1_8
  have nBK := Aside0.mk (blk_below (g := g1) (o := .cells #[.int .u8 17, .int .i64 1, .int .u8 0, .int .u32 0, .bool false, .int .u8 0, .int .u8 0, .slice A_p1 0 c_p1, .slice A_q1 0 c_q1] 27 (0, 0)) BK_g1.out hB)
  clear BK_g1
  have BK_g1 := nBK
  clear nBK
  have hc_g1_0 : w13_.cell? ⟨g1, 0, none⟩ = some (.int .u8 17) := (blk_cell BK_g1.out 0).trans rfl
  have hf_g1_0 := blk_frozen BK_g1.out 0
  have hc_g1_1 : w13_.cell? ⟨g1, 1, none⟩ = some (.int .i64 1) := (blk_cell BK_g1.out 1).trans rfl
  have hf_g1_1 := blk_frozen BK_g1.out 1
  have hc_g1_2 : w13_.cell? ⟨g1, 2, none⟩ = some (.int .u8 0) := (blk_cell BK_g1.out 2).trans rfl
  have hf_g1_2 := blk_frozen BK_g1.out 2
  have hc_g1_3 : w13_.cell? ⟨g1, 3, none⟩ = some (.int .u32 0) := (blk_cell BK_g1.out 3).trans rfl
  have hf_g1_3 := blk_frozen BK_g1.out 3
  have hc_g1_4 : w13_.cell? ⟨g1, 4, none⟩ = some (.bool false) := (blk_cell BK_g1.out 4).trans rfl
  have hf_g1_4 := blk_frozen BK_g1.out 4
  have hc_g1_5 : w13_.cell? ⟨g1, 5, none⟩ = some (.int .u8 0) := (blk_cell BK_g1.out 5).trans rfl
  have hf_g1_5 := blk_frozen BK_g1.out 5
  have hc_g1_6 : w13_.cell? ⟨g1, 6, none⟩ = some (.int .u8 0) := (blk_cell BK_g1.out 6).trans rfl
  have hf_g1_6 := blk_frozen BK_g1.out 6
  have hc_g1_7 : w13_.cell? ⟨g1, 7, none⟩ = some (.slice A_p1 0 c_p1) := (blk_cell BK_g1.out 7).trans rfl
  have hf_g1_7 := blk_frozen BK_g1.out 7
  have hc_g1_8 : w13_.cell? ⟨g1, 8, none⟩ = some (.slice A_q1 0 c_q1) := (blk_cell BK_g1.out 8).trans rfl
  have hf_g1_8 := blk_frozen BK_g1.out 8
  clear hc_g2_0 hf_g2_0 hc_g2_1 hf_g2_1 hc_g2_2 hf_g2_2 hc_g2_3 hf_g2_3 hc_g2_4 hf_g2_4 hc_g2_5 hf_g2_5 hc_g2_6 hf_g2_6 hc_g2_7 hf_g2_7 hc_g2_8 hf_g2_8
  have nBK := Aside0.mk (blk_below (g := g2) (o := .cells #[.int .u8 0, .int .i64 0, .int .u8 0, .int .u32 0, .bool false, .int .u8 0, .int .u8 0, .slice A_p2 0 c_p2, .slice A_q2 0 c_q2] 27 (0, 0)) BK_g2.out hB)
  clear BK_g2
  have BK_g2 := nBK
  clear nBK
  have hc_g2_0 : w13_.cell? ⟨g2, 0, none⟩ = some (.int .u8 0) := (blk_cell BK_g2.out 0).trans rfl
  have hf_g2_0 := blk_frozen BK_g2.out 0
  have hc_g2_1 : w13_.cell? ⟨g2, 1, none⟩ = some (.int .i64 0) := (blk_cell BK_g2.out 1).trans rfl
  have hf_g2_1 := blk_frozen BK_g2.out 1
  have hc_g2_2 : w13_.cell? ⟨g2, 2, none⟩ = some (.int .u8 0) := (blk_cell BK_g2.out 2).trans rfl
  have hf_g2_2 := blk_frozen BK_g2.out 2
  have hc_g2_3 : w13_.cell? ⟨g2, 3, none⟩ = some (.int .u32 0) := (blk_cell BK_g2.out 3).trans rfl
  have hf_g2_3 := blk_frozen BK_g2.out 3
  have hc_g2_4 : w13_.cell? ⟨g2, 4, none⟩ = some (.bool false) := (blk_cell BK_g2.out 4).trans rfl
  have hf_g2_4 := blk_frozen BK_g2.out 4
  have hc_g2_5 : w13_.cell? ⟨g2, 5, none⟩ = some (.int .u8 0) := (blk_cell BK_g2.out 5).trans rfl
  have hf_g2_5 := blk_frozen BK_g2.out 5
  have hc_g2_6 : w13_.cell? ⟨g2, 6, none⟩ = some (.int .u8 0) := (blk_cell BK_g2.out 6).trans rfl
  have hf_g2_6 := blk_frozen BK_g2.out 6
  have hc_g2_7 : w13_.cell? ⟨g2, 7, none⟩ = some (.slice A_p2 0 c_p2) := (blk_cell BK_g2.out 7).trans rfl
  have hf_g2_7 := blk_frozen BK_g2.out 7
  have hc_g2_8 : w13_.cell? ⟨g2, 8, none⟩ = some (.slice A_q2 0 c_q2) := (blk_cell BK_g2.out 8).trans rfl
  have hf_g2_8 := blk_frozen BK_g2.out 8
  have nHC := Aside0.mk (Kd.R_below HR_x1.out hB)
  clear HR_x1
  have HR_x1 := nHC
  clear nHC
  have nHC := Aside0.mk (Kd.R_below HR_x3.out hB)
  clear HR_x3
  have HR_x3 := nHC
  clear nHC
  have nHC := Aside0.mk (Kd.C_below HC_p1.out hB)
  clear HC_p1
  have HC_p1 := nHC
  clear nHC
  have nHC := Aside0.mk (Kd.C_below HC_q1.out hB)
  clear HC_q1
  have HC_q1 := nHC
  clear nHC
  have nHC := Aside0.mk (Kd.C_below HC_p2.out hB)
  clear HC_p2
  have HC_p2 := nHC
  clear nHC
  have nHC := Aside0.mk (Kd.C_below HC_q2.out hB)
  clear HC_q2
  have HC_q2 := nHC
  clear nHC
  have nHC := Aside0.mk (Kd.C_below HC_p3.out hB)
  clear HC_p3
  have HC_p3 := nHC
  clear nHC
  have nHC := Aside0.mk (Kd.C_below HC_q3.out hB)
  clear HC_q3
  have HC_q3 := nHC
  clear nHC
  have BK_g3 := Aside0.mk hBN
  have GE_g3 := Aside0.mk (Nat.le_trans HBo.out.size hG.out)
  clear HBo hG hBN hB
  have hc_g3_0 : w13_.cell? ⟨g3, 0, none⟩ = some (.int .u8 17) := (blk_cell BK_g3.out 0).trans rfl
  have hf_g3_0 := blk_frozen BK_g3.out 0
  have hc_g3_1 : w13_.cell? ⟨g3, 1, none⟩ = some (.int .i64 3) := (blk_cell BK_g3.out 1).trans rfl
  have hf_g3_1 := blk_frozen BK_g3.out 1
  have hc_g3_2 : w13_.cell? ⟨g3, 2, none⟩ = some (.int .u8 0) := (blk_cell BK_g3.out 2).trans rfl
  have hf_g3_2 := blk_frozen BK_g3.out 2
  have hc_g3_3 : w13_.cell? ⟨g3, 3, none⟩ = some (.int .u32 0) := (blk_cell BK_g3.out 3).trans rfl
  have hf_g3_3 := blk_frozen BK_g3.out 3
  have hc_g3_4 : w13_.cell? ⟨g3, 4, none⟩ = some (.bool q) := (blk_cell BK_g3.out 4).trans rfl
  have hf_g3_4 := blk_frozen BK_g3.out 4
  have hc_g3_5 : w13_.cell? ⟨g3, 5, none⟩ = some (.int .u8 0) := (blk_cell BK_g3.out 5).trans rfl
  have hf_g3_5 := blk_frozen BK_g3.out 5
  have hc_g3_6 : w13_.cell? ⟨g3, 6, none⟩ = some (.int .u8 e0) := (blk_cell BK_g3.out 6).trans rfl
  have hf_g3_6 := blk_frozen BK_g3.out 6
  have hc_g3_7 : w13_.cell? ⟨g3, 7, none⟩ = some (.slice A_p3 0 c_p3) := (blk_cell BK_g3.out 7).trans rfl
  have hf_g3_7 := blk_frozen BK_g3.out 7
  have hc_g3_8 : w13_.cell? ⟨g3, 8, none⟩ = some (.slice A_q3 0 c_q3) := (blk_cell BK_g3.out 8).trans rfl
  have hf_g3_8 := blk_frozen BK_g3.out 8
  go_wp2
  go_ret
  exact ⟨rfl, HB.out⟩
theorem igmpVersions_call {c : Int} (hc : U8 c) (q : Bool) {e0 : Int} (he : U8 e0) (w : World) : Calls Try.prog 8 #[.int .u8 c, .bool q, .int .u8 e0] w fun e w' => e = .returned (.bool true) ∧ Below w.heap.size w w' := by
  have hlen : ∀ {m : Msg}, rightB m = true → (enc m).length ≤ 400000 := fun hr => by rw [enc_len]; have := mb_max (right_view hr); omega
  by_cases h : 0 < c
  · exact versions_some h (by simp; omega) (decide_eq_true h) hc q he rfl rfl rfl (enc_byt v1_ok) (hlen v1_right) (dcm_enc v1_ok v1_right) (enc_byt (v2_ok hc)) (hlen (v2_right h)) (dcm_enc (v2_ok hc) (v2_right h)) (enc_byt (v3_ok hc q he)) (hlen (v3_right c q e0)) (dcm_enc (v3_ok hc q he) (v3_right c q e0)) w
  · obtain rfl : c = 0 := by have := hc.1; omega
    exact versions_none (x2 := []) q he rfl rfl (enc_byt v1_ok) (hlen v1_right) (dcm_enc v1_ok v1_right) (enc_byt (v3_ok hc q he)) (hlen (v3_right 0 q e0)) (dcm_enc (v3_ok hc q he) (v3_right 0 q e0)) w
end Go.Proofs.Ytmmjmncchckbbaa
