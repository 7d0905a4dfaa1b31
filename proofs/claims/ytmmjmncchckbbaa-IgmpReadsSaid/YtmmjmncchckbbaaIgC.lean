/-
  The example at the head of all statements is so.
-/
import Derived.Test.YtmmjmncchckbbaaIgD
import Derived.Test.YtmmjmncchckbbaaIgX
namespace Go.Proofs.Ytmmjmncchckbbaa
open Go.RowKit Go.Proofs.YtmmjmncchckbbaaW.PrintWords Go.Proofs.YtmmjmncchckbbaaW.PrintLast Go.Proofs.YtmmjmncchckbbaaW.PrintMore Go.Proofs.Ytmmjmncchckbbaa.PIg
set_option linter.unusedVariables false
set_option linter.unusedSimpArgs false
theorem wf_u8 {x : Int} (h : (Lit.int .u8 x).wf = true) : 0 ≤ x ∧ x < 256 := by
  simp [Lit.wf, IntKind.min, IntKind.max, IntKind.bits, IntKind.signed] at h
  omega
theorem drawn_below {w w' : World} (h : Drawn0 w w') : Below w.heap.size w w' := by
  obtain ⟨n, rfl⟩ := h
  exact pw_below_drewN (Below.refl _ _) n
theorem same1_w {k : Nat} {a b : List Int} {r : Bool} (h : stolonref01_Same.f k a b = some r) (A : Option Addr) (c : Nat) (B : Option Addr) (d : Nat) (w : World) (hr : Kd.C (Kd.int .u8) w A a.length a) (hc : a.length ≤ c) (hs : Kd.C (Kd.int .u8) w B b.length b) (hd : b.length ≤ d) :
    Calls Try.prog 17 #[.slice A a.length c, .slice B b.length d] w fun e w' => e = .returned (.bool r) ∧ Below w.heap.size w w' :=
  (stolonref01_Same.calls k A c a B d b r w hr hc hs hd h).mono fun _ _ h => ⟨h.1, drawn_below h.2⟩
/-- The document's example, and its bytes. -/
def m22 : Msg := ⟨22, 0, 0, 4009820675, false, 0, 0, [], []⟩
def b22 : List Int := [22, 0, 248, 250, 239, 1, 2, 3]
theorem right22 : igmp_Right.f 3 22 0 0 4009820675 false 0 0 [] [] = some true := right_some (K := 3) m22 (by decide) (by simp [m22]) (by decide) (by decide)
theorem enc22 {A_s : Option Addr} {c_s : Nat} {A_r : Option Addr} {c_r : Nat} (w : World) : Calls Try.prog 13 #[.agg #[.int .u8 22, .int .i64 0, .int .u8 0, .int .u32 4009820675, .bool false, .int .u8 0, .int .u8 0, .slice none 0 0, .slice none 0 0]] w fun e w' => ∃ v, e = .returned (.tuple #[v, .int .i64 0]) ∧ Kd.R (Kd.int .u8) 5 w' w.heap.size (fun _ => True) v b22 ∧ Below w.heap.size w w' :=
  encode_yes (srcs := []) (recs := []) right22 (by decide) (by decide) (by simp) (by simp) none 0 none 0 w (Kd.C_nil _ _) (Nat.le_refl _) (Kd.C_nil _ _) (Nat.le_refl _)
theorem dec22 (A : Option Addr) (c : Nat) (w : World) (hr : Kd.C (Kd.int .u8) w A b22.length b22) (hc : b22.length ≤ c) : Calls Try.prog 20 #[.slice A b22.length c] w fun e w' => ∃ vS vR, e = .returned (.tuple #[.agg #[.int .u8 22, .int .i64 0, .int .u8 0, .int .u32 4009820675, .bool false, .int .u8 0, .int .u8 0, vS, vR], .int .i64 0]) ∧ Kd.R (Kd.int .u32) 23 w' w.heap.size (fun _ => True) vS [] ∧ Kd.N k44 44 w' w.heap.size (fun _ => True) vR [] ∧ Below w.heap.size w w' :=
  dec_right (K := 3) (l := b22) (fid := 42) (j := 2) (rest := []) (m := m22) (by decide) (by kernel_rfl) Try.func42 (by kernel_rfl) (by kernel_rfl) (fun _ => rfl) (plain_reads 22 0 (bs := b22.drop 4) (by intro z hz; simp only [b22, List.drop, List.mem_cons, List.not_mem_nil, or_false] at hz; omega)) rfl right22 A c w hr hc
set_option maxHeartbeats 8000000 in
set_option maxRecDepth 100000 in
theorem shown_calls (w : World) : Calls Try.prog 11 #[] w fun e w' => e = .returned (.bool true) ∧ Below w.heap.size w w' := by
  have hu27 := Try.underlying27
  have HB := Aside0.mk (Below.refl w.heap.size w)
  obtain ⟨b, hb⟩ : ∃ t, t = b22 := ⟨_, rfl⟩
  have ENC := Aside0.mk (fun w => enc22 (A_s := none) (c_s := 0) (A_r := none) (c_r := 0) w)
  have DEC := Aside0.mk dec22
  have SAME := Aside0.mk (show stolonref01_Same.f 20 b22 b22 = some true by kernel_rfl)
  rw [← hb] at ENC DEC SAME
  have HBQ := Aside0.mk hb
  clear hb
  have RIG := Aside0.mk (show ∀ (A_s : Option Addr) (c_s : Nat) (A_r : Option Addr) (c_r : Nat) (w : World), Kd.C (Kd.int .u32) w A_s 0 [] → 0 ≤ c_s → Kd.C k44 w A_r 0 [] → 0 ≤ c_r → Calls Try.prog 15 #[.agg #[.int .u8 22, .int .i64 0, .int .u8 0, .int .u32 4009820675, .bool false, .int .u8 0, .int .u8 0, .slice A_s 0 c_s, .slice A_r 0 c_r]] w fun e w' => e = .returned (.bool true) ∧ Below w.heap.size w w' from fun A_s c_s A_r c_r w h1 h2 h3 h4 => right_w right22 A_s c_s A_r c_r w h1 h2 h3 h4)
  go_enter Try.func11, Try.ntmps11
  go_upto_region 3 with (first | (go_at_call 13; with_reducible refine (ENC.out _).mono ?_; rintro e w1_ ⟨v_b, rfl, hR, hB⟩; obtain ⟨A_b, c_b, rfl⟩ := Kd.R_slice hR; have hsz := HB.out.size; have nHB := Aside0.mk (HB.out.trans (hB.mono HB.out.size)); clear HB; have HB := nHB; clear nHB; have HR_b := Aside0.mk (Kd.R_mono (Kd.R_lower hR hsz) (fun _ _ => trivial : ∀ k, _ → (fun _ => True) k)); clear hR hsz; clear hB) | (go_at_call 20; (with_reducible refine (DEC.out _ _ _ (Kd.R_reads' HR_b.out).2.2 (Kd.R_reads' HR_b.out).2.1).mono ?_); rintro e w2_ ⟨v_s, v_r, rfl, hS, hN, hB⟩; obtain ⟨A_s, c_s, rfl⟩ := Kd.R_slice hS; obtain ⟨A_r, c_r, rfl⟩ := Kd.N_slice hN; have nHB := Aside0.mk (HB.out.trans (hB.mono HB.out.size)); clear HB; have HB := nHB; clear nHB; have nHC := Aside0.mk (Kd.R_below HR_b.out hB); clear HR_b; have HR_b := nHC; clear nHC; have HC_s := Aside0.mk (show Kd.C (Kd.int .u32) w2_ A_s 0 [] from (Kd.R_reads' hS).2.2); have HK_s := Aside0.mk (show 0 ≤ c_s from (Kd.R_reads' hS).2.1); have HC_r := Aside0.mk (show Kd.C k44 w2_ A_r 0 [] from (Kd.N_reads' hN).2.2); have HK_r := Aside0.mk (show 0 ≤ c_r from (Kd.N_reads' hN).2.1); clear hS hN hB) | ((with_reducible refine gate_dst (N := 3) rfl ?_); (try (refine gate_guard (by rfl) ?_; dsimp only)); refine box_event ?hg (N := 3) ?hd (cs := #[.int .u8 0, .int .i64 0, .int .u8 0, .int .u32 0, .bool false, .int .u8 0, .int .u8 0, .slice none 0 0, .slice none 0 0]) (t := 27) ?hr ?_; (case hd => rfl); (case hg => rfl); (case hr => first | (go_simp; done) | (go_simp; rfl)); intro gm hg w3_ hbox hB0; have hG := Aside0.mk (show w2_.heap.size ≤ gm from Nat.le_of_eq hg.symm); clear hg; have hBX := Aside0.mk hbox; have hB1 := Aside0.mk hB0; clear hB0; have hc_gm_0 : w3_.cell? ⟨gm, 0, none⟩ = some (.int .u8 0) := (blk_cell hbox 0).trans rfl; have hf_gm_0 := blk_frozen hbox 0; have hc_gm_1 : w3_.cell? ⟨gm, 1, none⟩ = some (.int .i64 0) := (blk_cell hbox 1).trans rfl; have hf_gm_1 := blk_frozen hbox 1; have hc_gm_2 : w3_.cell? ⟨gm, 2, none⟩ = some (.int .u8 0) := (blk_cell hbox 2).trans rfl; have hf_gm_2 := blk_frozen hbox 2; have hc_gm_3 : w3_.cell? ⟨gm, 3, none⟩ = some (.int .u32 0) := (blk_cell hbox 3).trans rfl; have hf_gm_3 := blk_frozen hbox 3; have hc_gm_4 : w3_.cell? ⟨gm, 4, none⟩ = some (.bool false) := (blk_cell hbox 4).trans rfl; have hf_gm_4 := blk_frozen hbox 4; have hc_gm_5 : w3_.cell? ⟨gm, 5, none⟩ = some (.int .u8 0) := (blk_cell hbox 5).trans rfl; have hf_gm_5 := blk_frozen hbox 5; have hc_gm_6 : w3_.cell? ⟨gm, 6, none⟩ = some (.int .u8 0) := (blk_cell hbox 6).trans rfl; have hf_gm_6 := blk_frozen hbox 6; have hc_gm_7 : w3_.cell? ⟨gm, 7, none⟩ = some (.slice none 0 0) := (blk_cell hbox 7).trans rfl; have hf_gm_7 := blk_frozen hbox 7; have hc_gm_8 : w3_.cell? ⟨gm, 8, none⟩ = some (.slice none 0 0) := (blk_cell hbox 8).trans rfl; have hf_gm_8 := blk_frozen hbox 8; clear hbox))
  have hB : Below w2_.heap.size w2_ (((((((((w3_.setCell ⟨gm, 0, none⟩ (.int .u8 22)).setCell ⟨gm, 1, none⟩ (.int .i64 0)).setCell ⟨gm, 2, none⟩ (.int .u8 0)).setCell ⟨gm, 3, none⟩ (.int .u32 4009820675)).setCell ⟨gm, 4, none⟩ (.bool false)).setCell ⟨gm, 5, none⟩ (.int .u8 0)).setCell ⟨gm, 6, none⟩ (.int .u8 0)).setCell ⟨gm, 7, none⟩ (.slice A_s 0 c_s)).setCell ⟨gm, 8, none⟩ (.slice A_r 0 c_r)) := (below_set (below_set (below_set (below_set (below_set (below_set (below_set (below_set (below_set hB1.out hG.out) hG.out) hG.out) hG.out) hG.out) hG.out) hG.out) hG.out) hG.out)
  have hBN : (((((((((w3_.setCell ⟨gm, 0, none⟩ (.int .u8 22)).setCell ⟨gm, 1, none⟩ (.int .i64 0)).setCell ⟨gm, 2, none⟩ (.int .u8 0)).setCell ⟨gm, 3, none⟩ (.int .u32 4009820675)).setCell ⟨gm, 4, none⟩ (.bool false)).setCell ⟨gm, 5, none⟩ (.int .u8 0)).setCell ⟨gm, 6, none⟩ (.int .u8 0)).setCell ⟨gm, 7, none⟩ (.slice A_s 0 c_s)).setCell ⟨gm, 8, none⟩ (.slice A_r 0 c_r)).heap[gm]? = some (.cells #[.int .u8 22, .int .i64 0, .int .u8 0, .int .u32 4009820675, .bool false, .int .u8 0, .int .u8 0, .slice A_s 0 c_s, .slice A_r 0 c_r] 27 (0, 0)) := (blk_put (cs := #[.int .u8 22, .int .i64 0, .int .u8 0, .int .u32 4009820675, .bool false, .int .u8 0, .int .u8 0, .slice A_s 0 c_s, .slice none 0 0]) (blk_put (cs := #[.int .u8 22, .int .i64 0, .int .u8 0, .int .u32 4009820675, .bool false, .int .u8 0, .int .u8 0, .slice none 0 0, .slice none 0 0]) (blk_put (cs := #[.int .u8 22, .int .i64 0, .int .u8 0, .int .u32 4009820675, .bool false, .int .u8 0, .int .u8 0, .slice none 0 0, .slice none 0 0]) (blk_put (cs := #[.int .u8 22, .int .i64 0, .int .u8 0, .int .u32 4009820675, .bool false, .int .u8 0, .int .u8 0, .slice none 0 0, .slice none 0 0]) (blk_put (cs := #[.int .u8 22, .int .i64 0, .int .u8 0, .int .u32 4009820675, .bool false, .int .u8 0, .int .u8 0, .slice none 0 0, .slice none 0 0]) (blk_put (cs := #[.int .u8 22, .int .i64 0, .int .u8 0, .int .u32 0, .bool false, .int .u8 0, .int .u8 0, .slice none 0 0, .slice none 0 0]) (blk_put (cs := #[.int .u8 22, .int .i64 0, .int .u8 0, .int .u32 0, .bool false, .int .u8 0, .int .u8 0, .slice none 0 0, .slice none 0 0]) (blk_put (cs := #[.int .u8 22, .int .i64 0, .int .u8 0, .int .u32 0, .bool false, .int .u8 0, .int .u8 0, .slice none 0 0, .slice none 0 0]) (blk_put (cs := #[.int .u8 0, .int .i64 0, .int .u8 0, .int .u32 0, .bool false, .int .u8 0, .int .u8 0, .slice none 0 0, .slice none 0 0]) hBX.out 0 (.int .u8 22) rfl) 1 (.int .i64 0) rfl) 2 (.int .u8 0) rfl) 3 (.int .u32 4009820675) rfl) 4 (.bool false) rfl) 5 (.int .u8 0) rfl) 6 (.int .u8 0) rfl) 7 (.slice A_s 0 c_s) rfl) 8 (.slice A_r 0 c_r) rfl)
  clear hBX hB1
  clear hc_gm_0 hf_gm_0 hc_gm_1 hf_gm_1 hc_gm_2 hf_gm_2 hc_gm_3 hf_gm_3 hc_gm_4 hf_gm_4 hc_gm_5 hf_gm_5 hc_gm_6 hf_gm_6 hc_gm_7 hf_gm_7 hc_gm_8 hf_gm_8
  generalize (((((((((w3_.setCell ⟨gm, 0, none⟩ (.int .u8 22)).setCell ⟨gm, 1, none⟩ (.int .i64 0)).setCell ⟨gm, 2, none⟩ (.int .u8 0)).setCell ⟨gm, 3, none⟩ (.int .u32 4009820675)).setCell ⟨gm, 4, none⟩ (.bool false)).setCell ⟨gm, 5, none⟩ (.int .u8 0)).setCell ⟨gm, 6, none⟩ (.int .u8 0)).setCell ⟨gm, 7, none⟩ (.slice A_s 0 c_s)).setCell ⟨gm, 8, none⟩ (.slice A_r 0 c_r)) = w4_ at hB hBN ⊢
  have HBo := Aside0.mk HB.out
  have nHB := Aside0.mk (HB.out.trans (hB.mono HB.out.size))
  clear HB
  have HB := nHB
  clear nHB
  have nHC := Aside0.mk (Kd.R_below HR_b.out hB)
  clear HR_b
  have HR_b := nHC
  clear nHC
  have nHC := Aside0.mk (Kd.C_below HC_s.out hB)
  clear HC_s
  have HC_s := nHC
  clear nHC
  have nHC := Aside0.mk (Kd.C_below HC_r.out hB)
  clear HC_r
  have HC_r := nHC
  clear nHC
  have BK_gm := Aside0.mk hBN
  have GE_gm := Aside0.mk (Nat.le_trans HBo.out.size hG.out)
  clear HBo hG hBN hB
  have hc_gm_0 : w4_.cell? ⟨gm, 0, none⟩ = some (.int .u8 22) := (blk_cell BK_gm.out 0).trans rfl
  have hf_gm_0 := blk_frozen BK_gm.out 0
  have hc_gm_1 : w4_.cell? ⟨gm, 1, none⟩ = some (.int .i64 0) := (blk_cell BK_gm.out 1).trans rfl
  have hf_gm_1 := blk_frozen BK_gm.out 1
  have hc_gm_2 : w4_.cell? ⟨gm, 2, none⟩ = some (.int .u8 0) := (blk_cell BK_gm.out 2).trans rfl
  have hf_gm_2 := blk_frozen BK_gm.out 2
  have hc_gm_3 : w4_.cell? ⟨gm, 3, none⟩ = some (.int .u32 4009820675) := (blk_cell BK_gm.out 3).trans rfl
  have hf_gm_3 := blk_frozen BK_gm.out 3
  have hc_gm_4 : w4_.cell? ⟨gm, 4, none⟩ = some (.bool false) := (blk_cell BK_gm.out 4).trans rfl
  have hf_gm_4 := blk_frozen BK_gm.out 4
  have hc_gm_5 : w4_.cell? ⟨gm, 5, none⟩ = some (.int .u8 0) := (blk_cell BK_gm.out 5).trans rfl
  have hf_gm_5 := blk_frozen BK_gm.out 5
  have hc_gm_6 : w4_.cell? ⟨gm, 6, none⟩ = some (.int .u8 0) := (blk_cell BK_gm.out 6).trans rfl
  have hf_gm_6 := blk_frozen BK_gm.out 6
  have hc_gm_7 : w4_.cell? ⟨gm, 7, none⟩ = some (.slice A_s 0 c_s) := (blk_cell BK_gm.out 7).trans rfl
  have hf_gm_7 := blk_frozen BK_gm.out 7
  have hc_gm_8 : w4_.cell? ⟨gm, 8, none⟩ = some (.slice A_r 0 c_r) := (blk_cell BK_gm.out 8).trans rfl
  have hf_gm_8 := blk_frozen BK_gm.out 8
  go_wp2_with (first | ((with_reducible refine gate_dst (N := 19) rfl ?_); (try (refine gate_guard (by rfl) ?_; dsimp only)); refine Kd.R_lit (Kd.int .u8) _ 5 ?hg (N := 19) ?hd (xs := [22, 0, 248, 250, 239, 1, 2, 3]) (inner := [.int .u8 22, .int .u8 0, .int .u8 248, .int .u8 250, .int .u8 239, .int .u8 1, .int .u8 2, .int .u8 3]) (ok := fun _ => True) (okp := fun _ => True) ?hr ?hp (fun _ hk => hk) trivial (Below.refl _ _) (Nat.le_refl _) (by simp) ?_; (case hd => rfl); (case hg => rfl); (case hr => first | (go_simp; done) | (go_simp; rfl)); (case hp => exact Reps.one (show Kd.M (Kd.int .u8) _ _ _ _ _ from rfl) (Reps.one (show Kd.M (Kd.int .u8) _ _ _ _ _ from rfl) (Reps.one (show Kd.M (Kd.int .u8) _ _ _ _ _ from rfl) (Reps.one (show Kd.M (Kd.int .u8) _ _ _ _ _ from rfl) (Reps.one (show Kd.M (Kd.int .u8) _ _ _ _ _ from rfl) (Reps.one (show Kd.M (Kd.int .u8) _ _ _ _ _ from rfl) (Reps.one (show Kd.M (Kd.int .u8) _ _ _ _ _ from rfl) (Reps.one (show Kd.M (Kd.int .u8) _ _ _ _ _ from rfl) (Reps.none _ _))))))))); intro v_y w5_ hR hB hg_ hn_; clear hg_ hn_; rw [show ([22, 0, 248, 250, 239, 1, 2, 3] : List Int) = b from HBQ.out.symm] at hR; have nHB := Aside0.mk (HB.out.trans (hB.mono HB.out.size)); clear HB; have HB := nHB; clear nHB; clear hc_gm_0 hf_gm_0 hc_gm_1 hf_gm_1 hc_gm_2 hf_gm_2 hc_gm_3 hf_gm_3 hc_gm_4 hf_gm_4 hc_gm_5 hf_gm_5 hc_gm_6 hf_gm_6 hc_gm_7 hf_gm_7 hc_gm_8 hf_gm_8; have nBK := Aside0.mk (blk_below (g := gm) (o := .cells #[.int .u8 22, .int .i64 0, .int .u8 0, .int .u32 4009820675, .bool false, .int .u8 0, .int .u8 0, .slice A_s 0 c_s, .slice A_r 0 c_r] 27 (0, 0)) BK_gm.out hB); clear BK_gm; have BK_gm := nBK; clear nBK; have hc_gm_0 : w5_.cell? ⟨gm, 0, none⟩ = some (.int .u8 22) := (blk_cell BK_gm.out 0).trans rfl; have hf_gm_0 := blk_frozen BK_gm.out 0; have hc_gm_1 : w5_.cell? ⟨gm, 1, none⟩ = some (.int .i64 0) := (blk_cell BK_gm.out 1).trans rfl; have hf_gm_1 := blk_frozen BK_gm.out 1; have hc_gm_2 : w5_.cell? ⟨gm, 2, none⟩ = some (.int .u8 0) := (blk_cell BK_gm.out 2).trans rfl; have hf_gm_2 := blk_frozen BK_gm.out 2; have hc_gm_3 : w5_.cell? ⟨gm, 3, none⟩ = some (.int .u32 4009820675) := (blk_cell BK_gm.out 3).trans rfl; have hf_gm_3 := blk_frozen BK_gm.out 3; have hc_gm_4 : w5_.cell? ⟨gm, 4, none⟩ = some (.bool false) := (blk_cell BK_gm.out 4).trans rfl; have hf_gm_4 := blk_frozen BK_gm.out 4; have hc_gm_5 : w5_.cell? ⟨gm, 5, none⟩ = some (.int .u8 0) := (blk_cell BK_gm.out 5).trans rfl; have hf_gm_5 := blk_frozen BK_gm.out 5; have hc_gm_6 : w5_.cell? ⟨gm, 6, none⟩ = some (.int .u8 0) := (blk_cell BK_gm.out 6).trans rfl; have hf_gm_6 := blk_frozen BK_gm.out 6; have hc_gm_7 : w5_.cell? ⟨gm, 7, none⟩ = some (.slice A_s 0 c_s) := (blk_cell BK_gm.out 7).trans rfl; have hf_gm_7 := blk_frozen BK_gm.out 7; have hc_gm_8 : w5_.cell? ⟨gm, 8, none⟩ = some (.slice A_r 0 c_r) := (blk_cell BK_gm.out 8).trans rfl; have hf_gm_8 := blk_frozen BK_gm.out 8; have nHC := Aside0.mk (Kd.R_below HR_b.out hB); clear HR_b; have HR_b := nHC; clear nHC; have nHC := Aside0.mk (Kd.C_below HC_s.out hB); clear HC_s; have HC_s := nHC; clear nHC; have nHC := Aside0.mk (Kd.C_below HC_r.out hB); clear HC_r; have HC_r := nHC; clear nHC; obtain ⟨A_y, c_y, rfl⟩ := Kd.R_slice hR; have HC_y := Aside0.mk (Kd.R_reads' hR).2.2; have HK_y := Aside0.mk (Kd.R_reads' hR).2.1; clear hR hB) | (go_at_call 17; with_reducible refine (same1_w SAME.out _ _ _ _ _ (Kd.R_reads' HR_b.out).2.2 (Kd.R_reads' HR_b.out).2.1 HC_y.out HK_y.out).mono ?_; rintro e w6_ ⟨rfl, hB⟩; have nHB := Aside0.mk (HB.out.trans (hB.mono HB.out.size)); clear HB; have HB := nHB; clear nHB; clear hc_gm_0 hf_gm_0 hc_gm_1 hf_gm_1 hc_gm_2 hf_gm_2 hc_gm_3 hf_gm_3 hc_gm_4 hf_gm_4 hc_gm_5 hf_gm_5 hc_gm_6 hf_gm_6 hc_gm_7 hf_gm_7 hc_gm_8 hf_gm_8; have nBK := Aside0.mk (blk_below (g := gm) (o := .cells #[.int .u8 22, .int .i64 0, .int .u8 0, .int .u32 4009820675, .bool false, .int .u8 0, .int .u8 0, .slice A_s 0 c_s, .slice A_r 0 c_r] 27 (0, 0)) BK_gm.out hB); clear BK_gm; have BK_gm := nBK; clear nBK; have hc_gm_0 : w6_.cell? ⟨gm, 0, none⟩ = some (.int .u8 22) := (blk_cell BK_gm.out 0).trans rfl; have hf_gm_0 := blk_frozen BK_gm.out 0; have hc_gm_1 : w6_.cell? ⟨gm, 1, none⟩ = some (.int .i64 0) := (blk_cell BK_gm.out 1).trans rfl; have hf_gm_1 := blk_frozen BK_gm.out 1; have hc_gm_2 : w6_.cell? ⟨gm, 2, none⟩ = some (.int .u8 0) := (blk_cell BK_gm.out 2).trans rfl; have hf_gm_2 := blk_frozen BK_gm.out 2; have hc_gm_3 : w6_.cell? ⟨gm, 3, none⟩ = some (.int .u32 4009820675) := (blk_cell BK_gm.out 3).trans rfl; have hf_gm_3 := blk_frozen BK_gm.out 3; have hc_gm_4 : w6_.cell? ⟨gm, 4, none⟩ = some (.bool false) := (blk_cell BK_gm.out 4).trans rfl; have hf_gm_4 := blk_frozen BK_gm.out 4; have hc_gm_5 : w6_.cell? ⟨gm, 5, none⟩ = some (.int .u8 0) := (blk_cell BK_gm.out 5).trans rfl; have hf_gm_5 := blk_frozen BK_gm.out 5; have hc_gm_6 : w6_.cell? ⟨gm, 6, none⟩ = some (.int .u8 0) := (blk_cell BK_gm.out 6).trans rfl; have hf_gm_6 := blk_frozen BK_gm.out 6; have hc_gm_7 : w6_.cell? ⟨gm, 7, none⟩ = some (.slice A_s 0 c_s) := (blk_cell BK_gm.out 7).trans rfl; have hf_gm_7 := blk_frozen BK_gm.out 7; have hc_gm_8 : w6_.cell? ⟨gm, 8, none⟩ = some (.slice A_r 0 c_r) := (blk_cell BK_gm.out 8).trans rfl; have hf_gm_8 := blk_frozen BK_gm.out 8; have nHC := Aside0.mk (Kd.R_below HR_b.out hB); clear HR_b; have HR_b := nHC; clear nHC; have nHC := Aside0.mk (Kd.C_below HC_s.out hB); clear HC_s; have HC_s := nHC; clear nHC; have nHC := Aside0.mk (Kd.C_below HC_r.out hB); clear HC_r; have HC_r := nHC; clear nHC; have nHC := Aside0.mk (Kd.C_below HC_y.out hB); clear HC_y; have HC_y := nHC; clear nHC; clear hB) | (go_at_call 15; with_reducible refine (RIG.out _ _ _ _ _ HC_s.out HK_s.out HC_r.out HK_r.out).mono ?_; rintro e w7_ ⟨rfl, hB⟩; have nHB := Aside0.mk (HB.out.trans (hB.mono HB.out.size)); clear HB; have HB := nHB; clear nHB; clear hc_gm_0 hf_gm_0 hc_gm_1 hf_gm_1 hc_gm_2 hf_gm_2 hc_gm_3 hf_gm_3 hc_gm_4 hf_gm_4 hc_gm_5 hf_gm_5 hc_gm_6 hf_gm_6 hc_gm_7 hf_gm_7 hc_gm_8 hf_gm_8; have nBK := Aside0.mk (blk_below (g := gm) (o := .cells #[.int .u8 22, .int .i64 0, .int .u8 0, .int .u32 4009820675, .bool false, .int .u8 0, .int .u8 0, .slice A_s 0 c_s, .slice A_r 0 c_r] 27 (0, 0)) BK_gm.out hB); clear BK_gm; have BK_gm := nBK; clear nBK; have hc_gm_0 : w7_.cell? ⟨gm, 0, none⟩ = some (.int .u8 22) := (blk_cell BK_gm.out 0).trans rfl; have hf_gm_0 := blk_frozen BK_gm.out 0; have hc_gm_1 : w7_.cell? ⟨gm, 1, none⟩ = some (.int .i64 0) := (blk_cell BK_gm.out 1).trans rfl; have hf_gm_1 := blk_frozen BK_gm.out 1; have hc_gm_2 : w7_.cell? ⟨gm, 2, none⟩ = some (.int .u8 0) := (blk_cell BK_gm.out 2).trans rfl; have hf_gm_2 := blk_frozen BK_gm.out 2; have hc_gm_3 : w7_.cell? ⟨gm, 3, none⟩ = some (.int .u32 4009820675) := (blk_cell BK_gm.out 3).trans rfl; have hf_gm_3 := blk_frozen BK_gm.out 3; have hc_gm_4 : w7_.cell? ⟨gm, 4, none⟩ = some (.bool false) := (blk_cell BK_gm.out 4).trans rfl; have hf_gm_4 := blk_frozen BK_gm.out 4; have hc_gm_5 : w7_.cell? ⟨gm, 5, none⟩ = some (.int .u8 0) := (blk_cell BK_gm.out 5).trans rfl; have hf_gm_5 := blk_frozen BK_gm.out 5; have hc_gm_6 : w7_.cell? ⟨gm, 6, none⟩ = some (.int .u8 0) := (blk_cell BK_gm.out 6).trans rfl; have hf_gm_6 := blk_frozen BK_gm.out 6; have hc_gm_7 : w7_.cell? ⟨gm, 7, none⟩ = some (.slice A_s 0 c_s) := (blk_cell BK_gm.out 7).trans rfl; have hf_gm_7 := blk_frozen BK_gm.out 7; have hc_gm_8 : w7_.cell? ⟨gm, 8, none⟩ = some (.slice A_r 0 c_r) := (blk_cell BK_gm.out 8).trans rfl; have hf_gm_8 := blk_frozen BK_gm.out 8; have nHC := Aside0.mk (Kd.R_below HR_b.out hB); clear HR_b; have HR_b := nHC; clear nHC; have nHC := Aside0.mk (Kd.C_below HC_s.out hB); clear HC_s; have HC_s := nHC; clear nHC; have nHC := Aside0.mk (Kd.C_below HC_r.out hB); clear HC_r; have HC_r := nHC; clear nHC; have nHC := Aside0.mk (Kd.C_below HC_y.out hB); clear HC_y; have HC_y := nHC; clear nHC; clear hB))
  go_ret
  exact ⟨rfl, HB.out⟩
end Go.Proofs.Ytmmjmncchckbbaa
/-
  Contracts over messages.
-/
namespace Go.Proofs.Ytmmjmncchckbbaa
open Go.RowKit Go.Proofs.YtmmjmncchckbbaaW.PrintWords Go.Proofs.YtmmjmncchckbbaaW.PrintLast Go.Proofs.YtmmjmncchckbbaaW.PrintMore Go.Proofs.Ytmmjmncchckbbaa.PIg
set_option linter.unusedVariables false
set_option linter.unusedSimpArgs false
theorem size_right {m : Msg} (h : rightB m = true) : m.size ≤ 5000 := by
  have hv := right_view h
  cases hv with
  | q1 => decide
  | q2 => show 0 + 2 * (0 + 0) ≤ 5000; decide
  | q3 code grp quiet rob every srcs hr hs => show srcs.length + 2 * (0 + 0) ≤ 5000; omega
  | pl => show 0 + 2 * (0 + 0) ≤ 5000; decide
  | r3 recs hl ha =>
    have : recK recs ≤ recs.length * 65 := by
      clear hl h
      induction recs with
      | nil => simp [recK]
      | cons r L ih =>
        have h1 : recK L ≤ L.length * 65 := ih fun x hx => ha x (List.mem_cons_of_mem _ hx)
        have h2 := ha r List.mem_cons_self
        have e : recK (r :: L) = recK L + r.f2.length + 1 := by simp only [recK, List.map_cons, List.sum_cons, List.length_cons]; omega
        rw [e, List.length_cons]
        omega
    show 0 + 2 * recK recs ≤ 5000; omega
theorem decm_w {l : List Int} {m : Msg} {er : Int} (hb : Byt l) (hl : l.length ≤ 400000) (hd : dcm l = (m, er)) (A : Option Addr) (c : Nat) (w : World) (hr : Kd.C (Kd.int .u8) w A l.length l) (hc : l.length ≤ c) : Calls Try.prog 20 #[.slice A l.length c] w fun e w' => ∃ vS vR, e = .returned (.tuple #[.agg #[.int .u8 m.k, .int .i64 m.ver, .int .u8 m.code, .int .u32 m.grp, .bool m.quiet, .int .u8 m.rob, .int .u8 m.every, vS, vR], .int .i64 er]) ∧ Kd.R (Kd.int .u32) 23 w' w.heap.size (fun _ => True) vS m.srcs ∧ Kd.N k44 44 w' w.heap.size (fun _ => True) vR m.recs ∧ Below w.heap.size w w' := by
  have h := dec_calls hb hl A c w hr hc
  rw [hd] at h
  exact h
end Go.Proofs.Ytmmjmncchckbbaa
