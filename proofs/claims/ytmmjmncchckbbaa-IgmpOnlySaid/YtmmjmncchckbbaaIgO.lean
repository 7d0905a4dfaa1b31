/-
  Which messages are the same by the document's answer: in plain words.
-/
import Derived.Test.YtmmjmncchckbbaaIgX
import Derived.Test.YtmmjmncchckbbaaPIgx7
import Derived.Test.YtmmjmncchckbbaaIgC
import Derived.SizedLaws
import Derived.ChangeSlices
import Derived.ChangeArms
import Derived.Test.YtmmjmncchckbbaaWWords
namespace Go.Proofs.Ytmmjmncchckbbaa
open Go.RowKit Go.Proofs.YtmmjmncchckbbaaW.PrintWords Go.Proofs.Ytmmjmncchckbbaa.PIg
set_option linter.unusedVariables false
set_option linter.unusedSimpArgs false
theorem rows_l0 (x y : List Int) (hxy : x.length = y.length) (hm : x.length ≤ 1000000) : ∀ (d i k : Nat), i + d = x.length → d < k → stolonref01_Rows.l0 k x y (i : Int) = some (decide (x.drop i = y.drop i))
  | 0, i, k + 1, h, _ => by
    unfold stolonref01_Rows.l0
    rw [if_neg (by omega), List.drop_eq_nil_of_le (by omega), List.drop_eq_nil_of_le (by omega)]; rfl
  | d + 1, i, k + 1, h, hk => by
    unfold stolonref01_Rows.l0
    rw [if_pos (by omega), if_pos (by omega), if_pos (by omega), rd_get (by omega), rd_get (by omega : i < y.length), wr1 (by omega), rows_l0 x y hxy hm d (i + 1) k (by omega) (by omega),
      List.drop_eq_getElem_cons (by omega : i < x.length), List.drop_eq_getElem_cons (by omega : i < y.length)]
    by_cases he : x[i]'(by omega) = y[i]'(by omega)
    · rw [if_pos he]; exact congrArg some (decide_eq_decide.2 ⟨fun h => by rw [he, h], fun h => (List.cons.inj h).2⟩)
    · rw [if_neg he, decide_eq_false (fun h => he (List.cons.inj h).1)]
theorem rows_some {k : Nat} {x y : List Int} (hm : x.length ≤ 1000000) (hk : x.length < k) : stolonref01_Rows.f k x y = some (decide (x = y)) := by
  unfold stolonref01_Rows.f
  by_cases h : x.length = y.length
  · rw [if_pos (by omega)]
    have := rows_l0 x y h hm x.length 0 k (by omega) hk
    simpa using this
  · rw [if_neg (by omega), decide_eq_false (fun e => h (by rw [e]))]
theorem rec1_some {k : Nat} {a b : S44} (hm : a.f2.length ≤ 1000000) (hk : a.f2.length < k) : stolonref05_Rec.f k a.f0 a.f1 a.f2 b.f0 b.f1 b.f2 = some (decide (a = b)) := by
  obtain ⟨a0, a1, a2⟩ := a
  obtain ⟨b0, b1, b2⟩ := b
  unfold stolonref05_Rec.f
  rw [rows_some hm hk]
  by_cases h0 : a0 = b0
  · by_cases h1 : a1 = b1
    · simp [h0, h1]
    · simp [h0, h1]
  · simp [h0]
theorem recs_l0 (x y : List S44) (hxy : x.length = y.length) (hm : recK x ≤ 1000000) : ∀ (d i k : Nat), i + d = x.length → d + recK x < k → stolonref05_Recs.l0 k x y (i : Int) = some (decide (x.drop i = y.drop i))
  | 0, i, k + 1, h, _ => by
    unfold stolonref05_Recs.l0
    rw [if_neg (by omega), List.drop_eq_nil_of_le (by omega), List.drop_eq_nil_of_le (by omega)]; rfl
  | d + 1, i, k + 1, h, hk => by
    have hi : i < x.length := by omega
    have hr := recK_mem (List.getElem_mem hi)
    unfold stolonref05_Recs.l0
    rw [if_pos (by omega), if_pos (by omega), if_pos (by omega), rd44_get hi, rd44_get (by omega : i < y.length), rec1_some (by omega) (by omega)]
    simp only [Option.bind_some]
    rw [wr1 (by have : x.length ≤ recK x := by unfold recK; omega
                omega), recs_l0 x y hxy hm d (i + 1) k (by omega) (by omega),
      List.drop_eq_getElem_cons hi, List.drop_eq_getElem_cons (by omega : i < y.length)]
    by_cases he : x[i]'hi = y[i]'(by omega)
    · rw [decide_eq_true he, if_pos rfl]; exact congrArg some (decide_eq_decide.2 ⟨fun h => by rw [he, h], fun h => (List.cons.inj h).2⟩)
    · rw [decide_eq_false he, if_neg (by decide), decide_eq_false (fun h => he (List.cons.inj h).1)]
theorem recs_some {k : Nat} {x y : List S44} (hm : recK x ≤ 1000000) (hk : x.length + recK x < k) : stolonref05_Recs.f k x y = some (decide (x = y)) := by
  unfold stolonref05_Recs.f
  by_cases h : x.length = y.length
  · rw [if_pos (by omega)]
    have := recs_l0 x y h hm x.length 0 k (by omega) hk
    simpa using this
  · rw [if_neg (by omega), decide_eq_false (fun e => h (by rw [e]))]
theorem refSame_some {K : Nat} (m n : Msg) (hm : m.size ≤ 1000000) (hk : m.size < K) :
    stolonref05_Same.f K m.k m.ver m.code m.grp m.quiet m.rob m.every m.srcs m.recs n.k n.ver n.code n.grp n.quiet n.rob n.every n.srcs n.recs = some (decide (m = n)) := by
  have hrl : m.recs.length ≤ recK m.recs := by unfold recK; omega
  have hsz : m.size = m.srcs.length + 2 * recK m.recs := rfl
  obtain ⟨a0, a1, a2, a3, a4, a5, a6, a7, a8⟩ := m
  obtain ⟨b0, b1, b2, b3, b4, b5, b6, b7, b8⟩ := n
  simp only at *
  unfold stolonref05_Same.f
  rw [rows_some (by omega) (by omega), recs_some (by omega) (by omega)]
  simp only [Msg.mk.injEq]
  by_cases h0 : a0 = b0
  · by_cases h1 : a1 = b1
    · by_cases h2 : a2 = b2
      · by_cases h3 : a3 = b3
        · by_cases h4 : a4 = b4
          · by_cases h5 : a5 = b5
            · by_cases h6 : a6 = b6
              · by_cases h7 : a7 = b7 <;> simp [*]
              · simp [*]
            · simp [*]
          · have : (a4 == b4) = false := by simp [h4]
            simp [*]
        · simp [*]
      · simp [*]
    · simp [*]
  · simp [*]
end Go.Proofs.Ytmmjmncchckbbaa
/-
  Contracts over messages: the same by the document.
-/
namespace Go.Proofs.Ytmmjmncchckbbaa
open Go.RowKit Go.Proofs.YtmmjmncchckbbaaW.PrintWords Go.Proofs.YtmmjmncchckbbaaW.PrintLast Go.Proofs.YtmmjmncchckbbaaW.PrintMore Go.Proofs.Ytmmjmncchckbbaa.PIg
set_option linter.unusedVariables false
set_option linter.unusedSimpArgs false
theorem rsame_w {m n : Msg} {b : Bool} (hb : decide (m = n) = b) (hl : m.size ≤ 1000000) (A_s : Option Addr) (c_s : Nat) (A_r : Option Addr) (c_r : Nat) (B_s : Option Addr) (d_s : Nat) (B_r : Option Addr) (d_r : Nat) (w : World) (hss : Kd.C (Kd.int .u32) w A_s m.srcs.length m.srcs) (hscs : m.srcs.length ≤ c_s) (hrr : Kd.C k44 w A_r m.recs.length m.recs) (hrcr : m.recs.length ≤ c_r) (hss2 : Kd.C (Kd.int .u32) w B_s n.srcs.length n.srcs) (hscs2 : n.srcs.length ≤ d_s) (hrr2 : Kd.C k44 w B_r n.recs.length n.recs) (hrcr2 : n.recs.length ≤ d_r) : Calls Try.prog 19 #[.agg #[.int .u8 m.k, .int .i64 m.ver, .int .u8 m.code, .int .u32 m.grp, .bool m.quiet, .int .u8 m.rob, .int .u8 m.every, .slice A_s m.srcs.length c_s, .slice A_r m.recs.length c_r], .agg #[.int .u8 n.k, .int .i64 n.ver, .int .u8 n.code, .int .u32 n.grp, .bool n.quiet, .int .u8 n.rob, .int .u8 n.every, .slice B_s n.srcs.length d_s, .slice B_r n.recs.length d_r]] w fun e w' => e = .returned (.bool b) ∧ Below w.heap.size w w' :=
  stolonref05_Same.calls (m.size + 1) m.k m.ver m.code m.grp m.quiet m.rob m.every A_s c_s m.srcs A_r c_r m.recs n.k n.ver n.code n.grp n.quiet n.rob n.every B_s d_s n.srcs B_r d_r n.recs b w hss hscs hrr hrcr hss2 hscs2 hrr2 hrcr2 (by rw [refSame_some m n hl (Nat.lt_succ_self _), hb])
theorem rself_w {m : Msg} (hl : m.size ≤ 1000000) (A_s : Option Addr) (c_s : Nat) (A_r : Option Addr) (c_r : Nat) (B_s : Option Addr) (d_s : Nat) (B_r : Option Addr) (d_r : Nat) (w : World) (hss : Kd.C (Kd.int .u32) w A_s m.srcs.length m.srcs) (hscs : m.srcs.length ≤ c_s) (hrr : Kd.C k44 w A_r m.recs.length m.recs) (hrcr : m.recs.length ≤ c_r) (hss2 : Kd.C (Kd.int .u32) w B_s m.srcs.length m.srcs) (hscs2 : m.srcs.length ≤ d_s) (hrr2 : Kd.C k44 w B_r m.recs.length m.recs) (hrcr2 : m.recs.length ≤ d_r) : Calls Try.prog 19 #[.agg #[.int .u8 m.k, .int .i64 m.ver, .int .u8 m.code, .int .u32 m.grp, .bool m.quiet, .int .u8 m.rob, .int .u8 m.every, .slice A_s m.srcs.length c_s, .slice A_r m.recs.length c_r], .agg #[.int .u8 m.k, .int .i64 m.ver, .int .u8 m.code, .int .u32 m.grp, .bool m.quiet, .int .u8 m.rob, .int .u8 m.every, .slice B_s m.srcs.length d_s, .slice B_r m.recs.length d_r]] w fun e w' => e = .returned (.bool true) ∧ Below w.heap.size w w' :=
  rsame_w (m := m) (n := m) (b := true) (by simp) hl A_s c_s A_r c_r B_s d_s B_r d_r w hss hscs hrr hrcr hss2 hscs2 hrr2 hrcr2
theorem rsame0_w (A_s : Option Addr) (c_s : Nat) (A_r : Option Addr) (c_r : Nat) (w : World) (hss : Kd.C (Kd.int .u32) w A_s 0 []) (hscs : 0 ≤ c_s) (hrr : Kd.C k44 w A_r 0 []) (hrcr : 0 ≤ c_r) : Calls Try.prog 19 #[.agg #[.int .u8 0, .int .i64 0, .int .u8 0, .int .u32 0, .bool false, .int .u8 0, .int .u8 0, .slice A_s 0 c_s, .slice A_r 0 c_r], .agg #[.int .u8 0, .int .i64 0, .int .u8 0, .int .u32 0, .bool false, .int .u8 0, .int .u8 0, .slice none 0 0, .slice none 0 0]] w fun e w' => e = .returned (.bool true) ∧ Below w.heap.size w w' :=
  rsame_w (m := msg0) (n := msg0) (b := true) (by simp) (by decide) A_s c_s A_r c_r none 0 none 0 w hss hscs hrr hrcr (Kd.C_nil _ _) (Nat.le_refl _) (Kd.C_nil _ _) (Nat.le_refl _)
end Go.Proofs.Ytmmjmncchckbbaa
/-
  IgmpOnly, walked.
-/
namespace Go.Proofs.Ytmmjmncchckbbaa
open Go.RowKit Go.Proofs.YtmmjmncchckbbaaW.PrintWords Go.Proofs.YtmmjmncchckbbaaW.PrintLast Go.Proofs.YtmmjmncchckbbaaW.PrintMore Go.Proofs.Ytmmjmncchckbbaa.PIg
set_option linter.unusedVariables false
set_option linter.unusedSimpArgs false
set_option maxHeartbeats 8000000 in
set_option maxRecDepth 100000 in
theorem only_long {b : List Int} (hl : 3000 < b.length) (A_b : Option Addr) (c_b : Nat) (w : World) (hr : Kd.C (Kd.int .u8) w A_b b.length b) (hc : b.length ≤ c_b) :
    Calls Try.prog 6 #[.slice A_b b.length c_b] w fun e w' => e = .returned (.bool true) ∧ Below w.heap.size w w' := by
  have hu27 := Try.underlying27
  have HB := Aside0.mk (Below.refl w.heap.size w)
  have HC_b := Aside0.mk hr
  have HK_b := Aside0.mk hc
  clear hr hc
  go_enter Try.func6, Try.ntmps6
  go_wp2_with (first | (go_at_call 11; with_reducible refine (shown_calls _).mono ?_; rintro e w1_ ⟨rfl, hB⟩; have nHB := Aside0.mk (HB.out.trans (hB.mono HB.out.size)); clear HB; have HB := nHB; clear nHB; clear hB))
  go_ret
  exact ⟨rfl, HB.out⟩
set_option maxHeartbeats 8000000 in
set_option maxRecDepth 100000 in
theorem only_no {b : List Int} (hl : b.length ≤ 3000) (hb : Byt b) {e0 : Int} (hd : dcm b = (msg0, e0)) (he : (e0 != 0) = true) (A_b : Option Addr) (c_b : Nat) (w : World) (hr : Kd.C (Kd.int .u8) w A_b b.length b) (hc : b.length ≤ c_b) :
    Calls Try.prog 6 #[.slice A_b b.length c_b] w fun e w' => e = .returned (.bool true) ∧ Below w.heap.size w w' := by
  have hu27 := Try.underlying27
  have HB := Aside0.mk (Below.refl w.heap.size w)
  have HC_b := Aside0.mk hr
  have HK_b := Aside0.mk hc
  clear hr hc
  have HBL := Aside0.mk (show b.length ≤ 400000 by omega)
  have HB_ := Aside0.mk hb; clear hb; have HD := Aside0.mk hd; clear hd
  go_enter Try.func6, Try.ntmps6
  go_upto_region 5 with (first | (go_at_call 11; with_reducible refine (shown_calls _).mono ?_; rintro e w1_ ⟨rfl, hB⟩; have nHB := Aside0.mk (HB.out.trans (hB.mono HB.out.size)); clear HB; have HB := nHB; clear nHB; clear hB) | (go_at_call 20; (with_reducible refine (dec0_w HB_.out HBL.out HD.out _ _ _ (Kd.C_below HC_b.out HB.out) HK_b.out).mono ?_); rintro e w2_ ⟨v_p, v_q, rfl, hS, hN, hB⟩; obtain ⟨A_p, c_p, rfl⟩ := Kd.R_slice hS; obtain ⟨A_q, c_q, rfl⟩ := Kd.N_slice hN; have nHB := Aside0.mk (HB.out.trans (hB.mono HB.out.size)); clear HB; have HB := nHB; clear nHB; have HC_p := Aside0.mk (show Kd.C (Kd.int .u32) w2_ A_p 0 [] from (Kd.R_reads' hS).2.2); have HK_p := Aside0.mk (show 0 ≤ c_p from (Kd.R_reads' hS).2.1); have HC_q := Aside0.mk (show Kd.C k44 w2_ A_q 0 [] from (Kd.N_reads' hN).2.2); have HK_q := Aside0.mk (show 0 ≤ c_q from (Kd.N_reads' hN).2.1); clear hS hN hB) | ((with_reducible refine gate_dst (N := 4) rfl ?_); (try (refine gate_guard (by rfl) ?_; dsimp only)); refine box_event ?hg (N := 4) ?hd (cs := #[.int .u8 0, .int .i64 0, .int .u8 0, .int .u32 0, .bool false, .int .u8 0, .int .u8 0, .slice none 0 0, .slice none 0 0]) (t := 27) ?hr ?_; (case hd => rfl); (case hg => rfl); (case hr => first | (go_simp; done) | (go_simp; rfl)); intro gn hg w3_ hbox hB0; have hG := Aside0.mk (show w2_.heap.size ≤ gn from Nat.le_of_eq hg.symm); clear hg; have hBX := Aside0.mk hbox; have hB1 := Aside0.mk hB0; clear hB0; have hc_gn_0 : w3_.cell? ⟨gn, 0, none⟩ = some (.int .u8 0) := (blk_cell hbox 0).trans rfl; have hf_gn_0 := blk_frozen hbox 0; have hc_gn_1 : w3_.cell? ⟨gn, 1, none⟩ = some (.int .i64 0) := (blk_cell hbox 1).trans rfl; have hf_gn_1 := blk_frozen hbox 1; have hc_gn_2 : w3_.cell? ⟨gn, 2, none⟩ = some (.int .u8 0) := (blk_cell hbox 2).trans rfl; have hf_gn_2 := blk_frozen hbox 2; have hc_gn_3 : w3_.cell? ⟨gn, 3, none⟩ = some (.int .u32 0) := (blk_cell hbox 3).trans rfl; have hf_gn_3 := blk_frozen hbox 3; have hc_gn_4 : w3_.cell? ⟨gn, 4, none⟩ = some (.bool false) := (blk_cell hbox 4).trans rfl; have hf_gn_4 := blk_frozen hbox 4; have hc_gn_5 : w3_.cell? ⟨gn, 5, none⟩ = some (.int .u8 0) := (blk_cell hbox 5).trans rfl; have hf_gn_5 := blk_frozen hbox 5; have hc_gn_6 : w3_.cell? ⟨gn, 6, none⟩ = some (.int .u8 0) := (blk_cell hbox 6).trans rfl; have hf_gn_6 := blk_frozen hbox 6; have hc_gn_7 : w3_.cell? ⟨gn, 7, none⟩ = some (.slice none 0 0) := (blk_cell hbox 7).trans rfl; have hf_gn_7 := blk_frozen hbox 7; have hc_gn_8 : w3_.cell? ⟨gn, 8, none⟩ = some (.slice none 0 0) := (blk_cell hbox 8).trans rfl; have hf_gn_8 := blk_frozen hbox 8; clear hbox))
  have hB : Below w2_.heap.size w2_ (((((((((w3_.setCell ⟨gn, 0, none⟩ (.int .u8 0)).setCell ⟨gn, 1, none⟩ (.int .i64 0)).setCell ⟨gn, 2, none⟩ (.int .u8 0)).setCell ⟨gn, 3, none⟩ (.int .u32 0)).setCell ⟨gn, 4, none⟩ (.bool false)).setCell ⟨gn, 5, none⟩ (.int .u8 0)).setCell ⟨gn, 6, none⟩ (.int .u8 0)).setCell ⟨gn, 7, none⟩ (.slice A_p 0 c_p)).setCell ⟨gn, 8, none⟩ (.slice A_q 0 c_q)) := (below_set (below_set (below_set (below_set (below_set (below_set (below_set (below_set (below_set hB1.out hG.out) hG.out) hG.out) hG.out) hG.out) hG.out) hG.out) hG.out) hG.out)
  have hBN : (((((((((w3_.setCell ⟨gn, 0, none⟩ (.int .u8 0)).setCell ⟨gn, 1, none⟩ (.int .i64 0)).setCell ⟨gn, 2, none⟩ (.int .u8 0)).setCell ⟨gn, 3, none⟩ (.int .u32 0)).setCell ⟨gn, 4, none⟩ (.bool false)).setCell ⟨gn, 5, none⟩ (.int .u8 0)).setCell ⟨gn, 6, none⟩ (.int .u8 0)).setCell ⟨gn, 7, none⟩ (.slice A_p 0 c_p)).setCell ⟨gn, 8, none⟩ (.slice A_q 0 c_q)).heap[gn]? = some (.cells #[.int .u8 0, .int .i64 0, .int .u8 0, .int .u32 0, .bool false, .int .u8 0, .int .u8 0, .slice A_p 0 c_p, .slice A_q 0 c_q] 27 (0, 0)) := (blk_put (cs := #[.int .u8 0, .int .i64 0, .int .u8 0, .int .u32 0, .bool false, .int .u8 0, .int .u8 0, .slice A_p 0 c_p, .slice none 0 0]) (blk_put (cs := #[.int .u8 0, .int .i64 0, .int .u8 0, .int .u32 0, .bool false, .int .u8 0, .int .u8 0, .slice none 0 0, .slice none 0 0]) (blk_put (cs := #[.int .u8 0, .int .i64 0, .int .u8 0, .int .u32 0, .bool false, .int .u8 0, .int .u8 0, .slice none 0 0, .slice none 0 0]) (blk_put (cs := #[.int .u8 0, .int .i64 0, .int .u8 0, .int .u32 0, .bool false, .int .u8 0, .int .u8 0, .slice none 0 0, .slice none 0 0]) (blk_put (cs := #[.int .u8 0, .int .i64 0, .int .u8 0, .int .u32 0, .bool false, .int .u8 0, .int .u8 0, .slice none 0 0, .slice none 0 0]) (blk_put (cs := #[.int .u8 0, .int .i64 0, .int .u8 0, .int .u32 0, .bool false, .int .u8 0, .int .u8 0, .slice none 0 0, .slice none 0 0]) (blk_put (cs := #[.int .u8 0, .int .i64 0, .int .u8 0, .int .u32 0, .bool false, .int .u8 0, .int .u8 0, .slice none 0 0, .slice none 0 0]) (blk_put (cs := #[.int .u8 0, .int .i64 0, .int .u8 0, .int .u32 0, .bool false, .int .u8 0, .int .u8 0, .slice none 0 0, .slice none 0 0]) (blk_put (cs := #[.int .u8 0, .int .i64 0, .int .u8 0, .int .u32 0, .bool false, .int .u8 0, .int .u8 0, .slice none 0 0, .slice none 0 0]) hBX.out 0 (.int .u8 0) rfl) 1 (.int .i64 0) rfl) 2 (.int .u8 0) rfl) 3 (.int .u32 0) rfl) 4 (.bool false) rfl) 5 (.int .u8 0) rfl) 6 (.int .u8 0) rfl) 7 (.slice A_p 0 c_p) rfl) 8 (.slice A_q 0 c_q) rfl)
  clear hBX hB1
  clear hc_gn_0 hf_gn_0 hc_gn_1 hf_gn_1 hc_gn_2 hf_gn_2 hc_gn_3 hf_gn_3 hc_gn_4 hf_gn_4 hc_gn_5 hf_gn_5 hc_gn_6 hf_gn_6 hc_gn_7 hf_gn_7 hc_gn_8 hf_gn_8
  generalize (((((((((w3_.setCell ⟨gn, 0, none⟩ (.int .u8 0)).setCell ⟨gn, 1, none⟩ (.int .i64 0)).setCell ⟨gn, 2, none⟩ (.int .u8 0)).setCell ⟨gn, 3, none⟩ (.int .u32 0)).setCell ⟨gn, 4, none⟩ (.bool false)).setCell ⟨gn, 5, none⟩ (.int .u8 0)).setCell ⟨gn, 6, none⟩ (.int .u8 0)).setCell ⟨gn, 7, none⟩ (.slice A_p 0 c_p)).setCell ⟨gn, 8, none⟩ (.slice A_q 0 c_q)) = w4_ at hB hBN ⊢
  have HBo := Aside0.mk HB.out
  have nHB := Aside0.mk (HB.out.trans (hB.mono HB.out.size))
  clear HB
  have HB := nHB
  clear nHB
  have nHC := Aside0.mk (Kd.C_below HC_p.out hB)
  clear HC_p
  have HC_p := nHC
  clear nHC
  have nHC := Aside0.mk (Kd.C_below HC_q.out hB)
  clear HC_q
  have HC_q := nHC
  clear nHC
  have BK_gn := Aside0.mk hBN
  have GE_gn := Aside0.mk (Nat.le_trans HBo.out.size hG.out)
  clear HBo hG hBN hB
  have hc_gn_0 : w4_.cell? ⟨gn, 0, none⟩ = some (.int .u8 0) := (blk_cell BK_gn.out 0).trans rfl
  have hf_gn_0 := blk_frozen BK_gn.out 0
  have hc_gn_1 : w4_.cell? ⟨gn, 1, none⟩ = some (.int .i64 0) := (blk_cell BK_gn.out 1).trans rfl
  have hf_gn_1 := blk_frozen BK_gn.out 1
  have hc_gn_2 : w4_.cell? ⟨gn, 2, none⟩ = some (.int .u8 0) := (blk_cell BK_gn.out 2).trans rfl
  have hf_gn_2 := blk_frozen BK_gn.out 2
  have hc_gn_3 : w4_.cell? ⟨gn, 3, none⟩ = some (.int .u32 0) := (blk_cell BK_gn.out 3).trans rfl
  have hf_gn_3 := blk_frozen BK_gn.out 3
  have hc_gn_4 : w4_.cell? ⟨gn, 4, none⟩ = some (.bool false) := (blk_cell BK_gn.out 4).trans rfl
  have hf_gn_4 := blk_frozen BK_gn.out 4
  have hc_gn_5 : w4_.cell? ⟨gn, 5, none⟩ = some (.int .u8 0) := (blk_cell BK_gn.out 5).trans rfl
  have hf_gn_5 := blk_frozen BK_gn.out 5
  have hc_gn_6 : w4_.cell? ⟨gn, 6, none⟩ = some (.int .u8 0) := (blk_cell BK_gn.out 6).trans rfl
  have hf_gn_6 := blk_frozen BK_gn.out 6
  have hc_gn_7 : w4_.cell? ⟨gn, 7, none⟩ = some (.slice A_p 0 c_p) := (blk_cell BK_gn.out 7).trans rfl
  have hf_gn_7 := blk_frozen BK_gn.out 7
  have hc_gn_8 : w4_.cell? ⟨gn, 8, none⟩ = some (.slice A_q 0 c_q) := (blk_cell BK_gn.out 8).trans rfl
  have hf_gn_8 := blk_frozen BK_gn.out 8
  go_wp2_with (first | (go_at_call 19; with_reducible refine (rsame0_w _ _ _ _ _ HC_p.out HK_p.out HC_q.out HK_q.out).mono ?_; rintro e w5_ ⟨rfl, hB⟩; have nHB := Aside0.mk (HB.out.trans (hB.mono HB.out.size)); clear HB; have HB := nHB; clear nHB; clear hc_gn_0 hf_gn_0 hc_gn_1 hf_gn_1 hc_gn_2 hf_gn_2 hc_gn_3 hf_gn_3 hc_gn_4 hf_gn_4 hc_gn_5 hf_gn_5 hc_gn_6 hf_gn_6 hc_gn_7 hf_gn_7 hc_gn_8 hf_gn_8; have nBK := Aside0.mk (blk_below (g := gn) (o := .cells #[.int .u8 0, .int .i64 0, .int .u8 0, .int .u32 0, .bool false, .int .u8 0, .int .u8 0, .slice A_p 0 c_p, .slice A_q 0 c_q] 27 (0, 0)) BK_gn.out hB); clear BK_gn; have BK_gn := nBK; clear nBK; have hc_gn_0 : w5_.cell? ⟨gn, 0, none⟩ = some (.int .u8 0) := (blk_cell BK_gn.out 0).trans rfl; have hf_gn_0 := blk_frozen BK_gn.out 0; have hc_gn_1 : w5_.cell? ⟨gn, 1, none⟩ = some (.int .i64 0) := (blk_cell BK_gn.out 1).trans rfl; have hf_gn_1 := blk_frozen BK_gn.out 1; have hc_gn_2 : w5_.cell? ⟨gn, 2, none⟩ = some (.int .u8 0) := (blk_cell BK_gn.out 2).trans rfl; have hf_gn_2 := blk_frozen BK_gn.out 2; have hc_gn_3 : w5_.cell? ⟨gn, 3, none⟩ = some (.int .u32 0) := (blk_cell BK_gn.out 3).trans rfl; have hf_gn_3 := blk_frozen BK_gn.out 3; have hc_gn_4 : w5_.cell? ⟨gn, 4, none⟩ = some (.bool false) := (blk_cell BK_gn.out 4).trans rfl; have hf_gn_4 := blk_frozen BK_gn.out 4; have hc_gn_5 : w5_.cell? ⟨gn, 5, none⟩ = some (.int .u8 0) := (blk_cell BK_gn.out 5).trans rfl; have hf_gn_5 := blk_frozen BK_gn.out 5; have hc_gn_6 : w5_.cell? ⟨gn, 6, none⟩ = some (.int .u8 0) := (blk_cell BK_gn.out 6).trans rfl; have hf_gn_6 := blk_frozen BK_gn.out 6; have hc_gn_7 : w5_.cell? ⟨gn, 7, none⟩ = some (.slice A_p 0 c_p) := (blk_cell BK_gn.out 7).trans rfl; have hf_gn_7 := blk_frozen BK_gn.out 7; have hc_gn_8 : w5_.cell? ⟨gn, 8, none⟩ = some (.slice A_q 0 c_q) := (blk_cell BK_gn.out 8).trans rfl; have hf_gn_8 := blk_frozen BK_gn.out 8; have nHC := Aside0.mk (Kd.C_below HC_p.out hB); clear HC_p; have HC_p := nHC; clear nHC; have nHC := Aside0.mk (Kd.C_below HC_q.out hB); clear HC_q; have HC_q := nHC; clear nHC; clear hB))
  go_ret
  exact ⟨rfl, HB.out⟩
set_option maxHeartbeats 8000000 in
set_option maxRecDepth 100000 in
theorem only_main {b : List Int} (hl : b.length ≤ 3000) (hb : Byt b) {m : Msg} (hd : dcm b = (m, 0)) (ho : m.Ok) (hz : m.size ≤ 1000000) (hb1 : rightB m = true) {x : List Int} (hx : enc m = x) (hxl : x.length = b.length) (hxb : Byt x) (hd2 : dcm x = (m, 0)) (A_b : Option Addr) (c_b : Nat) (w : World) (hr : Kd.C (Kd.int .u8) w A_b b.length b) (hc : b.length ≤ c_b) :
    Calls Try.prog 6 #[.slice A_b b.length c_b] w fun e w' => e = .returned (.bool true) ∧ Below w.heap.size w w' := by
  have hu27 := Try.underlying27
  have HB := Aside0.mk (Below.refl w.heap.size w)
  have HC_b := Aside0.mk hr
  have HK_b := Aside0.mk hc
  clear hr hc
  have HBL := Aside0.mk (show b.length ≤ 400000 by omega)
  have HXL4 := Aside0.mk (show x.length ≤ 400000 by omega)
  have HB_ := Aside0.mk hb; clear hb; have HD := Aside0.mk hd; clear hd; have HO := Aside0.mk ho; clear ho; have HZ := Aside0.mk hz; clear hz; have HB1 := Aside0.mk hb1; clear hb1; have HX := Aside0.mk hx; clear hx; have HXL := Aside0.mk hxl; clear hxl; have HXB := Aside0.mk hxb; clear hxb; have HD2 := Aside0.mk hd2; clear hd2
  go_enter Try.func6, Try.ntmps6
  go_upto_region 5 with (first | (go_at_call 11; with_reducible refine (shown_calls _).mono ?_; rintro e w1_ ⟨rfl, hB⟩; have nHB := Aside0.mk (HB.out.trans (hB.mono HB.out.size)); clear HB; have HB := nHB; clear nHB; clear hB) | (go_at_call 20; (with_reducible refine (decm_w HB_.out HBL.out HD.out _ _ _ (Kd.C_below HC_b.out HB.out) HK_b.out).mono ?_); rintro e w2_ ⟨v_p, v_q, rfl, hS, hN, hB⟩; obtain ⟨A_p, c_p, rfl⟩ := Kd.R_slice hS; obtain ⟨A_q, c_q, rfl⟩ := Kd.N_slice hN; have nHB := Aside0.mk (HB.out.trans (hB.mono HB.out.size)); clear HB; have HB := nHB; clear nHB; have HC_p := Aside0.mk (show Kd.C (Kd.int .u32) w2_ A_p m.srcs.length m.srcs from (Kd.R_reads' hS).2.2); have HK_p := Aside0.mk (show m.srcs.length ≤ c_p from (Kd.R_reads' hS).2.1); have HC_q := Aside0.mk (show Kd.C k44 w2_ A_q m.recs.length m.recs from (Kd.N_reads' hN).2.2); have HK_q := Aside0.mk (show m.recs.length ≤ c_q from (Kd.N_reads' hN).2.1); clear hS hN hB) | ((with_reducible refine gate_dst (N := 4) rfl ?_); (try (refine gate_guard (by rfl) ?_; dsimp only)); refine box_event ?hg (N := 4) ?hd (cs := #[.int .u8 0, .int .i64 0, .int .u8 0, .int .u32 0, .bool false, .int .u8 0, .int .u8 0, .slice none 0 0, .slice none 0 0]) (t := 27) ?hr ?_; (case hd => rfl); (case hg => rfl); (case hr => first | (go_simp; done) | (go_simp; rfl)); intro gn hg w3_ hbox hB0; have hG := Aside0.mk (show w2_.heap.size ≤ gn from Nat.le_of_eq hg.symm); clear hg; have hBX := Aside0.mk hbox; have hB1 := Aside0.mk hB0; clear hB0; have hc_gn_0 : w3_.cell? ⟨gn, 0, none⟩ = some (.int .u8 0) := (blk_cell hbox 0).trans rfl; have hf_gn_0 := blk_frozen hbox 0; have hc_gn_1 : w3_.cell? ⟨gn, 1, none⟩ = some (.int .i64 0) := (blk_cell hbox 1).trans rfl; have hf_gn_1 := blk_frozen hbox 1; have hc_gn_2 : w3_.cell? ⟨gn, 2, none⟩ = some (.int .u8 0) := (blk_cell hbox 2).trans rfl; have hf_gn_2 := blk_frozen hbox 2; have hc_gn_3 : w3_.cell? ⟨gn, 3, none⟩ = some (.int .u32 0) := (blk_cell hbox 3).trans rfl; have hf_gn_3 := blk_frozen hbox 3; have hc_gn_4 : w3_.cell? ⟨gn, 4, none⟩ = some (.bool false) := (blk_cell hbox 4).trans rfl; have hf_gn_4 := blk_frozen hbox 4; have hc_gn_5 : w3_.cell? ⟨gn, 5, none⟩ = some (.int .u8 0) := (blk_cell hbox 5).trans rfl; have hf_gn_5 := blk_frozen hbox 5; have hc_gn_6 : w3_.cell? ⟨gn, 6, none⟩ = some (.int .u8 0) := (blk_cell hbox 6).trans rfl; have hf_gn_6 := blk_frozen hbox 6; have hc_gn_7 : w3_.cell? ⟨gn, 7, none⟩ = some (.slice none 0 0) := (blk_cell hbox 7).trans rfl; have hf_gn_7 := blk_frozen hbox 7; have hc_gn_8 : w3_.cell? ⟨gn, 8, none⟩ = some (.slice none 0 0) := (blk_cell hbox 8).trans rfl; have hf_gn_8 := blk_frozen hbox 8; clear hbox))
  have hB : Below w2_.heap.size w2_ (((((((((w3_.setCell ⟨gn, 0, none⟩ (.int .u8 m.k)).setCell ⟨gn, 1, none⟩ (.int .i64 m.ver)).setCell ⟨gn, 2, none⟩ (.int .u8 m.code)).setCell ⟨gn, 3, none⟩ (.int .u32 m.grp)).setCell ⟨gn, 4, none⟩ (.bool m.quiet)).setCell ⟨gn, 5, none⟩ (.int .u8 m.rob)).setCell ⟨gn, 6, none⟩ (.int .u8 m.every)).setCell ⟨gn, 7, none⟩ (.slice A_p m.srcs.length c_p)).setCell ⟨gn, 8, none⟩ (.slice A_q m.recs.length c_q)) := (below_set (below_set (below_set (below_set (below_set (below_set (below_set (below_set (below_set hB1.out hG.out) hG.out) hG.out) hG.out) hG.out) hG.out) hG.out) hG.out) hG.out)
  have hBN : (((((((((w3_.setCell ⟨gn, 0, none⟩ (.int .u8 m.k)).setCell ⟨gn, 1, none⟩ (.int .i64 m.ver)).setCell ⟨gn, 2, none⟩ (.int .u8 m.code)).setCell ⟨gn, 3, none⟩ (.int .u32 m.grp)).setCell ⟨gn, 4, none⟩ (.bool m.quiet)).setCell ⟨gn, 5, none⟩ (.int .u8 m.rob)).setCell ⟨gn, 6, none⟩ (.int .u8 m.every)).setCell ⟨gn, 7, none⟩ (.slice A_p m.srcs.length c_p)).setCell ⟨gn, 8, none⟩ (.slice A_q m.recs.length c_q)).heap[gn]? = some (.cells #[.int .u8 m.k, .int .i64 m.ver, .int .u8 m.code, .int .u32 m.grp, .bool m.quiet, .int .u8 m.rob, .int .u8 m.every, .slice A_p m.srcs.length c_p, .slice A_q m.recs.length c_q] 27 (0, 0)) := (blk_put (cs := #[.int .u8 m.k, .int .i64 m.ver, .int .u8 m.code, .int .u32 m.grp, .bool m.quiet, .int .u8 m.rob, .int .u8 m.every, .slice A_p m.srcs.length c_p, .slice none 0 0]) (blk_put (cs := #[.int .u8 m.k, .int .i64 m.ver, .int .u8 m.code, .int .u32 m.grp, .bool m.quiet, .int .u8 m.rob, .int .u8 m.every, .slice none 0 0, .slice none 0 0]) (blk_put (cs := #[.int .u8 m.k, .int .i64 m.ver, .int .u8 m.code, .int .u32 m.grp, .bool m.quiet, .int .u8 m.rob, .int .u8 0, .slice none 0 0, .slice none 0 0]) (blk_put (cs := #[.int .u8 m.k, .int .i64 m.ver, .int .u8 m.code, .int .u32 m.grp, .bool m.quiet, .int .u8 0, .int .u8 0, .slice none 0 0, .slice none 0 0]) (blk_put (cs := #[.int .u8 m.k, .int .i64 m.ver, .int .u8 m.code, .int .u32 m.grp, .bool false, .int .u8 0, .int .u8 0, .slice none 0 0, .slice none 0 0]) (blk_put (cs := #[.int .u8 m.k, .int .i64 m.ver, .int .u8 m.code, .int .u32 0, .bool false, .int .u8 0, .int .u8 0, .slice none 0 0, .slice none 0 0]) (blk_put (cs := #[.int .u8 m.k, .int .i64 m.ver, .int .u8 0, .int .u32 0, .bool false, .int .u8 0, .int .u8 0, .slice none 0 0, .slice none 0 0]) (blk_put (cs := #[.int .u8 m.k, .int .i64 0, .int .u8 0, .int .u32 0, .bool false, .int .u8 0, .int .u8 0, .slice none 0 0, .slice none 0 0]) (blk_put (cs := #[.int .u8 0, .int .i64 0, .int .u8 0, .int .u32 0, .bool false, .int .u8 0, .int .u8 0, .slice none 0 0, .slice none 0 0]) hBX.out 0 (.int .u8 m.k) rfl) 1 (.int .i64 m.ver) rfl) 2 (.int .u8 m.code) rfl) 3 (.int .u32 m.grp) rfl) 4 (.bool m.quiet) rfl) 5 (.int .u8 m.rob) rfl) 6 (.int .u8 m.every) rfl) 7 (.slice A_p m.srcs.length c_p) rfl) 8 (.slice A_q m.recs.length c_q) rfl)
  clear hBX hB1
  clear hc_gn_0 hf_gn_0 hc_gn_1 hf_gn_1 hc_gn_2 hf_gn_2 hc_gn_3 hf_gn_3 hc_gn_4 hf_gn_4 hc_gn_5 hf_gn_5 hc_gn_6 hf_gn_6 hc_gn_7 hf_gn_7 hc_gn_8 hf_gn_8
  generalize (((((((((w3_.setCell ⟨gn, 0, none⟩ (.int .u8 m.k)).setCell ⟨gn, 1, none⟩ (.int .i64 m.ver)).setCell ⟨gn, 2, none⟩ (.int .u8 m.code)).setCell ⟨gn, 3, none⟩ (.int .u32 m.grp)).setCell ⟨gn, 4, none⟩ (.bool m.quiet)).setCell ⟨gn, 5, none⟩ (.int .u8 m.rob)).setCell ⟨gn, 6, none⟩ (.int .u8 m.every)).setCell ⟨gn, 7, none⟩ (.slice A_p m.srcs.length c_p)).setCell ⟨gn, 8, none⟩ (.slice A_q m.recs.length c_q)) = w4_ at hB hBN ⊢
  have HBo := Aside0.mk HB.out
  have nHB := Aside0.mk (HB.out.trans (hB.mono HB.out.size))
  clear HB
  have HB := nHB
  clear nHB
  have nHC := Aside0.mk (Kd.C_below HC_p.out hB)
  clear HC_p
  have HC_p := nHC
  clear nHC
  have nHC := Aside0.mk (Kd.C_below HC_q.out hB)
  clear HC_q
  have HC_q := nHC
  clear nHC
  have BK_gn := Aside0.mk hBN
  have GE_gn := Aside0.mk (Nat.le_trans HBo.out.size hG.out)
  clear HBo hG hBN hB
  have hc_gn_0 : w4_.cell? ⟨gn, 0, none⟩ = some (.int .u8 m.k) := (blk_cell BK_gn.out 0).trans rfl
  have hf_gn_0 := blk_frozen BK_gn.out 0
  have hc_gn_1 : w4_.cell? ⟨gn, 1, none⟩ = some (.int .i64 m.ver) := (blk_cell BK_gn.out 1).trans rfl
  have hf_gn_1 := blk_frozen BK_gn.out 1
  have hc_gn_2 : w4_.cell? ⟨gn, 2, none⟩ = some (.int .u8 m.code) := (blk_cell BK_gn.out 2).trans rfl
  have hf_gn_2 := blk_frozen BK_gn.out 2
  have hc_gn_3 : w4_.cell? ⟨gn, 3, none⟩ = some (.int .u32 m.grp) := (blk_cell BK_gn.out 3).trans rfl
  have hf_gn_3 := blk_frozen BK_gn.out 3
  have hc_gn_4 : w4_.cell? ⟨gn, 4, none⟩ = some (.bool m.quiet) := (blk_cell BK_gn.out 4).trans rfl
  have hf_gn_4 := blk_frozen BK_gn.out 4
  have hc_gn_5 : w4_.cell? ⟨gn, 5, none⟩ = some (.int .u8 m.rob) := (blk_cell BK_gn.out 5).trans rfl
  have hf_gn_5 := blk_frozen BK_gn.out 5
  have hc_gn_6 : w4_.cell? ⟨gn, 6, none⟩ = some (.int .u8 m.every) := (blk_cell BK_gn.out 6).trans rfl
  have hf_gn_6 := blk_frozen BK_gn.out 6
  have hc_gn_7 : w4_.cell? ⟨gn, 7, none⟩ = some (.slice A_p m.srcs.length c_p) := (blk_cell BK_gn.out 7).trans rfl
  have hf_gn_7 := blk_frozen BK_gn.out 7
  have hc_gn_8 : w4_.cell? ⟨gn, 8, none⟩ = some (.slice A_q m.recs.length c_q) := (blk_cell BK_gn.out 8).trans rfl
  have hf_gn_8 := blk_frozen BK_gn.out 8
  go_upto_region 9 with (first | (go_at_call 13; with_reducible refine (encok_w HO.out HB1.out HX.out _ _ _ _ _ HC_p.out HK_p.out HC_q.out HK_q.out).mono ?_; rintro e w5_ ⟨v_x, rfl, hR, hB⟩; obtain ⟨A_x, c_x, rfl⟩ := Kd.R_slice hR; have hsz := HB.out.size; have nHB := Aside0.mk (HB.out.trans (hB.mono HB.out.size)); clear HB; have HB := nHB; clear nHB; clear hc_gn_0 hf_gn_0 hc_gn_1 hf_gn_1 hc_gn_2 hf_gn_2 hc_gn_3 hf_gn_3 hc_gn_4 hf_gn_4 hc_gn_5 hf_gn_5 hc_gn_6 hf_gn_6 hc_gn_7 hf_gn_7 hc_gn_8 hf_gn_8; have nBK := Aside0.mk (blk_below (g := gn) (o := .cells #[.int .u8 m.k, .int .i64 m.ver, .int .u8 m.code, .int .u32 m.grp, .bool m.quiet, .int .u8 m.rob, .int .u8 m.every, .slice A_p m.srcs.length c_p, .slice A_q m.recs.length c_q] 27 (0, 0)) BK_gn.out hB); clear BK_gn; have BK_gn := nBK; clear nBK; have hc_gn_0 : w5_.cell? ⟨gn, 0, none⟩ = some (.int .u8 m.k) := (blk_cell BK_gn.out 0).trans rfl; have hf_gn_0 := blk_frozen BK_gn.out 0; have hc_gn_1 : w5_.cell? ⟨gn, 1, none⟩ = some (.int .i64 m.ver) := (blk_cell BK_gn.out 1).trans rfl; have hf_gn_1 := blk_frozen BK_gn.out 1; have hc_gn_2 : w5_.cell? ⟨gn, 2, none⟩ = some (.int .u8 m.code) := (blk_cell BK_gn.out 2).trans rfl; have hf_gn_2 := blk_frozen BK_gn.out 2; have hc_gn_3 : w5_.cell? ⟨gn, 3, none⟩ = some (.int .u32 m.grp) := (blk_cell BK_gn.out 3).trans rfl; have hf_gn_3 := blk_frozen BK_gn.out 3; have hc_gn_4 : w5_.cell? ⟨gn, 4, none⟩ = some (.bool m.quiet) := (blk_cell BK_gn.out 4).trans rfl; have hf_gn_4 := blk_frozen BK_gn.out 4; have hc_gn_5 : w5_.cell? ⟨gn, 5, none⟩ = some (.int .u8 m.rob) := (blk_cell BK_gn.out 5).trans rfl; have hf_gn_5 := blk_frozen BK_gn.out 5; have hc_gn_6 : w5_.cell? ⟨gn, 6, none⟩ = some (.int .u8 m.every) := (blk_cell BK_gn.out 6).trans rfl; have hf_gn_6 := blk_frozen BK_gn.out 6; have hc_gn_7 : w5_.cell? ⟨gn, 7, none⟩ = some (.slice A_p m.srcs.length c_p) := (blk_cell BK_gn.out 7).trans rfl; have hf_gn_7 := blk_frozen BK_gn.out 7; have hc_gn_8 : w5_.cell? ⟨gn, 8, none⟩ = some (.slice A_q m.recs.length c_q) := (blk_cell BK_gn.out 8).trans rfl; have hf_gn_8 := blk_frozen BK_gn.out 8; have nHC := Aside0.mk (Kd.C_below HC_p.out hB); clear HC_p; have HC_p := nHC; clear nHC; have nHC := Aside0.mk (Kd.C_below HC_q.out hB); clear HC_q; have HC_q := nHC; clear nHC; have HR_x := Aside0.mk (Kd.R_mono (Kd.R_lower hR hsz) (fun _ _ => trivial : ∀ k, _ → (fun _ => True) k)); clear hR hsz; clear hB) | (go_at_call 20; (with_reducible refine (decm_w HXB.out HXL4.out HD2.out _ _ _ (Kd.R_reads' HR_x.out).2.2 (Kd.R_reads' HR_x.out).2.1).mono ?_); rintro e w6_ ⟨v_u, v_v, rfl, hS, hN, hB⟩; obtain ⟨A_u, c_u, rfl⟩ := Kd.R_slice hS; obtain ⟨A_v, c_v, rfl⟩ := Kd.N_slice hN; have nHB := Aside0.mk (HB.out.trans (hB.mono HB.out.size)); clear HB; have HB := nHB; clear nHB; clear hc_gn_0 hf_gn_0 hc_gn_1 hf_gn_1 hc_gn_2 hf_gn_2 hc_gn_3 hf_gn_3 hc_gn_4 hf_gn_4 hc_gn_5 hf_gn_5 hc_gn_6 hf_gn_6 hc_gn_7 hf_gn_7 hc_gn_8 hf_gn_8; have nBK := Aside0.mk (blk_below (g := gn) (o := .cells #[.int .u8 m.k, .int .i64 m.ver, .int .u8 m.code, .int .u32 m.grp, .bool m.quiet, .int .u8 m.rob, .int .u8 m.every, .slice A_p m.srcs.length c_p, .slice A_q m.recs.length c_q] 27 (0, 0)) BK_gn.out hB); clear BK_gn; have BK_gn := nBK; clear nBK; have hc_gn_0 : w6_.cell? ⟨gn, 0, none⟩ = some (.int .u8 m.k) := (blk_cell BK_gn.out 0).trans rfl; have hf_gn_0 := blk_frozen BK_gn.out 0; have hc_gn_1 : w6_.cell? ⟨gn, 1, none⟩ = some (.int .i64 m.ver) := (blk_cell BK_gn.out 1).trans rfl; have hf_gn_1 := blk_frozen BK_gn.out 1; have hc_gn_2 : w6_.cell? ⟨gn, 2, none⟩ = some (.int .u8 m.code) := (blk_cell BK_gn.out 2).trans rfl; have hf_gn_2 := blk_frozen BK_gn.out 2; have hc_gn_3 : w6_.cell? ⟨gn, 3, none⟩ = some (.int .u32 m.grp) := (blk_cell BK_gn.out 3).trans rfl; have hf_gn_3 := blk_frozen BK_gn.out 3; have hc_gn_4 : w6_.cell? ⟨gn, 4, none⟩ = some (.bool m.quiet) := (blk_cell BK_gn.out 4).trans rfl; have hf_gn_4 := blk_frozen BK_gn.out 4; have hc_gn_5 : w6_.cell? ⟨gn, 5, none⟩ = some (.int .u8 m.rob) := (blk_cell BK_gn.out 5).trans rfl; have hf_gn_5 := blk_frozen BK_gn.out 5; have hc_gn_6 : w6_.cell? ⟨gn, 6, none⟩ = some (.int .u8 m.every) := (blk_cell BK_gn.out 6).trans rfl; have hf_gn_6 := blk_frozen BK_gn.out 6; have hc_gn_7 : w6_.cell? ⟨gn, 7, none⟩ = some (.slice A_p m.srcs.length c_p) := (blk_cell BK_gn.out 7).trans rfl; have hf_gn_7 := blk_frozen BK_gn.out 7; have hc_gn_8 : w6_.cell? ⟨gn, 8, none⟩ = some (.slice A_q m.recs.length c_q) := (blk_cell BK_gn.out 8).trans rfl; have hf_gn_8 := blk_frozen BK_gn.out 8; have nHC := Aside0.mk (Kd.C_below HC_p.out hB); clear HC_p; have HC_p := nHC; clear nHC; have nHC := Aside0.mk (Kd.C_below HC_q.out hB); clear HC_q; have HC_q := nHC; clear nHC; have nHC := Aside0.mk (Kd.R_below HR_x.out hB); clear HR_x; have HR_x := nHC; clear nHC; have HC_u := Aside0.mk (show Kd.C (Kd.int .u32) w6_ A_u m.srcs.length m.srcs from (Kd.R_reads' hS).2.2); have HK_u := Aside0.mk (show m.srcs.length ≤ c_u from (Kd.R_reads' hS).2.1); have HC_v := Aside0.mk (show Kd.C k44 w6_ A_v m.recs.length m.recs from (Kd.N_reads' hN).2.2); have HK_v := Aside0.mk (show m.recs.length ≤ c_v from (Kd.N_reads' hN).2.1); clear hS hN hB) | ((with_reducible refine gate_dst (N := 8) rfl ?_); (try (refine gate_guard (by rfl) ?_; dsimp only)); refine box_event ?hg (N := 8) ?hd (cs := #[.int .u8 0, .int .i64 0, .int .u8 0, .int .u32 0, .bool false, .int .u8 0, .int .u8 0, .slice none 0 0, .slice none 0 0]) (t := 27) ?hr ?_; (case hd => rfl); (case hg => rfl); (case hr => first | (go_simp; done) | (go_simp; rfl)); intro gk hg w7_ hbox hB0; have hG := Aside0.mk (show w6_.heap.size ≤ gk from Nat.le_of_eq hg.symm); clear hg; have hBX := Aside0.mk hbox; have hB1 := Aside0.mk hB0; clear hB0; have hc_gk_0 : w7_.cell? ⟨gk, 0, none⟩ = some (.int .u8 0) := (blk_cell hbox 0).trans rfl; have hf_gk_0 := blk_frozen hbox 0; have hc_gk_1 : w7_.cell? ⟨gk, 1, none⟩ = some (.int .i64 0) := (blk_cell hbox 1).trans rfl; have hf_gk_1 := blk_frozen hbox 1; have hc_gk_2 : w7_.cell? ⟨gk, 2, none⟩ = some (.int .u8 0) := (blk_cell hbox 2).trans rfl; have hf_gk_2 := blk_frozen hbox 2; have hc_gk_3 : w7_.cell? ⟨gk, 3, none⟩ = some (.int .u32 0) := (blk_cell hbox 3).trans rfl; have hf_gk_3 := blk_frozen hbox 3; have hc_gk_4 : w7_.cell? ⟨gk, 4, none⟩ = some (.bool false) := (blk_cell hbox 4).trans rfl; have hf_gk_4 := blk_frozen hbox 4; have hc_gk_5 : w7_.cell? ⟨gk, 5, none⟩ = some (.int .u8 0) := (blk_cell hbox 5).trans rfl; have hf_gk_5 := blk_frozen hbox 5; have hc_gk_6 : w7_.cell? ⟨gk, 6, none⟩ = some (.int .u8 0) := (blk_cell hbox 6).trans rfl; have hf_gk_6 := blk_frozen hbox 6; have hc_gk_7 : w7_.cell? ⟨gk, 7, none⟩ = some (.slice none 0 0) := (blk_cell hbox 7).trans rfl; have hf_gk_7 := blk_frozen hbox 7; have hc_gk_8 : w7_.cell? ⟨gk, 8, none⟩ = some (.slice none 0 0) := (blk_cell hbox 8).trans rfl; have hf_gk_8 := blk_frozen hbox 8; clear hbox))
  have hB : Below w6_.heap.size w6_ (((((((((w7_.setCell ⟨gk, 0, none⟩ (.int .u8 m.k)).setCell ⟨gk, 1, none⟩ (.int .i64 m.ver)).setCell ⟨gk, 2, none⟩ (.int .u8 m.code)).setCell ⟨gk, 3, none⟩ (.int .u32 m.grp)).setCell ⟨gk, 4, none⟩ (.bool m.quiet)).setCell ⟨gk, 5, none⟩ (.int .u8 m.rob)).setCell ⟨gk, 6, none⟩ (.int .u8 m.every)).setCell ⟨gk, 7, none⟩ (.slice A_u m.srcs.length c_u)).setCell ⟨gk, 8, none⟩ (.slice A_v m.recs.length c_v)) := (below_set (below_set (below_set (below_set (below_set (below_set (below_set (below_set (below_set hB1.out hG.out) hG.out) hG.out) hG.out) hG.out) hG.out) hG.out) hG.out) hG.out)
  have hBN : (((((((((w7_.setCell ⟨gk, 0, none⟩ (.int .u8 m.k)).setCell ⟨gk, 1, none⟩ (.int .i64 m.ver)).setCell ⟨gk, 2, none⟩ (.int .u8 m.code)).setCell ⟨gk, 3, none⟩ (.int .u32 m.grp)).setCell ⟨gk, 4, none⟩ (.bool m.quiet)).setCell ⟨gk, 5, none⟩ (.int .u8 m.rob)).setCell ⟨gk, 6, none⟩ (.int .u8 m.every)).setCell ⟨gk, 7, none⟩ (.slice A_u m.srcs.length c_u)).setCell ⟨gk, 8, none⟩ (.slice A_v m.recs.length c_v)).heap[gk]? = some (.cells #[.int .u8 m.k, .int .i64 m.ver, .int .u8 m.code, .int .u32 m.grp, .bool m.quiet, .int .u8 m.rob, .int .u8 m.every, .slice A_u m.srcs.length c_u, .slice A_v m.recs.length c_v] 27 (0, 0)) := (blk_put (cs := #[.int .u8 m.k, .int .i64 m.ver, .int .u8 m.code, .int .u32 m.grp, .bool m.quiet, .int .u8 m.rob, .int .u8 m.every, .slice A_u m.srcs.length c_u, .slice none 0 0]) (blk_put (cs := #[.int .u8 m.k, .int .i64 m.ver, .int .u8 m.code, .int .u32 m.grp, .bool m.quiet, .int .u8 m.rob, .int .u8 m.every, .slice none 0 0, .slice none 0 0]) (blk_put (cs := #[.int .u8 m.k, .int .i64 m.ver, .int .u8 m.code, .int .u32 m.grp, .bool m.quiet, .int .u8 m.rob, .int .u8 0, .slice none 0 0, .slice none 0 0]) (blk_put (cs := #[.int .u8 m.k, .int .i64 m.ver, .int .u8 m.code, .int .u32 m.grp, .bool m.quiet, .int .u8 0, .int .u8 0, .slice none 0 0, .slice none 0 0]) (blk_put (cs := #[.int .u8 m.k, .int .i64 m.ver, .int .u8 m.code, .int .u32 m.grp, .bool false, .int .u8 0, .int .u8 0, .slice none 0 0, .slice none 0 0]) (blk_put (cs := #[.int .u8 m.k, .int .i64 m.ver, .int .u8 m.code, .int .u32 0, .bool false, .int .u8 0, .int .u8 0, .slice none 0 0, .slice none 0 0]) (blk_put (cs := #[.int .u8 m.k, .int .i64 m.ver, .int .u8 0, .int .u32 0, .bool false, .int .u8 0, .int .u8 0, .slice none 0 0, .slice none 0 0]) (blk_put (cs := #[.int .u8 m.k, .int .i64 0, .int .u8 0, .int .u32 0, .bool false, .int .u8 0, .int .u8 0, .slice none 0 0, .slice none 0 0]) (blk_put (cs := #[.int .u8 0, .int .i64 0, .int .u8 0, .int .u32 0, .bool false, .int .u8 0, .int .u8 0, .slice none 0 0, .slice none 0 0]) hBX.out 0 (.int .u8 m.k) rfl) 1 (.int .i64 m.ver) rfl) 2 (.int .u8 m.code) rfl) 3 (.int .u32 m.grp) rfl) 4 (.bool m.quiet) rfl) 5 (.int .u8 m.rob) rfl) 6 (.int .u8 m.every) rfl) 7 (.slice A_u m.srcs.length c_u) rfl) 8 (.slice A_v m.recs.length c_v) rfl)
  clear hBX hB1
  clear hc_gk_0 hf_gk_0 hc_gk_1 hf_gk_1 hc_gk_2 hf_gk_2 hc_gk_3 hf_gk_3 hc_gk_4 hf_gk_4 hc_gk_5 hf_gk_5 hc_gk_6 hf_gk_6 hc_gk_7 hf_gk_7 hc_gk_8 hf_gk_8
  generalize (((((((((w7_.setCell ⟨gk, 0, none⟩ (.int .u8 m.k)).setCell ⟨gk, 1, none⟩ (.int .i64 m.ver)).setCell ⟨gk, 2, none⟩ (.int .u8 m.code)).setCell ⟨gk, 3, none⟩ (.int .u32 m.grp)).setCell ⟨gk, 4, none⟩ (.bool m.quiet)).setCell ⟨gk, 5, none⟩ (.int .u8 m.rob)).setCell ⟨gk, 6, none⟩ (.int .u8 m.every)).setCell ⟨gk, 7, none⟩ (.slice A_u m.srcs.length c_u)).setCell ⟨gk, 8, none⟩ (.slice A_v m.recs.length c_v)) = w8_ at hB hBN ⊢
  have NB_gk_gn := Aside0.mk (show gk ≠ gn from Nat.ne_of_gt (Nat.lt_of_lt_of_le (blk_lt (g := gn) (o := .cells #[.int .u8 m.k, .int .i64 m.ver, .int .u8 m.code, .int .u32 m.grp, .bool m.quiet, .int .u8 m.rob, .int .u8 m.every, .slice A_p m.srcs.length c_p, .slice A_q m.recs.length c_q] 27 (0, 0)) BK_gn.out) hG.out))
  have NB_gn_gk := Aside0.mk (Ne.symm NB_gk_gn.out)
  have HBo := Aside0.mk HB.out
  have nHB := Aside0.mk (HB.out.trans (hB.mono HB.out.size))
  clear HB
  have HB := nHB
  clear nHB
  clear hc_gn_0 hf_gn_0 hc_gn_1 hf_gn_1 hc_gn_2 hf_gn_2 hc_gn_3 hf_gn_3 hc_gn_4 hf_gn_4 hc_gn_5 hf_gn_5 hc_gn_6 hf_gn_6 hc_gn_7 hf_gn_7 hc_gn_8 hf_gn_8
  have nBK := Aside0.mk (blk_below (g := gn) (o := .cells #[.int .u8 m.k, .int .i64 m.ver, .int .u8 m.code, .int .u32 m.grp, .bool m.quiet, .int .u8 m.rob, .int .u8 m.every, .slice A_p m.srcs.length c_p, .slice A_q m.recs.length c_q] 27 (0, 0)) BK_gn.out hB)
  clear BK_gn
  have BK_gn := nBK
  clear nBK
  have hc_gn_0 : w8_.cell? ⟨gn, 0, none⟩ = some (.int .u8 m.k) := (blk_cell BK_gn.out 0).trans rfl
  have hf_gn_0 := blk_frozen BK_gn.out 0
  have hc_gn_1 : w8_.cell? ⟨gn, 1, none⟩ = some (.int .i64 m.ver) := (blk_cell BK_gn.out 1).trans rfl
  have hf_gn_1 := blk_frozen BK_gn.out 1
  have hc_gn_2 : w8_.cell? ⟨gn, 2, none⟩ = some (.int .u8 m.code) := (blk_cell BK_gn.out 2).trans rfl
  have hf_gn_2 := blk_frozen BK_gn.out 2
  have hc_gn_3 : w8_.cell? ⟨gn, 3, none⟩ = some (.int .u32 m.grp) := (blk_cell BK_gn.out 3).trans rfl
  have hf_gn_3 := blk_frozen BK_gn.out 3
  have hc_gn_4 : w8_.cell? ⟨gn, 4, none⟩ = some (.bool m.quiet) := (blk_cell BK_gn.out 4).trans rfl
  have hf_gn_4 := blk_frozen BK_gn.out 4
  have hc_gn_5 : w8_.cell? ⟨gn, 5, none⟩ = some (.int .u8 m.rob) := (blk_cell BK_gn.out 5).trans rfl
  have hf_gn_5 := blk_frozen BK_gn.out 5
  have hc_gn_6 : w8_.cell? ⟨gn, 6, none⟩ = some (.int .u8 m.every) := (blk_cell BK_gn.out 6).trans rfl
  have hf_gn_6 := blk_frozen BK_gn.out 6
  have hc_gn_7 : w8_.cell? ⟨gn, 7, none⟩ = some (.slice A_p m.srcs.length c_p) := (blk_cell BK_gn.out 7).trans rfl
  have hf_gn_7 := blk_frozen BK_gn.out 7
  have hc_gn_8 : w8_.cell? ⟨gn, 8, none⟩ = some (.slice A_q m.recs.length c_q) := (blk_cell BK_gn.out 8).trans rfl
  have hf_gn_8 := blk_frozen BK_gn.out 8
  have nHC := Aside0.mk (Kd.C_below HC_p.out hB)
  clear HC_p
  have HC_p := nHC
  clear nHC
  have nHC := Aside0.mk (Kd.C_below HC_q.out hB)
  clear HC_q
  have HC_q := nHC
  clear nHC
  have nHC := Aside0.mk (Kd.R_below HR_x.out hB)
  clear HR_x
  have HR_x := nHC
  clear nHC
  have nHC := Aside0.mk (Kd.C_below HC_u.out hB)
  clear HC_u
  have HC_u := nHC
  clear nHC
  have nHC := Aside0.mk (Kd.C_below HC_v.out hB)
  clear HC_v
  have HC_v := nHC
  clear nHC
  have BK_gk := Aside0.mk hBN
  have GE_gk := Aside0.mk (Nat.le_trans HBo.out.size hG.out)
  clear HBo hG hBN hB
  have hc_gk_0 : w8_.cell? ⟨gk, 0, none⟩ = some (.int .u8 m.k) := (blk_cell BK_gk.out 0).trans rfl
  have hf_gk_0 := blk_frozen BK_gk.out 0
  have hc_gk_1 : w8_.cell? ⟨gk, 1, none⟩ = some (.int .i64 m.ver) := (blk_cell BK_gk.out 1).trans rfl
  have hf_gk_1 := blk_frozen BK_gk.out 1
  have hc_gk_2 : w8_.cell? ⟨gk, 2, none⟩ = some (.int .u8 m.code) := (blk_cell BK_gk.out 2).trans rfl
  have hf_gk_2 := blk_frozen BK_gk.out 2
  have hc_gk_3 : w8_.cell? ⟨gk, 3, none⟩ = some (.int .u32 m.grp) := (blk_cell BK_gk.out 3).trans rfl
  have hf_gk_3 := blk_frozen BK_gk.out 3
  have hc_gk_4 : w8_.cell? ⟨gk, 4, none⟩ = some (.bool m.quiet) := (blk_cell BK_gk.out 4).trans rfl
  have hf_gk_4 := blk_frozen BK_gk.out 4
  have hc_gk_5 : w8_.cell? ⟨gk, 5, none⟩ = some (.int .u8 m.rob) := (blk_cell BK_gk.out 5).trans rfl
  have hf_gk_5 := blk_frozen BK_gk.out 5
  have hc_gk_6 : w8_.cell? ⟨gk, 6, none⟩ = some (.int .u8 m.every) := (blk_cell BK_gk.out 6).trans rfl
  have hf_gk_6 := blk_frozen BK_gk.out 6
  have hc_gk_7 : w8_.cell? ⟨gk, 7, none⟩ = some (.slice A_u m.srcs.length c_u) := (blk_cell BK_gk.out 7).trans rfl
  have hf_gk_7 := blk_frozen BK_gk.out 7
  have hc_gk_8 : w8_.cell? ⟨gk, 8, none⟩ = some (.slice A_v m.recs.length c_v) := (blk_cell BK_gk.out 8).trans rfl
  have hf_gk_8 := blk_frozen BK_gk.out 8
  have hxl := HXL.out
  go_wp2_with (first | (go_at_call 15; with_reducible refine (rightm_w HO.out HZ.out HB1.out _ _ _ _ _ HC_p.out HK_p.out HC_q.out HK_q.out).mono ?_; rintro e w9_ ⟨rfl, hB⟩; have nHB := Aside0.mk (HB.out.trans (hB.mono HB.out.size)); clear HB; have HB := nHB; clear nHB; clear hc_gn_0 hf_gn_0 hc_gn_1 hf_gn_1 hc_gn_2 hf_gn_2 hc_gn_3 hf_gn_3 hc_gn_4 hf_gn_4 hc_gn_5 hf_gn_5 hc_gn_6 hf_gn_6 hc_gn_7 hf_gn_7 hc_gn_8 hf_gn_8; have nBK := Aside0.mk (blk_below (g := gn) (o := .cells #[.int .u8 m.k, .int .i64 m.ver, .int .u8 m.code, .int .u32 m.grp, .bool m.quiet, .int .u8 m.rob, .int .u8 m.every, .slice A_p m.srcs.length c_p, .slice A_q m.recs.length c_q] 27 (0, 0)) BK_gn.out hB); clear BK_gn; have BK_gn := nBK; clear nBK; have hc_gn_0 : w9_.cell? ⟨gn, 0, none⟩ = some (.int .u8 m.k) := (blk_cell BK_gn.out 0).trans rfl; have hf_gn_0 := blk_frozen BK_gn.out 0; have hc_gn_1 : w9_.cell? ⟨gn, 1, none⟩ = some (.int .i64 m.ver) := (blk_cell BK_gn.out 1).trans rfl; have hf_gn_1 := blk_frozen BK_gn.out 1; have hc_gn_2 : w9_.cell? ⟨gn, 2, none⟩ = some (.int .u8 m.code) := (blk_cell BK_gn.out 2).trans rfl; have hf_gn_2 := blk_frozen BK_gn.out 2; have hc_gn_3 : w9_.cell? ⟨gn, 3, none⟩ = some (.int .u32 m.grp) := (blk_cell BK_gn.out 3).trans rfl; have hf_gn_3 := blk_frozen BK_gn.out 3; have hc_gn_4 : w9_.cell? ⟨gn, 4, none⟩ = some (.bool m.quiet) := (blk_cell BK_gn.out 4).trans rfl; have hf_gn_4 := blk_frozen BK_gn.out 4; have hc_gn_5 : w9_.cell? ⟨gn, 5, none⟩ = some (.int .u8 m.rob) := (blk_cell BK_gn.out 5).trans rfl; have hf_gn_5 := blk_frozen BK_gn.out 5; have hc_gn_6 : w9_.cell? ⟨gn, 6, none⟩ = some (.int .u8 m.every) := (blk_cell BK_gn.out 6).trans rfl; have hf_gn_6 := blk_frozen BK_gn.out 6; have hc_gn_7 : w9_.cell? ⟨gn, 7, none⟩ = some (.slice A_p m.srcs.length c_p) := (blk_cell BK_gn.out 7).trans rfl; have hf_gn_7 := blk_frozen BK_gn.out 7; have hc_gn_8 : w9_.cell? ⟨gn, 8, none⟩ = some (.slice A_q m.recs.length c_q) := (blk_cell BK_gn.out 8).trans rfl; have hf_gn_8 := blk_frozen BK_gn.out 8; clear hc_gk_0 hf_gk_0 hc_gk_1 hf_gk_1 hc_gk_2 hf_gk_2 hc_gk_3 hf_gk_3 hc_gk_4 hf_gk_4 hc_gk_5 hf_gk_5 hc_gk_6 hf_gk_6 hc_gk_7 hf_gk_7 hc_gk_8 hf_gk_8; have nBK := Aside0.mk (blk_below (g := gk) (o := .cells #[.int .u8 m.k, .int .i64 m.ver, .int .u8 m.code, .int .u32 m.grp, .bool m.quiet, .int .u8 m.rob, .int .u8 m.every, .slice A_u m.srcs.length c_u, .slice A_v m.recs.length c_v] 27 (0, 0)) BK_gk.out hB); clear BK_gk; have BK_gk := nBK; clear nBK; have hc_gk_0 : w9_.cell? ⟨gk, 0, none⟩ = some (.int .u8 m.k) := (blk_cell BK_gk.out 0).trans rfl; have hf_gk_0 := blk_frozen BK_gk.out 0; have hc_gk_1 : w9_.cell? ⟨gk, 1, none⟩ = some (.int .i64 m.ver) := (blk_cell BK_gk.out 1).trans rfl; have hf_gk_1 := blk_frozen BK_gk.out 1; have hc_gk_2 : w9_.cell? ⟨gk, 2, none⟩ = some (.int .u8 m.code) := (blk_cell BK_gk.out 2).trans rfl; have hf_gk_2 := blk_frozen BK_gk.out 2; have hc_gk_3 : w9_.cell? ⟨gk, 3, none⟩ = some (.int .u32 m.grp) := (blk_cell BK_gk.out 3).trans rfl; have hf_gk_3 := blk_frozen BK_gk.out 3; have hc_gk_4 : w9_.cell? ⟨gk, 4, none⟩ = some (.bool m.quiet) := (blk_cell BK_gk.out 4).trans rfl; have hf_gk_4 := blk_frozen BK_gk.out 4; have hc_gk_5 : w9_.cell? ⟨gk, 5, none⟩ = some (.int .u8 m.rob) := (blk_cell BK_gk.out 5).trans rfl; have hf_gk_5 := blk_frozen BK_gk.out 5; have hc_gk_6 : w9_.cell? ⟨gk, 6, none⟩ = some (.int .u8 m.every) := (blk_cell BK_gk.out 6).trans rfl; have hf_gk_6 := blk_frozen BK_gk.out 6; have hc_gk_7 : w9_.cell? ⟨gk, 7, none⟩ = some (.slice A_u m.srcs.length c_u) := (blk_cell BK_gk.out 7).trans rfl; have hf_gk_7 := blk_frozen BK_gk.out 7; have hc_gk_8 : w9_.cell? ⟨gk, 8, none⟩ = some (.slice A_v m.recs.length c_v) := (blk_cell BK_gk.out 8).trans rfl; have hf_gk_8 := blk_frozen BK_gk.out 8; have nHC := Aside0.mk (Kd.C_below HC_p.out hB); clear HC_p; have HC_p := nHC; clear nHC; have nHC := Aside0.mk (Kd.C_below HC_q.out hB); clear HC_q; have HC_q := nHC; clear nHC; have nHC := Aside0.mk (Kd.R_below HR_x.out hB); clear HR_x; have HR_x := nHC; clear nHC; have nHC := Aside0.mk (Kd.C_below HC_u.out hB); clear HC_u; have HC_u := nHC; clear nHC; have nHC := Aside0.mk (Kd.C_below HC_v.out hB); clear HC_v; have HC_v := nHC; clear nHC; clear hB) | (go_at_call 19; with_reducible refine (rself_w HZ.out _ _ _ _ _ _ _ _ _ HC_p.out HK_p.out HC_q.out HK_q.out HC_u.out HK_u.out HC_v.out HK_v.out).mono ?_; rintro e w10_ ⟨rfl, hB⟩; have nHB := Aside0.mk (HB.out.trans (hB.mono HB.out.size)); clear HB; have HB := nHB; clear nHB; clear hc_gn_0 hf_gn_0 hc_gn_1 hf_gn_1 hc_gn_2 hf_gn_2 hc_gn_3 hf_gn_3 hc_gn_4 hf_gn_4 hc_gn_5 hf_gn_5 hc_gn_6 hf_gn_6 hc_gn_7 hf_gn_7 hc_gn_8 hf_gn_8; have nBK := Aside0.mk (blk_below (g := gn) (o := .cells #[.int .u8 m.k, .int .i64 m.ver, .int .u8 m.code, .int .u32 m.grp, .bool m.quiet, .int .u8 m.rob, .int .u8 m.every, .slice A_p m.srcs.length c_p, .slice A_q m.recs.length c_q] 27 (0, 0)) BK_gn.out hB); clear BK_gn; have BK_gn := nBK; clear nBK; have hc_gn_0 : w10_.cell? ⟨gn, 0, none⟩ = some (.int .u8 m.k) := (blk_cell BK_gn.out 0).trans rfl; have hf_gn_0 := blk_frozen BK_gn.out 0; have hc_gn_1 : w10_.cell? ⟨gn, 1, none⟩ = some (.int .i64 m.ver) := (blk_cell BK_gn.out 1).trans rfl; have hf_gn_1 := blk_frozen BK_gn.out 1; have hc_gn_2 : w10_.cell? ⟨gn, 2, none⟩ = some (.int .u8 m.code) := (blk_cell BK_gn.out 2).trans rfl; have hf_gn_2 := blk_frozen BK_gn.out 2; have hc_gn_3 : w10_.cell? ⟨gn, 3, none⟩ = some (.int .u32 m.grp) := (blk_cell BK_gn.out 3).trans rfl; have hf_gn_3 := blk_frozen BK_gn.out 3; have hc_gn_4 : w10_.cell? ⟨gn, 4, none⟩ = some (.bool m.quiet) := (blk_cell BK_gn.out 4).trans rfl; have hf_gn_4 := blk_frozen BK_gn.out 4; have hc_gn_5 : w10_.cell? ⟨gn, 5, none⟩ = some (.int .u8 m.rob) := (blk_cell BK_gn.out 5).trans rfl; have hf_gn_5 := blk_frozen BK_gn.out 5; have hc_gn_6 : w10_.cell? ⟨gn, 6, none⟩ = some (.int .u8 m.every) := (blk_cell BK_gn.out 6).trans rfl; have hf_gn_6 := blk_frozen BK_gn.out 6; have hc_gn_7 : w10_.cell? ⟨gn, 7, none⟩ = some (.slice A_p m.srcs.length c_p) := (blk_cell BK_gn.out 7).trans rfl; have hf_gn_7 := blk_frozen BK_gn.out 7; have hc_gn_8 : w10_.cell? ⟨gn, 8, none⟩ = some (.slice A_q m.recs.length c_q) := (blk_cell BK_gn.out 8).trans rfl; have hf_gn_8 := blk_frozen BK_gn.out 8; clear hc_gk_0 hf_gk_0 hc_gk_1 hf_gk_1 hc_gk_2 hf_gk_2 hc_gk_3 hf_gk_3 hc_gk_4 hf_gk_4 hc_gk_5 hf_gk_5 hc_gk_6 hf_gk_6 hc_gk_7 hf_gk_7 hc_gk_8 hf_gk_8; have nBK := Aside0.mk (blk_below (g := gk) (o := .cells #[.int .u8 m.k, .int .i64 m.ver, .int .u8 m.code, .int .u32 m.grp, .bool m.quiet, .int .u8 m.rob, .int .u8 m.every, .slice A_u m.srcs.length c_u, .slice A_v m.recs.length c_v] 27 (0, 0)) BK_gk.out hB); clear BK_gk; have BK_gk := nBK; clear nBK; have hc_gk_0 : w10_.cell? ⟨gk, 0, none⟩ = some (.int .u8 m.k) := (blk_cell BK_gk.out 0).trans rfl; have hf_gk_0 := blk_frozen BK_gk.out 0; have hc_gk_1 : w10_.cell? ⟨gk, 1, none⟩ = some (.int .i64 m.ver) := (blk_cell BK_gk.out 1).trans rfl; have hf_gk_1 := blk_frozen BK_gk.out 1; have hc_gk_2 : w10_.cell? ⟨gk, 2, none⟩ = some (.int .u8 m.code) := (blk_cell BK_gk.out 2).trans rfl; have hf_gk_2 := blk_frozen BK_gk.out 2; have hc_gk_3 : w10_.cell? ⟨gk, 3, none⟩ = some (.int .u32 m.grp) := (blk_cell BK_gk.out 3).trans rfl; have hf_gk_3 := blk_frozen BK_gk.out 3; have hc_gk_4 : w10_.cell? ⟨gk, 4, none⟩ = some (.bool m.quiet) := (blk_cell BK_gk.out 4).trans rfl; have hf_gk_4 := blk_frozen BK_gk.out 4; have hc_gk_5 : w10_.cell? ⟨gk, 5, none⟩ = some (.int .u8 m.rob) := (blk_cell BK_gk.out 5).trans rfl; have hf_gk_5 := blk_frozen BK_gk.out 5; have hc_gk_6 : w10_.cell? ⟨gk, 6, none⟩ = some (.int .u8 m.every) := (blk_cell BK_gk.out 6).trans rfl; have hf_gk_6 := blk_frozen BK_gk.out 6; have hc_gk_7 : w10_.cell? ⟨gk, 7, none⟩ = some (.slice A_u m.srcs.length c_u) := (blk_cell BK_gk.out 7).trans rfl; have hf_gk_7 := blk_frozen BK_gk.out 7; have hc_gk_8 : w10_.cell? ⟨gk, 8, none⟩ = some (.slice A_v m.recs.length c_v) := (blk_cell BK_gk.out 8).trans rfl; have hf_gk_8 := blk_frozen BK_gk.out 8; have nHC := Aside0.mk (Kd.C_below HC_p.out hB); clear HC_p; have HC_p := nHC; clear nHC; have nHC := Aside0.mk (Kd.C_below HC_q.out hB); clear HC_q; have HC_q := nHC; clear nHC; have nHC := Aside0.mk (Kd.R_below HR_x.out hB); clear HR_x; have HR_x := nHC; clear nHC; have nHC := Aside0.mk (Kd.C_below HC_u.out hB); clear HC_u; have HC_u := nHC; clear nHC; have nHC := Aside0.mk (Kd.C_below HC_v.out hB); clear HC_v; have HC_v := nHC; clear nHC; clear hB))
  go_ret
  exact ⟨rfl, HB.out⟩
theorem igmpOnly_call {b : List Int} (hb : Byt b) (A_b : Option Addr) (c_b : Nat) (w : World) (hr : Kd.C (Kd.int .u8) w A_b b.length b) (hc : b.length ≤ c_b) : Calls Try.prog 6 #[.slice A_b b.length c_b] w fun e w' => e = .returned (.bool true) ∧ Below w.heap.size w w' := by
  by_cases hl : b.length ≤ 3000
  · by_cases he : (dcm b).2 = 0
    · obtain ⟨ho, hr1, hlen⟩ := dcm_ok hb he
      have hd : dcm b = ((dcm b).1, 0) := by rw [← he]
      exact only_main hl hb hd ho (by have := size_right hr1; omega) hr1 rfl hlen (enc_byt ho) (dcm_enc ho hr1) A_b c_b w hr hc
    · exact only_no hl hb (e0 := (dcm b).2) (by rw [← dcm_else he]) (bne_iff_ne.2 he) A_b c_b w hr hc
  · exact only_long (by omega) A_b c_b w hr hc
end Go.Proofs.Ytmmjmncchckbbaa
/-
  What a law's row hands over, read as the printed functions read it: for any kind built of numbers, truths, texts, slices and structs. By a session.
-/
namespace Go.Proofs.Ytmmjmncchckbbaa
open Go.ChangeShapes Go.WideShapes Go.RowKit Go.Proofs.YtmmjmncchckbbaaW.PrintWords

/-- What is trod and is light enough is read, and keeps the bounds WF. -/
def Opens {α : Type} (H : Type) (P : Program) (t : TypeId) (d : Kd α) (WF : α → Prop) : Prop :=
  ∀ {enc : TypeId × Value → H} {w : World} {fuel : Nat} {cs : List Value} {x : DataW H} {ps : List MemPlace},
    DataW.trod enc P w 0 (fun _ => true) true fuel t cs = some (x, ps) → (∀ n ∈ x.weights P t, n ≤ reachBytes) → ∃ a, d.K w a cs ∧ WF a

section
variable {H : Type} {P : Program} {t e : TypeId}
theorem opens_int {k : IntKind} (ht : P.underlying t = some (.int k)) : Opens H P t (Kd.int k) (fun a => (Lit.int k a).wf = true) := by
  intro enc w fuel cs x ps h _
  obtain ⟨n, rfl, _, hw⟩ := DataW.trod_int ht h
  exact ⟨n, rfl, hw⟩
theorem weights_all {l : List (DataW H)} {y : DataW H} (h : y ∈ l) : ∀ n ∈ y.weights P e, n ∈ DataW.weightsAll P e l := by
  induction l with
  | nil => simp at h
  | cons z l ih =>
    intro n hn
    rw [DataW.weightsAll, List.mem_append]
    rcases List.mem_cons.1 h with rfl | h
    · exact .inl hn
    · exact .inr (ih h n hn)

theorem mapM_get {α β : Type} {f : α → Option β} : ∀ {l : List α} {r : List β}, l.mapM f = some r → ∀ (i : Nat) (x : α), l[i]? = some x → f x = r[i]?
  | [], r, h, i, x, hx => by simp at hx
  | y :: l, r, h, i, x, hx => by
    rw [List.mapM_cons] at h
    simp only [Option.bind_eq_bind, Option.bind_eq_some_iff, Option.pure_def, Option.some.injEq] at h
    obtain ⟨z, hz, r', hr, rfl⟩ := h
    cases i with
    | zero => simp at hx; subst hx; simpa using hz
    | succ i => simp at hx; simpa using mapM_get hr i x hx
theorem mapM_len {α β : Type} {f : α → Option β} : ∀ {l : List α} {r : List β}, l.mapM f = some r → r.length = l.length
  | [], r, h => by simp at h; subst h; rfl
  | y :: l, r, h => by
    rw [List.mapM_cons] at h
    simp only [Option.bind_eq_bind, Option.bind_eq_some_iff, Option.pure_def, Option.some.injEq] at h
    obtain ⟨z, hz, r', hr, rfl⟩ := h
    simp [mapM_len hr]
theorem cells_get {w : World} {base : Nat} {a : Addr} {n : Nat} {cs : List Value} (h : w.cells? base a n = some cs) : cs.length = n ∧ ∀ i u, cs[i]? = some u → w.cell? (a.add i) = some u := by
  unfold World.cells? at h
  split at h
  · have hl := mapM_len h
    rw [List.length_range] at hl
    refine ⟨hl, fun i u hu => ?_⟩
    have hi : i < n := by rw [← hl]; exact (List.getElem?_eq_some_iff.1 hu).1
    rw [mapM_get h i i (by simp [hi]), hu]
  · cases h
theorem opens_slice {α : Type} {d : Kd α} {WF : α → Prop} (ht : P.underlying t = some (.slice e)) (hd : P.cellsOf e = d.sz) (he : Opens H P e d WF) :
    Opens H P t (Kd.slice e d) (fun xs => xs.length ≤ maxLen ∧ xs.length * P.bytesOf e ≤ reachBytes ∧ ∀ a ∈ xs, WF a) := by
  intro enc w fuel cs x ps h hw
  rcases DataW.trod_slice ht h with ⟨rfl, hx⟩ | ⟨a, len, cap, elems, rest, n, _, rfl, hx, _, hl, hm, hlen, hel, hsp, _⟩
  · exact ⟨[], ⟨none, 0, rfl, Nat.le_refl _, rfl, by simp, by simp⟩, by simp, by simp, by simp⟩
  · cases hx
    have hwt := hw ((elems.length + rest.length) * P.bytesOf e) (by simp [DataW.weights, ht])
    have each : ∀ i (hi : i < len), ∃ y : α, ∃ c : List Value, c.length = d.sz ∧ d.K w y c ∧ WF y ∧ ∀ j u, c[j]? = some u → w.cell? (a.add (i * d.sz + j)) = some u := by
      intro i hi
      have h1 := hel i hi
      rw [List.getElem?_eq_getElem (by omega), Option.bind_eq_some_iff] at h1
      obtain ⟨c, hc, hy⟩ := h1
      obtain ⟨hcl, hcc⟩ := cells_get hc
      obtain ⟨y, hk, hwf⟩ := he hy (fun n hn => hw n (by
        simp only [DataW.weights, ht, List.mem_cons, List.mem_append]
        exact .inr (.inl (weights_all (List.mem_map.2 ⟨elems[i], List.getElem_mem _, rfl⟩) n hn))))
      refine ⟨y, c, by rw [hcl, hd], hk, hwf, fun j u hu => ?_⟩
      have := hcc j u hu
      rwa [hd, add_add] at this
    have pick : ∃ ys : List α, ys.length = len ∧ ∀ i (y : α), ys[i]? = some y → ∃ c : List Value, c.length = d.sz ∧ d.K w y c ∧ WF y ∧ ∀ j u, c[j]? = some u → w.cell? (a.add (i * d.sz + j)) = some u := by
      clear hel hsp hw hwt hl hlen h
      induction len with
      | zero => exact ⟨[], rfl, fun i y h => by simp at h⟩
      | succ m ih =>
        obtain ⟨ys, hys, hyc⟩ := ih (fun i hi => each i (by omega))
        obtain ⟨y, hy⟩ := each m (by omega)
        refine ⟨ys ++ [y], by simp [hys], fun i z hz => ?_⟩
        rcases Nat.lt_or_ge i ys.length with h | h
        · rw [List.getElem?_append_left h] at hz
          exact hyc i z hz
        · rw [List.getElem?_append_right h] at hz
          have : i = m := by
            have := (List.getElem?_eq_some_iff.1 hz).1
            simp at this; omega
          subst this
          rw [hys, Nat.sub_self] at hz
          simp at hz
          subst hz
          exact hy
    obtain ⟨ys, hys, hyc⟩ := pick
    subst hys
    refine ⟨ys, ⟨some a, cap, rfl, hl, rfl, Nat.le_trans (Nat.le_trans hl hm) (by simp [maxLen]), fun _ => ⟨a, rfl, fun j p hp => ?_⟩⟩, Nat.le_trans hl hm, ?_, ?_⟩
    · obtain ⟨c, h1, h2, _, h3⟩ := hyc j p hp
      exact ⟨c, h1, h2, h3⟩
    · exact Nat.le_trans (Nat.mul_le_mul_right _ (by omega)) hwt
    · intro y hy
      obtain ⟨i, hi⟩ := List.getElem?_of_mem hy
      obtain ⟨c, _, _, hwf, _⟩ := hyc i y hi
      exact hwf

/-- For a row's j-th argument. -/
theorem Opens.row {α : Type} {d : Kd α} {WF : α → Prop} (h : Opens H P t d WF) {enc : TypeId × Value → H} {W : World} {ts : List TypeId} {ds : List (DataW H)} {j : Nat} {v : Value} {x : DataW H} {ps : List MemPlace}
    (hsz : (DataW.weightsEach P ts ds).all (· ≤ reachBytes) = true) (ht : ts[j]? = some t) (hd : ds[j]? = some x) (hv : DataW.Trod enc P W 0 (fun _ => true) true t v x ps) : ∃ a, d.K W a v.cells.toList ∧ WF a := by
  obtain ⟨fuel, hf⟩ := hv
  refine h hf fun n hn => ?_
  have := List.all_eq_true.1 hsz _ (DataW.weights_mem_each ht hd n hn)
  simpa using this
end
end Go.Proofs.Ytmmjmncchckbbaa
/-
  What a law of messages is handed.
-/
namespace Go.Proofs.Ytmmjmncchckbbaa
open Go.RowKit Go.Proofs.YtmmjmncchckbbaaW.PrintWords Go.Proofs.YtmmjmncchckbbaaW.PrintLast Go.Proofs.YtmmjmncchckbbaaW.PrintMore Go.Proofs.Ytmmjmncchckbbaa.PIg
set_option linter.unusedVariables false
set_option linter.unusedSimpArgs false
end Go.Proofs.Ytmmjmncchckbbaa
