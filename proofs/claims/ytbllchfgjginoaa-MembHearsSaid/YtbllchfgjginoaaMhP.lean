/-
  ref08.plain, walked.
-/
import Derived.Test.YtbllchfgjginoaaMgE
import Derived.Test.YtbllchfgjginoaaSoJ
namespace Go.Proofs.Ytbllchfgjginoaa
open Go.RowKit Go.Lib Go.Proofs.YtbllchfgjginoaaW.PrintWords Go.Proofs.YtbllchfgjginoaaW.PrintLast Go.Proofs.YtbllchfgjginoaaW.PrintMore Go.Proofs.Ytbllchfgjginoaa.PMe
set_option linter.unusedVariables false
set_option linter.unusedSimpArgs false
def okH (P : Nat → Prop) (w : World) (go : Nat) (k : Nat) : Prop := (P k ∧ k < w.heap.size ∨ w.heap.size ≤ k) ∧ k ≠ go
theorem okH_out {P : Nat → Prop} {w : World} {go k : Nat} (h : okH P w go k) : P k ∨ w.heap.size ≤ k := h.1.elim (fun h => .inl h.1) .inr
theorem okH_new {P : Nat → Prop} {w : World} {go k n : Nat} (h1 : w.heap.size ≤ n) (h2 : go < n) (h : n ≤ k) : okH P w go k := ⟨.inr (by omega), by omega⟩
theorem RV_ok {α : Type} {d : Kd α} {e : Nat} {P : Nat → Prop} {w w' : World} {go n : Nat} {v : Value} {xs : List α} (h : Kd.R d e w' n (fun _ => True) v xs) (h1 : w.heap.size ≤ n) (h2 : go < n) : Kd.V d e w' 0 (okH P w go) v xs := Kd.V_mono (Kd.R_V (Kd.R_bound h)) (fun k hk => okH_new h1 h2 hk.2.1)
theorem VA_ok {α : Type} {d : Kd α} {e : Nat} {P : Nat → Prop} {w w' : World} {go n : Nat} {v : Value} {xs : List α} (h : Kd.V d e w' 0 (fun k => okH P w go k ∨ n ≤ k) v xs) (h1 : w.heap.size ≤ n) (h2 : go < n) : Kd.V d e w' 0 (okH P w go) v xs := Kd.V_mono h (fun k hk => hk.elim id (okH_new h1 h2))
theorem mvV {α : Type} {d : Kd α} {e base : Nat} {ok : Nat → Prop} {v : Value} {xs : List α} {w w1 : World} (h : Aside0 (Kd.V d e w base ok v xs)) (hB : Below w.heap.size w w1) : Aside0 (Kd.V d e w1 base ok v xs) := ⟨Kd.V_below h.out hB⟩
def mp_T9 : Bool × List (List Nat × List Nat) := (true, [([], []), ([], []), ([0, 1], [0, 1]), ([], []), ([3], [3]), ([2, 4], [2, 4]), ([], []), ([6, 5, 2, 0, 1, 2, 3, 4, 5, 6], [5, 6])])
def mp_B9 : List Nat := [0, 0, 3, 0, 8, 31, 0, 127]
theorem mp_t9 : rtab .any (opsOf Try.f31 9) = mp_T9 := by kernel_rfl
theorem mp_b9 : waitsOk mp_T9.2 mp_B9 = true := by kernel_rfl
def mp_T12 : Bool × List (List Nat × List Nat) := (true, [([], []), ([], []), ([1], [1]), ([], []), ([], []), ([3, 4], [3, 4]), ([], []), ([6], [6]), ([0, 2, 5, 7, 5], [0, 2, 5, 7]), ([8, 8, 0, 1, 2, 3, 4, 5, 6, 7, 8], [8])])
def mp_B12 : List Nat := [0, 0, 2, 0, 0, 24, 0, 64, 255, 511]
theorem mp_t12 : rtab .any (opsOf Try.f31 12) = mp_T12 := by kernel_rfl
theorem mp_b12 : waitsOk mp_T12.2 mp_B12 = true := by kernel_rfl
def mp_T14 : Bool × List (List Nat × List Nat) := (true, [([], []), ([0], [0]), ([1], [1]), ([], []), ([3], [3]), ([], []), ([], []), ([5, 6], [5, 6]), ([], []), ([8], [8]), ([2, 4, 7, 9, 7], [2, 4, 7, 9]), ([10, 10, 0, 1, 2, 3, 4, 5, 6, 7, 8, 9, 10], [10])])
def mp_B14 : List Nat := [0, 1, 3, 0, 8, 0, 0, 96, 0, 256, 1023, 2047]
theorem mp_t14 : rtab .any (opsOf Try.f31 14) = mp_T14 := by kernel_rfl
theorem mp_b14 : waitsOk mp_T14.2 mp_B14 = true := by kernel_rfl
def mp_T15 : Bool × List (List Nat × List Nat) := (true, [([], []), ([], []), ([], []), ([], []), ([3], [3]), ([0, 1, 2, 4], [0, 1, 2, 4]), ([5], [5]), ([], []), ([7], [7]), ([], []), ([], []), ([9, 10, 5], [9, 10]), ([], []), ([12], [12]), ([6, 8, 11, 13, 11], [6, 8, 11, 13]), ([14, 14, 0, 1, 2, 3, 4, 5, 6, 7, 8, 9, 10, 11, 12, 13, 14], [14])])
def mp_B15 : List Nat := [0, 0, 0, 0, 8, 31, 63, 0, 128, 0, 0, 1599, 0, 4096, 16383, 32767]
theorem mp_t15 : rtab .any (opsOf Try.f31 15) = mp_T15 := by kernel_rfl
theorem mp_b15 : waitsOk mp_T15.2 mp_B15 = true := by kernel_rfl
set_option maxHeartbeats 8000000 in
set_option maxRecDepth 100000 in
theorem plain_w {t : S23} {g lf : Int} {ex : Bool} {sr : List S49} {kind : Int} {b : List Int} (hs : SortH sr) (hn : sr.length ≤ 1000) (hb : Rise b) (hm : b.length ≤ 1000) (hk : 1 ≤ kind ∧ kind ≤ 6) (A_x : Option Addr) (c_x : Nat) (A_b : Option Addr) (c_b : Nat) (w : World) (P : Nat → Prop) (h1 : Kd.V k49 49 w 0 P (.slice A_x sr.length c_x) sr) (h2 : Kd.V (Kd.int .u32) 25 w 0 P (.slice A_b b.length c_b) b) :
    Calls Try.prog 31 #[.agg #[.int .i64 t.f0, .int .i64 t.f1], .agg #[.int .u32 g, .bool ex, .int .i64 lf, .slice A_x sr.length c_x], .int .u8 kind, .slice A_b b.length c_b] w fun e w' => ∃ v0 v1, e = .returned (.agg #[v0, .bool (plainR t g sr kind b).ex, .int .i64 (plainR t g sr kind b).left, v1]) ∧ Kd.V k49 49 w' 0 (fun k => P k ∨ w.heap.size ≤ k) v0 (plainR t g sr kind b).srcs ∧ Kd.V k46 46 w' 0 (fun k => P k ∨ w.heap.size ≤ k) v1 (plainR t g sr kind b).asks ∧ Below w.heap.size w w' := by
  have hu23 := Try.underlying23
  have hu28 := Try.underlying28
  have hu76 := Try.underlying76
  have HB := Aside0.mk (Below.refl w.heap.size w)
  have XS := Aside0.mk hs
  have XN := Aside0.mk (show sr.length ≤ 100000 by omega)
  have XB := Aside0.mk hb
  have XM := Aside0.mk (show b.length ≤ 100000 by omega)
  have XK := Aside0.mk hk
  obtain ⟨xa, hxa⟩ : ∃ y, xS sr = y := ⟨_, rfl⟩
  obtain ⟨na, hna⟩ : ∃ y, nS sr = y := ⟨_, rfl⟩
  have XAL := Aside0.mk (show xa.length ≤ 1000 by rw [← hxa]; exact Nat.le_trans (those_len _ _) hn)
  have XNL := Aside0.mk (show na.length ≤ 1000 by rw [← hna]; exact Nat.le_trans (those_len _ _) hn)
  have XBL := Aside0.mk hm
  have XAR := Aside0.mk (show Rise xa by rw [← hxa]; exact x_rise hs)
  have XNR := Aside0.mk (show Rise na by rw [← hna]; exact those_rise _ hs)
  have XXA := Aside0.mk hxa
  have XNA := Aside0.mk hna
  have HV_x := Aside0.mk (Kd.V_bound h1)
  have HV_b := Aside0.mk (Kd.V_bound h2)
  clear h1 h2 hs hn hb hm hk hxa hna
  go_enter Try.func31, Try.ntmps31
  go_upto_region 1 with (first | ((with_reducible refine gate_dst (N := 4) rfl ?_); (try (refine gate_guard (by rfl) ?_; dsimp only)); refine bxn (cs := #[.int .i64 t.f0, .int .i64 t.f1]) (t := 23) ?_; intro gt hg w1_ hbox hB; replace HB := mvH HB hB; replace HV_x := mvV HV_x hB; replace HV_b := mvV HV_b hB; have BK_gt := Aside0.mk hbox; clear hg hbox hB; obtain ⟨hc_gt_0, hc_gt_1, hf_gt_0, -⟩ := cf2 BK_gt.out; have hf_gt_1 := blk_frozen BK_gt.out 1) | ((with_reducible refine gate_dst (N := 5) rfl ?_); (try (refine gate_guard (by rfl) ?_; dsimp only)); refine bxn (cs := #[.int .u32 g, .bool ex, .int .i64 lf, .slice A_x sr.length c_x]) (t := 28) ?_; intro gm hg w2_ hbox hB; replace HB := mvH HB hB; clear hc_gt_0 hf_gt_0 hc_gt_1 hf_gt_1; replace BK_gt := mvB BK_gt hB; obtain ⟨hc_gt_0, hc_gt_1, hf_gt_0, hf_gt_1⟩ := cf2 BK_gt.out; replace HV_x := mvV HV_x hB; replace HV_b := mvV HV_b hB; have BK_gm := Aside0.mk hbox; clear hg hbox hB; obtain ⟨hc_gm_0, hc_gm_1, hc_gm_2, hc_gm_3, hf_gm_0, hf_gm_1, hf_gm_2, -⟩ := cf4 BK_gm.out; have hf_gm_3 := blk_frozen BK_gm.out 3) | ((with_reducible refine gate_dst (N := 8) rfl ?_); (try (refine gate_guard (by rfl) ?_; dsimp only)); refine bxn (cs := #[.slice none 0 0, .bool false, .int .i64 0, .slice none 0 0]) (t := 76) ?_; intro go hg w3_ hbox hB; have HBo := HB; replace HB := mvH HB hB; clear hc_gt_0 hf_gt_0 hc_gt_1 hf_gt_1; replace BK_gt := mvB BK_gt hB; obtain ⟨hc_gt_0, hc_gt_1, hf_gt_0, hf_gt_1⟩ := cf2 BK_gt.out; clear hc_gm_0 hf_gm_0 hc_gm_1 hf_gm_1 hc_gm_2 hf_gm_2 hc_gm_3 hf_gm_3; replace BK_gm := mvB BK_gm hB; obtain ⟨hc_gm_0, hc_gm_1, hc_gm_2, hc_gm_3, hf_gm_0, hf_gm_1, hf_gm_2, hf_gm_3⟩ := cf4 BK_gm.out; replace HV_x := mvV HV_x hB; replace HV_b := mvV HV_b hB; have BK_go := Aside0.mk hbox; have GO := Aside0.mk (show w.heap.size ≤ go by rw [hg]; exact HBo.out.size); clear hg hbox hB; obtain ⟨hc_go_0, hc_go_1, hc_go_2, hc_go_3, hf_go_0, hf_go_1, hf_go_2, -⟩ := cf4 BK_go.out; have hf_go_3 := blk_frozen BK_go.out 3))
  replace HV_x := Aside0.mk (Kd.V_mono (ok' := okH P w go) HV_x.out (fun k hk => ⟨.inl hk, fun e => by have h1 := hk.2; have h2 := GO.out; have h3 : k = go := e; omega⟩))
  replace HV_b := Aside0.mk (Kd.V_mono (ok' := okH P w go) HV_b.out (fun k hk => ⟨.inl hk, fun e => by have h1 := hk.2; have h2 := GO.out; have h3 : k = go := e; omega⟩))
  clear HBo
  obtain ⟨bo, hbo⟩ : ∃ y, mk (xa ++ b) = y := ⟨_, rfl⟩
  have XBO := Aside0.mk hbo
  have XBOL := Aside0.mk (show bo.length ≤ 100000 by rw [← hbo]; have h1 := mk_len (xa ++ b); have h2 := XAL.out; have h3 := XBL.out; rw [List.length_append] at h1; omega)
  clear hbo
  go_upto_region 3 with (first | (go_at_call 46; (with_reducible refine (sets_w XN.out _ _ _ (Kd.V_reads' HV_x.out).2.2 (Kd.V_reads' HV_x.out).2.1).mono ?_); rintro e_ w4_ ⟨v_a, v_n, rfl, hR, hR2, hB⟩; rw [XXA.out] at hR; rw [XNA.out] at hR2; obtain ⟨A_a, c_a, rfl⟩ := Kd.R_slice hR; obtain ⟨A_n, c_n, rfl⟩ := Kd.R_slice hR2; have hV := RV_ok (P := P) (go := go) hR HB.out.size (blk_lt BK_go.out); have hV2 := RV_ok (P := P) (go := go) hR2 HB.out.size (blk_lt BK_go.out); replace HB := mvH HB hB; clear hc_gt_0 hf_gt_0 hc_gt_1 hf_gt_1; replace BK_gt := mvB BK_gt hB; obtain ⟨hc_gt_0, hc_gt_1, hf_gt_0, hf_gt_1⟩ := cf2 BK_gt.out; clear hc_gm_0 hf_gm_0 hc_gm_1 hf_gm_1 hc_gm_2 hf_gm_2 hc_gm_3 hf_gm_3; replace BK_gm := mvB BK_gm hB; obtain ⟨hc_gm_0, hc_gm_1, hc_gm_2, hc_gm_3, hf_gm_0, hf_gm_1, hf_gm_2, hf_gm_3⟩ := cf4 BK_gm.out; clear hc_go_0 hf_go_0 hc_go_1 hf_go_1 hc_go_2 hf_go_2 hc_go_3 hf_go_3; replace BK_go := mvB BK_go hB; obtain ⟨hc_go_0, hc_go_1, hc_go_2, hc_go_3, hf_go_0, hf_go_1, hf_go_2, hf_go_3⟩ := cf4 BK_go.out; replace HV_x := mvV HV_x hB; replace HV_b := mvV HV_b hB; have HV_a := Aside0.mk hV; have HV_n := Aside0.mk hV2; clear hR hR2 hV hV2 hB) | (go_at_call 47; (with_reducible refine (union_w (by have h2 := XAL.out; have h3 := XBL.out; omega) _ _ _ _ _ (Kd.V_reads' HV_a.out).2.2 (Kd.V_reads' HV_a.out).2.1 (Kd.V_reads' HV_b.out).2.2 (Kd.V_reads' HV_b.out).2.1).mono ?_); rintro e_ w5_ ⟨v_bo, rfl, hR, hB⟩; rw [XBO.out] at hR; obtain ⟨A_bo, c_bo, rfl⟩ := Kd.R_slice hR; have hV := RV_ok (P := P) (go := go) hR HB.out.size (blk_lt BK_go.out); replace HB := mvH HB hB; clear hc_gt_0 hf_gt_0 hc_gt_1 hf_gt_1; replace BK_gt := mvB BK_gt hB; obtain ⟨hc_gt_0, hc_gt_1, hf_gt_0, hf_gt_1⟩ := cf2 BK_gt.out; clear hc_gm_0 hf_gm_0 hc_gm_1 hf_gm_1 hc_gm_2 hf_gm_2 hc_gm_3 hf_gm_3; replace BK_gm := mvB BK_gm hB; obtain ⟨hc_gm_0, hc_gm_1, hc_gm_2, hc_gm_3, hf_gm_0, hf_gm_1, hf_gm_2, hf_gm_3⟩ := cf4 BK_gm.out; clear hc_go_0 hf_go_0 hc_go_1 hf_go_1 hc_go_2 hf_go_2 hc_go_3 hf_go_3; replace BK_go := mvB BK_go hB; obtain ⟨hc_go_0, hc_go_1, hc_go_2, hc_go_3, hf_go_0, hf_go_1, hf_go_2, hf_go_3⟩ := cf4 BK_go.out; replace HV_x := mvV HV_x hB; replace HV_b := mvV HV_b hB; replace HV_a := mvV HV_a hB; replace HV_n := mvV HV_n hB; have HV_bo := Aside0.mk hV; clear hR hV hB))
  by_cases k1 : kind = 1
  · subst k1
    obtain ⟨hh, hhh⟩ : ∃ y, hld sr bo 0 b t.f0 = y := ⟨_, rfl⟩
    have XHH := Aside0.mk hhh
    have XHL := Aside0.mk (show hh.length ≤ 100000 by rw [← hhh]; unfold hld; rw [List.length_map]; first | exact XBOL.out | exact XM.out)
    clear hhh
    go_wp2_with (first | (go_at_call 48; (with_reducible refine (held_w XN.out XBOL.out XM.out _ _ _ _ _ _ _ (Kd.V_reads' HV_x.out).2.2 (Kd.V_reads' HV_x.out).2.1 (Kd.V_reads' HV_bo.out).2.2 (Kd.V_reads' HV_bo.out).2.1 (Kd.V_reads' HV_b.out).2.2 (Kd.V_reads' HV_b.out).2.1).mono ?_); rintro e_ w6_ ⟨v_h, rfl, hR, hB⟩; rw [XHH.out] at hR; obtain ⟨A_h, c_h, rfl⟩ := Kd.R_slice hR; have hV := RV_ok (P := P) (go := go) hR HB.out.size (blk_lt BK_go.out); replace HB := mvH HB hB; clear hc_gt_0 hf_gt_0 hc_gt_1 hf_gt_1; replace BK_gt := mvB BK_gt hB; obtain ⟨hc_gt_0, hc_gt_1, hf_gt_0, hf_gt_1⟩ := cf2 BK_gt.out; clear hc_gm_0 hf_gm_0 hc_gm_1 hf_gm_1 hc_gm_2 hf_gm_2 hc_gm_3 hf_gm_3; replace BK_gm := mvB BK_gm hB; obtain ⟨hc_gm_0, hc_gm_1, hc_gm_2, hc_gm_3, hf_gm_0, hf_gm_1, hf_gm_2, hf_gm_3⟩ := cf4 BK_gm.out; clear hc_go_0 hf_go_0 hc_go_1 hf_go_1 hc_go_2 hf_go_2 hc_go_3 hf_go_3; replace BK_go := mvB BK_go hB; obtain ⟨hc_go_0, hc_go_1, hc_go_2, hc_go_3, hf_go_0, hf_go_1, hf_go_2, hf_go_3⟩ := cf4 BK_go.out; replace HV_x := mvV HV_x hB; replace HV_b := mvV HV_b hB; replace HV_a := mvV HV_a hB; replace HV_n := mvV HV_n hB; replace HV_bo := mvV HV_bo hB; have HV_h := Aside0.mk hV; clear hR hV hB))
    refine bodyPost_ret (results_cell_row rfl _ _ go 76 #[.slice A_h hh.length c_h, .bool false, .int .i64 0, .slice none 0 0] (0, 0) _ rfl (blk_put (cs := #[.slice A_h hh.length c_h, .bool false, .int .i64 0, .slice none 0 0]) (blk_put (cs := #[.slice A_h hh.length c_h, .bool false, .int .i64 0, .slice none 0 0]) (blk_put (cs := #[.slice A_h hh.length c_h, .bool false, .int .i64 0, .slice none 0 0]) (blk_put (cs := #[.slice none 0 0, .bool false, .int .i64 0, .slice none 0 0]) BK_go.out 0 (.slice A_h hh.length c_h) rfl) 1 (.bool false) rfl) 2 (.int .i64 0) rfl) 3 (.slice none 0 0) rfl) Try.underlying76 rfl (by kernel_rfl)) rfl ?_
    rw [show plainR t g sr 1 b = ⟨hh, false, 0, []⟩ from by rw [← XHH.out, ← XBO.out, ← XXA.out]; rfl]
    exact ⟨_, _, rfl, Kd.V_mono (Kd.V_far (p := ⟨go, 3, none⟩) (Kd.V_far (p := ⟨go, 2, none⟩) (Kd.V_far (p := ⟨go, 1, none⟩) (Kd.V_far (p := ⟨go, 0, none⟩) HV_h.out (fun k hk => hk.2) (.slice A_h hh.length c_h)) (fun k hk => hk.2) (.bool false)) (fun k hk => hk.2) (.int .i64 0)) (fun k hk => hk.2) (.slice none 0 0)) (fun k hk => okH_out hk), Kd.V_nil _ _ _ _ _, (below_set (below_set (below_set (below_set HB.out GO.out) GO.out) GO.out) GO.out)⟩
  · have b1 : (kind == 1) = false := by simpa using k1
    by_cases k5 : kind = 5
    · subst k5
      obtain ⟨hh, hhh⟩ : ∃ y, hld sr bo 0 b t.f0 = y := ⟨_, rfl⟩
      have XHH := Aside0.mk hhh
      have XHL := Aside0.mk (show hh.length ≤ 100000 by rw [← hhh]; unfold hld; rw [List.length_map]; first | exact XBOL.out | exact XM.out)
      clear hhh
      go_wp2_with (first | (go_at_call 48; (with_reducible refine (held_w XN.out XBOL.out XM.out _ _ _ _ _ _ _ (Kd.V_reads' HV_x.out).2.2 (Kd.V_reads' HV_x.out).2.1 (Kd.V_reads' HV_bo.out).2.2 (Kd.V_reads' HV_bo.out).2.1 (Kd.V_reads' HV_b.out).2.2 (Kd.V_reads' HV_b.out).2.1).mono ?_); rintro e_ w6_ ⟨v_h, rfl, hR, hB⟩; rw [XHH.out] at hR; obtain ⟨A_h, c_h, rfl⟩ := Kd.R_slice hR; have hV := RV_ok (P := P) (go := go) hR HB.out.size (blk_lt BK_go.out); replace HB := mvH HB hB; clear hc_gt_0 hf_gt_0 hc_gt_1 hf_gt_1; replace BK_gt := mvB BK_gt hB; obtain ⟨hc_gt_0, hc_gt_1, hf_gt_0, hf_gt_1⟩ := cf2 BK_gt.out; clear hc_gm_0 hf_gm_0 hc_gm_1 hf_gm_1 hc_gm_2 hf_gm_2 hc_gm_3 hf_gm_3; replace BK_gm := mvB BK_gm hB; obtain ⟨hc_gm_0, hc_gm_1, hc_gm_2, hc_gm_3, hf_gm_0, hf_gm_1, hf_gm_2, hf_gm_3⟩ := cf4 BK_gm.out; clear hc_go_0 hf_go_0 hc_go_1 hf_go_1 hc_go_2 hf_go_2 hc_go_3 hf_go_3; replace BK_go := mvB BK_go hB; obtain ⟨hc_go_0, hc_go_1, hc_go_2, hc_go_3, hf_go_0, hf_go_1, hf_go_2, hf_go_3⟩ := cf4 BK_go.out; replace HV_x := mvV HV_x hB; replace HV_b := mvV HV_b hB; replace HV_a := mvV HV_a hB; replace HV_n := mvV HV_n hB; replace HV_bo := mvV HV_bo hB; have HV_h := Aside0.mk hV; clear hR hV hB))
      refine bodyPost_ret (results_cell_row rfl _ _ go 76 #[.slice A_h hh.length c_h, .bool false, .int .i64 0, .slice none 0 0] (0, 0) _ rfl (blk_put (cs := #[.slice A_h hh.length c_h, .bool false, .int .i64 0, .slice none 0 0]) (blk_put (cs := #[.slice A_h hh.length c_h, .bool false, .int .i64 0, .slice none 0 0]) (blk_put (cs := #[.slice A_h hh.length c_h, .bool false, .int .i64 0, .slice none 0 0]) (blk_put (cs := #[.slice none 0 0, .bool false, .int .i64 0, .slice none 0 0]) BK_go.out 0 (.slice A_h hh.length c_h) rfl) 1 (.bool false) rfl) 2 (.int .i64 0) rfl) 3 (.slice none 0 0) rfl) Try.underlying76 rfl (by kernel_rfl)) rfl ?_
      rw [show plainR t g sr 5 b = ⟨hh, false, 0, []⟩ from by rw [← XHH.out, ← XBO.out, ← XXA.out]; rfl]
      exact ⟨_, _, rfl, Kd.V_mono (Kd.V_far (p := ⟨go, 3, none⟩) (Kd.V_far (p := ⟨go, 2, none⟩) (Kd.V_far (p := ⟨go, 1, none⟩) (Kd.V_far (p := ⟨go, 0, none⟩) HV_h.out (fun k hk => hk.2) (.slice A_h hh.length c_h)) (fun k hk => hk.2) (.bool false)) (fun k hk => hk.2) (.int .i64 0)) (fun k hk => hk.2) (.slice none 0 0)) (fun k hk => okH_out hk), Kd.V_nil _ _ _ _ _, (below_set (below_set (below_set (below_set HB.out GO.out) GO.out) GO.out) GO.out)⟩
    · have b5 : (kind == 5) = false := by simpa using k5
      by_cases k2 : kind = 2
      · subst k2
        obtain ⟨hh, hhh⟩ : ∃ y, hld sr b 0 [] 0 = y := ⟨_, rfl⟩
        have XHH := Aside0.mk hhh
        have XHL := Aside0.mk (show hh.length ≤ 100000 by rw [← hhh]; unfold hld; rw [List.length_map]; first | exact XBOL.out | exact XM.out)
        clear hhh
        go_upto_region 9 with fail
        refine start_ (n := 8) (S := fun w' => True) (ds := []) #[false, false, false, false, false, false, false, false] (by kernel_rfl) rfl rfl trivial (fun hHeld => ?_); refine with_tabW mp_t9 mp_b9 (fun HT_ HW_ => ?_)
        have hB : Below w5_.heap.size w5_ w5_.drew := below_drew (Below.refl _ _)
        generalize w5_.drew = w5_d at hB hHeld ⊢
        replace HB := mvH HB hB
        clear hc_gt_0 hf_gt_0 hc_gt_1 hf_gt_1
        replace BK_gt := mvB BK_gt hB
        obtain ⟨hc_gt_0, hc_gt_1, hf_gt_0, hf_gt_1⟩ := cf2 BK_gt.out
        clear hc_gm_0 hf_gm_0 hc_gm_1 hf_gm_1 hc_gm_2 hf_gm_2 hc_gm_3 hf_gm_3
        replace BK_gm := mvB BK_gm hB
        obtain ⟨hc_gm_0, hc_gm_1, hc_gm_2, hc_gm_3, hf_gm_0, hf_gm_1, hf_gm_2, hf_gm_3⟩ := cf4 BK_gm.out
        clear hc_go_0 hf_go_0 hc_go_1 hf_go_1 hc_go_2 hf_go_2 hc_go_3 hf_go_3
        replace BK_go := mvB BK_go hB
        obtain ⟨hc_go_0, hc_go_1, hc_go_2, hc_go_3, hf_go_0, hf_go_1, hf_go_2, hf_go_3⟩ := cf4 BK_go.out
        replace HV_x := mvV HV_x hB
        replace HV_b := mvV HV_b hB
        replace HV_a := mvV HV_a hB
        replace HV_n := mvV HV_n hB
        replace HV_bo := mvV HV_bo hB
        clear hB
        refine inv_at [0, 1, 2, 3, 4, 5, 6, 7] (fun a0_ b_ a w' => ∃ (v37 v40 : Value) (g9 : Nat), a = putSel a0_ b_ [(0, 35, .agg #[.int .u32 g, .bool ex, .int .i64 lf, .slice A_x sr.length c_x]), (1, 36, .slice A_b b.length c_b), (2, 37, v37), (3, 38, .pointer (some ⟨gt, 0, none⟩)), (4, 39, .int .i64 t.f0), (5, 40, v40), (6, 12, .pointer (some ⟨g9, 0, none⟩))] ∧ Below w5_d.heap.size w5_d w' ∧ (b_ 2 = true → Kd.V k49 49 w' 0 (fun k => okH P w go k ∧ (b_ 6 = true → k ≠ g9)) v37 hh) ∧ (b_ 5 = true → v40 = .agg #[v37, .bool true, .int .i64 t.f0, .slice none 0 0]) ∧ (b_ 6 = true → w5_d.heap.size ≤ g9 ∧ w'.heap[g9]? = some (.cells (if b_ 7 = true then #[v37, .bool true, .int .i64 t.f0, .slice none 0 0] else #[.slice none 0 0, .bool false, .int .i64 0, .slice none 0 0]) 76 (0, 0)))) HT_.out HW_.out (by kernel_rfl) (by kernel_rfl) ?_ ?_ ?_
        · exact ⟨.bool false, .bool false, 0, by simp only [putSel, Bool.false_eq_true, if_false], Below.refl _ _, fun h => absurd h (by decide), fun h => absurd h (by decide), fun h => absurd h (by decide)⟩
        · skip
          refine steps_cons ?_ ?_
          · rintro b_ a w' ⟨v37, v40, g9, ha, QB, Q2, Q5, Q6⟩ hb_ hon hoff
            refine ⟨_, rfl, fun K hK => ?_⟩
            have e5 : a.tmps[5]? = some (.pointer (some ⟨gm, 0, none⟩)) := by rw [ha]; exact (putSel_off rfl).trans rfl
            replace ha := Aside0.mk ha
            have hd0 : w'.cell? ⟨gm, 0, none⟩ = some (.int .u32 g) := (blk_cell (blk_below (g := gm) (o := .cells #[.int .u32 g, .bool ex, .int .i64 lf, .slice A_x sr.length c_x] 28 (0, 0)) BK_gm.out QB) 0).trans rfl
            have hd1 : w'.cell? ⟨gm, 1, none⟩ = some (.bool ex) := (blk_cell (blk_below (g := gm) (o := .cells #[.int .u32 g, .bool ex, .int .i64 lf, .slice A_x sr.length c_x] 28 (0, 0)) BK_gm.out QB) 1).trans rfl
            have hd2 : w'.cell? ⟨gm, 2, none⟩ = some (.int .i64 lf) := (blk_cell (blk_below (g := gm) (o := .cells #[.int .u32 g, .bool ex, .int .i64 lf, .slice A_x sr.length c_x] 28 (0, 0)) BK_gm.out QB) 2).trans rfl
            have hd3 : w'.cell? ⟨gm, 3, none⟩ = some (.slice A_x sr.length c_x) := (blk_cell (blk_below (g := gm) (o := .cells #[.int .u32 g, .bool ex, .int .i64 lf, .slice A_x sr.length c_x] 28 (0, 0)) BK_gm.out QB) 3).trans rfl
            refine value_ (w1 := w') (v := .agg #[.int .u32 g, .bool ex, .int .i64 lf, .slice A_x sr.length c_x]) (by rfl) rfl ?_ ?_
            · go_simp
              try rfl
            exact hK.out _ _ ⟨v37, v40, g9, (by rw [ha.out]; exact putSel_upk 0 hb_ rfl rfl rfl), QB, Q2, Q5, Q6⟩
          refine steps_cons ?_ ?_
          · rintro b_ a w' ⟨v37, v40, g9, ha, QB, Q2, Q5, Q6⟩ hb_ hon hoff
            refine ⟨_, rfl, fun K hK => ?_⟩
            have e3 : a.tmps[3]? = some (.slice A_b b.length c_b) := by rw [ha]; exact (putSel_off rfl).trans rfl
            replace ha := Aside0.mk ha
            refine value_ (w1 := w') (v := .slice A_b b.length c_b) (by rfl) rfl ?_ ?_
            · go_simp
              try rfl
            exact hK.out _ _ ⟨v37, v40, g9, (by rw [ha.out]; exact putSel_upk 1 hb_ rfl rfl rfl), QB, Q2, Q5, Q6⟩
          refine steps_cons ?_ ?_
          · rintro b_ a w' ⟨v37, v40, g9, ha, QB, Q2, Q5, Q6⟩ hb_ hon hoff
            refine ⟨_, rfl, fun K hK => ?_⟩
            have e35 : a.tmps[35]? = some (.agg #[.int .u32 g, .bool ex, .int .i64 lf, .slice A_x sr.length c_x]) := by rw [ha]; exact putSel_on (e := (0, 35, .agg #[.int .u32 g, .bool ex, .int .i64 lf, .slice A_x sr.length c_x])) 0 rfl rfl (hon 0 (by kernel_rfl)) rfl
            have e36 : a.tmps[36]? = some (.slice A_b b.length c_b) := by rw [ha]; exact putSel_on (e := (1, 36, .slice A_b b.length c_b)) 1 rfl rfl (hon 1 (by kernel_rfl)) rfl
            replace ha := Aside0.mk ha
            refine goes_ Try.func48 (by kernel_rfl) rfl #[.agg #[.int .u32 g, .bool ex, .int .i64 lf, .slice A_x sr.length c_x], .slice A_b b.length c_b, .int .i64 0, .slice none 0 0, .int .i64 0] (by rfl) rfl rfl (by first | (simp only [List.map_toArray, List.map_cons, List.map_nil, Act.eval, Array.getD_eq_getD_getElem?, Option.getD_some, e35, e36]; done) | (simp only [List.map_toArray, List.map_cons, List.map_nil, Act.eval, Array.getD_eq_getD_getElem?, Option.getD_some, e35, e36]; rfl)) ?_
            with_reducible refine (held0_w XN.out XM.out _ _ _ _ _ (Kd.C_below (Kd.V_reads' HV_x.out).2.2 QB) (Kd.V_reads' HV_x.out).2.1 (Kd.C_below (Kd.V_reads' HV_b.out).2.2 QB) (Kd.V_reads' HV_b.out).2.1).mono ?_
            rintro e w1 ⟨u, rfl, hR, hb⟩
            rw [XHH.out] at hR
            refine ⟨_, rfl, ?_⟩
            exact hK.out _ _ ⟨u, v40, g9, (by rw [ha.out]; exact putSel_upk 2 hb_ rfl rfl rfl), QB.trans (hb.mono QB.size), fun _ => Kd.V_mono (Kd.R_V (Kd.R_bound hR)) (fun k hk => ⟨okH_new (Nat.le_trans HB.out.size QB.size) (Nat.lt_of_lt_of_le (blk_lt BK_go.out) QB.size) hk.2.1, fun h7 e => by have h1 := blk_lt (Q6 h7).2; have h2 := hk.2.1; omega⟩), fun h => absurd ((hoff 5 (by kernel_rfl)).symm.trans h) (by decide), fun h6 => ⟨(Q6 h6).1, by rw [if_neg (by rw [show up b_ 2 7 = b_ 7 from rfl, (hoff 7 (by kernel_rfl))]; decide)]; have h9 := (Q6 h6).2; rw [if_neg (by rw [(hoff 7 (by kernel_rfl))]; decide)] at h9; exact blk_below h9 hb⟩⟩
          refine steps_cons ?_ ?_
          · rintro b_ a w' ⟨v37, v40, g9, ha, QB, Q2, Q5, Q6⟩ hb_ hon hoff
            refine ⟨_, rfl, fun K hK => ?_⟩
            have e4 : a.tmps[4]? = some (.pointer (some ⟨gt, 0, none⟩)) := by rw [ha]; exact (putSel_off rfl).trans rfl
            replace ha := Aside0.mk ha
            refine value_ (w1 := w') (v := .pointer (some ⟨gt, 0, none⟩)) (by rfl) rfl ?_ ?_
            · go_simp
              try rfl
            exact hK.out _ _ ⟨v37, v40, g9, (by rw [ha.out]; exact putSel_upk 3 hb_ rfl rfl rfl), QB, Q2, Q5, Q6⟩
          refine steps_cons ?_ ?_
          · rintro b_ a w' ⟨v37, v40, g9, ha, QB, Q2, Q5, Q6⟩ hb_ hon hoff
            refine ⟨_, rfl, fun K hK => ?_⟩
            have e38 : a.tmps[38]? = some (.pointer (some ⟨gt, 0, none⟩)) := by rw [ha]; exact putSel_on (e := (3, 38, .pointer (some ⟨gt, 0, none⟩))) 3 rfl rfl (hon 3 (by kernel_rfl)) rfl
            replace ha := Aside0.mk ha
            have hd0 : w'.cell? ⟨gt, 0, none⟩ = some (.int .i64 t.f0) := (blk_cell (blk_below (g := gt) (o := .cells #[.int .i64 t.f0, .int .i64 t.f1] 23 (0, 0)) BK_gt.out QB) 0).trans rfl
            refine value_ (w1 := w') (v := .int .i64 t.f0) (by rfl) rfl ?_ ?_
            · go_simp
              try rfl
            exact hK.out _ _ ⟨v37, v40, g9, (by rw [ha.out]; exact putSel_upk 4 hb_ rfl rfl rfl), QB, Q2, Q5, Q6⟩
          refine steps_cons ?_ ?_
          · rintro b_ a w' ⟨v37, v40, g9, ha, QB, Q2, Q5, Q6⟩ hb_ hon hoff
            refine ⟨_, rfl, fun K hK => ?_⟩
            have e37 : a.tmps[37]? = some (v37) := by rw [ha]; exact putSel_on (e := (2, 37, v37)) 2 rfl rfl (hon 2 (by kernel_rfl)) rfl
            have e39 : a.tmps[39]? = some (.int .i64 t.f0) := by rw [ha]; exact putSel_on (e := (4, 39, .int .i64 t.f0)) 4 rfl rfl (hon 4 (by kernel_rfl)) rfl
            replace ha := Aside0.mk ha
            obtain ⟨Aq, cq, hq⟩ := Kd.V_slice (Q2 (hon 2 (by kernel_rfl)))
            rw [hq] at e37
            refine value_ (w1 := w') (v := .agg #[.slice Aq hh.length cq, .bool true, .int .i64 t.f0, .slice none 0 0]) (by rfl) rfl ?_ ?_
            · go_simp
              try rfl
            exact hK.out _ _ ⟨v37, _, g9, (by rw [ha.out]; exact putSel_upk 5 hb_ rfl rfl rfl), QB, Q2, fun _ => by rw [hq], Q6⟩
          refine steps_cons ?_ ?_
          · rintro b_ a w' ⟨v37, v40, g9, ha, QB, Q2, Q5, Q6⟩ hb_ hon hoff
            refine ⟨_, rfl, fun K hK => ?_⟩
            replace ha := Aside0.mk ha
            refine box_step (by rfl) (N := 12) rfl (cs := #[.slice none 0 0, .bool false, .int .i64 0, .slice none 0 0]) (t := 76) ?hr ?_; (case hr => first | (go_simp; done) | (go_simp; rfl))
            intro g hg w1 hbox hb
            exact hK.out _ _ ⟨v37, v40, g, (by rw [ha.out]; exact putSel_upk 6 hb_ rfl rfl rfl), QB.trans (hb.mono QB.size), fun h2 => Kd.V_mono (Kd.V_below (Kd.V_bound (Q2 h2)) hb) (fun k hk => ⟨hk.1.1, fun _ e => by have := hk.2; omega⟩), Q5, fun _ => ⟨by have := QB.size; omega, by rw [if_neg (by rw [show up b_ 6 7 = b_ 7 from rfl, (hoff 7 (by kernel_rfl))]; decide)]; exact hbox⟩⟩
          refine steps_cons ?_ ?_
          · rintro b_ a w' ⟨v37, v40, g9, ha, QB, Q2, Q5, Q6⟩ hb_ hon hoff
            refine ⟨_, rfl, fun K hK => ?_⟩
            have e40 : a.tmps[40]? = some (v40) := by rw [ha]; exact putSel_on (e := (5, 40, v40)) 5 rfl rfl (hon 5 (by kernel_rfl)) rfl
            have e12 : a.tmps[12]? = some (.pointer (some ⟨g9, 0, none⟩)) := by rw [ha]; exact putSel_on (e := (6, 12, .pointer (some ⟨g9, 0, none⟩))) 6 rfl rfl (hon 6 (by kernel_rfl)) rfl
            replace ha := Aside0.mk ha
            obtain ⟨g1, g4⟩ := Q6 (hon 6 (by kernel_rfl))
            rw [if_neg (by rw [hb_]; decide)] at g4
            have V2 := Q2 (hon 2 (by kernel_rfl))
            obtain ⟨Aq, cq, rfl⟩ := Kd.V_slice V2
            rw [Q5 (hon 5 (by kernel_rfl))] at e40
            have hd0 : w'.cell? ⟨g9, 0, none⟩ = some (.slice none 0 0) := (blk_cell g4 0).trans rfl
            have hf0 := blk_frozen g4 0
            have hd1 : w'.cell? ⟨g9, 1, none⟩ = some (.bool false) := (blk_cell g4 1).trans rfl
            have hf1 := blk_frozen g4 1
            have hd2 : w'.cell? ⟨g9, 2, none⟩ = some (.int .i64 0) := (blk_cell g4 2).trans rfl
            have hf2 := blk_frozen g4 2
            have hd3 : w'.cell? ⟨g9, 3, none⟩ = some (.slice none 0 0) := (blk_cell g4 3).trans rfl
            have hf3 := blk_frozen g4 3
            refine stores_step (w1 := ((((w'.setCell ⟨g9, 0, none⟩ (.slice Aq hh.length cq)).setCell ⟨g9, 1, none⟩ (.bool true)).setCell ⟨g9, 2, none⟩ (.int .i64 t.f0)).setCell ⟨g9, 3, none⟩ (.slice none 0 0))) (by rfl) rfl ?_ ?_
            · go_simp
              try rfl
            exact hK.out _ _ ⟨.slice Aq hh.length cq, v40, g9, (by rw [ha.out]; exact (putSel_same rfl).symm), (below_set (below_set (below_set (below_set QB g1) g1) g1) g1), fun _ => (Kd.V_far (p := ⟨g9, 3, none⟩) (Kd.V_far (p := ⟨g9, 2, none⟩) (Kd.V_far (p := ⟨g9, 1, none⟩) (Kd.V_far (p := ⟨g9, 0, none⟩) V2 (fun _ hk => hk.2 (hon 6 (by kernel_rfl))) (.slice Aq hh.length cq)) (fun _ hk => hk.2 (hon 6 (by kernel_rfl))) (.bool true)) (fun _ hk => hk.2 (hon 6 (by kernel_rfl))) (.int .i64 t.f0)) (fun _ hk => hk.2 (hon 6 (by kernel_rfl))) (.slice none 0 0)), Q5, fun _ => ⟨g1, by rw [if_pos (up_self b_ 7)]; exact (blk_put (cs := #[.slice Aq hh.length cq, .bool true, .int .i64 t.f0, .slice none 0 0]) (blk_put (cs := #[.slice Aq hh.length cq, .bool true, .int .i64 0, .slice none 0 0]) (blk_put (cs := #[.slice Aq hh.length cq, .bool false, .int .i64 0, .slice none 0 0]) (blk_put (cs := #[.slice none 0 0, .bool false, .int .i64 0, .slice none 0 0]) g4 0 (.slice Aq hh.length cq) rfl) 1 (.bool true) rfl) 2 (.int .i64 t.f0) rfl) 3 (.slice none 0 0) rfl)⟩⟩
          exact steps_nil
        rintro b_ a wz hall ⟨v37, v40, gi, ha, QB, Q2, Q5, Q6⟩
        have hb0_ := hall 0 (by kernel_rfl)
        have hb1_ := hall 1 (by kernel_rfl)
        have hb2_ := hall 2 (by kernel_rfl)
        have hb3_ := hall 3 (by kernel_rfl)
        have hb4_ := hall 4 (by kernel_rfl)
        have hb5_ := hall 5 (by kernel_rfl)
        have hb6_ := hall 6 (by kernel_rfl)
        have hb7_ := hall 7 (by kernel_rfl)
        have V2 := Q2 hb2_
        obtain ⟨Aq, cq, rfl⟩ := Kd.V_slice V2
        obtain ⟨g1, g4⟩ := Q6 hb6_
        rw [if_pos hb7_] at g4
        have e40 := Q5 hb5_
        subst e40
        subst ha
        simp only [putSel, hb0_, hb1_, hb2_, hb3_, hb4_, hb5_, hb6_, if_true, Act.put, List.setIfInBounds_toArray, List.set_cons_zero, List.set_cons_succ]
        obtain ⟨A_h, hAh⟩ : ∃ y, y = Aq := ⟨_, rfl⟩
        subst hAh
        obtain ⟨c_h, hch⟩ : ∃ y, y = cq := ⟨_, rfl⟩
        subst hch
        clear Q2 Q5 Q6 hall hb0_ hb1_ hb2_ hb3_ hb4_ hb5_ hb6_ hb7_
        have hB := QB
        replace HB := mvH HB hB
        clear hc_gt_0 hf_gt_0 hc_gt_1 hf_gt_1
        replace BK_gt := mvB BK_gt hB
        obtain ⟨hc_gt_0, hc_gt_1, hf_gt_0, hf_gt_1⟩ := cf2 BK_gt.out
        clear hc_gm_0 hf_gm_0 hc_gm_1 hf_gm_1 hc_gm_2 hf_gm_2 hc_gm_3 hf_gm_3
        replace BK_gm := mvB BK_gm hB
        obtain ⟨hc_gm_0, hc_gm_1, hc_gm_2, hc_gm_3, hf_gm_0, hf_gm_1, hf_gm_2, hf_gm_3⟩ := cf4 BK_gm.out
        clear hc_go_0 hf_go_0 hc_go_1 hf_go_1 hc_go_2 hf_go_2 hc_go_3 hf_go_3
        replace BK_go := mvB BK_go hB
        obtain ⟨hc_go_0, hc_go_1, hc_go_2, hc_go_3, hf_go_0, hf_go_1, hf_go_2, hf_go_3⟩ := cf4 BK_go.out
        replace HV_x := mvV HV_x hB
        replace HV_b := mvV HV_b hB
        replace HV_a := mvV HV_a hB
        replace HV_n := mvV HV_n hB
        replace HV_bo := mvV HV_bo hB
        have HV_h := Aside0.mk (Kd.V_mono V2 (fun k hk => hk.1))
        have BK_gi := Aside0.mk g4
        clear hB QB g1 g4 V2
        obtain ⟨hc_gi_0, hc_gi_1, hc_gi_2, hc_gi_3, hf_gi_0, hf_gi_1, hf_gi_2, hf_gi_3⟩ := cf4 BK_gi.out
        go_wp2
        refine bodyPost_ret (results_cell_row rfl _ _ go 76 #[.slice A_h hh.length c_h, .bool true, .int .i64 t.f0, .slice none 0 0] (0, 0) _ rfl (blk_put (cs := #[.slice A_h hh.length c_h, .bool true, .int .i64 t.f0, .slice none 0 0]) (blk_put (cs := #[.slice A_h hh.length c_h, .bool true, .int .i64 0, .slice none 0 0]) (blk_put (cs := #[.slice A_h hh.length c_h, .bool false, .int .i64 0, .slice none 0 0]) (blk_put (cs := #[.slice none 0 0, .bool false, .int .i64 0, .slice none 0 0]) BK_go.out 0 (.slice A_h hh.length c_h) rfl) 1 (.bool true) rfl) 2 (.int .i64 t.f0) rfl) 3 (.slice none 0 0) rfl) Try.underlying76 rfl (by kernel_rfl)) rfl ?_
        rw [show plainR t g sr 2 b = ⟨hh, true, t.f0, []⟩ from by rw [← XHH.out]; rfl]
        exact ⟨_, _, rfl, Kd.V_mono (Kd.V_far (p := ⟨go, 3, none⟩) (Kd.V_far (p := ⟨go, 2, none⟩) (Kd.V_far (p := ⟨go, 1, none⟩) (Kd.V_far (p := ⟨go, 0, none⟩) HV_h.out (fun k hk => hk.2) (.slice A_h hh.length c_h)) (fun k hk => hk.2) (.bool true)) (fun k hk => hk.2) (.int .i64 t.f0)) (fun k hk => hk.2) (.slice none 0 0)) (fun k hk => okH_out hk), Kd.V_nil _ _ _ _ _, (below_set (below_set (below_set (below_set HB.out GO.out) GO.out) GO.out) GO.out)⟩
      · have b2 : (kind == 2) = false := by simpa using k2
        by_cases k4 : kind = 4
        · subst k4
          obtain ⟨hh, hhh⟩ : ∃ y, hld sr b 0 [] 0 = y := ⟨_, rfl⟩
          have XHH := Aside0.mk hhh
          have XHL := Aside0.mk (show hh.length ≤ 100000 by rw [← hhh]; unfold hld; rw [List.length_map]; first | exact XBOL.out | exact XM.out)
          clear hhh
          go_upto_region 9 with fail
          refine start_ (n := 8) (S := fun w' => True) (ds := []) #[false, false, false, false, false, false, false, false] (by kernel_rfl) rfl rfl trivial (fun hHeld => ?_); refine with_tabW mp_t9 mp_b9 (fun HT_ HW_ => ?_)
          have hB : Below w5_.heap.size w5_ w5_.drew := below_drew (Below.refl _ _)
          generalize w5_.drew = w5_d at hB hHeld ⊢
          replace HB := mvH HB hB
          clear hc_gt_0 hf_gt_0 hc_gt_1 hf_gt_1
          replace BK_gt := mvB BK_gt hB
          obtain ⟨hc_gt_0, hc_gt_1, hf_gt_0, hf_gt_1⟩ := cf2 BK_gt.out
          clear hc_gm_0 hf_gm_0 hc_gm_1 hf_gm_1 hc_gm_2 hf_gm_2 hc_gm_3 hf_gm_3
          replace BK_gm := mvB BK_gm hB
          obtain ⟨hc_gm_0, hc_gm_1, hc_gm_2, hc_gm_3, hf_gm_0, hf_gm_1, hf_gm_2, hf_gm_3⟩ := cf4 BK_gm.out
          clear hc_go_0 hf_go_0 hc_go_1 hf_go_1 hc_go_2 hf_go_2 hc_go_3 hf_go_3
          replace BK_go := mvB BK_go hB
          obtain ⟨hc_go_0, hc_go_1, hc_go_2, hc_go_3, hf_go_0, hf_go_1, hf_go_2, hf_go_3⟩ := cf4 BK_go.out
          replace HV_x := mvV HV_x hB
          replace HV_b := mvV HV_b hB
          replace HV_a := mvV HV_a hB
          replace HV_n := mvV HV_n hB
          replace HV_bo := mvV HV_bo hB
          clear hB
          refine inv_at [0, 1, 2, 3, 4, 5, 6, 7] (fun a0_ b_ a w' => ∃ (v37 v40 : Value) (g9 : Nat), a = putSel a0_ b_ [(0, 35, .agg #[.int .u32 g, .bool ex, .int .i64 lf, .slice A_x sr.length c_x]), (1, 36, .slice A_b b.length c_b), (2, 37, v37), (3, 38, .pointer (some ⟨gt, 0, none⟩)), (4, 39, .int .i64 t.f0), (5, 40, v40), (6, 12, .pointer (some ⟨g9, 0, none⟩))] ∧ Below w5_d.heap.size w5_d w' ∧ (b_ 2 = true → Kd.V k49 49 w' 0 (fun k => okH P w go k ∧ (b_ 6 = true → k ≠ g9)) v37 hh) ∧ (b_ 5 = true → v40 = .agg #[v37, .bool true, .int .i64 t.f0, .slice none 0 0]) ∧ (b_ 6 = true → w5_d.heap.size ≤ g9 ∧ w'.heap[g9]? = some (.cells (if b_ 7 = true then #[v37, .bool true, .int .i64 t.f0, .slice none 0 0] else #[.slice none 0 0, .bool false, .int .i64 0, .slice none 0 0]) 76 (0, 0)))) HT_.out HW_.out (by kernel_rfl) (by kernel_rfl) ?_ ?_ ?_
          · exact ⟨.bool false, .bool false, 0, by simp only [putSel, Bool.false_eq_true, if_false], Below.refl _ _, fun h => absurd h (by decide), fun h => absurd h (by decide), fun h => absurd h (by decide)⟩
          · skip
            refine steps_cons ?_ ?_
            · rintro b_ a w' ⟨v37, v40, g9, ha, QB, Q2, Q5, Q6⟩ hb_ hon hoff
              refine ⟨_, rfl, fun K hK => ?_⟩
              have e5 : a.tmps[5]? = some (.pointer (some ⟨gm, 0, none⟩)) := by rw [ha]; exact (putSel_off rfl).trans rfl
              replace ha := Aside0.mk ha
              have hd0 : w'.cell? ⟨gm, 0, none⟩ = some (.int .u32 g) := (blk_cell (blk_below (g := gm) (o := .cells #[.int .u32 g, .bool ex, .int .i64 lf, .slice A_x sr.length c_x] 28 (0, 0)) BK_gm.out QB) 0).trans rfl
              have hd1 : w'.cell? ⟨gm, 1, none⟩ = some (.bool ex) := (blk_cell (blk_below (g := gm) (o := .cells #[.int .u32 g, .bool ex, .int .i64 lf, .slice A_x sr.length c_x] 28 (0, 0)) BK_gm.out QB) 1).trans rfl
              have hd2 : w'.cell? ⟨gm, 2, none⟩ = some (.int .i64 lf) := (blk_cell (blk_below (g := gm) (o := .cells #[.int .u32 g, .bool ex, .int .i64 lf, .slice A_x sr.length c_x] 28 (0, 0)) BK_gm.out QB) 2).trans rfl
              have hd3 : w'.cell? ⟨gm, 3, none⟩ = some (.slice A_x sr.length c_x) := (blk_cell (blk_below (g := gm) (o := .cells #[.int .u32 g, .bool ex, .int .i64 lf, .slice A_x sr.length c_x] 28 (0, 0)) BK_gm.out QB) 3).trans rfl
              refine value_ (w1 := w') (v := .agg #[.int .u32 g, .bool ex, .int .i64 lf, .slice A_x sr.length c_x]) (by rfl) rfl ?_ ?_
              · go_simp
                try rfl
              exact hK.out _ _ ⟨v37, v40, g9, (by rw [ha.out]; exact putSel_upk 0 hb_ rfl rfl rfl), QB, Q2, Q5, Q6⟩
            refine steps_cons ?_ ?_
            · rintro b_ a w' ⟨v37, v40, g9, ha, QB, Q2, Q5, Q6⟩ hb_ hon hoff
              refine ⟨_, rfl, fun K hK => ?_⟩
              have e3 : a.tmps[3]? = some (.slice A_b b.length c_b) := by rw [ha]; exact (putSel_off rfl).trans rfl
              replace ha := Aside0.mk ha
              refine value_ (w1 := w') (v := .slice A_b b.length c_b) (by rfl) rfl ?_ ?_
              · go_simp
                try rfl
              exact hK.out _ _ ⟨v37, v40, g9, (by rw [ha.out]; exact putSel_upk 1 hb_ rfl rfl rfl), QB, Q2, Q5, Q6⟩
            refine steps_cons ?_ ?_
            · rintro b_ a w' ⟨v37, v40, g9, ha, QB, Q2, Q5, Q6⟩ hb_ hon hoff
              refine ⟨_, rfl, fun K hK => ?_⟩
              have e35 : a.tmps[35]? = some (.agg #[.int .u32 g, .bool ex, .int .i64 lf, .slice A_x sr.length c_x]) := by rw [ha]; exact putSel_on (e := (0, 35, .agg #[.int .u32 g, .bool ex, .int .i64 lf, .slice A_x sr.length c_x])) 0 rfl rfl (hon 0 (by kernel_rfl)) rfl
              have e36 : a.tmps[36]? = some (.slice A_b b.length c_b) := by rw [ha]; exact putSel_on (e := (1, 36, .slice A_b b.length c_b)) 1 rfl rfl (hon 1 (by kernel_rfl)) rfl
              replace ha := Aside0.mk ha
              refine goes_ Try.func48 (by kernel_rfl) rfl #[.agg #[.int .u32 g, .bool ex, .int .i64 lf, .slice A_x sr.length c_x], .slice A_b b.length c_b, .int .i64 0, .slice none 0 0, .int .i64 0] (by rfl) rfl rfl (by first | (simp only [List.map_toArray, List.map_cons, List.map_nil, Act.eval, Array.getD_eq_getD_getElem?, Option.getD_some, e35, e36]; done) | (simp only [List.map_toArray, List.map_cons, List.map_nil, Act.eval, Array.getD_eq_getD_getElem?, Option.getD_some, e35, e36]; rfl)) ?_
              with_reducible refine (held0_w XN.out XM.out _ _ _ _ _ (Kd.C_below (Kd.V_reads' HV_x.out).2.2 QB) (Kd.V_reads' HV_x.out).2.1 (Kd.C_below (Kd.V_reads' HV_b.out).2.2 QB) (Kd.V_reads' HV_b.out).2.1).mono ?_
              rintro e w1 ⟨u, rfl, hR, hb⟩
              rw [XHH.out] at hR
              refine ⟨_, rfl, ?_⟩
              exact hK.out _ _ ⟨u, v40, g9, (by rw [ha.out]; exact putSel_upk 2 hb_ rfl rfl rfl), QB.trans (hb.mono QB.size), fun _ => Kd.V_mono (Kd.R_V (Kd.R_bound hR)) (fun k hk => ⟨okH_new (Nat.le_trans HB.out.size QB.size) (Nat.lt_of_lt_of_le (blk_lt BK_go.out) QB.size) hk.2.1, fun h7 e => by have h1 := blk_lt (Q6 h7).2; have h2 := hk.2.1; omega⟩), fun h => absurd ((hoff 5 (by kernel_rfl)).symm.trans h) (by decide), fun h6 => ⟨(Q6 h6).1, by rw [if_neg (by rw [show up b_ 2 7 = b_ 7 from rfl, (hoff 7 (by kernel_rfl))]; decide)]; have h9 := (Q6 h6).2; rw [if_neg (by rw [(hoff 7 (by kernel_rfl))]; decide)] at h9; exact blk_below h9 hb⟩⟩
            refine steps_cons ?_ ?_
            · rintro b_ a w' ⟨v37, v40, g9, ha, QB, Q2, Q5, Q6⟩ hb_ hon hoff
              refine ⟨_, rfl, fun K hK => ?_⟩
              have e4 : a.tmps[4]? = some (.pointer (some ⟨gt, 0, none⟩)) := by rw [ha]; exact (putSel_off rfl).trans rfl
              replace ha := Aside0.mk ha
              refine value_ (w1 := w') (v := .pointer (some ⟨gt, 0, none⟩)) (by rfl) rfl ?_ ?_
              · go_simp
                try rfl
              exact hK.out _ _ ⟨v37, v40, g9, (by rw [ha.out]; exact putSel_upk 3 hb_ rfl rfl rfl), QB, Q2, Q5, Q6⟩
            refine steps_cons ?_ ?_
            · rintro b_ a w' ⟨v37, v40, g9, ha, QB, Q2, Q5, Q6⟩ hb_ hon hoff
              refine ⟨_, rfl, fun K hK => ?_⟩
              have e38 : a.tmps[38]? = some (.pointer (some ⟨gt, 0, none⟩)) := by rw [ha]; exact putSel_on (e := (3, 38, .pointer (some ⟨gt, 0, none⟩))) 3 rfl rfl (hon 3 (by kernel_rfl)) rfl
              replace ha := Aside0.mk ha
              have hd0 : w'.cell? ⟨gt, 0, none⟩ = some (.int .i64 t.f0) := (blk_cell (blk_below (g := gt) (o := .cells #[.int .i64 t.f0, .int .i64 t.f1] 23 (0, 0)) BK_gt.out QB) 0).trans rfl
              refine value_ (w1 := w') (v := .int .i64 t.f0) (by rfl) rfl ?_ ?_
              · go_simp
                try rfl
              exact hK.out _ _ ⟨v37, v40, g9, (by rw [ha.out]; exact putSel_upk 4 hb_ rfl rfl rfl), QB, Q2, Q5, Q6⟩
            refine steps_cons ?_ ?_
            · rintro b_ a w' ⟨v37, v40, g9, ha, QB, Q2, Q5, Q6⟩ hb_ hon hoff
              refine ⟨_, rfl, fun K hK => ?_⟩
              have e37 : a.tmps[37]? = some (v37) := by rw [ha]; exact putSel_on (e := (2, 37, v37)) 2 rfl rfl (hon 2 (by kernel_rfl)) rfl
              have e39 : a.tmps[39]? = some (.int .i64 t.f0) := by rw [ha]; exact putSel_on (e := (4, 39, .int .i64 t.f0)) 4 rfl rfl (hon 4 (by kernel_rfl)) rfl
              replace ha := Aside0.mk ha
              obtain ⟨Aq, cq, hq⟩ := Kd.V_slice (Q2 (hon 2 (by kernel_rfl)))
              rw [hq] at e37
              refine value_ (w1 := w') (v := .agg #[.slice Aq hh.length cq, .bool true, .int .i64 t.f0, .slice none 0 0]) (by rfl) rfl ?_ ?_
              · go_simp
                try rfl
              exact hK.out _ _ ⟨v37, _, g9, (by rw [ha.out]; exact putSel_upk 5 hb_ rfl rfl rfl), QB, Q2, fun _ => by rw [hq], Q6⟩
            refine steps_cons ?_ ?_
            · rintro b_ a w' ⟨v37, v40, g9, ha, QB, Q2, Q5, Q6⟩ hb_ hon hoff
              refine ⟨_, rfl, fun K hK => ?_⟩
              replace ha := Aside0.mk ha
              refine box_step (by rfl) (N := 12) rfl (cs := #[.slice none 0 0, .bool false, .int .i64 0, .slice none 0 0]) (t := 76) ?hr ?_; (case hr => first | (go_simp; done) | (go_simp; rfl))
              intro g hg w1 hbox hb
              exact hK.out _ _ ⟨v37, v40, g, (by rw [ha.out]; exact putSel_upk 6 hb_ rfl rfl rfl), QB.trans (hb.mono QB.size), fun h2 => Kd.V_mono (Kd.V_below (Kd.V_bound (Q2 h2)) hb) (fun k hk => ⟨hk.1.1, fun _ e => by have := hk.2; omega⟩), Q5, fun _ => ⟨by have := QB.size; omega, by rw [if_neg (by rw [show up b_ 6 7 = b_ 7 from rfl, (hoff 7 (by kernel_rfl))]; decide)]; exact hbox⟩⟩
            refine steps_cons ?_ ?_
            · rintro b_ a w' ⟨v37, v40, g9, ha, QB, Q2, Q5, Q6⟩ hb_ hon hoff
              refine ⟨_, rfl, fun K hK => ?_⟩
              have e40 : a.tmps[40]? = some (v40) := by rw [ha]; exact putSel_on (e := (5, 40, v40)) 5 rfl rfl (hon 5 (by kernel_rfl)) rfl
              have e12 : a.tmps[12]? = some (.pointer (some ⟨g9, 0, none⟩)) := by rw [ha]; exact putSel_on (e := (6, 12, .pointer (some ⟨g9, 0, none⟩))) 6 rfl rfl (hon 6 (by kernel_rfl)) rfl
              replace ha := Aside0.mk ha
              obtain ⟨g1, g4⟩ := Q6 (hon 6 (by kernel_rfl))
              rw [if_neg (by rw [hb_]; decide)] at g4
              have V2 := Q2 (hon 2 (by kernel_rfl))
              obtain ⟨Aq, cq, rfl⟩ := Kd.V_slice V2
              rw [Q5 (hon 5 (by kernel_rfl))] at e40
              have hd0 : w'.cell? ⟨g9, 0, none⟩ = some (.slice none 0 0) := (blk_cell g4 0).trans rfl
              have hf0 := blk_frozen g4 0
              have hd1 : w'.cell? ⟨g9, 1, none⟩ = some (.bool false) := (blk_cell g4 1).trans rfl
              have hf1 := blk_frozen g4 1
              have hd2 : w'.cell? ⟨g9, 2, none⟩ = some (.int .i64 0) := (blk_cell g4 2).trans rfl
              have hf2 := blk_frozen g4 2
              have hd3 : w'.cell? ⟨g9, 3, none⟩ = some (.slice none 0 0) := (blk_cell g4 3).trans rfl
              have hf3 := blk_frozen g4 3
              refine stores_step (w1 := ((((w'.setCell ⟨g9, 0, none⟩ (.slice Aq hh.length cq)).setCell ⟨g9, 1, none⟩ (.bool true)).setCell ⟨g9, 2, none⟩ (.int .i64 t.f0)).setCell ⟨g9, 3, none⟩ (.slice none 0 0))) (by rfl) rfl ?_ ?_
              · go_simp
                try rfl
              exact hK.out _ _ ⟨.slice Aq hh.length cq, v40, g9, (by rw [ha.out]; exact (putSel_same rfl).symm), (below_set (below_set (below_set (below_set QB g1) g1) g1) g1), fun _ => (Kd.V_far (p := ⟨g9, 3, none⟩) (Kd.V_far (p := ⟨g9, 2, none⟩) (Kd.V_far (p := ⟨g9, 1, none⟩) (Kd.V_far (p := ⟨g9, 0, none⟩) V2 (fun _ hk => hk.2 (hon 6 (by kernel_rfl))) (.slice Aq hh.length cq)) (fun _ hk => hk.2 (hon 6 (by kernel_rfl))) (.bool true)) (fun _ hk => hk.2 (hon 6 (by kernel_rfl))) (.int .i64 t.f0)) (fun _ hk => hk.2 (hon 6 (by kernel_rfl))) (.slice none 0 0)), Q5, fun _ => ⟨g1, by rw [if_pos (up_self b_ 7)]; exact (blk_put (cs := #[.slice Aq hh.length cq, .bool true, .int .i64 t.f0, .slice none 0 0]) (blk_put (cs := #[.slice Aq hh.length cq, .bool true, .int .i64 0, .slice none 0 0]) (blk_put (cs := #[.slice Aq hh.length cq, .bool false, .int .i64 0, .slice none 0 0]) (blk_put (cs := #[.slice none 0 0, .bool false, .int .i64 0, .slice none 0 0]) g4 0 (.slice Aq hh.length cq) rfl) 1 (.bool true) rfl) 2 (.int .i64 t.f0) rfl) 3 (.slice none 0 0) rfl)⟩⟩
            exact steps_nil
          rintro b_ a wz hall ⟨v37, v40, gi, ha, QB, Q2, Q5, Q6⟩
          have hb0_ := hall 0 (by kernel_rfl)
          have hb1_ := hall 1 (by kernel_rfl)
          have hb2_ := hall 2 (by kernel_rfl)
          have hb3_ := hall 3 (by kernel_rfl)
          have hb4_ := hall 4 (by kernel_rfl)
          have hb5_ := hall 5 (by kernel_rfl)
          have hb6_ := hall 6 (by kernel_rfl)
          have hb7_ := hall 7 (by kernel_rfl)
          have V2 := Q2 hb2_
          obtain ⟨Aq, cq, rfl⟩ := Kd.V_slice V2
          obtain ⟨g1, g4⟩ := Q6 hb6_
          rw [if_pos hb7_] at g4
          have e40 := Q5 hb5_
          subst e40
          subst ha
          simp only [putSel, hb0_, hb1_, hb2_, hb3_, hb4_, hb5_, hb6_, if_true, Act.put, List.setIfInBounds_toArray, List.set_cons_zero, List.set_cons_succ]
          obtain ⟨A_h, hAh⟩ : ∃ y, y = Aq := ⟨_, rfl⟩
          subst hAh
          obtain ⟨c_h, hch⟩ : ∃ y, y = cq := ⟨_, rfl⟩
          subst hch
          clear Q2 Q5 Q6 hall hb0_ hb1_ hb2_ hb3_ hb4_ hb5_ hb6_ hb7_
          have hB := QB
          replace HB := mvH HB hB
          clear hc_gt_0 hf_gt_0 hc_gt_1 hf_gt_1
          replace BK_gt := mvB BK_gt hB
          obtain ⟨hc_gt_0, hc_gt_1, hf_gt_0, hf_gt_1⟩ := cf2 BK_gt.out
          clear hc_gm_0 hf_gm_0 hc_gm_1 hf_gm_1 hc_gm_2 hf_gm_2 hc_gm_3 hf_gm_3
          replace BK_gm := mvB BK_gm hB
          obtain ⟨hc_gm_0, hc_gm_1, hc_gm_2, hc_gm_3, hf_gm_0, hf_gm_1, hf_gm_2, hf_gm_3⟩ := cf4 BK_gm.out
          clear hc_go_0 hf_go_0 hc_go_1 hf_go_1 hc_go_2 hf_go_2 hc_go_3 hf_go_3
          replace BK_go := mvB BK_go hB
          obtain ⟨hc_go_0, hc_go_1, hc_go_2, hc_go_3, hf_go_0, hf_go_1, hf_go_2, hf_go_3⟩ := cf4 BK_go.out
          replace HV_x := mvV HV_x hB
          replace HV_b := mvV HV_b hB
          replace HV_a := mvV HV_a hB
          replace HV_n := mvV HV_n hB
          replace HV_bo := mvV HV_bo hB
          have HV_h := Aside0.mk (Kd.V_mono V2 (fun k hk => hk.1))
          have BK_gi := Aside0.mk g4
          clear hB QB g1 g4 V2
          obtain ⟨hc_gi_0, hc_gi_1, hc_gi_2, hc_gi_3, hf_gi_0, hf_gi_1, hf_gi_2, hf_gi_3⟩ := cf4 BK_gi.out
          go_upto_region 12 with fail
          obtain ⟨ia, hia⟩ : ∃ y, int xa b = y := ⟨_, rfl⟩
          have XIA := Aside0.mk hia
          have XIL := Aside0.mk (show ia.length ≤ 100000 by rw [← hia]; first | exact Nat.le_trans (int_len _ _) (by have h2 := XAL.out; have h3 := XBL.out; omega) | exact Nat.le_trans (mns_len _ _) (by have h2 := XAL.out; have h3 := XBL.out; omega))
          clear hia
          obtain ⟨sa, hsa⟩ : ∃ y, askS t.f1 ia hh = y := ⟨_, rfl⟩
          have XSA := Aside0.mk hsa
          obtain ⟨qa, hqa⟩ : ∃ y, asksOf g ia = y := ⟨_, rfl⟩
          have XQA := Aside0.mk hqa
          clear hsa hqa
          refine start_ (n := 10) (S := fun w' => w'.cell? ⟨gt, 0, none⟩ = some (.int .i64 t.f0) ∧ w'.cell? ⟨gt, 1, none⟩ = some (.int .i64 t.f1) ∧ w'.cell? ⟨gm, 0, none⟩ = some (.int .u32 g) ∧ w'.cell? ⟨gm, 1, none⟩ = some (.bool ex) ∧ w'.cell? ⟨gm, 2, none⟩ = some (.int .i64 lf) ∧ w'.cell? ⟨gm, 3, none⟩ = some (.slice A_x sr.length c_x) ∧ w'.cell? ⟨gi, 0, none⟩ = some (.slice A_h hh.length c_h) ∧ w'.cell? ⟨gi, 1, none⟩ = some (.bool true) ∧ w'.cell? ⟨gi, 2, none⟩ = some (.int .i64 t.f0) ∧ w'.cell? ⟨gi, 3, none⟩ = some (.slice none 0 0)) (ds := [9]) #[false, false, false, false, false, false, false, false, false, false] (by kernel_rfl) rfl rfl ⟨hc_gt_0, hc_gt_1, hc_gm_0, hc_gm_1, hc_gm_2, hc_gm_3, hc_gi_0, hc_gi_1, hc_gi_2, hc_gi_3⟩ (fun hHeld => ?_); refine with_tabW mp_t12 mp_b12 (fun HT_ HW_ => ?_)
          have hB : Below wz.heap.size wz wz.drew := below_drew (Below.refl _ _)
          generalize wz.drew = w6_ at hB hHeld ⊢
          replace HB := mvH HB hB
          clear hc_gt_0 hf_gt_0 hc_gt_1 hf_gt_1
          replace BK_gt := mvB BK_gt hB
          obtain ⟨hc_gt_0, hc_gt_1, hf_gt_0, hf_gt_1⟩ := cf2 BK_gt.out
          clear hc_gm_0 hf_gm_0 hc_gm_1 hf_gm_1 hc_gm_2 hf_gm_2 hc_gm_3 hf_gm_3
          replace BK_gm := mvB BK_gm hB
          obtain ⟨hc_gm_0, hc_gm_1, hc_gm_2, hc_gm_3, hf_gm_0, hf_gm_1, hf_gm_2, hf_gm_3⟩ := cf4 BK_gm.out
          clear hc_go_0 hf_go_0 hc_go_1 hf_go_1 hc_go_2 hf_go_2 hc_go_3 hf_go_3
          replace BK_go := mvB BK_go hB
          obtain ⟨hc_go_0, hc_go_1, hc_go_2, hc_go_3, hf_go_0, hf_go_1, hf_go_2, hf_go_3⟩ := cf4 BK_go.out
          clear hc_gi_0 hf_gi_0 hc_gi_1 hf_gi_1 hc_gi_2 hf_gi_2 hc_gi_3 hf_gi_3
          replace BK_gi := mvB BK_gi hB
          obtain ⟨hc_gi_0, hc_gi_1, hc_gi_2, hc_gi_3, hf_gi_0, hf_gi_1, hf_gi_2, hf_gi_3⟩ := cf4 BK_gi.out
          replace HV_x := mvV HV_x hB
          replace HV_b := mvV HV_b hB
          replace HV_a := mvV HV_a hB
          replace HV_n := mvV HV_n hB
          replace HV_bo := mvV HV_bo hB
          replace HV_h := mvV HV_h hB
          clear hB
          refine tk 0 44 (bb 10 1) rfl rfl HT_ HW_ hHeld ?_
          refine pw 1 45 (bb 10 3) rfl rfl HT_ ?_
          refine tk 2 46 (bb 10 7) rfl rfl HT_ HW_ hHeld ?_
          refine pw 3 47 (bb 10 15) rfl rfl HT_ ?_
          refine pw 4 48 (bb 10 31) rfl rfl HT_ ?_
          refine pw 6 50 (bb 10 95) rfl rfl HT_ ?_
          refine tk 7 51 (bb 10 223) rfl rfl HT_ HW_ hHeld ?_
          refine on1 5 (some 49) (bb 10 255) rfl rfl HT_ (fun K hK => ?_)
          refine gfn Try.func50 #[.slice A_a xa.length c_a, .slice A_b b.length c_b] ?_
          (with_reducible refine (inter_w (by have := XAL.out; omega) XM.out XAR.out XB.out _ _ _ _ _ (Kd.V_reads' HV_a.out).2.2 (Kd.V_reads' HV_a.out).2.1 (Kd.V_reads' HV_b.out).2.2 (Kd.V_reads' HV_b.out).2.1).mono ?_)
          rintro e_ w7_ ⟨v_i, rfl, hR, hB⟩
          rw [XIA.out] at hR
          obtain ⟨A_i, c_i, rfl⟩ := Kd.R_slice hR
          refine ⟨_, rfl, ?_⟩
          have hV := RV_ok (P := P) (go := go) hR HB.out.size (blk_lt BK_go.out)
          replace HB := mvH HB hB
          clear hc_gt_0 hf_gt_0 hc_gt_1 hf_gt_1
          replace BK_gt := mvB BK_gt hB
          obtain ⟨hc_gt_0, hc_gt_1, hf_gt_0, hf_gt_1⟩ := cf2 BK_gt.out
          clear hc_gm_0 hf_gm_0 hc_gm_1 hf_gm_1 hc_gm_2 hf_gm_2 hc_gm_3 hf_gm_3
          replace BK_gm := mvB BK_gm hB
          obtain ⟨hc_gm_0, hc_gm_1, hc_gm_2, hc_gm_3, hf_gm_0, hf_gm_1, hf_gm_2, hf_gm_3⟩ := cf4 BK_gm.out
          clear hc_go_0 hf_go_0 hc_go_1 hf_go_1 hc_go_2 hf_go_2 hc_go_3 hf_go_3
          replace BK_go := mvB BK_go hB
          obtain ⟨hc_go_0, hc_go_1, hc_go_2, hc_go_3, hf_go_0, hf_go_1, hf_go_2, hf_go_3⟩ := cf4 BK_go.out
          clear hc_gi_0 hf_gi_0 hc_gi_1 hf_gi_1 hc_gi_2 hf_gi_2 hc_gi_3 hf_gi_3
          replace BK_gi := mvB BK_gi hB
          obtain ⟨hc_gi_0, hc_gi_1, hc_gi_2, hc_gi_3, hf_gi_0, hf_gi_1, hf_gi_2, hf_gi_3⟩ := cf4 BK_gi.out
          replace HV_x := mvV HV_x hB
          replace HV_b := mvV HV_b hB
          replace HV_a := mvV HV_a hB
          replace HV_n := mvV HV_n hB
          replace HV_bo := mvV HV_bo hB
          replace HV_h := mvV HV_h hB
          have HV_i := Aside0.mk hV
          clear hR hV hB
          refine hK.out _ _ ⟨hc_gt_0, hc_gt_1, hc_gm_0, hc_gm_1, hc_gm_2, hc_gm_3, hc_gi_0, hc_gi_1, hc_gi_2, hc_gi_3⟩ (fun hHeld => ?_)
          clear hK K
          refine nm ?_
          refine on1 8 (some 52) (bb 10 511) rfl rfl HT_ (fun K hK => ?_)
          refine gfn Try.func49 #[.agg #[.slice A_h hh.length c_h, .bool true, .int .i64 t.f0, .slice none 0 0], .int .u32 g, .slice A_i ia.length c_i, .int .i64 t.f1] ?_
          (with_reducible refine (asked_w (ex := true) (lf := t.f0) XHL.out XIL.out _ _ _ _ _ (okH P w go) HV_h.out HV_i.out).mono ?_)
          rintro e_ w8_ ⟨v_s, v_q, rfl, h0, h1, hB⟩
          rw [XSA.out] at h0
          rw [XQA.out] at h1
          obtain ⟨A_s, c_s, rfl⟩ := Kd.V_slice h0
          obtain ⟨A_q, c_q, rfl⟩ := Kd.V_slice h1
          refine ⟨_, rfl, ?_⟩
          have hV := VA_ok h0 HB.out.size (blk_lt BK_go.out)
          have hV2 := VA_ok h1 HB.out.size (blk_lt BK_go.out)
          replace HB := mvH HB hB
          clear hc_gt_0 hf_gt_0 hc_gt_1 hf_gt_1
          replace BK_gt := mvB BK_gt hB
          obtain ⟨hc_gt_0, hc_gt_1, hf_gt_0, hf_gt_1⟩ := cf2 BK_gt.out
          clear hc_gm_0 hf_gm_0 hc_gm_1 hf_gm_1 hc_gm_2 hf_gm_2 hc_gm_3 hf_gm_3
          replace BK_gm := mvB BK_gm hB
          obtain ⟨hc_gm_0, hc_gm_1, hc_gm_2, hc_gm_3, hf_gm_0, hf_gm_1, hf_gm_2, hf_gm_3⟩ := cf4 BK_gm.out
          clear hc_go_0 hf_go_0 hc_go_1 hf_go_1 hc_go_2 hf_go_2 hc_go_3 hf_go_3
          replace BK_go := mvB BK_go hB
          obtain ⟨hc_go_0, hc_go_1, hc_go_2, hc_go_3, hf_go_0, hf_go_1, hf_go_2, hf_go_3⟩ := cf4 BK_go.out
          clear hc_gi_0 hf_gi_0 hc_gi_1 hf_gi_1 hc_gi_2 hf_gi_2 hc_gi_3 hf_gi_3
          replace BK_gi := mvB BK_gi hB
          obtain ⟨hc_gi_0, hc_gi_1, hc_gi_2, hc_gi_3, hf_gi_0, hf_gi_1, hf_gi_2, hf_gi_3⟩ := cf4 BK_gi.out
          replace HV_x := mvV HV_x hB
          replace HV_b := mvV HV_b hB
          replace HV_a := mvV HV_a hB
          replace HV_n := mvV HV_n hB
          replace HV_bo := mvV HV_bo hB
          replace HV_h := mvV HV_h hB
          replace HV_i := mvV HV_i hB
          have HV_s := Aside0.mk hV
          have HV_q := Aside0.mk hV2
          clear h0 h1 hV hV2 hB
          refine hK.out _ _ ⟨hc_gt_0, hc_gt_1, hc_gm_0, hc_gm_1, hc_gm_2, hc_gm_3, hc_gi_0, hc_gi_1, hc_gi_2, hc_gi_3⟩ (fun hHeld => ?_)
          clear hK K
          refine nm ?_
          refine last_ (i := 9) (N := none) (bb 10 1023) rfl rfl (one_of HT_.out (by kernel_rfl)) (by decide) (fun K hK => ?_)
          refine skip_ (w1 := ?_) (by rfl) rfl ?_ ?_
          rotate_left
          · go_simp
            rfl
          refine hK.out _ _ ?_
          clear hK K
          refine done_ (done_of HT_.out (by kernel_rfl)) ?_
          go_wp2
          refine bodyPost_ret (results_cell_row rfl _ _ go 76 #[.slice A_s sa.length c_s, .bool true, .int .i64 t.f0, .slice A_q qa.length c_q] (0, 0) _ rfl (blk_put (cs := #[.slice A_s sa.length c_s, .bool true, .int .i64 t.f0, .slice none 0 0]) (blk_put (cs := #[.slice A_s sa.length c_s, .bool true, .int .i64 0, .slice none 0 0]) (blk_put (cs := #[.slice A_s sa.length c_s, .bool false, .int .i64 0, .slice none 0 0]) (blk_put (cs := #[.slice none 0 0, .bool false, .int .i64 0, .slice none 0 0]) BK_go.out 0 (.slice A_s sa.length c_s) rfl) 1 (.bool true) rfl) 2 (.int .i64 t.f0) rfl) 3 (.slice A_q qa.length c_q) rfl) Try.underlying76 rfl (by kernel_rfl)) rfl ?_
          rw [show plainR t g sr 4 b = ⟨sa, true, t.f0, qa⟩ from by rw [← XSA.out, ← XQA.out, ← XIA.out, ← XHH.out, ← XXA.out]; rfl]
          exact ⟨_, _, rfl, Kd.V_mono (Kd.V_far (p := ⟨go, 3, none⟩) (Kd.V_far (p := ⟨go, 2, none⟩) (Kd.V_far (p := ⟨go, 1, none⟩) (Kd.V_far (p := ⟨go, 0, none⟩) HV_s.out (fun k hk => hk.2) (.slice A_s sa.length c_s)) (fun k hk => hk.2) (.bool true)) (fun k hk => hk.2) (.int .i64 t.f0)) (fun k hk => hk.2) (.slice A_q qa.length c_q)) (fun k hk => okH_out hk), Kd.V_mono (Kd.V_far (p := ⟨go, 3, none⟩) (Kd.V_far (p := ⟨go, 2, none⟩) (Kd.V_far (p := ⟨go, 1, none⟩) (Kd.V_far (p := ⟨go, 0, none⟩) HV_q.out (fun k hk => hk.2) (.slice A_s sa.length c_s)) (fun k hk => hk.2) (.bool true)) (fun k hk => hk.2) (.int .i64 t.f0)) (fun k hk => hk.2) (.slice A_q qa.length c_q)) (fun k hk => okH_out hk), (below_set (below_set (below_set (below_set HB.out GO.out) GO.out) GO.out) GO.out)⟩
        · have b4 : (kind == 4) = false := by simpa using k4
          by_cases k6 : kind = 6
          · subst k6
            go_upto_region 14 with fail
            obtain ⟨ia, hia⟩ : ∃ y, int xa b = y := ⟨_, rfl⟩
            have XIA := Aside0.mk hia
            have XIL := Aside0.mk (show ia.length ≤ 100000 by rw [← hia]; first | exact Nat.le_trans (int_len _ _) (by have h2 := XAL.out; have h3 := XBL.out; omega) | exact Nat.le_trans (mns_len _ _) (by have h2 := XAL.out; have h3 := XBL.out; omega))
            clear hia
            obtain ⟨sa, hsa⟩ : ∃ y, askS t.f1 ia sr = y := ⟨_, rfl⟩
            have XSA := Aside0.mk hsa
            obtain ⟨qa, hqa⟩ : ∃ y, asksOf g ia = y := ⟨_, rfl⟩
            have XQA := Aside0.mk hqa
            clear hsa hqa
            refine start_ (n := 12) (S := fun w' => w'.cell? ⟨gt, 0, none⟩ = some (.int .i64 t.f0) ∧ w'.cell? ⟨gt, 1, none⟩ = some (.int .i64 t.f1) ∧ w'.cell? ⟨gm, 0, none⟩ = some (.int .u32 g) ∧ w'.cell? ⟨gm, 1, none⟩ = some (.bool ex) ∧ w'.cell? ⟨gm, 2, none⟩ = some (.int .i64 lf) ∧ w'.cell? ⟨gm, 3, none⟩ = some (.slice A_x sr.length c_x)) (ds := [11]) #[false, false, false, false, false, false, false, false, false, false, false, false] (by kernel_rfl) rfl rfl ⟨hc_gt_0, hc_gt_1, hc_gm_0, hc_gm_1, hc_gm_2, hc_gm_3⟩ (fun hHeld => ?_); refine with_tabW mp_t14 mp_b14 (fun HT_ HW_ => ?_)
            have hB : Below w5_.heap.size w5_ w5_.drew := below_drew (Below.refl _ _)
            generalize w5_.drew = w6_ at hB hHeld ⊢
            replace HB := mvH HB hB
            clear hc_gt_0 hf_gt_0 hc_gt_1 hf_gt_1
            replace BK_gt := mvB BK_gt hB
            obtain ⟨hc_gt_0, hc_gt_1, hf_gt_0, hf_gt_1⟩ := cf2 BK_gt.out
            clear hc_gm_0 hf_gm_0 hc_gm_1 hf_gm_1 hc_gm_2 hf_gm_2 hc_gm_3 hf_gm_3
            replace BK_gm := mvB BK_gm hB
            obtain ⟨hc_gm_0, hc_gm_1, hc_gm_2, hc_gm_3, hf_gm_0, hf_gm_1, hf_gm_2, hf_gm_3⟩ := cf4 BK_gm.out
            clear hc_go_0 hf_go_0 hc_go_1 hf_go_1 hc_go_2 hf_go_2 hc_go_3 hf_go_3
            replace BK_go := mvB BK_go hB
            obtain ⟨hc_go_0, hc_go_1, hc_go_2, hc_go_3, hf_go_0, hf_go_1, hf_go_2, hf_go_3⟩ := cf4 BK_go.out
            replace HV_x := mvV HV_x hB
            replace HV_b := mvV HV_b hB
            replace HV_a := mvV HV_a hB
            replace HV_n := mvV HV_n hB
            replace HV_bo := mvV HV_bo hB
            clear hB
            refine pw 0 55 (bb 12 1) rfl rfl HT_ ?_
            refine tk 1 56 (bb 12 3) rfl rfl HT_ HW_ hHeld ?_
            refine pw 2 57 (bb 12 7) rfl rfl HT_ ?_
            refine pw 3 58 (bb 12 15) rfl rfl HT_ ?_
            refine tk 4 59 (bb 12 31) rfl rfl HT_ HW_ hHeld ?_
            refine pw 5 60 (bb 12 63) rfl rfl HT_ ?_
            refine pw 6 61 (bb 12 127) rfl rfl HT_ ?_
            refine pw 8 63 (bb 12 383) rfl rfl HT_ ?_
            refine tk 9 64 (bb 12 895) rfl rfl HT_ HW_ hHeld ?_
            refine on1 7 (some 62) (bb 12 1023) rfl rfl HT_ (fun K hK => ?_)
            refine gfn Try.func50 #[.slice A_a xa.length c_a, .slice A_b b.length c_b] ?_
            (with_reducible refine (inter_w (by have := XAL.out; omega) XM.out XAR.out XB.out _ _ _ _ _ (Kd.V_reads' HV_a.out).2.2 (Kd.V_reads' HV_a.out).2.1 (Kd.V_reads' HV_b.out).2.2 (Kd.V_reads' HV_b.out).2.1).mono ?_)
            rintro e_ w7_ ⟨v_i, rfl, hR, hB⟩
            rw [XIA.out] at hR
            obtain ⟨A_i, c_i, rfl⟩ := Kd.R_slice hR
            refine ⟨_, rfl, ?_⟩
            have hV := RV_ok (P := P) (go := go) hR HB.out.size (blk_lt BK_go.out)
            replace HB := mvH HB hB
            clear hc_gt_0 hf_gt_0 hc_gt_1 hf_gt_1
            replace BK_gt := mvB BK_gt hB
            obtain ⟨hc_gt_0, hc_gt_1, hf_gt_0, hf_gt_1⟩ := cf2 BK_gt.out
            clear hc_gm_0 hf_gm_0 hc_gm_1 hf_gm_1 hc_gm_2 hf_gm_2 hc_gm_3 hf_gm_3
            replace BK_gm := mvB BK_gm hB
            obtain ⟨hc_gm_0, hc_gm_1, hc_gm_2, hc_gm_3, hf_gm_0, hf_gm_1, hf_gm_2, hf_gm_3⟩ := cf4 BK_gm.out
            clear hc_go_0 hf_go_0 hc_go_1 hf_go_1 hc_go_2 hf_go_2 hc_go_3 hf_go_3
            replace BK_go := mvB BK_go hB
            obtain ⟨hc_go_0, hc_go_1, hc_go_2, hc_go_3, hf_go_0, hf_go_1, hf_go_2, hf_go_3⟩ := cf4 BK_go.out
            replace HV_x := mvV HV_x hB
            replace HV_b := mvV HV_b hB
            replace HV_a := mvV HV_a hB
            replace HV_n := mvV HV_n hB
            replace HV_bo := mvV HV_bo hB
            have HV_i := Aside0.mk hV
            clear hR hV hB
            refine hK.out _ _ ⟨hc_gt_0, hc_gt_1, hc_gm_0, hc_gm_1, hc_gm_2, hc_gm_3⟩ (fun hHeld => ?_)
            clear hK K
            refine nm ?_
            refine on1 10 (some 65) (bb 12 2047) rfl rfl HT_ (fun K hK => ?_)
            refine gfn Try.func49 #[.agg #[.slice A_x sr.length c_x, .bool false, .int .i64 0, .slice none 0 0], .int .u32 g, .slice A_i ia.length c_i, .int .i64 t.f1] ?_
            (with_reducible refine (asked_w (ex := false) (lf := 0) XN.out XIL.out _ _ _ _ _ (okH P w go) HV_x.out HV_i.out).mono ?_)
            rintro e_ w8_ ⟨v_s, v_q, rfl, h0, h1, hB⟩
            rw [XSA.out] at h0
            rw [XQA.out] at h1
            obtain ⟨A_s, c_s, rfl⟩ := Kd.V_slice h0
            obtain ⟨A_q, c_q, rfl⟩ := Kd.V_slice h1
            refine ⟨_, rfl, ?_⟩
            have hV := VA_ok h0 HB.out.size (blk_lt BK_go.out)
            have hV2 := VA_ok h1 HB.out.size (blk_lt BK_go.out)
            replace HB := mvH HB hB
            clear hc_gt_0 hf_gt_0 hc_gt_1 hf_gt_1
            replace BK_gt := mvB BK_gt hB
            obtain ⟨hc_gt_0, hc_gt_1, hf_gt_0, hf_gt_1⟩ := cf2 BK_gt.out
            clear hc_gm_0 hf_gm_0 hc_gm_1 hf_gm_1 hc_gm_2 hf_gm_2 hc_gm_3 hf_gm_3
            replace BK_gm := mvB BK_gm hB
            obtain ⟨hc_gm_0, hc_gm_1, hc_gm_2, hc_gm_3, hf_gm_0, hf_gm_1, hf_gm_2, hf_gm_3⟩ := cf4 BK_gm.out
            clear hc_go_0 hf_go_0 hc_go_1 hf_go_1 hc_go_2 hf_go_2 hc_go_3 hf_go_3
            replace BK_go := mvB BK_go hB
            obtain ⟨hc_go_0, hc_go_1, hc_go_2, hc_go_3, hf_go_0, hf_go_1, hf_go_2, hf_go_3⟩ := cf4 BK_go.out
            replace HV_x := mvV HV_x hB
            replace HV_b := mvV HV_b hB
            replace HV_a := mvV HV_a hB
            replace HV_n := mvV HV_n hB
            replace HV_bo := mvV HV_bo hB
            replace HV_i := mvV HV_i hB
            have HV_s := Aside0.mk hV
            have HV_q := Aside0.mk hV2
            clear h0 h1 hV hV2 hB
            refine hK.out _ _ ⟨hc_gt_0, hc_gt_1, hc_gm_0, hc_gm_1, hc_gm_2, hc_gm_3⟩ (fun hHeld => ?_)
            clear hK K
            refine nm ?_
            refine last_ (i := 11) (N := none) (bb 12 4095) rfl rfl (one_of HT_.out (by kernel_rfl)) (by decide) (fun K hK => ?_)
            refine skip_ (w1 := ?_) (by rfl) rfl ?_ ?_
            rotate_left
            · go_simp
              rfl
            refine hK.out _ _ ?_
            clear hK K
            refine done_ (done_of HT_.out (by kernel_rfl)) ?_
            go_wp2
            refine bodyPost_ret (results_cell_row rfl _ _ go 76 #[.slice A_s sa.length c_s, .bool false, .int .i64 0, .slice A_q qa.length c_q] (0, 0) _ rfl (blk_put (cs := #[.slice A_s sa.length c_s, .bool false, .int .i64 0, .slice none 0 0]) (blk_put (cs := #[.slice A_s sa.length c_s, .bool false, .int .i64 0, .slice none 0 0]) (blk_put (cs := #[.slice A_s sa.length c_s, .bool false, .int .i64 0, .slice none 0 0]) (blk_put (cs := #[.slice none 0 0, .bool false, .int .i64 0, .slice none 0 0]) BK_go.out 0 (.slice A_s sa.length c_s) rfl) 1 (.bool false) rfl) 2 (.int .i64 0) rfl) 3 (.slice A_q qa.length c_q) rfl) Try.underlying76 rfl (by kernel_rfl)) rfl ?_
            rw [show plainR t g sr 6 b = ⟨sa, false, 0, qa⟩ from by rw [← XSA.out, ← XQA.out, ← XIA.out, ← XXA.out]; rfl]
            exact ⟨_, _, rfl, Kd.V_mono (Kd.V_far (p := ⟨go, 3, none⟩) (Kd.V_far (p := ⟨go, 2, none⟩) (Kd.V_far (p := ⟨go, 1, none⟩) (Kd.V_far (p := ⟨go, 0, none⟩) HV_s.out (fun k hk => hk.2) (.slice A_s sa.length c_s)) (fun k hk => hk.2) (.bool false)) (fun k hk => hk.2) (.int .i64 0)) (fun k hk => hk.2) (.slice A_q qa.length c_q)) (fun k hk => okH_out hk), Kd.V_mono (Kd.V_far (p := ⟨go, 3, none⟩) (Kd.V_far (p := ⟨go, 2, none⟩) (Kd.V_far (p := ⟨go, 1, none⟩) (Kd.V_far (p := ⟨go, 0, none⟩) HV_q.out (fun k hk => hk.2) (.slice A_s sa.length c_s)) (fun k hk => hk.2) (.bool false)) (fun k hk => hk.2) (.int .i64 0)) (fun k hk => hk.2) (.slice A_q qa.length c_q)) (fun k hk => okH_out hk), (below_set (below_set (below_set (below_set HB.out GO.out) GO.out) GO.out) GO.out)⟩
          · have b6 : (kind == 6) = false := by simpa using k6
            have k3 : kind = 3 := by have := XK.out; omega
            subst k3
            go_upto_region 15 with fail
            obtain ⟨hh, hhh⟩ : ∃ y, hld sr bo 0 b t.f0 = y := ⟨_, rfl⟩
            have XHH := Aside0.mk hhh
            have XHL := Aside0.mk (show hh.length ≤ 100000 by rw [← hhh]; unfold hld; rw [List.length_map]; first | exact XBOL.out | exact XM.out)
            clear hhh
            obtain ⟨ia, hia⟩ : ∃ y, mns xa b = y := ⟨_, rfl⟩
            have XIA := Aside0.mk hia
            have XIL := Aside0.mk (show ia.length ≤ 100000 by rw [← hia]; first | exact Nat.le_trans (int_len _ _) (by have h2 := XAL.out; have h3 := XBL.out; omega) | exact Nat.le_trans (mns_len _ _) (by have h2 := XAL.out; have h3 := XBL.out; omega))
            clear hia
            obtain ⟨sa, hsa⟩ : ∃ y, askS t.f1 ia hh = y := ⟨_, rfl⟩
            have XSA := Aside0.mk hsa
            obtain ⟨qa, hqa⟩ : ∃ y, asksOf g ia = y := ⟨_, rfl⟩
            have XQA := Aside0.mk hqa
            clear hsa hqa
            refine start_ (n := 16) (S := fun w' => w'.cell? ⟨gt, 0, none⟩ = some (.int .i64 t.f0) ∧ w'.cell? ⟨gt, 1, none⟩ = some (.int .i64 t.f1) ∧ w'.cell? ⟨gm, 0, none⟩ = some (.int .u32 g) ∧ w'.cell? ⟨gm, 1, none⟩ = some (.bool ex) ∧ w'.cell? ⟨gm, 2, none⟩ = some (.int .i64 lf) ∧ w'.cell? ⟨gm, 3, none⟩ = some (.slice A_x sr.length c_x)) (ds := [15]) #[false, false, false, false, false, false, false, false, false, false, false, false, false, false, false, false] (by kernel_rfl) rfl rfl ⟨hc_gt_0, hc_gt_1, hc_gm_0, hc_gm_1, hc_gm_2, hc_gm_3⟩ (fun hHeld => ?_); refine with_tabW mp_t15 mp_b15 (fun HT_ HW_ => ?_)
            have hB : Below w5_.heap.size w5_ w5_.drew := below_drew (Below.refl _ _)
            generalize w5_.drew = w6_ at hB hHeld ⊢
            replace HB := mvH HB hB
            clear hc_gt_0 hf_gt_0 hc_gt_1 hf_gt_1
            replace BK_gt := mvB BK_gt hB
            obtain ⟨hc_gt_0, hc_gt_1, hf_gt_0, hf_gt_1⟩ := cf2 BK_gt.out
            clear hc_gm_0 hf_gm_0 hc_gm_1 hf_gm_1 hc_gm_2 hf_gm_2 hc_gm_3 hf_gm_3
            replace BK_gm := mvB BK_gm hB
            obtain ⟨hc_gm_0, hc_gm_1, hc_gm_2, hc_gm_3, hf_gm_0, hf_gm_1, hf_gm_2, hf_gm_3⟩ := cf4 BK_gm.out
            clear hc_go_0 hf_go_0 hc_go_1 hf_go_1 hc_go_2 hf_go_2 hc_go_3 hf_go_3
            replace BK_go := mvB BK_go hB
            obtain ⟨hc_go_0, hc_go_1, hc_go_2, hc_go_3, hf_go_0, hf_go_1, hf_go_2, hf_go_3⟩ := cf4 BK_go.out
            replace HV_x := mvV HV_x hB
            replace HV_b := mvV HV_b hB
            replace HV_a := mvV HV_a hB
            replace HV_n := mvV HV_n hB
            replace HV_bo := mvV HV_bo hB
            clear hB
            refine tk 0 66 (bb 16 1) rfl rfl HT_ HW_ hHeld ?_
            refine pw 1 67 (bb 16 3) rfl rfl HT_ ?_
            refine pw 2 68 (bb 16 7) rfl rfl HT_ ?_
            refine pw 3 69 (bb 16 15) rfl rfl HT_ ?_
            refine tk 4 70 (bb 16 31) rfl rfl HT_ HW_ hHeld ?_
            refine pw 7 73 (bb 16 159) rfl rfl HT_ ?_
            refine tk 8 74 (bb 16 415) rfl rfl HT_ HW_ hHeld ?_
            refine pw 9 75 (bb 16 927) rfl rfl HT_ ?_
            refine pw 10 76 (bb 16 1951) rfl rfl HT_ ?_
            refine pw 12 78 (bb 16 6047) rfl rfl HT_ ?_
            refine tk 13 79 (bb 16 14239) rfl rfl HT_ HW_ hHeld ?_
            refine on1 5 (some 71) (bb 16 14271) rfl rfl HT_ (fun K hK => ?_)
            refine gfn Try.func48 #[.agg #[.int .u32 g, .bool ex, .int .i64 lf, .slice A_x sr.length c_x], .slice A_bo bo.length c_bo, .int .i64 0, .slice A_b b.length c_b, .int .i64 t.f0] ?_
            (with_reducible refine (held_w XN.out XBOL.out XM.out _ _ _ _ _ _ _ (Kd.V_reads' HV_x.out).2.2 (Kd.V_reads' HV_x.out).2.1 (Kd.V_reads' HV_bo.out).2.2 (Kd.V_reads' HV_bo.out).2.1 (Kd.V_reads' HV_b.out).2.2 (Kd.V_reads' HV_b.out).2.1).mono ?_)
            rintro e_ w7_ ⟨v_h, rfl, hR, hB⟩
            rw [XHH.out] at hR
            obtain ⟨A_h, c_h, rfl⟩ := Kd.R_slice hR
            refine ⟨_, rfl, ?_⟩
            have hV := RV_ok (P := P) (go := go) hR HB.out.size (blk_lt BK_go.out)
            replace HB := mvH HB hB
            clear hc_gt_0 hf_gt_0 hc_gt_1 hf_gt_1
            replace BK_gt := mvB BK_gt hB
            obtain ⟨hc_gt_0, hc_gt_1, hf_gt_0, hf_gt_1⟩ := cf2 BK_gt.out
            clear hc_gm_0 hf_gm_0 hc_gm_1 hf_gm_1 hc_gm_2 hf_gm_2 hc_gm_3 hf_gm_3
            replace BK_gm := mvB BK_gm hB
            obtain ⟨hc_gm_0, hc_gm_1, hc_gm_2, hc_gm_3, hf_gm_0, hf_gm_1, hf_gm_2, hf_gm_3⟩ := cf4 BK_gm.out
            clear hc_go_0 hf_go_0 hc_go_1 hf_go_1 hc_go_2 hf_go_2 hc_go_3 hf_go_3
            replace BK_go := mvB BK_go hB
            obtain ⟨hc_go_0, hc_go_1, hc_go_2, hc_go_3, hf_go_0, hf_go_1, hf_go_2, hf_go_3⟩ := cf4 BK_go.out
            replace HV_x := mvV HV_x hB
            replace HV_b := mvV HV_b hB
            replace HV_a := mvV HV_a hB
            replace HV_n := mvV HV_n hB
            replace HV_bo := mvV HV_bo hB
            have HV_h := Aside0.mk hV
            clear hR hV hB
            refine hK.out _ _ ⟨hc_gt_0, hc_gt_1, hc_gm_0, hc_gm_1, hc_gm_2, hc_gm_3⟩ (fun hHeld => ?_)
            clear hK K
            refine nm ?_
            refine pw 6 72 (bb 16 14335) rfl rfl HT_ ?_
            refine on1 11 (some 77) (bb 16 16383) rfl rfl HT_ (fun K hK => ?_)
            refine gfn Try.func51 #[.slice A_a xa.length c_a, .slice A_b b.length c_b] ?_
            (with_reducible refine (minus_w (by have := XAL.out; omega) XM.out XAR.out XB.out _ _ _ _ _ (Kd.V_reads' HV_a.out).2.2 (Kd.V_reads' HV_a.out).2.1 (Kd.V_reads' HV_b.out).2.2 (Kd.V_reads' HV_b.out).2.1).mono ?_)
            rintro e_ w8_ ⟨v_i, rfl, hR, hB⟩
            rw [XIA.out] at hR
            obtain ⟨A_i, c_i, rfl⟩ := Kd.R_slice hR
            refine ⟨_, rfl, ?_⟩
            have hV := RV_ok (P := P) (go := go) hR HB.out.size (blk_lt BK_go.out)
            replace HB := mvH HB hB
            clear hc_gt_0 hf_gt_0 hc_gt_1 hf_gt_1
            replace BK_gt := mvB BK_gt hB
            obtain ⟨hc_gt_0, hc_gt_1, hf_gt_0, hf_gt_1⟩ := cf2 BK_gt.out
            clear hc_gm_0 hf_gm_0 hc_gm_1 hf_gm_1 hc_gm_2 hf_gm_2 hc_gm_3 hf_gm_3
            replace BK_gm := mvB BK_gm hB
            obtain ⟨hc_gm_0, hc_gm_1, hc_gm_2, hc_gm_3, hf_gm_0, hf_gm_1, hf_gm_2, hf_gm_3⟩ := cf4 BK_gm.out
            clear hc_go_0 hf_go_0 hc_go_1 hf_go_1 hc_go_2 hf_go_2 hc_go_3 hf_go_3
            replace BK_go := mvB BK_go hB
            obtain ⟨hc_go_0, hc_go_1, hc_go_2, hc_go_3, hf_go_0, hf_go_1, hf_go_2, hf_go_3⟩ := cf4 BK_go.out
            replace HV_x := mvV HV_x hB
            replace HV_b := mvV HV_b hB
            replace HV_a := mvV HV_a hB
            replace HV_n := mvV HV_n hB
            replace HV_bo := mvV HV_bo hB
            replace HV_h := mvV HV_h hB
            have HV_i := Aside0.mk hV
            clear hR hV hB
            refine hK.out _ _ ⟨hc_gt_0, hc_gt_1, hc_gm_0, hc_gm_1, hc_gm_2, hc_gm_3⟩ (fun hHeld => ?_)
            clear hK K
            refine nm ?_
            refine on1 14 (some 80) (bb 16 32767) rfl rfl HT_ (fun K hK => ?_)
            refine gfn Try.func49 #[.agg #[.slice A_h hh.length c_h, .bool false, .int .i64 0, .slice none 0 0], .int .u32 g, .slice A_i ia.length c_i, .int .i64 t.f1] ?_
            (with_reducible refine (asked_w (ex := false) (lf := 0) XHL.out XIL.out _ _ _ _ _ (okH P w go) HV_h.out HV_i.out).mono ?_)
            rintro e_ w9_ ⟨v_s, v_q, rfl, h0, h1, hB⟩
            rw [XSA.out] at h0
            rw [XQA.out] at h1
            obtain ⟨A_s, c_s, rfl⟩ := Kd.V_slice h0
            obtain ⟨A_q, c_q, rfl⟩ := Kd.V_slice h1
            refine ⟨_, rfl, ?_⟩
            have hV := VA_ok h0 HB.out.size (blk_lt BK_go.out)
            have hV2 := VA_ok h1 HB.out.size (blk_lt BK_go.out)
            replace HB := mvH HB hB
            clear hc_gt_0 hf_gt_0 hc_gt_1 hf_gt_1
            replace BK_gt := mvB BK_gt hB
            obtain ⟨hc_gt_0, hc_gt_1, hf_gt_0, hf_gt_1⟩ := cf2 BK_gt.out
            clear hc_gm_0 hf_gm_0 hc_gm_1 hf_gm_1 hc_gm_2 hf_gm_2 hc_gm_3 hf_gm_3
            replace BK_gm := mvB BK_gm hB
            obtain ⟨hc_gm_0, hc_gm_1, hc_gm_2, hc_gm_3, hf_gm_0, hf_gm_1, hf_gm_2, hf_gm_3⟩ := cf4 BK_gm.out
            clear hc_go_0 hf_go_0 hc_go_1 hf_go_1 hc_go_2 hf_go_2 hc_go_3 hf_go_3
            replace BK_go := mvB BK_go hB
            obtain ⟨hc_go_0, hc_go_1, hc_go_2, hc_go_3, hf_go_0, hf_go_1, hf_go_2, hf_go_3⟩ := cf4 BK_go.out
            replace HV_x := mvV HV_x hB
            replace HV_b := mvV HV_b hB
            replace HV_a := mvV HV_a hB
            replace HV_n := mvV HV_n hB
            replace HV_bo := mvV HV_bo hB
            replace HV_h := mvV HV_h hB
            replace HV_i := mvV HV_i hB
            have HV_s := Aside0.mk hV
            have HV_q := Aside0.mk hV2
            clear h0 h1 hV hV2 hB
            refine hK.out _ _ ⟨hc_gt_0, hc_gt_1, hc_gm_0, hc_gm_1, hc_gm_2, hc_gm_3⟩ (fun hHeld => ?_)
            clear hK K
            refine nm ?_
            refine last_ (i := 15) (N := none) (bb 16 65535) rfl rfl (one_of HT_.out (by kernel_rfl)) (by decide) (fun K hK => ?_)
            refine skip_ (w1 := ?_) (by rfl) rfl ?_ ?_
            rotate_left
            · go_simp
              rfl
            refine hK.out _ _ ?_
            clear hK K
            refine done_ (done_of HT_.out (by kernel_rfl)) ?_
            go_wp2
            refine bodyPost_ret (results_cell_row rfl _ _ go 76 #[.slice A_s sa.length c_s, .bool false, .int .i64 0, .slice A_q qa.length c_q] (0, 0) _ rfl (blk_put (cs := #[.slice A_s sa.length c_s, .bool false, .int .i64 0, .slice none 0 0]) (blk_put (cs := #[.slice A_s sa.length c_s, .bool false, .int .i64 0, .slice none 0 0]) (blk_put (cs := #[.slice A_s sa.length c_s, .bool false, .int .i64 0, .slice none 0 0]) (blk_put (cs := #[.slice none 0 0, .bool false, .int .i64 0, .slice none 0 0]) BK_go.out 0 (.slice A_s sa.length c_s) rfl) 1 (.bool false) rfl) 2 (.int .i64 0) rfl) 3 (.slice A_q qa.length c_q) rfl) Try.underlying76 rfl (by kernel_rfl)) rfl ?_
            rw [show plainR t g sr 3 b = ⟨sa, false, 0, qa⟩ from by rw [← XSA.out, ← XQA.out, ← XIA.out, ← XHH.out, ← XBO.out, ← XXA.out]; rfl]
            exact ⟨_, _, rfl, Kd.V_mono (Kd.V_far (p := ⟨go, 3, none⟩) (Kd.V_far (p := ⟨go, 2, none⟩) (Kd.V_far (p := ⟨go, 1, none⟩) (Kd.V_far (p := ⟨go, 0, none⟩) HV_s.out (fun k hk => hk.2) (.slice A_s sa.length c_s)) (fun k hk => hk.2) (.bool false)) (fun k hk => hk.2) (.int .i64 0)) (fun k hk => hk.2) (.slice A_q qa.length c_q)) (fun k hk => okH_out hk), Kd.V_mono (Kd.V_far (p := ⟨go, 3, none⟩) (Kd.V_far (p := ⟨go, 2, none⟩) (Kd.V_far (p := ⟨go, 1, none⟩) (Kd.V_far (p := ⟨go, 0, none⟩) HV_q.out (fun k hk => hk.2) (.slice A_s sa.length c_s)) (fun k hk => hk.2) (.bool false)) (fun k hk => hk.2) (.int .i64 0)) (fun k hk => hk.2) (.slice A_q qa.length c_q)) (fun k hk => okH_out hk), (below_set (below_set (below_set (below_set HB.out GO.out) GO.out) GO.out) GO.out)⟩
end Go.Proofs.Ytbllchfgjginoaa
