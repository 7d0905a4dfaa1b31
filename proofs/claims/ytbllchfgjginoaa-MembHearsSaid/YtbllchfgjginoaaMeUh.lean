/-
  ref08.Hear, walked.
-/
import Derived.Test.YtbllchfgjginoaaSoJ
import Derived.Test.YtbllchfgjginoaaMhX
import Derived.Test.YtbllchfgjginoaaMhA
namespace Go.Proofs.Ytbllchfgjginoaa
open Go.RowKit Go.Lib Go.Proofs.YtbllchfgjginoaaW.PrintWords Go.Proofs.YtbllchfgjginoaaW.PrintLast Go.Proofs.YtbllchfgjginoaaW.PrintMore Go.Proofs.Ytbllchfgjginoaa.PMe
set_option linter.unusedVariables false
set_option linter.unusedSimpArgs false
def mz_T9 : Bool × List (List Nat × List Nat) := (true, [([], []), ([0], [0]), ([], []), ([2], [2]), ([], []), ([4], [4]), ([], []), ([6], [6]), ([1, 3, 5, 7], [1, 3, 5, 7]), ([], []), ([9], [9]), ([8, 0, 1, 2, 3, 4, 5, 6, 7, 8], [8]), ([10, 11, 0, 1, 2, 3, 4, 5, 6, 7, 8, 9, 10, 11], [10]), ([12, 0, 1, 2, 3, 4, 5, 6, 7, 8, 9, 10, 11, 12], [])])
def mz_B9 : List Nat := [0, 1, 0, 4, 0, 16, 0, 64, 255, 0, 512, 511, 4095, 8191]
theorem mz_t9 : rtab .any (opsOf Try.f13 9) = mz_T9 := by kernel_rfl
theorem mz_b9 : waitsOk mz_T9.2 mz_B9 = true := by kernel_rfl
theorem plain_f {t : S23} {g lf : Int} {ex : Bool} {sr : List S49} {kind : Int} {b : List Int} {p0 : List S49} {p1 : Bool} {p2 : Int} {p3 : List S46} (h : plainR t g sr kind b = ⟨p0, p1, p2, p3⟩) (hs : SortH sr) (hn : sr.length ≤ 1000) (hb : Rise b) (hm : b.length ≤ 1000) (hk : 1 ≤ kind ∧ kind ≤ 6) (A_x : Option Addr) (c_x : Nat) (A_b : Option Addr) (c_b : Nat) (w : World) (P : Nat → Prop) (h1 : Kd.V k49 49 w 0 P (.slice A_x sr.length c_x) sr) (h2 : Kd.V (Kd.int .u32) 25 w 0 P (.slice A_b b.length c_b) b) :
    Calls Try.prog 31 #[.agg #[.int .i64 t.f0, .int .i64 t.f1], .agg #[.int .u32 g, .bool ex, .int .i64 lf, .slice A_x sr.length c_x], .int .u8 kind, .slice A_b b.length c_b] w fun e w' => ∃ v0 v1, e = .returned (.agg #[v0, .bool p1, .int .i64 p2, v1]) ∧ Kd.V k49 49 w' 0 (fun k => P k ∨ w.heap.size ≤ k) v0 p0 ∧ Kd.V k46 46 w' 0 (fun k => P k ∨ w.heap.size ≤ k) v1 p3 ∧ Below w.heap.size w w' := by
  have h3 := plain_w (t := t) (g := g) (lf := lf) (ex := ex) hs hn hb hm hk A_x c_x A_b c_b w P h1 h2
  rw [h] at h3
  exact h3
theorem except_f {t : S23} {g lf : Int} {ex : Bool} {sr : List S49} {kind : Int} {b : List Int} {p0 : List S49} {p1 : Bool} {p2 : Int} {p3 : List S46} (h : exceptR t g lf sr kind b = ⟨p0, p1, p2, p3⟩) (hs : SortH sr) (hn : sr.length ≤ 1000) (hb : Rise b) (hm : b.length ≤ 1000) (hk : 1 ≤ kind ∧ kind ≤ 6) (A_x : Option Addr) (c_x : Nat) (A_b : Option Addr) (c_b : Nat) (w : World) (P : Nat → Prop) (h1 : Kd.V k49 49 w 0 P (.slice A_x sr.length c_x) sr) (h2 : Kd.V (Kd.int .u32) 25 w 0 P (.slice A_b b.length c_b) b) :
    Calls Try.prog 32 #[.agg #[.int .i64 t.f0, .int .i64 t.f1], .agg #[.int .u32 g, .bool ex, .int .i64 lf, .slice A_x sr.length c_x], .int .u8 kind, .slice A_b b.length c_b] w fun e w' => ∃ v0 v1, e = .returned (.agg #[v0, .bool p1, .int .i64 p2, v1]) ∧ Kd.V k49 49 w' 0 (fun k => P k ∨ w.heap.size ≤ k) v0 p0 ∧ Kd.V k46 46 w' 0 (fun k => P k ∨ w.heap.size ≤ k) v1 p3 ∧ Below w.heap.size w w' := by
  have h3 := exceptR_w (t := t) (g := g) (lf := lf) (ex := ex) hs hn hb hm hk A_x c_x A_b c_b w P h1 h2
  rw [h] at h3
  exact h3
def okG (P : Nat → Prop) (w : World) (go gi k : Nat) : Prop := okH P w go k ∧ k ≠ gi
theorem VG_ok {α : Type} {d : Kd α} {e : Nat} {P : Nat → Prop} {w w' : World} {go gi n : Nat} {v : Value} {xs : List α} (h : Kd.V d e w' 0 (fun k => okG P w go gi k ∨ n ≤ k) v xs) (h1 : w.heap.size ≤ n) (h2 : go < n) (h3 : gi < n) : Kd.V d e w' 0 (okG P w go gi) v xs := Kd.V_mono h (fun k hk => hk.elim id (fun h => ⟨okH_new h1 h2 h, by omega⟩))
set_option maxHeartbeats 8000000 in
set_option maxRecDepth 100000 in
theorem refHear_w {t : S23} {g lf : Int} {ex : Bool} {sr : List S49} {kind : Int} {l : List Int} {r0 r2 er : Int} {r1 : Bool} {r3 : List S49} {asks : List S46} (hR : refR t g lf ex sr kind l = (⟨r0, r1, r2, r3⟩, asks, er)) (hs : SortH sr) (hn : sr.length ≤ 1000) (hm : l.length ≤ 1000) (A_x : Option Addr) (c_x : Nat) (A_l : Option Addr) (c_l : Nat) (w : World) (hr : Kd.C k49 w A_x sr.length sr) (hc : sr.length ≤ c_x) (hl : Kd.C (Kd.int .u32) w A_l l.length l) (hd : l.length ≤ c_l) :
    Calls Try.prog 13 #[.agg #[.int .i64 t.f0, .int .i64 t.f1], .agg #[.int .u32 g, .bool ex, .int .i64 lf, .slice A_x sr.length c_x], .int .u8 kind, .slice A_l l.length c_l] w fun e w' => ∃ A0 c0 A1 c1, e = .returned (.tuple #[.agg #[.int .u32 r0, .bool r1, .int .i64 r2, .slice A0 r3.length c0], .slice A1 asks.length c1, .int .i64 er]) ∧ (Kd.C k49 w' A0 r3.length r3 ∧ r3.length ≤ c0) ∧ (Kd.C k46 w' A1 asks.length asks ∧ asks.length ≤ c1) ∧ Below w.heap.size w w' := by
  have hu23 := Try.underlying23
  have hu28 := Try.underlying28
  have hu76 := Try.underlying76
  have HB := Aside0.mk (Below.refl w.heap.size w)
  have XS := Aside0.mk hs
  have XN := Aside0.mk hn
  have XM := Aside0.mk hm
  have XR := Aside0.mk hR
  obtain ⟨P, hP⟩ : ∃ P : Nat → Prop, P = fun k => k < w.heap.size := ⟨_, rfl⟩
  have HV_x := Aside0.mk (show Kd.V k49 49 w 0 P (.slice A_x sr.length c_x) sr from ⟨A_x, c_x, rfl, hc, by rw [hP]; exact Kd.C_F k49_heap hr⟩)
  have HV_l := Aside0.mk (show Kd.V (Kd.int .u32) 25 w 0 P (.slice A_l l.length c_l) l from ⟨A_l, c_l, rfl, hd, by rw [hP]; exact Kd.C_F (Kd.heap_int .u32) hl⟩)
  replace HV_x := Aside0.mk (Kd.V_bound HV_x.out)
  replace HV_l := Aside0.mk (Kd.V_bound HV_l.out)
  clear hs hn hm hr hc hl hd hP hR
  obtain ⟨b, hb⟩ : ∃ y, mk l = y := ⟨_, rfl⟩
  have XB := Aside0.mk hb
  have XBR := Aside0.mk (show Rise b by rw [← hb]; exact mk_rise l)
  have XBL := Aside0.mk (show b.length ≤ 1000 by rw [← hb]; exact Nat.le_trans (mk_len l) XM.out)
  clear hb
  go_enter Try.func13, Try.ntmps13
  go_upto_region 1 with (first | ((with_reducible refine gate_dst (N := 4) rfl ?_); (try (refine gate_guard (by rfl) ?_; dsimp only)); refine bxn (cs := #[.int .i64 t.f0, .int .i64 t.f1]) (t := 23) ?_; intro gt hg w1_ hbox hB; replace HB := mvH HB hB; replace HV_x := mvV HV_x hB; replace HV_l := mvV HV_l hB; have BK_gt := Aside0.mk hbox; clear hg hbox hB; obtain ⟨hc_gt_0, hc_gt_1, hf_gt_0, -⟩ := cf2 BK_gt.out; have hf_gt_1 := blk_frozen BK_gt.out 1) | ((with_reducible refine gate_dst (N := 5) rfl ?_); (try (refine gate_guard (by rfl) ?_; dsimp only)); refine bxn (cs := #[.int .u32 g, .bool ex, .int .i64 lf, .slice A_x sr.length c_x]) (t := 28) ?_; intro gm hg w2_ hbox hB; replace HB := mvH HB hB; clear hc_gt_0 hf_gt_0 hc_gt_1 hf_gt_1; replace BK_gt := mvB BK_gt hB; obtain ⟨hc_gt_0, hc_gt_1, hf_gt_0, hf_gt_1⟩ := cf2 BK_gt.out; replace HV_x := mvV HV_x hB; replace HV_l := mvV HV_l hB; have BK_gm := Aside0.mk hbox; clear hg hbox hB; obtain ⟨hc_gm_0, hc_gm_1, hc_gm_2, hc_gm_3, hf_gm_0, hf_gm_1, hf_gm_2, -⟩ := cf4 BK_gm.out; have hf_gm_3 := blk_frozen BK_gm.out 3) | ((with_reducible refine gate_dst (N := 8) rfl ?_); (try (refine gate_guard (by rfl) ?_; dsimp only)); refine bxn (cs := #[.int .u32 0, .bool false, .int .i64 0, .slice none 0 0]) (t := 28) ?_; intro go hg w3_ hbox hB; have HBo := HB; have NMG := Aside0.mk (show gm ≠ go by rw [hg]; exact Nat.ne_of_lt (blk_lt BK_gm.out)); replace HB := mvH HB hB; clear hc_gt_0 hf_gt_0 hc_gt_1 hf_gt_1; replace BK_gt := mvB BK_gt hB; obtain ⟨hc_gt_0, hc_gt_1, hf_gt_0, hf_gt_1⟩ := cf2 BK_gt.out; clear hc_gm_0 hf_gm_0 hc_gm_1 hf_gm_1 hc_gm_2 hf_gm_2 hc_gm_3 hf_gm_3; replace BK_gm := mvB BK_gm hB; obtain ⟨hc_gm_0, hc_gm_1, hc_gm_2, hc_gm_3, hf_gm_0, hf_gm_1, hf_gm_2, hf_gm_3⟩ := cf4 BK_gm.out; replace HV_x := mvV HV_x hB; replace HV_l := mvV HV_l hB; have BK_go := Aside0.mk hbox; have GO := Aside0.mk (show w.heap.size ≤ go by rw [hg]; exact HBo.out.size); clear hg hbox hB; obtain ⟨hc_go_0, hc_go_1, hc_go_2, hc_go_3, hf_go_0, hf_go_1, hf_go_2, -⟩ := cf4 BK_go.out; have hf_go_3 := blk_frozen BK_go.out 3))
  replace HV_x := Aside0.mk (Kd.V_mono (ok' := okH P w go) HV_x.out (fun k hk => ⟨.inl hk, fun e => by have h1 := hk.2; have h2 := GO.out; have h3 : k = go := e; omega⟩))
  replace HV_l := Aside0.mk (Kd.V_mono (ok' := okH P w go) HV_l.out (fun k hk => ⟨.inl hk, fun e => by have h1 := hk.2; have h2 := GO.out; have h3 : k = go := e; omega⟩))
  clear HBo
  by_cases k1 : kind < 1
  · have XK := Aside0.mk k1
    clear XB XBR XBL
    go_wp2
    have E := XR.out
    rw [show refR t g lf ex sr kind l = (⟨g, ex, lf, sr⟩, [], 1) from if_pos (.inl XK.out)] at E
    injection E with E1 E2
    injection E2 with E2 E3
    injection E1 with e0 e1 e2 e3
    subst e0
    subst e1
    subst e2
    subst e3
    subst E2
    subst E3
    refine bodyPost_ret (results_ctt rfl _ _ go 28 #[.int .u32 g, .bool ex, .int .i64 lf, .slice A_x sr.length c_x] (0, 0) _ rfl (blk_put (cs := #[.int .u32 g, .bool ex, .int .i64 lf, .slice none 0 0]) (blk_put (cs := #[.int .u32 g, .bool ex, .int .i64 0, .slice none 0 0]) (blk_put (cs := #[.int .u32 g, .bool false, .int .i64 0, .slice none 0 0]) (blk_put (cs := #[.int .u32 0, .bool false, .int .i64 0, .slice none 0 0]) BK_go.out 0 (.int .u32 g) rfl) 1 (.bool ex) rfl) 2 (.int .i64 lf) rfl) 3 (.slice A_x sr.length c_x) rfl) Try.underlying28 rfl (by kernel_rfl)) rfl ?_
    have V9 := (Kd.V_far (p := ⟨go, 3, none⟩) (Kd.V_far (p := ⟨go, 2, none⟩) (Kd.V_far (p := ⟨go, 1, none⟩) (Kd.V_far (p := ⟨go, 0, none⟩) HV_x.out (fun k hk => hk.2) (.int .u32 g)) (fun k hk => hk.2) (.bool ex)) (fun k hk => hk.2) (.int .i64 lf)) (fun k hk => hk.2) (.slice A_x sr.length c_x))
    exact ⟨_, _, none, 0, rfl, ⟨(Kd.V_reads' V9).2.2, (Kd.V_reads' V9).2.1⟩, ⟨Kd.C_nil _ _, Nat.le_refl _⟩, (below_set (below_set (below_set (below_set HB.out GO.out) GO.out) GO.out) GO.out)⟩
  · by_cases k6 : 6 < kind
    · have XK := Aside0.mk k6
      clear XB XBR XBL
      go_wp2
      have E := XR.out
      rw [show refR t g lf ex sr kind l = (⟨g, ex, lf, sr⟩, [], 1) from if_pos (.inr XK.out)] at E
      injection E with E1 E2
      injection E2 with E2 E3
      injection E1 with e0 e1 e2 e3
      subst e0
      subst e1
      subst e2
      subst e3
      subst E2
      subst E3
      refine bodyPost_ret (results_ctt rfl _ _ go 28 #[.int .u32 g, .bool ex, .int .i64 lf, .slice A_x sr.length c_x] (0, 0) _ rfl (blk_put (cs := #[.int .u32 g, .bool ex, .int .i64 lf, .slice none 0 0]) (blk_put (cs := #[.int .u32 g, .bool ex, .int .i64 0, .slice none 0 0]) (blk_put (cs := #[.int .u32 g, .bool false, .int .i64 0, .slice none 0 0]) (blk_put (cs := #[.int .u32 0, .bool false, .int .i64 0, .slice none 0 0]) BK_go.out 0 (.int .u32 g) rfl) 1 (.bool ex) rfl) 2 (.int .i64 lf) rfl) 3 (.slice A_x sr.length c_x) rfl) Try.underlying28 rfl (by kernel_rfl)) rfl ?_
      have V9 := (Kd.V_far (p := ⟨go, 3, none⟩) (Kd.V_far (p := ⟨go, 2, none⟩) (Kd.V_far (p := ⟨go, 1, none⟩) (Kd.V_far (p := ⟨go, 0, none⟩) HV_x.out (fun k hk => hk.2) (.int .u32 g)) (fun k hk => hk.2) (.bool ex)) (fun k hk => hk.2) (.int .i64 lf)) (fun k hk => hk.2) (.slice A_x sr.length c_x))
      exact ⟨_, _, none, 0, rfl, ⟨(Kd.V_reads' V9).2.2, (Kd.V_reads' V9).2.1⟩, ⟨Kd.C_nil _ _, Nat.le_refl _⟩, (below_set (below_set (below_set (below_set HB.out GO.out) GO.out) GO.out) GO.out)⟩
    · have XK := Aside0.mk (show 1 ≤ kind ∧ kind ≤ 6 by omega)
      have XKN := Aside0.mk (show ¬ (kind < 1 ∨ 6 < kind) by omega)
      go_upto_region 4 with (first | (go_at_call 30; (with_reducible refine (make6_w (by have := XM.out; omega) _ _ _ (Kd.V_reads' HV_l.out).2.2 (Kd.V_reads' HV_l.out).2.1).mono ?_); rintro e_ w4_ ⟨v_b, rfl, hR, hB⟩; rw [XB.out] at hR; obtain ⟨A_b, c_b, rfl⟩ := Kd.R_slice hR; have hV := RV_ok (P := P) (go := go) hR HB.out.size (blk_lt BK_go.out); replace HB := mvH HB hB; clear hc_gt_0 hf_gt_0 hc_gt_1 hf_gt_1; replace BK_gt := mvB BK_gt hB; obtain ⟨hc_gt_0, hc_gt_1, hf_gt_0, hf_gt_1⟩ := cf2 BK_gt.out; clear hc_gm_0 hf_gm_0 hc_gm_1 hf_gm_1 hc_gm_2 hf_gm_2 hc_gm_3 hf_gm_3; replace BK_gm := mvB BK_gm hB; obtain ⟨hc_gm_0, hc_gm_1, hc_gm_2, hc_gm_3, hf_gm_0, hf_gm_1, hf_gm_2, hf_gm_3⟩ := cf4 BK_gm.out; clear hc_go_0 hf_go_0 hc_go_1 hf_go_1 hc_go_2 hf_go_2 hc_go_3 hf_go_3; replace BK_go := mvB BK_go hB; obtain ⟨hc_go_0, hc_go_1, hc_go_2, hc_go_3, hf_go_0, hf_go_1, hf_go_2, hf_go_3⟩ := cf4 BK_go.out; replace HV_x := mvV HV_x hB; replace HV_l := mvV HV_l hB; have HV_b := Aside0.mk hV; clear hR hV hB))
      clear k1 k6
      obtain ⟨⟨p0, p1, p2, p3⟩, hp⟩ : ∃ y, plainR t g sr kind b = y := ⟨_, rfl⟩
      have XP := Aside0.mk hp
      clear hp
      go_upto_region 5 with (first | (go_at_call 31; (with_reducible refine (plain_f XP.out XS.out XN.out XBR.out XBL.out XK.out _ _ _ _ _ (okH P w go) HV_x.out HV_b.out).mono ?_); rintro e_ w5_ ⟨v_0, v_1, rfl, h0, h1, hB⟩; obtain ⟨A_p, c_p, rfl⟩ := Kd.V_slice h0; obtain ⟨A_pq, c_pq, rfl⟩ := Kd.V_slice h1; have hV := VA_ok h0 HB.out.size (blk_lt BK_go.out); have hV2 := VA_ok h1 HB.out.size (blk_lt BK_go.out); replace HB := mvH HB hB; clear hc_gt_0 hf_gt_0 hc_gt_1 hf_gt_1; replace BK_gt := mvB BK_gt hB; obtain ⟨hc_gt_0, hc_gt_1, hf_gt_0, hf_gt_1⟩ := cf2 BK_gt.out; clear hc_gm_0 hf_gm_0 hc_gm_1 hf_gm_1 hc_gm_2 hf_gm_2 hc_gm_3 hf_gm_3; replace BK_gm := mvB BK_gm hB; obtain ⟨hc_gm_0, hc_gm_1, hc_gm_2, hc_gm_3, hf_gm_0, hf_gm_1, hf_gm_2, hf_gm_3⟩ := cf4 BK_gm.out; clear hc_go_0 hf_go_0 hc_go_1 hf_go_1 hc_go_2 hf_go_2 hc_go_3 hf_go_3; replace BK_go := mvB BK_go hB; obtain ⟨hc_go_0, hc_go_1, hc_go_2, hc_go_3, hf_go_0, hf_go_1, hf_go_2, hf_go_3⟩ := cf4 BK_go.out; replace HV_x := mvV HV_x hB; replace HV_l := mvV HV_l hB; replace HV_b := mvV HV_b hB; have HV_p := Aside0.mk hV; have HV_pq := Aside0.mk hV2; clear h0 h1 hV hV2 hB) | ((with_reducible refine gate_dst (N := 12) rfl ?_); (try (refine gate_guard (by rfl) ?_; dsimp only)); refine bxn (cs := #[.slice none 0 0, .bool false, .int .i64 0, .slice none 0 0]) (t := 76) ?_; intro gi hg w6_ hbox hB0; have hG := Aside0.mk (show w5_.heap.size ≤ gi from Nat.le_of_eq hg.symm); clear hg; have hBX := Aside0.mk hbox; have hB1 := Aside0.mk hB0; clear hB0; obtain ⟨hc_gi_0, hc_gi_1, hc_gi_2, hc_gi_3, hf_gi_0, hf_gi_1, hf_gi_2, hf_gi_3⟩ := cf4 hbox; clear hbox))
      have hB : Below w5_.heap.size w5_ ((((w6_.setCell ⟨gi, 0, none⟩ (.slice A_p p0.length c_p)).setCell ⟨gi, 1, none⟩ (.bool p1)).setCell ⟨gi, 2, none⟩ (.int .i64 p2)).setCell ⟨gi, 3, none⟩ (.slice A_pq p3.length c_pq)) := (below_set (below_set (below_set (below_set hB1.out hG.out) hG.out) hG.out) hG.out)
      have hBN : ((((w6_.setCell ⟨gi, 0, none⟩ (.slice A_p p0.length c_p)).setCell ⟨gi, 1, none⟩ (.bool p1)).setCell ⟨gi, 2, none⟩ (.int .i64 p2)).setCell ⟨gi, 3, none⟩ (.slice A_pq p3.length c_pq)).heap[gi]? = some (.cells #[.slice A_p p0.length c_p, .bool p1, .int .i64 p2, .slice A_pq p3.length c_pq] 76 (0, 0)) := (blk_put (cs := #[.slice A_p p0.length c_p, .bool p1, .int .i64 p2, .slice none 0 0]) (blk_put (cs := #[.slice A_p p0.length c_p, .bool p1, .int .i64 0, .slice none 0 0]) (blk_put (cs := #[.slice A_p p0.length c_p, .bool false, .int .i64 0, .slice none 0 0]) (blk_put (cs := #[.slice none 0 0, .bool false, .int .i64 0, .slice none 0 0]) hBX.out 0 (.slice A_p p0.length c_p) rfl) 1 (.bool p1) rfl) 2 (.int .i64 p2) rfl) 3 (.slice A_pq p3.length c_pq) rfl)
      clear hBX hB1
      clear hc_gi_0 hf_gi_0 hc_gi_1 hf_gi_1 hc_gi_2 hf_gi_2 hc_gi_3 hf_gi_3
      generalize ((((w6_.setCell ⟨gi, 0, none⟩ (.slice A_p p0.length c_p)).setCell ⟨gi, 1, none⟩ (.bool p1)).setCell ⟨gi, 2, none⟩ (.int .i64 p2)).setCell ⟨gi, 3, none⟩ (.slice A_pq p3.length c_pq)) = w7_ at hB hBN ⊢
      have GIW := Aside0.mk (show w.heap.size ≤ gi from Nat.le_trans HB.out.size hG.out)
      have NMI := Aside0.mk (show gm ≠ gi by have h1 := blk_lt BK_gm.out; have h2 := hG.out; omega)
      have NGI := Aside0.mk (show gi ≠ go by have h1 := blk_lt BK_go.out; have h2 := hG.out; omega)
      replace HB := mvH HB hB
      clear hc_gt_0 hf_gt_0 hc_gt_1 hf_gt_1
      replace BK_gt := mvB BK_gt hB
      obtain ⟨hc_gt_0, hc_gt_1, hf_gt_0, hf_gt_1⟩ := cf2 BK_gt.out
      clear hc_gm_0 hf_gm_0 hc_gm_1 hf_gm_1 hc_gm_2 hf_gm_2 hc_gm_3 hf_gm_3
      replace BK_gm := mvB BK_gm hB
      obtain ⟨hc_gm_0, hc_gm_1, hc_gm_2, hc_gm_3, hf_gm_0, hf_gm_1, hf_gm_2, hf_gm_3⟩ := cf4 BK_gm.out
      clear hc_go_0 hf_go_0 hc_go_1 hf_go_1 hc_go_2 hf_go_2 hc_go_3 hf_go_3
      replace BK_go := mvB BK_go hB
      obtain ⟨hc_go_0, hc_go_1, hc_go_2, hc_go_3, hf_go_0, hf_go_1, hf_go_2, hf_go_3⟩ := cf4 BK_go.out
      replace HV_x := Aside0.mk (Kd.V_mono (ok' := okG P w go gi) (Kd.V_below (Kd.V_bound HV_x.out) hB) (fun k hk => ⟨hk.1, fun e => by have h1 := hk.2; have h2 := hG.out; have h3 : k = gi := e; omega⟩))
      replace HV_l := Aside0.mk (Kd.V_mono (ok' := okG P w go gi) (Kd.V_below (Kd.V_bound HV_l.out) hB) (fun k hk => ⟨hk.1, fun e => by have h1 := hk.2; have h2 := hG.out; have h3 : k = gi := e; omega⟩))
      replace HV_b := Aside0.mk (Kd.V_mono (ok' := okG P w go gi) (Kd.V_below (Kd.V_bound HV_b.out) hB) (fun k hk => ⟨hk.1, fun e => by have h1 := hk.2; have h2 := hG.out; have h3 : k = gi := e; omega⟩))
      replace HV_p := Aside0.mk (Kd.V_mono (ok' := okG P w go gi) (Kd.V_below (Kd.V_bound HV_p.out) hB) (fun k hk => ⟨hk.1, fun e => by have h1 := hk.2; have h2 := hG.out; have h3 : k = gi := e; omega⟩))
      replace HV_pq := Aside0.mk (Kd.V_mono (ok' := okG P w go gi) (Kd.V_below (Kd.V_bound HV_pq.out) hB) (fun k hk => ⟨hk.1, fun e => by have h1 := hk.2; have h2 := hG.out; have h3 : k = gi := e; omega⟩))
      have BK_gi := Aside0.mk hBN
      clear hG hBN hB
      obtain ⟨hc_gi_0, hc_gi_1, hc_gi_2, hc_gi_3, hf_gi_0, hf_gi_1, hf_gi_2, hf_gi_3⟩ := cf4 BK_gi.out
      cases ex with
      | false =>
        have XE := Aside0.mk (show refH t g lf false sr kind (mk l) = ⟨p0, p1, p2, p3⟩ from by rw [XB.out]; exact XP.out)
        by_cases h64 : (64 : Int) < (p0.length : Int)
        · have XF := Aside0.mk h64
          go_wp2
          have E := XR.out
          rw [show refR t g lf false sr kind l = (⟨g, false, lf, sr⟩, [], 7) from by unfold refR; rw [if_neg XKN.out, if_pos (by rw [XE.out]; show 64 < p0.length; have := XF.out; omega)]] at E
          injection E with E1 E2
          injection E2 with E2 E3
          injection E1 with e0 e1 e2 e3
          subst e0
          subst e1
          subst e2
          subst e3
          subst E2
          subst E3
          refine bodyPost_ret (results_ctt rfl _ _ go 28 #[.int .u32 g, .bool false, .int .i64 lf, .slice A_x sr.length c_x] (0, 0) _ rfl (blk_put (cs := #[.int .u32 g, .bool false, .int .i64 lf, .slice none 0 0]) (blk_put (cs := #[.int .u32 g, .bool false, .int .i64 0, .slice none 0 0]) (blk_put (cs := #[.int .u32 g, .bool false, .int .i64 0, .slice none 0 0]) (blk_put (cs := #[.int .u32 0, .bool false, .int .i64 0, .slice none 0 0]) BK_go.out 0 (.int .u32 g) rfl) 1 (.bool false) rfl) 2 (.int .i64 lf) rfl) 3 (.slice A_x sr.length c_x) rfl) Try.underlying28 rfl (by kernel_rfl)) rfl ?_
          have V9 := (Kd.V_far (p := ⟨go, 3, none⟩) (Kd.V_far (p := ⟨go, 2, none⟩) (Kd.V_far (p := ⟨go, 1, none⟩) (Kd.V_far (p := ⟨go, 0, none⟩) HV_x.out (fun k hk => hk.1.2) (.int .u32 g)) (fun k hk => hk.1.2) (.bool false)) (fun k hk => hk.1.2) (.int .i64 lf)) (fun k hk => hk.1.2) (.slice A_x sr.length c_x))
          exact ⟨_, _, none, 0, rfl, ⟨(Kd.V_reads' V9).2.2, (Kd.V_reads' V9).2.1⟩, ⟨Kd.C_nil _ _, Nat.le_refl _⟩, (below_set (below_set (below_set (below_set HB.out GO.out) GO.out) GO.out) GO.out)⟩
        · have XF := Aside0.mk h64
          go_upto_region 9 with fail
          refine start_ (n := 14) (S := fun w' => w'.cell? ⟨gm, 0, none⟩ = some (.int .u32 g) ∧ w'.cell? ⟨gm, 1, none⟩ = some (.bool false) ∧ w'.cell? ⟨gm, 2, none⟩ = some (.int .i64 lf) ∧ w'.cell? ⟨gm, 3, none⟩ = some (.slice A_x sr.length c_x) ∧ w'.cell? ⟨gi, 0, none⟩ = some (.slice A_p p0.length c_p) ∧ w'.cell? ⟨gi, 1, none⟩ = some (.bool p1) ∧ w'.cell? ⟨gi, 2, none⟩ = some (.int .i64 p2) ∧ w'.cell? ⟨gi, 3, none⟩ = some (.slice A_pq p3.length c_pq)) (ds := []) #[false, false, false, false, false, false, false, false, false, false, false, false, false, false] (by kernel_rfl) rfl rfl ⟨hc_gm_0, hc_gm_1, hc_gm_2, hc_gm_3, hc_gi_0, hc_gi_1, hc_gi_2, hc_gi_3⟩ (fun hHeld => ?_); refine with_tabW mz_t9 mz_b9 (fun HT_ HW_ => ?_)
          have hB : Below w7_.heap.size w7_ w7_.drew := below_drew (Below.refl _ _)
          generalize w7_.drew = w8_ at hB hHeld ⊢
          replace HB := mvH HB hB
          clear hc_gt_0 hf_gt_0 hc_gt_1 hf_gt_1
          replace BK_gt := mvB BK_gt hB
          obtain ⟨hc_gt_0, hc_gt_1, hf_gt_0, hf_gt_1⟩ := cf2 BK_gt.out
          clear hc_gm_0 hf_gm_0 hc_gm_1 hf_gm_1 hc_gm_2 hf_gm_2 hc_gm_3 hf_gm_3
          replace BK_gm := mvB BK_gm hB
          obtain ⟨hc_gm_0, hc_gm_1, hc_gm_2, hc_gm_3, hf_gm_0, hf_gm_1, hf_gm_2, hf_gm_3⟩ := cf4 BK_gm.out
          clear hc_go_0 hf_go_0 hc_go_1 hf_go_1 hc_go_2 hf_go_2 hc_go_3 hf_go_3
          replace BK_go := mvB BK_go hB
          obtain ⟨hc_go_0, hc_go_1, hc_go_2, hc_go_3, hf_go_0, hf_go_1, hf_go_2, hf_go_3⟩ := cf4 BK_go.out
          clear hc_gi_0 hf_gi_0 hc_gi_1 hf_gi_1 hc_gi_2 hf_gi_2 hc_gi_3 hf_gi_3
          replace BK_gi := mvB BK_gi hB
          obtain ⟨hc_gi_0, hc_gi_1, hc_gi_2, hc_gi_3, hf_gi_0, hf_gi_1, hf_gi_2, hf_gi_3⟩ := cf4 BK_gi.out
          replace HV_x := mvV HV_x hB
          replace HV_l := mvV HV_l hB
          replace HV_b := mvV HV_b hB
          replace HV_p := mvV HV_p hB
          replace HV_pq := mvV HV_pq hB
          clear hB
          refine pw 0 39 (bb 14 1) rfl rfl HT_ ?_
          refine tk 1 40 (bb 14 3) rfl rfl HT_ HW_ hHeld ?_
          refine pw 2 41 (bb 14 7) rfl rfl HT_ ?_
          refine tk 3 42 (bb 14 15) rfl rfl HT_ HW_ hHeld ?_
          refine pw 4 43 (bb 14 31) rfl rfl HT_ ?_
          refine tk 5 44 (bb 14 63) rfl rfl HT_ HW_ hHeld ?_
          refine pw 6 45 (bb 14 127) rfl rfl HT_ ?_
          refine tk 7 46 (bb 14 255) rfl rfl HT_ HW_ hHeld ?_
          refine pw 8 47 (bb 14 511) rfl rfl HT_ ?_
          refine pw 9 48 (bb 14 1023) rfl rfl HT_ ?_
          refine tk 10 49 (bb 14 2047) rfl rfl HT_ HW_ hHeld ?_
          refine on1 11 none (bb 14 4095) rfl rfl HT_ (fun K hK => ?_)
          refine skip_ (w1 := ?_) (by rfl) rfl ?_ ?_
          rotate_left
          · go_simp
            rfl
          have nB : Aside0 (Below w.heap.size w ((((w8_.setCell ⟨go, 0, none⟩ (.int .u32 g)).setCell ⟨go, 1, none⟩ (.bool p1)).setCell ⟨go, 2, none⟩ (.int .i64 p2)).setCell ⟨go, 3, none⟩ (.slice A_p p0.length c_p))) := ⟨(below_set (below_set (below_set (below_set HB.out GO.out) GO.out) GO.out) GO.out)⟩
          have nO : Aside0 (((((w8_.setCell ⟨go, 0, none⟩ (.int .u32 g)).setCell ⟨go, 1, none⟩ (.bool p1)).setCell ⟨go, 2, none⟩ (.int .i64 p2)).setCell ⟨go, 3, none⟩ (.slice A_p p0.length c_p)).heap[go]? = some (.cells #[.int .u32 g, .bool p1, .int .i64 p2, .slice A_p p0.length c_p] 28 (0, 0))) := ⟨(blk_put (cs := #[.int .u32 g, .bool p1, .int .i64 p2, .slice none 0 0]) (blk_put (cs := #[.int .u32 g, .bool p1, .int .i64 0, .slice none 0 0]) (blk_put (cs := #[.int .u32 g, .bool false, .int .i64 0, .slice none 0 0]) (blk_put (cs := #[.int .u32 0, .bool false, .int .i64 0, .slice none 0 0]) BK_go.out 0 (.int .u32 g) rfl) 1 (.bool p1) rfl) 2 (.int .i64 p2) rfl) 3 (.slice A_p p0.length c_p) rfl)⟩
          have nM : Aside0 (((((w8_.setCell ⟨go, 0, none⟩ (.int .u32 g)).setCell ⟨go, 1, none⟩ (.bool p1)).setCell ⟨go, 2, none⟩ (.int .i64 p2)).setCell ⟨go, 3, none⟩ (.slice A_p p0.length c_p)).heap[gm]? = some (.cells #[.int .u32 g, .bool false, .int .i64 lf, .slice A_x sr.length c_x] 28 (0, 0))) := ⟨(blk_far (blk_far (blk_far (blk_far BK_gm.out NMG.out _) NMG.out _) NMG.out _) NMG.out _)⟩
          have nI : Aside0 (((((w8_.setCell ⟨go, 0, none⟩ (.int .u32 g)).setCell ⟨go, 1, none⟩ (.bool p1)).setCell ⟨go, 2, none⟩ (.int .i64 p2)).setCell ⟨go, 3, none⟩ (.slice A_p p0.length c_p)).heap[gi]? = some (.cells #[.slice A_p p0.length c_p, .bool p1, .int .i64 p2, .slice A_pq p3.length c_pq] 76 (0, 0))) := ⟨(blk_far (blk_far (blk_far (blk_far BK_gi.out NGI.out _) NGI.out _) NGI.out _) NGI.out _)⟩
          have n0 := Aside0.mk (Kd.V_far (p := ⟨go, 3, none⟩) (Kd.V_far (p := ⟨go, 2, none⟩) (Kd.V_far (p := ⟨go, 1, none⟩) (Kd.V_far (p := ⟨go, 0, none⟩) HV_p.out (fun k hk => hk.1.2) (.int .u32 g)) (fun k hk => hk.1.2) (.bool p1)) (fun k hk => hk.1.2) (.int .i64 p2)) (fun k hk => hk.1.2) (.slice A_p p0.length c_p))
          have n3 := Aside0.mk (Kd.V_far (p := ⟨go, 3, none⟩) (Kd.V_far (p := ⟨go, 2, none⟩) (Kd.V_far (p := ⟨go, 1, none⟩) (Kd.V_far (p := ⟨go, 0, none⟩) HV_pq.out (fun k hk => hk.1.2) (.int .u32 g)) (fun k hk => hk.1.2) (.bool p1)) (fun k hk => hk.1.2) (.int .i64 p2)) (fun k hk => hk.1.2) (.slice A_p p0.length c_p))
          clear hc_gt_0 hf_gt_0 hc_gt_1 hf_gt_1
          clear hc_gm_0 hf_gm_0 hc_gm_1 hf_gm_1 hc_gm_2 hf_gm_2 hc_gm_3 hf_gm_3
          clear hc_go_0 hf_go_0 hc_go_1 hf_go_1 hc_go_2 hf_go_2 hc_go_3 hf_go_3
          clear hc_gi_0 hf_gi_0 hc_gi_1 hf_gi_1 hc_gi_2 hf_gi_2 hc_gi_3 hf_gi_3
          clear HB BK_gt BK_gm BK_go BK_gi HV_x HV_l HV_b HV_p HV_pq
          generalize ((((w8_.setCell ⟨go, 0, none⟩ (.int .u32 g)).setCell ⟨go, 1, none⟩ (.bool p1)).setCell ⟨go, 2, none⟩ (.int .i64 p2)).setCell ⟨go, 3, none⟩ (.slice A_p p0.length c_p)) = wq at nB nO nM nI n0 n3 ⊢
          have HB := nB
          have BK_go := nO
          have BK_gm := nM
          have BK_gi := nI
          have HV_p := n0
          have HV_pq := n3
          clear nB nO nM nI n0 n3
          obtain ⟨hc_gm_0, hc_gm_1, hc_gm_2, hc_gm_3, hf_gm_0, hf_gm_1, hf_gm_2, hf_gm_3⟩ := cf4 BK_gm.out
          obtain ⟨hc_gi_0, hc_gi_1, hc_gi_2, hc_gi_3, hf_gi_0, hf_gi_1, hf_gi_2, hf_gi_3⟩ := cf4 BK_gi.out
          refine hK.out _ _ ⟨hc_gm_0, hc_gm_1, hc_gm_2, hc_gm_3, hc_gi_0, hc_gi_1, hc_gi_2, hc_gi_3⟩ (fun hHeld => ?_)
          clear hK K
          refine pw 12 9 (bb 14 8191) rfl rfl HT_ ?_
          refine pw 13 10 (bb 14 16383) rfl rfl HT_ ?_
          refine done_ (done_of HT_.out (by kernel_rfl)) ?_
          try go_wp2
          have E := XR.out
          rw [show refR t g lf false sr kind l = (⟨g, p1, p2, p0⟩, p3, 0) from by unfold refR; rw [if_neg XKN.out, if_neg (by rw [XE.out]; show ¬ 64 < p0.length; have := XF.out; omega), XE.out]] at E
          injection E with E1 E2
          injection E2 with E2 E3
          injection E1 with e0 e1 e2 e3
          subst e0
          subst e1
          subst e2
          subst e3
          subst E2
          subst E3
          refine bodyPost_ret (results_ctt rfl _ _ go 28 #[.int .u32 g, .bool p1, .int .i64 p2, .slice A_p p0.length c_p] (0, 0) _ rfl BK_go.out Try.underlying28 rfl (by kernel_rfl)) rfl ?_
          exact ⟨_, _, _, _, rfl, ⟨(Kd.V_reads' HV_p.out).2.2, (Kd.V_reads' HV_p.out).2.1⟩, ⟨(Kd.V_reads' HV_pq.out).2.2, (Kd.V_reads' HV_pq.out).2.1⟩, HB.out⟩
      | true =>
        clear XP
        obtain ⟨⟨q0, q1, q2, q3⟩, hq⟩ : ∃ y, exceptR t g lf sr kind b = y := ⟨_, rfl⟩
        have XQ := Aside0.mk hq
        clear hq
        have XE := Aside0.mk (show refH t g lf true sr kind (mk l) = ⟨q0, q1, q2, q3⟩ from by rw [XB.out]; exact XQ.out)
        go_upto_region 7 with (first | (go_at_call 32; (with_reducible refine (except_f XQ.out XS.out XN.out XBR.out XBL.out XK.out _ _ _ _ _ (okG P w go gi) HV_x.out HV_b.out).mono ?_); rintro e_ w8_ ⟨v_0, v_1, rfl, h0, h1, hB⟩; obtain ⟨A_e, c_e, rfl⟩ := Kd.V_slice h0; obtain ⟨A_eq, c_eq, rfl⟩ := Kd.V_slice h1; have hV := VG_ok h0 HB.out.size (blk_lt BK_go.out) (blk_lt BK_gi.out); have hV2 := VG_ok h1 HB.out.size (blk_lt BK_go.out) (blk_lt BK_gi.out); replace HB := mvH HB hB; clear hc_gt_0 hf_gt_0 hc_gt_1 hf_gt_1; replace BK_gt := mvB BK_gt hB; obtain ⟨hc_gt_0, hc_gt_1, hf_gt_0, hf_gt_1⟩ := cf2 BK_gt.out; clear hc_gm_0 hf_gm_0 hc_gm_1 hf_gm_1 hc_gm_2 hf_gm_2 hc_gm_3 hf_gm_3; replace BK_gm := mvB BK_gm hB; obtain ⟨hc_gm_0, hc_gm_1, hc_gm_2, hc_gm_3, hf_gm_0, hf_gm_1, hf_gm_2, hf_gm_3⟩ := cf4 BK_gm.out; clear hc_go_0 hf_go_0 hc_go_1 hf_go_1 hc_go_2 hf_go_2 hc_go_3 hf_go_3; replace BK_go := mvB BK_go hB; obtain ⟨hc_go_0, hc_go_1, hc_go_2, hc_go_3, hf_go_0, hf_go_1, hf_go_2, hf_go_3⟩ := cf4 BK_go.out; clear hc_gi_0 hf_gi_0 hc_gi_1 hf_gi_1 hc_gi_2 hf_gi_2 hc_gi_3 hf_gi_3; replace BK_gi := mvB BK_gi hB; obtain ⟨hc_gi_0, hc_gi_1, hc_gi_2, hc_gi_3, hf_gi_0, hf_gi_1, hf_gi_2, hf_gi_3⟩ := cf4 BK_gi.out; replace HV_x := mvV HV_x hB; replace HV_l := mvV HV_l hB; replace HV_b := mvV HV_b hB; replace HV_p := mvV HV_p hB; replace HV_pq := mvV HV_pq hB; have HV_e := Aside0.mk hV; have HV_eq := Aside0.mk hV2; clear h0 h1 hV hV2 hB))
        have GI := Aside0.mk (show w.heap.size ≤ gi by exact GIW.out)
        have nB : Aside0 (Below w.heap.size w ((((w8_.setCell ⟨gi, 0, none⟩ (.slice A_e q0.length c_e)).setCell ⟨gi, 1, none⟩ (.bool q1)).setCell ⟨gi, 2, none⟩ (.int .i64 q2)).setCell ⟨gi, 3, none⟩ (.slice A_eq q3.length c_eq))) := ⟨(below_set (below_set (below_set (below_set HB.out GI.out) GI.out) GI.out) GI.out)⟩
        have nO : Aside0 (((((w8_.setCell ⟨gi, 0, none⟩ (.slice A_e q0.length c_e)).setCell ⟨gi, 1, none⟩ (.bool q1)).setCell ⟨gi, 2, none⟩ (.int .i64 q2)).setCell ⟨gi, 3, none⟩ (.slice A_eq q3.length c_eq)).heap[go]? = some (.cells #[.int .u32 0, .bool false, .int .i64 0, .slice none 0 0] 28 (0, 0))) := ⟨(blk_far (blk_far (blk_far (blk_far BK_go.out (Ne.symm NGI.out) _) (Ne.symm NGI.out) _) (Ne.symm NGI.out) _) (Ne.symm NGI.out) _)⟩
        have nM : Aside0 (((((w8_.setCell ⟨gi, 0, none⟩ (.slice A_e q0.length c_e)).setCell ⟨gi, 1, none⟩ (.bool q1)).setCell ⟨gi, 2, none⟩ (.int .i64 q2)).setCell ⟨gi, 3, none⟩ (.slice A_eq q3.length c_eq)).heap[gm]? = some (.cells #[.int .u32 g, .bool true, .int .i64 lf, .slice A_x sr.length c_x] 28 (0, 0))) := ⟨(blk_far (blk_far (blk_far (blk_far BK_gm.out NMI.out _) NMI.out _) NMI.out _) NMI.out _)⟩
        have nI : Aside0 (((((w8_.setCell ⟨gi, 0, none⟩ (.slice A_e q0.length c_e)).setCell ⟨gi, 1, none⟩ (.bool q1)).setCell ⟨gi, 2, none⟩ (.int .i64 q2)).setCell ⟨gi, 3, none⟩ (.slice A_eq q3.length c_eq)).heap[gi]? = some (.cells #[.slice A_e q0.length c_e, .bool q1, .int .i64 q2, .slice A_eq q3.length c_eq] 76 (0, 0))) := ⟨(blk_put (cs := #[.slice A_e q0.length c_e, .bool q1, .int .i64 q2, .slice A_pq p3.length c_pq]) (blk_put (cs := #[.slice A_e q0.length c_e, .bool q1, .int .i64 p2, .slice A_pq p3.length c_pq]) (blk_put (cs := #[.slice A_e q0.length c_e, .bool p1, .int .i64 p2, .slice A_pq p3.length c_pq]) (blk_put (cs := #[.slice A_p p0.length c_p, .bool p1, .int .i64 p2, .slice A_pq p3.length c_pq]) BK_gi.out 0 (.slice A_e q0.length c_e) rfl) 1 (.bool q1) rfl) 2 (.int .i64 q2) rfl) 3 (.slice A_eq q3.length c_eq) rfl)⟩
        have n_x := Aside0.mk (Kd.V_far (p := ⟨gi, 3, none⟩) (Kd.V_far (p := ⟨gi, 2, none⟩) (Kd.V_far (p := ⟨gi, 1, none⟩) (Kd.V_far (p := ⟨gi, 0, none⟩) HV_x.out (fun k hk => hk.2) (.slice A_e q0.length c_e)) (fun k hk => hk.2) (.bool q1)) (fun k hk => hk.2) (.int .i64 q2)) (fun k hk => hk.2) (.slice A_eq q3.length c_eq))
        have n_e := Aside0.mk (Kd.V_far (p := ⟨gi, 3, none⟩) (Kd.V_far (p := ⟨gi, 2, none⟩) (Kd.V_far (p := ⟨gi, 1, none⟩) (Kd.V_far (p := ⟨gi, 0, none⟩) HV_e.out (fun k hk => hk.2) (.slice A_e q0.length c_e)) (fun k hk => hk.2) (.bool q1)) (fun k hk => hk.2) (.int .i64 q2)) (fun k hk => hk.2) (.slice A_eq q3.length c_eq))
        have n_eq := Aside0.mk (Kd.V_far (p := ⟨gi, 3, none⟩) (Kd.V_far (p := ⟨gi, 2, none⟩) (Kd.V_far (p := ⟨gi, 1, none⟩) (Kd.V_far (p := ⟨gi, 0, none⟩) HV_eq.out (fun k hk => hk.2) (.slice A_e q0.length c_e)) (fun k hk => hk.2) (.bool q1)) (fun k hk => hk.2) (.int .i64 q2)) (fun k hk => hk.2) (.slice A_eq q3.length c_eq))
        clear hc_gt_0 hf_gt_0 hc_gt_1 hf_gt_1
        clear hc_gm_0 hf_gm_0 hc_gm_1 hf_gm_1 hc_gm_2 hf_gm_2 hc_gm_3 hf_gm_3
        clear hc_go_0 hf_go_0 hc_go_1 hf_go_1 hc_go_2 hf_go_2 hc_go_3 hf_go_3
        clear hc_gi_0 hf_gi_0 hc_gi_1 hf_gi_1 hc_gi_2 hf_gi_2 hc_gi_3 hf_gi_3
        clear HB BK_gt BK_gm BK_go BK_gi HV_x HV_l HV_b HV_p HV_pq HV_e HV_eq
        generalize ((((w8_.setCell ⟨gi, 0, none⟩ (.slice A_e q0.length c_e)).setCell ⟨gi, 1, none⟩ (.bool q1)).setCell ⟨gi, 2, none⟩ (.int .i64 q2)).setCell ⟨gi, 3, none⟩ (.slice A_eq q3.length c_eq)) = wp at nB nO nM nI n_x n_e n_eq ⊢
        have HB := nB
        have BK_go := nO
        have BK_gm := nM
        have BK_gi := nI
        have HV_x := n_x
        have HV_e := n_e
        have HV_eq := n_eq
        clear nB nO nM nI n_x n_e n_eq
        obtain ⟨hc_gm_0, hc_gm_1, hc_gm_2, hc_gm_3, hf_gm_0, hf_gm_1, hf_gm_2, hf_gm_3⟩ := cf4 BK_gm.out
        obtain ⟨hc_go_0, hc_go_1, hc_go_2, hc_go_3, hf_go_0, hf_go_1, hf_go_2, hf_go_3⟩ := cf4 BK_go.out
        obtain ⟨hc_gi_0, hc_gi_1, hc_gi_2, hc_gi_3, hf_gi_0, hf_gi_1, hf_gi_2, hf_gi_3⟩ := cf4 BK_gi.out
        by_cases h64 : (64 : Int) < (q0.length : Int)
        · have XF := Aside0.mk h64
          go_wp2
          have E := XR.out
          rw [show refR t g lf true sr kind l = (⟨g, true, lf, sr⟩, [], 7) from by unfold refR; rw [if_neg XKN.out, if_pos (by rw [XE.out]; show 64 < q0.length; have := XF.out; omega)]] at E
          injection E with E1 E2
          injection E2 with E2 E3
          injection E1 with e0 e1 e2 e3
          subst e0
          subst e1
          subst e2
          subst e3
          subst E2
          subst E3
          refine bodyPost_ret (results_ctt rfl _ _ go 28 #[.int .u32 g, .bool true, .int .i64 lf, .slice A_x sr.length c_x] (0, 0) _ rfl (blk_put (cs := #[.int .u32 g, .bool true, .int .i64 lf, .slice none 0 0]) (blk_put (cs := #[.int .u32 g, .bool true, .int .i64 0, .slice none 0 0]) (blk_put (cs := #[.int .u32 g, .bool false, .int .i64 0, .slice none 0 0]) (blk_put (cs := #[.int .u32 0, .bool false, .int .i64 0, .slice none 0 0]) BK_go.out 0 (.int .u32 g) rfl) 1 (.bool true) rfl) 2 (.int .i64 lf) rfl) 3 (.slice A_x sr.length c_x) rfl) Try.underlying28 rfl (by kernel_rfl)) rfl ?_
          have V9 := (Kd.V_far (p := ⟨go, 3, none⟩) (Kd.V_far (p := ⟨go, 2, none⟩) (Kd.V_far (p := ⟨go, 1, none⟩) (Kd.V_far (p := ⟨go, 0, none⟩) HV_x.out (fun k hk => hk.1.2) (.int .u32 g)) (fun k hk => hk.1.2) (.bool true)) (fun k hk => hk.1.2) (.int .i64 lf)) (fun k hk => hk.1.2) (.slice A_x sr.length c_x))
          exact ⟨_, _, none, 0, rfl, ⟨(Kd.V_reads' V9).2.2, (Kd.V_reads' V9).2.1⟩, ⟨Kd.C_nil _ _, Nat.le_refl _⟩, (below_set (below_set (below_set (below_set HB.out GO.out) GO.out) GO.out) GO.out)⟩
        · have XF := Aside0.mk h64
          go_upto_region 9 with fail
          refine start_ (n := 14) (S := fun w' => w'.cell? ⟨gm, 0, none⟩ = some (.int .u32 g) ∧ w'.cell? ⟨gm, 1, none⟩ = some (.bool true) ∧ w'.cell? ⟨gm, 2, none⟩ = some (.int .i64 lf) ∧ w'.cell? ⟨gm, 3, none⟩ = some (.slice A_x sr.length c_x) ∧ w'.cell? ⟨gi, 0, none⟩ = some (.slice A_e q0.length c_e) ∧ w'.cell? ⟨gi, 1, none⟩ = some (.bool q1) ∧ w'.cell? ⟨gi, 2, none⟩ = some (.int .i64 q2) ∧ w'.cell? ⟨gi, 3, none⟩ = some (.slice A_eq q3.length c_eq)) (ds := []) #[false, false, false, false, false, false, false, false, false, false, false, false, false, false] (by kernel_rfl) rfl rfl ⟨hc_gm_0, hc_gm_1, hc_gm_2, hc_gm_3, hc_gi_0, hc_gi_1, hc_gi_2, hc_gi_3⟩ (fun hHeld => ?_); refine with_tabW mz_t9 mz_b9 (fun HT_ HW_ => ?_)
          have hB : Below wp.heap.size wp wp.drew := below_drew (Below.refl _ _)
          generalize wp.drew = w9_ at hB hHeld ⊢
          replace HB := mvH HB hB
          clear hc_gm_0 hf_gm_0 hc_gm_1 hf_gm_1 hc_gm_2 hf_gm_2 hc_gm_3 hf_gm_3
          replace BK_gm := mvB BK_gm hB
          obtain ⟨hc_gm_0, hc_gm_1, hc_gm_2, hc_gm_3, hf_gm_0, hf_gm_1, hf_gm_2, hf_gm_3⟩ := cf4 BK_gm.out
          clear hc_go_0 hf_go_0 hc_go_1 hf_go_1 hc_go_2 hf_go_2 hc_go_3 hf_go_3
          replace BK_go := mvB BK_go hB
          obtain ⟨hc_go_0, hc_go_1, hc_go_2, hc_go_3, hf_go_0, hf_go_1, hf_go_2, hf_go_3⟩ := cf4 BK_go.out
          clear hc_gi_0 hf_gi_0 hc_gi_1 hf_gi_1 hc_gi_2 hf_gi_2 hc_gi_3 hf_gi_3
          replace BK_gi := mvB BK_gi hB
          obtain ⟨hc_gi_0, hc_gi_1, hc_gi_2, hc_gi_3, hf_gi_0, hf_gi_1, hf_gi_2, hf_gi_3⟩ := cf4 BK_gi.out
          replace HV_x := mvV HV_x hB
          replace HV_e := mvV HV_e hB
          replace HV_eq := mvV HV_eq hB
          clear hB
          refine pw 0 39 (bb 14 1) rfl rfl HT_ ?_
          refine tk 1 40 (bb 14 3) rfl rfl HT_ HW_ hHeld ?_
          refine pw 2 41 (bb 14 7) rfl rfl HT_ ?_
          refine tk 3 42 (bb 14 15) rfl rfl HT_ HW_ hHeld ?_
          refine pw 4 43 (bb 14 31) rfl rfl HT_ ?_
          refine tk 5 44 (bb 14 63) rfl rfl HT_ HW_ hHeld ?_
          refine pw 6 45 (bb 14 127) rfl rfl HT_ ?_
          refine tk 7 46 (bb 14 255) rfl rfl HT_ HW_ hHeld ?_
          refine pw 8 47 (bb 14 511) rfl rfl HT_ ?_
          refine pw 9 48 (bb 14 1023) rfl rfl HT_ ?_
          refine tk 10 49 (bb 14 2047) rfl rfl HT_ HW_ hHeld ?_
          refine on1 11 none (bb 14 4095) rfl rfl HT_ (fun K hK => ?_)
          refine skip_ (w1 := ?_) (by rfl) rfl ?_ ?_
          rotate_left
          · go_simp
            rfl
          have nB : Aside0 (Below w.heap.size w ((((w9_.setCell ⟨go, 0, none⟩ (.int .u32 g)).setCell ⟨go, 1, none⟩ (.bool q1)).setCell ⟨go, 2, none⟩ (.int .i64 q2)).setCell ⟨go, 3, none⟩ (.slice A_e q0.length c_e))) := ⟨(below_set (below_set (below_set (below_set HB.out GO.out) GO.out) GO.out) GO.out)⟩
          have nO : Aside0 (((((w9_.setCell ⟨go, 0, none⟩ (.int .u32 g)).setCell ⟨go, 1, none⟩ (.bool q1)).setCell ⟨go, 2, none⟩ (.int .i64 q2)).setCell ⟨go, 3, none⟩ (.slice A_e q0.length c_e)).heap[go]? = some (.cells #[.int .u32 g, .bool q1, .int .i64 q2, .slice A_e q0.length c_e] 28 (0, 0))) := ⟨(blk_put (cs := #[.int .u32 g, .bool q1, .int .i64 q2, .slice none 0 0]) (blk_put (cs := #[.int .u32 g, .bool q1, .int .i64 0, .slice none 0 0]) (blk_put (cs := #[.int .u32 g, .bool false, .int .i64 0, .slice none 0 0]) (blk_put (cs := #[.int .u32 0, .bool false, .int .i64 0, .slice none 0 0]) BK_go.out 0 (.int .u32 g) rfl) 1 (.bool q1) rfl) 2 (.int .i64 q2) rfl) 3 (.slice A_e q0.length c_e) rfl)⟩
          have nM : Aside0 (((((w9_.setCell ⟨go, 0, none⟩ (.int .u32 g)).setCell ⟨go, 1, none⟩ (.bool q1)).setCell ⟨go, 2, none⟩ (.int .i64 q2)).setCell ⟨go, 3, none⟩ (.slice A_e q0.length c_e)).heap[gm]? = some (.cells #[.int .u32 g, .bool true, .int .i64 lf, .slice A_x sr.length c_x] 28 (0, 0))) := ⟨(blk_far (blk_far (blk_far (blk_far BK_gm.out NMG.out _) NMG.out _) NMG.out _) NMG.out _)⟩
          have nI : Aside0 (((((w9_.setCell ⟨go, 0, none⟩ (.int .u32 g)).setCell ⟨go, 1, none⟩ (.bool q1)).setCell ⟨go, 2, none⟩ (.int .i64 q2)).setCell ⟨go, 3, none⟩ (.slice A_e q0.length c_e)).heap[gi]? = some (.cells #[.slice A_e q0.length c_e, .bool q1, .int .i64 q2, .slice A_eq q3.length c_eq] 76 (0, 0))) := ⟨(blk_far (blk_far (blk_far (blk_far BK_gi.out NGI.out _) NGI.out _) NGI.out _) NGI.out _)⟩
          have n0 := Aside0.mk (Kd.V_far (p := ⟨go, 3, none⟩) (Kd.V_far (p := ⟨go, 2, none⟩) (Kd.V_far (p := ⟨go, 1, none⟩) (Kd.V_far (p := ⟨go, 0, none⟩) HV_e.out (fun k hk => hk.1.2) (.int .u32 g)) (fun k hk => hk.1.2) (.bool q1)) (fun k hk => hk.1.2) (.int .i64 q2)) (fun k hk => hk.1.2) (.slice A_e q0.length c_e))
          have n3 := Aside0.mk (Kd.V_far (p := ⟨go, 3, none⟩) (Kd.V_far (p := ⟨go, 2, none⟩) (Kd.V_far (p := ⟨go, 1, none⟩) (Kd.V_far (p := ⟨go, 0, none⟩) HV_eq.out (fun k hk => hk.1.2) (.int .u32 g)) (fun k hk => hk.1.2) (.bool q1)) (fun k hk => hk.1.2) (.int .i64 q2)) (fun k hk => hk.1.2) (.slice A_e q0.length c_e))
          clear hc_gm_0 hf_gm_0 hc_gm_1 hf_gm_1 hc_gm_2 hf_gm_2 hc_gm_3 hf_gm_3
          clear hc_go_0 hf_go_0 hc_go_1 hf_go_1 hc_go_2 hf_go_2 hc_go_3 hf_go_3
          clear hc_gi_0 hf_gi_0 hc_gi_1 hf_gi_1 hc_gi_2 hf_gi_2 hc_gi_3 hf_gi_3
          clear HB BK_gm BK_go BK_gi HV_x HV_e HV_eq
          generalize ((((w9_.setCell ⟨go, 0, none⟩ (.int .u32 g)).setCell ⟨go, 1, none⟩ (.bool q1)).setCell ⟨go, 2, none⟩ (.int .i64 q2)).setCell ⟨go, 3, none⟩ (.slice A_e q0.length c_e)) = wq at nB nO nM nI n0 n3 ⊢
          have HB := nB
          have BK_go := nO
          have BK_gm := nM
          have BK_gi := nI
          have HV_e := n0
          have HV_eq := n3
          clear nB nO nM nI n0 n3
          obtain ⟨hc_gm_0, hc_gm_1, hc_gm_2, hc_gm_3, hf_gm_0, hf_gm_1, hf_gm_2, hf_gm_3⟩ := cf4 BK_gm.out
          obtain ⟨hc_gi_0, hc_gi_1, hc_gi_2, hc_gi_3, hf_gi_0, hf_gi_1, hf_gi_2, hf_gi_3⟩ := cf4 BK_gi.out
          refine hK.out _ _ ⟨hc_gm_0, hc_gm_1, hc_gm_2, hc_gm_3, hc_gi_0, hc_gi_1, hc_gi_2, hc_gi_3⟩ (fun hHeld => ?_)
          clear hK K
          refine pw 12 9 (bb 14 8191) rfl rfl HT_ ?_
          refine pw 13 10 (bb 14 16383) rfl rfl HT_ ?_
          refine done_ (done_of HT_.out (by kernel_rfl)) ?_
          try go_wp2
          have E := XR.out
          rw [show refR t g lf true sr kind l = (⟨g, q1, q2, q0⟩, q3, 0) from by unfold refR; rw [if_neg XKN.out, if_neg (by rw [XE.out]; show ¬ 64 < q0.length; have := XF.out; omega), XE.out]] at E
          injection E with E1 E2
          injection E2 with E2 E3
          injection E1 with e0 e1 e2 e3
          subst e0
          subst e1
          subst e2
          subst e3
          subst E2
          subst E3
          refine bodyPost_ret (results_ctt rfl _ _ go 28 #[.int .u32 g, .bool q1, .int .i64 q2, .slice A_e q0.length c_e] (0, 0) _ rfl BK_go.out Try.underlying28 rfl (by kernel_rfl)) rfl ?_
          exact ⟨_, _, _, _, rfl, ⟨(Kd.V_reads' HV_e.out).2.2, (Kd.V_reads' HV_e.out).2.1⟩, ⟨(Kd.V_reads' HV_eq.out).2.2, (Kd.V_reads' HV_eq.out).2.1⟩, HB.out⟩
end Go.Proofs.Ytbllchfgjginoaa
/-
  MembAsks, walked.
-/
namespace Go.Proofs.Ytbllchfgjginoaa
open Go.RowKit Go.Lib Go.Proofs.YtbllchfgjginoaaW.PrintWords Go.Proofs.YtbllchfgjginoaaW.PrintLast Go.Proofs.YtbllchfgjginoaaW.PrintMore Go.Proofs.Ytbllchfgjginoaa.PMe
set_option linter.unusedVariables false
set_option linter.unusedSimpArgs false
theorem hear_q {t : S23} {g lf g' lf' : Int} {ex ex' : Bool} {sr sr' : List S49} {kind : Int} {l : List Int} {asks : List S46} {err : Int} {n : Nat} (hx : MOk ⟨g, ex, lf, sr⟩) (hm : l.length ≤ 1000) (h : hearR t ⟨g, ex, lf, sr⟩ kind l = (⟨g', ex', lf', sr'⟩, asks, err)) (h2 : asks.length = n) (A : Option Addr) (c : Nat) (B : Option Addr) (d : Nat) (w : World) (hr : Kd.C k49 w A sr.length sr) (hc : sr.length ≤ c) (hl : Kd.C (Kd.int .u32) w B l.length l) (hd : l.length ≤ d) :
    Calls Try.prog 12 #[.agg #[.int .i64 t.f0, .int .i64 t.f1], .agg #[.int .u32 g, .bool ex, .int .i64 lf, .slice A sr.length c], .int .u8 kind, .slice B l.length d] w fun e w' => ∃ A0 c0 A1 c1, e = .returned (.tuple #[.agg #[.int .u32 g', .bool ex', .int .i64 lf', .slice A0 sr'.length c0], .slice A1 n c1, .int .i64 err]) ∧ (Kd.C k49 w' A0 sr'.length sr' ∧ sr'.length ≤ c0) ∧ (Kd.C k46 w' A1 asks.length asks ∧ asks.length ≤ c1) ∧ Below w.heap.size w w' := by
  subst h2
  have hw := hear_w t ⟨g, ex, lf, sr⟩ kind l hx.sort (by have := hx.len; omega) hm A c B d w hr hc hl hd (fun k => k < w.heap.size) (fun _ h => h) (Kd.C_F k49_heap hr)
  rw [h] at hw
  refine hw.mono fun e w' hp => ?_
  obtain ⟨v0, v1, rfl, h0, h1, hB⟩ := hp
  obtain ⟨A0, c0, rfl⟩ := Kd.V_slice h0
  obtain ⟨A1, c1, rfl⟩ := Kd.V_slice h1
  exact ⟨A0, c0, A1, c1, rfl, ⟨(Kd.V_reads' h0).2.2, (Kd.V_reads' h0).2.1⟩, ⟨(Kd.V_reads' h1).2.2, (Kd.V_reads' h1).2.1⟩, hB⟩
end Go.Proofs.Ytbllchfgjginoaa
/-
  MembHears, walked.
-/
namespace Go.Proofs.Ytbllchfgjginoaa
open Go.RowKit Go.Lib Go.Proofs.YtbllchfgjginoaaW.PrintWords Go.Proofs.YtbllchfgjginoaaW.PrintLast Go.Proofs.YtbllchfgjginoaaW.PrintMore Go.Proofs.Ytbllchfgjginoaa.PMe
set_option linter.unusedVariables false
set_option linter.unusedSimpArgs false
theorem rows_loop (l : List Int) (hl : l.length ≤ 9223372036854775807) : ∀ n k (i : Nat), l.length ≤ i + n → n < k → stolonref01_Rows.l0 k l l i = some true := by
  intro n
  induction n with
  | zero =>
    intro k i h1 h2
    obtain ⟨k, rfl⟩ : ∃ k', k = k' + 1 := ⟨k - 1, by omega⟩
    rw [stolonref01_Rows.l0, if_neg (by omega)]
  | succ n ih =>
    intro k i h1 h2
    obtain ⟨k, rfl⟩ : ∃ k', k = k' + 1 := ⟨k - 1, by omega⟩
    by_cases h : i < l.length
    · rw [stolonref01_Rows.l0, if_pos (by omega), if_pos (by omega), if_pos (by omega), if_pos rfl, show wrap64 ((i : Int) + 1) = ((i + 1 : Nat) : Int) from by unfold wrap64; omega]
      exact ih k (i + 1) (by omega) (by omega)
    · rw [stolonref01_Rows.l0, if_neg (by omega)]
theorem rows_self (l : List Int) (hl : l.length ≤ 9223372036854775807) (k : Nat) (hk : l.length < k) : stolonref01_Rows.f k l l = some true := by
  unfold stolonref01_Rows.f
  rw [if_pos rfl]
  exact rows_loop l hl l.length k 0 (by omega) hk
theorem asks_loop (l : List S46) (m : Nat) (hl : l.length ≤ 9223372036854775807) (hm : ∀ i (_ : i < l.length), l[i].f1.length ≤ 9223372036854775807 ∧ l[i].f1.length < m) : ∀ n k (i : Nat), l.length ≤ i + n → n + m < k → stolonref08_Asks.l0 k l l i = some true := by
  intro n
  induction n with
  | zero =>
    intro k i h1 h2
    obtain ⟨k, rfl⟩ : ∃ k', k = k' + 1 := ⟨k - 1, by omega⟩
    rw [stolonref08_Asks.l0, if_neg (by omega)]
  | succ n ih =>
    intro k i h1 h2
    obtain ⟨k, rfl⟩ : ∃ k', k = k' + 1 := ⟨k - 1, by omega⟩
    by_cases h : i < l.length
    · have e : rd_T46 l (i : Int) = l[i] := by
        show l.getD _ _ = _
        rw [Int.toNat_natCast, List.getD_eq_getElem?_getD, List.getElem?_eq_getElem h]; rfl
      have h3 := hm i h
      rw [stolonref08_Asks.l0, if_pos (by omega), if_pos (by omega), if_pos (by omega), e, rows_self _ h3.1 k (by omega), Option.bind_some, if_pos rfl, if_pos rfl, show wrap64 ((i : Int) + 1) = ((i + 1 : Nat) : Int) from by unfold wrap64; omega]
      exact ih k (i + 1) (by omega) (by omega)
    · rw [stolonref08_Asks.l0, if_neg (by omega)]
theorem asks_w {l : List S46} (A : Option Addr) (c : Nat) (B : Option Addr) (d : Nat) (w : World) (hr : Kd.C k46 w A l.length l) (hc : l.length ≤ c) (hs : Kd.C k46 w B l.length l) (hd : l.length ≤ d) :
    Calls Try.prog 15 #[.slice A l.length c, .slice B l.length d] w fun e w' => e = .returned (.bool true) ∧ Below w.heap.size w w' := by
  have hb : ∀ i (_ : i < l.length), l[i].f1.length ≤ 9223372036854775807 := fun i h => by
    obtain ⟨ad, A1, c1, _, _, _, _, h1⟩ := at_T46 hr (i : Int) (by omega) (by omega)
    have e : rd_T46 l (i : Int) = l[i] := by
      show l.getD _ _ = _
      rw [Int.toNat_natCast, List.getD_eq_getElem?_getD, List.getElem?_eq_getElem h]; rfl
    rw [e] at h1
    exact Kd.C_max h1
  have h : stolonref08_Asks.f (l.length + 9223372036854775809) l l = some true := by
    unfold stolonref08_Asks.f
    rw [if_pos rfl]
    exact asks_loop l 9223372036854775808 (Kd.C_max hr) (fun i h => ⟨hb i h, by have := hb i h; omega⟩) l.length _ 0 (by omega) (by omega)
  exact (stolonref08_Asks.calls _ A c l B d l true w hr hc hs hd h).mono fun e w' h => ⟨h.1, by obtain ⟨⟨n, rfl⟩⟩ := h.2; exact pw_below_drewN (Below.refl _ _) n⟩
theorem same_flat {g lf : Int} {ex : Bool} {sr : List S49} (hx : MOk ⟨g, ex, lf, sr⟩) (A : Option Addr) (c : Nat) (B : Option Addr) (d : Nat) (w : World) (hr : Kd.C k49 w A sr.length sr) (hc : sr.length ≤ c) (hs : Kd.C k49 w B sr.length sr) (hd : sr.length ≤ d) :
    Calls Try.prog 14 #[.agg #[.int .u32 g, .bool ex, .int .i64 lf, .slice A sr.length c], .agg #[.int .u32 g, .bool ex, .int .i64 lf, .slice B sr.length d]] w fun e w' => e = .returned (.bool true) ∧ Below w.heap.size w w' :=
  same_w (x := ⟨g, ex, lf, sr⟩) hx.le A c B d w hr hc hs hd
set_option maxHeartbeats 8000000 in
set_option maxRecDepth 100000 in
theorem membHears_flat {t : S23} {g lf kind : Int} {ex : Bool} {sr : List S49} {l : List Int} (A_x : Option Addr) (c_x : Nat) (A_l : Option Addr) (c_l : Nat) (w : World) (hr : Kd.C k49 w A_x sr.length sr) (hc : sr.length ≤ c_x) (hs : Kd.C (Kd.int .u32) w A_l l.length l) (hcs : l.length ≤ c_l) :
    Calls Try.prog 3 #[.agg #[.int .i64 t.f0, .int .i64 t.f1, .int .u32 g, .bool ex, .int .i64 lf, .slice A_x sr.length c_x, .int .u8 kind, .slice A_l l.length c_l]] w (fun e w' => e = .returned (.bool true) ∧ Below w.heap.size w w') := by
  have hu23 := Try.underlying23
  have hu28 := Try.underlying28
  have hu31 := Try.underlying31
  have HB := Aside0.mk (Below.refl w.heap.size w)
  have HC_x := Aside0.mk hr
  have HK_x := Aside0.mk hc
  have HC_l := Aside0.mk hs
  have HK_l := Aside0.mk hcs
  clear hr hc hs hcs
  go_enter Try.func3, Try.ntmps3
  go_upto_region 2 with (first | ((with_reducible refine gate_dst (N := 1) rfl ?_); (try (refine gate_guard (by rfl) ?_; dsimp only)); refine bxn (cs := #[.int .i64 t.f0, .int .i64 t.f1, .int .u32 g, .bool ex, .int .i64 lf, .slice A_x sr.length c_x, .int .u8 kind, .slice A_l l.length c_l]) (t := 31) ?_; intro gp hg w1_ hbox hB; replace HB := mvH HB hB; have BK_gp := Aside0.mk hbox; clear hg hbox hB; obtain ⟨hc_gp_0, hc_gp_1, hc_gp_2, hc_gp_3, hc_gp_4, hc_gp_5, hc_gp_6, hc_gp_7, hf_gp_0, hf_gp_1, hf_gp_2, hf_gp_3, hf_gp_4, hf_gp_5, hf_gp_6, -⟩ := cf8 BK_gp.out; have hf_gp_7 := blk_frozen BK_gp.out 7) | ((with_reducible refine gate_dst (N := 3) rfl ?_); (try (refine gate_guard (by rfl) ?_; dsimp only)); refine bxn (cs := #[.int .i64 0, .int .i64 0]) (t := 23) ?_; intro gt hg w2_ hbox hB0; have hG := Aside0.mk (show w1_.heap.size ≤ gt from Nat.le_of_eq hg.symm); clear hg; have hBX := Aside0.mk hbox; have hB1 := Aside0.mk hB0; clear hB0; obtain ⟨hc_gt_0, hc_gt_1, hf_gt_0, hf_gt_1⟩ := cf2 hbox; clear hbox))
  have hB : Below w1_.heap.size w1_ ((w2_.setCell ⟨gt, 0, none⟩ (.int .i64 t.f0)).setCell ⟨gt, 1, none⟩ (.int .i64 t.f1)) := (below_set (below_set hB1.out hG.out) hG.out)
  have hBN : ((w2_.setCell ⟨gt, 0, none⟩ (.int .i64 t.f0)).setCell ⟨gt, 1, none⟩ (.int .i64 t.f1)).heap[gt]? = some (.cells #[.int .i64 t.f0, .int .i64 t.f1] 23 (0, 0)) := (blk_put (cs := #[.int .i64 t.f0, .int .i64 0]) (blk_put (cs := #[.int .i64 0, .int .i64 0]) hBX.out 0 (.int .i64 t.f0) rfl) 1 (.int .i64 t.f1) rfl)
  clear hBX hB1
  clear hc_gt_0 hf_gt_0 hc_gt_1 hf_gt_1
  generalize ((w2_.setCell ⟨gt, 0, none⟩ (.int .i64 t.f0)).setCell ⟨gt, 1, none⟩ (.int .i64 t.f1)) = w3_ at hB hBN ⊢
  replace HB := mvH HB hB
  clear hc_gp_0 hf_gp_0 hc_gp_1 hf_gp_1 hc_gp_2 hf_gp_2 hc_gp_3 hf_gp_3 hc_gp_4 hf_gp_4 hc_gp_5 hf_gp_5 hc_gp_6 hf_gp_6 hc_gp_7 hf_gp_7
  replace BK_gp := mvB BK_gp hB
  obtain ⟨hc_gp_0, hc_gp_1, hc_gp_2, hc_gp_3, hc_gp_4, hc_gp_5, hc_gp_6, hc_gp_7, hf_gp_0, hf_gp_1, hf_gp_2, hf_gp_3, hf_gp_4, hf_gp_5, hf_gp_6, hf_gp_7⟩ := cf8 BK_gp.out
  have BK_gt := Aside0.mk hBN
  clear hG hBN hB
  obtain ⟨hc_gt_0, hc_gt_1, hf_gt_0, hf_gt_1⟩ := cf2 BK_gt.out
  go_upto_region 3 with (first | ((with_reducible refine gate_dst (N := 4) rfl ?_); (try (refine gate_guard (by rfl) ?_; dsimp only)); refine bxn (cs := #[.int .u32 0, .bool false, .int .i64 0, .slice none 0 0]) (t := 28) ?_; intro gm hg w4_ hbox hB0; have hG := Aside0.mk (show w3_.heap.size ≤ gm from Nat.le_of_eq hg.symm); clear hg; have hBX := Aside0.mk hbox; have hB1 := Aside0.mk hB0; clear hB0; obtain ⟨hc_gm_0, hc_gm_1, hc_gm_2, hc_gm_3, hf_gm_0, hf_gm_1, hf_gm_2, hf_gm_3⟩ := cf4 hbox; clear hbox))
  have hB : Below w3_.heap.size w3_ ((((w4_.setCell ⟨gm, 0, none⟩ (.int .u32 g)).setCell ⟨gm, 1, none⟩ (.bool ex)).setCell ⟨gm, 2, none⟩ (.int .i64 lf)).setCell ⟨gm, 3, none⟩ (.slice A_x sr.length c_x)) := (below_set (below_set (below_set (below_set hB1.out hG.out) hG.out) hG.out) hG.out)
  have hBN : ((((w4_.setCell ⟨gm, 0, none⟩ (.int .u32 g)).setCell ⟨gm, 1, none⟩ (.bool ex)).setCell ⟨gm, 2, none⟩ (.int .i64 lf)).setCell ⟨gm, 3, none⟩ (.slice A_x sr.length c_x)).heap[gm]? = some (.cells #[.int .u32 g, .bool ex, .int .i64 lf, .slice A_x sr.length c_x] 28 (0, 0)) := (blk_put (cs := #[.int .u32 g, .bool ex, .int .i64 lf, .slice none 0 0]) (blk_put (cs := #[.int .u32 g, .bool ex, .int .i64 0, .slice none 0 0]) (blk_put (cs := #[.int .u32 g, .bool false, .int .i64 0, .slice none 0 0]) (blk_put (cs := #[.int .u32 0, .bool false, .int .i64 0, .slice none 0 0]) hBX.out 0 (.int .u32 g) rfl) 1 (.bool ex) rfl) 2 (.int .i64 lf) rfl) 3 (.slice A_x sr.length c_x) rfl)
  clear hBX hB1
  clear hc_gm_0 hf_gm_0 hc_gm_1 hf_gm_1 hc_gm_2 hf_gm_2 hc_gm_3 hf_gm_3
  generalize ((((w4_.setCell ⟨gm, 0, none⟩ (.int .u32 g)).setCell ⟨gm, 1, none⟩ (.bool ex)).setCell ⟨gm, 2, none⟩ (.int .i64 lf)).setCell ⟨gm, 3, none⟩ (.slice A_x sr.length c_x)) = w5_ at hB hBN ⊢
  replace HB := mvH HB hB
  clear hc_gp_0 hf_gp_0 hc_gp_1 hf_gp_1 hc_gp_2 hf_gp_2 hc_gp_3 hf_gp_3 hc_gp_4 hf_gp_4 hc_gp_5 hf_gp_5 hc_gp_6 hf_gp_6 hc_gp_7 hf_gp_7
  replace BK_gp := mvB BK_gp hB
  obtain ⟨hc_gp_0, hc_gp_1, hc_gp_2, hc_gp_3, hc_gp_4, hc_gp_5, hc_gp_6, hc_gp_7, hf_gp_0, hf_gp_1, hf_gp_2, hf_gp_3, hf_gp_4, hf_gp_5, hf_gp_6, hf_gp_7⟩ := cf8 BK_gp.out
  clear hc_gt_0 hf_gt_0 hc_gt_1 hf_gt_1
  replace BK_gt := mvB BK_gt hB
  obtain ⟨hc_gt_0, hc_gt_1, hf_gt_0, hf_gt_1⟩ := cf2 BK_gt.out
  have BK_gm := Aside0.mk hBN
  clear hG hBN hB
  obtain ⟨hc_gm_0, hc_gm_1, hc_gm_2, hc_gm_3, hf_gm_0, hf_gm_1, hf_gm_2, hf_gm_3⟩ := cf4 BK_gm.out
  go_upto_region 6 with (first | (go_at_call 9; with_reducible refine (shown_w _).mono ?_; rintro e w6_ ⟨rfl, hB⟩; replace HB := mvH HB hB; clear hc_gp_0 hf_gp_0 hc_gp_1 hf_gp_1 hc_gp_2 hf_gp_2 hc_gp_3 hf_gp_3 hc_gp_4 hf_gp_4 hc_gp_5 hf_gp_5 hc_gp_6 hf_gp_6 hc_gp_7 hf_gp_7; replace BK_gp := mvB BK_gp hB; obtain ⟨hc_gp_0, hc_gp_1, hc_gp_2, hc_gp_3, hc_gp_4, hc_gp_5, hc_gp_6, hc_gp_7, hf_gp_0, hf_gp_1, hf_gp_2, hf_gp_3, hf_gp_4, hf_gp_5, hf_gp_6, hf_gp_7⟩ := cf8 BK_gp.out; clear hc_gt_0 hf_gt_0 hc_gt_1 hf_gt_1; replace BK_gt := mvB BK_gt hB; obtain ⟨hc_gt_0, hc_gt_1, hf_gt_0, hf_gt_1⟩ := cf2 BK_gt.out; clear hc_gm_0 hf_gm_0 hc_gm_1 hf_gm_1 hc_gm_2 hf_gm_2 hc_gm_3 hf_gm_3; replace BK_gm := mvB BK_gm hB; obtain ⟨hc_gm_0, hc_gm_1, hc_gm_2, hc_gm_3, hf_gm_0, hf_gm_1, hf_gm_2, hf_gm_3⟩ := cf4 BK_gm.out; clear hB))
  clear hc_gp_0 hf_gp_0 hc_gp_1 hf_gp_1 hc_gp_2 hf_gp_2 hc_gp_3 hf_gp_3 hc_gp_4 hf_gp_4 hc_gp_5 hf_gp_5 hc_gp_6 hf_gp_6 hc_gp_7 hf_gp_7
  clear BK_gp
  cases hm : mayB t
  case false =>
    have XM := Aside0.mk hm
    clear hm
    go_wp2_with (first | (go_at_call 10; with_reducible refine (mayR_w XM.out _).mono ?_; rintro e w7_ ⟨rfl, hB⟩; replace HB := mvH HB hB; clear hc_gt_0 hf_gt_0 hc_gt_1 hf_gt_1; replace BK_gt := mvB BK_gt hB; obtain ⟨hc_gt_0, hc_gt_1, hf_gt_0, hf_gt_1⟩ := cf2 BK_gt.out; clear hc_gm_0 hf_gm_0 hc_gm_1 hf_gm_1 hc_gm_2 hf_gm_2 hc_gm_3 hf_gm_3; replace BK_gm := mvB BK_gm hB; obtain ⟨hc_gm_0, hc_gm_1, hc_gm_2, hc_gm_3, hf_gm_0, hf_gm_1, hf_gm_2, hf_gm_3⟩ := cf4 BK_gm.out; clear hB))
    go_ret
    exact ⟨rfl, HB.out⟩
  by_cases hx : MOk ⟨g, ex, lf, sr⟩
  case neg =>
    have XM := Aside0.mk hm
    have XX : Aside0 (¬ MOk ⟨g, ex, lf, sr⟩) := ⟨hx⟩
    clear hm hx
    go_wp2_with (first | (go_at_call 10; with_reducible refine (mayR_w XM.out _).mono ?_; rintro e w7_ ⟨rfl, hB⟩; replace HB := mvH HB hB; clear hc_gt_0 hf_gt_0 hc_gt_1 hf_gt_1; replace BK_gt := mvB BK_gt hB; obtain ⟨hc_gt_0, hc_gt_1, hf_gt_0, hf_gt_1⟩ := cf2 BK_gt.out; clear hc_gm_0 hf_gm_0 hc_gm_1 hf_gm_1 hc_gm_2 hf_gm_2 hc_gm_3 hf_gm_3; replace BK_gm := mvB BK_gm hB; obtain ⟨hc_gm_0, hc_gm_1, hc_gm_2, hc_gm_3, hf_gm_0, hf_gm_1, hf_gm_2, hf_gm_3⟩ := cf4 BK_gm.out; clear hB) | (go_at_call 11; with_reducible refine (right_flat (b := false) (by simp [XX.out]) _ _ _ (Kd.C_below HC_x.out HB.out) HK_x.out).mono ?_; rintro e w8_ ⟨rfl, hB⟩; replace HB := mvH HB hB; clear hc_gt_0 hf_gt_0 hc_gt_1 hf_gt_1; replace BK_gt := mvB BK_gt hB; obtain ⟨hc_gt_0, hc_gt_1, hf_gt_0, hf_gt_1⟩ := cf2 BK_gt.out; clear hc_gm_0 hf_gm_0 hc_gm_1 hf_gm_1 hc_gm_2 hf_gm_2 hc_gm_3 hf_gm_3; replace BK_gm := mvB BK_gm hB; obtain ⟨hc_gm_0, hc_gm_1, hc_gm_2, hc_gm_3, hf_gm_0, hf_gm_1, hf_gm_2, hf_gm_3⟩ := cf4 BK_gm.out; clear hB))
    go_ret
    exact ⟨rfl, HB.out⟩
  have XM := Aside0.mk hm
  have XX : Aside0 (MOk ⟨g, ex, lf, sr⟩) := ⟨hx⟩
  clear hm
  by_cases h1 : (200 : Int) < (l.length : Int)
  · have XH := Aside0.mk hx
    clear hx
    go_wp2_with (first | (go_at_call 10; with_reducible refine (mayR_w XM.out _).mono ?_; rintro e w7_ ⟨rfl, hB⟩; replace HB := mvH HB hB; clear hc_gt_0 hf_gt_0 hc_gt_1 hf_gt_1; replace BK_gt := mvB BK_gt hB; obtain ⟨hc_gt_0, hc_gt_1, hf_gt_0, hf_gt_1⟩ := cf2 BK_gt.out; clear hc_gm_0 hf_gm_0 hc_gm_1 hf_gm_1 hc_gm_2 hf_gm_2 hc_gm_3 hf_gm_3; replace BK_gm := mvB BK_gm hB; obtain ⟨hc_gm_0, hc_gm_1, hc_gm_2, hc_gm_3, hf_gm_0, hf_gm_1, hf_gm_2, hf_gm_3⟩ := cf4 BK_gm.out; clear hB) | (go_at_call 11; with_reducible refine (right_flat (b := true) (by simp [XX.out]) _ _ _ (Kd.C_below HC_x.out HB.out) HK_x.out).mono ?_; rintro e w8_ ⟨rfl, hB⟩; replace HB := mvH HB hB; clear hc_gt_0 hf_gt_0 hc_gt_1 hf_gt_1; replace BK_gt := mvB BK_gt hB; obtain ⟨hc_gt_0, hc_gt_1, hf_gt_0, hf_gt_1⟩ := cf2 BK_gt.out; clear hc_gm_0 hf_gm_0 hc_gm_1 hf_gm_1 hc_gm_2 hf_gm_2 hc_gm_3 hf_gm_3; replace BK_gm := mvB BK_gm hB; obtain ⟨hc_gm_0, hc_gm_1, hc_gm_2, hc_gm_3, hf_gm_0, hf_gm_1, hf_gm_2, hf_gm_3⟩ := cf4 BK_gm.out; clear hB))
    go_ret
    exact ⟨rfl, HB.out⟩
  obtain ⟨g', e', lf', sr', asks, err, hh, hm1⟩ := hear_tell XM.out hx kind l
  have hr2 := hh
  rw [ref_hear XM.out hx] at hr2
  have hl2 := Aside0.mk (show l.length ≤ 1000 by omega)
  have Xhx := Aside0.mk hx
  have Xhh := Aside0.mk hh
  have Xhr2 := Aside0.mk hr2
  have Xhm1 := Aside0.mk hm1
  clear hx hh hr2 hm1
  go_upto_region 9 with (first | (go_at_call 10; with_reducible refine (mayR_w XM.out _).mono ?_; rintro e w7_ ⟨rfl, hB⟩; replace HB := mvH HB hB; clear hc_gt_0 hf_gt_0 hc_gt_1 hf_gt_1; replace BK_gt := mvB BK_gt hB; obtain ⟨hc_gt_0, hc_gt_1, hf_gt_0, hf_gt_1⟩ := cf2 BK_gt.out; clear hc_gm_0 hf_gm_0 hc_gm_1 hf_gm_1 hc_gm_2 hf_gm_2 hc_gm_3 hf_gm_3; replace BK_gm := mvB BK_gm hB; obtain ⟨hc_gm_0, hc_gm_1, hc_gm_2, hc_gm_3, hf_gm_0, hf_gm_1, hf_gm_2, hf_gm_3⟩ := cf4 BK_gm.out; clear hB) | (go_at_call 11; with_reducible refine (right_flat (b := true) (by simp [XX.out]) _ _ _ (Kd.C_below HC_x.out HB.out) HK_x.out).mono ?_; rintro e w8_ ⟨rfl, hB⟩; replace HB := mvH HB hB; clear hc_gt_0 hf_gt_0 hc_gt_1 hf_gt_1; replace BK_gt := mvB BK_gt hB; obtain ⟨hc_gt_0, hc_gt_1, hf_gt_0, hf_gt_1⟩ := cf2 BK_gt.out; clear hc_gm_0 hf_gm_0 hc_gm_1 hf_gm_1 hc_gm_2 hf_gm_2 hc_gm_3 hf_gm_3; replace BK_gm := mvB BK_gm hB; obtain ⟨hc_gm_0, hc_gm_1, hc_gm_2, hc_gm_3, hf_gm_0, hf_gm_1, hf_gm_2, hf_gm_3⟩ := cf4 BK_gm.out; clear hB) | (go_at_call 12; (with_reducible refine (hear_q Xhx.out hl2.out Xhh.out rfl _ _ _ _ _ (Kd.C_below HC_x.out HB.out) HK_x.out (Kd.C_below HC_l.out HB.out) HK_l.out).mono ?_); rintro e_ w9_ ⟨A_r, c_r, A_q, c_q, rfl, ⟨hC, hK⟩, ⟨hC2, hK2⟩, hB⟩; replace HB := mvH HB hB; clear hc_gt_0 hf_gt_0 hc_gt_1 hf_gt_1; replace BK_gt := mvB BK_gt hB; obtain ⟨hc_gt_0, hc_gt_1, hf_gt_0, hf_gt_1⟩ := cf2 BK_gt.out; clear hc_gm_0 hf_gm_0 hc_gm_1 hf_gm_1 hc_gm_2 hf_gm_2 hc_gm_3 hf_gm_3; replace BK_gm := mvB BK_gm hB; obtain ⟨hc_gm_0, hc_gm_1, hc_gm_2, hc_gm_3, hf_gm_0, hf_gm_1, hf_gm_2, hf_gm_3⟩ := cf4 BK_gm.out; have HC_r := Aside0.mk hC; have HK_r := Aside0.mk hK; have HC_q := Aside0.mk hC2; have HK_q := Aside0.mk hK2; clear hC hK hC2 hK2 hB) | ((with_reducible refine gate_dst (N := 8) rfl ?_); (try (refine gate_guard (by rfl) ?_; dsimp only)); refine bxn (cs := #[.int .u32 0, .bool false, .int .i64 0, .slice none 0 0]) (t := 28) ?_; intro b1 hg w10_ hbox hB0; have hG := Aside0.mk (show w9_.heap.size ≤ b1 from Nat.le_of_eq hg.symm); clear hg; have hBX := Aside0.mk hbox; have hB1 := Aside0.mk hB0; clear hB0; obtain ⟨hc_b1_0, hc_b1_1, hc_b1_2, hc_b1_3, hf_b1_0, hf_b1_1, hf_b1_2, hf_b1_3⟩ := cf4 hbox; clear hbox))
  have hB : Below w9_.heap.size w9_ ((((w10_.setCell ⟨b1, 0, none⟩ (.int .u32 g')).setCell ⟨b1, 1, none⟩ (.bool e')).setCell ⟨b1, 2, none⟩ (.int .i64 lf')).setCell ⟨b1, 3, none⟩ (.slice A_r sr'.length c_r)) := (below_set (below_set (below_set (below_set hB1.out hG.out) hG.out) hG.out) hG.out)
  have hBN : ((((w10_.setCell ⟨b1, 0, none⟩ (.int .u32 g')).setCell ⟨b1, 1, none⟩ (.bool e')).setCell ⟨b1, 2, none⟩ (.int .i64 lf')).setCell ⟨b1, 3, none⟩ (.slice A_r sr'.length c_r)).heap[b1]? = some (.cells #[.int .u32 g', .bool e', .int .i64 lf', .slice A_r sr'.length c_r] 28 (0, 0)) := (blk_put (cs := #[.int .u32 g', .bool e', .int .i64 lf', .slice none 0 0]) (blk_put (cs := #[.int .u32 g', .bool e', .int .i64 0, .slice none 0 0]) (blk_put (cs := #[.int .u32 g', .bool false, .int .i64 0, .slice none 0 0]) (blk_put (cs := #[.int .u32 0, .bool false, .int .i64 0, .slice none 0 0]) hBX.out 0 (.int .u32 g') rfl) 1 (.bool e') rfl) 2 (.int .i64 lf') rfl) 3 (.slice A_r sr'.length c_r) rfl)
  clear hBX hB1
  clear hc_b1_0 hf_b1_0 hc_b1_1 hf_b1_1 hc_b1_2 hf_b1_2 hc_b1_3 hf_b1_3
  generalize ((((w10_.setCell ⟨b1, 0, none⟩ (.int .u32 g')).setCell ⟨b1, 1, none⟩ (.bool e')).setCell ⟨b1, 2, none⟩ (.int .i64 lf')).setCell ⟨b1, 3, none⟩ (.slice A_r sr'.length c_r)) = w11_ at hB hBN ⊢
  replace HB := mvH HB hB
  clear hc_gt_0 hf_gt_0 hc_gt_1 hf_gt_1
  replace BK_gt := mvB BK_gt hB
  obtain ⟨hc_gt_0, hc_gt_1, hf_gt_0, hf_gt_1⟩ := cf2 BK_gt.out
  clear hc_gm_0 hf_gm_0 hc_gm_1 hf_gm_1 hc_gm_2 hf_gm_2 hc_gm_3 hf_gm_3
  replace BK_gm := mvB BK_gm hB
  obtain ⟨hc_gm_0, hc_gm_1, hc_gm_2, hc_gm_3, hf_gm_0, hf_gm_1, hf_gm_2, hf_gm_3⟩ := cf4 BK_gm.out
  replace HC_r := mvC HC_r hB
  replace HC_q := mvC HC_q hB
  have BK_b1 := Aside0.mk hBN
  clear hG hBN hB
  obtain ⟨hc_b1_0, hc_b1_1, hc_b1_2, hc_b1_3, hf_b1_0, hf_b1_1, hf_b1_2, hf_b1_3⟩ := cf4 BK_b1.out
  go_upto_region 10 with (first | (go_at_call 13; (with_reducible refine (refHear_w Xhr2.out Xhx.out.sort (by have := Xhx.out.len; dsimp only at this; omega) hl2.out _ _ _ _ _ (Kd.C_below HC_x.out HB.out) HK_x.out (Kd.C_below HC_l.out HB.out) HK_l.out).mono ?_); rintro e_ w12_ ⟨A_u, c_u, A_v, c_v, rfl, ⟨hC, hK⟩, ⟨hC2, hK2⟩, hB⟩; replace HB := mvH HB hB; clear hc_gt_0 hf_gt_0 hc_gt_1 hf_gt_1; replace BK_gt := mvB BK_gt hB; obtain ⟨hc_gt_0, hc_gt_1, hf_gt_0, hf_gt_1⟩ := cf2 BK_gt.out; clear hc_gm_0 hf_gm_0 hc_gm_1 hf_gm_1 hc_gm_2 hf_gm_2 hc_gm_3 hf_gm_3; replace BK_gm := mvB BK_gm hB; obtain ⟨hc_gm_0, hc_gm_1, hc_gm_2, hc_gm_3, hf_gm_0, hf_gm_1, hf_gm_2, hf_gm_3⟩ := cf4 BK_gm.out; clear hc_b1_0 hf_b1_0 hc_b1_1 hf_b1_1 hc_b1_2 hf_b1_2 hc_b1_3 hf_b1_3; replace BK_b1 := mvB BK_b1 hB; obtain ⟨hc_b1_0, hc_b1_1, hc_b1_2, hc_b1_3, hf_b1_0, hf_b1_1, hf_b1_2, hf_b1_3⟩ := cf4 BK_b1.out; replace HC_r := mvC HC_r hB; replace HC_q := mvC HC_q hB; have HC_u := Aside0.mk hC; have HK_u := Aside0.mk hK; have HC_v := Aside0.mk hC2; have HK_v := Aside0.mk hK2; clear hC hK hC2 hK2 hB) | ((with_reducible refine gate_dst (N := 11) rfl ?_); (try (refine gate_guard (by rfl) ?_; dsimp only)); refine bxn (cs := #[.int .u32 0, .bool false, .int .i64 0, .slice none 0 0]) (t := 28) ?_; intro b2 hg w13_ hbox hB0; have hG := Aside0.mk (show w12_.heap.size ≤ b2 from Nat.le_of_eq hg.symm); clear hg; have hBX := Aside0.mk hbox; have hB1 := Aside0.mk hB0; clear hB0; obtain ⟨hc_b2_0, hc_b2_1, hc_b2_2, hc_b2_3, hf_b2_0, hf_b2_1, hf_b2_2, hf_b2_3⟩ := cf4 hbox; clear hbox))
  have hB : Below w12_.heap.size w12_ ((((w13_.setCell ⟨b2, 0, none⟩ (.int .u32 g')).setCell ⟨b2, 1, none⟩ (.bool e')).setCell ⟨b2, 2, none⟩ (.int .i64 lf')).setCell ⟨b2, 3, none⟩ (.slice A_u sr'.length c_u)) := (below_set (below_set (below_set (below_set hB1.out hG.out) hG.out) hG.out) hG.out)
  have hBN : ((((w13_.setCell ⟨b2, 0, none⟩ (.int .u32 g')).setCell ⟨b2, 1, none⟩ (.bool e')).setCell ⟨b2, 2, none⟩ (.int .i64 lf')).setCell ⟨b2, 3, none⟩ (.slice A_u sr'.length c_u)).heap[b2]? = some (.cells #[.int .u32 g', .bool e', .int .i64 lf', .slice A_u sr'.length c_u] 28 (0, 0)) := (blk_put (cs := #[.int .u32 g', .bool e', .int .i64 lf', .slice none 0 0]) (blk_put (cs := #[.int .u32 g', .bool e', .int .i64 0, .slice none 0 0]) (blk_put (cs := #[.int .u32 g', .bool false, .int .i64 0, .slice none 0 0]) (blk_put (cs := #[.int .u32 0, .bool false, .int .i64 0, .slice none 0 0]) hBX.out 0 (.int .u32 g') rfl) 1 (.bool e') rfl) 2 (.int .i64 lf') rfl) 3 (.slice A_u sr'.length c_u) rfl)
  clear hBX hB1
  clear hc_b2_0 hf_b2_0 hc_b2_1 hf_b2_1 hc_b2_2 hf_b2_2 hc_b2_3 hf_b2_3
  generalize ((((w13_.setCell ⟨b2, 0, none⟩ (.int .u32 g')).setCell ⟨b2, 1, none⟩ (.bool e')).setCell ⟨b2, 2, none⟩ (.int .i64 lf')).setCell ⟨b2, 3, none⟩ (.slice A_u sr'.length c_u)) = w14_ at hB hBN ⊢
  replace HB := mvH HB hB
  clear hc_gt_0 hf_gt_0 hc_gt_1 hf_gt_1
  replace BK_gt := mvB BK_gt hB
  obtain ⟨hc_gt_0, hc_gt_1, hf_gt_0, hf_gt_1⟩ := cf2 BK_gt.out
  clear hc_gm_0 hf_gm_0 hc_gm_1 hf_gm_1 hc_gm_2 hf_gm_2 hc_gm_3 hf_gm_3
  replace BK_gm := mvB BK_gm hB
  obtain ⟨hc_gm_0, hc_gm_1, hc_gm_2, hc_gm_3, hf_gm_0, hf_gm_1, hf_gm_2, hf_gm_3⟩ := cf4 BK_gm.out
  clear hc_b1_0 hf_b1_0 hc_b1_1 hf_b1_1 hc_b1_2 hf_b1_2 hc_b1_3 hf_b1_3
  replace BK_b1 := mvB BK_b1 hB
  obtain ⟨hc_b1_0, hc_b1_1, hc_b1_2, hc_b1_3, hf_b1_0, hf_b1_1, hf_b1_2, hf_b1_3⟩ := cf4 BK_b1.out
  replace HC_r := mvC HC_r hB
  replace HC_q := mvC HC_q hB
  replace HC_u := mvC HC_u hB
  replace HC_v := mvC HC_v hB
  have BK_b2 := Aside0.mk hBN
  clear hG hBN hB
  obtain ⟨hc_b2_0, hc_b2_1, hc_b2_2, hc_b2_3, hf_b2_0, hf_b2_1, hf_b2_2, hf_b2_3⟩ := cf4 BK_b2.out
  go_wp2_with (first | (go_at_call 14; with_reducible refine (same_flat Xhm1.out _ _ _ _ _ HC_r.out HK_r.out HC_u.out HK_u.out).mono ?_; rintro e w15_ ⟨rfl, hB⟩; replace HB := mvH HB hB; clear hc_gt_0 hf_gt_0 hc_gt_1 hf_gt_1; replace BK_gt := mvB BK_gt hB; obtain ⟨hc_gt_0, hc_gt_1, hf_gt_0, hf_gt_1⟩ := cf2 BK_gt.out; clear hc_gm_0 hf_gm_0 hc_gm_1 hf_gm_1 hc_gm_2 hf_gm_2 hc_gm_3 hf_gm_3; replace BK_gm := mvB BK_gm hB; obtain ⟨hc_gm_0, hc_gm_1, hc_gm_2, hc_gm_3, hf_gm_0, hf_gm_1, hf_gm_2, hf_gm_3⟩ := cf4 BK_gm.out; clear hc_b1_0 hf_b1_0 hc_b1_1 hf_b1_1 hc_b1_2 hf_b1_2 hc_b1_3 hf_b1_3; replace BK_b1 := mvB BK_b1 hB; obtain ⟨hc_b1_0, hc_b1_1, hc_b1_2, hc_b1_3, hf_b1_0, hf_b1_1, hf_b1_2, hf_b1_3⟩ := cf4 BK_b1.out; clear hc_b2_0 hf_b2_0 hc_b2_1 hf_b2_1 hc_b2_2 hf_b2_2 hc_b2_3 hf_b2_3; replace BK_b2 := mvB BK_b2 hB; obtain ⟨hc_b2_0, hc_b2_1, hc_b2_2, hc_b2_3, hf_b2_0, hf_b2_1, hf_b2_2, hf_b2_3⟩ := cf4 BK_b2.out; replace HC_r := mvC HC_r hB; replace HC_q := mvC HC_q hB; replace HC_u := mvC HC_u hB; replace HC_v := mvC HC_v hB; clear hB) | (go_at_call 15; with_reducible refine (asks_w _ _ _ _ _ HC_q.out HK_q.out HC_v.out HK_v.out).mono ?_; rintro e w16_ ⟨rfl, hB⟩; replace HB := mvH HB hB; clear hc_gt_0 hf_gt_0 hc_gt_1 hf_gt_1; replace BK_gt := mvB BK_gt hB; obtain ⟨hc_gt_0, hc_gt_1, hf_gt_0, hf_gt_1⟩ := cf2 BK_gt.out; clear hc_gm_0 hf_gm_0 hc_gm_1 hf_gm_1 hc_gm_2 hf_gm_2 hc_gm_3 hf_gm_3; replace BK_gm := mvB BK_gm hB; obtain ⟨hc_gm_0, hc_gm_1, hc_gm_2, hc_gm_3, hf_gm_0, hf_gm_1, hf_gm_2, hf_gm_3⟩ := cf4 BK_gm.out; clear hc_b1_0 hf_b1_0 hc_b1_1 hf_b1_1 hc_b1_2 hf_b1_2 hc_b1_3 hf_b1_3; replace BK_b1 := mvB BK_b1 hB; obtain ⟨hc_b1_0, hc_b1_1, hc_b1_2, hc_b1_3, hf_b1_0, hf_b1_1, hf_b1_2, hf_b1_3⟩ := cf4 BK_b1.out; clear hc_b2_0 hf_b2_0 hc_b2_1 hf_b2_1 hc_b2_2 hf_b2_2 hc_b2_3 hf_b2_3; replace BK_b2 := mvB BK_b2 hB; obtain ⟨hc_b2_0, hc_b2_1, hc_b2_2, hc_b2_3, hf_b2_0, hf_b2_1, hf_b2_2, hf_b2_3⟩ := cf4 BK_b2.out; replace HC_r := mvC HC_r hB; replace HC_q := mvC HC_q hB; replace HC_u := mvC HC_u hB; replace HC_v := mvC HC_v hB; clear hB))
  go_ret
  exact ⟨rfl, HB.out⟩
theorem membHears_call {t : S23} {x : S28} {kind : Int} {l : List Int} (A_x : Option Addr) (c_x : Nat) (A_l : Option Addr) (c_l : Nat) (w : World) (hr : Kd.C k49 w A_x x.f3.length x.f3) (hc : x.f3.length ≤ c_x) (hs : Kd.C (Kd.int .u32) w A_l l.length l) (hcs : l.length ≤ c_l) :
    Calls Try.prog 3 #[.agg #[.int .i64 t.f0, .int .i64 t.f1, .int .u32 x.f0, .bool x.f1, .int .i64 x.f2, .slice A_x x.f3.length c_x, .int .u8 kind, .slice A_l l.length c_l]] w (fun e w' => e = .returned (.bool true) ∧ Below w.heap.size w w') := membHears_flat A_x c_x A_l c_l w hr hc hs hcs
end Go.Proofs.Ytbllchfgjginoaa
