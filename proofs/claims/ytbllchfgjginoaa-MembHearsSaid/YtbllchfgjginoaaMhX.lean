/-
  ref08.excepted, walked.
-/
import Derived.Test.YtbllchfgjginoaaSoJ
import Derived.Test.YtbllchfgjginoaaMhP
namespace Go.Proofs.Ytbllchfgjginoaa
open Go.RowKit Go.Lib Go.Proofs.YtbllchfgjginoaaW.PrintWords Go.Proofs.YtbllchfgjginoaaW.PrintLast Go.Proofs.YtbllchfgjginoaaW.PrintMore Go.Proofs.Ytbllchfgjginoaa.PMe
attribute [local go_sem] max2_int min2_int max_two min_two max_three min_three max_four min_four
set_option linter.unusedVariables false
set_option linter.unusedSimpArgs false
def mx_T6 : Bool × List (List Nat × List Nat) := (true, [([], []), ([], []), ([], []), ([], []), ([3], [3]), ([0, 1, 2, 4], [0, 1, 2, 4]), ([], []), ([6], [6]), ([5, 7], [5, 7]), ([8, 5, 0, 1, 2, 3, 4, 5, 6, 7, 8], [8])])
def mx_B6 : List Nat := [0, 0, 0, 0, 8, 31, 0, 64, 255, 511]
theorem mx_t6 : rtab .any (opsOf Try.f32 6) = mx_T6 := by kernel_rfl
theorem mx_b6 : waitsOk mx_T6.2 mx_B6 = true := by kernel_rfl
def mx_T8 : Bool × List (List Nat × List Nat) := (true, [([], []), ([], []), ([], []), ([2], [2]), ([0, 1, 3], [0, 1, 3]), ([], []), ([5], [5]), ([4, 6], [4, 6]), ([7, 4, 0, 1, 2, 3, 4, 5, 6, 7], [7])])
def mx_B8 : List Nat := [0, 0, 0, 4, 15, 0, 32, 127, 255]
theorem mx_t8 : rtab .any (opsOf Try.f32 8) = mx_T8 := by kernel_rfl
theorem mx_b8 : waitsOk mx_T8.2 mx_B8 = true := by kernel_rfl
def mx_T10 : Bool × List (List Nat × List Nat) := (true, [([], []), ([], []), ([], []), ([2], [2]), ([0, 1, 3], [0, 1, 3]), ([], []), ([5], [5]), ([4, 6], [4, 6]), ([], []), ([8], [8]), ([], []), ([], []), ([10, 11, 4], [10, 11]), ([], []), ([13], [13]), ([7, 9, 12, 14, 12], [7, 9, 12, 14]), ([15, 15, 0, 1, 2, 3, 4, 5, 6, 7, 8, 9, 10, 11, 12, 13, 14, 15], [15])])
def mx_B10 : List Nat := [0, 0, 0, 4, 15, 0, 32, 127, 0, 256, 0, 0, 3103, 0, 8192, 32767, 65535]
theorem mx_t10 : rtab .any (opsOf Try.f32 10) = mx_T10 := by kernel_rfl
theorem mx_b10 : waitsOk mx_T10.2 mx_B10 = true := by kernel_rfl
def mx_T12 : Bool × List (List Nat × List Nat) := (true, [([], []), ([], []), ([], []), ([2], [2]), ([0, 1, 3], [0, 1, 3]), ([], []), ([5], [5]), ([4, 6], [4, 6]), ([], []), ([8], [8]), ([], []), ([], []), ([10, 11, 4], [10, 11]), ([], []), ([13], [13]), ([7, 9, 12, 14, 12], [7, 9, 12, 14]), ([15, 15, 0, 1, 2, 3, 4, 5, 6, 7, 8, 9, 10, 11, 12, 13, 14, 15], [15])])
def mx_B12 : List Nat := [0, 0, 0, 4, 15, 0, 32, 127, 0, 256, 0, 0, 3103, 0, 8192, 32767, 65535]
theorem mx_t12 : rtab .any (opsOf Try.f32 12) = mx_T12 := by kernel_rfl
theorem mx_b12 : waitsOk mx_T12.2 mx_B12 = true := by kernel_rfl
def mx_T13 : Bool × List (List Nat × List Nat) := (true, [([], []), ([], []), ([], []), ([], []), ([3], [3]), ([0, 1, 2, 4], [0, 1, 2, 4]), ([], []), ([6], [6]), ([], []), ([8], [8]), ([7, 9], [7, 9]), ([5, 10], [5, 10]), ([], []), ([12], [12]), ([], []), ([], []), ([14, 15, 5], [14, 15]), ([], []), ([17], [17]), ([11, 13, 16, 18, 16], [11, 13, 16, 18]), ([], []), ([20, 19, 19, 0, 1, 2, 3, 4, 5, 6, 7, 8, 9, 10, 11, 12, 13, 14, 15, 16, 17, 18, 19, 20], [19, 20])])
def mx_B13 : List Nat := [0, 0, 0, 0, 8, 31, 0, 64, 0, 256, 960, 2047, 0, 4096, 0, 0, 49215, 0, 131072, 524287, 0, 2097151]
theorem mx_t13 : rtab .any (opsOf Try.f32 13) = mx_T13 := by kernel_rfl
theorem mx_b13 : waitsOk mx_T13.2 mx_B13 = true := by kernel_rfl
def mx_T14 : Bool × List (List Nat × List Nat) := (true, [([], []), ([0], [0]), ([], []), ([2], [2]), ([], []), ([], []), ([5], [5]), ([4, 6], [4, 6]), ([], []), ([8], [8]), ([9], [9]), ([10], [10]), ([7, 11, 7], [7, 11]), ([1, 3, 12], [1, 3, 12]), ([13, 12, 0, 1, 2, 3, 4, 5, 6, 7, 8, 9, 10, 11, 12, 13], [13])])
def mx_B14 : List Nat := [0, 1, 0, 4, 0, 0, 32, 112, 0, 256, 768, 1792, 4080, 8191, 16383]
theorem mx_t14 : rtab .any (opsOf Try.f32 14) = mx_T14 := by kernel_rfl
theorem mx_b14 : waitsOk mx_T14.2 mx_B14 = true := by kernel_rfl
set_option maxHeartbeats 8000000 in
set_option maxRecDepth 100000 in
theorem exceptR_w {t : S23} {g lf : Int} {ex : Bool} {sr : List S49} {kind : Int} {b : List Int} (hs : SortH sr) (hn : sr.length ≤ 1000) (hb : Rise b) (hm : b.length ≤ 1000) (hk : 1 ≤ kind ∧ kind ≤ 6) (A_x : Option Addr) (c_x : Nat) (A_b : Option Addr) (c_b : Nat) (w : World) (P : Nat → Prop) (h1 : Kd.V k49 49 w 0 P (.slice A_x sr.length c_x) sr) (h2 : Kd.V (Kd.int .u32) 25 w 0 P (.slice A_b b.length c_b) b) :
    Calls Try.prog 32 #[.agg #[.int .i64 t.f0, .int .i64 t.f1], .agg #[.int .u32 g, .bool ex, .int .i64 lf, .slice A_x sr.length c_x], .int .u8 kind, .slice A_b b.length c_b] w fun e w' => ∃ v0 v1, e = .returned (.agg #[v0, .bool (exceptR t g lf sr kind b).ex, .int .i64 (exceptR t g lf sr kind b).left, v1]) ∧ Kd.V k49 49 w' 0 (fun k => P k ∨ w.heap.size ≤ k) v0 (exceptR t g lf sr kind b).srcs ∧ Kd.V k46 46 w' 0 (fun k => P k ∨ w.heap.size ≤ k) v1 (exceptR t g lf sr kind b).asks ∧ Below w.heap.size w w' := by
  have hu23 := Try.underlying23
  have hu28 := Try.underlying28
  have hu76 := Try.underlying76
  have HB := Aside0.mk (Below.refl w.heap.size w)
  have XS := Aside0.mk hs
  have XN := Aside0.mk (show sr.length ≤ 100000 by omega)
  have XB := Aside0.mk hb
  have XM := Aside0.mk (show b.length ≤ 100000 by omega)
  have XK := Aside0.mk hk
  obtain ⟨xa, hxa⟩ : ∃ y, xS sr = y := ⟨_, rfl⟩
  obtain ⟨na, hna⟩ : ∃ y, nS sr = y := ⟨_, rfl⟩
  have XAL := Aside0.mk (show xa.length ≤ 1000 by rw [← hxa]; exact Nat.le_trans (those_len _ _) hn)
  have XNL := Aside0.mk (show na.length ≤ 1000 by rw [← hna]; exact Nat.le_trans (those_len _ _) hn)
  have XBL := Aside0.mk hm
  have XAR := Aside0.mk (show Rise xa by rw [← hxa]; exact x_rise hs)
  have XNR := Aside0.mk (show Rise na by rw [← hna]; exact those_rise _ hs)
  have XXA := Aside0.mk hxa
  have XNA := Aside0.mk hna
  have HV_x := Aside0.mk (Kd.V_bound h1)
  have HV_b := Aside0.mk (Kd.V_bound h2)
  clear h1 h2 hs hn hb hm hk hxa hna
  go_enter Try.func32, Try.ntmps32
  go_upto_region 1 with (first | ((with_reducible refine gate_dst (N := 4) rfl ?_); (try (refine gate_guard (by rfl) ?_; dsimp only)); refine bxn (cs := #[.int .i64 t.f0, .int .i64 t.f1]) (t := 23) ?_; intro gt hg w1_ hbox hB; replace HB := mvH HB hB; replace HV_x := mvV HV_x hB; replace HV_b := mvV HV_b hB; have BK_gt := Aside0.mk hbox; clear hg hbox hB; obtain ⟨hc_gt_0, hc_gt_1, hf_gt_0, -⟩ := cf2 BK_gt.out; have hf_gt_1 := blk_frozen BK_gt.out 1) | ((with_reducible refine gate_dst (N := 5) rfl ?_); (try (refine gate_guard (by rfl) ?_; dsimp only)); refine bxn (cs := #[.int .u32 g, .bool ex, .int .i64 lf, .slice A_x sr.length c_x]) (t := 28) ?_; intro gm hg w2_ hbox hB; replace HB := mvH HB hB; clear hc_gt_0 hf_gt_0 hc_gt_1 hf_gt_1; replace BK_gt := mvB BK_gt hB; obtain ⟨hc_gt_0, hc_gt_1, hf_gt_0, hf_gt_1⟩ := cf2 BK_gt.out; replace HV_x := mvV HV_x hB; replace HV_b := mvV HV_b hB; have BK_gm := Aside0.mk hbox; clear hg hbox hB; obtain ⟨hc_gm_0, hc_gm_1, hc_gm_2, hc_gm_3, hf_gm_0, hf_gm_1, hf_gm_2, -⟩ := cf4 BK_gm.out; have hf_gm_3 := blk_frozen BK_gm.out 3) | ((with_reducible refine gate_dst (N := 8) rfl ?_); (try (refine gate_guard (by rfl) ?_; dsimp only)); refine bxn (cs := #[.slice none 0 0, .bool false, .int .i64 0, .slice none 0 0]) (t := 76) ?_; intro go hg w3_ hbox hB; have HBo := HB; replace HB := mvH HB hB; clear hc_gt_0 hf_gt_0 hc_gt_1 hf_gt_1; replace BK_gt := mvB BK_gt hB; obtain ⟨hc_gt_0, hc_gt_1, hf_gt_0, hf_gt_1⟩ := cf2 BK_gt.out; clear hc_gm_0 hf_gm_0 hc_gm_1 hf_gm_1 hc_gm_2 hf_gm_2 hc_gm_3 hf_gm_3; replace BK_gm := mvB BK_gm hB; obtain ⟨hc_gm_0, hc_gm_1, hc_gm_2, hc_gm_3, hf_gm_0, hf_gm_1, hf_gm_2, hf_gm_3⟩ := cf4 BK_gm.out; replace HV_x := mvV HV_x hB; replace HV_b := mvV HV_b hB; have BK_go := Aside0.mk hbox; have GO := Aside0.mk (show w.heap.size ≤ go by rw [hg]; exact HBo.out.size); clear hg hbox hB; obtain ⟨hc_go_0, hc_go_1, hc_go_2, hc_go_3, hf_go_0, hf_go_1, hf_go_2, -⟩ := cf4 BK_go.out; have hf_go_3 := blk_frozen BK_go.out 3))
  replace HV_x := Aside0.mk (Kd.V_mono (ok' := okH P w go) HV_x.out (fun k hk => ⟨.inl hk, fun e => by have h1 := hk.2; have h2 := GO.out; have h3 : k = go := e; omega⟩))
  replace HV_b := Aside0.mk (Kd.V_mono (ok' := okH P w go) HV_b.out (fun k hk => ⟨.inl hk, fun e => by have h1 := hk.2; have h2 := GO.out; have h3 : k = go := e; omega⟩))
  clear HBo
  obtain ⟨un, hun⟩ : ∃ y, mk (xa ++ na) = y := ⟨_, rfl⟩
  have XUN := Aside0.mk hun
  have XUL := Aside0.mk (show un.length ≤ 2000 by rw [← hun]; have h1 := mk_len (xa ++ na); have h2 := XAL.out; have h3 := XNL.out; rw [List.length_append] at h1; omega)
  obtain ⟨bo, hbo⟩ : ∃ y, mk (un ++ b) = y := ⟨_, rfl⟩
  have XBO := Aside0.mk hbo
  have XBOL := Aside0.mk (show bo.length ≤ 100000 by rw [← hbo]; have h1 := mk_len (un ++ b); have h2 := XUL.out; have h3 := XBL.out; rw [List.length_append] at h1; omega)
  clear hbo hun
  go_upto_region 3 with (first | (go_at_call 46; (with_reducible refine (sets_w XN.out _ _ _ (Kd.V_reads' HV_x.out).2.2 (Kd.V_reads' HV_x.out).2.1).mono ?_); rintro e_ w4_ ⟨v_a, v_n, rfl, hR, hR2, hB⟩; rw [XXA.out] at hR; rw [XNA.out] at hR2; obtain ⟨A_a, c_a, rfl⟩ := Kd.R_slice hR; obtain ⟨A_n, c_n, rfl⟩ := Kd.R_slice hR2; have hV := RV_ok (P := P) (go := go) hR HB.out.size (blk_lt BK_go.out); have hV2 := RV_ok (P := P) (go := go) hR2 HB.out.size (blk_lt BK_go.out); replace HB := mvH HB hB; clear hc_gt_0 hf_gt_0 hc_gt_1 hf_gt_1; replace BK_gt := mvB BK_gt hB; obtain ⟨hc_gt_0, hc_gt_1, hf_gt_0, hf_gt_1⟩ := cf2 BK_gt.out; clear hc_gm_0 hf_gm_0 hc_gm_1 hf_gm_1 hc_gm_2 hf_gm_2 hc_gm_3 hf_gm_3; replace BK_gm := mvB BK_gm hB; obtain ⟨hc_gm_0, hc_gm_1, hc_gm_2, hc_gm_3, hf_gm_0, hf_gm_1, hf_gm_2, hf_gm_3⟩ := cf4 BK_gm.out; clear hc_go_0 hf_go_0 hc_go_1 hf_go_1 hc_go_2 hf_go_2 hc_go_3 hf_go_3; replace BK_go := mvB BK_go hB; obtain ⟨hc_go_0, hc_go_1, hc_go_2, hc_go_3, hf_go_0, hf_go_1, hf_go_2, hf_go_3⟩ := cf4 BK_go.out; replace HV_x := mvV HV_x hB; replace HV_b := mvV HV_b hB; have HV_a := Aside0.mk hV; have HV_n := Aside0.mk hV2; clear hR hR2 hV hV2 hB) | (go_at_call 47; (with_reducible refine (union_w (by have h2 := XAL.out; have h3 := XNL.out; omega) _ _ _ _ _ (Kd.V_reads' HV_a.out).2.2 (Kd.V_reads' HV_a.out).2.1 (Kd.V_reads' HV_n.out).2.2 (Kd.V_reads' HV_n.out).2.1).mono ?_); rintro e_ w5_ ⟨v_un, rfl, hR, hB⟩; rw [XUN.out] at hR; obtain ⟨A_un, c_un, rfl⟩ := Kd.R_slice hR; have hV := RV_ok (P := P) (go := go) hR HB.out.size (blk_lt BK_go.out); replace HB := mvH HB hB; clear hc_gt_0 hf_gt_0 hc_gt_1 hf_gt_1; replace BK_gt := mvB BK_gt hB; obtain ⟨hc_gt_0, hc_gt_1, hf_gt_0, hf_gt_1⟩ := cf2 BK_gt.out; clear hc_gm_0 hf_gm_0 hc_gm_1 hf_gm_1 hc_gm_2 hf_gm_2 hc_gm_3 hf_gm_3; replace BK_gm := mvB BK_gm hB; obtain ⟨hc_gm_0, hc_gm_1, hc_gm_2, hc_gm_3, hf_gm_0, hf_gm_1, hf_gm_2, hf_gm_3⟩ := cf4 BK_gm.out; clear hc_go_0 hf_go_0 hc_go_1 hf_go_1 hc_go_2 hf_go_2 hc_go_3 hf_go_3; replace BK_go := mvB BK_go hB; obtain ⟨hc_go_0, hc_go_1, hc_go_2, hc_go_3, hf_go_0, hf_go_1, hf_go_2, hf_go_3⟩ := cf4 BK_go.out; replace HV_x := mvV HV_x hB; replace HV_b := mvV HV_b hB; replace HV_a := mvV HV_a hB; replace HV_n := mvV HV_n hB; have HV_un := Aside0.mk hV; clear hR hV hB) | (go_at_call 47; (with_reducible refine (union_w (by have h2 := XUL.out; have h3 := XBL.out; omega) _ _ _ _ _ (Kd.V_reads' HV_un.out).2.2 (Kd.V_reads' HV_un.out).2.1 (Kd.V_reads' HV_b.out).2.2 (Kd.V_reads' HV_b.out).2.1).mono ?_); rintro e_ w6_ ⟨v_bo, rfl, hR, hB⟩; rw [XBO.out] at hR; obtain ⟨A_bo, c_bo, rfl⟩ := Kd.R_slice hR; have hV := RV_ok (P := P) (go := go) hR HB.out.size (blk_lt BK_go.out); replace HB := mvH HB hB; clear hc_gt_0 hf_gt_0 hc_gt_1 hf_gt_1; replace BK_gt := mvB BK_gt hB; obtain ⟨hc_gt_0, hc_gt_1, hf_gt_0, hf_gt_1⟩ := cf2 BK_gt.out; clear hc_gm_0 hf_gm_0 hc_gm_1 hf_gm_1 hc_gm_2 hf_gm_2 hc_gm_3 hf_gm_3; replace BK_gm := mvB BK_gm hB; obtain ⟨hc_gm_0, hc_gm_1, hc_gm_2, hc_gm_3, hf_gm_0, hf_gm_1, hf_gm_2, hf_gm_3⟩ := cf4 BK_gm.out; clear hc_go_0 hf_go_0 hc_go_1 hf_go_1 hc_go_2 hf_go_2 hc_go_3 hf_go_3; replace BK_go := mvB BK_go hB; obtain ⟨hc_go_0, hc_go_1, hc_go_2, hc_go_3, hf_go_0, hf_go_1, hf_go_2, hf_go_3⟩ := cf4 BK_go.out; replace HV_x := mvV HV_x hB; replace HV_b := mvV HV_b hB; replace HV_a := mvV HV_a hB; replace HV_n := mvV HV_n hB; replace HV_un := mvV HV_un hB; have HV_bo := Aside0.mk hV; clear hR hV hB))
  by_cases k1 : kind = 1
  · subst k1
    go_upto_region 6 with fail
    obtain ⟨hh, hhh⟩ : ∃ y, hld sr bo 0 b t.f0 = y := ⟨_, rfl⟩
    have XHH := Aside0.mk hhh
    have XHL := Aside0.mk (show hh.length ≤ 100000 by rw [← hhh]; unfold hld; rw [List.length_map]; first | exact XBOL.out | exact XM.out)
    clear hhh
    refine start_ (n := 10) (S := fun w' => w'.cell? ⟨gt, 0, none⟩ = some (.int .i64 t.f0) ∧ w'.cell? ⟨gt, 1, none⟩ = some (.int .i64 t.f1) ∧ w'.cell? ⟨gm, 0, none⟩ = some (.int .u32 g) ∧ w'.cell? ⟨gm, 1, none⟩ = some (.bool ex) ∧ w'.cell? ⟨gm, 2, none⟩ = some (.int .i64 lf) ∧ w'.cell? ⟨gm, 3, none⟩ = some (.slice A_x sr.length c_x)) (ds := [9]) #[false, false, false, false, false, false, false, false, false, false] (by kernel_rfl) rfl rfl ⟨hc_gt_0, hc_gt_1, hc_gm_0, hc_gm_1, hc_gm_2, hc_gm_3⟩ (fun hHeld => ?_); refine with_tabW mx_t6 mx_b6 (fun HT_ HW_ => ?_)
    have hB : Below w6_.heap.size w6_ w6_.drew := below_drew (Below.refl _ _)
    generalize w6_.drew = w7_ at hB hHeld ⊢
    replace HB := mvH HB hB
    clear hc_gt_0 hf_gt_0 hc_gt_1 hf_gt_1
    replace BK_gt := mvB BK_gt hB
    obtain ⟨hc_gt_0, hc_gt_1, hf_gt_0, hf_gt_1⟩ := cf2 BK_gt.out
    clear hc_gm_0 hf_gm_0 hc_gm_1 hf_gm_1 hc_gm_2 hf_gm_2 hc_gm_3 hf_gm_3
    replace BK_gm := mvB BK_gm hB
    obtain ⟨hc_gm_0, hc_gm_1, hc_gm_2, hc_gm_3, hf_gm_0, hf_gm_1, hf_gm_2, hf_gm_3⟩ := cf4 BK_gm.out
    clear hc_go_0 hf_go_0 hc_go_1 hf_go_1 hc_go_2 hf_go_2 hc_go_3 hf_go_3
    replace BK_go := mvB BK_go hB
    obtain ⟨hc_go_0, hc_go_1, hc_go_2, hc_go_3, hf_go_0, hf_go_1, hf_go_2, hf_go_3⟩ := cf4 BK_go.out
    replace HV_x := mvV HV_x hB
    replace HV_b := mvV HV_b hB
    replace HV_a := mvV HV_a hB
    replace HV_n := mvV HV_n hB
    replace HV_un := mvV HV_un hB
    replace HV_bo := mvV HV_bo hB
    clear hB
    refine tk 0 27 (bb 10 1) rfl rfl HT_ HW_ hHeld ?_
    refine pw 1 28 (bb 10 3) rfl rfl HT_ ?_
    refine pw 2 29 (bb 10 7) rfl rfl HT_ ?_
    refine pw 3 30 (bb 10 15) rfl rfl HT_ ?_
    refine tk 4 31 (bb 10 31) rfl rfl HT_ HW_ hHeld ?_
    refine pw 6 33 (bb 10 95) rfl rfl HT_ ?_
    refine tk 7 34 (bb 10 223) rfl rfl HT_ HW_ hHeld ?_
    refine on1 5 (some 32) (bb 10 255) rfl rfl HT_ (fun K hK => ?_)
    refine gfn Try.func48 #[.agg #[.int .u32 g, .bool ex, .int .i64 lf, .slice A_x sr.length c_x], .slice A_bo bo.length c_bo, .int .i64 0, .slice A_b b.length c_b, .int .i64 t.f0] ?_
    (with_reducible refine (held_w XN.out XBOL.out XM.out _ _ _ _ _ _ _ (Kd.V_reads' HV_x.out).2.2 (Kd.V_reads' HV_x.out).2.1 (Kd.V_reads' HV_bo.out).2.2 (Kd.V_reads' HV_bo.out).2.1 (Kd.V_reads' HV_b.out).2.2 (Kd.V_reads' HV_b.out).2.1).mono ?_)
    rintro e_ w8_ ⟨v_h, rfl, hR, hB⟩
    rw [XHH.out] at hR
    obtain ⟨A_h, c_h, rfl⟩ := Kd.R_slice hR
    refine ⟨_, rfl, ?_⟩
    have hV := RV_ok (P := P) (go := go) hR HB.out.size (blk_lt BK_go.out)
    replace HB := mvH HB hB
    clear hc_gt_0 hf_gt_0 hc_gt_1 hf_gt_1
    replace BK_gt := mvB BK_gt hB
    obtain ⟨hc_gt_0, hc_gt_1, hf_gt_0, hf_gt_1⟩ := cf2 BK_gt.out
    clear hc_gm_0 hf_gm_0 hc_gm_1 hf_gm_1 hc_gm_2 hf_gm_2 hc_gm_3 hf_gm_3
    replace BK_gm := mvB BK_gm hB
    obtain ⟨hc_gm_0, hc_gm_1, hc_gm_2, hc_gm_3, hf_gm_0, hf_gm_1, hf_gm_2, hf_gm_3⟩ := cf4 BK_gm.out
    clear hc_go_0 hf_go_0 hc_go_1 hf_go_1 hc_go_2 hf_go_2 hc_go_3 hf_go_3
    replace BK_go := mvB BK_go hB
    obtain ⟨hc_go_0, hc_go_1, hc_go_2, hc_go_3, hf_go_0, hf_go_1, hf_go_2, hf_go_3⟩ := cf4 BK_go.out
    replace HV_x := mvV HV_x hB
    replace HV_b := mvV HV_b hB
    replace HV_a := mvV HV_a hB
    replace HV_n := mvV HV_n hB
    replace HV_un := mvV HV_un hB
    replace HV_bo := mvV HV_bo hB
    have HV_h := Aside0.mk hV
    clear hR hV hB
    refine hK.out _ _ ⟨hc_gt_0, hc_gt_1, hc_gm_0, hc_gm_1, hc_gm_2, hc_gm_3⟩ (fun hHeld => ?_)
    clear hK K
    refine nm ?_
    refine pw 8 35 (bb 10 511) rfl rfl HT_ ?_
    refine last_ (i := 9) (N := none) (bb 10 1023) rfl rfl (one_of HT_.out (by kernel_rfl)) (by decide) (fun K hK => ?_)
    refine skip_ (w1 := ?_) (by rfl) rfl ?_ ?_
    rotate_left
    · go_simp
      rfl
    refine hK.out _ _ ?_
    clear hK K
    refine done_ (done_of HT_.out (by kernel_rfl)) ?_
    go_wp2
    refine bodyPost_ret (results_cell_row rfl _ _ go 76 #[.slice A_h hh.length c_h, .bool true, .int .i64 lf, .slice none 0 0] (0, 0) _ rfl (blk_put (cs := #[.slice A_h hh.length c_h, .bool true, .int .i64 lf, .slice none 0 0]) (blk_put (cs := #[.slice A_h hh.length c_h, .bool true, .int .i64 0, .slice none 0 0]) (blk_put (cs := #[.slice A_h hh.length c_h, .bool false, .int .i64 0, .slice none 0 0]) (blk_put (cs := #[.slice none 0 0, .bool false, .int .i64 0, .slice none 0 0]) BK_go.out 0 (.slice A_h hh.length c_h) rfl) 1 (.bool true) rfl) 2 (.int .i64 lf) rfl) 3 (.slice none 0 0) rfl) Try.underlying76 rfl (by kernel_rfl)) rfl ?_
    rw [show exceptR t g lf sr 1 b = ⟨hh, true, lf, []⟩ from by rw [← XHH.out, ← XBO.out, ← XUN.out, ← XXA.out, ← XNA.out]; rfl]
    exact ⟨_, _, rfl, Kd.V_mono (Kd.V_far (p := ⟨go, 3, none⟩) (Kd.V_far (p := ⟨go, 2, none⟩) (Kd.V_far (p := ⟨go, 1, none⟩) (Kd.V_far (p := ⟨go, 0, none⟩) HV_h.out (fun k hk => hk.2) (.slice A_h hh.length c_h)) (fun k hk => hk.2) (.bool true)) (fun k hk => hk.2) (.int .i64 lf)) (fun k hk => hk.2) (.slice none 0 0)) (fun k hk => okH_out hk), Kd.V_nil _ _ _ _ _, (below_set (below_set (below_set (below_set HB.out GO.out) GO.out) GO.out) GO.out)⟩
  · have b1 : (kind == 1) = false := by simpa using k1
    by_cases k5 : kind = 5
    · subst k5
      go_upto_region 6 with fail
      obtain ⟨hh, hhh⟩ : ∃ y, hld sr bo 0 b t.f0 = y := ⟨_, rfl⟩
      have XHH := Aside0.mk hhh
      have XHL := Aside0.mk (show hh.length ≤ 100000 by rw [← hhh]; unfold hld; rw [List.length_map]; first | exact XBOL.out | exact XM.out)
      clear hhh
      refine start_ (n := 10) (S := fun w' => w'.cell? ⟨gt, 0, none⟩ = some (.int .i64 t.f0) ∧ w'.cell? ⟨gt, 1, none⟩ = some (.int .i64 t.f1) ∧ w'.cell? ⟨gm, 0, none⟩ = some (.int .u32 g) ∧ w'.cell? ⟨gm, 1, none⟩ = some (.bool ex) ∧ w'.cell? ⟨gm, 2, none⟩ = some (.int .i64 lf) ∧ w'.cell? ⟨gm, 3, none⟩ = some (.slice A_x sr.length c_x)) (ds := [9]) #[false, false, false, false, false, false, false, false, false, false] (by kernel_rfl) rfl rfl ⟨hc_gt_0, hc_gt_1, hc_gm_0, hc_gm_1, hc_gm_2, hc_gm_3⟩ (fun hHeld => ?_); refine with_tabW mx_t6 mx_b6 (fun HT_ HW_ => ?_)
      have hB : Below w6_.heap.size w6_ w6_.drew := below_drew (Below.refl _ _)
      generalize w6_.drew = w7_ at hB hHeld ⊢
      replace HB := mvH HB hB
      clear hc_gt_0 hf_gt_0 hc_gt_1 hf_gt_1
      replace BK_gt := mvB BK_gt hB
      obtain ⟨hc_gt_0, hc_gt_1, hf_gt_0, hf_gt_1⟩ := cf2 BK_gt.out
      clear hc_gm_0 hf_gm_0 hc_gm_1 hf_gm_1 hc_gm_2 hf_gm_2 hc_gm_3 hf_gm_3
      replace BK_gm := mvB BK_gm hB
      obtain ⟨hc_gm_0, hc_gm_1, hc_gm_2, hc_gm_3, hf_gm_0, hf_gm_1, hf_gm_2, hf_gm_3⟩ := cf4 BK_gm.out
      clear hc_go_0 hf_go_0 hc_go_1 hf_go_1 hc_go_2 hf_go_2 hc_go_3 hf_go_3
      replace BK_go := mvB BK_go hB
      obtain ⟨hc_go_0, hc_go_1, hc_go_2, hc_go_3, hf_go_0, hf_go_1, hf_go_2, hf_go_3⟩ := cf4 BK_go.out
      replace HV_x := mvV HV_x hB
      replace HV_b := mvV HV_b hB
      replace HV_a := mvV HV_a hB
      replace HV_n := mvV HV_n hB
      replace HV_un := mvV HV_un hB
      replace HV_bo := mvV HV_bo hB
      clear hB
      refine tk 0 27 (bb 10 1) rfl rfl HT_ HW_ hHeld ?_
      refine pw 1 28 (bb 10 3) rfl rfl HT_ ?_
      refine pw 2 29 (bb 10 7) rfl rfl HT_ ?_
      refine pw 3 30 (bb 10 15) rfl rfl HT_ ?_
      refine tk 4 31 (bb 10 31) rfl rfl HT_ HW_ hHeld ?_
      refine pw 6 33 (bb 10 95) rfl rfl HT_ ?_
      refine tk 7 34 (bb 10 223) rfl rfl HT_ HW_ hHeld ?_
      refine on1 5 (some 32) (bb 10 255) rfl rfl HT_ (fun K hK => ?_)
      refine gfn Try.func48 #[.agg #[.int .u32 g, .bool ex, .int .i64 lf, .slice A_x sr.length c_x], .slice A_bo bo.length c_bo, .int .i64 0, .slice A_b b.length c_b, .int .i64 t.f0] ?_
      (with_reducible refine (held_w XN.out XBOL.out XM.out _ _ _ _ _ _ _ (Kd.V_reads' HV_x.out).2.2 (Kd.V_reads' HV_x.out).2.1 (Kd.V_reads' HV_bo.out).2.2 (Kd.V_reads' HV_bo.out).2.1 (Kd.V_reads' HV_b.out).2.2 (Kd.V_reads' HV_b.out).2.1).mono ?_)
      rintro e_ w8_ ⟨v_h, rfl, hR, hB⟩
      rw [XHH.out] at hR
      obtain ⟨A_h, c_h, rfl⟩ := Kd.R_slice hR
      refine ⟨_, rfl, ?_⟩
      have hV := RV_ok (P := P) (go := go) hR HB.out.size (blk_lt BK_go.out)
      replace HB := mvH HB hB
      clear hc_gt_0 hf_gt_0 hc_gt_1 hf_gt_1
      replace BK_gt := mvB BK_gt hB
      obtain ⟨hc_gt_0, hc_gt_1, hf_gt_0, hf_gt_1⟩ := cf2 BK_gt.out
      clear hc_gm_0 hf_gm_0 hc_gm_1 hf_gm_1 hc_gm_2 hf_gm_2 hc_gm_3 hf_gm_3
      replace BK_gm := mvB BK_gm hB
      obtain ⟨hc_gm_0, hc_gm_1, hc_gm_2, hc_gm_3, hf_gm_0, hf_gm_1, hf_gm_2, hf_gm_3⟩ := cf4 BK_gm.out
      clear hc_go_0 hf_go_0 hc_go_1 hf_go_1 hc_go_2 hf_go_2 hc_go_3 hf_go_3
      replace BK_go := mvB BK_go hB
      obtain ⟨hc_go_0, hc_go_1, hc_go_2, hc_go_3, hf_go_0, hf_go_1, hf_go_2, hf_go_3⟩ := cf4 BK_go.out
      replace HV_x := mvV HV_x hB
      replace HV_b := mvV HV_b hB
      replace HV_a := mvV HV_a hB
      replace HV_n := mvV HV_n hB
      replace HV_un := mvV HV_un hB
      replace HV_bo := mvV HV_bo hB
      have HV_h := Aside0.mk hV
      clear hR hV hB
      refine hK.out _ _ ⟨hc_gt_0, hc_gt_1, hc_gm_0, hc_gm_1, hc_gm_2, hc_gm_3⟩ (fun hHeld => ?_)
      clear hK K
      refine nm ?_
      refine pw 8 35 (bb 10 511) rfl rfl HT_ ?_
      refine last_ (i := 9) (N := none) (bb 10 1023) rfl rfl (one_of HT_.out (by kernel_rfl)) (by decide) (fun K hK => ?_)
      refine skip_ (w1 := ?_) (by rfl) rfl ?_ ?_
      rotate_left
      · go_simp
        rfl
      refine hK.out _ _ ?_
      clear hK K
      refine done_ (done_of HT_.out (by kernel_rfl)) ?_
      go_wp2
      refine bodyPost_ret (results_cell_row rfl _ _ go 76 #[.slice A_h hh.length c_h, .bool true, .int .i64 lf, .slice none 0 0] (0, 0) _ rfl (blk_put (cs := #[.slice A_h hh.length c_h, .bool true, .int .i64 lf, .slice none 0 0]) (blk_put (cs := #[.slice A_h hh.length c_h, .bool true, .int .i64 0, .slice none 0 0]) (blk_put (cs := #[.slice A_h hh.length c_h, .bool false, .int .i64 0, .slice none 0 0]) (blk_put (cs := #[.slice none 0 0, .bool false, .int .i64 0, .slice none 0 0]) BK_go.out 0 (.slice A_h hh.length c_h) rfl) 1 (.bool true) rfl) 2 (.int .i64 lf) rfl) 3 (.slice none 0 0) rfl) Try.underlying76 rfl (by kernel_rfl)) rfl ?_
      rw [show exceptR t g lf sr 5 b = ⟨hh, true, lf, []⟩ from by rw [← XHH.out, ← XBO.out, ← XUN.out, ← XXA.out, ← XNA.out]; rfl]
      exact ⟨_, _, rfl, Kd.V_mono (Kd.V_far (p := ⟨go, 3, none⟩) (Kd.V_far (p := ⟨go, 2, none⟩) (Kd.V_far (p := ⟨go, 1, none⟩) (Kd.V_far (p := ⟨go, 0, none⟩) HV_h.out (fun k hk => hk.2) (.slice A_h hh.length c_h)) (fun k hk => hk.2) (.bool true)) (fun k hk => hk.2) (.int .i64 lf)) (fun k hk => hk.2) (.slice none 0 0)) (fun k hk => okH_out hk), Kd.V_nil _ _ _ _ _, (below_set (below_set (below_set (below_set HB.out GO.out) GO.out) GO.out) GO.out)⟩
    · have b5 : (kind == 5) = false := by simpa using k5
      by_cases k2 : kind = 2
      · subst k2
        go_upto_region 8 with fail
        obtain ⟨hh, hhh⟩ : ∃ y, hld sr b t.f0 [] 0 = y := ⟨_, rfl⟩
        have XHH := Aside0.mk hhh
        have XHL := Aside0.mk (show hh.length ≤ 100000 by rw [← hhh]; unfold hld; rw [List.length_map]; first | exact XBOL.out | exact XM.out)
        clear hhh
        refine start_ (n := 9) (S := fun w' => w'.cell? ⟨gt, 0, none⟩ = some (.int .i64 t.f0) ∧ w'.cell? ⟨gt, 1, none⟩ = some (.int .i64 t.f1) ∧ w'.cell? ⟨gm, 0, none⟩ = some (.int .u32 g) ∧ w'.cell? ⟨gm, 1, none⟩ = some (.bool ex) ∧ w'.cell? ⟨gm, 2, none⟩ = some (.int .i64 lf) ∧ w'.cell? ⟨gm, 3, none⟩ = some (.slice A_x sr.length c_x)) (ds := [8]) #[false, false, false, false, false, false, false, false, false] (by kernel_rfl) rfl rfl ⟨hc_gt_0, hc_gt_1, hc_gm_0, hc_gm_1, hc_gm_2, hc_gm_3⟩ (fun hHeld => ?_); refine with_tabW mx_t8 mx_b8 (fun HT_ HW_ => ?_)
        have hB : Below w6_.heap.size w6_ w6_.drew := below_drew (Below.refl _ _)
        generalize w6_.drew = w7_ at hB hHeld ⊢
        replace HB := mvH HB hB
        clear hc_gt_0 hf_gt_0 hc_gt_1 hf_gt_1
        replace BK_gt := mvB BK_gt hB
        obtain ⟨hc_gt_0, hc_gt_1, hf_gt_0, hf_gt_1⟩ := cf2 BK_gt.out
        clear hc_gm_0 hf_gm_0 hc_gm_1 hf_gm_1 hc_gm_2 hf_gm_2 hc_gm_3 hf_gm_3
        replace BK_gm := mvB BK_gm hB
        obtain ⟨hc_gm_0, hc_gm_1, hc_gm_2, hc_gm_3, hf_gm_0, hf_gm_1, hf_gm_2, hf_gm_3⟩ := cf4 BK_gm.out
        clear hc_go_0 hf_go_0 hc_go_1 hf_go_1 hc_go_2 hf_go_2 hc_go_3 hf_go_3
        replace BK_go := mvB BK_go hB
        obtain ⟨hc_go_0, hc_go_1, hc_go_2, hc_go_3, hf_go_0, hf_go_1, hf_go_2, hf_go_3⟩ := cf4 BK_go.out
        replace HV_x := mvV HV_x hB
        replace HV_b := mvV HV_b hB
        replace HV_a := mvV HV_a hB
        replace HV_n := mvV HV_n hB
        replace HV_un := mvV HV_un hB
        replace HV_bo := mvV HV_bo hB
        clear hB
        refine tk 0 38 (bb 9 1) rfl rfl HT_ HW_ hHeld ?_
        refine pw 1 39 (bb 9 3) rfl rfl HT_ ?_
        refine pw 2 40 (bb 9 7) rfl rfl HT_ ?_
        refine tk 3 41 (bb 9 15) rfl rfl HT_ HW_ hHeld ?_
        refine pw 5 43 (bb 9 47) rfl rfl HT_ ?_
        refine tk 6 44 (bb 9 111) rfl rfl HT_ HW_ hHeld ?_
        refine on1 4 (some 42) (bb 9 127) rfl rfl HT_ (fun K hK => ?_)
        refine gfn Try.func48 #[.agg #[.int .u32 g, .bool ex, .int .i64 lf, .slice A_x sr.length c_x], .slice A_b b.length c_b, .int .i64 t.f0, .slice none 0 0, .int .i64 0] ?_
        (with_reducible refine (held0_w XN.out XM.out _ _ _ _ _ (Kd.V_reads' HV_x.out).2.2 (Kd.V_reads' HV_x.out).2.1 (Kd.V_reads' HV_b.out).2.2 (Kd.V_reads' HV_b.out).2.1).mono ?_)
        rintro e_ w8_ ⟨v_h, rfl, hR, hB⟩
        rw [XHH.out] at hR
        obtain ⟨A_h, c_h, rfl⟩ := Kd.R_slice hR
        refine ⟨_, rfl, ?_⟩
        have hV := RV_ok (P := P) (go := go) hR HB.out.size (blk_lt BK_go.out)
        replace HB := mvH HB hB
        clear hc_gt_0 hf_gt_0 hc_gt_1 hf_gt_1
        replace BK_gt := mvB BK_gt hB
        obtain ⟨hc_gt_0, hc_gt_1, hf_gt_0, hf_gt_1⟩ := cf2 BK_gt.out
        clear hc_gm_0 hf_gm_0 hc_gm_1 hf_gm_1 hc_gm_2 hf_gm_2 hc_gm_3 hf_gm_3
        replace BK_gm := mvB BK_gm hB
        obtain ⟨hc_gm_0, hc_gm_1, hc_gm_2, hc_gm_3, hf_gm_0, hf_gm_1, hf_gm_2, hf_gm_3⟩ := cf4 BK_gm.out
        clear hc_go_0 hf_go_0 hc_go_1 hf_go_1 hc_go_2 hf_go_2 hc_go_3 hf_go_3
        replace BK_go := mvB BK_go hB
        obtain ⟨hc_go_0, hc_go_1, hc_go_2, hc_go_3, hf_go_0, hf_go_1, hf_go_2, hf_go_3⟩ := cf4 BK_go.out
        replace HV_x := mvV HV_x hB
        replace HV_b := mvV HV_b hB
        replace HV_a := mvV HV_a hB
        replace HV_n := mvV HV_n hB
        replace HV_un := mvV HV_un hB
        replace HV_bo := mvV HV_bo hB
        have HV_h := Aside0.mk hV
        clear hR hV hB
        refine hK.out _ _ ⟨hc_gt_0, hc_gt_1, hc_gm_0, hc_gm_1, hc_gm_2, hc_gm_3⟩ (fun hHeld => ?_)
        clear hK K
        refine nm ?_
        refine pw 7 45 (bb 9 255) rfl rfl HT_ ?_
        refine last_ (i := 8) (N := none) (bb 9 511) rfl rfl (one_of HT_.out (by kernel_rfl)) (by decide) (fun K hK => ?_)
        refine skip_ (w1 := ?_) (by rfl) rfl ?_ ?_
        rotate_left
        · go_simp
          rfl
        refine hK.out _ _ ?_
        clear hK K
        refine done_ (done_of HT_.out (by kernel_rfl)) ?_
        go_wp2
        refine bodyPost_ret (results_cell_row rfl _ _ go 76 #[.slice A_h hh.length c_h, .bool true, .int .i64 t.f0, .slice none 0 0] (0, 0) _ rfl (blk_put (cs := #[.slice A_h hh.length c_h, .bool true, .int .i64 t.f0, .slice none 0 0]) (blk_put (cs := #[.slice A_h hh.length c_h, .bool true, .int .i64 0, .slice none 0 0]) (blk_put (cs := #[.slice A_h hh.length c_h, .bool false, .int .i64 0, .slice none 0 0]) (blk_put (cs := #[.slice none 0 0, .bool false, .int .i64 0, .slice none 0 0]) BK_go.out 0 (.slice A_h hh.length c_h) rfl) 1 (.bool true) rfl) 2 (.int .i64 t.f0) rfl) 3 (.slice none 0 0) rfl) Try.underlying76 rfl (by kernel_rfl)) rfl ?_
        rw [show exceptR t g lf sr 2 b = ⟨hh, true, t.f0, []⟩ from by rw [← XHH.out]; rfl]
        exact ⟨_, _, rfl, Kd.V_mono (Kd.V_far (p := ⟨go, 3, none⟩) (Kd.V_far (p := ⟨go, 2, none⟩) (Kd.V_far (p := ⟨go, 1, none⟩) (Kd.V_far (p := ⟨go, 0, none⟩) HV_h.out (fun k hk => hk.2) (.slice A_h hh.length c_h)) (fun k hk => hk.2) (.bool true)) (fun k hk => hk.2) (.int .i64 t.f0)) (fun k hk => hk.2) (.slice none 0 0)) (fun k hk => okH_out hk), Kd.V_nil _ _ _ _ _, (below_set (below_set (below_set (below_set HB.out GO.out) GO.out) GO.out) GO.out)⟩
      · have b2 : (kind == 2) = false := by simpa using k2
        by_cases k4 : kind = 4
        · subst k4
          go_upto_region 10 with fail
          obtain ⟨hh, hhh⟩ : ∃ y, hld sr b lf [] 0 = y := ⟨_, rfl⟩
          have XHH := Aside0.mk hhh
          have XHL := Aside0.mk (show hh.length ≤ 100000 by rw [← hhh]; unfold hld; rw [List.length_map]; first | exact XBOL.out | exact XM.out)
          clear hhh
          obtain ⟨ia, hia⟩ : ∃ y, mns b na = y := ⟨_, rfl⟩
          have XIA := Aside0.mk hia
          have XIL := Aside0.mk (show ia.length ≤ 100000 by rw [← hia]; exact Nat.le_trans (mns_len _ _) (by have h1 := XNL.out; have h2 := XAL.out; have h3 := XBL.out; omega))
          clear hia
          obtain ⟨sa, hsa⟩ : ∃ y, askS t.f1 ia hh = y := ⟨_, rfl⟩
          have XSA := Aside0.mk hsa
          obtain ⟨qa, hqa⟩ : ∃ y, asksOf g ia = y := ⟨_, rfl⟩
          have XQA := Aside0.mk hqa
          have XQL := Aside0.mk (show qa.length ≤ 1 by rw [← hqa]; unfold asksOf; split <;> simp)
          clear hsa hqa
          refine start_ (n := 17) (S := fun w' => w'.cell? ⟨gt, 0, none⟩ = some (.int .i64 t.f0) ∧ w'.cell? ⟨gt, 1, none⟩ = some (.int .i64 t.f1) ∧ w'.cell? ⟨gm, 0, none⟩ = some (.int .u32 g) ∧ w'.cell? ⟨gm, 1, none⟩ = some (.bool ex) ∧ w'.cell? ⟨gm, 2, none⟩ = some (.int .i64 lf) ∧ w'.cell? ⟨gm, 3, none⟩ = some (.slice A_x sr.length c_x)) (ds := [16]) #[false, false, false, false, false, false, false, false, false, false, false, false, false, false, false, false, false] (by kernel_rfl) rfl rfl ⟨hc_gt_0, hc_gt_1, hc_gm_0, hc_gm_1, hc_gm_2, hc_gm_3⟩ (fun hHeld => ?_); refine with_tabW mx_t10 mx_b10 (fun HT_ HW_ => ?_)
          have hB : Below w6_.heap.size w6_ w6_.drew := below_drew (Below.refl _ _)
          generalize w6_.drew = w7_ at hB hHeld ⊢
          replace HB := mvH HB hB
          clear hc_gt_0 hf_gt_0 hc_gt_1 hf_gt_1
          replace BK_gt := mvB BK_gt hB
          obtain ⟨hc_gt_0, hc_gt_1, hf_gt_0, hf_gt_1⟩ := cf2 BK_gt.out
          clear hc_gm_0 hf_gm_0 hc_gm_1 hf_gm_1 hc_gm_2 hf_gm_2 hc_gm_3 hf_gm_3
          replace BK_gm := mvB BK_gm hB
          obtain ⟨hc_gm_0, hc_gm_1, hc_gm_2, hc_gm_3, hf_gm_0, hf_gm_1, hf_gm_2, hf_gm_3⟩ := cf4 BK_gm.out
          clear hc_go_0 hf_go_0 hc_go_1 hf_go_1 hc_go_2 hf_go_2 hc_go_3 hf_go_3
          replace BK_go := mvB BK_go hB
          obtain ⟨hc_go_0, hc_go_1, hc_go_2, hc_go_3, hf_go_0, hf_go_1, hf_go_2, hf_go_3⟩ := cf4 BK_go.out
          replace HV_x := mvV HV_x hB
          replace HV_b := mvV HV_b hB
          replace HV_a := mvV HV_a hB
          replace HV_n := mvV HV_n hB
          replace HV_un := mvV HV_un hB
          replace HV_bo := mvV HV_bo hB
          clear hB
          refine tk 0 48 (bb 17 1) rfl rfl HT_ HW_ hHeld ?_
          refine pw 1 49 (bb 17 3) rfl rfl HT_ ?_
          refine pw 2 50 (bb 17 7) rfl rfl HT_ ?_
          refine tk 3 51 (bb 17 15) rfl rfl HT_ HW_ hHeld ?_
          refine pw 5 53 (bb 17 47) rfl rfl HT_ ?_
          refine tk 6 54 (bb 17 111) rfl rfl HT_ HW_ hHeld ?_
          refine pw 8 56 (bb 17 367) rfl rfl HT_ ?_
          refine tk 9 57 (bb 17 879) rfl rfl HT_ HW_ hHeld ?_
          refine pw 10 58 (bb 17 1903) rfl rfl HT_ ?_
          refine pw 11 59 (bb 17 3951) rfl rfl HT_ ?_
          refine pw 13 61 (bb 17 12143) rfl rfl HT_ ?_
          refine tk 14 62 (bb 17 28527) rfl rfl HT_ HW_ hHeld ?_
          refine on1 4 (some 52) (bb 17 28543) rfl rfl HT_ (fun K hK => ?_)
          refine gfn Try.func48 #[.agg #[.int .u32 g, .bool ex, .int .i64 lf, .slice A_x sr.length c_x], .slice A_b b.length c_b, .int .i64 lf, .slice none 0 0, .int .i64 0] ?_
          (with_reducible refine (held0_w XN.out XM.out _ _ _ _ _ (Kd.V_reads' HV_x.out).2.2 (Kd.V_reads' HV_x.out).2.1 (Kd.V_reads' HV_b.out).2.2 (Kd.V_reads' HV_b.out).2.1).mono ?_)
          rintro e_ w8_ ⟨v_h, rfl, hR, hB⟩
          rw [XHH.out] at hR
          obtain ⟨A_h, c_h, rfl⟩ := Kd.R_slice hR
          refine ⟨_, rfl, ?_⟩
          have hV := RV_ok (P := P) (go := go) hR HB.out.size (blk_lt BK_go.out)
          replace HB := mvH HB hB
          clear hc_gt_0 hf_gt_0 hc_gt_1 hf_gt_1
          replace BK_gt := mvB BK_gt hB
          obtain ⟨hc_gt_0, hc_gt_1, hf_gt_0, hf_gt_1⟩ := cf2 BK_gt.out
          clear hc_gm_0 hf_gm_0 hc_gm_1 hf_gm_1 hc_gm_2 hf_gm_2 hc_gm_3 hf_gm_3
          replace BK_gm := mvB BK_gm hB
          obtain ⟨hc_gm_0, hc_gm_1, hc_gm_2, hc_gm_3, hf_gm_0, hf_gm_1, hf_gm_2, hf_gm_3⟩ := cf4 BK_gm.out
          clear hc_go_0 hf_go_0 hc_go_1 hf_go_1 hc_go_2 hf_go_2 hc_go_3 hf_go_3
          replace BK_go := mvB BK_go hB
          obtain ⟨hc_go_0, hc_go_1, hc_go_2, hc_go_3, hf_go_0, hf_go_1, hf_go_2, hf_go_3⟩ := cf4 BK_go.out
          replace HV_x := mvV HV_x hB
          replace HV_b := mvV HV_b hB
          replace HV_a := mvV HV_a hB
          replace HV_n := mvV HV_n hB
          replace HV_un := mvV HV_un hB
          replace HV_bo := mvV HV_bo hB
          have HV_h := Aside0.mk hV
          clear hR hV hB
          refine hK.out _ _ ⟨hc_gt_0, hc_gt_1, hc_gm_0, hc_gm_1, hc_gm_2, hc_gm_3⟩ (fun hHeld => ?_)
          clear hK K
          refine nm ?_
          refine pw 7 55 (bb 17 28671) rfl rfl HT_ ?_
          refine on1 12 (some 60) (bb 17 32767) rfl rfl HT_ (fun K hK => ?_)
          refine gfn Try.func51 #[.slice A_b b.length c_b, .slice A_n na.length c_n] ?_
          (with_reducible refine (minus_w XM.out (by have := XNL.out; omega) XB.out XNR.out _ _ _ _ _ (Kd.V_reads' HV_b.out).2.2 (Kd.V_reads' HV_b.out).2.1 (Kd.V_reads' HV_n.out).2.2 (Kd.V_reads' HV_n.out).2.1).mono ?_)
          rintro e_ w9_ ⟨v_i, rfl, hR, hB⟩
          rw [XIA.out] at hR
          obtain ⟨A_i, c_i, rfl⟩ := Kd.R_slice hR
          refine ⟨_, rfl, ?_⟩
          have hV := RV_ok (P := P) (go := go) hR HB.out.size (blk_lt BK_go.out)
          replace HB := mvH HB hB
          clear hc_gt_0 hf_gt_0 hc_gt_1 hf_gt_1
          replace BK_gt := mvB BK_gt hB
          obtain ⟨hc_gt_0, hc_gt_1, hf_gt_0, hf_gt_1⟩ := cf2 BK_gt.out
          clear hc_gm_0 hf_gm_0 hc_gm_1 hf_gm_1 hc_gm_2 hf_gm_2 hc_gm_3 hf_gm_3
          replace BK_gm := mvB BK_gm hB
          obtain ⟨hc_gm_0, hc_gm_1, hc_gm_2, hc_gm_3, hf_gm_0, hf_gm_1, hf_gm_2, hf_gm_3⟩ := cf4 BK_gm.out
          clear hc_go_0 hf_go_0 hc_go_1 hf_go_1 hc_go_2 hf_go_2 hc_go_3 hf_go_3
          replace BK_go := mvB BK_go hB
          obtain ⟨hc_go_0, hc_go_1, hc_go_2, hc_go_3, hf_go_0, hf_go_1, hf_go_2, hf_go_3⟩ := cf4 BK_go.out
          replace HV_x := mvV HV_x hB
          replace HV_b := mvV HV_b hB
          replace HV_a := mvV HV_a hB
          replace HV_n := mvV HV_n hB
          replace HV_un := mvV HV_un hB
          replace HV_bo := mvV HV_bo hB
          replace HV_h := mvV HV_h hB
          have HV_i := Aside0.mk hV
          clear hR hV hB
          refine hK.out _ _ ⟨hc_gt_0, hc_gt_1, hc_gm_0, hc_gm_1, hc_gm_2, hc_gm_3⟩ (fun hHeld => ?_)
          clear hK K
          refine nm ?_
          refine on1 15 (some 63) (bb 17 65535) rfl rfl HT_ (fun K hK => ?_)
          refine gfn Try.func49 #[.agg #[.slice A_h hh.length c_h, .bool true, .int .i64 t.f0, .slice none 0 0], .int .u32 g, .slice A_i ia.length c_i, .int .i64 t.f1] ?_
          (with_reducible refine (asked_w (ex := true) (lf := t.f0) XHL.out XIL.out _ _ _ _ _ (okH P w go) HV_h.out HV_i.out).mono ?_)
          rintro e_ w10_ ⟨v_s, v_q, rfl, h0, h1, hB⟩
          rw [XSA.out] at h0
          rw [XQA.out] at h1
          obtain ⟨A_s, c_s, rfl⟩ := Kd.V_slice h0
          obtain ⟨A_q, c_q, rfl⟩ := Kd.V_slice h1
          refine ⟨_, rfl, ?_⟩
          have hV := VA_ok h0 HB.out.size (blk_lt BK_go.out)
          have hV2 := VA_ok h1 HB.out.size (blk_lt BK_go.out)
          replace HB := mvH HB hB
          clear hc_gt_0 hf_gt_0 hc_gt_1 hf_gt_1
          replace BK_gt := mvB BK_gt hB
          obtain ⟨hc_gt_0, hc_gt_1, hf_gt_0, hf_gt_1⟩ := cf2 BK_gt.out
          clear hc_gm_0 hf_gm_0 hc_gm_1 hf_gm_1 hc_gm_2 hf_gm_2 hc_gm_3 hf_gm_3
          replace BK_gm := mvB BK_gm hB
          obtain ⟨hc_gm_0, hc_gm_1, hc_gm_2, hc_gm_3, hf_gm_0, hf_gm_1, hf_gm_2, hf_gm_3⟩ := cf4 BK_gm.out
          clear hc_go_0 hf_go_0 hc_go_1 hf_go_1 hc_go_2 hf_go_2 hc_go_3 hf_go_3
          replace BK_go := mvB BK_go hB
          obtain ⟨hc_go_0, hc_go_1, hc_go_2, hc_go_3, hf_go_0, hf_go_1, hf_go_2, hf_go_3⟩ := cf4 BK_go.out
          replace HV_x := mvV HV_x hB
          replace HV_b := mvV HV_b hB
          replace HV_a := mvV HV_a hB
          replace HV_n := mvV HV_n hB
          replace HV_un := mvV HV_un hB
          replace HV_bo := mvV HV_bo hB
          replace HV_h := mvV HV_h hB
          replace HV_i := mvV HV_i hB
          have HV_s := Aside0.mk hV
          have HV_q := Aside0.mk hV2
          clear h0 h1 hV hV2 hB
          refine hK.out _ _ ⟨hc_gt_0, hc_gt_1, hc_gm_0, hc_gm_1, hc_gm_2, hc_gm_3⟩ (fun hHeld => ?_)
          clear hK K
          refine nm ?_
          refine last_ (i := 16) (N := none) (bb 17 131071) rfl rfl (one_of HT_.out (by kernel_rfl)) (by decide) (fun K hK => ?_)
          refine skip_ (w1 := ?_) (by rfl) rfl ?_ ?_
          rotate_left
          · go_simp
            rfl
          refine hK.out _ _ ?_
          clear hK K
          refine done_ (done_of HT_.out (by kernel_rfl)) ?_
          go_wp2
          refine bodyPost_ret (results_cell_row rfl _ _ go 76 #[.slice A_s sa.length c_s, .bool true, .int .i64 t.f0, .slice A_q qa.length c_q] (0, 0) _ rfl (blk_put (cs := #[.slice A_s sa.length c_s, .bool true, .int .i64 t.f0, .slice none 0 0]) (blk_put (cs := #[.slice A_s sa.length c_s, .bool true, .int .i64 0, .slice none 0 0]) (blk_put (cs := #[.slice A_s sa.length c_s, .bool false, .int .i64 0, .slice none 0 0]) (blk_put (cs := #[.slice none 0 0, .bool false, .int .i64 0, .slice none 0 0]) BK_go.out 0 (.slice A_s sa.length c_s) rfl) 1 (.bool true) rfl) 2 (.int .i64 t.f0) rfl) 3 (.slice A_q qa.length c_q) rfl) Try.underlying76 rfl (by kernel_rfl)) rfl ?_
          rw [show exceptR t g lf sr 4 b = ⟨sa, true, t.f0, qa⟩ from by rw [← XSA.out, ← XQA.out, ← XIA.out, ← XHH.out, ← XNA.out]; rfl]
          exact ⟨_, _, rfl, Kd.V_mono (Kd.V_far (p := ⟨go, 3, none⟩) (Kd.V_far (p := ⟨go, 2, none⟩) (Kd.V_far (p := ⟨go, 1, none⟩) (Kd.V_far (p := ⟨go, 0, none⟩) HV_s.out (fun k hk => hk.2) (.slice A_s sa.length c_s)) (fun k hk => hk.2) (.bool true)) (fun k hk => hk.2) (.int .i64 t.f0)) (fun k hk => hk.2) (.slice A_q qa.length c_q)) (fun k hk => okH_out hk), Kd.V_mono (Kd.V_far (p := ⟨go, 3, none⟩) (Kd.V_far (p := ⟨go, 2, none⟩) (Kd.V_far (p := ⟨go, 1, none⟩) (Kd.V_far (p := ⟨go, 0, none⟩) HV_q.out (fun k hk => hk.2) (.slice A_s sa.length c_s)) (fun k hk => hk.2) (.bool true)) (fun k hk => hk.2) (.int .i64 t.f0)) (fun k hk => hk.2) (.slice A_q qa.length c_q)) (fun k hk => okH_out hk), (below_set (below_set (below_set (below_set HB.out GO.out) GO.out) GO.out) GO.out)⟩
        · have b4 : (kind == 4) = false := by simpa using k4
          by_cases k6 : kind = 6
          · subst k6
            go_upto_region 12 with fail
            obtain ⟨hh, hhh⟩ : ∃ y, hld sr bo lf [] 0 = y := ⟨_, rfl⟩
            have XHH := Aside0.mk hhh
            have XHL := Aside0.mk (show hh.length ≤ 100000 by rw [← hhh]; unfold hld; rw [List.length_map]; first | exact XBOL.out | exact XM.out)
            clear hhh
            obtain ⟨ia, hia⟩ : ∃ y, mns b na = y := ⟨_, rfl⟩
            have XIA := Aside0.mk hia
            have XIL := Aside0.mk (show ia.length ≤ 100000 by rw [← hia]; exact Nat.le_trans (mns_len _ _) (by have h1 := XNL.out; have h2 := XAL.out; have h3 := XBL.out; omega))
            clear hia
            obtain ⟨sa, hsa⟩ : ∃ y, askS t.f1 ia hh = y := ⟨_, rfl⟩
            have XSA := Aside0.mk hsa
            obtain ⟨qa, hqa⟩ : ∃ y, asksOf g ia = y := ⟨_, rfl⟩
            have XQA := Aside0.mk hqa
            have XQL := Aside0.mk (show qa.length ≤ 1 by rw [← hqa]; unfold asksOf; split <;> simp)
            clear hsa hqa
            refine start_ (n := 17) (S := fun w' => w'.cell? ⟨gt, 0, none⟩ = some (.int .i64 t.f0) ∧ w'.cell? ⟨gt, 1, none⟩ = some (.int .i64 t.f1) ∧ w'.cell? ⟨gm, 0, none⟩ = some (.int .u32 g) ∧ w'.cell? ⟨gm, 1, none⟩ = some (.bool ex) ∧ w'.cell? ⟨gm, 2, none⟩ = some (.int .i64 lf) ∧ w'.cell? ⟨gm, 3, none⟩ = some (.slice A_x sr.length c_x)) (ds := [16]) #[false, false, false, false, false, false, false, false, false, false, false, false, false, false, false, false, false] (by kernel_rfl) rfl rfl ⟨hc_gt_0, hc_gt_1, hc_gm_0, hc_gm_1, hc_gm_2, hc_gm_3⟩ (fun hHeld => ?_); refine with_tabW mx_t12 mx_b12 (fun HT_ HW_ => ?_)
            have hB : Below w6_.heap.size w6_ w6_.drew := below_drew (Below.refl _ _)
            generalize w6_.drew = w7_ at hB hHeld ⊢
            replace HB := mvH HB hB
            clear hc_gt_0 hf_gt_0 hc_gt_1 hf_gt_1
            replace BK_gt := mvB BK_gt hB
            obtain ⟨hc_gt_0, hc_gt_1, hf_gt_0, hf_gt_1⟩ := cf2 BK_gt.out
            clear hc_gm_0 hf_gm_0 hc_gm_1 hf_gm_1 hc_gm_2 hf_gm_2 hc_gm_3 hf_gm_3
            replace BK_gm := mvB BK_gm hB
            obtain ⟨hc_gm_0, hc_gm_1, hc_gm_2, hc_gm_3, hf_gm_0, hf_gm_1, hf_gm_2, hf_gm_3⟩ := cf4 BK_gm.out
            clear hc_go_0 hf_go_0 hc_go_1 hf_go_1 hc_go_2 hf_go_2 hc_go_3 hf_go_3
            replace BK_go := mvB BK_go hB
            obtain ⟨hc_go_0, hc_go_1, hc_go_2, hc_go_3, hf_go_0, hf_go_1, hf_go_2, hf_go_3⟩ := cf4 BK_go.out
            replace HV_x := mvV HV_x hB
            replace HV_b := mvV HV_b hB
            replace HV_a := mvV HV_a hB
            replace HV_n := mvV HV_n hB
            replace HV_un := mvV HV_un hB
            replace HV_bo := mvV HV_bo hB
            clear hB
            refine tk 0 66 (bb 17 1) rfl rfl HT_ HW_ hHeld ?_
            refine pw 1 67 (bb 17 3) rfl rfl HT_ ?_
            refine pw 2 68 (bb 17 7) rfl rfl HT_ ?_
            refine tk 3 69 (bb 17 15) rfl rfl HT_ HW_ hHeld ?_
            refine pw 5 71 (bb 17 47) rfl rfl HT_ ?_
            refine tk 6 72 (bb 17 111) rfl rfl HT_ HW_ hHeld ?_
            refine pw 8 74 (bb 17 367) rfl rfl HT_ ?_
            refine tk 9 75 (bb 17 879) rfl rfl HT_ HW_ hHeld ?_
            refine pw 10 76 (bb 17 1903) rfl rfl HT_ ?_
            refine pw 11 77 (bb 17 3951) rfl rfl HT_ ?_
            refine pw 13 79 (bb 17 12143) rfl rfl HT_ ?_
            refine tk 14 80 (bb 17 28527) rfl rfl HT_ HW_ hHeld ?_
            refine on1 4 (some 70) (bb 17 28543) rfl rfl HT_ (fun K hK => ?_)
            refine gfn Try.func48 #[.agg #[.int .u32 g, .bool ex, .int .i64 lf, .slice A_x sr.length c_x], .slice A_bo bo.length c_bo, .int .i64 lf, .slice none 0 0, .int .i64 0] ?_
            (with_reducible refine (held0_w XN.out XBOL.out _ _ _ _ _ (Kd.V_reads' HV_x.out).2.2 (Kd.V_reads' HV_x.out).2.1 (Kd.V_reads' HV_bo.out).2.2 (Kd.V_reads' HV_bo.out).2.1).mono ?_)
            rintro e_ w8_ ⟨v_h, rfl, hR, hB⟩
            rw [XHH.out] at hR
            obtain ⟨A_h, c_h, rfl⟩ := Kd.R_slice hR
            refine ⟨_, rfl, ?_⟩
            have hV := RV_ok (P := P) (go := go) hR HB.out.size (blk_lt BK_go.out)
            replace HB := mvH HB hB
            clear hc_gt_0 hf_gt_0 hc_gt_1 hf_gt_1
            replace BK_gt := mvB BK_gt hB
            obtain ⟨hc_gt_0, hc_gt_1, hf_gt_0, hf_gt_1⟩ := cf2 BK_gt.out
            clear hc_gm_0 hf_gm_0 hc_gm_1 hf_gm_1 hc_gm_2 hf_gm_2 hc_gm_3 hf_gm_3
            replace BK_gm := mvB BK_gm hB
            obtain ⟨hc_gm_0, hc_gm_1, hc_gm_2, hc_gm_3, hf_gm_0, hf_gm_1, hf_gm_2, hf_gm_3⟩ := cf4 BK_gm.out
            clear hc_go_0 hf_go_0 hc_go_1 hf_go_1 hc_go_2 hf_go_2 hc_go_3 hf_go_3
            replace BK_go := mvB BK_go hB
            obtain ⟨hc_go_0, hc_go_1, hc_go_2, hc_go_3, hf_go_0, hf_go_1, hf_go_2, hf_go_3⟩ := cf4 BK_go.out
            replace HV_x := mvV HV_x hB
            replace HV_b := mvV HV_b hB
            replace HV_a := mvV HV_a hB
            replace HV_n := mvV HV_n hB
            replace HV_un := mvV HV_un hB
            replace HV_bo := mvV HV_bo hB
            have HV_h := Aside0.mk hV
            clear hR hV hB
            refine hK.out _ _ ⟨hc_gt_0, hc_gt_1, hc_gm_0, hc_gm_1, hc_gm_2, hc_gm_3⟩ (fun hHeld => ?_)
            clear hK K
            refine nm ?_
            refine pw 7 73 (bb 17 28671) rfl rfl HT_ ?_
            refine on1 12 (some 78) (bb 17 32767) rfl rfl HT_ (fun K hK => ?_)
            refine gfn Try.func51 #[.slice A_b b.length c_b, .slice A_n na.length c_n] ?_
            (with_reducible refine (minus_w XM.out (by have := XNL.out; omega) XB.out XNR.out _ _ _ _ _ (Kd.V_reads' HV_b.out).2.2 (Kd.V_reads' HV_b.out).2.1 (Kd.V_reads' HV_n.out).2.2 (Kd.V_reads' HV_n.out).2.1).mono ?_)
            rintro e_ w9_ ⟨v_i, rfl, hR, hB⟩
            rw [XIA.out] at hR
            obtain ⟨A_i, c_i, rfl⟩ := Kd.R_slice hR
            refine ⟨_, rfl, ?_⟩
            have hV := RV_ok (P := P) (go := go) hR HB.out.size (blk_lt BK_go.out)
            replace HB := mvH HB hB
            clear hc_gt_0 hf_gt_0 hc_gt_1 hf_gt_1
            replace BK_gt := mvB BK_gt hB
            obtain ⟨hc_gt_0, hc_gt_1, hf_gt_0, hf_gt_1⟩ := cf2 BK_gt.out
            clear hc_gm_0 hf_gm_0 hc_gm_1 hf_gm_1 hc_gm_2 hf_gm_2 hc_gm_3 hf_gm_3
            replace BK_gm := mvB BK_gm hB
            obtain ⟨hc_gm_0, hc_gm_1, hc_gm_2, hc_gm_3, hf_gm_0, hf_gm_1, hf_gm_2, hf_gm_3⟩ := cf4 BK_gm.out
            clear hc_go_0 hf_go_0 hc_go_1 hf_go_1 hc_go_2 hf_go_2 hc_go_3 hf_go_3
            replace BK_go := mvB BK_go hB
            obtain ⟨hc_go_0, hc_go_1, hc_go_2, hc_go_3, hf_go_0, hf_go_1, hf_go_2, hf_go_3⟩ := cf4 BK_go.out
            replace HV_x := mvV HV_x hB
            replace HV_b := mvV HV_b hB
            replace HV_a := mvV HV_a hB
            replace HV_n := mvV HV_n hB
            replace HV_un := mvV HV_un hB
            replace HV_bo := mvV HV_bo hB
            replace HV_h := mvV HV_h hB
            have HV_i := Aside0.mk hV
            clear hR hV hB
            refine hK.out _ _ ⟨hc_gt_0, hc_gt_1, hc_gm_0, hc_gm_1, hc_gm_2, hc_gm_3⟩ (fun hHeld => ?_)
            clear hK K
            refine nm ?_
            refine on1 15 (some 81) (bb 17 65535) rfl rfl HT_ (fun K hK => ?_)
            refine gfn Try.func49 #[.agg #[.slice A_h hh.length c_h, .bool true, .int .i64 lf, .slice none 0 0], .int .u32 g, .slice A_i ia.length c_i, .int .i64 t.f1] ?_
            (with_reducible refine (asked_w (ex := true) (lf := lf) XHL.out XIL.out _ _ _ _ _ (okH P w go) HV_h.out HV_i.out).mono ?_)
            rintro e_ w10_ ⟨v_s, v_q, rfl, h0, h1, hB⟩
            rw [XSA.out] at h0
            rw [XQA.out] at h1
            obtain ⟨A_s, c_s, rfl⟩ := Kd.V_slice h0
            obtain ⟨A_q, c_q, rfl⟩ := Kd.V_slice h1
            refine ⟨_, rfl, ?_⟩
            have hV := VA_ok h0 HB.out.size (blk_lt BK_go.out)
            have hV2 := VA_ok h1 HB.out.size (blk_lt BK_go.out)
            replace HB := mvH HB hB
            clear hc_gt_0 hf_gt_0 hc_gt_1 hf_gt_1
            replace BK_gt := mvB BK_gt hB
            obtain ⟨hc_gt_0, hc_gt_1, hf_gt_0, hf_gt_1⟩ := cf2 BK_gt.out
            clear hc_gm_0 hf_gm_0 hc_gm_1 hf_gm_1 hc_gm_2 hf_gm_2 hc_gm_3 hf_gm_3
            replace BK_gm := mvB BK_gm hB
            obtain ⟨hc_gm_0, hc_gm_1, hc_gm_2, hc_gm_3, hf_gm_0, hf_gm_1, hf_gm_2, hf_gm_3⟩ := cf4 BK_gm.out
            clear hc_go_0 hf_go_0 hc_go_1 hf_go_1 hc_go_2 hf_go_2 hc_go_3 hf_go_3
            replace BK_go := mvB BK_go hB
            obtain ⟨hc_go_0, hc_go_1, hc_go_2, hc_go_3, hf_go_0, hf_go_1, hf_go_2, hf_go_3⟩ := cf4 BK_go.out
            replace HV_x := mvV HV_x hB
            replace HV_b := mvV HV_b hB
            replace HV_a := mvV HV_a hB
            replace HV_n := mvV HV_n hB
            replace HV_un := mvV HV_un hB
            replace HV_bo := mvV HV_bo hB
            replace HV_h := mvV HV_h hB
            replace HV_i := mvV HV_i hB
            have HV_s := Aside0.mk hV
            have HV_q := Aside0.mk hV2
            clear h0 h1 hV hV2 hB
            refine hK.out _ _ ⟨hc_gt_0, hc_gt_1, hc_gm_0, hc_gm_1, hc_gm_2, hc_gm_3⟩ (fun hHeld => ?_)
            clear hK K
            refine nm ?_
            refine last_ (i := 16) (N := none) (bb 17 131071) rfl rfl (one_of HT_.out (by kernel_rfl)) (by decide) (fun K hK => ?_)
            refine skip_ (w1 := ?_) (by rfl) rfl ?_ ?_
            rotate_left
            · go_simp
              rfl
            refine hK.out _ _ ?_
            clear hK K
            refine done_ (done_of HT_.out (by kernel_rfl)) ?_
            go_wp2
            refine bodyPost_ret (results_cell_row rfl _ _ go 76 #[.slice A_s sa.length c_s, .bool true, .int .i64 lf, .slice A_q qa.length c_q] (0, 0) _ rfl (blk_put (cs := #[.slice A_s sa.length c_s, .bool true, .int .i64 lf, .slice none 0 0]) (blk_put (cs := #[.slice A_s sa.length c_s, .bool true, .int .i64 0, .slice none 0 0]) (blk_put (cs := #[.slice A_s sa.length c_s, .bool false, .int .i64 0, .slice none 0 0]) (blk_put (cs := #[.slice none 0 0, .bool false, .int .i64 0, .slice none 0 0]) BK_go.out 0 (.slice A_s sa.length c_s) rfl) 1 (.bool true) rfl) 2 (.int .i64 lf) rfl) 3 (.slice A_q qa.length c_q) rfl) Try.underlying76 rfl (by kernel_rfl)) rfl ?_
            rw [show exceptR t g lf sr 6 b = ⟨sa, true, lf, qa⟩ from by rw [← XSA.out, ← XQA.out, ← XIA.out, ← XHH.out, ← XBO.out, ← XUN.out, ← XXA.out, ← XNA.out]; rfl]
            exact ⟨_, _, rfl, Kd.V_mono (Kd.V_far (p := ⟨go, 3, none⟩) (Kd.V_far (p := ⟨go, 2, none⟩) (Kd.V_far (p := ⟨go, 1, none⟩) (Kd.V_far (p := ⟨go, 0, none⟩) HV_s.out (fun k hk => hk.2) (.slice A_s sa.length c_s)) (fun k hk => hk.2) (.bool true)) (fun k hk => hk.2) (.int .i64 lf)) (fun k hk => hk.2) (.slice A_q qa.length c_q)) (fun k hk => okH_out hk), Kd.V_mono (Kd.V_far (p := ⟨go, 3, none⟩) (Kd.V_far (p := ⟨go, 2, none⟩) (Kd.V_far (p := ⟨go, 1, none⟩) (Kd.V_far (p := ⟨go, 0, none⟩) HV_q.out (fun k hk => hk.2) (.slice A_s sa.length c_s)) (fun k hk => hk.2) (.bool true)) (fun k hk => hk.2) (.int .i64 lf)) (fun k hk => hk.2) (.slice A_q qa.length c_q)) (fun k hk => okH_out hk), (below_set (below_set (below_set (below_set HB.out GO.out) GO.out) GO.out) GO.out)⟩
          · have b6 : (kind == 6) = false := by simpa using k6
            have k3 : kind = 3 := by have := XK.out; omega
            subst k3
            go_upto_region 13 with fail
            obtain ⟨hh, hhh⟩ : ∃ y, hld sr bo 0 b t.f0 = y := ⟨_, rfl⟩
            have XHH := Aside0.mk hhh
            have XHL := Aside0.mk (show hh.length ≤ 100000 by rw [← hhh]; unfold hld; rw [List.length_map]; first | exact XBOL.out | exact XM.out)
            clear hhh
            obtain ⟨ia, hia⟩ : ∃ y, mns xa b = y := ⟨_, rfl⟩
            have XIA := Aside0.mk hia
            have XIL := Aside0.mk (show ia.length ≤ 100000 by rw [← hia]; exact Nat.le_trans (mns_len _ _) (by have h1 := XNL.out; have h2 := XAL.out; have h3 := XBL.out; omega))
            clear hia
            obtain ⟨sa, hsa⟩ : ∃ y, askS t.f1 ia hh = y := ⟨_, rfl⟩
            have XSA := Aside0.mk hsa
            obtain ⟨qa, hqa⟩ : ∃ y, asksOf g ia = y := ⟨_, rfl⟩
            have XQA := Aside0.mk hqa
            have XQL := Aside0.mk (show qa.length ≤ 1 by rw [← hqa]; unfold asksOf; split <;> simp)
            clear hsa hqa
            refine start_ (n := 22) (S := fun w' => True) (ds := []) #[false, false, false, false, false, false, false, false, false, false, false, false, false, false, false, false, false, false, false, false, false, false] (by kernel_rfl) rfl rfl trivial (fun hHeld => ?_); refine with_tabW mx_t13 mx_b13 (fun HT_ HW_ => ?_)
            have hB : Below w6_.heap.size w6_ w6_.drew := below_drew (Below.refl _ _)
            generalize w6_.drew = w6_d at hB hHeld ⊢
            replace HB := mvH HB hB
            clear hc_gt_0 hf_gt_0 hc_gt_1 hf_gt_1
            replace BK_gt := mvB BK_gt hB
            obtain ⟨hc_gt_0, hc_gt_1, hf_gt_0, hf_gt_1⟩ := cf2 BK_gt.out
            clear hc_gm_0 hf_gm_0 hc_gm_1 hf_gm_1 hc_gm_2 hf_gm_2 hc_gm_3 hf_gm_3
            replace BK_gm := mvB BK_gm hB
            obtain ⟨hc_gm_0, hc_gm_1, hc_gm_2, hc_gm_3, hf_gm_0, hf_gm_1, hf_gm_2, hf_gm_3⟩ := cf4 BK_gm.out
            clear hc_go_0 hf_go_0 hc_go_1 hf_go_1 hc_go_2 hf_go_2 hc_go_3 hf_go_3
            replace BK_go := mvB BK_go hB
            obtain ⟨hc_go_0, hc_go_1, hc_go_2, hc_go_3, hf_go_0, hf_go_1, hf_go_2, hf_go_3⟩ := cf4 BK_go.out
            replace HV_x := mvV HV_x hB
            replace HV_b := mvV HV_b hB
            replace HV_a := mvV HV_a hB
            replace HV_n := mvV HV_n hB
            replace HV_un := mvV HV_un hB
            replace HV_bo := mvV HV_bo hB
            clear hB
            refine inv_at [0, 1, 2, 3, 4, 5, 6, 7, 8, 9, 10, 11, 12, 13, 14, 15, 16, 17, 18, 19, 20, 21] (fun a0_ b_ a w' => ∃ (v87 v93 v98 v101 vs vq : Value) (g9 : Nat), a = putSel a0_ b_ [(0, 82, .agg #[.int .u32 g, .bool ex, .int .i64 lf, .slice A_x sr.length c_x]), (1, 83, .slice A_bo bo.length c_bo), (2, 84, .slice A_b b.length c_b), (3, 85, .pointer (some ⟨gt, 0, none⟩)), (4, 86, .int .i64 t.f0), (5, 87, v87), (6, 88, .pointer (some ⟨gm, 2, none⟩)), (7, 89, .int .i64 lf), (8, 90, .pointer (some ⟨gt, 1, none⟩)), (9, 91, .int .i64 t.f1), (10, 92, .int .i64 (min lf t.f1)), (11, 93, v93), (12, 94, .pointer (some ⟨gm, 0, none⟩)), (13, 95, .int .u32 g), (14, 96, .slice A_a xa.length c_a), (15, 97, .slice A_b b.length c_b), (16, 98, v98), (17, 99, .pointer (some ⟨gt, 1, none⟩)), (18, 100, .int .i64 t.f1), (19, 101, v101), (20, 12, .pointer (some ⟨g9, 0, none⟩))] ∧ Below w6_d.heap.size w6_d w' ∧ (b_ 5 = true → b_ 19 = false → Kd.V k49 49 w' 0 (fun k => okH P w go k ∧ (b_ 20 = true → k ≠ g9)) v87 hh) ∧ (b_ 11 = true → v93 = .agg #[v87, .bool true, .int .i64 (min lf t.f1), .slice none 0 0]) ∧ (b_ 16 = true → b_ 19 = false → Kd.V (Kd.int .u32) 25 w' 0 (fun k => okH P w go k ∧ (b_ 20 = true → k ≠ g9)) v98 ia) ∧ (b_ 19 = true → v101 = .agg #[vs, .bool true, .int .i64 (min lf t.f1), vq] ∧ Kd.V k49 49 w' 0 (fun k => okH P w go k ∧ (b_ 20 = true → k ≠ g9)) vs sa ∧ Kd.V k46 46 w' 0 (fun k => okH P w go k ∧ (b_ 20 = true → k ≠ g9)) vq qa) ∧ (b_ 20 = true → w6_d.heap.size ≤ g9 ∧ w'.heap[g9]? = some (.cells (if b_ 21 = true then #[vs, .bool true, .int .i64 (min lf t.f1), vq] else #[.slice none 0 0, .bool false, .int .i64 0, .slice none 0 0]) 76 (0, 0)))) HT_.out HW_.out (by kernel_rfl) (by kernel_rfl) ?_ ?_ ?_
            · exact ⟨.bool false, .bool false, .bool false, .bool false, .bool false, .bool false, 0, by simp only [putSel, Bool.false_eq_true, if_false], Below.refl _ _, fun h => absurd h (by decide), fun h => absurd h (by decide), fun h => absurd h (by decide), fun h => absurd h (by decide), fun h => absurd h (by decide)⟩
            · skip
              refine steps_cons ?_ ?_
              · rintro b_ a w' ⟨v87, v93, v98, v101, vs, vq, g9, ha, QB, Q5, Q11, Q16, Q19, Q20⟩ hb_ hon hoff
                refine ⟨_, rfl, fun K hK => ?_⟩
                have e5 : a.tmps[5]? = some (.pointer (some ⟨gm, 0, none⟩)) := by rw [ha]; exact (putSel_off rfl).trans rfl
                replace ha := Aside0.mk ha
                have hd0 : w'.cell? ⟨gm, 0, none⟩ = some (.int .u32 g) := (blk_cell (blk_below (g := gm) (o := .cells #[.int .u32 g, .bool ex, .int .i64 lf, .slice A_x sr.length c_x] 28 (0, 0)) BK_gm.out QB) 0).trans rfl
                have hd1 : w'.cell? ⟨gm, 1, none⟩ = some (.bool ex) := (blk_cell (blk_below (g := gm) (o := .cells #[.int .u32 g, .bool ex, .int .i64 lf, .slice A_x sr.length c_x] 28 (0, 0)) BK_gm.out QB) 1).trans rfl
                have hd2 : w'.cell? ⟨gm, 2, none⟩ = some (.int .i64 lf) := (blk_cell (blk_below (g := gm) (o := .cells #[.int .u32 g, .bool ex, .int .i64 lf, .slice A_x sr.length c_x] 28 (0, 0)) BK_gm.out QB) 2).trans rfl
                have hd3 : w'.cell? ⟨gm, 3, none⟩ = some (.slice A_x sr.length c_x) := (blk_cell (blk_below (g := gm) (o := .cells #[.int .u32 g, .bool ex, .int .i64 lf, .slice A_x sr.length c_x] 28 (0, 0)) BK_gm.out QB) 3).trans rfl
                refine value_ (w1 := w') (v := .agg #[.int .u32 g, .bool ex, .int .i64 lf, .slice A_x sr.length c_x]) (by rfl) rfl ?_ ?_
                · go_simp
                  try rfl
                exact hK.out _ _ ⟨v87, v93, v98, v101, vs, vq, g9, (by rw [ha.out]; exact putSel_upk 0 hb_ rfl rfl rfl), QB, Q5, Q11, Q16, Q19, Q20⟩
              refine steps_cons ?_ ?_
              · rintro b_ a w' ⟨v87, v93, v98, v101, vs, vq, g9, ha, QB, Q5, Q11, Q16, Q19, Q20⟩ hb_ hon hoff
                refine ⟨_, rfl, fun K hK => ?_⟩
                have e11 : a.tmps[11]? = some (.slice A_bo bo.length c_bo) := by rw [ha]; exact (putSel_off rfl).trans rfl
                replace ha := Aside0.mk ha
                refine value_ (w1 := w') (v := .slice A_bo bo.length c_bo) (by rfl) rfl ?_ ?_
                · go_simp
                  try rfl
                exact hK.out _ _ ⟨v87, v93, v98, v101, vs, vq, g9, (by rw [ha.out]; exact putSel_upk 1 hb_ rfl rfl rfl), QB, Q5, Q11, Q16, Q19, Q20⟩
              refine steps_cons ?_ ?_
              · rintro b_ a w' ⟨v87, v93, v98, v101, vs, vq, g9, ha, QB, Q5, Q11, Q16, Q19, Q20⟩ hb_ hon hoff
                refine ⟨_, rfl, fun K hK => ?_⟩
                have e3 : a.tmps[3]? = some (.slice A_b b.length c_b) := by rw [ha]; exact (putSel_off rfl).trans rfl
                replace ha := Aside0.mk ha
                refine value_ (w1 := w') (v := .slice A_b b.length c_b) (by rfl) rfl ?_ ?_
                · go_simp
                  try rfl
                exact hK.out _ _ ⟨v87, v93, v98, v101, vs, vq, g9, (by rw [ha.out]; exact putSel_upk 2 hb_ rfl rfl rfl), QB, Q5, Q11, Q16, Q19, Q20⟩
              refine steps_cons ?_ ?_
              · rintro b_ a w' ⟨v87, v93, v98, v101, vs, vq, g9, ha, QB, Q5, Q11, Q16, Q19, Q20⟩ hb_ hon hoff
                refine ⟨_, rfl, fun K hK => ?_⟩
                have e4 : a.tmps[4]? = some (.pointer (some ⟨gt, 0, none⟩)) := by rw [ha]; exact (putSel_off rfl).trans rfl
                replace ha := Aside0.mk ha
                refine value_ (w1 := w') (v := .pointer (some ⟨gt, 0, none⟩)) (by rfl) rfl ?_ ?_
                · go_simp
                  try rfl
                exact hK.out _ _ ⟨v87, v93, v98, v101, vs, vq, g9, (by rw [ha.out]; exact putSel_upk 3 hb_ rfl rfl rfl), QB, Q5, Q11, Q16, Q19, Q20⟩
              refine steps_cons ?_ ?_
              · rintro b_ a w' ⟨v87, v93, v98, v101, vs, vq, g9, ha, QB, Q5, Q11, Q16, Q19, Q20⟩ hb_ hon hoff
                refine ⟨_, rfl, fun K hK => ?_⟩
                have e85 : a.tmps[85]? = some (.pointer (some ⟨gt, 0, none⟩)) := by rw [ha]; exact putSel_on (e := (3, 85, .pointer (some ⟨gt, 0, none⟩))) 3 rfl rfl (hon 3 (by kernel_rfl)) rfl
                replace ha := Aside0.mk ha
                have hd0 : w'.cell? ⟨gt, 0, none⟩ = some (.int .i64 t.f0) := (blk_cell (blk_below (g := gt) (o := .cells #[.int .i64 t.f0, .int .i64 t.f1] 23 (0, 0)) BK_gt.out QB) 0).trans rfl
                refine value_ (w1 := w') (v := .int .i64 t.f0) (by rfl) rfl ?_ ?_
                · go_simp
                  try rfl
                exact hK.out _ _ ⟨v87, v93, v98, v101, vs, vq, g9, (by rw [ha.out]; exact putSel_upk 4 hb_ rfl rfl rfl), QB, Q5, Q11, Q16, Q19, Q20⟩
              refine steps_cons ?_ ?_
              · rintro b_ a w' ⟨v87, v93, v98, v101, vs, vq, g9, ha, QB, Q5, Q11, Q16, Q19, Q20⟩ hb_ hon hoff
                refine ⟨_, rfl, fun K hK => ?_⟩
                have e82 : a.tmps[82]? = some (.agg #[.int .u32 g, .bool ex, .int .i64 lf, .slice A_x sr.length c_x]) := by rw [ha]; exact putSel_on (e := (0, 82, .agg #[.int .u32 g, .bool ex, .int .i64 lf, .slice A_x sr.length c_x])) 0 rfl rfl (hon 0 (by kernel_rfl)) rfl
                have e83 : a.tmps[83]? = some (.slice A_bo bo.length c_bo) := by rw [ha]; exact putSel_on (e := (1, 83, .slice A_bo bo.length c_bo)) 1 rfl rfl (hon 1 (by kernel_rfl)) rfl
                have e84 : a.tmps[84]? = some (.slice A_b b.length c_b) := by rw [ha]; exact putSel_on (e := (2, 84, .slice A_b b.length c_b)) 2 rfl rfl (hon 2 (by kernel_rfl)) rfl
                have e86 : a.tmps[86]? = some (.int .i64 t.f0) := by rw [ha]; exact putSel_on (e := (4, 86, .int .i64 t.f0)) 4 rfl rfl (hon 4 (by kernel_rfl)) rfl
                replace ha := Aside0.mk ha
                refine goes_ Try.func48 (by kernel_rfl) rfl #[.agg #[.int .u32 g, .bool ex, .int .i64 lf, .slice A_x sr.length c_x], .slice A_bo bo.length c_bo, .int .i64 0, .slice A_b b.length c_b, .int .i64 t.f0] (by rfl) rfl rfl (by first | (simp only [List.map_toArray, List.map_cons, List.map_nil, Act.eval, Array.getD_eq_getD_getElem?, Option.getD_some, e82, e83, e84, e86]; done) | (simp only [List.map_toArray, List.map_cons, List.map_nil, Act.eval, Array.getD_eq_getD_getElem?, Option.getD_some, e82, e83, e84, e86]; rfl)) ?_
                with_reducible refine (held_w XN.out XBOL.out XM.out _ _ _ _ _ _ _ (Kd.C_below (Kd.V_reads' HV_x.out).2.2 QB) (Kd.V_reads' HV_x.out).2.1 (Kd.C_below (Kd.V_reads' HV_bo.out).2.2 QB) (Kd.V_reads' HV_bo.out).2.1 (Kd.C_below (Kd.V_reads' HV_b.out).2.2 QB) (Kd.V_reads' HV_b.out).2.1).mono ?_
                rintro e w1 ⟨u, rfl, hR, hb⟩
                rw [XHH.out] at hR
                refine ⟨_, rfl, ?_⟩
                exact hK.out _ _ ⟨u, v93, v98, v101, vs, vq, g9, (by rw [ha.out]; exact putSel_upk 5 hb_ rfl rfl rfl), QB.trans (hb.mono QB.size), fun _ _ => Kd.V_mono (Kd.R_V (Kd.R_bound hR)) (fun k hk => ⟨okH_new (Nat.le_trans HB.out.size QB.size) (Nat.lt_of_lt_of_le (blk_lt BK_go.out) QB.size) hk.2.1, fun h7 e => by have h1 := blk_lt (Q20 h7).2; have h2 := hk.2.1; omega⟩), fun h => absurd ((hoff 11 (by kernel_rfl)).symm.trans h) (by decide), fun h => absurd ((hoff 16 (by kernel_rfl)).symm.trans h) (by decide), fun h => absurd ((hoff 19 (by kernel_rfl)).symm.trans h) (by decide), fun h6 => ⟨(Q20 h6).1, by rw [if_neg (by rw [show up b_ 5 21 = b_ 21 from rfl, (hoff 21 (by kernel_rfl))]; decide)]; have h9 := (Q20 h6).2; rw [if_neg (by rw [(hoff 21 (by kernel_rfl))]; decide)] at h9; exact blk_below h9 hb⟩⟩
              refine steps_cons ?_ ?_
              · rintro b_ a w' ⟨v87, v93, v98, v101, vs, vq, g9, ha, QB, Q5, Q11, Q16, Q19, Q20⟩ hb_ hon hoff
                refine ⟨_, rfl, fun K hK => ?_⟩
                have e5 : a.tmps[5]? = some (.pointer (some ⟨gm, 0, none⟩)) := by rw [ha]; exact (putSel_off rfl).trans rfl
                replace ha := Aside0.mk ha
                refine value_ (w1 := w') (v := .pointer (some ⟨gm, 2, none⟩)) (by rfl) rfl ?_ ?_
                · go_simp
                  try rfl
                exact hK.out _ _ ⟨v87, v93, v98, v101, vs, vq, g9, (by rw [ha.out]; exact putSel_upk 6 hb_ rfl rfl rfl), QB, Q5, Q11, Q16, Q19, Q20⟩
              refine steps_cons ?_ ?_
              · rintro b_ a w' ⟨v87, v93, v98, v101, vs, vq, g9, ha, QB, Q5, Q11, Q16, Q19, Q20⟩ hb_ hon hoff
                refine ⟨_, rfl, fun K hK => ?_⟩
                have e88 : a.tmps[88]? = some (.pointer (some ⟨gm, 2, none⟩)) := by rw [ha]; exact putSel_on (e := (6, 88, .pointer (some ⟨gm, 2, none⟩))) 6 rfl rfl (hon 6 (by kernel_rfl)) rfl
                replace ha := Aside0.mk ha
                have hd0 : w'.cell? ⟨gm, 2, none⟩ = some (.int .i64 lf) := (blk_cell (blk_below (g := gm) (o := .cells #[.int .u32 g, .bool ex, .int .i64 lf, .slice A_x sr.length c_x] 28 (0, 0)) BK_gm.out QB) 2).trans rfl
                refine value_ (w1 := w') (v := .int .i64 lf) (by rfl) rfl ?_ ?_
                · go_simp
                  try rfl
                exact hK.out _ _ ⟨v87, v93, v98, v101, vs, vq, g9, (by rw [ha.out]; exact putSel_upk 7 hb_ rfl rfl rfl), QB, Q5, Q11, Q16, Q19, Q20⟩
              refine steps_cons ?_ ?_
              · rintro b_ a w' ⟨v87, v93, v98, v101, vs, vq, g9, ha, QB, Q5, Q11, Q16, Q19, Q20⟩ hb_ hon hoff
                refine ⟨_, rfl, fun K hK => ?_⟩
                have e4 : a.tmps[4]? = some (.pointer (some ⟨gt, 0, none⟩)) := by rw [ha]; exact (putSel_off rfl).trans rfl
                replace ha := Aside0.mk ha
                refine value_ (w1 := w') (v := .pointer (some ⟨gt, 1, none⟩)) (by rfl) rfl ?_ ?_
                · go_simp
                  try rfl
                exact hK.out _ _ ⟨v87, v93, v98, v101, vs, vq, g9, (by rw [ha.out]; exact putSel_upk 8 hb_ rfl rfl rfl), QB, Q5, Q11, Q16, Q19, Q20⟩
              refine steps_cons ?_ ?_
              · rintro b_ a w' ⟨v87, v93, v98, v101, vs, vq, g9, ha, QB, Q5, Q11, Q16, Q19, Q20⟩ hb_ hon hoff
                refine ⟨_, rfl, fun K hK => ?_⟩
                have e90 : a.tmps[90]? = some (.pointer (some ⟨gt, 1, none⟩)) := by rw [ha]; exact putSel_on (e := (8, 90, .pointer (some ⟨gt, 1, none⟩))) 8 rfl rfl (hon 8 (by kernel_rfl)) rfl
                replace ha := Aside0.mk ha
                have hd0 : w'.cell? ⟨gt, 1, none⟩ = some (.int .i64 t.f1) := (blk_cell (blk_below (g := gt) (o := .cells #[.int .i64 t.f0, .int .i64 t.f1] 23 (0, 0)) BK_gt.out QB) 1).trans rfl
                refine value_ (w1 := w') (v := .int .i64 t.f1) (by rfl) rfl ?_ ?_
                · go_simp
                  try rfl
                exact hK.out _ _ ⟨v87, v93, v98, v101, vs, vq, g9, (by rw [ha.out]; exact putSel_upk 9 hb_ rfl rfl rfl), QB, Q5, Q11, Q16, Q19, Q20⟩
              refine steps_cons ?_ ?_
              · rintro b_ a w' ⟨v87, v93, v98, v101, vs, vq, g9, ha, QB, Q5, Q11, Q16, Q19, Q20⟩ hb_ hon hoff
                refine ⟨_, rfl, fun K hK => ?_⟩
                have e89 : a.tmps[89]? = some (.int .i64 lf) := by rw [ha]; exact putSel_on (e := (7, 89, .int .i64 lf)) 7 rfl rfl (hon 7 (by kernel_rfl)) rfl
                have e91 : a.tmps[91]? = some (.int .i64 t.f1) := by rw [ha]; exact putSel_on (e := (9, 91, .int .i64 t.f1)) 9 rfl rfl (hon 9 (by kernel_rfl)) rfl
                replace ha := Aside0.mk ha
                refine value_ (w1 := w') (v := .int .i64 (min lf t.f1)) (by rfl) rfl ?_ ?_
                · go_simp
                  first | rfl | (split <;> omega)
                exact hK.out _ _ ⟨v87, v93, v98, v101, vs, vq, g9, (by rw [ha.out]; exact putSel_upk 10 hb_ rfl rfl rfl), QB, Q5, Q11, Q16, Q19, Q20⟩
              refine steps_cons ?_ ?_
              · rintro b_ a w' ⟨v87, v93, v98, v101, vs, vq, g9, ha, QB, Q5, Q11, Q16, Q19, Q20⟩ hb_ hon hoff
                refine ⟨_, rfl, fun K hK => ?_⟩
                have e87 : a.tmps[87]? = some (v87) := by rw [ha]; exact putSel_on (e := (5, 87, v87)) 5 rfl rfl (hon 5 (by kernel_rfl)) rfl
                have e92 : a.tmps[92]? = some (.int .i64 (min lf t.f1)) := by rw [ha]; exact putSel_on (e := (10, 92, .int .i64 (min lf t.f1))) 10 rfl rfl (hon 10 (by kernel_rfl)) rfl
                replace ha := Aside0.mk ha
                have V5 := Q5 (hon 5 (by kernel_rfl)) (hoff 19 (by kernel_rfl))
                obtain ⟨Aq, cq, hq⟩ := Kd.V_slice V5
                rw [hq] at e87
                refine value_ (w1 := w') (v := .agg #[.slice Aq hh.length cq, .bool true, .int .i64 (min lf t.f1), .slice none 0 0]) (by rfl) rfl ?_ ?_
                · go_simp
                  try rfl
                exact hK.out _ _ ⟨v87, _, v98, v101, vs, vq, g9, (by rw [ha.out]; exact putSel_upk 11 hb_ rfl rfl rfl), QB, Q5, fun _ => by rw [hq], Q16, Q19, Q20⟩
              refine steps_cons ?_ ?_
              · rintro b_ a w' ⟨v87, v93, v98, v101, vs, vq, g9, ha, QB, Q5, Q11, Q16, Q19, Q20⟩ hb_ hon hoff
                refine ⟨_, rfl, fun K hK => ?_⟩
                have e5 : a.tmps[5]? = some (.pointer (some ⟨gm, 0, none⟩)) := by rw [ha]; exact (putSel_off rfl).trans rfl
                replace ha := Aside0.mk ha
                refine value_ (w1 := w') (v := .pointer (some ⟨gm, 0, none⟩)) (by rfl) rfl ?_ ?_
                · go_simp
                  try rfl
                exact hK.out _ _ ⟨v87, v93, v98, v101, vs, vq, g9, (by rw [ha.out]; exact putSel_upk 12 hb_ rfl rfl rfl), QB, Q5, Q11, Q16, Q19, Q20⟩
              refine steps_cons ?_ ?_
              · rintro b_ a w' ⟨v87, v93, v98, v101, vs, vq, g9, ha, QB, Q5, Q11, Q16, Q19, Q20⟩ hb_ hon hoff
                refine ⟨_, rfl, fun K hK => ?_⟩
                have e94 : a.tmps[94]? = some (.pointer (some ⟨gm, 0, none⟩)) := by rw [ha]; exact putSel_on (e := (12, 94, .pointer (some ⟨gm, 0, none⟩))) 12 rfl rfl (hon 12 (by kernel_rfl)) rfl
                replace ha := Aside0.mk ha
                have hd0 : w'.cell? ⟨gm, 0, none⟩ = some (.int .u32 g) := (blk_cell (blk_below (g := gm) (o := .cells #[.int .u32 g, .bool ex, .int .i64 lf, .slice A_x sr.length c_x] 28 (0, 0)) BK_gm.out QB) 0).trans rfl
                refine value_ (w1 := w') (v := .int .u32 g) (by rfl) rfl ?_ ?_
                · go_simp
                  try rfl
                exact hK.out _ _ ⟨v87, v93, v98, v101, vs, vq, g9, (by rw [ha.out]; exact putSel_upk 13 hb_ rfl rfl rfl), QB, Q5, Q11, Q16, Q19, Q20⟩
              refine steps_cons ?_ ?_
              · rintro b_ a w' ⟨v87, v93, v98, v101, vs, vq, g9, ha, QB, Q5, Q11, Q16, Q19, Q20⟩ hb_ hon hoff
                refine ⟨_, rfl, fun K hK => ?_⟩
                have e9 : a.tmps[9]? = some (.slice A_a xa.length c_a) := by rw [ha]; exact (putSel_off rfl).trans rfl
                replace ha := Aside0.mk ha
                refine value_ (w1 := w') (v := .slice A_a xa.length c_a) (by rfl) rfl ?_ ?_
                · go_simp
                  try rfl
                exact hK.out _ _ ⟨v87, v93, v98, v101, vs, vq, g9, (by rw [ha.out]; exact putSel_upk 14 hb_ rfl rfl rfl), QB, Q5, Q11, Q16, Q19, Q20⟩
              refine steps_cons ?_ ?_
              · rintro b_ a w' ⟨v87, v93, v98, v101, vs, vq, g9, ha, QB, Q5, Q11, Q16, Q19, Q20⟩ hb_ hon hoff
                refine ⟨_, rfl, fun K hK => ?_⟩
                have e3 : a.tmps[3]? = some (.slice A_b b.length c_b) := by rw [ha]; exact (putSel_off rfl).trans rfl
                replace ha := Aside0.mk ha
                refine value_ (w1 := w') (v := .slice A_b b.length c_b) (by rfl) rfl ?_ ?_
                · go_simp
                  try rfl
                exact hK.out _ _ ⟨v87, v93, v98, v101, vs, vq, g9, (by rw [ha.out]; exact putSel_upk 15 hb_ rfl rfl rfl), QB, Q5, Q11, Q16, Q19, Q20⟩
              refine steps_cons ?_ ?_
              · rintro b_ a w' ⟨v87, v93, v98, v101, vs, vq, g9, ha, QB, Q5, Q11, Q16, Q19, Q20⟩ hb_ hon hoff
                refine ⟨_, rfl, fun K hK => ?_⟩
                have e96 : a.tmps[96]? = some (.slice A_a xa.length c_a) := by rw [ha]; exact putSel_on (e := (14, 96, .slice A_a xa.length c_a)) 14 rfl rfl (hon 14 (by kernel_rfl)) rfl
                have e97 : a.tmps[97]? = some (.slice A_b b.length c_b) := by rw [ha]; exact putSel_on (e := (15, 97, .slice A_b b.length c_b)) 15 rfl rfl (hon 15 (by kernel_rfl)) rfl
                replace ha := Aside0.mk ha
                refine goes_ Try.func51 (by kernel_rfl) rfl #[.slice A_a xa.length c_a, .slice A_b b.length c_b] (by rfl) rfl rfl (by first | (simp only [List.map_toArray, List.map_cons, List.map_nil, Act.eval, Array.getD_eq_getD_getElem?, Option.getD_some, e96, e97]; done) | (simp only [List.map_toArray, List.map_cons, List.map_nil, Act.eval, Array.getD_eq_getD_getElem?, Option.getD_some, e96, e97]; rfl)) ?_
                with_reducible refine (minus_w (by have := XAL.out; omega) XM.out XAR.out XB.out _ _ _ _ _ (Kd.C_below (Kd.V_reads' HV_a.out).2.2 QB) (Kd.V_reads' HV_a.out).2.1 (Kd.C_below (Kd.V_reads' HV_b.out).2.2 QB) (Kd.V_reads' HV_b.out).2.1).mono ?_
                rintro e w1 ⟨u, rfl, hR, hb⟩
                rw [XIA.out] at hR
                refine ⟨_, rfl, ?_⟩
                exact hK.out _ _ ⟨v87, v93, u, v101, vs, vq, g9, (by rw [ha.out]; exact putSel_upk 16 hb_ rfl rfl rfl), QB.trans (hb.mono QB.size), fun h5 h19 => Kd.V_below (Q5 h5 h19) hb, Q11, fun _ _ => Kd.V_mono (Kd.R_V (Kd.R_bound hR)) (fun k hk => ⟨okH_new (Nat.le_trans HB.out.size QB.size) (Nat.lt_of_lt_of_le (blk_lt BK_go.out) QB.size) hk.2.1, fun h7 e => by have h1 := blk_lt (Q20 h7).2; have h2 := hk.2.1; omega⟩), fun h => absurd ((hoff 19 (by kernel_rfl)).symm.trans h) (by decide), fun h6 => ⟨(Q20 h6).1, by rw [if_neg (by rw [show up b_ 16 21 = b_ 21 from rfl, (hoff 21 (by kernel_rfl))]; decide)]; have h9 := (Q20 h6).2; rw [if_neg (by rw [(hoff 21 (by kernel_rfl))]; decide)] at h9; exact blk_below h9 hb⟩⟩
              refine steps_cons ?_ ?_
              · rintro b_ a w' ⟨v87, v93, v98, v101, vs, vq, g9, ha, QB, Q5, Q11, Q16, Q19, Q20⟩ hb_ hon hoff
                refine ⟨_, rfl, fun K hK => ?_⟩
                have e4 : a.tmps[4]? = some (.pointer (some ⟨gt, 0, none⟩)) := by rw [ha]; exact (putSel_off rfl).trans rfl
                replace ha := Aside0.mk ha
                refine value_ (w1 := w') (v := .pointer (some ⟨gt, 1, none⟩)) (by rfl) rfl ?_ ?_
                · go_simp
                  try rfl
                exact hK.out _ _ ⟨v87, v93, v98, v101, vs, vq, g9, (by rw [ha.out]; exact putSel_upk 17 hb_ rfl rfl rfl), QB, Q5, Q11, Q16, Q19, Q20⟩
              refine steps_cons ?_ ?_
              · rintro b_ a w' ⟨v87, v93, v98, v101, vs, vq, g9, ha, QB, Q5, Q11, Q16, Q19, Q20⟩ hb_ hon hoff
                refine ⟨_, rfl, fun K hK => ?_⟩
                have e99 : a.tmps[99]? = some (.pointer (some ⟨gt, 1, none⟩)) := by rw [ha]; exact putSel_on (e := (17, 99, .pointer (some ⟨gt, 1, none⟩))) 17 rfl rfl (hon 17 (by kernel_rfl)) rfl
                replace ha := Aside0.mk ha
                have hd0 : w'.cell? ⟨gt, 1, none⟩ = some (.int .i64 t.f1) := (blk_cell (blk_below (g := gt) (o := .cells #[.int .i64 t.f0, .int .i64 t.f1] 23 (0, 0)) BK_gt.out QB) 1).trans rfl
                refine value_ (w1 := w') (v := .int .i64 t.f1) (by rfl) rfl ?_ ?_
                · go_simp
                  try rfl
                exact hK.out _ _ ⟨v87, v93, v98, v101, vs, vq, g9, (by rw [ha.out]; exact putSel_upk 18 hb_ rfl rfl rfl), QB, Q5, Q11, Q16, Q19, Q20⟩
              refine steps_cons ?_ ?_
              · rintro b_ a w' ⟨v87, v93, v98, v101, vs, vq, g9, ha, QB, Q5, Q11, Q16, Q19, Q20⟩ hb_ hon hoff
                refine ⟨_, rfl, fun K hK => ?_⟩
                have e93 : a.tmps[93]? = some (v93) := by rw [ha]; exact putSel_on (e := (11, 93, v93)) 11 rfl rfl (hon 11 (by kernel_rfl)) rfl
                have e95 : a.tmps[95]? = some (.int .u32 g) := by rw [ha]; exact putSel_on (e := (13, 95, .int .u32 g)) 13 rfl rfl (hon 13 (by kernel_rfl)) rfl
                have e98 : a.tmps[98]? = some (v98) := by rw [ha]; exact putSel_on (e := (16, 98, v98)) 16 rfl rfl (hon 16 (by kernel_rfl)) rfl
                have e100 : a.tmps[100]? = some (.int .i64 t.f1) := by rw [ha]; exact putSel_on (e := (18, 100, .int .i64 t.f1)) 18 rfl rfl (hon 18 (by kernel_rfl)) rfl
                replace ha := Aside0.mk ha
                have V5 := Q5 (hon 5 (by kernel_rfl)) hb_
                have V16 := Q16 (hon 16 (by kernel_rfl)) hb_
                have E11 := Q11 (hon 11 (by kernel_rfl))
                obtain ⟨Aq, cq, hq⟩ := Kd.V_slice V5
                obtain ⟨Ai, ci, hi⟩ := Kd.V_slice V16
                rw [hi] at e98 V16
                rw [hq] at V5
                rw [E11, hq] at e93
                refine goes_ Try.func49 (by kernel_rfl) rfl #[.agg #[.slice Aq hh.length cq, .bool true, .int .i64 (min lf t.f1), .slice none 0 0], .int .u32 g, .slice Ai ia.length ci, .int .i64 t.f1] (by rfl) rfl rfl (by first | (simp only [List.map_toArray, List.map_cons, List.map_nil, Act.eval, Array.getD_eq_getD_getElem?, Option.getD_some, e93, e95, e98, e100]; done) | (simp only [List.map_toArray, List.map_cons, List.map_nil, Act.eval, Array.getD_eq_getD_getElem?, Option.getD_some, e93, e95, e98, e100]; rfl)) ?_
                with_reducible refine (asked_w (ex := true) (lf := (min lf t.f1)) XHL.out XIL.out _ _ _ _ _ (fun k => okH P w go k ∧ (b_ 20 = true → k ≠ g9)) V5 V16).mono ?_
                rintro e w1 ⟨u0, u1, rfl, h0, h1, hb⟩
                rw [XSA.out] at h0
                rw [XQA.out] at h1
                refine ⟨_, rfl, ?_⟩
                have hN : ∀ k, (fun k => okH P w go k ∧ (b_ 20 = true → k ≠ g9)) k ∨ w'.heap.size ≤ k → (fun k => okH P w go k ∧ (b_ 20 = true → k ≠ g9)) k := fun k hk => hk.elim id (fun h => ⟨okH_new (Nat.le_trans HB.out.size QB.size) (Nat.lt_of_lt_of_le (blk_lt BK_go.out) QB.size) h, fun h7 e => by have h1 := blk_lt (Q20 h7).2; omega⟩)
                exact hK.out _ _ ⟨v87, v93, v98, _, u0, u1, g9, (by rw [ha.out]; exact putSel_upk 19 hb_ rfl rfl rfl), QB.trans (hb.mono QB.size), fun _ h => absurd ((up_self b_ 19).symm.trans h) (by decide), Q11, fun _ h => absurd ((up_self b_ 19).symm.trans h) (by decide), fun _ => ⟨rfl, Kd.V_mono h0 hN, Kd.V_mono h1 hN⟩, fun h6 => ⟨(Q20 h6).1, by rw [if_neg (by rw [show up b_ 19 21 = b_ 21 from rfl, (hoff 21 (by kernel_rfl))]; decide)]; have h9 := (Q20 h6).2; rw [if_neg (by rw [(hoff 21 (by kernel_rfl))]; decide)] at h9; exact blk_below h9 hb⟩⟩
              refine steps_cons ?_ ?_
              · rintro b_ a w' ⟨v87, v93, v98, v101, vs, vq, g9, ha, QB, Q5, Q11, Q16, Q19, Q20⟩ hb_ hon hoff
                refine ⟨_, rfl, fun K hK => ?_⟩
                replace ha := Aside0.mk ha
                refine box_step (by rfl) (N := 12) rfl (cs := #[.slice none 0 0, .bool false, .int .i64 0, .slice none 0 0]) (t := 76) ?hr ?_; (case hr => first | (go_simp; done) | (go_simp; rfl))
                intro g hg w1 hbox hb
                exact hK.out _ _ ⟨v87, v93, v98, v101, vs, vq, g, (by rw [ha.out]; exact putSel_upk 20 hb_ rfl rfl rfl), QB.trans (hb.mono QB.size), fun h5 h19 => Kd.V_mono (Kd.V_below (Kd.V_bound (Q5 h5 h19)) hb) (fun k hk => ⟨hk.1.1, fun _ e => by have := hk.2; omega⟩), Q11, fun h16 h19 => Kd.V_mono (Kd.V_below (Kd.V_bound (Q16 h16 h19)) hb) (fun k hk => ⟨hk.1.1, fun _ e => by have := hk.2; omega⟩), fun h19 => ⟨(Q19 h19).1, Kd.V_mono (Kd.V_below (Kd.V_bound ((Q19 h19).2.1)) hb) (fun k hk => ⟨hk.1.1, fun _ e => by have := hk.2; omega⟩), Kd.V_mono (Kd.V_below (Kd.V_bound ((Q19 h19).2.2)) hb) (fun k hk => ⟨hk.1.1, fun _ e => by have := hk.2; omega⟩)⟩, fun _ => ⟨by have := QB.size; omega, by rw [if_neg (by rw [show up b_ 20 21 = b_ 21 from rfl, (hoff 21 (by kernel_rfl))]; decide)]; exact hbox⟩⟩
              refine steps_cons ?_ ?_
              · rintro b_ a w' ⟨v87, v93, v98, v101, vs, vq, g9, ha, QB, Q5, Q11, Q16, Q19, Q20⟩ hb_ hon hoff
                refine ⟨_, rfl, fun K hK => ?_⟩
                have e101 : a.tmps[101]? = some (v101) := by rw [ha]; exact putSel_on (e := (19, 101, v101)) 19 rfl rfl (hon 19 (by kernel_rfl)) rfl
                have e12 : a.tmps[12]? = some (.pointer (some ⟨g9, 0, none⟩)) := by rw [ha]; exact putSel_on (e := (20, 12, .pointer (some ⟨g9, 0, none⟩))) 20 rfl rfl (hon 20 (by kernel_rfl)) rfl
                replace ha := Aside0.mk ha
                obtain ⟨g1, g4⟩ := Q20 (hon 20 (by kernel_rfl))
                rw [if_neg (by rw [hb_]; decide)] at g4
                obtain ⟨E1, V0, V1⟩ := Q19 (hon 19 (by kernel_rfl))
                obtain ⟨As, cs, rfl⟩ := Kd.V_slice V0
                obtain ⟨Aq, cq, rfl⟩ := Kd.V_slice V1
                rw [E1] at e101
                have hd0 : w'.cell? ⟨g9, 0, none⟩ = some (.slice none 0 0) := (blk_cell g4 0).trans rfl
                have hf0 := blk_frozen g4 0
                have hd1 : w'.cell? ⟨g9, 1, none⟩ = some (.bool false) := (blk_cell g4 1).trans rfl
                have hf1 := blk_frozen g4 1
                have hd2 : w'.cell? ⟨g9, 2, none⟩ = some (.int .i64 0) := (blk_cell g4 2).trans rfl
                have hf2 := blk_frozen g4 2
                have hd3 : w'.cell? ⟨g9, 3, none⟩ = some (.slice none 0 0) := (blk_cell g4 3).trans rfl
                have hf3 := blk_frozen g4 3
                refine stores_step (w1 := ((((w'.setCell ⟨g9, 0, none⟩ (.slice As sa.length cs)).setCell ⟨g9, 1, none⟩ (.bool true)).setCell ⟨g9, 2, none⟩ (.int .i64 (min lf t.f1))).setCell ⟨g9, 3, none⟩ (.slice Aq qa.length cq))) (by rfl) rfl ?_ ?_
                · go_simp
                  try rfl
                exact hK.out _ _ ⟨v87, v93, v98, v101, .slice As sa.length cs, .slice Aq qa.length cq, g9, (by rw [ha.out]; exact (putSel_same rfl).symm), (below_set (below_set (below_set (below_set QB g1) g1) g1) g1), fun _ h => absurd ((hon 19 (by kernel_rfl)).symm.trans h) (by decide), Q11, fun _ h => absurd ((hon 19 (by kernel_rfl)).symm.trans h) (by decide), fun _ => ⟨E1, (Kd.V_far (p := ⟨g9, 3, none⟩) (Kd.V_far (p := ⟨g9, 2, none⟩) (Kd.V_far (p := ⟨g9, 1, none⟩) (Kd.V_far (p := ⟨g9, 0, none⟩) V0 (fun _ hk => hk.2 (hon 20 (by kernel_rfl))) (.slice As sa.length cs)) (fun _ hk => hk.2 (hon 20 (by kernel_rfl))) (.bool true)) (fun _ hk => hk.2 (hon 20 (by kernel_rfl))) (.int .i64 (min lf t.f1))) (fun _ hk => hk.2 (hon 20 (by kernel_rfl))) (.slice Aq qa.length cq)), (Kd.V_far (p := ⟨g9, 3, none⟩) (Kd.V_far (p := ⟨g9, 2, none⟩) (Kd.V_far (p := ⟨g9, 1, none⟩) (Kd.V_far (p := ⟨g9, 0, none⟩) V1 (fun _ hk => hk.2 (hon 20 (by kernel_rfl))) (.slice As sa.length cs)) (fun _ hk => hk.2 (hon 20 (by kernel_rfl))) (.bool true)) (fun _ hk => hk.2 (hon 20 (by kernel_rfl))) (.int .i64 (min lf t.f1))) (fun _ hk => hk.2 (hon 20 (by kernel_rfl))) (.slice Aq qa.length cq))⟩, fun _ => ⟨g1, by rw [if_pos (up_self b_ 21)]; exact (blk_put (cs := #[.slice As sa.length cs, .bool true, .int .i64 (min lf t.f1), .slice none 0 0]) (blk_put (cs := #[.slice As sa.length cs, .bool true, .int .i64 0, .slice none 0 0]) (blk_put (cs := #[.slice As sa.length cs, .bool false, .int .i64 0, .slice none 0 0]) (blk_put (cs := #[.slice none 0 0, .bool false, .int .i64 0, .slice none 0 0]) g4 0 (.slice As sa.length cs) rfl) 1 (.bool true) rfl) 2 (.int .i64 (min lf t.f1)) rfl) 3 (.slice Aq qa.length cq) rfl)⟩⟩
              exact steps_nil
            rintro b_ a wz hall ⟨v87, v93, v98, v101, vs, vq, gi, ha, QB, Q5, Q11, Q16, Q19, Q20⟩
            have hb0_ := hall 0 (by kernel_rfl)
            have hb1_ := hall 1 (by kernel_rfl)
            have hb2_ := hall 2 (by kernel_rfl)
            have hb3_ := hall 3 (by kernel_rfl)
            have hb4_ := hall 4 (by kernel_rfl)
            have hb5_ := hall 5 (by kernel_rfl)
            have hb6_ := hall 6 (by kernel_rfl)
            have hb7_ := hall 7 (by kernel_rfl)
            have hb8_ := hall 8 (by kernel_rfl)
            have hb9_ := hall 9 (by kernel_rfl)
            have hb10_ := hall 10 (by kernel_rfl)
            have hb11_ := hall 11 (by kernel_rfl)
            have hb12_ := hall 12 (by kernel_rfl)
            have hb13_ := hall 13 (by kernel_rfl)
            have hb14_ := hall 14 (by kernel_rfl)
            have hb15_ := hall 15 (by kernel_rfl)
            have hb16_ := hall 16 (by kernel_rfl)
            have hb17_ := hall 17 (by kernel_rfl)
            have hb18_ := hall 18 (by kernel_rfl)
            have hb19_ := hall 19 (by kernel_rfl)
            have hb20_ := hall 20 (by kernel_rfl)
            have hb21_ := hall 21 (by kernel_rfl)
            obtain ⟨E1, V0, V1⟩ := Q19 hb19_
            obtain ⟨A_s, c_s, rfl⟩ := Kd.V_slice V0
            obtain ⟨A_q, c_q, rfl⟩ := Kd.V_slice V1
            obtain ⟨g1, g4⟩ := Q20 hb20_
            rw [if_pos hb21_] at g4
            subst E1
            subst ha
            simp only [putSel, hb0_, hb1_, hb2_, hb3_, hb4_, hb5_, hb6_, hb7_, hb8_, hb9_, hb10_, hb11_, hb12_, hb13_, hb14_, hb15_, hb16_, hb17_, hb18_, hb19_, hb20_, if_true, Act.put, List.setIfInBounds_toArray, List.set_cons_zero, List.set_cons_succ]
            clear Q5 Q11 Q16 Q19 Q20 hall hb0_ hb1_ hb2_ hb3_ hb4_ hb5_ hb6_ hb7_ hb8_ hb9_ hb10_ hb11_ hb12_ hb13_ hb14_ hb15_ hb16_ hb17_ hb18_ hb19_ hb20_ hb21_
            have hB := QB
            replace HB := mvH HB hB
            clear hc_gt_0 hf_gt_0 hc_gt_1 hf_gt_1
            replace BK_gt := mvB BK_gt hB
            obtain ⟨hc_gt_0, hc_gt_1, hf_gt_0, hf_gt_1⟩ := cf2 BK_gt.out
            clear hc_gm_0 hf_gm_0 hc_gm_1 hf_gm_1 hc_gm_2 hf_gm_2 hc_gm_3 hf_gm_3
            replace BK_gm := mvB BK_gm hB
            obtain ⟨hc_gm_0, hc_gm_1, hc_gm_2, hc_gm_3, hf_gm_0, hf_gm_1, hf_gm_2, hf_gm_3⟩ := cf4 BK_gm.out
            clear hc_go_0 hf_go_0 hc_go_1 hf_go_1 hc_go_2 hf_go_2 hc_go_3 hf_go_3
            replace BK_go := mvB BK_go hB
            obtain ⟨hc_go_0, hc_go_1, hc_go_2, hc_go_3, hf_go_0, hf_go_1, hf_go_2, hf_go_3⟩ := cf4 BK_go.out
            replace HV_x := mvV HV_x hB
            replace HV_b := mvV HV_b hB
            replace HV_a := mvV HV_a hB
            replace HV_n := mvV HV_n hB
            replace HV_un := mvV HV_un hB
            replace HV_bo := mvV HV_bo hB
            have HV_s := Aside0.mk (Kd.V_mono V0 (fun k hk => hk.1))
            have HV_q := Aside0.mk (Kd.V_mono V1 (fun k hk => hk.1))
            have BK_gi := Aside0.mk g4
            clear hB QB g1 g4 V0 V1
            obtain ⟨hc_gi_0, hc_gi_1, hc_gi_2, hc_gi_3, hf_gi_0, hf_gi_1, hf_gi_2, hf_gi_3⟩ := cf4 BK_gi.out
            go_upto_region 14 with fail
            replace HV_q := Aside0.mk (Kd.V_bound HV_q.out)
            refine start_ (n := 15) (S := fun w' => True) (ds := []) #[false, false, false, false, false, false, false, false, false, false, false, false, false, false, false] (by kernel_rfl) rfl rfl trivial (fun hHeld => ?_); refine with_tabW mx_t14 mx_b14 (fun HT_ HW_ => ?_)
            have hB : Below wz.heap.size wz wz.drew := below_drew (Below.refl _ _)
            generalize wz.drew = wzd at hB hHeld ⊢
            replace HB := mvH HB hB
            clear hc_gt_0 hf_gt_0 hc_gt_1 hf_gt_1
            replace BK_gt := mvB BK_gt hB
            obtain ⟨hc_gt_0, hc_gt_1, hf_gt_0, hf_gt_1⟩ := cf2 BK_gt.out
            clear hc_gm_0 hf_gm_0 hc_gm_1 hf_gm_1 hc_gm_2 hf_gm_2 hc_gm_3 hf_gm_3
            replace BK_gm := mvB BK_gm hB
            obtain ⟨hc_gm_0, hc_gm_1, hc_gm_2, hc_gm_3, hf_gm_0, hf_gm_1, hf_gm_2, hf_gm_3⟩ := cf4 BK_gm.out
            clear hc_go_0 hf_go_0 hc_go_1 hf_go_1 hc_go_2 hf_go_2 hc_go_3 hf_go_3
            replace BK_go := mvB BK_go hB
            obtain ⟨hc_go_0, hc_go_1, hc_go_2, hc_go_3, hf_go_0, hf_go_1, hf_go_2, hf_go_3⟩ := cf4 BK_go.out
            clear hc_gi_0 hf_gi_0 hc_gi_1 hf_gi_1 hc_gi_2 hf_gi_2 hc_gi_3 hf_gi_3
            replace BK_gi := mvB BK_gi hB
            obtain ⟨hc_gi_0, hc_gi_1, hc_gi_2, hc_gi_3, hf_gi_0, hf_gi_1, hf_gi_2, hf_gi_3⟩ := cf4 BK_gi.out
            replace HV_x := mvV HV_x hB
            replace HV_b := mvV HV_b hB
            replace HV_a := mvV HV_a hB
            replace HV_n := mvV HV_n hB
            replace HV_un := mvV HV_un hB
            replace HV_bo := mvV HV_bo hB
            replace HV_s := mvV HV_s hB
            replace HV_q := mvV HV_q hB
            have HWV := Aside0.mk hB.size
            clear hB
            refine inv_at [0, 1, 2, 3, 4, 5, 6, 7, 8, 9, 10, 11, 12, 13, 14] (fun a0_ b_ a w' => ∃ (v106 v109 v113 v114 v115 : Value), a = putSel a0_ b_ [(0, 102, .pointer (some ⟨gi, 0, none⟩)), (1, 103, .slice A_s sa.length c_s), (2, 104, .pointer (some ⟨gi, 2, none⟩)), (3, 105, .int .i64 (min lf t.f1)), (4, 106, v106), (5, 107, .pointer (some ⟨gi, 3, none⟩)), (6, 108, .slice A_q qa.length c_q), (7, 109, v109), (8, 110, .pointer (some ⟨gm, 0, none⟩)), (9, 111, .int .u32 g), (10, 112, .agg #[.int .u32 g, .slice none 0 0]), (11, 113, v113), (12, 114, v114), (13, 115, v115)] ∧ (b_ 14 = false → Below wzd.heap.size wzd w') ∧ (b_ 4 = true → b_ 7 = false → Kd.N k46 46 w' wzd.heap.size (okH P w go) v106 []) ∧ (b_ 7 = true → b_ 12 = false → Kd.N k46 46 w' wzd.heap.size (okH P w go) v109 qa) ∧ (b_ 11 = true → b_ 12 = false → Kd.V k46 46 w' 0 (fun k => okH P w go k ∧ (b_ 4 = true → b_ 7 = false → some k ≠ v106.ownBlock) ∧ (b_ 7 = true → some k ≠ v109.ownBlock)) v113 [(⟨g, []⟩ : S46)]) ∧ (b_ 12 = true → Kd.V k46 46 w' 0 (okH P w go) v114 (qa ++ [(⟨g, []⟩ : S46)])) ∧ (b_ 13 = true → v115 = .agg #[.slice A_s sa.length c_s, .bool true, .int .i64 (min lf t.f1), v114]) ∧ (b_ 14 = true → w'.heap[go]? = some (.cells #[.slice A_s sa.length c_s, .bool true, .int .i64 (min lf t.f1), v114] 76 (0, 0)) ∧ Below w.heap.size w w' ∧ Kd.V k49 49 w' 0 (okH P w go) (.slice A_s sa.length c_s) sa)) HT_.out HW_.out (by kernel_rfl) (by kernel_rfl) ?_ ?_ ?_
            · exact ⟨.bool false, .bool false, .bool false, .bool false, .bool false, by simp only [putSel, Bool.false_eq_true, if_false], fun _ => Below.refl _ _, fun h => absurd h (by decide), fun h => absurd h (by decide), fun h => absurd h (by decide), fun h => absurd h (by decide), fun h => absurd h (by decide), fun h => absurd h (by decide)⟩
            · skip
              refine steps_cons ?_ ?_
              · rintro b_ a w' ⟨v106, v109, v113, v114, v115, ha, QB0, Q4, Q7, Q11, Q12, Q13, Q14⟩ hb_ hon hoff
                refine ⟨_, rfl, fun K hK => ?_⟩
                have e12 : a.tmps[12]? = some (.pointer (some ⟨gi, 0, none⟩)) := by rw [ha]; exact (putSel_off rfl).trans rfl
                replace ha := Aside0.mk ha
                refine value_ (w1 := w') (v := .pointer (some ⟨gi, 0, none⟩)) (by rfl) rfl ?_ ?_
                · go_simp
                  try rfl
                exact hK.out _ _ ⟨v106, v109, v113, v114, v115, (by rw [ha.out]; exact putSel_upk 0 hb_ rfl rfl rfl), QB0, Q4, Q7, Q11, Q12, Q13, Q14⟩
              refine steps_cons ?_ ?_
              · rintro b_ a w' ⟨v106, v109, v113, v114, v115, ha, QB0, Q4, Q7, Q11, Q12, Q13, Q14⟩ hb_ hon hoff
                refine ⟨_, rfl, fun K hK => ?_⟩
                have e102 : a.tmps[102]? = some (.pointer (some ⟨gi, 0, none⟩)) := by rw [ha]; exact putSel_on (e := (0, 102, .pointer (some ⟨gi, 0, none⟩))) 0 rfl rfl (hon 0 (by kernel_rfl)) rfl
                replace ha := Aside0.mk ha
                have QB := QB0 (hoff 14 (by kernel_rfl))
                have hd0 : w'.cell? ⟨gi, 0, none⟩ = some (.slice A_s sa.length c_s) := (blk_cell (blk_below (g := gi) (o := .cells #[.slice A_s sa.length c_s, .bool true, .int .i64 ((min lf t.f1)), .slice A_q qa.length c_q] 76 (0, 0)) BK_gi.out QB) 0).trans rfl
                refine value_ (w1 := w') (v := .slice A_s sa.length c_s) (by rfl) rfl ?_ ?_
                · go_simp
                  try rfl
                exact hK.out _ _ ⟨v106, v109, v113, v114, v115, (by rw [ha.out]; exact putSel_upk 1 hb_ rfl rfl rfl), QB0, Q4, Q7, Q11, Q12, Q13, Q14⟩
              refine steps_cons ?_ ?_
              · rintro b_ a w' ⟨v106, v109, v113, v114, v115, ha, QB0, Q4, Q7, Q11, Q12, Q13, Q14⟩ hb_ hon hoff
                refine ⟨_, rfl, fun K hK => ?_⟩
                have e12 : a.tmps[12]? = some (.pointer (some ⟨gi, 0, none⟩)) := by rw [ha]; exact (putSel_off rfl).trans rfl
                replace ha := Aside0.mk ha
                refine value_ (w1 := w') (v := .pointer (some ⟨gi, 2, none⟩)) (by rfl) rfl ?_ ?_
                · go_simp
                  try rfl
                exact hK.out _ _ ⟨v106, v109, v113, v114, v115, (by rw [ha.out]; exact putSel_upk 2 hb_ rfl rfl rfl), QB0, Q4, Q7, Q11, Q12, Q13, Q14⟩
              refine steps_cons ?_ ?_
              · rintro b_ a w' ⟨v106, v109, v113, v114, v115, ha, QB0, Q4, Q7, Q11, Q12, Q13, Q14⟩ hb_ hon hoff
                refine ⟨_, rfl, fun K hK => ?_⟩
                have e104 : a.tmps[104]? = some (.pointer (some ⟨gi, 2, none⟩)) := by rw [ha]; exact putSel_on (e := (2, 104, .pointer (some ⟨gi, 2, none⟩))) 2 rfl rfl (hon 2 (by kernel_rfl)) rfl
                replace ha := Aside0.mk ha
                have QB := QB0 (hoff 14 (by kernel_rfl))
                have hd0 : w'.cell? ⟨gi, 2, none⟩ = some (.int .i64 ((min lf t.f1))) := (blk_cell (blk_below (g := gi) (o := .cells #[.slice A_s sa.length c_s, .bool true, .int .i64 ((min lf t.f1)), .slice A_q qa.length c_q] 76 (0, 0)) BK_gi.out QB) 2).trans rfl
                refine value_ (w1 := w') (v := .int .i64 (min lf t.f1)) (by rfl) rfl ?_ ?_
                · go_simp
                  try rfl
                exact hK.out _ _ ⟨v106, v109, v113, v114, v115, (by rw [ha.out]; exact putSel_upk 3 hb_ rfl rfl rfl), QB0, Q4, Q7, Q11, Q12, Q13, Q14⟩
              refine steps_cons ?_ ?_
              · rintro b_ a w' ⟨v106, v109, v113, v114, v115, ha, QB0, Q4, Q7, Q11, Q12, Q13, Q14⟩ hb_ hon hoff
                refine ⟨_, rfl, fun K hK => ?_⟩
                replace ha := Aside0.mk ha
                have QB := QB0 (hoff 14 (by kernel_rfl))
                refine Kd.N_lit_step k46 _ 46 ?hg (N' := 106) ?hd (xs := ([] : List S46)) (inner := []) (ok := okH P w go) (okp := fun _ => False) ?hr ?hp (fun _ hk => hk.elim) (okH_new (Nat.le_trans HB.out.size QB.size) (Nat.lt_of_lt_of_le (blk_lt BK_go.out) QB.size) (Nat.le_refl _)) (Below.refl _ _) (Nat.le_refl _) (by simp) ?_; (case hd => rfl); (case hg => rfl); (case hr => first | (go_simp; done) | (go_simp; rfl)); (case hp => exact Reps.none _ _)
                intro u w1 hN hb hg hat
                exact hK.out _ _ ⟨u, v109, v113, v114, v115, (by rw [ha.out]; exact putSel_upk 4 hb_ rfl rfl rfl), fun _ => QB.trans (hb.mono QB.size), fun _ _ => Kd.N_lower hN QB.size, fun h _ => absurd ((hoff 7 (by kernel_rfl)).symm.trans h) (by decide), fun h11 h12 => Kd.V_mono (Kd.V_below (Kd.V_bound (Q11 h11 h12)) hb) (fun k hk => ⟨hk.1.1, fun _ _ e => by have := Kd.N_base hN k e.symm; have := hk.2; omega, fun h => absurd ((hoff 7 (by kernel_rfl)).symm.trans h) (by decide)⟩), fun h => absurd ((hoff 12 (by kernel_rfl)).symm.trans h) (by decide), fun h => absurd ((hoff 13 (by kernel_rfl)).symm.trans h) (by decide), fun h => absurd ((hoff 14 (by kernel_rfl)).symm.trans h) (by decide)⟩
              refine steps_cons ?_ ?_
              · rintro b_ a w' ⟨v106, v109, v113, v114, v115, ha, QB0, Q4, Q7, Q11, Q12, Q13, Q14⟩ hb_ hon hoff
                refine ⟨_, rfl, fun K hK => ?_⟩
                have e12 : a.tmps[12]? = some (.pointer (some ⟨gi, 0, none⟩)) := by rw [ha]; exact (putSel_off rfl).trans rfl
                replace ha := Aside0.mk ha
                refine value_ (w1 := w') (v := .pointer (some ⟨gi, 3, none⟩)) (by rfl) rfl ?_ ?_
                · go_simp
                  try rfl
                exact hK.out _ _ ⟨v106, v109, v113, v114, v115, (by rw [ha.out]; exact putSel_upk 5 hb_ rfl rfl rfl), QB0, Q4, Q7, Q11, Q12, Q13, Q14⟩
              refine steps_cons ?_ ?_
              · rintro b_ a w' ⟨v106, v109, v113, v114, v115, ha, QB0, Q4, Q7, Q11, Q12, Q13, Q14⟩ hb_ hon hoff
                refine ⟨_, rfl, fun K hK => ?_⟩
                have e107 : a.tmps[107]? = some (.pointer (some ⟨gi, 3, none⟩)) := by rw [ha]; exact putSel_on (e := (5, 107, .pointer (some ⟨gi, 3, none⟩))) 5 rfl rfl (hon 5 (by kernel_rfl)) rfl
                replace ha := Aside0.mk ha
                have QB := QB0 (hoff 14 (by kernel_rfl))
                have hd0 : w'.cell? ⟨gi, 3, none⟩ = some (.slice A_q qa.length c_q) := (blk_cell (blk_below (g := gi) (o := .cells #[.slice A_s sa.length c_s, .bool true, .int .i64 ((min lf t.f1)), .slice A_q qa.length c_q] 76 (0, 0)) BK_gi.out QB) 3).trans rfl
                refine value_ (w1 := w') (v := .slice A_q qa.length c_q) (by rfl) rfl ?_ ?_
                · go_simp
                  try rfl
                exact hK.out _ _ ⟨v106, v109, v113, v114, v115, (by rw [ha.out]; exact putSel_upk 6 hb_ rfl rfl rfl), QB0, Q4, Q7, Q11, Q12, Q13, Q14⟩
              refine steps_cons ?_ ?_
              · rintro b_ a w' ⟨v106, v109, v113, v114, v115, ha, QB0, Q4, Q7, Q11, Q12, Q13, Q14⟩ hb_ hon hoff
                refine ⟨_, rfl, fun K hK => ?_⟩
                have e106 : a.tmps[106]? = some (v106) := by rw [ha]; exact putSel_on (e := (4, 106, v106)) 4 rfl rfl (hon 4 (by kernel_rfl)) rfl
                have e108 : a.tmps[108]? = some (.slice A_q qa.length c_q) := by rw [ha]; exact putSel_on (e := (6, 108, .slice A_q qa.length c_q)) 6 rfl rfl (hon 6 (by kernel_rfl)) rfl
                replace ha := Aside0.mk ha
                have QB := QB0 (hoff 14 (by kernel_rfl))
                have N4 := Q4 (hon 4 (by kernel_rfl)) hb_
                have ap : ∀ (v u : Value), (u.ownBlock = v.ownBlock ∨ ∃ b, u.ownBlock = some b ∧ w'.heap.size ≤ b) → ∀ k, k < w'.heap.size → some k ≠ v.ownBlock → some k ≠ u.ownBlock := fun v u hat k hk hne e => by
                  rcases hat with hat | ⟨b1, hb1, hle⟩
                  · exact hne (e.trans hat)
                  · rw [hb1] at e; injection e with e; omega
                refine Kd.N_append_rows_step k46 (w0 := wzd) wzd.heap.size (by rfl) (.tmp 106) (.tmp 108) 35 46 (.agg #[.int .u32 0, .slice none 0 0]) 32 rfl Try.underlying35 info46_ rfl (by decide) (by decide) v106 [] qa A_q qa.length c_q (okH P w go) (fun k => okH P w go k ∧ k < wzd.heap.size) (by simp only [Act.eval, Array.getD_eq_getD_getElem?, e106, Option.getD_some]) (by simp only [Act.eval, Array.getD_eq_getD_getElem?, e108, Option.getD_some]) N4 (Kd.F_mono (Kd.V_F (Kd.V_below HV_q.out QB)) (fun k hk => ⟨hk.1, by have h1 := hk.2; have h2 := HWV.out; omega⟩)) (fun k hk => ⟨hk.1, fun e => by have h1 := Kd.N_base N4 k e.symm; have h2 := hk.2; omega⟩) (fun k hk => okH_new (Nat.le_trans HB.out.size QB.size) (Nat.lt_of_lt_of_le (blk_lt BK_go.out) QB.size) hk) QB QB.size (by have := XQL.out; simp only [List.length_nil]; omega) ?_
                intro u w1 hN hB hg hat
                rw [List.nil_append] at hN
                exact hK.out _ _ ⟨v106, u, v113, v114, v115, (by rw [ha.out]; exact putSel_upk 7 hb_ rfl rfl rfl), fun _ => hB, fun _ h => absurd ((up_self b_ 7).symm.trans h) (by decide), fun _ _ => hN, fun h11 h12 => Kd.V_mono (Kd.V_grown (Kd.V_bound (Kd.V_mono (Q11 h11 h12) (fun k hk => (⟨hk.1, hk.2.1 (hon 4 (by kernel_rfl)) hb_⟩ : _ ∧ some k ≠ v106.ownBlock)))) hg (fun k hk => hk.1.2)) (fun k hk => ⟨hk.1.1, fun _ h => absurd ((up_self b_ 7).symm.trans h) (by decide), fun _ => ap _ _ hat k hk.2 hk.1.2⟩), fun h => absurd ((hoff 12 (by kernel_rfl)).symm.trans h) (by decide), fun h => absurd ((hoff 13 (by kernel_rfl)).symm.trans h) (by decide), fun h => absurd ((hoff 14 (by kernel_rfl)).symm.trans h) (by decide)⟩
              refine steps_cons ?_ ?_
              · rintro b_ a w' ⟨v106, v109, v113, v114, v115, ha, QB0, Q4, Q7, Q11, Q12, Q13, Q14⟩ hb_ hon hoff
                refine ⟨_, rfl, fun K hK => ?_⟩
                have e5 : a.tmps[5]? = some (.pointer (some ⟨gm, 0, none⟩)) := by rw [ha]; exact (putSel_off rfl).trans rfl
                replace ha := Aside0.mk ha
                refine value_ (w1 := w') (v := .pointer (some ⟨gm, 0, none⟩)) (by rfl) rfl ?_ ?_
                · go_simp
                  try rfl
                exact hK.out _ _ ⟨v106, v109, v113, v114, v115, (by rw [ha.out]; exact putSel_upk 8 hb_ rfl rfl rfl), QB0, Q4, Q7, Q11, Q12, Q13, Q14⟩
              refine steps_cons ?_ ?_
              · rintro b_ a w' ⟨v106, v109, v113, v114, v115, ha, QB0, Q4, Q7, Q11, Q12, Q13, Q14⟩ hb_ hon hoff
                refine ⟨_, rfl, fun K hK => ?_⟩
                have e110 : a.tmps[110]? = some (.pointer (some ⟨gm, 0, none⟩)) := by rw [ha]; exact putSel_on (e := (8, 110, .pointer (some ⟨gm, 0, none⟩))) 8 rfl rfl (hon 8 (by kernel_rfl)) rfl
                replace ha := Aside0.mk ha
                have QB := QB0 (hoff 14 (by kernel_rfl))
                have hd0 : w'.cell? ⟨gm, 0, none⟩ = some (.int .u32 g) := (blk_cell (blk_below (g := gm) (o := .cells #[.int .u32 g, .bool ex, .int .i64 lf, .slice A_x sr.length c_x] 28 (0, 0)) BK_gm.out QB) 0).trans rfl
                refine value_ (w1 := w') (v := .int .u32 g) (by rfl) rfl ?_ ?_
                · go_simp
                  try rfl
                exact hK.out _ _ ⟨v106, v109, v113, v114, v115, (by rw [ha.out]; exact putSel_upk 9 hb_ rfl rfl rfl), QB0, Q4, Q7, Q11, Q12, Q13, Q14⟩
              refine steps_cons ?_ ?_
              · rintro b_ a w' ⟨v106, v109, v113, v114, v115, ha, QB0, Q4, Q7, Q11, Q12, Q13, Q14⟩ hb_ hon hoff
                refine ⟨_, rfl, fun K hK => ?_⟩
                have e111 : a.tmps[111]? = some (.int .u32 g) := by rw [ha]; exact putSel_on (e := (9, 111, .int .u32 g)) 9 rfl rfl (hon 9 (by kernel_rfl)) rfl
                replace ha := Aside0.mk ha
                refine value_ (w1 := w') (v := .agg #[.int .u32 g, .slice none 0 0]) (by rfl) rfl ?_ ?_
                · go_simp
                  try rfl
                exact hK.out _ _ ⟨v106, v109, v113, v114, v115, (by rw [ha.out]; exact putSel_upk 10 hb_ rfl rfl rfl), QB0, Q4, Q7, Q11, Q12, Q13, Q14⟩
              refine steps_cons ?_ ?_
              · rintro b_ a w' ⟨v106, v109, v113, v114, v115, ha, QB0, Q4, Q7, Q11, Q12, Q13, Q14⟩ hb_ hon hoff
                refine ⟨_, rfl, fun K hK => ?_⟩
                have e112 : a.tmps[112]? = some (.agg #[.int .u32 g, .slice none 0 0]) := by rw [ha]; exact putSel_on (e := (10, 112, .agg #[.int .u32 g, .slice none 0 0])) 10 rfl rfl (hon 10 (by kernel_rfl)) rfl
                replace ha := Aside0.mk ha
                have QB := QB0 (hoff 14 (by kernel_rfl))
                refine Kd.N_lit_step k46 _ 46 ?hg (N' := 113) ?hd (xs := [(⟨g, []⟩ : S46)]) (inner := [.int .u32 g, .slice none 0 0]) (ok := fun k => w'.heap.size ≤ k) (okp := fun _ => False) ?hr ?hp (fun _ hk => hk.elim) (Nat.le_refl _) (Below.refl _ _) (Nat.le_refl _) (by simp) ?_; (case hd => rfl); (case hg => rfl); (case hr => first | (go_simp; done) | (go_simp; rfl)); (case hp => exact Reps.c2 (show Kd.FK k46 _ _ _ _ from k46_mkF _ _ (⟨g, []⟩ : S46) (c1 := 0) (Nat.le_refl _) (Kd.F_nil _ _ _)) (Reps.none _ _))
                intro u w1 hN hb hg hat
                exact hK.out _ _ ⟨v106, v109, u, v114, v115, (by rw [ha.out]; exact putSel_upk 11 hb_ rfl rfl rfl), fun _ => QB.trans (hb.mono QB.size), fun h5 h8 => Kd.N_below (Q4 h5 h8) hb, fun h8 h13 => Kd.N_below (Q7 h8 h13) hb, fun _ h13 => Kd.V_mono (Kd.N_V hN) (fun k hk => ⟨okH_new (Nat.le_trans HB.out.size QB.size) (Nat.lt_of_lt_of_le (blk_lt BK_go.out) QB.size) hk, fun h5 h8 e => by have h2 := Kd.N_lt (Q4 h5 h8) k e.symm; have h3 : w'.heap.size ≤ k := hk; omega, fun h8 e => by have h2 := Kd.N_lt (Q7 h8 h13) k e.symm; have h3 : w'.heap.size ≤ k := hk; omega⟩), fun h => absurd ((hoff 12 (by kernel_rfl)).symm.trans h) (by decide), fun h => absurd ((hoff 13 (by kernel_rfl)).symm.trans h) (by decide), fun h => absurd ((hoff 14 (by kernel_rfl)).symm.trans h) (by decide)⟩
              refine steps_cons ?_ ?_
              · rintro b_ a w' ⟨v106, v109, v113, v114, v115, ha, QB0, Q4, Q7, Q11, Q12, Q13, Q14⟩ hb_ hon hoff
                refine ⟨_, rfl, fun K hK => ?_⟩
                have e109 : a.tmps[109]? = some (v109) := by rw [ha]; exact putSel_on (e := (7, 109, v109)) 7 rfl rfl (hon 7 (by kernel_rfl)) rfl
                have e113 : a.tmps[113]? = some (v113) := by rw [ha]; exact putSel_on (e := (11, 113, v113)) 11 rfl rfl (hon 11 (by kernel_rfl)) rfl
                replace ha := Aside0.mk ha
                have QB := QB0 (hoff 14 (by kernel_rfl))
                have N7 := Q7 (hon 7 (by kernel_rfl)) hb_
                have V11 := Q11 (hon 11 (by kernel_rfl)) hb_
                obtain ⟨Aq, cq, hq⟩ := Kd.V_slice V11
                rw [hq] at V11
                refine Kd.N_append_rows_step k46 (w0 := wzd) wzd.heap.size (by rfl) (.tmp 109) (.tmp 113) 35 46 (.agg #[.int .u32 0, .slice none 0 0]) 32 rfl Try.underlying35 info46_ rfl (by decide) (by decide) v109 qa [(⟨g, []⟩ : S46)] Aq [(⟨g, []⟩ : S46)].length cq (okH P w go) (fun k => okH P w go k ∧ some k ≠ v109.ownBlock) (by simp only [Act.eval, Array.getD_eq_getD_getElem?, e109, Option.getD_some]) (by simp only [Act.eval, Array.getD_eq_getD_getElem?, e113, Option.getD_some, hq]) N7 (Kd.F_mono (Kd.V_F V11) (fun k hk => ⟨hk.1, hk.2.2 (hon 7 (by kernel_rfl))⟩)) (fun k hk => hk) (fun k hk => okH_new (Nat.le_trans HB.out.size QB.size) (Nat.lt_of_lt_of_le (blk_lt BK_go.out) QB.size) hk) QB QB.size (by have := XQL.out; simp only [List.length_cons, List.length_nil]; omega) ?_
                intro u w1 hN hB hg hat
                exact hK.out _ _ ⟨v106, v109, v113, u, v115, (by rw [ha.out]; exact putSel_upk 12 hb_ rfl rfl rfl), fun _ => hB, fun _ h => absurd ((hon 7 (by kernel_rfl)).symm.trans h) (by decide), fun _ h => absurd ((up_self b_ 12).symm.trans h) (by decide), fun _ h => absurd ((up_self b_ 12).symm.trans h) (by decide), fun _ => Kd.N_V hN, fun h => absurd ((hoff 13 (by kernel_rfl)).symm.trans h) (by decide), fun h => absurd ((hoff 14 (by kernel_rfl)).symm.trans h) (by decide)⟩
              refine steps_cons ?_ ?_
              · rintro b_ a w' ⟨v106, v109, v113, v114, v115, ha, QB0, Q4, Q7, Q11, Q12, Q13, Q14⟩ hb_ hon hoff
                refine ⟨_, rfl, fun K hK => ?_⟩
                have e103 : a.tmps[103]? = some (.slice A_s sa.length c_s) := by rw [ha]; exact putSel_on (e := (1, 103, .slice A_s sa.length c_s)) 1 rfl rfl (hon 1 (by kernel_rfl)) rfl
                have e105 : a.tmps[105]? = some (.int .i64 (min lf t.f1)) := by rw [ha]; exact putSel_on (e := (3, 105, .int .i64 (min lf t.f1))) 3 rfl rfl (hon 3 (by kernel_rfl)) rfl
                have e114 : a.tmps[114]? = some (v114) := by rw [ha]; exact putSel_on (e := (12, 114, v114)) 12 rfl rfl (hon 12 (by kernel_rfl)) rfl
                replace ha := Aside0.mk ha
                obtain ⟨Aq, cq, hq⟩ := Kd.V_slice (Q12 (hon 12 (by kernel_rfl)))
                rw [hq] at e114
                refine value_ (w1 := w') (v := .agg #[.slice A_s sa.length c_s, .bool true, .int .i64 (min lf t.f1), .slice Aq (qa ++ [(⟨g, []⟩ : S46)]).length cq]) (by rfl) rfl ?_ ?_
                · go_simp
                  try rfl
                exact hK.out _ _ ⟨v106, v109, v113, v114, _, (by rw [ha.out]; exact putSel_upk 13 hb_ rfl rfl rfl), QB0, Q4, Q7, Q11, Q12, fun _ => by rw [hq], fun h => absurd ((hoff 14 (by kernel_rfl)).symm.trans h) (by decide)⟩
              refine steps_cons ?_ ?_
              · rintro b_ a w' ⟨v106, v109, v113, v114, v115, ha, QB0, Q4, Q7, Q11, Q12, Q13, Q14⟩ hb_ hon hoff
                refine ⟨_, rfl, fun K hK => ?_⟩
                have e8 : a.tmps[8]? = some (.pointer (some ⟨go, 0, none⟩)) := by rw [ha]; exact (putSel_off rfl).trans rfl
                have e115 : a.tmps[115]? = some (v115) := by rw [ha]; exact putSel_on (e := (13, 115, v115)) 13 rfl rfl (hon 13 (by kernel_rfl)) rfl
                replace ha := Aside0.mk ha
                have QB := QB0 hb_
                have V12 := Q12 (hon 12 (by kernel_rfl))
                obtain ⟨Aq, cq, rfl⟩ := Kd.V_slice V12
                rw [Q13 (hon 13 (by kernel_rfl))] at e115
                have hd0 : w'.cell? ⟨go, 0, none⟩ = some (.slice none 0 0) := (blk_cell (blk_below (g := go) (o := .cells #[.slice none 0 0, .bool false, .int .i64 0, .slice none 0 0] 76 (0, 0)) BK_go.out QB) 0).trans rfl
                have hf0 := blk_frozen (blk_below (g := go) (o := .cells #[.slice none 0 0, .bool false, .int .i64 0, .slice none 0 0] 76 (0, 0)) BK_go.out QB) 0
                have hd1 : w'.cell? ⟨go, 1, none⟩ = some (.bool false) := (blk_cell (blk_below (g := go) (o := .cells #[.slice none 0 0, .bool false, .int .i64 0, .slice none 0 0] 76 (0, 0)) BK_go.out QB) 1).trans rfl
                have hf1 := blk_frozen (blk_below (g := go) (o := .cells #[.slice none 0 0, .bool false, .int .i64 0, .slice none 0 0] 76 (0, 0)) BK_go.out QB) 1
                have hd2 : w'.cell? ⟨go, 2, none⟩ = some (.int .i64 0) := (blk_cell (blk_below (g := go) (o := .cells #[.slice none 0 0, .bool false, .int .i64 0, .slice none 0 0] 76 (0, 0)) BK_go.out QB) 2).trans rfl
                have hf2 := blk_frozen (blk_below (g := go) (o := .cells #[.slice none 0 0, .bool false, .int .i64 0, .slice none 0 0] 76 (0, 0)) BK_go.out QB) 2
                have hd3 : w'.cell? ⟨go, 3, none⟩ = some (.slice none 0 0) := (blk_cell (blk_below (g := go) (o := .cells #[.slice none 0 0, .bool false, .int .i64 0, .slice none 0 0] 76 (0, 0)) BK_go.out QB) 3).trans rfl
                have hf3 := blk_frozen (blk_below (g := go) (o := .cells #[.slice none 0 0, .bool false, .int .i64 0, .slice none 0 0] 76 (0, 0)) BK_go.out QB) 3
                refine stores_step (w1 := ((((w'.setCell ⟨go, 0, none⟩ (.slice A_s sa.length c_s)).setCell ⟨go, 1, none⟩ (.bool true)).setCell ⟨go, 2, none⟩ (.int .i64 (min lf t.f1))).setCell ⟨go, 3, none⟩ (.slice Aq (qa ++ [(⟨g, []⟩ : S46)]).length cq))) (by rfl) rfl ?_ ?_
                · go_simp
                  try rfl
                exact hK.out _ _ ⟨v106, v109, v113, .slice Aq (qa ++ [(⟨g, []⟩ : S46)]).length cq, v115, (by rw [ha.out]; exact (putSel_same rfl).symm), fun h => absurd ((up_self b_ 14).symm.trans h) (by decide), fun _ h => absurd ((hon 7 (by kernel_rfl)).symm.trans h) (by decide), fun _ h => absurd ((hon 12 (by kernel_rfl)).symm.trans h) (by decide), fun _ h => absurd ((hon 12 (by kernel_rfl)).symm.trans h) (by decide), fun _ => (Kd.V_far (p := ⟨go, 3, none⟩) (Kd.V_far (p := ⟨go, 2, none⟩) (Kd.V_far (p := ⟨go, 1, none⟩) (Kd.V_far (p := ⟨go, 0, none⟩) V12 (fun k hk => hk.2) (.slice A_s sa.length c_s)) (fun k hk => hk.2) (.bool true)) (fun k hk => hk.2) (.int .i64 (min lf t.f1))) (fun k hk => hk.2) (.slice Aq (qa ++ [(⟨g, []⟩ : S46)]).length cq)), Q13, fun _ => ⟨(blk_put (cs := #[.slice A_s sa.length c_s, .bool true, .int .i64 (min lf t.f1), .slice none 0 0]) (blk_put (cs := #[.slice A_s sa.length c_s, .bool true, .int .i64 0, .slice none 0 0]) (blk_put (cs := #[.slice A_s sa.length c_s, .bool false, .int .i64 0, .slice none 0 0]) (blk_put (cs := #[.slice none 0 0, .bool false, .int .i64 0, .slice none 0 0]) (blk_below (g := go) (o := .cells #[.slice none 0 0, .bool false, .int .i64 0, .slice none 0 0] 76 (0, 0)) BK_go.out QB) 0 (.slice A_s sa.length c_s) rfl) 1 (.bool true) rfl) 2 (.int .i64 (min lf t.f1)) rfl) 3 (.slice Aq (qa ++ [(⟨g, []⟩ : S46)]).length cq) rfl), (below_set (below_set (below_set (below_set (HB.out.trans (QB.mono HB.out.size)) GO.out) GO.out) GO.out) GO.out), (Kd.V_far (p := ⟨go, 3, none⟩) (Kd.V_far (p := ⟨go, 2, none⟩) (Kd.V_far (p := ⟨go, 1, none⟩) (Kd.V_far (p := ⟨go, 0, none⟩) (Kd.V_below HV_s.out QB) (fun k hk => hk.2) (.slice A_s sa.length c_s)) (fun k hk => hk.2) (.bool true)) (fun k hk => hk.2) (.int .i64 (min lf t.f1))) (fun k hk => hk.2) (.slice Aq (qa ++ [(⟨g, []⟩ : S46)]).length cq))⟩⟩
              exact steps_nil
            rintro b_ a wy hall ⟨v106, v109, v113, v114, v115, ha, QB0, Q4, Q7, Q11, Q12, Q13, Q14⟩
            have hb0_ := hall 0 (by kernel_rfl)
            have hb1_ := hall 1 (by kernel_rfl)
            have hb2_ := hall 2 (by kernel_rfl)
            have hb3_ := hall 3 (by kernel_rfl)
            have hb4_ := hall 4 (by kernel_rfl)
            have hb5_ := hall 5 (by kernel_rfl)
            have hb6_ := hall 6 (by kernel_rfl)
            have hb7_ := hall 7 (by kernel_rfl)
            have hb8_ := hall 8 (by kernel_rfl)
            have hb9_ := hall 9 (by kernel_rfl)
            have hb10_ := hall 10 (by kernel_rfl)
            have hb11_ := hall 11 (by kernel_rfl)
            have hb12_ := hall 12 (by kernel_rfl)
            have hb13_ := hall 13 (by kernel_rfl)
            have hb14_ := hall 14 (by kernel_rfl)
            obtain ⟨q1, q2, q3⟩ := Q14 hb14_
            have V12 := Q12 hb12_
            subst ha
            simp only [putSel, hb0_, hb1_, hb2_, hb3_, hb4_, hb5_, hb6_, hb7_, hb8_, hb9_, hb10_, hb11_, hb12_, hb13_, if_true, Act.put, List.setIfInBounds_toArray, List.set_cons_zero, List.set_cons_succ]
            clear QB0 Q4 Q7 Q11 Q12 Q13 Q14 hall
            go_wp2
            refine bodyPost_ret (results_cell_row rfl _ _ go 76 #[.slice A_s sa.length c_s, .bool true, .int .i64 (min lf t.f1), v114] (0, 0) _ rfl q1 Try.underlying76 rfl (by kernel_rfl)) rfl ?_
            rw [show exceptR t g lf sr 3 b = ⟨sa, true, min lf t.f1, qa ++ [⟨g, []⟩]⟩ from by rw [← XSA.out, ← XQA.out, ← XIA.out, ← XHH.out, ← XBO.out, ← XUN.out, ← XXA.out, ← XNA.out]; rfl]
            exact ⟨_, _, rfl, Kd.V_mono q3 (fun k hk => okH_out hk), Kd.V_mono V12 (fun k hk => okH_out hk), q2⟩
end Go.Proofs.Ytbllchfgjginoaa
