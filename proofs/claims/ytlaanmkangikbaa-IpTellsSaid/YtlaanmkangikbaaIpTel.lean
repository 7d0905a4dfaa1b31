/-
  IpTells, walked.
-/
import Derived.Test.YtlaanmkangikbaaIpX
namespace Go.Proofs.Ytlaanmkangikbaa
open Go.RowKit Go.Proofs.YtlaanmkangikbaaW.PrintWords Go.Proofs.YtlaanmkangikbaaW.PrintLast Go.Proofs.YtlaanmkangikbaaW.PrintMore Go.Proofs.Ytlaanmkangikbaa.PIp
set_option linter.unusedVariables false
set_option linter.unusedSimpArgs false
set_option maxHeartbeats 8000000 in
set_option maxRecDepth 100000 in
theorem ipTells_long {s d p t i : Int} {al : Bool} {b f : List Int} (hl : 2000 < (b.length : Int) ∨ 2000 < (f.length : Int)) (A_b : Option Addr) (c_b : Nat) (A_f : Option Addr) (c_f : Nat) (w : World) (hr : Kd.C (Kd.int .u8) w A_b b.length b) (hc : b.length ≤ c_b) (hr2 : Kd.C (Kd.int .u8) w A_f f.length f) (hc2 : f.length ≤ c_f) :
    Calls Try.prog 7 #[.agg #[.int .u32 s, .int .u32 d, .int .u8 p, .int .u8 t, .int .u16 i, .bool al], .slice A_b b.length c_b, .slice A_f f.length c_f] w fun e w' => e = .returned (.bool true) ∧ Below w.heap.size w w' := by
  have hu26 := Try.underlying26
  have HB := Aside0.mk (Below.refl w.heap.size w)
  have HC_b := Aside0.mk hr
  have HK_b := Aside0.mk hc
  have HC_f := Aside0.mk hr2
  have HK_f := Aside0.mk hc2
  clear hr hc hr2 hc2
  have HL := Aside0.mk hl
  clear hl
  go_enter Try.func7, Try.ntmps7
  go_upto_region 2 with (first | ((with_reducible refine gate_dst (N := 3) rfl ?_); (try (refine gate_guard (by rfl) ?_; dsimp only)); refine box_event ?hg (N := 3) ?hd (cs := #[.int .u32 s, .int .u32 d, .int .u8 p, .int .u8 t, .int .u16 i, .bool al]) (t := 26) ?hr ?_; (case hd => rfl); (case hg => rfl); (case hr => first | (go_simp; done) | (go_simp; rfl)); intro gh hg w1_ hbox hB; have HBo := Aside0.mk HB.out; have nHB := Aside0.mk (HB.out.trans (hB.mono HB.out.size)); clear HB; have HB := nHB; clear nHB; have BK_gh := Aside0.mk hbox; have GE_gh := Aside0.mk (show w.heap.size ≤ gh by rw [hg]; exact HBo.out.size); clear hg hbox hB; obtain ⟨hc_gh_0, hf_gh_0, hc_gh_1, hf_gh_1, hc_gh_2, hf_gh_2, hc_gh_3, hf_gh_3, hc_gh_4, hf_gh_4, hc_gh_5, hf_gh_5⟩ := six BK_gh.out; clear HBo) | (go_at_call 9; with_reducible refine (shown_calls _).mono ?_; rintro e w2_ ⟨rfl, hB⟩; have nHB := Aside0.mk (HB.out.trans (hB.mono HB.out.size)); clear HB; have HB := nHB; clear nHB; clear hc_gh_0 hf_gh_0 hc_gh_1 hf_gh_1 hc_gh_2 hf_gh_2 hc_gh_3 hf_gh_3 hc_gh_4 hf_gh_4 hc_gh_5 hf_gh_5; have nBK := Aside0.mk (blk_below (g := gh) (o := .cells #[.int .u32 s, .int .u32 d, .int .u8 p, .int .u8 t, .int .u16 i, .bool al] 26 (0, 0)) BK_gh.out hB); clear BK_gh; have BK_gh := nBK; clear nBK; obtain ⟨hc_gh_0, hf_gh_0, hc_gh_1, hf_gh_1, hc_gh_2, hf_gh_2, hc_gh_3, hf_gh_3, hc_gh_4, hf_gh_4, hc_gh_5, hf_gh_5⟩ := six BK_gh.out; clear hB))
  by_cases c1 : 2000 < (b.length : Int)
  · go_wp2
    go_ret
    exact ⟨rfl, HB.out⟩
  have c2 : 2000 < (f.length : Int) := by have := HL.out; omega
  go_wp2
  go_ret
  exact ⟨rfl, HB.out⟩
set_option maxHeartbeats 8000000 in
set_option maxRecDepth 100000 in
theorem ipTells_main {s d p t i : Int} {al : Bool} (hok : HOk s d p t i) {b f : List Int} (hfb : Byt f) (hl : ¬ (2000 < (b.length : Int))) (hl2 : ¬ (2000 < (f.length : Int))) {x : List Int} {e0 : Int} (hx : enc s d p t i al b = (x, e0)) (hxl : x.length ≤ 1500) {ks kd kp kt ki : Int} {ka : Bool} {cc : List Int} {e1 : Int} (hd : dec f = (ks, kd, kp, kt, ki, ka, cc, e1)) (hcl : cc.length ≤ 1000000) {q : List Int} {e2 : Int} (hq : pass f = (q, e2)) (hql : q.length ≤ 1000000)  (A_b : Option Addr) (c_b : Nat) (A_f : Option Addr) (c_f : Nat) (w : World) (hr : Kd.C (Kd.int .u8) w A_b b.length b) (hc : b.length ≤ c_b) (hr2 : Kd.C (Kd.int .u8) w A_f f.length f) (hc2 : f.length ≤ c_f) :
    Calls Try.prog 7 #[.agg #[.int .u32 s, .int .u32 d, .int .u8 p, .int .u8 t, .int .u16 i, .bool al], .slice A_b b.length c_b, .slice A_f f.length c_f] w fun e w' => e = .returned (.bool true) ∧ Below w.heap.size w w' := by
  have hu26 := Try.underlying26
  have HB := Aside0.mk (Below.refl w.heap.size w)
  have HC_b := Aside0.mk hr
  have HK_b := Aside0.mk hc
  have HC_f := Aside0.mk hr2
  have HK_f := Aside0.mk hc2
  clear hr hc hr2 hc2
  have HBL := Aside0.mk (show b.length ≤ 140737488355328 by omega)
  have HBE := Aside0.mk (show b.length ≤ 1000000 by omega)
  have HFL := Aside0.mk (show f.length ≤ 1000000 by omega)
  have HFM := Aside0.mk (show f.length ≤ 3000 by omega)
  have HXE := Aside0.mk (show x.length ≤ 1000000 by omega)
  have HX := Aside0.mk hx
  have HXL := Aside0.mk hxl
  have HD := Aside0.mk hd
  have HCL := Aside0.mk hcl
  have HQ := Aside0.mk hq
  have HQL := Aside0.mk hql
  have HFB := Aside0.mk hfb
  clear hx hxl hd hcl hq hql hfb
  go_enter Try.func7, Try.ntmps7
  go_upto_region 6 with (first | ((with_reducible refine gate_dst (N := 3) rfl ?_); (try (refine gate_guard (by rfl) ?_; dsimp only)); refine box_event ?hg (N := 3) ?hd (cs := #[.int .u32 s, .int .u32 d, .int .u8 p, .int .u8 t, .int .u16 i, .bool al]) (t := 26) ?hr ?_; (case hd => rfl); (case hg => rfl); (case hr => first | (go_simp; done) | (go_simp; rfl)); intro gh hg w1_ hbox hB; have HBo := Aside0.mk HB.out; have nHB := Aside0.mk (HB.out.trans (hB.mono HB.out.size)); clear HB; have HB := nHB; clear nHB; have BK_gh := Aside0.mk hbox; have GE_gh := Aside0.mk (show w.heap.size ≤ gh by rw [hg]; exact HBo.out.size); clear hg hbox hB; obtain ⟨hc_gh_0, hf_gh_0, hc_gh_1, hf_gh_1, hc_gh_2, hf_gh_2, hc_gh_3, hf_gh_3, hc_gh_4, hf_gh_4, hc_gh_5, hf_gh_5⟩ := six BK_gh.out; clear HBo) | (go_at_call 9; with_reducible refine (shown_calls _).mono ?_; rintro e w2_ ⟨rfl, hB⟩; have nHB := Aside0.mk (HB.out.trans (hB.mono HB.out.size)); clear HB; have HB := nHB; clear nHB; clear hc_gh_0 hf_gh_0 hc_gh_1 hf_gh_1 hc_gh_2 hf_gh_2 hc_gh_3 hf_gh_3 hc_gh_4 hf_gh_4 hc_gh_5 hf_gh_5; have nBK := Aside0.mk (blk_below (g := gh) (o := .cells #[.int .u32 s, .int .u32 d, .int .u8 p, .int .u8 t, .int .u16 i, .bool al] 26 (0, 0)) BK_gh.out hB); clear BK_gh; have BK_gh := nBK; clear nBK; obtain ⟨hc_gh_0, hf_gh_0, hc_gh_1, hf_gh_1, hc_gh_2, hf_gh_2, hc_gh_3, hf_gh_3, hc_gh_4, hf_gh_4, hc_gh_5, hf_gh_5⟩ := six BK_gh.out; clear hB) | (go_at_call 10; with_reducible refine (encode_calls hok HBL.out HX.out _ _ _ (Kd.C_below HC_b.out HB.out) HK_b.out).mono ?_; rintro e w3_ ⟨v_x, rfl, hR, hB⟩; obtain ⟨A_x, c_x, rfl⟩ := Kd.R_slice hR; have hsz := HB.out.size; have nHB := Aside0.mk (HB.out.trans (hB.mono HB.out.size)); clear HB; have HB := nHB; clear nHB; clear hc_gh_0 hf_gh_0 hc_gh_1 hf_gh_1 hc_gh_2 hf_gh_2 hc_gh_3 hf_gh_3 hc_gh_4 hf_gh_4 hc_gh_5 hf_gh_5; have nBK := Aside0.mk (blk_below (g := gh) (o := .cells #[.int .u32 s, .int .u32 d, .int .u8 p, .int .u8 t, .int .u16 i, .bool al] 26 (0, 0)) BK_gh.out hB); clear BK_gh; have BK_gh := nBK; clear nBK; obtain ⟨hc_gh_0, hf_gh_0, hc_gh_1, hf_gh_1, hc_gh_2, hf_gh_2, hc_gh_3, hf_gh_3, hc_gh_4, hf_gh_4, hc_gh_5, hf_gh_5⟩ := six BK_gh.out; have HR_x := Aside0.mk (Kd.R_mono (Kd.R_lower hR hsz) (fun _ _ => trivial : ∀ k, _ → (fun _ => True) k)); clear hR hsz; clear hB) | (go_at_call 13; with_reducible refine (refenc_calls hok HBE.out HX.out _ _ _ (Kd.C_below HC_b.out HB.out) HK_b.out).mono ?_; rintro e w4_ ⟨v_y, rfl, hR, hB⟩; obtain ⟨A_y, c_y, rfl⟩ := Kd.R_slice hR; have hsz := HB.out.size; have nHB := Aside0.mk (HB.out.trans (hB.mono HB.out.size)); clear HB; have HB := nHB; clear nHB; clear hc_gh_0 hf_gh_0 hc_gh_1 hf_gh_1 hc_gh_2 hf_gh_2 hc_gh_3 hf_gh_3 hc_gh_4 hf_gh_4 hc_gh_5 hf_gh_5; have nBK := Aside0.mk (blk_below (g := gh) (o := .cells #[.int .u32 s, .int .u32 d, .int .u8 p, .int .u8 t, .int .u16 i, .bool al] 26 (0, 0)) BK_gh.out hB); clear BK_gh; have BK_gh := nBK; clear nBK; obtain ⟨hc_gh_0, hf_gh_0, hc_gh_1, hf_gh_1, hc_gh_2, hf_gh_2, hc_gh_3, hf_gh_3, hc_gh_4, hf_gh_4, hc_gh_5, hf_gh_5⟩ := six BK_gh.out; have nHC := Aside0.mk (Kd.R_below HR_x.out hB); clear HR_x; have HR_x := nHC; clear nHC; have HR_y := Aside0.mk (Kd.R_mono (Kd.R_lower hR hsz) (fun _ _ => trivial : ∀ k, _ → (fun _ => True) k)); clear hR hsz; clear hB))
  go_upto_region 7 with (first | (go_at_call 11; with_reducible refine (decode_calls HFB.out HFL.out HD.out _ _ _ (Kd.C_below HC_f.out HB.out) HK_f.out).mono ?_; rintro e w5_ ⟨v_u, rfl, hR, hB⟩; obtain ⟨A_u, c_u, rfl⟩ := Kd.R_slice hR; have hsz := HB.out.size; have nHB := Aside0.mk (HB.out.trans (hB.mono HB.out.size)); clear HB; have HB := nHB; clear nHB; clear hc_gh_0 hf_gh_0 hc_gh_1 hf_gh_1 hc_gh_2 hf_gh_2 hc_gh_3 hf_gh_3 hc_gh_4 hf_gh_4 hc_gh_5 hf_gh_5; have nBK := Aside0.mk (blk_below (g := gh) (o := .cells #[.int .u32 s, .int .u32 d, .int .u8 p, .int .u8 t, .int .u16 i, .bool al] 26 (0, 0)) BK_gh.out hB); clear BK_gh; have BK_gh := nBK; clear nBK; obtain ⟨hc_gh_0, hf_gh_0, hc_gh_1, hf_gh_1, hc_gh_2, hf_gh_2, hc_gh_3, hf_gh_3, hc_gh_4, hf_gh_4, hc_gh_5, hf_gh_5⟩ := six BK_gh.out; have nHC := Aside0.mk (Kd.R_below HR_x.out hB); clear HR_x; have HR_x := nHC; clear nHC; have nHC := Aside0.mk (Kd.R_below HR_y.out hB); clear HR_y; have HR_y := nHC; clear nHC; have HR_u := Aside0.mk (Kd.R_mono (Kd.R_lower hR hsz) (fun _ _ => trivial : ∀ k, _ → (fun _ => True) k)); clear hR hsz; clear hB) | ((with_reducible refine gate_dst (N := 12) rfl ?_); (try (refine gate_guard (by rfl) ?_; dsimp only)); refine box_event ?hg (N := 12) ?hd (cs := #[.int .u32 0, .int .u32 0, .int .u8 0, .int .u8 0, .int .u16 0, .bool false]) (t := 26) ?hr ?_; (case hd => rfl); (case hg => rfl); (case hr => first | (go_simp; done) | (go_simp; rfl)); intro gk hg w6_ hbox hB0; have hG := Aside0.mk (show w5_.heap.size ≤ gk from Nat.le_of_eq hg.symm); clear hg; have hBX := Aside0.mk hbox; have hB1 := Aside0.mk hB0; clear hB0; have hc_gk_0 : w6_.cell? ⟨gk, 0, none⟩ = some (.int .u32 0) := (blk_cell hbox 0).trans rfl; have hf_gk_0 := blk_frozen hbox 0; have hc_gk_1 : w6_.cell? ⟨gk, 1, none⟩ = some (.int .u32 0) := (blk_cell hbox 1).trans rfl; have hf_gk_1 := blk_frozen hbox 1; have hc_gk_2 : w6_.cell? ⟨gk, 2, none⟩ = some (.int .u8 0) := (blk_cell hbox 2).trans rfl; have hf_gk_2 := blk_frozen hbox 2; have hc_gk_3 : w6_.cell? ⟨gk, 3, none⟩ = some (.int .u8 0) := (blk_cell hbox 3).trans rfl; have hf_gk_3 := blk_frozen hbox 3; have hc_gk_4 : w6_.cell? ⟨gk, 4, none⟩ = some (.int .u16 0) := (blk_cell hbox 4).trans rfl; have hf_gk_4 := blk_frozen hbox 4; have hc_gk_5 : w6_.cell? ⟨gk, 5, none⟩ = some (.bool false) := (blk_cell hbox 5).trans rfl; have hf_gk_5 := blk_frozen hbox 5; clear hbox))
  have hB : Below w5_.heap.size w5_ ((((((w6_.setCell ⟨gk, 0, none⟩ (.int .u32 ks)).setCell ⟨gk, 1, none⟩ (.int .u32 kd)).setCell ⟨gk, 2, none⟩ (.int .u8 kp)).setCell ⟨gk, 3, none⟩ (.int .u8 kt)).setCell ⟨gk, 4, none⟩ (.int .u16 ki)).setCell ⟨gk, 5, none⟩ (.bool ka)) := (below_set (below_set (below_set (below_set (below_set (below_set hB1.out hG.out) hG.out) hG.out) hG.out) hG.out) hG.out)
  have hBN : ((((((w6_.setCell ⟨gk, 0, none⟩ (.int .u32 ks)).setCell ⟨gk, 1, none⟩ (.int .u32 kd)).setCell ⟨gk, 2, none⟩ (.int .u8 kp)).setCell ⟨gk, 3, none⟩ (.int .u8 kt)).setCell ⟨gk, 4, none⟩ (.int .u16 ki)).setCell ⟨gk, 5, none⟩ (.bool ka)).heap[gk]? = some (.cells #[.int .u32 ks, .int .u32 kd, .int .u8 kp, .int .u8 kt, .int .u16 ki, .bool ka] 26 (0, 0)) := (blk_put (cs := #[.int .u32 ks, .int .u32 kd, .int .u8 kp, .int .u8 kt, .int .u16 ki, .bool false]) (blk_put (cs := #[.int .u32 ks, .int .u32 kd, .int .u8 kp, .int .u8 kt, .int .u16 0, .bool false]) (blk_put (cs := #[.int .u32 ks, .int .u32 kd, .int .u8 kp, .int .u8 0, .int .u16 0, .bool false]) (blk_put (cs := #[.int .u32 ks, .int .u32 kd, .int .u8 0, .int .u8 0, .int .u16 0, .bool false]) (blk_put (cs := #[.int .u32 ks, .int .u32 0, .int .u8 0, .int .u8 0, .int .u16 0, .bool false]) (blk_put (cs := #[.int .u32 0, .int .u32 0, .int .u8 0, .int .u8 0, .int .u16 0, .bool false]) hBX.out 0 (.int .u32 ks) rfl) 1 (.int .u32 kd) rfl) 2 (.int .u8 kp) rfl) 3 (.int .u8 kt) rfl) 4 (.int .u16 ki) rfl) 5 (.bool ka) rfl)
  clear hBX hB1
  clear hc_gk_0 hf_gk_0 hc_gk_1 hf_gk_1 hc_gk_2 hf_gk_2 hc_gk_3 hf_gk_3 hc_gk_4 hf_gk_4 hc_gk_5 hf_gk_5
  generalize ((((((w6_.setCell ⟨gk, 0, none⟩ (.int .u32 ks)).setCell ⟨gk, 1, none⟩ (.int .u32 kd)).setCell ⟨gk, 2, none⟩ (.int .u8 kp)).setCell ⟨gk, 3, none⟩ (.int .u8 kt)).setCell ⟨gk, 4, none⟩ (.int .u16 ki)).setCell ⟨gk, 5, none⟩ (.bool ka)) = w7_ at hB hBN ⊢
  have NB_gk_gh := Aside0.mk (show gk ≠ gh from Nat.ne_of_gt (Nat.lt_of_lt_of_le (blk_lt (g := gh) (o := .cells #[.int .u32 s, .int .u32 d, .int .u8 p, .int .u8 t, .int .u16 i, .bool al] 26 (0, 0)) BK_gh.out) hG.out))
  have NB_gh_gk := Aside0.mk (Ne.symm NB_gk_gh.out)
  have HBo := Aside0.mk HB.out
  have nHB := Aside0.mk (HB.out.trans (hB.mono HB.out.size))
  clear HB
  have HB := nHB
  clear nHB
  clear hc_gh_0 hf_gh_0 hc_gh_1 hf_gh_1 hc_gh_2 hf_gh_2 hc_gh_3 hf_gh_3 hc_gh_4 hf_gh_4 hc_gh_5 hf_gh_5
  have nBK := Aside0.mk (blk_below (g := gh) (o := .cells #[.int .u32 s, .int .u32 d, .int .u8 p, .int .u8 t, .int .u16 i, .bool al] 26 (0, 0)) BK_gh.out hB)
  clear BK_gh
  have BK_gh := nBK
  clear nBK
  obtain ⟨hc_gh_0, hf_gh_0, hc_gh_1, hf_gh_1, hc_gh_2, hf_gh_2, hc_gh_3, hf_gh_3, hc_gh_4, hf_gh_4, hc_gh_5, hf_gh_5⟩ := six BK_gh.out
  have nHC := Aside0.mk (Kd.R_below HR_x.out hB)
  clear HR_x
  have HR_x := nHC
  clear nHC
  have nHC := Aside0.mk (Kd.R_below HR_y.out hB)
  clear HR_y
  have HR_y := nHC
  clear nHC
  have nHC := Aside0.mk (Kd.R_below HR_u.out hB)
  clear HR_u
  have HR_u := nHC
  clear nHC
  have BK_gk := Aside0.mk hBN
  have GE_gk := Aside0.mk (Nat.le_trans HBo.out.size hG.out)
  clear HBo hG hBN hB
  obtain ⟨hc_gk_0, hf_gk_0, hc_gk_1, hf_gk_1, hc_gk_2, hf_gk_2, hc_gk_3, hf_gk_3, hc_gk_4, hf_gk_4, hc_gk_5, hf_gk_5⟩ := six BK_gk.out
  go_upto_region 8 with (first | (go_at_call 14; with_reducible refine (refdec_calls HFB.out HFM.out HD.out _ _ _ (Kd.C_below HC_f.out HB.out) HK_f.out).mono ?_; rintro e w8_ ⟨v_v, rfl, hR, hB⟩; obtain ⟨A_v, c_v, rfl⟩ := Kd.R_slice hR; have hsz := HB.out.size; have nHB := Aside0.mk (HB.out.trans (hB.mono HB.out.size)); clear HB; have HB := nHB; clear nHB; clear hc_gh_0 hf_gh_0 hc_gh_1 hf_gh_1 hc_gh_2 hf_gh_2 hc_gh_3 hf_gh_3 hc_gh_4 hf_gh_4 hc_gh_5 hf_gh_5; have nBK := Aside0.mk (blk_below (g := gh) (o := .cells #[.int .u32 s, .int .u32 d, .int .u8 p, .int .u8 t, .int .u16 i, .bool al] 26 (0, 0)) BK_gh.out hB); clear BK_gh; have BK_gh := nBK; clear nBK; obtain ⟨hc_gh_0, hf_gh_0, hc_gh_1, hf_gh_1, hc_gh_2, hf_gh_2, hc_gh_3, hf_gh_3, hc_gh_4, hf_gh_4, hc_gh_5, hf_gh_5⟩ := six BK_gh.out; clear hc_gk_0 hf_gk_0 hc_gk_1 hf_gk_1 hc_gk_2 hf_gk_2 hc_gk_3 hf_gk_3 hc_gk_4 hf_gk_4 hc_gk_5 hf_gk_5; have nBK := Aside0.mk (blk_below (g := gk) (o := .cells #[.int .u32 ks, .int .u32 kd, .int .u8 kp, .int .u8 kt, .int .u16 ki, .bool ka] 26 (0, 0)) BK_gk.out hB); clear BK_gk; have BK_gk := nBK; clear nBK; obtain ⟨hc_gk_0, hf_gk_0, hc_gk_1, hf_gk_1, hc_gk_2, hf_gk_2, hc_gk_3, hf_gk_3, hc_gk_4, hf_gk_4, hc_gk_5, hf_gk_5⟩ := six BK_gk.out; have nHC := Aside0.mk (Kd.R_below HR_x.out hB); clear HR_x; have HR_x := nHC; clear nHC; have nHC := Aside0.mk (Kd.R_below HR_y.out hB); clear HR_y; have HR_y := nHC; clear nHC; have nHC := Aside0.mk (Kd.R_below HR_u.out hB); clear HR_u; have HR_u := nHC; clear nHC; have HR_v := Aside0.mk (Kd.R_mono (Kd.R_lower hR hsz) (fun _ _ => trivial : ∀ k, _ → (fun _ => True) k)); clear hR hsz; clear hB) | ((with_reducible refine gate_dst (N := 15) rfl ?_); (try (refine gate_guard (by rfl) ?_; dsimp only)); refine box_event ?hg (N := 15) ?hd (cs := #[.int .u32 0, .int .u32 0, .int .u8 0, .int .u8 0, .int .u16 0, .bool false]) (t := 26) ?hr ?_; (case hd => rfl); (case hg => rfl); (case hr => first | (go_simp; done) | (go_simp; rfl)); intro gm hg w9_ hbox hB0; have hG := Aside0.mk (show w8_.heap.size ≤ gm from Nat.le_of_eq hg.symm); clear hg; have hBX := Aside0.mk hbox; have hB1 := Aside0.mk hB0; clear hB0; have hc_gm_0 : w9_.cell? ⟨gm, 0, none⟩ = some (.int .u32 0) := (blk_cell hbox 0).trans rfl; have hf_gm_0 := blk_frozen hbox 0; have hc_gm_1 : w9_.cell? ⟨gm, 1, none⟩ = some (.int .u32 0) := (blk_cell hbox 1).trans rfl; have hf_gm_1 := blk_frozen hbox 1; have hc_gm_2 : w9_.cell? ⟨gm, 2, none⟩ = some (.int .u8 0) := (blk_cell hbox 2).trans rfl; have hf_gm_2 := blk_frozen hbox 2; have hc_gm_3 : w9_.cell? ⟨gm, 3, none⟩ = some (.int .u8 0) := (blk_cell hbox 3).trans rfl; have hf_gm_3 := blk_frozen hbox 3; have hc_gm_4 : w9_.cell? ⟨gm, 4, none⟩ = some (.int .u16 0) := (blk_cell hbox 4).trans rfl; have hf_gm_4 := blk_frozen hbox 4; have hc_gm_5 : w9_.cell? ⟨gm, 5, none⟩ = some (.bool false) := (blk_cell hbox 5).trans rfl; have hf_gm_5 := blk_frozen hbox 5; clear hbox))
  have hB : Below w8_.heap.size w8_ ((((((w9_.setCell ⟨gm, 0, none⟩ (.int .u32 ks)).setCell ⟨gm, 1, none⟩ (.int .u32 kd)).setCell ⟨gm, 2, none⟩ (.int .u8 kp)).setCell ⟨gm, 3, none⟩ (.int .u8 kt)).setCell ⟨gm, 4, none⟩ (.int .u16 ki)).setCell ⟨gm, 5, none⟩ (.bool ka)) := (below_set (below_set (below_set (below_set (below_set (below_set hB1.out hG.out) hG.out) hG.out) hG.out) hG.out) hG.out)
  have hBN : ((((((w9_.setCell ⟨gm, 0, none⟩ (.int .u32 ks)).setCell ⟨gm, 1, none⟩ (.int .u32 kd)).setCell ⟨gm, 2, none⟩ (.int .u8 kp)).setCell ⟨gm, 3, none⟩ (.int .u8 kt)).setCell ⟨gm, 4, none⟩ (.int .u16 ki)).setCell ⟨gm, 5, none⟩ (.bool ka)).heap[gm]? = some (.cells #[.int .u32 ks, .int .u32 kd, .int .u8 kp, .int .u8 kt, .int .u16 ki, .bool ka] 26 (0, 0)) := (blk_put (cs := #[.int .u32 ks, .int .u32 kd, .int .u8 kp, .int .u8 kt, .int .u16 ki, .bool false]) (blk_put (cs := #[.int .u32 ks, .int .u32 kd, .int .u8 kp, .int .u8 kt, .int .u16 0, .bool false]) (blk_put (cs := #[.int .u32 ks, .int .u32 kd, .int .u8 kp, .int .u8 0, .int .u16 0, .bool false]) (blk_put (cs := #[.int .u32 ks, .int .u32 kd, .int .u8 0, .int .u8 0, .int .u16 0, .bool false]) (blk_put (cs := #[.int .u32 ks, .int .u32 0, .int .u8 0, .int .u8 0, .int .u16 0, .bool false]) (blk_put (cs := #[.int .u32 0, .int .u32 0, .int .u8 0, .int .u8 0, .int .u16 0, .bool false]) hBX.out 0 (.int .u32 ks) rfl) 1 (.int .u32 kd) rfl) 2 (.int .u8 kp) rfl) 3 (.int .u8 kt) rfl) 4 (.int .u16 ki) rfl) 5 (.bool ka) rfl)
  clear hBX hB1
  clear hc_gm_0 hf_gm_0 hc_gm_1 hf_gm_1 hc_gm_2 hf_gm_2 hc_gm_3 hf_gm_3 hc_gm_4 hf_gm_4 hc_gm_5 hf_gm_5
  generalize ((((((w9_.setCell ⟨gm, 0, none⟩ (.int .u32 ks)).setCell ⟨gm, 1, none⟩ (.int .u32 kd)).setCell ⟨gm, 2, none⟩ (.int .u8 kp)).setCell ⟨gm, 3, none⟩ (.int .u8 kt)).setCell ⟨gm, 4, none⟩ (.int .u16 ki)).setCell ⟨gm, 5, none⟩ (.bool ka)) = w10_ at hB hBN ⊢
  have NB_gm_gh := Aside0.mk (show gm ≠ gh from Nat.ne_of_gt (Nat.lt_of_lt_of_le (blk_lt (g := gh) (o := .cells #[.int .u32 s, .int .u32 d, .int .u8 p, .int .u8 t, .int .u16 i, .bool al] 26 (0, 0)) BK_gh.out) hG.out))
  have NB_gh_gm := Aside0.mk (Ne.symm NB_gm_gh.out)
  have NB_gm_gk := Aside0.mk (show gm ≠ gk from Nat.ne_of_gt (Nat.lt_of_lt_of_le (blk_lt (g := gk) (o := .cells #[.int .u32 ks, .int .u32 kd, .int .u8 kp, .int .u8 kt, .int .u16 ki, .bool ka] 26 (0, 0)) BK_gk.out) hG.out))
  have NB_gk_gm := Aside0.mk (Ne.symm NB_gm_gk.out)
  have HBo := Aside0.mk HB.out
  have nHB := Aside0.mk (HB.out.trans (hB.mono HB.out.size))
  clear HB
  have HB := nHB
  clear nHB
  clear hc_gh_0 hf_gh_0 hc_gh_1 hf_gh_1 hc_gh_2 hf_gh_2 hc_gh_3 hf_gh_3 hc_gh_4 hf_gh_4 hc_gh_5 hf_gh_5
  have nBK := Aside0.mk (blk_below (g := gh) (o := .cells #[.int .u32 s, .int .u32 d, .int .u8 p, .int .u8 t, .int .u16 i, .bool al] 26 (0, 0)) BK_gh.out hB)
  clear BK_gh
  have BK_gh := nBK
  clear nBK
  obtain ⟨hc_gh_0, hf_gh_0, hc_gh_1, hf_gh_1, hc_gh_2, hf_gh_2, hc_gh_3, hf_gh_3, hc_gh_4, hf_gh_4, hc_gh_5, hf_gh_5⟩ := six BK_gh.out
  clear hc_gk_0 hf_gk_0 hc_gk_1 hf_gk_1 hc_gk_2 hf_gk_2 hc_gk_3 hf_gk_3 hc_gk_4 hf_gk_4 hc_gk_5 hf_gk_5
  have nBK := Aside0.mk (blk_below (g := gk) (o := .cells #[.int .u32 ks, .int .u32 kd, .int .u8 kp, .int .u8 kt, .int .u16 ki, .bool ka] 26 (0, 0)) BK_gk.out hB)
  clear BK_gk
  have BK_gk := nBK
  clear nBK
  obtain ⟨hc_gk_0, hf_gk_0, hc_gk_1, hf_gk_1, hc_gk_2, hf_gk_2, hc_gk_3, hf_gk_3, hc_gk_4, hf_gk_4, hc_gk_5, hf_gk_5⟩ := six BK_gk.out
  have nHC := Aside0.mk (Kd.R_below HR_x.out hB)
  clear HR_x
  have HR_x := nHC
  clear nHC
  have nHC := Aside0.mk (Kd.R_below HR_y.out hB)
  clear HR_y
  have HR_y := nHC
  clear nHC
  have nHC := Aside0.mk (Kd.R_below HR_u.out hB)
  clear HR_u
  have HR_u := nHC
  clear nHC
  have nHC := Aside0.mk (Kd.R_below HR_v.out hB)
  clear HR_v
  have HR_v := nHC
  clear nHC
  have BK_gm := Aside0.mk hBN
  have GE_gm := Aside0.mk (Nat.le_trans HBo.out.size hG.out)
  clear HBo hG hBN hB
  obtain ⟨hc_gm_0, hf_gm_0, hc_gm_1, hf_gm_1, hc_gm_2, hf_gm_2, hc_gm_3, hf_gm_3, hc_gm_4, hf_gm_4, hc_gm_5, hf_gm_5⟩ := six BK_gm.out
  go_upto_region 10 with (first | (go_at_call 15; with_reducible refine (passed_calls HFB.out HFL.out HQ.out _ _ _ (Kd.C_below HC_f.out HB.out) HK_f.out).mono ?_; rintro e w11_ ⟨v_q, rfl, hR, hB⟩; obtain ⟨A_q, c_q, rfl⟩ := Kd.R_slice hR; have hsz := HB.out.size; have nHB := Aside0.mk (HB.out.trans (hB.mono HB.out.size)); clear HB; have HB := nHB; clear nHB; clear hc_gh_0 hf_gh_0 hc_gh_1 hf_gh_1 hc_gh_2 hf_gh_2 hc_gh_3 hf_gh_3 hc_gh_4 hf_gh_4 hc_gh_5 hf_gh_5; have nBK := Aside0.mk (blk_below (g := gh) (o := .cells #[.int .u32 s, .int .u32 d, .int .u8 p, .int .u8 t, .int .u16 i, .bool al] 26 (0, 0)) BK_gh.out hB); clear BK_gh; have BK_gh := nBK; clear nBK; obtain ⟨hc_gh_0, hf_gh_0, hc_gh_1, hf_gh_1, hc_gh_2, hf_gh_2, hc_gh_3, hf_gh_3, hc_gh_4, hf_gh_4, hc_gh_5, hf_gh_5⟩ := six BK_gh.out; clear hc_gk_0 hf_gk_0 hc_gk_1 hf_gk_1 hc_gk_2 hf_gk_2 hc_gk_3 hf_gk_3 hc_gk_4 hf_gk_4 hc_gk_5 hf_gk_5; have nBK := Aside0.mk (blk_below (g := gk) (o := .cells #[.int .u32 ks, .int .u32 kd, .int .u8 kp, .int .u8 kt, .int .u16 ki, .bool ka] 26 (0, 0)) BK_gk.out hB); clear BK_gk; have BK_gk := nBK; clear nBK; obtain ⟨hc_gk_0, hf_gk_0, hc_gk_1, hf_gk_1, hc_gk_2, hf_gk_2, hc_gk_3, hf_gk_3, hc_gk_4, hf_gk_4, hc_gk_5, hf_gk_5⟩ := six BK_gk.out; clear hc_gm_0 hf_gm_0 hc_gm_1 hf_gm_1 hc_gm_2 hf_gm_2 hc_gm_3 hf_gm_3 hc_gm_4 hf_gm_4 hc_gm_5 hf_gm_5; have nBK := Aside0.mk (blk_below (g := gm) (o := .cells #[.int .u32 ks, .int .u32 kd, .int .u8 kp, .int .u8 kt, .int .u16 ki, .bool ka] 26 (0, 0)) BK_gm.out hB); clear BK_gm; have BK_gm := nBK; clear nBK; obtain ⟨hc_gm_0, hf_gm_0, hc_gm_1, hf_gm_1, hc_gm_2, hf_gm_2, hc_gm_3, hf_gm_3, hc_gm_4, hf_gm_4, hc_gm_5, hf_gm_5⟩ := six BK_gm.out; have nHC := Aside0.mk (Kd.R_below HR_x.out hB); clear HR_x; have HR_x := nHC; clear nHC; have nHC := Aside0.mk (Kd.R_below HR_y.out hB); clear HR_y; have HR_y := nHC; clear nHC; have nHC := Aside0.mk (Kd.R_below HR_u.out hB); clear HR_u; have HR_u := nHC; clear nHC; have nHC := Aside0.mk (Kd.R_below HR_v.out hB); clear HR_v; have HR_v := nHC; clear nHC; have HR_q := Aside0.mk (Kd.R_mono (Kd.R_lower hR hsz) (fun _ _ => trivial : ∀ k, _ → (fun _ => True) k)); clear hR hsz; clear hB) | (go_at_call 16; with_reducible refine (refpass_calls HFB.out HFM.out HQ.out _ _ _ (Kd.C_below HC_f.out HB.out) HK_f.out).mono ?_; rintro e w12_ ⟨v_r, rfl, hR, hB⟩; obtain ⟨A_r, c_r, rfl⟩ := Kd.R_slice hR; have hsz := HB.out.size; have nHB := Aside0.mk (HB.out.trans (hB.mono HB.out.size)); clear HB; have HB := nHB; clear nHB; clear hc_gh_0 hf_gh_0 hc_gh_1 hf_gh_1 hc_gh_2 hf_gh_2 hc_gh_3 hf_gh_3 hc_gh_4 hf_gh_4 hc_gh_5 hf_gh_5; have nBK := Aside0.mk (blk_below (g := gh) (o := .cells #[.int .u32 s, .int .u32 d, .int .u8 p, .int .u8 t, .int .u16 i, .bool al] 26 (0, 0)) BK_gh.out hB); clear BK_gh; have BK_gh := nBK; clear nBK; obtain ⟨hc_gh_0, hf_gh_0, hc_gh_1, hf_gh_1, hc_gh_2, hf_gh_2, hc_gh_3, hf_gh_3, hc_gh_4, hf_gh_4, hc_gh_5, hf_gh_5⟩ := six BK_gh.out; clear hc_gk_0 hf_gk_0 hc_gk_1 hf_gk_1 hc_gk_2 hf_gk_2 hc_gk_3 hf_gk_3 hc_gk_4 hf_gk_4 hc_gk_5 hf_gk_5; have nBK := Aside0.mk (blk_below (g := gk) (o := .cells #[.int .u32 ks, .int .u32 kd, .int .u8 kp, .int .u8 kt, .int .u16 ki, .bool ka] 26 (0, 0)) BK_gk.out hB); clear BK_gk; have BK_gk := nBK; clear nBK; obtain ⟨hc_gk_0, hf_gk_0, hc_gk_1, hf_gk_1, hc_gk_2, hf_gk_2, hc_gk_3, hf_gk_3, hc_gk_4, hf_gk_4, hc_gk_5, hf_gk_5⟩ := six BK_gk.out; clear hc_gm_0 hf_gm_0 hc_gm_1 hf_gm_1 hc_gm_2 hf_gm_2 hc_gm_3 hf_gm_3 hc_gm_4 hf_gm_4 hc_gm_5 hf_gm_5; have nBK := Aside0.mk (blk_below (g := gm) (o := .cells #[.int .u32 ks, .int .u32 kd, .int .u8 kp, .int .u8 kt, .int .u16 ki, .bool ka] 26 (0, 0)) BK_gm.out hB); clear BK_gm; have BK_gm := nBK; clear nBK; obtain ⟨hc_gm_0, hf_gm_0, hc_gm_1, hf_gm_1, hc_gm_2, hf_gm_2, hc_gm_3, hf_gm_3, hc_gm_4, hf_gm_4, hc_gm_5, hf_gm_5⟩ := six BK_gm.out; have nHC := Aside0.mk (Kd.R_below HR_x.out hB); clear HR_x; have HR_x := nHC; clear nHC; have nHC := Aside0.mk (Kd.R_below HR_y.out hB); clear HR_y; have HR_y := nHC; clear nHC; have nHC := Aside0.mk (Kd.R_below HR_u.out hB); clear HR_u; have HR_u := nHC; clear nHC; have nHC := Aside0.mk (Kd.R_below HR_v.out hB); clear HR_v; have HR_v := nHC; clear nHC; have nHC := Aside0.mk (Kd.R_below HR_q.out hB); clear HR_q; have HR_q := nHC; clear nHC; have HR_r := Aside0.mk (Kd.R_mono (Kd.R_lower hR hsz) (fun _ _ => trivial : ∀ k, _ → (fun _ => True) k)); clear hR hsz; clear hB))
  clear BK_gh GE_gh NB_gk_gh NB_gh_gk NB_gm_gh NB_gh_gm hc_gh_0 hf_gh_0 hc_gh_1 hf_gh_1 hc_gh_2 hf_gh_2 hc_gh_3 hf_gh_3 hc_gh_4 hf_gh_4 hc_gh_5 hf_gh_5
  clear HX HD HQ HFB HFL HFM HBL HBE hok hl hl2
  go_wp2_with (first | (go_at_call 12; with_reducible refine (same_calls HXE.out (beq_self_eq_true x) A_x c_x A_y c_y _ (Kd.R_reads' HR_x.out).2.2 (Kd.R_reads' HR_x.out).2.1 (Kd.R_reads' HR_y.out).2.2 (Kd.R_reads' HR_y.out).2.1).mono ?_; rintro e w13_ ⟨rfl, hB⟩; have nHB := Aside0.mk (HB.out.trans (hB.mono HB.out.size)); clear HB; have HB := nHB; clear nHB; clear hc_gk_0 hf_gk_0 hc_gk_1 hf_gk_1 hc_gk_2 hf_gk_2 hc_gk_3 hf_gk_3 hc_gk_4 hf_gk_4 hc_gk_5 hf_gk_5; have nBK := Aside0.mk (blk_below (g := gk) (o := .cells #[.int .u32 ks, .int .u32 kd, .int .u8 kp, .int .u8 kt, .int .u16 ki, .bool ka] 26 (0, 0)) BK_gk.out hB); clear BK_gk; have BK_gk := nBK; clear nBK; obtain ⟨hc_gk_0, hf_gk_0, hc_gk_1, hf_gk_1, hc_gk_2, hf_gk_2, hc_gk_3, hf_gk_3, hc_gk_4, hf_gk_4, hc_gk_5, hf_gk_5⟩ := six BK_gk.out; clear hc_gm_0 hf_gm_0 hc_gm_1 hf_gm_1 hc_gm_2 hf_gm_2 hc_gm_3 hf_gm_3 hc_gm_4 hf_gm_4 hc_gm_5 hf_gm_5; have nBK := Aside0.mk (blk_below (g := gm) (o := .cells #[.int .u32 ks, .int .u32 kd, .int .u8 kp, .int .u8 kt, .int .u16 ki, .bool ka] 26 (0, 0)) BK_gm.out hB); clear BK_gm; have BK_gm := nBK; clear nBK; obtain ⟨hc_gm_0, hf_gm_0, hc_gm_1, hf_gm_1, hc_gm_2, hf_gm_2, hc_gm_3, hf_gm_3, hc_gm_4, hf_gm_4, hc_gm_5, hf_gm_5⟩ := six BK_gm.out; have nHC := Aside0.mk (Kd.R_below HR_x.out hB); clear HR_x; have HR_x := nHC; clear nHC; have nHC := Aside0.mk (Kd.R_below HR_y.out hB); clear HR_y; have HR_y := nHC; clear nHC; have nHC := Aside0.mk (Kd.R_below HR_u.out hB); clear HR_u; have HR_u := nHC; clear nHC; have nHC := Aside0.mk (Kd.R_below HR_v.out hB); clear HR_v; have HR_v := nHC; clear nHC; have nHC := Aside0.mk (Kd.R_below HR_q.out hB); clear HR_q; have HR_q := nHC; clear nHC; have nHC := Aside0.mk (Kd.R_below HR_r.out hB); clear HR_r; have HR_r := nHC; clear nHC; clear hB) | (go_at_call 12; with_reducible refine (same_calls HCL.out (beq_self_eq_true cc) A_u c_u A_v c_v _ (Kd.R_reads' HR_u.out).2.2 (Kd.R_reads' HR_u.out).2.1 (Kd.R_reads' HR_v.out).2.2 (Kd.R_reads' HR_v.out).2.1).mono ?_; rintro e w14_ ⟨rfl, hB⟩; have nHB := Aside0.mk (HB.out.trans (hB.mono HB.out.size)); clear HB; have HB := nHB; clear nHB; clear hc_gk_0 hf_gk_0 hc_gk_1 hf_gk_1 hc_gk_2 hf_gk_2 hc_gk_3 hf_gk_3 hc_gk_4 hf_gk_4 hc_gk_5 hf_gk_5; have nBK := Aside0.mk (blk_below (g := gk) (o := .cells #[.int .u32 ks, .int .u32 kd, .int .u8 kp, .int .u8 kt, .int .u16 ki, .bool ka] 26 (0, 0)) BK_gk.out hB); clear BK_gk; have BK_gk := nBK; clear nBK; obtain ⟨hc_gk_0, hf_gk_0, hc_gk_1, hf_gk_1, hc_gk_2, hf_gk_2, hc_gk_3, hf_gk_3, hc_gk_4, hf_gk_4, hc_gk_5, hf_gk_5⟩ := six BK_gk.out; clear hc_gm_0 hf_gm_0 hc_gm_1 hf_gm_1 hc_gm_2 hf_gm_2 hc_gm_3 hf_gm_3 hc_gm_4 hf_gm_4 hc_gm_5 hf_gm_5; have nBK := Aside0.mk (blk_below (g := gm) (o := .cells #[.int .u32 ks, .int .u32 kd, .int .u8 kp, .int .u8 kt, .int .u16 ki, .bool ka] 26 (0, 0)) BK_gm.out hB); clear BK_gm; have BK_gm := nBK; clear nBK; obtain ⟨hc_gm_0, hf_gm_0, hc_gm_1, hf_gm_1, hc_gm_2, hf_gm_2, hc_gm_3, hf_gm_3, hc_gm_4, hf_gm_4, hc_gm_5, hf_gm_5⟩ := six BK_gm.out; have nHC := Aside0.mk (Kd.R_below HR_x.out hB); clear HR_x; have HR_x := nHC; clear nHC; have nHC := Aside0.mk (Kd.R_below HR_y.out hB); clear HR_y; have HR_y := nHC; clear nHC; have nHC := Aside0.mk (Kd.R_below HR_u.out hB); clear HR_u; have HR_u := nHC; clear nHC; have nHC := Aside0.mk (Kd.R_below HR_v.out hB); clear HR_v; have HR_v := nHC; clear nHC; have nHC := Aside0.mk (Kd.R_below HR_q.out hB); clear HR_q; have HR_q := nHC; clear nHC; have nHC := Aside0.mk (Kd.R_below HR_r.out hB); clear HR_r; have HR_r := nHC; clear nHC; clear hB) | (go_at_call 12; with_reducible refine (same_calls HQL.out (beq_self_eq_true q) A_q c_q A_r c_r _ (Kd.R_reads' HR_q.out).2.2 (Kd.R_reads' HR_q.out).2.1 (Kd.R_reads' HR_r.out).2.2 (Kd.R_reads' HR_r.out).2.1).mono ?_; rintro e w15_ ⟨rfl, hB⟩; have nHB := Aside0.mk (HB.out.trans (hB.mono HB.out.size)); clear HB; have HB := nHB; clear nHB; clear hc_gk_0 hf_gk_0 hc_gk_1 hf_gk_1 hc_gk_2 hf_gk_2 hc_gk_3 hf_gk_3 hc_gk_4 hf_gk_4 hc_gk_5 hf_gk_5; have nBK := Aside0.mk (blk_below (g := gk) (o := .cells #[.int .u32 ks, .int .u32 kd, .int .u8 kp, .int .u8 kt, .int .u16 ki, .bool ka] 26 (0, 0)) BK_gk.out hB); clear BK_gk; have BK_gk := nBK; clear nBK; obtain ⟨hc_gk_0, hf_gk_0, hc_gk_1, hf_gk_1, hc_gk_2, hf_gk_2, hc_gk_3, hf_gk_3, hc_gk_4, hf_gk_4, hc_gk_5, hf_gk_5⟩ := six BK_gk.out; clear hc_gm_0 hf_gm_0 hc_gm_1 hf_gm_1 hc_gm_2 hf_gm_2 hc_gm_3 hf_gm_3 hc_gm_4 hf_gm_4 hc_gm_5 hf_gm_5; have nBK := Aside0.mk (blk_below (g := gm) (o := .cells #[.int .u32 ks, .int .u32 kd, .int .u8 kp, .int .u8 kt, .int .u16 ki, .bool ka] 26 (0, 0)) BK_gm.out hB); clear BK_gm; have BK_gm := nBK; clear nBK; obtain ⟨hc_gm_0, hf_gm_0, hc_gm_1, hf_gm_1, hc_gm_2, hf_gm_2, hc_gm_3, hf_gm_3, hc_gm_4, hf_gm_4, hc_gm_5, hf_gm_5⟩ := six BK_gm.out; have nHC := Aside0.mk (Kd.R_below HR_x.out hB); clear HR_x; have HR_x := nHC; clear nHC; have nHC := Aside0.mk (Kd.R_below HR_y.out hB); clear HR_y; have HR_y := nHC; clear nHC; have nHC := Aside0.mk (Kd.R_below HR_u.out hB); clear HR_u; have HR_u := nHC; clear nHC; have nHC := Aside0.mk (Kd.R_below HR_v.out hB); clear HR_v; have HR_v := nHC; clear nHC; have nHC := Aside0.mk (Kd.R_below HR_q.out hB); clear HR_q; have HR_q := nHC; clear nHC; have nHC := Aside0.mk (Kd.R_below HR_r.out hB); clear HR_r; have HR_r := nHC; clear nHC; clear hB))
  go_ret
  exact ⟨rfl, HB.out⟩
theorem dec_len {f : List Int} (hl : f.length ≤ 3000) : (dec f).2.2.2.2.2.2.1.length ≤ 3000 := by
  by_cases h : (dec f).2.2.2.2.2.2.2 = 0
  · rw [(dec_right h).1]
    simp only [List.length_drop, List.length_take]
    omega
  · rw [dec_wrong f h]
    simp [W]
theorem pass_len {f : List Int} (hb : Byt f) (hl : f.length ≤ 3000) : (pass f).1.length ≤ 1500 := by
  unfold pass
  split
  · rename_i h
    split
    · simp
    · rename_i h2
      have e := (dec_right h).1
      have ho := fields_ok hb
      rw [e] at h2 ⊢
      have hr := hb.rd 8
      simp only at h2 ⊢
      exact (enc_len ⟨ho.1, ho.2.1, ho.2.2.1, by omega, ho.2.2.2.2⟩ _ ((hb.take _).drop _)).2
  · simp
theorem ipTells_call {s d p t i : Int} {al : Bool} (hok : HOk s d p t i) {b f : List Int} (hbb : Byt b) (hfb : Byt f) (A_b : Option Addr) (c_b : Nat) (A_f : Option Addr) (c_f : Nat) (w : World) (hr : Kd.C (Kd.int .u8) w A_b b.length b) (hc : b.length ≤ c_b) (hr2 : Kd.C (Kd.int .u8) w A_f f.length f) (hc2 : f.length ≤ c_f) :
    Calls Try.prog 7 #[.agg #[.int .u32 s, .int .u32 d, .int .u8 p, .int .u8 t, .int .u16 i, .bool al], .slice A_b b.length c_b, .slice A_f f.length c_f] w fun e w' => e = .returned (.bool true) ∧ Below w.heap.size w w' := by
  by_cases hl : 2000 < (b.length : Int) ∨ 2000 < (f.length : Int)
  · exact ipTells_long hl A_b c_b A_f c_f w hr hc hr2 hc2
  have hl1 : ¬ (2000 < (b.length : Int)) := fun h => hl (.inl h)
  have hl2 : ¬ (2000 < (f.length : Int)) := fun h => hl (.inr h)
  have hx := enc_len hok al hbb
  have hd := dec_len (f := f) (by omega)
  have hp := pass_len hfb (by omega)
  exact ipTells_main hok hfb hl1 hl2 (x := (enc s d p t i al b).1) (e0 := (enc s d p t i al b).2) rfl hx.2 (cc := (dec f).2.2.2.2.2.2.1) rfl (by omega) (q := (pass f).1) (e2 := (pass f).2) rfl (by omega) A_b c_b A_f c_f w hr hc hr2 hc2
end Go.Proofs.Ytlaanmkangikbaa
