/-
  IpPasses, walked.
-/
import Derived.Test.YtlaanmkangikbaaIpW
namespace Go.Proofs.Ytlaanmkangikbaa
open Go.RowKit Go.Proofs.YtlaanmkangikbaaW.PrintWords Go.Proofs.YtlaanmkangikbaaW.PrintLast Go.Proofs.YtlaanmkangikbaaW.PrintMore Go.Proofs.Ytlaanmkangikbaa.PIp
set_option linter.unusedVariables false
set_option maxHeartbeats 8000000 in
set_option maxRecDepth 100000 in
theorem ipPasses_long {s d p t i : Int} {al : Bool} {b : List Int} (hl : 1400 < (b.length : Int)) (A : Option Addr) (c : Nat) (w : World) (hr : Kd.C (Kd.int .u8) w A b.length b) (hc : b.length ≤ c) :
    Calls Try.prog 8 #[.agg #[.int .u32 s, .int .u32 d, .int .u8 p, .int .u8 t, .int .u16 i, .bool al], .slice A b.length c] w fun e w' => e = .returned (.bool true) ∧ Below w.heap.size w w' := by
  have hu26 := Try.underlying26
  have HB := Aside0.mk (Below.refl w.heap.size w)
  have HC_b := Aside0.mk hr
  have HK_b := Aside0.mk hc
  clear hr hc
  go_enter Try.func8, Try.ntmps8
  go_wp2_with (first | ((with_reducible refine gate_dst (N := 2) rfl ?_); (try (refine gate_guard (by rfl) ?_; dsimp only)); refine box_event ?hg (N := 2) ?hd (cs := #[.int .u32 s, .int .u32 d, .int .u8 p, .int .u8 t, .int .u16 i, .bool al]) (t := 26) ?hr ?_; (case hd => rfl); (case hg => rfl); (case hr => first | (go_simp; done) | (go_simp; rfl)); intro gh hg w1_ hbox hB; have HBo := Aside0.mk HB.out; have nHB := Aside0.mk (HB.out.trans (hB.mono HB.out.size)); clear HB; have HB := nHB; clear nHB; have BK_gh := Aside0.mk hbox; have GE_gh := Aside0.mk (show w.heap.size ≤ gh by rw [hg]; exact HBo.out.size); clear hg hbox hB; have hc_gh_0 : w1_.cell? ⟨gh, 0, none⟩ = some (.int .u32 s) := (blk_cell BK_gh.out 0).trans rfl; have hf_gh_0 := blk_frozen BK_gh.out 0; have hc_gh_1 : w1_.cell? ⟨gh, 1, none⟩ = some (.int .u32 d) := (blk_cell BK_gh.out 1).trans rfl; have hf_gh_1 := blk_frozen BK_gh.out 1; have hc_gh_2 : w1_.cell? ⟨gh, 2, none⟩ = some (.int .u8 p) := (blk_cell BK_gh.out 2).trans rfl; have hf_gh_2 := blk_frozen BK_gh.out 2; have hc_gh_3 : w1_.cell? ⟨gh, 3, none⟩ = some (.int .u8 t) := (blk_cell BK_gh.out 3).trans rfl; have hf_gh_3 := blk_frozen BK_gh.out 3; have hc_gh_4 : w1_.cell? ⟨gh, 4, none⟩ = some (.int .u16 i) := (blk_cell BK_gh.out 4).trans rfl; have hf_gh_4 := blk_frozen BK_gh.out 4; have hc_gh_5 : w1_.cell? ⟨gh, 5, none⟩ = some (.bool al) := (blk_cell BK_gh.out 5).trans rfl; have hf_gh_5 := blk_frozen BK_gh.out 5; clear HBo) | (go_at_call 9; refine (shown_calls _).mono ?_; rintro e w2_ ⟨rfl, hB⟩; have nHB := Aside0.mk (HB.out.trans (hB.mono HB.out.size)); clear HB; have HB := nHB; clear nHB; clear hc_gh_0 hf_gh_0 hc_gh_1 hf_gh_1 hc_gh_2 hf_gh_2 hc_gh_3 hf_gh_3 hc_gh_4 hf_gh_4 hc_gh_5 hf_gh_5; have nBK := Aside0.mk (blk_below (g := gh) (o := .cells #[.int .u32 s, .int .u32 d, .int .u8 p, .int .u8 t, .int .u16 i, .bool al] 26 (0, 0)) BK_gh.out hB); clear BK_gh; have BK_gh := nBK; clear nBK; have hc_gh_0 : w2_.cell? ⟨gh, 0, none⟩ = some (.int .u32 s) := (blk_cell BK_gh.out 0).trans rfl; have hf_gh_0 := blk_frozen BK_gh.out 0; have hc_gh_1 : w2_.cell? ⟨gh, 1, none⟩ = some (.int .u32 d) := (blk_cell BK_gh.out 1).trans rfl; have hf_gh_1 := blk_frozen BK_gh.out 1; have hc_gh_2 : w2_.cell? ⟨gh, 2, none⟩ = some (.int .u8 p) := (blk_cell BK_gh.out 2).trans rfl; have hf_gh_2 := blk_frozen BK_gh.out 2; have hc_gh_3 : w2_.cell? ⟨gh, 3, none⟩ = some (.int .u8 t) := (blk_cell BK_gh.out 3).trans rfl; have hf_gh_3 := blk_frozen BK_gh.out 3; have hc_gh_4 : w2_.cell? ⟨gh, 4, none⟩ = some (.int .u16 i) := (blk_cell BK_gh.out 4).trans rfl; have hf_gh_4 := blk_frozen BK_gh.out 4; have hc_gh_5 : w2_.cell? ⟨gh, 5, none⟩ = some (.bool al) := (blk_cell BK_gh.out 5).trans rfl; have hf_gh_5 := blk_frozen BK_gh.out 5; clear hB))
  go_ret
  exact ⟨rfl, HB.out⟩
set_option maxHeartbeats 8000000 in
set_option maxRecDepth 100000 in
theorem ipPasses_few {s d p t i : Int} {al : Bool} (hok : HOk s d p t i) {b : List Int} (hbb : Byt b) (hl : ¬ (1400 < (b.length : Int))) (ht : t < 2) {x : List Int} (hx : enc s d p t i al b = (x, 0)) (hxb : Byt x) (hxl : x.length ≤ 1000000) (hp : pass x = ([], 6)) (A : Option Addr) (c : Nat) (w : World) (hr : Kd.C (Kd.int .u8) w A b.length b) (hc : b.length ≤ c) :
    Calls Try.prog 8 #[.agg #[.int .u32 s, .int .u32 d, .int .u8 p, .int .u8 t, .int .u16 i, .bool al], .slice A b.length c] w fun e w' => e = .returned (.bool true) ∧ Below w.heap.size w w' := by
  have hu26 := Try.underlying26
  have HB := Aside0.mk (Below.refl w.heap.size w)
  have HC_b := Aside0.mk hr
  have HK_b := Aside0.mk hc
  clear hr hc
  have HBL := Aside0.mk (show b.length ≤ 140737488355328 by omega)
  have HX := Aside0.mk hx
  have HXB := Aside0.mk hxb
  have HXL := Aside0.mk hxl
  have HP := Aside0.mk hp
  clear hx hxb hxl hp
  go_enter Try.func8, Try.ntmps8
  go_wp2_with (first | ((with_reducible refine gate_dst (N := 2) rfl ?_); (try (refine gate_guard (by rfl) ?_; dsimp only)); refine box_event ?hg (N := 2) ?hd (cs := #[.int .u32 s, .int .u32 d, .int .u8 p, .int .u8 t, .int .u16 i, .bool al]) (t := 26) ?hr ?_; (case hd => rfl); (case hg => rfl); (case hr => first | (go_simp; done) | (go_simp; rfl)); intro gh hg w1_ hbox hB; have HBo := Aside0.mk HB.out; have nHB := Aside0.mk (HB.out.trans (hB.mono HB.out.size)); clear HB; have HB := nHB; clear nHB; have BK_gh := Aside0.mk hbox; have GE_gh := Aside0.mk (show w.heap.size ≤ gh by rw [hg]; exact HBo.out.size); clear hg hbox hB; have hc_gh_0 : w1_.cell? ⟨gh, 0, none⟩ = some (.int .u32 s) := (blk_cell BK_gh.out 0).trans rfl; have hf_gh_0 := blk_frozen BK_gh.out 0; have hc_gh_1 : w1_.cell? ⟨gh, 1, none⟩ = some (.int .u32 d) := (blk_cell BK_gh.out 1).trans rfl; have hf_gh_1 := blk_frozen BK_gh.out 1; have hc_gh_2 : w1_.cell? ⟨gh, 2, none⟩ = some (.int .u8 p) := (blk_cell BK_gh.out 2).trans rfl; have hf_gh_2 := blk_frozen BK_gh.out 2; have hc_gh_3 : w1_.cell? ⟨gh, 3, none⟩ = some (.int .u8 t) := (blk_cell BK_gh.out 3).trans rfl; have hf_gh_3 := blk_frozen BK_gh.out 3; have hc_gh_4 : w1_.cell? ⟨gh, 4, none⟩ = some (.int .u16 i) := (blk_cell BK_gh.out 4).trans rfl; have hf_gh_4 := blk_frozen BK_gh.out 4; have hc_gh_5 : w1_.cell? ⟨gh, 5, none⟩ = some (.bool al) := (blk_cell BK_gh.out 5).trans rfl; have hf_gh_5 := blk_frozen BK_gh.out 5; clear HBo) | (go_at_call 9; refine (shown_calls _).mono ?_; rintro e w2_ ⟨rfl, hB⟩; have nHB := Aside0.mk (HB.out.trans (hB.mono HB.out.size)); clear HB; have HB := nHB; clear nHB; clear hc_gh_0 hf_gh_0 hc_gh_1 hf_gh_1 hc_gh_2 hf_gh_2 hc_gh_3 hf_gh_3 hc_gh_4 hf_gh_4 hc_gh_5 hf_gh_5; have nBK := Aside0.mk (blk_below (g := gh) (o := .cells #[.int .u32 s, .int .u32 d, .int .u8 p, .int .u8 t, .int .u16 i, .bool al] 26 (0, 0)) BK_gh.out hB); clear BK_gh; have BK_gh := nBK; clear nBK; have hc_gh_0 : w2_.cell? ⟨gh, 0, none⟩ = some (.int .u32 s) := (blk_cell BK_gh.out 0).trans rfl; have hf_gh_0 := blk_frozen BK_gh.out 0; have hc_gh_1 : w2_.cell? ⟨gh, 1, none⟩ = some (.int .u32 d) := (blk_cell BK_gh.out 1).trans rfl; have hf_gh_1 := blk_frozen BK_gh.out 1; have hc_gh_2 : w2_.cell? ⟨gh, 2, none⟩ = some (.int .u8 p) := (blk_cell BK_gh.out 2).trans rfl; have hf_gh_2 := blk_frozen BK_gh.out 2; have hc_gh_3 : w2_.cell? ⟨gh, 3, none⟩ = some (.int .u8 t) := (blk_cell BK_gh.out 3).trans rfl; have hf_gh_3 := blk_frozen BK_gh.out 3; have hc_gh_4 : w2_.cell? ⟨gh, 4, none⟩ = some (.int .u16 i) := (blk_cell BK_gh.out 4).trans rfl; have hf_gh_4 := blk_frozen BK_gh.out 4; have hc_gh_5 : w2_.cell? ⟨gh, 5, none⟩ = some (.bool al) := (blk_cell BK_gh.out 5).trans rfl; have hf_gh_5 := blk_frozen BK_gh.out 5; clear hB) | (go_at_call 10; refine (encode_calls hok HBL.out HX.out _ _ _ (Kd.C_below HC_b.out HB.out) HK_b.out).mono ?_; rintro e w3_ ⟨v_x, rfl, hR, hB⟩; obtain ⟨A_x, c_x, rfl⟩ := Kd.R_slice hR; have nHB := Aside0.mk (HB.out.trans (hB.mono HB.out.size)); clear HB; have HB := nHB; clear nHB; clear hc_gh_0 hf_gh_0 hc_gh_1 hf_gh_1 hc_gh_2 hf_gh_2 hc_gh_3 hf_gh_3 hc_gh_4 hf_gh_4 hc_gh_5 hf_gh_5; have nBK := Aside0.mk (blk_below (g := gh) (o := .cells #[.int .u32 s, .int .u32 d, .int .u8 p, .int .u8 t, .int .u16 i, .bool al] 26 (0, 0)) BK_gh.out hB); clear BK_gh; have BK_gh := nBK; clear nBK; have hc_gh_0 : w3_.cell? ⟨gh, 0, none⟩ = some (.int .u32 s) := (blk_cell BK_gh.out 0).trans rfl; have hf_gh_0 := blk_frozen BK_gh.out 0; have hc_gh_1 : w3_.cell? ⟨gh, 1, none⟩ = some (.int .u32 d) := (blk_cell BK_gh.out 1).trans rfl; have hf_gh_1 := blk_frozen BK_gh.out 1; have hc_gh_2 : w3_.cell? ⟨gh, 2, none⟩ = some (.int .u8 p) := (blk_cell BK_gh.out 2).trans rfl; have hf_gh_2 := blk_frozen BK_gh.out 2; have hc_gh_3 : w3_.cell? ⟨gh, 3, none⟩ = some (.int .u8 t) := (blk_cell BK_gh.out 3).trans rfl; have hf_gh_3 := blk_frozen BK_gh.out 3; have hc_gh_4 : w3_.cell? ⟨gh, 4, none⟩ = some (.int .u16 i) := (blk_cell BK_gh.out 4).trans rfl; have hf_gh_4 := blk_frozen BK_gh.out 4; have hc_gh_5 : w3_.cell? ⟨gh, 5, none⟩ = some (.bool al) := (blk_cell BK_gh.out 5).trans rfl; have hf_gh_5 := blk_frozen BK_gh.out 5; have HR_x := Aside0.mk (Kd.R_mono hR (fun _ _ => trivial : ∀ k, _ → (fun _ => True) k)); clear hR; clear hB) | (go_at_call 15; refine (passed_calls HXB.out HXL.out HP.out _ _ _ (Kd.R_reads' HR_x.out).2.2 (Kd.R_reads' HR_x.out).2.1).mono ?_; rintro e w4_ ⟨v_q, rfl, hR, hB⟩; obtain ⟨A_q, c_q, rfl⟩ := Kd.R_slice hR; have nHB := Aside0.mk (HB.out.trans (hB.mono HB.out.size)); clear HB; have HB := nHB; clear nHB; clear hc_gh_0 hf_gh_0 hc_gh_1 hf_gh_1 hc_gh_2 hf_gh_2 hc_gh_3 hf_gh_3 hc_gh_4 hf_gh_4 hc_gh_5 hf_gh_5; have nBK := Aside0.mk (blk_below (g := gh) (o := .cells #[.int .u32 s, .int .u32 d, .int .u8 p, .int .u8 t, .int .u16 i, .bool al] 26 (0, 0)) BK_gh.out hB); clear BK_gh; have BK_gh := nBK; clear nBK; have hc_gh_0 : w4_.cell? ⟨gh, 0, none⟩ = some (.int .u32 s) := (blk_cell BK_gh.out 0).trans rfl; have hf_gh_0 := blk_frozen BK_gh.out 0; have hc_gh_1 : w4_.cell? ⟨gh, 1, none⟩ = some (.int .u32 d) := (blk_cell BK_gh.out 1).trans rfl; have hf_gh_1 := blk_frozen BK_gh.out 1; have hc_gh_2 : w4_.cell? ⟨gh, 2, none⟩ = some (.int .u8 p) := (blk_cell BK_gh.out 2).trans rfl; have hf_gh_2 := blk_frozen BK_gh.out 2; have hc_gh_3 : w4_.cell? ⟨gh, 3, none⟩ = some (.int .u8 t) := (blk_cell BK_gh.out 3).trans rfl; have hf_gh_3 := blk_frozen BK_gh.out 3; have hc_gh_4 : w4_.cell? ⟨gh, 4, none⟩ = some (.int .u16 i) := (blk_cell BK_gh.out 4).trans rfl; have hf_gh_4 := blk_frozen BK_gh.out 4; have hc_gh_5 : w4_.cell? ⟨gh, 5, none⟩ = some (.bool al) := (blk_cell BK_gh.out 5).trans rfl; have hf_gh_5 := blk_frozen BK_gh.out 5; have nHC := Aside0.mk (Kd.R_below HR_x.out hB); clear HR_x; have HR_x := nHC; clear nHC; have HR_q := Aside0.mk (Kd.R_mono hR (fun _ _ => trivial : ∀ k, _ → (fun _ => True) k)); clear hR; clear hB))
  go_ret
  exact ⟨rfl, HB.out⟩
set_option maxHeartbeats 8000000 in
set_option maxRecDepth 100000 in
theorem ipPasses_main {s d p t i : Int} {al : Bool} (hok : HOk s d p t i) {b : List Int} (hbb : Byt b) (hl : ¬ (1400 < (b.length : Int))) (ht : ¬ t < 2) {x q : List Int} (hx : enc s d p t i al b = (x, 0)) (hxb : Byt x) (hxl : x.length ≤ 1000000) (hp : pass x = (q, 0)) (hqb : Byt q) (hql : q.length ≤ 1000000) (hqx : q.length = x.length) (hq : dec q = (s, d, p, t - 1, i, al, b, 0)) (A : Option Addr) (c : Nat) (w : World) (hr : Kd.C (Kd.int .u8) w A b.length b) (hc : b.length ≤ c) :
    Calls Try.prog 8 #[.agg #[.int .u32 s, .int .u32 d, .int .u8 p, .int .u8 t, .int .u16 i, .bool al], .slice A b.length c] w fun e w' => e = .returned (.bool true) ∧ Below w.heap.size w w' := by
  have hu26 := Try.underlying26
  have HB := Aside0.mk (Below.refl w.heap.size w)
  have HC_b := Aside0.mk hr
  have HK_b := Aside0.mk hc
  clear hr hc
  have HBL := Aside0.mk (show b.length ≤ 140737488355328 by omega)
  have HBE := Aside0.mk (show b.length ≤ 1000000 by omega)
  have HT1 := Aside0.mk (show (t - 1) % 256 = t - 1 by have := hok.2.2.2.1; omega)
  have HX := Aside0.mk hx
  have HXB := Aside0.mk hxb
  have HXL := Aside0.mk hxl
  have HP := Aside0.mk hp
  have HQB := Aside0.mk hqb
  have HQL := Aside0.mk hql
  have HQX := Aside0.mk hqx
  have HQ := Aside0.mk hq
  clear hx hxb hxl hp hqb hql hqx hq
  go_enter Try.func8, Try.ntmps8
  go_upto_region 9 with (first | ((with_reducible refine gate_dst (N := 2) rfl ?_); (try (refine gate_guard (by rfl) ?_; dsimp only)); refine box_event ?hg (N := 2) ?hd (cs := #[.int .u32 s, .int .u32 d, .int .u8 p, .int .u8 t, .int .u16 i, .bool al]) (t := 26) ?hr ?_; (case hd => rfl); (case hg => rfl); (case hr => first | (go_simp; done) | (go_simp; rfl)); intro gh hg w1_ hbox hB; have HBo := Aside0.mk HB.out; have nHB := Aside0.mk (HB.out.trans (hB.mono HB.out.size)); clear HB; have HB := nHB; clear nHB; have BK_gh := Aside0.mk hbox; have GE_gh := Aside0.mk (show w.heap.size ≤ gh by rw [hg]; exact HBo.out.size); clear hg hbox hB; have hc_gh_0 : w1_.cell? ⟨gh, 0, none⟩ = some (.int .u32 s) := (blk_cell BK_gh.out 0).trans rfl; have hf_gh_0 := blk_frozen BK_gh.out 0; have hc_gh_1 : w1_.cell? ⟨gh, 1, none⟩ = some (.int .u32 d) := (blk_cell BK_gh.out 1).trans rfl; have hf_gh_1 := blk_frozen BK_gh.out 1; have hc_gh_2 : w1_.cell? ⟨gh, 2, none⟩ = some (.int .u8 p) := (blk_cell BK_gh.out 2).trans rfl; have hf_gh_2 := blk_frozen BK_gh.out 2; have hc_gh_3 : w1_.cell? ⟨gh, 3, none⟩ = some (.int .u8 t) := (blk_cell BK_gh.out 3).trans rfl; have hf_gh_3 := blk_frozen BK_gh.out 3; have hc_gh_4 : w1_.cell? ⟨gh, 4, none⟩ = some (.int .u16 i) := (blk_cell BK_gh.out 4).trans rfl; have hf_gh_4 := blk_frozen BK_gh.out 4; have hc_gh_5 : w1_.cell? ⟨gh, 5, none⟩ = some (.bool al) := (blk_cell BK_gh.out 5).trans rfl; have hf_gh_5 := blk_frozen BK_gh.out 5; clear HBo) | (go_at_call 9; refine (shown_calls _).mono ?_; rintro e w2_ ⟨rfl, hB⟩; have nHB := Aside0.mk (HB.out.trans (hB.mono HB.out.size)); clear HB; have HB := nHB; clear nHB; clear hc_gh_0 hf_gh_0 hc_gh_1 hf_gh_1 hc_gh_2 hf_gh_2 hc_gh_3 hf_gh_3 hc_gh_4 hf_gh_4 hc_gh_5 hf_gh_5; have nBK := Aside0.mk (blk_below (g := gh) (o := .cells #[.int .u32 s, .int .u32 d, .int .u8 p, .int .u8 t, .int .u16 i, .bool al] 26 (0, 0)) BK_gh.out hB); clear BK_gh; have BK_gh := nBK; clear nBK; have hc_gh_0 : w2_.cell? ⟨gh, 0, none⟩ = some (.int .u32 s) := (blk_cell BK_gh.out 0).trans rfl; have hf_gh_0 := blk_frozen BK_gh.out 0; have hc_gh_1 : w2_.cell? ⟨gh, 1, none⟩ = some (.int .u32 d) := (blk_cell BK_gh.out 1).trans rfl; have hf_gh_1 := blk_frozen BK_gh.out 1; have hc_gh_2 : w2_.cell? ⟨gh, 2, none⟩ = some (.int .u8 p) := (blk_cell BK_gh.out 2).trans rfl; have hf_gh_2 := blk_frozen BK_gh.out 2; have hc_gh_3 : w2_.cell? ⟨gh, 3, none⟩ = some (.int .u8 t) := (blk_cell BK_gh.out 3).trans rfl; have hf_gh_3 := blk_frozen BK_gh.out 3; have hc_gh_4 : w2_.cell? ⟨gh, 4, none⟩ = some (.int .u16 i) := (blk_cell BK_gh.out 4).trans rfl; have hf_gh_4 := blk_frozen BK_gh.out 4; have hc_gh_5 : w2_.cell? ⟨gh, 5, none⟩ = some (.bool al) := (blk_cell BK_gh.out 5).trans rfl; have hf_gh_5 := blk_frozen BK_gh.out 5; clear hB) | (go_at_call 10; refine (encode_calls hok HBL.out HX.out _ _ _ (Kd.C_below HC_b.out HB.out) HK_b.out).mono ?_; rintro e w3_ ⟨v_x, rfl, hR, hB⟩; obtain ⟨A_x, c_x, rfl⟩ := Kd.R_slice hR; have nHB := Aside0.mk (HB.out.trans (hB.mono HB.out.size)); clear HB; have HB := nHB; clear nHB; clear hc_gh_0 hf_gh_0 hc_gh_1 hf_gh_1 hc_gh_2 hf_gh_2 hc_gh_3 hf_gh_3 hc_gh_4 hf_gh_4 hc_gh_5 hf_gh_5; have nBK := Aside0.mk (blk_below (g := gh) (o := .cells #[.int .u32 s, .int .u32 d, .int .u8 p, .int .u8 t, .int .u16 i, .bool al] 26 (0, 0)) BK_gh.out hB); clear BK_gh; have BK_gh := nBK; clear nBK; have hc_gh_0 : w3_.cell? ⟨gh, 0, none⟩ = some (.int .u32 s) := (blk_cell BK_gh.out 0).trans rfl; have hf_gh_0 := blk_frozen BK_gh.out 0; have hc_gh_1 : w3_.cell? ⟨gh, 1, none⟩ = some (.int .u32 d) := (blk_cell BK_gh.out 1).trans rfl; have hf_gh_1 := blk_frozen BK_gh.out 1; have hc_gh_2 : w3_.cell? ⟨gh, 2, none⟩ = some (.int .u8 p) := (blk_cell BK_gh.out 2).trans rfl; have hf_gh_2 := blk_frozen BK_gh.out 2; have hc_gh_3 : w3_.cell? ⟨gh, 3, none⟩ = some (.int .u8 t) := (blk_cell BK_gh.out 3).trans rfl; have hf_gh_3 := blk_frozen BK_gh.out 3; have hc_gh_4 : w3_.cell? ⟨gh, 4, none⟩ = some (.int .u16 i) := (blk_cell BK_gh.out 4).trans rfl; have hf_gh_4 := blk_frozen BK_gh.out 4; have hc_gh_5 : w3_.cell? ⟨gh, 5, none⟩ = some (.bool al) := (blk_cell BK_gh.out 5).trans rfl; have hf_gh_5 := blk_frozen BK_gh.out 5; have HR_x := Aside0.mk (Kd.R_mono hR (fun _ _ => trivial : ∀ k, _ → (fun _ => True) k)); clear hR; clear hB) | (go_at_call 15; refine (passed_calls HXB.out HXL.out HP.out _ _ _ (Kd.R_reads' HR_x.out).2.2 (Kd.R_reads' HR_x.out).2.1).mono ?_; rintro e w4_ ⟨v_q, rfl, hR, hB⟩; obtain ⟨A_q, c_q, rfl⟩ := Kd.R_slice hR; have nHB := Aside0.mk (HB.out.trans (hB.mono HB.out.size)); clear HB; have HB := nHB; clear nHB; clear hc_gh_0 hf_gh_0 hc_gh_1 hf_gh_1 hc_gh_2 hf_gh_2 hc_gh_3 hf_gh_3 hc_gh_4 hf_gh_4 hc_gh_5 hf_gh_5; have nBK := Aside0.mk (blk_below (g := gh) (o := .cells #[.int .u32 s, .int .u32 d, .int .u8 p, .int .u8 t, .int .u16 i, .bool al] 26 (0, 0)) BK_gh.out hB); clear BK_gh; have BK_gh := nBK; clear nBK; have hc_gh_0 : w4_.cell? ⟨gh, 0, none⟩ = some (.int .u32 s) := (blk_cell BK_gh.out 0).trans rfl; have hf_gh_0 := blk_frozen BK_gh.out 0; have hc_gh_1 : w4_.cell? ⟨gh, 1, none⟩ = some (.int .u32 d) := (blk_cell BK_gh.out 1).trans rfl; have hf_gh_1 := blk_frozen BK_gh.out 1; have hc_gh_2 : w4_.cell? ⟨gh, 2, none⟩ = some (.int .u8 p) := (blk_cell BK_gh.out 2).trans rfl; have hf_gh_2 := blk_frozen BK_gh.out 2; have hc_gh_3 : w4_.cell? ⟨gh, 3, none⟩ = some (.int .u8 t) := (blk_cell BK_gh.out 3).trans rfl; have hf_gh_3 := blk_frozen BK_gh.out 3; have hc_gh_4 : w4_.cell? ⟨gh, 4, none⟩ = some (.int .u16 i) := (blk_cell BK_gh.out 4).trans rfl; have hf_gh_4 := blk_frozen BK_gh.out 4; have hc_gh_5 : w4_.cell? ⟨gh, 5, none⟩ = some (.bool al) := (blk_cell BK_gh.out 5).trans rfl; have hf_gh_5 := blk_frozen BK_gh.out 5; have nHC := Aside0.mk (Kd.R_below HR_x.out hB); clear HR_x; have HR_x := nHC; clear nHC; have HR_q := Aside0.mk (Kd.R_mono hR (fun _ _ => trivial : ∀ k, _ → (fun _ => True) k)); clear hR; clear hB) | (go_at_call 11; refine (decode_calls HQB.out HQL.out HQ.out _ _ _ (Kd.R_reads' HR_q.out).2.2 (Kd.R_reads' HR_q.out).2.1).mono ?_; rintro e w5_ ⟨v_u, rfl, hR, hB⟩; obtain ⟨A_u, c_u, rfl⟩ := Kd.R_slice hR; have nHB := Aside0.mk (HB.out.trans (hB.mono HB.out.size)); clear HB; have HB := nHB; clear nHB; clear hc_gh_0 hf_gh_0 hc_gh_1 hf_gh_1 hc_gh_2 hf_gh_2 hc_gh_3 hf_gh_3 hc_gh_4 hf_gh_4 hc_gh_5 hf_gh_5; have nBK := Aside0.mk (blk_below (g := gh) (o := .cells #[.int .u32 s, .int .u32 d, .int .u8 p, .int .u8 t, .int .u16 i, .bool al] 26 (0, 0)) BK_gh.out hB); clear BK_gh; have BK_gh := nBK; clear nBK; have hc_gh_0 : w5_.cell? ⟨gh, 0, none⟩ = some (.int .u32 s) := (blk_cell BK_gh.out 0).trans rfl; have hf_gh_0 := blk_frozen BK_gh.out 0; have hc_gh_1 : w5_.cell? ⟨gh, 1, none⟩ = some (.int .u32 d) := (blk_cell BK_gh.out 1).trans rfl; have hf_gh_1 := blk_frozen BK_gh.out 1; have hc_gh_2 : w5_.cell? ⟨gh, 2, none⟩ = some (.int .u8 p) := (blk_cell BK_gh.out 2).trans rfl; have hf_gh_2 := blk_frozen BK_gh.out 2; have hc_gh_3 : w5_.cell? ⟨gh, 3, none⟩ = some (.int .u8 t) := (blk_cell BK_gh.out 3).trans rfl; have hf_gh_3 := blk_frozen BK_gh.out 3; have hc_gh_4 : w5_.cell? ⟨gh, 4, none⟩ = some (.int .u16 i) := (blk_cell BK_gh.out 4).trans rfl; have hf_gh_4 := blk_frozen BK_gh.out 4; have hc_gh_5 : w5_.cell? ⟨gh, 5, none⟩ = some (.bool al) := (blk_cell BK_gh.out 5).trans rfl; have hf_gh_5 := blk_frozen BK_gh.out 5; have nHC := Aside0.mk (Kd.R_below HR_x.out hB); clear HR_x; have HR_x := nHC; clear nHC; have nHC := Aside0.mk (Kd.R_below HR_q.out hB); clear HR_q; have HR_q := nHC; clear nHC; have HR_u := Aside0.mk (Kd.R_mono hR (fun _ _ => trivial : ∀ k, _ → (fun _ => True) k)); clear hR; clear hB) | ((with_reducible refine gate_dst (N := 10) rfl ?_); (try (refine gate_guard (by rfl) ?_; dsimp only)); refine box_event ?hg (N := 10) ?hd (cs := #[.int .u32 0, .int .u32 0, .int .u8 0, .int .u8 0, .int .u16 0, .bool false]) (t := 26) ?hr ?_; (case hd => rfl); (case hg => rfl); (case hr => first | (go_simp; done) | (go_simp; rfl)); intro gk hg w6_ hbox hB0; have hG := Aside0.mk (show w5_.heap.size ≤ gk from Nat.le_of_eq hg.symm); clear hg; have hBX := Aside0.mk hbox; have hB1 := Aside0.mk hB0; clear hB0; have hc_gk_0 : w6_.cell? ⟨gk, 0, none⟩ = some (.int .u32 0) := (blk_cell hbox 0).trans rfl; have hf_gk_0 := blk_frozen hbox 0; have hc_gk_1 : w6_.cell? ⟨gk, 1, none⟩ = some (.int .u32 0) := (blk_cell hbox 1).trans rfl; have hf_gk_1 := blk_frozen hbox 1; have hc_gk_2 : w6_.cell? ⟨gk, 2, none⟩ = some (.int .u8 0) := (blk_cell hbox 2).trans rfl; have hf_gk_2 := blk_frozen hbox 2; have hc_gk_3 : w6_.cell? ⟨gk, 3, none⟩ = some (.int .u8 0) := (blk_cell hbox 3).trans rfl; have hf_gk_3 := blk_frozen hbox 3; have hc_gk_4 : w6_.cell? ⟨gk, 4, none⟩ = some (.int .u16 0) := (blk_cell hbox 4).trans rfl; have hf_gk_4 := blk_frozen hbox 4; have hc_gk_5 : w6_.cell? ⟨gk, 5, none⟩ = some (.bool false) := (blk_cell hbox 5).trans rfl; have hf_gk_5 := blk_frozen hbox 5; clear hbox))
  have hB : Below w5_.heap.size w5_ ((((((w6_.setCell ⟨gk, 0, none⟩ (.int .u32 s)).setCell ⟨gk, 1, none⟩ (.int .u32 d)).setCell ⟨gk, 2, none⟩ (.int .u8 p)).setCell ⟨gk, 3, none⟩ (.int .u8 (t - 1))).setCell ⟨gk, 4, none⟩ (.int .u16 i)).setCell ⟨gk, 5, none⟩ (.bool al)) := (below_set (below_set (below_set (below_set (below_set (below_set hB1.out hG.out) hG.out) hG.out) hG.out) hG.out) hG.out)
  have hBN : ((((((w6_.setCell ⟨gk, 0, none⟩ (.int .u32 s)).setCell ⟨gk, 1, none⟩ (.int .u32 d)).setCell ⟨gk, 2, none⟩ (.int .u8 p)).setCell ⟨gk, 3, none⟩ (.int .u8 (t - 1))).setCell ⟨gk, 4, none⟩ (.int .u16 i)).setCell ⟨gk, 5, none⟩ (.bool al)).heap[gk]? = some (.cells #[.int .u32 s, .int .u32 d, .int .u8 p, .int .u8 (t - 1), .int .u16 i, .bool al] 26 (0, 0)) := (blk_put (cs := #[.int .u32 s, .int .u32 d, .int .u8 p, .int .u8 (t - 1), .int .u16 i, .bool false]) (blk_put (cs := #[.int .u32 s, .int .u32 d, .int .u8 p, .int .u8 (t - 1), .int .u16 0, .bool false]) (blk_put (cs := #[.int .u32 s, .int .u32 d, .int .u8 p, .int .u8 0, .int .u16 0, .bool false]) (blk_put (cs := #[.int .u32 s, .int .u32 d, .int .u8 0, .int .u8 0, .int .u16 0, .bool false]) (blk_put (cs := #[.int .u32 s, .int .u32 0, .int .u8 0, .int .u8 0, .int .u16 0, .bool false]) (blk_put (cs := #[.int .u32 0, .int .u32 0, .int .u8 0, .int .u8 0, .int .u16 0, .bool false]) hBX.out 0 (.int .u32 s) rfl) 1 (.int .u32 d) rfl) 2 (.int .u8 p) rfl) 3 (.int .u8 (t - 1)) rfl) 4 (.int .u16 i) rfl) 5 (.bool al) rfl)
  clear hBX hB1
  clear hc_gk_0 hf_gk_0 hc_gk_1 hf_gk_1 hc_gk_2 hf_gk_2 hc_gk_3 hf_gk_3 hc_gk_4 hf_gk_4 hc_gk_5 hf_gk_5
  generalize ((((((w6_.setCell ⟨gk, 0, none⟩ (.int .u32 s)).setCell ⟨gk, 1, none⟩ (.int .u32 d)).setCell ⟨gk, 2, none⟩ (.int .u8 p)).setCell ⟨gk, 3, none⟩ (.int .u8 (t - 1))).setCell ⟨gk, 4, none⟩ (.int .u16 i)).setCell ⟨gk, 5, none⟩ (.bool al)) = w7_ at hB hBN ⊢
  have NB_gk_gh := Aside0.mk (show gk ≠ gh from Nat.ne_of_gt (Nat.lt_of_lt_of_le (blk_lt (g := gh) (o := .cells #[.int .u32 s, .int .u32 d, .int .u8 p, .int .u8 t, .int .u16 i, .bool al] 26 (0, 0)) BK_gh.out) hG.out))
  have NB_gh_gk := Aside0.mk (Ne.symm NB_gk_gh.out)
  have HBo := Aside0.mk HB.out
  have nHB := Aside0.mk (HB.out.trans (hB.mono HB.out.size))
  clear HB
  have HB := nHB
  clear nHB
  clear hc_gh_0 hf_gh_0 hc_gh_1 hf_gh_1 hc_gh_2 hf_gh_2 hc_gh_3 hf_gh_3 hc_gh_4 hf_gh_4 hc_gh_5 hf_gh_5
  have nBK := Aside0.mk (blk_below (g := gh) (o := .cells #[.int .u32 s, .int .u32 d, .int .u8 p, .int .u8 t, .int .u16 i, .bool al] 26 (0, 0)) BK_gh.out hB)
  clear BK_gh
  have BK_gh := nBK
  clear nBK
  have hc_gh_0 : w7_.cell? ⟨gh, 0, none⟩ = some (.int .u32 s) := (blk_cell BK_gh.out 0).trans rfl
  have hf_gh_0 := blk_frozen BK_gh.out 0
  have hc_gh_1 : w7_.cell? ⟨gh, 1, none⟩ = some (.int .u32 d) := (blk_cell BK_gh.out 1).trans rfl
  have hf_gh_1 := blk_frozen BK_gh.out 1
  have hc_gh_2 : w7_.cell? ⟨gh, 2, none⟩ = some (.int .u8 p) := (blk_cell BK_gh.out 2).trans rfl
  have hf_gh_2 := blk_frozen BK_gh.out 2
  have hc_gh_3 : w7_.cell? ⟨gh, 3, none⟩ = some (.int .u8 t) := (blk_cell BK_gh.out 3).trans rfl
  have hf_gh_3 := blk_frozen BK_gh.out 3
  have hc_gh_4 : w7_.cell? ⟨gh, 4, none⟩ = some (.int .u16 i) := (blk_cell BK_gh.out 4).trans rfl
  have hf_gh_4 := blk_frozen BK_gh.out 4
  have hc_gh_5 : w7_.cell? ⟨gh, 5, none⟩ = some (.bool al) := (blk_cell BK_gh.out 5).trans rfl
  have hf_gh_5 := blk_frozen BK_gh.out 5
  have nHC := Aside0.mk (Kd.R_below HR_x.out hB)
  clear HR_x
  have HR_x := nHC
  clear nHC
  have nHC := Aside0.mk (Kd.R_below HR_q.out hB)
  clear HR_q
  have HR_q := nHC
  clear nHC
  have nHC := Aside0.mk (Kd.R_below HR_u.out hB)
  clear HR_u
  have HR_u := nHC
  clear nHC
  have BK_gk := Aside0.mk hBN
  have GE_gk := Aside0.mk (Nat.le_trans HBo.out.size hG.out)
  clear HBo hG hBN hB
  have hc_gk_0 : w7_.cell? ⟨gk, 0, none⟩ = some (.int .u32 s) := (blk_cell BK_gk.out 0).trans rfl
  have hf_gk_0 := blk_frozen BK_gk.out 0
  have hc_gk_1 : w7_.cell? ⟨gk, 1, none⟩ = some (.int .u32 d) := (blk_cell BK_gk.out 1).trans rfl
  have hf_gk_1 := blk_frozen BK_gk.out 1
  have hc_gk_2 : w7_.cell? ⟨gk, 2, none⟩ = some (.int .u8 p) := (blk_cell BK_gk.out 2).trans rfl
  have hf_gk_2 := blk_frozen BK_gk.out 2
  have hc_gk_3 : w7_.cell? ⟨gk, 3, none⟩ = some (.int .u8 (t - 1)) := (blk_cell BK_gk.out 3).trans rfl
  have hf_gk_3 := blk_frozen BK_gk.out 3
  have hc_gk_4 : w7_.cell? ⟨gk, 4, none⟩ = some (.int .u16 i) := (blk_cell BK_gk.out 4).trans rfl
  have hf_gk_4 := blk_frozen BK_gk.out 4
  have hc_gk_5 : w7_.cell? ⟨gk, 5, none⟩ = some (.bool al) := (blk_cell BK_gk.out 5).trans rfl
  have hf_gk_5 := blk_frozen BK_gk.out 5
  go_upto_region 10 with fail
  have nHB : Aside0 (Below w.heap.size w (w7_.setCell ⟨gh, 3, none⟩ (.int .u8 ((t - 1) % 256)))) := ⟨below_set HB.out GE_gh.out⟩
  have nBK : Aside0 ((w7_.setCell ⟨gh, 3, none⟩ (.int .u8 ((t - 1) % 256))).heap[gh]? = some (.cells #[.int .u32 s, .int .u32 d, .int .u8 p, .int .u8 ((t - 1) % 256), .int .u16 i, .bool al] 26 (0, 0))) := ⟨blk_put (cs := #[.int .u32 s, .int .u32 d, .int .u8 p, .int .u8 t, .int .u16 i, .bool al]) BK_gh.out 3 (.int .u8 ((t - 1) % 256)) rfl⟩
  have nB_gk : Aside0 ((w7_.setCell ⟨gh, 3, none⟩ (.int .u8 ((t - 1) % 256))).heap[gk]? = some (.cells #[.int .u32 s, .int .u32 d, .int .u8 p, .int .u8 (t - 1), .int .u16 i, .bool al] 26 (0, 0))) := ⟨blk_far BK_gk.out NB_gk_gh.out _⟩
  have nR_x := Aside0.mk (Kd.R_mono (Kd.R_far (p := ⟨gh, 3, none⟩) (Kd.R_types HR_x.out BK_gh.out (by decide)) (fun _ hk => hk.2) (.int .u8 ((t - 1) % 256))) (fun _ _ => trivial : ∀ k, _ → (fun _ => True) k))
  have nR_q := Aside0.mk (Kd.R_mono (Kd.R_far (p := ⟨gh, 3, none⟩) (Kd.R_types HR_q.out BK_gh.out (by decide)) (fun _ hk => hk.2) (.int .u8 ((t - 1) % 256))) (fun _ _ => trivial : ∀ k, _ → (fun _ => True) k))
  have nR_u := Aside0.mk (Kd.R_mono (Kd.R_far (p := ⟨gh, 3, none⟩) (Kd.R_types HR_u.out BK_gh.out (by decide)) (fun _ hk => hk.2) (.int .u8 ((t - 1) % 256))) (fun _ _ => trivial : ∀ k, _ → (fun _ => True) k))
  clear hc_gh_0 hf_gh_0 hc_gh_1 hf_gh_1 hc_gh_2 hf_gh_2 hc_gh_3 hf_gh_3 hc_gh_4 hf_gh_4 hc_gh_5 hf_gh_5
  clear BK_gh
  clear hc_gk_0 hf_gk_0 hc_gk_1 hf_gk_1 hc_gk_2 hf_gk_2 hc_gk_3 hf_gk_3 hc_gk_4 hf_gk_4 hc_gk_5 hf_gk_5
  clear BK_gk
  clear HR_x
  clear HR_q
  clear HR_u
  clear HB
  generalize (w7_.setCell ⟨gh, 3, none⟩ (.int .u8 ((t - 1) % 256))) = w8_ at nHB nBK nB_gk nR_x nR_q nR_u ⊢
  have HB := nHB
  have BK_gh := nBK
  have BK_gk := nB_gk
  have HR_x := nR_x
  have HR_q := nR_q
  have HR_u := nR_u
  clear nHB nBK nB_gk nR_x nR_q nR_u
  have hc_gh_0 : w8_.cell? ⟨gh, 0, none⟩ = some (.int .u32 s) := (blk_cell BK_gh.out 0).trans rfl
  have hf_gh_0 := blk_frozen BK_gh.out 0
  have hc_gh_1 : w8_.cell? ⟨gh, 1, none⟩ = some (.int .u32 d) := (blk_cell BK_gh.out 1).trans rfl
  have hf_gh_1 := blk_frozen BK_gh.out 1
  have hc_gh_2 : w8_.cell? ⟨gh, 2, none⟩ = some (.int .u8 p) := (blk_cell BK_gh.out 2).trans rfl
  have hf_gh_2 := blk_frozen BK_gh.out 2
  have hc_gh_3 : w8_.cell? ⟨gh, 3, none⟩ = some (.int .u8 ((t - 1) % 256)) := (blk_cell BK_gh.out 3).trans rfl
  have hf_gh_3 := blk_frozen BK_gh.out 3
  have hc_gh_4 : w8_.cell? ⟨gh, 4, none⟩ = some (.int .u16 i) := (blk_cell BK_gh.out 4).trans rfl
  have hf_gh_4 := blk_frozen BK_gh.out 4
  have hc_gh_5 : w8_.cell? ⟨gh, 5, none⟩ = some (.bool al) := (blk_cell BK_gh.out 5).trans rfl
  have hf_gh_5 := blk_frozen BK_gh.out 5
  have hc_gk_0 : w8_.cell? ⟨gk, 0, none⟩ = some (.int .u32 s) := (blk_cell BK_gk.out 0).trans rfl
  have hf_gk_0 := blk_frozen BK_gk.out 0
  have hc_gk_1 : w8_.cell? ⟨gk, 1, none⟩ = some (.int .u32 d) := (blk_cell BK_gk.out 1).trans rfl
  have hf_gk_1 := blk_frozen BK_gk.out 1
  have hc_gk_2 : w8_.cell? ⟨gk, 2, none⟩ = some (.int .u8 p) := (blk_cell BK_gk.out 2).trans rfl
  have hf_gk_2 := blk_frozen BK_gk.out 2
  have hc_gk_3 : w8_.cell? ⟨gk, 3, none⟩ = some (.int .u8 (t - 1)) := (blk_cell BK_gk.out 3).trans rfl
  have hf_gk_3 := blk_frozen BK_gk.out 3
  have hc_gk_4 : w8_.cell? ⟨gk, 4, none⟩ = some (.int .u16 i) := (blk_cell BK_gk.out 4).trans rfl
  have hf_gk_4 := blk_frozen BK_gk.out 4
  have hc_gk_5 : w8_.cell? ⟨gk, 5, none⟩ = some (.bool al) := (blk_cell BK_gk.out 5).trans rfl
  have hf_gk_5 := blk_frozen BK_gk.out 5
  have ht1 := HT1.out
  have hqx := HQX.out
  go_wp2_with (first | (go_at_call 12; refine (same_calls HBE.out (beq_self_eq_true b) _ _ _ _ _ (Kd.R_reads' HR_u.out).2.2 (Kd.R_reads' HR_u.out).2.1 (Kd.C_below HC_b.out HB.out) HK_b.out).mono ?_; rintro e w9_ ⟨rfl, hB⟩; have nHB := Aside0.mk (HB.out.trans (hB.mono HB.out.size)); clear HB; have HB := nHB; clear nHB; clear hc_gh_0 hf_gh_0 hc_gh_1 hf_gh_1 hc_gh_2 hf_gh_2 hc_gh_3 hf_gh_3 hc_gh_4 hf_gh_4 hc_gh_5 hf_gh_5; have nBK := Aside0.mk (blk_below (g := gh) (o := .cells #[.int .u32 s, .int .u32 d, .int .u8 p, .int .u8 ((t - 1) % 256), .int .u16 i, .bool al] 26 (0, 0)) BK_gh.out hB); clear BK_gh; have BK_gh := nBK; clear nBK; have hc_gh_0 : w9_.cell? ⟨gh, 0, none⟩ = some (.int .u32 s) := (blk_cell BK_gh.out 0).trans rfl; have hf_gh_0 := blk_frozen BK_gh.out 0; have hc_gh_1 : w9_.cell? ⟨gh, 1, none⟩ = some (.int .u32 d) := (blk_cell BK_gh.out 1).trans rfl; have hf_gh_1 := blk_frozen BK_gh.out 1; have hc_gh_2 : w9_.cell? ⟨gh, 2, none⟩ = some (.int .u8 p) := (blk_cell BK_gh.out 2).trans rfl; have hf_gh_2 := blk_frozen BK_gh.out 2; have hc_gh_3 : w9_.cell? ⟨gh, 3, none⟩ = some (.int .u8 ((t - 1) % 256)) := (blk_cell BK_gh.out 3).trans rfl; have hf_gh_3 := blk_frozen BK_gh.out 3; have hc_gh_4 : w9_.cell? ⟨gh, 4, none⟩ = some (.int .u16 i) := (blk_cell BK_gh.out 4).trans rfl; have hf_gh_4 := blk_frozen BK_gh.out 4; have hc_gh_5 : w9_.cell? ⟨gh, 5, none⟩ = some (.bool al) := (blk_cell BK_gh.out 5).trans rfl; have hf_gh_5 := blk_frozen BK_gh.out 5; clear hc_gk_0 hf_gk_0 hc_gk_1 hf_gk_1 hc_gk_2 hf_gk_2 hc_gk_3 hf_gk_3 hc_gk_4 hf_gk_4 hc_gk_5 hf_gk_5; have nBK := Aside0.mk (blk_below (g := gk) (o := .cells #[.int .u32 s, .int .u32 d, .int .u8 p, .int .u8 (t - 1), .int .u16 i, .bool al] 26 (0, 0)) BK_gk.out hB); clear BK_gk; have BK_gk := nBK; clear nBK; have hc_gk_0 : w9_.cell? ⟨gk, 0, none⟩ = some (.int .u32 s) := (blk_cell BK_gk.out 0).trans rfl; have hf_gk_0 := blk_frozen BK_gk.out 0; have hc_gk_1 : w9_.cell? ⟨gk, 1, none⟩ = some (.int .u32 d) := (blk_cell BK_gk.out 1).trans rfl; have hf_gk_1 := blk_frozen BK_gk.out 1; have hc_gk_2 : w9_.cell? ⟨gk, 2, none⟩ = some (.int .u8 p) := (blk_cell BK_gk.out 2).trans rfl; have hf_gk_2 := blk_frozen BK_gk.out 2; have hc_gk_3 : w9_.cell? ⟨gk, 3, none⟩ = some (.int .u8 (t - 1)) := (blk_cell BK_gk.out 3).trans rfl; have hf_gk_3 := blk_frozen BK_gk.out 3; have hc_gk_4 : w9_.cell? ⟨gk, 4, none⟩ = some (.int .u16 i) := (blk_cell BK_gk.out 4).trans rfl; have hf_gk_4 := blk_frozen BK_gk.out 4; have hc_gk_5 : w9_.cell? ⟨gk, 5, none⟩ = some (.bool al) := (blk_cell BK_gk.out 5).trans rfl; have hf_gk_5 := blk_frozen BK_gk.out 5; have nHC := Aside0.mk (Kd.R_below HR_x.out hB); clear HR_x; have HR_x := nHC; clear nHC; have nHC := Aside0.mk (Kd.R_below HR_q.out hB); clear HR_q; have HR_q := nHC; clear nHC; have nHC := Aside0.mk (Kd.R_below HR_u.out hB); clear HR_u; have HR_u := nHC; clear nHC; clear hB))
  go_ret
  exact ⟨rfl, HB.out⟩
theorem ipPasses_call {s d p t i : Int} {al : Bool} (hok : HOk s d p t i) {b : List Int} (hbb : Byt b) (A : Option Addr) (c : Nat) (w : World) (hr : Kd.C (Kd.int .u8) w A b.length b) (hc : b.length ≤ c) :
    Calls Try.prog 8 #[.agg #[.int .u32 s, .int .u32 d, .int .u8 p, .int .u8 t, .int .u16 i, .bool al], .slice A b.length c] w fun e w' => e = .returned (.bool true) ∧ Below w.heap.size w w' := by
  have hh := hlen_range al
  by_cases hl : 1400 < (b.length : Int)
  · exact ipPasses_long hl A c w hr hc
  have hx := enc_len hok al hbb
  have he := enc_some s d p t i al b (by omega)
  have hd1 : dec (hd s d p t i al ((hlen al + b.length : Nat) : Int) ++ b) = (s, d, p, t, i, al, b, 0) := by
    have := dec_frame hok al b [] (by omega)
    rwa [List.append_nil] at this
  rw [he] at hx
  by_cases ht : t < 2
  · refine ipPasses_few hok hbb hl ht he hx.1 (by have := hx.2; simp only at this; omega) ?_ A c w hr hc
    unfold pass
    rw [hd1, if_pos rfl, if_pos ht]
  · have hok' : HOk s d p (t - 1) i := ⟨hok.1, hok.2.1, hok.2.2.1, by have := hok.2.2.2.1; omega, hok.2.2.2.2⟩
    have hy := enc_len hok' al hbb
    have he' := enc_some s d p (t - 1) i al b (by omega)
    rw [he'] at hy
    refine ipPasses_main hok hbb hl ht he hx.1 (by have := hx.2; simp only at this; omega) ?_ hy.1 (by have := hy.2; simp only at this; omega) (by simp only [List.length_append, hd_len]) ?_ A c w hr hc
    · unfold pass
      rw [hd1, if_pos rfl, if_neg ht, ← he']
    · have := dec_frame hok' al b [] (by omega)
      rwa [List.append_nil] at this
end Go.Proofs.Ytlaanmkangikbaa
