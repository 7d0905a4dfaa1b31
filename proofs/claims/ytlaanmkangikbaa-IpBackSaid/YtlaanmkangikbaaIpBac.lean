/-
  IpBack, walked.
-/
import Derived.Test.YtlaanmkangikbaaIpW
namespace Go.Proofs.Ytlaanmkangikbaa
open Go.RowKit Go.Proofs.YtlaanmkangikbaaW.PrintWords Go.Proofs.YtlaanmkangikbaaW.PrintLast Go.Proofs.YtlaanmkangikbaaW.PrintMore Go.Proofs.Ytlaanmkangikbaa.PIp
set_option linter.unusedVariables false
set_option maxHeartbeats 8000000 in
set_option maxRecDepth 100000 in
theorem ipBack_long {s d p t i : Int} {al : Bool} {b m : List Int} (hl : 1400 < (b.length : Int) ∨ 500 < (m.length : Int)) (A_b : Option Addr) (c_b : Nat) (A_m : Option Addr) (c_m : Nat) (w : World) (hr : Kd.C (Kd.int .u8) w A_b b.length b) (hc : b.length ≤ c_b) (hr2 : Kd.C (Kd.int .u8) w A_m m.length m) (hc2 : m.length ≤ c_m) :
    Calls Try.prog 3 #[.agg #[.int .u32 s, .int .u32 d, .int .u8 p, .int .u8 t, .int .u16 i, .bool al], .slice A_b b.length c_b, .slice A_m m.length c_m] w fun e w' => e = .returned (.bool true) ∧ Below w.heap.size w w' := by
  have hu26 := Try.underlying26
  have HB := Aside0.mk (Below.refl w.heap.size w)
  have HC_b := Aside0.mk hr
  have HK_b := Aside0.mk hc
  have HC_m := Aside0.mk hr2
  have HK_m := Aside0.mk hc2
  clear hr hc hr2 hc2
  have HL := Aside0.mk hl
  clear hl
  go_enter Try.func3, Try.ntmps3
  go_upto_region 2 with (first | ((with_reducible refine gate_dst (N := 3) rfl ?_); (try (refine gate_guard (by rfl) ?_; dsimp only)); refine box_event ?hg (N := 3) ?hd (cs := #[.int .u32 s, .int .u32 d, .int .u8 p, .int .u8 t, .int .u16 i, .bool al]) (t := 26) ?hr ?_; (case hd => rfl); (case hg => rfl); (case hr => first | (go_simp; done) | (go_simp; rfl)); intro gh hg w1_ hbox hB; have HBo := Aside0.mk HB.out; have nHB := Aside0.mk (HB.out.trans (hB.mono HB.out.size)); clear HB; have HB := nHB; clear nHB; have BK_gh := Aside0.mk hbox; have GE_gh := Aside0.mk (show w.heap.size ≤ gh by rw [hg]; exact HBo.out.size); clear hg hbox hB; have hc_gh_0 : w1_.cell? ⟨gh, 0, none⟩ = some (.int .u32 s) := (blk_cell BK_gh.out 0).trans rfl; have hf_gh_0 := blk_frozen BK_gh.out 0; have hc_gh_1 : w1_.cell? ⟨gh, 1, none⟩ = some (.int .u32 d) := (blk_cell BK_gh.out 1).trans rfl; have hf_gh_1 := blk_frozen BK_gh.out 1; have hc_gh_2 : w1_.cell? ⟨gh, 2, none⟩ = some (.int .u8 p) := (blk_cell BK_gh.out 2).trans rfl; have hf_gh_2 := blk_frozen BK_gh.out 2; have hc_gh_3 : w1_.cell? ⟨gh, 3, none⟩ = some (.int .u8 t) := (blk_cell BK_gh.out 3).trans rfl; have hf_gh_3 := blk_frozen BK_gh.out 3; have hc_gh_4 : w1_.cell? ⟨gh, 4, none⟩ = some (.int .u16 i) := (blk_cell BK_gh.out 4).trans rfl; have hf_gh_4 := blk_frozen BK_gh.out 4; have hc_gh_5 : w1_.cell? ⟨gh, 5, none⟩ = some (.bool al) := (blk_cell BK_gh.out 5).trans rfl; have hf_gh_5 := blk_frozen BK_gh.out 5; clear HBo) | (go_at_call 9; refine (shown_calls _).mono ?_; rintro e w2_ ⟨rfl, hB⟩; have nHB := Aside0.mk (HB.out.trans (hB.mono HB.out.size)); clear HB; have HB := nHB; clear nHB; clear hc_gh_0 hf_gh_0 hc_gh_1 hf_gh_1 hc_gh_2 hf_gh_2 hc_gh_3 hf_gh_3 hc_gh_4 hf_gh_4 hc_gh_5 hf_gh_5; have nBK := Aside0.mk (blk_below (g := gh) (o := .cells #[.int .u32 s, .int .u32 d, .int .u8 p, .int .u8 t, .int .u16 i, .bool al] 26 (0, 0)) BK_gh.out hB); clear BK_gh; have BK_gh := nBK; clear nBK; have hc_gh_0 : w2_.cell? ⟨gh, 0, none⟩ = some (.int .u32 s) := (blk_cell BK_gh.out 0).trans rfl; have hf_gh_0 := blk_frozen BK_gh.out 0; have hc_gh_1 : w2_.cell? ⟨gh, 1, none⟩ = some (.int .u32 d) := (blk_cell BK_gh.out 1).trans rfl; have hf_gh_1 := blk_frozen BK_gh.out 1; have hc_gh_2 : w2_.cell? ⟨gh, 2, none⟩ = some (.int .u8 p) := (blk_cell BK_gh.out 2).trans rfl; have hf_gh_2 := blk_frozen BK_gh.out 2; have hc_gh_3 : w2_.cell? ⟨gh, 3, none⟩ = some (.int .u8 t) := (blk_cell BK_gh.out 3).trans rfl; have hf_gh_3 := blk_frozen BK_gh.out 3; have hc_gh_4 : w2_.cell? ⟨gh, 4, none⟩ = some (.int .u16 i) := (blk_cell BK_gh.out 4).trans rfl; have hf_gh_4 := blk_frozen BK_gh.out 4; have hc_gh_5 : w2_.cell? ⟨gh, 5, none⟩ = some (.bool al) := (blk_cell BK_gh.out 5).trans rfl; have hf_gh_5 := blk_frozen BK_gh.out 5; clear hB))
  by_cases c1 : 1400 < (b.length : Int)
  · go_wp2
    go_ret
    exact ⟨rfl, HB.out⟩
  have c2 : 500 < (m.length : Int) := by have := HL.out; omega
  go_wp2
  go_ret
  exact ⟨rfl, HB.out⟩
set_option maxHeartbeats 8000000 in
set_option maxRecDepth 100000 in
theorem ipBack_wrong {s d p t i : Int} {al : Bool} (hok : HOk s d p t i) {b m : List Int} (hbb : Byt b) (hmb : Byt m) (hl : ¬ (1400 < (b.length : Int))) (hl2 : ¬ (500 < (m.length : Int))) {x : List Int} (hx : enc s d p t i al b = (x, 0)) (hxb : Byt x) (hxl : x.length ≤ 1500) (hd : dec (x ++ m) = (s, d, p, t, i, al, b, 0))  {e1 : Int} (he1 : e1 ≠ 0) (hw : dec m = W e1) (A_b : Option Addr) (c_b : Nat) (A_m : Option Addr) (c_m : Nat) (w : World) (hr : Kd.C (Kd.int .u8) w A_b b.length b) (hc : b.length ≤ c_b) (hr2 : Kd.C (Kd.int .u8) w A_m m.length m) (hc2 : m.length ≤ c_m) :
    Calls Try.prog 3 #[.agg #[.int .u32 s, .int .u32 d, .int .u8 p, .int .u8 t, .int .u16 i, .bool al], .slice A_b b.length c_b, .slice A_m m.length c_m] w fun e w' => e = .returned (.bool true) ∧ Below w.heap.size w w' := by
  have hu26 := Try.underlying26
  have HB := Aside0.mk (Below.refl w.heap.size w)
  have HC_b := Aside0.mk hr
  have HK_b := Aside0.mk hc
  have HC_m := Aside0.mk hr2
  have HK_m := Aside0.mk hc2
  clear hr hc hr2 hc2
  have HBL := Aside0.mk (show b.length ≤ 140737488355328 by omega)
  have HBE := Aside0.mk (show b.length ≤ 1000000 by omega)
  have HML := Aside0.mk (show m.length ≤ 1000000 by omega)
  have HBD1 := Aside0.mk (show (([] : List Int).length + x.length) * 1 ≤ 140737488355328 by simp; omega)
  have HBD2 := Aside0.mk (show (x.length + m.length) * 1 ≤ 140737488355328 by omega)
  have HXM := Aside0.mk (show (x ++ m).length ≤ 1000000 by rw [List.length_append]; omega)
  have HX := Aside0.mk hx
  have HXB := Aside0.mk hxb
  have HXL := Aside0.mk hxl
  have HD := Aside0.mk hd
  have HMB := Aside0.mk hmb
  have HW := Aside0.mk hw
  clear hx hxb hxl hd hmb hw
  go_enter Try.func3, Try.ntmps3
  go_upto_region 5 with (first | ((with_reducible refine gate_dst (N := 3) rfl ?_); (try (refine gate_guard (by rfl) ?_; dsimp only)); refine box_event ?hg (N := 3) ?hd (cs := #[.int .u32 s, .int .u32 d, .int .u8 p, .int .u8 t, .int .u16 i, .bool al]) (t := 26) ?hr ?_; (case hd => rfl); (case hg => rfl); (case hr => first | (go_simp; done) | (go_simp; rfl)); intro gh hg w1_ hbox hB; have HBo := Aside0.mk HB.out; have nHB := Aside0.mk (HB.out.trans (hB.mono HB.out.size)); clear HB; have HB := nHB; clear nHB; have BK_gh := Aside0.mk hbox; have GE_gh := Aside0.mk (show w.heap.size ≤ gh by rw [hg]; exact HBo.out.size); clear hg hbox hB; have hc_gh_0 : w1_.cell? ⟨gh, 0, none⟩ = some (.int .u32 s) := (blk_cell BK_gh.out 0).trans rfl; have hf_gh_0 := blk_frozen BK_gh.out 0; have hc_gh_1 : w1_.cell? ⟨gh, 1, none⟩ = some (.int .u32 d) := (blk_cell BK_gh.out 1).trans rfl; have hf_gh_1 := blk_frozen BK_gh.out 1; have hc_gh_2 : w1_.cell? ⟨gh, 2, none⟩ = some (.int .u8 p) := (blk_cell BK_gh.out 2).trans rfl; have hf_gh_2 := blk_frozen BK_gh.out 2; have hc_gh_3 : w1_.cell? ⟨gh, 3, none⟩ = some (.int .u8 t) := (blk_cell BK_gh.out 3).trans rfl; have hf_gh_3 := blk_frozen BK_gh.out 3; have hc_gh_4 : w1_.cell? ⟨gh, 4, none⟩ = some (.int .u16 i) := (blk_cell BK_gh.out 4).trans rfl; have hf_gh_4 := blk_frozen BK_gh.out 4; have hc_gh_5 : w1_.cell? ⟨gh, 5, none⟩ = some (.bool al) := (blk_cell BK_gh.out 5).trans rfl; have hf_gh_5 := blk_frozen BK_gh.out 5; clear HBo) | (go_at_call 9; refine (shown_calls _).mono ?_; rintro e w2_ ⟨rfl, hB⟩; have nHB := Aside0.mk (HB.out.trans (hB.mono HB.out.size)); clear HB; have HB := nHB; clear nHB; clear hc_gh_0 hf_gh_0 hc_gh_1 hf_gh_1 hc_gh_2 hf_gh_2 hc_gh_3 hf_gh_3 hc_gh_4 hf_gh_4 hc_gh_5 hf_gh_5; have nBK := Aside0.mk (blk_below (g := gh) (o := .cells #[.int .u32 s, .int .u32 d, .int .u8 p, .int .u8 t, .int .u16 i, .bool al] 26 (0, 0)) BK_gh.out hB); clear BK_gh; have BK_gh := nBK; clear nBK; have hc_gh_0 : w2_.cell? ⟨gh, 0, none⟩ = some (.int .u32 s) := (blk_cell BK_gh.out 0).trans rfl; have hf_gh_0 := blk_frozen BK_gh.out 0; have hc_gh_1 : w2_.cell? ⟨gh, 1, none⟩ = some (.int .u32 d) := (blk_cell BK_gh.out 1).trans rfl; have hf_gh_1 := blk_frozen BK_gh.out 1; have hc_gh_2 : w2_.cell? ⟨gh, 2, none⟩ = some (.int .u8 p) := (blk_cell BK_gh.out 2).trans rfl; have hf_gh_2 := blk_frozen BK_gh.out 2; have hc_gh_3 : w2_.cell? ⟨gh, 3, none⟩ = some (.int .u8 t) := (blk_cell BK_gh.out 3).trans rfl; have hf_gh_3 := blk_frozen BK_gh.out 3; have hc_gh_4 : w2_.cell? ⟨gh, 4, none⟩ = some (.int .u16 i) := (blk_cell BK_gh.out 4).trans rfl; have hf_gh_4 := blk_frozen BK_gh.out 4; have hc_gh_5 : w2_.cell? ⟨gh, 5, none⟩ = some (.bool al) := (blk_cell BK_gh.out 5).trans rfl; have hf_gh_5 := blk_frozen BK_gh.out 5; clear hB) | (go_at_call 10; refine (encode_calls hok HBL.out HX.out _ _ _ (Kd.C_below HC_b.out HB.out) HK_b.out).mono ?_; rintro e w3_ ⟨v_x, rfl, hR, hB⟩; obtain ⟨A_x, c_x, rfl⟩ := Kd.R_slice hR; have nHB := Aside0.mk (HB.out.trans (hB.mono HB.out.size)); clear HB; have HB := nHB; clear nHB; clear hc_gh_0 hf_gh_0 hc_gh_1 hf_gh_1 hc_gh_2 hf_gh_2 hc_gh_3 hf_gh_3 hc_gh_4 hf_gh_4 hc_gh_5 hf_gh_5; have nBK := Aside0.mk (blk_below (g := gh) (o := .cells #[.int .u32 s, .int .u32 d, .int .u8 p, .int .u8 t, .int .u16 i, .bool al] 26 (0, 0)) BK_gh.out hB); clear BK_gh; have BK_gh := nBK; clear nBK; have hc_gh_0 : w3_.cell? ⟨gh, 0, none⟩ = some (.int .u32 s) := (blk_cell BK_gh.out 0).trans rfl; have hf_gh_0 := blk_frozen BK_gh.out 0; have hc_gh_1 : w3_.cell? ⟨gh, 1, none⟩ = some (.int .u32 d) := (blk_cell BK_gh.out 1).trans rfl; have hf_gh_1 := blk_frozen BK_gh.out 1; have hc_gh_2 : w3_.cell? ⟨gh, 2, none⟩ = some (.int .u8 p) := (blk_cell BK_gh.out 2).trans rfl; have hf_gh_2 := blk_frozen BK_gh.out 2; have hc_gh_3 : w3_.cell? ⟨gh, 3, none⟩ = some (.int .u8 t) := (blk_cell BK_gh.out 3).trans rfl; have hf_gh_3 := blk_frozen BK_gh.out 3; have hc_gh_4 : w3_.cell? ⟨gh, 4, none⟩ = some (.int .u16 i) := (blk_cell BK_gh.out 4).trans rfl; have hf_gh_4 := blk_frozen BK_gh.out 4; have hc_gh_5 : w3_.cell? ⟨gh, 5, none⟩ = some (.bool al) := (blk_cell BK_gh.out 5).trans rfl; have hf_gh_5 := blk_frozen BK_gh.out 5; have HR_x := Aside0.mk (Kd.R_mono hR (fun _ _ => trivial : ∀ k, _ → (fun _ => True) k)); clear hR; clear hB))
  have RDX := Aside0.mk (show ReadsInt w3_ .u8 A_x x.length x from Kd.reads_of_C (enc := Value.int .u8) (d := (0 : Int)) (h1 := fun _ => rfl) (Kd.R_reads' HR_x.out).2.2)
  go_upto_region 6 with (first | ((with_reducible refine gate_dst (N := 37) rfl ?_); refine print_append_row (w0 := w3_) w3_.heap.size rfl (.tmp 35) (.tmp 36) 27 5 .u8 1 rfl rfl Try.info5 (by decide) _ [] x A_x x.length c_x rfl rfl (World.ownsRow_lit (size := 1) w3_ #[] 0 (Nat.le_refl _) (by simp [maxLen]) rfl) (RDX.out.allocS _) ((Below.refl _ w3_).alloc (Nat.le_refl _) _) (by simp) HBD1.out ?_; intro va wa hown hBa _ _; have HOA := Aside0.mk (show wa.ownsRow w3_.heap.size 5 1 va x.length (nums .u8 x) by simpa only [List.nil_append] using hown); have hBA := Aside0.mk hBa; clear hown hBa) | ((with_reducible refine gate_dst (N := 39) rfl ?_); refine print_append_row (w0 := w3_) w3_.heap.size rfl (.tmp 37) (.tmp 38) 27 5 .u8 1 rfl rfl Try.info5 (by decide) _ x m A_m m.length c_m rfl rfl HOA.out (Kd.reads_of_C (enc := Value.int .u8) (d := (0 : Int)) (h1 := fun _ => rfl) (Kd.C_below HC_m.out (HB.out.trans (hBA.out.mono HB.out.size)))) hBA.out hBA.out.size HBD2.out ?_; intro vz w4_ hown hB _ _; have hR : Kd.R (Kd.int .u8) 5 w4_ w3_.heap.size (fun _ => True) vz (x ++ m) := Kd.R_of_own hown (fun _ _ => trivial); obtain ⟨z, hz_⟩ : ∃ zz_, zz_ = x ++ m := ⟨_, rfl⟩; rw [← hz_] at hR; have HZ_z := Aside0.mk hz_; clear hz_ hown; obtain ⟨A_z, c_z, rfl⟩ := Kd.R_slice hR; have nHB := Aside0.mk (HB.out.trans (hB.mono HB.out.size)); clear HB; have HB := nHB; clear nHB; clear hc_gh_0 hf_gh_0 hc_gh_1 hf_gh_1 hc_gh_2 hf_gh_2 hc_gh_3 hf_gh_3 hc_gh_4 hf_gh_4 hc_gh_5 hf_gh_5; have nBK := Aside0.mk (blk_below (g := gh) (o := .cells #[.int .u32 s, .int .u32 d, .int .u8 p, .int .u8 t, .int .u16 i, .bool al] 26 (0, 0)) BK_gh.out hB); clear BK_gh; have BK_gh := nBK; clear nBK; have hc_gh_0 : w4_.cell? ⟨gh, 0, none⟩ = some (.int .u32 s) := (blk_cell BK_gh.out 0).trans rfl; have hf_gh_0 := blk_frozen BK_gh.out 0; have hc_gh_1 : w4_.cell? ⟨gh, 1, none⟩ = some (.int .u32 d) := (blk_cell BK_gh.out 1).trans rfl; have hf_gh_1 := blk_frozen BK_gh.out 1; have hc_gh_2 : w4_.cell? ⟨gh, 2, none⟩ = some (.int .u8 p) := (blk_cell BK_gh.out 2).trans rfl; have hf_gh_2 := blk_frozen BK_gh.out 2; have hc_gh_3 : w4_.cell? ⟨gh, 3, none⟩ = some (.int .u8 t) := (blk_cell BK_gh.out 3).trans rfl; have hf_gh_3 := blk_frozen BK_gh.out 3; have hc_gh_4 : w4_.cell? ⟨gh, 4, none⟩ = some (.int .u16 i) := (blk_cell BK_gh.out 4).trans rfl; have hf_gh_4 := blk_frozen BK_gh.out 4; have hc_gh_5 : w4_.cell? ⟨gh, 5, none⟩ = some (.bool al) := (blk_cell BK_gh.out 5).trans rfl; have hf_gh_5 := blk_frozen BK_gh.out 5; have nHC := Aside0.mk (Kd.R_below HR_x.out hB); clear HR_x; have HR_x := nHC; clear nHC; have HR_z := Aside0.mk hR; clear hR hB HOA hBA RDX) | (go_at_call 11; refine (decode_calls (show Byt z by rw [HZ_z.out]; exact HXB.out.append HMB.out) (show z.length ≤ 1000000 by rw [HZ_z.out]; exact HXM.out) (show dec z = (s, d, p, t, i, al, b, 0) by rw [HZ_z.out]; exact HD.out) _ _ _ (Kd.R_reads' HR_z.out).2.2 (Kd.R_reads' HR_z.out).2.1).mono ?_; rintro e w5_ ⟨v_u, rfl, hR, hB⟩; obtain ⟨A_u, c_u, rfl⟩ := Kd.R_slice hR; have nHB := Aside0.mk (HB.out.trans (hB.mono HB.out.size)); clear HB; have HB := nHB; clear nHB; clear hc_gh_0 hf_gh_0 hc_gh_1 hf_gh_1 hc_gh_2 hf_gh_2 hc_gh_3 hf_gh_3 hc_gh_4 hf_gh_4 hc_gh_5 hf_gh_5; have nBK := Aside0.mk (blk_below (g := gh) (o := .cells #[.int .u32 s, .int .u32 d, .int .u8 p, .int .u8 t, .int .u16 i, .bool al] 26 (0, 0)) BK_gh.out hB); clear BK_gh; have BK_gh := nBK; clear nBK; have hc_gh_0 : w5_.cell? ⟨gh, 0, none⟩ = some (.int .u32 s) := (blk_cell BK_gh.out 0).trans rfl; have hf_gh_0 := blk_frozen BK_gh.out 0; have hc_gh_1 : w5_.cell? ⟨gh, 1, none⟩ = some (.int .u32 d) := (blk_cell BK_gh.out 1).trans rfl; have hf_gh_1 := blk_frozen BK_gh.out 1; have hc_gh_2 : w5_.cell? ⟨gh, 2, none⟩ = some (.int .u8 p) := (blk_cell BK_gh.out 2).trans rfl; have hf_gh_2 := blk_frozen BK_gh.out 2; have hc_gh_3 : w5_.cell? ⟨gh, 3, none⟩ = some (.int .u8 t) := (blk_cell BK_gh.out 3).trans rfl; have hf_gh_3 := blk_frozen BK_gh.out 3; have hc_gh_4 : w5_.cell? ⟨gh, 4, none⟩ = some (.int .u16 i) := (blk_cell BK_gh.out 4).trans rfl; have hf_gh_4 := blk_frozen BK_gh.out 4; have hc_gh_5 : w5_.cell? ⟨gh, 5, none⟩ = some (.bool al) := (blk_cell BK_gh.out 5).trans rfl; have hf_gh_5 := blk_frozen BK_gh.out 5; have nHC := Aside0.mk (Kd.R_below HR_x.out hB); clear HR_x; have HR_x := nHC; clear nHC; have nHC := Aside0.mk (Kd.R_below HR_z.out hB); clear HR_z; have HR_z := nHC; clear nHC; have HR_u := Aside0.mk (Kd.R_mono hR (fun _ _ => trivial : ∀ k, _ → (fun _ => True) k)); clear hR; clear hB) | ((with_reducible refine gate_dst (N := 10) rfl ?_); (try (refine gate_guard (by rfl) ?_; dsimp only)); refine box_event ?hg (N := 10) ?hd (cs := #[.int .u32 0, .int .u32 0, .int .u8 0, .int .u8 0, .int .u16 0, .bool false]) (t := 26) ?hr ?_; (case hd => rfl); (case hg => rfl); (case hr => first | (go_simp; done) | (go_simp; rfl)); intro gk hg w6_ hbox hB0; have hG := Aside0.mk (show w5_.heap.size ≤ gk from Nat.le_of_eq hg.symm); clear hg; have hBX := Aside0.mk hbox; have hB1 := Aside0.mk hB0; clear hB0; have hc_gk_0 : w6_.cell? ⟨gk, 0, none⟩ = some (.int .u32 0) := (blk_cell hbox 0).trans rfl; have hf_gk_0 := blk_frozen hbox 0; have hc_gk_1 : w6_.cell? ⟨gk, 1, none⟩ = some (.int .u32 0) := (blk_cell hbox 1).trans rfl; have hf_gk_1 := blk_frozen hbox 1; have hc_gk_2 : w6_.cell? ⟨gk, 2, none⟩ = some (.int .u8 0) := (blk_cell hbox 2).trans rfl; have hf_gk_2 := blk_frozen hbox 2; have hc_gk_3 : w6_.cell? ⟨gk, 3, none⟩ = some (.int .u8 0) := (blk_cell hbox 3).trans rfl; have hf_gk_3 := blk_frozen hbox 3; have hc_gk_4 : w6_.cell? ⟨gk, 4, none⟩ = some (.int .u16 0) := (blk_cell hbox 4).trans rfl; have hf_gk_4 := blk_frozen hbox 4; have hc_gk_5 : w6_.cell? ⟨gk, 5, none⟩ = some (.bool false) := (blk_cell hbox 5).trans rfl; have hf_gk_5 := blk_frozen hbox 5; clear hbox))
  have hB : Below w5_.heap.size w5_ ((((((w6_.setCell ⟨gk, 0, none⟩ (.int .u32 s)).setCell ⟨gk, 1, none⟩ (.int .u32 d)).setCell ⟨gk, 2, none⟩ (.int .u8 p)).setCell ⟨gk, 3, none⟩ (.int .u8 t)).setCell ⟨gk, 4, none⟩ (.int .u16 i)).setCell ⟨gk, 5, none⟩ (.bool al)) := (below_set (below_set (below_set (below_set (below_set (below_set hB1.out hG.out) hG.out) hG.out) hG.out) hG.out) hG.out)
  have hBN : ((((((w6_.setCell ⟨gk, 0, none⟩ (.int .u32 s)).setCell ⟨gk, 1, none⟩ (.int .u32 d)).setCell ⟨gk, 2, none⟩ (.int .u8 p)).setCell ⟨gk, 3, none⟩ (.int .u8 t)).setCell ⟨gk, 4, none⟩ (.int .u16 i)).setCell ⟨gk, 5, none⟩ (.bool al)).heap[gk]? = some (.cells #[.int .u32 s, .int .u32 d, .int .u8 p, .int .u8 t, .int .u16 i, .bool al] 26 (0, 0)) := (blk_put (cs := #[.int .u32 s, .int .u32 d, .int .u8 p, .int .u8 t, .int .u16 i, .bool false]) (blk_put (cs := #[.int .u32 s, .int .u32 d, .int .u8 p, .int .u8 t, .int .u16 0, .bool false]) (blk_put (cs := #[.int .u32 s, .int .u32 d, .int .u8 p, .int .u8 0, .int .u16 0, .bool false]) (blk_put (cs := #[.int .u32 s, .int .u32 d, .int .u8 0, .int .u8 0, .int .u16 0, .bool false]) (blk_put (cs := #[.int .u32 s, .int .u32 0, .int .u8 0, .int .u8 0, .int .u16 0, .bool false]) (blk_put (cs := #[.int .u32 0, .int .u32 0, .int .u8 0, .int .u8 0, .int .u16 0, .bool false]) hBX.out 0 (.int .u32 s) rfl) 1 (.int .u32 d) rfl) 2 (.int .u8 p) rfl) 3 (.int .u8 t) rfl) 4 (.int .u16 i) rfl) 5 (.bool al) rfl)
  clear hBX hB1
  clear hc_gk_0 hf_gk_0 hc_gk_1 hf_gk_1 hc_gk_2 hf_gk_2 hc_gk_3 hf_gk_3 hc_gk_4 hf_gk_4 hc_gk_5 hf_gk_5
  generalize ((((((w6_.setCell ⟨gk, 0, none⟩ (.int .u32 s)).setCell ⟨gk, 1, none⟩ (.int .u32 d)).setCell ⟨gk, 2, none⟩ (.int .u8 p)).setCell ⟨gk, 3, none⟩ (.int .u8 t)).setCell ⟨gk, 4, none⟩ (.int .u16 i)).setCell ⟨gk, 5, none⟩ (.bool al)) = w7_ at hB hBN ⊢
  have NB_gk_gh := Aside0.mk (show gk ≠ gh from Nat.ne_of_gt (Nat.lt_of_lt_of_le (blk_lt (g := gh) (o := .cells #[.int .u32 s, .int .u32 d, .int .u8 p, .int .u8 t, .int .u16 i, .bool al] 26 (0, 0)) BK_gh.out) hG.out))
  have NB_gh_gk := Aside0.mk (Ne.symm NB_gk_gh.out)
  have HBo := Aside0.mk HB.out
  have nHB := Aside0.mk (HB.out.trans (hB.mono HB.out.size))
  clear HB
  have HB := nHB
  clear nHB
  clear hc_gh_0 hf_gh_0 hc_gh_1 hf_gh_1 hc_gh_2 hf_gh_2 hc_gh_3 hf_gh_3 hc_gh_4 hf_gh_4 hc_gh_5 hf_gh_5
  have nBK := Aside0.mk (blk_below (g := gh) (o := .cells #[.int .u32 s, .int .u32 d, .int .u8 p, .int .u8 t, .int .u16 i, .bool al] 26 (0, 0)) BK_gh.out hB)
  clear BK_gh
  have BK_gh := nBK
  clear nBK
  have hc_gh_0 : w7_.cell? ⟨gh, 0, none⟩ = some (.int .u32 s) := (blk_cell BK_gh.out 0).trans rfl
  have hf_gh_0 := blk_frozen BK_gh.out 0
  have hc_gh_1 : w7_.cell? ⟨gh, 1, none⟩ = some (.int .u32 d) := (blk_cell BK_gh.out 1).trans rfl
  have hf_gh_1 := blk_frozen BK_gh.out 1
  have hc_gh_2 : w7_.cell? ⟨gh, 2, none⟩ = some (.int .u8 p) := (blk_cell BK_gh.out 2).trans rfl
  have hf_gh_2 := blk_frozen BK_gh.out 2
  have hc_gh_3 : w7_.cell? ⟨gh, 3, none⟩ = some (.int .u8 t) := (blk_cell BK_gh.out 3).trans rfl
  have hf_gh_3 := blk_frozen BK_gh.out 3
  have hc_gh_4 : w7_.cell? ⟨gh, 4, none⟩ = some (.int .u16 i) := (blk_cell BK_gh.out 4).trans rfl
  have hf_gh_4 := blk_frozen BK_gh.out 4
  have hc_gh_5 : w7_.cell? ⟨gh, 5, none⟩ = some (.bool al) := (blk_cell BK_gh.out 5).trans rfl
  have hf_gh_5 := blk_frozen BK_gh.out 5
  have nHC := Aside0.mk (Kd.R_below HR_x.out hB)
  clear HR_x
  have HR_x := nHC
  clear nHC
  have nHC := Aside0.mk (Kd.R_below HR_z.out hB)
  clear HR_z
  have HR_z := nHC
  clear nHC
  have nHC := Aside0.mk (Kd.R_below HR_u.out hB)
  clear HR_u
  have HR_u := nHC
  clear nHC
  have BK_gk := Aside0.mk hBN
  have GE_gk := Aside0.mk (Nat.le_trans HBo.out.size hG.out)
  clear HBo hG hBN hB
  have hc_gk_0 : w7_.cell? ⟨gk, 0, none⟩ = some (.int .u32 s) := (blk_cell BK_gk.out 0).trans rfl
  have hf_gk_0 := blk_frozen BK_gk.out 0
  have hc_gk_1 : w7_.cell? ⟨gk, 1, none⟩ = some (.int .u32 d) := (blk_cell BK_gk.out 1).trans rfl
  have hf_gk_1 := blk_frozen BK_gk.out 1
  have hc_gk_2 : w7_.cell? ⟨gk, 2, none⟩ = some (.int .u8 p) := (blk_cell BK_gk.out 2).trans rfl
  have hf_gk_2 := blk_frozen BK_gk.out 2
  have hc_gk_3 : w7_.cell? ⟨gk, 3, none⟩ = some (.int .u8 t) := (blk_cell BK_gk.out 3).trans rfl
  have hf_gk_3 := blk_frozen BK_gk.out 3
  have hc_gk_4 : w7_.cell? ⟨gk, 4, none⟩ = some (.int .u16 i) := (blk_cell BK_gk.out 4).trans rfl
  have hf_gk_4 := blk_frozen BK_gk.out 4
  have hc_gk_5 : w7_.cell? ⟨gk, 5, none⟩ = some (.bool al) := (blk_cell BK_gk.out 5).trans rfl
  have hf_gk_5 := blk_frozen BK_gk.out 5
  go_upto_region 8 with (first | (go_at_call 12; refine (same_calls HBE.out (beq_self_eq_true b) _ _ _ _ _ (Kd.R_reads' HR_u.out).2.2 (Kd.R_reads' HR_u.out).2.1 (Kd.C_below HC_b.out HB.out) HK_b.out).mono ?_; rintro e w8_ ⟨rfl, hB⟩; have nHB := Aside0.mk (HB.out.trans (hB.mono HB.out.size)); clear HB; have HB := nHB; clear nHB; clear hc_gh_0 hf_gh_0 hc_gh_1 hf_gh_1 hc_gh_2 hf_gh_2 hc_gh_3 hf_gh_3 hc_gh_4 hf_gh_4 hc_gh_5 hf_gh_5; have nBK := Aside0.mk (blk_below (g := gh) (o := .cells #[.int .u32 s, .int .u32 d, .int .u8 p, .int .u8 t, .int .u16 i, .bool al] 26 (0, 0)) BK_gh.out hB); clear BK_gh; have BK_gh := nBK; clear nBK; have hc_gh_0 : w8_.cell? ⟨gh, 0, none⟩ = some (.int .u32 s) := (blk_cell BK_gh.out 0).trans rfl; have hf_gh_0 := blk_frozen BK_gh.out 0; have hc_gh_1 : w8_.cell? ⟨gh, 1, none⟩ = some (.int .u32 d) := (blk_cell BK_gh.out 1).trans rfl; have hf_gh_1 := blk_frozen BK_gh.out 1; have hc_gh_2 : w8_.cell? ⟨gh, 2, none⟩ = some (.int .u8 p) := (blk_cell BK_gh.out 2).trans rfl; have hf_gh_2 := blk_frozen BK_gh.out 2; have hc_gh_3 : w8_.cell? ⟨gh, 3, none⟩ = some (.int .u8 t) := (blk_cell BK_gh.out 3).trans rfl; have hf_gh_3 := blk_frozen BK_gh.out 3; have hc_gh_4 : w8_.cell? ⟨gh, 4, none⟩ = some (.int .u16 i) := (blk_cell BK_gh.out 4).trans rfl; have hf_gh_4 := blk_frozen BK_gh.out 4; have hc_gh_5 : w8_.cell? ⟨gh, 5, none⟩ = some (.bool al) := (blk_cell BK_gh.out 5).trans rfl; have hf_gh_5 := blk_frozen BK_gh.out 5; clear hc_gk_0 hf_gk_0 hc_gk_1 hf_gk_1 hc_gk_2 hf_gk_2 hc_gk_3 hf_gk_3 hc_gk_4 hf_gk_4 hc_gk_5 hf_gk_5; have nBK := Aside0.mk (blk_below (g := gk) (o := .cells #[.int .u32 s, .int .u32 d, .int .u8 p, .int .u8 t, .int .u16 i, .bool al] 26 (0, 0)) BK_gk.out hB); clear BK_gk; have BK_gk := nBK; clear nBK; have hc_gk_0 : w8_.cell? ⟨gk, 0, none⟩ = some (.int .u32 s) := (blk_cell BK_gk.out 0).trans rfl; have hf_gk_0 := blk_frozen BK_gk.out 0; have hc_gk_1 : w8_.cell? ⟨gk, 1, none⟩ = some (.int .u32 d) := (blk_cell BK_gk.out 1).trans rfl; have hf_gk_1 := blk_frozen BK_gk.out 1; have hc_gk_2 : w8_.cell? ⟨gk, 2, none⟩ = some (.int .u8 p) := (blk_cell BK_gk.out 2).trans rfl; have hf_gk_2 := blk_frozen BK_gk.out 2; have hc_gk_3 : w8_.cell? ⟨gk, 3, none⟩ = some (.int .u8 t) := (blk_cell BK_gk.out 3).trans rfl; have hf_gk_3 := blk_frozen BK_gk.out 3; have hc_gk_4 : w8_.cell? ⟨gk, 4, none⟩ = some (.int .u16 i) := (blk_cell BK_gk.out 4).trans rfl; have hf_gk_4 := blk_frozen BK_gk.out 4; have hc_gk_5 : w8_.cell? ⟨gk, 5, none⟩ = some (.bool al) := (blk_cell BK_gk.out 5).trans rfl; have hf_gk_5 := blk_frozen BK_gk.out 5; have nHC := Aside0.mk (Kd.R_below HR_x.out hB); clear HR_x; have HR_x := nHC; clear nHC; have nHC := Aside0.mk (Kd.R_below HR_z.out hB); clear HR_z; have HR_z := nHC; clear nHC; have nHC := Aside0.mk (Kd.R_below HR_u.out hB); clear HR_u; have HR_u := nHC; clear nHC; clear hB))
  go_upto_region 9 with (first | (go_at_call 11; refine (decode_calls HMB.out HML.out (show dec m = (0, 0, 0, 0, 0, false, [], e1) from HW.out) _ _ _ (Kd.C_below HC_m.out HB.out) HK_m.out).mono ?_; rintro e w9_ ⟨v_q, rfl, hR, hB⟩; obtain ⟨A_q, c_q, rfl⟩ := Kd.R_slice hR; have nHB := Aside0.mk (HB.out.trans (hB.mono HB.out.size)); clear HB; have HB := nHB; clear nHB; clear hc_gh_0 hf_gh_0 hc_gh_1 hf_gh_1 hc_gh_2 hf_gh_2 hc_gh_3 hf_gh_3 hc_gh_4 hf_gh_4 hc_gh_5 hf_gh_5; have nBK := Aside0.mk (blk_below (g := gh) (o := .cells #[.int .u32 s, .int .u32 d, .int .u8 p, .int .u8 t, .int .u16 i, .bool al] 26 (0, 0)) BK_gh.out hB); clear BK_gh; have BK_gh := nBK; clear nBK; have hc_gh_0 : w9_.cell? ⟨gh, 0, none⟩ = some (.int .u32 s) := (blk_cell BK_gh.out 0).trans rfl; have hf_gh_0 := blk_frozen BK_gh.out 0; have hc_gh_1 : w9_.cell? ⟨gh, 1, none⟩ = some (.int .u32 d) := (blk_cell BK_gh.out 1).trans rfl; have hf_gh_1 := blk_frozen BK_gh.out 1; have hc_gh_2 : w9_.cell? ⟨gh, 2, none⟩ = some (.int .u8 p) := (blk_cell BK_gh.out 2).trans rfl; have hf_gh_2 := blk_frozen BK_gh.out 2; have hc_gh_3 : w9_.cell? ⟨gh, 3, none⟩ = some (.int .u8 t) := (blk_cell BK_gh.out 3).trans rfl; have hf_gh_3 := blk_frozen BK_gh.out 3; have hc_gh_4 : w9_.cell? ⟨gh, 4, none⟩ = some (.int .u16 i) := (blk_cell BK_gh.out 4).trans rfl; have hf_gh_4 := blk_frozen BK_gh.out 4; have hc_gh_5 : w9_.cell? ⟨gh, 5, none⟩ = some (.bool al) := (blk_cell BK_gh.out 5).trans rfl; have hf_gh_5 := blk_frozen BK_gh.out 5; clear hc_gk_0 hf_gk_0 hc_gk_1 hf_gk_1 hc_gk_2 hf_gk_2 hc_gk_3 hf_gk_3 hc_gk_4 hf_gk_4 hc_gk_5 hf_gk_5; have nBK := Aside0.mk (blk_below (g := gk) (o := .cells #[.int .u32 s, .int .u32 d, .int .u8 p, .int .u8 t, .int .u16 i, .bool al] 26 (0, 0)) BK_gk.out hB); clear BK_gk; have BK_gk := nBK; clear nBK; have hc_gk_0 : w9_.cell? ⟨gk, 0, none⟩ = some (.int .u32 s) := (blk_cell BK_gk.out 0).trans rfl; have hf_gk_0 := blk_frozen BK_gk.out 0; have hc_gk_1 : w9_.cell? ⟨gk, 1, none⟩ = some (.int .u32 d) := (blk_cell BK_gk.out 1).trans rfl; have hf_gk_1 := blk_frozen BK_gk.out 1; have hc_gk_2 : w9_.cell? ⟨gk, 2, none⟩ = some (.int .u8 p) := (blk_cell BK_gk.out 2).trans rfl; have hf_gk_2 := blk_frozen BK_gk.out 2; have hc_gk_3 : w9_.cell? ⟨gk, 3, none⟩ = some (.int .u8 t) := (blk_cell BK_gk.out 3).trans rfl; have hf_gk_3 := blk_frozen BK_gk.out 3; have hc_gk_4 : w9_.cell? ⟨gk, 4, none⟩ = some (.int .u16 i) := (blk_cell BK_gk.out 4).trans rfl; have hf_gk_4 := blk_frozen BK_gk.out 4; have hc_gk_5 : w9_.cell? ⟨gk, 5, none⟩ = some (.bool al) := (blk_cell BK_gk.out 5).trans rfl; have hf_gk_5 := blk_frozen BK_gk.out 5; have nHC := Aside0.mk (Kd.R_below HR_x.out hB); clear HR_x; have HR_x := nHC; clear nHC; have nHC := Aside0.mk (Kd.R_below HR_z.out hB); clear HR_z; have HR_z := nHC; clear nHC; have nHC := Aside0.mk (Kd.R_below HR_u.out hB); clear HR_u; have HR_u := nHC; clear nHC; have HR_q := Aside0.mk (Kd.R_mono hR (fun _ _ => trivial : ∀ k, _ → (fun _ => True) k)); clear hR; clear hB) | ((with_reducible refine gate_dst (N := 13) rfl ?_); (try (refine gate_guard (by rfl) ?_; dsimp only)); refine box_event ?hg (N := 13) ?hd (cs := #[.int .u32 0, .int .u32 0, .int .u8 0, .int .u8 0, .int .u16 0, .bool false]) (t := 26) ?hr ?_; (case hd => rfl); (case hg => rfl); (case hr => first | (go_simp; done) | (go_simp; rfl)); intro gn hg w10_ hbox hB0; have hG := Aside0.mk (show w9_.heap.size ≤ gn from Nat.le_of_eq hg.symm); clear hg; have hBX := Aside0.mk hbox; have hB1 := Aside0.mk hB0; clear hB0; have hc_gn_0 : w10_.cell? ⟨gn, 0, none⟩ = some (.int .u32 0) := (blk_cell hbox 0).trans rfl; have hf_gn_0 := blk_frozen hbox 0; have hc_gn_1 : w10_.cell? ⟨gn, 1, none⟩ = some (.int .u32 0) := (blk_cell hbox 1).trans rfl; have hf_gn_1 := blk_frozen hbox 1; have hc_gn_2 : w10_.cell? ⟨gn, 2, none⟩ = some (.int .u8 0) := (blk_cell hbox 2).trans rfl; have hf_gn_2 := blk_frozen hbox 2; have hc_gn_3 : w10_.cell? ⟨gn, 3, none⟩ = some (.int .u8 0) := (blk_cell hbox 3).trans rfl; have hf_gn_3 := blk_frozen hbox 3; have hc_gn_4 : w10_.cell? ⟨gn, 4, none⟩ = some (.int .u16 0) := (blk_cell hbox 4).trans rfl; have hf_gn_4 := blk_frozen hbox 4; have hc_gn_5 : w10_.cell? ⟨gn, 5, none⟩ = some (.bool false) := (blk_cell hbox 5).trans rfl; have hf_gn_5 := blk_frozen hbox 5; clear hbox))
  have hB : Below w9_.heap.size w9_ ((((((w10_.setCell ⟨gn, 0, none⟩ (.int .u32 0)).setCell ⟨gn, 1, none⟩ (.int .u32 0)).setCell ⟨gn, 2, none⟩ (.int .u8 0)).setCell ⟨gn, 3, none⟩ (.int .u8 0)).setCell ⟨gn, 4, none⟩ (.int .u16 0)).setCell ⟨gn, 5, none⟩ (.bool false)) := (below_set (below_set (below_set (below_set (below_set (below_set hB1.out hG.out) hG.out) hG.out) hG.out) hG.out) hG.out)
  have hBN : ((((((w10_.setCell ⟨gn, 0, none⟩ (.int .u32 0)).setCell ⟨gn, 1, none⟩ (.int .u32 0)).setCell ⟨gn, 2, none⟩ (.int .u8 0)).setCell ⟨gn, 3, none⟩ (.int .u8 0)).setCell ⟨gn, 4, none⟩ (.int .u16 0)).setCell ⟨gn, 5, none⟩ (.bool false)).heap[gn]? = some (.cells #[.int .u32 0, .int .u32 0, .int .u8 0, .int .u8 0, .int .u16 0, .bool false] 26 (0, 0)) := (blk_put (cs := #[.int .u32 0, .int .u32 0, .int .u8 0, .int .u8 0, .int .u16 0, .bool false]) (blk_put (cs := #[.int .u32 0, .int .u32 0, .int .u8 0, .int .u8 0, .int .u16 0, .bool false]) (blk_put (cs := #[.int .u32 0, .int .u32 0, .int .u8 0, .int .u8 0, .int .u16 0, .bool false]) (blk_put (cs := #[.int .u32 0, .int .u32 0, .int .u8 0, .int .u8 0, .int .u16 0, .bool false]) (blk_put (cs := #[.int .u32 0, .int .u32 0, .int .u8 0, .int .u8 0, .int .u16 0, .bool false]) (blk_put (cs := #[.int .u32 0, .int .u32 0, .int .u8 0, .int .u8 0, .int .u16 0, .bool false]) hBX.out 0 (.int .u32 0) rfl) 1 (.int .u32 0) rfl) 2 (.int .u8 0) rfl) 3 (.int .u8 0) rfl) 4 (.int .u16 0) rfl) 5 (.bool false) rfl)
  clear hBX hB1
  clear hc_gn_0 hf_gn_0 hc_gn_1 hf_gn_1 hc_gn_2 hf_gn_2 hc_gn_3 hf_gn_3 hc_gn_4 hf_gn_4 hc_gn_5 hf_gn_5
  generalize ((((((w10_.setCell ⟨gn, 0, none⟩ (.int .u32 0)).setCell ⟨gn, 1, none⟩ (.int .u32 0)).setCell ⟨gn, 2, none⟩ (.int .u8 0)).setCell ⟨gn, 3, none⟩ (.int .u8 0)).setCell ⟨gn, 4, none⟩ (.int .u16 0)).setCell ⟨gn, 5, none⟩ (.bool false)) = w11_ at hB hBN ⊢
  have NB_gn_gh := Aside0.mk (show gn ≠ gh from Nat.ne_of_gt (Nat.lt_of_lt_of_le (blk_lt (g := gh) (o := .cells #[.int .u32 s, .int .u32 d, .int .u8 p, .int .u8 t, .int .u16 i, .bool al] 26 (0, 0)) BK_gh.out) hG.out))
  have NB_gh_gn := Aside0.mk (Ne.symm NB_gn_gh.out)
  have NB_gn_gk := Aside0.mk (show gn ≠ gk from Nat.ne_of_gt (Nat.lt_of_lt_of_le (blk_lt (g := gk) (o := .cells #[.int .u32 s, .int .u32 d, .int .u8 p, .int .u8 t, .int .u16 i, .bool al] 26 (0, 0)) BK_gk.out) hG.out))
  have NB_gk_gn := Aside0.mk (Ne.symm NB_gn_gk.out)
  have HBo := Aside0.mk HB.out
  have nHB := Aside0.mk (HB.out.trans (hB.mono HB.out.size))
  clear HB
  have HB := nHB
  clear nHB
  clear hc_gh_0 hf_gh_0 hc_gh_1 hf_gh_1 hc_gh_2 hf_gh_2 hc_gh_3 hf_gh_3 hc_gh_4 hf_gh_4 hc_gh_5 hf_gh_5
  have nBK := Aside0.mk (blk_below (g := gh) (o := .cells #[.int .u32 s, .int .u32 d, .int .u8 p, .int .u8 t, .int .u16 i, .bool al] 26 (0, 0)) BK_gh.out hB)
  clear BK_gh
  have BK_gh := nBK
  clear nBK
  have hc_gh_0 : w11_.cell? ⟨gh, 0, none⟩ = some (.int .u32 s) := (blk_cell BK_gh.out 0).trans rfl
  have hf_gh_0 := blk_frozen BK_gh.out 0
  have hc_gh_1 : w11_.cell? ⟨gh, 1, none⟩ = some (.int .u32 d) := (blk_cell BK_gh.out 1).trans rfl
  have hf_gh_1 := blk_frozen BK_gh.out 1
  have hc_gh_2 : w11_.cell? ⟨gh, 2, none⟩ = some (.int .u8 p) := (blk_cell BK_gh.out 2).trans rfl
  have hf_gh_2 := blk_frozen BK_gh.out 2
  have hc_gh_3 : w11_.cell? ⟨gh, 3, none⟩ = some (.int .u8 t) := (blk_cell BK_gh.out 3).trans rfl
  have hf_gh_3 := blk_frozen BK_gh.out 3
  have hc_gh_4 : w11_.cell? ⟨gh, 4, none⟩ = some (.int .u16 i) := (blk_cell BK_gh.out 4).trans rfl
  have hf_gh_4 := blk_frozen BK_gh.out 4
  have hc_gh_5 : w11_.cell? ⟨gh, 5, none⟩ = some (.bool al) := (blk_cell BK_gh.out 5).trans rfl
  have hf_gh_5 := blk_frozen BK_gh.out 5
  clear hc_gk_0 hf_gk_0 hc_gk_1 hf_gk_1 hc_gk_2 hf_gk_2 hc_gk_3 hf_gk_3 hc_gk_4 hf_gk_4 hc_gk_5 hf_gk_5
  have nBK := Aside0.mk (blk_below (g := gk) (o := .cells #[.int .u32 s, .int .u32 d, .int .u8 p, .int .u8 t, .int .u16 i, .bool al] 26 (0, 0)) BK_gk.out hB)
  clear BK_gk
  have BK_gk := nBK
  clear nBK
  have hc_gk_0 : w11_.cell? ⟨gk, 0, none⟩ = some (.int .u32 s) := (blk_cell BK_gk.out 0).trans rfl
  have hf_gk_0 := blk_frozen BK_gk.out 0
  have hc_gk_1 : w11_.cell? ⟨gk, 1, none⟩ = some (.int .u32 d) := (blk_cell BK_gk.out 1).trans rfl
  have hf_gk_1 := blk_frozen BK_gk.out 1
  have hc_gk_2 : w11_.cell? ⟨gk, 2, none⟩ = some (.int .u8 p) := (blk_cell BK_gk.out 2).trans rfl
  have hf_gk_2 := blk_frozen BK_gk.out 2
  have hc_gk_3 : w11_.cell? ⟨gk, 3, none⟩ = some (.int .u8 t) := (blk_cell BK_gk.out 3).trans rfl
  have hf_gk_3 := blk_frozen BK_gk.out 3
  have hc_gk_4 : w11_.cell? ⟨gk, 4, none⟩ = some (.int .u16 i) := (blk_cell BK_gk.out 4).trans rfl
  have hf_gk_4 := blk_frozen BK_gk.out 4
  have hc_gk_5 : w11_.cell? ⟨gk, 5, none⟩ = some (.bool al) := (blk_cell BK_gk.out 5).trans rfl
  have hf_gk_5 := blk_frozen BK_gk.out 5
  have nHC := Aside0.mk (Kd.R_below HR_x.out hB)
  clear HR_x
  have HR_x := nHC
  clear nHC
  have nHC := Aside0.mk (Kd.R_below HR_z.out hB)
  clear HR_z
  have HR_z := nHC
  clear nHC
  have nHC := Aside0.mk (Kd.R_below HR_u.out hB)
  clear HR_u
  have HR_u := nHC
  clear nHC
  have nHC := Aside0.mk (Kd.R_below HR_q.out hB)
  clear HR_q
  have HR_q := nHC
  clear nHC
  have BK_gn := Aside0.mk hBN
  have GE_gn := Aside0.mk (Nat.le_trans HBo.out.size hG.out)
  clear HBo hG hBN hB
  have hc_gn_0 : w11_.cell? ⟨gn, 0, none⟩ = some (.int .u32 0) := (blk_cell BK_gn.out 0).trans rfl
  have hf_gn_0 := blk_frozen BK_gn.out 0
  have hc_gn_1 : w11_.cell? ⟨gn, 1, none⟩ = some (.int .u32 0) := (blk_cell BK_gn.out 1).trans rfl
  have hf_gn_1 := blk_frozen BK_gn.out 1
  have hc_gn_2 : w11_.cell? ⟨gn, 2, none⟩ = some (.int .u8 0) := (blk_cell BK_gn.out 2).trans rfl
  have hf_gn_2 := blk_frozen BK_gn.out 2
  have hc_gn_3 : w11_.cell? ⟨gn, 3, none⟩ = some (.int .u8 0) := (blk_cell BK_gn.out 3).trans rfl
  have hf_gn_3 := blk_frozen BK_gn.out 3
  have hc_gn_4 : w11_.cell? ⟨gn, 4, none⟩ = some (.int .u16 0) := (blk_cell BK_gn.out 4).trans rfl
  have hf_gn_4 := blk_frozen BK_gn.out 4
  have hc_gn_5 : w11_.cell? ⟨gn, 5, none⟩ = some (.bool false) := (blk_cell BK_gn.out 5).trans rfl
  have hf_gn_5 := blk_frozen BK_gn.out 5
  go_wp2
  go_ret
  exact ⟨rfl, HB.out⟩
set_option maxHeartbeats 8000000 in
set_option maxRecDepth 100000 in
theorem ipBack_right {s d p t i : Int} {al : Bool} (hok : HOk s d p t i) {b m : List Int} (hbb : Byt b) (hmb : Byt m) (hl : ¬ (1400 < (b.length : Int))) (hl2 : ¬ (500 < (m.length : Int))) {x : List Int} (hx : enc s d p t i al b = (x, 0)) (hxb : Byt x) (hxl : x.length ≤ 1500) (hd : dec (x ++ m) = (s, d, p, t, i, al, b, 0))  {ks kd kp kt ki : Int} {ka : Bool} {cc y : List Int} (hkk : HOk ks kd kp kt ki) (hw : dec m = (ks, kd, kp, kt, ki, ka, cc, 0)) (hcl : cc.length ≤ 140737488355328) (hy : enc ks kd kp kt ki ka cc = (y, 0)) (hyl : (y.length : Int) ≤ m.length) (hym : y = m.take y.length) (A_b : Option Addr) (c_b : Nat) (A_m : Option Addr) (c_m : Nat) (w : World) (hr : Kd.C (Kd.int .u8) w A_b b.length b) (hc : b.length ≤ c_b) (hr2 : Kd.C (Kd.int .u8) w A_m m.length m) (hc2 : m.length ≤ c_m) :
    Calls Try.prog 3 #[.agg #[.int .u32 s, .int .u32 d, .int .u8 p, .int .u8 t, .int .u16 i, .bool al], .slice A_b b.length c_b, .slice A_m m.length c_m] w fun e w' => e = .returned (.bool true) ∧ Below w.heap.size w w' := by
  have hu26 := Try.underlying26
  have HB := Aside0.mk (Below.refl w.heap.size w)
  have HC_b := Aside0.mk hr
  have HK_b := Aside0.mk hc
  have HC_m := Aside0.mk hr2
  have HK_m := Aside0.mk hc2
  clear hr hc hr2 hc2
  have HBL := Aside0.mk (show b.length ≤ 140737488355328 by omega)
  have HBE := Aside0.mk (show b.length ≤ 1000000 by omega)
  have HML := Aside0.mk (show m.length ≤ 1000000 by omega)
  have HBD1 := Aside0.mk (show (([] : List Int).length + x.length) * 1 ≤ 140737488355328 by simp; omega)
  have HBD2 := Aside0.mk (show (x.length + m.length) * 1 ≤ 140737488355328 by omega)
  have HXM := Aside0.mk (show (x ++ m).length ≤ 1000000 by rw [List.length_append]; omega)
  have HYE := Aside0.mk (show y.length ≤ 1000000 by omega)
  have HX := Aside0.mk hx
  have HXB := Aside0.mk hxb
  have HXL := Aside0.mk hxl
  have HD := Aside0.mk hd
  have HMB := Aside0.mk hmb
  have HW := Aside0.mk hw
  have HCL := Aside0.mk hcl
  have HY := Aside0.mk hy
  have HYM := Aside0.mk hym
  clear hx hxb hxl hd hmb hw hcl hy hym
  go_enter Try.func3, Try.ntmps3
  go_upto_region 5 with (first | ((with_reducible refine gate_dst (N := 3) rfl ?_); (try (refine gate_guard (by rfl) ?_; dsimp only)); refine box_event ?hg (N := 3) ?hd (cs := #[.int .u32 s, .int .u32 d, .int .u8 p, .int .u8 t, .int .u16 i, .bool al]) (t := 26) ?hr ?_; (case hd => rfl); (case hg => rfl); (case hr => first | (go_simp; done) | (go_simp; rfl)); intro gh hg w1_ hbox hB; have HBo := Aside0.mk HB.out; have nHB := Aside0.mk (HB.out.trans (hB.mono HB.out.size)); clear HB; have HB := nHB; clear nHB; have BK_gh := Aside0.mk hbox; have GE_gh := Aside0.mk (show w.heap.size ≤ gh by rw [hg]; exact HBo.out.size); clear hg hbox hB; have hc_gh_0 : w1_.cell? ⟨gh, 0, none⟩ = some (.int .u32 s) := (blk_cell BK_gh.out 0).trans rfl; have hf_gh_0 := blk_frozen BK_gh.out 0; have hc_gh_1 : w1_.cell? ⟨gh, 1, none⟩ = some (.int .u32 d) := (blk_cell BK_gh.out 1).trans rfl; have hf_gh_1 := blk_frozen BK_gh.out 1; have hc_gh_2 : w1_.cell? ⟨gh, 2, none⟩ = some (.int .u8 p) := (blk_cell BK_gh.out 2).trans rfl; have hf_gh_2 := blk_frozen BK_gh.out 2; have hc_gh_3 : w1_.cell? ⟨gh, 3, none⟩ = some (.int .u8 t) := (blk_cell BK_gh.out 3).trans rfl; have hf_gh_3 := blk_frozen BK_gh.out 3; have hc_gh_4 : w1_.cell? ⟨gh, 4, none⟩ = some (.int .u16 i) := (blk_cell BK_gh.out 4).trans rfl; have hf_gh_4 := blk_frozen BK_gh.out 4; have hc_gh_5 : w1_.cell? ⟨gh, 5, none⟩ = some (.bool al) := (blk_cell BK_gh.out 5).trans rfl; have hf_gh_5 := blk_frozen BK_gh.out 5; clear HBo) | (go_at_call 9; refine (shown_calls _).mono ?_; rintro e w2_ ⟨rfl, hB⟩; have nHB := Aside0.mk (HB.out.trans (hB.mono HB.out.size)); clear HB; have HB := nHB; clear nHB; clear hc_gh_0 hf_gh_0 hc_gh_1 hf_gh_1 hc_gh_2 hf_gh_2 hc_gh_3 hf_gh_3 hc_gh_4 hf_gh_4 hc_gh_5 hf_gh_5; have nBK := Aside0.mk (blk_below (g := gh) (o := .cells #[.int .u32 s, .int .u32 d, .int .u8 p, .int .u8 t, .int .u16 i, .bool al] 26 (0, 0)) BK_gh.out hB); clear BK_gh; have BK_gh := nBK; clear nBK; have hc_gh_0 : w2_.cell? ⟨gh, 0, none⟩ = some (.int .u32 s) := (blk_cell BK_gh.out 0).trans rfl; have hf_gh_0 := blk_frozen BK_gh.out 0; have hc_gh_1 : w2_.cell? ⟨gh, 1, none⟩ = some (.int .u32 d) := (blk_cell BK_gh.out 1).trans rfl; have hf_gh_1 := blk_frozen BK_gh.out 1; have hc_gh_2 : w2_.cell? ⟨gh, 2, none⟩ = some (.int .u8 p) := (blk_cell BK_gh.out 2).trans rfl; have hf_gh_2 := blk_frozen BK_gh.out 2; have hc_gh_3 : w2_.cell? ⟨gh, 3, none⟩ = some (.int .u8 t) := (blk_cell BK_gh.out 3).trans rfl; have hf_gh_3 := blk_frozen BK_gh.out 3; have hc_gh_4 : w2_.cell? ⟨gh, 4, none⟩ = some (.int .u16 i) := (blk_cell BK_gh.out 4).trans rfl; have hf_gh_4 := blk_frozen BK_gh.out 4; have hc_gh_5 : w2_.cell? ⟨gh, 5, none⟩ = some (.bool al) := (blk_cell BK_gh.out 5).trans rfl; have hf_gh_5 := blk_frozen BK_gh.out 5; clear hB) | (go_at_call 10; refine (encode_calls hok HBL.out HX.out _ _ _ (Kd.C_below HC_b.out HB.out) HK_b.out).mono ?_; rintro e w3_ ⟨v_x, rfl, hR, hB⟩; obtain ⟨A_x, c_x, rfl⟩ := Kd.R_slice hR; have nHB := Aside0.mk (HB.out.trans (hB.mono HB.out.size)); clear HB; have HB := nHB; clear nHB; clear hc_gh_0 hf_gh_0 hc_gh_1 hf_gh_1 hc_gh_2 hf_gh_2 hc_gh_3 hf_gh_3 hc_gh_4 hf_gh_4 hc_gh_5 hf_gh_5; have nBK := Aside0.mk (blk_below (g := gh) (o := .cells #[.int .u32 s, .int .u32 d, .int .u8 p, .int .u8 t, .int .u16 i, .bool al] 26 (0, 0)) BK_gh.out hB); clear BK_gh; have BK_gh := nBK; clear nBK; have hc_gh_0 : w3_.cell? ⟨gh, 0, none⟩ = some (.int .u32 s) := (blk_cell BK_gh.out 0).trans rfl; have hf_gh_0 := blk_frozen BK_gh.out 0; have hc_gh_1 : w3_.cell? ⟨gh, 1, none⟩ = some (.int .u32 d) := (blk_cell BK_gh.out 1).trans rfl; have hf_gh_1 := blk_frozen BK_gh.out 1; have hc_gh_2 : w3_.cell? ⟨gh, 2, none⟩ = some (.int .u8 p) := (blk_cell BK_gh.out 2).trans rfl; have hf_gh_2 := blk_frozen BK_gh.out 2; have hc_gh_3 : w3_.cell? ⟨gh, 3, none⟩ = some (.int .u8 t) := (blk_cell BK_gh.out 3).trans rfl; have hf_gh_3 := blk_frozen BK_gh.out 3; have hc_gh_4 : w3_.cell? ⟨gh, 4, none⟩ = some (.int .u16 i) := (blk_cell BK_gh.out 4).trans rfl; have hf_gh_4 := blk_frozen BK_gh.out 4; have hc_gh_5 : w3_.cell? ⟨gh, 5, none⟩ = some (.bool al) := (blk_cell BK_gh.out 5).trans rfl; have hf_gh_5 := blk_frozen BK_gh.out 5; have HR_x := Aside0.mk (Kd.R_mono hR (fun _ _ => trivial : ∀ k, _ → (fun _ => True) k)); clear hR; clear hB))
  have RDX := Aside0.mk (show ReadsInt w3_ .u8 A_x x.length x from Kd.reads_of_C (enc := Value.int .u8) (d := (0 : Int)) (h1 := fun _ => rfl) (Kd.R_reads' HR_x.out).2.2)
  go_upto_region 6 with (first | ((with_reducible refine gate_dst (N := 37) rfl ?_); refine print_append_row (w0 := w3_) w3_.heap.size rfl (.tmp 35) (.tmp 36) 27 5 .u8 1 rfl rfl Try.info5 (by decide) _ [] x A_x x.length c_x rfl rfl (World.ownsRow_lit (size := 1) w3_ #[] 0 (Nat.le_refl _) (by simp [maxLen]) rfl) (RDX.out.allocS _) ((Below.refl _ w3_).alloc (Nat.le_refl _) _) (by simp) HBD1.out ?_; intro va wa hown hBa _ _; have HOA := Aside0.mk (show wa.ownsRow w3_.heap.size 5 1 va x.length (nums .u8 x) by simpa only [List.nil_append] using hown); have hBA := Aside0.mk hBa; clear hown hBa) | ((with_reducible refine gate_dst (N := 39) rfl ?_); refine print_append_row (w0 := w3_) w3_.heap.size rfl (.tmp 37) (.tmp 38) 27 5 .u8 1 rfl rfl Try.info5 (by decide) _ x m A_m m.length c_m rfl rfl HOA.out (Kd.reads_of_C (enc := Value.int .u8) (d := (0 : Int)) (h1 := fun _ => rfl) (Kd.C_below HC_m.out (HB.out.trans (hBA.out.mono HB.out.size)))) hBA.out hBA.out.size HBD2.out ?_; intro vz w4_ hown hB _ _; have hR : Kd.R (Kd.int .u8) 5 w4_ w3_.heap.size (fun _ => True) vz (x ++ m) := Kd.R_of_own hown (fun _ _ => trivial); obtain ⟨z, hz_⟩ : ∃ zz_, zz_ = x ++ m := ⟨_, rfl⟩; rw [← hz_] at hR; have HZ_z := Aside0.mk hz_; clear hz_ hown; obtain ⟨A_z, c_z, rfl⟩ := Kd.R_slice hR; have nHB := Aside0.mk (HB.out.trans (hB.mono HB.out.size)); clear HB; have HB := nHB; clear nHB; clear hc_gh_0 hf_gh_0 hc_gh_1 hf_gh_1 hc_gh_2 hf_gh_2 hc_gh_3 hf_gh_3 hc_gh_4 hf_gh_4 hc_gh_5 hf_gh_5; have nBK := Aside0.mk (blk_below (g := gh) (o := .cells #[.int .u32 s, .int .u32 d, .int .u8 p, .int .u8 t, .int .u16 i, .bool al] 26 (0, 0)) BK_gh.out hB); clear BK_gh; have BK_gh := nBK; clear nBK; have hc_gh_0 : w4_.cell? ⟨gh, 0, none⟩ = some (.int .u32 s) := (blk_cell BK_gh.out 0).trans rfl; have hf_gh_0 := blk_frozen BK_gh.out 0; have hc_gh_1 : w4_.cell? ⟨gh, 1, none⟩ = some (.int .u32 d) := (blk_cell BK_gh.out 1).trans rfl; have hf_gh_1 := blk_frozen BK_gh.out 1; have hc_gh_2 : w4_.cell? ⟨gh, 2, none⟩ = some (.int .u8 p) := (blk_cell BK_gh.out 2).trans rfl; have hf_gh_2 := blk_frozen BK_gh.out 2; have hc_gh_3 : w4_.cell? ⟨gh, 3, none⟩ = some (.int .u8 t) := (blk_cell BK_gh.out 3).trans rfl; have hf_gh_3 := blk_frozen BK_gh.out 3; have hc_gh_4 : w4_.cell? ⟨gh, 4, none⟩ = some (.int .u16 i) := (blk_cell BK_gh.out 4).trans rfl; have hf_gh_4 := blk_frozen BK_gh.out 4; have hc_gh_5 : w4_.cell? ⟨gh, 5, none⟩ = some (.bool al) := (blk_cell BK_gh.out 5).trans rfl; have hf_gh_5 := blk_frozen BK_gh.out 5; have nHC := Aside0.mk (Kd.R_below HR_x.out hB); clear HR_x; have HR_x := nHC; clear nHC; have HR_z := Aside0.mk hR; clear hR hB HOA hBA RDX) | (go_at_call 11; refine (decode_calls (show Byt z by rw [HZ_z.out]; exact HXB.out.append HMB.out) (show z.length ≤ 1000000 by rw [HZ_z.out]; exact HXM.out) (show dec z = (s, d, p, t, i, al, b, 0) by rw [HZ_z.out]; exact HD.out) _ _ _ (Kd.R_reads' HR_z.out).2.2 (Kd.R_reads' HR_z.out).2.1).mono ?_; rintro e w5_ ⟨v_u, rfl, hR, hB⟩; obtain ⟨A_u, c_u, rfl⟩ := Kd.R_slice hR; have nHB := Aside0.mk (HB.out.trans (hB.mono HB.out.size)); clear HB; have HB := nHB; clear nHB; clear hc_gh_0 hf_gh_0 hc_gh_1 hf_gh_1 hc_gh_2 hf_gh_2 hc_gh_3 hf_gh_3 hc_gh_4 hf_gh_4 hc_gh_5 hf_gh_5; have nBK := Aside0.mk (blk_below (g := gh) (o := .cells #[.int .u32 s, .int .u32 d, .int .u8 p, .int .u8 t, .int .u16 i, .bool al] 26 (0, 0)) BK_gh.out hB); clear BK_gh; have BK_gh := nBK; clear nBK; have hc_gh_0 : w5_.cell? ⟨gh, 0, none⟩ = some (.int .u32 s) := (blk_cell BK_gh.out 0).trans rfl; have hf_gh_0 := blk_frozen BK_gh.out 0; have hc_gh_1 : w5_.cell? ⟨gh, 1, none⟩ = some (.int .u32 d) := (blk_cell BK_gh.out 1).trans rfl; have hf_gh_1 := blk_frozen BK_gh.out 1; have hc_gh_2 : w5_.cell? ⟨gh, 2, none⟩ = some (.int .u8 p) := (blk_cell BK_gh.out 2).trans rfl; have hf_gh_2 := blk_frozen BK_gh.out 2; have hc_gh_3 : w5_.cell? ⟨gh, 3, none⟩ = some (.int .u8 t) := (blk_cell BK_gh.out 3).trans rfl; have hf_gh_3 := blk_frozen BK_gh.out 3; have hc_gh_4 : w5_.cell? ⟨gh, 4, none⟩ = some (.int .u16 i) := (blk_cell BK_gh.out 4).trans rfl; have hf_gh_4 := blk_frozen BK_gh.out 4; have hc_gh_5 : w5_.cell? ⟨gh, 5, none⟩ = some (.bool al) := (blk_cell BK_gh.out 5).trans rfl; have hf_gh_5 := blk_frozen BK_gh.out 5; have nHC := Aside0.mk (Kd.R_below HR_x.out hB); clear HR_x; have HR_x := nHC; clear nHC; have nHC := Aside0.mk (Kd.R_below HR_z.out hB); clear HR_z; have HR_z := nHC; clear nHC; have HR_u := Aside0.mk (Kd.R_mono hR (fun _ _ => trivial : ∀ k, _ → (fun _ => True) k)); clear hR; clear hB) | ((with_reducible refine gate_dst (N := 10) rfl ?_); (try (refine gate_guard (by rfl) ?_; dsimp only)); refine box_event ?hg (N := 10) ?hd (cs := #[.int .u32 0, .int .u32 0, .int .u8 0, .int .u8 0, .int .u16 0, .bool false]) (t := 26) ?hr ?_; (case hd => rfl); (case hg => rfl); (case hr => first | (go_simp; done) | (go_simp; rfl)); intro gk hg w6_ hbox hB0; have hG := Aside0.mk (show w5_.heap.size ≤ gk from Nat.le_of_eq hg.symm); clear hg; have hBX := Aside0.mk hbox; have hB1 := Aside0.mk hB0; clear hB0; have hc_gk_0 : w6_.cell? ⟨gk, 0, none⟩ = some (.int .u32 0) := (blk_cell hbox 0).trans rfl; have hf_gk_0 := blk_frozen hbox 0; have hc_gk_1 : w6_.cell? ⟨gk, 1, none⟩ = some (.int .u32 0) := (blk_cell hbox 1).trans rfl; have hf_gk_1 := blk_frozen hbox 1; have hc_gk_2 : w6_.cell? ⟨gk, 2, none⟩ = some (.int .u8 0) := (blk_cell hbox 2).trans rfl; have hf_gk_2 := blk_frozen hbox 2; have hc_gk_3 : w6_.cell? ⟨gk, 3, none⟩ = some (.int .u8 0) := (blk_cell hbox 3).trans rfl; have hf_gk_3 := blk_frozen hbox 3; have hc_gk_4 : w6_.cell? ⟨gk, 4, none⟩ = some (.int .u16 0) := (blk_cell hbox 4).trans rfl; have hf_gk_4 := blk_frozen hbox 4; have hc_gk_5 : w6_.cell? ⟨gk, 5, none⟩ = some (.bool false) := (blk_cell hbox 5).trans rfl; have hf_gk_5 := blk_frozen hbox 5; clear hbox))
  have hB : Below w5_.heap.size w5_ ((((((w6_.setCell ⟨gk, 0, none⟩ (.int .u32 s)).setCell ⟨gk, 1, none⟩ (.int .u32 d)).setCell ⟨gk, 2, none⟩ (.int .u8 p)).setCell ⟨gk, 3, none⟩ (.int .u8 t)).setCell ⟨gk, 4, none⟩ (.int .u16 i)).setCell ⟨gk, 5, none⟩ (.bool al)) := (below_set (below_set (below_set (below_set (below_set (below_set hB1.out hG.out) hG.out) hG.out) hG.out) hG.out) hG.out)
  have hBN : ((((((w6_.setCell ⟨gk, 0, none⟩ (.int .u32 s)).setCell ⟨gk, 1, none⟩ (.int .u32 d)).setCell ⟨gk, 2, none⟩ (.int .u8 p)).setCell ⟨gk, 3, none⟩ (.int .u8 t)).setCell ⟨gk, 4, none⟩ (.int .u16 i)).setCell ⟨gk, 5, none⟩ (.bool al)).heap[gk]? = some (.cells #[.int .u32 s, .int .u32 d, .int .u8 p, .int .u8 t, .int .u16 i, .bool al] 26 (0, 0)) := (blk_put (cs := #[.int .u32 s, .int .u32 d, .int .u8 p, .int .u8 t, .int .u16 i, .bool false]) (blk_put (cs := #[.int .u32 s, .int .u32 d, .int .u8 p, .int .u8 t, .int .u16 0, .bool false]) (blk_put (cs := #[.int .u32 s, .int .u32 d, .int .u8 p, .int .u8 0, .int .u16 0, .bool false]) (blk_put (cs := #[.int .u32 s, .int .u32 d, .int .u8 0, .int .u8 0, .int .u16 0, .bool false]) (blk_put (cs := #[.int .u32 s, .int .u32 0, .int .u8 0, .int .u8 0, .int .u16 0, .bool false]) (blk_put (cs := #[.int .u32 0, .int .u32 0, .int .u8 0, .int .u8 0, .int .u16 0, .bool false]) hBX.out 0 (.int .u32 s) rfl) 1 (.int .u32 d) rfl) 2 (.int .u8 p) rfl) 3 (.int .u8 t) rfl) 4 (.int .u16 i) rfl) 5 (.bool al) rfl)
  clear hBX hB1
  clear hc_gk_0 hf_gk_0 hc_gk_1 hf_gk_1 hc_gk_2 hf_gk_2 hc_gk_3 hf_gk_3 hc_gk_4 hf_gk_4 hc_gk_5 hf_gk_5
  generalize ((((((w6_.setCell ⟨gk, 0, none⟩ (.int .u32 s)).setCell ⟨gk, 1, none⟩ (.int .u32 d)).setCell ⟨gk, 2, none⟩ (.int .u8 p)).setCell ⟨gk, 3, none⟩ (.int .u8 t)).setCell ⟨gk, 4, none⟩ (.int .u16 i)).setCell ⟨gk, 5, none⟩ (.bool al)) = w7_ at hB hBN ⊢
  have NB_gk_gh := Aside0.mk (show gk ≠ gh from Nat.ne_of_gt (Nat.lt_of_lt_of_le (blk_lt (g := gh) (o := .cells #[.int .u32 s, .int .u32 d, .int .u8 p, .int .u8 t, .int .u16 i, .bool al] 26 (0, 0)) BK_gh.out) hG.out))
  have NB_gh_gk := Aside0.mk (Ne.symm NB_gk_gh.out)
  have HBo := Aside0.mk HB.out
  have nHB := Aside0.mk (HB.out.trans (hB.mono HB.out.size))
  clear HB
  have HB := nHB
  clear nHB
  clear hc_gh_0 hf_gh_0 hc_gh_1 hf_gh_1 hc_gh_2 hf_gh_2 hc_gh_3 hf_gh_3 hc_gh_4 hf_gh_4 hc_gh_5 hf_gh_5
  have nBK := Aside0.mk (blk_below (g := gh) (o := .cells #[.int .u32 s, .int .u32 d, .int .u8 p, .int .u8 t, .int .u16 i, .bool al] 26 (0, 0)) BK_gh.out hB)
  clear BK_gh
  have BK_gh := nBK
  clear nBK
  have hc_gh_0 : w7_.cell? ⟨gh, 0, none⟩ = some (.int .u32 s) := (blk_cell BK_gh.out 0).trans rfl
  have hf_gh_0 := blk_frozen BK_gh.out 0
  have hc_gh_1 : w7_.cell? ⟨gh, 1, none⟩ = some (.int .u32 d) := (blk_cell BK_gh.out 1).trans rfl
  have hf_gh_1 := blk_frozen BK_gh.out 1
  have hc_gh_2 : w7_.cell? ⟨gh, 2, none⟩ = some (.int .u8 p) := (blk_cell BK_gh.out 2).trans rfl
  have hf_gh_2 := blk_frozen BK_gh.out 2
  have hc_gh_3 : w7_.cell? ⟨gh, 3, none⟩ = some (.int .u8 t) := (blk_cell BK_gh.out 3).trans rfl
  have hf_gh_3 := blk_frozen BK_gh.out 3
  have hc_gh_4 : w7_.cell? ⟨gh, 4, none⟩ = some (.int .u16 i) := (blk_cell BK_gh.out 4).trans rfl
  have hf_gh_4 := blk_frozen BK_gh.out 4
  have hc_gh_5 : w7_.cell? ⟨gh, 5, none⟩ = some (.bool al) := (blk_cell BK_gh.out 5).trans rfl
  have hf_gh_5 := blk_frozen BK_gh.out 5
  have nHC := Aside0.mk (Kd.R_below HR_x.out hB)
  clear HR_x
  have HR_x := nHC
  clear nHC
  have nHC := Aside0.mk (Kd.R_below HR_z.out hB)
  clear HR_z
  have HR_z := nHC
  clear nHC
  have nHC := Aside0.mk (Kd.R_below HR_u.out hB)
  clear HR_u
  have HR_u := nHC
  clear nHC
  have BK_gk := Aside0.mk hBN
  have GE_gk := Aside0.mk (Nat.le_trans HBo.out.size hG.out)
  clear HBo hG hBN hB
  have hc_gk_0 : w7_.cell? ⟨gk, 0, none⟩ = some (.int .u32 s) := (blk_cell BK_gk.out 0).trans rfl
  have hf_gk_0 := blk_frozen BK_gk.out 0
  have hc_gk_1 : w7_.cell? ⟨gk, 1, none⟩ = some (.int .u32 d) := (blk_cell BK_gk.out 1).trans rfl
  have hf_gk_1 := blk_frozen BK_gk.out 1
  have hc_gk_2 : w7_.cell? ⟨gk, 2, none⟩ = some (.int .u8 p) := (blk_cell BK_gk.out 2).trans rfl
  have hf_gk_2 := blk_frozen BK_gk.out 2
  have hc_gk_3 : w7_.cell? ⟨gk, 3, none⟩ = some (.int .u8 t) := (blk_cell BK_gk.out 3).trans rfl
  have hf_gk_3 := blk_frozen BK_gk.out 3
  have hc_gk_4 : w7_.cell? ⟨gk, 4, none⟩ = some (.int .u16 i) := (blk_cell BK_gk.out 4).trans rfl
  have hf_gk_4 := blk_frozen BK_gk.out 4
  have hc_gk_5 : w7_.cell? ⟨gk, 5, none⟩ = some (.bool al) := (blk_cell BK_gk.out 5).trans rfl
  have hf_gk_5 := blk_frozen BK_gk.out 5
  go_upto_region 8 with (first | (go_at_call 12; refine (same_calls HBE.out (beq_self_eq_true b) _ _ _ _ _ (Kd.R_reads' HR_u.out).2.2 (Kd.R_reads' HR_u.out).2.1 (Kd.C_below HC_b.out HB.out) HK_b.out).mono ?_; rintro e w8_ ⟨rfl, hB⟩; have nHB := Aside0.mk (HB.out.trans (hB.mono HB.out.size)); clear HB; have HB := nHB; clear nHB; clear hc_gh_0 hf_gh_0 hc_gh_1 hf_gh_1 hc_gh_2 hf_gh_2 hc_gh_3 hf_gh_3 hc_gh_4 hf_gh_4 hc_gh_5 hf_gh_5; have nBK := Aside0.mk (blk_below (g := gh) (o := .cells #[.int .u32 s, .int .u32 d, .int .u8 p, .int .u8 t, .int .u16 i, .bool al] 26 (0, 0)) BK_gh.out hB); clear BK_gh; have BK_gh := nBK; clear nBK; have hc_gh_0 : w8_.cell? ⟨gh, 0, none⟩ = some (.int .u32 s) := (blk_cell BK_gh.out 0).trans rfl; have hf_gh_0 := blk_frozen BK_gh.out 0; have hc_gh_1 : w8_.cell? ⟨gh, 1, none⟩ = some (.int .u32 d) := (blk_cell BK_gh.out 1).trans rfl; have hf_gh_1 := blk_frozen BK_gh.out 1; have hc_gh_2 : w8_.cell? ⟨gh, 2, none⟩ = some (.int .u8 p) := (blk_cell BK_gh.out 2).trans rfl; have hf_gh_2 := blk_frozen BK_gh.out 2; have hc_gh_3 : w8_.cell? ⟨gh, 3, none⟩ = some (.int .u8 t) := (blk_cell BK_gh.out 3).trans rfl; have hf_gh_3 := blk_frozen BK_gh.out 3; have hc_gh_4 : w8_.cell? ⟨gh, 4, none⟩ = some (.int .u16 i) := (blk_cell BK_gh.out 4).trans rfl; have hf_gh_4 := blk_frozen BK_gh.out 4; have hc_gh_5 : w8_.cell? ⟨gh, 5, none⟩ = some (.bool al) := (blk_cell BK_gh.out 5).trans rfl; have hf_gh_5 := blk_frozen BK_gh.out 5; clear hc_gk_0 hf_gk_0 hc_gk_1 hf_gk_1 hc_gk_2 hf_gk_2 hc_gk_3 hf_gk_3 hc_gk_4 hf_gk_4 hc_gk_5 hf_gk_5; have nBK := Aside0.mk (blk_below (g := gk) (o := .cells #[.int .u32 s, .int .u32 d, .int .u8 p, .int .u8 t, .int .u16 i, .bool al] 26 (0, 0)) BK_gk.out hB); clear BK_gk; have BK_gk := nBK; clear nBK; have hc_gk_0 : w8_.cell? ⟨gk, 0, none⟩ = some (.int .u32 s) := (blk_cell BK_gk.out 0).trans rfl; have hf_gk_0 := blk_frozen BK_gk.out 0; have hc_gk_1 : w8_.cell? ⟨gk, 1, none⟩ = some (.int .u32 d) := (blk_cell BK_gk.out 1).trans rfl; have hf_gk_1 := blk_frozen BK_gk.out 1; have hc_gk_2 : w8_.cell? ⟨gk, 2, none⟩ = some (.int .u8 p) := (blk_cell BK_gk.out 2).trans rfl; have hf_gk_2 := blk_frozen BK_gk.out 2; have hc_gk_3 : w8_.cell? ⟨gk, 3, none⟩ = some (.int .u8 t) := (blk_cell BK_gk.out 3).trans rfl; have hf_gk_3 := blk_frozen BK_gk.out 3; have hc_gk_4 : w8_.cell? ⟨gk, 4, none⟩ = some (.int .u16 i) := (blk_cell BK_gk.out 4).trans rfl; have hf_gk_4 := blk_frozen BK_gk.out 4; have hc_gk_5 : w8_.cell? ⟨gk, 5, none⟩ = some (.bool al) := (blk_cell BK_gk.out 5).trans rfl; have hf_gk_5 := blk_frozen BK_gk.out 5; have nHC := Aside0.mk (Kd.R_below HR_x.out hB); clear HR_x; have HR_x := nHC; clear nHC; have nHC := Aside0.mk (Kd.R_below HR_z.out hB); clear HR_z; have HR_z := nHC; clear nHC; have nHC := Aside0.mk (Kd.R_below HR_u.out hB); clear HR_u; have HR_u := nHC; clear nHC; clear hB))
  go_upto_region 9 with (first | (go_at_call 11; refine (decode_calls HMB.out HML.out HW.out _ _ _ (Kd.C_below HC_m.out HB.out) HK_m.out).mono ?_; rintro e w9_ ⟨v_q, rfl, hR, hB⟩; obtain ⟨A_q, c_q, rfl⟩ := Kd.R_slice hR; have nHB := Aside0.mk (HB.out.trans (hB.mono HB.out.size)); clear HB; have HB := nHB; clear nHB; clear hc_gh_0 hf_gh_0 hc_gh_1 hf_gh_1 hc_gh_2 hf_gh_2 hc_gh_3 hf_gh_3 hc_gh_4 hf_gh_4 hc_gh_5 hf_gh_5; have nBK := Aside0.mk (blk_below (g := gh) (o := .cells #[.int .u32 s, .int .u32 d, .int .u8 p, .int .u8 t, .int .u16 i, .bool al] 26 (0, 0)) BK_gh.out hB); clear BK_gh; have BK_gh := nBK; clear nBK; have hc_gh_0 : w9_.cell? ⟨gh, 0, none⟩ = some (.int .u32 s) := (blk_cell BK_gh.out 0).trans rfl; have hf_gh_0 := blk_frozen BK_gh.out 0; have hc_gh_1 : w9_.cell? ⟨gh, 1, none⟩ = some (.int .u32 d) := (blk_cell BK_gh.out 1).trans rfl; have hf_gh_1 := blk_frozen BK_gh.out 1; have hc_gh_2 : w9_.cell? ⟨gh, 2, none⟩ = some (.int .u8 p) := (blk_cell BK_gh.out 2).trans rfl; have hf_gh_2 := blk_frozen BK_gh.out 2; have hc_gh_3 : w9_.cell? ⟨gh, 3, none⟩ = some (.int .u8 t) := (blk_cell BK_gh.out 3).trans rfl; have hf_gh_3 := blk_frozen BK_gh.out 3; have hc_gh_4 : w9_.cell? ⟨gh, 4, none⟩ = some (.int .u16 i) := (blk_cell BK_gh.out 4).trans rfl; have hf_gh_4 := blk_frozen BK_gh.out 4; have hc_gh_5 : w9_.cell? ⟨gh, 5, none⟩ = some (.bool al) := (blk_cell BK_gh.out 5).trans rfl; have hf_gh_5 := blk_frozen BK_gh.out 5; clear hc_gk_0 hf_gk_0 hc_gk_1 hf_gk_1 hc_gk_2 hf_gk_2 hc_gk_3 hf_gk_3 hc_gk_4 hf_gk_4 hc_gk_5 hf_gk_5; have nBK := Aside0.mk (blk_below (g := gk) (o := .cells #[.int .u32 s, .int .u32 d, .int .u8 p, .int .u8 t, .int .u16 i, .bool al] 26 (0, 0)) BK_gk.out hB); clear BK_gk; have BK_gk := nBK; clear nBK; have hc_gk_0 : w9_.cell? ⟨gk, 0, none⟩ = some (.int .u32 s) := (blk_cell BK_gk.out 0).trans rfl; have hf_gk_0 := blk_frozen BK_gk.out 0; have hc_gk_1 : w9_.cell? ⟨gk, 1, none⟩ = some (.int .u32 d) := (blk_cell BK_gk.out 1).trans rfl; have hf_gk_1 := blk_frozen BK_gk.out 1; have hc_gk_2 : w9_.cell? ⟨gk, 2, none⟩ = some (.int .u8 p) := (blk_cell BK_gk.out 2).trans rfl; have hf_gk_2 := blk_frozen BK_gk.out 2; have hc_gk_3 : w9_.cell? ⟨gk, 3, none⟩ = some (.int .u8 t) := (blk_cell BK_gk.out 3).trans rfl; have hf_gk_3 := blk_frozen BK_gk.out 3; have hc_gk_4 : w9_.cell? ⟨gk, 4, none⟩ = some (.int .u16 i) := (blk_cell BK_gk.out 4).trans rfl; have hf_gk_4 := blk_frozen BK_gk.out 4; have hc_gk_5 : w9_.cell? ⟨gk, 5, none⟩ = some (.bool al) := (blk_cell BK_gk.out 5).trans rfl; have hf_gk_5 := blk_frozen BK_gk.out 5; have nHC := Aside0.mk (Kd.R_below HR_x.out hB); clear HR_x; have HR_x := nHC; clear nHC; have nHC := Aside0.mk (Kd.R_below HR_z.out hB); clear HR_z; have HR_z := nHC; clear nHC; have nHC := Aside0.mk (Kd.R_below HR_u.out hB); clear HR_u; have HR_u := nHC; clear nHC; have HR_q := Aside0.mk (Kd.R_mono hR (fun _ _ => trivial : ∀ k, _ → (fun _ => True) k)); clear hR; clear hB) | ((with_reducible refine gate_dst (N := 13) rfl ?_); (try (refine gate_guard (by rfl) ?_; dsimp only)); refine box_event ?hg (N := 13) ?hd (cs := #[.int .u32 0, .int .u32 0, .int .u8 0, .int .u8 0, .int .u16 0, .bool false]) (t := 26) ?hr ?_; (case hd => rfl); (case hg => rfl); (case hr => first | (go_simp; done) | (go_simp; rfl)); intro gn hg w10_ hbox hB0; have hG := Aside0.mk (show w9_.heap.size ≤ gn from Nat.le_of_eq hg.symm); clear hg; have hBX := Aside0.mk hbox; have hB1 := Aside0.mk hB0; clear hB0; have hc_gn_0 : w10_.cell? ⟨gn, 0, none⟩ = some (.int .u32 0) := (blk_cell hbox 0).trans rfl; have hf_gn_0 := blk_frozen hbox 0; have hc_gn_1 : w10_.cell? ⟨gn, 1, none⟩ = some (.int .u32 0) := (blk_cell hbox 1).trans rfl; have hf_gn_1 := blk_frozen hbox 1; have hc_gn_2 : w10_.cell? ⟨gn, 2, none⟩ = some (.int .u8 0) := (blk_cell hbox 2).trans rfl; have hf_gn_2 := blk_frozen hbox 2; have hc_gn_3 : w10_.cell? ⟨gn, 3, none⟩ = some (.int .u8 0) := (blk_cell hbox 3).trans rfl; have hf_gn_3 := blk_frozen hbox 3; have hc_gn_4 : w10_.cell? ⟨gn, 4, none⟩ = some (.int .u16 0) := (blk_cell hbox 4).trans rfl; have hf_gn_4 := blk_frozen hbox 4; have hc_gn_5 : w10_.cell? ⟨gn, 5, none⟩ = some (.bool false) := (blk_cell hbox 5).trans rfl; have hf_gn_5 := blk_frozen hbox 5; clear hbox))
  have hB : Below w9_.heap.size w9_ ((((((w10_.setCell ⟨gn, 0, none⟩ (.int .u32 ks)).setCell ⟨gn, 1, none⟩ (.int .u32 kd)).setCell ⟨gn, 2, none⟩ (.int .u8 kp)).setCell ⟨gn, 3, none⟩ (.int .u8 kt)).setCell ⟨gn, 4, none⟩ (.int .u16 ki)).setCell ⟨gn, 5, none⟩ (.bool ka)) := (below_set (below_set (below_set (below_set (below_set (below_set hB1.out hG.out) hG.out) hG.out) hG.out) hG.out) hG.out)
  have hBN : ((((((w10_.setCell ⟨gn, 0, none⟩ (.int .u32 ks)).setCell ⟨gn, 1, none⟩ (.int .u32 kd)).setCell ⟨gn, 2, none⟩ (.int .u8 kp)).setCell ⟨gn, 3, none⟩ (.int .u8 kt)).setCell ⟨gn, 4, none⟩ (.int .u16 ki)).setCell ⟨gn, 5, none⟩ (.bool ka)).heap[gn]? = some (.cells #[.int .u32 ks, .int .u32 kd, .int .u8 kp, .int .u8 kt, .int .u16 ki, .bool ka] 26 (0, 0)) := (blk_put (cs := #[.int .u32 ks, .int .u32 kd, .int .u8 kp, .int .u8 kt, .int .u16 ki, .bool false]) (blk_put (cs := #[.int .u32 ks, .int .u32 kd, .int .u8 kp, .int .u8 kt, .int .u16 0, .bool false]) (blk_put (cs := #[.int .u32 ks, .int .u32 kd, .int .u8 kp, .int .u8 0, .int .u16 0, .bool false]) (blk_put (cs := #[.int .u32 ks, .int .u32 kd, .int .u8 0, .int .u8 0, .int .u16 0, .bool false]) (blk_put (cs := #[.int .u32 ks, .int .u32 0, .int .u8 0, .int .u8 0, .int .u16 0, .bool false]) (blk_put (cs := #[.int .u32 0, .int .u32 0, .int .u8 0, .int .u8 0, .int .u16 0, .bool false]) hBX.out 0 (.int .u32 ks) rfl) 1 (.int .u32 kd) rfl) 2 (.int .u8 kp) rfl) 3 (.int .u8 kt) rfl) 4 (.int .u16 ki) rfl) 5 (.bool ka) rfl)
  clear hBX hB1
  clear hc_gn_0 hf_gn_0 hc_gn_1 hf_gn_1 hc_gn_2 hf_gn_2 hc_gn_3 hf_gn_3 hc_gn_4 hf_gn_4 hc_gn_5 hf_gn_5
  generalize ((((((w10_.setCell ⟨gn, 0, none⟩ (.int .u32 ks)).setCell ⟨gn, 1, none⟩ (.int .u32 kd)).setCell ⟨gn, 2, none⟩ (.int .u8 kp)).setCell ⟨gn, 3, none⟩ (.int .u8 kt)).setCell ⟨gn, 4, none⟩ (.int .u16 ki)).setCell ⟨gn, 5, none⟩ (.bool ka)) = w11_ at hB hBN ⊢
  have NB_gn_gh := Aside0.mk (show gn ≠ gh from Nat.ne_of_gt (Nat.lt_of_lt_of_le (blk_lt (g := gh) (o := .cells #[.int .u32 s, .int .u32 d, .int .u8 p, .int .u8 t, .int .u16 i, .bool al] 26 (0, 0)) BK_gh.out) hG.out))
  have NB_gh_gn := Aside0.mk (Ne.symm NB_gn_gh.out)
  have NB_gn_gk := Aside0.mk (show gn ≠ gk from Nat.ne_of_gt (Nat.lt_of_lt_of_le (blk_lt (g := gk) (o := .cells #[.int .u32 s, .int .u32 d, .int .u8 p, .int .u8 t, .int .u16 i, .bool al] 26 (0, 0)) BK_gk.out) hG.out))
  have NB_gk_gn := Aside0.mk (Ne.symm NB_gn_gk.out)
  have HBo := Aside0.mk HB.out
  have nHB := Aside0.mk (HB.out.trans (hB.mono HB.out.size))
  clear HB
  have HB := nHB
  clear nHB
  clear hc_gh_0 hf_gh_0 hc_gh_1 hf_gh_1 hc_gh_2 hf_gh_2 hc_gh_3 hf_gh_3 hc_gh_4 hf_gh_4 hc_gh_5 hf_gh_5
  have nBK := Aside0.mk (blk_below (g := gh) (o := .cells #[.int .u32 s, .int .u32 d, .int .u8 p, .int .u8 t, .int .u16 i, .bool al] 26 (0, 0)) BK_gh.out hB)
  clear BK_gh
  have BK_gh := nBK
  clear nBK
  have hc_gh_0 : w11_.cell? ⟨gh, 0, none⟩ = some (.int .u32 s) := (blk_cell BK_gh.out 0).trans rfl
  have hf_gh_0 := blk_frozen BK_gh.out 0
  have hc_gh_1 : w11_.cell? ⟨gh, 1, none⟩ = some (.int .u32 d) := (blk_cell BK_gh.out 1).trans rfl
  have hf_gh_1 := blk_frozen BK_gh.out 1
  have hc_gh_2 : w11_.cell? ⟨gh, 2, none⟩ = some (.int .u8 p) := (blk_cell BK_gh.out 2).trans rfl
  have hf_gh_2 := blk_frozen BK_gh.out 2
  have hc_gh_3 : w11_.cell? ⟨gh, 3, none⟩ = some (.int .u8 t) := (blk_cell BK_gh.out 3).trans rfl
  have hf_gh_3 := blk_frozen BK_gh.out 3
  have hc_gh_4 : w11_.cell? ⟨gh, 4, none⟩ = some (.int .u16 i) := (blk_cell BK_gh.out 4).trans rfl
  have hf_gh_4 := blk_frozen BK_gh.out 4
  have hc_gh_5 : w11_.cell? ⟨gh, 5, none⟩ = some (.bool al) := (blk_cell BK_gh.out 5).trans rfl
  have hf_gh_5 := blk_frozen BK_gh.out 5
  clear hc_gk_0 hf_gk_0 hc_gk_1 hf_gk_1 hc_gk_2 hf_gk_2 hc_gk_3 hf_gk_3 hc_gk_4 hf_gk_4 hc_gk_5 hf_gk_5
  have nBK := Aside0.mk (blk_below (g := gk) (o := .cells #[.int .u32 s, .int .u32 d, .int .u8 p, .int .u8 t, .int .u16 i, .bool al] 26 (0, 0)) BK_gk.out hB)
  clear BK_gk
  have BK_gk := nBK
  clear nBK
  have hc_gk_0 : w11_.cell? ⟨gk, 0, none⟩ = some (.int .u32 s) := (blk_cell BK_gk.out 0).trans rfl
  have hf_gk_0 := blk_frozen BK_gk.out 0
  have hc_gk_1 : w11_.cell? ⟨gk, 1, none⟩ = some (.int .u32 d) := (blk_cell BK_gk.out 1).trans rfl
  have hf_gk_1 := blk_frozen BK_gk.out 1
  have hc_gk_2 : w11_.cell? ⟨gk, 2, none⟩ = some (.int .u8 p) := (blk_cell BK_gk.out 2).trans rfl
  have hf_gk_2 := blk_frozen BK_gk.out 2
  have hc_gk_3 : w11_.cell? ⟨gk, 3, none⟩ = some (.int .u8 t) := (blk_cell BK_gk.out 3).trans rfl
  have hf_gk_3 := blk_frozen BK_gk.out 3
  have hc_gk_4 : w11_.cell? ⟨gk, 4, none⟩ = some (.int .u16 i) := (blk_cell BK_gk.out 4).trans rfl
  have hf_gk_4 := blk_frozen BK_gk.out 4
  have hc_gk_5 : w11_.cell? ⟨gk, 5, none⟩ = some (.bool al) := (blk_cell BK_gk.out 5).trans rfl
  have hf_gk_5 := blk_frozen BK_gk.out 5
  have nHC := Aside0.mk (Kd.R_below HR_x.out hB)
  clear HR_x
  have HR_x := nHC
  clear nHC
  have nHC := Aside0.mk (Kd.R_below HR_z.out hB)
  clear HR_z
  have HR_z := nHC
  clear nHC
  have nHC := Aside0.mk (Kd.R_below HR_u.out hB)
  clear HR_u
  have HR_u := nHC
  clear nHC
  have nHC := Aside0.mk (Kd.R_below HR_q.out hB)
  clear HR_q
  have HR_q := nHC
  clear nHC
  have BK_gn := Aside0.mk hBN
  have GE_gn := Aside0.mk (Nat.le_trans HBo.out.size hG.out)
  clear HBo hG hBN hB
  have hc_gn_0 : w11_.cell? ⟨gn, 0, none⟩ = some (.int .u32 ks) := (blk_cell BK_gn.out 0).trans rfl
  have hf_gn_0 := blk_frozen BK_gn.out 0
  have hc_gn_1 : w11_.cell? ⟨gn, 1, none⟩ = some (.int .u32 kd) := (blk_cell BK_gn.out 1).trans rfl
  have hf_gn_1 := blk_frozen BK_gn.out 1
  have hc_gn_2 : w11_.cell? ⟨gn, 2, none⟩ = some (.int .u8 kp) := (blk_cell BK_gn.out 2).trans rfl
  have hf_gn_2 := blk_frozen BK_gn.out 2
  have hc_gn_3 : w11_.cell? ⟨gn, 3, none⟩ = some (.int .u8 kt) := (blk_cell BK_gn.out 3).trans rfl
  have hf_gn_3 := blk_frozen BK_gn.out 3
  have hc_gn_4 : w11_.cell? ⟨gn, 4, none⟩ = some (.int .u16 ki) := (blk_cell BK_gn.out 4).trans rfl
  have hf_gn_4 := blk_frozen BK_gn.out 4
  have hc_gn_5 : w11_.cell? ⟨gn, 5, none⟩ = some (.bool ka) := (blk_cell BK_gn.out 5).trans rfl
  have hf_gn_5 := blk_frozen BK_gn.out 5
  go_upto_region 12 with (first | (go_at_call 10; refine (encode_calls hkk HCL.out HY.out _ _ _ (Kd.R_reads' HR_q.out).2.2 (Kd.R_reads' HR_q.out).2.1).mono ?_; rintro e w12_ ⟨v_y, rfl, hR, hB⟩; obtain ⟨A_y, c_y, rfl⟩ := Kd.R_slice hR; have nHB := Aside0.mk (HB.out.trans (hB.mono HB.out.size)); clear HB; have HB := nHB; clear nHB; clear hc_gh_0 hf_gh_0 hc_gh_1 hf_gh_1 hc_gh_2 hf_gh_2 hc_gh_3 hf_gh_3 hc_gh_4 hf_gh_4 hc_gh_5 hf_gh_5; have nBK := Aside0.mk (blk_below (g := gh) (o := .cells #[.int .u32 s, .int .u32 d, .int .u8 p, .int .u8 t, .int .u16 i, .bool al] 26 (0, 0)) BK_gh.out hB); clear BK_gh; have BK_gh := nBK; clear nBK; have hc_gh_0 : w12_.cell? ⟨gh, 0, none⟩ = some (.int .u32 s) := (blk_cell BK_gh.out 0).trans rfl; have hf_gh_0 := blk_frozen BK_gh.out 0; have hc_gh_1 : w12_.cell? ⟨gh, 1, none⟩ = some (.int .u32 d) := (blk_cell BK_gh.out 1).trans rfl; have hf_gh_1 := blk_frozen BK_gh.out 1; have hc_gh_2 : w12_.cell? ⟨gh, 2, none⟩ = some (.int .u8 p) := (blk_cell BK_gh.out 2).trans rfl; have hf_gh_2 := blk_frozen BK_gh.out 2; have hc_gh_3 : w12_.cell? ⟨gh, 3, none⟩ = some (.int .u8 t) := (blk_cell BK_gh.out 3).trans rfl; have hf_gh_3 := blk_frozen BK_gh.out 3; have hc_gh_4 : w12_.cell? ⟨gh, 4, none⟩ = some (.int .u16 i) := (blk_cell BK_gh.out 4).trans rfl; have hf_gh_4 := blk_frozen BK_gh.out 4; have hc_gh_5 : w12_.cell? ⟨gh, 5, none⟩ = some (.bool al) := (blk_cell BK_gh.out 5).trans rfl; have hf_gh_5 := blk_frozen BK_gh.out 5; clear hc_gk_0 hf_gk_0 hc_gk_1 hf_gk_1 hc_gk_2 hf_gk_2 hc_gk_3 hf_gk_3 hc_gk_4 hf_gk_4 hc_gk_5 hf_gk_5; have nBK := Aside0.mk (blk_below (g := gk) (o := .cells #[.int .u32 s, .int .u32 d, .int .u8 p, .int .u8 t, .int .u16 i, .bool al] 26 (0, 0)) BK_gk.out hB); clear BK_gk; have BK_gk := nBK; clear nBK; have hc_gk_0 : w12_.cell? ⟨gk, 0, none⟩ = some (.int .u32 s) := (blk_cell BK_gk.out 0).trans rfl; have hf_gk_0 := blk_frozen BK_gk.out 0; have hc_gk_1 : w12_.cell? ⟨gk, 1, none⟩ = some (.int .u32 d) := (blk_cell BK_gk.out 1).trans rfl; have hf_gk_1 := blk_frozen BK_gk.out 1; have hc_gk_2 : w12_.cell? ⟨gk, 2, none⟩ = some (.int .u8 p) := (blk_cell BK_gk.out 2).trans rfl; have hf_gk_2 := blk_frozen BK_gk.out 2; have hc_gk_3 : w12_.cell? ⟨gk, 3, none⟩ = some (.int .u8 t) := (blk_cell BK_gk.out 3).trans rfl; have hf_gk_3 := blk_frozen BK_gk.out 3; have hc_gk_4 : w12_.cell? ⟨gk, 4, none⟩ = some (.int .u16 i) := (blk_cell BK_gk.out 4).trans rfl; have hf_gk_4 := blk_frozen BK_gk.out 4; have hc_gk_5 : w12_.cell? ⟨gk, 5, none⟩ = some (.bool al) := (blk_cell BK_gk.out 5).trans rfl; have hf_gk_5 := blk_frozen BK_gk.out 5; clear hc_gn_0 hf_gn_0 hc_gn_1 hf_gn_1 hc_gn_2 hf_gn_2 hc_gn_3 hf_gn_3 hc_gn_4 hf_gn_4 hc_gn_5 hf_gn_5; have nBK := Aside0.mk (blk_below (g := gn) (o := .cells #[.int .u32 ks, .int .u32 kd, .int .u8 kp, .int .u8 kt, .int .u16 ki, .bool ka] 26 (0, 0)) BK_gn.out hB); clear BK_gn; have BK_gn := nBK; clear nBK; have hc_gn_0 : w12_.cell? ⟨gn, 0, none⟩ = some (.int .u32 ks) := (blk_cell BK_gn.out 0).trans rfl; have hf_gn_0 := blk_frozen BK_gn.out 0; have hc_gn_1 : w12_.cell? ⟨gn, 1, none⟩ = some (.int .u32 kd) := (blk_cell BK_gn.out 1).trans rfl; have hf_gn_1 := blk_frozen BK_gn.out 1; have hc_gn_2 : w12_.cell? ⟨gn, 2, none⟩ = some (.int .u8 kp) := (blk_cell BK_gn.out 2).trans rfl; have hf_gn_2 := blk_frozen BK_gn.out 2; have hc_gn_3 : w12_.cell? ⟨gn, 3, none⟩ = some (.int .u8 kt) := (blk_cell BK_gn.out 3).trans rfl; have hf_gn_3 := blk_frozen BK_gn.out 3; have hc_gn_4 : w12_.cell? ⟨gn, 4, none⟩ = some (.int .u16 ki) := (blk_cell BK_gn.out 4).trans rfl; have hf_gn_4 := blk_frozen BK_gn.out 4; have hc_gn_5 : w12_.cell? ⟨gn, 5, none⟩ = some (.bool ka) := (blk_cell BK_gn.out 5).trans rfl; have hf_gn_5 := blk_frozen BK_gn.out 5; have nHC := Aside0.mk (Kd.R_below HR_x.out hB); clear HR_x; have HR_x := nHC; clear nHC; have nHC := Aside0.mk (Kd.R_below HR_z.out hB); clear HR_z; have HR_z := nHC; clear nHC; have nHC := Aside0.mk (Kd.R_below HR_u.out hB); clear HR_u; have HR_u := nHC; clear nHC; have nHC := Aside0.mk (Kd.R_below HR_q.out hB); clear HR_q; have HR_q := nHC; clear nHC; have HR_y := Aside0.mk (Kd.R_mono hR (fun _ _ => trivial : ∀ k, _ → (fun _ => True) k)); clear hR; clear hB))
  obtain ⟨i_, hi_, _, hz_, _⟩ := info_parts info5
  obtain ⟨hcut_yy, hA_, hC_⟩ := print_take_of (P := Try.prog) (Value.int .u8) 0 27 5 .i64 Try.underlying27 hi_ hz_ A_m c_m m (y.length : Int) (by omega) (by omega) HK_m.out
  obtain ⟨yy, hy_yy⟩ : ∃ zz_, zz_ = m.take (y.length : Int).toNat := ⟨_, rfl⟩
  rw [← hy_yy] at hcut_yy hC_ hA_
  have HY_yy := Aside0.mk hy_yy
  clear hy_yy
  have HC_yy := Aside0.mk (Kd.C_of_reads (h1 := fun _ => rfl) (hA_ _ (Kd.reads_of_C (Kd.C_below HC_m.out HB.out))))
  have HK_yy := Aside0.mk hC_
  clear hA_ hC_ hi_ hz_
  go_wp2_with (first | (go_at_call 12; refine (same_calls HYE.out (show (y == yy) = true by rw [HY_yy.out, Int.toNat_natCast, ← HYM.out]; exact beq_self_eq_true y) _ _ _ _ _ (Kd.R_reads' HR_y.out).2.2 (Kd.R_reads' HR_y.out).2.1 HC_yy.out HK_yy.out).mono ?_; rintro e w13_ ⟨rfl, hB⟩; have nHB := Aside0.mk (HB.out.trans (hB.mono HB.out.size)); clear HB; have HB := nHB; clear nHB; clear hc_gh_0 hf_gh_0 hc_gh_1 hf_gh_1 hc_gh_2 hf_gh_2 hc_gh_3 hf_gh_3 hc_gh_4 hf_gh_4 hc_gh_5 hf_gh_5; have nBK := Aside0.mk (blk_below (g := gh) (o := .cells #[.int .u32 s, .int .u32 d, .int .u8 p, .int .u8 t, .int .u16 i, .bool al] 26 (0, 0)) BK_gh.out hB); clear BK_gh; have BK_gh := nBK; clear nBK; have hc_gh_0 : w13_.cell? ⟨gh, 0, none⟩ = some (.int .u32 s) := (blk_cell BK_gh.out 0).trans rfl; have hf_gh_0 := blk_frozen BK_gh.out 0; have hc_gh_1 : w13_.cell? ⟨gh, 1, none⟩ = some (.int .u32 d) := (blk_cell BK_gh.out 1).trans rfl; have hf_gh_1 := blk_frozen BK_gh.out 1; have hc_gh_2 : w13_.cell? ⟨gh, 2, none⟩ = some (.int .u8 p) := (blk_cell BK_gh.out 2).trans rfl; have hf_gh_2 := blk_frozen BK_gh.out 2; have hc_gh_3 : w13_.cell? ⟨gh, 3, none⟩ = some (.int .u8 t) := (blk_cell BK_gh.out 3).trans rfl; have hf_gh_3 := blk_frozen BK_gh.out 3; have hc_gh_4 : w13_.cell? ⟨gh, 4, none⟩ = some (.int .u16 i) := (blk_cell BK_gh.out 4).trans rfl; have hf_gh_4 := blk_frozen BK_gh.out 4; have hc_gh_5 : w13_.cell? ⟨gh, 5, none⟩ = some (.bool al) := (blk_cell BK_gh.out 5).trans rfl; have hf_gh_5 := blk_frozen BK_gh.out 5; clear hc_gk_0 hf_gk_0 hc_gk_1 hf_gk_1 hc_gk_2 hf_gk_2 hc_gk_3 hf_gk_3 hc_gk_4 hf_gk_4 hc_gk_5 hf_gk_5; have nBK := Aside0.mk (blk_below (g := gk) (o := .cells #[.int .u32 s, .int .u32 d, .int .u8 p, .int .u8 t, .int .u16 i, .bool al] 26 (0, 0)) BK_gk.out hB); clear BK_gk; have BK_gk := nBK; clear nBK; have hc_gk_0 : w13_.cell? ⟨gk, 0, none⟩ = some (.int .u32 s) := (blk_cell BK_gk.out 0).trans rfl; have hf_gk_0 := blk_frozen BK_gk.out 0; have hc_gk_1 : w13_.cell? ⟨gk, 1, none⟩ = some (.int .u32 d) := (blk_cell BK_gk.out 1).trans rfl; have hf_gk_1 := blk_frozen BK_gk.out 1; have hc_gk_2 : w13_.cell? ⟨gk, 2, none⟩ = some (.int .u8 p) := (blk_cell BK_gk.out 2).trans rfl; have hf_gk_2 := blk_frozen BK_gk.out 2; have hc_gk_3 : w13_.cell? ⟨gk, 3, none⟩ = some (.int .u8 t) := (blk_cell BK_gk.out 3).trans rfl; have hf_gk_3 := blk_frozen BK_gk.out 3; have hc_gk_4 : w13_.cell? ⟨gk, 4, none⟩ = some (.int .u16 i) := (blk_cell BK_gk.out 4).trans rfl; have hf_gk_4 := blk_frozen BK_gk.out 4; have hc_gk_5 : w13_.cell? ⟨gk, 5, none⟩ = some (.bool al) := (blk_cell BK_gk.out 5).trans rfl; have hf_gk_5 := blk_frozen BK_gk.out 5; clear hc_gn_0 hf_gn_0 hc_gn_1 hf_gn_1 hc_gn_2 hf_gn_2 hc_gn_3 hf_gn_3 hc_gn_4 hf_gn_4 hc_gn_5 hf_gn_5; have nBK := Aside0.mk (blk_below (g := gn) (o := .cells #[.int .u32 ks, .int .u32 kd, .int .u8 kp, .int .u8 kt, .int .u16 ki, .bool ka] 26 (0, 0)) BK_gn.out hB); clear BK_gn; have BK_gn := nBK; clear nBK; have hc_gn_0 : w13_.cell? ⟨gn, 0, none⟩ = some (.int .u32 ks) := (blk_cell BK_gn.out 0).trans rfl; have hf_gn_0 := blk_frozen BK_gn.out 0; have hc_gn_1 : w13_.cell? ⟨gn, 1, none⟩ = some (.int .u32 kd) := (blk_cell BK_gn.out 1).trans rfl; have hf_gn_1 := blk_frozen BK_gn.out 1; have hc_gn_2 : w13_.cell? ⟨gn, 2, none⟩ = some (.int .u8 kp) := (blk_cell BK_gn.out 2).trans rfl; have hf_gn_2 := blk_frozen BK_gn.out 2; have hc_gn_3 : w13_.cell? ⟨gn, 3, none⟩ = some (.int .u8 kt) := (blk_cell BK_gn.out 3).trans rfl; have hf_gn_3 := blk_frozen BK_gn.out 3; have hc_gn_4 : w13_.cell? ⟨gn, 4, none⟩ = some (.int .u16 ki) := (blk_cell BK_gn.out 4).trans rfl; have hf_gn_4 := blk_frozen BK_gn.out 4; have hc_gn_5 : w13_.cell? ⟨gn, 5, none⟩ = some (.bool ka) := (blk_cell BK_gn.out 5).trans rfl; have hf_gn_5 := blk_frozen BK_gn.out 5; have nHC := Aside0.mk (Kd.R_below HR_x.out hB); clear HR_x; have HR_x := nHC; clear nHC; have nHC := Aside0.mk (Kd.R_below HR_z.out hB); clear HR_z; have HR_z := nHC; clear nHC; have nHC := Aside0.mk (Kd.R_below HR_u.out hB); clear HR_u; have HR_u := nHC; clear nHC; have nHC := Aside0.mk (Kd.R_below HR_q.out hB); clear HR_q; have HR_q := nHC; clear nHC; have nHC := Aside0.mk (Kd.R_below HR_y.out hB); clear HR_y; have HR_y := nHC; clear nHC; have nHC := Aside0.mk (Kd.C_below HC_yy.out hB); clear HC_yy; have HC_yy := nHC; clear nHC; clear hB))
  go_ret
  exact ⟨rfl, HB.out⟩
theorem ipBack_call {s d p t i : Int} {al : Bool} (hok : HOk s d p t i) {b m : List Int} (hbb : Byt b) (hmb : Byt m) (A_b : Option Addr) (c_b : Nat) (A_m : Option Addr) (c_m : Nat) (w : World) (hr : Kd.C (Kd.int .u8) w A_b b.length b) (hc : b.length ≤ c_b) (hr2 : Kd.C (Kd.int .u8) w A_m m.length m) (hc2 : m.length ≤ c_m) :
    Calls Try.prog 3 #[.agg #[.int .u32 s, .int .u32 d, .int .u8 p, .int .u8 t, .int .u16 i, .bool al], .slice A_b b.length c_b, .slice A_m m.length c_m] w fun e w' => e = .returned (.bool true) ∧ Below w.heap.size w w' := by
  have hh := hlen_range al
  by_cases hl : 1400 < (b.length : Int) ∨ 500 < (m.length : Int)
  · exact ipBack_long hl A_b c_b A_m c_m w hr hc hr2 hc2
  have hl1 : ¬ (1400 < (b.length : Int)) := fun h => hl (.inl h)
  have hl2 : ¬ (500 < (m.length : Int)) := fun h => hl (.inr h)
  have hx := enc_len hok al hbb
  have he := enc_some s d p t i al b (by omega)
  have hd1 : dec ((hd s d p t i al ((hlen al + b.length : Nat) : Int) ++ b) ++ m) = (s, d, p, t, i, al, b, 0) := by
    rw [List.append_assoc]
    exact dec_frame hok al b m (by omega)
  rw [he] at hx
  by_cases h0 : (dec m).2.2.2.2.2.2.2 = 0
  · obtain ⟨e, _, h1, h20, _, h4, h5, h6, _⟩ := dec_right h0
    have hk := hlen_range (fAl m)
    have hlt : (m.take (fAll m).toNat).length = (fAll m).toNat := by rw [List.length_take]; omega
    exact ipBack_right hok hbb hmb hl1 hl2 he hx.1 hx.2 hd1 (fields_ok hmb) e (by rw [List.length_drop, hlt]; omega) (dec_enc hmb h0) (by rw [hlt]; omega) (by rw [hlt]) A_b c_b A_m c_m w hr hc hr2 hc2
  · exact ipBack_wrong hok hbb hmb hl1 hl2 he hx.1 hx.2 hd1 h0 (dec_wrong m h0) A_b c_b A_m c_m w hr hc hr2 hc2
end Go.Proofs.Ytlaanmkangikbaa
