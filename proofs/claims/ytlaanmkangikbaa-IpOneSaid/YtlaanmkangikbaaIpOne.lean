/-
  IpOne, walked.
-/
import Derived.Test.YtlaanmkangikbaaIpW
namespace Go.Proofs.Ytlaanmkangikbaa
open Go.RowKit Go.Proofs.YtlaanmkangikbaaW.PrintWords Go.Proofs.YtlaanmkangikbaaW.PrintLast Go.Proofs.YtlaanmkangikbaaW.PrintMore Go.Proofs.Ytlaanmkangikbaa.PIp
set_option linter.unusedVariables false
set_option maxHeartbeats 8000000 in
set_option maxRecDepth 100000 in
theorem ipOne_walk {s d p t i : Int} {al : Bool} (hok : HOk s d p t i) {b : List Int} (hbb : Byt b) (hbl : b.length ≤ 140737488355328) (at0 bit : Int) (hbit : 0 ≤ bit ∧ bit < 256) {x : List Int} {e0 : Int} (hx : enc s d p t i al b = (x, e0)) (h0 : e0 = 0 → 1400 < (b.length : Int) ∨ True)  (hnl : (e0 = 0 ∨ 1476 < (b.length : Int))) (hlen0 : (b.length : Int) ≤ 1400 → e0 = 0 ∧ hlen al ≤ x.length) (hxb : Byt x) (hxl : x.length ≤ 1500) (hn : (b.length : Int) ≤ 1400 → 0 ≤ at0 → at0 < hlen al → (dec (x.set at0.toNat (Go.bits .xor .u8 (rdOf 0 x at0) (2 ^ (bit % 8).toNat % 256)))).2.2.2.2.2.2.2 ≠ 0 ∧ Byt (x.set at0.toNat (Go.bits .xor .u8 (rdOf 0 x at0) (2 ^ (bit % 8).toNat % 256)))) (A_b : Option Addr) (c_b : Nat) (w : World) (hr : Kd.C (Kd.int .u8) w A_b b.length b) (hc : b.length ≤ c_b) :
    Calls Try.prog 5 #[.agg #[.int .u32 s, .int .u32 d, .int .u8 p, .int .u8 t, .int .u16 i, .bool al, .slice A_b b.length c_b, .int .i64 at0, .int .u8 bit]] w fun e w' => e = .returned (.bool true) ∧ Below w.heap.size w w' := by
  have hu26 := Try.underlying26
  have hu38 := Try.underlying38
  have HB := Aside0.mk (Below.refl w.heap.size w)
  have HC_b := Aside0.mk hr
  have HK_b := Aside0.mk hc
  clear hr hc
  have HBL := Aside0.mk hbl
  have HX := Aside0.mk hx
  have HNL := Aside0.mk hnl
  have HN := Aside0.mk hn
  have HXL := Aside0.mk hxl
  clear hxl
  have HL0 := Aside0.mk hlen0
  clear hnl hlen0 hbl hx h0 hn
  have H8 := Aside0.mk (show 0 ≤ Int.tmod bit 8 by rw [Int.tmod_eq_emod_of_nonneg hbit.1]; omega)
  have H9 := Aside0.mk (show Int.tmod bit 8 ≤ 8 by rw [Int.tmod_eq_emod_of_nonneg hbit.1]; omega)
  go_enter Try.func5, Try.ntmps5
  go_upto_region 2 with (first | ((with_reducible refine gate_dst (N := 1) rfl ?_); (try (refine gate_guard (by rfl) ?_; dsimp only)); refine box_event ?hg (N := 1) ?hd (cs := #[.int .u32 s, .int .u32 d, .int .u8 p, .int .u8 t, .int .u16 i, .bool al, .slice A_b b.length c_b, .int .i64 at0, .int .u8 bit]) (t := 38) ?hr ?_; (case hd => rfl); (case hg => rfl); (case hr => first | (go_simp; done) | (go_simp; rfl)); intro gw hg w1_ hbox hB; have HBo := Aside0.mk HB.out; have nHB := Aside0.mk (HB.out.trans (hB.mono HB.out.size)); clear HB; have HB := nHB; clear nHB; have BK_gw := Aside0.mk hbox; have GE_gw := Aside0.mk (show w.heap.size ≤ gw by rw [hg]; exact HBo.out.size); clear hg hbox hB; have hc_gw_0 : w1_.cell? ⟨gw, 0, none⟩ = some (.int .u32 s) := (blk_cell BK_gw.out 0).trans rfl; have hf_gw_0 := blk_frozen BK_gw.out 0; have hc_gw_1 : w1_.cell? ⟨gw, 1, none⟩ = some (.int .u32 d) := (blk_cell BK_gw.out 1).trans rfl; have hf_gw_1 := blk_frozen BK_gw.out 1; have hc_gw_2 : w1_.cell? ⟨gw, 2, none⟩ = some (.int .u8 p) := (blk_cell BK_gw.out 2).trans rfl; have hf_gw_2 := blk_frozen BK_gw.out 2; have hc_gw_3 : w1_.cell? ⟨gw, 3, none⟩ = some (.int .u8 t) := (blk_cell BK_gw.out 3).trans rfl; have hf_gw_3 := blk_frozen BK_gw.out 3; have hc_gw_4 : w1_.cell? ⟨gw, 4, none⟩ = some (.int .u16 i) := (blk_cell BK_gw.out 4).trans rfl; have hf_gw_4 := blk_frozen BK_gw.out 4; have hc_gw_5 : w1_.cell? ⟨gw, 5, none⟩ = some (.bool al) := (blk_cell BK_gw.out 5).trans rfl; have hf_gw_5 := blk_frozen BK_gw.out 5; have hc_gw_6 : w1_.cell? ⟨gw, 6, none⟩ = some (.slice A_b b.length c_b) := (blk_cell BK_gw.out 6).trans rfl; have hf_gw_6 := blk_frozen BK_gw.out 6; have hc_gw_7 : w1_.cell? ⟨gw, 7, none⟩ = some (.int .i64 at0) := (blk_cell BK_gw.out 7).trans rfl; have hf_gw_7 := blk_frozen BK_gw.out 7; have hc_gw_8 : w1_.cell? ⟨gw, 8, none⟩ = some (.int .u8 bit) := (blk_cell BK_gw.out 8).trans rfl; have hf_gw_8 := blk_frozen BK_gw.out 8; clear HBo) | ((with_reducible refine gate_dst (N := 3) rfl ?_); (try (refine gate_guard (by rfl) ?_; dsimp only)); refine box_event ?hg (N := 3) ?hd (cs := #[.int .u32 0, .int .u32 0, .int .u8 0, .int .u8 0, .int .u16 0, .bool false]) (t := 26) ?hr ?_; (case hd => rfl); (case hg => rfl); (case hr => first | (go_simp; done) | (go_simp; rfl)); intro gh hg w2_ hbox hB0; have hG := Aside0.mk (show w1_.heap.size ≤ gh from Nat.le_of_eq hg.symm); clear hg; have hBX := Aside0.mk hbox; have hB1 := Aside0.mk hB0; clear hB0; have hc_gh_0 : w2_.cell? ⟨gh, 0, none⟩ = some (.int .u32 0) := (blk_cell hbox 0).trans rfl; have hf_gh_0 := blk_frozen hbox 0; have hc_gh_1 : w2_.cell? ⟨gh, 1, none⟩ = some (.int .u32 0) := (blk_cell hbox 1).trans rfl; have hf_gh_1 := blk_frozen hbox 1; have hc_gh_2 : w2_.cell? ⟨gh, 2, none⟩ = some (.int .u8 0) := (blk_cell hbox 2).trans rfl; have hf_gh_2 := blk_frozen hbox 2; have hc_gh_3 : w2_.cell? ⟨gh, 3, none⟩ = some (.int .u8 0) := (blk_cell hbox 3).trans rfl; have hf_gh_3 := blk_frozen hbox 3; have hc_gh_4 : w2_.cell? ⟨gh, 4, none⟩ = some (.int .u16 0) := (blk_cell hbox 4).trans rfl; have hf_gh_4 := blk_frozen hbox 4; have hc_gh_5 : w2_.cell? ⟨gh, 5, none⟩ = some (.bool false) := (blk_cell hbox 5).trans rfl; have hf_gh_5 := blk_frozen hbox 5; clear hbox))
  have hB : Below w1_.heap.size w1_ ((((((w2_.setCell ⟨gh, 0, none⟩ (.int .u32 s)).setCell ⟨gh, 1, none⟩ (.int .u32 d)).setCell ⟨gh, 2, none⟩ (.int .u8 p)).setCell ⟨gh, 3, none⟩ (.int .u8 t)).setCell ⟨gh, 4, none⟩ (.int .u16 i)).setCell ⟨gh, 5, none⟩ (.bool al)) := (below_set (below_set (below_set (below_set (below_set (below_set hB1.out hG.out) hG.out) hG.out) hG.out) hG.out) hG.out)
  have hBN : ((((((w2_.setCell ⟨gh, 0, none⟩ (.int .u32 s)).setCell ⟨gh, 1, none⟩ (.int .u32 d)).setCell ⟨gh, 2, none⟩ (.int .u8 p)).setCell ⟨gh, 3, none⟩ (.int .u8 t)).setCell ⟨gh, 4, none⟩ (.int .u16 i)).setCell ⟨gh, 5, none⟩ (.bool al)).heap[gh]? = some (.cells #[.int .u32 s, .int .u32 d, .int .u8 p, .int .u8 t, .int .u16 i, .bool al] 26 (0, 0)) := (blk_put (cs := #[.int .u32 s, .int .u32 d, .int .u8 p, .int .u8 t, .int .u16 i, .bool false]) (blk_put (cs := #[.int .u32 s, .int .u32 d, .int .u8 p, .int .u8 t, .int .u16 0, .bool false]) (blk_put (cs := #[.int .u32 s, .int .u32 d, .int .u8 p, .int .u8 0, .int .u16 0, .bool false]) (blk_put (cs := #[.int .u32 s, .int .u32 d, .int .u8 0, .int .u8 0, .int .u16 0, .bool false]) (blk_put (cs := #[.int .u32 s, .int .u32 0, .int .u8 0, .int .u8 0, .int .u16 0, .bool false]) (blk_put (cs := #[.int .u32 0, .int .u32 0, .int .u8 0, .int .u8 0, .int .u16 0, .bool false]) hBX.out 0 (.int .u32 s) rfl) 1 (.int .u32 d) rfl) 2 (.int .u8 p) rfl) 3 (.int .u8 t) rfl) 4 (.int .u16 i) rfl) 5 (.bool al) rfl)
  clear hBX hB1
  clear hc_gh_0 hf_gh_0 hc_gh_1 hf_gh_1 hc_gh_2 hf_gh_2 hc_gh_3 hf_gh_3 hc_gh_4 hf_gh_4 hc_gh_5 hf_gh_5
  generalize ((((((w2_.setCell ⟨gh, 0, none⟩ (.int .u32 s)).setCell ⟨gh, 1, none⟩ (.int .u32 d)).setCell ⟨gh, 2, none⟩ (.int .u8 p)).setCell ⟨gh, 3, none⟩ (.int .u8 t)).setCell ⟨gh, 4, none⟩ (.int .u16 i)).setCell ⟨gh, 5, none⟩ (.bool al)) = w3_ at hB hBN ⊢
  have NB_gh_gw := Aside0.mk (show gh ≠ gw from Nat.ne_of_gt (Nat.lt_of_lt_of_le (blk_lt (g := gw) (o := .cells #[.int .u32 s, .int .u32 d, .int .u8 p, .int .u8 t, .int .u16 i, .bool al, .slice A_b b.length c_b, .int .i64 at0, .int .u8 bit] 38 (0, 0)) BK_gw.out) hG.out))
  have NB_gw_gh := Aside0.mk (Ne.symm NB_gh_gw.out)
  have HBo := Aside0.mk HB.out
  have nHB := Aside0.mk (HB.out.trans (hB.mono HB.out.size))
  clear HB
  have HB := nHB
  clear nHB
  clear hc_gw_0 hf_gw_0 hc_gw_1 hf_gw_1 hc_gw_2 hf_gw_2 hc_gw_3 hf_gw_3 hc_gw_4 hf_gw_4 hc_gw_5 hf_gw_5 hc_gw_6 hf_gw_6 hc_gw_7 hf_gw_7 hc_gw_8 hf_gw_8
  have nBK := Aside0.mk (blk_below (g := gw) (o := .cells #[.int .u32 s, .int .u32 d, .int .u8 p, .int .u8 t, .int .u16 i, .bool al, .slice A_b b.length c_b, .int .i64 at0, .int .u8 bit] 38 (0, 0)) BK_gw.out hB)
  clear BK_gw
  have BK_gw := nBK
  clear nBK
  have hc_gw_0 : w3_.cell? ⟨gw, 0, none⟩ = some (.int .u32 s) := (blk_cell BK_gw.out 0).trans rfl
  have hf_gw_0 := blk_frozen BK_gw.out 0
  have hc_gw_1 : w3_.cell? ⟨gw, 1, none⟩ = some (.int .u32 d) := (blk_cell BK_gw.out 1).trans rfl
  have hf_gw_1 := blk_frozen BK_gw.out 1
  have hc_gw_2 : w3_.cell? ⟨gw, 2, none⟩ = some (.int .u8 p) := (blk_cell BK_gw.out 2).trans rfl
  have hf_gw_2 := blk_frozen BK_gw.out 2
  have hc_gw_3 : w3_.cell? ⟨gw, 3, none⟩ = some (.int .u8 t) := (blk_cell BK_gw.out 3).trans rfl
  have hf_gw_3 := blk_frozen BK_gw.out 3
  have hc_gw_4 : w3_.cell? ⟨gw, 4, none⟩ = some (.int .u16 i) := (blk_cell BK_gw.out 4).trans rfl
  have hf_gw_4 := blk_frozen BK_gw.out 4
  have hc_gw_5 : w3_.cell? ⟨gw, 5, none⟩ = some (.bool al) := (blk_cell BK_gw.out 5).trans rfl
  have hf_gw_5 := blk_frozen BK_gw.out 5
  have hc_gw_6 : w3_.cell? ⟨gw, 6, none⟩ = some (.slice A_b b.length c_b) := (blk_cell BK_gw.out 6).trans rfl
  have hf_gw_6 := blk_frozen BK_gw.out 6
  have hc_gw_7 : w3_.cell? ⟨gw, 7, none⟩ = some (.int .i64 at0) := (blk_cell BK_gw.out 7).trans rfl
  have hf_gw_7 := blk_frozen BK_gw.out 7
  have hc_gw_8 : w3_.cell? ⟨gw, 8, none⟩ = some (.int .u8 bit) := (blk_cell BK_gw.out 8).trans rfl
  have hf_gw_8 := blk_frozen BK_gw.out 8
  have BK_gh := Aside0.mk hBN
  have GE_gh := Aside0.mk (Nat.le_trans HBo.out.size hG.out)
  clear HBo hG hBN hB
  have hc_gh_0 : w3_.cell? ⟨gh, 0, none⟩ = some (.int .u32 s) := (blk_cell BK_gh.out 0).trans rfl
  have hf_gh_0 := blk_frozen BK_gh.out 0
  have hc_gh_1 : w3_.cell? ⟨gh, 1, none⟩ = some (.int .u32 d) := (blk_cell BK_gh.out 1).trans rfl
  have hf_gh_1 := blk_frozen BK_gh.out 1
  have hc_gh_2 : w3_.cell? ⟨gh, 2, none⟩ = some (.int .u8 p) := (blk_cell BK_gh.out 2).trans rfl
  have hf_gh_2 := blk_frozen BK_gh.out 2
  have hc_gh_3 : w3_.cell? ⟨gh, 3, none⟩ = some (.int .u8 t) := (blk_cell BK_gh.out 3).trans rfl
  have hf_gh_3 := blk_frozen BK_gh.out 3
  have hc_gh_4 : w3_.cell? ⟨gh, 4, none⟩ = some (.int .u16 i) := (blk_cell BK_gh.out 4).trans rfl
  have hf_gh_4 := blk_frozen BK_gh.out 4
  have hc_gh_5 : w3_.cell? ⟨gh, 5, none⟩ = some (.bool al) := (blk_cell BK_gh.out 5).trans rfl
  have hf_gh_5 := blk_frozen BK_gh.out 5
  go_upto_region 7 with (first | (go_at_call 9; refine (shown_calls _).mono ?_; rintro e w4_ ⟨rfl, hB⟩; have nHB := Aside0.mk (HB.out.trans (hB.mono HB.out.size)); clear HB; have HB := nHB; clear nHB; clear hc_gw_0 hf_gw_0 hc_gw_1 hf_gw_1 hc_gw_2 hf_gw_2 hc_gw_3 hf_gw_3 hc_gw_4 hf_gw_4 hc_gw_5 hf_gw_5 hc_gw_6 hf_gw_6 hc_gw_7 hf_gw_7 hc_gw_8 hf_gw_8; have nBK := Aside0.mk (blk_below (g := gw) (o := .cells #[.int .u32 s, .int .u32 d, .int .u8 p, .int .u8 t, .int .u16 i, .bool al, .slice A_b b.length c_b, .int .i64 at0, .int .u8 bit] 38 (0, 0)) BK_gw.out hB); clear BK_gw; have BK_gw := nBK; clear nBK; have hc_gw_0 : w4_.cell? ⟨gw, 0, none⟩ = some (.int .u32 s) := (blk_cell BK_gw.out 0).trans rfl; have hf_gw_0 := blk_frozen BK_gw.out 0; have hc_gw_1 : w4_.cell? ⟨gw, 1, none⟩ = some (.int .u32 d) := (blk_cell BK_gw.out 1).trans rfl; have hf_gw_1 := blk_frozen BK_gw.out 1; have hc_gw_2 : w4_.cell? ⟨gw, 2, none⟩ = some (.int .u8 p) := (blk_cell BK_gw.out 2).trans rfl; have hf_gw_2 := blk_frozen BK_gw.out 2; have hc_gw_3 : w4_.cell? ⟨gw, 3, none⟩ = some (.int .u8 t) := (blk_cell BK_gw.out 3).trans rfl; have hf_gw_3 := blk_frozen BK_gw.out 3; have hc_gw_4 : w4_.cell? ⟨gw, 4, none⟩ = some (.int .u16 i) := (blk_cell BK_gw.out 4).trans rfl; have hf_gw_4 := blk_frozen BK_gw.out 4; have hc_gw_5 : w4_.cell? ⟨gw, 5, none⟩ = some (.bool al) := (blk_cell BK_gw.out 5).trans rfl; have hf_gw_5 := blk_frozen BK_gw.out 5; have hc_gw_6 : w4_.cell? ⟨gw, 6, none⟩ = some (.slice A_b b.length c_b) := (blk_cell BK_gw.out 6).trans rfl; have hf_gw_6 := blk_frozen BK_gw.out 6; have hc_gw_7 : w4_.cell? ⟨gw, 7, none⟩ = some (.int .i64 at0) := (blk_cell BK_gw.out 7).trans rfl; have hf_gw_7 := blk_frozen BK_gw.out 7; have hc_gw_8 : w4_.cell? ⟨gw, 8, none⟩ = some (.int .u8 bit) := (blk_cell BK_gw.out 8).trans rfl; have hf_gw_8 := blk_frozen BK_gw.out 8; clear hc_gh_0 hf_gh_0 hc_gh_1 hf_gh_1 hc_gh_2 hf_gh_2 hc_gh_3 hf_gh_3 hc_gh_4 hf_gh_4 hc_gh_5 hf_gh_5; have nBK := Aside0.mk (blk_below (g := gh) (o := .cells #[.int .u32 s, .int .u32 d, .int .u8 p, .int .u8 t, .int .u16 i, .bool al] 26 (0, 0)) BK_gh.out hB); clear BK_gh; have BK_gh := nBK; clear nBK; have hc_gh_0 : w4_.cell? ⟨gh, 0, none⟩ = some (.int .u32 s) := (blk_cell BK_gh.out 0).trans rfl; have hf_gh_0 := blk_frozen BK_gh.out 0; have hc_gh_1 : w4_.cell? ⟨gh, 1, none⟩ = some (.int .u32 d) := (blk_cell BK_gh.out 1).trans rfl; have hf_gh_1 := blk_frozen BK_gh.out 1; have hc_gh_2 : w4_.cell? ⟨gh, 2, none⟩ = some (.int .u8 p) := (blk_cell BK_gh.out 2).trans rfl; have hf_gh_2 := blk_frozen BK_gh.out 2; have hc_gh_3 : w4_.cell? ⟨gh, 3, none⟩ = some (.int .u8 t) := (blk_cell BK_gh.out 3).trans rfl; have hf_gh_3 := blk_frozen BK_gh.out 3; have hc_gh_4 : w4_.cell? ⟨gh, 4, none⟩ = some (.int .u16 i) := (blk_cell BK_gh.out 4).trans rfl; have hf_gh_4 := blk_frozen BK_gh.out 4; have hc_gh_5 : w4_.cell? ⟨gh, 5, none⟩ = some (.bool al) := (blk_cell BK_gh.out 5).trans rfl; have hf_gh_5 := blk_frozen BK_gh.out 5; clear hB) | (go_at_call 10; refine (encode_calls hok HBL.out HX.out _ _ _ (Kd.C_below HC_b.out HB.out) HK_b.out).mono ?_; rintro e w5_ ⟨v_x, rfl, hR, hB⟩; obtain ⟨A_x, c_x, rfl⟩ := Kd.R_slice hR; have hsz := HB.out.size; have nHB := Aside0.mk (HB.out.trans (hB.mono HB.out.size)); clear HB; have HB := nHB; clear nHB; clear hc_gw_0 hf_gw_0 hc_gw_1 hf_gw_1 hc_gw_2 hf_gw_2 hc_gw_3 hf_gw_3 hc_gw_4 hf_gw_4 hc_gw_5 hf_gw_5 hc_gw_6 hf_gw_6 hc_gw_7 hf_gw_7 hc_gw_8 hf_gw_8; have nBK := Aside0.mk (blk_below (g := gw) (o := .cells #[.int .u32 s, .int .u32 d, .int .u8 p, .int .u8 t, .int .u16 i, .bool al, .slice A_b b.length c_b, .int .i64 at0, .int .u8 bit] 38 (0, 0)) BK_gw.out hB); clear BK_gw; have BK_gw := nBK; clear nBK; have hc_gw_0 : w5_.cell? ⟨gw, 0, none⟩ = some (.int .u32 s) := (blk_cell BK_gw.out 0).trans rfl; have hf_gw_0 := blk_frozen BK_gw.out 0; have hc_gw_1 : w5_.cell? ⟨gw, 1, none⟩ = some (.int .u32 d) := (blk_cell BK_gw.out 1).trans rfl; have hf_gw_1 := blk_frozen BK_gw.out 1; have hc_gw_2 : w5_.cell? ⟨gw, 2, none⟩ = some (.int .u8 p) := (blk_cell BK_gw.out 2).trans rfl; have hf_gw_2 := blk_frozen BK_gw.out 2; have hc_gw_3 : w5_.cell? ⟨gw, 3, none⟩ = some (.int .u8 t) := (blk_cell BK_gw.out 3).trans rfl; have hf_gw_3 := blk_frozen BK_gw.out 3; have hc_gw_4 : w5_.cell? ⟨gw, 4, none⟩ = some (.int .u16 i) := (blk_cell BK_gw.out 4).trans rfl; have hf_gw_4 := blk_frozen BK_gw.out 4; have hc_gw_5 : w5_.cell? ⟨gw, 5, none⟩ = some (.bool al) := (blk_cell BK_gw.out 5).trans rfl; have hf_gw_5 := blk_frozen BK_gw.out 5; have hc_gw_6 : w5_.cell? ⟨gw, 6, none⟩ = some (.slice A_b b.length c_b) := (blk_cell BK_gw.out 6).trans rfl; have hf_gw_6 := blk_frozen BK_gw.out 6; have hc_gw_7 : w5_.cell? ⟨gw, 7, none⟩ = some (.int .i64 at0) := (blk_cell BK_gw.out 7).trans rfl; have hf_gw_7 := blk_frozen BK_gw.out 7; have hc_gw_8 : w5_.cell? ⟨gw, 8, none⟩ = some (.int .u8 bit) := (blk_cell BK_gw.out 8).trans rfl; have hf_gw_8 := blk_frozen BK_gw.out 8; clear hc_gh_0 hf_gh_0 hc_gh_1 hf_gh_1 hc_gh_2 hf_gh_2 hc_gh_3 hf_gh_3 hc_gh_4 hf_gh_4 hc_gh_5 hf_gh_5; have nBK := Aside0.mk (blk_below (g := gh) (o := .cells #[.int .u32 s, .int .u32 d, .int .u8 p, .int .u8 t, .int .u16 i, .bool al] 26 (0, 0)) BK_gh.out hB); clear BK_gh; have BK_gh := nBK; clear nBK; have hc_gh_0 : w5_.cell? ⟨gh, 0, none⟩ = some (.int .u32 s) := (blk_cell BK_gh.out 0).trans rfl; have hf_gh_0 := blk_frozen BK_gh.out 0; have hc_gh_1 : w5_.cell? ⟨gh, 1, none⟩ = some (.int .u32 d) := (blk_cell BK_gh.out 1).trans rfl; have hf_gh_1 := blk_frozen BK_gh.out 1; have hc_gh_2 : w5_.cell? ⟨gh, 2, none⟩ = some (.int .u8 p) := (blk_cell BK_gh.out 2).trans rfl; have hf_gh_2 := blk_frozen BK_gh.out 2; have hc_gh_3 : w5_.cell? ⟨gh, 3, none⟩ = some (.int .u8 t) := (blk_cell BK_gh.out 3).trans rfl; have hf_gh_3 := blk_frozen BK_gh.out 3; have hc_gh_4 : w5_.cell? ⟨gh, 4, none⟩ = some (.int .u16 i) := (blk_cell BK_gh.out 4).trans rfl; have hf_gh_4 := blk_frozen BK_gh.out 4; have hc_gh_5 : w5_.cell? ⟨gh, 5, none⟩ = some (.bool al) := (blk_cell BK_gh.out 5).trans rfl; have hf_gh_5 := blk_frozen BK_gh.out 5; have HR_x := Aside0.mk (Kd.R_mono (Kd.R_lower hR hsz) (fun _ _ => trivial : ∀ k, _ → (fun _ => True) k)); clear hR hsz; clear hB))
  cases al
  case false =>
    have hL0 := HL0.out
    have hhl : hlen false = 20 := rfl
    rw [hhl] at hL0
    clear HL0
    go_upto_region 10 with fail
    by_cases c1 : 1400 < (b.length : Int)
    · by_cases he : e0 = 0
      · subst he
        clear hL0
        go_wp2
        go_ret
        exact ⟨rfl, HB.out⟩
      · have h76 : 1476 < (b.length : Int) := by have := HNL.out; omega
        clear hL0
        go_wp2
        go_ret
        exact ⟨rfl, HB.out⟩
    obtain ⟨he, hlx⟩ := hL0 (by omega)
    subst he
    by_cases c2 : at0 < 0
    · clear hL0
      go_wp2
      go_ret
      exact ⟨rfl, HB.out⟩
    by_cases c3 : 20 ≤ at0
    · clear hL0
      go_wp2
      go_ret
      exact ⟨rfl, HB.out⟩
    have c4 : ¬ ((x.length : Int) < 20) := by omega
    clear hL0
    obtain ⟨gx, cx, ex, gbx, glx, clx, HGx⟩ := Kd.R_form HR_x.out (by omega)
    injection ex with ea en ec
    subst ea
    subst ec
    have GBX := Aside0.mk gbx
    clear en gbx glx clx HGx
    obtain ⟨hy, hz⟩ := Kd.R_celln 0 HR_x.out at0 (by omega) (by omega)
    have c5 : at0 < (x.length : Int) := by omega
    have c6 : 0 ≤ at0 := by omega
    have h8 := H8.out
    have h9 := H9.out
    go_upto_region 13 with fail
    have HP := (Kd.R_putg HR_x.out at0 (Go.bits .xor .u8 (rdOf 0 x at0) (2 ^ (bit % 8).toNat % 256))).1
    replace HP : Kd.R (Kd.int .u8) 5 (w5_.setCell ⟨gx, at0.toNat, none⟩ (.int .u8 (Go.bits .xor .u8 (rdOf 0 x at0) (2 ^ (bit % 8).toNat % 256)))) w.heap.size (fun _ => True) (.slice (some ⟨gx, 0, none⟩) x.length c_x) (x.set at0.toNat (Go.bits .xor .u8 (rdOf 0 x at0) (2 ^ (bit % 8).toNat % 256))) := HP
    have HB2 : Below w.heap.size w (w5_.setCell ⟨gx, at0.toNat, none⟩ (.int .u8 (Go.bits .xor .u8 (rdOf 0 x at0) (2 ^ (bit % 8).toNat % 256)))) := below_set HB.out GBX.out
    generalize (w5_.setCell ⟨gx, at0.toNat, none⟩ (.int .u8 (Go.bits .xor .u8 (rdOf 0 x at0) (2 ^ (bit % 8).toNat % 256)))) = wz at HP HB2 ⊢
    obtain ⟨hne, hyb⟩ := HN.out (by omega) (by omega) (by rw [hhl]; omega)
    have hlx2 : (x.set at0.toNat (Go.bits .xor .u8 (rdOf 0 x at0) (2 ^ (bit % 8).toNat % 256))).length = x.length := List.length_set
    have hyl := HXL.out
    generalize x.set at0.toNat (Go.bits .xor .u8 (rdOf 0 x at0) (2 ^ (bit % 8).toNat % 256)) = y at HP hne hyb hlx2
    rw [← hlx2] at HP hyl ⊢
    generalize hed : (dec y).2.2.2.2.2.2.2 = e1 at hne
    have HDY := Aside0.mk (show dec y = (0, 0, 0, 0, 0, false, [], e1) by have := dec_wrong y (by rw [hed]; exact hne); rw [hed] at this; exact this)
    have HYB := Aside0.mk hyb
    have HYL := Aside0.mk (show y.length ≤ 1000000 by omega)
    have HR_y := Aside0.mk HP
    clear HB HR_x hy hz h8 h9 c1 c2 c3 c4 c5 c6 hyb hlx2 hlx hyl hed HP HN HXL
    have HB := Aside0.mk HB2
    clear HB2
    clear BK_gw hc_gw_0 hf_gw_0 hc_gw_1 hf_gw_1 hc_gw_2 hf_gw_2 hc_gw_3 hf_gw_3 hc_gw_4 hf_gw_4 hc_gw_5 hf_gw_5 hc_gw_6 hf_gw_6 hc_gw_7 hf_gw_7 hc_gw_8 hf_gw_8 BK_gh hc_gh_0 hf_gh_0 hc_gh_1 hf_gh_1 hc_gh_2 hf_gh_2 hc_gh_3 hf_gh_3 hc_gh_4 hf_gh_4 hc_gh_5 hf_gh_5
    go_upto_region 14 with (first | (go_at_call 11; refine (decode_calls HYB.out HYL.out HDY.out _ _ _ (Kd.R_reads' HR_y.out).2.2 (Kd.R_reads' HR_y.out).2.1).mono ?_; rintro e w6_ ⟨v_u, rfl, hR, hB⟩; obtain ⟨A_u, c_u, rfl⟩ := Kd.R_slice hR; have hsz := HB.out.size; have nHB := Aside0.mk (HB.out.trans (hB.mono HB.out.size)); clear HB; have HB := nHB; clear nHB; have nHC := Aside0.mk (Kd.R_below HR_y.out hB); clear HR_y; have HR_y := nHC; clear nHC; have HR_u := Aside0.mk (Kd.R_mono (Kd.R_lower hR hsz) (fun _ _ => trivial : ∀ k, _ → (fun _ => True) k)); clear hR hsz; clear hB) | ((with_reducible refine gate_dst (N := 11) rfl ?_); (try (refine gate_guard (by rfl) ?_; dsimp only)); refine box_event ?hg (N := 11) ?hd (cs := #[.int .u32 0, .int .u32 0, .int .u8 0, .int .u8 0, .int .u16 0, .bool false]) (t := 26) ?hr ?_; (case hd => rfl); (case hg => rfl); (case hr => first | (go_simp; done) | (go_simp; rfl)); intro gq hg w7_ hbox hB0; have hG := Aside0.mk (show w6_.heap.size ≤ gq from Nat.le_of_eq hg.symm); clear hg; have hBX := Aside0.mk hbox; have hB1 := Aside0.mk hB0; clear hB0; have hc_gq_0 : w7_.cell? ⟨gq, 0, none⟩ = some (.int .u32 0) := (blk_cell hbox 0).trans rfl; have hf_gq_0 := blk_frozen hbox 0; have hc_gq_1 : w7_.cell? ⟨gq, 1, none⟩ = some (.int .u32 0) := (blk_cell hbox 1).trans rfl; have hf_gq_1 := blk_frozen hbox 1; have hc_gq_2 : w7_.cell? ⟨gq, 2, none⟩ = some (.int .u8 0) := (blk_cell hbox 2).trans rfl; have hf_gq_2 := blk_frozen hbox 2; have hc_gq_3 : w7_.cell? ⟨gq, 3, none⟩ = some (.int .u8 0) := (blk_cell hbox 3).trans rfl; have hf_gq_3 := blk_frozen hbox 3; have hc_gq_4 : w7_.cell? ⟨gq, 4, none⟩ = some (.int .u16 0) := (blk_cell hbox 4).trans rfl; have hf_gq_4 := blk_frozen hbox 4; have hc_gq_5 : w7_.cell? ⟨gq, 5, none⟩ = some (.bool false) := (blk_cell hbox 5).trans rfl; have hf_gq_5 := blk_frozen hbox 5; clear hbox))
    have hB : Below w6_.heap.size w6_ ((((((w7_.setCell ⟨gq, 0, none⟩ (.int .u32 0)).setCell ⟨gq, 1, none⟩ (.int .u32 0)).setCell ⟨gq, 2, none⟩ (.int .u8 0)).setCell ⟨gq, 3, none⟩ (.int .u8 0)).setCell ⟨gq, 4, none⟩ (.int .u16 0)).setCell ⟨gq, 5, none⟩ (.bool false)) := (below_set (below_set (below_set (below_set (below_set (below_set hB1.out hG.out) hG.out) hG.out) hG.out) hG.out) hG.out)
    have hBN : ((((((w7_.setCell ⟨gq, 0, none⟩ (.int .u32 0)).setCell ⟨gq, 1, none⟩ (.int .u32 0)).setCell ⟨gq, 2, none⟩ (.int .u8 0)).setCell ⟨gq, 3, none⟩ (.int .u8 0)).setCell ⟨gq, 4, none⟩ (.int .u16 0)).setCell ⟨gq, 5, none⟩ (.bool false)).heap[gq]? = some (.cells #[.int .u32 0, .int .u32 0, .int .u8 0, .int .u8 0, .int .u16 0, .bool false] 26 (0, 0)) := (blk_put (cs := #[.int .u32 0, .int .u32 0, .int .u8 0, .int .u8 0, .int .u16 0, .bool false]) (blk_put (cs := #[.int .u32 0, .int .u32 0, .int .u8 0, .int .u8 0, .int .u16 0, .bool false]) (blk_put (cs := #[.int .u32 0, .int .u32 0, .int .u8 0, .int .u8 0, .int .u16 0, .bool false]) (blk_put (cs := #[.int .u32 0, .int .u32 0, .int .u8 0, .int .u8 0, .int .u16 0, .bool false]) (blk_put (cs := #[.int .u32 0, .int .u32 0, .int .u8 0, .int .u8 0, .int .u16 0, .bool false]) (blk_put (cs := #[.int .u32 0, .int .u32 0, .int .u8 0, .int .u8 0, .int .u16 0, .bool false]) hBX.out 0 (.int .u32 0) rfl) 1 (.int .u32 0) rfl) 2 (.int .u8 0) rfl) 3 (.int .u8 0) rfl) 4 (.int .u16 0) rfl) 5 (.bool false) rfl)
    clear hBX hB1
    clear hc_gq_0 hf_gq_0 hc_gq_1 hf_gq_1 hc_gq_2 hf_gq_2 hc_gq_3 hf_gq_3 hc_gq_4 hf_gq_4 hc_gq_5 hf_gq_5
    generalize ((((((w7_.setCell ⟨gq, 0, none⟩ (.int .u32 0)).setCell ⟨gq, 1, none⟩ (.int .u32 0)).setCell ⟨gq, 2, none⟩ (.int .u8 0)).setCell ⟨gq, 3, none⟩ (.int .u8 0)).setCell ⟨gq, 4, none⟩ (.int .u16 0)).setCell ⟨gq, 5, none⟩ (.bool false)) = w8_ at hB hBN ⊢
    have HBo := Aside0.mk HB.out
    have nHB := Aside0.mk (HB.out.trans (hB.mono HB.out.size))
    clear HB
    have HB := nHB
    clear nHB
    have nHC := Aside0.mk (Kd.R_below HR_y.out hB)
    clear HR_y
    have HR_y := nHC
    clear nHC
    have nHC := Aside0.mk (Kd.R_below HR_u.out hB)
    clear HR_u
    have HR_u := nHC
    clear nHC
    have BK_gq := Aside0.mk hBN
    have GE_gq := Aside0.mk (Nat.le_trans HBo.out.size hG.out)
    clear HBo hG hBN hB
    have hc_gq_0 : w8_.cell? ⟨gq, 0, none⟩ = some (.int .u32 0) := (blk_cell BK_gq.out 0).trans rfl
    have hf_gq_0 := blk_frozen BK_gq.out 0
    have hc_gq_1 : w8_.cell? ⟨gq, 1, none⟩ = some (.int .u32 0) := (blk_cell BK_gq.out 1).trans rfl
    have hf_gq_1 := blk_frozen BK_gq.out 1
    have hc_gq_2 : w8_.cell? ⟨gq, 2, none⟩ = some (.int .u8 0) := (blk_cell BK_gq.out 2).trans rfl
    have hf_gq_2 := blk_frozen BK_gq.out 2
    have hc_gq_3 : w8_.cell? ⟨gq, 3, none⟩ = some (.int .u8 0) := (blk_cell BK_gq.out 3).trans rfl
    have hf_gq_3 := blk_frozen BK_gq.out 3
    have hc_gq_4 : w8_.cell? ⟨gq, 4, none⟩ = some (.int .u16 0) := (blk_cell BK_gq.out 4).trans rfl
    have hf_gq_4 := blk_frozen BK_gq.out 4
    have hc_gq_5 : w8_.cell? ⟨gq, 5, none⟩ = some (.bool false) := (blk_cell BK_gq.out 5).trans rfl
    have hf_gq_5 := blk_frozen BK_gq.out 5
    have hne2 : (e1 != 0) = true := bne_iff_ne.2 hne
    go_wp2
    go_ret
    exact ⟨rfl, HB.out⟩
  case true =>
    have hL0 := HL0.out
    have hhl : hlen true = 24 := rfl
    rw [hhl] at hL0
    clear HL0
    go_upto_region 10 with fail
    by_cases c1 : 1400 < (b.length : Int)
    · by_cases he : e0 = 0
      · subst he
        clear hL0
        go_wp2
        go_ret
        exact ⟨rfl, HB.out⟩
      · have h76 : 1476 < (b.length : Int) := by have := HNL.out; omega
        clear hL0
        go_wp2
        go_ret
        exact ⟨rfl, HB.out⟩
    obtain ⟨he, hlx⟩ := hL0 (by omega)
    subst he
    by_cases c2 : at0 < 0
    · clear hL0
      go_wp2
      go_ret
      exact ⟨rfl, HB.out⟩
    by_cases c3 : 24 ≤ at0
    · clear hL0
      go_wp2
      go_ret
      exact ⟨rfl, HB.out⟩
    have c4 : ¬ ((x.length : Int) < 24) := by omega
    clear hL0
    obtain ⟨gx, cx, ex, gbx, glx, clx, HGx⟩ := Kd.R_form HR_x.out (by omega)
    injection ex with ea en ec
    subst ea
    subst ec
    have GBX := Aside0.mk gbx
    clear en gbx glx clx HGx
    obtain ⟨hy, hz⟩ := Kd.R_celln 0 HR_x.out at0 (by omega) (by omega)
    have c5 : at0 < (x.length : Int) := by omega
    have c6 : 0 ≤ at0 := by omega
    have h8 := H8.out
    have h9 := H9.out
    go_upto_region 13 with fail
    have HP := (Kd.R_putg HR_x.out at0 (Go.bits .xor .u8 (rdOf 0 x at0) (2 ^ (bit % 8).toNat % 256))).1
    replace HP : Kd.R (Kd.int .u8) 5 (w5_.setCell ⟨gx, at0.toNat, none⟩ (.int .u8 (Go.bits .xor .u8 (rdOf 0 x at0) (2 ^ (bit % 8).toNat % 256)))) w.heap.size (fun _ => True) (.slice (some ⟨gx, 0, none⟩) x.length c_x) (x.set at0.toNat (Go.bits .xor .u8 (rdOf 0 x at0) (2 ^ (bit % 8).toNat % 256))) := HP
    have HB2 : Below w.heap.size w (w5_.setCell ⟨gx, at0.toNat, none⟩ (.int .u8 (Go.bits .xor .u8 (rdOf 0 x at0) (2 ^ (bit % 8).toNat % 256)))) := below_set HB.out GBX.out
    generalize (w5_.setCell ⟨gx, at0.toNat, none⟩ (.int .u8 (Go.bits .xor .u8 (rdOf 0 x at0) (2 ^ (bit % 8).toNat % 256)))) = wz at HP HB2 ⊢
    obtain ⟨hne, hyb⟩ := HN.out (by omega) (by omega) (by rw [hhl]; omega)
    have hlx2 : (x.set at0.toNat (Go.bits .xor .u8 (rdOf 0 x at0) (2 ^ (bit % 8).toNat % 256))).length = x.length := List.length_set
    have hyl := HXL.out
    generalize x.set at0.toNat (Go.bits .xor .u8 (rdOf 0 x at0) (2 ^ (bit % 8).toNat % 256)) = y at HP hne hyb hlx2
    rw [← hlx2] at HP hyl ⊢
    generalize hed : (dec y).2.2.2.2.2.2.2 = e1 at hne
    have HDY := Aside0.mk (show dec y = (0, 0, 0, 0, 0, false, [], e1) by have := dec_wrong y (by rw [hed]; exact hne); rw [hed] at this; exact this)
    have HYB := Aside0.mk hyb
    have HYL := Aside0.mk (show y.length ≤ 1000000 by omega)
    have HR_y := Aside0.mk HP
    clear HB HR_x hy hz h8 h9 c1 c2 c3 c4 c5 c6 hyb hlx2 hlx hyl hed HP HN HXL
    have HB := Aside0.mk HB2
    clear HB2
    clear BK_gw hc_gw_0 hf_gw_0 hc_gw_1 hf_gw_1 hc_gw_2 hf_gw_2 hc_gw_3 hf_gw_3 hc_gw_4 hf_gw_4 hc_gw_5 hf_gw_5 hc_gw_6 hf_gw_6 hc_gw_7 hf_gw_7 hc_gw_8 hf_gw_8 BK_gh hc_gh_0 hf_gh_0 hc_gh_1 hf_gh_1 hc_gh_2 hf_gh_2 hc_gh_3 hf_gh_3 hc_gh_4 hf_gh_4 hc_gh_5 hf_gh_5
    go_upto_region 14 with (first | (go_at_call 11; refine (decode_calls HYB.out HYL.out HDY.out _ _ _ (Kd.R_reads' HR_y.out).2.2 (Kd.R_reads' HR_y.out).2.1).mono ?_; rintro e w6_ ⟨v_u, rfl, hR, hB⟩; obtain ⟨A_u, c_u, rfl⟩ := Kd.R_slice hR; have hsz := HB.out.size; have nHB := Aside0.mk (HB.out.trans (hB.mono HB.out.size)); clear HB; have HB := nHB; clear nHB; have nHC := Aside0.mk (Kd.R_below HR_y.out hB); clear HR_y; have HR_y := nHC; clear nHC; have HR_u := Aside0.mk (Kd.R_mono (Kd.R_lower hR hsz) (fun _ _ => trivial : ∀ k, _ → (fun _ => True) k)); clear hR hsz; clear hB) | ((with_reducible refine gate_dst (N := 11) rfl ?_); (try (refine gate_guard (by rfl) ?_; dsimp only)); refine box_event ?hg (N := 11) ?hd (cs := #[.int .u32 0, .int .u32 0, .int .u8 0, .int .u8 0, .int .u16 0, .bool false]) (t := 26) ?hr ?_; (case hd => rfl); (case hg => rfl); (case hr => first | (go_simp; done) | (go_simp; rfl)); intro gq hg w7_ hbox hB0; have hG := Aside0.mk (show w6_.heap.size ≤ gq from Nat.le_of_eq hg.symm); clear hg; have hBX := Aside0.mk hbox; have hB1 := Aside0.mk hB0; clear hB0; have hc_gq_0 : w7_.cell? ⟨gq, 0, none⟩ = some (.int .u32 0) := (blk_cell hbox 0).trans rfl; have hf_gq_0 := blk_frozen hbox 0; have hc_gq_1 : w7_.cell? ⟨gq, 1, none⟩ = some (.int .u32 0) := (blk_cell hbox 1).trans rfl; have hf_gq_1 := blk_frozen hbox 1; have hc_gq_2 : w7_.cell? ⟨gq, 2, none⟩ = some (.int .u8 0) := (blk_cell hbox 2).trans rfl; have hf_gq_2 := blk_frozen hbox 2; have hc_gq_3 : w7_.cell? ⟨gq, 3, none⟩ = some (.int .u8 0) := (blk_cell hbox 3).trans rfl; have hf_gq_3 := blk_frozen hbox 3; have hc_gq_4 : w7_.cell? ⟨gq, 4, none⟩ = some (.int .u16 0) := (blk_cell hbox 4).trans rfl; have hf_gq_4 := blk_frozen hbox 4; have hc_gq_5 : w7_.cell? ⟨gq, 5, none⟩ = some (.bool false) := (blk_cell hbox 5).trans rfl; have hf_gq_5 := blk_frozen hbox 5; clear hbox))
    have hB : Below w6_.heap.size w6_ ((((((w7_.setCell ⟨gq, 0, none⟩ (.int .u32 0)).setCell ⟨gq, 1, none⟩ (.int .u32 0)).setCell ⟨gq, 2, none⟩ (.int .u8 0)).setCell ⟨gq, 3, none⟩ (.int .u8 0)).setCell ⟨gq, 4, none⟩ (.int .u16 0)).setCell ⟨gq, 5, none⟩ (.bool false)) := (below_set (below_set (below_set (below_set (below_set (below_set hB1.out hG.out) hG.out) hG.out) hG.out) hG.out) hG.out)
    have hBN : ((((((w7_.setCell ⟨gq, 0, none⟩ (.int .u32 0)).setCell ⟨gq, 1, none⟩ (.int .u32 0)).setCell ⟨gq, 2, none⟩ (.int .u8 0)).setCell ⟨gq, 3, none⟩ (.int .u8 0)).setCell ⟨gq, 4, none⟩ (.int .u16 0)).setCell ⟨gq, 5, none⟩ (.bool false)).heap[gq]? = some (.cells #[.int .u32 0, .int .u32 0, .int .u8 0, .int .u8 0, .int .u16 0, .bool false] 26 (0, 0)) := (blk_put (cs := #[.int .u32 0, .int .u32 0, .int .u8 0, .int .u8 0, .int .u16 0, .bool false]) (blk_put (cs := #[.int .u32 0, .int .u32 0, .int .u8 0, .int .u8 0, .int .u16 0, .bool false]) (blk_put (cs := #[.int .u32 0, .int .u32 0, .int .u8 0, .int .u8 0, .int .u16 0, .bool false]) (blk_put (cs := #[.int .u32 0, .int .u32 0, .int .u8 0, .int .u8 0, .int .u16 0, .bool false]) (blk_put (cs := #[.int .u32 0, .int .u32 0, .int .u8 0, .int .u8 0, .int .u16 0, .bool false]) (blk_put (cs := #[.int .u32 0, .int .u32 0, .int .u8 0, .int .u8 0, .int .u16 0, .bool false]) hBX.out 0 (.int .u32 0) rfl) 1 (.int .u32 0) rfl) 2 (.int .u8 0) rfl) 3 (.int .u8 0) rfl) 4 (.int .u16 0) rfl) 5 (.bool false) rfl)
    clear hBX hB1
    clear hc_gq_0 hf_gq_0 hc_gq_1 hf_gq_1 hc_gq_2 hf_gq_2 hc_gq_3 hf_gq_3 hc_gq_4 hf_gq_4 hc_gq_5 hf_gq_5
    generalize ((((((w7_.setCell ⟨gq, 0, none⟩ (.int .u32 0)).setCell ⟨gq, 1, none⟩ (.int .u32 0)).setCell ⟨gq, 2, none⟩ (.int .u8 0)).setCell ⟨gq, 3, none⟩ (.int .u8 0)).setCell ⟨gq, 4, none⟩ (.int .u16 0)).setCell ⟨gq, 5, none⟩ (.bool false)) = w8_ at hB hBN ⊢
    have HBo := Aside0.mk HB.out
    have nHB := Aside0.mk (HB.out.trans (hB.mono HB.out.size))
    clear HB
    have HB := nHB
    clear nHB
    have nHC := Aside0.mk (Kd.R_below HR_y.out hB)
    clear HR_y
    have HR_y := nHC
    clear nHC
    have nHC := Aside0.mk (Kd.R_below HR_u.out hB)
    clear HR_u
    have HR_u := nHC
    clear nHC
    have BK_gq := Aside0.mk hBN
    have GE_gq := Aside0.mk (Nat.le_trans HBo.out.size hG.out)
    clear HBo hG hBN hB
    have hc_gq_0 : w8_.cell? ⟨gq, 0, none⟩ = some (.int .u32 0) := (blk_cell BK_gq.out 0).trans rfl
    have hf_gq_0 := blk_frozen BK_gq.out 0
    have hc_gq_1 : w8_.cell? ⟨gq, 1, none⟩ = some (.int .u32 0) := (blk_cell BK_gq.out 1).trans rfl
    have hf_gq_1 := blk_frozen BK_gq.out 1
    have hc_gq_2 : w8_.cell? ⟨gq, 2, none⟩ = some (.int .u8 0) := (blk_cell BK_gq.out 2).trans rfl
    have hf_gq_2 := blk_frozen BK_gq.out 2
    have hc_gq_3 : w8_.cell? ⟨gq, 3, none⟩ = some (.int .u8 0) := (blk_cell BK_gq.out 3).trans rfl
    have hf_gq_3 := blk_frozen BK_gq.out 3
    have hc_gq_4 : w8_.cell? ⟨gq, 4, none⟩ = some (.int .u16 0) := (blk_cell BK_gq.out 4).trans rfl
    have hf_gq_4 := blk_frozen BK_gq.out 4
    have hc_gq_5 : w8_.cell? ⟨gq, 5, none⟩ = some (.bool false) := (blk_cell BK_gq.out 5).trans rfl
    have hf_gq_5 := blk_frozen BK_gq.out 5
    have hne2 : (e1 != 0) = true := bne_iff_ne.2 hne
    go_wp2
    go_ret
    exact ⟨rfl, HB.out⟩
end Go.Proofs.Ytlaanmkangikbaa
