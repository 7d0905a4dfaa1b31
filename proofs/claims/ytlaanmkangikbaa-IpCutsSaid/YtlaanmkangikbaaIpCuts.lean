/-
  IpCuts, walked.
-/
import Derived.Test.YtlaanmkangikbaaIpW
namespace Go.Proofs.Ytlaanmkangikbaa
open Go.RowKit Go.Proofs.YtlaanmkangikbaaW.PrintWords Go.Proofs.YtlaanmkangikbaaW.PrintLast Go.Proofs.YtlaanmkangikbaaW.PrintMore Go.Proofs.Ytlaanmkangikbaa.PIp
set_option linter.unusedVariables false
set_option maxHeartbeats 8000000 in
set_option maxRecDepth 100000 in
theorem ipCuts_walk {s d p t i : Int} {al : Bool} (hok : HOk s d p t i) {b : List Int} (hbb : Byt b) (hbl : b.length ≤ 140737488355328) (n : Int) {x : List Int} {e0 : Int} (hx : enc s d p t i al b = (x, e0))
    (h0 : (b.length : Int) ≤ 1400 → e0 = 0) (hm : ∀ m : Nat, (b.length : Int) ≤ 1400 → m < x.length → dec (x.take m) = W 3) (hxb : Byt x) (hxl : x.length ≤ 1000000) (A : Option Addr) (c : Nat) (w : World) (hr : Kd.C (Kd.int .u8) w A b.length b) (hc : b.length ≤ c) :
    Calls Try.prog 4 #[.agg #[.int .u32 s, .int .u32 d, .int .u8 p, .int .u8 t, .int .u16 i, .bool al], .slice A b.length c, .int .i64 n] w fun e w' => e = .returned (.bool true) ∧ Below w.heap.size w w' := by
  have hu26 := Try.underlying26
  have HB := Aside0.mk (Below.refl w.heap.size w)
  have HC_b := Aside0.mk hr
  have HK_b := Aside0.mk hc
  have HL := Aside0.mk hbl
  have H0 := Aside0.mk h0
  have HM := Aside0.mk hm
  have HXB := Aside0.mk hxb
  have HXL := Aside0.mk hxl
  clear hr hc hbl h0 hm hxb hxl
  go_enter Try.func4, Try.ntmps4
  go_upto_region 3 with (first | ((with_reducible refine gate_dst (N := 3) rfl ?_); (try (refine gate_guard (by rfl) ?_; dsimp only)); refine box_event ?hg (N := 3) ?hd (cs := #[.int .u32 s, .int .u32 d, .int .u8 p, .int .u8 t, .int .u16 i, .bool al]) (t := 26) ?hr ?_; (case hd => rfl); (case hg => rfl); (case hr => first | (go_simp; done) | (go_simp; rfl)); intro gh hg w1_ hbox hB; have HBo := Aside0.mk HB.out; have nHB := Aside0.mk (HB.out.trans (hB.mono HB.out.size)); clear HB; have HB := nHB; clear nHB; have nHC := Aside0.mk (Kd.C_below HC_b.out hB); clear HC_b; have HC_b := nHC; clear nHC; have BK_gh := Aside0.mk hbox; have GE_gh := Aside0.mk (show w.heap.size ≤ gh by rw [hg]; exact HBo.out.size); clear hg hbox hB; have hc_gh_0 : w1_.cell? ⟨gh, 0, none⟩ = some (.int .u32 s) := (blk_cell BK_gh.out 0).trans rfl; have hf_gh_0 := blk_frozen BK_gh.out 0; have hc_gh_1 : w1_.cell? ⟨gh, 1, none⟩ = some (.int .u32 d) := (blk_cell BK_gh.out 1).trans rfl; have hf_gh_1 := blk_frozen BK_gh.out 1; have hc_gh_2 : w1_.cell? ⟨gh, 2, none⟩ = some (.int .u8 p) := (blk_cell BK_gh.out 2).trans rfl; have hf_gh_2 := blk_frozen BK_gh.out 2; have hc_gh_3 : w1_.cell? ⟨gh, 3, none⟩ = some (.int .u8 t) := (blk_cell BK_gh.out 3).trans rfl; have hf_gh_3 := blk_frozen BK_gh.out 3; have hc_gh_4 : w1_.cell? ⟨gh, 4, none⟩ = some (.int .u16 i) := (blk_cell BK_gh.out 4).trans rfl; have hf_gh_4 := blk_frozen BK_gh.out 4; have hc_gh_5 : w1_.cell? ⟨gh, 5, none⟩ = some (.bool al) := (blk_cell BK_gh.out 5).trans rfl; have hf_gh_5 := blk_frozen BK_gh.out 5; clear HBo) | (go_at_call 9; refine (shown_calls _).mono ?_; rintro e w2_ ⟨rfl, hB⟩; have nHB := Aside0.mk (HB.out.trans (hB.mono HB.out.size)); clear HB; have HB := nHB; clear nHB; clear hc_gh_0 hf_gh_0 hc_gh_1 hf_gh_1 hc_gh_2 hf_gh_2 hc_gh_3 hf_gh_3 hc_gh_4 hf_gh_4 hc_gh_5 hf_gh_5; have nBK := Aside0.mk (blk_below (g := gh) (o := .cells #[.int .u32 s, .int .u32 d, .int .u8 p, .int .u8 t, .int .u16 i, .bool al] 26 (0, 0)) BK_gh.out hB); clear BK_gh; have BK_gh := nBK; clear nBK; have hc_gh_0 : w2_.cell? ⟨gh, 0, none⟩ = some (.int .u32 s) := (blk_cell BK_gh.out 0).trans rfl; have hf_gh_0 := blk_frozen BK_gh.out 0; have hc_gh_1 : w2_.cell? ⟨gh, 1, none⟩ = some (.int .u32 d) := (blk_cell BK_gh.out 1).trans rfl; have hf_gh_1 := blk_frozen BK_gh.out 1; have hc_gh_2 : w2_.cell? ⟨gh, 2, none⟩ = some (.int .u8 p) := (blk_cell BK_gh.out 2).trans rfl; have hf_gh_2 := blk_frozen BK_gh.out 2; have hc_gh_3 : w2_.cell? ⟨gh, 3, none⟩ = some (.int .u8 t) := (blk_cell BK_gh.out 3).trans rfl; have hf_gh_3 := blk_frozen BK_gh.out 3; have hc_gh_4 : w2_.cell? ⟨gh, 4, none⟩ = some (.int .u16 i) := (blk_cell BK_gh.out 4).trans rfl; have hf_gh_4 := blk_frozen BK_gh.out 4; have hc_gh_5 : w2_.cell? ⟨gh, 5, none⟩ = some (.bool al) := (blk_cell BK_gh.out 5).trans rfl; have hf_gh_5 := blk_frozen BK_gh.out 5; have nHC := Aside0.mk (Kd.C_below HC_b.out hB); clear HC_b; have HC_b := nHC; clear nHC; clear hB) | (go_at_call 10; refine (encode_calls hok HL.out hx _ _ _ HC_b.out HK_b.out).mono ?_; rintro e w3_ ⟨v_x, rfl, hR, hB⟩; obtain ⟨A_x, c_x, rfl⟩ := Kd.R_slice hR; have nHB := Aside0.mk (HB.out.trans (hB.mono HB.out.size)); clear HB; have HB := nHB; clear nHB; clear hc_gh_0 hf_gh_0 hc_gh_1 hf_gh_1 hc_gh_2 hf_gh_2 hc_gh_3 hf_gh_3 hc_gh_4 hf_gh_4 hc_gh_5 hf_gh_5; have nBK := Aside0.mk (blk_below (g := gh) (o := .cells #[.int .u32 s, .int .u32 d, .int .u8 p, .int .u8 t, .int .u16 i, .bool al] 26 (0, 0)) BK_gh.out hB); clear BK_gh; have BK_gh := nBK; clear nBK; have hc_gh_0 : w3_.cell? ⟨gh, 0, none⟩ = some (.int .u32 s) := (blk_cell BK_gh.out 0).trans rfl; have hf_gh_0 := blk_frozen BK_gh.out 0; have hc_gh_1 : w3_.cell? ⟨gh, 1, none⟩ = some (.int .u32 d) := (blk_cell BK_gh.out 1).trans rfl; have hf_gh_1 := blk_frozen BK_gh.out 1; have hc_gh_2 : w3_.cell? ⟨gh, 2, none⟩ = some (.int .u8 p) := (blk_cell BK_gh.out 2).trans rfl; have hf_gh_2 := blk_frozen BK_gh.out 2; have hc_gh_3 : w3_.cell? ⟨gh, 3, none⟩ = some (.int .u8 t) := (blk_cell BK_gh.out 3).trans rfl; have hf_gh_3 := blk_frozen BK_gh.out 3; have hc_gh_4 : w3_.cell? ⟨gh, 4, none⟩ = some (.int .u16 i) := (blk_cell BK_gh.out 4).trans rfl; have hf_gh_4 := blk_frozen BK_gh.out 4; have hc_gh_5 : w3_.cell? ⟨gh, 5, none⟩ = some (.bool al) := (blk_cell BK_gh.out 5).trans rfl; have hf_gh_5 := blk_frozen BK_gh.out 5; have nHC := Aside0.mk (Kd.C_below HC_b.out hB); clear HC_b; have HC_b := nHC; clear nHC; have HC_x := Aside0.mk (Kd.R_reads' hR).2.2; have HK_x := Aside0.mk (Kd.R_reads' hR).2.1; clear hR; clear hB))
  by_cases c1 : 1400 < (b.length : Int)
  · go_wp2
    go_ret
    exact ⟨rfl, HB.out⟩
  have HE := H0.out (by omega)
  subst HE
  by_cases c2 : n < 0
  · go_wp2
    go_ret
    exact ⟨rfl, HB.out⟩
  by_cases c3 : (x.length : Int) ≤ n
  · go_wp2
    go_ret
    exact ⟨rfl, HB.out⟩
  obtain ⟨i_, hi_, _, hz_, _⟩ := info_parts info5
  obtain ⟨hcut_y, hA_, hC_⟩ := print_take_of (P := Try.prog) (Value.int .u8) 0 27 5 .i64 Try.underlying27 hi_ hz_ A_x c_x x n (by omega) (by omega) HK_x.out
  obtain ⟨y, hy_y⟩ : ∃ y, y = x.take n.toNat := ⟨_, rfl⟩
  rw [← hy_y] at hcut_y hC_ hA_
  have HY_y := Aside0.mk hy_y
  clear hy_y
  have HC_y := Aside0.mk (Kd.C_of_reads (h1 := fun _ => rfl) (hA_ _ (Kd.reads_of_C HC_x.out)))
  have HK_y := Aside0.mk hC_
  clear hA_ hC_ hi_ hz_
  have HD := Aside0.mk (show dec y = (0, 0, 0, 0, 0, false, [], 3) by rw [HY_y.out]; exact HM.out n.toNat (by omega) (by omega))
  have HYB := Aside0.mk (show Byt y by rw [HY_y.out]; exact HXB.out.take _)
  have HYL := Aside0.mk (show y.length ≤ 1000000 by have := HXL.out; rw [HY_y.out, List.length_take]; omega)
  go_upto_region 6 with (first | (go_at_call 11; refine (decode_calls HYB.out HYL.out HD.out _ _ _ HC_y.out HK_y.out).mono ?_; rintro e w4_ ⟨v_q, rfl, hR, hB⟩; obtain ⟨A_q, c_q, rfl⟩ := Kd.R_slice hR; have nHB := Aside0.mk (HB.out.trans (hB.mono HB.out.size)); clear HB; have HB := nHB; clear nHB; clear hc_gh_0 hf_gh_0 hc_gh_1 hf_gh_1 hc_gh_2 hf_gh_2 hc_gh_3 hf_gh_3 hc_gh_4 hf_gh_4 hc_gh_5 hf_gh_5; have nBK := Aside0.mk (blk_below (g := gh) (o := .cells #[.int .u32 s, .int .u32 d, .int .u8 p, .int .u8 t, .int .u16 i, .bool al] 26 (0, 0)) BK_gh.out hB); clear BK_gh; have BK_gh := nBK; clear nBK; have hc_gh_0 : w4_.cell? ⟨gh, 0, none⟩ = some (.int .u32 s) := (blk_cell BK_gh.out 0).trans rfl; have hf_gh_0 := blk_frozen BK_gh.out 0; have hc_gh_1 : w4_.cell? ⟨gh, 1, none⟩ = some (.int .u32 d) := (blk_cell BK_gh.out 1).trans rfl; have hf_gh_1 := blk_frozen BK_gh.out 1; have hc_gh_2 : w4_.cell? ⟨gh, 2, none⟩ = some (.int .u8 p) := (blk_cell BK_gh.out 2).trans rfl; have hf_gh_2 := blk_frozen BK_gh.out 2; have hc_gh_3 : w4_.cell? ⟨gh, 3, none⟩ = some (.int .u8 t) := (blk_cell BK_gh.out 3).trans rfl; have hf_gh_3 := blk_frozen BK_gh.out 3; have hc_gh_4 : w4_.cell? ⟨gh, 4, none⟩ = some (.int .u16 i) := (blk_cell BK_gh.out 4).trans rfl; have hf_gh_4 := blk_frozen BK_gh.out 4; have hc_gh_5 : w4_.cell? ⟨gh, 5, none⟩ = some (.bool al) := (blk_cell BK_gh.out 5).trans rfl; have hf_gh_5 := blk_frozen BK_gh.out 5; have nHC := Aside0.mk (Kd.C_below HC_b.out hB); clear HC_b; have HC_b := nHC; clear nHC; have nHC := Aside0.mk (Kd.C_below HC_x.out hB); clear HC_x; have HC_x := nHC; clear nHC; have nHC := Aside0.mk (Kd.C_below HC_y.out hB); clear HC_y; have HC_y := nHC; clear nHC; have HC_q := Aside0.mk (Kd.R_reads' hR).2.2; have HK_q := Aside0.mk (Kd.R_reads' hR).2.1; clear hR; clear hB) | ((with_reducible refine gate_dst (N := 10) rfl ?_); (try (refine gate_guard (by rfl) ?_; dsimp only)); refine box_event ?hg (N := 10) ?hd (cs := #[.int .u32 0, .int .u32 0, .int .u8 0, .int .u8 0, .int .u16 0, .bool false]) (t := 26) ?hr ?_; (case hd => rfl); (case hg => rfl); (case hr => first | (go_simp; done) | (go_simp; rfl)); intro gk hg w5_ hbox hB0; have hG := Aside0.mk (show w4_.heap.size ≤ gk from Nat.le_of_eq hg.symm); clear hg; have hBX := Aside0.mk hbox; have hB1 := Aside0.mk hB0; clear hB0; have hc_gk_0 : w5_.cell? ⟨gk, 0, none⟩ = some (.int .u32 0) := (blk_cell hbox 0).trans rfl; have hf_gk_0 := blk_frozen hbox 0; have hc_gk_1 : w5_.cell? ⟨gk, 1, none⟩ = some (.int .u32 0) := (blk_cell hbox 1).trans rfl; have hf_gk_1 := blk_frozen hbox 1; have hc_gk_2 : w5_.cell? ⟨gk, 2, none⟩ = some (.int .u8 0) := (blk_cell hbox 2).trans rfl; have hf_gk_2 := blk_frozen hbox 2; have hc_gk_3 : w5_.cell? ⟨gk, 3, none⟩ = some (.int .u8 0) := (blk_cell hbox 3).trans rfl; have hf_gk_3 := blk_frozen hbox 3; have hc_gk_4 : w5_.cell? ⟨gk, 4, none⟩ = some (.int .u16 0) := (blk_cell hbox 4).trans rfl; have hf_gk_4 := blk_frozen hbox 4; have hc_gk_5 : w5_.cell? ⟨gk, 5, none⟩ = some (.bool false) := (blk_cell hbox 5).trans rfl; have hf_gk_5 := blk_frozen hbox 5; clear hbox))
  have hB : Below w4_.heap.size w4_ ((((((w5_.setCell ⟨gk, 0, none⟩ (.int .u32 0)).setCell ⟨gk, 1, none⟩ (.int .u32 0)).setCell ⟨gk, 2, none⟩ (.int .u8 0)).setCell ⟨gk, 3, none⟩ (.int .u8 0)).setCell ⟨gk, 4, none⟩ (.int .u16 0)).setCell ⟨gk, 5, none⟩ (.bool false)) := (below_set (below_set (below_set (below_set (below_set (below_set hB1.out hG.out) hG.out) hG.out) hG.out) hG.out) hG.out)
  have hBN : ((((((w5_.setCell ⟨gk, 0, none⟩ (.int .u32 0)).setCell ⟨gk, 1, none⟩ (.int .u32 0)).setCell ⟨gk, 2, none⟩ (.int .u8 0)).setCell ⟨gk, 3, none⟩ (.int .u8 0)).setCell ⟨gk, 4, none⟩ (.int .u16 0)).setCell ⟨gk, 5, none⟩ (.bool false)).heap[gk]? = some (.cells #[.int .u32 0, .int .u32 0, .int .u8 0, .int .u8 0, .int .u16 0, .bool false] 26 (0, 0)) := (blk_put (cs := #[.int .u32 0, .int .u32 0, .int .u8 0, .int .u8 0, .int .u16 0, .bool false]) (blk_put (cs := #[.int .u32 0, .int .u32 0, .int .u8 0, .int .u8 0, .int .u16 0, .bool false]) (blk_put (cs := #[.int .u32 0, .int .u32 0, .int .u8 0, .int .u8 0, .int .u16 0, .bool false]) (blk_put (cs := #[.int .u32 0, .int .u32 0, .int .u8 0, .int .u8 0, .int .u16 0, .bool false]) (blk_put (cs := #[.int .u32 0, .int .u32 0, .int .u8 0, .int .u8 0, .int .u16 0, .bool false]) (blk_put (cs := #[.int .u32 0, .int .u32 0, .int .u8 0, .int .u8 0, .int .u16 0, .bool false]) hBX.out 0 (.int .u32 0) rfl) 1 (.int .u32 0) rfl) 2 (.int .u8 0) rfl) 3 (.int .u8 0) rfl) 4 (.int .u16 0) rfl) 5 (.bool false) rfl)
  clear hBX hB1
  clear hc_gk_0 hf_gk_0 hc_gk_1 hf_gk_1 hc_gk_2 hf_gk_2 hc_gk_3 hf_gk_3 hc_gk_4 hf_gk_4 hc_gk_5 hf_gk_5
  generalize ((((((w5_.setCell ⟨gk, 0, none⟩ (.int .u32 0)).setCell ⟨gk, 1, none⟩ (.int .u32 0)).setCell ⟨gk, 2, none⟩ (.int .u8 0)).setCell ⟨gk, 3, none⟩ (.int .u8 0)).setCell ⟨gk, 4, none⟩ (.int .u16 0)).setCell ⟨gk, 5, none⟩ (.bool false)) = w6_ at hB hBN ⊢
  have HBo := Aside0.mk HB.out
  have nHB := Aside0.mk (HB.out.trans (hB.mono HB.out.size))
  clear HB
  have HB := nHB
  clear nHB
  clear hc_gh_0 hf_gh_0 hc_gh_1 hf_gh_1 hc_gh_2 hf_gh_2 hc_gh_3 hf_gh_3 hc_gh_4 hf_gh_4 hc_gh_5 hf_gh_5
  have nBK := Aside0.mk (blk_below (g := gh) (o := .cells #[.int .u32 s, .int .u32 d, .int .u8 p, .int .u8 t, .int .u16 i, .bool al] 26 (0, 0)) BK_gh.out hB)
  clear BK_gh
  have BK_gh := nBK
  clear nBK
  have hc_gh_0 : w6_.cell? ⟨gh, 0, none⟩ = some (.int .u32 s) := (blk_cell BK_gh.out 0).trans rfl
  have hf_gh_0 := blk_frozen BK_gh.out 0
  have hc_gh_1 : w6_.cell? ⟨gh, 1, none⟩ = some (.int .u32 d) := (blk_cell BK_gh.out 1).trans rfl
  have hf_gh_1 := blk_frozen BK_gh.out 1
  have hc_gh_2 : w6_.cell? ⟨gh, 2, none⟩ = some (.int .u8 p) := (blk_cell BK_gh.out 2).trans rfl
  have hf_gh_2 := blk_frozen BK_gh.out 2
  have hc_gh_3 : w6_.cell? ⟨gh, 3, none⟩ = some (.int .u8 t) := (blk_cell BK_gh.out 3).trans rfl
  have hf_gh_3 := blk_frozen BK_gh.out 3
  have hc_gh_4 : w6_.cell? ⟨gh, 4, none⟩ = some (.int .u16 i) := (blk_cell BK_gh.out 4).trans rfl
  have hf_gh_4 := blk_frozen BK_gh.out 4
  have hc_gh_5 : w6_.cell? ⟨gh, 5, none⟩ = some (.bool al) := (blk_cell BK_gh.out 5).trans rfl
  have hf_gh_5 := blk_frozen BK_gh.out 5
  have nHC := Aside0.mk (Kd.C_below HC_b.out hB)
  clear HC_b
  have HC_b := nHC
  clear nHC
  have nHC := Aside0.mk (Kd.C_below HC_x.out hB)
  clear HC_x
  have HC_x := nHC
  clear nHC
  have nHC := Aside0.mk (Kd.C_below HC_y.out hB)
  clear HC_y
  have HC_y := nHC
  clear nHC
  have nHC := Aside0.mk (Kd.C_below HC_q.out hB)
  clear HC_q
  have HC_q := nHC
  clear nHC
  have BK_gk := Aside0.mk hBN
  have GE_gk := Aside0.mk (Nat.le_trans HBo.out.size hG.out)
  clear HBo hG hBN hB
  have hc_gk_0 : w6_.cell? ⟨gk, 0, none⟩ = some (.int .u32 0) := (blk_cell BK_gk.out 0).trans rfl
  have hf_gk_0 := blk_frozen BK_gk.out 0
  have hc_gk_1 : w6_.cell? ⟨gk, 1, none⟩ = some (.int .u32 0) := (blk_cell BK_gk.out 1).trans rfl
  have hf_gk_1 := blk_frozen BK_gk.out 1
  have hc_gk_2 : w6_.cell? ⟨gk, 2, none⟩ = some (.int .u8 0) := (blk_cell BK_gk.out 2).trans rfl
  have hf_gk_2 := blk_frozen BK_gk.out 2
  have hc_gk_3 : w6_.cell? ⟨gk, 3, none⟩ = some (.int .u8 0) := (blk_cell BK_gk.out 3).trans rfl
  have hf_gk_3 := blk_frozen BK_gk.out 3
  have hc_gk_4 : w6_.cell? ⟨gk, 4, none⟩ = some (.int .u16 0) := (blk_cell BK_gk.out 4).trans rfl
  have hf_gk_4 := blk_frozen BK_gk.out 4
  have hc_gk_5 : w6_.cell? ⟨gk, 5, none⟩ = some (.bool false) := (blk_cell BK_gk.out 5).trans rfl
  have hf_gk_5 := blk_frozen BK_gk.out 5
  go_wp2
  go_ret
  exact ⟨rfl, HB.out⟩
theorem ipCuts_call {s d p t i : Int} {al : Bool} (hok : HOk s d p t i) {b : List Int} (hbb : Byt b) (hbl : b.length ≤ 140737488351232) (n : Int) (A : Option Addr) (c : Nat) (w : World) (hr : Kd.C (Kd.int .u8) w A b.length b) (hc : b.length ≤ c) :
    Calls Try.prog 4 #[.agg #[.int .u32 s, .int .u32 d, .int .u8 p, .int .u8 t, .int .u16 i, .bool al], .slice A b.length c, .int .i64 n] w fun e w' => e = .returned (.bool true) ∧ Below w.heap.size w w' := by
  have hh := hlen_range al
  have hx := enc_len hok al hbb
  refine ipCuts_walk hok hbb (by omega) n (x := (enc s d p t i al b).1) (e0 := (enc s d p t i al b).2) rfl ?_ ?_ hx.1 (by omega) A c w hr hc
  · intro h
    rw [enc_some _ _ _ _ _ _ _ (by omega)]
  · intro m h hm
    rw [enc_some _ _ _ _ _ _ _ (by omega)] at hm ⊢
    exact dec_cut hok al b (by omega) m (by simpa [hd_len] using hm)
end Go.Proofs.Ytlaanmkangikbaa
