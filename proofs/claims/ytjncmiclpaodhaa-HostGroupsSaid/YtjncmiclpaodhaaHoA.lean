/-
  host.Answer to a general query.
-/
import Derived.Test.YtjncmiclpaodhaaPHoy2
import Derived.Test.YtjncmiclpaodhaaHoC
namespace Go.Proofs.Ytjncmiclpaodhaa
open Go.RowKit Go.Proofs.YtjncmiclpaodhaaW.PrintWords Go.Proofs.YtjncmiclpaodhaaW.PrintLast Go.Proofs.YtjncmiclpaodhaaW.PrintMore Go.Proofs.Ytjncmiclpaodhaa.PHo
set_option linter.unusedVariables false
set_option linter.unusedSimpArgs false
theorem wants_w {k : Nat} {l : List S42} {g : Int} {e : Bool} {s : List Int} (h : host_Wants.f k l g = some (e, s)) (A : Option Addr) (c : Nat) (w : World) (hr : Kd.C k42 w A l.length l) (hc : l.length ≤ c) :
    Calls Try.prog 18 #[.agg #[.slice A l.length c], .int .u32 g] w fun x w' => ∃ v : Value, x = .returned (.agg #[.bool e, v]) ∧ Kd.R (Kd.int .u32) 23 w' w.heap.size (fun _ => True) v s ∧ Below w.heap.size w w' := by
  refine (host_Wants.calls k (fun k => k < w.heap.size) A c l g e s w (Kd.V_mk hc (Kd.C_F k42_heap hr)) h).mono ?_
  rintro x w' ⟨v, rfl, hR, hB⟩
  exact ⟨v, rfl, Kd.R_mono hR (fun _ _ => trivial), hB⟩
theorem groups_w {k : Nat} {l : List S42} {G : List Int} (h : host_Groups.f k l = some G) (A : Option Addr) (c : Nat) (w : World) (hr : Kd.C k42 w A l.length l) (hc : l.length ≤ c) :
    Calls Try.prog 24 #[.agg #[.slice A l.length c]] w fun x w' => ∃ v : Value, x = .returned v ∧ Kd.R (Kd.int .u32) 23 w' w.heap.size (fun _ => True) v G ∧ Below w.heap.size w w' := host_Groups.calls k A c l G w hr hc h
set_option maxHeartbeats 8000000 in
set_option maxRecDepth 100000 in
theorem answer0_w {k : Nat} {l : List S42} {G : List Int} {cur : Int → S36} {e0 : Bool} {s0 : List Int} (hG : host_Groups.f k l = some G) (hw : host_Wants.f k l 0 = some (e0, s0)) (hcur : ∀ g ∈ G, host_current.f k l g = some ((cur g).f0, (cur g).f1, (cur g).f2)) (hGl : G.length ≤ 1000) (ver code : Int) (A_l : Option Addr) (c_l : Nat) (w : World) (hr : Kd.C k42 w A_l l.length l) (hc : l.length ≤ c_l) :
    Calls Try.prog 25 #[.agg #[.slice A_l l.length c_l], .agg #[.int .u8 17, .int .i64 ver, .int .u8 code, .int .u32 0, .bool false, .int .u8 0, .int .u8 0, .slice none 0 0, .slice none 0 0]] w fun e w' => ∃ v, e = .returned v ∧ Kd.V k36 36 w' 0 (fun k => w.heap.size ≤ k) v (G.map cur) ∧ Below w.heap.size w w' := by
  have hu40 := Try.underlying40
  have hu63 := Try.underlying63
  have hu26 := Try.underlying26
  have hu36 := Try.underlying36
  have HB := Aside0.mk (Below.refl w.heap.size w)
  have HC_l := Aside0.mk hr
  have HK_l := Aside0.mk hc
  have XG := Aside0.mk hG
  have XW := Aside0.mk hw
  have XC := Aside0.mk hcur
  have XL := Aside0.mk hGl
  clear hr hc hG hw hcur hGl
  go_enter Try.func25, Try.ntmps25
  go_upto_region 3 with (first | ((with_reducible refine gate_dst (N := 2) rfl ?_); (try (refine gate_guard (by rfl) ?_; dsimp only)); refine box_event ?hg (N := 2) ?hd (cs := #[.slice A_l l.length c_l]) (t := 40) ?hr ?_; (case hd => rfl); (case hg => rfl); (case hr => first | (go_simp; done) | (go_simp; rfl)); intro gh hg w1_ hbox hB; have HBo := Aside0.mk HB.out; have nHB := Aside0.mk (HB.out.trans (hB.mono HB.out.size)); clear HB; have HB := nHB; clear nHB; have BK_gh := Aside0.mk hbox; have GE_gh := Aside0.mk (show w.heap.size ≤ gh by rw [hg]; exact HBo.out.size); clear hg hbox hB; have hc_gh_0 : w1_.cell? ⟨gh, 0, none⟩ = some (.slice A_l l.length c_l) := (blk_cell BK_gh.out 0).trans rfl; have hf_gh_0 := blk_frozen BK_gh.out 0; clear HBo) | ((with_reducible refine gate_dst (N := 3) rfl ?_); (try (refine gate_guard (by rfl) ?_; dsimp only)); refine box_event ?hg (N := 3) ?hd (cs := #[.int .u8 17, .int .i64 ver, .int .u8 code, .int .u32 0, .bool false, .int .u8 0, .int .u8 0, .slice none 0 0, .slice none 0 0]) (t := 63) ?hr ?_; (case hd => rfl); (case hg => rfl); (case hr => first | (go_simp; done) | (go_simp; rfl)); intro gq hg w2_ hbox hB; have HBo := Aside0.mk HB.out; have BK0_gh := Aside0.mk BK_gh.out; have nHB := Aside0.mk (HB.out.trans (hB.mono HB.out.size)); clear HB; have HB := nHB; clear nHB; clear hc_gh_0 hf_gh_0; have nBK := Aside0.mk (blk_below (g := gh) (o := .cells #[.slice A_l l.length c_l] 40 (0, 0)) BK_gh.out hB); clear BK_gh; have BK_gh := nBK; clear nBK; have hc_gh_0 : w2_.cell? ⟨gh, 0, none⟩ = some (.slice A_l l.length c_l) := (blk_cell BK_gh.out 0).trans rfl; have hf_gh_0 := blk_frozen BK_gh.out 0; have BK_gq := Aside0.mk hbox; have GE_gq := Aside0.mk (show w.heap.size ≤ gq by rw [hg]; exact HBo.out.size); have NB_gq_gh := Aside0.mk (show gq ≠ gh by rw [hg]; exact Nat.ne_of_gt (blk_lt (g := gh) (o := .cells #[.slice A_l l.length c_l] 40 (0, 0)) BK0_gh.out)); have NB_gh_gq := Aside0.mk (Ne.symm NB_gq_gh.out); clear BK0_gh; clear hg hbox hB; have hc_gq_0 : w2_.cell? ⟨gq, 0, none⟩ = some (.int .u8 17) := (blk_cell BK_gq.out 0).trans rfl; have hf_gq_0 := blk_frozen BK_gq.out 0; have hc_gq_1 : w2_.cell? ⟨gq, 1, none⟩ = some (.int .i64 ver) := (blk_cell BK_gq.out 1).trans rfl; have hf_gq_1 := blk_frozen BK_gq.out 1; have hc_gq_2 : w2_.cell? ⟨gq, 2, none⟩ = some (.int .u8 code) := (blk_cell BK_gq.out 2).trans rfl; have hf_gq_2 := blk_frozen BK_gq.out 2; have hc_gq_3 : w2_.cell? ⟨gq, 3, none⟩ = some (.int .u32 0) := (blk_cell BK_gq.out 3).trans rfl; have hf_gq_3 := blk_frozen BK_gq.out 3; have hc_gq_4 : w2_.cell? ⟨gq, 4, none⟩ = some (.bool false) := (blk_cell BK_gq.out 4).trans rfl; have hf_gq_4 := blk_frozen BK_gq.out 4; have hc_gq_5 : w2_.cell? ⟨gq, 5, none⟩ = some (.int .u8 0) := (blk_cell BK_gq.out 5).trans rfl; have hf_gq_5 := blk_frozen BK_gq.out 5; have hc_gq_6 : w2_.cell? ⟨gq, 6, none⟩ = some (.int .u8 0) := (blk_cell BK_gq.out 6).trans rfl; have hf_gq_6 := blk_frozen BK_gq.out 6; have hc_gq_7 : w2_.cell? ⟨gq, 7, none⟩ = some (.slice none 0 0) := (blk_cell BK_gq.out 7).trans rfl; have hf_gq_7 := blk_frozen BK_gq.out 7; have hc_gq_8 : w2_.cell? ⟨gq, 8, none⟩ = some (.slice none 0 0) := (blk_cell BK_gq.out 8).trans rfl; have hf_gq_8 := blk_frozen BK_gq.out 8; clear HBo) | (go_at_call 18; with_reducible refine (wants_w XW.out _ _ _ (Kd.C_below HC_l.out HB.out) HK_l.out).mono ?_; rintro e w3_ ⟨v_s, rfl, hR, hB⟩; obtain ⟨A_s, c_s, rfl⟩ := Kd.R_slice hR; have hsz := HB.out.size; have nHB := Aside0.mk (HB.out.trans (hB.mono HB.out.size)); clear HB; have HB := nHB; clear nHB; clear hc_gh_0 hf_gh_0; have nBK := Aside0.mk (blk_below (g := gh) (o := .cells #[.slice A_l l.length c_l] 40 (0, 0)) BK_gh.out hB); clear BK_gh; have BK_gh := nBK; clear nBK; have hc_gh_0 : w3_.cell? ⟨gh, 0, none⟩ = some (.slice A_l l.length c_l) := (blk_cell BK_gh.out 0).trans rfl; have hf_gh_0 := blk_frozen BK_gh.out 0; clear hc_gq_0 hf_gq_0 hc_gq_1 hf_gq_1 hc_gq_2 hf_gq_2 hc_gq_3 hf_gq_3 hc_gq_4 hf_gq_4 hc_gq_5 hf_gq_5 hc_gq_6 hf_gq_6 hc_gq_7 hf_gq_7 hc_gq_8 hf_gq_8; have nBK := Aside0.mk (blk_below (g := gq) (o := .cells #[.int .u8 17, .int .i64 ver, .int .u8 code, .int .u32 0, .bool false, .int .u8 0, .int .u8 0, .slice none 0 0, .slice none 0 0] 63 (0, 0)) BK_gq.out hB); clear BK_gq; have BK_gq := nBK; clear nBK; have hc_gq_0 : w3_.cell? ⟨gq, 0, none⟩ = some (.int .u8 17) := (blk_cell BK_gq.out 0).trans rfl; have hf_gq_0 := blk_frozen BK_gq.out 0; have hc_gq_1 : w3_.cell? ⟨gq, 1, none⟩ = some (.int .i64 ver) := (blk_cell BK_gq.out 1).trans rfl; have hf_gq_1 := blk_frozen BK_gq.out 1; have hc_gq_2 : w3_.cell? ⟨gq, 2, none⟩ = some (.int .u8 code) := (blk_cell BK_gq.out 2).trans rfl; have hf_gq_2 := blk_frozen BK_gq.out 2; have hc_gq_3 : w3_.cell? ⟨gq, 3, none⟩ = some (.int .u32 0) := (blk_cell BK_gq.out 3).trans rfl; have hf_gq_3 := blk_frozen BK_gq.out 3; have hc_gq_4 : w3_.cell? ⟨gq, 4, none⟩ = some (.bool false) := (blk_cell BK_gq.out 4).trans rfl; have hf_gq_4 := blk_frozen BK_gq.out 4; have hc_gq_5 : w3_.cell? ⟨gq, 5, none⟩ = some (.int .u8 0) := (blk_cell BK_gq.out 5).trans rfl; have hf_gq_5 := blk_frozen BK_gq.out 5; have hc_gq_6 : w3_.cell? ⟨gq, 6, none⟩ = some (.int .u8 0) := (blk_cell BK_gq.out 6).trans rfl; have hf_gq_6 := blk_frozen BK_gq.out 6; have hc_gq_7 : w3_.cell? ⟨gq, 7, none⟩ = some (.slice none 0 0) := (blk_cell BK_gq.out 7).trans rfl; have hf_gq_7 := blk_frozen BK_gq.out 7; have hc_gq_8 : w3_.cell? ⟨gq, 8, none⟩ = some (.slice none 0 0) := (blk_cell BK_gq.out 8).trans rfl; have hf_gq_8 := blk_frozen BK_gq.out 8; have HR_s := Aside0.mk (Kd.R_mono (Kd.R_lower hR hsz) (fun _ _ => trivial : ∀ k, _ → (fun _ => True) k)); clear hR hsz; clear hB) | ((with_reducible refine gate_dst (N := 6) rfl ?_); (try (refine gate_guard (by rfl) ?_; dsimp only)); refine box_event ?hg (N := 6) ?hd (cs := #[.bool false, .slice none 0 0]) (t := 26) ?hr ?_; (case hd => rfl); (case hg => rfl); (case hr => first | (go_simp; done) | (go_simp; rfl)); intro gf hg w4_ hbox hB0; have hG := Aside0.mk (show w3_.heap.size ≤ gf from Nat.le_of_eq hg.symm); clear hg; have hBX := Aside0.mk hbox; have hB1 := Aside0.mk hB0; clear hB0; have hc_gf_0 : w4_.cell? ⟨gf, 0, none⟩ = some (.bool false) := (blk_cell hbox 0).trans rfl; have hf_gf_0 := blk_frozen hbox 0; have hc_gf_1 : w4_.cell? ⟨gf, 1, none⟩ = some (.slice none 0 0) := (blk_cell hbox 1).trans rfl; have hf_gf_1 := blk_frozen hbox 1; clear hbox))
  have hB : Below w3_.heap.size w3_ ((w4_.setCell ⟨gf, 0, none⟩ (.bool e0)).setCell ⟨gf, 1, none⟩ (.slice A_s s0.length c_s)) := (below_set (below_set hB1.out hG.out) hG.out)
  have hBN : ((w4_.setCell ⟨gf, 0, none⟩ (.bool e0)).setCell ⟨gf, 1, none⟩ (.slice A_s s0.length c_s)).heap[gf]? = some (.cells #[.bool e0, .slice A_s s0.length c_s] 26 (0, 0)) := (blk_put (cs := #[.bool e0, .slice none 0 0]) (blk_put (cs := #[.bool false, .slice none 0 0]) hBX.out 0 (.bool e0) rfl) 1 (.slice A_s s0.length c_s) rfl)
  clear hBX hB1
  clear hc_gf_0 hf_gf_0 hc_gf_1 hf_gf_1
  generalize ((w4_.setCell ⟨gf, 0, none⟩ (.bool e0)).setCell ⟨gf, 1, none⟩ (.slice A_s s0.length c_s)) = w5_ at hB hBN ⊢
  have NB_gf_gh := Aside0.mk (show gf ≠ gh from Nat.ne_of_gt (Nat.lt_of_lt_of_le (blk_lt (g := gh) (o := .cells #[.slice A_l l.length c_l] 40 (0, 0)) BK_gh.out) hG.out))
  have NB_gh_gf := Aside0.mk (Ne.symm NB_gf_gh.out)
  have NB_gf_gq := Aside0.mk (show gf ≠ gq from Nat.ne_of_gt (Nat.lt_of_lt_of_le (blk_lt (g := gq) (o := .cells #[.int .u8 17, .int .i64 ver, .int .u8 code, .int .u32 0, .bool false, .int .u8 0, .int .u8 0, .slice none 0 0, .slice none 0 0] 63 (0, 0)) BK_gq.out) hG.out))
  have NB_gq_gf := Aside0.mk (Ne.symm NB_gf_gq.out)
  have HBo := Aside0.mk HB.out
  have nHB := Aside0.mk (HB.out.trans (hB.mono HB.out.size))
  clear HB
  have HB := nHB
  clear nHB
  clear hc_gh_0 hf_gh_0
  have nBK := Aside0.mk (blk_below (g := gh) (o := .cells #[.slice A_l l.length c_l] 40 (0, 0)) BK_gh.out hB)
  clear BK_gh
  have BK_gh := nBK
  clear nBK
  have hc_gh_0 : w5_.cell? ⟨gh, 0, none⟩ = some (.slice A_l l.length c_l) := (blk_cell BK_gh.out 0).trans rfl
  have hf_gh_0 := blk_frozen BK_gh.out 0
  clear hc_gq_0 hf_gq_0 hc_gq_1 hf_gq_1 hc_gq_2 hf_gq_2 hc_gq_3 hf_gq_3 hc_gq_4 hf_gq_4 hc_gq_5 hf_gq_5 hc_gq_6 hf_gq_6 hc_gq_7 hf_gq_7 hc_gq_8 hf_gq_8
  have nBK := Aside0.mk (blk_below (g := gq) (o := .cells #[.int .u8 17, .int .i64 ver, .int .u8 code, .int .u32 0, .bool false, .int .u8 0, .int .u8 0, .slice none 0 0, .slice none 0 0] 63 (0, 0)) BK_gq.out hB)
  clear BK_gq
  have BK_gq := nBK
  clear nBK
  have hc_gq_0 : w5_.cell? ⟨gq, 0, none⟩ = some (.int .u8 17) := (blk_cell BK_gq.out 0).trans rfl
  have hf_gq_0 := blk_frozen BK_gq.out 0
  have hc_gq_1 : w5_.cell? ⟨gq, 1, none⟩ = some (.int .i64 ver) := (blk_cell BK_gq.out 1).trans rfl
  have hf_gq_1 := blk_frozen BK_gq.out 1
  have hc_gq_2 : w5_.cell? ⟨gq, 2, none⟩ = some (.int .u8 code) := (blk_cell BK_gq.out 2).trans rfl
  have hf_gq_2 := blk_frozen BK_gq.out 2
  have hc_gq_3 : w5_.cell? ⟨gq, 3, none⟩ = some (.int .u32 0) := (blk_cell BK_gq.out 3).trans rfl
  have hf_gq_3 := blk_frozen BK_gq.out 3
  have hc_gq_4 : w5_.cell? ⟨gq, 4, none⟩ = some (.bool false) := (blk_cell BK_gq.out 4).trans rfl
  have hf_gq_4 := blk_frozen BK_gq.out 4
  have hc_gq_5 : w5_.cell? ⟨gq, 5, none⟩ = some (.int .u8 0) := (blk_cell BK_gq.out 5).trans rfl
  have hf_gq_5 := blk_frozen BK_gq.out 5
  have hc_gq_6 : w5_.cell? ⟨gq, 6, none⟩ = some (.int .u8 0) := (blk_cell BK_gq.out 6).trans rfl
  have hf_gq_6 := blk_frozen BK_gq.out 6
  have hc_gq_7 : w5_.cell? ⟨gq, 7, none⟩ = some (.slice none 0 0) := (blk_cell BK_gq.out 7).trans rfl
  have hf_gq_7 := blk_frozen BK_gq.out 7
  have hc_gq_8 : w5_.cell? ⟨gq, 8, none⟩ = some (.slice none 0 0) := (blk_cell BK_gq.out 8).trans rfl
  have hf_gq_8 := blk_frozen BK_gq.out 8
  have nHC := Aside0.mk (Kd.R_below HR_s.out hB)
  clear HR_s
  have HR_s := nHC
  clear nHC
  have BK_gf := Aside0.mk hBN
  have GE_gf := Aside0.mk (Nat.le_trans HBo.out.size hG.out)
  clear HBo hG hBN hB
  have hc_gf_0 : w5_.cell? ⟨gf, 0, none⟩ = some (.bool e0) := (blk_cell BK_gf.out 0).trans rfl
  have hf_gf_0 := blk_frozen BK_gf.out 0
  have hc_gf_1 : w5_.cell? ⟨gf, 1, none⟩ = some (.slice A_s s0.length c_s) := (blk_cell BK_gf.out 1).trans rfl
  have hf_gf_1 := blk_frozen BK_gf.out 1
  clear HR_s
  go_wp2_with (first | (go_at_call 24; with_reducible refine (groups_w XG.out _ _ _ (Kd.C_below HC_l.out HB.out) HK_l.out).mono ?_; rintro e w6_ ⟨v_G, rfl, hR, hB⟩; obtain ⟨A_G, c_G, rfl⟩ := Kd.R_slice hR; have hsz := HB.out.size; have nHB := Aside0.mk (HB.out.trans (hB.mono HB.out.size)); clear HB; have HB := nHB; clear nHB; clear hc_gh_0 hf_gh_0; have nBK := Aside0.mk (blk_below (g := gh) (o := .cells #[.slice A_l l.length c_l] 40 (0, 0)) BK_gh.out hB); clear BK_gh; have BK_gh := nBK; clear nBK; have hc_gh_0 : w6_.cell? ⟨gh, 0, none⟩ = some (.slice A_l l.length c_l) := (blk_cell BK_gh.out 0).trans rfl; have hf_gh_0 := blk_frozen BK_gh.out 0; clear hc_gq_0 hf_gq_0 hc_gq_1 hf_gq_1 hc_gq_2 hf_gq_2 hc_gq_3 hf_gq_3 hc_gq_4 hf_gq_4 hc_gq_5 hf_gq_5 hc_gq_6 hf_gq_6 hc_gq_7 hf_gq_7 hc_gq_8 hf_gq_8; have nBK := Aside0.mk (blk_below (g := gq) (o := .cells #[.int .u8 17, .int .i64 ver, .int .u8 code, .int .u32 0, .bool false, .int .u8 0, .int .u8 0, .slice none 0 0, .slice none 0 0] 63 (0, 0)) BK_gq.out hB); clear BK_gq; have BK_gq := nBK; clear nBK; have hc_gq_0 : w6_.cell? ⟨gq, 0, none⟩ = some (.int .u8 17) := (blk_cell BK_gq.out 0).trans rfl; have hf_gq_0 := blk_frozen BK_gq.out 0; have hc_gq_1 : w6_.cell? ⟨gq, 1, none⟩ = some (.int .i64 ver) := (blk_cell BK_gq.out 1).trans rfl; have hf_gq_1 := blk_frozen BK_gq.out 1; have hc_gq_2 : w6_.cell? ⟨gq, 2, none⟩ = some (.int .u8 code) := (blk_cell BK_gq.out 2).trans rfl; have hf_gq_2 := blk_frozen BK_gq.out 2; have hc_gq_3 : w6_.cell? ⟨gq, 3, none⟩ = some (.int .u32 0) := (blk_cell BK_gq.out 3).trans rfl; have hf_gq_3 := blk_frozen BK_gq.out 3; have hc_gq_4 : w6_.cell? ⟨gq, 4, none⟩ = some (.bool false) := (blk_cell BK_gq.out 4).trans rfl; have hf_gq_4 := blk_frozen BK_gq.out 4; have hc_gq_5 : w6_.cell? ⟨gq, 5, none⟩ = some (.int .u8 0) := (blk_cell BK_gq.out 5).trans rfl; have hf_gq_5 := blk_frozen BK_gq.out 5; have hc_gq_6 : w6_.cell? ⟨gq, 6, none⟩ = some (.int .u8 0) := (blk_cell BK_gq.out 6).trans rfl; have hf_gq_6 := blk_frozen BK_gq.out 6; have hc_gq_7 : w6_.cell? ⟨gq, 7, none⟩ = some (.slice none 0 0) := (blk_cell BK_gq.out 7).trans rfl; have hf_gq_7 := blk_frozen BK_gq.out 7; have hc_gq_8 : w6_.cell? ⟨gq, 8, none⟩ = some (.slice none 0 0) := (blk_cell BK_gq.out 8).trans rfl; have hf_gq_8 := blk_frozen BK_gq.out 8; clear hc_gf_0 hf_gf_0 hc_gf_1 hf_gf_1; have nBK := Aside0.mk (blk_below (g := gf) (o := .cells #[.bool e0, .slice A_s s0.length c_s] 26 (0, 0)) BK_gf.out hB); clear BK_gf; have BK_gf := nBK; clear nBK; have hc_gf_0 : w6_.cell? ⟨gf, 0, none⟩ = some (.bool e0) := (blk_cell BK_gf.out 0).trans rfl; have hf_gf_0 := blk_frozen BK_gf.out 0; have hc_gf_1 : w6_.cell? ⟨gf, 1, none⟩ = some (.slice A_s s0.length c_s) := (blk_cell BK_gf.out 1).trans rfl; have hf_gf_1 := blk_frozen BK_gf.out 1; have HR_G := Aside0.mk (Kd.R_mono (Kd.R_lower hR hsz) (fun _ _ => trivial : ∀ k, _ → (fun _ => True) k)); clear hR hsz; clear hB))
  have HGC := Aside0.mk (Kd.R_reads' HR_G.out)
  have HB9 := Aside0.mk (Below.refl w6_.heap.size w6_)
  have HBW := HB
  clear hc_gh_0 hf_gh_0
  clear hc_gq_0 hf_gq_0 hc_gq_1 hf_gq_1 hc_gq_2 hf_gq_2 hc_gq_3 hf_gq_3 hc_gq_4 hf_gq_4 hc_gq_5 hf_gq_5 hc_gq_6 hf_gq_6 hc_gq_7 hf_gq_7 hc_gq_8 hf_gq_8
  clear hc_gf_0 hf_gf_0 hc_gf_1 hf_gf_1
  have BH := BK_gh
  clear HB BK_gh BK_gq BK_gf HR_G
  go_loopg [5, 25] G.length (fun gk v5 v25 w' => ∃ i : Nat, v25 = .int .i64 (i : Int) ∧ Aside0 (i ≤ G.length ∧ gk = G.length - i) ∧ Aside0 (Kd.N k36 36 w' w6_.heap.size (fun k => w.heap.size ≤ k) v5 ((G.take i).map cur)) ∧ Aside0 (Below w6_.heap.size w6_ w'))
  case atStart => exact ⟨0, rfl, ⟨Nat.zero_le _, by omega⟩, ⟨Kd.N_nil _ _ _ _ _⟩, HB9⟩
  case round =>
    clear HB9
    obtain ⟨i, rfl, HI, HN, HB⟩ := hrel
    obtain ⟨hi, hgk⟩ := HI.out
    by_cases hlt : i < G.length
    · have c26 : decide ((i : Int) < (G.length : Int)) = true := decide_eq_true (by omega)
      have p1 : (0 : Int) ≤ (i : Int) := by omega
      have p2 : (i : Int) < (G.length : Int) := by omega
      have HLT := Aside0.mk (Kd.N_lt HN.out)
      obtain ⟨ad, he, hx⟩ := Kd.at_int (Kd.C_below HGC.out.2.2 HB.out) (i : Int) p1 p2
      subst he
      obtain ⟨g, hg⟩ : ∃ g, g = rd G (i : Int) := ⟨_, rfl⟩
      rw [← hg] at hx
      rw [Int.toNat_natCast] at hx
      have HGI := Aside0.mk (show g = G[i] by rw [hg]; show G.getD ((i : Int).toNat) 0 = _; rw [Int.toNat_natCast, List.getD_eq_getElem?_getD, List.getElem?_eq_getElem hlt]; rfl)
      have HGM := Aside0.mk (show g ∈ G by rw [HGI.out]; exact List.getElem_mem _)
      clear hg
      replace p1 := eq_true p1
      replace p2 := eq_true p2
      have hc_gh_0 : wr.cell? ⟨gh, 0, none⟩ = some (.slice A_l l.length c_l) := (blk_cell (blk_below BH.out HB.out) 0).trans rfl
      have hf_gh_0 := blk_frozen (blk_below BH.out HB.out) 0
      go_wp2_with (first | (go_at_call 43; refine (host_current.calls k A_l c_l l g (cur g).f0 (cur g).f1 (cur g).f2 _ (Kd.C_below HC_l.out (HBW.out.trans (HB.out.mono HBW.out.size))) HK_l.out (XC.out g HGM.out)).mono ?_; rintro e wx ⟨v_c, rfl, hR, hB⟩; have HV := Aside0.mk (Kd.R_V (base' := 0) (Kd.R_bound hR)); have nN := Aside0.mk (Kd.N_below HN.out hB); have nB := Aside0.mk (HB.out.trans (hB.mono HB.out.size)); have HSX := Aside0.mk HB.out.size; clear HN HB hx hc_gh_0 hf_gh_0 hR hB; have HN := nN; have HB := nB; clear nN nB; obtain ⟨A_c, c_c, ec_⟩ := Kd.V_slice HV.out; subst ec_) | ((with_reducible refine gate_builtin (b := .append) (xs := #[.tmp 29, .tmp 33]) rfl ?_); at_builtin; refine Kd.N_append k36 (w0 := w6_) w6_.heap.size rfl (.tmp 29) (.tmp 33) 31 36 (.agg #[.int .u8 0, .int .u32 0, .slice none 0 0]) 32 rfl Try.underlying31 info36_ rfl (by decide) (by decide) u5 ((G.take i).map cur) (cur g) [.int .u8 (cur g).f0, .int .u32 (cur g).f1, .slice A_c (cur g).f2.length c_c] (fun k => w.heap.size ≤ k) (fun k => wr.heap.size ≤ k) rfl rfl (k36_mkF _ _ (cur g) (Kd.V_reads' HV.out).2.1 (Kd.F_mono (Kd.V_F HV.out) (fun k hk => hk.2.1))) (fun k hk => ⟨by have := HBW.out.size; have := HSX.out; omega, fun e => by have h2 := HLT.out k e.symm; omega⟩) (fun k hk => by have := HBW.out.size; have := HB.out.size; omega) HN.out HB.out HB.out.size (by have := XL.out; rw [List.length_map, List.length_take]; omega) ?_; intro v_m wm hN hB _ _; clear HN HB HV; have HN := Aside0.mk hN; have HB := Aside0.mk hB; clear hN hB))
      go_roundg (G.length - (i + 1))
      case measure => omega
      case rel =>
        refine ⟨i + 1, ?_, ⟨by omega, rfl⟩, ⟨?_⟩, HB⟩
        · show Value.int .i64 (wrap64 ((i : Int) + 1)) = _
          have h1 := XL.out
          have h2 : wrap64 ((i : Int) + 1) = ((i + 1 : Nat) : Int) := by unfold wrap64; omega
          rw [h2]
        · have h7 : (G.take (i + 1)).map cur = (G.take i).map cur ++ [cur g] := by rw [← List.take_append_getElem hlt, List.map_append, HGI.out]; rfl
          rw [h7]
          exact HN.out
    · have c26 : decide ((i : Int) < (G.length : Int)) = false := decide_eq_false (by omega)
      have hie : i = G.length := by omega
      have HN2 := Aside0.mk (show Kd.N k36 36 wr w6_.heap.size (fun k => w.heap.size ≤ k) u5 (G.map cur) by have h := HN.out; rw [hie, List.take_length] at h; exact h)
      clear hie hgk
      go_wp2
      go_ret
      exact ⟨_, rfl, Kd.N_V HN2.out, HBW.out.trans (HB.out.mono HBW.out.size)⟩
end Go.Proofs.Ytjncmiclpaodhaa
