/-
  The document's calls, told by the plain laws.
-/
import Derived.Test.YtlaanmkangikbaaIpRd
namespace Go.Proofs.Ytlaanmkangikbaa
open Go.RowKit Go.Proofs.YtlaanmkangikbaaW.PrintWords Go.Proofs.YtlaanmkangikbaaW.PrintLast Go.Proofs.YtlaanmkangikbaaW.PrintMore Go.Proofs.Ytlaanmkangikbaa.PIp
set_option linter.unusedVariables false
theorem refdec_calls {f : List Int} (hb : Byt f) (hl : f.length ≤ 3000) {s d p t i : Int} {al : Bool} {b : List Int} {e0 : Int} (hd : dec f = (s, d, p, t, i, al, b, e0)) (A : Option Addr) (c : Nat) (w : World) (hr : Kd.C (Kd.int .u8) w A f.length f) (hc : f.length ≤ c) :
    Calls Try.prog 14 #[.slice A f.length c] w fun e w' => ∃ v : Value, e = .returned (.tuple #[.agg #[.int .u32 s, .int .u32 d, .int .u8 p, .int .u8 t, .int .u16 i, .bool al], v, .int .i64 e0]) ∧ Kd.R (Kd.int .u8) 5 w' w.heap.size (fun _ => True) v b ∧ Below w.heap.size w w' := by
  by_cases h : (f.length : Int) < 20
  · have e : dec f = W 3 := by unfold dec; rw [if_pos (by omega)]
    rw [e] at hd
    simp only [W, Prod.mk.injEq] at hd
    obtain ⟨rfl, rfl, rfl, rfl, rfl, rfl, rfl, rfl⟩ := hd
    exact rdec_short h rfl A c w hr hc
  · exact rdec_walk hb (by omega) h hd A c w hr hc
/- Passed, walked by hand. -/
set_option maxHeartbeats 8000000 in
set_option maxRecDepth 100000 in
theorem refpass_wrong {f : List Int} (hfb : Byt f) (hfl : f.length ≤ 3000) {e1 : Int} (h1 : e1 ≠ 0) (hd : dec f = (0, 0, 0, 0, 0, false, [], e1)) (A_f : Option Addr) (c_f : Nat) (w : World) (hr : Kd.C (Kd.int .u8) w A_f f.length f) (hc : f.length ≤ c_f) :
    Calls Try.prog 16 #[.slice A_f f.length c_f] w fun e w' => ∃ v : Value, e = .returned (.tuple #[v, .int .i64 e1]) ∧ Kd.R (Kd.int .u8) 5 w' w.heap.size (fun _ => True) v [] ∧ Below w.heap.size w w' := by
  have hu26 := Try.underlying26
  have HB := Aside0.mk (Below.refl w.heap.size w)
  have HC_f := Aside0.mk hr
  have HK_f := Aside0.mk hc
  clear hr hc
  have HFB := Aside0.mk hfb
  have HFL := Aside0.mk hfl
  have HD := Aside0.mk hd
  clear hfb hfl hd
  have c1 : (e1 != 0) = true := bne_iff_ne.2 h1
  go_enter Try.func16, Try.ntmps16
  go_upto_region 2 with (first | (go_at_call 14; with_reducible refine (refdec_calls HFB.out HFL.out HD.out _ _ _ (Kd.C_below HC_f.out HB.out) HK_f.out).mono ?_; rintro e w1_ ⟨v_u, rfl, hR, hB⟩; obtain ⟨A_u, c_u, rfl⟩ := Kd.R_slice hR; have hsz := HB.out.size; have nHB := Aside0.mk (HB.out.trans (hB.mono HB.out.size)); clear HB; have HB := nHB; clear nHB; have HR_u := Aside0.mk (Kd.R_mono (Kd.R_lower hR hsz) (fun _ _ => trivial : ∀ k, _ → (fun _ => True) k)); clear hR hsz; clear hB) | ((with_reducible refine gate_dst (N := 4) rfl ?_); (try (refine gate_guard (by rfl) ?_; dsimp only)); refine box_event ?hg (N := 4) ?hd (cs := #[.int .u32 0, .int .u32 0, .int .u8 0, .int .u8 0, .int .u16 0, .bool false]) (t := 26) ?hr ?_; (case hd => rfl); (case hg => rfl); (case hr => first | (go_simp; done) | (go_simp; rfl)); intro gk hg w2_ hbox hB0; have hG := Aside0.mk (show w1_.heap.size ≤ gk from Nat.le_of_eq hg.symm); clear hg; have hBX := Aside0.mk hbox; have hB1 := Aside0.mk hB0; clear hB0; have hc_gk_0 : w2_.cell? ⟨gk, 0, none⟩ = some (.int .u32 0) := (blk_cell hbox 0).trans rfl; have hf_gk_0 := blk_frozen hbox 0; have hc_gk_1 : w2_.cell? ⟨gk, 1, none⟩ = some (.int .u32 0) := (blk_cell hbox 1).trans rfl; have hf_gk_1 := blk_frozen hbox 1; have hc_gk_2 : w2_.cell? ⟨gk, 2, none⟩ = some (.int .u8 0) := (blk_cell hbox 2).trans rfl; have hf_gk_2 := blk_frozen hbox 2; have hc_gk_3 : w2_.cell? ⟨gk, 3, none⟩ = some (.int .u8 0) := (blk_cell hbox 3).trans rfl; have hf_gk_3 := blk_frozen hbox 3; have hc_gk_4 : w2_.cell? ⟨gk, 4, none⟩ = some (.int .u16 0) := (blk_cell hbox 4).trans rfl; have hf_gk_4 := blk_frozen hbox 4; have hc_gk_5 : w2_.cell? ⟨gk, 5, none⟩ = some (.bool false) := (blk_cell hbox 5).trans rfl; have hf_gk_5 := blk_frozen hbox 5; clear hbox))
  have hB : Below w1_.heap.size w1_ ((((((w2_.setCell ⟨gk, 0, none⟩ (.int .u32 0)).setCell ⟨gk, 1, none⟩ (.int .u32 0)).setCell ⟨gk, 2, none⟩ (.int .u8 0)).setCell ⟨gk, 3, none⟩ (.int .u8 0)).setCell ⟨gk, 4, none⟩ (.int .u16 0)).setCell ⟨gk, 5, none⟩ (.bool false)) := (below_set (below_set (below_set (below_set (below_set (below_set hB1.out hG.out) hG.out) hG.out) hG.out) hG.out) hG.out)
  have hBN : ((((((w2_.setCell ⟨gk, 0, none⟩ (.int .u32 0)).setCell ⟨gk, 1, none⟩ (.int .u32 0)).setCell ⟨gk, 2, none⟩ (.int .u8 0)).setCell ⟨gk, 3, none⟩ (.int .u8 0)).setCell ⟨gk, 4, none⟩ (.int .u16 0)).setCell ⟨gk, 5, none⟩ (.bool false)).heap[gk]? = some (.cells #[.int .u32 0, .int .u32 0, .int .u8 0, .int .u8 0, .int .u16 0, .bool false] 26 (0, 0)) := (blk_put (cs := #[.int .u32 0, .int .u32 0, .int .u8 0, .int .u8 0, .int .u16 0, .bool false]) (blk_put (cs := #[.int .u32 0, .int .u32 0, .int .u8 0, .int .u8 0, .int .u16 0, .bool false]) (blk_put (cs := #[.int .u32 0, .int .u32 0, .int .u8 0, .int .u8 0, .int .u16 0, .bool false]) (blk_put (cs := #[.int .u32 0, .int .u32 0, .int .u8 0, .int .u8 0, .int .u16 0, .bool false]) (blk_put (cs := #[.int .u32 0, .int .u32 0, .int .u8 0, .int .u8 0, .int .u16 0, .bool false]) (blk_put (cs := #[.int .u32 0, .int .u32 0, .int .u8 0, .int .u8 0, .int .u16 0, .bool false]) hBX.out 0 (.int .u32 0) rfl) 1 (.int .u32 0) rfl) 2 (.int .u8 0) rfl) 3 (.int .u8 0) rfl) 4 (.int .u16 0) rfl) 5 (.bool false) rfl)
  clear hBX hB1
  clear hc_gk_0 hf_gk_0 hc_gk_1 hf_gk_1 hc_gk_2 hf_gk_2 hc_gk_3 hf_gk_3 hc_gk_4 hf_gk_4 hc_gk_5 hf_gk_5
  generalize ((((((w2_.setCell ⟨gk, 0, none⟩ (.int .u32 0)).setCell ⟨gk, 1, none⟩ (.int .u32 0)).setCell ⟨gk, 2, none⟩ (.int .u8 0)).setCell ⟨gk, 3, none⟩ (.int .u8 0)).setCell ⟨gk, 4, none⟩ (.int .u16 0)).setCell ⟨gk, 5, none⟩ (.bool false)) = w3_ at hB hBN ⊢
  have HBo := Aside0.mk HB.out
  have nHB := Aside0.mk (HB.out.trans (hB.mono HB.out.size))
  clear HB
  have HB := nHB
  clear nHB
  have nHC := Aside0.mk (Kd.R_below HR_u.out hB)
  clear HR_u
  have HR_u := nHC
  clear nHC
  have BK_gk := Aside0.mk hBN
  have GE_gk := Aside0.mk (Nat.le_trans HBo.out.size hG.out)
  clear HBo hG hBN hB
  obtain ⟨hc_gk_0, hf_gk_0, hc_gk_1, hf_gk_1, hc_gk_2, hf_gk_2, hc_gk_3, hf_gk_3, hc_gk_4, hf_gk_4, hc_gk_5, hf_gk_5⟩ := six BK_gk.out
  go_wp2
  go_ret2
  exact ⟨_, rfl, Kd.R_nil _ _ _ _ _, HB.out⟩
set_option maxHeartbeats 8000000 in
set_option maxRecDepth 100000 in
theorem refpass_few {f : List Int} (hfb : Byt f) (hfl : f.length ≤ 3000) {s d p t i : Int} {al : Bool} {b : List Int} (ht : t < 2) (hd : dec f = (s, d, p, t, i, al, b, 0)) (A_f : Option Addr) (c_f : Nat) (w : World) (hr : Kd.C (Kd.int .u8) w A_f f.length f) (hc : f.length ≤ c_f) :
    Calls Try.prog 16 #[.slice A_f f.length c_f] w fun e w' => ∃ v : Value, e = .returned (.tuple #[v, .int .i64 6]) ∧ Kd.R (Kd.int .u8) 5 w' w.heap.size (fun _ => True) v [] ∧ Below w.heap.size w w' := by
  have hu26 := Try.underlying26
  have HB := Aside0.mk (Below.refl w.heap.size w)
  have HC_f := Aside0.mk hr
  have HK_f := Aside0.mk hc
  clear hr hc
  have HFB := Aside0.mk hfb
  have HFL := Aside0.mk hfl
  have HD := Aside0.mk hd
  clear hfb hfl hd
  have c1 : decide (t < 2) = true := decide_eq_true ht
  go_enter Try.func16, Try.ntmps16
  go_upto_region 2 with (first | (go_at_call 14; with_reducible refine (refdec_calls HFB.out HFL.out HD.out _ _ _ (Kd.C_below HC_f.out HB.out) HK_f.out).mono ?_; rintro e w1_ ⟨v_u, rfl, hR, hB⟩; obtain ⟨A_u, c_u, rfl⟩ := Kd.R_slice hR; have hsz := HB.out.size; have nHB := Aside0.mk (HB.out.trans (hB.mono HB.out.size)); clear HB; have HB := nHB; clear nHB; have HR_u := Aside0.mk (Kd.R_mono (Kd.R_lower hR hsz) (fun _ _ => trivial : ∀ k, _ → (fun _ => True) k)); clear hR hsz; clear hB) | ((with_reducible refine gate_dst (N := 4) rfl ?_); (try (refine gate_guard (by rfl) ?_; dsimp only)); refine box_event ?hg (N := 4) ?hd (cs := #[.int .u32 0, .int .u32 0, .int .u8 0, .int .u8 0, .int .u16 0, .bool false]) (t := 26) ?hr ?_; (case hd => rfl); (case hg => rfl); (case hr => first | (go_simp; done) | (go_simp; rfl)); intro gk hg w2_ hbox hB0; have hG := Aside0.mk (show w1_.heap.size ≤ gk from Nat.le_of_eq hg.symm); clear hg; have hBX := Aside0.mk hbox; have hB1 := Aside0.mk hB0; clear hB0; have hc_gk_0 : w2_.cell? ⟨gk, 0, none⟩ = some (.int .u32 0) := (blk_cell hbox 0).trans rfl; have hf_gk_0 := blk_frozen hbox 0; have hc_gk_1 : w2_.cell? ⟨gk, 1, none⟩ = some (.int .u32 0) := (blk_cell hbox 1).trans rfl; have hf_gk_1 := blk_frozen hbox 1; have hc_gk_2 : w2_.cell? ⟨gk, 2, none⟩ = some (.int .u8 0) := (blk_cell hbox 2).trans rfl; have hf_gk_2 := blk_frozen hbox 2; have hc_gk_3 : w2_.cell? ⟨gk, 3, none⟩ = some (.int .u8 0) := (blk_cell hbox 3).trans rfl; have hf_gk_3 := blk_frozen hbox 3; have hc_gk_4 : w2_.cell? ⟨gk, 4, none⟩ = some (.int .u16 0) := (blk_cell hbox 4).trans rfl; have hf_gk_4 := blk_frozen hbox 4; have hc_gk_5 : w2_.cell? ⟨gk, 5, none⟩ = some (.bool false) := (blk_cell hbox 5).trans rfl; have hf_gk_5 := blk_frozen hbox 5; clear hbox))
  have hB : Below w1_.heap.size w1_ ((((((w2_.setCell ⟨gk, 0, none⟩ (.int .u32 s)).setCell ⟨gk, 1, none⟩ (.int .u32 d)).setCell ⟨gk, 2, none⟩ (.int .u8 p)).setCell ⟨gk, 3, none⟩ (.int .u8 t)).setCell ⟨gk, 4, none⟩ (.int .u16 i)).setCell ⟨gk, 5, none⟩ (.bool al)) := (below_set (below_set (below_set (below_set (below_set (below_set hB1.out hG.out) hG.out) hG.out) hG.out) hG.out) hG.out)
  have hBN : ((((((w2_.setCell ⟨gk, 0, none⟩ (.int .u32 s)).setCell ⟨gk, 1, none⟩ (.int .u32 d)).setCell ⟨gk, 2, none⟩ (.int .u8 p)).setCell ⟨gk, 3, none⟩ (.int .u8 t)).setCell ⟨gk, 4, none⟩ (.int .u16 i)).setCell ⟨gk, 5, none⟩ (.bool al)).heap[gk]? = some (.cells #[.int .u32 s, .int .u32 d, .int .u8 p, .int .u8 t, .int .u16 i, .bool al] 26 (0, 0)) := (blk_put (cs := #[.int .u32 s, .int .u32 d, .int .u8 p, .int .u8 t, .int .u16 i, .bool false]) (blk_put (cs := #[.int .u32 s, .int .u32 d, .int .u8 p, .int .u8 t, .int .u16 0, .bool false]) (blk_put (cs := #[.int .u32 s, .int .u32 d, .int .u8 p, .int .u8 0, .int .u16 0, .bool false]) (blk_put (cs := #[.int .u32 s, .int .u32 d, .int .u8 0, .int .u8 0, .int .u16 0, .bool false]) (blk_put (cs := #[.int .u32 s, .int .u32 0, .int .u8 0, .int .u8 0, .int .u16 0, .bool false]) (blk_put (cs := #[.int .u32 0, .int .u32 0, .int .u8 0, .int .u8 0, .int .u16 0, .bool false]) hBX.out 0 (.int .u32 s) rfl) 1 (.int .u32 d) rfl) 2 (.int .u8 p) rfl) 3 (.int .u8 t) rfl) 4 (.int .u16 i) rfl) 5 (.bool al) rfl)
  clear hBX hB1
  clear hc_gk_0 hf_gk_0 hc_gk_1 hf_gk_1 hc_gk_2 hf_gk_2 hc_gk_3 hf_gk_3 hc_gk_4 hf_gk_4 hc_gk_5 hf_gk_5
  generalize ((((((w2_.setCell ⟨gk, 0, none⟩ (.int .u32 s)).setCell ⟨gk, 1, none⟩ (.int .u32 d)).setCell ⟨gk, 2, none⟩ (.int .u8 p)).setCell ⟨gk, 3, none⟩ (.int .u8 t)).setCell ⟨gk, 4, none⟩ (.int .u16 i)).setCell ⟨gk, 5, none⟩ (.bool al)) = w3_ at hB hBN ⊢
  have HBo := Aside0.mk HB.out
  have nHB := Aside0.mk (HB.out.trans (hB.mono HB.out.size))
  clear HB
  have HB := nHB
  clear nHB
  have nHC := Aside0.mk (Kd.R_below HR_u.out hB)
  clear HR_u
  have HR_u := nHC
  clear nHC
  have BK_gk := Aside0.mk hBN
  have GE_gk := Aside0.mk (Nat.le_trans HBo.out.size hG.out)
  clear HBo hG hBN hB
  obtain ⟨hc_gk_0, hf_gk_0, hc_gk_1, hf_gk_1, hc_gk_2, hf_gk_2, hc_gk_3, hf_gk_3, hc_gk_4, hf_gk_4, hc_gk_5, hf_gk_5⟩ := six BK_gk.out
  go_wp2
  go_ret2
  exact ⟨_, rfl, Kd.R_nil _ _ _ _ _, HB.out⟩
set_option maxHeartbeats 8000000 in
set_option maxRecDepth 100000 in
theorem refpass_main {f : List Int} (hfb : Byt f) (hfl : f.length ≤ 3000) {s d p t i : Int} {al : Bool} {b : List Int} (ht : ¬ t < 2) (ht2 : t < 256) (hok : HOk s d p (t - 1) i) (hbl : b.length ≤ 1000000) {x : List Int} {e0 : Int} (hx : enc s d p (t - 1) i al b = (x, e0)) (hd : dec f = (s, d, p, t, i, al, b, 0)) (A_f : Option Addr) (c_f : Nat) (w : World) (hr : Kd.C (Kd.int .u8) w A_f f.length f) (hc : f.length ≤ c_f) :
    Calls Try.prog 16 #[.slice A_f f.length c_f] w fun e w' => ∃ v : Value, e = .returned (.tuple #[v, .int .i64 e0]) ∧ Kd.R (Kd.int .u8) 5 w' w.heap.size (fun _ => True) v x ∧ Below w.heap.size w w' := by
  have hu26 := Try.underlying26
  have HB := Aside0.mk (Below.refl w.heap.size w)
  have HC_f := Aside0.mk hr
  have HK_f := Aside0.mk hc
  clear hr hc
  have HFB := Aside0.mk hfb
  have HFL := Aside0.mk hfl
  have HD := Aside0.mk hd
  have HOK := Aside0.mk hok
  have HBL := Aside0.mk hbl
  have HX := Aside0.mk hx
  clear hfb hfl hd hok hbl hx
  have c1 : decide (t < 2) = false := decide_eq_false ht
  have HT1 := Aside0.mk (show (t - 1) % 256 = t - 1 by omega)
  go_enter Try.func16, Try.ntmps16
  go_upto_region 2 with (first | (go_at_call 14; with_reducible refine (refdec_calls HFB.out HFL.out HD.out _ _ _ (Kd.C_below HC_f.out HB.out) HK_f.out).mono ?_; rintro e w1_ ⟨v_u, rfl, hR, hB⟩; obtain ⟨A_u, c_u, rfl⟩ := Kd.R_slice hR; have hsz := HB.out.size; have nHB := Aside0.mk (HB.out.trans (hB.mono HB.out.size)); clear HB; have HB := nHB; clear nHB; have HR_u := Aside0.mk (Kd.R_mono (Kd.R_lower hR hsz) (fun _ _ => trivial : ∀ k, _ → (fun _ => True) k)); clear hR hsz; clear hB) | ((with_reducible refine gate_dst (N := 4) rfl ?_); (try (refine gate_guard (by rfl) ?_; dsimp only)); refine box_event ?hg (N := 4) ?hd (cs := #[.int .u32 0, .int .u32 0, .int .u8 0, .int .u8 0, .int .u16 0, .bool false]) (t := 26) ?hr ?_; (case hd => rfl); (case hg => rfl); (case hr => first | (go_simp; done) | (go_simp; rfl)); intro gk hg w2_ hbox hB0; have hG := Aside0.mk (show w1_.heap.size ≤ gk from Nat.le_of_eq hg.symm); clear hg; have hBX := Aside0.mk hbox; have hB1 := Aside0.mk hB0; clear hB0; have hc_gk_0 : w2_.cell? ⟨gk, 0, none⟩ = some (.int .u32 0) := (blk_cell hbox 0).trans rfl; have hf_gk_0 := blk_frozen hbox 0; have hc_gk_1 : w2_.cell? ⟨gk, 1, none⟩ = some (.int .u32 0) := (blk_cell hbox 1).trans rfl; have hf_gk_1 := blk_frozen hbox 1; have hc_gk_2 : w2_.cell? ⟨gk, 2, none⟩ = some (.int .u8 0) := (blk_cell hbox 2).trans rfl; have hf_gk_2 := blk_frozen hbox 2; have hc_gk_3 : w2_.cell? ⟨gk, 3, none⟩ = some (.int .u8 0) := (blk_cell hbox 3).trans rfl; have hf_gk_3 := blk_frozen hbox 3; have hc_gk_4 : w2_.cell? ⟨gk, 4, none⟩ = some (.int .u16 0) := (blk_cell hbox 4).trans rfl; have hf_gk_4 := blk_frozen hbox 4; have hc_gk_5 : w2_.cell? ⟨gk, 5, none⟩ = some (.bool false) := (blk_cell hbox 5).trans rfl; have hf_gk_5 := blk_frozen hbox 5; clear hbox))
  have hB : Below w1_.heap.size w1_ ((((((w2_.setCell ⟨gk, 0, none⟩ (.int .u32 s)).setCell ⟨gk, 1, none⟩ (.int .u32 d)).setCell ⟨gk, 2, none⟩ (.int .u8 p)).setCell ⟨gk, 3, none⟩ (.int .u8 t)).setCell ⟨gk, 4, none⟩ (.int .u16 i)).setCell ⟨gk, 5, none⟩ (.bool al)) := (below_set (below_set (below_set (below_set (below_set (below_set hB1.out hG.out) hG.out) hG.out) hG.out) hG.out) hG.out)
  have hBN : ((((((w2_.setCell ⟨gk, 0, none⟩ (.int .u32 s)).setCell ⟨gk, 1, none⟩ (.int .u32 d)).setCell ⟨gk, 2, none⟩ (.int .u8 p)).setCell ⟨gk, 3, none⟩ (.int .u8 t)).setCell ⟨gk, 4, none⟩ (.int .u16 i)).setCell ⟨gk, 5, none⟩ (.bool al)).heap[gk]? = some (.cells #[.int .u32 s, .int .u32 d, .int .u8 p, .int .u8 t, .int .u16 i, .bool al] 26 (0, 0)) := (blk_put (cs := #[.int .u32 s, .int .u32 d, .int .u8 p, .int .u8 t, .int .u16 i, .bool false]) (blk_put (cs := #[.int .u32 s, .int .u32 d, .int .u8 p, .int .u8 t, .int .u16 0, .bool false]) (blk_put (cs := #[.int .u32 s, .int .u32 d, .int .u8 p, .int .u8 0, .int .u16 0, .bool false]) (blk_put (cs := #[.int .u32 s, .int .u32 d, .int .u8 0, .int .u8 0, .int .u16 0, .bool false]) (blk_put (cs := #[.int .u32 s, .int .u32 0, .int .u8 0, .int .u8 0, .int .u16 0, .bool false]) (blk_put (cs := #[.int .u32 0, .int .u32 0, .int .u8 0, .int .u8 0, .int .u16 0, .bool false]) hBX.out 0 (.int .u32 s) rfl) 1 (.int .u32 d) rfl) 2 (.int .u8 p) rfl) 3 (.int .u8 t) rfl) 4 (.int .u16 i) rfl) 5 (.bool al) rfl)
  clear hBX hB1
  clear hc_gk_0 hf_gk_0 hc_gk_1 hf_gk_1 hc_gk_2 hf_gk_2 hc_gk_3 hf_gk_3 hc_gk_4 hf_gk_4 hc_gk_5 hf_gk_5
  generalize ((((((w2_.setCell ⟨gk, 0, none⟩ (.int .u32 s)).setCell ⟨gk, 1, none⟩ (.int .u32 d)).setCell ⟨gk, 2, none⟩ (.int .u8 p)).setCell ⟨gk, 3, none⟩ (.int .u8 t)).setCell ⟨gk, 4, none⟩ (.int .u16 i)).setCell ⟨gk, 5, none⟩ (.bool al)) = w3_ at hB hBN ⊢
  have HBo := Aside0.mk HB.out
  have nHB := Aside0.mk (HB.out.trans (hB.mono HB.out.size))
  clear HB
  have HB := nHB
  clear nHB
  have nHC := Aside0.mk (Kd.R_below HR_u.out hB)
  clear HR_u
  have HR_u := nHC
  clear nHC
  have BK_gk := Aside0.mk hBN
  have GE_gk := Aside0.mk (Nat.le_trans HBo.out.size hG.out)
  clear HBo hG hBN hB
  obtain ⟨hc_gk_0, hf_gk_0, hc_gk_1, hf_gk_1, hc_gk_2, hf_gk_2, hc_gk_3, hf_gk_3, hc_gk_4, hf_gk_4, hc_gk_5, hf_gk_5⟩ := six BK_gk.out
  go_upto_region 7 with fail
  have nHB : Aside0 (Below w.heap.size w (w3_.setCell ⟨gk, 3, none⟩ (.int .u8 (t - 1)))) := ⟨below_set HB.out GE_gk.out⟩
  have nBK : Aside0 ((w3_.setCell ⟨gk, 3, none⟩ (.int .u8 (t - 1))).heap[gk]? = some (.cells #[.int .u32 s, .int .u32 d, .int .u8 p, .int .u8 (t - 1), .int .u16 i, .bool al] 26 (0, 0))) := ⟨blk_put (cs := #[.int .u32 s, .int .u32 d, .int .u8 p, .int .u8 t, .int .u16 i, .bool al]) BK_gk.out 3 (.int .u8 (t - 1)) rfl⟩
  have nR_u := Aside0.mk (Kd.R_mono (Kd.R_far (p := ⟨gk, 3, none⟩) (Kd.R_types HR_u.out BK_gk.out (by decide)) (fun _ hk => hk.2) (.int .u8 (t - 1))) (fun _ _ => trivial : ∀ k, _ → (fun _ => True) k))
  clear hc_gk_0 hf_gk_0 hc_gk_1 hf_gk_1 hc_gk_2 hf_gk_2 hc_gk_3 hf_gk_3 hc_gk_4 hf_gk_4 hc_gk_5 hf_gk_5
  clear BK_gk
  clear HR_u
  clear HB
  generalize (w3_.setCell ⟨gk, 3, none⟩ (.int .u8 (t - 1))) = w4_ at nHB nBK nR_u ⊢
  have HB := nHB
  have BK_gk := nBK
  have HR_u := nR_u
  clear nHB nBK nR_u
  obtain ⟨hc_gk_0, hf_gk_0, hc_gk_1, hf_gk_1, hc_gk_2, hf_gk_2, hc_gk_3, hf_gk_3, hc_gk_4, hf_gk_4, hc_gk_5, hf_gk_5⟩ := six BK_gk.out
  have ht1 := HT1.out
  go_wp2_with (first | (go_at_call 13; with_reducible refine (refenc_calls HOK.out HBL.out HX.out _ _ _ (Kd.R_reads' HR_u.out).2.2 (Kd.R_reads' HR_u.out).2.1).mono ?_; rintro e w5_ ⟨v_x, rfl, hR, hB⟩; obtain ⟨A_x, c_x, rfl⟩ := Kd.R_slice hR; have hsz := HB.out.size; have nHB := Aside0.mk (HB.out.trans (hB.mono HB.out.size)); clear HB; have HB := nHB; clear nHB; clear hc_gk_0 hf_gk_0 hc_gk_1 hf_gk_1 hc_gk_2 hf_gk_2 hc_gk_3 hf_gk_3 hc_gk_4 hf_gk_4 hc_gk_5 hf_gk_5; have nBK := Aside0.mk (blk_below (g := gk) (o := .cells #[.int .u32 s, .int .u32 d, .int .u8 p, .int .u8 (t - 1), .int .u16 i, .bool al] 26 (0, 0)) BK_gk.out hB); clear BK_gk; have BK_gk := nBK; clear nBK; obtain ⟨hc_gk_0, hf_gk_0, hc_gk_1, hf_gk_1, hc_gk_2, hf_gk_2, hc_gk_3, hf_gk_3, hc_gk_4, hf_gk_4, hc_gk_5, hf_gk_5⟩ := six BK_gk.out; have nHC := Aside0.mk (Kd.R_below HR_u.out hB); clear HR_u; have HR_u := nHC; clear nHC; have HR_x := Aside0.mk (Kd.R_mono (Kd.R_lower hR hsz) (fun _ _ => trivial : ∀ k, _ → (fun _ => True) k)); clear hR hsz; clear hB))
  go_ret2
  exact ⟨_, rfl, HR_x.out, HB.out⟩
theorem refpass_calls {f : List Int} (hb : Byt f) (hl : f.length ≤ 3000) {x : List Int} {e0 : Int} (hp : pass f = (x, e0)) (A : Option Addr) (c : Nat) (w : World) (hr : Kd.C (Kd.int .u8) w A f.length f) (hc : f.length ≤ c) :
    Calls Try.prog 16 #[.slice A f.length c] w fun e w' => ∃ v : Value, e = .returned (.tuple #[v, .int .i64 e0]) ∧ Kd.R (Kd.int .u8) 5 w' w.heap.size (fun _ => True) v x ∧ Below w.heap.size w w' := by
  unfold pass at hp
  by_cases c1 : (dec f).2.2.2.2.2.2.2 = 0
  · obtain ⟨e, _, _, h20, _⟩ := dec_right c1
    have ho := fields_ok hb
    rw [if_pos c1] at hp
    have hr8 := hb.rd 8
    by_cases c2 : (dec f).2.2.2.1 < 2
    · rw [if_pos c2] at hp
      injection hp with h1 h2
      subst h1 h2
      exact refpass_few hb hl c2 (by rw [← c1]) A c w hr hc
    · rw [if_neg c2] at hp
      have e4 : (dec f).2.2.2.1 = rd f 8 := by rw [e]
      refine refpass_main hb hl (s := (dec f).1) (d := (dec f).2.1) (p := (dec f).2.2.1) (t := (dec f).2.2.2.1) (i := (dec f).2.2.2.2.1) (al := (dec f).2.2.2.2.2.1) (b := (dec f).2.2.2.2.2.2.1) c2 (by omega) ?_ ?_ hp (by rw [← c1]) A c w hr hc
      · rw [e4] at c2 ⊢
        rw [e]
        exact ⟨ho.1, ho.2.1, ho.2.2.1, by omega, ho.2.2.2.2⟩
      · rw [e]
        simp only [List.length_drop, List.length_take]
        omega
  · rw [if_neg c1] at hp
    injection hp with h1 h2
    subst h1 h2
    exact refpass_wrong hb hl c1 (dec_wrong f c1) A c w hr hc
end Go.Proofs.Ytlaanmkangikbaa
