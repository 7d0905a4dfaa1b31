/-
  MembAsks, walked.
-/
import Derived.Test.YtbllchfgjginoaaMeRf
import Derived.Test.YtbllchfgjginoaaMeV
namespace Go.Proofs.Ytbllchfgjginoaa
open Go.RowKit Go.Lib Go.Proofs.YtbllchfgjginoaaW.PrintWords Go.Proofs.YtbllchfgjginoaaW.PrintLast Go.Proofs.YtbllchfgjginoaaW.PrintMore Go.Proofs.Ytbllchfgjginoaa.PMe
set_option linter.unusedVariables false
set_option linter.unusedSimpArgs false
def mq_T14 : Bool × List (List Nat × List Nat) := (true, [([], []), ([], []), ([0, 1], [0, 1]), ([2], [2]), ([3], [3]), ([], []), ([5], [5]), ([4, 6], [4, 6]), ([7], [7]), ([8], [8]), ([8], [8]), ([9, 10, 8], [8, 9, 10]), ([11, 8], [8, 11]), ([12, 8], [8, 12]), ([13, 8, 8], [8, 13]), ([14, 8], [8, 14]), ([8, 15], [8, 15])])
def mq_B14 : List Nat := [0, 0, 3, 7, 15, 0, 32, 127, 255, 511, 511, 2047, 4095, 8191, 16383, 32767, 65535]
theorem mq_t14 : rtab .any (opsOf Try.f4 14) = mq_T14 := by kernel_rfl
theorem mq_b14 : waitsOk mq_T14.2 mq_B14 = true := by kernel_rfl
def mq_T23 : Bool × List (List Nat × List Nat) := (true, [([], []), ([0], [0]), ([1], [1]), ([2, 1], [1, 2]), ([1], [1]), ([3, 4, 1], [1, 3, 4]), ([5, 1], [1, 5]), ([6, 1], [1, 6]), ([1], [1]), ([1], [1]), ([8, 9, 1], [1, 8, 9]), ([10, 1], [1, 10]), ([11, 1], [1, 11]), ([1], [1]), ([12, 13, 1], [1, 12, 13]), ([14, 1], [1, 14]), ([7, 15, 1], [1, 7, 15]), ([16, 1, 1], [1, 16]), ([17], [17]), ([18, 17], [17, 18]), ([17], [17]), ([19, 20, 17], [17, 19, 20]), ([21, 17], [17, 21]), ([22, 17], [17, 22]), ([17], [17]), ([24, 17], [17, 24]), ([23, 25, 17], [17, 23, 25]), ([17, 26, 1], [1, 17, 26]), ([1, 27], [1, 27]), ([28, 17, 0, 1, 2, 3, 4, 5, 6, 7, 8, 9, 10, 11, 12, 13, 14, 15, 16, 17, 18, 19, 20, 21, 22, 23, 24, 25, 26, 27, 28], [0, 28])])
def mq_B23 : List Nat := [0, 1, 3, 7, 3, 31, 63, 127, 3, 3, 771, 1795, 3843, 3, 16131, 32515, 65535, 131071, 262143, 524287, 262143, 2097151, 4194303, 8388607, 262143, 17039359, 67108863, 134217727, 268435455, 536870911]
theorem mq_t23 : rtab .any (opsOf Try.f4 23) = mq_T23 := by kernel_rfl
theorem mq_b23 : waitsOk mq_T23.2 mq_B23 = true := by kernel_rfl
theorem mvc {w w1 : World} {p : Addr} {v : Value} (h : w.cell? p = some v) (hB : Below w.heap.size w w1) : w1.cell? p = some v := (hB.cell (World.block_lt_of_cell? w p h)).trans h
theorem right6_loop (l : List Int) (hl : l.length ≤ 9223372036854775807) (hr : Rise l) : ∀ n k (i : Nat), l.length ≤ i + n → n < k → 1 ≤ i → stolonref06_Right.l0 k l i = some true := by
  intro n
  induction n with
  | zero =>
    intro k i h1 h2 h3
    obtain ⟨k, rfl⟩ : ∃ k', k = k' + 1 := ⟨k - 1, by omega⟩
    rw [stolonref06_Right.l0, if_neg (by omega)]
  | succ n ih =>
    intro k i h1 h2 h3
    obtain ⟨k, rfl⟩ : ∃ k', k = k' + 1 := ⟨k - 1, by omega⟩
    by_cases h4 : i < l.length
    · have e1 : wrap64 ((i : Int) - 1) = ((i - 1 : Nat) : Int) := by unfold wrap64; omega
      have e2 : wrap64 ((i : Int) + 1) = ((i + 1 : Nat) : Int) := by unfold wrap64; omega
      rw [stolonref06_Right.l0, if_pos (by omega), e1, if_pos (by omega), if_pos (by omega), if_pos (by omega), rdI l i h4, rdI l (i - 1) (by omega), if_neg ?_, e2]
      · exact ih k (i + 1) (by omega) (by omega) (by omega)
      · have := (List.pairwise_iff_getElem.1 hr) (i - 1) i (by omega) h4 (by omega)
        omega
    · rw [stolonref06_Right.l0, if_neg (by omega)]
theorem right6_w {l : List Int} (hr : Rise l) (A : Option Addr) (c : Nat) (w : World) (hC : Kd.C (Kd.int .u32) w A l.length l) (hc : l.length ≤ c) :
    Calls Try.prog 16 #[.slice A l.length c] w fun e w' => e = .returned (.bool true) ∧ Below w.heap.size w w' :=
  (stolonref06_Right.calls (l.length + 1) A c l true w hC hc (right6_loop l (Kd.C_max hC) hr l.length _ 1 (by omega) (by omega) (by omega))).mono fun e w' h => ⟨h.1, by obtain ⟨⟨n, rfl⟩⟩ := h.2; exact pw_below_drewN (Below.refl _ _) n⟩
theorem hear_q {t : S23} {g lf g' lf' : Int} {ex ex' : Bool} {sr sr' : List S49} {kind : Int} {l : List Int} {asks : List S46} {err : Int} {n : Nat} (hx : MOk ⟨g, ex, lf, sr⟩) (hm : l.length ≤ 1000) (h : hearR t ⟨g, ex, lf, sr⟩ kind l = (⟨g', ex', lf', sr'⟩, asks, err)) (h2 : asks.length = n) (A : Option Addr) (c : Nat) (B : Option Addr) (d : Nat) (w : World) (hr : Kd.C k49 w A sr.length sr) (hc : sr.length ≤ c) (hl : Kd.C (Kd.int .u32) w B l.length l) (hd : l.length ≤ d) :
    Calls Try.prog 12 #[.agg #[.int .i64 t.f0, .int .i64 t.f1], .agg #[.int .u32 g, .bool ex, .int .i64 lf, .slice A sr.length c], .int .u8 kind, .slice B l.length d] w fun e w' => ∃ A0 c0 A1 c1, e = .returned (.tuple #[.agg #[.int .u32 g', .bool ex', .int .i64 lf', .slice A0 sr'.length c0], .slice A1 n c1, .int .i64 err]) ∧ (Kd.C k49 w' A0 sr'.length sr' ∧ sr'.length ≤ c0) ∧ (Kd.C k46 w' A1 asks.length asks ∧ asks.length ≤ c1) ∧ Below w.heap.size w w' := by
  subst h2
  have hw := hear_w t ⟨g, ex, lf, sr⟩ kind l hx.sort (by have := hx.len; omega) hm A c B d w hr hc hl hd (fun k => k < w.heap.size) (fun _ h => h) (Kd.C_F k49_heap hr)
  rw [h] at hw
  refine hw.mono fun e w' hp => ?_
  obtain ⟨v0, v1, rfl, h0, h1, hB⟩ := hp
  obtain ⟨A0, c0, rfl⟩ := Kd.V_slice h0
  obtain ⟨A1, c1, rfl⟩ := Kd.V_slice h1
  exact ⟨A0, c0, A1, c1, rfl, ⟨(Kd.V_reads' h0).2.2, (Kd.V_reads' h0).2.1⟩, ⟨(Kd.V_reads' h1).2.2, (Kd.V_reads' h1).2.1⟩, hB⟩
def fnd (last s : Int) (xs : List S49) (j : Nat) : Bool := (xs.take j).any fun y => decide (y.f0 = s) && decide (y.f1 ≤ last)
theorem fnd_succ (last s : Int) {xs : List S49} {j : Nat} (h : j < xs.length) : fnd last s xs (j + 1) = (fnd last s xs j || (decide ((rd_T49 xs j).f0 = s) && decide ((rd_T49 xs j).f1 ≤ last))) := by
  unfold fnd
  rw [rd49 xs j h, ← List.take_append_getElem h, List.any_append]
  simp
theorem fnd_all (last s : Int) {xs : List S49} (h : ∃ n, (⟨s, n⟩ : S49) ∈ xs ∧ n ≤ last) : fnd last s xs xs.length = true := by
  obtain ⟨n, h1, h2⟩ := h
  unfold fnd
  rw [List.take_length, List.any_eq_true]
  exact ⟨_, h1, by simp [h2]⟩
set_option maxHeartbeats 8000000 in
set_option maxRecDepth 100000 in
theorem membAsks_flat {t : S23} {g lf kind : Int} {ex : Bool} {sr : List S49} {l : List Int} (A_x : Option Addr) (c_x : Nat) (A_l : Option Addr) (c_l : Nat) (w : World) (hr : Kd.C k49 w A_x sr.length sr) (hc : sr.length ≤ c_x) (hs : Kd.C (Kd.int .u32) w A_l l.length l) (hcs : l.length ≤ c_l) :
    Calls Try.prog 4 #[.agg #[.int .i64 t.f0, .int .i64 t.f1, .int .u32 g, .bool ex, .int .i64 lf, .slice A_x sr.length c_x, .int .u8 kind, .slice A_l l.length c_l]] w (fun e w' => e = .returned (.bool true) ∧ Below w.heap.size w w') := by
  have hu23 := Try.underlying23
  have hu28 := Try.underlying28
  have hu44 := Try.underlying44
  have hu46 := Try.underlying46
  have hu49 := Try.underlying49
  have HB := Aside0.mk (Below.refl w.heap.size w)
  have HC_x := Aside0.mk hr
  have HK_x := Aside0.mk hc
  have HC_l := Aside0.mk hs
  have HK_l := Aside0.mk hcs
  clear hr hc hs hcs
  go_enter Try.func4, Try.ntmps4
  go_upto_region 2 with (first | ((with_reducible refine gate_dst (N := 1) rfl ?_); (try (refine gate_guard (by rfl) ?_; dsimp only)); refine box_event ?hg (N := 1) ?hd (cs := #[.int .i64 t.f0, .int .i64 t.f1, .int .u32 g, .bool ex, .int .i64 lf, .slice A_x sr.length c_x, .int .u8 kind, .slice A_l l.length c_l]) (t := 44) ?hr ?_; (case hd => rfl); (case hg => rfl); (case hr => first | (go_simp; done) | (go_simp; rfl)); intro gp hg w1_ hbox hB; replace HB := mvH HB hB; have BK_gp := Aside0.mk hbox; clear hg hbox hB; have hc_gp_0 : w1_.cell? ⟨gp, 0, none⟩ = some (.int .i64 t.f0) := (blk_cell BK_gp.out 0).trans rfl; have hf_gp_0 := blk_frozen BK_gp.out 0; have hc_gp_1 : w1_.cell? ⟨gp, 1, none⟩ = some (.int .i64 t.f1) := (blk_cell BK_gp.out 1).trans rfl; have hf_gp_1 := blk_frozen BK_gp.out 1; have hc_gp_2 : w1_.cell? ⟨gp, 2, none⟩ = some (.int .u32 g) := (blk_cell BK_gp.out 2).trans rfl; have hf_gp_2 := blk_frozen BK_gp.out 2; have hc_gp_3 : w1_.cell? ⟨gp, 3, none⟩ = some (.bool ex) := (blk_cell BK_gp.out 3).trans rfl; have hf_gp_3 := blk_frozen BK_gp.out 3; have hc_gp_4 : w1_.cell? ⟨gp, 4, none⟩ = some (.int .i64 lf) := (blk_cell BK_gp.out 4).trans rfl; have hf_gp_4 := blk_frozen BK_gp.out 4; have hc_gp_5 : w1_.cell? ⟨gp, 5, none⟩ = some (.slice A_x sr.length c_x) := (blk_cell BK_gp.out 5).trans rfl; have hf_gp_5 := blk_frozen BK_gp.out 5; have hc_gp_6 : w1_.cell? ⟨gp, 6, none⟩ = some (.int .u8 kind) := (blk_cell BK_gp.out 6).trans rfl; have hf_gp_6 := blk_frozen BK_gp.out 6; have hc_gp_7 : w1_.cell? ⟨gp, 7, none⟩ = some (.slice A_l l.length c_l) := (blk_cell BK_gp.out 7).trans rfl; have hf_gp_7 := blk_frozen BK_gp.out 7) | ((with_reducible refine gate_dst (N := 3) rfl ?_); (try (refine gate_guard (by rfl) ?_; dsimp only)); refine box_event ?hg (N := 3) ?hd (cs := #[.int .i64 0, .int .i64 0]) (t := 23) ?hr ?_; (case hd => rfl); (case hg => rfl); (case hr => first | (go_simp; done) | (go_simp; rfl)); intro gt hg w2_ hbox hB0; have hG := Aside0.mk (show w1_.heap.size ≤ gt from Nat.le_of_eq hg.symm); clear hg; have hBX := Aside0.mk hbox; have hB1 := Aside0.mk hB0; clear hB0; have hc_gt_0 : w2_.cell? ⟨gt, 0, none⟩ = some (.int .i64 0) := (blk_cell hbox 0).trans rfl; have hf_gt_0 := blk_frozen hbox 0; have hc_gt_1 : w2_.cell? ⟨gt, 1, none⟩ = some (.int .i64 0) := (blk_cell hbox 1).trans rfl; have hf_gt_1 := blk_frozen hbox 1; clear hbox))
  have hB : Below w1_.heap.size w1_ ((w2_.setCell ⟨gt, 0, none⟩ (.int .i64 t.f0)).setCell ⟨gt, 1, none⟩ (.int .i64 t.f1)) := (below_set (below_set hB1.out hG.out) hG.out)
  have hBN : ((w2_.setCell ⟨gt, 0, none⟩ (.int .i64 t.f0)).setCell ⟨gt, 1, none⟩ (.int .i64 t.f1)).heap[gt]? = some (.cells #[.int .i64 t.f0, .int .i64 t.f1] 23 (0, 0)) := (blk_put (cs := #[.int .i64 t.f0, .int .i64 0]) (blk_put (cs := #[.int .i64 0, .int .i64 0]) hBX.out 0 (.int .i64 t.f0) rfl) 1 (.int .i64 t.f1) rfl)
  clear hBX hB1
  clear hc_gt_0 hf_gt_0 hc_gt_1 hf_gt_1
  generalize ((w2_.setCell ⟨gt, 0, none⟩ (.int .i64 t.f0)).setCell ⟨gt, 1, none⟩ (.int .i64 t.f1)) = w3_ at hB hBN ⊢
  replace HB := mvH HB hB
  clear hc_gp_0 hf_gp_0 hc_gp_1 hf_gp_1 hc_gp_2 hf_gp_2 hc_gp_3 hf_gp_3 hc_gp_4 hf_gp_4 hc_gp_5 hf_gp_5 hc_gp_6 hf_gp_6 hc_gp_7 hf_gp_7
  replace BK_gp := mvB BK_gp hB
  have hc_gp_0 : w3_.cell? ⟨gp, 0, none⟩ = some (.int .i64 t.f0) := (blk_cell BK_gp.out 0).trans rfl
  have hf_gp_0 := blk_frozen BK_gp.out 0
  have hc_gp_1 : w3_.cell? ⟨gp, 1, none⟩ = some (.int .i64 t.f1) := (blk_cell BK_gp.out 1).trans rfl
  have hf_gp_1 := blk_frozen BK_gp.out 1
  have hc_gp_2 : w3_.cell? ⟨gp, 2, none⟩ = some (.int .u32 g) := (blk_cell BK_gp.out 2).trans rfl
  have hf_gp_2 := blk_frozen BK_gp.out 2
  have hc_gp_3 : w3_.cell? ⟨gp, 3, none⟩ = some (.bool ex) := (blk_cell BK_gp.out 3).trans rfl
  have hf_gp_3 := blk_frozen BK_gp.out 3
  have hc_gp_4 : w3_.cell? ⟨gp, 4, none⟩ = some (.int .i64 lf) := (blk_cell BK_gp.out 4).trans rfl
  have hf_gp_4 := blk_frozen BK_gp.out 4
  have hc_gp_5 : w3_.cell? ⟨gp, 5, none⟩ = some (.slice A_x sr.length c_x) := (blk_cell BK_gp.out 5).trans rfl
  have hf_gp_5 := blk_frozen BK_gp.out 5
  have hc_gp_6 : w3_.cell? ⟨gp, 6, none⟩ = some (.int .u8 kind) := (blk_cell BK_gp.out 6).trans rfl
  have hf_gp_6 := blk_frozen BK_gp.out 6
  have hc_gp_7 : w3_.cell? ⟨gp, 7, none⟩ = some (.slice A_l l.length c_l) := (blk_cell BK_gp.out 7).trans rfl
  have hf_gp_7 := blk_frozen BK_gp.out 7
  have BK_gt := Aside0.mk hBN
  clear hG hBN hB
  have hc_gt_0 : w3_.cell? ⟨gt, 0, none⟩ = some (.int .i64 t.f0) := (blk_cell BK_gt.out 0).trans rfl
  have hf_gt_0 := blk_frozen BK_gt.out 0
  have hc_gt_1 : w3_.cell? ⟨gt, 1, none⟩ = some (.int .i64 t.f1) := (blk_cell BK_gt.out 1).trans rfl
  have hf_gt_1 := blk_frozen BK_gt.out 1
  go_upto_region 3 with (first | ((with_reducible refine gate_dst (N := 4) rfl ?_); (try (refine gate_guard (by rfl) ?_; dsimp only)); refine box_event ?hg (N := 4) ?hd (cs := #[.int .u32 0, .bool false, .int .i64 0, .slice none 0 0]) (t := 28) ?hr ?_; (case hd => rfl); (case hg => rfl); (case hr => first | (go_simp; done) | (go_simp; rfl)); intro gm hg w4_ hbox hB0; have hG := Aside0.mk (show w3_.heap.size ≤ gm from Nat.le_of_eq hg.symm); clear hg; have hBX := Aside0.mk hbox; have hB1 := Aside0.mk hB0; clear hB0; have hc_gm_0 : w4_.cell? ⟨gm, 0, none⟩ = some (.int .u32 0) := (blk_cell hbox 0).trans rfl; have hf_gm_0 := blk_frozen hbox 0; have hc_gm_1 : w4_.cell? ⟨gm, 1, none⟩ = some (.bool false) := (blk_cell hbox 1).trans rfl; have hf_gm_1 := blk_frozen hbox 1; have hc_gm_2 : w4_.cell? ⟨gm, 2, none⟩ = some (.int .i64 0) := (blk_cell hbox 2).trans rfl; have hf_gm_2 := blk_frozen hbox 2; have hc_gm_3 : w4_.cell? ⟨gm, 3, none⟩ = some (.slice none 0 0) := (blk_cell hbox 3).trans rfl; have hf_gm_3 := blk_frozen hbox 3; clear hbox))
  have hB : Below w3_.heap.size w3_ ((((w4_.setCell ⟨gm, 0, none⟩ (.int .u32 g)).setCell ⟨gm, 1, none⟩ (.bool ex)).setCell ⟨gm, 2, none⟩ (.int .i64 lf)).setCell ⟨gm, 3, none⟩ (.slice A_x sr.length c_x)) := (below_set (below_set (below_set (below_set hB1.out hG.out) hG.out) hG.out) hG.out)
  have hBN : ((((w4_.setCell ⟨gm, 0, none⟩ (.int .u32 g)).setCell ⟨gm, 1, none⟩ (.bool ex)).setCell ⟨gm, 2, none⟩ (.int .i64 lf)).setCell ⟨gm, 3, none⟩ (.slice A_x sr.length c_x)).heap[gm]? = some (.cells #[.int .u32 g, .bool ex, .int .i64 lf, .slice A_x sr.length c_x] 28 (0, 0)) := (blk_put (cs := #[.int .u32 g, .bool ex, .int .i64 lf, .slice none 0 0]) (blk_put (cs := #[.int .u32 g, .bool ex, .int .i64 0, .slice none 0 0]) (blk_put (cs := #[.int .u32 g, .bool false, .int .i64 0, .slice none 0 0]) (blk_put (cs := #[.int .u32 0, .bool false, .int .i64 0, .slice none 0 0]) hBX.out 0 (.int .u32 g) rfl) 1 (.bool ex) rfl) 2 (.int .i64 lf) rfl) 3 (.slice A_x sr.length c_x) rfl)
  clear hBX hB1
  clear hc_gm_0 hf_gm_0 hc_gm_1 hf_gm_1 hc_gm_2 hf_gm_2 hc_gm_3 hf_gm_3
  generalize ((((w4_.setCell ⟨gm, 0, none⟩ (.int .u32 g)).setCell ⟨gm, 1, none⟩ (.bool ex)).setCell ⟨gm, 2, none⟩ (.int .i64 lf)).setCell ⟨gm, 3, none⟩ (.slice A_x sr.length c_x)) = w5_ at hB hBN ⊢
  replace HB := mvH HB hB
  clear hc_gp_0 hf_gp_0 hc_gp_1 hf_gp_1 hc_gp_2 hf_gp_2 hc_gp_3 hf_gp_3 hc_gp_4 hf_gp_4 hc_gp_5 hf_gp_5 hc_gp_6 hf_gp_6 hc_gp_7 hf_gp_7
  replace BK_gp := mvB BK_gp hB
  have hc_gp_0 : w5_.cell? ⟨gp, 0, none⟩ = some (.int .i64 t.f0) := (blk_cell BK_gp.out 0).trans rfl
  have hf_gp_0 := blk_frozen BK_gp.out 0
  have hc_gp_1 : w5_.cell? ⟨gp, 1, none⟩ = some (.int .i64 t.f1) := (blk_cell BK_gp.out 1).trans rfl
  have hf_gp_1 := blk_frozen BK_gp.out 1
  have hc_gp_2 : w5_.cell? ⟨gp, 2, none⟩ = some (.int .u32 g) := (blk_cell BK_gp.out 2).trans rfl
  have hf_gp_2 := blk_frozen BK_gp.out 2
  have hc_gp_3 : w5_.cell? ⟨gp, 3, none⟩ = some (.bool ex) := (blk_cell BK_gp.out 3).trans rfl
  have hf_gp_3 := blk_frozen BK_gp.out 3
  have hc_gp_4 : w5_.cell? ⟨gp, 4, none⟩ = some (.int .i64 lf) := (blk_cell BK_gp.out 4).trans rfl
  have hf_gp_4 := blk_frozen BK_gp.out 4
  have hc_gp_5 : w5_.cell? ⟨gp, 5, none⟩ = some (.slice A_x sr.length c_x) := (blk_cell BK_gp.out 5).trans rfl
  have hf_gp_5 := blk_frozen BK_gp.out 5
  have hc_gp_6 : w5_.cell? ⟨gp, 6, none⟩ = some (.int .u8 kind) := (blk_cell BK_gp.out 6).trans rfl
  have hf_gp_6 := blk_frozen BK_gp.out 6
  have hc_gp_7 : w5_.cell? ⟨gp, 7, none⟩ = some (.slice A_l l.length c_l) := (blk_cell BK_gp.out 7).trans rfl
  have hf_gp_7 := blk_frozen BK_gp.out 7
  clear hc_gt_0 hf_gt_0 hc_gt_1 hf_gt_1
  replace BK_gt := mvB BK_gt hB
  have hc_gt_0 : w5_.cell? ⟨gt, 0, none⟩ = some (.int .i64 t.f0) := (blk_cell BK_gt.out 0).trans rfl
  have hf_gt_0 := blk_frozen BK_gt.out 0
  have hc_gt_1 : w5_.cell? ⟨gt, 1, none⟩ = some (.int .i64 t.f1) := (blk_cell BK_gt.out 1).trans rfl
  have hf_gt_1 := blk_frozen BK_gt.out 1
  have BK_gm := Aside0.mk hBN
  clear hG hBN hB
  have hc_gm_0 : w5_.cell? ⟨gm, 0, none⟩ = some (.int .u32 g) := (blk_cell BK_gm.out 0).trans rfl
  have hf_gm_0 := blk_frozen BK_gm.out 0
  have hc_gm_1 : w5_.cell? ⟨gm, 1, none⟩ = some (.bool ex) := (blk_cell BK_gm.out 1).trans rfl
  have hf_gm_1 := blk_frozen BK_gm.out 1
  have hc_gm_2 : w5_.cell? ⟨gm, 2, none⟩ = some (.int .i64 lf) := (blk_cell BK_gm.out 2).trans rfl
  have hf_gm_2 := blk_frozen BK_gm.out 2
  have hc_gm_3 : w5_.cell? ⟨gm, 3, none⟩ = some (.slice A_x sr.length c_x) := (blk_cell BK_gm.out 3).trans rfl
  have hf_gm_3 := blk_frozen BK_gm.out 3
  go_upto_region 6 with (first | (go_at_call 9; with_reducible refine (shown_w _).mono ?_; rintro e w6_ ⟨rfl, hB⟩; replace HB := mvH HB hB; clear hc_gp_0 hf_gp_0 hc_gp_1 hf_gp_1 hc_gp_2 hf_gp_2 hc_gp_3 hf_gp_3 hc_gp_4 hf_gp_4 hc_gp_5 hf_gp_5 hc_gp_6 hf_gp_6 hc_gp_7 hf_gp_7; replace BK_gp := mvB BK_gp hB; have hc_gp_0 : w6_.cell? ⟨gp, 0, none⟩ = some (.int .i64 t.f0) := (blk_cell BK_gp.out 0).trans rfl; have hf_gp_0 := blk_frozen BK_gp.out 0; have hc_gp_1 : w6_.cell? ⟨gp, 1, none⟩ = some (.int .i64 t.f1) := (blk_cell BK_gp.out 1).trans rfl; have hf_gp_1 := blk_frozen BK_gp.out 1; have hc_gp_2 : w6_.cell? ⟨gp, 2, none⟩ = some (.int .u32 g) := (blk_cell BK_gp.out 2).trans rfl; have hf_gp_2 := blk_frozen BK_gp.out 2; have hc_gp_3 : w6_.cell? ⟨gp, 3, none⟩ = some (.bool ex) := (blk_cell BK_gp.out 3).trans rfl; have hf_gp_3 := blk_frozen BK_gp.out 3; have hc_gp_4 : w6_.cell? ⟨gp, 4, none⟩ = some (.int .i64 lf) := (blk_cell BK_gp.out 4).trans rfl; have hf_gp_4 := blk_frozen BK_gp.out 4; have hc_gp_5 : w6_.cell? ⟨gp, 5, none⟩ = some (.slice A_x sr.length c_x) := (blk_cell BK_gp.out 5).trans rfl; have hf_gp_5 := blk_frozen BK_gp.out 5; have hc_gp_6 : w6_.cell? ⟨gp, 6, none⟩ = some (.int .u8 kind) := (blk_cell BK_gp.out 6).trans rfl; have hf_gp_6 := blk_frozen BK_gp.out 6; have hc_gp_7 : w6_.cell? ⟨gp, 7, none⟩ = some (.slice A_l l.length c_l) := (blk_cell BK_gp.out 7).trans rfl; have hf_gp_7 := blk_frozen BK_gp.out 7; clear hc_gt_0 hf_gt_0 hc_gt_1 hf_gt_1; replace BK_gt := mvB BK_gt hB; have hc_gt_0 : w6_.cell? ⟨gt, 0, none⟩ = some (.int .i64 t.f0) := (blk_cell BK_gt.out 0).trans rfl; have hf_gt_0 := blk_frozen BK_gt.out 0; have hc_gt_1 : w6_.cell? ⟨gt, 1, none⟩ = some (.int .i64 t.f1) := (blk_cell BK_gt.out 1).trans rfl; have hf_gt_1 := blk_frozen BK_gt.out 1; clear hc_gm_0 hf_gm_0 hc_gm_1 hf_gm_1 hc_gm_2 hf_gm_2 hc_gm_3 hf_gm_3; replace BK_gm := mvB BK_gm hB; have hc_gm_0 : w6_.cell? ⟨gm, 0, none⟩ = some (.int .u32 g) := (blk_cell BK_gm.out 0).trans rfl; have hf_gm_0 := blk_frozen BK_gm.out 0; have hc_gm_1 : w6_.cell? ⟨gm, 1, none⟩ = some (.bool ex) := (blk_cell BK_gm.out 1).trans rfl; have hf_gm_1 := blk_frozen BK_gm.out 1; have hc_gm_2 : w6_.cell? ⟨gm, 2, none⟩ = some (.int .i64 lf) := (blk_cell BK_gm.out 2).trans rfl; have hf_gm_2 := blk_frozen BK_gm.out 2; have hc_gm_3 : w6_.cell? ⟨gm, 3, none⟩ = some (.slice A_x sr.length c_x) := (blk_cell BK_gm.out 3).trans rfl; have hf_gm_3 := blk_frozen BK_gm.out 3; clear hB))
  clear hc_gp_0 hf_gp_0 hc_gp_1 hf_gp_1 hc_gp_2 hf_gp_2 hc_gp_3 hf_gp_3 hc_gp_4 hf_gp_4 hc_gp_5 hf_gp_5 hc_gp_6 hf_gp_6 hc_gp_7 hf_gp_7
  clear BK_gp
  cases hm : mayB t
  case false =>
    have XM := Aside0.mk hm
    clear hm
    go_wp2_with (first | (go_at_call 10; with_reducible refine (mayR_w XM.out _).mono ?_; rintro e w7_ ⟨rfl, hB⟩; replace HB := mvH HB hB; clear hc_gt_0 hf_gt_0 hc_gt_1 hf_gt_1; replace BK_gt := mvB BK_gt hB; have hc_gt_0 : w7_.cell? ⟨gt, 0, none⟩ = some (.int .i64 t.f0) := (blk_cell BK_gt.out 0).trans rfl; have hf_gt_0 := blk_frozen BK_gt.out 0; have hc_gt_1 : w7_.cell? ⟨gt, 1, none⟩ = some (.int .i64 t.f1) := (blk_cell BK_gt.out 1).trans rfl; have hf_gt_1 := blk_frozen BK_gt.out 1; clear hc_gm_0 hf_gm_0 hc_gm_1 hf_gm_1 hc_gm_2 hf_gm_2 hc_gm_3 hf_gm_3; replace BK_gm := mvB BK_gm hB; have hc_gm_0 : w7_.cell? ⟨gm, 0, none⟩ = some (.int .u32 g) := (blk_cell BK_gm.out 0).trans rfl; have hf_gm_0 := blk_frozen BK_gm.out 0; have hc_gm_1 : w7_.cell? ⟨gm, 1, none⟩ = some (.bool ex) := (blk_cell BK_gm.out 1).trans rfl; have hf_gm_1 := blk_frozen BK_gm.out 1; have hc_gm_2 : w7_.cell? ⟨gm, 2, none⟩ = some (.int .i64 lf) := (blk_cell BK_gm.out 2).trans rfl; have hf_gm_2 := blk_frozen BK_gm.out 2; have hc_gm_3 : w7_.cell? ⟨gm, 3, none⟩ = some (.slice A_x sr.length c_x) := (blk_cell BK_gm.out 3).trans rfl; have hf_gm_3 := blk_frozen BK_gm.out 3; clear hB))
    go_ret
    exact ⟨rfl, HB.out⟩
  by_cases hx : MOk ⟨g, ex, lf, sr⟩
  case neg =>
    have XM := Aside0.mk hm
    have XX : Aside0 (¬ MOk ⟨g, ex, lf, sr⟩) := ⟨hx⟩
    clear hm hx
    go_wp2_with (first | (go_at_call 10; with_reducible refine (mayR_w XM.out _).mono ?_; rintro e w7_ ⟨rfl, hB⟩; replace HB := mvH HB hB; clear hc_gt_0 hf_gt_0 hc_gt_1 hf_gt_1; replace BK_gt := mvB BK_gt hB; have hc_gt_0 : w7_.cell? ⟨gt, 0, none⟩ = some (.int .i64 t.f0) := (blk_cell BK_gt.out 0).trans rfl; have hf_gt_0 := blk_frozen BK_gt.out 0; have hc_gt_1 : w7_.cell? ⟨gt, 1, none⟩ = some (.int .i64 t.f1) := (blk_cell BK_gt.out 1).trans rfl; have hf_gt_1 := blk_frozen BK_gt.out 1; clear hc_gm_0 hf_gm_0 hc_gm_1 hf_gm_1 hc_gm_2 hf_gm_2 hc_gm_3 hf_gm_3; replace BK_gm := mvB BK_gm hB; have hc_gm_0 : w7_.cell? ⟨gm, 0, none⟩ = some (.int .u32 g) := (blk_cell BK_gm.out 0).trans rfl; have hf_gm_0 := blk_frozen BK_gm.out 0; have hc_gm_1 : w7_.cell? ⟨gm, 1, none⟩ = some (.bool ex) := (blk_cell BK_gm.out 1).trans rfl; have hf_gm_1 := blk_frozen BK_gm.out 1; have hc_gm_2 : w7_.cell? ⟨gm, 2, none⟩ = some (.int .i64 lf) := (blk_cell BK_gm.out 2).trans rfl; have hf_gm_2 := blk_frozen BK_gm.out 2; have hc_gm_3 : w7_.cell? ⟨gm, 3, none⟩ = some (.slice A_x sr.length c_x) := (blk_cell BK_gm.out 3).trans rfl; have hf_gm_3 := blk_frozen BK_gm.out 3; clear hB) | (go_at_call 11; with_reducible refine (right_flat (b := false) (by simp [XX.out]) _ _ _ (Kd.C_below HC_x.out HB.out) HK_x.out).mono ?_; rintro e w8_ ⟨rfl, hB⟩; replace HB := mvH HB hB; clear hc_gt_0 hf_gt_0 hc_gt_1 hf_gt_1; replace BK_gt := mvB BK_gt hB; have hc_gt_0 : w8_.cell? ⟨gt, 0, none⟩ = some (.int .i64 t.f0) := (blk_cell BK_gt.out 0).trans rfl; have hf_gt_0 := blk_frozen BK_gt.out 0; have hc_gt_1 : w8_.cell? ⟨gt, 1, none⟩ = some (.int .i64 t.f1) := (blk_cell BK_gt.out 1).trans rfl; have hf_gt_1 := blk_frozen BK_gt.out 1; clear hc_gm_0 hf_gm_0 hc_gm_1 hf_gm_1 hc_gm_2 hf_gm_2 hc_gm_3 hf_gm_3; replace BK_gm := mvB BK_gm hB; have hc_gm_0 : w8_.cell? ⟨gm, 0, none⟩ = some (.int .u32 g) := (blk_cell BK_gm.out 0).trans rfl; have hf_gm_0 := blk_frozen BK_gm.out 0; have hc_gm_1 : w8_.cell? ⟨gm, 1, none⟩ = some (.bool ex) := (blk_cell BK_gm.out 1).trans rfl; have hf_gm_1 := blk_frozen BK_gm.out 1; have hc_gm_2 : w8_.cell? ⟨gm, 2, none⟩ = some (.int .i64 lf) := (blk_cell BK_gm.out 2).trans rfl; have hf_gm_2 := blk_frozen BK_gm.out 2; have hc_gm_3 : w8_.cell? ⟨gm, 3, none⟩ = some (.slice A_x sr.length c_x) := (blk_cell BK_gm.out 3).trans rfl; have hf_gm_3 := blk_frozen BK_gm.out 3; clear hB))
    go_ret
    exact ⟨rfl, HB.out⟩
  have XM := Aside0.mk hm
  have XX : Aside0 (MOk ⟨g, ex, lf, sr⟩) := ⟨hx⟩
  clear hm
  by_cases h1 : (200 : Int) < (l.length : Int)
  · have XH := Aside0.mk hx
    clear hx
    go_wp2_with (first | (go_at_call 10; with_reducible refine (mayR_w XM.out _).mono ?_; rintro e w7_ ⟨rfl, hB⟩; replace HB := mvH HB hB; clear hc_gt_0 hf_gt_0 hc_gt_1 hf_gt_1; replace BK_gt := mvB BK_gt hB; have hc_gt_0 : w7_.cell? ⟨gt, 0, none⟩ = some (.int .i64 t.f0) := (blk_cell BK_gt.out 0).trans rfl; have hf_gt_0 := blk_frozen BK_gt.out 0; have hc_gt_1 : w7_.cell? ⟨gt, 1, none⟩ = some (.int .i64 t.f1) := (blk_cell BK_gt.out 1).trans rfl; have hf_gt_1 := blk_frozen BK_gt.out 1; clear hc_gm_0 hf_gm_0 hc_gm_1 hf_gm_1 hc_gm_2 hf_gm_2 hc_gm_3 hf_gm_3; replace BK_gm := mvB BK_gm hB; have hc_gm_0 : w7_.cell? ⟨gm, 0, none⟩ = some (.int .u32 g) := (blk_cell BK_gm.out 0).trans rfl; have hf_gm_0 := blk_frozen BK_gm.out 0; have hc_gm_1 : w7_.cell? ⟨gm, 1, none⟩ = some (.bool ex) := (blk_cell BK_gm.out 1).trans rfl; have hf_gm_1 := blk_frozen BK_gm.out 1; have hc_gm_2 : w7_.cell? ⟨gm, 2, none⟩ = some (.int .i64 lf) := (blk_cell BK_gm.out 2).trans rfl; have hf_gm_2 := blk_frozen BK_gm.out 2; have hc_gm_3 : w7_.cell? ⟨gm, 3, none⟩ = some (.slice A_x sr.length c_x) := (blk_cell BK_gm.out 3).trans rfl; have hf_gm_3 := blk_frozen BK_gm.out 3; clear hB) | (go_at_call 11; with_reducible refine (right_flat (b := true) (by simp [XX.out]) _ _ _ (Kd.C_below HC_x.out HB.out) HK_x.out).mono ?_; rintro e w8_ ⟨rfl, hB⟩; replace HB := mvH HB hB; clear hc_gt_0 hf_gt_0 hc_gt_1 hf_gt_1; replace BK_gt := mvB BK_gt hB; have hc_gt_0 : w8_.cell? ⟨gt, 0, none⟩ = some (.int .i64 t.f0) := (blk_cell BK_gt.out 0).trans rfl; have hf_gt_0 := blk_frozen BK_gt.out 0; have hc_gt_1 : w8_.cell? ⟨gt, 1, none⟩ = some (.int .i64 t.f1) := (blk_cell BK_gt.out 1).trans rfl; have hf_gt_1 := blk_frozen BK_gt.out 1; clear hc_gm_0 hf_gm_0 hc_gm_1 hf_gm_1 hc_gm_2 hf_gm_2 hc_gm_3 hf_gm_3; replace BK_gm := mvB BK_gm hB; have hc_gm_0 : w8_.cell? ⟨gm, 0, none⟩ = some (.int .u32 g) := (blk_cell BK_gm.out 0).trans rfl; have hf_gm_0 := blk_frozen BK_gm.out 0; have hc_gm_1 : w8_.cell? ⟨gm, 1, none⟩ = some (.bool ex) := (blk_cell BK_gm.out 1).trans rfl; have hf_gm_1 := blk_frozen BK_gm.out 1; have hc_gm_2 : w8_.cell? ⟨gm, 2, none⟩ = some (.int .i64 lf) := (blk_cell BK_gm.out 2).trans rfl; have hf_gm_2 := blk_frozen BK_gm.out 2; have hc_gm_3 : w8_.cell? ⟨gm, 3, none⟩ = some (.slice A_x sr.length c_x) := (blk_cell BK_gm.out 3).trans rfl; have hf_gm_3 := blk_frozen BK_gm.out 3; clear hB))
    go_ret
    exact ⟨rfl, HB.out⟩
  obtain ⟨g', e', lf', sr', asks, err, hh, _⟩ := hear_tell XM.out hx kind l
  have hok := hear_asks (t := t) (l := l) hx kind
  have hmu := hear_mute (t := t) (x := ⟨g, ex, lf, sr⟩) (l := l) (kind := kind)
  rw [hh] at hok hmu
  have hok : AsksOk g t.f1 asks sr' := hok
  have hmu : err ≠ 0 ∨ kind ≤ 2 ∨ kind = 5 → asks = [] := hmu
  have hl2 := Aside0.mk (show l.length ≤ 1000 by omega)
  obtain ⟨n, hn⟩ : ∃ n, asks.length = n := ⟨_, rfl⟩
  have XN := Aside0.mk hn
  clear hn
  have Xhx := Aside0.mk hx
  have Xhh := Aside0.mk hh
  have Xhok := Aside0.mk hok
  have Xhmu := Aside0.mk hmu
  clear hx hh hok hmu
  go_upto_region 9 with (first | (go_at_call 10; with_reducible refine (mayR_w XM.out _).mono ?_; rintro e w7_ ⟨rfl, hB⟩; replace HB := mvH HB hB; clear hc_gt_0 hf_gt_0 hc_gt_1 hf_gt_1; replace BK_gt := mvB BK_gt hB; have hc_gt_0 : w7_.cell? ⟨gt, 0, none⟩ = some (.int .i64 t.f0) := (blk_cell BK_gt.out 0).trans rfl; have hf_gt_0 := blk_frozen BK_gt.out 0; have hc_gt_1 : w7_.cell? ⟨gt, 1, none⟩ = some (.int .i64 t.f1) := (blk_cell BK_gt.out 1).trans rfl; have hf_gt_1 := blk_frozen BK_gt.out 1; clear hc_gm_0 hf_gm_0 hc_gm_1 hf_gm_1 hc_gm_2 hf_gm_2 hc_gm_3 hf_gm_3; replace BK_gm := mvB BK_gm hB; have hc_gm_0 : w7_.cell? ⟨gm, 0, none⟩ = some (.int .u32 g) := (blk_cell BK_gm.out 0).trans rfl; have hf_gm_0 := blk_frozen BK_gm.out 0; have hc_gm_1 : w7_.cell? ⟨gm, 1, none⟩ = some (.bool ex) := (blk_cell BK_gm.out 1).trans rfl; have hf_gm_1 := blk_frozen BK_gm.out 1; have hc_gm_2 : w7_.cell? ⟨gm, 2, none⟩ = some (.int .i64 lf) := (blk_cell BK_gm.out 2).trans rfl; have hf_gm_2 := blk_frozen BK_gm.out 2; have hc_gm_3 : w7_.cell? ⟨gm, 3, none⟩ = some (.slice A_x sr.length c_x) := (blk_cell BK_gm.out 3).trans rfl; have hf_gm_3 := blk_frozen BK_gm.out 3; clear hB) | (go_at_call 11; with_reducible refine (right_flat (b := true) (by simp [XX.out]) _ _ _ (Kd.C_below HC_x.out HB.out) HK_x.out).mono ?_; rintro e w8_ ⟨rfl, hB⟩; replace HB := mvH HB hB; clear hc_gt_0 hf_gt_0 hc_gt_1 hf_gt_1; replace BK_gt := mvB BK_gt hB; have hc_gt_0 : w8_.cell? ⟨gt, 0, none⟩ = some (.int .i64 t.f0) := (blk_cell BK_gt.out 0).trans rfl; have hf_gt_0 := blk_frozen BK_gt.out 0; have hc_gt_1 : w8_.cell? ⟨gt, 1, none⟩ = some (.int .i64 t.f1) := (blk_cell BK_gt.out 1).trans rfl; have hf_gt_1 := blk_frozen BK_gt.out 1; clear hc_gm_0 hf_gm_0 hc_gm_1 hf_gm_1 hc_gm_2 hf_gm_2 hc_gm_3 hf_gm_3; replace BK_gm := mvB BK_gm hB; have hc_gm_0 : w8_.cell? ⟨gm, 0, none⟩ = some (.int .u32 g) := (blk_cell BK_gm.out 0).trans rfl; have hf_gm_0 := blk_frozen BK_gm.out 0; have hc_gm_1 : w8_.cell? ⟨gm, 1, none⟩ = some (.bool ex) := (blk_cell BK_gm.out 1).trans rfl; have hf_gm_1 := blk_frozen BK_gm.out 1; have hc_gm_2 : w8_.cell? ⟨gm, 2, none⟩ = some (.int .i64 lf) := (blk_cell BK_gm.out 2).trans rfl; have hf_gm_2 := blk_frozen BK_gm.out 2; have hc_gm_3 : w8_.cell? ⟨gm, 3, none⟩ = some (.slice A_x sr.length c_x) := (blk_cell BK_gm.out 3).trans rfl; have hf_gm_3 := blk_frozen BK_gm.out 3; clear hB) | (go_at_call 12; (with_reducible refine (hear_q Xhx.out hl2.out Xhh.out XN.out _ _ _ _ _ (Kd.C_below HC_x.out HB.out) HK_x.out (Kd.C_below HC_l.out HB.out) HK_l.out).mono ?_); rintro e_ w9_ ⟨A_r, c_r, A_q, c_q, rfl, ⟨hC, hK⟩, ⟨hC2, hK2⟩, hB⟩; replace HB := mvH HB hB; clear hc_gt_0 hf_gt_0 hc_gt_1 hf_gt_1; replace BK_gt := mvB BK_gt hB; have hc_gt_0 : w9_.cell? ⟨gt, 0, none⟩ = some (.int .i64 t.f0) := (blk_cell BK_gt.out 0).trans rfl; have hf_gt_0 := blk_frozen BK_gt.out 0; have hc_gt_1 : w9_.cell? ⟨gt, 1, none⟩ = some (.int .i64 t.f1) := (blk_cell BK_gt.out 1).trans rfl; have hf_gt_1 := blk_frozen BK_gt.out 1; clear hc_gm_0 hf_gm_0 hc_gm_1 hf_gm_1 hc_gm_2 hf_gm_2 hc_gm_3 hf_gm_3; replace BK_gm := mvB BK_gm hB; have hc_gm_0 : w9_.cell? ⟨gm, 0, none⟩ = some (.int .u32 g) := (blk_cell BK_gm.out 0).trans rfl; have hf_gm_0 := blk_frozen BK_gm.out 0; have hc_gm_1 : w9_.cell? ⟨gm, 1, none⟩ = some (.bool ex) := (blk_cell BK_gm.out 1).trans rfl; have hf_gm_1 := blk_frozen BK_gm.out 1; have hc_gm_2 : w9_.cell? ⟨gm, 2, none⟩ = some (.int .i64 lf) := (blk_cell BK_gm.out 2).trans rfl; have hf_gm_2 := blk_frozen BK_gm.out 2; have hc_gm_3 : w9_.cell? ⟨gm, 3, none⟩ = some (.slice A_x sr.length c_x) := (blk_cell BK_gm.out 3).trans rfl; have hf_gm_3 := blk_frozen BK_gm.out 3; have HC_r := Aside0.mk hC; have HK_r := Aside0.mk hK; have HC_q := Aside0.mk hC2; have HK_q := Aside0.mk hK2; clear hC hK hC2 hK2 hB) | ((with_reducible refine gate_dst (N := 8) rfl ?_); (try (refine gate_guard (by rfl) ?_; dsimp only)); refine box_event ?hg (N := 8) ?hd (cs := #[.int .u32 0, .bool false, .int .i64 0, .slice none 0 0]) (t := 28) ?hr ?_; (case hd => rfl); (case hg => rfl); (case hr => first | (go_simp; done) | (go_simp; rfl)); intro b1 hg w10_ hbox hB0; have hG := Aside0.mk (show w9_.heap.size ≤ b1 from Nat.le_of_eq hg.symm); clear hg; have hBX := Aside0.mk hbox; have hB1 := Aside0.mk hB0; clear hB0; have hc_b1_0 : w10_.cell? ⟨b1, 0, none⟩ = some (.int .u32 0) := (blk_cell hbox 0).trans rfl; have hf_b1_0 := blk_frozen hbox 0; have hc_b1_1 : w10_.cell? ⟨b1, 1, none⟩ = some (.bool false) := (blk_cell hbox 1).trans rfl; have hf_b1_1 := blk_frozen hbox 1; have hc_b1_2 : w10_.cell? ⟨b1, 2, none⟩ = some (.int .i64 0) := (blk_cell hbox 2).trans rfl; have hf_b1_2 := blk_frozen hbox 2; have hc_b1_3 : w10_.cell? ⟨b1, 3, none⟩ = some (.slice none 0 0) := (blk_cell hbox 3).trans rfl; have hf_b1_3 := blk_frozen hbox 3; clear hbox))
  have hB : Below w9_.heap.size w9_ ((((w10_.setCell ⟨b1, 0, none⟩ (.int .u32 g')).setCell ⟨b1, 1, none⟩ (.bool e')).setCell ⟨b1, 2, none⟩ (.int .i64 lf')).setCell ⟨b1, 3, none⟩ (.slice A_r sr'.length c_r)) := (below_set (below_set (below_set (below_set hB1.out hG.out) hG.out) hG.out) hG.out)
  have hBN : ((((w10_.setCell ⟨b1, 0, none⟩ (.int .u32 g')).setCell ⟨b1, 1, none⟩ (.bool e')).setCell ⟨b1, 2, none⟩ (.int .i64 lf')).setCell ⟨b1, 3, none⟩ (.slice A_r sr'.length c_r)).heap[b1]? = some (.cells #[.int .u32 g', .bool e', .int .i64 lf', .slice A_r sr'.length c_r] 28 (0, 0)) := (blk_put (cs := #[.int .u32 g', .bool e', .int .i64 lf', .slice none 0 0]) (blk_put (cs := #[.int .u32 g', .bool e', .int .i64 0, .slice none 0 0]) (blk_put (cs := #[.int .u32 g', .bool false, .int .i64 0, .slice none 0 0]) (blk_put (cs := #[.int .u32 0, .bool false, .int .i64 0, .slice none 0 0]) hBX.out 0 (.int .u32 g') rfl) 1 (.bool e') rfl) 2 (.int .i64 lf') rfl) 3 (.slice A_r sr'.length c_r) rfl)
  clear hBX hB1
  clear hc_b1_0 hf_b1_0 hc_b1_1 hf_b1_1 hc_b1_2 hf_b1_2 hc_b1_3 hf_b1_3
  generalize ((((w10_.setCell ⟨b1, 0, none⟩ (.int .u32 g')).setCell ⟨b1, 1, none⟩ (.bool e')).setCell ⟨b1, 2, none⟩ (.int .i64 lf')).setCell ⟨b1, 3, none⟩ (.slice A_r sr'.length c_r)) = w11_ at hB hBN ⊢
  replace HB := mvH HB hB
  clear hc_gt_0 hf_gt_0 hc_gt_1 hf_gt_1
  replace BK_gt := mvB BK_gt hB
  have hc_gt_0 : w11_.cell? ⟨gt, 0, none⟩ = some (.int .i64 t.f0) := (blk_cell BK_gt.out 0).trans rfl
  have hf_gt_0 := blk_frozen BK_gt.out 0
  have hc_gt_1 : w11_.cell? ⟨gt, 1, none⟩ = some (.int .i64 t.f1) := (blk_cell BK_gt.out 1).trans rfl
  have hf_gt_1 := blk_frozen BK_gt.out 1
  clear hc_gm_0 hf_gm_0 hc_gm_1 hf_gm_1 hc_gm_2 hf_gm_2 hc_gm_3 hf_gm_3
  replace BK_gm := mvB BK_gm hB
  have hc_gm_0 : w11_.cell? ⟨gm, 0, none⟩ = some (.int .u32 g) := (blk_cell BK_gm.out 0).trans rfl
  have hf_gm_0 := blk_frozen BK_gm.out 0
  have hc_gm_1 : w11_.cell? ⟨gm, 1, none⟩ = some (.bool ex) := (blk_cell BK_gm.out 1).trans rfl
  have hf_gm_1 := blk_frozen BK_gm.out 1
  have hc_gm_2 : w11_.cell? ⟨gm, 2, none⟩ = some (.int .i64 lf) := (blk_cell BK_gm.out 2).trans rfl
  have hf_gm_2 := blk_frozen BK_gm.out 2
  have hc_gm_3 : w11_.cell? ⟨gm, 3, none⟩ = some (.slice A_x sr.length c_x) := (blk_cell BK_gm.out 3).trans rfl
  have hf_gm_3 := blk_frozen BK_gm.out 3
  replace HC_r := mvC HC_r hB
  replace HC_q := mvC HC_q hB
  have BK_b1 := Aside0.mk hBN
  clear hG hBN hB
  have hc_b1_0 : w11_.cell? ⟨b1, 0, none⟩ = some (.int .u32 g') := (blk_cell BK_b1.out 0).trans rfl
  have hf_b1_0 := blk_frozen BK_b1.out 0
  have hc_b1_1 : w11_.cell? ⟨b1, 1, none⟩ = some (.bool e') := (blk_cell BK_b1.out 1).trans rfl
  have hf_b1_1 := blk_frozen BK_b1.out 1
  have hc_b1_2 : w11_.cell? ⟨b1, 2, none⟩ = some (.int .i64 lf') := (blk_cell BK_b1.out 2).trans rfl
  have hf_b1_2 := blk_frozen BK_b1.out 2
  have hc_b1_3 : w11_.cell? ⟨b1, 3, none⟩ = some (.slice A_r sr'.length c_r) := (blk_cell BK_b1.out 3).trans rfl
  have hf_b1_3 := blk_frozen BK_b1.out 3
  have hq2 : ¬ ((2 : Int) < (n : Int)) := by have h1 := Xhok.out.1; have h2 := XN.out; omega
  go_cut [76] (fun v76 wc => v76 = .bool false ∧ Aside0 (Below w11_.heap.size w11_ wc))
  case first =>
    have HZ := Aside0.mk (Below.refl w11_.heap.size w11_)
    by_cases c1 : err = 0
    all_goals by_cases c3 : kind = 5
    all_goals by_cases c2 : kind ≤ 2
    · exact absurd c2 (by omega)
    · have hn0 : n = 0 := by rw [← XN.out, Xhmu.out (.inr (.inr c3))]; rfl
      clear hq2 Xhmu
      subst hn0
      subst c1
      subst c3
      go_wp2
      go_meet
      case rel => exact ⟨rfl, HZ⟩
    · have hn0 : n = 0 := by rw [← XN.out, Xhmu.out (.inr (.inl c2))]; rfl
      clear hq2 Xhmu
      subst hn0
      subst c1
      go_wp2
      go_meet
      case rel => exact ⟨rfl, HZ⟩
    · subst c1
      go_wp2
      go_meet
      case rel => exact ⟨rfl, HZ⟩
    · exact absurd c2 (by omega)
    · have hn0 : n = 0 := by rw [← XN.out, Xhmu.out (.inl c1)]; rfl
      clear hq2 Xhmu
      subst hn0
      subst c3
      go_wp2
      go_meet
      case rel => exact ⟨rfl, HZ⟩
    · have hn0 : n = 0 := by rw [← XN.out, Xhmu.out (.inl c1)]; rfl
      clear hq2 Xhmu
      subst hn0
      go_wp2
      go_meet
      case rel => exact ⟨rfl, HZ⟩
    · have hn0 : n = 0 := by rw [← XN.out, Xhmu.out (.inl c1)]; rfl
      clear hq2 Xhmu
      subst hn0
      go_wp2
      go_meet
      case rel => exact ⟨rfl, HZ⟩
  case rest =>
    clear Xhmu hq2
    obtain ⟨hn⟩ := XN
    subst hn
    obtain ⟨rfl, HZ⟩ := hcut
    have hB := HZ.out
    replace HB := mvH HB hB
    clear hc_gt_0 hf_gt_0 hc_gt_1 hf_gt_1
    replace BK_gt := mvB BK_gt hB
    have hc_gt_0 : wc.cell? ⟨gt, 0, none⟩ = some (.int .i64 t.f0) := (blk_cell BK_gt.out 0).trans rfl
    have hf_gt_0 := blk_frozen BK_gt.out 0
    have hc_gt_1 : wc.cell? ⟨gt, 1, none⟩ = some (.int .i64 t.f1) := (blk_cell BK_gt.out 1).trans rfl
    have hf_gt_1 := blk_frozen BK_gt.out 1
    clear hc_gm_0 hf_gm_0 hc_gm_1 hf_gm_1 hc_gm_2 hf_gm_2 hc_gm_3 hf_gm_3
    replace BK_gm := mvB BK_gm hB
    have hc_gm_0 : wc.cell? ⟨gm, 0, none⟩ = some (.int .u32 g) := (blk_cell BK_gm.out 0).trans rfl
    have hf_gm_0 := blk_frozen BK_gm.out 0
    have hc_gm_1 : wc.cell? ⟨gm, 1, none⟩ = some (.bool ex) := (blk_cell BK_gm.out 1).trans rfl
    have hf_gm_1 := blk_frozen BK_gm.out 1
    have hc_gm_2 : wc.cell? ⟨gm, 2, none⟩ = some (.int .i64 lf) := (blk_cell BK_gm.out 2).trans rfl
    have hf_gm_2 := blk_frozen BK_gm.out 2
    have hc_gm_3 : wc.cell? ⟨gm, 3, none⟩ = some (.slice A_x sr.length c_x) := (blk_cell BK_gm.out 3).trans rfl
    have hf_gm_3 := blk_frozen BK_gm.out 3
    clear hc_b1_0 hf_b1_0 hc_b1_1 hf_b1_1 hc_b1_2 hf_b1_2 hc_b1_3 hf_b1_3
    replace BK_b1 := mvB BK_b1 hB
    have hc_b1_0 : wc.cell? ⟨b1, 0, none⟩ = some (.int .u32 g') := (blk_cell BK_b1.out 0).trans rfl
    have hf_b1_0 := blk_frozen BK_b1.out 0
    have hc_b1_1 : wc.cell? ⟨b1, 1, none⟩ = some (.bool e') := (blk_cell BK_b1.out 1).trans rfl
    have hf_b1_1 := blk_frozen BK_b1.out 1
    have hc_b1_2 : wc.cell? ⟨b1, 2, none⟩ = some (.int .i64 lf') := (blk_cell BK_b1.out 2).trans rfl
    have hf_b1_2 := blk_frozen BK_b1.out 2
    have hc_b1_3 : wc.cell? ⟨b1, 3, none⟩ = some (.slice A_r sr'.length c_r) := (blk_cell BK_b1.out 3).trans rfl
    have hf_b1_3 := blk_frozen BK_b1.out 3
    replace HC_r := mvC HC_r hB
    replace HC_q := mvC HC_q hB
    clear hB HZ
    go_wp2
    obtain ⟨wa, hren⟩ : ∃ x_, x_ = wc := ⟨_, rfl⟩
    subst hren
    go_loopg [11] asks.length (fun gk v11 w' => ∃ i : Nat, v11 = .int .i64 (i : Int) ∧ Aside0 (i ≤ asks.length ∧ gk = asks.length - i) ∧ Aside0 (Below wa.heap.size wa w'))
    case atStart => exact ⟨0, rfl, ⟨Nat.zero_le _, by omega⟩, ⟨Below.refl _ _⟩⟩
    case round =>
      obtain ⟨i, rfl, HI, HZ⟩ := hrel
      obtain ⟨hi, hgk⟩ := HI.out
      obtain ⟨wb, hren⟩ : ∃ x_, x_ = wr := ⟨_, rfl⟩
      subst hren
      have hB := HZ.out
      replace HB := mvH HB hB
      clear hc_gt_0 hf_gt_0 hc_gt_1 hf_gt_1
      replace BK_gt := mvB BK_gt hB
      have hc_gt_0 : wb.cell? ⟨gt, 0, none⟩ = some (.int .i64 t.f0) := (blk_cell BK_gt.out 0).trans rfl
      have hf_gt_0 := blk_frozen BK_gt.out 0
      have hc_gt_1 : wb.cell? ⟨gt, 1, none⟩ = some (.int .i64 t.f1) := (blk_cell BK_gt.out 1).trans rfl
      have hf_gt_1 := blk_frozen BK_gt.out 1
      clear hc_gm_0 hf_gm_0 hc_gm_1 hf_gm_1 hc_gm_2 hf_gm_2 hc_gm_3 hf_gm_3
      replace BK_gm := mvB BK_gm hB
      have hc_gm_0 : wb.cell? ⟨gm, 0, none⟩ = some (.int .u32 g) := (blk_cell BK_gm.out 0).trans rfl
      have hf_gm_0 := blk_frozen BK_gm.out 0
      have hc_gm_1 : wb.cell? ⟨gm, 1, none⟩ = some (.bool ex) := (blk_cell BK_gm.out 1).trans rfl
      have hf_gm_1 := blk_frozen BK_gm.out 1
      have hc_gm_2 : wb.cell? ⟨gm, 2, none⟩ = some (.int .i64 lf) := (blk_cell BK_gm.out 2).trans rfl
      have hf_gm_2 := blk_frozen BK_gm.out 2
      have hc_gm_3 : wb.cell? ⟨gm, 3, none⟩ = some (.slice A_x sr.length c_x) := (blk_cell BK_gm.out 3).trans rfl
      have hf_gm_3 := blk_frozen BK_gm.out 3
      clear hc_b1_0 hf_b1_0 hc_b1_1 hf_b1_1 hc_b1_2 hf_b1_2 hc_b1_3 hf_b1_3
      replace BK_b1 := mvB BK_b1 hB
      have hc_b1_0 : wb.cell? ⟨b1, 0, none⟩ = some (.int .u32 g') := (blk_cell BK_b1.out 0).trans rfl
      have hf_b1_0 := blk_frozen BK_b1.out 0
      have hc_b1_1 : wb.cell? ⟨b1, 1, none⟩ = some (.bool e') := (blk_cell BK_b1.out 1).trans rfl
      have hf_b1_1 := blk_frozen BK_b1.out 1
      have hc_b1_2 : wb.cell? ⟨b1, 2, none⟩ = some (.int .i64 lf') := (blk_cell BK_b1.out 2).trans rfl
      have hf_b1_2 := blk_frozen BK_b1.out 2
      have hc_b1_3 : wb.cell? ⟨b1, 3, none⟩ = some (.slice A_r sr'.length c_r) := (blk_cell BK_b1.out 3).trans rfl
      have hf_b1_3 := blk_frozen BK_b1.out 3
      replace HC_r := mvC HC_r hB
      replace HC_q := mvC HC_q hB
      clear hB
      by_cases hlt : i < asks.length
      · have c80 : decide ((i : Int) < (asks.length : Int)) = true := decide_eq_true (by omega)
        have p1 : (0 : Int) ≤ (i : Int) := by omega
        have p2 : (i : Int) < (asks.length : Int) := by omega
        go_upto_block 1 with fail
        go_cut [11] (fun v11 wc => v11 = .int .i64 (i : Int) ∧ Aside0 (Below wb.heap.size wb wc))
        case first =>
          obtain ⟨ad, A_s, c_s, he, hx0, hx1, hKs, hCs⟩ := at_T46 HC_q.out (i : Int) p1 p2
          subst he
          rw [Int.toNat_natCast] at hx0 hx1
          have XQ := Aside0.mk (Xhok.out.2 (rd_T46 asks (i : Int)) (by show asks.getD _ _ ∈ asks; rw [Int.toNat_natCast, List.getD_eq_getElem?_getD, List.getElem?_eq_getElem hlt]; exact List.getElem_mem hlt))
          obtain ⟨q, hq⟩ : ∃ q, q = rd_T46 asks (i : Int) := ⟨_, rfl⟩
          rw [← hq] at hx0 hx1 XQ hKs hCs
          clear hq
          rw [XQ.out.1] at hx0
          have HC_s := Aside0.mk hCs
          have HK_s := Aside0.mk hKs
          clear hCs hKs HZ
          replace p1 := eq_true p1
          replace p2 := eq_true p2
          have HZ3 := Aside0.mk (Below.refl wb.heap.size wb)
          go_upto_region 14 with fail
          refine start_ (n := 17) (S := fun w' => w'.cell? ⟨gm, 0, none⟩ = some (.int .u32 g) ∧ w'.cell? ⟨gm, 1, none⟩ = some (.bool ex) ∧ w'.cell? ⟨gm, 2, none⟩ = some (.int .i64 lf) ∧ w'.cell? ⟨gm, 3, none⟩ = some (.slice A_x sr.length c_x) ∧ w'.cell? (ad.add (i * 2)) = some (.int .u32 g) ∧ w'.cell? ⟨(ad.add (i * 2)).block, (ad.add (i * 2)).off + 1, none⟩ = some (.slice A_s q.f1.length c_s)) (ds := []) #[false, false, false, false, false, false, false, false, false, false, false, false, false, false, false, false, false] (by kernel_rfl) rfl rfl ⟨hc_gm_0, hc_gm_1, hc_gm_2, hc_gm_3, hx0, hx1⟩ (fun hHeld => ?_); refine with_tabW mq_t14 mq_b14 (fun HT_ HW_ => ?_)
          have hB : Below wb.heap.size wb wb.drew := below_drew (Below.refl _ _)
          generalize wb.drew = w12_ at hB hHeld ⊢
          replace HB := mvH HB hB
          replace HZ3 := mvH HZ3 hB
          clear hc_gt_0 hf_gt_0 hc_gt_1 hf_gt_1
          replace BK_gt := mvB BK_gt hB
          have hc_gt_0 : w12_.cell? ⟨gt, 0, none⟩ = some (.int .i64 t.f0) := (blk_cell BK_gt.out 0).trans rfl
          have hf_gt_0 := blk_frozen BK_gt.out 0
          have hc_gt_1 : w12_.cell? ⟨gt, 1, none⟩ = some (.int .i64 t.f1) := (blk_cell BK_gt.out 1).trans rfl
          have hf_gt_1 := blk_frozen BK_gt.out 1
          clear hc_gm_0 hf_gm_0 hc_gm_1 hf_gm_1 hc_gm_2 hf_gm_2 hc_gm_3 hf_gm_3
          replace BK_gm := mvB BK_gm hB
          have hc_gm_0 : w12_.cell? ⟨gm, 0, none⟩ = some (.int .u32 g) := (blk_cell BK_gm.out 0).trans rfl
          have hf_gm_0 := blk_frozen BK_gm.out 0
          have hc_gm_1 : w12_.cell? ⟨gm, 1, none⟩ = some (.bool ex) := (blk_cell BK_gm.out 1).trans rfl
          have hf_gm_1 := blk_frozen BK_gm.out 1
          have hc_gm_2 : w12_.cell? ⟨gm, 2, none⟩ = some (.int .i64 lf) := (blk_cell BK_gm.out 2).trans rfl
          have hf_gm_2 := blk_frozen BK_gm.out 2
          have hc_gm_3 : w12_.cell? ⟨gm, 3, none⟩ = some (.slice A_x sr.length c_x) := (blk_cell BK_gm.out 3).trans rfl
          have hf_gm_3 := blk_frozen BK_gm.out 3
          clear hc_b1_0 hf_b1_0 hc_b1_1 hf_b1_1 hc_b1_2 hf_b1_2 hc_b1_3 hf_b1_3
          replace BK_b1 := mvB BK_b1 hB
          have hc_b1_0 : w12_.cell? ⟨b1, 0, none⟩ = some (.int .u32 g') := (blk_cell BK_b1.out 0).trans rfl
          have hf_b1_0 := blk_frozen BK_b1.out 0
          have hc_b1_1 : w12_.cell? ⟨b1, 1, none⟩ = some (.bool e') := (blk_cell BK_b1.out 1).trans rfl
          have hf_b1_1 := blk_frozen BK_b1.out 1
          have hc_b1_2 : w12_.cell? ⟨b1, 2, none⟩ = some (.int .i64 lf') := (blk_cell BK_b1.out 2).trans rfl
          have hf_b1_2 := blk_frozen BK_b1.out 2
          have hc_b1_3 : w12_.cell? ⟨b1, 3, none⟩ = some (.slice A_r sr'.length c_r) := (blk_cell BK_b1.out 3).trans rfl
          have hf_b1_3 := blk_frozen BK_b1.out 3
          replace HC_r := mvC HC_r hB
          replace HC_q := mvC HC_q hB
          replace HC_s := mvC HC_s hB
          replace hx0 := mvc hx0 hB
          replace hx1 := mvc hx1 hB
          clear hB
          refine pure_ (i := 0) (N := some 83) (v := ?_) (a' := ?_) #[true, false, false, false, false, false, false, false, false, false, false, false, false, false, false, false, false] rfl rfl (any_of HT_.out (by kernel_rfl)) (fun _ _ _ h => h) (Or.inl ⟨by rfl, ?_⟩) ?_ ?_
          rotate_left
          · intro w'
            go_simp
            with_reducible rfl
          rotate_left
          · simp only [Act.put, List.setIfInBounds_toArray, List.set_cons_zero, List.set_cons_succ, i64_w, i32_w]
            rfl
          refine pure_ (i := 1) (N := some 84) (v := ?_) (a' := ?_) #[true, true, false, false, false, false, false, false, false, false, false, false, false, false, false, false, false] rfl rfl (any_of HT_.out (by kernel_rfl)) (fun _ _ _ h => h) (Or.inl ⟨by rfl, ?_⟩) ?_ ?_
          rotate_left
          · intro w'
            go_simp
            with_reducible rfl
          rotate_left
          · simp only [Act.put, List.setIfInBounds_toArray, List.set_cons_zero, List.set_cons_succ, i64_w, i32_w]
            rfl
          refine pure_ (i := 2) (N := some 85) (v := ?_) (a' := ?_) #[true, true, true, false, false, false, false, false, false, false, false, false, false, false, false, false, false] rfl rfl (any_of HT_.out (by kernel_rfl)) (fun _ _ _ h => h) (Or.inl ⟨by rfl, ?_⟩) ?_ ?_
          rotate_left
          · intro w'
            go_simp
            with_reducible rfl
          rotate_left
          · simp only [Act.put, List.setIfInBounds_toArray, List.set_cons_zero, List.set_cons_succ, i64_w, i32_w]
            rfl
          refine pure_ (i := 3) (N := some 86) (v := ?_) (a' := ?_) #[true, true, true, true, false, false, false, false, false, false, false, false, false, false, false, false, false] rfl rfl (any_of HT_.out (by kernel_rfl)) (fun _ _ _ h => h) (Or.inl ⟨by rfl, ?_⟩) ?_ ?_
          rotate_left
          · intro w'
            go_simp
            with_reducible rfl
          rotate_left
          · simp only [Act.put, List.setIfInBounds_toArray, List.set_cons_zero, List.set_cons_succ, i64_w, i32_w]
            rfl
          refine take_ (i := 4) (N := some 87) (v := ?_) (a' := ?_) #[true, true, true, true, true, false, false, false, false, false, false, false, false, false, false, false, false] rfl rfl (take_ofW HT_.out HW_.out (by kernel_rfl)) (fun _ _ _ h => h) (Or.inl ⟨by rfl, ?_⟩) hHeld ?_ ?_
          rotate_left
          · rintro w' ⟨s0, s1, s2, s3, s4, s5⟩
            go_simp
            with_reducible rfl
          rotate_left
          · simp only [Act.put, List.setIfInBounds_toArray, List.set_cons_zero, List.set_cons_succ, i64_w, i32_w]
            rfl
          refine pure_ (i := 5) (N := some 88) (v := ?_) (a' := ?_) #[true, true, true, true, true, true, false, false, false, false, false, false, false, false, false, false, false] rfl rfl (any_of HT_.out (by kernel_rfl)) (fun _ _ _ h => h) (Or.inl ⟨by rfl, ?_⟩) ?_ ?_
          rotate_left
          · intro w'
            go_simp
            with_reducible rfl
          rotate_left
          · simp only [Act.put, List.setIfInBounds_toArray, List.set_cons_zero, List.set_cons_succ, i64_w, i32_w]
            rfl
          refine take_ (i := 6) (N := some 89) (v := ?_) (a' := ?_) #[true, true, true, true, true, true, true, false, false, false, false, false, false, false, false, false, false] rfl rfl (take_ofW HT_.out HW_.out (by kernel_rfl)) (fun _ _ _ h => h) (Or.inl ⟨by rfl, ?_⟩) hHeld ?_ ?_
          rotate_left
          · rintro w' ⟨s0, s1, s2, s3, s4, s5⟩
            go_simp
            with_reducible rfl
          rotate_left
          · simp only [Act.put, List.setIfInBounds_toArray, List.set_cons_zero, List.set_cons_succ, i64_w, i32_w]
            rfl
          refine pure_ (i := 7) (N := some 90) (v := ?_) (a' := ?_) #[true, true, true, true, true, true, true, true, false, false, false, false, false, false, false, false, false] rfl rfl (any_of HT_.out (by kernel_rfl)) (fun _ _ _ h => h) (Or.inl ⟨by rfl, ?_⟩) ?_ ?_
          rotate_left
          · intro w'
            go_simp
            with_reducible rfl
          rotate_left
          · simp only [Act.put, List.setIfInBounds_toArray, List.set_cons_zero, List.set_cons_succ, i64_w, i32_w]
            rfl
          refine pure_ (i := 8) (N := some 91) (v := ?_) (a' := ?_) #[true, true, true, true, true, true, true, true, true, false, false, false, false, false, false, false, false] rfl rfl (any_of HT_.out (by kernel_rfl)) (fun _ _ _ h => h) (Or.inl ⟨by rfl, ?_⟩) ?_ ?_
          rotate_left
          · intro w'
            go_simp
            with_reducible rfl
          rotate_left
          · simp only [Act.put, List.setIfInBounds_toArray, List.set_cons_zero, List.set_cons_succ, i64_w, i32_w]
            rfl
          refine pure_ (i := 9) (N := some 92) (v := ?_) (a' := ?_) #[true, true, true, true, true, true, true, true, true, true, false, false, false, false, false, false, false] rfl rfl (any_of HT_.out (by kernel_rfl)) (fun _ _ _ h => h) (Or.inl ⟨by rfl, ?_⟩) ?_ ?_
          rotate_left
          · intro w'
            go_simp
            with_reducible rfl
          rotate_left
          · simp only [Act.put, List.setIfInBounds_toArray, List.set_cons_zero, List.set_cons_succ, i64_w, i32_w]
            rfl
          refine pure_ (i := 10) (N := some 93) (v := ?_) (a' := ?_) #[true, true, true, true, true, true, true, true, true, true, true, false, false, false, false, false, false] rfl rfl (any_of HT_.out (by kernel_rfl)) (fun _ _ _ h => h) (Or.inl ⟨by rfl, ?_⟩) ?_ ?_
          rotate_left
          · intro w'
            go_simp
            with_reducible rfl
          rotate_left
          · simp only [Act.put, List.setIfInBounds_toArray, List.set_cons_zero, List.set_cons_succ, i64_w, i32_w]
            rfl
          refine pure_ (i := 11) (N := some 94) (v := ?_) (a' := ?_) #[true, true, true, true, true, true, true, true, true, true, true, true, false, false, false, false, false] rfl rfl (any_of HT_.out (by kernel_rfl)) (fun _ _ _ h => h) (Or.inl ⟨by rfl, ?_⟩) ?_ ?_
          rotate_left
          · intro w'
            go_simp
            with_reducible rfl
          rotate_left
          · simp only [Act.put, List.setIfInBounds_toArray, List.set_cons_zero, List.set_cons_succ, i64_w, i32_w]
            rfl
          refine pure_ (i := 12) (N := some 95) (v := ?_) (a' := ?_) #[true, true, true, true, true, true, true, true, true, true, true, true, true, false, false, false, false] rfl rfl (any_of HT_.out (by kernel_rfl)) (fun _ _ _ h => h) (Or.inl ⟨by rfl, ?_⟩) ?_ ?_
          rotate_left
          · intro w'
            go_simp
            with_reducible rfl
          rotate_left
          · simp only [Act.put, List.setIfInBounds_toArray, List.set_cons_zero, List.set_cons_succ, i64_w, i32_w]
            rfl
          refine take_ (i := 13) (N := some 96) (v := ?_) (a' := ?_) #[true, true, true, true, true, true, true, true, true, true, true, true, true, true, false, false, false] rfl rfl (take_ofW HT_.out HW_.out (by kernel_rfl)) (fun _ _ _ h => h) (Or.inl ⟨by rfl, ?_⟩) hHeld ?_ ?_
          rotate_left
          · rintro w' ⟨s0, s1, s2, s3, s4, s5⟩
            go_simp
            with_reducible rfl
          rotate_left
          · simp only [Act.put, List.setIfInBounds_toArray, List.set_cons_zero, List.set_cons_succ, i64_w, i32_w]
            rfl
          refine one_ (i := 14) (N := some 97) #[true, true, true, true, true, true, true, true, true, true, true, true, true, true, true, false, false] rfl rfl (one_of HT_.out (by kernel_rfl)) (by decide) (fun K hK => ?_)
          refine goes_ Try.func16 (by kernel_rfl) rfl #[.slice A_s q.f1.length c_s] (by rfl) rfl rfl (by (try simp only [List.map_toArray, List.map_cons, List.map_nil]); first | done | rfl | (simp only [List.length_drop, List.length_take]; rfl)) ?_
          with_reducible refine (right6_w XQ.out.2.1 _ _ _ HC_s.out HK_s.out).mono ?_
          rintro e_ w13_ ⟨rfl, hB⟩
          refine ⟨_, rfl, ?_⟩
          replace HB := mvH HB hB
          replace HZ3 := mvH HZ3 hB
          clear hc_gt_0 hf_gt_0 hc_gt_1 hf_gt_1
          replace BK_gt := mvB BK_gt hB
          have hc_gt_0 : w13_.cell? ⟨gt, 0, none⟩ = some (.int .i64 t.f0) := (blk_cell BK_gt.out 0).trans rfl
          have hf_gt_0 := blk_frozen BK_gt.out 0
          have hc_gt_1 : w13_.cell? ⟨gt, 1, none⟩ = some (.int .i64 t.f1) := (blk_cell BK_gt.out 1).trans rfl
          have hf_gt_1 := blk_frozen BK_gt.out 1
          clear hc_gm_0 hf_gm_0 hc_gm_1 hf_gm_1 hc_gm_2 hf_gm_2 hc_gm_3 hf_gm_3
          replace BK_gm := mvB BK_gm hB
          have hc_gm_0 : w13_.cell? ⟨gm, 0, none⟩ = some (.int .u32 g) := (blk_cell BK_gm.out 0).trans rfl
          have hf_gm_0 := blk_frozen BK_gm.out 0
          have hc_gm_1 : w13_.cell? ⟨gm, 1, none⟩ = some (.bool ex) := (blk_cell BK_gm.out 1).trans rfl
          have hf_gm_1 := blk_frozen BK_gm.out 1
          have hc_gm_2 : w13_.cell? ⟨gm, 2, none⟩ = some (.int .i64 lf) := (blk_cell BK_gm.out 2).trans rfl
          have hf_gm_2 := blk_frozen BK_gm.out 2
          have hc_gm_3 : w13_.cell? ⟨gm, 3, none⟩ = some (.slice A_x sr.length c_x) := (blk_cell BK_gm.out 3).trans rfl
          have hf_gm_3 := blk_frozen BK_gm.out 3
          clear hc_b1_0 hf_b1_0 hc_b1_1 hf_b1_1 hc_b1_2 hf_b1_2 hc_b1_3 hf_b1_3
          replace BK_b1 := mvB BK_b1 hB
          have hc_b1_0 : w13_.cell? ⟨b1, 0, none⟩ = some (.int .u32 g') := (blk_cell BK_b1.out 0).trans rfl
          have hf_b1_0 := blk_frozen BK_b1.out 0
          have hc_b1_1 : w13_.cell? ⟨b1, 1, none⟩ = some (.bool e') := (blk_cell BK_b1.out 1).trans rfl
          have hf_b1_1 := blk_frozen BK_b1.out 1
          have hc_b1_2 : w13_.cell? ⟨b1, 2, none⟩ = some (.int .i64 lf') := (blk_cell BK_b1.out 2).trans rfl
          have hf_b1_2 := blk_frozen BK_b1.out 2
          have hc_b1_3 : w13_.cell? ⟨b1, 3, none⟩ = some (.slice A_r sr'.length c_r) := (blk_cell BK_b1.out 3).trans rfl
          have hf_b1_3 := blk_frozen BK_b1.out 3
          replace HC_r := mvC HC_r hB
          replace HC_q := mvC HC_q hB
          replace HC_s := mvC HC_s hB
          replace hx0 := mvc hx0 hB
          replace hx1 := mvc hx1 hB
          clear hB
          refine hK.out _ _ ⟨hc_gm_0, hc_gm_1, hc_gm_2, hc_gm_3, hx0, hx1⟩ (fun hHeld => ?_)
          clear hK K
          refine norm_ (a' := ?_) ?_ ?_
          rotate_left
          · show Act.put _ (some 97) _ = _
            simp only [Act.put, List.setIfInBounds_toArray, List.set_cons_zero, List.set_cons_succ, i64_w, i32_w]
            rfl
          refine pure_ (i := 15) (N := some 98) (v := ?_) (a' := ?_) #[true, true, true, true, true, true, true, true, true, true, true, true, true, true, true, true, false] rfl rfl (any_of HT_.out (by kernel_rfl)) (fun _ _ _ h => h) (Or.inl ⟨by rfl, ?_⟩) ?_ ?_
          rotate_left
          · intro w'
            go_simp
            with_reducible rfl
          rotate_left
          · simp only [Act.put, List.setIfInBounds_toArray, List.set_cons_zero, List.set_cons_succ, i64_w, i32_w]
            rfl
          refine pure_ (i := 16) (N := some 99) (v := ?_) (a' := ?_) #[true, true, true, true, true, true, true, true, true, true, true, true, true, true, true, true, true] rfl rfl (any_of HT_.out (by kernel_rfl)) (fun _ _ _ h => h) (Or.inl ⟨by rfl, ?_⟩) ?_ ?_
          rotate_left
          · intro w'
            go_simp
            with_reducible rfl
          rotate_left
          · simp only [Act.put, List.setIfInBounds_toArray, List.set_cons_zero, List.set_cons_succ, i64_w, i32_w]
            rfl
          refine done_ (done_of HT_.out (by kernel_rfl)) ?_
          go_wp2
          obtain ⟨wd, hren⟩ : ∃ x_, x_ = w13_ := ⟨_, rfl⟩
          subst hren
          clear c80
          go_loopg [12] q.f1.length (fun gk v12 w' => ∃ k : Nat, v12 = .int .i64 (k : Int) ∧ Aside0 (k ≤ q.f1.length ∧ gk = q.f1.length - k) ∧ Aside0 (Below wd.heap.size wd w'))
          case atStart => exact ⟨0, rfl, ⟨Nat.zero_le _, by omega⟩, ⟨Below.refl _ _⟩⟩
          case round =>
            obtain ⟨k, rfl, HI2, HZ5⟩ := hrel
            obtain ⟨hk2, hgk2⟩ := HI2.out
            obtain ⟨we, hren⟩ : ∃ x_, x_ = wr := ⟨_, rfl⟩
            subst hren
            have hB := HZ5.out
            replace HB := mvH HB hB
            clear hc_gt_0 hf_gt_0 hc_gt_1 hf_gt_1
            replace BK_gt := mvB BK_gt hB
            have hc_gt_0 : we.cell? ⟨gt, 0, none⟩ = some (.int .i64 t.f0) := (blk_cell BK_gt.out 0).trans rfl
            have hf_gt_0 := blk_frozen BK_gt.out 0
            have hc_gt_1 : we.cell? ⟨gt, 1, none⟩ = some (.int .i64 t.f1) := (blk_cell BK_gt.out 1).trans rfl
            have hf_gt_1 := blk_frozen BK_gt.out 1
            clear hc_gm_0 hf_gm_0 hc_gm_1 hf_gm_1 hc_gm_2 hf_gm_2 hc_gm_3 hf_gm_3
            replace BK_gm := mvB BK_gm hB
            have hc_gm_0 : we.cell? ⟨gm, 0, none⟩ = some (.int .u32 g) := (blk_cell BK_gm.out 0).trans rfl
            have hf_gm_0 := blk_frozen BK_gm.out 0
            have hc_gm_1 : we.cell? ⟨gm, 1, none⟩ = some (.bool ex) := (blk_cell BK_gm.out 1).trans rfl
            have hf_gm_1 := blk_frozen BK_gm.out 1
            have hc_gm_2 : we.cell? ⟨gm, 2, none⟩ = some (.int .i64 lf) := (blk_cell BK_gm.out 2).trans rfl
            have hf_gm_2 := blk_frozen BK_gm.out 2
            have hc_gm_3 : we.cell? ⟨gm, 3, none⟩ = some (.slice A_x sr.length c_x) := (blk_cell BK_gm.out 3).trans rfl
            have hf_gm_3 := blk_frozen BK_gm.out 3
            clear hc_b1_0 hf_b1_0 hc_b1_1 hf_b1_1 hc_b1_2 hf_b1_2 hc_b1_3 hf_b1_3
            replace BK_b1 := mvB BK_b1 hB
            have hc_b1_0 : we.cell? ⟨b1, 0, none⟩ = some (.int .u32 g') := (blk_cell BK_b1.out 0).trans rfl
            have hf_b1_0 := blk_frozen BK_b1.out 0
            have hc_b1_1 : we.cell? ⟨b1, 1, none⟩ = some (.bool e') := (blk_cell BK_b1.out 1).trans rfl
            have hf_b1_1 := blk_frozen BK_b1.out 1
            have hc_b1_2 : we.cell? ⟨b1, 2, none⟩ = some (.int .i64 lf') := (blk_cell BK_b1.out 2).trans rfl
            have hf_b1_2 := blk_frozen BK_b1.out 2
            have hc_b1_3 : we.cell? ⟨b1, 3, none⟩ = some (.slice A_r sr'.length c_r) := (blk_cell BK_b1.out 3).trans rfl
            have hf_b1_3 := blk_frozen BK_b1.out 3
            replace HC_r := mvC HC_r hB
            replace HC_q := mvC HC_q hB
            replace HC_s := mvC HC_s hB
            replace hx0 := mvc hx0 hB
            replace hx1 := mvc hx1 hB
            clear hB
            by_cases hlt2 : k < q.f1.length
            · have c107 : decide ((k : Int) < (q.f1.length : Int)) = true := decide_eq_true (by omega)
              have q1 : (0 : Int) ≤ (k : Int) := by omega
              have q2 : (k : Int) < (q.f1.length : Int) := by omega
              obtain ⟨ad2, he, hy0⟩ := Kd.at_int HC_s.out (k : Int) q1 q2
              subst he
              rw [Int.toNat_natCast] at hy0
              have XS := Aside0.mk (fnd_all t.f1 (rd q.f1 (k : Int)) (XQ.out.2.2 (rd q.f1 (k : Int)) (by rw [rdI _ _ hlt2]; exact List.getElem_mem hlt2)))
              obtain ⟨s, hs⟩ : ∃ s, s = rd q.f1 (k : Int) := ⟨_, rfl⟩
              rw [← hs] at hy0 XS
              clear hs
              replace q1 := eq_true q1
              replace q2 := eq_true q2
              go_upto_block 4 with fail
              go_cut [13] (fun v13 wc => v13 = .bool true ∧ Aside0 (Below we.heap.size we wc))
              case first =>
                clear HZ5 HZ3
                go_wp2
                go_loopg [13, 14] sr'.length (fun gk v13 v14 w' => ∃ j : Nat, v13 = .bool (fnd t.f1 s sr' j) ∧ v14 = .int .i64 (j : Int) ∧ Aside0 (j ≤ sr'.length ∧ gk = sr'.length - j) ∧ Aside0 (Below we.heap.size we w'))
                case atStart => exact ⟨0, rfl, rfl, ⟨Nat.zero_le _, by omega⟩, ⟨Below.refl _ _⟩⟩
                case round =>
                  obtain ⟨j, hv13, rfl, HI3, HZ4⟩ := hrel
                  obtain ⟨hj3, hgk3⟩ := HI3.out
                  obtain ⟨wf, hren⟩ : ∃ x_, x_ = wr := ⟨_, rfl⟩
                  subst hren
                  have hB := HZ4.out
                  replace HB := mvH HB hB
                  clear hc_gt_0 hf_gt_0 hc_gt_1 hf_gt_1
                  replace BK_gt := mvB BK_gt hB
                  have hc_gt_0 : wf.cell? ⟨gt, 0, none⟩ = some (.int .i64 t.f0) := (blk_cell BK_gt.out 0).trans rfl
                  have hf_gt_0 := blk_frozen BK_gt.out 0
                  have hc_gt_1 : wf.cell? ⟨gt, 1, none⟩ = some (.int .i64 t.f1) := (blk_cell BK_gt.out 1).trans rfl
                  have hf_gt_1 := blk_frozen BK_gt.out 1
                  clear hc_gm_0 hf_gm_0 hc_gm_1 hf_gm_1 hc_gm_2 hf_gm_2 hc_gm_3 hf_gm_3
                  replace BK_gm := mvB BK_gm hB
                  have hc_gm_0 : wf.cell? ⟨gm, 0, none⟩ = some (.int .u32 g) := (blk_cell BK_gm.out 0).trans rfl
                  have hf_gm_0 := blk_frozen BK_gm.out 0
                  have hc_gm_1 : wf.cell? ⟨gm, 1, none⟩ = some (.bool ex) := (blk_cell BK_gm.out 1).trans rfl
                  have hf_gm_1 := blk_frozen BK_gm.out 1
                  have hc_gm_2 : wf.cell? ⟨gm, 2, none⟩ = some (.int .i64 lf) := (blk_cell BK_gm.out 2).trans rfl
                  have hf_gm_2 := blk_frozen BK_gm.out 2
                  have hc_gm_3 : wf.cell? ⟨gm, 3, none⟩ = some (.slice A_x sr.length c_x) := (blk_cell BK_gm.out 3).trans rfl
                  have hf_gm_3 := blk_frozen BK_gm.out 3
                  clear hc_b1_0 hf_b1_0 hc_b1_1 hf_b1_1 hc_b1_2 hf_b1_2 hc_b1_3 hf_b1_3
                  replace BK_b1 := mvB BK_b1 hB
                  have hc_b1_0 : wf.cell? ⟨b1, 0, none⟩ = some (.int .u32 g') := (blk_cell BK_b1.out 0).trans rfl
                  have hf_b1_0 := blk_frozen BK_b1.out 0
                  have hc_b1_1 : wf.cell? ⟨b1, 1, none⟩ = some (.bool e') := (blk_cell BK_b1.out 1).trans rfl
                  have hf_b1_1 := blk_frozen BK_b1.out 1
                  have hc_b1_2 : wf.cell? ⟨b1, 2, none⟩ = some (.int .i64 lf') := (blk_cell BK_b1.out 2).trans rfl
                  have hf_b1_2 := blk_frozen BK_b1.out 2
                  have hc_b1_3 : wf.cell? ⟨b1, 3, none⟩ = some (.slice A_r sr'.length c_r) := (blk_cell BK_b1.out 3).trans rfl
                  have hf_b1_3 := blk_frozen BK_b1.out 3
                  replace HC_r := mvC HC_r hB
                  replace HC_q := mvC HC_q hB
                  replace HC_s := mvC HC_s hB
                  replace hx0 := mvc hx0 hB
                  replace hx1 := mvc hx1 hB
                  replace hy0 := mvc hy0 hB
                  clear hB
                  obtain ⟨fb, hfb⟩ : ∃ b, b = fnd t.f1 s sr' j := ⟨_, rfl⟩
                  rw [← hfb] at hv13
                  subst hv13
                  have XFB := Aside0.mk hfb
                  clear hfb
                  by_cases hlt3 : j < sr'.length
                  · have c114 : decide ((j : Int) < (sr'.length : Int)) = true := decide_eq_true (by omega)
                    have r1 : (0 : Int) ≤ (j : Int) := by omega
                    have r2 : (j : Int) < (sr'.length : Int) := by omega
                    obtain ⟨ad3, he, hz0, hz1⟩ := at_T49 HC_r.out (j : Int) r1 r2
                    subst he
                    rw [Int.toNat_natCast] at hz0 hz1
                    have XFS := Aside0.mk (fnd_succ t.f1 s hlt3)
                    obtain ⟨y, hy⟩ : ∃ y, y = rd_T49 sr' (j : Int) := ⟨_, rfl⟩
                    rw [← hy] at hz0 hz1 XFS
                    clear hy
                    rw [← XFB.out] at XFS
                    replace r1 := eq_true r1
                    replace r2 := eq_true r2
                    go_upto_region 23 with fail
                    cases fb
                    · by_cases hya : y.f0 = s
                      · have c133 : (y.f0 == s) = true := by simpa using hya
                        have Xya := Aside0.mk hya
                        clear hya
                        refine start_ (n := 30) (S := fun w' => w'.cell? ⟨gt, 0, none⟩ = some (.int .i64 t.f0) ∧ w'.cell? ⟨gt, 1, none⟩ = some (.int .i64 t.f1) ∧ w'.cell? ⟨b1, 0, none⟩ = some (.int .u32 g') ∧ w'.cell? ⟨b1, 1, none⟩ = some (.bool e') ∧ w'.cell? ⟨b1, 2, none⟩ = some (.int .i64 lf') ∧ w'.cell? ⟨b1, 3, none⟩ = some (.slice (some ad3) sr'.length c_r) ∧ w'.cell? ⟨(ad.add (i * 2)).block, (ad.add (i * 2)).off + 1, none⟩ = some (.slice (some ad2) q.f1.length c_s) ∧ w'.cell? (ad2.add k) = some (.int .u32 s) ∧ w'.cell? (ad3.add (j * 2)) = some (.int .u32 y.f0) ∧ w'.cell? ⟨(ad3.add (j * 2)).block, (ad3.add (j * 2)).off + 1, none⟩ = some (.int .i64 y.f1)) (ds := []) #[false, false, false, false, false, false, false, false, false, false, false, false, false, false, false, false, false, false, false, false, false, false, false, false, false, false, false, false, false, false] (by kernel_rfl) rfl rfl ⟨hc_gt_0, hc_gt_1, hc_b1_0, hc_b1_1, hc_b1_2, hc_b1_3, hx1, hy0, hz0, hz1⟩ (fun hHeld => ?_); refine with_tabW mq_t23 mq_b23 (fun HT_ HW_ => ?_)
                        have hB : Below wf.heap.size wf wf.drew := below_drew (Below.refl _ _)
                        generalize wf.drew = w14_ at hB hHeld ⊢
                        replace HB := mvH HB hB
                        replace HZ4 := mvH HZ4 hB
                        clear hc_gt_0 hf_gt_0 hc_gt_1 hf_gt_1
                        replace BK_gt := mvB BK_gt hB
                        have hc_gt_0 : w14_.cell? ⟨gt, 0, none⟩ = some (.int .i64 t.f0) := (blk_cell BK_gt.out 0).trans rfl
                        have hf_gt_0 := blk_frozen BK_gt.out 0
                        have hc_gt_1 : w14_.cell? ⟨gt, 1, none⟩ = some (.int .i64 t.f1) := (blk_cell BK_gt.out 1).trans rfl
                        have hf_gt_1 := blk_frozen BK_gt.out 1
                        clear hc_gm_0 hf_gm_0 hc_gm_1 hf_gm_1 hc_gm_2 hf_gm_2 hc_gm_3 hf_gm_3
                        replace BK_gm := mvB BK_gm hB
                        have hc_gm_0 : w14_.cell? ⟨gm, 0, none⟩ = some (.int .u32 g) := (blk_cell BK_gm.out 0).trans rfl
                        have hf_gm_0 := blk_frozen BK_gm.out 0
                        have hc_gm_1 : w14_.cell? ⟨gm, 1, none⟩ = some (.bool ex) := (blk_cell BK_gm.out 1).trans rfl
                        have hf_gm_1 := blk_frozen BK_gm.out 1
                        have hc_gm_2 : w14_.cell? ⟨gm, 2, none⟩ = some (.int .i64 lf) := (blk_cell BK_gm.out 2).trans rfl
                        have hf_gm_2 := blk_frozen BK_gm.out 2
                        have hc_gm_3 : w14_.cell? ⟨gm, 3, none⟩ = some (.slice A_x sr.length c_x) := (blk_cell BK_gm.out 3).trans rfl
                        have hf_gm_3 := blk_frozen BK_gm.out 3
                        clear hc_b1_0 hf_b1_0 hc_b1_1 hf_b1_1 hc_b1_2 hf_b1_2 hc_b1_3 hf_b1_3
                        replace BK_b1 := mvB BK_b1 hB
                        have hc_b1_0 : w14_.cell? ⟨b1, 0, none⟩ = some (.int .u32 g') := (blk_cell BK_b1.out 0).trans rfl
                        have hf_b1_0 := blk_frozen BK_b1.out 0
                        have hc_b1_1 : w14_.cell? ⟨b1, 1, none⟩ = some (.bool e') := (blk_cell BK_b1.out 1).trans rfl
                        have hf_b1_1 := blk_frozen BK_b1.out 1
                        have hc_b1_2 : w14_.cell? ⟨b1, 2, none⟩ = some (.int .i64 lf') := (blk_cell BK_b1.out 2).trans rfl
                        have hf_b1_2 := blk_frozen BK_b1.out 2
                        have hc_b1_3 : w14_.cell? ⟨b1, 3, none⟩ = some (.slice (some ad3) sr'.length c_r) := (blk_cell BK_b1.out 3).trans rfl
                        have hf_b1_3 := blk_frozen BK_b1.out 3
                        replace HC_r := mvC HC_r hB
                        replace HC_q := mvC HC_q hB
                        replace HC_s := mvC HC_s hB
                        replace hx0 := mvc hx0 hB
                        replace hx1 := mvc hx1 hB
                        replace hy0 := mvc hy0 hB
                        replace hz0 := mvc hz0 hB
                        replace hz1 := mvc hz1 hB
                        clear hB
                        refine pure_ (i := 0) (N := some 117) (v := ?_) (a' := ?_) #[true, false, false, false, false, false, false, false, false, false, false, false, false, false, false, false, false, false, false, false, false, false, false, false, false, false, false, false, false, false] rfl rfl (any_of HT_.out (by kernel_rfl)) (fun _ _ _ h => h) (Or.inl ⟨by rfl, ?_⟩) ?_ ?_
                        rotate_left
                        · intro w'
                          go_simp
                          with_reducible rfl
                        rotate_left
                        · simp only [Act.put, List.setIfInBounds_toArray, List.set_cons_zero, List.set_cons_succ, i64_w, i32_w]
                          rfl
                        refine pure_ (i := 1) (N := some 118) (v := ?_) (a' := ?_) #[true, true, false, false, false, false, false, false, false, false, false, false, false, false, false, false, false, false, false, false, false, false, false, false, false, false, false, false, false, false] rfl rfl (any_of HT_.out (by kernel_rfl)) (fun _ _ _ h => h) (Or.inl ⟨by rfl, ?_⟩) ?_ ?_
                        rotate_left
                        · intro w'
                          go_simp
                          with_reducible rfl
                        rotate_left
                        · simp only [Act.put, List.setIfInBounds_toArray, List.set_cons_zero, List.set_cons_succ, i64_w, i32_w]
                          rfl
                        refine pure_ (i := 2) (N := some 119) (v := ?_) (a' := ?_) #[true, true, true, false, false, false, false, false, false, false, false, false, false, false, false, false, false, false, false, false, false, false, false, false, false, false, false, false, false, false] rfl rfl (any_of HT_.out (by kernel_rfl)) (fun _ _ _ h => h) (Or.inl ⟨by rfl, ?_⟩) ?_ ?_
                        rotate_left
                        · intro w'
                          go_simp
                          with_reducible rfl
                        rotate_left
                        · simp only [Act.put, List.setIfInBounds_toArray, List.set_cons_zero, List.set_cons_succ, i64_w, i32_w]
                          rfl
                        refine take_ (i := 3) (N := some 120) (v := ?_) (a' := ?_) #[true, true, true, true, false, false, false, false, false, false, false, false, false, false, false, false, false, false, false, false, false, false, false, false, false, false, false, false, false, false] rfl rfl (take_ofW HT_.out HW_.out (by kernel_rfl)) (fun _ _ _ h => h) (Or.inl ⟨by rfl, ?_⟩) hHeld ?_ ?_
                        rotate_left
                        · rintro w' ⟨s0, s1, s2, s3, s4, s5, s6, s7, s8, s9⟩
                          go_simp
                          with_reducible rfl
                        rotate_left
                        · simp only [Act.put, List.setIfInBounds_toArray, List.set_cons_zero, List.set_cons_succ, i64_w, i32_w]
                          rfl
                        refine pure_ (i := 4) (N := some 121) (v := ?_) (a' := ?_) #[true, true, true, true, true, false, false, false, false, false, false, false, false, false, false, false, false, false, false, false, false, false, false, false, false, false, false, false, false, false] rfl rfl (any_of HT_.out (by kernel_rfl)) (fun _ _ _ h => h) (Or.inl ⟨by rfl, ?_⟩) ?_ ?_
                        rotate_left
                        · intro w'
                          go_simp
                          with_reducible rfl
                        rotate_left
                        · simp only [Act.put, List.setIfInBounds_toArray, List.set_cons_zero, List.set_cons_succ, i64_w, i32_w]
                          rfl
                        refine pure_ (i := 5) (N := some 122) (v := ?_) (a' := ?_) #[true, true, true, true, true, true, false, false, false, false, false, false, false, false, false, false, false, false, false, false, false, false, false, false, false, false, false, false, false, false] rfl rfl (any_of HT_.out (by kernel_rfl)) (fun _ _ _ h => h) (Or.inl ⟨by rfl, ?_⟩) ?_ ?_
                        rotate_left
                        · intro w'
                          go_simp
                          with_reducible rfl
                        rotate_left
                        · simp only [Act.put, List.setIfInBounds_toArray, List.set_cons_zero, List.set_cons_succ, i64_w, i32_w]
                          rfl
                        refine pure_ (i := 6) (N := some 123) (v := ?_) (a' := ?_) #[true, true, true, true, true, true, true, false, false, false, false, false, false, false, false, false, false, false, false, false, false, false, false, false, false, false, false, false, false, false] rfl rfl (any_of HT_.out (by kernel_rfl)) (fun _ _ _ h => h) (Or.inl ⟨by rfl, ?_⟩) ?_ ?_
                        rotate_left
                        · intro w'
                          go_simp
                          with_reducible rfl
                        rotate_left
                        · simp only [Act.put, List.setIfInBounds_toArray, List.set_cons_zero, List.set_cons_succ, i64_w, i32_w]
                          rfl
                        refine take_ (i := 7) (N := some 124) (v := ?_) (a' := ?_) #[true, true, true, true, true, true, true, true, false, false, false, false, false, false, false, false, false, false, false, false, false, false, false, false, false, false, false, false, false, false] rfl rfl (take_ofW HT_.out HW_.out (by kernel_rfl)) (fun _ _ _ h => h) (Or.inl ⟨by rfl, ?_⟩) hHeld ?_ ?_
                        rotate_left
                        · rintro w' ⟨s0, s1, s2, s3, s4, s5, s6, s7, s8, s9⟩
                          go_simp
                          with_reducible rfl
                        rotate_left
                        · simp only [Act.put, List.setIfInBounds_toArray, List.set_cons_zero, List.set_cons_succ, i64_w, i32_w]
                          rfl
                        refine pure_ (i := 8) (N := some 125) (v := ?_) (a' := ?_) #[true, true, true, true, true, true, true, true, true, false, false, false, false, false, false, false, false, false, false, false, false, false, false, false, false, false, false, false, false, false] rfl rfl (any_of HT_.out (by kernel_rfl)) (fun _ _ _ h => h) (Or.inl ⟨by rfl, ?_⟩) ?_ ?_
                        rotate_left
                        · intro w'
                          go_simp
                          with_reducible rfl
                        rotate_left
                        · simp only [Act.put, List.setIfInBounds_toArray, List.set_cons_zero, List.set_cons_succ, i64_w, i32_w]
                          rfl
                        refine pure_ (i := 9) (N := some 126) (v := ?_) (a' := ?_) #[true, true, true, true, true, true, true, true, true, true, false, false, false, false, false, false, false, false, false, false, false, false, false, false, false, false, false, false, false, false] rfl rfl (any_of HT_.out (by kernel_rfl)) (fun _ _ _ h => h) (Or.inl ⟨by rfl, ?_⟩) ?_ ?_
                        rotate_left
                        · intro w'
                          go_simp
                          with_reducible rfl
                        rotate_left
                        · simp only [Act.put, List.setIfInBounds_toArray, List.set_cons_zero, List.set_cons_succ, i64_w, i32_w]
                          rfl
                        refine pure_ (i := 10) (N := some 127) (v := ?_) (a' := ?_) #[true, true, true, true, true, true, true, true, true, true, true, false, false, false, false, false, false, false, false, false, false, false, false, false, false, false, false, false, false, false] rfl rfl (any_of HT_.out (by kernel_rfl)) (fun _ _ _ h => h) (Or.inl ⟨by rfl, ?_⟩) ?_ ?_
                        rotate_left
                        · intro w'
                          go_simp
                          with_reducible rfl
                        rotate_left
                        · simp only [Act.put, List.setIfInBounds_toArray, List.set_cons_zero, List.set_cons_succ, i64_w, i32_w]
                          rfl
                        refine pure_ (i := 11) (N := some 128) (v := ?_) (a' := ?_) #[true, true, true, true, true, true, true, true, true, true, true, true, false, false, false, false, false, false, false, false, false, false, false, false, false, false, false, false, false, false] rfl rfl (any_of HT_.out (by kernel_rfl)) (fun _ _ _ h => h) (Or.inl ⟨by rfl, ?_⟩) ?_ ?_
                        rotate_left
                        · intro w'
                          go_simp
                          with_reducible rfl
                        rotate_left
                        · simp only [Act.put, List.setIfInBounds_toArray, List.set_cons_zero, List.set_cons_succ, i64_w, i32_w]
                          rfl
                        refine take_ (i := 12) (N := some 129) (v := ?_) (a' := ?_) #[true, true, true, true, true, true, true, true, true, true, true, true, true, false, false, false, false, false, false, false, false, false, false, false, false, false, false, false, false, false] rfl rfl (take_ofW HT_.out HW_.out (by kernel_rfl)) (fun _ _ _ h => h) (Or.inl ⟨by rfl, ?_⟩) hHeld ?_ ?_
                        rotate_left
                        · rintro w' ⟨s0, s1, s2, s3, s4, s5, s6, s7, s8, s9⟩
                          go_simp
                          with_reducible rfl
                        rotate_left
                        · simp only [Act.put, List.setIfInBounds_toArray, List.set_cons_zero, List.set_cons_succ, i64_w, i32_w]
                          rfl
                        refine pure_ (i := 13) (N := some 130) (v := ?_) (a' := ?_) #[true, true, true, true, true, true, true, true, true, true, true, true, true, true, false, false, false, false, false, false, false, false, false, false, false, false, false, false, false, false] rfl rfl (any_of HT_.out (by kernel_rfl)) (fun _ _ _ h => h) (Or.inl ⟨by rfl, ?_⟩) ?_ ?_
                        rotate_left
                        · intro w'
                          go_simp
                          with_reducible rfl
                        rotate_left
                        · simp only [Act.put, List.setIfInBounds_toArray, List.set_cons_zero, List.set_cons_succ, i64_w, i32_w]
                          rfl
                        refine pure_ (i := 14) (N := some 131) (v := ?_) (a' := ?_) #[true, true, true, true, true, true, true, true, true, true, true, true, true, true, true, false, false, false, false, false, false, false, false, false, false, false, false, false, false, false] rfl rfl (any_of HT_.out (by kernel_rfl)) (fun _ _ _ h => h) (Or.inl ⟨by rfl, ?_⟩) ?_ ?_
                        rotate_left
                        · intro w'
                          go_simp
                          with_reducible rfl
                        rotate_left
                        · simp only [Act.put, List.setIfInBounds_toArray, List.set_cons_zero, List.set_cons_succ, i64_w, i32_w]
                          rfl
                        refine take_ (i := 15) (N := some 132) (v := ?_) (a' := ?_) #[true, true, true, true, true, true, true, true, true, true, true, true, true, true, true, true, false, false, false, false, false, false, false, false, false, false, false, false, false, false] rfl rfl (take_ofW HT_.out HW_.out (by kernel_rfl)) (fun _ _ _ h => h) (Or.inl ⟨by rfl, ?_⟩) hHeld ?_ ?_
                        rotate_left
                        · rintro w' ⟨s0, s1, s2, s3, s4, s5, s6, s7, s8, s9⟩
                          go_simp
                          with_reducible rfl
                        rotate_left
                        · simp only [Act.put, List.setIfInBounds_toArray, List.set_cons_zero, List.set_cons_succ, i64_w, i32_w]
                          rfl
                        refine pure_ (i := 16) (N := some 133) (v := ?_) (a' := ?_) #[true, true, true, true, true, true, true, true, true, true, true, true, true, true, true, true, true, false, false, false, false, false, false, false, false, false, false, false, false, false] rfl rfl (any_of HT_.out (by kernel_rfl)) (fun _ _ _ h => h) (Or.inl ⟨by rfl, ?_⟩) ?_ ?_
                        rotate_left
                        · intro w'
                          go_simp
                          with_reducible rfl
                        rotate_left
                        · simp only [Act.put, List.setIfInBounds_toArray, List.set_cons_zero, List.set_cons_succ, i64_w, i32_w]
                          rfl
                        refine pure_ (i := 17) (N := some 134) (v := ?_) (a' := ?_) #[true, true, true, true, true, true, true, true, true, true, true, true, true, true, true, true, true, true, false, false, false, false, false, false, false, false, false, false, false, false] rfl rfl (any_of HT_.out (by kernel_rfl)) (fun _ _ _ h => h) (Or.inl ⟨by rfl, ?_⟩) ?_ ?_
                        rotate_left
                        · intro w'
                          go_simp
                          with_reducible rfl
                        rotate_left
                        · simp only [Act.put, List.setIfInBounds_toArray, List.set_cons_zero, List.set_cons_succ, i64_w, i32_w]
                          rfl
                        refine pure_ (i := 18) (N := some 135) (v := ?_) (a' := ?_) #[true, true, true, true, true, true, true, true, true, true, true, true, true, true, true, true, true, true, true, false, false, false, false, false, false, false, false, false, false, false] rfl rfl (any_of HT_.out (by kernel_rfl)) (fun _ _ _ h => h) (Or.inl ⟨by rfl, ?_⟩) ?_ ?_
                        rotate_left
                        · intro w'
                          go_simp
                          with_reducible rfl
                        rotate_left
                        · simp only [Act.put, List.setIfInBounds_toArray, List.set_cons_zero, List.set_cons_succ, i64_w, i32_w]
                          rfl
                        refine take_ (i := 19) (N := some 136) (v := ?_) (a' := ?_) #[true, true, true, true, true, true, true, true, true, true, true, true, true, true, true, true, true, true, true, true, false, false, false, false, false, false, false, false, false, false] rfl rfl (take_ofW HT_.out HW_.out (by kernel_rfl)) (fun _ _ _ h => h) (Or.inl ⟨by rfl, ?_⟩) hHeld ?_ ?_
                        rotate_left
                        · rintro w' ⟨s0, s1, s2, s3, s4, s5, s6, s7, s8, s9⟩
                          go_simp
                          with_reducible rfl
                        rotate_left
                        · simp only [Act.put, List.setIfInBounds_toArray, List.set_cons_zero, List.set_cons_succ, i64_w, i32_w]
                          rfl
                        refine pure_ (i := 20) (N := some 137) (v := ?_) (a' := ?_) #[true, true, true, true, true, true, true, true, true, true, true, true, true, true, true, true, true, true, true, true, true, false, false, false, false, false, false, false, false, false] rfl rfl (any_of HT_.out (by kernel_rfl)) (fun _ _ _ h => h) (Or.inl ⟨by rfl, ?_⟩) ?_ ?_
                        rotate_left
                        · intro w'
                          go_simp
                          with_reducible rfl
                        rotate_left
                        · simp only [Act.put, List.setIfInBounds_toArray, List.set_cons_zero, List.set_cons_succ, i64_w, i32_w]
                          rfl
                        refine pure_ (i := 21) (N := some 138) (v := ?_) (a' := ?_) #[true, true, true, true, true, true, true, true, true, true, true, true, true, true, true, true, true, true, true, true, true, true, false, false, false, false, false, false, false, false] rfl rfl (any_of HT_.out (by kernel_rfl)) (fun _ _ _ h => h) (Or.inl ⟨by rfl, ?_⟩) ?_ ?_
                        rotate_left
                        · intro w'
                          go_simp
                          with_reducible rfl
                        rotate_left
                        · simp only [Act.put, List.setIfInBounds_toArray, List.set_cons_zero, List.set_cons_succ, i64_w, i32_w]
                          rfl
                        refine pure_ (i := 22) (N := some 139) (v := ?_) (a' := ?_) #[true, true, true, true, true, true, true, true, true, true, true, true, true, true, true, true, true, true, true, true, true, true, true, false, false, false, false, false, false, false] rfl rfl (any_of HT_.out (by kernel_rfl)) (fun _ _ _ h => h) (Or.inl ⟨by rfl, ?_⟩) ?_ ?_
                        rotate_left
                        · intro w'
                          go_simp
                          with_reducible rfl
                        rotate_left
                        · simp only [Act.put, List.setIfInBounds_toArray, List.set_cons_zero, List.set_cons_succ, i64_w, i32_w]
                          rfl
                        refine take_ (i := 23) (N := some 140) (v := ?_) (a' := ?_) #[true, true, true, true, true, true, true, true, true, true, true, true, true, true, true, true, true, true, true, true, true, true, true, true, false, false, false, false, false, false] rfl rfl (take_ofW HT_.out HW_.out (by kernel_rfl)) (fun _ _ _ h => h) (Or.inl ⟨by rfl, ?_⟩) hHeld ?_ ?_
                        rotate_left
                        · rintro w' ⟨s0, s1, s2, s3, s4, s5, s6, s7, s8, s9⟩
                          go_simp
                          with_reducible rfl
                        rotate_left
                        · simp only [Act.put, List.setIfInBounds_toArray, List.set_cons_zero, List.set_cons_succ, i64_w, i32_w]
                          rfl
                        refine pure_ (i := 24) (N := some 141) (v := ?_) (a' := ?_) #[true, true, true, true, true, true, true, true, true, true, true, true, true, true, true, true, true, true, true, true, true, true, true, true, true, false, false, false, false, false] rfl rfl (any_of HT_.out (by kernel_rfl)) (fun _ _ _ h => h) (Or.inl ⟨by rfl, ?_⟩) ?_ ?_
                        rotate_left
                        · intro w'
                          go_simp
                          with_reducible rfl
                        rotate_left
                        · simp only [Act.put, List.setIfInBounds_toArray, List.set_cons_zero, List.set_cons_succ, i64_w, i32_w]
                          rfl
                        refine take_ (i := 25) (N := some 142) (v := ?_) (a' := ?_) #[true, true, true, true, true, true, true, true, true, true, true, true, true, true, true, true, true, true, true, true, true, true, true, true, true, true, false, false, false, false] rfl rfl (take_ofW HT_.out HW_.out (by kernel_rfl)) (fun _ _ _ h => h) (Or.inl ⟨by rfl, ?_⟩) hHeld ?_ ?_
                        rotate_left
                        · rintro w' ⟨s0, s1, s2, s3, s4, s5, s6, s7, s8, s9⟩
                          go_simp
                          with_reducible rfl
                        rotate_left
                        · simp only [Act.put, List.setIfInBounds_toArray, List.set_cons_zero, List.set_cons_succ, i64_w, i32_w]
                          rfl
                        refine pure_ (i := 26) (N := some 143) (v := ?_) (a' := ?_) #[true, true, true, true, true, true, true, true, true, true, true, true, true, true, true, true, true, true, true, true, true, true, true, true, true, true, true, false, false, false] rfl rfl (any_of HT_.out (by kernel_rfl)) (fun _ _ _ h => h) (Or.inl ⟨by rfl, ?_⟩) ?_ ?_
                        rotate_left
                        · intro w'
                          go_simp
                          with_reducible rfl
                        rotate_left
                        · simp only [Act.put, List.setIfInBounds_toArray, List.set_cons_zero, List.set_cons_succ, i64_w, i32_w]
                          rfl
                        refine pure_ (i := 27) (N := some 144) (v := ?_) (a' := ?_) #[true, true, true, true, true, true, true, true, true, true, true, true, true, true, true, true, true, true, true, true, true, true, true, true, true, true, true, true, false, false] rfl rfl (any_of HT_.out (by kernel_rfl)) (fun _ _ _ h => h) (Or.inl ⟨by rfl, ?_⟩) ?_ ?_
                        rotate_left
                        · intro w'
                          go_simp
                          with_reducible rfl
                        rotate_left
                        · simp only [Act.put, List.setIfInBounds_toArray, List.set_cons_zero, List.set_cons_succ, i64_w, i32_w]
                          rfl
                        refine pure_ (i := 28) (N := some 145) (v := ?_) (a' := ?_) #[true, true, true, true, true, true, true, true, true, true, true, true, true, true, true, true, true, true, true, true, true, true, true, true, true, true, true, true, true, false] rfl rfl (any_of HT_.out (by kernel_rfl)) (fun _ _ _ h => h) (Or.inl ⟨by rfl, ?_⟩) ?_ ?_
                        rotate_left
                        · intro w'
                          go_simp
                          with_reducible rfl
                        rotate_left
                        · simp only [Act.put, List.setIfInBounds_toArray, List.set_cons_zero, List.set_cons_succ, i64_w, i32_w]
                          rfl
                        refine pure_ (i := 29) (N := some 13) (v := ?_) (a' := ?_) #[true, true, true, true, true, true, true, true, true, true, true, true, true, true, true, true, true, true, true, true, true, true, true, true, true, true, true, true, true, true] rfl rfl (any_of HT_.out (by kernel_rfl)) (fun _ _ _ h => h) (Or.inl ⟨by rfl, ?_⟩) ?_ ?_
                        rotate_left
                        · intro w'
                          go_simp
                          with_reducible rfl
                        rotate_left
                        · simp only [Act.put, List.setIfInBounds_toArray, List.set_cons_zero, List.set_cons_succ, i64_w, i32_w]
                          rfl
                        refine done_ (done_of HT_.out (by kernel_rfl)) ?_
                        go_wp2
                        go_roundg (sr'.length - (j + 1))
                        case measure => omega
                        case rel => exact ⟨j + 1, by rw [XFS.out]; rw [decide_eq_true Xya.out]; rfl, by show Value.int .i64 (wrap64 ((j : Int) + 1)) = _; rw [show wrap64 ((j : Int) + 1) = ((j + 1 : Nat) : Int) from by have := Kd.C_max HC_r.out; unfold wrap64; omega], ⟨by omega, rfl⟩, HZ4⟩
                      · have c133 : (y.f0 == s) = false := by simpa using hya
                        have Xya := Aside0.mk hya
                        clear hya
                        refine start_ (n := 30) (S := fun w' => w'.cell? ⟨gt, 0, none⟩ = some (.int .i64 t.f0) ∧ w'.cell? ⟨gt, 1, none⟩ = some (.int .i64 t.f1) ∧ w'.cell? ⟨b1, 0, none⟩ = some (.int .u32 g') ∧ w'.cell? ⟨b1, 1, none⟩ = some (.bool e') ∧ w'.cell? ⟨b1, 2, none⟩ = some (.int .i64 lf') ∧ w'.cell? ⟨b1, 3, none⟩ = some (.slice (some ad3) sr'.length c_r) ∧ w'.cell? ⟨(ad.add (i * 2)).block, (ad.add (i * 2)).off + 1, none⟩ = some (.slice (some ad2) q.f1.length c_s) ∧ w'.cell? (ad2.add k) = some (.int .u32 s) ∧ w'.cell? (ad3.add (j * 2)) = some (.int .u32 y.f0) ∧ w'.cell? ⟨(ad3.add (j * 2)).block, (ad3.add (j * 2)).off + 1, none⟩ = some (.int .i64 y.f1)) (ds := []) #[false, false, false, false, false, false, false, false, false, false, false, false, false, false, false, false, false, false, false, false, false, false, false, false, false, false, false, false, false, false] (by kernel_rfl) rfl rfl ⟨hc_gt_0, hc_gt_1, hc_b1_0, hc_b1_1, hc_b1_2, hc_b1_3, hx1, hy0, hz0, hz1⟩ (fun hHeld => ?_); refine with_tabW mq_t23 mq_b23 (fun HT_ HW_ => ?_)
                        have hB : Below wf.heap.size wf wf.drew := below_drew (Below.refl _ _)
                        generalize wf.drew = w14_ at hB hHeld ⊢
                        replace HB := mvH HB hB
                        replace HZ4 := mvH HZ4 hB
                        clear hc_gt_0 hf_gt_0 hc_gt_1 hf_gt_1
                        replace BK_gt := mvB BK_gt hB
                        have hc_gt_0 : w14_.cell? ⟨gt, 0, none⟩ = some (.int .i64 t.f0) := (blk_cell BK_gt.out 0).trans rfl
                        have hf_gt_0 := blk_frozen BK_gt.out 0
                        have hc_gt_1 : w14_.cell? ⟨gt, 1, none⟩ = some (.int .i64 t.f1) := (blk_cell BK_gt.out 1).trans rfl
                        have hf_gt_1 := blk_frozen BK_gt.out 1
                        clear hc_gm_0 hf_gm_0 hc_gm_1 hf_gm_1 hc_gm_2 hf_gm_2 hc_gm_3 hf_gm_3
                        replace BK_gm := mvB BK_gm hB
                        have hc_gm_0 : w14_.cell? ⟨gm, 0, none⟩ = some (.int .u32 g) := (blk_cell BK_gm.out 0).trans rfl
                        have hf_gm_0 := blk_frozen BK_gm.out 0
                        have hc_gm_1 : w14_.cell? ⟨gm, 1, none⟩ = some (.bool ex) := (blk_cell BK_gm.out 1).trans rfl
                        have hf_gm_1 := blk_frozen BK_gm.out 1
                        have hc_gm_2 : w14_.cell? ⟨gm, 2, none⟩ = some (.int .i64 lf) := (blk_cell BK_gm.out 2).trans rfl
                        have hf_gm_2 := blk_frozen BK_gm.out 2
                        have hc_gm_3 : w14_.cell? ⟨gm, 3, none⟩ = some (.slice A_x sr.length c_x) := (blk_cell BK_gm.out 3).trans rfl
                        have hf_gm_3 := blk_frozen BK_gm.out 3
                        clear hc_b1_0 hf_b1_0 hc_b1_1 hf_b1_1 hc_b1_2 hf_b1_2 hc_b1_3 hf_b1_3
                        replace BK_b1 := mvB BK_b1 hB
                        have hc_b1_0 : w14_.cell? ⟨b1, 0, none⟩ = some (.int .u32 g') := (blk_cell BK_b1.out 0).trans rfl
                        have hf_b1_0 := blk_frozen BK_b1.out 0
                        have hc_b1_1 : w14_.cell? ⟨b1, 1, none⟩ = some (.bool e') := (blk_cell BK_b1.out 1).trans rfl
                        have hf_b1_1 := blk_frozen BK_b1.out 1
                        have hc_b1_2 : w14_.cell? ⟨b1, 2, none⟩ = some (.int .i64 lf') := (blk_cell BK_b1.out 2).trans rfl
                        have hf_b1_2 := blk_frozen BK_b1.out 2
                        have hc_b1_3 : w14_.cell? ⟨b1, 3, none⟩ = some (.slice (some ad3) sr'.length c_r) := (blk_cell BK_b1.out 3).trans rfl
                        have hf_b1_3 := blk_frozen BK_b1.out 3
                        replace HC_r := mvC HC_r hB
                        replace HC_q := mvC HC_q hB
                        replace HC_s := mvC HC_s hB
                        replace hx0 := mvc hx0 hB
                        replace hx1 := mvc hx1 hB
                        replace hy0 := mvc hy0 hB
                        replace hz0 := mvc hz0 hB
                        replace hz1 := mvc hz1 hB
                        clear hB
                        refine pure_ (i := 0) (N := some 117) (v := ?_) (a' := ?_) #[true, false, false, false, false, false, false, false, false, false, false, false, false, false, false, false, false, false, false, false, false, false, false, false, false, false, false, false, false, false] rfl rfl (any_of HT_.out (by kernel_rfl)) (fun _ _ _ h => h) (Or.inl ⟨by rfl, ?_⟩) ?_ ?_
                        rotate_left
                        · intro w'
                          go_simp
                          with_reducible rfl
                        rotate_left
                        · simp only [Act.put, List.setIfInBounds_toArray, List.set_cons_zero, List.set_cons_succ, i64_w, i32_w]
                          rfl
                        refine pure_ (i := 1) (N := some 118) (v := ?_) (a' := ?_) #[true, true, false, false, false, false, false, false, false, false, false, false, false, false, false, false, false, false, false, false, false, false, false, false, false, false, false, false, false, false] rfl rfl (any_of HT_.out (by kernel_rfl)) (fun _ _ _ h => h) (Or.inl ⟨by rfl, ?_⟩) ?_ ?_
                        rotate_left
                        · intro w'
                          go_simp
                          with_reducible rfl
                        rotate_left
                        · simp only [Act.put, List.setIfInBounds_toArray, List.set_cons_zero, List.set_cons_succ, i64_w, i32_w]
                          rfl
                        refine pure_ (i := 2) (N := some 119) (v := ?_) (a' := ?_) #[true, true, true, false, false, false, false, false, false, false, false, false, false, false, false, false, false, false, false, false, false, false, false, false, false, false, false, false, false, false] rfl rfl (any_of HT_.out (by kernel_rfl)) (fun _ _ _ h => h) (Or.inl ⟨by rfl, ?_⟩) ?_ ?_
                        rotate_left
                        · intro w'
                          go_simp
                          with_reducible rfl
                        rotate_left
                        · simp only [Act.put, List.setIfInBounds_toArray, List.set_cons_zero, List.set_cons_succ, i64_w, i32_w]
                          rfl
                        refine take_ (i := 3) (N := some 120) (v := ?_) (a' := ?_) #[true, true, true, true, false, false, false, false, false, false, false, false, false, false, false, false, false, false, false, false, false, false, false, false, false, false, false, false, false, false] rfl rfl (take_ofW HT_.out HW_.out (by kernel_rfl)) (fun _ _ _ h => h) (Or.inl ⟨by rfl, ?_⟩) hHeld ?_ ?_
                        rotate_left
                        · rintro w' ⟨s0, s1, s2, s3, s4, s5, s6, s7, s8, s9⟩
                          go_simp
                          with_reducible rfl
                        rotate_left
                        · simp only [Act.put, List.setIfInBounds_toArray, List.set_cons_zero, List.set_cons_succ, i64_w, i32_w]
                          rfl
                        refine pure_ (i := 4) (N := some 121) (v := ?_) (a' := ?_) #[true, true, true, true, true, false, false, false, false, false, false, false, false, false, false, false, false, false, false, false, false, false, false, false, false, false, false, false, false, false] rfl rfl (any_of HT_.out (by kernel_rfl)) (fun _ _ _ h => h) (Or.inl ⟨by rfl, ?_⟩) ?_ ?_
                        rotate_left
                        · intro w'
                          go_simp
                          with_reducible rfl
                        rotate_left
                        · simp only [Act.put, List.setIfInBounds_toArray, List.set_cons_zero, List.set_cons_succ, i64_w, i32_w]
                          rfl
                        refine pure_ (i := 5) (N := some 122) (v := ?_) (a' := ?_) #[true, true, true, true, true, true, false, false, false, false, false, false, false, false, false, false, false, false, false, false, false, false, false, false, false, false, false, false, false, false] rfl rfl (any_of HT_.out (by kernel_rfl)) (fun _ _ _ h => h) (Or.inl ⟨by rfl, ?_⟩) ?_ ?_
                        rotate_left
                        · intro w'
                          go_simp
                          with_reducible rfl
                        rotate_left
                        · simp only [Act.put, List.setIfInBounds_toArray, List.set_cons_zero, List.set_cons_succ, i64_w, i32_w]
                          rfl
                        refine pure_ (i := 6) (N := some 123) (v := ?_) (a' := ?_) #[true, true, true, true, true, true, true, false, false, false, false, false, false, false, false, false, false, false, false, false, false, false, false, false, false, false, false, false, false, false] rfl rfl (any_of HT_.out (by kernel_rfl)) (fun _ _ _ h => h) (Or.inl ⟨by rfl, ?_⟩) ?_ ?_
                        rotate_left
                        · intro w'
                          go_simp
                          with_reducible rfl
                        rotate_left
                        · simp only [Act.put, List.setIfInBounds_toArray, List.set_cons_zero, List.set_cons_succ, i64_w, i32_w]
                          rfl
                        refine take_ (i := 7) (N := some 124) (v := ?_) (a' := ?_) #[true, true, true, true, true, true, true, true, false, false, false, false, false, false, false, false, false, false, false, false, false, false, false, false, false, false, false, false, false, false] rfl rfl (take_ofW HT_.out HW_.out (by kernel_rfl)) (fun _ _ _ h => h) (Or.inl ⟨by rfl, ?_⟩) hHeld ?_ ?_
                        rotate_left
                        · rintro w' ⟨s0, s1, s2, s3, s4, s5, s6, s7, s8, s9⟩
                          go_simp
                          with_reducible rfl
                        rotate_left
                        · simp only [Act.put, List.setIfInBounds_toArray, List.set_cons_zero, List.set_cons_succ, i64_w, i32_w]
                          rfl
                        refine pure_ (i := 8) (N := some 125) (v := ?_) (a' := ?_) #[true, true, true, true, true, true, true, true, true, false, false, false, false, false, false, false, false, false, false, false, false, false, false, false, false, false, false, false, false, false] rfl rfl (any_of HT_.out (by kernel_rfl)) (fun _ _ _ h => h) (Or.inl ⟨by rfl, ?_⟩) ?_ ?_
                        rotate_left
                        · intro w'
                          go_simp
                          with_reducible rfl
                        rotate_left
                        · simp only [Act.put, List.setIfInBounds_toArray, List.set_cons_zero, List.set_cons_succ, i64_w, i32_w]
                          rfl
                        refine pure_ (i := 9) (N := some 126) (v := ?_) (a' := ?_) #[true, true, true, true, true, true, true, true, true, true, false, false, false, false, false, false, false, false, false, false, false, false, false, false, false, false, false, false, false, false] rfl rfl (any_of HT_.out (by kernel_rfl)) (fun _ _ _ h => h) (Or.inl ⟨by rfl, ?_⟩) ?_ ?_
                        rotate_left
                        · intro w'
                          go_simp
                          with_reducible rfl
                        rotate_left
                        · simp only [Act.put, List.setIfInBounds_toArray, List.set_cons_zero, List.set_cons_succ, i64_w, i32_w]
                          rfl
                        refine pure_ (i := 10) (N := some 127) (v := ?_) (a' := ?_) #[true, true, true, true, true, true, true, true, true, true, true, false, false, false, false, false, false, false, false, false, false, false, false, false, false, false, false, false, false, false] rfl rfl (any_of HT_.out (by kernel_rfl)) (fun _ _ _ h => h) (Or.inl ⟨by rfl, ?_⟩) ?_ ?_
                        rotate_left
                        · intro w'
                          go_simp
                          with_reducible rfl
                        rotate_left
                        · simp only [Act.put, List.setIfInBounds_toArray, List.set_cons_zero, List.set_cons_succ, i64_w, i32_w]
                          rfl
                        refine pure_ (i := 11) (N := some 128) (v := ?_) (a' := ?_) #[true, true, true, true, true, true, true, true, true, true, true, true, false, false, false, false, false, false, false, false, false, false, false, false, false, false, false, false, false, false] rfl rfl (any_of HT_.out (by kernel_rfl)) (fun _ _ _ h => h) (Or.inl ⟨by rfl, ?_⟩) ?_ ?_
                        rotate_left
                        · intro w'
                          go_simp
                          with_reducible rfl
                        rotate_left
                        · simp only [Act.put, List.setIfInBounds_toArray, List.set_cons_zero, List.set_cons_succ, i64_w, i32_w]
                          rfl
                        refine take_ (i := 12) (N := some 129) (v := ?_) (a' := ?_) #[true, true, true, true, true, true, true, true, true, true, true, true, true, false, false, false, false, false, false, false, false, false, false, false, false, false, false, false, false, false] rfl rfl (take_ofW HT_.out HW_.out (by kernel_rfl)) (fun _ _ _ h => h) (Or.inl ⟨by rfl, ?_⟩) hHeld ?_ ?_
                        rotate_left
                        · rintro w' ⟨s0, s1, s2, s3, s4, s5, s6, s7, s8, s9⟩
                          go_simp
                          with_reducible rfl
                        rotate_left
                        · simp only [Act.put, List.setIfInBounds_toArray, List.set_cons_zero, List.set_cons_succ, i64_w, i32_w]
                          rfl
                        refine pure_ (i := 13) (N := some 130) (v := ?_) (a' := ?_) #[true, true, true, true, true, true, true, true, true, true, true, true, true, true, false, false, false, false, false, false, false, false, false, false, false, false, false, false, false, false] rfl rfl (any_of HT_.out (by kernel_rfl)) (fun _ _ _ h => h) (Or.inl ⟨by rfl, ?_⟩) ?_ ?_
                        rotate_left
                        · intro w'
                          go_simp
                          with_reducible rfl
                        rotate_left
                        · simp only [Act.put, List.setIfInBounds_toArray, List.set_cons_zero, List.set_cons_succ, i64_w, i32_w]
                          rfl
                        refine pure_ (i := 14) (N := some 131) (v := ?_) (a' := ?_) #[true, true, true, true, true, true, true, true, true, true, true, true, true, true, true, false, false, false, false, false, false, false, false, false, false, false, false, false, false, false] rfl rfl (any_of HT_.out (by kernel_rfl)) (fun _ _ _ h => h) (Or.inl ⟨by rfl, ?_⟩) ?_ ?_
                        rotate_left
                        · intro w'
                          go_simp
                          with_reducible rfl
                        rotate_left
                        · simp only [Act.put, List.setIfInBounds_toArray, List.set_cons_zero, List.set_cons_succ, i64_w, i32_w]
                          rfl
                        refine take_ (i := 15) (N := some 132) (v := ?_) (a' := ?_) #[true, true, true, true, true, true, true, true, true, true, true, true, true, true, true, true, false, false, false, false, false, false, false, false, false, false, false, false, false, false] rfl rfl (take_ofW HT_.out HW_.out (by kernel_rfl)) (fun _ _ _ h => h) (Or.inl ⟨by rfl, ?_⟩) hHeld ?_ ?_
                        rotate_left
                        · rintro w' ⟨s0, s1, s2, s3, s4, s5, s6, s7, s8, s9⟩
                          go_simp
                          with_reducible rfl
                        rotate_left
                        · simp only [Act.put, List.setIfInBounds_toArray, List.set_cons_zero, List.set_cons_succ, i64_w, i32_w]
                          rfl
                        refine pure_ (i := 16) (N := some 133) (v := ?_) (a' := ?_) #[true, true, true, true, true, true, true, true, true, true, true, true, true, true, true, true, true, false, false, false, false, false, false, false, false, false, false, false, false, false] rfl rfl (any_of HT_.out (by kernel_rfl)) (fun _ _ _ h => h) (Or.inl ⟨by rfl, ?_⟩) ?_ ?_
                        rotate_left
                        · intro w'
                          go_simp
                          with_reducible rfl
                        rotate_left
                        · simp only [Act.put, List.setIfInBounds_toArray, List.set_cons_zero, List.set_cons_succ, i64_w, i32_w]
                          rfl
                        refine pure_ (i := 17) (N := some 134) (v := ?_) (a' := ?_) #[true, true, true, true, true, true, true, true, true, true, true, true, true, true, true, true, true, true, false, false, false, false, false, false, false, false, false, false, false, false] rfl rfl (any_of HT_.out (by kernel_rfl)) (fun _ _ _ h => h) (Or.inl ⟨by rfl, ?_⟩) ?_ ?_
                        rotate_left
                        · intro w'
                          go_simp
                          with_reducible rfl
                        rotate_left
                        · simp only [Act.put, List.setIfInBounds_toArray, List.set_cons_zero, List.set_cons_succ, i64_w, i32_w]
                          rfl
                        refine pure_ (i := 18) (N := some 135) (v := undef) (a' := ?_) #[true, true, true, true, true, true, true, true, true, true, true, true, true, true, true, true, true, true, true, false, false, false, false, false, false, false, false, false, false, false] rfl rfl (any_of HT_.out (by kernel_rfl)) (fun _ _ _ h => h) (Or.inr ⟨by rfl, rfl⟩) ?_ ?_
                        rotate_left
                        · simp only [Act.put, List.setIfInBounds_toArray, List.set_cons_zero, List.set_cons_succ, i64_w, i32_w]
                          rfl
                        refine pure_ (i := 19) (N := some 136) (v := undef) (a' := ?_) #[true, true, true, true, true, true, true, true, true, true, true, true, true, true, true, true, true, true, true, true, false, false, false, false, false, false, false, false, false, false] rfl rfl (any_of HT_.out (by kernel_rfl)) (fun _ _ _ h => h) (Or.inr ⟨by rfl, rfl⟩) ?_ ?_
                        rotate_left
                        · simp only [Act.put, List.setIfInBounds_toArray, List.set_cons_zero, List.set_cons_succ, i64_w, i32_w]
                          rfl
                        refine pure_ (i := 20) (N := some 137) (v := undef) (a' := ?_) #[true, true, true, true, true, true, true, true, true, true, true, true, true, true, true, true, true, true, true, true, true, false, false, false, false, false, false, false, false, false] rfl rfl (any_of HT_.out (by kernel_rfl)) (fun _ _ _ h => h) (Or.inr ⟨by rfl, rfl⟩) ?_ ?_
                        rotate_left
                        · simp only [Act.put, List.setIfInBounds_toArray, List.set_cons_zero, List.set_cons_succ, i64_w, i32_w]
                          rfl
                        refine pure_ (i := 21) (N := some 138) (v := undef) (a' := ?_) #[true, true, true, true, true, true, true, true, true, true, true, true, true, true, true, true, true, true, true, true, true, true, false, false, false, false, false, false, false, false] rfl rfl (any_of HT_.out (by kernel_rfl)) (fun _ _ _ h => h) (Or.inr ⟨by rfl, rfl⟩) ?_ ?_
                        rotate_left
                        · simp only [Act.put, List.setIfInBounds_toArray, List.set_cons_zero, List.set_cons_succ, i64_w, i32_w]
                          rfl
                        refine pure_ (i := 22) (N := some 139) (v := undef) (a' := ?_) #[true, true, true, true, true, true, true, true, true, true, true, true, true, true, true, true, true, true, true, true, true, true, true, false, false, false, false, false, false, false] rfl rfl (any_of HT_.out (by kernel_rfl)) (fun _ _ _ h => h) (Or.inr ⟨by rfl, rfl⟩) ?_ ?_
                        rotate_left
                        · simp only [Act.put, List.setIfInBounds_toArray, List.set_cons_zero, List.set_cons_succ, i64_w, i32_w]
                          rfl
                        refine pure_ (i := 23) (N := some 140) (v := undef) (a' := ?_) #[true, true, true, true, true, true, true, true, true, true, true, true, true, true, true, true, true, true, true, true, true, true, true, true, false, false, false, false, false, false] rfl rfl (any_of HT_.out (by kernel_rfl)) (fun _ _ _ h => h) (Or.inr ⟨by rfl, rfl⟩) ?_ ?_
                        rotate_left
                        · simp only [Act.put, List.setIfInBounds_toArray, List.set_cons_zero, List.set_cons_succ, i64_w, i32_w]
                          rfl
                        refine pure_ (i := 24) (N := some 141) (v := undef) (a' := ?_) #[true, true, true, true, true, true, true, true, true, true, true, true, true, true, true, true, true, true, true, true, true, true, true, true, true, false, false, false, false, false] rfl rfl (any_of HT_.out (by kernel_rfl)) (fun _ _ _ h => h) (Or.inr ⟨by rfl, rfl⟩) ?_ ?_
                        rotate_left
                        · simp only [Act.put, List.setIfInBounds_toArray, List.set_cons_zero, List.set_cons_succ, i64_w, i32_w]
                          rfl
                        refine pure_ (i := 25) (N := some 142) (v := undef) (a' := ?_) #[true, true, true, true, true, true, true, true, true, true, true, true, true, true, true, true, true, true, true, true, true, true, true, true, true, true, false, false, false, false] rfl rfl (any_of HT_.out (by kernel_rfl)) (fun _ _ _ h => h) (Or.inr ⟨by rfl, rfl⟩) ?_ ?_
                        rotate_left
                        · simp only [Act.put, List.setIfInBounds_toArray, List.set_cons_zero, List.set_cons_succ, i64_w, i32_w]
                          rfl
                        refine pure_ (i := 26) (N := some 143) (v := undef) (a' := ?_) #[true, true, true, true, true, true, true, true, true, true, true, true, true, true, true, true, true, true, true, true, true, true, true, true, true, true, true, false, false, false] rfl rfl (any_of HT_.out (by kernel_rfl)) (fun _ _ _ h => h) (Or.inr ⟨by rfl, rfl⟩) ?_ ?_
                        rotate_left
                        · simp only [Act.put, List.setIfInBounds_toArray, List.set_cons_zero, List.set_cons_succ, i64_w, i32_w]
                          rfl
                        refine pure_ (i := 27) (N := some 144) (v := ?_) (a' := ?_) #[true, true, true, true, true, true, true, true, true, true, true, true, true, true, true, true, true, true, true, true, true, true, true, true, true, true, true, true, false, false] rfl rfl (any_of HT_.out (by kernel_rfl)) (fun _ _ _ h => h) (Or.inl ⟨by rfl, ?_⟩) ?_ ?_
                        rotate_left
                        · intro w'
                          go_simp
                          with_reducible rfl
                        rotate_left
                        · simp only [Act.put, List.setIfInBounds_toArray, List.set_cons_zero, List.set_cons_succ, i64_w, i32_w]
                          rfl
                        refine pure_ (i := 28) (N := some 145) (v := ?_) (a' := ?_) #[true, true, true, true, true, true, true, true, true, true, true, true, true, true, true, true, true, true, true, true, true, true, true, true, true, true, true, true, true, false] rfl rfl (any_of HT_.out (by kernel_rfl)) (fun _ _ _ h => h) (Or.inl ⟨by rfl, ?_⟩) ?_ ?_
                        rotate_left
                        · intro w'
                          go_simp
                          with_reducible rfl
                        rotate_left
                        · simp only [Act.put, List.setIfInBounds_toArray, List.set_cons_zero, List.set_cons_succ, i64_w, i32_w]
                          rfl
                        refine pure_ (i := 29) (N := some 13) (v := ?_) (a' := ?_) #[true, true, true, true, true, true, true, true, true, true, true, true, true, true, true, true, true, true, true, true, true, true, true, true, true, true, true, true, true, true] rfl rfl (any_of HT_.out (by kernel_rfl)) (fun _ _ _ h => h) (Or.inl ⟨by rfl, ?_⟩) ?_ ?_
                        rotate_left
                        · intro w'
                          go_simp
                          with_reducible rfl
                        rotate_left
                        · simp only [Act.put, List.setIfInBounds_toArray, List.set_cons_zero, List.set_cons_succ, i64_w, i32_w]
                          rfl
                        refine done_ (done_of HT_.out (by kernel_rfl)) ?_
                        go_wp2
                        go_roundg (sr'.length - (j + 1))
                        case measure => omega
                        case rel => exact ⟨j + 1, by rw [XFS.out]; rw [decide_eq_false Xya.out]; rfl, by show Value.int .i64 (wrap64 ((j : Int) + 1)) = _; rw [show wrap64 ((j : Int) + 1) = ((j + 1 : Nat) : Int) from by have := Kd.C_max HC_r.out; unfold wrap64; omega], ⟨by omega, rfl⟩, HZ4⟩
                    · refine start_ (n := 30) (S := fun w' => w'.cell? ⟨gt, 0, none⟩ = some (.int .i64 t.f0) ∧ w'.cell? ⟨gt, 1, none⟩ = some (.int .i64 t.f1) ∧ w'.cell? ⟨b1, 0, none⟩ = some (.int .u32 g') ∧ w'.cell? ⟨b1, 1, none⟩ = some (.bool e') ∧ w'.cell? ⟨b1, 2, none⟩ = some (.int .i64 lf') ∧ w'.cell? ⟨b1, 3, none⟩ = some (.slice (some ad3) sr'.length c_r) ∧ w'.cell? ⟨(ad.add (i * 2)).block, (ad.add (i * 2)).off + 1, none⟩ = some (.slice (some ad2) q.f1.length c_s) ∧ w'.cell? (ad2.add k) = some (.int .u32 s) ∧ w'.cell? (ad3.add (j * 2)) = some (.int .u32 y.f0) ∧ w'.cell? ⟨(ad3.add (j * 2)).block, (ad3.add (j * 2)).off + 1, none⟩ = some (.int .i64 y.f1)) (ds := []) #[false, false, false, false, false, false, false, false, false, false, false, false, false, false, false, false, false, false, false, false, false, false, false, false, false, false, false, false, false, false] (by kernel_rfl) rfl rfl ⟨hc_gt_0, hc_gt_1, hc_b1_0, hc_b1_1, hc_b1_2, hc_b1_3, hx1, hy0, hz0, hz1⟩ (fun hHeld => ?_); refine with_tabW mq_t23 mq_b23 (fun HT_ HW_ => ?_)
                      have hB : Below wf.heap.size wf wf.drew := below_drew (Below.refl _ _)
                      generalize wf.drew = w14_ at hB hHeld ⊢
                      replace HB := mvH HB hB
                      replace HZ4 := mvH HZ4 hB
                      clear hc_gt_0 hf_gt_0 hc_gt_1 hf_gt_1
                      replace BK_gt := mvB BK_gt hB
                      have hc_gt_0 : w14_.cell? ⟨gt, 0, none⟩ = some (.int .i64 t.f0) := (blk_cell BK_gt.out 0).trans rfl
                      have hf_gt_0 := blk_frozen BK_gt.out 0
                      have hc_gt_1 : w14_.cell? ⟨gt, 1, none⟩ = some (.int .i64 t.f1) := (blk_cell BK_gt.out 1).trans rfl
                      have hf_gt_1 := blk_frozen BK_gt.out 1
                      clear hc_gm_0 hf_gm_0 hc_gm_1 hf_gm_1 hc_gm_2 hf_gm_2 hc_gm_3 hf_gm_3
                      replace BK_gm := mvB BK_gm hB
                      have hc_gm_0 : w14_.cell? ⟨gm, 0, none⟩ = some (.int .u32 g) := (blk_cell BK_gm.out 0).trans rfl
                      have hf_gm_0 := blk_frozen BK_gm.out 0
                      have hc_gm_1 : w14_.cell? ⟨gm, 1, none⟩ = some (.bool ex) := (blk_cell BK_gm.out 1).trans rfl
                      have hf_gm_1 := blk_frozen BK_gm.out 1
                      have hc_gm_2 : w14_.cell? ⟨gm, 2, none⟩ = some (.int .i64 lf) := (blk_cell BK_gm.out 2).trans rfl
                      have hf_gm_2 := blk_frozen BK_gm.out 2
                      have hc_gm_3 : w14_.cell? ⟨gm, 3, none⟩ = some (.slice A_x sr.length c_x) := (blk_cell BK_gm.out 3).trans rfl
                      have hf_gm_3 := blk_frozen BK_gm.out 3
                      clear hc_b1_0 hf_b1_0 hc_b1_1 hf_b1_1 hc_b1_2 hf_b1_2 hc_b1_3 hf_b1_3
                      replace BK_b1 := mvB BK_b1 hB
                      have hc_b1_0 : w14_.cell? ⟨b1, 0, none⟩ = some (.int .u32 g') := (blk_cell BK_b1.out 0).trans rfl
                      have hf_b1_0 := blk_frozen BK_b1.out 0
                      have hc_b1_1 : w14_.cell? ⟨b1, 1, none⟩ = some (.bool e') := (blk_cell BK_b1.out 1).trans rfl
                      have hf_b1_1 := blk_frozen BK_b1.out 1
                      have hc_b1_2 : w14_.cell? ⟨b1, 2, none⟩ = some (.int .i64 lf') := (blk_cell BK_b1.out 2).trans rfl
                      have hf_b1_2 := blk_frozen BK_b1.out 2
                      have hc_b1_3 : w14_.cell? ⟨b1, 3, none⟩ = some (.slice (some ad3) sr'.length c_r) := (blk_cell BK_b1.out 3).trans rfl
                      have hf_b1_3 := blk_frozen BK_b1.out 3
                      replace HC_r := mvC HC_r hB
                      replace HC_q := mvC HC_q hB
                      replace HC_s := mvC HC_s hB
                      replace hx0 := mvc hx0 hB
                      replace hx1 := mvc hx1 hB
                      replace hy0 := mvc hy0 hB
                      replace hz0 := mvc hz0 hB
                      replace hz1 := mvc hz1 hB
                      clear hB
                      refine pure_ (i := 0) (N := some 117) (v := ?_) (a' := ?_) #[true, false, false, false, false, false, false, false, false, false, false, false, false, false, false, false, false, false, false, false, false, false, false, false, false, false, false, false, false, false] rfl rfl (any_of HT_.out (by kernel_rfl)) (fun _ _ _ h => h) (Or.inl ⟨by rfl, ?_⟩) ?_ ?_
                      rotate_left
                      · intro w'
                        go_simp
                        with_reducible rfl
                      rotate_left
                      · simp only [Act.put, List.setIfInBounds_toArray, List.set_cons_zero, List.set_cons_succ, i64_w, i32_w]
                        rfl
                      refine pure_ (i := 1) (N := some 118) (v := ?_) (a' := ?_) #[true, true, false, false, false, false, false, false, false, false, false, false, false, false, false, false, false, false, false, false, false, false, false, false, false, false, false, false, false, false] rfl rfl (any_of HT_.out (by kernel_rfl)) (fun _ _ _ h => h) (Or.inl ⟨by rfl, ?_⟩) ?_ ?_
                      rotate_left
                      · intro w'
                        go_simp
                        with_reducible rfl
                      rotate_left
                      · simp only [Act.put, List.setIfInBounds_toArray, List.set_cons_zero, List.set_cons_succ, i64_w, i32_w]
                        rfl
                      refine pure_ (i := 2) (N := some 119) (v := undef) (a' := ?_) #[true, true, true, false, false, false, false, false, false, false, false, false, false, false, false, false, false, false, false, false, false, false, false, false, false, false, false, false, false, false] rfl rfl (any_of HT_.out (by kernel_rfl)) (fun _ _ _ h => h) (Or.inr ⟨by rfl, rfl⟩) ?_ ?_
                      rotate_left
                      · simp only [Act.put, List.setIfInBounds_toArray, List.set_cons_zero, List.set_cons_succ, i64_w, i32_w]
                        rfl
                      refine pure_ (i := 3) (N := some 120) (v := undef) (a' := ?_) #[true, true, true, true, false, false, false, false, false, false, false, false, false, false, false, false, false, false, false, false, false, false, false, false, false, false, false, false, false, false] rfl rfl (any_of HT_.out (by kernel_rfl)) (fun _ _ _ h => h) (Or.inr ⟨by rfl, rfl⟩) ?_ ?_
                      rotate_left
                      · simp only [Act.put, List.setIfInBounds_toArray, List.set_cons_zero, List.set_cons_succ, i64_w, i32_w]
                        rfl
                      refine pure_ (i := 4) (N := some 121) (v := undef) (a' := ?_) #[true, true, true, true, true, false, false, false, false, false, false, false, false, false, false, false, false, false, false, false, false, false, false, false, false, false, false, false, false, false] rfl rfl (any_of HT_.out (by kernel_rfl)) (fun _ _ _ h => h) (Or.inr ⟨by rfl, rfl⟩) ?_ ?_
                      rotate_left
                      · simp only [Act.put, List.setIfInBounds_toArray, List.set_cons_zero, List.set_cons_succ, i64_w, i32_w]
                        rfl
                      refine pure_ (i := 5) (N := some 122) (v := undef) (a' := ?_) #[true, true, true, true, true, true, false, false, false, false, false, false, false, false, false, false, false, false, false, false, false, false, false, false, false, false, false, false, false, false] rfl rfl (any_of HT_.out (by kernel_rfl)) (fun _ _ _ h => h) (Or.inr ⟨by rfl, rfl⟩) ?_ ?_
                      rotate_left
                      · simp only [Act.put, List.setIfInBounds_toArray, List.set_cons_zero, List.set_cons_succ, i64_w, i32_w]
                        rfl
                      refine pure_ (i := 6) (N := some 123) (v := undef) (a' := ?_) #[true, true, true, true, true, true, true, false, false, false, false, false, false, false, false, false, false, false, false, false, false, false, false, false, false, false, false, false, false, false] rfl rfl (any_of HT_.out (by kernel_rfl)) (fun _ _ _ h => h) (Or.inr ⟨by rfl, rfl⟩) ?_ ?_
                      rotate_left
                      · simp only [Act.put, List.setIfInBounds_toArray, List.set_cons_zero, List.set_cons_succ, i64_w, i32_w]
                        rfl
                      refine pure_ (i := 7) (N := some 124) (v := undef) (a' := ?_) #[true, true, true, true, true, true, true, true, false, false, false, false, false, false, false, false, false, false, false, false, false, false, false, false, false, false, false, false, false, false] rfl rfl (any_of HT_.out (by kernel_rfl)) (fun _ _ _ h => h) (Or.inr ⟨by rfl, rfl⟩) ?_ ?_
                      rotate_left
                      · simp only [Act.put, List.setIfInBounds_toArray, List.set_cons_zero, List.set_cons_succ, i64_w, i32_w]
                        rfl
                      refine pure_ (i := 8) (N := some 125) (v := undef) (a' := ?_) #[true, true, true, true, true, true, true, true, true, false, false, false, false, false, false, false, false, false, false, false, false, false, false, false, false, false, false, false, false, false] rfl rfl (any_of HT_.out (by kernel_rfl)) (fun _ _ _ h => h) (Or.inr ⟨by rfl, rfl⟩) ?_ ?_
                      rotate_left
                      · simp only [Act.put, List.setIfInBounds_toArray, List.set_cons_zero, List.set_cons_succ, i64_w, i32_w]
                        rfl
                      refine pure_ (i := 9) (N := some 126) (v := undef) (a' := ?_) #[true, true, true, true, true, true, true, true, true, true, false, false, false, false, false, false, false, false, false, false, false, false, false, false, false, false, false, false, false, false] rfl rfl (any_of HT_.out (by kernel_rfl)) (fun _ _ _ h => h) (Or.inr ⟨by rfl, rfl⟩) ?_ ?_
                      rotate_left
                      · simp only [Act.put, List.setIfInBounds_toArray, List.set_cons_zero, List.set_cons_succ, i64_w, i32_w]
                        rfl
                      refine pure_ (i := 10) (N := some 127) (v := undef) (a' := ?_) #[true, true, true, true, true, true, true, true, true, true, true, false, false, false, false, false, false, false, false, false, false, false, false, false, false, false, false, false, false, false] rfl rfl (any_of HT_.out (by kernel_rfl)) (fun _ _ _ h => h) (Or.inr ⟨by rfl, rfl⟩) ?_ ?_
                      rotate_left
                      · simp only [Act.put, List.setIfInBounds_toArray, List.set_cons_zero, List.set_cons_succ, i64_w, i32_w]
                        rfl
                      refine pure_ (i := 11) (N := some 128) (v := undef) (a' := ?_) #[true, true, true, true, true, true, true, true, true, true, true, true, false, false, false, false, false, false, false, false, false, false, false, false, false, false, false, false, false, false] rfl rfl (any_of HT_.out (by kernel_rfl)) (fun _ _ _ h => h) (Or.inr ⟨by rfl, rfl⟩) ?_ ?_
                      rotate_left
                      · simp only [Act.put, List.setIfInBounds_toArray, List.set_cons_zero, List.set_cons_succ, i64_w, i32_w]
                        rfl
                      refine pure_ (i := 12) (N := some 129) (v := undef) (a' := ?_) #[true, true, true, true, true, true, true, true, true, true, true, true, true, false, false, false, false, false, false, false, false, false, false, false, false, false, false, false, false, false] rfl rfl (any_of HT_.out (by kernel_rfl)) (fun _ _ _ h => h) (Or.inr ⟨by rfl, rfl⟩) ?_ ?_
                      rotate_left
                      · simp only [Act.put, List.setIfInBounds_toArray, List.set_cons_zero, List.set_cons_succ, i64_w, i32_w]
                        rfl
                      refine pure_ (i := 13) (N := some 130) (v := undef) (a' := ?_) #[true, true, true, true, true, true, true, true, true, true, true, true, true, true, false, false, false, false, false, false, false, false, false, false, false, false, false, false, false, false] rfl rfl (any_of HT_.out (by kernel_rfl)) (fun _ _ _ h => h) (Or.inr ⟨by rfl, rfl⟩) ?_ ?_
                      rotate_left
                      · simp only [Act.put, List.setIfInBounds_toArray, List.set_cons_zero, List.set_cons_succ, i64_w, i32_w]
                        rfl
                      refine pure_ (i := 14) (N := some 131) (v := undef) (a' := ?_) #[true, true, true, true, true, true, true, true, true, true, true, true, true, true, true, false, false, false, false, false, false, false, false, false, false, false, false, false, false, false] rfl rfl (any_of HT_.out (by kernel_rfl)) (fun _ _ _ h => h) (Or.inr ⟨by rfl, rfl⟩) ?_ ?_
                      rotate_left
                      · simp only [Act.put, List.setIfInBounds_toArray, List.set_cons_zero, List.set_cons_succ, i64_w, i32_w]
                        rfl
                      refine pure_ (i := 15) (N := some 132) (v := undef) (a' := ?_) #[true, true, true, true, true, true, true, true, true, true, true, true, true, true, true, true, false, false, false, false, false, false, false, false, false, false, false, false, false, false] rfl rfl (any_of HT_.out (by kernel_rfl)) (fun _ _ _ h => h) (Or.inr ⟨by rfl, rfl⟩) ?_ ?_
                      rotate_left
                      · simp only [Act.put, List.setIfInBounds_toArray, List.set_cons_zero, List.set_cons_succ, i64_w, i32_w]
                        rfl
                      refine pure_ (i := 16) (N := some 133) (v := undef) (a' := ?_) #[true, true, true, true, true, true, true, true, true, true, true, true, true, true, true, true, true, false, false, false, false, false, false, false, false, false, false, false, false, false] rfl rfl (any_of HT_.out (by kernel_rfl)) (fun _ _ _ h => h) (Or.inr ⟨by rfl, rfl⟩) ?_ ?_
                      rotate_left
                      · simp only [Act.put, List.setIfInBounds_toArray, List.set_cons_zero, List.set_cons_succ, i64_w, i32_w]
                        rfl
                      refine pure_ (i := 17) (N := some 134) (v := undef) (a' := ?_) #[true, true, true, true, true, true, true, true, true, true, true, true, true, true, true, true, true, true, false, false, false, false, false, false, false, false, false, false, false, false] rfl rfl (any_of HT_.out (by kernel_rfl)) (fun _ _ _ h => h) (Or.inr ⟨by rfl, rfl⟩) ?_ ?_
                      rotate_left
                      · simp only [Act.put, List.setIfInBounds_toArray, List.set_cons_zero, List.set_cons_succ, i64_w, i32_w]
                        rfl
                      refine pure_ (i := 18) (N := some 135) (v := undef) (a' := ?_) #[true, true, true, true, true, true, true, true, true, true, true, true, true, true, true, true, true, true, true, false, false, false, false, false, false, false, false, false, false, false] rfl rfl (any_of HT_.out (by kernel_rfl)) (fun _ _ _ h => h) (Or.inr ⟨by rfl, rfl⟩) ?_ ?_
                      rotate_left
                      · simp only [Act.put, List.setIfInBounds_toArray, List.set_cons_zero, List.set_cons_succ, i64_w, i32_w]
                        rfl
                      refine pure_ (i := 19) (N := some 136) (v := undef) (a' := ?_) #[true, true, true, true, true, true, true, true, true, true, true, true, true, true, true, true, true, true, true, true, false, false, false, false, false, false, false, false, false, false] rfl rfl (any_of HT_.out (by kernel_rfl)) (fun _ _ _ h => h) (Or.inr ⟨by rfl, rfl⟩) ?_ ?_
                      rotate_left
                      · simp only [Act.put, List.setIfInBounds_toArray, List.set_cons_zero, List.set_cons_succ, i64_w, i32_w]
                        rfl
                      refine pure_ (i := 20) (N := some 137) (v := undef) (a' := ?_) #[true, true, true, true, true, true, true, true, true, true, true, true, true, true, true, true, true, true, true, true, true, false, false, false, false, false, false, false, false, false] rfl rfl (any_of HT_.out (by kernel_rfl)) (fun _ _ _ h => h) (Or.inr ⟨by rfl, rfl⟩) ?_ ?_
                      rotate_left
                      · simp only [Act.put, List.setIfInBounds_toArray, List.set_cons_zero, List.set_cons_succ, i64_w, i32_w]
                        rfl
                      refine pure_ (i := 21) (N := some 138) (v := undef) (a' := ?_) #[true, true, true, true, true, true, true, true, true, true, true, true, true, true, true, true, true, true, true, true, true, true, false, false, false, false, false, false, false, false] rfl rfl (any_of HT_.out (by kernel_rfl)) (fun _ _ _ h => h) (Or.inr ⟨by rfl, rfl⟩) ?_ ?_
                      rotate_left
                      · simp only [Act.put, List.setIfInBounds_toArray, List.set_cons_zero, List.set_cons_succ, i64_w, i32_w]
                        rfl
                      refine pure_ (i := 22) (N := some 139) (v := undef) (a' := ?_) #[true, true, true, true, true, true, true, true, true, true, true, true, true, true, true, true, true, true, true, true, true, true, true, false, false, false, false, false, false, false] rfl rfl (any_of HT_.out (by kernel_rfl)) (fun _ _ _ h => h) (Or.inr ⟨by rfl, rfl⟩) ?_ ?_
                      rotate_left
                      · simp only [Act.put, List.setIfInBounds_toArray, List.set_cons_zero, List.set_cons_succ, i64_w, i32_w]
                        rfl
                      refine pure_ (i := 23) (N := some 140) (v := undef) (a' := ?_) #[true, true, true, true, true, true, true, true, true, true, true, true, true, true, true, true, true, true, true, true, true, true, true, true, false, false, false, false, false, false] rfl rfl (any_of HT_.out (by kernel_rfl)) (fun _ _ _ h => h) (Or.inr ⟨by rfl, rfl⟩) ?_ ?_
                      rotate_left
                      · simp only [Act.put, List.setIfInBounds_toArray, List.set_cons_zero, List.set_cons_succ, i64_w, i32_w]
                        rfl
                      refine pure_ (i := 24) (N := some 141) (v := undef) (a' := ?_) #[true, true, true, true, true, true, true, true, true, true, true, true, true, true, true, true, true, true, true, true, true, true, true, true, true, false, false, false, false, false] rfl rfl (any_of HT_.out (by kernel_rfl)) (fun _ _ _ h => h) (Or.inr ⟨by rfl, rfl⟩) ?_ ?_
                      rotate_left
                      · simp only [Act.put, List.setIfInBounds_toArray, List.set_cons_zero, List.set_cons_succ, i64_w, i32_w]
                        rfl
                      refine pure_ (i := 25) (N := some 142) (v := undef) (a' := ?_) #[true, true, true, true, true, true, true, true, true, true, true, true, true, true, true, true, true, true, true, true, true, true, true, true, true, true, false, false, false, false] rfl rfl (any_of HT_.out (by kernel_rfl)) (fun _ _ _ h => h) (Or.inr ⟨by rfl, rfl⟩) ?_ ?_
                      rotate_left
                      · simp only [Act.put, List.setIfInBounds_toArray, List.set_cons_zero, List.set_cons_succ, i64_w, i32_w]
                        rfl
                      refine pure_ (i := 26) (N := some 143) (v := undef) (a' := ?_) #[true, true, true, true, true, true, true, true, true, true, true, true, true, true, true, true, true, true, true, true, true, true, true, true, true, true, true, false, false, false] rfl rfl (any_of HT_.out (by kernel_rfl)) (fun _ _ _ h => h) (Or.inr ⟨by rfl, rfl⟩) ?_ ?_
                      rotate_left
                      · simp only [Act.put, List.setIfInBounds_toArray, List.set_cons_zero, List.set_cons_succ, i64_w, i32_w]
                        rfl
                      refine pure_ (i := 27) (N := some 144) (v := undef) (a' := ?_) #[true, true, true, true, true, true, true, true, true, true, true, true, true, true, true, true, true, true, true, true, true, true, true, true, true, true, true, true, false, false] rfl rfl (any_of HT_.out (by kernel_rfl)) (fun _ _ _ h => h) (Or.inr ⟨by rfl, rfl⟩) ?_ ?_
                      rotate_left
                      · simp only [Act.put, List.setIfInBounds_toArray, List.set_cons_zero, List.set_cons_succ, i64_w, i32_w]
                        rfl
                      refine pure_ (i := 28) (N := some 145) (v := ?_) (a' := ?_) #[true, true, true, true, true, true, true, true, true, true, true, true, true, true, true, true, true, true, true, true, true, true, true, true, true, true, true, true, true, false] rfl rfl (any_of HT_.out (by kernel_rfl)) (fun _ _ _ h => h) (Or.inl ⟨by rfl, ?_⟩) ?_ ?_
                      rotate_left
                      · intro w'
                        go_simp
                        with_reducible rfl
                      rotate_left
                      · simp only [Act.put, List.setIfInBounds_toArray, List.set_cons_zero, List.set_cons_succ, i64_w, i32_w]
                        rfl
                      refine pure_ (i := 29) (N := some 13) (v := ?_) (a' := ?_) #[true, true, true, true, true, true, true, true, true, true, true, true, true, true, true, true, true, true, true, true, true, true, true, true, true, true, true, true, true, true] rfl rfl (any_of HT_.out (by kernel_rfl)) (fun _ _ _ h => h) (Or.inl ⟨by rfl, ?_⟩) ?_ ?_
                      rotate_left
                      · intro w'
                        go_simp
                        with_reducible rfl
                      rotate_left
                      · simp only [Act.put, List.setIfInBounds_toArray, List.set_cons_zero, List.set_cons_succ, i64_w, i32_w]
                        rfl
                      refine done_ (done_of HT_.out (by kernel_rfl)) ?_
                      go_wp2
                      go_roundg (sr'.length - (j + 1))
                      case measure => omega
                      case rel => exact ⟨j + 1, by rw [XFS.out]; rfl, by show Value.int .i64 (wrap64 ((j : Int) + 1)) = _; rw [show wrap64 ((j : Int) + 1) = ((j + 1 : Nat) : Int) from by have := Kd.C_max HC_r.out; unfold wrap64; omega], ⟨by omega, rfl⟩, HZ4⟩
                  · have c114 : decide ((j : Int) < (sr'.length : Int)) = false := decide_eq_false (by omega)
                    have hje : j = sr'.length := by omega
                    have hft : fb = true := by rw [XFB.out, hje]; exact XS.out
                    subst hft
                    clear hje
                    go_wp2
                    go_meet
                    case rel => exact ⟨rfl, HZ4⟩
              case rest =>
                obtain ⟨rfl, HZ4⟩ := hcut
                obtain ⟨wg, hren⟩ : ∃ x_, x_ = wc := ⟨_, rfl⟩
                subst hren
                have hB := HZ4.out
                replace HB := mvH HB hB
                replace HZ5 := mvH HZ5 hB
                clear hc_gt_0 hf_gt_0 hc_gt_1 hf_gt_1
                replace BK_gt := mvB BK_gt hB
                have hc_gt_0 : wg.cell? ⟨gt, 0, none⟩ = some (.int .i64 t.f0) := (blk_cell BK_gt.out 0).trans rfl
                have hf_gt_0 := blk_frozen BK_gt.out 0
                have hc_gt_1 : wg.cell? ⟨gt, 1, none⟩ = some (.int .i64 t.f1) := (blk_cell BK_gt.out 1).trans rfl
                have hf_gt_1 := blk_frozen BK_gt.out 1
                clear hc_gm_0 hf_gm_0 hc_gm_1 hf_gm_1 hc_gm_2 hf_gm_2 hc_gm_3 hf_gm_3
                replace BK_gm := mvB BK_gm hB
                have hc_gm_0 : wg.cell? ⟨gm, 0, none⟩ = some (.int .u32 g) := (blk_cell BK_gm.out 0).trans rfl
                have hf_gm_0 := blk_frozen BK_gm.out 0
                have hc_gm_1 : wg.cell? ⟨gm, 1, none⟩ = some (.bool ex) := (blk_cell BK_gm.out 1).trans rfl
                have hf_gm_1 := blk_frozen BK_gm.out 1
                have hc_gm_2 : wg.cell? ⟨gm, 2, none⟩ = some (.int .i64 lf) := (blk_cell BK_gm.out 2).trans rfl
                have hf_gm_2 := blk_frozen BK_gm.out 2
                have hc_gm_3 : wg.cell? ⟨gm, 3, none⟩ = some (.slice A_x sr.length c_x) := (blk_cell BK_gm.out 3).trans rfl
                have hf_gm_3 := blk_frozen BK_gm.out 3
                clear hc_b1_0 hf_b1_0 hc_b1_1 hf_b1_1 hc_b1_2 hf_b1_2 hc_b1_3 hf_b1_3
                replace BK_b1 := mvB BK_b1 hB
                have hc_b1_0 : wg.cell? ⟨b1, 0, none⟩ = some (.int .u32 g') := (blk_cell BK_b1.out 0).trans rfl
                have hf_b1_0 := blk_frozen BK_b1.out 0
                have hc_b1_1 : wg.cell? ⟨b1, 1, none⟩ = some (.bool e') := (blk_cell BK_b1.out 1).trans rfl
                have hf_b1_1 := blk_frozen BK_b1.out 1
                have hc_b1_2 : wg.cell? ⟨b1, 2, none⟩ = some (.int .i64 lf') := (blk_cell BK_b1.out 2).trans rfl
                have hf_b1_2 := blk_frozen BK_b1.out 2
                have hc_b1_3 : wg.cell? ⟨b1, 3, none⟩ = some (.slice A_r sr'.length c_r) := (blk_cell BK_b1.out 3).trans rfl
                have hf_b1_3 := blk_frozen BK_b1.out 3
                replace HC_r := mvC HC_r hB
                replace HC_q := mvC HC_q hB
                replace HC_s := mvC HC_s hB
                replace hx0 := mvc hx0 hB
                replace hx1 := mvc hx1 hB
                replace hy0 := mvc hy0 hB
                clear hB HZ4
                go_wp2
                go_roundg (q.f1.length - (k + 1))
                case measure => omega
                case rel => exact ⟨k + 1, by show Value.int .i64 (wrap64 ((k : Int) + 1)) = _; rw [show wrap64 ((k : Int) + 1) = ((k + 1 : Nat) : Int) from by have := Kd.C_max HC_s.out; unfold wrap64; omega], ⟨by omega, rfl⟩, HZ5⟩
            · have c107 : decide ((k : Int) < (q.f1.length : Int)) = false := decide_eq_false (by omega)
              go_wp2
              go_meet
              case rel => exact ⟨rfl, mvH HZ3 HZ5.out⟩
        case rest =>
          obtain ⟨rfl, HZ4⟩ := hcut
          obtain ⟨wh, hren⟩ : ∃ x_, x_ = wc := ⟨_, rfl⟩
          subst hren
          have hB := HZ4.out
          replace HB := mvH HB hB
          replace HZ := mvH HZ hB
          clear hc_gt_0 hf_gt_0 hc_gt_1 hf_gt_1
          replace BK_gt := mvB BK_gt hB
          have hc_gt_0 : wh.cell? ⟨gt, 0, none⟩ = some (.int .i64 t.f0) := (blk_cell BK_gt.out 0).trans rfl
          have hf_gt_0 := blk_frozen BK_gt.out 0
          have hc_gt_1 : wh.cell? ⟨gt, 1, none⟩ = some (.int .i64 t.f1) := (blk_cell BK_gt.out 1).trans rfl
          have hf_gt_1 := blk_frozen BK_gt.out 1
          clear hc_gm_0 hf_gm_0 hc_gm_1 hf_gm_1 hc_gm_2 hf_gm_2 hc_gm_3 hf_gm_3
          replace BK_gm := mvB BK_gm hB
          have hc_gm_0 : wh.cell? ⟨gm, 0, none⟩ = some (.int .u32 g) := (blk_cell BK_gm.out 0).trans rfl
          have hf_gm_0 := blk_frozen BK_gm.out 0
          have hc_gm_1 : wh.cell? ⟨gm, 1, none⟩ = some (.bool ex) := (blk_cell BK_gm.out 1).trans rfl
          have hf_gm_1 := blk_frozen BK_gm.out 1
          have hc_gm_2 : wh.cell? ⟨gm, 2, none⟩ = some (.int .i64 lf) := (blk_cell BK_gm.out 2).trans rfl
          have hf_gm_2 := blk_frozen BK_gm.out 2
          have hc_gm_3 : wh.cell? ⟨gm, 3, none⟩ = some (.slice A_x sr.length c_x) := (blk_cell BK_gm.out 3).trans rfl
          have hf_gm_3 := blk_frozen BK_gm.out 3
          clear hc_b1_0 hf_b1_0 hc_b1_1 hf_b1_1 hc_b1_2 hf_b1_2 hc_b1_3 hf_b1_3
          replace BK_b1 := mvB BK_b1 hB
          have hc_b1_0 : wh.cell? ⟨b1, 0, none⟩ = some (.int .u32 g') := (blk_cell BK_b1.out 0).trans rfl
          have hf_b1_0 := blk_frozen BK_b1.out 0
          have hc_b1_1 : wh.cell? ⟨b1, 1, none⟩ = some (.bool e') := (blk_cell BK_b1.out 1).trans rfl
          have hf_b1_1 := blk_frozen BK_b1.out 1
          have hc_b1_2 : wh.cell? ⟨b1, 2, none⟩ = some (.int .i64 lf') := (blk_cell BK_b1.out 2).trans rfl
          have hf_b1_2 := blk_frozen BK_b1.out 2
          have hc_b1_3 : wh.cell? ⟨b1, 3, none⟩ = some (.slice A_r sr'.length c_r) := (blk_cell BK_b1.out 3).trans rfl
          have hf_b1_3 := blk_frozen BK_b1.out 3
          replace HC_r := mvC HC_r hB
          replace HC_q := mvC HC_q hB
          clear hB HZ4
          go_wp2
          go_roundg (asks.length - (i + 1))
          case measure => omega
          case rel => exact ⟨i + 1, by show Value.int .i64 (wrap64 ((i : Int) + 1)) = _; rw [show wrap64 ((i : Int) + 1) = ((i + 1 : Nat) : Int) from by have := Xhok.out.1; unfold wrap64; omega], ⟨by omega, rfl⟩, HZ⟩
      · have c80 : decide ((i : Int) < (asks.length : Int)) = false := decide_eq_false (by omega)
        go_wp2
        go_ret
        exact ⟨rfl, HB.out⟩
theorem membAsks_call {t : S23} {x : S28} {kind : Int} {l : List Int} (A_x : Option Addr) (c_x : Nat) (A_l : Option Addr) (c_l : Nat) (w : World) (hr : Kd.C k49 w A_x x.f3.length x.f3) (hc : x.f3.length ≤ c_x) (hs : Kd.C (Kd.int .u32) w A_l l.length l) (hcs : l.length ≤ c_l) :
    Calls Try.prog 4 #[.agg #[.int .i64 t.f0, .int .i64 t.f1, .int .u32 x.f0, .bool x.f1, .int .i64 x.f2, .slice A_x x.f3.length c_x, .int .u8 kind, .slice A_l l.length c_l]] w (fun e w' => e = .returned (.bool true) ∧ Below w.heap.size w w') := membAsks_flat A_x c_x A_l c_l w hr hc hs hcs
end Go.Proofs.Ytbllchfgjginoaa
