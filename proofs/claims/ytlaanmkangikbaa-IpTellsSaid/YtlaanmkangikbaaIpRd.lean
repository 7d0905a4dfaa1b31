/-
 The document's reading of a frame, walked.
-/
import Derived.Test.YtlaanmkangikbaaIpXe
namespace Go.Proofs.Ytlaanmkangikbaa
open Go.RowKit Go.Proofs.YtlaanmkangikbaaW.PrintWords Go.Proofs.YtlaanmkangikbaaW.PrintLast Go.Proofs.YtlaanmkangikbaaW.PrintMore Go.Proofs.Ytlaanmkangikbaa.PIp
set_option linter.unusedVariables false
set_option linter.unusedSimpArgs false
theorem idx_cell {w : World} {ad : Addr} {l : List Int} (h : Kd.C (Kd.int .u8) w (some ad) l.length l) (n : Nat) (h0 : n ≠ 0) (hn : n < l.length) : w.cell? ⟨ad.block, ad.off + n, none⟩ = some (.int .u8 (rd l (n : Int))) := by
 obtain ⟨a2, e, hx⟩ := Kd.at_int h (n : Int) (by omega) (by omega)
 cases e
 rw [Int.toNat_natCast] at hx
 simpa [Addr.add, h0] using hx
theorem idx_cell0 {w : World} {ad : Addr} {l : List Int} (h : Kd.C (Kd.int .u8) w (some ad) l.length l) (hn : 0 < l.length) : w.cell? ad = some (.int .u8 (rd l 0)) := by
 obtain ⟨a2, e, hx⟩ := Kd.at_int h 0 (by omega) (by omega)
 cases e
 simpa [Addr.add] using hx
theorem odd_of {f : List Int} (h : rd f 1 ≠ 0 ∨ rd f 6 ≠ 0 ∨ rd f 7 ≠ 0 ∨ (fAl f = true ∧ (f.take 24).drop 20 ≠ [148, 4, 0, 0]) ∨ fAll f < hlen (fAl f) ∨ 1500 < fAll f) : odd f = true := by
 unfold odd
 rcases h with h | h | h | ⟨h, h'⟩ | h | h
 · rw [bne_iff_ne.2 h]; simp
 · rw [bne_iff_ne.2 h]; simp
 · rw [bne_iff_ne.2 h]; simp
 · rw [h, beq_eq_false_iff_ne.2 h']; simp
 · rw [decide_eq_true h]; simp
 · rw [decide_eq_true (show fAll f > 1500 from h)]; simp
theorem odd_not {f : List Int} (h1 : rd f 1 = 0) (h2 : rd f 6 = 0) (h3 : rd f 7 = 0) (h4 : fAl f = true → (f.take 24).drop 20 = [148, 4, 0, 0]) (h5 : ¬ fAll f < hlen (fAl f)) (h6 : ¬ 1500 < fAll f) : ¬ odd f = true := by
 unfold odd
 rw [h1, h2, h3, decide_eq_false h5, decide_eq_false (show ¬ fAll f > 1500 from h6)]
 cases ha : fAl f with
 | false => simp
 | true => rw [h4 ha]; decide
theorem opt_ne {f : List Int} (h : 24 ≤ f.length) (hn : rd f 20 = 148 → rd f 21 = 4 → rd f 22 = 0 → rd f 23 = 0 → False) : (f.take 24).drop 20 ≠ [148, 4, 0, 0] := fun e => by
 rw [four f 20 h] at e
 simp only [List.cons.injEq] at e
 exact hn e.1 e.2.1 e.2.2.1 e.2.2.2.1
theorem opt_eq {f : List Int} (h : 24 ≤ f.length) (h0 : rd f 20 = 148) (h1 : rd f 21 = 4) (h2 : rd f 22 = 0) (h3 : rd f 23 = 0) : (f.take 24).drop 20 = [148, 4, 0, 0] := by
 rw [four f 20 h]
 exact congr (congrArg _ h0) (congr (congrArg _ h1) (congr (congrArg _ h2) (congrArg (fun x => [x]) h3)))
theorem z6 {W : World} {g : Nat} (h : W.heap[g]? = some (.cells #[.int .u32 0, .int .u32 0, .int .u8 0, .int .u8 0, .int .u16 0, .bool false] 26 (0, 0))) (a b : Value) (c d e x : Value) :
 ((((((W.setCell ⟨g, 0, none⟩ a).setCell ⟨g, 1, none⟩ b).setCell ⟨g, 2, none⟩ c).setCell ⟨g, 3, none⟩ d).setCell ⟨g, 4, none⟩ e).setCell ⟨g, 5, none⟩ x).heap[g]? = some (.cells #[a, b, c, d, e, x] 26 (0, 0)) :=
 blk_put (cs := #[a, b, c, d, e, .bool false]) (blk_put (cs := #[a, b, c, d, .int .u16 0, .bool false]) (blk_put (cs := #[a, b, c, .int .u8 0, .int .u16 0, .bool false]) (blk_put (cs := #[a, b, .int .u8 0, .int .u8 0, .int .u16 0, .bool false]) (blk_put (cs := #[a, .int .u32 0, .int .u8 0, .int .u8 0, .int .u16 0, .bool false]) (blk_put (cs := #[.int .u32 0, .int .u32 0, .int .u8 0, .int .u8 0, .int .u16 0, .bool false]) h 0 a rfl) 1 b rfl) 2 c rfl) 3 d rfl) 4 e rfl) 5 x rfl
theorem b6 {w W : World} {g : Nat} (h : Below w.heap.size w W) (hg : w.heap.size ≤ g) (a b c d e x : Value) :
 Below w.heap.size w ((((((W.setCell ⟨g, 0, none⟩ a).setCell ⟨g, 1, none⟩ b).setCell ⟨g, 2, none⟩ c).setCell ⟨g, 3, none⟩ d).setCell ⟨g, 4, none⟩ e).setCell ⟨g, 5, none⟩ x) :=
 below_set (below_set (below_set (below_set (below_set (below_set h hg) hg) hg) hg) hg) hg
theorem rdec_end {w W : World} {g : Nat} {a : Act} {e0 : Int} (hd : a.defers = []) (h2 : a.tmps.getD 2 undef = .pointer (some ⟨g, 0, none⟩)) (h3 : a.tmps.getD 3 undef = .slice none 0 0) (h4 : a.tmps.getD 4 undef = .int .i64 e0) (hb : W.heap[g]? = some (.cells #[.int .u32 0, .int .u32 0, .int .u8 0, .int .u8 0, .int .u16 0, .bool false] 26 (0, 0))) (hB : Below w.heap.size w W) (hg : w.heap.size ≤ g) :
 bodyPost Try.prog Try.f14 (fun e w' => ∃ v : Value, e = .returned (.tuple #[.agg #[.int .u32 0, .int .u32 0, .int .u8 0, .int .u8 0, .int .u16 0, .bool false], v, .int .i64 e0]) ∧ Kd.R (Kd.int .u8) 5 w' w.heap.size (fun _ => True) v [] ∧ Below w.heap.size w w') .ret a
  ((((((W.setCell ⟨g, 0, none⟩ (.int .u32 0)).setCell ⟨g, 1, none⟩ (.int .u32 0)).setCell ⟨g, 2, none⟩ (.int .u8 0)).setCell ⟨g, 3, none⟩ (.int .u8 0)).setCell ⟨g, 4, none⟩ (.int .u16 0)).setCell ⟨g, 5, none⟩ (.bool false)) := by
 refine bodyPost_ret (results_ctt rfl a.tmps _ g 26 #[.int .u32 0, .int .u32 0, .int .u8 0, .int .u8 0, .int .u16 0, .bool false] (0, 0) _ h2 (z6 hb _ _ _ _ _ _) Try.underlying26 rfl (by kernel_rfl)) hd ?_
 rw [h3, h4]
 exact ⟨_, rfl, Kd.R_nil _ _ _ _ _, b6 hB hg _ _ _ _ _ _⟩
theorem refof_calls {l : List Int} (hb : Byt l) (hl : l.length ≤ 3000) (A : Option Addr) (c : Nat) (w : World) (hr : Kd.C (Kd.int .u8) w A l.length l) (hc : l.length ≤ c) :
 Calls Try.prog 28 #[.slice A l.length c] w fun e w' => e = .returned (.int .u16 (sumOf l)) ∧ Below w.heap.size w w' :=
 (stolonref02_Of.calls (l.length + 1) A c l (sumOf l) w hr hc (Ref.refOf_some l hb hl _ (by omega))).mono (fun e w' hh => ⟨hh.1, by obtain ⟨_, nd, rfl⟩ := hh; exact pw_below_drewN (Below.refl _ _) _⟩)
theorem refat_calls {f : List Int} (hb : Byt f) {n : Nat} (hn : n + 4 ≤ f.length) {l : List Int} (hl : l = (f.take (n + 4)).drop n) (A : Option Addr) (c : Nat) (w : World) (hr : Kd.C (Kd.int .u8) w A l.length l) (hc : l.length ≤ c) :
 Calls Try.prog 29 #[.slice A l.length c] w fun e w' => e = .returned (.tuple #[.int .u32 (aval f n), .int .i64 0]) ∧ Below w.heap.size w w' := by
 rw [four f n hn] at hl
 exact (stolonref01_Of.calls A c l _ _ w hr hc (by rw [hl]; exact Ref.refOfA_some (hb.getD n) (hb.getD (n + 1)) (hb.getD (n + 2)) (hb.getD (n + 3)))).mono (fun e w' hh => ⟨hh.1, by obtain ⟨_, nd, rfl⟩ := hh; exact pw_below_drewN (Below.refl _ _) _⟩)
def rdec_T12 : Bool × List (List Nat × List Nat) := (true, [([], []), ([0], [0]), ([1], [1]), ([2], [2]), ([3], [3]), ([], []), ([5], [5]), ([6], [6]), ([7], [7]), ([4, 8], [4, 8]), ([9, 0, 1, 2, 3, 4, 5, 6, 7, 8, 9], [9])])
def rdec_B12 : List Nat := [0, 1, 3, 7, 15, 0, 32, 96, 224, 511, 1023]
def rdec_T13 : Bool × List (List Nat × List Nat) := (true, [([], []), ([], []), ([], []), ([2], [2]), ([3], [3]), ([], []), ([5], [5]), ([6], [6]), ([], []), ([8], [8]), ([9], [9]), ([10], [10]), ([11], [11]), ([], []), ([13], [13]), ([14], [14]), ([15], [15]), ([12, 16], [12, 16]), ([], []), ([18], [18]), ([0, 1, 4, 7, 17, 19], [0, 1, 4, 7, 17, 19]), ([], []), ([21, 20, 0, 1, 2, 3, 4, 5, 6, 7, 8, 9, 10, 11, 12, 13, 14, 15, 16, 17, 18, 19, 20, 21], [20, 21])])
def rdec_B13 : List Nat := [0, 0, 0, 4, 12, 0, 32, 96, 0, 256, 768, 1792, 3840, 0, 8192, 24576, 57344, 130816, 0, 262144, 1048575, 0, 4194303]
theorem rdec_t12 : rtab .any (opsOf Try.f14 12) = rdec_T12 := by kernel_rfl
theorem rdec_b12 : waitsOk rdec_T12.2 rdec_B12 = true := by kernel_rfl
theorem rdec_t13 : rtab .any (opsOf Try.f14 13) = rdec_T13 := by kernel_rfl
theorem rdec_b13 : waitsOk rdec_T13.2 rdec_B13 = true := by kernel_rfl
set_option maxHeartbeats 8000000 in
set_option maxRecDepth 100000 in
theorem rdec_short {f : List Int} (hl : (f.length : Int) < 20) {e0 : Int} (he : e0 = 3) (A_f : Option Addr) (c_f : Nat) (w : World) (hr : Kd.C (Kd.int .u8) w A_f f.length f) (hc : f.length ≤ c_f) :
 Calls Try.prog 14 #[.slice A_f f.length c_f] w fun e w' => ∃ v : Value, e = .returned (.tuple #[.agg #[.int .u32 0, .int .u32 0, .int .u8 0, .int .u8 0, .int .u16 0, .bool false], v, .int .i64 e0]) ∧ Kd.R (Kd.int .u8) 5 w' w.heap.size (fun _ => True) v [] ∧ Below w.heap.size w w' := by
 have hu26 := Try.underlying26
 subst he
 have HB := Aside0.mk (Below.refl w.heap.size w)
 have HC_f := Aside0.mk hr
 have HK_f := Aside0.mk hc
 clear hr hc
 go_enter Try.func14, Try.ntmps14
 go_wp2_with (first | ((with_reducible refine gate_dst (N := 2) rfl ?_); (try (refine gate_guard (by rfl) ?_; dsimp only)); refine box_event ?hg (N := 2) ?hd (cs := #[.int .u32 0, .int .u32 0, .int .u8 0, .int .u8 0, .int .u16 0, .bool false]) (t := 26) ?hr ?_; (case hd => rfl); (case hg => rfl); (case hr => first | (go_simp; done) | (go_simp; rfl)); intro gq hg w1_ hbox hB; have HBo := Aside0.mk HB.out; have nHB := Aside0.mk (HB.out.trans (hB.mono HB.out.size)); clear HB; have HB := nHB; clear nHB; have BK_gq := Aside0.mk hbox; have GE_gq := Aside0.mk (show w.heap.size ≤ gq by rw [hg]; exact HBo.out.size); clear hg hbox hB; obtain ⟨hc_gq_0, hf_gq_0, hc_gq_1, hf_gq_1, hc_gq_2, hf_gq_2, hc_gq_3, hf_gq_3, hc_gq_4, hf_gq_4, hc_gq_5, hf_gq_5⟩ := six BK_gq.out; clear HBo))
 exact rdec_end rfl rfl rfl rfl BK_gq.out HB.out GE_gq.out
set_option maxHeartbeats 8000000 in
set_option maxRecDepth 100000 in
theorem rdec_walk {f : List Int} (hb : Byt f) (hl : f.length ≤ 1000000) (h20 : ¬ ((f.length : Int) < 20)) {s d p t i : Int} {al : Bool} {b : List Int} {e0 : Int} (hd : dec f = (s, d, p, t, i, al, b, e0)) (A_f : Option Addr) (c_f : Nat) (w : World) (hr : Kd.C (Kd.int .u8) w A_f f.length f) (hc : f.length ≤ c_f) :
 Calls Try.prog 14 #[.slice A_f f.length c_f] w fun e w' => ∃ v : Value, e = .returned (.tuple #[.agg #[.int .u32 s, .int .u32 d, .int .u8 p, .int .u8 t, .int .u16 i, .bool al], v, .int .i64 e0]) ∧ Kd.R (Kd.int .u8) 5 w' w.heap.size (fun _ => True) v b ∧ Below w.heap.size w w' := by
 have hu26 := Try.underlying26
 have HB := Aside0.mk (Below.refl w.heap.size w)
 have HC_f := Aside0.mk hr
 have HK_f := Aside0.mk hc
 clear hr hc
 have HD := Aside0.mk hd
 have HL := Aside0.mk hl
 clear hd hl
 have hp : 0 < f.length := by omega
 obtain ⟨ad, rfl, _⟩ := Kd.at_int HC_f.out 0 (by omega) (by omega)
 go_enter Try.func14, Try.ntmps14
 go_upto_region 3 with (first | ((with_reducible refine gate_dst (N := 2) rfl ?_); (try (refine gate_guard (by rfl) ?_; dsimp only)); refine box_event ?hg (N := 2) ?hd (cs := #[.int .u32 0, .int .u32 0, .int .u8 0, .int .u8 0, .int .u16 0, .bool false]) (t := 26) ?hr ?_; (case hd => rfl); (case hg => rfl); (case hr => first | (go_simp; done) | (go_simp; rfl)); intro gq hg w1_ hbox hB; have HBo := Aside0.mk HB.out; have nHB := Aside0.mk (HB.out.trans (hB.mono HB.out.size)); clear HB; have HB := nHB; clear nHB; have BK_gq := Aside0.mk hbox; have GE_gq := Aside0.mk (show w.heap.size ≤ gq by rw [hg]; exact HBo.out.size); clear hg hbox hB; obtain ⟨hc_gq_0, hf_gq_0, hc_gq_1, hf_gq_1, hc_gq_2, hf_gq_2, hc_gq_3, hf_gq_3, hc_gq_4, hf_gq_4, hc_gq_5, hf_gq_5⟩ := six BK_gq.out; clear HBo))
 have y0 := idx_cell0 (Kd.C_below HC_f.out HB.out) hp
 have y0 := idx_cell0 (Kd.C_below HC_f.out HB.out) hp
 by_cases hk : rd f 0 = 69 ∨ rd f 0 = 70
 case neg =>
  have b1 : (rd f 0 != 69) = true := bne_iff_ne.2 (fun h => hk (.inl h))
  have b2 : (rd f 0 != 70) = true := bne_iff_ne.2 (fun h => hk (.inr h))
  obtain ⟨rfl, rfl, rfl, rfl, rfl, rfl, rfl, rfl⟩ : s = 0 ∧ d = 0 ∧ p = 0 ∧ t = 0 ∧ i = 0 ∧ al = false ∧ b = [] ∧ e0 = 2 := by
   have hw := dec_2 (f := f) (by omega) ⟨fun h => hk (.inl h), fun h => hk (.inr h)⟩
   rw [HD.out] at hw
   simpa only [W, Prod.mk.injEq] using hw
  go_wp2
  exact rdec_end rfl rfl rfl rfl BK_gq.out HB.out GE_gq.out
 obtain ⟨n, hn⟩ : ∃ n, n = hlen (fAl f) := ⟨_, rfl⟩
 have HN := Aside0.mk hn
 have hn20 : 20 ≤ n ∧ n ≤ 24 := by have := hlen_range (fAl f); rw [hn]; cases fAl f <;> simp [hlen]
 have HAL := Aside0.mk (show ((n : Int) == 24) = fAl f by rw [hn]; exact ref_al _)
 have HRN := Aside0.mk (ref_n hk)
 rw [← hn] at HRN
 clear hn
 go_cut [29] (fun v29 wc => v29 = .bool false ∧ Aside0 (wc.heap[gq]? = some (.cells #[.int .u32 0, .int .u32 0, .int .u8 0, .int .u8 0, .int .u16 0, .bool false] 26 (0, 0))) ∧ Aside0 (Below w.heap.size w wc))
 case first =>
  rcases hk with c1 | c1
  · rw [c1] at y0
    go_wp2
    go_meet
    case rel => exact ⟨rfl, BK_gq, HB⟩
  · have b1 : (rd f 0 != 69) = true := bne_iff_ne.2 (by rw [c1]; decide)
    rw [c1] at y0
    go_wp2
    go_meet
    case rel => exact ⟨rfl, BK_gq, HB⟩
 case rest =>
  clear BK_gq hc_gq_0 hf_gq_0 hc_gq_1 hf_gq_1 hc_gq_2 hf_gq_2 hc_gq_3 hf_gq_3 hc_gq_4 hf_gq_4 hc_gq_5 hf_gq_5 HB
  clear y0
  obtain ⟨rfl, BK_gq, HB⟩ := hcut
  obtain ⟨hc_gq_0, hf_gq_0, hc_gq_1, hf_gq_1, hc_gq_2, hf_gq_2, hc_gq_3, hf_gq_3, hc_gq_4, hf_gq_4, hc_gq_5, hf_gq_5⟩ := six BK_gq.out
  have y0 := idx_cell0 (Kd.C_below HC_f.out HB.out) hp
  go_upto_region 6 with fail
  have h36 : (rd f 0 - 64) * 4 = (n : Int) := by
   rw [HN.out]
   rcases hk with c1 | c1
   · rw [c1, show fAl f = false by unfold fAl; rw [c1]; rfl]; rfl
   · rw [c1, show fAl f = true by unfold fAl; rw [c1]; rfl]; rfl
  simp only [h36]
  clear h36
  by_cases c3 : (f.length : Int) < (n : Int)
  · have e3 : decide ((f.length : Int) < (n : Int)) = true := decide_eq_true c3
    obtain ⟨rfl, rfl, rfl, rfl, rfl, rfl, rfl, rfl⟩ : s = 0 ∧ d = 0 ∧ p = 0 ∧ t = 0 ∧ i = 0 ∧ al = false ∧ b = [] ∧ e0 = 3 := by
     have hw := dec_3 (f := f) (by omega) hk (by rw [← HN.out]; omega)
     rw [HD.out] at hw
     simpa only [W, Prod.mk.injEq] using hw
    go_wp2
    exact rdec_end rfl rfl rfl rfl BK_gq.out HB.out GE_gq.out
  have e3 : decide ((f.length : Int) < (n : Int)) = false := decide_eq_false c3
  obtain ⟨i_, hi_, _, hz_, _⟩ := info_parts info5
  obtain ⟨hcut_g, hA_, hC_⟩ := print_take_of (P := Try.prog) (Value.int .u8) 0 27 5 .i64 Try.underlying27 hi_ hz_ (some ad) c_f f (n : Int) (by omega) (by omega) HK_f.out
  obtain ⟨g, hy_g⟩ : ∃ zz_, zz_ = f.take (n : Int).toNat := ⟨_, rfl⟩
  rw [← hy_g] at hcut_g hC_ hA_
  have HY_g := Aside0.mk hy_g
  clear hy_g
  have HC_g := Aside0.mk (show Kd.C (Kd.int .u8) wc (some ad) g.length g from (Kd.C_of_reads (h1 := fun _ => rfl) (hA_ _ (Kd.reads_of_C (Kd.C_below HC_f.out HB.out)))))
  have HK_g := Aside0.mk hC_
  clear hA_ hC_ hi_ hz_
  have HGB := Aside0.mk (show Byt g by rw [HY_g.out]; exact hb.take _)
  have HGL := Aside0.mk (show g.length ≤ 3000 by rw [HY_g.out, List.length_take]; omega)
  have HGT := Aside0.mk (show g = f.take (hlen (fAl f)) by rw [HY_g.out, Int.toNat_natCast, HN.out])
  go_upto_region 8 with fail
  by_cases c4 : sumOf g = 0
  case neg =>
   have b4 : (sumOf g != 0) = true := bne_iff_ne.2 c4
   go_wp2_with (first | (go_at_call 28; with_reducible refine (refof_calls HGB.out HGL.out _ _ _ HC_g.out HK_g.out).mono ?_; rintro e w2_ ⟨rfl, hB⟩; have nHB := Aside0.mk (HB.out.trans (hB.mono HB.out.size)); clear HB; have HB := nHB; clear nHB; clear hc_gq_0 hf_gq_0 hc_gq_1 hf_gq_1 hc_gq_2 hf_gq_2 hc_gq_3 hf_gq_3 hc_gq_4 hf_gq_4 hc_gq_5 hf_gq_5; have nBK := Aside0.mk (blk_below (g := gq) (o := .cells #[.int .u32 0, .int .u32 0, .int .u8 0, .int .u8 0, .int .u16 0, .bool false] 26 (0, 0)) BK_gq.out hB); clear BK_gq; have BK_gq := nBK; clear nBK; obtain ⟨hc_gq_0, hf_gq_0, hc_gq_1, hf_gq_1, hc_gq_2, hf_gq_2, hc_gq_3, hf_gq_3, hc_gq_4, hf_gq_4, hc_gq_5, hf_gq_5⟩ := six BK_gq.out; have nHC := Aside0.mk (Kd.C_below HC_g.out hB); clear HC_g; have HC_g := nHC; clear nHC; clear hB))
   obtain ⟨rfl, rfl, rfl, rfl, rfl, rfl, rfl, rfl⟩ : s = 0 ∧ d = 0 ∧ p = 0 ∧ t = 0 ∧ i = 0 ∧ al = false ∧ b = [] ∧ e0 = 4 := by
    have hw := dec_4 (f := f) (by omega) hk (by rw [← HN.out]; omega) (by rw [← HGT.out]; exact c4)
    rw [HD.out] at hw
    simpa only [W, Prod.mk.injEq] using hw
   exact rdec_end rfl rfl rfl rfl BK_gq.out HB.out GE_gq.out
  have b4 : (sumOf g != 0) = false := bne_eq_false_iff_eq.2 c4
  have C4 := Aside0.mk (show ¬ sumOf (f.take (hlen (fAl f))) ≠ 0 by rw [← HGT.out]; exact fun h => h c4)
  clear c4
  go_upto_region 10 with (first | (go_at_call 28; with_reducible refine (refof_calls HGB.out HGL.out _ _ _ HC_g.out HK_g.out).mono ?_; rintro e w2_ ⟨rfl, hB⟩; have nHB := Aside0.mk (HB.out.trans (hB.mono HB.out.size)); clear HB; have HB := nHB; clear nHB; clear hc_gq_0 hf_gq_0 hc_gq_1 hf_gq_1 hc_gq_2 hf_gq_2 hc_gq_3 hf_gq_3 hc_gq_4 hf_gq_4 hc_gq_5 hf_gq_5; have nBK := Aside0.mk (blk_below (g := gq) (o := .cells #[.int .u32 0, .int .u32 0, .int .u8 0, .int .u8 0, .int .u16 0, .bool false] 26 (0, 0)) BK_gq.out hB); clear BK_gq; have BK_gq := nBK; clear nBK; obtain ⟨hc_gq_0, hf_gq_0, hc_gq_1, hf_gq_1, hc_gq_2, hf_gq_2, hc_gq_3, hf_gq_3, hc_gq_4, hf_gq_4, hc_gq_5, hf_gq_5⟩ := six BK_gq.out; have nHC := Aside0.mk (Kd.C_below HC_g.out hB); clear HC_g; have HC_g := nHC; clear nHC; clear hB))
  clear b4 hcut_g
  obtain ⟨i_, hi_, _, hz_, _⟩ := info_parts info5
  obtain ⟨A_qs, hcut_qs, hA_, hC_⟩ := print_mid_of (P := Try.prog) (Value.int .u8) 0 27 5 .i64 .i64 Try.underlying27 hi_ hz_ (some ad) c_f f 12 16 (by omega) (by omega) (by omega) HK_f.out
  obtain ⟨qs, hy_qs⟩ : ∃ zz_, zz_ = (f.take (16 : Int).toNat).drop (12 : Int).toNat := ⟨_, rfl⟩
  rw [← hy_qs] at hcut_qs hC_ hA_
  have HQ_qs := Aside0.mk (show qs = (f.take (12 + 4)).drop 12 from hy_qs)
  clear hy_qs
  have HC_qs := Aside0.mk (show Kd.C (Kd.int .u8) w2_ A_qs qs.length qs from (Kd.C_of_reads (h1 := fun _ => rfl) (hA_ _ (Kd.reads_of_C (Kd.C_below HC_f.out HB.out)))))
  have HK_qs := Aside0.mk (show qs.length ≤ c_f - 12 from hC_)
  clear hA_ hC_ hi_ hz_
  go_upto_region 11 with (first | (go_at_call 29; with_reducible refine (refat_calls hb (n := 12) (by omega) HQ_qs.out _ _ _ HC_qs.out HK_qs.out).mono ?_; rintro e w3_ ⟨rfl, hB⟩; have nHB := Aside0.mk (HB.out.trans (hB.mono HB.out.size)); clear HB; have HB := nHB; clear nHB; clear hc_gq_0 hf_gq_0 hc_gq_1 hf_gq_1 hc_gq_2 hf_gq_2 hc_gq_3 hf_gq_3 hc_gq_4 hf_gq_4 hc_gq_5 hf_gq_5; have nBK := Aside0.mk (blk_below (g := gq) (o := .cells #[.int .u32 0, .int .u32 0, .int .u8 0, .int .u8 0, .int .u16 0, .bool false] 26 (0, 0)) BK_gq.out hB); clear BK_gq; have BK_gq := nBK; clear nBK; obtain ⟨hc_gq_0, hf_gq_0, hc_gq_1, hf_gq_1, hc_gq_2, hf_gq_2, hc_gq_3, hf_gq_3, hc_gq_4, hf_gq_4, hc_gq_5, hf_gq_5⟩ := six BK_gq.out; have nHC := Aside0.mk (Kd.C_below HC_g.out hB); clear HC_g; have HC_g := nHC; clear nHC; have nHC := Aside0.mk (Kd.C_below HC_qs.out hB); clear HC_qs; have HC_qs := nHC; clear nHC; clear hB))
  clear hcut_qs
  obtain ⟨i_, hi_, _, hz_, _⟩ := info_parts info5
  obtain ⟨A_qd, hcut_qd, hA_, hC_⟩ := print_mid_of (P := Try.prog) (Value.int .u8) 0 27 5 .i64 .i64 Try.underlying27 hi_ hz_ (some ad) c_f f 16 20 (by omega) (by omega) (by omega) HK_f.out
  obtain ⟨qd, hy_qd⟩ : ∃ zz_, zz_ = (f.take (20 : Int).toNat).drop (16 : Int).toNat := ⟨_, rfl⟩
  rw [← hy_qd] at hcut_qd hC_ hA_
  have HQ_qd := Aside0.mk (show qd = (f.take (16 + 4)).drop 16 from hy_qd)
  clear hy_qd
  have HC_qd := Aside0.mk (show Kd.C (Kd.int .u8) w3_ A_qd qd.length qd from (Kd.C_of_reads (h1 := fun _ => rfl) (hA_ _ (Kd.reads_of_C (Kd.C_below HC_f.out HB.out)))))
  have HK_qd := Aside0.mk (show qd.length ≤ c_f - 16 from hC_)
  clear hA_ hC_ hi_ hz_
  go_upto_region 12 with (first | (go_at_call 29; with_reducible refine (refat_calls hb (n := 16) (by omega) HQ_qd.out _ _ _ HC_qd.out HK_qd.out).mono ?_; rintro e w4_ ⟨rfl, hB⟩; have nHB := Aside0.mk (HB.out.trans (hB.mono HB.out.size)); clear HB; have HB := nHB; clear nHB; clear hc_gq_0 hf_gq_0 hc_gq_1 hf_gq_1 hc_gq_2 hf_gq_2 hc_gq_3 hf_gq_3 hc_gq_4 hf_gq_4 hc_gq_5 hf_gq_5; have nBK := Aside0.mk (blk_below (g := gq) (o := .cells #[.int .u32 0, .int .u32 0, .int .u8 0, .int .u8 0, .int .u16 0, .bool false] 26 (0, 0)) BK_gq.out hB); clear BK_gq; have BK_gq := nBK; clear nBK; obtain ⟨hc_gq_0, hf_gq_0, hc_gq_1, hf_gq_1, hc_gq_2, hf_gq_2, hc_gq_3, hf_gq_3, hc_gq_4, hf_gq_4, hc_gq_5, hf_gq_5⟩ := six BK_gq.out; have nHC := Aside0.mk (Kd.C_below HC_g.out hB); clear HC_g; have HC_g := nHC; clear nHC; have nHC := Aside0.mk (Kd.C_below HC_qs.out hB); clear HC_qs; have HC_qs := nHC; clear nHC; have nHC := Aside0.mk (Kd.C_below HC_qd.out hB); clear HC_qd; have HC_qd := nHC; clear nHC; clear hB))
  clear hcut_qd HC_qs HK_qs HC_qd HK_qd HC_g HK_g HGB HGL
  have y2 := idx_cell HC_f.out 2 (by omega) (by omega)
  have bn2 : ((2 : Int) < (f.length : Int)) = True := eq_true (by omega)
  have y3 := idx_cell HC_f.out 3 (by omega) (by omega)
  have bn3 : ((3 : Int) < (f.length : Int)) = True := eq_true (by omega)
  have y9 := idx_cell HC_f.out 9 (by omega) (by omega)
  have bn9 : ((9 : Int) < (f.length : Int)) = True := eq_true (by omega)
  have y8 := idx_cell HC_f.out 8 (by omega) (by omega)
  have bn8 : ((8 : Int) < (f.length : Int)) = True := eq_true (by omega)
  have y4 := idx_cell HC_f.out 4 (by omega) (by omega)
  have bn4 : ((4 : Int) < (f.length : Int)) = True := eq_true (by omega)
  have y5 := idx_cell HC_f.out 5 (by omega) (by omega)
  have bn5 : ((5 : Int) < (f.length : Int)) = True := eq_true (by omega)
  have y1 := idx_cell HC_f.out 1 (by omega) (by omega)
  have bn1 : ((1 : Int) < (f.length : Int)) = True := eq_true (by omega)
  have y6 := idx_cell HC_f.out 6 (by omega) (by omega)
  have bn6 : ((6 : Int) < (f.length : Int)) = True := eq_true (by omega)
  have y7 := idx_cell HC_f.out 7 (by omega) (by omega)
  have bn7 : ((7 : Int) < (f.length : Int)) = True := eq_true (by omega)
  refine start_ (n := 11) (S := fun w' => w'.cell? ⟨gq, 0, none⟩ = some (.int .u32 0) ∧ w'.cell? ⟨gq, 1, none⟩ = some (.int .u32 0) ∧ w'.cell? ⟨gq, 2, none⟩ = some (.int .u8 0) ∧ w'.cell? ⟨gq, 3, none⟩ = some (.int .u8 0) ∧ w'.cell? ⟨gq, 4, none⟩ = some (.int .u16 0) ∧ w'.cell? ⟨gq, 5, none⟩ = some (.bool false) ∧ w'.cell? ⟨ad.block, ad.off + 2, none⟩ = some (.int .u8 (rd f 2)) ∧ w'.cell? ⟨ad.block, ad.off + 3, none⟩ = some (.int .u8 (rd f 3))) (ds := []) #[false, false, false, false, false, false, false, false, false, false, false] (by kernel_rfl) rfl rfl ⟨hc_gq_0, hc_gq_1, hc_gq_2, hc_gq_3, hc_gq_4, hc_gq_5, ((HB.out.cell (World.block_lt_of_cell? w _ y2)).trans y2), ((HB.out.cell (World.block_lt_of_cell? w _ y3)).trans y3)⟩ (fun hHeld => ?_); refine with_tabW rdec_t12 rdec_b12 (fun HT_ HW_ => ?_)
  have hB : Below w4_.heap.size w4_ w4_.drew := below_drew (Below.refl _ _)
  generalize w4_.drew = w5_ at hB hHeld ⊢
  have nHB := Aside0.mk (HB.out.trans (hB.mono HB.out.size))
  clear HB
  have HB := nHB
  clear nHB
  clear hc_gq_0 hf_gq_0 hc_gq_1 hf_gq_1 hc_gq_2 hf_gq_2 hc_gq_3 hf_gq_3 hc_gq_4 hf_gq_4 hc_gq_5 hf_gq_5
  have nBK := Aside0.mk (blk_below (g := gq) (o := .cells #[.int .u32 0, .int .u32 0, .int .u8 0, .int .u8 0, .int .u16 0, .bool false] 26 (0, 0)) BK_gq.out hB)
  clear BK_gq
  have BK_gq := nBK
  clear nBK
  obtain ⟨hc_gq_0, hf_gq_0, hc_gq_1, hf_gq_1, hc_gq_2, hf_gq_2, hc_gq_3, hf_gq_3, hc_gq_4, hf_gq_4, hc_gq_5, hf_gq_5⟩ := six BK_gq.out
  clear hB
  refine pu 0 60 (bb 11 1) rfl rfl (any_of HT_.out (by kernel_rfl)) (fun _ _ _ h => h) (by rfl) (fun w' => by go_simp; with_reducible rfl) (by simp only [Act.put, sA, sB, sC, i64_w, i32_w]; rfl) ?_
  refine pu 1 61 (bb 11 3) rfl rfl (any_of HT_.out (by kernel_rfl)) (fun _ _ _ h => h) (by rfl) (fun w' => by go_simp; with_reducible rfl) (by simp only [Act.put, sA, sB, sC, i64_w, i32_w]; rfl) ?_
  refine take_ (i := 2) (N := some 62) (v := ?_) (a' := ?_) (bb 11 7) rfl rfl (take_ofW HT_.out HW_.out (by kernel_rfl)) (fun _ _ _ h => h) (Or.inl ⟨by rfl, ?_⟩) hHeld ?_ ?_
  rotate_left
  · rintro w' ⟨s0, s1, s2, s3, s4, s5, s6, s7⟩
    go_simp
    with_reducible rfl
  rotate_left
  · simp only [Act.put, sA, sB, sC, i64_w, i32_w]
    rfl
  refine pu 3 63 (bb 11 15) rfl rfl (any_of HT_.out (by kernel_rfl)) (fun _ _ _ h => h) (by rfl) (fun w' => by go_simp; with_reducible rfl) (by simp only [Act.put, sA, sB, sC, i64_w, i32_w]; rfl) ?_
  refine pu 4 64 (bb 11 31) rfl rfl (any_of HT_.out (by kernel_rfl)) (fun _ _ _ h => h) (by rfl) (fun w' => by go_simp; with_reducible rfl) (by simp only [Act.put, sA, sB, sC, i64_w, i32_w]; rfl) ?_
  refine pu 5 65 (bb 11 63) rfl rfl (any_of HT_.out (by kernel_rfl)) (fun _ _ _ h => h) (by rfl) (fun w' => by go_simp; with_reducible rfl) (by simp only [Act.put, sA, sB, sC, i64_w, i32_w]; rfl) ?_
  refine pu 6 66 (bb 11 127) rfl rfl (any_of HT_.out (by kernel_rfl)) (fun _ _ _ h => h) (by rfl) (fun w' => by go_simp; with_reducible rfl) (by simp only [Act.put, sA, sB, sC, i64_w, i32_w]; rfl) ?_
  refine take_ (i := 7) (N := some 67) (v := ?_) (a' := ?_) (bb 11 255) rfl rfl (take_ofW HT_.out HW_.out (by kernel_rfl)) (fun _ _ _ h => h) (Or.inl ⟨by rfl, ?_⟩) hHeld ?_ ?_
  rotate_left
  · rintro w' ⟨s0, s1, s2, s3, s4, s5, s6, s7⟩
    go_simp
    with_reducible rfl
  rotate_left
  · simp only [Act.put, sA, sB, sC, i64_w, i32_w]
    rfl
  refine pu 8 68 (bb 11 511) rfl rfl (any_of HT_.out (by kernel_rfl)) (fun _ _ _ h => h) (by rfl) (fun w' => by go_simp; with_reducible rfl) (by simp only [Act.put, sA, sB, sC, i64_w, i32_w]; rfl) ?_
  refine pu 9 69 (bb 11 1023) rfl rfl (any_of HT_.out (by kernel_rfl)) (fun _ _ _ h => h) (by rfl) (fun w' => by go_simp; with_reducible rfl) (by simp only [Act.put, sA, sB, sC, i64_w, i32_w]; rfl) ?_
  refine pu 10 10 (bb 11 2047) rfl rfl (any_of HT_.out (by kernel_rfl)) (fun _ _ _ h => h) (by rfl) (fun w' => by go_simp; with_reducible rfl) (by simp only [Act.put, sA, sB, sC, i64_w, i32_w]; rfl) ?_
  refine done_ (done_of HT_.out (by kernel_rfl)) ?_
  go_upto_region 13 with fail
  have hall : wrap64 (wrap64 (wrap64 (rd f 2) * 256) + wrap64 (rd f 3)) = fAll f := by have h2 := hb.rd 2; have h3 := hb.rd 3; unfold fAll wrap64; omega
  rw [hall]
  clear hall
  have hid : IntKind.u16.wrap (IntKind.u16.wrap (IntKind.u16.wrap (rd f 4) * 256) + IntKind.u16.wrap (rd f 5)) = fId f := by have h2 := hb.rd 4; have h3 := hb.rd 5; unfold fId; simp only [IntKind.wrap_u16]; omega
  have hal := HAL.out
  refine start_ (n := 23) (S := fun w' => w'.cell? ⟨gq, 0, none⟩ = some (.int .u32 0) ∧ w'.cell? ⟨gq, 1, none⟩ = some (.int .u32 0) ∧ w'.cell? ⟨gq, 2, none⟩ = some (.int .u8 0) ∧ w'.cell? ⟨gq, 3, none⟩ = some (.int .u8 0) ∧ w'.cell? ⟨gq, 4, none⟩ = some (.int .u16 0) ∧ w'.cell? ⟨gq, 5, none⟩ = some (.bool false) ∧ w'.cell? ⟨ad.block, ad.off + 9, none⟩ = some (.int .u8 (rd f 9)) ∧ w'.cell? ⟨ad.block, ad.off + 8, none⟩ = some (.int .u8 (rd f 8)) ∧ w'.cell? ⟨ad.block, ad.off + 4, none⟩ = some (.int .u8 (rd f 4)) ∧ w'.cell? ⟨ad.block, ad.off + 5, none⟩ = some (.int .u8 (rd f 5))) (ds := []) #[false, false, false, false, false, false, false, false, false, false, false, false, false, false, false, false, false, false, false, false, false, false, false] (by kernel_rfl) rfl rfl ⟨hc_gq_0, hc_gq_1, hc_gq_2, hc_gq_3, hc_gq_4, hc_gq_5, ((HB.out.cell (World.block_lt_of_cell? w _ y9)).trans y9), ((HB.out.cell (World.block_lt_of_cell? w _ y8)).trans y8), ((HB.out.cell (World.block_lt_of_cell? w _ y4)).trans y4), ((HB.out.cell (World.block_lt_of_cell? w _ y5)).trans y5)⟩ (fun hHeld => ?_); refine with_tabW rdec_t13 rdec_b13 (fun HT_ HW_ => ?_)
  have hB : Below w5_.heap.size w5_ w5_.drew := below_drew (Below.refl _ _)
  generalize w5_.drew = w6_ at hB hHeld ⊢
  have nHB := Aside0.mk (HB.out.trans (hB.mono HB.out.size))
  clear HB
  have HB := nHB
  clear nHB
  clear hc_gq_0 hf_gq_0 hc_gq_1 hf_gq_1 hc_gq_2 hf_gq_2 hc_gq_3 hf_gq_3 hc_gq_4 hf_gq_4 hc_gq_5 hf_gq_5
  have nBK := Aside0.mk (blk_below (g := gq) (o := .cells #[.int .u32 0, .int .u32 0, .int .u8 0, .int .u8 0, .int .u16 0, .bool false] 26 (0, 0)) BK_gq.out hB)
  clear BK_gq
  have BK_gq := nBK
  clear nBK
  obtain ⟨hc_gq_0, hf_gq_0, hc_gq_1, hf_gq_1, hc_gq_2, hf_gq_2, hc_gq_3, hf_gq_3, hc_gq_4, hf_gq_4, hc_gq_5, hf_gq_5⟩ := six BK_gq.out
  clear hB
  refine pu 0 70 (bb 23 1) rfl rfl (any_of HT_.out (by kernel_rfl)) (fun _ _ _ h => h) (by rfl) (fun w' => by go_simp; with_reducible rfl) (by simp only [Act.put, sA, sB, sC, i64_w, i32_w]; rfl) ?_
  refine pu 1 71 (bb 23 3) rfl rfl (any_of HT_.out (by kernel_rfl)) (fun _ _ _ h => h) (by rfl) (fun w' => by go_simp; with_reducible rfl) (by simp only [Act.put, sA, sB, sC, i64_w, i32_w]; rfl) ?_
  refine pu 2 72 (bb 23 7) rfl rfl (any_of HT_.out (by kernel_rfl)) (fun _ _ _ h => h) (by rfl) (fun w' => by go_simp; with_reducible rfl) (by simp only [Act.put, sA, sB, sC, i64_w, i32_w]; rfl) ?_
  refine pu 3 73 (bb 23 15) rfl rfl (any_of HT_.out (by kernel_rfl)) (fun _ _ _ h => h) (by rfl) (fun w' => by go_simp; with_reducible rfl) (by simp only [Act.put, sA, sB, sC, i64_w, i32_w]; rfl) ?_
  refine take_ (i := 4) (N := some 74) (v := ?_) (a' := ?_) (bb 23 31) rfl rfl (take_ofW HT_.out HW_.out (by kernel_rfl)) (fun _ _ _ h => h) (Or.inl ⟨by rfl, ?_⟩) hHeld ?_ ?_
  rotate_left
  · rintro w' ⟨s0, s1, s2, s3, s4, s5, s6, s7, s8, s9⟩
    go_simp
    with_reducible rfl
  rotate_left
  · simp only [Act.put, sA, sB, sC, i64_w, i32_w]
    rfl
  refine pu 5 75 (bb 23 63) rfl rfl (any_of HT_.out (by kernel_rfl)) (fun _ _ _ h => h) (by rfl) (fun w' => by go_simp; with_reducible rfl) (by simp only [Act.put, sA, sB, sC, i64_w, i32_w]; rfl) ?_
  refine pu 6 76 (bb 23 127) rfl rfl (any_of HT_.out (by kernel_rfl)) (fun _ _ _ h => h) (by rfl) (fun w' => by go_simp; with_reducible rfl) (by simp only [Act.put, sA, sB, sC, i64_w, i32_w]; rfl) ?_
  refine take_ (i := 7) (N := some 77) (v := ?_) (a' := ?_) (bb 23 255) rfl rfl (take_ofW HT_.out HW_.out (by kernel_rfl)) (fun _ _ _ h => h) (Or.inl ⟨by rfl, ?_⟩) hHeld ?_ ?_
  rotate_left
  · rintro w' ⟨s0, s1, s2, s3, s4, s5, s6, s7, s8, s9⟩
    go_simp
    with_reducible rfl
  rotate_left
  · simp only [Act.put, sA, sB, sC, i64_w, i32_w]
    rfl
  refine pu 8 78 (bb 23 511) rfl rfl (any_of HT_.out (by kernel_rfl)) (fun _ _ _ h => h) (by rfl) (fun w' => by go_simp; with_reducible rfl) (by simp only [Act.put, sA, sB, sC, i64_w, i32_w]; rfl) ?_
  refine pu 9 79 (bb 23 1023) rfl rfl (any_of HT_.out (by kernel_rfl)) (fun _ _ _ h => h) (by rfl) (fun w' => by go_simp; with_reducible rfl) (by simp only [Act.put, sA, sB, sC, i64_w, i32_w]; rfl) ?_
  refine take_ (i := 10) (N := some 80) (v := ?_) (a' := ?_) (bb 23 2047) rfl rfl (take_ofW HT_.out HW_.out (by kernel_rfl)) (fun _ _ _ h => h) (Or.inl ⟨by rfl, ?_⟩) hHeld ?_ ?_
  rotate_left
  · rintro w' ⟨s0, s1, s2, s3, s4, s5, s6, s7, s8, s9⟩
    go_simp
    with_reducible rfl
  rotate_left
  · simp only [Act.put, sA, sB, sC, i64_w, i32_w]
    rfl
  refine pu 11 81 (bb 23 4095) rfl rfl (any_of HT_.out (by kernel_rfl)) (fun _ _ _ h => h) (by rfl) (fun w' => by go_simp; with_reducible rfl) (by simp only [Act.put, sA, sB, sC, i64_w, i32_w]; rfl) ?_
  refine pu 12 82 (bb 23 8191) rfl rfl (any_of HT_.out (by kernel_rfl)) (fun _ _ _ h => h) (by rfl) (fun w' => by go_simp; with_reducible rfl) (by simp only [Act.put, sA, sB, sC, i64_w, i32_w]; rfl) ?_
  refine pu 13 83 (bb 23 16383) rfl rfl (any_of HT_.out (by kernel_rfl)) (fun _ _ _ h => h) (by rfl) (fun w' => by go_simp; with_reducible rfl) (by simp only [Act.put, sA, sB, sC, i64_w, i32_w]; rfl) ?_
  refine pu 14 84 (bb 23 32767) rfl rfl (any_of HT_.out (by kernel_rfl)) (fun _ _ _ h => h) (by rfl) (fun w' => by go_simp; with_reducible rfl) (by simp only [Act.put, sA, sB, sC, i64_w, i32_w]; rfl) ?_
  refine take_ (i := 15) (N := some 85) (v := ?_) (a' := ?_) (bb 23 65535) rfl rfl (take_ofW HT_.out HW_.out (by kernel_rfl)) (fun _ _ _ h => h) (Or.inl ⟨by rfl, ?_⟩) hHeld ?_ ?_
  rotate_left
  · rintro w' ⟨s0, s1, s2, s3, s4, s5, s6, s7, s8, s9⟩
    go_simp
    with_reducible rfl
  rotate_left
  · simp only [Act.put, sA, sB, sC, i64_w, i32_w]
    rfl
  refine pu 16 86 (bb 23 131071) rfl rfl (any_of HT_.out (by kernel_rfl)) (fun _ _ _ h => h) (by rfl) (fun w' => by go_simp; with_reducible rfl) (by simp only [Act.put, sA, sB, sC, i64_w, i32_w]; rfl) ?_
  refine pu 17 87 (bb 23 262143) rfl rfl (any_of HT_.out (by kernel_rfl)) (fun _ _ _ h => h) (by rfl) (fun w' => by go_simp; with_reducible rfl) (by simp only [Act.put, sA, sB, sC, i64_w, i32_w]; rfl) ?_
  refine pu 18 88 (bb 23 524287) rfl rfl (any_of HT_.out (by kernel_rfl)) (fun _ _ _ h => h) (by rfl) (fun w' => by go_simp; with_reducible rfl) (by simp only [Act.put, sA, sB, sC, i64_w, i32_w]; rfl) ?_
  refine pu 19 89 (bb 23 1048575) rfl rfl (any_of HT_.out (by kernel_rfl)) (fun _ _ _ h => h) (by rfl) (fun w' => by go_simp; with_reducible rfl) (by simp only [Act.put, sA, sB, sC, i64_w, i32_w]; rfl) ?_
  refine pu 20 90 (bb 23 2097151) rfl rfl (any_of HT_.out (by kernel_rfl)) (fun _ _ _ h => h) (by rfl) (fun w' => by go_simp; with_reducible rfl) (by simp only [Act.put, sA, sB, sC, i64_w, i32_w]; rfl) ?_
  refine one_ (i := 21) (N := some 11) (bb 23 4194303) rfl rfl (one_of HT_.out (by kernel_rfl)) (by decide) (fun K hK => ?_)
  refine box_step ?hg (N := 11) ?hd (cs := #[.int .u32 0, .int .u32 0, .int .u8 0, .int .u8 0, .int .u16 0, .bool false]) (t := 26) ?hr ?_; (case hd => rfl); (case hg => rfl); (case hr => first | (go_simp; done) | (go_simp; rfl))
  intro gh hg w7_ hbox hB
  have NB_gh_gq := Aside0.mk (show gh ≠ gq by rw [hg]; exact Nat.ne_of_gt (blk_lt (g := gq) (o := .cells #[.int .u32 0, .int .u32 0, .int .u8 0, .int .u8 0, .int .u16 0, .bool false] 26 (0, 0)) BK_gq.out))
  have NB_gq_gh := Aside0.mk (Ne.symm NB_gh_gq.out)
  have GE_gh := Aside0.mk (show w.heap.size ≤ gh by rw [hg]; exact HB.out.size)
  have nHB := Aside0.mk (HB.out.trans (hB.mono HB.out.size))
  clear HB
  have HB := nHB
  clear nHB
  clear hc_gq_0 hf_gq_0 hc_gq_1 hf_gq_1 hc_gq_2 hf_gq_2 hc_gq_3 hf_gq_3 hc_gq_4 hf_gq_4 hc_gq_5 hf_gq_5
  have nBK := Aside0.mk (blk_below (g := gq) (o := .cells #[.int .u32 0, .int .u32 0, .int .u8 0, .int .u8 0, .int .u16 0, .bool false] 26 (0, 0)) BK_gq.out hB)
  clear BK_gq
  have BK_gq := nBK
  clear nBK
  obtain ⟨hc_gq_0, hf_gq_0, hc_gq_1, hf_gq_1, hc_gq_2, hf_gq_2, hc_gq_3, hf_gq_3, hc_gq_4, hf_gq_4, hc_gq_5, hf_gq_5⟩ := six BK_gq.out
  have BK_gh := Aside0.mk hbox
  clear hg hbox hB
  obtain ⟨hc_gh_0, hf_gh_0, hc_gh_1, hf_gh_1, hc_gh_2, hf_gh_2, hc_gh_3, hf_gh_3, hc_gh_4, hf_gh_4, hc_gh_5, hf_gh_5⟩ := six BK_gh.out
  refine hK.out _ _ ⟨hc_gq_0, hc_gq_1, hc_gq_2, hc_gq_3, hc_gq_4, hc_gq_5, ((HB.out.cell (World.block_lt_of_cell? w _ y9)).trans y9), ((HB.out.cell (World.block_lt_of_cell? w _ y8)).trans y8), ((HB.out.cell (World.block_lt_of_cell? w _ y4)).trans y4), ((HB.out.cell (World.block_lt_of_cell? w _ y5)).trans y5)⟩ (fun hHeld => ?_)
  clear hK K
  refine norm_ (a' := ?_) ?_ ?_
  rotate_left
  · show Act.put _ (some 11) _ = _
    simp only [Act.put, sA, sB, sC, i64_w, i32_w]
    rfl
  refine one_ (i := 22) (N := none) (bb 23 8388607) rfl rfl (one_of HT_.out (by kernel_rfl)) (by decide) (fun K hK => ?_)
  refine skip_ (w1 := ?_) (by rfl) rfl ?_ ?_
  rotate_left
  · go_simp
    rfl
  have nHB : Aside0 (Below w.heap.size w (w7_.setCell ⟨gh, 0, none⟩ (.int .u32 (aval f 12)))) := ⟨below_set HB.out GE_gh.out⟩
  have nBK : Aside0 ((w7_.setCell ⟨gh, 0, none⟩ (.int .u32 (aval f 12))).heap[gh]? = some (.cells #[.int .u32 (aval f 12), .int .u32 0, .int .u8 0, .int .u8 0, .int .u16 0, .bool false] 26 (0, 0))) := ⟨blk_put (cs := #[.int .u32 0, .int .u32 0, .int .u8 0, .int .u8 0, .int .u16 0, .bool false]) BK_gh.out 0 (.int .u32 (aval f 12)) rfl⟩
  have nB_gq : Aside0 ((w7_.setCell ⟨gh, 0, none⟩ (.int .u32 (aval f 12))).heap[gq]? = some (.cells #[.int .u32 0, .int .u32 0, .int .u8 0, .int .u8 0, .int .u16 0, .bool false] 26 (0, 0))) := ⟨blk_far BK_gq.out NB_gq_gh.out _⟩
  clear hc_gq_0 hf_gq_0 hc_gq_1 hf_gq_1 hc_gq_2 hf_gq_2 hc_gq_3 hf_gq_3 hc_gq_4 hf_gq_4 hc_gq_5 hf_gq_5
  clear BK_gq
  clear hc_gh_0 hf_gh_0 hc_gh_1 hf_gh_1 hc_gh_2 hf_gh_2 hc_gh_3 hf_gh_3 hc_gh_4 hf_gh_4 hc_gh_5 hf_gh_5
  clear BK_gh
  clear HB
  generalize (w7_.setCell ⟨gh, 0, none⟩ (.int .u32 (aval f 12))) = w8_ at nHB nBK nB_gq ⊢
  have HB := nHB
  have BK_gh := nBK
  have BK_gq := nB_gq
  clear nHB nBK nB_gq
  obtain ⟨hc_gq_0, hf_gq_0, hc_gq_1, hf_gq_1, hc_gq_2, hf_gq_2, hc_gq_3, hf_gq_3, hc_gq_4, hf_gq_4, hc_gq_5, hf_gq_5⟩ := six BK_gq.out
  obtain ⟨hc_gh_0, hf_gh_0, hc_gh_1, hf_gh_1, hc_gh_2, hf_gh_2, hc_gh_3, hf_gh_3, hc_gh_4, hf_gh_4, hc_gh_5, hf_gh_5⟩ := six BK_gh.out
  have nHB : Aside0 (Below w.heap.size w (w8_.setCell ⟨gh, 1, none⟩ (.int .u32 (aval f 16)))) := ⟨below_set HB.out GE_gh.out⟩
  have nBK : Aside0 ((w8_.setCell ⟨gh, 1, none⟩ (.int .u32 (aval f 16))).heap[gh]? = some (.cells #[.int .u32 (aval f 12), .int .u32 (aval f 16), .int .u8 0, .int .u8 0, .int .u16 0, .bool false] 26 (0, 0))) := ⟨blk_put (cs := #[.int .u32 (aval f 12), .int .u32 0, .int .u8 0, .int .u8 0, .int .u16 0, .bool false]) BK_gh.out 1 (.int .u32 (aval f 16)) rfl⟩
  have nB_gq : Aside0 ((w8_.setCell ⟨gh, 1, none⟩ (.int .u32 (aval f 16))).heap[gq]? = some (.cells #[.int .u32 0, .int .u32 0, .int .u8 0, .int .u8 0, .int .u16 0, .bool false] 26 (0, 0))) := ⟨blk_far BK_gq.out NB_gq_gh.out _⟩
  clear hc_gq_0 hf_gq_0 hc_gq_1 hf_gq_1 hc_gq_2 hf_gq_2 hc_gq_3 hf_gq_3 hc_gq_4 hf_gq_4 hc_gq_5 hf_gq_5
  clear BK_gq
  clear hc_gh_0 hf_gh_0 hc_gh_1 hf_gh_1 hc_gh_2 hf_gh_2 hc_gh_3 hf_gh_3 hc_gh_4 hf_gh_4 hc_gh_5 hf_gh_5
  clear BK_gh
  clear HB
  generalize (w8_.setCell ⟨gh, 1, none⟩ (.int .u32 (aval f 16))) = w9_ at nHB nBK nB_gq ⊢
  have HB := nHB
  have BK_gh := nBK
  have BK_gq := nB_gq
  clear nHB nBK nB_gq
  obtain ⟨hc_gq_0, hf_gq_0, hc_gq_1, hf_gq_1, hc_gq_2, hf_gq_2, hc_gq_3, hf_gq_3, hc_gq_4, hf_gq_4, hc_gq_5, hf_gq_5⟩ := six BK_gq.out
  obtain ⟨hc_gh_0, hf_gh_0, hc_gh_1, hf_gh_1, hc_gh_2, hf_gh_2, hc_gh_3, hf_gh_3, hc_gh_4, hf_gh_4, hc_gh_5, hf_gh_5⟩ := six BK_gh.out
  have nHB : Aside0 (Below w.heap.size w (w9_.setCell ⟨gh, 2, none⟩ (.int .u8 (rd f 9)))) := ⟨below_set HB.out GE_gh.out⟩
  have nBK : Aside0 ((w9_.setCell ⟨gh, 2, none⟩ (.int .u8 (rd f 9))).heap[gh]? = some (.cells #[.int .u32 (aval f 12), .int .u32 (aval f 16), .int .u8 (rd f 9), .int .u8 0, .int .u16 0, .bool false] 26 (0, 0))) := ⟨blk_put (cs := #[.int .u32 (aval f 12), .int .u32 (aval f 16), .int .u8 0, .int .u8 0, .int .u16 0, .bool false]) BK_gh.out 2 (.int .u8 (rd f 9)) rfl⟩
  have nB_gq : Aside0 ((w9_.setCell ⟨gh, 2, none⟩ (.int .u8 (rd f 9))).heap[gq]? = some (.cells #[.int .u32 0, .int .u32 0, .int .u8 0, .int .u8 0, .int .u16 0, .bool false] 26 (0, 0))) := ⟨blk_far BK_gq.out NB_gq_gh.out _⟩
  clear hc_gq_0 hf_gq_0 hc_gq_1 hf_gq_1 hc_gq_2 hf_gq_2 hc_gq_3 hf_gq_3 hc_gq_4 hf_gq_4 hc_gq_5 hf_gq_5
  clear BK_gq
  clear hc_gh_0 hf_gh_0 hc_gh_1 hf_gh_1 hc_gh_2 hf_gh_2 hc_gh_3 hf_gh_3 hc_gh_4 hf_gh_4 hc_gh_5 hf_gh_5
  clear BK_gh
  clear HB
  generalize (w9_.setCell ⟨gh, 2, none⟩ (.int .u8 (rd f 9))) = w10_ at nHB nBK nB_gq ⊢
  have HB := nHB
  have BK_gh := nBK
  have BK_gq := nB_gq
  clear nHB nBK nB_gq
  obtain ⟨hc_gq_0, hf_gq_0, hc_gq_1, hf_gq_1, hc_gq_2, hf_gq_2, hc_gq_3, hf_gq_3, hc_gq_4, hf_gq_4, hc_gq_5, hf_gq_5⟩ := six BK_gq.out
  obtain ⟨hc_gh_0, hf_gh_0, hc_gh_1, hf_gh_1, hc_gh_2, hf_gh_2, hc_gh_3, hf_gh_3, hc_gh_4, hf_gh_4, hc_gh_5, hf_gh_5⟩ := six BK_gh.out
  have nHB : Aside0 (Below w.heap.size w (w10_.setCell ⟨gh, 3, none⟩ (.int .u8 (rd f 8)))) := ⟨below_set HB.out GE_gh.out⟩
  have nBK : Aside0 ((w10_.setCell ⟨gh, 3, none⟩ (.int .u8 (rd f 8))).heap[gh]? = some (.cells #[.int .u32 (aval f 12), .int .u32 (aval f 16), .int .u8 (rd f 9), .int .u8 (rd f 8), .int .u16 0, .bool false] 26 (0, 0))) := ⟨blk_put (cs := #[.int .u32 (aval f 12), .int .u32 (aval f 16), .int .u8 (rd f 9), .int .u8 0, .int .u16 0, .bool false]) BK_gh.out 3 (.int .u8 (rd f 8)) rfl⟩
  have nB_gq : Aside0 ((w10_.setCell ⟨gh, 3, none⟩ (.int .u8 (rd f 8))).heap[gq]? = some (.cells #[.int .u32 0, .int .u32 0, .int .u8 0, .int .u8 0, .int .u16 0, .bool false] 26 (0, 0))) := ⟨blk_far BK_gq.out NB_gq_gh.out _⟩
  clear hc_gq_0 hf_gq_0 hc_gq_1 hf_gq_1 hc_gq_2 hf_gq_2 hc_gq_3 hf_gq_3 hc_gq_4 hf_gq_4 hc_gq_5 hf_gq_5
  clear BK_gq
  clear hc_gh_0 hf_gh_0 hc_gh_1 hf_gh_1 hc_gh_2 hf_gh_2 hc_gh_3 hf_gh_3 hc_gh_4 hf_gh_4 hc_gh_5 hf_gh_5
  clear BK_gh
  clear HB
  generalize (w10_.setCell ⟨gh, 3, none⟩ (.int .u8 (rd f 8))) = w11_ at nHB nBK nB_gq ⊢
  have HB := nHB
  have BK_gh := nBK
  have BK_gq := nB_gq
  clear nHB nBK nB_gq
  obtain ⟨hc_gq_0, hf_gq_0, hc_gq_1, hf_gq_1, hc_gq_2, hf_gq_2, hc_gq_3, hf_gq_3, hc_gq_4, hf_gq_4, hc_gq_5, hf_gq_5⟩ := six BK_gq.out
  obtain ⟨hc_gh_0, hf_gh_0, hc_gh_1, hf_gh_1, hc_gh_2, hf_gh_2, hc_gh_3, hf_gh_3, hc_gh_4, hf_gh_4, hc_gh_5, hf_gh_5⟩ := six BK_gh.out
  have nHB : Aside0 (Below w.heap.size w (w11_.setCell ⟨gh, 4, none⟩ (.int .u16 (fId f)))) := ⟨below_set HB.out GE_gh.out⟩
  have nBK : Aside0 ((w11_.setCell ⟨gh, 4, none⟩ (.int .u16 (fId f))).heap[gh]? = some (.cells #[.int .u32 (aval f 12), .int .u32 (aval f 16), .int .u8 (rd f 9), .int .u8 (rd f 8), .int .u16 (fId f), .bool false] 26 (0, 0))) := ⟨blk_put (cs := #[.int .u32 (aval f 12), .int .u32 (aval f 16), .int .u8 (rd f 9), .int .u8 (rd f 8), .int .u16 0, .bool false]) BK_gh.out 4 (.int .u16 (fId f)) rfl⟩
  have nB_gq : Aside0 ((w11_.setCell ⟨gh, 4, none⟩ (.int .u16 (fId f))).heap[gq]? = some (.cells #[.int .u32 0, .int .u32 0, .int .u8 0, .int .u8 0, .int .u16 0, .bool false] 26 (0, 0))) := ⟨blk_far BK_gq.out NB_gq_gh.out _⟩
  clear hc_gq_0 hf_gq_0 hc_gq_1 hf_gq_1 hc_gq_2 hf_gq_2 hc_gq_3 hf_gq_3 hc_gq_4 hf_gq_4 hc_gq_5 hf_gq_5
  clear BK_gq
  clear hc_gh_0 hf_gh_0 hc_gh_1 hf_gh_1 hc_gh_2 hf_gh_2 hc_gh_3 hf_gh_3 hc_gh_4 hf_gh_4 hc_gh_5 hf_gh_5
  clear BK_gh
  clear HB
  generalize (w11_.setCell ⟨gh, 4, none⟩ (.int .u16 (fId f))) = w12_ at nHB nBK nB_gq ⊢
  have HB := nHB
  have BK_gh := nBK
  have BK_gq := nB_gq
  clear nHB nBK nB_gq
  obtain ⟨hc_gq_0, hf_gq_0, hc_gq_1, hf_gq_1, hc_gq_2, hf_gq_2, hc_gq_3, hf_gq_3, hc_gq_4, hf_gq_4, hc_gq_5, hf_gq_5⟩ := six BK_gq.out
  obtain ⟨hc_gh_0, hf_gh_0, hc_gh_1, hf_gh_1, hc_gh_2, hf_gh_2, hc_gh_3, hf_gh_3, hc_gh_4, hf_gh_4, hc_gh_5, hf_gh_5⟩ := six BK_gh.out
  have nHB : Aside0 (Below w.heap.size w (w12_.setCell ⟨gh, 5, none⟩ (.bool ((fAl f))))) := ⟨below_set HB.out GE_gh.out⟩
  have nBK : Aside0 ((w12_.setCell ⟨gh, 5, none⟩ (.bool ((fAl f)))).heap[gh]? = some (.cells #[.int .u32 (aval f 12), .int .u32 (aval f 16), .int .u8 (rd f 9), .int .u8 (rd f 8), .int .u16 (fId f), .bool ((fAl f))] 26 (0, 0))) := ⟨blk_put (cs := #[.int .u32 (aval f 12), .int .u32 (aval f 16), .int .u8 (rd f 9), .int .u8 (rd f 8), .int .u16 (fId f), .bool false]) BK_gh.out 5 (.bool ((fAl f))) rfl⟩
  have nB_gq : Aside0 ((w12_.setCell ⟨gh, 5, none⟩ (.bool ((fAl f)))).heap[gq]? = some (.cells #[.int .u32 0, .int .u32 0, .int .u8 0, .int .u8 0, .int .u16 0, .bool false] 26 (0, 0))) := ⟨blk_far BK_gq.out NB_gq_gh.out _⟩
  clear hc_gq_0 hf_gq_0 hc_gq_1 hf_gq_1 hc_gq_2 hf_gq_2 hc_gq_3 hf_gq_3 hc_gq_4 hf_gq_4 hc_gq_5 hf_gq_5
  clear BK_gq
  clear hc_gh_0 hf_gh_0 hc_gh_1 hf_gh_1 hc_gh_2 hf_gh_2 hc_gh_3 hf_gh_3 hc_gh_4 hf_gh_4 hc_gh_5 hf_gh_5
  clear BK_gh
  clear HB
  generalize (w12_.setCell ⟨gh, 5, none⟩ (.bool ((fAl f)))) = w13_ at nHB nBK nB_gq ⊢
  have HB := nHB
  have BK_gh := nBK
  have BK_gq := nB_gq
  clear nHB nBK nB_gq
  obtain ⟨hc_gq_0, hf_gq_0, hc_gq_1, hf_gq_1, hc_gq_2, hf_gq_2, hc_gq_3, hf_gq_3, hc_gq_4, hf_gq_4, hc_gq_5, hf_gq_5⟩ := six BK_gq.out
  obtain ⟨hc_gh_0, hf_gh_0, hc_gh_1, hf_gh_1, hc_gh_2, hf_gh_2, hc_gh_3, hf_gh_3, hc_gh_4, hf_gh_4, hc_gh_5, hf_gh_5⟩ := six BK_gh.out
  refine hK.out _ _ ⟨hc_gq_0, hc_gq_1, hc_gq_2, hc_gq_3, hc_gq_4, hc_gq_5, ((HB.out.cell (World.block_lt_of_cell? w _ y9)).trans y9), ((HB.out.cell (World.block_lt_of_cell? w _ y8)).trans y8), ((HB.out.cell (World.block_lt_of_cell? w _ y4)).trans y4), ((HB.out.cell (World.block_lt_of_cell? w _ y5)).trans y5)⟩ (fun hHeld => ?_)
  clear hK K
  refine done_ (done_of HT_.out (by kernel_rfl)) ?_
  go_upto_region 14 with fail
  go_cut [115] (fun v115 wc => ∃ x, v115 = .bool x ∧ Aside0 ((x = true → odd f = true) ∧ (x = false → rd f 1 = 0 ∧ rd f 6 = 0 ∧ rd f 7 = 0 ∧ ¬ fAll f < (n : Int) ∧ ¬ 1500 < fAll f)) ∧ Aside0 (wc.heap[gq]? = some (.cells #[.int .u32 0, .int .u32 0, .int .u8 0, .int .u8 0, .int .u16 0, .bool false] 26 (0, 0))) ∧ Aside0 (wc.heap[gh]? = some (.cells #[.int .u32 (aval f 12), .int .u32 (aval f 16), .int .u8 (rd f 9), .int .u8 (rd f 8), .int .u16 (fId f), .bool ((fAl f))] 26 (0, 0))) ∧ Aside0 (Below w.heap.size w wc))
  case first =>
   have z1 := (HB.out.cell (World.block_lt_of_cell? w _ y1)).trans y1
   have z6 := (HB.out.cell (World.block_lt_of_cell? w _ y6)).trans y6
   have z7 := (HB.out.cell (World.block_lt_of_cell? w _ y7)).trans y7
   by_cases d1 : rd f 1 = 0
   case neg =>
    have e1 : (rd f 1 != 0) = true := bne_iff_ne.2 d1
    go_wp2
    go_meet
    case rel => exact ⟨true, rfl, ⟨⟨fun _ => odd_of (.inl d1), fun h => absurd h (by decide)⟩⟩, BK_gq, BK_gh, HB⟩
   have e1 : (rd f 1 != 0) = false := bne_eq_false_iff_eq.2 d1
   by_cases d6 : rd f 6 = 0
   case neg =>
    have e6 : (rd f 6 != 0) = true := bne_iff_ne.2 d6
    go_wp2
    go_meet
    case rel => exact ⟨true, rfl, ⟨⟨fun _ => odd_of (.inr (.inl d6)), fun h => absurd h (by decide)⟩⟩, BK_gq, BK_gh, HB⟩
   have e6 : (rd f 6 != 0) = false := bne_eq_false_iff_eq.2 d6
   by_cases d7 : rd f 7 = 0
   case neg =>
    have e7 : (rd f 7 != 0) = true := bne_iff_ne.2 d7
    go_wp2
    go_meet
    case rel => exact ⟨true, rfl, ⟨⟨fun _ => odd_of (.inr (.inr (.inl d7))), fun h => absurd h (by decide)⟩⟩, BK_gq, BK_gh, HB⟩
   have e7 : (rd f 7 != 0) = false := bne_eq_false_iff_eq.2 d7
   by_cases dn : fAll f < (n : Int)
   · have en : decide (fAll f < (n : Int)) = true := decide_eq_true dn
     go_wp2
     go_meet
     case rel => exact ⟨true, rfl, ⟨⟨fun _ => odd_of (.inr (.inr (.inr (.inr (.inl (by rw [← HN.out]; exact dn)))))), fun h => absurd h (by decide)⟩⟩, BK_gq, BK_gh, HB⟩
   have en : decide (fAll f < (n : Int)) = false := decide_eq_false dn
   by_cases dm : 1500 < fAll f
   · have em : decide (1500 < fAll f) = true := decide_eq_true dm
     have em2 : decide (fAll f > 1500) = true := decide_eq_true dm
     go_wp2
     go_meet
     case rel => exact ⟨true, rfl, ⟨⟨fun _ => odd_of (.inr (.inr (.inr (.inr (.inr dm))))), fun h => absurd h (by decide)⟩⟩, BK_gq, BK_gh, HB⟩
   have em : decide (1500 < fAll f) = false := decide_eq_false dm
   have em2 : decide (fAll f > 1500) = false := decide_eq_false dm
   go_wp2
   go_meet
   case rel => exact ⟨false, rfl, ⟨⟨fun h => absurd h (by decide), fun _ => ⟨d1, d6, d7, dn, dm⟩⟩⟩, BK_gq, BK_gh, HB⟩
  case rest =>
   clear BK_gq hc_gq_0 hf_gq_0 hc_gq_1 hf_gq_1 hc_gq_2 hf_gq_2 hc_gq_3 hf_gq_3 hc_gq_4 hf_gq_4 hc_gq_5 hf_gq_5 BK_gh hc_gh_0 hf_gh_0 hc_gh_1 hf_gh_1 hc_gh_2 hf_gh_2 hc_gh_3 hf_gh_3 hc_gh_4 hf_gh_4 hc_gh_5 hf_gh_5 HB
   obtain ⟨x14, rfl, HX14, BK_gq, BK_gh, HB⟩ := hcut
   obtain ⟨hc_gq_0, hf_gq_0, hc_gq_1, hf_gq_1, hc_gq_2, hf_gq_2, hc_gq_3, hf_gq_3, hc_gq_4, hf_gq_4, hc_gq_5, hf_gq_5⟩ := six BK_gq.out
   obtain ⟨hc_gh_0, hf_gh_0, hc_gh_1, hf_gh_1, hc_gh_2, hf_gh_2, hc_gh_3, hf_gh_3, hc_gh_4, hf_gh_4, hc_gh_5, hf_gh_5⟩ := six BK_gh.out
   cases x14
   case true =>
    obtain ⟨rfl, rfl, rfl, rfl, rfl, rfl, rfl, rfl⟩ : s = 0 ∧ d = 0 ∧ p = 0 ∧ t = 0 ∧ i = 0 ∧ al = false ∧ b = [] ∧ e0 = 2 := by
     have hw := dec_5 (f := f) (by omega) hk (by rw [← HN.out]; omega) C4.out (HX14.out.1 rfl)
     rw [HD.out] at hw
     simpa only [W, Prod.mk.injEq] using hw
    go_wp2
    exact rdec_end rfl rfl rfl rfl BK_gq.out HB.out GE_gq.out
   obtain ⟨d1, d6, d7, dn, dm⟩ := HX14.out.2 rfl
   clear HX14
   go_upto_region 16 with fail
   go_cut [142] (fun v142 wc => ∃ x, v142 = .bool x ∧ Aside0 (x = odd f) ∧ Aside0 (wc.heap[gq]? = some (.cells #[.int .u32 0, .int .u32 0, .int .u8 0, .int .u8 0, .int .u16 0, .bool false] 26 (0, 0))) ∧ Aside0 (wc.heap[gh]? = some (.cells #[.int .u32 (aval f 12), .int .u32 (aval f 16), .int .u8 (rd f 9), .int .u8 (rd f 8), .int .u16 (fId f), .bool ((fAl f))] 26 (0, 0))) ∧ Aside0 (Below w.heap.size w wc))
   case first =>
    have DN := Aside0.mk (show ¬ fAll f < hlen (fAl f) by rw [← HN.out]; exact dn)
    by_cases halt : fAl f = true
    case neg =>
     have halt := Bool.eq_false_iff.2 halt
     rw [halt] at hal
     go_wp2
     go_meet
     case rel => exact ⟨false, rfl, ⟨(Bool.eq_false_iff.2 (odd_not d1 d6 d7 (fun h => absurd (halt.symm.trans h) (by decide)) (by have := DN.out; omega) (by omega))).symm⟩, BK_gq, BK_gh, HB⟩
    have h24 : 24 ≤ f.length := by have h : n = 24 := by { have := HN.out; rw [halt] at this; exact this }; omega
    rw [halt] at hal
    have y20 := idx_cell HC_f.out 20 (by omega) (by omega)
    have bn20 : ((20 : Int) < (f.length : Int)) = True := eq_true (by omega)
    have z20 := (HB.out.cell (World.block_lt_of_cell? w _ y20)).trans y20
    have y21 := idx_cell HC_f.out 21 (by omega) (by omega)
    have bn21 : ((21 : Int) < (f.length : Int)) = True := eq_true (by omega)
    have z21 := (HB.out.cell (World.block_lt_of_cell? w _ y21)).trans y21
    have y22 := idx_cell HC_f.out 22 (by omega) (by omega)
    have bn22 : ((22 : Int) < (f.length : Int)) = True := eq_true (by omega)
    have z22 := (HB.out.cell (World.block_lt_of_cell? w _ y22)).trans y22
    have y23 := idx_cell HC_f.out 23 (by omega) (by omega)
    have bn23 : ((23 : Int) < (f.length : Int)) = True := eq_true (by omega)
    have z23 := (HB.out.cell (World.block_lt_of_cell? w _ y23)).trans y23
    by_cases d20 : rd f 20 = 148
    case neg =>
     have e20 : (rd f 20 != 148) = true := bne_iff_ne.2 d20
     go_wp2
     go_meet
     case rel => exact ⟨true, rfl, ⟨(odd_of (.inr (.inr (.inr (.inl ⟨halt, opt_ne (by omega) (fun h0 h1 h2 h3 => d20 h0)⟩))))).symm⟩, BK_gq, BK_gh, HB⟩
    have e20 : (rd f 20 != 148) = false := bne_eq_false_iff_eq.2 d20
    by_cases d21 : rd f 21 = 4
    case neg =>
     have e21 : (rd f 21 != 4) = true := bne_iff_ne.2 d21
     go_wp2
     go_meet
     case rel => exact ⟨true, rfl, ⟨(odd_of (.inr (.inr (.inr (.inl ⟨halt, opt_ne (by omega) (fun h0 h1 h2 h3 => d21 h1)⟩))))).symm⟩, BK_gq, BK_gh, HB⟩
    have e21 : (rd f 21 != 4) = false := bne_eq_false_iff_eq.2 d21
    by_cases d22 : rd f 22 = 0
    case neg =>
     have e22 : (rd f 22 != 0) = true := bne_iff_ne.2 d22
     go_wp2
     go_meet
     case rel => exact ⟨true, rfl, ⟨(odd_of (.inr (.inr (.inr (.inl ⟨halt, opt_ne (by omega) (fun h0 h1 h2 h3 => d22 h2)⟩))))).symm⟩, BK_gq, BK_gh, HB⟩
    have e22 : (rd f 22 != 0) = false := bne_eq_false_iff_eq.2 d22
    by_cases d23 : rd f 23 = 0
    case neg =>
     have e23 : (rd f 23 != 0) = true := bne_iff_ne.2 d23
     go_wp2
     go_meet
     case rel => exact ⟨true, rfl, ⟨(odd_of (.inr (.inr (.inr (.inl ⟨halt, opt_ne (by omega) (fun h0 h1 h2 h3 => d23 h3)⟩))))).symm⟩, BK_gq, BK_gh, HB⟩
    have e23 : (rd f 23 != 0) = false := bne_eq_false_iff_eq.2 d23
    go_wp2
    go_meet
    case rel => exact ⟨false, rfl, ⟨(Bool.eq_false_iff.2 (odd_not d1 d6 d7 (fun _ => opt_eq (by omega) d20 d21 d22 d23) (by have := DN.out; omega) (by omega))).symm⟩, BK_gq, BK_gh, HB⟩
   case rest =>
    clear BK_gq hc_gq_0 hf_gq_0 hc_gq_1 hf_gq_1 hc_gq_2 hf_gq_2 hc_gq_3 hf_gq_3 hc_gq_4 hf_gq_4 hc_gq_5 hf_gq_5 BK_gh hc_gh_0 hf_gh_0 hc_gh_1 hf_gh_1 hc_gh_2 hf_gh_2 hc_gh_3 hf_gh_3 hc_gh_4 hf_gh_4 hc_gh_5 hf_gh_5 HB
    obtain ⟨x16, rfl, HX16, BK_gq, BK_gh, HB⟩ := hcut
    obtain ⟨hc_gq_0, hf_gq_0, hc_gq_1, hf_gq_1, hc_gq_2, hf_gq_2, hc_gq_3, hf_gq_3, hc_gq_4, hf_gq_4, hc_gq_5, hf_gq_5⟩ := six BK_gq.out
    obtain ⟨hc_gh_0, hf_gh_0, hc_gh_1, hf_gh_1, hc_gh_2, hf_gh_2, hc_gh_3, hf_gh_3, hc_gh_4, hf_gh_4, hc_gh_5, hf_gh_5⟩ := six BK_gh.out
    cases x16
    case true =>
     obtain ⟨rfl, rfl, rfl, rfl, rfl, rfl, rfl, rfl⟩ : s = 0 ∧ d = 0 ∧ p = 0 ∧ t = 0 ∧ i = 0 ∧ al = false ∧ b = [] ∧ e0 = 2 := by
      have hw := dec_5 (f := f) (by omega) hk (by rw [← HN.out]; omega) C4.out HX16.out.symm
      rw [HD.out] at hw
      simpa only [W, Prod.mk.injEq] using hw
     go_wp2
     exact rdec_end rfl rfl rfl rfl BK_gq.out HB.out GE_gq.out
    have hodd : ¬ odd f = true := by rw [← HX16.out]; decide
    clear HX16
    go_upto_region 18 with fail
    by_cases dl : (f.length : Int) < fAll f
    · have el : decide ((f.length : Int) < fAll f) = true := decide_eq_true dl
      obtain ⟨rfl, rfl, rfl, rfl, rfl, rfl, rfl, rfl⟩ : s = 0 ∧ d = 0 ∧ p = 0 ∧ t = 0 ∧ i = 0 ∧ al = false ∧ b = [] ∧ e0 = 3 := by
       have hw := dec_6 (f := f) (by omega) hk (by rw [← HN.out]; omega) C4.out hodd dl
       rw [HD.out] at hw
       simpa only [W, Prod.mk.injEq] using hw
      go_wp2
      exact rdec_end rfl rfl rfl rfl BK_gq.out HB.out GE_gq.out
    have el : decide ((f.length : Int) < fAll f) = false := decide_eq_false dl
    have HSM := Aside0.mk (ref_same hb (by omega) hk (by rw [← HN.out]; omega) C4.out hodd dl ⟨by rw [← HN.out]; omega, by omega⟩)
    have HD7 := Aside0.mk (dec_7 (f := f) (by omega) hk (by rw [← HN.out]; omega) C4.out hodd dl)
    go_upto_region 20 with fail
    clear y2 bn2 y3 bn3 y9 bn9 y8 bn8 y4 bn4 y5 bn5 y1 bn1 y6 bn6 y7 bn7
    have hn0 : (n : Int) ≤ fAll f := by omega
    have hn1 : fAll f ≤ (f.length : Int) := by omega
    obtain ⟨i_, hi_, _, hz_, _⟩ := info_parts info5
    obtain ⟨A_bm, hcut_bm, hA_, hC_⟩ := print_mid_of (P := Try.prog) (Value.int .u8) 0 27 5 .i64 .i64 Try.underlying27 hi_ hz_ (some ad) c_f f (n : Int) (fAll f) (by omega) hn0 hn1 HK_f.out
    obtain ⟨bm, hy_bm⟩ : ∃ zz_, zz_ = (f.take (fAll f).toNat).drop (n : Int).toNat := ⟨_, rfl⟩
    rw [← hy_bm] at hcut_bm hC_ hA_
    have HQ_bm := Aside0.mk (show bm = (f.take (fAll f).toNat).drop (n : Int).toNat from hy_bm)
    clear hy_bm
    have HC_bm := Aside0.mk (show Kd.C (Kd.int .u8) wc A_bm bm.length bm from (Kd.C_of_reads (h1 := fun _ => rfl) (hA_ _ (Kd.reads_of_C (Kd.C_below HC_f.out HB.out)))))
    have HK_bm := Aside0.mk (show bm.length ≤ c_f - (n : Int).toNat from hC_)
    clear hA_ hC_ hi_ hz_
    have HBMQ := Aside0.mk (show bm = (f.take (fAll f).toNat).drop (hlen (fAl f)) by rw [HQ_bm.out, Int.toNat_natCast, HN.out])
    have HBM := Aside0.mk (show bm.length ≤ 1500 by rw [HQ_bm.out, List.length_drop, List.length_take]; omega)
    have HBN := Aside0.mk (show bm.length ≤ 1000000 by have := HBM.out; omega)
    have RDX := Aside0.mk (show ReadsInt wc .u8 A_bm bm.length bm from Kd.reads_of_C (enc := Value.int .u8) (d := (0 : Int)) (h1 := fun _ => rfl) HC_bm.out)
    go_upto_region 21 with (first | ((with_reducible refine gate_dst (N := 154) rfl ?_); refine print_append_row (w0 := wc) wc.heap.size rfl (.tmp 149) (.tmp 153) 27 5 .u8 1 rfl Try.underlying27 info5 (by decide) _ [] bm A_bm bm.length _ (by rfl) (by rfl) (World.ownsRow_lit (size := 1) wc #[] 0 (Nat.le_refl _) (by simp [maxLen]) rfl) (RDX.out.allocS _) ((Below.refl _ wc).alloc (Nat.le_refl _) _) (by simp) (by have := HBM.out; simp; omega) ?_; intro va w14_ hown hB _ _; have hR : Kd.R (Kd.int .u8) 5 w14_ wc.heap.size (fun _ => True) va ([] ++ bm) := Kd.R_of_own hown (fun _ _ => trivial); rw [List.nil_append] at hR; obtain ⟨A_bb, c_bb, rfl⟩ := Kd.R_slice hR; have hsz := HB.out.size; have nHB := Aside0.mk (HB.out.trans (hB.mono HB.out.size)); clear HB; have HB := nHB; clear nHB; clear hc_gq_0 hf_gq_0 hc_gq_1 hf_gq_1 hc_gq_2 hf_gq_2 hc_gq_3 hf_gq_3 hc_gq_4 hf_gq_4 hc_gq_5 hf_gq_5; have nBK := Aside0.mk (blk_below (g := gq) (o := .cells #[.int .u32 0, .int .u32 0, .int .u8 0, .int .u8 0, .int .u16 0, .bool false] 26 (0, 0)) BK_gq.out hB); clear BK_gq; have BK_gq := nBK; clear nBK; obtain ⟨hc_gq_0, hf_gq_0, hc_gq_1, hf_gq_1, hc_gq_2, hf_gq_2, hc_gq_3, hf_gq_3, hc_gq_4, hf_gq_4, hc_gq_5, hf_gq_5⟩ := six BK_gq.out; clear hc_gh_0 hf_gh_0 hc_gh_1 hf_gh_1 hc_gh_2 hf_gh_2 hc_gh_3 hf_gh_3 hc_gh_4 hf_gh_4 hc_gh_5 hf_gh_5; have nBK := Aside0.mk (blk_below (g := gh) (o := .cells #[.int .u32 (aval f 12), .int .u32 (aval f 16), .int .u8 (rd f 9), .int .u8 (rd f 8), .int .u16 (fId f), .bool ((fAl f))] 26 (0, 0)) BK_gh.out hB); clear BK_gh; have BK_gh := nBK; clear nBK; obtain ⟨hc_gh_0, hf_gh_0, hc_gh_1, hf_gh_1, hc_gh_2, hf_gh_2, hc_gh_3, hf_gh_3, hc_gh_4, hf_gh_4, hc_gh_5, hf_gh_5⟩ := six BK_gh.out; have nHC := Aside0.mk (Kd.C_below HC_bm.out hB); clear HC_bm; have HC_bm := nHC; clear nHC; have HR_bb := Aside0.mk (Kd.R_lower hR hsz); clear hown hR hsz hB))
    clear hcut_bm RDX
    have HOKF := Aside0.mk (fields_ok hb)
    obtain ⟨x, e2, hx⟩ : ∃ x e2, enc (aval f 12) (aval f 16) (rd f 9) (rd f 8) (fId f) (fAl f) bm = (x, e2) := ⟨_, _, rfl⟩
    have HX := Aside0.mk hx
    have HXM := Aside0.mk (show (x == f.take (fAll f).toNat) = !differs f by rw [← HSM.out, ← HBMQ.out, hx])
    clear hx
    go_upto_region 22 with (first | (go_at_call 13; with_reducible refine (refenc_calls HOKF.out HBN.out HX.out _ _ _ (Kd.R_reads' HR_bb.out).2.2 (Kd.R_reads' HR_bb.out).2.1).mono ?_; rintro e w15_ ⟨v_x, rfl, hR, hB⟩; obtain ⟨A_x, c_x, rfl⟩ := Kd.R_slice hR; have hsz := HB.out.size; have nHB := Aside0.mk (HB.out.trans (hB.mono HB.out.size)); clear HB; have HB := nHB; clear nHB; clear hc_gq_0 hf_gq_0 hc_gq_1 hf_gq_1 hc_gq_2 hf_gq_2 hc_gq_3 hf_gq_3 hc_gq_4 hf_gq_4 hc_gq_5 hf_gq_5; have nBK := Aside0.mk (blk_below (g := gq) (o := .cells #[.int .u32 0, .int .u32 0, .int .u8 0, .int .u8 0, .int .u16 0, .bool false] 26 (0, 0)) BK_gq.out hB); clear BK_gq; have BK_gq := nBK; clear nBK; obtain ⟨hc_gq_0, hf_gq_0, hc_gq_1, hf_gq_1, hc_gq_2, hf_gq_2, hc_gq_3, hf_gq_3, hc_gq_4, hf_gq_4, hc_gq_5, hf_gq_5⟩ := six BK_gq.out; clear hc_gh_0 hf_gh_0 hc_gh_1 hf_gh_1 hc_gh_2 hf_gh_2 hc_gh_3 hf_gh_3 hc_gh_4 hf_gh_4 hc_gh_5 hf_gh_5; have nBK := Aside0.mk (blk_below (g := gh) (o := .cells #[.int .u32 (aval f 12), .int .u32 (aval f 16), .int .u8 (rd f 9), .int .u8 (rd f 8), .int .u16 (fId f), .bool ((fAl f))] 26 (0, 0)) BK_gh.out hB); clear BK_gh; have BK_gh := nBK; clear nBK; obtain ⟨hc_gh_0, hf_gh_0, hc_gh_1, hf_gh_1, hc_gh_2, hf_gh_2, hc_gh_3, hf_gh_3, hc_gh_4, hf_gh_4, hc_gh_5, hf_gh_5⟩ := six BK_gh.out; have nHC := Aside0.mk (Kd.C_below HC_bm.out hB); clear HC_bm; have HC_bm := nHC; clear nHC; have nHC := Aside0.mk (Kd.R_below HR_bb.out hB); clear HR_bb; have HR_bb := nHC; clear nHC; have HR_x := Aside0.mk (Kd.R_mono (Kd.R_lower hR hsz) (fun _ _ => trivial : ∀ k, _ → (fun _ => True) k)); clear hR hsz; clear hB))
    obtain ⟨i_, hi_, _, hz_, _⟩ := info_parts info5
    obtain ⟨hcut_fc, hA_, hC_⟩ := print_take_of (P := Try.prog) (Value.int .u8) 0 27 5 .i64 Try.underlying27 hi_ hz_ (some ad) c_f f (fAll f) (by omega) (by omega) HK_f.out
    obtain ⟨fc, hy_fc⟩ : ∃ zz_, zz_ = f.take (fAll f).toNat := ⟨_, rfl⟩
    rw [← hy_fc] at hcut_fc hC_ hA_
    have HY_fc := Aside0.mk hy_fc
    clear hy_fc
    have HC_fc := Aside0.mk (show Kd.C (Kd.int .u8) w15_ (some ad) fc.length fc from (Kd.C_of_reads (h1 := fun _ => rfl) (hA_ _ (Kd.reads_of_C (Kd.C_below HC_f.out HB.out)))))
    have HK_fc := Aside0.mk hC_
    clear hA_ hC_ hi_ hz_
    have HXM2 := Aside0.mk (show (x == fc) = !differs f by rw [HY_fc.out]; exact HXM.out)
    have HXL := Aside0.mk (show x.length ≤ 1000000 by have h := enc_len (fields_ok hb) (fAl f) (b := bm) (by rw [HBMQ.out]; exact (hb.take _).drop _); rw [HX.out] at h; have := h.2; simp only at this; omega)
    go_upto_region 23 with (first | (go_at_call 12; with_reducible refine (same_calls HXL.out HXM2.out _ _ _ _ _ (Kd.R_reads' HR_x.out).2.2 (Kd.R_reads' HR_x.out).2.1 HC_fc.out HK_fc.out).mono ?_; rintro e w16_ ⟨rfl, hB⟩; have nHB := Aside0.mk (HB.out.trans (hB.mono HB.out.size)); clear HB; have HB := nHB; clear nHB; clear hc_gq_0 hf_gq_0 hc_gq_1 hf_gq_1 hc_gq_2 hf_gq_2 hc_gq_3 hf_gq_3 hc_gq_4 hf_gq_4 hc_gq_5 hf_gq_5; have nBK := Aside0.mk (blk_below (g := gq) (o := .cells #[.int .u32 0, .int .u32 0, .int .u8 0, .int .u8 0, .int .u16 0, .bool false] 26 (0, 0)) BK_gq.out hB); clear BK_gq; have BK_gq := nBK; clear nBK; obtain ⟨hc_gq_0, hf_gq_0, hc_gq_1, hf_gq_1, hc_gq_2, hf_gq_2, hc_gq_3, hf_gq_3, hc_gq_4, hf_gq_4, hc_gq_5, hf_gq_5⟩ := six BK_gq.out; clear hc_gh_0 hf_gh_0 hc_gh_1 hf_gh_1 hc_gh_2 hf_gh_2 hc_gh_3 hf_gh_3 hc_gh_4 hf_gh_4 hc_gh_5 hf_gh_5; have nBK := Aside0.mk (blk_below (g := gh) (o := .cells #[.int .u32 (aval f 12), .int .u32 (aval f 16), .int .u8 (rd f 9), .int .u8 (rd f 8), .int .u16 (fId f), .bool ((fAl f))] 26 (0, 0)) BK_gh.out hB); clear BK_gh; have BK_gh := nBK; clear nBK; obtain ⟨hc_gh_0, hf_gh_0, hc_gh_1, hf_gh_1, hc_gh_2, hf_gh_2, hc_gh_3, hf_gh_3, hc_gh_4, hf_gh_4, hc_gh_5, hf_gh_5⟩ := six BK_gh.out; have nHC := Aside0.mk (Kd.C_below HC_bm.out hB); clear HC_bm; have HC_bm := nHC; clear nHC; have nHC := Aside0.mk (Kd.R_below HR_bb.out hB); clear HR_bb; have HR_bb := nHC; clear nHC; have nHC := Aside0.mk (Kd.R_below HR_x.out hB); clear HR_x; have HR_x := nHC; clear nHC; have nHC := Aside0.mk (Kd.C_below HC_fc.out hB); clear HC_fc; have HC_fc := nHC; clear nHC; clear hB))
    clear hcut_fc
    cases hdf : differs f with
    | true =>
     obtain ⟨rfl, rfl, rfl, rfl, rfl, rfl, rfl, rfl⟩ : s = 0 ∧ d = 0 ∧ p = 0 ∧ t = 0 ∧ i = 0 ∧ al = false ∧ b = [] ∧ e0 = 4 := by
      have hw := HD7.out
      rw [HD.out, if_pos hdf] at hw
      simpa only [W, Prod.mk.injEq] using hw
     go_wp2
     exact rdec_end rfl rfl rfl rfl BK_gq.out HB.out GE_gq.out
    | false =>
     obtain ⟨rfl, rfl, rfl, rfl, rfl, rfl, rfl, rfl⟩ : s = aval f 12 ∧ d = aval f 16 ∧ p = rd f 9 ∧ t = rd f 8 ∧ i = fId f ∧ al = fAl f ∧ b = bm ∧ e0 = 0 := by
      have hw := HD7.out
      rw [HD.out, if_neg (by rw [hdf]; decide), ← HBMQ.out] at hw
      simpa only [Prod.mk.injEq] using hw
     go_wp2
     refine bodyPost_ret (results_ctt rfl _ _ gq 26 #[.int .u32 (aval f 12), .int .u32 (aval f 16), .int .u8 (rd f 9), .int .u8 (rd f 8), .int .u16 (fId f), .bool ((fAl f))] (0, 0) _ rfl (z6 BK_gq.out _ _ _ _ _ _) Try.underlying26 rfl (by kernel_rfl)) rfl ?_
     exact ⟨_, rfl, Kd.R_mono (Kd.R_far (p := ⟨gq, 5, none⟩) (Kd.R_far (p := ⟨gq, 4, none⟩) (Kd.R_far (p := ⟨gq, 3, none⟩) (Kd.R_far (p := ⟨gq, 2, none⟩) (Kd.R_far (p := ⟨gq, 1, none⟩) (Kd.R_far (p := ⟨gq, 0, none⟩) (Kd.R_types HR_bb.out BK_gq.out (by decide)) (fun _ hk => hk.2) (.int .u32 (aval f 12))) (fun _ hk => hk.2) (.int .u32 (aval f 16))) (fun _ hk => hk.2) (.int .u8 (rd f 9))) (fun _ hk => hk.2) (.int .u8 (rd f 8))) (fun _ hk => hk.2) (.int .u16 (fId f))) (fun _ hk => hk.2) (.bool ((fAl f)))) (fun _ _ => trivial), b6 HB.out GE_gq.out _ _ _ _ _ _⟩
end Go.Proofs.Ytlaanmkangikbaa
