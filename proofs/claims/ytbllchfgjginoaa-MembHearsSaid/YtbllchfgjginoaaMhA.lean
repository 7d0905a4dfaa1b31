/-
  The document's example for chapter 08.
-/
import Derived.Test.YtbllchfgjginoaaSoJ
import Derived.Test.YtbllchfgjginoaaMgP
import Derived.Test.YtbllchfgjginoaaPMg1
namespace Go.Proofs.Ytbllchfgjginoaa
open Go.RowKit Go.Lib Go.Proofs.YtbllchfgjginoaaW.PrintWords Go.Proofs.YtbllchfgjginoaaW.PrintLast Go.Proofs.YtbllchfgjginoaaW.PrintMore Go.Proofs.Ytbllchfgjginoaa.PMe
set_option linter.unusedVariables false
set_option linter.unusedSimpArgs false
theorem sort1 (x : S49) : SortH [x] := by unfold SortH; simp
theorem hear1st : hearR ⟨10, 2⟩ ⟨4009820675, false, 0, []⟩ 1 [5] = ((⟨4009820675, false, 0, [⟨5, 10⟩]⟩ : S28), [], 0) := by kernel_rfl
theorem hear0_w (B : Option Addr) (d : Nat) (w : World) (hl : Kd.C (Kd.int .u32) w B 1 [5]) (hd : 1 ≤ d) :
    Calls Try.prog 12 #[.agg #[.int .i64 10, .int .i64 2], .agg #[.int .u32 4009820675, .bool false, .int .i64 0, .slice none 0 0], .int .u8 1, .slice B 1 d] w fun e w' => ∃ A0 c0 A1 c1, e = .returned (.tuple #[.agg #[.int .u32 4009820675, .bool false, .int .i64 0, .slice A0 1 c0], .slice A1 0 c1, .int .i64 0]) ∧ Kd.C k49 w' A0 1 [⟨5, 10⟩] ∧ 1 ≤ c0 ∧ Below w.heap.size w w' :=
  hear_view (t := ⟨10, 2⟩) (x := ⟨4009820675, false, 0, []⟩) (kind := 1) (l := [5]) (r := (⟨4009820675, false, 0, [⟨5, 10⟩]⟩ : S28)) (asks := []) (n := 0) (err := 0) (by simp [SortH]) (by simp) (by simp) hear1st rfl none 0 B d w (Kd.C_nil _ _) (Nat.le_refl _) hl hd
theorem wants5_w (A : Option Addr) (c : Nat) (w : World) (hr : Kd.C k49 w A 1 [⟨5, 10⟩]) (hc : 1 ≤ c) : Calls Try.prog 19 #[.agg #[.int .u32 4009820675, .bool false, .int .i64 0, .slice A 1 c], .int .u32 5] w fun e w' => e = .returned (.bool true) ∧ Below w.heap.size w w' := wants_w (x := (⟨4009820675, false, 0, [⟨5, 10⟩]⟩ : S28)) (a := 5) (b := true) (sort1 _) (by simp) (by decide) A c w hr hc
theorem wants6_w (A : Option Addr) (c : Nat) (w : World) (hr : Kd.C k49 w A 1 [⟨5, 10⟩]) (hc : 1 ≤ c) : Calls Try.prog 19 #[.agg #[.int .u32 4009820675, .bool false, .int .i64 0, .slice A 1 c], .int .u32 6] w fun e w' => e = .returned (.bool false) ∧ Below w.heap.size w w' := wants_w (x := (⟨4009820675, false, 0, [⟨5, 10⟩]⟩ : S28)) (a := 6) (b := false) (sort1 _) (by simp) (by decide) A c w hr hc
theorem some0_w (A : Option Addr) (c : Nat) (w : World) (hr : Kd.C k49 w A 1 [⟨5, 10⟩]) (hc : 1 ≤ c) : Calls Try.prog 20 #[.agg #[.int .u32 4009820675, .bool false, .int .i64 0, .slice A 1 c]] w fun e w' => e = .returned (.bool true) ∧ Below w.heap.size w w' := some_w (x := (⟨4009820675, false, 0, [⟨5, 10⟩]⟩ : S28)) (b := true) (by decide) A c w hr hc
theorem may0_w (w : World) : Calls Try.prog 21 #[.agg #[.int .i64 10, .int .i64 2]] w fun e w' => e = .returned (.bool true) ∧ Below w.heap.size w w' := may_w (t := ⟨10, 2⟩) (b := true) (by decide) w
attribute [local go_sem high] eqA49
set_option maxHeartbeats 8000000 in
set_option maxRecDepth 100000 in
theorem shown_w (w : World) : Calls Try.prog 9 #[] w fun e w' => e = .returned (.bool true) ∧ Below w.heap.size w w' := by
  have hu23 := Try.underlying23
  have hu28 := Try.underlying28
  have hu49 := Try.underlying49
  have HB := Aside0.mk (Below.refl w.heap.size w)
  go_enter Try.func9, Try.ntmps9
  go_upto_region 2 with (first | ((with_reducible refine gate_dst (N := 1) rfl ?_); (try (refine gate_guard (by rfl) ?_; dsimp only)); refine bxn (cs := #[.int .i64 0, .int .i64 0]) (t := 23) ?_; intro gt hg w1_ hbox hB0; have hG := Aside0.mk (show w.heap.size ≤ gt from Nat.le_of_eq hg.symm); clear hg; have hBX := Aside0.mk hbox; have hB1 := Aside0.mk hB0; clear hB0; obtain ⟨hc_gt_0, hc_gt_1, hf_gt_0, hf_gt_1⟩ := cf2 hbox; clear hbox))
  have hB : Below w.heap.size w ((w1_.setCell ⟨gt, 0, none⟩ (.int .i64 10)).setCell ⟨gt, 1, none⟩ (.int .i64 2)) := (below_set (below_set hB1.out hG.out) hG.out)
  have hBN : ((w1_.setCell ⟨gt, 0, none⟩ (.int .i64 10)).setCell ⟨gt, 1, none⟩ (.int .i64 2)).heap[gt]? = some (.cells #[.int .i64 10, .int .i64 2] 23 (0, 0)) := (blk_put (cs := #[.int .i64 10, .int .i64 0]) (blk_put (cs := #[.int .i64 0, .int .i64 0]) hBX.out 0 (.int .i64 10) rfl) 1 (.int .i64 2) rfl)
  clear hBX hB1
  clear hc_gt_0 hf_gt_0 hc_gt_1 hf_gt_1
  generalize ((w1_.setCell ⟨gt, 0, none⟩ (.int .i64 10)).setCell ⟨gt, 1, none⟩ (.int .i64 2)) = w2_ at hB hBN ⊢
  have HBo := Aside0.mk HB.out
  replace HB := mvH HB hB
  have BK_gt := Aside0.mk hBN
  have GE_gt := Aside0.mk (Nat.le_trans HBo.out.size hG.out)
  clear HBo hG hBN hB
  obtain ⟨hc_gt_0, hc_gt_1, hf_gt_0, hf_gt_1⟩ := cf2 BK_gt.out
  go_upto_region 3 with (first | ((with_reducible refine gate_dst (N := 9) rfl ?_); (try (refine gate_guard (by rfl) ?_; dsimp only)); refine Kd.R_lit (Kd.int .u32) _ 25 ?hg (N := 9) ?hd (xs := ([5] : List Int)) (inner := [.int .u32 5]) (ok := fun _ => True) (okp := fun _ => True) ?hr ?hp (fun _ hk => hk) trivial (Below.refl _ _) (Nat.le_refl _) (by simp) ?_; (case hd => rfl); (case hg => rfl); (case hr => first | (go_simp; done) | (go_simp; rfl)); (case hp => exact Reps.one (show Kd.M (Kd.int .u32) _ _ _ 5 [.int .u32 5] from rfl) (Reps.none _ _)); intro v_l w3_ hR hB hg_ hnew_; clear hg_ hnew_; obtain ⟨A_l, c_l, rfl⟩ : ∃ A c, v_l = .slice A 1 c := Kd.R_slice hR; replace HB := mvH HB hB; clear hc_gt_0 hf_gt_0 hc_gt_1 hf_gt_1; replace BK_gt := mvB BK_gt hB; obtain ⟨hc_gt_0, hc_gt_1, hf_gt_0, hf_gt_1⟩ := cf2 BK_gt.out; have HC_l := Aside0.mk (show Kd.C (Kd.int .u32) w3_ A_l 1 [5] from (Kd.R_reads' hR).2.2); have HK_l := Aside0.mk (show 1 ≤ c_l from (Kd.R_reads' hR).2.1); clear hR hB) | (go_at_call 12; (with_reducible refine (hear0_w A_l c_l _ HC_l.out HK_l.out).mono ?_); rintro e_ w4_ ⟨A_m, c_m, A_ma, c_ma, rfl, hC, hK, hB⟩; replace HB := mvH HB hB; clear hc_gt_0 hf_gt_0 hc_gt_1 hf_gt_1; replace BK_gt := mvB BK_gt hB; obtain ⟨hc_gt_0, hc_gt_1, hf_gt_0, hf_gt_1⟩ := cf2 BK_gt.out; replace HC_l := mvC HC_l hB; have HC_m := Aside0.mk hC; have HK_m := Aside0.mk hK; clear hC hK hB) | ((with_reducible refine gate_dst (N := 2) rfl ?_); (try (refine gate_guard (by rfl) ?_; dsimp only)); refine bxn (cs := #[.int .u32 0, .bool false, .int .i64 0, .slice none 0 0]) (t := 28) ?_; intro gm hg w5_ hbox hB0; have hG := Aside0.mk (show w4_.heap.size ≤ gm from Nat.le_of_eq hg.symm); clear hg; have hBX := Aside0.mk hbox; have hB1 := Aside0.mk hB0; clear hB0; obtain ⟨hc_gm_0, hc_gm_1, hc_gm_2, hc_gm_3, hf_gm_0, hf_gm_1, hf_gm_2, hf_gm_3⟩ := cf4 hbox; clear hbox))
  have hB : Below w4_.heap.size w4_ ((((w5_.setCell ⟨gm, 0, none⟩ (.int .u32 4009820675)).setCell ⟨gm, 1, none⟩ (.bool false)).setCell ⟨gm, 2, none⟩ (.int .i64 0)).setCell ⟨gm, 3, none⟩ (.slice A_m 1 c_m)) := (below_set (below_set (below_set (below_set hB1.out hG.out) hG.out) hG.out) hG.out)
  have hBN : ((((w5_.setCell ⟨gm, 0, none⟩ (.int .u32 4009820675)).setCell ⟨gm, 1, none⟩ (.bool false)).setCell ⟨gm, 2, none⟩ (.int .i64 0)).setCell ⟨gm, 3, none⟩ (.slice A_m 1 c_m)).heap[gm]? = some (.cells #[.int .u32 4009820675, .bool false, .int .i64 0, .slice A_m 1 c_m] 28 (0, 0)) := (blk_put (cs := #[.int .u32 4009820675, .bool false, .int .i64 0, .slice none 0 0]) (blk_put (cs := #[.int .u32 4009820675, .bool false, .int .i64 0, .slice none 0 0]) (blk_put (cs := #[.int .u32 4009820675, .bool false, .int .i64 0, .slice none 0 0]) (blk_put (cs := #[.int .u32 0, .bool false, .int .i64 0, .slice none 0 0]) hBX.out 0 (.int .u32 4009820675) rfl) 1 (.bool false) rfl) 2 (.int .i64 0) rfl) 3 (.slice A_m 1 c_m) rfl)
  clear hBX hB1
  clear hc_gm_0 hf_gm_0 hc_gm_1 hf_gm_1 hc_gm_2 hf_gm_2 hc_gm_3 hf_gm_3
  generalize ((((w5_.setCell ⟨gm, 0, none⟩ (.int .u32 4009820675)).setCell ⟨gm, 1, none⟩ (.bool false)).setCell ⟨gm, 2, none⟩ (.int .i64 0)).setCell ⟨gm, 3, none⟩ (.slice A_m 1 c_m)) = w6_ at hB hBN ⊢
  have NB_gm_gt := Aside0.mk (show gm ≠ gt from Nat.ne_of_gt (Nat.lt_of_lt_of_le (blk_lt (g := gt) (o := .cells #[.int .i64 10, .int .i64 2] 23 (0, 0)) BK_gt.out) hG.out))
  have NB_gt_gm := Aside0.mk (Ne.symm NB_gm_gt.out)
  have HBo := Aside0.mk HB.out
  replace HB := mvH HB hB
  clear hc_gt_0 hf_gt_0 hc_gt_1 hf_gt_1
  replace BK_gt := mvB BK_gt hB
  obtain ⟨hc_gt_0, hc_gt_1, hf_gt_0, hf_gt_1⟩ := cf2 BK_gt.out
  replace HC_l := mvC HC_l hB
  replace HC_m := mvC HC_m hB
  have BK_gm := Aside0.mk hBN
  have GE_gm := Aside0.mk (Nat.le_trans HBo.out.size hG.out)
  clear HBo hG hBN hB
  obtain ⟨hc_gm_0, hc_gm_1, hc_gm_2, hc_gm_3, hf_gm_0, hf_gm_1, hf_gm_2, hf_gm_3⟩ := cf4 BK_gm.out
  obtain ⟨ad, he_, hx0, hx1⟩ := at_T49 HC_m.out 0 (by decide) (by decide)
  subst he_
  have hx0' : w6_.cell? (ad.add (Int.toNat 0 * 2)) = some (.int .u32 5) := hx0
  have hx1' : w6_.cell? ⟨(ad.add (Int.toNat 0 * 2)).block, (ad.add (Int.toNat 0 * 2)).off + 1, none⟩ = some (.int .i64 10) := hx1
  have hx2 : w6_.cell? ad = some (.int .u32 5) := hx0'
  have hx3 : w6_.cell? ⟨ad.block, ad.off + 1, none⟩ = some (.int .i64 10) := hx1'
  clear hx0 hx1
  go_wp2_with (first | (go_at_call 19; with_reducible refine (wants5_w (some ad) c_m _ HC_m.out HK_m.out).mono ?_; rintro e w7_ ⟨rfl, hB⟩; replace HB := mvH HB hB; clear hc_gt_0 hf_gt_0 hc_gt_1 hf_gt_1; replace BK_gt := mvB BK_gt hB; obtain ⟨hc_gt_0, hc_gt_1, hf_gt_0, hf_gt_1⟩ := cf2 BK_gt.out; clear hc_gm_0 hf_gm_0 hc_gm_1 hf_gm_1 hc_gm_2 hf_gm_2 hc_gm_3 hf_gm_3; replace BK_gm := mvB BK_gm hB; obtain ⟨hc_gm_0, hc_gm_1, hc_gm_2, hc_gm_3, hf_gm_0, hf_gm_1, hf_gm_2, hf_gm_3⟩ := cf4 BK_gm.out; replace HC_l := mvC HC_l hB; replace HC_m := mvC HC_m hB; clear hB) | (go_at_call 19; with_reducible refine (wants6_w (some ad) c_m _ HC_m.out HK_m.out).mono ?_; rintro e w8_ ⟨rfl, hB⟩; replace HB := mvH HB hB; clear hc_gt_0 hf_gt_0 hc_gt_1 hf_gt_1; replace BK_gt := mvB BK_gt hB; obtain ⟨hc_gt_0, hc_gt_1, hf_gt_0, hf_gt_1⟩ := cf2 BK_gt.out; clear hc_gm_0 hf_gm_0 hc_gm_1 hf_gm_1 hc_gm_2 hf_gm_2 hc_gm_3 hf_gm_3; replace BK_gm := mvB BK_gm hB; obtain ⟨hc_gm_0, hc_gm_1, hc_gm_2, hc_gm_3, hf_gm_0, hf_gm_1, hf_gm_2, hf_gm_3⟩ := cf4 BK_gm.out; replace HC_l := mvC HC_l hB; replace HC_m := mvC HC_m hB; clear hB) | (go_at_call 20; with_reducible refine (some0_w (some ad) c_m _ HC_m.out HK_m.out).mono ?_; rintro e w9_ ⟨rfl, hB⟩; replace HB := mvH HB hB; clear hc_gt_0 hf_gt_0 hc_gt_1 hf_gt_1; replace BK_gt := mvB BK_gt hB; obtain ⟨hc_gt_0, hc_gt_1, hf_gt_0, hf_gt_1⟩ := cf2 BK_gt.out; clear hc_gm_0 hf_gm_0 hc_gm_1 hf_gm_1 hc_gm_2 hf_gm_2 hc_gm_3 hf_gm_3; replace BK_gm := mvB BK_gm hB; obtain ⟨hc_gm_0, hc_gm_1, hc_gm_2, hc_gm_3, hf_gm_0, hf_gm_1, hf_gm_2, hf_gm_3⟩ := cf4 BK_gm.out; replace HC_l := mvC HC_l hB; replace HC_m := mvC HC_m hB; clear hB) | (go_at_call 21; with_reducible refine (may0_w _).mono ?_; rintro e w10_ ⟨rfl, hB⟩; replace HB := mvH HB hB; clear hc_gt_0 hf_gt_0 hc_gt_1 hf_gt_1; replace BK_gt := mvB BK_gt hB; obtain ⟨hc_gt_0, hc_gt_1, hf_gt_0, hf_gt_1⟩ := cf2 BK_gt.out; clear hc_gm_0 hf_gm_0 hc_gm_1 hf_gm_1 hc_gm_2 hf_gm_2 hc_gm_3 hf_gm_3; replace BK_gm := mvB BK_gm hB; obtain ⟨hc_gm_0, hc_gm_1, hc_gm_2, hc_gm_3, hf_gm_0, hf_gm_1, hf_gm_2, hf_gm_3⟩ := cf4 BK_gm.out; replace HC_l := mvC HC_l hB; replace HC_m := mvC HC_m hB; clear hB))
  go_ret
  exact ⟨rfl, HB.out⟩
end Go.Proofs.Ytbllchfgjginoaa
/-
  Time of any length, called (chapter 08).
-/
namespace Go.Proofs.Ytbllchfgjginoaa
open Go.RowKit Go.Lib Go.Proofs.YtbllchfgjginoaaW.PrintWords Go.Proofs.Ytbllchfgjginoaa.PMe
set_option linter.unusedVariables false
set_option linter.unusedSimpArgs false
theorem MOk.left {x : S28} (h : MOk x) : 0 ≤ x.f2 ∧ x.f2 ≤ 1000000 := by
  cases e : x.f1
  · have := h.inn e; omega
  · have := h.ex e; omega
theorem same_w {x : S28} (hl : x.f3.length ≤ 1000000) (A : Option Addr) (c : Nat) (B : Option Addr) (d : Nat) (w : World) (hr : Kd.C k49 w A x.f3.length x.f3) (hc : x.f3.length ≤ c) (hs : Kd.C k49 w B x.f3.length x.f3) (hd : x.f3.length ≤ d) :
    Calls Try.prog 14 #[.agg #[.int .u32 x.f0, .bool x.f1, .int .i64 x.f2, .slice A x.f3.length c], .agg #[.int .u32 x.f0, .bool x.f1, .int .i64 x.f2, .slice B x.f3.length d]] w fun e w' => e = .returned (.bool true) ∧ Below w.heap.size w w' :=
  stolonref08_Same.calls _ _ _ _ A c _ _ _ _ B d _ true w hr hc hs hd (same_self x hl _ (Nat.le_refl _))
end Go.Proofs.Ytbllchfgjginoaa
/-
  Contracts over flat values (chapter 08), for the laws' walks.
-/
namespace Go.Proofs.Ytbllchfgjginoaa
open Go.RowKit Go.Lib Go.Proofs.YtbllchfgjginoaaW.PrintWords Go.Proofs.Ytbllchfgjginoaa.PMe
set_option linter.unusedVariables false
set_option linter.unusedSimpArgs false
theorem MOk.le {x : S28} (h : MOk x) : x.f3.length ≤ 1000000 := by have := h.len; omega
variable {t : S23} {g lf g' lf' : Int} {ex ex' : Bool} {sr sr' : List S49}
theorem right_flat {b : Bool} (h : b = true ↔ MOk ⟨g, ex, lf, sr⟩) (A : Option Addr) (c : Nat) (w : World) (hr : Kd.C k49 w A sr.length sr) (hc : sr.length ≤ c) :
    Calls Try.prog 11 #[.agg #[.int .u32 g, .bool ex, .int .i64 lf, .slice A sr.length c]] w fun e w' => e = .returned (.bool b) ∧ Below w.heap.size w w' :=
  right_w h A c w hr hc
/-! ### what a record comes to, in one word -/
/-- What is held behind a record: right; its error is 0 or 7. -/
theorem hear_tell (ht : mayB t = true) (hx : MOk ⟨g, ex, lf, sr⟩) (kind : Int) (l : List Int) : ∃ g' ex' lf' sr' asks err, hearR t ⟨g, ex, lf, sr⟩ kind l = (⟨g', ex', lf', sr'⟩, asks, err) ∧ MOk ⟨g', ex', lf', sr'⟩ :=
  ⟨(hearR t ⟨g, ex, lf, sr⟩ kind l).1.f0, (hearR t ⟨g, ex, lf, sr⟩ kind l).1.f1, (hearR t ⟨g, ex, lf, sr⟩ kind l).1.f2, (hearR t ⟨g, ex, lf, sr⟩ kind l).1.f3, _, _, rfl, hear_right ht hx kind l⟩
end Go.Proofs.Ytbllchfgjginoaa
/-
  ref08.asked: of whom is asked.
-/
namespace Go.Proofs.Ytbllchfgjginoaa
open Go.RowKit Go.Lib Go.Proofs.YtbllchfgjginoaaW.PrintWords Go.Proofs.YtbllchfgjginoaaW.PrintLast Go.Proofs.YtbllchfgjginoaaW.PrintMore Go.Proofs.Ytbllchfgjginoaa.PMe
set_option linter.unusedVariables false
set_option linter.unusedSimpArgs false
def mh_T : Bool × List (List Nat × List Nat) := (true, [([], []), ([], []), ([1], [1]), ([], []), ([3], [3]), ([], []), ([], []), ([6], [6]), ([5, 7], [5, 7]), ([], []), ([], []), ([9, 10], [9, 10]), ([11], [11]), ([8, 12, 8], [8, 12]), ([0, 2, 4, 13], [0, 2, 4, 13]), ([14, 13, 0, 1, 2, 3, 4, 5, 6, 7, 8, 9, 10, 11, 12, 13, 14], [14])])
def mh_B : List Nat := [0, 0, 2, 0, 8, 0, 0, 64, 224, 0, 0, 1536, 3584, 8160, 16383, 32767]
theorem mh_t : rtab .any (opsOf Try.f49 12) = mh_T := by kernel_rfl
theorem mh_b : waitsOk mh_T.2 mh_B = true := by kernel_rfl
theorem stores_step {P : Program} {ops : Array Oper} {Q : Exit → Act → World → Prop} {oi : Oper} {a : Act} {w w1 : World} {K : Act → World → Prop} (hw : Region.wanted oi (yielded ops a.tmps) = true) (hN : oi.dst = none) (hrun : (execOp a.eval oi).run P w = .ok .skip w1) (h : K a w1) :
    if Region.wanted oi (yielded ops a.tmps) = true then Oper.wp P oi a w K Q else K (a.put oi.dst undef) w := by
  rw [if_pos hw]
  unfold Oper.wp
  rw [hrun]
  show K (a.put oi.dst undef) w1
  rw [hN]
  exact h
def asksOf (g : Int) (l : List Int) : List S46 := if l.length = 0 then [] else [⟨g, l⟩]
theorem ask_succ (last : Int) (l : List Int) {xs : List S49} {i : Nat} (h : i < xs.length) : askS last l (xs.take (i + 1)) = askS last l (xs.take i) ++ [ask1 last l (rd_T49 xs i)] := by
  unfold askS
  rw [rd49 xs i h, ← List.take_append_getElem h, List.map_append]
  rfl
theorem Kd.V_rbase {α : Type} {d : Kd α} {e base : Nat} {w : World} {ok : Nat → Prop} {v : Value} {xs : List α} (h : Kd.R d e w base ok v xs) : Kd.V d e w 0 ok v xs := Kd.R_V h
theorem info46_ : (Try.prog.info? 46).map (fun i => (i.zero, i.size, i.bytes)) = some (some (.agg #[.int .u32 0, .slice none 0 0]), 2, 32) := by kernel_rfl
set_option maxHeartbeats 8000000 in
set_option maxRecDepth 100000 in
theorem asked_w {srcs : List S49} {ex : Bool} {lf g last : Int} {l : List Int} (hs : srcs.length ≤ 100000) (hl : l.length ≤ 100000) (A_s : Option Addr) (c_s : Nat) (A_l : Option Addr) (c_l : Nat) (w : World) (P : Nat → Prop) (h1 : Kd.V k49 49 w 0 P (.slice A_s srcs.length c_s) srcs) (h2 : Kd.V (Kd.int .u32) 25 w 0 P (.slice A_l l.length c_l) l) :
    Calls Try.prog 49 #[.agg #[.slice A_s srcs.length c_s, .bool ex, .int .i64 lf, .slice none 0 0], .int .u32 g, .slice A_l l.length c_l, .int .i64 last] w fun e w' => ∃ v0 v1, e = .returned (.agg #[v0, .bool ex, .int .i64 lf, v1]) ∧ Kd.V k49 49 w' 0 (fun k => P k ∨ w.heap.size ≤ k) v0 (askS last l srcs) ∧ Kd.V k46 46 w' 0 (fun k => P k ∨ w.heap.size ≤ k) v1 (asksOf g l) ∧ Below w.heap.size w w' := by
  have hu76 := Try.underlying76
  have hu49 := Try.underlying49
  have hu46 := Try.underlying46
  have HB := Aside0.mk (Below.refl w.heap.size w)
  have HC_s := Aside0.mk (Kd.V_reads' h1).2.2
  have HK_s := Aside0.mk (Kd.V_reads' h1).2.1
  have HC_l := Aside0.mk (Kd.V_reads' h2).2.2
  have HK_l := Aside0.mk (Kd.V_reads' h2).2.1
  have HV1 := Aside0.mk (Kd.V_bound h1)
  have HV2 := Aside0.mk (Kd.V_bound h2)
  have XS := Aside0.mk hs
  have XL := Aside0.mk hl
  clear h1 h2 hs hl
  go_enter Try.func49, Try.ntmps49
  go_upto_region 1 with (first | ((with_reducible refine gate_dst (N := 4) rfl ?_); (try (refine gate_guard (by rfl) ?_; dsimp only)); refine bxn (cs := #[.slice A_s srcs.length c_s, .bool ex, .int .i64 lf, .slice none 0 0]) (t := 76) ?_; intro gh hg w1_ hbox hB; replace HB := mvH HB hB; have BK_gh := Aside0.mk hbox; clear hg hbox hB; obtain ⟨hc_gh_0, hc_gh_1, hc_gh_2, hc_gh_3, hf_gh_0, hf_gh_1, hf_gh_2, -⟩ := cf4 BK_gh.out; have hf_gh_3 := blk_frozen BK_gh.out 3) | ((with_reducible refine gate_dst (N := 8) rfl ?_); (try (refine gate_guard (by rfl) ?_; dsimp only)); refine bxn (cs := #[.slice none 0 0, .bool false, .int .i64 0, .slice none 0 0]) (t := 76) ?_; intro go hg w2_ hbox hB; have HBo := HB; replace HB := mvH HB hB; clear hc_gh_0 hf_gh_0 hc_gh_1 hf_gh_1 hc_gh_2 hf_gh_2 hc_gh_3 hf_gh_3; replace BK_gh := mvB BK_gh hB; obtain ⟨hc_gh_0, hc_gh_1, hc_gh_2, hc_gh_3, hf_gh_0, hf_gh_1, hf_gh_2, hf_gh_3⟩ := cf4 BK_gh.out; have BK_go := Aside0.mk hbox; have GO := Aside0.mk (show w.heap.size ≤ go by rw [hg]; exact HBo.out.size); clear hg hbox hB; obtain ⟨hc_go_0, hc_go_1, hc_go_2, hc_go_3, hf_go_0, hf_go_1, hf_go_2, -⟩ := cf4 BK_go.out; have hf_go_3 := blk_frozen BK_go.out 3))
  by_cases hl0 : l.length = 0
  · obtain rfl := List.length_eq_zero_iff.1 hl0
    clear hl0
    go_wp2
    refine bodyPost_ret (results_cell_row rfl _ _ go 76 #[.slice A_s srcs.length c_s, .bool ex, .int .i64 lf, .slice none 0 0] (0, 0) _ rfl (blk_put (cs := #[.slice A_s srcs.length c_s, .bool ex, .int .i64 lf, .slice none 0 0]) (blk_put (cs := #[.slice A_s srcs.length c_s, .bool ex, .int .i64 0, .slice none 0 0]) (blk_put (cs := #[.slice A_s srcs.length c_s, .bool false, .int .i64 0, .slice none 0 0]) (blk_put (cs := #[.slice none 0 0, .bool false, .int .i64 0, .slice none 0 0]) BK_go.out 0 (.slice A_s srcs.length c_s) rfl) 1 (.bool ex) rfl) 2 (.int .i64 lf) rfl) 3 (.slice none 0 0) rfl) Try.underlying76 rfl (by kernel_rfl)) rfl ?_
    have e0 : askS last [] srcs = srcs := ask_nil last srcs
    refine ⟨_, _, rfl, ?_, Kd.V_nil _ _ _ _ _, (below_set (below_set (below_set (below_set HB.out GO.out) GO.out) GO.out) GO.out)⟩
    rw [e0]
    exact Kd.V_mono (Kd.V_far (p := ⟨go, 3, none⟩) (Kd.V_far (p := ⟨go, 2, none⟩) (Kd.V_far (p := ⟨go, 1, none⟩) (Kd.V_far (p := ⟨go, 0, none⟩) (Kd.V_below HV1.out HB.out) (fun k hk e => by have h1 := hk.2; have h2 := GO.out; have h3 : k = go := e; omega) (.slice A_s srcs.length c_s)) (fun k hk e => by have h1 := hk.2; have h2 := GO.out; have h3 : k = go := e; omega) (.bool ex)) (fun k hk e => by have h1 := hk.2; have h2 := GO.out; have h3 : k = go := e; omega) (.int .i64 lf)) (fun k hk e => by have h1 := hk.2; have h2 := GO.out; have h3 : k = go := e; omega) (.slice none 0 0)) (fun k hk => .inl hk.1)
  · have c15 : ((l.length : Int) == 0) = false := by rw [beq_eq_false_iff_ne]; omega
    have XH := Aside0.mk hl0
    clear hl0
    go_wp2
    clear c15
    obtain ⟨wa, hren⟩ : ∃ x_, x_ = w2_ := ⟨_, rfl⟩
    subst hren
    have XWA := Aside0.mk HB.out.size
    go_loopg [9, 10] srcs.length (fun gk v9 v10 w' => ∃ i : Nat, v10 = .int .i64 (i : Int) ∧ Aside0 (i ≤ srcs.length ∧ gk = srcs.length - i) ∧ Aside0 (Kd.R k49 49 w' wa.heap.size (fun _ => True) v9 (askS last l (srcs.take i))) ∧ Aside0 (Below wa.heap.size wa w'))
    case atStart => exact ⟨0, rfl, ⟨Nat.zero_le _, by omega⟩, ⟨Kd.R_nil _ _ _ _ _⟩, ⟨Below.refl _ _⟩⟩
    case round =>
      obtain ⟨i, rfl, HI, HR, HZ⟩ := hrel
      obtain ⟨hi, hgk⟩ := HI.out
      obtain ⟨wb, hren⟩ : ∃ x_, x_ = wr := ⟨_, rfl⟩
      subst hren
      have hB := HZ.out
      replace HB := mvH HB hB
      clear hc_gh_0 hf_gh_0 hc_gh_1 hf_gh_1 hc_gh_2 hf_gh_2 hc_gh_3 hf_gh_3
      replace BK_gh := mvB BK_gh hB
      obtain ⟨hc_gh_0, hc_gh_1, hc_gh_2, hc_gh_3, hf_gh_0, hf_gh_1, hf_gh_2, hf_gh_3⟩ := cf4 BK_gh.out
      clear hc_go_0 hf_go_0 hc_go_1 hf_go_1 hc_go_2 hf_go_2 hc_go_3 hf_go_3
      replace BK_go := mvB BK_go hB
      obtain ⟨hc_go_0, hc_go_1, hc_go_2, hc_go_3, hf_go_0, hf_go_1, hf_go_2, hf_go_3⟩ := cf4 BK_go.out
      clear hB
      by_cases hlt : i < srcs.length
      · have c21 : decide ((i : Int) < (srcs.length : Int)) = true := decide_eq_true (by omega)
        have p1 : (0 : Int) ≤ (i : Int) := by omega
        have p2 : (i : Int) < (srcs.length : Int) := by omega
        obtain ⟨ad, he, hx0, hx1⟩ := at_T49 (Kd.C_below HC_s.out HB.out) (i : Int) p1 p2
        subst he
        rw [Int.toNat_natCast] at hx0 hx1
        have XAS := Aside0.mk (ask_succ last l hlt)
        have XTL := Aside0.mk (show (askS last l (srcs.take i)).length ≤ srcs.length by unfold askS; rw [List.length_map, List.length_take]; omega)
        obtain ⟨x, hx⟩ : ∃ x, x = rd_T49 srcs (i : Int) := ⟨_, rfl⟩
        rw [← hx] at hx0 hx1 XAS
        clear hx
        replace p1 := eq_true p1
        replace p2 := eq_true p2
        replace HR := Aside0.mk (Kd.R_bound HR.out)
        obtain ⟨bi, hbi⟩ : ∃ b, decide (x.f0 ∈ l) = b := ⟨_, rfl⟩
        have XBI := Aside0.mk hbi
        clear hbi
        have HR_R := HR
        clear HR
        go_upto_region 8 with (first | ((with_reducible refine gate_dst (N := 11) rfl ?_); (try (refine gate_guard (by rfl) ?_; dsimp only)); refine bxn (cs := #[.int .u32 0, .int .i64 0]) (t := 49) ?_; intro gx hg w3_ hbox hB0; have hG := Aside0.mk (show wb.heap.size ≤ gx from Nat.le_of_eq hg.symm); clear hg; have hBX := Aside0.mk hbox; have hB1 := Aside0.mk hB0; clear hB0; obtain ⟨hc_gx_0, hc_gx_1, hf_gx_0, hf_gx_1⟩ := cf2 hbox; clear hbox))
        have hB : Below wb.heap.size wb ((w3_.setCell ⟨gx, 0, none⟩ (.int .u32 x.f0)).setCell ⟨gx, 1, none⟩ (.int .i64 x.f1)) := (below_set (below_set hB1.out hG.out) hG.out)
        have hBN : ((w3_.setCell ⟨gx, 0, none⟩ (.int .u32 x.f0)).setCell ⟨gx, 1, none⟩ (.int .i64 x.f1)).heap[gx]? = some (.cells #[.int .u32 x.f0, .int .i64 x.f1] 49 (0, 0)) := (blk_put (cs := #[.int .u32 x.f0, .int .i64 0]) (blk_put (cs := #[.int .u32 0, .int .i64 0]) hBX.out 0 (.int .u32 x.f0) rfl) 1 (.int .i64 x.f1) rfl)
        clear hBX hB1
        clear hc_gx_0 hf_gx_0 hc_gx_1 hf_gx_1
        generalize ((w3_.setCell ⟨gx, 0, none⟩ (.int .u32 x.f0)).setCell ⟨gx, 1, none⟩ (.int .i64 x.f1)) = w4_ at hB hBN ⊢
        have HZo := HZ
        replace HB := mvH HB hB
        replace HZ := mvH HZ hB
        clear hc_gh_0 hf_gh_0 hc_gh_1 hf_gh_1 hc_gh_2 hf_gh_2 hc_gh_3 hf_gh_3
        replace BK_gh := mvB BK_gh hB
        obtain ⟨hc_gh_0, hc_gh_1, hc_gh_2, hc_gh_3, hf_gh_0, hf_gh_1, hf_gh_2, hf_gh_3⟩ := cf4 BK_gh.out
        clear hc_go_0 hf_go_0 hc_go_1 hf_go_1 hc_go_2 hf_go_2 hc_go_3 hf_go_3
        replace BK_go := mvB BK_go hB
        obtain ⟨hc_go_0, hc_go_1, hc_go_2, hc_go_3, hf_go_0, hf_go_1, hf_go_2, hf_go_3⟩ := cf4 BK_go.out
        replace HR_R := mvR HR_R hB
        have BK_gx := Aside0.mk hBN
        have GX := Aside0.mk (Nat.le_trans HZo.out.size hG.out)
        have GY := hG
        clear hG hBN hB
        obtain ⟨hc_gx_0, hc_gx_1, hf_gx_0, hf_gx_1⟩ := cf2 BK_gx.out
        clear hx0 hx1 HZo
        go_upto_region 9 with (first | (go_at_call 18; with_reducible refine (has6_w (by have := XL.out; omega) XBI.out _ _ _ (Kd.C_below HC_l.out HB.out) HK_l.out).mono ?_; rintro e w5_ ⟨rfl, hB⟩; replace HB := mvH HB hB; replace HZ := mvH HZ hB; clear hc_gh_0 hf_gh_0 hc_gh_1 hf_gh_1 hc_gh_2 hf_gh_2 hc_gh_3 hf_gh_3; replace BK_gh := mvB BK_gh hB; obtain ⟨hc_gh_0, hc_gh_1, hc_gh_2, hc_gh_3, hf_gh_0, hf_gh_1, hf_gh_2, hf_gh_3⟩ := cf4 BK_gh.out; clear hc_go_0 hf_go_0 hc_go_1 hf_go_1 hc_go_2 hf_go_2 hc_go_3 hf_go_3; replace BK_go := mvB BK_go hB; obtain ⟨hc_go_0, hc_go_1, hc_go_2, hc_go_3, hf_go_0, hf_go_1, hf_go_2, hf_go_3⟩ := cf4 BK_go.out; clear hc_gx_0 hf_gx_0 hc_gx_1 hf_gx_1; replace BK_gx := mvB BK_gx hB; obtain ⟨hc_gx_0, hc_gx_1, hf_gx_0, hf_gx_1⟩ := cf2 BK_gx.out; replace HR_R := mvR HR_R hB; clear hB))
        cases bi
        · go_wp2_with (first | ((with_reducible refine gate_builtin (b := .append) (xs := #[.tmp 42, .tmp 44]) rfl ?_); at_builtin; refine Kd.R_append k49 (w0 := wa) wa.heap.size rfl (.tmp 42) (.tmp 44) 26 49 (.agg #[(.int .u32 0), (.int .i64 0)]) 16 rfl Try.underlying26 info49 rfl (by decide) (by omega) u9 (askS last l (srcs.take i)) (⟨x.f0, x.f1⟩ : S49) [.int .u32 x.f0, .int .i64 x.f1] (fun _ => True) (fun _ => False) rfl rfl (k49_mkM _ _ _ (⟨x.f0, x.f1⟩ : S49)) (fun _ hk => hk.elim) (fun _ _ => trivial) (Kd.R_mono HR_R.out (fun _ _ => trivial)) HZ.out HZ.out.size (by have h1 := XS.out; have h2 := XTL.out; omega) ?_; intro v_n wn ho hb_ _ _; clear HR_R HZ; have HR_N := Aside0.mk ho; have HZ := Aside0.mk hb_; clear ho hb_))
          go_roundg (srcs.length - (i + 1))
          case measure => omega
          case rel => exact ⟨i + 1, by show Value.int .i64 (wrap64 ((i : Int) + 1)) = _; rw [step64 i (by have := XS.out; omega)], ⟨by omega, rfl⟩, ⟨by rw [XAS.out, show ask1 last l x = ⟨x.f0, x.f1⟩ from by unfold ask1; rw [if_neg (of_decide_eq_false XBI.out)]]; exact HR_N.out⟩, HZ⟩
        · by_cases hgt : last < x.f1
          · have c38 : decide (last < x.f1) = true := decide_eq_true hgt
            have XGT := Aside0.mk hgt
            clear hgt
            go_upto_region 11 with fail
            have nZ : Aside0 (Below wa.heap.size wa (w5_.setCell ⟨gx, 1, none⟩ (.int .i64 last))) := ⟨below_set HZ.out GX.out⟩
            have nX : Aside0 ((w5_.setCell ⟨gx, 1, none⟩ (.int .i64 last)).heap[gx]? = some (.cells #[.int .u32 x.f0, .int .i64 last] 49 (0, 0))) := ⟨blk_put (cs := #[.int .u32 x.f0, .int .i64 x.f1]) BK_gx.out 1 (.int .i64 last) rfl⟩
            have nR := Aside0.mk (Kd.R_mono (Kd.R_far (p := ⟨gx, 1, none⟩) HR_R.out (fun k hk e => by have h1 := hk.2; have h2 := GY.out; have h3 : k = gx := e; omega) (.int .i64 last)) (fun _ _ => trivial : ∀ k, _ → (fun _ => True) k))
            clear HB HR_R HZ
            clear hc_gx_0 hf_gx_0 hc_gx_1 hf_gx_1
            clear hc_gh_0 hf_gh_0 hc_gh_1 hf_gh_1 hc_gh_2 hf_gh_2 hc_gh_3 hf_gh_3
            clear hc_go_0 hf_go_0 hc_go_1 hf_go_1 hc_go_2 hf_go_2 hc_go_3 hf_go_3
            clear BK_gx BK_gh BK_go
            generalize (w5_.setCell ⟨gx, 1, none⟩ (.int .i64 last)) = wq at nZ nX nR ⊢
            have HZ := nZ
            have BK_gx := nX
            have HR_R := nR
            clear nZ nX nR
            obtain ⟨hc_gx_0, hc_gx_1, hf_gx_0, hf_gx_1⟩ := cf2 BK_gx.out
            go_wp2_with (first | ((with_reducible refine gate_builtin (b := .append) (xs := #[.tmp 42, .tmp 44]) rfl ?_); at_builtin; refine Kd.R_append k49 (w0 := wa) wa.heap.size rfl (.tmp 42) (.tmp 44) 26 49 (.agg #[(.int .u32 0), (.int .i64 0)]) 16 rfl Try.underlying26 info49 rfl (by decide) (by omega) u9 (askS last l (srcs.take i)) (⟨x.f0, last⟩ : S49) [.int .u32 x.f0, .int .i64 last] (fun _ => True) (fun _ => False) rfl rfl (k49_mkM _ _ _ (⟨x.f0, last⟩ : S49)) (fun _ hk => hk.elim) (fun _ _ => trivial) (Kd.R_mono HR_R.out (fun _ _ => trivial)) HZ.out HZ.out.size (by have h1 := XS.out; have h2 := XTL.out; omega) ?_; intro v_n wn ho hb_ _ _; clear HR_R HZ; have HR_N := Aside0.mk ho; have HZ := Aside0.mk hb_; clear ho hb_))
            go_roundg (srcs.length - (i + 1))
            case measure => omega
            case rel => exact ⟨i + 1, by show Value.int .i64 (wrap64 ((i : Int) + 1)) = _; rw [step64 i (by have := XS.out; omega)], ⟨by omega, rfl⟩, ⟨by rw [XAS.out, show ask1 last l x = ⟨x.f0, last⟩ from by unfold ask1; rw [if_pos (of_decide_eq_true XBI.out), Int.min_eq_right (by have := XGT.out; omega)]]; exact HR_N.out⟩, HZ⟩
          · have c38 : decide (last < x.f1) = false := decide_eq_false hgt
            have XGT := Aside0.mk hgt
            clear hgt
            go_wp2_with (first | ((with_reducible refine gate_builtin (b := .append) (xs := #[.tmp 42, .tmp 44]) rfl ?_); at_builtin; refine Kd.R_append k49 (w0 := wa) wa.heap.size rfl (.tmp 42) (.tmp 44) 26 49 (.agg #[(.int .u32 0), (.int .i64 0)]) 16 rfl Try.underlying26 info49 rfl (by decide) (by omega) u9 (askS last l (srcs.take i)) (⟨x.f0, x.f1⟩ : S49) [.int .u32 x.f0, .int .i64 x.f1] (fun _ => True) (fun _ => False) rfl rfl (k49_mkM _ _ _ (⟨x.f0, x.f1⟩ : S49)) (fun _ hk => hk.elim) (fun _ _ => trivial) (Kd.R_mono HR_R.out (fun _ _ => trivial)) HZ.out HZ.out.size (by have h1 := XS.out; have h2 := XTL.out; omega) ?_; intro v_n wn ho hb_ _ _; clear HR_R HZ; have HR_N := Aside0.mk ho; have HZ := Aside0.mk hb_; clear ho hb_))
            go_roundg (srcs.length - (i + 1))
            case measure => omega
            case rel => exact ⟨i + 1, by show Value.int .i64 (wrap64 ((i : Int) + 1)) = _; rw [step64 i (by have := XS.out; omega)], ⟨by omega, rfl⟩, ⟨by rw [XAS.out, show ask1 last l x = ⟨x.f0, x.f1⟩ from by unfold ask1; rw [if_pos (of_decide_eq_true XBI.out), Int.min_eq_left (by have := XGT.out; omega)]]; exact HR_N.out⟩, HZ⟩
      · have c21 : decide ((i : Int) < (srcs.length : Int)) = false := decide_eq_false (by omega)
        have hie : i = srcs.length := by omega
        have HR2 := Aside0.mk (show Kd.R k49 49 wb wa.heap.size (fun _ => True) u9 (askS last l srcs) by have h1 := HR.out; rw [hie, List.take_length] at h1; exact h1)
        clear HR HI hi hgk hie
        obtain ⟨A9, c9, e9⟩ := Kd.R_slice HR2.out
        subst e9
        generalize hacc : askS last l srcs = acc at HR2 ⊢
        have XAC := Aside0.mk hacc
        clear hacc
        go_upto_region 12 with fail
        refine start_ (n := 16) (S := fun w' => True) (ds := []) #[false, false, false, false, false, false, false, false, false, false, false, false, false, false, false, false] (by kernel_rfl) rfl rfl trivial (fun hHeld => ?_); refine with_tabW mh_t mh_b (fun HT_ HW_ => ?_)
        have hB : Below wb.heap.size wb wb.drew := below_drew (Below.refl _ _)
        generalize wb.drew = wv at hB hHeld ⊢
        replace HB := mvH HB hB
        replace HZ := mvH HZ hB
        clear hc_gh_0 hf_gh_0 hc_gh_1 hf_gh_1 hc_gh_2 hf_gh_2 hc_gh_3 hf_gh_3
        replace BK_gh := mvB BK_gh hB
        obtain ⟨hc_gh_0, hc_gh_1, hc_gh_2, hc_gh_3, hf_gh_0, hf_gh_1, hf_gh_2, hf_gh_3⟩ := cf4 BK_gh.out
        clear hc_go_0 hf_go_0 hc_go_1 hf_go_1 hc_go_2 hf_go_2 hc_go_3 hf_go_3
        replace BK_go := mvB BK_go hB
        obtain ⟨hc_go_0, hc_go_1, hc_go_2, hc_go_3, hf_go_0, hf_go_1, hf_go_2, hf_go_3⟩ := cf4 BK_go.out
        replace HR2 := mvR HR2 hB
        clear hB
        refine inv_at [0, 1, 2, 3, 4, 5, 6, 7, 8, 9, 10, 11, 12, 13, 14, 15] (fun a0_ b a w' => ∃ (v51 v54 v58 v59 v60 : Value), a = putSel a0_ b [(0, 46, .slice A9 acc.length c9), (1, 47, .pointer (some ⟨gh, 1, none⟩)), (2, 48, .bool ex), (3, 49, .pointer (some ⟨gh, 2, none⟩)), (4, 50, .int .i64 lf), (5, 51, v51), (6, 52, .pointer (some ⟨gh, 3, none⟩)), (7, 53, .slice none 0 0), (8, 54, v54), (9, 55, .int .u32 g), (10, 56, .slice A_l l.length c_l), (11, 57, .agg #[.int .u32 g, .slice A_l l.length c_l]), (12, 58, v58), (13, 59, v59), (14, 60, .agg #[.slice A9 acc.length c9, .bool ex, .int .i64 lf, v60])] ∧ (b 15 = false → Below wv.heap.size wv w') ∧ (b 5 = true → b 8 = false → Kd.N k46 46 w' wv.heap.size (fun k => (P k ∧ k < w.heap.size ∨ wv.heap.size ≤ k)) v51 []) ∧ (b 8 = true → b 13 = false → Kd.N k46 46 w' wv.heap.size (fun k => (P k ∧ k < w.heap.size ∨ wv.heap.size ≤ k)) v54 []) ∧ (b 12 = true → b 13 = false → Kd.V k46 46 w' 0 (fun k => (P k ∧ k < w.heap.size ∨ wv.heap.size ≤ k) ∧ (b 5 = true → b 8 = false → some k ≠ v51.ownBlock) ∧ (b 8 = true → some k ≠ v54.ownBlock)) v58 [(⟨g, l⟩ : S46)]) ∧ (b 13 = true → Kd.V k46 46 w' 0 (fun k => (P k ∧ k < w.heap.size ∨ wv.heap.size ≤ k)) v59 [(⟨g, l⟩ : S46)]) ∧ (b 14 = true → v60 = v59) ∧ (b 15 = true → w'.heap[go]? = some (.cells #[.slice A9 acc.length c9, .bool ex, .int .i64 lf, v59] 76 (0, 0)) ∧ Below w.heap.size w w' ∧ Kd.V k49 49 w' 0 (fun k => w.heap.size ≤ k) (.slice A9 acc.length c9) acc)) HT_.out HW_.out (by kernel_rfl) (by kernel_rfl) ?_ ?_ ?_
        · exact ⟨.bool false, .bool false, .bool false, .bool false, .bool false, by simp only [putSel, Bool.false_eq_true, if_false], fun _ => Below.refl _ _, fun h => absurd h (by decide), fun h => absurd h (by decide), fun h => absurd h (by decide), fun h => absurd h (by decide), fun h => absurd h (by decide), fun h => absurd h (by decide)⟩
        · skip
          refine steps_cons ?_ ?_
          · rintro b a w' ⟨v51, v54, v58, v59, v60, ha, QB0, Q5, Q8, Q12, Q13, Q14, Q15⟩ hb_ hon hoff
            refine ⟨_, rfl, fun K hK => ?_⟩
            have e9 : a.tmps[9]? = some (.slice A9 acc.length c9) := by rw [ha]; exact (putSel_off rfl).trans rfl
            replace ha := Aside0.mk ha
            refine value_ (w1 := w') (v := .slice A9 acc.length c9) (by rfl) rfl ?_ ?_
            · go_simp
              try rfl
            exact hK.out _ _ ⟨v51, v54, v58, v59, v60, (by rw [ha.out]; exact putSel_upk 0 hb_ rfl rfl rfl), QB0, Q5, Q8, Q12, Q13, Q14, Q15⟩
          refine steps_cons ?_ ?_
          · rintro b a w' ⟨v51, v54, v58, v59, v60, ha, QB0, Q5, Q8, Q12, Q13, Q14, Q15⟩ hb_ hon hoff
            refine ⟨_, rfl, fun K hK => ?_⟩
            have e4 : a.tmps[4]? = some (.pointer (some ⟨gh, 0, none⟩)) := by rw [ha]; exact (putSel_off rfl).trans rfl
            replace ha := Aside0.mk ha
            refine value_ (w1 := w') (v := .pointer (some ⟨gh, 1, none⟩)) (by rfl) rfl ?_ ?_
            · go_simp
              try rfl
            exact hK.out _ _ ⟨v51, v54, v58, v59, v60, (by rw [ha.out]; exact putSel_upk 1 hb_ rfl rfl rfl), QB0, Q5, Q8, Q12, Q13, Q14, Q15⟩
          refine steps_cons ?_ ?_
          · rintro b a w' ⟨v51, v54, v58, v59, v60, ha, QB0, Q5, Q8, Q12, Q13, Q14, Q15⟩ hb_ hon hoff
            refine ⟨_, rfl, fun K hK => ?_⟩
            have e47 : a.tmps[47]? = some (.pointer (some ⟨gh, 1, none⟩)) := by rw [ha]; exact putSel_on (e := (1, 47, .pointer (some ⟨gh, 1, none⟩))) 1 rfl rfl (hon 1 (by kernel_rfl)) rfl
            replace ha := Aside0.mk ha
            have QB := QB0 (hoff 15 (by kernel_rfl))
            have hd0 : w'.cell? ⟨gh, 1, none⟩ = some (.bool ex) := (blk_cell (blk_below (g := gh) (o := .cells #[.slice A_s srcs.length c_s, .bool ex, .int .i64 lf, .slice none 0 0] 76 (0, 0)) BK_gh.out QB) 1).trans rfl
            refine value_ (w1 := w') (v := .bool ex) (by rfl) rfl ?_ ?_
            · go_simp
              try rfl
            exact hK.out _ _ ⟨v51, v54, v58, v59, v60, (by rw [ha.out]; exact putSel_upk 2 hb_ rfl rfl rfl), QB0, Q5, Q8, Q12, Q13, Q14, Q15⟩
          refine steps_cons ?_ ?_
          · rintro b a w' ⟨v51, v54, v58, v59, v60, ha, QB0, Q5, Q8, Q12, Q13, Q14, Q15⟩ hb_ hon hoff
            refine ⟨_, rfl, fun K hK => ?_⟩
            have e4 : a.tmps[4]? = some (.pointer (some ⟨gh, 0, none⟩)) := by rw [ha]; exact (putSel_off rfl).trans rfl
            replace ha := Aside0.mk ha
            refine value_ (w1 := w') (v := .pointer (some ⟨gh, 2, none⟩)) (by rfl) rfl ?_ ?_
            · go_simp
              try rfl
            exact hK.out _ _ ⟨v51, v54, v58, v59, v60, (by rw [ha.out]; exact putSel_upk 3 hb_ rfl rfl rfl), QB0, Q5, Q8, Q12, Q13, Q14, Q15⟩
          refine steps_cons ?_ ?_
          · rintro b a w' ⟨v51, v54, v58, v59, v60, ha, QB0, Q5, Q8, Q12, Q13, Q14, Q15⟩ hb_ hon hoff
            refine ⟨_, rfl, fun K hK => ?_⟩
            have e49 : a.tmps[49]? = some (.pointer (some ⟨gh, 2, none⟩)) := by rw [ha]; exact putSel_on (e := (3, 49, .pointer (some ⟨gh, 2, none⟩))) 3 rfl rfl (hon 3 (by kernel_rfl)) rfl
            replace ha := Aside0.mk ha
            have QB := QB0 (hoff 15 (by kernel_rfl))
            have hd0 : w'.cell? ⟨gh, 2, none⟩ = some (.int .i64 lf) := (blk_cell (blk_below (g := gh) (o := .cells #[.slice A_s srcs.length c_s, .bool ex, .int .i64 lf, .slice none 0 0] 76 (0, 0)) BK_gh.out QB) 2).trans rfl
            refine value_ (w1 := w') (v := .int .i64 lf) (by rfl) rfl ?_ ?_
            · go_simp
              try rfl
            exact hK.out _ _ ⟨v51, v54, v58, v59, v60, (by rw [ha.out]; exact putSel_upk 4 hb_ rfl rfl rfl), QB0, Q5, Q8, Q12, Q13, Q14, Q15⟩
          refine steps_cons ?_ ?_
          · rintro b a w' ⟨v51, v54, v58, v59, v60, ha, QB0, Q5, Q8, Q12, Q13, Q14, Q15⟩ hb_ hon hoff
            refine ⟨_, rfl, fun K hK => ?_⟩
            replace ha := Aside0.mk ha
            have QB := QB0 (hoff 15 (by kernel_rfl))
            refine Kd.N_lit_step k46 _ 46 ?hg (N' := 51) ?hd (xs := ([] : List S46)) (inner := []) (ok := fun k => (P k ∧ k < w.heap.size ∨ wv.heap.size ≤ k)) (okp := fun _ => False) ?hr ?hp (fun _ hk => hk.elim) (.inr QB.size) (Below.refl _ _) (Nat.le_refl _) (by simp) ?_; (case hd => rfl); (case hg => rfl); (case hr => first | (go_simp; done) | (go_simp; rfl)); (case hp => exact Reps.none _ _)
            intro u w1 hN hb hg hat
            exact hK.out _ _ ⟨u, v54, v58, v59, v60, (by rw [ha.out]; exact putSel_upk 5 hb_ rfl rfl rfl), fun _ => QB.trans (hb.mono QB.size), fun _ _ => Kd.N_lower hN QB.size, fun h _ => absurd ((hoff 8 (by kernel_rfl)).symm.trans h) (by decide), fun h12 h13 => Kd.V_mono (Kd.V_below (Kd.V_bound (Q12 h12 h13)) hb) (fun k hk => ⟨hk.1.1, fun _ _ e => by have := Kd.N_base hN k e.symm; have := hk.2; omega, fun h => absurd ((hoff 8 (by kernel_rfl)).symm.trans h) (by decide)⟩), fun h => absurd ((hoff 13 (by kernel_rfl)).symm.trans h) (by decide), fun h => absurd ((hoff 14 (by kernel_rfl)).symm.trans h) (by decide), fun h => absurd ((hoff 15 (by kernel_rfl)).symm.trans h) (by decide)⟩
          refine steps_cons ?_ ?_
          · rintro b a w' ⟨v51, v54, v58, v59, v60, ha, QB0, Q5, Q8, Q12, Q13, Q14, Q15⟩ hb_ hon hoff
            refine ⟨_, rfl, fun K hK => ?_⟩
            have e4 : a.tmps[4]? = some (.pointer (some ⟨gh, 0, none⟩)) := by rw [ha]; exact (putSel_off rfl).trans rfl
            replace ha := Aside0.mk ha
            refine value_ (w1 := w') (v := .pointer (some ⟨gh, 3, none⟩)) (by rfl) rfl ?_ ?_
            · go_simp
              try rfl
            exact hK.out _ _ ⟨v51, v54, v58, v59, v60, (by rw [ha.out]; exact putSel_upk 6 hb_ rfl rfl rfl), QB0, Q5, Q8, Q12, Q13, Q14, Q15⟩
          refine steps_cons ?_ ?_
          · rintro b a w' ⟨v51, v54, v58, v59, v60, ha, QB0, Q5, Q8, Q12, Q13, Q14, Q15⟩ hb_ hon hoff
            refine ⟨_, rfl, fun K hK => ?_⟩
            have e52 : a.tmps[52]? = some (.pointer (some ⟨gh, 3, none⟩)) := by rw [ha]; exact putSel_on (e := (6, 52, .pointer (some ⟨gh, 3, none⟩))) 6 rfl rfl (hon 6 (by kernel_rfl)) rfl
            replace ha := Aside0.mk ha
            have QB := QB0 (hoff 15 (by kernel_rfl))
            have hd0 : w'.cell? ⟨gh, 3, none⟩ = some (.slice none 0 0) := (blk_cell (blk_below (g := gh) (o := .cells #[.slice A_s srcs.length c_s, .bool ex, .int .i64 lf, .slice none 0 0] 76 (0, 0)) BK_gh.out QB) 3).trans rfl
            refine value_ (w1 := w') (v := .slice none 0 0) (by rfl) rfl ?_ ?_
            · go_simp
              try rfl
            exact hK.out _ _ ⟨v51, v54, v58, v59, v60, (by rw [ha.out]; exact putSel_upk 7 hb_ rfl rfl rfl), QB0, Q5, Q8, Q12, Q13, Q14, Q15⟩
          refine steps_cons ?_ ?_
          · rintro b a w' ⟨v51, v54, v58, v59, v60, ha, QB0, Q5, Q8, Q12, Q13, Q14, Q15⟩ hb_ hon hoff
            refine ⟨_, rfl, fun K hK => ?_⟩
            have e51 : a.tmps[51]? = some (v51) := by rw [ha]; exact putSel_on (e := (5, 51, v51)) 5 rfl rfl (hon 5 (by kernel_rfl)) rfl
            have e53 : a.tmps[53]? = some (.slice none 0 0) := by rw [ha]; exact putSel_on (e := (7, 53, .slice none 0 0)) 7 rfl rfl (hon 7 (by kernel_rfl)) rfl
            replace ha := Aside0.mk ha
            have QB := QB0 (hoff 15 (by kernel_rfl))
            have N5 := Q5 (hon 5 (by kernel_rfl)) hb_
            refine Kd.N_append_rows_step k46 (w0 := wv) wv.heap.size (by rfl) (.tmp 51) (.tmp 53) 35 46 (.agg #[.int .u32 0, .slice none 0 0]) 32 rfl Try.underlying35 info46_ rfl (by decide) (by decide) v51 [] [] none 0 0 (fun k => (P k ∧ k < w.heap.size ∨ wv.heap.size ≤ k)) (fun _ => False) (by simp only [Act.eval, Array.getD_eq_getD_getElem?, e51, Option.getD_some]) (by simp only [Act.eval, Array.getD_eq_getD_getElem?, e53, Option.getD_some]) N5 (Kd.F_nil _ _ _) (fun k hk => hk.elim) (fun k hk => .inr (Nat.le_trans QB.size hk)) QB QB.size (by simp) ?_
            intro u w1 hN hB hg hat
            have ap : ∀ k, k < w'.heap.size → some k ≠ v51.ownBlock → some k ≠ u.ownBlock := fun k hk hne e => by
              rcases hat with hat | ⟨b1, hb1, hle⟩
              · exact hne (e.trans hat)
              · rw [hb1] at e; injection e with e; omega
            exact hK.out _ _ ⟨v51, u, v58, v59, v60, (by rw [ha.out]; exact putSel_upk 8 hb_ rfl rfl rfl), fun _ => hB, fun _ h => absurd ((up_self b 8).symm.trans h) (by decide), fun _ _ => hN, fun h12 h13 => Kd.V_mono (Kd.V_grown (Kd.V_bound (Kd.V_mono (Q12 h12 h13) (fun k hk => (⟨hk.1, hk.2.1 (hon 5 (by kernel_rfl)) hb_⟩ : _ ∧ some k ≠ v51.ownBlock)))) hg (fun k hk => hk.1.2)) (fun k hk => ⟨hk.1.1, fun _ h => absurd ((up_self b 8).symm.trans h) (by decide), fun _ => ap k hk.2 hk.1.2⟩), fun h => absurd ((hoff 13 (by kernel_rfl)).symm.trans h) (by decide), fun h => absurd ((hoff 14 (by kernel_rfl)).symm.trans h) (by decide), fun h => absurd ((hoff 15 (by kernel_rfl)).symm.trans h) (by decide)⟩
          refine steps_cons ?_ ?_
          · rintro b a w' ⟨v51, v54, v58, v59, v60, ha, QB0, Q5, Q8, Q12, Q13, Q14, Q15⟩ hb_ hon hoff
            refine ⟨_, rfl, fun K hK => ?_⟩
            have e1 : a.tmps[1]? = some (.int .u32 g) := by rw [ha]; exact (putSel_off rfl).trans rfl
            replace ha := Aside0.mk ha
            refine value_ (w1 := w') (v := .int .u32 g) (by rfl) rfl ?_ ?_
            · go_simp
              try rfl
            exact hK.out _ _ ⟨v51, v54, v58, v59, v60, (by rw [ha.out]; exact putSel_upk 9 hb_ rfl rfl rfl), QB0, Q5, Q8, Q12, Q13, Q14, Q15⟩
          refine steps_cons ?_ ?_
          · rintro b a w' ⟨v51, v54, v58, v59, v60, ha, QB0, Q5, Q8, Q12, Q13, Q14, Q15⟩ hb_ hon hoff
            refine ⟨_, rfl, fun K hK => ?_⟩
            have e2 : a.tmps[2]? = some (.slice A_l l.length c_l) := by rw [ha]; exact (putSel_off rfl).trans rfl
            replace ha := Aside0.mk ha
            refine value_ (w1 := w') (v := .slice A_l l.length c_l) (by rfl) rfl ?_ ?_
            · go_simp
              try rfl
            exact hK.out _ _ ⟨v51, v54, v58, v59, v60, (by rw [ha.out]; exact putSel_upk 10 hb_ rfl rfl rfl), QB0, Q5, Q8, Q12, Q13, Q14, Q15⟩
          refine steps_cons ?_ ?_
          · rintro b a w' ⟨v51, v54, v58, v59, v60, ha, QB0, Q5, Q8, Q12, Q13, Q14, Q15⟩ hb_ hon hoff
            refine ⟨_, rfl, fun K hK => ?_⟩
            have e55 : a.tmps[55]? = some (.int .u32 g) := by rw [ha]; exact putSel_on (e := (9, 55, .int .u32 g)) 9 rfl rfl (hon 9 (by kernel_rfl)) rfl
            have e56 : a.tmps[56]? = some (.slice A_l l.length c_l) := by rw [ha]; exact putSel_on (e := (10, 56, .slice A_l l.length c_l)) 10 rfl rfl (hon 10 (by kernel_rfl)) rfl
            replace ha := Aside0.mk ha
            refine value_ (w1 := w') (v := .agg #[.int .u32 g, .slice A_l l.length c_l]) (by rfl) rfl ?_ ?_
            · go_simp
              try rfl
            exact hK.out _ _ ⟨v51, v54, v58, v59, v60, (by rw [ha.out]; exact putSel_upk 11 hb_ rfl rfl rfl), QB0, Q5, Q8, Q12, Q13, Q14, Q15⟩
          refine steps_cons ?_ ?_
          · rintro b a w' ⟨v51, v54, v58, v59, v60, ha, QB0, Q5, Q8, Q12, Q13, Q14, Q15⟩ hb_ hon hoff
            refine ⟨_, rfl, fun K hK => ?_⟩
            have e57 : a.tmps[57]? = some (.agg #[.int .u32 g, .slice A_l l.length c_l]) := by rw [ha]; exact putSel_on (e := (11, 57, .agg #[.int .u32 g, .slice A_l l.length c_l])) 11 rfl rfl (hon 11 (by kernel_rfl)) rfl
            replace ha := Aside0.mk ha
            have QB := QB0 (hoff 15 (by kernel_rfl))
            refine Kd.N_lit_step k46 _ 46 ?hg (N' := 58) ?hd (xs := [(⟨g, l⟩ : S46)]) (inner := [.int .u32 g, .slice A_l l.length c_l]) (ok := fun k => (P k ∧ k < w.heap.size) ∨ w'.heap.size ≤ k) (okp := fun k => P k ∧ k < w.heap.size) ?hr ?hp (fun _ hk => .inl hk) (.inr (Nat.le_refl _)) (Below.refl _ _) (Nat.le_refl _) (by simp) ?_; (case hd => rfl); (case hg => rfl); (case hr => first | (go_simp; done) | (go_simp; rfl)); (case hp => exact Reps.c2 (show Kd.FK k46 _ _ _ _ from k46_mkF _ _ (⟨g, l⟩ : S46) HK_l.out (Kd.V_F (Kd.V_below HV2.out (HB.out.trans (QB.mono HB.out.size))))) (Reps.none _ _))
            intro u w1 hN hb hg hat
            have hwv := HB.out.size
            exact hK.out _ _ ⟨v51, v54, u, v59, v60, (by rw [ha.out]; exact putSel_upk 12 hb_ rfl rfl rfl), fun _ => QB.trans (hb.mono QB.size), fun h5 h8 => Kd.N_below (Q5 h5 h8) hb, fun h8 h13 => Kd.N_below (Q8 h8 h13) hb, fun _ h13 => Kd.V_mono (Kd.N_V hN) (fun k hk => ⟨hk.elim .inl (fun h => .inr (Nat.le_trans QB.size h)), fun h5 h8 e => by have h1 := Kd.N_base (Q5 h5 h8) k e.symm; have h2 := Kd.N_lt (Q5 h5 h8) k e.symm; rcases hk with hk | hk <;> omega, fun h8 e => by have h1 := Kd.N_base (Q8 h8 h13) k e.symm; have h2 := Kd.N_lt (Q8 h8 h13) k e.symm; rcases hk with hk | hk <;> omega⟩), fun h => absurd ((hoff 13 (by kernel_rfl)).symm.trans h) (by decide), fun h => absurd ((hoff 14 (by kernel_rfl)).symm.trans h) (by decide), fun h => absurd ((hoff 15 (by kernel_rfl)).symm.trans h) (by decide)⟩
          refine steps_cons ?_ ?_
          · rintro b a w' ⟨v51, v54, v58, v59, v60, ha, QB0, Q5, Q8, Q12, Q13, Q14, Q15⟩ hb_ hon hoff
            refine ⟨_, rfl, fun K hK => ?_⟩
            have e54 : a.tmps[54]? = some (v54) := by rw [ha]; exact putSel_on (e := (8, 54, v54)) 8 rfl rfl (hon 8 (by kernel_rfl)) rfl
            have e58 : a.tmps[58]? = some (v58) := by rw [ha]; exact putSel_on (e := (12, 58, v58)) 12 rfl rfl (hon 12 (by kernel_rfl)) rfl
            replace ha := Aside0.mk ha
            have QB := QB0 (hoff 15 (by kernel_rfl))
            have N8 := Q8 (hon 8 (by kernel_rfl)) hb_
            have V12 := Q12 (hon 12 (by kernel_rfl)) hb_
            obtain ⟨Aq, cq, hq⟩ := Kd.V_slice V12
            rw [hq] at V12
            refine Kd.N_append_rows_step k46 (w0 := wv) wv.heap.size (by rfl) (.tmp 54) (.tmp 58) 35 46 (.agg #[.int .u32 0, .slice none 0 0]) 32 rfl Try.underlying35 info46_ rfl (by decide) (by decide) v54 [] [(⟨g, l⟩ : S46)] Aq [(⟨g, l⟩ : S46)].length cq (fun k => (P k ∧ k < w.heap.size ∨ wv.heap.size ≤ k)) (fun k => (P k ∧ k < w.heap.size ∨ wv.heap.size ≤ k) ∧ some k ≠ v54.ownBlock) (by simp only [Act.eval, Array.getD_eq_getD_getElem?, e54, Option.getD_some]) (by simp only [Act.eval, Array.getD_eq_getD_getElem?, e58, Option.getD_some, hq]) N8 (Kd.F_mono (Kd.V_F V12) (fun k hk => ⟨hk.1, hk.2.2 (hon 8 (by kernel_rfl))⟩)) (fun k hk => hk) (fun k hk => .inr (Nat.le_trans QB.size hk)) QB QB.size (by simp) ?_
            intro u w1 hN hB hg hat
            exact hK.out _ _ ⟨v51, v54, v58, u, v60, (by rw [ha.out]; exact putSel_upk 13 hb_ rfl rfl rfl), fun _ => hB, fun _ h => absurd ((hon 8 (by kernel_rfl)).symm.trans h) (by decide), fun _ h => absurd ((up_self b 13).symm.trans h) (by decide), fun _ h => absurd ((up_self b 13).symm.trans h) (by decide), fun _ => Kd.N_V hN, fun h => absurd ((hoff 14 (by kernel_rfl)).symm.trans h) (by decide), fun h => absurd ((hoff 15 (by kernel_rfl)).symm.trans h) (by decide)⟩
          refine steps_cons ?_ ?_
          · rintro b a w' ⟨v51, v54, v58, v59, v60, ha, QB0, Q5, Q8, Q12, Q13, Q14, Q15⟩ hb_ hon hoff
            refine ⟨_, rfl, fun K hK => ?_⟩
            have e46 : a.tmps[46]? = some (.slice A9 acc.length c9) := by rw [ha]; exact putSel_on (e := (0, 46, .slice A9 acc.length c9)) 0 rfl rfl (hon 0 (by kernel_rfl)) rfl
            have e48 : a.tmps[48]? = some (.bool ex) := by rw [ha]; exact putSel_on (e := (2, 48, .bool ex)) 2 rfl rfl (hon 2 (by kernel_rfl)) rfl
            have e50 : a.tmps[50]? = some (.int .i64 lf) := by rw [ha]; exact putSel_on (e := (4, 50, .int .i64 lf)) 4 rfl rfl (hon 4 (by kernel_rfl)) rfl
            have e59 : a.tmps[59]? = some (v59) := by rw [ha]; exact putSel_on (e := (13, 59, v59)) 13 rfl rfl (hon 13 (by kernel_rfl)) rfl
            replace ha := Aside0.mk ha
            have V13 := Q13 (hon 13 (by kernel_rfl))
            obtain ⟨Aq, cq, hq⟩ := Kd.V_slice V13
            rw [hq] at e59
            refine value_ (w1 := w') (v := .agg #[.slice A9 acc.length c9, .bool ex, .int .i64 lf, .slice Aq [(⟨g, l⟩ : S46)].length cq]) (by rfl) rfl ?_ ?_
            · go_simp
              try rfl
            exact hK.out _ _ ⟨v51, v54, v58, v59, v59, (by rw [ha.out, hq]; exact putSel_upk 14 hb_ rfl rfl rfl), QB0, Q5, Q8, Q12, Q13, fun _ => rfl, fun h => absurd ((hoff 15 (by kernel_rfl)).symm.trans h) (by decide)⟩
          refine steps_cons ?_ ?_
          · rintro b a w' ⟨v51, v54, v58, v59, v60, ha, QB0, Q5, Q8, Q12, Q13, Q14, Q15⟩ hb_ hon hoff
            refine ⟨_, rfl, fun K hK => ?_⟩
            have e8 : a.tmps[8]? = some (.pointer (some ⟨go, 0, none⟩)) := by rw [ha]; exact (putSel_off rfl).trans rfl
            have e60 : a.tmps[60]? = some (.agg #[.slice A9 acc.length c9, .bool ex, .int .i64 lf, v60]) := by rw [ha]; exact putSel_on (e := (14, 60, .agg #[.slice A9 acc.length c9, .bool ex, .int .i64 lf, v60])) 14 rfl rfl (hon 14 (by kernel_rfl)) rfl
            replace ha := Aside0.mk ha
            have QB := QB0 hb_
            have V13 := Q13 (hon 13 (by kernel_rfl))
            obtain ⟨Aq, cq, hq⟩ := Kd.V_slice V13
            obtain rfl := Q14 (hon 14 (by kernel_rfl))
            subst hq
            have hd0 : w'.cell? ⟨go, 0, none⟩ = some (.slice none 0 0) := (blk_cell (blk_below (g := go) (o := .cells #[.slice none 0 0, .bool false, .int .i64 0, .slice none 0 0] 76 (0, 0)) BK_go.out QB) 0).trans rfl
            have hf0 := blk_frozen (blk_below (g := go) (o := .cells #[.slice none 0 0, .bool false, .int .i64 0, .slice none 0 0] 76 (0, 0)) BK_go.out QB) 0
            have hd1 : w'.cell? ⟨go, 1, none⟩ = some (.bool false) := (blk_cell (blk_below (g := go) (o := .cells #[.slice none 0 0, .bool false, .int .i64 0, .slice none 0 0] 76 (0, 0)) BK_go.out QB) 1).trans rfl
            have hf1 := blk_frozen (blk_below (g := go) (o := .cells #[.slice none 0 0, .bool false, .int .i64 0, .slice none 0 0] 76 (0, 0)) BK_go.out QB) 1
            have hd2 : w'.cell? ⟨go, 2, none⟩ = some (.int .i64 0) := (blk_cell (blk_below (g := go) (o := .cells #[.slice none 0 0, .bool false, .int .i64 0, .slice none 0 0] 76 (0, 0)) BK_go.out QB) 2).trans rfl
            have hf2 := blk_frozen (blk_below (g := go) (o := .cells #[.slice none 0 0, .bool false, .int .i64 0, .slice none 0 0] 76 (0, 0)) BK_go.out QB) 2
            have hd3 : w'.cell? ⟨go, 3, none⟩ = some (.slice none 0 0) := (blk_cell (blk_below (g := go) (o := .cells #[.slice none 0 0, .bool false, .int .i64 0, .slice none 0 0] 76 (0, 0)) BK_go.out QB) 3).trans rfl
            have hf3 := blk_frozen (blk_below (g := go) (o := .cells #[.slice none 0 0, .bool false, .int .i64 0, .slice none 0 0] 76 (0, 0)) BK_go.out QB) 3
            refine stores_step (w1 := ((((w'.setCell ⟨go, 0, none⟩ (.slice A9 acc.length c9)).setCell ⟨go, 1, none⟩ (.bool ex)).setCell ⟨go, 2, none⟩ (.int .i64 lf)).setCell ⟨go, 3, none⟩ (.slice Aq [(⟨g, l⟩ : S46)].length cq))) (by rfl) rfl ?_ ?_
            · go_simp
              try rfl
            exact hK.out _ _ ⟨v51, v54, v58, .slice Aq [(⟨g, l⟩ : S46)].length cq, .slice Aq [(⟨g, l⟩ : S46)].length cq, (by rw [ha.out]; exact (putSel_same rfl).symm), fun h => absurd ((up_self b 15).symm.trans h) (by decide), fun _ h => absurd ((hon 8 (by kernel_rfl)).symm.trans h) (by decide), fun _ h => absurd ((hon 13 (by kernel_rfl)).symm.trans h) (by decide), fun _ h => absurd ((hon 13 (by kernel_rfl)).symm.trans h) (by decide), fun _ => (Kd.V_far (p := ⟨go, 3, none⟩) (Kd.V_far (p := ⟨go, 2, none⟩) (Kd.V_far (p := ⟨go, 1, none⟩) (Kd.V_far (p := ⟨go, 0, none⟩) V13 (fun k hk e => by have h1 := blk_lt BK_go.out; have h2 := GO.out; have h3 : k = go := e; rcases hk with hk | hk <;> omega) (.slice A9 acc.length c9)) (fun k hk e => by have h1 := blk_lt BK_go.out; have h2 := GO.out; have h3 : k = go := e; rcases hk with hk | hk <;> omega) (.bool ex)) (fun k hk e => by have h1 := blk_lt BK_go.out; have h2 := GO.out; have h3 : k = go := e; rcases hk with hk | hk <;> omega) (.int .i64 lf)) (fun k hk e => by have h1 := blk_lt BK_go.out; have h2 := GO.out; have h3 : k = go := e; rcases hk with hk | hk <;> omega) (.slice Aq [(⟨g, l⟩ : S46)].length cq)), fun _ => rfl, fun _ => ⟨(blk_put (cs := #[.slice A9 acc.length c9, .bool ex, .int .i64 lf, .slice none 0 0]) (blk_put (cs := #[.slice A9 acc.length c9, .bool ex, .int .i64 0, .slice none 0 0]) (blk_put (cs := #[.slice A9 acc.length c9, .bool false, .int .i64 0, .slice none 0 0]) (blk_put (cs := #[.slice none 0 0, .bool false, .int .i64 0, .slice none 0 0]) (blk_below (g := go) (o := .cells #[.slice none 0 0, .bool false, .int .i64 0, .slice none 0 0] 76 (0, 0)) BK_go.out QB) 0 (.slice A9 acc.length c9) rfl) 1 (.bool ex) rfl) 2 (.int .i64 lf) rfl) 3 (.slice Aq [(⟨g, l⟩ : S46)].length cq) rfl), (below_set (below_set (below_set (below_set (HB.out.trans (QB.mono HB.out.size)) GO.out) GO.out) GO.out) GO.out), Kd.V_mono (Kd.V_rbase (Kd.R_far (p := ⟨go, 3, none⟩) (Kd.R_far (p := ⟨go, 2, none⟩) (Kd.R_far (p := ⟨go, 1, none⟩) (Kd.R_far (p := ⟨go, 0, none⟩) (Kd.R_types (Kd.R_bound (Kd.R_below HR2.out QB)) (blk_below (g := go) (o := .cells #[.slice none 0 0, .bool false, .int .i64 0, .slice none 0 0] 76 (0, 0)) BK_go.out QB) (by decide)) (fun _ hk => hk.2) (.slice A9 acc.length c9)) (fun _ hk => hk.2) (.bool ex)) (fun _ hk => hk.2) (.int .i64 lf)) (fun _ hk => hk.2) (.slice Aq [(⟨g, l⟩ : S46)].length cq))) (fun k hk => Nat.le_trans XWA.out hk.1.2.1)⟩⟩
          exact steps_nil
        rintro b a w9 hall ⟨v51, v54, v58, v59, v60, ha, QB0, Q5, Q8, Q12, Q13, Q14, Q15⟩
        have hb0_ := hall 0 (by kernel_rfl)
        have hb1_ := hall 1 (by kernel_rfl)
        have hb2_ := hall 2 (by kernel_rfl)
        have hb3_ := hall 3 (by kernel_rfl)
        have hb4_ := hall 4 (by kernel_rfl)
        have hb5_ := hall 5 (by kernel_rfl)
        have hb6_ := hall 6 (by kernel_rfl)
        have hb7_ := hall 7 (by kernel_rfl)
        have hb8_ := hall 8 (by kernel_rfl)
        have hb9_ := hall 9 (by kernel_rfl)
        have hb10_ := hall 10 (by kernel_rfl)
        have hb11_ := hall 11 (by kernel_rfl)
        have hb12_ := hall 12 (by kernel_rfl)
        have hb13_ := hall 13 (by kernel_rfl)
        have hb14_ := hall 14 (by kernel_rfl)
        have hb15_ := hall 15 (by kernel_rfl)
        obtain ⟨q1, q2, q3⟩ := Q15 hb15_
        have V13 := Q13 hb13_
        subst ha
        simp only [putSel, hb0_, hb1_, hb2_, hb3_, hb4_, hb5_, hb6_, hb7_, hb8_, hb9_, hb10_, hb11_, hb12_, hb13_, hb14_, if_true, Act.put, List.setIfInBounds_toArray, List.set_cons_zero, List.set_cons_succ]
        clear QB0 Q5 Q8 Q12 Q13 Q15 hall
        go_wp2
        refine bodyPost_ret (results_cell_row rfl _ _ go 76 #[.slice A9 acc.length c9, .bool ex, .int .i64 lf, v59] (0, 0) _ rfl q1 Try.underlying76 rfl (by kernel_rfl)) rfl ?_
        refine ⟨_, _, rfl, ?_, ?_, q2⟩
        · rw [XAC.out]; exact Kd.V_mono q3 (fun k hk => .inr hk)
        · rw [show asksOf g l = [(⟨g, l⟩ : S46)] from if_neg XH.out]; exact Kd.V_mono V13 (fun k (hk : (P k ∧ k < w.heap.size) ∨ wv.heap.size ≤ k) => hk.elim (fun h => .inl h.1) (fun h => .inr (by have := HB.out.size; omega)))
end Go.Proofs.Ytbllchfgjginoaa
