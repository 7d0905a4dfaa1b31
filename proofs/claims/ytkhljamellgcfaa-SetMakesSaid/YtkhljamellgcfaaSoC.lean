/-
  A pivot is chosen: which one matters not.
-/
import Derived.Test.YtkhljamellgcfaaSo0
import Derived.Deep.DeepCutAuto
import Derived.Deep.CutBlock
import Derived.Laws.BitsLemmas
import Derived.Sort.LotC
namespace Go.Proofs.Ytkhljamellgcfaa
open Go.RowKit Go.Sort
set_option linter.unusedVariables false
set_option linter.unusedSimpArgs false
/-- A whole number in a block of its own. -/
def Cnt (w : World) (s : Nat) : Prop := ∃ v : Int, w.heap[s]? = some (.cells #[.int .i64 v] 3 (0, 0))
/-- What turns a younger block leaves the row alone. -/
theorem Lies.young {w0 w w1 : World} {g m s : Nat} {d : Array Int} (h : Lies w0 w g m d) (k : Off (fun k => k = s) w w1) (hs : w0.heap.size ≤ s) (hg : s ≠ g) : Lies w0 w1 g m d :=
  ⟨h.off.then_ k (fun i hi e => by omega), h.fits, by
    obtain ⟨c, hb, hc⟩ := h.row
    exact ⟨c, (k.block g h.lt (fun e => hg e.symm)).trans hb, hc⟩⟩
theorem Cnt.cell {w : World} {s : Nat} (h : Cnt w s) : ∃ v : Int, w.cell? ⟨s, 0, none⟩ = some (.int .i64 v) ∧ w.frozen? ⟨s, 0, none⟩ = false := by
  obtain ⟨v, hv⟩ := h
  exact ⟨v, by simp [World.cell?, hv], by simp [World.frozen?, hv]⟩
theorem Cnt.set {w : World} {s : Nat} (h : Cnt w s) (v : Int) : Cnt (w.setCell ⟨s, 0, none⟩ (.int .i64 v)) s := by
  obtain ⟨u, hu⟩ := h
  refine ⟨v, ?_⟩
  show (w.heap.modify s _)[s]? = _
  rw [Array.getElem?_modify, if_pos rfl, hu]
  rfl
theorem Cnt.keep {w w1 : World} {s : Nat} (h : Cnt w s) (k : Off (fun _ => False) w w1) : Cnt w1 s := by
  obtain ⟨v, hv⟩ := h
  exact ⟨v, (k.block s (Array.getElem?_eq_some_iff.1 hv).1 id).trans hv⟩
def Ord2 (a b s : Nat) (w : World) (e : Ending) (w' : World) : Prop :=
  ∃ x y : Nat, (x = a ∧ y = b ∨ x = b ∧ y = a) ∧ e = .returned (.tuple #[.int .i64 x, .int .i64 y]) ∧ Off (fun k => k = s) w w' ∧ Cnt w' s
set_option maxHeartbeats 8000000 in
theorem order2_w {g m n cap a b s : Nat} {d : Array Int} {w0 w : World} (h : Lies w0 w g m d) (hn : d.size = n) (ha : a < n) (hb : b < n) (hsz : n < 1000000000000) (hs : Cnt w s) :
    Calls Try.prog 67 #[.slice (some ⟨g, 0, none⟩) n cap, .int .i64 a, .int .i64 b, .pointer (some ⟨s, 0, none⟩)] w (Ord2 a b s w) := by
  subst hn
  obtain ⟨G, hG⟩ : ∃ G : Nat → Int, ∀ t, G t = d[t]! := ⟨fun t => d[t]!, fun _ => rfl⟩
  have hcw := h.cells hG
  have HL := Lib.hid h
  have HC := Lib.hid hs
  obtain ⟨v, hv, hf⟩ := hs.cell
  clear h hG hs
  go_enter Try.func67, Try.ntmps67
  go_wp2
  go_quiet ((go_at_call 42; exact Calls.quiet_of_same (less_w _ _ _)))
  go_wp2
  · go_ret2
    exact ⟨b, a, .inr ⟨rfl, rfl⟩, rfl, ((Off.refl _ w).mono (fun _ _ h => h) |>.drew |> fun h => (⟨h.os, h.tape, h.output, h.size, h.block⟩ : Off (fun k => k = s) w (w.drewN nq))).setCell (fun _ => rfl) _, (HC.out.keep ⟨rfl, rfl, rfl, Nat.le_refl _, fun _ _ _ => rfl⟩).set _⟩
  · go_ret2
    exact ⟨a, b, .inl ⟨rfl, rfl⟩, rfl, ⟨rfl, rfl, rfl, Nat.le_refl _, fun _ _ _ => rfl⟩, HC.out.keep ⟨rfl, rfl, rfl, Nat.le_refl _, fun _ _ _ => rfl⟩⟩
def Med (a b c s : Nat) (w : World) (e : Ending) (w' : World) : Prop :=
  ∃ x : Nat, (x = a ∨ x = b ∨ x = c) ∧ e = .returned (.int .i64 x) ∧ Off (fun k => k = s) w w' ∧ Cnt w' s
theorem Lies.other {w0 w w1 : World} {g m s : Nat} {d : Array Int} (h : Lies w0 w g m d) (k : Off (fun k => k = s) w w1) (hg : s ≠ g) : Lies w1 w1 g m d :=
  ⟨Off.refl _ _, h.fits, by
    obtain ⟨c, hb, hc⟩ := h.row
    exact ⟨c, (k.block g h.lt (fun e => hg e.symm)).trans hb, hc⟩⟩
set_option maxHeartbeats 8000000 in
theorem median_w {g m n cap a b c s : Nat} {d : Array Int} {w0 w : World} (h : Lies w0 w g m d) (hn : d.size = n) (ha : a < n) (hb : b < n) (hc : c < n) (hsz : n < 1000000000000) (hs : Cnt w s) (hg : s ≠ g) :
    Calls Try.prog 66 #[.slice (some ⟨g, 0, none⟩) n cap, .int .i64 a, .int .i64 b, .int .i64 c, .pointer (some ⟨s, 0, none⟩)] w (Med a b c s w) := by
  have HL := Lib.hid h
  have HN := Lib.hid hn
  have HC := Lib.hid hs
  have HG := Lib.hid hg
  clear h hs hn hg
  go_enter Try.func66, Try.ntmps66
  go_upto_region 2 with (go_at_call 67; refine (order2_w HL.out HN.out ha hb hsz HC.out).mono ?_; rintro e w1 ⟨x1, y1, h1, rfl, hO1, hC1⟩; have H1 := Lib.hid h1; have HO1 := Lib.hid hO1; have HC1 := Lib.hid hC1; clear h1 hO1 hC1)
  have hx1 : x1 < n := by rcases H1.out with ⟨rfl, rfl⟩ | ⟨rfl, rfl⟩ <;> assumption
  have hy1 : y1 < n := by rcases H1.out with ⟨rfl, rfl⟩ | ⟨rfl, rfl⟩ <;> assumption
  have HL1 := Lib.hid (HL.out.other HO1.out HG.out)
  go_upto_region 3 with (go_at_call 67; refine (order2_w HL1.out HN.out hy1 hc hsz HC1.out).mono ?_; rintro e w2 ⟨x2, y2, h2, rfl, hO2, hC2⟩; have H2 := Lib.hid h2; have HO2 := Lib.hid hO2; have HC2 := Lib.hid hC2; clear h2 hO2 hC2)
  have hx2 : x2 < n := by rcases H2.out with ⟨rfl, rfl⟩ | ⟨rfl, rfl⟩ <;> assumption
  have HL2 := Lib.hid (HL1.out.other HO2.out HG.out)
  go_wp2_with (go_at_call 67; refine (order2_w HL2.out HN.out hx1 hx2 hsz HC2.out).mono ?_; rintro e w3 ⟨x3, y3, h3, rfl, hO3, hC3⟩; have H3 := Lib.hid h3; have HO3 := Lib.hid hO3; have HC3 := Lib.hid hC3; clear h3 hO3 hC3)
  go_ret
  refine ⟨y3, ?_, rfl, (HO1.out.trans HO2.out).trans HO3.out, HC3.out⟩
  rcases H1.out with ⟨rfl, rfl⟩ | ⟨rfl, rfl⟩ <;> rcases H2.out with ⟨rfl, rfl⟩ | ⟨rfl, rfl⟩ <;> rcases H3.out with ⟨rfl, rfl⟩ | ⟨rfl, rfl⟩ <;> simp
theorem adjacent_w {g m n cap a s : Nat} {d : Array Int} {w0 w : World} (h : Lies w0 w g m d) (hn : d.size = n) (h1 : 1 ≤ a) (ha : a + 1 < n) (hsz : n < 1000000000000) (hs : Cnt w s) (hg : s ≠ g) :
    Calls Try.prog 65 #[.slice (some ⟨g, 0, none⟩) n cap, .int .i64 a, .pointer (some ⟨s, 0, none⟩)] w (Med (a - 1) a (a + 1) s w) := by
  have HL := Lib.hid h
  have HN := Lib.hid hn
  have HC := Lib.hid hs
  have HG := Lib.hid hg
  clear h hs hn hg
  have e1 : ((a : Int) - 1) = ((a - 1 : Nat) : Int) := by omega
  have E1 := Lib.hid e1
  clear e1
  go_enter Try.func65, Try.ntmps65
  go_wp2_with (go_at_call 66; rw [E1.out, show ((a : Int) + 1) = ((a + 1 : Nat) : Int) from rfl]; refine (median_w (b := a) HL.out HN.out (by omega) (by omega) (by omega) hsz HC.out HG.out).mono ?_; rintro e w1 ⟨x1, h1, rfl, hO1, hC1⟩; have H1 := Lib.hid h1; have HO1 := Lib.hid hO1; have HC1 := Lib.hid hC1; clear h1 hO1 hC1)
  go_ret
  exact ⟨x1, H1.out, rfl, HO1.out, HC1.out⟩
end Go.Proofs.Ytkhljamellgcfaa
/-
  A pivot of a row.
-/
namespace Go.Proofs.Ytkhljamellgcfaa
open Go.RowKit Go.Sort
set_option linter.unusedVariables false
set_option linter.unusedSimpArgs false
theorem Off.young {w w1 w2 : World} {s : Nat} (h : Off (fun _ => False) w w1) (k : Off (fun k => k = s) w1 w2) (hs : w.heap.size ≤ s) : Off (fun _ => False) w w2 := h.then_ k (fun i hi e => by omega)
theorem off_alloc (w : World) (o : Obj) : Off (fun _ => False) w (w.alloc o) := (Off.refl _ w).alloc o
def Piv (a b : Nat) (w : World) (e : Ending) (w' : World) : Prop :=
  ∃ (p : Nat) (h : Int), a ≤ p ∧ p < b ∧ e = .returned (.tuple #[.int .i64 p, .int .i64 h]) ∧ Off (fun _ => False) w w'
theorem piv_of {a b p : Nat} {h : Int} {w w' : World} (h1 : a ≤ p) (h2 : p < b) (h3 : Off (fun _ => False) w w') : Piv a b w (.returned (.tuple #[.int .i64 p, .int .i64 h])) w' := ⟨p, h, h1, h2, rfl, h3⟩
set_option maxHeartbeats 8000000 in
theorem choose_w {g m n cap a b : Nat} {d : Array Int} {w0 w : World} (h : Lies w0 w g m d) (hn : d.size = n) (hab : a < b) (hb : b ≤ n) (hsz : n < 1000000000000) :
    Calls Try.prog 55 #[.slice (some ⟨g, 0, none⟩) n cap, .int .i64 a, .int .i64 b] w (Piv a b w) := by
  have HL := Lib.hid h
  have HN := Lib.hid hn
  have HG := Lib.hid (show w.heap.size ≠ g from Nat.ne_of_gt h.lt)
  clear h hn
  obtain ⟨z, hz⟩ : ∃ z : Nat, z = b - a := ⟨_, rfl⟩
  have hz1 : 1 ≤ z := by omega
  have hz2 : a + z = b := by omega
  clear hz
  go_enter Try.func55, Try.ntmps55
  go_upto_region 3 with fail
  rw [show ((b : Int) - (a : Int)) = (z : Int) from by omega]
  obtain ⟨s, hs⟩ : ∃ s, s = w.heap.size := ⟨_, rfl⟩
  rw [← hs]
  generalize hW_ : w.alloc (.cells #[.int .i64 0] 3 (0, 0)) = W1
  have HO := Lib.hid (show Off (fun _ => False) w W1 by rw [← hW_]; exact off_alloc _ _)
  have hb1 : W1.heap[s]? = some (.cells #[.int .i64 0] 3 (0, 0)) := by rw [← hW_, hs]; exact World.alloc_heap_new _ _
  have HS := Lib.hid hs
  clear hW_ hs
  have HC := Lib.hid (show Cnt W1 s from ⟨0, hb1⟩)
  have hc0 : W1.cell? ⟨s, 0, none⟩ = some (.int .i64 0) := by simp [World.cell?, hb1]
  clear hb1
  have HL1 := Lib.hid (show Lies w0 W1 g m d from HL.out.keep HO.out)
  have HG1 := Lib.hid (show s ≠ g by rw [HS.out]; exact HG.out)
  obtain ⟨q, hq⟩ : ∃ q : Nat, q = z / 4 := ⟨_, rfl⟩
  have hq4 : q * 4 ≤ z := by omega
  obtain ⟨i, hi⟩ : ∃ i : Nat, i = a + q := ⟨_, rfl⟩
  obtain ⟨j, hj⟩ : ∃ j : Nat, j = a + q * 2 := ⟨_, rfl⟩
  obtain ⟨k, hk⟩ : ∃ k : Nat, k = a + q * 3 := ⟨_, rfl⟩
  have HI := Lib.hid hi
  have HJ := Lib.hid hj
  have HK := Lib.hid hk
  have HQ := Lib.hid hq
  have HZ2 := Lib.hid hz2
  by_cases h8 : 8 ≤ z
  · have hq2 : 2 ≤ q := by omega
    have hd8 : decide ((8 : Int) ≤ (z : Int)) = true := decide_eq_true (by omega)
    by_cases h50 : 50 ≤ z
    · have hd50 : decide ((50 : Int) ≤ (z : Int)) = true := decide_eq_true (by omega)
      go_upto_region 8 with fail
      rw [show ((z : Int) / 4) = (q : Int) from by omega, show ((a : Int) + (q : Int)) = (i : Int) from by omega, show ((a : Int) + (q : Int) * 2) = (j : Int) from by omega, show ((a : Int) + (q : Int) * 3) = (k : Int) from by omega]
      have i1 : 1 ≤ i := by omega
      have i2 : i + 1 < n := by omega
      have i3 : a ≤ i - 1 := by omega
      have i4 : i + 1 < b := by omega
      have j1 : 1 ≤ j := by omega
      have j2 : j + 1 < n := by omega
      have j3 : a ≤ j - 1 := by omega
      have j4 : j + 1 < b := by omega
      have k1 : 1 ≤ k := by omega
      have k2 : k + 1 < n := by omega
      have k3 : a ≤ k - 1 := by omega
      have k4 : k + 1 < b := by omega
      clear hc0 hi hj hk hq hz2
      go_upto_region 9 with (go_at_call 65; refine (adjacent_w HL1.out HN.out (by omega) (by omega) hsz HC.out HG1.out).mono ?_; rintro e w1 ⟨x1, h1, rfl, hO1, hC1⟩; have H1 := Lib.hid h1; have HO1 := Lib.hid hO1; have HC1 := Lib.hid hC1; clear h1 hO1 hC1)
      have HL2 := Lib.hid (HL1.out.other HO1.out HG1.out)
      go_upto_region 10 with (go_at_call 65; refine (adjacent_w HL2.out HN.out (by omega) (by omega) hsz HC1.out HG1.out).mono ?_; rintro e w2 ⟨x2, h2, rfl, hO2, hC2⟩; have H2 := Lib.hid h2; have HO2 := Lib.hid hO2; have HC2 := Lib.hid hC2; clear h2 hO2 hC2)
      have HL3 := Lib.hid (HL2.out.other HO2.out HG1.out)
      go_upto_region 11 with (go_at_call 65; refine (adjacent_w HL3.out HN.out (by omega) (by omega) hsz HC2.out HG1.out).mono ?_; rintro e w3 ⟨x3, h3, rfl, hO3, hC3⟩; have H3 := Lib.hid h3; have HO3 := Lib.hid hO3; have HC3 := Lib.hid hC3; clear h3 hO3 hC3)
      have HL4 := Lib.hid (HL3.out.other HO3.out HG1.out)
      have b1 : a ≤ x1 ∧ x1 < b := by have := H1.out; omega
      have b2 : a ≤ x2 ∧ x2 < b := by have := H2.out; omega
      have b3 : a ≤ x3 ∧ x3 < b := by have := H3.out; omega
      go_upto_region 12 with (go_at_call 66; refine (median_w HL4.out HN.out (by omega) (by omega) (by omega) hsz HC3.out HG1.out).mono ?_; rintro e w4 ⟨x4, h4, rfl, hO4, hC4⟩; have H4 := Lib.hid h4; have HO4 := Lib.hid hO4; have HC4 := Lib.hid hC4; clear h4 hO4 hC4)
      have b4 : a ≤ x4 ∧ x4 < b := by have := H4.out; omega
      have HF := Lib.hid (HO.out.young (((HO1.out.trans HO2.out).trans HO3.out).trans HO4.out) (Nat.le_of_eq HS.out.symm))
      obtain ⟨v, hv, hf⟩ := HC4.out.cell
      go_wp2
      all_goals go_ret2
      all_goals exact piv_of b4.1 b4.2 HF.out
    · have hd50 : decide ((50 : Int) ≤ (z : Int)) = false := decide_eq_false (by omega)
      go_upto_region 11 with fail
      rw [show ((z : Int) / 4) = (q : Int) from by omega, show ((a : Int) + (q : Int)) = (i : Int) from by omega, show ((a : Int) + (q : Int) * 2) = (j : Int) from by omega, show ((a : Int) + (q : Int) * 3) = (k : Int) from by omega]
      have i1 : 1 ≤ i := by omega
      have i2 : i + 1 < n := by omega
      have i3 : a ≤ i - 1 := by omega
      have i4 : i + 1 < b := by omega
      have j1 : 1 ≤ j := by omega
      have j2 : j + 1 < n := by omega
      have j3 : a ≤ j - 1 := by omega
      have j4 : j + 1 < b := by omega
      have k1 : 1 ≤ k := by omega
      have k2 : k + 1 < n := by omega
      have k3 : a ≤ k - 1 := by omega
      have k4 : k + 1 < b := by omega
      clear hc0 hi hj hk hq hz2
      go_upto_region 12 with (go_at_call 66; refine (median_w HL1.out HN.out (by omega) (by omega) (by omega) hsz HC.out HG1.out).mono ?_; rintro e w4 ⟨x4, h4, rfl, hO4, hC4⟩; have H4 := Lib.hid h4; have HO4 := Lib.hid hO4; have HC4 := Lib.hid hC4; clear h4 hO4 hC4)
      have b4 : a ≤ x4 ∧ x4 < b := by have := H4.out; omega
      have HF := Lib.hid (HO.out.young HO4.out (Nat.le_of_eq HS.out.symm))
      obtain ⟨v, hv, hf⟩ := HC4.out.cell
      go_wp2
      all_goals go_ret2
      all_goals exact piv_of b4.1 b4.2 HF.out
  · have hd8 : decide ((8 : Int) ≤ (z : Int)) = false := decide_eq_false (by omega)
    go_upto_region 12 with fail
    rw [show ((z : Int) / 4) = (q : Int) from by omega, show ((a : Int) + (q : Int) * 2) = (j : Int) from by omega]
    have j3 : a ≤ j := by omega
    have j4 : j < b := by omega
    clear hi hj hk hq hz2
    go_wp2
    go_ret2
    exact piv_of j3 j4 HO.out
end Go.Proofs.Ytkhljamellgcfaa
/-
  Insertion sort, and a row turned round, where they lie.
-/
namespace Go.Proofs.Ytkhljamellgcfaa
open Go.RowKit Go.Sort
set_option linter.unusedVariables false
set_option linter.unusedSimpArgs false
theorem inner_go (a j : Nat) (d : Array Int) (hj : a < j) (hl : ltA d[j]! d[j - 1]! = true) : insInner ltA a j d = insInner ltA a (j - 1) (swp d j (j - 1)) := by
  obtain ⟨k, rfl⟩ : ∃ k, j = k + 1 := ⟨j - 1, by omega⟩
  rw [insInner, Nat.add_sub_cancel] at *
  simp [hj, hl]
theorem inner_end (a j : Nat) (d : Array Int) (h : j ≤ a ∨ ltA d[j]! d[j - 1]! = false) : insInner ltA a j d = d := by
  cases j with
  | zero => rfl
  | succ k =>
    rw [insInner]
    rw [Nat.add_sub_cancel] at h
    rcases h with h | h
    · simp [show ¬ k + 1 > a by omega]
    · simp [h]
theorem outer_go (a b i : Nat) (d : Array Int) (h : i < b) : insOuter ltA a b i d = insOuter ltA a b (i + 1) (insInner ltA a i d) := by rw [insOuter, if_pos h]
theorem outer_end (a b i : Nat) (d : Array Int) (h : ¬ i < b) : insOuter ltA a b i d = d := by rw [insOuter, if_neg h]
set_option maxHeartbeats 8000000 in
theorem insertion_w {g m cap a b : Nat} {d : Array Int} {w : World} (h : Lies w w g m d) (hab : a ≤ b) (hb : b ≤ d.size) (hsz : d.size < 1000000000000) :
    Calls Try.prog 52 #[.slice (some ⟨g, 0, none⟩) d.size cap, .int .i64 a, .int .i64 b] w fun e w' => e = .returned (.tuple #[]) ∧ Lies w w' g m (insertionSort ltA d a b) := by
  have HL := Lib.hid h
  clear h
  go_enter Try.func52, Try.ntmps52
  go_wp2
  go_loopw [6] (fun vi wr => ∃ (i : Nat) (dk : Array Int), vi = .int .i64 i ∧ a < i ∧ i ≤ b + 1 ∧ dk.size = d.size ∧ Hid (Lies w wr g m dk) ∧ Hid (insOuter ltA a b i dk = insOuter ltA a b (a + 1) d)) (fun vi _ => b + 1 - (intOf vi).toNat)
  case atStart => exact ⟨a + 1, d, by go_num, by omega, by omega, rfl, HL, rfl⟩
  case round =>
    obtain ⟨i, dk, rfl, hai, hib, hsk, HK, HO⟩ := hrel
    clear HL
    go_wp2
    · have hlt : i < b := by assumption
      go_loopw [7] (fun vj wr2 => ∃ (j : Nat) (dj : Array Int), vj = .int .i64 j ∧ a ≤ j ∧ j ≤ i ∧ dj.size = d.size ∧ Hid (Lies w wr2 g m dj) ∧ Hid (insInner ltA a j dj = insInner ltA a i dk)) (fun vj _ => (intOf vj).toNat)
      case atStart => exact ⟨i, dk, rfl, by omega, Nat.le_refl _, hsk, HK, rfl⟩
      case round =>
        obtain ⟨j, dj, rfl, haj, hji, hsj, HJ, HI⟩ := hrel
        obtain ⟨G, hG⟩ : ∃ G : Nat → Int, ∀ t, G t = dj[t]! := ⟨fun t => dj[t]!, fun _ => rfl⟩
        have hcw := HJ.out.cells hG
        have hfw := HJ.out.free
        rw [hsj] at hcw hfw
        have HG := Lib.hid hG
        have HS := Lib.hid hsj
        clear hG hsj
        have OUT : Hid ((j ≤ a ∨ ltA dj[j]! dj[j - 1]! = false) → insOuter ltA a b (i + 1) dj = insOuter ltA a b (a + 1) d) := fun hs => by
          rw [← HO.out, outer_go _ _ _ _ hlt, ← HI.out, inner_end _ _ _ hs]
        go_wp2
        by_cases hja : a < j
        · have q1 : j < d.size := by omega
          have q2 : (j : Int) < (d.size : Int) := by omega
          have q3 : (0 : Int) ≤ (j : Int) - 1 := by omega
          have q4 : (j : Int) - 1 < (d.size : Int) := by omega
          have q5 : ((j : Int) - 1).toNat = j - 1 := by omega
          have q6 : IntKind.i64.wrap ((j : Int) - 1) = (j : Int) - 1 := IntWalk.i64_in _ (by omega)
          have q7 : j - 1 < d.size := by omega
          go_quiet ((go_at_call 42; exact Calls.quiet_of_same (less_w _ _ _)))
          go_wp2
          · have hl : ltA (G j) (G (j - 1)) = true := by assumption
            go_region
            all_goals go_wp2
            go_roundw
            case rel => exact ⟨j - 1, swp dj j (j - 1), by congr 1; omega, by omega, by omega, by rw [size_swp]; exact HS.out, (HJ.out.drewN nq).swpG HG.out (by have := HS.out; omega) (by have := HS.out; omega), by rw [← HI.out, inner_go a j dj hja (by rw [← HG.out, ← HG.out]; exact hl)]; rfl⟩
            case measure => simp [intOf]; omega
          · have hl : ltA (G j) (G (j - 1)) = false := by assumption
            go_roundw
            case rel => exact ⟨i + 1, dj, by go_num, by omega, by omega, HS.out, HJ.out.drewN nq, OUT.out (.inr (by rw [← HG.out, ← HG.out]; exact hl))⟩
            case measure => simp [intOf]; omega
        · have hd : decide (a < j) = false := decide_eq_false hja
          go_quiet ((go_at_call 42; exact Calls.quiet_of_same (less_w _ _ _)))
          go_wp2
          go_roundw
          case rel => exact ⟨i + 1, dj, by go_num, by omega, by omega, HS.out, HJ.out.drewN nq, OUT.out (.inl (by omega))⟩
          case measure => simp [intOf]; omega
    · have hge : ¬ i < b := by assumption
      go_end0
      exact ⟨rfl, by unfold insertionSort; rw [← HO.out, outer_end _ _ _ _ hge]; exact HK.out⟩
set_option maxHeartbeats 8000000 in
theorem reverse_w {g m cap a b : Nat} {d : Array Int} {w : World} (h : Lies w w g m d) (hab : a < b) (hb : b ≤ d.size) (hsz : d.size < 1000000000000) :
    Calls Try.prog 56 #[.slice (some ⟨g, 0, none⟩) d.size cap, .int .i64 a, .int .i64 b] w fun e w' => e = .returned (.tuple #[]) ∧ Lies w w' g m (reverseRange d a b) := by
  have HL := Lib.hid h
  clear h
  go_enter Try.func56, Try.ntmps56
  go_wp2
  go_loopw [6, 7] (fun vi vj wr => ∃ (i j : Nat) (dk : Array Int), vi = .int .i64 i ∧ vj = .int .i64 j ∧ a ≤ i ∧ j < b ∧ i ≤ j + 1 ∧ dk.size = d.size ∧ Hid (Lies w wr g m dk) ∧ Hid (reverseLoop i j dk = reverseLoop a (b - 1) d)) (fun vi vj _ => (intOf vj).toNat + 1 - (intOf vi).toNat)
  case atStart => exact ⟨a, b - 1, d, rfl, by congr 1; omega, by omega, by omega, by omega, rfl, HL, rfl⟩
  case round =>
    obtain ⟨i, j, dk, rfl, rfl, hai, hjb, hij, hsk, HK, HO⟩ := hrel
    clear HL
    obtain ⟨G, hG⟩ : ∃ G : Nat → Int, ∀ t, G t = dk[t]! := ⟨fun t => dk[t]!, fun _ => rfl⟩
    have hcw := HK.out.cells hG
    have hfw := HK.out.free
    rw [hsk] at hcw hfw
    have HG := Lib.hid hG
    have HS := Lib.hid hsk
    clear hG hsk
    by_cases hlt : i < j
    · have q1 : i < d.size := by omega
      have q2 : j < d.size := by omega
      go_wp2
      go_region
      all_goals go_wp2
      go_roundw
      case rel => exact ⟨i + 1, j - 1, swp dk i j, by go_num, by congr 1; omega, by omega, by omega, by omega, by rw [size_swp]; exact HS.out, HK.out.swpG HG.out (by have := HS.out; omega) (by have := HS.out; omega), by rw [← HO.out, reverseLoop.eq_1 i j dk, if_pos hlt]; rfl⟩
      case measure => simp [intOf]; omega
    · go_wp2
      go_end0
      exact ⟨rfl, by unfold reverseRange; rw [← HO.out, reverseLoop, if_neg hlt]; exact HK.out⟩
end Go.Proofs.Ytkhljamellgcfaa
/-
  How many bits a number has; what comes by chance.
-/
namespace Go.Proofs.Ytkhljamellgcfaa
open Go.RowKit Go.Sort
set_option linter.unusedVariables false
set_option linter.unusedSimpArgs false
theorem ww8 (u : UInt8) : wrap64 (wrap64 (u.toNat : Int)) = (u.toNat : Int) := by
  have := u.toNat_lt
  unfold wrap64; omega
theorem ww8' (u : UInt8) : wrap64 (8 + wrap64 (u.toNat : Int)) = ((u.toNat + 8 : Nat) : Int) := by
  have := u.toNat_lt
  unfold wrap64; omega
def LenOk (x : Nat) (w : World) (e : Ending) (w' : World) : Prop := ∃ L : Nat, e = .returned (.int .i64 L) ∧ (L ≤ 16 ∧ x < 2 ^ L ∧ (0 < x → 2 ^ L ≤ 2 * x)) ∧ w = w'
theorem ret_int' {k : IntKind} {a b : Int} (h : a = b) : Ending.returned (.int k a) = .returned (.int k b) := by rw [h]
set_option maxRecDepth 100000 in
theorem len64_lo (y : Fin 256) (x : Nat) (hx : x = y.val) (w : World) : Calls Try.prog 61 #[.int .u64 x] w (LenOk x w) := by
  have h0 : (0 : Int) ≤ (x : Int) := by omega
  have h1 : (x : Int) < 256 := by omega
  have d1 : decide ((4294967296 : Int) ≤ (x : Int)) = false := decide_eq_false (by omega)
  have d2 : decide ((65536 : Int) ≤ (x : Int)) = false := decide_eq_false (by omega)
  have d3 : decide ((256 : Int) ≤ (x : Int)) = false := decide_eq_false (by omega)
  have HX := Lib.hid hx
  clear hx
  go_enter Try.func61, Try.ntmps61
  go_wp2
  go_ret
  refine ⟨_, ret_int' (ww8 _), ?_, rfl⟩
  obtain rfl := HX.out
  clear HX d1 d2 d3
  revert y
  decide +kernel
set_option maxRecDepth 100000 in
theorem len64_hi (y : Fin 256) (x : Nat) (hx : y.val = x / 256) (h256 : 256 ≤ x) (h : x < 65536) (w : World) : Calls Try.prog 61 #[.int .u64 x] w (LenOk x w) := by
  have h0 : (0 : Int) ≤ (x : Int) := by omega
  have h1 : (x : Int) < 65536 := by omega
  have d1 : decide ((4294967296 : Int) ≤ (x : Int)) = false := decide_eq_false (by omega)
  have d2 : decide ((65536 : Int) ≤ (x : Int)) = false := decide_eq_false (by omega)
  have d3 : decide ((256 : Int) ≤ (x : Int)) = true := decide_eq_true (by omega)
  have HX := Lib.hid hx
  obtain ⟨z, hz⟩ : ∃ z : Nat, z = x / 256 := ⟨_, rfl⟩
  have HZ := Lib.hid hz
  have z0 : (0 : Int) ≤ (z : Int) := by omega
  have z1 : (z : Int) < 256 := by omega
  have zx : (x : Int) / 256 = (z : Int) := by omega
  clear hx hz
  go_enter Try.func61, Try.ntmps61
  go_wp2
  go_ret
  refine ⟨_, ret_int' (ww8' _), ?_, rfl⟩
  have hy : z = y.val := by have := HX.out; have := HZ.out; omega
  subst hy
  have key : ∀ L : Nat, (L ≤ 8 ∧ y.val < 2 ^ L ∧ (0 < y.val → 2 ^ L ≤ 2 * y.val)) → L + 8 ≤ 16 ∧ x < 2 ^ (L + 8) ∧ (0 < x → 2 ^ (L + 8) ≤ 2 * x) := by
    intro L ⟨h1, h2, h3⟩
    have e : 2 ^ (L + 8) = 2 ^ L * 256 := by rw [Nat.pow_add]
    have := HZ.out
    have h4 := h3 (by omega)
    rw [e]
    generalize 2 ^ L = P at *
    omega
  refine key _ ?_
  clear key HX HZ d1 d2 d3 h0 h1 zx h256 h
  revert y
  decide +kernel
theorem len64_w (x : Nat) (h : x < 65536) (w : World) : Calls Try.prog 61 #[.int .u64 x] w (LenOk x w) := by
  by_cases hx : x < 256
  · exact len64_lo ⟨x, hx⟩ x rfl w
  · exact len64_hi ⟨x / 256, by omega⟩ x rfl (by omega) h w
theorem len_w (x : Nat) (h : x < 65536) (w : World) : Calls Try.prog 51 #[.int .u64 x] w (LenOk x w) := by
  have hw : IntKind.u64.wrap (x : Int) = (x : Int) := by rw [IntKind.wrap_u64]; omega
  have H := Lib.hid h
  clear h
  go_enter Try.func51, Try.ntmps51
  go_wp2_with (go_at_call 61; refine (len64_w x H.out w).mono ?_; rintro e w' ⟨L, rfl, hL, rfl⟩; have HL := Lib.hid hL; clear hL)
  go_ret
  exact ⟨L, rfl, HL.out, rfl⟩
def PowOk (x : Nat) (w : World) (e : Ending) (w' : World) : Prop := ∃ L : Nat, e = .returned (.int .u64 ((2 ^ L : Nat) : Int)) ∧ (L ≤ 16 ∧ x < 2 ^ L ∧ (0 < x → 2 ^ L ≤ 2 * x)) ∧ w = w'
theorem shl1 : ∀ L : Fin 17, IntKind.u64.wrap (2 ^ min L.val 64 : Int) = ((2 ^ L.val : Nat) : Int) := by decide +kernel
set_option maxRecDepth 100000 in
theorem pow_w (x : Nat) (h : x < 65536) (w : World) : Calls Try.prog 63 #[.int .i64 x] w (PowOk x w) := by
  have h0 : (0 : Int) ≤ (x : Int) := by omega
  have h1 : (x : Int) < 65536 := by omega
  have hw : IntKind.u64.wrap (x : Int) = (x : Int) := by rw [IntKind.wrap_u64]; omega
  go_enter Try.func63, Try.ntmps63
  go_wp2_with (go_at_call 51; refine (len_w x h w).mono ?_; rintro e w' ⟨L, rfl, hL, rfl⟩; have HL := Lib.hid hL; clear hL)
  go_ret
  exact ⟨L, ret_int' (shl1 ⟨L, by have := HL.out.1; omega⟩), HL.out, rfl⟩
end Go.Proofs.Ytkhljamellgcfaa
/-
  A number by chance.
-/
namespace Go.Proofs.Ytkhljamellgcfaa
open Go.RowKit Go.Sort
set_option linter.unusedVariables false
set_option linter.unusedSimpArgs false
/-- A number of 64 bits in a block of its own. -/
def Rn (w : World) (s : Nat) : Prop := ∃ v : Int, w.heap[s]? = some (.cells #[.int .u64 v] 73 (0, 0))
theorem Rn.cell {w : World} {s : Nat} (h : Rn w s) : ∃ v : Int, w.cell? ⟨s, 0, none⟩ = some (.int .u64 v) ∧ w.frozen? ⟨s, 0, none⟩ = false := by
  obtain ⟨v, hv⟩ := h
  exact ⟨v, by simp [World.cell?, hv], by simp [World.frozen?, hv]⟩
theorem Rn.set {w : World} {s : Nat} (h : Rn w s) (v : Int) : Rn (w.setCell ⟨s, 0, none⟩ (.int .u64 v)) s := by
  obtain ⟨u, hu⟩ := h
  refine ⟨v, ?_⟩
  show (w.heap.modify s _)[s]? = _
  rw [Array.getElem?_modify, if_pos rfl, hu]
  rfl
theorem Rn.keep {w w1 : World} {s : Nat} (h : Rn w s) (k : Off (fun _ => False) w w1) : Rn w1 s := by
  obtain ⟨v, hv⟩ := h
  exact ⟨v, (k.block s (Array.getElem?_eq_some_iff.1 hv).1 id).trans hv⟩
theorem Rn.next {w : World} {s : Nat} (h : Rn w s) (v : Int) : Rn (w.setCell ⟨s, 0, none⟩ (.int .u64 v)).drew s := (h.set v).keep ((Off.refl _ _).drew)
theorem setcell_off (w : World) (s : Nat) (v : Value) : Off (fun k => k = s) w (w.setCell ⟨s, 0, none⟩ v).drew :=
  ((Off.refl (fun k => k = s) w).setCell (fun _ => rfl) v).drew
theorem Rn.other2 {w : World} {s g : Nat} (h : Rn w s) (hg : s ≠ g) (p q : Nat) (x y : Value) : Rn ((w.setCell ⟨g, p, none⟩ x).setCell ⟨g, q, none⟩ y).drew s := by
  obtain ⟨v, hv⟩ := h
  have k : Off (fun k => k = g) w ((w.setCell ⟨g, p, none⟩ x).setCell ⟨g, q, none⟩ y).drew := (((Off.refl (fun k => k = g) w).setCell (fun _ => rfl) x).setCell (fun _ => rfl) y).drew
  exact ⟨v, (k.block s (Array.getElem?_eq_some_iff.1 hv).1 hg).trans hv⟩
set_option maxHeartbeats 8000000 in
theorem next_w {s : Nat} {w : World} (hs : Rn w s) :
    Calls Try.prog 64 #[.pointer (some ⟨s, 0, none⟩)] w fun e w' => ∃ v : Int, e = .returned (.int .u64 v) ∧ Off (fun k => k = s) w w' ∧ Rn w' s := by
  have HC := Lib.hid hs
  obtain ⟨v, hv, hf⟩ := hs.cell
  clear hs
  go_enter Try.func64, Try.ntmps64
  go_upto_region 1 with fail
  go_region
  all_goals generalize bits BinOp.xor IntKind.u64 v _ = x
  all_goals generalize hW_ : (w.setCell ⟨s, 0, none⟩ (.int .u64 x)).drew = W1
  all_goals have HO1 := Lib.hid (show Off (fun k => k = s) w W1 by rw [← hW_]; exact setcell_off _ _ _)
  all_goals have HR1 : Hid (Rn W1 s) := by rw [← hW_]; exact HC.out.next x
  all_goals clear hW_ hv hf HC
  all_goals obtain ⟨v1, hv, hf⟩ := HR1.out.cell
  all_goals go_upto_region 2 with fail
  all_goals go_region
  all_goals generalize bits BinOp.xor IntKind.u64 v1 _ = x
  all_goals generalize hW_ : (W1.setCell ⟨s, 0, none⟩ (.int .u64 x)).drew = W2
  all_goals have HO2 := Lib.hid (show Off (fun k => k = s) W1 W2 by rw [← hW_]; exact setcell_off _ _ _)
  all_goals have HR2 : Hid (Rn W2 s) := by rw [← hW_]; exact HR1.out.next x
  all_goals clear hW_ hv hf HR1
  all_goals obtain ⟨v2, hv, hf⟩ := HR2.out.cell
  all_goals go_upto_region 3 with fail
  all_goals go_region
  all_goals generalize bits BinOp.xor IntKind.u64 v2 _ = x
  all_goals generalize hW_ : (W2.setCell ⟨s, 0, none⟩ (.int .u64 x)).drew = W3
  all_goals have HO3 := Lib.hid (show Off (fun k => k = s) W2 W3 by rw [← hW_]; exact setcell_off _ _ _)
  all_goals have HR3 : Hid (Rn W3 s) := by rw [← hW_]; exact HR2.out.next x
  all_goals clear hW_ hv hf HR2
  all_goals obtain ⟨v3, hv, hf⟩ := HR3.out.cell
  all_goals go_wp2
  all_goals go_ret
  all_goals exact ⟨v3, rfl, (HO1.out.trans HO2.out).trans HO3.out, HR3.out⟩

theorem and_mask (v : Int) (L M : Nat) (hL : L ≤ 16) (hM : M = 2 ^ L) : ∃ y : Nat, bits .and .u64 v ((M : Int) - 1) = (y : Int) ∧ y < M := by
  have hp : 0 < 2 ^ L := Nat.two_pow_pos L
  have h64 : 2 ^ L ≤ 65536 := Nat.le_trans (Nat.pow_le_pow_right (by decide) hL) (by decide)
  have e : (M : Int) - 1 = ((M - 1 : Nat) : Int) := by omega
  have e2 : (BitVec.ofInt IntKind.u64.bits (((M - 1 : Nat) : Int))).toNat = M - 1 := by
    rw [BitVec.ofInt_natCast, BitVec.toNat_ofNat]
    exact Nat.mod_eq_of_lt (Nat.lt_of_lt_of_le (by omega : M - 1 < 65536) (by decide))
  rw [e]
  refine ⟨(BitVec.ofInt IntKind.u64.bits v).toNat &&& (M - 1), ?_, ?_⟩
  · simp only [bits, BitVec.toNat_and, e2]
    have := Nat.and_lt_two_pow (BitVec.ofInt IntKind.u64.bits v).toNat (show M - 1 < 2 ^ L by omega)
    rw [IntKind.wrap_u64]
    omega
  · have := Nat.and_lt_two_pow (BitVec.ofInt IntKind.u64.bits v).toNat (show M - 1 < 2 ^ L by omega)
    omega
def PowM (x : Nat) (w : World) (e : Ending) (w' : World) : Prop := ∃ M : Nat, e = .returned (.int .u64 (M : Int)) ∧ ((∃ L, L ≤ 16 ∧ M = 2 ^ L) ∧ x < M ∧ (0 < x → M ≤ 2 * x)) ∧ w = w'
theorem powM_w (x : Nat) (h : x < 65536) (w : World) : Calls Try.prog 63 #[.int .i64 x] w (PowM x w) := by
  refine (pow_w x h w).mono ?_
  rintro e w' ⟨L, rfl, hL, rfl⟩
  exact ⟨2 ^ L, rfl, ⟨⟨L, hL.1, rfl⟩, hL.2⟩, rfl⟩
set_option maxHeartbeats 16000000 in
set_option maxRecDepth 100000 in
theorem break_w {g m cap a b : Nat} {d : Array Int} {w : World} (h : Lies w w g m d) (hab : a ≤ b) (hb : b ≤ d.size) (hsz : d.size < 65536) :
    Calls Try.prog 54 #[.slice (some ⟨g, 0, none⟩) d.size cap, .int .i64 a, .int .i64 b] w fun e w' => e = .returned (.tuple #[]) ∧ ∃ d', PermIn a b d d' ∧ Lies w w' g m d' := by
  have HL := Lib.hid h
  have HG := Lib.hid (show w.heap.size ≠ g from Nat.ne_of_gt h.lt)
  clear h
  obtain ⟨z, hz⟩ : ∃ z : Nat, z = b - a := ⟨_, rfl⟩
  have hz2 : a + z = b := by omega
  have hz3 : z < 65536 := by omega
  clear hz
  go_enter Try.func54, Try.ntmps54
  go_upto_region 1 with fail
  rw [show ((b : Int) - (a : Int)) = (z : Int) from by omega]
  by_cases h8 : 8 ≤ z
  · have hd8 : decide ((8 : Int) ≤ (z : Int)) = true := decide_eq_true (by omega)
    go_upto_region 3 with fail
    obtain ⟨s, hs⟩ : ∃ s, s = w.heap.size := ⟨_, rfl⟩
    rw [← hs]
    generalize hW_ : w.alloc (.cells #[.int .u64 z] 73 (0, 0)) = W1
    have HL1 := Lib.hid (show Lies w W1 g m d by rw [← hW_]; exact HL.out.keep (off_alloc _ _))
    have HR : Hid (Rn W1 s) := ⟨z, by rw [← hW_, hs]; exact World.alloc_heap_new _ _⟩
    have HS := Lib.hid hs
    have HGS := Lib.hid (show s ≠ g by rw [hs]; exact HG.out)
    clear hW_ hs HL HG
    obtain ⟨q, hq⟩ : ∃ q : Nat, q = z / 4 := ⟨_, rfl⟩
    have hq2 : 2 ≤ q := by omega
    have hq4 : q * 4 ≤ z := by omega
    have hqz : (z : Int) / 4 = (q : Int) := by omega
    obtain ⟨c, hc⟩ : ∃ c : Nat, c = a + q * 2 - 1 := ⟨_, rfl⟩
    have hc1 : c + 1 = a + q * 2 := by omega
    clear hq hc
    go_upto_region 4 with (go_at_call 63; refine (powM_w z hz3 _).mono ?_; rintro e w' ⟨M, rfl, hM, rfl⟩; have HM := Lib.hid hM; clear hM)
    have hM1 : z < M := HM.out.2.1
    have hM2 : M ≤ 2 * z := HM.out.2.2 (by omega)
    go_wp2
    rw [show ((a : Int) + (q : Int) * 2 - 1) = (c : Int) from by omega]
    go_loopw [9] (fun vi wr => ∃ (i : Nat) (dk : Array Int), vi = .int .i64 (i : Int) ∧ c ≤ i ∧ i ≤ c + 3 ∧ dk.size = d.size ∧ Hid (Lies w wr g m dk) ∧ Hid (Rn wr s) ∧ Hid (PermIn a b d dk)) (fun vi _ => c + 4 - (intOf vi).toNat)
    case atStart => exact ⟨c, d, rfl, by omega, by omega, rfl, HL1, HR, permIn_refl _ _ _⟩
    case round =>
      obtain ⟨i, dk, rfl, hk0, hk3, hsk, HK, HRK, HP⟩ := hrel
      clear HL1 HR
      by_cases hk2 : i ≤ c + 2
      · have hd1 : decide ((i : Int) ≤ (a : Int) + (q : Int) * 2 + 1) = true := decide_eq_true (by omega)
        have hw1 : IntKind.i64.wrap ((q : Int) * 2) = (q : Int) * 2 := IntWalk.i64_in _ (by omega)
        have hw2 : IntKind.i64.wrap ((a : Int) + (q : Int) * 2) = (a : Int) + (q : Int) * 2 := IntWalk.i64_in _ (by omega)
        have hw3 : IntKind.i64.wrap ((a : Int) + (q : Int) * 2 + 1) = (a : Int) + (q : Int) * 2 + 1 := IntWalk.i64_in _ (by omega)
        go_upto_region 7 with fail
        go_upto_region 8 with (go_at_call 64; refine (next_w HRK.out).mono ?_; rintro e W2 ⟨v, rfl, hO2, hR2⟩; have HO2 := Lib.hid hO2; have HR2 := Lib.hid hR2; clear hO2 hR2)
        have HK2 := Lib.hid (HK.out.young HO2.out (Nat.le_of_eq HS.out.symm) HGS.out)
        obtain ⟨y, hy, hyM⟩ := and_mask v _ M HM.out.1.choose_spec.1 HM.out.1.choose_spec.2
        rw [hy, show wrap64 (y : Int) = (y : Int) from by unfold wrap64; omega]
        clear hy
        obtain ⟨G, hG⟩ : ∃ G : Nat → Int, ∀ t, G t = dk[t]! := ⟨fun t => dk[t]!, fun _ => rfl⟩
        have HG := Lib.hid hG
        have HS0 := Lib.hid hsk
        have hcw := HK2.out.cells hG
        have hfw := HK2.out.free
        rw [hsk] at hcw hfw
        clear hG hsk
        by_cases hyz : z ≤ y
        · have hd2 : decide ((z : Int) ≤ (y : Int)) = true := decide_eq_true (by omega)
          obtain ⟨o, ho⟩ : ∃ o : Nat, o = y - z := ⟨_, rfl⟩
          have hor : (y : Int) - (z : Int) = (o : Int) := by omega
          have ho2 : o < z := by omega
          clear ho
          go_upto_region 10 with fail
          obtain ⟨j, hj⟩ : ∃ j : Nat, j = a + o := ⟨_, rfl⟩
          have hjr : ((a : Int) + (o : Int)) = (j : Int) := by omega
          have hjw : IntKind.i64.wrap (j : Int) = (j : Int) := IntWalk.i64_in _ (by omega)
          have q1 : i < d.size := by omega
          have q2 : j < d.size := by omega
          have q3 : j < b := by omega
          have q4 : a ≤ j := by omega
          clear hj
          obtain ⟨v3, hy3⟩ := cell?_setCell_some (w := W2) (p := ⟨g, i, none⟩) (x := .int .u32 (G j)) (q := ⟨g, j, none⟩) (hcw j q2)
          go_region
          all_goals go_wp2
          all_goals go_roundw
          case rel => exact ⟨i + 1, swp dk i j, by go_num, by omega, by omega, by rw [size_swp]; exact HS0.out, HK2.out.swpG HG.out (by have := HS0.out; omega) (by have := HS0.out; omega), HR2.out.other2 HGS.out _ _ _ _, permIn_trans _ _ _ _ _ HP.out (swp_permIn _ _ _ _ _ (by omega) (by omega) (by omega) (by omega) (by have := HS0.out; omega))⟩
          case measure => simp [intOf]; omega
        · have hd2 : decide ((z : Int) ≤ (y : Int)) = false := decide_eq_false (by omega)
          go_upto_region 10 with fail
          obtain ⟨j, hj⟩ : ∃ j : Nat, j = a + y := ⟨_, rfl⟩
          have hjr : ((a : Int) + (y : Int)) = (j : Int) := by omega
          have hjw : IntKind.i64.wrap (j : Int) = (j : Int) := IntWalk.i64_in _ (by omega)
          have q1 : i < d.size := by omega
          have q2 : j < d.size := by omega
          have q3 : j < b := by omega
          have q4 : a ≤ j := by omega
          clear hj
          obtain ⟨v3, hy3⟩ := cell?_setCell_some (w := W2) (p := ⟨g, i, none⟩) (x := .int .u32 (G j)) (q := ⟨g, j, none⟩) (hcw j q2)
          go_region
          all_goals go_wp2
          all_goals go_roundw
          case rel => exact ⟨i + 1, swp dk i j, by go_num, by omega, by omega, by rw [size_swp]; exact HS0.out, HK2.out.swpG HG.out (by have := HS0.out; omega) (by have := HS0.out; omega), HR2.out.other2 HGS.out _ _ _ _, permIn_trans _ _ _ _ _ HP.out (swp_permIn _ _ _ _ _ (by omega) (by omega) (by omega) (by omega) (by have := HS0.out; omega))⟩
          case measure => simp [intOf]; omega
      · have hd1 : decide ((i : Int) ≤ (a : Int) + (q : Int) * 2 + 1) = false := decide_eq_false (by omega)
        go_wp2
        go_end0
        exact ⟨rfl, dk, HP.out, HK.out⟩
  · have hd8 : decide ((8 : Int) ≤ (z : Int)) = false := decide_eq_false (by omega)
    go_wp2
    go_end0
    exact ⟨rfl, d, permIn_refl _ _ _, HL.out⟩
end Go.Proofs.Ytkhljamellgcfaa
/-
  A heap, where it lies.
-/
namespace Go.Proofs.Ytkhljamellgcfaa
open Go.RowKit Go.Sort
set_option linter.unusedVariables false
set_option linter.unusedSimpArgs false
theorem sift_end {hi first root : Nat} {d : Array Int} (h : 2 * root + 1 ≥ hi) : siftDown ltA hi first root d = d := by rw [siftDown, dif_pos h]
theorem sift_go {hi first root c : Nat} {d : Array Int} (h : ¬ 2 * root + 1 ≥ hi)
    (hc : c = 2 * root + 1 ∧ (2 * root + 2 < hi → ltA d[first + (2 * root + 1)]! d[first + (2 * root + 1) + 1]! = false) ∨ c = 2 * root + 2 ∧ 2 * root + 2 < hi ∧ ltA d[first + (2 * root + 1)]! d[first + (2 * root + 1) + 1]! = true) :
    siftDown ltA hi first root d = if ltA d[first + root]! d[first + c]! = true then siftDown ltA hi first c (swp d (first + root) (first + c)) else d := by
  rw [siftDown, dif_neg h]
  rcases hc with ⟨rfl, h1⟩ | ⟨rfl, h1, h2⟩
  · have e : (decide (2 * root + 1 + 1 < hi) && ltA d[first + (2 * root + 1)]! d[first + (2 * root + 1) + 1]!) = false := by
      by_cases h3 : 2 * root + 2 < hi
      · rw [h1 h3]; simp
      · simp [show ¬ 2 * root + 1 + 1 < hi by omega]
    rw [if_neg (by rw [e]; decide)]
    cases hl : ltA d[first + root]! d[first + (2 * root + 1)]!
    · simp
    · simp
  · have e : (decide (2 * root + 1 + 1 < hi) && ltA d[first + (2 * root + 1)]! d[first + (2 * root + 1) + 1]!) = true := by
      rw [h2]; simp; omega
    rw [if_pos e]
    cases hl : ltA d[first + root]! d[first + (2 * root + 2)]!
    · simp
    · simp [h1]
set_option maxHeartbeats 16000000 in
set_option maxRecDepth 100000 in
theorem sift_w {g m cap lo hi first : Nat} {d : Array Int} {w : World} (h : Lies w w g m d) (hf : first + hi ≤ d.size) (hsz : d.size < 1000000000000) (hlo : lo < 1000000000000) :
    Calls Try.prog 62 #[.slice (some ⟨g, 0, none⟩) d.size cap, .int .i64 lo, .int .i64 hi, .int .i64 first] w fun e w' => e = .returned (.tuple #[]) ∧ Lies w w' g m (siftDown ltA hi first lo d) := by
  have HL := Lib.hid h
  clear h
  go_enter Try.func62, Try.ntmps62
  go_wp2
  go_loopw [8] (fun vi wr => ∃ (i : Nat) (dk : Array Int), vi = .int .i64 i ∧ i < 1000000000000 ∧ dk.size = d.size ∧ Hid (Lies w wr g m dk) ∧ Hid (siftDown ltA hi first i dk = siftDown ltA hi first lo d)) (fun vi _ => 1000000000000 - (intOf vi).toNat)
  case atStart => exact ⟨lo, d, rfl, hlo, rfl, HL, rfl⟩
  case round =>
    obtain ⟨i, dk, rfl, hib, hsk, HK, HO⟩ := hrel
    clear HL
    obtain ⟨G, hG⟩ : ∃ G : Nat → Int, ∀ t, G t = dk[t]! := ⟨fun t => dk[t]!, fun _ => rfl⟩
    have HG := Lib.hid hG
    have HS := Lib.hid hsk
    clear hG hsk
    have hcw := HK.out.cells HG.out
    have hfw := HK.out.free
    rw [HS.out] at hcw hfw
    by_cases hc : 2 * i + 1 ≥ hi
    · have hd : decide (hi ≤ 2 * i + 1) = true := decide_eq_true hc
      have hd2 : decide ((hi : Int) ≤ 2 * (i : Int) + 1) = true := decide_eq_true (by omega)
      go_wp2
      go_end0
      exact ⟨rfl, by rw [← HO.out, sift_end hc]; exact HK.out⟩
    · have hd2 : decide ((hi : Int) ≤ 2 * (i : Int) + 1) = false := decide_eq_false (by omega)
      go_wp2
      obtain ⟨c, hcc⟩ : ∃ c : Nat, c = 2 * i + 1 := ⟨_, rfl⟩
      rw [show 2 * (i : Int) + 1 = (c : Int) from by omega]
      have HC := Lib.hid hcc
      have b1 : c < hi := by omega
      have b2 : i < c := by omega
      clear hd2 hcc
      have s1 : IntKind.i64.wrap ((c : Int) + 1) = (c : Int) + 1 := IntWalk.i64_in _ (by omega)
      have xw1 : IntKind.i64.wrap ((first : Int) + (c : Int)) = (first : Int) + (c : Int) := IntWalk.i64_in _ (by omega)
      have xa1 : (0 : Int) ≤ (first : Int) + (c : Int) := by omega
      have xb1 : (first : Int) + (c : Int) < (d.size : Int) := by omega
      have xc1 : ((first : Int) + (c : Int)).toNat = first + c := by omega
      have xw2 : IntKind.i64.wrap ((first : Int) + (i : Int)) = (first : Int) + (i : Int) := IntWalk.i64_in _ (by omega)
      have xa2 : (0 : Int) ≤ (first : Int) + (i : Int) := by omega
      have xb2 : (first : Int) + (i : Int) < (d.size : Int) := by omega
      have xc2 : ((first : Int) + (i : Int)).toNat = first + i := by omega
      have q1 : first + c < d.size := by omega
      have q2 : first + i < d.size := by omega
      by_cases h2 : c + 1 < hi
      · have q3 : first + c + 1 < d.size := by omega
        have hd3 : decide ((c : Int) + 1 < (hi : Int)) = true := decide_eq_true (by omega)
        have xw3 : IntKind.i64.wrap ((first : Int) + (c : Int) + 1) = (first : Int) + (c : Int) + 1 := IntWalk.i64_in _ (by omega)
        have xa3 : (0 : Int) ≤ (first : Int) + (c : Int) + 1 := by omega
        have xb3 : (first : Int) + (c : Int) + 1 < (d.size : Int) := by omega
        have xc3 : ((first : Int) + (c : Int) + 1).toNat = first + c + 1 := by omega
        go_quiet ((go_at_call 42; exact Calls.quiet_of_same (less_w _ _ _)))
        go_wp2
        · have hl2 : ltA (G (first + c)) (G (first + c + 1)) = true := by assumption
          have HL2 := Lib.hid hl2
          clear hl2
          obtain ⟨c1, hc1⟩ : ∃ c1 : Nat, c1 = c + 1 := ⟨_, rfl⟩
          rw [show (c : Int) + 1 = (c1 : Int) from by omega]
          have xw4 : IntKind.i64.wrap ((first : Int) + (c1 : Int)) = (first : Int) + (c1 : Int) := IntWalk.i64_in _ (by omega)
          have xa4 : (0 : Int) ≤ (first : Int) + (c1 : Int) := by omega
          have xb4 : (first : Int) + (c1 : Int) < (d.size : Int) := by omega
          have xc4 : ((first : Int) + (c1 : Int)).toNat = first + c1 := by omega
          have q4 : first + c1 < d.size := by omega
          have HC1 := Lib.hid hc1
          clear hc1
          generalize hW_ : wr.drewN nq = W3
          have HK3 : Hid (Lies w W3 g m dk) := by rw [← hW_]; exact HK.out.drewN _
          clear hW_ hcw hfw HK
          have hcw := HK3.out.cells HG.out
          have hfw := HK3.out.free
          rw [HS.out] at hcw hfw
          have HE : Hid (siftDown ltA hi first i dk = if ltA dk[first + i]! dk[first + c1]! = true then siftDown ltA hi first (c1) (swp dk (first + i) (first + (c1))) else dk) := sift_go (by have := HC.out; omega) (.inr ⟨by have := HC.out; have := HC1.out; omega, by have := HC.out; omega, by rw [← HC.out, ← HG.out, ← HG.out]; exact HL2.out⟩)
          go_quiet ((go_at_call 42; exact Calls.quiet_of_same (less_w _ _ _)))
          go_wp2
          · have hl0 : (!ltA (G (first + i)) (G (first + c1))) = true := by assumption
            have hl : ltA (G (first + i)) (G (first + c1)) = false := by simpa using hl0
            (try simp only [Exit.inBlock, Exit.then])
            refine bodyPost_ret (results_none rfl _ _ _) rfl ?_
            exact ⟨rfl, by rw [← HO.out, HE.out, if_neg (by rw [← HG.out, ← HG.out, hl]; decide)]; exact HK3.out.drewN _⟩
          · have hl0 : (!ltA (G (first + i)) (G (first + c1))) = false := by assumption
            have hl : ltA (G (first + i)) (G (first + c1)) = true := by simpa using hl0
            clear hl0
            have n1 : i ≠ c1 := by have := HC.out; have := HC1.out; omega
            have n2 : c1 ≠ i := Ne.symm n1
            go_region
            all_goals go_wp2
            go_roundw
            case rel => exact ⟨c1, swp dk (first + i) (first + c1), by go_num, by have := HC.out; have := HC1.out; omega, by rw [size_swp]; exact HS.out, (HK3.out.drewN nq).swpG HG.out (by have := HS.out; omega) (by have := HS.out; omega), by rw [← HO.out, HE.out, if_pos (by rw [← HG.out, ← HG.out]; exact hl)]; rfl⟩
            case measure => have n3 : i < c1 := (by (try have := HC1.out); omega); simp [intOf]; omega
        · have hl2 : ltA (G (first + c)) (G (first + c + 1)) = false := by assumption
          have HL2 := Lib.hid hl2
          clear hl2
          generalize hW_ : wr.drewN nq = W3
          have HK3 : Hid (Lies w W3 g m dk) := by rw [← hW_]; exact HK.out.drewN _
          clear hW_ hcw hfw HK
          have hcw := HK3.out.cells HG.out
          have hfw := HK3.out.free
          rw [HS.out] at hcw hfw
          have HE : Hid (siftDown ltA hi first i dk = if ltA dk[first + i]! dk[first + c]! = true then siftDown ltA hi first (c) (swp dk (first + i) (first + (c))) else dk) := sift_go (by have := HC.out; omega) (.inl ⟨HC.out, fun _ => by rw [← HC.out, ← HG.out, ← HG.out]; exact HL2.out⟩)
          go_quiet ((go_at_call 42; exact Calls.quiet_of_same (less_w _ _ _)))
          go_wp2
          · have hl0 : (!ltA (G (first + i)) (G (first + c))) = true := by assumption
            have hl : ltA (G (first + i)) (G (first + c)) = false := by simpa using hl0
            (try simp only [Exit.inBlock, Exit.then])
            refine bodyPost_ret (results_none rfl _ _ _) rfl ?_
            exact ⟨rfl, by rw [← HO.out, HE.out, if_neg (by rw [← HG.out, ← HG.out, hl]; decide)]; exact HK3.out.drewN _⟩
          · have hl0 : (!ltA (G (first + i)) (G (first + c))) = false := by assumption
            have hl : ltA (G (first + i)) (G (first + c)) = true := by simpa using hl0
            clear hl0
            have n1 : i ≠ c := by have := HC.out; omega
            have n2 : c ≠ i := Ne.symm n1
            go_region
            all_goals go_wp2
            go_roundw
            case rel => exact ⟨c, swp dk (first + i) (first + c), by go_num, by have := HC.out; omega, by rw [size_swp]; exact HS.out, (HK3.out.drewN nq).swpG HG.out (by have := HS.out; omega) (by have := HS.out; omega), by rw [← HO.out, HE.out, if_pos (by rw [← HG.out, ← HG.out]; exact hl)]; rfl⟩
            case measure => have n3 : i < c := (by (try have := HC1.out); omega); simp [intOf]; omega
      · have hd3 : decide ((c : Int) + 1 < (hi : Int)) = false := decide_eq_false (by omega)
        go_quiet ((go_at_call 42; exact Calls.quiet_of_same (less_w _ _ _)))
        go_wp2
        generalize hW_ : wr.drewN nq = W3
        have HK3 : Hid (Lies w W3 g m dk) := by rw [← hW_]; exact HK.out.drewN _
        clear hW_ hcw hfw HK
        have hcw := HK3.out.cells HG.out
        have hfw := HK3.out.free
        rw [HS.out] at hcw hfw
        have HE : Hid (siftDown ltA hi first i dk = if ltA dk[first + i]! dk[first + c]! = true then siftDown ltA hi first (c) (swp dk (first + i) (first + (c))) else dk) := sift_go (by have := HC.out; omega) (.inl ⟨HC.out, fun hx => absurd hx (by have := HC.out; omega)⟩)
        go_quiet ((go_at_call 42; exact Calls.quiet_of_same (less_w _ _ _)))
        go_wp2
        · have hl0 : (!ltA (G (first + i)) (G (first + c))) = true := by assumption
          have hl : ltA (G (first + i)) (G (first + c)) = false := by simpa using hl0
          (try simp only [Exit.inBlock, Exit.then])
          refine bodyPost_ret (results_none rfl _ _ _) rfl ?_
          exact ⟨rfl, by rw [← HO.out, HE.out, if_neg (by rw [← HG.out, ← HG.out, hl]; decide)]; exact HK3.out.drewN _⟩
        · have hl0 : (!ltA (G (first + i)) (G (first + c))) = false := by assumption
          have hl : ltA (G (first + i)) (G (first + c)) = true := by simpa using hl0
          clear hl0
          have n1 : i ≠ c := by have := HC.out; omega
          have n2 : c ≠ i := Ne.symm n1
          go_region
          all_goals go_wp2
          go_roundw
          case rel => exact ⟨c, swp dk (first + i) (first + c), by go_num, by have := HC.out; omega, by rw [size_swp]; exact HS.out, (HK3.out.drewN nq).swpG HG.out (by have := HS.out; omega) (by have := HS.out; omega), by rw [← HO.out, HE.out, if_pos (by rw [← HG.out, ← HG.out]; exact hl)]; rfl⟩
          case measure => have n3 : i < c := (by (try have := HC1.out); omega); simp [intOf]; omega
theorem sift_n {g m cap lo hi first n : Nat} {d : Array Int} {w0 w : World} (h : Lies w0 w g m d) (hn : d.size = n) (hf : first + hi ≤ n) (hsz : n < 1000000000000) (hlo : lo < 1000000000000) :
    Calls Try.prog 62 #[.slice (some ⟨g, 0, none⟩) n cap, .int .i64 lo, .int .i64 hi, .int .i64 first] w fun e w' => e = .returned (.tuple #[]) ∧ Lies w0 w' g m (siftDown ltA hi first lo d) := by
  subst hn
  exact (sift_w h.here hf hsz hlo).mono fun _ _ ⟨he, hl⟩ => ⟨he, h.trans hl⟩
end Go.Proofs.Ytkhljamellgcfaa
/-
  Heap sort, where it lies.
-/
namespace Go.Proofs.Ytkhljamellgcfaa
open Go.RowKit Go.Sort
set_option linter.unusedVariables false
set_option linter.unusedSimpArgs false
theorem size_sift (hi first : Nat) : ∀ (k root : Nat) (d : Array Int), hi - root ≤ k → (siftDown ltA hi first root d).size = d.size := by
  intro k
  induction k with
  | zero =>
    intro root d h
    rw [sift_end (by omega)]
  | succ k ih =>
    intro root d h
    by_cases hc : 2 * root + 1 ≥ hi
    · rw [sift_end hc]
    · by_cases h2 : 2 * root + 2 < hi ∧ ltA d[first + (2 * root + 1)]! d[first + (2 * root + 1) + 1]! = true
      · rw [sift_go (c := 2 * root + 2) hc (.inr ⟨rfl, h2.1, h2.2⟩)]
        split
        · rw [ih _ _ (by omega), size_swp]
        · rfl
      · rw [sift_go (c := 2 * root + 1) hc (.inl ⟨rfl, fun h3 => by simpa using fun h4 => h2 ⟨h3, h4⟩⟩)]
        split
        · rw [ih _ _ (by omega), size_swp]
        · rfl
set_option maxHeartbeats 16000000 in
set_option maxRecDepth 100000 in
theorem heap_w {g m cap a b : Nat} {d : Array Int} {w : World} (h : Lies w w g m d) (hab : a < b) (hb : b ≤ d.size) (hsz : d.size < 1000000000000) :
    Calls Try.prog 53 #[.slice (some ⟨g, 0, none⟩) d.size cap, .int .i64 a, .int .i64 b] w fun e w' => e = .returned (.tuple #[]) ∧ Lies w w' g m (heapSort ltA d a b) := by
  have HL := Lib.hid h
  clear h
  go_enter Try.func53, Try.ntmps53
  go_wp2
  obtain ⟨z, hz⟩ : ∃ z : Nat, z = b - a := ⟨_, rfl⟩
  rw [show ((b : Int) - (a : Int)) = (z : Int) from by omega]
  have hz1 : 1 ≤ z := by omega
  have hz2 : a + z ≤ d.size := by omega
  have HZ := Lib.hid hz
  clear hz
  go_loopw [9] (fun vi wr => ∃ (k : Nat) (dk : Array Int), vi = .int .i64 ((k : Int) - 1) ∧ k ≤ z ∧ dk.size = d.size ∧ Hid (Lies w wr g m dk) ∧ Hid (heapBuild ltA z a k dk = heapBuild ltA z a ((z - 1) / 2 + 1) d)) (fun vi _ => (intOf vi + 1).toNat)
  case atStart => exact ⟨(z - 1) / 2 + 1, d, by first | rfl | (congr 1; omega), by omega, rfl, HL, rfl⟩
  case round =>
    obtain ⟨k, dk, rfl, hkz, hsk, HK, HO⟩ := hrel
    clear HL
    have HS := Lib.hid hsk
    clear hsk
    cases k with
    | succ k =>
      rw [show (((k + 1 : Nat) : Int) - 1) = (k : Int) from by omega]
      go_wp2_with (go_at_call 62; refine (sift_n HK.out HS.out (by omega) (by omega) (by omega)).mono ?_; rintro e w' ⟨rfl, hl⟩; have HK2 := Lib.hid hl; clear hl)
      go_roundw
      case rel => exact ⟨k, _, rfl, by omega, by rw [size_sift _ _ _ _ _ (Nat.le_refl _)]; exact HS.out, HK2, HO.out⟩
      case measure => simp [intOf]
    | zero =>
      rw [show (((0 : Nat) : Int) - 1) = (-1 : Int) from rfl]
      have hO0 : Hid (dk = heapBuild ltA z a ((z - 1) / 2 + 1) d) := HO.out
      go_wp2
      go_loopw [10] (fun vi wr => ∃ (k : Nat) (dj : Array Int), vi = .int .i64 ((k : Int) - 1) ∧ k ≤ z ∧ dj.size = d.size ∧ Hid (Lies w wr g m dj) ∧ Hid (heapPop ltA a k dj = heapPop ltA a z dk)) (fun vi _ => (intOf vi + 1).toNat)
      case atStart => exact ⟨z, dk, rfl, Nat.le_refl _, HS.out, HK, rfl⟩
      case round =>
        obtain ⟨k, dj, rfl, hkz, hsj, HJ, HP⟩ := hrel
        cases k with
        | succ k =>
          rw [show (((k + 1 : Nat) : Int) - 1) = (k : Int) from by omega]
          obtain ⟨G, hG⟩ : ∃ G : Nat → Int, ∀ t, G t = dj[t]! := ⟨fun t => dj[t]!, fun _ => rfl⟩
          have hcw := HJ.out.cells hG
          have hfw := HJ.out.free
          rw [hsj] at hcw hfw
          have HG := Lib.hid hG
          have HT := Lib.hid hsj
          clear hG hsj
          have xw5 : IntKind.i64.wrap ((a : Int) + (k : Int)) = (a : Int) + (k : Int) := IntWalk.i64_in _ (by omega)
          have xa5 : (0 : Int) ≤ (a : Int) + (k : Int) := by omega
          have xb5 : (a : Int) + (k : Int) < (d.size : Int) := by omega
          have xc5 : ((a : Int) + (k : Int)).toNat = a + k := by omega
          have q1 : a < d.size := by omega
          have q2 : a + k < d.size := by omega
          obtain ⟨v3, hy3⟩ := cell?_setCell_some (w := wr) (p := ⟨g, a, none⟩) (x := .int .u32 (G (a + k))) (q := ⟨g, a + k, none⟩) (hcw (a + k) (by omega))
          go_wp2
          go_region
          all_goals generalize hW_ : ((wr.setCell ⟨g, a, none⟩ (.int .u32 (G (a + k)))).setCell ⟨g, a + k, none⟩ (.int .u32 (G a))).drew = W3
          all_goals have HJ3 := Lib.hid (show Lies w W3 g m (swp dj a (a + k)) by rw [← hW_]; exact HJ.out.swpG HG.out (by have := HT.out; omega) (by have := HT.out; omega))
          all_goals clear hW_ hcw hfw hy3
          all_goals go_wp2_with (go_at_call 62; refine (sift_n (lo := 0) (hi := k) (first := a) (n := d.size) HJ3.out (by rw [size_swp]; exact HT.out) (by omega) (by omega) (by omega)).mono ?_; rintro e w' ⟨rfl, hl⟩; have HK2 := Lib.hid hl; clear hl)
          all_goals go_roundw
          case rel => exact ⟨k, _, rfl, by omega, by rw [size_sift _ _ _ _ _ (Nat.le_refl _), size_swp]; exact HT.out, HK2, HP.out⟩
          case measure => simp [intOf]
        | zero =>
          rw [show (((0 : Nat) : Int) - 1) = (-1 : Int) from rfl]
          go_wp2
          go_end0
          exact ⟨rfl, by unfold heapSort; rw [← HZ.out, ← hO0.out, ← HP.out]; exact HJ.out⟩
end Go.Proofs.Ytkhljamellgcfaa
/-
  A row parted by one that is the least.
-/
namespace Go.Proofs.Ytkhljamellgcfaa
open Go.RowKit Go.Sort
set_option linter.unusedVariables false
set_option linter.unusedSimpArgs false
theorem up_go (p : Int → Bool) (d : Array Int) (j i : Nat) (h : i ≤ j) (hp : p d[i]! = true) : scanUp p d j i = scanUp p d j (i + 1) := by
  rw [scanUp, if_pos (by simp [h, hp])]
theorem up_end (p : Int → Bool) (d : Array Int) (j i : Nat) (h : ¬ i ≤ j ∨ p d[i]! = false) : scanUp p d j i = i := by
  rw [scanUp, if_neg (by rcases h with h | h <;> simp [h])]
theorem down_go (p : Int → Bool) (d : Array Int) (i j : Nat) (h : i ≤ j) (h0 : 0 < j) (hp : p d[j]! = true) : scanDown p d i j = scanDown p d i (j - 1) := by
  obtain ⟨k, rfl⟩ : ∃ k, j = k + 1 := ⟨j - 1, by omega⟩
  rw [scanDown, if_pos (by simp [h, hp])]
  rfl
theorem down_end (p : Int → Bool) (d : Array Int) (i j : Nat) (h : ¬ i ≤ j ∨ p d[j]! = false) : scanDown p d i j = j := by
  cases j with
  | zero => rfl
  | succ k => rw [scanDown, if_neg (by rcases h with h | h <;> simp [h])]
/-- Two scans that stop for contrary reasons do not stop at one place. -/
theorem scans_ne (p : Int → Bool) (a i j : Nat) (d : Array Int) (h0 : 0 < i) {i2 j2 : Nat} (hi2 : i2 = scanUp p d j i) (hj2 : j2 = scanDown (fun x => !p x) d i2 j) (h : i2 ≤ j2) : i2 < j2 := by
  subst hi2; subst hj2
  obtain ⟨u1, _, _, u4⟩ := scanUp_spec p d j _ i rfl
  obtain ⟨v1, _, _, v4⟩ := scanDown_spec (fun x => !p x) d (scanUp p d j i) j
  refine Nat.lt_of_le_of_ne h fun e => ?_
  have f1 := u4 (by omega)
  have f2 := v4 h (by omega)
  rw [← e] at f2
  simp only [f1] at f2
  cases f2
theorem eq_break (a i j : Nat) (dk : Array Int) {i2 j2 : Nat} (hi2 : i2 = scanUp (fun x => !ltA dk[a]! x) dk j i) (hj2 : j2 = scanDown (fun x => ltA dk[a]! x) dk i2 j) (h : j2 < i2) : partEqLoop ltA a i j dk = (i2, dk) := by
  subst hi2; subst hj2
  rw [partEqLoop_eq, if_pos h]
theorem eq_go (a i j : Nat) (dk : Array Int) {i2 j2 : Nat} (hi2 : i2 = scanUp (fun x => !ltA dk[a]! x) dk j i) (hj2 : j2 = scanDown (fun x => ltA dk[a]! x) dk i2 j) (h : ¬ i2 > j2) : partEqLoop ltA a i j dk = partEqLoop ltA a (i2 + 1) (j2 - 1) (swp dk i2 j2) := by
  subst hi2; subst hj2
  rw [partEqLoop_eq, if_neg h]
set_option maxHeartbeats 16000000 in
set_option maxRecDepth 100000 in
theorem parteq_w {g m cap a b pivot : Nat} {d : Array Int} {w : World} (h : Lies w w g m d) (hap : a ≤ pivot) (hpb : pivot < b) (hb : b ≤ d.size) (hsz : d.size < 1000000000000) :
    Calls Try.prog 58 #[.slice (some ⟨g, 0, none⟩) d.size cap, .int .i64 a, .int .i64 b, .int .i64 pivot] w fun e w' => e = .returned (.int .i64 (partitionEqual ltA d a b pivot).1) ∧ Lies w w' g m (partitionEqual ltA d a b pivot).2 := by
  have HL := Lib.hid h
  obtain ⟨G, hG⟩ : ∃ G : Nat → Int, ∀ t, G t = d[t]! := ⟨fun t => d[t]!, fun _ => rfl⟩
  have hcw := h.cells hG
  have hfw := h.free
  have HG := Lib.hid hG
  clear h hG
  have q1 : a < d.size := by omega
  have q2 : pivot < d.size := by omega
  obtain ⟨v3, hy3⟩ := cell?_setCell_some (w := w) (p := ⟨g, a, none⟩) (x := .int .u32 (G pivot)) (q := ⟨g, pivot, none⟩) (hcw pivot q2)
  go_enter Try.func58, Try.ntmps58
  go_wp2
  go_region
  all_goals generalize hW_ : ((w.setCell ⟨g, a, none⟩ (.int .u32 (G pivot))).setCell ⟨g, pivot, none⟩ (.int .u32 (G a))).drew = W0
  all_goals have HK0 := Lib.hid (show Lies w W0 g m (swp d a pivot) by rw [← hW_]; exact HL.out.swpG HG.out q1 q2)
  all_goals clear hW_ hcw hfw hy3 HG HL
  all_goals go_wp2
  go_loopw [9, 10] (fun vi vj wr => ∃ (i j : Nat) (dk : Array Int), vi = .int .i64 i ∧ vj = .int .i64 j ∧ a < i ∧ i ≤ j + 1 ∧ j < b ∧ dk.size = d.size ∧ Hid (Lies w wr g m dk) ∧ Hid (partEqLoop ltA a i j dk = partEqLoop ltA a (a + 1) (b - 1) (swp d a pivot)))
    (fun vi vj _ => (intOf vj).toNat + 1 - (intOf vi).toNat)
  case atStart => exact ⟨a + 1, b - 1, swp d a pivot, by go_num, by congr 1; omega, by omega, by omega, by omega, size_swp _ _ _, HK0, rfl⟩
  case round =>
    obtain ⟨i, j, dk, rfl, rfl, hai, hij, hjb, hs, HKi, HO⟩ := hrel
    clear HK0
    obtain ⟨G, hG⟩ : ∃ G : Nat → Int, ∀ t, G t = dk[t]! := ⟨fun t => dk[t]!, fun _ => rfl⟩
    have HG := Lib.hid hG
    have HS := Lib.hid hs
    clear hG hs
    go_wp2
    go_loopw [9] (fun vi w1 => ∃ i' : Nat, vi = .int .i64 i' ∧ i ≤ i' ∧ i' ≤ j + 1 ∧ Hid (Lies w w1 g m dk) ∧ Hid (scanUp (fun x => !ltA dk[a]! x) dk j i' = scanUp (fun x => !ltA dk[a]! x) dk j i))
      (fun vi _ => j + 1 - (intOf vi).toNat)
    case atStart => exact ⟨i, rfl, Nat.le_refl _, hij, HKi, rfl⟩
    case round =>
      obtain ⟨i', rfl, hii, hij', HK, HSC⟩ := hrel
      clear HKi
      have hcw := HK.out.cells HG.out
      have hfw := HK.out.free
      rw [HS.out] at hcw hfw
      have q4 : a < d.size := by omega
      by_cases hle : i' ≤ j
      · have q5 : i' < d.size := by omega
        go_wp2
        go_quiet ((go_at_call 42; exact Calls.quiet_of_same (less_w _ _ _)))
        go_wp2
        · have ht0 : (!ltA (G a) (G i')) = true := by assumption
          go_roundw
          case rel => exact ⟨i' + 1, by go_num, by omega, by omega, HK.out.drewN _, (up_go (fun x => !ltA dk[a]! x) dk j i' hle (by rw [← HG.out, ← HG.out]; exact ht0)).symm.trans HSC.out⟩
          case measure => simp [intOf]; omega
        · have ht0 : (!ltA (G a) (G i')) = false := by assumption
          have hi2 : i' = scanUp (fun x => !ltA dk[a]! x) dk j i := (up_end (fun x => !ltA dk[a]! x) dk j i' (.inr (by rw [← HG.out, ← HG.out]; exact ht0))).symm.trans HSC.out
          clear ht0
          have HI2 := Lib.hid hi2
          clear hi2
          go_loopw [10] (fun vj w2 => ∃ j' : Nat, vj = .int .i64 j' ∧ j' ≤ j ∧ i' ≤ j' + 1 ∧ Hid (Lies w w2 g m dk) ∧ Hid (scanDown (fun x => ltA dk[a]! x) dk i' j' = scanDown (fun x => ltA dk[a]! x) dk i' j)) (fun vj _ => (intOf vj).toNat)
          case atStart => exact ⟨j, rfl, Nat.le_refl _, hij', HK.out.drewN _, rfl⟩
          case round =>
            obtain ⟨j', rfl, hjj, hij2, HK2, HSD⟩ := hrel
            clear hcw hfw HK
            have hcw := HK2.out.cells HG.out
            have hfw := HK2.out.free
            rw [HS.out] at hcw hfw
            have q3 : j' < d.size := by omega
            have q4 : a < d.size := by omega
            by_cases hle2 : i' ≤ j'
            · have q5 : i' < d.size := by omega
              go_wp2
              go_quiet ((go_at_call 42; exact Calls.quiet_of_same (less_w _ _ _)))
              go_wp2
              · have ht : ltA (G a) (G j') = true := by assumption
                go_roundw
                case rel => exact ⟨j' - 1, by congr 1; omega, by omega, by omega, HK2.out.drewN _, (down_go (fun x => ltA dk[a]! x) dk i' j' hle2 (by omega) (by rw [← HG.out, ← HG.out]; exact ht)).symm.trans HSD.out⟩
                case measure => simp [intOf]; omega
              · have ht : ltA (G a) (G j') = false := by assumption
                have hj2 : j' = scanDown (fun x => ltA dk[a]! x) dk i' j := (down_end (fun x => ltA dk[a]! x) dk i' j' (.inr (by rw [← HG.out, ← HG.out]; exact ht))).symm.trans HSD.out
                have hij3 : i' < j' := scans_ne (fun x => !ltA dk[a]! x) a i j dk (by omega) HI2.out (by simpa only [Bool.not_not] using hj2) hle2
                have HB := Lib.hid (eq_go a i j dk HI2.out hj2 (by omega))
                clear hj2 ht
                generalize hW_ : wr.drewN nq = W3
                have HK3 : Hid (Lies w W3 g m dk) := by rw [← hW_]; exact HK2.out.drewN _
                clear hW_ hcw hfw HK2
                have hcw := HK3.out.cells HG.out
                have hfw := HK3.out.free
                rw [HS.out] at hcw hfw
                have hgt : decide ((j' : Int) < (i' : Int)) = false := decide_eq_false (by omega)
                go_wp2
                go_region
                all_goals go_wp2
                go_roundw
                case rel => exact ⟨i' + 1, j' - 1, swp dk i' j', by go_num, by congr 1; omega, by omega, by omega, by omega, by rw [size_swp]; exact HS.out, HK3.out.swpG HG.out (by have := HS.out; omega) (by have := HS.out; omega), by rw [← HO.out, HB.out]; rfl⟩
                case measure => simp [intOf]; omega
            · have hd2 : decide ((i' : Int) ≤ (j' : Int)) = false := decide_eq_false (by omega)
              have hd3 : decide (i' ≤ j') = false := decide_eq_false hle2
              go_wp2
              go_quiet ((go_at_call 42; exact Calls.quiet_of_same (less_w _ _ _)))
              have hj2 : j' = scanDown (fun x => ltA dk[a]! x) dk i' j := (down_end (fun x => ltA dk[a]! x) dk i' j' (.inl hle2)).symm.trans HSD.out
              have HB := Lib.hid (eq_break a i j dk HI2.out hj2 (by omega))
              clear hj2
              have hgt : decide ((j' : Int) < (i' : Int)) = true := decide_eq_true (by omega)
              go_wp2
              go_ret
              exact ⟨by unfold partitionEqual; rw [← HO.out, HB.out]; rfl, by unfold partitionEqual; rw [← HO.out, HB.out]; exact HK2.out.drewN _⟩
      · have hd2 : decide ((i' : Int) ≤ (j : Int)) = false := decide_eq_false (by omega)
        have hd3 : decide (i' ≤ j) = false := decide_eq_false hle
        go_wp2
        go_quiet ((go_at_call 42; exact Calls.quiet_of_same (less_w _ _ _)))
        go_wp2
        have hi2 : i' = scanUp (fun x => !ltA dk[a]! x) dk j i := (up_end (fun x => !ltA dk[a]! x) dk j i' (.inl hle)).symm.trans HSC.out
        have HI2 := Lib.hid hi2
        clear hi2
        go_loopw [10] (fun vj w2 => ∃ j' : Nat, vj = .int .i64 j' ∧ j' ≤ j ∧ i' ≤ j' + 1 ∧ Hid (Lies w w2 g m dk) ∧ Hid (scanDown (fun x => ltA dk[a]! x) dk i' j' = scanDown (fun x => ltA dk[a]! x) dk i' j)) (fun vj _ => (intOf vj).toNat)
        case atStart => exact ⟨j, rfl, Nat.le_refl _, hij', HK.out.drewN _, rfl⟩
        case round =>
          obtain ⟨j', rfl, hjj, hij2, HK2, HSD⟩ := hrel
          clear hcw hfw HK
          have hcw := HK2.out.cells HG.out
          have hfw := HK2.out.free
          rw [HS.out] at hcw hfw
          have q3 : j' < d.size := by omega
          have q4 : a < d.size := by omega
          by_cases hle2 : i' ≤ j'
          · exfalso; omega
          · have hd2 : decide ((i' : Int) ≤ (j' : Int)) = false := decide_eq_false (by omega)
            have hd3 : decide (i' ≤ j') = false := decide_eq_false hle2
            go_wp2
            go_quiet ((go_at_call 42; exact Calls.quiet_of_same (less_w _ _ _)))
            have hj2 : j' = scanDown (fun x => ltA dk[a]! x) dk i' j := (down_end (fun x => ltA dk[a]! x) dk i' j' (.inl hle2)).symm.trans HSD.out
            have HB := Lib.hid (eq_break a i j dk HI2.out hj2 (by omega))
            clear hj2
            have hgt : decide ((j' : Int) < (i' : Int)) = true := decide_eq_true (by omega)
            go_wp2
            go_ret
            exact ⟨by unfold partitionEqual; rw [← HO.out, HB.out]; rfl, by unfold partitionEqual; rw [← HO.out, HB.out]; exact HK2.out.drewN _⟩
end Go.Proofs.Ytkhljamellgcfaa
