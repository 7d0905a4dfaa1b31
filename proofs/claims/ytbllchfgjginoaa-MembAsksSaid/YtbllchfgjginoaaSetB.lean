/-
  What each piece does for the whole sort.
-/
import Derived.Test.YtbllchfgjginoaaSoB
import Derived.Test.YtbllchfgjginoaaSoE
import Derived.Deep.DeepCutAuto
import Derived.Deep.CutBlock
import Derived.Deep.LoopGhost
import Derived.OrdersHeld
import Derived.WalkKit
import Derived.Below
import Derived.Test.YtbllchfgjginoaaProg
import Derived.Test.YtbllchfgjginoaaVWords
import Derived.Test.YtbllchfgjginoaaVMore
import Derived.RegionTactic
import Derived.RegionIn
import Derived.BigRegion
import Derived.BigRegionIn
import Derived.Lib.Hide
import Derived.RangeFuncBox
import Derived.Maps.AppendAt
namespace Go.Proofs.Ytbllchfgjginoaa
open Go.RowKit Go.Sort
set_option linter.unusedVariables false
set_option linter.unusedSimpArgs false
/-- What is left to sort, [i, j) of e, finishes [a, b) of d. -/
structure St (n a b : Nat) (d : Array Int) (i j : Nat) (e : Array Int) : Prop where
  len : j - i ≤ b - a
  ij : i ≤ j
  jn : j ≤ n
  size : e.size = n
  below : Go.Sort.Below ltA i j e
  fin : ∀ R, PermIn i j e R → SortedIn ltA i j R → PermIn a b d R ∧ SortedIn ltA a b R
variable {n a b i j g m cap p : Nat} {d e : Array Int} {w0 w : World}
theorem swoA : SWO ltA := swo_ltInt
theorem St.perm {e' : Array Int} (h : St n a b d i j e) (hp : PermIn i j e e') : St n a b d i j e' :=
  ⟨h.len, h.ij, h.jn, hp.1.trans h.size, h.below.perm (by rw [h.size]; exact h.jn) hp, fun R h1 h2 => h.fin R (permIn_trans _ _ _ _ _ hp h1) h2⟩
theorem ins_n (h : Lies w0 w g m e) (hs : St n a b d i j e) (hsz : n < 65536) :
    Calls Try.prog 84 #[.slice (some ⟨g, 0, none⟩) n cap, .int .i64 i, .int .i64 j] w fun r w' => r = .returned (.tuple #[]) ∧ ∃ R, (PermIn a b d R ∧ SortedIn ltA a b R) ∧ Lies w0 w' g m R := by
  have hn := hs.size
  subst hn
  refine (insertion_w h.here hs.ij hs.jn (by omega)).mono ?_
  rintro r w' ⟨rfl, hl⟩
  obtain ⟨h1, h2⟩ := insertionSort_holds swoA e i j hs.ij hs.jn
  exact ⟨rfl, _, hs.fin _ h1 h2, h.trans hl⟩
theorem heap_n (h : Lies w0 w g m e) (hs : St n a b d i j e) (hij : i < j) (hsz : n < 65536) :
    Calls Try.prog 85 #[.slice (some ⟨g, 0, none⟩) n cap, .int .i64 i, .int .i64 j] w fun r w' => r = .returned (.tuple #[]) ∧ ∃ R, (PermIn a b d R ∧ SortedIn ltA a b R) ∧ Lies w0 w' g m R := by
  have hn := hs.size
  subst hn
  refine (heap_w h.here hij hs.jn (by omega)).mono ?_
  rintro r w' ⟨rfl, hl⟩
  obtain ⟨h1, h2⟩ := heapSort_holds swoA e i j hs.ij hs.jn
  exact ⟨rfl, _, hs.fin _ h1 h2, h.trans hl⟩
theorem rev_n (h : Lies w0 w g m e) (hs : St n a b d i j e) (hij : i < j) (hsz : n < 65536) :
    Calls Try.prog 88 #[.slice (some ⟨g, 0, none⟩) n cap, .int .i64 i, .int .i64 j] w fun r w' => r = .returned (.tuple #[]) ∧ ∃ R, St n a b d i j R ∧ Lies w0 w' g m R := by
  have hn := hs.size
  subst hn
  refine (reverse_w h.here hij hs.jn (by omega)).mono ?_
  rintro r w' ⟨rfl, hl⟩
  exact ⟨rfl, _, hs.perm (reverseRange_holds e i j hs.ij hs.jn), h.trans hl⟩
theorem brk_n (h : Lies w0 w g m e) (hs : St n a b d i j e) (hsz : n < 65536) :
    Calls Try.prog 86 #[.slice (some ⟨g, 0, none⟩) n cap, .int .i64 i, .int .i64 j] w fun r w' => r = .returned (.tuple #[]) ∧ ∃ R, St n a b d i j R ∧ Lies w0 w' g m R := by
  have hn := hs.size
  subst hn
  refine (break_w h.here hs.ij hs.jn hsz).mono ?_
  rintro r w' ⟨rfl, R, hp, hl⟩
  exact ⟨rfl, _, hs.perm hp, h.trans hl⟩
theorem partial_n (h : Lies w0 w g m e) (hs : St n a b d i j e) (hij : i < j) (hsz : n < 65536) :
    Calls Try.prog 89 #[.slice (some ⟨g, 0, none⟩) n cap, .int .i64 i, .int .i64 j] w fun r w' => ∃ (t : Bool) (R : Array Int), r = .returned (.bool t) ∧ St n a b d i j R ∧ (t = true → PermIn a b d R ∧ SortedIn ltA a b R) ∧ Lies w0 w' g m R := by
  have hn := hs.size
  subst hn
  refine (partial_w h.here hij hs.jn (by omega)).mono ?_
  rintro r w' ⟨rfl, hl⟩
  obtain ⟨h1, h2⟩ := partialInsertionSort_holds swoA e i j hij hs.jn hs.below
  exact ⟨_, _, rfl, hs.perm h1, fun ht => hs.fin _ h1 (h2 ht), h.trans hl⟩
theorem parteq_n (h : Lies w0 w g m e) (hs : St n a b d i j e) (hi : 0 < i) (h1 : i ≤ p) (h2 : p < j) (hl : ltA e[i - 1]! e[p]! = false) (hsz : n < 65536) :
    Calls Try.prog 90 #[.slice (some ⟨g, 0, none⟩) n cap, .int .i64 i, .int .i64 j, .int .i64 p] w fun r w' => ∃ (q : Nat) (R : Array Int), r = .returned (.int .i64 q) ∧ i < q ∧ q ≤ j ∧ St n a b d q j R ∧ Lies w0 w' g m R := by
  have hn := hs.size
  subst hn
  refine (parteq_w h.here h1 h2 hs.jn (by omega)).mono ?_
  rintro r w' ⟨rfl, hw⟩
  obtain ⟨r1, r2, r3, r4, r5⟩ := round_eq swoA (partitionEqual_holds ltA) hi h1 h2 hs.jn hs.below hl (show partitionEqual ltA e i j p = ((partitionEqual ltA e i j p).1, (partitionEqual ltA e i j p).2) from rfl)
  exact ⟨_, _, rfl, r1, r2, ⟨Nat.le_trans (by omega) hs.len, r2, hs.jn, r3, r4, fun R p1 p2 => by obtain ⟨x, y⟩ := r5 R p1 p2; exact hs.fin R x y⟩, h.trans hw⟩
/-- Both sides of the middle. -/
structure Mid (n a b : Nat) (d : Array Int) (i j q : Nat) (e : Array Int) : Prop where
  iq : i ≤ q
  qj : q < j
  size : e.size = n
  bl : Go.Sort.Below ltA i q e
  br : Go.Sort.Below ltA (q + 1) j e
  left : ∀ L, PermIn i q e L → SortedIn ltA i q L → St n a b d (q + 1) j L
  right : ∀ L, PermIn (q + 1) j e L → SortedIn ltA (q + 1) j L → St n a b d i q L
theorem part_n (h : Lies w0 w g m e) (hs : St n a b d i j e) (h1 : i ≤ p) (h2 : p < j) (hsz : n < 65536) :
    Calls Try.prog 91 #[.slice (some ⟨g, 0, none⟩) n cap, .int .i64 i, .int .i64 j, .int .i64 p] w fun r w' => ∃ (q : Nat) (t : Bool) (R : Array Int), r = .returned (.tuple #[.int .i64 q, .bool t]) ∧ Mid n a b d i j q R ∧ Lies w0 w' g m R := by
  have hn := hs.size
  subst hn
  refine (part_w h.here h1 h2 hs.jn (by omega)).mono ?_
  rintro r w' ⟨rfl, hw⟩
  obtain ⟨r1, r2, r3, r4, r5, r6, r7⟩ := round_part swoA (partition_holds ltA) h1 h2 hs.jn hs.below (show partition ltA e i j p = ((partition ltA e i j p).1, (partition ltA e i j p).2.1, (partition ltA e i j p).2.2) from rfl)
  have hlen := hs.len
  have hjn := hs.jn
  exact ⟨_, _, _, rfl, ⟨r1, r2, r3, r4, r5, fun L p1 p2 => ⟨by omega, by omega, hjn, p1.1.trans r3, (r6 L p1 p2).1, fun R x y => by obtain ⟨x', y'⟩ := (r6 L p1 p2).2 R x y; exact hs.fin R x' y'⟩, fun L p1 p2 => ⟨by omega, r1, by omega, p1.1.trans r3, (r7 L p1 p2).1, fun R x y => by obtain ⟨x', y'⟩ := (r7 L p1 p2).2 R x y; exact hs.fin R x' y'⟩⟩, h.trans hw⟩
end Go.Proofs.Ytbllchfgjginoaa
/-
  The sort at addresses, whole.
-/
namespace Go.Proofs.Ytbllchfgjginoaa
open Go.RowKit Go.Sort
set_option linter.unusedVariables false
set_option linter.unusedSimpArgs false
/-- A sorted permutation of [a, b) lies there. -/
def Sorted_ (a b g m : Nat) (d : Array Int) (w : World) (r : Ending) (w' : World) : Prop :=
  r = .returned (.tuple #[]) ∧ ∃ R, (PermIn a b d R ∧ SortedIn ltA a b R) ∧ Lies w w' g m R
theorem st_start {n a b : Nat} {d : Array Int} (hab : a ≤ b) (hb : b ≤ n) (hn : d.size = n) (hB : Go.Sort.Below ltA a b d) : St n a b d a b d :=
  ⟨Nat.le_refl _, hab, hb, hn, hB, fun R h1 h2 => ⟨h1, h2⟩⟩
set_option maxHeartbeats 32000000 in
set_option maxRecDepth 100000 in
theorem pdq_w {g m n cap : Nat} (hsz : n < 65536) (N : Nat) : ∀ (a b : Nat) (lim : Int) (d : Array Int) (w : World), b - a < N → a ≤ b → b ≤ n → d.size = n → Lies w w g m d → Go.Sort.Below ltA a b d →
    Calls Try.prog 77 #[.slice (some ⟨g, 0, none⟩) n cap, .int .i64 a, .int .i64 b, .int .i64 lim] w (Sorted_ a b g m d w) := by
  induction N with
  | zero => intro a b lim d w h; omega
  | succ N ih =>
  intro a b lim d w hN hab hb hn h hB
  have IH := Lib.hid ih
  have HL := Lib.hid h
  have HS := Lib.hid (st_start hab hb hn hB)
  have HN := Lib.hid hN
  clear ih h hB hn hN
  go_enter Try.func77, Try.ntmps77
  go_wp2
  go_loopg [1, 2, 3, 8, 9] (b - a + 1) (fun k va vb vl v8 v9 wr => ∃ (i j : Nat) (l : Int) (wb wp : Bool) (e : Array Int), va = .int .i64 i ∧ vb = .int .i64 j ∧ vl = .int .i64 l ∧ v8 = .bool wb ∧ v9 = .bool wp ∧ Hid (St n a b d i j e ∧ j - i < k) ∧ i ≤ j ∧ j ≤ n ∧ Hid (Lies w wr g m e))
  case atStart => exact ⟨a, b, lim, true, true, d, rfl, rfl, rfl, rfl, rfl, ⟨HS.out, by omega⟩, hab, hb, HL⟩
  case round =>
    obtain ⟨i, j, l, wb, wp, e, rfl, rfl, rfl, rfl, rfl, HE, hij, hjn, HK⟩ := hrel
    have HNZ := Lib.hid (show j - i < N + 1 from by have := HE.out.1.len; have := HN.out; omega)
    clear HL HS HN
    obtain ⟨z, hz⟩ : ∃ z : Nat, z = j - i := ⟨_, rfl⟩
    have hz2 : i + z = j := by omega
    clear hz
    go_upto_region 3 with fail
    rw [show ((j : Int) - (i : Int)) = (z : Int) from by omega]
    by_cases h12 : z ≤ 12
    · have hd12 : decide ((z : Int) ≤ 12) = true := decide_eq_true (by omega)
      go_wp2_with (go_at_call 84; refine (ins_n HK.out HE.out.1 hsz).mono ?_; rintro r w' ⟨rfl, R, hR, hl⟩; have HR := Lib.hid hR; have HLL := Lib.hid hl; clear hR hl)
      go_end0
      exact ⟨rfl, R, HR.out, HLL.out⟩
    have hd12 : decide ((z : Int) ≤ 12) = false := decide_eq_false (by omega)
    have hij2 : i < j := by omega
    go_upto_region 5 with fail
    by_cases hl0 : l = 0
    · have hdl : decide (l = 0) = true := decide_eq_true hl0
      have hbl : (l == 0) = true := by simp [hl0]
      clear hl0
      go_wp2_with (go_at_call 85; refine (heap_n HK.out HE.out.1 hij2 hsz).mono ?_; rintro r w' ⟨rfl, R, hR, hl⟩; have HR := Lib.hid hR; have HLL := Lib.hid hl; clear hR hl)
      go_end0
      exact ⟨rfl, R, HR.out, HLL.out⟩
    have hdl : decide (l = 0) = false := decide_eq_false hl0
    have hbl : (l == 0) = false := by simp [hl0]
    clear hl0
    go_upto_if 35 with fail
    go_cut [3] (fun v3 wc => ∃ (l' : Int) (e' : Array Int), v3 = .int .i64 l' ∧ Hid (St n a b d i j e' ∧ j - i < gk) ∧ Hid (Lies w wc g m e'))
    case first =>
      cases wb with
      | true =>
        go_wp2
        go_meet
        case rel => exact ⟨l, e, rfl, HE, HK⟩
      | false =>
        go_wp2_with (go_at_call 86; refine (brk_n HK.out HE.out.1 hsz).mono ?_; rintro r w' ⟨rfl, R, hR, hl⟩; have HR := Lib.hid hR; have HLL := Lib.hid hl; clear hR hl)
        go_meet
        case rel => exact ⟨_, R, rfl, ⟨HR.out, HE.out.2⟩, HLL⟩
    case rest =>
    clear HE HK hdl hbl
    obtain ⟨l, e, rfl, HE, HK⟩ := hcut
    have hzq : (i : Int) < (j : Int) := by omega
    go_upto_region 11 with (go_at_call 87; refine (choose_w HK.out HE.out.1.size hij2 hjn (by omega)).mono ?_; rintro r w1 ⟨p, hh, hp1, hp2, rfl, hO⟩; have HO := Lib.hid hO; clear hO)
    have HK1 := Lib.hid (HK.out.keep HO.out)
    clear HK HO
    go_upto_if 50 with fail
    go_cut [11, 12] (fun v11 v12 wc => ∃ (p' : Nat) (h' : Int) (e' : Array Int), v11 = .int .i64 p' ∧ v12 = .int .i64 h' ∧ i ≤ p' ∧ p' < j ∧ Hid (St n a b d i j e' ∧ j - i < gk) ∧ Hid (Lies w wc g m e'))
    case first =>
      by_cases h2 : hh = 2
      · have hd2 : decide (hh = 2) = true := decide_eq_true h2
        have hb2 : (hh == 2) = true := by simp [h2]
        clear h2
        obtain ⟨y, hy⟩ : ∃ y : Nat, y = (j - 1) - (p - i) := ⟨_, rfl⟩
        have hy1 : (j : Int) - 1 - ((p : Int) - (i : Int)) = (y : Int) := by omega
        have hy2 : i ≤ y := by omega
        have hy3 : y < j := by omega
        have hy4 : IntKind.i64.wrap ((p : Int) - (i : Int)) = (p : Int) - (i : Int) := IntWalk.i64_in _ (by omega)
        have hy5 : IntKind.i64.wrap ((j : Int) - 1) = (j : Int) - 1 := IntWalk.i64_in _ (by omega)
        have hy6 : IntKind.i64.wrap (y : Int) = (y : Int) := IntWalk.i64_in _ (by omega)
        clear hy
        go_wp2_with (go_at_call 88; refine (rev_n HK1.out HE.out.1 hij2 hsz).mono ?_; rintro r w' ⟨rfl, R, hR, hl⟩; have HR := Lib.hid hR; have HLL := Lib.hid hl; clear hR hl)
        go_meet
        case rel => exact ⟨y, _, R, by first | rfl | (congr 1; done) | (congr 1; omega), rfl, hy2, hy3, ⟨HR.out, HE.out.2⟩, HLL⟩
      · have hd2 : decide (hh = 2) = false := decide_eq_false h2
        have hb2 : (hh == 2) = false := by simp [h2]
        clear h2
        go_wp2
        go_meet
        case rel => exact ⟨p, hh, e, rfl, rfl, hp1, hp2, HE, HK1⟩
    case rest =>
    clear HE HK1 hp1 hp2
    obtain ⟨p, hh, e, rfl, rfl, hp1, hp2, HE, HK⟩ := hcut
    go_upto_region 15 with fail
    go_cut [68] (fun v68 wc => ∃ t : Bool, v68 = .bool t ∧ Hid (Lies w wc g m e))
    case first =>
      by_cases h1 : hh = 1
      · have hd1 : decide (hh = 1) = true := decide_eq_true h1
        have hb1 : (hh == 1) = true := by simp [h1]
        clear h1
        cases wb <;> cases wp <;> go_wp2
        all_goals go_meet
        case rel => exact ⟨_, rfl, HK⟩
        case rel => exact ⟨_, rfl, HK⟩
        case rel => exact ⟨_, rfl, HK⟩
        case rel => exact ⟨_, rfl, HK⟩
      · have hd1 : decide (hh = 1) = false := decide_eq_false h1
        have hb1 : (hh == 1) = false := by simp [h1]
        clear h1
        cases wb <;> cases wp <;> go_wp2
        all_goals go_meet
        case rel => exact ⟨_, rfl, HK⟩
        case rel => exact ⟨_, rfl, HK⟩
        case rel => exact ⟨_, rfl, HK⟩
        case rel => exact ⟨_, rfl, HK⟩
    case rest =>
    clear HK
    obtain ⟨t, rfl, HK⟩ := hcut
    go_upto_if 68 with fail
    go_cut [] (fun wc => ∃ (e' : Array Int), Hid (St n a b d i j e' ∧ j - i < gk) ∧ Hid (Lies w wc g m e'))
    case first =>
      cases t with
      | false =>
        go_wp2
        go_meet
        case rel => exact ⟨e, HE, HK⟩
      | true =>
        go_upto_if 72 with (go_at_call 89; refine (partial_n HK.out HE.out.1 hij2 hsz).mono ?_; rintro r w' ⟨t, R, rfl, hR, hF, hl⟩; have HR := Lib.hid hR; have HLL := Lib.hid hl; have HF := Lib.hid hF; clear hR hl hF)
        cases t with
        | true =>
          go_wp2
          go_end0
          exact ⟨rfl, R, HF.out trivial, HLL.out⟩
        | false =>
          go_wp2
          go_meet
          case rel => exact ⟨R, ⟨HR.out, HE.out.2⟩, HLL⟩
    case rest =>
    clear HE HK
    obtain ⟨e, HE, HK⟩ := hcut
    obtain ⟨G, hG⟩ : ∃ G : Nat → Int, ∀ t, G t = e[t]! := ⟨fun t => e[t]!, fun _ => rfl⟩
    have HG := Lib.hid hG
    have hcw := HK.out.cells hG
    rw [HE.out.1.size] at hcw
    clear hG
    go_upto_region 17 with fail
    go_cut [87] (fun v87 wc => ∃ t : Bool, v87 = .bool t ∧ Hid (t = true → 0 < i ∧ ltA e[i - 1]! e[p]! = false) ∧ Hid (Lies w wc g m e))
    case first =>
      by_cases hi0 : 0 < i
      · have hdi : decide ((0 : Int) < (i : Int)) = true := decide_eq_true (by omega)
        have q1 : i - 1 < n := by omega
        have q2 : p < n := by omega
        have q3 : (0 : Int) ≤ (i : Int) - 1 := by omega
        have q4 : (i : Int) - 1 < (n : Int) := by omega
        have q5 : ((i : Int) - 1).toNat = i - 1 := by omega
        have q6 : IntKind.i64.wrap ((i : Int) - 1) = (i : Int) - 1 := IntWalk.i64_in _ (by omega)
        have q7 : (p : Int) < (n : Int) := by omega
        go_quiet ((go_at_call 81; exact Calls.quiet_of_same (less_w _ _ _)))
        go_wp2
        go_meet
        case rel => exact ⟨_, rfl, fun ht => ⟨hi0, by rw [← HG.out, ← HG.out]; simpa using ht⟩, HK.out.drewN _⟩
      · have hdi : decide ((0 : Int) < (i : Int)) = false := decide_eq_false (by omega)
        go_quiet ((go_at_call 81; exact Calls.quiet_of_same (less_w _ _ _)))
        go_wp2
        go_meet
        case rel => exact ⟨false, rfl, fun ht => (by cases ht), HK.out.drewN _⟩
    case rest =>
    clear HK hcw HG
    obtain ⟨t, rfl, HT, HK⟩ := hcut
    cases t with
    | true =>
      have hi0 : 0 < i := (HT.out rfl).1
      go_wp2_with (go_at_call 90; refine (parteq_n HK.out HE.out.1 hi0 hp1 hp2 (HT.out rfl).2 hsz).mono ?_; rintro r w' ⟨q, R, rfl, hq1, hq2, hR, hl⟩; have HR := Lib.hid hR; have HLL := Lib.hid hl; clear hR hl)
      go_roundg (j - q + 1)
      case measure => have := HE.out.2; omega
      case rel => exact ⟨q, j, l, wb, wp, R, rfl, rfl, rfl, rfl, rfl, ⟨HR.out, by omega⟩, hq2, hjn, HLL⟩
    | false =>
      go_upto_region 22 with (go_at_call 91; refine (part_n HK.out HE.out.1 hp1 hp2 hsz).mono ?_; rintro r w' ⟨q, t, R, rfl, hM, hl⟩; have HM := Lib.hid hM; have HLL := Lib.hid hl; clear hM hl)
      have hq1 : i ≤ q := HM.out.iq
      have hq2 : q < j := HM.out.qj
      obtain ⟨x, hx⟩ : ∃ x : Nat, x = q - i := ⟨_, rfl⟩
      obtain ⟨y, hy⟩ : ∃ y : Nat, y = j - q := ⟨_, rfl⟩
      obtain ⟨r, hr⟩ : ∃ r : Nat, r = z / 8 := ⟨_, rfl⟩
      have hx1 : (q : Int) - (i : Int) = (x : Int) := by omega
      have hy1 : (j : Int) - (q : Int) = (y : Int) := by omega
      have hr1 : (z : Int) / 8 = (r : Int) := by omega
      have hx2 : i + x = q := by omega
      have hy2 : q + y = j := by omega
      clear hx hy hr
      have hw1 : IntKind.i64.wrap (x : Int) = (x : Int) := IntWalk.i64_in _ (by omega)
      have hw2 : IntKind.i64.wrap (y : Int) = (y : Int) := IntWalk.i64_in _ (by omega)
      by_cases hxy : x < y
      · have hdx : decide ((x : Int) < (y : Int)) = true := decide_eq_true (by omega)
        go_wp2_with (go_at_call 77; refine (IH.out i q l R _ (by have := HNZ.out; omega) hq1 (by omega) HM.out.size HLL.out.here HM.out.bl).mono ?_; rintro r w' ⟨rfl, L, hL, hl⟩; have HLf := Lib.hid hL; have HL2 := Lib.hid hl; clear hL hl)
        go_roundg (j - (q + 1) + 1)
        case measure => have := HE.out.2; omega
        case rel => exact ⟨q + 1, j, l, _, _, L, by go_num, rfl, rfl, rfl, rfl, ⟨HM.out.left L HLf.out.1 HLf.out.2, by omega⟩, by omega, hjn, HLL.out.trans HL2.out⟩
      · have hdx : decide ((x : Int) < (y : Int)) = false := decide_eq_false (by omega)
        go_wp2_with (go_at_call 77; refine (IH.out (q + 1) j l R _ (by have := HNZ.out; omega) (by omega) hjn HM.out.size HLL.out.here HM.out.br).mono ?_; rintro r w' ⟨rfl, L, hL, hl⟩; have HLf := Lib.hid hL; have HL2 := Lib.hid hl; clear hL hl)
        go_roundg (q - i + 1)
        case measure => have := HE.out.2; omega
        case rel => exact ⟨i, q, l, _, _, L, rfl, rfl, rfl, rfl, rfl, ⟨HM.out.right L HLf.out.1 HLf.out.2, by omega⟩, hq1, by omega, HLL.out.trans HL2.out⟩
end Go.Proofs.Ytbllchfgjginoaa
/-
  A region that draws its order: what only reads is walked in the order of the text, in every world that meets S; what writes comes behind it in one forced order.
-/
namespace Go.Proofs.Ytbllchfgjginoaa
open Go.RowKit

/-- The reading part: each operation yields one value in every world that meets S. -/
def wpHeld (P : Program) (ops : Array Oper) (S : World → Prop) (Q : Act → Prop) : List Oper → Act → Prop
  | [], a => Q a
  | o :: rest, a => (Region.wanted o (yielded ops a.tmps) = true ∧ ∃ v, (∀ w, S w → (execOp a.eval o).run P w = .ok (.value v) w) ∧ wpHeld P ops S Q rest (a.put o.dst v)) ∨
      (Region.wanted o (yielded ops a.tmps) = false ∧ wpHeld P ops S Q rest (a.put o.dst undef))

/-- The part that writes. -/
def wpTail (P : Program) (ops : Array Oper) (S : World → Prop) (Q : Exit → Act → World → Prop) : List Oper → Act → World → Prop
  | [], a, w => Q .normal a w
  | o :: rest, a, w => o.wp P a w (fun a' w' => S w' ∧ wpTail P ops S Q rest a' w') Q

def marks : Nat → Nat → Array Bool → Array Bool
  | 0, _, l => l
  | n + 1, k, l => marks n (k + 1) (l.setIfInBounds k true)
def lexPre (md : Region.Mode) (ops : Array Oper) : Nat → Nat → Array Bool → Bool
  | 0, _, _ => true
  | n + 1, k, l => (Region.ready md ops l).contains k && Region.free md ops l k && lexPre md ops n (k + 1) (l.setIfInBounds k true)
def tailB (md : Region.Mode) (ops : Array Oper) : Nat → Nat → Array Bool → Bool
  | 0, _, l => Region.ready md ops l == []
  | n + 1, k, l => Region.ready md ops l == [k] && ((ops[k]?).map (·.guard.isNone)).getD false && tailB md ops n (k + 1) (l.setIfInBounds k true)

variable {P : Program} {ops : Array Oper} {Q : Exit → Act → World → Prop} {md : Region.Mode} {S : World → Prop}

theorem wpAnyH_tail : ∀ (l : List Oper) (k : Nat) (listed : Array Bool) (a : Act) (w : World), (∀ j, j < l.length → l[j]? = ops[k + j]?) → tailB md ops l.length k listed = true →
    wpTail P ops S Q l a w → wpAnyH P md ops Q S l.length listed a w
  | [], _, _, _, _, _, hB, h => ⟨by simpa [tailB] using hB, h⟩
  | o :: l, k, listed, a, w, hl, hB, h => by
    have h0 : ops[k]? = some o := by simpa using (hl 0 (by simp)).symm
    simp only [List.length_cons, tailB, Bool.and_eq_true, h0, Option.map_some, Option.getD_some, beq_iff_eq] at hB
    obtain ⟨⟨hr, hg⟩, hB'⟩ := hB
    refine wpAnyH_all hr (by simp) (fun i hi => ?_)
    obtain rfl : i = k := by simpa using hi
    unfold wpOp
    simp only [h0]
    have hg' : o.guard = none := by simpa using hg
    rw [if_pos (by simp [Region.wanted, hg'])]
    refine .inl (Oper.wp_mono (fun a' w' h' => ⟨h'.1, ?_⟩) h)
    exact wpAnyH_tail l (i + 1) _ a' w' (fun j hj => by have := hl (j + 1) (by simp; omega); simpa [Nat.add_assoc, Nat.add_comm 1 j] using this) hB' h'.2

theorem wpAnyH_pre (hs : Region.noSelect ops = true) (hQ : ∀ c a d v w, Q (.panic c) (Act.put a d v) w → Q (.panic c) a w) {fuel : Nat} {w : World} (hS : S w) :
    ∀ (l : List Oper) (k : Nat) (listed : Array Bool) (a : Act), (∀ j, j < l.length → l[j]? = ops[k + j]?) → lexPre md ops l.length k listed = true →
    wpHeld P ops S (fun a' => wpAnyH P md ops Q S fuel (marks l.length k listed) a' w) l a → wpAnyH P md ops Q S (fuel + l.length) listed a w
  | [], _, _, _, _, _, h => h
  | o :: l, k, listed, a, hl, hB, h => by
    have h0 : ops[k]? = some o := by simpa using (hl 0 (by simp)).symm
    simp only [List.length_cons, lexPre, Bool.and_eq_true] at hB
    obtain ⟨⟨hr, hf⟩, hB'⟩ := hB
    have hl' : ∀ j, j < l.length → l[j]? = ops[k + 1 + j]? := fun j hj => by have := hl (j + 1) (by simp; omega); simpa [Nat.add_assoc, Nat.add_comm 1 j] using this
    rcases h with ⟨hw, v, hv, h⟩ | ⟨hw, h⟩
    · exact wpAnyH_take h0 hs hf hr (fun c a w => hQ c a _ _ w) (.inl ⟨hw, hv⟩) hS (wpAnyH_pre hs hQ hS l (k + 1) _ _ hl' hB' h)
    · exact wpAnyH_take h0 hs hf hr (fun c a w => hQ c a _ _ w) (.inr ⟨hw, rfl⟩) hS (wpAnyH_pre hs hQ hS l (k + 1) _ _ hl' hB' h)

theorem wpHeld_mono {Q1 Q2 : Act → Prop} (hQ : ∀ a, Q1 a → Q2 a) : ∀ {l : List Oper} {a : Act}, wpHeld P ops S Q1 l a → wpHeld P ops S Q2 l a
  | [], _, h => hQ _ h
  | _ :: _, _, .inl ⟨hw, v, hv, h⟩ => .inl ⟨hw, v, hv, wpHeld_mono hQ h⟩
  | _ :: _, _, .inr ⟨hw, h⟩ => .inr ⟨hw, wpHeld_mono hQ h⟩

/-- The whole region. n: how many operations only read. -/
def regB (ops : Array Oper) (n : Nat) : Bool :=
  Region.noSelect ops && lexPre .any ops n 0 (Array.replicate ops.size false) && tailB .any ops (ops.size - n) n (marks n 0 (Array.replicate ops.size false))

theorem wp_reg {id : Nat} {a : Act} {w : World} {l : List Oper} (n : Nat) (S : World → Prop) (hm : P.follows .mixedOrders = true) (hB : regB l.toArray n = true) (hn : n ≤ l.length)
    (hQ : ∀ c a d v w, Q (.panic c) (Act.put a d v) w → Q (.panic c) a w) (hS : S w.drew)
    (h : wpHeld P l.toArray S (fun a' => wpTail P l.toArray S Q (l.drop n) a' w.drew) (l.take n) a) : (Code.region id l.toArray true).wp P Q a w := by
  simp only [regB, Bool.and_eq_true] at hB
  obtain ⟨⟨hs, hp⟩, ht⟩ := hB
  refine wp_region_held (S := S) hm ?_
  have hlen : (l.take n).length = n := by simp; omega
  have hd : (l.drop n).length = l.toArray.size - n := by simp
  have e : l.toArray.size = (l.drop n).length + (l.take n).length := by simp; omega
  generalize Array.replicate l.toArray.size false = z at *
  rw [e]
  refine wpAnyH_pre hs hQ hS (l.take n) 0 z a (fun j hj => ?_) ?_ ?_
  · rw [hlen] at hj
    simp [hj]
  · rw [hlen]; exact hp
  · rw [hlen]
    refine wpHeld_mono (fun a' h' => ?_) h
    refine wpAnyH_tail (l.drop n) n _ a' _ (fun j hj => ?_) ?_ h'
    · simp
    · rw [hd]; exact ht

theorem wpHeld_goK {Q : Act → Prop} {o : Oper} {rest : List Oper} {a : Act} {v : Value} (hw : Region.wanted o (yielded ops a.tmps) = true) (hv : ∀ w, S w → (execOp a.eval o).run P w = .ok (.value v) w)
    (h : ∀ K : Act → Prop, (∀ a', wpHeld P ops S Q rest a' → K a') → K (a.put o.dst v)) : wpHeld P ops S Q (o :: rest) a := .inl ⟨hw, v, hv, h _ fun _ h => h⟩
theorem wpHeld_skipK {Q : Act → Prop} {o : Oper} {rest : List Oper} {a : Act} (hw : Region.wanted o (yielded ops a.tmps) = false)
    (h : ∀ K : Act → Prop, (∀ a', wpHeld P ops S Q rest a' → K a') → K (a.put o.dst undef)) : wpHeld P ops S Q (o :: rest) a := .inr ⟨hw, h _ fun _ h => h⟩
theorem wpHeld_nil {Q : Act → Prop} {a : Act} (h : Q a) : wpHeld P ops S Q [] a := h
theorem wpTail_step {o : Oper} {rest : List Oper} {a : Act} {w : World} (h : ∀ K : Act → World → Prop, (∀ a' w', S w' → wpTail P ops S Q rest a' w' → K a' w') → o.wp P a w K Q) : wpTail P ops S Q (o :: rest) a w :=
  h _ fun _ _ h1 h2 => ⟨h1, h2⟩
theorem wpTail_nil {a : Act} {w : World} (h : Q .normal a w) : wpTail P ops S Q [] a w := h
end Go.Proofs.Ytbllchfgjginoaa
/-
  Package set: two sets at once.
-/
namespace Go.Proofs.Ytbllchfgjginoaa
open Go.RowKit Go.Shelf Go.Proofs.YtbllchfgjginoaaW.PrintWords
attribute [local go_sem] Oper.semAt_some

theorem readsInt_of_block {w w' : World} {k : IntKind} {A : Option Addr} {n : Nat} {xs : List Int} (h : ReadsInt w k A n xs) (hb : ∀ ad, A = some ad → 0 < n → w'.heap[ad.block]? = w.heap[ad.block]?) : ReadsInt w' k A n xs :=
  ⟨h.1, h.2.1, fun hn => by
    obtain ⟨ad, e, hc⟩ := h.2.2 hn
    refine ⟨ad, e, fun j hj => ?_⟩
    rw [World.cell?_of_block (w := w) (by rw [show (ad.add j).block = ad.block from by unfold Addr.add; split <;> rfl]; exact hb ad e hn)]
    exact hc j hj⟩

/-- What is in two sets, rising, and which has it. -/
def bothOf : List Int → List Int → List (Int × Bool × Bool)
  | [], [] => []
  | x :: a, [] => (x, true, false) :: bothOf a []
  | [], y :: b => (y, false, true) :: bothOf [] b
  | x :: a, y :: b =>
    if x < y then (x, true, false) :: bothOf a (y :: b)
    else if y < x then (y, false, true) :: bothOf (x :: a) b
    else (x, true, true) :: bothOf a b
termination_by a b => a.length + b.length

/-- One row's state: its box, where it lies, what is left of it. -/
def SideOf (w : World) (dat : Nat → Prop) (Bx : Nat) (l : List Int) : Prop :=
  ∃ A c, Boxed w Bx 29 (.slice A l.length c) ∧ l.length ≤ c ∧ ReadsInt w .u32 A l.length l ∧ ∀ ad, A = some ad → 0 < l.length → dat ad.block

theorem SideOf.keep {w w' : World} {dat : Nat → Prop} {Bx : Nat} {l : List Int} (h : SideOf w dat Bx l) (hb : w'.heap[Bx]? = w.heap[Bx]?) (hd : ∀ k, dat k → w'.heap[k]? = w.heap[k]?) : SideOf w' dat Bx l := by
  obtain ⟨A, c, h1, h2, h3, h4⟩ := h
  exact ⟨A, c, hb.trans h1, h2, readsInt_of_block h3 (fun ad e hp => hd _ (h4 ad e hp)), h4⟩

theorem SideOf.tail {w w' : World} {dat : Nat → Prop} {Bx : Nat} {x : Int} {l : List Int} {ad : Addr} {c : Nat} (h3 : ReadsInt w .u32 (some ad) (l.length + 1) (x :: l)) (h2 : l.length + 1 ≤ c) (h4 : dat ad.block)
    (hb : Boxed w' Bx 29 (.slice (if c = 1 then some ad else some { block := ad.block, off := ad.off + 1 }) l.length (c - 1))) (hd : ∀ k, dat k → w'.heap[k]? = w.heap[k]?) : SideOf w' dat Bx l := by
  refine ⟨_, _, hb, by omega, ⟨rfl, by have := h3.2.1; omega, fun hp => ?_⟩, fun a e hp => ?_⟩
  · rw [if_neg (by omega)]
    refine ⟨_, rfl, fun j hj => ?_⟩
    obtain ⟨ad', e, hc⟩ := h3.2.2 (by omega)
    cases e
    have := hc (j + 1) (by omega)
    rw [List.getD_cons_succ] at this
    rw [← this, World.cell?_of_block (w := w) (by rw [show (Addr.add { block := ad.block, off := ad.off + 1 } j).block = ad.block from by unfold Addr.add; split <;> rfl]; exact hd _ h4)]
    congr 1
    unfold Addr.add
    simp only [Nat.add_eq_zero_iff, Nat.succ_ne_self, and_false, if_false]
    split
    · rename_i h; subst h; simp
    · simp only [Addr.mk.injEq, true_and, and_true]; omega
  · rw [if_neg (by omega)] at e
    cases e
    exact h4

theorem cell_of_block {w : World} {b i : Nat} {cs : Array Value} {t : TypeId} {fr : Nat × Nat} (h : w.heap[b]? = some (.cells cs t fr)) : w.cell? ⟨b, i, none⟩ = cs[i]? := by
  simp [World.cell?, h]

set_option maxRecDepth 100000 in
set_option maxHeartbeats 8000000 in
theorem both_iter (Ba Bb : Nat) (la lb : List Int) (hla : la.length ≤ 140737488351232) (hlb : lb.length ≤ 140737488351232) (hne : Ba ≠ Bb) (dat : Nat → Prop) (hd1 : ¬ dat Ba) (hd2 : ¬ dat Bb)
    (w : World) (hdw : ∀ k, dat k → k < w.heap.size) (h1 : SideOf w dat Ba la) (h2 : SideOf w dat Bb lb) :
    Iter Try.prog 83 #[.pointer (some ⟨Ba, 0, none⟩), .pointer (some ⟨Bb, 0, none⟩)] (fun x : Int × Bool × Bool => #[.int .u32 x.1, .agg #[.bool x.2.1, .bool x.2.2]]) (bothOf la lb) (fun k => k = Ba ∨ k = Bb ∨ dat k) (fun k => k = Ba ∨ k = Bb) w := by
  refine ⟨?_, ?_⟩
  · obtain ⟨A, c, h, _⟩ := h1
    obtain ⟨A', c', h', _⟩ := h2
    rintro k (rfl | rfl | h3)
    · exact h.lt
    · exact h'.lt
    · exact hdw k h3
  intro l J φ W hW hex hst hdis hround h0
  have h1' : SideOf W dat Ba la := h1.keep (hW.block _ (by obtain ⟨A, c, h, _⟩ := h1; exact h.lt) (fun h => h (.inl rfl))) (fun k hk => hW.block _ (hdw k hk) (fun h => h (.inr (.inr hk))))
  have h2' : SideOf W dat Bb lb := h2.keep (hW.block _ (by obtain ⟨A, c, h, _⟩ := h2; exact h.lt) (fun h => h (.inr (.inl rfl)))) (fun k hk => hW.block _ (hdw k hk) (fun h => h (.inr (.inr hk))))
  have h1lt : Ba < W.heap.size := by obtain ⟨A, c, hb, _⟩ := h1'; exact hb.lt
  have h2lt : Bb < W.heap.size := by obtain ⟨A, c, hb, _⟩ := h2'; exact hb.lt
  have hdW : ∀ k, dat k → k < W.heap.size := fun k hk => Nat.lt_of_lt_of_le (hdw k hk) hW.size
  clear h1 h2 hW hdw
  refine callsIn_of_wp Try.func83 rfl trivial ?_ rfl
  simp only [Try.ntmps83, List.size_toArray, List.length_cons, List.length_nil, Nat.reduceAdd, Nat.reduceSub, Array.replicate_succ, Array.replicate_zero, List.push_toArray, List.append_toArray, List.nil_append, List.cons_append]
  gi_wp2
  gi_loopw [] (fun wr => ∃ (pre : List (Int × Bool × Bool)) (ra rb : List Int) (ψ : Nat → Prop), bothOf la lb = pre ++ bothOf ra rb ∧ ra.length ≤ la.length ∧ rb.length ≤ lb.length ∧ J pre ψ wr ∧ (∀ k, ψ k → φ k ∨ W.heap.size ≤ k) ∧
      SideOf wr dat Ba ra ∧ SideOf wr dat Bb rb ∧ Off (fun k => φ k ∨ k = Ba ∨ k = Bb) W wr)
    (fun wr => match wr.cell? ⟨Ba, 0, none⟩, wr.cell? ⟨Bb, 0, none⟩ with | some (.slice _ n _), some (.slice _ m _) => n + m | _, _ => 0)
  case atStart => exact ⟨[], la, lb, φ, rfl, Nat.le_refl _, Nat.le_refl _, h0, fun _ => .inl, h1', h2', Off.refl _ _⟩
  case round =>
    obtain ⟨pre, ra, rb, ψ, hpre, hra, hrb, hJ, hψ, ⟨A, ca, b1, n1, r1, q1⟩, ⟨B, cb, b2, n2, r2, q2⟩, hO⟩ := hrel
    have c1 := b1.cell
    have c2 := b2.cell
    clear h1' h2'
    have v1 : ¬ ψ Ba := fun h => by rcases hψ _ h with h | h; exact hdis _ h (.inl rfl); omega
    have v2 : ¬ ψ Bb := fun h => by rcases hψ _ h with h | h; exact hdis _ h (.inr (.inl rfl)); omega
    have v3 : ∀ k, dat k → ¬ ψ k := fun k hk h => by rcases hψ _ h with h | h; exact hdis _ h (.inr (.inr hk)); have := hdW k hk; omega
    have zr := hO.size
    have fin : ∀ (W2 W4 : World) (ψ' : Nat → Prop), Off (fun k => k = Ba ∨ k = Bb) wr W2 → Off ψ W2 W4 → (∀ k, ψ' k → ψ k ∨ W2.heap.size ≤ k) →
        (∀ k, dat k → W4.heap[k]? = wr.heap[k]?) ∧ (∀ k, ψ' k → φ k ∨ W.heap.size ≤ k) ∧ Off (fun k => φ k ∨ k = Ba ∨ k = Bb) W W4 := by
      intro W2 W4 ψ' o1 o2 h3
      have z2 := o1.size
      refine ⟨fun k hk => ?_, fun k hk => ?_, ?_⟩
      · have := hdW k hk
        exact (o2.block k (by omega) (v3 k hk)).trans (o1.block k (by omega) (fun h => by rcases h with rfl | rfl; exact hd1 hk; exact hd2 hk))
      · rcases h3 k hk with h | h
        · exact hψ k h
        · exact .inr (by omega)
      · refine (hO.then_ o1 (fun i hi h => .inr h)).then_ o2 (fun i hi h => ?_)
        rcases hψ i h with h | h
        · exact .inl h
        · omega
    cases ra with
    | nil =>
      cases rb with
      | nil =>
        gi_wp2
        go_end0
        exact ⟨⟨_, rfl⟩, ψ, hψ, by rw [hpre, bothOf]; simpa using hJ, hO⟩
      | cons y rb =>
        obtain ⟨bd, rfl, hc2⟩ := r2.2.2 (by simp)
        have a1 := hc2 0 (by simp)
        simp [Addr.add] at a1
        have g2 : (((rb.length : Int) + 1) == 0) = false := by simp; omega
        clear hc2
        have m2 := q2 bd rfl (by simp)
        simp only [List.length_cons, List.length_nil] at hra hrb n1 n2 r1 r2 b1 b2 c1 c2
        gi_wp2
        rw [wpIn_wide]
        have HC : ∀ w', Below wr.heap.size wr w' → w'.cell? ⟨Ba, 0, none⟩ = some (.slice A 0 ca) ∧ w'.cell? ⟨Bb, 0, none⟩ = some (.slice (some bd) (rb.length + 1) cb) := fun w' h => ⟨pw_cell_below h c1, pw_cell_below h c2⟩
        refine wp_reg 35 (fun w' => Below wr.heap.size wr w') (by kernel_rfl) (by kernel_rfl) (by decide) (fun _ _ d _ _ h => by cases d <;> exact h) (Below.refl _ _).drew ?_
        simp only [List.take_succ_cons, List.take_zero, List.drop_succ_cons, List.drop_zero]
        repeat (first | (apply wpHeld_goK rfl; (focus (intro w' hw'; go_simp; try rfl)); intro K hK; go_simp; refine hK _ ?_; clear hK K) | (refine wpHeld_skipK rfl (fun K hK => ?_); go_simp; refine hK _ ?_; clear hK K))
        refine wpHeld_nil ?_
        refine wpTail_step (fun K hK => ?_)
        go_simp
        refine hK _ _ ?_ ?_
        · exact ((Below.refl _ _).alloc (Nat.le_refl _) _).drew
        clear hK K
        refine wpTail_step (fun K hK => ?_)
        go_simp
        refine hK _ _ ?_ ?_
        · exact ((Below.refl _ _).alloc (Nat.le_refl _) _).drew
        clear hK K
        refine wpTail_nil ?_
        clear HC
        obtain ⟨W1, hW1⟩ : ∃ W1, (wr.alloc (.cells #[.bool false, .bool true] 100)).drew = W1 := ⟨_, rfl⟩
        have O1 : ∀ χ, Off χ wr W1 := fun χ => by rw [← hW1]; exact ((Off.refl χ wr).alloc _).drew
        have z1 : W1.heap.size = wr.heap.size + 1 := by rw [← hW1]; simp
        have hb1 : W1.heap[wr.heap.size]? = some (.cells #[.bool false, .bool true] 100 (0, 0)) := by rw [← hW1]; exact World.alloc_heap_new wr _
        have t1 : W1.cell? ⟨wr.heap.size, 0, none⟩ = some (.bool false) := cell_of_block hb1
        have t2 : W1.cell? ⟨wr.heap.size, 1, none⟩ = some (.bool true) := cell_of_block hb1
        have d1 : Boxed W1 Ba 29 (.slice A 0 ca) := ((O1 (fun _ => False)).block _ b1.lt id).trans b1
        have d2 : Boxed W1 Bb 29 (.slice (some bd) (rb.length + 1) cb) := ((O1 (fun _ => False)).block _ b2.lt id).trans b2
        have k1 := d1.cell
        have k2 := d1.frozen
        have k3 := d2.cell
        have k4 := d2.frozen
        have k6 := ((O1 (fun _ => False)).cell (World.block_lt_of_cell? wr _ a1) id).trans a1
        rw [hW1]
        clear hW1 c1 c2
        gi_wp2
        rw [wpIn_wide]
        go_region
        obtain ⟨Bbd, hBbd⟩ : ∃ A_ : Option Addr, (if cb = 1 then some bd else some { block := bd.block, off := bd.off + 1 }) = A_ := ⟨_, rfl⟩
        rw [hBbd]
        have HBbd := Lib.hid hBbd
        clear hBbd
        obtain ⟨W3, hW3⟩ : ∃ W_, (W1.setCell ⟨Bb, 0, none⟩ (.slice Bbd rb.length (cb - 1))).drew = W_ := ⟨_, rfl⟩
        have d2' : Boxed W3 Bb 29 (.slice Bbd rb.length (cb - 1)) := by rw [← hW3]; exact Boxed.set _ d2
        have OW3 : Off (fun k => k = Bb) W1 W3 := by rw [← hW3]; exact ((Off.refl (fun k => k = Bb) W1).setCell (p := ⟨Bb, 0, none⟩) (fun _ => rfl) _).drew
        have zW3 : W3.heap.size = wr.heap.size + 1 := by rw [← hW3]; simpa [World.setCell] using z1
        have d1' : Boxed W3 Ba 29 (.slice A 0 ca) := (OW3.block _ (Boxed.lt d1) (fun h => hne h)).trans d1
        have hbW3 : W3.heap[wr.heap.size]? = some (.cells #[.bool false, .bool true] 100 (0, 0)) := (OW3.block _ (by omega) (fun h => by have := b1.lt; have := b2.lt; omega)).trans hb1
        rw [hW3]
        clear hW3 d1 d2 t1 t2 k1 k2 k3 k4
        clear k6
        have d1 := d1'
        have d2 := d2'
        clear d1' d2'
        have t1 : W3.cell? ⟨wr.heap.size, 0, none⟩ = some (.bool false) := cell_of_block hbW3
        have t2 : W3.cell? ⟨wr.heap.size, 1, none⟩ = some (.bool true) := cell_of_block hbW3
        have k1 := Boxed.cell d1
        have k2 := Boxed.frozen d1
        have k3 := Boxed.cell d2
        have k4 := Boxed.frozen d2
        have O3 : Off (fun k => k = Ba ∨ k = Bb) wr W3 := (O1 (fun k => k = Ba ∨ k = Bb)).then_ OW3 (fun _ _ h => .inr h)
        have hJ2 : J pre ψ W3 := hst _ _ _ _ hJ (O3.mono (fun k _ e h => by rcases e with rfl | rfl; exact v1 h; exact v2 h))
        obtain ⟨fn, tmps, assign, body, hy, hR⟩ := hround pre (y, false, true) ψ W3 hJ2 (by rw [hpre, bothOf]; simp)
        dsimp only at hy
        gi_wp2
        refine ⟨rfl, ?_⟩
        refine hR.mono ?_
        rintro e W4 ⟨rfl, ψ', hψ', hJ3, hO3⟩
        obtain ⟨f1, f2, f3⟩ := fin W3 W4 ψ' O3 hO3 hψ'
        have p1 : Boxed W4 Ba 29 (.slice A 0 ca) := (hO3.block _ (Boxed.lt d1) v1).trans d1
        have p2 : Boxed W4 Bb 29 (.slice Bbd rb.length (cb - 1)) := (hO3.block _ (Boxed.lt d2) v2).trans d2
        gi_wp2
        go_roundw
        case rel =>
          refine ⟨pre ++ [(y, false, true)], [], rb, ψ', by rw [hpre, bothOf]; simp, by first | omega | (simp; omega), by first | omega | (simp; omega), hJ3, f2, ?_, ?_, f3⟩
          · exact SideOf.keep ⟨_, _, b1, n1, r1, q1⟩ (p1.trans b1.symm) f1
          · exact SideOf.tail r2 n2 m2 (by rw [HBbd.out]; exact p2) f1
        case measure =>
          rw [p1.cell, p2.cell, b1.cell, b2.cell]
          simp only []
          omega
    | cons x ra =>
      cases rb with
      | nil =>
        obtain ⟨ad, rfl, hc1⟩ := r1.2.2 (by simp)
        have a0 := hc1 0 (by simp)
        simp [Addr.add] at a0
        have g1 : (((ra.length : Int) + 1) == 0) = false := by simp; omega
        clear hc1
        have m1 := q1 ad rfl (by simp)
        simp only [List.length_cons, List.length_nil] at hra hrb n1 n2 r1 r2 b1 b2 c1 c2
        gi_wp2
        rw [wpIn_wide]
        have HC : ∀ w', Below wr.heap.size wr w' → w'.cell? ⟨Ba, 0, none⟩ = some (.slice (some ad) (ra.length + 1) ca) ∧ w'.cell? ⟨Bb, 0, none⟩ = some (.slice B 0 cb) := fun w' h => ⟨pw_cell_below h c1, pw_cell_below h c2⟩
        refine wp_reg 35 (fun w' => Below wr.heap.size wr w') (by kernel_rfl) (by kernel_rfl) (by decide) (fun _ _ d _ _ h => by cases d <;> exact h) (Below.refl _ _).drew ?_
        simp only [List.take_succ_cons, List.take_zero, List.drop_succ_cons, List.drop_zero]
        repeat (first | (apply wpHeld_goK rfl; (focus (intro w' hw'; go_simp; try rfl)); intro K hK; go_simp; refine hK _ ?_; clear hK K) | (refine wpHeld_skipK rfl (fun K hK => ?_); go_simp; refine hK _ ?_; clear hK K))
        refine wpHeld_nil ?_
        refine wpTail_step (fun K hK => ?_)
        go_simp
        refine hK _ _ ?_ ?_
        · exact ((Below.refl _ _).alloc (Nat.le_refl _) _).drew
        clear hK K
        refine wpTail_step (fun K hK => ?_)
        go_simp
        refine hK _ _ ?_ ?_
        · exact ((Below.refl _ _).alloc (Nat.le_refl _) _).drew
        clear hK K
        refine wpTail_nil ?_
        clear HC
        obtain ⟨W1, hW1⟩ : ∃ W1, (wr.alloc (.cells #[.bool true, .bool false] 100)).drew = W1 := ⟨_, rfl⟩
        have O1 : ∀ χ, Off χ wr W1 := fun χ => by rw [← hW1]; exact ((Off.refl χ wr).alloc _).drew
        have z1 : W1.heap.size = wr.heap.size + 1 := by rw [← hW1]; simp
        have hb1 : W1.heap[wr.heap.size]? = some (.cells #[.bool true, .bool false] 100 (0, 0)) := by rw [← hW1]; exact World.alloc_heap_new wr _
        have t1 : W1.cell? ⟨wr.heap.size, 0, none⟩ = some (.bool true) := cell_of_block hb1
        have t2 : W1.cell? ⟨wr.heap.size, 1, none⟩ = some (.bool false) := cell_of_block hb1
        have d1 : Boxed W1 Ba 29 (.slice (some ad) (ra.length + 1) ca) := ((O1 (fun _ => False)).block _ b1.lt id).trans b1
        have d2 : Boxed W1 Bb 29 (.slice B 0 cb) := ((O1 (fun _ => False)).block _ b2.lt id).trans b2
        have k1 := d1.cell
        have k2 := d1.frozen
        have k3 := d2.cell
        have k4 := d2.frozen
        have k5 := ((O1 (fun _ => False)).cell (World.block_lt_of_cell? wr _ a0) id).trans a0
        rw [hW1]
        clear hW1 c1 c2
        gi_wp2
        rw [wpIn_wide]
        go_region
        obtain ⟨Aa, hAa⟩ : ∃ A_ : Option Addr, (if ca = 1 then some ad else some { block := ad.block, off := ad.off + 1 }) = A_ := ⟨_, rfl⟩
        rw [hAa]
        have HAa := Lib.hid hAa
        clear hAa
        obtain ⟨W2, hW2⟩ : ∃ W_, (W1.setCell ⟨Ba, 0, none⟩ (.slice Aa ra.length (ca - 1))).drew = W_ := ⟨_, rfl⟩
        have d1' : Boxed W2 Ba 29 (.slice Aa ra.length (ca - 1)) := by rw [← hW2]; exact Boxed.set _ d1
        have OW2 : Off (fun k => k = Ba) W1 W2 := by rw [← hW2]; exact ((Off.refl (fun k => k = Ba) W1).setCell (p := ⟨Ba, 0, none⟩) (fun _ => rfl) _).drew
        have zW2 : W2.heap.size = wr.heap.size + 1 := by rw [← hW2]; simpa [World.setCell] using z1
        have d2' : Boxed W2 Bb 29 (.slice B 0 cb) := (OW2.block _ (Boxed.lt d2) (fun h => hne h.symm)).trans d2
        have hbW2 : W2.heap[wr.heap.size]? = some (.cells #[.bool true, .bool false] 100 (0, 0)) := (OW2.block _ (by omega) (fun h => by have := b1.lt; have := b2.lt; omega)).trans hb1
        rw [hW2]
        clear hW2 d1 d2 t1 t2 k1 k2 k3 k4
        clear k5
        have d1 := d1'
        have d2 := d2'
        clear d1' d2'
        have t1 : W2.cell? ⟨wr.heap.size, 0, none⟩ = some (.bool true) := cell_of_block hbW2
        have t2 : W2.cell? ⟨wr.heap.size, 1, none⟩ = some (.bool false) := cell_of_block hbW2
        have k1 := Boxed.cell d1
        have k2 := Boxed.frozen d1
        have k3 := Boxed.cell d2
        have k4 := Boxed.frozen d2
        have O3 : Off (fun k => k = Ba ∨ k = Bb) wr W2 := (O1 (fun k => k = Ba ∨ k = Bb)).then_ OW2 (fun _ _ h => .inl h)
        have hJ2 : J pre ψ W2 := hst _ _ _ _ hJ (O3.mono (fun k _ e h => by rcases e with rfl | rfl; exact v1 h; exact v2 h))
        obtain ⟨fn, tmps, assign, body, hy, hR⟩ := hround pre (x, true, false) ψ W2 hJ2 (by rw [hpre, bothOf]; simp)
        dsimp only at hy
        gi_wp2
        refine ⟨rfl, ?_⟩
        refine hR.mono ?_
        rintro e W4 ⟨rfl, ψ', hψ', hJ3, hO3⟩
        obtain ⟨f1, f2, f3⟩ := fin W2 W4 ψ' O3 hO3 hψ'
        have p1 : Boxed W4 Ba 29 (.slice Aa ra.length (ca - 1)) := (hO3.block _ (Boxed.lt d1) v1).trans d1
        have p2 : Boxed W4 Bb 29 (.slice B 0 cb) := (hO3.block _ (Boxed.lt d2) v2).trans d2
        gi_wp2
        go_roundw
        case rel =>
          refine ⟨pre ++ [(x, true, false)], ra, [], ψ', by rw [hpre, bothOf]; simp, by first | omega | (simp; omega), by first | omega | (simp; omega), hJ3, f2, ?_, ?_, f3⟩
          · exact SideOf.tail r1 n1 m1 (by rw [HAa.out]; exact p1) f1
          · exact SideOf.keep ⟨_, _, b2, n2, r2, q2⟩ (p2.trans b2.symm) f1
        case measure =>
          rw [p1.cell, p2.cell, b1.cell, b2.cell]
          simp only []
          omega
      | cons y rb =>
        by_cases hxy : x < y
        · have e1 : decide (x ≤ y) = true := by simp; omega
          have e2 : decide (y ≤ x) = false := by simp; omega
          obtain ⟨ad, rfl, hc1⟩ := r1.2.2 (by simp)
          have a0 := hc1 0 (by simp)
          simp [Addr.add] at a0
          have g1 : (((ra.length : Int) + 1) == 0) = false := by simp; omega
          clear hc1
          have m1 := q1 ad rfl (by simp)
          obtain ⟨bd, rfl, hc2⟩ := r2.2.2 (by simp)
          have a1 := hc2 0 (by simp)
          simp [Addr.add] at a1
          have g2 : (((rb.length : Int) + 1) == 0) = false := by simp; omega
          clear hc2
          have m2 := q2 bd rfl (by simp)
          simp only [List.length_cons] at hra hrb n1 n2 r1 r2 b1 b2 c1 c2
          gi_wp2
          rw [wpIn_wide]
          have HC : ∀ w', Below wr.heap.size wr w' → w'.cell? ⟨Ba, 0, none⟩ = some (.slice (some ad) (ra.length + 1) ca) ∧ w'.cell? ⟨Bb, 0, none⟩ = some (.slice (some bd) (rb.length + 1) cb) ∧ w'.cell? ad = some (.int .u32 x) ∧ w'.cell? bd = some (.int .u32 y) := fun w' h => ⟨pw_cell_below h c1, pw_cell_below h c2, pw_cell_below h a0, pw_cell_below h a1⟩
          refine wp_reg 35 (fun w' => Below wr.heap.size wr w') (by kernel_rfl) (by kernel_rfl) (by decide) (fun _ _ d _ _ h => by cases d <;> exact h) (Below.refl _ _).drew ?_
          simp only [List.take_succ_cons, List.take_zero, List.drop_succ_cons, List.drop_zero]
          repeat (first | (apply wpHeld_goK rfl; (focus (intro w' hw'; go_simp; try rfl)); intro K hK; go_simp; refine hK _ ?_; clear hK K) | (refine wpHeld_skipK rfl (fun K hK => ?_); go_simp; refine hK _ ?_; clear hK K))
          refine wpHeld_nil ?_
          refine wpTail_step (fun K hK => ?_)
          go_simp
          refine hK _ _ ?_ ?_
          · exact ((Below.refl _ _).alloc (Nat.le_refl _) _).drew
          clear hK K
          refine wpTail_step (fun K hK => ?_)
          go_simp
          refine hK _ _ ?_ ?_
          · exact ((Below.refl _ _).alloc (Nat.le_refl _) _).drew
          clear hK K
          refine wpTail_nil ?_
          clear HC
          obtain ⟨W1, hW1⟩ : ∃ W1, (wr.alloc (.cells #[.bool true, .bool false] 100)).drew = W1 := ⟨_, rfl⟩
          have O1 : ∀ χ, Off χ wr W1 := fun χ => by rw [← hW1]; exact ((Off.refl χ wr).alloc _).drew
          have z1 : W1.heap.size = wr.heap.size + 1 := by rw [← hW1]; simp
          have hb1 : W1.heap[wr.heap.size]? = some (.cells #[.bool true, .bool false] 100 (0, 0)) := by rw [← hW1]; exact World.alloc_heap_new wr _
          have t1 : W1.cell? ⟨wr.heap.size, 0, none⟩ = some (.bool true) := cell_of_block hb1
          have t2 : W1.cell? ⟨wr.heap.size, 1, none⟩ = some (.bool false) := cell_of_block hb1
          have d1 : Boxed W1 Ba 29 (.slice (some ad) (ra.length + 1) ca) := ((O1 (fun _ => False)).block _ b1.lt id).trans b1
          have d2 : Boxed W1 Bb 29 (.slice (some bd) (rb.length + 1) cb) := ((O1 (fun _ => False)).block _ b2.lt id).trans b2
          have k1 := d1.cell
          have k2 := d1.frozen
          have k3 := d2.cell
          have k4 := d2.frozen
          have k5 := ((O1 (fun _ => False)).cell (World.block_lt_of_cell? wr _ a0) id).trans a0
          have k6 := ((O1 (fun _ => False)).cell (World.block_lt_of_cell? wr _ a1) id).trans a1
          rw [hW1]
          clear hW1 c1 c2
          gi_wp2
          rw [wpIn_wide]
          go_region
          obtain ⟨Aa, hAa⟩ : ∃ A_ : Option Addr, (if ca = 1 then some ad else some { block := ad.block, off := ad.off + 1 }) = A_ := ⟨_, rfl⟩
          rw [hAa]
          have HAa := Lib.hid hAa
          clear hAa
          obtain ⟨W2, hW2⟩ : ∃ W_, (W1.setCell ⟨Ba, 0, none⟩ (.slice Aa ra.length (ca - 1))).drew = W_ := ⟨_, rfl⟩
          have d1' : Boxed W2 Ba 29 (.slice Aa ra.length (ca - 1)) := by rw [← hW2]; exact Boxed.set _ d1
          have OW2 : Off (fun k => k = Ba) W1 W2 := by rw [← hW2]; exact ((Off.refl (fun k => k = Ba) W1).setCell (p := ⟨Ba, 0, none⟩) (fun _ => rfl) _).drew
          have zW2 : W2.heap.size = wr.heap.size + 1 := by rw [← hW2]; simpa [World.setCell] using z1
          have d2' : Boxed W2 Bb 29 (.slice (some bd) (rb.length + 1) cb) := (OW2.block _ (Boxed.lt d2) (fun h => hne h.symm)).trans d2
          have hbW2 : W2.heap[wr.heap.size]? = some (.cells #[.bool true, .bool false] 100 (0, 0)) := (OW2.block _ (by omega) (fun h => by have := b1.lt; have := b2.lt; omega)).trans hb1
          rw [hW2]
          clear hW2 d1 d2 t1 t2 k1 k2 k3 k4
          clear k5
          have d1 := d1'
          have d2 := d2'
          clear d1' d2'
          have t1 : W2.cell? ⟨wr.heap.size, 0, none⟩ = some (.bool true) := cell_of_block hbW2
          have t2 : W2.cell? ⟨wr.heap.size, 1, none⟩ = some (.bool false) := cell_of_block hbW2
          have k1 := Boxed.cell d1
          have k2 := Boxed.frozen d1
          have k3 := Boxed.cell d2
          have k4 := Boxed.frozen d2
          clear k6
          have O3 : Off (fun k => k = Ba ∨ k = Bb) wr W2 := (O1 (fun k => k = Ba ∨ k = Bb)).then_ OW2 (fun _ _ h => .inl h)
          have hJ2 : J pre ψ W2 := hst _ _ _ _ hJ (O3.mono (fun k _ e h => by rcases e with rfl | rfl; exact v1 h; exact v2 h))
          obtain ⟨fn, tmps, assign, body, hy, hR⟩ := hround pre (x, true, false) ψ W2 hJ2 (by rw [hpre, bothOf, if_pos (by omega)]; simp)
          dsimp only at hy
          gi_wp2
          refine ⟨rfl, ?_⟩
          refine hR.mono ?_
          rintro e W4 ⟨rfl, ψ', hψ', hJ3, hO3⟩
          obtain ⟨f1, f2, f3⟩ := fin W2 W4 ψ' O3 hO3 hψ'
          have p1 : Boxed W4 Ba 29 (.slice Aa ra.length (ca - 1)) := (hO3.block _ (Boxed.lt d1) v1).trans d1
          have p2 : Boxed W4 Bb 29 (.slice (some bd) (rb.length + 1) cb) := (hO3.block _ (Boxed.lt d2) v2).trans d2
          gi_wp2
          go_roundw
          case rel =>
            refine ⟨pre ++ [(x, true, false)], ra, (y :: rb), ψ', by rw [hpre, bothOf, if_pos (by omega)]; simp, by first | omega | (simp; omega), by first | omega | (simp; omega), hJ3, f2, ?_, ?_, f3⟩
            · exact SideOf.tail r1 n1 m1 (by rw [HAa.out]; exact p1) f1
            · exact SideOf.keep ⟨_, _, b2, n2, r2, q2⟩ (p2.trans b2.symm) f1
          case measure =>
            rw [p1.cell, p2.cell, b1.cell, b2.cell]
            simp only []
            omega
        · by_cases hyx : y < x
          · have e1 : decide (x ≤ y) = false := by simp; omega
            have e2 : decide (y ≤ x) = true := by simp; omega
            obtain ⟨ad, rfl, hc1⟩ := r1.2.2 (by simp)
            have a0 := hc1 0 (by simp)
            simp [Addr.add] at a0
            have g1 : (((ra.length : Int) + 1) == 0) = false := by simp; omega
            clear hc1
            have m1 := q1 ad rfl (by simp)
            obtain ⟨bd, rfl, hc2⟩ := r2.2.2 (by simp)
            have a1 := hc2 0 (by simp)
            simp [Addr.add] at a1
            have g2 : (((rb.length : Int) + 1) == 0) = false := by simp; omega
            clear hc2
            have m2 := q2 bd rfl (by simp)
            simp only [List.length_cons] at hra hrb n1 n2 r1 r2 b1 b2 c1 c2
            gi_wp2
            rw [wpIn_wide]
            have HC : ∀ w', Below wr.heap.size wr w' → w'.cell? ⟨Ba, 0, none⟩ = some (.slice (some ad) (ra.length + 1) ca) ∧ w'.cell? ⟨Bb, 0, none⟩ = some (.slice (some bd) (rb.length + 1) cb) ∧ w'.cell? ad = some (.int .u32 x) ∧ w'.cell? bd = some (.int .u32 y) := fun w' h => ⟨pw_cell_below h c1, pw_cell_below h c2, pw_cell_below h a0, pw_cell_below h a1⟩
            refine wp_reg 35 (fun w' => Below wr.heap.size wr w') (by kernel_rfl) (by kernel_rfl) (by decide) (fun _ _ d _ _ h => by cases d <;> exact h) (Below.refl _ _).drew ?_
            simp only [List.take_succ_cons, List.take_zero, List.drop_succ_cons, List.drop_zero]
            repeat (first | (apply wpHeld_goK rfl; (focus (intro w' hw'; go_simp; try rfl)); intro K hK; go_simp; refine hK _ ?_; clear hK K) | (refine wpHeld_skipK rfl (fun K hK => ?_); go_simp; refine hK _ ?_; clear hK K))
            refine wpHeld_nil ?_
            refine wpTail_step (fun K hK => ?_)
            go_simp
            refine hK _ _ ?_ ?_
            · exact ((Below.refl _ _).alloc (Nat.le_refl _) _).drew
            clear hK K
            refine wpTail_step (fun K hK => ?_)
            go_simp
            refine hK _ _ ?_ ?_
            · exact ((Below.refl _ _).alloc (Nat.le_refl _) _).drew
            clear hK K
            refine wpTail_nil ?_
            clear HC
            obtain ⟨W1, hW1⟩ : ∃ W1, (wr.alloc (.cells #[.bool false, .bool true] 100)).drew = W1 := ⟨_, rfl⟩
            have O1 : ∀ χ, Off χ wr W1 := fun χ => by rw [← hW1]; exact ((Off.refl χ wr).alloc _).drew
            have z1 : W1.heap.size = wr.heap.size + 1 := by rw [← hW1]; simp
            have hb1 : W1.heap[wr.heap.size]? = some (.cells #[.bool false, .bool true] 100 (0, 0)) := by rw [← hW1]; exact World.alloc_heap_new wr _
            have t1 : W1.cell? ⟨wr.heap.size, 0, none⟩ = some (.bool false) := cell_of_block hb1
            have t2 : W1.cell? ⟨wr.heap.size, 1, none⟩ = some (.bool true) := cell_of_block hb1
            have d1 : Boxed W1 Ba 29 (.slice (some ad) (ra.length + 1) ca) := ((O1 (fun _ => False)).block _ b1.lt id).trans b1
            have d2 : Boxed W1 Bb 29 (.slice (some bd) (rb.length + 1) cb) := ((O1 (fun _ => False)).block _ b2.lt id).trans b2
            have k1 := d1.cell
            have k2 := d1.frozen
            have k3 := d2.cell
            have k4 := d2.frozen
            have k5 := ((O1 (fun _ => False)).cell (World.block_lt_of_cell? wr _ a0) id).trans a0
            have k6 := ((O1 (fun _ => False)).cell (World.block_lt_of_cell? wr _ a1) id).trans a1
            rw [hW1]
            clear hW1 c1 c2
            gi_wp2
            rw [wpIn_wide]
            go_region
            obtain ⟨Bbd, hBbd⟩ : ∃ A_ : Option Addr, (if cb = 1 then some bd else some { block := bd.block, off := bd.off + 1 }) = A_ := ⟨_, rfl⟩
            rw [hBbd]
            have HBbd := Lib.hid hBbd
            clear hBbd
            obtain ⟨W3, hW3⟩ : ∃ W_, (W1.setCell ⟨Bb, 0, none⟩ (.slice Bbd rb.length (cb - 1))).drew = W_ := ⟨_, rfl⟩
            have d2' : Boxed W3 Bb 29 (.slice Bbd rb.length (cb - 1)) := by rw [← hW3]; exact Boxed.set _ d2
            have OW3 : Off (fun k => k = Bb) W1 W3 := by rw [← hW3]; exact ((Off.refl (fun k => k = Bb) W1).setCell (p := ⟨Bb, 0, none⟩) (fun _ => rfl) _).drew
            have zW3 : W3.heap.size = wr.heap.size + 1 := by rw [← hW3]; simpa [World.setCell] using z1
            have d1' : Boxed W3 Ba 29 (.slice (some ad) (ra.length + 1) ca) := (OW3.block _ (Boxed.lt d1) (fun h => hne h)).trans d1
            have hbW3 : W3.heap[wr.heap.size]? = some (.cells #[.bool false, .bool true] 100 (0, 0)) := (OW3.block _ (by omega) (fun h => by have := b1.lt; have := b2.lt; omega)).trans hb1
            rw [hW3]
            clear hW3 d1 d2 t1 t2 k1 k2 k3 k4
            clear k5
            clear k6
            have d1 := d1'
            have d2 := d2'
            clear d1' d2'
            have t1 : W3.cell? ⟨wr.heap.size, 0, none⟩ = some (.bool false) := cell_of_block hbW3
            have t2 : W3.cell? ⟨wr.heap.size, 1, none⟩ = some (.bool true) := cell_of_block hbW3
            have k1 := Boxed.cell d1
            have k2 := Boxed.frozen d1
            have k3 := Boxed.cell d2
            have k4 := Boxed.frozen d2
            have O3 : Off (fun k => k = Ba ∨ k = Bb) wr W3 := (O1 (fun k => k = Ba ∨ k = Bb)).then_ OW3 (fun _ _ h => .inr h)
            have hJ2 : J pre ψ W3 := hst _ _ _ _ hJ (O3.mono (fun k _ e h => by rcases e with rfl | rfl; exact v1 h; exact v2 h))
            obtain ⟨fn, tmps, assign, body, hy, hR⟩ := hround pre (y, false, true) ψ W3 hJ2 (by rw [hpre, bothOf, if_neg (by omega), if_pos (by omega)]; simp)
            dsimp only at hy
            gi_wp2
            refine ⟨rfl, ?_⟩
            refine hR.mono ?_
            rintro e W4 ⟨rfl, ψ', hψ', hJ3, hO3⟩
            obtain ⟨f1, f2, f3⟩ := fin W3 W4 ψ' O3 hO3 hψ'
            have p1 : Boxed W4 Ba 29 (.slice (some ad) (ra.length + 1) ca) := (hO3.block _ (Boxed.lt d1) v1).trans d1
            have p2 : Boxed W4 Bb 29 (.slice Bbd rb.length (cb - 1)) := (hO3.block _ (Boxed.lt d2) v2).trans d2
            gi_wp2
            go_roundw
            case rel =>
              refine ⟨pre ++ [(y, false, true)], (x :: ra), rb, ψ', by rw [hpre, bothOf, if_neg (by omega), if_pos (by omega)]; simp, by first | omega | (simp; omega), by first | omega | (simp; omega), hJ3, f2, ?_, ?_, f3⟩
              · exact SideOf.keep ⟨_, _, b1, n1, r1, q1⟩ (p1.trans b1.symm) f1
              · exact SideOf.tail r2 n2 m2 (by rw [HBbd.out]; exact p2) f1
            case measure =>
              rw [p1.cell, p2.cell, b1.cell, b2.cell]
              simp only []
              omega
          · obtain rfl : x = y := by omega
            have e1 : decide (x ≤ x) = true := by simp
            obtain ⟨ad, rfl, hc1⟩ := r1.2.2 (by simp)
            have a0 := hc1 0 (by simp)
            simp [Addr.add] at a0
            have g1 : (((ra.length : Int) + 1) == 0) = false := by simp; omega
            clear hc1
            have m1 := q1 ad rfl (by simp)
            obtain ⟨bd, rfl, hc2⟩ := r2.2.2 (by simp)
            have a1 := hc2 0 (by simp)
            simp [Addr.add] at a1
            have g2 : (((rb.length : Int) + 1) == 0) = false := by simp; omega
            clear hc2
            have m2 := q2 bd rfl (by simp)
            simp only [List.length_cons] at hra hrb n1 n2 r1 r2 b1 b2 c1 c2
            gi_wp2
            rw [wpIn_wide]
            have HC : ∀ w', Below wr.heap.size wr w' → w'.cell? ⟨Ba, 0, none⟩ = some (.slice (some ad) (ra.length + 1) ca) ∧ w'.cell? ⟨Bb, 0, none⟩ = some (.slice (some bd) (rb.length + 1) cb) ∧ w'.cell? ad = some (.int .u32 x) ∧ w'.cell? bd = some (.int .u32 x) := fun w' h => ⟨pw_cell_below h c1, pw_cell_below h c2, pw_cell_below h a0, pw_cell_below h a1⟩
            refine wp_reg 35 (fun w' => Below wr.heap.size wr w') (by kernel_rfl) (by kernel_rfl) (by decide) (fun _ _ d _ _ h => by cases d <;> exact h) (Below.refl _ _).drew ?_
            simp only [List.take_succ_cons, List.take_zero, List.drop_succ_cons, List.drop_zero]
            repeat (first | (apply wpHeld_goK rfl; (focus (intro w' hw'; go_simp; try rfl)); intro K hK; go_simp; refine hK _ ?_; clear hK K) | (refine wpHeld_skipK rfl (fun K hK => ?_); go_simp; refine hK _ ?_; clear hK K))
            refine wpHeld_nil ?_
            refine wpTail_step (fun K hK => ?_)
            go_simp
            refine hK _ _ ?_ ?_
            · exact ((Below.refl _ _).alloc (Nat.le_refl _) _).drew
            clear hK K
            refine wpTail_step (fun K hK => ?_)
            go_simp
            refine hK _ _ ?_ ?_
            · exact ((Below.refl _ _).alloc (Nat.le_refl _) _).drew
            clear hK K
            refine wpTail_nil ?_
            clear HC
            obtain ⟨W1, hW1⟩ : ∃ W1, (wr.alloc (.cells #[.bool true, .bool true] 100)).drew = W1 := ⟨_, rfl⟩
            have O1 : ∀ χ, Off χ wr W1 := fun χ => by rw [← hW1]; exact ((Off.refl χ wr).alloc _).drew
            have z1 : W1.heap.size = wr.heap.size + 1 := by rw [← hW1]; simp
            have hb1 : W1.heap[wr.heap.size]? = some (.cells #[.bool true, .bool true] 100 (0, 0)) := by rw [← hW1]; exact World.alloc_heap_new wr _
            have t1 : W1.cell? ⟨wr.heap.size, 0, none⟩ = some (.bool true) := cell_of_block hb1
            have t2 : W1.cell? ⟨wr.heap.size, 1, none⟩ = some (.bool true) := cell_of_block hb1
            have d1 : Boxed W1 Ba 29 (.slice (some ad) (ra.length + 1) ca) := ((O1 (fun _ => False)).block _ b1.lt id).trans b1
            have d2 : Boxed W1 Bb 29 (.slice (some bd) (rb.length + 1) cb) := ((O1 (fun _ => False)).block _ b2.lt id).trans b2
            have k1 := d1.cell
            have k2 := d1.frozen
            have k3 := d2.cell
            have k4 := d2.frozen
            have k5 := ((O1 (fun _ => False)).cell (World.block_lt_of_cell? wr _ a0) id).trans a0
            have k6 := ((O1 (fun _ => False)).cell (World.block_lt_of_cell? wr _ a1) id).trans a1
            rw [hW1]
            clear hW1 c1 c2
            gi_wp2
            rw [wpIn_wide]
            go_region
            obtain ⟨Aa, hAa⟩ : ∃ A_ : Option Addr, (if ca = 1 then some ad else some { block := ad.block, off := ad.off + 1 }) = A_ := ⟨_, rfl⟩
            rw [hAa]
            have HAa := Lib.hid hAa
            clear hAa
            obtain ⟨W2, hW2⟩ : ∃ W_, (W1.setCell ⟨Ba, 0, none⟩ (.slice Aa ra.length (ca - 1))).drew = W_ := ⟨_, rfl⟩
            have d1' : Boxed W2 Ba 29 (.slice Aa ra.length (ca - 1)) := by rw [← hW2]; exact Boxed.set _ d1
            have OW2 : Off (fun k => k = Ba) W1 W2 := by rw [← hW2]; exact ((Off.refl (fun k => k = Ba) W1).setCell (p := ⟨Ba, 0, none⟩) (fun _ => rfl) _).drew
            have zW2 : W2.heap.size = wr.heap.size + 1 := by rw [← hW2]; simpa [World.setCell] using z1
            have d2' : Boxed W2 Bb 29 (.slice (some bd) (rb.length + 1) cb) := (OW2.block _ (Boxed.lt d2) (fun h => hne h.symm)).trans d2
            have hbW2 : W2.heap[wr.heap.size]? = some (.cells #[.bool true, .bool true] 100 (0, 0)) := (OW2.block _ (by omega) (fun h => by have := b1.lt; have := b2.lt; omega)).trans hb1
            rw [hW2]
            clear hW2 d1 d2 t1 t2 k1 k2 k3 k4
            have d1 := d1'
            have d2 := d2'
            clear d1' d2'
            have t1 : W2.cell? ⟨wr.heap.size, 0, none⟩ = some (.bool true) := cell_of_block hbW2
            have t2 : W2.cell? ⟨wr.heap.size, 1, none⟩ = some (.bool true) := cell_of_block hbW2
            have k1 := Boxed.cell d1
            have k2 := Boxed.frozen d1
            have k3 := Boxed.cell d2
            have k4 := Boxed.frozen d2
            have k6' := (OW2.cell (World.block_lt_of_cell? W1 _ k6) (fun h => by change bd.block = Ba at h; rw [h] at m2; exact hd1 m2)).trans k6
            clear k6
            have k6 := k6'
            clear k6'
            gi_wp2
            rw [wpIn_wide]
            go_region
            obtain ⟨Bbd, hBbd⟩ : ∃ A_ : Option Addr, (if cb = 1 then some bd else some { block := bd.block, off := bd.off + 1 }) = A_ := ⟨_, rfl⟩
            rw [hBbd]
            have HBbd := Lib.hid hBbd
            clear hBbd
            obtain ⟨W3, hW3⟩ : ∃ W_, (W2.setCell ⟨Bb, 0, none⟩ (.slice Bbd rb.length (cb - 1))).drew = W_ := ⟨_, rfl⟩
            have d2' : Boxed W3 Bb 29 (.slice Bbd rb.length (cb - 1)) := by rw [← hW3]; exact Boxed.set _ d2
            have OW3 : Off (fun k => k = Bb) W2 W3 := by rw [← hW3]; exact ((Off.refl (fun k => k = Bb) W2).setCell (p := ⟨Bb, 0, none⟩) (fun _ => rfl) _).drew
            have zW3 : W3.heap.size = wr.heap.size + 1 := by rw [← hW3]; simpa [World.setCell] using zW2
            have d1' : Boxed W3 Ba 29 (.slice Aa ra.length (ca - 1)) := (OW3.block _ (Boxed.lt d1) (fun h => hne h)).trans d1
            have hbW3 : W3.heap[wr.heap.size]? = some (.cells #[.bool true, .bool true] 100 (0, 0)) := (OW3.block _ (by omega) (fun h => by have := b1.lt; have := b2.lt; omega)).trans hbW2
            rw [hW3]
            clear hW3 d1 d2 t1 t2 k1 k2 k3 k4
            clear k5
            clear k6
            have d1 := d1'
            have d2 := d2'
            clear d1' d2'
            have t1 : W3.cell? ⟨wr.heap.size, 0, none⟩ = some (.bool true) := cell_of_block hbW3
            have t2 : W3.cell? ⟨wr.heap.size, 1, none⟩ = some (.bool true) := cell_of_block hbW3
            have k1 := Boxed.cell d1
            have k2 := Boxed.frozen d1
            have k3 := Boxed.cell d2
            have k4 := Boxed.frozen d2
            have O3 : Off (fun k => k = Ba ∨ k = Bb) wr W3 := ((O1 (fun k => k = Ba ∨ k = Bb)).then_ OW2 (fun _ _ h => .inl h)).then_ OW3 (fun _ _ h => .inr h)
            have hJ2 : J pre ψ W3 := hst _ _ _ _ hJ (O3.mono (fun k _ e h => by rcases e with rfl | rfl; exact v1 h; exact v2 h))
            obtain ⟨fn, tmps, assign, body, hy, hR⟩ := hround pre (x, true, true) ψ W3 hJ2 (by rw [hpre, bothOf, if_neg (by omega), if_neg (by omega)]; simp)
            dsimp only at hy
            gi_wp2
            refine ⟨rfl, ?_⟩
            refine hR.mono ?_
            rintro e W4 ⟨rfl, ψ', hψ', hJ3, hO3⟩
            obtain ⟨f1, f2, f3⟩ := fin W3 W4 ψ' O3 hO3 hψ'
            have p1 : Boxed W4 Ba 29 (.slice Aa ra.length (ca - 1)) := (hO3.block _ (Boxed.lt d1) v1).trans d1
            have p2 : Boxed W4 Bb 29 (.slice Bbd rb.length (cb - 1)) := (hO3.block _ (Boxed.lt d2) v2).trans d2
            gi_wp2
            go_roundw
            case rel =>
              refine ⟨pre ++ [(x, true, true)], ra, rb, ψ', by rw [hpre, bothOf, if_neg (by omega), if_neg (by omega)]; simp, by first | omega | (simp; omega), by first | omega | (simp; omega), hJ3, f2, ?_, ?_, f3⟩
              · exact SideOf.tail r1 n1 m1 (by rw [HAa.out]; exact p1) f1
              · exact SideOf.tail r2 n2 m2 (by rw [HBbd.out]; exact p2) f1
            case measure =>
              rw [p1.cell, p2.cell, b1.cell, b2.cell]
              simp only []
              omega
end Go.Proofs.Ytbllchfgjginoaa
/-
  Package set: those of two sets that stay: Union, Inter, Minus.
-/
namespace Go.Proofs.Ytbllchfgjginoaa
open Go.RowKit Go.Shelf Go.Proofs.YtbllchfgjginoaaW.PrintWords
attribute [local go_sem] Oper.semAt_some

theorem both_calls (A B : Option Addr) (m n c d : Nat) (w : World) :
    Calls Try.prog 75 #[.slice A m c, .slice B n d] w fun e w' => e = .returned (.func (.func 83) #[] #[.pointer (some ⟨w.heap.size, 0, none⟩), .pointer (some ⟨w.heap.size + 1, 0, none⟩)]) ∧
      w' = (w.alloc (.cells #[.slice A m c] 29)).alloc (.cells #[.slice B n d] 29) := by
  go_enter Try.func75, Try.ntmps75
  go_wp2
  go_ret
  exact ⟨rfl, rfl⟩

theorem stays34 (x y : Bool) (w : World) : Calls Try.prog 59 #[.agg #[.bool x, .bool y]] w fun e w' => e = .returned (.bool (x && y)) ∧ Below w.heap.size w w' := by
  go_enter Try.func59, Try.ntmps59
  cases x <;> cases y <;> go_wp2 <;> (try go_region) <;> (try go_wp2) <;> go_ret <;> exact ⟨rfl, by repeat (first | exact Below.refl _ _ | exact ((Below.refl _ _).alloc (Nat.le_refl _) _) | apply Below.drew)⟩
theorem stays35 (x y : Bool) (w : World) : Calls Try.prog 63 #[.agg #[.bool x, .bool y]] w fun e w' => e = .returned (.bool (x && !y)) ∧ Below w.heap.size w w' := by
  go_enter Try.func63, Try.ntmps63
  cases x <;> cases y <;> go_wp2 <;> (try go_region) <;> (try go_wp2) <;> go_ret <;> exact ⟨rfl, by repeat (first | exact Below.refl _ _ | exact ((Below.refl _ _).alloc (Nat.le_refl _) _) | apply Below.drew)⟩

/-- Those that stay. -/
def selOf (p : Bool → Bool → Bool) (l : List (Int × Bool × Bool)) : List Int := (l.filter fun x => p x.2.1 x.2.2).map (·.1)
theorem selOf_hit {p : Bool → Bool → Bool} (pre : List (Int × Bool × Bool)) {x : Int × Bool × Bool} (h : p x.2.1 x.2.2 = true) : selOf p (pre ++ [x]) = selOf p pre ++ [x.1] := by simp [selOf, h]
theorem selOf_miss {p : Bool → Bool → Bool} (pre : List (Int × Bool × Bool)) {x : Int × Bool × Bool} (h : p x.2.1 x.2.2 = false) : selOf p (pre ++ [x]) = selOf p pre := by simp [selOf, h]
theorem selOf_len (p : Bool → Bool → Bool) (l : List (Int × Bool × Bool)) : (selOf p l).length ≤ l.length := by
  unfold selOf; rw [List.length_map]; exact List.length_filter_le _ _
theorem bothOf_len (a b : List Int) : (bothOf a b).length ≤ a.length + b.length := by
  induction a, b using bothOf.induct with
  | case1 => simp [bothOf]
  | case2 x a ih => rw [bothOf]; simp only [List.length_cons, List.length_nil] at *; omega
  | case3 y b ih => rw [bothOf]; simp only [List.length_cons, List.length_nil] at *; omega
  | case4 x a y b h ih => rw [bothOf, if_pos h]; simp only [List.length_cons] at *; omega
  | case5 x a y b h h' ih => rw [bothOf, if_neg h, if_pos h']; simp only [List.length_cons] at *; omega
  | case6 x a y b h h' ih => rw [bothOf, if_neg h, if_neg h']; simp only [List.length_cons] at *; omega

theorem info24 : (Try.prog.info? 25).map (fun i => (i.zero, i.size, i.bytes)) = some (some (.int .u32 0), 1, 4) := by kernel_rfl

end Go.Proofs.Ytbllchfgjginoaa
