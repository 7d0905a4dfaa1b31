/-
  What each piece does for the whole sort.
-/
import Derived.Test.YtkhljamellgcfaaSoB
import Derived.Test.YtkhljamellgcfaaSoE
import Derived.Deep.DeepCutAuto
import Derived.Deep.CutBlock
import Derived.Deep.LoopGhost
import Derived.Test.YtkhljamellgcfaaPSetx0
import Derived.Lib.SliceRun
import Derived.Lib.SlicesCompact
import Derived.Sort.AssemblyPlain
import Derived.Test.YtkhljamellgcfaaPSetx2
namespace Go.Proofs.Ytkhljamellgcfaa
open Go.RowKit Go.Sort
set_option linter.unusedVariables false
set_option linter.unusedSimpArgs false
/-- What is left to sort, [i, j) of e, finishes [a, b) of d. -/
structure St (n a b : Nat) (d : Array Int) (i j : Nat) (e : Array Int) : Prop where
  len : j - i ≤ b - a
  ij : i ≤ j
  jn : j ≤ n
  size : e.size = n
  below : Go.Sort.Below ltA i j e
  fin : ∀ R, PermIn i j e R → SortedIn ltA i j R → PermIn a b d R ∧ SortedIn ltA a b R
variable {n a b i j g m cap p : Nat} {d e : Array Int} {w0 w : World}
theorem swoA : SWO ltA := swo_ltInt
theorem St.perm {e' : Array Int} (h : St n a b d i j e) (hp : PermIn i j e e') : St n a b d i j e' :=
  ⟨h.len, h.ij, h.jn, hp.1.trans h.size, h.below.perm (by rw [h.size]; exact h.jn) hp, fun R h1 h2 => h.fin R (permIn_trans _ _ _ _ _ hp h1) h2⟩
theorem ins_n (h : Lies w0 w g m e) (hs : St n a b d i j e) (hsz : n < 65536) :
    Calls Try.prog 52 #[.slice (some ⟨g, 0, none⟩) n cap, .int .i64 i, .int .i64 j] w fun r w' => r = .returned (.tuple #[]) ∧ ∃ R, (PermIn a b d R ∧ SortedIn ltA a b R) ∧ Lies w0 w' g m R := by
  have hn := hs.size
  subst hn
  refine (insertion_w h.here hs.ij hs.jn (by omega)).mono ?_
  rintro r w' ⟨rfl, hl⟩
  obtain ⟨h1, h2⟩ := insertionSort_holds swoA e i j hs.ij hs.jn
  exact ⟨rfl, _, hs.fin _ h1 h2, h.trans hl⟩
theorem heap_n (h : Lies w0 w g m e) (hs : St n a b d i j e) (hij : i < j) (hsz : n < 65536) :
    Calls Try.prog 53 #[.slice (some ⟨g, 0, none⟩) n cap, .int .i64 i, .int .i64 j] w fun r w' => r = .returned (.tuple #[]) ∧ ∃ R, (PermIn a b d R ∧ SortedIn ltA a b R) ∧ Lies w0 w' g m R := by
  have hn := hs.size
  subst hn
  refine (heap_w h.here hij hs.jn (by omega)).mono ?_
  rintro r w' ⟨rfl, hl⟩
  obtain ⟨h1, h2⟩ := heapSort_holds swoA e i j hs.ij hs.jn
  exact ⟨rfl, _, hs.fin _ h1 h2, h.trans hl⟩
theorem rev_n (h : Lies w0 w g m e) (hs : St n a b d i j e) (hij : i < j) (hsz : n < 65536) :
    Calls Try.prog 56 #[.slice (some ⟨g, 0, none⟩) n cap, .int .i64 i, .int .i64 j] w fun r w' => r = .returned (.tuple #[]) ∧ ∃ R, St n a b d i j R ∧ Lies w0 w' g m R := by
  have hn := hs.size
  subst hn
  refine (reverse_w h.here hij hs.jn (by omega)).mono ?_
  rintro r w' ⟨rfl, hl⟩
  exact ⟨rfl, _, hs.perm (reverseRange_holds e i j hs.ij hs.jn), h.trans hl⟩
theorem brk_n (h : Lies w0 w g m e) (hs : St n a b d i j e) (hsz : n < 65536) :
    Calls Try.prog 54 #[.slice (some ⟨g, 0, none⟩) n cap, .int .i64 i, .int .i64 j] w fun r w' => r = .returned (.tuple #[]) ∧ ∃ R, St n a b d i j R ∧ Lies w0 w' g m R := by
  have hn := hs.size
  subst hn
  refine (break_w h.here hs.ij hs.jn hsz).mono ?_
  rintro r w' ⟨rfl, R, hp, hl⟩
  exact ⟨rfl, _, hs.perm hp, h.trans hl⟩
theorem partial_n (h : Lies w0 w g m e) (hs : St n a b d i j e) (hij : i < j) (hsz : n < 65536) :
    Calls Try.prog 57 #[.slice (some ⟨g, 0, none⟩) n cap, .int .i64 i, .int .i64 j] w fun r w' => ∃ (t : Bool) (R : Array Int), r = .returned (.bool t) ∧ St n a b d i j R ∧ (t = true → PermIn a b d R ∧ SortedIn ltA a b R) ∧ Lies w0 w' g m R := by
  have hn := hs.size
  subst hn
  refine (partial_w h.here hij hs.jn (by omega)).mono ?_
  rintro r w' ⟨rfl, hl⟩
  obtain ⟨h1, h2⟩ := partialInsertionSort_holds swoA e i j hij hs.jn hs.below
  exact ⟨_, _, rfl, hs.perm h1, fun ht => hs.fin _ h1 (h2 ht), h.trans hl⟩
theorem parteq_n (h : Lies w0 w g m e) (hs : St n a b d i j e) (hi : 0 < i) (h1 : i ≤ p) (h2 : p < j) (hl : ltA e[i - 1]! e[p]! = false) (hsz : n < 65536) :
    Calls Try.prog 58 #[.slice (some ⟨g, 0, none⟩) n cap, .int .i64 i, .int .i64 j, .int .i64 p] w fun r w' => ∃ (q : Nat) (R : Array Int), r = .returned (.int .i64 q) ∧ i < q ∧ q ≤ j ∧ St n a b d q j R ∧ Lies w0 w' g m R := by
  have hn := hs.size
  subst hn
  refine (parteq_w h.here h1 h2 hs.jn (by omega)).mono ?_
  rintro r w' ⟨rfl, hw⟩
  obtain ⟨r1, r2, r3, r4, r5⟩ := round_eq swoA (partitionEqual_holds ltA) hi h1 h2 hs.jn hs.below hl (show partitionEqual ltA e i j p = ((partitionEqual ltA e i j p).1, (partitionEqual ltA e i j p).2) from rfl)
  exact ⟨_, _, rfl, r1, r2, ⟨Nat.le_trans (by omega) hs.len, r2, hs.jn, r3, r4, fun R p1 p2 => by obtain ⟨x, y⟩ := r5 R p1 p2; exact hs.fin R x y⟩, h.trans hw⟩
/-- Both sides of the middle. -/
structure Mid (n a b : Nat) (d : Array Int) (i j q : Nat) (e : Array Int) : Prop where
  iq : i ≤ q
  qj : q < j
  size : e.size = n
  bl : Go.Sort.Below ltA i q e
  br : Go.Sort.Below ltA (q + 1) j e
  left : ∀ L, PermIn i q e L → SortedIn ltA i q L → St n a b d (q + 1) j L
  right : ∀ L, PermIn (q + 1) j e L → SortedIn ltA (q + 1) j L → St n a b d i q L
theorem part_n (h : Lies w0 w g m e) (hs : St n a b d i j e) (h1 : i ≤ p) (h2 : p < j) (hsz : n < 65536) :
    Calls Try.prog 59 #[.slice (some ⟨g, 0, none⟩) n cap, .int .i64 i, .int .i64 j, .int .i64 p] w fun r w' => ∃ (q : Nat) (t : Bool) (R : Array Int), r = .returned (.tuple #[.int .i64 q, .bool t]) ∧ Mid n a b d i j q R ∧ Lies w0 w' g m R := by
  have hn := hs.size
  subst hn
  refine (part_w h.here h1 h2 hs.jn (by omega)).mono ?_
  rintro r w' ⟨rfl, hw⟩
  obtain ⟨r1, r2, r3, r4, r5, r6, r7⟩ := round_part swoA (partition_holds ltA) h1 h2 hs.jn hs.below (show partition ltA e i j p = ((partition ltA e i j p).1, (partition ltA e i j p).2.1, (partition ltA e i j p).2.2) from rfl)
  have hlen := hs.len
  have hjn := hs.jn
  exact ⟨_, _, _, rfl, ⟨r1, r2, r3, r4, r5, fun L p1 p2 => ⟨by omega, by omega, hjn, p1.1.trans r3, (r6 L p1 p2).1, fun R x y => by obtain ⟨x', y'⟩ := (r6 L p1 p2).2 R x y; exact hs.fin R x' y'⟩, fun L p1 p2 => ⟨by omega, r1, by omega, p1.1.trans r3, (r7 L p1 p2).1, fun R x y => by obtain ⟨x', y'⟩ := (r7 L p1 p2).2 R x y; exact hs.fin R x' y'⟩⟩, h.trans hw⟩
end Go.Proofs.Ytkhljamellgcfaa
/-
  The sort at addresses, whole.
-/
namespace Go.Proofs.Ytkhljamellgcfaa
open Go.RowKit Go.Sort
set_option linter.unusedVariables false
set_option linter.unusedSimpArgs false
/-- A sorted permutation of [a, b) lies there. -/
def Sorted_ (a b g m : Nat) (d : Array Int) (w : World) (r : Ending) (w' : World) : Prop :=
  r = .returned (.tuple #[]) ∧ ∃ R, (PermIn a b d R ∧ SortedIn ltA a b R) ∧ Lies w w' g m R
theorem st_start {n a b : Nat} {d : Array Int} (hab : a ≤ b) (hb : b ≤ n) (hn : d.size = n) (hB : Go.Sort.Below ltA a b d) : St n a b d a b d :=
  ⟨Nat.le_refl _, hab, hb, hn, hB, fun R h1 h2 => ⟨h1, h2⟩⟩
set_option maxHeartbeats 32000000 in
set_option maxRecDepth 100000 in
theorem pdq_w {g m n cap : Nat} (hsz : n < 65536) (N : Nat) : ∀ (a b : Nat) (lim : Int) (d : Array Int) (w : World), b - a < N → a ≤ b → b ≤ n → d.size = n → Lies w w g m d → Go.Sort.Below ltA a b d →
    Calls Try.prog 50 #[.slice (some ⟨g, 0, none⟩) n cap, .int .i64 a, .int .i64 b, .int .i64 lim] w (Sorted_ a b g m d w) := by
  induction N with
  | zero => intro a b lim d w h; omega
  | succ N ih =>
  intro a b lim d w hN hab hb hn h hB
  have IH := Lib.hid ih
  have HL := Lib.hid h
  have HS := Lib.hid (st_start hab hb hn hB)
  have HN := Lib.hid hN
  clear ih h hB hn hN
  go_enter Try.func50, Try.ntmps50
  go_wp2
  go_loopg [1, 2, 3, 8, 9] (b - a + 1) (fun k va vb vl v8 v9 wr => ∃ (i j : Nat) (l : Int) (wb wp : Bool) (e : Array Int), va = .int .i64 i ∧ vb = .int .i64 j ∧ vl = .int .i64 l ∧ v8 = .bool wb ∧ v9 = .bool wp ∧ Hid (St n a b d i j e ∧ j - i < k) ∧ i ≤ j ∧ j ≤ n ∧ Hid (Lies w wr g m e))
  case atStart => exact ⟨a, b, lim, true, true, d, rfl, rfl, rfl, rfl, rfl, ⟨HS.out, by omega⟩, hab, hb, HL⟩
  case round =>
    obtain ⟨i, j, l, wb, wp, e, rfl, rfl, rfl, rfl, rfl, HE, hij, hjn, HK⟩ := hrel
    have HNZ := Lib.hid (show j - i < N + 1 from by have := HE.out.1.len; have := HN.out; omega)
    clear HL HS HN
    obtain ⟨z, hz⟩ : ∃ z : Nat, z = j - i := ⟨_, rfl⟩
    have hz2 : i + z = j := by omega
    clear hz
    go_upto_region 3 with fail
    rw [show ((j : Int) - (i : Int)) = (z : Int) from by omega]
    by_cases h12 : z ≤ 12
    · have hd12 : decide ((z : Int) ≤ 12) = true := decide_eq_true (by omega)
      go_wp2_with (go_at_call 52; refine (ins_n HK.out HE.out.1 hsz).mono ?_; rintro r w' ⟨rfl, R, hR, hl⟩; have HR := Lib.hid hR; have HLL := Lib.hid hl; clear hR hl)
      go_end0
      exact ⟨rfl, R, HR.out, HLL.out⟩
    have hd12 : decide ((z : Int) ≤ 12) = false := decide_eq_false (by omega)
    have hij2 : i < j := by omega
    go_upto_region 5 with fail
    by_cases hl0 : l = 0
    · have hdl : decide (l = 0) = true := decide_eq_true hl0
      have hbl : (l == 0) = true := by simp [hl0]
      clear hl0
      go_wp2_with (go_at_call 53; refine (heap_n HK.out HE.out.1 hij2 hsz).mono ?_; rintro r w' ⟨rfl, R, hR, hl⟩; have HR := Lib.hid hR; have HLL := Lib.hid hl; clear hR hl)
      go_end0
      exact ⟨rfl, R, HR.out, HLL.out⟩
    have hdl : decide (l = 0) = false := decide_eq_false hl0
    have hbl : (l == 0) = false := by simp [hl0]
    clear hl0
    go_upto_if 35 with fail
    go_cut [3] (fun v3 wc => ∃ (l' : Int) (e' : Array Int), v3 = .int .i64 l' ∧ Hid (St n a b d i j e' ∧ j - i < gk) ∧ Hid (Lies w wc g m e'))
    case first =>
      cases wb with
      | true =>
        go_wp2
        go_meet
        case rel => exact ⟨l, e, rfl, HE, HK⟩
      | false =>
        go_wp2_with (go_at_call 54; refine (brk_n HK.out HE.out.1 hsz).mono ?_; rintro r w' ⟨rfl, R, hR, hl⟩; have HR := Lib.hid hR; have HLL := Lib.hid hl; clear hR hl)
        go_meet
        case rel => exact ⟨_, R, rfl, ⟨HR.out, HE.out.2⟩, HLL⟩
    case rest =>
    clear HE HK hdl hbl
    obtain ⟨l, e, rfl, HE, HK⟩ := hcut
    have hzq : (i : Int) < (j : Int) := by omega
    go_upto_region 11 with (go_at_call 55; refine (choose_w HK.out HE.out.1.size hij2 hjn (by omega)).mono ?_; rintro r w1 ⟨p, hh, hp1, hp2, rfl, hO⟩; have HO := Lib.hid hO; clear hO)
    have HK1 := Lib.hid (HK.out.keep HO.out)
    clear HK HO
    go_upto_if 50 with fail
    go_cut [11, 12] (fun v11 v12 wc => ∃ (p' : Nat) (h' : Int) (e' : Array Int), v11 = .int .i64 p' ∧ v12 = .int .i64 h' ∧ i ≤ p' ∧ p' < j ∧ Hid (St n a b d i j e' ∧ j - i < gk) ∧ Hid (Lies w wc g m e'))
    case first =>
      by_cases h2 : hh = 2
      · have hd2 : decide (hh = 2) = true := decide_eq_true h2
        have hb2 : (hh == 2) = true := by simp [h2]
        clear h2
        obtain ⟨y, hy⟩ : ∃ y : Nat, y = (j - 1) - (p - i) := ⟨_, rfl⟩
        have hy1 : (j : Int) - 1 - ((p : Int) - (i : Int)) = (y : Int) := by omega
        have hy2 : i ≤ y := by omega
        have hy3 : y < j := by omega
        have hy4 : IntKind.i64.wrap ((p : Int) - (i : Int)) = (p : Int) - (i : Int) := IntWalk.i64_in _ (by omega)
        have hy5 : IntKind.i64.wrap ((j : Int) - 1) = (j : Int) - 1 := IntWalk.i64_in _ (by omega)
        have hy6 : IntKind.i64.wrap (y : Int) = (y : Int) := IntWalk.i64_in _ (by omega)
        clear hy
        go_wp2_with (go_at_call 56; refine (rev_n HK1.out HE.out.1 hij2 hsz).mono ?_; rintro r w' ⟨rfl, R, hR, hl⟩; have HR := Lib.hid hR; have HLL := Lib.hid hl; clear hR hl)
        go_meet
        case rel => exact ⟨y, _, R, by first | rfl | (congr 1; done) | (congr 1; omega), rfl, hy2, hy3, ⟨HR.out, HE.out.2⟩, HLL⟩
      · have hd2 : decide (hh = 2) = false := decide_eq_false h2
        have hb2 : (hh == 2) = false := by simp [h2]
        clear h2
        go_wp2
        go_meet
        case rel => exact ⟨p, hh, e, rfl, rfl, hp1, hp2, HE, HK1⟩
    case rest =>
    clear HE HK1 hp1 hp2
    obtain ⟨p, hh, e, rfl, rfl, hp1, hp2, HE, HK⟩ := hcut
    go_upto_region 15 with fail
    go_cut [68] (fun v68 wc => ∃ t : Bool, v68 = .bool t ∧ Hid (Lies w wc g m e))
    case first =>
      by_cases h1 : hh = 1
      · have hd1 : decide (hh = 1) = true := decide_eq_true h1
        have hb1 : (hh == 1) = true := by simp [h1]
        clear h1
        cases wb <;> cases wp <;> go_wp2
        all_goals go_meet
        case rel => exact ⟨_, rfl, HK⟩
        case rel => exact ⟨_, rfl, HK⟩
        case rel => exact ⟨_, rfl, HK⟩
        case rel => exact ⟨_, rfl, HK⟩
      · have hd1 : decide (hh = 1) = false := decide_eq_false h1
        have hb1 : (hh == 1) = false := by simp [h1]
        clear h1
        cases wb <;> cases wp <;> go_wp2
        all_goals go_meet
        case rel => exact ⟨_, rfl, HK⟩
        case rel => exact ⟨_, rfl, HK⟩
        case rel => exact ⟨_, rfl, HK⟩
        case rel => exact ⟨_, rfl, HK⟩
    case rest =>
    clear HK
    obtain ⟨t, rfl, HK⟩ := hcut
    go_upto_if 68 with fail
    go_cut [] (fun wc => ∃ (e' : Array Int), Hid (St n a b d i j e' ∧ j - i < gk) ∧ Hid (Lies w wc g m e'))
    case first =>
      cases t with
      | false =>
        go_wp2
        go_meet
        case rel => exact ⟨e, HE, HK⟩
      | true =>
        go_upto_if 72 with (go_at_call 57; refine (partial_n HK.out HE.out.1 hij2 hsz).mono ?_; rintro r w' ⟨t, R, rfl, hR, hF, hl⟩; have HR := Lib.hid hR; have HLL := Lib.hid hl; have HF := Lib.hid hF; clear hR hl hF)
        cases t with
        | true =>
          go_wp2
          go_end0
          exact ⟨rfl, R, HF.out trivial, HLL.out⟩
        | false =>
          go_wp2
          go_meet
          case rel => exact ⟨R, ⟨HR.out, HE.out.2⟩, HLL⟩
    case rest =>
    clear HE HK
    obtain ⟨e, HE, HK⟩ := hcut
    obtain ⟨G, hG⟩ : ∃ G : Nat → Int, ∀ t, G t = e[t]! := ⟨fun t => e[t]!, fun _ => rfl⟩
    have HG := Lib.hid hG
    have hcw := HK.out.cells hG
    rw [HE.out.1.size] at hcw
    clear hG
    go_upto_region 17 with fail
    go_cut [87] (fun v87 wc => ∃ t : Bool, v87 = .bool t ∧ Hid (t = true → 0 < i ∧ ltA e[i - 1]! e[p]! = false) ∧ Hid (Lies w wc g m e))
    case first =>
      by_cases hi0 : 0 < i
      · have hdi : decide ((0 : Int) < (i : Int)) = true := decide_eq_true (by omega)
        have q1 : i - 1 < n := by omega
        have q2 : p < n := by omega
        have q3 : (0 : Int) ≤ (i : Int) - 1 := by omega
        have q4 : (i : Int) - 1 < (n : Int) := by omega
        have q5 : ((i : Int) - 1).toNat = i - 1 := by omega
        have q6 : IntKind.i64.wrap ((i : Int) - 1) = (i : Int) - 1 := IntWalk.i64_in _ (by omega)
        have q7 : (p : Int) < (n : Int) := by omega
        go_quiet ((go_at_call 42; exact Calls.quiet_of_same (less_w _ _ _)))
        go_wp2
        go_meet
        case rel => exact ⟨_, rfl, fun ht => ⟨hi0, by rw [← HG.out, ← HG.out]; simpa using ht⟩, HK.out.drewN _⟩
      · have hdi : decide ((0 : Int) < (i : Int)) = false := decide_eq_false (by omega)
        go_quiet ((go_at_call 42; exact Calls.quiet_of_same (less_w _ _ _)))
        go_wp2
        go_meet
        case rel => exact ⟨false, rfl, fun ht => (by cases ht), HK.out.drewN _⟩
    case rest =>
    clear HK hcw HG
    obtain ⟨t, rfl, HT, HK⟩ := hcut
    cases t with
    | true =>
      have hi0 : 0 < i := (HT.out rfl).1
      go_wp2_with (go_at_call 58; refine (parteq_n HK.out HE.out.1 hi0 hp1 hp2 (HT.out rfl).2 hsz).mono ?_; rintro r w' ⟨q, R, rfl, hq1, hq2, hR, hl⟩; have HR := Lib.hid hR; have HLL := Lib.hid hl; clear hR hl)
      go_roundg (j - q + 1)
      case measure => have := HE.out.2; omega
      case rel => exact ⟨q, j, l, wb, wp, R, rfl, rfl, rfl, rfl, rfl, ⟨HR.out, by omega⟩, hq2, hjn, HLL⟩
    | false =>
      go_upto_region 22 with (go_at_call 59; refine (part_n HK.out HE.out.1 hp1 hp2 hsz).mono ?_; rintro r w' ⟨q, t, R, rfl, hM, hl⟩; have HM := Lib.hid hM; have HLL := Lib.hid hl; clear hM hl)
      have hq1 : i ≤ q := HM.out.iq
      have hq2 : q < j := HM.out.qj
      obtain ⟨x, hx⟩ : ∃ x : Nat, x = q - i := ⟨_, rfl⟩
      obtain ⟨y, hy⟩ : ∃ y : Nat, y = j - q := ⟨_, rfl⟩
      obtain ⟨r, hr⟩ : ∃ r : Nat, r = z / 8 := ⟨_, rfl⟩
      have hx1 : (q : Int) - (i : Int) = (x : Int) := by omega
      have hy1 : (j : Int) - (q : Int) = (y : Int) := by omega
      have hr1 : (z : Int) / 8 = (r : Int) := by omega
      have hx2 : i + x = q := by omega
      have hy2 : q + y = j := by omega
      clear hx hy hr
      have hw1 : IntKind.i64.wrap (x : Int) = (x : Int) := IntWalk.i64_in _ (by omega)
      have hw2 : IntKind.i64.wrap (y : Int) = (y : Int) := IntWalk.i64_in _ (by omega)
      by_cases hxy : x < y
      · have hdx : decide ((x : Int) < (y : Int)) = true := decide_eq_true (by omega)
        go_wp2_with (go_at_call 50; refine (IH.out i q l R _ (by have := HNZ.out; omega) hq1 (by omega) HM.out.size HLL.out.here HM.out.bl).mono ?_; rintro r w' ⟨rfl, L, hL, hl⟩; have HLf := Lib.hid hL; have HL2 := Lib.hid hl; clear hL hl)
        go_roundg (j - (q + 1) + 1)
        case measure => have := HE.out.2; omega
        case rel => exact ⟨q + 1, j, l, _, _, L, by go_num, rfl, rfl, rfl, rfl, ⟨HM.out.left L HLf.out.1 HLf.out.2, by omega⟩, by omega, hjn, HLL.out.trans HL2.out⟩
      · have hdx : decide ((x : Int) < (y : Int)) = false := decide_eq_false (by omega)
        go_wp2_with (go_at_call 50; refine (IH.out (q + 1) j l R _ (by have := HNZ.out; omega) (by omega) hjn HM.out.size HLL.out.here HM.out.br).mono ?_; rintro r w' ⟨rfl, L, hL, hl⟩; have HLf := Lib.hid hL; have HL2 := Lib.hid hl; clear hL hl)
        go_roundg (q - i + 1)
        case measure => have := HE.out.2; omega
        case rel => exact ⟨i, q, l, _, _, L, rfl, rfl, rfl, rfl, rfl, ⟨HM.out.right L HLf.out.1 HLf.out.2, by omega⟩, hq1, by omega, HLL.out.trans HL2.out⟩
end Go.Proofs.Ytkhljamellgcfaa
/-
  slices.Values' iterator, and the slice made of what it yields.
-/
namespace Go.Proofs.Ytkhljamellgcfaa
open Go.RowKit Go.Shelf Go.Proofs.YtkhljamellgcfaaW.PrintWords
attribute [local go_sem] Oper.semAt_some
set_option linter.unusedVariables false
set_option linter.unusedSimpArgs false
theorem take_pre {l : List Int} {k : Nat} (h : k < l.length) : l.take k ++ [l.getD k 0] <+: l := by
  have : l.take k ++ [l.getD k 0] = l.take (k + 1) := by
    rw [List.take_add_one]
    congr 1
    rw [List.getD_eq_getElem?_getD, List.getElem?_eq_getElem h]
    rfl
  rw [this]
  exact List.take_prefix _ _
theorem take_snoc {l : List Int} {k : Nat} (h : k < l.length) : l.take k ++ [l.getD k 0] = l.take (k + 1) := by
    rw [List.take_add_one]
    congr 1
    rw [List.getD_eq_getElem?_getD, List.getElem?_eq_getElem h]
    rfl
set_option maxRecDepth 100000 in
set_option maxHeartbeats 2000000 in
theorem vals_iter (Bs : Nat) (A : Option Addr) (c : Nat) (ls : List Int) (hl : ls.length ≤ 1000000000) (dat : Nat → Prop) 
    (w : World) (hdw : ∀ k, dat k → k < w.heap.size) (h1 : Boxed w Bs 27 (.slice A ls.length c)) (hr : ReadsInt w .u32 A ls.length ls) (hd : ∀ ad, A = some ad → 0 < ls.length → dat ad.block) :
    Iter Try.prog 46 #[.pointer (some ⟨Bs, 0, none⟩)] (fun x => #[.int .u32 x]) ls (fun k => k = Bs ∨ dat k) (fun _ => False) w := by
  refine ⟨by rintro k (rfl | h); exact h1.lt; exact hdw k h, ?_⟩
  intro l J φ W hW hex hst hdis hround h0
  have b1 : Boxed W Bs 27 (.slice A ls.length c) := (hW.block _ h1.lt (fun h => h (.inl rfl))).trans h1
  have r1 : ReadsInt W .u32 A ls.length ls := readsInt_of_block hr (fun ad e hp => hW.block _ (hdw _ (hd ad e hp)) (fun h => h (.inr (hd ad e hp))))
  have hdW : ∀ k, dat k → k < W.heap.size := fun k hk => Nat.lt_of_lt_of_le (hdw k hk) hW.size
  have c1 := b1.cell
  clear h1 hr hW hdw
  refine callsIn_of_wp Try.func46 rfl trivial ?_ rfl
  simp only [Try.ntmps46, List.size_toArray, List.length_cons, List.length_nil, Nat.reduceAdd, Nat.reduceSub, Array.replicate_succ, Array.replicate_zero, List.push_toArray, List.append_toArray, List.nil_append, List.cons_append]
  gi_wp2
  gi_loopw [7] (fun i wr => ∃ k : Nat, ∃ ψ, k ≤ ls.length ∧ i = .int .i64 k ∧ J (ls.take k) ψ wr ∧ (∀ k, ψ k → φ k ∨ W.heap.size ≤ k) ∧ Off φ W wr)
    (fun i _ => ls.length - (intOf i).toNat)
  case atStart => exact ⟨0, φ, by omega, by simp, by simpa using h0, fun _ => .inl, Off.refl _ _⟩
  case round =>
    obtain ⟨k, ψ, hk, rfl, hJ, hψ, hO⟩ := hrel
    have rr : ReadsInt wr .u32 A ls.length ls := readsInt_of_block r1 (fun ad e hp => hO.block _ (hdW _ (hd ad e hp)) (fun h => hdis _ h (.inr (hd ad e hp))))
    by_cases hlt : k < ls.length
    · obtain ⟨ad, rfl, hc⟩ := rr.2.2 (by omega)
      have hck := hc k hlt
      clear hc rr
      have hJ' := hst _ _ _ wr.drew hJ (Off.refl _ wr).drew
      have hy := hround (ls.take k) (ls.getD k 0) ψ wr hJ (take_pre hlt)
      have key : ∀ W3 ψ', (∀ k, ψ' k → ψ k ∨ wr.heap.size ≤ k) → J (ls.take k ++ [ls.getD k 0]) ψ' W3 → Off ψ wr W3 →
          J (ls.take (k + 1)) ψ' W3 ∧ (∀ k, ψ' k → φ k ∨ W.heap.size ≤ k) ∧ Off φ W W3 := by
        intro W3 ψ' hψ' hJ3 hO3
        refine ⟨by rw [← take_snoc hlt]; exact hJ3, ?_, ?_⟩
        · intro j hj
          rcases hψ' j hj with h | h
          · exact hψ j h
          · exact .inr (by have := hO.size; omega)
        · exact (hO.then_ hO3 (fun i hi h => by rcases hψ i h with h | h; exact h; omega))
      obtain ⟨x, hx⟩ : ∃ x, x = ls.getD k 0 := ⟨_, rfl⟩
      rw [← hx] at hck hy key
      obtain ⟨fn, tmps, assign, body, hy, hR⟩ := hy
      clear hx
      gi_wp2
      refine ⟨rfl, ?_⟩
      refine hR.mono ?_
      rintro e W3 ⟨rfl, ψ', hψ', hJ3, hO3⟩
      obtain ⟨hJ4, hψ4, hO4⟩ := key W3 ψ' hψ' hJ3 hO3
      clear hJ3 hO3 hψ'
      gi_wp2
      go_roundw
      case rel => exact ⟨k + 1, ψ', by omega, by go_num, hJ4, hψ4, hO4⟩
      case measure => simp [intOf]; omega
    · obtain rfl : k = ls.length := by omega
      gi_wp2
      go_end0
      exact ⟨⟨_, rfl⟩, ψ, hψ, by simpa using hJ, hO.mono (fun _ _ h => .inl h)⟩
theorem values_w (A : Option Addr) (n c : Nat) (w : World) :
    Calls Try.prog 40 #[.slice A n c] w fun e w' => e = .returned (.func (.func 46) #[] #[.pointer (some ⟨w.heap.size, 0, none⟩)]) ∧ w' = w.alloc (.cells #[.slice A n c] 27 (0, 0)) := by
  go_enter Try.func40, Try.ntmps40
  go_wp2
  go_ret
  exact ⟨rfl, rfl⟩
set_option maxRecDepth 100000 in
set_option maxHeartbeats 4000000 in
theorem appseq_w (Bs : Nat) (A : Option Addr) (c : Nat) (ls : List Int) (hl : ls.length ≤ 1000000000) 
    (w : World) (h1 : Boxed w Bs 27 (.slice A ls.length c)) (hr : ReadsInt w .u32 A ls.length ls) :
    Calls Try.prog 49 #[.slice none 0 0, .func (.func 46) #[] #[.pointer (some ⟨Bs, 0, none⟩)]] w fun e w' => ∃ v, e = .returned v ∧
      w'.ownsRow w.heap.size 24 1 v ls.length (nums .u32 ls) ∧ Below w.heap.size w w' := by
  obtain ⟨i0, hi, iz0, iz1, iz2⟩ := info_parts info24
  refine (callsIn_wide (n := 0)).1 ?_
  refine callsIn_of_wp_marks Try.func49 rfl trivial ?_ rfl
  simp only [Try.ntmps49, List.size_toArray, List.length_cons, List.length_nil, Nat.reduceAdd, Nat.reduceSub, Array.replicate_succ, Array.replicate_zero, List.push_toArray, List.append_toArray, List.nil_append, List.cons_append]
  gi_wp2
  obtain ⟨W3, hW3⟩ : ∃ W3, w.alloc (.cells #[.slice none 0 0] 27) = W3 := ⟨_, rfl⟩
  have s3 : W3.heap.size = w.heap.size + 1 := by rw [← hW3]; simp
  have hO3 : ∀ φ, Off φ w W3 := fun φ => by rw [← hW3]; exact (Off.refl φ w).alloc _
  have x1 : Boxed W3 w.heap.size 27 (.slice none 0 0) := by rw [← hW3]; exact Boxed.new w _ _
  have hdat : ∀ ad, A = some ad → 0 < ls.length → ad.block < w.heap.size := fun ad e hp => by
    obtain ⟨ad', e', hc⟩ := hr.2.2 hp
    rw [e] at e'; cases e'
    have := World.block_lt_of_cell? w _ (hc 0 hp)
    unfold Addr.add at this
    simpa using this
  have r3 : ReadsInt W3 .u32 A ls.length ls := readsInt_of_block hr (fun ad e hp => (hO3 (fun _ => False)).block _ (hdat ad e hp) id)
  have b3 : Boxed W3 Bs 27 (.slice A ls.length c) := ((hO3 (fun _ => False)).block _ h1.lt id).trans h1
  have hlt0 := h1.lt
  rw [hW3]
  refine wpIn_range (α := Int) (lb := #[.pointer (some ⟨Bs, 0, none⟩)]) rfl (enters_of Try.func46 (by kernel_rfl) rfl)
    (vals_iter Bs A c ls hl (fun k => k < w.heap.size) W3 (by intro k hk; omega) b3 r3 hdat) (fun _ => rfl)
    (fun pre ψ V => ∃ v, ψ = (fun k => k = w.heap.size ∨ v.ownBlock = some k) ∧ Boxed V w.heap.size 27 v ∧
      V.ownsRow w.heap.size 24 1 v pre.length (nums .u32 pre) ∧ (∀ k, v.ownBlock = some k → w.heap.size + 1 ≤ k))
    (fun k => k = w.heap.size) ?hex ?hst ?hdis ?h0 ?body ?done
  case hex =>
    rintro pre ψ V ⟨v, rfl, hb7, hrow, -⟩ k (rfl | h)
    · exact hb7.lt
    · exact own_lt hrow k h
  case hst =>
    rintro pre ψ V V' ⟨v, rfl, hb7, hrow, hk⟩ hO
    exact ⟨v, rfl, (hO.block _ hb7.lt (fun h => h (.inl rfl))).trans hb7, own_move hrow (fun k hk => hO.block _ (own_lt hrow k hk) (fun h => h (.inr hk))), hk⟩
  case hdis =>
    rintro k rfl (h | h) <;> omega
  case h0 =>
    exact ⟨.slice none 0 0, by simp [Value.ownBlock], x1, own_nil _ _ _ _, by simp [Value.ownBlock]⟩
  case body =>
    rintro l2 pre x ψ V K ⟨v, rfl, hb7, hrow, hvk⟩ hpre hl2 hnl hlt hK
    gi_wp2
    refine hK _ _ (Off.refl _ _) ?_
    rintro V2 hO2 hz2 ⟨v', hψ, hb7', hrow', hvk'⟩
    have hpl : pre.length < 2000000000 := by
      have h2 := hpre.length_le
      rw [List.length_append, List.length_singleton] at h2
      omega
    clear hb7 hrow hvk hK hW3 x1 r3 b3 hdat
    have c7 := hb7'.cell
    have fin : ∀ (V4 : World) (ac : Act) (u : Value), (∀ k, u.ownBlock = some k → v'.ownBlock = some k ∨ V2.heap.size ≤ k) → Boxed V4 w.heap.size 27 u →
        V4.ownsRow w.heap.size 24 1 u (pre ++ [x]).length (nums .u32 (pre ++ [x])) → Off (fun k => k = w.heap.size ∨ v'.ownBlock = some k) V2 V4 →
        RoundEnd (fun pre ψ V => ∃ v, ψ = (fun k => k = w.heap.size ∨ v.ownBlock = some k) ∧ Boxed V w.heap.size 27 v ∧
      V.ownsRow w.heap.size 24 1 v pre.length (nums .u32 pre) ∧ (∀ k, v.ownBlock = some k → w.heap.size + 1 ≤ k)) (pre ++ [x]) (fun k => k = w.heap.size ∨ v.ownBlock = some k) V.heap.size V2 .normal ac V4 := by
      intro V4 ac u hu hb7 hrow hO
      rw [hψ]
      refine ⟨rfl, (fun k => k = w.heap.size ∨ u.ownBlock = some k), ?_, ⟨u, rfl, hb7, hrow, ?_⟩, hO.mono (fun k _ h => .inl h)⟩
      · rintro k (h | h)
        · exact .inl (.inl h)
        · rcases hu k h with h | h
          · exact .inl (.inr h)
          · exact .inr (by omega)
      · intro k h
        rcases hu k h with h | h
        · exact hvk' k h
        · omega
    have hV2 := hb7'.lt
    have HV : Hid (∀ k, v'.ownBlock = some k → w.heap.size + 1 ≤ k) := hvk'
    clear hvk' hψ hz2
    gi_wp2_with (gi_at_builtin; go_loud (refine wpListIn_append_own_at _ rfl _ _ 27 rfl w.heap.size 24 i0 (.int .u32 0) 1 4 Try.underlying27 hi iz0 iz1 iz2 rfl (by decide) _ _ _ rfl (hrow'.alloc _) ⟨V2.heap.size, 0, none⟩ 1 1 [.int .u32 x] rfl rfl (cell_one_new _ _ _) (by simp [Value.oneCell']) (by simp [maxLen]; omega) (by omega) (by simp; omega) ?_; intro v1 w1 hown' hgrow _ hat; obtain ⟨g', cap', rfl⟩ := ownsRow_succ hown'; obtain ⟨hv1, hv2, hr2, hk2, hb2⟩ := hb7'.appended (by decide) hrow' (by omega) (by omega) hown' hgrow; have hc1 := hv1.cell; have hf1 := hv1.frozen))
    have hO4 : Off (fun k => k = w.heap.size ∨ v'.ownBlock = some k) V2 (w1.setCell ⟨w.heap.size, 0, none⟩ (.slice (some ⟨g', 0, none⟩) (pre.length + 1) cap')) :=
      ((((Off.refl _ V2).alloc _).grown hgrow (fun k e _ => .inr e)).setCell (fun _ => .inl rfl) _)
    refine fin _ _ _ ?_ hv2 ?_ hO4
    · intro k h
      rcases hat with h' | h'
      · exact .inl (h'.symm.trans h)
      · rw [h'] at h
        simp at h
        exact .inr (by omega)
    · simpa [nums] using hr2
  case done =>
    rintro Dd ψ' V ⟨v, rfl, hb7, hrow, hvk⟩ hO hDd hnD hsub hK
    have c7 := hb7.cell
    gi_wp2
    refine ⟨by simp, .inl ⟨_, _, rfl, run_takeDeferred hK, ?_⟩⟩
    refine ⟨_, results_tmp rfl _ _ _, v, rfl, ?_, ?_⟩
    · exact ownsRow_putObj hrow _ hK rfl
    · refine Off.below' (φ := fun k => w.heap.size ≤ k) (((hO3 _).then_ hO ?_).putObj (fun h => by omega) _) (Nat.le_refl _) (fun _ h => h)
      rintro k hk (h | h)
      · omega
      · exact h.elim
end Go.Proofs.Ytkhljamellgcfaa
/-
  Equal neighbours struck out where they lie.
-/
namespace Go.Proofs.Ytkhljamellgcfaa
open Go.RowKit Go.Sort Go.Lib
set_option linter.unusedVariables false
set_option linter.unusedSimpArgs false
theorem Lies.lay {w0 : World} {g m : Nat} : ∀ (xs : List Int) {w : World} {d : Array Int} (k : Nat), Lies w0 w g m d → k + xs.length ≤ d.size → Lies w0 (w.setCells g k (xs.map (Value.int .u32))) g m (Go.Lib.lay d k xs)
  | [], w, d, k, h, _ => h
  | x :: xs, w, d, k, h, hk => by
    simp only [List.length_cons] at hk
    exact Lies.lay xs (k + 1) (h.set (by omega) x) (by rw [Array.size_setIfInBounds]; omega)
theorem lay_size : ∀ (xs : List Int) (d : Array Int) (k : Nat), (Go.Lib.lay d k xs).size = d.size
  | [], d, k => rfl
  | x :: xs, d, k => by rw [Go.Lib.lay, lay_size xs, Array.size_setIfInBounds]
theorem lay_low (xs : List Int) (d : Array Int) (k j : Nat) (h : k + xs.length ≤ d.size) (hj : j < k) : (Go.Lib.lay d k xs)[j]! = d[j]! := by
  have := lay_get? xs d k j h
  rw [if_neg (by omega)] at this
  rw [getElem!_def, getElem!_def, this]
theorem info24' : (Try.prog.info? 24).map (fun i => i.zero) = some (some (.int .u32 0)) := by kernel_rfl
theorem zero24 (w : World) : (zeroValue 24).run Try.prog w = .ok (.int .u32 0) w := by
  obtain ⟨i, hi, hz⟩ := Option.map_eq_some_iff.1 info24'
  simp [zeroValue, typeInfo, hi, hz]
/-- What is kept lies in front. -/
structure Front (w0 w : World) (g m n : Nat) (L : List Int) : Prop where
  lies : ∃ d', Lies w0 w g m d' ∧ d'.size = n ∧ L.length ≤ n ∧ ∀ j, j < L.length → L[j]? = some d'[j]!
theorem front_same {w0 w : World} {g m n : Nat} {d : Array Int} (h : Lies w0 w g m d) (hn : d.size = n) (hall : ∀ j, j < d.size → keeps d j = true) : (compactUpTo d n).length = n ∧ Front w0 w g m n (compactUpTo d n) := by
  subst hn
  rw [compactUpTo_all d _ hall, range_map_get]
  refine ⟨by simp, ⟨d, h, rfl, by simp, fun j hj => ?_⟩⟩
  rw [Array.length_toList] at hj
  rw [Array.getElem?_toList, Array.getElem?_eq_getElem hj, getElem!_pos d j hj]
set_option maxHeartbeats 8000000 in
set_option maxRecDepth 100000 in
theorem compact_w {g m n cap : Nat} {d : Array Int} {w : World} (h : Lies w w g m d) (hn : d.size = n) (hsz : n < 65536) (hcap : n ≤ cap) :
    Calls Try.prog 38 #[.slice (some ⟨g, 0, none⟩) n cap] w fun e w' => e = .returned (.slice (some ⟨g, 0, none⟩) (compactUpTo d n).length cap) ∧ Front w w' g m n (compactUpTo d n) := by
  have HL := Lib.hid h
  have HN := Lib.hid hn
  clear h
  by_cases h2 : n < 2
  · have hd2 : decide ((n : Int) < 2) = true := decide_eq_true (by omega)
    have HF := Lib.hid (front_same HL.out HN.out (fun j hj => keeps_lt_one d j (by omega)))
    clear hn
    go_enter Try.func38, Try.ntmps38
    go_wp2
    go_ret
    exact ⟨by rw [HF.out.1]; rfl, HF.out.2⟩
  have hd2 : decide ((n : Int) < 2) = false := decide_eq_false (by omega)
  clear hn
  go_enter Try.func38, Try.ntmps38
  go_wp2
  go_loopg [3] n (fun gq s3 wr => ∃ k : Nat, 1 ≤ k ∧ k ≤ n ∧ n - k ≤ gq ∧ s3 = .int .i64 k ∧ Hid (Lies w wr g m d) ∧ Hid (∀ j, j < k → keeps d j = true))
  case atStart => exact ⟨1, Nat.le_refl _, by omega, by omega, rfl, HL, keeps_lt_one d⟩
  case round =>
    obtain ⟨k, hk1, hk, hg, rfl, HK, HA⟩ := hrel
    clear HL
    by_cases hlt : k < n
    · have hdk : decide ((k : Int) < (n : Int)) = true := decide_eq_true (by omega)
      have c1 := HK.out.cell (i := k) (by rw [HN.out]; exact hlt)
      have c0 := HK.out.cell (i := k - 1) (by rw [HN.out]; omega)
      generalize hx : d[k]! = x at c1
      generalize hy : d[k - 1]! = y at c0
      have HB := Lib.hid (show d[k]! = x ∧ d[k - 1]! = y from ⟨hx, hy⟩)
      clear hx hy
      have q3 : (0 : Int) ≤ (k : Int) - 1 := by omega
      have q4 : (k : Int) - 1 < (n : Int) := by omega
      have q5 : ((k : Int) - 1).toNat = k - 1 := by omega
      have q6 : IntKind.i64.wrap ((k : Int) - 1) = (k : Int) - 1 := IntWalk.i64_in _ (by omega)
      have q7 : (k : Int) < (n : Int) := by omega
      by_cases hdup : x = y
      · subst hdup
        go_wp2_with fail
        go_region
        all_goals go_wp2
        all_goals clear c0 c1 q3 q4 q5 q6
        all_goals have HK1 := Lib.hid (show Lies w wr.drew g m d from HK.out.drew)
        clear HK
        go_loopg [3, 5] n (fun gq s3 s5 wr => ∃ (kk k2 : Nat) (dk : Array Int), s3 = .int .i64 kk ∧ s5 = .int .i64 k2 ∧ 1 ≤ k2 ∧ k + k2 ≤ n ∧ n - (k + k2) ≤ gq ∧ kk < k + k2 ∧ Hid (Lies w wr g m dk) ∧ Hid (CompInv d (k + k2) kk dk))
        case atStart => exact ⟨k, 1, d, rfl, rfl, Nat.le_refl _, by omega, by omega, by omega, HK1, CompInv.start HA.out (keeps_neg (by omega) (by rw [HB.out.1, HB.out.2]))⟩
        case round =>
          obtain ⟨kk, k2, dk, rfl, rfl, h1, hle, hg2, hkk, HK, HI⟩ := hrel
          clear HK1
          have HS : Hid (dk.size = n) := HI.out.size.trans HN.out
          by_cases hlt2 : k + k2 < n
          · have hd3 : decide ((k2 : Int) < ((n - k : Nat) : Int)) = true := decide_eq_true (by omega)
            have cm := HK.out.cell (i := k + k2) (by rw [HS.out]; exact hlt2)
            have cp := HK.out.cell (i := k + (k2 - 1)) (by rw [HS.out]; omega)
            rw [HI.out.high (k + k2) (by omega)] at cm
            rw [HI.out.high (k + (k2 - 1)) (by omega)] at cp
            have ck := HK.out.cell (i := kk) (by rw [HS.out]; omega)
            have fk := HK.out.frozen kk
            generalize hu : d[k + k2]! = u at cm
            generalize hv : d[k + (k2 - 1)]! = v at cp
            generalize dk[kk]! = old at ck
            have HC := Lib.hid (show d[k + k2]! = u ∧ d[k + (k2 - 1)]! = v from ⟨hu, hv⟩)
            clear hu hv
            have p2 : k2 < n - k := by omega
            have p3 : (0 : Int) ≤ (k2 : Int) - 1 := by omega
            have p4 : (k2 : Int) - 1 < ((n - k : Nat) : Int) := by omega
            have p5 : ((k2 : Int) - 1).toNat = k2 - 1 := by omega
            have p6 : IntKind.i64.wrap ((k2 : Int) - 1) = (k2 : Int) - 1 := IntWalk.i64_in _ (by omega)
            have p7 : kk < n := by omega
            by_cases huv : u = v
            · subst huv
              go_wp2_with fail
              go_region
              all_goals go_wp2
              go_roundg (n - (k + (k2 + 1)))
              case measure => omega
              case rel => exact ⟨kk, k2 + 1, dk, rfl, by go_num, by omega, by omega, Nat.le_refl _, by omega, HK.out.drew, HI.out.skip (keeps_neg (by omega) (by rw [HC.out.1]; exact HC.out.2.symm.trans (by congr 1; omega)))⟩
            · go_wp2_with fail
              go_region
              all_goals go_wp2
              go_roundg (n - (k + (k2 + 1)))
              case measure => omega
              case rel => exact ⟨kk + 1, k2 + 1, dk.setIfInBounds kk u, by go_num, by go_num, by omega, by omega, Nat.le_refl _, by omega, (HK.out.set (by rw [HS.out]; omega) u).drew, by have := HI.out.keep (by rw [HN.out]; omega) (keeps_pos (by rw [HC.out.1, show k + k2 - 1 = k + (k2 - 1) from by omega, HC.out.2]; exact huv)); rwa [HC.out.1] at this⟩
          · have hend : k + k2 = n := by omega
            have hd3 : decide ((k2 : Int) < ((n - k : Nat) : Int)) = false := decide_eq_false (by omega)
            have hcl : ∀ ty, (Builtin.clear_ #[27] ty #[.slice (some ⟨g, kk, none⟩) (n - kk) (cap - kk)]).run Try.prog wr = .ok (.tuple #[]) (wr.setCells g kk (List.replicate (n - kk) (.int .u32 0))) :=
              fun ty => Lib.run_clear_slice wr _ _ ty _ Try.underlying27 zero24 rfl rfl g kk _ _ (by omega) (fun j hj => by rw [HK.out.cell (by rw [HS.out]; omega)]; rfl) (fun j hj => HK.out.frozen _)
            have HF : Hid ((compactUpTo d n).length = kk ∧ Front w (wr.setCells g kk (List.replicate (n - kk) (.int .u32 0))) g m n (compactUpTo d n)) := by
              have hI := HI.out
              rw [hend] at hI
              refine ⟨hI.len, ⟨Go.Lib.lay dk kk (List.replicate (n - kk) 0), ?_, ?_, by rw [hI.len]; omega, fun j hj => ?_⟩⟩
              · have := Lies.lay (List.replicate (n - kk) 0) kk HK.out (by rw [HS.out, List.length_replicate]; omega)
                rwa [List.map_replicate] at this
              · rw [lay_size, HS.out]
              · rw [hI.len] at hj
                rw [hI.low j hj, lay_low _ _ _ _ (by rw [HS.out, List.length_replicate]; omega) hj]
            clear HK HI
            go_wp2
            go_ret
            exact ⟨by rw [HF.out.1]; rfl, HF.out.2⟩
      · go_wp2_with fail
        go_region
        all_goals go_wp2
        go_roundg (n - (k + 1))
        case measure => omega
        case rel =>
          refine ⟨k + 1, by omega, by omega, Nat.le_refl _, by go_num, HK.out.drew, fun j hj => ?_⟩
          by_cases e : j = k
          · subst e
            exact keeps_pos (by rw [HB.out.1, HB.out.2]; exact hdup)
          · exact HA.out j (by omega)
    · obtain rfl : k = n := by omega
      have hdk : decide ((k : Int) < (k : Int)) = false := decide_eq_false (by omega)
      have HF := Lib.hid (front_same HK.out HN.out (fun j hj => HA.out j (by rw [HN.out] at hj; exact hj)))
      go_wp2
      go_ret
      exact ⟨by rw [HF.out.1]; rfl, HF.out.2⟩
end Go.Proofs.Ytkhljamellgcfaa
/-
  The set of a row, plainly: what is left when a sorted row loses its equal neighbours.
-/
namespace Go.Proofs.Ytkhljamellgcfaa
open Go.Sort Go.Lib
def ins (x : Int) : List Int → List Int
  | [] => [x]
  | y :: l => if x < y then x :: y :: l else if x = y then y :: l else y :: ins x l
/-- The set of a row. -/
def mk (l : List Int) : List Int := l.foldr ins []
theorem ins_mem (x y : Int) : ∀ l, y ∈ ins x l ↔ y = x ∨ y ∈ l
  | [] => by simp [ins]
  | z :: l => by
    unfold ins
    split
    · simp
    · split
      · rename_i h; subst h; simp
      · simp only [List.mem_cons, ins_mem x y l]
        constructor
        · rintro (h | h | h) <;> simp [h]
        · rintro (h | h | h) <;> simp [h]
theorem mk_mem (y : Int) : ∀ l, y ∈ mk l ↔ y ∈ l
  | [] => by simp [mk]
  | x :: l => by
    have := mk_mem y l
    simp only [mk, List.foldr_cons] at this ⊢
    rw [ins_mem, this, List.mem_cons]
theorem ins_rise (x : Int) : ∀ l : List Int, l.Pairwise (· < ·) → (ins x l).Pairwise (· < ·)
  | [], _ => by simp [ins]
  | z :: l, h => by
    unfold ins
    rw [List.pairwise_cons] at h
    split
    · rename_i hz
      rw [List.pairwise_cons, List.pairwise_cons]
      refine ⟨fun a ha => ?_, h⟩
      rcases List.mem_cons.1 ha with rfl | ha
      · exact hz
      · have := h.1 a ha; omega
    · split
      · rw [List.pairwise_cons]; exact h
      · rw [List.pairwise_cons]
        refine ⟨fun a ha => ?_, ins_rise x l h.2⟩
        rcases (ins_mem x a l).1 ha with rfl | ha
        · omega
        · exact h.1 a ha
theorem mk_rise : ∀ l, (mk l).Pairwise (· < ·)
  | [] => by simp [mk]
  | x :: l => by
    have := mk_rise l
    simp only [mk, List.foldr_cons] at this ⊢
    exact ins_rise _ _ this
theorem rise_same : ∀ (a b : List Int), a.Pairwise (· < ·) → b.Pairwise (· < ·) → (∀ x, x ∈ a ↔ x ∈ b) → a = b
  | [], [], _, _, _ => rfl
  | [], y :: b, _, _, h => by have := (h y).2 (by simp); simp at this
  | x :: a, [], _, _, h => by have := (h x).1 (by simp); simp at this
  | x :: a, y :: b, ha, hb, h => by
    rw [List.pairwise_cons] at ha hb
    have hxy : x = y := by
      have h1 := (h x).1 (by simp)
      have h2 := (h y).2 (by simp)
      rcases List.mem_cons.1 h1 with h1 | h1
      · exact h1
      · rcases List.mem_cons.1 h2 with h2 | h2
        · exact h2.symm
        · have := hb.1 x h1; have := ha.1 y h2; omega
    subst hxy
    congr 1
    refine rise_same a b ha.2 hb.2 fun z => ⟨fun hz => ?_, fun hz => ?_⟩
    · rcases List.mem_cons.1 ((h z).1 (List.mem_cons_of_mem _ hz)) with e | h'
      · subst e; exact absurd (ha.1 z hz) (by omega)
      · exact h'
    · rcases List.mem_cons.1 ((h z).2 (List.mem_cons_of_mem _ hz)) with e | h'
      · subst e; exact absurd (hb.1 z hz) (by omega)
      · exact h'
theorem cup_mem (d : Array Int) (x : Int) : ∀ m, x ∈ compactUpTo d m ↔ ∃ j, j < m ∧ d[j]! = x
  | 0 => by simp [compactUpTo]
  | m + 1 => by
    rw [compactUpTo_succ, List.mem_append, cup_mem d x m]
    constructor
    · rintro (⟨j, hj, h⟩ | h)
      · exact ⟨j, by omega, h⟩
      · split at h
        · exact ⟨m, by omega, (List.mem_singleton.1 h).symm⟩
        · simp at h
    · rintro ⟨j, hj, h⟩
      by_cases e : j < m
      · exact .inl ⟨j, e, h⟩
      · obtain rfl : j = m := by omega
        by_cases k : keeps d j = true
        · exact .inr (by rw [if_pos k]; simp [h])
        · simp only [keeps, decide_eq_true_eq, not_or, Classical.not_not] at k
          exact .inl ⟨j - 1, by omega, by rw [← k.2]; exact h⟩
theorem cup_rise (d : Array Int) (n : Nat) (hs : SortedIn ltInt 0 n d) : ∀ m, m ≤ n → (compactUpTo d m).Pairwise (· < ·)
  | 0, _ => by simp [compactUpTo]
  | m + 1, hm => by
    rw [compactUpTo_succ, List.pairwise_append]
    refine ⟨cup_rise d n hs m (by omega), by split <;> simp, fun a ha b hb => ?_⟩
    split at hb
    · rename_i k
      rw [List.mem_singleton] at hb
      subst hb
      obtain ⟨j, hj, rfl⟩ := (cup_mem d a m).1 ha
      have h1 : ∀ i, i < m → d[i]! ≤ d[m]! := fun i hi => by
        have := hs i m (Nat.zero_le _) hi (by omega)
        simp [ltInt] at this
        exact this
      simp only [keeps, decide_eq_true_eq] at k
      have h2 : d[j]! ≤ d[m - 1]! := by
        by_cases e : j = m - 1
        · subst e; exact Int.le_refl _
        · have := hs j (m - 1) (Nat.zero_le _) (by omega) (by omega)
          simp [ltInt] at this
          exact this
      have h3 := h1 (m - 1) (by omega)
      have h4 : d[m]! ≠ d[m - 1]! := k.resolve_left (by omega)
      omega
    · simp at hb
theorem cup_mk {l : List Int} {R : Array Int} {n : Nat} (hn : l.length = n) (hp : PermIn 0 n l.toArray R) (hs : SortedIn ltInt 0 n R) : compactUpTo R n = mk l := by
  refine rise_same _ _ (cup_rise R n hs n (Nat.le_refl _)) (mk_rise l) fun x => ?_
  rw [cup_mem, mk_mem]
  have hz : R.size = n := by rw [hp.1]; simpa using hn
  have hperm := hp.2.2
  have e1 : R.extract 0 n = R := by rw [← hz]; exact Array.extract_size
  have e2 : l.toArray.extract 0 n = l.toArray := by rw [← hn]; exact Array.extract_size (xs := l.toArray)
  rw [e1, e2] at hperm
  have := hperm.mem_iff (a := x)
  rw [← this]
  constructor
  · rintro ⟨j, hj, rfl⟩
    rw [getElem!_pos R j (by omega)]
    exact Array.mem_toList_iff.2 (Array.getElem_mem _)
  · intro h
    obtain ⟨j, hj, e⟩ := Array.mem_iff_getElem.1 (Array.mem_toList_iff.1 h)
    exact ⟨j, by omega, by rw [getElem!_pos R j hj]; exact e⟩
theorem ins_len (x : Int) : ∀ l, (ins x l).length ≤ l.length + 1
  | [] => by simp [ins]
  | z :: l => by
    unfold ins
    split
    · simp
    · split
      · simp
      · have := ins_len x l; simp; omega
theorem mk_len : ∀ l, (mk l).length ≤ l.length
  | [] => by simp [mk]
  | x :: l => by
    have := mk_len l
    simp only [mk, List.foldr_cons, List.length_cons] at this ⊢
    have := ins_len x (l.foldr ins [])
    omega
end Go.Proofs.Ytkhljamellgcfaa
/-
  Package set: Make.
-/
namespace Go.Proofs.Ytkhljamellgcfaa
open Go.RowKit Go.Sort Go.Lib Go.Proofs.YtkhljamellgcfaaW.PrintWords
set_option linter.unusedVariables false
set_option linter.unusedSimpArgs false
theorem ins_nil (w : World) : Calls Try.prog 52 #[.slice none 0 0, .int .i64 0, .int .i64 0] w fun e w' => e = .returned (.tuple #[]) ∧ w' = w := by
  go_enter Try.func52, Try.ntmps52
  go_wp2
  go_loopw [6] (fun vi wr => vi = .int .i64 1 ∧ wr = w) (fun _ _ => 0)
  case atStart => exact ⟨rfl, rfl⟩
  case round =>
    obtain ⟨rfl, rfl⟩ := hrel
    go_wp2
    go_end0
    exact ⟨rfl, rfl⟩
set_option maxRecDepth 100000 in
set_option maxHeartbeats 4000000 in
theorem pdq_nil (l : Int) (w : World) : Calls Try.prog 50 #[.slice none 0 0, .int .i64 0, .int .i64 0, .int .i64 l] w fun e w' => e = .returned (.tuple #[]) ∧ w' = w := by
  go_enter Try.func50, Try.ntmps50
  go_wp2
  go_loopg [1, 2] 1 (fun _ v1 v2 wr => v1 = .int .i64 0 ∧ v2 = .int .i64 0 ∧ wr = w)
  case atStart => exact ⟨rfl, rfl, rfl⟩
  case round =>
    obtain ⟨rfl, rfl, rfl⟩ := hrel
    go_wp2_with (go_at_call 52; refine (ins_nil _).mono ?_; rintro e w' ⟨rfl, rfl⟩)
    exact bodyPost_ret (results_none rfl _ _ _) rfl ⟨rfl, rfl⟩
theorem sort_nil (w : World) : Calls Try.prog 45 #[.slice none 0 0] w fun e w' => e = .returned (.tuple #[]) ∧ w' = w := by
  go_enter Try.func45, Try.ntmps45
  go_wp2_with (first | (go_at_call 51; refine (len_w 0 (by decide) _).mono ?_; rintro e w' ⟨L, rfl, hL, rfl⟩; clear hL) | (go_at_call 50; refine (pdq_nil _ _).mono ?_; rintro e w' ⟨rfl, rfl⟩))
  go_end0
  exact ⟨rfl, rfl⟩
theorem sort_w {g m n cap : Nat} {d : Array Int} {w : World} (h : Lies w w g m d) (hn : d.size = n) (hsz : n < 65536) :
    Calls Try.prog 45 #[.slice (some ⟨g, 0, none⟩) n cap] w (Sorted_ 0 n g m d w) := by
  have HL := Lib.hid h
  have HN := Lib.hid hn
  have HZ := Lib.hid hsz
  have hw : IntKind.u64.wrap (n : Int) = (n : Int) := by rw [IntKind.wrap_u64]; omega
  clear h hn hsz
  go_enter Try.func45, Try.ntmps45
  go_wp2_with (first | (go_at_call 51; refine (len_w n HZ.out _).mono ?_; rintro e w' ⟨L, rfl, hL, rfl⟩; clear hL) | (go_at_call 50; refine (pdq_w HZ.out (n + 1) 0 n _ d _ (by omega) (Nat.zero_le _) (Nat.le_refl _) HN.out HL.out (.inl rfl)).mono ?_; rintro r w' ⟨rfl, hR⟩; have HR := Lib.hid hR; clear hR))
  go_end0
  exact ⟨rfl, HR.out⟩
theorem collect_w (Bs : Nat) (A : Option Addr) (c : Nat) (ls : List Int) (hl : ls.length < 65536) (w : World) (h1 : Boxed w Bs 27 (.slice A ls.length c)) (hr : ReadsInt w .u32 A ls.length ls) :
    Calls Try.prog 44 #[.func (.func 46) #[] #[.pointer (some ⟨Bs, 0, none⟩)]] w fun e w' => ∃ v, e = .returned v ∧ w'.ownsRow w.heap.size 24 1 v ls.length (nums .u32 ls) ∧ Below w.heap.size w w' := by
  have H1 := Lib.hid h1
  have HR := Lib.hid hr
  have HZ := Lib.hid hl
  clear h1 hr hl
  go_enter Try.func44, Try.ntmps44
  go_wp2_with (go_at_call 49; refine (appseq_w Bs A c ls (by have := HZ.out; omega) _ H1.out HR.out).mono ?_; rintro e w' ⟨v, rfl, hv⟩; have HV := Lib.hid hv; clear hv)
  go_ret
  exact ⟨v, rfl, HV.out⟩
theorem lies_of_own {w : World} {b g cap n : Nat} {cur : Array Value} {ls : List Int} (hg : w.heap[g]? = some (.cells cur 24 (0, 0))) (hs : cur.size = cap) (hn : ls.length = n) (hc : n ≤ cap) (ht : cur.toList.take n = nums .u32 ls) : Lies w w g cap ls.toArray := by
  subst hn
  refine ⟨Off.refl _ _, by simpa using hc, cur, hg, hs, fun i hi => ?_⟩
  have hi' : i < ls.length := by simpa using hi
  have h1 : (cur.toList.take ls.length)[i]? = (nums .u32 ls)[i]? := by rw [ht]
  rw [List.getElem?_take, if_pos hi', Array.getElem?_toList] at h1
  rw [h1, getElem!_pos ls.toArray i hi]
  simp [nums, hi']
theorem own_of_front {w0 w : World} {b g cap n : Nat} {L : List Int} (h : Front w0 w g cap n L) (hg : b ≤ g) (hc : n ≤ cap) (hm : cap ≤ maxLen) : w.ownsRow b 24 1 (.slice (some ⟨g, 0, none⟩) L.length cap) L.length (nums .u32 L) := by
  obtain ⟨d', hl, hs, hn, hf⟩ := h.lies
  obtain ⟨cur, hb, hz, hcell⟩ := hl.row
  refine ⟨by simp [nums], .inr ⟨g, cap, cur, rfl, hg, hb, by omega, hm, by rw [hz]; omega, ?_⟩⟩
  apply List.ext_getElem?
  intro i
  rw [List.getElem?_take]
  by_cases hi : i < L.length
  · rw [if_pos (by omega), Array.getElem?_toList, hcell i (by omega)]
    have := hf i hi
    simp [nums, this]
  · rw [if_neg (by omega)]
    exact (List.getElem?_eq_none (by simp [nums]; omega)).symm
theorem nil_own {w : World} {b n : Nat} {v : Value} {ls : List Int} (h : w.ownsRow b 24 1 v n (nums .u32 ls)) (hn : ls.length = n) :
    (v = .slice none 0 0 ∧ ls = []) ∨ ∃ g cap, v = .slice (some ⟨g, 0, none⟩) n cap ∧ b ≤ g ∧ n ≤ cap ∧ cap ≤ maxLen ∧ Lies w w g cap ls.toArray := by
  obtain ⟨_, h | ⟨g, cap, cur, rfl, hg, hb, hc, hm, hz, ht⟩⟩ := h
  · exact .inl ⟨h.1, List.eq_nil_of_length_eq_zero (by omega)⟩
  · exact .inr ⟨g, cap, rfl, hg, hc, hm, lies_of_own (b := b) hb (by omega) hn hc (by simpa using ht)⟩
def MadeRow (ls : List Int) (w : World) (e : Ending) (w' : World) : Prop :=
  Below w.heap.size w w' ∧ ((e = .returned (.slice none 0 0) ∧ ls = []) ∨ ∃ g cap R, e = .returned (.slice (some ⟨g, 0, none⟩) ls.length cap) ∧ w.heap.size ≤ g ∧ ls.length ≤ cap ∧ cap ≤ maxLen ∧ (PermIn 0 ls.length ls.toArray R ∧ SortedIn ltA 0 ls.length R) ∧ Lies w' w' g cap R)
theorem below_lies {w w1 w2 : World} {g m : Nat} {d : Array Int} (h : Below w.heap.size w w1) (k : Lies w1 w2 g m d) (hg : w.heap.size ≤ g) : Below w.heap.size w w2 :=
  ((Off.of_below h).trans (k.off.mono (fun i _ e => by omega))).below (Nat.le_refl _)
theorem sorted_w (Bs : Nat) (A : Option Addr) (c : Nat) (ls : List Int) (hl : ls.length < 65536) (w : World) (h1 : Boxed w Bs 27 (.slice A ls.length c)) (hr : ReadsInt w .u32 A ls.length ls) :
    Calls Try.prog 39 #[.func (.func 46) #[] #[.pointer (some ⟨Bs, 0, none⟩)]] w (MadeRow ls w) := by
  have H1 := Lib.hid h1
  have HR := Lib.hid hr
  have HZ := Lib.hid hl
  clear h1 hr hl
  go_enter Try.func39, Try.ntmps39
  go_upto_region 2 with (go_at_call 44; refine (collect_w Bs A c ls HZ.out _ H1.out HR.out).mono ?_; rintro e w' ⟨v, rfl, hv⟩; have HV := Lib.hid hv; clear hv)
  have hvv := nil_own HV.out.1 rfl
  rcases hvv with ⟨rfl, he⟩ | ⟨g, cap, rfl, hg, hc, hm, hl⟩
  · have HE := Lib.hid he
    clear he
    go_wp2_with (go_at_call 45; refine (sort_nil _).mono ?_; rintro e w' ⟨rfl, rfl⟩)
    go_ret
    exact ⟨HV.out.2, .inl ⟨rfl, HE.out⟩⟩
  · have HLL := Lib.hid hl
    have HG := Lib.hid (show w.heap.size ≤ g ∧ ls.length ≤ cap ∧ cap ≤ maxLen from ⟨hg, hc, hm⟩)
    clear hl hg hc hm
    go_wp2_with (go_at_call 45; refine (sort_w HLL.out (by simp) HZ.out).mono ?_; rintro r w' ⟨rfl, hR⟩; have HRR := Lib.hid hR; clear hR)
    go_ret
    obtain ⟨R, hs, hl⟩ := HRR.out
    exact ⟨below_lies HV.out.2 hl HG.out.1, .inr ⟨g, cap, R, rfl, HG.out.1, HG.out.2.1, HG.out.2.2, hs, hl.here⟩⟩
theorem compact_nil (w : World) : Calls Try.prog 38 #[.slice none 0 0] w fun e w' => e = .returned (.slice none 0 0) ∧ w' = w := by
  go_enter Try.func38, Try.ntmps38
  go_wp2
  go_ret
  exact ⟨rfl, rfl⟩
theorem below_made {w w2 : World} {o : Obj} (h : Below (w.alloc o).heap.size (w.alloc o) w2) : Below w.heap.size w w2 :=
  ((off_alloc w o).mono (ψ := fun k => w.heap.size ≤ k) (fun _ _ h => h.elim) |>.then_ (Off.of_below h) (fun i hi h' => by simp at h'; omega)).below (Nat.le_refl _)
theorem make_w (A : Option Addr) (c : Nat) (ls : List Int) (hl : ls.length < 65536) (w : World) (hr : ReadsInt w .u32 A ls.length ls) :
    Calls Try.prog 25 #[.slice A ls.length c] w fun e w' => ∃ v, e = .returned v ∧ w'.ownsRow w.heap.size 24 1 v (mk ls).length (nums .u32 (mk ls)) ∧ Below w.heap.size w w' := by
  have HR := Lib.hid hr
  have HZ := Lib.hid hl
  clear hr hl
  go_enter Try.func25, Try.ntmps25
  go_wp2_with (first | (go_at_call 40; refine (values_w _ _ _ _).mono ?_; rintro e w' ⟨rfl, rfl⟩) | (go_at_call 39; refine (sorted_w w.heap.size A c ls HZ.out _ (Boxed.new w _ _) (readsInt_of_block HR.out (fun ad e hp => Below.heap_alloc _ _ _ (by obtain ⟨ad', e', hc⟩ := HR.out.2.2 hp; rw [e] at e'; cases e'; have := World.block_lt_of_cell? w _ (hc 0 hp); unfold Addr.add at this; simpa using this)))).mono ?_; rintro e w2 ⟨hB, ⟨rfl, he⟩ | ⟨g, cap, R, rfl, hg, hc, hm, hs, hl⟩⟩))
  · have HE := Lib.hid he
    have HB := Lib.hid hB
    clear he hB
    refine (compact_nil _).mono ?_
    rintro e w' ⟨rfl, rfl⟩
    go_wp2
    go_ret
    refine ⟨_, rfl, by rw [HE.out]; exact own_nil _ _ _ _, ?_⟩
    exact below_made HB.out
  · have HB := Lib.hid hB
    have HL := Lib.hid hl
    have HS := Lib.hid hs
    have HG := Lib.hid (show w.heap.size ≤ g ∧ ls.length ≤ cap ∧ cap ≤ maxLen from ⟨by simp at hg; omega, hc, hm⟩)
    have HC := Lib.hid (show R.size = ls.length from by rw [hs.1.1]; simp)
    clear hB hl hs hg hc hm
    refine (compact_w HL.out HC.out HZ.out HG.out.2.1).mono ?_
    rintro e w' ⟨rfl, hf⟩
    rw [cup_mk rfl HS.out.1 HS.out.2] at hf ⊢
    have HF := Lib.hid hf
    clear hf
    go_wp2
    go_ret
    refine ⟨_, rfl, own_of_front HF.out HG.out.1 HG.out.2.1 HG.out.2.2, ?_⟩
    obtain ⟨d', h1, _⟩ := HF.out.lies
    exact below_lies (below_made HB.out) h1 HG.out.1

def set_Make.f (l0 : List Int) : Option (List Int) := if l0.length < 65536 then some (mk l0) else none
theorem set_Make.calls (A0 : Option Addr) (c0 : Nat) (l0 : List Int) (r : List Int) (w : World) (hr0 : Kd.C (Kd.int .u32) w A0 l0.length l0) (hc0 : l0.length ≤ c0) (h : set_Make.f l0 = some r) :
    Calls Try.prog 25 #[.slice A0 l0.length c0] w fun e w' => ∃ v0_ : Value, e = .returned (v0_) ∧ Kd.R (Kd.int .u32) 24 w' w.heap.size (fun _ => True) v0_ r ∧ Below w.heap.size w w' := by
  unfold set_Make.f at h
  split at h
  next hl =>
    cases h
    refine (make_w A0 c0 l0 hl w (rdu hr0)).mono ?_
    rintro e w' ⟨v, rfl, hrow, hB⟩
    exact ⟨v, rfl, Kd.R_of_own hrow (fun _ _ => trivial), hB⟩
  next => cases h
end Go.Proofs.Ytkhljamellgcfaa
-- written by a program of this session (hprint.py), over the kit's printer
namespace Go.Proofs.Ytkhljamellgcfaa.PSet
open Go.RowKit Go.Proofs.YtkhljamellgcfaaW.PrintWords Go.Proofs.YtkhljamellgcfaaW.PrintLast Go.Proofs.YtkhljamellgcfaaW.PrintMore
attribute [local go_sem] max2_int min2_int max_two min_two max_three min_three max_four min_four   -- for this text's walks alone
set_option linter.unusedVariables false
set_option linter.unusedSimpArgs false

-- NOT PRINTED: function 59 (api_Addr_59)

-- NOT PRINTED: function 50 (api_Addr_50)

-- NOT PRINTED: function 45 (api_Addr_45)

-- NOT PRINTED: function 39 (api_Addr_39)

-- NOT PRINTED: function 40 (api_Addr_40)

-- BY HAND: function 25 (set_Make)

/-! ### set_Right: function 26 -/
def set_Right.l0 : Nat → List Int → Int → Int → Option (Bool)
 | 0, _, _, _ => none
 | k + 1, x0, x5, x6 => if x6 < x5 then (if x6 > 0 then (if 0 ≤ (wrap64 (x6 - 1)) then (if (wrap64 (x6 - 1)) < (x0.length : Int) then (if 0 ≤ x6 then (if x6 < (x0.length : Int) then (if (rd x0 (wrap64 (x6 - 1))) ≥ (rd x0 x6) then (some false) else (set_Right.l0 k x0 x5 (wrap64 (x6 + 1)))) else (none)) else (none)) else (none)) else (none)) else (set_Right.l0 k x0 x5 (wrap64 (x6 + 1)))) else (some true)
def set_Right.f (k : Nat) (l0 : List Int) : Option (Bool) := set_Right.l0 k l0 (l0.length : Int) 0
theorem set_Right.mono_l : ∀ k, (∀ y0 y1 y2, LeO (set_Right.l0 k y0 y1 y2) (set_Right.l0 (k + 1) y0 y1 y2))
 | 0 => fun _ _ _ r h => by simp [set_Right.l0] at h
 | k + 1 => by
  have ih0 := set_Right.mono_l k
  · intro y0 y1 y2
    unfold set_Right.l0
    repeat' first
    | (with_reducible exact ih0 _ _ _)
    | (with_reducible exact LeO.refl _)
    | (with_reducible exact LeO.none _)
    | (with_reducible refine LeO.ite ?_ ?_)
    | (with_reducible refine LeO.bind ?_ (fun _ => ?_))
    | exact ih0 _ _ _
    | exact LeO.none _
    | refine LeO.ite ?_ ?_
    | refine LeO.bind ?_ (fun _ => ?_)
theorem set_Right.mono : ∀ a0 k, LeO (set_Right.f k a0) (set_Right.f (k + 1) a0) := by
 intro a0 k
 have ih0 := set_Right.mono_l k
 unfold set_Right.f
 repeat' first
  | (with_reducible exact ih0 _ _ _)
  | (with_reducible exact LeO.refl _)
  | (with_reducible exact LeO.none _)
  | (with_reducible refine LeO.ite ?_ ?_)
  | (with_reducible refine LeO.bind ?_ (fun _ => ?_))
  | exact ih0 _ _ _
  | exact LeO.none _
  | refine LeO.ite ?_ ?_
  | refine LeO.bind ?_ (fun _ => ?_)
set_option maxHeartbeats 8000000 in
set_option maxRecDepth 100000 in
theorem set_Right.calls (k : Nat) (A0 : Option Addr) (c0 : Nat) (l0 : List Int) (r : Bool) (w : World) (hr0 : Kd.C (Kd.int .u32) w A0 l0.length l0) (hc0 : l0.length ≤ c0) (h : set_Right.f k l0 = some r) :
 Calls Try.prog 26 #[.slice A0 l0.length c0] w fun e w' => e = .returned (.bool r) ∧ Drawn0 w w' := by
 have HR0 := Aside0.mk hr0
 have HC0 := Aside0.mk hc0
 clear hr0 hc0
 have H : (set_Right.l0 k l0 (l0.length : Int) 0) = some r := h
 clear h
 have H' := Aside0.mk H
 clear H
 go_enter Try.func26, Try.ntmps26
 go_wp2
 repeat (go_quiet (fail); try go_wp2)
 go_loopg [6] k (fun kq v6 w' => ∃ (x6_1 : Int), v6 = .int .i64 x6_1 ∧ Aside0 (set_Right.l0 kq l0 (l0.length : Int) x6_1 = some r) ∧ Aside0 (kq ≤ k) ∧ Drawn0 w w')
 case atStart => exact ⟨(0), (by first | rfl | (simp; done) | (simp [*]; done)), H', ⟨Nat.le_refl _⟩, by repeat (first | exact Drawn0.refl _ | apply Drawn0.step)⟩
 case round =>
  clear H'
  obtain ⟨x6_1, rfl, HA, HK1, ⟨m1, rfl⟩⟩ := hrel
  cases gk with
  | zero => exact absurd HA.out (by simp [set_Right.l0])
  | succ k1 =>
   have H := HA.out
   clear HA
   simp only [set_Right.l0] at H
   by_cases c2 : x6_1 < (l0.length : Int)
   · rw [if_pos c2] at H
     have c2b0 : decide (x6_1 < (l0.length : Int)) = true := decide_eq_true c2
     clear c2
     by_cases c3 : x6_1 > 0
     · rw [if_pos c3] at H
       have c3b0 : decide (0 < x6_1) = true := decide_eq_true c3
       clear c3
       obtain ⟨ji4, hji4⟩ : ∃ j_ : Int, (wrap64 (x6_1 - 1)) = j_ := ⟨_, rfl⟩
       replace H : (if 0 ≤ (ji4) then (if (ji4) < (l0.length : Int) then (if 0 ≤ x6_1 then (if x6_1 < (l0.length : Int) then (if (rd l0 (ji4)) ≥ (rd l0 x6_1) then (some false) else (set_Right.l0 k1 l0 (l0.length : Int) (wrap64 (x6_1 + 1)))) else (none)) else (none)) else (none)) else (none)) = some r := by first | (rw [hji4] at H; exact H) | (simp only [hji4] at H ⊢; exact H)
       have hji4w : (IntKind.i64.wrap (x6_1 - 1)) = ji4 := (i64_w _).trans hji4
       by_cases c5 : 0 ≤ (ji4)
       case neg => rw [if_neg c5] at H; exact absurd H (by simp)
       rw [if_pos c5] at H
       have c5b0 : decide (0 ≤ (ji4)) = true := decide_eq_true c5
       clear c5
       by_cases c6 : (ji4) < (l0.length : Int)
       case neg => rw [if_neg c6] at H; exact absurd H (by simp)
       rw [if_pos c6] at H
       have c6b0 : decide ((ji4) < (l0.length : Int)) = true := decide_eq_true c6
       clear c6
       by_cases c7 : 0 ≤ x6_1
       case neg => rw [if_neg c7] at H; exact absurd H (by simp)
       rw [if_pos c7] at H
       have c7b0 : decide (0 ≤ x6_1) = true := decide_eq_true c7
       clear c7
       by_cases c8 : x6_1 < (l0.length : Int)
       case neg => rw [if_neg c8] at H; exact absurd H (by simp)
       rw [if_pos c8] at H
       have c8b0 : decide (x6_1 < (l0.length : Int)) = true := decide_eq_true c8
       clear c8
       by_cases c9 : (rd l0 (ji4)) ≥ (rd l0 x6_1)
       · rw [if_pos c9] at H
         have c9b0 : decide ((rd l0 x6_1) ≤ (rd l0 (ji4))) = true := decide_eq_true c9
         clear c9
         obtain rfl := Option.some.inj H
         have p325 : 0 ≤ ((ji4) : Int) := of_decide_eq_true (by first | (with_reducible assumption) | assumption)
         have q325 : (ji4) < (l0.length : Int) := of_decide_eq_true (by first | (with_reducible assumption) | assumption)
         obtain ⟨ad325, e325, hx325_0⟩ := Kd.at_int HR0.out (ji4) p325 q325
         cases e325
         replace p325 := eq_true p325
         replace q325 := eq_true q325
         have p326 : 0 ≤ (x6_1 : Int) := of_decide_eq_true (by first | (with_reducible assumption) | assumption)
         have q326 : x6_1 < (l0.length : Int) := of_decide_eq_true (by first | (with_reducible assumption) | assumption)
         obtain ⟨ad326, e326, hx326_0⟩ := Kd.at_int HR0.out x6_1 p326 q326
         obtain rfl : ad325 = ad326 := (by injection e326)
         replace p326 := eq_true p326
         replace q326 := eq_true q326
         go_wp2
         repeat (go_quiet (fail); try go_wp2)
         go_ret
         exact ⟨by first | rfl | (simp; done) | (simp only [← hji4] <;> (first | rfl | simp)) | (simp [*]; done), by repeat (first | exact Drawn0.refl _ | apply Drawn0.step)⟩
       · rw [if_neg c9] at H
         have c9b0 : decide ((rd l0 x6_1) ≤ (rd l0 (ji4))) = false := decide_eq_false c9
         clear c9
         have H' := Aside0.mk H
         clear H
         have p325 : 0 ≤ ((ji4) : Int) := of_decide_eq_true (by first | (with_reducible assumption) | assumption)
         have q325 : (ji4) < (l0.length : Int) := of_decide_eq_true (by first | (with_reducible assumption) | assumption)
         obtain ⟨ad325, e325, hx325_0⟩ := Kd.at_int HR0.out (ji4) p325 q325
         cases e325
         replace p325 := eq_true p325
         replace q325 := eq_true q325
         have p326 : 0 ≤ (x6_1 : Int) := of_decide_eq_true (by first | (with_reducible assumption) | assumption)
         have q326 : x6_1 < (l0.length : Int) := of_decide_eq_true (by first | (with_reducible assumption) | assumption)
         obtain ⟨ad326, e326, hx326_0⟩ := Kd.at_int HR0.out x6_1 p326 q326
         obtain rfl : ad325 = ad326 := (by injection e326)
         replace p326 := eq_true p326
         replace q326 := eq_true q326
         go_wp2
         repeat (go_quiet (fail); try go_wp2)
         go_roundg k1
         case measure => have := HK1.out; omega
         case rel => exact ⟨(wrap64 (x6_1 + 1)), (by first | rfl | (simp; done) | (simp [*]; done)), H', ⟨by have := HK1.out; omega⟩, by repeat (first | exact Drawn0.refl _ | apply Drawn0.step)⟩
     · rw [if_neg c3] at H
       have c3b0 : decide (0 < x6_1) = false := decide_eq_false c3
       clear c3
       have H' := Aside0.mk H
       clear H
       go_wp2
       repeat (go_quiet (fail); try go_wp2)
       go_roundg k1
       case measure => have := HK1.out; omega
       case rel => exact ⟨(wrap64 (x6_1 + 1)), (by first | rfl | (simp; done) | (simp [*]; done)), H', ⟨by have := HK1.out; omega⟩, by repeat (first | exact Drawn0.refl _ | apply Drawn0.step)⟩
   · rw [if_neg c2] at H
     have c2b0 : decide (x6_1 < (l0.length : Int)) = false := decide_eq_false c2
     clear c2
     obtain rfl := Option.some.inj H
     go_wp2
     repeat (go_quiet (fail); try go_wp2)
     go_ret
     exact ⟨by first | rfl | (simp; done) | (simp [*]; done), by repeat (first | exact Drawn0.refl _ | apply Drawn0.step)⟩


end Go.Proofs.Ytkhljamellgcfaa.PSet
