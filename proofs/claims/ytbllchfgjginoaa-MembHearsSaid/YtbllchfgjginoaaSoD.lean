/-
  A heap, where it lies.
-/
import Derived.Test.YtbllchfgjginoaaSoJ
import Derived.Sort.LotC
namespace Go.Proofs.Ytbllchfgjginoaa
open Go.RowKit Go.Sort
set_option linter.unusedVariables false
set_option linter.unusedSimpArgs false
theorem sift_end {hi first root : Nat} {d : Array Int} (h : 2 * root + 1 ≥ hi) : siftDown ltA hi first root d = d := by rw [siftDown, dif_pos h]
theorem sift_go {hi first root c : Nat} {d : Array Int} (h : ¬ 2 * root + 1 ≥ hi)
    (hc : c = 2 * root + 1 ∧ (2 * root + 2 < hi → ltA d[first + (2 * root + 1)]! d[first + (2 * root + 1) + 1]! = false) ∨ c = 2 * root + 2 ∧ 2 * root + 2 < hi ∧ ltA d[first + (2 * root + 1)]! d[first + (2 * root + 1) + 1]! = true) :
    siftDown ltA hi first root d = if ltA d[first + root]! d[first + c]! = true then siftDown ltA hi first c (swp d (first + root) (first + c)) else d := by
  rw [siftDown, dif_neg h]
  rcases hc with ⟨rfl, h1⟩ | ⟨rfl, h1, h2⟩
  · have e : (decide (2 * root + 1 + 1 < hi) && ltA d[first + (2 * root + 1)]! d[first + (2 * root + 1) + 1]!) = false := by
      by_cases h3 : 2 * root + 2 < hi
      · rw [h1 h3]; simp
      · simp [show ¬ 2 * root + 1 + 1 < hi by omega]
    rw [if_neg (by rw [e]; decide)]
    cases hl : ltA d[first + root]! d[first + (2 * root + 1)]!
    · simp
    · simp
  · have e : (decide (2 * root + 1 + 1 < hi) && ltA d[first + (2 * root + 1)]! d[first + (2 * root + 1) + 1]!) = true := by
      rw [h2]; simp; omega
    rw [if_pos e]
    cases hl : ltA d[first + root]! d[first + (2 * root + 2)]!
    · simp
    · simp [h1]
set_option maxHeartbeats 16000000 in
set_option maxRecDepth 100000 in
theorem sift_w {g m cap lo hi first : Nat} {d : Array Int} {w : World} (h : Lies w w g m d) (hf : first + hi ≤ d.size) (hsz : d.size < 1000000000000) (hlo : lo < 1000000000000) :
    Calls Try.prog 95 #[.slice (some ⟨g, 0, none⟩) d.size cap, .int .i64 lo, .int .i64 hi, .int .i64 first] w fun e w' => e = .returned (.tuple #[]) ∧ Lies w w' g m (siftDown ltA hi first lo d) := by
  have HL := Lib.hid h
  clear h
  go_enter Try.func95, Try.ntmps95
  go_wp2
  go_loopw [8] (fun vi wr => ∃ (i : Nat) (dk : Array Int), vi = .int .i64 i ∧ i < 1000000000000 ∧ dk.size = d.size ∧ Hid (Lies w wr g m dk) ∧ Hid (siftDown ltA hi first i dk = siftDown ltA hi first lo d)) (fun vi _ => 1000000000000 - (intOf vi).toNat)
  case atStart => exact ⟨lo, d, rfl, hlo, rfl, HL, rfl⟩
  case round =>
    obtain ⟨i, dk, rfl, hib, hsk, HK, HO⟩ := hrel
    clear HL
    obtain ⟨G, hG⟩ : ∃ G : Nat → Int, ∀ t, G t = dk[t]! := ⟨fun t => dk[t]!, fun _ => rfl⟩
    have HG := Lib.hid hG
    have HS := Lib.hid hsk
    clear hG hsk
    have hcw := HK.out.cells HG.out
    have hfw := HK.out.free
    rw [HS.out] at hcw hfw
    by_cases hc : 2 * i + 1 ≥ hi
    · have hd : decide (hi ≤ 2 * i + 1) = true := decide_eq_true hc
      have hd2 : decide ((hi : Int) ≤ 2 * (i : Int) + 1) = true := decide_eq_true (by omega)
      go_wp2
      go_end0
      exact ⟨rfl, by rw [← HO.out, sift_end hc]; exact HK.out⟩
    · have hd2 : decide ((hi : Int) ≤ 2 * (i : Int) + 1) = false := decide_eq_false (by omega)
      go_wp2
      obtain ⟨c, hcc⟩ : ∃ c : Nat, c = 2 * i + 1 := ⟨_, rfl⟩
      rw [show 2 * (i : Int) + 1 = (c : Int) from by omega]
      have HC := Lib.hid hcc
      have b1 : c < hi := by omega
      have b2 : i < c := by omega
      clear hd2 hcc
      have s1 : IntKind.i64.wrap ((c : Int) + 1) = (c : Int) + 1 := IntWalk.i64_in _ (by omega)
      have xw1 : IntKind.i64.wrap ((first : Int) + (c : Int)) = (first : Int) + (c : Int) := IntWalk.i64_in _ (by omega)
      have xa1 : (0 : Int) ≤ (first : Int) + (c : Int) := by omega
      have xb1 : (first : Int) + (c : Int) < (d.size : Int) := by omega
      have xc1 : ((first : Int) + (c : Int)).toNat = first + c := by omega
      have xw2 : IntKind.i64.wrap ((first : Int) + (i : Int)) = (first : Int) + (i : Int) := IntWalk.i64_in _ (by omega)
      have xa2 : (0 : Int) ≤ (first : Int) + (i : Int) := by omega
      have xb2 : (first : Int) + (i : Int) < (d.size : Int) := by omega
      have xc2 : ((first : Int) + (i : Int)).toNat = first + i := by omega
      have q1 : first + c < d.size := by omega
      have q2 : first + i < d.size := by omega
      by_cases h2 : c + 1 < hi
      · have q3 : first + c + 1 < d.size := by omega
        have hd3 : decide ((c : Int) + 1 < (hi : Int)) = true := decide_eq_true (by omega)
        have xw3 : IntKind.i64.wrap ((first : Int) + (c : Int) + 1) = (first : Int) + (c : Int) + 1 := IntWalk.i64_in _ (by omega)
        have xa3 : (0 : Int) ≤ (first : Int) + (c : Int) + 1 := by omega
        have xb3 : (first : Int) + (c : Int) + 1 < (d.size : Int) := by omega
        have xc3 : ((first : Int) + (c : Int) + 1).toNat = first + c + 1 := by omega
        go_quiet ((go_at_call 81; exact Calls.quiet_of_same (less_w _ _ _)))
        go_wp2
        · have hl2 : ltA (G (first + c)) (G (first + c + 1)) = true := by assumption
          have HL2 := Lib.hid hl2
          clear hl2
          obtain ⟨c1, hc1⟩ : ∃ c1 : Nat, c1 = c + 1 := ⟨_, rfl⟩
          rw [show (c : Int) + 1 = (c1 : Int) from by omega]
          have xw4 : IntKind.i64.wrap ((first : Int) + (c1 : Int)) = (first : Int) + (c1 : Int) := IntWalk.i64_in _ (by omega)
          have xa4 : (0 : Int) ≤ (first : Int) + (c1 : Int) := by omega
          have xb4 : (first : Int) + (c1 : Int) < (d.size : Int) := by omega
          have xc4 : ((first : Int) + (c1 : Int)).toNat = first + c1 := by omega
          have q4 : first + c1 < d.size := by omega
          have HC1 := Lib.hid hc1
          clear hc1
          generalize hW_ : wr.drewN nq = W3
          have HK3 : Hid (Lies w W3 g m dk) := by rw [← hW_]; exact HK.out.drewN _
          clear hW_ hcw hfw HK
          have hcw := HK3.out.cells HG.out
          have hfw := HK3.out.free
          rw [HS.out] at hcw hfw
          have HE : Hid (siftDown ltA hi first i dk = if ltA dk[first + i]! dk[first + c1]! = true then siftDown ltA hi first (c1) (swp dk (first + i) (first + (c1))) else dk) := sift_go (by have := HC.out; omega) (.inr ⟨by have := HC.out; have := HC1.out; omega, by have := HC.out; omega, by rw [← HC.out, ← HG.out, ← HG.out]; exact HL2.out⟩)
          go_quiet ((go_at_call 81; exact Calls.quiet_of_same (less_w _ _ _)))
          go_wp2
          · have hl0 : (!ltA (G (first + i)) (G (first + c1))) = true := by assumption
            have hl : ltA (G (first + i)) (G (first + c1)) = false := by simpa using hl0
            (try simp only [Exit.inBlock, Exit.then])
            refine bodyPost_ret (results_none rfl _ _ _) rfl ?_
            exact ⟨rfl, by rw [← HO.out, HE.out, if_neg (by rw [← HG.out, ← HG.out, hl]; decide)]; exact HK3.out.drewN _⟩
          · have hl0 : (!ltA (G (first + i)) (G (first + c1))) = false := by assumption
            have hl : ltA (G (first + i)) (G (first + c1)) = true := by simpa using hl0
            clear hl0
            have n1 : i ≠ c1 := by have := HC.out; have := HC1.out; omega
            have n2 : c1 ≠ i := Ne.symm n1
            go_region
            all_goals go_wp2
            go_roundw
            case rel => exact ⟨c1, swp dk (first + i) (first + c1), by go_num, by have := HC.out; have := HC1.out; omega, by rw [size_swp]; exact HS.out, (HK3.out.drewN nq).swpG HG.out (by have := HS.out; omega) (by have := HS.out; omega), by rw [← HO.out, HE.out, if_pos (by rw [← HG.out, ← HG.out]; exact hl)]; rfl⟩
            case measure => have n3 : i < c1 := (by (try have := HC1.out); omega); simp [intOf]; omega
        · have hl2 : ltA (G (first + c)) (G (first + c + 1)) = false := by assumption
          have HL2 := Lib.hid hl2
          clear hl2
          generalize hW_ : wr.drewN nq = W3
          have HK3 : Hid (Lies w W3 g m dk) := by rw [← hW_]; exact HK.out.drewN _
          clear hW_ hcw hfw HK
          have hcw := HK3.out.cells HG.out
          have hfw := HK3.out.free
          rw [HS.out] at hcw hfw
          have HE : Hid (siftDown ltA hi first i dk = if ltA dk[first + i]! dk[first + c]! = true then siftDown ltA hi first (c) (swp dk (first + i) (first + (c))) else dk) := sift_go (by have := HC.out; omega) (.inl ⟨HC.out, fun _ => by rw [← HC.out, ← HG.out, ← HG.out]; exact HL2.out⟩)
          go_quiet ((go_at_call 81; exact Calls.quiet_of_same (less_w _ _ _)))
          go_wp2
          · have hl0 : (!ltA (G (first + i)) (G (first + c))) = true := by assumption
            have hl : ltA (G (first + i)) (G (first + c)) = false := by simpa using hl0
            (try simp only [Exit.inBlock, Exit.then])
            refine bodyPost_ret (results_none rfl _ _ _) rfl ?_
            exact ⟨rfl, by rw [← HO.out, HE.out, if_neg (by rw [← HG.out, ← HG.out, hl]; decide)]; exact HK3.out.drewN _⟩
          · have hl0 : (!ltA (G (first + i)) (G (first + c))) = false := by assumption
            have hl : ltA (G (first + i)) (G (first + c)) = true := by simpa using hl0
            clear hl0
            have n1 : i ≠ c := by have := HC.out; omega
            have n2 : c ≠ i := Ne.symm n1
            go_region
            all_goals go_wp2
            go_roundw
            case rel => exact ⟨c, swp dk (first + i) (first + c), by go_num, by have := HC.out; omega, by rw [size_swp]; exact HS.out, (HK3.out.drewN nq).swpG HG.out (by have := HS.out; omega) (by have := HS.out; omega), by rw [← HO.out, HE.out, if_pos (by rw [← HG.out, ← HG.out]; exact hl)]; rfl⟩
            case measure => have n3 : i < c := (by (try have := HC1.out); omega); simp [intOf]; omega
      · have hd3 : decide ((c : Int) + 1 < (hi : Int)) = false := decide_eq_false (by omega)
        go_quiet ((go_at_call 81; exact Calls.quiet_of_same (less_w _ _ _)))
        go_wp2
        generalize hW_ : wr.drewN nq = W3
        have HK3 : Hid (Lies w W3 g m dk) := by rw [← hW_]; exact HK.out.drewN _
        clear hW_ hcw hfw HK
        have hcw := HK3.out.cells HG.out
        have hfw := HK3.out.free
        rw [HS.out] at hcw hfw
        have HE : Hid (siftDown ltA hi first i dk = if ltA dk[first + i]! dk[first + c]! = true then siftDown ltA hi first (c) (swp dk (first + i) (first + (c))) else dk) := sift_go (by have := HC.out; omega) (.inl ⟨HC.out, fun hx => absurd hx (by have := HC.out; omega)⟩)
        go_quiet ((go_at_call 81; exact Calls.quiet_of_same (less_w _ _ _)))
        go_wp2
        · have hl0 : (!ltA (G (first + i)) (G (first + c))) = true := by assumption
          have hl : ltA (G (first + i)) (G (first + c)) = false := by simpa using hl0
          (try simp only [Exit.inBlock, Exit.then])
          refine bodyPost_ret (results_none rfl _ _ _) rfl ?_
          exact ⟨rfl, by rw [← HO.out, HE.out, if_neg (by rw [← HG.out, ← HG.out, hl]; decide)]; exact HK3.out.drewN _⟩
        · have hl0 : (!ltA (G (first + i)) (G (first + c))) = false := by assumption
          have hl : ltA (G (first + i)) (G (first + c)) = true := by simpa using hl0
          clear hl0
          have n1 : i ≠ c := by have := HC.out; omega
          have n2 : c ≠ i := Ne.symm n1
          go_region
          all_goals go_wp2
          go_roundw
          case rel => exact ⟨c, swp dk (first + i) (first + c), by go_num, by have := HC.out; omega, by rw [size_swp]; exact HS.out, (HK3.out.drewN nq).swpG HG.out (by have := HS.out; omega) (by have := HS.out; omega), by rw [← HO.out, HE.out, if_pos (by rw [← HG.out, ← HG.out]; exact hl)]; rfl⟩
          case measure => have n3 : i < c := (by (try have := HC1.out); omega); simp [intOf]; omega
theorem sift_n {g m cap lo hi first n : Nat} {d : Array Int} {w0 w : World} (h : Lies w0 w g m d) (hn : d.size = n) (hf : first + hi ≤ n) (hsz : n < 1000000000000) (hlo : lo < 1000000000000) :
    Calls Try.prog 95 #[.slice (some ⟨g, 0, none⟩) n cap, .int .i64 lo, .int .i64 hi, .int .i64 first] w fun e w' => e = .returned (.tuple #[]) ∧ Lies w0 w' g m (siftDown ltA hi first lo d) := by
  subst hn
  exact (sift_w h.here hf hsz hlo).mono fun _ _ ⟨he, hl⟩ => ⟨he, h.trans hl⟩
end Go.Proofs.Ytbllchfgjginoaa
/-
  Heap sort, where it lies.
-/
namespace Go.Proofs.Ytbllchfgjginoaa
open Go.RowKit Go.Sort
set_option linter.unusedVariables false
set_option linter.unusedSimpArgs false
theorem size_sift (hi first : Nat) : ∀ (k root : Nat) (d : Array Int), hi - root ≤ k → (siftDown ltA hi first root d).size = d.size := by
  intro k
  induction k with
  | zero =>
    intro root d h
    rw [sift_end (by omega)]
  | succ k ih =>
    intro root d h
    by_cases hc : 2 * root + 1 ≥ hi
    · rw [sift_end hc]
    · by_cases h2 : 2 * root + 2 < hi ∧ ltA d[first + (2 * root + 1)]! d[first + (2 * root + 1) + 1]! = true
      · rw [sift_go (c := 2 * root + 2) hc (.inr ⟨rfl, h2.1, h2.2⟩)]
        split
        · rw [ih _ _ (by omega), size_swp]
        · rfl
      · rw [sift_go (c := 2 * root + 1) hc (.inl ⟨rfl, fun h3 => by simpa using fun h4 => h2 ⟨h3, h4⟩⟩)]
        split
        · rw [ih _ _ (by omega), size_swp]
        · rfl
set_option maxHeartbeats 16000000 in
set_option maxRecDepth 100000 in
theorem heap_w {g m cap a b : Nat} {d : Array Int} {w : World} (h : Lies w w g m d) (hab : a < b) (hb : b ≤ d.size) (hsz : d.size < 1000000000000) :
    Calls Try.prog 85 #[.slice (some ⟨g, 0, none⟩) d.size cap, .int .i64 a, .int .i64 b] w fun e w' => e = .returned (.tuple #[]) ∧ Lies w w' g m (heapSort ltA d a b) := by
  have HL := Lib.hid h
  clear h
  go_enter Try.func85, Try.ntmps85
  go_wp2
  obtain ⟨z, hz⟩ : ∃ z : Nat, z = b - a := ⟨_, rfl⟩
  rw [show ((b : Int) - (a : Int)) = (z : Int) from by omega]
  have hz1 : 1 ≤ z := by omega
  have hz2 : a + z ≤ d.size := by omega
  have HZ := Lib.hid hz
  clear hz
  go_loopw [9] (fun vi wr => ∃ (k : Nat) (dk : Array Int), vi = .int .i64 ((k : Int) - 1) ∧ k ≤ z ∧ dk.size = d.size ∧ Hid (Lies w wr g m dk) ∧ Hid (heapBuild ltA z a k dk = heapBuild ltA z a ((z - 1) / 2 + 1) d)) (fun vi _ => (intOf vi + 1).toNat)
  case atStart => exact ⟨(z - 1) / 2 + 1, d, by first | rfl | (congr 1; omega), by omega, rfl, HL, rfl⟩
  case round =>
    obtain ⟨k, dk, rfl, hkz, hsk, HK, HO⟩ := hrel
    clear HL
    have HS := Lib.hid hsk
    clear hsk
    cases k with
    | succ k =>
      rw [show (((k + 1 : Nat) : Int) - 1) = (k : Int) from by omega]
      go_wp2_with (go_at_call 95; refine (sift_n HK.out HS.out (by omega) (by omega) (by omega)).mono ?_; rintro e w' ⟨rfl, hl⟩; have HK2 := Lib.hid hl; clear hl)
      go_roundw
      case rel => exact ⟨k, _, rfl, by omega, by rw [size_sift _ _ _ _ _ (Nat.le_refl _)]; exact HS.out, HK2, HO.out⟩
      case measure => simp [intOf]
    | zero =>
      rw [show (((0 : Nat) : Int) - 1) = (-1 : Int) from rfl]
      have hO0 : Hid (dk = heapBuild ltA z a ((z - 1) / 2 + 1) d) := HO.out
      go_wp2
      go_loopw [10] (fun vi wr => ∃ (k : Nat) (dj : Array Int), vi = .int .i64 ((k : Int) - 1) ∧ k ≤ z ∧ dj.size = d.size ∧ Hid (Lies w wr g m dj) ∧ Hid (heapPop ltA a k dj = heapPop ltA a z dk)) (fun vi _ => (intOf vi + 1).toNat)
      case atStart => exact ⟨z, dk, rfl, Nat.le_refl _, HS.out, HK, rfl⟩
      case round =>
        obtain ⟨k, dj, rfl, hkz, hsj, HJ, HP⟩ := hrel
        cases k with
        | succ k =>
          rw [show (((k + 1 : Nat) : Int) - 1) = (k : Int) from by omega]
          obtain ⟨G, hG⟩ : ∃ G : Nat → Int, ∀ t, G t = dj[t]! := ⟨fun t => dj[t]!, fun _ => rfl⟩
          have hcw := HJ.out.cells hG
          have hfw := HJ.out.free
          rw [hsj] at hcw hfw
          have HG := Lib.hid hG
          have HT := Lib.hid hsj
          clear hG hsj
          have xw5 : IntKind.i64.wrap ((a : Int) + (k : Int)) = (a : Int) + (k : Int) := IntWalk.i64_in _ (by omega)
          have xa5 : (0 : Int) ≤ (a : Int) + (k : Int) := by omega
          have xb5 : (a : Int) + (k : Int) < (d.size : Int) := by omega
          have xc5 : ((a : Int) + (k : Int)).toNat = a + k := by omega
          have q1 : a < d.size := by omega
          have q2 : a + k < d.size := by omega
          obtain ⟨v3, hy3⟩ := cell?_setCell_some (w := wr) (p := ⟨g, a, none⟩) (x := .int .u32 (G (a + k))) (q := ⟨g, a + k, none⟩) (hcw (a + k) (by omega))
          go_wp2
          go_region
          all_goals generalize hW_ : ((wr.setCell ⟨g, a, none⟩ (.int .u32 (G (a + k)))).setCell ⟨g, a + k, none⟩ (.int .u32 (G a))).drew = W3
          all_goals have HJ3 := Lib.hid (show Lies w W3 g m (swp dj a (a + k)) by rw [← hW_]; exact HJ.out.swpG HG.out (by have := HT.out; omega) (by have := HT.out; omega))
          all_goals clear hW_ hcw hfw hy3
          all_goals go_wp2_with (go_at_call 95; refine (sift_n (lo := 0) (hi := k) (first := a) (n := d.size) HJ3.out (by rw [size_swp]; exact HT.out) (by omega) (by omega) (by omega)).mono ?_; rintro e w' ⟨rfl, hl⟩; have HK2 := Lib.hid hl; clear hl)
          all_goals go_roundw
          case rel => exact ⟨k, _, rfl, by omega, by rw [size_sift _ _ _ _ _ (Nat.le_refl _), size_swp]; exact HT.out, HK2, HP.out⟩
          case measure => simp [intOf]
        | zero =>
          rw [show (((0 : Nat) : Int) - 1) = (-1 : Int) from rfl]
          go_wp2
          go_end0
          exact ⟨rfl, by unfold heapSort; rw [← HZ.out, ← hO0.out, ← HP.out]; exact HJ.out⟩
end Go.Proofs.Ytbllchfgjginoaa
/-
  A row parted by one that is the least.
-/
namespace Go.Proofs.Ytbllchfgjginoaa
open Go.RowKit Go.Sort
set_option linter.unusedVariables false
set_option linter.unusedSimpArgs false
theorem up_go (p : Int → Bool) (d : Array Int) (j i : Nat) (h : i ≤ j) (hp : p d[i]! = true) : scanUp p d j i = scanUp p d j (i + 1) := by
  rw [scanUp, if_pos (by simp [h, hp])]
theorem up_end (p : Int → Bool) (d : Array Int) (j i : Nat) (h : ¬ i ≤ j ∨ p d[i]! = false) : scanUp p d j i = i := by
  rw [scanUp, if_neg (by rcases h with h | h <;> simp [h])]
theorem down_go (p : Int → Bool) (d : Array Int) (i j : Nat) (h : i ≤ j) (h0 : 0 < j) (hp : p d[j]! = true) : scanDown p d i j = scanDown p d i (j - 1) := by
  obtain ⟨k, rfl⟩ : ∃ k, j = k + 1 := ⟨j - 1, by omega⟩
  rw [scanDown, if_pos (by simp [h, hp])]
  rfl
theorem down_end (p : Int → Bool) (d : Array Int) (i j : Nat) (h : ¬ i ≤ j ∨ p d[j]! = false) : scanDown p d i j = j := by
  cases j with
  | zero => rfl
  | succ k => rw [scanDown, if_neg (by rcases h with h | h <;> simp [h])]
/-- Two scans that stop for contrary reasons do not stop at one place. -/
theorem scans_ne (p : Int → Bool) (a i j : Nat) (d : Array Int) (h0 : 0 < i) {i2 j2 : Nat} (hi2 : i2 = scanUp p d j i) (hj2 : j2 = scanDown (fun x => !p x) d i2 j) (h : i2 ≤ j2) : i2 < j2 := by
  subst hi2; subst hj2
  obtain ⟨u1, _, _, u4⟩ := scanUp_spec p d j _ i rfl
  obtain ⟨v1, _, _, v4⟩ := scanDown_spec (fun x => !p x) d (scanUp p d j i) j
  refine Nat.lt_of_le_of_ne h fun e => ?_
  have f1 := u4 (by omega)
  have f2 := v4 h (by omega)
  rw [← e] at f2
  simp only [f1] at f2
  cases f2
theorem eq_break (a i j : Nat) (dk : Array Int) {i2 j2 : Nat} (hi2 : i2 = scanUp (fun x => !ltA dk[a]! x) dk j i) (hj2 : j2 = scanDown (fun x => ltA dk[a]! x) dk i2 j) (h : j2 < i2) : partEqLoop ltA a i j dk = (i2, dk) := by
  subst hi2; subst hj2
  rw [partEqLoop_eq, if_pos h]
theorem eq_go (a i j : Nat) (dk : Array Int) {i2 j2 : Nat} (hi2 : i2 = scanUp (fun x => !ltA dk[a]! x) dk j i) (hj2 : j2 = scanDown (fun x => ltA dk[a]! x) dk i2 j) (h : ¬ i2 > j2) : partEqLoop ltA a i j dk = partEqLoop ltA a (i2 + 1) (j2 - 1) (swp dk i2 j2) := by
  subst hi2; subst hj2
  rw [partEqLoop_eq, if_neg h]
set_option maxHeartbeats 16000000 in
set_option maxRecDepth 100000 in
theorem parteq_w {g m cap a b pivot : Nat} {d : Array Int} {w : World} (h : Lies w w g m d) (hap : a ≤ pivot) (hpb : pivot < b) (hb : b ≤ d.size) (hsz : d.size < 1000000000000) :
    Calls Try.prog 90 #[.slice (some ⟨g, 0, none⟩) d.size cap, .int .i64 a, .int .i64 b, .int .i64 pivot] w fun e w' => e = .returned (.int .i64 (partitionEqual ltA d a b pivot).1) ∧ Lies w w' g m (partitionEqual ltA d a b pivot).2 := by
  have HL := Lib.hid h
  obtain ⟨G, hG⟩ : ∃ G : Nat → Int, ∀ t, G t = d[t]! := ⟨fun t => d[t]!, fun _ => rfl⟩
  have hcw := h.cells hG
  have hfw := h.free
  have HG := Lib.hid hG
  clear h hG
  have q1 : a < d.size := by omega
  have q2 : pivot < d.size := by omega
  obtain ⟨v3, hy3⟩ := cell?_setCell_some (w := w) (p := ⟨g, a, none⟩) (x := .int .u32 (G pivot)) (q := ⟨g, pivot, none⟩) (hcw pivot q2)
  go_enter Try.func90, Try.ntmps90
  go_wp2
  go_region
  all_goals generalize hW_ : ((w.setCell ⟨g, a, none⟩ (.int .u32 (G pivot))).setCell ⟨g, pivot, none⟩ (.int .u32 (G a))).drew = W0
  all_goals have HK0 := Lib.hid (show Lies w W0 g m (swp d a pivot) by rw [← hW_]; exact HL.out.swpG HG.out q1 q2)
  all_goals clear hW_ hcw hfw hy3 HG HL
  all_goals go_wp2
  go_loopw [9, 10] (fun vi vj wr => ∃ (i j : Nat) (dk : Array Int), vi = .int .i64 i ∧ vj = .int .i64 j ∧ a < i ∧ i ≤ j + 1 ∧ j < b ∧ dk.size = d.size ∧ Hid (Lies w wr g m dk) ∧ Hid (partEqLoop ltA a i j dk = partEqLoop ltA a (a + 1) (b - 1) (swp d a pivot)))
    (fun vi vj _ => (intOf vj).toNat + 1 - (intOf vi).toNat)
  case atStart => exact ⟨a + 1, b - 1, swp d a pivot, by go_num, by congr 1; omega, by omega, by omega, by omega, size_swp _ _ _, HK0, rfl⟩
  case round =>
    obtain ⟨i, j, dk, rfl, rfl, hai, hij, hjb, hs, HKi, HO⟩ := hrel
    clear HK0
    obtain ⟨G, hG⟩ : ∃ G : Nat → Int, ∀ t, G t = dk[t]! := ⟨fun t => dk[t]!, fun _ => rfl⟩
    have HG := Lib.hid hG
    have HS := Lib.hid hs
    clear hG hs
    go_wp2
    go_loopw [9] (fun vi w1 => ∃ i' : Nat, vi = .int .i64 i' ∧ i ≤ i' ∧ i' ≤ j + 1 ∧ Hid (Lies w w1 g m dk) ∧ Hid (scanUp (fun x => !ltA dk[a]! x) dk j i' = scanUp (fun x => !ltA dk[a]! x) dk j i))
      (fun vi _ => j + 1 - (intOf vi).toNat)
    case atStart => exact ⟨i, rfl, Nat.le_refl _, hij, HKi, rfl⟩
    case round =>
      obtain ⟨i', rfl, hii, hij', HK, HSC⟩ := hrel
      clear HKi
      have hcw := HK.out.cells HG.out
      have hfw := HK.out.free
      rw [HS.out] at hcw hfw
      have q4 : a < d.size := by omega
      by_cases hle : i' ≤ j
      · have q5 : i' < d.size := by omega
        go_wp2
        go_quiet ((go_at_call 81; exact Calls.quiet_of_same (less_w _ _ _)))
        go_wp2
        · have ht0 : (!ltA (G a) (G i')) = true := by assumption
          go_roundw
          case rel => exact ⟨i' + 1, by go_num, by omega, by omega, HK.out.drewN _, (up_go (fun x => !ltA dk[a]! x) dk j i' hle (by rw [← HG.out, ← HG.out]; exact ht0)).symm.trans HSC.out⟩
          case measure => simp [intOf]; omega
        · have ht0 : (!ltA (G a) (G i')) = false := by assumption
          have hi2 : i' = scanUp (fun x => !ltA dk[a]! x) dk j i := (up_end (fun x => !ltA dk[a]! x) dk j i' (.inr (by rw [← HG.out, ← HG.out]; exact ht0))).symm.trans HSC.out
          clear ht0
          have HI2 := Lib.hid hi2
          clear hi2
          go_loopw [10] (fun vj w2 => ∃ j' : Nat, vj = .int .i64 j' ∧ j' ≤ j ∧ i' ≤ j' + 1 ∧ Hid (Lies w w2 g m dk) ∧ Hid (scanDown (fun x => ltA dk[a]! x) dk i' j' = scanDown (fun x => ltA dk[a]! x) dk i' j)) (fun vj _ => (intOf vj).toNat)
          case atStart => exact ⟨j, rfl, Nat.le_refl _, hij', HK.out.drewN _, rfl⟩
          case round =>
            obtain ⟨j', rfl, hjj, hij2, HK2, HSD⟩ := hrel
            clear hcw hfw HK
            have hcw := HK2.out.cells HG.out
            have hfw := HK2.out.free
            rw [HS.out] at hcw hfw
            have q3 : j' < d.size := by omega
            have q4 : a < d.size := by omega
            by_cases hle2 : i' ≤ j'
            · have q5 : i' < d.size := by omega
              go_wp2
              go_quiet ((go_at_call 81; exact Calls.quiet_of_same (less_w _ _ _)))
              go_wp2
              · have ht : ltA (G a) (G j') = true := by assumption
                go_roundw
                case rel => exact ⟨j' - 1, by congr 1; omega, by omega, by omega, HK2.out.drewN _, (down_go (fun x => ltA dk[a]! x) dk i' j' hle2 (by omega) (by rw [← HG.out, ← HG.out]; exact ht)).symm.trans HSD.out⟩
                case measure => simp [intOf]; omega
              · have ht : ltA (G a) (G j') = false := by assumption
                have hj2 : j' = scanDown (fun x => ltA dk[a]! x) dk i' j := (down_end (fun x => ltA dk[a]! x) dk i' j' (.inr (by rw [← HG.out, ← HG.out]; exact ht))).symm.trans HSD.out
                have hij3 : i' < j' := scans_ne (fun x => !ltA dk[a]! x) a i j dk (by omega) HI2.out (by simpa only [Bool.not_not] using hj2) hle2
                have HB := Lib.hid (eq_go a i j dk HI2.out hj2 (by omega))
                clear hj2 ht
                generalize hW_ : wr.drewN nq = W3
                have HK3 : Hid (Lies w W3 g m dk) := by rw [← hW_]; exact HK2.out.drewN _
                clear hW_ hcw hfw HK2
                have hcw := HK3.out.cells HG.out
                have hfw := HK3.out.free
                rw [HS.out] at hcw hfw
                have hgt : decide ((j' : Int) < (i' : Int)) = false := decide_eq_false (by omega)
                go_wp2
                go_region
                all_goals go_wp2
                go_roundw
                case rel => exact ⟨i' + 1, j' - 1, swp dk i' j', by go_num, by congr 1; omega, by omega, by omega, by omega, by rw [size_swp]; exact HS.out, HK3.out.swpG HG.out (by have := HS.out; omega) (by have := HS.out; omega), by rw [← HO.out, HB.out]; rfl⟩
                case measure => simp [intOf]; omega
            · have hd2 : decide ((i' : Int) ≤ (j' : Int)) = false := decide_eq_false (by omega)
              have hd3 : decide (i' ≤ j') = false := decide_eq_false hle2
              go_wp2
              go_quiet ((go_at_call 81; exact Calls.quiet_of_same (less_w _ _ _)))
              have hj2 : j' = scanDown (fun x => ltA dk[a]! x) dk i' j := (down_end (fun x => ltA dk[a]! x) dk i' j' (.inl hle2)).symm.trans HSD.out
              have HB := Lib.hid (eq_break a i j dk HI2.out hj2 (by omega))
              clear hj2
              have hgt : decide ((j' : Int) < (i' : Int)) = true := decide_eq_true (by omega)
              go_wp2
              go_ret
              exact ⟨by unfold partitionEqual; rw [← HO.out, HB.out]; rfl, by unfold partitionEqual; rw [← HO.out, HB.out]; exact HK2.out.drewN _⟩
      · have hd2 : decide ((i' : Int) ≤ (j : Int)) = false := decide_eq_false (by omega)
        have hd3 : decide (i' ≤ j) = false := decide_eq_false hle
        go_wp2
        go_quiet ((go_at_call 81; exact Calls.quiet_of_same (less_w _ _ _)))
        go_wp2
        have hi2 : i' = scanUp (fun x => !ltA dk[a]! x) dk j i := (up_end (fun x => !ltA dk[a]! x) dk j i' (.inl hle)).symm.trans HSC.out
        have HI2 := Lib.hid hi2
        clear hi2
        go_loopw [10] (fun vj w2 => ∃ j' : Nat, vj = .int .i64 j' ∧ j' ≤ j ∧ i' ≤ j' + 1 ∧ Hid (Lies w w2 g m dk) ∧ Hid (scanDown (fun x => ltA dk[a]! x) dk i' j' = scanDown (fun x => ltA dk[a]! x) dk i' j)) (fun vj _ => (intOf vj).toNat)
        case atStart => exact ⟨j, rfl, Nat.le_refl _, hij', HK.out.drewN _, rfl⟩
        case round =>
          obtain ⟨j', rfl, hjj, hij2, HK2, HSD⟩ := hrel
          clear hcw hfw HK
          have hcw := HK2.out.cells HG.out
          have hfw := HK2.out.free
          rw [HS.out] at hcw hfw
          have q3 : j' < d.size := by omega
          have q4 : a < d.size := by omega
          by_cases hle2 : i' ≤ j'
          · exfalso; omega
          · have hd2 : decide ((i' : Int) ≤ (j' : Int)) = false := decide_eq_false (by omega)
            have hd3 : decide (i' ≤ j') = false := decide_eq_false hle2
            go_wp2
            go_quiet ((go_at_call 81; exact Calls.quiet_of_same (less_w _ _ _)))
            have hj2 : j' = scanDown (fun x => ltA dk[a]! x) dk i' j := (down_end (fun x => ltA dk[a]! x) dk i' j' (.inl hle2)).symm.trans HSD.out
            have HB := Lib.hid (eq_break a i j dk HI2.out hj2 (by omega))
            clear hj2
            have hgt : decide ((j' : Int) < (i' : Int)) = true := decide_eq_true (by omega)
            go_wp2
            go_ret
            exact ⟨by unfold partitionEqual; rw [← HO.out, HB.out]; rfl, by unfold partitionEqual; rw [← HO.out, HB.out]; exact HK2.out.drewN _⟩
end Go.Proofs.Ytbllchfgjginoaa
/-
  A row parted by one of it.
-/
namespace Go.Proofs.Ytbllchfgjginoaa
open Go.RowKit Go.Sort
set_option linter.unusedVariables false
set_option linter.unusedSimpArgs false
theorem part_break (a i j : Nat) (dk : Array Int) {i2 j2 : Nat} (hi2 : i2 = scanUp (fun x => ltA x dk[a]!) dk j i) (hj2 : j2 = scanDown (fun x => !ltA x dk[a]!) dk i2 j) (h : j2 < i2) : partLoop ltA a i j dk = (j2, dk) := by
  subst hi2; subst hj2
  rw [partLoop_eq, if_pos h]
theorem part_go (a i j : Nat) (dk : Array Int) {i2 j2 : Nat} (hi2 : i2 = scanUp (fun x => ltA x dk[a]!) dk j i) (hj2 : j2 = scanDown (fun x => !ltA x dk[a]!) dk i2 j) (h : ¬ i2 > j2) : partLoop ltA a i j dk = partLoop ltA a (i2 + 1) (j2 - 1) (swp dk i2 j2) := by
  subst hi2; subst hj2
  rw [partLoop_eq, if_neg h]
theorem part_one (a b pivot : Nat) (d : Array Int) {e i2 j2 : Nat} (he : e = b - 1) (hi2 : i2 = scanUp (fun x => ltA x (swp d a pivot)[a]!) (swp d a pivot) e (a + 1)) (hj2 : j2 = scanDown (fun x => !ltA x (swp d a pivot)[a]!) (swp d a pivot) i2 e) (h : j2 < i2) : partition ltA d a b pivot = (j2, true, swp (swp d a pivot) j2 a) := by
  subst hi2; subst hj2; subst he
  unfold partition
  simp only []
  rw [if_pos h]
theorem part_two (a b pivot : Nat) (d : Array Int) {e i2 j2 : Nat} (he : e = b - 1) (hi2 : i2 = scanUp (fun x => ltA x (swp d a pivot)[a]!) (swp d a pivot) e (a + 1)) (hj2 : j2 = scanDown (fun x => !ltA x (swp d a pivot)[a]!) (swp d a pivot) i2 e) (h : ¬ j2 < i2) : partition ltA d a b pivot = ((partLoop ltA a (i2 + 1) (j2 - 1) (swp (swp d a pivot) i2 j2)).1, false, swp (partLoop ltA a (i2 + 1) (j2 - 1) (swp (swp d a pivot) i2 j2)).2 (partLoop ltA a (i2 + 1) (j2 - 1) (swp (swp d a pivot) i2 j2)).1 a) := by
  subst hi2; subst hj2; subst he
  unfold partition
  simp only []
  rw [if_neg h]
set_option maxHeartbeats 16000000 in
set_option maxRecDepth 100000 in
theorem part_w {g m cap a b pivot : Nat} {d : Array Int} {w : World} (h : Lies w w g m d) (hap : a ≤ pivot) (hpb : pivot < b) (hb : b ≤ d.size) (hsz : d.size < 1000000000000) :
    Calls Try.prog 91 #[.slice (some ⟨g, 0, none⟩) d.size cap, .int .i64 a, .int .i64 b, .int .i64 pivot] w fun e w' => e = .returned (.tuple #[.int .i64 (partition ltA d a b pivot).1, .bool (partition ltA d a b pivot).2.1]) ∧ Lies w w' g m (partition ltA d a b pivot).2.2 := by
  have HL := Lib.hid h
  obtain ⟨G, hG⟩ : ∃ G : Nat → Int, ∀ t, G t = d[t]! := ⟨fun t => d[t]!, fun _ => rfl⟩
  have hcw := h.cells hG
  have hfw := h.free
  have HG := Lib.hid hG
  clear h hG
  have q1 : a < d.size := by omega
  have q2 : pivot < d.size := by omega
  obtain ⟨v3, hy3⟩ := cell?_setCell_some (w := w) (p := ⟨g, a, none⟩) (x := .int .u32 (G pivot)) (q := ⟨g, pivot, none⟩) (hcw pivot q2)
  go_enter Try.func91, Try.ntmps91
  go_wp2
  go_region
  all_goals generalize hW_ : ((w.setCell ⟨g, a, none⟩ (.int .u32 (G pivot))).setCell ⟨g, pivot, none⟩ (.int .u32 (G a))).drew = W0
  all_goals have HKi := Lib.hid (show Lies w W0 g m (swp d a pivot) by rw [← hW_]; exact HL.out.swpG HG.out q1 q2)
  all_goals clear hW_ hcw hfw hy3 HG HL
  all_goals obtain ⟨G, hG⟩ : ∃ G : Nat → Int, ∀ t, G t = (swp d a pivot)[t]! := ⟨fun t => (swp d a pivot)[t]!, fun _ => rfl⟩
  all_goals have HG := Lib.hid hG
  all_goals have HS0 : Hid ((swp d a pivot).size = d.size) := size_swp d a pivot
  all_goals clear hG
  all_goals go_wp2
  all_goals obtain ⟨e, he⟩ : ∃ e : Nat, e = b - 1 := ⟨_, rfl⟩
  all_goals rw [show ((b : Int) - 1) = (e : Int) from by omega]
  all_goals have he1 : e + 1 = b := by omega
  all_goals have HE := Lib.hid he
  all_goals clear he
  all_goals have he2 : e < d.size := by omega
  all_goals have he3 : a ≤ e := by omega
  all_goals have he4 : e < b := by omega
  all_goals clear he1
  go_loopw [10] (fun vi w1 => ∃ i' : Nat, vi = .int .i64 i' ∧ a + 1 ≤ i' ∧ i' ≤ e + 1 ∧ Hid (Lies w w1 g m (swp d a pivot)) ∧ Hid (scanUp (fun x => ltA x (swp d a pivot)[a]!) (swp d a pivot) (e) i' = scanUp (fun x => ltA x (swp d a pivot)[a]!) (swp d a pivot) (e) (a + 1))) (fun vi _ => e + 1 - (intOf vi).toNat)
  case atStart => exact ⟨a + 1, by first | rfl | go_num | (congr 1; omega), Nat.le_refl _, by omega, HKi, rfl⟩
  case round =>
    obtain ⟨i', rfl, hii, hij', HK, HSC⟩ := hrel
    clear HKi
    have hcw := HK.out.cells HG.out
    have hfw := HK.out.free
    rw [HS0.out] at hcw hfw
    have q4 : a < d.size := by omega
    by_cases hle : i' ≤ e
    · have q5 : i' < d.size := by omega
      have hd2 : decide ((i' : Int) ≤ ((e : Nat) : Int)) = true := decide_eq_true (by omega)
      go_wp2
      go_quiet ((go_at_call 81; exact Calls.quiet_of_same (less_w _ _ _)))
      go_wp2
      · have ht : ltA (G i') (G a) = true := by assumption
        go_roundw
        case rel => exact ⟨i' + 1, by go_num, by omega, by omega, HK.out.drewN _, (up_go (fun x => ltA x (swp d a pivot)[a]!) (swp d a pivot) (e) i' hle (by rw [← HG.out, ← HG.out]; exact ht)).symm.trans HSC.out⟩
        case measure => simp [intOf]; omega
      · have ht : ltA (G i') (G a) = false := by assumption
        have hi2 : i' = scanUp (fun x => ltA x (swp d a pivot)[a]!) (swp d a pivot) (e) (a + 1) := (up_end (fun x => ltA x (swp d a pivot)[a]!) (swp d a pivot) (e) i' (.inr (by rw [← HG.out, ← HG.out]; exact ht))).symm.trans HSC.out
        clear ht
        have HI2 := Lib.hid hi2
        clear hi2
        go_loopw [11] (fun vj w2 => ∃ j' : Nat, vj = .int .i64 j' ∧ j' ≤ e ∧ i' ≤ j' + 1 ∧ Hid (Lies w w2 g m (swp d a pivot)) ∧ Hid (scanDown (fun x => !ltA x (swp d a pivot)[a]!) (swp d a pivot) i'  j' = scanDown (fun x => !ltA x (swp d a pivot)[a]!) (swp d a pivot) i'  (e))) (fun vj _ => (intOf vj).toNat)
        case atStart => exact ⟨e, by first | rfl | (congr 1; omega), Nat.le_refl _, hij', HK.out.drewN _, rfl⟩
        case round =>
          obtain ⟨j', rfl, hjj, hij2, HK2, HSD⟩ := hrel
          clear hcw hfw HK
          have hcw := HK2.out.cells HG.out
          have hfw := HK2.out.free
          rw [HS0.out] at hcw hfw
          have q3 : j' < d.size := by omega
          have q4 : a < d.size := by omega
          by_cases hle2 : i' ≤ j'
          · have q5 : i' < d.size := by omega
            go_wp2
            go_quiet ((go_at_call 81; exact Calls.quiet_of_same (less_w _ _ _)))
            go_wp2
            · have ht : (!ltA (G j') (G a)) = true := by assumption
              go_roundw
              case rel => exact ⟨j' - 1, by congr 1; omega, by omega, by omega, HK2.out.drewN _, (down_go (fun x => !ltA x (swp d a pivot)[a]!) (swp d a pivot) i' j' hle2 (by omega) (by rw [← HG.out, ← HG.out]; exact ht)).symm.trans HSD.out⟩
              case measure => simp [intOf]; omega
            · have ht : (!ltA (G j') (G a)) = false := by assumption
              have hj2 : j' = scanDown (fun x => !ltA x (swp d a pivot)[a]!) (swp d a pivot) i'  (e) := (down_end (fun x => !ltA x (swp d a pivot)[a]!) (swp d a pivot) i' j' (.inr (by rw [← HG.out, ← HG.out]; exact ht))).symm.trans HSD.out
              have hij3 : i' < j' := scans_ne (fun x => ltA x (swp d a pivot)[a]!) a (a + 1) (e) (swp d a pivot) (by omega) HI2.out hj2 hle2
              clear ht
              generalize hW_ : wr.drewN nq = W3
              have HK3 : Hid (Lies w W3 g m (swp d a pivot)) := by rw [← hW_]; exact HK2.out.drewN _
              clear hW_ hcw hfw HK2
              have hcw := HK3.out.cells HG.out
              have hfw := HK3.out.free
              rw [HS0.out] at hcw hfw
              have hgt : decide ((j' : Int) < (i' : Int)) = false := decide_eq_false (by omega)
              have HP := Lib.hid (part_two a b pivot d HE.out HI2.out hj2 (by omega))
              clear hj2
              obtain ⟨i1, hi1⟩ : ∃ i1, i1 = i' := ⟨_, rfl⟩
              obtain ⟨j1, hj1⟩ : ∃ j1, j1 = j' := ⟨_, rfl⟩
              go_wp2
              go_region
              all_goals generalize hW_ : ((W3.setCell ⟨g, i', none⟩ (.int .u32 (G j'))).setCell ⟨g, j', none⟩ (.int .u32 (G i'))).drew = W4
              all_goals have HK4 := Lib.hid (show Lies w W4 g m (swp (swp d a pivot) i' j') by rw [← hW_]; exact HK3.out.swpG HG.out (by rw [size_swp]; exact q5) (by rw [size_swp]; exact q3))
              all_goals clear hW_ hcw hfw HK3
              all_goals go_wp2
              go_loopw [10, 11] (fun vi vj wr => ∃ (i j : Nat) (dk : Array Int), vi = .int .i64 i ∧ vj = .int .i64 j ∧ a < i ∧ i ≤ j + 1 ∧ j < b ∧ dk.size = d.size ∧ Hid (Lies w wr g m dk) ∧ Hid (partLoop ltA a i j dk = partLoop ltA a (i1 + 1) (j1 - 1) (swp (swp d a pivot) i1 j1)))
                (fun vi vj _ => (intOf vj).toNat + 1 - (intOf vi).toNat)
              case atStart => exact ⟨i' + 1, j' - 1, _, by go_num, by congr 1; omega, by omega, by omega, by omega, by rw [size_swp, size_swp], HK4, by rw [hi1, hj1]; rfl⟩
              case round =>
                obtain ⟨i, j, dk, rfl, rfl, hai, hij, hjb, hs, HKi, HO⟩ := hrel
                subst hi1
                subst hj1
                clear HK4 HI2 HSC HSD HG hgt hij3 hle hle2 hii hij' hjj hij2 q3 q5 hd2
                obtain ⟨G, hG⟩ : ∃ G : Nat → Int, ∀ t, G t = dk[t]! := ⟨fun t => dk[t]!, fun _ => rfl⟩
                have HG := Lib.hid hG
                have HS := Lib.hid hs
                clear hG hs
                go_wp2
                go_loopw [10] (fun vi w1 => ∃ i' : Nat, vi = .int .i64 i' ∧ i ≤ i' ∧ i' ≤ j + 1 ∧ Hid (Lies w w1 g m dk) ∧ Hid (scanUp (fun x => ltA x dk[a]!) dk (j) i' = scanUp (fun x => ltA x dk[a]!) dk (j) (i))) (fun vi _ => j + 1 - (intOf vi).toNat)
                case atStart => exact ⟨i, by first | rfl | go_num | (congr 1; omega), Nat.le_refl _, by omega, HKi, rfl⟩
                case round =>
                  obtain ⟨i', rfl, hii, hij', HK, HSC⟩ := hrel
                  clear HKi
                  have hcw := HK.out.cells HG.out
                  have hfw := HK.out.free
                  rw [HS.out] at hcw hfw
                  have q4 : a < d.size := by omega
                  by_cases hle : i' ≤ j
                  · have q5 : i' < d.size := by omega
                    have hd2 : decide ((i' : Int) ≤ ((j : Nat) : Int)) = true := decide_eq_true (by omega)
                    go_wp2
                    go_quiet ((go_at_call 81; exact Calls.quiet_of_same (less_w _ _ _)))
                    go_wp2
                    · have ht : ltA (G i') (G a) = true := by assumption
                      go_roundw
                      case rel => exact ⟨i' + 1, by go_num, by omega, by omega, HK.out.drewN _, (up_go (fun x => ltA x dk[a]!) dk (j) i' hle (by rw [← HG.out, ← HG.out]; exact ht)).symm.trans HSC.out⟩
                      case measure => simp [intOf]; omega
                    · have ht : ltA (G i') (G a) = false := by assumption
                      have hi2 : i' = scanUp (fun x => ltA x dk[a]!) dk (j) (i) := (up_end (fun x => ltA x dk[a]!) dk (j) i' (.inr (by rw [← HG.out, ← HG.out]; exact ht))).symm.trans HSC.out
                      clear ht
                      have HI2 := Lib.hid hi2
                      clear hi2
                      go_loopw [11] (fun vj w2 => ∃ j' : Nat, vj = .int .i64 j' ∧ j' ≤ j ∧ i' ≤ j' + 1 ∧ Hid (Lies w w2 g m dk) ∧ Hid (scanDown (fun x => !ltA x dk[a]!) dk i'  j' = scanDown (fun x => !ltA x dk[a]!) dk i'  (j))) (fun vj _ => (intOf vj).toNat)
                      case atStart => exact ⟨j, by first | rfl | (congr 1; omega), Nat.le_refl _, hij', HK.out.drewN _, rfl⟩
                      case round =>
                        obtain ⟨j', rfl, hjj, hij2, HK2, HSD⟩ := hrel
                        clear hcw hfw HK
                        have hcw := HK2.out.cells HG.out
                        have hfw := HK2.out.free
                        rw [HS.out] at hcw hfw
                        have q3 : j' < d.size := by omega
                        have q4 : a < d.size := by omega
                        by_cases hle2 : i' ≤ j'
                        · have q5 : i' < d.size := by omega
                          go_wp2
                          go_quiet ((go_at_call 81; exact Calls.quiet_of_same (less_w _ _ _)))
                          go_wp2
                          · have ht : (!ltA (G j') (G a)) = true := by assumption
                            go_roundw
                            case rel => exact ⟨j' - 1, by congr 1; omega, by omega, by omega, HK2.out.drewN _, (down_go (fun x => !ltA x dk[a]!) dk i' j' hle2 (by omega) (by rw [← HG.out, ← HG.out]; exact ht)).symm.trans HSD.out⟩
                            case measure => simp [intOf]; omega
                          · have ht : (!ltA (G j') (G a)) = false := by assumption
                            have hj2 : j' = scanDown (fun x => !ltA x dk[a]!) dk i'  (j) := (down_end (fun x => !ltA x dk[a]!) dk i' j' (.inr (by rw [← HG.out, ← HG.out]; exact ht))).symm.trans HSD.out
                            have hij3 : i' < j' := scans_ne (fun x => ltA x dk[a]!) a (i) (j) dk (by omega) HI2.out hj2 hle2
                            clear ht
                            generalize hW_ : wr.drewN nq = W3
                            have HK3 : Hid (Lies w W3 g m dk) := by rw [← hW_]; exact HK2.out.drewN _
                            clear hW_ hcw hfw HK2
                            have hcw := HK3.out.cells HG.out
                            have hfw := HK3.out.free
                            rw [HS.out] at hcw hfw
                            have hgt : decide ((j' : Int) < (i' : Int)) = false := decide_eq_false (by omega)
                            have HB := Lib.hid (part_go a i j dk HI2.out hj2 (by omega))
                            clear hj2
                            go_wp2
                            go_region
                            all_goals go_wp2
                            go_roundw
                            case rel => exact ⟨i' + 1, j' - 1, swp dk i' j', by go_num, by congr 1; omega, by omega, by omega, by omega, by rw [size_swp]; exact HS.out, HK3.out.swpG HG.out (by have := HS.out; omega) (by have := HS.out; omega), by rw [← HO.out, HB.out]; rfl⟩
                            case measure => simp [intOf]; omega
                        · have hd2 : decide ((i' : Int) ≤ (j' : Int)) = false := decide_eq_false (by omega)
                          have hd3 : decide (i' ≤ j') = false := decide_eq_false hle2
                          go_wp2
                          go_quiet ((go_at_call 81; exact Calls.quiet_of_same (less_w _ _ _)))
                          have hj2 : j' = scanDown (fun x => !ltA x dk[a]!) dk i'  (j) := (down_end (fun x => !ltA x dk[a]!) dk i' j' (.inl hle2)).symm.trans HSD.out
                          generalize hW_ : wr.drewN nq = W3
                          have HK3 : Hid (Lies w W3 g m dk) := by rw [← hW_]; exact HK2.out.drewN _
                          clear hW_ hcw hfw HK2
                          have hcw := HK3.out.cells HG.out
                          have hfw := HK3.out.free
                          rw [HS.out] at hcw hfw
                          have hgt : decide ((j' : Int) < (i' : Int)) = true := decide_eq_true (by omega)
                          have HB := Lib.hid (part_break a i j dk HI2.out hj2 (by omega))
                          clear hj2
                          obtain ⟨v3, hy3⟩ := cell?_setCell_some (w := W3) (p := ⟨g, j', none⟩) (x := .int .u32 (G a)) (q := ⟨g, a, none⟩) (hcw a q4)
                          go_wp2
                          go_region
                          all_goals generalize hW_ : ((W3.setCell ⟨g, j', none⟩ (.int .u32 (G a))).setCell ⟨g, a, none⟩ (.int .u32 (G j'))).drew = W4
                          all_goals have HK4 := Lib.hid (show Lies w W4 g m (swp dk j' a) by rw [← hW_]; exact HK3.out.swpG HG.out (by have := HS.out; omega) (by have := HS.out; omega))
                          all_goals clear hW_ hcw hfw hy3 HK3
                          all_goals go_wp2
                          all_goals go_ret2
                          all_goals exact ⟨by rw [HP.out, ← HO.out, HB.out]; rfl, by rw [HP.out, ← HO.out, HB.out]; exact HK4.out⟩
                  · have hd2 : decide ((i' : Int) ≤ ((j : Nat) : Int)) = false := decide_eq_false (by omega)
                    have hd3 : decide (i' ≤ j) = false := decide_eq_false hle
                    go_wp2
                    go_quiet ((go_at_call 81; exact Calls.quiet_of_same (less_w _ _ _)))
                    go_wp2
                    have hi2 : i' = scanUp (fun x => ltA x dk[a]!) dk (j) (i) := (up_end (fun x => ltA x dk[a]!) dk (j) i' (.inl hle)).symm.trans HSC.out
                    have HI2 := Lib.hid hi2
                    clear hi2
                    go_loopw [11] (fun vj w2 => ∃ j' : Nat, vj = .int .i64 j' ∧ j' ≤ j ∧ i' ≤ j' + 1 ∧ Hid (Lies w w2 g m dk) ∧ Hid (scanDown (fun x => !ltA x dk[a]!) dk i'  j' = scanDown (fun x => !ltA x dk[a]!) dk i'  (j))) (fun vj _ => (intOf vj).toNat)
                    case atStart => exact ⟨j, by first | rfl | (congr 1; omega), Nat.le_refl _, hij', HK.out.drewN _, rfl⟩
                    case round =>
                      obtain ⟨j', rfl, hjj, hij2, HK2, HSD⟩ := hrel
                      clear hcw hfw HK
                      have hcw := HK2.out.cells HG.out
                      have hfw := HK2.out.free
                      rw [HS.out] at hcw hfw
                      have q3 : j' < d.size := by omega
                      have q4 : a < d.size := by omega
                      by_cases hle2 : i' ≤ j'
                      · exfalso; omega
                      · have hd2 : decide ((i' : Int) ≤ (j' : Int)) = false := decide_eq_false (by omega)
                        have hd3 : decide (i' ≤ j') = false := decide_eq_false hle2
                        go_wp2
                        go_quiet ((go_at_call 81; exact Calls.quiet_of_same (less_w _ _ _)))
                        have hj2 : j' = scanDown (fun x => !ltA x dk[a]!) dk i'  (j) := (down_end (fun x => !ltA x dk[a]!) dk i' j' (.inl hle2)).symm.trans HSD.out
                        generalize hW_ : wr.drewN nq = W3
                        have HK3 : Hid (Lies w W3 g m dk) := by rw [← hW_]; exact HK2.out.drewN _
                        clear hW_ hcw hfw HK2
                        have hcw := HK3.out.cells HG.out
                        have hfw := HK3.out.free
                        rw [HS.out] at hcw hfw
                        have hgt : decide ((j' : Int) < (i' : Int)) = true := decide_eq_true (by omega)
                        have HB := Lib.hid (part_break a i j dk HI2.out hj2 (by omega))
                        clear hj2
                        obtain ⟨v3, hy3⟩ := cell?_setCell_some (w := W3) (p := ⟨g, j', none⟩) (x := .int .u32 (G a)) (q := ⟨g, a, none⟩) (hcw a q4)
                        go_wp2
                        go_region
                        all_goals generalize hW_ : ((W3.setCell ⟨g, j', none⟩ (.int .u32 (G a))).setCell ⟨g, a, none⟩ (.int .u32 (G j'))).drew = W4
                        all_goals have HK4 := Lib.hid (show Lies w W4 g m (swp dk j' a) by rw [← hW_]; exact HK3.out.swpG HG.out (by have := HS.out; omega) (by have := HS.out; omega))
                        all_goals clear hW_ hcw hfw hy3 HK3
                        all_goals go_wp2
                        all_goals go_ret2
                        all_goals exact ⟨by rw [HP.out, ← HO.out, HB.out]; rfl, by rw [HP.out, ← HO.out, HB.out]; exact HK4.out⟩
          · have hd2 : decide ((i' : Int) ≤ (j' : Int)) = false := decide_eq_false (by omega)
            have hd3 : decide (i' ≤ j') = false := decide_eq_false hle2
            go_wp2
            go_quiet ((go_at_call 81; exact Calls.quiet_of_same (less_w _ _ _)))
            have hj2 : j' = scanDown (fun x => !ltA x (swp d a pivot)[a]!) (swp d a pivot) i'  (e) := (down_end (fun x => !ltA x (swp d a pivot)[a]!) (swp d a pivot) i' j' (.inl hle2)).symm.trans HSD.out
            generalize hW_ : wr.drewN nq = W3
            have HK3 : Hid (Lies w W3 g m (swp d a pivot)) := by rw [← hW_]; exact HK2.out.drewN _
            clear hW_ hcw hfw HK2
            have hcw := HK3.out.cells HG.out
            have hfw := HK3.out.free
            rw [HS0.out] at hcw hfw
            have hgt : decide ((j' : Int) < (i' : Int)) = true := decide_eq_true (by omega)
            have HB := Lib.hid (part_one a b pivot d HE.out HI2.out hj2 (by omega))
            clear hj2
            obtain ⟨v3, hy3⟩ := cell?_setCell_some (w := W3) (p := ⟨g, j', none⟩) (x := .int .u32 (G a)) (q := ⟨g, a, none⟩) (hcw a q4)
            go_wp2
            go_region
            all_goals generalize hW_ : ((W3.setCell ⟨g, j', none⟩ (.int .u32 (G a))).setCell ⟨g, a, none⟩ (.int .u32 (G j'))).drew = W4
            all_goals have HK4 := Lib.hid (show Lies w W4 g m (swp (swp d a pivot) j' a) by rw [← hW_]; exact HK3.out.swpG HG.out (by rw [size_swp]; exact q3) (by rw [size_swp]; exact q4))
            all_goals clear hW_ hcw hfw hy3 HK3
            all_goals go_wp2
            all_goals go_ret2
            all_goals exact ⟨by rw [HB.out]; rfl, by rw [HB.out]; exact HK4.out⟩
    · have hd2 : decide ((i' : Int) ≤ ((e : Nat) : Int)) = false := decide_eq_false (by omega)
      have hd3 : decide (i' ≤ e) = false := decide_eq_false hle
      go_wp2
      go_quiet ((go_at_call 81; exact Calls.quiet_of_same (less_w _ _ _)))
      go_wp2
      have hi2 : i' = scanUp (fun x => ltA x (swp d a pivot)[a]!) (swp d a pivot) (e) (a + 1) := (up_end (fun x => ltA x (swp d a pivot)[a]!) (swp d a pivot) (e) i' (.inl hle)).symm.trans HSC.out
      have HI2 := Lib.hid hi2
      clear hi2
      go_loopw [11] (fun vj w2 => ∃ j' : Nat, vj = .int .i64 j' ∧ j' ≤ e ∧ i' ≤ j' + 1 ∧ Hid (Lies w w2 g m (swp d a pivot)) ∧ Hid (scanDown (fun x => !ltA x (swp d a pivot)[a]!) (swp d a pivot) i'  j' = scanDown (fun x => !ltA x (swp d a pivot)[a]!) (swp d a pivot) i'  (e))) (fun vj _ => (intOf vj).toNat)
      case atStart => exact ⟨e, by first | rfl | (congr 1; omega), Nat.le_refl _, hij', HK.out.drewN _, rfl⟩
      case round =>
        obtain ⟨j', rfl, hjj, hij2, HK2, HSD⟩ := hrel
        clear hcw hfw HK
        have hcw := HK2.out.cells HG.out
        have hfw := HK2.out.free
        rw [HS0.out] at hcw hfw
        have q3 : j' < d.size := by omega
        have q4 : a < d.size := by omega
        by_cases hle2 : i' ≤ j'
        · exfalso; omega
        · have hd2 : decide ((i' : Int) ≤ (j' : Int)) = false := decide_eq_false (by omega)
          have hd3 : decide (i' ≤ j') = false := decide_eq_false hle2
          go_wp2
          go_quiet ((go_at_call 81; exact Calls.quiet_of_same (less_w _ _ _)))
          have hj2 : j' = scanDown (fun x => !ltA x (swp d a pivot)[a]!) (swp d a pivot) i'  (e) := (down_end (fun x => !ltA x (swp d a pivot)[a]!) (swp d a pivot) i' j' (.inl hle2)).symm.trans HSD.out
          generalize hW_ : wr.drewN nq = W3
          have HK3 : Hid (Lies w W3 g m (swp d a pivot)) := by rw [← hW_]; exact HK2.out.drewN _
          clear hW_ hcw hfw HK2
          have hcw := HK3.out.cells HG.out
          have hfw := HK3.out.free
          rw [HS0.out] at hcw hfw
          have hgt : decide ((j' : Int) < (i' : Int)) = true := decide_eq_true (by omega)
          have HB := Lib.hid (part_one a b pivot d HE.out HI2.out hj2 (by omega))
          clear hj2
          obtain ⟨v3, hy3⟩ := cell?_setCell_some (w := W3) (p := ⟨g, j', none⟩) (x := .int .u32 (G a)) (q := ⟨g, a, none⟩) (hcw a q4)
          go_wp2
          go_region
          all_goals generalize hW_ : ((W3.setCell ⟨g, j', none⟩ (.int .u32 (G a))).setCell ⟨g, a, none⟩ (.int .u32 (G j'))).drew = W4
          all_goals have HK4 := Lib.hid (show Lies w W4 g m (swp (swp d a pivot) j' a) by rw [← hW_]; exact HK3.out.swpG HG.out (by rw [size_swp]; exact q3) (by rw [size_swp]; exact q4))
          all_goals clear hW_ hcw hfw hy3 HK3
          all_goals go_wp2
          all_goals go_ret2
          all_goals exact ⟨by rw [HB.out]; rfl, by rw [HB.out]; exact HK4.out⟩
end Go.Proofs.Ytbllchfgjginoaa
