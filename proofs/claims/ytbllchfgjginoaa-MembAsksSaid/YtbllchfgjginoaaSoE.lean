/-
  Heap sort, where it lies.
-/
import Derived.Test.YtbllchfgjginoaaSoB
import Derived.Sort.LotC
namespace Go.Proofs.Ytbllchfgjginoaa
open Go.RowKit Go.Sort
set_option linter.unusedVariables false
set_option linter.unusedSimpArgs false
theorem size_sift (hi first : Nat) : ∀ (k root : Nat) (d : Array Int), hi - root ≤ k → (siftDown ltA hi first root d).size = d.size := by
  intro k
  induction k with
  | zero =>
    intro root d h
    rw [sift_end (by omega)]
  | succ k ih =>
    intro root d h
    by_cases hc : 2 * root + 1 ≥ hi
    · rw [sift_end hc]
    · by_cases h2 : 2 * root + 2 < hi ∧ ltA d[first + (2 * root + 1)]! d[first + (2 * root + 1) + 1]! = true
      · rw [sift_go (c := 2 * root + 2) hc (.inr ⟨rfl, h2.1, h2.2⟩)]
        split
        · rw [ih _ _ (by omega), size_swp]
        · rfl
      · rw [sift_go (c := 2 * root + 1) hc (.inl ⟨rfl, fun h3 => by simpa using fun h4 => h2 ⟨h3, h4⟩⟩)]
        split
        · rw [ih _ _ (by omega), size_swp]
        · rfl
set_option maxHeartbeats 16000000 in
set_option maxRecDepth 100000 in
theorem heap_w {g m cap a b : Nat} {d : Array Int} {w : World} (h : Lies w w g m d) (hab : a < b) (hb : b ≤ d.size) (hsz : d.size < 1000000000000) :
    Calls Try.prog 85 #[.slice (some ⟨g, 0, none⟩) d.size cap, .int .i64 a, .int .i64 b] w fun e w' => e = .returned (.tuple #[]) ∧ Lies w w' g m (heapSort ltA d a b) := by
  have HL := Lib.hid h
  clear h
  go_enter Try.func85, Try.ntmps85
  go_wp2
  obtain ⟨z, hz⟩ : ∃ z : Nat, z = b - a := ⟨_, rfl⟩
  rw [show ((b : Int) - (a : Int)) = (z : Int) from by omega]
  have hz1 : 1 ≤ z := by omega
  have hz2 : a + z ≤ d.size := by omega
  have HZ := Lib.hid hz
  clear hz
  go_loopw [9] (fun vi wr => ∃ (k : Nat) (dk : Array Int), vi = .int .i64 ((k : Int) - 1) ∧ k ≤ z ∧ dk.size = d.size ∧ Hid (Lies w wr g m dk) ∧ Hid (heapBuild ltA z a k dk = heapBuild ltA z a ((z - 1) / 2 + 1) d)) (fun vi _ => (intOf vi + 1).toNat)
  case atStart => exact ⟨(z - 1) / 2 + 1, d, by first | rfl | (congr 1; omega), by omega, rfl, HL, rfl⟩
  case round =>
    obtain ⟨k, dk, rfl, hkz, hsk, HK, HO⟩ := hrel
    clear HL
    have HS := Lib.hid hsk
    clear hsk
    cases k with
    | succ k =>
      rw [show (((k + 1 : Nat) : Int) - 1) = (k : Int) from by omega]
      go_wp2_with (go_at_call 95; refine (sift_n HK.out HS.out (by omega) (by omega) (by omega)).mono ?_; rintro e w' ⟨rfl, hl⟩; have HK2 := Lib.hid hl; clear hl)
      go_roundw
      case rel => exact ⟨k, _, rfl, by omega, by rw [size_sift _ _ _ _ _ (Nat.le_refl _)]; exact HS.out, HK2, HO.out⟩
      case measure => simp [intOf]
    | zero =>
      rw [show (((0 : Nat) : Int) - 1) = (-1 : Int) from rfl]
      have hO0 : Hid (dk = heapBuild ltA z a ((z - 1) / 2 + 1) d) := HO.out
      go_wp2
      go_loopw [10] (fun vi wr => ∃ (k : Nat) (dj : Array Int), vi = .int .i64 ((k : Int) - 1) ∧ k ≤ z ∧ dj.size = d.size ∧ Hid (Lies w wr g m dj) ∧ Hid (heapPop ltA a k dj = heapPop ltA a z dk)) (fun vi _ => (intOf vi + 1).toNat)
      case atStart => exact ⟨z, dk, rfl, Nat.le_refl _, HS.out, HK, rfl⟩
      case round =>
        obtain ⟨k, dj, rfl, hkz, hsj, HJ, HP⟩ := hrel
        cases k with
        | succ k =>
          rw [show (((k + 1 : Nat) : Int) - 1) = (k : Int) from by omega]
          obtain ⟨G, hG⟩ : ∃ G : Nat → Int, ∀ t, G t = dj[t]! := ⟨fun t => dj[t]!, fun _ => rfl⟩
          have hcw := HJ.out.cells hG
          have hfw := HJ.out.free
          rw [hsj] at hcw hfw
          have HG := Lib.hid hG
          have HT := Lib.hid hsj
          clear hG hsj
          have xw5 : IntKind.i64.wrap ((a : Int) + (k : Int)) = (a : Int) + (k : Int) := IntWalk.i64_in _ (by omega)
          have xa5 : (0 : Int) ≤ (a : Int) + (k : Int) := by omega
          have xb5 : (a : Int) + (k : Int) < (d.size : Int) := by omega
          have xc5 : ((a : Int) + (k : Int)).toNat = a + k := by omega
          have q1 : a < d.size := by omega
          have q2 : a + k < d.size := by omega
          obtain ⟨v3, hy3⟩ := cell?_setCell_some (w := wr) (p := ⟨g, a, none⟩) (x := .int .u32 (G (a + k))) (q := ⟨g, a + k, none⟩) (hcw (a + k) (by omega))
          go_wp2
          go_region
          all_goals generalize hW_ : ((wr.setCell ⟨g, a, none⟩ (.int .u32 (G (a + k)))).setCell ⟨g, a + k, none⟩ (.int .u32 (G a))).drew = W3
          all_goals have HJ3 := Lib.hid (show Lies w W3 g m (swp dj a (a + k)) by rw [← hW_]; exact HJ.out.swpG HG.out (by have := HT.out; omega) (by have := HT.out; omega))
          all_goals clear hW_ hcw hfw hy3
          all_goals go_wp2_with (go_at_call 95; refine (sift_n (lo := 0) (hi := k) (first := a) (n := d.size) HJ3.out (by rw [size_swp]; exact HT.out) (by omega) (by omega) (by omega)).mono ?_; rintro e w' ⟨rfl, hl⟩; have HK2 := Lib.hid hl; clear hl)
          all_goals go_roundw
          case rel => exact ⟨k, _, rfl, by omega, by rw [size_sift _ _ _ _ _ (Nat.le_refl _), size_swp]; exact HT.out, HK2, HP.out⟩
          case measure => simp [intOf]
        | zero =>
          rw [show (((0 : Nat) : Int) - 1) = (-1 : Int) from rfl]
          go_wp2
          go_end0
          exact ⟨rfl, by unfold heapSort; rw [← HZ.out, ← hO0.out, ← HP.out]; exact HJ.out⟩
end Go.Proofs.Ytbllchfgjginoaa
/-
  A row parted by one that is the least.
-/
namespace Go.Proofs.Ytbllchfgjginoaa
open Go.RowKit Go.Sort
set_option linter.unusedVariables false
set_option linter.unusedSimpArgs false
theorem up_go (p : Int → Bool) (d : Array Int) (j i : Nat) (h : i ≤ j) (hp : p d[i]! = true) : scanUp p d j i = scanUp p d j (i + 1) := by
  rw [scanUp, if_pos (by simp [h, hp])]
theorem up_end (p : Int → Bool) (d : Array Int) (j i : Nat) (h : ¬ i ≤ j ∨ p d[i]! = false) : scanUp p d j i = i := by
  rw [scanUp, if_neg (by rcases h with h | h <;> simp [h])]
theorem down_go (p : Int → Bool) (d : Array Int) (i j : Nat) (h : i ≤ j) (h0 : 0 < j) (hp : p d[j]! = true) : scanDown p d i j = scanDown p d i (j - 1) := by
  obtain ⟨k, rfl⟩ : ∃ k, j = k + 1 := ⟨j - 1, by omega⟩
  rw [scanDown, if_pos (by simp [h, hp])]
  rfl
theorem down_end (p : Int → Bool) (d : Array Int) (i j : Nat) (h : ¬ i ≤ j ∨ p d[j]! = false) : scanDown p d i j = j := by
  cases j with
  | zero => rfl
  | succ k => rw [scanDown, if_neg (by rcases h with h | h <;> simp [h])]
/-- Two scans that stop for contrary reasons do not stop at one place. -/
theorem scans_ne (p : Int → Bool) (a i j : Nat) (d : Array Int) (h0 : 0 < i) {i2 j2 : Nat} (hi2 : i2 = scanUp p d j i) (hj2 : j2 = scanDown (fun x => !p x) d i2 j) (h : i2 ≤ j2) : i2 < j2 := by
  subst hi2; subst hj2
  obtain ⟨u1, _, _, u4⟩ := scanUp_spec p d j _ i rfl
  obtain ⟨v1, _, _, v4⟩ := scanDown_spec (fun x => !p x) d (scanUp p d j i) j
  refine Nat.lt_of_le_of_ne h fun e => ?_
  have f1 := u4 (by omega)
  have f2 := v4 h (by omega)
  rw [← e] at f2
  simp only [f1] at f2
  cases f2
theorem eq_break (a i j : Nat) (dk : Array Int) {i2 j2 : Nat} (hi2 : i2 = scanUp (fun x => !ltA dk[a]! x) dk j i) (hj2 : j2 = scanDown (fun x => ltA dk[a]! x) dk i2 j) (h : j2 < i2) : partEqLoop ltA a i j dk = (i2, dk) := by
  subst hi2; subst hj2
  rw [partEqLoop_eq, if_pos h]
theorem eq_go (a i j : Nat) (dk : Array Int) {i2 j2 : Nat} (hi2 : i2 = scanUp (fun x => !ltA dk[a]! x) dk j i) (hj2 : j2 = scanDown (fun x => ltA dk[a]! x) dk i2 j) (h : ¬ i2 > j2) : partEqLoop ltA a i j dk = partEqLoop ltA a (i2 + 1) (j2 - 1) (swp dk i2 j2) := by
  subst hi2; subst hj2
  rw [partEqLoop_eq, if_neg h]
set_option maxHeartbeats 16000000 in
set_option maxRecDepth 100000 in
theorem parteq_w {g m cap a b pivot : Nat} {d : Array Int} {w : World} (h : Lies w w g m d) (hap : a ≤ pivot) (hpb : pivot < b) (hb : b ≤ d.size) (hsz : d.size < 1000000000000) :
    Calls Try.prog 90 #[.slice (some ⟨g, 0, none⟩) d.size cap, .int .i64 a, .int .i64 b, .int .i64 pivot] w fun e w' => e = .returned (.int .i64 (partitionEqual ltA d a b pivot).1) ∧ Lies w w' g m (partitionEqual ltA d a b pivot).2 := by
  have HL := Lib.hid h
  obtain ⟨G, hG⟩ : ∃ G : Nat → Int, ∀ t, G t = d[t]! := ⟨fun t => d[t]!, fun _ => rfl⟩
  have hcw := h.cells hG
  have hfw := h.free
  have HG := Lib.hid hG
  clear h hG
  have q1 : a < d.size := by omega
  have q2 : pivot < d.size := by omega
  obtain ⟨v3, hy3⟩ := cell?_setCell_some (w := w) (p := ⟨g, a, none⟩) (x := .int .u32 (G pivot)) (q := ⟨g, pivot, none⟩) (hcw pivot q2)
  go_enter Try.func90, Try.ntmps90
  go_wp2
  go_region
  all_goals generalize hW_ : ((w.setCell ⟨g, a, none⟩ (.int .u32 (G pivot))).setCell ⟨g, pivot, none⟩ (.int .u32 (G a))).drew = W0
  all_goals have HK0 := Lib.hid (show Lies w W0 g m (swp d a pivot) by rw [← hW_]; exact HL.out.swpG HG.out q1 q2)
  all_goals clear hW_ hcw hfw hy3 HG HL
  all_goals go_wp2
  go_loopw [9, 10] (fun vi vj wr => ∃ (i j : Nat) (dk : Array Int), vi = .int .i64 i ∧ vj = .int .i64 j ∧ a < i ∧ i ≤ j + 1 ∧ j < b ∧ dk.size = d.size ∧ Hid (Lies w wr g m dk) ∧ Hid (partEqLoop ltA a i j dk = partEqLoop ltA a (a + 1) (b - 1) (swp d a pivot)))
    (fun vi vj _ => (intOf vj).toNat + 1 - (intOf vi).toNat)
  case atStart => exact ⟨a + 1, b - 1, swp d a pivot, by go_num, by congr 1; omega, by omega, by omega, by omega, size_swp _ _ _, HK0, rfl⟩
  case round =>
    obtain ⟨i, j, dk, rfl, rfl, hai, hij, hjb, hs, HKi, HO⟩ := hrel
    clear HK0
    obtain ⟨G, hG⟩ : ∃ G : Nat → Int, ∀ t, G t = dk[t]! := ⟨fun t => dk[t]!, fun _ => rfl⟩
    have HG := Lib.hid hG
    have HS := Lib.hid hs
    clear hG hs
    go_wp2
    go_loopw [9] (fun vi w1 => ∃ i' : Nat, vi = .int .i64 i' ∧ i ≤ i' ∧ i' ≤ j + 1 ∧ Hid (Lies w w1 g m dk) ∧ Hid (scanUp (fun x => !ltA dk[a]! x) dk j i' = scanUp (fun x => !ltA dk[a]! x) dk j i))
      (fun vi _ => j + 1 - (intOf vi).toNat)
    case atStart => exact ⟨i, rfl, Nat.le_refl _, hij, HKi, rfl⟩
    case round =>
      obtain ⟨i', rfl, hii, hij', HK, HSC⟩ := hrel
      clear HKi
      have hcw := HK.out.cells HG.out
      have hfw := HK.out.free
      rw [HS.out] at hcw hfw
      have q4 : a < d.size := by omega
      by_cases hle : i' ≤ j
      · have q5 : i' < d.size := by omega
        go_wp2
        go_quiet ((go_at_call 81; exact Calls.quiet_of_same (less_w _ _ _)))
        go_wp2
        · have ht0 : (!ltA (G a) (G i')) = true := by assumption
          go_roundw
          case rel => exact ⟨i' + 1, by go_num, by omega, by omega, HK.out.drewN _, (up_go (fun x => !ltA dk[a]! x) dk j i' hle (by rw [← HG.out, ← HG.out]; exact ht0)).symm.trans HSC.out⟩
          case measure => simp [intOf]; omega
        · have ht0 : (!ltA (G a) (G i')) = false := by assumption
          have hi2 : i' = scanUp (fun x => !ltA dk[a]! x) dk j i := (up_end (fun x => !ltA dk[a]! x) dk j i' (.inr (by rw [← HG.out, ← HG.out]; exact ht0))).symm.trans HSC.out
          clear ht0
          have HI2 := Lib.hid hi2
          clear hi2
          go_loopw [10] (fun vj w2 => ∃ j' : Nat, vj = .int .i64 j' ∧ j' ≤ j ∧ i' ≤ j' + 1 ∧ Hid (Lies w w2 g m dk) ∧ Hid (scanDown (fun x => ltA dk[a]! x) dk i' j' = scanDown (fun x => ltA dk[a]! x) dk i' j)) (fun vj _ => (intOf vj).toNat)
          case atStart => exact ⟨j, rfl, Nat.le_refl _, hij', HK.out.drewN _, rfl⟩
          case round =>
            obtain ⟨j', rfl, hjj, hij2, HK2, HSD⟩ := hrel
            clear hcw hfw HK
            have hcw := HK2.out.cells HG.out
            have hfw := HK2.out.free
            rw [HS.out] at hcw hfw
            have q3 : j' < d.size := by omega
            have q4 : a < d.size := by omega
            by_cases hle2 : i' ≤ j'
            · have q5 : i' < d.size := by omega
              go_wp2
              go_quiet ((go_at_call 81; exact Calls.quiet_of_same (less_w _ _ _)))
              go_wp2
              · have ht : ltA (G a) (G j') = true := by assumption
                go_roundw
                case rel => exact ⟨j' - 1, by congr 1; omega, by omega, by omega, HK2.out.drewN _, (down_go (fun x => ltA dk[a]! x) dk i' j' hle2 (by omega) (by rw [← HG.out, ← HG.out]; exact ht)).symm.trans HSD.out⟩
                case measure => simp [intOf]; omega
              · have ht : ltA (G a) (G j') = false := by assumption
                have hj2 : j' = scanDown (fun x => ltA dk[a]! x) dk i' j := (down_end (fun x => ltA dk[a]! x) dk i' j' (.inr (by rw [← HG.out, ← HG.out]; exact ht))).symm.trans HSD.out
                have hij3 : i' < j' := scans_ne (fun x => !ltA dk[a]! x) a i j dk (by omega) HI2.out (by simpa only [Bool.not_not] using hj2) hle2
                have HB := Lib.hid (eq_go a i j dk HI2.out hj2 (by omega))
                clear hj2 ht
                generalize hW_ : wr.drewN nq = W3
                have HK3 : Hid (Lies w W3 g m dk) := by rw [← hW_]; exact HK2.out.drewN _
                clear hW_ hcw hfw HK2
                have hcw := HK3.out.cells HG.out
                have hfw := HK3.out.free
                rw [HS.out] at hcw hfw
                have hgt : decide ((j' : Int) < (i' : Int)) = false := decide_eq_false (by omega)
                go_wp2
                go_region
                all_goals go_wp2
                go_roundw
                case rel => exact ⟨i' + 1, j' - 1, swp dk i' j', by go_num, by congr 1; omega, by omega, by omega, by omega, by rw [size_swp]; exact HS.out, HK3.out.swpG HG.out (by have := HS.out; omega) (by have := HS.out; omega), by rw [← HO.out, HB.out]; rfl⟩
                case measure => simp [intOf]; omega
            · have hd2 : decide ((i' : Int) ≤ (j' : Int)) = false := decide_eq_false (by omega)
              have hd3 : decide (i' ≤ j') = false := decide_eq_false hle2
              go_wp2
              go_quiet ((go_at_call 81; exact Calls.quiet_of_same (less_w _ _ _)))
              have hj2 : j' = scanDown (fun x => ltA dk[a]! x) dk i' j := (down_end (fun x => ltA dk[a]! x) dk i' j' (.inl hle2)).symm.trans HSD.out
              have HB := Lib.hid (eq_break a i j dk HI2.out hj2 (by omega))
              clear hj2
              have hgt : decide ((j' : Int) < (i' : Int)) = true := decide_eq_true (by omega)
              go_wp2
              go_ret
              exact ⟨by unfold partitionEqual; rw [← HO.out, HB.out]; rfl, by unfold partitionEqual; rw [← HO.out, HB.out]; exact HK2.out.drewN _⟩
      · have hd2 : decide ((i' : Int) ≤ (j : Int)) = false := decide_eq_false (by omega)
        have hd3 : decide (i' ≤ j) = false := decide_eq_false hle
        go_wp2
        go_quiet ((go_at_call 81; exact Calls.quiet_of_same (less_w _ _ _)))
        go_wp2
        have hi2 : i' = scanUp (fun x => !ltA dk[a]! x) dk j i := (up_end (fun x => !ltA dk[a]! x) dk j i' (.inl hle)).symm.trans HSC.out
        have HI2 := Lib.hid hi2
        clear hi2
        go_loopw [10] (fun vj w2 => ∃ j' : Nat, vj = .int .i64 j' ∧ j' ≤ j ∧ i' ≤ j' + 1 ∧ Hid (Lies w w2 g m dk) ∧ Hid (scanDown (fun x => ltA dk[a]! x) dk i' j' = scanDown (fun x => ltA dk[a]! x) dk i' j)) (fun vj _ => (intOf vj).toNat)
        case atStart => exact ⟨j, rfl, Nat.le_refl _, hij', HK.out.drewN _, rfl⟩
        case round =>
          obtain ⟨j', rfl, hjj, hij2, HK2, HSD⟩ := hrel
          clear hcw hfw HK
          have hcw := HK2.out.cells HG.out
          have hfw := HK2.out.free
          rw [HS.out] at hcw hfw
          have q3 : j' < d.size := by omega
          have q4 : a < d.size := by omega
          by_cases hle2 : i' ≤ j'
          · exfalso; omega
          · have hd2 : decide ((i' : Int) ≤ (j' : Int)) = false := decide_eq_false (by omega)
            have hd3 : decide (i' ≤ j') = false := decide_eq_false hle2
            go_wp2
            go_quiet ((go_at_call 81; exact Calls.quiet_of_same (less_w _ _ _)))
            have hj2 : j' = scanDown (fun x => ltA dk[a]! x) dk i' j := (down_end (fun x => ltA dk[a]! x) dk i' j' (.inl hle2)).symm.trans HSD.out
            have HB := Lib.hid (eq_break a i j dk HI2.out hj2 (by omega))
            clear hj2
            have hgt : decide ((j' : Int) < (i' : Int)) = true := decide_eq_true (by omega)
            go_wp2
            go_ret
            exact ⟨by unfold partitionEqual; rw [← HO.out, HB.out]; rfl, by unfold partitionEqual; rw [← HO.out, HB.out]; exact HK2.out.drewN _⟩
end Go.Proofs.Ytbllchfgjginoaa
/-
  A row parted by one of it.
-/
namespace Go.Proofs.Ytbllchfgjginoaa
open Go.RowKit Go.Sort
set_option linter.unusedVariables false
set_option linter.unusedSimpArgs false
theorem part_break (a i j : Nat) (dk : Array Int) {i2 j2 : Nat} (hi2 : i2 = scanUp (fun x => ltA x dk[a]!) dk j i) (hj2 : j2 = scanDown (fun x => !ltA x dk[a]!) dk i2 j) (h : j2 < i2) : partLoop ltA a i j dk = (j2, dk) := by
  subst hi2; subst hj2
  rw [partLoop_eq, if_pos h]
theorem part_go (a i j : Nat) (dk : Array Int) {i2 j2 : Nat} (hi2 : i2 = scanUp (fun x => ltA x dk[a]!) dk j i) (hj2 : j2 = scanDown (fun x => !ltA x dk[a]!) dk i2 j) (h : ¬ i2 > j2) : partLoop ltA a i j dk = partLoop ltA a (i2 + 1) (j2 - 1) (swp dk i2 j2) := by
  subst hi2; subst hj2
  rw [partLoop_eq, if_neg h]
theorem part_one (a b pivot : Nat) (d : Array Int) {e i2 j2 : Nat} (he : e = b - 1) (hi2 : i2 = scanUp (fun x => ltA x (swp d a pivot)[a]!) (swp d a pivot) e (a + 1)) (hj2 : j2 = scanDown (fun x => !ltA x (swp d a pivot)[a]!) (swp d a pivot) i2 e) (h : j2 < i2) : partition ltA d a b pivot = (j2, true, swp (swp d a pivot) j2 a) := by
  subst hi2; subst hj2; subst he
  unfold partition
  simp only []
  rw [if_pos h]
theorem part_two (a b pivot : Nat) (d : Array Int) {e i2 j2 : Nat} (he : e = b - 1) (hi2 : i2 = scanUp (fun x => ltA x (swp d a pivot)[a]!) (swp d a pivot) e (a + 1)) (hj2 : j2 = scanDown (fun x => !ltA x (swp d a pivot)[a]!) (swp d a pivot) i2 e) (h : ¬ j2 < i2) : partition ltA d a b pivot = ((partLoop ltA a (i2 + 1) (j2 - 1) (swp (swp d a pivot) i2 j2)).1, false, swp (partLoop ltA a (i2 + 1) (j2 - 1) (swp (swp d a pivot) i2 j2)).2 (partLoop ltA a (i2 + 1) (j2 - 1) (swp (swp d a pivot) i2 j2)).1 a) := by
  subst hi2; subst hj2; subst he
  unfold partition
  simp only []
  rw [if_neg h]
set_option maxHeartbeats 16000000 in
set_option maxRecDepth 100000 in
theorem part_w {g m cap a b pivot : Nat} {d : Array Int} {w : World} (h : Lies w w g m d) (hap : a ≤ pivot) (hpb : pivot < b) (hb : b ≤ d.size) (hsz : d.size < 1000000000000) :
    Calls Try.prog 91 #[.slice (some ⟨g, 0, none⟩) d.size cap, .int .i64 a, .int .i64 b, .int .i64 pivot] w fun e w' => e = .returned (.tuple #[.int .i64 (partition ltA d a b pivot).1, .bool (partition ltA d a b pivot).2.1]) ∧ Lies w w' g m (partition ltA d a b pivot).2.2 := by
  have HL := Lib.hid h
  obtain ⟨G, hG⟩ : ∃ G : Nat → Int, ∀ t, G t = d[t]! := ⟨fun t => d[t]!, fun _ => rfl⟩
  have hcw := h.cells hG
  have hfw := h.free
  have HG := Lib.hid hG
  clear h hG
  have q1 : a < d.size := by omega
  have q2 : pivot < d.size := by omega
  obtain ⟨v3, hy3⟩ := cell?_setCell_some (w := w) (p := ⟨g, a, none⟩) (x := .int .u32 (G pivot)) (q := ⟨g, pivot, none⟩) (hcw pivot q2)
  go_enter Try.func91, Try.ntmps91
  go_wp2
  go_region
  all_goals generalize hW_ : ((w.setCell ⟨g, a, none⟩ (.int .u32 (G pivot))).setCell ⟨g, pivot, none⟩ (.int .u32 (G a))).drew = W0
  all_goals have HKi := Lib.hid (show Lies w W0 g m (swp d a pivot) by rw [← hW_]; exact HL.out.swpG HG.out q1 q2)
  all_goals clear hW_ hcw hfw hy3 HG HL
  all_goals obtain ⟨G, hG⟩ : ∃ G : Nat → Int, ∀ t, G t = (swp d a pivot)[t]! := ⟨fun t => (swp d a pivot)[t]!, fun _ => rfl⟩
  all_goals have HG := Lib.hid hG
  all_goals have HS0 : Hid ((swp d a pivot).size = d.size) := size_swp d a pivot
  all_goals clear hG
  all_goals go_wp2
  all_goals obtain ⟨e, he⟩ : ∃ e : Nat, e = b - 1 := ⟨_, rfl⟩
  all_goals rw [show ((b : Int) - 1) = (e : Int) from by omega]
  all_goals have he1 : e + 1 = b := by omega
  all_goals have HE := Lib.hid he
  all_goals clear he
  all_goals have he2 : e < d.size := by omega
  all_goals have he3 : a ≤ e := by omega
  all_goals have he4 : e < b := by omega
  all_goals clear he1
  go_loopw [10] (fun vi w1 => ∃ i' : Nat, vi = .int .i64 i' ∧ a + 1 ≤ i' ∧ i' ≤ e + 1 ∧ Hid (Lies w w1 g m (swp d a pivot)) ∧ Hid (scanUp (fun x => ltA x (swp d a pivot)[a]!) (swp d a pivot) (e) i' = scanUp (fun x => ltA x (swp d a pivot)[a]!) (swp d a pivot) (e) (a + 1))) (fun vi _ => e + 1 - (intOf vi).toNat)
  case atStart => exact ⟨a + 1, by first | rfl | go_num | (congr 1; omega), Nat.le_refl _, by omega, HKi, rfl⟩
  case round =>
    obtain ⟨i', rfl, hii, hij', HK, HSC⟩ := hrel
    clear HKi
    have hcw := HK.out.cells HG.out
    have hfw := HK.out.free
    rw [HS0.out] at hcw hfw
    have q4 : a < d.size := by omega
    by_cases hle : i' ≤ e
    · have q5 : i' < d.size := by omega
      have hd2 : decide ((i' : Int) ≤ ((e : Nat) : Int)) = true := decide_eq_true (by omega)
      go_wp2
      go_quiet ((go_at_call 81; exact Calls.quiet_of_same (less_w _ _ _)))
      go_wp2
      · have ht : ltA (G i') (G a) = true := by assumption
        go_roundw
        case rel => exact ⟨i' + 1, by go_num, by omega, by omega, HK.out.drewN _, (up_go (fun x => ltA x (swp d a pivot)[a]!) (swp d a pivot) (e) i' hle (by rw [← HG.out, ← HG.out]; exact ht)).symm.trans HSC.out⟩
        case measure => simp [intOf]; omega
      · have ht : ltA (G i') (G a) = false := by assumption
        have hi2 : i' = scanUp (fun x => ltA x (swp d a pivot)[a]!) (swp d a pivot) (e) (a + 1) := (up_end (fun x => ltA x (swp d a pivot)[a]!) (swp d a pivot) (e) i' (.inr (by rw [← HG.out, ← HG.out]; exact ht))).symm.trans HSC.out
        clear ht
        have HI2 := Lib.hid hi2
        clear hi2
        go_loopw [11] (fun vj w2 => ∃ j' : Nat, vj = .int .i64 j' ∧ j' ≤ e ∧ i' ≤ j' + 1 ∧ Hid (Lies w w2 g m (swp d a pivot)) ∧ Hid (scanDown (fun x => !ltA x (swp d a pivot)[a]!) (swp d a pivot) i'  j' = scanDown (fun x => !ltA x (swp d a pivot)[a]!) (swp d a pivot) i'  (e))) (fun vj _ => (intOf vj).toNat)
        case atStart => exact ⟨e, by first | rfl | (congr 1; omega), Nat.le_refl _, hij', HK.out.drewN _, rfl⟩
        case round =>
          obtain ⟨j', rfl, hjj, hij2, HK2, HSD⟩ := hrel
          clear hcw hfw HK
          have hcw := HK2.out.cells HG.out
          have hfw := HK2.out.free
          rw [HS0.out] at hcw hfw
          have q3 : j' < d.size := by omega
          have q4 : a < d.size := by omega
          by_cases hle2 : i' ≤ j'
          · have q5 : i' < d.size := by omega
            go_wp2
            go_quiet ((go_at_call 81; exact Calls.quiet_of_same (less_w _ _ _)))
            go_wp2
            · have ht : (!ltA (G j') (G a)) = true := by assumption
              go_roundw
              case rel => exact ⟨j' - 1, by congr 1; omega, by omega, by omega, HK2.out.drewN _, (down_go (fun x => !ltA x (swp d a pivot)[a]!) (swp d a pivot) i' j' hle2 (by omega) (by rw [← HG.out, ← HG.out]; exact ht)).symm.trans HSD.out⟩
              case measure => simp [intOf]; omega
            · have ht : (!ltA (G j') (G a)) = false := by assumption
              have hj2 : j' = scanDown (fun x => !ltA x (swp d a pivot)[a]!) (swp d a pivot) i'  (e) := (down_end (fun x => !ltA x (swp d a pivot)[a]!) (swp d a pivot) i' j' (.inr (by rw [← HG.out, ← HG.out]; exact ht))).symm.trans HSD.out
              have hij3 : i' < j' := scans_ne (fun x => ltA x (swp d a pivot)[a]!) a (a + 1) (e) (swp d a pivot) (by omega) HI2.out hj2 hle2
              clear ht
              generalize hW_ : wr.drewN nq = W3
              have HK3 : Hid (Lies w W3 g m (swp d a pivot)) := by rw [← hW_]; exact HK2.out.drewN _
              clear hW_ hcw hfw HK2
              have hcw := HK3.out.cells HG.out
              have hfw := HK3.out.free
              rw [HS0.out] at hcw hfw
              have hgt : decide ((j' : Int) < (i' : Int)) = false := decide_eq_false (by omega)
              have HP := Lib.hid (part_two a b pivot d HE.out HI2.out hj2 (by omega))
              clear hj2
              obtain ⟨i1, hi1⟩ : ∃ i1, i1 = i' := ⟨_, rfl⟩
              obtain ⟨j1, hj1⟩ : ∃ j1, j1 = j' := ⟨_, rfl⟩
              go_wp2
              go_region
              all_goals generalize hW_ : ((W3.setCell ⟨g, i', none⟩ (.int .u32 (G j'))).setCell ⟨g, j', none⟩ (.int .u32 (G i'))).drew = W4
              all_goals have HK4 := Lib.hid (show Lies w W4 g m (swp (swp d a pivot) i' j') by rw [← hW_]; exact HK3.out.swpG HG.out (by rw [size_swp]; exact q5) (by rw [size_swp]; exact q3))
              all_goals clear hW_ hcw hfw HK3
              all_goals go_wp2
              go_loopw [10, 11] (fun vi vj wr => ∃ (i j : Nat) (dk : Array Int), vi = .int .i64 i ∧ vj = .int .i64 j ∧ a < i ∧ i ≤ j + 1 ∧ j < b ∧ dk.size = d.size ∧ Hid (Lies w wr g m dk) ∧ Hid (partLoop ltA a i j dk = partLoop ltA a (i1 + 1) (j1 - 1) (swp (swp d a pivot) i1 j1)))
                (fun vi vj _ => (intOf vj).toNat + 1 - (intOf vi).toNat)
              case atStart => exact ⟨i' + 1, j' - 1, _, by go_num, by congr 1; omega, by omega, by omega, by omega, by rw [size_swp, size_swp], HK4, by rw [hi1, hj1]; rfl⟩
              case round =>
                obtain ⟨i, j, dk, rfl, rfl, hai, hij, hjb, hs, HKi, HO⟩ := hrel
                subst hi1
                subst hj1
                clear HK4 HI2 HSC HSD HG hgt hij3 hle hle2 hii hij' hjj hij2 q3 q5 hd2
                obtain ⟨G, hG⟩ : ∃ G : Nat → Int, ∀ t, G t = dk[t]! := ⟨fun t => dk[t]!, fun _ => rfl⟩
                have HG := Lib.hid hG
                have HS := Lib.hid hs
                clear hG hs
                go_wp2
                go_loopw [10] (fun vi w1 => ∃ i' : Nat, vi = .int .i64 i' ∧ i ≤ i' ∧ i' ≤ j + 1 ∧ Hid (Lies w w1 g m dk) ∧ Hid (scanUp (fun x => ltA x dk[a]!) dk (j) i' = scanUp (fun x => ltA x dk[a]!) dk (j) (i))) (fun vi _ => j + 1 - (intOf vi).toNat)
                case atStart => exact ⟨i, by first | rfl | go_num | (congr 1; omega), Nat.le_refl _, by omega, HKi, rfl⟩
                case round =>
                  obtain ⟨i', rfl, hii, hij', HK, HSC⟩ := hrel
                  clear HKi
                  have hcw := HK.out.cells HG.out
                  have hfw := HK.out.free
                  rw [HS.out] at hcw hfw
                  have q4 : a < d.size := by omega
                  by_cases hle : i' ≤ j
                  · have q5 : i' < d.size := by omega
                    have hd2 : decide ((i' : Int) ≤ ((j : Nat) : Int)) = true := decide_eq_true (by omega)
                    go_wp2
                    go_quiet ((go_at_call 81; exact Calls.quiet_of_same (less_w _ _ _)))
                    go_wp2
                    · have ht : ltA (G i') (G a) = true := by assumption
                      go_roundw
                      case rel => exact ⟨i' + 1, by go_num, by omega, by omega, HK.out.drewN _, (up_go (fun x => ltA x dk[a]!) dk (j) i' hle (by rw [← HG.out, ← HG.out]; exact ht)).symm.trans HSC.out⟩
                      case measure => simp [intOf]; omega
                    · have ht : ltA (G i') (G a) = false := by assumption
                      have hi2 : i' = scanUp (fun x => ltA x dk[a]!) dk (j) (i) := (up_end (fun x => ltA x dk[a]!) dk (j) i' (.inr (by rw [← HG.out, ← HG.out]; exact ht))).symm.trans HSC.out
                      clear ht
                      have HI2 := Lib.hid hi2
                      clear hi2
                      go_loopw [11] (fun vj w2 => ∃ j' : Nat, vj = .int .i64 j' ∧ j' ≤ j ∧ i' ≤ j' + 1 ∧ Hid (Lies w w2 g m dk) ∧ Hid (scanDown (fun x => !ltA x dk[a]!) dk i'  j' = scanDown (fun x => !ltA x dk[a]!) dk i'  (j))) (fun vj _ => (intOf vj).toNat)
                      case atStart => exact ⟨j, by first | rfl | (congr 1; omega), Nat.le_refl _, hij', HK.out.drewN _, rfl⟩
                      case round =>
                        obtain ⟨j', rfl, hjj, hij2, HK2, HSD⟩ := hrel
                        clear hcw hfw HK
                        have hcw := HK2.out.cells HG.out
                        have hfw := HK2.out.free
                        rw [HS.out] at hcw hfw
                        have q3 : j' < d.size := by omega
                        have q4 : a < d.size := by omega
                        by_cases hle2 : i' ≤ j'
                        · have q5 : i' < d.size := by omega
                          go_wp2
                          go_quiet ((go_at_call 81; exact Calls.quiet_of_same (less_w _ _ _)))
                          go_wp2
                          · have ht : (!ltA (G j') (G a)) = true := by assumption
                            go_roundw
                            case rel => exact ⟨j' - 1, by congr 1; omega, by omega, by omega, HK2.out.drewN _, (down_go (fun x => !ltA x dk[a]!) dk i' j' hle2 (by omega) (by rw [← HG.out, ← HG.out]; exact ht)).symm.trans HSD.out⟩
                            case measure => simp [intOf]; omega
                          · have ht : (!ltA (G j') (G a)) = false := by assumption
                            have hj2 : j' = scanDown (fun x => !ltA x dk[a]!) dk i'  (j) := (down_end (fun x => !ltA x dk[a]!) dk i' j' (.inr (by rw [← HG.out, ← HG.out]; exact ht))).symm.trans HSD.out
                            have hij3 : i' < j' := scans_ne (fun x => ltA x dk[a]!) a (i) (j) dk (by omega) HI2.out hj2 hle2
                            clear ht
                            generalize hW_ : wr.drewN nq = W3
                            have HK3 : Hid (Lies w W3 g m dk) := by rw [← hW_]; exact HK2.out.drewN _
                            clear hW_ hcw hfw HK2
                            have hcw := HK3.out.cells HG.out
                            have hfw := HK3.out.free
                            rw [HS.out] at hcw hfw
                            have hgt : decide ((j' : Int) < (i' : Int)) = false := decide_eq_false (by omega)
                            have HB := Lib.hid (part_go a i j dk HI2.out hj2 (by omega))
                            clear hj2
                            go_wp2
                            go_region
                            all_goals go_wp2
                            go_roundw
                            case rel => exact ⟨i' + 1, j' - 1, swp dk i' j', by go_num, by congr 1; omega, by omega, by omega, by omega, by rw [size_swp]; exact HS.out, HK3.out.swpG HG.out (by have := HS.out; omega) (by have := HS.out; omega), by rw [← HO.out, HB.out]; rfl⟩
                            case measure => simp [intOf]; omega
                        · have hd2 : decide ((i' : Int) ≤ (j' : Int)) = false := decide_eq_false (by omega)
                          have hd3 : decide (i' ≤ j') = false := decide_eq_false hle2
                          go_wp2
                          go_quiet ((go_at_call 81; exact Calls.quiet_of_same (less_w _ _ _)))
                          have hj2 : j' = scanDown (fun x => !ltA x dk[a]!) dk i'  (j) := (down_end (fun x => !ltA x dk[a]!) dk i' j' (.inl hle2)).symm.trans HSD.out
                          generalize hW_ : wr.drewN nq = W3
                          have HK3 : Hid (Lies w W3 g m dk) := by rw [← hW_]; exact HK2.out.drewN _
                          clear hW_ hcw hfw HK2
                          have hcw := HK3.out.cells HG.out
                          have hfw := HK3.out.free
                          rw [HS.out] at hcw hfw
                          have hgt : decide ((j' : Int) < (i' : Int)) = true := decide_eq_true (by omega)
                          have HB := Lib.hid (part_break a i j dk HI2.out hj2 (by omega))
                          clear hj2
                          obtain ⟨v3, hy3⟩ := cell?_setCell_some (w := W3) (p := ⟨g, j', none⟩) (x := .int .u32 (G a)) (q := ⟨g, a, none⟩) (hcw a q4)
                          go_wp2
                          go_region
                          all_goals generalize hW_ : ((W3.setCell ⟨g, j', none⟩ (.int .u32 (G a))).setCell ⟨g, a, none⟩ (.int .u32 (G j'))).drew = W4
                          all_goals have HK4 := Lib.hid (show Lies w W4 g m (swp dk j' a) by rw [← hW_]; exact HK3.out.swpG HG.out (by have := HS.out; omega) (by have := HS.out; omega))
                          all_goals clear hW_ hcw hfw hy3 HK3
                          all_goals go_wp2
                          all_goals go_ret2
                          all_goals exact ⟨by rw [HP.out, ← HO.out, HB.out]; rfl, by rw [HP.out, ← HO.out, HB.out]; exact HK4.out⟩
                  · have hd2 : decide ((i' : Int) ≤ ((j : Nat) : Int)) = false := decide_eq_false (by omega)
                    have hd3 : decide (i' ≤ j) = false := decide_eq_false hle
                    go_wp2
                    go_quiet ((go_at_call 81; exact Calls.quiet_of_same (less_w _ _ _)))
                    go_wp2
                    have hi2 : i' = scanUp (fun x => ltA x dk[a]!) dk (j) (i) := (up_end (fun x => ltA x dk[a]!) dk (j) i' (.inl hle)).symm.trans HSC.out
                    have HI2 := Lib.hid hi2
                    clear hi2
                    go_loopw [11] (fun vj w2 => ∃ j' : Nat, vj = .int .i64 j' ∧ j' ≤ j ∧ i' ≤ j' + 1 ∧ Hid (Lies w w2 g m dk) ∧ Hid (scanDown (fun x => !ltA x dk[a]!) dk i'  j' = scanDown (fun x => !ltA x dk[a]!) dk i'  (j))) (fun vj _ => (intOf vj).toNat)
                    case atStart => exact ⟨j, by first | rfl | (congr 1; omega), Nat.le_refl _, hij', HK.out.drewN _, rfl⟩
                    case round =>
                      obtain ⟨j', rfl, hjj, hij2, HK2, HSD⟩ := hrel
                      clear hcw hfw HK
                      have hcw := HK2.out.cells HG.out
                      have hfw := HK2.out.free
                      rw [HS.out] at hcw hfw
                      have q3 : j' < d.size := by omega
                      have q4 : a < d.size := by omega
                      by_cases hle2 : i' ≤ j'
                      · exfalso; omega
                      · have hd2 : decide ((i' : Int) ≤ (j' : Int)) = false := decide_eq_false (by omega)
                        have hd3 : decide (i' ≤ j') = false := decide_eq_false hle2
                        go_wp2
                        go_quiet ((go_at_call 81; exact Calls.quiet_of_same (less_w _ _ _)))
                        have hj2 : j' = scanDown (fun x => !ltA x dk[a]!) dk i'  (j) := (down_end (fun x => !ltA x dk[a]!) dk i' j' (.inl hle2)).symm.trans HSD.out
                        generalize hW_ : wr.drewN nq = W3
                        have HK3 : Hid (Lies w W3 g m dk) := by rw [← hW_]; exact HK2.out.drewN _
                        clear hW_ hcw hfw HK2
                        have hcw := HK3.out.cells HG.out
                        have hfw := HK3.out.free
                        rw [HS.out] at hcw hfw
                        have hgt : decide ((j' : Int) < (i' : Int)) = true := decide_eq_true (by omega)
                        have HB := Lib.hid (part_break a i j dk HI2.out hj2 (by omega))
                        clear hj2
                        obtain ⟨v3, hy3⟩ := cell?_setCell_some (w := W3) (p := ⟨g, j', none⟩) (x := .int .u32 (G a)) (q := ⟨g, a, none⟩) (hcw a q4)
                        go_wp2
                        go_region
                        all_goals generalize hW_ : ((W3.setCell ⟨g, j', none⟩ (.int .u32 (G a))).setCell ⟨g, a, none⟩ (.int .u32 (G j'))).drew = W4
                        all_goals have HK4 := Lib.hid (show Lies w W4 g m (swp dk j' a) by rw [← hW_]; exact HK3.out.swpG HG.out (by have := HS.out; omega) (by have := HS.out; omega))
                        all_goals clear hW_ hcw hfw hy3 HK3
                        all_goals go_wp2
                        all_goals go_ret2
                        all_goals exact ⟨by rw [HP.out, ← HO.out, HB.out]; rfl, by rw [HP.out, ← HO.out, HB.out]; exact HK4.out⟩
          · have hd2 : decide ((i' : Int) ≤ (j' : Int)) = false := decide_eq_false (by omega)
            have hd3 : decide (i' ≤ j') = false := decide_eq_false hle2
            go_wp2
            go_quiet ((go_at_call 81; exact Calls.quiet_of_same (less_w _ _ _)))
            have hj2 : j' = scanDown (fun x => !ltA x (swp d a pivot)[a]!) (swp d a pivot) i'  (e) := (down_end (fun x => !ltA x (swp d a pivot)[a]!) (swp d a pivot) i' j' (.inl hle2)).symm.trans HSD.out
            generalize hW_ : wr.drewN nq = W3
            have HK3 : Hid (Lies w W3 g m (swp d a pivot)) := by rw [← hW_]; exact HK2.out.drewN _
            clear hW_ hcw hfw HK2
            have hcw := HK3.out.cells HG.out
            have hfw := HK3.out.free
            rw [HS0.out] at hcw hfw
            have hgt : decide ((j' : Int) < (i' : Int)) = true := decide_eq_true (by omega)
            have HB := Lib.hid (part_one a b pivot d HE.out HI2.out hj2 (by omega))
            clear hj2
            obtain ⟨v3, hy3⟩ := cell?_setCell_some (w := W3) (p := ⟨g, j', none⟩) (x := .int .u32 (G a)) (q := ⟨g, a, none⟩) (hcw a q4)
            go_wp2
            go_region
            all_goals generalize hW_ : ((W3.setCell ⟨g, j', none⟩ (.int .u32 (G a))).setCell ⟨g, a, none⟩ (.int .u32 (G j'))).drew = W4
            all_goals have HK4 := Lib.hid (show Lies w W4 g m (swp (swp d a pivot) j' a) by rw [← hW_]; exact HK3.out.swpG HG.out (by rw [size_swp]; exact q3) (by rw [size_swp]; exact q4))
            all_goals clear hW_ hcw hfw hy3 HK3
            all_goals go_wp2
            all_goals go_ret2
            all_goals exact ⟨by rw [HB.out]; rfl, by rw [HB.out]; exact HK4.out⟩
    · have hd2 : decide ((i' : Int) ≤ ((e : Nat) : Int)) = false := decide_eq_false (by omega)
      have hd3 : decide (i' ≤ e) = false := decide_eq_false hle
      go_wp2
      go_quiet ((go_at_call 81; exact Calls.quiet_of_same (less_w _ _ _)))
      go_wp2
      have hi2 : i' = scanUp (fun x => ltA x (swp d a pivot)[a]!) (swp d a pivot) (e) (a + 1) := (up_end (fun x => ltA x (swp d a pivot)[a]!) (swp d a pivot) (e) i' (.inl hle)).symm.trans HSC.out
      have HI2 := Lib.hid hi2
      clear hi2
      go_loopw [11] (fun vj w2 => ∃ j' : Nat, vj = .int .i64 j' ∧ j' ≤ e ∧ i' ≤ j' + 1 ∧ Hid (Lies w w2 g m (swp d a pivot)) ∧ Hid (scanDown (fun x => !ltA x (swp d a pivot)[a]!) (swp d a pivot) i'  j' = scanDown (fun x => !ltA x (swp d a pivot)[a]!) (swp d a pivot) i'  (e))) (fun vj _ => (intOf vj).toNat)
      case atStart => exact ⟨e, by first | rfl | (congr 1; omega), Nat.le_refl _, hij', HK.out.drewN _, rfl⟩
      case round =>
        obtain ⟨j', rfl, hjj, hij2, HK2, HSD⟩ := hrel
        clear hcw hfw HK
        have hcw := HK2.out.cells HG.out
        have hfw := HK2.out.free
        rw [HS0.out] at hcw hfw
        have q3 : j' < d.size := by omega
        have q4 : a < d.size := by omega
        by_cases hle2 : i' ≤ j'
        · exfalso; omega
        · have hd2 : decide ((i' : Int) ≤ (j' : Int)) = false := decide_eq_false (by omega)
          have hd3 : decide (i' ≤ j') = false := decide_eq_false hle2
          go_wp2
          go_quiet ((go_at_call 81; exact Calls.quiet_of_same (less_w _ _ _)))
          have hj2 : j' = scanDown (fun x => !ltA x (swp d a pivot)[a]!) (swp d a pivot) i'  (e) := (down_end (fun x => !ltA x (swp d a pivot)[a]!) (swp d a pivot) i' j' (.inl hle2)).symm.trans HSD.out
          generalize hW_ : wr.drewN nq = W3
          have HK3 : Hid (Lies w W3 g m (swp d a pivot)) := by rw [← hW_]; exact HK2.out.drewN _
          clear hW_ hcw hfw HK2
          have hcw := HK3.out.cells HG.out
          have hfw := HK3.out.free
          rw [HS0.out] at hcw hfw
          have hgt : decide ((j' : Int) < (i' : Int)) = true := decide_eq_true (by omega)
          have HB := Lib.hid (part_one a b pivot d HE.out HI2.out hj2 (by omega))
          clear hj2
          obtain ⟨v3, hy3⟩ := cell?_setCell_some (w := W3) (p := ⟨g, j', none⟩) (x := .int .u32 (G a)) (q := ⟨g, a, none⟩) (hcw a q4)
          go_wp2
          go_region
          all_goals generalize hW_ : ((W3.setCell ⟨g, j', none⟩ (.int .u32 (G a))).setCell ⟨g, a, none⟩ (.int .u32 (G j'))).drew = W4
          all_goals have HK4 := Lib.hid (show Lies w W4 g m (swp (swp d a pivot) j' a) by rw [← hW_]; exact HK3.out.swpG HG.out (by rw [size_swp]; exact q3) (by rw [size_swp]; exact q4))
          all_goals clear hW_ hcw hfw hy3 HK3
          all_goals go_wp2
          all_goals go_ret2
          all_goals exact ⟨by rw [HB.out]; rfl, by rw [HB.out]; exact HK4.out⟩
end Go.Proofs.Ytbllchfgjginoaa
/-
  A few steps of insertion sort.
-/
namespace Go.Proofs.Ytbllchfgjginoaa
open Go.RowKit Go.Sort
set_option linter.unusedVariables false
set_option linter.unusedSimpArgs false
theorem ss_go (b i : Nat) (d : Array Int) (h : i < b) (hp : ltA d[i]! d[i - 1]! = false) : scanSorted ltA d b i = scanSorted ltA d b (i + 1) := by
  rw [scanSorted, if_pos (by simp [h, hp])]
theorem ss_end (b i : Nat) (d : Array Int) (h : ¬ i < b ∨ ltA d[i]! d[i - 1]! = true) : scanSorted ltA d b i = i := by
  rw [scanSorted, if_neg (by rcases h with h | h <;> simp [h])]
theorem sd_go (j : Nat) (d : Array Int) (h : 0 < j) (hp : ltA d[j]! d[j - 1]! = true) : shiftDown ltA j d = shiftDown ltA (j - 1) (swp d j (j - 1)) := by
  obtain ⟨k, rfl⟩ : ∃ k, j = k + 1 := ⟨j - 1, by omega⟩
  rw [shiftDown, Nat.add_sub_cancel] at *
  rw [if_neg (by simp [hp])]
theorem sd_end (j : Nat) (d : Array Int) (h : j = 0 ∨ ltA d[j]! d[j - 1]! = false) : shiftDown ltA j d = d := by
  cases j with
  | zero => rfl
  | succ k =>
    rw [Nat.add_sub_cancel] at h
    rw [shiftDown, if_pos (by simpa using h)]
theorem su_go (b j : Nat) (d : Array Int) (h : j < b) (hp : ltA d[j]! d[j - 1]! = true) : shiftUp ltA b j d = shiftUp ltA b (j + 1) (swp d j (j - 1)) := by
  rw [shiftUp, if_pos h, if_neg (by simp [hp])]
theorem su_end (b j : Nat) (d : Array Int) (h : ¬ j < b ∨ ltA d[j]! d[j - 1]! = false) : shiftUp ltA b j d = d := by
  rw [shiftUp]
  by_cases hj : j < b
  · rw [if_pos hj, if_pos (by simpa using h.resolve_left (fun h => h hj))]
  · rw [if_neg hj]
theorem pi_true {a b s i i2 : Nat} {d : Array Int} (h : i2 = scanSorted ltA d b i) (he : i2 = b) : partialIns ltA a b (s + 1) i d = (d, true) := by
  rw [partialIns]; simp only []; rw [← h, if_pos he]
theorem pi_short {a b s i i2 : Nat} {d : Array Int} (h : i2 = scanSorted ltA d b i) (he : ¬ i2 = b) (hs : b - a < 50) : partialIns ltA a b (s + 1) i d = (d, false) := by
  rw [partialIns]; simp only []; rw [← h, if_neg he, if_pos hs]
theorem pi_go {a b s i i2 : Nat} {d dd du : Array Int} (h : i2 = scanSorted ltA d b i) (he : ¬ i2 = b) (hs : ¬ b - a < 50) (hdd : dd = if i2 - a ≥ 2 then shiftDown ltA (i2 - 1) (swp d i2 (i2 - 1)) else swp d i2 (i2 - 1)) (hdu : du = if b - i2 ≥ 2 then shiftUp ltA b (i2 + 1) dd else dd) :
    partialIns ltA a b (s + 1) i d = partialIns ltA a b s i2 du := by
  rw [partialIns]; simp only []; rw [← h, if_neg he, if_neg hs, ← hdd, ← hdu]
set_option maxHeartbeats 16000000 in
set_option maxRecDepth 100000 in
theorem partial_w {g m cap a b : Nat} {d : Array Int} {w : World} (h : Lies w w g m d) (hab : a < b) (hb : b ≤ d.size) (hsz : d.size < 1000000000000) :
    Calls Try.prog 89 #[.slice (some ⟨g, 0, none⟩) d.size cap, .int .i64 a, .int .i64 b] w fun e w' => e = .returned (.bool (partialInsertionSort ltA d a b).2) ∧ Lies w w' g m (partialInsertionSort ltA d a b).1 := by
  have HL := Lib.hid h
  clear h
  have HPI : Hid (partialInsertionSort ltA d a b = partialIns ltA a b 5 (a + 1) d) := rfl
  go_enter Try.func89, Try.ntmps89
  go_wp2
  go_loopw [7, 8] (fun vi vs wr => ∃ (t i : Nat) (dk : Array Int), vs = .int .i64 (5 - (t : Int)) ∧ t ≤ 5 ∧ vi = .int .i64 i ∧ a < i ∧ i ≤ b ∧ dk.size = d.size ∧ Hid (Lies w wr g m dk) ∧ Hid (partialIns ltA a b t i dk = partialIns ltA a b 5 (a + 1) d)) (fun _ vs _ => (5 - intOf vs).toNat)
  case atStart => exact ⟨5, a + 1, d, rfl, Nat.le_refl _, by go_num, by omega, by omega, rfl, HL, rfl⟩
  case round =>
    obtain ⟨t, i, dk, rfl, ht5, rfl, hai, hib, hsk, HKi, HO⟩ := hrel
    clear HL
    obtain ⟨G, hG⟩ : ∃ G : Nat → Int, ∀ t, G t = dk[t]! := ⟨fun t => dk[t]!, fun _ => rfl⟩
    have HG := Lib.hid hG
    have HS := Lib.hid hsk
    clear hG hsk
    cases t with
    | zero =>
      rw [show (5 - ((0 : Nat) : Int)) = (5 : Int) from rfl]
      go_wp2
      go_ret
      exact ⟨by rw [HPI.out, ← HO.out]; rfl, by rw [HPI.out, ← HO.out]; exact HKi.out⟩
    | succ t =>
      rw [show (5 - ((t + 1 : Nat) : Int)) = 4 - (t : Int) from by omega]
      have hd1 : decide (4 - (t : Int) < 5) = true := decide_eq_true (by omega)
      go_wp2
      go_loopw [7] (fun vi w1 => ∃ i' : Nat, vi = .int .i64 i' ∧ i ≤ i' ∧ i' ≤ b ∧ Hid (Lies w w1 g m dk) ∧ Hid (scanSorted ltA dk b i' = scanSorted ltA dk b i)) (fun vi _ => b - (intOf vi).toNat)
      case atStart => exact ⟨i, rfl, Nat.le_refl _, hib, HKi, rfl⟩
      case round =>
        obtain ⟨i', rfl, hii, hib', HK, HSC⟩ := hrel
        have hcw := HK.out.cells HG.out
        have hfw := HK.out.free
        rw [HS.out] at hcw hfw
        by_cases hlt : i' < b
        · have q5 : i' < d.size := by omega
          have xw4 : IntKind.i64.wrap ((i' : Int) - 1) = (i' : Int) - 1 := IntWalk.i64_in _ (by omega)
          have xa4 : (0 : Int) ≤ (i' : Int) - 1 := by omega
          have xb4 : (i' : Int) - 1 < (d.size : Int) := by omega
          have xc4 : ((i' : Int) - 1).toNat = i' - 1 := by omega
          have q6 : i' - 1 < d.size := by omega
          go_wp2
          go_quiet ((go_at_call 81; exact Calls.quiet_of_same (less_w _ _ _)))
          go_wp2
          · have ht0 : (!ltA (G i') (G (i' - 1))) = true := by assumption
            have ht : ltA (G i') (G (i' - 1)) = false := by simpa using ht0
            go_roundw
            case rel => exact ⟨i' + 1, by go_num, by omega, by omega, HK.out.drewN _, (ss_go b i' dk hlt (by rw [← HG.out, ← HG.out]; exact ht)).symm.trans HSC.out⟩
            case measure => simp [intOf]; omega
          · have ht0 : (!ltA (G i') (G (i' - 1))) = false := by assumption
            have ht : ltA (G i') (G (i' - 1)) = true := by simpa using ht0
            have hi2 : i' = scanSorted ltA dk b i := (ss_end b i' dk (.inr (by rw [← HG.out, ← HG.out]; exact ht))).symm.trans HSC.out
            clear ht ht0
            have HI2 := Lib.hid hi2
            clear hi2
            have hne : ¬ i' = b := by omega
            have hsh : b - a < 50 := by omega
            have HN := Lib.hid (pi_short (a := a) (s := t) HI2.out hne hsh)
            go_ret
            exact ⟨by rw [HPI.out, ← HO.out, HN.out]; rfl, by rw [HPI.out, ← HO.out, HN.out]; exact HK.out.drewN _⟩
          · have ht0 : (!ltA (G i') (G (i' - 1))) = false := by assumption
            have ht : ltA (G i') (G (i' - 1)) = true := by simpa using ht0
            have hi2 : i' = scanSorted ltA dk b i := (ss_end b i' dk (.inr (by rw [← HG.out, ← HG.out]; exact ht))).symm.trans HSC.out
            clear ht ht0
            have HI2 := Lib.hid hi2
            clear hi2
            have hne : ¬ i' = b := by omega
            have hsh : ¬ b - a < 50 := by omega
            generalize hW_ : wr.drewN nq = W3
            have HK3 : Hid (Lies w W3 g m dk) := by rw [← hW_]; exact HK.out.drewN _
            clear hW_ hcw hfw HK
            have hcw := HK3.out.cells HG.out
            have hfw := HK3.out.free
            rw [HS.out] at hcw hfw
            go_region
            all_goals generalize hW_ : ((W3.setCell ⟨g, i', none⟩ (.int .u32 (G (i' - 1)))).setCell ⟨g, i' - 1, none⟩ (.int .u32 (G i'))).drew = W4
            all_goals have HK4 := Lib.hid (show Lies w W4 g m (swp dk i' (i' - 1)) by rw [← hW_]; exact HK3.out.swpG HG.out (by have := HS.out; omega) (by have := HS.out; omega))
            all_goals have hsd : (swp dk i' (i' - 1)).size = d.size := by rw [size_swp]; exact HS.out
            all_goals clear hW_ hcw hfw HK3 HG HSC HKi
            by_cases hbi : b - i' ≥ 2
            · have hd5 : decide ((2 : Int) ≤ (b : Int) - (i' : Int)) = true := decide_eq_true (by omega)
              by_cases hia : i' - a ≥ 2
              · have hd4 : decide ((2 : Int) ≤ (i' : Int) - (a : Int)) = true := decide_eq_true (by omega)
                go_wp2
                go_loopw [9] (fun vj w2 => ∃ (j : Nat) (dj : Array Int), vj = .int .i64 j ∧ j < i' ∧ dj.size = d.size ∧ Hid (Lies w w2 g m dj) ∧ Hid (shiftDown ltA j dj = shiftDown ltA (i' - 1) (swp dk i' (i' - 1)))) (fun vj _ => (intOf vj).toNat)
                case atStart => exact ⟨i' - 1, swp dk i' (i' - 1), by congr 1; omega, by omega, hsd, HK4, rfl⟩
                case round =>
                  obtain ⟨j, dj, rfl, hij, hsj, HJ, HJE⟩ := hrel
                  clear HK4
                  obtain ⟨G, hG⟩ : ∃ G : Nat → Int, ∀ t, G t = dj[t]! := ⟨fun t => dj[t]!, fun _ => rfl⟩
                  have HG := Lib.hid hG
                  have HS := Lib.hid (show dj.size = d.size from hsj)
                  clear hG
                  have hcw := HJ.out.cells HG.out
                  have hfw := HJ.out.free
                  rw [HS.out] at hcw hfw
                  by_cases hj1 : 1 ≤ j
                  · have hd6 : decide ((1 : Int) ≤ (j : Int)) = true := decide_eq_true (by omega)
                    have q6 : j < d.size := by omega
                    have xw2 : IntKind.i64.wrap ((j : Int) - 1) = (j : Int) - 1 := IntWalk.i64_in _ (by omega)
                    have xa2 : (0 : Int) ≤ (j : Int) - 1 := by omega
                    have xb2 : (j : Int) - 1 < (d.size : Int) := by omega
                    have xc2 : ((j : Int) - 1).toNat = j - 1 := by omega
                    have q7 : j - 1 < d.size := by omega
                    go_wp2
                    go_quiet ((go_at_call 81; exact Calls.quiet_of_same (less_w _ _ _)))
                    go_wp2
                    · have ht0 : (!ltA (G j) (G (j - 1))) = true := by assumption
                      have ht : ltA (G j) (G (j - 1)) = false := by simpa using ht0
                      have hE : dj = shiftDown ltA (i' - 1) (swp dk i' (i' - 1)) := by rw [← HJE.out, sd_end _ _ (.inr (by rw [← HG.out, ← HG.out]; exact ht))]
                      have HDD : Hid (dj = if i' - a ≥ 2 then shiftDown ltA (i' - 1) (swp dk i' (i' - 1)) else swp dk i' (i' - 1)) := by rw [if_pos hia]; exact hE
                      have HSJ := Lib.hid hsj
                      clear hE ht ht0 hcw hfw HG HJE
                      go_loopw [10] (fun vj w2 => ∃ (j : Nat) (dq : Array Int), vj = .int .i64 j ∧ i' < j ∧ j ≤ b ∧ dq.size = d.size ∧ Hid (Lies w w2 g m dq) ∧ Hid (shiftUp ltA b j dq = shiftUp ltA b (i' + 1) dj)) (fun vj _ => b - (intOf vj).toNat)
                      case atStart => exact ⟨i' + 1, dj, by go_num, by omega, by omega, HSJ.out, (HJ.out.drewN _), rfl⟩
                      case round =>
                        obtain ⟨j, dq, rfl, hij, hjb, hsj, HJ, HJE⟩ := hrel
                        obtain ⟨G, hG⟩ : ∃ G : Nat → Int, ∀ t, G t = dq[t]! := ⟨fun t => dq[t]!, fun _ => rfl⟩
                        have HG := Lib.hid hG
                        have HS := Lib.hid (show dq.size = d.size from hsj)
                        clear hG
                        have hcw := HJ.out.cells HG.out
                        have hfw := HJ.out.free
                        rw [HS.out] at hcw hfw
                        by_cases hjb2 : j < b
                        · have q6 : j < d.size := by omega
                          have xw1 : IntKind.i64.wrap ((j : Int) - 1) = (j : Int) - 1 := IntWalk.i64_in _ (by omega)
                          have xa1 : (0 : Int) ≤ (j : Int) - 1 := by omega
                          have xb1 : (j : Int) - 1 < (d.size : Int) := by omega
                          have xc1 : ((j : Int) - 1).toNat = j - 1 := by omega
                          have q7 : j - 1 < d.size := by omega
                          go_wp2
                          go_quiet ((go_at_call 81; exact Calls.quiet_of_same (less_w _ _ _)))
                          go_wp2
                          · have ht0 : (!ltA (G j) (G (j - 1))) = true := by assumption
                            have ht : ltA (G j) (G (j - 1)) = false := by simpa using ht0
                            have HJ2 := Lib.hid (HJ.out.drewN nq)
                            have hE : dq = shiftUp ltA b (i' + 1) dj := by rw [← HJE.out, su_end _ _ _ (.inr (by rw [← HG.out, ← HG.out]; exact ht))]
                            have HN := Lib.hid (pi_go (s := t) HI2.out hne hsh HDD.out (show dq = _ from by rw [if_pos hbi]; exact hE))
                            go_roundw
                            case rel => exact ⟨t, i', dq, by congr 1; omega, by omega, rfl, by omega, by omega, hsj, HJ.out.drewN _, HN.out.symm.trans HO.out⟩
                            case measure => simp [intOf]; omega
                          · have ht0 : (!ltA (G j) (G (j - 1))) = false := by assumption
                            have ht : ltA (G j) (G (j - 1)) = true := by simpa using ht0
                            go_wp2
                            go_region
                            all_goals go_wp2
                            go_roundw
                            case rel => exact ⟨j + 1, swp dq j (j - 1), by go_num, by omega, by omega, by rw [size_swp]; exact hsj, (HJ.out.drewN nq).swpG HG.out (by omega) (by omega), by rw [← HJE.out, su_go b j dq hjb2 (by rw [← HG.out, ← HG.out]; exact ht)]; rfl⟩
                            case measure => simp [intOf]; omega
                        · go_wp2
                          have hE : dq = shiftUp ltA b (i' + 1) dj := by rw [← HJE.out, su_end _ _ _ (.inl hjb2)]
                          have HN := Lib.hid (pi_go (s := t) HI2.out hne hsh HDD.out (show dq = _ from by rw [if_pos hbi]; exact hE))
                          go_roundw
                          case rel => exact ⟨t, i', dq, by congr 1; omega, by omega, rfl, by omega, by omega, hsj, HJ, HN.out.symm.trans HO.out⟩
                          case measure => simp [intOf]; omega
                    · have ht0 : (!ltA (G j) (G (j - 1))) = false := by assumption
                      have ht : ltA (G j) (G (j - 1)) = true := by simpa using ht0
                      go_wp2
                      go_region
                      all_goals go_wp2
                      go_roundw
                      case rel => exact ⟨j - 1, swp dj j (j - 1), by congr 1; omega, by omega, by rw [size_swp]; exact hsj, (HJ.out.drewN nq).swpG HG.out (by omega) (by omega), by rw [← HJE.out, sd_go j dj (by omega) (by rw [← HG.out, ← HG.out]; exact ht)]; rfl⟩
                      case measure => simp [intOf]; omega
                  · have hd6 : decide ((1 : Int) ≤ (j : Int)) = false := decide_eq_false (by omega)
                    have hE : dj = shiftDown ltA (i' - 1) (swp dk i' (i' - 1)) := by rw [← HJE.out, sd_end _ _ (.inl (by omega))]
                    have HDD : Hid (dj = if i' - a ≥ 2 then shiftDown ltA (i' - 1) (swp dk i' (i' - 1)) else swp dk i' (i' - 1)) := by rw [if_pos hia]; exact hE
                    have HSJ := Lib.hid hsj
                    clear hE hcw hfw HG HJE
                    go_wp2
                    go_loopw [10] (fun vj w2 => ∃ (j : Nat) (dq : Array Int), vj = .int .i64 j ∧ i' < j ∧ j ≤ b ∧ dq.size = d.size ∧ Hid (Lies w w2 g m dq) ∧ Hid (shiftUp ltA b j dq = shiftUp ltA b (i' + 1) dj)) (fun vj _ => b - (intOf vj).toNat)
                    case atStart => exact ⟨i' + 1, dj, by go_num, by omega, by omega, HSJ.out, HJ, rfl⟩
                    case round =>
                      obtain ⟨j, dq, rfl, hij, hjb, hsj, HJ, HJE⟩ := hrel
                      obtain ⟨G, hG⟩ : ∃ G : Nat → Int, ∀ t, G t = dq[t]! := ⟨fun t => dq[t]!, fun _ => rfl⟩
                      have HG := Lib.hid hG
                      have HS := Lib.hid (show dq.size = d.size from hsj)
                      clear hG
                      have hcw := HJ.out.cells HG.out
                      have hfw := HJ.out.free
                      rw [HS.out] at hcw hfw
                      by_cases hjb2 : j < b
                      · have q6 : j < d.size := by omega
                        have xw1 : IntKind.i64.wrap ((j : Int) - 1) = (j : Int) - 1 := IntWalk.i64_in _ (by omega)
                        have xa1 : (0 : Int) ≤ (j : Int) - 1 := by omega
                        have xb1 : (j : Int) - 1 < (d.size : Int) := by omega
                        have xc1 : ((j : Int) - 1).toNat = j - 1 := by omega
                        have q7 : j - 1 < d.size := by omega
                        go_wp2
                        go_quiet ((go_at_call 81; exact Calls.quiet_of_same (less_w _ _ _)))
                        go_wp2
                        · have ht0 : (!ltA (G j) (G (j - 1))) = true := by assumption
                          have ht : ltA (G j) (G (j - 1)) = false := by simpa using ht0
                          have HJ2 := Lib.hid (HJ.out.drewN nq)
                          have hE : dq = shiftUp ltA b (i' + 1) dj := by rw [← HJE.out, su_end _ _ _ (.inr (by rw [← HG.out, ← HG.out]; exact ht))]
                          have HN := Lib.hid (pi_go (s := t) HI2.out hne hsh HDD.out (show dq = _ from by rw [if_pos hbi]; exact hE))
                          go_roundw
                          case rel => exact ⟨t, i', dq, by congr 1; omega, by omega, rfl, by omega, by omega, hsj, HJ.out.drewN _, HN.out.symm.trans HO.out⟩
                          case measure => simp [intOf]; omega
                        · have ht0 : (!ltA (G j) (G (j - 1))) = false := by assumption
                          have ht : ltA (G j) (G (j - 1)) = true := by simpa using ht0
                          go_wp2
                          go_region
                          all_goals go_wp2
                          go_roundw
                          case rel => exact ⟨j + 1, swp dq j (j - 1), by go_num, by omega, by omega, by rw [size_swp]; exact hsj, (HJ.out.drewN nq).swpG HG.out (by omega) (by omega), by rw [← HJE.out, su_go b j dq hjb2 (by rw [← HG.out, ← HG.out]; exact ht)]; rfl⟩
                          case measure => simp [intOf]; omega
                      · go_wp2
                        have hE : dq = shiftUp ltA b (i' + 1) dj := by rw [← HJE.out, su_end _ _ _ (.inl hjb2)]
                        have HN := Lib.hid (pi_go (s := t) HI2.out hne hsh HDD.out (show dq = _ from by rw [if_pos hbi]; exact hE))
                        go_roundw
                        case rel => exact ⟨t, i', dq, by congr 1; omega, by omega, rfl, by omega, by omega, hsj, HJ, HN.out.symm.trans HO.out⟩
                        case measure => simp [intOf]; omega
              · have hd4 : decide ((2 : Int) ≤ (i' : Int) - (a : Int)) = false := decide_eq_false (by omega)
                have HDD : Hid (swp dk i' (i' - 1) = if i' - a ≥ 2 then shiftDown ltA (i' - 1) (swp dk i' (i' - 1)) else swp dk i' (i' - 1)) := by rw [if_neg hia]; rfl
                go_wp2
                go_loopw [10] (fun vj w2 => ∃ (j : Nat) (dq : Array Int), vj = .int .i64 j ∧ i' < j ∧ j ≤ b ∧ dq.size = d.size ∧ Hid (Lies w w2 g m dq) ∧ Hid (shiftUp ltA b j dq = shiftUp ltA b (i' + 1) (swp dk i' (i' - 1)))) (fun vj _ => b - (intOf vj).toNat)
                case atStart => exact ⟨i' + 1, (swp dk i' (i' - 1)), by go_num, by omega, by omega, hsd, HK4, rfl⟩
                case round =>
                  obtain ⟨j, dq, rfl, hij, hjb, hsj, HJ, HJE⟩ := hrel
                  obtain ⟨G, hG⟩ : ∃ G : Nat → Int, ∀ t, G t = dq[t]! := ⟨fun t => dq[t]!, fun _ => rfl⟩
                  have HG := Lib.hid hG
                  have HS := Lib.hid (show dq.size = d.size from hsj)
                  clear hG
                  have hcw := HJ.out.cells HG.out
                  have hfw := HJ.out.free
                  rw [HS.out] at hcw hfw
                  by_cases hjb2 : j < b
                  · have q6 : j < d.size := by omega
                    have xw1 : IntKind.i64.wrap ((j : Int) - 1) = (j : Int) - 1 := IntWalk.i64_in _ (by omega)
                    have xa1 : (0 : Int) ≤ (j : Int) - 1 := by omega
                    have xb1 : (j : Int) - 1 < (d.size : Int) := by omega
                    have xc1 : ((j : Int) - 1).toNat = j - 1 := by omega
                    have q7 : j - 1 < d.size := by omega
                    go_wp2
                    go_quiet ((go_at_call 81; exact Calls.quiet_of_same (less_w _ _ _)))
                    go_wp2
                    · have ht0 : (!ltA (G j) (G (j - 1))) = true := by assumption
                      have ht : ltA (G j) (G (j - 1)) = false := by simpa using ht0
                      have HJ2 := Lib.hid (HJ.out.drewN nq)
                      have hE : dq = shiftUp ltA b (i' + 1) (swp dk i' (i' - 1)) := by rw [← HJE.out, su_end _ _ _ (.inr (by rw [← HG.out, ← HG.out]; exact ht))]
                      have HN := Lib.hid (pi_go (s := t) HI2.out hne hsh HDD.out (show dq = _ from by rw [if_pos hbi]; exact hE))
                      go_roundw
                      case rel => exact ⟨t, i', dq, by congr 1; omega, by omega, rfl, by omega, by omega, hsj, HJ.out.drewN _, HN.out.symm.trans HO.out⟩
                      case measure => simp [intOf]; omega
                    · have ht0 : (!ltA (G j) (G (j - 1))) = false := by assumption
                      have ht : ltA (G j) (G (j - 1)) = true := by simpa using ht0
                      go_wp2
                      go_region
                      all_goals go_wp2
                      go_roundw
                      case rel => exact ⟨j + 1, swp dq j (j - 1), by go_num, by omega, by omega, by rw [size_swp]; exact hsj, (HJ.out.drewN nq).swpG HG.out (by omega) (by omega), by rw [← HJE.out, su_go b j dq hjb2 (by rw [← HG.out, ← HG.out]; exact ht)]; rfl⟩
                      case measure => simp [intOf]; omega
                  · go_wp2
                    have hE : dq = shiftUp ltA b (i' + 1) (swp dk i' (i' - 1)) := by rw [← HJE.out, su_end _ _ _ (.inl hjb2)]
                    have HN := Lib.hid (pi_go (s := t) HI2.out hne hsh HDD.out (show dq = _ from by rw [if_pos hbi]; exact hE))
                    go_roundw
                    case rel => exact ⟨t, i', dq, by congr 1; omega, by omega, rfl, by omega, by omega, hsj, HJ, HN.out.symm.trans HO.out⟩
                    case measure => simp [intOf]; omega
            · have hd5 : decide ((2 : Int) ≤ (b : Int) - (i' : Int)) = false := decide_eq_false (by omega)
              by_cases hia : i' - a ≥ 2
              · have hd4 : decide ((2 : Int) ≤ (i' : Int) - (a : Int)) = true := decide_eq_true (by omega)
                go_wp2
                go_loopw [9] (fun vj w2 => ∃ (j : Nat) (dj : Array Int), vj = .int .i64 j ∧ j < i' ∧ dj.size = d.size ∧ Hid (Lies w w2 g m dj) ∧ Hid (shiftDown ltA j dj = shiftDown ltA (i' - 1) (swp dk i' (i' - 1)))) (fun vj _ => (intOf vj).toNat)
                case atStart => exact ⟨i' - 1, swp dk i' (i' - 1), by congr 1; omega, by omega, hsd, HK4, rfl⟩
                case round =>
                  obtain ⟨j, dj, rfl, hij, hsj, HJ, HJE⟩ := hrel
                  clear HK4
                  obtain ⟨G, hG⟩ : ∃ G : Nat → Int, ∀ t, G t = dj[t]! := ⟨fun t => dj[t]!, fun _ => rfl⟩
                  have HG := Lib.hid hG
                  have HS := Lib.hid (show dj.size = d.size from hsj)
                  clear hG
                  have hcw := HJ.out.cells HG.out
                  have hfw := HJ.out.free
                  rw [HS.out] at hcw hfw
                  by_cases hj1 : 1 ≤ j
                  · have hd6 : decide ((1 : Int) ≤ (j : Int)) = true := decide_eq_true (by omega)
                    have q6 : j < d.size := by omega
                    have xw3 : IntKind.i64.wrap ((j : Int) - 1) = (j : Int) - 1 := IntWalk.i64_in _ (by omega)
                    have xa3 : (0 : Int) ≤ (j : Int) - 1 := by omega
                    have xb3 : (j : Int) - 1 < (d.size : Int) := by omega
                    have xc3 : ((j : Int) - 1).toNat = j - 1 := by omega
                    have q7 : j - 1 < d.size := by omega
                    go_wp2
                    go_quiet ((go_at_call 81; exact Calls.quiet_of_same (less_w _ _ _)))
                    go_wp2
                    · have ht0 : (!ltA (G j) (G (j - 1))) = true := by assumption
                      have ht : ltA (G j) (G (j - 1)) = false := by simpa using ht0
                      have hE : dj = shiftDown ltA (i' - 1) (swp dk i' (i' - 1)) := by rw [← HJE.out, sd_end _ _ (.inr (by rw [← HG.out, ← HG.out]; exact ht))]
                      have HDD : Hid (dj = if i' - a ≥ 2 then shiftDown ltA (i' - 1) (swp dk i' (i' - 1)) else swp dk i' (i' - 1)) := by rw [if_pos hia]; exact hE
                      have HSJ := Lib.hid hsj
                      clear hE ht ht0 hcw hfw HG HJE
                      have HN := Lib.hid (pi_go (s := t) HI2.out hne hsh HDD.out (show dj = _ from by rw [if_neg hbi]))
                      go_roundw
                      case rel => exact ⟨t, i', dj, by congr 1; omega, by omega, rfl, by omega, by omega, HSJ.out, (HJ.out.drewN _), HN.out.symm.trans HO.out⟩
                      case measure => simp [intOf]; omega
                    · have ht0 : (!ltA (G j) (G (j - 1))) = false := by assumption
                      have ht : ltA (G j) (G (j - 1)) = true := by simpa using ht0
                      go_wp2
                      go_region
                      all_goals go_wp2
                      go_roundw
                      case rel => exact ⟨j - 1, swp dj j (j - 1), by congr 1; omega, by omega, by rw [size_swp]; exact hsj, (HJ.out.drewN nq).swpG HG.out (by omega) (by omega), by rw [← HJE.out, sd_go j dj (by omega) (by rw [← HG.out, ← HG.out]; exact ht)]; rfl⟩
                      case measure => simp [intOf]; omega
                  · have hd6 : decide ((1 : Int) ≤ (j : Int)) = false := decide_eq_false (by omega)
                    have hE : dj = shiftDown ltA (i' - 1) (swp dk i' (i' - 1)) := by rw [← HJE.out, sd_end _ _ (.inl (by omega))]
                    have HDD : Hid (dj = if i' - a ≥ 2 then shiftDown ltA (i' - 1) (swp dk i' (i' - 1)) else swp dk i' (i' - 1)) := by rw [if_pos hia]; exact hE
                    have HSJ := Lib.hid hsj
                    clear hE hcw hfw HG HJE
                    go_wp2
                    have HN := Lib.hid (pi_go (s := t) HI2.out hne hsh HDD.out (show dj = _ from by rw [if_neg hbi]))
                    go_roundw
                    case rel => exact ⟨t, i', dj, by congr 1; omega, by omega, rfl, by omega, by omega, HSJ.out, HJ, HN.out.symm.trans HO.out⟩
                    case measure => simp [intOf]; omega
              · have hd4 : decide ((2 : Int) ≤ (i' : Int) - (a : Int)) = false := decide_eq_false (by omega)
                have HDD : Hid (swp dk i' (i' - 1) = if i' - a ≥ 2 then shiftDown ltA (i' - 1) (swp dk i' (i' - 1)) else swp dk i' (i' - 1)) := by rw [if_neg hia]; rfl
                go_wp2
                have HN := Lib.hid (pi_go (s := t) HI2.out hne hsh HDD.out (show (swp dk i' (i' - 1)) = _ from by rw [if_neg hbi]))
                go_roundw
                case rel => exact ⟨t, i', (swp dk i' (i' - 1)), by congr 1; omega, by omega, rfl, by omega, by omega, hsd, HK4, HN.out.symm.trans HO.out⟩
                case measure => simp [intOf]; omega
        · have hd2 : decide (i' < b) = false := decide_eq_false hlt
          have hd3 : decide ((i' : Int) < (b : Int)) = false := decide_eq_false (by omega)
          obtain rfl : i' = b := by omega
          go_wp2
          go_quiet ((go_at_call 81; exact Calls.quiet_of_same (less_w _ _ _)))
          go_wp2
          have hi2 : i' = scanSorted ltA dk i' i := (ss_end i' i' dk (.inl hlt)).symm.trans HSC.out
          have HN := Lib.hid (pi_true (a := a) (s := t) hi2 rfl)
          go_ret
          exact ⟨by rw [HPI.out, ← HO.out, HN.out]; rfl, by rw [HPI.out, ← HO.out, HN.out]; exact HK.out.drewN _⟩
end Go.Proofs.Ytbllchfgjginoaa
