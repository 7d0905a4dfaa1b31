/-
  A few steps of insertion sort.
-/
import Derived.Test.YtbllchfgjginoaaSoD
import Derived.Test.YtbllchfgjginoaaSoJ
import Derived.Deep.DeepCutAuto
import Derived.Deep.CutBlock
import Derived.Deep.LoopGhost
import Derived.OrdersHeld
import Derived.WalkKit
import Derived.Below
namespace Go.Proofs.Ytbllchfgjginoaa
open Go.RowKit Go.Sort
set_option linter.unusedVariables false
set_option linter.unusedSimpArgs false
theorem ss_go (b i : Nat) (d : Array Int) (h : i < b) (hp : ltA d[i]! d[i - 1]! = false) : scanSorted ltA d b i = scanSorted ltA d b (i + 1) := by
  rw [scanSorted, if_pos (by simp [h, hp])]
theorem ss_end (b i : Nat) (d : Array Int) (h : ¬ i < b ∨ ltA d[i]! d[i - 1]! = true) : scanSorted ltA d b i = i := by
  rw [scanSorted, if_neg (by rcases h with h | h <;> simp [h])]
theorem sd_go (j : Nat) (d : Array Int) (h : 0 < j) (hp : ltA d[j]! d[j - 1]! = true) : shiftDown ltA j d = shiftDown ltA (j - 1) (swp d j (j - 1)) := by
  obtain ⟨k, rfl⟩ : ∃ k, j = k + 1 := ⟨j - 1, by omega⟩
  rw [shiftDown, Nat.add_sub_cancel] at *
  rw [if_neg (by simp [hp])]
theorem sd_end (j : Nat) (d : Array Int) (h : j = 0 ∨ ltA d[j]! d[j - 1]! = false) : shiftDown ltA j d = d := by
  cases j with
  | zero => rfl
  | succ k =>
    rw [Nat.add_sub_cancel] at h
    rw [shiftDown, if_pos (by simpa using h)]
theorem su_go (b j : Nat) (d : Array Int) (h : j < b) (hp : ltA d[j]! d[j - 1]! = true) : shiftUp ltA b j d = shiftUp ltA b (j + 1) (swp d j (j - 1)) := by
  rw [shiftUp, if_pos h, if_neg (by simp [hp])]
theorem su_end (b j : Nat) (d : Array Int) (h : ¬ j < b ∨ ltA d[j]! d[j - 1]! = false) : shiftUp ltA b j d = d := by
  rw [shiftUp]
  by_cases hj : j < b
  · rw [if_pos hj, if_pos (by simpa using h.resolve_left (fun h => h hj))]
  · rw [if_neg hj]
theorem pi_true {a b s i i2 : Nat} {d : Array Int} (h : i2 = scanSorted ltA d b i) (he : i2 = b) : partialIns ltA a b (s + 1) i d = (d, true) := by
  rw [partialIns]; simp only []; rw [← h, if_pos he]
theorem pi_short {a b s i i2 : Nat} {d : Array Int} (h : i2 = scanSorted ltA d b i) (he : ¬ i2 = b) (hs : b - a < 50) : partialIns ltA a b (s + 1) i d = (d, false) := by
  rw [partialIns]; simp only []; rw [← h, if_neg he, if_pos hs]
theorem pi_go {a b s i i2 : Nat} {d dd du : Array Int} (h : i2 = scanSorted ltA d b i) (he : ¬ i2 = b) (hs : ¬ b - a < 50) (hdd : dd = if i2 - a ≥ 2 then shiftDown ltA (i2 - 1) (swp d i2 (i2 - 1)) else swp d i2 (i2 - 1)) (hdu : du = if b - i2 ≥ 2 then shiftUp ltA b (i2 + 1) dd else dd) :
    partialIns ltA a b (s + 1) i d = partialIns ltA a b s i2 du := by
  rw [partialIns]; simp only []; rw [← h, if_neg he, if_neg hs, ← hdd, ← hdu]
set_option maxHeartbeats 16000000 in
set_option maxRecDepth 100000 in
theorem partial_w {g m cap a b : Nat} {d : Array Int} {w : World} (h : Lies w w g m d) (hab : a < b) (hb : b ≤ d.size) (hsz : d.size < 1000000000000) :
    Calls Try.prog 89 #[.slice (some ⟨g, 0, none⟩) d.size cap, .int .i64 a, .int .i64 b] w fun e w' => e = .returned (.bool (partialInsertionSort ltA d a b).2) ∧ Lies w w' g m (partialInsertionSort ltA d a b).1 := by
  have HL := Lib.hid h
  clear h
  have HPI : Hid (partialInsertionSort ltA d a b = partialIns ltA a b 5 (a + 1) d) := rfl
  go_enter Try.func89, Try.ntmps89
  go_wp2
  go_loopw [7, 8] (fun vi vs wr => ∃ (t i : Nat) (dk : Array Int), vs = .int .i64 (5 - (t : Int)) ∧ t ≤ 5 ∧ vi = .int .i64 i ∧ a < i ∧ i ≤ b ∧ dk.size = d.size ∧ Hid (Lies w wr g m dk) ∧ Hid (partialIns ltA a b t i dk = partialIns ltA a b 5 (a + 1) d)) (fun _ vs _ => (5 - intOf vs).toNat)
  case atStart => exact ⟨5, a + 1, d, rfl, Nat.le_refl _, by go_num, by omega, by omega, rfl, HL, rfl⟩
  case round =>
    obtain ⟨t, i, dk, rfl, ht5, rfl, hai, hib, hsk, HKi, HO⟩ := hrel
    clear HL
    obtain ⟨G, hG⟩ : ∃ G : Nat → Int, ∀ t, G t = dk[t]! := ⟨fun t => dk[t]!, fun _ => rfl⟩
    have HG := Lib.hid hG
    have HS := Lib.hid hsk
    clear hG hsk
    cases t with
    | zero =>
      rw [show (5 - ((0 : Nat) : Int)) = (5 : Int) from rfl]
      go_wp2
      go_ret
      exact ⟨by rw [HPI.out, ← HO.out]; rfl, by rw [HPI.out, ← HO.out]; exact HKi.out⟩
    | succ t =>
      rw [show (5 - ((t + 1 : Nat) : Int)) = 4 - (t : Int) from by omega]
      have hd1 : decide (4 - (t : Int) < 5) = true := decide_eq_true (by omega)
      go_wp2
      go_loopw [7] (fun vi w1 => ∃ i' : Nat, vi = .int .i64 i' ∧ i ≤ i' ∧ i' ≤ b ∧ Hid (Lies w w1 g m dk) ∧ Hid (scanSorted ltA dk b i' = scanSorted ltA dk b i)) (fun vi _ => b - (intOf vi).toNat)
      case atStart => exact ⟨i, rfl, Nat.le_refl _, hib, HKi, rfl⟩
      case round =>
        obtain ⟨i', rfl, hii, hib', HK, HSC⟩ := hrel
        have hcw := HK.out.cells HG.out
        have hfw := HK.out.free
        rw [HS.out] at hcw hfw
        by_cases hlt : i' < b
        · have q5 : i' < d.size := by omega
          have xw4 : IntKind.i64.wrap ((i' : Int) - 1) = (i' : Int) - 1 := IntWalk.i64_in _ (by omega)
          have xa4 : (0 : Int) ≤ (i' : Int) - 1 := by omega
          have xb4 : (i' : Int) - 1 < (d.size : Int) := by omega
          have xc4 : ((i' : Int) - 1).toNat = i' - 1 := by omega
          have q6 : i' - 1 < d.size := by omega
          go_wp2
          go_quiet ((go_at_call 81; exact Calls.quiet_of_same (less_w _ _ _)))
          go_wp2
          · have ht0 : (!ltA (G i') (G (i' - 1))) = true := by assumption
            have ht : ltA (G i') (G (i' - 1)) = false := by simpa using ht0
            go_roundw
            case rel => exact ⟨i' + 1, by go_num, by omega, by omega, HK.out.drewN _, (ss_go b i' dk hlt (by rw [← HG.out, ← HG.out]; exact ht)).symm.trans HSC.out⟩
            case measure => simp [intOf]; omega
          · have ht0 : (!ltA (G i') (G (i' - 1))) = false := by assumption
            have ht : ltA (G i') (G (i' - 1)) = true := by simpa using ht0
            have hi2 : i' = scanSorted ltA dk b i := (ss_end b i' dk (.inr (by rw [← HG.out, ← HG.out]; exact ht))).symm.trans HSC.out
            clear ht ht0
            have HI2 := Lib.hid hi2
            clear hi2
            have hne : ¬ i' = b := by omega
            have hsh : b - a < 50 := by omega
            have HN := Lib.hid (pi_short (a := a) (s := t) HI2.out hne hsh)
            go_ret
            exact ⟨by rw [HPI.out, ← HO.out, HN.out]; rfl, by rw [HPI.out, ← HO.out, HN.out]; exact HK.out.drewN _⟩
          · have ht0 : (!ltA (G i') (G (i' - 1))) = false := by assumption
            have ht : ltA (G i') (G (i' - 1)) = true := by simpa using ht0
            have hi2 : i' = scanSorted ltA dk b i := (ss_end b i' dk (.inr (by rw [← HG.out, ← HG.out]; exact ht))).symm.trans HSC.out
            clear ht ht0
            have HI2 := Lib.hid hi2
            clear hi2
            have hne : ¬ i' = b := by omega
            have hsh : ¬ b - a < 50 := by omega
            generalize hW_ : wr.drewN nq = W3
            have HK3 : Hid (Lies w W3 g m dk) := by rw [← hW_]; exact HK.out.drewN _
            clear hW_ hcw hfw HK
            have hcw := HK3.out.cells HG.out
            have hfw := HK3.out.free
            rw [HS.out] at hcw hfw
            go_region
            all_goals generalize hW_ : ((W3.setCell ⟨g, i', none⟩ (.int .u32 (G (i' - 1)))).setCell ⟨g, i' - 1, none⟩ (.int .u32 (G i'))).drew = W4
            all_goals have HK4 := Lib.hid (show Lies w W4 g m (swp dk i' (i' - 1)) by rw [← hW_]; exact HK3.out.swpG HG.out (by have := HS.out; omega) (by have := HS.out; omega))
            all_goals have hsd : (swp dk i' (i' - 1)).size = d.size := by rw [size_swp]; exact HS.out
            all_goals clear hW_ hcw hfw HK3 HG HSC HKi
            by_cases hbi : b - i' ≥ 2
            · have hd5 : decide ((2 : Int) ≤ (b : Int) - (i' : Int)) = true := decide_eq_true (by omega)
              by_cases hia : i' - a ≥ 2
              · have hd4 : decide ((2 : Int) ≤ (i' : Int) - (a : Int)) = true := decide_eq_true (by omega)
                go_wp2
                go_loopw [9] (fun vj w2 => ∃ (j : Nat) (dj : Array Int), vj = .int .i64 j ∧ j < i' ∧ dj.size = d.size ∧ Hid (Lies w w2 g m dj) ∧ Hid (shiftDown ltA j dj = shiftDown ltA (i' - 1) (swp dk i' (i' - 1)))) (fun vj _ => (intOf vj).toNat)
                case atStart => exact ⟨i' - 1, swp dk i' (i' - 1), by congr 1; omega, by omega, hsd, HK4, rfl⟩
                case round =>
                  obtain ⟨j, dj, rfl, hij, hsj, HJ, HJE⟩ := hrel
                  clear HK4
                  obtain ⟨G, hG⟩ : ∃ G : Nat → Int, ∀ t, G t = dj[t]! := ⟨fun t => dj[t]!, fun _ => rfl⟩
                  have HG := Lib.hid hG
                  have HS := Lib.hid (show dj.size = d.size from hsj)
                  clear hG
                  have hcw := HJ.out.cells HG.out
                  have hfw := HJ.out.free
                  rw [HS.out] at hcw hfw
                  by_cases hj1 : 1 ≤ j
                  · have hd6 : decide ((1 : Int) ≤ (j : Int)) = true := decide_eq_true (by omega)
                    have q6 : j < d.size := by omega
                    have xw2 : IntKind.i64.wrap ((j : Int) - 1) = (j : Int) - 1 := IntWalk.i64_in _ (by omega)
                    have xa2 : (0 : Int) ≤ (j : Int) - 1 := by omega
                    have xb2 : (j : Int) - 1 < (d.size : Int) := by omega
                    have xc2 : ((j : Int) - 1).toNat = j - 1 := by omega
                    have q7 : j - 1 < d.size := by omega
                    go_wp2
                    go_quiet ((go_at_call 81; exact Calls.quiet_of_same (less_w _ _ _)))
                    go_wp2
                    · have ht0 : (!ltA (G j) (G (j - 1))) = true := by assumption
                      have ht : ltA (G j) (G (j - 1)) = false := by simpa using ht0
                      have hE : dj = shiftDown ltA (i' - 1) (swp dk i' (i' - 1)) := by rw [← HJE.out, sd_end _ _ (.inr (by rw [← HG.out, ← HG.out]; exact ht))]
                      have HDD : Hid (dj = if i' - a ≥ 2 then shiftDown ltA (i' - 1) (swp dk i' (i' - 1)) else swp dk i' (i' - 1)) := by rw [if_pos hia]; exact hE
                      have HSJ := Lib.hid hsj
                      clear hE ht ht0 hcw hfw HG HJE
                      go_loopw [10] (fun vj w2 => ∃ (j : Nat) (dq : Array Int), vj = .int .i64 j ∧ i' < j ∧ j ≤ b ∧ dq.size = d.size ∧ Hid (Lies w w2 g m dq) ∧ Hid (shiftUp ltA b j dq = shiftUp ltA b (i' + 1) dj)) (fun vj _ => b - (intOf vj).toNat)
                      case atStart => exact ⟨i' + 1, dj, by go_num, by omega, by omega, HSJ.out, (HJ.out.drewN _), rfl⟩
                      case round =>
                        obtain ⟨j, dq, rfl, hij, hjb, hsj, HJ, HJE⟩ := hrel
                        obtain ⟨G, hG⟩ : ∃ G : Nat → Int, ∀ t, G t = dq[t]! := ⟨fun t => dq[t]!, fun _ => rfl⟩
                        have HG := Lib.hid hG
                        have HS := Lib.hid (show dq.size = d.size from hsj)
                        clear hG
                        have hcw := HJ.out.cells HG.out
                        have hfw := HJ.out.free
                        rw [HS.out] at hcw hfw
                        by_cases hjb2 : j < b
                        · have q6 : j < d.size := by omega
                          have xw1 : IntKind.i64.wrap ((j : Int) - 1) = (j : Int) - 1 := IntWalk.i64_in _ (by omega)
                          have xa1 : (0 : Int) ≤ (j : Int) - 1 := by omega
                          have xb1 : (j : Int) - 1 < (d.size : Int) := by omega
                          have xc1 : ((j : Int) - 1).toNat = j - 1 := by omega
                          have q7 : j - 1 < d.size := by omega
                          go_wp2
                          go_quiet ((go_at_call 81; exact Calls.quiet_of_same (less_w _ _ _)))
                          go_wp2
                          · have ht0 : (!ltA (G j) (G (j - 1))) = true := by assumption
                            have ht : ltA (G j) (G (j - 1)) = false := by simpa using ht0
                            have HJ2 := Lib.hid (HJ.out.drewN nq)
                            have hE : dq = shiftUp ltA b (i' + 1) dj := by rw [← HJE.out, su_end _ _ _ (.inr (by rw [← HG.out, ← HG.out]; exact ht))]
                            have HN := Lib.hid (pi_go (s := t) HI2.out hne hsh HDD.out (show dq = _ from by rw [if_pos hbi]; exact hE))
                            go_roundw
                            case rel => exact ⟨t, i', dq, by congr 1; omega, by omega, rfl, by omega, by omega, hsj, HJ.out.drewN _, HN.out.symm.trans HO.out⟩
                            case measure => simp [intOf]; omega
                          · have ht0 : (!ltA (G j) (G (j - 1))) = false := by assumption
                            have ht : ltA (G j) (G (j - 1)) = true := by simpa using ht0
                            go_wp2
                            go_region
                            all_goals go_wp2
                            go_roundw
                            case rel => exact ⟨j + 1, swp dq j (j - 1), by go_num, by omega, by omega, by rw [size_swp]; exact hsj, (HJ.out.drewN nq).swpG HG.out (by omega) (by omega), by rw [← HJE.out, su_go b j dq hjb2 (by rw [← HG.out, ← HG.out]; exact ht)]; rfl⟩
                            case measure => simp [intOf]; omega
                        · go_wp2
                          have hE : dq = shiftUp ltA b (i' + 1) dj := by rw [← HJE.out, su_end _ _ _ (.inl hjb2)]
                          have HN := Lib.hid (pi_go (s := t) HI2.out hne hsh HDD.out (show dq = _ from by rw [if_pos hbi]; exact hE))
                          go_roundw
                          case rel => exact ⟨t, i', dq, by congr 1; omega, by omega, rfl, by omega, by omega, hsj, HJ, HN.out.symm.trans HO.out⟩
                          case measure => simp [intOf]; omega
                    · have ht0 : (!ltA (G j) (G (j - 1))) = false := by assumption
                      have ht : ltA (G j) (G (j - 1)) = true := by simpa using ht0
                      go_wp2
                      go_region
                      all_goals go_wp2
                      go_roundw
                      case rel => exact ⟨j - 1, swp dj j (j - 1), by congr 1; omega, by omega, by rw [size_swp]; exact hsj, (HJ.out.drewN nq).swpG HG.out (by omega) (by omega), by rw [← HJE.out, sd_go j dj (by omega) (by rw [← HG.out, ← HG.out]; exact ht)]; rfl⟩
                      case measure => simp [intOf]; omega
                  · have hd6 : decide ((1 : Int) ≤ (j : Int)) = false := decide_eq_false (by omega)
                    have hE : dj = shiftDown ltA (i' - 1) (swp dk i' (i' - 1)) := by rw [← HJE.out, sd_end _ _ (.inl (by omega))]
                    have HDD : Hid (dj = if i' - a ≥ 2 then shiftDown ltA (i' - 1) (swp dk i' (i' - 1)) else swp dk i' (i' - 1)) := by rw [if_pos hia]; exact hE
                    have HSJ := Lib.hid hsj
                    clear hE hcw hfw HG HJE
                    go_wp2
                    go_loopw [10] (fun vj w2 => ∃ (j : Nat) (dq : Array Int), vj = .int .i64 j ∧ i' < j ∧ j ≤ b ∧ dq.size = d.size ∧ Hid (Lies w w2 g m dq) ∧ Hid (shiftUp ltA b j dq = shiftUp ltA b (i' + 1) dj)) (fun vj _ => b - (intOf vj).toNat)
                    case atStart => exact ⟨i' + 1, dj, by go_num, by omega, by omega, HSJ.out, HJ, rfl⟩
                    case round =>
                      obtain ⟨j, dq, rfl, hij, hjb, hsj, HJ, HJE⟩ := hrel
                      obtain ⟨G, hG⟩ : ∃ G : Nat → Int, ∀ t, G t = dq[t]! := ⟨fun t => dq[t]!, fun _ => rfl⟩
                      have HG := Lib.hid hG
                      have HS := Lib.hid (show dq.size = d.size from hsj)
                      clear hG
                      have hcw := HJ.out.cells HG.out
                      have hfw := HJ.out.free
                      rw [HS.out] at hcw hfw
                      by_cases hjb2 : j < b
                      · have q6 : j < d.size := by omega
                        have xw1 : IntKind.i64.wrap ((j : Int) - 1) = (j : Int) - 1 := IntWalk.i64_in _ (by omega)
                        have xa1 : (0 : Int) ≤ (j : Int) - 1 := by omega
                        have xb1 : (j : Int) - 1 < (d.size : Int) := by omega
                        have xc1 : ((j : Int) - 1).toNat = j - 1 := by omega
                        have q7 : j - 1 < d.size := by omega
                        go_wp2
                        go_quiet ((go_at_call 81; exact Calls.quiet_of_same (less_w _ _ _)))
                        go_wp2
                        · have ht0 : (!ltA (G j) (G (j - 1))) = true := by assumption
                          have ht : ltA (G j) (G (j - 1)) = false := by simpa using ht0
                          have HJ2 := Lib.hid (HJ.out.drewN nq)
                          have hE : dq = shiftUp ltA b (i' + 1) dj := by rw [← HJE.out, su_end _ _ _ (.inr (by rw [← HG.out, ← HG.out]; exact ht))]
                          have HN := Lib.hid (pi_go (s := t) HI2.out hne hsh HDD.out (show dq = _ from by rw [if_pos hbi]; exact hE))
                          go_roundw
                          case rel => exact ⟨t, i', dq, by congr 1; omega, by omega, rfl, by omega, by omega, hsj, HJ.out.drewN _, HN.out.symm.trans HO.out⟩
                          case measure => simp [intOf]; omega
                        · have ht0 : (!ltA (G j) (G (j - 1))) = false := by assumption
                          have ht : ltA (G j) (G (j - 1)) = true := by simpa using ht0
                          go_wp2
                          go_region
                          all_goals go_wp2
                          go_roundw
                          case rel => exact ⟨j + 1, swp dq j (j - 1), by go_num, by omega, by omega, by rw [size_swp]; exact hsj, (HJ.out.drewN nq).swpG HG.out (by omega) (by omega), by rw [← HJE.out, su_go b j dq hjb2 (by rw [← HG.out, ← HG.out]; exact ht)]; rfl⟩
                          case measure => simp [intOf]; omega
                      · go_wp2
                        have hE : dq = shiftUp ltA b (i' + 1) dj := by rw [← HJE.out, su_end _ _ _ (.inl hjb2)]
                        have HN := Lib.hid (pi_go (s := t) HI2.out hne hsh HDD.out (show dq = _ from by rw [if_pos hbi]; exact hE))
                        go_roundw
                        case rel => exact ⟨t, i', dq, by congr 1; omega, by omega, rfl, by omega, by omega, hsj, HJ, HN.out.symm.trans HO.out⟩
                        case measure => simp [intOf]; omega
              · have hd4 : decide ((2 : Int) ≤ (i' : Int) - (a : Int)) = false := decide_eq_false (by omega)
                have HDD : Hid (swp dk i' (i' - 1) = if i' - a ≥ 2 then shiftDown ltA (i' - 1) (swp dk i' (i' - 1)) else swp dk i' (i' - 1)) := by rw [if_neg hia]; rfl
                go_wp2
                go_loopw [10] (fun vj w2 => ∃ (j : Nat) (dq : Array Int), vj = .int .i64 j ∧ i' < j ∧ j ≤ b ∧ dq.size = d.size ∧ Hid (Lies w w2 g m dq) ∧ Hid (shiftUp ltA b j dq = shiftUp ltA b (i' + 1) (swp dk i' (i' - 1)))) (fun vj _ => b - (intOf vj).toNat)
                case atStart => exact ⟨i' + 1, (swp dk i' (i' - 1)), by go_num, by omega, by omega, hsd, HK4, rfl⟩
                case round =>
                  obtain ⟨j, dq, rfl, hij, hjb, hsj, HJ, HJE⟩ := hrel
                  obtain ⟨G, hG⟩ : ∃ G : Nat → Int, ∀ t, G t = dq[t]! := ⟨fun t => dq[t]!, fun _ => rfl⟩
                  have HG := Lib.hid hG
                  have HS := Lib.hid (show dq.size = d.size from hsj)
                  clear hG
                  have hcw := HJ.out.cells HG.out
                  have hfw := HJ.out.free
                  rw [HS.out] at hcw hfw
                  by_cases hjb2 : j < b
                  · have q6 : j < d.size := by omega
                    have xw1 : IntKind.i64.wrap ((j : Int) - 1) = (j : Int) - 1 := IntWalk.i64_in _ (by omega)
                    have xa1 : (0 : Int) ≤ (j : Int) - 1 := by omega
                    have xb1 : (j : Int) - 1 < (d.size : Int) := by omega
                    have xc1 : ((j : Int) - 1).toNat = j - 1 := by omega
                    have q7 : j - 1 < d.size := by omega
                    go_wp2
                    go_quiet ((go_at_call 81; exact Calls.quiet_of_same (less_w _ _ _)))
                    go_wp2
                    · have ht0 : (!ltA (G j) (G (j - 1))) = true := by assumption
                      have ht : ltA (G j) (G (j - 1)) = false := by simpa using ht0
                      have HJ2 := Lib.hid (HJ.out.drewN nq)
                      have hE : dq = shiftUp ltA b (i' + 1) (swp dk i' (i' - 1)) := by rw [← HJE.out, su_end _ _ _ (.inr (by rw [← HG.out, ← HG.out]; exact ht))]
                      have HN := Lib.hid (pi_go (s := t) HI2.out hne hsh HDD.out (show dq = _ from by rw [if_pos hbi]; exact hE))
                      go_roundw
                      case rel => exact ⟨t, i', dq, by congr 1; omega, by omega, rfl, by omega, by omega, hsj, HJ.out.drewN _, HN.out.symm.trans HO.out⟩
                      case measure => simp [intOf]; omega
                    · have ht0 : (!ltA (G j) (G (j - 1))) = false := by assumption
                      have ht : ltA (G j) (G (j - 1)) = true := by simpa using ht0
                      go_wp2
                      go_region
                      all_goals go_wp2
                      go_roundw
                      case rel => exact ⟨j + 1, swp dq j (j - 1), by go_num, by omega, by omega, by rw [size_swp]; exact hsj, (HJ.out.drewN nq).swpG HG.out (by omega) (by omega), by rw [← HJE.out, su_go b j dq hjb2 (by rw [← HG.out, ← HG.out]; exact ht)]; rfl⟩
                      case measure => simp [intOf]; omega
                  · go_wp2
                    have hE : dq = shiftUp ltA b (i' + 1) (swp dk i' (i' - 1)) := by rw [← HJE.out, su_end _ _ _ (.inl hjb2)]
                    have HN := Lib.hid (pi_go (s := t) HI2.out hne hsh HDD.out (show dq = _ from by rw [if_pos hbi]; exact hE))
                    go_roundw
                    case rel => exact ⟨t, i', dq, by congr 1; omega, by omega, rfl, by omega, by omega, hsj, HJ, HN.out.symm.trans HO.out⟩
                    case measure => simp [intOf]; omega
            · have hd5 : decide ((2 : Int) ≤ (b : Int) - (i' : Int)) = false := decide_eq_false (by omega)
              by_cases hia : i' - a ≥ 2
              · have hd4 : decide ((2 : Int) ≤ (i' : Int) - (a : Int)) = true := decide_eq_true (by omega)
                go_wp2
                go_loopw [9] (fun vj w2 => ∃ (j : Nat) (dj : Array Int), vj = .int .i64 j ∧ j < i' ∧ dj.size = d.size ∧ Hid (Lies w w2 g m dj) ∧ Hid (shiftDown ltA j dj = shiftDown ltA (i' - 1) (swp dk i' (i' - 1)))) (fun vj _ => (intOf vj).toNat)
                case atStart => exact ⟨i' - 1, swp dk i' (i' - 1), by congr 1; omega, by omega, hsd, HK4, rfl⟩
                case round =>
                  obtain ⟨j, dj, rfl, hij, hsj, HJ, HJE⟩ := hrel
                  clear HK4
                  obtain ⟨G, hG⟩ : ∃ G : Nat → Int, ∀ t, G t = dj[t]! := ⟨fun t => dj[t]!, fun _ => rfl⟩
                  have HG := Lib.hid hG
                  have HS := Lib.hid (show dj.size = d.size from hsj)
                  clear hG
                  have hcw := HJ.out.cells HG.out
                  have hfw := HJ.out.free
                  rw [HS.out] at hcw hfw
                  by_cases hj1 : 1 ≤ j
                  · have hd6 : decide ((1 : Int) ≤ (j : Int)) = true := decide_eq_true (by omega)
                    have q6 : j < d.size := by omega
                    have xw3 : IntKind.i64.wrap ((j : Int) - 1) = (j : Int) - 1 := IntWalk.i64_in _ (by omega)
                    have xa3 : (0 : Int) ≤ (j : Int) - 1 := by omega
                    have xb3 : (j : Int) - 1 < (d.size : Int) := by omega
                    have xc3 : ((j : Int) - 1).toNat = j - 1 := by omega
                    have q7 : j - 1 < d.size := by omega
                    go_wp2
                    go_quiet ((go_at_call 81; exact Calls.quiet_of_same (less_w _ _ _)))
                    go_wp2
                    · have ht0 : (!ltA (G j) (G (j - 1))) = true := by assumption
                      have ht : ltA (G j) (G (j - 1)) = false := by simpa using ht0
                      have hE : dj = shiftDown ltA (i' - 1) (swp dk i' (i' - 1)) := by rw [← HJE.out, sd_end _ _ (.inr (by rw [← HG.out, ← HG.out]; exact ht))]
                      have HDD : Hid (dj = if i' - a ≥ 2 then shiftDown ltA (i' - 1) (swp dk i' (i' - 1)) else swp dk i' (i' - 1)) := by rw [if_pos hia]; exact hE
                      have HSJ := Lib.hid hsj
                      clear hE ht ht0 hcw hfw HG HJE
                      have HN := Lib.hid (pi_go (s := t) HI2.out hne hsh HDD.out (show dj = _ from by rw [if_neg hbi]))
                      go_roundw
                      case rel => exact ⟨t, i', dj, by congr 1; omega, by omega, rfl, by omega, by omega, HSJ.out, (HJ.out.drewN _), HN.out.symm.trans HO.out⟩
                      case measure => simp [intOf]; omega
                    · have ht0 : (!ltA (G j) (G (j - 1))) = false := by assumption
                      have ht : ltA (G j) (G (j - 1)) = true := by simpa using ht0
                      go_wp2
                      go_region
                      all_goals go_wp2
                      go_roundw
                      case rel => exact ⟨j - 1, swp dj j (j - 1), by congr 1; omega, by omega, by rw [size_swp]; exact hsj, (HJ.out.drewN nq).swpG HG.out (by omega) (by omega), by rw [← HJE.out, sd_go j dj (by omega) (by rw [← HG.out, ← HG.out]; exact ht)]; rfl⟩
                      case measure => simp [intOf]; omega
                  · have hd6 : decide ((1 : Int) ≤ (j : Int)) = false := decide_eq_false (by omega)
                    have hE : dj = shiftDown ltA (i' - 1) (swp dk i' (i' - 1)) := by rw [← HJE.out, sd_end _ _ (.inl (by omega))]
                    have HDD : Hid (dj = if i' - a ≥ 2 then shiftDown ltA (i' - 1) (swp dk i' (i' - 1)) else swp dk i' (i' - 1)) := by rw [if_pos hia]; exact hE
                    have HSJ := Lib.hid hsj
                    clear hE hcw hfw HG HJE
                    go_wp2
                    have HN := Lib.hid (pi_go (s := t) HI2.out hne hsh HDD.out (show dj = _ from by rw [if_neg hbi]))
                    go_roundw
                    case rel => exact ⟨t, i', dj, by congr 1; omega, by omega, rfl, by omega, by omega, HSJ.out, HJ, HN.out.symm.trans HO.out⟩
                    case measure => simp [intOf]; omega
              · have hd4 : decide ((2 : Int) ≤ (i' : Int) - (a : Int)) = false := decide_eq_false (by omega)
                have HDD : Hid (swp dk i' (i' - 1) = if i' - a ≥ 2 then shiftDown ltA (i' - 1) (swp dk i' (i' - 1)) else swp dk i' (i' - 1)) := by rw [if_neg hia]; rfl
                go_wp2
                have HN := Lib.hid (pi_go (s := t) HI2.out hne hsh HDD.out (show (swp dk i' (i' - 1)) = _ from by rw [if_neg hbi]))
                go_roundw
                case rel => exact ⟨t, i', (swp dk i' (i' - 1)), by congr 1; omega, by omega, rfl, by omega, by omega, hsd, HK4, HN.out.symm.trans HO.out⟩
                case measure => simp [intOf]; omega
        · have hd2 : decide (i' < b) = false := decide_eq_false hlt
          have hd3 : decide ((i' : Int) < (b : Int)) = false := decide_eq_false (by omega)
          obtain rfl : i' = b := by omega
          go_wp2
          go_quiet ((go_at_call 81; exact Calls.quiet_of_same (less_w _ _ _)))
          go_wp2
          have hi2 : i' = scanSorted ltA dk i' i := (ss_end i' i' dk (.inl hlt)).symm.trans HSC.out
          have HN := Lib.hid (pi_true (a := a) (s := t) hi2 rfl)
          go_ret
          exact ⟨by rw [HPI.out, ← HO.out, HN.out]; rfl, by rw [HPI.out, ← HO.out, HN.out]; exact HK.out.drewN _⟩
end Go.Proofs.Ytbllchfgjginoaa
/-
  What each piece does for the whole sort.
-/
namespace Go.Proofs.Ytbllchfgjginoaa
open Go.RowKit Go.Sort
set_option linter.unusedVariables false
set_option linter.unusedSimpArgs false
/-- What is left to sort, [i, j) of e, finishes [a, b) of d. -/
structure St (n a b : Nat) (d : Array Int) (i j : Nat) (e : Array Int) : Prop where
  len : j - i ≤ b - a
  ij : i ≤ j
  jn : j ≤ n
  size : e.size = n
  below : Go.Sort.Below ltA i j e
  fin : ∀ R, PermIn i j e R → SortedIn ltA i j R → PermIn a b d R ∧ SortedIn ltA a b R
variable {n a b i j g m cap p : Nat} {d e : Array Int} {w0 w : World}
theorem swoA : SWO ltA := swo_ltInt
theorem St.perm {e' : Array Int} (h : St n a b d i j e) (hp : PermIn i j e e') : St n a b d i j e' :=
  ⟨h.len, h.ij, h.jn, hp.1.trans h.size, h.below.perm (by rw [h.size]; exact h.jn) hp, fun R h1 h2 => h.fin R (permIn_trans _ _ _ _ _ hp h1) h2⟩
theorem ins_n (h : Lies w0 w g m e) (hs : St n a b d i j e) (hsz : n < 65536) :
    Calls Try.prog 84 #[.slice (some ⟨g, 0, none⟩) n cap, .int .i64 i, .int .i64 j] w fun r w' => r = .returned (.tuple #[]) ∧ ∃ R, (PermIn a b d R ∧ SortedIn ltA a b R) ∧ Lies w0 w' g m R := by
  have hn := hs.size
  subst hn
  refine (insertion_w h.here hs.ij hs.jn (by omega)).mono ?_
  rintro r w' ⟨rfl, hl⟩
  obtain ⟨h1, h2⟩ := insertionSort_holds swoA e i j hs.ij hs.jn
  exact ⟨rfl, _, hs.fin _ h1 h2, h.trans hl⟩
theorem heap_n (h : Lies w0 w g m e) (hs : St n a b d i j e) (hij : i < j) (hsz : n < 65536) :
    Calls Try.prog 85 #[.slice (some ⟨g, 0, none⟩) n cap, .int .i64 i, .int .i64 j] w fun r w' => r = .returned (.tuple #[]) ∧ ∃ R, (PermIn a b d R ∧ SortedIn ltA a b R) ∧ Lies w0 w' g m R := by
  have hn := hs.size
  subst hn
  refine (heap_w h.here hij hs.jn (by omega)).mono ?_
  rintro r w' ⟨rfl, hl⟩
  obtain ⟨h1, h2⟩ := heapSort_holds swoA e i j hs.ij hs.jn
  exact ⟨rfl, _, hs.fin _ h1 h2, h.trans hl⟩
theorem rev_n (h : Lies w0 w g m e) (hs : St n a b d i j e) (hij : i < j) (hsz : n < 65536) :
    Calls Try.prog 88 #[.slice (some ⟨g, 0, none⟩) n cap, .int .i64 i, .int .i64 j] w fun r w' => r = .returned (.tuple #[]) ∧ ∃ R, St n a b d i j R ∧ Lies w0 w' g m R := by
  have hn := hs.size
  subst hn
  refine (reverse_w h.here hij hs.jn (by omega)).mono ?_
  rintro r w' ⟨rfl, hl⟩
  exact ⟨rfl, _, hs.perm (reverseRange_holds e i j hs.ij hs.jn), h.trans hl⟩
theorem brk_n (h : Lies w0 w g m e) (hs : St n a b d i j e) (hsz : n < 65536) :
    Calls Try.prog 86 #[.slice (some ⟨g, 0, none⟩) n cap, .int .i64 i, .int .i64 j] w fun r w' => r = .returned (.tuple #[]) ∧ ∃ R, St n a b d i j R ∧ Lies w0 w' g m R := by
  have hn := hs.size
  subst hn
  refine (break_w h.here hs.ij hs.jn hsz).mono ?_
  rintro r w' ⟨rfl, R, hp, hl⟩
  exact ⟨rfl, _, hs.perm hp, h.trans hl⟩
theorem partial_n (h : Lies w0 w g m e) (hs : St n a b d i j e) (hij : i < j) (hsz : n < 65536) :
    Calls Try.prog 89 #[.slice (some ⟨g, 0, none⟩) n cap, .int .i64 i, .int .i64 j] w fun r w' => ∃ (t : Bool) (R : Array Int), r = .returned (.bool t) ∧ St n a b d i j R ∧ (t = true → PermIn a b d R ∧ SortedIn ltA a b R) ∧ Lies w0 w' g m R := by
  have hn := hs.size
  subst hn
  refine (partial_w h.here hij hs.jn (by omega)).mono ?_
  rintro r w' ⟨rfl, hl⟩
  obtain ⟨h1, h2⟩ := partialInsertionSort_holds swoA e i j hij hs.jn hs.below
  exact ⟨_, _, rfl, hs.perm h1, fun ht => hs.fin _ h1 (h2 ht), h.trans hl⟩
theorem parteq_n (h : Lies w0 w g m e) (hs : St n a b d i j e) (hi : 0 < i) (h1 : i ≤ p) (h2 : p < j) (hl : ltA e[i - 1]! e[p]! = false) (hsz : n < 65536) :
    Calls Try.prog 90 #[.slice (some ⟨g, 0, none⟩) n cap, .int .i64 i, .int .i64 j, .int .i64 p] w fun r w' => ∃ (q : Nat) (R : Array Int), r = .returned (.int .i64 q) ∧ i < q ∧ q ≤ j ∧ St n a b d q j R ∧ Lies w0 w' g m R := by
  have hn := hs.size
  subst hn
  refine (parteq_w h.here h1 h2 hs.jn (by omega)).mono ?_
  rintro r w' ⟨rfl, hw⟩
  obtain ⟨r1, r2, r3, r4, r5⟩ := round_eq swoA (partitionEqual_holds ltA) hi h1 h2 hs.jn hs.below hl (show partitionEqual ltA e i j p = ((partitionEqual ltA e i j p).1, (partitionEqual ltA e i j p).2) from rfl)
  exact ⟨_, _, rfl, r1, r2, ⟨Nat.le_trans (by omega) hs.len, r2, hs.jn, r3, r4, fun R p1 p2 => by obtain ⟨x, y⟩ := r5 R p1 p2; exact hs.fin R x y⟩, h.trans hw⟩
/-- Both sides of the middle. -/
structure Mid (n a b : Nat) (d : Array Int) (i j q : Nat) (e : Array Int) : Prop where
  iq : i ≤ q
  qj : q < j
  size : e.size = n
  bl : Go.Sort.Below ltA i q e
  br : Go.Sort.Below ltA (q + 1) j e
  left : ∀ L, PermIn i q e L → SortedIn ltA i q L → St n a b d (q + 1) j L
  right : ∀ L, PermIn (q + 1) j e L → SortedIn ltA (q + 1) j L → St n a b d i q L
theorem part_n (h : Lies w0 w g m e) (hs : St n a b d i j e) (h1 : i ≤ p) (h2 : p < j) (hsz : n < 65536) :
    Calls Try.prog 91 #[.slice (some ⟨g, 0, none⟩) n cap, .int .i64 i, .int .i64 j, .int .i64 p] w fun r w' => ∃ (q : Nat) (t : Bool) (R : Array Int), r = .returned (.tuple #[.int .i64 q, .bool t]) ∧ Mid n a b d i j q R ∧ Lies w0 w' g m R := by
  have hn := hs.size
  subst hn
  refine (part_w h.here h1 h2 hs.jn (by omega)).mono ?_
  rintro r w' ⟨rfl, hw⟩
  obtain ⟨r1, r2, r3, r4, r5, r6, r7⟩ := round_part swoA (partition_holds ltA) h1 h2 hs.jn hs.below (show partition ltA e i j p = ((partition ltA e i j p).1, (partition ltA e i j p).2.1, (partition ltA e i j p).2.2) from rfl)
  have hlen := hs.len
  have hjn := hs.jn
  exact ⟨_, _, _, rfl, ⟨r1, r2, r3, r4, r5, fun L p1 p2 => ⟨by omega, by omega, hjn, p1.1.trans r3, (r6 L p1 p2).1, fun R x y => by obtain ⟨x', y'⟩ := (r6 L p1 p2).2 R x y; exact hs.fin R x' y'⟩, fun L p1 p2 => ⟨by omega, r1, by omega, p1.1.trans r3, (r7 L p1 p2).1, fun R x y => by obtain ⟨x', y'⟩ := (r7 L p1 p2).2 R x y; exact hs.fin R x' y'⟩⟩, h.trans hw⟩
end Go.Proofs.Ytbllchfgjginoaa
/-
  The sort at addresses, whole.
-/
namespace Go.Proofs.Ytbllchfgjginoaa
open Go.RowKit Go.Sort
set_option linter.unusedVariables false
set_option linter.unusedSimpArgs false
/-- A sorted permutation of [a, b) lies there. -/
def Sorted_ (a b g m : Nat) (d : Array Int) (w : World) (r : Ending) (w' : World) : Prop :=
  r = .returned (.tuple #[]) ∧ ∃ R, (PermIn a b d R ∧ SortedIn ltA a b R) ∧ Lies w w' g m R
theorem st_start {n a b : Nat} {d : Array Int} (hab : a ≤ b) (hb : b ≤ n) (hn : d.size = n) (hB : Go.Sort.Below ltA a b d) : St n a b d a b d :=
  ⟨Nat.le_refl _, hab, hb, hn, hB, fun R h1 h2 => ⟨h1, h2⟩⟩
set_option maxHeartbeats 32000000 in
set_option maxRecDepth 100000 in
theorem pdq_w {g m n cap : Nat} (hsz : n < 65536) (N : Nat) : ∀ (a b : Nat) (lim : Int) (d : Array Int) (w : World), b - a < N → a ≤ b → b ≤ n → d.size = n → Lies w w g m d → Go.Sort.Below ltA a b d →
    Calls Try.prog 77 #[.slice (some ⟨g, 0, none⟩) n cap, .int .i64 a, .int .i64 b, .int .i64 lim] w (Sorted_ a b g m d w) := by
  induction N with
  | zero => intro a b lim d w h; omega
  | succ N ih =>
  intro a b lim d w hN hab hb hn h hB
  have IH := Lib.hid ih
  have HL := Lib.hid h
  have HS := Lib.hid (st_start hab hb hn hB)
  have HN := Lib.hid hN
  clear ih h hB hn hN
  go_enter Try.func77, Try.ntmps77
  go_wp2
  go_loopg [1, 2, 3, 8, 9] (b - a + 1) (fun k va vb vl v8 v9 wr => ∃ (i j : Nat) (l : Int) (wb wp : Bool) (e : Array Int), va = .int .i64 i ∧ vb = .int .i64 j ∧ vl = .int .i64 l ∧ v8 = .bool wb ∧ v9 = .bool wp ∧ Hid (St n a b d i j e ∧ j - i < k) ∧ i ≤ j ∧ j ≤ n ∧ Hid (Lies w wr g m e))
  case atStart => exact ⟨a, b, lim, true, true, d, rfl, rfl, rfl, rfl, rfl, ⟨HS.out, by omega⟩, hab, hb, HL⟩
  case round =>
    obtain ⟨i, j, l, wb, wp, e, rfl, rfl, rfl, rfl, rfl, HE, hij, hjn, HK⟩ := hrel
    have HNZ := Lib.hid (show j - i < N + 1 from by have := HE.out.1.len; have := HN.out; omega)
    clear HL HS HN
    obtain ⟨z, hz⟩ : ∃ z : Nat, z = j - i := ⟨_, rfl⟩
    have hz2 : i + z = j := by omega
    clear hz
    go_upto_region 3 with fail
    rw [show ((j : Int) - (i : Int)) = (z : Int) from by omega]
    by_cases h12 : z ≤ 12
    · have hd12 : decide ((z : Int) ≤ 12) = true := decide_eq_true (by omega)
      go_wp2_with (go_at_call 84; refine (ins_n HK.out HE.out.1 hsz).mono ?_; rintro r w' ⟨rfl, R, hR, hl⟩; have HR := Lib.hid hR; have HLL := Lib.hid hl; clear hR hl)
      go_end0
      exact ⟨rfl, R, HR.out, HLL.out⟩
    have hd12 : decide ((z : Int) ≤ 12) = false := decide_eq_false (by omega)
    have hij2 : i < j := by omega
    go_upto_region 5 with fail
    by_cases hl0 : l = 0
    · have hdl : decide (l = 0) = true := decide_eq_true hl0
      have hbl : (l == 0) = true := by simp [hl0]
      clear hl0
      go_wp2_with (go_at_call 85; refine (heap_n HK.out HE.out.1 hij2 hsz).mono ?_; rintro r w' ⟨rfl, R, hR, hl⟩; have HR := Lib.hid hR; have HLL := Lib.hid hl; clear hR hl)
      go_end0
      exact ⟨rfl, R, HR.out, HLL.out⟩
    have hdl : decide (l = 0) = false := decide_eq_false hl0
    have hbl : (l == 0) = false := by simp [hl0]
    clear hl0
    go_upto_if 35 with fail
    go_cut [3] (fun v3 wc => ∃ (l' : Int) (e' : Array Int), v3 = .int .i64 l' ∧ Hid (St n a b d i j e' ∧ j - i < gk) ∧ Hid (Lies w wc g m e'))
    case first =>
      cases wb with
      | true =>
        go_wp2
        go_meet
        case rel => exact ⟨l, e, rfl, HE, HK⟩
      | false =>
        go_wp2_with (go_at_call 86; refine (brk_n HK.out HE.out.1 hsz).mono ?_; rintro r w' ⟨rfl, R, hR, hl⟩; have HR := Lib.hid hR; have HLL := Lib.hid hl; clear hR hl)
        go_meet
        case rel => exact ⟨_, R, rfl, ⟨HR.out, HE.out.2⟩, HLL⟩
    case rest =>
    clear HE HK hdl hbl
    obtain ⟨l, e, rfl, HE, HK⟩ := hcut
    have hzq : (i : Int) < (j : Int) := by omega
    go_upto_region 11 with (go_at_call 87; refine (choose_w HK.out HE.out.1.size hij2 hjn (by omega)).mono ?_; rintro r w1 ⟨p, hh, hp1, hp2, rfl, hO⟩; have HO := Lib.hid hO; clear hO)
    have HK1 := Lib.hid (HK.out.keep HO.out)
    clear HK HO
    go_upto_if 50 with fail
    go_cut [11, 12] (fun v11 v12 wc => ∃ (p' : Nat) (h' : Int) (e' : Array Int), v11 = .int .i64 p' ∧ v12 = .int .i64 h' ∧ i ≤ p' ∧ p' < j ∧ Hid (St n a b d i j e' ∧ j - i < gk) ∧ Hid (Lies w wc g m e'))
    case first =>
      by_cases h2 : hh = 2
      · have hd2 : decide (hh = 2) = true := decide_eq_true h2
        have hb2 : (hh == 2) = true := by simp [h2]
        clear h2
        obtain ⟨y, hy⟩ : ∃ y : Nat, y = (j - 1) - (p - i) := ⟨_, rfl⟩
        have hy1 : (j : Int) - 1 - ((p : Int) - (i : Int)) = (y : Int) := by omega
        have hy2 : i ≤ y := by omega
        have hy3 : y < j := by omega
        have hy4 : IntKind.i64.wrap ((p : Int) - (i : Int)) = (p : Int) - (i : Int) := IntWalk.i64_in _ (by omega)
        have hy5 : IntKind.i64.wrap ((j : Int) - 1) = (j : Int) - 1 := IntWalk.i64_in _ (by omega)
        have hy6 : IntKind.i64.wrap (y : Int) = (y : Int) := IntWalk.i64_in _ (by omega)
        clear hy
        go_wp2_with (go_at_call 88; refine (rev_n HK1.out HE.out.1 hij2 hsz).mono ?_; rintro r w' ⟨rfl, R, hR, hl⟩; have HR := Lib.hid hR; have HLL := Lib.hid hl; clear hR hl)
        go_meet
        case rel => exact ⟨y, _, R, by first | rfl | (congr 1; done) | (congr 1; omega), rfl, hy2, hy3, ⟨HR.out, HE.out.2⟩, HLL⟩
      · have hd2 : decide (hh = 2) = false := decide_eq_false h2
        have hb2 : (hh == 2) = false := by simp [h2]
        clear h2
        go_wp2
        go_meet
        case rel => exact ⟨p, hh, e, rfl, rfl, hp1, hp2, HE, HK1⟩
    case rest =>
    clear HE HK1 hp1 hp2
    obtain ⟨p, hh, e, rfl, rfl, hp1, hp2, HE, HK⟩ := hcut
    go_upto_region 15 with fail
    go_cut [68] (fun v68 wc => ∃ t : Bool, v68 = .bool t ∧ Hid (Lies w wc g m e))
    case first =>
      by_cases h1 : hh = 1
      · have hd1 : decide (hh = 1) = true := decide_eq_true h1
        have hb1 : (hh == 1) = true := by simp [h1]
        clear h1
        cases wb <;> cases wp <;> go_wp2
        all_goals go_meet
        case rel => exact ⟨_, rfl, HK⟩
        case rel => exact ⟨_, rfl, HK⟩
        case rel => exact ⟨_, rfl, HK⟩
        case rel => exact ⟨_, rfl, HK⟩
      · have hd1 : decide (hh = 1) = false := decide_eq_false h1
        have hb1 : (hh == 1) = false := by simp [h1]
        clear h1
        cases wb <;> cases wp <;> go_wp2
        all_goals go_meet
        case rel => exact ⟨_, rfl, HK⟩
        case rel => exact ⟨_, rfl, HK⟩
        case rel => exact ⟨_, rfl, HK⟩
        case rel => exact ⟨_, rfl, HK⟩
    case rest =>
    clear HK
    obtain ⟨t, rfl, HK⟩ := hcut
    go_upto_if 68 with fail
    go_cut [] (fun wc => ∃ (e' : Array Int), Hid (St n a b d i j e' ∧ j - i < gk) ∧ Hid (Lies w wc g m e'))
    case first =>
      cases t with
      | false =>
        go_wp2
        go_meet
        case rel => exact ⟨e, HE, HK⟩
      | true =>
        go_upto_if 72 with (go_at_call 89; refine (partial_n HK.out HE.out.1 hij2 hsz).mono ?_; rintro r w' ⟨t, R, rfl, hR, hF, hl⟩; have HR := Lib.hid hR; have HLL := Lib.hid hl; have HF := Lib.hid hF; clear hR hl hF)
        cases t with
        | true =>
          go_wp2
          go_end0
          exact ⟨rfl, R, HF.out trivial, HLL.out⟩
        | false =>
          go_wp2
          go_meet
          case rel => exact ⟨R, ⟨HR.out, HE.out.2⟩, HLL⟩
    case rest =>
    clear HE HK
    obtain ⟨e, HE, HK⟩ := hcut
    obtain ⟨G, hG⟩ : ∃ G : Nat → Int, ∀ t, G t = e[t]! := ⟨fun t => e[t]!, fun _ => rfl⟩
    have HG := Lib.hid hG
    have hcw := HK.out.cells hG
    rw [HE.out.1.size] at hcw
    clear hG
    go_upto_region 17 with fail
    go_cut [87] (fun v87 wc => ∃ t : Bool, v87 = .bool t ∧ Hid (t = true → 0 < i ∧ ltA e[i - 1]! e[p]! = false) ∧ Hid (Lies w wc g m e))
    case first =>
      by_cases hi0 : 0 < i
      · have hdi : decide ((0 : Int) < (i : Int)) = true := decide_eq_true (by omega)
        have q1 : i - 1 < n := by omega
        have q2 : p < n := by omega
        have q3 : (0 : Int) ≤ (i : Int) - 1 := by omega
        have q4 : (i : Int) - 1 < (n : Int) := by omega
        have q5 : ((i : Int) - 1).toNat = i - 1 := by omega
        have q6 : IntKind.i64.wrap ((i : Int) - 1) = (i : Int) - 1 := IntWalk.i64_in _ (by omega)
        have q7 : (p : Int) < (n : Int) := by omega
        go_quiet ((go_at_call 81; exact Calls.quiet_of_same (less_w _ _ _)))
        go_wp2
        go_meet
        case rel => exact ⟨_, rfl, fun ht => ⟨hi0, by rw [← HG.out, ← HG.out]; simpa using ht⟩, HK.out.drewN _⟩
      · have hdi : decide ((0 : Int) < (i : Int)) = false := decide_eq_false (by omega)
        go_quiet ((go_at_call 81; exact Calls.quiet_of_same (less_w _ _ _)))
        go_wp2
        go_meet
        case rel => exact ⟨false, rfl, fun ht => (by cases ht), HK.out.drewN _⟩
    case rest =>
    clear HK hcw HG
    obtain ⟨t, rfl, HT, HK⟩ := hcut
    cases t with
    | true =>
      have hi0 : 0 < i := (HT.out rfl).1
      go_wp2_with (go_at_call 90; refine (parteq_n HK.out HE.out.1 hi0 hp1 hp2 (HT.out rfl).2 hsz).mono ?_; rintro r w' ⟨q, R, rfl, hq1, hq2, hR, hl⟩; have HR := Lib.hid hR; have HLL := Lib.hid hl; clear hR hl)
      go_roundg (j - q + 1)
      case measure => have := HE.out.2; omega
      case rel => exact ⟨q, j, l, wb, wp, R, rfl, rfl, rfl, rfl, rfl, ⟨HR.out, by omega⟩, hq2, hjn, HLL⟩
    | false =>
      go_upto_region 22 with (go_at_call 91; refine (part_n HK.out HE.out.1 hp1 hp2 hsz).mono ?_; rintro r w' ⟨q, t, R, rfl, hM, hl⟩; have HM := Lib.hid hM; have HLL := Lib.hid hl; clear hM hl)
      have hq1 : i ≤ q := HM.out.iq
      have hq2 : q < j := HM.out.qj
      obtain ⟨x, hx⟩ : ∃ x : Nat, x = q - i := ⟨_, rfl⟩
      obtain ⟨y, hy⟩ : ∃ y : Nat, y = j - q := ⟨_, rfl⟩
      obtain ⟨r, hr⟩ : ∃ r : Nat, r = z / 8 := ⟨_, rfl⟩
      have hx1 : (q : Int) - (i : Int) = (x : Int) := by omega
      have hy1 : (j : Int) - (q : Int) = (y : Int) := by omega
      have hr1 : (z : Int) / 8 = (r : Int) := by omega
      have hx2 : i + x = q := by omega
      have hy2 : q + y = j := by omega
      clear hx hy hr
      have hw1 : IntKind.i64.wrap (x : Int) = (x : Int) := IntWalk.i64_in _ (by omega)
      have hw2 : IntKind.i64.wrap (y : Int) = (y : Int) := IntWalk.i64_in _ (by omega)
      by_cases hxy : x < y
      · have hdx : decide ((x : Int) < (y : Int)) = true := decide_eq_true (by omega)
        go_wp2_with (go_at_call 77; refine (IH.out i q l R _ (by have := HNZ.out; omega) hq1 (by omega) HM.out.size HLL.out.here HM.out.bl).mono ?_; rintro r w' ⟨rfl, L, hL, hl⟩; have HLf := Lib.hid hL; have HL2 := Lib.hid hl; clear hL hl)
        go_roundg (j - (q + 1) + 1)
        case measure => have := HE.out.2; omega
        case rel => exact ⟨q + 1, j, l, _, _, L, by go_num, rfl, rfl, rfl, rfl, ⟨HM.out.left L HLf.out.1 HLf.out.2, by omega⟩, by omega, hjn, HLL.out.trans HL2.out⟩
      · have hdx : decide ((x : Int) < (y : Int)) = false := decide_eq_false (by omega)
        go_wp2_with (go_at_call 77; refine (IH.out (q + 1) j l R _ (by have := HNZ.out; omega) (by omega) hjn HM.out.size HLL.out.here HM.out.br).mono ?_; rintro r w' ⟨rfl, L, hL, hl⟩; have HLf := Lib.hid hL; have HL2 := Lib.hid hl; clear hL hl)
        go_roundg (q - i + 1)
        case measure => have := HE.out.2; omega
        case rel => exact ⟨i, q, l, _, _, L, rfl, rfl, rfl, rfl, rfl, ⟨HM.out.right L HLf.out.1 HLf.out.2, by omega⟩, hq1, by omega, HLL.out.trans HL2.out⟩
end Go.Proofs.Ytbllchfgjginoaa
/-
  A region that draws its order: what only reads is walked in the order of the text, in every world that meets S; what writes comes behind it in one forced order.
-/
namespace Go.Proofs.Ytbllchfgjginoaa
open Go.RowKit

/-- The reading part: each operation yields one value in every world that meets S. -/
def wpHeld (P : Program) (ops : Array Oper) (S : World → Prop) (Q : Act → Prop) : List Oper → Act → Prop
  | [], a => Q a
  | o :: rest, a => (Region.wanted o (yielded ops a.tmps) = true ∧ ∃ v, (∀ w, S w → (execOp a.eval o).run P w = .ok (.value v) w) ∧ wpHeld P ops S Q rest (a.put o.dst v)) ∨
      (Region.wanted o (yielded ops a.tmps) = false ∧ wpHeld P ops S Q rest (a.put o.dst undef))

/-- The part that writes. -/
def wpTail (P : Program) (ops : Array Oper) (S : World → Prop) (Q : Exit → Act → World → Prop) : List Oper → Act → World → Prop
  | [], a, w => Q .normal a w
  | o :: rest, a, w => o.wp P a w (fun a' w' => S w' ∧ wpTail P ops S Q rest a' w') Q

def marks : Nat → Nat → Array Bool → Array Bool
  | 0, _, l => l
  | n + 1, k, l => marks n (k + 1) (l.setIfInBounds k true)
def lexPre (md : Region.Mode) (ops : Array Oper) : Nat → Nat → Array Bool → Bool
  | 0, _, _ => true
  | n + 1, k, l => (Region.ready md ops l).contains k && Region.free md ops l k && lexPre md ops n (k + 1) (l.setIfInBounds k true)
def tailB (md : Region.Mode) (ops : Array Oper) : Nat → Nat → Array Bool → Bool
  | 0, _, l => Region.ready md ops l == []
  | n + 1, k, l => Region.ready md ops l == [k] && ((ops[k]?).map (·.guard.isNone)).getD false && tailB md ops n (k + 1) (l.setIfInBounds k true)

variable {P : Program} {ops : Array Oper} {Q : Exit → Act → World → Prop} {md : Region.Mode} {S : World → Prop}

theorem wpAnyH_tail : ∀ (l : List Oper) (k : Nat) (listed : Array Bool) (a : Act) (w : World), (∀ j, j < l.length → l[j]? = ops[k + j]?) → tailB md ops l.length k listed = true →
    wpTail P ops S Q l a w → wpAnyH P md ops Q S l.length listed a w
  | [], _, _, _, _, _, hB, h => ⟨by simpa [tailB] using hB, h⟩
  | o :: l, k, listed, a, w, hl, hB, h => by
    have h0 : ops[k]? = some o := by simpa using (hl 0 (by simp)).symm
    simp only [List.length_cons, tailB, Bool.and_eq_true, h0, Option.map_some, Option.getD_some, beq_iff_eq] at hB
    obtain ⟨⟨hr, hg⟩, hB'⟩ := hB
    refine wpAnyH_all hr (by simp) (fun i hi => ?_)
    obtain rfl : i = k := by simpa using hi
    unfold wpOp
    simp only [h0]
    have hg' : o.guard = none := by simpa using hg
    rw [if_pos (by simp [Region.wanted, hg'])]
    refine .inl (Oper.wp_mono (fun a' w' h' => ⟨h'.1, ?_⟩) h)
    exact wpAnyH_tail l (i + 1) _ a' w' (fun j hj => by have := hl (j + 1) (by simp; omega); simpa [Nat.add_assoc, Nat.add_comm 1 j] using this) hB' h'.2

theorem wpAnyH_pre (hs : Region.noSelect ops = true) (hQ : ∀ c a d v w, Q (.panic c) (Act.put a d v) w → Q (.panic c) a w) {fuel : Nat} {w : World} (hS : S w) :
    ∀ (l : List Oper) (k : Nat) (listed : Array Bool) (a : Act), (∀ j, j < l.length → l[j]? = ops[k + j]?) → lexPre md ops l.length k listed = true →
    wpHeld P ops S (fun a' => wpAnyH P md ops Q S fuel (marks l.length k listed) a' w) l a → wpAnyH P md ops Q S (fuel + l.length) listed a w
  | [], _, _, _, _, _, h => h
  | o :: l, k, listed, a, hl, hB, h => by
    have h0 : ops[k]? = some o := by simpa using (hl 0 (by simp)).symm
    simp only [List.length_cons, lexPre, Bool.and_eq_true] at hB
    obtain ⟨⟨hr, hf⟩, hB'⟩ := hB
    have hl' : ∀ j, j < l.length → l[j]? = ops[k + 1 + j]? := fun j hj => by have := hl (j + 1) (by simp; omega); simpa [Nat.add_assoc, Nat.add_comm 1 j] using this
    rcases h with ⟨hw, v, hv, h⟩ | ⟨hw, h⟩
    · exact wpAnyH_take h0 hs hf hr (fun c a w => hQ c a _ _ w) (.inl ⟨hw, hv⟩) hS (wpAnyH_pre hs hQ hS l (k + 1) _ _ hl' hB' h)
    · exact wpAnyH_take h0 hs hf hr (fun c a w => hQ c a _ _ w) (.inr ⟨hw, rfl⟩) hS (wpAnyH_pre hs hQ hS l (k + 1) _ _ hl' hB' h)

theorem wpHeld_mono {Q1 Q2 : Act → Prop} (hQ : ∀ a, Q1 a → Q2 a) : ∀ {l : List Oper} {a : Act}, wpHeld P ops S Q1 l a → wpHeld P ops S Q2 l a
  | [], _, h => hQ _ h
  | _ :: _, _, .inl ⟨hw, v, hv, h⟩ => .inl ⟨hw, v, hv, wpHeld_mono hQ h⟩
  | _ :: _, _, .inr ⟨hw, h⟩ => .inr ⟨hw, wpHeld_mono hQ h⟩

/-- The whole region. n: how many operations only read. -/
def regB (ops : Array Oper) (n : Nat) : Bool :=
  Region.noSelect ops && lexPre .any ops n 0 (Array.replicate ops.size false) && tailB .any ops (ops.size - n) n (marks n 0 (Array.replicate ops.size false))

theorem wp_reg {id : Nat} {a : Act} {w : World} {l : List Oper} (n : Nat) (S : World → Prop) (hm : P.follows .mixedOrders = true) (hB : regB l.toArray n = true) (hn : n ≤ l.length)
    (hQ : ∀ c a d v w, Q (.panic c) (Act.put a d v) w → Q (.panic c) a w) (hS : S w.drew)
    (h : wpHeld P l.toArray S (fun a' => wpTail P l.toArray S Q (l.drop n) a' w.drew) (l.take n) a) : (Code.region id l.toArray true).wp P Q a w := by
  simp only [regB, Bool.and_eq_true] at hB
  obtain ⟨⟨hs, hp⟩, ht⟩ := hB
  refine wp_region_held (S := S) hm ?_
  have hlen : (l.take n).length = n := by simp; omega
  have hd : (l.drop n).length = l.toArray.size - n := by simp
  have e : l.toArray.size = (l.drop n).length + (l.take n).length := by simp; omega
  generalize Array.replicate l.toArray.size false = z at *
  rw [e]
  refine wpAnyH_pre hs hQ hS (l.take n) 0 z a (fun j hj => ?_) ?_ ?_
  · rw [hlen] at hj
    simp [hj]
  · rw [hlen]; exact hp
  · rw [hlen]
    refine wpHeld_mono (fun a' h' => ?_) h
    refine wpAnyH_tail (l.drop n) n _ a' _ (fun j hj => ?_) ?_ h'
    · simp
    · rw [hd]; exact ht

theorem wpHeld_goK {Q : Act → Prop} {o : Oper} {rest : List Oper} {a : Act} {v : Value} (hw : Region.wanted o (yielded ops a.tmps) = true) (hv : ∀ w, S w → (execOp a.eval o).run P w = .ok (.value v) w)
    (h : ∀ K : Act → Prop, (∀ a', wpHeld P ops S Q rest a' → K a') → K (a.put o.dst v)) : wpHeld P ops S Q (o :: rest) a := .inl ⟨hw, v, hv, h _ fun _ h => h⟩
theorem wpHeld_skipK {Q : Act → Prop} {o : Oper} {rest : List Oper} {a : Act} (hw : Region.wanted o (yielded ops a.tmps) = false)
    (h : ∀ K : Act → Prop, (∀ a', wpHeld P ops S Q rest a' → K a') → K (a.put o.dst undef)) : wpHeld P ops S Q (o :: rest) a := .inr ⟨hw, h _ fun _ h => h⟩
theorem wpHeld_nil {Q : Act → Prop} {a : Act} (h : Q a) : wpHeld P ops S Q [] a := h
theorem wpTail_step {o : Oper} {rest : List Oper} {a : Act} {w : World} (h : ∀ K : Act → World → Prop, (∀ a' w', S w' → wpTail P ops S Q rest a' w' → K a' w') → o.wp P a w K Q) : wpTail P ops S Q (o :: rest) a w :=
  h _ fun _ _ h1 h2 => ⟨h1, h2⟩
theorem wpTail_nil {a : Act} {w : World} (h : Q .normal a w) : wpTail P ops S Q [] a w := h
end Go.Proofs.Ytbllchfgjginoaa
