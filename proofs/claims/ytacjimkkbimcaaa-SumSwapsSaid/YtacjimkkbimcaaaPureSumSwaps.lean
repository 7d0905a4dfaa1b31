/-
  Words may change places; a row of bytes with noughts behind has the same sum; two rows of whole words, one behind the other, have their words joined. For every input.
-/
import Derived.Test.YtacjimkkbimcaaaPSumx3
import Derived.Test.YtacjimkkbimcaaaSumL
namespace Go.Proofs.Ytacjimkkbimcaaa.Pure
open Go.RowKit Go.Proofs.Ytacjimkkbimcaaa.PSum Go.Proofs.YtacjimkkbimcaaaW.PrintWords Go.Proofs.YtacjimkkbimcaaaW.PrintLast

theorem swap_tot (l : List Int) (m : Nat) (hm : m % 2 = 0) (hl : m + 4 ≤ l.length) :
    tot 0 ((((l.set m (l.getD (m + 2) 0)).set (m + 1) (l.getD (m + 3) 0)).set (m + 2) (l.getD m 0)).set (m + 3) (l.getD (m + 1) 0)) = tot 0 l := by
  rw [tot_set _ _ _ _ (by first | omega | (simp; omega)), tot_set _ _ _ _ (by first | omega | (simp; omega)), tot_set _ _ _ _ (by first | omega | (simp; omega)), tot_set _ _ _ _ (by first | omega | (simp; omega))]
  have g1 : (l.set m (l.getD (m + 2) 0)).getD (m + 1) 0 = l.getD (m + 1) 0 := by
    simp only [List.getD_eq_getElem?_getD]; rw [List.getElem?_set_ne (by omega)]
  have g2 : ((l.set m (l.getD (m + 2) 0)).set (m + 1) (l.getD (m + 3) 0)).getD (m + 2) 0 = l.getD (m + 2) 0 := by
    simp only [List.getD_eq_getElem?_getD]; rw [List.getElem?_set_ne (by omega), List.getElem?_set_ne (by omega)]
  have g3 : (((l.set m (l.getD (m + 2) 0)).set (m + 1) (l.getD (m + 3) 0)).set (m + 2) (l.getD m 0)).getD (m + 3) 0 = l.getD (m + 3) 0 := by
    simp only [List.getD_eq_getElem?_getD]; rw [List.getElem?_set_ne (by omega), List.getElem?_set_ne (by omega), List.getElem?_set_ne (by omega)]
  rw [g1, g2, g3]
  have w0 : wt (0 + m) = 256 := by unfold wt; rw [if_pos (by omega)]
  have w1 : wt (0 + (m + 1)) = 1 := by unfold wt; rw [if_neg (by omega)]
  have w2 : wt (0 + (m + 2)) = 256 := by unfold wt; rw [if_pos (by omega)]
  have w3 : wt (0 + (m + 3)) = 1 := by unfold wt; rw [if_neg (by omega)]
  rw [w0, w1, w2, w3]
  omega

theorem swaps_j1 (l : List Int) (a : Int) (k : Nat) (hb : ∀ z ∈ l, 0 ≤ z ∧ z < 256) (hl : l.length ≤ 1000) (ha : -9223372036854775808 ≤ a ∧ a ≤ 9223372036854775807) :
    stolonlaw02_SumSwaps.j1 (k + 1) a true l (sumOf l) false = some true := by
  simp only [stolonlaw02_SumSwaps.j1]
  rw [if_neg (by decide)]
  by_cases c1 : a < 0
  · rw [if_pos c1]
  rw [if_neg c1]
  by_cases c2 : Int.tmod a 2 = 0
  · rw [if_pos c2, w64 (i := (l.length : Int) - 4) (by omega) (by omega)]
    rw [tmod2] at c2
    by_cases c3 : a > (l.length : Int) - 4
    · rw [if_pos c3]
    · rw [if_neg c3]
      simp only [Option.bind_some, List.nil_append, if_true]
      rw [w64 (i := a + 2) (by omega) (by omega), w64 (i := a + 3) (by omega) (by omega), w64 (i := a + 1) (by omega) (by omega)]
      rw [if_pos (by first | omega | (simp; omega)), if_pos (by omega), if_pos (by omega), if_pos (by omega), if_pos (by omega), if_pos (by omega), if_pos (by omega), if_pos (by omega), if_pos (by omega), if_pos (by omega), if_pos (by omega), if_pos (by omega), if_pos (by omega)]
      obtain ⟨m, rfl⟩ := Int.eq_ofNat_of_zero_le (show 0 ≤ a by omega)
      simp only [rd_eq, show ((m : Int) + 1).toNat = m + 1 from by omega, show ((m : Int) + 2).toNat = m + 2 from by omega, show ((m : Int) + 3).toNat = m + 3 from by omega, Int.toNat_natCast]
      have hb' : ∀ z ∈ ((((l.set m (l.getD (m + 2) 0)).set (m + 1) (l.getD (m + 3) 0)).set (m + 2) (l.getD m 0)).set (m + 3) (l.getD (m + 1) 0)), 0 ≤ z ∧ z < 256 :=
        set_byte (set_byte (set_byte (set_byte hb (get_byte hb _).1 (get_byte hb _).2) (get_byte hb _).1 (get_byte hb _).2) (get_byte hb _).1 (get_byte hb _).2) (get_byte hb _).1 (get_byte hb _).2
      rw [of_some hb' (by first | omega | (simp; omega))]
      simp only [Option.bind_some]
      rw [sumOf_rep _ hb', sumOf_rep _ hb, swap_tot l m (by omega) (by omega)]
      simp
  · rw [if_neg c2]

theorem swaps_j0 (l l' : List Int) (a : Int) (k : Nat) (hb : ∀ z ∈ l, 0 ≤ z ∧ z < 256) (hb' : ∀ z ∈ l', 0 ≤ z ∧ z < 256) (hl : l.length + l'.length ≤ 1000) (c1' : ((l.length : Int) % 2) = 0) (ha : -9223372036854775808 ≤ a ∧ a ≤ 9223372036854775807) :
    stolonlaw02_SumSwaps.j0 (k + 1 + 1) l l' a true false = some true := by
  have hb2 : ∀ z ∈ l ++ l', 0 ≤ z ∧ z < 256 := fun z hz => by
    rcases List.mem_append.1 hz with h | h
    · exact hb z h
    · exact hb' z h
  have hb3 : ∀ z ∈ l ++ l' ++ [0, 0], 0 ≤ z ∧ z < 256 := fun z hz => by
    rcases List.mem_append.1 hz with h | h
    · exact hb2 z h
    · have : z = 0 := by simpa using h
      omega
  have e3 : sumOf (l ++ l' ++ [0, 0]) = sumOf (l ++ l') := by
    rw [sumOf_rep _ hb3, sumOf_rep _ hb2, tot_append (l ++ l') [0, 0]]
    simp [tot]
  have t0 := tot_nonneg l 0 hb
  have t1 := tot_nonneg l' 0 hb'
  have r0 := sumOf_range l hb
  have r1 := sumOf_range l' hb'
  have r2 := sumOf_range _ hb2
  have ej : joinW (65535 - sumOf l) (65535 - sumOf l') = 65535 - sumOf (l ++ l') := by
    rw [joinW_rep (by omega) (by omega) (by omega) (by omega), sumOf_rep _ hb, sumOf_rep _ hb', sumOf_rep _ hb2, tot_append, tot_par l' (0 + l.length) 0 (by omega)]
    rw [show (65535 - (65535 - repW (tot 0 l)) + (65535 - (65535 - repW (tot 0 l')))) = repW (tot 0 l) + repW (tot 0 l') from by omega, repW_add t0 (repW_range t1).1, Int.add_comm, repW_add t1 t0, Int.add_comm]
    omega
  have hlen2 : (l ++ l').length ≤ 1000 := by rw [List.length_append]; omega
  have hlen3 : (l ++ l' ++ [0, 0]).length ≤ 1002 := by rw [List.length_append]; simp only [List.length_cons, List.length_nil]; omega
  have w0 := of_some hb (Nat.le_trans (by omega : l.length ≤ 1000) (by omega))
  have w1 := of_some hb' (Nat.le_trans (by omega : l'.length ≤ 1000) (by omega))
  have w2 := of_some hb2 (Nat.le_trans hlen2 (by omega))
  have w3 := of_some hb3 (Nat.le_trans hlen3 (by omega))
  rw [e3] at w3
  have v0 := wraps_u16 (65535 - sumOf l) (by omega) (by omega)
  have v1 := wraps_u16 (65535 - sumOf l') (by omega) (by omega)
  have v2 := wraps_u16 (65535 - sumOf (l ++ l')) (by omega) (by omega)
  have v3 := join_some (x := 65535 - sumOf l) (y := 65535 - sumOf l') (by omega) (by omega) (by omega) (by omega)
  rw [ej] at v3
  have big : ∀ n : Nat, n ≤ 1002 → n < 140737488355328 := fun n h => by omega
  have n0 : ([] : List Int).length + l.length < 140737488355328 := big _ (by simp only [List.length_nil]; omega)
  have n1 : l.length + l'.length < 140737488355328 := big _ (by omega)
  have n2 : ([] : List Int).length + (l ++ l').length < 140737488355328 := big _ (by simp only [List.length_nil]; omega)
  have n3 : (l ++ l').length + ([0, 0] : List Int).length < 140737488355328 := big _ (by simp only [List.length_nil, List.length_cons]; omega)
  clear big
  rw [stolonlaw02_SumSwaps.j0, if_neg Bool.false_ne_true]
  simp only [Option.bind_some, List.nil_append]
  rw [if_pos n0, if_pos n1, if_pos n2, if_pos n3, w2, w3]
  simp only [Option.bind_some, if_true]
  rw [w0, w1]
  simp only [Option.bind_some]
  rw [v0, v1, v2, v3]
  simp only [Option.bind_some, bne_self_eq_false]
  exact swaps_j1 (l ++ l') a k hb2 hlen2 ha

theorem SumSwaps : stolonlaw02_SumSwaps.Pure := by
  intro l l' a _ hl hb _ hl' hb' ha
  replace hb : ∀ z ∈ l, 0 ≤ z ∧ z < 256 := fun z hz => wf_u8 (hb z hz)
  replace hb' : ∀ z ∈ l', 0 ≤ z ∧ z < 256 := fun z hz => wf_u8 (hb' z hz)
  replace ha := wf_i64 ha
  refine ⟨0 + 1 + 1, ?_⟩
  unfold stolonlaw02_SumSwaps.f
  rw [shown_some, Option.bind_some, w64 (by omega) (by omega)]
  by_cases c : (l.length : Int) + l'.length > 1000
  · rw [if_pos c, stolonlaw02_SumSwaps.j0, if_pos rfl]
  rw [if_neg c]
  by_cases c1 : (((l.length : Int) % 2) != 0) = true
  · rw [c1, stolonlaw02_SumSwaps.j0, if_pos rfl]
  have c1' : ((l.length : Int) % 2) = 0 := by simpa using c1
  rw [Bool.eq_false_iff.2 c1]
  exact swaps_j0 l l' a 0 hb hb' (by omega) c1' ha

end Go.Proofs.Ytacjimkkbimcaaa.Pure
