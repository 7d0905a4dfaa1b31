/-
  Noughts have the sum 65535; they are whole with it, wherever it stands. For every input.
-/
import Derived.Test.YtacjimkkbimcaaaPSumx4
import Derived.Test.YtacjimkkbimcaaaSumL
namespace Go.Proofs.Ytacjimkkbimcaaa.Pure
open Go.RowKit Go.Proofs.Ytacjimkkbimcaaa.PSum Go.Proofs.YtacjimkkbimcaaaW.PrintWords Go.Proofs.YtacjimkkbimcaaaW.PrintLast

theorem tot_zeros (n : Nat) : ∀ p, tot p (List.replicate n 0) = 0 := by
  induction n with
  | zero => intro p; simp [tot]
  | succ n ih => intro p; rw [List.replicate_succ]; simp [tot, ih]
theorem sum_zeros (n : Nat) : sumOf (List.replicate n 0) = 65535 := by
  rw [sumOf_rep _ (fun z hz => by have := List.eq_of_mem_replicate hz; omega), tot_zeros]
  rfl
theorem zeroed_zeros (n m : Nat) : zeroed (List.replicate n 0) m = List.replicate n 0 := by
  unfold zeroed
  rw [List.set_replicate_self, List.set_replicate_self]

theorem zeros_j1 (n m k : Nat) (hn : n < 256) (hm : m % 2 = 0) (h : m + 2 ≤ n) (hk : n < k) :
    stolonlaw02_SumZeros.j1 (k + 1) m true (List.replicate n 0) (putOf (List.replicate n 0) m) false = some true := by
  have hb : ∀ z ∈ List.replicate n (0 : Int), 0 ≤ z ∧ z < 256 := fun z hz => by have := List.eq_of_mem_replicate hz; omega
  have e : putOf (List.replicate n 0) m = ((List.replicate n (0 : Int)).set m 255).set (m + 1) 255 := by
    unfold putOf
    rw [zeroed_zeros, sum_zeros]
    rfl
  have hl : (putOf (List.replicate n 0) m).length = n := by rw [putOf_len, List.length_replicate]
  have g0 : rd (putOf (List.replicate n 0) m) m = 255 := by
    rw [rd_eq, Int.toNat_natCast, e, List.getD_eq_getElem?_getD, List.getElem?_set_ne (by omega), List.getElem?_set_self (by rw [List.length_replicate]; omega)]
    rfl
  have g1 : rd (putOf (List.replicate n 0) m) ((m : Int) + 1) = 255 := by
    rw [rd_eq, show ((m : Int) + 1).toNat = m + 1 from by omega, e, List.getD_eq_getElem?_getD, List.getElem?_set_self (by rw [List.length_set, List.length_replicate]; omega)]
    rfl
  have hw := whole_some (putOf_byte _ m hb) (by rw [hl]; omega)
  rw [putOf_whole _ m hb hm (by rw [List.length_replicate]; omega)] at hw
  have hs := same_some (putOf (List.replicate n 0) m) (List.replicate n 0) (by rw [hl]; omega) k (by rw [hl]; omega)
  have hne : putOf (List.replicate n 0) m ≠ List.replicate n 0 := fun h => by
    rw [h, rd_eq, List.getD_eq_getElem?_getD, Int.toNat_natCast, List.getElem?_replicate, if_pos (by omega)] at g0
    simp at g0
  rw [beq_eq_false_iff_ne.2 hne] at hs
  rw [stolonlaw02_SumZeros.j1, if_neg Bool.false_ne_true, if_pos rfl, if_pos (by omega), if_pos (by omega), if_pos g0, w64 (by omega) (by omega), if_pos (by omega), if_pos (by omega), if_pos g1, hw]
  simp only [Option.bind_some]
  rw [if_pos (by rfl), hs]
  rfl

theorem SumZeros : stolonlaw02_SumZeros.Pure := by
  intro a0 a ha0 ha
  replace ha0 := wf_u8 ha0
  replace ha := wf_i64 ha
  obtain ⟨n, rfl⟩ := Int.eq_ofNat_of_zero_le ha0.1
  have hn : n < 256 := by omega
  have hb : ∀ z ∈ List.replicate n (0 : Int), 0 ≤ z ∧ z < 256 := fun z hz => by have := List.eq_of_mem_replicate hz; omega
  have hlen : (List.replicate n (0 : Int)).length ≤ 140737488351232 := by rw [List.length_replicate]; omega
  have hw := whole_some hb hlen
  have ho := of_some hb hlen
  have hp := put_some hb hlen ha
  rw [sum_zeros] at hw ho
  refine ⟨257 + 1 + 1, ?_⟩
  unfold stolonlaw02_SumZeros.f
  rw [shown_some, Option.bind_some, w64 (i := (n : Int)) (by omega) (by omega), if_pos (by omega), Int.toNat_natCast, if_pos (by omega), Option.bind_some, hp, Option.bind_some, ho, Option.bind_some, if_pos rfl, hw, Option.bind_some]
  rw [show ((65535 : Int) == 0) = false from rfl, stolonlaw02_SumZeros.j0, if_neg Bool.false_ne_true]
  by_cases c : a < 0 ∨ a % 2 ≠ 0 ∨ ((List.replicate n (0 : Int)).length : Int) - 2 < a
  · rw [if_pos c]
    rfl
  · rw [if_neg c]
    simp only [List.length_replicate, putOf_len] at c ⊢
    rw [if_pos trivial, if_pos trivial, if_neg (by omega), w64 (by omega) (by omega)]
    obtain ⟨m, rfl⟩ := Int.eq_ofNat_of_zero_le (show 0 ≤ a by omega)
    rw [show decide ((m : Int) ≥ (n : Int) - 1) = false from by simp; omega, Int.toNat_natCast]
    exact zeros_j1 n m 257 hn (by omega) (by omega) (by omega)

end Go.Proofs.Ytacjimkkbimcaaa.Pure
