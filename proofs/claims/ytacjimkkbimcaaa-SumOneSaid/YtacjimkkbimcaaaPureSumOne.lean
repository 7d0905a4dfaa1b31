/-
  What is whole isn't any more, when one of its bytes is changed. For every input.
-/
import Derived.Test.YtacjimkkbimcaaaPSumx3
import Derived.Test.YtacjimkkbimcaaaSumL
namespace Go.Proofs.Ytacjimkkbimcaaa.Pure
open Go.RowKit Go.Proofs.Ytacjimkkbimcaaa.PSum Go.Proofs.YtacjimkkbimcaaaW.PrintWords Go.Proofs.YtacjimkkbimcaaaW.PrintLast

theorem SumOne : stolonlaw02_SumOne.Pure := by
  intro l a y _ hl hb ha hy
  replace hb : ∀ z ∈ l, 0 ≤ z ∧ z < 256 := fun z hz => wf_u8 (hb z hz)
  replace ha := wf_i64 ha
  replace hy := wf_u8 hy
  unfold stolonlaw02_SumOne.f
  rw [shown_some]
  simp only [Option.bind_some, List.nil_append, if_true]
  by_cases c : (l.length : Int) > 1000
  · rw [if_pos c]
  rw [if_neg c]
  by_cases c1 : a < 0
  · rw [if_pos c1]
  rw [if_neg c1]
  by_cases c2 : a ≥ (l.length : Int)
  · rw [if_pos c2]
  rw [if_neg c2]
  by_cases c3 : y = 0
  · rw [if_pos c3]
  rw [if_neg c3, whole_some hb (by omega)]
  simp only [Option.bind_some]
  by_cases c4 : (sumOf l == 0) = true
  · rw [if_pos c4, if_pos (by simp; omega), if_pos (by omega), if_pos (by omega), rd_eq]
    have hg := get_byte hb a.toNat
    obtain ⟨v0, v1, v2⟩ := xor8 hg.1 hg.2 (show 0 < y by omega) hy.2
    rw [whole_some (set_byte hb v0 v1) (by simp; omega)]
    simp only [Option.bind_some]
    have e : sumOf l = 0 := by simpa using c4
    have t0 := tot_nonneg l 0 hb
    have t1 := tot_nonneg _ 0 (set_byte (i := a.toNat) hb v0 v1)
    have hs := tot_set l 0 a.toNat (Go.bits .xor .u8 (l.getD a.toNat 0) y) (by omega)
    rw [sumOf_rep _ hb] at e
    have hne : sumOf (l.set a.toNat (Go.bits .xor .u8 (l.getD a.toNat 0) y)) ≠ 0 := by
      rw [sumOf_rep _ (set_byte hb v0 v1)]
      generalize Go.bits .xor .u8 (l.getD a.toNat 0) y = v at *
      generalize l.getD a.toNat 0 = g at *
      generalize tot 0 (l.set a.toNat v) = t' at *
      generalize tot 0 l = t at *
      unfold wt at hs
      unfold repW at e ⊢
      split at hs <;> split at e <;> split <;> omega
    rw [beq_eq_false_iff_ne.2 hne]
    rfl
  · rw [if_neg c4]

end Go.Proofs.Ytacjimkkbimcaaa.Pure
