/-
  What has its sum put into it is whole, and is otherwise as it was. For every input.
-/
import Derived.Test.YtacjimkkbimcaaaPSumx2
import Derived.Test.YtacjimkkbimcaaaSumL
namespace Go.Proofs.Ytacjimkkbimcaaa.Pure
open Go.RowKit Go.Proofs.Ytacjimkkbimcaaa.PSum Go.Proofs.YtacjimkkbimcaaaW.PrintWords Go.Proofs.YtacjimkkbimcaaaW.PrintLast

theorem sumwhole_loop (l p : List Int) (a : Int) (hl : l.length ≤ 3000) (ha : 0 ≤ a ∧ a + 2 ≤ l.length) (hp : p.length = l.length) (heq : ∀ i : Nat, (i : Int) ≠ a → (i : Int) ≠ a + 1 → p.getD i 0 = l.getD i 0) (hw : sum_Whole.f p = some true) :
    ∀ (d k : Nat) (i : Int), 0 ≤ i → i ≤ l.length → (l.length : Int) - i = d → d < k → stolonlaw02_SumWhole.l0 k l a true p i = some true := by
  intro d
  induction d with
  | zero =>
    intro k i h0 h1 hd hk
    obtain ⟨k, rfl⟩ : ∃ m, k = m + 1 := ⟨k - 1, by omega⟩
    simp only [stolonlaw02_SumWhole.l0]
    rw [if_neg (by omega), if_true, hw]
    rfl
  | succ d ih =>
    intro k i h0 h1 hd hk
    obtain ⟨k, rfl⟩ : ∃ m, k = m + 1 := ⟨k - 1, by omega⟩
    have e := ih k (i + 1) (by omega) (by omega) (by omega) (by omega)
    simp only [stolonlaw02_SumWhole.l0]
    rw [if_pos (by omega), w64 (i := i + 1) (by omega) (by omega), w64 (i := a + 1) (by omega) (by omega), e]
    by_cases c1 : i = a
    · rw [if_pos c1]
    · by_cases c2 : i = a + 1
      · rw [if_neg c1, if_pos c2]
      · rw [if_neg c1, if_neg c2, if_pos h0, if_pos (by omega), if_pos]
        exact heq i.toNat (by omega) (by omega)

theorem SumWhole : stolonlaw02_SumWhole.Pure := by
  intro l a _ hl hb ha
  replace hb : ∀ z ∈ l, 0 ≤ z ∧ z < 256 := fun z hz => wf_u8 (hb z hz)
  replace ha := wf_i64 ha
  refine ⟨l.length + 1, ?_⟩
  unfold stolonlaw02_SumWhole.f
  rw [shown_some]
  simp only [Option.bind_some]
  by_cases c : (l.length : Int) > 3000
  · rw [if_pos c]
  rw [if_neg c, put_some hb (by omega) ha]
  simp only [Option.bind_some]
  by_cases c2 : a < 0 ∨ a % 2 ≠ 0 ∨ (l.length : Int) - 2 < a
  · rw [if_pos c2]
    simp only [List.length_nil]
    rw [if_neg (by omega), if_true, if_pos (by simp)]
    by_cases c3 : a < 0
    · rw [if_pos c3]
    · rw [if_neg c3]
      by_cases c4 : Int.tmod a 2 = 0
      · rw [if_pos c4, w64 (by omega) (by omega)]
        rw [tmod2] at c4
        simp
        omega
      · rw [if_neg c4]
  · rw [if_neg c2]
    simp only
    rw [if_true, if_pos (by rw [putOf_len])]
    obtain ⟨m, rfl⟩ := Int.eq_ofNat_of_zero_le (show 0 ≤ a by omega)
    rw [Int.toNat_natCast]
    refine sumwhole_loop l (putOf l m) m (by omega) (by omega) (putOf_len _ _) (fun i h0 h1 => putOf_get l m i (by omega) (by omega)) ?_ l.length _ 0 (by omega) (by omega) (by omega) (by omega)
    rw [whole_some (putOf_byte l m hb) (by rw [putOf_len]; omega), putOf_whole l m hb (by omega) (by omega)]
    rfl

end Go.Proofs.Ytacjimkkbimcaaa.Pure
