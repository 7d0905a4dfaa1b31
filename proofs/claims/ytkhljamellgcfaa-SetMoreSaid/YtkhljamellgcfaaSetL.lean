/-
  Sets, in plain lists.
-/
import Derived.Test.YtkhljamellgcfaaSetC
import Derived.Test.YtkhljamellgcfaaPSetx3
import Derived.Test.YtkhljamellgcfaaPSetx4
namespace Go.Proofs.Ytkhljamellgcfaa
open Go.RowKit Go.Proofs.YtkhljamellgcfaaW.PrintWords Go.Proofs.Ytkhljamellgcfaa.PSet

theorem wf_u32 {x : Int} (h : (Lit.int .u32 x).wf = true) : 0 ≤ x ∧ x < 4294967296 := by
  simp [Lit.wf, IntKind.min, IntKind.max, IntKind.bits, IntKind.signed] at h
  omega
theorem w64 {i : Int} (h0 : -9223372036854775808 ≤ i) (h1 : i ≤ 9223372036854775807) : wrap64 i = i := by unfold wrap64; omega
theorem rd_eq (l : List Int) (i : Int) : rd l i = l.getD i.toNat 0 := rfl

abbrev Rise (l : List Int) : Prop := l.Pairwise (· < ·)

theorem getD_eq (l : List Int) (i : Nat) (h : i < l.length) : l.getD i 0 = l[i] := by
  rw [List.getD_eq_getElem?_getD, List.getElem?_eq_getElem h]; rfl

theorem rise_iff (l : List Int) : (∀ i, 1 ≤ i → i < l.length → l.getD (i - 1) 0 < l.getD i 0) ↔ Rise l := by
  constructor
  · intro h
    rw [Rise, List.pairwise_iff_getElem]
    intro i j hi hj hij
    rw [← getD_eq l i hi, ← getD_eq l j hj]
    clear hi
    induction j with
    | zero => omega
    | succ j ih =>
      have h1 := h (j + 1) (by omega) hj
      rw [Nat.add_sub_cancel] at h1
      rcases Nat.lt_or_ge i j with h2 | h2
      · have := ih (by omega) h2; omega
      · obtain rfl : i = j := by omega
        exact h1
  · intro h i h1 h2
    rw [Rise, List.pairwise_iff_getElem] at h
    rw [getD_eq l i h2, getD_eq l (i - 1) (by omega)]
    exact h _ _ _ _ (by omega)

open Classical in
theorem right_loop (l : List Int) (hm : l.length ≤ 1000000000) : ∀ n k (j : Nat), 1 ≤ j → l.length ≤ j + n → n < k →
    stolonref06_Right.l0 k l j = some (decide (∀ i, j ≤ i → i < l.length → l.getD (i - 1) 0 < l.getD i 0)) := by
  intro n
  induction n with
  | zero =>
    intro k j h1 h2 hk
    obtain ⟨k, rfl⟩ : ∃ k', k = k' + 1 := ⟨k - 1, by omega⟩
    rw [stolonref06_Right.l0, if_neg (by omega)]
    congr 1
    symm
    rw [decide_eq_true_eq]
    intro i hi hl; omega
  | succ n ih =>
    intro k j h1 h2 hk
    obtain ⟨k, rfl⟩ : ∃ k', k = k' + 1 := ⟨k - 1, by omega⟩
    rw [stolonref06_Right.l0]
    by_cases hj : j < l.length
    · rw [if_pos (by omega), w64 (by omega) (by omega), if_pos (by omega), if_pos (by omega), if_pos (by omega)]
      rw [rd_eq, rd_eq, show ((j : Int) - 1).toNat = j - 1 from by omega, show ((j : Int)).toNat = j from by omega]
      split
      · rename_i hge
        congr 1
        symm
        rw [decide_eq_false_iff_not]
        intro h
        have := h j (Nat.le_refl _) hj
        omega
      · rename_i hge
        rw [w64 (by omega) (by omega), show (j : Int) + 1 = ((j + 1 : Nat) : Int) from by omega, ih k (j + 1) (by omega) (by omega) (by omega)]
        congr 1
        rw [decide_eq_decide]
        constructor
        · intro h i hi hl
          rcases Nat.lt_or_ge j i with h' | h'
          · exact h i (by omega) hl
          · obtain rfl : i = j := by omega
            omega
        · intro h i hi hl
          exact h i (by omega) hl
    · rw [if_neg (by omega)]
      congr 1
      symm
      rw [decide_eq_true_eq]
      intro i hi hl; omega

theorem right_some (l : List Int) (hm : l.length ≤ 1000000000) (k : Nat) (hk : l.length < k) : stolonref06_Right.f k l = some (decide (Rise l)) := by
  unfold stolonref06_Right.f
  have := right_loop l hm l.length k 1 (Nat.le_refl _) (by omega) hk
  rw [show ((1 : Nat) : Int) = 1 from rfl] at this
  rw [this]
  congr 1
  rw [decide_eq_decide]
  exact rise_iff l

theorem nan_some (a : Int) : api_Addr_48.f a = some false := by simp [api_Addr_48.f]
theorem less_some (a b : Int) : api_Addr_42.f a b = some (decide (a < b)) := by simp [api_Addr_42.f, nan_some]
theorem nan2_some (a : Int) : api_Addr_43.f a = some false := by simp [api_Addr_43.f]

theorem has_loop (l : List Int) (hm : l.length ≤ 1000000000) (x : Int) (hr : Rise l) : ∀ n k (lo hi : Nat), lo ≤ hi → hi ≤ l.length → hi ≤ lo + n → n < k →
    (∀ i, i < lo → l.getD i 0 < x) → (∀ i, hi ≤ i → i < l.length → x ≤ l.getD i 0) →
    ∃ p, api_Addr_36.l0 k l x l.length lo hi = some (p, decide (x ∈ l)) := by
  intro n
  have fin : ∀ k (lo : Nat), lo ≤ l.length → (∀ i, i < lo → l.getD i 0 < x) → (∀ i, lo ≤ i → i < l.length → x ≤ l.getD i 0) → ∃ p, api_Addr_36.l0 (k + 1) l x l.length lo lo = some (p, decide (x ∈ l)) := by
    intro k lo h1 h2 h3
    rw [api_Addr_36.l0, if_neg (by omega)]
    by_cases h4 : lo < l.length
    · rw [if_pos (by omega), if_pos (by omega), if_pos (by omega)]
      rw [rd_eq, show ((lo : Int)).toNat = lo from by omega]
      split
      · rename_i he
        refine ⟨lo, ?_⟩
        congr 2
        symm
        rw [decide_eq_true_eq, ← he, getD_eq l lo h4]
        exact List.getElem_mem _
      · rename_i he
        rw [nan2_some]
        refine ⟨lo, ?_⟩
        simp only [Option.bind_some, Bool.false_eq_true, if_false]
        congr 2
        symm
        rw [decide_eq_false_iff_not]
        intro hx
        obtain ⟨i, hi, e⟩ := List.mem_iff_getElem.1 hx
        rw [← getD_eq l i hi] at e
        rcases Nat.lt_trichotomy i lo with h | h | h
        · have := h2 i h; omega
        · subst h; exact he e
        · have h5 := h3 lo (Nat.le_refl _) h4
          have h6 := (List.pairwise_iff_getElem.1 hr) lo i h4 hi h
          rw [← getD_eq l lo h4, ← getD_eq l i hi] at h6
          omega
    · rw [if_neg (by omega)]
      refine ⟨lo, ?_⟩
      congr 2
      symm
      rw [decide_eq_false_iff_not]
      intro hx
      obtain ⟨i, hi, e⟩ := List.mem_iff_getElem.1 hx
      rw [← getD_eq l i hi] at e
      have := h2 i (by omega)
      omega
  induction n with
  | zero =>
    intro k lo hi h1 h2 h3 hk h4 h5
    obtain ⟨k, rfl⟩ : ∃ k', k = k' + 1 := ⟨k - 1, by omega⟩
    obtain rfl : lo = hi := by omega
    exact fin k lo h2 h4 h5
  | succ n ih =>
    intro k lo hi h1 h2 h3 hk h4 h5
    obtain ⟨k, rfl⟩ : ∃ k', k = k' + 1 := ⟨k - 1, by omega⟩
    by_cases hlt : lo < hi
    · rw [api_Addr_36.l0, if_pos (by omega)]
      have e0 : (wrap64 ((IntKind.u64.wrap (wrap64 ((lo : Int) + (hi : Int)))) / 2)) = (((lo + hi) / 2 : Nat) : Int) := by
        rw [w64 (i := (lo : Int) + hi) (by omega) (by omega), IntKind.wrap_u64, w64 (by omega) (by omega)]
        omega
      rw [e0, if_pos (by omega), if_pos (by omega), less_some, rd_eq]
      simp only [Option.bind_some, Int.toNat_natCast, decide_eq_true_eq]
      have mono : ∀ i j, i < j → j < l.length → l.getD i 0 < l.getD j 0 := by
        intro i j hij hj
        have h6 := (List.pairwise_iff_getElem.1 hr) i j (by omega) hj hij
        rwa [← getD_eq l i (by omega), ← getD_eq l j hj] at h6
      split
      · rename_i hx
        rw [w64 (by omega) (by omega), show (((lo + hi) / 2 : Nat) : Int) + 1 = (((lo + hi) / 2 + 1 : Nat) : Int) from by omega]
        refine ih k _ _ (by omega) h2 (by omega) (by omega) ?_ h5
        intro i hi'
        rcases Nat.lt_or_ge i ((lo + hi) / 2) with h | h
        · have := mono i _ h (by omega); omega
        · obtain rfl : i = (lo + hi) / 2 := by omega
          exact hx
      · rename_i hx
        refine ih k _ _ (by omega) (by omega) (by omega) (by omega) h4 ?_
        intro i hi' hl
        rcases Nat.lt_or_ge ((lo + hi) / 2) i with h | h
        · have := mono _ i h hl; omega
        · obtain rfl : i = (lo + hi) / 2 := by omega
          omega
    · obtain rfl : lo = hi := by omega
      exact fin k lo h2 h4 h5

theorem has_some (l : List Int) (hm : l.length ≤ 1000000000) (x : Int) (hr : Rise l) (k : Nat) (hk : l.length < k) : set_Has.f k l x = some (decide (x ∈ l)) := by
  unfold set_Has.f api_Addr_36.f
  obtain ⟨p, hp⟩ := has_loop l hm x hr l.length k 0 l.length (by omega) (Nat.le_refl _) (by omega) hk (by intro i h; omega) (by intro i h h'; omega)
  rw [show ((0 : Nat) : Int) = 0 from rfl] at hp
  rw [hp]
  rfl
end Go.Proofs.Ytkhljamellgcfaa
