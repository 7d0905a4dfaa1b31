/- Texts of a claim. -/
import Derived.Test.YtkhljamellgcfaaPSetx0
import Derived.Test.YtkhljamellgcfaaPSetx1
import Derived.Test.YtkhljamellgcfaaPSetx2
import Derived.Test.YtkhljamellgcfaaPSetx3
import Derived.Test.YtkhljamellgcfaaSetS
import Derived.Test.YtkhljamellgcfaaPSetx4
import Derived.Test.YtkhljamellgcfaaSoB
import Derived.Test.YtkhljamellgcfaaPSetMt
-- written by a program of this session (hprint.py), over the kit's printer
namespace Go.Proofs.Ytkhljamellgcfaa.PSet
open Go.RowKit Go.Proofs.YtkhljamellgcfaaW.PrintWords Go.Proofs.YtkhljamellgcfaaW.PrintLast Go.Proofs.YtkhljamellgcfaaW.PrintMore
attribute [local go_sem] max2_int min2_int max_two min_two max_three min_three max_four min_four   -- for this text's walks alone
set_option linter.unusedVariables false
set_option linter.unusedSimpArgs false

-- NOT PRINTED: function 7 (stolonlaw06_SetMore)

end Go.Proofs.Ytkhljamellgcfaa.PSet
/-
  Filters, in plain lists.
-/
namespace Go.Proofs.Ytkhljamellgcfaa
open Go.RowKit Go.Proofs.YtkhljamellgcfaaW.PrintWords Go.Proofs.Ytkhljamellgcfaa.PSet

end Go.Proofs.Ytkhljamellgcfaa
-- written by a program of this session (hprint.py), over the kit's printer
namespace Go.Proofs.Ytkhljamellgcfaa.PSet
open Go.RowKit Go.Proofs.YtkhljamellgcfaaW.PrintWords Go.Proofs.YtkhljamellgcfaaW.PrintLast Go.Proofs.YtkhljamellgcfaaW.PrintMore
attribute [local go_sem] max2_int min2_int max_two min_two max_three min_three max_four min_four   -- for this text's walks alone
set_option linter.unusedVariables false
set_option linter.unusedSimpArgs false

end Go.Proofs.Ytkhljamellgcfaa.PSet
/-
  The document's answer for sets, in plain lists.
-/
namespace Go.Proofs.Ytkhljamellgcfaa
open Go.RowKit Go.Proofs.YtkhljamellgcfaaW.PrintWords Go.Proofs.Ytkhljamellgcfaa.PSet

theorem step64 (j : Nat) (h : j ≤ 1000000000000000) : wrap64 ((j : Int) + 1) = ((j + 1 : Nat) : Int) := by rw [w64 (by omega) (by omega)]; omega

theorem rhas_loop (l : List Int) (x : Int) (hm : l.length ≤ 1000000000) : ∀ n k (j : Nat), l.length ≤ j + n → n < k → stolonref06_Has.l0 k l x j = some (decide (x ∈ l.drop j)) := by
  intro n
  induction n with
  | zero =>
    intro k j h2 hk
    obtain ⟨k, rfl⟩ : ∃ k', k = k' + 1 := ⟨k - 1, by omega⟩
    rw [stolonref06_Has.l0, if_neg (by omega), List.drop_of_length_le (by omega)]
    simp
  | succ n ih =>
    intro k j h2 hk
    obtain ⟨k, rfl⟩ : ∃ k', k = k' + 1 := ⟨k - 1, by omega⟩
    rw [stolonref06_Has.l0]
    by_cases hj : j < l.length
    · rw [if_pos (by omega), if_pos (by omega), rd_eq, Int.toNat_natCast, getD_eq l j hj, step64 j (by omega), ih k (j + 1) (by omega) (by omega), List.drop_eq_getElem_cons hj]
      split
      · rename_i h; rw [h]; simp
      · rename_i h
        congr 1
        rw [decide_eq_decide, List.mem_cons]
        exact ⟨.inr, fun h' => h'.resolve_left (fun e => h e.symm)⟩
    · rw [if_neg (by omega), List.drop_of_length_le (by omega)]
      simp
theorem rhas_some (l : List Int) (x : Int) (hm : l.length ≤ 1000000000) (k : Nat) (hk : l.length < k) : stolonref06_Has.f k l x = some (decide (x ∈ l)) := by
  unfold stolonref06_Has.f
  exact rhas_loop l x hm l.length k 0 (by omega) hk

theorem rinter_loop (a b : List Int) (ha : a.length ≤ 1000000) (hb : b.length ≤ 1000000) : ∀ n k (j : Nat) (out : List Int), a.length = j + n → out.length ≤ j → n + b.length < k →
    stolonref06_Inter.l0 k a b out j = some (out ++ (a.drop j).filter (fun x => decide (x ∈ b))) := by
  intro n
  induction n with
  | zero =>
    intro k j out h2 ho hk
    obtain ⟨k, rfl⟩ : ∃ k', k = k' + 1 := ⟨k - 1, by omega⟩
    rw [stolonref06_Inter.l0, if_neg (by omega), List.drop_of_length_le (by omega)]
    simp
  | succ n ih =>
    intro k j out h2 ho hk
    obtain ⟨k, rfl⟩ : ∃ k', k = k' + 1 := ⟨k - 1, by omega⟩
    have hj : j < a.length := by omega
    have hn : out.length < 35184372088832 := by omega
    rw [stolonref06_Inter.l0, if_pos (by omega), if_pos (by omega), rd_eq, Int.toNat_natCast, getD_eq a j hj, step64 j (by omega), rhas_some b _ (by omega) k (by omega), Option.bind_some, List.drop_eq_getElem_cons hj]
    by_cases h : a[j] ∈ b
    · rw [decide_eq_true h, if_pos rfl, if_pos hn, ih k (j + 1) _ (by omega) (by simp; omega) (by omega), List.filter_cons_of_pos (by simpa using h), List.append_assoc]; rfl
    · rw [decide_eq_false h, if_neg (by decide), ih k (j + 1) _ (by omega) (by omega) (by omega), List.filter_cons_of_neg (by simpa using h)]
theorem rinter_some (a b : List Int) (ha : a.length ≤ 1000000) (hb : b.length ≤ 1000000) (ra : Rise a) (rb : Rise b) (k : Nat) (hk : a.length + b.length < k) : stolonref06_Inter.f k a b = some (int a b) := by
  unfold stolonref06_Inter.f
  have := rinter_loop a b ha hb a.length k 0 [] (by omega) (by simp) hk
  rw [show ((0 : Nat) : Int) = 0 from rfl] at this
  rw [this, List.nil_append, List.drop_zero]
  congr 1
  refine rise_ext (ra.filter _) (int_rise ra rb) fun x => ?_
  rw [int_mem ra rb, List.mem_filter, decide_eq_true_eq]

theorem rminus_loop (a b : List Int) (ha : a.length ≤ 1000000) (hb : b.length ≤ 1000000) : ∀ n k (j : Nat) (out : List Int), a.length = j + n → out.length ≤ j → n + b.length < k →
    stolonref06_Minus.l0 k a b out j = some (out ++ (a.drop j).filter (fun x => !decide (x ∈ b))) := by
  intro n
  induction n with
  | zero =>
    intro k j out h2 ho hk
    obtain ⟨k, rfl⟩ : ∃ k', k = k' + 1 := ⟨k - 1, by omega⟩
    rw [stolonref06_Minus.l0, if_neg (by omega), List.drop_of_length_le (by omega)]
    simp
  | succ n ih =>
    intro k j out h2 ho hk
    obtain ⟨k, rfl⟩ : ∃ k', k = k' + 1 := ⟨k - 1, by omega⟩
    have hj : j < a.length := by omega
    have hn : out.length < 35184372088832 := by omega
    rw [stolonref06_Minus.l0, if_pos (by omega), if_pos (by omega), rd_eq, Int.toNat_natCast, getD_eq a j hj, step64 j (by omega), rhas_some b _ (by omega) k (by omega), Option.bind_some, List.drop_eq_getElem_cons hj]
    by_cases h : a[j] ∈ b
    · rw [decide_eq_true h, if_pos rfl, ih k (j + 1) _ (by omega) (by omega) (by omega), List.filter_cons_of_neg (by simpa using h)]
    · rw [decide_eq_false h, if_neg (by decide), if_pos hn, ih k (j + 1) _ (by omega) (by simp; omega) (by omega), List.filter_cons_of_pos (by simpa using h), List.append_assoc]; rfl
theorem rminus_some (a b : List Int) (ha : a.length ≤ 1000000) (hb : b.length ≤ 1000000) (ra : Rise a) (rb : Rise b) (k : Nat) (hk : a.length + b.length < k) : stolonref06_Minus.f k a b = some (mns a b) := by
  unfold stolonref06_Minus.f
  have := rminus_loop a b ha hb a.length k 0 [] (by omega) (by simp) hk
  rw [show ((0 : Nat) : Int) = 0 from rfl] at this
  rw [this, List.nil_append, List.drop_zero]
  congr 1
  refine rise_ext (ra.filter _) (mns_rise ra rb) fun x => ?_
  rw [mns_mem ra rb, List.mem_filter, Bool.not_eq_true', decide_eq_false_iff_not]

/-- One more in its place. -/
def putIn (out : List Int) (p : Nat) (x : Int) : List Int := out.take p ++ [x] ++ out.drop p
theorem putIn_mem (out : List Int) (p : Nat) (x y : Int) : y ∈ putIn out p x ↔ y = x ∨ y ∈ out := by
  unfold putIn
  rw [List.append_assoc, List.mem_append, List.mem_append, List.mem_singleton]
  conv => rhs; rw [← List.take_append_drop p out, List.mem_append]
  constructor
  · rintro (h | h | h)
    · exact .inr (.inl h)
    · exact .inl h
    · exact .inr (.inr h)
  · rintro (h | h | h)
    · exact .inr (.inl h)
    · exact .inl h
    · exact .inr (.inr h)
theorem putIn_rise {out : List Int} {p : Nat} {x : Int} (hr : Rise out) (h1 : ∀ i (_ : i < out.length), i < p → out[i] < x) (h2 : ∀ i (_ : i < out.length), p ≤ i → x < out[i]) : Rise (putIn out p x) := by
  unfold putIn
  have t1 : ∀ y ∈ out.take p, y < x := by
    intro y hy
    obtain ⟨i, hi, rfl⟩ := List.mem_iff_getElem.1 hy
    rw [List.getElem_take]
    simp at hi
    exact h1 i (by omega) (by omega)
  have t2 : ∀ y ∈ out.drop p, x < y := by
    intro y hy
    obtain ⟨i, hi, rfl⟩ := List.mem_iff_getElem.1 hy
    rw [List.getElem_drop]
    simp at hi
    exact h2 (p + i) (by omega) (by omega)
  rw [Rise, List.append_assoc, List.pairwise_append]
  refine ⟨hr.sublist (List.take_sublist _ _), List.pairwise_cons.2 ⟨t2, hr.sublist (List.drop_sublist _ _)⟩, fun a ha b hb => ?_⟩
  rcases List.mem_cons.1 hb with rfl | hb
  · exact t1 a ha
  · have := t1 a ha; have := t2 b hb; omega
theorem putIn_len (out : List Int) (p : Nat) (x : Int) (hp : p ≤ out.length) : (putIn out p x).length = out.length + 1 := by unfold putIn; simp; omega

set_option maxRecDepth 100000 in
theorem rmake_put (l out : List Int) (i : Nat) (hi : i < l.length) (hl : l.length ≤ 1000000) (ho : out.length ≤ 1000000) (hr : Rise out) : ∀ n k (j : Nat), out.length = j + n → n < k → (∀ q (_ : q < out.length), q < j → out[q] < l[i]) →
    ∃ k' p, k ≤ k' + n + 1 ∧ p ≤ out.length ∧ stolonref06_Make.l1 k l out i (out.take j) j = stolonref06_Make.l0 k' l (putIn out p l[i]) ((i + 1 : Nat) : Int) ∧
      (∀ q (_ : q < out.length), q < p → out[q] < l[i]) ∧ (∀ q (_ : q < out.length), p ≤ q → l[i] ≤ out[q]) := by
  intro n
  have hx : rd l (i : Int) = l[i] := by rw [rd_eq, Int.toNat_natCast, getD_eq l i hi]
  induction n with
  | zero =>
    intro k j h2 hk hlt
    obtain ⟨k, rfl⟩ : ∃ k', k = k' + 1 := ⟨k - 1, by omega⟩
    refine ⟨k, out.length, by omega, Nat.le_refl _, ?_, fun q hq _ => hlt q hq (by omega), fun q hq h => by omega⟩
    have hn : (out.take j).length < 35184372088832 := by simp; omega
    have hn2 : (out.take j ++ [l[i]]).length + (out.drop j).length < 35184372088832 := by simp; omega
    rw [stolonref06_Make.l1, if_neg (by omega), if_pos (by omega), if_pos (by omega), if_pos hn, Option.bind_some, if_pos (by omega), if_pos (by omega), Option.bind_some, Int.toNat_natCast, hx, if_pos hn2, step64 i (by omega)]
    rw [show j = out.length from by omega]
    rfl
  | succ n ih =>
    intro k j h2 hk hlt
    obtain ⟨k, rfl⟩ : ∃ k', k = k' + 1 := ⟨k - 1, by omega⟩
    have hj : j < out.length := by omega
    have hn : (out.take j).length < 35184372088832 := by simp; omega
    have hn2 : (out.take j ++ [l[i]]).length + (out.drop j).length < 35184372088832 := by simp; omega
    have hy : rd out (j : Int) = out[j] := by rw [rd_eq, Int.toNat_natCast, getD_eq out j hj]
    rw [stolonref06_Make.l1, if_pos (by omega), if_pos (by omega), if_pos (by omega), if_pos (by omega), hx, hy]
    by_cases c : out[j] < l[i]
    · rw [if_pos c, if_pos hn, step64 j (by omega), ← List.take_succ_eq_append_getElem hj]
      obtain ⟨k', p, h3, h4, h5, h6, h7⟩ := ih k (j + 1) (by omega) (by omega) (fun q hq h => by
        rcases Nat.lt_or_ge q j with h' | h'
        · exact hlt q hq h'
        · obtain rfl : q = j := by omega
          exact c)
      exact ⟨k', p, by omega, h4, h5, h6, h7⟩
    · refine ⟨k, j, by omega, by omega, ?_, hlt, fun q hq h => ?_⟩
      · rw [if_neg c, if_pos hn, Option.bind_some, if_pos (by omega), Option.bind_some, Int.toNat_natCast, if_pos hn2, step64 i (by omega)]
        rfl
      · rcases Nat.lt_or_ge j q with h' | h'
        · have := (List.pairwise_iff_getElem.1 hr) j q hj hq h'
          omega
        · obtain rfl : q = j := by omega
          omega

/-- So many rounds are enough. -/
def needM : Nat → Nat
  | 0 => 200001
  | n + 1 => needM n + 200001
theorem needM_le (n : Nat) : needM n ≤ 200001 + n * 200001 := by
  induction n with
  | zero => rw [needM]; omega
  | succ n ih => rw [needM]; omega
theorem needM_pos (n : Nat) : 200001 ≤ needM n := by
  induction n with
  | zero => rw [needM]; omega
  | succ n ih => rw [needM]; omega
theorem rmake_loop (l : List Int) (hl : l.length ≤ 100000) : ∀ n k (i : Nat) (out : List Int), l.length = i + n → out.length ≤ i → Rise out → needM n ≤ k →
    ∃ r, stolonref06_Make.l0 k l out i = some r ∧ Rise r ∧ (∀ x, x ∈ r ↔ x ∈ out ∨ x ∈ l.drop i) ∧ r.length ≤ out.length + n := by
  intro n
  induction n with
  | zero =>
    intro k i out h2 ho hr hk
    rw [needM] at hk
    obtain ⟨k, rfl⟩ : ∃ k', k = k' + 1 := ⟨k - 1, by omega⟩
    rw [stolonref06_Make.l0, if_neg (by omega), List.drop_of_length_le (by omega)]
    exact ⟨out, rfl, hr, fun x => by simp, by omega⟩
  | succ n ih =>
    intro k i out h2 ho hr hk
    rw [needM] at hk
    have hnp := needM_pos n
    obtain ⟨k, rfl⟩ : ∃ k', k = k' + 1 := ⟨k - 1, by omega⟩
    have hi : i < l.length := by omega
    have hx : rd l (i : Int) = l[i] := by rw [rd_eq, Int.toNat_natCast, getD_eq l i hi]
    rw [stolonref06_Make.l0, if_pos (by omega), if_pos (by omega), hx, rhas_some out _ (by omega) k (by omega), Option.bind_some, List.drop_eq_getElem_cons hi]
    by_cases c : l[i] ∈ out
    · rw [decide_eq_true c, if_pos rfl, step64 i (by omega)]
      obtain ⟨r, h3, h4, h5, h6⟩ := ih k (i + 1) out (by omega) (by omega) hr (by omega)
      refine ⟨r, h3, h4, fun x => ?_, by omega⟩
      rw [h5, List.mem_cons]
      constructor
      · rintro (h | h)
        · exact .inl h
        · exact .inr (.inr h)
      · rintro (h | h | h)
        · exact .inl h
        · subst h; exact .inl c
        · exact .inr h
    · rw [decide_eq_false c, if_neg (by decide)]
      obtain ⟨k', p, h3, h4, h5, h6, h7⟩ := rmake_put l out i hi (by omega) (by omega) hr out.length k 0 (by omega) (by omega) (fun q hq h => by omega)
      rw [List.take_zero, show ((0 : Nat) : Int) = 0 from rfl] at h5
      rw [h5]
      have hpr : Rise (putIn out p l[i]) := putIn_rise hr h6 (fun q hq h => by
        have h8 := h7 q hq h
        have : l[i] ≠ out[q] := fun e => c (by rw [e]; exact List.getElem_mem _)
        omega)
      have hpl := putIn_len out p l[i] h4
      obtain ⟨r, h8, h9, h10, h11⟩ := ih k' (i + 1) (putIn out p l[i]) (by omega) (by omega) hpr (by omega)
      refine ⟨r, h8, h9, fun x => ?_, by omega⟩
      rw [h10, putIn_mem, List.mem_cons]
      constructor
      · rintro ((h | h) | h)
        · exact .inr (.inl h)
        · exact .inl h
        · exact .inr (.inr h)
      · rintro (h | h | h)
        · exact .inl (.inr h)
        · exact .inl (.inl h)
        · exact .inr h

theorem runion_some (a b : List Int) (h : a.length + b.length ≤ 100000) (ra : Rise a) (rb : Rise b) (k : Nat) (hk : 30000000000 ≤ k) : stolonref06_Union.f k a b = some (uni a b) := by
  unfold stolonref06_Union.f stolonref06_Make.f
  have hn : ([] : List Int).length + a.length < 35184372088832 := by simp; omega
  have hn2 : ([] ++ a).length + b.length < 35184372088832 := by simp; omega
  rw [Option.bind_some, if_pos hn, Option.bind_some, if_pos hn2]
  obtain ⟨r, h3, h4, h5, h6⟩ := rmake_loop ([] ++ a ++ b) (by simp; omega) (a.length + b.length) k 0 [] (by simp) (by simp) List.Pairwise.nil (by have := needM_le (a.length + b.length); omega)
  rw [show ((0 : Nat) : Int) = 0 from rfl] at h3
  rw [h3, Option.bind_some]
  congr 1
  refine rise_ext h4 (uni_rise ra rb) fun x => ?_
  rw [h5, uni_mem ra rb]
  simp

end Go.Proofs.Ytkhljamellgcfaa
/- Sets as the document says. -/
namespace Go.Proofs.Ytkhljamellgcfaa.Pure
open Go.RowKit Go.Proofs.Ytkhljamellgcfaa.PSet Go.Proofs.YtkhljamellgcfaaW.PrintWords Go.Proofs.YtkhljamellgcfaaW.PrintLast
open Go.Proofs.Ytkhljamellgcfaa

theorem make_some' {l : List Int} (h : l.length < 65536) : set_Make.f l = some (mk l) := by rw [set_Make.f, if_pos h]
theorem rmake_some (l : List Int) (h : l.length ≤ 100000) (k : Nat) (hk : 30000000000 ≤ k) : stolonref06_Make.f k l = some (mk l) := by
  unfold stolonref06_Make.f
  obtain ⟨r, h3, h4, h5, h6⟩ := rmake_loop l h l.length k 0 [] (by simp) (by simp) List.Pairwise.nil (by have := needM_le l.length; omega)
  rw [show ((0 : Nat) : Int) = 0 from rfl] at h3
  rw [h3]
  congr 1
  refine rise_ext h4 (mk_rise l) fun x => ?_
  rw [h5, mk_mem]
  simp
/-- A row is a set from place j on, the one ahead of it reckoned in. -/
def riseFrom (l : List Int) (j : Nat) : Prop := ∀ i, j ≤ i → 0 < i → i < l.length → l.getD (i - 1) 0 < l.getD i 0
theorem riseFrom_rise (l : List Int) : riseFrom l 0 ↔ Rise l := by
  rw [← rise_iff]
  exact ⟨fun h i hi hl => h i (Nat.zero_le _) (by omega) hl, fun h i _ hi hl => h i (by omega) hl⟩
open Classical in
theorem isright_loop (l : List Int) (hm : l.length ≤ 1000000) : ∀ n k (j : Nat), l.length = j + n → n < k →
    set_Right.l0 k l (l.length : Int) (j : Int) = some (decide (riseFrom l j)) := by
  intro n
  induction n with
  | zero =>
    intro k j h2 hk
    obtain ⟨k, rfl⟩ : ∃ k', k = k' + 1 := ⟨k - 1, by omega⟩
    rw [set_Right.l0, if_neg (by omega)]
    congr 1
    exact (decide_eq_true (fun i h1 _ h3 => by omega)).symm
  | succ n ih =>
    intro k j h2 hk
    obtain ⟨k, rfl⟩ : ∃ k', k = k' + 1 := ⟨k - 1, by omega⟩
    have hj : j < l.length := by omega
    rw [set_Right.l0, if_pos (by omega), show wrap64 ((j : Int) + 1) = ((j + 1 : Nat) : Int) from by rw [w64 (by omega) (by omega)]; omega]
    by_cases h0 : 0 < j
    · have e1 : wrap64 ((j : Int) - 1) = ((j - 1 : Nat) : Int) := by rw [w64 (by omega) (by omega)]; omega
      rw [if_pos (by omega), e1, if_pos (by omega), if_pos (by omega), if_pos (by omega), if_pos (by omega), rd_eq, rd_eq, Int.toNat_natCast, Int.toNat_natCast]
      by_cases hx : l.getD (j - 1) 0 ≥ l.getD j 0
      · rw [if_pos hx]
        congr 1
        exact (decide_eq_false (fun h => by have := h j (Nat.le_refl _) h0 hj; omega)).symm
      · rw [if_neg hx, ih k (j + 1) (by omega) (by omega)]
        congr 1
        rw [decide_eq_decide]
        refine ⟨fun h i h1 h3 h4 => ?_, fun h i h1 h3 h4 => h i (by omega) h3 h4⟩
        by_cases e : i = j
        · subst e; omega
        · exact h i (by omega) h3 h4
    · rw [if_neg (by omega), ih k (j + 1) (by omega) (by omega)]
      congr 1
      rw [decide_eq_decide]
      refine ⟨fun h i h1 h3 h4 => h i (by omega) h3 h4, fun h i h1 h3 h4 => h i (by omega) h3 h4⟩
theorem isright_some (l : List Int) (hm : l.length ≤ 1000000) (k : Nat) (hk : l.length < k) : set_Right.f k l = some (decide (Rise l)) := by
  unfold set_Right.f
  have := isright_loop l hm l.length k 0 (by omega) hk
  rw [show ((0 : Nat) : Int) = 0 from rfl] at this
  rw [this]
  congr 1
  rw [decide_eq_decide]
  exact riseFrom_rise l
theorem SetTells : stolonlaw06_SetTells.Pure := by
  intro l0 l1 a2 h1 h2 h3 h4 h5 h6 h7
  clear h1 h3 h4 h6 h7
  obtain ⟨K, hK⟩ : ∃ K : Nat, 30000000000 ≤ K := ⟨30000000000, Nat.le_refl _⟩
  refine ⟨K + 1 + 1, ?_⟩
  have e0 : wrap64 ((l0.length : Int) + (l1.length : Int)) = (l0.length : Int) + (l1.length : Int) := w64 (by omega) (by omega)
  unfold stolonlaw06_SetTells.f stolonlaw06_few.f
  rw [shown_big _ (by omega), e0]
  simp only [Option.bind_some, decide_eq_true_eq]
  by_cases hf : (l0.length : Int) + (l1.length : Int) ≤ 200
  · rw [if_pos hf]
    have b0 : l0.length ≤ 200 := by omega
    have b1 : l1.length ≤ 200 := by omega
    have m0 := mk_len l0
    clear h2 h5 e0 hf
    rw [isright_some l0 (by omega) _ (by omega), right_some l0 (by omega) _ (by omega), Option.bind_some, Option.bind_some, if_neg (by simp)]
    rw [make_some' (by omega), Option.bind_some, rmake_some l0 (by omega) _ (by omega), Option.bind_some, rows_some _ _ (by omega) _ (by omega), decide_eq_true rfl, Option.bind_some, if_pos rfl]
    rw [same_some _ _ (by omega) _ (by omega), Option.bind_some, rows_some _ _ (by omega) _ (by omega), Option.bind_some]
    rw [show (decide (l0 = l1) != decide (l0 = l1)) = false from bne_self_eq_false _]
    rw [stolonlaw06_SetTells.j0, if_neg (by decide), right_some l0 (by omega) _ (by omega), Option.bind_some]
    by_cases r0 : Rise l0
    · rw [decide_eq_true r0, if_pos rfl, right_some l1 (by omega) _ (by omega), Option.bind_some]
      by_cases r1 : Rise l1
      · have u1 := uni_len l0 l1
        have u2 := int_len l0 l1
        have u3 := mns_len l0 l1
        rw [decide_eq_true r1, Bool.not_true, stolonlaw06_SetTells.j1, if_neg (by decide), if_pos rfl]
        rw [has_some _ (by omega) _ r0 _ (by omega), Option.bind_some, rhas_some _ _ (by omega) _ (by omega), Option.bind_some, if_pos (by simp)]
        rw [uni_some (by omega) (by omega), Option.bind_some, runion_some _ _ (by omega) r0 r1 _ (by omega), Option.bind_some, rows_some _ _ (by omega) _ (by omega), decide_eq_true rfl, Option.bind_some, if_pos rfl]
        rw [int_some (by omega) (by omega), Option.bind_some, rinter_some _ _ (by omega) (by omega) r0 r1 _ (by omega), Option.bind_some, rows_some _ _ (by omega) _ (by omega), decide_eq_true rfl, Option.bind_some, if_pos rfl]
        rw [mns_some (by omega) (by omega), Option.bind_some, rminus_some _ _ (by omega) (by omega) r0 r1 _ (by omega), Option.bind_some, rows_some _ _ (by omega) _ (by omega), decide_eq_true rfl, Option.bind_some]
      · rw [decide_eq_false r1, Bool.not_false, stolonlaw06_SetTells.j1, if_pos rfl]
    · rw [decide_eq_false r0, if_neg (by decide), stolonlaw06_SetTells.j1, if_pos rfl]
  · rw [if_neg hf]
end Go.Proofs.Ytkhljamellgcfaa.Pure
