/-
  The document's answer for sets, in plain lists.
-/
import Derived.Test.YtkhljamellgcfaaSetW
import Derived.Test.YtkhljamellgcfaaPSetx6
namespace Go.Proofs.Ytkhljamellgcfaa
open Go.RowKit Go.Proofs.YtkhljamellgcfaaW.PrintWords Go.Proofs.Ytkhljamellgcfaa.PSet

theorem step64 (j : Nat) (h : j ≤ 1000000000000000) : wrap64 ((j : Int) + 1) = ((j + 1 : Nat) : Int) := by rw [w64 (by omega) (by omega)]; omega

theorem rhas_loop (l : List Int) (x : Int) (hm : l.length ≤ 1000000000) : ∀ n k (j : Nat), l.length ≤ j + n → n < k → stolonref06_Has.l0 k l x j = some (decide (x ∈ l.drop j)) := by
  intro n
  induction n with
  | zero =>
    intro k j h2 hk
    obtain ⟨k, rfl⟩ : ∃ k', k = k' + 1 := ⟨k - 1, by omega⟩
    rw [stolonref06_Has.l0, if_neg (by omega), List.drop_of_length_le (by omega)]
    simp
  | succ n ih =>
    intro k j h2 hk
    obtain ⟨k, rfl⟩ : ∃ k', k = k' + 1 := ⟨k - 1, by omega⟩
    rw [stolonref06_Has.l0]
    by_cases hj : j < l.length
    · rw [if_pos (by omega), if_pos (by omega), rd_eq, Int.toNat_natCast, getD_eq l j hj, step64 j (by omega), ih k (j + 1) (by omega) (by omega), List.drop_eq_getElem_cons hj]
      split
      · rename_i h; rw [h]; simp
      · rename_i h
        congr 1
        rw [decide_eq_decide, List.mem_cons]
        exact ⟨.inr, fun h' => h'.resolve_left (fun e => h e.symm)⟩
    · rw [if_neg (by omega), List.drop_of_length_le (by omega)]
      simp
theorem rhas_some (l : List Int) (x : Int) (hm : l.length ≤ 1000000000) (k : Nat) (hk : l.length < k) : stolonref06_Has.f k l x = some (decide (x ∈ l)) := by
  unfold stolonref06_Has.f
  exact rhas_loop l x hm l.length k 0 (by omega) hk

theorem rinter_loop (a b : List Int) (ha : a.length ≤ 1000000) (hb : b.length ≤ 1000000) : ∀ n k (j : Nat) (out : List Int), a.length = j + n → out.length ≤ j → n + b.length < k →
    stolonref06_Inter.l0 k a b out j = some (out ++ (a.drop j).filter (fun x => decide (x ∈ b))) := by
  intro n
  induction n with
  | zero =>
    intro k j out h2 ho hk
    obtain ⟨k, rfl⟩ : ∃ k', k = k' + 1 := ⟨k - 1, by omega⟩
    rw [stolonref06_Inter.l0, if_neg (by omega), List.drop_of_length_le (by omega)]
    simp
  | succ n ih =>
    intro k j out h2 ho hk
    obtain ⟨k, rfl⟩ : ∃ k', k = k' + 1 := ⟨k - 1, by omega⟩
    have hj : j < a.length := by omega
    have hn : out.length < 35184372088832 := by omega
    rw [stolonref06_Inter.l0, if_pos (by omega), if_pos (by omega), rd_eq, Int.toNat_natCast, getD_eq a j hj, step64 j (by omega), rhas_some b _ (by omega) k (by omega), Option.bind_some, List.drop_eq_getElem_cons hj]
    by_cases h : a[j] ∈ b
    · rw [decide_eq_true h, if_pos rfl, if_pos hn, ih k (j + 1) _ (by omega) (by simp; omega) (by omega), List.filter_cons_of_pos (by simpa using h), List.append_assoc]; rfl
    · rw [decide_eq_false h, if_neg (by decide), ih k (j + 1) _ (by omega) (by omega) (by omega), List.filter_cons_of_neg (by simpa using h)]
theorem rinter_some (a b : List Int) (ha : a.length ≤ 1000000) (hb : b.length ≤ 1000000) (ra : Rise a) (rb : Rise b) (k : Nat) (hk : a.length + b.length < k) : stolonref06_Inter.f k a b = some (int a b) := by
  unfold stolonref06_Inter.f
  have := rinter_loop a b ha hb a.length k 0 [] (by omega) (by simp) hk
  rw [show ((0 : Nat) : Int) = 0 from rfl] at this
  rw [this, List.nil_append, List.drop_zero]
  congr 1
  refine rise_ext (ra.filter _) (int_rise ra rb) fun x => ?_
  rw [int_mem ra rb, List.mem_filter, decide_eq_true_eq]

theorem rminus_loop (a b : List Int) (ha : a.length ≤ 1000000) (hb : b.length ≤ 1000000) : ∀ n k (j : Nat) (out : List Int), a.length = j + n → out.length ≤ j → n + b.length < k →
    stolonref06_Minus.l0 k a b out j = some (out ++ (a.drop j).filter (fun x => !decide (x ∈ b))) := by
  intro n
  induction n with
  | zero =>
    intro k j out h2 ho hk
    obtain ⟨k, rfl⟩ : ∃ k', k = k' + 1 := ⟨k - 1, by omega⟩
    rw [stolonref06_Minus.l0, if_neg (by omega), List.drop_of_length_le (by omega)]
    simp
  | succ n ih =>
    intro k j out h2 ho hk
    obtain ⟨k, rfl⟩ : ∃ k', k = k' + 1 := ⟨k - 1, by omega⟩
    have hj : j < a.length := by omega
    have hn : out.length < 35184372088832 := by omega
    rw [stolonref06_Minus.l0, if_pos (by omega), if_pos (by omega), rd_eq, Int.toNat_natCast, getD_eq a j hj, step64 j (by omega), rhas_some b _ (by omega) k (by omega), Option.bind_some, List.drop_eq_getElem_cons hj]
    by_cases h : a[j] ∈ b
    · rw [decide_eq_true h, if_pos rfl, ih k (j + 1) _ (by omega) (by omega) (by omega), List.filter_cons_of_neg (by simpa using h)]
    · rw [decide_eq_false h, if_neg (by decide), if_pos hn, ih k (j + 1) _ (by omega) (by simp; omega) (by omega), List.filter_cons_of_pos (by simpa using h), List.append_assoc]; rfl
theorem rminus_some (a b : List Int) (ha : a.length ≤ 1000000) (hb : b.length ≤ 1000000) (ra : Rise a) (rb : Rise b) (k : Nat) (hk : a.length + b.length < k) : stolonref06_Minus.f k a b = some (mns a b) := by
  unfold stolonref06_Minus.f
  have := rminus_loop a b ha hb a.length k 0 [] (by omega) (by simp) hk
  rw [show ((0 : Nat) : Int) = 0 from rfl] at this
  rw [this, List.nil_append, List.drop_zero]
  congr 1
  refine rise_ext (ra.filter _) (mns_rise ra rb) fun x => ?_
  rw [mns_mem ra rb, List.mem_filter, Bool.not_eq_true', decide_eq_false_iff_not]

/-- One more in its place. -/
def putIn (out : List Int) (p : Nat) (x : Int) : List Int := out.take p ++ [x] ++ out.drop p
theorem putIn_mem (out : List Int) (p : Nat) (x y : Int) : y ∈ putIn out p x ↔ y = x ∨ y ∈ out := by
  unfold putIn
  rw [List.append_assoc, List.mem_append, List.mem_append, List.mem_singleton]
  conv => rhs; rw [← List.take_append_drop p out, List.mem_append]
  constructor
  · rintro (h | h | h)
    · exact .inr (.inl h)
    · exact .inl h
    · exact .inr (.inr h)
  · rintro (h | h | h)
    · exact .inr (.inl h)
    · exact .inl h
    · exact .inr (.inr h)
theorem putIn_rise {out : List Int} {p : Nat} {x : Int} (hr : Rise out) (h1 : ∀ i (_ : i < out.length), i < p → out[i] < x) (h2 : ∀ i (_ : i < out.length), p ≤ i → x < out[i]) : Rise (putIn out p x) := by
  unfold putIn
  have t1 : ∀ y ∈ out.take p, y < x := by
    intro y hy
    obtain ⟨i, hi, rfl⟩ := List.mem_iff_getElem.1 hy
    rw [List.getElem_take]
    simp at hi
    exact h1 i (by omega) (by omega)
  have t2 : ∀ y ∈ out.drop p, x < y := by
    intro y hy
    obtain ⟨i, hi, rfl⟩ := List.mem_iff_getElem.1 hy
    rw [List.getElem_drop]
    simp at hi
    exact h2 (p + i) (by omega) (by omega)
  rw [Rise, List.append_assoc, List.pairwise_append]
  refine ⟨hr.sublist (List.take_sublist _ _), List.pairwise_cons.2 ⟨t2, hr.sublist (List.drop_sublist _ _)⟩, fun a ha b hb => ?_⟩
  rcases List.mem_cons.1 hb with rfl | hb
  · exact t1 a ha
  · have := t1 a ha; have := t2 b hb; omega
theorem putIn_len (out : List Int) (p : Nat) (x : Int) (hp : p ≤ out.length) : (putIn out p x).length = out.length + 1 := by unfold putIn; simp; omega

set_option maxRecDepth 100000 in
theorem rmake_put (l out : List Int) (i : Nat) (hi : i < l.length) (hl : l.length ≤ 1000000) (ho : out.length ≤ 1000000) (hr : Rise out) : ∀ n k (j : Nat), out.length = j + n → n < k → (∀ q (_ : q < out.length), q < j → out[q] < l[i]) →
    ∃ k' p, k ≤ k' + n + 1 ∧ p ≤ out.length ∧ stolonref06_Make.l1 k l out i (out.take j) j = stolonref06_Make.l0 k' l (putIn out p l[i]) ((i + 1 : Nat) : Int) ∧
      (∀ q (_ : q < out.length), q < p → out[q] < l[i]) ∧ (∀ q (_ : q < out.length), p ≤ q → l[i] ≤ out[q]) := by
  intro n
  have hx : rd l (i : Int) = l[i] := by rw [rd_eq, Int.toNat_natCast, getD_eq l i hi]
  induction n with
  | zero =>
    intro k j h2 hk hlt
    obtain ⟨k, rfl⟩ : ∃ k', k = k' + 1 := ⟨k - 1, by omega⟩
    refine ⟨k, out.length, by omega, Nat.le_refl _, ?_, fun q hq _ => hlt q hq (by omega), fun q hq h => by omega⟩
    have hn : (out.take j).length < 35184372088832 := by simp; omega
    have hn2 : (out.take j ++ [l[i]]).length + (out.drop j).length < 35184372088832 := by simp; omega
    rw [stolonref06_Make.l1, if_neg (by omega), if_pos (by omega), if_pos (by omega), if_pos hn, Option.bind_some, if_pos (by omega), if_pos (by omega), Option.bind_some, Int.toNat_natCast, hx, if_pos hn2, step64 i (by omega)]
    rw [show j = out.length from by omega]
    rfl
  | succ n ih =>
    intro k j h2 hk hlt
    obtain ⟨k, rfl⟩ : ∃ k', k = k' + 1 := ⟨k - 1, by omega⟩
    have hj : j < out.length := by omega
    have hn : (out.take j).length < 35184372088832 := by simp; omega
    have hn2 : (out.take j ++ [l[i]]).length + (out.drop j).length < 35184372088832 := by simp; omega
    have hy : rd out (j : Int) = out[j] := by rw [rd_eq, Int.toNat_natCast, getD_eq out j hj]
    rw [stolonref06_Make.l1, if_pos (by omega), if_pos (by omega), if_pos (by omega), if_pos (by omega), hx, hy]
    by_cases c : out[j] < l[i]
    · rw [if_pos c, if_pos hn, step64 j (by omega), ← List.take_succ_eq_append_getElem hj]
      obtain ⟨k', p, h3, h4, h5, h6, h7⟩ := ih k (j + 1) (by omega) (by omega) (fun q hq h => by
        rcases Nat.lt_or_ge q j with h' | h'
        · exact hlt q hq h'
        · obtain rfl : q = j := by omega
          exact c)
      exact ⟨k', p, by omega, h4, h5, h6, h7⟩
    · refine ⟨k, j, by omega, by omega, ?_, hlt, fun q hq h => ?_⟩
      · rw [if_neg c, if_pos hn, Option.bind_some, if_pos (by omega), Option.bind_some, Int.toNat_natCast, if_pos hn2, step64 i (by omega)]
        rfl
      · rcases Nat.lt_or_ge j q with h' | h'
        · have := (List.pairwise_iff_getElem.1 hr) j q hj hq h'
          omega
        · obtain rfl : q = j := by omega
          omega

/-- So many rounds are enough. -/
def needM : Nat → Nat
  | 0 => 200001
  | n + 1 => needM n + 200001
theorem needM_le (n : Nat) : needM n ≤ 200001 + n * 200001 := by
  induction n with
  | zero => rw [needM]; omega
  | succ n ih => rw [needM]; omega
theorem needM_pos (n : Nat) : 200001 ≤ needM n := by
  induction n with
  | zero => rw [needM]; omega
  | succ n ih => rw [needM]; omega
theorem rmake_loop (l : List Int) (hl : l.length ≤ 100000) : ∀ n k (i : Nat) (out : List Int), l.length = i + n → out.length ≤ i → Rise out → needM n ≤ k →
    ∃ r, stolonref06_Make.l0 k l out i = some r ∧ Rise r ∧ (∀ x, x ∈ r ↔ x ∈ out ∨ x ∈ l.drop i) ∧ r.length ≤ out.length + n := by
  intro n
  induction n with
  | zero =>
    intro k i out h2 ho hr hk
    rw [needM] at hk
    obtain ⟨k, rfl⟩ : ∃ k', k = k' + 1 := ⟨k - 1, by omega⟩
    rw [stolonref06_Make.l0, if_neg (by omega), List.drop_of_length_le (by omega)]
    exact ⟨out, rfl, hr, fun x => by simp, by omega⟩
  | succ n ih =>
    intro k i out h2 ho hr hk
    rw [needM] at hk
    have hnp := needM_pos n
    obtain ⟨k, rfl⟩ : ∃ k', k = k' + 1 := ⟨k - 1, by omega⟩
    have hi : i < l.length := by omega
    have hx : rd l (i : Int) = l[i] := by rw [rd_eq, Int.toNat_natCast, getD_eq l i hi]
    rw [stolonref06_Make.l0, if_pos (by omega), if_pos (by omega), hx, rhas_some out _ (by omega) k (by omega), Option.bind_some, List.drop_eq_getElem_cons hi]
    by_cases c : l[i] ∈ out
    · rw [decide_eq_true c, if_pos rfl, step64 i (by omega)]
      obtain ⟨r, h3, h4, h5, h6⟩ := ih k (i + 1) out (by omega) (by omega) hr (by omega)
      refine ⟨r, h3, h4, fun x => ?_, by omega⟩
      rw [h5, List.mem_cons]
      constructor
      · rintro (h | h)
        · exact .inl h
        · exact .inr (.inr h)
      · rintro (h | h | h)
        · exact .inl h
        · subst h; exact .inl c
        · exact .inr h
    · rw [decide_eq_false c, if_neg (by decide)]
      obtain ⟨k', p, h3, h4, h5, h6, h7⟩ := rmake_put l out i hi (by omega) (by omega) hr out.length k 0 (by omega) (by omega) (fun q hq h => by omega)
      rw [List.take_zero, show ((0 : Nat) : Int) = 0 from rfl] at h5
      rw [h5]
      have hpr : Rise (putIn out p l[i]) := putIn_rise hr h6 (fun q hq h => by
        have h8 := h7 q hq h
        have : l[i] ≠ out[q] := fun e => c (by rw [e]; exact List.getElem_mem _)
        omega)
      have hpl := putIn_len out p l[i] h4
      obtain ⟨r, h8, h9, h10, h11⟩ := ih k' (i + 1) (putIn out p l[i]) (by omega) (by omega) hpr (by omega)
      refine ⟨r, h8, h9, fun x => ?_, by omega⟩
      rw [h10, putIn_mem, List.mem_cons]
      constructor
      · rintro ((h | h) | h)
        · exact .inr (.inl h)
        · exact .inl h
        · exact .inr (.inr h)
      · rintro (h | h | h)
        · exact .inl (.inr h)
        · exact .inl (.inl h)
        · exact .inr h

theorem runion_some (a b : List Int) (h : a.length + b.length ≤ 100000) (ra : Rise a) (rb : Rise b) (k : Nat) (hk : 30000000000 ≤ k) : stolonref06_Union.f k a b = some (uni a b) := by
  unfold stolonref06_Union.f stolonref06_Make.f
  have hn : ([] : List Int).length + a.length < 35184372088832 := by simp; omega
  have hn2 : ([] ++ a).length + b.length < 35184372088832 := by simp; omega
  rw [Option.bind_some, if_pos hn, Option.bind_some, if_pos hn2]
  obtain ⟨r, h3, h4, h5, h6⟩ := rmake_loop ([] ++ a ++ b) (by simp; omega) (a.length + b.length) k 0 [] (by simp) (by simp) List.Pairwise.nil (by have := needM_le (a.length + b.length); omega)
  rw [show ((0 : Nat) : Int) = 0 from rfl] at h3
  rw [h3, Option.bind_some]
  congr 1
  refine rise_ext h4 (uni_rise ra rb) fun x => ?_
  rw [h5, uni_mem ra rb]
  simp

theorem rfilter_loop (l : List S29) (hm : l.length ≤ 200) (hl : ∀ f ∈ l, Rise f.f1 ∧ f.f1.length ≤ 200) : ∀ n k (j : Nat) (s : List Int × List Int × Bool), j ≤ l.length → l.length = j + n → n + 100000000000 < k → s.1.length ≤ 200 * j → s.2.1.length ≤ 200 * j → Rise s.1 → Rise s.2.1 →
    stolonref06_Filter.l0 k l s.1 s.2.1 s.2.2 j = some (finS ((l.drop j).foldl stepS s)) := by
  intro n
  induction n with
  | zero =>
    intro k j s hj h2 hk h3 h4 h5 h6
    obtain ⟨k, rfl⟩ : ∃ k', k = k' + 1 := ⟨k - 1, by omega⟩
    rw [stolonref06_Filter.l0, if_neg (by omega), List.drop_of_length_le (by omega), List.foldl_nil]
    unfold finS
    split
    · rw [rminus_some _ _ (by omega) (by omega) h6 h5 _ (by omega)]; rfl
    · rfl
  | succ n ih =>
    intro k j s hj h2 hk h3 h4 h5 h6
    obtain ⟨k, rfl⟩ : ∃ k', k = k' + 1 := ⟨k - 1, by omega⟩
    have hlt : j < l.length := by omega
    have hf := hl l[j] (List.getElem_mem _)
    have hlen := step_len (s := s) hf.2
    have hkeep := step_keeps (s := s) h5 h6 hf.1
    have := ih k (j + 1) (stepS s l[j]) (by omega) (by omega) (by omega) (by omega) (by omega) hkeep.1 hkeep.2
    rw [stolonref06_Filter.l0, if_pos (by omega), if_pos (by omega), rdT l j hlt, step64 j (by omega), List.drop_eq_getElem_cons hlt, List.foldl_cons, ← this]
    unfold stepS
    split
    · split
      · rw [rinter_some _ _ (by omega) (by omega) h6 hf.1 _ (by omega), Option.bind_some]
      · rfl
    · rw [runion_some _ _ (by omega) h5 hf.1 _ (by omega), Option.bind_some]

theorem rfilter_some (l : List S29) (hm : l.length ≤ 200) (hl : ∀ f ∈ l, Rise f.f1 ∧ f.f1.length ≤ 200) (k : Nat) (hk : l.length + 100000000000 < k) : stolonref06_Filter.f k l = some (finS (l.foldl stepS ([], [], false))) := by
  unfold stolonref06_Filter.f
  have := rfilter_loop l hm hl l.length k 0 ([], [], false) (by omega) (by omega) hk (by simp) (by simp) List.Pairwise.nil List.Pairwise.nil
  rw [List.drop_zero] at this
  exact this

/-- The law's plain half. -/
theorem setFilters_pure (l : List S29) (a : Int) (hm : l.length ≤ 1000000000000000) (hl : ∀ f ∈ l, f.f1.length ≤ 1000000000000000) : ∃ k, stolonlaw06_SetFilters.f k l a = some true := by
  obtain ⟨K, hK⟩ : ∃ K : Nat, K = l.length + 200000000000 := ⟨_, rfl⟩
  refine ⟨K, ?_⟩
  unfold stolonlaw06_SetFilters.f
  rw [shown_big K (by omega), Option.bind_some]
  obtain ⟨b, hb, hbt⟩ := filters_some l hm hl K (by omega)
  rw [hb, Option.bind_some]
  split
  · rename_i h
    obtain ⟨h1, h2⟩ := hbt h
    obtain ⟨r1, r2, r3, r4, _⟩ := fold_keeps l ([], [], false) h2 List.Pairwise.nil List.Pairwise.nil
    simp only [List.length_nil] at r3 r4
    have hr := fin_rise r1 r2
    have hn := fin_len (l.foldl stepS ([], [], false))
    rw [filter_some l h1 h2 K (by omega), Option.bind_some, if_pos rfl, rfilter_some l h1 h2 K (by omega), Option.bind_some]
    unfold stolonref06_Same.f stolonref06_Wants.f
    rw [beq_self_eq_true, if_pos rfl, rows_some _ _ (by omega) K (by omega), Option.bind_some, Option.bind_some, decide_eq_true rfl, if_pos rfl]
    rw [wants_some _ _ _ (by omega) hr K (by omega), Option.bind_some, rhas_some _ _ (by omega) K (by omega), Option.bind_some, Option.bind_some]
    unfold wants
    rw [beq_self_eq_true]
  · rfl
end Go.Proofs.Ytkhljamellgcfaa
