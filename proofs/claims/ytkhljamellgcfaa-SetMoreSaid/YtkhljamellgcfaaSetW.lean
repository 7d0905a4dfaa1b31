/-
  Filters, in plain lists.
-/
import Derived.Test.YtkhljamellgcfaaSetN
import Derived.Test.YtkhljamellgcfaaPSetx7
namespace Go.Proofs.Ytkhljamellgcfaa
open Go.RowKit Go.Proofs.YtkhljamellgcfaaW.PrintWords Go.Proofs.Ytkhljamellgcfaa.PSet

theorem rdT (l : List S29) (i : Nat) (h : i < l.length) : rd_T29 l (i : Int) = l[i] := by
  show l.getD _ _ = _
  rw [Int.toNat_natCast, List.getD_eq_getElem?_getD, List.getElem?_eq_getElem h]; rfl

theorem filters_loop (l : List S29) (hm : l.length ≤ 1000000000000000) (hl : ∀ f ∈ l, f.f1.length ≤ 1000000000000000) : ∀ n k (j : Nat) (c : Int), 0 ≤ c → c ≤ 200 → j ≤ l.length → l.length ≤ j + n → n + 300 < k →
    ∃ b, stolonlaw06_filters.l0 k l c j = some b ∧ (b = true → (l.length : Int) ≤ j + 200 - c ∧ ∀ i (_ : i < l.length), j ≤ i → Rise (l[i]).f1 ∧ (l[i]).f1.length ≤ 200) := by
  intro n
  induction n with
  | zero =>
    intro k j c h0 h1 hj h2 hk
    obtain ⟨k, rfl⟩ : ∃ k', k = k' + 1 := ⟨k - 1, by omega⟩
    rw [stolonlaw06_filters.l0, if_neg (by omega)]
    exact ⟨true, rfl, fun _ => ⟨by omega, fun i hi hj => by omega⟩⟩
  | succ n ih =>
    intro k j c h0 h1 hj h2 hk
    obtain ⟨k, rfl⟩ : ∃ k', k = k' + 1 := ⟨k - 1, by omega⟩
    rw [stolonlaw06_filters.l0]
    by_cases hlt : j < l.length
    · have hb := hl l[j] (List.getElem_mem _)
      have e0 : wrap64 (c + 1) = c + 1 := w64 (by omega) (by omega)
      have e1 : wrap64 (c + 1 + ((l[j]).f1.length : Int)) = c + 1 + ((l[j]).f1.length : Int) := w64 (by omega) (by omega)
      have e2 : wrap64 ((j : Int) + 1) = ((j + 1 : Nat) : Int) := by rw [w64 (by omega) (by omega)]; omega
      rw [if_pos (by omega), if_pos (by omega), rdT l j hlt, e0, e1, e2]
      split
      · exact ⟨false, rfl, fun h => by cases h⟩
      · rename_i hc
        rw [right_some _ (by omega) _ (by omega), Option.bind_some]
        split
        · rename_i hr
          replace hr := of_decide_eq_true hr
          obtain ⟨b, hb1, hb2⟩ := ih k (j + 1) (c + 1 + ((l[j]).f1.length : Int)) (by omega) (by omega) (by omega) (by omega) (by omega)
          refine ⟨b, hb1, fun h => ?_⟩
          obtain ⟨h3, h4⟩ := hb2 h
          refine ⟨by omega, fun i hi hij => ?_⟩
          rcases Nat.lt_or_ge j i with h5 | h5
          · exact h4 i hi h5
          · obtain rfl : i = j := by omega
            exact ⟨hr, by omega⟩
        · exact ⟨false, rfl, fun h => by cases h⟩
    · rw [if_neg (by omega)]
      exact ⟨true, rfl, fun _ => ⟨by omega, fun i hi hj => by omega⟩⟩

theorem filters_some (l : List S29) (hm : l.length ≤ 1000000000000000) (hl : ∀ f ∈ l, f.f1.length ≤ 1000000000000000) (k : Nat) (hk : l.length + 300 < k) :
    ∃ b, stolonlaw06_filters.f k l = some b ∧ (b = true → l.length ≤ 200 ∧ ∀ f ∈ l, Rise f.f1 ∧ f.f1.length ≤ 200) := by
  obtain ⟨b, h1, h2⟩ := filters_loop l hm hl l.length k 0 0 (by omega) (by omega) (by omega) (by omega) hk
  refine ⟨b, h1, fun h => ?_⟩
  obtain ⟨h3, h4⟩ := h2 h
  refine ⟨by omega, fun f hf => ?_⟩
  obtain ⟨i, hi, rfl⟩ := List.mem_iff_getElem.1 hf
  exact h4 i hi (by omega)

/-- What filters want together, one more at a time. -/
def stepS (s : List Int × List Int × Bool) (f : S29) : List Int × List Int × Bool :=
  if f.f0 = true then (if s.2.2 = true then (s.1, int s.2.1 f.f1, s.2.2) else (s.1, f.f1, true)) else (uni s.1 f.f1, s.2.1, s.2.2)
def finS (s : List Int × List Int × Bool) : Bool × List Int := if s.2.2 = true then (true, mns s.2.1 s.1) else (false, s.1)
/-- A filter wants a source. -/
def wants (f : Bool × List Int) (a : Int) : Bool := decide (a ∈ f.2) != f.1

theorem step_keeps {s : List Int × List Int × Bool} {f : S29} (h1 : Rise s.1) (h2 : Rise s.2.1) (h3 : Rise f.f1) : Rise (stepS s f).1 ∧ Rise (stepS s f).2.1 := by
  unfold stepS
  split
  · split
    · exact ⟨h1, int_rise h2 h3⟩
    · exact ⟨h1, h3⟩
  · exact ⟨uni_rise h1 h3, h2⟩
theorem step_len {s : List Int × List Int × Bool} {f : S29} (h3 : f.f1.length ≤ 200) : (stepS s f).1.length ≤ s.1.length + 200 ∧ (stepS s f).2.1.length ≤ s.2.1.length + 200 := by
  unfold stepS
  have := int_len s.2.1 f.f1
  have := uni_len s.1 f.f1
  split
  · split
    · exact ⟨by show s.1.length ≤ _; omega, by show (int s.2.1 f.f1).length ≤ _; omega⟩
    · exact ⟨by show s.1.length ≤ _; omega, by show f.f1.length ≤ _; omega⟩
  · exact ⟨by show (uni s.1 f.f1).length ≤ _; omega, by show s.2.1.length ≤ _; omega⟩
theorem step_wants {s : List Int × List Int × Bool} {f : S29} (h1 : Rise s.1) (h2 : Rise s.2.1) (h3 : Rise f.f1) (a : Int) :
    wants (finS (stepS s f)) a = (wants (finS s) a || wants (f.f0, f.f1) a) := by
  obtain ⟨s1, s2, s3⟩ := s
  obtain ⟨f0, f1⟩ := f
  simp only at h1 h2 h3
  have m1 := mns_mem (int_rise h2 h3) h1 a
  have m2 := int_mem h2 h3 a
  have m3 := mns_mem h2 h1 a
  have m4 := mns_mem h3 h1 a
  have m5 := mns_mem h2 (uni_rise h1 h3) a
  have m6 := uni_mem h1 h3 a
  cases f0 <;> cases s3 <;> simp [stepS, finS, wants, m1, m2, m3, m4, m5, m6] <;>
    by_cases q1 : a ∈ s1 <;> by_cases q2 : a ∈ s2 <;> by_cases q3 : a ∈ f1 <;> simp [q1, q2, q3]

theorem filter_loop (l : List S29) (hm : l.length ≤ 200) (hl : ∀ f ∈ l, Rise f.f1 ∧ f.f1.length ≤ 200) : ∀ n k (j : Nat) (s : List Int × List Int × Bool), j ≤ l.length → l.length = j + n → n < k → s.1.length ≤ 200 * j → s.2.1.length ≤ 200 * j →
    set_Filter.l0 k s.1 s.2.1 s.2.2 l l.length j = some (finS ((l.drop j).foldl stepS s)) := by
  intro n
  induction n with
  | zero =>
    intro k j s hj h2 hk h3 h4
    obtain ⟨k, rfl⟩ : ∃ k', k = k' + 1 := ⟨k - 1, by omega⟩
    rw [set_Filter.l0, if_neg (by omega), List.drop_of_length_le (by omega), List.foldl_nil]
    unfold finS
    split
    · rw [mns_some (by omega) (by omega)]; rfl
    · rfl
  | succ n ih =>
    intro k j s hj h2 hk h3 h4
    obtain ⟨k, rfl⟩ : ∃ k', k = k' + 1 := ⟨k - 1, by omega⟩
    have hlt : j < l.length := by omega
    have hf := hl l[j] (List.getElem_mem _)
    have e2 : wrap64 ((j : Int) + 1) = ((j + 1 : Nat) : Int) := by rw [w64 (by omega) (by omega)]; omega
    have hlen := step_len (s := s) hf.2
    have := ih k (j + 1) (stepS s l[j]) (by omega) (by omega) (by omega) (by omega) (by omega)
    rw [set_Filter.l0, if_pos (by omega), if_pos (by omega), if_pos (by omega), rdT l j hlt, e2, List.drop_eq_getElem_cons hlt, List.foldl_cons, ← this]
    unfold stepS
    split
    · split
      · rename_i he
        rw [int_some (by omega) (by omega), Option.bind_some]
      · rfl
    · rw [uni_some (by omega) (by omega), Option.bind_some]

theorem filter_some (l : List S29) (hm : l.length ≤ 200) (hl : ∀ f ∈ l, Rise f.f1 ∧ f.f1.length ≤ 200) (k : Nat) (hk : l.length < k) : set_Filter.f k l = some (finS (l.foldl stepS ([], [], false))) := by
  unfold set_Filter.f
  have := filter_loop l hm hl l.length k 0 ([], [], false) (by omega) (by omega) hk (by simp) (by simp)
  rw [List.drop_zero] at this
  exact this

theorem fold_keeps : ∀ (l : List S29) (s : List Int × List Int × Bool), (∀ f ∈ l, Rise f.f1 ∧ f.f1.length ≤ 200) → Rise s.1 → Rise s.2.1 →
    Rise (l.foldl stepS s).1 ∧ Rise (l.foldl stepS s).2.1 ∧ (l.foldl stepS s).1.length ≤ s.1.length + 200 * l.length ∧ (l.foldl stepS s).2.1.length ≤ s.2.1.length + 200 * l.length ∧
    ∀ a, wants (finS (l.foldl stepS s)) a = (wants (finS s) a || l.any (fun f => wants (f.f0, f.f1) a))
  | [], s, _, h1, h2 => ⟨h1, h2, by simp, by simp, fun a => by simp⟩
  | f :: l, s, hl, h1, h2 => by
    have hf := hl f List.mem_cons_self
    have hk := step_keeps h1 h2 hf.1
    have hn := step_len (s := s) hf.2
    obtain ⟨r1, r2, r3, r4, r5⟩ := fold_keeps l (stepS s f) (fun g hg => hl g (List.mem_cons_of_mem _ hg)) hk.1 hk.2
    rw [List.foldl_cons]
    refine ⟨r1, r2, by simp only [List.length_cons]; omega, by simp only [List.length_cons]; omega, fun a => ?_⟩
    rw [r5, step_wants h1 h2 hf.1, List.any_cons, Bool.or_assoc]
theorem fin_rise {s : List Int × List Int × Bool} (h1 : Rise s.1) (h2 : Rise s.2.1) : Rise (finS s).2 := by
  unfold finS
  split
  · exact mns_rise h2 h1
  · exact h1
theorem fin_len (s : List Int × List Int × Bool) : (finS s).2.length ≤ s.1.length + s.2.1.length := by
  unfold finS
  have := mns_len s.2.1 s.1
  split
  · show (mns s.2.1 s.1).length ≤ _; omega
  · show s.1.length ≤ _; omega
theorem wants_some (f : Bool) (l : List Int) (a : Int) (hm : l.length ≤ 1000000000) (hr : Rise l) (k : Nat) (hk : l.length < k) : set_Wants.f k f l a = some (wants (f, l) a) := by
  unfold set_Wants.f
  rw [has_some l hm a hr k hk]
  rfl

theorem wants_loop (l : List S29) (hm : l.length ≤ 200) (hl : ∀ f ∈ l, Rise f.f1 ∧ f.f1.length ≤ 200) (a : Int) : ∀ n k (j : Nat) (b : Bool), j ≤ l.length → l.length = j + n → n + 100000 < k →
    b = (l.take j).any (fun f => wants (f.f0, f.f1) a) → stolonlaw06_SetWants.l0 k l a true b j = some true := by
  intro n
  induction n with
  | zero =>
    intro k j b hj h2 hk hb
    obtain ⟨k, rfl⟩ : ∃ k', k = k' + 1 := ⟨k - 1, by omega⟩
    rw [stolonlaw06_SetWants.l0, if_neg (by omega), filter_some l hm hl k (by omega), Option.bind_some, if_pos rfl]
    obtain ⟨r1, r2, r3, r4, r5⟩ := fold_keeps l ([], [], false) hl List.Pairwise.nil List.Pairwise.nil
    simp only [List.length_nil] at r3 r4
    have hr := fin_rise r1 r2
    have hn := fin_len (l.foldl stepS ([], [], false))
    have hw := r5 a
    rw [wants_some _ _ _ (by omega) hr _ (by omega), Option.bind_some]
    rw [show ((finS (l.foldl stepS ([], [], false))).1, (finS (l.foldl stepS ([], [], false))).2) = finS (l.foldl stepS ([], [], false)) from rfl, hw]
    rw [List.take_of_length_le (by omega)] at hb
    rw [← hb, show wants (finS (([] : List Int), ([] : List Int), false)) a = false from by simp [wants, finS], Bool.false_or, beq_self_eq_true, if_pos rfl]
    rw [right_some _ (by omega) _ (by omega), Option.bind_some, decide_eq_true hr]
  | succ n ih =>
    intro k j b hj h2 hk hb
    obtain ⟨k, rfl⟩ : ∃ k', k = k' + 1 := ⟨k - 1, by omega⟩
    have hlt : j < l.length := by omega
    have hf := hl l[j] (List.getElem_mem _)
    have e2 : wrap64 ((j : Int) + 1) = ((j + 1 : Nat) : Int) := by rw [w64 (by omega) (by omega)]; omega
    rw [stolonlaw06_SetWants.l0, if_pos (by omega), e2]
    have ht : (l.take (j + 1)).any (fun f => wants (f.f0, f.f1) a) = (b || wants ((l[j]).f0, (l[j]).f1) a) := by
      rw [List.take_succ_eq_append_getElem hlt, List.any_append, ← hb]; simp
    split
    · rename_i hbt
      exact ih k (j + 1) true (by omega) (by omega) (by omega) (by rw [ht, hbt, Bool.true_or])
    · rename_i hbt
      rw [if_pos (by omega), rdT l j hlt, wants_some _ _ _ (by omega) hf.1 _ (by omega), Option.bind_some]
      exact ih k (j + 1) _ (by omega) (by omega) (by omega) (by rw [ht, Bool.eq_false_iff.2 hbt, Bool.false_or])

/-- The law's plain half. -/
theorem setWants_pure (l : List S29) (a : Int) (hm : l.length ≤ 1000000000000000) (hl : ∀ f ∈ l, f.f1.length ≤ 1000000000000000) : ∃ k, stolonlaw06_SetWants.f k l a = some true := by
  obtain ⟨K, hK⟩ : ∃ K : Nat, K = l.length + 200000 := ⟨_, rfl⟩
  refine ⟨K, ?_⟩
  unfold stolonlaw06_SetWants.f
  rw [shown_big K (by omega), Option.bind_some]
  obtain ⟨b, hb, hbt⟩ := filters_some l hm hl K (by omega)
  rw [hb, Option.bind_some]
  split
  · rename_i h
    obtain ⟨h1, h2⟩ := hbt h
    exact wants_loop l h1 h2 a l.length K 0 false (by omega) (by omega) (by omega) (by simp)
  · rfl
end Go.Proofs.Ytkhljamellgcfaa
