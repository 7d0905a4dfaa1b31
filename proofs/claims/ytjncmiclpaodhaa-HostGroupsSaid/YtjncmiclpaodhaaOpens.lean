/-
  Sets in plain lists, for chapter 07 (out of chapter 06's plain laws).
-/
import Derived.Test.YtjncmiclpaodhaaPHox12
import Derived.Test.YtjncmiclpaodhaaPHoy1
import Derived.Test.YtjncmiclpaodhaaPHox1
import Derived.Test.YtjncmiclpaodhaaMkP
import Derived.Test.YtjncmiclpaodhaaPHoy2
import Derived.Test.YtjncmiclpaodhaaPHoy0
import Derived.Test.YtjncmiclpaodhaaHoG
import Derived.SizedLaws
import Derived.ChangeSlices
import Derived.ChangeArms
import Derived.Test.YtjncmiclpaodhaaVWords
namespace Go.Proofs.Ytjncmiclpaodhaa
open Go.RowKit Go.Proofs.YtjncmiclpaodhaaW.PrintWords Go.Proofs.Ytjncmiclpaodhaa.PHo
set_option linter.unusedVariables false
set_option linter.unusedSimpArgs false
theorem w64 {i : Int} (h0 : -9223372036854775808 ≤ i) (h1 : i ≤ 9223372036854775807) : wrap64 i = i := by unfold wrap64; omega
theorem rd_eq (l : List Int) (i : Int) : rd l i = l.getD i.toNat 0 := rfl
abbrev Rise (l : List Int) : Prop := l.Pairwise (· < ·)
theorem getD_eq (l : List Int) (i : Nat) (h : i < l.length) : l.getD i 0 = l[i] := by
  rw [List.getD_eq_getElem?_getD, List.getElem?_eq_getElem h]; rfl
theorem rise_iff (l : List Int) : (∀ i, 1 ≤ i → i < l.length → l.getD (i - 1) 0 < l.getD i 0) ↔ Rise l := by
  constructor
  · intro h
    rw [Rise, List.pairwise_iff_getElem]
    intro i j hi hj hij
    rw [← getD_eq l i hi, ← getD_eq l j hj]
    clear hi
    induction j with
    | zero => omega
    | succ j ih =>
      have h1 := h (j + 1) (by omega) hj
      rw [Nat.add_sub_cancel] at h1
      rcases Nat.lt_or_ge i j with h2 | h2
      · have := ih (by omega) h2; omega
      · obtain rfl : i = j := by omega
        exact h1
  · intro h i h1 h2
    rw [Rise, List.pairwise_iff_getElem] at h
    rw [getD_eq l i h2, getD_eq l (i - 1) (by omega)]
    exact h _ _ _ _ (by omega)
open Classical in
theorem right_loop (l : List Int) (hm : l.length ≤ 1000000000) : ∀ n k (j : Nat), 1 ≤ j → l.length ≤ j + n → n < k →
    stolonref06_Right.l0 k l j = some (decide (∀ i, j ≤ i → i < l.length → l.getD (i - 1) 0 < l.getD i 0)) := by
  intro n
  induction n with
  | zero =>
    intro k j h1 h2 hk
    obtain ⟨k, rfl⟩ : ∃ k', k = k' + 1 := ⟨k - 1, by omega⟩
    rw [stolonref06_Right.l0, if_neg (by omega)]
    congr 1
    symm
    rw [decide_eq_true_eq]
    intro i hi hl; omega
  | succ n ih =>
    intro k j h1 h2 hk
    obtain ⟨k, rfl⟩ : ∃ k', k = k' + 1 := ⟨k - 1, by omega⟩
    rw [stolonref06_Right.l0]
    by_cases hj : j < l.length
    · rw [if_pos (by omega), w64 (by omega) (by omega), if_pos (by omega), if_pos (by omega), if_pos (by omega)]
      rw [rd_eq, rd_eq, show ((j : Int) - 1).toNat = j - 1 from by omega, show ((j : Int)).toNat = j from by omega]
      split
      · rename_i hge
        congr 1
        symm
        rw [decide_eq_false_iff_not]
        intro h
        have := h j (Nat.le_refl _) hj
        omega
      · rename_i hge
        rw [w64 (by omega) (by omega), show (j : Int) + 1 = ((j + 1 : Nat) : Int) from by omega, ih k (j + 1) (by omega) (by omega) (by omega)]
        congr 1
        rw [decide_eq_decide]
        constructor
        · intro h i hi hl
          rcases Nat.lt_or_ge j i with h' | h'
          · exact h i (by omega) hl
          · obtain rfl : i = j := by omega
            omega
        · intro h i hi hl
          exact h i (by omega) hl
    · rw [if_neg (by omega)]
      congr 1
      symm
      rw [decide_eq_true_eq]
      intro i hi hl; omega
theorem right_some (l : List Int) (hm : l.length ≤ 1000000000) (k : Nat) (hk : l.length < k) : stolonref06_Right.f k l = some (decide (Rise l)) := by
  unfold stolonref06_Right.f
  have := right_loop l hm l.length k 1 (Nat.le_refl _) (by omega) hk
  rw [show ((1 : Nat) : Int) = 1 from rfl] at this
  rw [this]
  congr 1
  rw [decide_eq_decide]
  exact rise_iff l
theorem both_all (a b : List Int) : ∀ x, x ∈ a ∨ x ∈ b → ∃ t ∈ bothOf a b, t.1 = x := by
  induction a, b using bothOf.induct with
  | case1 => intro x h; simp at h
  | case2 y a ih =>
    intro x h
    rw [bothOf]
    rcases h with h | h
    · rcases List.mem_cons.1 h with rfl | h
      · exact ⟨_, List.mem_cons_self, rfl⟩
      · obtain ⟨t, h1, h2⟩ := ih x (.inl h)
        exact ⟨t, List.mem_cons_of_mem _ h1, h2⟩
    · simp at h
  | case3 y b ih =>
    intro x h
    rw [bothOf]
    rcases h with h | h
    · simp at h
    · rcases List.mem_cons.1 h with rfl | h
      · exact ⟨_, List.mem_cons_self, rfl⟩
      · obtain ⟨t, h1, h2⟩ := ih x (.inr h)
        exact ⟨t, List.mem_cons_of_mem _ h1, h2⟩
  | case4 z a y b hlt ih =>
    intro x h
    rw [bothOf, if_pos hlt]
    by_cases hx : x = z
    · subst hx; exact ⟨_, List.mem_cons_self, rfl⟩
    · obtain ⟨t, h1, h2⟩ := ih x (by simpa [hx] using h)
      exact ⟨t, List.mem_cons_of_mem _ h1, h2⟩
  | case5 z a y b hlt hlt' ih =>
    intro x h
    rw [bothOf, if_neg hlt, if_pos hlt']
    by_cases hx : x = y
    · subst hx; exact ⟨_, List.mem_cons_self, rfl⟩
    · obtain ⟨t, h1, h2⟩ := ih x (by simpa [hx] using h)
      exact ⟨t, List.mem_cons_of_mem _ h1, h2⟩
  | case6 z a y b hlt hlt' ih =>
    intro x h
    rw [bothOf, if_neg hlt, if_neg hlt']
    obtain rfl : z = y := by omega
    by_cases hx : x = z
    · subst hx; exact ⟨_, List.mem_cons_self, rfl⟩
    · obtain ⟨t, h1, h2⟩ := ih x (by simpa [hx] using h)
      exact ⟨t, List.mem_cons_of_mem _ h1, h2⟩
theorem both_spec (a b : List Int) : Rise a → Rise b → ∀ t ∈ bothOf a b, t.2.1 = decide (t.1 ∈ a) ∧ t.2.2 = decide (t.1 ∈ b) ∧ (t.1 ∈ a ∨ t.1 ∈ b) := by
  induction a, b using bothOf.induct with
  | case1 => intro _ _ t h; simp [bothOf] at h
  | case2 y a ih =>
    intro ha hb t h
    rw [bothOf] at h
    have ha' := List.pairwise_cons.1 ha
    rcases List.mem_cons.1 h with rfl | h
    · simp
    · obtain ⟨h1, h2, h3⟩ := ih ha'.2 hb t h
      refine ⟨?_, h2, ?_⟩
      · rw [h1, decide_eq_decide, List.mem_cons]
        constructor
        · exact .inr
        · rintro (e | h)
          · rcases h3 with h3 | h3
            · exact h3
            · simp at h3
          · exact h
      · rcases h3 with h3 | h3
        · exact .inl (List.mem_cons_of_mem _ h3)
        · exact .inr h3
  | case3 y b ih =>
    intro ha hb t h
    rw [bothOf] at h
    have hb' := List.pairwise_cons.1 hb
    rcases List.mem_cons.1 h with rfl | h
    · simp
    · obtain ⟨h1, h2, h3⟩ := ih ha hb'.2 t h
      have h4 : t.1 ∈ b := by simpa using h3
      refine ⟨h1, ?_, .inr (List.mem_cons_of_mem _ h4)⟩
      rw [h2, decide_eq_decide]
      exact ⟨fun h => List.mem_cons_of_mem _ h, fun _ => h4⟩
  | case4 z a y b hlt ih =>
    intro ha hb t h
    rw [bothOf, if_pos hlt] at h
    have ha' := List.pairwise_cons.1 ha
    have hb' := List.pairwise_cons.1 hb
    rcases List.mem_cons.1 h with rfl | h
    · refine ⟨by simp, ?_, .inl List.mem_cons_self⟩
      symm
      rw [decide_eq_false_iff_not, List.mem_cons]
      rintro (e | h')
      · simp at e; omega
      · have := hb'.1 _ h'; simp at this; omega
    · obtain ⟨h1, h2, h3⟩ := ih ha'.2 hb t h
      have hne : t.1 ≠ z := by
        rintro e
        rcases h3 with h3 | h3
        · have := ha'.1 _ h3; omega
        · rcases List.mem_cons.1 h3 with h3 | h3
          · omega
          · have := hb'.1 _ h3; omega
      refine ⟨by rw [h1, decide_eq_decide]; simp [hne], h2, by simp [hne]; simpa using h3⟩
  | case5 z a y b hlt hlt' ih =>
    intro ha hb t h
    rw [bothOf, if_neg hlt, if_pos hlt'] at h
    have ha' := List.pairwise_cons.1 ha
    have hb' := List.pairwise_cons.1 hb
    rcases List.mem_cons.1 h with rfl | h
    · refine ⟨?_, by simp, .inr List.mem_cons_self⟩
      symm
      rw [decide_eq_false_iff_not, List.mem_cons]
      rintro (e | h')
      · simp at e; omega
      · have := ha'.1 _ h'; simp at this; omega
    · obtain ⟨h1, h2, h3⟩ := ih ha hb'.2 t h
      have hne : t.1 ≠ y := by
        rintro e
        rcases h3 with h3 | h3
        · rcases List.mem_cons.1 h3 with h3 | h3
          · omega
          · have := ha'.1 _ h3; omega
        · have := hb'.1 _ h3; omega
      refine ⟨h1, by rw [h2, decide_eq_decide]; simp [hne], by simp [hne]; simpa using h3⟩
  | case6 z a y b hlt hlt' ih =>
    intro ha hb t h
    rw [bothOf, if_neg hlt, if_neg hlt'] at h
    obtain rfl : z = y := by omega
    have ha' := List.pairwise_cons.1 ha
    have hb' := List.pairwise_cons.1 hb
    rcases List.mem_cons.1 h with rfl | h
    · simp
    · obtain ⟨h1, h2, h3⟩ := ih ha'.2 hb'.2 t h
      have hne : t.1 ≠ z := by
        rintro e
        rcases h3 with h3 | h3
        · have := ha'.1 _ h3; omega
        · have := hb'.1 _ h3; omega
      refine ⟨by rw [h1, decide_eq_decide]; simp [hne], by rw [h2, decide_eq_decide]; simp [hne], by simp [hne]; exact h3⟩
theorem both_rise (a b : List Int) : Rise a → Rise b → (bothOf a b).Pairwise (fun s t => s.1 < t.1) := by
  induction a, b using bothOf.induct with
  | case1 => intro _ _; simp [bothOf]
  | case2 y a ih =>
    intro ha hb
    have ha' := List.pairwise_cons.1 ha
    rw [bothOf]
    refine List.pairwise_cons.2 ⟨fun t ht => ?_, ih ha'.2 hb⟩
    rcases (both_spec _ _ ha'.2 hb t ht).2.2 with h | h
    · exact ha'.1 _ h
    · simp at h
  | case3 y b ih =>
    intro ha hb
    have hb' := List.pairwise_cons.1 hb
    rw [bothOf]
    refine List.pairwise_cons.2 ⟨fun t ht => ?_, ih ha hb'.2⟩
    rcases (both_spec _ _ ha hb'.2 t ht).2.2 with h | h
    · simp at h
    · exact hb'.1 _ h
  | case4 z a y b hlt ih =>
    intro ha hb
    have ha' := List.pairwise_cons.1 ha
    have hb' := List.pairwise_cons.1 hb
    rw [bothOf, if_pos hlt]
    refine List.pairwise_cons.2 ⟨fun t ht => ?_, ih ha'.2 hb⟩
    rcases (both_spec _ _ ha'.2 hb t ht).2.2 with h | h
    · exact ha'.1 _ h
    · rcases List.mem_cons.1 h with h | h
      · show z < t.1; omega
      · have := hb'.1 _ h; show z < t.1; omega
  | case5 z a y b hlt hlt' ih =>
    intro ha hb
    have ha' := List.pairwise_cons.1 ha
    have hb' := List.pairwise_cons.1 hb
    rw [bothOf, if_neg hlt, if_pos hlt']
    refine List.pairwise_cons.2 ⟨fun t ht => ?_, ih ha hb'.2⟩
    rcases (both_spec _ _ ha hb'.2 t ht).2.2 with h | h
    · rcases List.mem_cons.1 h with h | h
      · show y < t.1; omega
      · have := ha'.1 _ h; show y < t.1; omega
    · exact hb'.1 _ h
  | case6 z a y b hlt hlt' ih =>
    intro ha hb
    have ha' := List.pairwise_cons.1 ha
    have hb' := List.pairwise_cons.1 hb
    rw [bothOf, if_neg hlt, if_neg hlt']
    refine List.pairwise_cons.2 ⟨fun t ht => ?_, ih ha'.2 hb'.2⟩
    rcases (both_spec _ _ ha'.2 hb'.2 t ht).2.2 with h | h
    · exact ha'.1 _ h
    · have := hb'.1 _ h; show z < t.1; omega
theorem sel_mem {p : Bool → Bool → Bool} {a b : List Int} (ha : Rise a) (hb : Rise b) (x : Int) :
    x ∈ selOf p (bothOf a b) ↔ (x ∈ a ∨ x ∈ b) ∧ p (decide (x ∈ a)) (decide (x ∈ b)) = true := by
  unfold selOf
  rw [List.mem_map]
  constructor
  · rintro ⟨t, ht, rfl⟩
    obtain ⟨h1, h2⟩ := List.mem_filter.1 ht
    obtain ⟨e1, e2, e3⟩ := both_spec a b ha hb t h1
    rw [e1, e2] at h2
    exact ⟨e3, h2⟩
  · rintro ⟨h1, h2⟩
    obtain ⟨t, ht, rfl⟩ := both_all a b x h1
    obtain ⟨e1, e2, e3⟩ := both_spec a b ha hb t ht
    refine ⟨t, List.mem_filter.2 ⟨ht, ?_⟩, rfl⟩
    rw [e1, e2]
    exact h2
theorem sel_rise {p : Bool → Bool → Bool} {a b : List Int} (ha : Rise a) (hb : Rise b) : Rise (selOf p (bothOf a b)) := by
  unfold selOf
  rw [Rise, List.pairwise_map]
  exact (both_rise a b ha hb).filter _
def mns (a b : List Int) : List Int := selOf (fun x y => x && !y) (bothOf a b)
theorem mns_some {a b : List Int} (h : a.length ≤ 1000000000) (h' : b.length ≤ 1000000000) : set_Minus.f a b = some (mns a b) := by rw [set_Minus.f, if_pos ⟨h, h'⟩]; rfl
theorem sel_len2 (p : Bool → Bool → Bool) (a b : List Int) : (selOf p (bothOf a b)).length ≤ a.length + b.length := Nat.le_trans (selOf_len _ _) (bothOf_len _ _)
theorem mns_len (a b : List Int) : (mns a b).length ≤ a.length + b.length := sel_len2 _ _ _
theorem mns_rise {a b : List Int} (ha : Rise a) (hb : Rise b) : Rise (mns a b) := sel_rise ha hb
theorem mns_mem {a b : List Int} (ha : Rise a) (hb : Rise b) (x : Int) : x ∈ mns a b ↔ x ∈ a ∧ x ∉ b := by
  unfold mns; rw [sel_mem ha hb]; simp only [Bool.and_eq_true, decide_eq_true_eq, Bool.not_eq_true', decide_eq_false_iff_not]
  exact ⟨fun h => h.2, fun h => ⟨.inl h.1, h⟩⟩
theorem step64 (j : Nat) (h : j ≤ 1000000000000000) : wrap64 ((j : Int) + 1) = ((j + 1 : Nat) : Int) := by rw [w64 (by omega) (by omega)]; omega
theorem rhas_loop (l : List Int) (x : Int) (hm : l.length ≤ 1000000000) : ∀ n k (j : Nat), l.length ≤ j + n → n < k → stolonref06_Has.l0 k l x j = some (decide (x ∈ l.drop j)) := by
  intro n
  induction n with
  | zero =>
    intro k j h2 hk
    obtain ⟨k, rfl⟩ : ∃ k', k = k' + 1 := ⟨k - 1, by omega⟩
    rw [stolonref06_Has.l0, if_neg (by omega), List.drop_of_length_le (by omega)]
    simp
  | succ n ih =>
    intro k j h2 hk
    obtain ⟨k, rfl⟩ : ∃ k', k = k' + 1 := ⟨k - 1, by omega⟩
    rw [stolonref06_Has.l0]
    by_cases hj : j < l.length
    · rw [if_pos (by omega), if_pos (by omega), rd_eq, Int.toNat_natCast, getD_eq l j hj, step64 j (by omega), ih k (j + 1) (by omega) (by omega), List.drop_eq_getElem_cons hj]
      split
      · rename_i h; rw [h]; simp
      · rename_i h
        congr 1
        rw [decide_eq_decide, List.mem_cons]
        exact ⟨.inr, fun h' => h'.resolve_left (fun e => h e.symm)⟩
    · rw [if_neg (by omega), List.drop_of_length_le (by omega)]
      simp
theorem rhas_some (l : List Int) (x : Int) (hm : l.length ≤ 1000000000) (k : Nat) (hk : l.length < k) : stolonref06_Has.f k l x = some (decide (x ∈ l)) := by
  unfold stolonref06_Has.f
  exact rhas_loop l x hm l.length k 0 (by omega) hk
end Go.Proofs.Ytjncmiclpaodhaa
/-
  Filters in plain lists, for chapter 07 (out of chapter 06's plain laws).
-/
namespace Go.Proofs.Ytjncmiclpaodhaa
open Go.RowKit Go.Proofs.YtjncmiclpaodhaaW.PrintWords Go.Proofs.Ytjncmiclpaodhaa.PHo
set_option linter.unusedVariables false
set_option linter.unusedSimpArgs false
theorem list_eq_getD (a b : List Int) (hl : a.length = b.length) : a = b ↔ ∀ i, i < a.length → a.getD i 0 = b.getD i 0 := by
  constructor
  · rintro rfl i _; rfl
  · intro h
    refine List.ext_getElem hl fun i h1 h2 => ?_
    rw [← getD_eq a i h1, ← getD_eq b i h2]
    exact h i h1
open Classical in
theorem rows_loop (a b : List Int) (hl : a.length = b.length) (hm : a.length ≤ 1000000000) : ∀ n k (j : Nat), a.length ≤ j + n → n < k →
    stolonref01_Rows.l0 k a b j = some (decide (∀ i, j ≤ i → i < a.length → a.getD i 0 = b.getD i 0)) := by
  intro n
  induction n with
  | zero =>
    intro k j h2 hk
    obtain ⟨k, rfl⟩ : ∃ k', k = k' + 1 := ⟨k - 1, by omega⟩
    rw [stolonref01_Rows.l0, if_neg (by omega)]
    congr 1
    symm
    rw [decide_eq_true_eq]
    intro i hi hl; omega
  | succ n ih =>
    intro k j h2 hk
    obtain ⟨k, rfl⟩ : ∃ k', k = k' + 1 := ⟨k - 1, by omega⟩
    rw [stolonref01_Rows.l0]
    by_cases hj : j < a.length
    · rw [if_pos (by omega), if_pos (by omega), if_pos (by omega)]
      rw [rd_eq, rd_eq, show ((j : Int)).toNat = j from by omega]
      split
      · rename_i he
        rw [w64 (by omega) (by omega), show (j : Int) + 1 = ((j + 1 : Nat) : Int) from by omega, ih k (j + 1) (by omega) (by omega)]
        congr 1
        rw [decide_eq_decide]
        constructor
        · intro h i hi hl
          rcases Nat.lt_or_ge j i with h' | h'
          · exact h i (by omega) hl
          · obtain rfl : i = j := by omega
            exact he
        · intro h i hi hl
          exact h i (by omega) hl
      · rename_i he
        congr 1
        symm
        rw [decide_eq_false_iff_not]
        intro h
        exact he (h j (Nat.le_refl _) hj)
    · rw [if_neg (by omega)]
      congr 1
      symm
      rw [decide_eq_true_eq]
      intro i hi hl; omega
theorem rows_some (a b : List Int) (hm : a.length ≤ 1000000000) (k : Nat) (hk : a.length < k) : stolonref01_Rows.f k a b = some (decide (a = b)) := by
  unfold stolonref01_Rows.f
  by_cases hl : a.length = b.length
  · rw [if_pos (by omega)]
    have := rows_loop a b hl hm a.length k 0 (by omega) hk
    rw [show ((0 : Nat) : Int) = 0 from rfl] at this
    rw [this]
    congr 1
    rw [decide_eq_decide, list_eq_getD a b hl]
    constructor
    · intro h i hi; exact h i (by omega) hi
    · intro h i _ hi; exact h i hi
  · rw [if_neg (by omega)]
    congr 1
    symm
    rw [decide_eq_false_iff_not]
    rintro rfl
    exact hl rfl
def uni (a b : List Int) : List Int := selOf (fun x y => x || y) (bothOf a b)
def int (a b : List Int) : List Int := selOf (fun x y => x && y) (bothOf a b)
theorem uni_some {a b : List Int} (h : a.length ≤ 1000000000) (h' : b.length ≤ 1000000000) : set_Union.f a b = some (uni a b) := by rw [set_Union.f, if_pos ⟨h, h'⟩]; rfl
theorem int_some {a b : List Int} (h : a.length ≤ 1000000000) (h' : b.length ≤ 1000000000) : set_Inter.f a b = some (int a b) := by rw [set_Inter.f, if_pos ⟨h, h'⟩]; rfl
theorem uni_len (a b : List Int) : (uni a b).length ≤ a.length + b.length := sel_len2 _ _ _
theorem int_len (a b : List Int) : (int a b).length ≤ a.length + b.length := sel_len2 _ _ _
theorem uni_rise {a b : List Int} (ha : Rise a) (hb : Rise b) : Rise (uni a b) := sel_rise ha hb
theorem int_rise {a b : List Int} (ha : Rise a) (hb : Rise b) : Rise (int a b) := sel_rise ha hb
theorem uni_mem {a b : List Int} (ha : Rise a) (hb : Rise b) (x : Int) : x ∈ uni a b ↔ x ∈ a ∨ x ∈ b := by
  unfold uni; rw [sel_mem ha hb]; simp
theorem int_mem {a b : List Int} (ha : Rise a) (hb : Rise b) (x : Int) : x ∈ int a b ↔ x ∈ a ∧ x ∈ b := by
  unfold int; rw [sel_mem ha hb]; simp only [Bool.and_eq_true, decide_eq_true_eq]
  exact ⟨fun h => h.2, fun h => ⟨.inl h.1, h⟩⟩
theorem rdT (l : List S26) (i : Nat) (h : i < l.length) : rd_T26 l (i : Int) = l[i] := by
  show l.getD _ _ = _
  rw [Int.toNat_natCast, List.getD_eq_getElem?_getD, List.getElem?_eq_getElem h]; rfl
def stepS (s : List Int × List Int × Bool) (f : S26) : List Int × List Int × Bool :=
  if f.f0 = true then (if s.2.2 = true then (s.1, int s.2.1 f.f1, s.2.2) else (s.1, f.f1, true)) else (uni s.1 f.f1, s.2.1, s.2.2)
def finS (s : List Int × List Int × Bool) : Bool × List Int := if s.2.2 = true then (true, mns s.2.1 s.1) else (false, s.1)
def wants (f : Bool × List Int) (a : Int) : Bool := decide (a ∈ f.2) != f.1
theorem step_keeps {s : List Int × List Int × Bool} {f : S26} (h1 : Rise s.1) (h2 : Rise s.2.1) (h3 : Rise f.f1) : Rise (stepS s f).1 ∧ Rise (stepS s f).2.1 := by
  unfold stepS
  split
  · split
    · exact ⟨h1, int_rise h2 h3⟩
    · exact ⟨h1, h3⟩
  · exact ⟨uni_rise h1 h3, h2⟩
theorem step_len {s : List Int × List Int × Bool} {f : S26} (h3 : f.f1.length ≤ 200) : (stepS s f).1.length ≤ s.1.length + 200 ∧ (stepS s f).2.1.length ≤ s.2.1.length + 200 := by
  unfold stepS
  have := int_len s.2.1 f.f1
  have := uni_len s.1 f.f1
  split
  · split
    · exact ⟨by show s.1.length ≤ _; omega, by show (int s.2.1 f.f1).length ≤ _; omega⟩
    · exact ⟨by show s.1.length ≤ _; omega, by show f.f1.length ≤ _; omega⟩
  · exact ⟨by show (uni s.1 f.f1).length ≤ _; omega, by show s.2.1.length ≤ _; omega⟩
theorem step_wants {s : List Int × List Int × Bool} {f : S26} (h1 : Rise s.1) (h2 : Rise s.2.1) (h3 : Rise f.f1) (a : Int) :
    wants (finS (stepS s f)) a = (wants (finS s) a || wants (f.f0, f.f1) a) := by
  obtain ⟨s1, s2, s3⟩ := s
  obtain ⟨f0, f1⟩ := f
  simp only at h1 h2 h3
  have m1 := mns_mem (int_rise h2 h3) h1 a
  have m2 := int_mem h2 h3 a
  have m3 := mns_mem h2 h1 a
  have m4 := mns_mem h3 h1 a
  have m5 := mns_mem h2 (uni_rise h1 h3) a
  have m6 := uni_mem h1 h3 a
  cases f0 <;> cases s3 <;> simp [stepS, finS, wants, m1, m2, m3, m4, m5, m6] <;>
    by_cases q1 : a ∈ s1 <;> by_cases q2 : a ∈ s2 <;> by_cases q3 : a ∈ f1 <;> simp [q1, q2, q3]
theorem filter_loop (l : List S26) (hm : l.length ≤ 200) (hl : ∀ f ∈ l, Rise f.f1 ∧ f.f1.length ≤ 200) : ∀ n k (j : Nat) (s : List Int × List Int × Bool), j ≤ l.length → l.length = j + n → n < k → s.1.length ≤ 200 * j → s.2.1.length ≤ 200 * j →
    set_Filter.l0 k s.1 s.2.1 s.2.2 l l.length j = some (finS ((l.drop j).foldl stepS s)) := by
  intro n
  induction n with
  | zero =>
    intro k j s hj h2 hk h3 h4
    obtain ⟨k, rfl⟩ : ∃ k', k = k' + 1 := ⟨k - 1, by omega⟩
    rw [set_Filter.l0, if_neg (by omega), List.drop_of_length_le (by omega), List.foldl_nil]
    unfold finS
    split
    · rw [mns_some (by omega) (by omega)]; rfl
    · rfl
  | succ n ih =>
    intro k j s hj h2 hk h3 h4
    obtain ⟨k, rfl⟩ : ∃ k', k = k' + 1 := ⟨k - 1, by omega⟩
    have hlt : j < l.length := by omega
    have hf := hl l[j] (List.getElem_mem _)
    have e2 : wrap64 ((j : Int) + 1) = ((j + 1 : Nat) : Int) := by rw [w64 (by omega) (by omega)]; omega
    have hlen := step_len (s := s) hf.2
    have := ih k (j + 1) (stepS s l[j]) (by omega) (by omega) (by omega) (by omega) (by omega)
    rw [set_Filter.l0, if_pos (by omega), if_pos (by omega), if_pos (by omega), rdT l j hlt, e2, List.drop_eq_getElem_cons hlt, List.foldl_cons, ← this]
    unfold stepS
    split
    · split
      · rename_i he
        rw [int_some (by omega) (by omega), Option.bind_some]
      · rfl
    · rw [uni_some (by omega) (by omega), Option.bind_some]
theorem filter_some (l : List S26) (hm : l.length ≤ 200) (hl : ∀ f ∈ l, Rise f.f1 ∧ f.f1.length ≤ 200) (k : Nat) (hk : l.length < k) : set_Filter.f k l = some (finS (l.foldl stepS ([], [], false))) := by
  unfold set_Filter.f
  have := filter_loop l hm hl l.length k 0 ([], [], false) (by omega) (by omega) hk (by simp) (by simp)
  rw [List.drop_zero] at this
  exact this
theorem fold_keeps : ∀ (l : List S26) (s : List Int × List Int × Bool), (∀ f ∈ l, Rise f.f1 ∧ f.f1.length ≤ 200) → Rise s.1 → Rise s.2.1 →
    Rise (l.foldl stepS s).1 ∧ Rise (l.foldl stepS s).2.1 ∧ (l.foldl stepS s).1.length ≤ s.1.length + 200 * l.length ∧ (l.foldl stepS s).2.1.length ≤ s.2.1.length + 200 * l.length ∧
    ∀ a, wants (finS (l.foldl stepS s)) a = (wants (finS s) a || l.any (fun f => wants (f.f0, f.f1) a))
  | [], s, _, h1, h2 => ⟨h1, h2, by simp, by simp, fun a => by simp⟩
  | f :: l, s, hl, h1, h2 => by
    have hf := hl f List.mem_cons_self
    have hk := step_keeps h1 h2 hf.1
    have hn := step_len (s := s) hf.2
    obtain ⟨r1, r2, r3, r4, r5⟩ := fold_keeps l (stepS s f) (fun g hg => hl g (List.mem_cons_of_mem _ hg)) hk.1 hk.2
    rw [List.foldl_cons]
    refine ⟨r1, r2, by simp only [List.length_cons]; omega, by simp only [List.length_cons]; omega, fun a => ?_⟩
    rw [r5, step_wants h1 h2 hf.1, List.any_cons, Bool.or_assoc]
theorem fin_rise {s : List Int × List Int × Bool} (h1 : Rise s.1) (h2 : Rise s.2.1) : Rise (finS s).2 := by
  unfold finS
  split
  · exact mns_rise h2 h1
  · exact h1
theorem fin_len (s : List Int × List Int × Bool) : (finS s).2.length ≤ s.1.length + s.2.1.length := by
  unfold finS
  have := mns_len s.2.1 s.1
  split
  · show (mns s.2.1 s.1).length ≤ _; omega
  · show s.1.length ≤ _; omega
end Go.Proofs.Ytjncmiclpaodhaa
/-
  A right host, in plain words: what it wants of a group, which groups it has.
-/
namespace Go.Proofs.Ytjncmiclpaodhaa
open Go.RowKit Go.Proofs.YtjncmiclpaodhaaW.PrintWords Go.Proofs.Ytjncmiclpaodhaa.PHo
set_option linter.unusedVariables false
set_option linter.unusedSimpArgs false
theorem rd42 (l : List S42) (j : Nat) (h : j < l.length) : rd_T42 l (j : Int) = l[j] := by
  unfold rd_T42
  rw [Int.toNat_natCast, List.getD_eq_getElem?_getD, List.getElem?_eq_getElem h]
  rfl
theorem rd36 (l : List S36) (j : Nat) (h : j < l.length) : rd_T36 l (j : Int) = l[j] := by
  unfold rd_T36
  rw [Int.toNat_natCast, List.getD_eq_getElem?_getD, List.getElem?_eq_getElem h]
  rfl
theorem few_loop (l : List S42) (hm : l.length ≤ 600) (hl : ∀ s ∈ l, s.f2.f1.length ≤ 140737488351232) : ∀ n k (j : Nat) (x : Int), l.length ≤ j + n → n < k → 0 ≤ x → x ≤ 281474976710656 → ∃ b, stolonref07_Few.l0 k x (j : Int) l = some b := by
  intro n
  induction n with
  | zero =>
    intro k j x hj hk h0 h1
    obtain ⟨k, rfl⟩ : ∃ m, k = m + 1 := ⟨k - 1, by omega⟩
    exact ⟨_, by rw [stolonref07_Few.l0, if_neg (by omega)]⟩
  | succ n ih =>
    intro k j x hj hk h0 h1
    obtain ⟨k, rfl⟩ : ∃ m, k = m + 1 := ⟨k - 1, by omega⟩
    by_cases hlt : j < l.length
    case neg => exact ⟨_, by rw [stolonref07_Few.l0, if_neg (by omega)]⟩
    by_cases hx : x ≤ 600
    case neg => exact ⟨_, by rw [stolonref07_Few.l0, if_pos (by omega), if_neg hx]⟩
    have hs := hl _ (List.getElem_mem hlt)
    have e2 : wrap64 ((j : Int) + 1) = ((j + 1 : Nat) : Int) := step64 j (by omega)
    have e3 : wrap64 (x + (l[j].f2.f1.length : Int)) = x + (l[j].f2.f1.length : Int) := w64 (by omega) (by omega)
    obtain ⟨b, hb⟩ := ih k (j + 1) (x + (l[j].f2.f1.length : Int)) (by omega) (by omega) (by omega) (by omega)
    exact ⟨b, by rw [stolonref07_Few.l0, if_pos (by omega), if_pos hx, if_pos (by omega), rd42 l j hlt, e2, e3, hb]⟩
theorem few_some (l : List S42) (hm : l.length ≤ 140737488351232) (hl : ∀ s ∈ l, s.f2.f1.length ≤ 140737488351232) (k : Nat) (hk : 1000 ≤ k) : ∃ b, stolonref07_Few.f k l = some b ∧ (b = true → l.length ≤ 600) := by
  unfold stolonref07_Few.f
  by_cases h : l.length ≤ 600
  · obtain ⟨b, hb⟩ := few_loop l h hl l.length k 0 (l.length : Int) (by omega) (by omega) (by omega) (by omega)
    exact ⟨b, hb, fun _ => h⟩
  · obtain ⟨k, rfl⟩ : ∃ m, k = m + 1 := ⟨k - 1, by omega⟩
    refine ⟨false, ?_, fun h => by cases h⟩
    rw [stolonref07_Few.l0, if_pos (by omega), if_neg (by omega), decide_eq_false (by omega)]
/-- A right socket's filter. -/
def FOk (s : S42) : Prop := Rise s.f2.f1 ∧ s.f2.f1.length ≤ 16
theorem asked_some (a : Int) : ∃ b, stolonref01_Asked.f a = some b := by
  unfold stolonref01_Asked.f
  split
  · exact ⟨_, rfl⟩
  · exact ⟨_, rfl⟩
theorem socket_some (s : S42) (k : Nat) (hk : 20 ≤ k) : ∃ b, stolonref07_socket.f k s.f0 s.f1 s.f2.f0 s.f2.f1 = some b ∧ (b = true → FOk s) := by
  unfold stolonref07_socket.f
  obtain ⟨b1, h1⟩ := asked_some s.f1
  rw [h1, Option.bind_some]
  by_cases c1 : s.f0 ≥ 1
  case neg => rw [if_neg c1]; exact ⟨_, rfl, fun h => by cases h⟩
  rw [if_pos c1]
  by_cases c2 : b1 = true
  case neg => rw [if_neg c2]; exact ⟨_, rfl, fun h => by cases h⟩
  rw [if_pos c2]
  by_cases c3 : (s.f2.f1.length : Int) ≤ 16
  case neg => rw [if_neg c3]; exact ⟨_, rfl, fun h => by cases h⟩
  rw [if_pos c3, right_some s.f2.f1 (by omega) k (by omega), Option.bind_some]
  exact ⟨_, rfl, fun h => ⟨of_decide_eq_true h, by omega⟩⟩
theorem right7_loop (l : List S42) (hm : l.length ≤ 600) : ∀ n k (j : Nat), l.length = j + n → n + 30 < k → ∃ b, stolonref07_Right.l0 k (j : Int) l = some b ∧ (b = true → l.length ≤ 32 ∧ ∀ i, j ≤ i → (h : i < l.length) → FOk l[i]) := by
  intro n
  induction n with
  | zero =>
    intro k j hj hk
    obtain ⟨k, rfl⟩ : ∃ m, k = m + 1 := ⟨k - 1, by omega⟩
    refine ⟨_, by rw [stolonref07_Right.l0, if_neg (by omega)], fun h => ⟨by have := of_decide_eq_true h; omega, fun i h1 h2 => by omega⟩⟩
  | succ n ih =>
    intro k j hj hk
    obtain ⟨k, rfl⟩ : ∃ m, k = m + 1 := ⟨k - 1, by omega⟩
    have hlt : j < l.length := by omega
    obtain ⟨b, hb, hb2⟩ := socket_some l[j] k (by omega)
    rw [stolonref07_Right.l0, if_pos (by omega), if_pos (by omega), rd42 l j hlt, hb, Option.bind_some]
    by_cases c1 : b = true
    case neg => rw [if_neg c1]; exact ⟨_, rfl, fun h => by cases h⟩
    rw [if_pos c1]
    have e2 : wrap64 ((j : Int) + 1) = ((j + 1 : Nat) : Int) := step64 j (by omega)
    obtain ⟨b3, h3, h4⟩ := ih k (j + 1) (by omega) (by omega)
    have fin : b3 = true → l.length ≤ 32 ∧ ∀ i, j ≤ i → (h : i < l.length) → FOk l[i] := fun h => ⟨(h4 h).1, fun i h1 h2 => by
      by_cases hij : i = j
      · subst hij; exact hb2 c1
      · exact (h4 h).2 i (by omega) h2⟩
    by_cases c2 : (j : Int) > 0
    case neg => rw [if_neg c2, e2, h3]; exact ⟨b3, rfl, fin⟩
    have e1 : wrap64 ((j : Int) - 1) = ((j - 1 : Nat) : Int) := by rw [w64 (by omega) (by omega)]; omega
    rw [if_pos c2, e1, if_pos (by omega), if_pos (by omega)]
    split
    · exact ⟨_, rfl, fun h => by cases h⟩
    · rw [e2, h3]; exact ⟨b3, rfl, fin⟩
theorem right7_some (l : List S42) (hm : l.length ≤ 600) (k : Nat) (hk : 1000 ≤ k) : ∃ b, stolonref07_Right.f k l = some b ∧ (b = true → l.length ≤ 32 ∧ ∀ s ∈ l, FOk s) := by
  obtain ⟨b, h1, h2⟩ := right7_loop l hm l.length k 0 (by omega) (by omega)
  refine ⟨b, h1, fun h => ⟨(h2 h).1, fun s hs => ?_⟩⟩
  obtain ⟨i, hi, rfl⟩ := List.mem_iff_getElem.1 hs
  exact (h2 h).2 i (by omega) hi
/-- What a host wants of a group. -/
def fil (l : List S42) (g : Int) : List S26 := (l.filter fun s => decide (s.f1 = g)).map fun s => s.f2
def wnt (l : List S42) (g : Int) : Bool × List Int := finS ((fil l g).foldl stepS ([], [], false))
theorem fil_ok {l : List S42} (hl : l.length ≤ 32) (h : ∀ s ∈ l, FOk s) (g : Int) : (fil l g).length ≤ 32 ∧ ∀ f ∈ fil l g, Rise f.f1 ∧ f.f1.length ≤ 200 := by
  refine ⟨by unfold fil; rw [List.length_map]; exact Nat.le_trans (List.length_filter_le _ _) hl, fun f hf => ?_⟩
  obtain ⟨s, hs, rfl⟩ := List.mem_map.1 hf
  have := h s (List.mem_filter.1 hs).1
  exact ⟨this.1, by have := this.2; omega⟩
theorem wnt_ok {l : List S42} (hl : l.length ≤ 32) (h : ∀ s ∈ l, FOk s) (g : Int) : Rise (wnt l g).2 ∧ (wnt l g).2.length ≤ 12800 := by
  obtain ⟨h1, h2⟩ := fil_ok hl h g
  obtain ⟨r1, r2, r3, r4, _⟩ := fold_keeps (fil l g) ([], [], false) h2 List.Pairwise.nil List.Pairwise.nil
  refine ⟨fin_rise r1 r2, ?_⟩
  have := fin_len ((fil l g).foldl stepS ([], [], false))
  simp only [List.length_nil] at r3 r4
  show (finS ((fil l g).foldl stepS ([], [], false))).2.length ≤ 12800
  omega
theorem wants7_loop {l : List S42} (hl : l.length ≤ 32) (h : ∀ s ∈ l, FOk s) (g : Int) : ∀ n k (j : Nat) (x : List S26), l.length = j + n → n + 100 < k → x = fil (l.take j) g → host_Wants.l0 k g x l (l.length : Int) (j : Int) = some (wnt l g) := by
  intro n
  induction n with
  | zero =>
    intro k j x hj hk hx
    obtain ⟨k, rfl⟩ : ∃ m, k = m + 1 := ⟨k - 1, by omega⟩
    obtain ⟨h1, h2⟩ := fil_ok hl h g
    rw [hx, List.take_of_length_le (by omega), host_Wants.l0, if_neg (by omega), filter_some (fil l g) (by omega) h2 k (by omega), Option.bind_some]
    rfl
  | succ n ih =>
    intro k j x hj hk hx
    obtain ⟨k, rfl⟩ : ∃ m, k = m + 1 := ⟨k - 1, by omega⟩
    have hlt : j < l.length := by omega
    have e2 : wrap64 ((j : Int) + 1) = ((j + 1 : Nat) : Int) := step64 j (by omega)
    have ht : fil (l.take (j + 1)) g = fil (l.take j) g ++ (if l[j].f1 = g then [l[j].f2] else []) := by
      rw [← List.take_append_getElem hlt]
      unfold fil
      rw [List.filter_append, List.map_append]
      congr 1
      by_cases c : l[j].f1 = g <;> simp [c]
    have hxl : x.length ≤ 32 := by
      rw [hx]
      unfold fil
      rw [List.length_map]
      exact Nat.le_trans (List.length_filter_le _ _) (by rw [List.length_take]; omega)
    rw [host_Wants.l0, if_pos (by omega), if_pos (by omega), if_pos (by omega), rd42 l j hlt, e2]
    by_cases c : l[j].f1 = g
    · rw [if_pos c, if_pos (by omega)]
      exact ih k (j + 1) _ (by omega) (by omega) (by rw [ht, if_pos c, hx])
    · rw [if_neg c]
      exact ih k (j + 1) _ (by omega) (by omega) (by rw [ht, if_neg c, hx, List.append_nil])
theorem wants7_some {l : List S42} (hl : l.length ≤ 32) (h : ∀ s ∈ l, FOk s) (g : Int) (k : Nat) (hk : 200 ≤ k) : host_Wants.f k l g = some (wnt l g) := by
  unfold host_Wants.f
  exact wants7_loop hl h g l.length k 0 [] (by omega) (by omega) rfl
def some7 (f : Bool × List Int) : Bool := f.1 || decide (0 < f.2.length)
theorem some7_some (f : Bool × List Int) : host_some.f f.1 f.2 = some (some7 f) := by
  unfold host_some.f some7
  cases h : f.1
  · rw [if_neg (by decide)]
    congr 1
    by_cases c : 0 < f.2.length
    · rw [decide_eq_true c, decide_eq_true (by omega)]; rfl
    · rw [decide_eq_false c, decide_eq_false (by omega)]; rfl
  · rw [if_pos rfl]; rfl
/-- The groups that a host has. -/
def gps (l : List S42) (t : List S42) : List Int := (t.filter fun s => some7 (wnt l s.f1)).map fun s => s.f1
theorem groups_loop {l : List S42} (hl : l.length ≤ 32) (h : ∀ s ∈ l, FOk s) : ∀ n k (j : Nat) (x : List Int), l.length = j + n → n + 300 < k → x = gps l (l.take j) → host_Groups.l0 k x l (l.length : Int) (j : Int) l = some (mk (gps l l)) := by
  intro n
  induction n with
  | zero =>
    intro k j x hj hk hx
    obtain ⟨k, rfl⟩ : ∃ m, k = m + 1 := ⟨k - 1, by omega⟩
    have hlen : (gps l l).length ≤ 32 := by unfold gps; rw [List.length_map]; exact Nat.le_trans (List.length_filter_le _ _) hl
    rw [hx, List.take_of_length_le (by omega), host_Groups.l0, if_neg (by omega), set_Make.f, if_pos (by omega), Option.bind_some]
  | succ n ih =>
    intro k j x hj hk hx
    obtain ⟨k, rfl⟩ : ∃ m, k = m + 1 := ⟨k - 1, by omega⟩
    have hlt : j < l.length := by omega
    have e2 : wrap64 ((j : Int) + 1) = ((j + 1 : Nat) : Int) := step64 j (by omega)
    have ht : gps l (l.take (j + 1)) = gps l (l.take j) ++ (if some7 (wnt l l[j].f1) = true then [l[j].f1] else []) := by
      rw [← List.take_append_getElem hlt]
      unfold gps
      rw [List.filter_append, List.map_append]
      congr 1
      cases c : some7 (wnt l l[j].f1) <;> simp [c]
    have hxl : x.length ≤ 32 := by
      rw [hx]
      unfold gps
      rw [List.length_map]
      exact Nat.le_trans (List.length_filter_le _ _) (by rw [List.length_take]; omega)
    rw [host_Groups.l0, if_pos (by omega), if_pos (by omega), if_pos (by omega), rd42 l j hlt, wants7_some hl h l[j].f1 k (by omega), Option.bind_some, some7_some, Option.bind_some, e2]
    cases c : some7 (wnt l l[j].f1)
    · rw [if_neg (by decide)]
      exact ih k (j + 1) _ (by omega) (by omega) (by rw [ht, c, if_neg (by decide), hx, List.append_nil])
    · rw [if_pos rfl, if_pos (by omega)]
      exact ih k (j + 1) _ (by omega) (by omega) (by rw [ht, c, if_pos rfl, hx])
theorem groups7_some {l : List S42} (hl : l.length ≤ 32) (h : ∀ s ∈ l, FOk s) (k : Nat) (hk : 1000 ≤ k) : host_Groups.f k l = some (mk (gps l l)) := by
  unfold host_Groups.f
  exact groups_loop hl h l.length k 0 [] (by omega) (by omega) rfl
theorem groups_mem {l : List S42} {g : Int} (h : g ∈ mk (gps l l)) : some7 (wnt l g) = true := by
  rw [mk_mem] at h
  unfold gps at h
  obtain ⟨s, hs, rfl⟩ := List.mem_map.1 h
  exact (List.mem_filter.1 hs).2
theorem current7_some {l : List S42} (hl : l.length ≤ 32) (h : ∀ s ∈ l, FOk s) (g : Int) (k : Nat) (hk : 200 ≤ k) : host_current.f k l g = some ((if (wnt l g).1 = true then 2 else 1), g, (wnt l g).2) := by
  unfold host_current.f
  rw [wants7_some hl h g k hk, Option.bind_some]
  split <;> rfl
theorem rec5_some {k : Nat} (x : S36) (hm : x.f2.length ≤ 100000) (hk : 100001 < k) : stolonref05_Rec.f k x.f0 x.f1 x.f2 x.f0 x.f1 x.f2 = some true := by
  unfold stolonref05_Rec.f
  rw [if_pos rfl, if_pos rfl, rows_some x.f2 x.f2 (by omega) k (by omega), Option.bind_some]
  simp
theorem recs_loop (xs : List S36) (hx : ∀ r ∈ xs, r.f2.length ≤ 100000) (hm : xs.length ≤ 1000) : ∀ n k (j : Nat), xs.length ≤ j + n → n + 100002 < k → stolonref05_Recs.l0 k xs xs (j : Int) = some true := by
  intro n
  induction n with
  | zero =>
    intro k j hj hk
    obtain ⟨k, rfl⟩ : ∃ m, k = m + 1 := ⟨k - 1, by omega⟩
    rw [stolonref05_Recs.l0, if_neg (by omega)]
  | succ n ih =>
    intro k j hj hk
    obtain ⟨k, rfl⟩ : ∃ m, k = m + 1 := ⟨k - 1, by omega⟩
    by_cases hlt : j < xs.length
    case neg => rw [stolonref05_Recs.l0, if_neg (by omega)]
    have e2 : wrap64 ((j : Int) + 1) = ((j + 1 : Nat) : Int) := step64 j (by omega)
    rw [stolonref05_Recs.l0, if_pos (by omega), if_pos (by omega), if_pos (by omega), rd36 xs j hlt, rec5_some _ (hx _ (List.getElem_mem hlt)) (by omega), Option.bind_some, if_pos rfl, e2]
    exact ih k (j + 1) (by omega) (by omega)
theorem recs_same (xs : List S36) (hx : ∀ r ∈ xs, r.f2.length ≤ 100000) (hm : xs.length ≤ 1000) (k : Nat) (hk : 102000 ≤ k) : stolonref05_Recs.f k xs xs = some true := by
  unfold stolonref05_Recs.f
  rw [if_pos rfl]
  exact recs_loop xs hx hm xs.length k 0 (by omega) (by omega)
end Go.Proofs.Ytjncmiclpaodhaa
/-
  HostGroups, joined: the walk and what it computes.
-/
namespace Go.Proofs.Ytjncmiclpaodhaa
open Go.RowKit Go.Proofs.YtjncmiclpaodhaaW.PrintWords Go.Proofs.Ytjncmiclpaodhaa.PHo
set_option linter.unusedVariables false
set_option linter.unusedSimpArgs false
theorem rwants2_some (f : Bool) (l : List Int) (a : Int) (hm : l.length ≤ 1000000000) (k : Nat) (hk : l.length < k) : stolonref06_Wants.f k f l a = some (decide (a ∈ l) != f) := by
  unfold stolonref06_Wants.f
  rw [rhas_some l a hm k hk, Option.bind_some]
theorem hostGroups_call {l : List S42} (hm : l.length ≤ 140737488351232) (hs : ∀ s ∈ l, s.f2.f1.length ≤ 140737488351232) (x : Int) (A_l : Option Addr) (c_l : Nat) (w : World) (hr : Kd.C k42 w A_l l.length l) (hc : l.length ≤ c_l) :
    Calls Try.prog 7 #[.agg #[.slice A_l l.length c_l], .int .u32 x] w fun e w' => e = .returned (.bool true) ∧ Below w.heap.size w w' := by
  obtain ⟨b, hf, hf2⟩ := few_some l hm hs 200000 (by decide)
  cases b
  · exact groups_few hf x A_l c_l w hr hc
  obtain ⟨b, hg, hg2⟩ := right7_some l (hf2 rfl) 200000 (by decide)
  cases b
  · exact groups_wrong hf hg x A_l c_l w hr hc
  obtain ⟨hl, ho⟩ := hg2 rfl
  have hG := groups7_some hl ho 200000 (by decide)
  have hgl : (mk (gps l l)).length ≤ 32 := by
    refine Nat.le_trans (mk_len _) ?_
    unfold gps
    rw [List.length_map]
    exact Nat.le_trans (List.length_filter_le _ _) hl
  refine groups_main x (k := 200000) (l := l) hf hg (G := mk (gps l l)) hG (by omega) ?_ (e0 := (wnt l 0).1) (s0 := (wnt l 0).2) (wants7_some hl ho 0 _ (by decide)) (we := fun g => (wnt l g).1) (ws := fun g => (wnt l g).2) (fun g _ => wants7_some hl ho g _ (by decide)) (fun g _ => current7_some hl ho g _ (by decide)) ?_ (wb := fun g => decide (x ∈ (wnt l g).2) != (wnt l g).1) (hb := fun g => decide (x ∈ (wnt l g).2)) ?_ ?_ (fun g _ => rfl) ?_ A_l c_l w hr hc
  · rw [right_some _ (by omega) _ (by omega), decide_eq_true (mk_rise _)]
  · intro g hg1 hg3
    have h := groups_mem hg1
    unfold some7 at h
    have hg4 : (wnt l g).1 = false := hg3
    rw [hg4, Bool.false_or] at h
    exact of_decide_eq_true h
  · intro g _
    have := (wnt_ok hl ho g).2
    exact rwants2_some _ _ _ (by omega) _ (by omega)
  · intro g _
    have := (wnt_ok hl ho g).2
    exact rhas_some _ _ (by omega) _ (by omega)
  · refine recs_same _ ?_ (by rw [List.length_map]; omega) _ (by decide)
    intro r hr2
    obtain ⟨g, _, rfl⟩ := List.mem_map.1 hr2
    have := (wnt_ok hl ho g).2
    show (wnt l g).2.length ≤ 100000
    omega
end Go.Proofs.Ytjncmiclpaodhaa
/-
  What a law's row hands over, read as the printed functions read it: for any kind built of numbers, truths, texts, slices and structs. By a session.
-/
namespace Go.Proofs.Ytjncmiclpaodhaa
open Go.ChangeShapes Go.WideShapes Go.RowKit Go.Proofs.YtjncmiclpaodhaaW.PrintWords

/-- What is trod and is light enough is read, and keeps the bounds WF. -/
def Opens {α : Type} (H : Type) (P : Program) (t : TypeId) (d : Kd α) (WF : α → Prop) : Prop :=
  ∀ {enc : TypeId × Value → H} {w : World} {fuel : Nat} {cs : List Value} {x : DataW H} {ps : List MemPlace},
    DataW.trod enc P w 0 (fun _ => true) true fuel t cs = some (x, ps) → (∀ n ∈ x.weights P t, n ≤ reachBytes) → ∃ a, d.K w a cs ∧ WF a

section
variable {H : Type} {P : Program} {t e : TypeId}
theorem opens_int {k : IntKind} (ht : P.underlying t = some (.int k)) : Opens H P t (Kd.int k) (fun a => (Lit.int k a).wf = true) := by
  intro enc w fuel cs x ps h _
  obtain ⟨n, rfl, _, hw⟩ := DataW.trod_int ht h
  exact ⟨n, rfl, hw⟩
theorem opens_bool (ht : P.underlying t = some .bool) : Opens H P t Kd.bool (fun _ => True) := by
  intro enc w fuel cs x ps h _
  obtain ⟨b, rfl, _⟩ := DataW.trod_bool ht h
  exact ⟨b, rfl, trivial⟩
theorem weights_all {l : List (DataW H)} {y : DataW H} (h : y ∈ l) : ∀ n ∈ y.weights P e, n ∈ DataW.weightsAll P e l := by
  induction l with
  | nil => simp at h
  | cons z l ih =>
    intro n hn
    rw [DataW.weightsAll, List.mem_append]
    rcases List.mem_cons.1 h with rfl | h
    · exact .inl hn
    · exact .inr (ih h n hn)

theorem mapM_get {α β : Type} {f : α → Option β} : ∀ {l : List α} {r : List β}, l.mapM f = some r → ∀ (i : Nat) (x : α), l[i]? = some x → f x = r[i]?
  | [], r, h, i, x, hx => by simp at hx
  | y :: l, r, h, i, x, hx => by
    rw [List.mapM_cons] at h
    simp only [Option.bind_eq_bind, Option.bind_eq_some_iff, Option.pure_def, Option.some.injEq] at h
    obtain ⟨z, hz, r', hr, rfl⟩ := h
    cases i with
    | zero => simp at hx; subst hx; simpa using hz
    | succ i => simp at hx; simpa using mapM_get hr i x hx
theorem mapM_len {α β : Type} {f : α → Option β} : ∀ {l : List α} {r : List β}, l.mapM f = some r → r.length = l.length
  | [], r, h => by simp at h; subst h; rfl
  | y :: l, r, h => by
    rw [List.mapM_cons] at h
    simp only [Option.bind_eq_bind, Option.bind_eq_some_iff, Option.pure_def, Option.some.injEq] at h
    obtain ⟨z, hz, r', hr, rfl⟩ := h
    simp [mapM_len hr]
theorem cells_get {w : World} {base : Nat} {a : Addr} {n : Nat} {cs : List Value} (h : w.cells? base a n = some cs) : cs.length = n ∧ ∀ i u, cs[i]? = some u → w.cell? (a.add i) = some u := by
  unfold World.cells? at h
  split at h
  · have hl := mapM_len h
    rw [List.length_range] at hl
    refine ⟨hl, fun i u hu => ?_⟩
    have hi : i < n := by rw [← hl]; exact (List.getElem?_eq_some_iff.1 hu).1
    rw [mapM_get h i i (by simp [hi]), hu]
  · cases h
theorem opens_slice {α : Type} {d : Kd α} {WF : α → Prop} (ht : P.underlying t = some (.slice e)) (hd : P.cellsOf e = d.sz) (he : Opens H P e d WF) :
    Opens H P t (Kd.slice e d) (fun xs => xs.length ≤ maxLen ∧ xs.length * P.bytesOf e ≤ reachBytes ∧ ∀ a ∈ xs, WF a) := by
  intro enc w fuel cs x ps h hw
  rcases DataW.trod_slice ht h with ⟨rfl, hx⟩ | ⟨a, len, cap, elems, rest, n, _, rfl, hx, _, hl, hm, hlen, hel, hsp, _⟩
  · exact ⟨[], ⟨none, 0, rfl, Nat.le_refl _, rfl, by simp, by simp⟩, by simp, by simp, by simp⟩
  · cases hx
    have hwt := hw ((elems.length + rest.length) * P.bytesOf e) (by simp [DataW.weights, ht])
    have each : ∀ i (hi : i < len), ∃ y : α, ∃ c : List Value, c.length = d.sz ∧ d.K w y c ∧ WF y ∧ ∀ j u, c[j]? = some u → w.cell? (a.add (i * d.sz + j)) = some u := by
      intro i hi
      have h1 := hel i hi
      rw [List.getElem?_eq_getElem (by omega), Option.bind_eq_some_iff] at h1
      obtain ⟨c, hc, hy⟩ := h1
      obtain ⟨hcl, hcc⟩ := cells_get hc
      obtain ⟨y, hk, hwf⟩ := he hy (fun n hn => hw n (by
        simp only [DataW.weights, ht, List.mem_cons, List.mem_append]
        exact .inr (.inl (weights_all (List.mem_map.2 ⟨elems[i], List.getElem_mem _, rfl⟩) n hn))))
      refine ⟨y, c, by rw [hcl, hd], hk, hwf, fun j u hu => ?_⟩
      have := hcc j u hu
      rwa [hd, add_add] at this
    have pick : ∃ ys : List α, ys.length = len ∧ ∀ i (y : α), ys[i]? = some y → ∃ c : List Value, c.length = d.sz ∧ d.K w y c ∧ WF y ∧ ∀ j u, c[j]? = some u → w.cell? (a.add (i * d.sz + j)) = some u := by
      clear hel hsp hw hwt hl hlen h
      induction len with
      | zero => exact ⟨[], rfl, fun i y h => by simp at h⟩
      | succ m ih =>
        obtain ⟨ys, hys, hyc⟩ := ih (fun i hi => each i (by omega))
        obtain ⟨y, hy⟩ := each m (by omega)
        refine ⟨ys ++ [y], by simp [hys], fun i z hz => ?_⟩
        rcases Nat.lt_or_ge i ys.length with h | h
        · rw [List.getElem?_append_left h] at hz
          exact hyc i z hz
        · rw [List.getElem?_append_right h] at hz
          have : i = m := by
            have := (List.getElem?_eq_some_iff.1 hz).1
            simp at this; omega
          subst this
          rw [hys, Nat.sub_self] at hz
          simp at hz
          subst hz
          exact hy
    obtain ⟨ys, hys, hyc⟩ := pick
    subst hys
    refine ⟨ys, ⟨some a, cap, rfl, hl, rfl, Nat.le_trans (Nat.le_trans hl hm) (by simp [maxLen]), fun _ => ⟨a, rfl, fun j p hp => ?_⟩⟩, Nat.le_trans hl hm, ?_, ?_⟩
    · obtain ⟨c, h1, h2, _, h3⟩ := hyc j p hp
      exact ⟨c, h1, h2, h3⟩
    · exact Nat.le_trans (Nat.mul_le_mul_right _ (by omega)) hwt
    · intro y hy
      obtain ⟨i, hi⟩ := List.getElem?_of_mem hy
      obtain ⟨c, _, _, hwf, _⟩ := hyc i y hi
      exact hwf

/-- A struct's fields from one on. -/
def OpensFs {α : Type} (H : Type) (P : Program) (fs : List Field) (off : Nat) (d : Kd α) (WF : α → Prop) : Prop :=
  ∀ {enc : TypeId × Value → H} {w : World} {fuel : Nat} {cs : List Value} {xs : List (DataW H × List MemPlace)},
    xs.length = fs.length → (∀ (i : Nat) (f : Field), fs[i]? = some f → DataW.trod enc P w 0 (fun _ => true) true fuel f.type ((cs.drop f.offset).take (P.cellsOf f.type)) = xs[i]?) →
    cs.length = off + d.sz → (∀ n ∈ DataW.weightsEach P (fs.map (·.type)) (xs.map (·.1)), n ≤ reachBytes) → ∃ a, d.K w a (cs.drop off) ∧ WF a

theorem opens_last {α : Type} {d : Kd α} {WF : α → Prop} {f : Field} {off : Nat} (ho : f.offset = off) (hc : P.cellsOf f.type = d.sz) (hf : Opens H P f.type d WF) : OpensFs H P [f] off d WF := by
  intro enc w fuel cs xs hl hx hcs hw
  obtain ⟨x, rfl⟩ : ∃ x, xs = [x] := by
    match xs, hl with
    | [x], _ => exact ⟨x, rfl⟩
  have h := hx 0 f rfl
  rw [ho, hc, List.take_of_length_le (by simp; omega)] at h
  exact hf (x := x.1) (ps := x.2) h (fun n hn => hw n (by simp [DataW.weightsEach]; exact hn))
theorem opens_cons {α β : Type} {d : Kd α} {d' : Kd β} {WF : α → Prop} {WF' : β → Prop} {f : Field} {fs : List Field} {off : Nat} (ho : f.offset = off) (hc : P.cellsOf f.type = d.sz) (hf : Opens H P f.type d WF)
    (hfs : OpensFs H P fs (off + d.sz) d' WF') : OpensFs H P (f :: fs) off (Kd.pair d d') (fun x => WF x.1 ∧ WF' x.2) := by
  intro enc w fuel cs xs hl hx hcs hw
  obtain ⟨x, xs, rfl⟩ : ∃ x r, xs = x :: r := by
    match xs, hl with
    | x :: r, _ => exact ⟨x, r, rfl⟩
  have h := hx 0 f rfl
  rw [ho, hc] at h
  obtain ⟨a, ha, hwa⟩ := hf (x := x.1) (ps := x.2) h (fun n hn => hw n (by simp only [List.map_cons, DataW.weightsEach, List.mem_append]; exact .inl hn))
  obtain ⟨b, hb, hwb⟩ := hfs (cs := cs) (xs := xs) (fuel := fuel) (enc := enc) (w := w) (by simpa using hl) (fun i g hg => by have := hx (i + 1) g (by simpa using hg); simpa using this) (by rw [hcs]; exact (Nat.add_assoc _ _ _).symm)
    (fun n hn => hw n (by simp only [List.map_cons, DataW.weightsEach, List.mem_append]; exact .inr hn))
  refine ⟨(a, b), ⟨(cs.drop off).take d.sz, cs.drop (off + d.sz), ?_, ha, hb⟩, hwa, hwb⟩
  rw [← List.drop_drop, List.take_append_drop]
theorem opens_struct {α : Type} {d : Kd α} {WF : α → Prop} {fs : Array Field} (ht : P.underlying t = some (.struct fs)) (hc : P.cellsOf t = d.sz) (hfs : OpensFs H P fs.toList 0 d WF) : Opens H P t d WF := by
  intro enc w fuel cs x ps h hw
  obtain ⟨xs, n, _, hx, hl, hlx, hf⟩ := DataW.trod_struct ht h
  cases hx
  obtain ⟨a, ha, hwa⟩ := hfs (cs := cs) (xs := xs) (fuel := n) (enc := enc) (w := w) (by simpa using hlx) (fun i f hi => hf i f (by simpa using hi)) (by rw [hl, hc]; simp) (fun m hm => hw m (by simpa [DataW.weights, ht] using hm))
  exact ⟨a, by simpa using ha, hwa⟩
theorem opens_iso {α β : Type} {d : Kd α} {WF : α → Prop} {f : β → α} (g : α → β) (hg : ∀ a, f (g a) = a) (h : Opens H P t d WF) : Opens H P t (Kd.iso d f) (fun b => WF (f b)) := by
  intro enc w fuel cs x ps hx hw
  obtain ⟨a, ha, hwa⟩ := h hx hw
  exact ⟨g a, by show d.K w (f (g a)) cs; rw [hg]; exact ha, by show WF (f (g a)); rw [hg]; exact hwa⟩
/-- For a row's j-th argument. -/
theorem Opens.row {α : Type} {d : Kd α} {WF : α → Prop} (h : Opens H P t d WF) {enc : TypeId × Value → H} {W : World} {ts : List TypeId} {ds : List (DataW H)} {j : Nat} {v : Value} {x : DataW H} {ps : List MemPlace}
    (hsz : (DataW.weightsEach P ts ds).all (· ≤ reachBytes) = true) (ht : ts[j]? = some t) (hd : ds[j]? = some x) (hv : DataW.Trod enc P W 0 (fun _ => true) true t v x ps) : ∃ a, d.K W a v.cells.toList ∧ WF a := by
  obtain ⟨fuel, hf⟩ := hv
  refine h hf fun n hn => ?_
  have := List.all_eq_true.1 hsz _ (DataW.weights_mem_each ht hd n hn)
  simpa using this
end
end Go.Proofs.Ytjncmiclpaodhaa
