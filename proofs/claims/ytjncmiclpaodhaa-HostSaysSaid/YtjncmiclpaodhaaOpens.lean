/-
  Sets in plain lists, for chapter 07 (out of chapter 06's plain laws).
-/
import Derived.Test.YtjncmiclpaodhaaHoM
import Derived.Test.YtjncmiclpaodhaaPHox13
import Derived.SizedLaws
import Derived.ChangeSlices
import Derived.ChangeArms
import Derived.Test.YtjncmiclpaodhaaVWords
namespace Go.Proofs.Ytjncmiclpaodhaa
open Go.RowKit Go.Proofs.YtjncmiclpaodhaaW.PrintWords Go.Proofs.Ytjncmiclpaodhaa.PHo
set_option linter.unusedVariables false
set_option linter.unusedSimpArgs false
theorem w64 {i : Int} (h0 : -9223372036854775808 ≤ i) (h1 : i ≤ 9223372036854775807) : wrap64 i = i := by unfold wrap64; omega
theorem rd_eq (l : List Int) (i : Int) : rd l i = l.getD i.toNat 0 := rfl
abbrev Rise (l : List Int) : Prop := l.Pairwise (· < ·)
theorem getD_eq (l : List Int) (i : Nat) (h : i < l.length) : l.getD i 0 = l[i] := by
  rw [List.getD_eq_getElem?_getD, List.getElem?_eq_getElem h]; rfl
theorem rise_iff (l : List Int) : (∀ i, 1 ≤ i → i < l.length → l.getD (i - 1) 0 < l.getD i 0) ↔ Rise l := by
  constructor
  · intro h
    rw [Rise, List.pairwise_iff_getElem]
    intro i j hi hj hij
    rw [← getD_eq l i hi, ← getD_eq l j hj]
    clear hi
    induction j with
    | zero => omega
    | succ j ih =>
      have h1 := h (j + 1) (by omega) hj
      rw [Nat.add_sub_cancel] at h1
      rcases Nat.lt_or_ge i j with h2 | h2
      · have := ih (by omega) h2; omega
      · obtain rfl : i = j := by omega
        exact h1
  · intro h i h1 h2
    rw [Rise, List.pairwise_iff_getElem] at h
    rw [getD_eq l i h2, getD_eq l (i - 1) (by omega)]
    exact h _ _ _ _ (by omega)
open Classical in
theorem right_loop (l : List Int) (hm : l.length ≤ 1000000000) : ∀ n k (j : Nat), 1 ≤ j → l.length ≤ j + n → n < k →
    stolonref06_Right.l0 k l j = some (decide (∀ i, j ≤ i → i < l.length → l.getD (i - 1) 0 < l.getD i 0)) := by
  intro n
  induction n with
  | zero =>
    intro k j h1 h2 hk
    obtain ⟨k, rfl⟩ : ∃ k', k = k' + 1 := ⟨k - 1, by omega⟩
    rw [stolonref06_Right.l0, if_neg (by omega)]
    congr 1
    symm
    rw [decide_eq_true_eq]
    intro i hi hl; omega
  | succ n ih =>
    intro k j h1 h2 hk
    obtain ⟨k, rfl⟩ : ∃ k', k = k' + 1 := ⟨k - 1, by omega⟩
    rw [stolonref06_Right.l0]
    by_cases hj : j < l.length
    · rw [if_pos (by omega), w64 (by omega) (by omega), if_pos (by omega), if_pos (by omega), if_pos (by omega)]
      rw [rd_eq, rd_eq, show ((j : Int) - 1).toNat = j - 1 from by omega, show ((j : Int)).toNat = j from by omega]
      split
      · rename_i hge
        congr 1
        symm
        rw [decide_eq_false_iff_not]
        intro h
        have := h j (Nat.le_refl _) hj
        omega
      · rename_i hge
        rw [w64 (by omega) (by omega), show (j : Int) + 1 = ((j + 1 : Nat) : Int) from by omega, ih k (j + 1) (by omega) (by omega) (by omega)]
        congr 1
        rw [decide_eq_decide]
        constructor
        · intro h i hi hl
          rcases Nat.lt_or_ge j i with h' | h'
          · exact h i (by omega) hl
          · obtain rfl : i = j := by omega
            omega
        · intro h i hi hl
          exact h i (by omega) hl
    · rw [if_neg (by omega)]
      congr 1
      symm
      rw [decide_eq_true_eq]
      intro i hi hl; omega
theorem right_some (l : List Int) (hm : l.length ≤ 1000000000) (k : Nat) (hk : l.length < k) : stolonref06_Right.f k l = some (decide (Rise l)) := by
  unfold stolonref06_Right.f
  have := right_loop l hm l.length k 1 (Nat.le_refl _) (by omega) hk
  rw [show ((1 : Nat) : Int) = 1 from rfl] at this
  rw [this]
  congr 1
  rw [decide_eq_decide]
  exact rise_iff l
theorem both_all (a b : List Int) : ∀ x, x ∈ a ∨ x ∈ b → ∃ t ∈ bothOf a b, t.1 = x := by
  induction a, b using bothOf.induct with
  | case1 => intro x h; simp at h
  | case2 y a ih =>
    intro x h
    rw [bothOf]
    rcases h with h | h
    · rcases List.mem_cons.1 h with rfl | h
      · exact ⟨_, List.mem_cons_self, rfl⟩
      · obtain ⟨t, h1, h2⟩ := ih x (.inl h)
        exact ⟨t, List.mem_cons_of_mem _ h1, h2⟩
    · simp at h
  | case3 y b ih =>
    intro x h
    rw [bothOf]
    rcases h with h | h
    · simp at h
    · rcases List.mem_cons.1 h with rfl | h
      · exact ⟨_, List.mem_cons_self, rfl⟩
      · obtain ⟨t, h1, h2⟩ := ih x (.inr h)
        exact ⟨t, List.mem_cons_of_mem _ h1, h2⟩
  | case4 z a y b hlt ih =>
    intro x h
    rw [bothOf, if_pos hlt]
    by_cases hx : x = z
    · subst hx; exact ⟨_, List.mem_cons_self, rfl⟩
    · obtain ⟨t, h1, h2⟩ := ih x (by simpa [hx] using h)
      exact ⟨t, List.mem_cons_of_mem _ h1, h2⟩
  | case5 z a y b hlt hlt' ih =>
    intro x h
    rw [bothOf, if_neg hlt, if_pos hlt']
    by_cases hx : x = y
    · subst hx; exact ⟨_, List.mem_cons_self, rfl⟩
    · obtain ⟨t, h1, h2⟩ := ih x (by simpa [hx] using h)
      exact ⟨t, List.mem_cons_of_mem _ h1, h2⟩
  | case6 z a y b hlt hlt' ih =>
    intro x h
    rw [bothOf, if_neg hlt, if_neg hlt']
    obtain rfl : z = y := by omega
    by_cases hx : x = z
    · subst hx; exact ⟨_, List.mem_cons_self, rfl⟩
    · obtain ⟨t, h1, h2⟩ := ih x (by simpa [hx] using h)
      exact ⟨t, List.mem_cons_of_mem _ h1, h2⟩
theorem both_spec (a b : List Int) : Rise a → Rise b → ∀ t ∈ bothOf a b, t.2.1 = decide (t.1 ∈ a) ∧ t.2.2 = decide (t.1 ∈ b) ∧ (t.1 ∈ a ∨ t.1 ∈ b) := by
  induction a, b using bothOf.induct with
  | case1 => intro _ _ t h; simp [bothOf] at h
  | case2 y a ih =>
    intro ha hb t h
    rw [bothOf] at h
    have ha' := List.pairwise_cons.1 ha
    rcases List.mem_cons.1 h with rfl | h
    · simp
    · obtain ⟨h1, h2, h3⟩ := ih ha'.2 hb t h
      refine ⟨?_, h2, ?_⟩
      · rw [h1, decide_eq_decide, List.mem_cons]
        constructor
        · exact .inr
        · rintro (e | h)
          · rcases h3 with h3 | h3
            · exact h3
            · simp at h3
          · exact h
      · rcases h3 with h3 | h3
        · exact .inl (List.mem_cons_of_mem _ h3)
        · exact .inr h3
  | case3 y b ih =>
    intro ha hb t h
    rw [bothOf] at h
    have hb' := List.pairwise_cons.1 hb
    rcases List.mem_cons.1 h with rfl | h
    · simp
    · obtain ⟨h1, h2, h3⟩ := ih ha hb'.2 t h
      have h4 : t.1 ∈ b := by simpa using h3
      refine ⟨h1, ?_, .inr (List.mem_cons_of_mem _ h4)⟩
      rw [h2, decide_eq_decide]
      exact ⟨fun h => List.mem_cons_of_mem _ h, fun _ => h4⟩
  | case4 z a y b hlt ih =>
    intro ha hb t h
    rw [bothOf, if_pos hlt] at h
    have ha' := List.pairwise_cons.1 ha
    have hb' := List.pairwise_cons.1 hb
    rcases List.mem_cons.1 h with rfl | h
    · refine ⟨by simp, ?_, .inl List.mem_cons_self⟩
      symm
      rw [decide_eq_false_iff_not, List.mem_cons]
      rintro (e | h')
      · simp at e; omega
      · have := hb'.1 _ h'; simp at this; omega
    · obtain ⟨h1, h2, h3⟩ := ih ha'.2 hb t h
      have hne : t.1 ≠ z := by
        rintro e
        rcases h3 with h3 | h3
        · have := ha'.1 _ h3; omega
        · rcases List.mem_cons.1 h3 with h3 | h3
          · omega
          · have := hb'.1 _ h3; omega
      refine ⟨by rw [h1, decide_eq_decide]; simp [hne], h2, by simp [hne]; simpa using h3⟩
  | case5 z a y b hlt hlt' ih =>
    intro ha hb t h
    rw [bothOf, if_neg hlt, if_pos hlt'] at h
    have ha' := List.pairwise_cons.1 ha
    have hb' := List.pairwise_cons.1 hb
    rcases List.mem_cons.1 h with rfl | h
    · refine ⟨?_, by simp, .inr List.mem_cons_self⟩
      symm
      rw [decide_eq_false_iff_not, List.mem_cons]
      rintro (e | h')
      · simp at e; omega
      · have := ha'.1 _ h'; simp at this; omega
    · obtain ⟨h1, h2, h3⟩ := ih ha hb'.2 t h
      have hne : t.1 ≠ y := by
        rintro e
        rcases h3 with h3 | h3
        · rcases List.mem_cons.1 h3 with h3 | h3
          · omega
          · have := ha'.1 _ h3; omega
        · have := hb'.1 _ h3; omega
      refine ⟨h1, by rw [h2, decide_eq_decide]; simp [hne], by simp [hne]; simpa using h3⟩
  | case6 z a y b hlt hlt' ih =>
    intro ha hb t h
    rw [bothOf, if_neg hlt, if_neg hlt'] at h
    obtain rfl : z = y := by omega
    have ha' := List.pairwise_cons.1 ha
    have hb' := List.pairwise_cons.1 hb
    rcases List.mem_cons.1 h with rfl | h
    · simp
    · obtain ⟨h1, h2, h3⟩ := ih ha'.2 hb'.2 t h
      have hne : t.1 ≠ z := by
        rintro e
        rcases h3 with h3 | h3
        · have := ha'.1 _ h3; omega
        · have := hb'.1 _ h3; omega
      refine ⟨by rw [h1, decide_eq_decide]; simp [hne], by rw [h2, decide_eq_decide]; simp [hne], by simp [hne]; exact h3⟩
theorem sel_mem {p : Bool → Bool → Bool} {a b : List Int} (ha : Rise a) (hb : Rise b) (x : Int) :
    x ∈ selOf p (bothOf a b) ↔ (x ∈ a ∨ x ∈ b) ∧ p (decide (x ∈ a)) (decide (x ∈ b)) = true := by
  unfold selOf
  rw [List.mem_map]
  constructor
  · rintro ⟨t, ht, rfl⟩
    obtain ⟨h1, h2⟩ := List.mem_filter.1 ht
    obtain ⟨e1, e2, e3⟩ := both_spec a b ha hb t h1
    rw [e1, e2] at h2
    exact ⟨e3, h2⟩
  · rintro ⟨h1, h2⟩
    obtain ⟨t, ht, rfl⟩ := both_all a b x h1
    obtain ⟨e1, e2, e3⟩ := both_spec a b ha hb t ht
    refine ⟨t, List.mem_filter.2 ⟨ht, ?_⟩, rfl⟩
    rw [e1, e2]
    exact h2
def mns (a b : List Int) : List Int := selOf (fun x y => x && !y) (bothOf a b)
theorem mns_some {a b : List Int} (h : a.length ≤ 1000000000) (h' : b.length ≤ 1000000000) : set_Minus.f a b = some (mns a b) := by rw [set_Minus.f, if_pos ⟨h, h'⟩]; rfl
theorem sel_len2 (p : Bool → Bool → Bool) (a b : List Int) : (selOf p (bothOf a b)).length ≤ a.length + b.length := Nat.le_trans (selOf_len _ _) (bothOf_len _ _)
theorem mns_len (a b : List Int) : (mns a b).length ≤ a.length + b.length := sel_len2 _ _ _
theorem mns_mem {a b : List Int} (ha : Rise a) (hb : Rise b) (x : Int) : x ∈ mns a b ↔ x ∈ a ∧ x ∉ b := by
  unfold mns; rw [sel_mem ha hb]; simp only [Bool.and_eq_true, decide_eq_true_eq, Bool.not_eq_true', decide_eq_false_iff_not]
  exact ⟨fun h => h.2, fun h => ⟨.inl h.1, h⟩⟩
theorem step64 (j : Nat) (h : j ≤ 1000000000000000) : wrap64 ((j : Int) + 1) = ((j + 1 : Nat) : Int) := by rw [w64 (by omega) (by omega)]; omega
theorem rhas_loop (l : List Int) (x : Int) (hm : l.length ≤ 1000000000) : ∀ n k (j : Nat), l.length ≤ j + n → n < k → stolonref06_Has.l0 k l x j = some (decide (x ∈ l.drop j)) := by
  intro n
  induction n with
  | zero =>
    intro k j h2 hk
    obtain ⟨k, rfl⟩ : ∃ k', k = k' + 1 := ⟨k - 1, by omega⟩
    rw [stolonref06_Has.l0, if_neg (by omega), List.drop_of_length_le (by omega)]
    simp
  | succ n ih =>
    intro k j h2 hk
    obtain ⟨k, rfl⟩ : ∃ k', k = k' + 1 := ⟨k - 1, by omega⟩
    rw [stolonref06_Has.l0]
    by_cases hj : j < l.length
    · rw [if_pos (by omega), if_pos (by omega), rd_eq, Int.toNat_natCast, getD_eq l j hj, step64 j (by omega), ih k (j + 1) (by omega) (by omega), List.drop_eq_getElem_cons hj]
      split
      · rename_i h; rw [h]; simp
      · rename_i h
        congr 1
        rw [decide_eq_decide, List.mem_cons]
        exact ⟨.inr, fun h' => h'.resolve_left (fun e => h e.symm)⟩
    · rw [if_neg (by omega), List.drop_of_length_le (by omega)]
      simp
theorem rhas_some (l : List Int) (x : Int) (hm : l.length ≤ 1000000000) (k : Nat) (hk : l.length < k) : stolonref06_Has.f k l x = some (decide (x ∈ l)) := by
  unfold stolonref06_Has.f
  exact rhas_loop l x hm l.length k 0 (by omega) hk
end Go.Proofs.Ytjncmiclpaodhaa
/-
  What a host says of a change lets a filter that knows what was come to what is. For every input.
-/
namespace Go.Proofs.Ytjncmiclpaodhaa
open Go.RowKit Go.Proofs.YtjncmiclpaodhaaW.PrintWords Go.Proofs.Ytjncmiclpaodhaa.PHo
set_option linter.unusedVariables false
set_option linter.unusedSimpArgs false
theorem rwants_some (f : Bool) (l : List Int) (a : Int) (hm : l.length ≤ 1000000000) (k : Nat) (hk : l.length < k) : stolonref06_Wants.f k f l a = some (decide (a ∈ l) != f) := by
  unfold stolonref06_Wants.f
  rw [rhas_some l a hm k hk, Option.bind_some]
/-- What a record does to a filter's want. -/
def st (a : Int) (w : Bool) (r : S36) : Bool :=
  if r.f0 = 3 then decide (a ∈ r.f2) else if r.f0 = 4 then !decide (a ∈ r.f2) else if r.f0 = 5 then (w || decide (a ∈ r.f2)) else (w && !decide (a ∈ r.f2))
theorem says_loop (L : List S36) (a : Int) (q : Bool) (l2 : List Int) (h2 : l2.length ≤ 1000) (hL : L.length ≤ 2) (hk1 : ∀ r ∈ L, r.f0 = 3 ∨ r.f0 = 4 ∨ r.f0 = 5 ∨ r.f0 = 6) (hk2 : ∀ r ∈ L, r.f2.length ≤ 1000) :
    ∀ n k (j : Nat) (w : Bool), L.length = j + n → n + 1001 < k → stolonlaw07_HostSays.l0 k a true L w (j : Int) q l2 = some ((L.drop j).foldl (st a) w == (decide (a ∈ l2) != q)) := by
  intro n
  induction n with
  | zero =>
    intro k j w hj hk
    obtain ⟨k, rfl⟩ : ∃ m, k = m + 1 := ⟨k - 1, by omega⟩
    rw [stolonlaw07_HostSays.l0, if_neg (by omega), if_pos rfl, if_pos (by omega), rwants_some q l2 a (by omega) k (by omega), Option.bind_some, List.drop_of_length_le (by omega), List.foldl_nil]
  | succ n ih =>
    intro k j w hj hk
    obtain ⟨k, rfl⟩ : ∃ m, k = m + 1 := ⟨k - 1, by omega⟩
    have hlt : j < L.length := by omega
    have hr : rd_T36 L (j : Int) = L[j] := by
      unfold rd_T36
      rw [Int.toNat_natCast, List.getD_eq_getElem?_getD, List.getElem?_eq_getElem hlt]
      rfl
    have hm := List.getElem_mem hlt
    have hw : wrap64 ((j : Int) + 1) = ((j + 1 : Nat) : Int) := step64 j (by omega)
    have hl := hk2 _ hm
    rw [stolonlaw07_HostSays.l0, if_pos (by omega), if_pos (by omega), hr, rhas_some _ a (by omega) k (by omega), Option.bind_some, hw]
    rw [List.drop_eq_getElem_cons hlt, List.foldl_cons]
    have e := fun w' => ih k (j + 1) w' (by omega) (by omega)
    rcases hk1 _ hm with h | h | h | h
    · rw [if_pos h, e]; simp [st, h]
    · rw [if_neg (by omega), if_pos h, e]; simp [st, h]
    · rw [if_neg (by omega), if_neg (by omega), if_pos h]
      cases w
      · rw [if_neg (by decide), e]; simp [st, h]
      · rw [if_pos rfl, e]; simp [st, h]
    · rw [if_neg (by omega), if_neg (by omega), if_neg (by omega), if_pos h]
      cases w
      · rw [if_neg (by decide), e]; simp [st, h]
      · rw [if_pos rfl, e]; simp [st, h]
theorem keep_st (g y : Int) (s : List Int) (a : Int) (w : Bool) (h : y = 3 ∨ y = 4 ∨ y = 5 ∨ y = 6) : (hc_keep g y s).foldl (st a) w = st a w ⟨y, g, s⟩ := by
  unfold hc_keep
  split
  · rfl
  · rename_i hn
    simp only [Bool.or_eq_true, beq_iff_eq, decide_eq_true_eq, not_or] at hn
    have hs : s = [] := List.length_eq_zero_iff.1 (by omega)
    subst hs
    rcases h with h | h | h | h
    · exact absurd h hn.1.2
    · exact absurd h hn.1.1
    · simp [st, h]
    · simp [st, h]
theorem keep_zero (g : Int) : hc_keep g 0 [] = [] := by unfold hc_keep; simp
theorem keep_all (g y : Int) (s : List Int) : ∀ r ∈ hc_keep g y s, r = ⟨y, g, s⟩ := by
  unfold hc_keep
  split <;> simp
theorem hostSays_pure (g : Int) (p : Bool) (l1 : List Int) (q : Bool) (l2 : List Int) (a : Int) (h1 : l1.length ≤ 140737488351232) (h2 : l2.length ≤ 140737488351232) : ∃ k, stolonlaw07_HostSays.f k g p l1 q l2 a = some true := by
  refine ⟨2000, ?_⟩
  unfold stolonlaw07_HostSays.f
  rw [show stolonlaw07_shown.f = some true from rfl, Option.bind_some, w64 (by omega) (by omega)]
  have jt : stolonlaw07_HostSays.j0 2000 g a true true p l1 q l2 = some true := by rw [stolonlaw07_HostSays.j0, if_pos rfl]
  by_cases hc : (l1.length : Int) + (l2.length : Int) > 100
  · rw [if_pos hc, jt]
  rw [if_neg hc, right_some l1 (by omega) 2000 (by omega), Option.bind_some]
  by_cases r1 : Rise l1
  case neg => rw [if_neg (by simp [r1]), jt]
  rw [if_pos (by simp [r1]), right_some l2 (by omega) 2000 (by omega), Option.bind_some]
  by_cases r2 : Rise l2
  case neg => rw [show (!decide (Rise l2)) = true by simp [r2], jt]
  rw [show (!decide (Rise l2)) = false by simp [r2], stolonlaw07_HostSays.j0, if_neg (by decide)]
  have m1 := mns_len l2 l1
  have m2 := mns_len l1 l2
  have e1 := mns_some (a := l2) (b := l1) (by omega) (by omega)
  have e2 := mns_some (a := l1) (b := l2) (by omega) (by omega)
  have x1 := mns_mem r2 r1 a
  have x2 := mns_mem r1 r2 a
  generalize mns l2 l1 = s1 at e1 m1 x1
  generalize mns l1 l2 = s2 at e2 m2 x2
  rw [show host_Change.f g p l1 q l2 = some (hc_keep g (hc_sel p q s1 s2 l2).1.1 (hc_sel p q s1 s2 l2).1.2 ++ hc_keep g (hc_sel p q s1 s2 l2).2.1 (hc_sel p q s1 s2 l2).2.2) by unfold host_Change.f; rw [e1, Option.bind_some, e2, Option.bind_some], Option.bind_some, rwants_some p l1 a (by omega) 1999 (by omega), Option.bind_some]
  have hlen : (hc_keep g (hc_sel p q s1 s2 l2).1.1 (hc_sel p q s1 s2 l2).1.2 ++ hc_keep g (hc_sel p q s1 s2 l2).2.1 (hc_sel p q s1 s2 l2).2.2).length ≤ 2 := by
    rw [List.length_append]
    have := hc_keep_len g (hc_sel p q s1 s2 l2).1.1 (hc_sel p q s1 s2 l2).1.2
    have := hc_keep_len g (hc_sel p q s1 s2 l2).2.1 (hc_sel p q s1 s2 l2).2.2
    omega
  have loop := fun (L : List S36) (hL : L.length ≤ 2) hk1 hk2 => says_loop L a q l2 (by omega) hL hk1 hk2 L.length 1999 0 (decide (a ∈ l1) != p) (by omega) (by omega)
  have hz : (0 : Int) = ((0 : Nat) : Int) := rfl
  rw [hz]
  cases p <;> cases q
  · have s : hc_sel false false s1 s2 l2 = ((5, s1), (6, s2)) := rfl
    rw [s] at hlen ⊢
    rw [loop _ hlen (fun r hr => by rcases List.mem_append.1 hr with h | h <;> rw [keep_all _ _ _ r h] <;> simp) (fun r hr => by rcases List.mem_append.1 hr with h | h <;> rw [keep_all _ _ _ r h] <;> simp only <;> omega)]
    rw [List.drop_zero, List.foldl_append, keep_st _ _ _ _ _ (by simp), keep_st _ _ _ _ _ (by simp)]
    by_cases i1 : a ∈ l1 <;> by_cases i2 : a ∈ l2 <;> simp [st, x1, x2, i1, i2]
  · have s : hc_sel false true s1 s2 l2 = ((4, l2), (0, [])) := rfl
    rw [s] at hlen ⊢
    rw [keep_zero, List.append_nil] at hlen ⊢
    rw [loop _ hlen (fun r hr => by rw [keep_all _ _ _ r hr]; simp) (fun r hr => by rw [keep_all _ _ _ r hr]; simp only; omega)]
    rw [List.drop_zero, keep_st _ _ _ _ _ (by simp)]
    by_cases i1 : a ∈ l1 <;> by_cases i2 : a ∈ l2 <;> simp [st, i1, i2]
  · have s : hc_sel true false s1 s2 l2 = ((3, l2), (0, [])) := rfl
    rw [s] at hlen ⊢
    rw [keep_zero, List.append_nil] at hlen ⊢
    rw [loop _ hlen (fun r hr => by rw [keep_all _ _ _ r hr]; simp) (fun r hr => by rw [keep_all _ _ _ r hr]; simp only; omega)]
    rw [List.drop_zero, keep_st _ _ _ _ _ (by simp)]
    by_cases i1 : a ∈ l1 <;> by_cases i2 : a ∈ l2 <;> simp [st, i1, i2]
  · have s : hc_sel true true s1 s2 l2 = ((5, s2), (6, s1)) := rfl
    rw [s] at hlen ⊢
    rw [loop _ hlen (fun r hr => by rcases List.mem_append.1 hr with h | h <;> rw [keep_all _ _ _ r h] <;> simp) (fun r hr => by rcases List.mem_append.1 hr with h | h <;> rw [keep_all _ _ _ r h] <;> simp only <;> omega)]
    rw [List.drop_zero, List.foldl_append, keep_st _ _ _ _ _ (by simp), keep_st _ _ _ _ _ (by simp)]
    by_cases i1 : a ∈ l1 <;> by_cases i2 : a ∈ l2 <;> simp [st, x1, x2, i1, i2]
end Go.Proofs.Ytjncmiclpaodhaa
/-
  What a law's row hands over, read as the printed functions read it: for any kind built of numbers, truths, texts, slices and structs. By a session.
-/
namespace Go.Proofs.Ytjncmiclpaodhaa
open Go.ChangeShapes Go.WideShapes Go.RowKit Go.Proofs.YtjncmiclpaodhaaW.PrintWords

/-- What is trod and is light enough is read, and keeps the bounds WF. -/
def Opens {α : Type} (H : Type) (P : Program) (t : TypeId) (d : Kd α) (WF : α → Prop) : Prop :=
  ∀ {enc : TypeId × Value → H} {w : World} {fuel : Nat} {cs : List Value} {x : DataW H} {ps : List MemPlace},
    DataW.trod enc P w 0 (fun _ => true) true fuel t cs = some (x, ps) → (∀ n ∈ x.weights P t, n ≤ reachBytes) → ∃ a, d.K w a cs ∧ WF a

section
variable {H : Type} {P : Program} {t e : TypeId}
theorem opens_int {k : IntKind} (ht : P.underlying t = some (.int k)) : Opens H P t (Kd.int k) (fun a => (Lit.int k a).wf = true) := by
  intro enc w fuel cs x ps h _
  obtain ⟨n, rfl, _, hw⟩ := DataW.trod_int ht h
  exact ⟨n, rfl, hw⟩
theorem opens_bool (ht : P.underlying t = some .bool) : Opens H P t Kd.bool (fun _ => True) := by
  intro enc w fuel cs x ps h _
  obtain ⟨b, rfl, _⟩ := DataW.trod_bool ht h
  exact ⟨b, rfl, trivial⟩
theorem weights_all {l : List (DataW H)} {y : DataW H} (h : y ∈ l) : ∀ n ∈ y.weights P e, n ∈ DataW.weightsAll P e l := by
  induction l with
  | nil => simp at h
  | cons z l ih =>
    intro n hn
    rw [DataW.weightsAll, List.mem_append]
    rcases List.mem_cons.1 h with rfl | h
    · exact .inl hn
    · exact .inr (ih h n hn)

theorem mapM_get {α β : Type} {f : α → Option β} : ∀ {l : List α} {r : List β}, l.mapM f = some r → ∀ (i : Nat) (x : α), l[i]? = some x → f x = r[i]?
  | [], r, h, i, x, hx => by simp at hx
  | y :: l, r, h, i, x, hx => by
    rw [List.mapM_cons] at h
    simp only [Option.bind_eq_bind, Option.bind_eq_some_iff, Option.pure_def, Option.some.injEq] at h
    obtain ⟨z, hz, r', hr, rfl⟩ := h
    cases i with
    | zero => simp at hx; subst hx; simpa using hz
    | succ i => simp at hx; simpa using mapM_get hr i x hx
theorem mapM_len {α β : Type} {f : α → Option β} : ∀ {l : List α} {r : List β}, l.mapM f = some r → r.length = l.length
  | [], r, h => by simp at h; subst h; rfl
  | y :: l, r, h => by
    rw [List.mapM_cons] at h
    simp only [Option.bind_eq_bind, Option.bind_eq_some_iff, Option.pure_def, Option.some.injEq] at h
    obtain ⟨z, hz, r', hr, rfl⟩ := h
    simp [mapM_len hr]
theorem cells_get {w : World} {base : Nat} {a : Addr} {n : Nat} {cs : List Value} (h : w.cells? base a n = some cs) : cs.length = n ∧ ∀ i u, cs[i]? = some u → w.cell? (a.add i) = some u := by
  unfold World.cells? at h
  split at h
  · have hl := mapM_len h
    rw [List.length_range] at hl
    refine ⟨hl, fun i u hu => ?_⟩
    have hi : i < n := by rw [← hl]; exact (List.getElem?_eq_some_iff.1 hu).1
    rw [mapM_get h i i (by simp [hi]), hu]
  · cases h
theorem opens_slice {α : Type} {d : Kd α} {WF : α → Prop} (ht : P.underlying t = some (.slice e)) (hd : P.cellsOf e = d.sz) (he : Opens H P e d WF) :
    Opens H P t (Kd.slice e d) (fun xs => xs.length ≤ maxLen ∧ xs.length * P.bytesOf e ≤ reachBytes ∧ ∀ a ∈ xs, WF a) := by
  intro enc w fuel cs x ps h hw
  rcases DataW.trod_slice ht h with ⟨rfl, hx⟩ | ⟨a, len, cap, elems, rest, n, _, rfl, hx, _, hl, hm, hlen, hel, hsp, _⟩
  · exact ⟨[], ⟨none, 0, rfl, Nat.le_refl _, rfl, by simp, by simp⟩, by simp, by simp, by simp⟩
  · cases hx
    have hwt := hw ((elems.length + rest.length) * P.bytesOf e) (by simp [DataW.weights, ht])
    have each : ∀ i (hi : i < len), ∃ y : α, ∃ c : List Value, c.length = d.sz ∧ d.K w y c ∧ WF y ∧ ∀ j u, c[j]? = some u → w.cell? (a.add (i * d.sz + j)) = some u := by
      intro i hi
      have h1 := hel i hi
      rw [List.getElem?_eq_getElem (by omega), Option.bind_eq_some_iff] at h1
      obtain ⟨c, hc, hy⟩ := h1
      obtain ⟨hcl, hcc⟩ := cells_get hc
      obtain ⟨y, hk, hwf⟩ := he hy (fun n hn => hw n (by
        simp only [DataW.weights, ht, List.mem_cons, List.mem_append]
        exact .inr (.inl (weights_all (List.mem_map.2 ⟨elems[i], List.getElem_mem _, rfl⟩) n hn))))
      refine ⟨y, c, by rw [hcl, hd], hk, hwf, fun j u hu => ?_⟩
      have := hcc j u hu
      rwa [hd, add_add] at this
    have pick : ∃ ys : List α, ys.length = len ∧ ∀ i (y : α), ys[i]? = some y → ∃ c : List Value, c.length = d.sz ∧ d.K w y c ∧ WF y ∧ ∀ j u, c[j]? = some u → w.cell? (a.add (i * d.sz + j)) = some u := by
      clear hel hsp hw hwt hl hlen h
      induction len with
      | zero => exact ⟨[], rfl, fun i y h => by simp at h⟩
      | succ m ih =>
        obtain ⟨ys, hys, hyc⟩ := ih (fun i hi => each i (by omega))
        obtain ⟨y, hy⟩ := each m (by omega)
        refine ⟨ys ++ [y], by simp [hys], fun i z hz => ?_⟩
        rcases Nat.lt_or_ge i ys.length with h | h
        · rw [List.getElem?_append_left h] at hz
          exact hyc i z hz
        · rw [List.getElem?_append_right h] at hz
          have : i = m := by
            have := (List.getElem?_eq_some_iff.1 hz).1
            simp at this; omega
          subst this
          rw [hys, Nat.sub_self] at hz
          simp at hz
          subst hz
          exact hy
    obtain ⟨ys, hys, hyc⟩ := pick
    subst hys
    refine ⟨ys, ⟨some a, cap, rfl, hl, rfl, Nat.le_trans (Nat.le_trans hl hm) (by simp [maxLen]), fun _ => ⟨a, rfl, fun j p hp => ?_⟩⟩, Nat.le_trans hl hm, ?_, ?_⟩
    · obtain ⟨c, h1, h2, _, h3⟩ := hyc j p hp
      exact ⟨c, h1, h2, h3⟩
    · exact Nat.le_trans (Nat.mul_le_mul_right _ (by omega)) hwt
    · intro y hy
      obtain ⟨i, hi⟩ := List.getElem?_of_mem hy
      obtain ⟨c, _, _, hwf, _⟩ := hyc i y hi
      exact hwf

/-- A struct's fields from one on. -/
def OpensFs {α : Type} (H : Type) (P : Program) (fs : List Field) (off : Nat) (d : Kd α) (WF : α → Prop) : Prop :=
  ∀ {enc : TypeId × Value → H} {w : World} {fuel : Nat} {cs : List Value} {xs : List (DataW H × List MemPlace)},
    xs.length = fs.length → (∀ (i : Nat) (f : Field), fs[i]? = some f → DataW.trod enc P w 0 (fun _ => true) true fuel f.type ((cs.drop f.offset).take (P.cellsOf f.type)) = xs[i]?) →
    cs.length = off + d.sz → (∀ n ∈ DataW.weightsEach P (fs.map (·.type)) (xs.map (·.1)), n ≤ reachBytes) → ∃ a, d.K w a (cs.drop off) ∧ WF a

theorem opens_last {α : Type} {d : Kd α} {WF : α → Prop} {f : Field} {off : Nat} (ho : f.offset = off) (hc : P.cellsOf f.type = d.sz) (hf : Opens H P f.type d WF) : OpensFs H P [f] off d WF := by
  intro enc w fuel cs xs hl hx hcs hw
  obtain ⟨x, rfl⟩ : ∃ x, xs = [x] := by
    match xs, hl with
    | [x], _ => exact ⟨x, rfl⟩
  have h := hx 0 f rfl
  rw [ho, hc, List.take_of_length_le (by simp; omega)] at h
  exact hf (x := x.1) (ps := x.2) h (fun n hn => hw n (by simp [DataW.weightsEach]; exact hn))
theorem opens_cons {α β : Type} {d : Kd α} {d' : Kd β} {WF : α → Prop} {WF' : β → Prop} {f : Field} {fs : List Field} {off : Nat} (ho : f.offset = off) (hc : P.cellsOf f.type = d.sz) (hf : Opens H P f.type d WF)
    (hfs : OpensFs H P fs (off + d.sz) d' WF') : OpensFs H P (f :: fs) off (Kd.pair d d') (fun x => WF x.1 ∧ WF' x.2) := by
  intro enc w fuel cs xs hl hx hcs hw
  obtain ⟨x, xs, rfl⟩ : ∃ x r, xs = x :: r := by
    match xs, hl with
    | x :: r, _ => exact ⟨x, r, rfl⟩
  have h := hx 0 f rfl
  rw [ho, hc] at h
  obtain ⟨a, ha, hwa⟩ := hf (x := x.1) (ps := x.2) h (fun n hn => hw n (by simp only [List.map_cons, DataW.weightsEach, List.mem_append]; exact .inl hn))
  obtain ⟨b, hb, hwb⟩ := hfs (cs := cs) (xs := xs) (fuel := fuel) (enc := enc) (w := w) (by simpa using hl) (fun i g hg => by have := hx (i + 1) g (by simpa using hg); simpa using this) (by rw [hcs]; exact (Nat.add_assoc _ _ _).symm)
    (fun n hn => hw n (by simp only [List.map_cons, DataW.weightsEach, List.mem_append]; exact .inr hn))
  refine ⟨(a, b), ⟨(cs.drop off).take d.sz, cs.drop (off + d.sz), ?_, ha, hb⟩, hwa, hwb⟩
  rw [← List.drop_drop, List.take_append_drop]
theorem opens_struct {α : Type} {d : Kd α} {WF : α → Prop} {fs : Array Field} (ht : P.underlying t = some (.struct fs)) (hc : P.cellsOf t = d.sz) (hfs : OpensFs H P fs.toList 0 d WF) : Opens H P t d WF := by
  intro enc w fuel cs x ps h hw
  obtain ⟨xs, n, _, hx, hl, hlx, hf⟩ := DataW.trod_struct ht h
  cases hx
  obtain ⟨a, ha, hwa⟩ := hfs (cs := cs) (xs := xs) (fuel := n) (enc := enc) (w := w) (by simpa using hlx) (fun i f hi => hf i f (by simpa using hi)) (by rw [hl, hc]; simp) (fun m hm => hw m (by simpa [DataW.weights, ht] using hm))
  exact ⟨a, by simpa using ha, hwa⟩
/-- For a row's j-th argument. -/
theorem Opens.row {α : Type} {d : Kd α} {WF : α → Prop} (h : Opens H P t d WF) {enc : TypeId × Value → H} {W : World} {ts : List TypeId} {ds : List (DataW H)} {j : Nat} {v : Value} {x : DataW H} {ps : List MemPlace}
    (hsz : (DataW.weightsEach P ts ds).all (· ≤ reachBytes) = true) (ht : ts[j]? = some t) (hd : ds[j]? = some x) (hv : DataW.Trod enc P W 0 (fun _ => true) true t v x ps) : ∃ a, d.K W a v.cells.toList ∧ WF a := by
  obtain ⟨fuel, hf⟩ := hv
  refine h hf fun n hn => ?_
  have := List.all_eq_true.1 hsz _ (DataW.weights_mem_each ht hd n hn)
  simpa using this
end
end Go.Proofs.Ytjncmiclpaodhaa
