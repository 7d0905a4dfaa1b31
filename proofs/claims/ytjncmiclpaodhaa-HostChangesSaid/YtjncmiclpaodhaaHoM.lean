/-
  Sets in plain lists, for chapter 07 (out of chapter 06's plain laws).
-/
import Derived.Test.YtjncmiclpaodhaaPHoy1
import Derived.Test.YtjncmiclpaodhaaSoI
import Derived.Test.YtjncmiclpaodhaaVInv
import Derived.MapFrom
import Derived.ChangeMaps4
import Derived.KernelRfl
namespace Go.Proofs.Ytjncmiclpaodhaa
open Go.RowKit Go.Proofs.YtjncmiclpaodhaaW.PrintWords Go.Proofs.Ytjncmiclpaodhaa.PHo
set_option linter.unusedVariables false
set_option linter.unusedSimpArgs false
theorem w64 {i : Int} (h0 : -9223372036854775808 ≤ i) (h1 : i ≤ 9223372036854775807) : wrap64 i = i := by unfold wrap64; omega
theorem rd_eq (l : List Int) (i : Int) : rd l i = l.getD i.toNat 0 := rfl
abbrev Rise (l : List Int) : Prop := l.Pairwise (· < ·)
theorem getD_eq (l : List Int) (i : Nat) (h : i < l.length) : l.getD i 0 = l[i] := by
  rw [List.getD_eq_getElem?_getD, List.getElem?_eq_getElem h]; rfl
theorem rise_iff (l : List Int) : (∀ i, 1 ≤ i → i < l.length → l.getD (i - 1) 0 < l.getD i 0) ↔ Rise l := by
  constructor
  · intro h
    rw [Rise, List.pairwise_iff_getElem]
    intro i j hi hj hij
    rw [← getD_eq l i hi, ← getD_eq l j hj]
    clear hi
    induction j with
    | zero => omega
    | succ j ih =>
      have h1 := h (j + 1) (by omega) hj
      rw [Nat.add_sub_cancel] at h1
      rcases Nat.lt_or_ge i j with h2 | h2
      · have := ih (by omega) h2; omega
      · obtain rfl : i = j := by omega
        exact h1
  · intro h i h1 h2
    rw [Rise, List.pairwise_iff_getElem] at h
    rw [getD_eq l i h2, getD_eq l (i - 1) (by omega)]
    exact h _ _ _ _ (by omega)
open Classical in
theorem right_loop (l : List Int) (hm : l.length ≤ 1000000000) : ∀ n k (j : Nat), 1 ≤ j → l.length ≤ j + n → n < k →
    stolonref06_Right.l0 k l j = some (decide (∀ i, j ≤ i → i < l.length → l.getD (i - 1) 0 < l.getD i 0)) := by
  intro n
  induction n with
  | zero =>
    intro k j h1 h2 hk
    obtain ⟨k, rfl⟩ : ∃ k', k = k' + 1 := ⟨k - 1, by omega⟩
    rw [stolonref06_Right.l0, if_neg (by omega)]
    congr 1
    symm
    rw [decide_eq_true_eq]
    intro i hi hl; omega
  | succ n ih =>
    intro k j h1 h2 hk
    obtain ⟨k, rfl⟩ : ∃ k', k = k' + 1 := ⟨k - 1, by omega⟩
    rw [stolonref06_Right.l0]
    by_cases hj : j < l.length
    · rw [if_pos (by omega), w64 (by omega) (by omega), if_pos (by omega), if_pos (by omega), if_pos (by omega)]
      rw [rd_eq, rd_eq, show ((j : Int) - 1).toNat = j - 1 from by omega, show ((j : Int)).toNat = j from by omega]
      split
      · rename_i hge
        congr 1
        symm
        rw [decide_eq_false_iff_not]
        intro h
        have := h j (Nat.le_refl _) hj
        omega
      · rename_i hge
        rw [w64 (by omega) (by omega), show (j : Int) + 1 = ((j + 1 : Nat) : Int) from by omega, ih k (j + 1) (by omega) (by omega) (by omega)]
        congr 1
        rw [decide_eq_decide]
        constructor
        · intro h i hi hl
          rcases Nat.lt_or_ge j i with h' | h'
          · exact h i (by omega) hl
          · obtain rfl : i = j := by omega
            omega
        · intro h i hi hl
          exact h i (by omega) hl
    · rw [if_neg (by omega)]
      congr 1
      symm
      rw [decide_eq_true_eq]
      intro i hi hl; omega
theorem right_some (l : List Int) (hm : l.length ≤ 1000000000) (k : Nat) (hk : l.length < k) : stolonref06_Right.f k l = some (decide (Rise l)) := by
  unfold stolonref06_Right.f
  have := right_loop l hm l.length k 1 (Nat.le_refl _) (by omega) hk
  rw [show ((1 : Nat) : Int) = 1 from rfl] at this
  rw [this]
  congr 1
  rw [decide_eq_decide]
  exact rise_iff l
theorem both_all (a b : List Int) : ∀ x, x ∈ a ∨ x ∈ b → ∃ t ∈ bothOf a b, t.1 = x := by
  induction a, b using bothOf.induct with
  | case1 => intro x h; simp at h
  | case2 y a ih =>
    intro x h
    rw [bothOf]
    rcases h with h | h
    · rcases List.mem_cons.1 h with rfl | h
      · exact ⟨_, List.mem_cons_self, rfl⟩
      · obtain ⟨t, h1, h2⟩ := ih x (.inl h)
        exact ⟨t, List.mem_cons_of_mem _ h1, h2⟩
    · simp at h
  | case3 y b ih =>
    intro x h
    rw [bothOf]
    rcases h with h | h
    · simp at h
    · rcases List.mem_cons.1 h with rfl | h
      · exact ⟨_, List.mem_cons_self, rfl⟩
      · obtain ⟨t, h1, h2⟩ := ih x (.inr h)
        exact ⟨t, List.mem_cons_of_mem _ h1, h2⟩
  | case4 z a y b hlt ih =>
    intro x h
    rw [bothOf, if_pos hlt]
    by_cases hx : x = z
    · subst hx; exact ⟨_, List.mem_cons_self, rfl⟩
    · obtain ⟨t, h1, h2⟩ := ih x (by simpa [hx] using h)
      exact ⟨t, List.mem_cons_of_mem _ h1, h2⟩
  | case5 z a y b hlt hlt' ih =>
    intro x h
    rw [bothOf, if_neg hlt, if_pos hlt']
    by_cases hx : x = y
    · subst hx; exact ⟨_, List.mem_cons_self, rfl⟩
    · obtain ⟨t, h1, h2⟩ := ih x (by simpa [hx] using h)
      exact ⟨t, List.mem_cons_of_mem _ h1, h2⟩
  | case6 z a y b hlt hlt' ih =>
    intro x h
    rw [bothOf, if_neg hlt, if_neg hlt']
    obtain rfl : z = y := by omega
    by_cases hx : x = z
    · subst hx; exact ⟨_, List.mem_cons_self, rfl⟩
    · obtain ⟨t, h1, h2⟩ := ih x (by simpa [hx] using h)
      exact ⟨t, List.mem_cons_of_mem _ h1, h2⟩
theorem both_spec (a b : List Int) : Rise a → Rise b → ∀ t ∈ bothOf a b, t.2.1 = decide (t.1 ∈ a) ∧ t.2.2 = decide (t.1 ∈ b) ∧ (t.1 ∈ a ∨ t.1 ∈ b) := by
  induction a, b using bothOf.induct with
  | case1 => intro _ _ t h; simp [bothOf] at h
  | case2 y a ih =>
    intro ha hb t h
    rw [bothOf] at h
    have ha' := List.pairwise_cons.1 ha
    rcases List.mem_cons.1 h with rfl | h
    · simp
    · obtain ⟨h1, h2, h3⟩ := ih ha'.2 hb t h
      refine ⟨?_, h2, ?_⟩
      · rw [h1, decide_eq_decide, List.mem_cons]
        constructor
        · exact .inr
        · rintro (e | h)
          · rcases h3 with h3 | h3
            · exact h3
            · simp at h3
          · exact h
      · rcases h3 with h3 | h3
        · exact .inl (List.mem_cons_of_mem _ h3)
        · exact .inr h3
  | case3 y b ih =>
    intro ha hb t h
    rw [bothOf] at h
    have hb' := List.pairwise_cons.1 hb
    rcases List.mem_cons.1 h with rfl | h
    · simp
    · obtain ⟨h1, h2, h3⟩ := ih ha hb'.2 t h
      have h4 : t.1 ∈ b := by simpa using h3
      refine ⟨h1, ?_, .inr (List.mem_cons_of_mem _ h4)⟩
      rw [h2, decide_eq_decide]
      exact ⟨fun h => List.mem_cons_of_mem _ h, fun _ => h4⟩
  | case4 z a y b hlt ih =>
    intro ha hb t h
    rw [bothOf, if_pos hlt] at h
    have ha' := List.pairwise_cons.1 ha
    have hb' := List.pairwise_cons.1 hb
    rcases List.mem_cons.1 h with rfl | h
    · refine ⟨by simp, ?_, .inl List.mem_cons_self⟩
      symm
      rw [decide_eq_false_iff_not, List.mem_cons]
      rintro (e | h')
      · simp at e; omega
      · have := hb'.1 _ h'; simp at this; omega
    · obtain ⟨h1, h2, h3⟩ := ih ha'.2 hb t h
      have hne : t.1 ≠ z := by
        rintro e
        rcases h3 with h3 | h3
        · have := ha'.1 _ h3; omega
        · rcases List.mem_cons.1 h3 with h3 | h3
          · omega
          · have := hb'.1 _ h3; omega
      refine ⟨by rw [h1, decide_eq_decide]; simp [hne], h2, by simp [hne]; simpa using h3⟩
  | case5 z a y b hlt hlt' ih =>
    intro ha hb t h
    rw [bothOf, if_neg hlt, if_pos hlt'] at h
    have ha' := List.pairwise_cons.1 ha
    have hb' := List.pairwise_cons.1 hb
    rcases List.mem_cons.1 h with rfl | h
    · refine ⟨?_, by simp, .inr List.mem_cons_self⟩
      symm
      rw [decide_eq_false_iff_not, List.mem_cons]
      rintro (e | h')
      · simp at e; omega
      · have := ha'.1 _ h'; simp at this; omega
    · obtain ⟨h1, h2, h3⟩ := ih ha hb'.2 t h
      have hne : t.1 ≠ y := by
        rintro e
        rcases h3 with h3 | h3
        · rcases List.mem_cons.1 h3 with h3 | h3
          · omega
          · have := ha'.1 _ h3; omega
        · have := hb'.1 _ h3; omega
      refine ⟨h1, by rw [h2, decide_eq_decide]; simp [hne], by simp [hne]; simpa using h3⟩
  | case6 z a y b hlt hlt' ih =>
    intro ha hb t h
    rw [bothOf, if_neg hlt, if_neg hlt'] at h
    obtain rfl : z = y := by omega
    have ha' := List.pairwise_cons.1 ha
    have hb' := List.pairwise_cons.1 hb
    rcases List.mem_cons.1 h with rfl | h
    · simp
    · obtain ⟨h1, h2, h3⟩ := ih ha'.2 hb'.2 t h
      have hne : t.1 ≠ z := by
        rintro e
        rcases h3 with h3 | h3
        · have := ha'.1 _ h3; omega
        · have := hb'.1 _ h3; omega
      refine ⟨by rw [h1, decide_eq_decide]; simp [hne], by rw [h2, decide_eq_decide]; simp [hne], by simp [hne]; exact h3⟩
theorem both_rise (a b : List Int) : Rise a → Rise b → (bothOf a b).Pairwise (fun s t => s.1 < t.1) := by
  induction a, b using bothOf.induct with
  | case1 => intro _ _; simp [bothOf]
  | case2 y a ih =>
    intro ha hb
    have ha' := List.pairwise_cons.1 ha
    rw [bothOf]
    refine List.pairwise_cons.2 ⟨fun t ht => ?_, ih ha'.2 hb⟩
    rcases (both_spec _ _ ha'.2 hb t ht).2.2 with h | h
    · exact ha'.1 _ h
    · simp at h
  | case3 y b ih =>
    intro ha hb
    have hb' := List.pairwise_cons.1 hb
    rw [bothOf]
    refine List.pairwise_cons.2 ⟨fun t ht => ?_, ih ha hb'.2⟩
    rcases (both_spec _ _ ha hb'.2 t ht).2.2 with h | h
    · simp at h
    · exact hb'.1 _ h
  | case4 z a y b hlt ih =>
    intro ha hb
    have ha' := List.pairwise_cons.1 ha
    have hb' := List.pairwise_cons.1 hb
    rw [bothOf, if_pos hlt]
    refine List.pairwise_cons.2 ⟨fun t ht => ?_, ih ha'.2 hb⟩
    rcases (both_spec _ _ ha'.2 hb t ht).2.2 with h | h
    · exact ha'.1 _ h
    · rcases List.mem_cons.1 h with h | h
      · show z < t.1; omega
      · have := hb'.1 _ h; show z < t.1; omega
  | case5 z a y b hlt hlt' ih =>
    intro ha hb
    have ha' := List.pairwise_cons.1 ha
    have hb' := List.pairwise_cons.1 hb
    rw [bothOf, if_neg hlt, if_pos hlt']
    refine List.pairwise_cons.2 ⟨fun t ht => ?_, ih ha hb'.2⟩
    rcases (both_spec _ _ ha hb'.2 t ht).2.2 with h | h
    · rcases List.mem_cons.1 h with h | h
      · show y < t.1; omega
      · have := ha'.1 _ h; show y < t.1; omega
    · exact hb'.1 _ h
  | case6 z a y b hlt hlt' ih =>
    intro ha hb
    have ha' := List.pairwise_cons.1 ha
    have hb' := List.pairwise_cons.1 hb
    rw [bothOf, if_neg hlt, if_neg hlt']
    refine List.pairwise_cons.2 ⟨fun t ht => ?_, ih ha'.2 hb'.2⟩
    rcases (both_spec _ _ ha'.2 hb'.2 t ht).2.2 with h | h
    · exact ha'.1 _ h
    · have := hb'.1 _ h; show z < t.1; omega
theorem sel_mem {p : Bool → Bool → Bool} {a b : List Int} (ha : Rise a) (hb : Rise b) (x : Int) :
    x ∈ selOf p (bothOf a b) ↔ (x ∈ a ∨ x ∈ b) ∧ p (decide (x ∈ a)) (decide (x ∈ b)) = true := by
  unfold selOf
  rw [List.mem_map]
  constructor
  · rintro ⟨t, ht, rfl⟩
    obtain ⟨h1, h2⟩ := List.mem_filter.1 ht
    obtain ⟨e1, e2, e3⟩ := both_spec a b ha hb t h1
    rw [e1, e2] at h2
    exact ⟨e3, h2⟩
  · rintro ⟨h1, h2⟩
    obtain ⟨t, ht, rfl⟩ := both_all a b x h1
    obtain ⟨e1, e2, e3⟩ := both_spec a b ha hb t ht
    refine ⟨t, List.mem_filter.2 ⟨ht, ?_⟩, rfl⟩
    rw [e1, e2]
    exact h2
theorem sel_rise {p : Bool → Bool → Bool} {a b : List Int} (ha : Rise a) (hb : Rise b) : Rise (selOf p (bothOf a b)) := by
  unfold selOf
  rw [Rise, List.pairwise_map]
  exact (both_rise a b ha hb).filter _
theorem rise_ext : ∀ {a b : List Int}, Rise a → Rise b → (∀ x, x ∈ a ↔ x ∈ b) → a = b
  | [], [], _, _, _ => rfl
  | [], y :: b, _, _, h => by have := (h y).2 List.mem_cons_self; simp at this
  | x :: a, [], _, _, h => by have := (h x).1 List.mem_cons_self; simp at this
  | x :: a, y :: b, ha, hb, h => by
    have ha' := List.pairwise_cons.1 ha
    have hb' := List.pairwise_cons.1 hb
    have e : x = y := by
      rcases List.mem_cons.1 ((h x).1 List.mem_cons_self) with e | h1
      · exact e
      · rcases List.mem_cons.1 ((h y).2 List.mem_cons_self) with e | h2
        · exact e.symm
        · have := hb'.1 _ h1; have := ha'.1 _ h2; omega
    subst e
    congr 1
    refine rise_ext ha'.2 hb'.2 fun z => ?_
    constructor
    · intro hz
      rcases List.mem_cons.1 ((h z).1 (List.mem_cons_of_mem _ hz)) with e | h1
      · have := ha'.1 _ hz; omega
      · exact h1
    · intro hz
      rcases List.mem_cons.1 ((h z).2 (List.mem_cons_of_mem _ hz)) with e | h1
      · have := hb'.1 _ hz; omega
      · exact h1
def mns (a b : List Int) : List Int := selOf (fun x y => x && !y) (bothOf a b)
theorem mns_some {a b : List Int} (h : a.length ≤ 1000000000) (h' : b.length ≤ 1000000000) : set_Minus.f a b = some (mns a b) := by rw [set_Minus.f, if_pos ⟨h, h'⟩]; rfl
theorem sel_len2 (p : Bool → Bool → Bool) (a b : List Int) : (selOf p (bothOf a b)).length ≤ a.length + b.length := Nat.le_trans (selOf_len _ _) (bothOf_len _ _)
theorem mns_len (a b : List Int) : (mns a b).length ≤ a.length + b.length := sel_len2 _ _ _
theorem mns_rise {a b : List Int} (ha : Rise a) (hb : Rise b) : Rise (mns a b) := sel_rise ha hb
theorem mns_mem {a b : List Int} (ha : Rise a) (hb : Rise b) (x : Int) : x ∈ mns a b ↔ x ∈ a ∧ x ∉ b := by
  unfold mns; rw [sel_mem ha hb]; simp only [Bool.and_eq_true, decide_eq_true_eq, Bool.not_eq_true', decide_eq_false_iff_not]
  exact ⟨fun h => h.2, fun h => ⟨.inl h.1, h⟩⟩
theorem step64 (j : Nat) (h : j ≤ 1000000000000000) : wrap64 ((j : Int) + 1) = ((j + 1 : Nat) : Int) := by rw [w64 (by omega) (by omega)]; omega
theorem rhas_loop (l : List Int) (x : Int) (hm : l.length ≤ 1000000000) : ∀ n k (j : Nat), l.length ≤ j + n → n < k → stolonref06_Has.l0 k l x j = some (decide (x ∈ l.drop j)) := by
  intro n
  induction n with
  | zero =>
    intro k j h2 hk
    obtain ⟨k, rfl⟩ : ∃ k', k = k' + 1 := ⟨k - 1, by omega⟩
    rw [stolonref06_Has.l0, if_neg (by omega), List.drop_of_length_le (by omega)]
    simp
  | succ n ih =>
    intro k j h2 hk
    obtain ⟨k, rfl⟩ : ∃ k', k = k' + 1 := ⟨k - 1, by omega⟩
    rw [stolonref06_Has.l0]
    by_cases hj : j < l.length
    · rw [if_pos (by omega), if_pos (by omega), rd_eq, Int.toNat_natCast, getD_eq l j hj, step64 j (by omega), ih k (j + 1) (by omega) (by omega), List.drop_eq_getElem_cons hj]
      split
      · rename_i h; rw [h]; simp
      · rename_i h
        congr 1
        rw [decide_eq_decide, List.mem_cons]
        exact ⟨.inr, fun h' => h'.resolve_left (fun e => h e.symm)⟩
    · rw [if_neg (by omega), List.drop_of_length_le (by omega)]
      simp
theorem rhas_some (l : List Int) (x : Int) (hm : l.length ≤ 1000000000) (k : Nat) (hk : l.length < k) : stolonref06_Has.f k l x = some (decide (x ∈ l)) := by
  unfold stolonref06_Has.f
  exact rhas_loop l x hm l.length k 0 (by omega) hk
end Go.Proofs.Ytjncmiclpaodhaa
/-
  A map of two truths to two records: filled in any order, looked up.
-/
namespace Go.Proofs.Ytjncmiclpaodhaa
open Go.RowKit Go.Proofs.YtjncmiclpaodhaaW.PrintWords Go.Proofs.YtjncmiclpaodhaaW.PrintLast
set_option linter.unusedVariables false
set_option linter.unusedSimpArgs false
/-- A key. -/
def K2 (a b : Bool) : Value := .agg #[.bool a, .bool b]
def keyB (a b : Bool) : Value → Bool
  | .agg cs => match cs.toList with
    | [.bool c, .bool d] => a == c && b == d
    | _ => false
  | _ => false
def fnd (a b : Bool) : List MapEntry → Nat → Option (Nat × Value)
  | [], _ => none
  | e :: l, i => if keyB a b e.key = true then some (i, e.val) else fnd a b l (i + 1)
def Keys (l : List MapEntry) : Prop := ∀ e ∈ l, ∃ c d, e.key = K2 c d
def val (a b : Bool) (l : List MapEntry) : Option Value := (fnd a b l 0).map (·.2)
theorem fnd_app (a b : Bool) (e : MapEntry) : ∀ (l : List MapEntry) (i : Nat), (fnd a b (l ++ [e]) i).map (·.2) = ((fnd a b l i).map (·.2)).or (if keyB a b e.key = true then some e.val else none)
  | [], i => by
    simp only [List.nil_append, fnd]
    split <;> simp
  | x :: l, i => by
    simp only [List.cons_append, fnd]
    split
    · simp
    · exact fnd_app a b e l (i + 1)
theorem val_push (a b c d : Bool) (es : Array MapEntry) (v : Value) (n : Nat) : val a b (es.push ⟨K2 c d, v, n⟩).toList = (val a b es.toList).or (if a = c ∧ b = d then some v else none) := by
  unfold val
  rw [Array.toList_push, fnd_app]
  congr 1
  cases a <;> cases b <;> cases c <;> cases d <;> rfl
theorem keys_push {es : Array MapEntry} (h : Keys es.toList) (c d : Bool) (v : Value) (n : Nat) : Keys (es.push ⟨K2 c d, v, n⟩).toList := by
  intro e he
  rw [Array.toList_push, List.mem_append] at he
  rcases he with he | he
  · exact h e he
  · rw [List.mem_singleton] at he
    subst he
    exact ⟨c, d, rfl⟩
theorem ud65 : Try.prog.underlying 65 = some (.array 2 4) := by kernel_rfl
theorem ud68 : Try.prog.underlying 68 = some (.map 65 67) := by kernel_rfl
theorem eq2 (a b c d : Bool) (w : World) : (Op.equal 65 (K2 a b) (K2 c d)).run Try.prog w = .ok (a == c && b == d) w := by
  cases a <;> cases b <;> cases c <;> cases d <;> kernel_rfl
theorem chk2 (a b e : Bool) (w : World) : (Instr.checkKey e 10000 65 (K2 a b)).run Try.prog w = .ok () w := by
  cases a <;> cases b <;> cases e <;> kernel_rfl
theorem run_asking (a b : Bool) (w : World) : ∀ (l : List MapEntry) (i : Nat), Keys l → (Instr.findAsking 65 (K2 a b) l i).run Try.prog w = .ok (fnd a b l i) w
  | [], i, _ => rfl
  | e :: l, i, h => by
    obtain ⟨c, d, hk⟩ := h e List.mem_cons_self
    have ih := run_asking a b w l (i + 1) (fun x hx => h x (List.mem_cons_of_mem _ hx))
    have hb : keyB a b e.key = (a == c && b == d) := by rw [hk]; rfl
    unfold Instr.findAsking fnd
    rw [hb, hk]
    simp only [Sem.run_bind, eq2, Result.andThen]
    cases (a == c && b == d)
    · simpa using ih
    · rfl
theorem run_find2 (a b : Bool) (w : World) (l : List MapEntry) (h : Keys l) : (Instr.findKey 65 (K2 a b) l).run Try.prog w = .ok (fnd a b l 0) w := by
  cases l with
  | nil => simp [Instr.findKey, run_underlying ud65, Result.andThen, Instr.findNow, fnd]
  | cons e l =>
    have h1 : Instr.findNow (.array 2 4) (K2 a b) (e :: l) 0 = none := rfl
    simp only [Instr.findKey, Sem.run_bind, run_underlying ud65, Result.andThen, h1]
    exact run_asking a b w (e :: l) 0 h
section
variable {w : World} {g clock : Nat} {es : Array MapEntry} {v : Value}
theorem run_ins2 (hb : w.heap[g]? = some (.map es clock)) (a b : Bool) (hk : Keys es.toList) (h : val a b es.toList = none) :
    (Instr.mapUpdate 68 (.map (some g)) (K2 a b) v).run Try.prog w = .ok () { w with heap := w.heap.setIfInBounds g (.map (es.push ⟨K2 a b, v, clock⟩) (clock + 1)) } := by
  have hf : fnd a b es.toList 0 = none := by
    unfold val at h
    cases hx : fnd a b es.toList 0 with
    | none => rfl
    | some r => rw [hx] at h; cases h
  simp [Instr.mapUpdate, run_underlying ud68, MapKept.run_getObj_map hb, chk2, run_find2 a b _ _ hk, hf, MapKept.run_setObj_map _ hb, Result.andThen]
theorem run_look2 (hb : w.heap[g]? = some (.map es clock)) (a b : Bool) (hk : Keys es.toList) (h : val a b es.toList = some v) :
    (Instr.lookup 68 (.map (some g)) (K2 a b) false).run Try.prog w = .ok v w := by
  unfold val at h
  cases hx : fnd a b es.toList 0 with
  | none => rw [hx] at h; cases h
  | some r =>
    rw [hx] at h
    obtain ⟨i, x⟩ := r
    obtain rfl : x = v := Option.some.inj h
    simp [Instr.lookup, run_underlying ud68, MapKept.run_getObj_map hb, chk2, run_find2 a b _ _ hk, hx, Result.andThen]
end
end Go.Proofs.Ytjncmiclpaodhaa
