/-
  Filters in plain lists, for chapter 07 (out of chapter 06's plain laws).
-/
import Derived.Test.YtjncmiclpaodhaaHoM
import Derived.Test.YtjncmiclpaodhaaPHoy1
import Derived.Test.YtjncmiclpaodhaaPHox1
import Derived.Test.YtjncmiclpaodhaaMkP
import Derived.Test.YtjncmiclpaodhaaPHpd
import Derived.Test.YtjncmiclpaodhaaSoI
namespace Go.Proofs.Ytjncmiclpaodhaa
open Go.RowKit Go.Proofs.YtjncmiclpaodhaaW.PrintWords Go.Proofs.Ytjncmiclpaodhaa.PHo
set_option linter.unusedVariables false
set_option linter.unusedSimpArgs false
theorem list_eq_getD (a b : List Int) (hl : a.length = b.length) : a = b ↔ ∀ i, i < a.length → a.getD i 0 = b.getD i 0 := by
  constructor
  · rintro rfl i _; rfl
  · intro h
    refine List.ext_getElem hl fun i h1 h2 => ?_
    rw [← getD_eq a i h1, ← getD_eq b i h2]
    exact h i h1
open Classical in
theorem rows_loop (a b : List Int) (hl : a.length = b.length) (hm : a.length ≤ 1000000000) : ∀ n k (j : Nat), a.length ≤ j + n → n < k →
    stolonref01_Rows.l0 k a b j = some (decide (∀ i, j ≤ i → i < a.length → a.getD i 0 = b.getD i 0)) := by
  intro n
  induction n with
  | zero =>
    intro k j h2 hk
    obtain ⟨k, rfl⟩ : ∃ k', k = k' + 1 := ⟨k - 1, by omega⟩
    rw [stolonref01_Rows.l0, if_neg (by omega)]
    congr 1
    symm
    rw [decide_eq_true_eq]
    intro i hi hl; omega
  | succ n ih =>
    intro k j h2 hk
    obtain ⟨k, rfl⟩ : ∃ k', k = k' + 1 := ⟨k - 1, by omega⟩
    rw [stolonref01_Rows.l0]
    by_cases hj : j < a.length
    · rw [if_pos (by omega), if_pos (by omega), if_pos (by omega)]
      rw [rd_eq, rd_eq, show ((j : Int)).toNat = j from by omega]
      split
      · rename_i he
        rw [w64 (by omega) (by omega), show (j : Int) + 1 = ((j + 1 : Nat) : Int) from by omega, ih k (j + 1) (by omega) (by omega)]
        congr 1
        rw [decide_eq_decide]
        constructor
        · intro h i hi hl
          rcases Nat.lt_or_ge j i with h' | h'
          · exact h i (by omega) hl
          · obtain rfl : i = j := by omega
            exact he
        · intro h i hi hl
          exact h i (by omega) hl
      · rename_i he
        congr 1
        symm
        rw [decide_eq_false_iff_not]
        intro h
        exact he (h j (Nat.le_refl _) hj)
    · rw [if_neg (by omega)]
      congr 1
      symm
      rw [decide_eq_true_eq]
      intro i hi hl; omega
theorem rows_some (a b : List Int) (hm : a.length ≤ 1000000000) (k : Nat) (hk : a.length < k) : stolonref01_Rows.f k a b = some (decide (a = b)) := by
  unfold stolonref01_Rows.f
  by_cases hl : a.length = b.length
  · rw [if_pos (by omega)]
    have := rows_loop a b hl hm a.length k 0 (by omega) hk
    rw [show ((0 : Nat) : Int) = 0 from rfl] at this
    rw [this]
    congr 1
    rw [decide_eq_decide, list_eq_getD a b hl]
    constructor
    · intro h i hi; exact h i (by omega) hi
    · intro h i _ hi; exact h i hi
  · rw [if_neg (by omega)]
    congr 1
    symm
    rw [decide_eq_false_iff_not]
    rintro rfl
    exact hl rfl
def uni (a b : List Int) : List Int := selOf (fun x y => x || y) (bothOf a b)
def int (a b : List Int) : List Int := selOf (fun x y => x && y) (bothOf a b)
theorem uni_some {a b : List Int} (h : a.length ≤ 1000000000) (h' : b.length ≤ 1000000000) : set_Union.f a b = some (uni a b) := by rw [set_Union.f, if_pos ⟨h, h'⟩]; rfl
theorem int_some {a b : List Int} (h : a.length ≤ 1000000000) (h' : b.length ≤ 1000000000) : set_Inter.f a b = some (int a b) := by rw [set_Inter.f, if_pos ⟨h, h'⟩]; rfl
theorem uni_len (a b : List Int) : (uni a b).length ≤ a.length + b.length := sel_len2 _ _ _
theorem int_len (a b : List Int) : (int a b).length ≤ a.length + b.length := sel_len2 _ _ _
theorem uni_rise {a b : List Int} (ha : Rise a) (hb : Rise b) : Rise (uni a b) := sel_rise ha hb
theorem int_rise {a b : List Int} (ha : Rise a) (hb : Rise b) : Rise (int a b) := sel_rise ha hb
theorem uni_mem {a b : List Int} (ha : Rise a) (hb : Rise b) (x : Int) : x ∈ uni a b ↔ x ∈ a ∨ x ∈ b := by
  unfold uni; rw [sel_mem ha hb]; simp
theorem int_mem {a b : List Int} (ha : Rise a) (hb : Rise b) (x : Int) : x ∈ int a b ↔ x ∈ a ∧ x ∈ b := by
  unfold int; rw [sel_mem ha hb]; simp only [Bool.and_eq_true, decide_eq_true_eq]
  exact ⟨fun h => h.2, fun h => ⟨.inl h.1, h⟩⟩
theorem rdT (l : List S26) (i : Nat) (h : i < l.length) : rd_T26 l (i : Int) = l[i] := by
  show l.getD _ _ = _
  rw [Int.toNat_natCast, List.getD_eq_getElem?_getD, List.getElem?_eq_getElem h]; rfl
def stepS (s : List Int × List Int × Bool) (f : S26) : List Int × List Int × Bool :=
  if f.f0 = true then (if s.2.2 = true then (s.1, int s.2.1 f.f1, s.2.2) else (s.1, f.f1, true)) else (uni s.1 f.f1, s.2.1, s.2.2)
def finS (s : List Int × List Int × Bool) : Bool × List Int := if s.2.2 = true then (true, mns s.2.1 s.1) else (false, s.1)
def wants (f : Bool × List Int) (a : Int) : Bool := decide (a ∈ f.2) != f.1
theorem step_keeps {s : List Int × List Int × Bool} {f : S26} (h1 : Rise s.1) (h2 : Rise s.2.1) (h3 : Rise f.f1) : Rise (stepS s f).1 ∧ Rise (stepS s f).2.1 := by
  unfold stepS
  split
  · split
    · exact ⟨h1, int_rise h2 h3⟩
    · exact ⟨h1, h3⟩
  · exact ⟨uni_rise h1 h3, h2⟩
theorem step_len {s : List Int × List Int × Bool} {f : S26} (h3 : f.f1.length ≤ 200) : (stepS s f).1.length ≤ s.1.length + 200 ∧ (stepS s f).2.1.length ≤ s.2.1.length + 200 := by
  unfold stepS
  have := int_len s.2.1 f.f1
  have := uni_len s.1 f.f1
  split
  · split
    · exact ⟨by show s.1.length ≤ _; omega, by show (int s.2.1 f.f1).length ≤ _; omega⟩
    · exact ⟨by show s.1.length ≤ _; omega, by show f.f1.length ≤ _; omega⟩
  · exact ⟨by show (uni s.1 f.f1).length ≤ _; omega, by show s.2.1.length ≤ _; omega⟩
theorem step_wants {s : List Int × List Int × Bool} {f : S26} (h1 : Rise s.1) (h2 : Rise s.2.1) (h3 : Rise f.f1) (a : Int) :
    wants (finS (stepS s f)) a = (wants (finS s) a || wants (f.f0, f.f1) a) := by
  obtain ⟨s1, s2, s3⟩ := s
  obtain ⟨f0, f1⟩ := f
  simp only at h1 h2 h3
  have m1 := mns_mem (int_rise h2 h3) h1 a
  have m2 := int_mem h2 h3 a
  have m3 := mns_mem h2 h1 a
  have m4 := mns_mem h3 h1 a
  have m5 := mns_mem h2 (uni_rise h1 h3) a
  have m6 := uni_mem h1 h3 a
  cases f0 <;> cases s3 <;> simp [stepS, finS, wants, m1, m2, m3, m4, m5, m6] <;>
    by_cases q1 : a ∈ s1 <;> by_cases q2 : a ∈ s2 <;> by_cases q3 : a ∈ f1 <;> simp [q1, q2, q3]
theorem filter_loop (l : List S26) (hm : l.length ≤ 200) (hl : ∀ f ∈ l, Rise f.f1 ∧ f.f1.length ≤ 200) : ∀ n k (j : Nat) (s : List Int × List Int × Bool), j ≤ l.length → l.length = j + n → n < k → s.1.length ≤ 200 * j → s.2.1.length ≤ 200 * j →
    set_Filter.l0 k s.1 s.2.1 s.2.2 l l.length j = some (finS ((l.drop j).foldl stepS s)) := by
  intro n
  induction n with
  | zero =>
    intro k j s hj h2 hk h3 h4
    obtain ⟨k, rfl⟩ : ∃ k', k = k' + 1 := ⟨k - 1, by omega⟩
    rw [set_Filter.l0, if_neg (by omega), List.drop_of_length_le (by omega), List.foldl_nil]
    unfold finS
    split
    · rw [mns_some (by omega) (by omega)]; rfl
    · rfl
  | succ n ih =>
    intro k j s hj h2 hk h3 h4
    obtain ⟨k, rfl⟩ : ∃ k', k = k' + 1 := ⟨k - 1, by omega⟩
    have hlt : j < l.length := by omega
    have hf := hl l[j] (List.getElem_mem _)
    have e2 : wrap64 ((j : Int) + 1) = ((j + 1 : Nat) : Int) := by rw [w64 (by omega) (by omega)]; omega
    have hlen := step_len (s := s) hf.2
    have := ih k (j + 1) (stepS s l[j]) (by omega) (by omega) (by omega) (by omega) (by omega)
    rw [set_Filter.l0, if_pos (by omega), if_pos (by omega), if_pos (by omega), rdT l j hlt, e2, List.drop_eq_getElem_cons hlt, List.foldl_cons, ← this]
    unfold stepS
    split
    · split
      · rename_i he
        rw [int_some (by omega) (by omega), Option.bind_some]
      · rfl
    · rw [uni_some (by omega) (by omega), Option.bind_some]
theorem filter_some (l : List S26) (hm : l.length ≤ 200) (hl : ∀ f ∈ l, Rise f.f1 ∧ f.f1.length ≤ 200) (k : Nat) (hk : l.length < k) : set_Filter.f k l = some (finS (l.foldl stepS ([], [], false))) := by
  unfold set_Filter.f
  have := filter_loop l hm hl l.length k 0 ([], [], false) (by omega) (by omega) hk (by simp) (by simp)
  rw [List.drop_zero] at this
  exact this
theorem fold_keeps : ∀ (l : List S26) (s : List Int × List Int × Bool), (∀ f ∈ l, Rise f.f1 ∧ f.f1.length ≤ 200) → Rise s.1 → Rise s.2.1 →
    Rise (l.foldl stepS s).1 ∧ Rise (l.foldl stepS s).2.1 ∧ (l.foldl stepS s).1.length ≤ s.1.length + 200 * l.length ∧ (l.foldl stepS s).2.1.length ≤ s.2.1.length + 200 * l.length ∧
    ∀ a, wants (finS (l.foldl stepS s)) a = (wants (finS s) a || l.any (fun f => wants (f.f0, f.f1) a))
  | [], s, _, h1, h2 => ⟨h1, h2, by simp, by simp, fun a => by simp⟩
  | f :: l, s, hl, h1, h2 => by
    have hf := hl f List.mem_cons_self
    have hk := step_keeps h1 h2 hf.1
    have hn := step_len (s := s) hf.2
    obtain ⟨r1, r2, r3, r4, r5⟩ := fold_keeps l (stepS s f) (fun g hg => hl g (List.mem_cons_of_mem _ hg)) hk.1 hk.2
    rw [List.foldl_cons]
    refine ⟨r1, r2, by simp only [List.length_cons]; omega, by simp only [List.length_cons]; omega, fun a => ?_⟩
    rw [r5, step_wants h1 h2 hf.1, List.any_cons, Bool.or_assoc]
theorem fin_rise {s : List Int × List Int × Bool} (h1 : Rise s.1) (h2 : Rise s.2.1) : Rise (finS s).2 := by
  unfold finS
  split
  · exact mns_rise h2 h1
  · exact h1
theorem fin_len (s : List Int × List Int × Bool) : (finS s).2.length ≤ s.1.length + s.2.1.length := by
  unfold finS
  have := mns_len s.2.1 s.1
  split
  · show (mns s.2.1 s.1).length ≤ _; omega
  · show s.1.length ≤ _; omega
end Go.Proofs.Ytjncmiclpaodhaa
/-
  The document's sets and filters in plain lists, for chapter 07 (out of chapter 06's plain laws).
-/
namespace Go.Proofs.Ytjncmiclpaodhaa
open Go.RowKit Go.Proofs.YtjncmiclpaodhaaW.PrintWords Go.Proofs.Ytjncmiclpaodhaa.PHo
set_option linter.unusedVariables false
set_option linter.unusedSimpArgs false
theorem rinter_loop (a b : List Int) (ha : a.length ≤ 1000000) (hb : b.length ≤ 1000000) : ∀ n k (j : Nat) (out : List Int), a.length = j + n → out.length ≤ j → n + b.length < k →
    stolonref06_Inter.l0 k a b out j = some (out ++ (a.drop j).filter (fun x => decide (x ∈ b))) := by
  intro n
  induction n with
  | zero =>
    intro k j out h2 ho hk
    obtain ⟨k, rfl⟩ : ∃ k', k = k' + 1 := ⟨k - 1, by omega⟩
    rw [stolonref06_Inter.l0, if_neg (by omega), List.drop_of_length_le (by omega)]
    simp
  | succ n ih =>
    intro k j out h2 ho hk
    obtain ⟨k, rfl⟩ : ∃ k', k = k' + 1 := ⟨k - 1, by omega⟩
    have hj : j < a.length := by omega
    have hn : out.length < 35184372088832 := by omega
    rw [stolonref06_Inter.l0, if_pos (by omega), if_pos (by omega), rd_eq, Int.toNat_natCast, getD_eq a j hj, step64 j (by omega), rhas_some b _ (by omega) k (by omega), Option.bind_some, List.drop_eq_getElem_cons hj]
    by_cases h : a[j] ∈ b
    · rw [decide_eq_true h, if_pos rfl, if_pos hn, ih k (j + 1) _ (by omega) (by simp; omega) (by omega), List.filter_cons_of_pos (by simpa using h), List.append_assoc]; rfl
    · rw [decide_eq_false h, if_neg (by decide), ih k (j + 1) _ (by omega) (by omega) (by omega), List.filter_cons_of_neg (by simpa using h)]
theorem rinter_some (a b : List Int) (ha : a.length ≤ 1000000) (hb : b.length ≤ 1000000) (ra : Rise a) (rb : Rise b) (k : Nat) (hk : a.length + b.length < k) : stolonref06_Inter.f k a b = some (int a b) := by
  unfold stolonref06_Inter.f
  have := rinter_loop a b ha hb a.length k 0 [] (by omega) (by simp) hk
  rw [show ((0 : Nat) : Int) = 0 from rfl] at this
  rw [this, List.nil_append, List.drop_zero]
  congr 1
  refine rise_ext (ra.filter _) (int_rise ra rb) fun x => ?_
  rw [int_mem ra rb, List.mem_filter, decide_eq_true_eq]
theorem rminus_loop (a b : List Int) (ha : a.length ≤ 1000000) (hb : b.length ≤ 1000000) : ∀ n k (j : Nat) (out : List Int), a.length = j + n → out.length ≤ j → n + b.length < k →
    stolonref06_Minus.l0 k a b out j = some (out ++ (a.drop j).filter (fun x => !decide (x ∈ b))) := by
  intro n
  induction n with
  | zero =>
    intro k j out h2 ho hk
    obtain ⟨k, rfl⟩ : ∃ k', k = k' + 1 := ⟨k - 1, by omega⟩
    rw [stolonref06_Minus.l0, if_neg (by omega), List.drop_of_length_le (by omega)]
    simp
  | succ n ih =>
    intro k j out h2 ho hk
    obtain ⟨k, rfl⟩ : ∃ k', k = k' + 1 := ⟨k - 1, by omega⟩
    have hj : j < a.length := by omega
    have hn : out.length < 35184372088832 := by omega
    rw [stolonref06_Minus.l0, if_pos (by omega), if_pos (by omega), rd_eq, Int.toNat_natCast, getD_eq a j hj, step64 j (by omega), rhas_some b _ (by omega) k (by omega), Option.bind_some, List.drop_eq_getElem_cons hj]
    by_cases h : a[j] ∈ b
    · rw [decide_eq_true h, if_pos rfl, ih k (j + 1) _ (by omega) (by omega) (by omega), List.filter_cons_of_neg (by simpa using h)]
    · rw [decide_eq_false h, if_neg (by decide), if_pos hn, ih k (j + 1) _ (by omega) (by simp; omega) (by omega), List.filter_cons_of_pos (by simpa using h), List.append_assoc]; rfl
theorem rminus_some (a b : List Int) (ha : a.length ≤ 1000000) (hb : b.length ≤ 1000000) (ra : Rise a) (rb : Rise b) (k : Nat) (hk : a.length + b.length < k) : stolonref06_Minus.f k a b = some (mns a b) := by
  unfold stolonref06_Minus.f
  have := rminus_loop a b ha hb a.length k 0 [] (by omega) (by simp) hk
  rw [show ((0 : Nat) : Int) = 0 from rfl] at this
  rw [this, List.nil_append, List.drop_zero]
  congr 1
  refine rise_ext (ra.filter _) (mns_rise ra rb) fun x => ?_
  rw [mns_mem ra rb, List.mem_filter, Bool.not_eq_true', decide_eq_false_iff_not]
def putIn (out : List Int) (p : Nat) (x : Int) : List Int := out.take p ++ [x] ++ out.drop p
theorem putIn_mem (out : List Int) (p : Nat) (x y : Int) : y ∈ putIn out p x ↔ y = x ∨ y ∈ out := by
  unfold putIn
  rw [List.append_assoc, List.mem_append, List.mem_append, List.mem_singleton]
  conv => rhs; rw [← List.take_append_drop p out, List.mem_append]
  constructor
  · rintro (h | h | h)
    · exact .inr (.inl h)
    · exact .inl h
    · exact .inr (.inr h)
  · rintro (h | h | h)
    · exact .inr (.inl h)
    · exact .inl h
    · exact .inr (.inr h)
theorem putIn_rise {out : List Int} {p : Nat} {x : Int} (hr : Rise out) (h1 : ∀ i (_ : i < out.length), i < p → out[i] < x) (h2 : ∀ i (_ : i < out.length), p ≤ i → x < out[i]) : Rise (putIn out p x) := by
  unfold putIn
  have t1 : ∀ y ∈ out.take p, y < x := by
    intro y hy
    obtain ⟨i, hi, rfl⟩ := List.mem_iff_getElem.1 hy
    rw [List.getElem_take]
    simp at hi
    exact h1 i (by omega) (by omega)
  have t2 : ∀ y ∈ out.drop p, x < y := by
    intro y hy
    obtain ⟨i, hi, rfl⟩ := List.mem_iff_getElem.1 hy
    rw [List.getElem_drop]
    simp at hi
    exact h2 (p + i) (by omega) (by omega)
  rw [Rise, List.append_assoc, List.pairwise_append]
  refine ⟨hr.sublist (List.take_sublist _ _), List.pairwise_cons.2 ⟨t2, hr.sublist (List.drop_sublist _ _)⟩, fun a ha b hb => ?_⟩
  rcases List.mem_cons.1 hb with rfl | hb
  · exact t1 a ha
  · have := t1 a ha; have := t2 b hb; omega
theorem putIn_len (out : List Int) (p : Nat) (x : Int) (hp : p ≤ out.length) : (putIn out p x).length = out.length + 1 := by unfold putIn; simp; omega
set_option maxRecDepth 100000 in
theorem rmake_put (l out : List Int) (i : Nat) (hi : i < l.length) (hl : l.length ≤ 1000000) (ho : out.length ≤ 1000000) (hr : Rise out) : ∀ n k (j : Nat), out.length = j + n → n < k → (∀ q (_ : q < out.length), q < j → out[q] < l[i]) →
    ∃ k' p, k ≤ k' + n + 1 ∧ p ≤ out.length ∧ stolonref06_Make.l1 k l out i (out.take j) j = stolonref06_Make.l0 k' l (putIn out p l[i]) ((i + 1 : Nat) : Int) ∧
      (∀ q (_ : q < out.length), q < p → out[q] < l[i]) ∧ (∀ q (_ : q < out.length), p ≤ q → l[i] ≤ out[q]) := by
  intro n
  have hx : rd l (i : Int) = l[i] := by rw [rd_eq, Int.toNat_natCast, getD_eq l i hi]
  induction n with
  | zero =>
    intro k j h2 hk hlt
    obtain ⟨k, rfl⟩ : ∃ k', k = k' + 1 := ⟨k - 1, by omega⟩
    refine ⟨k, out.length, by omega, Nat.le_refl _, ?_, fun q hq _ => hlt q hq (by omega), fun q hq h => by omega⟩
    have hn : (out.take j).length < 35184372088832 := by simp; omega
    have hn2 : (out.take j ++ [l[i]]).length + (out.drop j).length < 35184372088832 := by simp; omega
    rw [stolonref06_Make.l1, if_neg (by omega), if_pos (by omega), if_pos (by omega), if_pos hn, Option.bind_some, if_pos (by omega), if_pos (by omega), Option.bind_some, Int.toNat_natCast, hx, if_pos hn2, step64 i (by omega)]
    rw [show j = out.length from by omega]
    rfl
  | succ n ih =>
    intro k j h2 hk hlt
    obtain ⟨k, rfl⟩ : ∃ k', k = k' + 1 := ⟨k - 1, by omega⟩
    have hj : j < out.length := by omega
    have hn : (out.take j).length < 35184372088832 := by simp; omega
    have hn2 : (out.take j ++ [l[i]]).length + (out.drop j).length < 35184372088832 := by simp; omega
    have hy : rd out (j : Int) = out[j] := by rw [rd_eq, Int.toNat_natCast, getD_eq out j hj]
    rw [stolonref06_Make.l1, if_pos (by omega), if_pos (by omega), if_pos (by omega), if_pos (by omega), hx, hy]
    by_cases c : out[j] < l[i]
    · rw [if_pos c, if_pos hn, step64 j (by omega), ← List.take_succ_eq_append_getElem hj]
      obtain ⟨k', p, h3, h4, h5, h6, h7⟩ := ih k (j + 1) (by omega) (by omega) (fun q hq h => by
        rcases Nat.lt_or_ge q j with h' | h'
        · exact hlt q hq h'
        · obtain rfl : q = j := by omega
          exact c)
      exact ⟨k', p, by omega, h4, h5, h6, h7⟩
    · refine ⟨k, j, by omega, by omega, ?_, hlt, fun q hq h => ?_⟩
      · rw [if_neg c, if_pos hn, Option.bind_some, if_pos (by omega), Option.bind_some, Int.toNat_natCast, if_pos hn2, step64 i (by omega)]
        rfl
      · rcases Nat.lt_or_ge j q with h' | h'
        · have := (List.pairwise_iff_getElem.1 hr) j q hj hq h'
          omega
        · obtain rfl : q = j := by omega
          omega
def needM : Nat → Nat
  | 0 => 200001
  | n + 1 => needM n + 200001
theorem needM_le (n : Nat) : needM n ≤ 200001 + n * 200001 := by
  induction n with
  | zero => rw [needM]; omega
  | succ n ih => rw [needM]; omega
theorem needM_pos (n : Nat) : 200001 ≤ needM n := by
  induction n with
  | zero => rw [needM]; omega
  | succ n ih => rw [needM]; omega
theorem rmake_loop (l : List Int) (hl : l.length ≤ 100000) : ∀ n k (i : Nat) (out : List Int), l.length = i + n → out.length ≤ i → Rise out → needM n ≤ k →
    ∃ r, stolonref06_Make.l0 k l out i = some r ∧ Rise r ∧ (∀ x, x ∈ r ↔ x ∈ out ∨ x ∈ l.drop i) ∧ r.length ≤ out.length + n := by
  intro n
  induction n with
  | zero =>
    intro k i out h2 ho hr hk
    rw [needM] at hk
    obtain ⟨k, rfl⟩ : ∃ k', k = k' + 1 := ⟨k - 1, by omega⟩
    rw [stolonref06_Make.l0, if_neg (by omega), List.drop_of_length_le (by omega)]
    exact ⟨out, rfl, hr, fun x => by simp, by omega⟩
  | succ n ih =>
    intro k i out h2 ho hr hk
    rw [needM] at hk
    have hnp := needM_pos n
    obtain ⟨k, rfl⟩ : ∃ k', k = k' + 1 := ⟨k - 1, by omega⟩
    have hi : i < l.length := by omega
    have hx : rd l (i : Int) = l[i] := by rw [rd_eq, Int.toNat_natCast, getD_eq l i hi]
    rw [stolonref06_Make.l0, if_pos (by omega), if_pos (by omega), hx, rhas_some out _ (by omega) k (by omega), Option.bind_some, List.drop_eq_getElem_cons hi]
    by_cases c : l[i] ∈ out
    · rw [decide_eq_true c, if_pos rfl, step64 i (by omega)]
      obtain ⟨r, h3, h4, h5, h6⟩ := ih k (i + 1) out (by omega) (by omega) hr (by omega)
      refine ⟨r, h3, h4, fun x => ?_, by omega⟩
      rw [h5, List.mem_cons]
      constructor
      · rintro (h | h)
        · exact .inl h
        · exact .inr (.inr h)
      · rintro (h | h | h)
        · exact .inl h
        · subst h; exact .inl c
        · exact .inr h
    · rw [decide_eq_false c, if_neg (by decide)]
      obtain ⟨k', p, h3, h4, h5, h6, h7⟩ := rmake_put l out i hi (by omega) (by omega) hr out.length k 0 (by omega) (by omega) (fun q hq h => by omega)
      rw [List.take_zero, show ((0 : Nat) : Int) = 0 from rfl] at h5
      rw [h5]
      have hpr : Rise (putIn out p l[i]) := putIn_rise hr h6 (fun q hq h => by
        have h8 := h7 q hq h
        have : l[i] ≠ out[q] := fun e => c (by rw [e]; exact List.getElem_mem _)
        omega)
      have hpl := putIn_len out p l[i] h4
      obtain ⟨r, h8, h9, h10, h11⟩ := ih k' (i + 1) (putIn out p l[i]) (by omega) (by omega) hpr (by omega)
      refine ⟨r, h8, h9, fun x => ?_, by omega⟩
      rw [h10, putIn_mem, List.mem_cons]
      constructor
      · rintro ((h | h) | h)
        · exact .inr (.inl h)
        · exact .inl h
        · exact .inr (.inr h)
      · rintro (h | h | h)
        · exact .inl (.inr h)
        · exact .inl (.inl h)
        · exact .inr h
theorem runion_some (a b : List Int) (h : a.length + b.length ≤ 100000) (ra : Rise a) (rb : Rise b) (k : Nat) (hk : 30000000000 ≤ k) : stolonref06_Union.f k a b = some (uni a b) := by
  unfold stolonref06_Union.f stolonref06_Make.f
  have hn : ([] : List Int).length + a.length < 35184372088832 := by simp; omega
  have hn2 : ([] ++ a).length + b.length < 35184372088832 := by simp; omega
  rw [Option.bind_some, if_pos hn, Option.bind_some, if_pos hn2]
  obtain ⟨r, h3, h4, h5, h6⟩ := rmake_loop ([] ++ a ++ b) (by simp; omega) (a.length + b.length) k 0 [] (by simp) (by simp) List.Pairwise.nil (by have := needM_le (a.length + b.length); omega)
  rw [show ((0 : Nat) : Int) = 0 from rfl] at h3
  rw [h3, Option.bind_some]
  congr 1
  refine rise_ext h4 (uni_rise ra rb) fun x => ?_
  rw [h5, uni_mem ra rb]
  simp
theorem rfilter_loop (l : List S26) (hm : l.length ≤ 200) (hl : ∀ f ∈ l, Rise f.f1 ∧ f.f1.length ≤ 200) : ∀ n k (j : Nat) (s : List Int × List Int × Bool), j ≤ l.length → l.length = j + n → n + 100000000000 < k → s.1.length ≤ 200 * j → s.2.1.length ≤ 200 * j → Rise s.1 → Rise s.2.1 →
    stolonref06_Filter.l0 k l s.1 s.2.1 s.2.2 j = some (finS ((l.drop j).foldl stepS s)) := by
  intro n
  induction n with
  | zero =>
    intro k j s hj h2 hk h3 h4 h5 h6
    obtain ⟨k, rfl⟩ : ∃ k', k = k' + 1 := ⟨k - 1, by omega⟩
    rw [stolonref06_Filter.l0, if_neg (by omega), List.drop_of_length_le (by omega), List.foldl_nil]
    unfold finS
    split
    · rw [rminus_some _ _ (by omega) (by omega) h6 h5 _ (by omega)]; rfl
    · rfl
  | succ n ih =>
    intro k j s hj h2 hk h3 h4 h5 h6
    obtain ⟨k, rfl⟩ : ∃ k', k = k' + 1 := ⟨k - 1, by omega⟩
    have hlt : j < l.length := by omega
    have hf := hl l[j] (List.getElem_mem _)
    have hlen := step_len (s := s) hf.2
    have hkeep := step_keeps (s := s) h5 h6 hf.1
    have := ih k (j + 1) (stepS s l[j]) (by omega) (by omega) (by omega) (by omega) (by omega) hkeep.1 hkeep.2
    rw [stolonref06_Filter.l0, if_pos (by omega), if_pos (by omega), rdT l j hlt, step64 j (by omega), List.drop_eq_getElem_cons hlt, List.foldl_cons, ← this]
    unfold stepS
    split
    · split
      · rw [rinter_some _ _ (by omega) (by omega) h6 hf.1 _ (by omega), Option.bind_some]
      · rfl
    · rw [runion_some _ _ (by omega) h5 hf.1 _ (by omega), Option.bind_some]
theorem rfilter_some (l : List S26) (hm : l.length ≤ 200) (hl : ∀ f ∈ l, Rise f.f1 ∧ f.f1.length ≤ 200) (k : Nat) (hk : l.length + 100000000000 < k) : stolonref06_Filter.f k l = some (finS (l.foldl stepS ([], [], false))) := by
  unfold stolonref06_Filter.f
  have := rfilter_loop l hm hl l.length k 0 ([], [], false) (by omega) (by omega) hk (by simp) (by simp) List.Pairwise.nil List.Pairwise.nil
  rw [List.drop_zero] at this
  exact this
end Go.Proofs.Ytjncmiclpaodhaa
-- written by a program of this session (hprint.py), over the kit's printer
namespace Go.Proofs.Ytjncmiclpaodhaa.PHo
open Go.RowKit Go.Proofs.YtjncmiclpaodhaaW.PrintWords Go.Proofs.YtjncmiclpaodhaaW.PrintLast Go.Proofs.YtjncmiclpaodhaaW.PrintMore
attribute [local go_sem] max2_int min2_int max_two min_two max_three min_three max_four min_four   -- for this text's walks alone
set_option linter.unusedVariables false
set_option linter.unusedSimpArgs false

/-! ### host_changed: function 33 -/
def host_changed.f (k : Nat) (l0_0 : List (S42)) (l1_0 : List (S42)) (a2 : Int) : Option ((List (S42)) × (List (S36)) × Int) := (host_Wants.f k l0_0 a2).bind fun bt145 => ((host_Wants.f k l1_0 a2).bind fun bt149 => ((host_Change.f a2 bt145.1 bt145.2 bt149.1 bt149.2).bind fun t153 => (some (l1_0, t153, 0))))
theorem host_changed.mono : ∀ a0 a1 a2 k, LeO (host_changed.f k a0 a1 a2) (host_changed.f (k + 1) a0 a1 a2) := by
 intro a0 a1 a2 k
 unfold host_changed.f
 repeat' first
  | (with_reducible exact host_Wants.mono _ _ _)
  | (with_reducible exact LeO.refl _)
  | (with_reducible exact LeO.none _)
  | (with_reducible refine LeO.ite ?_ ?_)
  | (with_reducible refine LeO.bind ?_ (fun _ => ?_))
  | exact host_Wants.mono _ _ _
  | exact LeO.none _
  | refine LeO.ite ?_ ?_
  | refine LeO.bind ?_ (fun _ => ?_)
def host_changed.T1 : Bool × List (List Nat × List Nat) := (true, [([], []), ([], []), ([], []), ([], []), ([2, 3], [2, 3]), ([], []), ([], []), ([5, 6, 4], [5, 6]), ([1, 4, 7, 7], [1, 4, 7]), ([0, 8, 0], [0]), ([8, 9, 0, 1, 2, 3, 4, 5, 6, 7, 8, 9], [8]), ([10, 0, 1, 2, 3, 4, 5, 6, 7, 8, 9, 10], [])])
def host_changed.B1 : List Nat := [0, 0, 0, 0, 12, 0, 0, 124, 254, 511, 1023, 2047]
theorem host_changed.tab1 : rtab .any (opsOf Try.f33 1) = host_changed.T1 := by kernel_rfl
theorem host_changed.bits1 : waitsOk host_changed.T1.2 host_changed.B1 = true := by kernel_rfl
set_option maxHeartbeats 8000000 in
set_option maxRecDepth 100000 in
theorem host_changed.calls (k : Nat) (A0_0 : Option Addr) (c0_0 : Nat) (l0_0 : List (S42)) (P1_0_ : Nat → Prop) (A1_0 : Option Addr) (c1_0 : Nat) (l1_0 : List (S42)) (a2 : Int) (r1 : List (S42)) (r2 : List (S36)) (r3 : Int) (w : World) (hr0_0 : Kd.C k42 w A0_0 l0_0.length l0_0) (hc0_0 : l0_0.length ≤ c0_0) (hs1_0 : Kd.V k42 42 w w.heap.size (fun k_ => P1_0_ k_) (.slice A1_0 l1_0.length c1_0) l1_0) (h : host_changed.f k l0_0 l1_0 a2 = some (r1, r2, r3)) :
 Calls Try.prog 33 #[.agg #[.slice A0_0 l0_0.length c0_0], .agg #[.slice A1_0 l1_0.length c1_0], .int .u32 a2] w fun e w' => ∃ v0_ v1_ : Value, e = .returned (.tuple #[.agg #[v0_], v1_, .int .i64 r3]) ∧ Kd.V k42 42 w' w.heap.size (fun k_ => (P1_0_ k_ ∨ w.heap.size ≤ k_)) v0_ r1 ∧ Kd.V k36 36 w' w.heap.size (fun k_ => (P1_0_ k_ ∨ w.heap.size ≤ k_)) v1_ r2 ∧ Below w.heap.size w w' := by
 have hu40 := Try.underlying40
 have HR0_0 := Aside0.mk hr0_0
 have HC0_0 := Aside0.mk hc0_0
 clear hr0_0 hc0_0
 have HO1_0 := Aside0.mk (show Kd.V k42 42 w w.heap.size (fun k_ => (P1_0_ k_ ∨ w.heap.size ≤ k_)) (.slice A1_0 l1_0.length c1_0) l1_0 from Kd.V_mono hs1_0 (fun k_ hk => .inl hk))
 have HB := Aside0.mk (Below.refl w.heap.size w)
 have H : ((host_Wants.f k l0_0 a2).bind fun bt145 => ((host_Wants.f k l1_0 a2).bind fun bt149 => ((host_Change.f a2 bt145.1 bt145.2 bt149.1 bt149.2).bind fun t153 => (some (l1_0, t153, 0))))) = some (r1, r2, r3) := h
 clear h
 replace H := Option.bind_eq_some_iff.mp H
 obtain ⟨⟨t145, t146⟩, A40, H⟩ := H
 replace H : ((host_Wants.f k l1_0 a2).bind fun bt149 => ((host_Change.f a2 t145 t146 bt149.1 bt149.2).bind fun t153 => (some (l1_0, t153, 0)))) = some (r1, r2, r3) := H
 have A4 := Aside0.mk A40
 clear A40
 replace H := Option.bind_eq_some_iff.mp H
 obtain ⟨⟨t149, t150⟩, A50, H⟩ := H
 replace H : ((host_Change.f a2 t145 t146 t149 t150).bind fun t153 => (some (l1_0, t153, 0))) = some (r1, r2, r3) := H
 have A5 := Aside0.mk A50
 clear A50
 replace H := Option.bind_eq_some_iff.mp H
 obtain ⟨t153, A60, H⟩ := H
 replace H : (some (l1_0, t153, 0)) = some (r1, r2, r3) := H
 have A6 := Aside0.mk A60
 clear A60
 simp only [Option.some.injEq, Prod.mk.injEq] at H
 obtain ⟨rfl, rfl, rfl⟩ := H
 go_enter Try.func33, Try.ntmps33
 try go_wp2_with (first | ((with_reducible refine gate_dst (N := 3) rfl ?_); refine bxn (cs := #[.slice A0_0 l0_0.length c0_0]) (t := 40) ?_; intro gb142 hg w7 hbox hb; have n0_ := Aside0.mk (Kd.V_below (Kd.V_elderB (rad HO1_0.out) gb142 (Nat.le_of_eq hg.symm)) hb); have n1_ := Aside0.mk (below_step HB.out hb); have n2_ := Aside0.mk (hbox); have n3_ := Aside0.mk ((by rw [hg]; exact (below_size HB.out) : w.heap.size ≤ gb142)); have n4_ := Aside0.mk ((by rw [hg]; exact (below_size HB.out) : w.heap.size ≤ gb142)); clear HO1_0; clear HB; have HO1_0 := n0_; have HB := n1_; have BK142 := n2_; have GW142 := n3_; have GE142 := n4_; clear n0_ n1_ n2_ n3_ n4_; clear hb hbox hg) | ((with_reducible refine gate_dst (N := 4) rfl ?_); refine bxn (cs := #[.slice A1_0 l1_0.length c1_0]) (t := 40) ?_; intro gb143 hg w8 hbox hb; have n0_ := Aside0.mk (Kd.V_below (Kd.V_elderB (rad HO1_0.out) gb143 (Nat.le_of_eq hg.symm)) hb); have n1_ := Aside0.mk (blk_below BK142.out hb); have n2_ := Aside0.mk (below_step HB.out hb); have n3_ := Aside0.mk (hbox); have n4_ := Aside0.mk ((by rw [hg]; exact (below_size HB.out) : w.heap.size ≤ gb143)); have n5_ := Aside0.mk ((by rw [hg]; exact (below_size HB.out) : w.heap.size ≤ gb143)); have n6_ := Aside0.mk ((by rw [hg]; exact Nat.ne_of_lt (blk_lt BK142.out) : gb142 ≠ gb143)); have n7_ := Aside0.mk ((by rw [hg]; exact Nat.ne_of_gt (blk_lt BK142.out) : gb143 ≠ gb142)); clear HO1_0; clear BK142; clear HB; have HO1_0 := n0_; have BK142 := n1_; have HB := n2_; have BK143 := n3_; have GW143 := n4_; have GE143 := n5_; have NB142_143 := n6_; have NB143_142 := n7_; clear n0_ n1_ n2_ n3_ n4_ n5_ n6_ n7_; clear hb hbox hg) | ((with_reducible refine gate_dst (N := 6) rfl ?_); refine bxn (cs := #[.slice none 0 0]) (t := 40) ?_; intro gb144 hg w9 hbox hb; have n0_ := Aside0.mk (Kd.V_below (Kd.V_elderB (rad HO1_0.out) gb144 (Nat.le_of_eq hg.symm)) hb); have n1_ := Aside0.mk (blk_below BK142.out hb); have n2_ := Aside0.mk (blk_below BK143.out hb); have n3_ := Aside0.mk (below_step HB.out hb); have n4_ := Aside0.mk (hbox); have n5_ := Aside0.mk ((by rw [hg]; exact (below_size HB.out) : w.heap.size ≤ gb144)); have n6_ := Aside0.mk ((by rw [hg]; exact (below_size HB.out) : w.heap.size ≤ gb144)); have n7_ := Aside0.mk ((by rw [hg]; exact Nat.ne_of_lt (blk_lt BK142.out) : gb142 ≠ gb144)); have n8_ := Aside0.mk ((by rw [hg]; exact Nat.ne_of_gt (blk_lt BK142.out) : gb144 ≠ gb142)); have n9_ := Aside0.mk ((by rw [hg]; exact Nat.ne_of_lt (blk_lt BK143.out) : gb143 ≠ gb144)); have n10_ := Aside0.mk ((by rw [hg]; exact Nat.ne_of_gt (blk_lt BK143.out) : gb144 ≠ gb143)); clear HO1_0; clear BK142; clear BK143; clear HB; have HO1_0 := n0_; have BK142 := n1_; have BK143 := n2_; have HB := n3_; have BK144 := n4_; have GW144 := n5_; have GE144 := n6_; have NB142_144 := n7_; have NB144_142 := n8_; have NB143_144 := n9_; have NB144_143 := n10_; clear n0_ n1_ n2_ n3_ n4_ n5_ n6_ n7_ n8_ n9_ n10_; clear hb hbox hg))
 have n0_ := Aside0.mk (Kd.V_drew HO1_0.out)
 have n1_ := Aside0.mk (blk_drew BK142.out)
 have n2_ := Aside0.mk (blk_drew BK143.out)
 have n3_ := Aside0.mk (blk_drew BK144.out)
 have n4_ := Aside0.mk (below_drew1 HB.out)
 clear HO1_0
 clear BK142
 clear BK143
 clear BK144
 clear HB
 have HO1_0 := n0_
 have BK142 := n1_
 have BK143 := n2_
 have BK144 := n3_
 have HB := n4_
 clear n0_ n1_ n2_ n3_ n4_
 refine start_ (n := 12) (S := fun w' => w'.cell? ⟨gb143, 0, none⟩ = some (.slice A1_0 l1_0.length c1_0) ∧ w'.cell? ⟨gb142, 0, none⟩ = some (.slice A0_0 l0_0.length c0_0)) (ds := []) #[false, false, false, false, false, false, false, false, false, false, false, false] (by kernel_rfl) rfl rfl ⟨(blk_cell BK143.out 0).trans rfl, (blk_cell BK142.out 0).trans rfl⟩ (fun hHeld => ?_); refine with_tabW host_changed.tab1 host_changed.bits1 (fun HT_ HW_ => ?_)
 generalize w9.drew = w10 at HO1_0 BK142 BK143 BK144 HB hHeld ⊢
 refine pw 1 10 (bb 12 2) rfl rfl HT_ ?_
 refine pw 3 12 (bb 12 10) rfl rfl HT_ ?_
 refine pw 6 15 (bb 12 74) rfl rfl HT_ ?_
 refine tk 0 9 (bb 12 75) rfl rfl HT_ HW_ hHeld ?_
 refine tk 2 11 (bb 12 79) rfl rfl HT_ HW_ hHeld ?_
 refine tk 5 14 (bb 12 111) rfl rfl HT_ HW_ hHeld ?_
 refine on1 4 (some 13) (bb 12 127) rfl rfl HT_ (fun K hK => ?_)
 refine gfn Try.func18 #[.agg #[.slice A0_0 l0_0.length c0_0], .int .u32 a2] ?_
 with_reducible refine (host_Wants.calls k (fun k_ => k_ < w.heap.size) _ _ l0_0 a2 t145 t146 _ ?side1 A4.out).mono ?_
 (case side1 => exact Kd.V_mk HC0_0.out (Kd.F_below (Kd.C_F k42_heap HR0_0.out) HB.out))
 rintro e w11 ⟨v147, rfl, ho0, hb⟩
 refine ⟨_, rfl, ?_⟩
 have n0_ := Aside0.mk (Kd.V_elder' (rad HO1_0.out) (Kd.R_base ho0) hb)
 have n1_ := Aside0.mk (Kd.R_lower (Kd.R_newM (M := fun k_ => (w.heap.size ≤ k_)) (Kd.R_mono (ok' := fun k_ => True) ho0 (fun _ hk_ => trivial)) (below_size HB.out) (fun k_ h_ => h_)) (below_size HB.out))
 have n2_ := Aside0.mk (blk_below BK142.out hb)
 have n3_ := Aside0.mk (blk_below BK143.out hb)
 have n4_ := Aside0.mk (blk_below BK144.out hb)
 have n5_ := Aside0.mk (below_step HB.out hb)
 clear HO1_0
 clear BK142
 clear BK143
 clear BK144
 clear HB
 have HO1_0 := n0_
 have HO148 := n1_
 have BK142 := n2_
 have BK143 := n3_
 have BK144 := n4_
 have HB := n5_
 clear n0_ n1_ n2_ n3_ n4_ n5_
 (try clear hb)
 (try clear hb2)
 (try clear hk)
 (try clear hi)
 (try clear ho0)
 refine hK.out _ _ ⟨(blk_cell BK143.out 0).trans rfl, (blk_cell BK142.out 0).trans rfl⟩ (fun hHeld => ?_)
 clear hK K
 refine nm ?_
 refine on1 7 (some 16) (bb 12 255) rfl rfl HT_ (fun K hK => ?_)
 refine gfn Try.func18 #[.agg #[.slice A1_0 l1_0.length c1_0], .int .u32 a2] ?_
 with_reducible refine (host_Wants.calls k (fun k_ => (((((P1_0_ k_ ∨ w.heap.size ≤ k_) ∧ k_ ≠ gb142) ∧ k_ ≠ gb143) ∧ k_ ≠ gb144) ∧ some k_ ≠ (v147 : Value).ownBlock)) _ _ l1_0 a2 t149 t150 _ ?side1 A5.out).mono ?_
 (case side1 => exact HO1_0.out)
 rintro e w12 ⟨v151, rfl, ho0, hb⟩
 refine ⟨_, rfl, ?_⟩
 have n0_ := Aside0.mk (Kd.V_elder' (rad HO1_0.out) (Kd.R_base ho0) hb)
 have n1_ := Aside0.mk (Kd.R_elder' (rad HO148.out) (Kd.R_base ho0) hb)
 have n2_ := Aside0.mk (Kd.R_lower (Kd.R_new' (Kd.R_newM (M := fun k_ => (w.heap.size ≤ k_)) (Kd.R_mono (ok' := fun k_ => True) ho0 (fun _ hk_ => trivial)) (below_size HB.out) (fun k_ h_ => h_)) (Kd.R_lt (rad HO148.out))) (below_size HB.out))
 have n3_ := Aside0.mk (blk_below BK142.out hb)
 have n4_ := Aside0.mk (blk_below BK143.out hb)
 have n5_ := Aside0.mk (blk_below BK144.out hb)
 have n6_ := Aside0.mk (below_step HB.out hb)
 clear HO1_0
 clear HO148
 clear BK142
 clear BK143
 clear BK144
 clear HB
 have HO1_0 := n0_
 have HO148 := n1_
 have HO152 := n2_
 have BK142 := n3_
 have BK143 := n4_
 have BK144 := n5_
 have HB := n6_
 clear n0_ n1_ n2_ n3_ n4_ n5_ n6_
 (try clear hb)
 (try clear hb2)
 (try clear hk)
 (try clear hi)
 (try clear ho0)
 obtain ⟨Ao13, co13, eo13⟩ := Kd.R_slice HO148.out
 (first | subst eo13 | (injection eo13 with f1_ f2_ f3_; have f4_ := f1_.symm; have f5_ := f3_.symm; clear f1_ f2_ f3_; subst f4_; subst f5_))
 obtain ⟨Ao14, co14, eo14⟩ := Kd.R_slice HO152.out
 (first | subst eo14 | (injection eo14 with f1_ f2_ f3_; have f4_ := f1_.symm; have f5_ := f3_.symm; clear f1_ f2_ f3_; subst f4_; subst f5_))
 refine hK.out _ _ ⟨(blk_cell BK143.out 0).trans rfl, (blk_cell BK142.out 0).trans rfl⟩ (fun hHeld => ?_)
 clear hK K
 refine nm ?_
 refine on1 8 (some 17) (bb 12 511) rfl rfl HT_ (fun K hK => ?_)
 refine gfn Try.func10 #[.int .u32 a2, .agg #[.bool t145, .slice Ao13 t146.length co13], .agg #[.bool t149, .slice Ao14 t150.length co14]] ?_
 with_reducible refine (host_Change.calls a2 t145 _ _ t146 t149 (fun k_ => some k_ = (.slice Ao14 t150.length co14 : Value).ownBlock) _ _ t150 t153 _ ?side1 ?side2 ?side3 A6.out).mono ?_
 (case side1 => exact ca (Kd.R_reads' HO148.out).2.2)
 (case side2 => exact (Kd.R_reads' HO148.out).2.1)
 (case side3 => exact Kd.R_V (Kd.R_tight rfl (Kd.R_types (Kd.R_types (Kd.R_types (HO152.out) BK142.out (by decide)) BK143.out (by decide)) BK144.out (by decide))))
 rintro e w15 ⟨v154, rfl, ho0, hb⟩
 refine ⟨_, rfl, ?_⟩
 have n0_ := Aside0.mk (Kd.V_below (rad HO1_0.out) hb)
 have n1_ := Aside0.mk (Kd.R_below (rad HO148.out) hb)
 have n2_ := Aside0.mk (Kd.R_below (rad HO152.out) hb)
 have n3_ := Aside0.mk (Kd.V_lower (Kd.V_mono (ok' := fun k_ => (P1_0_ k_ ∨ w.heap.size ≤ k_) ∧ some k_ ≠ (.slice Ao13 t146.length co13 : Value).ownBlock ∧ k_ ≠ gb142 ∧ k_ ≠ gb143 ∧ k_ ≠ gb144) ho0 (fun k_ hk_ => ⟨Or.elim hk_ (fun hs_ => (.inr (((Kd.R_types (Kd.R_types (Kd.R_types (HO152.out) BK142.out (by decide)) BK143.out (by decide)) BK144.out (by decide)).1 k_ hs_.symm).1.1.1.1.1))) (fun hn_ => (.inr (Nat.le_trans (below_size HB.out) hn_))), Or.elim hk_ (fun hs_ => ((Kd.R_types (Kd.R_types (Kd.R_types (HO152.out) BK142.out (by decide)) BK143.out (by decide)) BK144.out (by decide)).1 k_ hs_.symm).1.1.1.2) (fun hn_ => (Kd.fresh' (Kd.R_lt (rad HO148.out)) k_ hn_)), Or.elim hk_ (fun hs_ => ((Kd.R_types (Kd.R_types (Kd.R_types (HO152.out) BK142.out (by decide)) BK143.out (by decide)) BK144.out (by decide)).1 k_ hs_.symm).1.1.2) (fun hn_ => (Kd.freshB (g := gb142) (o := .cells #[.slice A0_0 l0_0.length c0_0] 40 (0, 0)) BK142.out k_ hn_)), Or.elim hk_ (fun hs_ => ((Kd.R_types (Kd.R_types (Kd.R_types (HO152.out) BK142.out (by decide)) BK143.out (by decide)) BK144.out (by decide)).1 k_ hs_.symm).1.2) (fun hn_ => (Kd.freshB (g := gb143) (o := .cells #[.slice A1_0 l1_0.length c1_0] 40 (0, 0)) BK143.out k_ hn_)), Or.elim hk_ (fun hs_ => ((Kd.R_types (Kd.R_types (Kd.R_types (HO152.out) BK142.out (by decide)) BK143.out (by decide)) BK144.out (by decide)).1 k_ hs_.symm).2) (fun hn_ => (Kd.freshB (g := gb144) (o := .cells #[.slice none 0 0] 40 (0, 0)) BK144.out k_ hn_))⟩)) (below_size HB.out))
 have n4_ := Aside0.mk (blk_below BK142.out hb)
 have n5_ := Aside0.mk (blk_below BK143.out hb)
 have n6_ := Aside0.mk (blk_below BK144.out hb)
 have n7_ := Aside0.mk (below_step HB.out hb)
 clear HO1_0
 clear HO148
 clear HO152
 clear BK142
 clear BK143
 clear BK144
 clear HB
 have HO1_0 := n0_
 have HO148 := n1_
 have HO152 := n2_
 have HO155 := n3_
 have BK142 := n4_
 have BK143 := n5_
 have BK144 := n6_
 have HB := n7_
 clear n0_ n1_ n2_ n3_ n4_ n5_ n6_ n7_
 (try clear hb)
 (try clear hb2)
 (try clear hk)
 (try clear hi)
 (try clear ho0)
 refine hK.out _ _ ⟨(blk_cell BK143.out 0).trans rfl, (blk_cell BK142.out 0).trans rfl⟩ (fun hHeld => ?_)
 clear hK K
 refine nm ?_
 refine on1 9 none (bb 12 1023) rfl rfl HT_ (fun K hK => ?_)
 obtain ⟨hs16, hfs16⟩ := cf1 BK144.out
 have hns16_0 := NB142_144.out
 have hns16_1 := NB143_144.out
 have hms16_0 := NB144_142.out
 have hms16_1 := NB144_143.out
 refine skip_ (w1 := ?_) (by rfl) rfl ?_ ?_
 rotate_left
 · go_simp
   rfl
 refine hK.out _ _ ⟨((cell_far (p := ⟨gb144, _, none⟩) NB143_144.out _).trans (hHeld.1)), ((cell_far (p := ⟨gb144, _, none⟩) NB142_144.out _).trans (hHeld.2))⟩ (fun hHeld => ?_)
 clear hK K
 refine pw 10 7 (bb 12 2047) rfl rfl HT_ ?_
 refine pw 11 8 (bb 12 4095) rfl rfl HT_ ?_
 refine done_ (done_of HT_.out (by kernel_rfl)) ?_
 try go_wp2
 refine bodyPost_ret (results_ctt rfl _ _ gb144 40 #[.slice A1_0 l1_0.length c1_0] (0, 0) _ rfl (by refine ba ?_; refine blk_put (cs := #[.slice none 0 0]) ?_ 0 _ rfl; refine ba ?_; exact BK144.out) Try.underlying40 rfl (by kernel_rfl)) rfl ?_
 exact ⟨_, _, by first | rfl | (simp [errW_none, errW_some] <;> rfl) | (simp [*, errW_none, errW_some] <;> rfl), by refine rad ?_; exact Kd.V_mono (Kd.V_far (p := ⟨gb144, 0, none⟩) (Kd.V_mono HO1_0.out (fun k_ hk => (⟨hk, hk.1.1.2⟩ : _ ∧ k_ ≠ gb144))) (fun _ hk => hk.2) (.slice A1_0 l1_0.length c1_0)) (fun _ hk => hk.1.1.1.1.1.1), by refine rad ?_; exact Kd.V_mono (Kd.V_far (p := ⟨gb144, 0, none⟩) (Kd.V_mono HO155.out (fun k_ hk => (⟨hk, hk.2.2.2.2⟩ : _ ∧ k_ ≠ gb144))) (fun _ hk => hk.2) (.slice A1_0 l1_0.length c1_0)) (fun _ hk => hk.1.1), bl HB⟩

-- BY HAND: function 15 (host_Put)

/-! ### host_some: function 41 -/
def host_some.f (a0_0 : Bool) (l0_1 : List Int) : Option (Bool) := if a0_0 = true then (some true) else (some (decide ((l0_1.length : Int) > 0)))
set_option maxHeartbeats 8000000 in
set_option maxRecDepth 100000 in
theorem host_some.calls (a0_0 : Bool) (A0_1 : Option Addr) (c0_1 : Nat) (l0_1 : List Int) (r : Bool) (w : World) (hr0_1 : Kd.C (Kd.int .u32) w A0_1 l0_1.length l0_1) (hc0_1 : l0_1.length ≤ c0_1) (h : host_some.f a0_0 l0_1 = some r) :
 Calls Try.prog 41 #[.agg #[.bool a0_0, .slice A0_1 l0_1.length c0_1]] w fun e w' => e = .returned (.bool r) ∧ Below w.heap.size w w' := by
 have hu26 := Try.underlying26
 have HR0_1 := Aside0.mk hr0_1
 have HC0_1 := Aside0.mk hc0_1
 clear hr0_1 hc0_1
 have HB := Aside0.mk (Below.refl w.heap.size w)
 have H : (if a0_0 = true then (some true) else (some (decide ((l0_1.length : Int) > 0)))) = some r := h
 clear h
 by_cases c2 : a0_0 = true
 · subst c2
   replace H : (some true) = some r := by rw [if_pos rfl] at H; exact H
   obtain rfl := Option.some.inj H
   go_enter Try.func41, Try.ntmps41
   go_wp2_with (first | ((with_reducible refine gate_dst (N := 1) rfl ?_); (try (refine gate_guard (by rfl) ?_; dsimp only)); refine bxn (cs := #[.bool true, .slice A0_1 l0_1.length c0_1]) (t := 26) ?_; intro gb156 hg w3 hbox hb; have BK156 := Aside0.mk (hbox); have GW156 := Aside0.mk ((by rw [hg]; exact (below_size HB.out) : w.heap.size ≤ gb156)); have GE156 := Aside0.mk ((by rw [hg]; exact (below_size HB.out) : w.heap.size ≤ gb156)); replace HB := Aside0.mk (below_step HB.out hb); clear hb hbox hg; obtain ⟨hcz4_0, hcz4_1, hfz4_0, hfz4_1⟩ := cf2 BK156.out))
   go_ret
   exact ⟨by first | rfl | (simp [errW_none, errW_some] <;> rfl) | (simp [*, errW_none, errW_some] <;> rfl), bl HB⟩
 · replace c2 := Bool.eq_false_iff.mpr c2
   subst c2
   replace H : (some (decide ((l0_1.length : Int) > 0))) = some r := by rw [if_neg (show ¬ (false = true) by decide)] at H; exact H
   obtain rfl := Option.some.inj H
   go_enter Try.func41, Try.ntmps41
   go_wp2_with (first | ((with_reducible refine gate_dst (N := 1) rfl ?_); (try (refine gate_guard (by rfl) ?_; dsimp only)); refine bxn (cs := #[.bool false, .slice A0_1 l0_1.length c0_1]) (t := 26) ?_; intro gb156 hg w5 hbox hb; have BK156 := Aside0.mk (hbox); have GW156 := Aside0.mk ((by rw [hg]; exact (below_size HB.out) : w.heap.size ≤ gb156)); have GE156 := Aside0.mk ((by rw [hg]; exact (below_size HB.out) : w.heap.size ≤ gb156)); replace HB := Aside0.mk (below_step HB.out hb); clear hb hbox hg; obtain ⟨hcz6_0, hcz6_1, hfz6_0, hfz6_1⟩ := cf2 BK156.out))
   go_ret
   exact ⟨by first | rfl | (simp [errW_none, errW_some] <;> rfl) | (simp [*, errW_none, errW_some] <;> rfl), bl HB⟩

-- NOT PRINTED: function 60 (api_Addr_60)

-- NOT PRINTED: function 81 (api_Addr_81)

-- NOT PRINTED: function 74 (api_Addr_74)

end Go.Proofs.Ytjncmiclpaodhaa.PHo
