/-
  Sums, what is put, and joined words are as the document says. For every input.
-/
import Derived.Test.YtacjimkkbimcaaaPSumx2
import Derived.Test.YtacjimkkbimcaaaSumL
namespace Go.Proofs.Ytacjimkkbimcaaa.Pure
open Go.RowKit Go.Proofs.Ytacjimkkbimcaaa.PSum Go.Proofs.YtacjimkkbimcaaaW.PrintWords Go.Proofs.YtacjimkkbimcaaaW.PrintLast

theorem refJoin_some {x y : Int} (h0 : 0 ≤ x) (h1 : x < 65536) (h2 : 0 ≤ y) (h3 : y < 65536) : stolonref02_Join.f x y = some (joinW x y) := by
  unfold stolonref02_Join.f joinW
  rw [w64 (i := x) (by omega) (by omega), w64 (i := y) (by omega) (by omega), w64 (i := x + y) (by omega) (by omega), w64 (i := x + y - 65536) (by omega) (by omega), w64 (by omega) (by omega)]
  by_cases c : x + y ≥ 65536
  · rw [if_pos c, if_neg (by omega), wraps_u16 _ (by omega) (by omega)]; congr 1; omega
  · rw [if_neg c, if_pos (by omega), wraps_u16 _ (by omega) (by omega)]

theorem refOf_loop (l : List Int) (hb : ∀ z ∈ l, 0 ≤ z ∧ z < 256) (hl : l.length ≤ 3000) : ∀ (d k j : Nat) (s : Int), 0 ≤ s → s < 65536 → (l.length + 1) / 2 - j = d → d < k →
    stolonref02_Of.l0 k l s ((2 * j : Nat) : Int) = some (65535 - ((List.range ((l.length + 1) / 2)).drop j).foldl (fun s k => joinW s (wordAt l k)) s) := by
  intro d
  induction d with
  | zero =>
    intro k j s h0 h1 hd hk
    obtain ⟨k, rfl⟩ : ∃ m, k = m + 1 := ⟨k - 1, by omega⟩
    rw [stolonref02_Of.l0, if_neg (by omega), List.drop_of_length_le (by simp; omega), List.foldl_nil, wraps_u16 _ (by omega) (by omega)]
  | succ d ih =>
    intro k j s h0 h1 hd hk
    obtain ⟨k, rfl⟩ : ∃ m, k = m + 1 := ⟨k - 1, by omega⟩
    have g0 := get_byte hb (2 * j)
    have g1 := get_byte hb (2 * j + 1)
    have hw := wordAt_range l hb j
    have hj := joinW_range h0 h1 hw.1 hw.2
    have e := ih k (j + 1) (joinW s (wordAt l j)) hj.1 hj.2 (by omega) (by omega)
    rw [List.drop_eq_getElem_cons (by simp; omega), List.foldl_cons, List.getElem_range, ← e]
    have i1 : wrap64 (((2 * j : Nat) : Int) + 1) = ((2 * j + 1 : Nat) : Int) := by rw [w64 (by omega) (by omega)]; omega
    have i2 : wrap64 (((2 * j : Nat) : Int) + 2) = ((2 * (j + 1) : Nat) : Int) := by rw [w64 (by omega) (by omega)]; omega
    rw [stolonref02_Of.l0, if_pos (by omega), if_pos (by omega), i1, i2, rd_eq, rd_eq, Int.toNat_natCast, Int.toNat_natCast]
    rw [w64 (i := l.getD (2 * j) 0) (by omega) (by omega), w64 (i := l.getD (2 * j + 1) 0) (by omega) (by omega), w64 (i := l.getD (2 * j) 0 * 256) (by omega) (by omega), w64 (by omega) (by omega)]
    by_cases c : 2 * j + 1 < l.length
    · have hwe : wordAt l j = l.getD (2 * j) 0 * 256 + l.getD (2 * j + 1) 0 := by unfold wordAt; rw [if_pos c]
      rw [if_pos (by omega), if_pos (by omega), ← hwe, wraps_u16 _ hw.1 hw.2, refJoin_some h0 h1 hw.1 hw.2]
      rfl
    · have hwe : wordAt l j = l.getD (2 * j) 0 * 256 := by unfold wordAt; rw [if_neg c]; omega
      rw [if_neg (by omega), ← hwe, wraps_u16 _ hw.1 hw.2, refJoin_some h0 h1 hw.1 hw.2]
      rfl

theorem refOf_some (l : List Int) (hb : ∀ z ∈ l, 0 ≤ z ∧ z < 256) (hl : l.length ≤ 3000) (k : Nat) (hk : l.length < k) : stolonref02_Of.f k l = some (sumOf l) := by
  unfold stolonref02_Of.f
  exact refOf_loop l hb hl ((l.length + 1) / 2) k 0 0 (by omega) (by omega) (by omega) (by omega)

theorem sumOf_range (l : List Int) (hb : ∀ z ∈ l, 0 ≤ z ∧ z < 256) : 0 ≤ sumOf l ∧ sumOf l < 65536 := by
  unfold sumOf
  have := fold_range l hb (List.range ((l.length + 1) / 2)) 0 (by omega) (by omega)
  omega

theorem zeroed_get (l : List Int) (m i : Nat) (hi : i < l.length) : (zeroed l m).getD i 0 = if i = m ∨ i = m + 1 then 0 else l.getD i 0 := by
  unfold zeroed
  have hz : i < ((l.set m 0).set (m + 1) 0).length := by simp; exact hi
  rw [List.getD_eq_getElem?_getD, List.getElem?_eq_getElem hz, List.getD_eq_getElem?_getD, List.getElem?_eq_getElem hi]
  rw [List.getElem_set, List.getElem_set]
  by_cases c : m = i
  · subst c; simp
  · by_cases c' : m + 1 = i
    · subst c'; simp
    · rw [if_neg c', if_neg c, if_neg (by omega)]

theorem refPut_loop (l : List Int) (m : Nat) (hb : ∀ z ∈ l, 0 ≤ z ∧ z < 256) (hl : l.length ≤ 3000) (hm : m + 2 ≤ l.length) : ∀ (d k i : Nat), l.length - i = d → i ≤ l.length → d + 4000 < k →
    stolonref02_Put.l0 k l m ((zeroed l m).take i) i = some (putOf l m, 0) := by
  intro d
  have zl := zeroed_len l m
  have zb := zeroed_byte l m hb
  have hs := sumOf_range (zeroed l m) zb
  have e1 : wrap64 ((m : Int) + 1) = ((m + 1 : Nat) : Int) := by rw [w64 (by omega) (by omega)]; omega
  induction d with
  | zero =>
    intro k i hd hi hk
    obtain ⟨k, rfl⟩ : ∃ m, k = m + 1 := ⟨k - 1, by omega⟩
    rw [stolonref02_Put.l0, if_neg (by omega), List.take_of_length_le (by omega), refOf_some _ zb (by omega) _ (by omega), Option.bind_some, e1, if_pos (by omega), if_pos (by omega), if_pos (by omega), if_pos (by omega)]
    rw [Int.toNat_natCast, Int.toNat_natCast, Int.tdiv_eq_ediv_of_nonneg hs.1, Int.tmod_eq_emod_of_nonneg hs.1, wraps_u16 _ (by omega) (by omega), show sumOf (zeroed l m) / 256 % 256 = sumOf (zeroed l m) / 256 from by omega, show sumOf (zeroed l m) % 256 % 256 = sumOf (zeroed l m) % 256 from by omega]
    rfl
  | succ d ih =>
    intro k i hd hi hk
    obtain ⟨k, rfl⟩ : ∃ m, k = m + 1 := ⟨k - 1, by omega⟩
    have hlt : i < l.length := by omega
    have e2 : wrap64 ((i : Int) + 1) = ((i + 1 : Nat) : Int) := by rw [w64 (by omega) (by omega)]; omega
    have e3 := ih k (i + 1) (by omega) (by omega) (by omega)
    have g := zeroed_get l m i hlt
    have hz : i < (zeroed l m).length := by omega
    rw [List.take_succ_eq_append_getElem hz, show (zeroed l m)[i] = (zeroed l m).getD i 0 from by rw [List.getD_eq_getElem?_getD, List.getElem?_eq_getElem hz]; rfl, g] at e3
    have hn : ((zeroed l m).take i).length < 140737488355328 := by simp; omega
    rw [stolonref02_Put.l0, if_pos (by omega), e1, e2]
    by_cases c : i = m
    · rw [if_pos (by omega), if_pos hn, ← e3, if_pos (.inl c)]
    · by_cases c' : i = m + 1
      · rw [if_neg (by omega), if_pos (by omega), if_pos hn, ← e3, if_pos (.inr c')]
      · rw [if_neg (by omega), if_neg (by omega), if_pos (by omega), if_pos hn, ← e3, if_neg (by omega)]
        rfl

theorem refPut_some (l : List Int) (a : Int) (hb : ∀ z ∈ l, 0 ≤ z ∧ z < 256) (hl : l.length ≤ 3000) (ha : -9223372036854775808 ≤ a ∧ a ≤ 9223372036854775807) (k : Nat) (hk : l.length + 5000 < k) :
    stolonref02_Put.f k l a = some (if a < 0 ∨ a % 2 ≠ 0 ∨ (l.length : Int) - 2 < a then ([], 1) else (putOf l a.toNat, 0)) := by
  obtain ⟨k, rfl⟩ : ∃ m, k = m + 1 := ⟨k - 1, by omega⟩
  have no : stolonref02_Put.j0 (k + 1) l a true = some ([], 1) := by rw [stolonref02_Put.j0, if_pos rfl]
  unfold stolonref02_Put.f
  by_cases c1 : a < 0
  · rw [if_pos c1, no, if_pos (.inl c1)]
  · rw [if_neg c1, tmod2_one a (by omega)]
    by_cases c2 : a % 2 = 1
    · rw [if_pos c2, no, if_pos (.inr (.inl (by omega)))]
    · rw [if_neg c2, w64 (by omega) (by omega)]
      by_cases c3 : a > (l.length : Int) - 2
      · rw [decide_eq_true c3, no, if_pos (.inr (.inr (by omega)))]
      · rw [decide_eq_false c3, if_neg (by omega), stolonref02_Put.j0, if_neg (by decide)]
        obtain ⟨m, rfl⟩ := Int.eq_ofNat_of_zero_le (show 0 ≤ a by omega)
        exact refPut_loop l m hb hl (by omega) l.length k 0 (by omega) (by omega) (by omega)

/-- The law's plain half. -/
theorem sumTells (l : List Int) (a x y : Int) (hl : l.length * 1 ≤ 140737488351232) (hb : ∀ z ∈ l, 0 ≤ z ∧ z < 256) (ha : -9223372036854775808 ≤ a ∧ a ≤ 9223372036854775807) (hx : 0 ≤ x ∧ x < 65536) (hy : 0 ≤ y ∧ y < 65536) :
    ∃ k, stolonlaw02_SumTells.f k l a x y = some true := by
  refine ⟨10000, ?_⟩
  unfold stolonlaw02_SumTells.f
  rw [shown_some, Option.bind_some]
  by_cases c : (l.length : Int) > 3000
  · rw [if_pos c]
  have hl3 : l.length ≤ 3000 := by omega
  have hp : l.length ≤ 140737488351232 := by omega
  rw [if_neg c, put_some hb hp ha, Option.bind_some, refPut_some l a hb hl3 ha _ (by omega), Option.bind_some, refOf_some l hb hl3 _ (by omega), Option.bind_some, if_pos rfl, of_some hb hp, Option.bind_some, if_pos rfl, whole_some hb hp, Option.bind_some]
  rw [beq_self_eq_true, if_pos rfl]
  have hlen : (if a < 0 ∨ a % 2 ≠ 0 ∨ (l.length : Int) - 2 < a then (([] : List Int), (1 : Int)) else (putOf l a.toNat, 0)).1.length ≤ 3000 := by
    split
    · simp
    · rw [putOf_len]; exact hl3
  rw [same_some _ _ (by omega) _ (by omega), Option.bind_some, beq_self_eq_true, if_pos rfl, if_pos rfl, join_some hx.1 hx.2 hy.1 hy.2, Option.bind_some, refJoin_some hx.1 hx.2 hy.1 hy.2, Option.bind_some, beq_self_eq_true]
end Go.Proofs.Ytacjimkkbimcaaa.Pure
