/-
  The document's sums and frames, in plain lists.
-/
import Derived.Test.YtlaanmkangikbaaIpP
import Derived.Test.YtlaanmkangikbaaPIpx4
namespace Go.Proofs.Ytlaanmkangikbaa.Ref
open Go.RowKit Go.Proofs.Ytlaanmkangikbaa Go.Proofs.Ytlaanmkangikbaa.PIp Go.Proofs.YtlaanmkangikbaaW.PrintWords Go.Proofs.YtlaanmkangikbaaW.PrintLast

theorem refJoin_some {x y : Int} (h0 : 0 ≤ x) (h1 : x < 65536) (h2 : 0 ≤ y) (h3 : y < 65536) : stolonref02_Join.f x y = some (joinW x y) := by
  unfold stolonref02_Join.f joinW
  rw [wr64 (i := x) (by omega) (by omega), wr64 (i := y) (by omega) (by omega), wr64 (i := x + y) (by omega) (by omega), wr64 (i := x + y - 65536) (by omega) (by omega), wr64 (by omega) (by omega)]
  by_cases c : x + y ≥ 65536
  · rw [if_pos c, if_neg (by omega), wraps_u16 _ (by omega) (by omega)]; congr 1; omega
  · rw [if_neg c, if_pos (by omega), wraps_u16 _ (by omega) (by omega)]

theorem refOf_loop (l : List Int) (hb : ∀ z ∈ l, 0 ≤ z ∧ z < 256) (hl : l.length ≤ 3000) : ∀ (d k j : Nat) (s : Int), 0 ≤ s → s < 65536 → (l.length + 1) / 2 - j = d → d < k →
    stolonref02_Of.l0 k l s ((2 * j : Nat) : Int) = some (65535 - ((List.range ((l.length + 1) / 2)).drop j).foldl (fun s k => joinW s (wordAt l k)) s) := by
  intro d
  induction d with
  | zero =>
    intro k j s h0 h1 hd hk
    obtain ⟨k, rfl⟩ : ∃ m, k = m + 1 := ⟨k - 1, by omega⟩
    rw [stolonref02_Of.l0, if_neg (by omega), List.drop_of_length_le (by simp; omega), List.foldl_nil, wraps_u16 _ (by omega) (by omega)]
  | succ d ih =>
    intro k j s h0 h1 hd hk
    obtain ⟨k, rfl⟩ : ∃ m, k = m + 1 := ⟨k - 1, by omega⟩
    have g0 := get_byte hb (2 * j)
    have g1 := get_byte hb (2 * j + 1)
    have hw := wordAt_range l hb j
    have hj := joinW_range h0 h1 hw.1 hw.2
    have e := ih k (j + 1) (joinW s (wordAt l j)) hj.1 hj.2 (by omega) (by omega)
    rw [List.drop_eq_getElem_cons (by simp; omega), List.foldl_cons, List.getElem_range, ← e]
    have i1 : wrap64 (((2 * j : Nat) : Int) + 1) = ((2 * j + 1 : Nat) : Int) := by rw [wr64 (by omega) (by omega)]; omega
    have i2 : wrap64 (((2 * j : Nat) : Int) + 2) = ((2 * (j + 1) : Nat) : Int) := by rw [wr64 (by omega) (by omega)]; omega
    rw [stolonref02_Of.l0, if_pos (by omega), if_pos (by omega), i1, i2, rd_eq, rd_eq, Int.toNat_natCast, Int.toNat_natCast]
    rw [wr64 (i := l.getD (2 * j) 0) (by omega) (by omega), wr64 (i := l.getD (2 * j + 1) 0) (by omega) (by omega), wr64 (i := l.getD (2 * j) 0 * 256) (by omega) (by omega), wr64 (by omega) (by omega)]
    by_cases c : 2 * j + 1 < l.length
    · have hwe : wordAt l j = l.getD (2 * j) 0 * 256 + l.getD (2 * j + 1) 0 := by unfold wordAt; rw [if_pos c]
      rw [if_pos (by omega), if_pos (by omega), ← hwe, wraps_u16 _ hw.1 hw.2, refJoin_some h0 h1 hw.1 hw.2]
      rfl
    · have hwe : wordAt l j = l.getD (2 * j) 0 * 256 := by unfold wordAt; rw [if_neg c]; omega
      rw [if_neg (by omega), ← hwe, wraps_u16 _ hw.1 hw.2, refJoin_some h0 h1 hw.1 hw.2]
      rfl

theorem refOf_some (l : List Int) (hb : ∀ z ∈ l, 0 ≤ z ∧ z < 256) (hl : l.length ≤ 3000) (k : Nat) (hk : l.length < k) : stolonref02_Of.f k l = some (sumOf l) := by
  unfold stolonref02_Of.f
  exact refOf_loop l hb hl ((l.length + 1) / 2) k 0 0 (by omega) (by omega) (by omega) (by omega)

theorem sumOf_range (l : List Int) (hb : ∀ z ∈ l, 0 ≤ z ∧ z < 256) : 0 ≤ sumOf l ∧ sumOf l < 65536 := by
  unfold sumOf
  have := fold_range l hb (List.range ((l.length + 1) / 2)) 0 (by omega) (by omega)
  omega

theorem zeroed_get (l : List Int) (m i : Nat) (hi : i < l.length) : (zeroed l m).getD i 0 = if i = m ∨ i = m + 1 then 0 else l.getD i 0 := by
  unfold zeroed
  have hz : i < ((l.set m 0).set (m + 1) 0).length := by simp; exact hi
  rw [List.getD_eq_getElem?_getD, List.getElem?_eq_getElem hz, List.getD_eq_getElem?_getD, List.getElem?_eq_getElem hi]
  rw [List.getElem_set, List.getElem_set]
  by_cases c : m = i
  · subst c; simp
  · by_cases c' : m + 1 = i
    · subst c'; simp
    · rw [if_neg c', if_neg c, if_neg (by omega)]

theorem refPut_loop (l : List Int) (m : Nat) (hb : ∀ z ∈ l, 0 ≤ z ∧ z < 256) (hl : l.length ≤ 3000) (hm : m + 2 ≤ l.length) : ∀ (d k i : Nat), l.length - i = d → i ≤ l.length → d + 4000 < k →
    stolonref02_Put.l0 k l m ((zeroed l m).take i) i = some (putOf l m, 0) := by
  intro d
  have zl := zeroed_len l m
  have zb := zeroed_byte l m hb
  have hs := sumOf_range (zeroed l m) zb
  have e1 : wrap64 ((m : Int) + 1) = ((m + 1 : Nat) : Int) := by rw [wr64 (by omega) (by omega)]; omega
  induction d with
  | zero =>
    intro k i hd hi hk
    obtain ⟨k, rfl⟩ : ∃ m, k = m + 1 := ⟨k - 1, by omega⟩
    rw [stolonref02_Put.l0, if_neg (by omega), List.take_of_length_le (by omega), refOf_some _ zb (by omega) _ (by omega), Option.bind_some, e1, if_pos (by omega), if_pos (by omega), if_pos (by omega), if_pos (by omega)]
    rw [Int.toNat_natCast, Int.toNat_natCast, Int.tdiv_eq_ediv_of_nonneg hs.1, Int.tmod_eq_emod_of_nonneg hs.1, wraps_u16 _ (by omega) (by omega), show sumOf (zeroed l m) / 256 % 256 = sumOf (zeroed l m) / 256 from by omega, show sumOf (zeroed l m) % 256 % 256 = sumOf (zeroed l m) % 256 from by omega]
    rfl
  | succ d ih =>
    intro k i hd hi hk
    obtain ⟨k, rfl⟩ : ∃ m, k = m + 1 := ⟨k - 1, by omega⟩
    have hlt : i < l.length := by omega
    have e2 : wrap64 ((i : Int) + 1) = ((i + 1 : Nat) : Int) := by rw [wr64 (by omega) (by omega)]; omega
    have e3 := ih k (i + 1) (by omega) (by omega) (by omega)
    have g := zeroed_get l m i hlt
    have hz : i < (zeroed l m).length := by omega
    rw [List.take_succ_eq_append_getElem hz, show (zeroed l m)[i] = (zeroed l m).getD i 0 from by rw [List.getD_eq_getElem?_getD, List.getElem?_eq_getElem hz]; rfl, g] at e3
    have hn : ((zeroed l m).take i).length < 140737488355328 := by simp; omega
    rw [stolonref02_Put.l0, if_pos (by omega), e1, e2]
    by_cases c : i = m
    · rw [if_pos (by omega), if_pos hn, ← e3, if_pos (.inl c)]
    · by_cases c' : i = m + 1
      · rw [if_neg (by omega), if_pos (by omega), if_pos hn, ← e3, if_pos (.inr c')]
      · rw [if_neg (by omega), if_neg (by omega), if_pos (by omega), if_pos hn, ← e3, if_neg (by omega)]
        rfl

theorem refPut_some (l : List Int) (a : Int) (hb : ∀ z ∈ l, 0 ≤ z ∧ z < 256) (hl : l.length ≤ 3000) (ha : -9223372036854775808 ≤ a ∧ a ≤ 9223372036854775807) (k : Nat) (hk : l.length + 5000 < k) :
    stolonref02_Put.f k l a = some (if a < 0 ∨ a % 2 ≠ 0 ∨ (l.length : Int) - 2 < a then ([], 1) else (putOf l a.toNat, 0)) := by
  obtain ⟨k, rfl⟩ : ∃ m, k = m + 1 := ⟨k - 1, by omega⟩
  have no : stolonref02_Put.j0 (k + 1) l a true = some ([], 1) := by rw [stolonref02_Put.j0, if_pos rfl]
  unfold stolonref02_Put.f
  by_cases c1 : a < 0
  · rw [if_pos c1, no, if_pos (.inl c1)]
  · rw [if_neg c1, tmod2_one a (by omega)]
    by_cases c2 : a % 2 = 1
    · rw [if_pos c2, no, if_pos (.inr (.inl (by omega)))]
    · rw [if_neg c2, wr64 (by omega) (by omega)]
      by_cases c3 : a > (l.length : Int) - 2
      · rw [decide_eq_true c3, no, if_pos (.inr (.inr (by omega)))]
      · rw [decide_eq_false c3, if_neg (by omega), stolonref02_Put.j0, if_neg (by decide)]
        obtain ⟨m, rfl⟩ := Int.eq_ofNat_of_zero_le (show 0 ≤ a by omega)
        exact refPut_loop l m hb hl (by omega) l.length k 0 (by omega) (by omega) (by omega)

/-- The law's plain half. -/

theorem refBytes_some {a : Int} (h : 0 ≤ a ∧ a < 4294967296) : stolonref01_Bytes.f a = some (abytes a) := by
  unfold stolonref01_Bytes.f abytes
  rw [Int.tdiv_eq_ediv_of_nonneg h.1, Int.tdiv_eq_ediv_of_nonneg h.1, Int.tdiv_eq_ediv_of_nonneg h.1, Int.tmod_eq_emod_of_nonneg h.1]
  rw [show a / 16777216 % 4294967296 = a / 16777216 from by omega, show a / 65536 % 4294967296 = a / 65536 from by omega, show a / 256 % 4294967296 = a / 256 from by omega, show a % 256 % 256 = a % 256 from by omega]
theorem refOfA_some {a b c d : Int} (ha : 0 ≤ a ∧ a < 256) (hb : 0 ≤ b ∧ b < 256) (hc : 0 ≤ c ∧ c < 256) (hd : 0 ≤ d ∧ d < 256) : stolonref01_Of.f [a, b, c, d] = some (a * 16777216 + b * 65536 + c * 256 + d, 0) := by
  unfold stolonref01_Of.f
  simp only [List.length_cons, List.length_nil]
  rw [if_neg (by omega), if_neg (by omega), if_pos (by omega), if_pos (by omega), if_pos (by omega), if_pos (by omega)]
  rw [show rd [a, b, c, d] 0 = a from rfl, show rd [a, b, c, d] 1 = b from rfl, show rd [a, b, c, d] 2 = c from rfl, show rd [a, b, c, d] 3 = d from rfl]
  congr 2
  omega
theorem refenc_some {s d p t i : Int} (h : HOk s d p t i) (al : Bool) (b : List Int) (hb : b.length ≤ 1000000) (k : Nat) (hk : 6000 < k) : stolonref04_Encode.f (k + 1) s d p t i al b = some (enc s d p t i al b) := by
  have hh := hlen_range al
  have hi := h.2.2.2.2
  have J : stolonref04_Encode.j0 (k + 1) b (hlen al : Int) s d p t i al = some (enc s d p t i al b) := by
    rw [stolonref04_Encode.j0, wr64 (i := (hlen al : Int) + b.length) (by omega) (by omega)]
    by_cases c : (hlen al : Int) + b.length > 1500
    · rw [if_pos c, show enc s d p t i al b = ([], 7) from by unfold enc; rw [if_pos c]]
    · rw [if_neg c, Option.bind_some, refBytes_some h.1, Option.bind_some, refBytes_some h.2.1]
      have hraw : ([(wrap64 (64 + wrap64 (Int.tdiv (hlen al : Int) 4))) % 256, 0, (wrap64 (Int.tdiv ((hlen al : Int) + b.length) 256)) % 256, (Int.tmod ((hlen al : Int) + b.length) 256) % 256, (IntKind.u16.wrap (Int.tdiv i 256)) % 256, (Int.tmod i 256) % 256, 0, 0, t, p, 0, 0] : List Int) = [if al then 70 else 69, 0, ((hlen al : Int) + b.length) / 256 % 256, ((hlen al : Int) + b.length) % 256, i / 256 % 256, i % 256, 0, 0, t, p, 0, 0] := by
        rw [Int.tdiv_eq_ediv_of_nonneg (show 0 ≤ (hlen al : Int) + b.length by omega), Int.tmod_eq_emod_of_nonneg (show 0 ≤ (hlen al : Int) + b.length by omega), Int.tdiv_eq_ediv_of_nonneg hi.1, Int.tmod_eq_emod_of_nonneg hi.1, Int.tdiv_eq_ediv_of_nonneg (show 0 ≤ (hlen al : Int) by omega)]
        rw [wr64 (i := (hlen al : Int) / 4) (by omega) (by omega), wr64 (i := 64 + (hlen al : Int) / 4) (by omega) (by omega), wr64 (i := ((hlen al : Int) + b.length) / 256) (by omega) (by omega), IntKind.wrap_u16]
        rw [show i / 256 % 65536 = i / 256 from by omega, show ((hlen al : Int) + b.length) % 256 % 256 = ((hlen al : Int) + b.length) % 256 from by omega, show i % 256 % 256 = i % 256 from by omega]
        cases al <;> rfl
      rw [hraw]
      have hrl := raw_len s d p t i al ((hlen al : Int) + b.length)
      have hrb := raw_byt h al ((hlen al : Int) + b.length)
      have hp := refPut_some (raw s d p t i al ((hlen al : Int) + b.length)) 10 hrb (by omega) (by omega) k (by omega)
      rw [if_neg (by omega)] at hp
      have he : enc s d p t i al b = (putOf (raw s d p t i al ((hlen al : Int) + b.length)) 10 ++ b, 0) := by unfold enc hd; rw [if_neg c]
      rw [he]
      simp only [Option.bind_some]
      rw [if_pos (by simp [abytes]), if_pos (by simp [abytes])]
      cases al with
      | true =>
        rw [if_pos rfl, if_pos (by simp [abytes])]
        have e : (([if true then 70 else 69, 0, ((hlen true : Int) + b.length) / 256 % 256, ((hlen true : Int) + b.length) % 256, i / 256 % 256, i % 256, 0, 0, t, p, 0, 0] : List Int) ++ abytes s ++ abytes d) ++ [148, 4, 0, 0] = raw s d p t i true ((hlen true : Int) + b.length) := by simp [raw]
        rw [e, hp, Option.bind_some, if_pos (by rw [putOf_len]; omega)]
        rfl
      | false =>
        rw [if_neg Bool.false_ne_true]
        have e : (([if false then 70 else 69, 0, ((hlen false : Int) + b.length) / 256 % 256, ((hlen false : Int) + b.length) % 256, i / 256 % 256, i % 256, 0, 0, t, p, 0, 0] : List Int) ++ abytes s ++ abytes d) = raw s d p t i false ((hlen false : Int) + b.length) := by simp [raw]
        rw [e, hp, Option.bind_some, if_pos (by rw [putOf_len]; omega)]
        rfl
  unfold stolonref04_Encode.f
  cases al with
  | true => rw [if_pos rfl]; exact J
  | false => rw [if_neg Bool.false_ne_true]; exact J
end Go.Proofs.Ytlaanmkangikbaa.Ref
