/-
  Sums, in plain numbers.
-/
import Derived.Test.YtlaanmkangikbaaSumH
import Derived.Test.YtlaanmkangikbaaPIpx3
import Derived.Test.YtlaanmkangikbaaPIpx1
namespace Go.Proofs.Ytlaanmkangikbaa
open Go.RowKit Go.Proofs.YtlaanmkangikbaaW.PrintWords Go.Proofs.Ytlaanmkangikbaa.PIp

/-- The word that a sum of words is joined to. -/
def repW (t : Int) : Int := if t = 0 then 0 else (t - 1) % 65535 + 1
/-- The weight of a byte: 256 or 1. -/
def wt (p : Nat) : Int := if p % 2 = 0 then 256 else 1
/-- The sum of bytes' words. -/
def tot : Nat → List Int → Int
  | _, [] => 0
  | p, a :: t => wt p * a + tot (p + 1) t

theorem joinW_rep {x y : Int} (h0 : 0 ≤ x) (h1 : x < 65536) (h2 : 0 ≤ y) (h3 : y < 65536) : joinW x y = repW (x + y) := by
  unfold joinW repW
  split <;> split <;> omega
theorem repW_range {t : Int} (_ : 0 ≤ t) : 0 ≤ repW t ∧ repW t < 65536 := by
  unfold repW
  split <;> omega
theorem repW_add {a b : Int} (h : 0 ≤ a) (h' : 0 ≤ b) : repW (repW a + b) = repW (a + b) := by
  unfold repW
  by_cases h1 : a = 0
  · simp [h1]
  · rw [if_neg h1, if_neg (by omega), if_neg (by omega)]
    omega

theorem tot_nonneg (l : List Int) : ∀ p, (∀ z ∈ l, 0 ≤ z ∧ z < 256) → 0 ≤ tot p l := by
  induction l with
  | nil => intro p _; simp [tot]
  | cons a t ih =>
    intro p h
    have h1 := h a (by simp)
    have h2 := ih (p + 1) (fun z hz => h z (by simp [hz]))
    unfold tot wt
    split <;> omega
theorem tot_append (a b : List Int) : ∀ p, tot p (a ++ b) = tot p a + tot (p + a.length) b := by
  induction a with
  | nil => intro p; simp [tot]
  | cons x t ih => intro p; simp only [List.cons_append, tot, ih, List.length_cons]; rw [show p + 1 + t.length = p + (t.length + 1) from by omega]; omega
theorem tot_set (l : List Int) : ∀ p i v, i < l.length → tot p (l.set i v) = tot p l + wt (p + i) * (v - l.getD i 0) := by
  induction l with
  | nil => intro p i v h; simp at h
  | cons a t ih =>
    intro p i v h
    cases i with
    | zero => simp [tot, Int.mul_sub]; omega
    | succ i =>
      have := ih (p + 1) i v (by simpa using h)
      simp only [List.set_cons_succ, tot, this]
      rw [show p + 1 + i = p + (i + 1) from by omega]
      simp
      omega
theorem wt_add (p q : Nat) (h : q % 2 = 0) : wt (p + q) = wt p := by unfold wt; rw [show (p + q) % 2 = p % 2 from by omega]
theorem tot_par (l : List Int) : ∀ p q, p % 2 = q % 2 → tot p l = tot q l := by
  induction l with
  | nil => intro p q _; simp [tot]
  | cons a t ih => intro p q h; simp only [tot]; rw [ih (p + 1) (q + 1) (by omega)]; unfold wt; rw [h]

theorem wordAt_cons (a b : Int) (t : List Int) (k : Nat) : wordAt (a :: b :: t) (k + 1) = wordAt t k := by
  unfold wordAt
  rw [show 2 * (k + 1) = 2 * k + 1 + 1 from by omega]
  simp only [List.getD_cons_succ, List.length_cons]
  by_cases h : 2 * k + 1 < t.length
  · rw [if_pos h, if_pos (by omega)]
  · rw [if_neg h, if_neg (by omega)]

theorem fold_rep (zs : List Int) (hz : ∀ z ∈ zs, 0 ≤ z ∧ z < 256) (l : List Nat) : ∀ s, 0 ≤ s → s < 65536 →
    l.foldl (fun s k => joinW s (wordAt zs k)) s = if l = [] then s else repW (s + (l.map (wordAt zs)).sum) := by
  induction l with
  | nil => intro s _ _; simp
  | cons k l ih =>
    intro s h0 h1
    have hw := wordAt_range zs hz k
    have hj := joinW_range h0 h1 hw.1 hw.2
    have hsum : 0 ≤ (l.map (wordAt zs)).sum := by
      clear ih
      induction l with
      | nil => simp
      | cons j l ih => have := (wordAt_range zs hz j).1; simp only [List.map_cons, List.sum_cons]; omega
    rw [List.foldl_cons, ih _ hj.1 hj.2, joinW_rep h0 h1 hw.1 hw.2]
    simp only [List.map_cons, List.sum_cons, reduceCtorEq, if_false]
    split
    · rename_i h; subst h; simp
    · rw [repW_add (by omega) hsum, Int.add_assoc]

theorem words_tot : ∀ (n : Nat) (zs : List Int), zs.length ≤ n → ((List.range ((zs.length + 1) / 2)).map (wordAt zs)).sum = tot 0 zs
  | _, [], _ => by simp [tot]
  | n, [a], h => by simp [tot, wordAt, wt, List.range_succ]; omega
  | 0, a :: b :: t, h => by simp at h
  | n + 1, a :: b :: t, h => by
    have ih := words_tot n t (by simp at h; omega)
    rw [show ((a :: b :: t).length + 1) / 2 = (t.length + 1) / 2 + 1 from by simp; omega, List.range_succ_eq_map, List.map_cons, List.sum_cons, List.map_map]
    rw [show (wordAt (a :: b :: t) ∘ Nat.succ) = wordAt t from funext (fun k => wordAt_cons a b t k), ih]
    simp only [tot]
    rw [tot_par t (0 + 1 + 1) 0 (by omega)]
    simp [wordAt, wt]
    omega

theorem sumOf_rep (zs : List Int) (hz : ∀ z ∈ zs, 0 ≤ z ∧ z < 256) : sumOf zs = 65535 - repW (tot 0 zs) := by
  unfold sumOf
  rw [fold_rep zs hz _ 0 (by omega) (by omega), words_tot _ zs (Nat.le_refl _)]
  split
  · rename_i h
    have : zs = [] := by
      have h1 : ((zs.length + 1) / 2) = 0 := by simpa using h
      exact List.eq_nil_of_length_eq_zero (by omega)
    subst this
    simp [tot, repW]
  · simp

/-! The printed functions, in these words -/
theorem wf_u8 {x : Int} (h : (Lit.int .u8 x).wf = true) : 0 ≤ x ∧ x < 256 := by
  simp [Lit.wf, IntKind.min, IntKind.max, IntKind.bits, IntKind.signed] at h
  omega
theorem wf_u16 {x : Int} (h : (Lit.int .u16 x).wf = true) : 0 ≤ x ∧ x < 65536 := by
  simp [Lit.wf, IntKind.min, IntKind.max, IntKind.bits, IntKind.signed] at h
  omega
theorem wf_i64 {x : Int} (h : (Lit.int .i64 x).wf = true) : -9223372036854775808 ≤ x ∧ x ≤ 9223372036854775807 := by
  simp [Lit.wf, IntKind.min, IntKind.max, IntKind.bits, IntKind.signed] at h
  omega
theorem join_some {x y : Int} (h0 : 0 ≤ x) (h1 : x < 65536) (h2 : 0 ≤ y) (h3 : y < 65536) : sum_Join.f x y = some (joinW x y) := by
  unfold sum_Join.f
  have e : ((x % 4294967296) + (y % 4294967296)) % 4294967296 = x + y := by omega
  have hm : Go.bits .and .u32 (x + y) 65535 = (x + y) % 65536 := bits_mask .u32 32 (by decide) (fun n h0 h1 => by rw [IntKind.wrap_u32]; omega) 16 (by decide) (x + y) (by omega) (by omega)
  have hj := joinW_range h0 h1 h2 h3
  rw [e, hm, show ((x + y) % 65536 + (x + y) / 65536) % 4294967296 = joinW x y from by unfold joinW; split <;> omega, wraps_u16 _ hj.1 hj.2]
theorem of_some {l : List Int} (hz : ∀ z ∈ l, 0 ≤ z ∧ z < 256) (hl : l.length ≤ 140737488351232) : sum_Of.f l = some (sumOf l) := by
  unfold sum_Of.f
  rw [if_pos ((bytesOk_iff l).2 ⟨hz, hl⟩)]
theorem whole_some {l : List Int} (hz : ∀ z ∈ l, 0 ≤ z ∧ z < 256) (hl : l.length ≤ 140737488351232) : sum_Whole.f l = some (sumOf l == 0) := by
  unfold sum_Whole.f
  rw [of_some hz hl]
  rfl
theorem put_some {l : List Int} {a : Int} (hz : ∀ z ∈ l, 0 ≤ z ∧ z < 256) (hl : l.length ≤ 140737488351232) (ha : -9223372036854775808 ≤ a ∧ a ≤ 9223372036854775807) :
    sum_Put.f l a = some (if a < 0 ∨ a % 2 ≠ 0 ∨ (l.length : Int) - 2 < a then ([], 1) else (putOf l a.toNat, 0)) := by
  unfold sum_Put.f
  rw [if_pos ⟨(bytesOk_iff l).2 ⟨hz, hl⟩, ha⟩]
theorem putOf_len (l : List Int) (m : Nat) : (putOf l m).length = l.length := by simp [putOf, zeroed]
theorem putOf_byte (l : List Int) (m : Nat) (hz : ∀ z ∈ l, 0 ≤ z ∧ z < 256) : ∀ z ∈ putOf l m, 0 ≤ z ∧ z < 256 := by
  intro z h
  have hb := zeroed_byte l m hz
  have hr := sumOf_range _ hb
  unfold putOf at h
  rcases List.mem_or_eq_of_mem_set h with h | rfl
  · rcases List.mem_or_eq_of_mem_set h with h | rfl
    · exact hb z h
    · omega
  · omega
theorem putOf_tot (l : List Int) (m : Nat) (hm : m % 2 = 0) (hl : m + 2 ≤ l.length) : tot 0 (putOf l m) = tot 0 (zeroed l m) + sumOf (zeroed l m) := by
  unfold putOf
  rw [tot_set _ _ _ _ (by simp [zeroed]; omega), tot_set _ _ _ _ (by simp [zeroed]; omega)]
  have w0 : wt (0 + m) = 256 := by unfold wt; rw [if_pos (by omega)]
  have w1 : wt (0 + (m + 1)) = 1 := by unfold wt; rw [if_neg (by omega)]
  have g0 : (zeroed l m).getD m 0 = 0 := by
    unfold zeroed
    rw [List.getD_eq_getElem?_getD, List.getElem?_set_ne (by omega), List.getElem?_set_self (by omega)]
    rfl
  have g1 : ((zeroed l m).set m (sumOf (zeroed l m) / 256)).getD (m + 1) 0 = 0 := by
    rw [List.getD_eq_getElem?_getD, List.getElem?_set_ne (by omega)]
    unfold zeroed
    rw [List.getElem?_set_self (by simp; omega)]
    rfl
  rw [w0, w1, g0, g1]
  omega
theorem putOf_whole (l : List Int) (m : Nat) (hz : ∀ z ∈ l, 0 ≤ z ∧ z < 256) (hm : m % 2 = 0) (hl : m + 2 ≤ l.length) : sumOf (putOf l m) = 0 := by
  rw [sumOf_rep _ (putOf_byte l m hz), putOf_tot l m hm hl, sumOf_rep _ (zeroed_byte l m hz)]
  have := tot_nonneg _ 0 (zeroed_byte l m hz)
  unfold repW
  split <;> split <;> omega
theorem putOf_get (l : List Int) (m i : Nat) (h0 : i ≠ m) (h1 : i ≠ m + 1) : (putOf l m).getD i 0 = l.getD i 0 := by
  unfold putOf zeroed
  simp only [List.getD_eq_getElem?_getD]
  rw [List.getElem?_set_ne (by omega), List.getElem?_set_ne (by omega), List.getElem?_set_ne (by omega), List.getElem?_set_ne (by omega)]

theorem wr64 {i : Int} (h0 : -9223372036854775808 ≤ i) (h1 : i ≤ 9223372036854775807) : wrap64 i = i := by unfold wrap64; omega
theorem tmod2 (a : Int) : (Int.tmod a 2 = 0) ↔ (a % 2 = 0) := by
  rw [← Int.dvd_iff_tmod_eq_zero, ← Int.dvd_iff_emod_eq_zero]
theorem tmod2_one (a : Int) (h : 0 ≤ a) : Int.tmod a 2 = a % 2 := Int.tmod_eq_emod_of_nonneg h
theorem xor8 {x y : Int} (h0 : 0 ≤ x) (h1 : x < 256) (h2 : 0 < y) (h3 : y < 256) : 0 ≤ Go.bits .xor .u8 x y ∧ Go.bits .xor .u8 x y < 256 ∧ Go.bits .xor .u8 x y ≠ x := by
  obtain ⟨a, rfl⟩ := Int.eq_ofNat_of_zero_le h0
  obtain ⟨b, rfl⟩ := Int.eq_ofNat_of_zero_le (show 0 ≤ y by omega)
  have hv : a ^^^ b < 2 ^ 8 := Nat.xor_lt_two_pow (by omega) (by omega)
  have e : Go.bits .xor .u8 (a : Int) (b : Int) = ((a ^^^ b : Nat) : Int) := by
    show IntKind.u8.wrap ((BitVec.ofInt 8 (a : Int) ^^^ BitVec.ofInt 8 (b : Int)).toNat : Int) = _
    rw [BitVec.ofInt_natCast, BitVec.ofInt_natCast, BitVec.toNat_xor, BitVec.toNat_ofNat, BitVec.toNat_ofNat, Nat.mod_eq_of_lt (by omega), Nat.mod_eq_of_lt (by omega), IntKind.wrap_u8]
    omega
  rw [e]
  refine ⟨by omega, by omega, fun h => ?_⟩
  have h' : a ^^^ b = a := by omega
  have : a ^^^ (a ^^^ b) = b := by rw [← Nat.xor_assoc, Nat.xor_self, Nat.zero_xor]
  rw [h', Nat.xor_self] at this
  omega

theorem rd_eq (l : List Int) (i : Int) : rd l i = l.getD i.toNat 0 := rfl

theorem set_byte {l : List Int} {i : Nat} {v : Int} (hb : ∀ z ∈ l, 0 ≤ z ∧ z < 256) (h0 : 0 ≤ v) (h1 : v < 256) : ∀ z ∈ l.set i v, 0 ≤ z ∧ z < 256 := by
  intro z h
  rcases List.mem_or_eq_of_mem_set h with h | rfl
  · exact hb z h
  · exact ⟨h0, h1⟩
theorem get_byte {l : List Int} (hb : ∀ z ∈ l, 0 ≤ z ∧ z < 256) (i : Nat) : 0 ≤ l.getD i 0 ∧ l.getD i 0 < 256 := by
  rcases Nat.lt_or_ge i l.length with h | h
  · rw [List.getD_eq_getElem?_getD, List.getElem?_eq_getElem h]; exact hb _ (List.getElem_mem _)
  · rw [List.getD_eq_getElem?_getD, List.getElem?_eq_none h]; simp


theorem same_loop (a b : List Int) (hl : a.length = b.length) (hm : a.length ≤ 140737488351232) : ∀ (d k : Nat) (i : Nat), a.length - i = d → i ≤ a.length → d < k →
    stolonref01_Same.l0 k a b i = some (a.drop i == b.drop i) := by
  intro d
  induction d with
  | zero =>
    intro k i hd hi hk
    obtain ⟨k, rfl⟩ : ∃ m, k = m + 1 := ⟨k - 1, by omega⟩
    rw [stolonref01_Same.l0, if_neg (by omega), List.drop_eq_nil_of_le (by omega), List.drop_eq_nil_of_le (by omega)]
    rfl
  | succ d ih =>
    intro k i hd hi hk
    obtain ⟨k, rfl⟩ : ∃ m, k = m + 1 := ⟨k - 1, by omega⟩
    have e := ih k (i + 1) (by omega) (by omega) (by omega)
    rw [stolonref01_Same.l0, if_pos (by omega), if_pos (by omega), if_pos (by omega), wr64 (i := (i : Int) + 1) (by omega) (by omega)]
    have hx : (a.drop i == b.drop i) = (a[i]'(by omega) == b[i]'(by omega) && (a.drop (i + 1) == b.drop (i + 1))) := by
      rw [Bool.eq_iff_iff, Bool.and_eq_true, beq_iff_eq, beq_iff_eq, beq_iff_eq, List.drop_eq_getElem_cons (show i < a.length by omega), List.drop_eq_getElem_cons (show i < b.length by omega), List.cons.injEq]
    have g1 : rd a (i : Int) = a[i]'(by omega) := by simp [rd, List.getD_eq_getElem?_getD, List.getElem?_eq_getElem (show i < a.length by omega)]
    have g2 : rd b (i : Int) = b[i]'(by omega) := by simp [rd, List.getD_eq_getElem?_getD, List.getElem?_eq_getElem (show i < b.length by omega)]
    rw [g1, g2, hx]
    by_cases c : a[i]'(by omega) = b[i]'(by omega)
    · rw [if_pos c, show ((i : Int) + 1) = ((i + 1 : Nat) : Int) from by omega, e, beq_iff_eq.2 c]
      rfl
    · rw [if_neg c, beq_eq_false_iff_ne.2 c]
      rfl
theorem same_some (a b : List Int) (hm : a.length ≤ 140737488351232) (k : Nat) (hk : a.length < k) : stolonref01_Same.f k a b = some (a == b) := by
  unfold stolonref01_Same.f
  by_cases hl : a.length = b.length
  · rw [if_pos (by omega)]
    have := same_loop a b hl hm a.length k 0 (by omega) (by omega) hk
    simpa using this
  · rw [if_neg (by omega)]
    have : a ≠ b := fun h => hl (by rw [h])
    rw [beq_eq_false_iff_ne.2 this]
end Go.Proofs.Ytlaanmkangikbaa
