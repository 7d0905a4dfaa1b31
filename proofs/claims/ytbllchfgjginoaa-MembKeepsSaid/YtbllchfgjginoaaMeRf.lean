/-
  What is right, what is had, wanted and the same, in plain lists (chapter 08).
-/
import Derived.Test.YtbllchfgjginoaaMeV
import Derived.Test.YtbllchfgjginoaaPMf2
import Derived.Test.YtbllchfgjginoaaMeF
import Derived.Test.YtbllchfgjginoaaMeQ
import Derived.Test.YtbllchfgjginoaaPMf5
namespace Go.Proofs.Ytbllchfgjginoaa
open Go.RowKit Go.Lib Go.Proofs.YtbllchfgjginoaaW.PrintWords Go.Proofs.Ytbllchfgjginoaa.PMe
set_option linter.unusedVariables false
set_option linter.unusedSimpArgs false
/-- The j-th source is right beside the one ahead of it. -/
def goodH (ex : Bool) (l : List S49) (j : Nat) : Prop := 0 ≤ (rd_T49 l j).f1 ∧ (rd_T49 l j).f1 ≤ 1000000 ∧ ((rd_T49 l j).f1 = 0 → ex = true) ∧ (0 < j → (rd_T49 l ((j - 1 : Nat) : Int)).f0 < (rd_T49 l j).f0)
structure MOk (x : S28) : Prop where
  asked : 3758096640 ≤ x.f0 ∧ x.f0 ≤ 4026531839
  len : x.f3.length ≤ 64
  ex : x.f1 = true → 1 ≤ x.f2 ∧ x.f2 ≤ 1000000
  inn : x.f1 = false → x.f2 = 0
  all : ∀ j, j < x.f3.length → goodH x.f1 x.f3 j
theorem right_loop (g lf : Int) (ex : Bool) (l : List S49) (hl : l.length ≤ 64) : ∀ n k (i : Nat), l.length ≤ i + n → n < k → i ≤ l.length → ∃ b, stolonref08_Right.l0 k i g ex lf l = some b ∧ (b = true ↔ ∀ j, i ≤ j → j < l.length → goodH ex l j) := by
  intro n
  induction n with
  | zero =>
    intro k i h1 h2 h3
    obtain ⟨k, rfl⟩ : ∃ k', k = k' + 1 := ⟨k - 1, by omega⟩
    refine ⟨true, ?_, by simp; intro j h4 h5; omega⟩
    rw [stolonref08_Right.l0, if_neg (by omega)]
  | succ n ih =>
    intro k i h1 h2 h3
    obtain ⟨k, rfl⟩ : ∃ k', k = k' + 1 := ⟨k - 1, by omega⟩
    by_cases h4 : i < l.length
    · have nx : (∃ b, stolonref08_Right.l0 k (wrap64 ((i : Int) + 1)) g ex lf l = some b ∧ (b = true ↔ ∀ j, i + 1 ≤ j → j < l.length → goodH ex l j)) := by
        rw [step64 i (by omega)]
        exact ih k (i + 1) (by omega) (by omega) (by omega)
      have no : ∀ c : Option Bool, c = some false → ¬ goodH ex l i → ∃ b, c = some b ∧ (b = true ↔ ∀ j, i ≤ j → j < l.length → goodH ex l j) := fun c e h => ⟨false, e, by simp; exact ⟨i, Nat.le_refl _, h4, h⟩⟩
      have ye : ∀ c : Option Bool, c = stolonref08_Right.l0 k (wrap64 ((i : Int) + 1)) g ex lf l → goodH ex l i → ∃ b, c = some b ∧ (b = true ↔ ∀ j, i ≤ j → j < l.length → goodH ex l j) := by
        intro c e h
        obtain ⟨b, h5, h6⟩ := nx
        refine ⟨b, e.trans h5, h6.trans ⟨fun h7 j h8 h9 => ?_, fun h7 j h8 h9 => h7 j (by omega) h9⟩⟩
        by_cases e2 : j = i
        · subst e2; exact h
        · exact h7 j (by omega) h9
      rw [stolonref08_Right.l0, if_pos (by omega), if_pos (by omega)]
      by_cases c1 : (rd_T49 l i).f1 < 0
      · rw [if_pos c1]; exact no _ rfl (fun h => by have := h.1; omega)
      rw [if_neg c1]
      by_cases c2 : (rd_T49 l i).f1 > 1000000
      · rw [if_pos c2]; exact no _ rfl (fun h => by have := h.2.1; omega)
      rw [if_neg c2]
      by_cases c4 : (i : Int) > 0
      · have e1 : wrap64 ((i : Int) - 1) = ((i - 1 : Nat) : Int) := by rw [w64 (by omega) (by omega)]; omega
        by_cases c5 : (rd_T49 l i).f0 ≤ (rd_T49 l ((i - 1 : Nat) : Int)).f0
        · by_cases c3 : (rd_T49 l i).f1 = 0
          · rw [if_pos c3]
            by_cases c6 : ex = true
            · rw [if_pos c6, if_pos c4, e1, if_pos (by omega), if_pos (by omega), if_pos c5]; exact no _ rfl (fun h => by have := h.2.2.2 (by omega); omega)
            · rw [if_neg c6]; exact no _ rfl (fun h => c6 (h.2.2.1 c3))
          · rw [if_neg c3, if_pos c4, e1, if_pos (by omega), if_pos (by omega), if_pos c5]; exact no _ rfl (fun h => by have := h.2.2.2 (by omega); omega)
        · by_cases c3 : (rd_T49 l i).f1 = 0
          · rw [if_pos c3]
            by_cases c6 : ex = true
            · rw [if_pos c6, if_pos c4, e1, if_pos (by omega), if_pos (by omega), if_neg c5]; exact ye _ rfl ⟨by omega, by omega, fun _ => c6, fun _ => by omega⟩
            · rw [if_neg c6]; exact no _ rfl (fun h => c6 (h.2.2.1 c3))
          · rw [if_neg c3, if_pos c4, e1, if_pos (by omega), if_pos (by omega), if_neg c5]; exact ye _ rfl ⟨by omega, by omega, fun h => absurd h c3, fun _ => by omega⟩
      · by_cases c3 : (rd_T49 l i).f1 = 0
        · rw [if_pos c3]
          by_cases c6 : ex = true
          · rw [if_pos c6, if_neg c4]; exact ye _ rfl ⟨by omega, by omega, fun _ => c6, fun h => by omega⟩
          · rw [if_neg c6]; exact no _ rfl (fun h => c6 (h.2.2.1 c3))
        · rw [if_neg c3, if_neg c4]; exact ye _ rfl ⟨by omega, by omega, fun h => absurd h c3, fun h => by omega⟩
    · refine ⟨true, ?_, by simp; intro j h5 h6; omega⟩
      rw [stolonref08_Right.l0, if_neg (by omega)]
theorem right_some (x : S28) (k : Nat) (hk : 100 ≤ k) : ∃ b, stolonref08_Right.f k x.f0 x.f1 x.f2 x.f3 = some b ∧ (b = true ↔ MOk x) := by
  obtain ⟨k, rfl⟩ : ∃ k', k = k' + 1 := ⟨k - 1, by omega⟩
  obtain ⟨k, rfl⟩ : ∃ k', k = k' + 1 := ⟨k - 1, by omega⟩
  have no : ¬ MOk x → ∀ c : Option Bool, c = some false → ∃ b, c = some b ∧ (b = true ↔ MOk x) := fun h c e => ⟨false, e, by simp [h]⟩
  have f1 : ∀ k', stolonref08_Right.j0 (k' + 1) true x.f0 x.f1 x.f2 x.f3 = some false := fun k' => by rw [stolonref08_Right.j0, if_pos rfl]
  unfold stolonref08_Right.f stolonref01_Asked.f
  by_cases a1 : x.f0 ≥ 3758096640
  · rw [if_pos a1, Option.bind_some]
    by_cases a2 : x.f0 ≤ 4026531839
    · rw [if_pos (by simp [a2])]
      by_cases a3 : x.f3.length ≤ 64
      · rw [show decide ((x.f3.length : Int) > 64) = false from decide_eq_false (by omega), stolonref08_Right.j0, if_neg (by simp)]
        have j1t : stolonref08_Right.j1 (k + 1) true x.f0 x.f1 x.f2 x.f3 = some false := by rw [stolonref08_Right.j1, if_pos rfl]
        have j1f : stolonref08_Right.j1 (k + 1) false x.f0 x.f1 x.f2 x.f3 = stolonref08_Right.l0 k 0 x.f0 x.f1 x.f2 x.f3 := by rw [stolonref08_Right.j1, if_neg (by simp)]
        obtain ⟨b, h1, h2⟩ := right_loop x.f0 x.f2 x.f1 x.f3 a3 65 k 0 (by omega) (by omega) (by omega)
        have h1' : stolonref08_Right.l0 k 0 x.f0 x.f1 x.f2 x.f3 = some b := h1
        by_cases e : x.f1 = true
        · rw [if_pos e]
          by_cases b1 : x.f2 < 1
          · rw [if_pos b1]; exact no (fun h => by have := h.ex e; omega) _ j1t
          rw [if_neg b1]
          by_cases b2 : x.f2 > 1000000
          · rw [if_pos b2]; exact no (fun h => by have := h.ex e; omega) _ j1t
          rw [if_neg b2, j1f, h1']
          exact ⟨b, rfl, h2.trans ⟨fun h => ⟨⟨a1, a2⟩, a3, fun _ => ⟨by omega, by omega⟩, fun h' => by rw [e] at h'; simp at h', fun j hj => h j (Nat.zero_le _) hj⟩, fun h j _ hj => h.all j hj⟩⟩
        · rw [if_neg e]
          by_cases b1 : x.f2 = 0
          · rw [show (x.f2 != 0) = false by simp [b1], j1f, h1']
            exact ⟨b, rfl, h2.trans ⟨fun h => ⟨⟨a1, a2⟩, a3, fun h' => absurd h' e, fun _ => b1, fun j hj => h j (Nat.zero_le _) hj⟩, fun h j _ hj => h.all j hj⟩⟩
          · rw [show (x.f2 != 0) = true by simp [b1]]
            exact no (fun h => b1 (h.inn (by simpa using e))) _ j1t
      · rw [show decide ((x.f3.length : Int) > 64) = true from decide_eq_true (by omega)]
        exact no (fun h => a3 h.len) _ (f1 _)
    · rw [if_neg (by simp [a2])]
      exact no (fun h => a2 h.asked.2) _ (f1 _)
  · rw [if_neg a1, Option.bind_some, if_neg (by simp)]
    exact no (fun h => a1 h.asked.1) _ (f1 _)
theorem MOk.sort {x : S28} (h : MOk x) : SortH x.f3 := by
  unfold SortH
  rw [List.pairwise_iff_getElem]
  have main : ∀ d i, (hi : i + d + 1 < x.f3.length) → (rd_T49 x.f3 i).f0 < (rd_T49 x.f3 ((i + d + 1 : Nat) : Int)).f0 := by
    intro d
    induction d with
    | zero => intro i hi; have := (h.all (i + 0 + 1) hi).2.2.2 (by omega); simpa using this
    | succ d ih =>
      intro i hi
      have h1 := ih i (by omega)
      have h2 := (h.all (i + (d + 1) + 1) hi).2.2.2 (by omega)
      have e : i + (d + 1) + 1 - 1 = i + d + 1 := by omega
      rw [e] at h2
      omega
  intro i j hi hj hij
  have := main (j - i - 1) i (by omega)
  rw [show i + (j - i - 1) + 1 = j by omega, rd49 _ i hi, rd49 _ j hj] at this
  exact this
theorem has6_loop (l : List Int) (a : Int) (hl : l.length ≤ 1000000) : ∀ n k (i : Nat), l.length ≤ i + n → n < k → i ≤ l.length → stolonref06_Has.l0 k l a i = some (decide (a ∈ l.drop i)) := by
  intro n
  induction n with
  | zero =>
    intro k i h1 h2 h3
    obtain ⟨k, rfl⟩ : ∃ k', k = k' + 1 := ⟨k - 1, by omega⟩
    rw [stolonref06_Has.l0, if_neg (by omega), List.drop_eq_nil_of_le (by omega)]
    simp
  | succ n ih =>
    intro k i h1 h2 h3
    obtain ⟨k, rfl⟩ : ∃ k', k = k' + 1 := ⟨k - 1, by omega⟩
    by_cases h4 : i < l.length
    · rw [stolonref06_Has.l0, if_pos (by omega), if_pos (by omega), rdI l i h4, List.drop_eq_getElem_cons h4]
      by_cases c : l[i] = a
      · rw [if_pos c]; simp [c]
      · rw [if_neg c, step64 i (by omega), ih k (i + 1) (by omega) (by omega) (by omega)]
        congr 1
        simp only [List.mem_cons, Bool.decide_or]
        rw [show decide (a = l[i]) = false from decide_eq_false (fun e => c e.symm)]
        rfl
    · rw [stolonref06_Has.l0, if_neg (by omega), List.drop_eq_nil_of_le (by omega)]
      simp
theorem has6_some (l : List Int) (a : Int) (hl : l.length ≤ 1000000) (k : Nat) (hk : l.length < k) : stolonref06_Has.f k l a = some (decide (a ∈ l)) :=
  has6_loop l a hl l.length k 0 (by omega) hk (by omega)
end Go.Proofs.Ytbllchfgjginoaa
/-
  What is wanted, what time does, and what is the same, in plain lists (chapter 08).
-/
namespace Go.Proofs.Ytbllchfgjginoaa
open Go.RowKit Go.Lib Go.Proofs.YtbllchfgjginoaaW.PrintWords Go.Proofs.Ytbllchfgjginoaa.PMe
set_option linter.unusedVariables false
set_option linter.unusedSimpArgs false
def wantsB (x : S28) (a : Int) : Bool := if x.f1 = true then x.f3.all (fun s => !decide (s.f0 = a) || decide (0 < s.f1)) else hasH x.f3 a
theorem posH_at {l : List S49} (hs : SortH l) {x : S49} (hx : x ∈ l) : posH l x.f0 < l.length ∧ rd_T49 l (posH l x.f0) = x := by
  have e := splitH_at hs hx
  have h1 : l[posH l x.f0]? = some x := by
    have := getH_mid (ltH l x.f0) (gtH l x.f0) x
    rw [← e] at this
    exact this
  obtain ⟨h2, h3⟩ := List.getElem?_eq_some_iff.1 h1
  exact ⟨h2, by rw [rd49 l _ h2, h3]⟩
theorem sortH_uniq {l : List S49} (hs : SortH l) {x y : S49} (hx : x ∈ l) (hy : y ∈ l) (he : x.f0 = y.f0) : x = y := by
  have h1 := (posH_at hs hx).2
  have h2 := (posH_at hs hy).2
  rw [he] at h1
  exact h1.symm.trans h2
theorem wants_some (x : S28) (a : Int) (hs : SortH x.f3) (hn : x.f3.length ≤ 1000000) : memb_Wants.f x.f0 x.f1 x.f2 x.f3 a = some (wantsB x a) := by
  unfold memb_Wants.f wantsB
  rw [memb_place.some hs hn, Option.bind_some]
  by_cases h1 : x.f1 = true
  · rw [if_pos h1, if_pos h1]
    dsimp only
    by_cases h2 : hasH x.f3 a = true
    · obtain ⟨s, h3, h4⟩ := hasH_iff.1 h2
      subst h4
      obtain ⟨h5, h6⟩ := posH_at hs h3
      rw [if_pos h2, if_pos (by omega), if_pos (by omega), h6]
      congr 1
      rw [Bool.eq_iff_iff, decide_eq_true_eq, List.all_eq_true]
      constructor
      · intro h7 y h8
        by_cases h9 : y.f0 = s.f0
        · rw [sortH_uniq hs h8 h3 h9]
          simp [h7]
        · simp [h9]
      · intro h7
        have := h7 s h3
        simpa using this
    · rw [if_neg h2]
      congr 1
      symm
      rw [List.all_eq_true]
      intro y h3
      have h4 : ¬ y.f0 = a := fun e => h2 (hasH_iff.2 ⟨y, h3, e⟩)
      simp [h4]
  · rw [if_neg h1, if_neg h1]
def tickS (n : Int) (s : S49) : S49 := ⟨s.f0, mx (s.f1 - n) 0⟩
def tickL (ex : Bool) (n : Int) (l : List S49) : List S49 := (l.map (tickS n)).filter (fun s => ex || decide (0 < s.f1))
def tickM (x : S28) (n : Int) : S28 :=
  ⟨x.f0, x.f1 && decide (0 < mx (x.f2 - n) 0), mx (x.f2 - n) 0, tickL (x.f1 && decide (0 < mx (x.f2 - n) 0)) n x.f3⟩
/-- All times are within reach. -/
def Soon (l : List S49) : Prop := ∀ s ∈ l, 0 ≤ s.f1 ∧ s.f1 ≤ 1000000
theorem tick_loop (n g lf : Int) (ex : Bool) (l : List S49) (hn : 0 ≤ n ∧ n ≤ 1000000) (hl : l.length ≤ 1000000) (hs : Soon l) : ∀ d k (i : Nat) (acc : List S49), l.length ≤ i + d → d < k → i ≤ l.length → acc.length ≤ i →
    memb_Tick.l0 k n acc l (l.length : Int) i g ex lf l = some (g, ex, lf, acc ++ tickL ex n (l.drop i)) := by
  intro d
  induction d with
  | zero =>
    intro k i acc h1 h2 h3 h4
    obtain ⟨k, rfl⟩ : ∃ k', k = k' + 1 := ⟨k - 1, by omega⟩
    rw [memb_Tick.l0, if_neg (by omega), List.drop_eq_nil_of_le (by omega)]
    simp [tickL]
  | succ d ih =>
    intro k i acc h1 h2 h3 h4
    obtain ⟨k, rfl⟩ : ∃ k', k = k' + 1 := ⟨k - 1, by omega⟩
    by_cases h5 : i < l.length
    · have h6 := hs l[i] (List.getElem_mem h5)
      have e1 : wrap64 (l[i].f1 - n) = l[i].f1 - n := w64 (by omega) (by omega)
      rw [memb_Tick.l0, if_pos (by omega), if_pos (by omega), if_pos (by omega), step64 i (by omega), rd49 l i h5, e1, List.drop_eq_getElem_cons h5]
      have e2 : tickL ex n (l[i] :: l.drop (i + 1)) = (if (ex || decide (0 < (tickS n l[i]).f1)) = true then [tickS n l[i]] else []) ++ tickL ex n (l.drop (i + 1)) := by
        unfold tickL
        rw [List.map_cons, List.filter_cons]
        split <;> simp
      rw [e2]
      by_cases c1 : ex = true
      · rw [if_pos c1, if_pos (by omega), ih k (i + 1) _ (by omega) (by omega) (by omega) (by rw [List.length_append]; simp; omega), if_pos (by simp [c1])]
        simp [tickS]
      · rw [if_neg c1]
        by_cases c2 : mx (l[i].f1 - n) 0 > 0
        · rw [if_pos c2, if_pos (by omega), ih k (i + 1) _ (by omega) (by omega) (by omega) (by rw [List.length_append]; simp; omega), if_pos (by rw [Bool.or_eq_true]; exact .inr (decide_eq_true c2))]
          simp [tickS]
        · rw [if_neg c2, ih k (i + 1) _ (by omega) (by omega) (by omega) (by omega), if_neg (by rw [Bool.or_eq_true]; rintro (h | h); exact c1 h; exact c2 (of_decide_eq_true h))]
          simp
    · rw [memb_Tick.l0, if_neg (by omega), List.drop_eq_nil_of_le (by omega)]
      simp [tickL]
theorem tick_some (x : S28) (n : Int) (hl : x.f3.length ≤ 1000000) (hs : Soon x.f3) (hf : 0 ≤ x.f2 ∧ x.f2 ≤ 1000000) (k : Nat) (hk : x.f3.length + 2 ≤ k) :
    memb_Tick.f k x.f0 x.f1 x.f2 x.f3 n = some ((tickM x (mn (mx n 0) 1000000)).f0, (tickM x (mn (mx n 0) 1000000)).f1, (tickM x (mn (mx n 0) 1000000)).f2, (tickM x (mn (mx n 0) 1000000)).f3) := by
  obtain ⟨k, rfl⟩ : ∃ k', k = k' + 1 := ⟨k - 1, by omega⟩
  have hm : 0 ≤ mn (mx n 0) 1000000 ∧ mn (mx n 0) 1000000 ≤ 1000000 := by unfold mn mx; constructor <;> (repeat' split) <;> omega
  have e1 : wrap64 (x.f2 - mn (mx n 0) 1000000) = x.f2 - mn (mx n 0) 1000000 := w64 (by omega) (by omega)
  have lp := fun ex lf => tick_loop (mn (mx n 0) 1000000) x.f0 lf ex x.f3 hm hl hs x.f3.length k 0 [] (by omega) (by omega) (by omega) (Nat.zero_le _)
  unfold memb_Tick.f
  rw [e1]
  by_cases h1 : x.f1 = true
  · rw [if_pos h1, memb_Tick.j0]
    refine (lp _ _).trans ?_
    rw [List.nil_append, List.drop_zero]
    simp only [tickM, h1, Bool.true_and]
  · rw [if_neg h1, memb_Tick.j0]
    refine (lp _ _).trans ?_
    have h2 : x.f1 = false := by simpa using h1
    rw [List.nil_append, List.drop_zero]
    simp only [tickM, h2, Bool.false_and]
deriving instance DecidableEq for S49
end Go.Proofs.Ytbllchfgjginoaa
/-
  What the laws call, for their walks (chapter 08).
-/
namespace Go.Proofs.Ytbllchfgjginoaa
open Go.RowKit Go.Lib Go.Proofs.YtbllchfgjginoaaW.PrintWords Go.Proofs.YtbllchfgjginoaaW.PrintLast Go.Proofs.YtbllchfgjginoaaW.PrintMore Go.Proofs.Ytbllchfgjginoaa.PMe
set_option linter.unusedVariables false
set_option linter.unusedSimpArgs false
theorem hear_view {t : S23} {x r : S28} {kind : Int} {l : List Int} {asks : List S46} {n : Nat} {err : Int} (hs : SortH x.f3) (hn : x.f3.length ≤ 1000) (hm : l.length ≤ 1000) (h : hearR t x kind l = (r, asks, err)) (h2 : asks.length = n) (A : Option Addr) (c : Nat) (B : Option Addr) (d : Nat) (w : World) (hr : Kd.C k49 w A x.f3.length x.f3) (hc : x.f3.length ≤ c) (hl : Kd.C (Kd.int .u32) w B l.length l) (hd : l.length ≤ d) :
    Calls Try.prog 12 #[.agg #[.int .i64 t.f0, .int .i64 t.f1], .agg #[.int .u32 x.f0, .bool x.f1, .int .i64 x.f2, .slice A x.f3.length c], .int .u8 kind, .slice B l.length d] w fun e w' => ∃ A0 c0 A1 c1, e = .returned (.tuple #[.agg #[.int .u32 r.f0, .bool r.f1, .int .i64 r.f2, .slice A0 r.f3.length c0], .slice A1 n c1, .int .i64 err]) ∧ Kd.C k49 w' A0 r.f3.length r.f3 ∧ r.f3.length ≤ c0 ∧ Below w.heap.size w w' := by
  subst h2
  have hw := hear_w t x kind l hs hn hm A c B d w hr hc hl hd (fun k => k < w.heap.size) (fun _ h => h) (Kd.C_F k49_heap hr)
  rw [h] at hw
  refine hw.mono fun e w' hp => ?_
  obtain ⟨v0, v1, rfl, h0, h1, hB⟩ := hp
  obtain ⟨A0, c0, rfl⟩ := Kd.V_slice h0
  obtain ⟨A1, c1, rfl⟩ := Kd.V_slice h1
  exact ⟨A0, c0, A1, c1, rfl, (Kd.V_reads' h0).2.2, (Kd.V_reads' h0).2.1, hB⟩
theorem wants_w {x : S28} {a : Int} {b : Bool} (hs : SortH x.f3) (hn : x.f3.length ≤ 1000000) (h : wantsB x a = b) (A : Option Addr) (c : Nat) (w : World) (hr : Kd.C k49 w A x.f3.length x.f3) (hc : x.f3.length ≤ c) :
    Calls Try.prog 19 #[.agg #[.int .u32 x.f0, .bool x.f1, .int .i64 x.f2, .slice A x.f3.length c], .int .u32 a] w fun e w' => e = .returned (.bool b) ∧ Below w.heap.size w w' :=
  memb_Wants.calls _ _ _ A c _ _ _ w hr hc (h ▸ wants_some x a hs hn)
def someB (x : S28) : Bool := x.f1 || decide (0 < x.f3.length)
theorem some_w {x : S28} {b : Bool} (h : someB x = b) (A : Option Addr) (c : Nat) (w : World) (hr : Kd.C k49 w A x.f3.length x.f3) (hc : x.f3.length ≤ c) :
    Calls Try.prog 20 #[.agg #[.int .u32 x.f0, .bool x.f1, .int .i64 x.f2, .slice A x.f3.length c]] w fun e w' => e = .returned (.bool b) ∧ Below w.heap.size w w' :=
  memb_Some.calls _ _ _ A c _ _ w hr hc (by
    subst h
    unfold memb_Some.f someB
    cases x.f1
    · simp
    · simp)
theorem right_w {x : S28} {b : Bool} (h : b = true ↔ MOk x) (A : Option Addr) (c : Nat) (w : World) (hr : Kd.C k49 w A x.f3.length x.f3) (hc : x.f3.length ≤ c) :
    Calls Try.prog 11 #[.agg #[.int .u32 x.f0, .bool x.f1, .int .i64 x.f2, .slice A x.f3.length c]] w fun e w' => e = .returned (.bool b) ∧ Below w.heap.size w w' := by
  obtain ⟨b', h1, h2⟩ := right_some x 100 (Nat.le_refl _)
  have e : b' = b := Bool.eq_iff_iff.2 (h2.trans h.symm)
  subst e
  exact stolonref08_Right.calls 100 _ _ _ A c _ _ w hr hc h1
def mayB (t : S23) : Bool := decide (1 ≤ t.f1) && decide (t.f1 ≤ t.f0) && decide (t.f0 ≤ 1000000)
theorem mayR_w {t : S23} {b : Bool} (h : mayB t = b) (w : World) : Calls Try.prog 10 #[.agg #[.int .i64 t.f0, .int .i64 t.f1]] w fun e w' => e = .returned (.bool b) ∧ Below w.heap.size w w' :=
  stolonref08_May.calls _ _ _ w (by
    subst h
    unfold stolonref08_May.f mayB
    by_cases h1 : 1 ≤ t.f1
    · by_cases h2 : t.f1 ≤ t.f0
      · rw [if_pos h1, if_pos h2]; simp [h1, h2]
      · rw [if_pos h1, if_neg h2]; simp [h2]
    · rw [if_neg h1]; simp [h1])
theorem may_w {t : S23} {b : Bool} (h : mayB t = b) (w : World) : Calls Try.prog 21 #[.agg #[.int .i64 t.f0, .int .i64 t.f1]] w fun e w' => e = .returned (.bool b) ∧ Below w.heap.size w w' :=
  memb_May.calls _ _ _ w (by
    subst h
    unfold memb_May.f mayB
    by_cases h1 : 1 ≤ t.f1
    · by_cases h2 : t.f1 ≤ t.f0
      · rw [if_pos h1, if_pos h2]; simp [h1, h2]
      · rw [if_pos h1, if_neg h2]; simp [h2]
    · rw [if_neg h1]; simp [h1])
theorem has6_w {l : List Int} {a : Int} {b : Bool} (hl : l.length ≤ 1000000) (h : decide (a ∈ l) = b) (A : Option Addr) (c : Nat) (w : World) (hr : Kd.C (Kd.int .u32) w A l.length l) (hc : l.length ≤ c) :
    Calls Try.prog 18 #[.slice A l.length c, .int .u32 a] w fun e w' => e = .returned (.bool b) ∧ Below w.heap.size w w' :=
  (stolonref06_Has.calls _ A c l a b w hr hc (h ▸ has6_some l a hl _ (Nat.lt_succ_self _))).mono fun e w' h => ⟨h.1, by obtain ⟨⟨n, rfl⟩⟩ := h.2; exact pw_below_drewN (Below.refl _ _) n⟩
end Go.Proofs.Ytbllchfgjginoaa
/-
  The document's example for chapter 08.
-/
namespace Go.Proofs.Ytbllchfgjginoaa
open Go.RowKit Go.Lib Go.Proofs.YtbllchfgjginoaaW.PrintWords Go.Proofs.YtbllchfgjginoaaW.PrintLast Go.Proofs.YtbllchfgjginoaaW.PrintMore Go.Proofs.Ytbllchfgjginoaa.PMe
set_option linter.unusedVariables false
set_option linter.unusedSimpArgs false
theorem sort1 (x : S49) : SortH [x] := by unfold SortH; simp
theorem hear1st : hearR ⟨10, 2⟩ ⟨4009820675, false, 0, []⟩ 1 [5] = ((⟨4009820675, false, 0, [⟨5, 10⟩]⟩ : S28), [], 0) := by kernel_rfl
theorem hear0_w (B : Option Addr) (d : Nat) (w : World) (hl : Kd.C (Kd.int .u32) w B 1 [5]) (hd : 1 ≤ d) :
    Calls Try.prog 12 #[.agg #[.int .i64 10, .int .i64 2], .agg #[.int .u32 4009820675, .bool false, .int .i64 0, .slice none 0 0], .int .u8 1, .slice B 1 d] w fun e w' => ∃ A0 c0 A1 c1, e = .returned (.tuple #[.agg #[.int .u32 4009820675, .bool false, .int .i64 0, .slice A0 1 c0], .slice A1 0 c1, .int .i64 0]) ∧ Kd.C k49 w' A0 1 [⟨5, 10⟩] ∧ 1 ≤ c0 ∧ Below w.heap.size w w' :=
  hear_view (t := ⟨10, 2⟩) (x := ⟨4009820675, false, 0, []⟩) (kind := 1) (l := [5]) (r := (⟨4009820675, false, 0, [⟨5, 10⟩]⟩ : S28)) (asks := []) (n := 0) (err := 0) (by simp [SortH]) (by simp) (by simp) hear1st rfl none 0 B d w (Kd.C_nil _ _) (Nat.le_refl _) hl hd
theorem wants5_w (A : Option Addr) (c : Nat) (w : World) (hr : Kd.C k49 w A 1 [⟨5, 10⟩]) (hc : 1 ≤ c) : Calls Try.prog 19 #[.agg #[.int .u32 4009820675, .bool false, .int .i64 0, .slice A 1 c], .int .u32 5] w fun e w' => e = .returned (.bool true) ∧ Below w.heap.size w w' := wants_w (x := (⟨4009820675, false, 0, [⟨5, 10⟩]⟩ : S28)) (a := 5) (b := true) (sort1 _) (by simp) (by decide) A c w hr hc
theorem wants6_w (A : Option Addr) (c : Nat) (w : World) (hr : Kd.C k49 w A 1 [⟨5, 10⟩]) (hc : 1 ≤ c) : Calls Try.prog 19 #[.agg #[.int .u32 4009820675, .bool false, .int .i64 0, .slice A 1 c], .int .u32 6] w fun e w' => e = .returned (.bool false) ∧ Below w.heap.size w w' := wants_w (x := (⟨4009820675, false, 0, [⟨5, 10⟩]⟩ : S28)) (a := 6) (b := false) (sort1 _) (by simp) (by decide) A c w hr hc
theorem some0_w (A : Option Addr) (c : Nat) (w : World) (hr : Kd.C k49 w A 1 [⟨5, 10⟩]) (hc : 1 ≤ c) : Calls Try.prog 20 #[.agg #[.int .u32 4009820675, .bool false, .int .i64 0, .slice A 1 c]] w fun e w' => e = .returned (.bool true) ∧ Below w.heap.size w w' := some_w (x := (⟨4009820675, false, 0, [⟨5, 10⟩]⟩ : S28)) (b := true) (by decide) A c w hr hc
theorem may0_w (w : World) : Calls Try.prog 21 #[.agg #[.int .i64 10, .int .i64 2]] w fun e w' => e = .returned (.bool true) ∧ Below w.heap.size w w' := may_w (t := ⟨10, 2⟩) (b := true) (by decide) w
attribute [local go_sem high] eqA49
set_option maxHeartbeats 8000000 in
set_option maxRecDepth 100000 in
theorem shown_w (w : World) : Calls Try.prog 9 #[] w fun e w' => e = .returned (.bool true) ∧ Below w.heap.size w w' := by
  have hu23 := Try.underlying23
  have hu28 := Try.underlying28
  have hu49 := Try.underlying49
  have HB := Aside0.mk (Below.refl w.heap.size w)
  go_enter Try.func9, Try.ntmps9
  go_upto_region 2 with (first | ((with_reducible refine gate_dst (N := 1) rfl ?_); (try (refine gate_guard (by rfl) ?_; dsimp only)); refine box_event ?hg (N := 1) ?hd (cs := #[.int .i64 0, .int .i64 0]) (t := 23) ?hr ?_; (case hd => rfl); (case hg => rfl); (case hr => first | (go_simp; done) | (go_simp; rfl)); intro gt hg w1_ hbox hB0; have hG := Aside0.mk (show w.heap.size ≤ gt from Nat.le_of_eq hg.symm); clear hg; have hBX := Aside0.mk hbox; have hB1 := Aside0.mk hB0; clear hB0; have hc_gt_0 : w1_.cell? ⟨gt, 0, none⟩ = some (.int .i64 0) := (blk_cell hbox 0).trans rfl; have hf_gt_0 := blk_frozen hbox 0; have hc_gt_1 : w1_.cell? ⟨gt, 1, none⟩ = some (.int .i64 0) := (blk_cell hbox 1).trans rfl; have hf_gt_1 := blk_frozen hbox 1; clear hbox))
  have hB : Below w.heap.size w ((w1_.setCell ⟨gt, 0, none⟩ (.int .i64 10)).setCell ⟨gt, 1, none⟩ (.int .i64 2)) := (below_set (below_set hB1.out hG.out) hG.out)
  have hBN : ((w1_.setCell ⟨gt, 0, none⟩ (.int .i64 10)).setCell ⟨gt, 1, none⟩ (.int .i64 2)).heap[gt]? = some (.cells #[.int .i64 10, .int .i64 2] 23 (0, 0)) := (blk_put (cs := #[.int .i64 10, .int .i64 0]) (blk_put (cs := #[.int .i64 0, .int .i64 0]) hBX.out 0 (.int .i64 10) rfl) 1 (.int .i64 2) rfl)
  clear hBX hB1
  clear hc_gt_0 hf_gt_0 hc_gt_1 hf_gt_1
  generalize ((w1_.setCell ⟨gt, 0, none⟩ (.int .i64 10)).setCell ⟨gt, 1, none⟩ (.int .i64 2)) = w2_ at hB hBN ⊢
  have HBo := Aside0.mk HB.out
  have nHB := Aside0.mk (HB.out.trans (hB.mono HB.out.size))
  clear HB
  have HB := nHB
  clear nHB
  have BK_gt := Aside0.mk hBN
  have GE_gt := Aside0.mk (Nat.le_trans HBo.out.size hG.out)
  clear HBo hG hBN hB
  have hc_gt_0 : w2_.cell? ⟨gt, 0, none⟩ = some (.int .i64 10) := (blk_cell BK_gt.out 0).trans rfl
  have hf_gt_0 := blk_frozen BK_gt.out 0
  have hc_gt_1 : w2_.cell? ⟨gt, 1, none⟩ = some (.int .i64 2) := (blk_cell BK_gt.out 1).trans rfl
  have hf_gt_1 := blk_frozen BK_gt.out 1
  go_upto_region 3 with (first | ((with_reducible refine gate_dst (N := 9) rfl ?_); (try (refine gate_guard (by rfl) ?_; dsimp only)); refine Kd.R_lit (Kd.int .u32) _ 25 ?hg (N := 9) ?hd (xs := ([5] : List Int)) (inner := [.int .u32 5]) (ok := fun _ => True) (okp := fun _ => True) ?hr ?hp (fun _ hk => hk) trivial (Below.refl _ _) (Nat.le_refl _) (by simp) ?_; (case hd => rfl); (case hg => rfl); (case hr => first | (go_simp; done) | (go_simp; rfl)); (case hp => exact Reps.one (show Kd.M (Kd.int .u32) _ _ _ 5 [.int .u32 5] from rfl) (Reps.none _ _)); intro v_l w3_ hR hB hg_ hnew_; clear hg_ hnew_; obtain ⟨A_l, c_l, rfl⟩ : ∃ A c, v_l = .slice A 1 c := Kd.R_slice hR; have nHB := Aside0.mk (HB.out.trans (hB.mono HB.out.size)); clear HB; have HB := nHB; clear nHB; clear hc_gt_0 hf_gt_0 hc_gt_1 hf_gt_1; have nBK := Aside0.mk (blk_below (g := gt) (o := .cells #[.int .i64 10, .int .i64 2] 23 (0, 0)) BK_gt.out hB); clear BK_gt; have BK_gt := nBK; clear nBK; have hc_gt_0 : w3_.cell? ⟨gt, 0, none⟩ = some (.int .i64 10) := (blk_cell BK_gt.out 0).trans rfl; have hf_gt_0 := blk_frozen BK_gt.out 0; have hc_gt_1 : w3_.cell? ⟨gt, 1, none⟩ = some (.int .i64 2) := (blk_cell BK_gt.out 1).trans rfl; have hf_gt_1 := blk_frozen BK_gt.out 1; have HC_l := Aside0.mk (show Kd.C (Kd.int .u32) w3_ A_l 1 [5] from (Kd.R_reads' hR).2.2); have HK_l := Aside0.mk (show 1 ≤ c_l from (Kd.R_reads' hR).2.1); clear hR hB) | (go_at_call 12; (with_reducible refine (hear0_w A_l c_l _ HC_l.out HK_l.out).mono ?_); rintro e_ w4_ ⟨A_m, c_m, A_ma, c_ma, rfl, hC, hK, hB⟩; have nHB := Aside0.mk (HB.out.trans (hB.mono HB.out.size)); clear HB; have HB := nHB; clear nHB; clear hc_gt_0 hf_gt_0 hc_gt_1 hf_gt_1; have nBK := Aside0.mk (blk_below (g := gt) (o := .cells #[.int .i64 10, .int .i64 2] 23 (0, 0)) BK_gt.out hB); clear BK_gt; have BK_gt := nBK; clear nBK; have hc_gt_0 : w4_.cell? ⟨gt, 0, none⟩ = some (.int .i64 10) := (blk_cell BK_gt.out 0).trans rfl; have hf_gt_0 := blk_frozen BK_gt.out 0; have hc_gt_1 : w4_.cell? ⟨gt, 1, none⟩ = some (.int .i64 2) := (blk_cell BK_gt.out 1).trans rfl; have hf_gt_1 := blk_frozen BK_gt.out 1; have nHC := Aside0.mk (Kd.C_below HC_l.out hB); clear HC_l; have HC_l := nHC; clear nHC; have HC_m := Aside0.mk hC; have HK_m := Aside0.mk hK; clear hC hK hB) | ((with_reducible refine gate_dst (N := 2) rfl ?_); (try (refine gate_guard (by rfl) ?_; dsimp only)); refine box_event ?hg (N := 2) ?hd (cs := #[.int .u32 0, .bool false, .int .i64 0, .slice none 0 0]) (t := 28) ?hr ?_; (case hd => rfl); (case hg => rfl); (case hr => first | (go_simp; done) | (go_simp; rfl)); intro gm hg w5_ hbox hB0; have hG := Aside0.mk (show w4_.heap.size ≤ gm from Nat.le_of_eq hg.symm); clear hg; have hBX := Aside0.mk hbox; have hB1 := Aside0.mk hB0; clear hB0; have hc_gm_0 : w5_.cell? ⟨gm, 0, none⟩ = some (.int .u32 0) := (blk_cell hbox 0).trans rfl; have hf_gm_0 := blk_frozen hbox 0; have hc_gm_1 : w5_.cell? ⟨gm, 1, none⟩ = some (.bool false) := (blk_cell hbox 1).trans rfl; have hf_gm_1 := blk_frozen hbox 1; have hc_gm_2 : w5_.cell? ⟨gm, 2, none⟩ = some (.int .i64 0) := (blk_cell hbox 2).trans rfl; have hf_gm_2 := blk_frozen hbox 2; have hc_gm_3 : w5_.cell? ⟨gm, 3, none⟩ = some (.slice none 0 0) := (blk_cell hbox 3).trans rfl; have hf_gm_3 := blk_frozen hbox 3; clear hbox))
  have hB : Below w4_.heap.size w4_ ((((w5_.setCell ⟨gm, 0, none⟩ (.int .u32 4009820675)).setCell ⟨gm, 1, none⟩ (.bool false)).setCell ⟨gm, 2, none⟩ (.int .i64 0)).setCell ⟨gm, 3, none⟩ (.slice A_m 1 c_m)) := (below_set (below_set (below_set (below_set hB1.out hG.out) hG.out) hG.out) hG.out)
  have hBN : ((((w5_.setCell ⟨gm, 0, none⟩ (.int .u32 4009820675)).setCell ⟨gm, 1, none⟩ (.bool false)).setCell ⟨gm, 2, none⟩ (.int .i64 0)).setCell ⟨gm, 3, none⟩ (.slice A_m 1 c_m)).heap[gm]? = some (.cells #[.int .u32 4009820675, .bool false, .int .i64 0, .slice A_m 1 c_m] 28 (0, 0)) := (blk_put (cs := #[.int .u32 4009820675, .bool false, .int .i64 0, .slice none 0 0]) (blk_put (cs := #[.int .u32 4009820675, .bool false, .int .i64 0, .slice none 0 0]) (blk_put (cs := #[.int .u32 4009820675, .bool false, .int .i64 0, .slice none 0 0]) (blk_put (cs := #[.int .u32 0, .bool false, .int .i64 0, .slice none 0 0]) hBX.out 0 (.int .u32 4009820675) rfl) 1 (.bool false) rfl) 2 (.int .i64 0) rfl) 3 (.slice A_m 1 c_m) rfl)
  clear hBX hB1
  clear hc_gm_0 hf_gm_0 hc_gm_1 hf_gm_1 hc_gm_2 hf_gm_2 hc_gm_3 hf_gm_3
  generalize ((((w5_.setCell ⟨gm, 0, none⟩ (.int .u32 4009820675)).setCell ⟨gm, 1, none⟩ (.bool false)).setCell ⟨gm, 2, none⟩ (.int .i64 0)).setCell ⟨gm, 3, none⟩ (.slice A_m 1 c_m)) = w6_ at hB hBN ⊢
  have NB_gm_gt := Aside0.mk (show gm ≠ gt from Nat.ne_of_gt (Nat.lt_of_lt_of_le (blk_lt (g := gt) (o := .cells #[.int .i64 10, .int .i64 2] 23 (0, 0)) BK_gt.out) hG.out))
  have NB_gt_gm := Aside0.mk (Ne.symm NB_gm_gt.out)
  have HBo := Aside0.mk HB.out
  have nHB := Aside0.mk (HB.out.trans (hB.mono HB.out.size))
  clear HB
  have HB := nHB
  clear nHB
  clear hc_gt_0 hf_gt_0 hc_gt_1 hf_gt_1
  have nBK := Aside0.mk (blk_below (g := gt) (o := .cells #[.int .i64 10, .int .i64 2] 23 (0, 0)) BK_gt.out hB)
  clear BK_gt
  have BK_gt := nBK
  clear nBK
  have hc_gt_0 : w6_.cell? ⟨gt, 0, none⟩ = some (.int .i64 10) := (blk_cell BK_gt.out 0).trans rfl
  have hf_gt_0 := blk_frozen BK_gt.out 0
  have hc_gt_1 : w6_.cell? ⟨gt, 1, none⟩ = some (.int .i64 2) := (blk_cell BK_gt.out 1).trans rfl
  have hf_gt_1 := blk_frozen BK_gt.out 1
  have nHC := Aside0.mk (Kd.C_below HC_l.out hB)
  clear HC_l
  have HC_l := nHC
  clear nHC
  have nHC := Aside0.mk (Kd.C_below HC_m.out hB)
  clear HC_m
  have HC_m := nHC
  clear nHC
  have BK_gm := Aside0.mk hBN
  have GE_gm := Aside0.mk (Nat.le_trans HBo.out.size hG.out)
  clear HBo hG hBN hB
  have hc_gm_0 : w6_.cell? ⟨gm, 0, none⟩ = some (.int .u32 4009820675) := (blk_cell BK_gm.out 0).trans rfl
  have hf_gm_0 := blk_frozen BK_gm.out 0
  have hc_gm_1 : w6_.cell? ⟨gm, 1, none⟩ = some (.bool false) := (blk_cell BK_gm.out 1).trans rfl
  have hf_gm_1 := blk_frozen BK_gm.out 1
  have hc_gm_2 : w6_.cell? ⟨gm, 2, none⟩ = some (.int .i64 0) := (blk_cell BK_gm.out 2).trans rfl
  have hf_gm_2 := blk_frozen BK_gm.out 2
  have hc_gm_3 : w6_.cell? ⟨gm, 3, none⟩ = some (.slice A_m 1 c_m) := (blk_cell BK_gm.out 3).trans rfl
  have hf_gm_3 := blk_frozen BK_gm.out 3
  obtain ⟨ad, he_, hx0, hx1⟩ := at_T49 HC_m.out 0 (by decide) (by decide)
  subst he_
  have hx0' : w6_.cell? (ad.add (Int.toNat 0 * 2)) = some (.int .u32 5) := hx0
  have hx1' : w6_.cell? ⟨(ad.add (Int.toNat 0 * 2)).block, (ad.add (Int.toNat 0 * 2)).off + 1, none⟩ = some (.int .i64 10) := hx1
  have hx2 : w6_.cell? ad = some (.int .u32 5) := hx0'
  have hx3 : w6_.cell? ⟨ad.block, ad.off + 1, none⟩ = some (.int .i64 10) := hx1'
  clear hx0 hx1
  go_wp2_with (first | (go_at_call 19; with_reducible refine (wants5_w (some ad) c_m _ HC_m.out HK_m.out).mono ?_; rintro e w7_ ⟨rfl, hB⟩; have nHB := Aside0.mk (HB.out.trans (hB.mono HB.out.size)); clear HB; have HB := nHB; clear nHB; clear hc_gt_0 hf_gt_0 hc_gt_1 hf_gt_1; have nBK := Aside0.mk (blk_below (g := gt) (o := .cells #[.int .i64 10, .int .i64 2] 23 (0, 0)) BK_gt.out hB); clear BK_gt; have BK_gt := nBK; clear nBK; have hc_gt_0 : w7_.cell? ⟨gt, 0, none⟩ = some (.int .i64 10) := (blk_cell BK_gt.out 0).trans rfl; have hf_gt_0 := blk_frozen BK_gt.out 0; have hc_gt_1 : w7_.cell? ⟨gt, 1, none⟩ = some (.int .i64 2) := (blk_cell BK_gt.out 1).trans rfl; have hf_gt_1 := blk_frozen BK_gt.out 1; clear hc_gm_0 hf_gm_0 hc_gm_1 hf_gm_1 hc_gm_2 hf_gm_2 hc_gm_3 hf_gm_3; have nBK := Aside0.mk (blk_below (g := gm) (o := .cells #[.int .u32 4009820675, .bool false, .int .i64 0, .slice (some ad) 1 c_m] 28 (0, 0)) BK_gm.out hB); clear BK_gm; have BK_gm := nBK; clear nBK; have hc_gm_0 : w7_.cell? ⟨gm, 0, none⟩ = some (.int .u32 4009820675) := (blk_cell BK_gm.out 0).trans rfl; have hf_gm_0 := blk_frozen BK_gm.out 0; have hc_gm_1 : w7_.cell? ⟨gm, 1, none⟩ = some (.bool false) := (blk_cell BK_gm.out 1).trans rfl; have hf_gm_1 := blk_frozen BK_gm.out 1; have hc_gm_2 : w7_.cell? ⟨gm, 2, none⟩ = some (.int .i64 0) := (blk_cell BK_gm.out 2).trans rfl; have hf_gm_2 := blk_frozen BK_gm.out 2; have hc_gm_3 : w7_.cell? ⟨gm, 3, none⟩ = some (.slice (some ad) 1 c_m) := (blk_cell BK_gm.out 3).trans rfl; have hf_gm_3 := blk_frozen BK_gm.out 3; have nHC := Aside0.mk (Kd.C_below HC_l.out hB); clear HC_l; have HC_l := nHC; clear nHC; have nHC := Aside0.mk (Kd.C_below HC_m.out hB); clear HC_m; have HC_m := nHC; clear nHC; clear hB) | (go_at_call 19; with_reducible refine (wants6_w (some ad) c_m _ HC_m.out HK_m.out).mono ?_; rintro e w8_ ⟨rfl, hB⟩; have nHB := Aside0.mk (HB.out.trans (hB.mono HB.out.size)); clear HB; have HB := nHB; clear nHB; clear hc_gt_0 hf_gt_0 hc_gt_1 hf_gt_1; have nBK := Aside0.mk (blk_below (g := gt) (o := .cells #[.int .i64 10, .int .i64 2] 23 (0, 0)) BK_gt.out hB); clear BK_gt; have BK_gt := nBK; clear nBK; have hc_gt_0 : w8_.cell? ⟨gt, 0, none⟩ = some (.int .i64 10) := (blk_cell BK_gt.out 0).trans rfl; have hf_gt_0 := blk_frozen BK_gt.out 0; have hc_gt_1 : w8_.cell? ⟨gt, 1, none⟩ = some (.int .i64 2) := (blk_cell BK_gt.out 1).trans rfl; have hf_gt_1 := blk_frozen BK_gt.out 1; clear hc_gm_0 hf_gm_0 hc_gm_1 hf_gm_1 hc_gm_2 hf_gm_2 hc_gm_3 hf_gm_3; have nBK := Aside0.mk (blk_below (g := gm) (o := .cells #[.int .u32 4009820675, .bool false, .int .i64 0, .slice (some ad) 1 c_m] 28 (0, 0)) BK_gm.out hB); clear BK_gm; have BK_gm := nBK; clear nBK; have hc_gm_0 : w8_.cell? ⟨gm, 0, none⟩ = some (.int .u32 4009820675) := (blk_cell BK_gm.out 0).trans rfl; have hf_gm_0 := blk_frozen BK_gm.out 0; have hc_gm_1 : w8_.cell? ⟨gm, 1, none⟩ = some (.bool false) := (blk_cell BK_gm.out 1).trans rfl; have hf_gm_1 := blk_frozen BK_gm.out 1; have hc_gm_2 : w8_.cell? ⟨gm, 2, none⟩ = some (.int .i64 0) := (blk_cell BK_gm.out 2).trans rfl; have hf_gm_2 := blk_frozen BK_gm.out 2; have hc_gm_3 : w8_.cell? ⟨gm, 3, none⟩ = some (.slice (some ad) 1 c_m) := (blk_cell BK_gm.out 3).trans rfl; have hf_gm_3 := blk_frozen BK_gm.out 3; have nHC := Aside0.mk (Kd.C_below HC_l.out hB); clear HC_l; have HC_l := nHC; clear nHC; have nHC := Aside0.mk (Kd.C_below HC_m.out hB); clear HC_m; have HC_m := nHC; clear nHC; clear hB) | (go_at_call 20; with_reducible refine (some0_w (some ad) c_m _ HC_m.out HK_m.out).mono ?_; rintro e w9_ ⟨rfl, hB⟩; have nHB := Aside0.mk (HB.out.trans (hB.mono HB.out.size)); clear HB; have HB := nHB; clear nHB; clear hc_gt_0 hf_gt_0 hc_gt_1 hf_gt_1; have nBK := Aside0.mk (blk_below (g := gt) (o := .cells #[.int .i64 10, .int .i64 2] 23 (0, 0)) BK_gt.out hB); clear BK_gt; have BK_gt := nBK; clear nBK; have hc_gt_0 : w9_.cell? ⟨gt, 0, none⟩ = some (.int .i64 10) := (blk_cell BK_gt.out 0).trans rfl; have hf_gt_0 := blk_frozen BK_gt.out 0; have hc_gt_1 : w9_.cell? ⟨gt, 1, none⟩ = some (.int .i64 2) := (blk_cell BK_gt.out 1).trans rfl; have hf_gt_1 := blk_frozen BK_gt.out 1; clear hc_gm_0 hf_gm_0 hc_gm_1 hf_gm_1 hc_gm_2 hf_gm_2 hc_gm_3 hf_gm_3; have nBK := Aside0.mk (blk_below (g := gm) (o := .cells #[.int .u32 4009820675, .bool false, .int .i64 0, .slice (some ad) 1 c_m] 28 (0, 0)) BK_gm.out hB); clear BK_gm; have BK_gm := nBK; clear nBK; have hc_gm_0 : w9_.cell? ⟨gm, 0, none⟩ = some (.int .u32 4009820675) := (blk_cell BK_gm.out 0).trans rfl; have hf_gm_0 := blk_frozen BK_gm.out 0; have hc_gm_1 : w9_.cell? ⟨gm, 1, none⟩ = some (.bool false) := (blk_cell BK_gm.out 1).trans rfl; have hf_gm_1 := blk_frozen BK_gm.out 1; have hc_gm_2 : w9_.cell? ⟨gm, 2, none⟩ = some (.int .i64 0) := (blk_cell BK_gm.out 2).trans rfl; have hf_gm_2 := blk_frozen BK_gm.out 2; have hc_gm_3 : w9_.cell? ⟨gm, 3, none⟩ = some (.slice (some ad) 1 c_m) := (blk_cell BK_gm.out 3).trans rfl; have hf_gm_3 := blk_frozen BK_gm.out 3; have nHC := Aside0.mk (Kd.C_below HC_l.out hB); clear HC_l; have HC_l := nHC; clear nHC; have nHC := Aside0.mk (Kd.C_below HC_m.out hB); clear HC_m; have HC_m := nHC; clear nHC; clear hB) | (go_at_call 21; with_reducible refine (may0_w _).mono ?_; rintro e w10_ ⟨rfl, hB⟩; have nHB := Aside0.mk (HB.out.trans (hB.mono HB.out.size)); clear HB; have HB := nHB; clear nHB; clear hc_gt_0 hf_gt_0 hc_gt_1 hf_gt_1; have nBK := Aside0.mk (blk_below (g := gt) (o := .cells #[.int .i64 10, .int .i64 2] 23 (0, 0)) BK_gt.out hB); clear BK_gt; have BK_gt := nBK; clear nBK; have hc_gt_0 : w10_.cell? ⟨gt, 0, none⟩ = some (.int .i64 10) := (blk_cell BK_gt.out 0).trans rfl; have hf_gt_0 := blk_frozen BK_gt.out 0; have hc_gt_1 : w10_.cell? ⟨gt, 1, none⟩ = some (.int .i64 2) := (blk_cell BK_gt.out 1).trans rfl; have hf_gt_1 := blk_frozen BK_gt.out 1; clear hc_gm_0 hf_gm_0 hc_gm_1 hf_gm_1 hc_gm_2 hf_gm_2 hc_gm_3 hf_gm_3; have nBK := Aside0.mk (blk_below (g := gm) (o := .cells #[.int .u32 4009820675, .bool false, .int .i64 0, .slice (some ad) 1 c_m] 28 (0, 0)) BK_gm.out hB); clear BK_gm; have BK_gm := nBK; clear nBK; have hc_gm_0 : w10_.cell? ⟨gm, 0, none⟩ = some (.int .u32 4009820675) := (blk_cell BK_gm.out 0).trans rfl; have hf_gm_0 := blk_frozen BK_gm.out 0; have hc_gm_1 : w10_.cell? ⟨gm, 1, none⟩ = some (.bool false) := (blk_cell BK_gm.out 1).trans rfl; have hf_gm_1 := blk_frozen BK_gm.out 1; have hc_gm_2 : w10_.cell? ⟨gm, 2, none⟩ = some (.int .i64 0) := (blk_cell BK_gm.out 2).trans rfl; have hf_gm_2 := blk_frozen BK_gm.out 2; have hc_gm_3 : w10_.cell? ⟨gm, 3, none⟩ = some (.slice (some ad) 1 c_m) := (blk_cell BK_gm.out 3).trans rfl; have hf_gm_3 := blk_frozen BK_gm.out 3; have nHC := Aside0.mk (Kd.C_below HC_l.out hB); clear HC_l; have HC_l := nHC; clear nHC; have nHC := Aside0.mk (Kd.C_below HC_m.out hB); clear HC_m; have HC_m := nHC; clear nHC; clear hB))
  go_ret
  exact ⟨rfl, HB.out⟩
end Go.Proofs.Ytbllchfgjginoaa
/-
  What comes of a record, in plain lists (chapter 08).
-/
namespace Go.Proofs.Ytbllchfgjginoaa
open Go.RowKit Go.Lib Go.Proofs.YtbllchfgjginoaaW.PrintWords Go.Proofs.Ytbllchfgjginoaa.PMe
set_option linter.unusedVariables false
set_option linter.unusedSimpArgs false
theorem mem_keep (left : Int) (s : S49) : ∀ (l : List Int) (srcs : List S49), s ∈ keepS srcs l left ↔ (s.f0 ∈ l ∧ s.f1 = left) ∨ (s.f0 ∉ l ∧ s ∈ srcs) := by
  intro l
  induction l with
  | nil => intro srcs; simp [keepS]
  | cons a l ih =>
    intro srcs
    have e : keepS srcs (a :: l) left = keepS (insH srcs ⟨a, left⟩) l left := rfl
    rw [e, ih, mem_insH]
    simp only [List.mem_cons]
    constructor
    · rintro (⟨h1, h2⟩ | ⟨h1, rfl | ⟨h2, h3⟩⟩)
      · exact .inl ⟨.inr h1, h2⟩
      · exact .inl ⟨.inl rfl, rfl⟩
      · exact .inr ⟨fun h => h.elim h3 h1, h2⟩
    · rintro (⟨h1 | h1, h2⟩ | ⟨h1, h2⟩)
      · by_cases h3 : s.f0 ∈ l
        · exact .inl ⟨h3, h2⟩
        · refine .inr ⟨h3, .inl ?_⟩
          cases s
          dsimp only at h1 h2
          rw [h1, h2]
      · exact .inl ⟨h1, h2⟩
      · exact .inr ⟨fun h => h1 (.inr h), .inr ⟨h2, fun h => h1 (.inl h)⟩⟩
/-- The times of sources are right. -/
def TOk (ex : Bool) (l : List S49) : Prop := ∀ s ∈ l, 0 ≤ s.f1 ∧ s.f1 ≤ 1000000 ∧ (s.f1 = 0 → ex = true)
theorem MOk.times {x : S28} (h : MOk x) : TOk x.f1 x.f3 := by
  intro s hs
  obtain ⟨i, hi, rfl⟩ := List.getElem_of_mem hs
  have := h.all i hi
  unfold goodH at this
  rw [rd49 _ i hi] at this
  exact ⟨this.1, this.2.1, this.2.2.1⟩
theorem MOk.of {x : S28} (h1 : 3758096640 ≤ x.f0 ∧ x.f0 ≤ 4026531839) (h2 : x.f3.length ≤ 64) (h3 : x.f1 = true → 1 ≤ x.f2 ∧ x.f2 ≤ 1000000) (h4 : x.f1 = false → x.f2 = 0) (h5 : SortH x.f3) (h6 : TOk x.f1 x.f3) : MOk x := by
  refine ⟨h1, h2, h3, h4, fun j hj => ?_⟩
  unfold goodH
  rw [rd49 _ j hj]
  have h7 := h6 _ (List.getElem_mem hj)
  refine ⟨h7.1, h7.2.1, h7.2.2, fun h8 => ?_⟩
  rw [rd49 _ (j - 1) (by omega)]
  exact (List.pairwise_iff_getElem.1 h5) (j - 1) j (by omega) hj (by omega)
theorem TOk.soon {ex : Bool} {l : List S49} (h : TOk ex l) : Soon l := fun s hs => ⟨(h s hs).1, (h s hs).2.1⟩
theorem TOk.keep {ex : Bool} {xs : List S49} (h : TOk ex xs) (l : List Int) {left : Int} (h1 : 0 ≤ left ∧ left ≤ 1000000) (h2 : left = 0 → ex = true) : TOk ex (keepS xs l left) := by
  intro s hs
  rcases (mem_keep left s l xs).1 hs with h3 | h3
  · rw [h3.2]; exact ⟨h1.1, h1.2, h2⟩
  · exact h s h3.2
theorem TOk.mono {ex : Bool} {xs : List S49} (h : TOk ex xs) : TOk true xs := fun s hs => ⟨(h s hs).1, (h s hs).2.1, fun _ => rfl⟩
theorem TOk.only {ex : Bool} {xs : List S49} (h : TOk ex xs) (l : List Int) : TOk ex (onlyS xs l) := fun s hs => h s ((List.mem_filter.1 hs).1)
theorem TOk.ask {ex : Bool} {xs : List S49} (h : TOk ex xs) {last : Int} (h1 : 1 ≤ last) (l : List Int) : TOk ex (askS last l xs) := by
  intro s hs
  obtain ⟨y, h2, h3⟩ := List.mem_map.1 hs
  have h4 := h y h2
  subst h3
  unfold ask1
  split
  · dsimp only
    refine ⟨by omega, by omega, fun h5 => h4.2.2 (by omega)⟩
  · exact h4
theorem ask_sort {xs : List S49} (h : SortH xs) (last : Int) (l : List Int) : SortH (askS last l xs) := by
  unfold SortH at *
  unfold askS
  rw [List.pairwise_map]
  refine h.imp fun {a b} hab => ?_
  unfold ask1
  split <;> split <;> exact hab
/-- A work that is right but for how many sources it has. -/
structure WRight (t : S23) (g : Int) (m : WM) : Prop where
  g : m.g = g
  keep : m.keep = t.f0
  last : m.last = t.f1
  s : SortH m.srcs
  t : TOk m.ex m.srcs
  ex : m.ex = true → 1 ≤ m.left ∧ m.left ≤ 1000000
  inn : m.ex = false → m.left = 0
theorem may_iff {t : S23} : mayB t = true ↔ 1 ≤ t.f1 ∧ t.f1 ≤ t.f0 ∧ t.f0 ≤ 1000000 := by
  unfold mayB
  rw [Bool.and_eq_true, Bool.and_eq_true, decide_eq_true_eq, decide_eq_true_eq, decide_eq_true_eq, and_assoc]
variable {t : S23} {g : Int} {m : WM}
theorem WRight.allow (ht : mayB t = true) (h : WRight t g m) : WRight t g (allowM m) := by
  have h1 := may_iff.1 ht
  exact ⟨h.g, h.keep, h.last, keep_sorted _ _ h.s, h.t.keep _ (by rw [h.keep]; omega) (by rw [h.keep]; intro h2; omega), h.ex, h.inn⟩
theorem WRight.except (ht : mayB t = true) (h : WRight t g m) {left : Int} (hl : 0 ≤ left ∧ left ≤ 1000000) : WRight t g (exceptM m left) := by
  have h1 := may_iff.1 ht
  exact ⟨h.g, h.keep, h.last, keep_sorted _ _ (only_sorted h.s _), (h.t.mono.only _).keep _ hl (fun _ => rfl), fun _ => by show 1 ≤ m.keep ∧ m.keep ≤ 1000000; rw [h.keep]; omega, fun h2 => by simp [exceptM] at h2⟩
theorem WRight.ask (ht : mayB t = true) (h : WRight t g m) (l : List Int) : WRight t g (askM m l) := by
  have h1 := may_iff.1 ht
  unfold askM
  split
  · exact h
  · exact ⟨h.g, h.keep, h.last, ask_sort h.s _ _, h.t.ask (by rw [h.last]; exact h1.1) _, h.ex, h.inn⟩
theorem WRight.isEx (ht : mayB t = true) (h : WRight t g m) : WRight t g (isExM m) := by
  have h1 := may_iff.1 ht
  unfold isExM
  split
  · exact h.except ht (by rw [h.keep]; omega)
  · exact h.except ht (by omega)
theorem WRight.block (ht : mayB t = true) (h : WRight t g m) : WRight t g (blockM m) := by
  have h1 := may_iff.1 ht
  unfold blockM
  split
  · rename_i he
    have h2 := h.ex he
    refine WRight.ask ht ?_ _
    exact ⟨h.g, h.keep, h.last, keep_sorted _ _ h.s, h.t.keep _ (by omega) (fun h3 => by omega), h.ex, h.inn⟩
  · exact h.ask ht _
theorem WRight.toEx (ht : mayB t = true) (h : WRight t g m) : WRight t g (toExM m) := by
  have h1 := may_iff.1 ht
  unfold toExM
  split
  · rename_i he
    have h2 := h.ex he
    exact (h.except ht (by omega)).ask ht _
  · exact (h.except ht (by omega)).ask ht _
theorem WRight.toIn (ht : mayB t = true) (h : WRight t g m) : WRight t g (toInM m) := by
  have h1 := may_iff.1 ht
  have h2 := (h.allow ht).ask ht (mns (xS m.srcs) m.b)
  unfold toInM
  split
  · rename_i he
    have h3 := h2.ex he
    have h4 := h2.last
    exact ⟨h2.g, h2.keep, h2.last, h2.s, h2.t, fun _ => by show 1 ≤ min _ _ ∧ min _ _ ≤ _; omega, fun h5 => absurd (he.symm.trans h5) (by simp)⟩
  · exact h2
theorem WRight.kind (ht : mayB t = true) (h : WRight t g m) (kind : Int) : WRight t g (kindM kind m) := by
  unfold kindM
  split
  · exact h.allow ht
  split
  · exact h.isEx ht
  split
  · exact h.block ht
  split
  · exact h.toEx ht
  exact h.toIn ht
theorem hear_right (ht : mayB t = true) {x : S28} (h : MOk x) (kind : Int) (l : List Int) : MOk (hearR t x kind l).1 := by
  unfold hearR
  split
  · split
    · exact h
    · rename_i h2
      have h3 : WRight t x.f0 (hearD t x kind l) := WRight.kind (m := hear0 t x l) (g := x.f0) ht ⟨rfl, rfl, rfl, h.sort, h.times, h.ex, h.inn⟩ kind
      exact MOk.of (by show _ ≤ (hearD t x kind l).g ∧ _; rw [h3.g]; exact h.asked) (by show (hearD t x kind l).srcs.length ≤ _; omega) h3.ex h3.inn h3.s h3.t
  · exact h
end Go.Proofs.Ytbllchfgjginoaa
/-
  What comes of time, in plain lists (chapter 08).
-/
namespace Go.Proofs.Ytbllchfgjginoaa
open Go.RowKit Go.Lib Go.Proofs.YtbllchfgjginoaaW.PrintWords Go.Proofs.Ytbllchfgjginoaa.PMe
set_option linter.unusedVariables false
set_option linter.unusedSimpArgs false
theorem mx0 (a : Int) : mx a 0 = max a 0 := by unfold mx; split <;> omega
theorem mem_tick {ex : Bool} {n : Int} {l : List S49} {s : S49} : s ∈ tickL ex n l ↔ (∃ y ∈ l, tickS n y = s) ∧ (ex = true ∨ 0 < s.f1) := by
  unfold tickL
  rw [List.mem_filter, List.mem_map, Bool.or_eq_true, decide_eq_true_eq]
theorem tick_sort {l : List S49} (h : SortH l) (ex : Bool) (n : Int) : SortH (tickL ex n l) := by
  unfold tickL
  refine List.Pairwise.filter _ ?_
  rw [List.pairwise_map]
  exact h
theorem tick_len (ex : Bool) (n : Int) (l : List S49) : (tickL ex n l).length ≤ l.length := by
  unfold tickL
  exact Nat.le_trans (List.length_filter_le _ _) (by rw [List.length_map]; exact Nat.le_refl _)
theorem tick_right {x : S28} (h : MOk x) {n : Int} (hn : 0 ≤ n) : MOk (tickM x n) := by
  have hl : 0 ≤ x.f2 ∧ x.f2 ≤ 1000000 := by
    cases e : x.f1
    · have := h.inn e; omega
    · have := h.ex e; omega
  refine MOk.of h.asked (Nat.le_trans (tick_len _ _ _) h.len) ?_ ?_ (tick_sort h.sort _ _) ?_
  · intro h1
    have h2 : (x.f1 && decide (0 < mx (x.f2 - n) 0)) = true := h1
    rw [Bool.and_eq_true, decide_eq_true_eq] at h2
    show 1 ≤ mx (x.f2 - n) 0 ∧ mx (x.f2 - n) 0 ≤ 1000000
    have h3 := h2.2
    rw [mx0] at h3 ⊢
    omega
  · intro h1
    have h2 : (x.f1 && decide (0 < mx (x.f2 - n) 0)) = false := h1
    show mx (x.f2 - n) 0 = 0
    rw [mx0] at h2 ⊢
    cases e : x.f1
    · have := h.inn e; omega
    · rw [e, Bool.true_and, decide_eq_false_iff_not] at h2; omega
  · intro s hs
    obtain ⟨⟨y, h1, rfl⟩, h2⟩ := mem_tick.1 hs
    have h3 := h.times y h1
    show 0 ≤ mx (y.f1 - n) 0 ∧ mx (y.f1 - n) 0 ≤ 1000000 ∧ (mx (y.f1 - n) 0 = 0 → _)
    have h4 : (x.f1 && decide (0 < mx (x.f2 - n) 0)) = true ∨ 0 < mx (y.f1 - n) 0 := h2
    refine ⟨by rw [mx0]; omega, by rw [mx0]; omega, fun h5 => ?_⟩
    rcases h4 with h4 | h4
    · exact h4
    · omega
theorem tick_big {x : S28} (h : MOk x) {n : Int} (hn : 1000000 ≤ n) : tickM x n = tickM x 1000000 := by
  have hl : 0 ≤ x.f2 ∧ x.f2 ≤ 1000000 := by
    cases e : x.f1
    · have := h.inn e; omega
    · have := h.ex e; omega
  have e1 : mx (x.f2 - n) 0 = mx (x.f2 - 1000000) 0 := by rw [mx0, mx0]; omega
  have e2 : x.f3.map (tickS n) = x.f3.map (tickS 1000000) := by
    refine List.map_congr_left fun s hs => ?_
    have := h.times s hs
    unfold tickS
    rw [show mx (s.f1 - n) 0 = mx (s.f1 - 1000000) 0 by rw [mx0, mx0]; omega]
  unfold tickM tickL
  rw [e1, e2]
end Go.Proofs.Ytbllchfgjginoaa
/-
  Time of any length, called (chapter 08).
-/
namespace Go.Proofs.Ytbllchfgjginoaa
open Go.RowKit Go.Lib Go.Proofs.YtbllchfgjginoaaW.PrintWords Go.Proofs.Ytbllchfgjginoaa.PMe
set_option linter.unusedVariables false
set_option linter.unusedSimpArgs false
theorem MOk.left {x : S28} (h : MOk x) : 0 ≤ x.f2 ∧ x.f2 ≤ 1000000 := by
  cases e : x.f1
  · have := h.inn e; omega
  · have := h.ex e; omega
theorem tick_clamp {x : S28} (h : MOk x) {n : Int} (hn : 0 ≤ n) : tickM x (mn (mx n 0) 1000000) = tickM x n := by
  by_cases h1 : n ≤ 1000000
  · rw [show mn (mx n 0) 1000000 = n by unfold mn mx; (repeat' split) <;> omega]
  · rw [show mn (mx n 0) 1000000 = 1000000 by unfold mn mx; (repeat' split) <;> omega]; exact (tick_big h (by omega)).symm
theorem tick_any {x r : S28} {n : Int} (h : MOk x) (hn : 0 ≤ n) (e : tickM x n = r) (A : Option Addr) (c : Nat) (w : World) (hr : Kd.C k49 w A x.f3.length x.f3) (hc : x.f3.length ≤ c) :
    Calls Try.prog 17 #[.agg #[.int .u32 x.f0, .bool x.f1, .int .i64 x.f2, .slice A x.f3.length c], .int .i64 n] w fun e w' => ∃ A0 c0, e = .returned (.agg #[.int .u32 r.f0, .bool r.f1, .int .i64 r.f2, .slice A0 r.f3.length c0]) ∧ Kd.C k49 w' A0 r.f3.length r.f3 ∧ r.f3.length ≤ c0 ∧ Below w.heap.size w w' := by
  subst e
  have h1 := tick_some x n (by have := h.len; omega) h.times.soon h.left _ (Nat.le_refl _)
  rw [tick_clamp h hn] at h1
  refine (memb_Tick.calls _ _ _ _ A c _ _ _ _ _ _ w hr hc h1).mono fun e w' hp => ?_
  obtain ⟨v, rfl, hR, hB⟩ := hp
  obtain ⟨A0, c0, rfl⟩ := Kd.R_slice hR
  exact ⟨A0, c0, rfl, (Kd.R_reads' hR).2.2, (Kd.R_reads' hR).2.1, hB⟩
end Go.Proofs.Ytbllchfgjginoaa
/-
  What is wanted behind a record, in plain lists (chapter 08).
-/
namespace Go.Proofs.Ytbllchfgjginoaa
open Go.RowKit Go.Lib Go.Proofs.YtbllchfgjginoaaW.PrintWords Go.Proofs.Ytbllchfgjginoaa.PMe
set_option linter.unusedVariables false
set_option linter.unusedSimpArgs false
def wantsL (ex : Bool) (xs : List S49) (a : Int) : Bool := if ex = true then xs.all (fun s => !decide (s.f0 = a) || decide (0 < s.f1)) else hasH xs a
theorem wantsB_L (x : S28) (a : Int) : wantsB x a = wantsL x.f1 x.f3 a := rfl
theorem wantsT {xs : List S49} {a : Int} : wantsL true xs a = true ↔ ∀ n, (⟨a, n⟩ : S49) ∈ xs → 0 < n := by
  unfold wantsL
  rw [if_pos rfl, List.all_eq_true]
  constructor
  · intro h n hn
    have := h _ hn
    simpa using this
  · intro h s hs
    by_cases e : s.f0 = a
    · subst e
      have := h s.f1 hs
      simp [this]
    · simp [e]
theorem wantsF {xs : List S49} {a : Int} : wantsL false xs a = true ↔ ∃ n, (⟨a, n⟩ : S49) ∈ xs := by
  unfold wantsL
  rw [if_neg (by simp), hasH_iff]
  constructor
  · rintro ⟨s, h, rfl⟩; exact ⟨s.f1, h⟩
  · rintro ⟨n, h⟩; exact ⟨_, h, rfl⟩
theorem at_keep {left a n : Int} {l : List Int} {xs : List S49} : (⟨a, n⟩ : S49) ∈ keepS xs l left ↔ (a ∈ l ∧ n = left) ∨ (a ∉ l ∧ (⟨a, n⟩ : S49) ∈ xs) := mem_keep left ⟨a, n⟩ l xs
theorem at_tick {ex : Bool} {k a n : Int} {xs : List S49} : (⟨a, n⟩ : S49) ∈ tickL ex k xs ↔ ∃ m, (⟨a, m⟩ : S49) ∈ xs ∧ n = max (m - k) 0 ∧ (ex = true ∨ 0 < n) := by
  rw [mem_tick]
  unfold tickS
  constructor
  · rintro ⟨⟨y, h1, e⟩, h2⟩
    injection e with e1 e2
    subst e1
    rw [mx0] at e2
    exact ⟨y.f1, h1, e2.symm, h2⟩
  · rintro ⟨m, h1, h2, h3⟩
    exact ⟨⟨⟨a, m⟩, h1, by rw [mx0, h2]⟩, h3⟩
variable {t : S23} {x : S28} {l : List Int} {a : Int}
end Go.Proofs.Ytbllchfgjginoaa
/-
  What a host's turns bring, what is kept, and what is asked, in plain lists (chapter 08).
-/
namespace Go.Proofs.Ytbllchfgjginoaa
open Go.RowKit Go.Lib Go.Proofs.YtbllchfgjginoaaW.PrintWords Go.Proofs.Ytbllchfgjginoaa.PMe
set_option linter.unusedVariables false
set_option linter.unusedSimpArgs false
variable {t : S23} {x : S28} {l : List Int} {a : Int}
/-! ### MembKeeps -/
theorem keeps_in (t : S23) (g : Int) (l : List Int) (hl : l.length ≤ 60) : hearR t ⟨g, false, 0, []⟩ 1 l = (⟨g, false, 0, keepS [] (mk l) t.f0⟩, [], 0) := by
  have h1 := keep_len (mk l) t.f0 (srcs := []) List.Pairwise.nil
  have h2 := mk_len l
  unfold hearR
  rw [if_pos (by decide), if_neg (show ¬ 64 < (hearD t ⟨g, false, 0, []⟩ 1 l).srcs.length by show ¬ 64 < (keepS [] (mk l) t.f0).length; simp only [List.length_nil] at h1; omega)]
  rfl
theorem keeps_ex (t : S23) (g : Int) (l : List Int) (hl : l.length ≤ 60) : hearR t ⟨g, false, 0, []⟩ 2 l = (⟨g, true, t.f0, keepS [] (mns (mk l) []) 0⟩, [], 0) := by
  have h1 := keep_len (mns (mk l) []) 0 (srcs := []) List.Pairwise.nil
  have h2 := mk_len l
  have h3 := mns_len (mk l) []
  unfold hearR
  rw [if_pos (by decide), if_neg (show ¬ 64 < (hearD t ⟨g, false, 0, []⟩ 2 l).srcs.length by show ¬ 64 < (keepS [] (mns (mk l) []) 0).length; simp only [List.length_nil] at h1 h3; omega)]
  rfl
theorem keeps_wx {g n : Int} : wantsB (tickM ⟨g, false, 0, keepS [] (mk l) t.f0⟩ n) a = (decide (a ∈ l) && decide (n < t.f0)) := by
  rw [wantsB_L]
  show wantsL false (tickL false n (keepS [] (mk l) t.f0)) a = _
  rw [Bool.eq_iff_iff, Bool.and_eq_true, decide_eq_true_eq, decide_eq_true_eq, wantsF]
  constructor
  · rintro ⟨k, hk⟩
    obtain ⟨m, h1, h2, h3⟩ := at_tick.1 hk
    rcases at_keep.1 h1 with h4 | h4
    · rcases h3 with h3 | h3
      · exact absurd h3 (by simp)
      · exact ⟨(mk_mem _ _).1 h4.1, by omega⟩
    · exact absurd h4.2 (by simp)
  · rintro ⟨h1, h2⟩
    exact ⟨max (t.f0 - n) 0, at_tick.2 ⟨t.f0, at_keep.2 (.inl ⟨(mk_mem _ _).2 h1, rfl⟩), rfl, .inr (by omega)⟩⟩
theorem keeps_wy {g n : Int} (hn : 0 ≤ n) : wantsB (tickM ⟨g, true, t.f0, keepS [] (mns (mk l) []) 0⟩ n) a = (!decide (a ∈ l) && decide (n < t.f0)) := by
  rw [wantsB_L]
  have e : (true && decide (0 < mx (t.f0 - n) 0)) = decide (n < t.f0) := by
    rw [Bool.true_and, mx0]; exact decide_eq_decide.2 ⟨fun h => by omega, fun h => by omega⟩
  show wantsL (true && decide (0 < mx (t.f0 - n) 0)) (tickL (true && decide (0 < mx (t.f0 - n) 0)) n (keepS [] (mns (mk l) []) 0)) a = _
  rw [e, Bool.eq_iff_iff, Bool.and_eq_true, Bool.not_eq_true', decide_eq_false_iff_not, decide_eq_true_eq]
  have hr : Rise (mk l) := mk_rise l
  by_cases c : n < t.f0
  · rw [decide_eq_true c, wantsT]
    constructor
    · intro h
      refine ⟨fun hi => ?_, c⟩
      have := h 0 (at_tick.2 ⟨0, at_keep.2 (.inl ⟨(mns_mem hr List.Pairwise.nil a).2 ⟨(mk_mem _ _).2 hi, by simp⟩, rfl⟩), by omega, .inl rfl⟩)
      omega
    · rintro ⟨h1, _⟩ k hk
      obtain ⟨m, h2, _⟩ := at_tick.1 hk
      rcases at_keep.1 h2 with h4 | h4
      · exact absurd ((mk_mem _ _).1 ((mns_mem hr List.Pairwise.nil a).1 h4.1).1) h1
      · exact absurd h4.2 (by simp)
  · rw [decide_eq_false c, wantsF]
    constructor
    · rintro ⟨k, hk⟩
      obtain ⟨m, h2, h3, h5⟩ := at_tick.1 hk
      rcases at_keep.1 h2 with h4 | h4
      · rcases h5 with h5 | h5
        · exact absurd h5 (by simp)
        · omega
      · exact absurd h4.2 (by simp)
    · intro h; exact absurd h.2 c
theorem keeps_some {g n : Int} (hn : 0 ≤ n) : ((tickM ⟨g, true, t.f0, keepS [] (mns (mk l) []) 0⟩ n).f1 || decide (0 < (tickM ⟨g, true, t.f0, keepS [] (mns (mk l) []) 0⟩ n).f3.length)) = decide (n < t.f0) := by
  have e : (true && decide (0 < mx (t.f0 - n) 0)) = decide (n < t.f0) := by
    rw [Bool.true_and, mx0]; exact decide_eq_decide.2 ⟨fun h => by omega, fun h => by omega⟩
  show ((true && decide (0 < mx (t.f0 - n) 0)) || decide (0 < (tickL (true && decide (0 < mx (t.f0 - n) 0)) n (keepS [] (mns (mk l) []) 0)).length)) = _
  rw [e]
  by_cases c : n < t.f0
  · rw [decide_eq_true c]; rfl
  · rw [decide_eq_false c, Bool.false_or, decide_eq_false_iff_not]
    intro h
    obtain ⟨⟨b, k⟩, hk⟩ := List.exists_mem_of_length_pos h
    obtain ⟨m, h2, h3, h5⟩ := at_tick.1 hk
    rcases at_keep.1 h2 with h4 | h4
    · rcases h5 with h5 | h5
      · exact absurd h5 (by simp)
      · omega
    · exact absurd h4.2 (by simp)
end Go.Proofs.Ytbllchfgjginoaa
/-
  Contracts over flat values (chapter 08), for the laws' walks.
-/
namespace Go.Proofs.Ytbllchfgjginoaa
open Go.RowKit Go.Lib Go.Proofs.YtbllchfgjginoaaW.PrintWords Go.Proofs.Ytbllchfgjginoaa.PMe
set_option linter.unusedVariables false
set_option linter.unusedSimpArgs false
theorem MOk.le {x : S28} (h : MOk x) : x.f3.length ≤ 1000000 := by have := h.len; omega
variable {t : S23} {g lf g' lf' : Int} {ex ex' : Bool} {sr sr' : List S49}
theorem hear_flat {kind : Int} {l : List Int} {asks : List S46} {n : Nat} {err : Int} (hx : MOk ⟨g, ex, lf, sr⟩) (hm : l.length ≤ 1000) (h : hearR t ⟨g, ex, lf, sr⟩ kind l = (⟨g', ex', lf', sr'⟩, asks, err)) (h2 : asks.length = n) (A : Option Addr) (c : Nat) (B : Option Addr) (d : Nat) (w : World) (hr : Kd.C k49 w A sr.length sr) (hc : sr.length ≤ c) (hl : Kd.C (Kd.int .u32) w B l.length l) (hd : l.length ≤ d) :
    Calls Try.prog 12 #[.agg #[.int .i64 t.f0, .int .i64 t.f1], .agg #[.int .u32 g, .bool ex, .int .i64 lf, .slice A sr.length c], .int .u8 kind, .slice B l.length d] w fun e w' => ∃ A0 c0 A1 c1, e = .returned (.tuple #[.agg #[.int .u32 g', .bool ex', .int .i64 lf', .slice A0 sr'.length c0], .slice A1 n c1, .int .i64 err]) ∧ Kd.C k49 w' A0 sr'.length sr' ∧ sr'.length ≤ c0 ∧ Below w.heap.size w w' :=
  hear_view hx.sort (by have := hx.len; omega) hm h h2 A c B d w hr hc hl hd
theorem tick_flat {n : Int} (hx : MOk ⟨g, ex, lf, sr⟩) (hn : 0 ≤ n) (e : tickM ⟨g, ex, lf, sr⟩ n = ⟨g', ex', lf', sr'⟩) (A : Option Addr) (c : Nat) (w : World) (hr : Kd.C k49 w A sr.length sr) (hc : sr.length ≤ c) :
    Calls Try.prog 17 #[.agg #[.int .u32 g, .bool ex, .int .i64 lf, .slice A sr.length c], .int .i64 n] w fun e w' => ∃ A0 c0, e = .returned (.agg #[.int .u32 g', .bool ex', .int .i64 lf', .slice A0 sr'.length c0]) ∧ Kd.C k49 w' A0 sr'.length sr' ∧ sr'.length ≤ c0 ∧ Below w.heap.size w w' :=
  tick_any hx hn e A c w hr hc
theorem wants_flat {a : Int} {b : Bool} (hx : MOk ⟨g, ex, lf, sr⟩) (h : wantsB ⟨g, ex, lf, sr⟩ a = b) (A : Option Addr) (c : Nat) (w : World) (hr : Kd.C k49 w A sr.length sr) (hc : sr.length ≤ c) :
    Calls Try.prog 19 #[.agg #[.int .u32 g, .bool ex, .int .i64 lf, .slice A sr.length c], .int .u32 a] w fun e w' => e = .returned (.bool b) ∧ Below w.heap.size w w' :=
  wants_w hx.sort hx.le h A c w hr hc
theorem some_flat {b : Bool} (h : (ex || decide (0 < sr.length)) = b) (A : Option Addr) (c : Nat) (w : World) (hr : Kd.C k49 w A sr.length sr) (hc : sr.length ≤ c) :
    Calls Try.prog 20 #[.agg #[.int .u32 g, .bool ex, .int .i64 lf, .slice A sr.length c]] w fun e w' => e = .returned (.bool b) ∧ Below w.heap.size w w' :=
  some_w (x := ⟨g, ex, lf, sr⟩) h A c w hr hc
theorem right_flat {b : Bool} (h : b = true ↔ MOk ⟨g, ex, lf, sr⟩) (A : Option Addr) (c : Nat) (w : World) (hr : Kd.C k49 w A sr.length sr) (hc : sr.length ≤ c) :
    Calls Try.prog 11 #[.agg #[.int .u32 g, .bool ex, .int .i64 lf, .slice A sr.length c]] w fun e w' => e = .returned (.bool b) ∧ Below w.heap.size w w' :=
  right_w h A c w hr hc
end Go.Proofs.Ytbllchfgjginoaa
