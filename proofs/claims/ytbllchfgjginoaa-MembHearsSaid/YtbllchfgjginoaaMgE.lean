/-
  The document's answer for a record, in plain lists, and its small functions' contracts (chapter 08).
-/
import Derived.Test.YtbllchfgjginoaaMgP
import Derived.Test.YtbllchfgjginoaaMhA
namespace Go.Proofs.Ytbllchfgjginoaa
open Go.RowKit Go.Lib Go.Proofs.YtbllchfgjginoaaW.PrintWords Go.Proofs.Ytbllchfgjginoaa.PMe
set_option linter.unusedVariables false
set_option linter.unusedSimpArgs false
/-- The sources without time. -/
abbrev nS (xs : List S49) : List Int := thoseS (fun t => !decide (0 < t)) xs
theorem sets_loop (g lf : Int) (ex : Bool) (l : List S49) (hl : l.length ≤ 1000000) : ∀ n k (i : Nat) (a b : List Int), l.length ≤ i + n → n < k → i ≤ l.length → a.length ≤ i → b.length ≤ i →
    stolonref08_sets.l0 k a b i g ex lf l = some (a ++ xS (l.drop i), b ++ nS (l.drop i)) := by
  intro n
  induction n with
  | zero =>
    intro k i a b h1 h2 h3 h4 h5
    obtain ⟨k, rfl⟩ : ∃ k', k = k' + 1 := ⟨k - 1, by omega⟩
    rw [stolonref08_sets.l0, if_neg (by omega), List.drop_eq_nil_of_le (by omega)]
    simp [thoseS]
  | succ n ih =>
    intro k i a b h1 h2 h3 h4 h5
    obtain ⟨k, rfl⟩ : ∃ k', k = k' + 1 := ⟨k - 1, by omega⟩
    by_cases h : i < l.length
    · rw [stolonref08_sets.l0, if_pos (by omega), if_pos (by omega), rd49 l i h, List.drop_eq_getElem_cons h]
      by_cases c : 0 < l[i].f1
      · rw [if_pos c, if_pos (by omega), step64 i (by omega), ih k (i + 1) _ _ (by omega) (by omega) (by omega) (by simp; omega) (by omega)]
        unfold xS nS thoseS
        rw [List.filter_cons_of_pos (by simpa using c), List.filter_cons_of_neg (by simp [c]), List.map_cons, List.append_assoc]
        rfl
      · rw [if_neg c, if_pos (by omega), step64 i (by omega), ih k (i + 1) _ _ (by omega) (by omega) (by omega) (by omega) (by simp; omega)]
        unfold xS nS thoseS
        rw [List.filter_cons_of_neg (by simpa using c), List.filter_cons_of_pos (by simp [c]), List.map_cons, List.append_assoc]
        rfl
    · rw [stolonref08_sets.l0, if_neg (by omega), List.drop_eq_nil_of_le (by omega)]
      simp [thoseS]
/-- How long one is kept yet; below nought: it is none. -/
def leftL : List S49 → Int → Int
  | [], _ => -1
  | s :: l, a => if s.f0 = a then s.f1 else leftL l a
theorem left_loop (g lf a : Int) (ex : Bool) (l : List S49) (hl : l.length ≤ 1000000) : ∀ n k (i : Nat), l.length ≤ i + n → n < k → i ≤ l.length → stolonref08_left.l0 k a i g ex lf l = some (leftL (l.drop i) a) := by
  intro n
  induction n with
  | zero =>
    intro k i h1 h2 h3
    obtain ⟨k, rfl⟩ : ∃ k', k = k' + 1 := ⟨k - 1, by omega⟩
    rw [stolonref08_left.l0, if_neg (by omega), List.drop_eq_nil_of_le (by omega)]
    rfl
  | succ n ih =>
    intro k i h1 h2 h3
    obtain ⟨k, rfl⟩ : ∃ k', k = k' + 1 := ⟨k - 1, by omega⟩
    by_cases h : i < l.length
    · rw [stolonref08_left.l0, if_pos (by omega), if_pos (by omega), rd49 l i h, List.drop_eq_getElem_cons h]
      by_cases c : l[i].f0 = a
      · rw [if_pos c]; show _ = some (if _ then _ else _); rw [if_pos c]
      · rw [if_neg c, step64 i (by omega), ih k (i + 1) (by omega) (by omega) (by omega)]
        show _ = some (if _ then _ else _); rw [if_neg c]
    · rw [stolonref08_left.l0, if_neg (by omega), List.drop_eq_nil_of_le (by omega)]
      rfl
theorem left_some (g lf a : Int) (ex : Bool) (l : List S49) (hl : l.length ≤ 1000000) (k : Nat) (hk : l.length < k) : stolonref08_left.f k g ex lf l a = some (leftL l a) := left_loop g lf a ex l hl l.length k 0 (by omega) hk (by omega)
/-- A source with its time. -/
def hld1 (m : List S49) (time : Int) (sure : List Int) (keep a : Int) : S49 := ⟨a, if a ∈ sure then keep else if leftL m a < 0 then time else leftL m a⟩
def hld (m : List S49) (l : List Int) (time : Int) (sure : List Int) (keep : Int) : List S49 := l.map (hld1 m time sure keep)
theorem held_loop (g lf time keep : Int) (ex : Bool) (m : List S49) (l sure : List Int) (hm : m.length ≤ 100000) (hl : l.length ≤ 1000000) (hs : sure.length ≤ 100000) : ∀ n k (i : Nat) (acc : List S49), l.length ≤ i + n → n + 100001 < k → i ≤ l.length → acc.length ≤ i →
    stolonref08_held.l0 k l time sure keep acc i g ex lf m = some (acc ++ hld m (l.drop i) time sure keep) := by
  intro n
  induction n with
  | zero =>
    intro k i acc h1 h2 h3 h4
    obtain ⟨k, rfl⟩ : ∃ k', k = k' + 1 := ⟨k - 1, by omega⟩
    rw [stolonref08_held.l0, if_neg (by omega), List.drop_eq_nil_of_le (by omega)]
    simp [hld]
  | succ n ih =>
    intro k i acc h1 h2 h3 h4
    obtain ⟨k, rfl⟩ : ∃ k', k = k' + 1 := ⟨k - 1, by omega⟩
    by_cases h : i < l.length
    · have e : ∀ y : S49, y = hld1 m time sure keep l[i] → acc ++ [y] ++ hld m (l.drop (i + 1)) time sure keep = acc ++ hld m (l.drop i) time sure keep := by
        rintro y rfl
        rw [List.drop_eq_getElem_cons h, List.append_assoc]
        rfl
      have go : ∀ y : S49, y = hld1 m time sure keep l[i] → stolonref08_held.l0 k l time sure keep (acc ++ [y]) (wrap64 ((i : Int) + 1)) g ex lf m = some (acc ++ hld m (l.drop i) time sure keep) := by
        intro y hy
        rw [step64 i (by omega), ih k (i + 1) _ (by omega) (by omega) (by omega) (by simp; omega), e y hy]
      rw [stolonref08_held.l0, if_pos (by omega), if_pos (by omega), left_some _ _ _ _ _ (by omega) k (by omega), Option.bind_some, has6_some _ _ (by omega) k (by omega), rdI l i h]
      by_cases c : leftL m l[i] < 0
      · rw [if_pos c, Option.bind_some]
        by_cases d : l[i] ∈ sure
        · rw [decide_eq_true d, if_pos rfl, if_pos (by omega)]
          exact go _ (by unfold hld1; rw [if_pos d])
        · rw [decide_eq_false d, if_neg (by simp), if_pos (by omega)]
          exact go _ (by unfold hld1; rw [if_neg d, if_pos c])
      · rw [if_neg c, Option.bind_some]
        by_cases d : l[i] ∈ sure
        · rw [decide_eq_true d, if_pos rfl, if_pos (by omega)]
          exact go _ (by unfold hld1; rw [if_pos d])
        · rw [decide_eq_false d, if_neg (by simp), if_pos (by omega)]
          exact go _ (by unfold hld1; rw [if_neg d, if_neg c])
    · rw [stolonref08_held.l0, if_neg (by omega), List.drop_eq_nil_of_le (by omega)]
      simp [hld]
variable {g lf : Int} {ex : Bool} {sr : List S49} {w : World}
theorem sets_w (hn : sr.length ≤ 100000) (A : Option Addr) (c : Nat) (w : World) (hr : Kd.C k49 w A sr.length sr) (hc : sr.length ≤ c) :
    Calls Try.prog 46 #[.agg #[.int .u32 g, .bool ex, .int .i64 lf, .slice A sr.length c]] w fun e w' => ∃ v0 v1 : Value, e = .returned (.tuple #[v0, v1]) ∧ Kd.R (Kd.int .u32) 25 w' w.heap.size (fun _ => True) v0 (xS sr) ∧ Kd.R (Kd.int .u32) 25 w' w.heap.size (fun _ => True) v1 (nS sr) ∧ Below w.heap.size w w' := by
  refine (stolonref08_sets.calls (sr.length + 1) g ex lf A c sr _ _ w hr hc (sets_loop g lf ex sr (by omega) sr.length _ 0 [] [] (by omega) (by omega) (by omega) (Nat.le_refl _) (Nat.le_refl _))).mono fun e w' h => ?_
  obtain ⟨v0, v1, rfl, h0, h1, hB⟩ := h
  exact ⟨v0, v1, rfl, Kd.R_mono h0 (fun _ _ => trivial), Kd.R_mono h1 (fun _ _ => trivial), hB⟩
theorem held_w {l sure : List Int} {time keep : Int} (hn : sr.length ≤ 100000) (hl : l.length ≤ 100000) (hs : sure.length ≤ 100000) (A : Option Addr) (c : Nat) (B : Option Addr) (d : Nat) (C : Option Addr) (f : Nat) (w : World) (hr : Kd.C k49 w A sr.length sr) (hc : sr.length ≤ c) (hr1 : Kd.C (Kd.int .u32) w B l.length l) (hc1 : l.length ≤ d) (hr2 : Kd.C (Kd.int .u32) w C sure.length sure) (hc2 : sure.length ≤ f) :
    Calls Try.prog 48 #[.agg #[.int .u32 g, .bool ex, .int .i64 lf, .slice A sr.length c], .slice B l.length d, .int .i64 time, .slice C sure.length f, .int .i64 keep] w fun e w' => ∃ v : Value, e = .returned v ∧ Kd.R k49 49 w' w.heap.size (fun _ => True) v (hld sr l time sure keep) ∧ Below w.heap.size w w' :=
  stolonref08_held.calls (l.length + 100002) g ex lf A c sr B d l time C f sure keep _ w hr hc hr1 hc1 hr2 hc2 (held_loop g lf time keep ex sr l sure hn (by omega) hs l.length _ 0 [] (by omega) (by omega) (by omega) (Nat.le_refl _))
theorem held0_w {l : List Int} {time : Int} (hn : sr.length ≤ 100000) (hl : l.length ≤ 100000) (A : Option Addr) (c : Nat) (B : Option Addr) (d : Nat) (w : World) (hr : Kd.C k49 w A sr.length sr) (hc : sr.length ≤ c) (hr1 : Kd.C (Kd.int .u32) w B l.length l) (hc1 : l.length ≤ d) :
    Calls Try.prog 48 #[.agg #[.int .u32 g, .bool ex, .int .i64 lf, .slice A sr.length c], .slice B l.length d, .int .i64 time, .slice none 0 0, .int .i64 0] w fun e w' => ∃ v : Value, e = .returned v ∧ Kd.R k49 49 w' w.heap.size (fun _ => True) v (hld sr l time [] 0) ∧ Below w.heap.size w w' :=
  held_w (sure := []) hn hl (by simp) A c B d none 0 w hr hc hr1 hc1 (Kd.C_nil _ _) (Nat.le_refl _)
theorem union_w {a b : List Int} (ha : a.length + b.length ≤ 100000) (A : Option Addr) (c : Nat) (B : Option Addr) (d : Nat) (w : World) (hr : Kd.C (Kd.int .u32) w A a.length a) (hc : a.length ≤ c) (hs : Kd.C (Kd.int .u32) w B b.length b) (hd : b.length ≤ d) :
    Calls Try.prog 47 #[.slice A a.length c, .slice B b.length d] w fun e w' => ∃ v : Value, e = .returned v ∧ Kd.R (Kd.int .u32) 25 w' w.heap.size (fun _ => True) v (mk (a ++ b)) ∧ Below w.heap.size w w' :=
  stolonref06_Union.calls 30000000000 A c a B d b _ w hr hc hs hd (by
    unfold stolonref06_Union.f
    rw [Option.bind_some, if_pos (by simp only [List.length_nil]; omega), Option.bind_some, if_pos (by simp only [List.nil_append]; omega), List.nil_append, rmake_some _ (by rw [List.length_append]; omega) _ (Nat.le_refl _)]
    rfl)
theorem inter_w {a b : List Int} (ha : a.length ≤ 100000) (hb : b.length ≤ 100000) (ra : Rise a) (rb : Rise b) (A : Option Addr) (c : Nat) (B : Option Addr) (d : Nat) (w : World) (hr : Kd.C (Kd.int .u32) w A a.length a) (hc : a.length ≤ c) (hs : Kd.C (Kd.int .u32) w B b.length b) (hd : b.length ≤ d) :
    Calls Try.prog 50 #[.slice A a.length c, .slice B b.length d] w fun e w' => ∃ v : Value, e = .returned v ∧ Kd.R (Kd.int .u32) 25 w' w.heap.size (fun _ => True) v (int a b) ∧ Below w.heap.size w w' :=
  stolonref06_Inter.calls 1000000 A c a B d b _ w hr hc hs hd (rinter_some a b (by omega) (by omega) ra rb _ (by omega))
theorem minus_w {a b : List Int} (ha : a.length ≤ 100000) (hb : b.length ≤ 100000) (ra : Rise a) (rb : Rise b) (A : Option Addr) (c : Nat) (B : Option Addr) (d : Nat) (w : World) (hr : Kd.C (Kd.int .u32) w A a.length a) (hc : a.length ≤ c) (hs : Kd.C (Kd.int .u32) w B b.length b) (hd : b.length ≤ d) :
    Calls Try.prog 51 #[.slice A a.length c, .slice B b.length d] w fun e w' => ∃ v : Value, e = .returned v ∧ Kd.R (Kd.int .u32) 25 w' w.heap.size (fun _ => True) v (mns a b) ∧ Below w.heap.size w w' :=
  stolonref06_Minus.calls 1000000 A c a B d b _ w hr hc hs hd (rminus_some a b (by omega) (by omega) ra rb _ (by omega))
theorem make6_w {l : List Int} (hl : l.length ≤ 100000) (A : Option Addr) (c : Nat) (w : World) (hr : Kd.C (Kd.int .u32) w A l.length l) (hc : l.length ≤ c) :
    Calls Try.prog 30 #[.slice A l.length c] w fun e w' => ∃ v : Value, e = .returned v ∧ Kd.R (Kd.int .u32) 25 w' w.heap.size (fun _ => True) v (mk l) ∧ Below w.heap.size w w' :=
  stolonref06_Make.calls 30000000000 A c l _ w hr hc (rmake_some l hl _ (Nat.le_refl _))
/-! ### a record, as the document tells it -/
structure RH where
  srcs : List S49
  ex : Bool
  left : Int
  asks : List S46
def askR (h : RH) (g : Int) (l : List Int) (last : Int) : RH := ⟨askS last l h.srcs, h.ex, h.left, asksOf g l⟩
def plainR (t : S23) (g : Int) (sr : List S49) (kind : Int) (b : List Int) : RH :=
  if kind = 1 ∨ kind = 5 then ⟨hld sr (mk (xS sr ++ b)) 0 b t.f0, false, 0, []⟩
  else if kind = 2 then ⟨hld sr b 0 [] 0, true, t.f0, []⟩
  else if kind = 4 then askR ⟨hld sr b 0 [] 0, true, t.f0, []⟩ g (int (xS sr) b) t.f1
  else if kind = 6 then askR ⟨sr, false, 0, []⟩ g (int (xS sr) b) t.f1
  else askR ⟨hld sr (mk (xS sr ++ b)) 0 b t.f0, false, 0, []⟩ g (mns (xS sr) b) t.f1
def exceptR (t : S23) (g : Int) (lf : Int) (sr : List S49) (kind : Int) (b : List Int) : RH :=
  if kind = 1 ∨ kind = 5 then ⟨hld sr (mk (mk (xS sr ++ nS sr) ++ b)) 0 b t.f0, true, lf, []⟩
  else if kind = 2 then ⟨hld sr b t.f0 [] 0, true, t.f0, []⟩
  else if kind = 4 then askR ⟨hld sr b lf [] 0, true, t.f0, []⟩ g (mns b (nS sr)) t.f1
  else if kind = 6 then askR ⟨hld sr (mk (mk (xS sr ++ nS sr) ++ b)) lf [] 0, true, lf, []⟩ g (mns b (nS sr)) t.f1
  else ⟨askS t.f1 (mns (xS sr) b) (hld sr (mk (mk (xS sr ++ nS sr) ++ b)) 0 b t.f0), true, min lf t.f1, asksOf g (mns (xS sr) b) ++ [⟨g, []⟩]⟩
end Go.Proofs.Ytbllchfgjginoaa
/-
  What a record comes to is what the document tells (chapter 08).
-/
namespace Go.Proofs.Ytbllchfgjginoaa
open Go.RowKit Go.Lib Go.Proofs.YtbllchfgjginoaaW.PrintWords Go.Proofs.Ytbllchfgjginoaa.PMe
set_option linter.unusedVariables false
set_option linter.unusedSimpArgs false
theorem leftL_mem {xs : List S49} (h : SortH xs) {a n : Int} (hm : (⟨a, n⟩ : S49) ∈ xs) : leftL xs a = n := by
  induction xs with
  | nil => cases hm
  | cons s l ih =>
    have hs := List.pairwise_cons.1 h
    show (if s.f0 = a then s.f1 else leftL l a) = n
    rcases List.mem_cons.1 hm with e | e
    · subst e; rw [if_pos rfl]
    · have := hs.1 _ e
      rw [if_neg (by show ¬ s.f0 = a; have h1 : s.f0 < a := this; omega)]
      exact ih hs.2 e
theorem leftL_no {xs : List S49} {a : Int} (h : ∀ n, (⟨a, n⟩ : S49) ∉ xs) : leftL xs a = -1 := by
  induction xs with
  | nil => rfl
  | cons s l ih =>
    show (if s.f0 = a then s.f1 else leftL l a) = -1
    rw [if_neg (fun e => h s.f1 (by subst e; exact List.mem_cons_self)), ih (fun n hn => h n (List.mem_cons_of_mem _ hn))]
theorem hld_sort (m : List S49) {l : List Int} (time : Int) (sure : List Int) (keep : Int) (h : Rise l) : SortH (hld m l time sure keep) := by
  unfold SortH hld
  rw [List.pairwise_map]
  exact h
theorem at_hld {m : List S49} {l : List Int} {time : Int} {sure : List Int} {keep a n : Int} : (⟨a, n⟩ : S49) ∈ hld m l time sure keep ↔ a ∈ l ∧ n = if a ∈ sure then keep else if leftL m a < 0 then time else leftL m a := by
  unfold hld hld1
  rw [List.mem_map]
  constructor
  · rintro ⟨b, h1, e⟩
    injection e with e1 e2
    subst e1
    exact ⟨h1, e2.symm⟩
  · rintro ⟨h1, h2⟩
    exact ⟨a, h1, by rw [h2]⟩
theorem ext_at {xs ys : List S49} (h1 : SortH xs) (h2 : SortH ys) (h : ∀ a n, (⟨a, n⟩ : S49) ∈ xs ↔ (⟨a, n⟩ : S49) ∈ ys) : xs = ys := sortH_ext h1 h2 fun s => h s.f0 s.f1
/-- Those that are kept now, and whatever was. -/
theorem hld_keep {sr : List S49} (hs : SortH sr) (h0 : ∀ s ∈ sr, 0 ≤ s.f1) {b all : List Int} (hb : Rise all) (hall : ∀ a, a ∈ all ↔ a ∈ allS sr ∨ a ∈ b) (keep : Int) : keepS sr b keep = hld sr all 0 b keep := by
  refine ext_at (keep_sorted _ _ hs) (hld_sort _ _ _ _ hb) fun a n => ?_
  rw [at_keep, at_hld, hall]
  by_cases c : a ∈ b
  · rw [if_pos c]
    exact ⟨fun h => h.elim (fun h => ⟨.inr c, h.2⟩) (fun h => absurd c h.1), fun h => .inl ⟨c, h.2⟩⟩
  · rw [if_neg c]
    constructor
    · rintro (h | ⟨_, h⟩)
      · exact absurd h.1 c
      · have h1 := leftL_mem hs h
        have h2 : 0 ≤ n := h0 _ h
        exact ⟨.inl (at_all.2 ⟨n, h⟩), by rw [h1, if_neg (by omega)]⟩
    · rintro ⟨h | h, h2⟩
      · obtain ⟨k, hk⟩ := at_all.1 h
        have h1 := leftL_mem hs hk
        have h3 : 0 ≤ k := h0 _ hk
        rw [h1, if_neg (by omega)] at h2
        subst h2
        exact .inr ⟨c, hk⟩
      · exact absurd h c
/-- Those of a set alone: what isn't known has a time. -/
theorem hld_only {sr : List S49} (hs : SortH sr) (h0 : ∀ s ∈ sr, 0 ≤ s.f1) {b : List Int} (hb : Rise b) (time keep : Int) : keepS (onlyS sr b) (mns b (allS sr)) time = hld sr b time [] keep := by
  refine ext_at (keep_sorted _ _ (only_sorted hs _)) (hld_sort _ _ _ _ hb) fun a n => ?_
  rw [at_keep, at_hld, at_only, mns_mem hb (all_rise hs), if_neg (by simp)]
  by_cases c : a ∈ allS sr
  · obtain ⟨k, hk⟩ := at_all.1 c
    have h1 := leftL_mem hs hk
    have h3 : 0 ≤ k := h0 _ hk
    rw [h1, if_neg (by omega)]
    constructor
    · rintro (h | h)
      · exact absurd c h.1.2
      · exact ⟨h.2.1, one_time hs h.2.2 hk⟩
    · rintro ⟨h, rfl⟩
      exact .inr ⟨fun h2 => h2.2 c, h, hk⟩
  · have h1 := leftL_no (xs := sr) (a := a) (fun n hn => c (at_all.2 ⟨n, hn⟩))
    rw [h1, if_pos (by omega)]
    constructor
    · rintro (h | h)
      · exact ⟨h.1.1, h.2⟩
      · exact absurd (at_all.2 ⟨n, h.2.2⟩) c
    · rintro ⟨h, rfl⟩
      exact .inl ⟨⟨h, c⟩, rfl⟩
/-- All, and of a set what isn't known with a time. -/
theorem hld_new {sr : List S49} (hs : SortH sr) (h0 : ∀ s ∈ sr, 0 ≤ s.f1) {b all : List Int} (hb : Rise b) (hr : Rise all) (hall : ∀ a, a ∈ all ↔ a ∈ allS sr ∨ a ∈ b) (time keep : Int) : keepS sr (mns b (allS sr)) time = hld sr all time [] keep := by
  refine ext_at (keep_sorted _ _ hs) (hld_sort _ _ _ _ hr) fun a n => ?_
  rw [at_keep, at_hld, hall, mns_mem hb (all_rise hs), if_neg (by simp)]
  by_cases c : a ∈ allS sr
  · obtain ⟨k, hk⟩ := at_all.1 c
    have h1 := leftL_mem hs hk
    have h3 : 0 ≤ k := h0 _ hk
    rw [h1, if_neg (by omega)]
    constructor
    · rintro (h | h)
      · exact absurd c h.1.2
      · exact ⟨.inl c, one_time hs h.2 hk⟩
    · rintro ⟨_, rfl⟩
      exact .inr ⟨fun h2 => h2.2 c, hk⟩
  · have h1 := leftL_no (xs := sr) (a := a) (fun n hn => c (at_all.2 ⟨n, hn⟩))
    rw [h1, if_pos (by omega)]
    constructor
    · rintro (h | h)
      · exact ⟨.inr h.1.1, h.2⟩
      · exact absurd (at_all.2 ⟨n, h.2⟩) c
    · rintro ⟨h | h, rfl⟩
      · exact absurd h c
      · exact .inl ⟨⟨h, c⟩, rfl⟩
theorem y_n {sr : List S49} (h0 : ∀ s ∈ sr, 0 ≤ s.f1) : nS sr = yS sr := by
  unfold nS yS thoseS
  congr 1
  refine List.filter_congr fun s hs => ?_
  have := h0 s hs
  rw [Bool.eq_iff_iff]
  simp
  omega
theorem x_all {sr : List S49} (h0 : ∀ s ∈ sr, 0 < s.f1) : xS sr = allS sr := by
  unfold xS allS thoseS
  congr 1
  refine List.filter_congr fun s hs => ?_
  have := h0 s hs
  simp [this]
theorem at_n {a : Int} {xs : List S49} : a ∈ nS xs ↔ ∃ n, (⟨a, n⟩ : S49) ∈ xs ∧ ¬ 0 < n := by
  unfold nS thoseS
  rw [List.mem_map]
  constructor
  · rintro ⟨s, h, rfl⟩; exact ⟨s.f1, (List.mem_filter.1 h).1, by simpa using (List.mem_filter.1 h).2⟩
  · rintro ⟨n, h, h2⟩; exact ⟨_, List.mem_filter.2 ⟨h, by simpa using h2⟩, rfl⟩
theorem bothH_all (sr : List S49) (b : List Int) (a : Int) : a ∈ mk (mk (xS sr ++ nS sr) ++ b) ↔ a ∈ allS sr ∨ a ∈ b := by
  rw [mk_mem, List.mem_append, mk_mem, List.mem_append, at_x, at_n, at_all]
  constructor
  · rintro ((⟨n, h, _⟩ | ⟨n, h, _⟩) | h)
    · exact .inl ⟨n, h⟩
    · exact .inl ⟨n, h⟩
    · exact .inr h
  · rintro (⟨n, h⟩ | h)
    · by_cases c : 0 < n
      · exact .inl (.inl ⟨n, h, c⟩)
      · exact .inl (.inr ⟨n, h, c⟩)
    · exact .inr h
def refH (t : S23) (g lf : Int) (ex : Bool) (sr : List S49) (kind : Int) (b : List Int) : RH := if ex = true then exceptR t g lf sr kind b else plainR t g sr kind b
theorem askM_RH {m : WM} {g last : Int} {L : List Int} {h : RH} (h1 : m.srcs = h.srcs) (h2 : m.ex = h.ex) (h3 : m.left = h.left) (h4 : m.asks = []) (h5 : m.last = last) (h6 : m.g = g) : (askM m L).srcs = (askR h g L last).srcs ∧ (askM m L).ex = (askR h g L last).ex ∧ (askM m L).left = (askR h g L last).left ∧ (askM m L).asks = (askR h g L last).asks := by
  refine ⟨by rw [askM_srcs, h1, h5]; rfl, by rw [askM_ex]; exact h2, by rw [askM_left]; exact h3, by rw [askM_asks, h4, h6, List.nil_append]; rfl⟩
theorem ref_is {t : S23} {g lf : Int} {ex : Bool} {sr : List S49} {l : List Int} {kind : Int} (hx : MOk ⟨g, ex, lf, sr⟩) (hk : kind = 1 ∨ kind = 5 ∨ kind = 2 ∨ kind = 6 ∨ kind = 4 ∨ kind = 3) :
    (hearD t ⟨g, ex, lf, sr⟩ kind l).srcs = (refH t g lf ex sr kind (mk l)).srcs ∧ (hearD t ⟨g, ex, lf, sr⟩ kind l).ex = (refH t g lf ex sr kind (mk l)).ex ∧ (hearD t ⟨g, ex, lf, sr⟩ kind l).left = (refH t g lf ex sr kind (mk l)).left ∧ (hearD t ⟨g, ex, lf, sr⟩ kind l).asks = (refH t g lf ex sr kind (mk l)).asks := by
  have hs : SortH sr := hx.sort
  have hb : Rise (mk l) := mk_rise l
  have h0 : ∀ s ∈ sr, 0 ≤ s.f1 := fun s h => (hx.times s h).1
  have hi3 := toIn_is t ⟨g, ex, lf, sr⟩ l
  cases ex
  · have hp : ∀ s ∈ sr, 0 < s.f1 := fun s h => by
      have h1 := hx.times s h
      rcases Int.lt_or_eq_of_le h1.1 with h2 | h2
      · exact h2
      · exact absurd (h1.2.2 h2.symm) (by simp)
    have hl : lf = 0 := hx.inn rfl
    have hxa : xS sr = allS sr := x_all hp
    have hall : ∀ a, a ∈ mk (xS sr ++ mk l) ↔ a ∈ allS sr ∨ a ∈ mk l := fun a => by rw [mk_mem, List.mem_append, hxa]
    have hK := hld_keep hs h0 (mk_rise _) hall t.f0
    have hO := hld_only hs h0 hb 0 0
    show _ = (plainR t g sr kind (mk l)).srcs ∧ _ = (plainR t g sr kind (mk l)).ex ∧ _ = (plainR t g sr kind (mk l)).left ∧ _ = (plainR t g sr kind (mk l)).asks
    rcases hk with rfl | rfl | rfl | rfl | rfl | rfl
    · exact ⟨hK, rfl, hl, rfl⟩
    · exact ⟨hK, rfl, hl, rfl⟩
    · exact ⟨hO, rfl, rfl, rfl⟩
    · have e : plainR t g sr 6 (mk l) = askR ⟨sr, false, 0, []⟩ g (int (allS sr) (mk l)) t.f1 := by rw [← hxa]; rfl
      rw [e]
      exact askM_RH (m := hear0 t ⟨g, false, lf, sr⟩ l) rfl rfl hl rfl rfl rfl
    · have e : plainR t g sr 4 (mk l) = askR ⟨hld sr (mk l) 0 [] 0, true, t.f0, []⟩ g (int (allS sr) (mk l)) t.f1 := by rw [← hxa]; rfl
      rw [e]
      exact askM_RH (m := exceptM (hear0 t ⟨g, false, lf, sr⟩ l) 0) hO rfl rfl rfl rfl rfl
    · obtain ⟨b1, b2, b3, b4⟩ := hi3
      refine ⟨b3.trans ?_, b1, b2.trans hl, b4.trans (List.append_nil _)⟩
      show askS t.f1 (mns (xS sr) (mk l)) (keepS sr (mk l) t.f0) = _
      rw [hK]
      rfl
  · have hall := bothH_all sr (mk l)
    have hK := hld_keep hs h0 (mk_rise _) hall t.f0
    have hN := hld_new hs h0 hb (mk_rise _) hall lf 0
    have hyn : nS sr = yS sr := y_n h0
    show _ = (exceptR t g lf sr kind (mk l)).srcs ∧ _ = (exceptR t g lf sr kind (mk l)).ex ∧ _ = (exceptR t g lf sr kind (mk l)).left ∧ _ = (exceptR t g lf sr kind (mk l)).asks
    rcases hk with rfl | rfl | rfl | rfl | rfl | rfl
    · exact ⟨hK, rfl, rfl, rfl⟩
    · exact ⟨hK, rfl, rfl, rfl⟩
    · exact ⟨hld_only hs h0 hb t.f0 0, rfl, rfl, rfl⟩
    · have e : exceptR t g lf sr 6 (mk l) = askR ⟨hld sr (mk (mk (xS sr ++ nS sr) ++ mk l)) lf [] 0, true, lf, []⟩ g (mns (mk l) (yS sr)) t.f1 := by rw [← hyn]; rfl
      rw [e]
      exact askM_RH (m := { hear0 t ⟨g, true, lf, sr⟩ l with srcs := keepS sr (mns (mk l) (allS sr)) lf }) hN rfl rfl rfl rfl rfl
    · have e : exceptR t g lf sr 4 (mk l) = askR ⟨hld sr (mk l) lf [] 0, true, t.f0, []⟩ g (mns (mk l) (yS sr)) t.f1 := by rw [← hyn]; rfl
      rw [e]
      exact askM_RH (m := exceptM (hear0 t ⟨g, true, lf, sr⟩ l) lf) (hld_only hs h0 hb lf 0) rfl rfl rfl rfl rfl
    · obtain ⟨b1, b2, b3, b4⟩ := hi3
      refine ⟨b3.trans ?_, b1, b2, b4⟩
      show askS t.f1 (mns (xS sr) (mk l)) (keepS sr (mk l) t.f0) = _
      rw [hK]
      rfl
/-- What the document's Hear answers. -/
def refR (t : S23) (g lf : Int) (ex : Bool) (sr : List S49) (kind : Int) (l : List Int) : S28 × List S46 × Int :=
  if kind < 1 ∨ 6 < kind then (⟨g, ex, lf, sr⟩, [], 1)
  else if 64 < (refH t g lf ex sr kind (mk l)).srcs.length then (⟨g, ex, lf, sr⟩, [], 7)
  else (⟨g, (refH t g lf ex sr kind (mk l)).ex, (refH t g lf ex sr kind (mk l)).left, (refH t g lf ex sr kind (mk l)).srcs⟩, (refH t g lf ex sr kind (mk l)).asks, 0)
theorem ref_hear {t : S23} {g lf : Int} {ex : Bool} {sr : List S49} {l : List Int} {kind : Int} (ht : mayB t = true) (hx : MOk ⟨g, ex, lf, sr⟩) : hearR t ⟨g, ex, lf, sr⟩ kind l = refR t g lf ex sr kind l := by
  unfold hearR refR
  by_cases hk : kind = 1 ∨ kind = 5 ∨ kind = 2 ∨ kind = 6 ∨ kind = 4 ∨ kind = 3
  · obtain ⟨h1, h2, h3, h4⟩ := ref_is (t := t) (l := l) hx hk
    have hg : (hearD t ⟨g, ex, lf, sr⟩ kind l).g = g := (WRight.kind (m := hear0 t ⟨g, ex, lf, sr⟩ l) (g := g) ht ⟨rfl, rfl, rfl, hx.sort, hx.times, hx.ex, hx.inn⟩ kind).g
    rw [if_pos hk, if_neg (show ¬ (kind < 1 ∨ 6 < kind) by omega), h1, h2, h3, h4, hg]
  · rw [if_neg hk, if_pos (by omega)]
end Go.Proofs.Ytbllchfgjginoaa
