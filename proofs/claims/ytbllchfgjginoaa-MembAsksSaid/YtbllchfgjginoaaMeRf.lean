/- Texts of a claim. -/
import Derived.Test.YtbllchfgjginoaaPMe0
import Derived.Test.YtbllchfgjginoaaMeV
import Derived.Test.YtbllchfgjginoaaMeQ
import Derived.Test.YtbllchfgjginoaaPMf2
import Derived.Test.YtbllchfgjginoaaMeF
-- written by a program of this session (hprint.py), over the kit's printer
namespace Go.Proofs.Ytbllchfgjginoaa.PMe
open Go.RowKit Go.Proofs.YtbllchfgjginoaaW.PrintWords Go.Proofs.YtbllchfgjginoaaW.PrintLast Go.Proofs.YtbllchfgjginoaaW.PrintMore
attribute [local go_sem high] Go.Proofs.Ytbllchfgjginoaa.set2c Go.Proofs.Ytbllchfgjginoaa.set2f
attribute [local go_sem] max2_int min2_int max_two min_two max_three min_three max_four min_four   -- for this text's walks alone
set_option linter.unusedVariables false
set_option linter.unusedSimpArgs false

/-! ### memb_Tick: function 17 -/
end Go.Proofs.Ytbllchfgjginoaa.PMe
-- written by a program of this session (hprint.py), over the kit's printer
namespace Go.Proofs.Ytbllchfgjginoaa.PMe
open Go.RowKit Go.Proofs.YtbllchfgjginoaaW.PrintWords Go.Proofs.YtbllchfgjginoaaW.PrintLast Go.Proofs.YtbllchfgjginoaaW.PrintMore
attribute [local go_sem] max2_int min2_int max_two min_two max_three min_three max_four min_four   -- for this text's walks alone
set_option linter.unusedVariables false
set_option linter.unusedSimpArgs false

theorem eqA49 (d : Nat) (w : World) (x0 y0 : Int) (x1 y1 : Int) :
    (Op.equalIn (d + 2) 49 (.agg #[.int .u32 x0, .int .i64 x1]) (.agg #[.int .u32 y0, .int .i64 y1])).run Try.prog w = .ok (x0 == y0 && (x1 == y1)) w := by
  refine eqA_of Try.underlying49 (by kernel_rfl) ?_
  refine eqf_cons (by rfl) (by go_simp; rfl) (by go_simp; rfl) (by go_simp) ?_
  exact eqf_last (by rfl) (by go_simp; rfl) (by go_simp; rfl) (by go_simp)

attribute [local go_sem high] eqA49
/-! ### stolonref08_Same: function 14 -/
/-! ### stolonref06_Right: function 16 -/
def stolonref06_Right.l0 : Nat → List Int → Int → Option (Bool)
  | 0, _, _ => none
  | k + 1, x0, x3 => if x3 < (x0.length : Int) then (if 0 ≤ (wrap64 (x3 - 1)) then (if (wrap64 (x3 - 1)) < (x0.length : Int) then (if 0 ≤ x3 then (if (rd x0 (wrap64 (x3 - 1))) ≥ (rd x0 x3) then (some false) else (stolonref06_Right.l0 k x0 (wrap64 (x3 + 1)))) else (none)) else (none)) else (none)) else (some true)
def stolonref06_Right.f (k : Nat) (l0 : List Int) : Option (Bool) := stolonref06_Right.l0 k l0 1
theorem stolonref06_Right.mono_l : ∀ k, (∀ y0 y1, LeO (stolonref06_Right.l0 k y0 y1) (stolonref06_Right.l0 (k + 1) y0 y1))
  | 0 => fun _ _ r h => by simp [stolonref06_Right.l0] at h
  | k + 1 => by
    have ih0 := stolonref06_Right.mono_l k
    · intro y0 y1
      unfold stolonref06_Right.l0
      repeat' first
      | (with_reducible exact ih0 _ _)
      | (with_reducible exact LeO.refl _)
      | (with_reducible exact LeO.none _)
      | (with_reducible refine LeO.ite ?_ ?_)
      | (with_reducible refine LeO.bind ?_ (fun _ => ?_))
      | exact ih0 _ _
      | exact LeO.none _
      | refine LeO.ite ?_ ?_
      | refine LeO.bind ?_ (fun _ => ?_)
theorem stolonref06_Right.mono : ∀ a0 k, LeO (stolonref06_Right.f k a0) (stolonref06_Right.f (k + 1) a0) := by
  intro a0 k
  have ih0 := stolonref06_Right.mono_l k
  unfold stolonref06_Right.f
  repeat' first
      | (with_reducible exact ih0 _ _)
      | (with_reducible exact LeO.refl _)
      | (with_reducible exact LeO.none _)
      | (with_reducible refine LeO.ite ?_ ?_)
      | (with_reducible refine LeO.bind ?_ (fun _ => ?_))
      | exact ih0 _ _
      | exact LeO.none _
      | refine LeO.ite ?_ ?_
      | refine LeO.bind ?_ (fun _ => ?_)
set_option maxHeartbeats 8000000 in
set_option maxRecDepth 100000 in
theorem stolonref06_Right.calls (k : Nat) (A0 : Option Addr) (c0 : Nat) (l0 : List Int) (r : Bool) (w : World) (hr0 : Kd.C (Kd.int .u32) w A0 l0.length l0) (hc0 : l0.length ≤ c0) (h : stolonref06_Right.f k l0 = some r) :
    Calls Try.prog 16 #[.slice A0 l0.length c0] w fun e w' => e = .returned (.bool r) ∧ Drawn0 w w' := by
  have HR0 := Aside0.mk hr0
  have HC0 := Aside0.mk hc0
  clear hr0 hc0
  have H : (stolonref06_Right.l0 k l0 1) = some r := h
  clear h
  have H' := Aside0.mk H
  clear H
  go_enter Try.func16, Try.ntmps16
  go_wp2
  repeat (go_quiet (fail); try go_wp2)
  go_loopg [3] k (fun kq v3 w' => ∃ (x3_1 : Int), v3 = .int .i64 x3_1 ∧ Aside0 (stolonref06_Right.l0 kq l0 x3_1 = some r) ∧ Aside0 (kq ≤ k) ∧ Drawn0 w w')
  case atStart => exact ⟨(1), (by first | rfl | (simp; done) | (simp [*]; done)), H', ⟨Nat.le_refl _⟩, by repeat (first | exact Drawn0.refl _ | apply Drawn0.step)⟩
  case round =>
    clear H'
    try clear c1
    obtain ⟨x3_1, rfl, HA, HK1, ⟨m1, rfl⟩⟩ := hrel
    cases gk with
    | zero => exact absurd HA.out (by simp [stolonref06_Right.l0])
    | succ k1 =>
      have H := HA.out
      clear HA
      simp only [stolonref06_Right.l0] at H
      by_cases c2 : x3_1 < (l0.length : Int)
      · rw [if_pos c2] at H
        have c2b0 : decide (x3_1 < (l0.length : Int)) = true := decide_eq_true c2
        clear c2
        obtain ⟨ji3, hji3⟩ : ∃ j_ : Int, (wrap64 (x3_1 - 1)) = j_ := ⟨_, rfl⟩
        replace H : (if 0 ≤ (ji3) then (if (ji3) < (l0.length : Int) then (if 0 ≤ x3_1 then (if (rd l0 (ji3)) ≥ (rd l0 x3_1) then (some false) else (stolonref06_Right.l0 k1 l0 (wrap64 (x3_1 + 1)))) else (none)) else (none)) else (none)) = some r := by first | (rw [hji3] at H; exact H) | (simp only [hji3] at H ⊢; exact H)
        have hji3w : (IntKind.i64.wrap (x3_1 - 1)) = ji3 := (i64_w _).trans hji3
        by_cases c4 : 0 ≤ (ji3)
        · rw [if_pos c4] at H
          have c4b0 : decide (0 ≤ (ji3)) = true := decide_eq_true c4
          clear c4
          by_cases c5 : (ji3) < (l0.length : Int)
          · rw [if_pos c5] at H
            have c5b0 : decide ((ji3) < (l0.length : Int)) = true := decide_eq_true c5
            clear c5
            by_cases c6 : 0 ≤ x3_1
            · rw [if_pos c6] at H
              have c6b0 : decide (0 ≤ x3_1) = true := decide_eq_true c6
              clear c6
              by_cases c7 : (rd l0 (ji3)) ≥ (rd l0 x3_1)
              · rw [if_pos c7] at H
                have c7b0 : decide ((rd l0 x3_1) ≤ (rd l0 (ji3))) = true := decide_eq_true c7
                clear c7
                obtain rfl := Option.some.inj H
                have p130 : 0 ≤ ((ji3) : Int) := of_decide_eq_true (by first | (with_reducible assumption) | assumption)
                have q130 : (ji3) < (l0.length : Int) := of_decide_eq_true (by first | (with_reducible assumption) | assumption)
                obtain ⟨ad130, e130, hx130_0⟩ := Kd.at_int HR0.out (ji3) p130 q130
                cases e130
                replace p130 := eq_true p130
                replace q130 := eq_true q130
                have p131 : 0 ≤ (x3_1 : Int) := of_decide_eq_true (by first | (with_reducible assumption) | assumption)
                have q131 : x3_1 < (l0.length : Int) := of_decide_eq_true (by first | (with_reducible assumption) | assumption)
                obtain ⟨ad131, e131, hx131_0⟩ := Kd.at_int HR0.out x3_1 p131 q131
                obtain rfl : ad130 = ad131 := (by injection e131)
                replace p131 := eq_true p131
                replace q131 := eq_true q131
                go_wp2
                repeat (go_quiet (fail); try go_wp2)
                go_ret
                exact ⟨by first | rfl | (simp; done) | (simp only [← hji3] <;> (first | rfl | simp)) | (simp [*]; done), by repeat (first | exact Drawn0.refl _ | apply Drawn0.step)⟩
              · rw [if_neg c7] at H
                have c7b0 : decide ((rd l0 x3_1) ≤ (rd l0 (ji3))) = false := decide_eq_false c7
                clear c7
                have H' := Aside0.mk H
                clear H
                have p130 : 0 ≤ ((ji3) : Int) := of_decide_eq_true (by first | (with_reducible assumption) | assumption)
                have q130 : (ji3) < (l0.length : Int) := of_decide_eq_true (by first | (with_reducible assumption) | assumption)
                obtain ⟨ad130, e130, hx130_0⟩ := Kd.at_int HR0.out (ji3) p130 q130
                cases e130
                replace p130 := eq_true p130
                replace q130 := eq_true q130
                have p131 : 0 ≤ (x3_1 : Int) := of_decide_eq_true (by first | (with_reducible assumption) | assumption)
                have q131 : x3_1 < (l0.length : Int) := of_decide_eq_true (by first | (with_reducible assumption) | assumption)
                obtain ⟨ad131, e131, hx131_0⟩ := Kd.at_int HR0.out x3_1 p131 q131
                obtain rfl : ad130 = ad131 := (by injection e131)
                replace p131 := eq_true p131
                replace q131 := eq_true q131
                go_wp2
                repeat (go_quiet (fail); try go_wp2)
                go_roundg k1
                case measure => have := HK1.out; omega
                case rel => exact ⟨(wrap64 (x3_1 + 1)), (by first | rfl | (simp; done) | (simp [*]; done)), H', ⟨by have := HK1.out; omega⟩, by repeat (first | exact Drawn0.refl _ | apply Drawn0.step)⟩
            · rw [if_neg c6] at H
              exact absurd H (by simp)
          · rw [if_neg c5] at H
            exact absurd H (by simp)
        · rw [if_neg c4] at H
          exact absurd H (by simp)
      · rw [if_neg c2] at H
        have c2b0 : decide (x3_1 < (l0.length : Int)) = false := decide_eq_false c2
        clear c2
        obtain rfl := Option.some.inj H
        go_wp2
        repeat (go_quiet (fail); try go_wp2)
        go_ret
        exact ⟨by first | rfl | (simp; done) | (simp [*]; done), by repeat (first | exact Drawn0.refl _ | apply Drawn0.step)⟩

end Go.Proofs.Ytbllchfgjginoaa.PMe
/-
  What is right, what is had, wanted and the same, in plain lists (chapter 08).
-/
namespace Go.Proofs.Ytbllchfgjginoaa
open Go.RowKit Go.Lib Go.Proofs.YtbllchfgjginoaaW.PrintWords Go.Proofs.Ytbllchfgjginoaa.PMe
set_option linter.unusedVariables false
set_option linter.unusedSimpArgs false
/-- The j-th source is right beside the one ahead of it. -/
def goodH (ex : Bool) (l : List S49) (j : Nat) : Prop := 0 ≤ (rd_T49 l j).f1 ∧ (rd_T49 l j).f1 ≤ 1000000 ∧ ((rd_T49 l j).f1 = 0 → ex = true) ∧ (0 < j → (rd_T49 l ((j - 1 : Nat) : Int)).f0 < (rd_T49 l j).f0)
structure MOk (x : S28) : Prop where
  asked : 3758096640 ≤ x.f0 ∧ x.f0 ≤ 4026531839
  len : x.f3.length ≤ 64
  ex : x.f1 = true → 1 ≤ x.f2 ∧ x.f2 ≤ 1000000
  inn : x.f1 = false → x.f2 = 0
  all : ∀ j, j < x.f3.length → goodH x.f1 x.f3 j
theorem right_loop (g lf : Int) (ex : Bool) (l : List S49) (hl : l.length ≤ 64) : ∀ n k (i : Nat), l.length ≤ i + n → n < k → i ≤ l.length → ∃ b, stolonref08_Right.l0 k i g ex lf l = some b ∧ (b = true ↔ ∀ j, i ≤ j → j < l.length → goodH ex l j) := by
  intro n
  induction n with
  | zero =>
    intro k i h1 h2 h3
    obtain ⟨k, rfl⟩ : ∃ k', k = k' + 1 := ⟨k - 1, by omega⟩
    refine ⟨true, ?_, by simp; intro j h4 h5; omega⟩
    rw [stolonref08_Right.l0, if_neg (by omega)]
  | succ n ih =>
    intro k i h1 h2 h3
    obtain ⟨k, rfl⟩ : ∃ k', k = k' + 1 := ⟨k - 1, by omega⟩
    by_cases h4 : i < l.length
    · have nx : (∃ b, stolonref08_Right.l0 k (wrap64 ((i : Int) + 1)) g ex lf l = some b ∧ (b = true ↔ ∀ j, i + 1 ≤ j → j < l.length → goodH ex l j)) := by
        rw [step64 i (by omega)]
        exact ih k (i + 1) (by omega) (by omega) (by omega)
      have no : ∀ c : Option Bool, c = some false → ¬ goodH ex l i → ∃ b, c = some b ∧ (b = true ↔ ∀ j, i ≤ j → j < l.length → goodH ex l j) := fun c e h => ⟨false, e, by simp; exact ⟨i, Nat.le_refl _, h4, h⟩⟩
      have ye : ∀ c : Option Bool, c = stolonref08_Right.l0 k (wrap64 ((i : Int) + 1)) g ex lf l → goodH ex l i → ∃ b, c = some b ∧ (b = true ↔ ∀ j, i ≤ j → j < l.length → goodH ex l j) := by
        intro c e h
        obtain ⟨b, h5, h6⟩ := nx
        refine ⟨b, e.trans h5, h6.trans ⟨fun h7 j h8 h9 => ?_, fun h7 j h8 h9 => h7 j (by omega) h9⟩⟩
        by_cases e2 : j = i
        · subst e2; exact h
        · exact h7 j (by omega) h9
      rw [stolonref08_Right.l0, if_pos (by omega), if_pos (by omega)]
      by_cases c1 : (rd_T49 l i).f1 < 0
      · rw [if_pos c1]; exact no _ rfl (fun h => by have := h.1; omega)
      rw [if_neg c1]
      by_cases c2 : (rd_T49 l i).f1 > 1000000
      · rw [if_pos c2]; exact no _ rfl (fun h => by have := h.2.1; omega)
      rw [if_neg c2]
      by_cases c4 : (i : Int) > 0
      · have e1 : wrap64 ((i : Int) - 1) = ((i - 1 : Nat) : Int) := by rw [w64 (by omega) (by omega)]; omega
        by_cases c5 : (rd_T49 l i).f0 ≤ (rd_T49 l ((i - 1 : Nat) : Int)).f0
        · by_cases c3 : (rd_T49 l i).f1 = 0
          · rw [if_pos c3]
            by_cases c6 : ex = true
            · rw [if_pos c6, if_pos c4, e1, if_pos (by omega), if_pos (by omega), if_pos c5]; exact no _ rfl (fun h => by have := h.2.2.2 (by omega); omega)
            · rw [if_neg c6]; exact no _ rfl (fun h => c6 (h.2.2.1 c3))
          · rw [if_neg c3, if_pos c4, e1, if_pos (by omega), if_pos (by omega), if_pos c5]; exact no _ rfl (fun h => by have := h.2.2.2 (by omega); omega)
        · by_cases c3 : (rd_T49 l i).f1 = 0
          · rw [if_pos c3]
            by_cases c6 : ex = true
            · rw [if_pos c6, if_pos c4, e1, if_pos (by omega), if_pos (by omega), if_neg c5]; exact ye _ rfl ⟨by omega, by omega, fun _ => c6, fun _ => by omega⟩
            · rw [if_neg c6]; exact no _ rfl (fun h => c6 (h.2.2.1 c3))
          · rw [if_neg c3, if_pos c4, e1, if_pos (by omega), if_pos (by omega), if_neg c5]; exact ye _ rfl ⟨by omega, by omega, fun h => absurd h c3, fun _ => by omega⟩
      · by_cases c3 : (rd_T49 l i).f1 = 0
        · rw [if_pos c3]
          by_cases c6 : ex = true
          · rw [if_pos c6, if_neg c4]; exact ye _ rfl ⟨by omega, by omega, fun _ => c6, fun h => by omega⟩
          · rw [if_neg c6]; exact no _ rfl (fun h => c6 (h.2.2.1 c3))
        · rw [if_neg c3, if_neg c4]; exact ye _ rfl ⟨by omega, by omega, fun h => absurd h c3, fun h => by omega⟩
    · refine ⟨true, ?_, by simp; intro j h5 h6; omega⟩
      rw [stolonref08_Right.l0, if_neg (by omega)]
theorem right_some (x : S28) (k : Nat) (hk : 100 ≤ k) : ∃ b, stolonref08_Right.f k x.f0 x.f1 x.f2 x.f3 = some b ∧ (b = true ↔ MOk x) := by
  obtain ⟨k, rfl⟩ : ∃ k', k = k' + 1 := ⟨k - 1, by omega⟩
  obtain ⟨k, rfl⟩ : ∃ k', k = k' + 1 := ⟨k - 1, by omega⟩
  have no : ¬ MOk x → ∀ c : Option Bool, c = some false → ∃ b, c = some b ∧ (b = true ↔ MOk x) := fun h c e => ⟨false, e, by simp [h]⟩
  have f1 : ∀ k', stolonref08_Right.j0 (k' + 1) true x.f0 x.f1 x.f2 x.f3 = some false := fun k' => by rw [stolonref08_Right.j0, if_pos rfl]
  unfold stolonref08_Right.f stolonref01_Asked.f
  by_cases a1 : x.f0 ≥ 3758096640
  · rw [if_pos a1, Option.bind_some]
    by_cases a2 : x.f0 ≤ 4026531839
    · rw [if_pos (by simp [a2])]
      by_cases a3 : x.f3.length ≤ 64
      · rw [show decide ((x.f3.length : Int) > 64) = false from decide_eq_false (by omega), stolonref08_Right.j0, if_neg (by simp)]
        have j1t : stolonref08_Right.j1 (k + 1) true x.f0 x.f1 x.f2 x.f3 = some false := by rw [stolonref08_Right.j1, if_pos rfl]
        have j1f : stolonref08_Right.j1 (k + 1) false x.f0 x.f1 x.f2 x.f3 = stolonref08_Right.l0 k 0 x.f0 x.f1 x.f2 x.f3 := by rw [stolonref08_Right.j1, if_neg (by simp)]
        obtain ⟨b, h1, h2⟩ := right_loop x.f0 x.f2 x.f1 x.f3 a3 65 k 0 (by omega) (by omega) (by omega)
        have h1' : stolonref08_Right.l0 k 0 x.f0 x.f1 x.f2 x.f3 = some b := h1
        by_cases e : x.f1 = true
        · rw [if_pos e]
          by_cases b1 : x.f2 < 1
          · rw [if_pos b1]; exact no (fun h => by have := h.ex e; omega) _ j1t
          rw [if_neg b1]
          by_cases b2 : x.f2 > 1000000
          · rw [if_pos b2]; exact no (fun h => by have := h.ex e; omega) _ j1t
          rw [if_neg b2, j1f, h1']
          exact ⟨b, rfl, h2.trans ⟨fun h => ⟨⟨a1, a2⟩, a3, fun _ => ⟨by omega, by omega⟩, fun h' => by rw [e] at h'; simp at h', fun j hj => h j (Nat.zero_le _) hj⟩, fun h j _ hj => h.all j hj⟩⟩
        · rw [if_neg e]
          by_cases b1 : x.f2 = 0
          · rw [show (x.f2 != 0) = false by simp [b1], j1f, h1']
            exact ⟨b, rfl, h2.trans ⟨fun h => ⟨⟨a1, a2⟩, a3, fun h' => absurd h' e, fun _ => b1, fun j hj => h j (Nat.zero_le _) hj⟩, fun h j _ hj => h.all j hj⟩⟩
          · rw [show (x.f2 != 0) = true by simp [b1]]
            exact no (fun h => b1 (h.inn (by simpa using e))) _ j1t
      · rw [show decide ((x.f3.length : Int) > 64) = true from decide_eq_true (by omega)]
        exact no (fun h => a3 h.len) _ (f1 _)
    · rw [if_neg (by simp [a2])]
      exact no (fun h => a2 h.asked.2) _ (f1 _)
  · rw [if_neg a1, Option.bind_some, if_neg (by simp)]
    exact no (fun h => a1 h.asked.1) _ (f1 _)
theorem MOk.sort {x : S28} (h : MOk x) : SortH x.f3 := by
  unfold SortH
  rw [List.pairwise_iff_getElem]
  have main : ∀ d i, (hi : i + d + 1 < x.f3.length) → (rd_T49 x.f3 i).f0 < (rd_T49 x.f3 ((i + d + 1 : Nat) : Int)).f0 := by
    intro d
    induction d with
    | zero => intro i hi; have := (h.all (i + 0 + 1) hi).2.2.2 (by omega); simpa using this
    | succ d ih =>
      intro i hi
      have h1 := ih i (by omega)
      have h2 := (h.all (i + (d + 1) + 1) hi).2.2.2 (by omega)
      have e : i + (d + 1) + 1 - 1 = i + d + 1 := by omega
      rw [e] at h2
      omega
  intro i j hi hj hij
  have := main (j - i - 1) i (by omega)
  rw [show i + (j - i - 1) + 1 = j by omega, rd49 _ i hi, rd49 _ j hj] at this
  exact this
end Go.Proofs.Ytbllchfgjginoaa
/-
  What is wanted, what time does, and what is the same, in plain lists (chapter 08).
-/
namespace Go.Proofs.Ytbllchfgjginoaa
open Go.RowKit Go.Lib Go.Proofs.YtbllchfgjginoaaW.PrintWords Go.Proofs.Ytbllchfgjginoaa.PMe
set_option linter.unusedVariables false
set_option linter.unusedSimpArgs false
def wantsB (x : S28) (a : Int) : Bool := if x.f1 = true then x.f3.all (fun s => !decide (s.f0 = a) || decide (0 < s.f1)) else hasH x.f3 a
theorem posH_at {l : List S49} (hs : SortH l) {x : S49} (hx : x ∈ l) : posH l x.f0 < l.length ∧ rd_T49 l (posH l x.f0) = x := by
  have e := splitH_at hs hx
  have h1 : l[posH l x.f0]? = some x := by
    have := getH_mid (ltH l x.f0) (gtH l x.f0) x
    rw [← e] at this
    exact this
  obtain ⟨h2, h3⟩ := List.getElem?_eq_some_iff.1 h1
  exact ⟨h2, by rw [rd49 l _ h2, h3]⟩
theorem sortH_uniq {l : List S49} (hs : SortH l) {x y : S49} (hx : x ∈ l) (hy : y ∈ l) (he : x.f0 = y.f0) : x = y := by
  have h1 := (posH_at hs hx).2
  have h2 := (posH_at hs hy).2
  rw [he] at h1
  exact h1.symm.trans h2
theorem wants_some (x : S28) (a : Int) (hs : SortH x.f3) (hn : x.f3.length ≤ 1000000) : memb_Wants.f x.f0 x.f1 x.f2 x.f3 a = some (wantsB x a) := by
  unfold memb_Wants.f wantsB
  rw [memb_place.some hs hn, Option.bind_some]
  by_cases h1 : x.f1 = true
  · rw [if_pos h1, if_pos h1]
    dsimp only
    by_cases h2 : hasH x.f3 a = true
    · obtain ⟨s, h3, h4⟩ := hasH_iff.1 h2
      subst h4
      obtain ⟨h5, h6⟩ := posH_at hs h3
      rw [if_pos h2, if_pos (by omega), if_pos (by omega), h6]
      congr 1
      rw [Bool.eq_iff_iff, decide_eq_true_eq, List.all_eq_true]
      constructor
      · intro h7 y h8
        by_cases h9 : y.f0 = s.f0
        · rw [sortH_uniq hs h8 h3 h9]
          simp [h7]
        · simp [h9]
      · intro h7
        have := h7 s h3
        simpa using this
    · rw [if_neg h2]
      congr 1
      symm
      rw [List.all_eq_true]
      intro y h3
      have h4 : ¬ y.f0 = a := fun e => h2 (hasH_iff.2 ⟨y, h3, e⟩)
      simp [h4]
  · rw [if_neg h1, if_neg h1]
deriving instance DecidableEq for S49
end Go.Proofs.Ytbllchfgjginoaa
/-
  What the laws call, for their walks (chapter 08).
-/
namespace Go.Proofs.Ytbllchfgjginoaa
open Go.RowKit Go.Lib Go.Proofs.YtbllchfgjginoaaW.PrintWords Go.Proofs.YtbllchfgjginoaaW.PrintLast Go.Proofs.YtbllchfgjginoaaW.PrintMore Go.Proofs.Ytbllchfgjginoaa.PMe
set_option linter.unusedVariables false
set_option linter.unusedSimpArgs false
theorem hear_view {t : S23} {x r : S28} {kind : Int} {l : List Int} {asks : List S46} {n : Nat} {err : Int} (hs : SortH x.f3) (hn : x.f3.length ≤ 1000) (hm : l.length ≤ 1000) (h : hearR t x kind l = (r, asks, err)) (h2 : asks.length = n) (A : Option Addr) (c : Nat) (B : Option Addr) (d : Nat) (w : World) (hr : Kd.C k49 w A x.f3.length x.f3) (hc : x.f3.length ≤ c) (hl : Kd.C (Kd.int .u32) w B l.length l) (hd : l.length ≤ d) :
    Calls Try.prog 12 #[.agg #[.int .i64 t.f0, .int .i64 t.f1], .agg #[.int .u32 x.f0, .bool x.f1, .int .i64 x.f2, .slice A x.f3.length c], .int .u8 kind, .slice B l.length d] w fun e w' => ∃ A0 c0 A1 c1, e = .returned (.tuple #[.agg #[.int .u32 r.f0, .bool r.f1, .int .i64 r.f2, .slice A0 r.f3.length c0], .slice A1 n c1, .int .i64 err]) ∧ Kd.C k49 w' A0 r.f3.length r.f3 ∧ r.f3.length ≤ c0 ∧ Below w.heap.size w w' := by
  subst h2
  have hw := hear_w t x kind l hs hn hm A c B d w hr hc hl hd (fun k => k < w.heap.size) (fun _ h => h) (Kd.C_F k49_heap hr)
  rw [h] at hw
  refine hw.mono fun e w' hp => ?_
  obtain ⟨v0, v1, rfl, h0, h1, hB⟩ := hp
  obtain ⟨A0, c0, rfl⟩ := Kd.V_slice h0
  obtain ⟨A1, c1, rfl⟩ := Kd.V_slice h1
  exact ⟨A0, c0, A1, c1, rfl, (Kd.V_reads' h0).2.2, (Kd.V_reads' h0).2.1, hB⟩
theorem wants_w {x : S28} {a : Int} {b : Bool} (hs : SortH x.f3) (hn : x.f3.length ≤ 1000000) (h : wantsB x a = b) (A : Option Addr) (c : Nat) (w : World) (hr : Kd.C k49 w A x.f3.length x.f3) (hc : x.f3.length ≤ c) :
    Calls Try.prog 19 #[.agg #[.int .u32 x.f0, .bool x.f1, .int .i64 x.f2, .slice A x.f3.length c], .int .u32 a] w fun e w' => e = .returned (.bool b) ∧ Below w.heap.size w w' :=
  memb_Wants.calls _ _ _ A c _ _ _ w hr hc (h ▸ wants_some x a hs hn)
def someB (x : S28) : Bool := x.f1 || decide (0 < x.f3.length)
theorem some_w {x : S28} {b : Bool} (h : someB x = b) (A : Option Addr) (c : Nat) (w : World) (hr : Kd.C k49 w A x.f3.length x.f3) (hc : x.f3.length ≤ c) :
    Calls Try.prog 20 #[.agg #[.int .u32 x.f0, .bool x.f1, .int .i64 x.f2, .slice A x.f3.length c]] w fun e w' => e = .returned (.bool b) ∧ Below w.heap.size w w' :=
  memb_Some.calls _ _ _ A c _ _ w hr hc (by
    subst h
    unfold memb_Some.f someB
    cases x.f1
    · simp
    · simp)
theorem right_w {x : S28} {b : Bool} (h : b = true ↔ MOk x) (A : Option Addr) (c : Nat) (w : World) (hr : Kd.C k49 w A x.f3.length x.f3) (hc : x.f3.length ≤ c) :
    Calls Try.prog 11 #[.agg #[.int .u32 x.f0, .bool x.f1, .int .i64 x.f2, .slice A x.f3.length c]] w fun e w' => e = .returned (.bool b) ∧ Below w.heap.size w w' := by
  obtain ⟨b', h1, h2⟩ := right_some x 100 (Nat.le_refl _)
  have e : b' = b := Bool.eq_iff_iff.2 (h2.trans h.symm)
  subst e
  exact stolonref08_Right.calls 100 _ _ _ A c _ _ w hr hc h1
def mayB (t : S23) : Bool := decide (1 ≤ t.f1) && decide (t.f1 ≤ t.f0) && decide (t.f0 ≤ 1000000)
theorem mayR_w {t : S23} {b : Bool} (h : mayB t = b) (w : World) : Calls Try.prog 10 #[.agg #[.int .i64 t.f0, .int .i64 t.f1]] w fun e w' => e = .returned (.bool b) ∧ Below w.heap.size w w' :=
  stolonref08_May.calls _ _ _ w (by
    subst h
    unfold stolonref08_May.f mayB
    by_cases h1 : 1 ≤ t.f1
    · by_cases h2 : t.f1 ≤ t.f0
      · rw [if_pos h1, if_pos h2]; simp [h1, h2]
      · rw [if_pos h1, if_neg h2]; simp [h2]
    · rw [if_neg h1]; simp [h1])
theorem may_w {t : S23} {b : Bool} (h : mayB t = b) (w : World) : Calls Try.prog 21 #[.agg #[.int .i64 t.f0, .int .i64 t.f1]] w fun e w' => e = .returned (.bool b) ∧ Below w.heap.size w w' :=
  memb_May.calls _ _ _ w (by
    subst h
    unfold memb_May.f mayB
    by_cases h1 : 1 ≤ t.f1
    · by_cases h2 : t.f1 ≤ t.f0
      · rw [if_pos h1, if_pos h2]; simp [h1, h2]
      · rw [if_pos h1, if_neg h2]; simp [h2]
    · rw [if_neg h1]; simp [h1])
end Go.Proofs.Ytbllchfgjginoaa
/-
  The document's example for chapter 08.
-/
namespace Go.Proofs.Ytbllchfgjginoaa
open Go.RowKit Go.Lib Go.Proofs.YtbllchfgjginoaaW.PrintWords Go.Proofs.YtbllchfgjginoaaW.PrintLast Go.Proofs.YtbllchfgjginoaaW.PrintMore Go.Proofs.Ytbllchfgjginoaa.PMe
set_option linter.unusedVariables false
set_option linter.unusedSimpArgs false
theorem sort1 (x : S49) : SortH [x] := by unfold SortH; simp
theorem hear1st : hearR ⟨10, 2⟩ ⟨4009820675, false, 0, []⟩ 1 [5] = ((⟨4009820675, false, 0, [⟨5, 10⟩]⟩ : S28), [], 0) := by kernel_rfl
theorem hear0_w (B : Option Addr) (d : Nat) (w : World) (hl : Kd.C (Kd.int .u32) w B 1 [5]) (hd : 1 ≤ d) :
    Calls Try.prog 12 #[.agg #[.int .i64 10, .int .i64 2], .agg #[.int .u32 4009820675, .bool false, .int .i64 0, .slice none 0 0], .int .u8 1, .slice B 1 d] w fun e w' => ∃ A0 c0 A1 c1, e = .returned (.tuple #[.agg #[.int .u32 4009820675, .bool false, .int .i64 0, .slice A0 1 c0], .slice A1 0 c1, .int .i64 0]) ∧ Kd.C k49 w' A0 1 [⟨5, 10⟩] ∧ 1 ≤ c0 ∧ Below w.heap.size w w' :=
  hear_view (t := ⟨10, 2⟩) (x := ⟨4009820675, false, 0, []⟩) (kind := 1) (l := [5]) (r := (⟨4009820675, false, 0, [⟨5, 10⟩]⟩ : S28)) (asks := []) (n := 0) (err := 0) (by simp [SortH]) (by simp) (by simp) hear1st rfl none 0 B d w (Kd.C_nil _ _) (Nat.le_refl _) hl hd
theorem wants5_w (A : Option Addr) (c : Nat) (w : World) (hr : Kd.C k49 w A 1 [⟨5, 10⟩]) (hc : 1 ≤ c) : Calls Try.prog 19 #[.agg #[.int .u32 4009820675, .bool false, .int .i64 0, .slice A 1 c], .int .u32 5] w fun e w' => e = .returned (.bool true) ∧ Below w.heap.size w w' := wants_w (x := (⟨4009820675, false, 0, [⟨5, 10⟩]⟩ : S28)) (a := 5) (b := true) (sort1 _) (by simp) (by decide) A c w hr hc
theorem wants6_w (A : Option Addr) (c : Nat) (w : World) (hr : Kd.C k49 w A 1 [⟨5, 10⟩]) (hc : 1 ≤ c) : Calls Try.prog 19 #[.agg #[.int .u32 4009820675, .bool false, .int .i64 0, .slice A 1 c], .int .u32 6] w fun e w' => e = .returned (.bool false) ∧ Below w.heap.size w w' := wants_w (x := (⟨4009820675, false, 0, [⟨5, 10⟩]⟩ : S28)) (a := 6) (b := false) (sort1 _) (by simp) (by decide) A c w hr hc
theorem some0_w (A : Option Addr) (c : Nat) (w : World) (hr : Kd.C k49 w A 1 [⟨5, 10⟩]) (hc : 1 ≤ c) : Calls Try.prog 20 #[.agg #[.int .u32 4009820675, .bool false, .int .i64 0, .slice A 1 c]] w fun e w' => e = .returned (.bool true) ∧ Below w.heap.size w w' := some_w (x := (⟨4009820675, false, 0, [⟨5, 10⟩]⟩ : S28)) (b := true) (by decide) A c w hr hc
theorem may0_w (w : World) : Calls Try.prog 21 #[.agg #[.int .i64 10, .int .i64 2]] w fun e w' => e = .returned (.bool true) ∧ Below w.heap.size w w' := may_w (t := ⟨10, 2⟩) (b := true) (by decide) w
attribute [local go_sem high] eqA49
set_option maxHeartbeats 8000000 in
set_option maxRecDepth 100000 in
theorem shown_w (w : World) : Calls Try.prog 9 #[] w fun e w' => e = .returned (.bool true) ∧ Below w.heap.size w w' := by
  have hu23 := Try.underlying23
  have hu28 := Try.underlying28
  have hu49 := Try.underlying49
  have HB := Aside0.mk (Below.refl w.heap.size w)
  go_enter Try.func9, Try.ntmps9
  go_upto_region 2 with (first | ((with_reducible refine gate_dst (N := 1) rfl ?_); (try (refine gate_guard (by rfl) ?_; dsimp only)); refine box_event ?hg (N := 1) ?hd (cs := #[.int .i64 0, .int .i64 0]) (t := 23) ?hr ?_; (case hd => rfl); (case hg => rfl); (case hr => first | (go_simp; done) | (go_simp; rfl)); intro gt hg w1_ hbox hB0; have hG := Aside0.mk (show w.heap.size ≤ gt from Nat.le_of_eq hg.symm); clear hg; have hBX := Aside0.mk hbox; have hB1 := Aside0.mk hB0; clear hB0; have hc_gt_0 : w1_.cell? ⟨gt, 0, none⟩ = some (.int .i64 0) := (blk_cell hbox 0).trans rfl; have hf_gt_0 := blk_frozen hbox 0; have hc_gt_1 : w1_.cell? ⟨gt, 1, none⟩ = some (.int .i64 0) := (blk_cell hbox 1).trans rfl; have hf_gt_1 := blk_frozen hbox 1; clear hbox))
  have hB : Below w.heap.size w ((w1_.setCell ⟨gt, 0, none⟩ (.int .i64 10)).setCell ⟨gt, 1, none⟩ (.int .i64 2)) := (below_set (below_set hB1.out hG.out) hG.out)
  have hBN : ((w1_.setCell ⟨gt, 0, none⟩ (.int .i64 10)).setCell ⟨gt, 1, none⟩ (.int .i64 2)).heap[gt]? = some (.cells #[.int .i64 10, .int .i64 2] 23 (0, 0)) := (blk_put (cs := #[.int .i64 10, .int .i64 0]) (blk_put (cs := #[.int .i64 0, .int .i64 0]) hBX.out 0 (.int .i64 10) rfl) 1 (.int .i64 2) rfl)
  clear hBX hB1
  clear hc_gt_0 hf_gt_0 hc_gt_1 hf_gt_1
  generalize ((w1_.setCell ⟨gt, 0, none⟩ (.int .i64 10)).setCell ⟨gt, 1, none⟩ (.int .i64 2)) = w2_ at hB hBN ⊢
  have HBo := Aside0.mk HB.out
  have nHB := Aside0.mk (HB.out.trans (hB.mono HB.out.size))
  clear HB
  have HB := nHB
  clear nHB
  have BK_gt := Aside0.mk hBN
  have GE_gt := Aside0.mk (Nat.le_trans HBo.out.size hG.out)
  clear HBo hG hBN hB
  have hc_gt_0 : w2_.cell? ⟨gt, 0, none⟩ = some (.int .i64 10) := (blk_cell BK_gt.out 0).trans rfl
  have hf_gt_0 := blk_frozen BK_gt.out 0
  have hc_gt_1 : w2_.cell? ⟨gt, 1, none⟩ = some (.int .i64 2) := (blk_cell BK_gt.out 1).trans rfl
  have hf_gt_1 := blk_frozen BK_gt.out 1
  go_upto_region 3 with (first | ((with_reducible refine gate_dst (N := 9) rfl ?_); (try (refine gate_guard (by rfl) ?_; dsimp only)); refine Kd.R_lit (Kd.int .u32) _ 25 ?hg (N := 9) ?hd (xs := ([5] : List Int)) (inner := [.int .u32 5]) (ok := fun _ => True) (okp := fun _ => True) ?hr ?hp (fun _ hk => hk) trivial (Below.refl _ _) (Nat.le_refl _) (by simp) ?_; (case hd => rfl); (case hg => rfl); (case hr => first | (go_simp; done) | (go_simp; rfl)); (case hp => exact Reps.one (show Kd.M (Kd.int .u32) _ _ _ 5 [.int .u32 5] from rfl) (Reps.none _ _)); intro v_l w3_ hR hB hg_ hnew_; clear hg_ hnew_; obtain ⟨A_l, c_l, rfl⟩ : ∃ A c, v_l = .slice A 1 c := Kd.R_slice hR; have nHB := Aside0.mk (HB.out.trans (hB.mono HB.out.size)); clear HB; have HB := nHB; clear nHB; clear hc_gt_0 hf_gt_0 hc_gt_1 hf_gt_1; have nBK := Aside0.mk (blk_below (g := gt) (o := .cells #[.int .i64 10, .int .i64 2] 23 (0, 0)) BK_gt.out hB); clear BK_gt; have BK_gt := nBK; clear nBK; have hc_gt_0 : w3_.cell? ⟨gt, 0, none⟩ = some (.int .i64 10) := (blk_cell BK_gt.out 0).trans rfl; have hf_gt_0 := blk_frozen BK_gt.out 0; have hc_gt_1 : w3_.cell? ⟨gt, 1, none⟩ = some (.int .i64 2) := (blk_cell BK_gt.out 1).trans rfl; have hf_gt_1 := blk_frozen BK_gt.out 1; have HC_l := Aside0.mk (show Kd.C (Kd.int .u32) w3_ A_l 1 [5] from (Kd.R_reads' hR).2.2); have HK_l := Aside0.mk (show 1 ≤ c_l from (Kd.R_reads' hR).2.1); clear hR hB) | (go_at_call 12; (with_reducible refine (hear0_w A_l c_l _ HC_l.out HK_l.out).mono ?_); rintro e_ w4_ ⟨A_m, c_m, A_ma, c_ma, rfl, hC, hK, hB⟩; have nHB := Aside0.mk (HB.out.trans (hB.mono HB.out.size)); clear HB; have HB := nHB; clear nHB; clear hc_gt_0 hf_gt_0 hc_gt_1 hf_gt_1; have nBK := Aside0.mk (blk_below (g := gt) (o := .cells #[.int .i64 10, .int .i64 2] 23 (0, 0)) BK_gt.out hB); clear BK_gt; have BK_gt := nBK; clear nBK; have hc_gt_0 : w4_.cell? ⟨gt, 0, none⟩ = some (.int .i64 10) := (blk_cell BK_gt.out 0).trans rfl; have hf_gt_0 := blk_frozen BK_gt.out 0; have hc_gt_1 : w4_.cell? ⟨gt, 1, none⟩ = some (.int .i64 2) := (blk_cell BK_gt.out 1).trans rfl; have hf_gt_1 := blk_frozen BK_gt.out 1; have nHC := Aside0.mk (Kd.C_below HC_l.out hB); clear HC_l; have HC_l := nHC; clear nHC; have HC_m := Aside0.mk hC; have HK_m := Aside0.mk hK; clear hC hK hB) | ((with_reducible refine gate_dst (N := 2) rfl ?_); (try (refine gate_guard (by rfl) ?_; dsimp only)); refine box_event ?hg (N := 2) ?hd (cs := #[.int .u32 0, .bool false, .int .i64 0, .slice none 0 0]) (t := 28) ?hr ?_; (case hd => rfl); (case hg => rfl); (case hr => first | (go_simp; done) | (go_simp; rfl)); intro gm hg w5_ hbox hB0; have hG := Aside0.mk (show w4_.heap.size ≤ gm from Nat.le_of_eq hg.symm); clear hg; have hBX := Aside0.mk hbox; have hB1 := Aside0.mk hB0; clear hB0; have hc_gm_0 : w5_.cell? ⟨gm, 0, none⟩ = some (.int .u32 0) := (blk_cell hbox 0).trans rfl; have hf_gm_0 := blk_frozen hbox 0; have hc_gm_1 : w5_.cell? ⟨gm, 1, none⟩ = some (.bool false) := (blk_cell hbox 1).trans rfl; have hf_gm_1 := blk_frozen hbox 1; have hc_gm_2 : w5_.cell? ⟨gm, 2, none⟩ = some (.int .i64 0) := (blk_cell hbox 2).trans rfl; have hf_gm_2 := blk_frozen hbox 2; have hc_gm_3 : w5_.cell? ⟨gm, 3, none⟩ = some (.slice none 0 0) := (blk_cell hbox 3).trans rfl; have hf_gm_3 := blk_frozen hbox 3; clear hbox))
  have hB : Below w4_.heap.size w4_ ((((w5_.setCell ⟨gm, 0, none⟩ (.int .u32 4009820675)).setCell ⟨gm, 1, none⟩ (.bool false)).setCell ⟨gm, 2, none⟩ (.int .i64 0)).setCell ⟨gm, 3, none⟩ (.slice A_m 1 c_m)) := (below_set (below_set (below_set (below_set hB1.out hG.out) hG.out) hG.out) hG.out)
  have hBN : ((((w5_.setCell ⟨gm, 0, none⟩ (.int .u32 4009820675)).setCell ⟨gm, 1, none⟩ (.bool false)).setCell ⟨gm, 2, none⟩ (.int .i64 0)).setCell ⟨gm, 3, none⟩ (.slice A_m 1 c_m)).heap[gm]? = some (.cells #[.int .u32 4009820675, .bool false, .int .i64 0, .slice A_m 1 c_m] 28 (0, 0)) := (blk_put (cs := #[.int .u32 4009820675, .bool false, .int .i64 0, .slice none 0 0]) (blk_put (cs := #[.int .u32 4009820675, .bool false, .int .i64 0, .slice none 0 0]) (blk_put (cs := #[.int .u32 4009820675, .bool false, .int .i64 0, .slice none 0 0]) (blk_put (cs := #[.int .u32 0, .bool false, .int .i64 0, .slice none 0 0]) hBX.out 0 (.int .u32 4009820675) rfl) 1 (.bool false) rfl) 2 (.int .i64 0) rfl) 3 (.slice A_m 1 c_m) rfl)
  clear hBX hB1
  clear hc_gm_0 hf_gm_0 hc_gm_1 hf_gm_1 hc_gm_2 hf_gm_2 hc_gm_3 hf_gm_3
  generalize ((((w5_.setCell ⟨gm, 0, none⟩ (.int .u32 4009820675)).setCell ⟨gm, 1, none⟩ (.bool false)).setCell ⟨gm, 2, none⟩ (.int .i64 0)).setCell ⟨gm, 3, none⟩ (.slice A_m 1 c_m)) = w6_ at hB hBN ⊢
  have NB_gm_gt := Aside0.mk (show gm ≠ gt from Nat.ne_of_gt (Nat.lt_of_lt_of_le (blk_lt (g := gt) (o := .cells #[.int .i64 10, .int .i64 2] 23 (0, 0)) BK_gt.out) hG.out))
  have NB_gt_gm := Aside0.mk (Ne.symm NB_gm_gt.out)
  have HBo := Aside0.mk HB.out
  have nHB := Aside0.mk (HB.out.trans (hB.mono HB.out.size))
  clear HB
  have HB := nHB
  clear nHB
  clear hc_gt_0 hf_gt_0 hc_gt_1 hf_gt_1
  have nBK := Aside0.mk (blk_below (g := gt) (o := .cells #[.int .i64 10, .int .i64 2] 23 (0, 0)) BK_gt.out hB)
  clear BK_gt
  have BK_gt := nBK
  clear nBK
  have hc_gt_0 : w6_.cell? ⟨gt, 0, none⟩ = some (.int .i64 10) := (blk_cell BK_gt.out 0).trans rfl
  have hf_gt_0 := blk_frozen BK_gt.out 0
  have hc_gt_1 : w6_.cell? ⟨gt, 1, none⟩ = some (.int .i64 2) := (blk_cell BK_gt.out 1).trans rfl
  have hf_gt_1 := blk_frozen BK_gt.out 1
  have nHC := Aside0.mk (Kd.C_below HC_l.out hB)
  clear HC_l
  have HC_l := nHC
  clear nHC
  have nHC := Aside0.mk (Kd.C_below HC_m.out hB)
  clear HC_m
  have HC_m := nHC
  clear nHC
  have BK_gm := Aside0.mk hBN
  have GE_gm := Aside0.mk (Nat.le_trans HBo.out.size hG.out)
  clear HBo hG hBN hB
  have hc_gm_0 : w6_.cell? ⟨gm, 0, none⟩ = some (.int .u32 4009820675) := (blk_cell BK_gm.out 0).trans rfl
  have hf_gm_0 := blk_frozen BK_gm.out 0
  have hc_gm_1 : w6_.cell? ⟨gm, 1, none⟩ = some (.bool false) := (blk_cell BK_gm.out 1).trans rfl
  have hf_gm_1 := blk_frozen BK_gm.out 1
  have hc_gm_2 : w6_.cell? ⟨gm, 2, none⟩ = some (.int .i64 0) := (blk_cell BK_gm.out 2).trans rfl
  have hf_gm_2 := blk_frozen BK_gm.out 2
  have hc_gm_3 : w6_.cell? ⟨gm, 3, none⟩ = some (.slice A_m 1 c_m) := (blk_cell BK_gm.out 3).trans rfl
  have hf_gm_3 := blk_frozen BK_gm.out 3
  obtain ⟨ad, he_, hx0, hx1⟩ := at_T49 HC_m.out 0 (by decide) (by decide)
  subst he_
  have hx0' : w6_.cell? (ad.add (Int.toNat 0 * 2)) = some (.int .u32 5) := hx0
  have hx1' : w6_.cell? ⟨(ad.add (Int.toNat 0 * 2)).block, (ad.add (Int.toNat 0 * 2)).off + 1, none⟩ = some (.int .i64 10) := hx1
  have hx2 : w6_.cell? ad = some (.int .u32 5) := hx0'
  have hx3 : w6_.cell? ⟨ad.block, ad.off + 1, none⟩ = some (.int .i64 10) := hx1'
  clear hx0 hx1
  go_wp2_with (first | (go_at_call 19; with_reducible refine (wants5_w (some ad) c_m _ HC_m.out HK_m.out).mono ?_; rintro e w7_ ⟨rfl, hB⟩; have nHB := Aside0.mk (HB.out.trans (hB.mono HB.out.size)); clear HB; have HB := nHB; clear nHB; clear hc_gt_0 hf_gt_0 hc_gt_1 hf_gt_1; have nBK := Aside0.mk (blk_below (g := gt) (o := .cells #[.int .i64 10, .int .i64 2] 23 (0, 0)) BK_gt.out hB); clear BK_gt; have BK_gt := nBK; clear nBK; have hc_gt_0 : w7_.cell? ⟨gt, 0, none⟩ = some (.int .i64 10) := (blk_cell BK_gt.out 0).trans rfl; have hf_gt_0 := blk_frozen BK_gt.out 0; have hc_gt_1 : w7_.cell? ⟨gt, 1, none⟩ = some (.int .i64 2) := (blk_cell BK_gt.out 1).trans rfl; have hf_gt_1 := blk_frozen BK_gt.out 1; clear hc_gm_0 hf_gm_0 hc_gm_1 hf_gm_1 hc_gm_2 hf_gm_2 hc_gm_3 hf_gm_3; have nBK := Aside0.mk (blk_below (g := gm) (o := .cells #[.int .u32 4009820675, .bool false, .int .i64 0, .slice (some ad) 1 c_m] 28 (0, 0)) BK_gm.out hB); clear BK_gm; have BK_gm := nBK; clear nBK; have hc_gm_0 : w7_.cell? ⟨gm, 0, none⟩ = some (.int .u32 4009820675) := (blk_cell BK_gm.out 0).trans rfl; have hf_gm_0 := blk_frozen BK_gm.out 0; have hc_gm_1 : w7_.cell? ⟨gm, 1, none⟩ = some (.bool false) := (blk_cell BK_gm.out 1).trans rfl; have hf_gm_1 := blk_frozen BK_gm.out 1; have hc_gm_2 : w7_.cell? ⟨gm, 2, none⟩ = some (.int .i64 0) := (blk_cell BK_gm.out 2).trans rfl; have hf_gm_2 := blk_frozen BK_gm.out 2; have hc_gm_3 : w7_.cell? ⟨gm, 3, none⟩ = some (.slice (some ad) 1 c_m) := (blk_cell BK_gm.out 3).trans rfl; have hf_gm_3 := blk_frozen BK_gm.out 3; have nHC := Aside0.mk (Kd.C_below HC_l.out hB); clear HC_l; have HC_l := nHC; clear nHC; have nHC := Aside0.mk (Kd.C_below HC_m.out hB); clear HC_m; have HC_m := nHC; clear nHC; clear hB) | (go_at_call 19; with_reducible refine (wants6_w (some ad) c_m _ HC_m.out HK_m.out).mono ?_; rintro e w8_ ⟨rfl, hB⟩; have nHB := Aside0.mk (HB.out.trans (hB.mono HB.out.size)); clear HB; have HB := nHB; clear nHB; clear hc_gt_0 hf_gt_0 hc_gt_1 hf_gt_1; have nBK := Aside0.mk (blk_below (g := gt) (o := .cells #[.int .i64 10, .int .i64 2] 23 (0, 0)) BK_gt.out hB); clear BK_gt; have BK_gt := nBK; clear nBK; have hc_gt_0 : w8_.cell? ⟨gt, 0, none⟩ = some (.int .i64 10) := (blk_cell BK_gt.out 0).trans rfl; have hf_gt_0 := blk_frozen BK_gt.out 0; have hc_gt_1 : w8_.cell? ⟨gt, 1, none⟩ = some (.int .i64 2) := (blk_cell BK_gt.out 1).trans rfl; have hf_gt_1 := blk_frozen BK_gt.out 1; clear hc_gm_0 hf_gm_0 hc_gm_1 hf_gm_1 hc_gm_2 hf_gm_2 hc_gm_3 hf_gm_3; have nBK := Aside0.mk (blk_below (g := gm) (o := .cells #[.int .u32 4009820675, .bool false, .int .i64 0, .slice (some ad) 1 c_m] 28 (0, 0)) BK_gm.out hB); clear BK_gm; have BK_gm := nBK; clear nBK; have hc_gm_0 : w8_.cell? ⟨gm, 0, none⟩ = some (.int .u32 4009820675) := (blk_cell BK_gm.out 0).trans rfl; have hf_gm_0 := blk_frozen BK_gm.out 0; have hc_gm_1 : w8_.cell? ⟨gm, 1, none⟩ = some (.bool false) := (blk_cell BK_gm.out 1).trans rfl; have hf_gm_1 := blk_frozen BK_gm.out 1; have hc_gm_2 : w8_.cell? ⟨gm, 2, none⟩ = some (.int .i64 0) := (blk_cell BK_gm.out 2).trans rfl; have hf_gm_2 := blk_frozen BK_gm.out 2; have hc_gm_3 : w8_.cell? ⟨gm, 3, none⟩ = some (.slice (some ad) 1 c_m) := (blk_cell BK_gm.out 3).trans rfl; have hf_gm_3 := blk_frozen BK_gm.out 3; have nHC := Aside0.mk (Kd.C_below HC_l.out hB); clear HC_l; have HC_l := nHC; clear nHC; have nHC := Aside0.mk (Kd.C_below HC_m.out hB); clear HC_m; have HC_m := nHC; clear nHC; clear hB) | (go_at_call 20; with_reducible refine (some0_w (some ad) c_m _ HC_m.out HK_m.out).mono ?_; rintro e w9_ ⟨rfl, hB⟩; have nHB := Aside0.mk (HB.out.trans (hB.mono HB.out.size)); clear HB; have HB := nHB; clear nHB; clear hc_gt_0 hf_gt_0 hc_gt_1 hf_gt_1; have nBK := Aside0.mk (blk_below (g := gt) (o := .cells #[.int .i64 10, .int .i64 2] 23 (0, 0)) BK_gt.out hB); clear BK_gt; have BK_gt := nBK; clear nBK; have hc_gt_0 : w9_.cell? ⟨gt, 0, none⟩ = some (.int .i64 10) := (blk_cell BK_gt.out 0).trans rfl; have hf_gt_0 := blk_frozen BK_gt.out 0; have hc_gt_1 : w9_.cell? ⟨gt, 1, none⟩ = some (.int .i64 2) := (blk_cell BK_gt.out 1).trans rfl; have hf_gt_1 := blk_frozen BK_gt.out 1; clear hc_gm_0 hf_gm_0 hc_gm_1 hf_gm_1 hc_gm_2 hf_gm_2 hc_gm_3 hf_gm_3; have nBK := Aside0.mk (blk_below (g := gm) (o := .cells #[.int .u32 4009820675, .bool false, .int .i64 0, .slice (some ad) 1 c_m] 28 (0, 0)) BK_gm.out hB); clear BK_gm; have BK_gm := nBK; clear nBK; have hc_gm_0 : w9_.cell? ⟨gm, 0, none⟩ = some (.int .u32 4009820675) := (blk_cell BK_gm.out 0).trans rfl; have hf_gm_0 := blk_frozen BK_gm.out 0; have hc_gm_1 : w9_.cell? ⟨gm, 1, none⟩ = some (.bool false) := (blk_cell BK_gm.out 1).trans rfl; have hf_gm_1 := blk_frozen BK_gm.out 1; have hc_gm_2 : w9_.cell? ⟨gm, 2, none⟩ = some (.int .i64 0) := (blk_cell BK_gm.out 2).trans rfl; have hf_gm_2 := blk_frozen BK_gm.out 2; have hc_gm_3 : w9_.cell? ⟨gm, 3, none⟩ = some (.slice (some ad) 1 c_m) := (blk_cell BK_gm.out 3).trans rfl; have hf_gm_3 := blk_frozen BK_gm.out 3; have nHC := Aside0.mk (Kd.C_below HC_l.out hB); clear HC_l; have HC_l := nHC; clear nHC; have nHC := Aside0.mk (Kd.C_below HC_m.out hB); clear HC_m; have HC_m := nHC; clear nHC; clear hB) | (go_at_call 21; with_reducible refine (may0_w _).mono ?_; rintro e w10_ ⟨rfl, hB⟩; have nHB := Aside0.mk (HB.out.trans (hB.mono HB.out.size)); clear HB; have HB := nHB; clear nHB; clear hc_gt_0 hf_gt_0 hc_gt_1 hf_gt_1; have nBK := Aside0.mk (blk_below (g := gt) (o := .cells #[.int .i64 10, .int .i64 2] 23 (0, 0)) BK_gt.out hB); clear BK_gt; have BK_gt := nBK; clear nBK; have hc_gt_0 : w10_.cell? ⟨gt, 0, none⟩ = some (.int .i64 10) := (blk_cell BK_gt.out 0).trans rfl; have hf_gt_0 := blk_frozen BK_gt.out 0; have hc_gt_1 : w10_.cell? ⟨gt, 1, none⟩ = some (.int .i64 2) := (blk_cell BK_gt.out 1).trans rfl; have hf_gt_1 := blk_frozen BK_gt.out 1; clear hc_gm_0 hf_gm_0 hc_gm_1 hf_gm_1 hc_gm_2 hf_gm_2 hc_gm_3 hf_gm_3; have nBK := Aside0.mk (blk_below (g := gm) (o := .cells #[.int .u32 4009820675, .bool false, .int .i64 0, .slice (some ad) 1 c_m] 28 (0, 0)) BK_gm.out hB); clear BK_gm; have BK_gm := nBK; clear nBK; have hc_gm_0 : w10_.cell? ⟨gm, 0, none⟩ = some (.int .u32 4009820675) := (blk_cell BK_gm.out 0).trans rfl; have hf_gm_0 := blk_frozen BK_gm.out 0; have hc_gm_1 : w10_.cell? ⟨gm, 1, none⟩ = some (.bool false) := (blk_cell BK_gm.out 1).trans rfl; have hf_gm_1 := blk_frozen BK_gm.out 1; have hc_gm_2 : w10_.cell? ⟨gm, 2, none⟩ = some (.int .i64 0) := (blk_cell BK_gm.out 2).trans rfl; have hf_gm_2 := blk_frozen BK_gm.out 2; have hc_gm_3 : w10_.cell? ⟨gm, 3, none⟩ = some (.slice (some ad) 1 c_m) := (blk_cell BK_gm.out 3).trans rfl; have hf_gm_3 := blk_frozen BK_gm.out 3; have nHC := Aside0.mk (Kd.C_below HC_l.out hB); clear HC_l; have HC_l := nHC; clear nHC; have nHC := Aside0.mk (Kd.C_below HC_m.out hB); clear HC_m; have HC_m := nHC; clear nHC; clear hB))
  go_ret
  exact ⟨rfl, HB.out⟩
end Go.Proofs.Ytbllchfgjginoaa
/-
  What comes of a record, in plain lists (chapter 08).
-/
namespace Go.Proofs.Ytbllchfgjginoaa
open Go.RowKit Go.Lib Go.Proofs.YtbllchfgjginoaaW.PrintWords Go.Proofs.Ytbllchfgjginoaa.PMe
set_option linter.unusedVariables false
set_option linter.unusedSimpArgs false
theorem mem_keep (left : Int) (s : S49) : ∀ (l : List Int) (srcs : List S49), s ∈ keepS srcs l left ↔ (s.f0 ∈ l ∧ s.f1 = left) ∨ (s.f0 ∉ l ∧ s ∈ srcs) := by
  intro l
  induction l with
  | nil => intro srcs; simp [keepS]
  | cons a l ih =>
    intro srcs
    have e : keepS srcs (a :: l) left = keepS (insH srcs ⟨a, left⟩) l left := rfl
    rw [e, ih, mem_insH]
    simp only [List.mem_cons]
    constructor
    · rintro (⟨h1, h2⟩ | ⟨h1, rfl | ⟨h2, h3⟩⟩)
      · exact .inl ⟨.inr h1, h2⟩
      · exact .inl ⟨.inl rfl, rfl⟩
      · exact .inr ⟨fun h => h.elim h3 h1, h2⟩
    · rintro (⟨h1 | h1, h2⟩ | ⟨h1, h2⟩)
      · by_cases h3 : s.f0 ∈ l
        · exact .inl ⟨h3, h2⟩
        · refine .inr ⟨h3, .inl ?_⟩
          cases s
          dsimp only at h1 h2
          rw [h1, h2]
      · exact .inl ⟨h1, h2⟩
      · exact .inr ⟨fun h => h1 (.inr h), .inr ⟨h2, fun h => h1 (.inl h)⟩⟩
/-- The times of sources are right. -/
def TOk (ex : Bool) (l : List S49) : Prop := ∀ s ∈ l, 0 ≤ s.f1 ∧ s.f1 ≤ 1000000 ∧ (s.f1 = 0 → ex = true)
theorem MOk.times {x : S28} (h : MOk x) : TOk x.f1 x.f3 := by
  intro s hs
  obtain ⟨i, hi, rfl⟩ := List.getElem_of_mem hs
  have := h.all i hi
  unfold goodH at this
  rw [rd49 _ i hi] at this
  exact ⟨this.1, this.2.1, this.2.2.1⟩
theorem MOk.of {x : S28} (h1 : 3758096640 ≤ x.f0 ∧ x.f0 ≤ 4026531839) (h2 : x.f3.length ≤ 64) (h3 : x.f1 = true → 1 ≤ x.f2 ∧ x.f2 ≤ 1000000) (h4 : x.f1 = false → x.f2 = 0) (h5 : SortH x.f3) (h6 : TOk x.f1 x.f3) : MOk x := by
  refine ⟨h1, h2, h3, h4, fun j hj => ?_⟩
  unfold goodH
  rw [rd49 _ j hj]
  have h7 := h6 _ (List.getElem_mem hj)
  refine ⟨h7.1, h7.2.1, h7.2.2, fun h8 => ?_⟩
  rw [rd49 _ (j - 1) (by omega)]
  exact (List.pairwise_iff_getElem.1 h5) (j - 1) j (by omega) hj (by omega)
theorem TOk.keep {ex : Bool} {xs : List S49} (h : TOk ex xs) (l : List Int) {left : Int} (h1 : 0 ≤ left ∧ left ≤ 1000000) (h2 : left = 0 → ex = true) : TOk ex (keepS xs l left) := by
  intro s hs
  rcases (mem_keep left s l xs).1 hs with h3 | h3
  · rw [h3.2]; exact ⟨h1.1, h1.2, h2⟩
  · exact h s h3.2
theorem TOk.mono {ex : Bool} {xs : List S49} (h : TOk ex xs) : TOk true xs := fun s hs => ⟨(h s hs).1, (h s hs).2.1, fun _ => rfl⟩
theorem TOk.only {ex : Bool} {xs : List S49} (h : TOk ex xs) (l : List Int) : TOk ex (onlyS xs l) := fun s hs => h s ((List.mem_filter.1 hs).1)
theorem TOk.ask {ex : Bool} {xs : List S49} (h : TOk ex xs) {last : Int} (h1 : 1 ≤ last) (l : List Int) : TOk ex (askS last l xs) := by
  intro s hs
  obtain ⟨y, h2, h3⟩ := List.mem_map.1 hs
  have h4 := h y h2
  subst h3
  unfold ask1
  split
  · dsimp only
    refine ⟨by omega, by omega, fun h5 => h4.2.2 (by omega)⟩
  · exact h4
theorem ask_sort {xs : List S49} (h : SortH xs) (last : Int) (l : List Int) : SortH (askS last l xs) := by
  unfold SortH at *
  unfold askS
  rw [List.pairwise_map]
  refine h.imp fun {a b} hab => ?_
  unfold ask1
  split <;> split <;> exact hab
/-- A work that is right but for how many sources it has. -/
structure WRight (t : S23) (g : Int) (m : WM) : Prop where
  g : m.g = g
  keep : m.keep = t.f0
  last : m.last = t.f1
  s : SortH m.srcs
  t : TOk m.ex m.srcs
  ex : m.ex = true → 1 ≤ m.left ∧ m.left ≤ 1000000
  inn : m.ex = false → m.left = 0
theorem may_iff {t : S23} : mayB t = true ↔ 1 ≤ t.f1 ∧ t.f1 ≤ t.f0 ∧ t.f0 ≤ 1000000 := by
  unfold mayB
  rw [Bool.and_eq_true, Bool.and_eq_true, decide_eq_true_eq, decide_eq_true_eq, decide_eq_true_eq, and_assoc]
variable {t : S23} {g : Int} {m : WM}
theorem WRight.allow (ht : mayB t = true) (h : WRight t g m) : WRight t g (allowM m) := by
  have h1 := may_iff.1 ht
  exact ⟨h.g, h.keep, h.last, keep_sorted _ _ h.s, h.t.keep _ (by rw [h.keep]; omega) (by rw [h.keep]; intro h2; omega), h.ex, h.inn⟩
theorem WRight.except (ht : mayB t = true) (h : WRight t g m) {left : Int} (hl : 0 ≤ left ∧ left ≤ 1000000) : WRight t g (exceptM m left) := by
  have h1 := may_iff.1 ht
  exact ⟨h.g, h.keep, h.last, keep_sorted _ _ (only_sorted h.s _), (h.t.mono.only _).keep _ hl (fun _ => rfl), fun _ => by show 1 ≤ m.keep ∧ m.keep ≤ 1000000; rw [h.keep]; omega, fun h2 => by simp [exceptM] at h2⟩
theorem WRight.ask (ht : mayB t = true) (h : WRight t g m) (l : List Int) : WRight t g (askM m l) := by
  have h1 := may_iff.1 ht
  unfold askM
  split
  · exact h
  · exact ⟨h.g, h.keep, h.last, ask_sort h.s _ _, h.t.ask (by rw [h.last]; exact h1.1) _, h.ex, h.inn⟩
theorem WRight.isEx (ht : mayB t = true) (h : WRight t g m) : WRight t g (isExM m) := by
  have h1 := may_iff.1 ht
  unfold isExM
  split
  · exact h.except ht (by rw [h.keep]; omega)
  · exact h.except ht (by omega)
theorem WRight.block (ht : mayB t = true) (h : WRight t g m) : WRight t g (blockM m) := by
  have h1 := may_iff.1 ht
  unfold blockM
  split
  · rename_i he
    have h2 := h.ex he
    refine WRight.ask ht ?_ _
    exact ⟨h.g, h.keep, h.last, keep_sorted _ _ h.s, h.t.keep _ (by omega) (fun h3 => by omega), h.ex, h.inn⟩
  · exact h.ask ht _
theorem WRight.toEx (ht : mayB t = true) (h : WRight t g m) : WRight t g (toExM m) := by
  have h1 := may_iff.1 ht
  unfold toExM
  split
  · rename_i he
    have h2 := h.ex he
    exact (h.except ht (by omega)).ask ht _
  · exact (h.except ht (by omega)).ask ht _
theorem WRight.toIn (ht : mayB t = true) (h : WRight t g m) : WRight t g (toInM m) := by
  have h1 := may_iff.1 ht
  have h2 := (h.allow ht).ask ht (mns (xS m.srcs) m.b)
  unfold toInM
  split
  · rename_i he
    have h3 := h2.ex he
    have h4 := h2.last
    exact ⟨h2.g, h2.keep, h2.last, h2.s, h2.t, fun _ => by show 1 ≤ min _ _ ∧ min _ _ ≤ _; omega, fun h5 => absurd (he.symm.trans h5) (by simp)⟩
  · exact h2
theorem WRight.kind (ht : mayB t = true) (h : WRight t g m) (kind : Int) : WRight t g (kindM kind m) := by
  unfold kindM
  split
  · exact h.allow ht
  split
  · exact h.isEx ht
  split
  · exact h.block ht
  split
  · exact h.toEx ht
  exact h.toIn ht
theorem hear_right (ht : mayB t = true) {x : S28} (h : MOk x) (kind : Int) (l : List Int) : MOk (hearR t x kind l).1 := by
  unfold hearR
  split
  · split
    · exact h
    · rename_i h2
      have h3 : WRight t x.f0 (hearD t x kind l) := WRight.kind (m := hear0 t x l) (g := x.f0) ht ⟨rfl, rfl, rfl, h.sort, h.times, h.ex, h.inn⟩ kind
      exact MOk.of (by show _ ≤ (hearD t x kind l).g ∧ _; rw [h3.g]; exact h.asked) (by show (hearD t x kind l).srcs.length ≤ _; omega) h3.ex h3.inn h3.s h3.t
  · exact h
end Go.Proofs.Ytbllchfgjginoaa
/-
  What comes of time, in plain lists (chapter 08).
-/
namespace Go.Proofs.Ytbllchfgjginoaa
open Go.RowKit Go.Lib Go.Proofs.YtbllchfgjginoaaW.PrintWords Go.Proofs.Ytbllchfgjginoaa.PMe
set_option linter.unusedVariables false
set_option linter.unusedSimpArgs false
end Go.Proofs.Ytbllchfgjginoaa
/-
  Time of any length, called (chapter 08).
-/
namespace Go.Proofs.Ytbllchfgjginoaa
open Go.RowKit Go.Lib Go.Proofs.YtbllchfgjginoaaW.PrintWords Go.Proofs.Ytbllchfgjginoaa.PMe
set_option linter.unusedVariables false
set_option linter.unusedSimpArgs false
theorem MOk.left {x : S28} (h : MOk x) : 0 ≤ x.f2 ∧ x.f2 ≤ 1000000 := by
  cases e : x.f1
  · have := h.inn e; omega
  · have := h.ex e; omega
end Go.Proofs.Ytbllchfgjginoaa
/-
  What is wanted behind a record, in plain lists (chapter 08).
-/
namespace Go.Proofs.Ytbllchfgjginoaa
open Go.RowKit Go.Lib Go.Proofs.YtbllchfgjginoaaW.PrintWords Go.Proofs.Ytbllchfgjginoaa.PMe
set_option linter.unusedVariables false
set_option linter.unusedSimpArgs false
theorem at_keep {left a n : Int} {l : List Int} {xs : List S49} : (⟨a, n⟩ : S49) ∈ keepS xs l left ↔ (a ∈ l ∧ n = left) ∨ (a ∉ l ∧ (⟨a, n⟩ : S49) ∈ xs) := mem_keep left ⟨a, n⟩ l xs
theorem at_only {a n : Int} {l : List Int} {xs : List S49} : (⟨a, n⟩ : S49) ∈ onlyS xs l ↔ a ∈ l ∧ (⟨a, n⟩ : S49) ∈ xs := by
  unfold onlyS; rw [List.mem_filter, decide_eq_true_eq]; exact and_comm
theorem at_ask {a n last : Int} {l : List Int} {xs : List S49} : (⟨a, n⟩ : S49) ∈ askS last l xs ↔ ∃ k, (⟨a, k⟩ : S49) ∈ xs ∧ n = if a ∈ l then min k last else k := by
  unfold askS ask1
  rw [List.mem_map]
  constructor
  · rintro ⟨s, h, e⟩
    by_cases c : s.f0 ∈ l
    · rw [if_pos c] at e
      injection e with e1 e2
      subst e1
      exact ⟨s.f1, h, by rw [if_pos c]; exact e2.symm⟩
    · rw [if_neg c] at e
      subst e
      exact ⟨n, h, by rw [if_neg c]⟩
  · rintro ⟨k, h, e⟩
    refine ⟨⟨a, k⟩, h, ?_⟩
    dsimp only
    by_cases c : a ∈ l
    · rw [if_pos c] at e ⊢; rw [e]
    · rw [if_neg c] at e ⊢; rw [e]
theorem at_all {a : Int} {xs : List S49} : a ∈ allS xs ↔ ∃ n, (⟨a, n⟩ : S49) ∈ xs := by
  unfold allS thoseS
  rw [List.mem_map]
  constructor
  · rintro ⟨s, h, rfl⟩; exact ⟨s.f1, (List.mem_filter.1 h).1⟩
  · rintro ⟨n, h⟩; exact ⟨_, List.mem_filter.2 ⟨h, rfl⟩, rfl⟩
theorem at_x {a : Int} {xs : List S49} : a ∈ xS xs ↔ ∃ n, (⟨a, n⟩ : S49) ∈ xs ∧ 0 < n := by
  unfold xS thoseS
  rw [List.mem_map]
  constructor
  · rintro ⟨s, h, rfl⟩; exact ⟨s.f1, (List.mem_filter.1 h).1, by simpa using (List.mem_filter.1 h).2⟩
  · rintro ⟨n, h, h2⟩; exact ⟨_, List.mem_filter.2 ⟨h, by simpa using h2⟩, rfl⟩
theorem ask_nil (last : Int) (xs : List S49) : askS last [] xs = xs := by
  unfold askS
  conv => rhs; rw [← List.map_id xs]
  refine List.map_congr_left fun s _ => ?_
  unfold ask1; rw [if_neg (by simp)]; rfl
theorem askM_srcs (m : WM) (l : List Int) : (askM m l).srcs = askS m.last l m.srcs := by
  unfold askM
  by_cases h : l.length = 0
  · rw [if_pos h, List.length_eq_zero_iff.1 h, ask_nil]
  · rw [if_neg h]
theorem askM_ex (m : WM) (l : List Int) : (askM m l).ex = m.ex := by unfold askM; split <;> rfl
theorem askM_left (m : WM) (l : List Int) : (askM m l).left = m.left := by unfold askM; split <;> rfl
theorem askM_last (m : WM) (l : List Int) : (askM m l).last = m.last := by unfold askM; split <;> rfl
theorem askM_g (m : WM) (l : List Int) : (askM m l).g = m.g := by unfold askM; split <;> rfl
theorem askM_asks (m : WM) (l : List Int) : (askM m l).asks = m.asks ++ if l.length = 0 then [] else [⟨m.g, l⟩] := by
  unfold askM; split
  · rw [List.append_nil]
  · rfl
variable {t : S23} {x : S28} {l : List Int} {a : Int}
end Go.Proofs.Ytbllchfgjginoaa
/-
  What a host's turns bring, what is kept, and what is asked, in plain lists (chapter 08).
-/
namespace Go.Proofs.Ytbllchfgjginoaa
open Go.RowKit Go.Lib Go.Proofs.YtbllchfgjginoaaW.PrintWords Go.Proofs.Ytbllchfgjginoaa.PMe
set_option linter.unusedVariables false
set_option linter.unusedSimpArgs false
variable {t : S23} {x : S28} {l : List Int} {a : Int}
theorem except_has {m : WM} (hs : SortH m.srcs) (hb : Rise m.b) {left : Int} (h : a ∈ m.b) : ∃ n, (⟨a, n⟩ : S49) ∈ (exceptM m left).srcs := by
  by_cases c : a ∈ allS m.srcs
  · obtain ⟨n, hn⟩ := at_all.1 c
    exact ⟨n, at_keep.2 (.inr ⟨fun h2 => ((mns_mem hb (all_rise hs) a).1 h2).2 c, at_only.2 ⟨h, hn⟩⟩)⟩
  · exact ⟨left, at_keep.2 (.inl ⟨(mns_mem hb (all_rise hs) a).2 ⟨h, c⟩, rfl⟩)⟩
theorem toIn_is (t : S23) (x : S28) (l : List Int) : (hearD t x 3 l).ex = x.f1 ∧ (hearD t x 3 l).left = (if x.f1 = true then min x.f2 t.f1 else x.f2) ∧ (hearD t x 3 l).srcs = askS t.f1 (mns (xS x.f3) (mk l)) (keepS x.f3 (mk l) t.f0) ∧ (hearD t x 3 l).asks = (if (mns (xS x.f3) (mk l)).length = 0 then [] else [⟨x.f0, mns (xS x.f3) (mk l)⟩]) ++ (if x.f1 = true then [⟨x.f0, []⟩] else []) := by
  have e : hearD t x 3 l = toInM (hear0 t x l) := rfl
  rw [e]
  unfold toInM
  have e1 : (askM (allowM (hear0 t x l)) (mns (xS (hear0 t x l).srcs) (hear0 t x l).b)).ex = x.f1 := by rw [askM_ex]; rfl
  have e2 : (askM (allowM (hear0 t x l)) (mns (xS (hear0 t x l).srcs) (hear0 t x l).b)).left = x.f2 := by rw [askM_left]; rfl
  have e3 : (askM (allowM (hear0 t x l)) (mns (xS (hear0 t x l).srcs) (hear0 t x l).b)).last = t.f1 := by rw [askM_last]; rfl
  have e4 : (askM (allowM (hear0 t x l)) (mns (xS (hear0 t x l).srcs) (hear0 t x l).b)).srcs = askS t.f1 (mns (xS x.f3) (mk l)) (keepS x.f3 (mk l) t.f0) := by rw [askM_srcs]; rfl
  have e5 : (askM (allowM (hear0 t x l)) (mns (xS (hear0 t x l).srcs) (hear0 t x l).b)).g = x.f0 := by rw [askM_g]; rfl
  have e6 : (askM (allowM (hear0 t x l)) (mns (xS (hear0 t x l).srcs) (hear0 t x l).b)).asks = if (mns (xS x.f3) (mk l)).length = 0 then [] else [⟨x.f0, mns (xS x.f3) (mk l)⟩] := by rw [askM_asks]; rfl
  by_cases c : x.f1 = true
  · rw [if_pos (e1.trans c), if_pos c, if_pos c]
    exact ⟨e1, by show min _ _ = _; rw [e2, e3], e4, by show _ ++ _ = _; rw [e6, e5]⟩
  · rw [if_neg (fun h => c (e1.symm.trans h)), if_neg c, if_neg c]
    exact ⟨e1, e2, e4, by rw [e6, List.append_nil]⟩
/-! ### MembAsks -/
/-- Questions that are right: of the group, of sources that are kept then, for Last ticks at most. -/
def AsksOk (g last : Int) (asks : List S46) (xs : List S49) : Prop := asks.length ≤ 2 ∧ ∀ k ∈ asks, k.f0 = g ∧ Rise k.f1 ∧ ∀ s ∈ k.f1, ∃ n, (⟨s, n⟩ : S49) ∈ xs ∧ n ≤ last
theorem asks_nil (g last : Int) (xs : List S49) : AsksOk g last [] xs := ⟨by simp, fun k hk => absurd hk (by simp)⟩
theorem asks_of {m : WM} {L : List Int} (h0 : m.asks = []) (hr : Rise L) (hin : ∀ s ∈ L, ∃ n, (⟨s, n⟩ : S49) ∈ m.srcs) : AsksOk m.g m.last (askM m L).asks (askM m L).srcs := by
  rw [askM_asks, askM_srcs, h0, List.nil_append]
  split
  · exact asks_nil _ _ _
  · refine ⟨by simp, fun k hk => ?_⟩
    rw [List.mem_singleton] at hk
    subst hk
    refine ⟨rfl, hr, fun s hs => ?_⟩
    obtain ⟨n, hn⟩ := hin s hs
    exact ⟨min n m.last, at_ask.2 ⟨n, hn, by rw [if_pos hs]⟩, by omega⟩
theorem hear_asks (h : MOk x) (kind : Int) : AsksOk x.f0 t.f1 (hearR t x kind l).2.1 (hearR t x kind l).1.f3 := by
  have hs : SortH (hear0 t x l).srcs := h.sort
  have hb : Rise (hear0 t x l).b := mk_rise l
  unfold hearR
  split
  · split
    · exact asks_nil _ _ _
    · show AsksOk x.f0 t.f1 (kindM kind (hear0 t x l)).asks (kindM kind (hear0 t x l)).srcs
      unfold kindM
      split
      · exact asks_nil _ _ _
      split
      · unfold isExM; split
        · exact asks_nil _ _ _
        · exact asks_nil _ _ _
      split
      · unfold blockM; split
        · refine asks_of (m := { hear0 t x l with srcs := keepS (hear0 t x l).srcs (mns (hear0 t x l).b (allS (hear0 t x l).srcs)) (hear0 t x l).left }) rfl (mns_rise hb (y_rise hs)) (fun s h2 => ?_)
          have h3 := ((mns_mem hb (y_rise hs) s).1 h2).1
          by_cases c : s ∈ allS (hear0 t x l).srcs
          · obtain ⟨n, hn⟩ := at_all.1 c
            exact ⟨n, at_keep.2 (.inr ⟨fun h4 => ((mns_mem hb (all_rise hs) s).1 h4).2 c, hn⟩)⟩
          · exact ⟨_, at_keep.2 (.inl ⟨(mns_mem hb (all_rise hs) s).2 ⟨h3, c⟩, rfl⟩)⟩
        · exact asks_of (m := hear0 t x l) rfl (int_rise (all_rise hs) hb) (fun s h2 => at_all.1 ((int_mem (all_rise hs) hb s).1 h2).1)
      split
      · unfold toExM; split
        · exact asks_of (m := exceptM (hear0 t x l) (hear0 t x l).left) rfl (mns_rise hb (y_rise hs)) (fun s h2 => except_has hs hb ((mns_mem hb (y_rise hs) s).1 h2).1)
        · exact asks_of (m := exceptM (hear0 t x l) 0) rfl (int_rise (all_rise hs) hb) (fun s h2 => except_has hs hb ((int_mem (all_rise hs) hb s).1 h2).2)
      · have e := toIn_is t x l
        have e0 : hearD t x 3 l = toInM (hear0 t x l) := rfl
        rw [e0] at e
        rw [e.2.2.1, e.2.2.2]
        have hA := asks_of (m := allowM (hear0 t x l)) (L := mns (xS x.f3) (mk l)) rfl (mns_rise (x_rise h.sort) (mk_rise l)) (fun s h2 => by
          obtain ⟨h3, h4⟩ := (mns_mem (x_rise h.sort) (mk_rise l) s).1 h2
          obtain ⟨n, h5, _⟩ := at_x.1 h3
          exact ⟨n, at_keep.2 (.inr ⟨h4, h5⟩)⟩)
        rw [askM_asks, askM_srcs] at hA
        have hA' : AsksOk x.f0 t.f1 (if (mns (xS x.f3) (mk l)).length = 0 then [] else [⟨x.f0, mns (xS x.f3) (mk l)⟩]) (askS t.f1 (mns (xS x.f3) (mk l)) (keepS x.f3 (mk l) t.f0)) := hA
        by_cases c : x.f1 = true
        · rw [if_pos c]
          refine ⟨?_, fun k hk => ?_⟩
          · rw [List.length_append]
            have : (if (mns (xS x.f3) (mk l)).length = 0 then ([] : List S46) else [⟨x.f0, mns (xS x.f3) (mk l)⟩]).length ≤ 1 := by split <;> simp
            simp only [List.length_cons, List.length_nil]; omega
          · rcases List.mem_append.1 hk with h2 | h2
            · exact hA'.2 k h2
            · rw [List.mem_singleton] at h2
              subst h2
              exact ⟨rfl, List.Pairwise.nil, fun s hs => absurd hs (by simp)⟩
        · rw [if_neg c, List.append_nil]; exact hA'
  · exact asks_nil _ _ _
theorem hear_mute {kind : Int} (h : (hearR t x kind l).2.2 ≠ 0 ∨ kind ≤ 2 ∨ kind = 5) : (hearR t x kind l).2.1 = [] := by
  unfold hearR at *
  split
  · rename_i h1
    rw [if_pos h1] at h
    split
    · rfl
    · rename_i h2
      rw [if_neg h2] at h
      have hk : kind = 1 ∨ kind = 5 ∨ kind = 2 := by
        rcases h with h | h | h
        · exact absurd rfl h
        · omega
        · omega
      rcases hk with rfl | rfl | rfl
      · rfl
      · rfl
      · show (isExM (hear0 t x l)).asks = []
        unfold isExM; split <;> rfl
  · rfl
end Go.Proofs.Ytbllchfgjginoaa
/-
  Contracts over flat values (chapter 08), for the laws' walks.
-/
namespace Go.Proofs.Ytbllchfgjginoaa
open Go.RowKit Go.Lib Go.Proofs.YtbllchfgjginoaaW.PrintWords Go.Proofs.Ytbllchfgjginoaa.PMe
set_option linter.unusedVariables false
set_option linter.unusedSimpArgs false
variable {t : S23} {g lf g' lf' : Int} {ex ex' : Bool} {sr sr' : List S49}
theorem right_flat {b : Bool} (h : b = true ↔ MOk ⟨g, ex, lf, sr⟩) (A : Option Addr) (c : Nat) (w : World) (hr : Kd.C k49 w A sr.length sr) (hc : sr.length ≤ c) :
    Calls Try.prog 11 #[.agg #[.int .u32 g, .bool ex, .int .i64 lf, .slice A sr.length c]] w fun e w' => e = .returned (.bool b) ∧ Below w.heap.size w w' :=
  right_w h A c w hr hc
/-! ### what a record comes to, in one word -/
/-- What is held behind a record: right; its error is 0 or 7. -/
theorem hear_tell (ht : mayB t = true) (hx : MOk ⟨g, ex, lf, sr⟩) (kind : Int) (l : List Int) : ∃ g' ex' lf' sr' asks err, hearR t ⟨g, ex, lf, sr⟩ kind l = (⟨g', ex', lf', sr'⟩, asks, err) ∧ MOk ⟨g', ex', lf', sr'⟩ :=
  ⟨(hearR t ⟨g, ex, lf, sr⟩ kind l).1.f0, (hearR t ⟨g, ex, lf, sr⟩ kind l).1.f1, (hearR t ⟨g, ex, lf, sr⟩ kind l).1.f2, (hearR t ⟨g, ex, lf, sr⟩ kind l).1.f3, _, _, rfl, hear_right ht hx kind l⟩
end Go.Proofs.Ytbllchfgjginoaa
