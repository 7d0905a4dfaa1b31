/- Texts of a claim. -/
import Derived.Test.YtjncmiclpaodhaaSoI
import Derived.Test.YtjncmiclpaodhaaSoM
import Derived.Test.YtjncmiclpaodhaaPHox1
import Derived.Test.YtjncmiclpaodhaaMkP
-- written by a program of this session (hprint.py), over the kit's printer
namespace Go.Proofs.Ytjncmiclpaodhaa.PHo
open Go.RowKit Go.Proofs.YtjncmiclpaodhaaW.PrintWords Go.Proofs.YtjncmiclpaodhaaW.PrintLast Go.Proofs.YtjncmiclpaodhaaW.PrintMore
attribute [local go_sem] max2_int min2_int max_two min_two max_three min_three max_four min_four   -- for this text's walks alone
set_option linter.unusedVariables false
set_option linter.unusedSimpArgs false

-- BY HAND: function 8 (stolonlaw07_shown)

/-! ### stolonref06_Right: function 9 -/
def stolonref06_Right.l0 : Nat → List Int → Int → Option (Bool)
  | 0, _, _ => none
  | k + 1, x0, x3 => if x3 < (x0.length : Int) then (if 0 ≤ (wrap64 (x3 - 1)) then (if (wrap64 (x3 - 1)) < (x0.length : Int) then (if 0 ≤ x3 then (if (rd x0 (wrap64 (x3 - 1))) ≥ (rd x0 x3) then (some false) else (stolonref06_Right.l0 k x0 (wrap64 (x3 + 1)))) else (none)) else (none)) else (none)) else (some true)
def stolonref06_Right.f (k : Nat) (l0 : List Int) : Option (Bool) := stolonref06_Right.l0 k l0 1
theorem stolonref06_Right.mono_l : ∀ k, (∀ y0 y1, LeO (stolonref06_Right.l0 k y0 y1) (stolonref06_Right.l0 (k + 1) y0 y1))
  | 0 => fun _ _ r h => by simp [stolonref06_Right.l0] at h
  | k + 1 => by
    have ih0 := stolonref06_Right.mono_l k
    · intro y0 y1
      unfold stolonref06_Right.l0
      repeat' first
      | (with_reducible exact ih0 _ _)
      | (with_reducible exact LeO.refl _)
      | (with_reducible exact LeO.none _)
      | (with_reducible refine LeO.ite ?_ ?_)
      | (with_reducible refine LeO.bind ?_ (fun _ => ?_))
      | exact ih0 _ _
      | exact LeO.none _
      | refine LeO.ite ?_ ?_
      | refine LeO.bind ?_ (fun _ => ?_)
theorem stolonref06_Right.mono : ∀ a0 k, LeO (stolonref06_Right.f k a0) (stolonref06_Right.f (k + 1) a0) := by
  intro a0 k
  have ih0 := stolonref06_Right.mono_l k
  unfold stolonref06_Right.f
  repeat' first
      | (with_reducible exact ih0 _ _)
      | (with_reducible exact LeO.refl _)
      | (with_reducible exact LeO.none _)
      | (with_reducible refine LeO.ite ?_ ?_)
      | (with_reducible refine LeO.bind ?_ (fun _ => ?_))
      | exact ih0 _ _
      | exact LeO.none _
      | refine LeO.ite ?_ ?_
      | refine LeO.bind ?_ (fun _ => ?_)
set_option maxHeartbeats 8000000 in
set_option maxRecDepth 100000 in
theorem stolonref06_Right.calls (k : Nat) (A0 : Option Addr) (c0 : Nat) (l0 : List Int) (r : Bool) (w : World) (hr0 : Kd.C (Kd.int .u32) w A0 l0.length l0) (hc0 : l0.length ≤ c0) (h : stolonref06_Right.f k l0 = some r) :
    Calls Try.prog 9 #[.slice A0 l0.length c0] w fun e w' => e = .returned (.bool r) ∧ Drawn0 w w' := by
  have HR0 := Aside0.mk hr0
  have HC0 := Aside0.mk hc0
  clear hr0 hc0
  have H : (stolonref06_Right.l0 k l0 1) = some r := h
  clear h
  have H' := Aside0.mk H
  clear H
  go_enter Try.func9, Try.ntmps9
  go_wp2
  repeat (go_quiet (fail); try go_wp2)
  go_loopg [3] k (fun kq v3 w' => ∃ (x3_1 : Int), v3 = .int .i64 x3_1 ∧ Aside0 (stolonref06_Right.l0 kq l0 x3_1 = some r) ∧ Aside0 (kq ≤ k) ∧ Drawn0 w w')
  case atStart => exact ⟨(1), (by first | rfl | (simp; done) | (simp [*]; done)), H', ⟨Nat.le_refl _⟩, by repeat (first | exact Drawn0.refl _ | apply Drawn0.step)⟩
  case round =>
    clear H'
    obtain ⟨x3_1, rfl, HA, HK1, ⟨m1, rfl⟩⟩ := hrel
    cases gk with
    | zero => exact absurd HA.out (by simp [stolonref06_Right.l0])
    | succ k1 =>
      have H := HA.out
      clear HA
      simp only [stolonref06_Right.l0] at H
      by_cases c2 : x3_1 < (l0.length : Int)
      · rw [if_pos c2] at H
        have c2b0 : decide (x3_1 < (l0.length : Int)) = true := decide_eq_true c2
        clear c2
        obtain ⟨ji3, hji3⟩ : ∃ j_ : Int, (wrap64 (x3_1 - 1)) = j_ := ⟨_, rfl⟩
        replace H : (if 0 ≤ (ji3) then (if (ji3) < (l0.length : Int) then (if 0 ≤ x3_1 then (if (rd l0 (ji3)) ≥ (rd l0 x3_1) then (some false) else (stolonref06_Right.l0 k1 l0 (wrap64 (x3_1 + 1)))) else (none)) else (none)) else (none)) = some r := by first | (rw [hji3] at H; exact H) | (simp only [hji3] at H ⊢; exact H)
        have hji3w : (IntKind.i64.wrap (x3_1 - 1)) = ji3 := (i64_w _).trans hji3
        by_cases c4 : 0 ≤ (ji3)
        · rw [if_pos c4] at H
          have c4b0 : decide (0 ≤ (ji3)) = true := decide_eq_true c4
          clear c4
          by_cases c5 : (ji3) < (l0.length : Int)
          · rw [if_pos c5] at H
            have c5b0 : decide ((ji3) < (l0.length : Int)) = true := decide_eq_true c5
            clear c5
            by_cases c6 : 0 ≤ x3_1
            · rw [if_pos c6] at H
              have c6b0 : decide (0 ≤ x3_1) = true := decide_eq_true c6
              clear c6
              by_cases c7 : (rd l0 (ji3)) ≥ (rd l0 x3_1)
              · rw [if_pos c7] at H
                have c7b0 : decide ((rd l0 x3_1) ≤ (rd l0 (ji3))) = true := decide_eq_true c7
                clear c7
                obtain rfl := Option.some.inj H
                have p310 : 0 ≤ ((ji3) : Int) := of_decide_eq_true (by first | (with_reducible assumption) | assumption)
                have q310 : (ji3) < (l0.length : Int) := of_decide_eq_true (by first | (with_reducible assumption) | assumption)
                obtain ⟨ad310, e310, hx310_0⟩ := Kd.at_int HR0.out (ji3) p310 q310
                cases e310
                replace p310 := eq_true p310
                replace q310 := eq_true q310
                have p311 : 0 ≤ (x3_1 : Int) := of_decide_eq_true (by first | (with_reducible assumption) | assumption)
                have q311 : x3_1 < (l0.length : Int) := of_decide_eq_true (by first | (with_reducible assumption) | assumption)
                obtain ⟨ad311, e311, hx311_0⟩ := Kd.at_int HR0.out x3_1 p311 q311
                obtain rfl : ad310 = ad311 := (by injection e311)
                replace p311 := eq_true p311
                replace q311 := eq_true q311
                go_wp2
                repeat (go_quiet (fail); try go_wp2)
                go_ret
                exact ⟨by first | rfl | (simp; done) | (simp only [← hji3] <;> (first | rfl | simp)) | (simp [*]; done), by repeat (first | exact Drawn0.refl _ | apply Drawn0.step)⟩
              · rw [if_neg c7] at H
                have c7b0 : decide ((rd l0 x3_1) ≤ (rd l0 (ji3))) = false := decide_eq_false c7
                clear c7
                have H' := Aside0.mk H
                clear H
                have p310 : 0 ≤ ((ji3) : Int) := of_decide_eq_true (by first | (with_reducible assumption) | assumption)
                have q310 : (ji3) < (l0.length : Int) := of_decide_eq_true (by first | (with_reducible assumption) | assumption)
                obtain ⟨ad310, e310, hx310_0⟩ := Kd.at_int HR0.out (ji3) p310 q310
                cases e310
                replace p310 := eq_true p310
                replace q310 := eq_true q310
                have p311 : 0 ≤ (x3_1 : Int) := of_decide_eq_true (by first | (with_reducible assumption) | assumption)
                have q311 : x3_1 < (l0.length : Int) := of_decide_eq_true (by first | (with_reducible assumption) | assumption)
                obtain ⟨ad311, e311, hx311_0⟩ := Kd.at_int HR0.out x3_1 p311 q311
                obtain rfl : ad310 = ad311 := (by injection e311)
                replace p311 := eq_true p311
                replace q311 := eq_true q311
                go_wp2
                repeat (go_quiet (fail); try go_wp2)
                go_roundg k1
                case measure => have := HK1.out; omega
                case rel => exact ⟨(wrap64 (x3_1 + 1)), (by first | rfl | (simp; done) | (simp [*]; done)), H', ⟨by have := HK1.out; omega⟩, by repeat (first | exact Drawn0.refl _ | apply Drawn0.step)⟩
            · rw [if_neg c6] at H
              exact absurd H (by simp)
          · rw [if_neg c5] at H
            exact absurd H (by simp)
        · rw [if_neg c4] at H
          exact absurd H (by simp)
      · rw [if_neg c2] at H
        have c2b0 : decide (x3_1 < (l0.length : Int)) = false := decide_eq_false c2
        clear c2
        obtain rfl := Option.some.inj H
        go_wp2
        repeat (go_quiet (fail); try go_wp2)
        go_ret
        exact ⟨by first | rfl | (simp; done) | (simp [*]; done), by repeat (first | exact Drawn0.refl _ | apply Drawn0.step)⟩

end Go.Proofs.Ytjncmiclpaodhaa.PHo
/-
  Sets in plain lists, for chapter 07 (out of chapter 06's plain laws).
-/
namespace Go.Proofs.Ytjncmiclpaodhaa
open Go.RowKit Go.Proofs.YtjncmiclpaodhaaW.PrintWords Go.Proofs.Ytjncmiclpaodhaa.PHo
set_option linter.unusedVariables false
set_option linter.unusedSimpArgs false
theorem w64 {i : Int} (h0 : -9223372036854775808 ≤ i) (h1 : i ≤ 9223372036854775807) : wrap64 i = i := by unfold wrap64; omega
theorem rd_eq (l : List Int) (i : Int) : rd l i = l.getD i.toNat 0 := rfl
abbrev Rise (l : List Int) : Prop := l.Pairwise (· < ·)
theorem getD_eq (l : List Int) (i : Nat) (h : i < l.length) : l.getD i 0 = l[i] := by
  rw [List.getD_eq_getElem?_getD, List.getElem?_eq_getElem h]; rfl
theorem rise_iff (l : List Int) : (∀ i, 1 ≤ i → i < l.length → l.getD (i - 1) 0 < l.getD i 0) ↔ Rise l := by
  constructor
  · intro h
    rw [Rise, List.pairwise_iff_getElem]
    intro i j hi hj hij
    rw [← getD_eq l i hi, ← getD_eq l j hj]
    clear hi
    induction j with
    | zero => omega
    | succ j ih =>
      have h1 := h (j + 1) (by omega) hj
      rw [Nat.add_sub_cancel] at h1
      rcases Nat.lt_or_ge i j with h2 | h2
      · have := ih (by omega) h2; omega
      · obtain rfl : i = j := by omega
        exact h1
  · intro h i h1 h2
    rw [Rise, List.pairwise_iff_getElem] at h
    rw [getD_eq l i h2, getD_eq l (i - 1) (by omega)]
    exact h _ _ _ _ (by omega)
open Classical in
theorem right_loop (l : List Int) (hm : l.length ≤ 1000000000) : ∀ n k (j : Nat), 1 ≤ j → l.length ≤ j + n → n < k →
    stolonref06_Right.l0 k l j = some (decide (∀ i, j ≤ i → i < l.length → l.getD (i - 1) 0 < l.getD i 0)) := by
  intro n
  induction n with
  | zero =>
    intro k j h1 h2 hk
    obtain ⟨k, rfl⟩ : ∃ k', k = k' + 1 := ⟨k - 1, by omega⟩
    rw [stolonref06_Right.l0, if_neg (by omega)]
    congr 1
    symm
    rw [decide_eq_true_eq]
    intro i hi hl; omega
  | succ n ih =>
    intro k j h1 h2 hk
    obtain ⟨k, rfl⟩ : ∃ k', k = k' + 1 := ⟨k - 1, by omega⟩
    rw [stolonref06_Right.l0]
    by_cases hj : j < l.length
    · rw [if_pos (by omega), w64 (by omega) (by omega), if_pos (by omega), if_pos (by omega), if_pos (by omega)]
      rw [rd_eq, rd_eq, show ((j : Int) - 1).toNat = j - 1 from by omega, show ((j : Int)).toNat = j from by omega]
      split
      · rename_i hge
        congr 1
        symm
        rw [decide_eq_false_iff_not]
        intro h
        have := h j (Nat.le_refl _) hj
        omega
      · rename_i hge
        rw [w64 (by omega) (by omega), show (j : Int) + 1 = ((j + 1 : Nat) : Int) from by omega, ih k (j + 1) (by omega) (by omega) (by omega)]
        congr 1
        rw [decide_eq_decide]
        constructor
        · intro h i hi hl
          rcases Nat.lt_or_ge j i with h' | h'
          · exact h i (by omega) hl
          · obtain rfl : i = j := by omega
            omega
        · intro h i hi hl
          exact h i (by omega) hl
    · rw [if_neg (by omega)]
      congr 1
      symm
      rw [decide_eq_true_eq]
      intro i hi hl; omega
theorem right_some (l : List Int) (hm : l.length ≤ 1000000000) (k : Nat) (hk : l.length < k) : stolonref06_Right.f k l = some (decide (Rise l)) := by
  unfold stolonref06_Right.f
  have := right_loop l hm l.length k 1 (Nat.le_refl _) (by omega) hk
  rw [show ((1 : Nat) : Int) = 1 from rfl] at this
  rw [this]
  congr 1
  rw [decide_eq_decide]
  exact rise_iff l
theorem both_all (a b : List Int) : ∀ x, x ∈ a ∨ x ∈ b → ∃ t ∈ bothOf a b, t.1 = x := by
  induction a, b using bothOf.induct with
  | case1 => intro x h; simp at h
  | case2 y a ih =>
    intro x h
    rw [bothOf]
    rcases h with h | h
    · rcases List.mem_cons.1 h with rfl | h
      · exact ⟨_, List.mem_cons_self, rfl⟩
      · obtain ⟨t, h1, h2⟩ := ih x (.inl h)
        exact ⟨t, List.mem_cons_of_mem _ h1, h2⟩
    · simp at h
  | case3 y b ih =>
    intro x h
    rw [bothOf]
    rcases h with h | h
    · simp at h
    · rcases List.mem_cons.1 h with rfl | h
      · exact ⟨_, List.mem_cons_self, rfl⟩
      · obtain ⟨t, h1, h2⟩ := ih x (.inr h)
        exact ⟨t, List.mem_cons_of_mem _ h1, h2⟩
  | case4 z a y b hlt ih =>
    intro x h
    rw [bothOf, if_pos hlt]
    by_cases hx : x = z
    · subst hx; exact ⟨_, List.mem_cons_self, rfl⟩
    · obtain ⟨t, h1, h2⟩ := ih x (by simpa [hx] using h)
      exact ⟨t, List.mem_cons_of_mem _ h1, h2⟩
  | case5 z a y b hlt hlt' ih =>
    intro x h
    rw [bothOf, if_neg hlt, if_pos hlt']
    by_cases hx : x = y
    · subst hx; exact ⟨_, List.mem_cons_self, rfl⟩
    · obtain ⟨t, h1, h2⟩ := ih x (by simpa [hx] using h)
      exact ⟨t, List.mem_cons_of_mem _ h1, h2⟩
  | case6 z a y b hlt hlt' ih =>
    intro x h
    rw [bothOf, if_neg hlt, if_neg hlt']
    obtain rfl : z = y := by omega
    by_cases hx : x = z
    · subst hx; exact ⟨_, List.mem_cons_self, rfl⟩
    · obtain ⟨t, h1, h2⟩ := ih x (by simpa [hx] using h)
      exact ⟨t, List.mem_cons_of_mem _ h1, h2⟩
theorem both_spec (a b : List Int) : Rise a → Rise b → ∀ t ∈ bothOf a b, t.2.1 = decide (t.1 ∈ a) ∧ t.2.2 = decide (t.1 ∈ b) ∧ (t.1 ∈ a ∨ t.1 ∈ b) := by
  induction a, b using bothOf.induct with
  | case1 => intro _ _ t h; simp [bothOf] at h
  | case2 y a ih =>
    intro ha hb t h
    rw [bothOf] at h
    have ha' := List.pairwise_cons.1 ha
    rcases List.mem_cons.1 h with rfl | h
    · simp
    · obtain ⟨h1, h2, h3⟩ := ih ha'.2 hb t h
      refine ⟨?_, h2, ?_⟩
      · rw [h1, decide_eq_decide, List.mem_cons]
        constructor
        · exact .inr
        · rintro (e | h)
          · rcases h3 with h3 | h3
            · exact h3
            · simp at h3
          · exact h
      · rcases h3 with h3 | h3
        · exact .inl (List.mem_cons_of_mem _ h3)
        · exact .inr h3
  | case3 y b ih =>
    intro ha hb t h
    rw [bothOf] at h
    have hb' := List.pairwise_cons.1 hb
    rcases List.mem_cons.1 h with rfl | h
    · simp
    · obtain ⟨h1, h2, h3⟩ := ih ha hb'.2 t h
      have h4 : t.1 ∈ b := by simpa using h3
      refine ⟨h1, ?_, .inr (List.mem_cons_of_mem _ h4)⟩
      rw [h2, decide_eq_decide]
      exact ⟨fun h => List.mem_cons_of_mem _ h, fun _ => h4⟩
  | case4 z a y b hlt ih =>
    intro ha hb t h
    rw [bothOf, if_pos hlt] at h
    have ha' := List.pairwise_cons.1 ha
    have hb' := List.pairwise_cons.1 hb
    rcases List.mem_cons.1 h with rfl | h
    · refine ⟨by simp, ?_, .inl List.mem_cons_self⟩
      symm
      rw [decide_eq_false_iff_not, List.mem_cons]
      rintro (e | h')
      · simp at e; omega
      · have := hb'.1 _ h'; simp at this; omega
    · obtain ⟨h1, h2, h3⟩ := ih ha'.2 hb t h
      have hne : t.1 ≠ z := by
        rintro e
        rcases h3 with h3 | h3
        · have := ha'.1 _ h3; omega
        · rcases List.mem_cons.1 h3 with h3 | h3
          · omega
          · have := hb'.1 _ h3; omega
      refine ⟨by rw [h1, decide_eq_decide]; simp [hne], h2, by simp [hne]; simpa using h3⟩
  | case5 z a y b hlt hlt' ih =>
    intro ha hb t h
    rw [bothOf, if_neg hlt, if_pos hlt'] at h
    have ha' := List.pairwise_cons.1 ha
    have hb' := List.pairwise_cons.1 hb
    rcases List.mem_cons.1 h with rfl | h
    · refine ⟨?_, by simp, .inr List.mem_cons_self⟩
      symm
      rw [decide_eq_false_iff_not, List.mem_cons]
      rintro (e | h')
      · simp at e; omega
      · have := ha'.1 _ h'; simp at this; omega
    · obtain ⟨h1, h2, h3⟩ := ih ha hb'.2 t h
      have hne : t.1 ≠ y := by
        rintro e
        rcases h3 with h3 | h3
        · rcases List.mem_cons.1 h3 with h3 | h3
          · omega
          · have := ha'.1 _ h3; omega
        · have := hb'.1 _ h3; omega
      refine ⟨h1, by rw [h2, decide_eq_decide]; simp [hne], by simp [hne]; simpa using h3⟩
  | case6 z a y b hlt hlt' ih =>
    intro ha hb t h
    rw [bothOf, if_neg hlt, if_neg hlt'] at h
    obtain rfl : z = y := by omega
    have ha' := List.pairwise_cons.1 ha
    have hb' := List.pairwise_cons.1 hb
    rcases List.mem_cons.1 h with rfl | h
    · simp
    · obtain ⟨h1, h2, h3⟩ := ih ha'.2 hb'.2 t h
      have hne : t.1 ≠ z := by
        rintro e
        rcases h3 with h3 | h3
        · have := ha'.1 _ h3; omega
        · have := hb'.1 _ h3; omega
      refine ⟨by rw [h1, decide_eq_decide]; simp [hne], by rw [h2, decide_eq_decide]; simp [hne], by simp [hne]; exact h3⟩
theorem both_rise (a b : List Int) : Rise a → Rise b → (bothOf a b).Pairwise (fun s t => s.1 < t.1) := by
  induction a, b using bothOf.induct with
  | case1 => intro _ _; simp [bothOf]
  | case2 y a ih =>
    intro ha hb
    have ha' := List.pairwise_cons.1 ha
    rw [bothOf]
    refine List.pairwise_cons.2 ⟨fun t ht => ?_, ih ha'.2 hb⟩
    rcases (both_spec _ _ ha'.2 hb t ht).2.2 with h | h
    · exact ha'.1 _ h
    · simp at h
  | case3 y b ih =>
    intro ha hb
    have hb' := List.pairwise_cons.1 hb
    rw [bothOf]
    refine List.pairwise_cons.2 ⟨fun t ht => ?_, ih ha hb'.2⟩
    rcases (both_spec _ _ ha hb'.2 t ht).2.2 with h | h
    · simp at h
    · exact hb'.1 _ h
  | case4 z a y b hlt ih =>
    intro ha hb
    have ha' := List.pairwise_cons.1 ha
    have hb' := List.pairwise_cons.1 hb
    rw [bothOf, if_pos hlt]
    refine List.pairwise_cons.2 ⟨fun t ht => ?_, ih ha'.2 hb⟩
    rcases (both_spec _ _ ha'.2 hb t ht).2.2 with h | h
    · exact ha'.1 _ h
    · rcases List.mem_cons.1 h with h | h
      · show z < t.1; omega
      · have := hb'.1 _ h; show z < t.1; omega
  | case5 z a y b hlt hlt' ih =>
    intro ha hb
    have ha' := List.pairwise_cons.1 ha
    have hb' := List.pairwise_cons.1 hb
    rw [bothOf, if_neg hlt, if_pos hlt']
    refine List.pairwise_cons.2 ⟨fun t ht => ?_, ih ha hb'.2⟩
    rcases (both_spec _ _ ha hb'.2 t ht).2.2 with h | h
    · rcases List.mem_cons.1 h with h | h
      · show y < t.1; omega
      · have := ha'.1 _ h; show y < t.1; omega
    · exact hb'.1 _ h
  | case6 z a y b hlt hlt' ih =>
    intro ha hb
    have ha' := List.pairwise_cons.1 ha
    have hb' := List.pairwise_cons.1 hb
    rw [bothOf, if_neg hlt, if_neg hlt']
    refine List.pairwise_cons.2 ⟨fun t ht => ?_, ih ha'.2 hb'.2⟩
    rcases (both_spec _ _ ha'.2 hb'.2 t ht).2.2 with h | h
    · exact ha'.1 _ h
    · have := hb'.1 _ h; show z < t.1; omega
theorem sel_mem {p : Bool → Bool → Bool} {a b : List Int} (ha : Rise a) (hb : Rise b) (x : Int) :
    x ∈ selOf p (bothOf a b) ↔ (x ∈ a ∨ x ∈ b) ∧ p (decide (x ∈ a)) (decide (x ∈ b)) = true := by
  unfold selOf
  rw [List.mem_map]
  constructor
  · rintro ⟨t, ht, rfl⟩
    obtain ⟨h1, h2⟩ := List.mem_filter.1 ht
    obtain ⟨e1, e2, e3⟩ := both_spec a b ha hb t h1
    rw [e1, e2] at h2
    exact ⟨e3, h2⟩
  · rintro ⟨h1, h2⟩
    obtain ⟨t, ht, rfl⟩ := both_all a b x h1
    obtain ⟨e1, e2, e3⟩ := both_spec a b ha hb t ht
    refine ⟨t, List.mem_filter.2 ⟨ht, ?_⟩, rfl⟩
    rw [e1, e2]
    exact h2
theorem sel_rise {p : Bool → Bool → Bool} {a b : List Int} (ha : Rise a) (hb : Rise b) : Rise (selOf p (bothOf a b)) := by
  unfold selOf
  rw [Rise, List.pairwise_map]
  exact (both_rise a b ha hb).filter _
def mns (a b : List Int) : List Int := selOf (fun x y => x && !y) (bothOf a b)
theorem mns_some {a b : List Int} (h : a.length ≤ 1000000000) (h' : b.length ≤ 1000000000) : set_Minus.f a b = some (mns a b) := by rw [set_Minus.f, if_pos ⟨h, h'⟩]; rfl
theorem sel_len2 (p : Bool → Bool → Bool) (a b : List Int) : (selOf p (bothOf a b)).length ≤ a.length + b.length := Nat.le_trans (selOf_len _ _) (bothOf_len _ _)
theorem mns_len (a b : List Int) : (mns a b).length ≤ a.length + b.length := sel_len2 _ _ _
theorem mns_rise {a b : List Int} (ha : Rise a) (hb : Rise b) : Rise (mns a b) := sel_rise ha hb
theorem mns_mem {a b : List Int} (ha : Rise a) (hb : Rise b) (x : Int) : x ∈ mns a b ↔ x ∈ a ∧ x ∉ b := by
  unfold mns; rw [sel_mem ha hb]; simp only [Bool.and_eq_true, decide_eq_true_eq, Bool.not_eq_true', decide_eq_false_iff_not]
  exact ⟨fun h => h.2, fun h => ⟨.inl h.1, h⟩⟩
theorem step64 (j : Nat) (h : j ≤ 1000000000000000) : wrap64 ((j : Int) + 1) = ((j + 1 : Nat) : Int) := by rw [w64 (by omega) (by omega)]; omega
end Go.Proofs.Ytjncmiclpaodhaa
-- written by a program of this session (hprint.py), over the kit's printer
namespace Go.Proofs.Ytjncmiclpaodhaa.PHo
open Go.RowKit Go.Proofs.YtjncmiclpaodhaaW.PrintWords Go.Proofs.YtjncmiclpaodhaaW.PrintLast Go.Proofs.YtjncmiclpaodhaaW.PrintMore
attribute [local go_sem] max2_int min2_int max_two min_two max_three min_three max_four min_four   -- for this text's walks alone
set_option linter.unusedVariables false
set_option linter.unusedSimpArgs false
/-! ### stolonref01_Rows: function 34 -/
def stolonref01_Rows.l0 : Nat → List Int → List Int → Int → Option (Bool)
  | 0, _, _, _ => none
  | k + 1, x0, x1, x5 => if x5 < (x0.length : Int) then (if 0 ≤ x5 then (if x5 < (x1.length : Int) then (if (rd x0 x5) = (rd x1 x5) then (stolonref01_Rows.l0 k x0 x1 (wrap64 (x5 + 1))) else (some false)) else (none)) else (none)) else (some true)
def stolonref01_Rows.f (k : Nat) (l0 : List Int) (l1 : List Int) : Option (Bool) := if (l0.length : Int) = (l1.length : Int) then (stolonref01_Rows.l0 k l0 l1 0) else (some false)
theorem stolonref01_Rows.mono_l : ∀ k, (∀ y0 y1 y2, LeO (stolonref01_Rows.l0 k y0 y1 y2) (stolonref01_Rows.l0 (k + 1) y0 y1 y2))
  | 0 => fun _ _ _ r h => by simp [stolonref01_Rows.l0] at h
  | k + 1 => by
    have ih0 := stolonref01_Rows.mono_l k
    · intro y0 y1 y2
      unfold stolonref01_Rows.l0
      repeat' first
      | (with_reducible exact ih0 _ _ _)
      | (with_reducible exact LeO.refl _)
      | (with_reducible exact LeO.none _)
      | (with_reducible refine LeO.ite ?_ ?_)
      | (with_reducible refine LeO.bind ?_ (fun _ => ?_))
      | exact ih0 _ _ _
      | exact LeO.none _
      | refine LeO.ite ?_ ?_
      | refine LeO.bind ?_ (fun _ => ?_)
theorem stolonref01_Rows.mono : ∀ a0 a1 k, LeO (stolonref01_Rows.f k a0 a1) (stolonref01_Rows.f (k + 1) a0 a1) := by
  intro a0 a1 k
  have ih0 := stolonref01_Rows.mono_l k
  unfold stolonref01_Rows.f
  repeat' first
      | (with_reducible exact ih0 _ _ _)
      | (with_reducible exact LeO.refl _)
      | (with_reducible exact LeO.none _)
      | (with_reducible refine LeO.ite ?_ ?_)
      | (with_reducible refine LeO.bind ?_ (fun _ => ?_))
      | exact ih0 _ _ _
      | exact LeO.none _
      | refine LeO.ite ?_ ?_
      | refine LeO.bind ?_ (fun _ => ?_)
set_option maxHeartbeats 8000000 in
set_option maxRecDepth 100000 in
theorem stolonref01_Rows.calls (k : Nat) (A0 : Option Addr) (c0 : Nat) (l0 : List Int) (A1 : Option Addr) (c1 : Nat) (l1 : List Int) (r : Bool) (w : World) (hr0 : Kd.C (Kd.int .u32) w A0 l0.length l0) (hc0 : l0.length ≤ c0) (hr1 : Kd.C (Kd.int .u32) w A1 l1.length l1) (hc1 : l1.length ≤ c1) (h : stolonref01_Rows.f k l0 l1 = some r) :
    Calls Try.prog 34 #[.slice A0 l0.length c0, .slice A1 l1.length c1] w fun e w' => e = .returned (.bool r) ∧ Drawn0 w w' := by
  have HR0 := Aside0.mk hr0
  have HC0 := Aside0.mk hc0
  clear hr0 hc0
  have HR1 := Aside0.mk hr1
  have HC1 := Aside0.mk hc1
  clear hr1 hc1
  have H : (if (l0.length : Int) = (l1.length : Int) then (stolonref01_Rows.l0 k l0 l1 0) else (some false)) = some r := h
  clear h
  by_cases c3 : (l0.length : Int) = (l1.length : Int)
  · rw [if_pos c3] at H
    have c3b0 : ((l0.length : Int) == (l1.length : Int)) = true := beq_iff_eq.mpr c3
    have c3b1 : ((l0.length : Int) != (l1.length : Int)) = false := bne_eq_false_iff_eq.mpr c3
    have c3b2 : (l0.length == l1.length) = true := by first | simpa using c3 | (simp at c3 ⊢; omega)
    clear c3
    have H' := Aside0.mk H
    clear H
    go_enter Try.func34, Try.ntmps34
    go_wp2
    repeat (go_quiet (fail); try go_wp2)
    go_loopg [5] k (fun kq v5 w' => ∃ (x5_1 : Int), v5 = .int .i64 x5_1 ∧ Aside0 (stolonref01_Rows.l0 kq l0 l1 x5_1 = some r) ∧ Aside0 (kq ≤ k) ∧ Drawn0 w w')
    case atStart => exact ⟨(0), (by first | rfl | (simp; done) | (simp [*]; done)), H', ⟨Nat.le_refl _⟩, by repeat (first | exact Drawn0.refl _ | apply Drawn0.step)⟩
    case round =>
      clear H'
      try clear c1
      try clear p2
      try clear c3
      try clear c3b0
      try clear c3b1
      try clear c3b2
      obtain ⟨x5_1, rfl, HA, HK1, ⟨m1, rfl⟩⟩ := hrel
      cases gk with
      | zero => exact absurd HA.out (by simp [stolonref01_Rows.l0])
      | succ k1 =>
        have H := HA.out
        clear HA
        simp only [stolonref01_Rows.l0] at H
        by_cases c4 : x5_1 < (l0.length : Int)
        · rw [if_pos c4] at H
          have c4b0 : decide (x5_1 < (l0.length : Int)) = true := decide_eq_true c4
          clear c4
          by_cases c5 : 0 ≤ x5_1
          · rw [if_pos c5] at H
            have c5b0 : decide (0 ≤ x5_1) = true := decide_eq_true c5
            clear c5
            by_cases c6 : x5_1 < (l1.length : Int)
            · rw [if_pos c6] at H
              have c6b0 : decide (x5_1 < (l1.length : Int)) = true := decide_eq_true c6
              clear c6
              by_cases c7 : (rd l0 x5_1) = (rd l1 x5_1)
              · rw [if_pos c7] at H
                have c7b0 : ((rd l0 x5_1) == (rd l1 x5_1)) = true := beq_iff_eq.mpr c7
                have c7b1 : ((rd l0 x5_1) != (rd l1 x5_1)) = false := bne_eq_false_iff_eq.mpr c7
                clear c7
                have H' := Aside0.mk H
                clear H
                have p339 : 0 ≤ (x5_1 : Int) := of_decide_eq_true (by first | (with_reducible assumption) | assumption)
                have q339 : x5_1 < (l0.length : Int) := of_decide_eq_true (by first | (with_reducible assumption) | assumption)
                obtain ⟨ad339, e339, hx339_0⟩ := Kd.at_int HR0.out x5_1 p339 q339
                cases e339
                replace p339 := eq_true p339
                replace q339 := eq_true q339
                have p340 : 0 ≤ (x5_1 : Int) := of_decide_eq_true (by first | (with_reducible assumption) | assumption)
                have q340 : x5_1 < (l1.length : Int) := of_decide_eq_true (by first | (with_reducible assumption) | assumption)
                obtain ⟨ad340, e340, hx340_0⟩ := Kd.at_int HR1.out x5_1 p340 q340
                cases e340
                replace p340 := eq_true p340
                replace q340 := eq_true q340
                go_wp2
                repeat (go_quiet (fail); try go_wp2)
                go_roundg k1
                case measure => have := HK1.out; omega
                case rel => exact ⟨(wrap64 (x5_1 + 1)), (by first | rfl | (simp; done) | (simp [*]; done)), H', ⟨by have := HK1.out; omega⟩, by repeat (first | exact Drawn0.refl _ | apply Drawn0.step)⟩
              · rw [if_neg c7] at H
                have c7b0 : ((rd l0 x5_1) == (rd l1 x5_1)) = false := beq_eq_false_iff_ne.mpr c7
                have c7b1 : ((rd l0 x5_1) != (rd l1 x5_1)) = true := bne_iff_ne.mpr c7
                obtain rfl := Option.some.inj H
                have p339 : 0 ≤ (x5_1 : Int) := of_decide_eq_true (by first | (with_reducible assumption) | assumption)
                have q339 : x5_1 < (l0.length : Int) := of_decide_eq_true (by first | (with_reducible assumption) | assumption)
                obtain ⟨ad339, e339, hx339_0⟩ := Kd.at_int HR0.out x5_1 p339 q339
                cases e339
                replace p339 := eq_true p339
                replace q339 := eq_true q339
                have p340 : 0 ≤ (x5_1 : Int) := of_decide_eq_true (by first | (with_reducible assumption) | assumption)
                have q340 : x5_1 < (l1.length : Int) := of_decide_eq_true (by first | (with_reducible assumption) | assumption)
                obtain ⟨ad340, e340, hx340_0⟩ := Kd.at_int HR1.out x5_1 p340 q340
                cases e340
                replace p340 := eq_true p340
                replace q340 := eq_true q340
                go_wp2
                repeat (go_quiet (fail); try go_wp2)
                go_ret
                exact ⟨by first | rfl | (simp; done) | (simp [*]; done), by repeat (first | exact Drawn0.refl _ | apply Drawn0.step)⟩
            · rw [if_neg c6] at H
              exact absurd H (by simp)
          · rw [if_neg c5] at H
            exact absurd H (by simp)
        · rw [if_neg c4] at H
          have c4b0 : decide (x5_1 < (l0.length : Int)) = false := decide_eq_false c4
          clear c4
          obtain rfl := Option.some.inj H
          go_wp2
          repeat (go_quiet (fail); try go_wp2)
          go_ret
          exact ⟨by first | rfl | (simp; done) | (simp [*]; done), by repeat (first | exact Drawn0.refl _ | apply Drawn0.step)⟩
  · rw [if_neg c3] at H
    have c3b0 : ((l0.length : Int) == (l1.length : Int)) = false := beq_eq_false_iff_ne.mpr c3
    have c3b1 : ((l0.length : Int) != (l1.length : Int)) = true := bne_iff_ne.mpr c3
    have c3b2 : (l0.length == l1.length) = false := by first | simpa using c3 | (simp at c3 ⊢; omega)
    obtain rfl := Option.some.inj H
    go_enter Try.func34, Try.ntmps34
    go_wp2
    repeat (go_quiet (fail); try go_wp2)
    go_ret
    exact ⟨by first | rfl | (simp; done) | (simp [*]; done), by repeat (first | exact Drawn0.refl _ | apply Drawn0.step)⟩
end Go.Proofs.Ytjncmiclpaodhaa.PHo
/-
  Filters in plain lists, for chapter 07 (out of chapter 06's plain laws).
-/
namespace Go.Proofs.Ytjncmiclpaodhaa
open Go.RowKit Go.Proofs.YtjncmiclpaodhaaW.PrintWords Go.Proofs.Ytjncmiclpaodhaa.PHo
set_option linter.unusedVariables false
set_option linter.unusedSimpArgs false
theorem list_eq_getD (a b : List Int) (hl : a.length = b.length) : a = b ↔ ∀ i, i < a.length → a.getD i 0 = b.getD i 0 := by
  constructor
  · rintro rfl i _; rfl
  · intro h
    refine List.ext_getElem hl fun i h1 h2 => ?_
    rw [← getD_eq a i h1, ← getD_eq b i h2]
    exact h i h1
open Classical in
theorem rows_loop (a b : List Int) (hl : a.length = b.length) (hm : a.length ≤ 1000000000) : ∀ n k (j : Nat), a.length ≤ j + n → n < k →
    stolonref01_Rows.l0 k a b j = some (decide (∀ i, j ≤ i → i < a.length → a.getD i 0 = b.getD i 0)) := by
  intro n
  induction n with
  | zero =>
    intro k j h2 hk
    obtain ⟨k, rfl⟩ : ∃ k', k = k' + 1 := ⟨k - 1, by omega⟩
    rw [stolonref01_Rows.l0, if_neg (by omega)]
    congr 1
    symm
    rw [decide_eq_true_eq]
    intro i hi hl; omega
  | succ n ih =>
    intro k j h2 hk
    obtain ⟨k, rfl⟩ : ∃ k', k = k' + 1 := ⟨k - 1, by omega⟩
    rw [stolonref01_Rows.l0]
    by_cases hj : j < a.length
    · rw [if_pos (by omega), if_pos (by omega), if_pos (by omega)]
      rw [rd_eq, rd_eq, show ((j : Int)).toNat = j from by omega]
      split
      · rename_i he
        rw [w64 (by omega) (by omega), show (j : Int) + 1 = ((j + 1 : Nat) : Int) from by omega, ih k (j + 1) (by omega) (by omega)]
        congr 1
        rw [decide_eq_decide]
        constructor
        · intro h i hi hl
          rcases Nat.lt_or_ge j i with h' | h'
          · exact h i (by omega) hl
          · obtain rfl : i = j := by omega
            exact he
        · intro h i hi hl
          exact h i (by omega) hl
      · rename_i he
        congr 1
        symm
        rw [decide_eq_false_iff_not]
        intro h
        exact he (h j (Nat.le_refl _) hj)
    · rw [if_neg (by omega)]
      congr 1
      symm
      rw [decide_eq_true_eq]
      intro i hi hl; omega
theorem rows_some (a b : List Int) (hm : a.length ≤ 1000000000) (k : Nat) (hk : a.length < k) : stolonref01_Rows.f k a b = some (decide (a = b)) := by
  unfold stolonref01_Rows.f
  by_cases hl : a.length = b.length
  · rw [if_pos (by omega)]
    have := rows_loop a b hl hm a.length k 0 (by omega) hk
    rw [show ((0 : Nat) : Int) = 0 from rfl] at this
    rw [this]
    congr 1
    rw [decide_eq_decide, list_eq_getD a b hl]
    constructor
    · intro h i hi; exact h i (by omega) hi
    · intro h i _ hi; exact h i hi
  · rw [if_neg (by omega)]
    congr 1
    symm
    rw [decide_eq_false_iff_not]
    rintro rfl
    exact hl rfl
def uni (a b : List Int) : List Int := selOf (fun x y => x || y) (bothOf a b)
def int (a b : List Int) : List Int := selOf (fun x y => x && y) (bothOf a b)
theorem uni_some {a b : List Int} (h : a.length ≤ 1000000000) (h' : b.length ≤ 1000000000) : set_Union.f a b = some (uni a b) := by rw [set_Union.f, if_pos ⟨h, h'⟩]; rfl
theorem int_some {a b : List Int} (h : a.length ≤ 1000000000) (h' : b.length ≤ 1000000000) : set_Inter.f a b = some (int a b) := by rw [set_Inter.f, if_pos ⟨h, h'⟩]; rfl
theorem uni_len (a b : List Int) : (uni a b).length ≤ a.length + b.length := sel_len2 _ _ _
theorem int_len (a b : List Int) : (int a b).length ≤ a.length + b.length := sel_len2 _ _ _
theorem uni_rise {a b : List Int} (ha : Rise a) (hb : Rise b) : Rise (uni a b) := sel_rise ha hb
theorem int_rise {a b : List Int} (ha : Rise a) (hb : Rise b) : Rise (int a b) := sel_rise ha hb
theorem uni_mem {a b : List Int} (ha : Rise a) (hb : Rise b) (x : Int) : x ∈ uni a b ↔ x ∈ a ∨ x ∈ b := by
  unfold uni; rw [sel_mem ha hb]; simp
theorem int_mem {a b : List Int} (ha : Rise a) (hb : Rise b) (x : Int) : x ∈ int a b ↔ x ∈ a ∧ x ∈ b := by
  unfold int; rw [sel_mem ha hb]; simp only [Bool.and_eq_true, decide_eq_true_eq]
  exact ⟨fun h => h.2, fun h => ⟨.inl h.1, h⟩⟩
theorem rdT (l : List S26) (i : Nat) (h : i < l.length) : rd_T26 l (i : Int) = l[i] := by
  show l.getD _ _ = _
  rw [Int.toNat_natCast, List.getD_eq_getElem?_getD, List.getElem?_eq_getElem h]; rfl
def stepS (s : List Int × List Int × Bool) (f : S26) : List Int × List Int × Bool :=
  if f.f0 = true then (if s.2.2 = true then (s.1, int s.2.1 f.f1, s.2.2) else (s.1, f.f1, true)) else (uni s.1 f.f1, s.2.1, s.2.2)
def finS (s : List Int × List Int × Bool) : Bool × List Int := if s.2.2 = true then (true, mns s.2.1 s.1) else (false, s.1)
def wants (f : Bool × List Int) (a : Int) : Bool := decide (a ∈ f.2) != f.1
theorem step_keeps {s : List Int × List Int × Bool} {f : S26} (h1 : Rise s.1) (h2 : Rise s.2.1) (h3 : Rise f.f1) : Rise (stepS s f).1 ∧ Rise (stepS s f).2.1 := by
  unfold stepS
  split
  · split
    · exact ⟨h1, int_rise h2 h3⟩
    · exact ⟨h1, h3⟩
  · exact ⟨uni_rise h1 h3, h2⟩
theorem step_len {s : List Int × List Int × Bool} {f : S26} (h3 : f.f1.length ≤ 200) : (stepS s f).1.length ≤ s.1.length + 200 ∧ (stepS s f).2.1.length ≤ s.2.1.length + 200 := by
  unfold stepS
  have := int_len s.2.1 f.f1
  have := uni_len s.1 f.f1
  split
  · split
    · exact ⟨by show s.1.length ≤ _; omega, by show (int s.2.1 f.f1).length ≤ _; omega⟩
    · exact ⟨by show s.1.length ≤ _; omega, by show f.f1.length ≤ _; omega⟩
  · exact ⟨by show (uni s.1 f.f1).length ≤ _; omega, by show s.2.1.length ≤ _; omega⟩
theorem step_wants {s : List Int × List Int × Bool} {f : S26} (h1 : Rise s.1) (h2 : Rise s.2.1) (h3 : Rise f.f1) (a : Int) :
    wants (finS (stepS s f)) a = (wants (finS s) a || wants (f.f0, f.f1) a) := by
  obtain ⟨s1, s2, s3⟩ := s
  obtain ⟨f0, f1⟩ := f
  simp only at h1 h2 h3
  have m1 := mns_mem (int_rise h2 h3) h1 a
  have m2 := int_mem h2 h3 a
  have m3 := mns_mem h2 h1 a
  have m4 := mns_mem h3 h1 a
  have m5 := mns_mem h2 (uni_rise h1 h3) a
  have m6 := uni_mem h1 h3 a
  cases f0 <;> cases s3 <;> simp [stepS, finS, wants, m1, m2, m3, m4, m5, m6] <;>
    by_cases q1 : a ∈ s1 <;> by_cases q2 : a ∈ s2 <;> by_cases q3 : a ∈ f1 <;> simp [q1, q2, q3]
theorem filter_loop (l : List S26) (hm : l.length ≤ 200) (hl : ∀ f ∈ l, Rise f.f1 ∧ f.f1.length ≤ 200) : ∀ n k (j : Nat) (s : List Int × List Int × Bool), j ≤ l.length → l.length = j + n → n < k → s.1.length ≤ 200 * j → s.2.1.length ≤ 200 * j →
    set_Filter.l0 k s.1 s.2.1 s.2.2 l l.length j = some (finS ((l.drop j).foldl stepS s)) := by
  intro n
  induction n with
  | zero =>
    intro k j s hj h2 hk h3 h4
    obtain ⟨k, rfl⟩ : ∃ k', k = k' + 1 := ⟨k - 1, by omega⟩
    rw [set_Filter.l0, if_neg (by omega), List.drop_of_length_le (by omega), List.foldl_nil]
    unfold finS
    split
    · rw [mns_some (by omega) (by omega)]; rfl
    · rfl
  | succ n ih =>
    intro k j s hj h2 hk h3 h4
    obtain ⟨k, rfl⟩ : ∃ k', k = k' + 1 := ⟨k - 1, by omega⟩
    have hlt : j < l.length := by omega
    have hf := hl l[j] (List.getElem_mem _)
    have e2 : wrap64 ((j : Int) + 1) = ((j + 1 : Nat) : Int) := by rw [w64 (by omega) (by omega)]; omega
    have hlen := step_len (s := s) hf.2
    have := ih k (j + 1) (stepS s l[j]) (by omega) (by omega) (by omega) (by omega) (by omega)
    rw [set_Filter.l0, if_pos (by omega), if_pos (by omega), if_pos (by omega), rdT l j hlt, e2, List.drop_eq_getElem_cons hlt, List.foldl_cons, ← this]
    unfold stepS
    split
    · split
      · rename_i he
        rw [int_some (by omega) (by omega), Option.bind_some]
      · rfl
    · rw [uni_some (by omega) (by omega), Option.bind_some]
theorem filter_some (l : List S26) (hm : l.length ≤ 200) (hl : ∀ f ∈ l, Rise f.f1 ∧ f.f1.length ≤ 200) (k : Nat) (hk : l.length < k) : set_Filter.f k l = some (finS (l.foldl stepS ([], [], false))) := by
  unfold set_Filter.f
  have := filter_loop l hm hl l.length k 0 ([], [], false) (by omega) (by omega) hk (by simp) (by simp)
  rw [List.drop_zero] at this
  exact this
theorem fold_keeps : ∀ (l : List S26) (s : List Int × List Int × Bool), (∀ f ∈ l, Rise f.f1 ∧ f.f1.length ≤ 200) → Rise s.1 → Rise s.2.1 →
    Rise (l.foldl stepS s).1 ∧ Rise (l.foldl stepS s).2.1 ∧ (l.foldl stepS s).1.length ≤ s.1.length + 200 * l.length ∧ (l.foldl stepS s).2.1.length ≤ s.2.1.length + 200 * l.length ∧
    ∀ a, wants (finS (l.foldl stepS s)) a = (wants (finS s) a || l.any (fun f => wants (f.f0, f.f1) a))
  | [], s, _, h1, h2 => ⟨h1, h2, by simp, by simp, fun a => by simp⟩
  | f :: l, s, hl, h1, h2 => by
    have hf := hl f List.mem_cons_self
    have hk := step_keeps h1 h2 hf.1
    have hn := step_len (s := s) hf.2
    obtain ⟨r1, r2, r3, r4, r5⟩ := fold_keeps l (stepS s f) (fun g hg => hl g (List.mem_cons_of_mem _ hg)) hk.1 hk.2
    rw [List.foldl_cons]
    refine ⟨r1, r2, by simp only [List.length_cons]; omega, by simp only [List.length_cons]; omega, fun a => ?_⟩
    rw [r5, step_wants h1 h2 hf.1, List.any_cons, Bool.or_assoc]
theorem fin_rise {s : List Int × List Int × Bool} (h1 : Rise s.1) (h2 : Rise s.2.1) : Rise (finS s).2 := by
  unfold finS
  split
  · exact mns_rise h2 h1
  · exact h1
theorem fin_len (s : List Int × List Int × Bool) : (finS s).2.length ≤ s.1.length + s.2.1.length := by
  unfold finS
  have := mns_len s.2.1 s.1
  split
  · show (mns s.2.1 s.1).length ≤ _; omega
  · show s.1.length ≤ _; omega
end Go.Proofs.Ytjncmiclpaodhaa
