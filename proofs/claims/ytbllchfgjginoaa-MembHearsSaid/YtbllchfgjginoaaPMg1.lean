-- written by a program of this session (hprint.py), over the kit's printer
import Derived.Test.YtbllchfgjginoaaSoJ
import Derived.Test.YtbllchfgjginoaaPMf4
namespace Go.Proofs.Ytbllchfgjginoaa.PMe
set_option maxHeartbeats 8000000
set_option maxRecDepth 100000
open Go.RowKit Go.Proofs.YtbllchfgjginoaaW.PrintWords Go.Proofs.YtbllchfgjginoaaW.PrintLast Go.Proofs.YtbllchfgjginoaaW.PrintMore
attribute [local go_sem] max2_int min2_int max_two min_two max_three min_three max_four min_four   -- for this text's walks alone
set_option linter.unusedVariables false
set_option linter.unusedSimpArgs false

/-! ### stolonref01_Rows: function 33 -/
def stolonref01_Rows.l0 : Nat → List Int → List Int → Int → Option (Bool)
  | 0, _, _, _ => none
  | k + 1, x0, x1, x5 => if x5 < (x0.length : Int) then (if 0 ≤ x5 then (if x5 < (x1.length : Int) then (if (rd x0 x5) = (rd x1 x5) then (stolonref01_Rows.l0 k x0 x1 (wrap64 (x5 + 1))) else (some false)) else (none)) else (none)) else (some true)
def stolonref01_Rows.f (k : Nat) (l0 : List Int) (l1 : List Int) : Option (Bool) := if (l0.length : Int) = (l1.length : Int) then (stolonref01_Rows.l0 k l0 l1 0) else (some false)
theorem stolonref01_Rows.mono_l : ∀ k, (∀ y0 y1 y2, LeO (stolonref01_Rows.l0 k y0 y1 y2) (stolonref01_Rows.l0 (k + 1) y0 y1 y2))
  | 0 => fun _ _ _ r h => by simp [stolonref01_Rows.l0] at h
  | k + 1 => by
    have ih0 := stolonref01_Rows.mono_l k
    · intro y0 y1 y2
      unfold stolonref01_Rows.l0
      repeat' first
      | (with_reducible exact ih0 _ _ _)
      | (with_reducible exact LeO.refl _)
      | (with_reducible exact LeO.none _)
      | (with_reducible refine LeO.ite ?_ ?_)
      | (with_reducible refine LeO.bind ?_ (fun _ => ?_))
      | exact ih0 _ _ _
      | exact LeO.none _
      | refine LeO.ite ?_ ?_
      | refine LeO.bind ?_ (fun _ => ?_)
theorem stolonref01_Rows.mono : ∀ a0 a1 k, LeO (stolonref01_Rows.f k a0 a1) (stolonref01_Rows.f (k + 1) a0 a1) := by
  intro a0 a1 k
  have ih0 := stolonref01_Rows.mono_l k
  unfold stolonref01_Rows.f
  repeat' first
      | (with_reducible exact ih0 _ _ _)
      | (with_reducible exact LeO.refl _)
      | (with_reducible exact LeO.none _)
      | (with_reducible refine LeO.ite ?_ ?_)
      | (with_reducible refine LeO.bind ?_ (fun _ => ?_))
      | exact ih0 _ _ _
      | exact LeO.none _
      | refine LeO.ite ?_ ?_
      | refine LeO.bind ?_ (fun _ => ?_)
theorem stolonref01_Rows.calls (k : Nat) (A0 : Option Addr) (c0 : Nat) (l0 : List Int) (A1 : Option Addr) (c1 : Nat) (l1 : List Int) (r : Bool) (w : World) (hr0 : Kd.C (Kd.int .u32) w A0 l0.length l0) (hc0 : l0.length ≤ c0) (hr1 : Kd.C (Kd.int .u32) w A1 l1.length l1) (hc1 : l1.length ≤ c1) (h : stolonref01_Rows.f k l0 l1 = some r) :
    Calls Try.prog 33 #[.slice A0 l0.length c0, .slice A1 l1.length c1] w fun e w' => e = .returned (.bool r) ∧ Drawn0 w w' := by
  have HR0 := Aside0.mk hr0
  have HC0 := Aside0.mk hc0
  clear hr0 hc0
  have HR1 := Aside0.mk hr1
  have HC1 := Aside0.mk hc1
  clear hr1 hc1
  have H : (if (l0.length : Int) = (l1.length : Int) then (stolonref01_Rows.l0 k l0 l1 0) else (some false)) = some r := h
  clear h
  by_cases c3 : (l0.length : Int) = (l1.length : Int)
  · rw [if_pos c3] at H
    have c3b0 : ((l0.length : Int) == (l1.length : Int)) = true := beq_iff_eq.mpr c3
    have c3b1 : ((l0.length : Int) != (l1.length : Int)) = false := bne_eq_false_iff_eq.mpr c3
    have c3b2 : (l0.length == l1.length) = true := by first | simpa using c3 | (simp at c3 ⊢; omega)
    clear c3
    have H' := Aside0.mk H
    clear H
    go_enter Try.func33, Try.ntmps33
    go_wp2
    repeat (go_quiet (fail); try go_wp2)
    go_loopg [5] k (fun kq v5 w' => ∃ (x5_1 : Int), v5 = .int .i64 x5_1 ∧ Aside0 (stolonref01_Rows.l0 kq l0 l1 x5_1 = some r) ∧ Aside0 (kq ≤ k) ∧ Drawn0 w w')
    case atStart => exact ⟨(0), (fr), H', ⟨Nat.le_refl _⟩, by repeat (first | exact Drawn0.refl _ | apply Drawn0.step)⟩
    case round =>
      clear H'
      try clear c1
      try clear p2
      try clear c3
      try clear c3b0
      try clear c3b1
      try clear c3b2
      obtain ⟨x5_1, rfl, HA, HK1, ⟨m1, rfl⟩⟩ := hrel
      cases gk with
      | zero => exact absurd HA.out (by simp [stolonref01_Rows.l0])
      | succ k1 =>
        have H := HA.out
        clear HA
        simp only [stolonref01_Rows.l0] at H
        by_cases c4 : x5_1 < (l0.length : Int)
        · rw [if_pos c4] at H
          have c4b0 : decide (x5_1 < (l0.length : Int)) = true := decide_eq_true c4
          clear c4
          by_cases c5 : 0 ≤ x5_1
          · rw [if_pos c5] at H
            have c5b0 : decide (0 ≤ x5_1) = true := decide_eq_true c5
            clear c5
            by_cases c6 : x5_1 < (l1.length : Int)
            · rw [if_pos c6] at H
              have c6b0 : decide (x5_1 < (l1.length : Int)) = true := decide_eq_true c6
              clear c6
              by_cases c7 : (rd l0 x5_1) = (rd l1 x5_1)
              · rw [if_pos c7] at H
                have c7b0 : ((rd l0 x5_1) == (rd l1 x5_1)) = true := beq_iff_eq.mpr c7
                have c7b1 : ((rd l0 x5_1) != (rd l1 x5_1)) = false := bne_eq_false_iff_eq.mpr c7
                clear c7
                have H' := Aside0.mk H
                clear H
                have p101 : 0 ≤ (x5_1 : Int) := od
                have q101 : x5_1 < (l0.length : Int) := od
                obtain ⟨ad101, e101, hx101_0⟩ := Kd.at_int HR0.out x5_1 p101 q101
                cases e101
                replace p101 := eq_true p101
                replace q101 := eq_true q101
                have p102 : 0 ≤ (x5_1 : Int) := od
                have q102 : x5_1 < (l1.length : Int) := od
                obtain ⟨ad102, e102, hx102_0⟩ := Kd.at_int HR1.out x5_1 p102 q102
                cases e102
                replace p102 := eq_true p102
                replace q102 := eq_true q102
                go_wp2
                repeat (go_quiet (fail); try go_wp2)
                go_roundg k1
                case measure => have := HK1.out; omega
                case rel => exact ⟨(wrap64 (x5_1 + 1)), (fr), H', ⟨by have := HK1.out; omega⟩, by repeat (first | exact Drawn0.refl _ | apply Drawn0.step)⟩
              · rw [if_neg c7] at H
                have c7b0 : ((rd l0 x5_1) == (rd l1 x5_1)) = false := beq_eq_false_iff_ne.mpr c7
                have c7b1 : ((rd l0 x5_1) != (rd l1 x5_1)) = true := bne_iff_ne.mpr c7
                obtain rfl := Option.some.inj H
                have p101 : 0 ≤ (x5_1 : Int) := od
                have q101 : x5_1 < (l0.length : Int) := od
                obtain ⟨ad101, e101, hx101_0⟩ := Kd.at_int HR0.out x5_1 p101 q101
                cases e101
                replace p101 := eq_true p101
                replace q101 := eq_true q101
                have p102 : 0 ≤ (x5_1 : Int) := od
                have q102 : x5_1 < (l1.length : Int) := od
                obtain ⟨ad102, e102, hx102_0⟩ := Kd.at_int HR1.out x5_1 p102 q102
                cases e102
                replace p102 := eq_true p102
                replace q102 := eq_true q102
                go_wp2
                repeat (go_quiet (fail); try go_wp2)
                go_ret
                exact ⟨fr, by repeat (first | exact Drawn0.refl _ | apply Drawn0.step)⟩
            · rw [if_neg c6] at H
              exact absurd H (by simp)
          · rw [if_neg c5] at H
            exact absurd H (by simp)
        · rw [if_neg c4] at H
          have c4b0 : decide (x5_1 < (l0.length : Int)) = false := decide_eq_false c4
          clear c4
          obtain rfl := Option.some.inj H
          go_wp2
          repeat (go_quiet (fail); try go_wp2)
          go_ret
          exact ⟨fr, by repeat (first | exact Drawn0.refl _ | apply Drawn0.step)⟩
  · rw [if_neg c3] at H
    have c3b0 : ((l0.length : Int) == (l1.length : Int)) = false := beq_eq_false_iff_ne.mpr c3
    have c3b1 : ((l0.length : Int) != (l1.length : Int)) = true := bne_iff_ne.mpr c3
    have c3b2 : (l0.length == l1.length) = false := by first | simpa using c3 | (simp at c3 ⊢; omega)
    obtain rfl := Option.some.inj H
    go_enter Try.func33, Try.ntmps33
    go_wp2
    repeat (go_quiet (fail); try go_wp2)
    go_ret
    exact ⟨fr, by repeat (first | exact Drawn0.refl _ | apply Drawn0.step)⟩

/-! ### stolonref08_Asks: function 15 -/
def stolonref08_Asks.l0 : Nat → List (S46) → List (S46) → Int → Option (Bool)
  | 0, _, _, _ => none
  | k + 1, x0, x1, x5 => if x5 < (x0.length : Int) then (if 0 ≤ x5 then (if x5 < (x1.length : Int) then ((stolonref01_Rows.f k ((rd_T46 x0 x5).f1) ((rd_T46 x1 x5).f1)).bind fun t105 => (if t105 = true then (if ((rd_T46 x0 x5).f0) = ((rd_T46 x1 x5).f0) then (stolonref08_Asks.l0 k x0 x1 (wrap64 (x5 + 1))) else (some false)) else (some false))) else (none)) else (none)) else (some true)
def stolonref08_Asks.f (k : Nat) (l0 : List (S46)) (l1 : List (S46)) : Option (Bool) := if (l0.length : Int) = (l1.length : Int) then (stolonref08_Asks.l0 k l0 l1 0) else (some false)
theorem stolonref08_Asks.mono_l : ∀ k, (∀ y0 y1 y2, LeO (stolonref08_Asks.l0 k y0 y1 y2) (stolonref08_Asks.l0 (k + 1) y0 y1 y2))
  | 0 => fun _ _ _ r h => by simp [stolonref08_Asks.l0] at h
  | k + 1 => by
    have ih0 := stolonref08_Asks.mono_l k
    · intro y0 y1 y2
      unfold stolonref08_Asks.l0
      repeat' first
      | (with_reducible exact ih0 _ _ _)
      | (with_reducible exact stolonref01_Rows.mono _ _ _)
      | (with_reducible exact LeO.refl _)
      | (with_reducible exact LeO.none _)
      | (with_reducible refine LeO.ite ?_ ?_)
      | (with_reducible refine LeO.bind ?_ (fun _ => ?_))
      | exact ih0 _ _ _
      | exact stolonref01_Rows.mono _ _ _
      | exact LeO.none _
      | refine LeO.ite ?_ ?_
      | refine LeO.bind ?_ (fun _ => ?_)
theorem stolonref08_Asks.mono : ∀ a0 a1 k, LeO (stolonref08_Asks.f k a0 a1) (stolonref08_Asks.f (k + 1) a0 a1) := by
  intro a0 a1 k
  have ih0 := stolonref08_Asks.mono_l k
  unfold stolonref08_Asks.f
  repeat' first
      | (with_reducible exact ih0 _ _ _)
      | (with_reducible exact stolonref01_Rows.mono _ _ _)
      | (with_reducible exact LeO.refl _)
      | (with_reducible exact LeO.none _)
      | (with_reducible refine LeO.ite ?_ ?_)
      | (with_reducible refine LeO.bind ?_ (fun _ => ?_))
      | exact ih0 _ _ _
      | exact stolonref01_Rows.mono _ _ _
      | exact LeO.none _
      | refine LeO.ite ?_ ?_
      | refine LeO.bind ?_ (fun _ => ?_)
theorem stolonref08_Asks.calls (k : Nat) (A0 : Option Addr) (c0 : Nat) (l0 : List (S46)) (A1 : Option Addr) (c1 : Nat) (l1 : List (S46)) (r : Bool) (w : World) (hr0 : Kd.C k46 w A0 l0.length l0) (hc0 : l0.length ≤ c0) (hr1 : Kd.C k46 w A1 l1.length l1) (hc1 : l1.length ≤ c1) (h : stolonref08_Asks.f k l0 l1 = some r) :
    Calls Try.prog 15 #[.slice A0 l0.length c0, .slice A1 l1.length c1] w fun e w' => e = .returned (.bool r) ∧ Drawn0 w w' := by
  have HR0 := Aside0.mk hr0
  have HC0 := Aside0.mk hc0
  clear hr0 hc0
  have HR1 := Aside0.mk hr1
  have HC1 := Aside0.mk hc1
  clear hr1 hc1
  have H : (if (l0.length : Int) = (l1.length : Int) then (stolonref08_Asks.l0 k l0 l1 0) else (some false)) = some r := h
  clear h
  by_cases c3 : (l0.length : Int) = (l1.length : Int)
  · rw [if_pos c3] at H
    have c3b0 : ((l0.length : Int) == (l1.length : Int)) = true := beq_iff_eq.mpr c3
    have c3b1 : ((l0.length : Int) != (l1.length : Int)) = false := bne_eq_false_iff_eq.mpr c3
    have c3b2 : (l0.length == l1.length) = true := by first | simpa using c3 | (simp at c3 ⊢; omega)
    clear c3
    have H' := Aside0.mk H
    clear H
    go_enter Try.func15, Try.ntmps15
    go_wp2
    repeat (go_quiet (fail); try go_wp2)
    go_loopg [5] k (fun kq v5 w' => ∃ (x5_1 : Int), v5 = .int .i64 x5_1 ∧ Aside0 (stolonref08_Asks.l0 kq l0 l1 x5_1 = some r) ∧ Aside0 (kq ≤ k) ∧ Drawn0 w w')
    case atStart => exact ⟨(0), (fr), H', ⟨Nat.le_refl _⟩, by repeat (first | exact Drawn0.refl _ | apply Drawn0.step)⟩
    case round =>
      clear H'
      try clear c1
      try clear p2
      try clear c3
      try clear c3b0
      try clear c3b1
      try clear c3b2
      obtain ⟨x5_1, rfl, HA, HK1, ⟨m1, rfl⟩⟩ := hrel
      cases gk with
      | zero => exact absurd HA.out (by simp [stolonref08_Asks.l0])
      | succ k1 =>
        have H := HA.out
        clear HA
        simp only [stolonref08_Asks.l0] at H
        by_cases c4 : x5_1 < (l0.length : Int)
        · rw [if_pos c4] at H
          have c4b0 : decide (x5_1 < (l0.length : Int)) = true := decide_eq_true c4
          clear c4
          by_cases c5 : 0 ≤ x5_1
          · rw [if_pos c5] at H
            have c5b0 : decide (0 ≤ x5_1) = true := decide_eq_true c5
            clear c5
            by_cases c6 : x5_1 < (l1.length : Int)
            · rw [if_pos c6] at H
              have c6b0 : decide (x5_1 < (l1.length : Int)) = true := decide_eq_true c6
              clear c6
              replace H := Option.bind_eq_some_iff.mp H
              obtain ⟨t105, A70, H⟩ := H
              replace H : (if t105 = true then (if ((rd_T46 l0 x5_1).f0) = ((rd_T46 l1 x5_1).f0) then (stolonref08_Asks.l0 k1 l0 l1 (wrap64 (x5_1 + 1))) else (some false)) else (some false)) = some r := H
              have A7 := Aside0.mk A70
              clear A70
              by_cases c8 : t105 = true
              · subst c8
                replace H : (if ((rd_T46 l0 x5_1).f0) = ((rd_T46 l1 x5_1).f0) then (stolonref08_Asks.l0 k1 l0 l1 (wrap64 (x5_1 + 1))) else (some false)) = some r := by rw [if_pos rfl] at H; exact H
                by_cases c9 : ((rd_T46 l0 x5_1).f0) = ((rd_T46 l1 x5_1).f0)
                · rw [if_pos c9] at H
                  have c9b0 : (((rd_T46 l0 x5_1).f0) == ((rd_T46 l1 x5_1).f0)) = true := beq_iff_eq.mpr c9
                  have c9b1 : (((rd_T46 l0 x5_1).f0) != ((rd_T46 l1 x5_1).f0)) = false := bne_eq_false_iff_eq.mpr c9
                  clear c9
                  have H' := Aside0.mk H
                  clear H
                  have p103 : 0 ≤ (x5_1 : Int) := od
                  have q103 : x5_1 < (l0.length : Int) := od
                  obtain ⟨ad103, A103_1, c103_1, e103, hx103_0, hx103_1, hl103_1, hi103_1⟩ := at_T46 HR0.out x5_1 p103 q103
                  cases e103
                  have HR103_1 := Aside0.mk hi103_1
                  have HC103_1 := Aside0.mk hl103_1
                  clear hi103_1 hl103_1
                  replace p103 := eq_true p103
                  replace q103 := eq_true q103
                  have p104 : 0 ≤ (x5_1 : Int) := od
                  have q104 : x5_1 < (l1.length : Int) := od
                  obtain ⟨ad104, A104_1, c104_1, e104, hx104_0, hx104_1, hl104_1, hi104_1⟩ := at_T46 HR1.out x5_1 p104 q104
                  cases e104
                  have HR104_1 := Aside0.mk hi104_1
                  have HC104_1 := Aside0.mk hl104_1
                  clear hi104_1 hl104_1
                  replace p104 := eq_true p104
                  replace q104 := eq_true q104
                  go_wp2_with (first | (go_at_call 33; (with_reducible refine (stolonref01_Rows.calls k1 _ _ ((rd_T46 l0 x5_1).f1) _ _ ((rd_T46 l1 x5_1).f1) true _ ?side1 ?side2 ?side3 ?side4 A7.out).mono ?_); (case side1 => exact ca HR103_1.out); (case side2 => exact HC103_1.out); (case side3 => exact ca HR104_1.out); (case side4 => exact HC104_1.out); rintro e w' ⟨rfl, ⟨nd, rfl⟩⟩; (try first | exact ⟨rfl, _, World.drewN_drewN _ _ _⟩ | exact ⟨rfl, _, Eq.trans (World.drewN_drewN _ _ _) (congrArg (World.drewN _) (Nat.add_assoc _ _ _))⟩); have p106 : 0 ≤ (x5_1 : Int) := od; have q106 : x5_1 < (l0.length : Int) := od; obtain ⟨ad106, A106_1, c106_1, e106, hx106_0, hx106_1, hl106_1, hi106_1⟩ := at_T46 HR0.out x5_1 p106 q106; obtain rfl : ad103 = ad106 := (by injection e106); have HR106_1 := Aside0.mk hi106_1; have HC106_1 := Aside0.mk hl106_1; clear hi106_1 hl106_1; replace p106 := eq_true p106; replace q106 := eq_true q106; have ea_ := Option.some.inj (hx103_1.symm.trans hx106_1); injection ea_ with ea_ en_ ec_; subst ea_; subst ec_; clear en_; have p107 : 0 ≤ (x5_1 : Int) := od; have q107 : x5_1 < (l1.length : Int) := od; obtain ⟨ad107, A107_1, c107_1, e107, hx107_0, hx107_1, hl107_1, hi107_1⟩ := at_T46 HR1.out x5_1 p107 q107; obtain rfl : ad104 = ad107 := (by injection e107); have HR107_1 := Aside0.mk hi107_1; have HC107_1 := Aside0.mk hl107_1; clear hi107_1 hl107_1; replace p107 := eq_true p107; replace q107 := eq_true q107; have ea_ := Option.some.inj (hx104_1.symm.trans hx107_1); injection ea_ with ea_ en_ ec_; subst ea_; subst ec_; clear en_))
                  repeat (go_quiet (first | (go_at_call 33; (with_reducible refine (stolonref01_Rows.calls k1 _ _ ((rd_T46 l0 x5_1).f1) _ _ ((rd_T46 l1 x5_1).f1) true _ ?side1 ?side2 ?side3 ?side4 A7.out).mono ?_); (case side1 => exact ca HR103_1.out); (case side2 => exact HC103_1.out); (case side3 => exact ca HR104_1.out); (case side4 => exact HC104_1.out); rintro e w' ⟨rfl, ⟨nd, rfl⟩⟩; (try first | exact ⟨rfl, _, World.drewN_drewN _ _ _⟩ | exact ⟨rfl, _, Eq.trans (World.drewN_drewN _ _ _) (congrArg (World.drewN _) (Nat.add_assoc _ _ _))⟩); have p106 : 0 ≤ (x5_1 : Int) := od; have q106 : x5_1 < (l0.length : Int) := od; obtain ⟨ad106, A106_1, c106_1, e106, hx106_0, hx106_1, hl106_1, hi106_1⟩ := at_T46 HR0.out x5_1 p106 q106; obtain rfl : ad103 = ad106 := (by injection e106); have HR106_1 := Aside0.mk hi106_1; have HC106_1 := Aside0.mk hl106_1; clear hi106_1 hl106_1; replace p106 := eq_true p106; replace q106 := eq_true q106; have ea_ := Option.some.inj (hx103_1.symm.trans hx106_1); injection ea_ with ea_ en_ ec_; subst ea_; subst ec_; clear en_; have p107 : 0 ≤ (x5_1 : Int) := od; have q107 : x5_1 < (l1.length : Int) := od; obtain ⟨ad107, A107_1, c107_1, e107, hx107_0, hx107_1, hl107_1, hi107_1⟩ := at_T46 HR1.out x5_1 p107 q107; obtain rfl : ad104 = ad107 := (by injection e107); have HR107_1 := Aside0.mk hi107_1; have HC107_1 := Aside0.mk hl107_1; clear hi107_1 hl107_1; replace p107 := eq_true p107; replace q107 := eq_true q107; have ea_ := Option.some.inj (hx104_1.symm.trans hx107_1); injection ea_ with ea_ en_ ec_; subst ea_; subst ec_; clear en_)); try go_wp2_with (first | (go_at_call 33; (with_reducible refine (stolonref01_Rows.calls k1 _ _ ((rd_T46 l0 x5_1).f1) _ _ ((rd_T46 l1 x5_1).f1) true _ ?side1 ?side2 ?side3 ?side4 A7.out).mono ?_); (case side1 => exact ca HR103_1.out); (case side2 => exact HC103_1.out); (case side3 => exact ca HR104_1.out); (case side4 => exact HC104_1.out); rintro e w' ⟨rfl, ⟨nd, rfl⟩⟩; (try first | exact ⟨rfl, _, World.drewN_drewN _ _ _⟩ | exact ⟨rfl, _, Eq.trans (World.drewN_drewN _ _ _) (congrArg (World.drewN _) (Nat.add_assoc _ _ _))⟩); have p106 : 0 ≤ (x5_1 : Int) := od; have q106 : x5_1 < (l0.length : Int) := od; obtain ⟨ad106, A106_1, c106_1, e106, hx106_0, hx106_1, hl106_1, hi106_1⟩ := at_T46 HR0.out x5_1 p106 q106; obtain rfl : ad103 = ad106 := (by injection e106); have HR106_1 := Aside0.mk hi106_1; have HC106_1 := Aside0.mk hl106_1; clear hi106_1 hl106_1; replace p106 := eq_true p106; replace q106 := eq_true q106; have ea_ := Option.some.inj (hx103_1.symm.trans hx106_1); injection ea_ with ea_ en_ ec_; subst ea_; subst ec_; clear en_; have p107 : 0 ≤ (x5_1 : Int) := od; have q107 : x5_1 < (l1.length : Int) := od; obtain ⟨ad107, A107_1, c107_1, e107, hx107_0, hx107_1, hl107_1, hi107_1⟩ := at_T46 HR1.out x5_1 p107 q107; obtain rfl : ad104 = ad107 := (by injection e107); have HR107_1 := Aside0.mk hi107_1; have HC107_1 := Aside0.mk hl107_1; clear hi107_1 hl107_1; replace p107 := eq_true p107; replace q107 := eq_true q107; have ea_ := Option.some.inj (hx104_1.symm.trans hx107_1); injection ea_ with ea_ en_ ec_; subst ea_; subst ec_; clear en_)))
                  go_roundg k1
                  case measure => have := HK1.out; omega
                  case rel => exact ⟨(wrap64 (x5_1 + 1)), (fr), H', ⟨by have := HK1.out; omega⟩, by repeat (first | exact Drawn0.refl _ | apply Drawn0.step)⟩
                · rw [if_neg c9] at H
                  have c9b0 : (((rd_T46 l0 x5_1).f0) == ((rd_T46 l1 x5_1).f0)) = false := beq_eq_false_iff_ne.mpr c9
                  have c9b1 : (((rd_T46 l0 x5_1).f0) != ((rd_T46 l1 x5_1).f0)) = true := bne_iff_ne.mpr c9
                  obtain rfl := Option.some.inj H
                  have p103 : 0 ≤ (x5_1 : Int) := od
                  have q103 : x5_1 < (l0.length : Int) := od
                  obtain ⟨ad103, A103_1, c103_1, e103, hx103_0, hx103_1, hl103_1, hi103_1⟩ := at_T46 HR0.out x5_1 p103 q103
                  cases e103
                  have HR103_1 := Aside0.mk hi103_1
                  have HC103_1 := Aside0.mk hl103_1
                  clear hi103_1 hl103_1
                  replace p103 := eq_true p103
                  replace q103 := eq_true q103
                  have p104 : 0 ≤ (x5_1 : Int) := od
                  have q104 : x5_1 < (l1.length : Int) := od
                  obtain ⟨ad104, A104_1, c104_1, e104, hx104_0, hx104_1, hl104_1, hi104_1⟩ := at_T46 HR1.out x5_1 p104 q104
                  cases e104
                  have HR104_1 := Aside0.mk hi104_1
                  have HC104_1 := Aside0.mk hl104_1
                  clear hi104_1 hl104_1
                  replace p104 := eq_true p104
                  replace q104 := eq_true q104
                  go_wp2_with (first | (go_at_call 33; (with_reducible refine (stolonref01_Rows.calls k1 _ _ ((rd_T46 l0 x5_1).f1) _ _ ((rd_T46 l1 x5_1).f1) true _ ?side1 ?side2 ?side3 ?side4 A7.out).mono ?_); (case side1 => exact ca HR103_1.out); (case side2 => exact HC103_1.out); (case side3 => exact ca HR104_1.out); (case side4 => exact HC104_1.out); rintro e w' ⟨rfl, ⟨nd, rfl⟩⟩; (try first | exact ⟨rfl, _, World.drewN_drewN _ _ _⟩ | exact ⟨rfl, _, Eq.trans (World.drewN_drewN _ _ _) (congrArg (World.drewN _) (Nat.add_assoc _ _ _))⟩); have p106 : 0 ≤ (x5_1 : Int) := od; have q106 : x5_1 < (l0.length : Int) := od; obtain ⟨ad106, A106_1, c106_1, e106, hx106_0, hx106_1, hl106_1, hi106_1⟩ := at_T46 HR0.out x5_1 p106 q106; obtain rfl : ad103 = ad106 := (by injection e106); have HR106_1 := Aside0.mk hi106_1; have HC106_1 := Aside0.mk hl106_1; clear hi106_1 hl106_1; replace p106 := eq_true p106; replace q106 := eq_true q106; have ea_ := Option.some.inj (hx103_1.symm.trans hx106_1); injection ea_ with ea_ en_ ec_; subst ea_; subst ec_; clear en_; have p107 : 0 ≤ (x5_1 : Int) := od; have q107 : x5_1 < (l1.length : Int) := od; obtain ⟨ad107, A107_1, c107_1, e107, hx107_0, hx107_1, hl107_1, hi107_1⟩ := at_T46 HR1.out x5_1 p107 q107; obtain rfl : ad104 = ad107 := (by injection e107); have HR107_1 := Aside0.mk hi107_1; have HC107_1 := Aside0.mk hl107_1; clear hi107_1 hl107_1; replace p107 := eq_true p107; replace q107 := eq_true q107; have ea_ := Option.some.inj (hx104_1.symm.trans hx107_1); injection ea_ with ea_ en_ ec_; subst ea_; subst ec_; clear en_))
                  repeat (go_quiet (first | (go_at_call 33; (with_reducible refine (stolonref01_Rows.calls k1 _ _ ((rd_T46 l0 x5_1).f1) _ _ ((rd_T46 l1 x5_1).f1) true _ ?side1 ?side2 ?side3 ?side4 A7.out).mono ?_); (case side1 => exact ca HR103_1.out); (case side2 => exact HC103_1.out); (case side3 => exact ca HR104_1.out); (case side4 => exact HC104_1.out); rintro e w' ⟨rfl, ⟨nd, rfl⟩⟩; (try first | exact ⟨rfl, _, World.drewN_drewN _ _ _⟩ | exact ⟨rfl, _, Eq.trans (World.drewN_drewN _ _ _) (congrArg (World.drewN _) (Nat.add_assoc _ _ _))⟩); have p106 : 0 ≤ (x5_1 : Int) := od; have q106 : x5_1 < (l0.length : Int) := od; obtain ⟨ad106, A106_1, c106_1, e106, hx106_0, hx106_1, hl106_1, hi106_1⟩ := at_T46 HR0.out x5_1 p106 q106; obtain rfl : ad103 = ad106 := (by injection e106); have HR106_1 := Aside0.mk hi106_1; have HC106_1 := Aside0.mk hl106_1; clear hi106_1 hl106_1; replace p106 := eq_true p106; replace q106 := eq_true q106; have ea_ := Option.some.inj (hx103_1.symm.trans hx106_1); injection ea_ with ea_ en_ ec_; subst ea_; subst ec_; clear en_; have p107 : 0 ≤ (x5_1 : Int) := od; have q107 : x5_1 < (l1.length : Int) := od; obtain ⟨ad107, A107_1, c107_1, e107, hx107_0, hx107_1, hl107_1, hi107_1⟩ := at_T46 HR1.out x5_1 p107 q107; obtain rfl : ad104 = ad107 := (by injection e107); have HR107_1 := Aside0.mk hi107_1; have HC107_1 := Aside0.mk hl107_1; clear hi107_1 hl107_1; replace p107 := eq_true p107; replace q107 := eq_true q107; have ea_ := Option.some.inj (hx104_1.symm.trans hx107_1); injection ea_ with ea_ en_ ec_; subst ea_; subst ec_; clear en_)); try go_wp2_with (first | (go_at_call 33; (with_reducible refine (stolonref01_Rows.calls k1 _ _ ((rd_T46 l0 x5_1).f1) _ _ ((rd_T46 l1 x5_1).f1) true _ ?side1 ?side2 ?side3 ?side4 A7.out).mono ?_); (case side1 => exact ca HR103_1.out); (case side2 => exact HC103_1.out); (case side3 => exact ca HR104_1.out); (case side4 => exact HC104_1.out); rintro e w' ⟨rfl, ⟨nd, rfl⟩⟩; (try first | exact ⟨rfl, _, World.drewN_drewN _ _ _⟩ | exact ⟨rfl, _, Eq.trans (World.drewN_drewN _ _ _) (congrArg (World.drewN _) (Nat.add_assoc _ _ _))⟩); have p106 : 0 ≤ (x5_1 : Int) := od; have q106 : x5_1 < (l0.length : Int) := od; obtain ⟨ad106, A106_1, c106_1, e106, hx106_0, hx106_1, hl106_1, hi106_1⟩ := at_T46 HR0.out x5_1 p106 q106; obtain rfl : ad103 = ad106 := (by injection e106); have HR106_1 := Aside0.mk hi106_1; have HC106_1 := Aside0.mk hl106_1; clear hi106_1 hl106_1; replace p106 := eq_true p106; replace q106 := eq_true q106; have ea_ := Option.some.inj (hx103_1.symm.trans hx106_1); injection ea_ with ea_ en_ ec_; subst ea_; subst ec_; clear en_; have p107 : 0 ≤ (x5_1 : Int) := od; have q107 : x5_1 < (l1.length : Int) := od; obtain ⟨ad107, A107_1, c107_1, e107, hx107_0, hx107_1, hl107_1, hi107_1⟩ := at_T46 HR1.out x5_1 p107 q107; obtain rfl : ad104 = ad107 := (by injection e107); have HR107_1 := Aside0.mk hi107_1; have HC107_1 := Aside0.mk hl107_1; clear hi107_1 hl107_1; replace p107 := eq_true p107; replace q107 := eq_true q107; have ea_ := Option.some.inj (hx104_1.symm.trans hx107_1); injection ea_ with ea_ en_ ec_; subst ea_; subst ec_; clear en_)))
                  go_ret
                  exact ⟨fr, by repeat (first | exact Drawn0.refl _ | apply Drawn0.step)⟩
              · replace c8 := Bool.eq_false_iff.mpr c8
                subst c8
                replace H : (some false) = some r := by rw [if_neg (show ¬ (false = true) by decide)] at H; exact H
                obtain rfl := Option.some.inj H
                have p103 : 0 ≤ (x5_1 : Int) := od
                have q103 : x5_1 < (l0.length : Int) := od
                obtain ⟨ad103, A103_1, c103_1, e103, hx103_0, hx103_1, hl103_1, hi103_1⟩ := at_T46 HR0.out x5_1 p103 q103
                cases e103
                have HR103_1 := Aside0.mk hi103_1
                have HC103_1 := Aside0.mk hl103_1
                clear hi103_1 hl103_1
                replace p103 := eq_true p103
                replace q103 := eq_true q103
                have p104 : 0 ≤ (x5_1 : Int) := od
                have q104 : x5_1 < (l1.length : Int) := od
                obtain ⟨ad104, A104_1, c104_1, e104, hx104_0, hx104_1, hl104_1, hi104_1⟩ := at_T46 HR1.out x5_1 p104 q104
                cases e104
                have HR104_1 := Aside0.mk hi104_1
                have HC104_1 := Aside0.mk hl104_1
                clear hi104_1 hl104_1
                replace p104 := eq_true p104
                replace q104 := eq_true q104
                go_wp2_with (first | (go_at_call 33; (with_reducible refine (stolonref01_Rows.calls k1 _ _ ((rd_T46 l0 x5_1).f1) _ _ ((rd_T46 l1 x5_1).f1) false _ ?side1 ?side2 ?side3 ?side4 A7.out).mono ?_); (case side1 => exact ca HR103_1.out); (case side2 => exact HC103_1.out); (case side3 => exact ca HR104_1.out); (case side4 => exact HC104_1.out); rintro e w' ⟨rfl, ⟨nd, rfl⟩⟩; (try first | exact ⟨rfl, _, World.drewN_drewN _ _ _⟩ | exact ⟨rfl, _, Eq.trans (World.drewN_drewN _ _ _) (congrArg (World.drewN _) (Nat.add_assoc _ _ _))⟩)))
                repeat (go_quiet (first | (go_at_call 33; (with_reducible refine (stolonref01_Rows.calls k1 _ _ ((rd_T46 l0 x5_1).f1) _ _ ((rd_T46 l1 x5_1).f1) false _ ?side1 ?side2 ?side3 ?side4 A7.out).mono ?_); (case side1 => exact ca HR103_1.out); (case side2 => exact HC103_1.out); (case side3 => exact ca HR104_1.out); (case side4 => exact HC104_1.out); rintro e w' ⟨rfl, ⟨nd, rfl⟩⟩; (try first | exact ⟨rfl, _, World.drewN_drewN _ _ _⟩ | exact ⟨rfl, _, Eq.trans (World.drewN_drewN _ _ _) (congrArg (World.drewN _) (Nat.add_assoc _ _ _))⟩))); try go_wp2_with (first | (go_at_call 33; (with_reducible refine (stolonref01_Rows.calls k1 _ _ ((rd_T46 l0 x5_1).f1) _ _ ((rd_T46 l1 x5_1).f1) false _ ?side1 ?side2 ?side3 ?side4 A7.out).mono ?_); (case side1 => exact ca HR103_1.out); (case side2 => exact HC103_1.out); (case side3 => exact ca HR104_1.out); (case side4 => exact HC104_1.out); rintro e w' ⟨rfl, ⟨nd, rfl⟩⟩; (try first | exact ⟨rfl, _, World.drewN_drewN _ _ _⟩ | exact ⟨rfl, _, Eq.trans (World.drewN_drewN _ _ _) (congrArg (World.drewN _) (Nat.add_assoc _ _ _))⟩))))
                go_ret
                exact ⟨fr, by repeat (first | exact Drawn0.refl _ | apply Drawn0.step)⟩
            · rw [if_neg c6] at H
              exact absurd H (by simp)
          · rw [if_neg c5] at H
            exact absurd H (by simp)
        · rw [if_neg c4] at H
          have c4b0 : decide (x5_1 < (l0.length : Int)) = false := decide_eq_false c4
          clear c4
          obtain rfl := Option.some.inj H
          go_wp2
          repeat (go_quiet (fail); try go_wp2)
          go_ret
          exact ⟨fr, by repeat (first | exact Drawn0.refl _ | apply Drawn0.step)⟩
  · rw [if_neg c3] at H
    have c3b0 : ((l0.length : Int) == (l1.length : Int)) = false := beq_eq_false_iff_ne.mpr c3
    have c3b1 : ((l0.length : Int) != (l1.length : Int)) = true := bne_iff_ne.mpr c3
    have c3b2 : (l0.length == l1.length) = false := by first | simpa using c3 | (simp at c3 ⊢; omega)
    obtain rfl := Option.some.inj H
    go_enter Try.func15, Try.ntmps15
    go_wp2
    repeat (go_quiet (fail); try go_wp2)
    go_ret
    exact ⟨fr, by repeat (first | exact Drawn0.refl _ | apply Drawn0.step)⟩

/-! ### stolonref08_left: function 68 -/
def stolonref08_left.l0 : Nat → Int → Int → Int → Bool → Int → List (S49) → Option (Int)
  | 0, _, _, _, _, _, _ => none
  | k + 1, x1, x5, x110000, x110001, x110002, x110003 => if x5 < (x110003.length : Int) then (if 0 ≤ x5 then (if ((rd_T49 x110003 x5).f0) = x1 then (some ((rd_T49 x110003 x5).f1)) else (stolonref08_left.l0 k x1 (wrap64 (x5 + 1)) x110000 x110001 x110002 x110003)) else (none)) else (some (-1))
def stolonref08_left.f (k : Nat) (a0_0 : Int) (a0_1 : Bool) (a0_2 : Int) (l0_3 : List (S49)) (a1 : Int) : Option (Int) := stolonref08_left.l0 k a1 0 a0_0 a0_1 a0_2 l0_3
theorem stolonref08_left.mono_l : ∀ k, (∀ y0 y1 y2 y3 y4 y5, LeO (stolonref08_left.l0 k y0 y1 y2 y3 y4 y5) (stolonref08_left.l0 (k + 1) y0 y1 y2 y3 y4 y5))
  | 0 => fun _ _ _ _ _ _ r h => by simp [stolonref08_left.l0] at h
  | k + 1 => by
    have ih0 := stolonref08_left.mono_l k
    · intro y0 y1 y2 y3 y4 y5
      unfold stolonref08_left.l0
      repeat' first
      | (with_reducible exact ih0 _ _ _ _ _ _)
      | (with_reducible exact LeO.refl _)
      | (with_reducible exact LeO.none _)
      | (with_reducible refine LeO.ite ?_ ?_)
      | (with_reducible refine LeO.bind ?_ (fun _ => ?_))
      | exact ih0 _ _ _ _ _ _
      | exact LeO.none _
      | refine LeO.ite ?_ ?_
      | refine LeO.bind ?_ (fun _ => ?_)
theorem stolonref08_left.mono : ∀ a0 a1 a2 a3 a4 k, LeO (stolonref08_left.f k a0 a1 a2 a3 a4) (stolonref08_left.f (k + 1) a0 a1 a2 a3 a4) := by
  intro a0 a1 a2 a3 a4 k
  have ih0 := stolonref08_left.mono_l k
  unfold stolonref08_left.f
  repeat' first
      | (with_reducible exact ih0 _ _ _ _ _ _)
      | (with_reducible exact LeO.refl _)
      | (with_reducible exact LeO.none _)
      | (with_reducible refine LeO.ite ?_ ?_)
      | (with_reducible refine LeO.bind ?_ (fun _ => ?_))
      | exact ih0 _ _ _ _ _ _
      | exact LeO.none _
      | refine LeO.ite ?_ ?_
      | refine LeO.bind ?_ (fun _ => ?_)
theorem stolonref08_left.calls (k : Nat) (a0_0 : Int) (a0_1 : Bool) (a0_2 : Int) (A0_3 : Option Addr) (c0_3 : Nat) (l0_3 : List (S49)) (a1 : Int) (r : Int) (w : World) (hr0_3 : Kd.C k49 w A0_3 l0_3.length l0_3) (hc0_3 : l0_3.length ≤ c0_3) (h : stolonref08_left.f k a0_0 a0_1 a0_2 l0_3 a1 = some r) :
    Calls Try.prog 68 #[.agg #[.int .u32 a0_0, .bool a0_1, .int .i64 a0_2, .slice A0_3 l0_3.length c0_3], .int .u32 a1] w fun e w' => e = .returned (.int .i64 r) ∧ Below w.heap.size w w' := by
  have hu28 := Try.underlying28
  have HR0_3 := Aside0.mk hr0_3
  have HC0_3 := Aside0.mk hc0_3
  clear hr0_3 hc0_3
  have HB := Aside0.mk (Below.refl w.heap.size w)
  have H : (stolonref08_left.l0 k a1 0 a0_0 a0_1 a0_2 l0_3) = some r := h
  clear h
  have H' := Aside0.mk H
  clear H
  go_enter Try.func68, Try.ntmps68
  go_wp2_with (first | ((with_reducible refine gate_dst (N := 2) rfl ?_); refine bxn (cs := #[.int .u32 a0_0, .bool a0_1, .int .i64 a0_2, .slice A0_3 l0_3.length c0_3]) (t := 28) ?_; intro gb109 hg w3 hbox hb; have BK109 := Aside0.mk (hbox); have GW109 := Aside0.mk ((by rw [hg]; exact (below_size (bl HB)) : w.heap.size ≤ gb109)); have GE109 := Aside0.mk ((by rw [hg]; exact (below_size (bl HB)) : w.heap.size ≤ gb109)); replace HB := Aside0.mk (below_step (bl HB) hb); clear hb hbox hg))
  go_loopg [5] k (fun kq v5 w' => ∃ (x5_1 : Int), v5 = .int .i64 x5_1 ∧ Aside0 (stolonref08_left.l0 kq a1 x5_1 a0_0 a0_1 a0_2 l0_3 = some r) ∧ Aside0 (kq ≤ k) ∧ Aside0 (w'.heap[gb109]? = some (.cells #[.int .u32 a0_0, .bool a0_1, .int .i64 a0_2, (.slice A0_3 l0_3.length c0_3)] 28 (0, 0))) ∧ Aside0 (Below w.heap.size w w'))
  case atStart => exact ⟨(0), (fr), H', ⟨Nat.le_refl _⟩, ⟨ba BK109.out⟩, ⟨bl HB⟩⟩
  case round =>
    clear H'
    try clear p2
    obtain ⟨x5_1, rfl, HA, HK1, BK109, HB⟩ := hrel
    cases gk with
    | zero => exact absurd HA.out (by simp [stolonref08_left.l0])
    | succ k1 =>
      have H := HA.out
      clear HA
      simp only [stolonref08_left.l0] at H
      by_cases c4 : x5_1 < (l0_3.length : Int)
      · rw [if_pos c4] at H
        have c4b0 : decide (x5_1 < (l0_3.length : Int)) = true := decide_eq_true c4
        clear c4
        by_cases c5 : 0 ≤ x5_1
        · rw [if_pos c5] at H
          have c5b0 : decide (0 ≤ x5_1) = true := decide_eq_true c5
          clear c5
          by_cases c6 : ((rd_T49 l0_3 x5_1).f0) = a1
          · rw [if_pos c6] at H
            have c6b0 : (((rd_T49 l0_3 x5_1).f0) == a1) = true := beq_iff_eq.mpr c6
            have c6b1 : (((rd_T49 l0_3 x5_1).f0) != a1) = false := bne_eq_false_iff_eq.mpr c6
            clear c6
            obtain rfl := Option.some.inj H
            obtain ⟨hcz7_0, hcz7_1, hcz7_2, hcz7_3, hfz7_0, hfz7_1, hfz7_2, hfz7_3⟩ := cf4 BK109.out
            have p110 : 0 ≤ (x5_1 : Int) := od
            have q110 : x5_1 < (l0_3.length : Int) := od
            obtain ⟨ad110, e110, hx110_0, hx110_1⟩ := at_T49 HR0_3.out x5_1 p110 q110
            cases e110
            replace hx110_0 := hcz HB hx110_0
            replace hx110_1 := hcz HB hx110_1
            replace p110 := eq_true p110
            replace q110 := eq_true q110
            have p111 : 0 ≤ (x5_1 : Int) := od
            have q111 : x5_1 < (l0_3.length : Int) := od
            obtain ⟨ad111, e111, hx111_0, hx111_1⟩ := at_T49 HR0_3.out x5_1 p111 q111
            obtain rfl : ad110 = ad111 := (by injection e111)
            replace hx111_0 := hcz HB hx111_0
            replace hx111_1 := hcz HB hx111_1
            replace p111 := eq_true p111
            replace q111 := eq_true q111
            go_wp2
            go_ret
            exact ⟨by first | rfl | (simp [errW_none, errW_some] <;> rfl) | (simp [*, errW_none, errW_some] <;> rfl), bl HB⟩
          · rw [if_neg c6] at H
            have c6b0 : (((rd_T49 l0_3 x5_1).f0) == a1) = false := beq_eq_false_iff_ne.mpr c6
            have c6b1 : (((rd_T49 l0_3 x5_1).f0) != a1) = true := bne_iff_ne.mpr c6
            have H' := Aside0.mk H
            clear H
            obtain ⟨hcz8_0, hcz8_1, hcz8_2, hcz8_3, hfz8_0, hfz8_1, hfz8_2, hfz8_3⟩ := cf4 BK109.out
            have p110 : 0 ≤ (x5_1 : Int) := od
            have q110 : x5_1 < (l0_3.length : Int) := od
            obtain ⟨ad110, e110, hx110_0, hx110_1⟩ := at_T49 HR0_3.out x5_1 p110 q110
            cases e110
            replace hx110_0 := hcz HB hx110_0
            replace hx110_1 := hcz HB hx110_1
            replace p110 := eq_true p110
            replace q110 := eq_true q110
            go_wp2
            go_roundg k1
            case measure => have := HK1.out; omega
            case rel => exact ⟨(wrap64 (x5_1 + 1)), (fr), H', ⟨by have := HK1.out; omega⟩, ⟨ba BK109.out⟩, ⟨bl HB⟩⟩
        · rw [if_neg c5] at H
          exact absurd H (by simp)
      · rw [if_neg c4] at H
        have c4b0 : decide (x5_1 < (l0_3.length : Int)) = false := decide_eq_false c4
        clear c4
        obtain rfl := Option.some.inj H
        obtain ⟨hcz9_0, hcz9_1, hcz9_2, hcz9_3, hfz9_0, hfz9_1, hfz9_2, hfz9_3⟩ := cf4 BK109.out
        go_wp2
        go_ret
        exact ⟨by first | rfl | (simp [errW_none, errW_some] <;> rfl) | (simp [*, errW_none, errW_some] <;> rfl), bl HB⟩

end Go.Proofs.Ytbllchfgjginoaa.PMe
