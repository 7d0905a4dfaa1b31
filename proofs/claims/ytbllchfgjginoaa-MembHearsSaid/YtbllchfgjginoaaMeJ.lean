/- Texts of a claim. -/
import Derived.Test.YtbllchfgjginoaaSoJ
import Derived.Test.YtbllchfgjginoaaPMf4
import Derived.Shelf.Spec.SlicesInsert
import Derived.Lib.AppendZerosOnto
import Derived.Lib.Overlaps
-- written by a program of this session (hprint.py), over the kit's printer
namespace Go.Proofs.Ytbllchfgjginoaa.PMe
set_option maxHeartbeats 8000000
set_option maxRecDepth 100000
open Go.RowKit Go.Proofs.YtbllchfgjginoaaW.PrintWords Go.Proofs.YtbllchfgjginoaaW.PrintLast Go.Proofs.YtbllchfgjginoaaW.PrintMore
attribute [local go_sem] max2_int min2_int max_two min_two max_three min_three max_four min_four   -- for this text's walks alone
set_option linter.unusedVariables false
set_option linter.unusedSimpArgs false

/-! ### api_Addr_69: function 69 -/
def api_Addr_69.f (a0 : Int) : Option (Bool) := some (a0 != a0)
theorem api_Addr_69.calls (a0 : Int) (r : Bool) (w : World) (h : api_Addr_69.f a0 = some r) :
    Calls Try.prog 69 #[.int .u32 a0] w fun e w' => e = .returned (.bool r) ∧ Drawn0 w w' := by
  have H : (some (a0 != a0)) = some r := h
  clear h
  obtain rfl := Option.some.inj H
  go_enter Try.func69, Try.ntmps69
  go_wp2
  go_ret
  exact ⟨fr, by repeat (first | exact Drawn0.refl _ | apply Drawn0.step)⟩

/-! ### api_Addr_81: function 81 -/
def api_Addr_81.f (a0 : Int) (a1 : Int) : Option (Bool) := (api_Addr_69.f a0).bind fun t101 => (if t101 = true then ((api_Addr_69.f a1).bind fun t102 => (if t102 = true then (some (decide (a0 < a1))) else (some true))) else (some (decide (a0 < a1))))
theorem api_Addr_81.calls (a0 : Int) (a1 : Int) (r : Bool) (w : World) (h : api_Addr_81.f a0 a1 = some r) :
    Calls Try.prog 81 #[.int .u32 a0, .int .u32 a1] w fun e w' => e = .returned (.bool r) ∧ Drawn0 w w' := by
  have H : ((api_Addr_69.f a0).bind fun t101 => (if t101 = true then ((api_Addr_69.f a1).bind fun t102 => (if t102 = true then (some (decide (a0 < a1))) else (some true))) else (some (decide (a0 < a1))))) = some r := h
  clear h
  replace H := Option.bind_eq_some_iff.mp H
  obtain ⟨t101, A30, H⟩ := H
  replace H : (if t101 = true then ((api_Addr_69.f a1).bind fun t102 => (if t102 = true then (some (decide (a0 < a1))) else (some true))) else (some (decide (a0 < a1)))) = some r := H
  have A3 := Aside0.mk A30
  clear A30
  by_cases c4 : t101 = true
  · subst c4
    replace H : ((api_Addr_69.f a1).bind fun t102 => (if t102 = true then (some (decide (a0 < a1))) else (some true))) = some r := by rw [if_pos rfl] at H; exact H
    replace H := Option.bind_eq_some_iff.mp H
    obtain ⟨t102, A50, H⟩ := H
    replace H : (if t102 = true then (some (decide (a0 < a1))) else (some true)) = some r := H
    have A5 := Aside0.mk A50
    clear A50
    by_cases c6 : t102 = true
    · subst c6
      replace H : (some (decide (a0 < a1))) = some r := by rw [if_pos rfl] at H; exact H
      obtain rfl := Option.some.inj H
      go_enter Try.func81, Try.ntmps81
      go_wp2_with (first | ((with_reducible refine gate_callee (f := 69) rfl ?_); refine goesL_ (some 6) rfl rfl Try.func69 (by kernel_rfl) rfl #[.int .u32 a0] rfl (by (try simp only [List.map_toArray, List.map_cons, List.map_nil]); first | done | rfl | (simp only [List.length_drop, List.length_take]; rfl)) ?_; (with_reducible refine (api_Addr_69.calls a0 true _ A3.out).mono ?_); rintro e w' ⟨rfl, ⟨nd, rfl⟩⟩; refine ⟨_, rfl, ?_⟩) | (go_at_call 69; (with_reducible refine (api_Addr_69.calls a1 true _ A5.out).mono ?_); rintro e w' ⟨rfl, ⟨nd, rfl⟩⟩))
      go_ret
      exact ⟨fr, by repeat (first | exact Drawn0.refl _ | apply Drawn0.step)⟩
    · replace c6 := Bool.eq_false_iff.mpr c6
      subst c6
      replace H : (some true) = some r := by rw [if_neg (show ¬ (false = true) by decide)] at H; exact H
      obtain rfl := Option.some.inj H
      go_enter Try.func81, Try.ntmps81
      go_wp2_with (first | ((with_reducible refine gate_callee (f := 69) rfl ?_); refine goesL_ (some 6) rfl rfl Try.func69 (by kernel_rfl) rfl #[.int .u32 a0] rfl (by (try simp only [List.map_toArray, List.map_cons, List.map_nil]); first | done | rfl | (simp only [List.length_drop, List.length_take]; rfl)) ?_; (with_reducible refine (api_Addr_69.calls a0 true _ A3.out).mono ?_); rintro e w' ⟨rfl, ⟨nd, rfl⟩⟩; refine ⟨_, rfl, ?_⟩) | (go_at_call 69; (with_reducible refine (api_Addr_69.calls a1 false _ A5.out).mono ?_); rintro e w' ⟨rfl, ⟨nd, rfl⟩⟩))
      go_ret
      exact ⟨fr, by repeat (first | exact Drawn0.refl _ | apply Drawn0.step)⟩
  · replace c4 := Bool.eq_false_iff.mpr c4
    subst c4
    replace H : (some (decide (a0 < a1))) = some r := by rw [if_neg (show ¬ (false = true) by decide)] at H; exact H
    obtain rfl := Option.some.inj H
    go_enter Try.func81, Try.ntmps81
    go_wp2_with (first | ((with_reducible refine gate_callee (f := 69) rfl ?_); refine goesL_ (some 6) rfl rfl Try.func69 (by kernel_rfl) rfl #[.int .u32 a0] rfl (by (try simp only [List.map_toArray, List.map_cons, List.map_nil]); first | done | rfl | (simp only [List.length_drop, List.length_take]; rfl)) ?_; (with_reducible refine (api_Addr_69.calls a0 false _ A3.out).mono ?_); rintro e w' ⟨rfl, ⟨nd, rfl⟩⟩; refine ⟨_, rfl, ?_⟩))
    go_ret
    exact ⟨fr, by repeat (first | exact Drawn0.refl _ | apply Drawn0.step)⟩

/-! ### api_Addr_82: function 82 -/
def api_Addr_82.f (a0 : Int) : Option (Bool) := some (a0 != a0)
theorem api_Addr_82.calls (a0 : Int) (r : Bool) (w : World) (h : api_Addr_82.f a0 = some r) :
    Calls Try.prog 82 #[.int .u32 a0] w fun e w' => e = .returned (.bool r) ∧ Drawn0 w w' := by
  have H : (some (a0 != a0)) = some r := h
  clear h
  obtain rfl := Option.some.inj H
  go_enter Try.func82, Try.ntmps82
  go_wp2
  go_ret
  exact ⟨fr, by repeat (first | exact Drawn0.refl _ | apply Drawn0.step)⟩

/-! ### api_Addr_74: function 74 -/
def api_Addr_74.l0 : Nat → List Int → Int → Int → Int → Int → Option (Int × Bool)
  | 0, _, _, _, _, _ => none
  | k + 1, x0, x1, x6, x7, x8 => if x7 < x8 then (if 0 ≤ (wrap64 ((IntKind.u64.wrap (wrap64 (x7 + x8))) / 2)) then (if (wrap64 ((IntKind.u64.wrap (wrap64 (x7 + x8))) / 2)) < (x0.length : Int) then ((api_Addr_81.f (rd x0 (wrap64 ((IntKind.u64.wrap (wrap64 (x7 + x8))) / 2))) x1).bind fun t104 => (if t104 = true then (api_Addr_74.l0 k x0 x1 x6 (wrap64 ((wrap64 ((IntKind.u64.wrap (wrap64 (x7 + x8))) / 2)) + 1)) x8) else (api_Addr_74.l0 k x0 x1 x6 x7 (wrap64 ((IntKind.u64.wrap (wrap64 (x7 + x8))) / 2))))) else (none)) else (none)) else (if x7 < x6 then (if 0 ≤ x7 then (if x7 < (x0.length : Int) then (if (rd x0 x7) = x1 then (some (x7, true)) else ((api_Addr_82.f (rd x0 x7)).bind fun t107 => (if t107 = true then ((api_Addr_82.f x1).bind fun t108 => (some (x7, t108))) else (some (x7, false))))) else (none)) else (none)) else (some (x7, false)))
def api_Addr_74.f (k : Nat) (l0 : List Int) (a1 : Int) : Option (Int × Bool) := api_Addr_74.l0 k l0 a1 (l0.length : Int) 0 (l0.length : Int)
theorem api_Addr_74.mono_l : ∀ k, (∀ y0 y1 y2 y3 y4, LeO (api_Addr_74.l0 k y0 y1 y2 y3 y4) (api_Addr_74.l0 (k + 1) y0 y1 y2 y3 y4))
  | 0 => fun _ _ _ _ _ r h => by simp [api_Addr_74.l0] at h
  | k + 1 => by
    have ih0 := api_Addr_74.mono_l k
    · intro y0 y1 y2 y3 y4
      unfold api_Addr_74.l0
      repeat' first
      | (with_reducible exact ih0 _ _ _ _ _)
      | (with_reducible exact LeO.refl _)
      | (with_reducible exact LeO.none _)
      | (with_reducible refine LeO.ite ?_ ?_)
      | (with_reducible refine LeO.bind ?_ (fun _ => ?_))
      | exact ih0 _ _ _ _ _
      | exact LeO.none _
      | refine LeO.ite ?_ ?_
      | refine LeO.bind ?_ (fun _ => ?_)
theorem api_Addr_74.mono : ∀ a0 a1 k, LeO (api_Addr_74.f k a0 a1) (api_Addr_74.f (k + 1) a0 a1) := by
  intro a0 a1 k
  have ih0 := api_Addr_74.mono_l k
  unfold api_Addr_74.f
  repeat' first
      | (with_reducible exact ih0 _ _ _ _ _)
      | (with_reducible exact LeO.refl _)
      | (with_reducible exact LeO.none _)
      | (with_reducible refine LeO.ite ?_ ?_)
      | (with_reducible refine LeO.bind ?_ (fun _ => ?_))
      | exact ih0 _ _ _ _ _
      | exact LeO.none _
      | refine LeO.ite ?_ ?_
      | refine LeO.bind ?_ (fun _ => ?_)
theorem api_Addr_74.calls (k : Nat) (A0 : Option Addr) (c0 : Nat) (l0 : List Int) (a1 : Int) (r1 : Int) (r2 : Bool) (w : World) (hr0 : Kd.C (Kd.int .u32) w A0 l0.length l0) (hc0 : l0.length ≤ c0) (h : api_Addr_74.f k l0 a1 = some (r1, r2)) :
    Calls Try.prog 74 #[.slice A0 l0.length c0, .int .u32 a1] w fun e w' => e = .returned (.tuple #[.int .i64 r1, .bool r2]) ∧ Drawn0 w w' := by
  have HR0 := Aside0.mk hr0
  have HC0 := Aside0.mk hc0
  clear hr0 hc0
  have H : (api_Addr_74.l0 k l0 a1 (l0.length : Int) 0 (l0.length : Int)) = some (r1, r2) := h
  clear h
  have H' := Aside0.mk H
  clear H
  go_enter Try.func74, Try.ntmps74
  go_wp2
  go_loopg [7, 8] k (fun kq v7 v8 w' => ∃ (x7_1 : Int) (x8_1 : Int), v7 = .int .i64 x7_1 ∧ v8 = .int .i64 x8_1 ∧ Aside0 (api_Addr_74.l0 kq l0 a1 (l0.length : Int) x7_1 x8_1 = some (r1, r2)) ∧ Aside0 (kq ≤ k) ∧ Drawn0 w w')
  case atStart => exact ⟨(0), ((l0.length : Int)), (fr), (fr), H', ⟨Nat.le_refl _⟩, by repeat (first | exact Drawn0.refl _ | apply Drawn0.step)⟩
  case round =>
    clear H'
    try clear p2
    obtain ⟨x7_1, x8_1, rfl, rfl, HA, HK1, ⟨m1, rfl⟩⟩ := hrel
    cases gk with
    | zero => exact absurd HA.out (by simp [api_Addr_74.l0])
    | succ k1 =>
      have H := HA.out
      clear HA
      simp only [api_Addr_74.l0] at H
      by_cases c3 : x7_1 < x8_1
      · rw [if_pos c3] at H
        have c3b0 : decide (x7_1 < x8_1) = true := decide_eq_true c3
        clear c3
        obtain ⟨ji4, hji4⟩ : ∃ j_ : Int, (wrap64 ((IntKind.u64.wrap (wrap64 (x7_1 + x8_1))) / 2)) = j_ := ⟨_, rfl⟩
        replace H : (if 0 ≤ (ji4) then (if (ji4) < (l0.length : Int) then ((api_Addr_81.f (rd l0 (ji4)) a1).bind fun t104 => (if t104 = true then (api_Addr_74.l0 k1 l0 a1 (l0.length : Int) (wrap64 ((ji4) + 1)) x8_1) else (api_Addr_74.l0 k1 l0 a1 (l0.length : Int) x7_1 ji4))) else (none)) else (none)) = some (r1, r2) := by first | (rw [hji4] at H; exact H) | (simp only [hji4] at H ⊢; exact H)
        have hji4w : (IntKind.i64.wrap ((IntKind.u64.wrap (wrap64 (x7_1 + x8_1))) / 2)) = ji4 := (i64_w _).trans hji4
        by_cases c5 : 0 ≤ (ji4)
        · rw [if_pos c5] at H
          have c5b0 : decide (0 ≤ (ji4)) = true := decide_eq_true c5
          clear c5
          by_cases c6 : (ji4) < (l0.length : Int)
          · rw [if_pos c6] at H
            have c6b0 : decide ((ji4) < (l0.length : Int)) = true := decide_eq_true c6
            clear c6
            replace H := Option.bind_eq_some_iff.mp H
            obtain ⟨t104, A70, H⟩ := H
            replace H : (if t104 = true then (api_Addr_74.l0 k1 l0 a1 (l0.length : Int) (wrap64 ((ji4) + 1)) x8_1) else (api_Addr_74.l0 k1 l0 a1 (l0.length : Int) x7_1 ji4)) = some (r1, r2) := H
            have A7 := Aside0.mk A70
            clear A70
            by_cases c8 : t104 = true
            · subst c8
              replace H : (api_Addr_74.l0 k1 l0 a1 (l0.length : Int) (wrap64 ((ji4) + 1)) x8_1) = some (r1, r2) := by rw [if_pos rfl] at H; exact H
              have H' := Aside0.mk H
              clear H
              have p103 : 0 ≤ ((ji4) : Int) := od
              have q103 : (ji4) < (l0.length : Int) := od
              obtain ⟨ad103, e103, hx103_0⟩ := Kd.at_int HR0.out (ji4) p103 q103
              cases e103
              replace p103 := eq_true p103
              replace q103 := eq_true q103
              go_wp2_with (first | ((with_reducible refine gate_callee (f := 81) rfl ?_); refine goesL_ (some 27) rfl rfl Try.func81 (by kernel_rfl) rfl #[.int .u32 (rd l0 (ji4)), .int .u32 a1] rfl (by (try simp only [List.map_toArray, List.map_cons, List.map_nil]); first | done | (simp only [hji4]; rfl) | rfl | (simp only [List.length_drop, List.length_take]; rfl)) ?_; (with_reducible refine (api_Addr_81.calls (rd l0 (ji4)) a1 true _ A7.out).mono ?_); rintro e w' ⟨rfl, ⟨nd, rfl⟩⟩; refine ⟨_, rfl, ?_⟩))
              go_roundg k1
              case measure => have := HK1.out; omega
              case rel => exact ⟨(wrap64 ((ji4) + 1)), (x8_1), (by first | rfl | (simp; done) | (simp only [← hji4] <;> (first | rfl | simp)) | (simp [*]; done)), (fr), H', ⟨by have := HK1.out; omega⟩, by repeat (first | exact Drawn0.refl _ | apply Drawn0.step)⟩
            · replace c8 := Bool.eq_false_iff.mpr c8
              subst c8
              replace H : (api_Addr_74.l0 k1 l0 a1 (l0.length : Int) x7_1 ji4) = some (r1, r2) := by rw [if_neg (show ¬ (false = true) by decide)] at H; exact H
              have H' := Aside0.mk H
              clear H
              have p103 : 0 ≤ ((ji4) : Int) := od
              have q103 : (ji4) < (l0.length : Int) := od
              obtain ⟨ad103, e103, hx103_0⟩ := Kd.at_int HR0.out (ji4) p103 q103
              cases e103
              replace p103 := eq_true p103
              replace q103 := eq_true q103
              go_wp2_with (first | ((with_reducible refine gate_callee (f := 81) rfl ?_); refine goesL_ (some 27) rfl rfl Try.func81 (by kernel_rfl) rfl #[.int .u32 (rd l0 (ji4)), .int .u32 a1] rfl (by (try simp only [List.map_toArray, List.map_cons, List.map_nil]); first | done | (simp only [hji4]; rfl) | rfl | (simp only [List.length_drop, List.length_take]; rfl)) ?_; (with_reducible refine (api_Addr_81.calls (rd l0 (ji4)) a1 false _ A7.out).mono ?_); rintro e w' ⟨rfl, ⟨nd, rfl⟩⟩; refine ⟨_, rfl, ?_⟩))
              go_roundg k1
              case measure => have := HK1.out; omega
              case rel => exact ⟨(x7_1), (ji4), (fr), (by first | rfl | (simp; done) | (simp only [← hji4] <;> (first | rfl | simp)) | (simp [*]; done)), H', ⟨by have := HK1.out; omega⟩, by repeat (first | exact Drawn0.refl _ | apply Drawn0.step)⟩
          · rw [if_neg c6] at H
            exact absurd H (by simp)
        · rw [if_neg c5] at H
          exact absurd H (by simp)
      · rw [if_neg c3] at H
        have c3b0 : decide (x7_1 < x8_1) = false := decide_eq_false c3
        clear c3
        by_cases c9 : x7_1 < (l0.length : Int)
        · rw [if_pos c9] at H
          have c9b0 : decide (x7_1 < (l0.length : Int)) = true := decide_eq_true c9
          clear c9
          by_cases c10 : 0 ≤ x7_1
          · rw [if_pos c10] at H
            have c10b0 : decide (0 ≤ x7_1) = true := decide_eq_true c10
            clear c10
            by_cases c11 : x7_1 < (l0.length : Int)
            · rw [if_pos c11] at H
              have c11b0 : decide (x7_1 < (l0.length : Int)) = true := decide_eq_true c11
              clear c11
              by_cases c12 : (rd l0 x7_1) = a1
              · rw [if_pos c12] at H
                have c12b0 : ((rd l0 x7_1) == a1) = true := beq_iff_eq.mpr c12
                have c12b1 : ((rd l0 x7_1) != a1) = false := bne_eq_false_iff_eq.mpr c12
                clear c12
                simp only [Option.some.injEq, Prod.mk.injEq] at H
                obtain ⟨rfl, rfl⟩ := H
                have p105 : 0 ≤ (x7_1 : Int) := od
                have q105 : x7_1 < (l0.length : Int) := od
                obtain ⟨ad105, e105, hx105_0⟩ := Kd.at_int HR0.out x7_1 p105 q105
                cases e105
                replace p105 := eq_true p105
                replace q105 := eq_true q105
                go_wp2
                go_ret2
                exact ⟨fr, by repeat (first | exact Drawn0.refl _ | apply Drawn0.step)⟩
              · rw [if_neg c12] at H
                have c12b0 : ((rd l0 x7_1) == a1) = false := beq_eq_false_iff_ne.mpr c12
                have c12b1 : ((rd l0 x7_1) != a1) = true := bne_iff_ne.mpr c12
                replace H := Option.bind_eq_some_iff.mp H
                obtain ⟨t107, A130, H⟩ := H
                replace H : (if t107 = true then ((api_Addr_82.f a1).bind fun t108 => (some (x7_1, t108))) else (some (x7_1, false))) = some (r1, r2) := H
                have A13 := Aside0.mk A130
                clear A130
                by_cases c14 : t107 = true
                · subst c14
                  replace H : ((api_Addr_82.f a1).bind fun t108 => (some (x7_1, t108))) = some (r1, r2) := by rw [if_pos rfl] at H; exact H
                  replace H := Option.bind_eq_some_iff.mp H
                  obtain ⟨t108, A150, H⟩ := H
                  replace H : (some (x7_1, t108)) = some (r1, r2) := H
                  have A15 := Aside0.mk A150
                  clear A150
                  simp only [Option.some.injEq, Prod.mk.injEq] at H
                  obtain ⟨rfl, rfl⟩ := H
                  have p105 : 0 ≤ (x7_1 : Int) := od
                  have q105 : x7_1 < (l0.length : Int) := od
                  obtain ⟨ad105, e105, hx105_0⟩ := Kd.at_int HR0.out x7_1 p105 q105
                  cases e105
                  replace p105 := eq_true p105
                  replace q105 := eq_true q105
                  have p106 : 0 ≤ (x7_1 : Int) := od
                  have q106 : x7_1 < (l0.length : Int) := od
                  obtain ⟨ad106, e106, hx106_0⟩ := Kd.at_int HR0.out x7_1 p106 q106
                  obtain rfl : ad105 = ad106 := (by injection e106)
                  replace p106 := eq_true p106
                  replace q106 := eq_true q106
                  go_wp2_with (first | (go_at_call 82; (with_reducible refine (api_Addr_82.calls (rd l0 x7_1) true _ A13.out).mono ?_); rintro e w' ⟨rfl, ⟨nd, rfl⟩⟩) | (go_at_call 82; (with_reducible refine (api_Addr_82.calls a1 t108 _ A15.out).mono ?_); rintro e w' ⟨rfl, ⟨nd, rfl⟩⟩))
                  go_ret2
                  exact ⟨fr, by repeat (first | exact Drawn0.refl _ | apply Drawn0.step)⟩
                · replace c14 := Bool.eq_false_iff.mpr c14
                  subst c14
                  replace H : (some (x7_1, false)) = some (r1, r2) := by rw [if_neg (show ¬ (false = true) by decide)] at H; exact H
                  simp only [Option.some.injEq, Prod.mk.injEq] at H
                  obtain ⟨rfl, rfl⟩ := H
                  have p105 : 0 ≤ (x7_1 : Int) := od
                  have q105 : x7_1 < (l0.length : Int) := od
                  obtain ⟨ad105, e105, hx105_0⟩ := Kd.at_int HR0.out x7_1 p105 q105
                  cases e105
                  replace p105 := eq_true p105
                  replace q105 := eq_true q105
                  have p106 : 0 ≤ (x7_1 : Int) := od
                  have q106 : x7_1 < (l0.length : Int) := od
                  obtain ⟨ad106, e106, hx106_0⟩ := Kd.at_int HR0.out x7_1 p106 q106
                  obtain rfl : ad105 = ad106 := (by injection e106)
                  replace p106 := eq_true p106
                  replace q106 := eq_true q106
                  go_wp2_with (first | (go_at_call 82; (with_reducible refine (api_Addr_82.calls (rd l0 x7_1) false _ A13.out).mono ?_); rintro e w' ⟨rfl, ⟨nd, rfl⟩⟩))
                  go_ret2
                  exact ⟨fr, by repeat (first | exact Drawn0.refl _ | apply Drawn0.step)⟩
            · rw [if_neg c11] at H
              exact absurd H (by simp)
          · rw [if_neg c10] at H
            exact absurd H (by simp)
        · rw [if_neg c9] at H
          have c9b0 : decide (x7_1 < (l0.length : Int)) = false := decide_eq_false c9
          clear c9
          simp only [Option.some.injEq, Prod.mk.injEq] at H
          obtain ⟨rfl, rfl⟩ := H
          go_wp2
          go_ret2
          exact ⟨fr, by repeat (first | exact Drawn0.refl _ | apply Drawn0.step)⟩

/-! ### set_Has: function 57 -/
def set_Has.f (k : Nat) (l0 : List Int) (a1 : Int) : Option (Bool) := (api_Addr_74.f k l0 a1).bind fun bt109 => (some bt109.2)
theorem set_Has.mono : ∀ a0 a1 k, LeO (set_Has.f k a0 a1) (set_Has.f (k + 1) a0 a1) := by
  intro a0 a1 k
  unfold set_Has.f
  repeat' first
      | (with_reducible exact api_Addr_74.mono _ _ _)
      | (with_reducible exact LeO.refl _)
      | (with_reducible exact LeO.none _)
      | (with_reducible refine LeO.ite ?_ ?_)
      | (with_reducible refine LeO.bind ?_ (fun _ => ?_))
      | exact api_Addr_74.mono _ _ _
      | exact LeO.none _
      | refine LeO.ite ?_ ?_
      | refine LeO.bind ?_ (fun _ => ?_)
theorem set_Has.calls (k : Nat) (A0 : Option Addr) (c0 : Nat) (l0 : List Int) (a1 : Int) (r : Bool) (w : World) (hr0 : Kd.C (Kd.int .u32) w A0 l0.length l0) (hc0 : l0.length ≤ c0) (h : set_Has.f k l0 a1 = some r) :
    Calls Try.prog 57 #[.slice A0 l0.length c0, .int .u32 a1] w fun e w' => e = .returned (.bool r) ∧ Drawn0 w w' := by
  have HR0 := Aside0.mk hr0
  have HC0 := Aside0.mk hc0
  clear hr0 hc0
  have H : ((api_Addr_74.f k l0 a1).bind fun bt109 => (some bt109.2)) = some r := h
  clear h
  replace H := Option.bind_eq_some_iff.mp H
  obtain ⟨⟨t109, t110⟩, A30, H⟩ := H
  replace H : (some t110) = some r := H
  have A3 := Aside0.mk A30
  clear A30
  obtain rfl := Option.some.inj H
  go_enter Try.func57, Try.ntmps57
  go_wp2_with (first | ((with_reducible refine gate_callee (f := 74) rfl ?_); refine goesL_ (some 10) rfl rfl Try.func74 (by kernel_rfl) rfl #[.slice A0 l0.length c0, .int .u32 a1] rfl (by (try simp only [List.map_toArray, List.map_cons, List.map_nil]); first | done | rfl | (simp only [List.length_drop, List.length_take]; rfl)) ?_; (with_reducible refine (api_Addr_74.calls k _ _ l0 a1 t109 t110 _ ?side1 ?side2 A3.out).mono ?_); (case side1 => exact ca HR0.out); (case side2 => exact HC0.out); rintro e w' ⟨rfl, ⟨nd, rfl⟩⟩; refine ⟨_, rfl, ?_⟩))
  go_ret
  exact ⟨fr, by repeat (first | exact Drawn0.refl _ | apply Drawn0.step)⟩

end Go.Proofs.Ytbllchfgjginoaa.PMe
/-
  Sets in plain lists, for chapter 08 (out of chapter 06's plain laws).
-/
namespace Go.Proofs.Ytbllchfgjginoaa
open Go.RowKit Go.Proofs.YtbllchfgjginoaaW.PrintWords Go.Proofs.Ytbllchfgjginoaa.PMe
set_option linter.unusedVariables false
set_option linter.unusedSimpArgs false
theorem w64 {i : Int} (h0 : -9223372036854775808 ≤ i) (h1 : i ≤ 9223372036854775807) : wrap64 i = i := by unfold wrap64; omega
theorem rd_eq (l : List Int) (i : Int) : rd l i = l.getD i.toNat 0 := rfl
abbrev Rise (l : List Int) : Prop := l.Pairwise (· < ·)
theorem getD_eq (l : List Int) (i : Nat) (h : i < l.length) : l.getD i 0 = l[i] := by
  rw [List.getD_eq_getElem?_getD, List.getElem?_eq_getElem h]; rfl
theorem nan_some (a : Int) : api_Addr_69.f a = some false := by simp [api_Addr_69.f]
theorem less_some (a b : Int) : api_Addr_81.f a b = some (decide (a < b)) := by simp [api_Addr_81.f, nan_some]
theorem nan2_some (a : Int) : api_Addr_82.f a = some false := by simp [api_Addr_82.f]
theorem has_loop (l : List Int) (hm : l.length ≤ 1000000000) (x : Int) (hr : Rise l) : ∀ n k (lo hi : Nat), lo ≤ hi → hi ≤ l.length → hi ≤ lo + n → n < k →
    (∀ i, i < lo → l.getD i 0 < x) → (∀ i, hi ≤ i → i < l.length → x ≤ l.getD i 0) →
    ∃ p, api_Addr_74.l0 k l x l.length lo hi = some (p, decide (x ∈ l)) := by
  intro n
  have fin : ∀ k (lo : Nat), lo ≤ l.length → (∀ i, i < lo → l.getD i 0 < x) → (∀ i, lo ≤ i → i < l.length → x ≤ l.getD i 0) → ∃ p, api_Addr_74.l0 (k + 1) l x l.length lo lo = some (p, decide (x ∈ l)) := by
    intro k lo h1 h2 h3
    rw [api_Addr_74.l0, if_neg (by omega)]
    by_cases h4 : lo < l.length
    · rw [if_pos (by omega), if_pos (by omega), if_pos (by omega)]
      rw [rd_eq, show ((lo : Int)).toNat = lo from by omega]
      split
      · rename_i he
        refine ⟨lo, ?_⟩
        congr 2
        symm
        rw [decide_eq_true_eq, ← he, getD_eq l lo h4]
        exact List.getElem_mem _
      · rename_i he
        rw [nan2_some]
        refine ⟨lo, ?_⟩
        simp only [Option.bind_some, Bool.false_eq_true, if_false]
        congr 2
        symm
        rw [decide_eq_false_iff_not]
        intro hx
        obtain ⟨i, hi, e⟩ := List.mem_iff_getElem.1 hx
        rw [← getD_eq l i hi] at e
        rcases Nat.lt_trichotomy i lo with h | h | h
        · have := h2 i h; omega
        · subst h; exact he e
        · have h5 := h3 lo (Nat.le_refl _) h4
          have h6 := (List.pairwise_iff_getElem.1 hr) lo i h4 hi h
          rw [← getD_eq l lo h4, ← getD_eq l i hi] at h6
          omega
    · rw [if_neg (by omega)]
      refine ⟨lo, ?_⟩
      congr 2
      symm
      rw [decide_eq_false_iff_not]
      intro hx
      obtain ⟨i, hi, e⟩ := List.mem_iff_getElem.1 hx
      rw [← getD_eq l i hi] at e
      have := h2 i (by omega)
      omega
  induction n with
  | zero =>
    intro k lo hi h1 h2 h3 hk h4 h5
    obtain ⟨k, rfl⟩ : ∃ k', k = k' + 1 := ⟨k - 1, by omega⟩
    obtain rfl : lo = hi := by omega
    exact fin k lo h2 h4 h5
  | succ n ih =>
    intro k lo hi h1 h2 h3 hk h4 h5
    obtain ⟨k, rfl⟩ : ∃ k', k = k' + 1 := ⟨k - 1, by omega⟩
    by_cases hlt : lo < hi
    · rw [api_Addr_74.l0, if_pos (by omega)]
      have e0 : (wrap64 ((IntKind.u64.wrap (wrap64 ((lo : Int) + (hi : Int)))) / 2)) = (((lo + hi) / 2 : Nat) : Int) := by
        rw [w64 (i := (lo : Int) + hi) (by omega) (by omega), IntKind.wrap_u64, w64 (by omega) (by omega)]
        omega
      rw [e0, if_pos (by omega), if_pos (by omega), less_some, rd_eq]
      simp only [Option.bind_some, Int.toNat_natCast, decide_eq_true_eq]
      have mono : ∀ i j, i < j → j < l.length → l.getD i 0 < l.getD j 0 := by
        intro i j hij hj
        have h6 := (List.pairwise_iff_getElem.1 hr) i j (by omega) hj hij
        rwa [← getD_eq l i (by omega), ← getD_eq l j hj] at h6
      split
      · rename_i hx
        rw [w64 (by omega) (by omega), show (((lo + hi) / 2 : Nat) : Int) + 1 = (((lo + hi) / 2 + 1 : Nat) : Int) from by omega]
        refine ih k _ _ (by omega) h2 (by omega) (by omega) ?_ h5
        intro i hi'
        rcases Nat.lt_or_ge i ((lo + hi) / 2) with h | h
        · have := mono i _ h (by omega); omega
        · obtain rfl : i = (lo + hi) / 2 := by omega
          exact hx
      · rename_i hx
        refine ih k _ _ (by omega) (by omega) (by omega) (by omega) h4 ?_
        intro i hi' hl
        rcases Nat.lt_or_ge ((lo + hi) / 2) i with h | h
        · have := mono _ i h hl; omega
        · obtain rfl : i = (lo + hi) / 2 := by omega
          omega
    · obtain rfl : lo = hi := by omega
      exact fin k lo h2 h4 h5
theorem has_some (l : List Int) (hm : l.length ≤ 1000000000) (x : Int) (hr : Rise l) (k : Nat) (hk : l.length < k) : set_Has.f k l x = some (decide (x ∈ l)) := by
  unfold set_Has.f api_Addr_74.f
  obtain ⟨p, hp⟩ := has_loop l hm x hr l.length k 0 l.length (by omega) (Nat.le_refl _) (by omega) hk (by intro i h; omega) (by intro i h h'; omega)
  rw [show ((0 : Nat) : Int) = 0 from rfl] at hp
  rw [hp]
  rfl
theorem both_all (a b : List Int) : ∀ x, x ∈ a ∨ x ∈ b → ∃ t ∈ bothOf a b, t.1 = x := by
  induction a, b using bothOf.induct with
  | case1 => intro x h; simp at h
  | case2 y a ih =>
    intro x h
    rw [bothOf]
    rcases h with h | h
    · rcases List.mem_cons.1 h with rfl | h
      · exact ⟨_, List.mem_cons_self, rfl⟩
      · obtain ⟨t, h1, h2⟩ := ih x (.inl h)
        exact ⟨t, List.mem_cons_of_mem _ h1, h2⟩
    · simp at h
  | case3 y b ih =>
    intro x h
    rw [bothOf]
    rcases h with h | h
    · simp at h
    · rcases List.mem_cons.1 h with rfl | h
      · exact ⟨_, List.mem_cons_self, rfl⟩
      · obtain ⟨t, h1, h2⟩ := ih x (.inr h)
        exact ⟨t, List.mem_cons_of_mem _ h1, h2⟩
  | case4 z a y b hlt ih =>
    intro x h
    rw [bothOf, if_pos hlt]
    by_cases hx : x = z
    · subst hx; exact ⟨_, List.mem_cons_self, rfl⟩
    · obtain ⟨t, h1, h2⟩ := ih x (by simpa [hx] using h)
      exact ⟨t, List.mem_cons_of_mem _ h1, h2⟩
  | case5 z a y b hlt hlt' ih =>
    intro x h
    rw [bothOf, if_neg hlt, if_pos hlt']
    by_cases hx : x = y
    · subst hx; exact ⟨_, List.mem_cons_self, rfl⟩
    · obtain ⟨t, h1, h2⟩ := ih x (by simpa [hx] using h)
      exact ⟨t, List.mem_cons_of_mem _ h1, h2⟩
  | case6 z a y b hlt hlt' ih =>
    intro x h
    rw [bothOf, if_neg hlt, if_neg hlt']
    obtain rfl : z = y := by omega
    by_cases hx : x = z
    · subst hx; exact ⟨_, List.mem_cons_self, rfl⟩
    · obtain ⟨t, h1, h2⟩ := ih x (by simpa [hx] using h)
      exact ⟨t, List.mem_cons_of_mem _ h1, h2⟩
theorem both_spec (a b : List Int) : Rise a → Rise b → ∀ t ∈ bothOf a b, t.2.1 = decide (t.1 ∈ a) ∧ t.2.2 = decide (t.1 ∈ b) ∧ (t.1 ∈ a ∨ t.1 ∈ b) := by
  induction a, b using bothOf.induct with
  | case1 => intro _ _ t h; simp [bothOf] at h
  | case2 y a ih =>
    intro ha hb t h
    rw [bothOf] at h
    have ha' := List.pairwise_cons.1 ha
    rcases List.mem_cons.1 h with rfl | h
    · simp
    · obtain ⟨h1, h2, h3⟩ := ih ha'.2 hb t h
      refine ⟨?_, h2, ?_⟩
      · rw [h1, decide_eq_decide, List.mem_cons]
        constructor
        · exact .inr
        · rintro (e | h)
          · rcases h3 with h3 | h3
            · exact h3
            · simp at h3
          · exact h
      · rcases h3 with h3 | h3
        · exact .inl (List.mem_cons_of_mem _ h3)
        · exact .inr h3
  | case3 y b ih =>
    intro ha hb t h
    rw [bothOf] at h
    have hb' := List.pairwise_cons.1 hb
    rcases List.mem_cons.1 h with rfl | h
    · simp
    · obtain ⟨h1, h2, h3⟩ := ih ha hb'.2 t h
      have h4 : t.1 ∈ b := by simpa using h3
      refine ⟨h1, ?_, .inr (List.mem_cons_of_mem _ h4)⟩
      rw [h2, decide_eq_decide]
      exact ⟨fun h => List.mem_cons_of_mem _ h, fun _ => h4⟩
  | case4 z a y b hlt ih =>
    intro ha hb t h
    rw [bothOf, if_pos hlt] at h
    have ha' := List.pairwise_cons.1 ha
    have hb' := List.pairwise_cons.1 hb
    rcases List.mem_cons.1 h with rfl | h
    · refine ⟨by simp, ?_, .inl List.mem_cons_self⟩
      symm
      rw [decide_eq_false_iff_not, List.mem_cons]
      rintro (e | h')
      · simp at e; omega
      · have := hb'.1 _ h'; simp at this; omega
    · obtain ⟨h1, h2, h3⟩ := ih ha'.2 hb t h
      have hne : t.1 ≠ z := by
        rintro e
        rcases h3 with h3 | h3
        · have := ha'.1 _ h3; omega
        · rcases List.mem_cons.1 h3 with h3 | h3
          · omega
          · have := hb'.1 _ h3; omega
      refine ⟨by rw [h1, decide_eq_decide]; simp [hne], h2, by simp [hne]; simpa using h3⟩
  | case5 z a y b hlt hlt' ih =>
    intro ha hb t h
    rw [bothOf, if_neg hlt, if_pos hlt'] at h
    have ha' := List.pairwise_cons.1 ha
    have hb' := List.pairwise_cons.1 hb
    rcases List.mem_cons.1 h with rfl | h
    · refine ⟨?_, by simp, .inr List.mem_cons_self⟩
      symm
      rw [decide_eq_false_iff_not, List.mem_cons]
      rintro (e | h')
      · simp at e; omega
      · have := ha'.1 _ h'; simp at this; omega
    · obtain ⟨h1, h2, h3⟩ := ih ha hb'.2 t h
      have hne : t.1 ≠ y := by
        rintro e
        rcases h3 with h3 | h3
        · rcases List.mem_cons.1 h3 with h3 | h3
          · omega
          · have := ha'.1 _ h3; omega
        · have := hb'.1 _ h3; omega
      refine ⟨h1, by rw [h2, decide_eq_decide]; simp [hne], by simp [hne]; simpa using h3⟩
  | case6 z a y b hlt hlt' ih =>
    intro ha hb t h
    rw [bothOf, if_neg hlt, if_neg hlt'] at h
    obtain rfl : z = y := by omega
    have ha' := List.pairwise_cons.1 ha
    have hb' := List.pairwise_cons.1 hb
    rcases List.mem_cons.1 h with rfl | h
    · simp
    · obtain ⟨h1, h2, h3⟩ := ih ha'.2 hb'.2 t h
      have hne : t.1 ≠ z := by
        rintro e
        rcases h3 with h3 | h3
        · have := ha'.1 _ h3; omega
        · have := hb'.1 _ h3; omega
      refine ⟨by rw [h1, decide_eq_decide]; simp [hne], by rw [h2, decide_eq_decide]; simp [hne], by simp [hne]; exact h3⟩
theorem both_rise (a b : List Int) : Rise a → Rise b → (bothOf a b).Pairwise (fun s t => s.1 < t.1) := by
  induction a, b using bothOf.induct with
  | case1 => intro _ _; simp [bothOf]
  | case2 y a ih =>
    intro ha hb
    have ha' := List.pairwise_cons.1 ha
    rw [bothOf]
    refine List.pairwise_cons.2 ⟨fun t ht => ?_, ih ha'.2 hb⟩
    rcases (both_spec _ _ ha'.2 hb t ht).2.2 with h | h
    · exact ha'.1 _ h
    · simp at h
  | case3 y b ih =>
    intro ha hb
    have hb' := List.pairwise_cons.1 hb
    rw [bothOf]
    refine List.pairwise_cons.2 ⟨fun t ht => ?_, ih ha hb'.2⟩
    rcases (both_spec _ _ ha hb'.2 t ht).2.2 with h | h
    · simp at h
    · exact hb'.1 _ h
  | case4 z a y b hlt ih =>
    intro ha hb
    have ha' := List.pairwise_cons.1 ha
    have hb' := List.pairwise_cons.1 hb
    rw [bothOf, if_pos hlt]
    refine List.pairwise_cons.2 ⟨fun t ht => ?_, ih ha'.2 hb⟩
    rcases (both_spec _ _ ha'.2 hb t ht).2.2 with h | h
    · exact ha'.1 _ h
    · rcases List.mem_cons.1 h with h | h
      · show z < t.1; omega
      · have := hb'.1 _ h; show z < t.1; omega
  | case5 z a y b hlt hlt' ih =>
    intro ha hb
    have ha' := List.pairwise_cons.1 ha
    have hb' := List.pairwise_cons.1 hb
    rw [bothOf, if_neg hlt, if_pos hlt']
    refine List.pairwise_cons.2 ⟨fun t ht => ?_, ih ha hb'.2⟩
    rcases (both_spec _ _ ha hb'.2 t ht).2.2 with h | h
    · rcases List.mem_cons.1 h with h | h
      · show y < t.1; omega
      · have := ha'.1 _ h; show y < t.1; omega
    · exact hb'.1 _ h
  | case6 z a y b hlt hlt' ih =>
    intro ha hb
    have ha' := List.pairwise_cons.1 ha
    have hb' := List.pairwise_cons.1 hb
    rw [bothOf, if_neg hlt, if_neg hlt']
    refine List.pairwise_cons.2 ⟨fun t ht => ?_, ih ha'.2 hb'.2⟩
    rcases (both_spec _ _ ha'.2 hb'.2 t ht).2.2 with h | h
    · exact ha'.1 _ h
    · have := hb'.1 _ h; show z < t.1; omega
theorem sel_mem {p : Bool → Bool → Bool} {a b : List Int} (ha : Rise a) (hb : Rise b) (x : Int) :
    x ∈ selOf p (bothOf a b) ↔ (x ∈ a ∨ x ∈ b) ∧ p (decide (x ∈ a)) (decide (x ∈ b)) = true := by
  unfold selOf
  rw [List.mem_map]
  constructor
  · rintro ⟨t, ht, rfl⟩
    obtain ⟨h1, h2⟩ := List.mem_filter.1 ht
    obtain ⟨e1, e2, e3⟩ := both_spec a b ha hb t h1
    rw [e1, e2] at h2
    exact ⟨e3, h2⟩
  · rintro ⟨h1, h2⟩
    obtain ⟨t, ht, rfl⟩ := both_all a b x h1
    obtain ⟨e1, e2, e3⟩ := both_spec a b ha hb t ht
    refine ⟨t, List.mem_filter.2 ⟨ht, ?_⟩, rfl⟩
    rw [e1, e2]
    exact h2
theorem sel_rise {p : Bool → Bool → Bool} {a b : List Int} (ha : Rise a) (hb : Rise b) : Rise (selOf p (bothOf a b)) := by
  unfold selOf
  rw [Rise, List.pairwise_map]
  exact (both_rise a b ha hb).filter _
theorem rise_ext : ∀ {a b : List Int}, Rise a → Rise b → (∀ x, x ∈ a ↔ x ∈ b) → a = b
  | [], [], _, _, _ => rfl
  | [], y :: b, _, _, h => by have := (h y).2 List.mem_cons_self; simp at this
  | x :: a, [], _, _, h => by have := (h x).1 List.mem_cons_self; simp at this
  | x :: a, y :: b, ha, hb, h => by
    have ha' := List.pairwise_cons.1 ha
    have hb' := List.pairwise_cons.1 hb
    have e : x = y := by
      rcases List.mem_cons.1 ((h x).1 List.mem_cons_self) with e | h1
      · exact e
      · rcases List.mem_cons.1 ((h y).2 List.mem_cons_self) with e | h2
        · exact e.symm
        · have := hb'.1 _ h1; have := ha'.1 _ h2; omega
    subst e
    congr 1
    refine rise_ext ha'.2 hb'.2 fun z => ?_
    constructor
    · intro hz
      rcases List.mem_cons.1 ((h z).1 (List.mem_cons_of_mem _ hz)) with e | h1
      · have := ha'.1 _ hz; omega
      · exact h1
    · intro hz
      rcases List.mem_cons.1 ((h z).2 (List.mem_cons_of_mem _ hz)) with e | h1
      · have := hb'.1 _ hz; omega
      · exact h1
def int (a b : List Int) : List Int := selOf (fun x y => x && y) (bothOf a b)
def mns (a b : List Int) : List Int := selOf (fun x y => x && !y) (bothOf a b)
theorem int_some {a b : List Int} (h : a.length ≤ 1000000000) (h' : b.length ≤ 1000000000) : set_Inter.f a b = some (int a b) := by rw [set_Inter.f, if_pos ⟨h, h'⟩]; rfl
theorem mns_some {a b : List Int} (h : a.length ≤ 1000000000) (h' : b.length ≤ 1000000000) : set_Minus.f a b = some (mns a b) := by rw [set_Minus.f, if_pos ⟨h, h'⟩]; rfl
theorem sel_len2 (p : Bool → Bool → Bool) (a b : List Int) : (selOf p (bothOf a b)).length ≤ a.length + b.length := Nat.le_trans (selOf_len _ _) (bothOf_len _ _)
theorem int_len (a b : List Int) : (int a b).length ≤ a.length + b.length := sel_len2 _ _ _
theorem mns_len (a b : List Int) : (mns a b).length ≤ a.length + b.length := sel_len2 _ _ _
theorem int_rise {a b : List Int} (ha : Rise a) (hb : Rise b) : Rise (int a b) := sel_rise ha hb
theorem mns_rise {a b : List Int} (ha : Rise a) (hb : Rise b) : Rise (mns a b) := sel_rise ha hb
theorem int_mem {a b : List Int} (ha : Rise a) (hb : Rise b) (x : Int) : x ∈ int a b ↔ x ∈ a ∧ x ∈ b := by
  unfold int; rw [sel_mem ha hb]; simp only [Bool.and_eq_true, decide_eq_true_eq]
  exact ⟨fun h => h.2, fun h => ⟨.inl h.1, h⟩⟩
theorem mns_mem {a b : List Int} (ha : Rise a) (hb : Rise b) (x : Int) : x ∈ mns a b ↔ x ∈ a ∧ x ∉ b := by
  unfold mns; rw [sel_mem ha hb]; simp only [Bool.and_eq_true, decide_eq_true_eq, Bool.not_eq_true', decide_eq_false_iff_not]
  exact ⟨fun h => h.2, fun h => ⟨.inl h.1, h⟩⟩
theorem step64 (j : Nat) (h : j ≤ 1000000000000000) : wrap64 ((j : Int) + 1) = ((j + 1 : Nat) : Int) := by rw [w64 (by omega) (by omega)]; omega
end Go.Proofs.Ytbllchfgjginoaa
/-
  slices.Insert of one socket into a row of the call's own: the four roads.
-/
namespace Go.Proofs.Ytbllchfgjginoaa
set_option maxHeartbeats 4000000
set_option maxRecDepth 100000
open Go.RowKit Go.Lib Go.Proofs.YtbllchfgjginoaaW.PrintWords Go.Proofs.Ytbllchfgjginoaa.PMe
set_option linter.unusedVariables false
set_option linter.unusedSimpArgs false
theorem info49_ : (Try.prog.info? 49).map (fun i => (i.zero, i.size, i.bytes)) = some (some (.agg #[.int .u32 0, .int .i64 0]), 2, 16) := by kernel_rfl
theorem run_copy_wide {P : Program} (w : World) (dT sT ty elem : TypeId) (sz g o dLen dCap : Nat) (a : Addr) (sLen sCap m : Nat) (cur : Array Value) (t : TypeId) (cs : List Value)
    (hu : P.underlying dT = some (.slice elem)) (hs : (P.info? elem).map (·.size) = some sz)
    (hg : w.heap[g]? = some (.cells cur t (0, 0))) (hm : Nat.min sLen dLen = m) (hn : cs.length = m * sz)
    (hsrc : ∀ j v, cs[j]? = some v → w.cell? (a.add j) = some v) (hfit : o + cs.length ≤ cur.size) (h1 : ∀ v ∈ cs, v.oneCell' = true) :
    (Builtin.copy_ #[dT, sT] ty #[.slice (some ⟨g, o, none⟩) dLen dCap, .slice (some a) sLen sCap]).run P w =
      .ok (goInt m) (w.setRow g (cur.toList.take o ++ cs ++ cur.toList.drop (o + cs.length)).toArray) := by
  have hl := run_loadCells_list (P := P) w a cs hsrc
  have hst := run_storeCells_at P g o t cs 0 cur w hg (by simpa using hfit) h1
  cases hq : P.info? elem with
  | none => simp [hq] at hs
  | some i =>
    have hi : i.size = sz := by simpa [hq] using hs
    rw [hn] at hl
    simp [Builtin.copy_, run_underlying hu, Builtin.lenOf, Builtin.firstCells, sizeOf, typeInfo, hq, hi, hm, hl, hst]
theorem setRow_other (w : World) (g k : Nat) (c : Array Value) (h : k ≠ g) : (w.setRow g c).heap[k]? = w.heap[k]? := by
  unfold World.setRow
  simp [Array.getElem?_modify, Ne.symm h]
theorem setRow_grown (w : World) (g : Nat) (c : Array Value) : w.grownBy (w.setRow g c) (some g) :=
  ⟨rfl, rfl, rfl, by simp [World.setRow], fun k _ hk => setRow_other w g k c (fun e => hk (by rw [e]))⟩
theorem size49_ : (Try.prog.info? 49).map (·.size) = some 2 := by kernel_rfl
theorem sizeOf49_ (w : World) : (Go.sizeOf 49).run Try.prog w = .ok 2 w := by kernel_rfl
theorem add0_ (b o k : Nat) : (⟨b, o, none⟩ : Addr).add k = ⟨b, o + k, none⟩ := by unfold Addr.add; split <;> simp_all
theorem insert_shift_w (b n c i vb vc : Nat) (cur : Array Value) (cs vs : List Value) (vcur : Array Value) (w : World) (hi : i < n) (hroom : n + 1 ≤ c) (hc63 : c ≤ 9223372036854775807) (hvb : vb ≠ b)
    (hb : w.heap[b]? = some (.cells cur 49 (0, 0))) (hsz : cur.size = c * 2) (hcs : (cur.toList.take (n * 2)).drop (i * 2) = cs)
    (hv : w.heap[vb]? = some (.cells vcur 49 (0, 0))) (hvs : vcur.toList.take 2 = vs) (hvl : vs.length = 2) (h1c : ∀ v ∈ cs, v.oneCell' = true) (h1v : ∀ v ∈ vs, v.oneCell' = true) :
    Calls Try.prog 55 #[.slice (some ⟨b, 0, none⟩) n c, .int .i64 i, .slice (some ⟨vb, 0, none⟩) 1 vc] w fun e w' =>
      e = .returned (.slice (some ⟨b, 0, none⟩) (n + 1) c) ∧ w.grownBy w' (some b) ∧ ∃ cur2 : Array Value, w'.heap[b]? = some (.cells cur2 49 (0, 0)) ∧ cur2.size = cur.size ∧ cur2.toList.take ((n + 1) * 2) = cur.toList.take (i * 2) ++ vs ++ cs := by
  have hz2 : ¬ ((i : Int) = (n : Int)) := by omega
  have hcl : cs.length = (n - i) * 2 := by rw [← hcs, List.length_drop, List.length_take, Array.length_toList]; omega
  have hw1 : IntKind.i64.wrap ((i : Int) + (1 : Int)) = (i : Int) + (1 : Int) := by rw [IntKind.wrap_i64]; omega
  have hw2 : IntKind.i64.wrap ((n : Int) + (1 : Int)) = (n : Int) + (1 : Int) := by rw [IntKind.wrap_i64]; omega
  have hov : ∀ o lb cb, (callFunc 70 #[.slice (some ⟨vb, 0, none⟩) 1 vc, .slice (some ⟨b, o, none⟩) lb cb]).run Try.prog w = .ok (.value (.bool false)) w := fun o lb cb => by
    rw [run_callFunc_extern Try.func70 (by kernel_rfl) (by kernel_rfl) (by kernel_rfl) (e := Extern.SlicesOverlaps.overlaps #[26, 26] #[4]) (by kernel_rfl),
      Lib.run_overlaps_apart w 26 4 49 Try.underlying26 2 sizeOf49_ ⟨vb, 0, none⟩ ⟨b, o, none⟩ 1 vc lb cb hvb 49 49 vcur.size cur.size (by simp [World.shape?, hv]) (by simp [World.shape?, hb]) (by omega) (by simp [World.frozen?, hv]) (by simp [World.frozen?, hv])]
    rfl
  have hbw : b < w.heap.size := (Array.getElem?_eq_some_iff.1 hb).1
  have hcurl : cur.toList.length = c * 2 := by rw [Array.length_toList, hsz]
  obtain ⟨cur1, hcur1⟩ : ∃ cur1 : Array Value, cur1 = (cur.toList.take ((i + 1) * 2) ++ cs ++ cur.toList.drop ((i + 1) * 2 + cs.length)).toArray := ⟨_, rfl⟩
  obtain ⟨W1, hW1⟩ : ∃ W1, W1 = w.drew.setRow b cur1 := ⟨_, rfl⟩
  have hcl1 : cur1.toList.length = c * 2 := by rw [hcur1]; simp only [List.toList_toArray, List.length_append, List.length_take, List.length_drop, hcurl, hcl]; omega
  have hb1 : W1.heap[b]? = some (.cells cur1 49 (0, 0)) := by rw [hW1]; exact setRow_heap w.drew b cur _ 49 _ hb
  have hv1 : W1.heap[vb]? = some (.cells vcur 49 (0, 0)) := by rw [hW1, setRow_other _ _ _ _ hvb]; exact hv
  obtain ⟨cur2, hcur2⟩ : ∃ cur2 : Array Value, cur2 = (cur1.toList.take (i * 2) ++ vs ++ cur1.toList.drop (i * 2 + vs.length)).toArray := ⟨_, rfl⟩
  have hcp1 : ∀ ty dc sc, (Builtin.copy_ #[26, 26] ty #[.slice (some ⟨b, (i + 1) * 2, none⟩) (n - i) dc, .slice (some ⟨b, i * 2, none⟩) (n + 1 - i) sc]).run Try.prog w.drew = .ok (goInt ((n - i : Nat) : Int)) W1 := fun ty dc sc => by
    rw [run_copy_wide w.drew 26 26 ty 49 2 b ((i + 1) * 2) (n - i) dc ⟨b, i * 2, none⟩ (n + 1 - i) sc (n - i) cur 49 cs Try.underlying26 size49_ hb (by simp only [Nat.min_def]; split <;> omega) hcl
      (fun j v hj => by
        rw [add0_]
        rw [← hcs, List.getElem?_drop, List.getElem?_take] at hj
        split at hj
        · have h2 := cell_of_row w.drew b (i * 2 + j) cur 49 (0, 0) hb
          rw [h2, ← Array.getElem?_toList]; exact hj
        · cases hj)
      (by rw [hcl, hsz]; omega) h1c, hW1, hcur1]
  have hcp2 : ∀ ty dc, (Builtin.copy_ #[26, 26] ty #[.slice (some ⟨b, i * 2, none⟩) (n + 1 - i) dc, .slice (some ⟨vb, 0, none⟩) 1 vc]).run Try.prog W1 = .ok (goInt ((1 : Nat) : Int)) (W1.setRow b cur2) := fun ty dc => by
    rw [run_copy_wide W1 26 26 ty 49 2 b (i * 2) (n + 1 - i) dc ⟨vb, 0, none⟩ 1 vc 1 cur1 49 vs Try.underlying26 size49_ hb1 (by simp only [Nat.min_def]; split <;> omega) (by rw [hvl])
      (fun j v hj => by
        rw [add0_]
        rw [← hvs, List.getElem?_take] at hj
        split at hj
        · have h2 := cell_of_row W1 vb (0 + j) vcur 49 (0, 0) hv1
          rw [h2, ← Array.getElem?_toList, Nat.zero_add]; exact hj
        · cases hj)
      (by rw [← Array.length_toList, hcl1, hvl]; omega) h1v, hcur2]
  have hres : cur2.toList.take ((n + 1) * 2) = cur.toList.take (i * 2) ++ vs ++ cs := by
    have e1 : cur1.toList.take (i * 2) = cur.toList.take (i * 2) := by
      rw [hcur1, List.toList_toArray, List.append_assoc, List.take_append_of_le_length (by rw [List.length_take]; omega), List.take_take]
      congr 1; omega
    have e2 : cur1.toList.drop (i * 2 + vs.length) = cs ++ cur.toList.drop ((i + 1) * 2 + cs.length) := by
      rw [hcur1, List.toList_toArray, List.append_assoc, List.drop_left' (by rw [List.length_take]; omega)]
    rw [hcur2, List.toList_toArray, e1, e2, ← List.append_assoc]
    rw [List.take_left' (by simp only [List.length_append, List.length_take, hcl, hvl]; omega)]
  have hsz2 : cur2.size = cur.size := by
    rw [← Array.length_toList, hcur2, List.toList_toArray]
    simp only [List.length_append, List.length_take, List.length_drop, hcl1, hvl, hsz]; omega
  have hg1 : w.grownBy W1 (some b) := by rw [hW1]; exact ⟨rfl, rfl, rfl, (setRow_grown w.drew b cur1).size, (setRow_grown w.drew b cur1).block⟩
  have hg2 : w.grownBy (W1.setRow b cur2) (some b) := ⟨hg1.os, hg1.tape, hg1.output, Nat.le_trans hg1.size (setRow_grown W1 b cur2).size, fun k hk hne => ((setRow_grown W1 b cur2).block k (Nat.lt_of_lt_of_le hk hg1.size) hne).trans (hg1.block k hk hne)⟩
  have hb2 : (W1.setRow b cur2).heap[b]? = some (.cells cur2 49 (0, 0)) := setRow_heap W1 b cur1 cur2 49 _ hb1
  obtain ⟨W2, hW2⟩ : ∃ W2, W2 = W1.setRow b cur2 := ⟨_, rfl⟩
  rw [← hW2] at hg2 hb2 hcp2
  clear hcur1 hcur2 hW1 hW2
  have hb1_ : (0 : Int) ≤ (i : Int) + (1 : Int) := by omega
  have hin : i ≤ n := by omega
  have htn : ((i : Int) + (1 : Int)).toNat = i + 1 := by omega
  have hb5 : ¬ (c = i + 1) := by omega
  have hb3 : (i : Int) ≤ (n : Int) + (1 : Int) := by omega
  have hb4 : ¬ (c = i) := by omega
  go_enter Try.func55, Try.ntmps55
  go_wp2_with (simp only [hov])
  go_region_law (refine step_copy_runI rfl _ _ 26 26 rfl _ _ (by simp [Act.eval, Act.put]) (by simp [Act.eval, Act.put]) (hcp1 _ _ _) ?_)
  go_wp2_with (at_builtin; refine wpList_copy_runI _ rfl _ _ 26 26 rfl _ _ rfl rfl (hcp2 _ _) ?_)
  go_ret
  exact ⟨rfl, hg2, cur2, hb2, hsz2, hres⟩
theorem grown_none {w w' : World} {b : Nat} (h : w.grownBy w' (some b)) (hb : w.heap.size ≤ b) (r : Option Nat) : w.grownBy w' r :=
  ⟨h.os, h.tape, h.output, h.size, fun k hk _ => h.block k hk (fun e => by injection e with e; omega)⟩
theorem insert_grow_w (b n c i vb vc : Nat) (cur : Array Value) (cs vs : List Value) (vcur : Array Value) (w : World) (hi : i < n) (hroom : ¬ n + 1 ≤ c) (hnc : n ≤ c) (hn : n ≤ 1000000)
    (hb : w.heap[b]? = some (.cells cur 49 (0, 0))) (hsz : cur.size = c * 2) (hcs : (cur.toList.take (n * 2)).drop (i * 2) = cs)
    (hv : w.heap[vb]? = some (.cells vcur 49 (0, 0))) (hvs : vcur.toList.take 2 = vs) (hvl : vs.length = 2) (h1c : ∀ v ∈ cs, v.oneCell' = true) (h1v : ∀ v ∈ vs, v.oneCell' = true) :
    Calls Try.prog 55 #[.slice (some ⟨b, 0, none⟩) n c, .int .i64 i, .slice (some ⟨vb, 0, none⟩) 1 vc] w fun e w' =>
      ∃ G, n + 1 ≤ G ∧ G ≤ maxLen ∧ e = .returned (.slice (some ⟨w.heap.size, 0, none⟩) (n + 1) G) ∧ w.grownBy w' none ∧ ∃ cur2 : Array Value, w'.heap[w.heap.size]? = some (.cells cur2 49 (0, 0)) ∧ cur2.size = G * 2 ∧ cur2.toList.take ((n + 1) * 2) = cur.toList.take (i * 2) ++ vs ++ cs := by
  have hz2 : ¬ ((i : Int) = (n : Int)) := by omega
  have hcl : cs.length = (n - i) * 2 := by rw [← hcs, List.length_drop, List.length_take, Array.length_toList]; omega
  have hw1 : IntKind.i64.wrap ((i : Int) + (1 : Int)) = (i : Int) + (1 : Int) := by rw [IntKind.wrap_i64]; omega
  have hw2 : IntKind.i64.wrap ((n : Int) + (1 : Int)) = (n : Int) + (1 : Int) := by rw [IntKind.wrap_i64]; omega
  have hw3 : IntKind.i64.wrap ((n : Int) + (1 : Int) - (i : Int)) = ((n + 1 - i : Nat) : Int) := by rw [IntKind.wrap_i64]; omega
  have hz3 : (c : Int) < (n : Int) + (1 : Int) := by omega
  have hbw : b < w.heap.size := (Array.getElem?_eq_some_iff.1 hb).1
  have hvw : vb < w.heap.size := (Array.getElem?_eq_some_iff.1 hv).1
  have hcurl : cur.toList.length = c * 2 := by rw [Array.length_toList, hsz]
  obtain ⟨i0, hi0, hz0⟩ := Option.map_eq_some_iff.1 info49_
  simp only [Prod.mk.injEq] at hz0
  obtain ⟨hz0, hzs, hzb⟩ := hz0
  have hold : (Builtin.firstCells i0.size i (.slice (some ⟨b, 0, none⟩) i c)).run Try.prog w.drew = .ok (cur.toList.take (i * 2)).toArray w.drew := by
    rw [hzs]
    exact run_firstCells_some w.drew 2 i ⟨b, 0, none⟩ i c (cur.toList.take (i * 2)) (by rw [List.length_take]; omega) (fun j v hj => by
      rw [add0_, Nat.zero_add]
      rw [List.getElem?_take] at hj
      split at hj
      · have h2 := cell_of_row w.drew b j cur 49 (0, 0) hb
        rw [h2, ← Array.getElem?_toList]; exact hj
      · cases hj)
  obtain ⟨G, hG⟩ : ∃ G, G = grownCap w (n + 1) c 49 := ⟨_, rfl⟩
  have hGn : n + 1 ≤ G := by rw [hG]; exact grownCap_ge w _ _ _
  have hGm : G ≤ maxLen := by rw [hG]; exact grownCap_le_maxLen w (n + 1) c 49 (by unfold maxLen; omega)
  have hG63 : G ≤ 9223372036854775807 := by unfold maxLen at hGm; omega
  obtain ⟨ROW, hROW⟩ : ∃ ROW : Array Value, ROW = (cur.toList.take (i * 2)).toArray ++ Builtin.zeroCells (Value.agg #[.int .u32 0, .int .i64 0]).cells (n + 1 - i) ++ Builtin.zeroCells (Value.agg #[.int .u32 0, .int .i64 0]).cells (G - (n + 1)) := ⟨_, rfl⟩
  have hRl : ROW.size = G * 2 := by
    rw [hROW]
    simp only [Array.size_append, List.size_toArray, List.length_take, hcurl, size_zeroCells]
    rw [show (Value.agg #[.int .u32 0, .int .i64 0]).cells.size = 2 from by kernel_rfl]
    omega
  have hRt : ROW.toList.take (i * 2) = cur.toList.take (i * 2) := by
    rw [hROW]
    simp only [Array.toList_append, List.append_assoc]
    rw [List.take_append_of_le_length (by rw [List.length_take]; omega), List.take_take, Nat.min_self]
  have hik : i + (n + 1 - i) = n + 1 := by omega
  obtain ⟨W1, hW1⟩ : ∃ W1, W1 = w.drew.alloc (.cells ROW 49) := ⟨_, rfl⟩
  have hrz : ∀ ty, (Builtin.append_ #[26, 3] ty #[.slice (some ⟨b, 0, none⟩) i c, .int .i64 ((n + 1 - i : Nat) : Int)]).run Try.prog w = .ok (.slice (some ⟨w.heap.size, 0, none⟩) (n + 1) G) W1 := fun ty => by
    have h := Lib.run_append_grow_zeros w 26 3 ty 49 i0 _ .i64 .i64 Try.underlying26 Try.underlying3 hi0 hz0 (some ⟨b, 0, none⟩) i c (cur.toList.take (i * 2)) hold (n + 1 - i) (by omega) (by omega) (by omega) (by omega) (by rw [hzb]; omega) (by rw [hzb, hik]; exact growslice_fits (by omega) (by omega))
    rw [hik, ← hG] at h
    rw [h, hW1, hROW]
  have hg1 : w.grownBy W1 none := by rw [hW1]; exact ⟨rfl, rfl, rfl, (World.grownBy_alloc w.drew _ none).size, (World.grownBy_alloc w.drew _ none).block⟩
  have hb1 : W1.heap[w.heap.size]? = some (.cells ROW 49 (0, 0)) := by rw [hW1]; exact heap_alloc_new w.drew _
  have hv1 : W1.heap[vb]? = some (.cells vcur 49 (0, 0)) := by rw [hg1.block vb hvw (by simp)]; exact hv
  have ho1 : W1.heap[b]? = some (.cells cur 49 (0, 0)) := by rw [hg1.block b hbw (by simp)]; exact hb
  clear hW1
  obtain ⟨cur1, hcur1⟩ : ∃ cur1 : Array Value, cur1 = (ROW.toList.take (i * 2) ++ vs ++ ROW.toList.drop (i * 2 + vs.length)).toArray := ⟨_, rfl⟩
  have hcp1 : ∀ ty dc, (Builtin.copy_ #[26, 26] ty #[.slice (some ⟨w.heap.size, i * 2, none⟩) (n + 1 - i) dc, .slice (some ⟨vb, 0, none⟩) 1 vc]).run Try.prog W1 = .ok (goInt ((1 : Nat) : Int)) (W1.setRow w.heap.size cur1) := fun ty dc => by
    rw [run_copy_wide W1 26 26 ty 49 2 w.heap.size (i * 2) (n + 1 - i) dc ⟨vb, 0, none⟩ 1 vc 1 ROW 49 vs Try.underlying26 size49_ hb1 (by simp only [Nat.min_def]; split <;> omega) (by rw [hvl])
      (fun j v hj => by
        rw [add0_]
        rw [← hvs, List.getElem?_take] at hj
        split at hj
        · have h2 := cell_of_row W1 vb (0 + j) vcur 49 (0, 0) hv1
          rw [h2, ← Array.getElem?_toList, Nat.zero_add]; exact hj
        · cases hj)
      (by rw [hRl, hvl]; omega) h1v, hcur1]
  have hl1 : cur1.toList.length = G * 2 := by
    rw [hcur1, List.toList_toArray]
    simp only [List.length_append, List.length_take, List.length_drop, Array.length_toList, hvl, hRl]; omega
  have hg2 : w.grownBy (W1.setRow w.heap.size cur1) none :=
    grown_none (w' := W1.setRow w.heap.size cur1) (b := w.heap.size) ⟨hg1.os, hg1.tape, hg1.output, Nat.le_trans hg1.size (setRow_grown W1 w.heap.size cur1).size, fun k hk hne => ((setRow_grown W1 w.heap.size cur1).block k (Nat.lt_of_lt_of_le hk hg1.size) hne).trans (hg1.block k hk (by simp))⟩ (Nat.le_refl _) none
  have hb2 : (W1.setRow w.heap.size cur1).heap[w.heap.size]? = some (.cells cur1 49 (0, 0)) := setRow_heap W1 w.heap.size ROW cur1 49 _ hb1
  have ho2 : (W1.setRow w.heap.size cur1).heap[b]? = some (.cells cur 49 (0, 0)) := by rw [setRow_other _ _ _ _ (by omega)]; exact ho1
  obtain ⟨W2, hW2⟩ : ∃ W2, W2 = W1.setRow w.heap.size cur1 := ⟨_, rfl⟩
  rw [← hW2] at hg2 hb2 hcp1 ho2
  clear hW2 hb1 hv1 ho1 hg1
  obtain ⟨cur2, hcur2⟩ : ∃ cur2 : Array Value, cur2 = (cur1.toList.take ((i + 1) * 2) ++ cs ++ cur1.toList.drop ((i + 1) * 2 + cs.length)).toArray := ⟨_, rfl⟩
  obtain ⟨W3, hW3⟩ : ∃ W3, W3 = W2.drew.setRow w.heap.size cur2 := ⟨_, rfl⟩
  have hcp2 : ∀ ty dc sc, (Builtin.copy_ #[26, 26] ty #[.slice (some ⟨w.heap.size, (i + 1) * 2, none⟩) (n - i) dc, .slice (some ⟨b, i * 2, none⟩) (n - i) sc]).run Try.prog W2.drew = .ok (goInt ((n - i : Nat) : Int)) W3 := fun ty dc sc => by
    rw [run_copy_wide W2.drew 26 26 ty 49 2 w.heap.size ((i + 1) * 2) (n - i) dc ⟨b, i * 2, none⟩ (n - i) sc (n - i) cur1 49 cs Try.underlying26 size49_ hb2 (by simp only [Nat.min_def]; split <;> omega) hcl
      (fun j v hj => by
        rw [add0_]
        rw [← hcs, List.getElem?_drop, List.getElem?_take] at hj
        split at hj
        · have h2 := cell_of_row W2.drew b (i * 2 + j) cur 49 (0, 0) ho2
          rw [h2, ← Array.getElem?_toList]; exact hj
        · cases hj)
      (by rw [← Array.length_toList, hl1, hcl]; omega) h1c, hW3, hcur2]
  have hg3 : w.grownBy W3 none := by
    rw [hW3]
    exact grown_none (w' := W2.drew.setRow w.heap.size cur2) (b := w.heap.size) ⟨hg2.os, hg2.tape, hg2.output, Nat.le_trans hg2.size (setRow_grown W2.drew w.heap.size cur2).size, fun k hk hne => ((setRow_grown W2.drew w.heap.size cur2).block k (Nat.lt_of_lt_of_le hk hg2.size) hne).trans (hg2.block k hk (by simp))⟩ (Nat.le_refl _) none
  have hb3 : W3.heap[w.heap.size]? = some (.cells cur2 49 (0, 0)) := by rw [hW3]; exact setRow_heap W2.drew w.heap.size cur1 cur2 49 _ hb2
  have hsz2 : cur2.size = G * 2 := by
    rw [← Array.length_toList, hcur2, List.toList_toArray]
    simp only [List.length_append, List.length_take, List.length_drop, hl1, hcl]; omega
  have hres : cur2.toList.take ((n + 1) * 2) = cur.toList.take (i * 2) ++ vs ++ cs := by
    have e1 : cur1.toList.take ((i + 1) * 2) = cur.toList.take (i * 2) ++ vs := by
      rw [hcur1, List.toList_toArray, hRt]
      exact List.take_left' (by simp only [List.length_append, List.length_take, hcurl, hvl]; omega)
    rw [hcur2, List.toList_toArray, e1]
    exact List.take_left' (by simp only [List.length_append, List.length_take, hcurl, hcl, hvl]; omega)
  clear hcur1 hcur2 hW3 hROW hG
  have hb1_ : (0 : Int) ≤ (i : Int) + (1 : Int) := by omega
  have hin : i ≤ n := by omega
  have htn : ((i : Int) + (1 : Int)).toNat = i + 1 := by omega
  have hb3_ : (i : Int) ≤ (n : Int) + (1 : Int) := by omega
  have hb4 : ¬ (c = i) := by omega
  have hb6 : ¬ (G = i + 1) := by omega
  have hb7 : ¬ (G = i) := by omega
  go_enter Try.func55, Try.ntmps55
  go_wp2_with (first | (at_builtin; refine Lib.wpList_append_run _ rfl _ _ _ _ rfl _ _ rfl rfl _ _ (hrz _) ?_) | (at_builtin; refine wpList_copy_runI _ rfl _ _ 26 26 rfl _ _ rfl rfl (hcp1 _ _) ?_))
  go_region_law (refine step_copy_runI rfl _ _ 26 26 rfl _ _ (by simp [Act.eval, Act.put]) (by simp [Act.eval, Act.put]) (hcp2 _ _ _) ?_)
  go_wp2
  go_ret
  exact ⟨G, hGn, hGm, rfl, hg3, cur2, hb3, hsz2, hres⟩
theorem insert_end_w (B : Nat) (A : Option Addr) (n c vb vc : Nat) (inner vs : List Value) (vcur : Array Value) (w : World) (hB : B ≤ w.heap.size) (hn : n ≤ 1000000) (ho : w.ownsRow B 49 2 (.slice A n c) n inner)
    (hv : w.heap[vb]? = some (.cells vcur 49 (0, 0))) (hvs : vcur.toList.take 2 = vs) (hvl : vs.length = 2) (h1v : ∀ v ∈ vs, v.oneCell' = true) :
    Calls Try.prog 55 #[.slice A n c, .int .i64 n, .slice (some ⟨vb, 0, none⟩) 1 vc] w fun e w' => ∃ v', e = .returned v' ∧ w'.ownsRow B 49 2 v' (n + 1) (inner ++ vs) ∧ w.grownBy w' (Value.slice A n c).ownBlock := by
  obtain ⟨i0, hi0, hz0⟩ := Option.map_eq_some_iff.1 info49_
  simp only [Prod.mk.injEq] at hz0
  obtain ⟨hz0, hzs, hzb⟩ := hz0
  have hcell : ∀ j u, vs[j]? = some u → w.cell? ((⟨vb, 0, none⟩ : Addr).add j) = some u := fun j v hj => by
    rw [add0_]
    rw [← hvs, List.getElem?_take] at hj
    split at hj
    · have h2 := cell_of_row w vb (0 + j) vcur 49 (0, 0) hv
      rw [h2, ← Array.getElem?_toList, Nat.zero_add]; exact hj
    · cases hj
  have hzc : (Value.agg #[.int .u32 0, .int .i64 0]).cells.size = 2 := by kernel_rfl
  have hc : n ≤ c := by
    rcases ho.2 with ⟨he, h0⟩ | ⟨g, cap, cur, he, _, _, hnc, _⟩
    · omega
    · simp only [Value.slice.injEq] at he
      omega
  have hO := Aside0.mk ho
  clear ho
  have hmax : n + 1 ≤ maxLen := by unfold maxLen; omega
  cases A with
  | none =>
    obtain ⟨rfl, rfl⟩ : n = 0 ∧ c = 0 := by
      rcases hO.out.2 with ⟨he, h0⟩ | ⟨g, cap, cur, he, _, _, hnc, _⟩
      · simp only [Value.slice.injEq] at he
        exact ⟨h0, he.2.2⟩
      · simp at he
    go_enter Try.func55, Try.ntmps55
    go_wp2_with (first | (at_builtin; refine wpList_append_own _ rfl _ _ 26 rfl B 49 i0 _ 2 16 Try.underlying26 hi0 hz0 hzs hzb hzc (by decide) _ 0 inner rfl hO.out ⟨vb, 0, none⟩ 1 vc vs rfl (by rw [hvl]) hcell h1v hmax (by omega) hB ?_; intro v' w' hO' hG' _; have HO' := Aside0.mk hO'; clear hO'))
    go_ret
    exact ⟨_, rfl, HO'.out, hG'⟩
  | some ad =>
    go_enter Try.func55, Try.ntmps55
    go_wp2_with (first | (at_builtin; refine wpList_append_own _ rfl _ _ 26 rfl B 49 i0 _ 2 16 Try.underlying26 hi0 hz0 hzs hzb hzc (by decide) _ n inner rfl hO.out ⟨vb, 0, none⟩ 1 vc vs rfl (by rw [hvl]) hcell h1v hmax (by omega) hB ?_; intro v' w' hO' hG' _; have HO' := Aside0.mk hO'; clear hO'))
    all_goals go_ret
    all_goals exact ⟨_, rfl, HO'.out, hG'⟩
theorem insert_w (B : Nat) (v : Value) (n i vb vc : Nat) (inner vs : List Value) (vcur : Array Value) (w : World) (hB : B ≤ w.heap.size) (hn : n ≤ 1000000) (hi : i ≤ n) (ho : w.ownsRow B 49 2 v n inner) (h1 : ∀ u ∈ inner, u.oneCell' = true)
    (hv : w.heap[vb]? = some (.cells vcur 49 (0, 0))) (hvs : vcur.toList.take 2 = vs) (hvl : vs.length = 2) (h1v : ∀ v ∈ vs, v.oneCell' = true) (hne : v.ownBlock ≠ some vb) :
    Calls Try.prog 55 #[v, .int .i64 i, .slice (some ⟨vb, 0, none⟩) 1 vc] w fun e w' => ∃ v', e = .returned v' ∧ w'.ownsRow B 49 2 v' (n + 1) (inner.take (i * 2) ++ vs ++ inner.drop (i * 2)) ∧ w.grownBy w' v.ownBlock := by
  obtain ⟨A, c, rfl⟩ : ∃ A c, v = .slice A n c := by
    rcases ho.2 with ⟨rfl, rfl⟩ | ⟨g, cap, cur, rfl, _⟩
    · exact ⟨_, _, rfl⟩
    · exact ⟨_, _, rfl⟩
  by_cases he : i = n
  · subst he
    rw [List.take_of_length_le (by rw [ho.1]; exact Nat.le_refl _), List.drop_of_length_le (by rw [ho.1]; exact Nat.le_refl _), List.append_nil]
    exact insert_end_w B A i c vb vc inner vs vcur w hB hn ho hv hvs hvl h1v
  rcases ho.2 with ⟨hz, h0⟩ | ⟨g, cap, cur, hz, hbg, hg, hnc, hcm, hcs, htake⟩
  · omega
  simp only [Value.slice.injEq, true_and] at hz
  obtain ⟨rfl, rfl⟩ := hz
  have hit : cur.toList.take (i * 2) = inner.take (i * 2) := by
    rw [← htake, List.take_take]
    congr 1; omega
  have hlen : (inner.take (i * 2) ++ vs ++ inner.drop (i * 2)).length = (n + 1) * 2 := by
    simp only [List.length_append, List.length_take, List.length_drop, ho.1, hvl]; omega
  have h1c : ∀ u ∈ inner.drop (i * 2), u.oneCell' = true := fun u hu => h1 u (List.mem_of_mem_drop hu)
  by_cases hr : n + 1 ≤ c
  · refine (insert_shift_w g n c i vb vc cur (inner.drop (i * 2)) vs vcur w (by omega) hr (by unfold maxLen at hcm; omega) (fun e => hne (by simp [Value.ownBlock, e])) hg hcs (by rw [htake]) hv hvs hvl h1c h1v).mono ?_
    rintro e w' ⟨rfl, hgr, cur2, hb2, hs2, ht2⟩
    exact ⟨_, rfl, ⟨hlen, .inr ⟨g, c, cur2, rfl, hbg, hb2, hr, hcm, by rw [hs2, hcs], by rw [ht2, hit]⟩⟩, hgr⟩
  · refine (insert_grow_w g n c i vb vc cur (inner.drop (i * 2)) vs vcur w (by omega) hr hnc hn hg hcs (by rw [htake]) hv hvs hvl h1c h1v).mono ?_
    rintro e w' ⟨G, hG1, hG2, rfl, hgr, cur2, hb2, hs2, ht2⟩
    exact ⟨_, rfl, ⟨hlen, .inr ⟨w.heap.size, G, cur2, rfl, hB, hb2, hG1, hG2, hs2, by rw [ht2, hit]⟩⟩, ⟨hgr.os, hgr.tape, hgr.output, hgr.size, fun k hk _ => hgr.block k hk (by simp)⟩⟩
end Go.Proofs.Ytbllchfgjginoaa
/-
  slices.Clone of a row of sockets; slices.Delete of one of a row of the call's own.
-/
namespace Go.Proofs.Ytbllchfgjginoaa
open Go.RowKit Go.Lib Go.Proofs.YtbllchfgjginoaaW.PrintWords Go.Proofs.Ytbllchfgjginoaa.PMe
set_option linter.unusedVariables false
set_option linter.unusedSimpArgs false
set_option maxRecDepth 100000 in
theorem eqnilA_ {ops : Array Oper} {Q : Exit → Act → World → Prop} {rest : List Oper} {o : Oper} {a : Act} {w : World} (hg : o.guard = none) (x y : Operand) (hop : o.op = .binOp .eql 26 x y 26) (A : Option Addr) (n c : Nat) (hx : a.eval x = .slice A n c) (hy : a.eval y = .slice none 0 0)
    (h : wpList Try.prog ops Q rest (a.put o.dst (.bool A.isNone)) w) : wpList Try.prog ops Q (o :: rest) a w := by
  have hrun : (binOp .eql 26 (.slice A n c) (.slice none 0 0)).run Try.prog w = .ok (.bool A.isNone) w := by
    cases A
    · kernel_rfl
    · kernel_rfl
  have hgu : (eqGuard .eql 26 x y (.slice A n c) (.slice none 0 0)).run Try.prog w = .ok () w := by
    cases A
    · kernel_rfl
    · kernel_rfl
  refine wpList_plain hg fun K hK => ?_
  unfold Oper.wp
  simp only [execOp, hop, hx, hy, Sem.run_bind, hgu, hrun, Result.andThen]
  exact hK _ _ h
theorem R_inner {R : S49 → List Value → Prop} (hR1 : ∀ p c, R p c → ∀ u ∈ c, u.oneCell' = true) {l : List S49} {ad : Addr} {w : World} (hr : ReadsRow R 2 w (some ad) l.length l) : ∃ inner, Reps R 2 l inner ∧ inner.length = l.length * 2 ∧ (∀ u ∈ inner, u.oneCell' = true) ∧ ∀ j u, inner[j]? = some u → w.cell? (ad.add j) = some u := by
  obtain ⟨inner, h1, h2⟩ := ReadsRow.inner_ hr
  exact ⟨inner, h1, h1.1, Kd.reps_one h1 (by decide) hR1, h2⟩
set_option maxHeartbeats 4000000 in
set_option maxRecDepth 100000 in
theorem clone_w {R : S49 → List Value → Prop} (hR1 : ∀ p c, R p c → ∀ u ∈ c, u.oneCell' = true) (A : Option Addr) (c : Nat) (l : List S49) (w : World) (hn : l.length ≤ 1000000) (hr : ReadsRow R 2 w A l.length l) :
    Calls Try.prog 29 #[.slice A l.length c] w fun e w' => ∃ v, e = .returned v ∧ ∃ inner, w'.ownsRow w.heap.size 49 2 v l.length inner ∧ Reps R 2 l inner ∧ (∀ u ∈ inner, u.oneCell' = true) ∧ w.grownBy w' none := by
  cases A with
  | none =>
    have h0 : l.length = 0 := by
      by_cases hp : 0 < l.length
      · obtain ⟨ad, he, _⟩ := hr.2.2 hp
        cases he
      · omega
    obtain rfl := List.eq_nil_of_length_eq_zero h0
    go_enter Try.func29, Try.ntmps29
    go_wp2_with (first | ((with_reducible refine gate_dst (N := 4) rfl ?_); refine eqnilA_ rfl _ _ rfl _ _ _ rfl rfl ?_))
    go_ret
    exact ⟨_, rfl, [], World.ownsRow_nil _ _ _ _, Reps.none _ _, (fun u hu => by simp at hu), ⟨rfl, rfl, rfl, Nat.le_refl _, fun _ _ _ => rfl⟩⟩
  | some ad =>
    obtain ⟨inner, hR, hl, h1, hcell⟩ := R_inner hR1 hr
    have HR := Aside0.mk hR
    clear hR hr hR1
    obtain ⟨i0, hi0, hz0⟩ := Option.map_eq_some_iff.1 info49_
    simp only [Prod.mk.injEq] at hz0
    obtain ⟨hz0, hzs, hzb⟩ := hz0
    have hzc : (Value.agg #[.int .u32 0, .int .i64 0]).cells.size = 2 := by kernel_rfl
    have hmax : 0 + l.length ≤ maxLen := by unfold maxLen; omega
    have hO := Aside0.mk (World.ownsRow_lit (base := w.heap.size) (e := 49) (size := 2) w #[] 0 (Nat.le_refl _) (by decide) rfl)
    have hcell2 : ∀ j u, inner[j]? = some u → (w.alloc (.cells #[] 49)).cell? (ad.add j) = some u := fun j u hu => (World.grownBy_alloc w (.cells #[] 49) none).cell (hcell j u hu) (by simp)
    have hAl := Aside0.mk (World.grownBy_alloc w (.cells #[] 49) none)
    go_enter Try.func29, Try.ntmps29
    go_wp2_with (first | ((with_reducible refine gate_dst (N := 4) rfl ?_); refine eqnilA_ rfl _ _ rfl _ _ _ rfl rfl ?_) | ((with_reducible refine gate_builtin (b := .append) (xs := #[.tmp 5, .tmp 6]) rfl ?_); at_builtin; refine wpList_append_own _ rfl _ _ 26 rfl w.heap.size 49 i0 _ 2 16 Try.underlying26 hi0 hz0 hzs hzb hzc (by decide) _ 0 [] rfl hO.out ad l.length c inner rfl hl hcell2 h1 hmax (by omega) (by simp) ?_; intro v' w' hO' hG' _; have HO' := Aside0.mk hO'; clear hO'))
    all_goals go_ret
    all_goals
      have h2 := HO'.out
      rw [Nat.zero_add, List.nil_append] at h2
      exact ⟨_, rfl, inner, h2, HR.out, h1, grown_none (w := w) (w' := w') (b := w.heap.size) ⟨hG'.os, hG'.tape, hG'.output, Nat.le_trans hAl.out.size hG'.size, fun k hk hne => (hG'.block k (Nat.lt_of_lt_of_le hk hAl.out.size) hne).trans (hAl.out.block k hk (by simp))⟩ (Nat.le_refl _) none⟩
end Go.Proofs.Ytbllchfgjginoaa
