-- written by a program of this session (hprint.py), over the kit's printer
import Derived.Test.YtjncmiclpaodhaaSoI
import Derived.Test.YtjncmiclpaodhaaHoC
import Derived.Test.YtjncmiclpaodhaaPHoy1
namespace Go.Proofs.Ytjncmiclpaodhaa.PHo
set_option maxHeartbeats 8000000
set_option maxRecDepth 100000
open Go.RowKit Go.Proofs.YtjncmiclpaodhaaW.PrintWords Go.Proofs.YtjncmiclpaodhaaW.PrintLast Go.Proofs.YtjncmiclpaodhaaW.PrintMore
attribute [local go_sem] max2_int min2_int max_two min_two max_three min_three max_four min_four   -- for this text's walks alone
set_option linter.unusedVariables false
set_option linter.unusedSimpArgs false

-- NOT PRINTED: function 50 (api_Socket_int)

-- NOT PRINTED: function 29 (host_place)

/-! ### addr_IsGroup: function 67 -/
def addr_IsGroup.f (a0 : Int) : Option (Bool) := some ((a0 / 268435456) == 14)
theorem addr_IsGroup.calls (a0 : Int) (r : Bool) (w : World) (h : addr_IsGroup.f a0 = some r) :
    Calls Try.prog 67 #[.int .u32 a0] w fun e w' => e = .returned (.bool r) ∧ Drawn0 w w' := by
  have H : (some ((a0 / 268435456) == 14)) = some r := h
  clear h
  obtain rfl := Option.some.inj H
  go_enter Try.func67, Try.ntmps67
  go_wp2
  go_ret
  exact ⟨fr, by repeat (first | exact Drawn0.refl _ | apply Drawn0.step)⟩

/-! ### addr_IsLocal: function 68 -/
def addr_IsLocal.f (a0 : Int) : Option (Bool) := some ((a0 / 256) == 14680064)
theorem addr_IsLocal.calls (a0 : Int) (r : Bool) (w : World) (h : addr_IsLocal.f a0 = some r) :
    Calls Try.prog 68 #[.int .u32 a0] w fun e w' => e = .returned (.bool r) ∧ Drawn0 w w' := by
  have H : (some ((a0 / 256) == 14680064)) = some r := h
  clear h
  obtain rfl := Option.some.inj H
  go_enter Try.func68, Try.ntmps68
  go_wp2
  go_ret
  exact ⟨fr, by repeat (first | exact Drawn0.refl _ | apply Drawn0.step)⟩

/-! ### addr_IsAsked: function 53 -/
def addr_IsAsked.f (a0 : Int) : Option (Bool) := (addr_IsGroup.f a0).bind fun t102 => (if t102 = true then ((addr_IsLocal.f a0).bind fun t103 => (some (!t103))) else (some false))
theorem addr_IsAsked.calls (a0 : Int) (r : Bool) (w : World) (h : addr_IsAsked.f a0 = some r) :
    Calls Try.prog 53 #[.int .u32 a0] w fun e w' => e = .returned (.bool r) ∧ Drawn0 w w' := by
  have H : ((addr_IsGroup.f a0).bind fun t102 => (if t102 = true then ((addr_IsLocal.f a0).bind fun t103 => (some (!t103))) else (some false))) = some r := h
  clear h
  replace H := Option.bind_eq_some_iff.mp H
  obtain ⟨t102, A20, H⟩ := H
  replace H : (if t102 = true then ((addr_IsLocal.f a0).bind fun t103 => (some (!t103))) else (some false)) = some r := H
  have A2 := Aside0.mk A20
  clear A20
  by_cases c3 : t102 = true
  · subst c3
    replace H : ((addr_IsLocal.f a0).bind fun t103 => (some (!t103))) = some r := by rw [if_pos rfl] at H; exact H
    replace H := Option.bind_eq_some_iff.mp H
    obtain ⟨t103, A40, H⟩ := H
    replace H : (some (!t103)) = some r := H
    have A4 := Aside0.mk A40
    clear A40
    obtain rfl := Option.some.inj H
    go_enter Try.func53, Try.ntmps53
    go_wp2_with (first | ((with_reducible refine gate_callee (f := 67) rfl ?_); refine goesL_ (some 4) rfl rfl Try.func67 (by kernel_rfl) rfl #[.int .u32 a0] rfl (by (try simp only [List.map_toArray, List.map_cons, List.map_nil]); first | done | rfl | (simp only [List.length_drop, List.length_take]; rfl)) ?_; (with_reducible refine (addr_IsGroup.calls a0 true _ A2.out).mono ?_); rintro e w' ⟨rfl, ⟨nd, rfl⟩⟩; refine ⟨_, rfl, ?_⟩) | (go_at_call 68; (with_reducible refine (addr_IsLocal.calls a0 t103 _ A4.out).mono ?_); rintro e w' ⟨rfl, ⟨nd, rfl⟩⟩))
    go_ret
    exact ⟨fr, by repeat (first | exact Drawn0.refl _ | apply Drawn0.step)⟩
  · replace c3 := Bool.eq_false_iff.mpr c3
    subst c3
    replace H : (some false) = some r := by rw [if_neg (show ¬ (false = true) by decide)] at H; exact H
    obtain rfl := Option.some.inj H
    go_enter Try.func53, Try.ntmps53
    go_wp2_with (first | ((with_reducible refine gate_callee (f := 67) rfl ?_); refine goesL_ (some 4) rfl rfl Try.func67 (by kernel_rfl) rfl #[.int .u32 a0] rfl (by (try simp only [List.map_toArray, List.map_cons, List.map_nil]); first | done | rfl | (simp only [List.length_drop, List.length_take]; rfl)) ?_; (with_reducible refine (addr_IsGroup.calls a0 false _ A2.out).mono ?_); rintro e w' ⟨rfl, ⟨nd, rfl⟩⟩; refine ⟨_, rfl, ?_⟩))
    go_ret
    exact ⟨fr, by repeat (first | exact Drawn0.refl _ | apply Drawn0.step)⟩

/-! ### set_Right: function 54 -/
def set_Right.l0 : Nat → List Int → Int → Int → Option (Bool)
  | 0, _, _, _ => none
  | k + 1, x0, x5, x6 => if x6 < x5 then (if x6 > 0 then (if 0 ≤ (wrap64 (x6 - 1)) then (if (wrap64 (x6 - 1)) < (x0.length : Int) then (if 0 ≤ x6 then (if x6 < (x0.length : Int) then (if (rd x0 (wrap64 (x6 - 1))) ≥ (rd x0 x6) then (some false) else (set_Right.l0 k x0 x5 (wrap64 (x6 + 1)))) else (none)) else (none)) else (none)) else (none)) else (set_Right.l0 k x0 x5 (wrap64 (x6 + 1)))) else (some true)
def set_Right.f (k : Nat) (l0 : List Int) : Option (Bool) := set_Right.l0 k l0 (l0.length : Int) 0
theorem set_Right.mono_l : ∀ k, (∀ y0 y1 y2, LeO (set_Right.l0 k y0 y1 y2) (set_Right.l0 (k + 1) y0 y1 y2))
  | 0 => fun _ _ _ r h => by simp [set_Right.l0] at h
  | k + 1 => by
    have ih0 := set_Right.mono_l k
    · intro y0 y1 y2
      unfold set_Right.l0
      repeat' first
      | (with_reducible exact ih0 _ _ _)
      | (with_reducible exact LeO.refl _)
      | (with_reducible exact LeO.none _)
      | (with_reducible refine LeO.ite ?_ ?_)
      | (with_reducible refine LeO.bind ?_ (fun _ => ?_))
      | exact ih0 _ _ _
      | exact LeO.none _
      | refine LeO.ite ?_ ?_
      | refine LeO.bind ?_ (fun _ => ?_)
theorem set_Right.mono : ∀ a0 k, LeO (set_Right.f k a0) (set_Right.f (k + 1) a0) := by
  intro a0 k
  have ih0 := set_Right.mono_l k
  unfold set_Right.f
  repeat' first
      | (with_reducible exact ih0 _ _ _)
      | (with_reducible exact LeO.refl _)
      | (with_reducible exact LeO.none _)
      | (with_reducible refine LeO.ite ?_ ?_)
      | (with_reducible refine LeO.bind ?_ (fun _ => ?_))
      | exact ih0 _ _ _
      | exact LeO.none _
      | refine LeO.ite ?_ ?_
      | refine LeO.bind ?_ (fun _ => ?_)
theorem set_Right.calls (k : Nat) (A0 : Option Addr) (c0 : Nat) (l0 : List Int) (r : Bool) (w : World) (hr0 : Kd.C (Kd.int .u32) w A0 l0.length l0) (hc0 : l0.length ≤ c0) (h : set_Right.f k l0 = some r) :
    Calls Try.prog 54 #[.slice A0 l0.length c0] w fun e w' => e = .returned (.bool r) ∧ Drawn0 w w' := by
  have HR0 := Aside0.mk hr0
  have HC0 := Aside0.mk hc0
  clear hr0 hc0
  have H : (set_Right.l0 k l0 (l0.length : Int) 0) = some r := h
  clear h
  have H' := Aside0.mk H
  clear H
  go_enter Try.func54, Try.ntmps54
  go_wp2
  repeat (go_quiet (fail); try go_wp2)
  go_loopg [6] k (fun kq v6 w' => ∃ (x6_1 : Int), v6 = .int .i64 x6_1 ∧ Aside0 (set_Right.l0 kq l0 (l0.length : Int) x6_1 = some r) ∧ Aside0 (kq ≤ k) ∧ Drawn0 w w')
  case atStart => exact ⟨(0), (fr), H', ⟨Nat.le_refl _⟩, by repeat (first | exact Drawn0.refl _ | apply Drawn0.step)⟩
  case round =>
    clear H'
    obtain ⟨x6_1, rfl, HA, HK1, ⟨m1, rfl⟩⟩ := hrel
    cases gk with
    | zero => exact absurd HA.out (by simp [set_Right.l0])
    | succ k1 =>
      have H := HA.out
      clear HA
      simp only [set_Right.l0] at H
      by_cases c2 : x6_1 < (l0.length : Int)
      · rw [if_pos c2] at H
        have c2b0 : decide (x6_1 < (l0.length : Int)) = true := decide_eq_true c2
        clear c2
        by_cases c3 : x6_1 > 0
        · rw [if_pos c3] at H
          have c3b0 : decide (0 < x6_1) = true := decide_eq_true c3
          clear c3
          obtain ⟨ji4, hji4⟩ : ∃ j_ : Int, (wrap64 (x6_1 - 1)) = j_ := ⟨_, rfl⟩
          replace H : (if 0 ≤ (ji4) then (if (ji4) < (l0.length : Int) then (if 0 ≤ x6_1 then (if x6_1 < (l0.length : Int) then (if (rd l0 (ji4)) ≥ (rd l0 x6_1) then (some false) else (set_Right.l0 k1 l0 (l0.length : Int) (wrap64 (x6_1 + 1)))) else (none)) else (none)) else (none)) else (none)) = some r := by first | (rw [hji4] at H; exact H) | (simp only [hji4] at H ⊢; exact H)
          have hji4w : (IntKind.i64.wrap (x6_1 - 1)) = ji4 := (i64_w _).trans hji4
          by_cases c5 : 0 ≤ (ji4)
          · rw [if_pos c5] at H
            have c5b0 : decide (0 ≤ (ji4)) = true := decide_eq_true c5
            clear c5
            by_cases c6 : (ji4) < (l0.length : Int)
            · rw [if_pos c6] at H
              have c6b0 : decide ((ji4) < (l0.length : Int)) = true := decide_eq_true c6
              clear c6
              by_cases c7 : 0 ≤ x6_1
              · rw [if_pos c7] at H
                have c7b0 : decide (0 ≤ x6_1) = true := decide_eq_true c7
                clear c7
                by_cases c8 : x6_1 < (l0.length : Int)
                · rw [if_pos c8] at H
                  have c8b0 : decide (x6_1 < (l0.length : Int)) = true := decide_eq_true c8
                  clear c8
                  by_cases c9 : (rd l0 (ji4)) ≥ (rd l0 x6_1)
                  · rw [if_pos c9] at H
                    have c9b0 : decide ((rd l0 x6_1) ≤ (rd l0 (ji4))) = true := decide_eq_true c9
                    clear c9
                    obtain rfl := Option.some.inj H
                    have p104 : 0 ≤ ((ji4) : Int) := od
                    have q104 : (ji4) < (l0.length : Int) := od
                    obtain ⟨ad104, e104, hx104_0⟩ := Kd.at_int HR0.out (ji4) p104 q104
                    cases e104
                    replace p104 := eq_true p104
                    replace q104 := eq_true q104
                    have p105 : 0 ≤ (x6_1 : Int) := od
                    have q105 : x6_1 < (l0.length : Int) := od
                    obtain ⟨ad105, e105, hx105_0⟩ := Kd.at_int HR0.out x6_1 p105 q105
                    obtain rfl : ad104 = ad105 := (by injection e105)
                    replace p105 := eq_true p105
                    replace q105 := eq_true q105
                    go_wp2
                    repeat (go_quiet (fail); try go_wp2)
                    go_ret
                    exact ⟨by first | rfl | (simp; done) | (simp only [← hji4] <;> (first | rfl | simp)) | (simp [*]; done), by repeat (first | exact Drawn0.refl _ | apply Drawn0.step)⟩
                  · rw [if_neg c9] at H
                    have c9b0 : decide ((rd l0 x6_1) ≤ (rd l0 (ji4))) = false := decide_eq_false c9
                    clear c9
                    have H' := Aside0.mk H
                    clear H
                    have p104 : 0 ≤ ((ji4) : Int) := od
                    have q104 : (ji4) < (l0.length : Int) := od
                    obtain ⟨ad104, e104, hx104_0⟩ := Kd.at_int HR0.out (ji4) p104 q104
                    cases e104
                    replace p104 := eq_true p104
                    replace q104 := eq_true q104
                    have p105 : 0 ≤ (x6_1 : Int) := od
                    have q105 : x6_1 < (l0.length : Int) := od
                    obtain ⟨ad105, e105, hx105_0⟩ := Kd.at_int HR0.out x6_1 p105 q105
                    obtain rfl : ad104 = ad105 := (by injection e105)
                    replace p105 := eq_true p105
                    replace q105 := eq_true q105
                    go_wp2
                    repeat (go_quiet (fail); try go_wp2)
                    go_roundg k1
                    case measure => have := HK1.out; omega
                    case rel => exact ⟨(wrap64 (x6_1 + 1)), (fr), H', ⟨by have := HK1.out; omega⟩, by repeat (first | exact Drawn0.refl _ | apply Drawn0.step)⟩
                · rw [if_neg c8] at H
                  exact absurd H (by simp)
              · rw [if_neg c7] at H
                exact absurd H (by simp)
            · rw [if_neg c6] at H
              exact absurd H (by simp)
          · rw [if_neg c5] at H
            exact absurd H (by simp)
        · rw [if_neg c3] at H
          have c3b0 : decide (0 < x6_1) = false := decide_eq_false c3
          clear c3
          have H' := Aside0.mk H
          clear H
          go_wp2
          repeat (go_quiet (fail); try go_wp2)
          go_roundg k1
          case measure => have := HK1.out; omega
          case rel => exact ⟨(wrap64 (x6_1 + 1)), (fr), H', ⟨by have := HK1.out; omega⟩, by repeat (first | exact Drawn0.refl _ | apply Drawn0.step)⟩
      · rw [if_neg c2] at H
        have c2b0 : decide (x6_1 < (l0.length : Int)) = false := decide_eq_false c2
        clear c2
        obtain rfl := Option.some.inj H
        go_wp2
        repeat (go_quiet (fail); try go_wp2)
        go_ret
        exact ⟨fr, by repeat (first | exact Drawn0.refl _ | apply Drawn0.step)⟩

/-! ### host_right: function 30 -/
def host_right.f (k : Nat) (a0_0 : Int) (a0_1 : Int) (a0_2 : Bool) (l0_3 : List Int) : Option (Bool) := if a0_0 > 0 then ((addr_IsAsked.f a0_1).bind fun t107 => (if t107 = true then ((set_Right.f k l0_3).bind fun t108 => (if t108 = true then (some (decide ((l0_3.length : Int) ≤ 16))) else (some false))) else (some false))) else (some false)
theorem host_right.mono : ∀ a0 a1 a2 a3 k, LeO (host_right.f k a0 a1 a2 a3) (host_right.f (k + 1) a0 a1 a2 a3) := by
  intro a0 a1 a2 a3 k
  unfold host_right.f
  repeat' first
      | (with_reducible exact set_Right.mono _ _)
      | (with_reducible exact LeO.refl _)
      | (with_reducible exact LeO.none _)
      | (with_reducible refine LeO.ite ?_ ?_)
      | (with_reducible refine LeO.bind ?_ (fun _ => ?_))
      | exact set_Right.mono _ _
      | exact LeO.none _
      | refine LeO.ite ?_ ?_
      | refine LeO.bind ?_ (fun _ => ?_)
theorem host_right.calls (k : Nat) (a0_0 : Int) (a0_1 : Int) (a0_2 : Bool) (A0_3 : Option Addr) (c0_3 : Nat) (l0_3 : List Int) (r : Bool) (w : World) (hr0_3 : Kd.C (Kd.int .u32) w A0_3 l0_3.length l0_3) (hc0_3 : l0_3.length ≤ c0_3) (h : host_right.f k a0_0 a0_1 a0_2 l0_3 = some r) :
    Calls Try.prog 30 #[.agg #[.int .i64 a0_0, .int .u32 a0_1, .bool a0_2, .slice A0_3 l0_3.length c0_3]] w fun e w' => e = .returned (.bool r) ∧ Below w.heap.size w w' := by
  have hu42 := Try.underlying42
  have HR0_3 := Aside0.mk hr0_3
  have HC0_3 := Aside0.mk hc0_3
  clear hr0_3 hc0_3
  have HB := Aside0.mk (Below.refl w.heap.size w)
  have H : (if a0_0 > 0 then ((addr_IsAsked.f a0_1).bind fun t107 => (if t107 = true then ((set_Right.f k l0_3).bind fun t108 => (if t108 = true then (some (decide ((l0_3.length : Int) ≤ 16))) else (some false))) else (some false))) else (some false)) = some r := h
  clear h
  by_cases c2 : a0_0 > 0
  · rw [if_pos c2] at H
    have c2b0 : decide (0 < a0_0) = true := decide_eq_true c2
    clear c2
    replace H := Option.bind_eq_some_iff.mp H
    obtain ⟨t107, A30, H⟩ := H
    replace H : (if t107 = true then ((set_Right.f k l0_3).bind fun t108 => (if t108 = true then (some (decide ((l0_3.length : Int) ≤ 16))) else (some false))) else (some false)) = some r := H
    have A3 := Aside0.mk A30
    clear A30
    by_cases c4 : t107 = true
    · subst c4
      replace H : ((set_Right.f k l0_3).bind fun t108 => (if t108 = true then (some (decide ((l0_3.length : Int) ≤ 16))) else (some false))) = some r := by rw [if_pos rfl] at H; exact H
      replace H := Option.bind_eq_some_iff.mp H
      obtain ⟨t108, A50, H⟩ := H
      replace H : (if t108 = true then (some (decide ((l0_3.length : Int) ≤ 16))) else (some false)) = some r := H
      have A5 := Aside0.mk A50
      clear A50
      by_cases c6 : t108 = true
      · subst c6
        replace H : (some (decide ((l0_3.length : Int) ≤ 16))) = some r := by rw [if_pos rfl] at H; exact H
        obtain rfl := Option.some.inj H
        go_enter Try.func30, Try.ntmps30
        go_wp2_with (first | ((with_reducible refine gate_dst (N := 1) rfl ?_); (try (refine gate_guard (by rfl) ?_; dsimp only)); refine bxn (cs := #[.int .i64 a0_0, .int .u32 a0_1, .bool a0_2, .slice A0_3 l0_3.length c0_3]) (t := 42) ?_; intro gb106 hg w7 hbox hb; have BK106 := Aside0.mk (hbox); have GW106 := Aside0.mk ((by rw [hg]; exact (below_size (bl HB)) : w.heap.size ≤ gb106)); have GE106 := Aside0.mk ((by rw [hg]; exact (below_size (bl HB)) : w.heap.size ≤ gb106)); replace HB := Aside0.mk (below_step (bl HB) hb); clear hb hbox hg; obtain ⟨hcz8_0, hcz8_1, hcz8_2, hcz8_3, hfz8_0, hfz8_1, hfz8_2, hfz8_3⟩ := cf4 BK106.out) | (go_at_call 53; (with_reducible refine (addr_IsAsked.calls a0_1 true _ A3.out).mono ?_); rintro e w' ⟨rfl, ⟨nd, rfl⟩⟩) | (go_at_call 54; (with_reducible refine (set_Right.calls k _ _ l0_3 true _ ?side1 ?side2 A5.out).mono ?_); (case side1 => exact ca (Kd.C_below HR0_3.out (bl HB))); (case side2 => exact HC0_3.out); rintro e w' ⟨rfl, ⟨nd, rfl⟩⟩))
        go_ret
        exact ⟨by first | rfl | (simp [errW_none, errW_some] <;> rfl) | (simp [*, errW_none, errW_some] <;> rfl), bl HB⟩
      · replace c6 := Bool.eq_false_iff.mpr c6
        subst c6
        replace H : (some false) = some r := by rw [if_neg (show ¬ (false = true) by decide)] at H; exact H
        obtain rfl := Option.some.inj H
        go_enter Try.func30, Try.ntmps30
        go_wp2_with (first | ((with_reducible refine gate_dst (N := 1) rfl ?_); (try (refine gate_guard (by rfl) ?_; dsimp only)); refine bxn (cs := #[.int .i64 a0_0, .int .u32 a0_1, .bool a0_2, .slice A0_3 l0_3.length c0_3]) (t := 42) ?_; intro gb106 hg w9 hbox hb; have BK106 := Aside0.mk (hbox); have GW106 := Aside0.mk ((by rw [hg]; exact (below_size (bl HB)) : w.heap.size ≤ gb106)); have GE106 := Aside0.mk ((by rw [hg]; exact (below_size (bl HB)) : w.heap.size ≤ gb106)); replace HB := Aside0.mk (below_step (bl HB) hb); clear hb hbox hg; obtain ⟨hcz10_0, hcz10_1, hcz10_2, hcz10_3, hfz10_0, hfz10_1, hfz10_2, hfz10_3⟩ := cf4 BK106.out) | (go_at_call 53; (with_reducible refine (addr_IsAsked.calls a0_1 true _ A3.out).mono ?_); rintro e w' ⟨rfl, ⟨nd, rfl⟩⟩) | (go_at_call 54; (with_reducible refine (set_Right.calls k _ _ l0_3 false _ ?side1 ?side2 A5.out).mono ?_); (case side1 => exact ca (Kd.C_below HR0_3.out (bl HB))); (case side2 => exact HC0_3.out); rintro e w' ⟨rfl, ⟨nd, rfl⟩⟩))
        go_ret
        exact ⟨by first | rfl | (simp [errW_none, errW_some] <;> rfl) | (simp [*, errW_none, errW_some] <;> rfl), bl HB⟩
    · replace c4 := Bool.eq_false_iff.mpr c4
      subst c4
      replace H : (some false) = some r := by rw [if_neg (show ¬ (false = true) by decide)] at H; exact H
      obtain rfl := Option.some.inj H
      go_enter Try.func30, Try.ntmps30
      go_wp2_with (first | ((with_reducible refine gate_dst (N := 1) rfl ?_); (try (refine gate_guard (by rfl) ?_; dsimp only)); refine bxn (cs := #[.int .i64 a0_0, .int .u32 a0_1, .bool a0_2, .slice A0_3 l0_3.length c0_3]) (t := 42) ?_; intro gb106 hg w11 hbox hb; have BK106 := Aside0.mk (hbox); have GW106 := Aside0.mk ((by rw [hg]; exact (below_size (bl HB)) : w.heap.size ≤ gb106)); have GE106 := Aside0.mk ((by rw [hg]; exact (below_size (bl HB)) : w.heap.size ≤ gb106)); replace HB := Aside0.mk (below_step (bl HB) hb); clear hb hbox hg; obtain ⟨hcz12_0, hcz12_1, hcz12_2, hcz12_3, hfz12_0, hfz12_1, hfz12_2, hfz12_3⟩ := cf4 BK106.out) | (go_at_call 53; (with_reducible refine (addr_IsAsked.calls a0_1 false _ A3.out).mono ?_); rintro e w' ⟨rfl, ⟨nd, rfl⟩⟩))
      go_ret
      exact ⟨by first | rfl | (simp [errW_none, errW_some] <;> rfl) | (simp [*, errW_none, errW_some] <;> rfl), bl HB⟩
  · rw [if_neg c2] at H
    have c2b0 : decide (0 < a0_0) = false := decide_eq_false c2
    clear c2
    obtain rfl := Option.some.inj H
    go_enter Try.func30, Try.ntmps30
    go_wp2_with (first | ((with_reducible refine gate_dst (N := 1) rfl ?_); (try (refine gate_guard (by rfl) ?_; dsimp only)); refine bxn (cs := #[.int .i64 a0_0, .int .u32 a0_1, .bool a0_2, .slice A0_3 l0_3.length c0_3]) (t := 42) ?_; intro gb106 hg w13 hbox hb; have BK106 := Aside0.mk (hbox); have GW106 := Aside0.mk ((by rw [hg]; exact (below_size (bl HB)) : w.heap.size ≤ gb106)); have GE106 := Aside0.mk ((by rw [hg]; exact (below_size (bl HB)) : w.heap.size ≤ gb106)); replace HB := Aside0.mk (below_step (bl HB) hb); clear hb hbox hg; obtain ⟨hcz14_0, hcz14_1, hcz14_2, hcz14_3, hfz14_0, hfz14_1, hfz14_2, hfz14_3⟩ := cf4 BK106.out))
    go_ret
    exact ⟨by first | rfl | (simp [errW_none, errW_some] <;> rfl) | (simp [*, errW_none, errW_some] <;> rfl), bl HB⟩

-- NOT PRINTED: function 31 (api_Socket_31)

-- NOT PRINTED: function 55 (api_Socket_55)

-- NOT PRINTED: function 79 (api_Socket_79)

-- NOT PRINTED: function 69 (api_Socket_69)

-- NOT PRINTED: function 56 (api_Socket_56)

-- NOT PRINTED: function 32 (api_Socket_32)

-- NOT PRINTED: function 65 (set_both)

-- NOT PRINTED: function 47 (set_those)

-- BY HAND: function 27 (set_Minus)

-- BY HAND: function 10 (host_Change)

-- BY HAND: function 57 (set_Union)

-- BY HAND: function 58 (set_Inter)

/-! ### set_Filter: function 12 -/
def set_Filter.l0 : Nat → List Int → List Int → Bool → List (S26) → Int → Int → Option (Bool × List Int)
 | 0, _, _, _, _, _, _ => none
 | k + 1, x3, x4, x5, x8, x9, x10 => if x10 < x9 then (if 0 ≤ x10 then (if x10 < (x8.length : Int) then (if ((rd_T26 x8 x10).f0 = true) then (if x5 = true then ((set_Inter.f x4 ((rd_T26 x8 x10).f1)).bind fun t107 => (set_Filter.l0 k x3 t107 x5 x8 x9 (wrap64 (x10 + 1)))) else (set_Filter.l0 k x3 ((rd_T26 x8 x10).f1) true x8 x9 (wrap64 (x10 + 1)))) else ((set_Union.f x3 ((rd_T26 x8 x10).f1)).bind fun t110 => (set_Filter.l0 k t110 x4 x5 x8 x9 (wrap64 (x10 + 1))))) else (none)) else (none)) else (if x5 = true then ((set_Minus.f x4 x3).bind fun t102 => (some (true, t102))) else (some (false, x3)))
def set_Filter.f (k : Nat) (l0 : List (S26)) : Option (Bool × List Int) := set_Filter.l0 k ([] : List Int) ([] : List Int) false l0 (l0.length : Int) 0
theorem set_Filter.mono_l : ∀ k, (∀ y0 y1 y2 y3 y4 y5, LeO (set_Filter.l0 k y0 y1 y2 y3 y4 y5) (set_Filter.l0 (k + 1) y0 y1 y2 y3 y4 y5))
 | 0 => fun _ _ _ _ _ _ r h => by simp [set_Filter.l0] at h
 | k + 1 => by
  have ih0 := set_Filter.mono_l k
  · intro y0 y1 y2 y3 y4 y5
    unfold set_Filter.l0
    repeat' first
    | (with_reducible exact ih0 _ _ _ _ _ _)
    | (with_reducible exact LeO.refl _)
    | (with_reducible exact LeO.none _)
    | (with_reducible refine LeO.ite ?_ ?_)
    | (with_reducible refine LeO.bind ?_ (fun _ => ?_))
    | exact ih0 _ _ _ _ _ _
    | exact LeO.none _
    | refine LeO.ite ?_ ?_
    | refine LeO.bind ?_ (fun _ => ?_)
theorem set_Filter.mono : ∀ a0 k, LeO (set_Filter.f k a0) (set_Filter.f (k + 1) a0) := by
 intro a0 k
 have ih0 := set_Filter.mono_l k
 unfold set_Filter.f
 repeat' first
  | (with_reducible exact ih0 _ _ _ _ _ _)
  | (with_reducible exact LeO.refl _)
  | (with_reducible exact LeO.none _)
  | (with_reducible refine LeO.ite ?_ ?_)
  | (with_reducible refine LeO.bind ?_ (fun _ => ?_))
  | exact ih0 _ _ _ _ _ _
  | exact LeO.none _
  | refine LeO.ite ?_ ?_
  | refine LeO.bind ?_ (fun _ => ?_)
theorem set_Filter.calls (k : Nat) (P0_ : Nat → Prop) (A0 : Option Addr) (c0 : Nat) (l0 : List (S26)) (r1 : Bool) (r2 : List Int) (w : World) (hs0 : Kd.V k26 26 w w.heap.size (fun k_ => P0_ k_) (.slice A0 l0.length c0) l0) (h : set_Filter.f k l0 = some (r1, r2)) :
 Calls Try.prog 35 #[.slice A0 l0.length c0] w fun e w' => ∃ v1_ : Value, e = .returned (.agg #[.bool r1, v1_]) ∧ Kd.R (Kd.int .u32) 23 w' w.heap.size (fun k_ => (w.heap.size ≤ k_)) v1_ r2 ∧ Below w.heap.size w w' := by
 have hu26 := Try.underlying26
 have HO0 := Aside0.mk (show Kd.V k26 26 w w.heap.size (fun k_ => (P0_ k_ ∨ w.heap.size ≤ k_)) (.slice A0 l0.length c0) l0 from Kd.V_mono hs0 (fun k_ hk => .inl hk))
 have HB := Aside0.mk (Below.refl w.heap.size w)
 have H : (set_Filter.l0 k ([] : List Int) ([] : List Int) false l0 (l0.length : Int) 0) = some (r1, r2) := h
 clear h
 have H' := Aside0.mk H
 clear H
 go_enter Try.func35, Try.ntmps35
 go_wp2_with (first | ((with_reducible refine gate_dst (N := 2) rfl ?_); refine bxn (cs := #[.bool false, .slice none 0 0]) (t := 26) ?_; intro gb101 hg w2 hbox hb; have n0_ := Aside0.mk (Kd.V_below (Kd.V_elderB (rad HO0.out) gb101 (Nat.le_of_eq hg.symm)) hb); have n1_ := Aside0.mk (below_step HB.out hb); have n2_ := Aside0.mk (hbox); have n3_ := Aside0.mk ((by rw [hg]; exact (below_size HB.out) : w.heap.size ≤ gb101)); have n4_ := Aside0.mk ((by rw [hg]; exact (below_size HB.out) : w.heap.size ≤ gb101)); clear HO0; clear HB; have HO0 := n0_; have HB := n1_; have BK101 := n2_; have GW101 := n3_; have GE101 := n4_; clear n0_ n1_ n2_ n3_ n4_; clear hb hbox hg))
 go_loopg [3, 4, 5, 10] k (fun kq v3 v4 v5 v10 w' => ∃ (x3_1 : List Int) (x4_1 : List Int) (x5_1 : Bool) (x10_1 : Int), v5 = .bool x5_1 ∧ v10 = .int .i64 x10_1 ∧ Aside0 (set_Filter.l0 kq x3_1 x4_1 x5_1 l0 (l0.length : Int) x10_1 = some (r1, r2)) ∧ Aside0 (kq ≤ k) ∧ Aside0 (Kd.R (Kd.int .u32) 23 w' w.heap.size (fun k_ => (w.heap.size ≤ k_)) v3 x3_1) ∧ Aside0 (Kd.V (Kd.int .u32) 23 w' w.heap.size (fun k_ => (P0_ k_ ∨ w.heap.size ≤ k_) ∧ some k_ ≠ (v3 : Value).ownBlock ∧ k_ ≠ gb101) v4 x4_1) ∧ Aside0 (Kd.V k26 26 w' w.heap.size (fun k_ => (P0_ k_ ∨ w.heap.size ≤ k_) ∧ some k_ ≠ (v3 : Value).ownBlock ∧ k_ ≠ gb101) (.slice A0 l0.length c0) l0) ∧ Aside0 (w'.heap[gb101]? = some (.cells #[.bool false, (.slice none 0 0)] 26 (0, 0))) ∧ Aside0 (Below w.heap.size w w'))
 case atStart => exact ⟨(([] : List Int)), (([] : List Int)), (false), (0), (fr), (fr), H', ⟨Nat.le_refl _⟩, ⟨nl⟩, ⟨Kd.V_nil _ _ _ _ _⟩, ⟨by refine rad ?_; exact Kd.V_mono HO0.out (fun _ hk => ⟨hk.1, ⟨(by simp [Value.ownBlock]), hk.2⟩⟩)⟩, ⟨BK101.out⟩, ⟨HB.out⟩⟩
 case round =>
  clear H'
  try clear c1
  try clear p2
  obtain ⟨x3_1, x4_1, x5_1, x10_1, rfl, rfl, HA, HK1, HO_3, HO_4, HO_8, BK101, HB⟩ := hrel
  cases gk with
  | zero => exact absurd HA.out (by simp [set_Filter.l0])
  | succ k1 =>
   have H := HA.out
   clear HA
   simp only [set_Filter.l0] at H
   by_cases c3 : x10_1 < (l0.length : Int)
   · rw [if_pos c3] at H
     have c3b0 : decide (x10_1 < (l0.length : Int)) = true := decide_eq_true c3
     clear c3
     by_cases c4 : 0 ≤ x10_1
     case neg => rw [if_neg c4] at H; exact absurd H (by simp)
     rw [if_pos c4] at H
     have c4b0 : decide (0 ≤ x10_1) = true := decide_eq_true c4
     clear c4
     by_cases c5 : x10_1 < (l0.length : Int)
     case neg => rw [if_neg c5] at H; exact absurd H (by simp)
     rw [if_pos c5] at H
     have c5b0 : decide (x10_1 < (l0.length : Int)) = true := decide_eq_true c5
     clear c5
     obtain ⟨bq6, hbq6⟩ : ∃ b_ : Bool, b_ = ((rd_T26 l0 x10_1).f0) := ⟨_, rfl⟩
     replace H : (if (bq6 = true) then (if x5_1 = true then ((set_Inter.f x4_1 ((rd_T26 l0 x10_1).f1)).bind fun t107 => (set_Filter.l0 k1 x3_1 t107 x5_1 l0 (l0.length : Int) (wrap64 (x10_1 + 1)))) else (set_Filter.l0 k1 x3_1 ((rd_T26 l0 x10_1).f1) true l0 (l0.length : Int) (wrap64 (x10_1 + 1)))) else ((set_Union.f x3_1 ((rd_T26 l0 x10_1).f1)).bind fun t110 => (set_Filter.l0 k1 t110 x4_1 x5_1 l0 (l0.length : Int) (wrap64 (x10_1 + 1))))) = some (r1, r2) := by rw [← hbq6] at H; exact H
     have Nbq6 := Aside0.mk hbq6
     clear hbq6
     by_cases c7 : (bq6 = true)
     · subst c7
       replace H : (if x5_1 = true then ((set_Inter.f x4_1 ((rd_T26 l0 x10_1).f1)).bind fun t107 => (set_Filter.l0 k1 x3_1 t107 x5_1 l0 (l0.length : Int) (wrap64 (x10_1 + 1)))) else (set_Filter.l0 k1 x3_1 ((rd_T26 l0 x10_1).f1) true l0 (l0.length : Int) (wrap64 (x10_1 + 1)))) = some (r1, r2) := by rw [if_pos rfl] at H; exact H
       by_cases c8 : x5_1 = true
       · subst c8
         replace H : ((set_Inter.f x4_1 ((rd_T26 l0 x10_1).f1)).bind fun t107 => (set_Filter.l0 k1 x3_1 t107 true l0 (l0.length : Int) (wrap64 (x10_1 + 1)))) = some (r1, r2) := by rw [if_pos rfl] at H; exact H
         replace H := Option.bind_eq_some_iff.mp H
         obtain ⟨t107, A90, H⟩ := H
         replace H : (set_Filter.l0 k1 x3_1 t107 true l0 (l0.length : Int) (wrap64 (x10_1 + 1))) = some (r1, r2) := H
         have A9 := Aside0.mk A90
         clear A90
         have H' := Aside0.mk H
         clear H
         have p105 : 0 ≤ (x10_1 : Int) := od
         have q105 : x10_1 < (l0.length : Int) := od
         obtain ⟨ad105, A105_1, c105_1, e105, hx105_0, hx105_1, hl105_1, hi105_1⟩ := at_T26 (Kd.V_reads' HO_8.out).2.2 x10_1 p105 q105
         (try rw [← Nbq6.out] at hx105_0)
         cases e105
         obtain ⟨ce105, hce105, hMe105, hcc105⟩ := Kd.V_get HO_8.out z26 x10_1 p105 (by first | exact q105 | exact od | (have e_ := (Kd.V_reads' HO_8.out).1; omega))
         obtain ⟨ua105_1, uc105_1, rfl, ul105_1, ge105_1⟩ := k26_openF hMe105
         have hv105_1 := hcc105 1 _ rfl
         rw [add_field _ _ 1 (by omega)] at hv105_1
         replace hv105_1 := Option.some.inj (hv105_1.symm.trans hx105_1)
         injection hv105_1 with hva_ hvn_ hvc_
         rw [hva_] at ge105_1
         rw [hvc_] at ul105_1
         have HL105_1 := Aside0.mk (show Kd.V (Kd.int .u32) 24 _ w.heap.size _ _ ((rd_T26 l0 x10_1).f1) from Kd.V_mk ul105_1 ge105_1)
         clear hva_ hvn_ hvc_ ge105_1 ul105_1
         clear hcc105 hce105
         have HR105_1 := Aside0.mk hi105_1
         have HC105_1 := Aside0.mk hl105_1
         clear hi105_1 hl105_1
         replace p105 := eq_true p105
         replace q105 := eq_true q105
         go_wp2_with (first | ((with_reducible refine gate_dst (N := 7) rfl ?_); refine bxn (cs := #[.bool false, .slice none 0 0]) (t := 26) ?_; intro gb106 hg w10 hbox hb; have n0_ := Aside0.mk (Kd.R_below (rad HO_3.out) hb); have n1_ := Aside0.mk (Kd.V_below (Kd.V_elderB (rad HO_4.out) gb106 (Nat.le_of_eq hg.symm)) hb); have n2_ := Aside0.mk (Kd.V_below (Kd.V_elderB (rad HO_8.out) gb106 (Nat.le_of_eq hg.symm)) hb); have n3_ := Aside0.mk (Kd.V_below (Kd.V_elderB (rad HL105_1.out) gb106 (Nat.le_of_eq hg.symm)) hb); have n4_ := Aside0.mk (blk_below (g := gb101) (o := .cells #[.bool false, .slice none 0 0] 26 (0, 0)) (ba BK101.out) hb); have n5_ := Aside0.mk (Kd.C_below (by repeat (first | (with_reducible exact HR105_1.out) | (with_reducible refine Kd.C_alloc ?_ _) | (with_reducible refine Kd.C_drewN ?_ _) | (with_reducible refine Kd.C_drew ?_) | exact HR105_1.out)) hb); have n6_ := Aside0.mk (below_step (bl HB) hb); have n7_ := Aside0.mk (hbox); have n8_ := Aside0.mk ((by rw [hg]; exact (below_size (bl HB)) : w.heap.size ≤ gb106)); have n9_ := Aside0.mk ((by rw [hg]; exact (below_size (bl HB)) : w.heap.size ≤ gb106)); have n10_ := Aside0.mk ((by rw [hg]; exact Nat.ne_of_lt (blk_lt (g := gb101) (o := .cells #[.bool false, .slice none 0 0] 26 (0, 0)) (ba BK101.out)) : gb101 ≠ gb106)); have n11_ := Aside0.mk ((by rw [hg]; exact Nat.ne_of_gt (blk_lt (g := gb101) (o := .cells #[.bool false, .slice none 0 0] 26 (0, 0)) (ba BK101.out)) : gb106 ≠ gb101)); clear HO_3; clear HO_4; clear HO_8; clear HL105_1; clear BK101; clear HR105_1; clear HB; have HO_3 := n0_; have HO_4 := n1_; have HO_8 := n2_; have HL105_1 := n3_; have BK101 := n4_; have HR105_1 := n5_; have HB := n6_; have BK106 := n7_; have GW106 := n8_; have GE106 := n9_; have NB101_106 := n10_; have NB106_101 := n11_; clear n0_ n1_ n2_ n3_ n4_ n5_ n6_ n7_ n8_ n9_ n10_ n11_; clear hb hbox hg; have hnb11 := NB106_101.out; have hnc11 := NB101_106.out; obtain ⟨hcz12_0, hcz12_1, hfz12_0, hfz12_1⟩ := cf2 BK106.out; obtain ⟨Ao13, co13, eo13⟩ := Kd.V_slice HO_4.out; subst eo13) | ((with_reducible refine gate_callee (f := 58) rfl ?_); refine goesL_ (some 17) rfl rfl Try.func58 (by kernel_rfl) rfl #[.slice Ao13 x4_1.length co13, .slice A105_1 ((rd_T26 l0 x10_1).f1).length c105_1] rfl (by (try simp only [List.map_toArray, List.map_cons, List.map_nil]); first | done | rfl | (simp only [List.length_drop, List.length_take]; rfl)) ?_; (with_reducible refine (set_Inter.calls _ _ x4_1 _ _ ((rd_T26 l0 x10_1).f1) t107 _ ?side1 ?side2 ?side3 ?side4 A9.out).mono ?_); (case side1 => refine (Kd.V_reads' (e := 23) (base := w.heap.size) (ok := fun k_ => (((P0_ k_ ∨ w.heap.size ≤ k_) ∧ (some k_ ≠ (u3 : Value).ownBlock ∧ k_ ≠ gb101)) ∧ k_ ≠ gb106)) (n := x4_1.length) (c := co13) ?_).2.2; exact (by refine rad ?_; exact (Kd.V_mono (Kd.V_far (p := ⟨gb106, 1, none⟩) (Kd.V_far (p := ⟨gb106, 0, none⟩) (Kd.V_mono HO_4.out (fun k_ hk => (⟨hk, hk.2⟩ : _ ∧ k_ ≠ gb106))) (fun _ hk => hk.2) (.bool true)) (fun _ hk => hk.2) (.slice A105_1 ((rd_T26 l0 x10_1).f1).length c105_1)) (fun _ h_ => h_.1)))); (case side2 => exact (Kd.V_reads' HO_4.out).2.1); (case side3 => repeat (first | exact ((Kd.V_reads' (by refine rad ?_; exact (Kd.V_mono (Kd.V_far (p := ⟨gb106, 1, none⟩) (Kd.V_far (p := ⟨gb106, 0, none⟩) (Kd.V_mono HL105_1.out (fun k_ hk => (⟨hk, hk.2⟩ : _ ∧ k_ ≠ gb106))) (fun _ hk => hk.2) (.bool true)) (fun _ hk => hk.2) (.slice A105_1 ((rd_T26 l0 x10_1).f1).length c105_1)) (fun _ h_ => h_.1)))).2.2) | (with_reducible refine Kd.C_alloc ?_ _) | (with_reducible refine Kd.C_drewN ?_ _) | (with_reducible refine Kd.C_drew ?_))); (case side4 => exact HC105_1.out); rintro e w14 ⟨v108, rfl, ho0, hb⟩; refine ⟨_, rfl, ?_⟩; have n0_ := Aside0.mk (Kd.R_elder' (by refine rad ?_; exact (Kd.R_mono (Kd.R_far (p := ⟨gb106, 1, none⟩) (Kd.R_far (p := ⟨gb106, 0, none⟩) (Kd.R_types HO_3.out BK106.out (by decide)) (fun _ hk => hk.2) (.bool true)) (fun _ hk => hk.2) (.slice A105_1 ((rd_T26 l0 x10_1).f1).length c105_1)) (fun _ h_ => h_.1))) (Kd.R_base ho0) hb); have n1_ := Aside0.mk (Kd.V_elder' (by refine rad ?_; exact (Kd.V_mono (Kd.V_far (p := ⟨gb106, 1, none⟩) (Kd.V_far (p := ⟨gb106, 0, none⟩) (Kd.V_mono HO_4.out (fun k_ hk => (⟨hk, hk.2⟩ : _ ∧ k_ ≠ gb106))) (fun _ hk => hk.2) (.bool true)) (fun _ hk => hk.2) (.slice A105_1 ((rd_T26 l0 x10_1).f1).length c105_1)) (fun _ h_ => h_.1))) (Kd.R_base ho0) hb); have n2_ := Aside0.mk (Kd.V_elder' (by refine rad ?_; exact (Kd.V_mono (Kd.V_far (p := ⟨gb106, 1, none⟩) (Kd.V_far (p := ⟨gb106, 0, none⟩) (Kd.V_mono HO_8.out (fun k_ hk => (⟨hk, hk.2⟩ : _ ∧ k_ ≠ gb106))) (fun _ hk => hk.2) (.bool true)) (fun _ hk => hk.2) (.slice A105_1 ((rd_T26 l0 x10_1).f1).length c105_1)) (fun _ h_ => h_.1))) (Kd.R_base ho0) hb); have n3_ := Aside0.mk (Kd.V_elder' (by refine rad ?_; exact (Kd.V_mono (Kd.V_far (p := ⟨gb106, 1, none⟩) (Kd.V_far (p := ⟨gb106, 0, none⟩) (Kd.V_mono HL105_1.out (fun k_ hk => (⟨hk, hk.2⟩ : _ ∧ k_ ≠ gb106))) (fun _ hk => hk.2) (.bool true)) (fun _ hk => hk.2) (.slice A105_1 ((rd_T26 l0 x10_1).f1).length c105_1)) (fun _ h_ => h_.1))) (Kd.R_base ho0) hb); have n4_ := Aside0.mk (Kd.R_lower (Kd.R_new' (Kd.R_newM (M := fun k_ => (w.heap.size ≤ k_)) ho0 (below_size (bl HB)) (fun k_ h_ => h_)) (Kd.R_lt (by refine rad ?_; exact (Kd.R_mono (Kd.R_far (p := ⟨gb106, 1, none⟩) (Kd.R_far (p := ⟨gb106, 0, none⟩) (Kd.R_types HO_3.out BK106.out (by decide)) (fun _ hk => hk.2) (.bool true)) (fun _ hk => hk.2) (.slice A105_1 ((rd_T26 l0 x10_1).f1).length c105_1)) (fun _ h_ => h_.1))))) (below_size (bl HB))); have n5_ := Aside0.mk (blk_below (g := gb101) (o := .cells #[.bool false, .slice none 0 0] 26 (0, 0)) (by refine ba ?_; refine blk_far ?_ NB101_106.out _; refine ba ?_; refine blk_far ?_ NB101_106.out _; refine ba ?_; exact BK101.out) hb); have n6_ := Aside0.mk (Kd.C_below ((Kd.V_reads' (by refine rad ?_; exact (Kd.V_mono (Kd.V_far (p := ⟨gb106, 1, none⟩) (Kd.V_far (p := ⟨gb106, 0, none⟩) (Kd.V_mono HL105_1.out (fun k_ hk => (⟨hk, hk.2⟩ : _ ∧ k_ ≠ gb106))) (fun _ hk => hk.2) (.bool true)) (fun _ hk => hk.2) (.slice A105_1 ((rd_T26 l0 x10_1).f1).length c105_1)) (fun _ h_ => h_.1)))).2.2) hb); have n7_ := Aside0.mk (blk_below (g := gb106) (o := .cells #[.bool true, .slice A105_1 ((rd_T26 l0 x10_1).f1).length c105_1] 26 (0, 0)) (by refine ba ?_; refine blk_put (cs := #[.bool true, .slice none 0 0]) ?_ 1 _ rfl; refine ba ?_; refine blk_put (cs := #[.bool false, .slice none 0 0]) ?_ 0 _ rfl; refine ba ?_; exact BK106.out) hb); have n8_ := Aside0.mk (below_step (bl HB) hb); clear HO_3; clear HO_4; clear HO_8; clear HL105_1; clear BK101; clear HR105_1; clear BK106; clear HB; have HO_3 := n0_; have HO_4 := n1_; have HO_8 := n2_; have HL105_1 := n3_; have HO109 := n4_; have BK101 := n5_; have HR105_1 := n6_; have BK106 := n7_; have HB := n8_; clear n0_ n1_ n2_ n3_ n4_ n5_ n6_ n7_ n8_; (try clear hb); (try clear hb2); (try clear hk); (try clear hi); (try clear ho0)))
         go_roundg k1
         case measure => have := HK1.out; omega
         case rel => exact ⟨(x3_1), (t107), (true), (wrap64 (x10_1 + 1)), (fr), (fr), H', ⟨by have := HK1.out; omega⟩, ⟨by refine rad ?_; exact Kd.R_mono HO_3.out (fun _ hk => hk.1)⟩, ⟨Kd.V_mono (ok := fun k_ => w.heap.size ≤ k_ ∧ (some k_ ≠ (u3 : Value).ownBlock ∧ k_ ≠ gb101)) (Kd.R_V (by refine rad ?_; exact Kd.R_mono (Kd.R_types HO109.out BK101.out (by decide)) (fun _ hk => ⟨hk.1.1.1, ⟨hk.1.2, hk.2⟩⟩))) (fun k_ hk => by first | exact ⟨(.inr (hk.1)), hk.2⟩ | exact (.inr (hk)))⟩, ⟨by refine rad ?_; exact Kd.V_mono HO_8.out (fun _ hk => ⟨hk.1.1.1, ⟨hk.1.1.2.1, hk.1.1.2.2⟩⟩)⟩, ⟨BK101.out⟩, ⟨HB.out⟩⟩
       · replace c8 := Bool.eq_false_iff.mpr c8
         subst c8
         replace H : (set_Filter.l0 k1 x3_1 ((rd_T26 l0 x10_1).f1) true l0 (l0.length : Int) (wrap64 (x10_1 + 1))) = some (r1, r2) := by rw [if_neg (show ¬ (false = true) by decide)] at H; exact H
         have H' := Aside0.mk H
         clear H
         have p105 : 0 ≤ (x10_1 : Int) := od
         have q105 : x10_1 < (l0.length : Int) := od
         obtain ⟨ad105, A105_1, c105_1, e105, hx105_0, hx105_1, hl105_1, hi105_1⟩ := at_T26 (Kd.V_reads' HO_8.out).2.2 x10_1 p105 q105
         (try rw [← Nbq6.out] at hx105_0)
         cases e105
         obtain ⟨ce105, hce105, hMe105, hcc105⟩ := Kd.V_get HO_8.out z26 x10_1 p105 (by first | exact q105 | exact od | (have e_ := (Kd.V_reads' HO_8.out).1; omega))
         obtain ⟨ua105_1, uc105_1, rfl, ul105_1, ge105_1⟩ := k26_openF hMe105
         have hv105_1 := hcc105 1 _ rfl
         rw [add_field _ _ 1 (by omega)] at hv105_1
         replace hv105_1 := Option.some.inj (hv105_1.symm.trans hx105_1)
         injection hv105_1 with hva_ hvn_ hvc_
         rw [hva_] at ge105_1
         rw [hvc_] at ul105_1
         have HL105_1 := Aside0.mk (show Kd.V (Kd.int .u32) 24 _ w.heap.size _ _ ((rd_T26 l0 x10_1).f1) from Kd.V_mk ul105_1 ge105_1)
         clear hva_ hvn_ hvc_ ge105_1 ul105_1
         clear hcc105 hce105
         have HR105_1 := Aside0.mk hi105_1
         have HC105_1 := Aside0.mk hl105_1
         clear hi105_1 hl105_1
         replace p105 := eq_true p105
         replace q105 := eq_true q105
         go_wp2_with (first | ((with_reducible refine gate_dst (N := 7) rfl ?_); refine bxn (cs := #[.bool false, .slice none 0 0]) (t := 26) ?_; intro gb106 hg w15 hbox hb; have n0_ := Aside0.mk (Kd.R_below (rad HO_3.out) hb); have n1_ := Aside0.mk (Kd.V_below (Kd.V_elderB (rad HO_4.out) gb106 (Nat.le_of_eq hg.symm)) hb); have n2_ := Aside0.mk (Kd.V_below (Kd.V_elderB (rad HO_8.out) gb106 (Nat.le_of_eq hg.symm)) hb); have n3_ := Aside0.mk (Kd.V_below (Kd.V_elderB (rad HL105_1.out) gb106 (Nat.le_of_eq hg.symm)) hb); have n4_ := Aside0.mk (blk_below BK101.out hb); have n5_ := Aside0.mk (Kd.C_below (by repeat (first | (with_reducible exact HR105_1.out) | (with_reducible refine Kd.C_alloc ?_ _) | (with_reducible refine Kd.C_drewN ?_ _) | (with_reducible refine Kd.C_drew ?_) | exact HR105_1.out)) hb); have n6_ := Aside0.mk (below_step HB.out hb); have n7_ := Aside0.mk (hbox); have n8_ := Aside0.mk ((by rw [hg]; exact (below_size HB.out) : w.heap.size ≤ gb106)); have n9_ := Aside0.mk ((by rw [hg]; exact (below_size HB.out) : w.heap.size ≤ gb106)); have n10_ := Aside0.mk ((by rw [hg]; exact Nat.ne_of_lt (blk_lt BK101.out) : gb101 ≠ gb106)); have n11_ := Aside0.mk ((by rw [hg]; exact Nat.ne_of_gt (blk_lt BK101.out) : gb106 ≠ gb101)); clear HO_3; clear HO_4; clear HO_8; clear HL105_1; clear BK101; clear HR105_1; clear HB; have HO_3 := n0_; have HO_4 := n1_; have HO_8 := n2_; have HL105_1 := n3_; have BK101 := n4_; have HR105_1 := n5_; have HB := n6_; have BK106 := n7_; have GW106 := n8_; have GE106 := n9_; have NB101_106 := n10_; have NB106_101 := n11_; clear n0_ n1_ n2_ n3_ n4_ n5_ n6_ n7_ n8_ n9_ n10_ n11_; clear hb hbox hg; have hnb16 := NB106_101.out; have hnc16 := NB101_106.out; obtain ⟨hcz17_0, hcz17_1, hfz17_0, hfz17_1⟩ := cf2 BK106.out))
         go_roundg k1
         case measure => have := HK1.out; omega
         case rel => exact ⟨(x3_1), ((rd_T26 l0 x10_1).f1), (true), (wrap64 (x10_1 + 1)), (fr), (fr), H', ⟨by have := HK1.out; omega⟩, ⟨by refine rad ?_; exact Kd.R_mono (Kd.R_far (p := ⟨gb106, 1, none⟩) (Kd.R_far (p := ⟨gb106, 0, none⟩) (Kd.R_types HO_3.out BK106.out (by decide)) (fun _ hk => hk.2) (.bool true)) (fun _ hk => hk.2) (.slice A105_1 ((rd_T26 l0 x10_1).f1).length c105_1)) (fun _ hk => hk.1)⟩, ⟨by refine rad ?_; exact Kd.V_mono (Kd.V_far (p := ⟨gb106, 1, none⟩) (Kd.V_far (p := ⟨gb106, 0, none⟩) (Kd.V_mono HL105_1.out (fun k_ hk => (⟨hk, hk.2⟩ : _ ∧ k_ ≠ gb106))) (fun _ hk => hk.2) (.bool true)) (fun _ hk => hk.2) (.slice A105_1 ((rd_T26 l0 x10_1).f1).length c105_1)) (fun _ hk => ⟨hk.1.1.1, ⟨hk.1.1.2.1, hk.1.1.2.2⟩⟩)⟩, ⟨by refine rad ?_; exact Kd.V_mono (Kd.V_far (p := ⟨gb106, 1, none⟩) (Kd.V_far (p := ⟨gb106, 0, none⟩) (Kd.V_mono HO_8.out (fun k_ hk => (⟨hk, hk.2⟩ : _ ∧ k_ ≠ gb106))) (fun _ hk => hk.2) (.bool true)) (fun _ hk => hk.2) (.slice A105_1 ((rd_T26 l0 x10_1).f1).length c105_1)) (fun _ hk => ⟨hk.1.1.1, ⟨hk.1.1.2.1, hk.1.1.2.2⟩⟩)⟩, ⟨by refine ba ?_; refine blk_far ?_ NB101_106.out _; refine ba ?_; refine blk_far ?_ NB101_106.out _; refine ba ?_; exact BK101.out⟩, ⟨bl HB⟩⟩
     · replace c7 := Bool.eq_false_iff.mpr c7
       subst c7
       replace H : ((set_Union.f x3_1 ((rd_T26 l0 x10_1).f1)).bind fun t110 => (set_Filter.l0 k1 t110 x4_1 x5_1 l0 (l0.length : Int) (wrap64 (x10_1 + 1)))) = some (r1, r2) := by rw [if_neg (show ¬ (false = true) by decide)] at H; exact H
       replace H := Option.bind_eq_some_iff.mp H
       obtain ⟨t110, A180, H⟩ := H
       replace H : (set_Filter.l0 k1 t110 x4_1 x5_1 l0 (l0.length : Int) (wrap64 (x10_1 + 1))) = some (r1, r2) := H
       have A18 := Aside0.mk A180
       clear A180
       have H' := Aside0.mk H
       clear H
       have p105 : 0 ≤ (x10_1 : Int) := od
       have q105 : x10_1 < (l0.length : Int) := od
       obtain ⟨ad105, A105_1, c105_1, e105, hx105_0, hx105_1, hl105_1, hi105_1⟩ := at_T26 (Kd.V_reads' HO_8.out).2.2 x10_1 p105 q105
       (try rw [← Nbq6.out] at hx105_0)
       cases e105
       obtain ⟨ce105, hce105, hMe105, hcc105⟩ := Kd.V_get HO_8.out z26 x10_1 p105 (by first | exact q105 | exact od | (have e_ := (Kd.V_reads' HO_8.out).1; omega))
       obtain ⟨ua105_1, uc105_1, rfl, ul105_1, ge105_1⟩ := k26_openF hMe105
       have hv105_1 := hcc105 1 _ rfl
       rw [add_field _ _ 1 (by omega)] at hv105_1
       replace hv105_1 := Option.some.inj (hv105_1.symm.trans hx105_1)
       injection hv105_1 with hva_ hvn_ hvc_
       rw [hva_] at ge105_1
       rw [hvc_] at ul105_1
       have HL105_1 := Aside0.mk (show Kd.V (Kd.int .u32) 24 _ w.heap.size _ _ ((rd_T26 l0 x10_1).f1) from Kd.V_mk ul105_1 ge105_1)
       clear hva_ hvn_ hvc_ ge105_1 ul105_1
       clear hcc105 hce105
       have HR105_1 := Aside0.mk hi105_1
       have HC105_1 := Aside0.mk hl105_1
       clear hi105_1 hl105_1
       replace p105 := eq_true p105
       replace q105 := eq_true q105
       go_wp2_with (first | ((with_reducible refine gate_dst (N := 7) rfl ?_); refine bxn (cs := #[.bool false, .slice none 0 0]) (t := 26) ?_; intro gb106 hg w19 hbox hb; have n0_ := Aside0.mk (Kd.R_below (rad HO_3.out) hb); have n1_ := Aside0.mk (Kd.V_below (Kd.V_elderB (rad HO_4.out) gb106 (Nat.le_of_eq hg.symm)) hb); have n2_ := Aside0.mk (Kd.V_below (Kd.V_elderB (rad HO_8.out) gb106 (Nat.le_of_eq hg.symm)) hb); have n3_ := Aside0.mk (Kd.V_below (Kd.V_elderB (rad HL105_1.out) gb106 (Nat.le_of_eq hg.symm)) hb); have n4_ := Aside0.mk (blk_below (g := gb101) (o := .cells #[.bool false, .slice none 0 0] 26 (0, 0)) (ba BK101.out) hb); have n5_ := Aside0.mk (Kd.C_below (by repeat (first | (with_reducible exact HR105_1.out) | (with_reducible refine Kd.C_alloc ?_ _) | (with_reducible refine Kd.C_drewN ?_ _) | (with_reducible refine Kd.C_drew ?_) | exact HR105_1.out)) hb); have n6_ := Aside0.mk (below_step (bl HB) hb); have n7_ := Aside0.mk (hbox); have n8_ := Aside0.mk ((by rw [hg]; exact (below_size (bl HB)) : w.heap.size ≤ gb106)); have n9_ := Aside0.mk ((by rw [hg]; exact (below_size (bl HB)) : w.heap.size ≤ gb106)); have n10_ := Aside0.mk ((by rw [hg]; exact Nat.ne_of_lt (blk_lt (g := gb101) (o := .cells #[.bool false, .slice none 0 0] 26 (0, 0)) (ba BK101.out)) : gb101 ≠ gb106)); have n11_ := Aside0.mk ((by rw [hg]; exact Nat.ne_of_gt (blk_lt (g := gb101) (o := .cells #[.bool false, .slice none 0 0] 26 (0, 0)) (ba BK101.out)) : gb106 ≠ gb101)); clear HO_3; clear HO_4; clear HO_8; clear HL105_1; clear BK101; clear HR105_1; clear HB; have HO_3 := n0_; have HO_4 := n1_; have HO_8 := n2_; have HL105_1 := n3_; have BK101 := n4_; have HR105_1 := n5_; have HB := n6_; have BK106 := n7_; have GW106 := n8_; have GE106 := n9_; have NB101_106 := n10_; have NB106_101 := n11_; clear n0_ n1_ n2_ n3_ n4_ n5_ n6_ n7_ n8_ n9_ n10_ n11_; clear hb hbox hg; have hnb20 := NB106_101.out; have hnc20 := NB101_106.out; obtain ⟨hcz21_0, hcz21_1, hfz21_0, hfz21_1⟩ := cf2 BK106.out; obtain ⟨Ao22, co22, eo22⟩ := Kd.R_slice HO_3.out; subst eo22) | ((with_reducible refine gate_callee (f := 57) rfl ?_); refine goesL_ (some 25) rfl rfl Try.func57 (by kernel_rfl) rfl #[.slice Ao22 x3_1.length co22, .slice A105_1 ((rd_T26 l0 x10_1).f1).length c105_1] rfl (by (try simp only [List.map_toArray, List.map_cons, List.map_nil]); first | done | rfl | (simp only [List.length_drop, List.length_take]; rfl)) ?_; (with_reducible refine (set_Union.calls _ _ x3_1 _ _ ((rd_T26 l0 x10_1).f1) t110 _ ?side1 ?side2 ?side3 ?side4 A18.out).mono ?_); (case side1 => refine (Kd.R_reads' (e := 23) (base := w.heap.size) (ok := fun k_ => (w.heap.size ≤ k_)) (n := x3_1.length) (c := co22) ?_).2.2; exact (by refine rad ?_; exact (Kd.R_mono (Kd.R_far (p := ⟨gb106, 1, none⟩) (Kd.R_far (p := ⟨gb106, 0, none⟩) (Kd.R_types HO_3.out BK106.out (by decide)) (fun _ hk => hk.2) (.bool false)) (fun _ hk => hk.2) (.slice A105_1 ((rd_T26 l0 x10_1).f1).length c105_1)) (fun _ h_ => h_.1)))); (case side2 => exact (Kd.R_reads' HO_3.out).2.1); (case side3 => repeat (first | exact ((Kd.V_reads' (by refine rad ?_; exact (Kd.V_mono (Kd.V_far (p := ⟨gb106, 1, none⟩) (Kd.V_far (p := ⟨gb106, 0, none⟩) (Kd.V_mono HL105_1.out (fun k_ hk => (⟨hk, hk.2⟩ : _ ∧ k_ ≠ gb106))) (fun _ hk => hk.2) (.bool false)) (fun _ hk => hk.2) (.slice A105_1 ((rd_T26 l0 x10_1).f1).length c105_1)) (fun _ h_ => h_.1)))).2.2) | (with_reducible refine Kd.C_alloc ?_ _) | (with_reducible refine Kd.C_drewN ?_ _) | (with_reducible refine Kd.C_drew ?_))); (case side4 => exact HC105_1.out); rintro e w23 ⟨v111, rfl, ho0, hb⟩; refine ⟨_, rfl, ?_⟩; have n0_ := Aside0.mk (Kd.R_elder' (by refine rad ?_; exact (Kd.R_mono (Kd.R_far (p := ⟨gb106, 1, none⟩) (Kd.R_far (p := ⟨gb106, 0, none⟩) (Kd.R_types HO_3.out BK106.out (by decide)) (fun _ hk => hk.2) (.bool false)) (fun _ hk => hk.2) (.slice A105_1 ((rd_T26 l0 x10_1).f1).length c105_1)) (fun _ h_ => h_.1))) (Kd.R_base ho0) hb); have n1_ := Aside0.mk (Kd.V_elder' (by refine rad ?_; exact (Kd.V_mono (Kd.V_far (p := ⟨gb106, 1, none⟩) (Kd.V_far (p := ⟨gb106, 0, none⟩) (Kd.V_mono HO_4.out (fun k_ hk => (⟨hk, hk.2⟩ : _ ∧ k_ ≠ gb106))) (fun _ hk => hk.2) (.bool false)) (fun _ hk => hk.2) (.slice A105_1 ((rd_T26 l0 x10_1).f1).length c105_1)) (fun _ h_ => h_.1))) (Kd.R_base ho0) hb); have n2_ := Aside0.mk (Kd.V_elder' (by refine rad ?_; exact (Kd.V_mono (Kd.V_far (p := ⟨gb106, 1, none⟩) (Kd.V_far (p := ⟨gb106, 0, none⟩) (Kd.V_mono HO_8.out (fun k_ hk => (⟨hk, hk.2⟩ : _ ∧ k_ ≠ gb106))) (fun _ hk => hk.2) (.bool false)) (fun _ hk => hk.2) (.slice A105_1 ((rd_T26 l0 x10_1).f1).length c105_1)) (fun _ h_ => h_.1))) (Kd.R_base ho0) hb); have n3_ := Aside0.mk (Kd.V_elder' (by refine rad ?_; exact (Kd.V_mono (Kd.V_far (p := ⟨gb106, 1, none⟩) (Kd.V_far (p := ⟨gb106, 0, none⟩) (Kd.V_mono HL105_1.out (fun k_ hk => (⟨hk, hk.2⟩ : _ ∧ k_ ≠ gb106))) (fun _ hk => hk.2) (.bool false)) (fun _ hk => hk.2) (.slice A105_1 ((rd_T26 l0 x10_1).f1).length c105_1)) (fun _ h_ => h_.1))) (Kd.R_base ho0) hb); have n4_ := Aside0.mk (Kd.R_lower (Kd.R_new' (Kd.R_newM (M := fun k_ => (w.heap.size ≤ k_)) ho0 (below_size (bl HB)) (fun k_ h_ => h_)) (Kd.R_lt (by refine rad ?_; exact (Kd.R_mono (Kd.R_far (p := ⟨gb106, 1, none⟩) (Kd.R_far (p := ⟨gb106, 0, none⟩) (Kd.R_types HO_3.out BK106.out (by decide)) (fun _ hk => hk.2) (.bool false)) (fun _ hk => hk.2) (.slice A105_1 ((rd_T26 l0 x10_1).f1).length c105_1)) (fun _ h_ => h_.1))))) (below_size (bl HB))); have n5_ := Aside0.mk (blk_below (g := gb101) (o := .cells #[.bool false, .slice none 0 0] 26 (0, 0)) (by refine ba ?_; refine blk_far ?_ NB101_106.out _; refine ba ?_; refine blk_far ?_ NB101_106.out _; refine ba ?_; exact BK101.out) hb); have n6_ := Aside0.mk (Kd.C_below ((Kd.V_reads' (by refine rad ?_; exact (Kd.V_mono (Kd.V_far (p := ⟨gb106, 1, none⟩) (Kd.V_far (p := ⟨gb106, 0, none⟩) (Kd.V_mono HL105_1.out (fun k_ hk => (⟨hk, hk.2⟩ : _ ∧ k_ ≠ gb106))) (fun _ hk => hk.2) (.bool false)) (fun _ hk => hk.2) (.slice A105_1 ((rd_T26 l0 x10_1).f1).length c105_1)) (fun _ h_ => h_.1)))).2.2) hb); have n7_ := Aside0.mk (blk_below (g := gb106) (o := .cells #[.bool false, .slice A105_1 ((rd_T26 l0 x10_1).f1).length c105_1] 26 (0, 0)) (by refine ba ?_; refine blk_put (cs := #[.bool false, .slice none 0 0]) ?_ 1 _ rfl; refine ba ?_; refine blk_put (cs := #[.bool false, .slice none 0 0]) ?_ 0 _ rfl; refine ba ?_; exact BK106.out) hb); have n8_ := Aside0.mk (below_step (bl HB) hb); clear HO_3; clear HO_4; clear HO_8; clear HL105_1; clear BK101; clear HR105_1; clear BK106; clear HB; have HO_3 := n0_; have HO_4 := n1_; have HO_8 := n2_; have HL105_1 := n3_; have HO112 := n4_; have BK101 := n5_; have HR105_1 := n6_; have BK106 := n7_; have HB := n8_; clear n0_ n1_ n2_ n3_ n4_ n5_ n6_ n7_ n8_; (try clear hb); (try clear hb2); (try clear hk); (try clear hi); (try clear ho0)))
       go_roundg k1
       case measure => have := HK1.out; omega
       case rel => exact ⟨(t110), (x4_1), (x5_1), (wrap64 (x10_1 + 1)), (fr), (fr), H', ⟨by have := HK1.out; omega⟩, ⟨by refine rad ?_; exact Kd.R_mono HO112.out (fun _ hk => hk.1.1)⟩, ⟨by refine rad ?_; exact Kd.V_mono HO_4.out (fun _ hk => ⟨hk.1.1.1, ⟨hk.2, hk.1.1.2.2⟩⟩)⟩, ⟨by refine rad ?_; exact Kd.V_mono HO_8.out (fun _ hk => ⟨hk.1.1.1, ⟨hk.2, hk.1.1.2.2⟩⟩)⟩, ⟨BK101.out⟩, ⟨HB.out⟩⟩
   · rw [if_neg c3] at H
     have c3b0 : decide (x10_1 < (l0.length : Int)) = false := decide_eq_false c3
     clear c3
     by_cases c24 : x5_1 = true
     · subst c24
       replace H : ((set_Minus.f x4_1 x3_1).bind fun t102 => (some (true, t102))) = some (r1, r2) := by rw [if_pos rfl] at H; exact H
       replace H := Option.bind_eq_some_iff.mp H
       obtain ⟨t102, A250, H⟩ := H
       replace H : (some (true, t102)) = some (r1, r2) := H
       have A25 := Aside0.mk A250
       clear A250
       simp only [Option.some.injEq, Prod.mk.injEq] at H
       obtain ⟨rfl, rfl⟩ := H
       obtain ⟨Ao26, co26, eo26⟩ := Kd.V_slice HO_4.out
       subst eo26
       obtain ⟨Ao27, co27, eo27⟩ := Kd.R_slice HO_3.out
       subst eo27
       go_wp2_with (first | ((with_reducible refine gate_callee (f := 27) rfl ?_); refine goesL_ (some 35) rfl rfl Try.func27 (by kernel_rfl) rfl #[.slice Ao26 x4_1.length co26, .slice Ao27 x3_1.length co27] rfl (by (try simp only [List.map_toArray, List.map_cons, List.map_nil]); first | done | rfl | (simp only [List.length_drop, List.length_take]; rfl)) ?_; (with_reducible refine (set_Minus.calls _ _ x4_1 _ _ x3_1 t102 _ ?side1 ?side2 ?side3 ?side4 A25.out).mono ?_); (case side1 => exact ca (Kd.V_reads' HO_4.out).2.2); (case side2 => exact (Kd.V_reads' HO_4.out).2.1); (case side3 => exact ca (Kd.R_reads' HO_3.out).2.2); (case side4 => exact (Kd.R_reads' HO_3.out).2.1); rintro e w28 ⟨v103, rfl, ho0, hb⟩; refine ⟨_, rfl, ?_⟩; have n0_ := Aside0.mk (Kd.R_elder' (rad HO_3.out) (Kd.R_base ho0) hb); have n1_ := Aside0.mk (Kd.V_elder' (rad HO_4.out) (Kd.R_base ho0) hb); have n2_ := Aside0.mk (Kd.V_elder' (rad HO_8.out) (Kd.R_base ho0) hb); have n3_ := Aside0.mk (Kd.R_lower (Kd.R_new' (Kd.R_newM (M := fun k_ => (w.heap.size ≤ k_)) ho0 (below_size HB.out) (fun k_ h_ => h_)) (Kd.R_lt (rad HO_3.out))) (below_size HB.out)); have n4_ := Aside0.mk (blk_below BK101.out hb); have n5_ := Aside0.mk (below_step HB.out hb); clear HO_3; clear HO_4; clear HO_8; clear BK101; clear HB; have HO_3 := n0_; have HO_4 := n1_; have HO_8 := n2_; have HO104 := n3_; have BK101 := n4_; have HB := n5_; clear n0_ n1_ n2_ n3_ n4_ n5_; (try clear hb); (try clear hb2); (try clear hk); (try clear hi); (try clear ho0); obtain ⟨Ao29, co29, eo29⟩ := Kd.R_slice HO104.out; subst eo29; obtain ⟨hcz30_0, hcz30_1, hfz30_0, hfz30_1⟩ := cf2 BK101.out))
       refine bodyPost_ret (results_cell_row rfl _ _ gb101 26 #[.bool true, .slice Ao29 t102.length co29] (0, 0) _ rfl (by refine ba ?_; refine blk_put (cs := #[.bool true, .slice none 0 0]) ?_ 1 _ rfl; refine ba ?_; refine blk_put (cs := #[.bool false, .slice none 0 0]) ?_ 0 _ rfl; refine ba ?_; exact BK101.out) Try.underlying26 rfl (by kernel_rfl)) rfl ?_
       exact ⟨_, by first | rfl | (simp [errW_none, errW_some] <;> rfl) | (simp [*, errW_none, errW_some] <;> rfl), by refine rad ?_; exact Kd.R_mono (Kd.R_far (p := ⟨gb101, 1, none⟩) (Kd.R_far (p := ⟨gb101, 0, none⟩) (Kd.R_types HO104.out BK101.out (by decide)) (fun _ hk => hk.2) (.bool true)) (fun _ hk => hk.2) (.slice Ao29 t102.length co29)) (fun _ hk => hk.1.1.1), bl HB⟩
     · replace c24 := Bool.eq_false_iff.mpr c24
       subst c24
       replace H : (some (false, x3_1)) = some (r1, r2) := by rw [if_neg (show ¬ (false = true) by decide)] at H; exact H
       simp only [Option.some.injEq, Prod.mk.injEq] at H
       obtain ⟨rfl, rfl⟩ := H
       obtain ⟨Ao31, co31, eo31⟩ := Kd.R_slice HO_3.out
       subst eo31
       obtain ⟨hcz32_0, hcz32_1, hfz32_0, hfz32_1⟩ := cf2 BK101.out
       go_wp2
       refine bodyPost_ret (results_cell_row rfl _ _ gb101 26 #[.bool false, .slice Ao31 x3_1.length co31] (0, 0) _ rfl (by refine ba ?_; refine blk_put (cs := #[.bool false, .slice none 0 0]) ?_ 1 _ rfl; refine ba ?_; refine blk_put (cs := #[.bool false, .slice none 0 0]) ?_ 0 _ rfl; refine ba ?_; exact BK101.out) Try.underlying26 rfl (by kernel_rfl)) rfl ?_
       exact ⟨_, by first | rfl | (simp [errW_none, errW_some] <;> rfl) | (simp [*, errW_none, errW_some] <;> rfl), by refine rad ?_; exact Kd.R_mono (Kd.R_far (p := ⟨gb101, 1, none⟩) (Kd.R_far (p := ⟨gb101, 0, none⟩) (Kd.R_types HO_3.out BK101.out (by decide)) (fun _ hk => hk.2) (.bool false)) (fun _ hk => hk.2) (.slice Ao31 x3_1.length co31)) (fun _ hk => hk.1), bl HB⟩


/-! ### host_Wants: function 18 -/
def host_Wants.l0 : Nat → Int → List (S26) → List (S42) → Int → Int → Option (Bool × List Int)
  | 0, _, _, _, _, _ => none
  | k + 1, x1, x5, x9, x10, x11 => if x11 < x10 then (if 0 ≤ x11 then (if x11 < (x9.length : Int) then (if ((rd_T42 x9 x11).f1) = x1 then (if x5.length < 4398046511104 then (host_Wants.l0 k x1 (x5 ++ [(⟨(rd_T42 x9 x11).f2.f0, (rd_T42 x9 x11).f2.f1⟩ : S26)]) x9 x10 (wrap64 (x11 + 1))) else (none)) else (host_Wants.l0 k x1 x5 x9 x10 (wrap64 (x11 + 1)))) else (none)) else (none)) else ((set_Filter.f k x5).bind fun bt138 => (some (bt138.1, bt138.2)))
def host_Wants.f (k : Nat) (l0_0 : List (S42)) (a1 : Int) : Option (Bool × List Int) := host_Wants.l0 k a1 ([] : List (S26)) l0_0 (l0_0.length : Int) 0
theorem host_Wants.mono_l : ∀ k, (∀ y0 y1 y2 y3 y4, LeO (host_Wants.l0 k y0 y1 y2 y3 y4) (host_Wants.l0 (k + 1) y0 y1 y2 y3 y4))
  | 0 => fun _ _ _ _ _ r h => by simp [host_Wants.l0] at h
  | k + 1 => by
    have ih0 := host_Wants.mono_l k
    · intro y0 y1 y2 y3 y4
      unfold host_Wants.l0
      repeat' first
      | (with_reducible exact ih0 _ _ _ _ _)
      | (with_reducible exact set_Filter.mono _ _)
      | (with_reducible exact LeO.refl _)
      | (with_reducible exact LeO.none _)
      | (with_reducible refine LeO.ite ?_ ?_)
      | (with_reducible refine LeO.bind ?_ (fun _ => ?_))
      | exact ih0 _ _ _ _ _
      | exact set_Filter.mono _ _
      | exact LeO.none _
      | refine LeO.ite ?_ ?_
      | refine LeO.bind ?_ (fun _ => ?_)
theorem host_Wants.mono : ∀ a0 a1 k, LeO (host_Wants.f k a0 a1) (host_Wants.f (k + 1) a0 a1) := by
  intro a0 a1 k
  have ih0 := host_Wants.mono_l k
  unfold host_Wants.f
  repeat' first
      | (with_reducible exact ih0 _ _ _ _ _)
      | (with_reducible exact set_Filter.mono _ _)
      | (with_reducible exact LeO.refl _)
      | (with_reducible exact LeO.none _)
      | (with_reducible refine LeO.ite ?_ ?_)
      | (with_reducible refine LeO.bind ?_ (fun _ => ?_))
      | exact ih0 _ _ _ _ _
      | exact set_Filter.mono _ _
      | exact LeO.none _
      | refine LeO.ite ?_ ?_
      | refine LeO.bind ?_ (fun _ => ?_)
theorem host_Wants.calls (k : Nat) (P0_0_ : Nat → Prop) (A0_0 : Option Addr) (c0_0 : Nat) (l0_0 : List (S42)) (a1 : Int) (r1 : Bool) (r2 : List Int) (w : World) (hs0_0 : Kd.V k42 42 w w.heap.size (fun k_ => P0_0_ k_) (.slice A0_0 l0_0.length c0_0) l0_0) (h : host_Wants.f k l0_0 a1 = some (r1, r2)) :
    Calls Try.prog 18 #[.agg #[.slice A0_0 l0_0.length c0_0], .int .u32 a1] w fun e w' => ∃ v1_ : Value, e = .returned (.agg #[.bool r1, v1_]) ∧ Kd.R (Kd.int .u32) 23 w' w.heap.size (fun k_ => (w.heap.size ≤ k_)) v1_ r2 ∧ Below w.heap.size w w' := by
  have hu40 := Try.underlying40
  have hu26 := Try.underlying26
  have hu42 := Try.underlying42
  have HO0_0 := Aside0.mk (show Kd.V k42 42 w w.heap.size (fun k_ => (P0_0_ k_ ∨ w.heap.size ≤ k_)) (.slice A0_0 l0_0.length c0_0) l0_0 from Kd.V_mono hs0_0 (fun k_ hk => .inl hk))
  have HB := Aside0.mk (Below.refl w.heap.size w)
  have H : (host_Wants.l0 k a1 ([] : List (S26)) l0_0 (l0_0.length : Int) 0) = some (r1, r2) := h
  clear h
  have H' := Aside0.mk H
  clear H
  go_enter Try.func18, Try.ntmps18
  go_wp2_with (first | ((with_reducible refine gate_dst (N := 2) rfl ?_); refine bxn (cs := #[.slice A0_0 l0_0.length c0_0]) (t := 40) ?_; intro gb131 hg w3 hbox hb; have n0_ := Aside0.mk (Kd.V_below (Kd.V_elderB (rad HO0_0.out) gb131 (Nat.le_of_eq hg.symm)) hb); have n1_ := Aside0.mk (below_step (bl HB) hb); have n2_ := Aside0.mk (hbox); have n3_ := Aside0.mk ((by rw [hg]; exact (below_size (bl HB)) : w.heap.size ≤ gb131)); have n4_ := Aside0.mk ((by rw [hg]; exact (below_size (bl HB)) : w.heap.size ≤ gb131)); clear HO0_0; clear HB; have HO0_0 := n0_; have HB := n1_; have BK131 := n2_; have GW131 := n3_; have GE131 := n4_; clear n0_ n1_ n2_ n3_ n4_; clear hb hbox hg) | ((with_reducible refine gate_dst (N := 4) rfl ?_); refine bxn (cs := #[.bool false, .slice none 0 0]) (t := 26) ?_; intro gb132 hg w4 hbox hb; have n0_ := Aside0.mk (Kd.V_below (Kd.V_elderB (rad HO0_0.out) gb132 (Nat.le_of_eq hg.symm)) hb); have n1_ := Aside0.mk (blk_below (g := gb131) (o := .cells #[.slice A0_0 l0_0.length c0_0] 40 (0, 0)) (ba BK131.out) hb); have n2_ := Aside0.mk (below_step (bl HB) hb); have n3_ := Aside0.mk (hbox); have n4_ := Aside0.mk ((by rw [hg]; exact (below_size (bl HB)) : w.heap.size ≤ gb132)); have n5_ := Aside0.mk ((by rw [hg]; exact (below_size (bl HB)) : w.heap.size ≤ gb132)); have n6_ := Aside0.mk ((by rw [hg]; exact Nat.ne_of_lt (blk_lt (g := gb131) (o := .cells #[.slice A0_0 l0_0.length c0_0] 40 (0, 0)) (ba BK131.out)) : gb131 ≠ gb132)); have n7_ := Aside0.mk ((by rw [hg]; exact Nat.ne_of_gt (blk_lt (g := gb131) (o := .cells #[.slice A0_0 l0_0.length c0_0] 40 (0, 0)) (ba BK131.out)) : gb132 ≠ gb131)); clear HO0_0; clear BK131; clear HB; have HO0_0 := n0_; have BK131 := n1_; have HB := n2_; have BK132 := n3_; have GW132 := n4_; have GE132 := n5_; have NB131_132 := n6_; have NB132_131 := n7_; clear n0_ n1_ n2_ n3_ n4_ n5_ n6_ n7_; clear hb hbox hg; have hnb5 := NB131_132.out; have hnc5 := NB132_131.out; obtain ⟨hcz6_0, hfz6_0⟩ := cf1 BK131.out))
  go_loopg [5, 11] k (fun kq v5 v11 w' => ∃ (x5_1 : List (S26)) (x11_1 : Int), v11 = .int .i64 x11_1 ∧ Aside0 (host_Wants.l0 kq a1 x5_1 l0_0 (l0_0.length : Int) x11_1 = some (r1, r2)) ∧ Aside0 (kq ≤ k) ∧ Aside0 (Kd.N k26 26 w' w.heap.size (fun k_ => (P0_0_ k_ ∨ w.heap.size ≤ k_) ∧ k_ ≠ gb131 ∧ k_ ≠ gb132) v5 x5_1) ∧ Aside0 (Kd.V k42 42 w' w.heap.size (fun k_ => (P0_0_ k_ ∨ w.heap.size ≤ k_) ∧ some k_ ≠ (v5 : Value).ownBlock ∧ k_ ≠ gb131 ∧ k_ ≠ gb132) (.slice A0_0 l0_0.length c0_0) l0_0) ∧ Aside0 (Kd.V k42 42 w' w.heap.size (fun k_ => (P0_0_ k_ ∨ w.heap.size ≤ k_) ∧ some k_ ≠ (v5 : Value).ownBlock ∧ k_ ≠ gb131 ∧ k_ ≠ gb132) (.slice A0_0 l0_0.length c0_0) l0_0) ∧ Aside0 (w'.heap[gb131]? = some (.cells #[(.slice A0_0 l0_0.length c0_0)] 40 (0, 0))) ∧ Aside0 (w'.heap[gb132]? = some (.cells #[.bool false, (.slice none 0 0)] 26 (0, 0))) ∧ Aside0 (Below w.heap.size w w'))
  case atStart => exact ⟨(([] : List (S26))), (0), (fr), H', ⟨Nat.le_refl _⟩, ⟨nl⟩, ⟨by refine rad ?_; exact Kd.V_mono HO0_0.out (fun _ hk => ⟨hk.1.1, ⟨(by simp [Value.ownBlock]), ⟨hk.1.2, hk.2⟩⟩⟩)⟩, ⟨by refine rad ?_; exact Kd.V_mono HO0_0.out (fun _ hk => ⟨hk.1.1, ⟨(by simp [Value.ownBlock]), ⟨hk.1.2, hk.2⟩⟩⟩)⟩, ⟨ba BK131.out⟩, ⟨ba BK132.out⟩, ⟨bl HB⟩⟩
  case round =>
    clear H'
    try clear c1
    try clear p2
    try clear c5
    try clear hcz6_0
    try clear hfz6_0
    obtain ⟨x5_1, x11_1, rfl, HA, HK1, HO_5, HO_9, HO_132000, BK131, BK132, HB⟩ := hrel
    cases gk with
    | zero => exact absurd HA.out (by simp [host_Wants.l0])
    | succ k1 =>
      have H := HA.out
      clear HA
      simp only [host_Wants.l0] at H
      by_cases c7 : x11_1 < (l0_0.length : Int)
      · rw [if_pos c7] at H
        have c7b0 : decide (x11_1 < (l0_0.length : Int)) = true := decide_eq_true c7
        clear c7
        by_cases c8 : 0 ≤ x11_1
        · rw [if_pos c8] at H
          have c8b0 : decide (0 ≤ x11_1) = true := decide_eq_true c8
          clear c8
          by_cases c9 : x11_1 < (l0_0.length : Int)
          · rw [if_pos c9] at H
            have c9b0 : decide (x11_1 < (l0_0.length : Int)) = true := decide_eq_true c9
            clear c9
            by_cases c10 : ((rd_T42 l0_0 x11_1).f1) = a1
            · rw [if_pos c10] at H
              have c10b0 : (((rd_T42 l0_0 x11_1).f1) == a1) = true := beq_iff_eq.mpr c10
              have c10b1 : (((rd_T42 l0_0 x11_1).f1) != a1) = false := bne_eq_false_iff_eq.mpr c10
              clear c10
              by_cases c11 : x5_1.length < 4398046511104
              · rw [if_pos c11] at H
                have LMc11 := Aside0.mk c11
                clear c11
                obtain ⟨y135, hy135⟩ : ∃ y_ : List (S26), y_ = (x5_1 ++ [(⟨(rd_T42 l0_0 x11_1).f2.f0, (rd_T42 l0_0 x11_1).f2.f1⟩ : S26)]) := ⟨_, rfl⟩
                replace H : (host_Wants.l0 k1 a1 y135 l0_0 (l0_0.length : Int) (wrap64 (x11_1 + 1))) = some (r1, r2) := by first | (rw [hy135]; with_reducible exact H) | (have H2_ := (Option.bind_some _ _).symm.trans H; rw [hy135]; with_reducible exact H2_) | (have H2_ := (Option.bind_some _ _).symm.trans H; with_reducible exact H2_) | with_reducible exact H | (rw [hy135]; exact H) | exact H
                have Ny135 := Aside0.mk hy135
                clear hy135
                have H' := Aside0.mk H
                clear H
                have p133 : 0 ≤ (x11_1 : Int) := od
                have q133 : x11_1 < (l0_0.length : Int) := od
                obtain ⟨ad133, A133_3, c133_3, e133, hx133_0, hx133_1, hx133_2, hx133_3, hl133_3, hi133_3⟩ := at_T42 (Kd.V_reads' HO_9.out).2.2 x11_1 p133 q133
                cases e133
                obtain ⟨ce133, hce133, hMe133, hcc133⟩ := Kd.V_get HO_9.out z42 x11_1 p133 (by first | exact q133 | exact od | (have e_ := (Kd.V_reads' HO_9.out).1; omega))
                obtain ⟨ua133_3, uc133_3, rfl, ul133_3, ge133_3⟩ := k42_openF hMe133
                have hv133_3 := hcc133 3 _ rfl
                rw [add_field _ _ 3 (by omega)] at hv133_3
                replace hv133_3 := Option.some.inj (hv133_3.symm.trans hx133_3)
                injection hv133_3 with hva_ hvn_ hvc_
                rw [hva_] at ge133_3
                rw [hvc_] at ul133_3
                have HL133_3 := Aside0.mk (show Kd.V (Kd.int .u32) 23 _ w.heap.size _ _ ((rd_T42 l0_0 x11_1).f2.f1) from Kd.V_mk ul133_3 ge133_3)
                clear hva_ hvn_ hvc_ ge133_3 ul133_3
                clear hcc133 hce133
                have HR133_3 := Aside0.mk hi133_3
                have HC133_3 := Aside0.mk hl133_3
                clear hi133_3 hl133_3
                replace p133 := eq_true p133
                replace q133 := eq_true q133
                go_wp2_with (first | ((with_reducible refine gate_dst (N := 7) rfl ?_); refine bxn (cs := #[.int .i64 0, .int .u32 0, .bool false, .slice none 0 0]) (t := 42) ?_; intro gb134 hg w12 hbox hb; have n0_ := Aside0.mk (Kd.N_below (Kd.N_elderB (rad HO_5.out) gb134 (Nat.le_of_eq hg.symm)) hb); have n1_ := Aside0.mk (Kd.V_below (Kd.V_elderB (rad HO_9.out) gb134 (Nat.le_of_eq hg.symm)) hb); have n2_ := Aside0.mk (Kd.V_below (Kd.V_elderB (rad HO_132000.out) gb134 (Nat.le_of_eq hg.symm)) hb); have n3_ := Aside0.mk (Kd.V_below (Kd.V_elderB (rad HL133_3.out) gb134 (Nat.le_of_eq hg.symm)) hb); have n4_ := Aside0.mk (blk_below (g := gb131) (o := .cells #[.slice (some ad133) l0_0.length c0_0] 40 (0, 0)) (ba BK131.out) hb); have n5_ := Aside0.mk (blk_below (g := gb132) (o := .cells #[.bool false, .slice none 0 0] 26 (0, 0)) (ba BK132.out) hb); have n6_ := Aside0.mk (Kd.C_below (by repeat (first | (with_reducible exact HR133_3.out) | (with_reducible refine Kd.C_alloc ?_ _) | (with_reducible refine Kd.C_drewN ?_ _) | (with_reducible refine Kd.C_drew ?_) | exact HR133_3.out)) hb); have n7_ := Aside0.mk (below_step (bl HB) hb); have n8_ := Aside0.mk (hbox); have n9_ := Aside0.mk ((by rw [hg]; exact (below_size (bl HB)) : w.heap.size ≤ gb134)); have n10_ := Aside0.mk ((by rw [hg]; exact (below_size (bl HB)) : w.heap.size ≤ gb134)); have n11_ := Aside0.mk ((by rw [hg]; exact Nat.ne_of_lt (blk_lt (g := gb131) (o := .cells #[.slice (some ad133) l0_0.length c0_0] 40 (0, 0)) (ba BK131.out)) : gb131 ≠ gb134)); have n12_ := Aside0.mk ((by rw [hg]; exact Nat.ne_of_gt (blk_lt (g := gb131) (o := .cells #[.slice (some ad133) l0_0.length c0_0] 40 (0, 0)) (ba BK131.out)) : gb134 ≠ gb131)); have n13_ := Aside0.mk ((by rw [hg]; exact Nat.ne_of_lt (blk_lt (g := gb132) (o := .cells #[.bool false, .slice none 0 0] 26 (0, 0)) (ba BK132.out)) : gb132 ≠ gb134)); have n14_ := Aside0.mk ((by rw [hg]; exact Nat.ne_of_gt (blk_lt (g := gb132) (o := .cells #[.bool false, .slice none 0 0] 26 (0, 0)) (ba BK132.out)) : gb134 ≠ gb132)); clear HO_5; clear HO_9; clear HO_132000; clear HL133_3; clear BK131; clear BK132; clear HR133_3; clear HB; have HO_5 := n0_; have HO_9 := n1_; have HO_132000 := n2_; have HL133_3 := n3_; have BK131 := n4_; have BK132 := n5_; have HR133_3 := n6_; have HB := n7_; have BK134 := n8_; have GW134 := n9_; have GE134 := n10_; have NB131_134 := n11_; have NB134_131 := n12_; have NB132_134 := n13_; have NB134_132 := n14_; clear n0_ n1_ n2_ n3_ n4_ n5_ n6_ n7_ n8_ n9_ n10_ n11_ n12_ n13_ n14_; clear hb hbox hg; have hnb13 := NB134_131.out; have hnc13 := NB131_134.out; have hnb14 := NB134_132.out; have hnc14 := NB132_134.out; obtain ⟨hcz15_0, hcz15_1, hcz15_2, hcz15_3, hfz15_0, hfz15_1, hfz15_2, hfz15_3⟩ := cf4 BK134.out) | ((with_reducible refine gate_store (t := 42) (p := 7) rfl ?_); refine store_event (t := 42) (p := 7) (v := ?vo_w16) (w1 := ((((w12.setCell ⟨gb134, 0, none⟩ (.int .i64 ((rd_T42 l0_0 x11_1).f0))).setCell ⟨gb134, 1, none⟩ (.int .u32 ((rd_T42 l0_0 x11_1).f1))).setCell ⟨gb134, 2, none⟩ (.bool ((rd_T42 l0_0 x11_1).f2.f0))).setCell ⟨gb134, 3, none⟩ (.slice A133_3 ((rd_T42 l0_0 x11_1).f2.f1).length c133_3))) ?hg ?ho ?hn ?hr ?_; (case ho => rfl); (case hg => rfl); (case hn => rfl); (case hr => first | (go_simp; done) | (go_simp; rfl)); intro w16 hw; have n0_ : Aside0 (Kd.N k26 26 w16 w.heap.size (fun k_ => (P0_0_ k_ ∨ w.heap.size ≤ k_) ∧ k_ ≠ gb131 ∧ k_ ≠ gb132 ∧ k_ ≠ gb134) u5 x5_1) := ⟨(by rw [hw]; exact (by refine rad ?_; exact Kd.N_mono (Kd.N_far (p := ⟨gb134, 3, none⟩) (Kd.N_far (p := ⟨gb134, 2, none⟩) (Kd.N_far (p := ⟨gb134, 1, none⟩) (Kd.N_far (p := ⟨gb134, 0, none⟩) (Kd.N_mono HO_5.out (fun k_ hk => (⟨hk, hk.2⟩ : _ ∧ k_ ≠ gb134))) (fun _ hk => hk.2) (.int .i64 ((rd_T42 l0_0 x11_1).f0))) (fun _ hk => hk.2) (.int .u32 ((rd_T42 l0_0 x11_1).f1))) (fun _ hk => hk.2) (.bool ((rd_T42 l0_0 x11_1).f2.f0))) (fun _ hk => hk.2) (.slice A133_3 ((rd_T42 l0_0 x11_1).f2.f1).length c133_3)) (fun _ hk => ⟨hk.1.1.1, ⟨hk.1.1.2.1, ⟨hk.1.1.2.2, hk.1.2⟩⟩⟩)))⟩; have n1_ : Aside0 (Kd.V k42 42 w16 w.heap.size (fun k_ => (P0_0_ k_ ∨ w.heap.size ≤ k_) ∧ some k_ ≠ (u5 : Value).ownBlock ∧ k_ ≠ gb131 ∧ k_ ≠ gb132 ∧ k_ ≠ gb134) (.slice (some ad133) l0_0.length c0_0) l0_0) := ⟨(by rw [hw]; exact (by refine rad ?_; exact Kd.V_mono (Kd.V_far (p := ⟨gb134, 3, none⟩) (Kd.V_far (p := ⟨gb134, 2, none⟩) (Kd.V_far (p := ⟨gb134, 1, none⟩) (Kd.V_far (p := ⟨gb134, 0, none⟩) (Kd.V_mono HO_9.out (fun k_ hk => (⟨hk, hk.2⟩ : _ ∧ k_ ≠ gb134))) (fun _ hk => hk.2) (.int .i64 ((rd_T42 l0_0 x11_1).f0))) (fun _ hk => hk.2) (.int .u32 ((rd_T42 l0_0 x11_1).f1))) (fun _ hk => hk.2) (.bool ((rd_T42 l0_0 x11_1).f2.f0))) (fun _ hk => hk.2) (.slice A133_3 ((rd_T42 l0_0 x11_1).f2.f1).length c133_3)) (fun _ hk => ⟨hk.1.1.1, ⟨hk.1.1.2.1, ⟨hk.1.1.2.2.1, ⟨hk.1.1.2.2.2, hk.1.2⟩⟩⟩⟩)))⟩; have n2_ : Aside0 (Kd.V k42 42 w16 w.heap.size (fun k_ => (P0_0_ k_ ∨ w.heap.size ≤ k_) ∧ some k_ ≠ (u5 : Value).ownBlock ∧ k_ ≠ gb131 ∧ k_ ≠ gb132 ∧ k_ ≠ gb134) (.slice (some ad133) l0_0.length c0_0) l0_0) := ⟨(by rw [hw]; exact (by refine rad ?_; exact Kd.V_mono (Kd.V_far (p := ⟨gb134, 3, none⟩) (Kd.V_far (p := ⟨gb134, 2, none⟩) (Kd.V_far (p := ⟨gb134, 1, none⟩) (Kd.V_far (p := ⟨gb134, 0, none⟩) (Kd.V_mono HO_132000.out (fun k_ hk => (⟨hk, hk.2⟩ : _ ∧ k_ ≠ gb134))) (fun _ hk => hk.2) (.int .i64 ((rd_T42 l0_0 x11_1).f0))) (fun _ hk => hk.2) (.int .u32 ((rd_T42 l0_0 x11_1).f1))) (fun _ hk => hk.2) (.bool ((rd_T42 l0_0 x11_1).f2.f0))) (fun _ hk => hk.2) (.slice A133_3 ((rd_T42 l0_0 x11_1).f2.f1).length c133_3)) (fun _ hk => ⟨hk.1.1.1, ⟨hk.1.1.2.1, ⟨hk.1.1.2.2.1, ⟨hk.1.1.2.2.2, hk.1.2⟩⟩⟩⟩)))⟩; have n3_ : Aside0 (Kd.V (Kd.int .u32) 23 w16 w.heap.size (fun k_ => (P0_0_ k_ ∨ w.heap.size ≤ k_) ∧ some k_ ≠ (u5 : Value).ownBlock ∧ k_ ≠ gb131 ∧ k_ ≠ gb132 ∧ k_ ≠ gb134) (.slice A133_3 ((rd_T42 l0_0 x11_1).f2.f1).length c133_3) ((rd_T42 l0_0 x11_1).f2.f1)) := ⟨(by rw [hw]; exact (by refine rad ?_; exact Kd.V_mono (Kd.V_far (p := ⟨gb134, 3, none⟩) (Kd.V_far (p := ⟨gb134, 2, none⟩) (Kd.V_far (p := ⟨gb134, 1, none⟩) (Kd.V_far (p := ⟨gb134, 0, none⟩) (Kd.V_mono HL133_3.out (fun k_ hk => (⟨hk, hk.2⟩ : _ ∧ k_ ≠ gb134))) (fun _ hk => hk.2) (.int .i64 ((rd_T42 l0_0 x11_1).f0))) (fun _ hk => hk.2) (.int .u32 ((rd_T42 l0_0 x11_1).f1))) (fun _ hk => hk.2) (.bool ((rd_T42 l0_0 x11_1).f2.f0))) (fun _ hk => hk.2) (.slice A133_3 ((rd_T42 l0_0 x11_1).f2.f1).length c133_3)) (fun _ hk => ⟨hk.1.1.1, ⟨hk.1.1.2.1, ⟨hk.1.1.2.2.1, ⟨hk.1.1.2.2.2, hk.1.2⟩⟩⟩⟩)))⟩; have n4_ : Aside0 (w16.heap[gb131]? = some (.cells #[.slice (some ad133) l0_0.length c0_0] 40 (0, 0))) := ⟨(by rw [hw]; exact (by refine ba ?_; refine blk_far ?_ NB131_134.out _; refine ba ?_; refine blk_far ?_ NB131_134.out _; refine ba ?_; refine blk_far ?_ NB131_134.out _; refine ba ?_; refine blk_far ?_ NB131_134.out _; refine ba ?_; exact BK131.out))⟩; have n5_ : Aside0 (w16.heap[gb132]? = some (.cells #[.bool false, .slice none 0 0] 26 (0, 0))) := ⟨(by rw [hw]; exact (by refine ba ?_; refine blk_far ?_ NB132_134.out _; refine ba ?_; refine blk_far ?_ NB132_134.out _; refine ba ?_; refine blk_far ?_ NB132_134.out _; refine ba ?_; refine blk_far ?_ NB132_134.out _; refine ba ?_; exact BK132.out))⟩; have n6_ : Aside0 (w16.heap[gb134]? = some (.cells #[.int .i64 ((rd_T42 l0_0 x11_1).f0), .int .u32 ((rd_T42 l0_0 x11_1).f1), .bool ((rd_T42 l0_0 x11_1).f2.f0), .slice A133_3 ((rd_T42 l0_0 x11_1).f2.f1).length c133_3] 42 (0, 0))) := ⟨(by rw [hw]; exact (by refine ba ?_; refine blk_put (cs := #[.int .i64 ((rd_T42 l0_0 x11_1).f0), .int .u32 ((rd_T42 l0_0 x11_1).f1), .bool ((rd_T42 l0_0 x11_1).f2.f0), .slice none 0 0]) ?_ 3 _ rfl; refine ba ?_; refine blk_put (cs := #[.int .i64 ((rd_T42 l0_0 x11_1).f0), .int .u32 ((rd_T42 l0_0 x11_1).f1), .bool false, .slice none 0 0]) ?_ 2 _ rfl; refine ba ?_; refine blk_put (cs := #[.int .i64 ((rd_T42 l0_0 x11_1).f0), .int .u32 0, .bool false, .slice none 0 0]) ?_ 1 _ rfl; refine ba ?_; refine blk_put (cs := #[.int .i64 0, .int .u32 0, .bool false, .slice none 0 0]) ?_ 0 _ rfl; refine ba ?_; exact BK134.out))⟩; have n7_ : Aside0 (Below w.heap.size w w16) := ⟨(by rw [hw]; exact (bl HB))⟩; clear hw; clear HO_5; clear HO_9; clear HO_132000; clear HL133_3; clear BK131; clear BK132; clear BK134; clear HB; have HO_5 := n0_; have HO_9 := n1_; have HO_132000 := n2_; have HL133_3 := n3_; have BK131 := n4_; have BK132 := n5_; have BK134 := n6_; have HB := n7_; clear n0_ n1_ n2_ n3_ n4_ n5_ n6_ n7_; obtain ⟨hcz17_0, hcz17_1, hcz17_2, hcz17_3, hfz17_0, hfz17_1, hfz17_2, hfz17_3⟩ := cf4 BK134.out) | ((with_reducible refine gate_builtin (b := .append) (xs := #[.tmp 19, .tmp 22]) rfl ?_); at_builtin; refine Kd.N_append k26 (w0 := w) w.heap.size rfl (.tmp 19) (.tmp 22) 76 26 (.agg #[(.bool false), (.slice none 0 0)]) 32 rfl Try.underlying76 info26 rfl (by decide) (by omega) u5 x5_1 (⟨(rd_T42 l0_0 x11_1).f2.f0, (rd_T42 l0_0 x11_1).f2.f1⟩ : S26) [.bool ((rd_T42 l0_0 x11_1).f2.f0), .slice A133_3 ((rd_T42 l0_0 x11_1).f2.f1).length c133_3] (fun k_ => (P0_0_ k_ ∨ w.heap.size ≤ k_) ∧ k_ ≠ gb131 ∧ k_ ≠ gb132 ∧ k_ ≠ gb134) (fun k_ => ((fun k_ => (P0_0_ k_ ∨ w.heap.size ≤ k_) ∧ k_ ≠ gb131 ∧ k_ ≠ gb132 ∧ k_ ≠ gb134)) k_ ∧ some k_ ≠ (u5 : Value).ownBlock) rfl rfl ?aP (fun _ hk => hk) ?aF ?aO ?aB ?aS ?aL ?_; (case aP => exact (k26_mkF _ _ (⟨(rd_T42 l0_0 x11_1).f2.f0, (rd_T42 l0_0 x11_1).f2.f1⟩ : S26) (Kd.V_reads' (Kd.V_mono (ok' := (fun k_ => ((fun k_ => (P0_0_ k_ ∨ w.heap.size ≤ k_) ∧ k_ ≠ gb131 ∧ k_ ≠ gb132 ∧ k_ ≠ gb134)) k_ ∧ some k_ ≠ (u5 : Value).ownBlock)) (HL133_3.out) (fun k_ hk => ⟨⟨hk.1, ⟨hk.2.2.1, ⟨hk.2.2.2.1, hk.2.2.2.2⟩⟩⟩, hk.2.1⟩))).2.1 (Kd.V_F (Kd.V_mono (ok' := (fun k_ => ((fun k_ => (P0_0_ k_ ∨ w.heap.size ≤ k_) ∧ k_ ≠ gb131 ∧ k_ ≠ gb132 ∧ k_ ≠ gb134)) k_ ∧ some k_ ≠ (u5 : Value).ownBlock)) (HL133_3.out) (fun k_ hk => ⟨⟨hk.1, ⟨hk.2.2.1, ⟨hk.2.2.2.1, hk.2.2.2.2⟩⟩⟩, hk.2.1⟩))))); (case aB => exact (bl HB)); (case aF => exact (fun k_ hk => ⟨(.inr (Nat.le_trans (below_size (bl HB)) hk)), Kd.freshB (g := gb131) (o := .cells #[.slice (some ad133) l0_0.length c0_0] 40 (0, 0)) (ba BK131.out) k_ hk, Kd.freshB (g := gb132) (o := .cells #[.bool false, .slice none 0 0] 26 (0, 0)) (ba BK132.out) k_ hk, Kd.freshB (g := gb134) (o := .cells #[.int .i64 ((rd_T42 l0_0 x11_1).f0), .int .u32 ((rd_T42 l0_0 x11_1).f1), .bool ((rd_T42 l0_0 x11_1).f2.f0), .slice A133_3 ((rd_T42 l0_0 x11_1).f2.f1).length c133_3] 42 (0, 0)) (ba BK134.out) k_ hk⟩)); (case aO => exact (rad HO_5.out)); (case aS => exact (below_size (bl HB))); (case aL => have := LMc11.out; omega); intro v136 w18 ho hb hg hat; rw [← Ny135.out] at ho; have n0_ := Aside0.mk (Kd.V_afterv (ok := (fun k_ => (P0_0_ k_ ∨ w.heap.size ≤ k_) ∧ k_ ≠ gb131 ∧ k_ ≠ gb132 ∧ k_ ≠ gb134)) (by refine rad ?_; exact Kd.V_mono HO_9.out (fun _ hk => ⟨⟨hk.1, ⟨hk.2.2.1, ⟨hk.2.2.2.1, hk.2.2.2.2⟩⟩⟩, hk.2.1⟩)) hg hat); have n1_ := Aside0.mk (Kd.V_afterv (ok := (fun k_ => (P0_0_ k_ ∨ w.heap.size ≤ k_) ∧ k_ ≠ gb131 ∧ k_ ≠ gb132 ∧ k_ ≠ gb134)) (by refine rad ?_; exact Kd.V_mono HO_132000.out (fun _ hk => ⟨⟨hk.1, ⟨hk.2.2.1, ⟨hk.2.2.2.1, hk.2.2.2.2⟩⟩⟩, hk.2.1⟩)) hg hat); have n2_ := Aside0.mk (blk_grown (g := gb131) (o := .cells #[.slice (some ad133) l0_0.length c0_0] 40 (0, 0)) (ba BK131.out) hg (Kd.N_ne HO_5.out BK131.out (by decide))); have n3_ := Aside0.mk (blk_grown (g := gb132) (o := .cells #[.bool false, .slice none 0 0] 26 (0, 0)) (ba BK132.out) hg (Kd.N_away HO_5.out (fun _ hk => hk.2.2.1))); have n4_ := Aside0.mk (Kd.V_afterv (ok := (fun k_ => (P0_0_ k_ ∨ w.heap.size ≤ k_) ∧ k_ ≠ gb131 ∧ k_ ≠ gb132 ∧ k_ ≠ gb134)) (by refine rad ?_; exact Kd.V_mono HL133_3.out (fun _ hk => ⟨⟨hk.1, ⟨hk.2.2.1, ⟨hk.2.2.2.1, hk.2.2.2.2⟩⟩⟩, hk.2.1⟩)) hg hat); have n5_ := Aside0.mk (blk_grown (g := gb134) (o := .cells #[.int .i64 ((rd_T42 l0_0 x11_1).f0), .int .u32 ((rd_T42 l0_0 x11_1).f1), .bool ((rd_T42 l0_0 x11_1).f2.f0), .slice A133_3 ((rd_T42 l0_0 x11_1).f2.f1).length c133_3] 42 (0, 0)) (ba BK134.out) hg (Kd.N_ne HO_5.out BK134.out (by decide))); have n6_ := Aside0.mk (hb); have n7_ := Aside0.mk (ho); clear HO_9; clear HO_132000; clear BK131; clear BK132; clear HL133_3; clear BK134; clear HB; clear HO_5; have HO_9 := n0_; have HO_132000 := n1_; have BK131 := n2_; have BK132 := n3_; have HL133_3 := n4_; have BK134 := n5_; have HB := n6_; have HO137 := n7_; clear n0_ n1_ n2_ n3_ n4_ n5_ n6_ n7_; clear ho hb hg hat))
                go_roundg k1
                case measure => have := HK1.out; omega
                case rel => exact ⟨(y135), (wrap64 (x11_1 + 1)), (fr), H', ⟨by have := HK1.out; omega⟩, ⟨by refine rad ?_; exact Kd.N_mono HO137.out (fun _ hk => ⟨hk.1, ⟨hk.2.1, hk.2.2.1⟩⟩)⟩, ⟨by refine rad ?_; exact Kd.V_mono HO_9.out (fun _ hk => ⟨hk.1.1, ⟨hk.2, ⟨hk.1.2.1, hk.1.2.2.1⟩⟩⟩)⟩, ⟨by refine rad ?_; exact Kd.V_mono HO_132000.out (fun _ hk => ⟨hk.1.1, ⟨hk.2, ⟨hk.1.2.1, hk.1.2.2.1⟩⟩⟩)⟩, ⟨ba BK131.out⟩, ⟨ba BK132.out⟩, ⟨bl HB⟩⟩
              · rw [if_neg c11] at H
                exact absurd H (by simp)
            · rw [if_neg c10] at H
              have c10b0 : (((rd_T42 l0_0 x11_1).f1) == a1) = false := beq_eq_false_iff_ne.mpr c10
              have c10b1 : (((rd_T42 l0_0 x11_1).f1) != a1) = true := bne_iff_ne.mpr c10
              have H' := Aside0.mk H
              clear H
              have p133 : 0 ≤ (x11_1 : Int) := od
              have q133 : x11_1 < (l0_0.length : Int) := od
              obtain ⟨ad133, A133_3, c133_3, e133, hx133_0, hx133_1, hx133_2, hx133_3, hl133_3, hi133_3⟩ := at_T42 (Kd.V_reads' HO_9.out).2.2 x11_1 p133 q133
              cases e133
              obtain ⟨ce133, hce133, hMe133, hcc133⟩ := Kd.V_get HO_9.out z42 x11_1 p133 (by first | exact q133 | exact od | (have e_ := (Kd.V_reads' HO_9.out).1; omega))
              obtain ⟨ua133_3, uc133_3, rfl, ul133_3, ge133_3⟩ := k42_openF hMe133
              have hv133_3 := hcc133 3 _ rfl
              rw [add_field _ _ 3 (by omega)] at hv133_3
              replace hv133_3 := Option.some.inj (hv133_3.symm.trans hx133_3)
              injection hv133_3 with hva_ hvn_ hvc_
              rw [hva_] at ge133_3
              rw [hvc_] at ul133_3
              have HL133_3 := Aside0.mk (show Kd.V (Kd.int .u32) 23 _ w.heap.size _ _ ((rd_T42 l0_0 x11_1).f2.f1) from Kd.V_mk ul133_3 ge133_3)
              clear hva_ hvn_ hvc_ ge133_3 ul133_3
              clear hcc133 hce133
              have HR133_3 := Aside0.mk hi133_3
              have HC133_3 := Aside0.mk hl133_3
              clear hi133_3 hl133_3
              replace p133 := eq_true p133
              replace q133 := eq_true q133
              go_wp2_with (first | ((with_reducible refine gate_dst (N := 7) rfl ?_); refine bxn (cs := #[.int .i64 0, .int .u32 0, .bool false, .slice none 0 0]) (t := 42) ?_; intro gb134 hg w19 hbox hb; have n0_ := Aside0.mk (Kd.N_below (Kd.N_elderB (rad HO_5.out) gb134 (Nat.le_of_eq hg.symm)) hb); have n1_ := Aside0.mk (Kd.V_below (Kd.V_elderB (rad HO_9.out) gb134 (Nat.le_of_eq hg.symm)) hb); have n2_ := Aside0.mk (Kd.V_below (Kd.V_elderB (rad HO_132000.out) gb134 (Nat.le_of_eq hg.symm)) hb); have n3_ := Aside0.mk (Kd.V_below (Kd.V_elderB (rad HL133_3.out) gb134 (Nat.le_of_eq hg.symm)) hb); have n4_ := Aside0.mk (blk_below (g := gb131) (o := .cells #[.slice (some ad133) l0_0.length c0_0] 40 (0, 0)) (ba BK131.out) hb); have n5_ := Aside0.mk (blk_below (g := gb132) (o := .cells #[.bool false, .slice none 0 0] 26 (0, 0)) (ba BK132.out) hb); have n6_ := Aside0.mk (Kd.C_below (by repeat (first | (with_reducible exact HR133_3.out) | (with_reducible refine Kd.C_alloc ?_ _) | (with_reducible refine Kd.C_drewN ?_ _) | (with_reducible refine Kd.C_drew ?_) | exact HR133_3.out)) hb); have n7_ := Aside0.mk (below_step (bl HB) hb); have n8_ := Aside0.mk (hbox); have n9_ := Aside0.mk ((by rw [hg]; exact (below_size (bl HB)) : w.heap.size ≤ gb134)); have n10_ := Aside0.mk ((by rw [hg]; exact (below_size (bl HB)) : w.heap.size ≤ gb134)); have n11_ := Aside0.mk ((by rw [hg]; exact Nat.ne_of_lt (blk_lt (g := gb131) (o := .cells #[.slice (some ad133) l0_0.length c0_0] 40 (0, 0)) (ba BK131.out)) : gb131 ≠ gb134)); have n12_ := Aside0.mk ((by rw [hg]; exact Nat.ne_of_gt (blk_lt (g := gb131) (o := .cells #[.slice (some ad133) l0_0.length c0_0] 40 (0, 0)) (ba BK131.out)) : gb134 ≠ gb131)); have n13_ := Aside0.mk ((by rw [hg]; exact Nat.ne_of_lt (blk_lt (g := gb132) (o := .cells #[.bool false, .slice none 0 0] 26 (0, 0)) (ba BK132.out)) : gb132 ≠ gb134)); have n14_ := Aside0.mk ((by rw [hg]; exact Nat.ne_of_gt (blk_lt (g := gb132) (o := .cells #[.bool false, .slice none 0 0] 26 (0, 0)) (ba BK132.out)) : gb134 ≠ gb132)); clear HO_5; clear HO_9; clear HO_132000; clear HL133_3; clear BK131; clear BK132; clear HR133_3; clear HB; have HO_5 := n0_; have HO_9 := n1_; have HO_132000 := n2_; have HL133_3 := n3_; have BK131 := n4_; have BK132 := n5_; have HR133_3 := n6_; have HB := n7_; have BK134 := n8_; have GW134 := n9_; have GE134 := n10_; have NB131_134 := n11_; have NB134_131 := n12_; have NB132_134 := n13_; have NB134_132 := n14_; clear n0_ n1_ n2_ n3_ n4_ n5_ n6_ n7_ n8_ n9_ n10_ n11_ n12_ n13_ n14_; clear hb hbox hg; have hnb20 := NB134_131.out; have hnc20 := NB131_134.out; have hnb21 := NB134_132.out; have hnc21 := NB132_134.out; obtain ⟨hcz22_0, hcz22_1, hcz22_2, hcz22_3, hfz22_0, hfz22_1, hfz22_2, hfz22_3⟩ := cf4 BK134.out))
              go_roundg k1
              case measure => have := HK1.out; omega
              case rel => exact ⟨(x5_1), (wrap64 (x11_1 + 1)), (fr), H', ⟨by have := HK1.out; omega⟩, ⟨by refine rad ?_; exact Kd.N_mono (Kd.N_far (p := ⟨gb134, 3, none⟩) (Kd.N_far (p := ⟨gb134, 2, none⟩) (Kd.N_far (p := ⟨gb134, 1, none⟩) (Kd.N_far (p := ⟨gb134, 0, none⟩) (Kd.N_mono HO_5.out (fun k_ hk => (⟨hk, hk.2⟩ : _ ∧ k_ ≠ gb134))) (fun _ hk => hk.2) (.int .i64 ((rd_T42 l0_0 x11_1).f0))) (fun _ hk => hk.2) (.int .u32 ((rd_T42 l0_0 x11_1).f1))) (fun _ hk => hk.2) (.bool ((rd_T42 l0_0 x11_1).f2.f0))) (fun _ hk => hk.2) (.slice A133_3 ((rd_T42 l0_0 x11_1).f2.f1).length c133_3)) (fun _ hk => ⟨hk.1.1.1, ⟨hk.1.1.2.1, hk.1.1.2.2⟩⟩)⟩, ⟨by refine rad ?_; exact Kd.V_mono (Kd.V_far (p := ⟨gb134, 3, none⟩) (Kd.V_far (p := ⟨gb134, 2, none⟩) (Kd.V_far (p := ⟨gb134, 1, none⟩) (Kd.V_far (p := ⟨gb134, 0, none⟩) (Kd.V_mono HO_9.out (fun k_ hk => (⟨hk, hk.2⟩ : _ ∧ k_ ≠ gb134))) (fun _ hk => hk.2) (.int .i64 ((rd_T42 l0_0 x11_1).f0))) (fun _ hk => hk.2) (.int .u32 ((rd_T42 l0_0 x11_1).f1))) (fun _ hk => hk.2) (.bool ((rd_T42 l0_0 x11_1).f2.f0))) (fun _ hk => hk.2) (.slice A133_3 ((rd_T42 l0_0 x11_1).f2.f1).length c133_3)) (fun _ hk => ⟨hk.1.1.1, ⟨hk.1.1.2.1, ⟨hk.1.1.2.2.1, hk.1.1.2.2.2⟩⟩⟩)⟩, ⟨by refine rad ?_; exact Kd.V_mono (Kd.V_far (p := ⟨gb134, 3, none⟩) (Kd.V_far (p := ⟨gb134, 2, none⟩) (Kd.V_far (p := ⟨gb134, 1, none⟩) (Kd.V_far (p := ⟨gb134, 0, none⟩) (Kd.V_mono HO_132000.out (fun k_ hk => (⟨hk, hk.2⟩ : _ ∧ k_ ≠ gb134))) (fun _ hk => hk.2) (.int .i64 ((rd_T42 l0_0 x11_1).f0))) (fun _ hk => hk.2) (.int .u32 ((rd_T42 l0_0 x11_1).f1))) (fun _ hk => hk.2) (.bool ((rd_T42 l0_0 x11_1).f2.f0))) (fun _ hk => hk.2) (.slice A133_3 ((rd_T42 l0_0 x11_1).f2.f1).length c133_3)) (fun _ hk => ⟨hk.1.1.1, ⟨hk.1.1.2.1, ⟨hk.1.1.2.2.1, hk.1.1.2.2.2⟩⟩⟩)⟩, ⟨by refine ba ?_; refine blk_far ?_ NB131_134.out _; refine ba ?_; refine blk_far ?_ NB131_134.out _; refine ba ?_; refine blk_far ?_ NB131_134.out _; refine ba ?_; refine blk_far ?_ NB131_134.out _; refine ba ?_; exact BK131.out⟩, ⟨by refine ba ?_; refine blk_far ?_ NB132_134.out _; refine ba ?_; refine blk_far ?_ NB132_134.out _; refine ba ?_; refine blk_far ?_ NB132_134.out _; refine ba ?_; refine blk_far ?_ NB132_134.out _; refine ba ?_; exact BK132.out⟩, ⟨bl HB⟩⟩
          · rw [if_neg c9] at H
            exact absurd H (by simp)
        · rw [if_neg c8] at H
          exact absurd H (by simp)
      · rw [if_neg c7] at H
        have c7b0 : decide (x11_1 < (l0_0.length : Int)) = false := decide_eq_false c7
        clear c7
        replace H := Option.bind_eq_some_iff.mp H
        obtain ⟨⟨t138, t139⟩, A230, H⟩ := H
        replace H : (some (t138, t139)) = some (r1, r2) := H
        have A23 := Aside0.mk A230
        clear A230
        simp only [Option.some.injEq, Prod.mk.injEq] at H
        obtain ⟨rfl, rfl⟩ := H
        obtain ⟨Ao24, co24, eo24⟩ := Kd.N_slice HO_5.out
        subst eo24
        go_wp2_with (first | ((with_reducible refine gate_callee (f := 35) rfl ?_); refine goesL_ (some 26) rfl rfl Try.func35 (by kernel_rfl) rfl #[.slice Ao24 x5_1.length co24] rfl (by (try simp only [List.map_toArray, List.map_cons, List.map_nil]); first | done | rfl | (simp only [List.length_drop, List.length_take]; rfl)) ?_; (with_reducible refine (set_Filter.calls k1 (fun k_ => ((P0_0_ k_ ∨ w.heap.size ≤ k_) ∧ (k_ ≠ gb131 ∧ k_ ≠ gb132))) _ _ x5_1 t138 t139 _ ?side1 A23.out).mono ?_); (case side1 => exact Kd.N_V (HO_5.out)); rintro e w25 ⟨v140, rfl, ho0, hb⟩; refine ⟨_, rfl, ?_⟩; have n0_ := Aside0.mk (Kd.N_elder' (rad HO_5.out) (Kd.R_base ho0) hb); have n1_ := Aside0.mk (Kd.V_elder' (rad HO_9.out) (Kd.R_base ho0) hb); have n2_ := Aside0.mk (Kd.V_elder' (rad HO_132000.out) (Kd.R_base ho0) hb); have n3_ := Aside0.mk (Kd.R_lower (Kd.R_newM (M := fun k_ => (w.heap.size ≤ k_)) (Kd.R_mono (ok' := fun k_ => True) ho0 (fun _ hk_ => trivial)) (below_size (bl HB)) (fun k_ h_ => h_)) (below_size (bl HB))); have n4_ := Aside0.mk (blk_below (g := gb131) (o := .cells #[.slice A0_0 l0_0.length c0_0] 40 (0, 0)) (ba BK131.out) hb); have n5_ := Aside0.mk (blk_below (g := gb132) (o := .cells #[.bool false, .slice none 0 0] 26 (0, 0)) (ba BK132.out) hb); have n6_ := Aside0.mk (below_step (bl HB) hb); clear HO_5; clear HO_9; clear HO_132000; clear BK131; clear BK132; clear HB; have HO_5 := n0_; have HO_9 := n1_; have HO_132000 := n2_; have HO141 := n3_; have BK131 := n4_; have BK132 := n5_; have HB := n6_; clear n0_ n1_ n2_ n3_ n4_ n5_ n6_; (try clear hb); (try clear hb2); (try clear hk); (try clear hi); (try clear ho0); have hnb26 := NB132_131.out; have hnc26 := NB131_132.out; obtain ⟨hcz27_0, hcz27_1, hfz27_0, hfz27_1⟩ := cf2 BK132.out; obtain ⟨Ao28, co28, eo28⟩ := Kd.R_slice HO141.out; subst eo28))
        refine bodyPost_ret (results_cell_row rfl _ _ gb132 26 #[.bool t138, .slice Ao28 t139.length co28] (0, 0) _ rfl (by refine ba ?_; refine blk_put (cs := #[.bool t138, .slice none 0 0]) ?_ 1 _ rfl; refine ba ?_; refine blk_put (cs := #[.bool false, .slice none 0 0]) ?_ 0 _ rfl; refine ba ?_; exact BK132.out) Try.underlying26 rfl (by kernel_rfl)) rfl ?_
        exact ⟨_, by first | rfl | (simp [errW_none, errW_some] <;> rfl) | (simp [*, errW_none, errW_some] <;> rfl), by refine rad ?_; exact Kd.R_mono (Kd.R_far (p := ⟨gb132, 1, none⟩) (Kd.R_far (p := ⟨gb132, 0, none⟩) (Kd.R_types HO141.out BK132.out (by decide)) (fun _ hk => hk.2) (.bool t138)) (fun _ hk => hk.2) (.slice Ao28 t139.length co28)) (fun _ hk => hk.1.1), bl HB⟩

end Go.Proofs.Ytjncmiclpaodhaa.PHo
