-- written by a program of this session (hprint.py), over the kit's printer
import Derived.Test.YtbllchfgjginoaaSoJ
import Derived.Test.YtbllchfgjginoaaPMf4
import Derived.Test.YtbllchfgjginoaaPMf2
namespace Go.Proofs.Ytbllchfgjginoaa.PMe
open Go.RowKit Go.Proofs.YtbllchfgjginoaaW.PrintWords Go.Proofs.YtbllchfgjginoaaW.PrintLast Go.Proofs.YtbllchfgjginoaaW.PrintMore
attribute [local go_sem] max2_int min2_int max_two min_two max_three min_three max_four min_four   -- for this text's walks alone
set_option linter.unusedVariables false
set_option linter.unusedSimpArgs false

/-! ### stolonref08_Right: function 11 -/
mutual
def stolonref08_Right.j0 : Nat → Bool → Int → Bool → Int → List (S49) → Option (Bool)
  | 0, _, _, _, _, _ => none
  | k + 1, x16, x109000, x109001, x109002, x109003 => if x16 = true then (some false) else (if x109001 = true then (if x109002 < 1 then (stolonref08_Right.j1 k true x109000 x109001 x109002 x109003) else (if x109002 > 1000000 then (stolonref08_Right.j1 k true x109000 x109001 x109002 x109003) else (stolonref08_Right.j1 k false x109000 x109001 x109002 x109003))) else (stolonref08_Right.j1 k (x109002 != 0) x109000 x109001 x109002 x109003))
def stolonref08_Right.j1 : Nat → Bool → Int → Bool → Int → List (S49) → Option (Bool)
  | 0, _, _, _, _, _ => none
  | k + 1, x38, x109000, x109001, x109002, x109003 => if x38 = true then (some false) else (stolonref08_Right.l0 k 0 x109000 x109001 x109002 x109003)
def stolonref08_Right.l0 : Nat → Int → Int → Bool → Int → List (S49) → Option (Bool)
  | 0, _, _, _, _, _ => none
  | k + 1, x4, x109000, x109001, x109002, x109003 => if x4 < (x109003.length : Int) then (if 0 ≤ x4 then (if ((rd_T49 x109003 x4).f1) < 0 then (some false) else (if ((rd_T49 x109003 x4).f1) > 1000000 then (some false) else (if ((rd_T49 x109003 x4).f1) = 0 then (if x109001 = true then (if x4 > 0 then (if 0 ≤ (wrap64 (x4 - 1)) then (if (wrap64 (x4 - 1)) < (x109003.length : Int) then (if ((rd_T49 x109003 x4).f0) ≤ ((rd_T49 x109003 (wrap64 (x4 - 1))).f0) then (some false) else (stolonref08_Right.l0 k (wrap64 (x4 + 1)) x109000 x109001 x109002 x109003)) else (none)) else (none)) else (stolonref08_Right.l0 k (wrap64 (x4 + 1)) x109000 x109001 x109002 x109003)) else (some false)) else (if x4 > 0 then (if 0 ≤ (wrap64 (x4 - 1)) then (if (wrap64 (x4 - 1)) < (x109003.length : Int) then (if ((rd_T49 x109003 x4).f0) ≤ ((rd_T49 x109003 (wrap64 (x4 - 1))).f0) then (some false) else (stolonref08_Right.l0 k (wrap64 (x4 + 1)) x109000 x109001 x109002 x109003)) else (none)) else (none)) else (stolonref08_Right.l0 k (wrap64 (x4 + 1)) x109000 x109001 x109002 x109003))))) else (none)) else (some true)
end
def stolonref08_Right.f (k : Nat) (a0_0 : Int) (a0_1 : Bool) (a0_2 : Int) (l0_3 : List (S49)) : Option (Bool) := (stolonref01_Asked.f a0_0).bind fun t109 => (if t109 = true then (stolonref08_Right.j0 k (decide ((l0_3.length : Int) > 64)) a0_0 a0_1 a0_2 l0_3) else (stolonref08_Right.j0 k true a0_0 a0_1 a0_2 l0_3))
theorem stolonref08_Right.mono_l : ∀ k, (∀ y0 y1 y2 y3 y4, LeO (stolonref08_Right.j0 k y0 y1 y2 y3 y4) (stolonref08_Right.j0 (k + 1) y0 y1 y2 y3 y4)) ∧ (∀ y0 y1 y2 y3 y4, LeO (stolonref08_Right.j1 k y0 y1 y2 y3 y4) (stolonref08_Right.j1 (k + 1) y0 y1 y2 y3 y4)) ∧ (∀ y0 y1 y2 y3 y4, LeO (stolonref08_Right.l0 k y0 y1 y2 y3 y4) (stolonref08_Right.l0 (k + 1) y0 y1 y2 y3 y4))
  | 0 => ⟨fun _ _ _ _ _ r h => by simp [stolonref08_Right.j0] at h, fun _ _ _ _ _ r h => by simp [stolonref08_Right.j1] at h, fun _ _ _ _ _ r h => by simp [stolonref08_Right.l0] at h⟩
  | k + 1 => by
    obtain ⟨ih0, ih1, ih2⟩ := stolonref08_Right.mono_l k
    refine ⟨?_, ?_, ?_⟩
    · intro y0 y1 y2 y3 y4
      unfold stolonref08_Right.j0
      repeat' first
      | (with_reducible exact ih0 _ _ _ _ _)
      | (with_reducible exact ih1 _ _ _ _ _)
      | (with_reducible exact ih2 _ _ _ _ _)
      | (with_reducible exact LeO.refl _)
      | (with_reducible exact LeO.none _)
      | (with_reducible refine LeO.ite ?_ ?_)
      | (with_reducible refine LeO.bind ?_ (fun _ => ?_))
      | exact ih0 _ _ _ _ _
      | exact ih1 _ _ _ _ _
      | exact ih2 _ _ _ _ _
      | exact LeO.none _
      | refine LeO.ite ?_ ?_
      | refine LeO.bind ?_ (fun _ => ?_)
    · intro y0 y1 y2 y3 y4
      unfold stolonref08_Right.j1
      repeat' first
      | (with_reducible exact ih0 _ _ _ _ _)
      | (with_reducible exact ih1 _ _ _ _ _)
      | (with_reducible exact ih2 _ _ _ _ _)
      | (with_reducible exact LeO.refl _)
      | (with_reducible exact LeO.none _)
      | (with_reducible refine LeO.ite ?_ ?_)
      | (with_reducible refine LeO.bind ?_ (fun _ => ?_))
      | exact ih0 _ _ _ _ _
      | exact ih1 _ _ _ _ _
      | exact ih2 _ _ _ _ _
      | exact LeO.none _
      | refine LeO.ite ?_ ?_
      | refine LeO.bind ?_ (fun _ => ?_)
    · intro y0 y1 y2 y3 y4
      unfold stolonref08_Right.l0
      repeat' first
      | (with_reducible exact ih0 _ _ _ _ _)
      | (with_reducible exact ih1 _ _ _ _ _)
      | (with_reducible exact ih2 _ _ _ _ _)
      | (with_reducible exact LeO.refl _)
      | (with_reducible exact LeO.none _)
      | (with_reducible refine LeO.ite ?_ ?_)
      | (with_reducible refine LeO.bind ?_ (fun _ => ?_))
      | exact ih0 _ _ _ _ _
      | exact ih1 _ _ _ _ _
      | exact ih2 _ _ _ _ _
      | exact LeO.none _
      | refine LeO.ite ?_ ?_
      | refine LeO.bind ?_ (fun _ => ?_)
theorem stolonref08_Right.mono : ∀ a0 a1 a2 a3 k, LeO (stolonref08_Right.f k a0 a1 a2 a3) (stolonref08_Right.f (k + 1) a0 a1 a2 a3) := by
  intro a0 a1 a2 a3 k
  obtain ⟨ih0, ih1, ih2⟩ := stolonref08_Right.mono_l k
  unfold stolonref08_Right.f
  repeat' first
      | (with_reducible exact ih0 _ _ _ _ _)
      | (with_reducible exact ih1 _ _ _ _ _)
      | (with_reducible exact ih2 _ _ _ _ _)
      | (with_reducible exact LeO.refl _)
      | (with_reducible exact LeO.none _)
      | (with_reducible refine LeO.ite ?_ ?_)
      | (with_reducible refine LeO.bind ?_ (fun _ => ?_))
      | exact ih0 _ _ _ _ _
      | exact ih1 _ _ _ _ _
      | exact ih2 _ _ _ _ _
      | exact LeO.none _
      | refine LeO.ite ?_ ?_
      | refine LeO.bind ?_ (fun _ => ?_)
set_option maxHeartbeats 8000000 in
set_option maxRecDepth 100000 in
theorem stolonref08_Right.calls (k : Nat) (a0_0 : Int) (a0_1 : Bool) (a0_2 : Int) (A0_3 : Option Addr) (c0_3 : Nat) (l0_3 : List (S49)) (r : Bool) (w : World) (hr0_3 : Kd.C k49 w A0_3 l0_3.length l0_3) (hc0_3 : l0_3.length ≤ c0_3) (h : stolonref08_Right.f k a0_0 a0_1 a0_2 l0_3 = some r) :
    Calls Try.prog 11 #[.agg #[.int .u32 a0_0, .bool a0_1, .int .i64 a0_2, .slice A0_3 l0_3.length c0_3]] w fun e w' => e = .returned (.bool r) ∧ Below w.heap.size w w' := by
  have hu28 := Try.underlying28
  have HR0_3 := Aside0.mk hr0_3
  have HC0_3 := Aside0.mk hc0_3
  clear hr0_3 hc0_3
  have HB := Aside0.mk (Below.refl w.heap.size w)
  have H : ((stolonref01_Asked.f a0_0).bind fun t109 => (if t109 = true then (stolonref08_Right.j0 k (decide ((l0_3.length : Int) > 64)) a0_0 a0_1 a0_2 l0_3) else (stolonref08_Right.j0 k true a0_0 a0_1 a0_2 l0_3))) = some r := h
  clear h
  replace H := Option.bind_eq_some_iff.mp H
  obtain ⟨t109, A20, H⟩ := H
  replace H : (if t109 = true then (stolonref08_Right.j0 k (decide ((l0_3.length : Int) > 64)) a0_0 a0_1 a0_2 l0_3) else (stolonref08_Right.j0 k true a0_0 a0_1 a0_2 l0_3)) = some r := H
  have A2 := Aside0.mk A20
  clear A20
  have HC3 := Aside0.mk H
  clear H
  go_enter Try.func11, Try.ntmps11
  go_upto_region 2 with (first | ((with_reducible refine gate_dst (N := 1) rfl ?_); (try (refine gate_guard (by rfl) ?_; dsimp only)); refine bxn (cs := #[.int .u32 a0_0, .bool a0_1, .int .i64 a0_2, .slice A0_3 l0_3.length c0_3]) (t := 28) ?_; intro gb108 hg w4 hbox hb; have BK108 := Aside0.mk (hbox); have GW108 := Aside0.mk ((by rw [hg]; exact (below_size (bl HB)) : w.heap.size ≤ gb108)); have GE108 := Aside0.mk ((by rw [hg]; exact (below_size (bl HB)) : w.heap.size ≤ gb108)); replace HB := Aside0.mk (below_step (bl HB) hb); clear hb hbox hg; obtain ⟨hcz5_0, hcz5_1, hcz5_2, hcz5_3, hfz5_0, hfz5_1, hfz5_2, hfz5_3⟩ := cf4 BK108.out) | (go_at_call 22; (with_reducible refine (stolonref01_Asked.calls a0_0 t109 _ A2.out).mono ?_); rintro e w' ⟨rfl, ⟨nd, rfl⟩⟩; (try first | exact ⟨rfl, _, World.drewN_drewN _ _ _⟩ | exact ⟨rfl, _, Eq.trans (World.drewN_drewN _ _ _) (congrArg (World.drewN _) (Nat.add_assoc _ _ _))⟩)))
  repeat (go_quiet (first | ((with_reducible refine gate_dst (N := 1) rfl ?_); (try (refine gate_guard (by rfl) ?_; dsimp only)); refine bxn (cs := #[.int .u32 a0_0, .bool a0_1, .int .i64 a0_2, .slice A0_3 l0_3.length c0_3]) (t := 28) ?_; intro gb108 hg w4 hbox hb; have BK108 := Aside0.mk (hbox); have GW108 := Aside0.mk ((by rw [hg]; exact (below_size (bl HB)) : w.heap.size ≤ gb108)); have GE108 := Aside0.mk ((by rw [hg]; exact (below_size (bl HB)) : w.heap.size ≤ gb108)); replace HB := Aside0.mk (below_step (bl HB) hb); clear hb hbox hg; obtain ⟨hcz5_0, hcz5_1, hcz5_2, hcz5_3, hfz5_0, hfz5_1, hfz5_2, hfz5_3⟩ := cf4 BK108.out) | (go_at_call 22; (with_reducible refine (stolonref01_Asked.calls a0_0 t109 _ A2.out).mono ?_); rintro e w' ⟨rfl, ⟨nd, rfl⟩⟩; (try first | exact ⟨rfl, _, World.drewN_drewN _ _ _⟩ | exact ⟨rfl, _, Eq.trans (World.drewN_drewN _ _ _) (congrArg (World.drewN _) (Nat.add_assoc _ _ _))⟩))); go_upto_region 2 with (first | ((with_reducible refine gate_dst (N := 1) rfl ?_); (try (refine gate_guard (by rfl) ?_; dsimp only)); refine bxn (cs := #[.int .u32 a0_0, .bool a0_1, .int .i64 a0_2, .slice A0_3 l0_3.length c0_3]) (t := 28) ?_; intro gb108 hg w4 hbox hb; have BK108 := Aside0.mk (hbox); have GW108 := Aside0.mk ((by rw [hg]; exact (below_size (bl HB)) : w.heap.size ≤ gb108)); have GE108 := Aside0.mk ((by rw [hg]; exact (below_size (bl HB)) : w.heap.size ≤ gb108)); replace HB := Aside0.mk (below_step (bl HB) hb); clear hb hbox hg; obtain ⟨hcz5_0, hcz5_1, hcz5_2, hcz5_3, hfz5_0, hfz5_1, hfz5_2, hfz5_3⟩ := cf4 BK108.out) | (go_at_call 22; (with_reducible refine (stolonref01_Asked.calls a0_0 t109 _ A2.out).mono ?_); rintro e w' ⟨rfl, ⟨nd, rfl⟩⟩; (try first | exact ⟨rfl, _, World.drewN_drewN _ _ _⟩ | exact ⟨rfl, _, Eq.trans (World.drewN_drewN _ _ _) (congrArg (World.drewN _) (Nat.add_assoc _ _ _))⟩))))
  (try simp only [Act.put, List.setIfInBounds_toArray, List.set_cons_zero, List.set_cons_succ])
  go_cut [16] (fun v16 wc => ∃ (kq : Nat) (x16_2 : Bool), v16 = .bool x16_2 ∧ Aside0 (stolonref08_Right.j0 kq x16_2 a0_0 a0_1 a0_2 l0_3 = some r) ∧ Aside0 (kq ≤ k) ∧ Aside0 (wc.heap[gb108]? = some (.cells #[.int .u32 a0_0, .bool a0_1, .int .i64 a0_2, (.slice A0_3 l0_3.length c0_3)] 28 (0, 0))) ∧ Aside0 (Below w.heap.size w wc))
  case first =>
    have H := HC3.out
    clear HC3
    by_cases c6 : t109 = true
    · subst c6
      replace H : (stolonref08_Right.j0 k (decide ((l0_3.length : Int) > 64)) a0_0 a0_1 a0_2 l0_3) = some r := by rw [if_pos rfl] at H; exact H
      have H' := Aside0.mk H
      clear H
      obtain ⟨hcz7_0, hcz7_1, hcz7_2, hcz7_3, hfz7_0, hfz7_1, hfz7_2, hfz7_3⟩ := cf4 BK108.out
      go_wp2
      repeat (go_quiet (fail); try go_wp2)
      go_meet
      case rel => exact ⟨_, (decide ((l0_3.length : Int) > 64)), (fr), H', ⟨by first | omega | exact Nat.le_refl _⟩, ⟨ba BK108.out⟩, ⟨bl HB⟩⟩
    · replace c6 := Bool.eq_false_iff.mpr c6
      subst c6
      replace H : (stolonref08_Right.j0 k true a0_0 a0_1 a0_2 l0_3) = some r := by rw [if_neg (show ¬ (false = true) by decide)] at H; exact H
      have H' := Aside0.mk H
      clear H
      go_wp2
      repeat (go_quiet (fail); try go_wp2)
      go_meet
      case rel => exact ⟨_, (true), (fr), H', ⟨by first | omega | exact Nat.le_refl _⟩, ⟨ba BK108.out⟩, ⟨bl HB⟩⟩
  case rest =>
    clear HC3
    try clear c1
    try clear p2
    try clear c6
    try clear hcz5_0
    try clear hcz5_1
    try clear hcz5_2
    try clear hcz5_3
    try clear hcz7_0
    try clear hcz7_1
    try clear hcz7_2
    try clear hcz7_3
    try clear hfz5_0
    try clear hfz5_1
    try clear hfz5_2
    try clear hfz5_3
    try clear hfz7_0
    try clear hfz7_1
    try clear hfz7_2
    try clear hfz7_3
    obtain ⟨kq, x16_2, rfl, HA, HJ2, BK108, HB⟩ := hcut
    cases kq with
    | zero => exact absurd HA.out (by simp [stolonref08_Right.j0])
    | succ kj2 =>
      have H := HA.out
      clear HA
      simp only [stolonref08_Right.j0] at H
      by_cases c8 : x16_2 = true
      · subst c8
        replace H : (some false) = some r := by rw [if_pos rfl] at H; exact H
        obtain rfl := Option.some.inj H
        go_wp2
        repeat (go_quiet (fail); try go_wp2)
        go_ret
        exact ⟨by first | rfl | (simp [errW_none, errW_some] <;> rfl) | (simp [*, errW_none, errW_some] <;> rfl), bl HB⟩
      · replace c8 := Bool.eq_false_iff.mpr c8
        subst c8
        replace H : (if a0_1 = true then (if a0_2 < 1 then (stolonref08_Right.j1 kj2 true a0_0 a0_1 a0_2 l0_3) else (if a0_2 > 1000000 then (stolonref08_Right.j1 kj2 true a0_0 a0_1 a0_2 l0_3) else (stolonref08_Right.j1 kj2 false a0_0 a0_1 a0_2 l0_3))) else (stolonref08_Right.j1 kj2 (a0_2 != 0) a0_0 a0_1 a0_2 l0_3)) = some r := by rw [if_neg (show ¬ (false = true) by decide)] at H; exact H
        have HC9 := Aside0.mk H
        clear H
        go_upto_region 4 with (fail)
        repeat (go_quiet (fail); go_upto_region 4 with (fail))
        go_cut [38] (fun v38 wc => ∃ (kq : Nat) (x38_8 : Bool), v38 = .bool x38_8 ∧ Aside0 (stolonref08_Right.j1 kq x38_8 a0_0 a0_1 a0_2 l0_3 = some r) ∧ Aside0 (kq ≤ kj2) ∧ Aside0 (wc.heap[gb108]? = some (.cells #[.int .u32 a0_0, .bool a0_1, .int .i64 a0_2, (.slice A0_3 l0_3.length c0_3)] 28 (0, 0))) ∧ Aside0 (Below w.heap.size w wc))
        case first =>
          have H := HC9.out
          clear HC9
          by_cases c10 : a0_1 = true
          · subst c10
            replace H : (if a0_2 < 1 then (stolonref08_Right.j1 kj2 true a0_0 true a0_2 l0_3) else (if a0_2 > 1000000 then (stolonref08_Right.j1 kj2 true a0_0 true a0_2 l0_3) else (stolonref08_Right.j1 kj2 false a0_0 true a0_2 l0_3))) = some r := by rw [if_pos rfl] at H; exact H
            by_cases c11 : a0_2 < 1
            · rw [if_pos c11] at H
              have c11b0 : decide (a0_2 < 1) = true := decide_eq_true c11
              clear c11
              (first | rw [c11b0] | (simp only [i64_w, i32_w]; rw [c11b0]) | skip)
              have H' := Aside0.mk H
              clear H
              obtain ⟨hcz12_0, hcz12_1, hcz12_2, hcz12_3, hfz12_0, hfz12_1, hfz12_2, hfz12_3⟩ := cf4 BK108.out
              go_wp2
              repeat (go_quiet (fail); try go_wp2)
              go_meet
              case rel => exact ⟨_, (true), (fr), H', ⟨by have := HJ2.out; first | omega | exact Nat.le_refl _⟩, ⟨ba BK108.out⟩, ⟨bl HB⟩⟩
            · rw [if_neg c11] at H
              have c11b0 : decide (a0_2 < 1) = false := decide_eq_false c11
              clear c11
              (first | rw [c11b0] | (simp only [i64_w, i32_w]; rw [c11b0]) | skip)
              by_cases c13 : a0_2 > 1000000
              · rw [if_pos c13] at H
                have c13b0 : decide (1000000 < a0_2) = true := decide_eq_true c13
                clear c13
                have H' := Aside0.mk H
                clear H
                obtain ⟨hcz14_0, hcz14_1, hcz14_2, hcz14_3, hfz14_0, hfz14_1, hfz14_2, hfz14_3⟩ := cf4 BK108.out
                go_wp2
                repeat (go_quiet (fail); try go_wp2)
                go_meet
                case rel => exact ⟨_, (true), (fr), H', ⟨by have := HJ2.out; first | omega | exact Nat.le_refl _⟩, ⟨ba BK108.out⟩, ⟨bl HB⟩⟩
              · rw [if_neg c13] at H
                have c13b0 : decide (1000000 < a0_2) = false := decide_eq_false c13
                clear c13
                have H' := Aside0.mk H
                clear H
                obtain ⟨hcz15_0, hcz15_1, hcz15_2, hcz15_3, hfz15_0, hfz15_1, hfz15_2, hfz15_3⟩ := cf4 BK108.out
                go_wp2
                repeat (go_quiet (fail); try go_wp2)
                go_meet
                case rel => exact ⟨_, (false), (fr), H', ⟨by have := HJ2.out; first | omega | exact Nat.le_refl _⟩, ⟨ba BK108.out⟩, ⟨bl HB⟩⟩
          · replace c10 := Bool.eq_false_iff.mpr c10
            subst c10
            replace H : (stolonref08_Right.j1 kj2 (a0_2 != 0) a0_0 false a0_2 l0_3) = some r := by rw [if_neg (show ¬ (false = true) by decide)] at H; exact H
            have H' := Aside0.mk H
            clear H
            obtain ⟨hcz16_0, hcz16_1, hcz16_2, hcz16_3, hfz16_0, hfz16_1, hfz16_2, hfz16_3⟩ := cf4 BK108.out
            go_wp2
            repeat (go_quiet (fail); try go_wp2)
            go_meet
            case rel => exact ⟨_, ((a0_2 != 0)), (fr), H', ⟨by have := HJ2.out; first | omega | exact Nat.le_refl _⟩, ⟨ba BK108.out⟩, ⟨bl HB⟩⟩
        case rest =>
          clear HC9
          try clear c1
          try clear p2
          try clear c6
          try clear c8
          try clear c10
          try clear c11
          try clear c11b0
          try clear c13
          try clear c13b0
          try clear hcz12_0
          try clear hcz12_1
          try clear hcz12_2
          try clear hcz12_3
          try clear hcz14_0
          try clear hcz14_1
          try clear hcz14_2
          try clear hcz14_3
          try clear hcz15_0
          try clear hcz15_1
          try clear hcz15_2
          try clear hcz15_3
          try clear hcz16_0
          try clear hcz16_1
          try clear hcz16_2
          try clear hcz16_3
          try clear hcz5_0
          try clear hcz5_1
          try clear hcz5_2
          try clear hcz5_3
          try clear hcz7_0
          try clear hcz7_1
          try clear hcz7_2
          try clear hcz7_3
          try clear hfz12_0
          try clear hfz12_1
          try clear hfz12_2
          try clear hfz12_3
          try clear hfz14_0
          try clear hfz14_1
          try clear hfz14_2
          try clear hfz14_3
          try clear hfz15_0
          try clear hfz15_1
          try clear hfz15_2
          try clear hfz15_3
          try clear hfz16_0
          try clear hfz16_1
          try clear hfz16_2
          try clear hfz16_3
          try clear hfz5_0
          try clear hfz5_1
          try clear hfz5_2
          try clear hfz5_3
          try clear hfz7_0
          try clear hfz7_1
          try clear hfz7_2
          try clear hfz7_3
          try clear p2
          obtain ⟨kq, x38_8, rfl, HA, HJ8, BK108, HB⟩ := hcut
          cases kq with
          | zero => exact absurd HA.out (by simp [stolonref08_Right.j1])
          | succ kj8 =>
            have H := HA.out
            clear HA
            simp only [stolonref08_Right.j1] at H
            by_cases c17 : x38_8 = true
            · subst c17
              replace H : (some false) = some r := by rw [if_pos rfl] at H; exact H
              obtain rfl := Option.some.inj H
              go_wp2
              repeat (go_quiet (fail); try go_wp2)
              go_ret
              exact ⟨by first | rfl | (simp [errW_none, errW_some] <;> rfl) | (simp [*, errW_none, errW_some] <;> rfl), bl HB⟩
            · replace c17 := Bool.eq_false_iff.mpr c17
              subst c17
              replace H : (stolonref08_Right.l0 kj8 0 a0_0 a0_1 a0_2 l0_3) = some r := by rw [if_neg (show ¬ (false = true) by decide)] at H; exact H
              have H' := Aside0.mk H
              clear H
              go_wp2
              repeat (go_quiet (fail); try go_wp2)
              go_loopg [4] kj8 (fun kq v4 w' => ∃ (x4_3 : Int), v4 = .int .i64 x4_3 ∧ Aside0 (stolonref08_Right.l0 kq x4_3 a0_0 a0_1 a0_2 l0_3 = some r) ∧ Aside0 (kq ≤ kj8) ∧ Aside0 (w'.heap[gb108]? = some (.cells #[.int .u32 a0_0, .bool a0_1, .int .i64 a0_2, (.slice A0_3 l0_3.length c0_3)] 28 (0, 0))) ∧ Aside0 (Below w.heap.size w w'))
              case atStart => exact ⟨(0), (fr), H', ⟨Nat.le_refl _⟩, ⟨ba BK108.out⟩, ⟨bl HB⟩⟩
              case round =>
                clear H'
                try clear c1
                try clear p2
                try clear c6
                try clear c8
                try clear c10
                try clear c11
                try clear c11b0
                try clear c13
                try clear c13b0
                try clear c17
                try clear hcz12_0
                try clear hcz12_1
                try clear hcz12_2
                try clear hcz12_3
                try clear hcz14_0
                try clear hcz14_1
                try clear hcz14_2
                try clear hcz14_3
                try clear hcz15_0
                try clear hcz15_1
                try clear hcz15_2
                try clear hcz15_3
                try clear hcz16_0
                try clear hcz16_1
                try clear hcz16_2
                try clear hcz16_3
                try clear hcz5_0
                try clear hcz5_1
                try clear hcz5_2
                try clear hcz5_3
                try clear hcz7_0
                try clear hcz7_1
                try clear hcz7_2
                try clear hcz7_3
                try clear hfz12_0
                try clear hfz12_1
                try clear hfz12_2
                try clear hfz12_3
                try clear hfz14_0
                try clear hfz14_1
                try clear hfz14_2
                try clear hfz14_3
                try clear hfz15_0
                try clear hfz15_1
                try clear hfz15_2
                try clear hfz15_3
                try clear hfz16_0
                try clear hfz16_1
                try clear hfz16_2
                try clear hfz16_3
                try clear hfz5_0
                try clear hfz5_1
                try clear hfz5_2
                try clear hfz5_3
                try clear hfz7_0
                try clear hfz7_1
                try clear hfz7_2
                try clear hfz7_3
                try clear p2
                obtain ⟨x4_3, rfl, HA, HK3, BK108, HB⟩ := hrel
                cases gk with
                | zero => exact absurd HA.out (by simp [stolonref08_Right.l0])
                | succ k3 =>
                  have H := HA.out
                  clear HA
                  simp only [stolonref08_Right.l0] at H
                  by_cases c18 : x4_3 < (l0_3.length : Int)
                  · rw [if_pos c18] at H
                    have c18b0 : decide (x4_3 < (l0_3.length : Int)) = true := decide_eq_true c18
                    clear c18
                    by_cases c19 : 0 ≤ x4_3
                    · rw [if_pos c19] at H
                      have c19b0 : decide (0 ≤ x4_3) = true := decide_eq_true c19
                      clear c19
                      by_cases c20 : ((rd_T49 l0_3 x4_3).f1) < 0
                      · rw [if_pos c20] at H
                        have c20b0 : decide (((rd_T49 l0_3 x4_3).f1) < 0) = true := decide_eq_true c20
                        clear c20
                        obtain rfl := Option.some.inj H
                        obtain ⟨hcz21_0, hcz21_1, hcz21_2, hcz21_3, hfz21_0, hfz21_1, hfz21_2, hfz21_3⟩ := cf4 BK108.out
                        have p110 : 0 ≤ (x4_3 : Int) := od
                        have q110 : x4_3 < (l0_3.length : Int) := od
                        obtain ⟨ad110, e110, hx110_0, hx110_1⟩ := at_T49 HR0_3.out x4_3 p110 q110
                        cases e110
                        replace hx110_0 := hcz HB hx110_0
                        replace hx110_1 := hcz HB hx110_1
                        replace p110 := eq_true p110
                        replace q110 := eq_true q110
                        go_wp2
                        repeat (go_quiet (fail); try go_wp2)
                        go_ret
                        exact ⟨by first | rfl | (simp [errW_none, errW_some] <;> rfl) | (simp [*, errW_none, errW_some] <;> rfl), bl HB⟩
                      · rw [if_neg c20] at H
                        have c20b0 : decide (((rd_T49 l0_3 x4_3).f1) < 0) = false := decide_eq_false c20
                        clear c20
                        by_cases c22 : ((rd_T49 l0_3 x4_3).f1) > 1000000
                        · rw [if_pos c22] at H
                          have c22b0 : decide (1000000 < ((rd_T49 l0_3 x4_3).f1)) = true := decide_eq_true c22
                          clear c22
                          obtain rfl := Option.some.inj H
                          obtain ⟨hcz23_0, hcz23_1, hcz23_2, hcz23_3, hfz23_0, hfz23_1, hfz23_2, hfz23_3⟩ := cf4 BK108.out
                          have p110 : 0 ≤ (x4_3 : Int) := od
                          have q110 : x4_3 < (l0_3.length : Int) := od
                          obtain ⟨ad110, e110, hx110_0, hx110_1⟩ := at_T49 HR0_3.out x4_3 p110 q110
                          cases e110
                          replace hx110_0 := hcz HB hx110_0
                          replace hx110_1 := hcz HB hx110_1
                          replace p110 := eq_true p110
                          replace q110 := eq_true q110
                          go_wp2
                          repeat (go_quiet (fail); try go_wp2)
                          go_ret
                          exact ⟨by first | rfl | (simp [errW_none, errW_some] <;> rfl) | (simp [*, errW_none, errW_some] <;> rfl), bl HB⟩
                        · rw [if_neg c22] at H
                          have c22b0 : decide (1000000 < ((rd_T49 l0_3 x4_3).f1)) = false := decide_eq_false c22
                          clear c22
                          by_cases c24 : ((rd_T49 l0_3 x4_3).f1) = 0
                          · rw [if_pos c24] at H
                            have c24b0 : (((rd_T49 l0_3 x4_3).f1) == 0) = true := beq_iff_eq.mpr c24
                            have c24b1 : (((rd_T49 l0_3 x4_3).f1) != 0) = false := bne_eq_false_iff_eq.mpr c24
                            clear c24
                            by_cases c25 : a0_1 = true
                            · subst c25
                              replace H : (if x4_3 > 0 then (if 0 ≤ (wrap64 (x4_3 - 1)) then (if (wrap64 (x4_3 - 1)) < (l0_3.length : Int) then (if ((rd_T49 l0_3 x4_3).f0) ≤ ((rd_T49 l0_3 (wrap64 (x4_3 - 1))).f0) then (some false) else (stolonref08_Right.l0 k3 (wrap64 (x4_3 + 1)) a0_0 true a0_2 l0_3)) else (none)) else (none)) else (stolonref08_Right.l0 k3 (wrap64 (x4_3 + 1)) a0_0 true a0_2 l0_3)) = some r := by rw [if_pos rfl] at H; exact H
                              by_cases c26 : x4_3 > 0
                              · rw [if_pos c26] at H
                                have c26b0 : decide (0 < x4_3) = true := decide_eq_true c26
                                clear c26
                                obtain ⟨ji27, hji27⟩ : ∃ j_ : Int, (wrap64 (x4_3 - 1)) = j_ := ⟨_, rfl⟩
                                replace H : (if 0 ≤ (ji27) then (if (ji27) < (l0_3.length : Int) then (if ((rd_T49 l0_3 x4_3).f0) ≤ ((rd_T49 l0_3 (ji27)).f0) then (some false) else (stolonref08_Right.l0 k3 (wrap64 (x4_3 + 1)) a0_0 true a0_2 l0_3)) else (none)) else (none)) = some r := by first | (rw [hji27] at H; exact H) | (simp only [hji27] at H ⊢; exact H)
                                have hji27w : (IntKind.i64.wrap (x4_3 - 1)) = ji27 := (i64_w _).trans hji27
                                by_cases c28 : 0 ≤ (ji27)
                                · rw [if_pos c28] at H
                                  have c28b0 : decide (0 ≤ (ji27)) = true := decide_eq_true c28
                                  clear c28
                                  by_cases c29 : (ji27) < (l0_3.length : Int)
                                  · rw [if_pos c29] at H
                                    have c29b0 : decide ((ji27) < (l0_3.length : Int)) = true := decide_eq_true c29
                                    clear c29
                                    by_cases c30 : ((rd_T49 l0_3 x4_3).f0) ≤ ((rd_T49 l0_3 (ji27)).f0)
                                    · rw [if_pos c30] at H
                                      have c30b0 : decide (((rd_T49 l0_3 x4_3).f0) ≤ ((rd_T49 l0_3 (ji27)).f0)) = true := decide_eq_true c30
                                      clear c30
                                      obtain rfl := Option.some.inj H
                                      obtain ⟨hcz31_0, hcz31_1, hcz31_2, hcz31_3, hfz31_0, hfz31_1, hfz31_2, hfz31_3⟩ := cf4 BK108.out
                                      have p110 : 0 ≤ (x4_3 : Int) := od
                                      have q110 : x4_3 < (l0_3.length : Int) := od
                                      obtain ⟨ad110, e110, hx110_0, hx110_1⟩ := at_T49 HR0_3.out x4_3 p110 q110
                                      cases e110
                                      replace hx110_0 := hcz HB hx110_0
                                      replace hx110_1 := hcz HB hx110_1
                                      replace p110 := eq_true p110
                                      replace q110 := eq_true q110
                                      have p111 : 0 ≤ (x4_3 : Int) := od
                                      have q111 : x4_3 < (l0_3.length : Int) := od
                                      obtain ⟨ad111, e111, hx111_0, hx111_1⟩ := at_T49 HR0_3.out x4_3 p111 q111
                                      obtain rfl : ad110 = ad111 := (by injection e111)
                                      replace hx111_0 := hcz HB hx111_0
                                      replace hx111_1 := hcz HB hx111_1
                                      replace p111 := eq_true p111
                                      replace q111 := eq_true q111
                                      have p112 : 0 ≤ ((ji27) : Int) := od
                                      have q112 : (ji27) < (l0_3.length : Int) := od
                                      obtain ⟨ad112, e112, hx112_0, hx112_1⟩ := at_T49 HR0_3.out (ji27) p112 q112
                                      obtain rfl : ad110 = ad112 := (by injection e112)
                                      replace hx112_0 := hcz HB hx112_0
                                      replace hx112_1 := hcz HB hx112_1
                                      replace p112 := eq_true p112
                                      replace q112 := eq_true q112
                                      go_wp2
                                      repeat (go_quiet (fail); try go_wp2)
                                      go_ret
                                      exact ⟨by first | rfl | (simp [errW_none, errW_some] <;> rfl) | (simp only [← hji27]; first | rfl | (simp [errW_none, errW_some] <;> rfl)) | (simp [*, errW_none, errW_some] <;> rfl), bl HB⟩
                                    · rw [if_neg c30] at H
                                      have c30b0 : decide (((rd_T49 l0_3 x4_3).f0) ≤ ((rd_T49 l0_3 (ji27)).f0)) = false := decide_eq_false c30
                                      clear c30
                                      have H' := Aside0.mk H
                                      clear H
                                      obtain ⟨hcz32_0, hcz32_1, hcz32_2, hcz32_3, hfz32_0, hfz32_1, hfz32_2, hfz32_3⟩ := cf4 BK108.out
                                      have p110 : 0 ≤ (x4_3 : Int) := od
                                      have q110 : x4_3 < (l0_3.length : Int) := od
                                      obtain ⟨ad110, e110, hx110_0, hx110_1⟩ := at_T49 HR0_3.out x4_3 p110 q110
                                      cases e110
                                      replace hx110_0 := hcz HB hx110_0
                                      replace hx110_1 := hcz HB hx110_1
                                      replace p110 := eq_true p110
                                      replace q110 := eq_true q110
                                      have p111 : 0 ≤ (x4_3 : Int) := od
                                      have q111 : x4_3 < (l0_3.length : Int) := od
                                      obtain ⟨ad111, e111, hx111_0, hx111_1⟩ := at_T49 HR0_3.out x4_3 p111 q111
                                      obtain rfl : ad110 = ad111 := (by injection e111)
                                      replace hx111_0 := hcz HB hx111_0
                                      replace hx111_1 := hcz HB hx111_1
                                      replace p111 := eq_true p111
                                      replace q111 := eq_true q111
                                      have p112 : 0 ≤ ((ji27) : Int) := od
                                      have q112 : (ji27) < (l0_3.length : Int) := od
                                      obtain ⟨ad112, e112, hx112_0, hx112_1⟩ := at_T49 HR0_3.out (ji27) p112 q112
                                      obtain rfl : ad110 = ad112 := (by injection e112)
                                      replace hx112_0 := hcz HB hx112_0
                                      replace hx112_1 := hcz HB hx112_1
                                      replace p112 := eq_true p112
                                      replace q112 := eq_true q112
                                      go_wp2
                                      repeat (go_quiet (fail); try go_wp2)
                                      go_roundg k3
                                      case measure => have := HJ2.out; have := HJ8.out; have := HK3.out; omega
                                      case rel => exact ⟨(wrap64 (x4_3 + 1)), (fr), H', ⟨by have := HJ2.out; have := HJ8.out; have := HK3.out; omega⟩, ⟨ba BK108.out⟩, ⟨bl HB⟩⟩
                                  · rw [if_neg c29] at H
                                    exact absurd H (by simp)
                                · rw [if_neg c28] at H
                                  exact absurd H (by simp)
                              · rw [if_neg c26] at H
                                have c26b0 : decide (0 < x4_3) = false := decide_eq_false c26
                                clear c26
                                have H' := Aside0.mk H
                                clear H
                                obtain ⟨hcz33_0, hcz33_1, hcz33_2, hcz33_3, hfz33_0, hfz33_1, hfz33_2, hfz33_3⟩ := cf4 BK108.out
                                have p110 : 0 ≤ (x4_3 : Int) := od
                                have q110 : x4_3 < (l0_3.length : Int) := od
                                obtain ⟨ad110, e110, hx110_0, hx110_1⟩ := at_T49 HR0_3.out x4_3 p110 q110
                                cases e110
                                replace hx110_0 := hcz HB hx110_0
                                replace hx110_1 := hcz HB hx110_1
                                replace p110 := eq_true p110
                                replace q110 := eq_true q110
                                go_wp2
                                repeat (go_quiet (fail); try go_wp2)
                                go_roundg k3
                                case measure => have := HJ2.out; have := HJ8.out; have := HK3.out; omega
                                case rel => exact ⟨(wrap64 (x4_3 + 1)), (fr), H', ⟨by have := HJ2.out; have := HJ8.out; have := HK3.out; omega⟩, ⟨ba BK108.out⟩, ⟨bl HB⟩⟩
                            · replace c25 := Bool.eq_false_iff.mpr c25
                              subst c25
                              replace H : (some false) = some r := by rw [if_neg (show ¬ (false = true) by decide)] at H; exact H
                              obtain rfl := Option.some.inj H
                              obtain ⟨hcz34_0, hcz34_1, hcz34_2, hcz34_3, hfz34_0, hfz34_1, hfz34_2, hfz34_3⟩ := cf4 BK108.out
                              have p110 : 0 ≤ (x4_3 : Int) := od
                              have q110 : x4_3 < (l0_3.length : Int) := od
                              obtain ⟨ad110, e110, hx110_0, hx110_1⟩ := at_T49 HR0_3.out x4_3 p110 q110
                              cases e110
                              replace hx110_0 := hcz HB hx110_0
                              replace hx110_1 := hcz HB hx110_1
                              replace p110 := eq_true p110
                              replace q110 := eq_true q110
                              go_wp2
                              repeat (go_quiet (fail); try go_wp2)
                              go_ret
                              exact ⟨by first | rfl | (simp [errW_none, errW_some] <;> rfl) | (simp [*, errW_none, errW_some] <;> rfl), bl HB⟩
                          · rw [if_neg c24] at H
                            have c24b0 : (((rd_T49 l0_3 x4_3).f1) == 0) = false := beq_eq_false_iff_ne.mpr c24
                            have c24b1 : (((rd_T49 l0_3 x4_3).f1) != 0) = true := bne_iff_ne.mpr c24
                            by_cases c35 : x4_3 > 0
                            · rw [if_pos c35] at H
                              have c35b0 : decide (0 < x4_3) = true := decide_eq_true c35
                              clear c35
                              obtain ⟨ji36, hji36⟩ : ∃ j_ : Int, (wrap64 (x4_3 - 1)) = j_ := ⟨_, rfl⟩
                              replace H : (if 0 ≤ (ji36) then (if (ji36) < (l0_3.length : Int) then (if ((rd_T49 l0_3 x4_3).f0) ≤ ((rd_T49 l0_3 (ji36)).f0) then (some false) else (stolonref08_Right.l0 k3 (wrap64 (x4_3 + 1)) a0_0 a0_1 a0_2 l0_3)) else (none)) else (none)) = some r := by first | (rw [hji36] at H; exact H) | (simp only [hji36] at H ⊢; exact H)
                              have hji36w : (IntKind.i64.wrap (x4_3 - 1)) = ji36 := (i64_w _).trans hji36
                              by_cases c37 : 0 ≤ (ji36)
                              · rw [if_pos c37] at H
                                have c37b0 : decide (0 ≤ (ji36)) = true := decide_eq_true c37
                                clear c37
                                by_cases c38 : (ji36) < (l0_3.length : Int)
                                · rw [if_pos c38] at H
                                  have c38b0 : decide ((ji36) < (l0_3.length : Int)) = true := decide_eq_true c38
                                  clear c38
                                  by_cases c39 : ((rd_T49 l0_3 x4_3).f0) ≤ ((rd_T49 l0_3 (ji36)).f0)
                                  · rw [if_pos c39] at H
                                    have c39b0 : decide (((rd_T49 l0_3 x4_3).f0) ≤ ((rd_T49 l0_3 (ji36)).f0)) = true := decide_eq_true c39
                                    clear c39
                                    obtain rfl := Option.some.inj H
                                    obtain ⟨hcz40_0, hcz40_1, hcz40_2, hcz40_3, hfz40_0, hfz40_1, hfz40_2, hfz40_3⟩ := cf4 BK108.out
                                    have p110 : 0 ≤ (x4_3 : Int) := od
                                    have q110 : x4_3 < (l0_3.length : Int) := od
                                    obtain ⟨ad110, e110, hx110_0, hx110_1⟩ := at_T49 HR0_3.out x4_3 p110 q110
                                    cases e110
                                    replace hx110_0 := hcz HB hx110_0
                                    replace hx110_1 := hcz HB hx110_1
                                    replace p110 := eq_true p110
                                    replace q110 := eq_true q110
                                    have p113 : 0 ≤ (x4_3 : Int) := od
                                    have q113 : x4_3 < (l0_3.length : Int) := od
                                    obtain ⟨ad113, e113, hx113_0, hx113_1⟩ := at_T49 HR0_3.out x4_3 p113 q113
                                    obtain rfl : ad110 = ad113 := (by injection e113)
                                    replace hx113_0 := hcz HB hx113_0
                                    replace hx113_1 := hcz HB hx113_1
                                    replace p113 := eq_true p113
                                    replace q113 := eq_true q113
                                    have p114 : 0 ≤ ((ji36) : Int) := od
                                    have q114 : (ji36) < (l0_3.length : Int) := od
                                    obtain ⟨ad114, e114, hx114_0, hx114_1⟩ := at_T49 HR0_3.out (ji36) p114 q114
                                    obtain rfl : ad110 = ad114 := (by injection e114)
                                    replace hx114_0 := hcz HB hx114_0
                                    replace hx114_1 := hcz HB hx114_1
                                    replace p114 := eq_true p114
                                    replace q114 := eq_true q114
                                    go_wp2
                                    repeat (go_quiet (fail); try go_wp2)
                                    go_ret
                                    exact ⟨by first | rfl | (simp [errW_none, errW_some] <;> rfl) | (simp only [← hji36]; first | rfl | (simp [errW_none, errW_some] <;> rfl)) | (simp [*, errW_none, errW_some] <;> rfl), bl HB⟩
                                  · rw [if_neg c39] at H
                                    have c39b0 : decide (((rd_T49 l0_3 x4_3).f0) ≤ ((rd_T49 l0_3 (ji36)).f0)) = false := decide_eq_false c39
                                    clear c39
                                    have H' := Aside0.mk H
                                    clear H
                                    obtain ⟨hcz41_0, hcz41_1, hcz41_2, hcz41_3, hfz41_0, hfz41_1, hfz41_2, hfz41_3⟩ := cf4 BK108.out
                                    have p110 : 0 ≤ (x4_3 : Int) := od
                                    have q110 : x4_3 < (l0_3.length : Int) := od
                                    obtain ⟨ad110, e110, hx110_0, hx110_1⟩ := at_T49 HR0_3.out x4_3 p110 q110
                                    cases e110
                                    replace hx110_0 := hcz HB hx110_0
                                    replace hx110_1 := hcz HB hx110_1
                                    replace p110 := eq_true p110
                                    replace q110 := eq_true q110
                                    have p113 : 0 ≤ (x4_3 : Int) := od
                                    have q113 : x4_3 < (l0_3.length : Int) := od
                                    obtain ⟨ad113, e113, hx113_0, hx113_1⟩ := at_T49 HR0_3.out x4_3 p113 q113
                                    obtain rfl : ad110 = ad113 := (by injection e113)
                                    replace hx113_0 := hcz HB hx113_0
                                    replace hx113_1 := hcz HB hx113_1
                                    replace p113 := eq_true p113
                                    replace q113 := eq_true q113
                                    have p114 : 0 ≤ ((ji36) : Int) := od
                                    have q114 : (ji36) < (l0_3.length : Int) := od
                                    obtain ⟨ad114, e114, hx114_0, hx114_1⟩ := at_T49 HR0_3.out (ji36) p114 q114
                                    obtain rfl : ad110 = ad114 := (by injection e114)
                                    replace hx114_0 := hcz HB hx114_0
                                    replace hx114_1 := hcz HB hx114_1
                                    replace p114 := eq_true p114
                                    replace q114 := eq_true q114
                                    go_wp2
                                    repeat (go_quiet (fail); try go_wp2)
                                    go_roundg k3
                                    case measure => have := HJ2.out; have := HJ8.out; have := HK3.out; omega
                                    case rel => exact ⟨(wrap64 (x4_3 + 1)), (fr), H', ⟨by have := HJ2.out; have := HJ8.out; have := HK3.out; omega⟩, ⟨ba BK108.out⟩, ⟨bl HB⟩⟩
                                · rw [if_neg c38] at H
                                  exact absurd H (by simp)
                              · rw [if_neg c37] at H
                                exact absurd H (by simp)
                            · rw [if_neg c35] at H
                              have c35b0 : decide (0 < x4_3) = false := decide_eq_false c35
                              clear c35
                              have H' := Aside0.mk H
                              clear H
                              obtain ⟨hcz42_0, hcz42_1, hcz42_2, hcz42_3, hfz42_0, hfz42_1, hfz42_2, hfz42_3⟩ := cf4 BK108.out
                              have p110 : 0 ≤ (x4_3 : Int) := od
                              have q110 : x4_3 < (l0_3.length : Int) := od
                              obtain ⟨ad110, e110, hx110_0, hx110_1⟩ := at_T49 HR0_3.out x4_3 p110 q110
                              cases e110
                              replace hx110_0 := hcz HB hx110_0
                              replace hx110_1 := hcz HB hx110_1
                              replace p110 := eq_true p110
                              replace q110 := eq_true q110
                              go_wp2
                              repeat (go_quiet (fail); try go_wp2)
                              go_roundg k3
                              case measure => have := HJ2.out; have := HJ8.out; have := HK3.out; omega
                              case rel => exact ⟨(wrap64 (x4_3 + 1)), (fr), H', ⟨by have := HJ2.out; have := HJ8.out; have := HK3.out; omega⟩, ⟨ba BK108.out⟩, ⟨bl HB⟩⟩
                    · rw [if_neg c19] at H
                      exact absurd H (by simp)
                  · rw [if_neg c18] at H
                    have c18b0 : decide (x4_3 < (l0_3.length : Int)) = false := decide_eq_false c18
                    clear c18
                    obtain rfl := Option.some.inj H
                    obtain ⟨hcz43_0, hcz43_1, hcz43_2, hcz43_3, hfz43_0, hfz43_1, hfz43_2, hfz43_3⟩ := cf4 BK108.out
                    go_wp2
                    repeat (go_quiet (fail); try go_wp2)
                    go_ret
                    exact ⟨by first | rfl | (simp [errW_none, errW_some] <;> rfl) | (simp [*, errW_none, errW_some] <;> rfl), bl HB⟩

end Go.Proofs.Ytbllchfgjginoaa.PMe
