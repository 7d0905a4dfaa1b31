-- written by a program of this session (hprint.py), over the kit's printer
import Derived.Test.YtacjimkkbimcaaaPSumx0
import Derived.Test.YtacjimkkbimcaaaPSumx1
namespace Go.Proofs.Ytacjimkkbimcaaa.PSum
open Go.RowKit Go.Proofs.YtacjimkkbimcaaaW.PrintWords Go.Proofs.YtacjimkkbimcaaaW.PrintLast Go.Proofs.YtacjimkkbimcaaaW.PrintMore
attribute [local go_sem] max2_int min2_int max_two min_two max_three min_three max_four min_four   -- for this text's walks alone
set_option linter.unusedVariables false
set_option linter.unusedSimpArgs false

/-! ### stolonlaw02_SumSwaps: function 6 -/
mutual
def stolonlaw02_SumSwaps.j0 : Nat → List Int → List Int → Int → Bool → Bool → Option (Bool)
  | 0, _, _, _, _, _ => none
  | k + 1, x0, x1, x2, x7, x24 => if x24 = true then (some x7) else ((some (([] : List Int) : List Int)).bind fun y166 => (if y166.length + x0.length < 140737488355328 then ((some (y166 ++ x0 : List Int)).bind fun y169 => (if y169.length + x1.length < 140737488355328 then ((some (y169 ++ x1 : List Int)).bind fun y172 => ((some (([] : List Int) : List Int)).bind fun y175 => (if y175.length + y172.length < 140737488355328 then ((some (y175 ++ y172 : List Int)).bind fun y178 => ((some (([0, 0] : List Int) : List Int)).bind fun y181 => (if y178.length + y181.length < 140737488355328 then ((sum_Of.f y172).bind fun t187 => ((sum_Of.f (y178 ++ y181)).bind fun t188 => (if t188 = t187 then ((sum_Of.f x0).bind fun t189 => ((sum_Of.f x1).bind fun t190 => ((sum_Join.f (IntKind.u16.wrap (65535 - t189)) (IntKind.u16.wrap (65535 - t190))).bind fun t191 => (stolonlaw02_SumSwaps.j1 k x2 x7 y172 t187 ((IntKind.u16.wrap (65535 - t187)) != t191))))) else (stolonlaw02_SumSwaps.j1 k x2 x7 y172 t187 true)))) else (none)))) else (none)))) else (none))) else (none)))
def stolonlaw02_SumSwaps.j1 : Nat → Int → Bool → List Int → Int → Bool → Option (Bool)
  | 0, _, _, _, _, _ => none
  | k + 1, x2, x7, x8, x10, x53 => if x53 = true then (some false) else (if x2 < 0 then (some x7) else (if (Int.tmod x2 2) = 0 then (if x2 > (wrap64 ((x8.length : Int) - 4)) then (some x7) else ((some (([] : List Int) : List Int)).bind fun y192 => (if y192.length + x8.length < 140737488355328 then ((some (y192 ++ x8 : List Int)).bind fun y195 => (if 0 ≤ (wrap64 (x2 + 2)) then (if (wrap64 (x2 + 2)) < (x8.length : Int) then (if 0 ≤ x2 then (if x2 < (y195.length : Int) then (if 0 ≤ (wrap64 (x2 + 3)) then (if (wrap64 (x2 + 3)) < (x8.length : Int) then (if 0 ≤ (wrap64 (x2 + 1)) then (if (wrap64 (x2 + 1)) < (y195.length : Int) then (if x2 < (x8.length : Int) then (if (wrap64 (x2 + 2)) < (y195.length : Int) then (if (wrap64 (x2 + 1)) < (x8.length : Int) then (if (wrap64 (x2 + 3)) < (y195.length : Int) then (if x7 = true then ((sum_Of.f ((((y195.set (x2 : Int).toNat (rd x8 (wrap64 (x2 + 2)))).set ((wrap64 (x2 + 1)) : Int).toNat (rd x8 (wrap64 (x2 + 3)))).set ((wrap64 (x2 + 2)) : Int).toNat (rd x8 x2)).set ((wrap64 (x2 + 3)) : Int).toNat (rd x8 (wrap64 (x2 + 1))))).bind fun t206 => (some (t206 == x10))) else (some false)) else (none)) else (none)) else (none)) else (none)) else (none)) else (none)) else (none)) else (none)) else (none)) else (none)) else (none)) else (none))) else (none)))) else (some x7)))
end
def stolonlaw02_SumSwaps.f (k : Nat) (l0 : List Int) (l1 : List Int) (a2 : Int) : Option (Bool) := (stolonlaw02_shown.f).bind fun t165 => (if (wrap64 ((l0.length : Int) + (l1.length : Int))) > 1000 then (stolonlaw02_SumSwaps.j0 k l0 l1 a2 t165 true) else (stolonlaw02_SumSwaps.j0 k l0 l1 a2 t165 (((l0.length : Int) % 2) != 0)))
theorem stolonlaw02_SumSwaps.mono_l : ∀ k, (∀ y0 y1 y2 y3 y4, LeO (stolonlaw02_SumSwaps.j0 k y0 y1 y2 y3 y4) (stolonlaw02_SumSwaps.j0 (k + 1) y0 y1 y2 y3 y4)) ∧ (∀ y0 y1 y2 y3 y4, LeO (stolonlaw02_SumSwaps.j1 k y0 y1 y2 y3 y4) (stolonlaw02_SumSwaps.j1 (k + 1) y0 y1 y2 y3 y4))
  | 0 => ⟨fun _ _ _ _ _ r h => by simp [stolonlaw02_SumSwaps.j0] at h, fun _ _ _ _ _ r h => by simp [stolonlaw02_SumSwaps.j1] at h⟩
  | k + 1 => by
    obtain ⟨ih0, ih1⟩ := stolonlaw02_SumSwaps.mono_l k
    refine ⟨?_, ?_⟩
    · intro y0 y1 y2 y3 y4
      unfold stolonlaw02_SumSwaps.j0
      repeat' first
      | (with_reducible exact ih0 _ _ _ _ _)
      | (with_reducible exact ih1 _ _ _ _ _)
      | (with_reducible exact LeO.refl _)
      | (with_reducible exact LeO.none _)
      | (with_reducible refine LeO.ite ?_ ?_)
      | (with_reducible refine LeO.bind ?_ (fun _ => ?_))
      | exact ih0 _ _ _ _ _
      | exact ih1 _ _ _ _ _
      | exact LeO.none _
      | refine LeO.ite ?_ ?_
      | refine LeO.bind ?_ (fun _ => ?_)
    · intro y0 y1 y2 y3 y4
      unfold stolonlaw02_SumSwaps.j1
      repeat' first
      | (with_reducible exact ih0 _ _ _ _ _)
      | (with_reducible exact ih1 _ _ _ _ _)
      | (with_reducible exact LeO.refl _)
      | (with_reducible exact LeO.none _)
      | (with_reducible refine LeO.ite ?_ ?_)
      | (with_reducible refine LeO.bind ?_ (fun _ => ?_))
      | exact ih0 _ _ _ _ _
      | exact ih1 _ _ _ _ _
      | exact LeO.none _
      | refine LeO.ite ?_ ?_
      | refine LeO.bind ?_ (fun _ => ?_)
theorem stolonlaw02_SumSwaps.mono : ∀ a0 a1 a2 k, LeO (stolonlaw02_SumSwaps.f k a0 a1 a2) (stolonlaw02_SumSwaps.f (k + 1) a0 a1 a2) := by
  intro a0 a1 a2 k
  obtain ⟨ih0, ih1⟩ := stolonlaw02_SumSwaps.mono_l k
  unfold stolonlaw02_SumSwaps.f
  repeat' first
      | (with_reducible exact ih0 _ _ _ _ _)
      | (with_reducible exact ih1 _ _ _ _ _)
      | (with_reducible exact LeO.refl _)
      | (with_reducible exact LeO.none _)
      | (with_reducible refine LeO.ite ?_ ?_)
      | (with_reducible refine LeO.bind ?_ (fun _ => ?_))
      | exact ih0 _ _ _ _ _
      | exact ih1 _ _ _ _ _
      | exact LeO.none _
      | refine LeO.ite ?_ ?_
      | refine LeO.bind ?_ (fun _ => ?_)
set_option maxHeartbeats 8000000 in
set_option maxRecDepth 100000 in
theorem stolonlaw02_SumSwaps.calls (k : Nat) (A0 : Option Addr) (c0 : Nat) (l0 : List Int) (A1 : Option Addr) (c1 : Nat) (l1 : List Int) (a2 : Int) (r : Bool) (w : World) (hr0 : Kd.C (Kd.int .u8) w A0 l0.length l0) (hc0 : l0.length ≤ c0) (hr1 : Kd.C (Kd.int .u8) w A1 l1.length l1) (hc1 : l1.length ≤ c1) (h : stolonlaw02_SumSwaps.f k l0 l1 a2 = some r) :
    Calls Try.prog 6 #[.slice A0 l0.length c0, .slice A1 l1.length c1, .int .i64 a2] w fun e w' => e = .returned (.bool r) ∧ Below w.heap.size w w' := by
  have HR0 := Aside0.mk hr0
  have HC0 := Aside0.mk hc0
  clear hr0 hc0
  have HR1 := Aside0.mk hr1
  have HC1 := Aside0.mk hc1
  clear hr1 hc1
  have HB := Aside0.mk (Below.refl w.heap.size w)
  have H : ((stolonlaw02_shown.f).bind fun t165 => (if (wrap64 ((l0.length : Int) + (l1.length : Int))) > 1000 then (stolonlaw02_SumSwaps.j0 k l0 l1 a2 t165 true) else (stolonlaw02_SumSwaps.j0 k l0 l1 a2 t165 (((l0.length : Int) % 2) != 0)))) = some r := h
  clear h
  replace H := Option.bind_eq_some_iff.mp H
  obtain ⟨t165, A40, H⟩ := H
  replace H : (if (wrap64 ((l0.length : Int) + (l1.length : Int))) > 1000 then (stolonlaw02_SumSwaps.j0 k l0 l1 a2 t165 true) else (stolonlaw02_SumSwaps.j0 k l0 l1 a2 t165 (((l0.length : Int) % 2) != 0))) = some r := H
  have A4 := Aside0.mk A40
  clear A40
  have HC5 := Aside0.mk H
  clear H
  go_enter Try.func6, Try.ntmps6
  go_upto_region 2 with (first | ((with_reducible refine gate_callee (f := 9) rfl ?_); refine goesL_ (some 12) rfl rfl Try.func9 (by kernel_rfl) rfl #[] rfl (by (try simp only [List.map_toArray, List.map_cons, List.map_nil]); first | done | rfl | (simp only [List.length_drop, List.length_take]; rfl)) ?_; (with_reducible refine (stolonlaw02_shown.calls  t165 _ A4.out).mono ?_); rintro e w6 ⟨rfl, hb⟩; refine ⟨_, rfl, ?_⟩; have n0_ := Aside0.mk (below_step (by repeat (first | (with_reducible first | exact HB.out | apply below_alloc | apply pw_below_drewN | apply below_drew1) | exact HB.out)) hb); clear HB; have HB := n0_; clear n0_; (try clear hb); (try clear hb2); (try clear hk); (try clear hi)))
  (try simp only [Act.put, List.setIfInBounds_toArray, List.set_cons_zero, List.set_cons_succ])
  go_cut [24] (fun v24 wc => ∃ (kq : Nat) (x24_4 : Bool), v24 = .bool x24_4 ∧ Aside0 (stolonlaw02_SumSwaps.j0 kq l0 l1 a2 t165 x24_4 = some r) ∧ Aside0 (kq ≤ k) ∧ Aside0 (Below w.heap.size w wc))
  case first =>
    have H := HC5.out
    clear HC5
    by_cases c7 : (wrap64 ((l0.length : Int) + (l1.length : Int))) > 1000
    · rw [if_pos c7] at H
      have c7b0 : decide (1000 < (wrap64 ((l0.length : Int) + (l1.length : Int)))) = true := decide_eq_true c7
      clear c7
      (first | rw [c7b0] | (simp only [i64_w, i32_w]; rw [c7b0]) | skip)
      have H' := Aside0.mk H
      clear H
      go_wp2
      go_meet
      case rel => exact ⟨_, (true), (by first | rfl | (simp; done) | (simp [*]; done)), H', ⟨by first | omega | exact Nat.le_refl _⟩, ⟨by repeat (first | (with_reducible first | exact HB.out | apply below_alloc | apply pw_below_drewN | apply below_drew1) | exact HB.out)⟩⟩
    · rw [if_neg c7] at H
      have c7b0 : decide (1000 < (wrap64 ((l0.length : Int) + (l1.length : Int)))) = false := decide_eq_false c7
      clear c7
      (first | rw [c7b0] | (simp only [i64_w, i32_w]; rw [c7b0]) | skip)
      have H' := Aside0.mk H
      clear H
      go_wp2
      go_meet
      case rel => exact ⟨_, ((((l0.length : Int) % 2) != 0)), (by first | rfl | (simp; done) | (simp [*]; done)), H', ⟨by first | omega | exact Nat.le_refl _⟩, ⟨by repeat (first | (with_reducible first | exact HB.out | apply below_alloc | apply pw_below_drewN | apply below_drew1) | exact HB.out)⟩⟩
  case rest =>
    clear HC5
    try clear c1
    try clear p2
    try clear c6
    try clear p6
    try clear c7
    try clear c7b0
    obtain ⟨kq, x24_4, rfl, HA, HJ4, HB⟩ := hcut
    cases kq with
    | zero => exact absurd HA.out (by simp [stolonlaw02_SumSwaps.j0])
    | succ kj4 =>
      have H := HA.out
      clear HA
      simp only [stolonlaw02_SumSwaps.j0] at H
      by_cases c8 : x24_4 = true
      · subst c8
        have H1 : (some t165) = some r := by rw [if_pos rfl] at H; exact H
        clear H
        have H := H1
        clear H1
        obtain rfl := Option.some.inj H
        go_wp2
        go_ret
        exact ⟨by first | rfl | (simp [errW_none, errW_some] <;> rfl) | (simp [*, errW_none, errW_some] <;> rfl), by repeat (first | (with_reducible first | exact HB.out | apply below_alloc | apply pw_below_drewN | apply below_drew1) | exact HB.out)⟩
      · replace c8 := Bool.eq_false_iff.mpr c8
        subst c8
        have H1 : ((some (([] : List Int) : List Int)).bind fun y166 => (if y166.length + l0.length < 140737488355328 then ((some (y166 ++ l0 : List Int)).bind fun y169 => (if y169.length + l1.length < 140737488355328 then ((some (y169 ++ l1 : List Int)).bind fun y172 => ((some (([] : List Int) : List Int)).bind fun y175 => (if y175.length + y172.length < 140737488355328 then ((some (y175 ++ y172 : List Int)).bind fun y178 => ((some (([0, 0] : List Int) : List Int)).bind fun y181 => (if y178.length + y181.length < 140737488355328 then ((sum_Of.f y172).bind fun t187 => ((sum_Of.f (y178 ++ y181)).bind fun t188 => (if t188 = t187 then ((sum_Of.f l0).bind fun t189 => ((sum_Of.f l1).bind fun t190 => ((sum_Join.f (IntKind.u16.wrap (65535 - t189)) (IntKind.u16.wrap (65535 - t190))).bind fun t191 => (stolonlaw02_SumSwaps.j1 kj4 a2 t165 y172 t187 ((IntKind.u16.wrap (65535 - t187)) != t191))))) else (stolonlaw02_SumSwaps.j1 kj4 a2 t165 y172 t187 true)))) else (none)))) else (none)))) else (none))) else (none))) = some r := by rw [if_neg (show ¬ (false = true) by decide)] at H; exact H
        clear H
        have H := H1
        clear H1
        obtain ⟨y166, hy166⟩ : ∃ y_ : List Int, y_ = (([] : List Int)) := ⟨_, rfl⟩
        replace H : (if y166.length + l0.length < 140737488355328 then ((some (y166 ++ l0 : List Int)).bind fun y169 => (if y169.length + l1.length < 140737488355328 then ((some (y169 ++ l1 : List Int)).bind fun y172 => ((some (([] : List Int) : List Int)).bind fun y175 => (if y175.length + y172.length < 140737488355328 then ((some (y175 ++ y172 : List Int)).bind fun y178 => ((some (([0, 0] : List Int) : List Int)).bind fun y181 => (if y178.length + y181.length < 140737488355328 then ((sum_Of.f y172).bind fun t187 => ((sum_Of.f (y178 ++ y181)).bind fun t188 => (if t188 = t187 then ((sum_Of.f l0).bind fun t189 => ((sum_Of.f l1).bind fun t190 => ((sum_Join.f (IntKind.u16.wrap (65535 - t189)) (IntKind.u16.wrap (65535 - t190))).bind fun t191 => (stolonlaw02_SumSwaps.j1 kj4 a2 t165 y172 t187 ((IntKind.u16.wrap (65535 - t187)) != t191))))) else (stolonlaw02_SumSwaps.j1 kj4 a2 t165 y172 t187 true)))) else (none)))) else (none)))) else (none))) else (none)) = some r := by first | (rw [hy166]; with_reducible exact H) | (have H2_ := (Option.bind_some _ _).symm.trans H; rw [hy166]; with_reducible exact H2_) | (have H2_ := (Option.bind_some _ _).symm.trans H; with_reducible exact H2_) | with_reducible exact H | (rw [hy166]; exact H) | exact H
        have Ny166 := Aside0.mk hy166
        clear hy166
        by_cases c9 : y166.length + l0.length < 140737488355328
        · rw [if_pos c9] at H
          have LMc9 := Aside0.mk c9
          clear c9
          obtain ⟨y169, hy169⟩ : ∃ y_ : List Int, y_ = (y166 ++ l0) := ⟨_, rfl⟩
          replace H : (if y169.length + l1.length < 140737488355328 then ((some (y169 ++ l1 : List Int)).bind fun y172 => ((some (([] : List Int) : List Int)).bind fun y175 => (if y175.length + y172.length < 140737488355328 then ((some (y175 ++ y172 : List Int)).bind fun y178 => ((some (([0, 0] : List Int) : List Int)).bind fun y181 => (if y178.length + y181.length < 140737488355328 then ((sum_Of.f y172).bind fun t187 => ((sum_Of.f (y178 ++ y181)).bind fun t188 => (if t188 = t187 then ((sum_Of.f l0).bind fun t189 => ((sum_Of.f l1).bind fun t190 => ((sum_Join.f (IntKind.u16.wrap (65535 - t189)) (IntKind.u16.wrap (65535 - t190))).bind fun t191 => (stolonlaw02_SumSwaps.j1 kj4 a2 t165 y172 t187 ((IntKind.u16.wrap (65535 - t187)) != t191))))) else (stolonlaw02_SumSwaps.j1 kj4 a2 t165 y172 t187 true)))) else (none)))) else (none)))) else (none)) = some r := by first | (rw [hy169]; with_reducible exact H) | (have H2_ := (Option.bind_some _ _).symm.trans H; rw [hy169]; with_reducible exact H2_) | (have H2_ := (Option.bind_some _ _).symm.trans H; with_reducible exact H2_) | with_reducible exact H | (rw [hy169]; exact H) | exact H
          have Ny169 := Aside0.mk hy169
          clear hy169
          by_cases c10 : y169.length + l1.length < 140737488355328
          · rw [if_pos c10] at H
            have LMc10 := Aside0.mk c10
            clear c10
            obtain ⟨y172, hy172⟩ : ∃ y_ : List Int, y_ = (y169 ++ l1) := ⟨_, rfl⟩
            replace H : ((some (([] : List Int) : List Int)).bind fun y175 => (if y175.length + y172.length < 140737488355328 then ((some (y175 ++ y172 : List Int)).bind fun y178 => ((some (([0, 0] : List Int) : List Int)).bind fun y181 => (if y178.length + y181.length < 140737488355328 then ((sum_Of.f y172).bind fun t187 => ((sum_Of.f (y178 ++ y181)).bind fun t188 => (if t188 = t187 then ((sum_Of.f l0).bind fun t189 => ((sum_Of.f l1).bind fun t190 => ((sum_Join.f (IntKind.u16.wrap (65535 - t189)) (IntKind.u16.wrap (65535 - t190))).bind fun t191 => (stolonlaw02_SumSwaps.j1 kj4 a2 t165 y172 t187 ((IntKind.u16.wrap (65535 - t187)) != t191))))) else (stolonlaw02_SumSwaps.j1 kj4 a2 t165 y172 t187 true)))) else (none)))) else (none))) = some r := by first | (rw [hy172]; with_reducible exact H) | (have H2_ := (Option.bind_some _ _).symm.trans H; rw [hy172]; with_reducible exact H2_) | (have H2_ := (Option.bind_some _ _).symm.trans H; with_reducible exact H2_) | with_reducible exact H | (rw [hy172]; exact H) | exact H
            have Ny172 := Aside0.mk hy172
            clear hy172
            obtain ⟨y175, hy175⟩ : ∃ y_ : List Int, y_ = (([] : List Int)) := ⟨_, rfl⟩
            replace H : (if y175.length + y172.length < 140737488355328 then ((some (y175 ++ y172 : List Int)).bind fun y178 => ((some (([0, 0] : List Int) : List Int)).bind fun y181 => (if y178.length + y181.length < 140737488355328 then ((sum_Of.f y172).bind fun t187 => ((sum_Of.f (y178 ++ y181)).bind fun t188 => (if t188 = t187 then ((sum_Of.f l0).bind fun t189 => ((sum_Of.f l1).bind fun t190 => ((sum_Join.f (IntKind.u16.wrap (65535 - t189)) (IntKind.u16.wrap (65535 - t190))).bind fun t191 => (stolonlaw02_SumSwaps.j1 kj4 a2 t165 y172 t187 ((IntKind.u16.wrap (65535 - t187)) != t191))))) else (stolonlaw02_SumSwaps.j1 kj4 a2 t165 y172 t187 true)))) else (none)))) else (none)) = some r := by first | (rw [hy175]; with_reducible exact H) | (have H2_ := (Option.bind_some _ _).symm.trans H; rw [hy175]; with_reducible exact H2_) | (have H2_ := (Option.bind_some _ _).symm.trans H; with_reducible exact H2_) | with_reducible exact H | (rw [hy175]; exact H) | exact H
            have Ny175 := Aside0.mk hy175
            clear hy175
            by_cases c11 : y175.length + y172.length < 140737488355328
            · rw [if_pos c11] at H
              have LMc11 := Aside0.mk c11
              clear c11
              obtain ⟨y178, hy178⟩ : ∃ y_ : List Int, y_ = (y175 ++ y172) := ⟨_, rfl⟩
              replace H : ((some (([0, 0] : List Int) : List Int)).bind fun y181 => (if y178.length + y181.length < 140737488355328 then ((sum_Of.f y172).bind fun t187 => ((sum_Of.f (y178 ++ y181)).bind fun t188 => (if t188 = t187 then ((sum_Of.f l0).bind fun t189 => ((sum_Of.f l1).bind fun t190 => ((sum_Join.f (IntKind.u16.wrap (65535 - t189)) (IntKind.u16.wrap (65535 - t190))).bind fun t191 => (stolonlaw02_SumSwaps.j1 kj4 a2 t165 y172 t187 ((IntKind.u16.wrap (65535 - t187)) != t191))))) else (stolonlaw02_SumSwaps.j1 kj4 a2 t165 y172 t187 true)))) else (none))) = some r := by first | (rw [hy178]; with_reducible exact H) | (have H2_ := (Option.bind_some _ _).symm.trans H; rw [hy178]; with_reducible exact H2_) | (have H2_ := (Option.bind_some _ _).symm.trans H; with_reducible exact H2_) | with_reducible exact H | (rw [hy178]; exact H) | exact H
              have Ny178 := Aside0.mk hy178
              clear hy178
              obtain ⟨y181, hy181⟩ : ∃ y_ : List Int, y_ = (([0, 0] : List Int)) := ⟨_, rfl⟩
              replace H : (if y178.length + y181.length < 140737488355328 then ((sum_Of.f y172).bind fun t187 => ((sum_Of.f (y178 ++ y181)).bind fun t188 => (if t188 = t187 then ((sum_Of.f l0).bind fun t189 => ((sum_Of.f l1).bind fun t190 => ((sum_Join.f (IntKind.u16.wrap (65535 - t189)) (IntKind.u16.wrap (65535 - t190))).bind fun t191 => (stolonlaw02_SumSwaps.j1 kj4 a2 t165 y172 t187 ((IntKind.u16.wrap (65535 - t187)) != t191))))) else (stolonlaw02_SumSwaps.j1 kj4 a2 t165 y172 t187 true)))) else (none)) = some r := by first | (rw [hy181]; with_reducible exact H) | (have H2_ := (Option.bind_some _ _).symm.trans H; rw [hy181]; with_reducible exact H2_) | (have H2_ := (Option.bind_some _ _).symm.trans H; with_reducible exact H2_) | with_reducible exact H | (rw [hy181]; exact H) | exact H
              have Ny181 := Aside0.mk hy181
              clear hy181
              by_cases c12 : y178.length + y181.length < 140737488355328
              · rw [if_pos c12] at H
                have LMc12 := Aside0.mk c12
                clear c12
                obtain ⟨y184, hy184⟩ : ∃ y_ : List Int, y_ = (y178 ++ y181) := ⟨_, rfl⟩
                replace H : ((sum_Of.f y172).bind fun t187 => ((sum_Of.f y184).bind fun t188 => (if t188 = t187 then ((sum_Of.f l0).bind fun t189 => ((sum_Of.f l1).bind fun t190 => ((sum_Join.f (IntKind.u16.wrap (65535 - t189)) (IntKind.u16.wrap (65535 - t190))).bind fun t191 => (stolonlaw02_SumSwaps.j1 kj4 a2 t165 y172 t187 ((IntKind.u16.wrap (65535 - t187)) != t191))))) else (stolonlaw02_SumSwaps.j1 kj4 a2 t165 y172 t187 true)))) = some r := by first | (rw [hy184]; with_reducible exact H) | (have H2_ := (Option.bind_some _ _).symm.trans H; rw [hy184]; with_reducible exact H2_) | (have H2_ := (Option.bind_some _ _).symm.trans H; with_reducible exact H2_) | with_reducible exact H | (rw [hy184]; exact H) | exact H
                have Ny184 := Aside0.mk hy184
                clear hy184
                replace H := Option.bind_eq_some_iff.mp H
                obtain ⟨t187, A130, H⟩ := H
                replace H : ((sum_Of.f y184).bind fun t188 => (if t188 = t187 then ((sum_Of.f l0).bind fun t189 => ((sum_Of.f l1).bind fun t190 => ((sum_Join.f (IntKind.u16.wrap (65535 - t189)) (IntKind.u16.wrap (65535 - t190))).bind fun t191 => (stolonlaw02_SumSwaps.j1 kj4 a2 t165 y172 t187 ((IntKind.u16.wrap (65535 - t187)) != t191))))) else (stolonlaw02_SumSwaps.j1 kj4 a2 t165 y172 t187 true))) = some r := H
                have A13 := Aside0.mk A130
                clear A130
                have HC14 := Aside0.mk H
                clear H
                go_upto_region 7 with (first | ((with_reducible refine gate_dst (N := 26) rfl ?_); (try (refine gate_guard (by rfl) ?_; dsimp only)); refine Kd.R_lit (Kd.int .u8) _ 5 ?hg (N := 26) ?hd (xs := ([] : List Int)) (inner := []) (ok := fun _ => True) (okp := fun _ => True) ?hr ?hp (fun _ hk => hk) trivial (Below.refl _ _) (Nat.le_refl _) (by simp) ?_; (case hd => rfl); (case hg => rfl); (case hr => first | (go_simp; done) | (go_simp; rfl)); (case hp => exact (Reps.none _ _)); intro v167 w15 ho16 hb hg_ hnew_; clear hg_ hnew_; (first | rw [← Ny166.out] at ho16 | (simp only [Int.reduceToNat] at ho16; rw [← Ny166.out] at ho16)); have n0_ := Aside0.mk (Kd.R_lower ho16 (below_size (by repeat (first | (with_reducible first | exact HB.out | apply below_alloc | apply pw_below_drewN | apply below_drew1) | exact HB.out)))); have n1_ := Aside0.mk (below_step (by repeat (first | (with_reducible first | exact HB.out | apply below_alloc | apply pw_below_drewN | apply below_drew1) | exact HB.out)) hb); clear HB; have HO168 := n0_; have HB := n1_; clear n0_ n1_; clear hb ho16) | ((with_reducible refine gate_builtin (b := .append) (xs := #[.tmp 26, .tmp 27]) rfl ?_); (try (refine gate_guard (by rfl) ?_; dsimp only)); at_builtin; refine Kd.R_append_rows (Kd.int .u8) (w0 := w) w.heap.size rfl (.tmp 26) (.tmp 27) 22 5 (.int .u8 0) 1 rfl Try.underlying22 info5 rfl (by decide) (by omega) v167 y166 l0 _ _ _ (fun _ => True) (fun _ => False) rfl rfl ?aO ?aR (fun _ _ h => h) (fun _ h => h.elim) ?aF ?aB ?aS ?aL ?_; (case aR => repeat (first | exact (Kd.C_below HR0.out HB.out) | (with_reducible refine Kd.C_alloc ?_ _) | (with_reducible refine Kd.C_drewN ?_ _) | (with_reducible refine Kd.C_drew ?_))); (case aB => exact (by repeat (first | (with_reducible first | exact HB.out | apply below_alloc | apply pw_below_drewN | apply below_drew1) | exact HB.out))); (case aF => exact (fun _ _ => trivial)); (case aO => exact (by (with_reducible repeat (first | apply Kd.R_alloc | apply Kd.R_drewN | apply Kd.R_drew)); exact HO168.out)); (case aS => exact (below_size (by repeat (first | (with_reducible first | exact HB.out | apply below_alloc | apply pw_below_drewN | apply below_drew1) | exact HB.out)))); (case aL => have := LMc9.out; omega); intro v170 w17 ho hb hg hat; rw [← Ny169.out] at ho; have n0_ := Aside0.mk (hb); have n1_ := Aside0.mk (ho); clear HB; clear HO168; have HB := n0_; have HO171 := n1_; clear n0_ n1_; clear ho hb hg hat) | ((with_reducible refine gate_builtin (b := .append) (xs := #[.tmp 28, .tmp 29]) rfl ?_); (try (refine gate_guard (by rfl) ?_; dsimp only)); at_builtin; refine Kd.R_append_rows (Kd.int .u8) (w0 := w) w.heap.size rfl (.tmp 28) (.tmp 29) 22 5 (.int .u8 0) 1 rfl Try.underlying22 info5 rfl (by decide) (by omega) v170 y169 l1 _ _ _ (fun _ => True) (fun _ => False) rfl rfl ?aO ?aR (fun _ _ h => h) (fun _ h => h.elim) ?aF ?aB ?aS ?aL ?_; (case aR => repeat (first | exact (Kd.C_below HR1.out HB.out) | (with_reducible refine Kd.C_alloc ?_ _) | (with_reducible refine Kd.C_drewN ?_ _) | (with_reducible refine Kd.C_drew ?_))); (case aB => exact (by repeat (first | (with_reducible first | exact HB.out | apply below_alloc | apply pw_below_drewN | apply below_drew1) | exact HB.out))); (case aF => exact (fun _ _ => trivial)); (case aO => exact (by (with_reducible repeat (first | apply Kd.R_alloc | apply Kd.R_drewN | apply Kd.R_drew)); exact HO171.out)); (case aS => exact (below_size (by repeat (first | (with_reducible first | exact HB.out | apply below_alloc | apply pw_below_drewN | apply below_drew1) | exact HB.out)))); (case aL => have := LMc10.out; omega); intro v173 w18 ho hb hg hat; rw [← Ny172.out] at ho; have n0_ := Aside0.mk (hb); have n1_ := Aside0.mk (ho); clear HB; clear HO171; have HB := n0_; have HO174 := n1_; clear n0_ n1_; clear ho hb hg hat) | ((with_reducible refine gate_dst (N := 31) rfl ?_); (try (refine gate_guard (by rfl) ?_; dsimp only)); refine Kd.R_lit (Kd.int .u8) _ 5 ?hg (N := 31) ?hd (xs := ([] : List Int)) (inner := []) (ok := fun _ => True) (okp := fun _ => True) ?hr ?hp (fun _ hk => hk) trivial (Below.refl _ _) (Nat.le_refl _) (by simp) ?_; (case hd => rfl); (case hg => rfl); (case hr => first | (go_simp; done) | (go_simp; rfl)); (case hp => exact (Reps.none _ _)); intro v176 w19 ho20 hb hg_ hnew_; clear hg_ hnew_; (first | rw [← Ny175.out] at ho20 | (simp only [Int.reduceToNat] at ho20; rw [← Ny175.out] at ho20)); have n0_ := Aside0.mk (Kd.R_elder' (by (with_reducible repeat (first | apply Kd.R_alloc | apply Kd.R_drewN | apply Kd.R_drew)); exact HO174.out) (Kd.R_base ho20) hb); have n1_ := Aside0.mk (Kd.R_lower (Kd.R_new' ho20 (Kd.R_lt (by (with_reducible repeat (first | apply Kd.R_alloc | apply Kd.R_drewN | apply Kd.R_drew)); exact HO174.out))) (below_size (by repeat (first | (with_reducible first | exact HB.out | apply below_alloc | apply pw_below_drewN | apply below_drew1) | exact HB.out)))); have n2_ := Aside0.mk (below_step (by repeat (first | (with_reducible first | exact HB.out | apply below_alloc | apply pw_below_drewN | apply below_drew1) | exact HB.out)) hb); clear HO174; clear HB; have HO174 := n0_; have HO177 := n1_; have HB := n2_; clear n0_ n1_ n2_; clear hb ho20; obtain ⟨Ao22, co22, eo22⟩ := Kd.R_slice HO174.out; subst eo22) | ((with_reducible refine gate_builtin (b := .append) (xs := #[.tmp 31, .tmp 32]) rfl ?_); (try (refine gate_guard (by rfl) ?_; dsimp only)); at_builtin; refine Kd.R_append_rows (Kd.int .u8) (w0 := w) w.heap.size rfl (.tmp 31) (.tmp 32) 22 5 (.int .u8 0) 1 rfl Try.underlying22 info5 rfl (by decide) (by omega) v176 y175 y172 _ _ _ (fun k_ => some k_ ≠ (.slice Ao22 y172.length co22 : Value).ownBlock) (fun _ => False) rfl rfl ?aO ?aR (fun _ _ h => h) (fun _ h => h.elim) ?aF ?aB ?aS ?aL ?_; (case aR => repeat (first | exact (Kd.R_reads' HO174.out).2.2 | (with_reducible refine Kd.C_alloc ?_ _) | (with_reducible refine Kd.C_drewN ?_ _) | (with_reducible refine Kd.C_drew ?_))); (case aB => exact (by repeat (first | (with_reducible first | exact HB.out | apply below_alloc | apply pw_below_drewN | apply below_drew1) | exact HB.out))); (case aF => exact (fun k_ hk => Kd.fresh' (Kd.R_lt (by (with_reducible repeat (first | apply Kd.R_alloc | apply Kd.R_drewN | apply Kd.R_drew)); exact HO174.out)) k_ hk)); (case aO => exact (by (with_reducible repeat (first | apply Kd.R_alloc | apply Kd.R_drewN | apply Kd.R_drew)); exact Kd.R_mono HO177.out (fun _ hk => hk.2))); (case aS => exact (below_size (by repeat (first | (with_reducible first | exact HB.out | apply below_alloc | apply pw_below_drewN | apply below_drew1) | exact HB.out)))); (case aL => have := LMc11.out; omega); intro v179 w21 ho hb hg hat; rw [← Ny178.out] at ho; have n0_ := Aside0.mk (Kd.R_after (ok := (fun _ => True)) (by (with_reducible repeat (first | apply Kd.R_alloc | apply Kd.R_drewN | apply Kd.R_drew)); exact HO174.out) hg hat); have n1_ := Aside0.mk (hb); have n2_ := Aside0.mk (ho); clear HO174; clear HB; clear HO177; have HO174 := n0_; have HB := n1_; have HO180 := n2_; clear n0_ n1_ n2_; clear ho hb hg hat) | ((with_reducible refine gate_dst (N := 34) rfl ?_); (try (refine gate_guard (by rfl) ?_; dsimp only)); refine Kd.R_lit (Kd.int .u8) _ 5 ?hg (N := 34) ?hd (xs := ([0, 0] : List Int)) (inner := [.int .u8 0, .int .u8 0]) (ok := fun _ => True) (okp := fun _ => True) ?hr ?hp (fun _ hk => hk) trivial (Below.refl _ _) (Nat.le_refl _) (by simp) ?_; (case hd => rfl); (case hg => rfl); (case hr => first | (go_simp; done) | (go_simp; rfl)); (case hp => exact (Reps.one (show Kd.M (Kd.int .u8) _ _ _ 0 [.int .u8 0] from rfl) (Reps.one (show Kd.M (Kd.int .u8) _ _ _ 0 [.int .u8 0] from rfl) (Reps.none _ _)))); intro v182 w23 ho24 hb hg_ hnew_; clear hg_ hnew_; (first | rw [← Ny181.out] at ho24 | (simp only [Int.reduceToNat] at ho24; rw [← Ny181.out] at ho24)); have n0_ := Aside0.mk (Kd.R_elder' (by (with_reducible repeat (first | apply Kd.R_alloc | apply Kd.R_drewN | apply Kd.R_drew)); exact HO174.out) (Kd.R_base ho24) hb); have n1_ := Aside0.mk (Kd.R_elder' (by (with_reducible repeat (first | apply Kd.R_alloc | apply Kd.R_drewN | apply Kd.R_drew)); exact HO180.out) (Kd.R_base ho24) hb); have n2_ := Aside0.mk (Kd.R_lower (Kd.R_new' (Kd.R_new' ho24 (Kd.R_lt (by (with_reducible repeat (first | apply Kd.R_alloc | apply Kd.R_drewN | apply Kd.R_drew)); exact HO174.out))) (Kd.R_lt (by (with_reducible repeat (first | apply Kd.R_alloc | apply Kd.R_drewN | apply Kd.R_drew)); exact HO180.out))) (below_size (by repeat (first | (with_reducible first | exact HB.out | apply below_alloc | apply pw_below_drewN | apply below_drew1) | exact HB.out)))); have n3_ := Aside0.mk (below_step (by repeat (first | (with_reducible first | exact HB.out | apply below_alloc | apply pw_below_drewN | apply below_drew1) | exact HB.out)) hb); clear HO174; clear HO180; clear HB; have HO174 := n0_; have HO180 := n1_; have HO183 := n2_; have HB := n3_; clear n0_ n1_ n2_ n3_; clear hb ho24; obtain ⟨Ao26, co26, eo26⟩ := Kd.R_slice HO183.out; subst eo26) | ((with_reducible refine gate_builtin (b := .append) (xs := #[.tmp 33, .tmp 34]) rfl ?_); (try (refine gate_guard (by rfl) ?_; dsimp only)); at_builtin; refine Kd.R_append_rows (Kd.int .u8) (w0 := w) w.heap.size rfl (.tmp 33) (.tmp 34) 22 5 (.int .u8 0) 1 rfl Try.underlying22 info5 rfl (by decide) (by omega) v179 y178 y181 _ _ _ (fun k_ => some k_ ≠ (.slice Ao22 y172.length co22 : Value).ownBlock ∧ some k_ ≠ (.slice Ao26 y181.length co26 : Value).ownBlock) (fun _ => False) rfl rfl ?aO ?aR (fun _ _ h => h) (fun _ h => h.elim) ?aF ?aB ?aS ?aL ?_; (case aR => repeat (first | exact (Kd.R_reads' HO183.out).2.2 | (with_reducible refine Kd.C_alloc ?_ _) | (with_reducible refine Kd.C_drewN ?_ _) | (with_reducible refine Kd.C_drew ?_))); (case aB => exact (by repeat (first | (with_reducible first | exact HB.out | apply below_alloc | apply pw_below_drewN | apply below_drew1) | exact HB.out))); (case aF => exact (fun k_ hk => ⟨Kd.fresh' (Kd.R_lt (by (with_reducible repeat (first | apply Kd.R_alloc | apply Kd.R_drewN | apply Kd.R_drew)); exact HO174.out)) k_ hk, Kd.fresh' (Kd.R_lt (by (with_reducible repeat (first | apply Kd.R_alloc | apply Kd.R_drewN | apply Kd.R_drew)); exact HO183.out)) k_ hk⟩)); (case aO => exact (by (with_reducible repeat (first | apply Kd.R_alloc | apply Kd.R_drewN | apply Kd.R_drew)); exact HO180.out)); (case aS => exact (below_size (by repeat (first | (with_reducible first | exact HB.out | apply below_alloc | apply pw_below_drewN | apply below_drew1) | exact HB.out)))); (case aL => have := LMc12.out; omega); intro v185 w25 ho hb hg hat; rw [← Ny184.out] at ho; have n0_ := Aside0.mk (Kd.R_after (ok := (fun k_ => some k_ ≠ (.slice Ao26 y181.length co26 : Value).ownBlock)) (by (with_reducible repeat (first | apply Kd.R_alloc | apply Kd.R_drewN | apply Kd.R_drew)); exact Kd.R_mono HO174.out (fun _ hk => ⟨hk.2, hk.1.2⟩)) hg hat); have n1_ := Aside0.mk (Kd.R_after (ok := (fun k_ => some k_ ≠ (.slice Ao22 y172.length co22 : Value).ownBlock)) (by (with_reducible repeat (first | apply Kd.R_alloc | apply Kd.R_drewN | apply Kd.R_drew)); exact Kd.R_mono HO183.out (fun _ hk => ⟨hk.1.2, hk.2⟩)) hg hat); have n2_ := Aside0.mk (hb); have n3_ := Aside0.mk (ho); clear HO174; clear HO183; clear HB; clear HO180; have HO174 := n0_; have HO183 := n1_; have HB := n2_; have HO186 := n3_; clear n0_ n1_ n2_ n3_; clear ho hb hg hat) | ((with_reducible refine gate_callee (f := 13) rfl ?_); refine goesL_ (some 37) rfl rfl Try.func13 (by kernel_rfl) rfl #[.slice Ao22 y172.length co22] rfl (by (try simp only [List.map_toArray, List.map_cons, List.map_nil]); first | done | rfl | (simp only [List.length_drop, List.length_take]; rfl)) ?_; (with_reducible refine (sum_Of.calls _ _ y172 t187 _ ?side1 ?side2 A13.out).mono ?_); (case side1 => repeat (first | exact (Kd.R_reads' HO174.out).2.2 | (with_reducible refine Kd.C_alloc ?_ _) | (with_reducible refine Kd.C_drewN ?_ _) | (with_reducible refine Kd.C_drew ?_))); (case side2 => exact (Kd.R_reads' HO174.out).2.1); rintro e w27 ⟨rfl, hb⟩; refine ⟨_, rfl, ?_⟩; have n0_ := Aside0.mk (Kd.R_below (by (with_reducible repeat (first | apply Kd.R_alloc | apply Kd.R_drewN | apply Kd.R_drew)); exact HO174.out) hb); have n1_ := Aside0.mk (Kd.R_below (by (with_reducible repeat (first | apply Kd.R_alloc | apply Kd.R_drewN | apply Kd.R_drew)); exact HO183.out) hb); have n2_ := Aside0.mk (Kd.R_below (by (with_reducible repeat (first | apply Kd.R_alloc | apply Kd.R_drewN | apply Kd.R_drew)); exact HO186.out) hb); have n3_ := Aside0.mk (below_step (by repeat (first | (with_reducible first | exact HB.out | apply below_alloc | apply pw_below_drewN | apply below_drew1) | exact HB.out)) hb); clear HO174; clear HO183; clear HO186; clear HB; have HO174 := n0_; have HO183 := n1_; have HO186 := n2_; have HB := n3_; clear n0_ n1_ n2_ n3_; (try clear hb); (try clear hb2); (try clear hk); (try clear hi)))
                (try simp only [Act.put, List.setIfInBounds_toArray, List.set_cons_zero, List.set_cons_succ])
                go_cut [53] (fun v53 wc => ∃ (kq : Nat) (x53_13 : Bool), v53 = .bool x53_13 ∧ Aside0 (stolonlaw02_SumSwaps.j1 kq a2 t165 y172 t187 x53_13 = some r) ∧ Aside0 (kq ≤ kj4) ∧ Aside0 (Kd.R (Kd.int .u8) 5 wc w.heap.size (fun _ => True) (.slice Ao22 y172.length co22) y172) ∧ Aside0 (Below w.heap.size w wc))
                case first =>
                  have H := HC14.out
                  clear HC14
                  replace H := Option.bind_eq_some_iff.mp H
                  obtain ⟨t188, A280, H⟩ := H
                  replace H : (if t188 = t187 then ((sum_Of.f l0).bind fun t189 => ((sum_Of.f l1).bind fun t190 => ((sum_Join.f (IntKind.u16.wrap (65535 - t189)) (IntKind.u16.wrap (65535 - t190))).bind fun t191 => (stolonlaw02_SumSwaps.j1 kj4 a2 t165 y172 t187 ((IntKind.u16.wrap (65535 - t187)) != t191))))) else (stolonlaw02_SumSwaps.j1 kj4 a2 t165 y172 t187 true)) = some r := H
                  have A28 := Aside0.mk A280
                  clear A280
                  by_cases c29 : t188 = t187
                  · rw [if_pos c29] at H
                    have c29b0 : (t188 == t187) = true := beq_iff_eq.mpr c29
                    have c29b1 : (t188 != t187) = false := bne_eq_false_iff_eq.mpr c29
                    clear c29
                    (first | rw [c29b0] | (simp only [i64_w, i32_w]; rw [c29b0]) | skip)
                    replace H := Option.bind_eq_some_iff.mp H
                    obtain ⟨t189, A300, H⟩ := H
                    replace H : ((sum_Of.f l1).bind fun t190 => ((sum_Join.f (IntKind.u16.wrap (65535 - t189)) (IntKind.u16.wrap (65535 - t190))).bind fun t191 => (stolonlaw02_SumSwaps.j1 kj4 a2 t165 y172 t187 ((IntKind.u16.wrap (65535 - t187)) != t191)))) = some r := H
                    have A30 := Aside0.mk A300
                    clear A300
                    replace H := Option.bind_eq_some_iff.mp H
                    obtain ⟨t190, A310, H⟩ := H
                    replace H : ((sum_Join.f (IntKind.u16.wrap (65535 - t189)) (IntKind.u16.wrap (65535 - t190))).bind fun t191 => (stolonlaw02_SumSwaps.j1 kj4 a2 t165 y172 t187 ((IntKind.u16.wrap (65535 - t187)) != t191))) = some r := H
                    have A31 := Aside0.mk A310
                    clear A310
                    replace H := Option.bind_eq_some_iff.mp H
                    obtain ⟨t191, A320, H⟩ := H
                    replace H : (stolonlaw02_SumSwaps.j1 kj4 a2 t165 y172 t187 ((IntKind.u16.wrap (65535 - t187)) != t191)) = some r := H
                    have A32 := Aside0.mk A320
                    clear A320
                    have H' := Aside0.mk H
                    clear H
                    obtain ⟨Ao33, co33, eo33⟩ := Kd.R_slice HO186.out
                    subst eo33
                    go_wp2_with (first | ((with_reducible refine gate_callee (f := 13) rfl ?_); refine goesL_ (some 39) rfl rfl Try.func13 (by kernel_rfl) rfl #[.slice Ao33 y184.length co33] rfl (by (try simp only [List.map_toArray, List.map_cons, List.map_nil]); first | done | rfl | (simp only [List.length_drop, List.length_take]; rfl)) ?_; (with_reducible refine (sum_Of.calls _ _ y184 t188 _ ?side1 ?side2 A28.out).mono ?_); (case side1 => repeat (first | exact (Kd.R_reads' HO186.out).2.2 | (with_reducible refine Kd.C_alloc ?_ _) | (with_reducible refine Kd.C_drewN ?_ _) | (with_reducible refine Kd.C_drew ?_))); (case side2 => exact (Kd.R_reads' HO186.out).2.1); rintro e w34 ⟨rfl, hb⟩; refine ⟨_, rfl, ?_⟩; have n0_ := Aside0.mk (Kd.R_below (by (with_reducible repeat (first | apply Kd.R_alloc | apply Kd.R_drewN | apply Kd.R_drew)); exact HO174.out) hb); have n1_ := Aside0.mk (Kd.R_below (by (with_reducible repeat (first | apply Kd.R_alloc | apply Kd.R_drewN | apply Kd.R_drew)); exact HO183.out) hb); have n2_ := Aside0.mk (Kd.R_below (by (with_reducible repeat (first | apply Kd.R_alloc | apply Kd.R_drewN | apply Kd.R_drew)); exact HO186.out) hb); have n3_ := Aside0.mk (below_step (by repeat (first | (with_reducible first | exact HB.out | apply below_alloc | apply pw_below_drewN | apply below_drew1) | exact HB.out)) hb); clear HO174; clear HO183; clear HO186; clear HB; have HO174 := n0_; have HO183 := n1_; have HO186 := n2_; have HB := n3_; clear n0_ n1_ n2_ n3_; (try clear hb); (try clear hb2); (try clear hk); (try clear hi)) | (go_at_call 13; (with_reducible refine (sum_Of.calls _ _ l0 t189 _ ?side1 ?side2 A30.out).mono ?_); (case side1 => repeat (first | exact (Kd.C_below HR0.out HB.out) | (with_reducible refine Kd.C_alloc ?_ _) | (with_reducible refine Kd.C_drewN ?_ _) | (with_reducible refine Kd.C_drew ?_))); (case side2 => exact HC0.out); rintro e w35 ⟨rfl, hb⟩; have n0_ := Aside0.mk (Kd.R_below (by (with_reducible repeat (first | apply Kd.R_alloc | apply Kd.R_drewN | apply Kd.R_drew)); exact HO174.out) hb); have n1_ := Aside0.mk (Kd.R_below (by (with_reducible repeat (first | apply Kd.R_alloc | apply Kd.R_drewN | apply Kd.R_drew)); exact HO183.out) hb); have n2_ := Aside0.mk (Kd.R_below (by (with_reducible repeat (first | apply Kd.R_alloc | apply Kd.R_drewN | apply Kd.R_drew)); exact HO186.out) hb); have n3_ := Aside0.mk (below_step (by repeat (first | (with_reducible first | exact HB.out | apply below_alloc | apply pw_below_drewN | apply below_drew1) | exact HB.out)) hb); clear HO174; clear HO183; clear HO186; clear HB; have HO174 := n0_; have HO183 := n1_; have HO186 := n2_; have HB := n3_; clear n0_ n1_ n2_ n3_; (try clear hb); (try clear hb2); (try clear hk); (try clear hi)) | (go_at_call 13; (with_reducible refine (sum_Of.calls _ _ l1 t190 _ ?side1 ?side2 A31.out).mono ?_); (case side1 => repeat (first | exact (Kd.C_below HR1.out HB.out) | (with_reducible refine Kd.C_alloc ?_ _) | (with_reducible refine Kd.C_drewN ?_ _) | (with_reducible refine Kd.C_drew ?_))); (case side2 => exact HC1.out); rintro e w36 ⟨rfl, hb⟩; have n0_ := Aside0.mk (Kd.R_below (by (with_reducible repeat (first | apply Kd.R_alloc | apply Kd.R_drewN | apply Kd.R_drew)); exact HO174.out) hb); have n1_ := Aside0.mk (Kd.R_below (by (with_reducible repeat (first | apply Kd.R_alloc | apply Kd.R_drewN | apply Kd.R_drew)); exact HO183.out) hb); have n2_ := Aside0.mk (Kd.R_below (by (with_reducible repeat (first | apply Kd.R_alloc | apply Kd.R_drewN | apply Kd.R_drew)); exact HO186.out) hb); have n3_ := Aside0.mk (below_step (by repeat (first | (with_reducible first | exact HB.out | apply below_alloc | apply pw_below_drewN | apply below_drew1) | exact HB.out)) hb); clear HO174; clear HO183; clear HO186; clear HB; have HO174 := n0_; have HO183 := n1_; have HO186 := n2_; have HB := n3_; clear n0_ n1_ n2_ n3_; (try clear hb); (try clear hb2); (try clear hk); (try clear hi)) | (go_at_call 16; (with_reducible refine (sum_Join.calls (IntKind.u16.wrap (65535 - t189)) (IntKind.u16.wrap (65535 - t190)) t191 _ A32.out).mono ?_); rintro e w' ⟨rfl, ⟨nd, rfl⟩⟩))
                    go_meet
                    case rel => exact ⟨_, (((IntKind.u16.wrap (65535 - t187)) != t191)), (by first | rfl | (simp; done) | (simp [*]; done)), H', ⟨by have := HJ4.out; first | omega | exact Nat.le_refl _⟩, ⟨by (with_reducible repeat (first | apply Kd.R_alloc | apply Kd.R_drewN | apply Kd.R_drew)); exact Kd.R_mono HO174.out (fun _ hk => trivial)⟩, ⟨by repeat (first | (with_reducible first | exact HB.out | apply below_alloc | apply pw_below_drewN | apply below_drew1) | exact HB.out)⟩⟩
                  · rw [if_neg c29] at H
                    have c29b0 : (t188 == t187) = false := beq_eq_false_iff_ne.mpr c29
                    have c29b1 : (t188 != t187) = true := bne_iff_ne.mpr c29
                    (first | rw [c29b0] | (simp only [i64_w, i32_w]; rw [c29b0]) | skip)
                    have H' := Aside0.mk H
                    clear H
                    obtain ⟨Ao37, co37, eo37⟩ := Kd.R_slice HO186.out
                    subst eo37
                    go_wp2_with (first | ((with_reducible refine gate_callee (f := 13) rfl ?_); refine goesL_ (some 39) rfl rfl Try.func13 (by kernel_rfl) rfl #[.slice Ao37 y184.length co37] rfl (by (try simp only [List.map_toArray, List.map_cons, List.map_nil]); first | done | rfl | (simp only [List.length_drop, List.length_take]; rfl)) ?_; (with_reducible refine (sum_Of.calls _ _ y184 t188 _ ?side1 ?side2 A28.out).mono ?_); (case side1 => repeat (first | exact (Kd.R_reads' HO186.out).2.2 | (with_reducible refine Kd.C_alloc ?_ _) | (with_reducible refine Kd.C_drewN ?_ _) | (with_reducible refine Kd.C_drew ?_))); (case side2 => exact (Kd.R_reads' HO186.out).2.1); rintro e w38 ⟨rfl, hb⟩; refine ⟨_, rfl, ?_⟩; have n0_ := Aside0.mk (Kd.R_below (by (with_reducible repeat (first | apply Kd.R_alloc | apply Kd.R_drewN | apply Kd.R_drew)); exact HO174.out) hb); have n1_ := Aside0.mk (Kd.R_below (by (with_reducible repeat (first | apply Kd.R_alloc | apply Kd.R_drewN | apply Kd.R_drew)); exact HO183.out) hb); have n2_ := Aside0.mk (Kd.R_below (by (with_reducible repeat (first | apply Kd.R_alloc | apply Kd.R_drewN | apply Kd.R_drew)); exact HO186.out) hb); have n3_ := Aside0.mk (below_step (by repeat (first | (with_reducible first | exact HB.out | apply below_alloc | apply pw_below_drewN | apply below_drew1) | exact HB.out)) hb); clear HO174; clear HO183; clear HO186; clear HB; have HO174 := n0_; have HO183 := n1_; have HO186 := n2_; have HB := n3_; clear n0_ n1_ n2_ n3_; (try clear hb); (try clear hb2); (try clear hk); (try clear hi)))
                    go_meet
                    case rel => exact ⟨_, (true), (by first | rfl | (simp; done) | (simp [*]; done)), H', ⟨by have := HJ4.out; first | omega | exact Nat.le_refl _⟩, ⟨by (with_reducible repeat (first | apply Kd.R_alloc | apply Kd.R_drewN | apply Kd.R_drew)); exact Kd.R_mono HO174.out (fun _ hk => trivial)⟩, ⟨by repeat (first | (with_reducible first | exact HB.out | apply below_alloc | apply pw_below_drewN | apply below_drew1) | exact HB.out)⟩⟩
                case rest =>
                  clear HC14
                  try clear c1
                  try clear c2
                  try clear p2
                  try clear c6
                  try clear p6
                  try clear c7
                  try clear c7b0
                  try clear c8
                  try clear c9
                  try clear c10
                  try clear c11
                  try clear c12
                  try clear c13
                  try clear c29
                  try clear c29b0
                  try clear c29b1
                  try clear p2
                  try clear p6
                  obtain ⟨kq, x53_13, rfl, HA, HJ13, HO_8, HB⟩ := hcut
                  cases kq with
                  | zero => exact absurd HA.out (by simp [stolonlaw02_SumSwaps.j1])
                  | succ kj13 =>
                    have H := HA.out
                    clear HA
                    simp only [stolonlaw02_SumSwaps.j1] at H
                    by_cases c39 : x53_13 = true
                    · subst c39
                      have H1 : (some false) = some r := by rw [if_pos rfl] at H; exact H
                      clear H
                      have H := H1
                      clear H1
                      obtain rfl := Option.some.inj H
                      go_wp2
                      go_ret
                      exact ⟨by first | rfl | (simp [errW_none, errW_some] <;> rfl) | (simp [*, errW_none, errW_some] <;> rfl), by repeat (first | (with_reducible first | exact HB.out | apply below_alloc | apply pw_below_drewN | apply below_drew1) | exact HB.out)⟩
                    · replace c39 := Bool.eq_false_iff.mpr c39
                      subst c39
                      have H1 : (if a2 < 0 then (some t165) else (if (Int.tmod a2 2) = 0 then (if a2 > (wrap64 ((y172.length : Int) - 4)) then (some t165) else ((some (([] : List Int) : List Int)).bind fun y192 => (if y192.length + y172.length < 140737488355328 then ((some (y192 ++ y172 : List Int)).bind fun y195 => (if 0 ≤ (wrap64 (a2 + 2)) then (if (wrap64 (a2 + 2)) < (y172.length : Int) then (if 0 ≤ a2 then (if a2 < (y195.length : Int) then (if 0 ≤ (wrap64 (a2 + 3)) then (if (wrap64 (a2 + 3)) < (y172.length : Int) then (if 0 ≤ (wrap64 (a2 + 1)) then (if (wrap64 (a2 + 1)) < (y195.length : Int) then (if a2 < (y172.length : Int) then (if (wrap64 (a2 + 2)) < (y195.length : Int) then (if (wrap64 (a2 + 1)) < (y172.length : Int) then (if (wrap64 (a2 + 3)) < (y195.length : Int) then (if t165 = true then ((sum_Of.f ((((y195.set (a2 : Int).toNat (rd y172 (wrap64 (a2 + 2)))).set ((wrap64 (a2 + 1)) : Int).toNat (rd y172 (wrap64 (a2 + 3)))).set ((wrap64 (a2 + 2)) : Int).toNat (rd y172 a2)).set ((wrap64 (a2 + 3)) : Int).toNat (rd y172 (wrap64 (a2 + 1))))).bind fun t206 => (some (t206 == t187))) else (some false)) else (none)) else (none)) else (none)) else (none)) else (none)) else (none)) else (none)) else (none)) else (none)) else (none)) else (none)) else (none))) else (none)))) else (some t165))) = some r := by rw [if_neg (show ¬ (false = true) by decide)] at H; exact H
                      clear H
                      have H := H1
                      clear H1
                      by_cases c40 : a2 < 0
                      · rw [if_pos c40] at H
                        have c40b0 : decide (a2 < 0) = true := decide_eq_true c40
                        clear c40
                        obtain rfl := Option.some.inj H
                        go_wp2
                        go_ret
                        exact ⟨by first | rfl | (simp [errW_none, errW_some] <;> rfl) | (simp [*, errW_none, errW_some] <;> rfl), by repeat (first | (with_reducible first | exact HB.out | apply below_alloc | apply pw_below_drewN | apply below_drew1) | exact HB.out)⟩
                      · rw [if_neg c40] at H
                        have c40b0 : decide (a2 < 0) = false := decide_eq_false c40
                        clear c40
                        by_cases c41 : (Int.tmod a2 2) = 0
                        · rw [if_pos c41] at H
                          have c41b0 : ((Int.tmod a2 2) == 0) = true := beq_iff_eq.mpr c41
                          have c41b1 : ((Int.tmod a2 2) != 0) = false := bne_eq_false_iff_eq.mpr c41
                          clear c41
                          by_cases c42 : a2 > (wrap64 ((y172.length : Int) - 4))
                          · rw [if_pos c42] at H
                            have c42b0 : decide ((wrap64 ((y172.length : Int) - 4)) < a2) = true := decide_eq_true c42
                            clear c42
                            obtain rfl := Option.some.inj H
                            go_wp2
                            go_ret
                            exact ⟨by first | rfl | (simp [errW_none, errW_some] <;> rfl) | (simp [*, errW_none, errW_some] <;> rfl), by repeat (first | (with_reducible first | exact HB.out | apply below_alloc | apply pw_below_drewN | apply below_drew1) | exact HB.out)⟩
                          · rw [if_neg c42] at H
                            have c42b0 : decide ((wrap64 ((y172.length : Int) - 4)) < a2) = false := decide_eq_false c42
                            clear c42
                            obtain ⟨y192, hy192⟩ : ∃ y_ : List Int, y_ = (([] : List Int)) := ⟨_, rfl⟩
                            replace H : (if y192.length + y172.length < 140737488355328 then ((some (y192 ++ y172 : List Int)).bind fun y195 => (if 0 ≤ (wrap64 (a2 + 2)) then (if (wrap64 (a2 + 2)) < (y172.length : Int) then (if 0 ≤ a2 then (if a2 < (y195.length : Int) then (if 0 ≤ (wrap64 (a2 + 3)) then (if (wrap64 (a2 + 3)) < (y172.length : Int) then (if 0 ≤ (wrap64 (a2 + 1)) then (if (wrap64 (a2 + 1)) < (y195.length : Int) then (if a2 < (y172.length : Int) then (if (wrap64 (a2 + 2)) < (y195.length : Int) then (if (wrap64 (a2 + 1)) < (y172.length : Int) then (if (wrap64 (a2 + 3)) < (y195.length : Int) then (if t165 = true then ((sum_Of.f ((((y195.set (a2 : Int).toNat (rd y172 (wrap64 (a2 + 2)))).set ((wrap64 (a2 + 1)) : Int).toNat (rd y172 (wrap64 (a2 + 3)))).set ((wrap64 (a2 + 2)) : Int).toNat (rd y172 a2)).set ((wrap64 (a2 + 3)) : Int).toNat (rd y172 (wrap64 (a2 + 1))))).bind fun t206 => (some (t206 == t187))) else (some false)) else (none)) else (none)) else (none)) else (none)) else (none)) else (none)) else (none)) else (none)) else (none)) else (none)) else (none)) else (none))) else (none)) = some r := by first | (rw [hy192]; with_reducible exact H) | (have H2_ := (Option.bind_some _ _).symm.trans H; rw [hy192]; with_reducible exact H2_) | (have H2_ := (Option.bind_some _ _).symm.trans H; with_reducible exact H2_) | with_reducible exact H | (rw [hy192]; exact H) | exact H
                            have Ny192 := Aside0.mk hy192
                            clear hy192
                            by_cases c43 : y192.length + y172.length < 140737488355328
                            · rw [if_pos c43] at H
                              have LMc43 := Aside0.mk c43
                              clear c43
                              obtain ⟨y195, hy195⟩ : ∃ y_ : List Int, y_ = (y192 ++ y172) := ⟨_, rfl⟩
                              replace H : (if 0 ≤ (wrap64 (a2 + 2)) then (if (wrap64 (a2 + 2)) < (y172.length : Int) then (if 0 ≤ a2 then (if a2 < (y195.length : Int) then (if 0 ≤ (wrap64 (a2 + 3)) then (if (wrap64 (a2 + 3)) < (y172.length : Int) then (if 0 ≤ (wrap64 (a2 + 1)) then (if (wrap64 (a2 + 1)) < (y195.length : Int) then (if a2 < (y172.length : Int) then (if (wrap64 (a2 + 2)) < (y195.length : Int) then (if (wrap64 (a2 + 1)) < (y172.length : Int) then (if (wrap64 (a2 + 3)) < (y195.length : Int) then (if t165 = true then ((sum_Of.f ((((y195.set (a2 : Int).toNat (rd y172 (wrap64 (a2 + 2)))).set ((wrap64 (a2 + 1)) : Int).toNat (rd y172 (wrap64 (a2 + 3)))).set ((wrap64 (a2 + 2)) : Int).toNat (rd y172 a2)).set ((wrap64 (a2 + 3)) : Int).toNat (rd y172 (wrap64 (a2 + 1))))).bind fun t206 => (some (t206 == t187))) else (some false)) else (none)) else (none)) else (none)) else (none)) else (none)) else (none)) else (none)) else (none)) else (none)) else (none)) else (none)) else (none)) = some r := by first | (rw [hy195]; with_reducible exact H) | (have H2_ := (Option.bind_some _ _).symm.trans H; rw [hy195]; with_reducible exact H2_) | (have H2_ := (Option.bind_some _ _).symm.trans H; with_reducible exact H2_) | with_reducible exact H | (rw [hy195]; exact H) | exact H
                              have Ny195 := Aside0.mk hy195
                              clear hy195
                              obtain ⟨ji44, hji44⟩ : ∃ j_ : Int, (wrap64 (a2 + 2)) = j_ := ⟨_, rfl⟩
                              replace H : (if 0 ≤ (ji44) then (if (ji44) < (y172.length : Int) then (if 0 ≤ a2 then (if a2 < (y195.length : Int) then (if 0 ≤ (wrap64 (a2 + 3)) then (if (wrap64 (a2 + 3)) < (y172.length : Int) then (if 0 ≤ (wrap64 (a2 + 1)) then (if (wrap64 (a2 + 1)) < (y195.length : Int) then (if a2 < (y172.length : Int) then (if (ji44) < (y195.length : Int) then (if (wrap64 (a2 + 1)) < (y172.length : Int) then (if (wrap64 (a2 + 3)) < (y195.length : Int) then (if t165 = true then ((sum_Of.f ((((y195.set (a2 : Int).toNat (rd y172 (ji44))).set ((wrap64 (a2 + 1)) : Int).toNat (rd y172 (wrap64 (a2 + 3)))).set ((ji44) : Int).toNat (rd y172 a2)).set ((wrap64 (a2 + 3)) : Int).toNat (rd y172 (wrap64 (a2 + 1))))).bind fun t206 => (some (t206 == t187))) else (some false)) else (none)) else (none)) else (none)) else (none)) else (none)) else (none)) else (none)) else (none)) else (none)) else (none)) else (none)) else (none)) = some r := by first | (rw [hji44] at H; exact H) | (simp only [hji44] at H ⊢; exact H)
                              have hji44w : (IntKind.i64.wrap (a2 + 2)) = ji44 := (i64_w _).trans hji44
                              by_cases c45 : 0 ≤ (ji44)
                              · rw [if_pos c45] at H
                                have c45b0 : decide (0 ≤ (ji44)) = true := decide_eq_true c45
                                clear c45
                                by_cases c46 : (ji44) < (y172.length : Int)
                                · rw [if_pos c46] at H
                                  have c46b0 : decide ((ji44) < (y172.length : Int)) = true := decide_eq_true c46
                                  clear c46
                                  by_cases c47 : 0 ≤ a2
                                  · rw [if_pos c47] at H
                                    have c47b0 : decide (0 ≤ a2) = true := decide_eq_true c47
                                    clear c47
                                    by_cases c48 : a2 < (y195.length : Int)
                                    · rw [if_pos c48] at H
                                      have c48b0 : decide (a2 < (y195.length : Int)) = true := decide_eq_true c48
                                      clear c48
                                      obtain ⟨y199, hy199⟩ : ∃ y_ : List Int, y_ = (y195.set (a2 : Int).toNat (rd y172 (ji44))) := ⟨_, rfl⟩
                                      replace H : (if 0 ≤ (wrap64 (a2 + 3)) then (if (wrap64 (a2 + 3)) < (y172.length : Int) then (if 0 ≤ (wrap64 (a2 + 1)) then (if (wrap64 (a2 + 1)) < (y195.length : Int) then (if a2 < (y172.length : Int) then (if (ji44) < (y195.length : Int) then (if (wrap64 (a2 + 1)) < (y172.length : Int) then (if (wrap64 (a2 + 3)) < (y195.length : Int) then (if t165 = true then ((sum_Of.f (((y199.set ((wrap64 (a2 + 1)) : Int).toNat (rd y172 (wrap64 (a2 + 3)))).set ((ji44) : Int).toNat (rd y172 a2)).set ((wrap64 (a2 + 3)) : Int).toNat (rd y172 (wrap64 (a2 + 1))))).bind fun t206 => (some (t206 == t187))) else (some false)) else (none)) else (none)) else (none)) else (none)) else (none)) else (none)) else (none)) else (none)) = some r := by first | (rw [hy199]; with_reducible exact H) | (have H2_ := (Option.bind_some _ _).symm.trans H; rw [hy199]; with_reducible exact H2_) | (have H2_ := (Option.bind_some _ _).symm.trans H; with_reducible exact H2_) | with_reducible exact H | (rw [hy199]; exact H) | exact H
                                      have Ny199 := Aside0.mk hy199
                                      clear hy199
                                      obtain ⟨ji50, hji50⟩ : ∃ j_ : Int, (wrap64 (a2 + 3)) = j_ := ⟨_, rfl⟩
                                      replace H : (if 0 ≤ (ji50) then (if (ji50) < (y172.length : Int) then (if 0 ≤ (wrap64 (a2 + 1)) then (if (wrap64 (a2 + 1)) < (y195.length : Int) then (if a2 < (y172.length : Int) then (if (ji44) < (y195.length : Int) then (if (wrap64 (a2 + 1)) < (y172.length : Int) then (if (ji50) < (y195.length : Int) then (if t165 = true then ((sum_Of.f (((y199.set ((wrap64 (a2 + 1)) : Int).toNat (rd y172 (ji50))).set ((ji44) : Int).toNat (rd y172 a2)).set ((ji50) : Int).toNat (rd y172 (wrap64 (a2 + 1))))).bind fun t206 => (some (t206 == t187))) else (some false)) else (none)) else (none)) else (none)) else (none)) else (none)) else (none)) else (none)) else (none)) = some r := by first | (rw [hji50] at H; exact H) | (simp only [hji50] at H ⊢; exact H)
                                      have hji50w : (IntKind.i64.wrap (a2 + 3)) = ji50 := (i64_w _).trans hji50
                                      by_cases c51 : 0 ≤ (ji50)
                                      · rw [if_pos c51] at H
                                        have c51b0 : decide (0 ≤ (ji50)) = true := decide_eq_true c51
                                        clear c51
                                        by_cases c52 : (ji50) < (y172.length : Int)
                                        · rw [if_pos c52] at H
                                          have c52b0 : decide ((ji50) < (y172.length : Int)) = true := decide_eq_true c52
                                          clear c52
                                          obtain ⟨ji53, hji53⟩ : ∃ j_ : Int, (wrap64 (a2 + 1)) = j_ := ⟨_, rfl⟩
                                          replace H : (if 0 ≤ (ji53) then (if (ji53) < (y195.length : Int) then (if a2 < (y172.length : Int) then (if (ji44) < (y195.length : Int) then (if (ji53) < (y172.length : Int) then (if (ji50) < (y195.length : Int) then (if t165 = true then ((sum_Of.f (((y199.set ((ji53) : Int).toNat (rd y172 (ji50))).set ((ji44) : Int).toNat (rd y172 a2)).set ((ji50) : Int).toNat (rd y172 (ji53)))).bind fun t206 => (some (t206 == t187))) else (some false)) else (none)) else (none)) else (none)) else (none)) else (none)) else (none)) = some r := by first | (rw [hji53] at H; exact H) | (simp only [hji53] at H ⊢; exact H)
                                          have hji53w : (IntKind.i64.wrap (a2 + 1)) = ji53 := (i64_w _).trans hji53
                                          by_cases c54 : 0 ≤ (ji53)
                                          · rw [if_pos c54] at H
                                            have c54b0 : decide (0 ≤ (ji53)) = true := decide_eq_true c54
                                            clear c54
                                            by_cases c55 : (ji53) < (y195.length : Int)
                                            · rw [if_pos c55] at H
                                              have c55b0 : decide ((ji53) < (y195.length : Int)) = true := decide_eq_true c55
                                              clear c55
                                              obtain ⟨y201, hy201⟩ : ∃ y_ : List Int, y_ = (y199.set ((ji53) : Int).toNat (rd y172 (ji50))) := ⟨_, rfl⟩
                                              replace H : (if a2 < (y172.length : Int) then (if (ji44) < (y195.length : Int) then (if (ji53) < (y172.length : Int) then (if (ji50) < (y195.length : Int) then (if t165 = true then ((sum_Of.f ((y201.set ((ji44) : Int).toNat (rd y172 a2)).set ((ji50) : Int).toNat (rd y172 (ji53)))).bind fun t206 => (some (t206 == t187))) else (some false)) else (none)) else (none)) else (none)) else (none)) = some r := by first | (rw [hy201]; with_reducible exact H) | (have H2_ := (Option.bind_some _ _).symm.trans H; rw [hy201]; with_reducible exact H2_) | (have H2_ := (Option.bind_some _ _).symm.trans H; with_reducible exact H2_) | with_reducible exact H | (rw [hy201]; exact H) | exact H
                                              have Ny201 := Aside0.mk hy201
                                              clear hy201
                                              by_cases c57 : a2 < (y172.length : Int)
                                              · rw [if_pos c57] at H
                                                have c57b0 : decide (a2 < (y172.length : Int)) = true := decide_eq_true c57
                                                clear c57
                                                by_cases c58 : (ji44) < (y195.length : Int)
                                                · rw [if_pos c58] at H
                                                  have c58b0 : decide ((ji44) < (y195.length : Int)) = true := decide_eq_true c58
                                                  clear c58
                                                  obtain ⟨y203, hy203⟩ : ∃ y_ : List Int, y_ = (y201.set ((ji44) : Int).toNat (rd y172 a2)) := ⟨_, rfl⟩
                                                  replace H : (if (ji53) < (y172.length : Int) then (if (ji50) < (y195.length : Int) then (if t165 = true then ((sum_Of.f (y203.set ((ji50) : Int).toNat (rd y172 (ji53)))).bind fun t206 => (some (t206 == t187))) else (some false)) else (none)) else (none)) = some r := by first | (rw [hy203]; with_reducible exact H) | (have H2_ := (Option.bind_some _ _).symm.trans H; rw [hy203]; with_reducible exact H2_) | (have H2_ := (Option.bind_some _ _).symm.trans H; with_reducible exact H2_) | with_reducible exact H | (rw [hy203]; exact H) | exact H
                                                  have Ny203 := Aside0.mk hy203
                                                  clear hy203
                                                  by_cases c60 : (ji53) < (y172.length : Int)
                                                  · rw [if_pos c60] at H
                                                    have c60b0 : decide ((ji53) < (y172.length : Int)) = true := decide_eq_true c60
                                                    clear c60
                                                    by_cases c61 : (ji50) < (y195.length : Int)
                                                    · rw [if_pos c61] at H
                                                      have c61b0 : decide ((ji50) < (y195.length : Int)) = true := decide_eq_true c61
                                                      clear c61
                                                      obtain ⟨y205, hy205⟩ : ∃ y_ : List Int, y_ = (y203.set ((ji50) : Int).toNat (rd y172 (ji53))) := ⟨_, rfl⟩
                                                      replace H : (if t165 = true then ((sum_Of.f y205).bind fun t206 => (some (t206 == t187))) else (some false)) = some r := by first | (rw [hy205]; with_reducible exact H) | (have H2_ := (Option.bind_some _ _).symm.trans H; rw [hy205]; with_reducible exact H2_) | (have H2_ := (Option.bind_some _ _).symm.trans H; with_reducible exact H2_) | with_reducible exact H | (rw [hy205]; exact H) | exact H
                                                      have Ny205 := Aside0.mk hy205
                                                      clear hy205
                                                      by_cases c63 : t165 = true
                                                      · subst c63
                                                        have H1 : ((sum_Of.f y205).bind fun t206 => (some (t206 == t187))) = some r := by rw [if_pos rfl] at H; exact H
                                                        clear H
                                                        have H := H1
                                                        clear H1
                                                        replace H := Option.bind_eq_some_iff.mp H
                                                        obtain ⟨t206, A640, H⟩ := H
                                                        replace H : (some (t206 == t187)) = some r := H
                                                        have A64 := Aside0.mk A640
                                                        clear A640
                                                        obtain rfl := Option.some.inj H
                                                        go_wp2_with (first | ((with_reducible refine gate_dst (N := 69) rfl ?_); (try (refine gate_guard (by rfl) ?_; dsimp only)); refine Kd.R_lit (Kd.int .u8) _ 5 ?hg (N := 69) ?hd (xs := ([] : List Int)) (inner := []) (ok := fun _ => True) (okp := fun _ => True) ?hr ?hp (fun _ hk => hk) trivial (Below.refl _ _) (Nat.le_refl _) (by simp) ?_; (case hd => rfl); (case hg => rfl); (case hr => first | (go_simp; done) | (go_simp; rfl)); (case hp => exact (Reps.none _ _)); intro v193 w65 ho66 hb hg_ hnew_; clear hg_ hnew_; (first | rw [← Ny192.out] at ho66 | (simp only [Int.reduceToNat] at ho66; rw [← Ny192.out] at ho66)); have n0_ := Aside0.mk (Kd.R_elder' (by (with_reducible repeat (first | apply Kd.R_alloc | apply Kd.R_drewN | apply Kd.R_drew)); exact HO_8.out) (Kd.R_base ho66) hb); have n1_ := Aside0.mk (Kd.R_lower (Kd.R_new' ho66 (Kd.R_lt (by (with_reducible repeat (first | apply Kd.R_alloc | apply Kd.R_drewN | apply Kd.R_drew)); exact HO_8.out))) (below_size (by repeat (first | (with_reducible first | exact HB.out | apply below_alloc | apply pw_below_drewN | apply below_drew1) | exact HB.out)))); have n2_ := Aside0.mk (below_step (by repeat (first | (with_reducible first | exact HB.out | apply below_alloc | apply pw_below_drewN | apply below_drew1) | exact HB.out)) hb); clear HO_8; clear HB; have HO_8 := n0_; have HO194 := n1_; have HB := n2_; clear n0_ n1_ n2_; clear hb ho66) | ((with_reducible refine gate_builtin (b := .append) (xs := #[.tmp 69, .tmp 70]) rfl ?_); (try (refine gate_guard (by rfl) ?_; dsimp only)); at_builtin; refine Kd.R_append_rows (Kd.int .u8) (w0 := w) w.heap.size rfl (.tmp 69) (.tmp 70) 22 5 (.int .u8 0) 1 rfl Try.underlying22 info5 rfl (by decide) (by omega) v193 y192 y172 _ _ _ (fun k_ => some k_ ≠ (.slice Ao22 y172.length co22 : Value).ownBlock) (fun _ => False) rfl rfl ?aO ?aR (fun _ _ h => h) (fun _ h => h.elim) ?aF ?aB ?aS ?aL ?_; (case aR => repeat (first | exact (Kd.R_reads' HO_8.out).2.2 | (with_reducible refine Kd.C_alloc ?_ _) | (with_reducible refine Kd.C_drewN ?_ _) | (with_reducible refine Kd.C_drew ?_))); (case aB => exact (by repeat (first | (with_reducible first | exact HB.out | apply below_alloc | apply pw_below_drewN | apply below_drew1) | exact HB.out))); (case aF => exact (fun k_ hk => Kd.fresh' (Kd.R_lt (by (with_reducible repeat (first | apply Kd.R_alloc | apply Kd.R_drewN | apply Kd.R_drew)); exact HO_8.out)) k_ hk)); (case aO => exact (by (with_reducible repeat (first | apply Kd.R_alloc | apply Kd.R_drewN | apply Kd.R_drew)); exact Kd.R_mono HO194.out (fun _ hk => hk.2))); (case aS => exact (below_size (by repeat (first | (with_reducible first | exact HB.out | apply below_alloc | apply pw_below_drewN | apply below_drew1) | exact HB.out)))); (case aL => have := LMc43.out; omega); intro v196 w67 ho hb hg hat; rw [← Ny195.out] at ho; have n0_ := Aside0.mk (Kd.R_after (ok := (fun _ => True)) (by (with_reducible repeat (first | apply Kd.R_alloc | apply Kd.R_drewN | apply Kd.R_drew)); exact HO_8.out) hg hat); have n1_ := Aside0.mk (hb); have n2_ := Aside0.mk (ho); clear HO_8; clear HB; clear HO194; have HO_8 := n0_; have HB := n1_; have HO197 := n2_; clear n0_ n1_ n2_; clear ho hb hg hat; have p198 : 0 ≤ ((ji44) : Int) := of_decide_eq_true (by first | (with_reducible assumption) | assumption); have q198 : (ji44) < (y172.length : Int) := of_decide_eq_true (by first | (with_reducible assumption) | assumption); obtain ⟨ad198, e198, hx198_0⟩ := Kd.at_int (Kd.R_reads' HO_8.out).2.2 (ji44) p198 q198; cases e198; replace p198 := eq_true p198; replace q198 := eq_true q198; have p49 : 0 ≤ (a2 : Int) := of_decide_eq_true (by first | (with_reducible assumption) | assumption); have q49 : (a2 : Int) < ((y195.length : Int) : Int) := of_decide_eq_true (by first | (with_reducible assumption) | assumption); obtain ⟨go49, co49, eo49, gb49, gl49, cl49, HG49⟩ := Kd.R_form HO197.out (by omega); (first | cases eo49 | (injection eo49 with ea_ en_ ec_; (first | subst ea_ | (injection ea_ with ea_; subst ea_)); subst ec_; clear en_)); have GB49 := Aside0.mk gb49; have GG49 := Aside0.mk HG49; clear gb49 gl49 HG49; obtain ⟨hx49_0, hf49_0⟩ := Kd.R_celln 0 HO197.out (a2 : Int) p49 q49; replace p49 := eq_true p49; replace q49 := eq_true q49; obtain ⟨hy68_, hz68_⟩ := Kd.R_celln 0 HO197.out (a2 : Int) (of_decide_eq_true (by first | (with_reducible assumption) | assumption)) (of_decide_eq_true (by first | (with_reducible assumption) | assumption)); have HP68 := Kd.R_putg HO197.out (a2 : Int) (rd y172 (ji44))) | ((with_reducible refine gate_store (t := 5) (p := 79) rfl ?_); refine store_event (t := 5) (p := 79) (v := ?vo_w69) (w1 := (w67.setCell ⟨go49, (a2 : Int).toNat, none⟩ (.int .u8 (rd y172 (ji44))))) ?hg ?ho ?hn ?hr ?_; (case ho => rfl); (case hg => rfl); (case hn => rfl); (case hr => first | (go_simp; done) | (go_simp; rfl)); intro w69 hw; have hg : w67.grownBy w69 (some go49) := (by rw [hw]; exact HP68.2); have hp_ : Kd.R (Kd.int .u8) 5 w69 w.heap.size (fun k_ => some k_ ≠ (.slice (some ad198) y172.length co22 : Value).ownBlock) (.slice (some ⟨go49, 0, none⟩) y195.length co49) y199 := (by rw [hw, Ny199.out]; exact HP68.1); clear HP68; have n0_ := Aside0.mk (Kd.R_after (v := (.slice (some ⟨go49, 0, none⟩) y195.length co49)) (v1 := (.slice (some ⟨go49, 0, none⟩) y195.length co49)) (ok := (fun _ => True)) (by (with_reducible repeat (first | apply Kd.R_alloc | apply Kd.R_drewN | apply Kd.R_drew)); exact HO_8.out) hg (.inl rfl)); have n1_ := Aside0.mk (hp_); have n2_ := Aside0.mk ((by rw [hw]; exact below_set (HB.out) GB49.out : Below w.heap.size w w69)); clear HO_8; clear HO197; clear HB; have HO_8 := n0_; have HO197 := n1_; have HB := n2_; clear n0_ n1_ n2_; clear hg hw hp_; have p200 : 0 ≤ ((ji50) : Int) := of_decide_eq_true (by first | (with_reducible assumption) | assumption); have q200 : (ji50) < (y172.length : Int) := of_decide_eq_true (by first | (with_reducible assumption) | assumption); obtain ⟨ad200, e200, hx200_0⟩ := Kd.at_int (Kd.R_reads' HO_8.out).2.2 (ji50) p200 q200; obtain rfl : ad198 = ad200 := (by injection e200); replace p200 := eq_true p200; replace q200 := eq_true q200; have p56 : 0 ≤ ((ji53) : Int) := of_decide_eq_true (by first | (with_reducible assumption) | assumption); have q56 : ((ji53) : Int) < ((y195.length : Int) : Int) := of_decide_eq_true (by first | (with_reducible assumption) | assumption); obtain ⟨hx56_0, hf56_0⟩ := Kd.R_celln 0 HO197.out ((ji53) : Int) p56 q56; replace p56 := eq_true p56; replace q56 := eq_true q56; obtain ⟨hy70_, hz70_⟩ := Kd.R_celln 0 HO197.out ((ji53) : Int) (of_decide_eq_true (by first | (with_reducible assumption) | assumption)) (of_decide_eq_true (by first | (with_reducible assumption) | assumption)); have HP70 := Kd.R_putg HO197.out ((ji53) : Int) (rd y172 (ji50))) | ((with_reducible refine gate_store (t := 5) (p := 88) rfl ?_); refine store_event (t := 5) (p := 88) (v := ?vo_w71) (w1 := (w69.setCell ⟨go49, ((ji53) : Int).toNat, none⟩ (.int .u8 (rd y172 (ji50))))) ?hg ?ho ?hn ?hr ?_; (case ho => rfl); (case hg => rfl); (case hn => rfl); (case hr => first | (go_simp; done) | (go_simp; rfl)); intro w71 hw; have hg : w69.grownBy w71 (some go49) := (by rw [hw]; exact HP70.2); have hp_ : Kd.R (Kd.int .u8) 5 w71 w.heap.size (fun k_ => some k_ ≠ (.slice (some ad198) y172.length co22 : Value).ownBlock) (.slice (some ⟨go49, 0, none⟩) y195.length co49) y201 := (by rw [hw, Ny201.out]; exact HP70.1); clear HP70; have n0_ := Aside0.mk (Kd.R_after (v := (.slice (some ⟨go49, 0, none⟩) y195.length co49)) (v1 := (.slice (some ⟨go49, 0, none⟩) y195.length co49)) (ok := (fun _ => True)) (by (with_reducible repeat (first | apply Kd.R_alloc | apply Kd.R_drewN | apply Kd.R_drew)); exact HO_8.out) hg (.inl rfl)); have n1_ := Aside0.mk (hp_); have n2_ := Aside0.mk ((by rw [hw]; exact below_set (HB.out) GB49.out : Below w.heap.size w w71)); clear HO_8; clear HO197; clear HB; have HO_8 := n0_; have HO197 := n1_; have HB := n2_; clear n0_ n1_ n2_; clear hg hw hp_; have p202 : 0 ≤ (a2 : Int) := of_decide_eq_true (by first | (with_reducible assumption) | assumption); have q202 : a2 < (y172.length : Int) := of_decide_eq_true (by first | (with_reducible assumption) | assumption); obtain ⟨ad202, e202, hx202_0⟩ := Kd.at_int (Kd.R_reads' HO_8.out).2.2 a2 p202 q202; obtain rfl : ad198 = ad202 := (by injection e202); replace p202 := eq_true p202; replace q202 := eq_true q202; have p59 : 0 ≤ ((ji44) : Int) := of_decide_eq_true (by first | (with_reducible assumption) | assumption); have q59 : ((ji44) : Int) < ((y195.length : Int) : Int) := of_decide_eq_true (by first | (with_reducible assumption) | assumption); obtain ⟨hx59_0, hf59_0⟩ := Kd.R_celln 0 HO197.out ((ji44) : Int) p59 q59; replace p59 := eq_true p59; replace q59 := eq_true q59; obtain ⟨hy72_, hz72_⟩ := Kd.R_celln 0 HO197.out ((ji44) : Int) (of_decide_eq_true (by first | (with_reducible assumption) | assumption)) (of_decide_eq_true (by first | (with_reducible assumption) | assumption)); have HP72 := Kd.R_putg HO197.out ((ji44) : Int) (rd y172 a2)) | ((with_reducible refine gate_store (t := 5) (p := 96) rfl ?_); refine store_event (t := 5) (p := 96) (v := ?vo_w73) (w1 := (w71.setCell ⟨go49, ((ji44) : Int).toNat, none⟩ (.int .u8 (rd y172 a2)))) ?hg ?ho ?hn ?hr ?_; (case ho => rfl); (case hg => rfl); (case hn => rfl); (case hr => first | (go_simp; done) | (go_simp; rfl)); intro w73 hw; have hg : w71.grownBy w73 (some go49) := (by rw [hw]; exact HP72.2); have hp_ : Kd.R (Kd.int .u8) 5 w73 w.heap.size (fun k_ => some k_ ≠ (.slice (some ad198) y172.length co22 : Value).ownBlock) (.slice (some ⟨go49, 0, none⟩) y195.length co49) y203 := (by rw [hw, Ny203.out]; exact HP72.1); clear HP72; have n0_ := Aside0.mk (Kd.R_after (v := (.slice (some ⟨go49, 0, none⟩) y195.length co49)) (v1 := (.slice (some ⟨go49, 0, none⟩) y195.length co49)) (ok := (fun _ => True)) (by (with_reducible repeat (first | apply Kd.R_alloc | apply Kd.R_drewN | apply Kd.R_drew)); exact HO_8.out) hg (.inl rfl)); have n1_ := Aside0.mk (hp_); have n2_ := Aside0.mk ((by rw [hw]; exact below_set (HB.out) GB49.out : Below w.heap.size w w73)); clear HO_8; clear HO197; clear HB; have HO_8 := n0_; have HO197 := n1_; have HB := n2_; clear n0_ n1_ n2_; clear hg hw hp_; have p204 : 0 ≤ ((ji53) : Int) := of_decide_eq_true (by first | (with_reducible assumption) | assumption); have q204 : (ji53) < (y172.length : Int) := of_decide_eq_true (by first | (with_reducible assumption) | assumption); obtain ⟨ad204, e204, hx204_0⟩ := Kd.at_int (Kd.R_reads' HO_8.out).2.2 (ji53) p204 q204; obtain rfl : ad198 = ad204 := (by injection e204); replace p204 := eq_true p204; replace q204 := eq_true q204; have p62 : 0 ≤ ((ji50) : Int) := of_decide_eq_true (by first | (with_reducible assumption) | assumption); have q62 : ((ji50) : Int) < ((y195.length : Int) : Int) := of_decide_eq_true (by first | (with_reducible assumption) | assumption); obtain ⟨hx62_0, hf62_0⟩ := Kd.R_celln 0 HO197.out ((ji50) : Int) p62 q62; replace p62 := eq_true p62; replace q62 := eq_true q62; obtain ⟨hy74_, hz74_⟩ := Kd.R_celln 0 HO197.out ((ji50) : Int) (of_decide_eq_true (by first | (with_reducible assumption) | assumption)) (of_decide_eq_true (by first | (with_reducible assumption) | assumption)); have HP74 := Kd.R_putg HO197.out ((ji50) : Int) (rd y172 (ji53))) | ((with_reducible refine gate_store (t := 5) (p := 105) rfl ?_); refine store_event (t := 5) (p := 105) (v := ?vo_w75) (w1 := (w73.setCell ⟨go49, ((ji50) : Int).toNat, none⟩ (.int .u8 (rd y172 (ji53))))) ?hg ?ho ?hn ?hr ?_; (case ho => rfl); (case hg => rfl); (case hn => rfl); (case hr => first | (go_simp; done) | (go_simp; rfl)); intro w75 hw; have hg : w73.grownBy w75 (some go49) := (by rw [hw]; exact HP74.2); have hp_ : Kd.R (Kd.int .u8) 5 w75 w.heap.size (fun k_ => some k_ ≠ (.slice (some ad198) y172.length co22 : Value).ownBlock) (.slice (some ⟨go49, 0, none⟩) y195.length co49) y205 := (by rw [hw, Ny205.out]; exact HP74.1); clear HP74; have n0_ := Aside0.mk (Kd.R_after (v := (.slice (some ⟨go49, 0, none⟩) y195.length co49)) (v1 := (.slice (some ⟨go49, 0, none⟩) y195.length co49)) (ok := (fun _ => True)) (by (with_reducible repeat (first | apply Kd.R_alloc | apply Kd.R_drewN | apply Kd.R_drew)); exact HO_8.out) hg (.inl rfl)); have n1_ := Aside0.mk (hp_); have n2_ := Aside0.mk ((by rw [hw]; exact below_set (HB.out) GB49.out : Below w.heap.size w w75)); clear HO_8; clear HO197; clear HB; have HO_8 := n0_; have HO197 := n1_; have HB := n2_; clear n0_ n1_ n2_; clear hg hw hp_) | (go_at_call 13; refine calls_of_args (args' := #[.slice (some ⟨go49, 0, none⟩) y205.length co49]) (by first | (rw [show y205.length = y195.length from (Kd.R_reads' HO197.out).1.symm] <;> rfl) | rfl) ?_; (with_reducible refine (sum_Of.calls _ _ y205 t206 _ ?side1 ?side2 A64.out).mono ?_); (case side1 => repeat (first | exact (Kd.R_reads' HO197.out).2.2 | (with_reducible refine Kd.C_alloc ?_ _) | (with_reducible refine Kd.C_drewN ?_ _) | (with_reducible refine Kd.C_drew ?_))); (case side2 => rw [show y205.length = y195.length from (Kd.R_reads' HO197.out).1.symm]; exact (Kd.R_reads' HO197.out).2.1); rintro e w76 ⟨rfl, hb⟩; have n0_ := Aside0.mk (Kd.R_below (by (with_reducible repeat (first | apply Kd.R_alloc | apply Kd.R_drewN | apply Kd.R_drew)); exact HO_8.out) hb); have n1_ := Aside0.mk (Kd.R_below (by (with_reducible repeat (first | apply Kd.R_alloc | apply Kd.R_drewN | apply Kd.R_drew)); exact HO197.out) hb); have n2_ := Aside0.mk (below_step (by repeat (first | (with_reducible first | exact HB.out | apply below_alloc | apply pw_below_drewN | apply below_drew1) | exact HB.out)) hb); clear HO_8; clear HO197; clear HB; have HO_8 := n0_; have HO197 := n1_; have HB := n2_; clear n0_ n1_ n2_; (try clear hb); (try clear hb2); (try clear hk); (try clear hi)))
                                                        go_ret
                                                        exact ⟨by first | rfl | (simp [errW_none, errW_some] <;> rfl) | (simp only [← hji44, ← hji50, ← hji53]; first | rfl | (simp [errW_none, errW_some] <;> rfl)) | (simp [*, errW_none, errW_some] <;> rfl), by repeat (first | (with_reducible first | exact HB.out | apply below_alloc | apply pw_below_drewN | apply below_drew1) | exact HB.out)⟩
                                                      · replace c63 := Bool.eq_false_iff.mpr c63
                                                        subst c63
                                                        have H1 : (some false) = some r := by rw [if_neg (show ¬ (false = true) by decide)] at H; exact H
                                                        clear H
                                                        have H := H1
                                                        clear H1
                                                        obtain rfl := Option.some.inj H
                                                        go_wp2_with (first | ((with_reducible refine gate_dst (N := 69) rfl ?_); (try (refine gate_guard (by rfl) ?_; dsimp only)); refine Kd.R_lit (Kd.int .u8) _ 5 ?hg (N := 69) ?hd (xs := ([] : List Int)) (inner := []) (ok := fun _ => True) (okp := fun _ => True) ?hr ?hp (fun _ hk => hk) trivial (Below.refl _ _) (Nat.le_refl _) (by simp) ?_; (case hd => rfl); (case hg => rfl); (case hr => first | (go_simp; done) | (go_simp; rfl)); (case hp => exact (Reps.none _ _)); intro v193 w77 ho78 hb hg_ hnew_; clear hg_ hnew_; (first | rw [← Ny192.out] at ho78 | (simp only [Int.reduceToNat] at ho78; rw [← Ny192.out] at ho78)); have n0_ := Aside0.mk (Kd.R_elder' (by (with_reducible repeat (first | apply Kd.R_alloc | apply Kd.R_drewN | apply Kd.R_drew)); exact HO_8.out) (Kd.R_base ho78) hb); have n1_ := Aside0.mk (Kd.R_lower (Kd.R_new' ho78 (Kd.R_lt (by (with_reducible repeat (first | apply Kd.R_alloc | apply Kd.R_drewN | apply Kd.R_drew)); exact HO_8.out))) (below_size (by repeat (first | (with_reducible first | exact HB.out | apply below_alloc | apply pw_below_drewN | apply below_drew1) | exact HB.out)))); have n2_ := Aside0.mk (below_step (by repeat (first | (with_reducible first | exact HB.out | apply below_alloc | apply pw_below_drewN | apply below_drew1) | exact HB.out)) hb); clear HO_8; clear HB; have HO_8 := n0_; have HO194 := n1_; have HB := n2_; clear n0_ n1_ n2_; clear hb ho78) | ((with_reducible refine gate_builtin (b := .append) (xs := #[.tmp 69, .tmp 70]) rfl ?_); (try (refine gate_guard (by rfl) ?_; dsimp only)); at_builtin; refine Kd.R_append_rows (Kd.int .u8) (w0 := w) w.heap.size rfl (.tmp 69) (.tmp 70) 22 5 (.int .u8 0) 1 rfl Try.underlying22 info5 rfl (by decide) (by omega) v193 y192 y172 _ _ _ (fun k_ => some k_ ≠ (.slice Ao22 y172.length co22 : Value).ownBlock) (fun _ => False) rfl rfl ?aO ?aR (fun _ _ h => h) (fun _ h => h.elim) ?aF ?aB ?aS ?aL ?_; (case aR => repeat (first | exact (Kd.R_reads' HO_8.out).2.2 | (with_reducible refine Kd.C_alloc ?_ _) | (with_reducible refine Kd.C_drewN ?_ _) | (with_reducible refine Kd.C_drew ?_))); (case aB => exact (by repeat (first | (with_reducible first | exact HB.out | apply below_alloc | apply pw_below_drewN | apply below_drew1) | exact HB.out))); (case aF => exact (fun k_ hk => Kd.fresh' (Kd.R_lt (by (with_reducible repeat (first | apply Kd.R_alloc | apply Kd.R_drewN | apply Kd.R_drew)); exact HO_8.out)) k_ hk)); (case aO => exact (by (with_reducible repeat (first | apply Kd.R_alloc | apply Kd.R_drewN | apply Kd.R_drew)); exact Kd.R_mono HO194.out (fun _ hk => hk.2))); (case aS => exact (below_size (by repeat (first | (with_reducible first | exact HB.out | apply below_alloc | apply pw_below_drewN | apply below_drew1) | exact HB.out)))); (case aL => have := LMc43.out; omega); intro v196 w79 ho hb hg hat; rw [← Ny195.out] at ho; have n0_ := Aside0.mk (Kd.R_after (ok := (fun _ => True)) (by (with_reducible repeat (first | apply Kd.R_alloc | apply Kd.R_drewN | apply Kd.R_drew)); exact HO_8.out) hg hat); have n1_ := Aside0.mk (hb); have n2_ := Aside0.mk (ho); clear HO_8; clear HB; clear HO194; have HO_8 := n0_; have HB := n1_; have HO197 := n2_; clear n0_ n1_ n2_; clear ho hb hg hat; have p198 : 0 ≤ ((ji44) : Int) := of_decide_eq_true (by first | (with_reducible assumption) | assumption); have q198 : (ji44) < (y172.length : Int) := of_decide_eq_true (by first | (with_reducible assumption) | assumption); obtain ⟨ad198, e198, hx198_0⟩ := Kd.at_int (Kd.R_reads' HO_8.out).2.2 (ji44) p198 q198; cases e198; replace p198 := eq_true p198; replace q198 := eq_true q198; have p49 : 0 ≤ (a2 : Int) := of_decide_eq_true (by first | (with_reducible assumption) | assumption); have q49 : (a2 : Int) < ((y195.length : Int) : Int) := of_decide_eq_true (by first | (with_reducible assumption) | assumption); obtain ⟨go49, co49, eo49, gb49, gl49, cl49, HG49⟩ := Kd.R_form HO197.out (by omega); (first | cases eo49 | (injection eo49 with ea_ en_ ec_; (first | subst ea_ | (injection ea_ with ea_; subst ea_)); subst ec_; clear en_)); have GB49 := Aside0.mk gb49; have GG49 := Aside0.mk HG49; clear gb49 gl49 HG49; obtain ⟨hx49_0, hf49_0⟩ := Kd.R_celln 0 HO197.out (a2 : Int) p49 q49; replace p49 := eq_true p49; replace q49 := eq_true q49; obtain ⟨hy80_, hz80_⟩ := Kd.R_celln 0 HO197.out (a2 : Int) (of_decide_eq_true (by first | (with_reducible assumption) | assumption)) (of_decide_eq_true (by first | (with_reducible assumption) | assumption)); have HP80 := Kd.R_putg HO197.out (a2 : Int) (rd y172 (ji44))) | ((with_reducible refine gate_store (t := 5) (p := 79) rfl ?_); refine store_event (t := 5) (p := 79) (v := ?vo_w81) (w1 := (w79.setCell ⟨go49, (a2 : Int).toNat, none⟩ (.int .u8 (rd y172 (ji44))))) ?hg ?ho ?hn ?hr ?_; (case ho => rfl); (case hg => rfl); (case hn => rfl); (case hr => first | (go_simp; done) | (go_simp; rfl)); intro w81 hw; have hg : w79.grownBy w81 (some go49) := (by rw [hw]; exact HP80.2); have hp_ : Kd.R (Kd.int .u8) 5 w81 w.heap.size (fun k_ => some k_ ≠ (.slice (some ad198) y172.length co22 : Value).ownBlock) (.slice (some ⟨go49, 0, none⟩) y195.length co49) y199 := (by rw [hw, Ny199.out]; exact HP80.1); clear HP80; have n0_ := Aside0.mk (Kd.R_after (v := (.slice (some ⟨go49, 0, none⟩) y195.length co49)) (v1 := (.slice (some ⟨go49, 0, none⟩) y195.length co49)) (ok := (fun _ => True)) (by (with_reducible repeat (first | apply Kd.R_alloc | apply Kd.R_drewN | apply Kd.R_drew)); exact HO_8.out) hg (.inl rfl)); have n1_ := Aside0.mk (hp_); have n2_ := Aside0.mk ((by rw [hw]; exact below_set (HB.out) GB49.out : Below w.heap.size w w81)); clear HO_8; clear HO197; clear HB; have HO_8 := n0_; have HO197 := n1_; have HB := n2_; clear n0_ n1_ n2_; clear hg hw hp_; have p200 : 0 ≤ ((ji50) : Int) := of_decide_eq_true (by first | (with_reducible assumption) | assumption); have q200 : (ji50) < (y172.length : Int) := of_decide_eq_true (by first | (with_reducible assumption) | assumption); obtain ⟨ad200, e200, hx200_0⟩ := Kd.at_int (Kd.R_reads' HO_8.out).2.2 (ji50) p200 q200; obtain rfl : ad198 = ad200 := (by injection e200); replace p200 := eq_true p200; replace q200 := eq_true q200; have p56 : 0 ≤ ((ji53) : Int) := of_decide_eq_true (by first | (with_reducible assumption) | assumption); have q56 : ((ji53) : Int) < ((y195.length : Int) : Int) := of_decide_eq_true (by first | (with_reducible assumption) | assumption); obtain ⟨hx56_0, hf56_0⟩ := Kd.R_celln 0 HO197.out ((ji53) : Int) p56 q56; replace p56 := eq_true p56; replace q56 := eq_true q56; obtain ⟨hy82_, hz82_⟩ := Kd.R_celln 0 HO197.out ((ji53) : Int) (of_decide_eq_true (by first | (with_reducible assumption) | assumption)) (of_decide_eq_true (by first | (with_reducible assumption) | assumption)); have HP82 := Kd.R_putg HO197.out ((ji53) : Int) (rd y172 (ji50))) | ((with_reducible refine gate_store (t := 5) (p := 88) rfl ?_); refine store_event (t := 5) (p := 88) (v := ?vo_w83) (w1 := (w81.setCell ⟨go49, ((ji53) : Int).toNat, none⟩ (.int .u8 (rd y172 (ji50))))) ?hg ?ho ?hn ?hr ?_; (case ho => rfl); (case hg => rfl); (case hn => rfl); (case hr => first | (go_simp; done) | (go_simp; rfl)); intro w83 hw; have hg : w81.grownBy w83 (some go49) := (by rw [hw]; exact HP82.2); have hp_ : Kd.R (Kd.int .u8) 5 w83 w.heap.size (fun k_ => some k_ ≠ (.slice (some ad198) y172.length co22 : Value).ownBlock) (.slice (some ⟨go49, 0, none⟩) y195.length co49) y201 := (by rw [hw, Ny201.out]; exact HP82.1); clear HP82; have n0_ := Aside0.mk (Kd.R_after (v := (.slice (some ⟨go49, 0, none⟩) y195.length co49)) (v1 := (.slice (some ⟨go49, 0, none⟩) y195.length co49)) (ok := (fun _ => True)) (by (with_reducible repeat (first | apply Kd.R_alloc | apply Kd.R_drewN | apply Kd.R_drew)); exact HO_8.out) hg (.inl rfl)); have n1_ := Aside0.mk (hp_); have n2_ := Aside0.mk ((by rw [hw]; exact below_set (HB.out) GB49.out : Below w.heap.size w w83)); clear HO_8; clear HO197; clear HB; have HO_8 := n0_; have HO197 := n1_; have HB := n2_; clear n0_ n1_ n2_; clear hg hw hp_; have p202 : 0 ≤ (a2 : Int) := of_decide_eq_true (by first | (with_reducible assumption) | assumption); have q202 : a2 < (y172.length : Int) := of_decide_eq_true (by first | (with_reducible assumption) | assumption); obtain ⟨ad202, e202, hx202_0⟩ := Kd.at_int (Kd.R_reads' HO_8.out).2.2 a2 p202 q202; obtain rfl : ad198 = ad202 := (by injection e202); replace p202 := eq_true p202; replace q202 := eq_true q202; have p59 : 0 ≤ ((ji44) : Int) := of_decide_eq_true (by first | (with_reducible assumption) | assumption); have q59 : ((ji44) : Int) < ((y195.length : Int) : Int) := of_decide_eq_true (by first | (with_reducible assumption) | assumption); obtain ⟨hx59_0, hf59_0⟩ := Kd.R_celln 0 HO197.out ((ji44) : Int) p59 q59; replace p59 := eq_true p59; replace q59 := eq_true q59; obtain ⟨hy84_, hz84_⟩ := Kd.R_celln 0 HO197.out ((ji44) : Int) (of_decide_eq_true (by first | (with_reducible assumption) | assumption)) (of_decide_eq_true (by first | (with_reducible assumption) | assumption)); have HP84 := Kd.R_putg HO197.out ((ji44) : Int) (rd y172 a2)) | ((with_reducible refine gate_store (t := 5) (p := 96) rfl ?_); refine store_event (t := 5) (p := 96) (v := ?vo_w85) (w1 := (w83.setCell ⟨go49, ((ji44) : Int).toNat, none⟩ (.int .u8 (rd y172 a2)))) ?hg ?ho ?hn ?hr ?_; (case ho => rfl); (case hg => rfl); (case hn => rfl); (case hr => first | (go_simp; done) | (go_simp; rfl)); intro w85 hw; have hg : w83.grownBy w85 (some go49) := (by rw [hw]; exact HP84.2); have hp_ : Kd.R (Kd.int .u8) 5 w85 w.heap.size (fun k_ => some k_ ≠ (.slice (some ad198) y172.length co22 : Value).ownBlock) (.slice (some ⟨go49, 0, none⟩) y195.length co49) y203 := (by rw [hw, Ny203.out]; exact HP84.1); clear HP84; have n0_ := Aside0.mk (Kd.R_after (v := (.slice (some ⟨go49, 0, none⟩) y195.length co49)) (v1 := (.slice (some ⟨go49, 0, none⟩) y195.length co49)) (ok := (fun _ => True)) (by (with_reducible repeat (first | apply Kd.R_alloc | apply Kd.R_drewN | apply Kd.R_drew)); exact HO_8.out) hg (.inl rfl)); have n1_ := Aside0.mk (hp_); have n2_ := Aside0.mk ((by rw [hw]; exact below_set (HB.out) GB49.out : Below w.heap.size w w85)); clear HO_8; clear HO197; clear HB; have HO_8 := n0_; have HO197 := n1_; have HB := n2_; clear n0_ n1_ n2_; clear hg hw hp_; have p204 : 0 ≤ ((ji53) : Int) := of_decide_eq_true (by first | (with_reducible assumption) | assumption); have q204 : (ji53) < (y172.length : Int) := of_decide_eq_true (by first | (with_reducible assumption) | assumption); obtain ⟨ad204, e204, hx204_0⟩ := Kd.at_int (Kd.R_reads' HO_8.out).2.2 (ji53) p204 q204; obtain rfl : ad198 = ad204 := (by injection e204); replace p204 := eq_true p204; replace q204 := eq_true q204; have p62 : 0 ≤ ((ji50) : Int) := of_decide_eq_true (by first | (with_reducible assumption) | assumption); have q62 : ((ji50) : Int) < ((y195.length : Int) : Int) := of_decide_eq_true (by first | (with_reducible assumption) | assumption); obtain ⟨hx62_0, hf62_0⟩ := Kd.R_celln 0 HO197.out ((ji50) : Int) p62 q62; replace p62 := eq_true p62; replace q62 := eq_true q62; obtain ⟨hy86_, hz86_⟩ := Kd.R_celln 0 HO197.out ((ji50) : Int) (of_decide_eq_true (by first | (with_reducible assumption) | assumption)) (of_decide_eq_true (by first | (with_reducible assumption) | assumption)); have HP86 := Kd.R_putg HO197.out ((ji50) : Int) (rd y172 (ji53))) | ((with_reducible refine gate_store (t := 5) (p := 105) rfl ?_); refine store_event (t := 5) (p := 105) (v := ?vo_w87) (w1 := (w85.setCell ⟨go49, ((ji50) : Int).toNat, none⟩ (.int .u8 (rd y172 (ji53))))) ?hg ?ho ?hn ?hr ?_; (case ho => rfl); (case hg => rfl); (case hn => rfl); (case hr => first | (go_simp; done) | (go_simp; rfl)); intro w87 hw; have hg : w85.grownBy w87 (some go49) := (by rw [hw]; exact HP86.2); have hp_ : Kd.R (Kd.int .u8) 5 w87 w.heap.size (fun k_ => some k_ ≠ (.slice (some ad198) y172.length co22 : Value).ownBlock) (.slice (some ⟨go49, 0, none⟩) y195.length co49) y205 := (by rw [hw, Ny205.out]; exact HP86.1); clear HP86; have n0_ := Aside0.mk (Kd.R_after (v := (.slice (some ⟨go49, 0, none⟩) y195.length co49)) (v1 := (.slice (some ⟨go49, 0, none⟩) y195.length co49)) (ok := (fun _ => True)) (by (with_reducible repeat (first | apply Kd.R_alloc | apply Kd.R_drewN | apply Kd.R_drew)); exact HO_8.out) hg (.inl rfl)); have n1_ := Aside0.mk (hp_); have n2_ := Aside0.mk ((by rw [hw]; exact below_set (HB.out) GB49.out : Below w.heap.size w w87)); clear HO_8; clear HO197; clear HB; have HO_8 := n0_; have HO197 := n1_; have HB := n2_; clear n0_ n1_ n2_; clear hg hw hp_))
                                                        go_ret
                                                        exact ⟨by first | rfl | (simp [errW_none, errW_some] <;> rfl) | (simp only [← hji44, ← hji50, ← hji53]; first | rfl | (simp [errW_none, errW_some] <;> rfl)) | (simp [*, errW_none, errW_some] <;> rfl), by repeat (first | (with_reducible first | exact HB.out | apply below_alloc | apply pw_below_drewN | apply below_drew1) | exact HB.out)⟩
                                                    · rw [if_neg c61] at H
                                                      exact absurd H (by simp)
                                                  · rw [if_neg c60] at H
                                                    exact absurd H (by simp)
                                                · rw [if_neg c58] at H
                                                  exact absurd H (by simp)
                                              · rw [if_neg c57] at H
                                                exact absurd H (by simp)
                                            · rw [if_neg c55] at H
                                              exact absurd H (by simp)
                                          · rw [if_neg c54] at H
                                            exact absurd H (by simp)
                                        · rw [if_neg c52] at H
                                          exact absurd H (by simp)
                                      · rw [if_neg c51] at H
                                        exact absurd H (by simp)
                                    · rw [if_neg c48] at H
                                      exact absurd H (by simp)
                                  · rw [if_neg c47] at H
                                    exact absurd H (by simp)
                                · rw [if_neg c46] at H
                                  exact absurd H (by simp)
                              · rw [if_neg c45] at H
                                exact absurd H (by simp)
                            · rw [if_neg c43] at H
                              exact absurd H (by simp)
                        · rw [if_neg c41] at H
                          have c41b0 : ((Int.tmod a2 2) == 0) = false := beq_eq_false_iff_ne.mpr c41
                          have c41b1 : ((Int.tmod a2 2) != 0) = true := bne_iff_ne.mpr c41
                          obtain rfl := Option.some.inj H
                          go_wp2
                          go_ret
                          exact ⟨by first | rfl | (simp [errW_none, errW_some] <;> rfl) | (simp [*, errW_none, errW_some] <;> rfl), by repeat (first | (with_reducible first | exact HB.out | apply below_alloc | apply pw_below_drewN | apply below_drew1) | exact HB.out)⟩
              · rw [if_neg c12] at H
                exact absurd H (by simp)
            · rw [if_neg c11] at H
              exact absurd H (by simp)
          · rw [if_neg c10] at H
            exact absurd H (by simp)
        · rw [if_neg c9] at H
          exact absurd H (by simp)

/-- THE ONE PURE STATEMENT of stolonlaw02_SumSwaps: yours. -/
def stolonlaw02_SumSwaps.Pure : Prop := ∀ (l0 : List Int) (l1 : List Int) (a2 : Int), l0.length ≤ maxLen → l0.length * 1 ≤ 140737488351232 → (∀ x ∈ l0, (Lit.int .u8 x).wf = true) → l1.length ≤ maxLen → l1.length * 1 ≤ 140737488351232 → (∀ x ∈ l1, (Lit.int .u8 x).wf = true) → (Lit.int .i64 a2).wf = true → ∃ k, stolonlaw02_SumSwaps.f k l0 l1 a2 = some true
theorem stolonlaw02_SumSwaps.walk (P : stolonlaw02_SumSwaps.Pure) (a0 : Option Addr) (len0 cap0 : Nat) (z0 : List Int) (a1 : Option Addr) (len1 cap1 : Nat) (z1 : List Int) (a2 : Int) (w : World) (w0 : (a0 = none ∧ len0 = 0 ∧ cap0 = 0 ∧ z0 = []) ∨ ∃ x, a0 = some x ∧ len0 ≤ cap0 ∧ cap0 ≤ maxLen ∧ z0.length = cap0 ∧ (∀ i, i < z0.length → w.cell? (x.add i) = some (.int .u8 (z0.getD i 0))) ∧ ∀ n ∈ z0, (Lit.int .u8 n).wf = true) (y0 : len0 * 1 ≤ 140737488351232) (w1 : (a1 = none ∧ len1 = 0 ∧ cap1 = 0 ∧ z1 = []) ∨ ∃ x, a1 = some x ∧ len1 ≤ cap1 ∧ cap1 ≤ maxLen ∧ z1.length = cap1 ∧ (∀ i, i < z1.length → w.cell? (x.add i) = some (.int .u8 (z1.getD i 0))) ∧ ∀ n ∈ z1, (Lit.int .u8 n).wf = true) (y1 : len1 * 1 ≤ 140737488351232) (w2 : (Lit.int .i64 a2).wf = true) :
    Calls Try.prog 6 #[.slice a0 len0 cap0, .slice a1 len1 cap1, .int .i64 a2] w fun e w' => e = .returned (.bool true) ∧ Below w.heap.size w w' := by
  obtain ⟨l0, rfl, hr0, hm0, hw0, hc0⟩ := ReadsInt.ofRowC w0
  obtain ⟨l1, rfl, hr1, hm1, hw1, hc1⟩ := ReadsInt.ofRowC w1
  obtain ⟨k, h⟩ := P l0 l1 a2 hm0 y0 hw0 hm1 y1 hw1 w2
  refine (stolonlaw02_SumSwaps.calls k _ _ l0 _ _ l1 a2 true w (Kd.C_of_reads (d := (0 : Int)) (h1 := fun _ => rfl) hr0) hc0 (Kd.C_of_reads (d := (0 : Int)) (h1 := fun _ => rfl) hr1) hc1 h).mono ?_
  rintro e w' ⟨rfl, hd⟩
  exact ⟨rfl, hd⟩

/-! ### stolonlaw02_SumOne: function 7 -/
def stolonlaw02_SumOne.f (l0 : List Int) (a1 : Int) (a2 : Int) : Option (Bool) := (stolonlaw02_shown.f).bind fun t207 => (if (l0.length : Int) > 1000 then (some t207) else (if a1 < 0 then (some t207) else (if a1 ≥ (l0.length : Int) then (some t207) else (if a2 = 0 then (some t207) else ((sum_Whole.f l0).bind fun t208 => (if t208 = true then ((some (([] : List Int) : List Int)).bind fun y209 => (if y209.length + l0.length < 140737488355328 then ((some (y209 ++ l0 : List Int)).bind fun y212 => (if 0 ≤ a1 then (if a1 < (y212.length : Int) then (if t207 = true then ((sum_Whole.f (y212.set (a1 : Int).toNat (Go.bits .xor .u8 (rd y212 a1) a2))).bind fun t217 => (some (!t217))) else (some false)) else (none)) else (none))) else (none))) else (some t207)))))))
set_option maxHeartbeats 8000000 in
set_option maxRecDepth 100000 in
theorem stolonlaw02_SumOne.calls (A0 : Option Addr) (c0 : Nat) (l0 : List Int) (a1 : Int) (a2 : Int) (r : Bool) (w : World) (hr0 : Kd.C (Kd.int .u8) w A0 l0.length l0) (hc0 : l0.length ≤ c0) (h : stolonlaw02_SumOne.f l0 a1 a2 = some r) :
    Calls Try.prog 7 #[.slice A0 l0.length c0, .int .i64 a1, .int .u8 a2] w fun e w' => e = .returned (.bool r) ∧ Below w.heap.size w w' := by
  have HR0 := Aside0.mk hr0
  have HC0 := Aside0.mk hc0
  clear hr0 hc0
  have HB := Aside0.mk (Below.refl w.heap.size w)
  have H : ((stolonlaw02_shown.f).bind fun t207 => (if (l0.length : Int) > 1000 then (some t207) else (if a1 < 0 then (some t207) else (if a1 ≥ (l0.length : Int) then (some t207) else (if a2 = 0 then (some t207) else ((sum_Whole.f l0).bind fun t208 => (if t208 = true then ((some (([] : List Int) : List Int)).bind fun y209 => (if y209.length + l0.length < 140737488355328 then ((some (y209 ++ l0 : List Int)).bind fun y212 => (if 0 ≤ a1 then (if a1 < (y212.length : Int) then (if t207 = true then ((sum_Whole.f (y212.set (a1 : Int).toNat (Go.bits .xor .u8 (rd y212 a1) a2))).bind fun t217 => (some (!t217))) else (some false)) else (none)) else (none))) else (none))) else (some t207)))))))) = some r := h
  clear h
  replace H := Option.bind_eq_some_iff.mp H
  obtain ⟨t207, A40, H⟩ := H
  replace H : (if (l0.length : Int) > 1000 then (some t207) else (if a1 < 0 then (some t207) else (if a1 ≥ (l0.length : Int) then (some t207) else (if a2 = 0 then (some t207) else ((sum_Whole.f l0).bind fun t208 => (if t208 = true then ((some (([] : List Int) : List Int)).bind fun y209 => (if y209.length + l0.length < 140737488355328 then ((some (y209 ++ l0 : List Int)).bind fun y212 => (if 0 ≤ a1 then (if a1 < (y212.length : Int) then (if t207 = true then ((sum_Whole.f (y212.set (a1 : Int).toNat (Go.bits .xor .u8 (rd y212 a1) a2))).bind fun t217 => (some (!t217))) else (some false)) else (none)) else (none))) else (none))) else (some t207))))))) = some r := H
  have A4 := Aside0.mk A40
  clear A40
  by_cases c5 : (l0.length : Int) > 1000
  · rw [if_pos c5] at H
    have c5b0 : decide (1000 < (l0.length : Int)) = true := decide_eq_true c5
    have c5b1 : decide (1000 < l0.length) = true := decide_eq_true (by omega)
    clear c5
    obtain rfl := Option.some.inj H
    go_enter Try.func7, Try.ntmps7
    go_wp2_with (first | ((with_reducible refine gate_callee (f := 9) rfl ?_); refine goesL_ (some 9) rfl rfl Try.func9 (by kernel_rfl) rfl #[] rfl (by (try simp only [List.map_toArray, List.map_cons, List.map_nil]); first | done | rfl | (simp only [List.length_drop, List.length_take]; rfl)) ?_; (with_reducible refine (stolonlaw02_shown.calls  t207 _ A4.out).mono ?_); rintro e w6 ⟨rfl, hb⟩; refine ⟨_, rfl, ?_⟩; have n0_ := Aside0.mk (below_step (by repeat (first | (with_reducible first | exact HB.out | apply below_alloc | apply pw_below_drewN | apply below_drew1) | exact HB.out)) hb); clear HB; have HB := n0_; clear n0_; (try clear hb); (try clear hb2); (try clear hk); (try clear hi)))
    go_ret
    exact ⟨by first | rfl | (simp [errW_none, errW_some] <;> rfl) | (simp [*, errW_none, errW_some] <;> rfl), by repeat (first | (with_reducible first | exact HB.out | apply below_alloc | apply pw_below_drewN | apply below_drew1) | exact HB.out)⟩
  · rw [if_neg c5] at H
    have c5b0 : decide (1000 < (l0.length : Int)) = false := decide_eq_false c5
    have c5b1 : decide (1000 < l0.length) = false := decide_eq_false (by omega)
    clear c5
    by_cases c7 : a1 < 0
    · rw [if_pos c7] at H
      have c7b0 : decide (a1 < 0) = true := decide_eq_true c7
      clear c7
      obtain rfl := Option.some.inj H
      go_enter Try.func7, Try.ntmps7
      go_wp2_with (first | ((with_reducible refine gate_callee (f := 9) rfl ?_); refine goesL_ (some 9) rfl rfl Try.func9 (by kernel_rfl) rfl #[] rfl (by (try simp only [List.map_toArray, List.map_cons, List.map_nil]); first | done | rfl | (simp only [List.length_drop, List.length_take]; rfl)) ?_; (with_reducible refine (stolonlaw02_shown.calls  t207 _ A4.out).mono ?_); rintro e w8 ⟨rfl, hb⟩; refine ⟨_, rfl, ?_⟩; have n0_ := Aside0.mk (below_step (by repeat (first | (with_reducible first | exact HB.out | apply below_alloc | apply pw_below_drewN | apply below_drew1) | exact HB.out)) hb); clear HB; have HB := n0_; clear n0_; (try clear hb); (try clear hb2); (try clear hk); (try clear hi)))
      go_ret
      exact ⟨by first | rfl | (simp [errW_none, errW_some] <;> rfl) | (simp [*, errW_none, errW_some] <;> rfl), by repeat (first | (with_reducible first | exact HB.out | apply below_alloc | apply pw_below_drewN | apply below_drew1) | exact HB.out)⟩
    · rw [if_neg c7] at H
      have c7b0 : decide (a1 < 0) = false := decide_eq_false c7
      clear c7
      by_cases c9 : a1 ≥ (l0.length : Int)
      · rw [if_pos c9] at H
        have c9b0 : decide ((l0.length : Int) ≤ a1) = true := decide_eq_true c9
        clear c9
        obtain rfl := Option.some.inj H
        go_enter Try.func7, Try.ntmps7
        go_wp2_with (first | ((with_reducible refine gate_callee (f := 9) rfl ?_); refine goesL_ (some 9) rfl rfl Try.func9 (by kernel_rfl) rfl #[] rfl (by (try simp only [List.map_toArray, List.map_cons, List.map_nil]); first | done | rfl | (simp only [List.length_drop, List.length_take]; rfl)) ?_; (with_reducible refine (stolonlaw02_shown.calls  t207 _ A4.out).mono ?_); rintro e w10 ⟨rfl, hb⟩; refine ⟨_, rfl, ?_⟩; have n0_ := Aside0.mk (below_step (by repeat (first | (with_reducible first | exact HB.out | apply below_alloc | apply pw_below_drewN | apply below_drew1) | exact HB.out)) hb); clear HB; have HB := n0_; clear n0_; (try clear hb); (try clear hb2); (try clear hk); (try clear hi)))
        go_ret
        exact ⟨by first | rfl | (simp [errW_none, errW_some] <;> rfl) | (simp [*, errW_none, errW_some] <;> rfl), by repeat (first | (with_reducible first | exact HB.out | apply below_alloc | apply pw_below_drewN | apply below_drew1) | exact HB.out)⟩
      · rw [if_neg c9] at H
        have c9b0 : decide ((l0.length : Int) ≤ a1) = false := decide_eq_false c9
        clear c9
        by_cases c11 : a2 = 0
        · rw [if_pos c11] at H
          have c11b0 : (a2 == 0) = true := beq_iff_eq.mpr c11
          have c11b1 : (a2 != 0) = false := bne_eq_false_iff_eq.mpr c11
          clear c11
          obtain rfl := Option.some.inj H
          go_enter Try.func7, Try.ntmps7
          go_wp2_with (first | ((with_reducible refine gate_callee (f := 9) rfl ?_); refine goesL_ (some 9) rfl rfl Try.func9 (by kernel_rfl) rfl #[] rfl (by (try simp only [List.map_toArray, List.map_cons, List.map_nil]); first | done | rfl | (simp only [List.length_drop, List.length_take]; rfl)) ?_; (with_reducible refine (stolonlaw02_shown.calls  t207 _ A4.out).mono ?_); rintro e w12 ⟨rfl, hb⟩; refine ⟨_, rfl, ?_⟩; have n0_ := Aside0.mk (below_step (by repeat (first | (with_reducible first | exact HB.out | apply below_alloc | apply pw_below_drewN | apply below_drew1) | exact HB.out)) hb); clear HB; have HB := n0_; clear n0_; (try clear hb); (try clear hb2); (try clear hk); (try clear hi)))
          go_ret
          exact ⟨by first | rfl | (simp [errW_none, errW_some] <;> rfl) | (simp [*, errW_none, errW_some] <;> rfl), by repeat (first | (with_reducible first | exact HB.out | apply below_alloc | apply pw_below_drewN | apply below_drew1) | exact HB.out)⟩
        · rw [if_neg c11] at H
          have c11b0 : (a2 == 0) = false := beq_eq_false_iff_ne.mpr c11
          have c11b1 : (a2 != 0) = true := bne_iff_ne.mpr c11
          replace H := Option.bind_eq_some_iff.mp H
          obtain ⟨t208, A130, H⟩ := H
          replace H : (if t208 = true then ((some (([] : List Int) : List Int)).bind fun y209 => (if y209.length + l0.length < 140737488355328 then ((some (y209 ++ l0 : List Int)).bind fun y212 => (if 0 ≤ a1 then (if a1 < (y212.length : Int) then (if t207 = true then ((sum_Whole.f (y212.set (a1 : Int).toNat (Go.bits .xor .u8 (rd y212 a1) a2))).bind fun t217 => (some (!t217))) else (some false)) else (none)) else (none))) else (none))) else (some t207)) = some r := H
          have A13 := Aside0.mk A130
          clear A130
          by_cases c14 : t208 = true
          · subst c14
            have H1 : ((some (([] : List Int) : List Int)).bind fun y209 => (if y209.length + l0.length < 140737488355328 then ((some (y209 ++ l0 : List Int)).bind fun y212 => (if 0 ≤ a1 then (if a1 < (y212.length : Int) then (if t207 = true then ((sum_Whole.f (y212.set (a1 : Int).toNat (Go.bits .xor .u8 (rd y212 a1) a2))).bind fun t217 => (some (!t217))) else (some false)) else (none)) else (none))) else (none))) = some r := by rw [if_pos rfl] at H; exact H
            clear H
            have H := H1
            clear H1
            obtain ⟨y209, hy209⟩ : ∃ y_ : List Int, y_ = (([] : List Int)) := ⟨_, rfl⟩
            replace H : (if y209.length + l0.length < 140737488355328 then ((some (y209 ++ l0 : List Int)).bind fun y212 => (if 0 ≤ a1 then (if a1 < (y212.length : Int) then (if t207 = true then ((sum_Whole.f (y212.set (a1 : Int).toNat (Go.bits .xor .u8 (rd y212 a1) a2))).bind fun t217 => (some (!t217))) else (some false)) else (none)) else (none))) else (none)) = some r := by first | (rw [hy209]; with_reducible exact H) | (have H2_ := (Option.bind_some _ _).symm.trans H; rw [hy209]; with_reducible exact H2_) | (have H2_ := (Option.bind_some _ _).symm.trans H; with_reducible exact H2_) | with_reducible exact H | (rw [hy209]; exact H) | exact H
            have Ny209 := Aside0.mk hy209
            clear hy209
            by_cases c15 : y209.length + l0.length < 140737488355328
            · rw [if_pos c15] at H
              have LMc15 := Aside0.mk c15
              clear c15
              obtain ⟨y212, hy212⟩ : ∃ y_ : List Int, y_ = (y209 ++ l0) := ⟨_, rfl⟩
              replace H : (if 0 ≤ a1 then (if a1 < (y212.length : Int) then (if t207 = true then ((sum_Whole.f (y212.set (a1 : Int).toNat (Go.bits .xor .u8 (rd y212 a1) a2))).bind fun t217 => (some (!t217))) else (some false)) else (none)) else (none)) = some r := by first | (rw [hy212]; with_reducible exact H) | (have H2_ := (Option.bind_some _ _).symm.trans H; rw [hy212]; with_reducible exact H2_) | (have H2_ := (Option.bind_some _ _).symm.trans H; with_reducible exact H2_) | with_reducible exact H | (rw [hy212]; exact H) | exact H
              have Ny212 := Aside0.mk hy212
              clear hy212
              by_cases c16 : 0 ≤ a1
              · rw [if_pos c16] at H
                have c16b0 : decide (0 ≤ a1) = true := decide_eq_true c16
                clear c16
                by_cases c17 : a1 < (y212.length : Int)
                · rw [if_pos c17] at H
                  have c17b0 : decide (a1 < (y212.length : Int)) = true := decide_eq_true c17
                  clear c17
                  obtain ⟨y216, hy216⟩ : ∃ y_ : List Int, y_ = (y212.set (a1 : Int).toNat (Go.bits .xor .u8 (rd y212 a1) a2)) := ⟨_, rfl⟩
                  replace H : (if t207 = true then ((sum_Whole.f y216).bind fun t217 => (some (!t217))) else (some false)) = some r := by first | (rw [hy216]; with_reducible exact H) | (have H2_ := (Option.bind_some _ _).symm.trans H; rw [hy216]; with_reducible exact H2_) | (have H2_ := (Option.bind_some _ _).symm.trans H; with_reducible exact H2_) | with_reducible exact H | (rw [hy216]; exact H) | exact H
                  have Ny216 := Aside0.mk hy216
                  clear hy216
                  by_cases c19 : t207 = true
                  · subst c19
                    have H1 : ((sum_Whole.f y216).bind fun t217 => (some (!t217))) = some r := by rw [if_pos rfl] at H; exact H
                    clear H
                    have H := H1
                    clear H1
                    replace H := Option.bind_eq_some_iff.mp H
                    obtain ⟨t217, A200, H⟩ := H
                    replace H : (some (!t217)) = some r := H
                    have A20 := Aside0.mk A200
                    clear A200
                    obtain rfl := Option.some.inj H
                    go_enter Try.func7, Try.ntmps7
                    go_wp2_with (first | ((with_reducible refine gate_callee (f := 9) rfl ?_); refine goesL_ (some 9) rfl rfl Try.func9 (by kernel_rfl) rfl #[] rfl (by (try simp only [List.map_toArray, List.map_cons, List.map_nil]); first | done | rfl | (simp only [List.length_drop, List.length_take]; rfl)) ?_; (with_reducible refine (stolonlaw02_shown.calls  true _ A4.out).mono ?_); rintro e w21 ⟨rfl, hb⟩; refine ⟨_, rfl, ?_⟩; have n0_ := Aside0.mk (below_step (by repeat (first | (with_reducible first | exact HB.out | apply below_alloc | apply pw_below_drewN | apply below_drew1) | exact HB.out)) hb); clear HB; have HB := n0_; clear n0_; (try clear hb); (try clear hb2); (try clear hk); (try clear hi)) | (go_at_call 14; (with_reducible refine (sum_Whole.calls _ _ l0 true _ ?side1 ?side2 A13.out).mono ?_); (case side1 => repeat (first | exact (Kd.C_below HR0.out HB.out) | (with_reducible refine Kd.C_alloc ?_ _) | (with_reducible refine Kd.C_drewN ?_ _) | (with_reducible refine Kd.C_drew ?_))); (case side2 => exact HC0.out); rintro e w22 ⟨rfl, hb⟩; have n0_ := Aside0.mk (below_step (by repeat (first | (with_reducible first | exact HB.out | apply below_alloc | apply pw_below_drewN | apply below_drew1) | exact HB.out)) hb); clear HB; have HB := n0_; clear n0_; (try clear hb); (try clear hb2); (try clear hk); (try clear hi)) | ((with_reducible refine gate_dst (N := 33) rfl ?_); (try (refine gate_guard (by rfl) ?_; dsimp only)); refine Kd.R_lit (Kd.int .u8) _ 5 ?hg (N := 33) ?hd (xs := ([] : List Int)) (inner := []) (ok := fun _ => True) (okp := fun _ => True) ?hr ?hp (fun _ hk => hk) trivial (Below.refl _ _) (Nat.le_refl _) (by simp) ?_; (case hd => rfl); (case hg => rfl); (case hr => first | (go_simp; done) | (go_simp; rfl)); (case hp => exact (Reps.none _ _)); intro v210 w23 ho24 hb hg_ hnew_; clear hg_ hnew_; (first | rw [← Ny209.out] at ho24 | (simp only [Int.reduceToNat] at ho24; rw [← Ny209.out] at ho24)); have n0_ := Aside0.mk (Kd.R_lower ho24 (below_size (by repeat (first | (with_reducible first | exact HB.out | apply below_alloc | apply pw_below_drewN | apply below_drew1) | exact HB.out)))); have n1_ := Aside0.mk (below_step (by repeat (first | (with_reducible first | exact HB.out | apply below_alloc | apply pw_below_drewN | apply below_drew1) | exact HB.out)) hb); clear HB; have HO211 := n0_; have HB := n1_; clear n0_ n1_; clear hb ho24) | ((with_reducible refine gate_builtin (b := .append) (xs := #[.tmp 33, .tmp 34]) rfl ?_); (try (refine gate_guard (by rfl) ?_; dsimp only)); at_builtin; refine Kd.R_append_rows (Kd.int .u8) (w0 := w) w.heap.size rfl (.tmp 33) (.tmp 34) 22 5 (.int .u8 0) 1 rfl Try.underlying22 info5 rfl (by decide) (by omega) v210 y209 l0 _ _ _ (fun _ => True) (fun _ => False) rfl rfl ?aO ?aR (fun _ _ h => h) (fun _ h => h.elim) ?aF ?aB ?aS ?aL ?_; (case aR => repeat (first | exact (Kd.C_below HR0.out HB.out) | (with_reducible refine Kd.C_alloc ?_ _) | (with_reducible refine Kd.C_drewN ?_ _) | (with_reducible refine Kd.C_drew ?_))); (case aB => exact (by repeat (first | (with_reducible first | exact HB.out | apply below_alloc | apply pw_below_drewN | apply below_drew1) | exact HB.out))); (case aF => exact (fun _ _ => trivial)); (case aO => exact (by (with_reducible repeat (first | apply Kd.R_alloc | apply Kd.R_drewN | apply Kd.R_drew)); exact HO211.out)); (case aS => exact (below_size (by repeat (first | (with_reducible first | exact HB.out | apply below_alloc | apply pw_below_drewN | apply below_drew1) | exact HB.out)))); (case aL => have := LMc15.out; omega); intro v213 w25 ho hb hg hat; rw [← Ny212.out] at ho; have n0_ := Aside0.mk (hb); have n1_ := Aside0.mk (ho); clear HB; clear HO211; have HB := n0_; have HO214 := n1_; clear n0_ n1_; clear ho hb hg hat; obtain ⟨Ao26, co26, eo26⟩ := Kd.R_slice HO214.out; subst eo26; have p215 : 0 ≤ (a1 : Int) := of_decide_eq_true (by first | (with_reducible assumption) | assumption); have q215 : a1 < (y212.length : Int) := of_decide_eq_true (by first | (with_reducible assumption) | assumption); obtain ⟨ad215, e215, hx215_0⟩ := Kd.at_int (Kd.R_reads' HO214.out).2.2 a1 p215 q215; cases e215; replace p215 := eq_true p215; replace q215 := eq_true q215; have p18 : 0 ≤ (a1 : Int) := of_decide_eq_true (by first | (with_reducible assumption) | assumption); have q18 : (a1 : Int) < ((y212.length : Int) : Int) := of_decide_eq_true (by first | (with_reducible assumption) | assumption); obtain ⟨go18, co18, eo18, gb18, gl18, cl18, HG18⟩ := Kd.R_form HO214.out (by omega); (first | cases eo18 | (injection eo18 with ea_ en_ ec_; (first | subst ea_ | (injection ea_ with ea_; subst ea_)); subst ec_; clear en_)); have GB18 := Aside0.mk gb18; have GG18 := Aside0.mk HG18; clear gb18 gl18 HG18; (first | simp only [add_plain] at hx215_0 | skip); obtain ⟨hx18_0, hf18_0⟩ := Kd.R_celln 0 HO214.out (a1 : Int) p18 q18; replace p18 := eq_true p18; replace q18 := eq_true q18; obtain ⟨hy27_, hz27_⟩ := Kd.R_celln 0 HO214.out (a1 : Int) (of_decide_eq_true (by first | (with_reducible assumption) | assumption)) (of_decide_eq_true (by first | (with_reducible assumption) | assumption)); have HP27 := Kd.R_putg HO214.out (a1 : Int) (Go.bits .xor .u8 (rd y212 a1) a2)) | ((with_reducible refine gate_store (t := 5) (p := 44) rfl ?_); refine store_event (t := 5) (p := 44) (v := ?vo_w28) (w1 := (w25.setCell ⟨go18, (a1 : Int).toNat, none⟩ (.int .u8 (Go.bits .xor .u8 (rd y212 a1) a2)))) ?hg ?ho ?hn ?hr ?_; (case ho => rfl); (case hg => rfl); (case hn => rfl); (case hr => first | (go_simp; done) | (go_simp; rfl)); intro w28 hw; have hg : w25.grownBy w28 (some go18) := (by rw [hw]; exact HP27.2); have hp_ : Kd.R (Kd.int .u8) 5 w28 w.heap.size (fun _ => True) (.slice (some ⟨go18, 0, none⟩) y212.length co26) y216 := (by rw [hw, Ny216.out]; exact HP27.1); clear HP27; have n0_ := Aside0.mk (hp_); have n1_ := Aside0.mk ((by rw [hw]; exact below_set (HB.out) GB18.out : Below w.heap.size w w28)); clear HO214; clear HB; have HO214 := n0_; have HB := n1_; clear n0_ n1_; clear hg hw hp_) | (go_at_call 14; refine calls_of_args (args' := #[.slice (some ⟨go18, 0, none⟩) y216.length co26]) (by first | (rw [show y216.length = y212.length from (Kd.R_reads' HO214.out).1.symm] <;> rfl) | rfl) ?_; (with_reducible refine (sum_Whole.calls _ _ y216 t217 _ ?side1 ?side2 A20.out).mono ?_); (case side1 => repeat (first | exact (Kd.R_reads' HO214.out).2.2 | (with_reducible refine Kd.C_alloc ?_ _) | (with_reducible refine Kd.C_drewN ?_ _) | (with_reducible refine Kd.C_drew ?_))); (case side2 => rw [show y216.length = y212.length from (Kd.R_reads' HO214.out).1.symm]; exact (Kd.R_reads' HO214.out).2.1); rintro e w29 ⟨rfl, hb⟩; have n0_ := Aside0.mk (Kd.R_below (by (with_reducible repeat (first | apply Kd.R_alloc | apply Kd.R_drewN | apply Kd.R_drew)); exact HO214.out) hb); have n1_ := Aside0.mk (below_step (by repeat (first | (with_reducible first | exact HB.out | apply below_alloc | apply pw_below_drewN | apply below_drew1) | exact HB.out)) hb); clear HO214; clear HB; have HO214 := n0_; have HB := n1_; clear n0_ n1_; (try clear hb); (try clear hb2); (try clear hk); (try clear hi)))
                    go_ret
                    exact ⟨by first | rfl | (simp [errW_none, errW_some] <;> rfl) | (simp [*, errW_none, errW_some] <;> rfl), by repeat (first | (with_reducible first | exact HB.out | apply below_alloc | apply pw_below_drewN | apply below_drew1) | exact HB.out)⟩
                  · replace c19 := Bool.eq_false_iff.mpr c19
                    subst c19
                    have H1 : (some false) = some r := by rw [if_neg (show ¬ (false = true) by decide)] at H; exact H
                    clear H
                    have H := H1
                    clear H1
                    obtain rfl := Option.some.inj H
                    go_enter Try.func7, Try.ntmps7
                    go_wp2_with (first | ((with_reducible refine gate_callee (f := 9) rfl ?_); refine goesL_ (some 9) rfl rfl Try.func9 (by kernel_rfl) rfl #[] rfl (by (try simp only [List.map_toArray, List.map_cons, List.map_nil]); first | done | rfl | (simp only [List.length_drop, List.length_take]; rfl)) ?_; (with_reducible refine (stolonlaw02_shown.calls  false _ A4.out).mono ?_); rintro e w30 ⟨rfl, hb⟩; refine ⟨_, rfl, ?_⟩; have n0_ := Aside0.mk (below_step (by repeat (first | (with_reducible first | exact HB.out | apply below_alloc | apply pw_below_drewN | apply below_drew1) | exact HB.out)) hb); clear HB; have HB := n0_; clear n0_; (try clear hb); (try clear hb2); (try clear hk); (try clear hi)) | (go_at_call 14; (with_reducible refine (sum_Whole.calls _ _ l0 true _ ?side1 ?side2 A13.out).mono ?_); (case side1 => repeat (first | exact (Kd.C_below HR0.out HB.out) | (with_reducible refine Kd.C_alloc ?_ _) | (with_reducible refine Kd.C_drewN ?_ _) | (with_reducible refine Kd.C_drew ?_))); (case side2 => exact HC0.out); rintro e w31 ⟨rfl, hb⟩; have n0_ := Aside0.mk (below_step (by repeat (first | (with_reducible first | exact HB.out | apply below_alloc | apply pw_below_drewN | apply below_drew1) | exact HB.out)) hb); clear HB; have HB := n0_; clear n0_; (try clear hb); (try clear hb2); (try clear hk); (try clear hi)) | ((with_reducible refine gate_dst (N := 33) rfl ?_); (try (refine gate_guard (by rfl) ?_; dsimp only)); refine Kd.R_lit (Kd.int .u8) _ 5 ?hg (N := 33) ?hd (xs := ([] : List Int)) (inner := []) (ok := fun _ => True) (okp := fun _ => True) ?hr ?hp (fun _ hk => hk) trivial (Below.refl _ _) (Nat.le_refl _) (by simp) ?_; (case hd => rfl); (case hg => rfl); (case hr => first | (go_simp; done) | (go_simp; rfl)); (case hp => exact (Reps.none _ _)); intro v210 w32 ho33 hb hg_ hnew_; clear hg_ hnew_; (first | rw [← Ny209.out] at ho33 | (simp only [Int.reduceToNat] at ho33; rw [← Ny209.out] at ho33)); have n0_ := Aside0.mk (Kd.R_lower ho33 (below_size (by repeat (first | (with_reducible first | exact HB.out | apply below_alloc | apply pw_below_drewN | apply below_drew1) | exact HB.out)))); have n1_ := Aside0.mk (below_step (by repeat (first | (with_reducible first | exact HB.out | apply below_alloc | apply pw_below_drewN | apply below_drew1) | exact HB.out)) hb); clear HB; have HO211 := n0_; have HB := n1_; clear n0_ n1_; clear hb ho33) | ((with_reducible refine gate_builtin (b := .append) (xs := #[.tmp 33, .tmp 34]) rfl ?_); (try (refine gate_guard (by rfl) ?_; dsimp only)); at_builtin; refine Kd.R_append_rows (Kd.int .u8) (w0 := w) w.heap.size rfl (.tmp 33) (.tmp 34) 22 5 (.int .u8 0) 1 rfl Try.underlying22 info5 rfl (by decide) (by omega) v210 y209 l0 _ _ _ (fun _ => True) (fun _ => False) rfl rfl ?aO ?aR (fun _ _ h => h) (fun _ h => h.elim) ?aF ?aB ?aS ?aL ?_; (case aR => repeat (first | exact (Kd.C_below HR0.out HB.out) | (with_reducible refine Kd.C_alloc ?_ _) | (with_reducible refine Kd.C_drewN ?_ _) | (with_reducible refine Kd.C_drew ?_))); (case aB => exact (by repeat (first | (with_reducible first | exact HB.out | apply below_alloc | apply pw_below_drewN | apply below_drew1) | exact HB.out))); (case aF => exact (fun _ _ => trivial)); (case aO => exact (by (with_reducible repeat (first | apply Kd.R_alloc | apply Kd.R_drewN | apply Kd.R_drew)); exact HO211.out)); (case aS => exact (below_size (by repeat (first | (with_reducible first | exact HB.out | apply below_alloc | apply pw_below_drewN | apply below_drew1) | exact HB.out)))); (case aL => have := LMc15.out; omega); intro v213 w34 ho hb hg hat; rw [← Ny212.out] at ho; have n0_ := Aside0.mk (hb); have n1_ := Aside0.mk (ho); clear HB; clear HO211; have HB := n0_; have HO214 := n1_; clear n0_ n1_; clear ho hb hg hat; obtain ⟨Ao35, co35, eo35⟩ := Kd.R_slice HO214.out; subst eo35; have p215 : 0 ≤ (a1 : Int) := of_decide_eq_true (by first | (with_reducible assumption) | assumption); have q215 : a1 < (y212.length : Int) := of_decide_eq_true (by first | (with_reducible assumption) | assumption); obtain ⟨ad215, e215, hx215_0⟩ := Kd.at_int (Kd.R_reads' HO214.out).2.2 a1 p215 q215; cases e215; replace p215 := eq_true p215; replace q215 := eq_true q215; have p18 : 0 ≤ (a1 : Int) := of_decide_eq_true (by first | (with_reducible assumption) | assumption); have q18 : (a1 : Int) < ((y212.length : Int) : Int) := of_decide_eq_true (by first | (with_reducible assumption) | assumption); obtain ⟨go18, co18, eo18, gb18, gl18, cl18, HG18⟩ := Kd.R_form HO214.out (by omega); (first | cases eo18 | (injection eo18 with ea_ en_ ec_; (first | subst ea_ | (injection ea_ with ea_; subst ea_)); subst ec_; clear en_)); have GB18 := Aside0.mk gb18; have GG18 := Aside0.mk HG18; clear gb18 gl18 HG18; (first | simp only [add_plain] at hx215_0 | skip); obtain ⟨hx18_0, hf18_0⟩ := Kd.R_celln 0 HO214.out (a1 : Int) p18 q18; replace p18 := eq_true p18; replace q18 := eq_true q18; obtain ⟨hy36_, hz36_⟩ := Kd.R_celln 0 HO214.out (a1 : Int) (of_decide_eq_true (by first | (with_reducible assumption) | assumption)) (of_decide_eq_true (by first | (with_reducible assumption) | assumption)); have HP36 := Kd.R_putg HO214.out (a1 : Int) (Go.bits .xor .u8 (rd y212 a1) a2)) | ((with_reducible refine gate_store (t := 5) (p := 44) rfl ?_); refine store_event (t := 5) (p := 44) (v := ?vo_w37) (w1 := (w34.setCell ⟨go18, (a1 : Int).toNat, none⟩ (.int .u8 (Go.bits .xor .u8 (rd y212 a1) a2)))) ?hg ?ho ?hn ?hr ?_; (case ho => rfl); (case hg => rfl); (case hn => rfl); (case hr => first | (go_simp; done) | (go_simp; rfl)); intro w37 hw; have hg : w34.grownBy w37 (some go18) := (by rw [hw]; exact HP36.2); have hp_ : Kd.R (Kd.int .u8) 5 w37 w.heap.size (fun _ => True) (.slice (some ⟨go18, 0, none⟩) y212.length co35) y216 := (by rw [hw, Ny216.out]; exact HP36.1); clear HP36; have n0_ := Aside0.mk (hp_); have n1_ := Aside0.mk ((by rw [hw]; exact below_set (HB.out) GB18.out : Below w.heap.size w w37)); clear HO214; clear HB; have HO214 := n0_; have HB := n1_; clear n0_ n1_; clear hg hw hp_))
                    go_ret
                    exact ⟨by first | rfl | (simp [errW_none, errW_some] <;> rfl) | (simp [*, errW_none, errW_some] <;> rfl), by repeat (first | (with_reducible first | exact HB.out | apply below_alloc | apply pw_below_drewN | apply below_drew1) | exact HB.out)⟩
                · rw [if_neg c17] at H
                  exact absurd H (by simp)
              · rw [if_neg c16] at H
                exact absurd H (by simp)
            · rw [if_neg c15] at H
              exact absurd H (by simp)
          · replace c14 := Bool.eq_false_iff.mpr c14
            subst c14
            have H1 : (some t207) = some r := by rw [if_neg (show ¬ (false = true) by decide)] at H; exact H
            clear H
            have H := H1
            clear H1
            obtain rfl := Option.some.inj H
            go_enter Try.func7, Try.ntmps7
            go_wp2_with (first | ((with_reducible refine gate_callee (f := 9) rfl ?_); refine goesL_ (some 9) rfl rfl Try.func9 (by kernel_rfl) rfl #[] rfl (by (try simp only [List.map_toArray, List.map_cons, List.map_nil]); first | done | rfl | (simp only [List.length_drop, List.length_take]; rfl)) ?_; (with_reducible refine (stolonlaw02_shown.calls  t207 _ A4.out).mono ?_); rintro e w38 ⟨rfl, hb⟩; refine ⟨_, rfl, ?_⟩; have n0_ := Aside0.mk (below_step (by repeat (first | (with_reducible first | exact HB.out | apply below_alloc | apply pw_below_drewN | apply below_drew1) | exact HB.out)) hb); clear HB; have HB := n0_; clear n0_; (try clear hb); (try clear hb2); (try clear hk); (try clear hi)) | (go_at_call 14; (with_reducible refine (sum_Whole.calls _ _ l0 false _ ?side1 ?side2 A13.out).mono ?_); (case side1 => repeat (first | exact (Kd.C_below HR0.out HB.out) | (with_reducible refine Kd.C_alloc ?_ _) | (with_reducible refine Kd.C_drewN ?_ _) | (with_reducible refine Kd.C_drew ?_))); (case side2 => exact HC0.out); rintro e w39 ⟨rfl, hb⟩; have n0_ := Aside0.mk (below_step (by repeat (first | (with_reducible first | exact HB.out | apply below_alloc | apply pw_below_drewN | apply below_drew1) | exact HB.out)) hb); clear HB; have HB := n0_; clear n0_; (try clear hb); (try clear hb2); (try clear hk); (try clear hi)))
            go_ret
            exact ⟨by first | rfl | (simp [errW_none, errW_some] <;> rfl) | (simp [*, errW_none, errW_some] <;> rfl), by repeat (first | (with_reducible first | exact HB.out | apply below_alloc | apply pw_below_drewN | apply below_drew1) | exact HB.out)⟩

/-- THE ONE PURE STATEMENT of stolonlaw02_SumOne: yours. -/
def stolonlaw02_SumOne.Pure : Prop := ∀ (l0 : List Int) (a1 : Int) (a2 : Int), l0.length ≤ maxLen → l0.length * 1 ≤ 140737488351232 → (∀ x ∈ l0, (Lit.int .u8 x).wf = true) → (Lit.int .i64 a1).wf = true → (Lit.int .u8 a2).wf = true → stolonlaw02_SumOne.f l0 a1 a2 = some true
theorem stolonlaw02_SumOne.walk (P : stolonlaw02_SumOne.Pure) (a0 : Option Addr) (len0 cap0 : Nat) (z0 : List Int) (a1 : Int) (a2 : Int) (w : World) (w0 : (a0 = none ∧ len0 = 0 ∧ cap0 = 0 ∧ z0 = []) ∨ ∃ x, a0 = some x ∧ len0 ≤ cap0 ∧ cap0 ≤ maxLen ∧ z0.length = cap0 ∧ (∀ i, i < z0.length → w.cell? (x.add i) = some (.int .u8 (z0.getD i 0))) ∧ ∀ n ∈ z0, (Lit.int .u8 n).wf = true) (y0 : len0 * 1 ≤ 140737488351232) (w1 : (Lit.int .i64 a1).wf = true) (w2 : (Lit.int .u8 a2).wf = true) :
    Calls Try.prog 7 #[.slice a0 len0 cap0, .int .i64 a1, .int .u8 a2] w fun e w' => e = .returned (.bool true) ∧ Below w.heap.size w w' := by
  obtain ⟨l0, rfl, hr0, hm0, hw0, hc0⟩ := ReadsInt.ofRowC w0
  have h := P l0 a1 a2 hm0 y0 hw0 w1 w2
  refine (stolonlaw02_SumOne.calls _ _ l0 a1 a2 true w (Kd.C_of_reads (d := (0 : Int)) (h1 := fun _ => rfl) hr0) hc0 h).mono ?_
  rintro e w' ⟨rfl, hd⟩
  exact ⟨rfl, hd⟩

end Go.Proofs.Ytacjimkkbimcaaa.PSum
