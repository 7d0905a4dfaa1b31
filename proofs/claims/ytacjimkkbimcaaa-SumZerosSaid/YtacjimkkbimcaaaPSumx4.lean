-- written by a program of this session (hprint.py), over the kit's printer
import Derived.Test.YtacjimkkbimcaaaPSumx0
import Derived.Test.YtacjimkkbimcaaaPSumx1
namespace Go.Proofs.Ytacjimkkbimcaaa.PSum
open Go.RowKit Go.Proofs.YtacjimkkbimcaaaW.PrintWords Go.Proofs.YtacjimkkbimcaaaW.PrintLast Go.Proofs.YtacjimkkbimcaaaW.PrintMore
attribute [local go_sem] max2_int min2_int max_two min_two max_three min_three max_four min_four   -- for this text's walks alone
set_option linter.unusedVariables false
set_option linter.unusedSimpArgs false

/-! ### stolonlaw02_SumZeros: function 8 -/
mutual
def stolonlaw02_SumZeros.j0 : Nat → Int → Bool → List Int → List Int → Int → Bool → Option (Bool)
  | 0, _, _, _, _, _, _ => none
  | k + 1, x1, x5, x6, x7, x8, x25 => if x25 = true then (some false) else (if x8 = 0 then (if (x7.length : Int) = (x6.length : Int) then (if x1 < 0 then (stolonlaw02_SumZeros.j1 k x1 x5 x6 x7 true) else (stolonlaw02_SumZeros.j1 k x1 x5 x6 x7 (decide (x1 ≥ (wrap64 ((x7.length : Int) - 1)))))) else (stolonlaw02_SumZeros.j1 k x1 x5 x6 x7 true)) else (if x5 = true then (some ((x7.length : Int) == 0)) else (some false)))
def stolonlaw02_SumZeros.j1 : Nat → Int → Bool → List Int → List Int → Bool → Option (Bool)
  | 0, _, _, _, _, _ => none
  | k + 1, x1, x5, x6, x7, x49 => if x49 = true then (some false) else (if x5 = true then (if 0 ≤ x1 then (if x1 < (x7.length : Int) then (if (rd x7 x1) = 255 then (if 0 ≤ (wrap64 (x1 + 1)) then (if (wrap64 (x1 + 1)) < (x7.length : Int) then (if (rd x7 (wrap64 (x1 + 1))) = 255 then ((sum_Whole.f x7).bind fun t230 => (if t230 = true then ((stolonref01_Same.f k x7 x6).bind fun t231 => (some (!t231))) else (some false))) else (some false)) else (none)) else (none)) else (some false)) else (none)) else (none)) else (some false))
end
def stolonlaw02_SumZeros.f (k : Nat) (a0 : Int) (a1 : Int) : Option (Bool) := (stolonlaw02_shown.f).bind fun t218 => (if 0 ≤ (wrap64 (a0)) then (if (wrap64 (a0) : Int).toNat ≤ 281474976710656 then ((some (List.replicate (wrap64 (a0) : Int).toNat 0 : List Int)).bind fun y219 => ((sum_Put.f y219 a1).bind fun bt222 => ((sum_Of.f y219).bind fun t226 => (if t226 = 65535 then ((sum_Whole.f y219).bind fun t227 => (stolonlaw02_SumZeros.j0 k a1 t218 y219 bt222.1 bt222.2 t227)) else (stolonlaw02_SumZeros.j0 k a1 t218 y219 bt222.1 bt222.2 true))))) else (none)) else (none))
theorem stolonlaw02_SumZeros.mono_l : ∀ k, (∀ y0 y1 y2 y3 y4 y5, LeO (stolonlaw02_SumZeros.j0 k y0 y1 y2 y3 y4 y5) (stolonlaw02_SumZeros.j0 (k + 1) y0 y1 y2 y3 y4 y5)) ∧ (∀ y0 y1 y2 y3 y4, LeO (stolonlaw02_SumZeros.j1 k y0 y1 y2 y3 y4) (stolonlaw02_SumZeros.j1 (k + 1) y0 y1 y2 y3 y4))
  | 0 => ⟨fun _ _ _ _ _ _ r h => by simp [stolonlaw02_SumZeros.j0] at h, fun _ _ _ _ _ r h => by simp [stolonlaw02_SumZeros.j1] at h⟩
  | k + 1 => by
    obtain ⟨ih0, ih1⟩ := stolonlaw02_SumZeros.mono_l k
    refine ⟨?_, ?_⟩
    · intro y0 y1 y2 y3 y4 y5
      unfold stolonlaw02_SumZeros.j0
      repeat' first
      | (with_reducible exact ih0 _ _ _ _ _ _)
      | (with_reducible exact ih1 _ _ _ _ _)
      | (with_reducible exact stolonref01_Same.mono _ _ _)
      | (with_reducible exact LeO.refl _)
      | (with_reducible exact LeO.none _)
      | (with_reducible refine LeO.ite ?_ ?_)
      | (with_reducible refine LeO.bind ?_ (fun _ => ?_))
      | exact ih0 _ _ _ _ _ _
      | exact ih1 _ _ _ _ _
      | exact stolonref01_Same.mono _ _ _
      | exact LeO.none _
      | refine LeO.ite ?_ ?_
      | refine LeO.bind ?_ (fun _ => ?_)
    · intro y0 y1 y2 y3 y4
      unfold stolonlaw02_SumZeros.j1
      repeat' first
      | (with_reducible exact ih0 _ _ _ _ _ _)
      | (with_reducible exact ih1 _ _ _ _ _)
      | (with_reducible exact stolonref01_Same.mono _ _ _)
      | (with_reducible exact LeO.refl _)
      | (with_reducible exact LeO.none _)
      | (with_reducible refine LeO.ite ?_ ?_)
      | (with_reducible refine LeO.bind ?_ (fun _ => ?_))
      | exact ih0 _ _ _ _ _ _
      | exact ih1 _ _ _ _ _
      | exact stolonref01_Same.mono _ _ _
      | exact LeO.none _
      | refine LeO.ite ?_ ?_
      | refine LeO.bind ?_ (fun _ => ?_)
theorem stolonlaw02_SumZeros.mono : ∀ a0 a1 k, LeO (stolonlaw02_SumZeros.f k a0 a1) (stolonlaw02_SumZeros.f (k + 1) a0 a1) := by
  intro a0 a1 k
  obtain ⟨ih0, ih1⟩ := stolonlaw02_SumZeros.mono_l k
  unfold stolonlaw02_SumZeros.f
  repeat' first
      | (with_reducible exact ih0 _ _ _ _ _ _)
      | (with_reducible exact ih1 _ _ _ _ _)
      | (with_reducible exact stolonref01_Same.mono _ _ _)
      | (with_reducible exact LeO.refl _)
      | (with_reducible exact LeO.none _)
      | (with_reducible refine LeO.ite ?_ ?_)
      | (with_reducible refine LeO.bind ?_ (fun _ => ?_))
      | exact ih0 _ _ _ _ _ _
      | exact ih1 _ _ _ _ _
      | exact stolonref01_Same.mono _ _ _
      | exact LeO.none _
      | refine LeO.ite ?_ ?_
      | refine LeO.bind ?_ (fun _ => ?_)
set_option maxHeartbeats 8000000 in
set_option maxRecDepth 100000 in
theorem stolonlaw02_SumZeros.calls (k : Nat) (a0 : Int) (a1 : Int) (r : Bool) (w : World) (h : stolonlaw02_SumZeros.f k a0 a1 = some r) :
    Calls Try.prog 8 #[.int .u8 a0, .int .i64 a1] w fun e w' => e = .returned (.bool r) ∧ Below w.heap.size w w' := by
  have HB := Aside0.mk (Below.refl w.heap.size w)
  have H : ((stolonlaw02_shown.f).bind fun t218 => (if 0 ≤ (wrap64 (a0)) then (if (wrap64 (a0) : Int).toNat ≤ 281474976710656 then ((some (List.replicate (wrap64 (a0) : Int).toNat 0 : List Int)).bind fun y219 => ((sum_Put.f y219 a1).bind fun bt222 => ((sum_Of.f y219).bind fun t226 => (if t226 = 65535 then ((sum_Whole.f y219).bind fun t227 => (stolonlaw02_SumZeros.j0 k a1 t218 y219 bt222.1 bt222.2 t227)) else (stolonlaw02_SumZeros.j0 k a1 t218 y219 bt222.1 bt222.2 true))))) else (none)) else (none))) = some r := h
  clear h
  replace H := Option.bind_eq_some_iff.mp H
  obtain ⟨t218, A30, H⟩ := H
  replace H : (if 0 ≤ (wrap64 (a0)) then (if (wrap64 (a0) : Int).toNat ≤ 281474976710656 then ((some (List.replicate (wrap64 (a0) : Int).toNat 0 : List Int)).bind fun y219 => ((sum_Put.f y219 a1).bind fun bt222 => ((sum_Of.f y219).bind fun t226 => (if t226 = 65535 then ((sum_Whole.f y219).bind fun t227 => (stolonlaw02_SumZeros.j0 k a1 t218 y219 bt222.1 bt222.2 t227)) else (stolonlaw02_SumZeros.j0 k a1 t218 y219 bt222.1 bt222.2 true))))) else (none)) else (none)) = some r := H
  have A3 := Aside0.mk A30
  clear A30
  obtain ⟨ji4, hji4⟩ : ∃ j_ : Int, (wrap64 (a0)) = j_ := ⟨_, rfl⟩
  replace H : (if 0 ≤ (ji4) then (if (ji4 : Int).toNat ≤ 281474976710656 then ((some (List.replicate (ji4 : Int).toNat 0 : List Int)).bind fun y219 => ((sum_Put.f y219 a1).bind fun bt222 => ((sum_Of.f y219).bind fun t226 => (if t226 = 65535 then ((sum_Whole.f y219).bind fun t227 => (stolonlaw02_SumZeros.j0 k a1 t218 y219 bt222.1 bt222.2 t227)) else (stolonlaw02_SumZeros.j0 k a1 t218 y219 bt222.1 bt222.2 true))))) else (none)) else (none)) = some r := by first | (rw [hji4] at H; exact H) | (simp only [hji4] at H ⊢; exact H)
  (try rw [hji4] at A3)
  have hji4w : (IntKind.i64.wrap (a0)) = ji4 := (i64_w _).trans hji4
  by_cases c5 : 0 ≤ (ji4)
  · rw [if_pos c5] at H
    have c5b0 := eq_true c5
    have c5b1 : decide (0 ≤ (ji4)) = true := decide_eq_true c5
    clear c5
    by_cases c6 : (ji4 : Int).toNat ≤ 281474976710656
    · rw [if_pos c6] at H
      have c6b0 := eq_true c6
      have c6b1 : decide ((ji4 : Int).toNat ≤ 281474976710656) = true := decide_eq_true c6
      clear c6
      obtain ⟨y219, hy219⟩ : ∃ y_ : List Int, y_ = (List.replicate (ji4 : Int).toNat 0) := ⟨_, rfl⟩
      replace H : ((sum_Put.f y219 a1).bind fun bt222 => ((sum_Of.f y219).bind fun t226 => (if t226 = 65535 then ((sum_Whole.f y219).bind fun t227 => (stolonlaw02_SumZeros.j0 k a1 t218 y219 bt222.1 bt222.2 t227)) else (stolonlaw02_SumZeros.j0 k a1 t218 y219 bt222.1 bt222.2 true)))) = some r := by first | (rw [hy219]; with_reducible exact H) | (have H2_ := (Option.bind_some _ _).symm.trans H; rw [hy219]; with_reducible exact H2_) | (have H2_ := (Option.bind_some _ _).symm.trans H; with_reducible exact H2_) | with_reducible exact H | (rw [hy219]; exact H) | exact H
      have Ny219 := Aside0.mk hy219
      clear hy219
      replace H := Option.bind_eq_some_iff.mp H
      obtain ⟨⟨t222, t223⟩, A70, H⟩ := H
      replace H : ((sum_Of.f y219).bind fun t226 => (if t226 = 65535 then ((sum_Whole.f y219).bind fun t227 => (stolonlaw02_SumZeros.j0 k a1 t218 y219 t222 t223 t227)) else (stolonlaw02_SumZeros.j0 k a1 t218 y219 t222 t223 true))) = some r := H
      have A7 := Aside0.mk A70
      clear A70
      have HC8 := Aside0.mk H
      clear H
      go_enter Try.func8, Try.ntmps8
      go_upto_region 4 with (first | ((with_reducible refine gate_callee (f := 9) rfl ?_); refine goesL_ (some 9) rfl rfl Try.func9 (by kernel_rfl) rfl #[] rfl (by (try simp only [List.map_toArray, List.map_cons, List.map_nil]); first | done | rfl | (simp only [List.length_drop, List.length_take]; rfl)) ?_; (with_reducible refine (stolonlaw02_shown.calls  t218 _ A3.out).mono ?_); rintro e w9 ⟨rfl, hb⟩; refine ⟨_, rfl, ?_⟩; have n0_ := Aside0.mk (below_step (by repeat (first | (with_reducible first | exact HB.out | apply below_alloc | apply pw_below_drewN | apply below_drew1) | exact HB.out)) hb); clear HB; have HB := n0_; clear n0_; (try clear hb); (try clear hb2); (try clear hk); (try clear hi)) | ((with_reducible refine gate_dst (N := 12) rfl ?_); (try (refine gate_guard (by rfl) ?_; dsimp only)); refine Kd.R_make (Kd.int .u8) _ 5 rfl (N := 12) rfl 22 _ _ rfl ji4 rfl rfl Try.underlying22 (.int .u8 0) 1 info5 rfl (by decide) (by omega) 0 (ok := fun _ => True) (okp := fun _ => True) rfl (fun _ hk => hk) trivial (of_decide_eq_true (by first | (with_reducible assumption) | assumption)) (Nat.le_trans (Nat.mul_le_mul_right _ (of_decide_eq_true (by first | (with_reducible assumption) | assumption) : ji4.toNat ≤ 281474976710656)) (by omega)) (Below.refl _ _) (Nat.le_refl _) ?_; intro v220 w10 ho11 hb hg_ hnew_; clear hg_ hnew_; (first | rw [← Ny219.out] at ho11 | (simp only [Int.reduceToNat] at ho11; rw [← Ny219.out] at ho11)); have n0_ := Aside0.mk (Kd.R_lower ho11 (below_size (by repeat (first | (with_reducible first | exact HB.out | apply below_alloc | apply pw_below_drewN | apply below_drew1) | exact HB.out)))); have n1_ := Aside0.mk (below_step (by repeat (first | (with_reducible first | exact HB.out | apply below_alloc | apply pw_below_drewN | apply below_drew1) | exact HB.out)) hb); clear HB; have HO221 := n0_; have HB := n1_; clear n0_ n1_; clear hb ho11; obtain ⟨Ao12, co12, eo12⟩ := Kd.R_slice HO221.out; subst eo12) | ((with_reducible refine gate_callee (f := 10) rfl ?_); refine goesL_ (some 16) rfl rfl Try.func10 (by kernel_rfl) rfl #[.slice Ao12 y219.length co12, .int .i64 a1] rfl (by (try simp only [List.map_toArray, List.map_cons, List.map_nil]); first | done | rfl | (simp only [List.length_drop, List.length_take]; rfl)) ?_; (with_reducible refine (sum_Put.calls _ _ y219 a1 t222 t223 _ ?side1 ?side2 A7.out).mono ?_); (case side1 => repeat (first | exact (Kd.R_reads' HO221.out).2.2 | (with_reducible refine Kd.C_alloc ?_ _) | (with_reducible refine Kd.C_drewN ?_ _) | (with_reducible refine Kd.C_drew ?_))); (case side2 => exact (Kd.R_reads' HO221.out).2.1); rintro e w13 ⟨v224, rfl, ho0, hb⟩; refine ⟨_, rfl, ?_⟩; have n0_ := Aside0.mk (Kd.R_elder' (by (with_reducible repeat (first | apply Kd.R_alloc | apply Kd.R_drewN | apply Kd.R_drew)); exact HO221.out) (Kd.R_base ho0) hb); have n1_ := Aside0.mk (Kd.R_lower (Kd.R_new' ho0 (Kd.R_lt (by (with_reducible repeat (first | apply Kd.R_alloc | apply Kd.R_drewN | apply Kd.R_drew)); exact HO221.out))) (below_size (by repeat (first | (with_reducible first | exact HB.out | apply below_alloc | apply pw_below_drewN | apply below_drew1) | exact HB.out)))); have n2_ := Aside0.mk (below_step (by repeat (first | (with_reducible first | exact HB.out | apply below_alloc | apply pw_below_drewN | apply below_drew1) | exact HB.out)) hb); clear HO221; clear HB; have HO221 := n0_; have HO225 := n1_; have HB := n2_; clear n0_ n1_ n2_; (try clear hb); (try clear hb2); (try clear hk); (try clear hi); (try clear ho0)))
      (try simp only [Act.put, List.setIfInBounds_toArray, List.set_cons_zero, List.set_cons_succ])
      go_cut [25] (fun v25 wc => ∃ (kq : Nat) (x25_7 : Bool), v25 = .bool x25_7 ∧ Aside0 (stolonlaw02_SumZeros.j0 kq a1 t218 y219 t222 t223 x25_7 = some r) ∧ Aside0 (kq ≤ k) ∧ Aside0 (Kd.R (Kd.int .u8) 5 wc w.heap.size (fun k_ => some k_ ≠ (v224 : Value).ownBlock) (.slice Ao12 y219.length co12) y219) ∧ Aside0 (Kd.R (Kd.int .u8) 5 wc w.heap.size (fun k_ => some k_ ≠ ((.slice Ao12 y219.length co12) : Value).ownBlock) v224 t222) ∧ Aside0 (Below w.heap.size w wc))
      case first =>
        have H := HC8.out
        clear HC8
        replace H := Option.bind_eq_some_iff.mp H
        obtain ⟨t226, A140, H⟩ := H
        replace H : (if t226 = 65535 then ((sum_Whole.f y219).bind fun t227 => (stolonlaw02_SumZeros.j0 k a1 t218 y219 t222 t223 t227)) else (stolonlaw02_SumZeros.j0 k a1 t218 y219 t222 t223 true)) = some r := H
        have A14 := Aside0.mk A140
        clear A140
        by_cases c15 : t226 = 65535
        · rw [if_pos c15] at H
          have c15b0 : (t226 == 65535) = true := beq_iff_eq.mpr c15
          have c15b1 : (t226 != 65535) = false := bne_eq_false_iff_eq.mpr c15
          clear c15
          (first | rw [c15b0] | (simp only [i64_w, i32_w]; rw [c15b0]) | skip)
          replace H := Option.bind_eq_some_iff.mp H
          obtain ⟨t227, A160, H⟩ := H
          replace H : (stolonlaw02_SumZeros.j0 k a1 t218 y219 t222 t223 t227) = some r := H
          have A16 := Aside0.mk A160
          clear A160
          have H' := Aside0.mk H
          clear H
          go_wp2_with (first | ((with_reducible refine gate_callee (f := 13) rfl ?_); refine goesL_ (some 20) rfl rfl Try.func13 (by kernel_rfl) rfl #[.slice Ao12 y219.length co12] rfl (by (try simp only [List.map_toArray, List.map_cons, List.map_nil]); first | done | rfl | (simp only [List.length_drop, List.length_take]; rfl)) ?_; (with_reducible refine (sum_Of.calls _ _ y219 t226 _ ?side1 ?side2 A14.out).mono ?_); (case side1 => repeat (first | exact (Kd.R_reads' HO221.out).2.2 | (with_reducible refine Kd.C_alloc ?_ _) | (with_reducible refine Kd.C_drewN ?_ _) | (with_reducible refine Kd.C_drew ?_))); (case side2 => exact (Kd.R_reads' HO221.out).2.1); rintro e w17 ⟨rfl, hb⟩; refine ⟨_, rfl, ?_⟩; have n0_ := Aside0.mk (Kd.R_below (by (with_reducible repeat (first | apply Kd.R_alloc | apply Kd.R_drewN | apply Kd.R_drew)); exact HO221.out) hb); have n1_ := Aside0.mk (Kd.R_below (by (with_reducible repeat (first | apply Kd.R_alloc | apply Kd.R_drewN | apply Kd.R_drew)); exact HO225.out) hb); have n2_ := Aside0.mk (below_step (by repeat (first | (with_reducible first | exact HB.out | apply below_alloc | apply pw_below_drewN | apply below_drew1) | exact HB.out)) hb); clear HO221; clear HO225; clear HB; have HO221 := n0_; have HO225 := n1_; have HB := n2_; clear n0_ n1_ n2_; (try clear hb); (try clear hb2); (try clear hk); (try clear hi)) | (go_at_call 14; (with_reducible refine (sum_Whole.calls _ _ y219 t227 _ ?side1 ?side2 A16.out).mono ?_); (case side1 => repeat (first | exact (Kd.R_reads' HO221.out).2.2 | (with_reducible refine Kd.C_alloc ?_ _) | (with_reducible refine Kd.C_drewN ?_ _) | (with_reducible refine Kd.C_drew ?_))); (case side2 => exact (Kd.R_reads' HO221.out).2.1); rintro e w18 ⟨rfl, hb⟩; have n0_ := Aside0.mk (Kd.R_below (by (with_reducible repeat (first | apply Kd.R_alloc | apply Kd.R_drewN | apply Kd.R_drew)); exact HO221.out) hb); have n1_ := Aside0.mk (Kd.R_below (by (with_reducible repeat (first | apply Kd.R_alloc | apply Kd.R_drewN | apply Kd.R_drew)); exact HO225.out) hb); have n2_ := Aside0.mk (below_step (by repeat (first | (with_reducible first | exact HB.out | apply below_alloc | apply pw_below_drewN | apply below_drew1) | exact HB.out)) hb); clear HO221; clear HO225; clear HB; have HO221 := n0_; have HO225 := n1_; have HB := n2_; clear n0_ n1_ n2_; (try clear hb); (try clear hb2); (try clear hk); (try clear hi)))
          go_meet
          case rel => exact ⟨_, (t227), (by first | rfl | (simp; done) | (simp [*]; done)), H', ⟨by first | omega | exact Nat.le_refl _⟩, ⟨by (with_reducible repeat (first | apply Kd.R_alloc | apply Kd.R_drewN | apply Kd.R_drew)); exact Kd.R_mono HO221.out (fun _ hk => hk.2)⟩, ⟨by (with_reducible repeat (first | apply Kd.R_alloc | apply Kd.R_drewN | apply Kd.R_drew)); exact Kd.R_mono HO225.out (fun _ hk => hk.2)⟩, ⟨by repeat (first | (with_reducible first | exact HB.out | apply below_alloc | apply pw_below_drewN | apply below_drew1) | exact HB.out)⟩⟩
        · rw [if_neg c15] at H
          have c15b0 : (t226 == 65535) = false := beq_eq_false_iff_ne.mpr c15
          have c15b1 : (t226 != 65535) = true := bne_iff_ne.mpr c15
          (first | rw [c15b0] | (simp only [i64_w, i32_w]; rw [c15b0]) | skip)
          have H' := Aside0.mk H
          clear H
          go_wp2_with (first | ((with_reducible refine gate_callee (f := 13) rfl ?_); refine goesL_ (some 20) rfl rfl Try.func13 (by kernel_rfl) rfl #[.slice Ao12 y219.length co12] rfl (by (try simp only [List.map_toArray, List.map_cons, List.map_nil]); first | done | rfl | (simp only [List.length_drop, List.length_take]; rfl)) ?_; (with_reducible refine (sum_Of.calls _ _ y219 t226 _ ?side1 ?side2 A14.out).mono ?_); (case side1 => repeat (first | exact (Kd.R_reads' HO221.out).2.2 | (with_reducible refine Kd.C_alloc ?_ _) | (with_reducible refine Kd.C_drewN ?_ _) | (with_reducible refine Kd.C_drew ?_))); (case side2 => exact (Kd.R_reads' HO221.out).2.1); rintro e w19 ⟨rfl, hb⟩; refine ⟨_, rfl, ?_⟩; have n0_ := Aside0.mk (Kd.R_below (by (with_reducible repeat (first | apply Kd.R_alloc | apply Kd.R_drewN | apply Kd.R_drew)); exact HO221.out) hb); have n1_ := Aside0.mk (Kd.R_below (by (with_reducible repeat (first | apply Kd.R_alloc | apply Kd.R_drewN | apply Kd.R_drew)); exact HO225.out) hb); have n2_ := Aside0.mk (below_step (by repeat (first | (with_reducible first | exact HB.out | apply below_alloc | apply pw_below_drewN | apply below_drew1) | exact HB.out)) hb); clear HO221; clear HO225; clear HB; have HO221 := n0_; have HO225 := n1_; have HB := n2_; clear n0_ n1_ n2_; (try clear hb); (try clear hb2); (try clear hk); (try clear hi)))
          go_meet
          case rel => exact ⟨_, (true), (by first | rfl | (simp; done) | (simp [*]; done)), H', ⟨by first | omega | exact Nat.le_refl _⟩, ⟨by (with_reducible repeat (first | apply Kd.R_alloc | apply Kd.R_drewN | apply Kd.R_drew)); exact Kd.R_mono HO221.out (fun _ hk => hk.2)⟩, ⟨by (with_reducible repeat (first | apply Kd.R_alloc | apply Kd.R_drewN | apply Kd.R_drew)); exact Kd.R_mono HO225.out (fun _ hk => hk.2)⟩, ⟨by repeat (first | (with_reducible first | exact HB.out | apply below_alloc | apply pw_below_drewN | apply below_drew1) | exact HB.out)⟩⟩
      case rest =>
        clear HC8
        try clear c1
        try clear p2
        try clear c5
        try clear c5b0
        try clear c5b1
        try clear c6
        try clear c6b0
        try clear c6b1
        try clear p6
        try clear c8
        try clear c9
        try clear c10
        try clear c13
        try clear c15
        try clear c15b0
        try clear c15b1
        obtain ⟨kq, x25_7, rfl, HA, HJ7, HO_6, HO_7, HB⟩ := hcut
        cases kq with
        | zero => exact absurd HA.out (by simp [stolonlaw02_SumZeros.j0])
        | succ kj7 =>
          have H := HA.out
          clear HA
          simp only [stolonlaw02_SumZeros.j0] at H
          by_cases c20 : x25_7 = true
          · subst c20
            have H1 : (some false) = some r := by rw [if_pos rfl] at H; exact H
            clear H
            have H := H1
            clear H1
            obtain rfl := Option.some.inj H
            go_wp2
            go_ret
            exact ⟨by first | rfl | (simp [errW_none, errW_some] <;> rfl) | (simp only [← hji4]; first | rfl | (simp [errW_none, errW_some] <;> rfl)) | (simp [*, errW_none, errW_some] <;> rfl), by repeat (first | (with_reducible first | exact HB.out | apply below_alloc | apply pw_below_drewN | apply below_drew1) | exact HB.out)⟩
          · replace c20 := Bool.eq_false_iff.mpr c20
            subst c20
            have H1 : (if t223 = 0 then (if (t222.length : Int) = (y219.length : Int) then (if a1 < 0 then (stolonlaw02_SumZeros.j1 kj7 a1 t218 y219 t222 true) else (stolonlaw02_SumZeros.j1 kj7 a1 t218 y219 t222 (decide (a1 ≥ (wrap64 ((t222.length : Int) - 1)))))) else (stolonlaw02_SumZeros.j1 kj7 a1 t218 y219 t222 true)) else (if t218 = true then (some ((t222.length : Int) == 0)) else (some false))) = some r := by rw [if_neg (show ¬ (false = true) by decide)] at H; exact H
            clear H
            have H := H1
            clear H1
            by_cases c21 : t223 = 0
            · rw [if_pos c21] at H
              have c21b0 : (t223 == 0) = true := beq_iff_eq.mpr c21
              have c21b1 : (t223 != 0) = false := bne_eq_false_iff_eq.mpr c21
              clear c21
              have HC22 := Aside0.mk H
              clear H
              go_upto_region 8 with (fail)
              go_cut [49] (fun v49 wc => ∃ (kq : Nat) (x49_21 : Bool), v49 = .bool x49_21 ∧ Aside0 (stolonlaw02_SumZeros.j1 kq a1 t218 y219 t222 x49_21 = some r) ∧ Aside0 (kq ≤ kj7) ∧ Aside0 (Kd.R (Kd.int .u8) 5 wc w.heap.size (fun k_ => some k_ ≠ (v224 : Value).ownBlock) (.slice Ao12 y219.length co12) y219) ∧ Aside0 (Kd.R (Kd.int .u8) 5 wc w.heap.size (fun k_ => some k_ ≠ ((.slice Ao12 y219.length co12) : Value).ownBlock) v224 t222) ∧ Aside0 (Below w.heap.size w wc))
              case first =>
                have H := HC22.out
                clear HC22
                by_cases c23 : (t222.length : Int) = (y219.length : Int)
                · rw [if_pos c23] at H
                  have c23b0 : ((t222.length : Int) == (y219.length : Int)) = true := beq_iff_eq.mpr c23
                  have c23b1 : ((t222.length : Int) != (y219.length : Int)) = false := bne_eq_false_iff_eq.mpr c23
                  have c23b2 : (t222.length == y219.length) = true := by first | simpa using c23 | (simp at c23 ⊢; omega)
                  clear c23
                  (first | rw [c23b0] | (simp only [i64_w, i32_w]; rw [c23b0]) | skip)
                  by_cases c24 : a1 < 0
                  · rw [if_pos c24] at H
                    have c24b0 : decide (a1 < 0) = true := decide_eq_true c24
                    clear c24
                    have H' := Aside0.mk H
                    clear H
                    obtain ⟨Ao25, co25, eo25⟩ := Kd.R_slice HO_7.out
                    subst eo25
                    go_wp2
                    go_meet
                    case rel => exact ⟨_, (true), (by first | rfl | (simp; done) | (simp [*]; done)), H', ⟨by have := HJ7.out; first | omega | exact Nat.le_refl _⟩, ⟨by (with_reducible repeat (first | apply Kd.R_alloc | apply Kd.R_drewN | apply Kd.R_drew)); exact HO_6.out⟩, ⟨by (with_reducible repeat (first | apply Kd.R_alloc | apply Kd.R_drewN | apply Kd.R_drew)); exact HO_7.out⟩, ⟨by repeat (first | (with_reducible first | exact HB.out | apply below_alloc | apply pw_below_drewN | apply below_drew1) | exact HB.out)⟩⟩
                  · rw [if_neg c24] at H
                    have c24b0 : decide (a1 < 0) = false := decide_eq_false c24
                    clear c24
                    have H' := Aside0.mk H
                    clear H
                    obtain ⟨Ao26, co26, eo26⟩ := Kd.R_slice HO_7.out
                    subst eo26
                    go_wp2
                    go_meet
                    case rel => exact ⟨_, (decide (a1 ≥ (wrap64 ((t222.length : Int) - 1)))), (by first | rfl | (simp; done) | (simp [*]; done)), H', ⟨by have := HJ7.out; first | omega | exact Nat.le_refl _⟩, ⟨by (with_reducible repeat (first | apply Kd.R_alloc | apply Kd.R_drewN | apply Kd.R_drew)); exact HO_6.out⟩, ⟨by (with_reducible repeat (first | apply Kd.R_alloc | apply Kd.R_drewN | apply Kd.R_drew)); exact HO_7.out⟩, ⟨by repeat (first | (with_reducible first | exact HB.out | apply below_alloc | apply pw_below_drewN | apply below_drew1) | exact HB.out)⟩⟩
                · rw [if_neg c23] at H
                  have c23b0 : ((t222.length : Int) == (y219.length : Int)) = false := beq_eq_false_iff_ne.mpr c23
                  have c23b1 : ((t222.length : Int) != (y219.length : Int)) = true := bne_iff_ne.mpr c23
                  have c23b2 : (t222.length == y219.length) = false := by first | simpa using c23 | (simp at c23 ⊢; omega)
                  (first | rw [c23b0] | (simp only [i64_w, i32_w]; rw [c23b0]) | skip)
                  have H' := Aside0.mk H
                  clear H
                  obtain ⟨Ao27, co27, eo27⟩ := Kd.R_slice HO_7.out
                  subst eo27
                  go_wp2
                  go_meet
                  case rel => exact ⟨_, (true), (by first | rfl | (simp; done) | (simp [*]; done)), H', ⟨by have := HJ7.out; first | omega | exact Nat.le_refl _⟩, ⟨by (with_reducible repeat (first | apply Kd.R_alloc | apply Kd.R_drewN | apply Kd.R_drew)); exact HO_6.out⟩, ⟨by (with_reducible repeat (first | apply Kd.R_alloc | apply Kd.R_drewN | apply Kd.R_drew)); exact HO_7.out⟩, ⟨by repeat (first | (with_reducible first | exact HB.out | apply below_alloc | apply pw_below_drewN | apply below_drew1) | exact HB.out)⟩⟩
              case rest =>
                clear HC22
                try clear c1
                try clear c2
                try clear p2
                try clear c5
                try clear c5b0
                try clear c5b1
                try clear c6
                try clear c6b0
                try clear c6b1
                try clear p6
                try clear c8
                try clear c9
                try clear c10
                try clear c13
                try clear c15
                try clear c15b0
                try clear c15b1
                try clear c20
                try clear c21
                try clear c21b0
                try clear c21b1
                try clear c23
                try clear c23b0
                try clear c23b1
                try clear c23b2
                try clear c24
                try clear c24b0
                try clear p2
                try clear p6
                obtain ⟨kq, x49_21, rfl, HA, HJ21, HO_6, HO_7, HB⟩ := hcut
                cases kq with
                | zero => exact absurd HA.out (by simp [stolonlaw02_SumZeros.j1])
                | succ kj21 =>
                  have H := HA.out
                  clear HA
                  simp only [stolonlaw02_SumZeros.j1] at H
                  by_cases c28 : x49_21 = true
                  · subst c28
                    have H1 : (some false) = some r := by rw [if_pos rfl] at H; exact H
                    clear H
                    have H := H1
                    clear H1
                    obtain rfl := Option.some.inj H
                    go_wp2
                    go_ret
                    exact ⟨by first | rfl | (simp [errW_none, errW_some] <;> rfl) | (simp only [← hji4]; first | rfl | (simp [errW_none, errW_some] <;> rfl)) | (simp [*, errW_none, errW_some] <;> rfl), by repeat (first | (with_reducible first | exact HB.out | apply below_alloc | apply pw_below_drewN | apply below_drew1) | exact HB.out)⟩
                  · replace c28 := Bool.eq_false_iff.mpr c28
                    subst c28
                    have H1 : (if t218 = true then (if 0 ≤ a1 then (if a1 < (t222.length : Int) then (if (rd t222 a1) = 255 then (if 0 ≤ (wrap64 (a1 + 1)) then (if (wrap64 (a1 + 1)) < (t222.length : Int) then (if (rd t222 (wrap64 (a1 + 1))) = 255 then ((sum_Whole.f t222).bind fun t230 => (if t230 = true then ((stolonref01_Same.f kj21 t222 y219).bind fun t231 => (some (!t231))) else (some false))) else (some false)) else (none)) else (none)) else (some false)) else (none)) else (none)) else (some false)) = some r := by rw [if_neg (show ¬ (false = true) by decide)] at H; exact H
                    clear H
                    have H := H1
                    clear H1
                    by_cases c29 : t218 = true
                    · subst c29
                      have H1 : (if 0 ≤ a1 then (if a1 < (t222.length : Int) then (if (rd t222 a1) = 255 then (if 0 ≤ (wrap64 (a1 + 1)) then (if (wrap64 (a1 + 1)) < (t222.length : Int) then (if (rd t222 (wrap64 (a1 + 1))) = 255 then ((sum_Whole.f t222).bind fun t230 => (if t230 = true then ((stolonref01_Same.f kj21 t222 y219).bind fun t231 => (some (!t231))) else (some false))) else (some false)) else (none)) else (none)) else (some false)) else (none)) else (none)) = some r := by rw [if_pos rfl] at H; exact H
                      clear H
                      have H := H1
                      clear H1
                      by_cases c30 : 0 ≤ a1
                      · rw [if_pos c30] at H
                        have c30b0 : decide (0 ≤ a1) = true := decide_eq_true c30
                        clear c30
                        by_cases c31 : a1 < (t222.length : Int)
                        · rw [if_pos c31] at H
                          have c31b0 : decide (a1 < (t222.length : Int)) = true := decide_eq_true c31
                          clear c31
                          by_cases c32 : (rd t222 a1) = 255
                          · rw [if_pos c32] at H
                            have c32b0 : ((rd t222 a1) == 255) = true := beq_iff_eq.mpr c32
                            have c32b1 : ((rd t222 a1) != 255) = false := bne_eq_false_iff_eq.mpr c32
                            clear c32
                            obtain ⟨ji33, hji33⟩ : ∃ j_ : Int, (wrap64 (a1 + 1)) = j_ := ⟨_, rfl⟩
                            replace H : (if 0 ≤ (ji33) then (if (ji33) < (t222.length : Int) then (if (rd t222 (ji33)) = 255 then ((sum_Whole.f t222).bind fun t230 => (if t230 = true then ((stolonref01_Same.f kj21 t222 y219).bind fun t231 => (some (!t231))) else (some false))) else (some false)) else (none)) else (none)) = some r := by first | (rw [hji33] at H; exact H) | (simp only [hji33] at H ⊢; exact H)
                            have hji33w : (IntKind.i64.wrap (a1 + 1)) = ji33 := (i64_w _).trans hji33
                            by_cases c34 : 0 ≤ (ji33)
                            · rw [if_pos c34] at H
                              have c34b0 : decide (0 ≤ (ji33)) = true := decide_eq_true c34
                              clear c34
                              by_cases c35 : (ji33) < (t222.length : Int)
                              · rw [if_pos c35] at H
                                have c35b0 : decide ((ji33) < (t222.length : Int)) = true := decide_eq_true c35
                                clear c35
                                by_cases c36 : (rd t222 (ji33)) = 255
                                · rw [if_pos c36] at H
                                  have c36b0 : ((rd t222 (ji33)) == 255) = true := beq_iff_eq.mpr c36
                                  have c36b1 : ((rd t222 (ji33)) != 255) = false := bne_eq_false_iff_eq.mpr c36
                                  clear c36
                                  replace H := Option.bind_eq_some_iff.mp H
                                  obtain ⟨t230, A370, H⟩ := H
                                  replace H : (if t230 = true then ((stolonref01_Same.f kj21 t222 y219).bind fun t231 => (some (!t231))) else (some false)) = some r := H
                                  have A37 := Aside0.mk A370
                                  clear A370
                                  by_cases c38 : t230 = true
                                  · subst c38
                                    have H1 : ((stolonref01_Same.f kj21 t222 y219).bind fun t231 => (some (!t231))) = some r := by rw [if_pos rfl] at H; exact H
                                    clear H
                                    have H := H1
                                    clear H1
                                    replace H := Option.bind_eq_some_iff.mp H
                                    obtain ⟨t231, A390, H⟩ := H
                                    replace H : (some (!t231)) = some r := H
                                    have A39 := Aside0.mk A390
                                    clear A390
                                    obtain rfl := Option.some.inj H
                                    obtain ⟨Ao40, co40, eo40⟩ := Kd.R_slice HO_7.out
                                    subst eo40
                                    have p228 : 0 ≤ (a1 : Int) := of_decide_eq_true (by first | (with_reducible assumption) | assumption)
                                    have q228 : a1 < (t222.length : Int) := of_decide_eq_true (by first | (with_reducible assumption) | assumption)
                                    obtain ⟨ad228, e228, hx228_0⟩ := Kd.at_int (Kd.R_reads' HO_7.out).2.2 a1 p228 q228
                                    cases e228
                                    replace p228 := eq_true p228
                                    replace q228 := eq_true q228
                                    have p229 : 0 ≤ ((ji33) : Int) := of_decide_eq_true (by first | (with_reducible assumption) | assumption)
                                    have q229 : (ji33) < (t222.length : Int) := of_decide_eq_true (by first | (with_reducible assumption) | assumption)
                                    obtain ⟨ad229, e229, hx229_0⟩ := Kd.at_int (Kd.R_reads' HO_7.out).2.2 (ji33) p229 q229
                                    obtain rfl : ad228 = ad229 := (by injection e229)
                                    replace p229 := eq_true p229
                                    replace q229 := eq_true q229
                                    go_wp2_with (first | (go_at_call 14; (with_reducible refine (sum_Whole.calls _ _ t222 true _ ?side1 ?side2 A37.out).mono ?_); (case side1 => repeat (first | exact (Kd.R_reads' HO_7.out).2.2 | (with_reducible refine Kd.C_alloc ?_ _) | (with_reducible refine Kd.C_drewN ?_ _) | (with_reducible refine Kd.C_drew ?_))); (case side2 => exact (Kd.R_reads' HO_7.out).2.1); rintro e w41 ⟨rfl, hb⟩; have n0_ := Aside0.mk (Kd.R_below (by (with_reducible repeat (first | apply Kd.R_alloc | apply Kd.R_drewN | apply Kd.R_drew)); exact HO_6.out) hb); have n1_ := Aside0.mk (Kd.R_below (by (with_reducible repeat (first | apply Kd.R_alloc | apply Kd.R_drewN | apply Kd.R_drew)); exact HO_7.out) hb); have n2_ := Aside0.mk (below_step (by repeat (first | (with_reducible first | exact HB.out | apply below_alloc | apply pw_below_drewN | apply below_drew1) | exact HB.out)) hb); clear HO_6; clear HO_7; clear HB; have HO_6 := n0_; have HO_7 := n1_; have HB := n2_; clear n0_ n1_ n2_; (try clear hb); (try clear hb2); (try clear hk); (try clear hi)) | (go_at_call 15; (with_reducible refine (stolonref01_Same.calls kj21 _ _ t222 _ _ y219 t231 _ ?side1 ?side2 ?side3 ?side4 A39.out).mono ?_); (case side1 => repeat (first | exact (Kd.R_reads' HO_7.out).2.2 | (with_reducible refine Kd.C_alloc ?_ _) | (with_reducible refine Kd.C_drewN ?_ _) | (with_reducible refine Kd.C_drew ?_))); (case side2 => exact (Kd.R_reads' HO_7.out).2.1); (case side3 => repeat (first | exact (Kd.R_reads' HO_6.out).2.2 | (with_reducible refine Kd.C_alloc ?_ _) | (with_reducible refine Kd.C_drewN ?_ _) | (with_reducible refine Kd.C_drew ?_))); (case side4 => exact (Kd.R_reads' HO_6.out).2.1); rintro e w' ⟨rfl, ⟨nd, rfl⟩⟩))
                                    go_ret
                                    exact ⟨by first | rfl | (simp [errW_none, errW_some] <;> rfl) | (simp only [← hji4, ← hji33]; first | rfl | (simp [errW_none, errW_some] <;> rfl)) | (simp [*, errW_none, errW_some] <;> rfl), by repeat (first | (with_reducible first | exact HB.out | apply below_alloc | apply pw_below_drewN | apply below_drew1) | exact HB.out)⟩
                                  · replace c38 := Bool.eq_false_iff.mpr c38
                                    subst c38
                                    have H1 : (some false) = some r := by rw [if_neg (show ¬ (false = true) by decide)] at H; exact H
                                    clear H
                                    have H := H1
                                    clear H1
                                    obtain rfl := Option.some.inj H
                                    obtain ⟨Ao42, co42, eo42⟩ := Kd.R_slice HO_7.out
                                    subst eo42
                                    have p228 : 0 ≤ (a1 : Int) := of_decide_eq_true (by first | (with_reducible assumption) | assumption)
                                    have q228 : a1 < (t222.length : Int) := of_decide_eq_true (by first | (with_reducible assumption) | assumption)
                                    obtain ⟨ad228, e228, hx228_0⟩ := Kd.at_int (Kd.R_reads' HO_7.out).2.2 a1 p228 q228
                                    cases e228
                                    replace p228 := eq_true p228
                                    replace q228 := eq_true q228
                                    have p229 : 0 ≤ ((ji33) : Int) := of_decide_eq_true (by first | (with_reducible assumption) | assumption)
                                    have q229 : (ji33) < (t222.length : Int) := of_decide_eq_true (by first | (with_reducible assumption) | assumption)
                                    obtain ⟨ad229, e229, hx229_0⟩ := Kd.at_int (Kd.R_reads' HO_7.out).2.2 (ji33) p229 q229
                                    obtain rfl : ad228 = ad229 := (by injection e229)
                                    replace p229 := eq_true p229
                                    replace q229 := eq_true q229
                                    go_wp2_with (first | (go_at_call 14; (with_reducible refine (sum_Whole.calls _ _ t222 false _ ?side1 ?side2 A37.out).mono ?_); (case side1 => repeat (first | exact (Kd.R_reads' HO_7.out).2.2 | (with_reducible refine Kd.C_alloc ?_ _) | (with_reducible refine Kd.C_drewN ?_ _) | (with_reducible refine Kd.C_drew ?_))); (case side2 => exact (Kd.R_reads' HO_7.out).2.1); rintro e w43 ⟨rfl, hb⟩; have n0_ := Aside0.mk (Kd.R_below (by (with_reducible repeat (first | apply Kd.R_alloc | apply Kd.R_drewN | apply Kd.R_drew)); exact HO_6.out) hb); have n1_ := Aside0.mk (Kd.R_below (by (with_reducible repeat (first | apply Kd.R_alloc | apply Kd.R_drewN | apply Kd.R_drew)); exact HO_7.out) hb); have n2_ := Aside0.mk (below_step (by repeat (first | (with_reducible first | exact HB.out | apply below_alloc | apply pw_below_drewN | apply below_drew1) | exact HB.out)) hb); clear HO_6; clear HO_7; clear HB; have HO_6 := n0_; have HO_7 := n1_; have HB := n2_; clear n0_ n1_ n2_; (try clear hb); (try clear hb2); (try clear hk); (try clear hi)))
                                    go_ret
                                    exact ⟨by first | rfl | (simp [errW_none, errW_some] <;> rfl) | (simp only [← hji4, ← hji33]; first | rfl | (simp [errW_none, errW_some] <;> rfl)) | (simp [*, errW_none, errW_some] <;> rfl), by repeat (first | (with_reducible first | exact HB.out | apply below_alloc | apply pw_below_drewN | apply below_drew1) | exact HB.out)⟩
                                · rw [if_neg c36] at H
                                  have c36b0 : ((rd t222 (ji33)) == 255) = false := beq_eq_false_iff_ne.mpr c36
                                  have c36b1 : ((rd t222 (ji33)) != 255) = true := bne_iff_ne.mpr c36
                                  obtain rfl := Option.some.inj H
                                  obtain ⟨Ao44, co44, eo44⟩ := Kd.R_slice HO_7.out
                                  subst eo44
                                  have p228 : 0 ≤ (a1 : Int) := of_decide_eq_true (by first | (with_reducible assumption) | assumption)
                                  have q228 : a1 < (t222.length : Int) := of_decide_eq_true (by first | (with_reducible assumption) | assumption)
                                  obtain ⟨ad228, e228, hx228_0⟩ := Kd.at_int (Kd.R_reads' HO_7.out).2.2 a1 p228 q228
                                  cases e228
                                  replace p228 := eq_true p228
                                  replace q228 := eq_true q228
                                  have p229 : 0 ≤ ((ji33) : Int) := of_decide_eq_true (by first | (with_reducible assumption) | assumption)
                                  have q229 : (ji33) < (t222.length : Int) := of_decide_eq_true (by first | (with_reducible assumption) | assumption)
                                  obtain ⟨ad229, e229, hx229_0⟩ := Kd.at_int (Kd.R_reads' HO_7.out).2.2 (ji33) p229 q229
                                  obtain rfl : ad228 = ad229 := (by injection e229)
                                  replace p229 := eq_true p229
                                  replace q229 := eq_true q229
                                  go_wp2
                                  go_ret
                                  exact ⟨by first | rfl | (simp [errW_none, errW_some] <;> rfl) | (simp only [← hji4, ← hji33]; first | rfl | (simp [errW_none, errW_some] <;> rfl)) | (simp [*, errW_none, errW_some] <;> rfl), by repeat (first | (with_reducible first | exact HB.out | apply below_alloc | apply pw_below_drewN | apply below_drew1) | exact HB.out)⟩
                              · rw [if_neg c35] at H
                                exact absurd H (by simp)
                            · rw [if_neg c34] at H
                              exact absurd H (by simp)
                          · rw [if_neg c32] at H
                            have c32b0 : ((rd t222 a1) == 255) = false := beq_eq_false_iff_ne.mpr c32
                            have c32b1 : ((rd t222 a1) != 255) = true := bne_iff_ne.mpr c32
                            obtain rfl := Option.some.inj H
                            obtain ⟨Ao45, co45, eo45⟩ := Kd.R_slice HO_7.out
                            subst eo45
                            have p228 : 0 ≤ (a1 : Int) := of_decide_eq_true (by first | (with_reducible assumption) | assumption)
                            have q228 : a1 < (t222.length : Int) := of_decide_eq_true (by first | (with_reducible assumption) | assumption)
                            obtain ⟨ad228, e228, hx228_0⟩ := Kd.at_int (Kd.R_reads' HO_7.out).2.2 a1 p228 q228
                            cases e228
                            replace p228 := eq_true p228
                            replace q228 := eq_true q228
                            go_wp2
                            go_ret
                            exact ⟨by first | rfl | (simp [errW_none, errW_some] <;> rfl) | (simp only [← hji4]; first | rfl | (simp [errW_none, errW_some] <;> rfl)) | (simp [*, errW_none, errW_some] <;> rfl), by repeat (first | (with_reducible first | exact HB.out | apply below_alloc | apply pw_below_drewN | apply below_drew1) | exact HB.out)⟩
                        · rw [if_neg c31] at H
                          exact absurd H (by simp)
                      · rw [if_neg c30] at H
                        exact absurd H (by simp)
                    · replace c29 := Bool.eq_false_iff.mpr c29
                      subst c29
                      have H1 : (some false) = some r := by rw [if_neg (show ¬ (false = true) by decide)] at H; exact H
                      clear H
                      have H := H1
                      clear H1
                      obtain rfl := Option.some.inj H
                      go_wp2
                      go_ret
                      exact ⟨by first | rfl | (simp [errW_none, errW_some] <;> rfl) | (simp only [← hji4]; first | rfl | (simp [errW_none, errW_some] <;> rfl)) | (simp [*, errW_none, errW_some] <;> rfl), by repeat (first | (with_reducible first | exact HB.out | apply below_alloc | apply pw_below_drewN | apply below_drew1) | exact HB.out)⟩
            · rw [if_neg c21] at H
              have c21b0 : (t223 == 0) = false := beq_eq_false_iff_ne.mpr c21
              have c21b1 : (t223 != 0) = true := bne_iff_ne.mpr c21
              by_cases c46 : t218 = true
              · subst c46
                have H1 : (some ((t222.length : Int) == 0)) = some r := by rw [if_pos rfl] at H; exact H
                clear H
                have H := H1
                clear H1
                obtain rfl := Option.some.inj H
                obtain ⟨Ao47, co47, eo47⟩ := Kd.R_slice HO_7.out
                subst eo47
                go_wp2
                go_ret
                exact ⟨by first | rfl | (simp [errW_none, errW_some] <;> rfl) | (simp only [← hji4]; first | rfl | (simp [errW_none, errW_some] <;> rfl)) | (simp [*, errW_none, errW_some] <;> rfl), by repeat (first | (with_reducible first | exact HB.out | apply below_alloc | apply pw_below_drewN | apply below_drew1) | exact HB.out)⟩
              · replace c46 := Bool.eq_false_iff.mpr c46
                subst c46
                have H1 : (some false) = some r := by rw [if_neg (show ¬ (false = true) by decide)] at H; exact H
                clear H
                have H := H1
                clear H1
                obtain rfl := Option.some.inj H
                go_wp2
                go_ret
                exact ⟨by first | rfl | (simp [errW_none, errW_some] <;> rfl) | (simp only [← hji4]; first | rfl | (simp [errW_none, errW_some] <;> rfl)) | (simp [*, errW_none, errW_some] <;> rfl), by repeat (first | (with_reducible first | exact HB.out | apply below_alloc | apply pw_below_drewN | apply below_drew1) | exact HB.out)⟩
    · rw [if_neg c6] at H
      exact absurd H (by simp)
  · rw [if_neg c5] at H
    exact absurd H (by simp)

/-- THE ONE PURE STATEMENT of stolonlaw02_SumZeros: yours. -/
def stolonlaw02_SumZeros.Pure : Prop := ∀ (a0 : Int) (a1 : Int), (Lit.int .u8 a0).wf = true → (Lit.int .i64 a1).wf = true → ∃ k, stolonlaw02_SumZeros.f k a0 a1 = some true
theorem stolonlaw02_SumZeros.walk (P : stolonlaw02_SumZeros.Pure) (a0 : Int) (a1 : Int) (w : World) (w0 : (Lit.int .u8 a0).wf = true) (w1 : (Lit.int .i64 a1).wf = true) :
    Calls Try.prog 8 #[.int .u8 a0, .int .i64 a1] w fun e w' => e = .returned (.bool true) ∧ Below w.heap.size w w' := by
  obtain ⟨k, h⟩ := P a0 a1 w0 w1
  refine (stolonlaw02_SumZeros.calls k a0 a1 true w h).mono ?_
  rintro e w' ⟨rfl, hd⟩
  exact ⟨rfl, hd⟩

end Go.Proofs.Ytacjimkkbimcaaa.PSum
