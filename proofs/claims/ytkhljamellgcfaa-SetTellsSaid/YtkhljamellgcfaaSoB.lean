/- Texts of a claim. -/
import Derived.Test.YtkhljamellgcfaaPSetx0
import Derived.Test.YtkhljamellgcfaaPSetx4
import Derived.Sort.AssemblyPlain
import Derived.Lib.Walk
import Derived.IntWalk
import Derived.Sort.Row
import Derived.Lib.Hide
import Derived.RegionTactic
import Derived.ChangeAlike
import Derived.WalkKit
import Derived.Deep.Draws
import Derived.Deep.QuietTactic
import Derived.BigCall
import Derived.BigGuard
import Derived.CellFam
import Derived.BigQuiet
import Derived.Test.YtkhljamellgcfaaSetB
import Derived.Test.YtkhljamellgcfaaProg
import Derived.Deep.DeepCutAuto
import Derived.Deep.CutBlock
import Derived.Laws.BitsLemmas
-- written by a program of this session (hprint.py), over the kit's printer
namespace Go.Proofs.Ytkhljamellgcfaa.PSet
open Go.RowKit Go.Proofs.YtkhljamellgcfaaW.PrintWords Go.Proofs.YtkhljamellgcfaaW.PrintLast Go.Proofs.YtkhljamellgcfaaW.PrintMore
attribute [local go_sem] max2_int min2_int max_two min_two max_three min_three max_four min_four   -- for this text's walks alone
set_option linter.unusedVariables false
set_option linter.unusedSimpArgs false

/-! ### stolonref06_Minus: function 31 -/
def stolonref06_Minus.l0 : Nat → List Int → List Int → List Int → Int → Option (List Int)
 | 0, _, _, _, _ => none
 | k + 1, x0, x1, x5, x6 => if x6 < (x0.length : Int) then (if 0 ≤ x6 then ((stolonref06_Has.f k x1 (rd x0 x6)).bind fun t313 => (if t313 = true then (stolonref06_Minus.l0 k x0 x1 x5 (wrap64 (x6 + 1))) else (if x5.length < 35184372088832 then (stolonref06_Minus.l0 k x0 x1 (x5 ++ [rd x0 x6]) (wrap64 (x6 + 1))) else (none)))) else (none)) else (some x5)
def stolonref06_Minus.f (k : Nat) (l0 : List Int) (l1 : List Int) : Option (List Int) := stolonref06_Minus.l0 k l0 l1 ([] : List Int) 0
theorem stolonref06_Minus.mono_l : ∀ k, (∀ y0 y1 y2 y3, LeO (stolonref06_Minus.l0 k y0 y1 y2 y3) (stolonref06_Minus.l0 (k + 1) y0 y1 y2 y3))
 | 0 => fun _ _ _ _ r h => by simp [stolonref06_Minus.l0] at h
 | k + 1 => by
  have ih0 := stolonref06_Minus.mono_l k
  · intro y0 y1 y2 y3
    unfold stolonref06_Minus.l0
    repeat' first
    | (with_reducible exact ih0 _ _ _ _)
    | (with_reducible exact stolonref06_Has.mono _ _ _)
    | (with_reducible exact LeO.refl _)
    | (with_reducible exact LeO.none _)
    | (with_reducible refine LeO.ite ?_ ?_)
    | (with_reducible refine LeO.bind ?_ (fun _ => ?_))
    | exact ih0 _ _ _ _
    | exact stolonref06_Has.mono _ _ _
    | exact LeO.none _
    | refine LeO.ite ?_ ?_
    | refine LeO.bind ?_ (fun _ => ?_)
theorem stolonref06_Minus.mono : ∀ a0 a1 k, LeO (stolonref06_Minus.f k a0 a1) (stolonref06_Minus.f (k + 1) a0 a1) := by
 intro a0 a1 k
 have ih0 := stolonref06_Minus.mono_l k
 unfold stolonref06_Minus.f
 repeat' first
  | (with_reducible exact ih0 _ _ _ _)
  | (with_reducible exact stolonref06_Has.mono _ _ _)
  | (with_reducible exact LeO.refl _)
  | (with_reducible exact LeO.none _)
  | (with_reducible refine LeO.ite ?_ ?_)
  | (with_reducible refine LeO.bind ?_ (fun _ => ?_))
  | exact ih0 _ _ _ _
  | exact stolonref06_Has.mono _ _ _
  | exact LeO.none _
  | refine LeO.ite ?_ ?_
  | refine LeO.bind ?_ (fun _ => ?_)
set_option maxHeartbeats 8000000 in
set_option maxRecDepth 100000 in
theorem stolonref06_Minus.calls (k : Nat) (A0 : Option Addr) (c0 : Nat) (l0 : List Int) (A1 : Option Addr) (c1 : Nat) (l1 : List Int) (r : List Int) (w : World) (hr0 : Kd.C (Kd.int .u32) w A0 l0.length l0) (hc0 : l0.length ≤ c0) (hr1 : Kd.C (Kd.int .u32) w A1 l1.length l1) (hc1 : l1.length ≤ c1) (h : stolonref06_Minus.f k l0 l1 = some r) :
 Calls Try.prog 31 #[.slice A0 l0.length c0, .slice A1 l1.length c1] w fun e w' => ∃ v0_ : Value, e = .returned (v0_) ∧ Kd.R (Kd.int .u32) 24 w' w.heap.size (fun _ => True) v0_ r ∧ Below w.heap.size w w' := by
 have HR0 := Aside0.mk hr0
 have HC0 := Aside0.mk hc0
 clear hr0 hc0
 have HR1 := Aside0.mk hr1
 have HC1 := Aside0.mk hc1
 clear hr1 hc1
 have HB := Aside0.mk (Below.refl w.heap.size w)
 have H : (stolonref06_Minus.l0 k l0 l1 ([] : List Int) 0) = some r := h
 clear h
 have H' := Aside0.mk H
 clear H
 go_enter Try.func31, Try.ntmps31
 go_wp2
 go_loopg [5, 6] k (fun kq v5 v6 w' => ∃ (x5_1 : List Int) (x6_1 : Int), v6 = .int .i64 x6_1 ∧ Aside0 (stolonref06_Minus.l0 kq l0 l1 x5_1 x6_1 = some r) ∧ Aside0 (kq ≤ k) ∧ Aside0 (Kd.R (Kd.int .u32) 24 w' w.heap.size (fun _ => True) v5 x5_1) ∧ Aside0 (Below w.heap.size w w'))
 case atStart => exact ⟨(([] : List Int)), (0), (by first | rfl | (simp; done) | (simp [*]; done)), H', ⟨Nat.le_refl _⟩, ⟨by first | exact Kd.R_nil _ _ _ _ _ | exact Kd.N_nil _ _ _ _ _ | exact Kd.V_nil _ _ _ _ _ | exact Kd.Q_nil _ _ _ _ _ | exact Kd.S_nil _ _ _ _ _⟩, ⟨HB.out⟩⟩
 case round =>
  clear H'
  try clear c1
  try clear p2
  obtain ⟨x5_1, x6_1, rfl, HA, HK1, HO_5, HB⟩ := hrel
  cases gk with
  | zero => exact absurd HA.out (by simp [stolonref06_Minus.l0])
  | succ k1 =>
   have H := HA.out
   clear HA
   simp only [stolonref06_Minus.l0] at H
   by_cases c3 : x6_1 < (l0.length : Int)
   · rw [if_pos c3] at H
     have c3b0 : decide (x6_1 < (l0.length : Int)) = true := decide_eq_true c3
     clear c3
     by_cases c4 : 0 ≤ x6_1
     case neg => rw [if_neg c4] at H; exact absurd H (by simp)
     rw [if_pos c4] at H
     have c4b0 : decide (0 ≤ x6_1) = true := decide_eq_true c4
     clear c4
     replace H := Option.bind_eq_some_iff.mp H
     obtain ⟨t313, A50, H⟩ := H
     replace H : (if t313 = true then (stolonref06_Minus.l0 k1 l0 l1 x5_1 (wrap64 (x6_1 + 1))) else (if x5_1.length < 35184372088832 then (stolonref06_Minus.l0 k1 l0 l1 (x5_1 ++ [rd l0 x6_1]) (wrap64 (x6_1 + 1))) else (none))) = some r := H
     have A5 := Aside0.mk A50
     clear A50
     by_cases c6 : t313 = true
     · subst c6
       have H1 : (stolonref06_Minus.l0 k1 l0 l1 x5_1 (wrap64 (x6_1 + 1))) = some r := by rw [if_pos rfl] at H; exact H
       clear H
       have H := H1
       clear H1
       have H' := Aside0.mk H
       clear H
       have p312 : 0 ≤ (x6_1 : Int) := of_decide_eq_true (by first | (with_reducible assumption) | assumption)
       have q312 : x6_1 < (l0.length : Int) := of_decide_eq_true (by first | (with_reducible assumption) | assumption)
       obtain ⟨ad312, e312, hx312_0⟩ := Kd.at_int HR0.out x6_1 p312 q312
       cases e312
       replace hx312_0 := (HB.out.cell (World.block_lt_of_cell? w _ hx312_0)).trans hx312_0
       replace p312 := eq_true p312
       replace q312 := eq_true q312
       go_wp2_with (first | ((with_reducible refine gate_callee (f := 28) rfl ?_); refine goesL_ (some 19) rfl rfl Try.func28 (by kernel_rfl) rfl #[.slice A1 l1.length c1, .int .u32 (rd l0 x6_1)] rfl (by (try simp only [List.map_toArray, List.map_cons, List.map_nil]); first | done | rfl | (simp only [List.length_drop, List.length_take]; rfl)) ?_; (with_reducible refine (stolonref06_Has.calls k1 _ _ l1 (rd l0 x6_1) true _ ?side1 ?side2 A5.out).mono ?_); (case side1 => repeat (first | exact (Kd.C_below HR1.out HB.out) | (with_reducible refine Kd.C_alloc ?_ _) | (with_reducible refine Kd.C_drewN ?_ _) | (with_reducible refine Kd.C_drew ?_))); (case side2 => exact HC1.out); rintro e w' ⟨rfl, ⟨nd, rfl⟩⟩; refine ⟨_, rfl, ?_⟩))
       go_roundg k1
       case measure => have := HK1.out; omega
       case rel => exact ⟨(x5_1), (wrap64 (x6_1 + 1)), (by first | rfl | (simp; done) | (simp [*]; done)), H', ⟨by have := HK1.out; omega⟩, ⟨by (with_reducible repeat (first | apply Kd.R_alloc | apply Kd.R_drewN | apply Kd.R_drew)); exact HO_5.out⟩, ⟨by repeat (first | (with_reducible first | exact HB.out | apply below_alloc | apply pw_below_drewN | apply below_drew1) | exact HB.out)⟩⟩
     · replace c6 := Bool.eq_false_iff.mpr c6
       subst c6
       have H1 : (if x5_1.length < 35184372088832 then (stolonref06_Minus.l0 k1 l0 l1 (x5_1 ++ [rd l0 x6_1]) (wrap64 (x6_1 + 1))) else (none)) = some r := by rw [if_neg (show ¬ (false = true) by decide)] at H; exact H
       clear H
       have H := H1
       clear H1
       by_cases c7 : x5_1.length < 35184372088832
       case neg => rw [if_neg c7] at H; exact absurd H (by simp)
       rw [if_pos c7] at H
       have LMc7 := Aside0.mk c7
       clear c7
       obtain ⟨y315, hy315⟩ : ∃ y_ : List Int, y_ = (x5_1 ++ [rd l0 x6_1]) := ⟨_, rfl⟩
       replace H : (stolonref06_Minus.l0 k1 l0 l1 y315 (wrap64 (x6_1 + 1))) = some r := by first | (rw [hy315]; with_reducible exact H) | (have H2_ := (Option.bind_some _ _).symm.trans H; rw [hy315]; with_reducible exact H2_) | (have H2_ := (Option.bind_some _ _).symm.trans H; with_reducible exact H2_) | with_reducible exact H | (rw [hy315]; exact H) | exact H
       have Ny315 := Aside0.mk hy315
       clear hy315
       have H' := Aside0.mk H
       clear H
       have p312 : 0 ≤ (x6_1 : Int) := of_decide_eq_true (by first | (with_reducible assumption) | assumption)
       have q312 : x6_1 < (l0.length : Int) := of_decide_eq_true (by first | (with_reducible assumption) | assumption)
       obtain ⟨ad312, e312, hx312_0⟩ := Kd.at_int HR0.out x6_1 p312 q312
       cases e312
       replace hx312_0 := (HB.out.cell (World.block_lt_of_cell? w _ hx312_0)).trans hx312_0
       replace p312 := eq_true p312
       replace q312 := eq_true q312
       go_wp2_with (first | ((with_reducible refine gate_callee (f := 28) rfl ?_); refine goesL_ (some 19) rfl rfl Try.func28 (by kernel_rfl) rfl #[.slice A1 l1.length c1, .int .u32 (rd l0 x6_1)] rfl (by (try simp only [List.map_toArray, List.map_cons, List.map_nil]); first | done | rfl | (simp only [List.length_drop, List.length_take]; rfl)) ?_; (with_reducible refine (stolonref06_Has.calls k1 _ _ l1 (rd l0 x6_1) false _ ?side1 ?side2 A5.out).mono ?_); (case side1 => repeat (first | exact (Kd.C_below HR1.out HB.out) | (with_reducible refine Kd.C_alloc ?_ _) | (with_reducible refine Kd.C_drewN ?_ _) | (with_reducible refine Kd.C_drew ?_))); (case side2 => exact HC1.out); rintro e w' ⟨rfl, ⟨nd, rfl⟩⟩; refine ⟨_, rfl, ?_⟩; have p314 : 0 ≤ (x6_1 : Int) := of_decide_eq_true (by first | (with_reducible assumption) | assumption); have q314 : x6_1 < (l0.length : Int) := of_decide_eq_true (by first | (with_reducible assumption) | assumption); obtain ⟨ad314, e314, hx314_0⟩ := Kd.at_int HR0.out x6_1 p314 q314; obtain rfl : ad312 = ad314 := (by injection e314); replace hx314_0 := (HB.out.cell (World.block_lt_of_cell? w _ hx314_0)).trans hx314_0; replace p314 := eq_true p314; replace q314 := eq_true q314) | ((with_reducible refine gate_builtin (b := .append) (xs := #[.tmp 22, .tmp 27]) rfl ?_); at_builtin; refine Kd.R_append (Kd.int .u32) (w0 := w) w.heap.size rfl (.tmp 22) (.tmp 27) 27 24 (.int .u32 0) 4 rfl Try.underlying27 info24 rfl (by decide) (by omega) u5 x5_1 (rd l0 x6_1) [.int .u32 (rd l0 x6_1)] (fun _ => True) (fun _ => False) rfl rfl ?aP (fun _ hk => hk.elim) ?aF ?aO ?aB ?aS ?aL ?_; (case aP => exact rfl); (case aB => exact (by repeat (first | (with_reducible first | exact HB.out | apply below_alloc | apply pw_below_drewN | apply below_drew1) | exact HB.out))); (case aF => exact (fun _ _ => trivial)); (case aO => exact (by (with_reducible repeat (first | apply Kd.R_alloc | apply Kd.R_drewN | apply Kd.R_drew)); exact HO_5.out)); (case aS => exact (below_size (by repeat (first | (with_reducible first | exact HB.out | apply below_alloc | apply pw_below_drewN | apply below_drew1) | exact HB.out)))); (case aL => have := LMc7.out; omega); intro v316 w8 ho hb hg hat; rw [← Ny315.out] at ho; have n0_ := Aside0.mk (hb); have n1_ := Aside0.mk (ho); clear HB; clear HO_5; have HB := n0_; have HO317 := n1_; clear n0_ n1_; clear ho hb hg hat))
       go_roundg k1
       case measure => have := HK1.out; omega
       case rel => exact ⟨(y315), (wrap64 (x6_1 + 1)), (by first | rfl | (simp; done) | (simp [*]; done)), H', ⟨by have := HK1.out; omega⟩, ⟨by (with_reducible repeat (first | apply Kd.R_alloc | apply Kd.R_drewN | apply Kd.R_drew)); exact HO317.out⟩, ⟨HB.out⟩⟩
   · rw [if_neg c3] at H
     have c3b0 : decide (x6_1 < (l0.length : Int)) = false := decide_eq_false c3
     clear c3
     obtain rfl := Option.some.inj H
     go_wp2
     go_ret
     exact ⟨_, by first | rfl | (simp [errW_none, errW_some] <;> rfl) | (simp [*, errW_none, errW_some] <;> rfl), by (with_reducible repeat (first | apply Kd.R_alloc | apply Kd.R_drewN | apply Kd.R_drew)); exact HO_5.out, by repeat (first | (with_reducible first | exact HB.out | apply below_alloc | apply pw_below_drewN | apply below_drew1) | exact HB.out)⟩

end Go.Proofs.Ytkhljamellgcfaa.PSet
/-
  A row of addresses that is sorted where it lies: the words of the walks.
-/
namespace Go.Proofs.Ytkhljamellgcfaa
open Go.RowKit Go.Sort
set_option linter.unusedVariables false
set_option linter.unusedSimpArgs false
/-- The block g, of m cells, begins with d; all else is as at w0. -/
structure Lies (w0 w : World) (g m : Nat) (d : Array Int) : Prop where
  off : Off (fun k => k = g) w0 w
  fits : d.size ≤ m
  row : ∃ c, w.heap[g]? = some (.cells c 24 (0, 0)) ∧ c.size = m ∧ ∀ i, i < d.size → c[i]? = some (.int .u32 d[i]!)
variable {w0 w w1 : World} {g m : Nat} {d d' : Array Int}
theorem Lies.size (h : Lies w0 w g m d) : w0.heap.size ≤ w.heap.size := h.off.size
theorem Lies.cell (h : Lies w0 w g m d) {i : Nat} (hi : i < d.size) : w.cell? ⟨g, i, none⟩ = some (.int .u32 d[i]!) := by
  obtain ⟨c, hb, _, hc⟩ := h.row
  simp only [World.cell?, hb]
  simpa using hc i hi
theorem Lies.frozen (h : Lies w0 w g m d) (i : Nat) : w.frozen? ⟨g, i, none⟩ = false := by
  obtain ⟨c, hb, _, hc⟩ := h.row
  simp [World.frozen?, hb]
theorem Lies.drewN (h : Lies w0 w g m d) (n : Nat) : Lies w0 (w.drewN n) g m d := ⟨⟨h.off.os, h.off.tape, h.off.output, h.off.size, h.off.block⟩, h.fits, h.row⟩
theorem Lies.drew (h : Lies w0 w g m d) : Lies w0 w.drew g m d := ⟨h.off.drew, h.fits, h.row⟩
theorem Lies.lt (h : Lies w0 w g m d) : g < w.heap.size := by
  obtain ⟨c, hb, _⟩ := h.row
  exact (Array.getElem?_eq_some_iff.1 hb).1
/-- What leaves the row alone. -/
theorem Lies.keep (h : Lies w0 w g m d) (k : Off (fun _ => False) w w1) : Lies w0 w1 g m d :=
  ⟨h.off.trans (k.mono fun _ _ hf => hf.elim), h.fits, by
    obtain ⟨c, hb, hc⟩ := h.row
    exact ⟨c, (k.block g h.lt id).trans hb, hc⟩⟩
theorem Lies.trans (h : Lies w0 w g m d) (k : Lies w w1 g m d') : Lies w0 w1 g m d' := ⟨h.off.trans k.off, k.fits, k.row⟩
theorem Lies.here (h : Lies w0 w g m d) : Lies w w g m d := ⟨Off.refl _ _, h.fits, h.row⟩
theorem Lies.set (h : Lies w0 w g m d) {i : Nat} (hi : i < d.size) (x : Int) : Lies w0 (w.setCell ⟨g, i, none⟩ (.int .u32 x)) g m (d.setIfInBounds i x) := by
  refine ⟨h.off.setCell (fun _ => rfl) _, by rw [Array.size_setIfInBounds]; exact h.fits, ?_⟩
  obtain ⟨c, hb, hs, hc⟩ := h.row
  refine ⟨c.setIfInBounds i (.int .u32 x), ?_, by rw [Array.size_setIfInBounds]; exact hs, fun k hk => ?_⟩
  · show (w.heap.modify g _)[g]? = _
    rw [Array.getElem?_modify, if_pos rfl, hb]
    rfl
  · rw [Array.size_setIfInBounds] at hk
    have hf := h.fits
    by_cases e : k = i
    · subst e
      rw [getElem!_set_same d k x hk]
      rw [Array.getElem?_setIfInBounds, if_pos rfl, if_pos (by omega)]
    · rw [getElem!_set_other d i k x e, ← hc k hk]
      rw [Array.getElem?_setIfInBounds, if_neg (Ne.symm e)]
theorem Lies.swp (h : Lies w0 w g m d) {i j : Nat} (hi : i < d.size) (hj : j < d.size) : Lies w0 ((w.setCell ⟨g, i, none⟩ (.int .u32 d[j]!)).setCell ⟨g, j, none⟩ (.int .u32 d[i]!)) g m (swp d i j) :=
  (h.set hi _).set (by rw [Array.size_setIfInBounds]; exact hj) _
/-- A swap, as a region leaves it. -/
theorem Lies.swpG (h : Lies w0 w g m d) {G : Nat → Int} (hG : ∀ t, G t = d[t]!) {i j : Nat} (hi : i < d.size) (hj : j < d.size) : Lies w0 ((w.setCell ⟨g, i, none⟩ (.int .u32 (G j))).setCell ⟨g, j, none⟩ (.int .u32 (G i))).drew g m (Go.Sort.swp d i j) := by
  rw [hG, hG]; exact (h.swp hi hj).drew
theorem Lies.cells (h : Lies w0 w g m d) {G : Nat → Int} (hG : ∀ t, G t = d[t]!) : ∀ t, t < d.size → w.cell? ⟨g, t, none⟩ = some (.int .u32 (G t)) := fun t ht => by rw [hG]; exact h.cell ht
theorem Lies.free (h : Lies w0 w g m d) : ∀ t, t < d.size → w.frozen? ⟨g, t, none⟩ = false := fun t _ => h.frozen t
abbrev ltA : Int → Int → Bool := ltInt
theorem isNaN_w (x : Int) (w : World) : Calls Try.prog 48 #[.int .u32 x] w fun e w' => e = .returned (.bool false) ∧ w = w' := by
  go_enter Try.func48, Try.ntmps48
  go_wp2
  go_ret
  exact ⟨rfl, rfl⟩
theorem less_w (x y : Int) (w : World) : Calls Try.prog 42 #[.int .u32 x, .int .u32 y] w fun e w' => e = .returned (.bool (ltA x y)) ∧ w' = w := by
  go_enter Try.func42, Try.ntmps42
  go_wp2_with (go_at_call 48; refine (isNaN_w _ _).mono ?_; rintro e w' ⟨rfl, rfl⟩)
  go_ret
  exact ⟨rfl, rfl⟩
end Go.Proofs.Ytkhljamellgcfaa
/-
  A pivot is chosen: which one matters not.
-/
namespace Go.Proofs.Ytkhljamellgcfaa
open Go.RowKit Go.Sort
set_option linter.unusedVariables false
set_option linter.unusedSimpArgs false
/-- A whole number in a block of its own. -/
def Cnt (w : World) (s : Nat) : Prop := ∃ v : Int, w.heap[s]? = some (.cells #[.int .i64 v] 3 (0, 0))
/-- What turns a younger block leaves the row alone. -/
theorem Lies.young {w0 w w1 : World} {g m s : Nat} {d : Array Int} (h : Lies w0 w g m d) (k : Off (fun k => k = s) w w1) (hs : w0.heap.size ≤ s) (hg : s ≠ g) : Lies w0 w1 g m d :=
  ⟨h.off.then_ k (fun i hi e => by omega), h.fits, by
    obtain ⟨c, hb, hc⟩ := h.row
    exact ⟨c, (k.block g h.lt (fun e => hg e.symm)).trans hb, hc⟩⟩
theorem Cnt.cell {w : World} {s : Nat} (h : Cnt w s) : ∃ v : Int, w.cell? ⟨s, 0, none⟩ = some (.int .i64 v) ∧ w.frozen? ⟨s, 0, none⟩ = false := by
  obtain ⟨v, hv⟩ := h
  exact ⟨v, by simp [World.cell?, hv], by simp [World.frozen?, hv]⟩
theorem Cnt.set {w : World} {s : Nat} (h : Cnt w s) (v : Int) : Cnt (w.setCell ⟨s, 0, none⟩ (.int .i64 v)) s := by
  obtain ⟨u, hu⟩ := h
  refine ⟨v, ?_⟩
  show (w.heap.modify s _)[s]? = _
  rw [Array.getElem?_modify, if_pos rfl, hu]
  rfl
theorem Cnt.keep {w w1 : World} {s : Nat} (h : Cnt w s) (k : Off (fun _ => False) w w1) : Cnt w1 s := by
  obtain ⟨v, hv⟩ := h
  exact ⟨v, (k.block s (Array.getElem?_eq_some_iff.1 hv).1 id).trans hv⟩
def Ord2 (a b s : Nat) (w : World) (e : Ending) (w' : World) : Prop :=
  ∃ x y : Nat, (x = a ∧ y = b ∨ x = b ∧ y = a) ∧ e = .returned (.tuple #[.int .i64 x, .int .i64 y]) ∧ Off (fun k => k = s) w w' ∧ Cnt w' s
set_option maxHeartbeats 8000000 in
theorem order2_w {g m n cap a b s : Nat} {d : Array Int} {w0 w : World} (h : Lies w0 w g m d) (hn : d.size = n) (ha : a < n) (hb : b < n) (hsz : n < 1000000000000) (hs : Cnt w s) :
    Calls Try.prog 67 #[.slice (some ⟨g, 0, none⟩) n cap, .int .i64 a, .int .i64 b, .pointer (some ⟨s, 0, none⟩)] w (Ord2 a b s w) := by
  subst hn
  obtain ⟨G, hG⟩ : ∃ G : Nat → Int, ∀ t, G t = d[t]! := ⟨fun t => d[t]!, fun _ => rfl⟩
  have hcw := h.cells hG
  have HL := Lib.hid h
  have HC := Lib.hid hs
  obtain ⟨v, hv, hf⟩ := hs.cell
  clear h hG hs
  go_enter Try.func67, Try.ntmps67
  go_wp2
  go_quiet ((go_at_call 42; exact Calls.quiet_of_same (less_w _ _ _)))
  go_wp2
  · go_ret2
    exact ⟨b, a, .inr ⟨rfl, rfl⟩, rfl, ((Off.refl _ w).mono (fun _ _ h => h) |>.drew |> fun h => (⟨h.os, h.tape, h.output, h.size, h.block⟩ : Off (fun k => k = s) w (w.drewN nq))).setCell (fun _ => rfl) _, (HC.out.keep ⟨rfl, rfl, rfl, Nat.le_refl _, fun _ _ _ => rfl⟩).set _⟩
  · go_ret2
    exact ⟨a, b, .inl ⟨rfl, rfl⟩, rfl, ⟨rfl, rfl, rfl, Nat.le_refl _, fun _ _ _ => rfl⟩, HC.out.keep ⟨rfl, rfl, rfl, Nat.le_refl _, fun _ _ _ => rfl⟩⟩
def Med (a b c s : Nat) (w : World) (e : Ending) (w' : World) : Prop :=
  ∃ x : Nat, (x = a ∨ x = b ∨ x = c) ∧ e = .returned (.int .i64 x) ∧ Off (fun k => k = s) w w' ∧ Cnt w' s
theorem Lies.other {w0 w w1 : World} {g m s : Nat} {d : Array Int} (h : Lies w0 w g m d) (k : Off (fun k => k = s) w w1) (hg : s ≠ g) : Lies w1 w1 g m d :=
  ⟨Off.refl _ _, h.fits, by
    obtain ⟨c, hb, hc⟩ := h.row
    exact ⟨c, (k.block g h.lt (fun e => hg e.symm)).trans hb, hc⟩⟩
set_option maxHeartbeats 8000000 in
theorem median_w {g m n cap a b c s : Nat} {d : Array Int} {w0 w : World} (h : Lies w0 w g m d) (hn : d.size = n) (ha : a < n) (hb : b < n) (hc : c < n) (hsz : n < 1000000000000) (hs : Cnt w s) (hg : s ≠ g) :
    Calls Try.prog 66 #[.slice (some ⟨g, 0, none⟩) n cap, .int .i64 a, .int .i64 b, .int .i64 c, .pointer (some ⟨s, 0, none⟩)] w (Med a b c s w) := by
  have HL := Lib.hid h
  have HN := Lib.hid hn
  have HC := Lib.hid hs
  have HG := Lib.hid hg
  clear h hs hn hg
  go_enter Try.func66, Try.ntmps66
  go_upto_region 2 with (go_at_call 67; refine (order2_w HL.out HN.out ha hb hsz HC.out).mono ?_; rintro e w1 ⟨x1, y1, h1, rfl, hO1, hC1⟩; have H1 := Lib.hid h1; have HO1 := Lib.hid hO1; have HC1 := Lib.hid hC1; clear h1 hO1 hC1)
  have hx1 : x1 < n := by rcases H1.out with ⟨rfl, rfl⟩ | ⟨rfl, rfl⟩ <;> assumption
  have hy1 : y1 < n := by rcases H1.out with ⟨rfl, rfl⟩ | ⟨rfl, rfl⟩ <;> assumption
  have HL1 := Lib.hid (HL.out.other HO1.out HG.out)
  go_upto_region 3 with (go_at_call 67; refine (order2_w HL1.out HN.out hy1 hc hsz HC1.out).mono ?_; rintro e w2 ⟨x2, y2, h2, rfl, hO2, hC2⟩; have H2 := Lib.hid h2; have HO2 := Lib.hid hO2; have HC2 := Lib.hid hC2; clear h2 hO2 hC2)
  have hx2 : x2 < n := by rcases H2.out with ⟨rfl, rfl⟩ | ⟨rfl, rfl⟩ <;> assumption
  have HL2 := Lib.hid (HL1.out.other HO2.out HG.out)
  go_wp2_with (go_at_call 67; refine (order2_w HL2.out HN.out hx1 hx2 hsz HC2.out).mono ?_; rintro e w3 ⟨x3, y3, h3, rfl, hO3, hC3⟩; have H3 := Lib.hid h3; have HO3 := Lib.hid hO3; have HC3 := Lib.hid hC3; clear h3 hO3 hC3)
  go_ret
  refine ⟨y3, ?_, rfl, (HO1.out.trans HO2.out).trans HO3.out, HC3.out⟩
  rcases H1.out with ⟨rfl, rfl⟩ | ⟨rfl, rfl⟩ <;> rcases H2.out with ⟨rfl, rfl⟩ | ⟨rfl, rfl⟩ <;> rcases H3.out with ⟨rfl, rfl⟩ | ⟨rfl, rfl⟩ <;> simp
theorem adjacent_w {g m n cap a s : Nat} {d : Array Int} {w0 w : World} (h : Lies w0 w g m d) (hn : d.size = n) (h1 : 1 ≤ a) (ha : a + 1 < n) (hsz : n < 1000000000000) (hs : Cnt w s) (hg : s ≠ g) :
    Calls Try.prog 65 #[.slice (some ⟨g, 0, none⟩) n cap, .int .i64 a, .pointer (some ⟨s, 0, none⟩)] w (Med (a - 1) a (a + 1) s w) := by
  have HL := Lib.hid h
  have HN := Lib.hid hn
  have HC := Lib.hid hs
  have HG := Lib.hid hg
  clear h hs hn hg
  have e1 : ((a : Int) - 1) = ((a - 1 : Nat) : Int) := by omega
  have E1 := Lib.hid e1
  clear e1
  go_enter Try.func65, Try.ntmps65
  go_wp2_with (go_at_call 66; rw [E1.out, show ((a : Int) + 1) = ((a + 1 : Nat) : Int) from rfl]; refine (median_w (b := a) HL.out HN.out (by omega) (by omega) (by omega) hsz HC.out HG.out).mono ?_; rintro e w1 ⟨x1, h1, rfl, hO1, hC1⟩; have H1 := Lib.hid h1; have HO1 := Lib.hid hO1; have HC1 := Lib.hid hC1; clear h1 hO1 hC1)
  go_ret
  exact ⟨x1, H1.out, rfl, HO1.out, HC1.out⟩
end Go.Proofs.Ytkhljamellgcfaa
/-
  A pivot of a row.
-/
namespace Go.Proofs.Ytkhljamellgcfaa
open Go.RowKit Go.Sort
set_option linter.unusedVariables false
set_option linter.unusedSimpArgs false
theorem Off.young {w w1 w2 : World} {s : Nat} (h : Off (fun _ => False) w w1) (k : Off (fun k => k = s) w1 w2) (hs : w.heap.size ≤ s) : Off (fun _ => False) w w2 := h.then_ k (fun i hi e => by omega)
theorem off_alloc (w : World) (o : Obj) : Off (fun _ => False) w (w.alloc o) := (Off.refl _ w).alloc o
def Piv (a b : Nat) (w : World) (e : Ending) (w' : World) : Prop :=
  ∃ (p : Nat) (h : Int), a ≤ p ∧ p < b ∧ e = .returned (.tuple #[.int .i64 p, .int .i64 h]) ∧ Off (fun _ => False) w w'
theorem piv_of {a b p : Nat} {h : Int} {w w' : World} (h1 : a ≤ p) (h2 : p < b) (h3 : Off (fun _ => False) w w') : Piv a b w (.returned (.tuple #[.int .i64 p, .int .i64 h])) w' := ⟨p, h, h1, h2, rfl, h3⟩
set_option maxHeartbeats 8000000 in
theorem choose_w {g m n cap a b : Nat} {d : Array Int} {w0 w : World} (h : Lies w0 w g m d) (hn : d.size = n) (hab : a < b) (hb : b ≤ n) (hsz : n < 1000000000000) :
    Calls Try.prog 55 #[.slice (some ⟨g, 0, none⟩) n cap, .int .i64 a, .int .i64 b] w (Piv a b w) := by
  have HL := Lib.hid h
  have HN := Lib.hid hn
  have HG := Lib.hid (show w.heap.size ≠ g from Nat.ne_of_gt h.lt)
  clear h hn
  obtain ⟨z, hz⟩ : ∃ z : Nat, z = b - a := ⟨_, rfl⟩
  have hz1 : 1 ≤ z := by omega
  have hz2 : a + z = b := by omega
  clear hz
  go_enter Try.func55, Try.ntmps55
  go_upto_region 3 with fail
  rw [show ((b : Int) - (a : Int)) = (z : Int) from by omega]
  obtain ⟨s, hs⟩ : ∃ s, s = w.heap.size := ⟨_, rfl⟩
  rw [← hs]
  generalize hW_ : w.alloc (.cells #[.int .i64 0] 3 (0, 0)) = W1
  have HO := Lib.hid (show Off (fun _ => False) w W1 by rw [← hW_]; exact off_alloc _ _)
  have hb1 : W1.heap[s]? = some (.cells #[.int .i64 0] 3 (0, 0)) := by rw [← hW_, hs]; exact World.alloc_heap_new _ _
  have HS := Lib.hid hs
  clear hW_ hs
  have HC := Lib.hid (show Cnt W1 s from ⟨0, hb1⟩)
  have hc0 : W1.cell? ⟨s, 0, none⟩ = some (.int .i64 0) := by simp [World.cell?, hb1]
  clear hb1
  have HL1 := Lib.hid (show Lies w0 W1 g m d from HL.out.keep HO.out)
  have HG1 := Lib.hid (show s ≠ g by rw [HS.out]; exact HG.out)
  obtain ⟨q, hq⟩ : ∃ q : Nat, q = z / 4 := ⟨_, rfl⟩
  have hq4 : q * 4 ≤ z := by omega
  obtain ⟨i, hi⟩ : ∃ i : Nat, i = a + q := ⟨_, rfl⟩
  obtain ⟨j, hj⟩ : ∃ j : Nat, j = a + q * 2 := ⟨_, rfl⟩
  obtain ⟨k, hk⟩ : ∃ k : Nat, k = a + q * 3 := ⟨_, rfl⟩
  have HI := Lib.hid hi
  have HJ := Lib.hid hj
  have HK := Lib.hid hk
  have HQ := Lib.hid hq
  have HZ2 := Lib.hid hz2
  by_cases h8 : 8 ≤ z
  · have hq2 : 2 ≤ q := by omega
    have hd8 : decide ((8 : Int) ≤ (z : Int)) = true := decide_eq_true (by omega)
    by_cases h50 : 50 ≤ z
    · have hd50 : decide ((50 : Int) ≤ (z : Int)) = true := decide_eq_true (by omega)
      go_upto_region 8 with fail
      rw [show ((z : Int) / 4) = (q : Int) from by omega, show ((a : Int) + (q : Int)) = (i : Int) from by omega, show ((a : Int) + (q : Int) * 2) = (j : Int) from by omega, show ((a : Int) + (q : Int) * 3) = (k : Int) from by omega]
      have i1 : 1 ≤ i := by omega
      have i2 : i + 1 < n := by omega
      have i3 : a ≤ i - 1 := by omega
      have i4 : i + 1 < b := by omega
      have j1 : 1 ≤ j := by omega
      have j2 : j + 1 < n := by omega
      have j3 : a ≤ j - 1 := by omega
      have j4 : j + 1 < b := by omega
      have k1 : 1 ≤ k := by omega
      have k2 : k + 1 < n := by omega
      have k3 : a ≤ k - 1 := by omega
      have k4 : k + 1 < b := by omega
      clear hc0 hi hj hk hq hz2
      go_upto_region 9 with (go_at_call 65; refine (adjacent_w HL1.out HN.out (by omega) (by omega) hsz HC.out HG1.out).mono ?_; rintro e w1 ⟨x1, h1, rfl, hO1, hC1⟩; have H1 := Lib.hid h1; have HO1 := Lib.hid hO1; have HC1 := Lib.hid hC1; clear h1 hO1 hC1)
      have HL2 := Lib.hid (HL1.out.other HO1.out HG1.out)
      go_upto_region 10 with (go_at_call 65; refine (adjacent_w HL2.out HN.out (by omega) (by omega) hsz HC1.out HG1.out).mono ?_; rintro e w2 ⟨x2, h2, rfl, hO2, hC2⟩; have H2 := Lib.hid h2; have HO2 := Lib.hid hO2; have HC2 := Lib.hid hC2; clear h2 hO2 hC2)
      have HL3 := Lib.hid (HL2.out.other HO2.out HG1.out)
      go_upto_region 11 with (go_at_call 65; refine (adjacent_w HL3.out HN.out (by omega) (by omega) hsz HC2.out HG1.out).mono ?_; rintro e w3 ⟨x3, h3, rfl, hO3, hC3⟩; have H3 := Lib.hid h3; have HO3 := Lib.hid hO3; have HC3 := Lib.hid hC3; clear h3 hO3 hC3)
      have HL4 := Lib.hid (HL3.out.other HO3.out HG1.out)
      have b1 : a ≤ x1 ∧ x1 < b := by have := H1.out; omega
      have b2 : a ≤ x2 ∧ x2 < b := by have := H2.out; omega
      have b3 : a ≤ x3 ∧ x3 < b := by have := H3.out; omega
      go_upto_region 12 with (go_at_call 66; refine (median_w HL4.out HN.out (by omega) (by omega) (by omega) hsz HC3.out HG1.out).mono ?_; rintro e w4 ⟨x4, h4, rfl, hO4, hC4⟩; have H4 := Lib.hid h4; have HO4 := Lib.hid hO4; have HC4 := Lib.hid hC4; clear h4 hO4 hC4)
      have b4 : a ≤ x4 ∧ x4 < b := by have := H4.out; omega
      have HF := Lib.hid (HO.out.young (((HO1.out.trans HO2.out).trans HO3.out).trans HO4.out) (Nat.le_of_eq HS.out.symm))
      obtain ⟨v, hv, hf⟩ := HC4.out.cell
      go_wp2
      all_goals go_ret2
      all_goals exact piv_of b4.1 b4.2 HF.out
    · have hd50 : decide ((50 : Int) ≤ (z : Int)) = false := decide_eq_false (by omega)
      go_upto_region 11 with fail
      rw [show ((z : Int) / 4) = (q : Int) from by omega, show ((a : Int) + (q : Int)) = (i : Int) from by omega, show ((a : Int) + (q : Int) * 2) = (j : Int) from by omega, show ((a : Int) + (q : Int) * 3) = (k : Int) from by omega]
      have i1 : 1 ≤ i := by omega
      have i2 : i + 1 < n := by omega
      have i3 : a ≤ i - 1 := by omega
      have i4 : i + 1 < b := by omega
      have j1 : 1 ≤ j := by omega
      have j2 : j + 1 < n := by omega
      have j3 : a ≤ j - 1 := by omega
      have j4 : j + 1 < b := by omega
      have k1 : 1 ≤ k := by omega
      have k2 : k + 1 < n := by omega
      have k3 : a ≤ k - 1 := by omega
      have k4 : k + 1 < b := by omega
      clear hc0 hi hj hk hq hz2
      go_upto_region 12 with (go_at_call 66; refine (median_w HL1.out HN.out (by omega) (by omega) (by omega) hsz HC.out HG1.out).mono ?_; rintro e w4 ⟨x4, h4, rfl, hO4, hC4⟩; have H4 := Lib.hid h4; have HO4 := Lib.hid hO4; have HC4 := Lib.hid hC4; clear h4 hO4 hC4)
      have b4 : a ≤ x4 ∧ x4 < b := by have := H4.out; omega
      have HF := Lib.hid (HO.out.young HO4.out (Nat.le_of_eq HS.out.symm))
      obtain ⟨v, hv, hf⟩ := HC4.out.cell
      go_wp2
      all_goals go_ret2
      all_goals exact piv_of b4.1 b4.2 HF.out
  · have hd8 : decide ((8 : Int) ≤ (z : Int)) = false := decide_eq_false (by omega)
    go_upto_region 12 with fail
    rw [show ((z : Int) / 4) = (q : Int) from by omega, show ((a : Int) + (q : Int) * 2) = (j : Int) from by omega]
    have j3 : a ≤ j := by omega
    have j4 : j < b := by omega
    clear hi hj hk hq hz2
    go_wp2
    go_ret2
    exact piv_of j3 j4 HO.out
end Go.Proofs.Ytkhljamellgcfaa
/-
  Insertion sort, and a row turned round, where they lie.
-/
namespace Go.Proofs.Ytkhljamellgcfaa
open Go.RowKit Go.Sort
set_option linter.unusedVariables false
set_option linter.unusedSimpArgs false
theorem inner_go (a j : Nat) (d : Array Int) (hj : a < j) (hl : ltA d[j]! d[j - 1]! = true) : insInner ltA a j d = insInner ltA a (j - 1) (swp d j (j - 1)) := by
  obtain ⟨k, rfl⟩ : ∃ k, j = k + 1 := ⟨j - 1, by omega⟩
  rw [insInner, Nat.add_sub_cancel] at *
  simp [hj, hl]
theorem inner_end (a j : Nat) (d : Array Int) (h : j ≤ a ∨ ltA d[j]! d[j - 1]! = false) : insInner ltA a j d = d := by
  cases j with
  | zero => rfl
  | succ k =>
    rw [insInner]
    rw [Nat.add_sub_cancel] at h
    rcases h with h | h
    · simp [show ¬ k + 1 > a by omega]
    · simp [h]
theorem outer_go (a b i : Nat) (d : Array Int) (h : i < b) : insOuter ltA a b i d = insOuter ltA a b (i + 1) (insInner ltA a i d) := by rw [insOuter, if_pos h]
theorem outer_end (a b i : Nat) (d : Array Int) (h : ¬ i < b) : insOuter ltA a b i d = d := by rw [insOuter, if_neg h]
set_option maxHeartbeats 8000000 in
theorem insertion_w {g m cap a b : Nat} {d : Array Int} {w : World} (h : Lies w w g m d) (hab : a ≤ b) (hb : b ≤ d.size) (hsz : d.size < 1000000000000) :
    Calls Try.prog 52 #[.slice (some ⟨g, 0, none⟩) d.size cap, .int .i64 a, .int .i64 b] w fun e w' => e = .returned (.tuple #[]) ∧ Lies w w' g m (insertionSort ltA d a b) := by
  have HL := Lib.hid h
  clear h
  go_enter Try.func52, Try.ntmps52
  go_wp2
  go_loopw [6] (fun vi wr => ∃ (i : Nat) (dk : Array Int), vi = .int .i64 i ∧ a < i ∧ i ≤ b + 1 ∧ dk.size = d.size ∧ Hid (Lies w wr g m dk) ∧ Hid (insOuter ltA a b i dk = insOuter ltA a b (a + 1) d)) (fun vi _ => b + 1 - (intOf vi).toNat)
  case atStart => exact ⟨a + 1, d, by go_num, by omega, by omega, rfl, HL, rfl⟩
  case round =>
    obtain ⟨i, dk, rfl, hai, hib, hsk, HK, HO⟩ := hrel
    clear HL
    go_wp2
    · have hlt : i < b := by assumption
      go_loopw [7] (fun vj wr2 => ∃ (j : Nat) (dj : Array Int), vj = .int .i64 j ∧ a ≤ j ∧ j ≤ i ∧ dj.size = d.size ∧ Hid (Lies w wr2 g m dj) ∧ Hid (insInner ltA a j dj = insInner ltA a i dk)) (fun vj _ => (intOf vj).toNat)
      case atStart => exact ⟨i, dk, rfl, by omega, Nat.le_refl _, hsk, HK, rfl⟩
      case round =>
        obtain ⟨j, dj, rfl, haj, hji, hsj, HJ, HI⟩ := hrel
        obtain ⟨G, hG⟩ : ∃ G : Nat → Int, ∀ t, G t = dj[t]! := ⟨fun t => dj[t]!, fun _ => rfl⟩
        have hcw := HJ.out.cells hG
        have hfw := HJ.out.free
        rw [hsj] at hcw hfw
        have HG := Lib.hid hG
        have HS := Lib.hid hsj
        clear hG hsj
        have OUT : Hid ((j ≤ a ∨ ltA dj[j]! dj[j - 1]! = false) → insOuter ltA a b (i + 1) dj = insOuter ltA a b (a + 1) d) := fun hs => by
          rw [← HO.out, outer_go _ _ _ _ hlt, ← HI.out, inner_end _ _ _ hs]
        go_wp2
        by_cases hja : a < j
        · have q1 : j < d.size := by omega
          have q2 : (j : Int) < (d.size : Int) := by omega
          have q3 : (0 : Int) ≤ (j : Int) - 1 := by omega
          have q4 : (j : Int) - 1 < (d.size : Int) := by omega
          have q5 : ((j : Int) - 1).toNat = j - 1 := by omega
          have q6 : IntKind.i64.wrap ((j : Int) - 1) = (j : Int) - 1 := IntWalk.i64_in _ (by omega)
          have q7 : j - 1 < d.size := by omega
          go_quiet ((go_at_call 42; exact Calls.quiet_of_same (less_w _ _ _)))
          go_wp2
          · have hl : ltA (G j) (G (j - 1)) = true := by assumption
            go_region
            all_goals go_wp2
            go_roundw
            case rel => exact ⟨j - 1, swp dj j (j - 1), by congr 1; omega, by omega, by omega, by rw [size_swp]; exact HS.out, (HJ.out.drewN nq).swpG HG.out (by have := HS.out; omega) (by have := HS.out; omega), by rw [← HI.out, inner_go a j dj hja (by rw [← HG.out, ← HG.out]; exact hl)]; rfl⟩
            case measure => simp [intOf]; omega
          · have hl : ltA (G j) (G (j - 1)) = false := by assumption
            go_roundw
            case rel => exact ⟨i + 1, dj, by go_num, by omega, by omega, HS.out, HJ.out.drewN nq, OUT.out (.inr (by rw [← HG.out, ← HG.out]; exact hl))⟩
            case measure => simp [intOf]; omega
        · have hd : decide (a < j) = false := decide_eq_false hja
          go_quiet ((go_at_call 42; exact Calls.quiet_of_same (less_w _ _ _)))
          go_wp2
          go_roundw
          case rel => exact ⟨i + 1, dj, by go_num, by omega, by omega, HS.out, HJ.out.drewN nq, OUT.out (.inl (by omega))⟩
          case measure => simp [intOf]; omega
    · have hge : ¬ i < b := by assumption
      go_end0
      exact ⟨rfl, by unfold insertionSort; rw [← HO.out, outer_end _ _ _ _ hge]; exact HK.out⟩
set_option maxHeartbeats 8000000 in
theorem reverse_w {g m cap a b : Nat} {d : Array Int} {w : World} (h : Lies w w g m d) (hab : a < b) (hb : b ≤ d.size) (hsz : d.size < 1000000000000) :
    Calls Try.prog 56 #[.slice (some ⟨g, 0, none⟩) d.size cap, .int .i64 a, .int .i64 b] w fun e w' => e = .returned (.tuple #[]) ∧ Lies w w' g m (reverseRange d a b) := by
  have HL := Lib.hid h
  clear h
  go_enter Try.func56, Try.ntmps56
  go_wp2
  go_loopw [6, 7] (fun vi vj wr => ∃ (i j : Nat) (dk : Array Int), vi = .int .i64 i ∧ vj = .int .i64 j ∧ a ≤ i ∧ j < b ∧ i ≤ j + 1 ∧ dk.size = d.size ∧ Hid (Lies w wr g m dk) ∧ Hid (reverseLoop i j dk = reverseLoop a (b - 1) d)) (fun vi vj _ => (intOf vj).toNat + 1 - (intOf vi).toNat)
  case atStart => exact ⟨a, b - 1, d, rfl, by congr 1; omega, by omega, by omega, by omega, rfl, HL, rfl⟩
  case round =>
    obtain ⟨i, j, dk, rfl, rfl, hai, hjb, hij, hsk, HK, HO⟩ := hrel
    clear HL
    obtain ⟨G, hG⟩ : ∃ G : Nat → Int, ∀ t, G t = dk[t]! := ⟨fun t => dk[t]!, fun _ => rfl⟩
    have hcw := HK.out.cells hG
    have hfw := HK.out.free
    rw [hsk] at hcw hfw
    have HG := Lib.hid hG
    have HS := Lib.hid hsk
    clear hG hsk
    by_cases hlt : i < j
    · have q1 : i < d.size := by omega
      have q2 : j < d.size := by omega
      go_wp2
      go_region
      all_goals go_wp2
      go_roundw
      case rel => exact ⟨i + 1, j - 1, swp dk i j, by go_num, by congr 1; omega, by omega, by omega, by omega, by rw [size_swp]; exact HS.out, HK.out.swpG HG.out (by have := HS.out; omega) (by have := HS.out; omega), by rw [← HO.out, reverseLoop.eq_1 i j dk, if_pos hlt]; rfl⟩
      case measure => simp [intOf]; omega
    · go_wp2
      go_end0
      exact ⟨rfl, by unfold reverseRange; rw [← HO.out, reverseLoop, if_neg hlt]; exact HK.out⟩
end Go.Proofs.Ytkhljamellgcfaa
/-
  How many bits a number has; what comes by chance.
-/
namespace Go.Proofs.Ytkhljamellgcfaa
open Go.RowKit Go.Sort
set_option linter.unusedVariables false
set_option linter.unusedSimpArgs false
theorem ww8 (u : UInt8) : wrap64 (wrap64 (u.toNat : Int)) = (u.toNat : Int) := by
  have := u.toNat_lt
  unfold wrap64; omega
theorem ww8' (u : UInt8) : wrap64 (8 + wrap64 (u.toNat : Int)) = ((u.toNat + 8 : Nat) : Int) := by
  have := u.toNat_lt
  unfold wrap64; omega
def LenOk (x : Nat) (w : World) (e : Ending) (w' : World) : Prop := ∃ L : Nat, e = .returned (.int .i64 L) ∧ (L ≤ 16 ∧ x < 2 ^ L ∧ (0 < x → 2 ^ L ≤ 2 * x)) ∧ w = w'
theorem ret_int' {k : IntKind} {a b : Int} (h : a = b) : Ending.returned (.int k a) = .returned (.int k b) := by rw [h]
set_option maxRecDepth 100000 in
theorem len64_lo (y : Fin 256) (x : Nat) (hx : x = y.val) (w : World) : Calls Try.prog 61 #[.int .u64 x] w (LenOk x w) := by
  have h0 : (0 : Int) ≤ (x : Int) := by omega
  have h1 : (x : Int) < 256 := by omega
  have d1 : decide ((4294967296 : Int) ≤ (x : Int)) = false := decide_eq_false (by omega)
  have d2 : decide ((65536 : Int) ≤ (x : Int)) = false := decide_eq_false (by omega)
  have d3 : decide ((256 : Int) ≤ (x : Int)) = false := decide_eq_false (by omega)
  have HX := Lib.hid hx
  clear hx
  go_enter Try.func61, Try.ntmps61
  go_wp2
  go_ret
  refine ⟨_, ret_int' (ww8 _), ?_, rfl⟩
  obtain rfl := HX.out
  clear HX d1 d2 d3
  revert y
  decide +kernel
set_option maxRecDepth 100000 in
theorem len64_hi (y : Fin 256) (x : Nat) (hx : y.val = x / 256) (h256 : 256 ≤ x) (h : x < 65536) (w : World) : Calls Try.prog 61 #[.int .u64 x] w (LenOk x w) := by
  have h0 : (0 : Int) ≤ (x : Int) := by omega
  have h1 : (x : Int) < 65536 := by omega
  have d1 : decide ((4294967296 : Int) ≤ (x : Int)) = false := decide_eq_false (by omega)
  have d2 : decide ((65536 : Int) ≤ (x : Int)) = false := decide_eq_false (by omega)
  have d3 : decide ((256 : Int) ≤ (x : Int)) = true := decide_eq_true (by omega)
  have HX := Lib.hid hx
  obtain ⟨z, hz⟩ : ∃ z : Nat, z = x / 256 := ⟨_, rfl⟩
  have HZ := Lib.hid hz
  have z0 : (0 : Int) ≤ (z : Int) := by omega
  have z1 : (z : Int) < 256 := by omega
  have zx : (x : Int) / 256 = (z : Int) := by omega
  clear hx hz
  go_enter Try.func61, Try.ntmps61
  go_wp2
  go_ret
  refine ⟨_, ret_int' (ww8' _), ?_, rfl⟩
  have hy : z = y.val := by have := HX.out; have := HZ.out; omega
  subst hy
  have key : ∀ L : Nat, (L ≤ 8 ∧ y.val < 2 ^ L ∧ (0 < y.val → 2 ^ L ≤ 2 * y.val)) → L + 8 ≤ 16 ∧ x < 2 ^ (L + 8) ∧ (0 < x → 2 ^ (L + 8) ≤ 2 * x) := by
    intro L ⟨h1, h2, h3⟩
    have e : 2 ^ (L + 8) = 2 ^ L * 256 := by rw [Nat.pow_add]
    have := HZ.out
    have h4 := h3 (by omega)
    rw [e]
    generalize 2 ^ L = P at *
    omega
  refine key _ ?_
  clear key HX HZ d1 d2 d3 h0 h1 zx h256 h
  revert y
  decide +kernel
theorem len64_w (x : Nat) (h : x < 65536) (w : World) : Calls Try.prog 61 #[.int .u64 x] w (LenOk x w) := by
  by_cases hx : x < 256
  · exact len64_lo ⟨x, hx⟩ x rfl w
  · exact len64_hi ⟨x / 256, by omega⟩ x rfl (by omega) h w
theorem len_w (x : Nat) (h : x < 65536) (w : World) : Calls Try.prog 51 #[.int .u64 x] w (LenOk x w) := by
  have hw : IntKind.u64.wrap (x : Int) = (x : Int) := by rw [IntKind.wrap_u64]; omega
  have H := Lib.hid h
  clear h
  go_enter Try.func51, Try.ntmps51
  go_wp2_with (go_at_call 61; refine (len64_w x H.out w).mono ?_; rintro e w' ⟨L, rfl, hL, rfl⟩; have HL := Lib.hid hL; clear hL)
  go_ret
  exact ⟨L, rfl, HL.out, rfl⟩
def PowOk (x : Nat) (w : World) (e : Ending) (w' : World) : Prop := ∃ L : Nat, e = .returned (.int .u64 ((2 ^ L : Nat) : Int)) ∧ (L ≤ 16 ∧ x < 2 ^ L ∧ (0 < x → 2 ^ L ≤ 2 * x)) ∧ w = w'
theorem shl1 : ∀ L : Fin 17, IntKind.u64.wrap (2 ^ min L.val 64 : Int) = ((2 ^ L.val : Nat) : Int) := by decide +kernel
set_option maxRecDepth 100000 in
theorem pow_w (x : Nat) (h : x < 65536) (w : World) : Calls Try.prog 63 #[.int .i64 x] w (PowOk x w) := by
  have h0 : (0 : Int) ≤ (x : Int) := by omega
  have h1 : (x : Int) < 65536 := by omega
  have hw : IntKind.u64.wrap (x : Int) = (x : Int) := by rw [IntKind.wrap_u64]; omega
  go_enter Try.func63, Try.ntmps63
  go_wp2_with (go_at_call 51; refine (len_w x h w).mono ?_; rintro e w' ⟨L, rfl, hL, rfl⟩; have HL := Lib.hid hL; clear hL)
  go_ret
  exact ⟨L, ret_int' (shl1 ⟨L, by have := HL.out.1; omega⟩), HL.out, rfl⟩
end Go.Proofs.Ytkhljamellgcfaa
/-
  A number by chance.
-/
namespace Go.Proofs.Ytkhljamellgcfaa
open Go.RowKit Go.Sort
set_option linter.unusedVariables false
set_option linter.unusedSimpArgs false
/-- A number of 64 bits in a block of its own. -/
def Rn (w : World) (s : Nat) : Prop := ∃ v : Int, w.heap[s]? = some (.cells #[.int .u64 v] 73 (0, 0))
theorem Rn.cell {w : World} {s : Nat} (h : Rn w s) : ∃ v : Int, w.cell? ⟨s, 0, none⟩ = some (.int .u64 v) ∧ w.frozen? ⟨s, 0, none⟩ = false := by
  obtain ⟨v, hv⟩ := h
  exact ⟨v, by simp [World.cell?, hv], by simp [World.frozen?, hv]⟩
theorem Rn.set {w : World} {s : Nat} (h : Rn w s) (v : Int) : Rn (w.setCell ⟨s, 0, none⟩ (.int .u64 v)) s := by
  obtain ⟨u, hu⟩ := h
  refine ⟨v, ?_⟩
  show (w.heap.modify s _)[s]? = _
  rw [Array.getElem?_modify, if_pos rfl, hu]
  rfl
theorem Rn.keep {w w1 : World} {s : Nat} (h : Rn w s) (k : Off (fun _ => False) w w1) : Rn w1 s := by
  obtain ⟨v, hv⟩ := h
  exact ⟨v, (k.block s (Array.getElem?_eq_some_iff.1 hv).1 id).trans hv⟩
theorem Rn.next {w : World} {s : Nat} (h : Rn w s) (v : Int) : Rn (w.setCell ⟨s, 0, none⟩ (.int .u64 v)).drew s := (h.set v).keep ((Off.refl _ _).drew)
theorem setcell_off (w : World) (s : Nat) (v : Value) : Off (fun k => k = s) w (w.setCell ⟨s, 0, none⟩ v).drew :=
  ((Off.refl (fun k => k = s) w).setCell (fun _ => rfl) v).drew
theorem Rn.other2 {w : World} {s g : Nat} (h : Rn w s) (hg : s ≠ g) (p q : Nat) (x y : Value) : Rn ((w.setCell ⟨g, p, none⟩ x).setCell ⟨g, q, none⟩ y).drew s := by
  obtain ⟨v, hv⟩ := h
  have k : Off (fun k => k = g) w ((w.setCell ⟨g, p, none⟩ x).setCell ⟨g, q, none⟩ y).drew := (((Off.refl (fun k => k = g) w).setCell (fun _ => rfl) x).setCell (fun _ => rfl) y).drew
  exact ⟨v, (k.block s (Array.getElem?_eq_some_iff.1 hv).1 hg).trans hv⟩
set_option maxHeartbeats 8000000 in
theorem next_w {s : Nat} {w : World} (hs : Rn w s) :
    Calls Try.prog 64 #[.pointer (some ⟨s, 0, none⟩)] w fun e w' => ∃ v : Int, e = .returned (.int .u64 v) ∧ Off (fun k => k = s) w w' ∧ Rn w' s := by
  have HC := Lib.hid hs
  obtain ⟨v, hv, hf⟩ := hs.cell
  clear hs
  go_enter Try.func64, Try.ntmps64
  go_upto_region 1 with fail
  go_region
  all_goals generalize bits BinOp.xor IntKind.u64 v _ = x
  all_goals generalize hW_ : (w.setCell ⟨s, 0, none⟩ (.int .u64 x)).drew = W1
  all_goals have HO1 := Lib.hid (show Off (fun k => k = s) w W1 by rw [← hW_]; exact setcell_off _ _ _)
  all_goals have HR1 : Hid (Rn W1 s) := by rw [← hW_]; exact HC.out.next x
  all_goals clear hW_ hv hf HC
  all_goals obtain ⟨v1, hv, hf⟩ := HR1.out.cell
  all_goals go_upto_region 2 with fail
  all_goals go_region
  all_goals generalize bits BinOp.xor IntKind.u64 v1 _ = x
  all_goals generalize hW_ : (W1.setCell ⟨s, 0, none⟩ (.int .u64 x)).drew = W2
  all_goals have HO2 := Lib.hid (show Off (fun k => k = s) W1 W2 by rw [← hW_]; exact setcell_off _ _ _)
  all_goals have HR2 : Hid (Rn W2 s) := by rw [← hW_]; exact HR1.out.next x
  all_goals clear hW_ hv hf HR1
  all_goals obtain ⟨v2, hv, hf⟩ := HR2.out.cell
  all_goals go_upto_region 3 with fail
  all_goals go_region
  all_goals generalize bits BinOp.xor IntKind.u64 v2 _ = x
  all_goals generalize hW_ : (W2.setCell ⟨s, 0, none⟩ (.int .u64 x)).drew = W3
  all_goals have HO3 := Lib.hid (show Off (fun k => k = s) W2 W3 by rw [← hW_]; exact setcell_off _ _ _)
  all_goals have HR3 : Hid (Rn W3 s) := by rw [← hW_]; exact HR2.out.next x
  all_goals clear hW_ hv hf HR2
  all_goals obtain ⟨v3, hv, hf⟩ := HR3.out.cell
  all_goals go_wp2
  all_goals go_ret
  all_goals exact ⟨v3, rfl, (HO1.out.trans HO2.out).trans HO3.out, HR3.out⟩

theorem and_mask (v : Int) (L M : Nat) (hL : L ≤ 16) (hM : M = 2 ^ L) : ∃ y : Nat, bits .and .u64 v ((M : Int) - 1) = (y : Int) ∧ y < M := by
  have hp : 0 < 2 ^ L := Nat.two_pow_pos L
  have h64 : 2 ^ L ≤ 65536 := Nat.le_trans (Nat.pow_le_pow_right (by decide) hL) (by decide)
  have e : (M : Int) - 1 = ((M - 1 : Nat) : Int) := by omega
  have e2 : (BitVec.ofInt IntKind.u64.bits (((M - 1 : Nat) : Int))).toNat = M - 1 := by
    rw [BitVec.ofInt_natCast, BitVec.toNat_ofNat]
    exact Nat.mod_eq_of_lt (Nat.lt_of_lt_of_le (by omega : M - 1 < 65536) (by decide))
  rw [e]
  refine ⟨(BitVec.ofInt IntKind.u64.bits v).toNat &&& (M - 1), ?_, ?_⟩
  · simp only [bits, BitVec.toNat_and, e2]
    have := Nat.and_lt_two_pow (BitVec.ofInt IntKind.u64.bits v).toNat (show M - 1 < 2 ^ L by omega)
    rw [IntKind.wrap_u64]
    omega
  · have := Nat.and_lt_two_pow (BitVec.ofInt IntKind.u64.bits v).toNat (show M - 1 < 2 ^ L by omega)
    omega
def PowM (x : Nat) (w : World) (e : Ending) (w' : World) : Prop := ∃ M : Nat, e = .returned (.int .u64 (M : Int)) ∧ ((∃ L, L ≤ 16 ∧ M = 2 ^ L) ∧ x < M ∧ (0 < x → M ≤ 2 * x)) ∧ w = w'
theorem powM_w (x : Nat) (h : x < 65536) (w : World) : Calls Try.prog 63 #[.int .i64 x] w (PowM x w) := by
  refine (pow_w x h w).mono ?_
  rintro e w' ⟨L, rfl, hL, rfl⟩
  exact ⟨2 ^ L, rfl, ⟨⟨L, hL.1, rfl⟩, hL.2⟩, rfl⟩
set_option maxHeartbeats 16000000 in
set_option maxRecDepth 100000 in
theorem break_w {g m cap a b : Nat} {d : Array Int} {w : World} (h : Lies w w g m d) (hab : a ≤ b) (hb : b ≤ d.size) (hsz : d.size < 65536) :
    Calls Try.prog 54 #[.slice (some ⟨g, 0, none⟩) d.size cap, .int .i64 a, .int .i64 b] w fun e w' => e = .returned (.tuple #[]) ∧ ∃ d', PermIn a b d d' ∧ Lies w w' g m d' := by
  have HL := Lib.hid h
  have HG := Lib.hid (show w.heap.size ≠ g from Nat.ne_of_gt h.lt)
  clear h
  obtain ⟨z, hz⟩ : ∃ z : Nat, z = b - a := ⟨_, rfl⟩
  have hz2 : a + z = b := by omega
  have hz3 : z < 65536 := by omega
  clear hz
  go_enter Try.func54, Try.ntmps54
  go_upto_region 1 with fail
  rw [show ((b : Int) - (a : Int)) = (z : Int) from by omega]
  by_cases h8 : 8 ≤ z
  · have hd8 : decide ((8 : Int) ≤ (z : Int)) = true := decide_eq_true (by omega)
    go_upto_region 3 with fail
    obtain ⟨s, hs⟩ : ∃ s, s = w.heap.size := ⟨_, rfl⟩
    rw [← hs]
    generalize hW_ : w.alloc (.cells #[.int .u64 z] 73 (0, 0)) = W1
    have HL1 := Lib.hid (show Lies w W1 g m d by rw [← hW_]; exact HL.out.keep (off_alloc _ _))
    have HR : Hid (Rn W1 s) := ⟨z, by rw [← hW_, hs]; exact World.alloc_heap_new _ _⟩
    have HS := Lib.hid hs
    have HGS := Lib.hid (show s ≠ g by rw [hs]; exact HG.out)
    clear hW_ hs HL HG
    obtain ⟨q, hq⟩ : ∃ q : Nat, q = z / 4 := ⟨_, rfl⟩
    have hq2 : 2 ≤ q := by omega
    have hq4 : q * 4 ≤ z := by omega
    have hqz : (z : Int) / 4 = (q : Int) := by omega
    obtain ⟨c, hc⟩ : ∃ c : Nat, c = a + q * 2 - 1 := ⟨_, rfl⟩
    have hc1 : c + 1 = a + q * 2 := by omega
    clear hq hc
    go_upto_region 4 with (go_at_call 63; refine (powM_w z hz3 _).mono ?_; rintro e w' ⟨M, rfl, hM, rfl⟩; have HM := Lib.hid hM; clear hM)
    have hM1 : z < M := HM.out.2.1
    have hM2 : M ≤ 2 * z := HM.out.2.2 (by omega)
    go_wp2
    rw [show ((a : Int) + (q : Int) * 2 - 1) = (c : Int) from by omega]
    go_loopw [9] (fun vi wr => ∃ (i : Nat) (dk : Array Int), vi = .int .i64 (i : Int) ∧ c ≤ i ∧ i ≤ c + 3 ∧ dk.size = d.size ∧ Hid (Lies w wr g m dk) ∧ Hid (Rn wr s) ∧ Hid (PermIn a b d dk)) (fun vi _ => c + 4 - (intOf vi).toNat)
    case atStart => exact ⟨c, d, rfl, by omega, by omega, rfl, HL1, HR, permIn_refl _ _ _⟩
    case round =>
      obtain ⟨i, dk, rfl, hk0, hk3, hsk, HK, HRK, HP⟩ := hrel
      clear HL1 HR
      by_cases hk2 : i ≤ c + 2
      · have hd1 : decide ((i : Int) ≤ (a : Int) + (q : Int) * 2 + 1) = true := decide_eq_true (by omega)
        have hw1 : IntKind.i64.wrap ((q : Int) * 2) = (q : Int) * 2 := IntWalk.i64_in _ (by omega)
        have hw2 : IntKind.i64.wrap ((a : Int) + (q : Int) * 2) = (a : Int) + (q : Int) * 2 := IntWalk.i64_in _ (by omega)
        have hw3 : IntKind.i64.wrap ((a : Int) + (q : Int) * 2 + 1) = (a : Int) + (q : Int) * 2 + 1 := IntWalk.i64_in _ (by omega)
        go_upto_region 7 with fail
        go_upto_region 8 with (go_at_call 64; refine (next_w HRK.out).mono ?_; rintro e W2 ⟨v, rfl, hO2, hR2⟩; have HO2 := Lib.hid hO2; have HR2 := Lib.hid hR2; clear hO2 hR2)
        have HK2 := Lib.hid (HK.out.young HO2.out (Nat.le_of_eq HS.out.symm) HGS.out)
        obtain ⟨y, hy, hyM⟩ := and_mask v _ M HM.out.1.choose_spec.1 HM.out.1.choose_spec.2
        rw [hy, show wrap64 (y : Int) = (y : Int) from by unfold wrap64; omega]
        clear hy
        obtain ⟨G, hG⟩ : ∃ G : Nat → Int, ∀ t, G t = dk[t]! := ⟨fun t => dk[t]!, fun _ => rfl⟩
        have HG := Lib.hid hG
        have HS0 := Lib.hid hsk
        have hcw := HK2.out.cells hG
        have hfw := HK2.out.free
        rw [hsk] at hcw hfw
        clear hG hsk
        by_cases hyz : z ≤ y
        · have hd2 : decide ((z : Int) ≤ (y : Int)) = true := decide_eq_true (by omega)
          obtain ⟨o, ho⟩ : ∃ o : Nat, o = y - z := ⟨_, rfl⟩
          have hor : (y : Int) - (z : Int) = (o : Int) := by omega
          have ho2 : o < z := by omega
          clear ho
          go_upto_region 10 with fail
          obtain ⟨j, hj⟩ : ∃ j : Nat, j = a + o := ⟨_, rfl⟩
          have hjr : ((a : Int) + (o : Int)) = (j : Int) := by omega
          have hjw : IntKind.i64.wrap (j : Int) = (j : Int) := IntWalk.i64_in _ (by omega)
          have q1 : i < d.size := by omega
          have q2 : j < d.size := by omega
          have q3 : j < b := by omega
          have q4 : a ≤ j := by omega
          clear hj
          obtain ⟨v3, hy3⟩ := cell?_setCell_some (w := W2) (p := ⟨g, i, none⟩) (x := .int .u32 (G j)) (q := ⟨g, j, none⟩) (hcw j q2)
          go_region
          all_goals go_wp2
          all_goals go_roundw
          case rel => exact ⟨i + 1, swp dk i j, by go_num, by omega, by omega, by rw [size_swp]; exact HS0.out, HK2.out.swpG HG.out (by have := HS0.out; omega) (by have := HS0.out; omega), HR2.out.other2 HGS.out _ _ _ _, permIn_trans _ _ _ _ _ HP.out (swp_permIn _ _ _ _ _ (by omega) (by omega) (by omega) (by omega) (by have := HS0.out; omega))⟩
          case measure => simp [intOf]; omega
        · have hd2 : decide ((z : Int) ≤ (y : Int)) = false := decide_eq_false (by omega)
          go_upto_region 10 with fail
          obtain ⟨j, hj⟩ : ∃ j : Nat, j = a + y := ⟨_, rfl⟩
          have hjr : ((a : Int) + (y : Int)) = (j : Int) := by omega
          have hjw : IntKind.i64.wrap (j : Int) = (j : Int) := IntWalk.i64_in _ (by omega)
          have q1 : i < d.size := by omega
          have q2 : j < d.size := by omega
          have q3 : j < b := by omega
          have q4 : a ≤ j := by omega
          clear hj
          obtain ⟨v3, hy3⟩ := cell?_setCell_some (w := W2) (p := ⟨g, i, none⟩) (x := .int .u32 (G j)) (q := ⟨g, j, none⟩) (hcw j q2)
          go_region
          all_goals go_wp2
          all_goals go_roundw
          case rel => exact ⟨i + 1, swp dk i j, by go_num, by omega, by omega, by rw [size_swp]; exact HS0.out, HK2.out.swpG HG.out (by have := HS0.out; omega) (by have := HS0.out; omega), HR2.out.other2 HGS.out _ _ _ _, permIn_trans _ _ _ _ _ HP.out (swp_permIn _ _ _ _ _ (by omega) (by omega) (by omega) (by omega) (by have := HS0.out; omega))⟩
          case measure => simp [intOf]; omega
      · have hd1 : decide ((i : Int) ≤ (a : Int) + (q : Int) * 2 + 1) = false := decide_eq_false (by omega)
        go_wp2
        go_end0
        exact ⟨rfl, dk, HP.out, HK.out⟩
  · have hd8 : decide ((8 : Int) ≤ (z : Int)) = false := decide_eq_false (by omega)
    go_wp2
    go_end0
    exact ⟨rfl, d, permIn_refl _ _ _, HL.out⟩
end Go.Proofs.Ytkhljamellgcfaa
/-
  A heap, where it lies.
-/
namespace Go.Proofs.Ytkhljamellgcfaa
open Go.RowKit Go.Sort
set_option linter.unusedVariables false
set_option linter.unusedSimpArgs false
theorem sift_end {hi first root : Nat} {d : Array Int} (h : 2 * root + 1 ≥ hi) : siftDown ltA hi first root d = d := by rw [siftDown, dif_pos h]
theorem sift_go {hi first root c : Nat} {d : Array Int} (h : ¬ 2 * root + 1 ≥ hi)
    (hc : c = 2 * root + 1 ∧ (2 * root + 2 < hi → ltA d[first + (2 * root + 1)]! d[first + (2 * root + 1) + 1]! = false) ∨ c = 2 * root + 2 ∧ 2 * root + 2 < hi ∧ ltA d[first + (2 * root + 1)]! d[first + (2 * root + 1) + 1]! = true) :
    siftDown ltA hi first root d = if ltA d[first + root]! d[first + c]! = true then siftDown ltA hi first c (swp d (first + root) (first + c)) else d := by
  rw [siftDown, dif_neg h]
  rcases hc with ⟨rfl, h1⟩ | ⟨rfl, h1, h2⟩
  · have e : (decide (2 * root + 1 + 1 < hi) && ltA d[first + (2 * root + 1)]! d[first + (2 * root + 1) + 1]!) = false := by
      by_cases h3 : 2 * root + 2 < hi
      · rw [h1 h3]; simp
      · simp [show ¬ 2 * root + 1 + 1 < hi by omega]
    rw [if_neg (by rw [e]; decide)]
    cases hl : ltA d[first + root]! d[first + (2 * root + 1)]!
    · simp
    · simp
  · have e : (decide (2 * root + 1 + 1 < hi) && ltA d[first + (2 * root + 1)]! d[first + (2 * root + 1) + 1]!) = true := by
      rw [h2]; simp; omega
    rw [if_pos e]
    cases hl : ltA d[first + root]! d[first + (2 * root + 2)]!
    · simp
    · simp [h1]
set_option maxHeartbeats 16000000 in
set_option maxRecDepth 100000 in
theorem sift_w {g m cap lo hi first : Nat} {d : Array Int} {w : World} (h : Lies w w g m d) (hf : first + hi ≤ d.size) (hsz : d.size < 1000000000000) (hlo : lo < 1000000000000) :
    Calls Try.prog 62 #[.slice (some ⟨g, 0, none⟩) d.size cap, .int .i64 lo, .int .i64 hi, .int .i64 first] w fun e w' => e = .returned (.tuple #[]) ∧ Lies w w' g m (siftDown ltA hi first lo d) := by
  have HL := Lib.hid h
  clear h
  go_enter Try.func62, Try.ntmps62
  go_wp2
  go_loopw [8] (fun vi wr => ∃ (i : Nat) (dk : Array Int), vi = .int .i64 i ∧ i < 1000000000000 ∧ dk.size = d.size ∧ Hid (Lies w wr g m dk) ∧ Hid (siftDown ltA hi first i dk = siftDown ltA hi first lo d)) (fun vi _ => 1000000000000 - (intOf vi).toNat)
  case atStart => exact ⟨lo, d, rfl, hlo, rfl, HL, rfl⟩
  case round =>
    obtain ⟨i, dk, rfl, hib, hsk, HK, HO⟩ := hrel
    clear HL
    obtain ⟨G, hG⟩ : ∃ G : Nat → Int, ∀ t, G t = dk[t]! := ⟨fun t => dk[t]!, fun _ => rfl⟩
    have HG := Lib.hid hG
    have HS := Lib.hid hsk
    clear hG hsk
    have hcw := HK.out.cells HG.out
    have hfw := HK.out.free
    rw [HS.out] at hcw hfw
    by_cases hc : 2 * i + 1 ≥ hi
    · have hd : decide (hi ≤ 2 * i + 1) = true := decide_eq_true hc
      have hd2 : decide ((hi : Int) ≤ 2 * (i : Int) + 1) = true := decide_eq_true (by omega)
      go_wp2
      go_end0
      exact ⟨rfl, by rw [← HO.out, sift_end hc]; exact HK.out⟩
    · have hd2 : decide ((hi : Int) ≤ 2 * (i : Int) + 1) = false := decide_eq_false (by omega)
      go_wp2
      obtain ⟨c, hcc⟩ : ∃ c : Nat, c = 2 * i + 1 := ⟨_, rfl⟩
      rw [show 2 * (i : Int) + 1 = (c : Int) from by omega]
      have HC := Lib.hid hcc
      have b1 : c < hi := by omega
      have b2 : i < c := by omega
      clear hd2 hcc
      have s1 : IntKind.i64.wrap ((c : Int) + 1) = (c : Int) + 1 := IntWalk.i64_in _ (by omega)
      have xw1 : IntKind.i64.wrap ((first : Int) + (c : Int)) = (first : Int) + (c : Int) := IntWalk.i64_in _ (by omega)
      have xa1 : (0 : Int) ≤ (first : Int) + (c : Int) := by omega
      have xb1 : (first : Int) + (c : Int) < (d.size : Int) := by omega
      have xc1 : ((first : Int) + (c : Int)).toNat = first + c := by omega
      have xw2 : IntKind.i64.wrap ((first : Int) + (i : Int)) = (first : Int) + (i : Int) := IntWalk.i64_in _ (by omega)
      have xa2 : (0 : Int) ≤ (first : Int) + (i : Int) := by omega
      have xb2 : (first : Int) + (i : Int) < (d.size : Int) := by omega
      have xc2 : ((first : Int) + (i : Int)).toNat = first + i := by omega
      have q1 : first + c < d.size := by omega
      have q2 : first + i < d.size := by omega
      by_cases h2 : c + 1 < hi
      · have q3 : first + c + 1 < d.size := by omega
        have hd3 : decide ((c : Int) + 1 < (hi : Int)) = true := decide_eq_true (by omega)
        have xw3 : IntKind.i64.wrap ((first : Int) + (c : Int) + 1) = (first : Int) + (c : Int) + 1 := IntWalk.i64_in _ (by omega)
        have xa3 : (0 : Int) ≤ (first : Int) + (c : Int) + 1 := by omega
        have xb3 : (first : Int) + (c : Int) + 1 < (d.size : Int) := by omega
        have xc3 : ((first : Int) + (c : Int) + 1).toNat = first + c + 1 := by omega
        go_quiet ((go_at_call 42; exact Calls.quiet_of_same (less_w _ _ _)))
        go_wp2
        · have hl2 : ltA (G (first + c)) (G (first + c + 1)) = true := by assumption
          have HL2 := Lib.hid hl2
          clear hl2
          obtain ⟨c1, hc1⟩ : ∃ c1 : Nat, c1 = c + 1 := ⟨_, rfl⟩
          rw [show (c : Int) + 1 = (c1 : Int) from by omega]
          have xw4 : IntKind.i64.wrap ((first : Int) + (c1 : Int)) = (first : Int) + (c1 : Int) := IntWalk.i64_in _ (by omega)
          have xa4 : (0 : Int) ≤ (first : Int) + (c1 : Int) := by omega
          have xb4 : (first : Int) + (c1 : Int) < (d.size : Int) := by omega
          have xc4 : ((first : Int) + (c1 : Int)).toNat = first + c1 := by omega
          have q4 : first + c1 < d.size := by omega
          have HC1 := Lib.hid hc1
          clear hc1
          generalize hW_ : wr.drewN nq = W3
          have HK3 : Hid (Lies w W3 g m dk) := by rw [← hW_]; exact HK.out.drewN _
          clear hW_ hcw hfw HK
          have hcw := HK3.out.cells HG.out
          have hfw := HK3.out.free
          rw [HS.out] at hcw hfw
          have HE : Hid (siftDown ltA hi first i dk = if ltA dk[first + i]! dk[first + c1]! = true then siftDown ltA hi first (c1) (swp dk (first + i) (first + (c1))) else dk) := sift_go (by have := HC.out; omega) (.inr ⟨by have := HC.out; have := HC1.out; omega, by have := HC.out; omega, by rw [← HC.out, ← HG.out, ← HG.out]; exact HL2.out⟩)
          go_quiet ((go_at_call 42; exact Calls.quiet_of_same (less_w _ _ _)))
          go_wp2
          · have hl0 : (!ltA (G (first + i)) (G (first + c1))) = true := by assumption
            have hl : ltA (G (first + i)) (G (first + c1)) = false := by simpa using hl0
            (try simp only [Exit.inBlock, Exit.then])
            refine bodyPost_ret (results_none rfl _ _ _) rfl ?_
            exact ⟨rfl, by rw [← HO.out, HE.out, if_neg (by rw [← HG.out, ← HG.out, hl]; decide)]; exact HK3.out.drewN _⟩
          · have hl0 : (!ltA (G (first + i)) (G (first + c1))) = false := by assumption
            have hl : ltA (G (first + i)) (G (first + c1)) = true := by simpa using hl0
            clear hl0
            have n1 : i ≠ c1 := by have := HC.out; have := HC1.out; omega
            have n2 : c1 ≠ i := Ne.symm n1
            go_region
            all_goals go_wp2
            go_roundw
            case rel => exact ⟨c1, swp dk (first + i) (first + c1), by go_num, by have := HC.out; have := HC1.out; omega, by rw [size_swp]; exact HS.out, (HK3.out.drewN nq).swpG HG.out (by have := HS.out; omega) (by have := HS.out; omega), by rw [← HO.out, HE.out, if_pos (by rw [← HG.out, ← HG.out]; exact hl)]; rfl⟩
            case measure => have n3 : i < c1 := (by (try have := HC1.out); omega); simp [intOf]; omega
        · have hl2 : ltA (G (first + c)) (G (first + c + 1)) = false := by assumption
          have HL2 := Lib.hid hl2
          clear hl2
          generalize hW_ : wr.drewN nq = W3
          have HK3 : Hid (Lies w W3 g m dk) := by rw [← hW_]; exact HK.out.drewN _
          clear hW_ hcw hfw HK
          have hcw := HK3.out.cells HG.out
          have hfw := HK3.out.free
          rw [HS.out] at hcw hfw
          have HE : Hid (siftDown ltA hi first i dk = if ltA dk[first + i]! dk[first + c]! = true then siftDown ltA hi first (c) (swp dk (first + i) (first + (c))) else dk) := sift_go (by have := HC.out; omega) (.inl ⟨HC.out, fun _ => by rw [← HC.out, ← HG.out, ← HG.out]; exact HL2.out⟩)
          go_quiet ((go_at_call 42; exact Calls.quiet_of_same (less_w _ _ _)))
          go_wp2
          · have hl0 : (!ltA (G (first + i)) (G (first + c))) = true := by assumption
            have hl : ltA (G (first + i)) (G (first + c)) = false := by simpa using hl0
            (try simp only [Exit.inBlock, Exit.then])
            refine bodyPost_ret (results_none rfl _ _ _) rfl ?_
            exact ⟨rfl, by rw [← HO.out, HE.out, if_neg (by rw [← HG.out, ← HG.out, hl]; decide)]; exact HK3.out.drewN _⟩
          · have hl0 : (!ltA (G (first + i)) (G (first + c))) = false := by assumption
            have hl : ltA (G (first + i)) (G (first + c)) = true := by simpa using hl0
            clear hl0
            have n1 : i ≠ c := by have := HC.out; omega
            have n2 : c ≠ i := Ne.symm n1
            go_region
            all_goals go_wp2
            go_roundw
            case rel => exact ⟨c, swp dk (first + i) (first + c), by go_num, by have := HC.out; omega, by rw [size_swp]; exact HS.out, (HK3.out.drewN nq).swpG HG.out (by have := HS.out; omega) (by have := HS.out; omega), by rw [← HO.out, HE.out, if_pos (by rw [← HG.out, ← HG.out]; exact hl)]; rfl⟩
            case measure => have n3 : i < c := (by (try have := HC1.out); omega); simp [intOf]; omega
      · have hd3 : decide ((c : Int) + 1 < (hi : Int)) = false := decide_eq_false (by omega)
        go_quiet ((go_at_call 42; exact Calls.quiet_of_same (less_w _ _ _)))
        go_wp2
        generalize hW_ : wr.drewN nq = W3
        have HK3 : Hid (Lies w W3 g m dk) := by rw [← hW_]; exact HK.out.drewN _
        clear hW_ hcw hfw HK
        have hcw := HK3.out.cells HG.out
        have hfw := HK3.out.free
        rw [HS.out] at hcw hfw
        have HE : Hid (siftDown ltA hi first i dk = if ltA dk[first + i]! dk[first + c]! = true then siftDown ltA hi first (c) (swp dk (first + i) (first + (c))) else dk) := sift_go (by have := HC.out; omega) (.inl ⟨HC.out, fun hx => absurd hx (by have := HC.out; omega)⟩)
        go_quiet ((go_at_call 42; exact Calls.quiet_of_same (less_w _ _ _)))
        go_wp2
        · have hl0 : (!ltA (G (first + i)) (G (first + c))) = true := by assumption
          have hl : ltA (G (first + i)) (G (first + c)) = false := by simpa using hl0
          (try simp only [Exit.inBlock, Exit.then])
          refine bodyPost_ret (results_none rfl _ _ _) rfl ?_
          exact ⟨rfl, by rw [← HO.out, HE.out, if_neg (by rw [← HG.out, ← HG.out, hl]; decide)]; exact HK3.out.drewN _⟩
        · have hl0 : (!ltA (G (first + i)) (G (first + c))) = false := by assumption
          have hl : ltA (G (first + i)) (G (first + c)) = true := by simpa using hl0
          clear hl0
          have n1 : i ≠ c := by have := HC.out; omega
          have n2 : c ≠ i := Ne.symm n1
          go_region
          all_goals go_wp2
          go_roundw
          case rel => exact ⟨c, swp dk (first + i) (first + c), by go_num, by have := HC.out; omega, by rw [size_swp]; exact HS.out, (HK3.out.drewN nq).swpG HG.out (by have := HS.out; omega) (by have := HS.out; omega), by rw [← HO.out, HE.out, if_pos (by rw [← HG.out, ← HG.out]; exact hl)]; rfl⟩
          case measure => have n3 : i < c := (by (try have := HC1.out); omega); simp [intOf]; omega
theorem sift_n {g m cap lo hi first n : Nat} {d : Array Int} {w0 w : World} (h : Lies w0 w g m d) (hn : d.size = n) (hf : first + hi ≤ n) (hsz : n < 1000000000000) (hlo : lo < 1000000000000) :
    Calls Try.prog 62 #[.slice (some ⟨g, 0, none⟩) n cap, .int .i64 lo, .int .i64 hi, .int .i64 first] w fun e w' => e = .returned (.tuple #[]) ∧ Lies w0 w' g m (siftDown ltA hi first lo d) := by
  subst hn
  exact (sift_w h.here hf hsz hlo).mono fun _ _ ⟨he, hl⟩ => ⟨he, h.trans hl⟩
end Go.Proofs.Ytkhljamellgcfaa
