/- Texts of a claim. -/
import Derived.Test.YtjncmiclpaodhaaSoI
import Derived.Test.YtjncmiclpaodhaaPHoy1
import Derived.Test.YtjncmiclpaodhaaPHox1
import Derived.Test.YtjncmiclpaodhaaPHox2
import Derived.Test.YtjncmiclpaodhaaPHox10
-- written by a program of this session (hprint.py), over the kit's printer
namespace Go.Proofs.Ytjncmiclpaodhaa.PHo
set_option maxHeartbeats 8000000
set_option maxRecDepth 100000
open Go.RowKit Go.Proofs.YtjncmiclpaodhaaW.PrintWords Go.Proofs.YtjncmiclpaodhaaW.PrintLast Go.Proofs.YtjncmiclpaodhaaW.PrintMore
attribute [local go_sem] max2_int min2_int max_two min_two max_three min_three max_four min_four   -- for this text's walks alone
set_option linter.unusedVariables false
set_option linter.unusedSimpArgs false
/-! ### stolonref07_Few: function 13 -/
def stolonref07_Few.l0 : Nat → Int → Int → List (S42) → Option (Bool)
 | 0, _, _, _ => none
 | k + 1, x3, x4, x330000 => if x4 < (x330000.length : Int) then (if x3 ≤ 600 then (if 0 ≤ x4 then (stolonref07_Few.l0 k (wrap64 (x3 + (((rd_T42 x330000 x4).f2.f1).length : Int))) (wrap64 (x4 + 1)) x330000) else (none)) else (some (decide (x3 ≤ 600)))) else (some (decide (x3 ≤ 600)))
def stolonref07_Few.f (k : Nat) (l0_0 : List (S42)) : Option (Bool) := stolonref07_Few.l0 k (l0_0.length : Int) 0 l0_0
theorem stolonref07_Few.mono_l : ∀ k, (∀ y0 y1 y2, LeO (stolonref07_Few.l0 k y0 y1 y2) (stolonref07_Few.l0 (k + 1) y0 y1 y2))
 | 0 => fun _ _ _ r h => by simp [stolonref07_Few.l0] at h
 | k + 1 => by
  have ih0 := stolonref07_Few.mono_l k
  · intro y0 y1 y2
    unfold stolonref07_Few.l0
    repeat' first
    | (with_reducible exact ih0 _ _ _)
    | (with_reducible exact LeO.refl _)
    | (with_reducible exact LeO.none _)
    | (with_reducible refine LeO.ite ?_ ?_)
    | (with_reducible refine LeO.bind ?_ (fun _ => ?_))
    | exact ih0 _ _ _
    | exact LeO.none _
    | refine LeO.ite ?_ ?_
    | refine LeO.bind ?_ (fun _ => ?_)
theorem stolonref07_Few.mono : ∀ a0 k, LeO (stolonref07_Few.f k a0) (stolonref07_Few.f (k + 1) a0) := by
 intro a0 k
 have ih0 := stolonref07_Few.mono_l k
 unfold stolonref07_Few.f
 repeat' first
  | (with_reducible exact ih0 _ _ _)
  | (with_reducible exact LeO.refl _)
  | (with_reducible exact LeO.none _)
  | (with_reducible refine LeO.ite ?_ ?_)
  | (with_reducible refine LeO.bind ?_ (fun _ => ?_))
  | exact ih0 _ _ _
  | exact LeO.none _
  | refine LeO.ite ?_ ?_
  | refine LeO.bind ?_ (fun _ => ?_)
theorem stolonref07_Few.calls (k : Nat) (A0_0 : Option Addr) (c0_0 : Nat) (l0_0 : List (S42)) (r : Bool) (w : World) (hr0_0 : Kd.C k42 w A0_0 l0_0.length l0_0) (hc0_0 : l0_0.length ≤ c0_0) (h : stolonref07_Few.f k l0_0 = some r) :
 Calls Try.prog 13 #[.agg #[.slice A0_0 l0_0.length c0_0]] w fun e w' => e = .returned (.bool r) ∧ Below w.heap.size w w' := by
 have hu40 := Try.underlying40
 have HR0_0 := Aside0.mk hr0_0
 have HC0_0 := Aside0.mk hc0_0
 clear hr0_0 hc0_0
 have HB := Aside0.mk (Below.refl w.heap.size w)
 have H : (stolonref07_Few.l0 k (l0_0.length : Int) 0 l0_0) = some r := h
 clear h
 have H' := Aside0.mk H
 clear H
 go_enter Try.func13, Try.ntmps13
 go_wp2_with (first | ((with_reducible refine gate_dst (N := 1) rfl ?_); refine bxn (cs := #[.slice A0_0 l0_0.length c0_0]) (t := 40) ?_; intro gb329 hg w2 hbox hb; have BK329 := Aside0.mk (hbox); have GW329 := Aside0.mk ((by rw [hg]; exact (below_size HB.out) : w.heap.size ≤ gb329)); have GE329 := Aside0.mk ((by rw [hg]; exact (below_size HB.out) : w.heap.size ≤ gb329)); replace HB := Aside0.mk (below_step HB.out hb); clear hb hbox hg; obtain ⟨hcz3_0, hfz3_0⟩ := cf1 BK329.out))
 go_loopg [3, 4] k (fun kq v3 v4 w' => ∃ (x3_1 : Int) (x4_1 : Int), v3 = .int .i64 x3_1 ∧ v4 = .int .i64 x4_1 ∧ Aside0 (stolonref07_Few.l0 kq x3_1 x4_1 l0_0 = some r) ∧ Aside0 (kq ≤ k) ∧ Aside0 (w'.heap[gb329]? = some (.cells #[(.slice A0_0 l0_0.length c0_0)] 40 (0, 0))) ∧ Aside0 (Below w.heap.size w w'))
 case atStart => exact ⟨((l0_0.length : Int)), (0), (fr), (fr), H', ⟨Nat.le_refl _⟩, ⟨BK329.out⟩, ⟨HB.out⟩⟩
 case round =>
  clear H'
  try clear c1
  try clear p2
  try clear hcz3_0
  try clear hfz3_0
  obtain ⟨x3_1, x4_1, rfl, rfl, HA, HK1, BK329, HB⟩ := hrel
  cases gk with
  | zero => exact absurd HA.out (by simp [stolonref07_Few.l0])
  | succ k1 =>
   have H := HA.out
   clear HA
   simp only [stolonref07_Few.l0] at H
   by_cases c4 : x4_1 < (l0_0.length : Int)
   · rw [if_pos c4] at H
     have c4b0 : decide (x4_1 < (l0_0.length : Int)) = true := decide_eq_true c4
     clear c4
     by_cases c5 : x3_1 ≤ 600
     · rw [if_pos c5] at H
       have c5b0 : decide (x3_1 ≤ 600) = true := decide_eq_true c5
       clear c5
       by_cases c6 : 0 ≤ x4_1
       case neg => rw [if_neg c6] at H; exact absurd H (by simp)
       rw [if_pos c6] at H
       have c6b0 : decide (0 ≤ x4_1) = true := decide_eq_true c6
       clear c6
       have H' := Aside0.mk H
       clear H
       obtain ⟨hcz7_0, hfz7_0⟩ := cf1 BK329.out
       have p330 : 0 ≤ (x4_1 : Int) := od
       have q330 : x4_1 < (l0_0.length : Int) := od
       obtain ⟨ad330, A330_3, c330_3, e330, hx330_0, hx330_1, hx330_2, hx330_3, hl330_3, hi330_3⟩ := at_T42 HR0_0.out x4_1 p330 q330
       cases e330
       replace hx330_0 := hcz HB hx330_0
       replace hx330_1 := hcz HB hx330_1
       replace hx330_2 := hcz HB hx330_2
       replace hx330_3 := hcz HB hx330_3
       have HR330_3 := Aside0.mk hi330_3
       have HC330_3 := Aside0.mk hl330_3
       clear hi330_3 hl330_3
       replace p330 := eq_true p330
       replace q330 := eq_true q330
       go_wp2
       go_roundg k1
       case measure => have := HK1.out; omega
       case rel => exact ⟨(wrap64 (x3_1 + (((rd_T42 l0_0 x4_1).f2.f1).length : Int))), (wrap64 (x4_1 + 1)), (fr), (fr), H', ⟨by have := HK1.out; omega⟩, ⟨BK329.out⟩, ⟨HB.out⟩⟩
     · rw [if_neg c5] at H
       have c5b0 : decide (x3_1 ≤ 600) = false := decide_eq_false c5
       clear c5
       obtain rfl := Option.some.inj H
       obtain ⟨hcz8_0, hfz8_0⟩ := cf1 BK329.out
       go_wp2
       go_ret
       exact ⟨by first | rfl | (simp [errW_none, errW_some] <;> rfl) | (simp [*, errW_none, errW_some] <;> rfl), bl HB⟩
   · rw [if_neg c4] at H
     have c4b0 : decide (x4_1 < (l0_0.length : Int)) = false := decide_eq_false c4
     clear c4
     obtain rfl := Option.some.inj H
     obtain ⟨hcz9_0, hfz9_0⟩ := cf1 BK329.out
     go_wp2
     go_ret
     exact ⟨by first | rfl | (simp [errW_none, errW_some] <;> rfl) | (simp [*, errW_none, errW_some] <;> rfl), bl HB⟩
/-! ### stolonref01_Asked: function 49 -/
def stolonref01_Asked.f (a0 : Int) : Option (Bool) := if a0 ≥ 3758096640 then (some (decide (a0 ≤ 4026531839))) else (some false)
theorem stolonref01_Asked.calls (a0 : Int) (r : Bool) (w : World) (h : stolonref01_Asked.f a0 = some r) :
 Calls Try.prog 49 #[.int .u32 a0] w fun e w' => e = .returned (.bool r) ∧ Drawn0 w w' := by
 have H : (if a0 ≥ 3758096640 then (some (decide (a0 ≤ 4026531839))) else (some false)) = some r := h
 clear h
 by_cases c2 : a0 ≥ 3758096640
 · rw [if_pos c2] at H
   have c2b0 : decide (3758096640 ≤ a0) = true := decide_eq_true c2
   clear c2
   obtain rfl := Option.some.inj H
   go_enter Try.func49, Try.ntmps49
   go_wp2
   go_ret
   exact ⟨fr, by repeat (first | exact Drawn0.refl _ | apply Drawn0.step)⟩
 · rw [if_neg c2] at H
   have c2b0 : decide (3758096640 ≤ a0) = false := decide_eq_false c2
   clear c2
   obtain rfl := Option.some.inj H
   go_enter Try.func49, Try.ntmps49
   go_wp2
   go_ret
   exact ⟨fr, by repeat (first | exact Drawn0.refl _ | apply Drawn0.step)⟩
/-! ### stolonref07_socket: function 28 -/
def stolonref07_socket.f (k : Nat) (a0_0 : Int) (a0_1 : Int) (a0_2 : Bool) (l0_3 : List Int) : Option (Bool) := (stolonref01_Asked.f a0_1).bind fun t332 => (if a0_0 ≥ 1 then (if t332 = true then (if (l0_3.length : Int) ≤ 16 then ((stolonref06_Right.f k l0_3).bind fun t333 => (some t333)) else (some false)) else (some false)) else (some false))
theorem stolonref07_socket.mono : ∀ a0 a1 a2 a3 k, LeO (stolonref07_socket.f k a0 a1 a2 a3) (stolonref07_socket.f (k + 1) a0 a1 a2 a3) := by
 intro a0 a1 a2 a3 k
 unfold stolonref07_socket.f
 repeat' first
  | (with_reducible exact stolonref06_Right.mono _ _)
  | (with_reducible exact LeO.refl _)
  | (with_reducible exact LeO.none _)
  | (with_reducible refine LeO.ite ?_ ?_)
  | (with_reducible refine LeO.bind ?_ (fun _ => ?_))
  | exact stolonref06_Right.mono _ _
  | exact LeO.none _
  | refine LeO.ite ?_ ?_
  | refine LeO.bind ?_ (fun _ => ?_)
theorem stolonref07_socket.calls (k : Nat) (a0_0 : Int) (a0_1 : Int) (a0_2 : Bool) (A0_3 : Option Addr) (c0_3 : Nat) (l0_3 : List Int) (r : Bool) (w : World) (hr0_3 : Kd.C (Kd.int .u32) w A0_3 l0_3.length l0_3) (hc0_3 : l0_3.length ≤ c0_3) (h : stolonref07_socket.f k a0_0 a0_1 a0_2 l0_3 = some r) :
 Calls Try.prog 28 #[.agg #[.int .i64 a0_0, .int .u32 a0_1, .bool a0_2, .slice A0_3 l0_3.length c0_3]] w fun e w' => e = .returned (.bool r) ∧ Below w.heap.size w w' := by
 have hu42 := Try.underlying42
 have HR0_3 := Aside0.mk hr0_3
 have HC0_3 := Aside0.mk hc0_3
 clear hr0_3 hc0_3
 have HB := Aside0.mk (Below.refl w.heap.size w)
 have H : ((stolonref01_Asked.f a0_1).bind fun t332 => (if a0_0 ≥ 1 then (if t332 = true then (if (l0_3.length : Int) ≤ 16 then ((stolonref06_Right.f k l0_3).bind fun t333 => (some t333)) else (some false)) else (some false)) else (some false))) = some r := h
 clear h
 replace H := Option.bind_eq_some_iff.mp H
 obtain ⟨t332, A20, H⟩ := H
 replace H : (if a0_0 ≥ 1 then (if t332 = true then (if (l0_3.length : Int) ≤ 16 then ((stolonref06_Right.f k l0_3).bind fun t333 => (some t333)) else (some false)) else (some false)) else (some false)) = some r := H
 have A2 := Aside0.mk A20
 clear A20
 by_cases c3 : a0_0 ≥ 1
 · rw [if_pos c3] at H
   have c3b0 : decide (1 ≤ a0_0) = true := decide_eq_true c3
   clear c3
   by_cases c4 : t332 = true
   · subst c4
     replace H : (if (l0_3.length : Int) ≤ 16 then ((stolonref06_Right.f k l0_3).bind fun t333 => (some t333)) else (some false)) = some r := by rw [if_pos rfl] at H; exact H
     by_cases c5 : (l0_3.length : Int) ≤ 16
     · rw [if_pos c5] at H
       have c5b0 : decide ((l0_3.length : Int) ≤ 16) = true := decide_eq_true c5
       have c5b1 : decide (l0_3.length ≤ 16) = true := decide_eq_true (by omega)
       clear c5
       replace H := Option.bind_eq_some_iff.mp H
       obtain ⟨t333, A60, H⟩ := H
       replace H : (some t333) = some r := H
       have A6 := Aside0.mk A60
       clear A60
       obtain rfl := Option.some.inj H
       go_enter Try.func28, Try.ntmps28
       go_wp2_with (first | ((with_reducible refine gate_dst (N := 1) rfl ?_); (try (refine gate_guard (by rfl) ?_; dsimp only)); refine bxn (cs := #[.int .i64 a0_0, .int .u32 a0_1, .bool a0_2, .slice A0_3 l0_3.length c0_3]) (t := 42) ?_; intro gb331 hg w7 hbox hb; have BK331 := Aside0.mk (hbox); have GW331 := Aside0.mk ((by rw [hg]; exact (below_size HB.out) : w.heap.size ≤ gb331)); have GE331 := Aside0.mk ((by rw [hg]; exact (below_size HB.out) : w.heap.size ≤ gb331)); replace HB := Aside0.mk (below_step HB.out hb); clear hb hbox hg; obtain ⟨hcz8_0, hcz8_1, hcz8_2, hcz8_3, hfz8_0, hfz8_1, hfz8_2, hfz8_3⟩ := cf4 BK331.out) | ((with_reducible refine gate_callee (f := 49) rfl ?_); refine goesL_ (some 6) rfl rfl Try.func49 (by kernel_rfl) rfl #[.int .u32 a0_1] rfl (by (try simp only [List.map_toArray, List.map_cons, List.map_nil]); first | done | rfl | (simp only [List.length_drop, List.length_take]; rfl)) ?_; (with_reducible refine (stolonref01_Asked.calls a0_1 true _ A2.out).mono ?_); rintro e w' ⟨rfl, ⟨nd, rfl⟩⟩; refine ⟨_, rfl, ?_⟩) | (go_at_call 9; (with_reducible refine (stolonref06_Right.calls k _ _ l0_3 t333 _ ?side1 ?side2 A6.out).mono ?_); (case side1 => exact ca (Kd.C_below HR0_3.out HB.out)); (case side2 => exact HC0_3.out); rintro e w' ⟨rfl, ⟨nd, rfl⟩⟩))
       go_ret
       exact ⟨by first | rfl | (simp [errW_none, errW_some] <;> rfl) | (simp [*, errW_none, errW_some] <;> rfl), bl HB⟩
     · rw [if_neg c5] at H
       have c5b0 : decide ((l0_3.length : Int) ≤ 16) = false := decide_eq_false c5
       have c5b1 : decide (l0_3.length ≤ 16) = false := decide_eq_false (by omega)
       clear c5
       obtain rfl := Option.some.inj H
       go_enter Try.func28, Try.ntmps28
       go_wp2_with (first | ((with_reducible refine gate_dst (N := 1) rfl ?_); (try (refine gate_guard (by rfl) ?_; dsimp only)); refine bxn (cs := #[.int .i64 a0_0, .int .u32 a0_1, .bool a0_2, .slice A0_3 l0_3.length c0_3]) (t := 42) ?_; intro gb331 hg w9 hbox hb; have BK331 := Aside0.mk (hbox); have GW331 := Aside0.mk ((by rw [hg]; exact (below_size HB.out) : w.heap.size ≤ gb331)); have GE331 := Aside0.mk ((by rw [hg]; exact (below_size HB.out) : w.heap.size ≤ gb331)); replace HB := Aside0.mk (below_step HB.out hb); clear hb hbox hg; obtain ⟨hcz10_0, hcz10_1, hcz10_2, hcz10_3, hfz10_0, hfz10_1, hfz10_2, hfz10_3⟩ := cf4 BK331.out) | ((with_reducible refine gate_callee (f := 49) rfl ?_); refine goesL_ (some 6) rfl rfl Try.func49 (by kernel_rfl) rfl #[.int .u32 a0_1] rfl (by (try simp only [List.map_toArray, List.map_cons, List.map_nil]); first | done | rfl | (simp only [List.length_drop, List.length_take]; rfl)) ?_; (with_reducible refine (stolonref01_Asked.calls a0_1 true _ A2.out).mono ?_); rintro e w' ⟨rfl, ⟨nd, rfl⟩⟩; refine ⟨_, rfl, ?_⟩))
       go_ret
       exact ⟨by first | rfl | (simp [errW_none, errW_some] <;> rfl) | (simp [*, errW_none, errW_some] <;> rfl), bl HB⟩
   · replace c4 := Bool.eq_false_iff.mpr c4
     subst c4
     replace H : (some false) = some r := by rw [if_neg (show ¬ (false = true) by decide)] at H; exact H
     obtain rfl := Option.some.inj H
     go_enter Try.func28, Try.ntmps28
     go_wp2_with (first | ((with_reducible refine gate_dst (N := 1) rfl ?_); (try (refine gate_guard (by rfl) ?_; dsimp only)); refine bxn (cs := #[.int .i64 a0_0, .int .u32 a0_1, .bool a0_2, .slice A0_3 l0_3.length c0_3]) (t := 42) ?_; intro gb331 hg w11 hbox hb; have BK331 := Aside0.mk (hbox); have GW331 := Aside0.mk ((by rw [hg]; exact (below_size HB.out) : w.heap.size ≤ gb331)); have GE331 := Aside0.mk ((by rw [hg]; exact (below_size HB.out) : w.heap.size ≤ gb331)); replace HB := Aside0.mk (below_step HB.out hb); clear hb hbox hg; obtain ⟨hcz12_0, hcz12_1, hcz12_2, hcz12_3, hfz12_0, hfz12_1, hfz12_2, hfz12_3⟩ := cf4 BK331.out) | ((with_reducible refine gate_callee (f := 49) rfl ?_); refine goesL_ (some 6) rfl rfl Try.func49 (by kernel_rfl) rfl #[.int .u32 a0_1] rfl (by (try simp only [List.map_toArray, List.map_cons, List.map_nil]); first | done | rfl | (simp only [List.length_drop, List.length_take]; rfl)) ?_; (with_reducible refine (stolonref01_Asked.calls a0_1 false _ A2.out).mono ?_); rintro e w' ⟨rfl, ⟨nd, rfl⟩⟩; refine ⟨_, rfl, ?_⟩))
     go_ret
     exact ⟨by first | rfl | (simp [errW_none, errW_some] <;> rfl) | (simp [*, errW_none, errW_some] <;> rfl), bl HB⟩
 · rw [if_neg c3] at H
   have c3b0 : decide (1 ≤ a0_0) = false := decide_eq_false c3
   clear c3
   obtain rfl := Option.some.inj H
   go_enter Try.func28, Try.ntmps28
   go_wp2_with (first | ((with_reducible refine gate_dst (N := 1) rfl ?_); (try (refine gate_guard (by rfl) ?_; dsimp only)); refine bxn (cs := #[.int .i64 a0_0, .int .u32 a0_1, .bool a0_2, .slice A0_3 l0_3.length c0_3]) (t := 42) ?_; intro gb331 hg w13 hbox hb; have BK331 := Aside0.mk (hbox); have GW331 := Aside0.mk ((by rw [hg]; exact (below_size HB.out) : w.heap.size ≤ gb331)); have GE331 := Aside0.mk ((by rw [hg]; exact (below_size HB.out) : w.heap.size ≤ gb331)); replace HB := Aside0.mk (below_step HB.out hb); clear hb hbox hg; obtain ⟨hcz14_0, hcz14_1, hcz14_2, hcz14_3, hfz14_0, hfz14_1, hfz14_2, hfz14_3⟩ := cf4 BK331.out) | ((with_reducible refine gate_callee (f := 49) rfl ?_); refine goesL_ (some 6) rfl rfl Try.func49 (by kernel_rfl) rfl #[.int .u32 a0_1] rfl (by (try simp only [List.map_toArray, List.map_cons, List.map_nil]); first | done | rfl | (simp only [List.length_drop, List.length_take]; rfl)) ?_; (with_reducible refine (stolonref01_Asked.calls a0_1 t332 _ A2.out).mono ?_); rintro e w' ⟨rfl, ⟨nd, rfl⟩⟩; refine ⟨_, rfl, ?_⟩))
   go_ret
   exact ⟨by first | rfl | (simp [errW_none, errW_some] <;> rfl) | (simp [*, errW_none, errW_some] <;> rfl), bl HB⟩
/-! ### stolonref07_Right: function 14 -/
def stolonref07_Right.l0 : Nat → Int → List (S42) → Option (Bool)
 | 0, _, _ => none
 | k + 1, x3, x335000 => if x3 < (x335000.length : Int) then (if 0 ≤ x3 then ((stolonref07_socket.f k ((rd_T42 x335000 x3).f0) ((rd_T42 x335000 x3).f1) ((rd_T42 x335000 x3).f2.f0) ((rd_T42 x335000 x3).f2.f1)).bind fun t336 => (if t336 = true then (if x3 > 0 then (if 0 ≤ (wrap64 (x3 - 1)) then (if (wrap64 (x3 - 1)) < (x335000.length : Int) then (if ((rd_T42 x335000 x3).f0) ≤ ((rd_T42 x335000 (wrap64 (x3 - 1))).f0) then (some false) else (stolonref07_Right.l0 k (wrap64 (x3 + 1)) x335000)) else (none)) else (none)) else (stolonref07_Right.l0 k (wrap64 (x3 + 1)) x335000)) else (some false))) else (none)) else (some (decide ((x335000.length : Int) ≤ 32)))
def stolonref07_Right.f (k : Nat) (l0_0 : List (S42)) : Option (Bool) := stolonref07_Right.l0 k 0 l0_0
theorem stolonref07_Right.mono_l : ∀ k, (∀ y0 y1, LeO (stolonref07_Right.l0 k y0 y1) (stolonref07_Right.l0 (k + 1) y0 y1))
 | 0 => fun _ _ r h => by simp [stolonref07_Right.l0] at h
 | k + 1 => by
  have ih0 := stolonref07_Right.mono_l k
  · intro y0 y1
    unfold stolonref07_Right.l0
    repeat' first
    | (with_reducible exact ih0 _ _)
    | (with_reducible exact stolonref07_socket.mono _ _ _ _ _)
    | (with_reducible exact LeO.refl _)
    | (with_reducible exact LeO.none _)
    | (with_reducible refine LeO.ite ?_ ?_)
    | (with_reducible refine LeO.bind ?_ (fun _ => ?_))
    | exact ih0 _ _
    | exact stolonref07_socket.mono _ _ _ _ _
    | exact LeO.none _
    | refine LeO.ite ?_ ?_
    | refine LeO.bind ?_ (fun _ => ?_)
theorem stolonref07_Right.mono : ∀ a0 k, LeO (stolonref07_Right.f k a0) (stolonref07_Right.f (k + 1) a0) := by
 intro a0 k
 have ih0 := stolonref07_Right.mono_l k
 unfold stolonref07_Right.f
 repeat' first
  | (with_reducible exact ih0 _ _)
  | (with_reducible exact stolonref07_socket.mono _ _ _ _ _)
  | (with_reducible exact LeO.refl _)
  | (with_reducible exact LeO.none _)
  | (with_reducible refine LeO.ite ?_ ?_)
  | (with_reducible refine LeO.bind ?_ (fun _ => ?_))
  | exact ih0 _ _
  | exact stolonref07_socket.mono _ _ _ _ _
  | exact LeO.none _
  | refine LeO.ite ?_ ?_
  | refine LeO.bind ?_ (fun _ => ?_)
theorem stolonref07_Right.calls (k : Nat) (A0_0 : Option Addr) (c0_0 : Nat) (l0_0 : List (S42)) (r : Bool) (w : World) (hr0_0 : Kd.C k42 w A0_0 l0_0.length l0_0) (hc0_0 : l0_0.length ≤ c0_0) (h : stolonref07_Right.f k l0_0 = some r) :
 Calls Try.prog 14 #[.agg #[.slice A0_0 l0_0.length c0_0]] w fun e w' => e = .returned (.bool r) ∧ Below w.heap.size w w' := by
 have hu40 := Try.underlying40
 have hu42 := Try.underlying42
 have HR0_0 := Aside0.mk hr0_0
 have HC0_0 := Aside0.mk hc0_0
 clear hr0_0 hc0_0
 have HB := Aside0.mk (Below.refl w.heap.size w)
 have H : (stolonref07_Right.l0 k 0 l0_0) = some r := h
 clear h
 have H' := Aside0.mk H
 clear H
 go_enter Try.func14, Try.ntmps14
 go_wp2_with (first | ((with_reducible refine gate_dst (N := 1) rfl ?_); refine bxn (cs := #[.slice A0_0 l0_0.length c0_0]) (t := 40) ?_; intro gb334 hg w2 hbox hb; have BK334 := Aside0.mk (hbox); have GW334 := Aside0.mk ((by rw [hg]; exact (below_size HB.out) : w.heap.size ≤ gb334)); have GE334 := Aside0.mk ((by rw [hg]; exact (below_size HB.out) : w.heap.size ≤ gb334)); replace HB := Aside0.mk (below_step HB.out hb); clear hb hbox hg))
 repeat (go_quiet (first | ((with_reducible refine gate_dst (N := 1) rfl ?_); refine bxn (cs := #[.slice A0_0 l0_0.length c0_0]) (t := 40) ?_; intro gb334 hg w2 hbox hb; have BK334 := Aside0.mk (hbox); have GW334 := Aside0.mk ((by rw [hg]; exact (below_size HB.out) : w.heap.size ≤ gb334)); have GE334 := Aside0.mk ((by rw [hg]; exact (below_size HB.out) : w.heap.size ≤ gb334)); replace HB := Aside0.mk (below_step HB.out hb); clear hb hbox hg)); try go_wp2_with (first | ((with_reducible refine gate_dst (N := 1) rfl ?_); refine bxn (cs := #[.slice A0_0 l0_0.length c0_0]) (t := 40) ?_; intro gb334 hg w2 hbox hb; have BK334 := Aside0.mk (hbox); have GW334 := Aside0.mk ((by rw [hg]; exact (below_size HB.out) : w.heap.size ≤ gb334)); have GE334 := Aside0.mk ((by rw [hg]; exact (below_size HB.out) : w.heap.size ≤ gb334)); replace HB := Aside0.mk (below_step HB.out hb); clear hb hbox hg)))
 go_loopg [3] k (fun kq v3 w' => ∃ (x3_1 : Int), v3 = .int .i64 x3_1 ∧ Aside0 (stolonref07_Right.l0 kq x3_1 l0_0 = some r) ∧ Aside0 (kq ≤ k) ∧ Aside0 (w'.heap[gb334]? = some (.cells #[(.slice A0_0 l0_0.length c0_0)] 40 (0, 0))) ∧ Aside0 (Below w.heap.size w w'))
 case atStart => exact ⟨(0), (fr), H', ⟨Nat.le_refl _⟩, ⟨BK334.out⟩, ⟨HB.out⟩⟩
 case round =>
  clear H'
  try clear c1
  try clear p2
  obtain ⟨x3_1, rfl, HA, HK1, BK334, HB⟩ := hrel
  cases gk with
  | zero => exact absurd HA.out (by simp [stolonref07_Right.l0])
  | succ k1 =>
   have H := HA.out
   clear HA
   simp only [stolonref07_Right.l0] at H
   by_cases c3 : x3_1 < (l0_0.length : Int)
   · rw [if_pos c3] at H
     have c3b0 : decide (x3_1 < (l0_0.length : Int)) = true := decide_eq_true c3
     clear c3
     by_cases c4 : 0 ≤ x3_1
     case neg => rw [if_neg c4] at H; exact absurd H (by simp)
     rw [if_pos c4] at H
     have c4b0 : decide (0 ≤ x3_1) = true := decide_eq_true c4
     clear c4
     replace H := Option.bind_eq_some_iff.mp H
     obtain ⟨t336, A50, H⟩ := H
     replace H : (if t336 = true then (if x3_1 > 0 then (if 0 ≤ (wrap64 (x3_1 - 1)) then (if (wrap64 (x3_1 - 1)) < (l0_0.length : Int) then (if ((rd_T42 l0_0 x3_1).f0) ≤ ((rd_T42 l0_0 (wrap64 (x3_1 - 1))).f0) then (some false) else (stolonref07_Right.l0 k1 (wrap64 (x3_1 + 1)) l0_0)) else (none)) else (none)) else (stolonref07_Right.l0 k1 (wrap64 (x3_1 + 1)) l0_0)) else (some false)) = some r := H
     have A5 := Aside0.mk A50
     clear A50
     by_cases c6 : t336 = true
     · subst c6
       replace H : (if x3_1 > 0 then (if 0 ≤ (wrap64 (x3_1 - 1)) then (if (wrap64 (x3_1 - 1)) < (l0_0.length : Int) then (if ((rd_T42 l0_0 x3_1).f0) ≤ ((rd_T42 l0_0 (wrap64 (x3_1 - 1))).f0) then (some false) else (stolonref07_Right.l0 k1 (wrap64 (x3_1 + 1)) l0_0)) else (none)) else (none)) else (stolonref07_Right.l0 k1 (wrap64 (x3_1 + 1)) l0_0)) = some r := by rw [if_pos rfl] at H; exact H
       by_cases c7 : x3_1 > 0
       · rw [if_pos c7] at H
         have c7b0 : decide (0 < x3_1) = true := decide_eq_true c7
         clear c7
         obtain ⟨ji8, hji8⟩ : ∃ j_ : Int, (wrap64 (x3_1 - 1)) = j_ := ⟨_, rfl⟩
         replace H : (if 0 ≤ (ji8) then (if (ji8) < (l0_0.length : Int) then (if ((rd_T42 l0_0 x3_1).f0) ≤ ((rd_T42 l0_0 (ji8)).f0) then (some false) else (stolonref07_Right.l0 k1 (wrap64 (x3_1 + 1)) l0_0)) else (none)) else (none)) = some r := by first | (rw [hji8] at H; exact H) | (simp only [hji8] at H ⊢; exact H)
         (try rw [hji8] at A5)
         have hji8w : (IntKind.i64.wrap (x3_1 - 1)) = ji8 := (i64_w _).trans hji8
         by_cases c9 : 0 ≤ (ji8)
         case neg => rw [if_neg c9] at H; exact absurd H (by simp)
         rw [if_pos c9] at H
         have c9b0 : decide (0 ≤ (ji8)) = true := decide_eq_true c9
         clear c9
         by_cases c10 : (ji8) < (l0_0.length : Int)
         case neg => rw [if_neg c10] at H; exact absurd H (by simp)
         rw [if_pos c10] at H
         have c10b0 : decide ((ji8) < (l0_0.length : Int)) = true := decide_eq_true c10
         clear c10
         by_cases c11 : ((rd_T42 l0_0 x3_1).f0) ≤ ((rd_T42 l0_0 (ji8)).f0)
         · rw [if_pos c11] at H
           have c11b0 : decide (((rd_T42 l0_0 x3_1).f0) ≤ ((rd_T42 l0_0 (ji8)).f0)) = true := decide_eq_true c11
           clear c11
           obtain rfl := Option.some.inj H
           obtain ⟨hcz12_0, hfz12_0⟩ := cf1 BK334.out
           have p335 : 0 ≤ (x3_1 : Int) := od
           have q335 : x3_1 < (l0_0.length : Int) := od
           obtain ⟨ad335, A335_3, c335_3, e335, hx335_0, hx335_1, hx335_2, hx335_3, hl335_3, hi335_3⟩ := at_T42 HR0_0.out x3_1 p335 q335
           cases e335
           replace hx335_0 := hcz HB hx335_0
           replace hx335_1 := hcz HB hx335_1
           replace hx335_2 := hcz HB hx335_2
           replace hx335_3 := hcz HB hx335_3
           have HR335_3 := Aside0.mk hi335_3
           have HC335_3 := Aside0.mk hl335_3
           clear hi335_3 hl335_3
           replace p335 := eq_true p335
           replace q335 := eq_true q335
           go_wp2_with (first | (go_at_call 28; (with_reducible refine (stolonref07_socket.calls k1 ((rd_T42 l0_0 x3_1).f0) ((rd_T42 l0_0 x3_1).f1) ((rd_T42 l0_0 x3_1).f2.f0) _ _ ((rd_T42 l0_0 x3_1).f2.f1) true _ ?side1 ?side2 A5.out).mono ?_); (case side1 => exact ca (Kd.C_below HR335_3.out HB.out)); (case side2 => exact HC335_3.out); rintro e w13 ⟨rfl, hb⟩; have n0_ := Aside0.mk (blk_below BK334.out hb); have n1_ := Aside0.mk (below_step HB.out hb); clear BK334; clear HB; have BK334 := n0_; have HB := n1_; clear n0_ n1_; (try clear hb); (try clear hb2); (try clear hk); (try clear hi); obtain ⟨hcz14_0, hfz14_0⟩ := cf1 BK334.out; have p337 : 0 ≤ (x3_1 : Int) := od; have q337 : x3_1 < (l0_0.length : Int) := od; obtain ⟨ad337, A337_3, c337_3, e337, hx337_0, hx337_1, hx337_2, hx337_3, hl337_3, hi337_3⟩ := at_T42 HR0_0.out x3_1 p337 q337; obtain rfl : ad335 = ad337 := (by injection e337); replace hx337_0 := hcz HB hx337_0; replace hx337_1 := hcz HB hx337_1; replace hx337_2 := hcz HB hx337_2; replace hx337_3 := hcz HB hx337_3; have HR337_3 := Aside0.mk hi337_3; have HC337_3 := Aside0.mk hl337_3; clear hi337_3 hl337_3; replace p337 := eq_true p337; replace q337 := eq_true q337; have p338 : 0 ≤ ((ji8) : Int) := od; have q338 : (ji8) < (l0_0.length : Int) := od; obtain ⟨ad338, A338_3, c338_3, e338, hx338_0, hx338_1, hx338_2, hx338_3, hl338_3, hi338_3⟩ := at_T42 HR0_0.out (ji8) p338 q338; obtain rfl : ad335 = ad338 := (by injection e338); replace hx338_0 := hcz HB hx338_0; replace hx338_1 := hcz HB hx338_1; replace hx338_2 := hcz HB hx338_2; replace hx338_3 := hcz HB hx338_3; have HR338_3 := Aside0.mk hi338_3; have HC338_3 := Aside0.mk hl338_3; clear hi338_3 hl338_3; replace p338 := eq_true p338; replace q338 := eq_true q338))
           repeat (go_quiet (first | (go_at_call 28; (with_reducible refine (stolonref07_socket.calls k1 ((rd_T42 l0_0 x3_1).f0) ((rd_T42 l0_0 x3_1).f1) ((rd_T42 l0_0 x3_1).f2.f0) _ _ ((rd_T42 l0_0 x3_1).f2.f1) true _ ?side1 ?side2 A5.out).mono ?_); (case side1 => exact ca (Kd.C_below HR335_3.out HB.out)); (case side2 => exact HC335_3.out); rintro e w13 ⟨rfl, hb⟩; have n0_ := Aside0.mk (blk_below BK334.out hb); have n1_ := Aside0.mk (below_step HB.out hb); clear BK334; clear HB; have BK334 := n0_; have HB := n1_; clear n0_ n1_; (try clear hb); (try clear hb2); (try clear hk); (try clear hi); obtain ⟨hcz14_0, hfz14_0⟩ := cf1 BK334.out; have p337 : 0 ≤ (x3_1 : Int) := od; have q337 : x3_1 < (l0_0.length : Int) := od; obtain ⟨ad337, A337_3, c337_3, e337, hx337_0, hx337_1, hx337_2, hx337_3, hl337_3, hi337_3⟩ := at_T42 HR0_0.out x3_1 p337 q337; obtain rfl : ad335 = ad337 := (by injection e337); replace hx337_0 := hcz HB hx337_0; replace hx337_1 := hcz HB hx337_1; replace hx337_2 := hcz HB hx337_2; replace hx337_3 := hcz HB hx337_3; have HR337_3 := Aside0.mk hi337_3; have HC337_3 := Aside0.mk hl337_3; clear hi337_3 hl337_3; replace p337 := eq_true p337; replace q337 := eq_true q337; have p338 : 0 ≤ ((ji8) : Int) := od; have q338 : (ji8) < (l0_0.length : Int) := od; obtain ⟨ad338, A338_3, c338_3, e338, hx338_0, hx338_1, hx338_2, hx338_3, hl338_3, hi338_3⟩ := at_T42 HR0_0.out (ji8) p338 q338; obtain rfl : ad335 = ad338 := (by injection e338); replace hx338_0 := hcz HB hx338_0; replace hx338_1 := hcz HB hx338_1; replace hx338_2 := hcz HB hx338_2; replace hx338_3 := hcz HB hx338_3; have HR338_3 := Aside0.mk hi338_3; have HC338_3 := Aside0.mk hl338_3; clear hi338_3 hl338_3; replace p338 := eq_true p338; replace q338 := eq_true q338)); try go_wp2_with (first | (go_at_call 28; (with_reducible refine (stolonref07_socket.calls k1 ((rd_T42 l0_0 x3_1).f0) ((rd_T42 l0_0 x3_1).f1) ((rd_T42 l0_0 x3_1).f2.f0) _ _ ((rd_T42 l0_0 x3_1).f2.f1) true _ ?side1 ?side2 A5.out).mono ?_); (case side1 => exact ca (Kd.C_below HR335_3.out HB.out)); (case side2 => exact HC335_3.out); rintro e w13 ⟨rfl, hb⟩; have n0_ := Aside0.mk (blk_below BK334.out hb); have n1_ := Aside0.mk (below_step HB.out hb); clear BK334; clear HB; have BK334 := n0_; have HB := n1_; clear n0_ n1_; (try clear hb); (try clear hb2); (try clear hk); (try clear hi); obtain ⟨hcz14_0, hfz14_0⟩ := cf1 BK334.out; have p337 : 0 ≤ (x3_1 : Int) := od; have q337 : x3_1 < (l0_0.length : Int) := od; obtain ⟨ad337, A337_3, c337_3, e337, hx337_0, hx337_1, hx337_2, hx337_3, hl337_3, hi337_3⟩ := at_T42 HR0_0.out x3_1 p337 q337; obtain rfl : ad335 = ad337 := (by injection e337); replace hx337_0 := hcz HB hx337_0; replace hx337_1 := hcz HB hx337_1; replace hx337_2 := hcz HB hx337_2; replace hx337_3 := hcz HB hx337_3; have HR337_3 := Aside0.mk hi337_3; have HC337_3 := Aside0.mk hl337_3; clear hi337_3 hl337_3; replace p337 := eq_true p337; replace q337 := eq_true q337; have p338 : 0 ≤ ((ji8) : Int) := od; have q338 : (ji8) < (l0_0.length : Int) := od; obtain ⟨ad338, A338_3, c338_3, e338, hx338_0, hx338_1, hx338_2, hx338_3, hl338_3, hi338_3⟩ := at_T42 HR0_0.out (ji8) p338 q338; obtain rfl : ad335 = ad338 := (by injection e338); replace hx338_0 := hcz HB hx338_0; replace hx338_1 := hcz HB hx338_1; replace hx338_2 := hcz HB hx338_2; replace hx338_3 := hcz HB hx338_3; have HR338_3 := Aside0.mk hi338_3; have HC338_3 := Aside0.mk hl338_3; clear hi338_3 hl338_3; replace p338 := eq_true p338; replace q338 := eq_true q338)))
           go_ret
           exact ⟨by first | rfl | (simp [errW_none, errW_some] <;> rfl) | (simp only [← hji8]; first | rfl | (simp [errW_none, errW_some] <;> rfl)) | (simp [*, errW_none, errW_some] <;> rfl), bl HB⟩
         · rw [if_neg c11] at H
           have c11b0 : decide (((rd_T42 l0_0 x3_1).f0) ≤ ((rd_T42 l0_0 (ji8)).f0)) = false := decide_eq_false c11
           clear c11
           have H' := Aside0.mk H
           clear H
           obtain ⟨hcz15_0, hfz15_0⟩ := cf1 BK334.out
           have p335 : 0 ≤ (x3_1 : Int) := od
           have q335 : x3_1 < (l0_0.length : Int) := od
           obtain ⟨ad335, A335_3, c335_3, e335, hx335_0, hx335_1, hx335_2, hx335_3, hl335_3, hi335_3⟩ := at_T42 HR0_0.out x3_1 p335 q335
           cases e335
           replace hx335_0 := hcz HB hx335_0
           replace hx335_1 := hcz HB hx335_1
           replace hx335_2 := hcz HB hx335_2
           replace hx335_3 := hcz HB hx335_3
           have HR335_3 := Aside0.mk hi335_3
           have HC335_3 := Aside0.mk hl335_3
           clear hi335_3 hl335_3
           replace p335 := eq_true p335
           replace q335 := eq_true q335
           go_wp2_with (first | (go_at_call 28; (with_reducible refine (stolonref07_socket.calls k1 ((rd_T42 l0_0 x3_1).f0) ((rd_T42 l0_0 x3_1).f1) ((rd_T42 l0_0 x3_1).f2.f0) _ _ ((rd_T42 l0_0 x3_1).f2.f1) true _ ?side1 ?side2 A5.out).mono ?_); (case side1 => exact ca (Kd.C_below HR335_3.out HB.out)); (case side2 => exact HC335_3.out); rintro e w16 ⟨rfl, hb⟩; have n0_ := Aside0.mk (blk_below BK334.out hb); have n1_ := Aside0.mk (below_step HB.out hb); clear BK334; clear HB; have BK334 := n0_; have HB := n1_; clear n0_ n1_; (try clear hb); (try clear hb2); (try clear hk); (try clear hi); obtain ⟨hcz17_0, hfz17_0⟩ := cf1 BK334.out; have p337 : 0 ≤ (x3_1 : Int) := od; have q337 : x3_1 < (l0_0.length : Int) := od; obtain ⟨ad337, A337_3, c337_3, e337, hx337_0, hx337_1, hx337_2, hx337_3, hl337_3, hi337_3⟩ := at_T42 HR0_0.out x3_1 p337 q337; obtain rfl : ad335 = ad337 := (by injection e337); replace hx337_0 := hcz HB hx337_0; replace hx337_1 := hcz HB hx337_1; replace hx337_2 := hcz HB hx337_2; replace hx337_3 := hcz HB hx337_3; have HR337_3 := Aside0.mk hi337_3; have HC337_3 := Aside0.mk hl337_3; clear hi337_3 hl337_3; replace p337 := eq_true p337; replace q337 := eq_true q337; have p338 : 0 ≤ ((ji8) : Int) := od; have q338 : (ji8) < (l0_0.length : Int) := od; obtain ⟨ad338, A338_3, c338_3, e338, hx338_0, hx338_1, hx338_2, hx338_3, hl338_3, hi338_3⟩ := at_T42 HR0_0.out (ji8) p338 q338; obtain rfl : ad335 = ad338 := (by injection e338); replace hx338_0 := hcz HB hx338_0; replace hx338_1 := hcz HB hx338_1; replace hx338_2 := hcz HB hx338_2; replace hx338_3 := hcz HB hx338_3; have HR338_3 := Aside0.mk hi338_3; have HC338_3 := Aside0.mk hl338_3; clear hi338_3 hl338_3; replace p338 := eq_true p338; replace q338 := eq_true q338))
           repeat (go_quiet (first | (go_at_call 28; (with_reducible refine (stolonref07_socket.calls k1 ((rd_T42 l0_0 x3_1).f0) ((rd_T42 l0_0 x3_1).f1) ((rd_T42 l0_0 x3_1).f2.f0) _ _ ((rd_T42 l0_0 x3_1).f2.f1) true _ ?side1 ?side2 A5.out).mono ?_); (case side1 => exact ca (Kd.C_below HR335_3.out HB.out)); (case side2 => exact HC335_3.out); rintro e w16 ⟨rfl, hb⟩; have n0_ := Aside0.mk (blk_below BK334.out hb); have n1_ := Aside0.mk (below_step HB.out hb); clear BK334; clear HB; have BK334 := n0_; have HB := n1_; clear n0_ n1_; (try clear hb); (try clear hb2); (try clear hk); (try clear hi); obtain ⟨hcz17_0, hfz17_0⟩ := cf1 BK334.out; have p337 : 0 ≤ (x3_1 : Int) := od; have q337 : x3_1 < (l0_0.length : Int) := od; obtain ⟨ad337, A337_3, c337_3, e337, hx337_0, hx337_1, hx337_2, hx337_3, hl337_3, hi337_3⟩ := at_T42 HR0_0.out x3_1 p337 q337; obtain rfl : ad335 = ad337 := (by injection e337); replace hx337_0 := hcz HB hx337_0; replace hx337_1 := hcz HB hx337_1; replace hx337_2 := hcz HB hx337_2; replace hx337_3 := hcz HB hx337_3; have HR337_3 := Aside0.mk hi337_3; have HC337_3 := Aside0.mk hl337_3; clear hi337_3 hl337_3; replace p337 := eq_true p337; replace q337 := eq_true q337; have p338 : 0 ≤ ((ji8) : Int) := od; have q338 : (ji8) < (l0_0.length : Int) := od; obtain ⟨ad338, A338_3, c338_3, e338, hx338_0, hx338_1, hx338_2, hx338_3, hl338_3, hi338_3⟩ := at_T42 HR0_0.out (ji8) p338 q338; obtain rfl : ad335 = ad338 := (by injection e338); replace hx338_0 := hcz HB hx338_0; replace hx338_1 := hcz HB hx338_1; replace hx338_2 := hcz HB hx338_2; replace hx338_3 := hcz HB hx338_3; have HR338_3 := Aside0.mk hi338_3; have HC338_3 := Aside0.mk hl338_3; clear hi338_3 hl338_3; replace p338 := eq_true p338; replace q338 := eq_true q338)); try go_wp2_with (first | (go_at_call 28; (with_reducible refine (stolonref07_socket.calls k1 ((rd_T42 l0_0 x3_1).f0) ((rd_T42 l0_0 x3_1).f1) ((rd_T42 l0_0 x3_1).f2.f0) _ _ ((rd_T42 l0_0 x3_1).f2.f1) true _ ?side1 ?side2 A5.out).mono ?_); (case side1 => exact ca (Kd.C_below HR335_3.out HB.out)); (case side2 => exact HC335_3.out); rintro e w16 ⟨rfl, hb⟩; have n0_ := Aside0.mk (blk_below BK334.out hb); have n1_ := Aside0.mk (below_step HB.out hb); clear BK334; clear HB; have BK334 := n0_; have HB := n1_; clear n0_ n1_; (try clear hb); (try clear hb2); (try clear hk); (try clear hi); obtain ⟨hcz17_0, hfz17_0⟩ := cf1 BK334.out; have p337 : 0 ≤ (x3_1 : Int) := od; have q337 : x3_1 < (l0_0.length : Int) := od; obtain ⟨ad337, A337_3, c337_3, e337, hx337_0, hx337_1, hx337_2, hx337_3, hl337_3, hi337_3⟩ := at_T42 HR0_0.out x3_1 p337 q337; obtain rfl : ad335 = ad337 := (by injection e337); replace hx337_0 := hcz HB hx337_0; replace hx337_1 := hcz HB hx337_1; replace hx337_2 := hcz HB hx337_2; replace hx337_3 := hcz HB hx337_3; have HR337_3 := Aside0.mk hi337_3; have HC337_3 := Aside0.mk hl337_3; clear hi337_3 hl337_3; replace p337 := eq_true p337; replace q337 := eq_true q337; have p338 : 0 ≤ ((ji8) : Int) := od; have q338 : (ji8) < (l0_0.length : Int) := od; obtain ⟨ad338, A338_3, c338_3, e338, hx338_0, hx338_1, hx338_2, hx338_3, hl338_3, hi338_3⟩ := at_T42 HR0_0.out (ji8) p338 q338; obtain rfl : ad335 = ad338 := (by injection e338); replace hx338_0 := hcz HB hx338_0; replace hx338_1 := hcz HB hx338_1; replace hx338_2 := hcz HB hx338_2; replace hx338_3 := hcz HB hx338_3; have HR338_3 := Aside0.mk hi338_3; have HC338_3 := Aside0.mk hl338_3; clear hi338_3 hl338_3; replace p338 := eq_true p338; replace q338 := eq_true q338)))
           go_roundg k1
           case measure => have := HK1.out; omega
           case rel => exact ⟨(wrap64 (x3_1 + 1)), (fr), H', ⟨by have := HK1.out; omega⟩, ⟨ba BK334.out⟩, ⟨bl HB⟩⟩
       · rw [if_neg c7] at H
         have c7b0 : decide (0 < x3_1) = false := decide_eq_false c7
         clear c7
         have H' := Aside0.mk H
         clear H
         obtain ⟨hcz18_0, hfz18_0⟩ := cf1 BK334.out
         have p335 : 0 ≤ (x3_1 : Int) := od
         have q335 : x3_1 < (l0_0.length : Int) := od
         obtain ⟨ad335, A335_3, c335_3, e335, hx335_0, hx335_1, hx335_2, hx335_3, hl335_3, hi335_3⟩ := at_T42 HR0_0.out x3_1 p335 q335
         cases e335
         replace hx335_0 := hcz HB hx335_0
         replace hx335_1 := hcz HB hx335_1
         replace hx335_2 := hcz HB hx335_2
         replace hx335_3 := hcz HB hx335_3
         have HR335_3 := Aside0.mk hi335_3
         have HC335_3 := Aside0.mk hl335_3
         clear hi335_3 hl335_3
         replace p335 := eq_true p335
         replace q335 := eq_true q335
         go_wp2_with (first | (go_at_call 28; (with_reducible refine (stolonref07_socket.calls k1 ((rd_T42 l0_0 x3_1).f0) ((rd_T42 l0_0 x3_1).f1) ((rd_T42 l0_0 x3_1).f2.f0) _ _ ((rd_T42 l0_0 x3_1).f2.f1) true _ ?side1 ?side2 A5.out).mono ?_); (case side1 => exact ca (Kd.C_below HR335_3.out HB.out)); (case side2 => exact HC335_3.out); rintro e w19 ⟨rfl, hb⟩; have n0_ := Aside0.mk (blk_below BK334.out hb); have n1_ := Aside0.mk (below_step HB.out hb); clear BK334; clear HB; have BK334 := n0_; have HB := n1_; clear n0_ n1_; (try clear hb); (try clear hb2); (try clear hk); (try clear hi)))
         repeat (go_quiet (first | (go_at_call 28; (with_reducible refine (stolonref07_socket.calls k1 ((rd_T42 l0_0 x3_1).f0) ((rd_T42 l0_0 x3_1).f1) ((rd_T42 l0_0 x3_1).f2.f0) _ _ ((rd_T42 l0_0 x3_1).f2.f1) true _ ?side1 ?side2 A5.out).mono ?_); (case side1 => exact ca (Kd.C_below HR335_3.out HB.out)); (case side2 => exact HC335_3.out); rintro e w19 ⟨rfl, hb⟩; have n0_ := Aside0.mk (blk_below BK334.out hb); have n1_ := Aside0.mk (below_step HB.out hb); clear BK334; clear HB; have BK334 := n0_; have HB := n1_; clear n0_ n1_; (try clear hb); (try clear hb2); (try clear hk); (try clear hi))); try go_wp2_with (first | (go_at_call 28; (with_reducible refine (stolonref07_socket.calls k1 ((rd_T42 l0_0 x3_1).f0) ((rd_T42 l0_0 x3_1).f1) ((rd_T42 l0_0 x3_1).f2.f0) _ _ ((rd_T42 l0_0 x3_1).f2.f1) true _ ?side1 ?side2 A5.out).mono ?_); (case side1 => exact ca (Kd.C_below HR335_3.out HB.out)); (case side2 => exact HC335_3.out); rintro e w19 ⟨rfl, hb⟩; have n0_ := Aside0.mk (blk_below BK334.out hb); have n1_ := Aside0.mk (below_step HB.out hb); clear BK334; clear HB; have BK334 := n0_; have HB := n1_; clear n0_ n1_; (try clear hb); (try clear hb2); (try clear hk); (try clear hi))))
         go_roundg k1
         case measure => have := HK1.out; omega
         case rel => exact ⟨(wrap64 (x3_1 + 1)), (fr), H', ⟨by have := HK1.out; omega⟩, ⟨ba BK334.out⟩, ⟨bl HB⟩⟩
     · replace c6 := Bool.eq_false_iff.mpr c6
       subst c6
       replace H : (some false) = some r := by rw [if_neg (show ¬ (false = true) by decide)] at H; exact H
       obtain rfl := Option.some.inj H
       obtain ⟨hcz20_0, hfz20_0⟩ := cf1 BK334.out
       have p335 : 0 ≤ (x3_1 : Int) := od
       have q335 : x3_1 < (l0_0.length : Int) := od
       obtain ⟨ad335, A335_3, c335_3, e335, hx335_0, hx335_1, hx335_2, hx335_3, hl335_3, hi335_3⟩ := at_T42 HR0_0.out x3_1 p335 q335
       cases e335
       replace hx335_0 := hcz HB hx335_0
       replace hx335_1 := hcz HB hx335_1
       replace hx335_2 := hcz HB hx335_2
       replace hx335_3 := hcz HB hx335_3
       have HR335_3 := Aside0.mk hi335_3
       have HC335_3 := Aside0.mk hl335_3
       clear hi335_3 hl335_3
       replace p335 := eq_true p335
       replace q335 := eq_true q335
       go_wp2_with (first | (go_at_call 28; (with_reducible refine (stolonref07_socket.calls k1 ((rd_T42 l0_0 x3_1).f0) ((rd_T42 l0_0 x3_1).f1) ((rd_T42 l0_0 x3_1).f2.f0) _ _ ((rd_T42 l0_0 x3_1).f2.f1) false _ ?side1 ?side2 A5.out).mono ?_); (case side1 => exact ca (Kd.C_below HR335_3.out HB.out)); (case side2 => exact HC335_3.out); rintro e w21 ⟨rfl, hb⟩; have n0_ := Aside0.mk (blk_below BK334.out hb); have n1_ := Aside0.mk (below_step HB.out hb); clear BK334; clear HB; have BK334 := n0_; have HB := n1_; clear n0_ n1_; (try clear hb); (try clear hb2); (try clear hk); (try clear hi)))
       repeat (go_quiet (first | (go_at_call 28; (with_reducible refine (stolonref07_socket.calls k1 ((rd_T42 l0_0 x3_1).f0) ((rd_T42 l0_0 x3_1).f1) ((rd_T42 l0_0 x3_1).f2.f0) _ _ ((rd_T42 l0_0 x3_1).f2.f1) false _ ?side1 ?side2 A5.out).mono ?_); (case side1 => exact ca (Kd.C_below HR335_3.out HB.out)); (case side2 => exact HC335_3.out); rintro e w21 ⟨rfl, hb⟩; have n0_ := Aside0.mk (blk_below BK334.out hb); have n1_ := Aside0.mk (below_step HB.out hb); clear BK334; clear HB; have BK334 := n0_; have HB := n1_; clear n0_ n1_; (try clear hb); (try clear hb2); (try clear hk); (try clear hi))); try go_wp2_with (first | (go_at_call 28; (with_reducible refine (stolonref07_socket.calls k1 ((rd_T42 l0_0 x3_1).f0) ((rd_T42 l0_0 x3_1).f1) ((rd_T42 l0_0 x3_1).f2.f0) _ _ ((rd_T42 l0_0 x3_1).f2.f1) false _ ?side1 ?side2 A5.out).mono ?_); (case side1 => exact ca (Kd.C_below HR335_3.out HB.out)); (case side2 => exact HC335_3.out); rintro e w21 ⟨rfl, hb⟩; have n0_ := Aside0.mk (blk_below BK334.out hb); have n1_ := Aside0.mk (below_step HB.out hb); clear BK334; clear HB; have BK334 := n0_; have HB := n1_; clear n0_ n1_; (try clear hb); (try clear hb2); (try clear hk); (try clear hi))))
       go_ret
       exact ⟨by first | rfl | (simp [errW_none, errW_some] <;> rfl) | (simp [*, errW_none, errW_some] <;> rfl), bl HB⟩
   · rw [if_neg c3] at H
     have c3b0 : decide (x3_1 < (l0_0.length : Int)) = false := decide_eq_false c3
     clear c3
     obtain rfl := Option.some.inj H
     obtain ⟨hcz22_0, hfz22_0⟩ := cf1 BK334.out
     go_wp2
     repeat (go_quiet (fail); try go_wp2)
     go_ret
     exact ⟨by first | rfl | (simp [errW_none, errW_some] <;> rfl) | (simp [*, errW_none, errW_some] <;> rfl), bl HB⟩
end Go.Proofs.Ytjncmiclpaodhaa.PHo
-- written by a program of this session (hprint.py), over the kit's printer
namespace Go.Proofs.Ytjncmiclpaodhaa.PHo
open Go.RowKit Go.Proofs.YtjncmiclpaodhaaW.PrintWords Go.Proofs.YtjncmiclpaodhaaW.PrintLast Go.Proofs.YtjncmiclpaodhaaW.PrintMore
attribute [local go_sem] max2_int min2_int max_two min_two max_three min_three max_four min_four   -- for this text's walks alone
set_option linter.unusedVariables false
set_option linter.unusedSimpArgs false
end Go.Proofs.Ytjncmiclpaodhaa.PHo
/-
  A right host, in plain words: what it wants of a group, which groups it has.
-/
namespace Go.Proofs.Ytjncmiclpaodhaa
open Go.RowKit Go.Proofs.YtjncmiclpaodhaaW.PrintWords Go.Proofs.Ytjncmiclpaodhaa.PHo
set_option linter.unusedVariables false
set_option linter.unusedSimpArgs false
theorem rd42 (l : List S42) (j : Nat) (h : j < l.length) : rd_T42 l (j : Int) = l[j] := by
  unfold rd_T42
  rw [Int.toNat_natCast, List.getD_eq_getElem?_getD, List.getElem?_eq_getElem h]
  rfl
theorem rd36 (l : List S36) (j : Nat) (h : j < l.length) : rd_T36 l (j : Int) = l[j] := by
  unfold rd_T36
  rw [Int.toNat_natCast, List.getD_eq_getElem?_getD, List.getElem?_eq_getElem h]
  rfl
theorem few_loop (l : List S42) (hm : l.length ≤ 600) (hl : ∀ s ∈ l, s.f2.f1.length ≤ 140737488351232) : ∀ n k (j : Nat) (x : Int), l.length ≤ j + n → n < k → 0 ≤ x → x ≤ 281474976710656 → ∃ b, stolonref07_Few.l0 k x (j : Int) l = some b := by
  intro n
  induction n with
  | zero =>
    intro k j x hj hk h0 h1
    obtain ⟨k, rfl⟩ : ∃ m, k = m + 1 := ⟨k - 1, by omega⟩
    exact ⟨_, by rw [stolonref07_Few.l0, if_neg (by omega)]⟩
  | succ n ih =>
    intro k j x hj hk h0 h1
    obtain ⟨k, rfl⟩ : ∃ m, k = m + 1 := ⟨k - 1, by omega⟩
    by_cases hlt : j < l.length
    case neg => exact ⟨_, by rw [stolonref07_Few.l0, if_neg (by omega)]⟩
    by_cases hx : x ≤ 600
    case neg => exact ⟨_, by rw [stolonref07_Few.l0, if_pos (by omega), if_neg hx]⟩
    have hs := hl _ (List.getElem_mem hlt)
    have e2 : wrap64 ((j : Int) + 1) = ((j + 1 : Nat) : Int) := step64 j (by omega)
    have e3 : wrap64 (x + (l[j].f2.f1.length : Int)) = x + (l[j].f2.f1.length : Int) := w64 (by omega) (by omega)
    obtain ⟨b, hb⟩ := ih k (j + 1) (x + (l[j].f2.f1.length : Int)) (by omega) (by omega) (by omega) (by omega)
    exact ⟨b, by rw [stolonref07_Few.l0, if_pos (by omega), if_pos hx, if_pos (by omega), rd42 l j hlt, e2, e3, hb]⟩
theorem few_some (l : List S42) (hm : l.length ≤ 140737488351232) (hl : ∀ s ∈ l, s.f2.f1.length ≤ 140737488351232) (k : Nat) (hk : 1000 ≤ k) : ∃ b, stolonref07_Few.f k l = some b ∧ (b = true → l.length ≤ 600) := by
  unfold stolonref07_Few.f
  by_cases h : l.length ≤ 600
  · obtain ⟨b, hb⟩ := few_loop l h hl l.length k 0 (l.length : Int) (by omega) (by omega) (by omega) (by omega)
    exact ⟨b, hb, fun _ => h⟩
  · obtain ⟨k, rfl⟩ : ∃ m, k = m + 1 := ⟨k - 1, by omega⟩
    refine ⟨false, ?_, fun h => by cases h⟩
    rw [stolonref07_Few.l0, if_pos (by omega), if_neg (by omega), decide_eq_false (by omega)]
/-- A right socket's filter. -/
def FOk (s : S42) : Prop := Rise s.f2.f1 ∧ s.f2.f1.length ≤ 16
/-- What a host wants of a group. -/
def fil (l : List S42) (g : Int) : List S26 := (l.filter fun s => decide (s.f1 = g)).map fun s => s.f2
def wnt (l : List S42) (g : Int) : Bool × List Int := finS ((fil l g).foldl stepS ([], [], false))
theorem fil_ok {l : List S42} (hl : l.length ≤ 32) (h : ∀ s ∈ l, FOk s) (g : Int) : (fil l g).length ≤ 32 ∧ ∀ f ∈ fil l g, Rise f.f1 ∧ f.f1.length ≤ 200 := by
  refine ⟨by unfold fil; rw [List.length_map]; exact Nat.le_trans (List.length_filter_le _ _) hl, fun f hf => ?_⟩
  obtain ⟨s, hs, rfl⟩ := List.mem_map.1 hf
  have := h s (List.mem_filter.1 hs).1
  exact ⟨this.1, by have := this.2; omega⟩
theorem wnt_ok {l : List S42} (hl : l.length ≤ 32) (h : ∀ s ∈ l, FOk s) (g : Int) : Rise (wnt l g).2 ∧ (wnt l g).2.length ≤ 12800 := by
  obtain ⟨h1, h2⟩ := fil_ok hl h g
  obtain ⟨r1, r2, r3, r4, _⟩ := fold_keeps (fil l g) ([], [], false) h2 List.Pairwise.nil List.Pairwise.nil
  refine ⟨fin_rise r1 r2, ?_⟩
  have := fin_len ((fil l g).foldl stepS ([], [], false))
  simp only [List.length_nil] at r3 r4
  show (finS ((fil l g).foldl stepS ([], [], false))).2.length ≤ 12800
  omega
theorem wants7_loop {l : List S42} (hl : l.length ≤ 32) (h : ∀ s ∈ l, FOk s) (g : Int) : ∀ n k (j : Nat) (x : List S26), l.length = j + n → n + 100 < k → x = fil (l.take j) g → host_Wants.l0 k g x l (l.length : Int) (j : Int) = some (wnt l g) := by
  intro n
  induction n with
  | zero =>
    intro k j x hj hk hx
    obtain ⟨k, rfl⟩ : ∃ m, k = m + 1 := ⟨k - 1, by omega⟩
    obtain ⟨h1, h2⟩ := fil_ok hl h g
    rw [hx, List.take_of_length_le (by omega), host_Wants.l0, if_neg (by omega), filter_some (fil l g) (by omega) h2 k (by omega), Option.bind_some]
    rfl
  | succ n ih =>
    intro k j x hj hk hx
    obtain ⟨k, rfl⟩ : ∃ m, k = m + 1 := ⟨k - 1, by omega⟩
    have hlt : j < l.length := by omega
    have e2 : wrap64 ((j : Int) + 1) = ((j + 1 : Nat) : Int) := step64 j (by omega)
    have ht : fil (l.take (j + 1)) g = fil (l.take j) g ++ (if l[j].f1 = g then [l[j].f2] else []) := by
      rw [← List.take_append_getElem hlt]
      unfold fil
      rw [List.filter_append, List.map_append]
      congr 1
      by_cases c : l[j].f1 = g <;> simp [c]
    have hxl : x.length ≤ 32 := by
      rw [hx]
      unfold fil
      rw [List.length_map]
      exact Nat.le_trans (List.length_filter_le _ _) (by rw [List.length_take]; omega)
    rw [host_Wants.l0, if_pos (by omega), if_pos (by omega), if_pos (by omega), rd42 l j hlt, e2]
    by_cases c : l[j].f1 = g
    · rw [if_pos c, if_pos (by omega)]
      exact ih k (j + 1) _ (by omega) (by omega) (by rw [ht, if_pos c, hx])
    · rw [if_neg c]
      exact ih k (j + 1) _ (by omega) (by omega) (by rw [ht, if_neg c, hx, List.append_nil])
theorem wants7_some {l : List S42} (hl : l.length ≤ 32) (h : ∀ s ∈ l, FOk s) (g : Int) (k : Nat) (hk : 200 ≤ k) : host_Wants.f k l g = some (wnt l g) := by
  unfold host_Wants.f
  exact wants7_loop hl h g l.length k 0 [] (by omega) (by omega) rfl
theorem rec5_some {k : Nat} (x : S36) (hm : x.f2.length ≤ 100000) (hk : 100001 < k) : stolonref05_Rec.f k x.f0 x.f1 x.f2 x.f0 x.f1 x.f2 = some true := by
  unfold stolonref05_Rec.f
  rw [if_pos rfl, if_pos rfl, rows_some x.f2 x.f2 (by omega) k (by omega), Option.bind_some]
  simp
theorem recs_loop (xs : List S36) (hx : ∀ r ∈ xs, r.f2.length ≤ 100000) (hm : xs.length ≤ 1000) : ∀ n k (j : Nat), xs.length ≤ j + n → n + 100002 < k → stolonref05_Recs.l0 k xs xs (j : Int) = some true := by
  intro n
  induction n with
  | zero =>
    intro k j hj hk
    obtain ⟨k, rfl⟩ : ∃ m, k = m + 1 := ⟨k - 1, by omega⟩
    rw [stolonref05_Recs.l0, if_neg (by omega)]
  | succ n ih =>
    intro k j hj hk
    obtain ⟨k, rfl⟩ : ∃ m, k = m + 1 := ⟨k - 1, by omega⟩
    by_cases hlt : j < xs.length
    case neg => rw [stolonref05_Recs.l0, if_neg (by omega)]
    have e2 : wrap64 ((j : Int) + 1) = ((j + 1 : Nat) : Int) := step64 j (by omega)
    rw [stolonref05_Recs.l0, if_pos (by omega), if_pos (by omega), if_pos (by omega), rd36 xs j hlt, rec5_some _ (hx _ (List.getElem_mem hlt)) (by omega), Option.bind_some, if_pos rfl, e2]
    exact ih k (j + 1) (by omega) (by omega)
theorem recs_same (xs : List S36) (hx : ∀ r ∈ xs, r.f2.length ≤ 100000) (hm : xs.length ≤ 1000) (k : Nat) (hk : 102000 ≤ k) : stolonref05_Recs.f k xs xs = some true := by
  unfold stolonref05_Recs.f
  rw [if_pos rfl]
  exact recs_loop xs hx hm xs.length k 0 (by omega) (by omega)
end Go.Proofs.Ytjncmiclpaodhaa
