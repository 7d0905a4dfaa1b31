-- written by a program of this session (hprint.py), over the kit's printer
import Derived.Test.YtjncmiclpaodhaaSoI
import Derived.Test.YtjncmiclpaodhaaPHox1
import Derived.Test.YtjncmiclpaodhaaPHoy1
namespace Go.Proofs.Ytjncmiclpaodhaa.PHo
open Go.RowKit Go.Proofs.YtjncmiclpaodhaaW.PrintWords Go.Proofs.YtjncmiclpaodhaaW.PrintLast Go.Proofs.YtjncmiclpaodhaaW.PrintMore
attribute [local go_sem] max2_int min2_int max_two min_two max_three min_three max_four min_four   -- for this text's walks alone
set_option linter.unusedVariables false
set_option linter.unusedSimpArgs false
/-! ### stolonref06_Same: function 17 -/
def stolonref06_Same.f (k : Nat) (a0_0 : Bool) (l0_1 : List Int) (a1_0 : Bool) (l1_1 : List Int) : Option (Bool) := if (a0_0 == a1_0) = true then ((stolonref01_Rows.f k l0_1 l1_1).bind fun t326 => (some t326)) else (some false)
theorem stolonref06_Same.mono : ∀ a0 a1 a2 a3 k, LeO (stolonref06_Same.f k a0 a1 a2 a3) (stolonref06_Same.f (k + 1) a0 a1 a2 a3) := by
 intro a0 a1 a2 a3 k
 unfold stolonref06_Same.f
 repeat' first
  | (with_reducible exact stolonref01_Rows.mono _ _ _)
  | (with_reducible exact LeO.refl _)
  | (with_reducible exact LeO.none _)
  | (with_reducible refine LeO.ite ?_ ?_)
  | (with_reducible refine LeO.bind ?_ (fun _ => ?_))
  | exact stolonref01_Rows.mono _ _ _
  | exact LeO.none _
  | refine LeO.ite ?_ ?_
  | refine LeO.bind ?_ (fun _ => ?_)
set_option maxHeartbeats 8000000 in
set_option maxRecDepth 100000 in
theorem stolonref06_Same.calls (k : Nat) (a0_0 : Bool) (A0_1 : Option Addr) (c0_1 : Nat) (l0_1 : List Int) (a1_0 : Bool) (A1_1 : Option Addr) (c1_1 : Nat) (l1_1 : List Int) (r : Bool) (w : World) (hr0_1 : Kd.C (Kd.int .u32) w A0_1 l0_1.length l0_1) (hc0_1 : l0_1.length ≤ c0_1) (hr1_1 : Kd.C (Kd.int .u32) w A1_1 l1_1.length l1_1) (hc1_1 : l1_1.length ≤ c1_1) (h : stolonref06_Same.f k a0_0 l0_1 a1_0 l1_1 = some r) :
 Calls Try.prog 17 #[.agg #[.bool a0_0, .slice A0_1 l0_1.length c0_1], .agg #[.bool a1_0, .slice A1_1 l1_1.length c1_1]] w fun e w' => e = .returned (.bool r) ∧ Below w.heap.size w w' := by
 have hu26 := Try.underlying26
 have HR0_1 := Aside0.mk hr0_1
 have HC0_1 := Aside0.mk hc0_1
 clear hr0_1 hc0_1
 have HR1_1 := Aside0.mk hr1_1
 have HC1_1 := Aside0.mk hc1_1
 clear hr1_1 hc1_1
 have HB := Aside0.mk (Below.refl w.heap.size w)
 have H : (if (a0_0 == a1_0) = true then ((stolonref01_Rows.f k l0_1 l1_1).bind fun t326 => (some t326)) else (some false)) = some r := h
 clear h
 by_cases c3 : (a0_0 == a1_0) = true
 · rw [if_pos c3] at H
   have c3b0 : (a0_0 == a1_0) = true := c3
   (try (have c3b1 : decide (a0_0 = a1_0) = true := by simpa using c3))
   (try (have c3b2 : (a0_0 == a1_0) = true := by simpa using c3))
   clear c3
   replace H := Option.bind_eq_some_iff.mp H
   obtain ⟨t326, A40, H⟩ := H
   replace H : (some t326) = some r := H
   have A4 := Aside0.mk A40
   clear A40
   obtain rfl := Option.some.inj H
   go_enter Try.func17, Try.ntmps17
   go_wp2_with (first | ((with_reducible refine gate_dst (N := 2) rfl ?_); refine bxn (cs := #[.bool a0_0, .slice A0_1 l0_1.length c0_1]) (t := 26) ?_; intro gb324 hg w5 hbox hb; have BK324 := Aside0.mk (hbox); have GW324 := Aside0.mk ((by rw [hg]; exact (below_size HB.out) : w.heap.size ≤ gb324)); have GE324 := Aside0.mk ((by rw [hg]; exact (below_size HB.out) : w.heap.size ≤ gb324)); replace HB := Aside0.mk (below_step HB.out hb); clear hb hbox hg) | ((with_reducible refine gate_dst (N := 3) rfl ?_); refine bxn (cs := #[.bool a1_0, .slice A1_1 l1_1.length c1_1]) (t := 26) ?_; intro gb325 hg w6 hbox hb; have n0_ := Aside0.mk (blk_below BK324.out hb); have n1_ := Aside0.mk (below_step HB.out hb); have n2_ := Aside0.mk (hbox); have n3_ := Aside0.mk ((by rw [hg]; exact (below_size HB.out) : w.heap.size ≤ gb325)); have n4_ := Aside0.mk ((by rw [hg]; exact (below_size HB.out) : w.heap.size ≤ gb325)); have n5_ := Aside0.mk ((by rw [hg]; exact Nat.ne_of_lt (blk_lt BK324.out) : gb324 ≠ gb325)); have n6_ := Aside0.mk ((by rw [hg]; exact Nat.ne_of_gt (blk_lt BK324.out) : gb325 ≠ gb324)); clear BK324; clear HB; have BK324 := n0_; have HB := n1_; have BK325 := n2_; have GW325 := n3_; have GE325 := n4_; have NB324_325 := n5_; have NB325_324 := n6_; clear n0_ n1_ n2_ n3_ n4_ n5_ n6_; clear hb hbox hg; have hnb7 := NB324_325.out; have hnc7 := NB325_324.out; obtain ⟨hcz8_0, hcz8_1, hfz8_0, hfz8_1⟩ := cf2 BK324.out; obtain ⟨hcz9_0, hcz9_1, hfz9_0, hfz9_1⟩ := cf2 BK325.out) | (go_at_call 34; (with_reducible refine (stolonref01_Rows.calls k _ _ l0_1 _ _ l1_1 t326 _ ?side1 ?side2 ?side3 ?side4 A4.out).mono ?_); (case side1 => exact ca (Kd.C_below HR0_1.out HB.out)); (case side2 => exact HC0_1.out); (case side3 => exact ca (Kd.C_below HR1_1.out HB.out)); (case side4 => exact HC1_1.out); rintro e w' ⟨rfl, ⟨nd, rfl⟩⟩))
   go_ret
   exact ⟨by first | rfl | (simp [errW_none, errW_some] <;> rfl) | (simp [*, errW_none, errW_some] <;> rfl), bl HB⟩
 · rw [if_neg c3] at H
   have c3b0 : (a0_0 == a1_0) = false := by simpa using c3
   (try (have c3b1 : decide (a0_0 = a1_0) = false := by simpa using c3))
   (try (have c3b2 : (a0_0 == a1_0) = false := by simpa using c3))
   (try (have c3b3 : ¬ (a0_0 = a1_0) := by simpa using c3))
   clear c3
   obtain rfl := Option.some.inj H
   go_enter Try.func17, Try.ntmps17
   go_wp2_with (first | ((with_reducible refine gate_dst (N := 2) rfl ?_); refine bxn (cs := #[.bool a0_0, .slice A0_1 l0_1.length c0_1]) (t := 26) ?_; intro gb324 hg w10 hbox hb; have BK324 := Aside0.mk (hbox); have GW324 := Aside0.mk ((by rw [hg]; exact (below_size HB.out) : w.heap.size ≤ gb324)); have GE324 := Aside0.mk ((by rw [hg]; exact (below_size HB.out) : w.heap.size ≤ gb324)); replace HB := Aside0.mk (below_step HB.out hb); clear hb hbox hg) | ((with_reducible refine gate_dst (N := 3) rfl ?_); refine bxn (cs := #[.bool a1_0, .slice A1_1 l1_1.length c1_1]) (t := 26) ?_; intro gb325 hg w11 hbox hb; have n0_ := Aside0.mk (blk_below BK324.out hb); have n1_ := Aside0.mk (below_step HB.out hb); have n2_ := Aside0.mk (hbox); have n3_ := Aside0.mk ((by rw [hg]; exact (below_size HB.out) : w.heap.size ≤ gb325)); have n4_ := Aside0.mk ((by rw [hg]; exact (below_size HB.out) : w.heap.size ≤ gb325)); have n5_ := Aside0.mk ((by rw [hg]; exact Nat.ne_of_lt (blk_lt BK324.out) : gb324 ≠ gb325)); have n6_ := Aside0.mk ((by rw [hg]; exact Nat.ne_of_gt (blk_lt BK324.out) : gb325 ≠ gb324)); clear BK324; clear HB; have BK324 := n0_; have HB := n1_; have BK325 := n2_; have GW325 := n3_; have GE325 := n4_; have NB324_325 := n5_; have NB325_324 := n6_; clear n0_ n1_ n2_ n3_ n4_ n5_ n6_; clear hb hbox hg; have hnb12 := NB324_325.out; have hnc12 := NB325_324.out; obtain ⟨hcz13_0, hcz13_1, hfz13_0, hfz13_1⟩ := cf2 BK324.out; obtain ⟨hcz14_0, hcz14_1, hfz14_0, hfz14_1⟩ := cf2 BK325.out))
   go_ret
   exact ⟨by first | rfl | (simp [errW_none, errW_some] <;> rfl) | (simp [*, errW_none, errW_some] <;> rfl), bl HB⟩
/-! ### stolonref07_Same: function 16 -/
def stolonref07_Same.l0 : Nat → Int → List (S42) → List (S42) → Option (Bool)
 | 0, _, _, _ => none
 | k + 1, x5, x328000, x329000 => if x5 < (x328000.length : Int) then (if 0 ≤ x5 then (if x5 < (x329000.length : Int) then ((stolonref06_Same.f k ((rd_T42 x328000 x5).f2.f0) ((rd_T42 x328000 x5).f2.f1) ((rd_T42 x329000 x5).f2.f0) ((rd_T42 x329000 x5).f2.f1)).bind fun t331 => (if t331 = true then (if ((rd_T42 x328000 x5).f0) = ((rd_T42 x329000 x5).f0) then (if ((rd_T42 x328000 x5).f1) = ((rd_T42 x329000 x5).f1) then (stolonref07_Same.l0 k (wrap64 (x5 + 1)) x328000 x329000) else (some false)) else (some false)) else (some false))) else (none)) else (none)) else (some true)
def stolonref07_Same.f (k : Nat) (l0_0 : List (S42)) (l1_0 : List (S42)) : Option (Bool) := if (l0_0.length : Int) = (l1_0.length : Int) then (stolonref07_Same.l0 k 0 l0_0 l1_0) else (some false)
theorem stolonref07_Same.mono_l : ∀ k, (∀ y0 y1 y2, LeO (stolonref07_Same.l0 k y0 y1 y2) (stolonref07_Same.l0 (k + 1) y0 y1 y2))
 | 0 => fun _ _ _ r h => by simp [stolonref07_Same.l0] at h
 | k + 1 => by
  have ih0 := stolonref07_Same.mono_l k
  · intro y0 y1 y2
    unfold stolonref07_Same.l0
    repeat' first
    | (with_reducible exact ih0 _ _ _)
    | (with_reducible exact stolonref06_Same.mono _ _ _ _ _)
    | (with_reducible exact LeO.refl _)
    | (with_reducible exact LeO.none _)
    | (with_reducible refine LeO.ite ?_ ?_)
    | (with_reducible refine LeO.bind ?_ (fun _ => ?_))
    | exact ih0 _ _ _
    | exact stolonref06_Same.mono _ _ _ _ _
    | exact LeO.none _
    | refine LeO.ite ?_ ?_
    | refine LeO.bind ?_ (fun _ => ?_)
theorem stolonref07_Same.mono : ∀ a0 a1 k, LeO (stolonref07_Same.f k a0 a1) (stolonref07_Same.f (k + 1) a0 a1) := by
 intro a0 a1 k
 have ih0 := stolonref07_Same.mono_l k
 unfold stolonref07_Same.f
 repeat' first
  | (with_reducible exact ih0 _ _ _)
  | (with_reducible exact stolonref06_Same.mono _ _ _ _ _)
  | (with_reducible exact LeO.refl _)
  | (with_reducible exact LeO.none _)
  | (with_reducible refine LeO.ite ?_ ?_)
  | (with_reducible refine LeO.bind ?_ (fun _ => ?_))
  | exact ih0 _ _ _
  | exact stolonref06_Same.mono _ _ _ _ _
  | exact LeO.none _
  | refine LeO.ite ?_ ?_
  | refine LeO.bind ?_ (fun _ => ?_)
def stolonref07_Same.T6 : Bool × List (List Nat × List Nat) := (true, [([], []), ([0], [0]), ([], []), ([1, 2], [1, 2]), ([3], [3]), ([4], [4]), ([], []), ([6], [6]), ([], []), ([7, 8], [7, 8]), ([9], [9]), ([10], [10]), ([5, 11], [5, 11]), ([12, 12, 0, 1, 2, 3, 4, 5, 6, 7, 8, 9, 10, 11, 12], [12])])
def stolonref07_Same.B6 : List Nat := [0, 1, 0, 7, 15, 31, 0, 64, 0, 448, 960, 1984, 4095, 8191]
theorem stolonref07_Same.tab6 : rtab .any (opsOf Try.f16 6) = stolonref07_Same.T6 := by kernel_rfl
theorem stolonref07_Same.bits6 : waitsOk stolonref07_Same.T6.2 stolonref07_Same.B6 = true := by kernel_rfl
def stolonref07_Same.T7 : Bool × List (List Nat × List Nat) := (true, [([], []), ([0], [0]), ([1], [1]), ([2], [2]), ([3, 2], [2, 3]), ([2], [2]), ([4, 5, 2], [2, 4, 5]), ([6, 2], [2, 6]), ([7, 2], [2, 7]), ([2], [2]), ([9, 2], [2, 9]), ([2], [2]), ([10, 11, 2], [2, 10, 11]), ([12, 2], [2, 12]), ([13, 2], [2, 13]), ([8, 14, 2], [2, 8, 14]), ([2, 15], [2, 15]), ([16, 2], [16]), ([17], [17]), ([18, 17], [17, 18]), ([17], [17]), ([19, 20, 17], [17, 19, 20]), ([21, 17], [17, 21]), ([22, 17], [17, 22]), ([17], [17]), ([24, 17], [17, 24]), ([17], [17]), ([25, 26, 17], [17, 25, 26]), ([27, 17], [17, 27]), ([28, 17], [17, 28]), ([23, 29, 17], [17, 23, 29]), ([17, 30], [17, 30])])
def stolonref07_Same.B7 : List Nat := [0, 1, 3, 7, 15, 7, 63, 127, 255, 7, 519, 7, 3591, 7687, 15879, 32767, 65535, 131071, 262143, 524287, 262143, 2097151, 4194303, 8388607, 262143, 17039359, 262143, 117702655, 251920383, 520355839, 1073741823, 2147483647]
theorem stolonref07_Same.tab7 : rtab .any (opsOf Try.f16 7) = stolonref07_Same.T7 := by kernel_rfl
theorem stolonref07_Same.bits7 : waitsOk stolonref07_Same.T7.2 stolonref07_Same.B7 = true := by kernel_rfl
set_option maxHeartbeats 8000000 in
set_option maxRecDepth 100000 in
theorem stolonref07_Same.calls (k : Nat) (A0_0 : Option Addr) (c0_0 : Nat) (l0_0 : List (S42)) (A1_0 : Option Addr) (c1_0 : Nat) (l1_0 : List (S42)) (r : Bool) (w : World) (hr0_0 : Kd.C k42 w A0_0 l0_0.length l0_0) (hc0_0 : l0_0.length ≤ c0_0) (hr1_0 : Kd.C k42 w A1_0 l1_0.length l1_0) (hc1_0 : l1_0.length ≤ c1_0) (h : stolonref07_Same.f k l0_0 l1_0 = some r) :
 Calls Try.prog 16 #[.agg #[.slice A0_0 l0_0.length c0_0], .agg #[.slice A1_0 l1_0.length c1_0]] w fun e w' => e = .returned (.bool r) ∧ Below w.heap.size w w' := by
 have hu40 := Try.underlying40
 have hu26 := Try.underlying26
 have HR0_0 := Aside0.mk hr0_0
 have HC0_0 := Aside0.mk hc0_0
 clear hr0_0 hc0_0
 have HR1_0 := Aside0.mk hr1_0
 have HC1_0 := Aside0.mk hc1_0
 clear hr1_0 hc1_0
 have HB := Aside0.mk (Below.refl w.heap.size w)
 have H : (if (l0_0.length : Int) = (l1_0.length : Int) then (stolonref07_Same.l0 k 0 l0_0 l1_0) else (some false)) = some r := h
 clear h
 by_cases c3 : (l0_0.length : Int) = (l1_0.length : Int)
 · rw [if_pos c3] at H
   have c3b0 : ((l0_0.length : Int) == (l1_0.length : Int)) = true := beq_iff_eq.mpr c3
   have c3b1 : ((l0_0.length : Int) != (l1_0.length : Int)) = false := bne_eq_false_iff_eq.mpr c3
   have c3b2 : (l0_0.length == l1_0.length) = true := by first | simpa using c3 | (simp at c3 ⊢; omega)
   clear c3
   have H' := Aside0.mk H
   clear H
   go_enter Try.func16, Try.ntmps16
   go_wp2_with (first | ((with_reducible refine gate_dst (N := 2) rfl ?_); refine bxn (cs := #[.slice A0_0 l0_0.length c0_0]) (t := 40) ?_; intro gb327 hg w4 hbox hb; have BK327 := Aside0.mk (hbox); have GW327 := Aside0.mk ((by rw [hg]; exact (below_size HB.out) : w.heap.size ≤ gb327)); have GE327 := Aside0.mk ((by rw [hg]; exact (below_size HB.out) : w.heap.size ≤ gb327)); replace HB := Aside0.mk (below_step HB.out hb); clear hb hbox hg) | ((with_reducible refine gate_dst (N := 3) rfl ?_); refine bxn (cs := #[.slice A1_0 l1_0.length c1_0]) (t := 40) ?_; intro gb328 hg w5 hbox hb; have n0_ := Aside0.mk (blk_below BK327.out hb); have n1_ := Aside0.mk (below_step HB.out hb); have n2_ := Aside0.mk (hbox); have n3_ := Aside0.mk ((by rw [hg]; exact (below_size HB.out) : w.heap.size ≤ gb328)); have n4_ := Aside0.mk ((by rw [hg]; exact (below_size HB.out) : w.heap.size ≤ gb328)); have n5_ := Aside0.mk ((by rw [hg]; exact Nat.ne_of_lt (blk_lt BK327.out) : gb327 ≠ gb328)); have n6_ := Aside0.mk ((by rw [hg]; exact Nat.ne_of_gt (blk_lt BK327.out) : gb328 ≠ gb327)); clear BK327; clear HB; have BK327 := n0_; have HB := n1_; have BK328 := n2_; have GW328 := n3_; have GE328 := n4_; have NB327_328 := n5_; have NB328_327 := n6_; clear n0_ n1_ n2_ n3_ n4_ n5_ n6_; clear hb hbox hg; have hnb6 := NB327_328.out; have hnc6 := NB328_327.out; obtain ⟨hcz7_0, hfz7_0⟩ := cf1 BK327.out; obtain ⟨hcz8_0, hfz8_0⟩ := cf1 BK328.out))
   go_loopg [5] k (fun kq v5 w' => ∃ (x5_1 : Int), v5 = .int .i64 x5_1 ∧ Aside0 (stolonref07_Same.l0 kq x5_1 l0_0 l1_0 = some r) ∧ Aside0 (kq ≤ k) ∧ Aside0 (w'.heap[gb327]? = some (.cells #[(.slice A0_0 l0_0.length c0_0)] 40 (0, 0))) ∧ Aside0 (w'.heap[gb328]? = some (.cells #[(.slice A1_0 l1_0.length c1_0)] 40 (0, 0))) ∧ Aside0 (Below w.heap.size w w'))
   case atStart => exact ⟨(0), (fr), H', ⟨Nat.le_refl _⟩, ⟨BK327.out⟩, ⟨BK328.out⟩, ⟨HB.out⟩⟩
   case round =>
    clear H'
    try clear c1
    try clear p2
    try clear c3
    try clear c3b0
    try clear c3b1
    try clear c3b2
    try clear c6
    try clear hcz7_0
    try clear hcz8_0
    try clear hfz7_0
    try clear hfz8_0
    obtain ⟨x5_1, rfl, HA, HK1, BK327, BK328, HB⟩ := hrel
    cases gk with
    | zero => exact absurd HA.out (by simp [stolonref07_Same.l0])
    | succ k1 =>
     have H := HA.out
     clear HA
     simp only [stolonref07_Same.l0] at H
     by_cases c9 : x5_1 < (l0_0.length : Int)
     · rw [if_pos c9] at H
       have c9b0 : decide (x5_1 < (l0_0.length : Int)) = true := decide_eq_true c9
       clear c9
       by_cases c10 : 0 ≤ x5_1
       case neg => rw [if_neg c10] at H; exact absurd H (by simp)
       rw [if_pos c10] at H
       have c10b0 : decide (0 ≤ x5_1) = true := decide_eq_true c10
       clear c10
       by_cases c11 : x5_1 < (l1_0.length : Int)
       case neg => rw [if_neg c11] at H; exact absurd H (by simp)
       rw [if_pos c11] at H
       have c11b0 : decide (x5_1 < (l1_0.length : Int)) = true := decide_eq_true c11
       clear c11
       replace H := Option.bind_eq_some_iff.mp H
       obtain ⟨t331, A120, H⟩ := H
       replace H : (if t331 = true then (if ((rd_T42 l0_0 x5_1).f0) = ((rd_T42 l1_0 x5_1).f0) then (if ((rd_T42 l0_0 x5_1).f1) = ((rd_T42 l1_0 x5_1).f1) then (stolonref07_Same.l0 k1 (wrap64 (x5_1 + 1)) l0_0 l1_0) else (some false)) else (some false)) else (some false)) = some r := H
       have A12 := Aside0.mk A120
       clear A120
       by_cases c13 : t331 = true
       · subst c13
         replace H : (if ((rd_T42 l0_0 x5_1).f0) = ((rd_T42 l1_0 x5_1).f0) then (if ((rd_T42 l0_0 x5_1).f1) = ((rd_T42 l1_0 x5_1).f1) then (stolonref07_Same.l0 k1 (wrap64 (x5_1 + 1)) l0_0 l1_0) else (some false)) else (some false)) = some r := by rw [if_pos rfl] at H; exact H
         by_cases c14 : ((rd_T42 l0_0 x5_1).f0) = ((rd_T42 l1_0 x5_1).f0)
         · rw [if_pos c14] at H
           have c14b0 : (((rd_T42 l0_0 x5_1).f0) == ((rd_T42 l1_0 x5_1).f0)) = true := beq_iff_eq.mpr c14
           have c14b1 : (((rd_T42 l0_0 x5_1).f0) != ((rd_T42 l1_0 x5_1).f0)) = false := bne_eq_false_iff_eq.mpr c14
           clear c14
           by_cases c15 : ((rd_T42 l0_0 x5_1).f1) = ((rd_T42 l1_0 x5_1).f1)
           · rw [if_pos c15] at H
             have c15b0 : (((rd_T42 l0_0 x5_1).f1) == ((rd_T42 l1_0 x5_1).f1)) = true := beq_iff_eq.mpr c15
             have c15b1 : (((rd_T42 l0_0 x5_1).f1) != ((rd_T42 l1_0 x5_1).f1)) = false := bne_eq_false_iff_eq.mpr c15
             clear c15
             have H' := Aside0.mk H
             clear H
             have hnb16 := NB327_328.out
             have hnc16 := NB328_327.out
             obtain ⟨hcz17_0, hfz17_0⟩ := cf1 BK327.out
             try go_wp2
             have n0_ := Aside0.mk (blk_drew BK327.out)
             have n1_ := Aside0.mk (blk_drew BK328.out)
             have n2_ := Aside0.mk (below_drew1 HB.out)
             clear BK327
             clear BK328
             clear HB
             have BK327 := n0_
             have BK328 := n1_
             have HB := n2_
             clear n0_ n1_ n2_
             have p329 : 0 ≤ (x5_1 : Int) := od
             have q329 : x5_1 < (l0_0.length : Int) := od
             obtain ⟨ad329, A329_3, c329_3, e329, hx329_0, hx329_1, hx329_2, hx329_3, hl329_3, hi329_3⟩ := at_T42 HR0_0.out x5_1 p329 q329
             have hw329_3 := hx329_3
             have hw329_2 := hx329_2
             have hw329_1 := hx329_1
             have hw329_0 := hx329_0
             cases e329
             replace hx329_0 := hcz HB hx329_0
             replace hx329_1 := hcz HB hx329_1
             replace hx329_2 := hcz HB hx329_2
             replace hx329_3 := hcz HB hx329_3
             have HR329_3 := Aside0.mk hi329_3
             have HC329_3 := Aside0.mk hl329_3
             clear hi329_3 hl329_3
             replace p329 := eq_true p329
             replace q329 := eq_true q329
             have p330 : 0 ≤ (x5_1 : Int) := od
             have q330 : x5_1 < (l1_0.length : Int) := od
             obtain ⟨ad330, A330_3, c330_3, e330, hx330_0, hx330_1, hx330_2, hx330_3, hl330_3, hi330_3⟩ := at_T42 HR1_0.out x5_1 p330 q330
             have hw330_3 := hx330_3
             have hw330_2 := hx330_2
             have hw330_1 := hx330_1
             have hw330_0 := hx330_0
             cases e330
             replace hx330_0 := hcz HB hx330_0
             replace hx330_1 := hcz HB hx330_1
             replace hx330_2 := hcz HB hx330_2
             replace hx330_3 := hcz HB hx330_3
             have HR330_3 := Aside0.mk hi330_3
             have HC330_3 := Aside0.mk hl330_3
             clear hi330_3 hl330_3
             replace p330 := eq_true p330
             replace q330 := eq_true q330
             refine start_ (n := 14) (S := fun w' => w'.cell? ⟨gb327, 0, none⟩ = some (.slice (some ad329) l0_0.length c0_0) ∧ w'.cell? ⟨gb328, 0, none⟩ = some (.slice (some ad330) l1_0.length c1_0) ∧ w'.cell? (ad329.add ((x5_1).toNat * 4)) = some (.int .i64 ((rd_T42 l0_0 x5_1).f0)) ∧ w'.cell? ⟨(ad329.add ((x5_1).toNat * 4)).block, (ad329.add ((x5_1).toNat * 4)).off + 1, none⟩ = some (.int .u32 ((rd_T42 l0_0 x5_1).f1)) ∧ w'.cell? ⟨(ad329.add ((x5_1).toNat * 4)).block, (ad329.add ((x5_1).toNat * 4)).off + 2, none⟩ = some (.bool ((rd_T42 l0_0 x5_1).f2.f0)) ∧ w'.cell? ⟨(ad329.add ((x5_1).toNat * 4)).block, (ad329.add ((x5_1).toNat * 4)).off + 3, none⟩ = some (.slice A329_3 ((rd_T42 l0_0 x5_1).f2.f1).length c329_3) ∧ w'.cell? (ad330.add ((x5_1).toNat * 4)) = some (.int .i64 ((rd_T42 l1_0 x5_1).f0)) ∧ w'.cell? ⟨(ad330.add ((x5_1).toNat * 4)).block, (ad330.add ((x5_1).toNat * 4)).off + 1, none⟩ = some (.int .u32 ((rd_T42 l1_0 x5_1).f1)) ∧ w'.cell? ⟨(ad330.add ((x5_1).toNat * 4)).block, (ad330.add ((x5_1).toNat * 4)).off + 2, none⟩ = some (.bool ((rd_T42 l1_0 x5_1).f2.f0)) ∧ w'.cell? ⟨(ad330.add ((x5_1).toNat * 4)).block, (ad330.add ((x5_1).toNat * 4)).off + 3, none⟩ = some (.slice A330_3 ((rd_T42 l1_0 x5_1).f2.f1).length c330_3)) (ds := []) #[false, false, false, false, false, false, false, false, false, false, false, false, false, false] (by kernel_rfl) rfl rfl ⟨(blk_cell BK327.out 0).trans rfl, (blk_cell BK328.out 0).trans rfl, ((HB.out.cell (World.block_lt_of_cell? w _ hw329_0)).trans hw329_0), ((HB.out.cell (World.block_lt_of_cell? w _ hw329_1)).trans hw329_1), ((HB.out.cell (World.block_lt_of_cell? w _ hw329_2)).trans hw329_2), ((HB.out.cell (World.block_lt_of_cell? w _ hw329_3)).trans hw329_3), ((HB.out.cell (World.block_lt_of_cell? w _ hw330_0)).trans hw330_0), ((HB.out.cell (World.block_lt_of_cell? w _ hw330_1)).trans hw330_1), ((HB.out.cell (World.block_lt_of_cell? w _ hw330_2)).trans hw330_2), ((HB.out.cell (World.block_lt_of_cell? w _ hw330_3)).trans hw330_3)⟩ (fun hHeld => ?_); refine with_tabW stolonref07_Same.tab6 stolonref07_Same.bits6 (fun HT_ HW_ => ?_)
             generalize wr.drew = w18 at BK327 BK328 HB HR329_3 HR330_3 hx329_0 hx329_1 hx329_2 hx329_3 hx330_0 hx330_1 hx330_2 hx330_3 hHeld ⊢
             refine pw 0 21 (bb 14 1) rfl rfl HT_ ?_
             refine pw 2 23 (bb 14 5) rfl rfl HT_ ?_
             refine pw 6 27 (bb 14 69) rfl rfl HT_ ?_
             refine pw 8 29 (bb 14 325) rfl rfl HT_ ?_
             refine tk 1 22 (bb 14 327) rfl rfl HT_ HW_ hHeld ?_
             refine pw 3 24 (bb 14 335) rfl rfl HT_ ?_
             refine pw 4 25 (bb 14 351) rfl rfl HT_ ?_
             refine tk 5 26 (bb 14 383) rfl rfl HT_ HW_ hHeld ?_
             refine tk 7 28 (bb 14 511) rfl rfl HT_ HW_ hHeld ?_
             refine pw 9 30 (bb 14 1023) rfl rfl HT_ ?_
             refine pw 10 31 (bb 14 2047) rfl rfl HT_ ?_
             refine tk 11 32 (bb 14 4095) rfl rfl HT_ HW_ hHeld ?_
             refine on1 12 (some 33) (bb 14 8191) rfl rfl HT_ (fun K hK => ?_)
             refine gfn Try.func17 #[.agg #[.bool ((rd_T42 l0_0 x5_1).f2.f0), .slice A329_3 ((rd_T42 l0_0 x5_1).f2.f1).length c329_3], .agg #[.bool ((rd_T42 l1_0 x5_1).f2.f0), .slice A330_3 ((rd_T42 l1_0 x5_1).f2.f1).length c330_3]] ?_
             with_reducible refine (stolonref06_Same.calls k1 ((rd_T42 l0_0 x5_1).f2.f0) _ _ ((rd_T42 l0_0 x5_1).f2.f1) ((rd_T42 l1_0 x5_1).f2.f0) _ _ ((rd_T42 l1_0 x5_1).f2.f1) true _ ?side1 ?side2 ?side3 ?side4 A12.out).mono ?_
             (case side1 => exact ca (Kd.C_below HR329_3.out HB.out))
             (case side2 => exact HC329_3.out)
             (case side3 => exact ca (Kd.C_below HR330_3.out HB.out))
             (case side4 => exact HC330_3.out)
             rintro e w19 ⟨rfl, hb⟩
             refine ⟨_, rfl, ?_⟩
             have n0_ := Aside0.mk (blk_below BK327.out hb)
             have n1_ := Aside0.mk (blk_below BK328.out hb)
             have n2_ := Aside0.mk (below_step HB.out hb)
             clear BK327
             clear BK328
             clear HB
             have BK327 := n0_
             have BK328 := n1_
             have HB := n2_
             clear n0_ n1_ n2_
             (try clear hb)
             (try clear hb2)
             (try clear hk)
             (try clear hi)
             refine hK.out _ _ ⟨(blk_cell BK327.out 0).trans rfl, (blk_cell BK328.out 0).trans rfl, ((HB.out.cell (World.block_lt_of_cell? w _ hw329_0)).trans hw329_0), ((HB.out.cell (World.block_lt_of_cell? w _ hw329_1)).trans hw329_1), ((HB.out.cell (World.block_lt_of_cell? w _ hw329_2)).trans hw329_2), ((HB.out.cell (World.block_lt_of_cell? w _ hw329_3)).trans hw329_3), ((HB.out.cell (World.block_lt_of_cell? w _ hw330_0)).trans hw330_0), ((HB.out.cell (World.block_lt_of_cell? w _ hw330_1)).trans hw330_1), ((HB.out.cell (World.block_lt_of_cell? w _ hw330_2)).trans hw330_2), ((HB.out.cell (World.block_lt_of_cell? w _ hw330_3)).trans hw330_3)⟩ (fun hHeld => ?_)
             clear hK K
             refine nm ?_
             refine pw 13 6 (bb 14 16383) rfl rfl HT_ ?_
             refine done_ (done_of HT_.out (by kernel_rfl)) ?_
             try go_wp2
             have n0_ := Aside0.mk (blk_drew BK327.out)
             have n1_ := Aside0.mk (blk_drew BK328.out)
             have n2_ := Aside0.mk (below_drew1 HB.out)
             clear BK327
             clear BK328
             clear HB
             have BK327 := n0_
             have BK328 := n1_
             have HB := n2_
             clear n0_ n1_ n2_
             have p332 : 0 ≤ (x5_1 : Int) := od
             have q332 : x5_1 < (l0_0.length : Int) := od
             obtain ⟨ad332, A332_3, c332_3, e332, hx332_0, hx332_1, hx332_2, hx332_3, hl332_3, hi332_3⟩ := at_T42 HR0_0.out x5_1 p332 q332
             have hw332_3 := hx332_3
             have hw332_2 := hx332_2
             have hw332_1 := hx332_1
             have hw332_0 := hx332_0
             obtain rfl : ad329 = ad332 := (by injection e332)
             replace hx332_0 := hcz HB hx332_0
             replace hx332_1 := hcz HB hx332_1
             replace hx332_2 := hcz HB hx332_2
             replace hx332_3 := hcz HB hx332_3
             have HR332_3 := Aside0.mk hi332_3
             have HC332_3 := Aside0.mk hl332_3
             clear hi332_3 hl332_3
             replace p332 := eq_true p332
             replace q332 := eq_true q332
             have p333 : 0 ≤ (x5_1 : Int) := od
             have q333 : x5_1 < (l1_0.length : Int) := od
             obtain ⟨ad333, A333_3, c333_3, e333, hx333_0, hx333_1, hx333_2, hx333_3, hl333_3, hi333_3⟩ := at_T42 HR1_0.out x5_1 p333 q333
             have hw333_3 := hx333_3
             have hw333_2 := hx333_2
             have hw333_1 := hx333_1
             have hw333_0 := hx333_0
             obtain rfl : ad330 = ad333 := (by injection e333)
             replace hx333_0 := hcz HB hx333_0
             replace hx333_1 := hcz HB hx333_1
             replace hx333_2 := hcz HB hx333_2
             replace hx333_3 := hcz HB hx333_3
             have HR333_3 := Aside0.mk hi333_3
             have HC333_3 := Aside0.mk hl333_3
             clear hi333_3 hl333_3
             replace p333 := eq_true p333
             replace q333 := eq_true q333
             have p334 : 0 ≤ (x5_1 : Int) := od
             have q334 : x5_1 < (l0_0.length : Int) := od
             obtain ⟨ad334, A334_3, c334_3, e334, hx334_0, hx334_1, hx334_2, hx334_3, hl334_3, hi334_3⟩ := at_T42 HR0_0.out x5_1 p334 q334
             have hw334_3 := hx334_3
             have hw334_2 := hx334_2
             have hw334_1 := hx334_1
             have hw334_0 := hx334_0
             obtain rfl : ad329 = ad334 := (by injection e334)
             replace hx334_0 := hcz HB hx334_0
             replace hx334_1 := hcz HB hx334_1
             replace hx334_2 := hcz HB hx334_2
             replace hx334_3 := hcz HB hx334_3
             have HR334_3 := Aside0.mk hi334_3
             have HC334_3 := Aside0.mk hl334_3
             clear hi334_3 hl334_3
             replace p334 := eq_true p334
             replace q334 := eq_true q334
             have ea_ := Option.some.inj (hx332_3.symm.trans hx334_3)
             injection ea_ with ea_ en_ ec_
             subst ea_
             subst ec_
             clear en_
             have p335 : 0 ≤ (x5_1 : Int) := od
             have q335 : x5_1 < (l1_0.length : Int) := od
             obtain ⟨ad335, A335_3, c335_3, e335, hx335_0, hx335_1, hx335_2, hx335_3, hl335_3, hi335_3⟩ := at_T42 HR1_0.out x5_1 p335 q335
             have hw335_3 := hx335_3
             have hw335_2 := hx335_2
             have hw335_1 := hx335_1
             have hw335_0 := hx335_0
             obtain rfl : ad330 = ad335 := (by injection e335)
             replace hx335_0 := hcz HB hx335_0
             replace hx335_1 := hcz HB hx335_1
             replace hx335_2 := hcz HB hx335_2
             replace hx335_3 := hcz HB hx335_3
             have HR335_3 := Aside0.mk hi335_3
             have HC335_3 := Aside0.mk hl335_3
             clear hi335_3 hl335_3
             replace p335 := eq_true p335
             replace q335 := eq_true q335
             have ea_ := Option.some.inj (hx333_3.symm.trans hx335_3)
             injection ea_ with ea_ en_ ec_
             subst ea_
             subst ec_
             clear en_
             refine start_ (n := 32) (S := fun w' => w'.cell? ⟨gb327, 0, none⟩ = some (.slice (some ad329) l0_0.length c0_0) ∧ w'.cell? ⟨gb328, 0, none⟩ = some (.slice (some ad330) l1_0.length c1_0) ∧ w'.cell? (ad329.add ((x5_1).toNat * 4)) = some (.int .i64 ((rd_T42 l0_0 x5_1).f0)) ∧ w'.cell? ⟨(ad329.add ((x5_1).toNat * 4)).block, (ad329.add ((x5_1).toNat * 4)).off + 1, none⟩ = some (.int .u32 ((rd_T42 l0_0 x5_1).f1)) ∧ w'.cell? ⟨(ad329.add ((x5_1).toNat * 4)).block, (ad329.add ((x5_1).toNat * 4)).off + 2, none⟩ = some (.bool ((rd_T42 l0_0 x5_1).f2.f0)) ∧ w'.cell? ⟨(ad329.add ((x5_1).toNat * 4)).block, (ad329.add ((x5_1).toNat * 4)).off + 3, none⟩ = some (.slice A332_3 ((rd_T42 l0_0 x5_1).f2.f1).length c332_3) ∧ w'.cell? (ad330.add ((x5_1).toNat * 4)) = some (.int .i64 ((rd_T42 l1_0 x5_1).f0)) ∧ w'.cell? ⟨(ad330.add ((x5_1).toNat * 4)).block, (ad330.add ((x5_1).toNat * 4)).off + 1, none⟩ = some (.int .u32 ((rd_T42 l1_0 x5_1).f1)) ∧ w'.cell? ⟨(ad330.add ((x5_1).toNat * 4)).block, (ad330.add ((x5_1).toNat * 4)).off + 2, none⟩ = some (.bool ((rd_T42 l1_0 x5_1).f2.f0)) ∧ w'.cell? ⟨(ad330.add ((x5_1).toNat * 4)).block, (ad330.add ((x5_1).toNat * 4)).off + 3, none⟩ = some (.slice A333_3 ((rd_T42 l1_0 x5_1).f2.f1).length c333_3) ∧ w'.cell? (ad329.add ((x5_1).toNat * 4)) = some (.int .i64 ((rd_T42 l0_0 x5_1).f0)) ∧ w'.cell? ⟨(ad329.add ((x5_1).toNat * 4)).block, (ad329.add ((x5_1).toNat * 4)).off + 1, none⟩ = some (.int .u32 ((rd_T42 l0_0 x5_1).f1)) ∧ w'.cell? ⟨(ad329.add ((x5_1).toNat * 4)).block, (ad329.add ((x5_1).toNat * 4)).off + 2, none⟩ = some (.bool ((rd_T42 l0_0 x5_1).f2.f0)) ∧ w'.cell? ⟨(ad329.add ((x5_1).toNat * 4)).block, (ad329.add ((x5_1).toNat * 4)).off + 3, none⟩ = some (.slice A332_3 ((rd_T42 l0_0 x5_1).f2.f1).length c332_3) ∧ w'.cell? (ad330.add ((x5_1).toNat * 4)) = some (.int .i64 ((rd_T42 l1_0 x5_1).f0)) ∧ w'.cell? ⟨(ad330.add ((x5_1).toNat * 4)).block, (ad330.add ((x5_1).toNat * 4)).off + 1, none⟩ = some (.int .u32 ((rd_T42 l1_0 x5_1).f1)) ∧ w'.cell? ⟨(ad330.add ((x5_1).toNat * 4)).block, (ad330.add ((x5_1).toNat * 4)).off + 2, none⟩ = some (.bool ((rd_T42 l1_0 x5_1).f2.f0)) ∧ w'.cell? ⟨(ad330.add ((x5_1).toNat * 4)).block, (ad330.add ((x5_1).toNat * 4)).off + 3, none⟩ = some (.slice A333_3 ((rd_T42 l1_0 x5_1).f2.f1).length c333_3)) (ds := []) #[false, false, false, false, false, false, false, false, false, false, false, false, false, false, false, false, false, false, false, false, false, false, false, false, false, false, false, false, false, false, false, false] (by kernel_rfl) rfl rfl ⟨(blk_cell BK327.out 0).trans rfl, (blk_cell BK328.out 0).trans rfl, ((HB.out.cell (World.block_lt_of_cell? w _ hw332_0)).trans hw332_0), ((HB.out.cell (World.block_lt_of_cell? w _ hw332_1)).trans hw332_1), ((HB.out.cell (World.block_lt_of_cell? w _ hw332_2)).trans hw332_2), ((HB.out.cell (World.block_lt_of_cell? w _ hw332_3)).trans hw332_3), ((HB.out.cell (World.block_lt_of_cell? w _ hw333_0)).trans hw333_0), ((HB.out.cell (World.block_lt_of_cell? w _ hw333_1)).trans hw333_1), ((HB.out.cell (World.block_lt_of_cell? w _ hw333_2)).trans hw333_2), ((HB.out.cell (World.block_lt_of_cell? w _ hw333_3)).trans hw333_3), ((HB.out.cell (World.block_lt_of_cell? w _ hw334_0)).trans hw334_0), ((HB.out.cell (World.block_lt_of_cell? w _ hw334_1)).trans hw334_1), ((HB.out.cell (World.block_lt_of_cell? w _ hw334_2)).trans hw334_2), ((HB.out.cell (World.block_lt_of_cell? w _ hw334_3)).trans hw334_3), ((HB.out.cell (World.block_lt_of_cell? w _ hw335_0)).trans hw335_0), ((HB.out.cell (World.block_lt_of_cell? w _ hw335_1)).trans hw335_1), ((HB.out.cell (World.block_lt_of_cell? w _ hw335_2)).trans hw335_2), ((HB.out.cell (World.block_lt_of_cell? w _ hw335_3)).trans hw335_3)⟩ (fun hHeld => ?_); refine with_tabW stolonref07_Same.tab7 stolonref07_Same.bits7 (fun HT_ HW_ => ?_)
             generalize w19.drew = w20 at BK327 BK328 HB HR332_3 HR333_3 HR334_3 HR335_3 hx332_0 hx332_1 hx332_2 hx332_3 hx333_0 hx333_1 hx333_2 hx333_3 hx334_0 hx334_1 hx334_2 hx334_3 hx335_0 hx335_1 hx335_2 hx335_3 hHeld ⊢
             refine pw 0 34 (bb 32 1) rfl rfl HT_ ?_
             refine pw 1 35 (bb 32 3) rfl rfl HT_ ?_
             refine pw 2 36 (bb 32 7) rfl rfl HT_ ?_
             refine pw 3 37 (bb 32 15) rfl rfl HT_ ?_
             refine pw 5 39 (bb 32 47) rfl rfl HT_ ?_
             refine pw 9 43 (bb 32 559) rfl rfl HT_ ?_
             refine pw 11 45 (bb 32 2607) rfl rfl HT_ ?_
             refine tk 4 38 (bb 32 2623) rfl rfl HT_ HW_ hHeld ?_
             refine pw 6 40 (bb 32 2687) rfl rfl HT_ ?_
             refine pw 7 41 (bb 32 2815) rfl rfl HT_ ?_
             refine tk 8 42 (bb 32 3071) rfl rfl HT_ HW_ hHeld ?_
             refine tk 10 44 (bb 32 4095) rfl rfl HT_ HW_ hHeld ?_
             refine pw 12 46 (bb 32 8191) rfl rfl HT_ ?_
             refine pw 13 47 (bb 32 16383) rfl rfl HT_ ?_
             refine tk 14 48 (bb 32 32767) rfl rfl HT_ HW_ hHeld ?_
             refine pw 15 49 (bb 32 65535) rfl rfl HT_ ?_
             refine pw 16 50 (bb 32 131071) rfl rfl HT_ ?_
             refine pw 17 51 (bb 32 262143) rfl rfl HT_ ?_
             refine pw 18 52 (bb 32 524287) rfl rfl HT_ ?_
             refine pw 20 54 (bb 32 1572863) rfl rfl HT_ ?_
             refine pw 24 58 (bb 32 18350079) rfl rfl HT_ ?_
             refine pw 26 60 (bb 32 85458943) rfl rfl HT_ ?_
             refine tk 19 53 (bb 32 85983231) rfl rfl HT_ HW_ hHeld ?_
             refine pw 21 55 (bb 32 88080383) rfl rfl HT_ ?_
             refine pw 22 56 (bb 32 92274687) rfl rfl HT_ ?_
             refine tk 23 57 (bb 32 100663295) rfl rfl HT_ HW_ hHeld ?_
             refine tk 25 59 (bb 32 134217727) rfl rfl HT_ HW_ hHeld ?_
             refine pw 27 61 (bb 32 268435455) rfl rfl HT_ ?_
             refine pw 28 62 (bb 32 536870911) rfl rfl HT_ ?_
             refine tk 29 63 (bb 32 1073741823) rfl rfl HT_ HW_ hHeld ?_
             refine pw 30 64 (bb 32 2147483647) rfl rfl HT_ ?_
             refine pw 31 65 (bb 32 4294967295) rfl rfl HT_ ?_
             refine done_ (done_of HT_.out (by kernel_rfl)) ?_
             try go_wp2
             go_roundg k1
             case measure => have := HK1.out; omega
             case rel => exact ⟨(wrap64 (x5_1 + 1)), (fr), H', ⟨by have := HK1.out; omega⟩, ⟨BK327.out⟩, ⟨BK328.out⟩, ⟨HB.out⟩⟩
           · rw [if_neg c15] at H
             have c15b0 : (((rd_T42 l0_0 x5_1).f1) == ((rd_T42 l1_0 x5_1).f1)) = false := beq_eq_false_iff_ne.mpr c15
             have c15b1 : (((rd_T42 l0_0 x5_1).f1) != ((rd_T42 l1_0 x5_1).f1)) = true := bne_iff_ne.mpr c15
             obtain rfl := Option.some.inj H
             have hnb21 := NB327_328.out
             have hnc21 := NB328_327.out
             obtain ⟨hcz22_0, hfz22_0⟩ := cf1 BK327.out
             try go_wp2
             have n0_ := Aside0.mk (blk_drew BK327.out)
             have n1_ := Aside0.mk (blk_drew BK328.out)
             have n2_ := Aside0.mk (below_drew1 HB.out)
             clear BK327
             clear BK328
             clear HB
             have BK327 := n0_
             have BK328 := n1_
             have HB := n2_
             clear n0_ n1_ n2_
             have p329 : 0 ≤ (x5_1 : Int) := od
             have q329 : x5_1 < (l0_0.length : Int) := od
             obtain ⟨ad329, A329_3, c329_3, e329, hx329_0, hx329_1, hx329_2, hx329_3, hl329_3, hi329_3⟩ := at_T42 HR0_0.out x5_1 p329 q329
             have hw329_3 := hx329_3
             have hw329_2 := hx329_2
             have hw329_1 := hx329_1
             have hw329_0 := hx329_0
             cases e329
             replace hx329_0 := hcz HB hx329_0
             replace hx329_1 := hcz HB hx329_1
             replace hx329_2 := hcz HB hx329_2
             replace hx329_3 := hcz HB hx329_3
             have HR329_3 := Aside0.mk hi329_3
             have HC329_3 := Aside0.mk hl329_3
             clear hi329_3 hl329_3
             replace p329 := eq_true p329
             replace q329 := eq_true q329
             have p330 : 0 ≤ (x5_1 : Int) := od
             have q330 : x5_1 < (l1_0.length : Int) := od
             obtain ⟨ad330, A330_3, c330_3, e330, hx330_0, hx330_1, hx330_2, hx330_3, hl330_3, hi330_3⟩ := at_T42 HR1_0.out x5_1 p330 q330
             have hw330_3 := hx330_3
             have hw330_2 := hx330_2
             have hw330_1 := hx330_1
             have hw330_0 := hx330_0
             cases e330
             replace hx330_0 := hcz HB hx330_0
             replace hx330_1 := hcz HB hx330_1
             replace hx330_2 := hcz HB hx330_2
             replace hx330_3 := hcz HB hx330_3
             have HR330_3 := Aside0.mk hi330_3
             have HC330_3 := Aside0.mk hl330_3
             clear hi330_3 hl330_3
             replace p330 := eq_true p330
             replace q330 := eq_true q330
             refine start_ (n := 14) (S := fun w' => w'.cell? ⟨gb327, 0, none⟩ = some (.slice (some ad329) l0_0.length c0_0) ∧ w'.cell? ⟨gb328, 0, none⟩ = some (.slice (some ad330) l1_0.length c1_0) ∧ w'.cell? (ad329.add ((x5_1).toNat * 4)) = some (.int .i64 ((rd_T42 l0_0 x5_1).f0)) ∧ w'.cell? ⟨(ad329.add ((x5_1).toNat * 4)).block, (ad329.add ((x5_1).toNat * 4)).off + 1, none⟩ = some (.int .u32 ((rd_T42 l0_0 x5_1).f1)) ∧ w'.cell? ⟨(ad329.add ((x5_1).toNat * 4)).block, (ad329.add ((x5_1).toNat * 4)).off + 2, none⟩ = some (.bool ((rd_T42 l0_0 x5_1).f2.f0)) ∧ w'.cell? ⟨(ad329.add ((x5_1).toNat * 4)).block, (ad329.add ((x5_1).toNat * 4)).off + 3, none⟩ = some (.slice A329_3 ((rd_T42 l0_0 x5_1).f2.f1).length c329_3) ∧ w'.cell? (ad330.add ((x5_1).toNat * 4)) = some (.int .i64 ((rd_T42 l1_0 x5_1).f0)) ∧ w'.cell? ⟨(ad330.add ((x5_1).toNat * 4)).block, (ad330.add ((x5_1).toNat * 4)).off + 1, none⟩ = some (.int .u32 ((rd_T42 l1_0 x5_1).f1)) ∧ w'.cell? ⟨(ad330.add ((x5_1).toNat * 4)).block, (ad330.add ((x5_1).toNat * 4)).off + 2, none⟩ = some (.bool ((rd_T42 l1_0 x5_1).f2.f0)) ∧ w'.cell? ⟨(ad330.add ((x5_1).toNat * 4)).block, (ad330.add ((x5_1).toNat * 4)).off + 3, none⟩ = some (.slice A330_3 ((rd_T42 l1_0 x5_1).f2.f1).length c330_3)) (ds := []) #[false, false, false, false, false, false, false, false, false, false, false, false, false, false] (by kernel_rfl) rfl rfl ⟨(blk_cell BK327.out 0).trans rfl, (blk_cell BK328.out 0).trans rfl, ((HB.out.cell (World.block_lt_of_cell? w _ hw329_0)).trans hw329_0), ((HB.out.cell (World.block_lt_of_cell? w _ hw329_1)).trans hw329_1), ((HB.out.cell (World.block_lt_of_cell? w _ hw329_2)).trans hw329_2), ((HB.out.cell (World.block_lt_of_cell? w _ hw329_3)).trans hw329_3), ((HB.out.cell (World.block_lt_of_cell? w _ hw330_0)).trans hw330_0), ((HB.out.cell (World.block_lt_of_cell? w _ hw330_1)).trans hw330_1), ((HB.out.cell (World.block_lt_of_cell? w _ hw330_2)).trans hw330_2), ((HB.out.cell (World.block_lt_of_cell? w _ hw330_3)).trans hw330_3)⟩ (fun hHeld => ?_); refine with_tabW stolonref07_Same.tab6 stolonref07_Same.bits6 (fun HT_ HW_ => ?_)
             generalize wr.drew = w23 at BK327 BK328 HB HR329_3 HR330_3 hx329_0 hx329_1 hx329_2 hx329_3 hx330_0 hx330_1 hx330_2 hx330_3 hHeld ⊢
             refine pw 0 21 (bb 14 1) rfl rfl HT_ ?_
             refine pw 2 23 (bb 14 5) rfl rfl HT_ ?_
             refine pw 6 27 (bb 14 69) rfl rfl HT_ ?_
             refine pw 8 29 (bb 14 325) rfl rfl HT_ ?_
             refine tk 1 22 (bb 14 327) rfl rfl HT_ HW_ hHeld ?_
             refine pw 3 24 (bb 14 335) rfl rfl HT_ ?_
             refine pw 4 25 (bb 14 351) rfl rfl HT_ ?_
             refine tk 5 26 (bb 14 383) rfl rfl HT_ HW_ hHeld ?_
             refine tk 7 28 (bb 14 511) rfl rfl HT_ HW_ hHeld ?_
             refine pw 9 30 (bb 14 1023) rfl rfl HT_ ?_
             refine pw 10 31 (bb 14 2047) rfl rfl HT_ ?_
             refine tk 11 32 (bb 14 4095) rfl rfl HT_ HW_ hHeld ?_
             refine on1 12 (some 33) (bb 14 8191) rfl rfl HT_ (fun K hK => ?_)
             refine gfn Try.func17 #[.agg #[.bool ((rd_T42 l0_0 x5_1).f2.f0), .slice A329_3 ((rd_T42 l0_0 x5_1).f2.f1).length c329_3], .agg #[.bool ((rd_T42 l1_0 x5_1).f2.f0), .slice A330_3 ((rd_T42 l1_0 x5_1).f2.f1).length c330_3]] ?_
             with_reducible refine (stolonref06_Same.calls k1 ((rd_T42 l0_0 x5_1).f2.f0) _ _ ((rd_T42 l0_0 x5_1).f2.f1) ((rd_T42 l1_0 x5_1).f2.f0) _ _ ((rd_T42 l1_0 x5_1).f2.f1) true _ ?side1 ?side2 ?side3 ?side4 A12.out).mono ?_
             (case side1 => exact ca (Kd.C_below HR329_3.out HB.out))
             (case side2 => exact HC329_3.out)
             (case side3 => exact ca (Kd.C_below HR330_3.out HB.out))
             (case side4 => exact HC330_3.out)
             rintro e w24 ⟨rfl, hb⟩
             refine ⟨_, rfl, ?_⟩
             have n0_ := Aside0.mk (blk_below BK327.out hb)
             have n1_ := Aside0.mk (blk_below BK328.out hb)
             have n2_ := Aside0.mk (below_step HB.out hb)
             clear BK327
             clear BK328
             clear HB
             have BK327 := n0_
             have BK328 := n1_
             have HB := n2_
             clear n0_ n1_ n2_
             (try clear hb)
             (try clear hb2)
             (try clear hk)
             (try clear hi)
             refine hK.out _ _ ⟨(blk_cell BK327.out 0).trans rfl, (blk_cell BK328.out 0).trans rfl, ((HB.out.cell (World.block_lt_of_cell? w _ hw329_0)).trans hw329_0), ((HB.out.cell (World.block_lt_of_cell? w _ hw329_1)).trans hw329_1), ((HB.out.cell (World.block_lt_of_cell? w _ hw329_2)).trans hw329_2), ((HB.out.cell (World.block_lt_of_cell? w _ hw329_3)).trans hw329_3), ((HB.out.cell (World.block_lt_of_cell? w _ hw330_0)).trans hw330_0), ((HB.out.cell (World.block_lt_of_cell? w _ hw330_1)).trans hw330_1), ((HB.out.cell (World.block_lt_of_cell? w _ hw330_2)).trans hw330_2), ((HB.out.cell (World.block_lt_of_cell? w _ hw330_3)).trans hw330_3)⟩ (fun hHeld => ?_)
             clear hK K
             refine nm ?_
             refine pw 13 6 (bb 14 16383) rfl rfl HT_ ?_
             refine done_ (done_of HT_.out (by kernel_rfl)) ?_
             try go_wp2
             have n0_ := Aside0.mk (blk_drew BK327.out)
             have n1_ := Aside0.mk (blk_drew BK328.out)
             have n2_ := Aside0.mk (below_drew1 HB.out)
             clear BK327
             clear BK328
             clear HB
             have BK327 := n0_
             have BK328 := n1_
             have HB := n2_
             clear n0_ n1_ n2_
             have p332 : 0 ≤ (x5_1 : Int) := od
             have q332 : x5_1 < (l0_0.length : Int) := od
             obtain ⟨ad332, A332_3, c332_3, e332, hx332_0, hx332_1, hx332_2, hx332_3, hl332_3, hi332_3⟩ := at_T42 HR0_0.out x5_1 p332 q332
             have hw332_3 := hx332_3
             have hw332_2 := hx332_2
             have hw332_1 := hx332_1
             have hw332_0 := hx332_0
             obtain rfl : ad329 = ad332 := (by injection e332)
             replace hx332_0 := hcz HB hx332_0
             replace hx332_1 := hcz HB hx332_1
             replace hx332_2 := hcz HB hx332_2
             replace hx332_3 := hcz HB hx332_3
             have HR332_3 := Aside0.mk hi332_3
             have HC332_3 := Aside0.mk hl332_3
             clear hi332_3 hl332_3
             replace p332 := eq_true p332
             replace q332 := eq_true q332
             have p333 : 0 ≤ (x5_1 : Int) := od
             have q333 : x5_1 < (l1_0.length : Int) := od
             obtain ⟨ad333, A333_3, c333_3, e333, hx333_0, hx333_1, hx333_2, hx333_3, hl333_3, hi333_3⟩ := at_T42 HR1_0.out x5_1 p333 q333
             have hw333_3 := hx333_3
             have hw333_2 := hx333_2
             have hw333_1 := hx333_1
             have hw333_0 := hx333_0
             obtain rfl : ad330 = ad333 := (by injection e333)
             replace hx333_0 := hcz HB hx333_0
             replace hx333_1 := hcz HB hx333_1
             replace hx333_2 := hcz HB hx333_2
             replace hx333_3 := hcz HB hx333_3
             have HR333_3 := Aside0.mk hi333_3
             have HC333_3 := Aside0.mk hl333_3
             clear hi333_3 hl333_3
             replace p333 := eq_true p333
             replace q333 := eq_true q333
             have p334 : 0 ≤ (x5_1 : Int) := od
             have q334 : x5_1 < (l0_0.length : Int) := od
             obtain ⟨ad334, A334_3, c334_3, e334, hx334_0, hx334_1, hx334_2, hx334_3, hl334_3, hi334_3⟩ := at_T42 HR0_0.out x5_1 p334 q334
             have hw334_3 := hx334_3
             have hw334_2 := hx334_2
             have hw334_1 := hx334_1
             have hw334_0 := hx334_0
             obtain rfl : ad329 = ad334 := (by injection e334)
             replace hx334_0 := hcz HB hx334_0
             replace hx334_1 := hcz HB hx334_1
             replace hx334_2 := hcz HB hx334_2
             replace hx334_3 := hcz HB hx334_3
             have HR334_3 := Aside0.mk hi334_3
             have HC334_3 := Aside0.mk hl334_3
             clear hi334_3 hl334_3
             replace p334 := eq_true p334
             replace q334 := eq_true q334
             have ea_ := Option.some.inj (hx332_3.symm.trans hx334_3)
             injection ea_ with ea_ en_ ec_
             subst ea_
             subst ec_
             clear en_
             have p335 : 0 ≤ (x5_1 : Int) := od
             have q335 : x5_1 < (l1_0.length : Int) := od
             obtain ⟨ad335, A335_3, c335_3, e335, hx335_0, hx335_1, hx335_2, hx335_3, hl335_3, hi335_3⟩ := at_T42 HR1_0.out x5_1 p335 q335
             have hw335_3 := hx335_3
             have hw335_2 := hx335_2
             have hw335_1 := hx335_1
             have hw335_0 := hx335_0
             obtain rfl : ad330 = ad335 := (by injection e335)
             replace hx335_0 := hcz HB hx335_0
             replace hx335_1 := hcz HB hx335_1
             replace hx335_2 := hcz HB hx335_2
             replace hx335_3 := hcz HB hx335_3
             have HR335_3 := Aside0.mk hi335_3
             have HC335_3 := Aside0.mk hl335_3
             clear hi335_3 hl335_3
             replace p335 := eq_true p335
             replace q335 := eq_true q335
             have ea_ := Option.some.inj (hx333_3.symm.trans hx335_3)
             injection ea_ with ea_ en_ ec_
             subst ea_
             subst ec_
             clear en_
             refine start_ (n := 32) (S := fun w' => w'.cell? ⟨gb327, 0, none⟩ = some (.slice (some ad329) l0_0.length c0_0) ∧ w'.cell? ⟨gb328, 0, none⟩ = some (.slice (some ad330) l1_0.length c1_0) ∧ w'.cell? (ad329.add ((x5_1).toNat * 4)) = some (.int .i64 ((rd_T42 l0_0 x5_1).f0)) ∧ w'.cell? ⟨(ad329.add ((x5_1).toNat * 4)).block, (ad329.add ((x5_1).toNat * 4)).off + 1, none⟩ = some (.int .u32 ((rd_T42 l0_0 x5_1).f1)) ∧ w'.cell? ⟨(ad329.add ((x5_1).toNat * 4)).block, (ad329.add ((x5_1).toNat * 4)).off + 2, none⟩ = some (.bool ((rd_T42 l0_0 x5_1).f2.f0)) ∧ w'.cell? ⟨(ad329.add ((x5_1).toNat * 4)).block, (ad329.add ((x5_1).toNat * 4)).off + 3, none⟩ = some (.slice A332_3 ((rd_T42 l0_0 x5_1).f2.f1).length c332_3) ∧ w'.cell? (ad330.add ((x5_1).toNat * 4)) = some (.int .i64 ((rd_T42 l1_0 x5_1).f0)) ∧ w'.cell? ⟨(ad330.add ((x5_1).toNat * 4)).block, (ad330.add ((x5_1).toNat * 4)).off + 1, none⟩ = some (.int .u32 ((rd_T42 l1_0 x5_1).f1)) ∧ w'.cell? ⟨(ad330.add ((x5_1).toNat * 4)).block, (ad330.add ((x5_1).toNat * 4)).off + 2, none⟩ = some (.bool ((rd_T42 l1_0 x5_1).f2.f0)) ∧ w'.cell? ⟨(ad330.add ((x5_1).toNat * 4)).block, (ad330.add ((x5_1).toNat * 4)).off + 3, none⟩ = some (.slice A333_3 ((rd_T42 l1_0 x5_1).f2.f1).length c333_3) ∧ w'.cell? (ad329.add ((x5_1).toNat * 4)) = some (.int .i64 ((rd_T42 l0_0 x5_1).f0)) ∧ w'.cell? ⟨(ad329.add ((x5_1).toNat * 4)).block, (ad329.add ((x5_1).toNat * 4)).off + 1, none⟩ = some (.int .u32 ((rd_T42 l0_0 x5_1).f1)) ∧ w'.cell? ⟨(ad329.add ((x5_1).toNat * 4)).block, (ad329.add ((x5_1).toNat * 4)).off + 2, none⟩ = some (.bool ((rd_T42 l0_0 x5_1).f2.f0)) ∧ w'.cell? ⟨(ad329.add ((x5_1).toNat * 4)).block, (ad329.add ((x5_1).toNat * 4)).off + 3, none⟩ = some (.slice A332_3 ((rd_T42 l0_0 x5_1).f2.f1).length c332_3) ∧ w'.cell? (ad330.add ((x5_1).toNat * 4)) = some (.int .i64 ((rd_T42 l1_0 x5_1).f0)) ∧ w'.cell? ⟨(ad330.add ((x5_1).toNat * 4)).block, (ad330.add ((x5_1).toNat * 4)).off + 1, none⟩ = some (.int .u32 ((rd_T42 l1_0 x5_1).f1)) ∧ w'.cell? ⟨(ad330.add ((x5_1).toNat * 4)).block, (ad330.add ((x5_1).toNat * 4)).off + 2, none⟩ = some (.bool ((rd_T42 l1_0 x5_1).f2.f0)) ∧ w'.cell? ⟨(ad330.add ((x5_1).toNat * 4)).block, (ad330.add ((x5_1).toNat * 4)).off + 3, none⟩ = some (.slice A333_3 ((rd_T42 l1_0 x5_1).f2.f1).length c333_3)) (ds := []) #[false, false, false, false, false, false, false, false, false, false, false, false, false, false, false, false, false, false, false, false, false, false, false, false, false, false, false, false, false, false, false, false] (by kernel_rfl) rfl rfl ⟨(blk_cell BK327.out 0).trans rfl, (blk_cell BK328.out 0).trans rfl, ((HB.out.cell (World.block_lt_of_cell? w _ hw332_0)).trans hw332_0), ((HB.out.cell (World.block_lt_of_cell? w _ hw332_1)).trans hw332_1), ((HB.out.cell (World.block_lt_of_cell? w _ hw332_2)).trans hw332_2), ((HB.out.cell (World.block_lt_of_cell? w _ hw332_3)).trans hw332_3), ((HB.out.cell (World.block_lt_of_cell? w _ hw333_0)).trans hw333_0), ((HB.out.cell (World.block_lt_of_cell? w _ hw333_1)).trans hw333_1), ((HB.out.cell (World.block_lt_of_cell? w _ hw333_2)).trans hw333_2), ((HB.out.cell (World.block_lt_of_cell? w _ hw333_3)).trans hw333_3), ((HB.out.cell (World.block_lt_of_cell? w _ hw334_0)).trans hw334_0), ((HB.out.cell (World.block_lt_of_cell? w _ hw334_1)).trans hw334_1), ((HB.out.cell (World.block_lt_of_cell? w _ hw334_2)).trans hw334_2), ((HB.out.cell (World.block_lt_of_cell? w _ hw334_3)).trans hw334_3), ((HB.out.cell (World.block_lt_of_cell? w _ hw335_0)).trans hw335_0), ((HB.out.cell (World.block_lt_of_cell? w _ hw335_1)).trans hw335_1), ((HB.out.cell (World.block_lt_of_cell? w _ hw335_2)).trans hw335_2), ((HB.out.cell (World.block_lt_of_cell? w _ hw335_3)).trans hw335_3)⟩ (fun hHeld => ?_); refine with_tabW stolonref07_Same.tab7 stolonref07_Same.bits7 (fun HT_ HW_ => ?_)
             generalize w24.drew = w25 at BK327 BK328 HB HR332_3 HR333_3 HR334_3 HR335_3 hx332_0 hx332_1 hx332_2 hx332_3 hx333_0 hx333_1 hx333_2 hx333_3 hx334_0 hx334_1 hx334_2 hx334_3 hx335_0 hx335_1 hx335_2 hx335_3 hHeld ⊢
             refine pw 0 34 (bb 32 1) rfl rfl HT_ ?_
             refine pw 1 35 (bb 32 3) rfl rfl HT_ ?_
             refine pw 2 36 (bb 32 7) rfl rfl HT_ ?_
             refine pw 3 37 (bb 32 15) rfl rfl HT_ ?_
             refine pw 5 39 (bb 32 47) rfl rfl HT_ ?_
             refine pw 9 43 (bb 32 559) rfl rfl HT_ ?_
             refine pw 11 45 (bb 32 2607) rfl rfl HT_ ?_
             refine tk 4 38 (bb 32 2623) rfl rfl HT_ HW_ hHeld ?_
             refine pw 6 40 (bb 32 2687) rfl rfl HT_ ?_
             refine pw 7 41 (bb 32 2815) rfl rfl HT_ ?_
             refine tk 8 42 (bb 32 3071) rfl rfl HT_ HW_ hHeld ?_
             refine tk 10 44 (bb 32 4095) rfl rfl HT_ HW_ hHeld ?_
             refine pw 12 46 (bb 32 8191) rfl rfl HT_ ?_
             refine pw 13 47 (bb 32 16383) rfl rfl HT_ ?_
             refine tk 14 48 (bb 32 32767) rfl rfl HT_ HW_ hHeld ?_
             refine pw 15 49 (bb 32 65535) rfl rfl HT_ ?_
             refine pw 16 50 (bb 32 131071) rfl rfl HT_ ?_
             refine pw 17 51 (bb 32 262143) rfl rfl HT_ ?_
             refine pw 18 52 (bb 32 524287) rfl rfl HT_ ?_
             refine pw 20 54 (bb 32 1572863) rfl rfl HT_ ?_
             refine pw 24 58 (bb 32 18350079) rfl rfl HT_ ?_
             refine pw 26 60 (bb 32 85458943) rfl rfl HT_ ?_
             refine tk 19 53 (bb 32 85983231) rfl rfl HT_ HW_ hHeld ?_
             refine pw 21 55 (bb 32 88080383) rfl rfl HT_ ?_
             refine pw 22 56 (bb 32 92274687) rfl rfl HT_ ?_
             refine tk 23 57 (bb 32 100663295) rfl rfl HT_ HW_ hHeld ?_
             refine tk 25 59 (bb 32 134217727) rfl rfl HT_ HW_ hHeld ?_
             refine pw 27 61 (bb 32 268435455) rfl rfl HT_ ?_
             refine pw 28 62 (bb 32 536870911) rfl rfl HT_ ?_
             refine tk 29 63 (bb 32 1073741823) rfl rfl HT_ HW_ hHeld ?_
             refine pw 30 64 (bb 32 2147483647) rfl rfl HT_ ?_
             refine pw 31 65 (bb 32 4294967295) rfl rfl HT_ ?_
             refine done_ (done_of HT_.out (by kernel_rfl)) ?_
             try go_wp2
             go_ret
             exact ⟨by first | rfl | (simp [errW_none, errW_some] <;> rfl) | (simp [*, errW_none, errW_some] <;> rfl), bl HB⟩
         · rw [if_neg c14] at H
           have c14b0 : (((rd_T42 l0_0 x5_1).f0) == ((rd_T42 l1_0 x5_1).f0)) = false := beq_eq_false_iff_ne.mpr c14
           have c14b1 : (((rd_T42 l0_0 x5_1).f0) != ((rd_T42 l1_0 x5_1).f0)) = true := bne_iff_ne.mpr c14
           obtain rfl := Option.some.inj H
           have hnb26 := NB327_328.out
           have hnc26 := NB328_327.out
           obtain ⟨hcz27_0, hfz27_0⟩ := cf1 BK327.out
           try go_wp2
           have n0_ := Aside0.mk (blk_drew BK327.out)
           have n1_ := Aside0.mk (blk_drew BK328.out)
           have n2_ := Aside0.mk (below_drew1 HB.out)
           clear BK327
           clear BK328
           clear HB
           have BK327 := n0_
           have BK328 := n1_
           have HB := n2_
           clear n0_ n1_ n2_
           have p329 : 0 ≤ (x5_1 : Int) := od
           have q329 : x5_1 < (l0_0.length : Int) := od
           obtain ⟨ad329, A329_3, c329_3, e329, hx329_0, hx329_1, hx329_2, hx329_3, hl329_3, hi329_3⟩ := at_T42 HR0_0.out x5_1 p329 q329
           have hw329_3 := hx329_3
           have hw329_2 := hx329_2
           have hw329_1 := hx329_1
           have hw329_0 := hx329_0
           cases e329
           replace hx329_0 := hcz HB hx329_0
           replace hx329_1 := hcz HB hx329_1
           replace hx329_2 := hcz HB hx329_2
           replace hx329_3 := hcz HB hx329_3
           have HR329_3 := Aside0.mk hi329_3
           have HC329_3 := Aside0.mk hl329_3
           clear hi329_3 hl329_3
           replace p329 := eq_true p329
           replace q329 := eq_true q329
           have p330 : 0 ≤ (x5_1 : Int) := od
           have q330 : x5_1 < (l1_0.length : Int) := od
           obtain ⟨ad330, A330_3, c330_3, e330, hx330_0, hx330_1, hx330_2, hx330_3, hl330_3, hi330_3⟩ := at_T42 HR1_0.out x5_1 p330 q330
           have hw330_3 := hx330_3
           have hw330_2 := hx330_2
           have hw330_1 := hx330_1
           have hw330_0 := hx330_0
           cases e330
           replace hx330_0 := hcz HB hx330_0
           replace hx330_1 := hcz HB hx330_1
           replace hx330_2 := hcz HB hx330_2
           replace hx330_3 := hcz HB hx330_3
           have HR330_3 := Aside0.mk hi330_3
           have HC330_3 := Aside0.mk hl330_3
           clear hi330_3 hl330_3
           replace p330 := eq_true p330
           replace q330 := eq_true q330
           refine start_ (n := 14) (S := fun w' => w'.cell? ⟨gb327, 0, none⟩ = some (.slice (some ad329) l0_0.length c0_0) ∧ w'.cell? ⟨gb328, 0, none⟩ = some (.slice (some ad330) l1_0.length c1_0) ∧ w'.cell? (ad329.add ((x5_1).toNat * 4)) = some (.int .i64 ((rd_T42 l0_0 x5_1).f0)) ∧ w'.cell? ⟨(ad329.add ((x5_1).toNat * 4)).block, (ad329.add ((x5_1).toNat * 4)).off + 1, none⟩ = some (.int .u32 ((rd_T42 l0_0 x5_1).f1)) ∧ w'.cell? ⟨(ad329.add ((x5_1).toNat * 4)).block, (ad329.add ((x5_1).toNat * 4)).off + 2, none⟩ = some (.bool ((rd_T42 l0_0 x5_1).f2.f0)) ∧ w'.cell? ⟨(ad329.add ((x5_1).toNat * 4)).block, (ad329.add ((x5_1).toNat * 4)).off + 3, none⟩ = some (.slice A329_3 ((rd_T42 l0_0 x5_1).f2.f1).length c329_3) ∧ w'.cell? (ad330.add ((x5_1).toNat * 4)) = some (.int .i64 ((rd_T42 l1_0 x5_1).f0)) ∧ w'.cell? ⟨(ad330.add ((x5_1).toNat * 4)).block, (ad330.add ((x5_1).toNat * 4)).off + 1, none⟩ = some (.int .u32 ((rd_T42 l1_0 x5_1).f1)) ∧ w'.cell? ⟨(ad330.add ((x5_1).toNat * 4)).block, (ad330.add ((x5_1).toNat * 4)).off + 2, none⟩ = some (.bool ((rd_T42 l1_0 x5_1).f2.f0)) ∧ w'.cell? ⟨(ad330.add ((x5_1).toNat * 4)).block, (ad330.add ((x5_1).toNat * 4)).off + 3, none⟩ = some (.slice A330_3 ((rd_T42 l1_0 x5_1).f2.f1).length c330_3)) (ds := []) #[false, false, false, false, false, false, false, false, false, false, false, false, false, false] (by kernel_rfl) rfl rfl ⟨(blk_cell BK327.out 0).trans rfl, (blk_cell BK328.out 0).trans rfl, ((HB.out.cell (World.block_lt_of_cell? w _ hw329_0)).trans hw329_0), ((HB.out.cell (World.block_lt_of_cell? w _ hw329_1)).trans hw329_1), ((HB.out.cell (World.block_lt_of_cell? w _ hw329_2)).trans hw329_2), ((HB.out.cell (World.block_lt_of_cell? w _ hw329_3)).trans hw329_3), ((HB.out.cell (World.block_lt_of_cell? w _ hw330_0)).trans hw330_0), ((HB.out.cell (World.block_lt_of_cell? w _ hw330_1)).trans hw330_1), ((HB.out.cell (World.block_lt_of_cell? w _ hw330_2)).trans hw330_2), ((HB.out.cell (World.block_lt_of_cell? w _ hw330_3)).trans hw330_3)⟩ (fun hHeld => ?_); refine with_tabW stolonref07_Same.tab6 stolonref07_Same.bits6 (fun HT_ HW_ => ?_)
           generalize wr.drew = w28 at BK327 BK328 HB HR329_3 HR330_3 hx329_0 hx329_1 hx329_2 hx329_3 hx330_0 hx330_1 hx330_2 hx330_3 hHeld ⊢
           refine pw 0 21 (bb 14 1) rfl rfl HT_ ?_
           refine pw 2 23 (bb 14 5) rfl rfl HT_ ?_
           refine pw 6 27 (bb 14 69) rfl rfl HT_ ?_
           refine pw 8 29 (bb 14 325) rfl rfl HT_ ?_
           refine tk 1 22 (bb 14 327) rfl rfl HT_ HW_ hHeld ?_
           refine pw 3 24 (bb 14 335) rfl rfl HT_ ?_
           refine pw 4 25 (bb 14 351) rfl rfl HT_ ?_
           refine tk 5 26 (bb 14 383) rfl rfl HT_ HW_ hHeld ?_
           refine tk 7 28 (bb 14 511) rfl rfl HT_ HW_ hHeld ?_
           refine pw 9 30 (bb 14 1023) rfl rfl HT_ ?_
           refine pw 10 31 (bb 14 2047) rfl rfl HT_ ?_
           refine tk 11 32 (bb 14 4095) rfl rfl HT_ HW_ hHeld ?_
           refine on1 12 (some 33) (bb 14 8191) rfl rfl HT_ (fun K hK => ?_)
           refine gfn Try.func17 #[.agg #[.bool ((rd_T42 l0_0 x5_1).f2.f0), .slice A329_3 ((rd_T42 l0_0 x5_1).f2.f1).length c329_3], .agg #[.bool ((rd_T42 l1_0 x5_1).f2.f0), .slice A330_3 ((rd_T42 l1_0 x5_1).f2.f1).length c330_3]] ?_
           with_reducible refine (stolonref06_Same.calls k1 ((rd_T42 l0_0 x5_1).f2.f0) _ _ ((rd_T42 l0_0 x5_1).f2.f1) ((rd_T42 l1_0 x5_1).f2.f0) _ _ ((rd_T42 l1_0 x5_1).f2.f1) true _ ?side1 ?side2 ?side3 ?side4 A12.out).mono ?_
           (case side1 => exact ca (Kd.C_below HR329_3.out HB.out))
           (case side2 => exact HC329_3.out)
           (case side3 => exact ca (Kd.C_below HR330_3.out HB.out))
           (case side4 => exact HC330_3.out)
           rintro e w29 ⟨rfl, hb⟩
           refine ⟨_, rfl, ?_⟩
           have n0_ := Aside0.mk (blk_below BK327.out hb)
           have n1_ := Aside0.mk (blk_below BK328.out hb)
           have n2_ := Aside0.mk (below_step HB.out hb)
           clear BK327
           clear BK328
           clear HB
           have BK327 := n0_
           have BK328 := n1_
           have HB := n2_
           clear n0_ n1_ n2_
           (try clear hb)
           (try clear hb2)
           (try clear hk)
           (try clear hi)
           refine hK.out _ _ ⟨(blk_cell BK327.out 0).trans rfl, (blk_cell BK328.out 0).trans rfl, ((HB.out.cell (World.block_lt_of_cell? w _ hw329_0)).trans hw329_0), ((HB.out.cell (World.block_lt_of_cell? w _ hw329_1)).trans hw329_1), ((HB.out.cell (World.block_lt_of_cell? w _ hw329_2)).trans hw329_2), ((HB.out.cell (World.block_lt_of_cell? w _ hw329_3)).trans hw329_3), ((HB.out.cell (World.block_lt_of_cell? w _ hw330_0)).trans hw330_0), ((HB.out.cell (World.block_lt_of_cell? w _ hw330_1)).trans hw330_1), ((HB.out.cell (World.block_lt_of_cell? w _ hw330_2)).trans hw330_2), ((HB.out.cell (World.block_lt_of_cell? w _ hw330_3)).trans hw330_3)⟩ (fun hHeld => ?_)
           clear hK K
           refine nm ?_
           refine pw 13 6 (bb 14 16383) rfl rfl HT_ ?_
           refine done_ (done_of HT_.out (by kernel_rfl)) ?_
           try go_wp2
           have n0_ := Aside0.mk (blk_drew BK327.out)
           have n1_ := Aside0.mk (blk_drew BK328.out)
           have n2_ := Aside0.mk (below_drew1 HB.out)
           clear BK327
           clear BK328
           clear HB
           have BK327 := n0_
           have BK328 := n1_
           have HB := n2_
           clear n0_ n1_ n2_
           have p332 : 0 ≤ (x5_1 : Int) := od
           have q332 : x5_1 < (l0_0.length : Int) := od
           obtain ⟨ad332, A332_3, c332_3, e332, hx332_0, hx332_1, hx332_2, hx332_3, hl332_3, hi332_3⟩ := at_T42 HR0_0.out x5_1 p332 q332
           have hw332_3 := hx332_3
           have hw332_2 := hx332_2
           have hw332_1 := hx332_1
           have hw332_0 := hx332_0
           obtain rfl : ad329 = ad332 := (by injection e332)
           replace hx332_0 := hcz HB hx332_0
           replace hx332_1 := hcz HB hx332_1
           replace hx332_2 := hcz HB hx332_2
           replace hx332_3 := hcz HB hx332_3
           have HR332_3 := Aside0.mk hi332_3
           have HC332_3 := Aside0.mk hl332_3
           clear hi332_3 hl332_3
           replace p332 := eq_true p332
           replace q332 := eq_true q332
           have p333 : 0 ≤ (x5_1 : Int) := od
           have q333 : x5_1 < (l1_0.length : Int) := od
           obtain ⟨ad333, A333_3, c333_3, e333, hx333_0, hx333_1, hx333_2, hx333_3, hl333_3, hi333_3⟩ := at_T42 HR1_0.out x5_1 p333 q333
           have hw333_3 := hx333_3
           have hw333_2 := hx333_2
           have hw333_1 := hx333_1
           have hw333_0 := hx333_0
           obtain rfl : ad330 = ad333 := (by injection e333)
           replace hx333_0 := hcz HB hx333_0
           replace hx333_1 := hcz HB hx333_1
           replace hx333_2 := hcz HB hx333_2
           replace hx333_3 := hcz HB hx333_3
           have HR333_3 := Aside0.mk hi333_3
           have HC333_3 := Aside0.mk hl333_3
           clear hi333_3 hl333_3
           replace p333 := eq_true p333
           replace q333 := eq_true q333
           refine start_ (n := 32) (S := fun w' => w'.cell? ⟨gb327, 0, none⟩ = some (.slice (some ad329) l0_0.length c0_0) ∧ w'.cell? ⟨gb328, 0, none⟩ = some (.slice (some ad330) l1_0.length c1_0) ∧ w'.cell? (ad329.add ((x5_1).toNat * 4)) = some (.int .i64 ((rd_T42 l0_0 x5_1).f0)) ∧ w'.cell? ⟨(ad329.add ((x5_1).toNat * 4)).block, (ad329.add ((x5_1).toNat * 4)).off + 1, none⟩ = some (.int .u32 ((rd_T42 l0_0 x5_1).f1)) ∧ w'.cell? ⟨(ad329.add ((x5_1).toNat * 4)).block, (ad329.add ((x5_1).toNat * 4)).off + 2, none⟩ = some (.bool ((rd_T42 l0_0 x5_1).f2.f0)) ∧ w'.cell? ⟨(ad329.add ((x5_1).toNat * 4)).block, (ad329.add ((x5_1).toNat * 4)).off + 3, none⟩ = some (.slice A332_3 ((rd_T42 l0_0 x5_1).f2.f1).length c332_3) ∧ w'.cell? (ad330.add ((x5_1).toNat * 4)) = some (.int .i64 ((rd_T42 l1_0 x5_1).f0)) ∧ w'.cell? ⟨(ad330.add ((x5_1).toNat * 4)).block, (ad330.add ((x5_1).toNat * 4)).off + 1, none⟩ = some (.int .u32 ((rd_T42 l1_0 x5_1).f1)) ∧ w'.cell? ⟨(ad330.add ((x5_1).toNat * 4)).block, (ad330.add ((x5_1).toNat * 4)).off + 2, none⟩ = some (.bool ((rd_T42 l1_0 x5_1).f2.f0)) ∧ w'.cell? ⟨(ad330.add ((x5_1).toNat * 4)).block, (ad330.add ((x5_1).toNat * 4)).off + 3, none⟩ = some (.slice A333_3 ((rd_T42 l1_0 x5_1).f2.f1).length c333_3)) (ds := []) #[false, false, false, false, false, false, false, false, false, false, false, false, false, false, false, false, false, false, false, false, false, false, false, false, false, false, false, false, false, false, false, false] (by kernel_rfl) rfl rfl ⟨(blk_cell BK327.out 0).trans rfl, (blk_cell BK328.out 0).trans rfl, ((HB.out.cell (World.block_lt_of_cell? w _ hw332_0)).trans hw332_0), ((HB.out.cell (World.block_lt_of_cell? w _ hw332_1)).trans hw332_1), ((HB.out.cell (World.block_lt_of_cell? w _ hw332_2)).trans hw332_2), ((HB.out.cell (World.block_lt_of_cell? w _ hw332_3)).trans hw332_3), ((HB.out.cell (World.block_lt_of_cell? w _ hw333_0)).trans hw333_0), ((HB.out.cell (World.block_lt_of_cell? w _ hw333_1)).trans hw333_1), ((HB.out.cell (World.block_lt_of_cell? w _ hw333_2)).trans hw333_2), ((HB.out.cell (World.block_lt_of_cell? w _ hw333_3)).trans hw333_3)⟩ (fun hHeld => ?_); refine with_tabW stolonref07_Same.tab7 stolonref07_Same.bits7 (fun HT_ HW_ => ?_)
           generalize w29.drew = w30 at BK327 BK328 HB HR332_3 HR333_3 hx332_0 hx332_1 hx332_2 hx332_3 hx333_0 hx333_1 hx333_2 hx333_3 hHeld ⊢
           refine pw 0 34 (bb 32 1) rfl rfl HT_ ?_
           refine pw 1 35 (bb 32 3) rfl rfl HT_ ?_
           refine pw 2 36 (bb 32 7) rfl rfl HT_ ?_
           refine pw 3 37 (bb 32 15) rfl rfl HT_ ?_
           refine pw 5 39 (bb 32 47) rfl rfl HT_ ?_
           refine pw 9 43 (bb 32 559) rfl rfl HT_ ?_
           refine pw 11 45 (bb 32 2607) rfl rfl HT_ ?_
           refine tk 4 38 (bb 32 2623) rfl rfl HT_ HW_ hHeld ?_
           refine pw 6 40 (bb 32 2687) rfl rfl HT_ ?_
           refine pw 7 41 (bb 32 2815) rfl rfl HT_ ?_
           refine tk 8 42 (bb 32 3071) rfl rfl HT_ HW_ hHeld ?_
           refine tk 10 44 (bb 32 4095) rfl rfl HT_ HW_ hHeld ?_
           refine pw 12 46 (bb 32 8191) rfl rfl HT_ ?_
           refine pw 13 47 (bb 32 16383) rfl rfl HT_ ?_
           refine tk 14 48 (bb 32 32767) rfl rfl HT_ HW_ hHeld ?_
           refine pw 15 49 (bb 32 65535) rfl rfl HT_ ?_
           refine pw 16 50 (bb 32 131071) rfl rfl HT_ ?_
           refine pw 17 51 (bb 32 262143) rfl rfl HT_ ?_
           refine pz 18 52 (bb 32 524287) rfl rfl HT_ ?_
           refine pz 19 53 (bb 32 1048575) rfl rfl HT_ ?_
           refine pz 20 54 (bb 32 2097151) rfl rfl HT_ ?_
           refine pz 21 55 (bb 32 4194303) rfl rfl HT_ ?_
           refine pz 22 56 (bb 32 8388607) rfl rfl HT_ ?_
           refine pz 23 57 (bb 32 16777215) rfl rfl HT_ ?_
           refine pz 24 58 (bb 32 33554431) rfl rfl HT_ ?_
           refine pz 25 59 (bb 32 67108863) rfl rfl HT_ ?_
           refine pz 26 60 (bb 32 134217727) rfl rfl HT_ ?_
           refine pz 27 61 (bb 32 268435455) rfl rfl HT_ ?_
           refine pz 28 62 (bb 32 536870911) rfl rfl HT_ ?_
           refine pz 29 63 (bb 32 1073741823) rfl rfl HT_ ?_
           refine pz 30 64 (bb 32 2147483647) rfl rfl HT_ ?_
           refine pw 31 65 (bb 32 4294967295) rfl rfl HT_ ?_
           refine done_ (done_of HT_.out (by kernel_rfl)) ?_
           try go_wp2
           go_ret
           exact ⟨by first | rfl | (simp [errW_none, errW_some] <;> rfl) | (simp [*, errW_none, errW_some] <;> rfl), bl HB⟩
       · replace c13 := Bool.eq_false_iff.mpr c13
         subst c13
         replace H : (some false) = some r := by rw [if_neg (show ¬ (false = true) by decide)] at H; exact H
         obtain rfl := Option.some.inj H
         have hnb31 := NB327_328.out
         have hnc31 := NB328_327.out
         obtain ⟨hcz32_0, hfz32_0⟩ := cf1 BK327.out
         try go_wp2
         have n0_ := Aside0.mk (blk_drew BK327.out)
         have n1_ := Aside0.mk (blk_drew BK328.out)
         have n2_ := Aside0.mk (below_drew1 HB.out)
         clear BK327
         clear BK328
         clear HB
         have BK327 := n0_
         have BK328 := n1_
         have HB := n2_
         clear n0_ n1_ n2_
         have p329 : 0 ≤ (x5_1 : Int) := od
         have q329 : x5_1 < (l0_0.length : Int) := od
         obtain ⟨ad329, A329_3, c329_3, e329, hx329_0, hx329_1, hx329_2, hx329_3, hl329_3, hi329_3⟩ := at_T42 HR0_0.out x5_1 p329 q329
         have hw329_3 := hx329_3
         have hw329_2 := hx329_2
         have hw329_1 := hx329_1
         have hw329_0 := hx329_0
         cases e329
         replace hx329_0 := hcz HB hx329_0
         replace hx329_1 := hcz HB hx329_1
         replace hx329_2 := hcz HB hx329_2
         replace hx329_3 := hcz HB hx329_3
         have HR329_3 := Aside0.mk hi329_3
         have HC329_3 := Aside0.mk hl329_3
         clear hi329_3 hl329_3
         replace p329 := eq_true p329
         replace q329 := eq_true q329
         have p330 : 0 ≤ (x5_1 : Int) := od
         have q330 : x5_1 < (l1_0.length : Int) := od
         obtain ⟨ad330, A330_3, c330_3, e330, hx330_0, hx330_1, hx330_2, hx330_3, hl330_3, hi330_3⟩ := at_T42 HR1_0.out x5_1 p330 q330
         have hw330_3 := hx330_3
         have hw330_2 := hx330_2
         have hw330_1 := hx330_1
         have hw330_0 := hx330_0
         cases e330
         replace hx330_0 := hcz HB hx330_0
         replace hx330_1 := hcz HB hx330_1
         replace hx330_2 := hcz HB hx330_2
         replace hx330_3 := hcz HB hx330_3
         have HR330_3 := Aside0.mk hi330_3
         have HC330_3 := Aside0.mk hl330_3
         clear hi330_3 hl330_3
         replace p330 := eq_true p330
         replace q330 := eq_true q330
         refine start_ (n := 14) (S := fun w' => w'.cell? ⟨gb327, 0, none⟩ = some (.slice (some ad329) l0_0.length c0_0) ∧ w'.cell? ⟨gb328, 0, none⟩ = some (.slice (some ad330) l1_0.length c1_0) ∧ w'.cell? (ad329.add ((x5_1).toNat * 4)) = some (.int .i64 ((rd_T42 l0_0 x5_1).f0)) ∧ w'.cell? ⟨(ad329.add ((x5_1).toNat * 4)).block, (ad329.add ((x5_1).toNat * 4)).off + 1, none⟩ = some (.int .u32 ((rd_T42 l0_0 x5_1).f1)) ∧ w'.cell? ⟨(ad329.add ((x5_1).toNat * 4)).block, (ad329.add ((x5_1).toNat * 4)).off + 2, none⟩ = some (.bool ((rd_T42 l0_0 x5_1).f2.f0)) ∧ w'.cell? ⟨(ad329.add ((x5_1).toNat * 4)).block, (ad329.add ((x5_1).toNat * 4)).off + 3, none⟩ = some (.slice A329_3 ((rd_T42 l0_0 x5_1).f2.f1).length c329_3) ∧ w'.cell? (ad330.add ((x5_1).toNat * 4)) = some (.int .i64 ((rd_T42 l1_0 x5_1).f0)) ∧ w'.cell? ⟨(ad330.add ((x5_1).toNat * 4)).block, (ad330.add ((x5_1).toNat * 4)).off + 1, none⟩ = some (.int .u32 ((rd_T42 l1_0 x5_1).f1)) ∧ w'.cell? ⟨(ad330.add ((x5_1).toNat * 4)).block, (ad330.add ((x5_1).toNat * 4)).off + 2, none⟩ = some (.bool ((rd_T42 l1_0 x5_1).f2.f0)) ∧ w'.cell? ⟨(ad330.add ((x5_1).toNat * 4)).block, (ad330.add ((x5_1).toNat * 4)).off + 3, none⟩ = some (.slice A330_3 ((rd_T42 l1_0 x5_1).f2.f1).length c330_3)) (ds := []) #[false, false, false, false, false, false, false, false, false, false, false, false, false, false] (by kernel_rfl) rfl rfl ⟨(blk_cell BK327.out 0).trans rfl, (blk_cell BK328.out 0).trans rfl, ((HB.out.cell (World.block_lt_of_cell? w _ hw329_0)).trans hw329_0), ((HB.out.cell (World.block_lt_of_cell? w _ hw329_1)).trans hw329_1), ((HB.out.cell (World.block_lt_of_cell? w _ hw329_2)).trans hw329_2), ((HB.out.cell (World.block_lt_of_cell? w _ hw329_3)).trans hw329_3), ((HB.out.cell (World.block_lt_of_cell? w _ hw330_0)).trans hw330_0), ((HB.out.cell (World.block_lt_of_cell? w _ hw330_1)).trans hw330_1), ((HB.out.cell (World.block_lt_of_cell? w _ hw330_2)).trans hw330_2), ((HB.out.cell (World.block_lt_of_cell? w _ hw330_3)).trans hw330_3)⟩ (fun hHeld => ?_); refine with_tabW stolonref07_Same.tab6 stolonref07_Same.bits6 (fun HT_ HW_ => ?_)
         generalize wr.drew = w33 at BK327 BK328 HB HR329_3 HR330_3 hx329_0 hx329_1 hx329_2 hx329_3 hx330_0 hx330_1 hx330_2 hx330_3 hHeld ⊢
         refine pw 0 21 (bb 14 1) rfl rfl HT_ ?_
         refine pw 2 23 (bb 14 5) rfl rfl HT_ ?_
         refine pw 6 27 (bb 14 69) rfl rfl HT_ ?_
         refine pw 8 29 (bb 14 325) rfl rfl HT_ ?_
         refine tk 1 22 (bb 14 327) rfl rfl HT_ HW_ hHeld ?_
         refine pw 3 24 (bb 14 335) rfl rfl HT_ ?_
         refine pw 4 25 (bb 14 351) rfl rfl HT_ ?_
         refine tk 5 26 (bb 14 383) rfl rfl HT_ HW_ hHeld ?_
         refine tk 7 28 (bb 14 511) rfl rfl HT_ HW_ hHeld ?_
         refine pw 9 30 (bb 14 1023) rfl rfl HT_ ?_
         refine pw 10 31 (bb 14 2047) rfl rfl HT_ ?_
         refine tk 11 32 (bb 14 4095) rfl rfl HT_ HW_ hHeld ?_
         refine on1 12 (some 33) (bb 14 8191) rfl rfl HT_ (fun K hK => ?_)
         refine gfn Try.func17 #[.agg #[.bool ((rd_T42 l0_0 x5_1).f2.f0), .slice A329_3 ((rd_T42 l0_0 x5_1).f2.f1).length c329_3], .agg #[.bool ((rd_T42 l1_0 x5_1).f2.f0), .slice A330_3 ((rd_T42 l1_0 x5_1).f2.f1).length c330_3]] ?_
         with_reducible refine (stolonref06_Same.calls k1 ((rd_T42 l0_0 x5_1).f2.f0) _ _ ((rd_T42 l0_0 x5_1).f2.f1) ((rd_T42 l1_0 x5_1).f2.f0) _ _ ((rd_T42 l1_0 x5_1).f2.f1) false _ ?side1 ?side2 ?side3 ?side4 A12.out).mono ?_
         (case side1 => exact ca (Kd.C_below HR329_3.out HB.out))
         (case side2 => exact HC329_3.out)
         (case side3 => exact ca (Kd.C_below HR330_3.out HB.out))
         (case side4 => exact HC330_3.out)
         rintro e w34 ⟨rfl, hb⟩
         refine ⟨_, rfl, ?_⟩
         have n0_ := Aside0.mk (blk_below BK327.out hb)
         have n1_ := Aside0.mk (blk_below BK328.out hb)
         have n2_ := Aside0.mk (below_step HB.out hb)
         clear BK327
         clear BK328
         clear HB
         have BK327 := n0_
         have BK328 := n1_
         have HB := n2_
         clear n0_ n1_ n2_
         (try clear hb)
         (try clear hb2)
         (try clear hk)
         (try clear hi)
         refine hK.out _ _ ⟨(blk_cell BK327.out 0).trans rfl, (blk_cell BK328.out 0).trans rfl, ((HB.out.cell (World.block_lt_of_cell? w _ hw329_0)).trans hw329_0), ((HB.out.cell (World.block_lt_of_cell? w _ hw329_1)).trans hw329_1), ((HB.out.cell (World.block_lt_of_cell? w _ hw329_2)).trans hw329_2), ((HB.out.cell (World.block_lt_of_cell? w _ hw329_3)).trans hw329_3), ((HB.out.cell (World.block_lt_of_cell? w _ hw330_0)).trans hw330_0), ((HB.out.cell (World.block_lt_of_cell? w _ hw330_1)).trans hw330_1), ((HB.out.cell (World.block_lt_of_cell? w _ hw330_2)).trans hw330_2), ((HB.out.cell (World.block_lt_of_cell? w _ hw330_3)).trans hw330_3)⟩ (fun hHeld => ?_)
         clear hK K
         refine nm ?_
         refine pw 13 6 (bb 14 16383) rfl rfl HT_ ?_
         refine done_ (done_of HT_.out (by kernel_rfl)) ?_
         try go_wp2
         have n0_ := Aside0.mk (blk_drew BK327.out)
         have n1_ := Aside0.mk (blk_drew BK328.out)
         have n2_ := Aside0.mk (below_drew1 HB.out)
         clear BK327
         clear BK328
         clear HB
         have BK327 := n0_
         have BK328 := n1_
         have HB := n2_
         clear n0_ n1_ n2_
         refine start_ (n := 32) (S := fun w' => True) (ds := []) #[false, false, false, false, false, false, false, false, false, false, false, false, false, false, false, false, false, false, false, false, false, false, false, false, false, false, false, false, false, false, false, false] (by kernel_rfl) rfl rfl trivial (fun hHeld => ?_); refine with_tabW stolonref07_Same.tab7 stolonref07_Same.bits7 (fun HT_ HW_ => ?_)
         generalize w34.drew = w35 at BK327 BK328 HB hHeld ⊢
         refine pw 0 34 (bb 32 1) rfl rfl HT_ ?_
         refine pw 1 35 (bb 32 3) rfl rfl HT_ ?_
         refine pw 2 36 (bb 32 7) rfl rfl HT_ ?_
         refine pz 3 37 (bb 32 15) rfl rfl HT_ ?_
         refine pz 4 38 (bb 32 31) rfl rfl HT_ ?_
         refine pz 5 39 (bb 32 63) rfl rfl HT_ ?_
         refine pz 6 40 (bb 32 127) rfl rfl HT_ ?_
         refine pz 7 41 (bb 32 255) rfl rfl HT_ ?_
         refine pz 8 42 (bb 32 511) rfl rfl HT_ ?_
         refine pz 9 43 (bb 32 1023) rfl rfl HT_ ?_
         refine pz 10 44 (bb 32 2047) rfl rfl HT_ ?_
         refine pz 11 45 (bb 32 4095) rfl rfl HT_ ?_
         refine pz 12 46 (bb 32 8191) rfl rfl HT_ ?_
         refine pz 13 47 (bb 32 16383) rfl rfl HT_ ?_
         refine pz 14 48 (bb 32 32767) rfl rfl HT_ ?_
         refine pz 15 49 (bb 32 65535) rfl rfl HT_ ?_
         refine pw 16 50 (bb 32 131071) rfl rfl HT_ ?_
         refine pw 17 51 (bb 32 262143) rfl rfl HT_ ?_
         refine pz 18 52 (bb 32 524287) rfl rfl HT_ ?_
         refine pz 19 53 (bb 32 1048575) rfl rfl HT_ ?_
         refine pz 20 54 (bb 32 2097151) rfl rfl HT_ ?_
         refine pz 21 55 (bb 32 4194303) rfl rfl HT_ ?_
         refine pz 22 56 (bb 32 8388607) rfl rfl HT_ ?_
         refine pz 23 57 (bb 32 16777215) rfl rfl HT_ ?_
         refine pz 24 58 (bb 32 33554431) rfl rfl HT_ ?_
         refine pz 25 59 (bb 32 67108863) rfl rfl HT_ ?_
         refine pz 26 60 (bb 32 134217727) rfl rfl HT_ ?_
         refine pz 27 61 (bb 32 268435455) rfl rfl HT_ ?_
         refine pz 28 62 (bb 32 536870911) rfl rfl HT_ ?_
         refine pz 29 63 (bb 32 1073741823) rfl rfl HT_ ?_
         refine pz 30 64 (bb 32 2147483647) rfl rfl HT_ ?_
         refine pw 31 65 (bb 32 4294967295) rfl rfl HT_ ?_
         refine done_ (done_of HT_.out (by kernel_rfl)) ?_
         try go_wp2
         go_ret
         exact ⟨by first | rfl | (simp [errW_none, errW_some] <;> rfl) | (simp [*, errW_none, errW_some] <;> rfl), bl HB⟩
     · rw [if_neg c9] at H
       have c9b0 : decide (x5_1 < (l0_0.length : Int)) = false := decide_eq_false c9
       clear c9
       obtain rfl := Option.some.inj H
       have hnb36 := NB327_328.out
       have hnc36 := NB328_327.out
       obtain ⟨hcz37_0, hfz37_0⟩ := cf1 BK327.out
       go_wp2
       go_ret
       exact ⟨by first | rfl | (simp [errW_none, errW_some] <;> rfl) | (simp [*, errW_none, errW_some] <;> rfl), bl HB⟩
 · rw [if_neg c3] at H
   have c3b0 : ((l0_0.length : Int) == (l1_0.length : Int)) = false := beq_eq_false_iff_ne.mpr c3
   have c3b1 : ((l0_0.length : Int) != (l1_0.length : Int)) = true := bne_iff_ne.mpr c3
   have c3b2 : (l0_0.length == l1_0.length) = false := by first | simpa using c3 | (simp at c3 ⊢; omega)
   obtain rfl := Option.some.inj H
   go_enter Try.func16, Try.ntmps16
   go_wp2_with (first | ((with_reducible refine gate_dst (N := 2) rfl ?_); refine bxn (cs := #[.slice A0_0 l0_0.length c0_0]) (t := 40) ?_; intro gb327 hg w38 hbox hb; have BK327 := Aside0.mk (hbox); have GW327 := Aside0.mk ((by rw [hg]; exact (below_size HB.out) : w.heap.size ≤ gb327)); have GE327 := Aside0.mk ((by rw [hg]; exact (below_size HB.out) : w.heap.size ≤ gb327)); replace HB := Aside0.mk (below_step HB.out hb); clear hb hbox hg) | ((with_reducible refine gate_dst (N := 3) rfl ?_); refine bxn (cs := #[.slice A1_0 l1_0.length c1_0]) (t := 40) ?_; intro gb328 hg w39 hbox hb; have n0_ := Aside0.mk (blk_below BK327.out hb); have n1_ := Aside0.mk (below_step HB.out hb); have n2_ := Aside0.mk (hbox); have n3_ := Aside0.mk ((by rw [hg]; exact (below_size HB.out) : w.heap.size ≤ gb328)); have n4_ := Aside0.mk ((by rw [hg]; exact (below_size HB.out) : w.heap.size ≤ gb328)); have n5_ := Aside0.mk ((by rw [hg]; exact Nat.ne_of_lt (blk_lt BK327.out) : gb327 ≠ gb328)); have n6_ := Aside0.mk ((by rw [hg]; exact Nat.ne_of_gt (blk_lt BK327.out) : gb328 ≠ gb327)); clear BK327; clear HB; have BK327 := n0_; have HB := n1_; have BK328 := n2_; have GW328 := n3_; have GE328 := n4_; have NB327_328 := n5_; have NB328_327 := n6_; clear n0_ n1_ n2_ n3_ n4_ n5_ n6_; clear hb hbox hg; have hnb40 := NB327_328.out; have hnc40 := NB328_327.out; obtain ⟨hcz41_0, hfz41_0⟩ := cf1 BK327.out; obtain ⟨hcz42_0, hfz42_0⟩ := cf1 BK328.out))
   go_ret
   exact ⟨by first | rfl | (simp [errW_none, errW_some] <;> rfl) | (simp [*, errW_none, errW_some] <;> rfl), bl HB⟩
end Go.Proofs.Ytjncmiclpaodhaa.PHo
