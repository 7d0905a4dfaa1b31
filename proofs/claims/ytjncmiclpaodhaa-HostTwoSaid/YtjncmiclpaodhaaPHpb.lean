-- written by a program of this session (hprint.py), over the kit's printer
import Derived.Test.YtjncmiclpaodhaaHoX
import Derived.Test.YtjncmiclpaodhaaHoK
import Derived.Test.YtjncmiclpaodhaaPHpa
import Derived.Test.YtjncmiclpaodhaaHoR
namespace Go.Proofs.Ytjncmiclpaodhaa.PHo
open Go.RowKit Go.Proofs.YtjncmiclpaodhaaW.PrintWords Go.Proofs.YtjncmiclpaodhaaW.PrintLast Go.Proofs.YtjncmiclpaodhaaW.PrintMore
attribute [local go_sem] max2_int min2_int max_two min_two max_three min_three max_four min_four   -- for this text's walks alone
set_option linter.unusedVariables false
set_option linter.unusedSimpArgs false
/-! ### stolonlaw07_HostTwo: function 4 -/
mutual
def stolonlaw07_HostTwo.j0 : Nat → Bool → Bool → List (S42) → Int → Int → Bool → List Int → Int → Int → Bool → List Int → Option (Bool)
 | 0, _, _, _, _, _, _, _, _, _, _, _ => none
 | k + 1, x7, x53, x337000, x338000, x338001, x338002, x338003, x339000, x339001, x339002, x339003 => if x53 = true then (some x7) else ((host_Put.f x337000 x338000 x338001 x338002 x338003).bind fun bt342 => ((host_Put.f bt342.1 x339000 x339001 x339002 x339003).bind fun bt350 => ((host_Put.f x337000 x339000 x339001 x339002 x339003).bind fun bt358 => ((host_Put.f bt358.1 x338000 x338001 x338002 x338003).bind fun bt366 => (if bt342.2.2 = bt366.2.2 then (if bt350.2.2 = bt358.2.2 then ((stolonref07_Same.f k bt350.1 bt366.1).bind fun t374 => (stolonlaw07_HostTwo.j1 k x7 (!t374) x337000 x338000 x338001 x338002 x338003 x339000 x339001 x339002 x339003 bt342.1)) else (stolonlaw07_HostTwo.j1 k x7 true x337000 x338000 x338001 x338002 x338003 x339000 x339001 x339002 x339003 bt342.1)) else (stolonlaw07_HostTwo.j1 k x7 true x337000 x338000 x338001 x338002 x338003 x339000 x339001 x339002 x339003 bt342.1))))))
def stolonlaw07_HostTwo.j1 : Nat → Bool → Bool → List (S42) → Int → Int → Bool → List Int → Int → Int → Bool → List Int → List (S42) → Option (Bool)
 | 0, _, _, _, _, _, _, _, _, _, _, _, _ => none
 | k + 1, x7, x96, x337000, x338000, x338001, x338002, x338003, x339000, x339001, x339002, x339003, x350000 => if x96 = true then (some false) else (if x7 = true then (if x338001 = x339001 then (some true) else ((host_Wants.f k x350000 x339001).bind fun bt375 => ((host_Wants.f k x337000 x339001).bind fun bt379 => ((stolonref06_Same.f k bt375.1 bt375.2 bt379.1 bt379.2).bind fun t383 => (some t383))))) else (some false))
end
def stolonlaw07_HostTwo.f (k : Nat) (l0_0 : List (S42)) (a1_0 : Int) (a1_1 : Int) (a1_2 : Bool) (l1_3 : List Int) (a2_0 : Int) (a2_1 : Int) (a2_2 : Bool) (l2_3 : List Int) : Option (Bool) := (stolonlaw07_shown.f).bind fun t339 => ((stolonref07_Few.f k l0_0).bind fun t340 => (if t340 = true then ((stolonref07_Right.f k l0_0).bind fun t341 => (if t341 = true then (if (l0_0.length : Int) > 30 then (stolonlaw07_HostTwo.j0 k t339 true l0_0 a1_0 a1_1 a1_2 l1_3 a2_0 a2_1 a2_2 l2_3) else (if a1_0 = a2_0 then (stolonlaw07_HostTwo.j0 k t339 true l0_0 a1_0 a1_1 a1_2 l1_3 a2_0 a2_1 a2_2 l2_3) else (stolonlaw07_HostTwo.j0 k t339 (decide ((wrap64 ((l1_3.length : Int) + (l2_3.length : Int))) > 100)) l0_0 a1_0 a1_1 a1_2 l1_3 a2_0 a2_1 a2_2 l2_3))) else (stolonlaw07_HostTwo.j0 k t339 true l0_0 a1_0 a1_1 a1_2 l1_3 a2_0 a2_1 a2_2 l2_3))) else (stolonlaw07_HostTwo.j0 k t339 true l0_0 a1_0 a1_1 a1_2 l1_3 a2_0 a2_1 a2_2 l2_3)))
theorem stolonlaw07_HostTwo.mono_l : ∀ k, (∀ y0 y1 y2 y3 y4 y5 y6 y7 y8 y9 y10, LeO (stolonlaw07_HostTwo.j0 k y0 y1 y2 y3 y4 y5 y6 y7 y8 y9 y10) (stolonlaw07_HostTwo.j0 (k + 1) y0 y1 y2 y3 y4 y5 y6 y7 y8 y9 y10)) ∧ (∀ y0 y1 y2 y3 y4 y5 y6 y7 y8 y9 y10 y11, LeO (stolonlaw07_HostTwo.j1 k y0 y1 y2 y3 y4 y5 y6 y7 y8 y9 y10 y11) (stolonlaw07_HostTwo.j1 (k + 1) y0 y1 y2 y3 y4 y5 y6 y7 y8 y9 y10 y11))
 | 0 => ⟨fun _ _ _ _ _ _ _ _ _ _ _ r h => by simp [stolonlaw07_HostTwo.j0] at h, fun _ _ _ _ _ _ _ _ _ _ _ _ r h => by simp [stolonlaw07_HostTwo.j1] at h⟩
 | k + 1 => by
  obtain ⟨ih0, ih1⟩ := stolonlaw07_HostTwo.mono_l k
  refine ⟨?_, ?_⟩
  · intro y0 y1 y2 y3 y4 y5 y6 y7 y8 y9 y10
    unfold stolonlaw07_HostTwo.j0
    repeat' first
    | (with_reducible exact ih0 _ _ _ _ _ _ _ _ _ _ _)
    | (with_reducible exact ih1 _ _ _ _ _ _ _ _ _ _ _ _)
    | (with_reducible exact host_Wants.mono _ _ _)
    | (with_reducible exact stolonref06_Same.mono _ _ _ _ _)
    | (with_reducible exact stolonref07_Few.mono _ _)
    | (with_reducible exact stolonref07_Right.mono _ _)
    | (with_reducible exact stolonref07_Same.mono _ _ _)
    | (with_reducible exact LeO.refl _)
    | (with_reducible exact LeO.none _)
    | (with_reducible refine LeO.ite ?_ ?_)
    | (with_reducible refine LeO.bind ?_ (fun _ => ?_))
    | exact ih0 _ _ _ _ _ _ _ _ _ _ _
    | exact ih1 _ _ _ _ _ _ _ _ _ _ _ _
    | exact host_Wants.mono _ _ _
    | exact stolonref06_Same.mono _ _ _ _ _
    | exact stolonref07_Few.mono _ _
    | exact stolonref07_Right.mono _ _
    | exact stolonref07_Same.mono _ _ _
    | exact LeO.none _
    | refine LeO.ite ?_ ?_
    | refine LeO.bind ?_ (fun _ => ?_)
  · intro y0 y1 y2 y3 y4 y5 y6 y7 y8 y9 y10 y11
    unfold stolonlaw07_HostTwo.j1
    repeat' first
    | (with_reducible exact ih0 _ _ _ _ _ _ _ _ _ _ _)
    | (with_reducible exact ih1 _ _ _ _ _ _ _ _ _ _ _ _)
    | (with_reducible exact host_Wants.mono _ _ _)
    | (with_reducible exact stolonref06_Same.mono _ _ _ _ _)
    | (with_reducible exact stolonref07_Few.mono _ _)
    | (with_reducible exact stolonref07_Right.mono _ _)
    | (with_reducible exact stolonref07_Same.mono _ _ _)
    | (with_reducible exact LeO.refl _)
    | (with_reducible exact LeO.none _)
    | (with_reducible refine LeO.ite ?_ ?_)
    | (with_reducible refine LeO.bind ?_ (fun _ => ?_))
    | exact ih0 _ _ _ _ _ _ _ _ _ _ _
    | exact ih1 _ _ _ _ _ _ _ _ _ _ _ _
    | exact host_Wants.mono _ _ _
    | exact stolonref06_Same.mono _ _ _ _ _
    | exact stolonref07_Few.mono _ _
    | exact stolonref07_Right.mono _ _
    | exact stolonref07_Same.mono _ _ _
    | exact LeO.none _
    | refine LeO.ite ?_ ?_
    | refine LeO.bind ?_ (fun _ => ?_)
theorem stolonlaw07_HostTwo.mono : ∀ a0 a1 a2 a3 a4 a5 a6 a7 a8 k, LeO (stolonlaw07_HostTwo.f k a0 a1 a2 a3 a4 a5 a6 a7 a8) (stolonlaw07_HostTwo.f (k + 1) a0 a1 a2 a3 a4 a5 a6 a7 a8) := by
 intro a0 a1 a2 a3 a4 a5 a6 a7 a8 k
 obtain ⟨ih0, ih1⟩ := stolonlaw07_HostTwo.mono_l k
 unfold stolonlaw07_HostTwo.f
 repeat' first
  | (with_reducible exact ih0 _ _ _ _ _ _ _ _ _ _ _)
  | (with_reducible exact ih1 _ _ _ _ _ _ _ _ _ _ _ _)
  | (with_reducible exact host_Wants.mono _ _ _)
  | (with_reducible exact stolonref06_Same.mono _ _ _ _ _)
  | (with_reducible exact stolonref07_Few.mono _ _)
  | (with_reducible exact stolonref07_Right.mono _ _)
  | (with_reducible exact stolonref07_Same.mono _ _ _)
  | (with_reducible exact LeO.refl _)
  | (with_reducible exact LeO.none _)
  | (with_reducible refine LeO.ite ?_ ?_)
  | (with_reducible refine LeO.bind ?_ (fun _ => ?_))
  | exact ih0 _ _ _ _ _ _ _ _ _ _ _
  | exact ih1 _ _ _ _ _ _ _ _ _ _ _ _
  | exact host_Wants.mono _ _ _
  | exact stolonref06_Same.mono _ _ _ _ _
  | exact stolonref07_Few.mono _ _
  | exact stolonref07_Right.mono _ _
  | exact stolonref07_Same.mono _ _ _
  | exact LeO.none _
  | refine LeO.ite ?_ ?_
  | refine LeO.bind ?_ (fun _ => ?_)
def stolonlaw07_HostTwo.T10 : Bool × List (List Nat × List Nat) := (true, [([], []), ([0], [0]), ([1], [1]), ([2, 1], [1, 2]), ([1], [1]), ([4, 1], [1, 4]), ([3, 5, 1], [1, 3, 5]), ([6, 1, 1], [1, 6]), ([7], [7]), ([7], [7]), ([9, 7], [7, 9]), ([8, 10, 7, 7], [7, 8, 10]), ([7], [7]), ([7], [7]), ([13, 7], [7, 13]), ([12, 14, 11, 7], [7, 12, 14]), ([11, 15, 15, 7], [7, 11, 15]), ([7, 16, 1], [1, 7, 16]), ([1, 17], [1, 17]), ([18, 16, 0, 1, 2, 3, 4, 5, 6, 7, 8, 9, 10, 11, 12, 13, 14, 15, 16, 17, 18], [18])])
def stolonlaw07_HostTwo.B10 : List Nat := [0, 1, 3, 7, 3, 19, 63, 127, 255, 255, 767, 2047, 255, 255, 8447, 32767, 65535, 131071, 262143, 524287]
theorem stolonlaw07_HostTwo.tab10 : rtab .any (opsOf Try.f4 10) = stolonlaw07_HostTwo.T10 := by kernel_rfl
theorem stolonlaw07_HostTwo.bits10 : waitsOk stolonlaw07_HostTwo.T10.2 stolonlaw07_HostTwo.B10 = true := by kernel_rfl
set_option maxHeartbeats 8000000 in
set_option maxRecDepth 100000 in
theorem stolonlaw07_HostTwo.calls (k : Nat) (A0_0 : Option Addr) (c0_0 : Nat) (l0_0 : List (S42)) (a1_0 : Int) (a1_1 : Int) (a1_2 : Bool) (A1_3 : Option Addr) (c1_3 : Nat) (l1_3 : List Int) (a2_0 : Int) (a2_1 : Int) (a2_2 : Bool) (A2_3 : Option Addr) (c2_3 : Nat) (l2_3 : List Int) (r : Bool) (w : World) (hr0_0 : Kd.C k42 w A0_0 l0_0.length l0_0) (hc0_0 : l0_0.length ≤ c0_0) (hr1_3 : Kd.C (Kd.int .u32) w A1_3 l1_3.length l1_3) (hc1_3 : l1_3.length ≤ c1_3) (hr2_3 : Kd.C (Kd.int .u32) w A2_3 l2_3.length l2_3) (hc2_3 : l2_3.length ≤ c2_3) (h : stolonlaw07_HostTwo.f k l0_0 a1_0 a1_1 a1_2 l1_3 a2_0 a2_1 a2_2 l2_3 = some r) :
 Calls Try.prog 4 #[.agg #[.slice A0_0 l0_0.length c0_0], .agg #[.int .i64 a1_0, .int .u32 a1_1, .bool a1_2, .slice A1_3 l1_3.length c1_3], .agg #[.int .i64 a2_0, .int .u32 a2_1, .bool a2_2, .slice A2_3 l2_3.length c2_3]] w fun e w' => e = .returned (.bool r) ∧ Below w.heap.size w w' := by
 have hu40 := Try.underlying40
 have hu42 := Try.underlying42
 have HR0_0 := Aside0.mk hr0_0
 have HC0_0 := Aside0.mk hc0_0
 clear hr0_0 hc0_0
 have HR1_3 := Aside0.mk hr1_3
 have HC1_3 := Aside0.mk hc1_3
 clear hr1_3 hc1_3
 have HR2_3 := Aside0.mk hr2_3
 have HC2_3 := Aside0.mk hc2_3
 clear hr2_3 hc2_3
 have HB := Aside0.mk (Below.refl w.heap.size w)
 have H : ((stolonlaw07_shown.f).bind fun t339 => ((stolonref07_Few.f k l0_0).bind fun t340 => (if t340 = true then ((stolonref07_Right.f k l0_0).bind fun t341 => (if t341 = true then (if (l0_0.length : Int) > 30 then (stolonlaw07_HostTwo.j0 k t339 true l0_0 a1_0 a1_1 a1_2 l1_3 a2_0 a2_1 a2_2 l2_3) else (if a1_0 = a2_0 then (stolonlaw07_HostTwo.j0 k t339 true l0_0 a1_0 a1_1 a1_2 l1_3 a2_0 a2_1 a2_2 l2_3) else (stolonlaw07_HostTwo.j0 k t339 (decide ((wrap64 ((l1_3.length : Int) + (l2_3.length : Int))) > 100)) l0_0 a1_0 a1_1 a1_2 l1_3 a2_0 a2_1 a2_2 l2_3))) else (stolonlaw07_HostTwo.j0 k t339 true l0_0 a1_0 a1_1 a1_2 l1_3 a2_0 a2_1 a2_2 l2_3))) else (stolonlaw07_HostTwo.j0 k t339 true l0_0 a1_0 a1_1 a1_2 l1_3 a2_0 a2_1 a2_2 l2_3)))) = some r := h
 clear h
 replace H := Option.bind_eq_some_iff.mp H
 obtain ⟨t339, A40, H⟩ := H
 replace H : ((stolonref07_Few.f k l0_0).bind fun t340 => (if t340 = true then ((stolonref07_Right.f k l0_0).bind fun t341 => (if t341 = true then (if (l0_0.length : Int) > 30 then (stolonlaw07_HostTwo.j0 k t339 true l0_0 a1_0 a1_1 a1_2 l1_3 a2_0 a2_1 a2_2 l2_3) else (if a1_0 = a2_0 then (stolonlaw07_HostTwo.j0 k t339 true l0_0 a1_0 a1_1 a1_2 l1_3 a2_0 a2_1 a2_2 l2_3) else (stolonlaw07_HostTwo.j0 k t339 (decide ((wrap64 ((l1_3.length : Int) + (l2_3.length : Int))) > 100)) l0_0 a1_0 a1_1 a1_2 l1_3 a2_0 a2_1 a2_2 l2_3))) else (stolonlaw07_HostTwo.j0 k t339 true l0_0 a1_0 a1_1 a1_2 l1_3 a2_0 a2_1 a2_2 l2_3))) else (stolonlaw07_HostTwo.j0 k t339 true l0_0 a1_0 a1_1 a1_2 l1_3 a2_0 a2_1 a2_2 l2_3))) = some r := H
 have A4 := Aside0.mk A40
 clear A40
 have HC5 := Aside0.mk H
 clear H
 go_enter Try.func4, Try.ntmps4
 go_upto_region 2 with (first | ((with_reducible refine gate_dst (N := 3) rfl ?_); (try (refine gate_guard (by rfl) ?_; dsimp only)); refine box_event ?hg (N := 3) ?hd (cs := #[.slice A0_0 l0_0.length c0_0]) (t := 40) ?hr ?_; (case hd => rfl); (case hg => rfl); (case hr => first | (go_simp; done) | (go_simp; rfl)); intro gb336 hg w6 hbox hb; have n0_ := Aside0.mk (below_step HB.out hb); have n1_ := Aside0.mk (hbox); have n2_ := Aside0.mk ((by rw [hg]; exact (below_size HB.out) : w.heap.size ≤ gb336)); have n3_ := Aside0.mk ((by rw [hg]; exact (below_size HB.out) : w.heap.size ≤ gb336)); clear HB; have HB := n0_; have BK336 := n1_; have GW336 := n2_; have GE336 := n3_; clear n0_ n1_ n2_ n3_; clear hb hbox hg) | ((with_reducible refine gate_dst (N := 4) rfl ?_); (try (refine gate_guard (by rfl) ?_; dsimp only)); refine box_event ?hg (N := 4) ?hd (cs := #[.int .i64 a1_0, .int .u32 a1_1, .bool a1_2, .slice A1_3 l1_3.length c1_3]) (t := 42) ?hr ?_; (case hd => rfl); (case hg => rfl); (case hr => first | (go_simp; done) | (go_simp; rfl)); intro gb337 hg w7 hbox hb; have n0_ := Aside0.mk (blk_below BK336.out hb); have n1_ := Aside0.mk (below_step HB.out hb); have n2_ := Aside0.mk (hbox); have n3_ := Aside0.mk ((by rw [hg]; exact (below_size HB.out) : w.heap.size ≤ gb337)); have n4_ := Aside0.mk ((by rw [hg]; exact (below_size HB.out) : w.heap.size ≤ gb337)); have n5_ := Aside0.mk ((by rw [hg]; exact Nat.ne_of_lt (blk_lt BK336.out) : gb336 ≠ gb337)); have n6_ := Aside0.mk ((by rw [hg]; exact Nat.ne_of_gt (blk_lt BK336.out) : gb337 ≠ gb336)); clear BK336; clear HB; have BK336 := n0_; have HB := n1_; have BK337 := n2_; have GW337 := n3_; have GE337 := n4_; have NB336_337 := n5_; have NB337_336 := n6_; clear n0_ n1_ n2_ n3_ n4_ n5_ n6_; clear hb hbox hg) | ((with_reducible refine gate_dst (N := 5) rfl ?_); (try (refine gate_guard (by rfl) ?_; dsimp only)); refine box_event ?hg (N := 5) ?hd (cs := #[.int .i64 a2_0, .int .u32 a2_1, .bool a2_2, .slice A2_3 l2_3.length c2_3]) (t := 42) ?hr ?_; (case hd => rfl); (case hg => rfl); (case hr => first | (go_simp; done) | (go_simp; rfl)); intro gb338 hg w8 hbox hb; have n0_ := Aside0.mk (blk_below BK336.out hb); have n1_ := Aside0.mk (blk_below BK337.out hb); have n2_ := Aside0.mk (below_step HB.out hb); have n3_ := Aside0.mk (hbox); have n4_ := Aside0.mk ((by rw [hg]; exact (below_size HB.out) : w.heap.size ≤ gb338)); have n5_ := Aside0.mk ((by rw [hg]; exact (below_size HB.out) : w.heap.size ≤ gb338)); have n6_ := Aside0.mk ((by rw [hg]; exact Nat.ne_of_lt (blk_lt BK336.out) : gb336 ≠ gb338)); have n7_ := Aside0.mk ((by rw [hg]; exact Nat.ne_of_gt (blk_lt BK336.out) : gb338 ≠ gb336)); have n8_ := Aside0.mk ((by rw [hg]; exact Nat.ne_of_lt (blk_lt BK337.out) : gb337 ≠ gb338)); have n9_ := Aside0.mk ((by rw [hg]; exact Nat.ne_of_gt (blk_lt BK337.out) : gb338 ≠ gb337)); clear BK336; clear BK337; clear HB; have BK336 := n0_; have BK337 := n1_; have HB := n2_; have BK338 := n3_; have GW338 := n4_; have GE338 := n5_; have NB336_338 := n6_; have NB338_336 := n7_; have NB337_338 := n8_; have NB338_337 := n9_; clear n0_ n1_ n2_ n3_ n4_ n5_ n6_ n7_ n8_ n9_; clear hb hbox hg) | ((with_reducible refine gate_callee (f := 8) rfl ?_); refine goesL_ (some 20) rfl rfl Try.func8 (by kernel_rfl) rfl #[] rfl (by (try simp only [List.map_toArray, List.map_cons, List.map_nil]); first | done | rfl | (simp only [List.length_drop, List.length_take]; rfl)) ?_; (with_reducible refine (stolonlaw07_shown.calls  t339 _ A4.out).mono ?_); rintro e w9 ⟨rfl, hb⟩; refine ⟨_, rfl, ?_⟩; have n0_ := Aside0.mk (blk_below BK336.out hb); have n1_ := Aside0.mk (blk_below BK337.out hb); have n2_ := Aside0.mk (blk_below BK338.out hb); have n3_ := Aside0.mk (below_step HB.out hb); clear BK336; clear BK337; clear BK338; clear HB; have BK336 := n0_; have BK337 := n1_; have BK338 := n2_; have HB := n3_; clear n0_ n1_ n2_ n3_; (try clear hb); (try clear hb2); (try clear hk); (try clear hi)))
 (try simp only [Act.put, List.setIfInBounds_toArray, List.set_cons_zero, List.set_cons_succ])
 go_cut [53] (fun v53 wc => ∃ (kq : Nat) (x53_4 : Bool), v53 = .bool x53_4 ∧ Aside0 (stolonlaw07_HostTwo.j0 kq t339 x53_4 l0_0 a1_0 a1_1 a1_2 l1_3 a2_0 a2_1 a2_2 l2_3 = some r) ∧ Aside0 (kq ≤ k) ∧ Aside0 (wc.heap[gb336]? = some (.cells #[(.slice A0_0 l0_0.length c0_0)] 40 (0, 0))) ∧ Aside0 (wc.heap[gb337]? = some (.cells #[.int .i64 a1_0, .int .u32 a1_1, .bool a1_2, (.slice A1_3 l1_3.length c1_3)] 42 (0, 0))) ∧ Aside0 (wc.heap[gb338]? = some (.cells #[.int .i64 a2_0, .int .u32 a2_1, .bool a2_2, (.slice A2_3 l2_3.length c2_3)] 42 (0, 0))) ∧ Aside0 (Below w.heap.size w wc))
 case first =>
  have H := HC5.out
  clear HC5
  replace H := Option.bind_eq_some_iff.mp H
  obtain ⟨t340, A100, H⟩ := H
  replace H : (if t340 = true then ((stolonref07_Right.f k l0_0).bind fun t341 => (if t341 = true then (if (l0_0.length : Int) > 30 then (stolonlaw07_HostTwo.j0 k t339 true l0_0 a1_0 a1_1 a1_2 l1_3 a2_0 a2_1 a2_2 l2_3) else (if a1_0 = a2_0 then (stolonlaw07_HostTwo.j0 k t339 true l0_0 a1_0 a1_1 a1_2 l1_3 a2_0 a2_1 a2_2 l2_3) else (stolonlaw07_HostTwo.j0 k t339 (decide ((wrap64 ((l1_3.length : Int) + (l2_3.length : Int))) > 100)) l0_0 a1_0 a1_1 a1_2 l1_3 a2_0 a2_1 a2_2 l2_3))) else (stolonlaw07_HostTwo.j0 k t339 true l0_0 a1_0 a1_1 a1_2 l1_3 a2_0 a2_1 a2_2 l2_3))) else (stolonlaw07_HostTwo.j0 k t339 true l0_0 a1_0 a1_1 a1_2 l1_3 a2_0 a2_1 a2_2 l2_3)) = some r := H
  have A10 := Aside0.mk A100
  clear A100
  by_cases c11 : t340 = true
  · subst c11
    have H1 : ((stolonref07_Right.f k l0_0).bind fun t341 => (if t341 = true then (if (l0_0.length : Int) > 30 then (stolonlaw07_HostTwo.j0 k t339 true l0_0 a1_0 a1_1 a1_2 l1_3 a2_0 a2_1 a2_2 l2_3) else (if a1_0 = a2_0 then (stolonlaw07_HostTwo.j0 k t339 true l0_0 a1_0 a1_1 a1_2 l1_3 a2_0 a2_1 a2_2 l2_3) else (stolonlaw07_HostTwo.j0 k t339 (decide ((wrap64 ((l1_3.length : Int) + (l2_3.length : Int))) > 100)) l0_0 a1_0 a1_1 a1_2 l1_3 a2_0 a2_1 a2_2 l2_3))) else (stolonlaw07_HostTwo.j0 k t339 true l0_0 a1_0 a1_1 a1_2 l1_3 a2_0 a2_1 a2_2 l2_3))) = some r := by rw [if_pos rfl] at H; exact H
    clear H
    have H := H1
    clear H1
    replace H := Option.bind_eq_some_iff.mp H
    obtain ⟨t341, A120, H⟩ := H
    replace H : (if t341 = true then (if (l0_0.length : Int) > 30 then (stolonlaw07_HostTwo.j0 k t339 true l0_0 a1_0 a1_1 a1_2 l1_3 a2_0 a2_1 a2_2 l2_3) else (if a1_0 = a2_0 then (stolonlaw07_HostTwo.j0 k t339 true l0_0 a1_0 a1_1 a1_2 l1_3 a2_0 a2_1 a2_2 l2_3) else (stolonlaw07_HostTwo.j0 k t339 (decide ((wrap64 ((l1_3.length : Int) + (l2_3.length : Int))) > 100)) l0_0 a1_0 a1_1 a1_2 l1_3 a2_0 a2_1 a2_2 l2_3))) else (stolonlaw07_HostTwo.j0 k t339 true l0_0 a1_0 a1_1 a1_2 l1_3 a2_0 a2_1 a2_2 l2_3)) = some r := H
    have A12 := Aside0.mk A120
    clear A120
    by_cases c13 : t341 = true
    · subst c13
      have H1 : (if (l0_0.length : Int) > 30 then (stolonlaw07_HostTwo.j0 k t339 true l0_0 a1_0 a1_1 a1_2 l1_3 a2_0 a2_1 a2_2 l2_3) else (if a1_0 = a2_0 then (stolonlaw07_HostTwo.j0 k t339 true l0_0 a1_0 a1_1 a1_2 l1_3 a2_0 a2_1 a2_2 l2_3) else (stolonlaw07_HostTwo.j0 k t339 (decide ((wrap64 ((l1_3.length : Int) + (l2_3.length : Int))) > 100)) l0_0 a1_0 a1_1 a1_2 l1_3 a2_0 a2_1 a2_2 l2_3))) = some r := by rw [if_pos rfl] at H; exact H
      clear H
      have H := H1
      clear H1
      by_cases c14 : (l0_0.length : Int) > 30
      · rw [if_pos c14] at H
        have c14b0 : decide (30 < (l0_0.length : Int)) = true := decide_eq_true c14
        have c14b1 : decide (30 < l0_0.length) = true := decide_eq_true (by omega)
        clear c14
        (first | rw [c14b0] | (simp only [i64_w, i32_w]; rw [c14b0]) | skip)
        have H' := Aside0.mk H
        clear H
        have hnb15 := NB336_337.out
        have hnc15 := NB337_336.out
        have hnb16 := NB336_338.out
        have hnc16 := NB338_336.out
        have hcz17_0 : w9.cell? ⟨gb336, 0, none⟩ = some (.slice A0_0 l0_0.length c0_0) := (blk_cell BK336.out 0).trans rfl
        have hfz17_0 := blk_frozen BK336.out 0
        go_wp2_with (first | ((with_reducible refine gate_callee (f := 13) rfl ?_); refine goesL_ (some 22) rfl rfl Try.func13 (by kernel_rfl) rfl #[.agg #[.slice A0_0 l0_0.length c0_0]] rfl (by (try simp only [List.map_toArray, List.map_cons, List.map_nil]); first | done | rfl | (simp only [List.length_drop, List.length_take]; rfl)) ?_; (with_reducible refine (stolonref07_Few.calls k _ _ l0_0 true _ ?side1 ?side2 A10.out).mono ?_); (case side1 => repeat (first | exact (Kd.C_below HR0_0.out HB.out) | (with_reducible refine Kd.C_alloc ?_ _) | (with_reducible refine Kd.C_drewN ?_ _) | (with_reducible refine Kd.C_drew ?_))); (case side2 => exact HC0_0.out); rintro e w18 ⟨rfl, hb⟩; refine ⟨_, rfl, ?_⟩; have n0_ := Aside0.mk (blk_below BK336.out hb); have n1_ := Aside0.mk (blk_below BK337.out hb); have n2_ := Aside0.mk (blk_below BK338.out hb); have n3_ := Aside0.mk (below_step HB.out hb); clear BK336; clear BK337; clear BK338; clear HB; have BK336 := n0_; have BK337 := n1_; have BK338 := n2_; have HB := n3_; clear n0_ n1_ n2_ n3_; (try clear hb); (try clear hb2); (try clear hk); (try clear hi); have hcz19_0 : w18.cell? ⟨gb336, 0, none⟩ = some (.slice A0_0 l0_0.length c0_0) := (blk_cell BK336.out 0).trans rfl; have hfz19_0 := blk_frozen BK336.out 0) | (go_at_call 14; (with_reducible refine (stolonref07_Right.calls k _ _ l0_0 true _ ?side1 ?side2 A12.out).mono ?_); (case side1 => repeat (first | exact (Kd.C_below HR0_0.out HB.out) | (with_reducible refine Kd.C_alloc ?_ _) | (with_reducible refine Kd.C_drewN ?_ _) | (with_reducible refine Kd.C_drew ?_))); (case side2 => exact HC0_0.out); rintro e w20 ⟨rfl, hb⟩; have n0_ := Aside0.mk (blk_below BK336.out hb); have n1_ := Aside0.mk (blk_below BK337.out hb); have n2_ := Aside0.mk (blk_below BK338.out hb); have n3_ := Aside0.mk (below_step HB.out hb); clear BK336; clear BK337; clear BK338; clear HB; have BK336 := n0_; have BK337 := n1_; have BK338 := n2_; have HB := n3_; clear n0_ n1_ n2_ n3_; (try clear hb); (try clear hb2); (try clear hk); (try clear hi); have hcz21_0 : w20.cell? ⟨gb336, 0, none⟩ = some (.slice A0_0 l0_0.length c0_0) := (blk_cell BK336.out 0).trans rfl; have hfz21_0 := blk_frozen BK336.out 0))
        go_meet
        case rel => exact ⟨_, (true), (by first | rfl | (simp; done) | (simp [*]; done)), H', ⟨by first | omega | exact Nat.le_refl _⟩, ⟨BK336.out⟩, ⟨BK337.out⟩, ⟨BK338.out⟩, ⟨HB.out⟩⟩
      · rw [if_neg c14] at H
        have c14b0 : decide (30 < (l0_0.length : Int)) = false := decide_eq_false c14
        have c14b1 : decide (30 < l0_0.length) = false := decide_eq_false (by omega)
        clear c14
        (first | rw [c14b0] | (simp only [i64_w, i32_w]; rw [c14b0]) | skip)
        by_cases c22 : a1_0 = a2_0
        · rw [if_pos c22] at H
          have c22b0 : (a1_0 == a2_0) = true := beq_iff_eq.mpr c22
          have c22b1 : (a1_0 != a2_0) = false := bne_eq_false_iff_eq.mpr c22
          clear c22
          have H' := Aside0.mk H
          clear H
          have hnb23 := NB336_337.out
          have hnc23 := NB337_336.out
          have hnb24 := NB336_338.out
          have hnc24 := NB338_336.out
          have hcz25_0 : w9.cell? ⟨gb336, 0, none⟩ = some (.slice A0_0 l0_0.length c0_0) := (blk_cell BK336.out 0).trans rfl
          have hfz25_0 := blk_frozen BK336.out 0
          go_wp2_with (first | ((with_reducible refine gate_callee (f := 13) rfl ?_); refine goesL_ (some 22) rfl rfl Try.func13 (by kernel_rfl) rfl #[.agg #[.slice A0_0 l0_0.length c0_0]] rfl (by (try simp only [List.map_toArray, List.map_cons, List.map_nil]); first | done | rfl | (simp only [List.length_drop, List.length_take]; rfl)) ?_; (with_reducible refine (stolonref07_Few.calls k _ _ l0_0 true _ ?side1 ?side2 A10.out).mono ?_); (case side1 => repeat (first | exact (Kd.C_below HR0_0.out HB.out) | (with_reducible refine Kd.C_alloc ?_ _) | (with_reducible refine Kd.C_drewN ?_ _) | (with_reducible refine Kd.C_drew ?_))); (case side2 => exact HC0_0.out); rintro e w26 ⟨rfl, hb⟩; refine ⟨_, rfl, ?_⟩; have n0_ := Aside0.mk (blk_below BK336.out hb); have n1_ := Aside0.mk (blk_below BK337.out hb); have n2_ := Aside0.mk (blk_below BK338.out hb); have n3_ := Aside0.mk (below_step HB.out hb); clear BK336; clear BK337; clear BK338; clear HB; have BK336 := n0_; have BK337 := n1_; have BK338 := n2_; have HB := n3_; clear n0_ n1_ n2_ n3_; (try clear hb); (try clear hb2); (try clear hk); (try clear hi); have hcz27_0 : w26.cell? ⟨gb336, 0, none⟩ = some (.slice A0_0 l0_0.length c0_0) := (blk_cell BK336.out 0).trans rfl; have hfz27_0 := blk_frozen BK336.out 0) | (go_at_call 14; (with_reducible refine (stolonref07_Right.calls k _ _ l0_0 true _ ?side1 ?side2 A12.out).mono ?_); (case side1 => repeat (first | exact (Kd.C_below HR0_0.out HB.out) | (with_reducible refine Kd.C_alloc ?_ _) | (with_reducible refine Kd.C_drewN ?_ _) | (with_reducible refine Kd.C_drew ?_))); (case side2 => exact HC0_0.out); rintro e w28 ⟨rfl, hb⟩; have n0_ := Aside0.mk (blk_below BK336.out hb); have n1_ := Aside0.mk (blk_below BK337.out hb); have n2_ := Aside0.mk (blk_below BK338.out hb); have n3_ := Aside0.mk (below_step HB.out hb); clear BK336; clear BK337; clear BK338; clear HB; have BK336 := n0_; have BK337 := n1_; have BK338 := n2_; have HB := n3_; clear n0_ n1_ n2_ n3_; (try clear hb); (try clear hb2); (try clear hk); (try clear hi); have hcz29_0 : w28.cell? ⟨gb336, 0, none⟩ = some (.slice A0_0 l0_0.length c0_0) := (blk_cell BK336.out 0).trans rfl; have hfz29_0 := blk_frozen BK336.out 0; have hnb30 := NB337_338.out; have hnc30 := NB338_337.out; obtain ⟨hcz31_0, hcz31_1, hcz31_2, hcz31_3, hfz31_0, hfz31_1, hfz31_2, hfz31_3⟩ := cf4 BK337.out; obtain ⟨hcz32_0, hcz32_1, hcz32_2, hcz32_3, hfz32_0, hfz32_1, hfz32_2, hfz32_3⟩ := cf4 BK338.out))
          go_meet
          case rel => exact ⟨_, (true), (by first | rfl | (simp; done) | (simp [*]; done)), H', ⟨by first | omega | exact Nat.le_refl _⟩, ⟨BK336.out⟩, ⟨BK337.out⟩, ⟨BK338.out⟩, ⟨HB.out⟩⟩
        · rw [if_neg c22] at H
          have c22b0 : (a1_0 == a2_0) = false := beq_eq_false_iff_ne.mpr c22
          have c22b1 : (a1_0 != a2_0) = true := bne_iff_ne.mpr c22
          have H' := Aside0.mk H
          clear H
          have hnb33 := NB336_337.out
          have hnc33 := NB337_336.out
          have hnb34 := NB336_338.out
          have hnc34 := NB338_336.out
          have hcz35_0 : w9.cell? ⟨gb336, 0, none⟩ = some (.slice A0_0 l0_0.length c0_0) := (blk_cell BK336.out 0).trans rfl
          have hfz35_0 := blk_frozen BK336.out 0
          go_wp2_with (first | ((with_reducible refine gate_callee (f := 13) rfl ?_); refine goesL_ (some 22) rfl rfl Try.func13 (by kernel_rfl) rfl #[.agg #[.slice A0_0 l0_0.length c0_0]] rfl (by (try simp only [List.map_toArray, List.map_cons, List.map_nil]); first | done | rfl | (simp only [List.length_drop, List.length_take]; rfl)) ?_; (with_reducible refine (stolonref07_Few.calls k _ _ l0_0 true _ ?side1 ?side2 A10.out).mono ?_); (case side1 => repeat (first | exact (Kd.C_below HR0_0.out HB.out) | (with_reducible refine Kd.C_alloc ?_ _) | (with_reducible refine Kd.C_drewN ?_ _) | (with_reducible refine Kd.C_drew ?_))); (case side2 => exact HC0_0.out); rintro e w36 ⟨rfl, hb⟩; refine ⟨_, rfl, ?_⟩; have n0_ := Aside0.mk (blk_below BK336.out hb); have n1_ := Aside0.mk (blk_below BK337.out hb); have n2_ := Aside0.mk (blk_below BK338.out hb); have n3_ := Aside0.mk (below_step HB.out hb); clear BK336; clear BK337; clear BK338; clear HB; have BK336 := n0_; have BK337 := n1_; have BK338 := n2_; have HB := n3_; clear n0_ n1_ n2_ n3_; (try clear hb); (try clear hb2); (try clear hk); (try clear hi); have hcz37_0 : w36.cell? ⟨gb336, 0, none⟩ = some (.slice A0_0 l0_0.length c0_0) := (blk_cell BK336.out 0).trans rfl; have hfz37_0 := blk_frozen BK336.out 0) | (go_at_call 14; (with_reducible refine (stolonref07_Right.calls k _ _ l0_0 true _ ?side1 ?side2 A12.out).mono ?_); (case side1 => repeat (first | exact (Kd.C_below HR0_0.out HB.out) | (with_reducible refine Kd.C_alloc ?_ _) | (with_reducible refine Kd.C_drewN ?_ _) | (with_reducible refine Kd.C_drew ?_))); (case side2 => exact HC0_0.out); rintro e w38 ⟨rfl, hb⟩; have n0_ := Aside0.mk (blk_below BK336.out hb); have n1_ := Aside0.mk (blk_below BK337.out hb); have n2_ := Aside0.mk (blk_below BK338.out hb); have n3_ := Aside0.mk (below_step HB.out hb); clear BK336; clear BK337; clear BK338; clear HB; have BK336 := n0_; have BK337 := n1_; have BK338 := n2_; have HB := n3_; clear n0_ n1_ n2_ n3_; (try clear hb); (try clear hb2); (try clear hk); (try clear hi); have hcz39_0 : w38.cell? ⟨gb336, 0, none⟩ = some (.slice A0_0 l0_0.length c0_0) := (blk_cell BK336.out 0).trans rfl; have hfz39_0 := blk_frozen BK336.out 0; have hnb40 := NB337_338.out; have hnc40 := NB338_337.out; obtain ⟨hcz41_0, hcz41_1, hcz41_2, hcz41_3, hfz41_0, hfz41_1, hfz41_2, hfz41_3⟩ := cf4 BK337.out; obtain ⟨hcz42_0, hcz42_1, hcz42_2, hcz42_3, hfz42_0, hfz42_1, hfz42_2, hfz42_3⟩ := cf4 BK338.out))
          go_meet
          case rel => exact ⟨_, (decide ((wrap64 ((l1_3.length : Int) + (l2_3.length : Int))) > 100)), (by first | rfl | (simp; done) | (simp [*]; done)), H', ⟨by first | omega | exact Nat.le_refl _⟩, ⟨BK336.out⟩, ⟨BK337.out⟩, ⟨BK338.out⟩, ⟨HB.out⟩⟩
    · replace c13 := Bool.eq_false_iff.mpr c13
      subst c13
      have H1 : (stolonlaw07_HostTwo.j0 k t339 true l0_0 a1_0 a1_1 a1_2 l1_3 a2_0 a2_1 a2_2 l2_3) = some r := by rw [if_neg (show ¬ (false = true) by decide)] at H; exact H
      clear H
      have H := H1
      clear H1
      have H' := Aside0.mk H
      clear H
      have hnb43 := NB336_337.out
      have hnc43 := NB337_336.out
      have hnb44 := NB336_338.out
      have hnc44 := NB338_336.out
      have hcz45_0 : w9.cell? ⟨gb336, 0, none⟩ = some (.slice A0_0 l0_0.length c0_0) := (blk_cell BK336.out 0).trans rfl
      have hfz45_0 := blk_frozen BK336.out 0
      go_wp2_with (first | ((with_reducible refine gate_callee (f := 13) rfl ?_); refine goesL_ (some 22) rfl rfl Try.func13 (by kernel_rfl) rfl #[.agg #[.slice A0_0 l0_0.length c0_0]] rfl (by (try simp only [List.map_toArray, List.map_cons, List.map_nil]); first | done | rfl | (simp only [List.length_drop, List.length_take]; rfl)) ?_; (with_reducible refine (stolonref07_Few.calls k _ _ l0_0 true _ ?side1 ?side2 A10.out).mono ?_); (case side1 => repeat (first | exact (Kd.C_below HR0_0.out HB.out) | (with_reducible refine Kd.C_alloc ?_ _) | (with_reducible refine Kd.C_drewN ?_ _) | (with_reducible refine Kd.C_drew ?_))); (case side2 => exact HC0_0.out); rintro e w46 ⟨rfl, hb⟩; refine ⟨_, rfl, ?_⟩; have n0_ := Aside0.mk (blk_below BK336.out hb); have n1_ := Aside0.mk (blk_below BK337.out hb); have n2_ := Aside0.mk (blk_below BK338.out hb); have n3_ := Aside0.mk (below_step HB.out hb); clear BK336; clear BK337; clear BK338; clear HB; have BK336 := n0_; have BK337 := n1_; have BK338 := n2_; have HB := n3_; clear n0_ n1_ n2_ n3_; (try clear hb); (try clear hb2); (try clear hk); (try clear hi); have hcz47_0 : w46.cell? ⟨gb336, 0, none⟩ = some (.slice A0_0 l0_0.length c0_0) := (blk_cell BK336.out 0).trans rfl; have hfz47_0 := blk_frozen BK336.out 0) | (go_at_call 14; (with_reducible refine (stolonref07_Right.calls k _ _ l0_0 false _ ?side1 ?side2 A12.out).mono ?_); (case side1 => repeat (first | exact (Kd.C_below HR0_0.out HB.out) | (with_reducible refine Kd.C_alloc ?_ _) | (with_reducible refine Kd.C_drewN ?_ _) | (with_reducible refine Kd.C_drew ?_))); (case side2 => exact HC0_0.out); rintro e w48 ⟨rfl, hb⟩; have n0_ := Aside0.mk (blk_below BK336.out hb); have n1_ := Aside0.mk (blk_below BK337.out hb); have n2_ := Aside0.mk (blk_below BK338.out hb); have n3_ := Aside0.mk (below_step HB.out hb); clear BK336; clear BK337; clear BK338; clear HB; have BK336 := n0_; have BK337 := n1_; have BK338 := n2_; have HB := n3_; clear n0_ n1_ n2_ n3_; (try clear hb); (try clear hb2); (try clear hk); (try clear hi)))
      go_meet
      case rel => exact ⟨_, (true), (by first | rfl | (simp; done) | (simp [*]; done)), H', ⟨by first | omega | exact Nat.le_refl _⟩, ⟨BK336.out⟩, ⟨BK337.out⟩, ⟨BK338.out⟩, ⟨HB.out⟩⟩
  · replace c11 := Bool.eq_false_iff.mpr c11
    subst c11
    have H1 : (stolonlaw07_HostTwo.j0 k t339 true l0_0 a1_0 a1_1 a1_2 l1_3 a2_0 a2_1 a2_2 l2_3) = some r := by rw [if_neg (show ¬ (false = true) by decide)] at H; exact H
    clear H
    have H := H1
    clear H1
    have H' := Aside0.mk H
    clear H
    have hnb49 := NB336_337.out
    have hnc49 := NB337_336.out
    have hnb50 := NB336_338.out
    have hnc50 := NB338_336.out
    have hcz51_0 : w9.cell? ⟨gb336, 0, none⟩ = some (.slice A0_0 l0_0.length c0_0) := (blk_cell BK336.out 0).trans rfl
    have hfz51_0 := blk_frozen BK336.out 0
    go_wp2_with (first | ((with_reducible refine gate_callee (f := 13) rfl ?_); refine goesL_ (some 22) rfl rfl Try.func13 (by kernel_rfl) rfl #[.agg #[.slice A0_0 l0_0.length c0_0]] rfl (by (try simp only [List.map_toArray, List.map_cons, List.map_nil]); first | done | rfl | (simp only [List.length_drop, List.length_take]; rfl)) ?_; (with_reducible refine (stolonref07_Few.calls k _ _ l0_0 false _ ?side1 ?side2 A10.out).mono ?_); (case side1 => repeat (first | exact (Kd.C_below HR0_0.out HB.out) | (with_reducible refine Kd.C_alloc ?_ _) | (with_reducible refine Kd.C_drewN ?_ _) | (with_reducible refine Kd.C_drew ?_))); (case side2 => exact HC0_0.out); rintro e w52 ⟨rfl, hb⟩; refine ⟨_, rfl, ?_⟩; have n0_ := Aside0.mk (blk_below BK336.out hb); have n1_ := Aside0.mk (blk_below BK337.out hb); have n2_ := Aside0.mk (blk_below BK338.out hb); have n3_ := Aside0.mk (below_step HB.out hb); clear BK336; clear BK337; clear BK338; clear HB; have BK336 := n0_; have BK337 := n1_; have BK338 := n2_; have HB := n3_; clear n0_ n1_ n2_ n3_; (try clear hb); (try clear hb2); (try clear hk); (try clear hi)))
    go_meet
    case rel => exact ⟨_, (true), (by first | rfl | (simp; done) | (simp [*]; done)), H', ⟨by first | omega | exact Nat.le_refl _⟩, ⟨BK336.out⟩, ⟨BK337.out⟩, ⟨BK338.out⟩, ⟨HB.out⟩⟩
 case rest =>
  clear HC5
  try clear c1
  try clear c2
  try clear p2
  try clear c3
  try clear c4
  try clear c5
  try clear p6
  try clear c8
  try clear c11
  try clear c13
  try clear c14
  try clear c14b0
  try clear c14b1
  try clear c15
  try clear c16
  try clear c22
  try clear c22b0
  try clear c22b1
  try clear c23
  try clear c24
  try clear c30
  try clear c33
  try clear c34
  try clear c40
  try clear c43
  try clear c44
  try clear c49
  try clear c50
  try clear hcz17_0
  try clear hcz19_0
  try clear hcz21_0
  try clear hcz25_0
  try clear hcz27_0
  try clear hcz29_0
  try clear hcz31_0
  try clear hcz31_1
  try clear hcz31_2
  try clear hcz31_3
  try clear hcz32_0
  try clear hcz32_1
  try clear hcz32_2
  try clear hcz32_3
  try clear hcz35_0
  try clear hcz37_0
  try clear hcz39_0
  try clear hcz41_0
  try clear hcz41_1
  try clear hcz41_2
  try clear hcz41_3
  try clear hcz42_0
  try clear hcz42_1
  try clear hcz42_2
  try clear hcz42_3
  try clear hcz45_0
  try clear hcz47_0
  try clear hcz51_0
  try clear hfz17_0
  try clear hfz19_0
  try clear hfz21_0
  try clear hfz25_0
  try clear hfz27_0
  try clear hfz29_0
  try clear hfz31_0
  try clear hfz31_1
  try clear hfz31_2
  try clear hfz31_3
  try clear hfz32_0
  try clear hfz32_1
  try clear hfz32_2
  try clear hfz32_3
  try clear hfz35_0
  try clear hfz37_0
  try clear hfz39_0
  try clear hfz41_0
  try clear hfz41_1
  try clear hfz41_2
  try clear hfz41_3
  try clear hfz42_0
  try clear hfz42_1
  try clear hfz42_2
  try clear hfz42_3
  try clear hfz45_0
  try clear hfz47_0
  try clear hfz51_0
  obtain ⟨kq, x53_4, rfl, HA, HJ4, BK336, BK337, BK338, HB⟩ := hcut
  cases kq with
  | zero => exact absurd HA.out (by simp [stolonlaw07_HostTwo.j0])
  | succ kj4 =>
   have H := HA.out
   clear HA
   simp only [stolonlaw07_HostTwo.j0] at H
   by_cases c53 : x53_4 = true
   · subst c53
     have H1 : (some t339) = some r := by rw [if_pos rfl] at H; exact H
     clear H
     have H := H1
     clear H1
     obtain rfl := Option.some.inj H
     go_wp2
     go_ret
     exact ⟨by first | rfl | (simp [errW_none, errW_some] <;> rfl) | (simp [*, errW_none, errW_some] <;> rfl), by repeat (first | (with_reducible first | exact HB.out | apply below_alloc | apply pw_below_drewN | apply below_drew1 | refine below_set ?_ GE336.out | refine below_set ?_ GE337.out | refine below_set ?_ GE338.out) | exact HB.out)⟩
   · replace c53 := Bool.eq_false_iff.mpr c53
     subst c53
     have H1 : ((host_Put.f l0_0 a1_0 a1_1 a1_2 l1_3).bind fun bt342 => ((host_Put.f bt342.1 a2_0 a2_1 a2_2 l2_3).bind fun bt350 => ((host_Put.f l0_0 a2_0 a2_1 a2_2 l2_3).bind fun bt358 => ((host_Put.f bt358.1 a1_0 a1_1 a1_2 l1_3).bind fun bt366 => (if bt342.2.2 = bt366.2.2 then (if bt350.2.2 = bt358.2.2 then ((stolonref07_Same.f kj4 bt350.1 bt366.1).bind fun t374 => (stolonlaw07_HostTwo.j1 kj4 t339 (!t374) l0_0 a1_0 a1_1 a1_2 l1_3 a2_0 a2_1 a2_2 l2_3 bt342.1)) else (stolonlaw07_HostTwo.j1 kj4 t339 true l0_0 a1_0 a1_1 a1_2 l1_3 a2_0 a2_1 a2_2 l2_3 bt342.1)) else (stolonlaw07_HostTwo.j1 kj4 t339 true l0_0 a1_0 a1_1 a1_2 l1_3 a2_0 a2_1 a2_2 l2_3 bt342.1)))))) = some r := by rw [if_neg (show ¬ (false = true) by decide)] at H; exact H
     clear H
     have H := H1
     clear H1
     replace H := Option.bind_eq_some_iff.mp H
     obtain ⟨⟨t342, t345, t348⟩, A540, H⟩ := H
     replace H : ((host_Put.f t342 a2_0 a2_1 a2_2 l2_3).bind fun bt350 => ((host_Put.f l0_0 a2_0 a2_1 a2_2 l2_3).bind fun bt358 => ((host_Put.f bt358.1 a1_0 a1_1 a1_2 l1_3).bind fun bt366 => (if t348 = bt366.2.2 then (if bt350.2.2 = bt358.2.2 then ((stolonref07_Same.f kj4 bt350.1 bt366.1).bind fun t374 => (stolonlaw07_HostTwo.j1 kj4 t339 (!t374) l0_0 a1_0 a1_1 a1_2 l1_3 a2_0 a2_1 a2_2 l2_3 t342)) else (stolonlaw07_HostTwo.j1 kj4 t339 true l0_0 a1_0 a1_1 a1_2 l1_3 a2_0 a2_1 a2_2 l2_3 t342)) else (stolonlaw07_HostTwo.j1 kj4 t339 true l0_0 a1_0 a1_1 a1_2 l1_3 a2_0 a2_1 a2_2 l2_3 t342))))) = some r := H
     have A54 := Aside0.mk A540
     clear A540
     replace H := Option.bind_eq_some_iff.mp H
     obtain ⟨⟨t350, t353, t356⟩, A550, H⟩ := H
     replace H : ((host_Put.f l0_0 a2_0 a2_1 a2_2 l2_3).bind fun bt358 => ((host_Put.f bt358.1 a1_0 a1_1 a1_2 l1_3).bind fun bt366 => (if t348 = bt366.2.2 then (if t356 = bt358.2.2 then ((stolonref07_Same.f kj4 t350 bt366.1).bind fun t374 => (stolonlaw07_HostTwo.j1 kj4 t339 (!t374) l0_0 a1_0 a1_1 a1_2 l1_3 a2_0 a2_1 a2_2 l2_3 t342)) else (stolonlaw07_HostTwo.j1 kj4 t339 true l0_0 a1_0 a1_1 a1_2 l1_3 a2_0 a2_1 a2_2 l2_3 t342)) else (stolonlaw07_HostTwo.j1 kj4 t339 true l0_0 a1_0 a1_1 a1_2 l1_3 a2_0 a2_1 a2_2 l2_3 t342)))) = some r := H
     have A55 := Aside0.mk A550
     clear A550
     replace H := Option.bind_eq_some_iff.mp H
     obtain ⟨⟨t358, t361, t364⟩, A560, H⟩ := H
     replace H : ((host_Put.f t358 a1_0 a1_1 a1_2 l1_3).bind fun bt366 => (if t348 = bt366.2.2 then (if t356 = t364 then ((stolonref07_Same.f kj4 t350 bt366.1).bind fun t374 => (stolonlaw07_HostTwo.j1 kj4 t339 (!t374) l0_0 a1_0 a1_1 a1_2 l1_3 a2_0 a2_1 a2_2 l2_3 t342)) else (stolonlaw07_HostTwo.j1 kj4 t339 true l0_0 a1_0 a1_1 a1_2 l1_3 a2_0 a2_1 a2_2 l2_3 t342)) else (stolonlaw07_HostTwo.j1 kj4 t339 true l0_0 a1_0 a1_1 a1_2 l1_3 a2_0 a2_1 a2_2 l2_3 t342))) = some r := H
     have A56 := Aside0.mk A560
     clear A560
     replace H := Option.bind_eq_some_iff.mp H
     obtain ⟨⟨t366, t369, t372⟩, A570, H⟩ := H
     replace H : (if t348 = t372 then (if t356 = t364 then ((stolonref07_Same.f kj4 t350 t366).bind fun t374 => (stolonlaw07_HostTwo.j1 kj4 t339 (!t374) l0_0 a1_0 a1_1 a1_2 l1_3 a2_0 a2_1 a2_2 l2_3 t342)) else (stolonlaw07_HostTwo.j1 kj4 t339 true l0_0 a1_0 a1_1 a1_2 l1_3 a2_0 a2_1 a2_2 l2_3 t342)) else (stolonlaw07_HostTwo.j1 kj4 t339 true l0_0 a1_0 a1_1 a1_2 l1_3 a2_0 a2_1 a2_2 l2_3 t342)) = some r := H
     have A57 := Aside0.mk A570
     clear A570
     have HC58 := Aside0.mk H
     clear H
     have hnb59 := NB336_337.out
     have hnc59 := NB337_336.out
     have hnb60 := NB336_338.out
     have hnc60 := NB338_336.out
     have hcz61_0 : wc.cell? ⟨gb336, 0, none⟩ = some (.slice A0_0 l0_0.length c0_0) := (blk_cell BK336.out 0).trans rfl
     have hfz61_0 := blk_frozen BK336.out 0
     have hnb62 := NB337_338.out
     have hnc62 := NB338_337.out
     obtain ⟨hcz63_0, hcz63_1, hcz63_2, hcz63_3, hfz63_0, hfz63_1, hfz63_2, hfz63_3⟩ := cf4 BK337.out
     go_upto_region 8 with (first | ((with_reducible refine gate_callee (f := 15) rfl ?_); refine goesL_ (some 58) rfl rfl Try.func15 (by kernel_rfl) rfl #[.agg #[.slice A0_0 l0_0.length c0_0], .agg #[.int .i64 a1_0, .int .u32 a1_1, .bool a1_2, .slice A1_3 l1_3.length c1_3]] rfl (by (try simp only [List.map_toArray, List.map_cons, List.map_nil]); first | done | rfl | (simp only [List.length_drop, List.length_take]; rfl)) ?_; (with_reducible refine (host_Put.calls (fun k_ => k_ < w.heap.size) _ _ l0_0 a1_0 a1_1 a1_2 (fun k_ => k_ < w.heap.size) _ _ l1_3 t342 t345 t348 _ ?side1 ?side2 A54.out).mono ?_); (case side1 => exact Kd.V_mk HC0_0.out (Kd.F_below (Kd.C_F k42_heap HR0_0.out) (by repeat (first | (with_reducible first | exact HB.out | apply below_alloc | apply pw_below_drewN | apply below_drew1 | refine below_set ?_ GE336.out | refine below_set ?_ GE337.out | refine below_set ?_ GE338.out) | exact HB.out)))); (case side2 => exact Kd.V_mk HC1_3.out (Kd.F_below (Kd.C_F (Kd.heap_int .u32) HR1_3.out) (by repeat (first | (with_reducible first | exact HB.out | apply below_alloc | apply pw_below_drewN | apply below_drew1 | refine below_set ?_ GE336.out | refine below_set ?_ GE337.out | refine below_set ?_ GE338.out) | exact HB.out)))); rintro e w64 ⟨v343, v346, rfl, ho0, ho1, hb⟩; refine ⟨_, rfl, ?_⟩; have n0_ := Aside0.mk (Kd.V_lower (Kd.V_mono (ok' := fun k_ => k_ ≠ gb336 ∧ k_ ≠ gb337 ∧ k_ ≠ gb338) ho0 (fun k_ hk_ => ⟨Or.elim hk_ (fun hs_ => Or.elim hs_ (fun hs_ => fun e_ => Nat.not_le.2 hs_ (by rw [e_]; exact GW336.out)) (fun hs_ => fun e_ => Nat.not_le.2 hs_ (by rw [e_]; exact GW336.out))) (fun hn_ => (Kd.freshB (g := gb336) (o := .cells #[.slice A0_0 l0_0.length c0_0] 40 (0, 0)) (by (with_reducible repeat (first | refine blk_drewN ?_ _ | refine blk_drew ?_ | refine blk_alloc ?_ _)); exact BK336.out) k_ hn_)), Or.elim hk_ (fun hs_ => Or.elim hs_ (fun hs_ => fun e_ => Nat.not_le.2 hs_ (by rw [e_]; exact GW337.out)) (fun hs_ => fun e_ => Nat.not_le.2 hs_ (by rw [e_]; exact GW337.out))) (fun hn_ => (Kd.freshB (g := gb337) (o := .cells #[.int .i64 a1_0, .int .u32 a1_1, .bool a1_2, .slice A1_3 l1_3.length c1_3] 42 (0, 0)) (by (with_reducible repeat (first | refine blk_drewN ?_ _ | refine blk_drew ?_ | refine blk_alloc ?_ _)); exact BK337.out) k_ hn_)), Or.elim hk_ (fun hs_ => Or.elim hs_ (fun hs_ => fun e_ => Nat.not_le.2 hs_ (by rw [e_]; exact GW338.out)) (fun hs_ => fun e_ => Nat.not_le.2 hs_ (by rw [e_]; exact GW338.out))) (fun hn_ => (Kd.freshB (g := gb338) (o := .cells #[.int .i64 a2_0, .int .u32 a2_1, .bool a2_2, .slice A2_3 l2_3.length c2_3] 42 (0, 0)) (by (with_reducible repeat (first | refine blk_drewN ?_ _ | refine blk_drew ?_ | refine blk_alloc ?_ _)); exact BK338.out) k_ hn_))⟩)) (below_size (by repeat (first | (with_reducible first | exact HB.out | apply below_alloc | apply pw_below_drewN | apply below_drew1 | refine below_set ?_ GE336.out | refine below_set ?_ GE337.out | refine below_set ?_ GE338.out) | exact HB.out)))); have n1_ := Aside0.mk (Kd.V_lower (Kd.V_mono (ok' := fun k_ => k_ ≠ gb336 ∧ k_ ≠ gb337 ∧ k_ ≠ gb338) ho1 (fun k_ hk_ => ⟨Or.elim hk_ (fun hs_ => Or.elim hs_ (fun hs_ => fun e_ => Nat.not_le.2 hs_ (by rw [e_]; exact GW336.out)) (fun hs_ => fun e_ => Nat.not_le.2 hs_ (by rw [e_]; exact GW336.out))) (fun hn_ => (Kd.freshB (g := gb336) (o := .cells #[.slice A0_0 l0_0.length c0_0] 40 (0, 0)) (by (with_reducible repeat (first | refine blk_drewN ?_ _ | refine blk_drew ?_ | refine blk_alloc ?_ _)); exact BK336.out) k_ hn_)), Or.elim hk_ (fun hs_ => Or.elim hs_ (fun hs_ => fun e_ => Nat.not_le.2 hs_ (by rw [e_]; exact GW337.out)) (fun hs_ => fun e_ => Nat.not_le.2 hs_ (by rw [e_]; exact GW337.out))) (fun hn_ => (Kd.freshB (g := gb337) (o := .cells #[.int .i64 a1_0, .int .u32 a1_1, .bool a1_2, .slice A1_3 l1_3.length c1_3] 42 (0, 0)) (by (with_reducible repeat (first | refine blk_drewN ?_ _ | refine blk_drew ?_ | refine blk_alloc ?_ _)); exact BK337.out) k_ hn_)), Or.elim hk_ (fun hs_ => Or.elim hs_ (fun hs_ => fun e_ => Nat.not_le.2 hs_ (by rw [e_]; exact GW338.out)) (fun hs_ => fun e_ => Nat.not_le.2 hs_ (by rw [e_]; exact GW338.out))) (fun hn_ => (Kd.freshB (g := gb338) (o := .cells #[.int .i64 a2_0, .int .u32 a2_1, .bool a2_2, .slice A2_3 l2_3.length c2_3] 42 (0, 0)) (by (with_reducible repeat (first | refine blk_drewN ?_ _ | refine blk_drew ?_ | refine blk_alloc ?_ _)); exact BK338.out) k_ hn_))⟩)) (below_size (by repeat (first | (with_reducible first | exact HB.out | apply below_alloc | apply pw_below_drewN | apply below_drew1 | refine below_set ?_ GE336.out | refine below_set ?_ GE337.out | refine below_set ?_ GE338.out) | exact HB.out)))); have n2_ := Aside0.mk (blk_below (g := gb336) (o := .cells #[.slice A0_0 l0_0.length c0_0] 40 (0, 0)) (by (with_reducible repeat (first | refine blk_drewN ?_ _ | refine blk_drew ?_ | refine blk_alloc ?_ _)); exact BK336.out) hb); have n3_ := Aside0.mk (blk_below (g := gb337) (o := .cells #[.int .i64 a1_0, .int .u32 a1_1, .bool a1_2, .slice A1_3 l1_3.length c1_3] 42 (0, 0)) (by (with_reducible repeat (first | refine blk_drewN ?_ _ | refine blk_drew ?_ | refine blk_alloc ?_ _)); exact BK337.out) hb); have n4_ := Aside0.mk (blk_below (g := gb338) (o := .cells #[.int .i64 a2_0, .int .u32 a2_1, .bool a2_2, .slice A2_3 l2_3.length c2_3] 42 (0, 0)) (by (with_reducible repeat (first | refine blk_drewN ?_ _ | refine blk_drew ?_ | refine blk_alloc ?_ _)); exact BK338.out) hb); have n5_ := Aside0.mk (below_step (by repeat (first | (with_reducible first | exact HB.out | apply below_alloc | apply pw_below_drewN | apply below_drew1 | refine below_set ?_ GE336.out | refine below_set ?_ GE337.out | refine below_set ?_ GE338.out) | exact HB.out)) hb); clear BK336; clear BK337; clear BK338; clear HB; have HO344 := n0_; have HO347 := n1_; have BK336 := n2_; have BK337 := n3_; have BK338 := n4_; have HB := n5_; clear n0_ n1_ n2_ n3_ n4_ n5_; (try clear hb); (try clear hb2); (try clear hk); (try clear hi); (try clear ho0); (try clear ho1)) | ((with_reducible refine gate_dst (N := 8) rfl ?_); (try (refine gate_guard (by rfl) ?_; dsimp only)); refine box_event ?hg (N := 8) ?hd (cs := #[.slice none 0 0]) (t := 40) ?hr ?_; (case hd => rfl); (case hg => rfl); (case hr => first | (go_simp; done) | (go_simp; rfl)); intro gb349 hg w65 hbox hb; have n0_ := Aside0.mk (Kd.V_below (Kd.V_elderB (by (with_reducible repeat (first | apply Kd.V_alloc | apply Kd.V_drewN | apply Kd.V_drew)); exact HO344.out) gb349 (Nat.le_of_eq hg.symm)) hb); have n1_ := Aside0.mk (Kd.V_below (Kd.V_elderB (by (with_reducible repeat (first | apply Kd.V_alloc | apply Kd.V_drewN | apply Kd.V_drew)); exact HO347.out) gb349 (Nat.le_of_eq hg.symm)) hb); have n2_ := Aside0.mk (blk_below (g := gb336) (o := .cells #[.slice A0_0 l0_0.length c0_0] 40 (0, 0)) (by (with_reducible repeat (first | refine blk_drewN ?_ _ | refine blk_drew ?_ | refine blk_alloc ?_ _)); exact BK336.out) hb); have n3_ := Aside0.mk (blk_below (g := gb337) (o := .cells #[.int .i64 a1_0, .int .u32 a1_1, .bool a1_2, .slice A1_3 l1_3.length c1_3] 42 (0, 0)) (by (with_reducible repeat (first | refine blk_drewN ?_ _ | refine blk_drew ?_ | refine blk_alloc ?_ _)); exact BK337.out) hb); have n4_ := Aside0.mk (blk_below (g := gb338) (o := .cells #[.int .i64 a2_0, .int .u32 a2_1, .bool a2_2, .slice A2_3 l2_3.length c2_3] 42 (0, 0)) (by (with_reducible repeat (first | refine blk_drewN ?_ _ | refine blk_drew ?_ | refine blk_alloc ?_ _)); exact BK338.out) hb); have n5_ := Aside0.mk (below_step (by repeat (first | (with_reducible first | exact HB.out | apply below_alloc | apply pw_below_drewN | apply below_drew1 | refine below_set ?_ GE336.out | refine below_set ?_ GE337.out | refine below_set ?_ GE338.out) | exact HB.out)) hb); have n6_ := Aside0.mk (hbox); have n7_ := Aside0.mk ((by rw [hg]; exact (below_size (by repeat (first | (with_reducible first | exact HB.out | apply below_alloc | apply pw_below_drewN | apply below_drew1 | refine below_set ?_ GE336.out | refine below_set ?_ GE337.out | refine below_set ?_ GE338.out) | exact HB.out))) : w.heap.size ≤ gb349)); have n8_ := Aside0.mk ((by rw [hg]; exact (below_size (by repeat (first | (with_reducible first | exact HB.out | apply below_alloc | apply pw_below_drewN | apply below_drew1 | refine below_set ?_ GE336.out | refine below_set ?_ GE337.out | refine below_set ?_ GE338.out) | exact HB.out))) : w.heap.size ≤ gb349)); have n9_ := Aside0.mk ((by rw [hg]; exact Nat.ne_of_lt (blk_lt (g := gb336) (o := .cells #[.slice A0_0 l0_0.length c0_0] 40 (0, 0)) (by (with_reducible repeat (first | refine blk_drewN ?_ _ | refine blk_drew ?_ | refine blk_alloc ?_ _)); exact BK336.out)) : gb336 ≠ gb349)); have n10_ := Aside0.mk ((by rw [hg]; exact Nat.ne_of_gt (blk_lt (g := gb336) (o := .cells #[.slice A0_0 l0_0.length c0_0] 40 (0, 0)) (by (with_reducible repeat (first | refine blk_drewN ?_ _ | refine blk_drew ?_ | refine blk_alloc ?_ _)); exact BK336.out)) : gb349 ≠ gb336)); have n11_ := Aside0.mk ((by rw [hg]; exact Nat.ne_of_lt (blk_lt (g := gb337) (o := .cells #[.int .i64 a1_0, .int .u32 a1_1, .bool a1_2, .slice A1_3 l1_3.length c1_3] 42 (0, 0)) (by (with_reducible repeat (first | refine blk_drewN ?_ _ | refine blk_drew ?_ | refine blk_alloc ?_ _)); exact BK337.out)) : gb337 ≠ gb349)); have n12_ := Aside0.mk ((by rw [hg]; exact Nat.ne_of_gt (blk_lt (g := gb337) (o := .cells #[.int .i64 a1_0, .int .u32 a1_1, .bool a1_2, .slice A1_3 l1_3.length c1_3] 42 (0, 0)) (by (with_reducible repeat (first | refine blk_drewN ?_ _ | refine blk_drew ?_ | refine blk_alloc ?_ _)); exact BK337.out)) : gb349 ≠ gb337)); have n13_ := Aside0.mk ((by rw [hg]; exact Nat.ne_of_lt (blk_lt (g := gb338) (o := .cells #[.int .i64 a2_0, .int .u32 a2_1, .bool a2_2, .slice A2_3 l2_3.length c2_3] 42 (0, 0)) (by (with_reducible repeat (first | refine blk_drewN ?_ _ | refine blk_drew ?_ | refine blk_alloc ?_ _)); exact BK338.out)) : gb338 ≠ gb349)); have n14_ := Aside0.mk ((by rw [hg]; exact Nat.ne_of_gt (blk_lt (g := gb338) (o := .cells #[.int .i64 a2_0, .int .u32 a2_1, .bool a2_2, .slice A2_3 l2_3.length c2_3] 42 (0, 0)) (by (with_reducible repeat (first | refine blk_drewN ?_ _ | refine blk_drew ?_ | refine blk_alloc ?_ _)); exact BK338.out)) : gb349 ≠ gb338)); clear HO344; clear HO347; clear BK336; clear BK337; clear BK338; clear HB; have HO344 := n0_; have HO347 := n1_; have BK336 := n2_; have BK337 := n3_; have BK338 := n4_; have HB := n5_; have BK349 := n6_; have GW349 := n7_; have GE349 := n8_; have NB336_349 := n9_; have NB349_336 := n10_; have NB337_349 := n11_; have NB349_337 := n12_; have NB338_349 := n13_; have NB349_338 := n14_; clear n0_ n1_ n2_ n3_ n4_ n5_ n6_ n7_ n8_ n9_ n10_ n11_ n12_ n13_ n14_; clear hb hbox hg; obtain ⟨Ao66, co66, eo66⟩ := Kd.V_slice HO344.out; subst eo66; have hnb67 := NB349_336.out; have hnc67 := NB336_349.out; have hnb68 := NB349_337.out; have hnc68 := NB337_349.out; have hnb69 := NB349_338.out; have hnc69 := NB338_349.out; have hcz70_0 : w65.cell? ⟨gb349, 0, none⟩ = some (.slice none 0 0) := (blk_cell BK349.out 0).trans rfl; have hfz70_0 := blk_frozen BK349.out 0) | ((with_reducible refine gate_store (t := 40) (p := 8) rfl ?_); refine store_event (t := 40) (p := 8) (v := ?vo_w71) (w1 := (w65.setCell ⟨gb349, 0, none⟩ (.slice Ao66 t342.length co66))) ?hg ?ho ?hn ?hr ?_; (case ho => rfl); (case hg => rfl); (case hn => rfl); (case hr => first | (go_simp; done) | (go_simp; rfl)); intro w71 hw; have n0_ : Aside0 (Kd.V k42 42 w71 w.heap.size (fun k_ => k_ ≠ gb336 ∧ k_ ≠ gb337 ∧ k_ ≠ gb338 ∧ k_ ≠ gb349) (.slice Ao66 t342.length co66) t342) := ⟨(by rw [hw]; exact (by (with_reducible repeat (first | apply Kd.V_alloc | apply Kd.V_drewN | apply Kd.V_drew)); exact Kd.V_mono (Kd.V_far (p := ⟨gb349, 0, none⟩) (Kd.V_mono HO344.out (fun k_ hk => (⟨hk, hk.2⟩ : _ ∧ k_ ≠ gb349))) (fun _ hk => hk.2) (.slice Ao66 t342.length co66)) (fun _ hk => ⟨hk.1.1.1, ⟨hk.1.1.2.1, ⟨hk.1.1.2.2, hk.1.2⟩⟩⟩)))⟩; have n1_ : Aside0 (Kd.V k36 36 w71 w.heap.size (fun k_ => k_ ≠ gb336 ∧ k_ ≠ gb337 ∧ k_ ≠ gb338 ∧ k_ ≠ gb349) v346 t345) := ⟨(by rw [hw]; exact (by (with_reducible repeat (first | apply Kd.V_alloc | apply Kd.V_drewN | apply Kd.V_drew)); exact Kd.V_mono (Kd.V_far (p := ⟨gb349, 0, none⟩) (Kd.V_mono HO347.out (fun k_ hk => (⟨hk, hk.2⟩ : _ ∧ k_ ≠ gb349))) (fun _ hk => hk.2) (.slice Ao66 t342.length co66)) (fun _ hk => ⟨hk.1.1.1, ⟨hk.1.1.2.1, ⟨hk.1.1.2.2, hk.1.2⟩⟩⟩)))⟩; have n2_ : Aside0 (w71.heap[gb336]? = some (.cells #[.slice A0_0 l0_0.length c0_0] 40 (0, 0))) := ⟨(by rw [hw]; exact (by (with_reducible repeat (first | refine blk_drewN ?_ _ | refine blk_drew ?_ | refine blk_alloc ?_ _)); refine blk_far ?_ NB336_349.out _; (with_reducible repeat (first | refine blk_drewN ?_ _ | refine blk_drew ?_ | refine blk_alloc ?_ _)); exact BK336.out))⟩; have n3_ : Aside0 (w71.heap[gb337]? = some (.cells #[.int .i64 a1_0, .int .u32 a1_1, .bool a1_2, .slice A1_3 l1_3.length c1_3] 42 (0, 0))) := ⟨(by rw [hw]; exact (by (with_reducible repeat (first | refine blk_drewN ?_ _ | refine blk_drew ?_ | refine blk_alloc ?_ _)); refine blk_far ?_ NB337_349.out _; (with_reducible repeat (first | refine blk_drewN ?_ _ | refine blk_drew ?_ | refine blk_alloc ?_ _)); exact BK337.out))⟩; have n4_ : Aside0 (w71.heap[gb338]? = some (.cells #[.int .i64 a2_0, .int .u32 a2_1, .bool a2_2, .slice A2_3 l2_3.length c2_3] 42 (0, 0))) := ⟨(by rw [hw]; exact (by (with_reducible repeat (first | refine blk_drewN ?_ _ | refine blk_drew ?_ | refine blk_alloc ?_ _)); refine blk_far ?_ NB338_349.out _; (with_reducible repeat (first | refine blk_drewN ?_ _ | refine blk_drew ?_ | refine blk_alloc ?_ _)); exact BK338.out))⟩; have n5_ : Aside0 (w71.heap[gb349]? = some (.cells #[.slice Ao66 t342.length co66] 40 (0, 0))) := ⟨(by rw [hw]; exact (by (with_reducible repeat (first | refine blk_drewN ?_ _ | refine blk_drew ?_ | refine blk_alloc ?_ _)); refine blk_put (cs := #[.slice none 0 0]) ?_ 0 _ rfl; (with_reducible repeat (first | refine blk_drewN ?_ _ | refine blk_drew ?_ | refine blk_alloc ?_ _)); exact BK349.out))⟩; have n6_ : Aside0 (Below w.heap.size w w71) := ⟨(by rw [hw]; exact (by repeat (first | (with_reducible first | exact HB.out | apply below_alloc | apply pw_below_drewN | apply below_drew1 | refine below_set ?_ GE336.out | refine below_set ?_ GE337.out | refine below_set ?_ GE338.out | refine below_set ?_ GE349.out) | exact HB.out)))⟩; clear hw; clear HO344; clear HO347; clear BK336; clear BK337; clear BK338; clear BK349; clear HB; have HO344 := n0_; have HO347 := n1_; have BK336 := n2_; have BK337 := n3_; have BK338 := n4_; have BK349 := n5_; have HB := n6_; clear n0_ n1_ n2_ n3_ n4_ n5_ n6_; have hcz72_0 : w71.cell? ⟨gb349, 0, none⟩ = some (.slice Ao66 t342.length co66) := (blk_cell BK349.out 0).trans rfl; have hfz72_0 := blk_frozen BK349.out 0; obtain ⟨hcz73_0, hcz73_1, hcz73_2, hcz73_3, hfz73_0, hfz73_1, hfz73_2, hfz73_3⟩ := cf4 BK338.out) | ((with_reducible refine gate_callee (f := 15) rfl ?_); refine goesL_ (some 65) rfl rfl Try.func15 (by kernel_rfl) rfl #[.agg #[.slice Ao66 t342.length co66], .agg #[.int .i64 a2_0, .int .u32 a2_1, .bool a2_2, .slice A2_3 l2_3.length c2_3]] rfl (by (try simp only [List.map_toArray, List.map_cons, List.map_nil]); first | done | rfl | (simp only [List.length_drop, List.length_take]; rfl)) ?_; (with_reducible refine (host_Put.calls (fun k_ => (k_ ≠ gb336 ∧ (k_ ≠ gb337 ∧ (k_ ≠ gb338 ∧ k_ ≠ gb349)))) _ _ t342 a2_0 a2_1 a2_2 (fun k_ => k_ < w.heap.size) _ _ l2_3 t350 t353 t356 _ ?side1 ?side2 A55.out).mono ?_); (case side1 => exact HO344.out); (case side2 => exact Kd.V_mk HC2_3.out (Kd.F_below (Kd.C_F (Kd.heap_int .u32) HR2_3.out) (by repeat (first | (with_reducible first | exact HB.out | apply below_alloc | apply pw_below_drewN | apply below_drew1 | refine below_set ?_ GE336.out | refine below_set ?_ GE337.out | refine below_set ?_ GE338.out | refine below_set ?_ GE349.out) | exact HB.out)))); rintro e w74 ⟨v351, v354, rfl, ho0, ho1, hb⟩; refine ⟨_, rfl, ?_⟩; have n0_ := Aside0.mk (Kd.V_below (by (with_reducible repeat (first | apply Kd.V_alloc | apply Kd.V_drewN | apply Kd.V_drew)); exact HO344.out) hb); have n1_ := Aside0.mk (Kd.V_below (by (with_reducible repeat (first | apply Kd.V_alloc | apply Kd.V_drewN | apply Kd.V_drew)); exact HO347.out) hb); have n2_ := Aside0.mk (Kd.V_lower (Kd.V_mono (ok' := fun k_ => k_ ≠ gb336 ∧ k_ ≠ gb337 ∧ k_ ≠ gb338 ∧ k_ ≠ gb349) ho0 (fun k_ hk_ => ⟨Or.elim hk_ (fun hs_ => Or.elim hs_ (fun hs_ => hs_.1) (fun hs_ => fun e_ => Nat.not_le.2 hs_ (by rw [e_]; exact GW336.out))) (fun hn_ => (Kd.freshB (g := gb336) (o := .cells #[.slice A0_0 l0_0.length c0_0] 40 (0, 0)) (by (with_reducible repeat (first | refine blk_drewN ?_ _ | refine blk_drew ?_ | refine blk_alloc ?_ _)); exact BK336.out) k_ hn_)), Or.elim hk_ (fun hs_ => Or.elim hs_ (fun hs_ => hs_.2.1) (fun hs_ => fun e_ => Nat.not_le.2 hs_ (by rw [e_]; exact GW337.out))) (fun hn_ => (Kd.freshB (g := gb337) (o := .cells #[.int .i64 a1_0, .int .u32 a1_1, .bool a1_2, .slice A1_3 l1_3.length c1_3] 42 (0, 0)) (by (with_reducible repeat (first | refine blk_drewN ?_ _ | refine blk_drew ?_ | refine blk_alloc ?_ _)); exact BK337.out) k_ hn_)), Or.elim hk_ (fun hs_ => Or.elim hs_ (fun hs_ => hs_.2.2.1) (fun hs_ => fun e_ => Nat.not_le.2 hs_ (by rw [e_]; exact GW338.out))) (fun hn_ => (Kd.freshB (g := gb338) (o := .cells #[.int .i64 a2_0, .int .u32 a2_1, .bool a2_2, .slice A2_3 l2_3.length c2_3] 42 (0, 0)) (by (with_reducible repeat (first | refine blk_drewN ?_ _ | refine blk_drew ?_ | refine blk_alloc ?_ _)); exact BK338.out) k_ hn_)), Or.elim hk_ (fun hs_ => Or.elim hs_ (fun hs_ => hs_.2.2.2) (fun hs_ => fun e_ => Nat.not_le.2 hs_ (by rw [e_]; exact GW349.out))) (fun hn_ => (Kd.freshB (g := gb349) (o := .cells #[.slice Ao66 t342.length co66] 40 (0, 0)) (by (with_reducible repeat (first | refine blk_drewN ?_ _ | refine blk_drew ?_ | refine blk_alloc ?_ _)); exact BK349.out) k_ hn_))⟩)) (below_size (by repeat (first | (with_reducible first | exact HB.out | apply below_alloc | apply pw_below_drewN | apply below_drew1 | refine below_set ?_ GE336.out | refine below_set ?_ GE337.out | refine below_set ?_ GE338.out | refine below_set ?_ GE349.out) | exact HB.out)))); have n3_ := Aside0.mk (Kd.V_lower (Kd.V_mono (ok' := fun k_ => k_ ≠ gb336 ∧ k_ ≠ gb337 ∧ k_ ≠ gb338 ∧ k_ ≠ gb349) ho1 (fun k_ hk_ => ⟨Or.elim hk_ (fun hs_ => Or.elim hs_ (fun hs_ => hs_.1) (fun hs_ => fun e_ => Nat.not_le.2 hs_ (by rw [e_]; exact GW336.out))) (fun hn_ => (Kd.freshB (g := gb336) (o := .cells #[.slice A0_0 l0_0.length c0_0] 40 (0, 0)) (by (with_reducible repeat (first | refine blk_drewN ?_ _ | refine blk_drew ?_ | refine blk_alloc ?_ _)); exact BK336.out) k_ hn_)), Or.elim hk_ (fun hs_ => Or.elim hs_ (fun hs_ => hs_.2.1) (fun hs_ => fun e_ => Nat.not_le.2 hs_ (by rw [e_]; exact GW337.out))) (fun hn_ => (Kd.freshB (g := gb337) (o := .cells #[.int .i64 a1_0, .int .u32 a1_1, .bool a1_2, .slice A1_3 l1_3.length c1_3] 42 (0, 0)) (by (with_reducible repeat (first | refine blk_drewN ?_ _ | refine blk_drew ?_ | refine blk_alloc ?_ _)); exact BK337.out) k_ hn_)), Or.elim hk_ (fun hs_ => Or.elim hs_ (fun hs_ => hs_.2.2.1) (fun hs_ => fun e_ => Nat.not_le.2 hs_ (by rw [e_]; exact GW338.out))) (fun hn_ => (Kd.freshB (g := gb338) (o := .cells #[.int .i64 a2_0, .int .u32 a2_1, .bool a2_2, .slice A2_3 l2_3.length c2_3] 42 (0, 0)) (by (with_reducible repeat (first | refine blk_drewN ?_ _ | refine blk_drew ?_ | refine blk_alloc ?_ _)); exact BK338.out) k_ hn_)), Or.elim hk_ (fun hs_ => Or.elim hs_ (fun hs_ => hs_.2.2.2) (fun hs_ => fun e_ => Nat.not_le.2 hs_ (by rw [e_]; exact GW349.out))) (fun hn_ => (Kd.freshB (g := gb349) (o := .cells #[.slice Ao66 t342.length co66] 40 (0, 0)) (by (with_reducible repeat (first | refine blk_drewN ?_ _ | refine blk_drew ?_ | refine blk_alloc ?_ _)); exact BK349.out) k_ hn_))⟩)) (below_size (by repeat (first | (with_reducible first | exact HB.out | apply below_alloc | apply pw_below_drewN | apply below_drew1 | refine below_set ?_ GE336.out | refine below_set ?_ GE337.out | refine below_set ?_ GE338.out | refine below_set ?_ GE349.out) | exact HB.out)))); have n4_ := Aside0.mk (blk_below (g := gb336) (o := .cells #[.slice A0_0 l0_0.length c0_0] 40 (0, 0)) (by (with_reducible repeat (first | refine blk_drewN ?_ _ | refine blk_drew ?_ | refine blk_alloc ?_ _)); exact BK336.out) hb); have n5_ := Aside0.mk (blk_below (g := gb337) (o := .cells #[.int .i64 a1_0, .int .u32 a1_1, .bool a1_2, .slice A1_3 l1_3.length c1_3] 42 (0, 0)) (by (with_reducible repeat (first | refine blk_drewN ?_ _ | refine blk_drew ?_ | refine blk_alloc ?_ _)); exact BK337.out) hb); have n6_ := Aside0.mk (blk_below (g := gb338) (o := .cells #[.int .i64 a2_0, .int .u32 a2_1, .bool a2_2, .slice A2_3 l2_3.length c2_3] 42 (0, 0)) (by (with_reducible repeat (first | refine blk_drewN ?_ _ | refine blk_drew ?_ | refine blk_alloc ?_ _)); exact BK338.out) hb); have n7_ := Aside0.mk (blk_below (g := gb349) (o := .cells #[.slice Ao66 t342.length co66] 40 (0, 0)) (by (with_reducible repeat (first | refine blk_drewN ?_ _ | refine blk_drew ?_ | refine blk_alloc ?_ _)); exact BK349.out) hb); have n8_ := Aside0.mk (below_step (by repeat (first | (with_reducible first | exact HB.out | apply below_alloc | apply pw_below_drewN | apply below_drew1 | refine below_set ?_ GE336.out | refine below_set ?_ GE337.out | refine below_set ?_ GE338.out | refine below_set ?_ GE349.out) | exact HB.out)) hb); clear HO344; clear HO347; clear BK336; clear BK337; clear BK338; clear BK349; clear HB; have HO344 := n0_; have HO347 := n1_; have HO352 := n2_; have HO355 := n3_; have BK336 := n4_; have BK337 := n5_; have BK338 := n6_; have BK349 := n7_; have HB := n8_; clear n0_ n1_ n2_ n3_ n4_ n5_ n6_ n7_ n8_; (try clear hb); (try clear hb2); (try clear hk); (try clear hi); (try clear ho0); (try clear ho1)) | ((with_reducible refine gate_dst (N := 11) rfl ?_); (try (refine gate_guard (by rfl) ?_; dsimp only)); refine box_event ?hg (N := 11) ?hd (cs := #[.slice none 0 0]) (t := 40) ?hr ?_; (case hd => rfl); (case hg => rfl); (case hr => first | (go_simp; done) | (go_simp; rfl)); intro gb357 hg w75 hbox hb; have n0_ := Aside0.mk (Kd.V_below (Kd.V_elderB (by (with_reducible repeat (first | apply Kd.V_alloc | apply Kd.V_drewN | apply Kd.V_drew)); exact HO344.out) gb357 (Nat.le_of_eq hg.symm)) hb); have n1_ := Aside0.mk (Kd.V_below (Kd.V_elderB (by (with_reducible repeat (first | apply Kd.V_alloc | apply Kd.V_drewN | apply Kd.V_drew)); exact HO347.out) gb357 (Nat.le_of_eq hg.symm)) hb); have n2_ := Aside0.mk (Kd.V_below (Kd.V_elderB (by (with_reducible repeat (first | apply Kd.V_alloc | apply Kd.V_drewN | apply Kd.V_drew)); exact HO352.out) gb357 (Nat.le_of_eq hg.symm)) hb); have n3_ := Aside0.mk (Kd.V_below (Kd.V_elderB (by (with_reducible repeat (first | apply Kd.V_alloc | apply Kd.V_drewN | apply Kd.V_drew)); exact HO355.out) gb357 (Nat.le_of_eq hg.symm)) hb); have n4_ := Aside0.mk (blk_below (g := gb336) (o := .cells #[.slice A0_0 l0_0.length c0_0] 40 (0, 0)) (by (with_reducible repeat (first | refine blk_drewN ?_ _ | refine blk_drew ?_ | refine blk_alloc ?_ _)); exact BK336.out) hb); have n5_ := Aside0.mk (blk_below (g := gb337) (o := .cells #[.int .i64 a1_0, .int .u32 a1_1, .bool a1_2, .slice A1_3 l1_3.length c1_3] 42 (0, 0)) (by (with_reducible repeat (first | refine blk_drewN ?_ _ | refine blk_drew ?_ | refine blk_alloc ?_ _)); exact BK337.out) hb); have n6_ := Aside0.mk (blk_below (g := gb338) (o := .cells #[.int .i64 a2_0, .int .u32 a2_1, .bool a2_2, .slice A2_3 l2_3.length c2_3] 42 (0, 0)) (by (with_reducible repeat (first | refine blk_drewN ?_ _ | refine blk_drew ?_ | refine blk_alloc ?_ _)); exact BK338.out) hb); have n7_ := Aside0.mk (blk_below (g := gb349) (o := .cells #[.slice Ao66 t342.length co66] 40 (0, 0)) (by (with_reducible repeat (first | refine blk_drewN ?_ _ | refine blk_drew ?_ | refine blk_alloc ?_ _)); exact BK349.out) hb); have n8_ := Aside0.mk (below_step (by repeat (first | (with_reducible first | exact HB.out | apply below_alloc | apply pw_below_drewN | apply below_drew1 | refine below_set ?_ GE336.out | refine below_set ?_ GE337.out | refine below_set ?_ GE338.out | refine below_set ?_ GE349.out) | exact HB.out)) hb); have n9_ := Aside0.mk (hbox); have n10_ := Aside0.mk ((by rw [hg]; exact (below_size (by repeat (first | (with_reducible first | exact HB.out | apply below_alloc | apply pw_below_drewN | apply below_drew1 | refine below_set ?_ GE336.out | refine below_set ?_ GE337.out | refine below_set ?_ GE338.out | refine below_set ?_ GE349.out) | exact HB.out))) : w.heap.size ≤ gb357)); have n11_ := Aside0.mk ((by rw [hg]; exact (below_size (by repeat (first | (with_reducible first | exact HB.out | apply below_alloc | apply pw_below_drewN | apply below_drew1 | refine below_set ?_ GE336.out | refine below_set ?_ GE337.out | refine below_set ?_ GE338.out | refine below_set ?_ GE349.out) | exact HB.out))) : w.heap.size ≤ gb357)); have n12_ := Aside0.mk ((by rw [hg]; exact Nat.ne_of_lt (blk_lt (g := gb336) (o := .cells #[.slice A0_0 l0_0.length c0_0] 40 (0, 0)) (by (with_reducible repeat (first | refine blk_drewN ?_ _ | refine blk_drew ?_ | refine blk_alloc ?_ _)); exact BK336.out)) : gb336 ≠ gb357)); have n13_ := Aside0.mk ((by rw [hg]; exact Nat.ne_of_gt (blk_lt (g := gb336) (o := .cells #[.slice A0_0 l0_0.length c0_0] 40 (0, 0)) (by (with_reducible repeat (first | refine blk_drewN ?_ _ | refine blk_drew ?_ | refine blk_alloc ?_ _)); exact BK336.out)) : gb357 ≠ gb336)); have n14_ := Aside0.mk ((by rw [hg]; exact Nat.ne_of_lt (blk_lt (g := gb337) (o := .cells #[.int .i64 a1_0, .int .u32 a1_1, .bool a1_2, .slice A1_3 l1_3.length c1_3] 42 (0, 0)) (by (with_reducible repeat (first | refine blk_drewN ?_ _ | refine blk_drew ?_ | refine blk_alloc ?_ _)); exact BK337.out)) : gb337 ≠ gb357)); have n15_ := Aside0.mk ((by rw [hg]; exact Nat.ne_of_gt (blk_lt (g := gb337) (o := .cells #[.int .i64 a1_0, .int .u32 a1_1, .bool a1_2, .slice A1_3 l1_3.length c1_3] 42 (0, 0)) (by (with_reducible repeat (first | refine blk_drewN ?_ _ | refine blk_drew ?_ | refine blk_alloc ?_ _)); exact BK337.out)) : gb357 ≠ gb337)); have n16_ := Aside0.mk ((by rw [hg]; exact Nat.ne_of_lt (blk_lt (g := gb338) (o := .cells #[.int .i64 a2_0, .int .u32 a2_1, .bool a2_2, .slice A2_3 l2_3.length c2_3] 42 (0, 0)) (by (with_reducible repeat (first | refine blk_drewN ?_ _ | refine blk_drew ?_ | refine blk_alloc ?_ _)); exact BK338.out)) : gb338 ≠ gb357)); have n17_ := Aside0.mk ((by rw [hg]; exact Nat.ne_of_gt (blk_lt (g := gb338) (o := .cells #[.int .i64 a2_0, .int .u32 a2_1, .bool a2_2, .slice A2_3 l2_3.length c2_3] 42 (0, 0)) (by (with_reducible repeat (first | refine blk_drewN ?_ _ | refine blk_drew ?_ | refine blk_alloc ?_ _)); exact BK338.out)) : gb357 ≠ gb338)); have n18_ := Aside0.mk ((by rw [hg]; exact Nat.ne_of_lt (blk_lt (g := gb349) (o := .cells #[.slice Ao66 t342.length co66] 40 (0, 0)) (by (with_reducible repeat (first | refine blk_drewN ?_ _ | refine blk_drew ?_ | refine blk_alloc ?_ _)); exact BK349.out)) : gb349 ≠ gb357)); have n19_ := Aside0.mk ((by rw [hg]; exact Nat.ne_of_gt (blk_lt (g := gb349) (o := .cells #[.slice Ao66 t342.length co66] 40 (0, 0)) (by (with_reducible repeat (first | refine blk_drewN ?_ _ | refine blk_drew ?_ | refine blk_alloc ?_ _)); exact BK349.out)) : gb357 ≠ gb349)); clear HO344; clear HO347; clear HO352; clear HO355; clear BK336; clear BK337; clear BK338; clear BK349; clear HB; have HO344 := n0_; have HO347 := n1_; have HO352 := n2_; have HO355 := n3_; have BK336 := n4_; have BK337 := n5_; have BK338 := n6_; have BK349 := n7_; have HB := n8_; have BK357 := n9_; have GW357 := n10_; have GE357 := n11_; have NB336_357 := n12_; have NB357_336 := n13_; have NB337_357 := n14_; have NB357_337 := n15_; have NB338_357 := n16_; have NB357_338 := n17_; have NB349_357 := n18_; have NB357_349 := n19_; clear n0_ n1_ n2_ n3_ n4_ n5_ n6_ n7_ n8_ n9_ n10_ n11_ n12_ n13_ n14_ n15_ n16_ n17_ n18_ n19_; clear hb hbox hg; obtain ⟨Ao76, co76, eo76⟩ := Kd.V_slice HO352.out; subst eo76; have hnb77 := NB357_336.out; have hnc77 := NB336_357.out; have hnb78 := NB357_337.out; have hnc78 := NB337_357.out; have hnb79 := NB357_338.out; have hnc79 := NB338_357.out; have hnb80 := NB357_349.out; have hnc80 := NB349_357.out; have hcz81_0 : w75.cell? ⟨gb357, 0, none⟩ = some (.slice none 0 0) := (blk_cell BK357.out 0).trans rfl; have hfz81_0 := blk_frozen BK357.out 0) | ((with_reducible refine gate_store (t := 40) (p := 11) rfl ?_); refine store_event (t := 40) (p := 11) (v := ?vo_w82) (w1 := (w75.setCell ⟨gb357, 0, none⟩ (.slice Ao76 t350.length co76))) ?hg ?ho ?hn ?hr ?_; (case ho => rfl); (case hg => rfl); (case hn => rfl); (case hr => first | (go_simp; done) | (go_simp; rfl)); intro w82 hw; have n0_ : Aside0 (Kd.V k42 42 w82 w.heap.size (fun k_ => k_ ≠ gb336 ∧ k_ ≠ gb337 ∧ k_ ≠ gb338 ∧ k_ ≠ gb349 ∧ k_ ≠ gb357) (.slice Ao66 t342.length co66) t342) := ⟨(by rw [hw]; exact (by (with_reducible repeat (first | apply Kd.V_alloc | apply Kd.V_drewN | apply Kd.V_drew)); exact Kd.V_mono (Kd.V_far (p := ⟨gb357, 0, none⟩) (Kd.V_mono HO344.out (fun k_ hk => (⟨hk, hk.2⟩ : _ ∧ k_ ≠ gb357))) (fun _ hk => hk.2) (.slice Ao76 t350.length co76)) (fun _ hk => ⟨hk.1.1.1, ⟨hk.1.1.2.1, ⟨hk.1.1.2.2.1, ⟨hk.1.1.2.2.2, hk.1.2⟩⟩⟩⟩)))⟩; have n1_ : Aside0 (Kd.V k36 36 w82 w.heap.size (fun k_ => k_ ≠ gb336 ∧ k_ ≠ gb337 ∧ k_ ≠ gb338 ∧ k_ ≠ gb349 ∧ k_ ≠ gb357) v346 t345) := ⟨(by rw [hw]; exact (by (with_reducible repeat (first | apply Kd.V_alloc | apply Kd.V_drewN | apply Kd.V_drew)); exact Kd.V_mono (Kd.V_far (p := ⟨gb357, 0, none⟩) (Kd.V_mono HO347.out (fun k_ hk => (⟨hk, hk.2⟩ : _ ∧ k_ ≠ gb357))) (fun _ hk => hk.2) (.slice Ao76 t350.length co76)) (fun _ hk => ⟨hk.1.1.1, ⟨hk.1.1.2.1, ⟨hk.1.1.2.2.1, ⟨hk.1.1.2.2.2, hk.1.2⟩⟩⟩⟩)))⟩; have n2_ : Aside0 (Kd.V k42 42 w82 w.heap.size (fun k_ => k_ ≠ gb336 ∧ k_ ≠ gb337 ∧ k_ ≠ gb338 ∧ k_ ≠ gb349 ∧ k_ ≠ gb357) (.slice Ao76 t350.length co76) t350) := ⟨(by rw [hw]; exact (by (with_reducible repeat (first | apply Kd.V_alloc | apply Kd.V_drewN | apply Kd.V_drew)); exact Kd.V_mono (Kd.V_far (p := ⟨gb357, 0, none⟩) (Kd.V_mono HO352.out (fun k_ hk => (⟨hk, hk.2⟩ : _ ∧ k_ ≠ gb357))) (fun _ hk => hk.2) (.slice Ao76 t350.length co76)) (fun _ hk => ⟨hk.1.1.1, ⟨hk.1.1.2.1, ⟨hk.1.1.2.2.1, ⟨hk.1.1.2.2.2, hk.1.2⟩⟩⟩⟩)))⟩; have n3_ : Aside0 (Kd.V k36 36 w82 w.heap.size (fun k_ => k_ ≠ gb336 ∧ k_ ≠ gb337 ∧ k_ ≠ gb338 ∧ k_ ≠ gb349 ∧ k_ ≠ gb357) v354 t353) := ⟨(by rw [hw]; exact (by (with_reducible repeat (first | apply Kd.V_alloc | apply Kd.V_drewN | apply Kd.V_drew)); exact Kd.V_mono (Kd.V_far (p := ⟨gb357, 0, none⟩) (Kd.V_mono HO355.out (fun k_ hk => (⟨hk, hk.2⟩ : _ ∧ k_ ≠ gb357))) (fun _ hk => hk.2) (.slice Ao76 t350.length co76)) (fun _ hk => ⟨hk.1.1.1, ⟨hk.1.1.2.1, ⟨hk.1.1.2.2.1, ⟨hk.1.1.2.2.2, hk.1.2⟩⟩⟩⟩)))⟩; have n4_ : Aside0 (w82.heap[gb336]? = some (.cells #[.slice A0_0 l0_0.length c0_0] 40 (0, 0))) := ⟨(by rw [hw]; exact (by (with_reducible repeat (first | refine blk_drewN ?_ _ | refine blk_drew ?_ | refine blk_alloc ?_ _)); refine blk_far ?_ NB336_357.out _; (with_reducible repeat (first | refine blk_drewN ?_ _ | refine blk_drew ?_ | refine blk_alloc ?_ _)); exact BK336.out))⟩; have n5_ : Aside0 (w82.heap[gb337]? = some (.cells #[.int .i64 a1_0, .int .u32 a1_1, .bool a1_2, .slice A1_3 l1_3.length c1_3] 42 (0, 0))) := ⟨(by rw [hw]; exact (by (with_reducible repeat (first | refine blk_drewN ?_ _ | refine blk_drew ?_ | refine blk_alloc ?_ _)); refine blk_far ?_ NB337_357.out _; (with_reducible repeat (first | refine blk_drewN ?_ _ | refine blk_drew ?_ | refine blk_alloc ?_ _)); exact BK337.out))⟩; have n6_ : Aside0 (w82.heap[gb338]? = some (.cells #[.int .i64 a2_0, .int .u32 a2_1, .bool a2_2, .slice A2_3 l2_3.length c2_3] 42 (0, 0))) := ⟨(by rw [hw]; exact (by (with_reducible repeat (first | refine blk_drewN ?_ _ | refine blk_drew ?_ | refine blk_alloc ?_ _)); refine blk_far ?_ NB338_357.out _; (with_reducible repeat (first | refine blk_drewN ?_ _ | refine blk_drew ?_ | refine blk_alloc ?_ _)); exact BK338.out))⟩; have n7_ : Aside0 (w82.heap[gb349]? = some (.cells #[.slice Ao66 t342.length co66] 40 (0, 0))) := ⟨(by rw [hw]; exact (by (with_reducible repeat (first | refine blk_drewN ?_ _ | refine blk_drew ?_ | refine blk_alloc ?_ _)); refine blk_far ?_ NB349_357.out _; (with_reducible repeat (first | refine blk_drewN ?_ _ | refine blk_drew ?_ | refine blk_alloc ?_ _)); exact BK349.out))⟩; have n8_ : Aside0 (w82.heap[gb357]? = some (.cells #[.slice Ao76 t350.length co76] 40 (0, 0))) := ⟨(by rw [hw]; exact (by (with_reducible repeat (first | refine blk_drewN ?_ _ | refine blk_drew ?_ | refine blk_alloc ?_ _)); refine blk_put (cs := #[.slice none 0 0]) ?_ 0 _ rfl; (with_reducible repeat (first | refine blk_drewN ?_ _ | refine blk_drew ?_ | refine blk_alloc ?_ _)); exact BK357.out))⟩; have n9_ : Aside0 (Below w.heap.size w w82) := ⟨(by rw [hw]; exact (by repeat (first | (with_reducible first | exact HB.out | apply below_alloc | apply pw_below_drewN | apply below_drew1 | refine below_set ?_ GE336.out | refine below_set ?_ GE337.out | refine below_set ?_ GE338.out | refine below_set ?_ GE349.out | refine below_set ?_ GE357.out) | exact HB.out)))⟩; clear hw; clear HO344; clear HO347; clear HO352; clear HO355; clear BK336; clear BK337; clear BK338; clear BK349; clear BK357; clear HB; have HO344 := n0_; have HO347 := n1_; have HO352 := n2_; have HO355 := n3_; have BK336 := n4_; have BK337 := n5_; have BK338 := n6_; have BK349 := n7_; have BK357 := n8_; have HB := n9_; clear n0_ n1_ n2_ n3_ n4_ n5_ n6_ n7_ n8_ n9_; have hcz83_0 : w82.cell? ⟨gb336, 0, none⟩ = some (.slice A0_0 l0_0.length c0_0) := (blk_cell BK336.out 0).trans rfl; have hfz83_0 := blk_frozen BK336.out 0; obtain ⟨hcz84_0, hcz84_1, hcz84_2, hcz84_3, hfz84_0, hfz84_1, hfz84_2, hfz84_3⟩ := cf4 BK338.out) | ((with_reducible refine gate_callee (f := 15) rfl ?_); refine goesL_ (some 72) rfl rfl Try.func15 (by kernel_rfl) rfl #[.agg #[.slice A0_0 l0_0.length c0_0], .agg #[.int .i64 a2_0, .int .u32 a2_1, .bool a2_2, .slice A2_3 l2_3.length c2_3]] rfl (by (try simp only [List.map_toArray, List.map_cons, List.map_nil]); first | done | rfl | (simp only [List.length_drop, List.length_take]; rfl)) ?_; (with_reducible refine (host_Put.calls (fun k_ => k_ < w.heap.size) _ _ l0_0 a2_0 a2_1 a2_2 (fun k_ => k_ < w.heap.size) _ _ l2_3 t358 t361 t364 _ ?side1 ?side2 A56.out).mono ?_); (case side1 => exact Kd.V_mk HC0_0.out (Kd.F_below (Kd.C_F k42_heap HR0_0.out) (by repeat (first | (with_reducible first | exact HB.out | apply below_alloc | apply pw_below_drewN | apply below_drew1 | refine below_set ?_ GE336.out | refine below_set ?_ GE337.out | refine below_set ?_ GE338.out | refine below_set ?_ GE349.out | refine below_set ?_ GE357.out) | exact HB.out)))); (case side2 => exact Kd.V_mk HC2_3.out (Kd.F_below (Kd.C_F (Kd.heap_int .u32) HR2_3.out) (by repeat (first | (with_reducible first | exact HB.out | apply below_alloc | apply pw_below_drewN | apply below_drew1 | refine below_set ?_ GE336.out | refine below_set ?_ GE337.out | refine below_set ?_ GE338.out | refine below_set ?_ GE349.out | refine below_set ?_ GE357.out) | exact HB.out)))); rintro e w85 ⟨v359, v362, rfl, ho0, ho1, hb⟩; refine ⟨_, rfl, ?_⟩; have n0_ := Aside0.mk (Kd.V_below (by (with_reducible repeat (first | apply Kd.V_alloc | apply Kd.V_drewN | apply Kd.V_drew)); exact HO344.out) hb); have n1_ := Aside0.mk (Kd.V_below (by (with_reducible repeat (first | apply Kd.V_alloc | apply Kd.V_drewN | apply Kd.V_drew)); exact HO347.out) hb); have n2_ := Aside0.mk (Kd.V_below (by (with_reducible repeat (first | apply Kd.V_alloc | apply Kd.V_drewN | apply Kd.V_drew)); exact HO352.out) hb); have n3_ := Aside0.mk (Kd.V_below (by (with_reducible repeat (first | apply Kd.V_alloc | apply Kd.V_drewN | apply Kd.V_drew)); exact HO355.out) hb); have n4_ := Aside0.mk (Kd.V_lower (Kd.V_mono (ok' := fun k_ => k_ ≠ gb336 ∧ k_ ≠ gb337 ∧ k_ ≠ gb338 ∧ k_ ≠ gb349 ∧ k_ ≠ gb357) ho0 (fun k_ hk_ => ⟨Or.elim hk_ (fun hs_ => Or.elim hs_ (fun hs_ => fun e_ => Nat.not_le.2 hs_ (by rw [e_]; exact GW336.out)) (fun hs_ => fun e_ => Nat.not_le.2 hs_ (by rw [e_]; exact GW336.out))) (fun hn_ => (Kd.freshB (g := gb336) (o := .cells #[.slice A0_0 l0_0.length c0_0] 40 (0, 0)) (by (with_reducible repeat (first | refine blk_drewN ?_ _ | refine blk_drew ?_ | refine blk_alloc ?_ _)); exact BK336.out) k_ hn_)), Or.elim hk_ (fun hs_ => Or.elim hs_ (fun hs_ => fun e_ => Nat.not_le.2 hs_ (by rw [e_]; exact GW337.out)) (fun hs_ => fun e_ => Nat.not_le.2 hs_ (by rw [e_]; exact GW337.out))) (fun hn_ => (Kd.freshB (g := gb337) (o := .cells #[.int .i64 a1_0, .int .u32 a1_1, .bool a1_2, .slice A1_3 l1_3.length c1_3] 42 (0, 0)) (by (with_reducible repeat (first | refine blk_drewN ?_ _ | refine blk_drew ?_ | refine blk_alloc ?_ _)); exact BK337.out) k_ hn_)), Or.elim hk_ (fun hs_ => Or.elim hs_ (fun hs_ => fun e_ => Nat.not_le.2 hs_ (by rw [e_]; exact GW338.out)) (fun hs_ => fun e_ => Nat.not_le.2 hs_ (by rw [e_]; exact GW338.out))) (fun hn_ => (Kd.freshB (g := gb338) (o := .cells #[.int .i64 a2_0, .int .u32 a2_1, .bool a2_2, .slice A2_3 l2_3.length c2_3] 42 (0, 0)) (by (with_reducible repeat (first | refine blk_drewN ?_ _ | refine blk_drew ?_ | refine blk_alloc ?_ _)); exact BK338.out) k_ hn_)), Or.elim hk_ (fun hs_ => Or.elim hs_ (fun hs_ => fun e_ => Nat.not_le.2 hs_ (by rw [e_]; exact GW349.out)) (fun hs_ => fun e_ => Nat.not_le.2 hs_ (by rw [e_]; exact GW349.out))) (fun hn_ => (Kd.freshB (g := gb349) (o := .cells #[.slice Ao66 t342.length co66] 40 (0, 0)) (by (with_reducible repeat (first | refine blk_drewN ?_ _ | refine blk_drew ?_ | refine blk_alloc ?_ _)); exact BK349.out) k_ hn_)), Or.elim hk_ (fun hs_ => Or.elim hs_ (fun hs_ => fun e_ => Nat.not_le.2 hs_ (by rw [e_]; exact GW357.out)) (fun hs_ => fun e_ => Nat.not_le.2 hs_ (by rw [e_]; exact GW357.out))) (fun hn_ => (Kd.freshB (g := gb357) (o := .cells #[.slice Ao76 t350.length co76] 40 (0, 0)) (by (with_reducible repeat (first | refine blk_drewN ?_ _ | refine blk_drew ?_ | refine blk_alloc ?_ _)); exact BK357.out) k_ hn_))⟩)) (below_size (by repeat (first | (with_reducible first | exact HB.out | apply below_alloc | apply pw_below_drewN | apply below_drew1 | refine below_set ?_ GE336.out | refine below_set ?_ GE337.out | refine below_set ?_ GE338.out | refine below_set ?_ GE349.out | refine below_set ?_ GE357.out) | exact HB.out)))); have n5_ := Aside0.mk (Kd.V_lower (Kd.V_mono (ok' := fun k_ => k_ ≠ gb336 ∧ k_ ≠ gb337 ∧ k_ ≠ gb338 ∧ k_ ≠ gb349 ∧ k_ ≠ gb357) ho1 (fun k_ hk_ => ⟨Or.elim hk_ (fun hs_ => Or.elim hs_ (fun hs_ => fun e_ => Nat.not_le.2 hs_ (by rw [e_]; exact GW336.out)) (fun hs_ => fun e_ => Nat.not_le.2 hs_ (by rw [e_]; exact GW336.out))) (fun hn_ => (Kd.freshB (g := gb336) (o := .cells #[.slice A0_0 l0_0.length c0_0] 40 (0, 0)) (by (with_reducible repeat (first | refine blk_drewN ?_ _ | refine blk_drew ?_ | refine blk_alloc ?_ _)); exact BK336.out) k_ hn_)), Or.elim hk_ (fun hs_ => Or.elim hs_ (fun hs_ => fun e_ => Nat.not_le.2 hs_ (by rw [e_]; exact GW337.out)) (fun hs_ => fun e_ => Nat.not_le.2 hs_ (by rw [e_]; exact GW337.out))) (fun hn_ => (Kd.freshB (g := gb337) (o := .cells #[.int .i64 a1_0, .int .u32 a1_1, .bool a1_2, .slice A1_3 l1_3.length c1_3] 42 (0, 0)) (by (with_reducible repeat (first | refine blk_drewN ?_ _ | refine blk_drew ?_ | refine blk_alloc ?_ _)); exact BK337.out) k_ hn_)), Or.elim hk_ (fun hs_ => Or.elim hs_ (fun hs_ => fun e_ => Nat.not_le.2 hs_ (by rw [e_]; exact GW338.out)) (fun hs_ => fun e_ => Nat.not_le.2 hs_ (by rw [e_]; exact GW338.out))) (fun hn_ => (Kd.freshB (g := gb338) (o := .cells #[.int .i64 a2_0, .int .u32 a2_1, .bool a2_2, .slice A2_3 l2_3.length c2_3] 42 (0, 0)) (by (with_reducible repeat (first | refine blk_drewN ?_ _ | refine blk_drew ?_ | refine blk_alloc ?_ _)); exact BK338.out) k_ hn_)), Or.elim hk_ (fun hs_ => Or.elim hs_ (fun hs_ => fun e_ => Nat.not_le.2 hs_ (by rw [e_]; exact GW349.out)) (fun hs_ => fun e_ => Nat.not_le.2 hs_ (by rw [e_]; exact GW349.out))) (fun hn_ => (Kd.freshB (g := gb349) (o := .cells #[.slice Ao66 t342.length co66] 40 (0, 0)) (by (with_reducible repeat (first | refine blk_drewN ?_ _ | refine blk_drew ?_ | refine blk_alloc ?_ _)); exact BK349.out) k_ hn_)), Or.elim hk_ (fun hs_ => Or.elim hs_ (fun hs_ => fun e_ => Nat.not_le.2 hs_ (by rw [e_]; exact GW357.out)) (fun hs_ => fun e_ => Nat.not_le.2 hs_ (by rw [e_]; exact GW357.out))) (fun hn_ => (Kd.freshB (g := gb357) (o := .cells #[.slice Ao76 t350.length co76] 40 (0, 0)) (by (with_reducible repeat (first | refine blk_drewN ?_ _ | refine blk_drew ?_ | refine blk_alloc ?_ _)); exact BK357.out) k_ hn_))⟩)) (below_size (by repeat (first | (with_reducible first | exact HB.out | apply below_alloc | apply pw_below_drewN | apply below_drew1 | refine below_set ?_ GE336.out | refine below_set ?_ GE337.out | refine below_set ?_ GE338.out | refine below_set ?_ GE349.out | refine below_set ?_ GE357.out) | exact HB.out)))); have n6_ := Aside0.mk (blk_below (g := gb336) (o := .cells #[.slice A0_0 l0_0.length c0_0] 40 (0, 0)) (by (with_reducible repeat (first | refine blk_drewN ?_ _ | refine blk_drew ?_ | refine blk_alloc ?_ _)); exact BK336.out) hb); have n7_ := Aside0.mk (blk_below (g := gb337) (o := .cells #[.int .i64 a1_0, .int .u32 a1_1, .bool a1_2, .slice A1_3 l1_3.length c1_3] 42 (0, 0)) (by (with_reducible repeat (first | refine blk_drewN ?_ _ | refine blk_drew ?_ | refine blk_alloc ?_ _)); exact BK337.out) hb); have n8_ := Aside0.mk (blk_below (g := gb338) (o := .cells #[.int .i64 a2_0, .int .u32 a2_1, .bool a2_2, .slice A2_3 l2_3.length c2_3] 42 (0, 0)) (by (with_reducible repeat (first | refine blk_drewN ?_ _ | refine blk_drew ?_ | refine blk_alloc ?_ _)); exact BK338.out) hb); have n9_ := Aside0.mk (blk_below (g := gb349) (o := .cells #[.slice Ao66 t342.length co66] 40 (0, 0)) (by (with_reducible repeat (first | refine blk_drewN ?_ _ | refine blk_drew ?_ | refine blk_alloc ?_ _)); exact BK349.out) hb); have n10_ := Aside0.mk (blk_below (g := gb357) (o := .cells #[.slice Ao76 t350.length co76] 40 (0, 0)) (by (with_reducible repeat (first | refine blk_drewN ?_ _ | refine blk_drew ?_ | refine blk_alloc ?_ _)); exact BK357.out) hb); have n11_ := Aside0.mk (below_step (by repeat (first | (with_reducible first | exact HB.out | apply below_alloc | apply pw_below_drewN | apply below_drew1 | refine below_set ?_ GE336.out | refine below_set ?_ GE337.out | refine below_set ?_ GE338.out | refine below_set ?_ GE349.out | refine below_set ?_ GE357.out) | exact HB.out)) hb); clear HO344; clear HO347; clear HO352; clear HO355; clear BK336; clear BK337; clear BK338; clear BK349; clear BK357; clear HB; have HO344 := n0_; have HO347 := n1_; have HO352 := n2_; have HO355 := n3_; have HO360 := n4_; have HO363 := n5_; have BK336 := n6_; have BK337 := n7_; have BK338 := n8_; have BK349 := n9_; have BK357 := n10_; have HB := n11_; clear n0_ n1_ n2_ n3_ n4_ n5_ n6_ n7_ n8_ n9_ n10_ n11_; (try clear hb); (try clear hb2); (try clear hk); (try clear hi); (try clear ho0); (try clear ho1)) | ((with_reducible refine gate_dst (N := 14) rfl ?_); (try (refine gate_guard (by rfl) ?_; dsimp only)); refine box_event ?hg (N := 14) ?hd (cs := #[.slice none 0 0]) (t := 40) ?hr ?_; (case hd => rfl); (case hg => rfl); (case hr => first | (go_simp; done) | (go_simp; rfl)); intro gb365 hg w86 hbox hb; have n0_ := Aside0.mk (Kd.V_below (Kd.V_elderB (by (with_reducible repeat (first | apply Kd.V_alloc | apply Kd.V_drewN | apply Kd.V_drew)); exact HO344.out) gb365 (Nat.le_of_eq hg.symm)) hb); have n1_ := Aside0.mk (Kd.V_below (Kd.V_elderB (by (with_reducible repeat (first | apply Kd.V_alloc | apply Kd.V_drewN | apply Kd.V_drew)); exact HO347.out) gb365 (Nat.le_of_eq hg.symm)) hb); have n2_ := Aside0.mk (Kd.V_below (Kd.V_elderB (by (with_reducible repeat (first | apply Kd.V_alloc | apply Kd.V_drewN | apply Kd.V_drew)); exact HO352.out) gb365 (Nat.le_of_eq hg.symm)) hb); have n3_ := Aside0.mk (Kd.V_below (Kd.V_elderB (by (with_reducible repeat (first | apply Kd.V_alloc | apply Kd.V_drewN | apply Kd.V_drew)); exact HO355.out) gb365 (Nat.le_of_eq hg.symm)) hb); have n4_ := Aside0.mk (Kd.V_below (Kd.V_elderB (by (with_reducible repeat (first | apply Kd.V_alloc | apply Kd.V_drewN | apply Kd.V_drew)); exact HO360.out) gb365 (Nat.le_of_eq hg.symm)) hb); have n5_ := Aside0.mk (Kd.V_below (Kd.V_elderB (by (with_reducible repeat (first | apply Kd.V_alloc | apply Kd.V_drewN | apply Kd.V_drew)); exact HO363.out) gb365 (Nat.le_of_eq hg.symm)) hb); have n6_ := Aside0.mk (blk_below (g := gb336) (o := .cells #[.slice A0_0 l0_0.length c0_0] 40 (0, 0)) (by (with_reducible repeat (first | refine blk_drewN ?_ _ | refine blk_drew ?_ | refine blk_alloc ?_ _)); exact BK336.out) hb); have n7_ := Aside0.mk (blk_below (g := gb337) (o := .cells #[.int .i64 a1_0, .int .u32 a1_1, .bool a1_2, .slice A1_3 l1_3.length c1_3] 42 (0, 0)) (by (with_reducible repeat (first | refine blk_drewN ?_ _ | refine blk_drew ?_ | refine blk_alloc ?_ _)); exact BK337.out) hb); have n8_ := Aside0.mk (blk_below (g := gb338) (o := .cells #[.int .i64 a2_0, .int .u32 a2_1, .bool a2_2, .slice A2_3 l2_3.length c2_3] 42 (0, 0)) (by (with_reducible repeat (first | refine blk_drewN ?_ _ | refine blk_drew ?_ | refine blk_alloc ?_ _)); exact BK338.out) hb); have n9_ := Aside0.mk (blk_below (g := gb349) (o := .cells #[.slice Ao66 t342.length co66] 40 (0, 0)) (by (with_reducible repeat (first | refine blk_drewN ?_ _ | refine blk_drew ?_ | refine blk_alloc ?_ _)); exact BK349.out) hb); have n10_ := Aside0.mk (blk_below (g := gb357) (o := .cells #[.slice Ao76 t350.length co76] 40 (0, 0)) (by (with_reducible repeat (first | refine blk_drewN ?_ _ | refine blk_drew ?_ | refine blk_alloc ?_ _)); exact BK357.out) hb); have n11_ := Aside0.mk (below_step (by repeat (first | (with_reducible first | exact HB.out | apply below_alloc | apply pw_below_drewN | apply below_drew1 | refine below_set ?_ GE336.out | refine below_set ?_ GE337.out | refine below_set ?_ GE338.out | refine below_set ?_ GE349.out | refine below_set ?_ GE357.out) | exact HB.out)) hb); have n12_ := Aside0.mk (hbox); have n13_ := Aside0.mk ((by rw [hg]; exact (below_size (by repeat (first | (with_reducible first | exact HB.out | apply below_alloc | apply pw_below_drewN | apply below_drew1 | refine below_set ?_ GE336.out | refine below_set ?_ GE337.out | refine below_set ?_ GE338.out | refine below_set ?_ GE349.out | refine below_set ?_ GE357.out) | exact HB.out))) : w.heap.size ≤ gb365)); have n14_ := Aside0.mk ((by rw [hg]; exact (below_size (by repeat (first | (with_reducible first | exact HB.out | apply below_alloc | apply pw_below_drewN | apply below_drew1 | refine below_set ?_ GE336.out | refine below_set ?_ GE337.out | refine below_set ?_ GE338.out | refine below_set ?_ GE349.out | refine below_set ?_ GE357.out) | exact HB.out))) : w.heap.size ≤ gb365)); have n15_ := Aside0.mk ((by rw [hg]; exact Nat.ne_of_lt (blk_lt (g := gb336) (o := .cells #[.slice A0_0 l0_0.length c0_0] 40 (0, 0)) (by (with_reducible repeat (first | refine blk_drewN ?_ _ | refine blk_drew ?_ | refine blk_alloc ?_ _)); exact BK336.out)) : gb336 ≠ gb365)); have n16_ := Aside0.mk ((by rw [hg]; exact Nat.ne_of_gt (blk_lt (g := gb336) (o := .cells #[.slice A0_0 l0_0.length c0_0] 40 (0, 0)) (by (with_reducible repeat (first | refine blk_drewN ?_ _ | refine blk_drew ?_ | refine blk_alloc ?_ _)); exact BK336.out)) : gb365 ≠ gb336)); have n17_ := Aside0.mk ((by rw [hg]; exact Nat.ne_of_lt (blk_lt (g := gb337) (o := .cells #[.int .i64 a1_0, .int .u32 a1_1, .bool a1_2, .slice A1_3 l1_3.length c1_3] 42 (0, 0)) (by (with_reducible repeat (first | refine blk_drewN ?_ _ | refine blk_drew ?_ | refine blk_alloc ?_ _)); exact BK337.out)) : gb337 ≠ gb365)); have n18_ := Aside0.mk ((by rw [hg]; exact Nat.ne_of_gt (blk_lt (g := gb337) (o := .cells #[.int .i64 a1_0, .int .u32 a1_1, .bool a1_2, .slice A1_3 l1_3.length c1_3] 42 (0, 0)) (by (with_reducible repeat (first | refine blk_drewN ?_ _ | refine blk_drew ?_ | refine blk_alloc ?_ _)); exact BK337.out)) : gb365 ≠ gb337)); have n19_ := Aside0.mk ((by rw [hg]; exact Nat.ne_of_lt (blk_lt (g := gb338) (o := .cells #[.int .i64 a2_0, .int .u32 a2_1, .bool a2_2, .slice A2_3 l2_3.length c2_3] 42 (0, 0)) (by (with_reducible repeat (first | refine blk_drewN ?_ _ | refine blk_drew ?_ | refine blk_alloc ?_ _)); exact BK338.out)) : gb338 ≠ gb365)); have n20_ := Aside0.mk ((by rw [hg]; exact Nat.ne_of_gt (blk_lt (g := gb338) (o := .cells #[.int .i64 a2_0, .int .u32 a2_1, .bool a2_2, .slice A2_3 l2_3.length c2_3] 42 (0, 0)) (by (with_reducible repeat (first | refine blk_drewN ?_ _ | refine blk_drew ?_ | refine blk_alloc ?_ _)); exact BK338.out)) : gb365 ≠ gb338)); have n21_ := Aside0.mk ((by rw [hg]; exact Nat.ne_of_lt (blk_lt (g := gb349) (o := .cells #[.slice Ao66 t342.length co66] 40 (0, 0)) (by (with_reducible repeat (first | refine blk_drewN ?_ _ | refine blk_drew ?_ | refine blk_alloc ?_ _)); exact BK349.out)) : gb349 ≠ gb365)); have n22_ := Aside0.mk ((by rw [hg]; exact Nat.ne_of_gt (blk_lt (g := gb349) (o := .cells #[.slice Ao66 t342.length co66] 40 (0, 0)) (by (with_reducible repeat (first | refine blk_drewN ?_ _ | refine blk_drew ?_ | refine blk_alloc ?_ _)); exact BK349.out)) : gb365 ≠ gb349)); have n23_ := Aside0.mk ((by rw [hg]; exact Nat.ne_of_lt (blk_lt (g := gb357) (o := .cells #[.slice Ao76 t350.length co76] 40 (0, 0)) (by (with_reducible repeat (first | refine blk_drewN ?_ _ | refine blk_drew ?_ | refine blk_alloc ?_ _)); exact BK357.out)) : gb357 ≠ gb365)); have n24_ := Aside0.mk ((by rw [hg]; exact Nat.ne_of_gt (blk_lt (g := gb357) (o := .cells #[.slice Ao76 t350.length co76] 40 (0, 0)) (by (with_reducible repeat (first | refine blk_drewN ?_ _ | refine blk_drew ?_ | refine blk_alloc ?_ _)); exact BK357.out)) : gb365 ≠ gb357)); clear HO344; clear HO347; clear HO352; clear HO355; clear HO360; clear HO363; clear BK336; clear BK337; clear BK338; clear BK349; clear BK357; clear HB; have HO344 := n0_; have HO347 := n1_; have HO352 := n2_; have HO355 := n3_; have HO360 := n4_; have HO363 := n5_; have BK336 := n6_; have BK337 := n7_; have BK338 := n8_; have BK349 := n9_; have BK357 := n10_; have HB := n11_; have BK365 := n12_; have GW365 := n13_; have GE365 := n14_; have NB336_365 := n15_; have NB365_336 := n16_; have NB337_365 := n17_; have NB365_337 := n18_; have NB338_365 := n19_; have NB365_338 := n20_; have NB349_365 := n21_; have NB365_349 := n22_; have NB357_365 := n23_; have NB365_357 := n24_; clear n0_ n1_ n2_ n3_ n4_ n5_ n6_ n7_ n8_ n9_ n10_ n11_ n12_ n13_ n14_ n15_ n16_ n17_ n18_ n19_ n20_ n21_ n22_ n23_ n24_; clear hb hbox hg; obtain ⟨Ao87, co87, eo87⟩ := Kd.V_slice HO360.out; subst eo87; have hnb88 := NB365_336.out; have hnc88 := NB336_365.out; have hnb89 := NB365_337.out; have hnc89 := NB337_365.out; have hnb90 := NB365_338.out; have hnc90 := NB338_365.out; have hnb91 := NB365_349.out; have hnc91 := NB349_365.out; have hnb92 := NB365_357.out; have hnc92 := NB357_365.out; have hcz93_0 : w86.cell? ⟨gb365, 0, none⟩ = some (.slice none 0 0) := (blk_cell BK365.out 0).trans rfl; have hfz93_0 := blk_frozen BK365.out 0) | ((with_reducible refine gate_store (t := 40) (p := 14) rfl ?_); refine store_event (t := 40) (p := 14) (v := ?vo_w94) (w1 := (w86.setCell ⟨gb365, 0, none⟩ (.slice Ao87 t358.length co87))) ?hg ?ho ?hn ?hr ?_; (case ho => rfl); (case hg => rfl); (case hn => rfl); (case hr => first | (go_simp; done) | (go_simp; rfl)); intro w94 hw; have n0_ : Aside0 (Kd.V k42 42 w94 w.heap.size (fun k_ => k_ ≠ gb336 ∧ k_ ≠ gb337 ∧ k_ ≠ gb338 ∧ k_ ≠ gb349 ∧ k_ ≠ gb357 ∧ k_ ≠ gb365) (.slice Ao66 t342.length co66) t342) := ⟨(by rw [hw]; exact (by (with_reducible repeat (first | apply Kd.V_alloc | apply Kd.V_drewN | apply Kd.V_drew)); exact Kd.V_mono (Kd.V_far (p := ⟨gb365, 0, none⟩) (Kd.V_mono HO344.out (fun k_ hk => (⟨hk, hk.2⟩ : _ ∧ k_ ≠ gb365))) (fun _ hk => hk.2) (.slice Ao87 t358.length co87)) (fun _ hk => ⟨hk.1.1.1, ⟨hk.1.1.2.1, ⟨hk.1.1.2.2.1, ⟨hk.1.1.2.2.2.1, ⟨hk.1.1.2.2.2.2, hk.1.2⟩⟩⟩⟩⟩)))⟩; have n1_ : Aside0 (Kd.V k36 36 w94 w.heap.size (fun k_ => k_ ≠ gb336 ∧ k_ ≠ gb337 ∧ k_ ≠ gb338 ∧ k_ ≠ gb349 ∧ k_ ≠ gb357 ∧ k_ ≠ gb365) v346 t345) := ⟨(by rw [hw]; exact (by (with_reducible repeat (first | apply Kd.V_alloc | apply Kd.V_drewN | apply Kd.V_drew)); exact Kd.V_mono (Kd.V_far (p := ⟨gb365, 0, none⟩) (Kd.V_mono HO347.out (fun k_ hk => (⟨hk, hk.2⟩ : _ ∧ k_ ≠ gb365))) (fun _ hk => hk.2) (.slice Ao87 t358.length co87)) (fun _ hk => ⟨hk.1.1.1, ⟨hk.1.1.2.1, ⟨hk.1.1.2.2.1, ⟨hk.1.1.2.2.2.1, ⟨hk.1.1.2.2.2.2, hk.1.2⟩⟩⟩⟩⟩)))⟩; have n2_ : Aside0 (Kd.V k42 42 w94 w.heap.size (fun k_ => k_ ≠ gb336 ∧ k_ ≠ gb337 ∧ k_ ≠ gb338 ∧ k_ ≠ gb349 ∧ k_ ≠ gb357 ∧ k_ ≠ gb365) (.slice Ao76 t350.length co76) t350) := ⟨(by rw [hw]; exact (by (with_reducible repeat (first | apply Kd.V_alloc | apply Kd.V_drewN | apply Kd.V_drew)); exact Kd.V_mono (Kd.V_far (p := ⟨gb365, 0, none⟩) (Kd.V_mono HO352.out (fun k_ hk => (⟨hk, hk.2⟩ : _ ∧ k_ ≠ gb365))) (fun _ hk => hk.2) (.slice Ao87 t358.length co87)) (fun _ hk => ⟨hk.1.1.1, ⟨hk.1.1.2.1, ⟨hk.1.1.2.2.1, ⟨hk.1.1.2.2.2.1, ⟨hk.1.1.2.2.2.2, hk.1.2⟩⟩⟩⟩⟩)))⟩; have n3_ : Aside0 (Kd.V k36 36 w94 w.heap.size (fun k_ => k_ ≠ gb336 ∧ k_ ≠ gb337 ∧ k_ ≠ gb338 ∧ k_ ≠ gb349 ∧ k_ ≠ gb357 ∧ k_ ≠ gb365) v354 t353) := ⟨(by rw [hw]; exact (by (with_reducible repeat (first | apply Kd.V_alloc | apply Kd.V_drewN | apply Kd.V_drew)); exact Kd.V_mono (Kd.V_far (p := ⟨gb365, 0, none⟩) (Kd.V_mono HO355.out (fun k_ hk => (⟨hk, hk.2⟩ : _ ∧ k_ ≠ gb365))) (fun _ hk => hk.2) (.slice Ao87 t358.length co87)) (fun _ hk => ⟨hk.1.1.1, ⟨hk.1.1.2.1, ⟨hk.1.1.2.2.1, ⟨hk.1.1.2.2.2.1, ⟨hk.1.1.2.2.2.2, hk.1.2⟩⟩⟩⟩⟩)))⟩; have n4_ : Aside0 (Kd.V k42 42 w94 w.heap.size (fun k_ => k_ ≠ gb336 ∧ k_ ≠ gb337 ∧ k_ ≠ gb338 ∧ k_ ≠ gb349 ∧ k_ ≠ gb357 ∧ k_ ≠ gb365) (.slice Ao87 t358.length co87) t358) := ⟨(by rw [hw]; exact (by (with_reducible repeat (first | apply Kd.V_alloc | apply Kd.V_drewN | apply Kd.V_drew)); exact Kd.V_mono (Kd.V_far (p := ⟨gb365, 0, none⟩) (Kd.V_mono HO360.out (fun k_ hk => (⟨hk, hk.2⟩ : _ ∧ k_ ≠ gb365))) (fun _ hk => hk.2) (.slice Ao87 t358.length co87)) (fun _ hk => ⟨hk.1.1.1, ⟨hk.1.1.2.1, ⟨hk.1.1.2.2.1, ⟨hk.1.1.2.2.2.1, ⟨hk.1.1.2.2.2.2, hk.1.2⟩⟩⟩⟩⟩)))⟩; have n5_ : Aside0 (Kd.V k36 36 w94 w.heap.size (fun k_ => k_ ≠ gb336 ∧ k_ ≠ gb337 ∧ k_ ≠ gb338 ∧ k_ ≠ gb349 ∧ k_ ≠ gb357 ∧ k_ ≠ gb365) v362 t361) := ⟨(by rw [hw]; exact (by (with_reducible repeat (first | apply Kd.V_alloc | apply Kd.V_drewN | apply Kd.V_drew)); exact Kd.V_mono (Kd.V_far (p := ⟨gb365, 0, none⟩) (Kd.V_mono HO363.out (fun k_ hk => (⟨hk, hk.2⟩ : _ ∧ k_ ≠ gb365))) (fun _ hk => hk.2) (.slice Ao87 t358.length co87)) (fun _ hk => ⟨hk.1.1.1, ⟨hk.1.1.2.1, ⟨hk.1.1.2.2.1, ⟨hk.1.1.2.2.2.1, ⟨hk.1.1.2.2.2.2, hk.1.2⟩⟩⟩⟩⟩)))⟩; have n6_ : Aside0 (w94.heap[gb336]? = some (.cells #[.slice A0_0 l0_0.length c0_0] 40 (0, 0))) := ⟨(by rw [hw]; exact (by (with_reducible repeat (first | refine blk_drewN ?_ _ | refine blk_drew ?_ | refine blk_alloc ?_ _)); refine blk_far ?_ NB336_365.out _; (with_reducible repeat (first | refine blk_drewN ?_ _ | refine blk_drew ?_ | refine blk_alloc ?_ _)); exact BK336.out))⟩; have n7_ : Aside0 (w94.heap[gb337]? = some (.cells #[.int .i64 a1_0, .int .u32 a1_1, .bool a1_2, .slice A1_3 l1_3.length c1_3] 42 (0, 0))) := ⟨(by rw [hw]; exact (by (with_reducible repeat (first | refine blk_drewN ?_ _ | refine blk_drew ?_ | refine blk_alloc ?_ _)); refine blk_far ?_ NB337_365.out _; (with_reducible repeat (first | refine blk_drewN ?_ _ | refine blk_drew ?_ | refine blk_alloc ?_ _)); exact BK337.out))⟩; have n8_ : Aside0 (w94.heap[gb338]? = some (.cells #[.int .i64 a2_0, .int .u32 a2_1, .bool a2_2, .slice A2_3 l2_3.length c2_3] 42 (0, 0))) := ⟨(by rw [hw]; exact (by (with_reducible repeat (first | refine blk_drewN ?_ _ | refine blk_drew ?_ | refine blk_alloc ?_ _)); refine blk_far ?_ NB338_365.out _; (with_reducible repeat (first | refine blk_drewN ?_ _ | refine blk_drew ?_ | refine blk_alloc ?_ _)); exact BK338.out))⟩; have n9_ : Aside0 (w94.heap[gb349]? = some (.cells #[.slice Ao66 t342.length co66] 40 (0, 0))) := ⟨(by rw [hw]; exact (by (with_reducible repeat (first | refine blk_drewN ?_ _ | refine blk_drew ?_ | refine blk_alloc ?_ _)); refine blk_far ?_ NB349_365.out _; (with_reducible repeat (first | refine blk_drewN ?_ _ | refine blk_drew ?_ | refine blk_alloc ?_ _)); exact BK349.out))⟩; have n10_ : Aside0 (w94.heap[gb357]? = some (.cells #[.slice Ao76 t350.length co76] 40 (0, 0))) := ⟨(by rw [hw]; exact (by (with_reducible repeat (first | refine blk_drewN ?_ _ | refine blk_drew ?_ | refine blk_alloc ?_ _)); refine blk_far ?_ NB357_365.out _; (with_reducible repeat (first | refine blk_drewN ?_ _ | refine blk_drew ?_ | refine blk_alloc ?_ _)); exact BK357.out))⟩; have n11_ : Aside0 (w94.heap[gb365]? = some (.cells #[.slice Ao87 t358.length co87] 40 (0, 0))) := ⟨(by rw [hw]; exact (by (with_reducible repeat (first | refine blk_drewN ?_ _ | refine blk_drew ?_ | refine blk_alloc ?_ _)); refine blk_put (cs := #[.slice none 0 0]) ?_ 0 _ rfl; (with_reducible repeat (first | refine blk_drewN ?_ _ | refine blk_drew ?_ | refine blk_alloc ?_ _)); exact BK365.out))⟩; have n12_ : Aside0 (Below w.heap.size w w94) := ⟨(by rw [hw]; exact (by repeat (first | (with_reducible first | exact HB.out | apply below_alloc | apply pw_below_drewN | apply below_drew1 | refine below_set ?_ GE336.out | refine below_set ?_ GE337.out | refine below_set ?_ GE338.out | refine below_set ?_ GE349.out | refine below_set ?_ GE357.out | refine below_set ?_ GE365.out) | exact HB.out)))⟩; clear hw; clear HO344; clear HO347; clear HO352; clear HO355; clear HO360; clear HO363; clear BK336; clear BK337; clear BK338; clear BK349; clear BK357; clear BK365; clear HB; have HO344 := n0_; have HO347 := n1_; have HO352 := n2_; have HO355 := n3_; have HO360 := n4_; have HO363 := n5_; have BK336 := n6_; have BK337 := n7_; have BK338 := n8_; have BK349 := n9_; have BK357 := n10_; have BK365 := n11_; have HB := n12_; clear n0_ n1_ n2_ n3_ n4_ n5_ n6_ n7_ n8_ n9_ n10_ n11_ n12_; have hcz95_0 : w94.cell? ⟨gb365, 0, none⟩ = some (.slice Ao87 t358.length co87) := (blk_cell BK365.out 0).trans rfl; have hfz95_0 := blk_frozen BK365.out 0; obtain ⟨hcz96_0, hcz96_1, hcz96_2, hcz96_3, hfz96_0, hfz96_1, hfz96_2, hfz96_3⟩ := cf4 BK337.out) | ((with_reducible refine gate_callee (f := 15) rfl ?_); refine goesL_ (some 79) rfl rfl Try.func15 (by kernel_rfl) rfl #[.agg #[.slice Ao87 t358.length co87], .agg #[.int .i64 a1_0, .int .u32 a1_1, .bool a1_2, .slice A1_3 l1_3.length c1_3]] rfl (by (try simp only [List.map_toArray, List.map_cons, List.map_nil]); first | done | rfl | (simp only [List.length_drop, List.length_take]; rfl)) ?_; (with_reducible refine (host_Put.calls (fun k_ => (k_ ≠ gb336 ∧ (k_ ≠ gb337 ∧ (k_ ≠ gb338 ∧ (k_ ≠ gb349 ∧ (k_ ≠ gb357 ∧ k_ ≠ gb365)))))) _ _ t358 a1_0 a1_1 a1_2 (fun k_ => k_ < w.heap.size) _ _ l1_3 t366 t369 t372 _ ?side1 ?side2 A57.out).mono ?_); (case side1 => exact HO360.out); (case side2 => exact Kd.V_mk HC1_3.out (Kd.F_below (Kd.C_F (Kd.heap_int .u32) HR1_3.out) (by repeat (first | (with_reducible first | exact HB.out | apply below_alloc | apply pw_below_drewN | apply below_drew1 | refine below_set ?_ GE336.out | refine below_set ?_ GE337.out | refine below_set ?_ GE338.out | refine below_set ?_ GE349.out | refine below_set ?_ GE357.out | refine below_set ?_ GE365.out) | exact HB.out)))); rintro e w97 ⟨v367, v370, rfl, ho0, ho1, hb⟩; refine ⟨_, rfl, ?_⟩; have n0_ := Aside0.mk (Kd.V_below (by (with_reducible repeat (first | apply Kd.V_alloc | apply Kd.V_drewN | apply Kd.V_drew)); exact HO344.out) hb); have n1_ := Aside0.mk (Kd.V_below (by (with_reducible repeat (first | apply Kd.V_alloc | apply Kd.V_drewN | apply Kd.V_drew)); exact HO347.out) hb); have n2_ := Aside0.mk (Kd.V_below (by (with_reducible repeat (first | apply Kd.V_alloc | apply Kd.V_drewN | apply Kd.V_drew)); exact HO352.out) hb); have n3_ := Aside0.mk (Kd.V_below (by (with_reducible repeat (first | apply Kd.V_alloc | apply Kd.V_drewN | apply Kd.V_drew)); exact HO355.out) hb); have n4_ := Aside0.mk (Kd.V_below (by (with_reducible repeat (first | apply Kd.V_alloc | apply Kd.V_drewN | apply Kd.V_drew)); exact HO360.out) hb); have n5_ := Aside0.mk (Kd.V_below (by (with_reducible repeat (first | apply Kd.V_alloc | apply Kd.V_drewN | apply Kd.V_drew)); exact HO363.out) hb); have n6_ := Aside0.mk (Kd.V_lower (Kd.V_mono (ok' := fun k_ => k_ ≠ gb336 ∧ k_ ≠ gb337 ∧ k_ ≠ gb338 ∧ k_ ≠ gb349 ∧ k_ ≠ gb357 ∧ k_ ≠ gb365) ho0 (fun k_ hk_ => ⟨Or.elim hk_ (fun hs_ => Or.elim hs_ (fun hs_ => hs_.1) (fun hs_ => fun e_ => Nat.not_le.2 hs_ (by rw [e_]; exact GW336.out))) (fun hn_ => (Kd.freshB (g := gb336) (o := .cells #[.slice A0_0 l0_0.length c0_0] 40 (0, 0)) (by (with_reducible repeat (first | refine blk_drewN ?_ _ | refine blk_drew ?_ | refine blk_alloc ?_ _)); exact BK336.out) k_ hn_)), Or.elim hk_ (fun hs_ => Or.elim hs_ (fun hs_ => hs_.2.1) (fun hs_ => fun e_ => Nat.not_le.2 hs_ (by rw [e_]; exact GW337.out))) (fun hn_ => (Kd.freshB (g := gb337) (o := .cells #[.int .i64 a1_0, .int .u32 a1_1, .bool a1_2, .slice A1_3 l1_3.length c1_3] 42 (0, 0)) (by (with_reducible repeat (first | refine blk_drewN ?_ _ | refine blk_drew ?_ | refine blk_alloc ?_ _)); exact BK337.out) k_ hn_)), Or.elim hk_ (fun hs_ => Or.elim hs_ (fun hs_ => hs_.2.2.1) (fun hs_ => fun e_ => Nat.not_le.2 hs_ (by rw [e_]; exact GW338.out))) (fun hn_ => (Kd.freshB (g := gb338) (o := .cells #[.int .i64 a2_0, .int .u32 a2_1, .bool a2_2, .slice A2_3 l2_3.length c2_3] 42 (0, 0)) (by (with_reducible repeat (first | refine blk_drewN ?_ _ | refine blk_drew ?_ | refine blk_alloc ?_ _)); exact BK338.out) k_ hn_)), Or.elim hk_ (fun hs_ => Or.elim hs_ (fun hs_ => hs_.2.2.2.1) (fun hs_ => fun e_ => Nat.not_le.2 hs_ (by rw [e_]; exact GW349.out))) (fun hn_ => (Kd.freshB (g := gb349) (o := .cells #[.slice Ao66 t342.length co66] 40 (0, 0)) (by (with_reducible repeat (first | refine blk_drewN ?_ _ | refine blk_drew ?_ | refine blk_alloc ?_ _)); exact BK349.out) k_ hn_)), Or.elim hk_ (fun hs_ => Or.elim hs_ (fun hs_ => hs_.2.2.2.2.1) (fun hs_ => fun e_ => Nat.not_le.2 hs_ (by rw [e_]; exact GW357.out))) (fun hn_ => (Kd.freshB (g := gb357) (o := .cells #[.slice Ao76 t350.length co76] 40 (0, 0)) (by (with_reducible repeat (first | refine blk_drewN ?_ _ | refine blk_drew ?_ | refine blk_alloc ?_ _)); exact BK357.out) k_ hn_)), Or.elim hk_ (fun hs_ => Or.elim hs_ (fun hs_ => hs_.2.2.2.2.2) (fun hs_ => fun e_ => Nat.not_le.2 hs_ (by rw [e_]; exact GW365.out))) (fun hn_ => (Kd.freshB (g := gb365) (o := .cells #[.slice Ao87 t358.length co87] 40 (0, 0)) (by (with_reducible repeat (first | refine blk_drewN ?_ _ | refine blk_drew ?_ | refine blk_alloc ?_ _)); exact BK365.out) k_ hn_))⟩)) (below_size (by repeat (first | (with_reducible first | exact HB.out | apply below_alloc | apply pw_below_drewN | apply below_drew1 | refine below_set ?_ GE336.out | refine below_set ?_ GE337.out | refine below_set ?_ GE338.out | refine below_set ?_ GE349.out | refine below_set ?_ GE357.out | refine below_set ?_ GE365.out) | exact HB.out)))); have n7_ := Aside0.mk (Kd.V_lower (Kd.V_mono (ok' := fun k_ => k_ ≠ gb336 ∧ k_ ≠ gb337 ∧ k_ ≠ gb338 ∧ k_ ≠ gb349 ∧ k_ ≠ gb357 ∧ k_ ≠ gb365) ho1 (fun k_ hk_ => ⟨Or.elim hk_ (fun hs_ => Or.elim hs_ (fun hs_ => hs_.1) (fun hs_ => fun e_ => Nat.not_le.2 hs_ (by rw [e_]; exact GW336.out))) (fun hn_ => (Kd.freshB (g := gb336) (o := .cells #[.slice A0_0 l0_0.length c0_0] 40 (0, 0)) (by (with_reducible repeat (first | refine blk_drewN ?_ _ | refine blk_drew ?_ | refine blk_alloc ?_ _)); exact BK336.out) k_ hn_)), Or.elim hk_ (fun hs_ => Or.elim hs_ (fun hs_ => hs_.2.1) (fun hs_ => fun e_ => Nat.not_le.2 hs_ (by rw [e_]; exact GW337.out))) (fun hn_ => (Kd.freshB (g := gb337) (o := .cells #[.int .i64 a1_0, .int .u32 a1_1, .bool a1_2, .slice A1_3 l1_3.length c1_3] 42 (0, 0)) (by (with_reducible repeat (first | refine blk_drewN ?_ _ | refine blk_drew ?_ | refine blk_alloc ?_ _)); exact BK337.out) k_ hn_)), Or.elim hk_ (fun hs_ => Or.elim hs_ (fun hs_ => hs_.2.2.1) (fun hs_ => fun e_ => Nat.not_le.2 hs_ (by rw [e_]; exact GW338.out))) (fun hn_ => (Kd.freshB (g := gb338) (o := .cells #[.int .i64 a2_0, .int .u32 a2_1, .bool a2_2, .slice A2_3 l2_3.length c2_3] 42 (0, 0)) (by (with_reducible repeat (first | refine blk_drewN ?_ _ | refine blk_drew ?_ | refine blk_alloc ?_ _)); exact BK338.out) k_ hn_)), Or.elim hk_ (fun hs_ => Or.elim hs_ (fun hs_ => hs_.2.2.2.1) (fun hs_ => fun e_ => Nat.not_le.2 hs_ (by rw [e_]; exact GW349.out))) (fun hn_ => (Kd.freshB (g := gb349) (o := .cells #[.slice Ao66 t342.length co66] 40 (0, 0)) (by (with_reducible repeat (first | refine blk_drewN ?_ _ | refine blk_drew ?_ | refine blk_alloc ?_ _)); exact BK349.out) k_ hn_)), Or.elim hk_ (fun hs_ => Or.elim hs_ (fun hs_ => hs_.2.2.2.2.1) (fun hs_ => fun e_ => Nat.not_le.2 hs_ (by rw [e_]; exact GW357.out))) (fun hn_ => (Kd.freshB (g := gb357) (o := .cells #[.slice Ao76 t350.length co76] 40 (0, 0)) (by (with_reducible repeat (first | refine blk_drewN ?_ _ | refine blk_drew ?_ | refine blk_alloc ?_ _)); exact BK357.out) k_ hn_)), Or.elim hk_ (fun hs_ => Or.elim hs_ (fun hs_ => hs_.2.2.2.2.2) (fun hs_ => fun e_ => Nat.not_le.2 hs_ (by rw [e_]; exact GW365.out))) (fun hn_ => (Kd.freshB (g := gb365) (o := .cells #[.slice Ao87 t358.length co87] 40 (0, 0)) (by (with_reducible repeat (first | refine blk_drewN ?_ _ | refine blk_drew ?_ | refine blk_alloc ?_ _)); exact BK365.out) k_ hn_))⟩)) (below_size (by repeat (first | (with_reducible first | exact HB.out | apply below_alloc | apply pw_below_drewN | apply below_drew1 | refine below_set ?_ GE336.out | refine below_set ?_ GE337.out | refine below_set ?_ GE338.out | refine below_set ?_ GE349.out | refine below_set ?_ GE357.out | refine below_set ?_ GE365.out) | exact HB.out)))); have n8_ := Aside0.mk (blk_below (g := gb336) (o := .cells #[.slice A0_0 l0_0.length c0_0] 40 (0, 0)) (by (with_reducible repeat (first | refine blk_drewN ?_ _ | refine blk_drew ?_ | refine blk_alloc ?_ _)); exact BK336.out) hb); have n9_ := Aside0.mk (blk_below (g := gb337) (o := .cells #[.int .i64 a1_0, .int .u32 a1_1, .bool a1_2, .slice A1_3 l1_3.length c1_3] 42 (0, 0)) (by (with_reducible repeat (first | refine blk_drewN ?_ _ | refine blk_drew ?_ | refine blk_alloc ?_ _)); exact BK337.out) hb); have n10_ := Aside0.mk (blk_below (g := gb338) (o := .cells #[.int .i64 a2_0, .int .u32 a2_1, .bool a2_2, .slice A2_3 l2_3.length c2_3] 42 (0, 0)) (by (with_reducible repeat (first | refine blk_drewN ?_ _ | refine blk_drew ?_ | refine blk_alloc ?_ _)); exact BK338.out) hb); have n11_ := Aside0.mk (blk_below (g := gb349) (o := .cells #[.slice Ao66 t342.length co66] 40 (0, 0)) (by (with_reducible repeat (first | refine blk_drewN ?_ _ | refine blk_drew ?_ | refine blk_alloc ?_ _)); exact BK349.out) hb); have n12_ := Aside0.mk (blk_below (g := gb357) (o := .cells #[.slice Ao76 t350.length co76] 40 (0, 0)) (by (with_reducible repeat (first | refine blk_drewN ?_ _ | refine blk_drew ?_ | refine blk_alloc ?_ _)); exact BK357.out) hb); have n13_ := Aside0.mk (blk_below (g := gb365) (o := .cells #[.slice Ao87 t358.length co87] 40 (0, 0)) (by (with_reducible repeat (first | refine blk_drewN ?_ _ | refine blk_drew ?_ | refine blk_alloc ?_ _)); exact BK365.out) hb); have n14_ := Aside0.mk (below_step (by repeat (first | (with_reducible first | exact HB.out | apply below_alloc | apply pw_below_drewN | apply below_drew1 | refine below_set ?_ GE336.out | refine below_set ?_ GE337.out | refine below_set ?_ GE338.out | refine below_set ?_ GE349.out | refine below_set ?_ GE357.out | refine below_set ?_ GE365.out) | exact HB.out)) hb); clear HO344; clear HO347; clear HO352; clear HO355; clear HO360; clear HO363; clear BK336; clear BK337; clear BK338; clear BK349; clear BK357; clear BK365; clear HB; have HO344 := n0_; have HO347 := n1_; have HO352 := n2_; have HO355 := n3_; have HO360 := n4_; have HO363 := n5_; have HO368 := n6_; have HO371 := n7_; have BK336 := n8_; have BK337 := n9_; have BK338 := n10_; have BK349 := n11_; have BK357 := n12_; have BK365 := n13_; have HB := n14_; clear n0_ n1_ n2_ n3_ n4_ n5_ n6_ n7_ n8_ n9_ n10_ n11_ n12_ n13_ n14_; (try clear hb); (try clear hb2); (try clear hk); (try clear hi); (try clear ho0); (try clear ho1)) | ((with_reducible refine gate_dst (N := 17) rfl ?_); (try (refine gate_guard (by rfl) ?_; dsimp only)); refine box_event ?hg (N := 17) ?hd (cs := #[.slice none 0 0]) (t := 40) ?hr ?_; (case hd => rfl); (case hg => rfl); (case hr => first | (go_simp; done) | (go_simp; rfl)); intro gb373 hg w98 hbox hb; have n0_ := Aside0.mk (Kd.V_below (Kd.V_elderB (by (with_reducible repeat (first | apply Kd.V_alloc | apply Kd.V_drewN | apply Kd.V_drew)); exact HO344.out) gb373 (Nat.le_of_eq hg.symm)) hb); have n1_ := Aside0.mk (Kd.V_below (Kd.V_elderB (by (with_reducible repeat (first | apply Kd.V_alloc | apply Kd.V_drewN | apply Kd.V_drew)); exact HO347.out) gb373 (Nat.le_of_eq hg.symm)) hb); have n2_ := Aside0.mk (Kd.V_below (Kd.V_elderB (by (with_reducible repeat (first | apply Kd.V_alloc | apply Kd.V_drewN | apply Kd.V_drew)); exact HO352.out) gb373 (Nat.le_of_eq hg.symm)) hb); have n3_ := Aside0.mk (Kd.V_below (Kd.V_elderB (by (with_reducible repeat (first | apply Kd.V_alloc | apply Kd.V_drewN | apply Kd.V_drew)); exact HO355.out) gb373 (Nat.le_of_eq hg.symm)) hb); have n4_ := Aside0.mk (Kd.V_below (Kd.V_elderB (by (with_reducible repeat (first | apply Kd.V_alloc | apply Kd.V_drewN | apply Kd.V_drew)); exact HO360.out) gb373 (Nat.le_of_eq hg.symm)) hb); have n5_ := Aside0.mk (Kd.V_below (Kd.V_elderB (by (with_reducible repeat (first | apply Kd.V_alloc | apply Kd.V_drewN | apply Kd.V_drew)); exact HO363.out) gb373 (Nat.le_of_eq hg.symm)) hb); have n6_ := Aside0.mk (Kd.V_below (Kd.V_elderB (by (with_reducible repeat (first | apply Kd.V_alloc | apply Kd.V_drewN | apply Kd.V_drew)); exact HO368.out) gb373 (Nat.le_of_eq hg.symm)) hb); have n7_ := Aside0.mk (Kd.V_below (Kd.V_elderB (by (with_reducible repeat (first | apply Kd.V_alloc | apply Kd.V_drewN | apply Kd.V_drew)); exact HO371.out) gb373 (Nat.le_of_eq hg.symm)) hb); have n8_ := Aside0.mk (blk_below (g := gb336) (o := .cells #[.slice A0_0 l0_0.length c0_0] 40 (0, 0)) (by (with_reducible repeat (first | refine blk_drewN ?_ _ | refine blk_drew ?_ | refine blk_alloc ?_ _)); exact BK336.out) hb); have n9_ := Aside0.mk (blk_below (g := gb337) (o := .cells #[.int .i64 a1_0, .int .u32 a1_1, .bool a1_2, .slice A1_3 l1_3.length c1_3] 42 (0, 0)) (by (with_reducible repeat (first | refine blk_drewN ?_ _ | refine blk_drew ?_ | refine blk_alloc ?_ _)); exact BK337.out) hb); have n10_ := Aside0.mk (blk_below (g := gb338) (o := .cells #[.int .i64 a2_0, .int .u32 a2_1, .bool a2_2, .slice A2_3 l2_3.length c2_3] 42 (0, 0)) (by (with_reducible repeat (first | refine blk_drewN ?_ _ | refine blk_drew ?_ | refine blk_alloc ?_ _)); exact BK338.out) hb); have n11_ := Aside0.mk (blk_below (g := gb349) (o := .cells #[.slice Ao66 t342.length co66] 40 (0, 0)) (by (with_reducible repeat (first | refine blk_drewN ?_ _ | refine blk_drew ?_ | refine blk_alloc ?_ _)); exact BK349.out) hb); have n12_ := Aside0.mk (blk_below (g := gb357) (o := .cells #[.slice Ao76 t350.length co76] 40 (0, 0)) (by (with_reducible repeat (first | refine blk_drewN ?_ _ | refine blk_drew ?_ | refine blk_alloc ?_ _)); exact BK357.out) hb); have n13_ := Aside0.mk (blk_below (g := gb365) (o := .cells #[.slice Ao87 t358.length co87] 40 (0, 0)) (by (with_reducible repeat (first | refine blk_drewN ?_ _ | refine blk_drew ?_ | refine blk_alloc ?_ _)); exact BK365.out) hb); have n14_ := Aside0.mk (below_step (by repeat (first | (with_reducible first | exact HB.out | apply below_alloc | apply pw_below_drewN | apply below_drew1 | refine below_set ?_ GE336.out | refine below_set ?_ GE337.out | refine below_set ?_ GE338.out | refine below_set ?_ GE349.out | refine below_set ?_ GE357.out | refine below_set ?_ GE365.out) | exact HB.out)) hb); have n15_ := Aside0.mk (hbox); have n16_ := Aside0.mk ((by rw [hg]; exact (below_size (by repeat (first | (with_reducible first | exact HB.out | apply below_alloc | apply pw_below_drewN | apply below_drew1 | refine below_set ?_ GE336.out | refine below_set ?_ GE337.out | refine below_set ?_ GE338.out | refine below_set ?_ GE349.out | refine below_set ?_ GE357.out | refine below_set ?_ GE365.out) | exact HB.out))) : w.heap.size ≤ gb373)); have n17_ := Aside0.mk ((by rw [hg]; exact (below_size (by repeat (first | (with_reducible first | exact HB.out | apply below_alloc | apply pw_below_drewN | apply below_drew1 | refine below_set ?_ GE336.out | refine below_set ?_ GE337.out | refine below_set ?_ GE338.out | refine below_set ?_ GE349.out | refine below_set ?_ GE357.out | refine below_set ?_ GE365.out) | exact HB.out))) : w.heap.size ≤ gb373)); have n18_ := Aside0.mk ((by rw [hg]; exact Nat.ne_of_lt (blk_lt (g := gb336) (o := .cells #[.slice A0_0 l0_0.length c0_0] 40 (0, 0)) (by (with_reducible repeat (first | refine blk_drewN ?_ _ | refine blk_drew ?_ | refine blk_alloc ?_ _)); exact BK336.out)) : gb336 ≠ gb373)); have n19_ := Aside0.mk ((by rw [hg]; exact Nat.ne_of_gt (blk_lt (g := gb336) (o := .cells #[.slice A0_0 l0_0.length c0_0] 40 (0, 0)) (by (with_reducible repeat (first | refine blk_drewN ?_ _ | refine blk_drew ?_ | refine blk_alloc ?_ _)); exact BK336.out)) : gb373 ≠ gb336)); have n20_ := Aside0.mk ((by rw [hg]; exact Nat.ne_of_lt (blk_lt (g := gb337) (o := .cells #[.int .i64 a1_0, .int .u32 a1_1, .bool a1_2, .slice A1_3 l1_3.length c1_3] 42 (0, 0)) (by (with_reducible repeat (first | refine blk_drewN ?_ _ | refine blk_drew ?_ | refine blk_alloc ?_ _)); exact BK337.out)) : gb337 ≠ gb373)); have n21_ := Aside0.mk ((by rw [hg]; exact Nat.ne_of_gt (blk_lt (g := gb337) (o := .cells #[.int .i64 a1_0, .int .u32 a1_1, .bool a1_2, .slice A1_3 l1_3.length c1_3] 42 (0, 0)) (by (with_reducible repeat (first | refine blk_drewN ?_ _ | refine blk_drew ?_ | refine blk_alloc ?_ _)); exact BK337.out)) : gb373 ≠ gb337)); have n22_ := Aside0.mk ((by rw [hg]; exact Nat.ne_of_lt (blk_lt (g := gb338) (o := .cells #[.int .i64 a2_0, .int .u32 a2_1, .bool a2_2, .slice A2_3 l2_3.length c2_3] 42 (0, 0)) (by (with_reducible repeat (first | refine blk_drewN ?_ _ | refine blk_drew ?_ | refine blk_alloc ?_ _)); exact BK338.out)) : gb338 ≠ gb373)); have n23_ := Aside0.mk ((by rw [hg]; exact Nat.ne_of_gt (blk_lt (g := gb338) (o := .cells #[.int .i64 a2_0, .int .u32 a2_1, .bool a2_2, .slice A2_3 l2_3.length c2_3] 42 (0, 0)) (by (with_reducible repeat (first | refine blk_drewN ?_ _ | refine blk_drew ?_ | refine blk_alloc ?_ _)); exact BK338.out)) : gb373 ≠ gb338)); have n24_ := Aside0.mk ((by rw [hg]; exact Nat.ne_of_lt (blk_lt (g := gb349) (o := .cells #[.slice Ao66 t342.length co66] 40 (0, 0)) (by (with_reducible repeat (first | refine blk_drewN ?_ _ | refine blk_drew ?_ | refine blk_alloc ?_ _)); exact BK349.out)) : gb349 ≠ gb373)); have n25_ := Aside0.mk ((by rw [hg]; exact Nat.ne_of_gt (blk_lt (g := gb349) (o := .cells #[.slice Ao66 t342.length co66] 40 (0, 0)) (by (with_reducible repeat (first | refine blk_drewN ?_ _ | refine blk_drew ?_ | refine blk_alloc ?_ _)); exact BK349.out)) : gb373 ≠ gb349)); have n26_ := Aside0.mk ((by rw [hg]; exact Nat.ne_of_lt (blk_lt (g := gb357) (o := .cells #[.slice Ao76 t350.length co76] 40 (0, 0)) (by (with_reducible repeat (first | refine blk_drewN ?_ _ | refine blk_drew ?_ | refine blk_alloc ?_ _)); exact BK357.out)) : gb357 ≠ gb373)); have n27_ := Aside0.mk ((by rw [hg]; exact Nat.ne_of_gt (blk_lt (g := gb357) (o := .cells #[.slice Ao76 t350.length co76] 40 (0, 0)) (by (with_reducible repeat (first | refine blk_drewN ?_ _ | refine blk_drew ?_ | refine blk_alloc ?_ _)); exact BK357.out)) : gb373 ≠ gb357)); have n28_ := Aside0.mk ((by rw [hg]; exact Nat.ne_of_lt (blk_lt (g := gb365) (o := .cells #[.slice Ao87 t358.length co87] 40 (0, 0)) (by (with_reducible repeat (first | refine blk_drewN ?_ _ | refine blk_drew ?_ | refine blk_alloc ?_ _)); exact BK365.out)) : gb365 ≠ gb373)); have n29_ := Aside0.mk ((by rw [hg]; exact Nat.ne_of_gt (blk_lt (g := gb365) (o := .cells #[.slice Ao87 t358.length co87] 40 (0, 0)) (by (with_reducible repeat (first | refine blk_drewN ?_ _ | refine blk_drew ?_ | refine blk_alloc ?_ _)); exact BK365.out)) : gb373 ≠ gb365)); clear HO344; clear HO347; clear HO352; clear HO355; clear HO360; clear HO363; clear HO368; clear HO371; clear BK336; clear BK337; clear BK338; clear BK349; clear BK357; clear BK365; clear HB; have HO344 := n0_; have HO347 := n1_; have HO352 := n2_; have HO355 := n3_; have HO360 := n4_; have HO363 := n5_; have HO368 := n6_; have HO371 := n7_; have BK336 := n8_; have BK337 := n9_; have BK338 := n10_; have BK349 := n11_; have BK357 := n12_; have BK365 := n13_; have HB := n14_; have BK373 := n15_; have GW373 := n16_; have GE373 := n17_; have NB336_373 := n18_; have NB373_336 := n19_; have NB337_373 := n20_; have NB373_337 := n21_; have NB338_373 := n22_; have NB373_338 := n23_; have NB349_373 := n24_; have NB373_349 := n25_; have NB357_373 := n26_; have NB373_357 := n27_; have NB365_373 := n28_; have NB373_365 := n29_; clear n0_ n1_ n2_ n3_ n4_ n5_ n6_ n7_ n8_ n9_ n10_ n11_ n12_ n13_ n14_ n15_ n16_ n17_ n18_ n19_ n20_ n21_ n22_ n23_ n24_ n25_ n26_ n27_ n28_ n29_; clear hb hbox hg; obtain ⟨Ao99, co99, eo99⟩ := Kd.V_slice HO368.out; subst eo99; have hnb100 := NB373_336.out; have hnc100 := NB336_373.out; have hnb101 := NB373_337.out; have hnc101 := NB337_373.out; have hnb102 := NB373_338.out; have hnc102 := NB338_373.out; have hnb103 := NB373_349.out; have hnc103 := NB349_373.out; have hnb104 := NB373_357.out; have hnc104 := NB357_373.out; have hnb105 := NB373_365.out; have hnc105 := NB365_373.out; have hcz106_0 : w98.cell? ⟨gb373, 0, none⟩ = some (.slice none 0 0) := (blk_cell BK373.out 0).trans rfl; have hfz106_0 := blk_frozen BK373.out 0))
     (try simp only [Act.put, List.setIfInBounds_toArray, List.set_cons_zero, List.set_cons_succ])
     go_cut [96] (fun v96 wc => ∃ (kq : Nat) (x96_57 : Bool), v96 = .bool x96_57 ∧ Aside0 (stolonlaw07_HostTwo.j1 kq t339 x96_57 l0_0 a1_0 a1_1 a1_2 l1_3 a2_0 a2_1 a2_2 l2_3 t342 = some r) ∧ Aside0 (kq ≤ kj4) ∧ Aside0 (Kd.V k42 42 wc w.heap.size (fun k_ => k_ ≠ gb336 ∧ k_ ≠ gb337 ∧ k_ ≠ gb338 ∧ k_ ≠ gb349 ∧ k_ ≠ gb357 ∧ k_ ≠ gb365 ∧ k_ ≠ gb373) (.slice Ao66 t342.length co66) t342) ∧ Aside0 (Kd.V k42 42 wc w.heap.size (fun k_ => k_ ≠ gb336 ∧ k_ ≠ gb337 ∧ k_ ≠ gb338 ∧ k_ ≠ gb349 ∧ k_ ≠ gb357 ∧ k_ ≠ gb365 ∧ k_ ≠ gb373) (.slice Ao76 t350.length co76) t350) ∧ Aside0 (Kd.V k42 42 wc w.heap.size (fun k_ => k_ ≠ gb336 ∧ k_ ≠ gb337 ∧ k_ ≠ gb338 ∧ k_ ≠ gb349 ∧ k_ ≠ gb357 ∧ k_ ≠ gb365 ∧ k_ ≠ gb373) (.slice Ao87 t358.length co87) t358) ∧ Aside0 (Kd.V k42 42 wc w.heap.size (fun k_ => k_ ≠ gb336 ∧ k_ ≠ gb337 ∧ k_ ≠ gb338 ∧ k_ ≠ gb349 ∧ k_ ≠ gb357 ∧ k_ ≠ gb365 ∧ k_ ≠ gb373) (.slice Ao99 t366.length co99) t366) ∧ Aside0 (wc.heap[gb336]? = some (.cells #[(.slice A0_0 l0_0.length c0_0)] 40 (0, 0))) ∧ Aside0 (wc.heap[gb337]? = some (.cells #[.int .i64 a1_0, .int .u32 a1_1, .bool a1_2, (.slice A1_3 l1_3.length c1_3)] 42 (0, 0))) ∧ Aside0 (wc.heap[gb338]? = some (.cells #[.int .i64 a2_0, .int .u32 a2_1, .bool a2_2, (.slice A2_3 l2_3.length c2_3)] 42 (0, 0))) ∧ Aside0 (wc.heap[gb349]? = some (.cells #[(.slice Ao66 t342.length co66)] 40 (0, 0))) ∧ Aside0 (wc.heap[gb357]? = some (.cells #[(.slice Ao76 t350.length co76)] 40 (0, 0))) ∧ Aside0 (wc.heap[gb365]? = some (.cells #[(.slice Ao87 t358.length co87)] 40 (0, 0))) ∧ Aside0 (wc.heap[gb373]? = some (.cells #[(.slice Ao99 t366.length co99)] 40 (0, 0))) ∧ Aside0 (Below w.heap.size w wc))
     case first =>
      have H := HC58.out
      clear HC58
      by_cases c107 : t348 = t372
      · rw [if_pos c107] at H
        have c107b0 : (t348 == t372) = true := beq_iff_eq.mpr c107
        have c107b1 : (t348 != t372) = false := bne_eq_false_iff_eq.mpr c107
        clear c107
        (first | rw [c107b0] | (simp only [i64_w, i32_w]; rw [c107b0]) | skip)
        by_cases c108 : t356 = t364
        · rw [if_pos c108] at H
          have c108b0 : (t356 == t364) = true := beq_iff_eq.mpr c108
          have c108b1 : (t356 != t364) = false := bne_eq_false_iff_eq.mpr c108
          clear c108
          replace H := Option.bind_eq_some_iff.mp H
          obtain ⟨t374, A1090, H⟩ := H
          replace H : (stolonlaw07_HostTwo.j1 kj4 t339 (!t374) l0_0 a1_0 a1_1 a1_2 l1_3 a2_0 a2_1 a2_2 l2_3 t342) = some r := H
          have A109 := Aside0.mk A1090
          clear A1090
          have H' := Aside0.mk H
          clear H
          have hnb110 := NB357_336.out
          have hnc110 := NB336_357.out
          have hnb111 := NB357_337.out
          have hnc111 := NB337_357.out
          have hnb112 := NB357_338.out
          have hnc112 := NB338_357.out
          have hnb113 := NB357_349.out
          have hnc113 := NB349_357.out
          have hnb114 := NB357_365.out
          have hnc114 := NB365_357.out
          have hnb115 := NB357_373.out
          have hnc115 := NB373_357.out
          have hcz116_0 : w98.cell? ⟨gb357, 0, none⟩ = some (.slice Ao76 t350.length co76) := (blk_cell BK357.out 0).trans rfl
          have hfz116_0 := blk_frozen BK357.out 0
          have hnb117 := NB373_336.out
          have hnc117 := NB336_373.out
          have hnb118 := NB373_337.out
          have hnc118 := NB337_373.out
          have hnb119 := NB373_338.out
          have hnc119 := NB338_373.out
          have hnb120 := NB373_349.out
          have hnc120 := NB349_373.out
          have hnb121 := NB373_365.out
          have hnc121 := NB365_373.out
          have hcz122_0 : w98.cell? ⟨gb373, 0, none⟩ = some (.slice none 0 0) := (blk_cell BK373.out 0).trans rfl
          have hfz122_0 := blk_frozen BK373.out 0
          go_wp2_with (first | (go_at_call 16; (with_reducible refine (stolonref07_Same.calls kj4 _ _ t350 _ _ t366 t374 _ ?side1 ?side2 ?side3 ?side4 A109.out).mono ?_); (case side1 => refine (Kd.V_reads' (e := 42) (base := w.heap.size) (ok := fun k_ => ((k_ ≠ gb336 ∧ (k_ ≠ gb337 ∧ (k_ ≠ gb338 ∧ (k_ ≠ gb349 ∧ (k_ ≠ gb357 ∧ k_ ≠ gb365))))) ∧ k_ ≠ gb373)) (n := t350.length) (c := co76) ?_).2.2; exact (by (with_reducible repeat (first | apply Kd.V_alloc | apply Kd.V_drewN | apply Kd.V_drew)); exact (Kd.V_mono (Kd.V_far (p := ⟨gb373, 0, none⟩) (Kd.V_mono HO352.out (fun k_ hk => (⟨hk, hk.2⟩ : _ ∧ k_ ≠ gb373))) (fun _ hk => hk.2) (.slice Ao99 t366.length co99)) (fun _ h_ => h_.1)))); (case side2 => exact (Kd.V_reads' HO352.out).2.1); (case side3 => refine (Kd.V_reads' (e := 42) (base := w.heap.size) (ok := fun k_ => ((k_ ≠ gb336 ∧ (k_ ≠ gb337 ∧ (k_ ≠ gb338 ∧ (k_ ≠ gb349 ∧ (k_ ≠ gb357 ∧ k_ ≠ gb365))))) ∧ k_ ≠ gb373)) (n := t366.length) (c := co99) ?_).2.2; exact (by (with_reducible repeat (first | apply Kd.V_alloc | apply Kd.V_drewN | apply Kd.V_drew)); exact (Kd.V_mono (Kd.V_far (p := ⟨gb373, 0, none⟩) (Kd.V_mono HO368.out (fun k_ hk => (⟨hk, hk.2⟩ : _ ∧ k_ ≠ gb373))) (fun _ hk => hk.2) (.slice Ao99 t366.length co99)) (fun _ h_ => h_.1)))); (case side4 => exact (Kd.V_reads' HO368.out).2.1); rintro e w123 ⟨rfl, hb⟩; have n0_ := Aside0.mk (Kd.V_below (by (with_reducible repeat (first | apply Kd.V_alloc | apply Kd.V_drewN | apply Kd.V_drew)); exact (Kd.V_mono (Kd.V_far (p := ⟨gb373, 0, none⟩) (Kd.V_mono HO344.out (fun k_ hk => (⟨hk, hk.2⟩ : _ ∧ k_ ≠ gb373))) (fun _ hk => hk.2) (.slice Ao99 t366.length co99)) (fun _ h_ => h_.1))) hb); have n1_ := Aside0.mk (Kd.V_below (by (with_reducible repeat (first | apply Kd.V_alloc | apply Kd.V_drewN | apply Kd.V_drew)); exact (Kd.V_mono (Kd.V_far (p := ⟨gb373, 0, none⟩) (Kd.V_mono HO347.out (fun k_ hk => (⟨hk, hk.2⟩ : _ ∧ k_ ≠ gb373))) (fun _ hk => hk.2) (.slice Ao99 t366.length co99)) (fun _ h_ => h_.1))) hb); have n2_ := Aside0.mk (Kd.V_below (by (with_reducible repeat (first | apply Kd.V_alloc | apply Kd.V_drewN | apply Kd.V_drew)); exact (Kd.V_mono (Kd.V_far (p := ⟨gb373, 0, none⟩) (Kd.V_mono HO352.out (fun k_ hk => (⟨hk, hk.2⟩ : _ ∧ k_ ≠ gb373))) (fun _ hk => hk.2) (.slice Ao99 t366.length co99)) (fun _ h_ => h_.1))) hb); have n3_ := Aside0.mk (Kd.V_below (by (with_reducible repeat (first | apply Kd.V_alloc | apply Kd.V_drewN | apply Kd.V_drew)); exact (Kd.V_mono (Kd.V_far (p := ⟨gb373, 0, none⟩) (Kd.V_mono HO355.out (fun k_ hk => (⟨hk, hk.2⟩ : _ ∧ k_ ≠ gb373))) (fun _ hk => hk.2) (.slice Ao99 t366.length co99)) (fun _ h_ => h_.1))) hb); have n4_ := Aside0.mk (Kd.V_below (by (with_reducible repeat (first | apply Kd.V_alloc | apply Kd.V_drewN | apply Kd.V_drew)); exact (Kd.V_mono (Kd.V_far (p := ⟨gb373, 0, none⟩) (Kd.V_mono HO360.out (fun k_ hk => (⟨hk, hk.2⟩ : _ ∧ k_ ≠ gb373))) (fun _ hk => hk.2) (.slice Ao99 t366.length co99)) (fun _ h_ => h_.1))) hb); have n5_ := Aside0.mk (Kd.V_below (by (with_reducible repeat (first | apply Kd.V_alloc | apply Kd.V_drewN | apply Kd.V_drew)); exact (Kd.V_mono (Kd.V_far (p := ⟨gb373, 0, none⟩) (Kd.V_mono HO363.out (fun k_ hk => (⟨hk, hk.2⟩ : _ ∧ k_ ≠ gb373))) (fun _ hk => hk.2) (.slice Ao99 t366.length co99)) (fun _ h_ => h_.1))) hb); have n6_ := Aside0.mk (Kd.V_below (by (with_reducible repeat (first | apply Kd.V_alloc | apply Kd.V_drewN | apply Kd.V_drew)); exact (Kd.V_mono (Kd.V_far (p := ⟨gb373, 0, none⟩) (Kd.V_mono HO368.out (fun k_ hk => (⟨hk, hk.2⟩ : _ ∧ k_ ≠ gb373))) (fun _ hk => hk.2) (.slice Ao99 t366.length co99)) (fun _ h_ => h_.1))) hb); have n7_ := Aside0.mk (Kd.V_below (by (with_reducible repeat (first | apply Kd.V_alloc | apply Kd.V_drewN | apply Kd.V_drew)); exact (Kd.V_mono (Kd.V_far (p := ⟨gb373, 0, none⟩) (Kd.V_mono HO371.out (fun k_ hk => (⟨hk, hk.2⟩ : _ ∧ k_ ≠ gb373))) (fun _ hk => hk.2) (.slice Ao99 t366.length co99)) (fun _ h_ => h_.1))) hb); have n8_ := Aside0.mk (blk_below (g := gb336) (o := .cells #[.slice A0_0 l0_0.length c0_0] 40 (0, 0)) (by (with_reducible repeat (first | refine blk_drewN ?_ _ | refine blk_drew ?_ | refine blk_alloc ?_ _)); refine blk_far ?_ NB336_373.out _; (with_reducible repeat (first | refine blk_drewN ?_ _ | refine blk_drew ?_ | refine blk_alloc ?_ _)); exact BK336.out) hb); have n9_ := Aside0.mk (blk_below (g := gb337) (o := .cells #[.int .i64 a1_0, .int .u32 a1_1, .bool a1_2, .slice A1_3 l1_3.length c1_3] 42 (0, 0)) (by (with_reducible repeat (first | refine blk_drewN ?_ _ | refine blk_drew ?_ | refine blk_alloc ?_ _)); refine blk_far ?_ NB337_373.out _; (with_reducible repeat (first | refine blk_drewN ?_ _ | refine blk_drew ?_ | refine blk_alloc ?_ _)); exact BK337.out) hb); have n10_ := Aside0.mk (blk_below (g := gb338) (o := .cells #[.int .i64 a2_0, .int .u32 a2_1, .bool a2_2, .slice A2_3 l2_3.length c2_3] 42 (0, 0)) (by (with_reducible repeat (first | refine blk_drewN ?_ _ | refine blk_drew ?_ | refine blk_alloc ?_ _)); refine blk_far ?_ NB338_373.out _; (with_reducible repeat (first | refine blk_drewN ?_ _ | refine blk_drew ?_ | refine blk_alloc ?_ _)); exact BK338.out) hb); have n11_ := Aside0.mk (blk_below (g := gb349) (o := .cells #[.slice Ao66 t342.length co66] 40 (0, 0)) (by (with_reducible repeat (first | refine blk_drewN ?_ _ | refine blk_drew ?_ | refine blk_alloc ?_ _)); refine blk_far ?_ NB349_373.out _; (with_reducible repeat (first | refine blk_drewN ?_ _ | refine blk_drew ?_ | refine blk_alloc ?_ _)); exact BK349.out) hb); have n12_ := Aside0.mk (blk_below (g := gb357) (o := .cells #[.slice Ao76 t350.length co76] 40 (0, 0)) (by (with_reducible repeat (first | refine blk_drewN ?_ _ | refine blk_drew ?_ | refine blk_alloc ?_ _)); refine blk_far ?_ NB357_373.out _; (with_reducible repeat (first | refine blk_drewN ?_ _ | refine blk_drew ?_ | refine blk_alloc ?_ _)); exact BK357.out) hb); have n13_ := Aside0.mk (blk_below (g := gb365) (o := .cells #[.slice Ao87 t358.length co87] 40 (0, 0)) (by (with_reducible repeat (first | refine blk_drewN ?_ _ | refine blk_drew ?_ | refine blk_alloc ?_ _)); refine blk_far ?_ NB365_373.out _; (with_reducible repeat (first | refine blk_drewN ?_ _ | refine blk_drew ?_ | refine blk_alloc ?_ _)); exact BK365.out) hb); have n14_ := Aside0.mk (blk_below (g := gb373) (o := .cells #[.slice Ao99 t366.length co99] 40 (0, 0)) (by (with_reducible repeat (first | refine blk_drewN ?_ _ | refine blk_drew ?_ | refine blk_alloc ?_ _)); refine blk_put (cs := #[.slice none 0 0]) ?_ 0 _ rfl; (with_reducible repeat (first | refine blk_drewN ?_ _ | refine blk_drew ?_ | refine blk_alloc ?_ _)); exact BK373.out) hb); have n15_ := Aside0.mk (below_step (by repeat (first | (with_reducible first | exact HB.out | apply below_alloc | apply pw_below_drewN | apply below_drew1 | refine below_set ?_ GE336.out | refine below_set ?_ GE337.out | refine below_set ?_ GE338.out | refine below_set ?_ GE349.out | refine below_set ?_ GE357.out | refine below_set ?_ GE365.out | refine below_set ?_ GE373.out) | exact HB.out)) hb); clear HO344; clear HO347; clear HO352; clear HO355; clear HO360; clear HO363; clear HO368; clear HO371; clear BK336; clear BK337; clear BK338; clear BK349; clear BK357; clear BK365; clear BK373; clear HB; have HO344 := n0_; have HO347 := n1_; have HO352 := n2_; have HO355 := n3_; have HO360 := n4_; have HO363 := n5_; have HO368 := n6_; have HO371 := n7_; have BK336 := n8_; have BK337 := n9_; have BK338 := n10_; have BK349 := n11_; have BK357 := n12_; have BK365 := n13_; have BK373 := n14_; have HB := n15_; clear n0_ n1_ n2_ n3_ n4_ n5_ n6_ n7_ n8_ n9_ n10_ n11_ n12_ n13_ n14_ n15_; (try clear hb); (try clear hb2); (try clear hk); (try clear hi)))
          go_meet
          case rel => exact ⟨_, (!t374), (by first | rfl | (simp; done) | (simp [*]; done)), H', ⟨by have := HJ4.out; first | omega | exact Nat.le_refl _⟩, ⟨by (with_reducible repeat (first | apply Kd.V_alloc | apply Kd.V_drewN | apply Kd.V_drew)); exact Kd.V_mono HO344.out (fun _ hk => ⟨hk.1.1, ⟨hk.1.2.1, ⟨hk.1.2.2.1, ⟨hk.1.2.2.2.1, ⟨hk.1.2.2.2.2.1, ⟨hk.1.2.2.2.2.2, hk.2⟩⟩⟩⟩⟩⟩)⟩, ⟨by (with_reducible repeat (first | apply Kd.V_alloc | apply Kd.V_drewN | apply Kd.V_drew)); exact Kd.V_mono HO352.out (fun _ hk => ⟨hk.1.1, ⟨hk.1.2.1, ⟨hk.1.2.2.1, ⟨hk.1.2.2.2.1, ⟨hk.1.2.2.2.2.1, ⟨hk.1.2.2.2.2.2, hk.2⟩⟩⟩⟩⟩⟩)⟩, ⟨by (with_reducible repeat (first | apply Kd.V_alloc | apply Kd.V_drewN | apply Kd.V_drew)); exact Kd.V_mono HO360.out (fun _ hk => ⟨hk.1.1, ⟨hk.1.2.1, ⟨hk.1.2.2.1, ⟨hk.1.2.2.2.1, ⟨hk.1.2.2.2.2.1, ⟨hk.1.2.2.2.2.2, hk.2⟩⟩⟩⟩⟩⟩)⟩, ⟨by (with_reducible repeat (first | apply Kd.V_alloc | apply Kd.V_drewN | apply Kd.V_drew)); exact Kd.V_mono HO368.out (fun _ hk => ⟨hk.1.1, ⟨hk.1.2.1, ⟨hk.1.2.2.1, ⟨hk.1.2.2.2.1, ⟨hk.1.2.2.2.2.1, ⟨hk.1.2.2.2.2.2, hk.2⟩⟩⟩⟩⟩⟩)⟩, ⟨BK336.out⟩, ⟨BK337.out⟩, ⟨BK338.out⟩, ⟨BK349.out⟩, ⟨BK357.out⟩, ⟨BK365.out⟩, ⟨BK373.out⟩, ⟨HB.out⟩⟩
        · rw [if_neg c108] at H
          have c108b0 : (t356 == t364) = false := beq_eq_false_iff_ne.mpr c108
          have c108b1 : (t356 != t364) = true := bne_iff_ne.mpr c108
          have H' := Aside0.mk H
          clear H
          go_wp2
          go_meet
          case rel => exact ⟨_, (true), (by first | rfl | (simp; done) | (simp [*]; done)), H', ⟨by have := HJ4.out; first | omega | exact Nat.le_refl _⟩, ⟨by (with_reducible repeat (first | apply Kd.V_alloc | apply Kd.V_drewN | apply Kd.V_drew)); exact Kd.V_mono (Kd.V_far (p := ⟨gb373, 0, none⟩) (Kd.V_mono HO344.out (fun k_ hk => (⟨hk, hk.2⟩ : _ ∧ k_ ≠ gb373))) (fun _ hk => hk.2) (.slice Ao99 t366.length co99)) (fun _ hk => ⟨hk.1.1.1, ⟨hk.1.1.2.1, ⟨hk.1.1.2.2.1, ⟨hk.1.1.2.2.2.1, ⟨hk.1.1.2.2.2.2.1, ⟨hk.1.1.2.2.2.2.2, hk.1.2⟩⟩⟩⟩⟩⟩)⟩, ⟨by (with_reducible repeat (first | apply Kd.V_alloc | apply Kd.V_drewN | apply Kd.V_drew)); exact Kd.V_mono (Kd.V_far (p := ⟨gb373, 0, none⟩) (Kd.V_mono HO352.out (fun k_ hk => (⟨hk, hk.2⟩ : _ ∧ k_ ≠ gb373))) (fun _ hk => hk.2) (.slice Ao99 t366.length co99)) (fun _ hk => ⟨hk.1.1.1, ⟨hk.1.1.2.1, ⟨hk.1.1.2.2.1, ⟨hk.1.1.2.2.2.1, ⟨hk.1.1.2.2.2.2.1, ⟨hk.1.1.2.2.2.2.2, hk.1.2⟩⟩⟩⟩⟩⟩)⟩, ⟨by (with_reducible repeat (first | apply Kd.V_alloc | apply Kd.V_drewN | apply Kd.V_drew)); exact Kd.V_mono (Kd.V_far (p := ⟨gb373, 0, none⟩) (Kd.V_mono HO360.out (fun k_ hk => (⟨hk, hk.2⟩ : _ ∧ k_ ≠ gb373))) (fun _ hk => hk.2) (.slice Ao99 t366.length co99)) (fun _ hk => ⟨hk.1.1.1, ⟨hk.1.1.2.1, ⟨hk.1.1.2.2.1, ⟨hk.1.1.2.2.2.1, ⟨hk.1.1.2.2.2.2.1, ⟨hk.1.1.2.2.2.2.2, hk.1.2⟩⟩⟩⟩⟩⟩)⟩, ⟨by (with_reducible repeat (first | apply Kd.V_alloc | apply Kd.V_drewN | apply Kd.V_drew)); exact Kd.V_mono (Kd.V_far (p := ⟨gb373, 0, none⟩) (Kd.V_mono HO368.out (fun k_ hk => (⟨hk, hk.2⟩ : _ ∧ k_ ≠ gb373))) (fun _ hk => hk.2) (.slice Ao99 t366.length co99)) (fun _ hk => ⟨hk.1.1.1, ⟨hk.1.1.2.1, ⟨hk.1.1.2.2.1, ⟨hk.1.1.2.2.2.1, ⟨hk.1.1.2.2.2.2.1, ⟨hk.1.1.2.2.2.2.2, hk.1.2⟩⟩⟩⟩⟩⟩)⟩, ⟨by (with_reducible repeat (first | refine blk_drewN ?_ _ | refine blk_drew ?_ | refine blk_alloc ?_ _)); refine blk_far ?_ NB336_373.out _; (with_reducible repeat (first | refine blk_drewN ?_ _ | refine blk_drew ?_ | refine blk_alloc ?_ _)); exact BK336.out⟩, ⟨by (with_reducible repeat (first | refine blk_drewN ?_ _ | refine blk_drew ?_ | refine blk_alloc ?_ _)); refine blk_far ?_ NB337_373.out _; (with_reducible repeat (first | refine blk_drewN ?_ _ | refine blk_drew ?_ | refine blk_alloc ?_ _)); exact BK337.out⟩, ⟨by (with_reducible repeat (first | refine blk_drewN ?_ _ | refine blk_drew ?_ | refine blk_alloc ?_ _)); refine blk_far ?_ NB338_373.out _; (with_reducible repeat (first | refine blk_drewN ?_ _ | refine blk_drew ?_ | refine blk_alloc ?_ _)); exact BK338.out⟩, ⟨by (with_reducible repeat (first | refine blk_drewN ?_ _ | refine blk_drew ?_ | refine blk_alloc ?_ _)); refine blk_far ?_ NB349_373.out _; (with_reducible repeat (first | refine blk_drewN ?_ _ | refine blk_drew ?_ | refine blk_alloc ?_ _)); exact BK349.out⟩, ⟨by (with_reducible repeat (first | refine blk_drewN ?_ _ | refine blk_drew ?_ | refine blk_alloc ?_ _)); refine blk_far ?_ NB357_373.out _; (with_reducible repeat (first | refine blk_drewN ?_ _ | refine blk_drew ?_ | refine blk_alloc ?_ _)); exact BK357.out⟩, ⟨by (with_reducible repeat (first | refine blk_drewN ?_ _ | refine blk_drew ?_ | refine blk_alloc ?_ _)); refine blk_far ?_ NB365_373.out _; (with_reducible repeat (first | refine blk_drewN ?_ _ | refine blk_drew ?_ | refine blk_alloc ?_ _)); exact BK365.out⟩, ⟨by (with_reducible repeat (first | refine blk_drewN ?_ _ | refine blk_drew ?_ | refine blk_alloc ?_ _)); refine blk_put (cs := #[.slice none 0 0]) ?_ 0 _ rfl; (with_reducible repeat (first | refine blk_drewN ?_ _ | refine blk_drew ?_ | refine blk_alloc ?_ _)); exact BK373.out⟩, ⟨by repeat (first | (with_reducible first | exact HB.out | apply below_alloc | apply pw_below_drewN | apply below_drew1 | refine below_set ?_ GE336.out | refine below_set ?_ GE337.out | refine below_set ?_ GE338.out | refine below_set ?_ GE349.out | refine below_set ?_ GE357.out | refine below_set ?_ GE365.out | refine below_set ?_ GE373.out) | exact HB.out)⟩⟩
      · rw [if_neg c107] at H
        have c107b0 : (t348 == t372) = false := beq_eq_false_iff_ne.mpr c107
        have c107b1 : (t348 != t372) = true := bne_iff_ne.mpr c107
        (first | rw [c107b0] | (simp only [i64_w, i32_w]; rw [c107b0]) | skip)
        have H' := Aside0.mk H
        clear H
        go_wp2
        go_meet
        case rel => exact ⟨_, (true), (by first | rfl | (simp; done) | (simp [*]; done)), H', ⟨by have := HJ4.out; first | omega | exact Nat.le_refl _⟩, ⟨by (with_reducible repeat (first | apply Kd.V_alloc | apply Kd.V_drewN | apply Kd.V_drew)); exact Kd.V_mono (Kd.V_far (p := ⟨gb373, 0, none⟩) (Kd.V_mono HO344.out (fun k_ hk => (⟨hk, hk.2⟩ : _ ∧ k_ ≠ gb373))) (fun _ hk => hk.2) (.slice Ao99 t366.length co99)) (fun _ hk => ⟨hk.1.1.1, ⟨hk.1.1.2.1, ⟨hk.1.1.2.2.1, ⟨hk.1.1.2.2.2.1, ⟨hk.1.1.2.2.2.2.1, ⟨hk.1.1.2.2.2.2.2, hk.1.2⟩⟩⟩⟩⟩⟩)⟩, ⟨by (with_reducible repeat (first | apply Kd.V_alloc | apply Kd.V_drewN | apply Kd.V_drew)); exact Kd.V_mono (Kd.V_far (p := ⟨gb373, 0, none⟩) (Kd.V_mono HO352.out (fun k_ hk => (⟨hk, hk.2⟩ : _ ∧ k_ ≠ gb373))) (fun _ hk => hk.2) (.slice Ao99 t366.length co99)) (fun _ hk => ⟨hk.1.1.1, ⟨hk.1.1.2.1, ⟨hk.1.1.2.2.1, ⟨hk.1.1.2.2.2.1, ⟨hk.1.1.2.2.2.2.1, ⟨hk.1.1.2.2.2.2.2, hk.1.2⟩⟩⟩⟩⟩⟩)⟩, ⟨by (with_reducible repeat (first | apply Kd.V_alloc | apply Kd.V_drewN | apply Kd.V_drew)); exact Kd.V_mono (Kd.V_far (p := ⟨gb373, 0, none⟩) (Kd.V_mono HO360.out (fun k_ hk => (⟨hk, hk.2⟩ : _ ∧ k_ ≠ gb373))) (fun _ hk => hk.2) (.slice Ao99 t366.length co99)) (fun _ hk => ⟨hk.1.1.1, ⟨hk.1.1.2.1, ⟨hk.1.1.2.2.1, ⟨hk.1.1.2.2.2.1, ⟨hk.1.1.2.2.2.2.1, ⟨hk.1.1.2.2.2.2.2, hk.1.2⟩⟩⟩⟩⟩⟩)⟩, ⟨by (with_reducible repeat (first | apply Kd.V_alloc | apply Kd.V_drewN | apply Kd.V_drew)); exact Kd.V_mono (Kd.V_far (p := ⟨gb373, 0, none⟩) (Kd.V_mono HO368.out (fun k_ hk => (⟨hk, hk.2⟩ : _ ∧ k_ ≠ gb373))) (fun _ hk => hk.2) (.slice Ao99 t366.length co99)) (fun _ hk => ⟨hk.1.1.1, ⟨hk.1.1.2.1, ⟨hk.1.1.2.2.1, ⟨hk.1.1.2.2.2.1, ⟨hk.1.1.2.2.2.2.1, ⟨hk.1.1.2.2.2.2.2, hk.1.2⟩⟩⟩⟩⟩⟩)⟩, ⟨by (with_reducible repeat (first | refine blk_drewN ?_ _ | refine blk_drew ?_ | refine blk_alloc ?_ _)); refine blk_far ?_ NB336_373.out _; (with_reducible repeat (first | refine blk_drewN ?_ _ | refine blk_drew ?_ | refine blk_alloc ?_ _)); exact BK336.out⟩, ⟨by (with_reducible repeat (first | refine blk_drewN ?_ _ | refine blk_drew ?_ | refine blk_alloc ?_ _)); refine blk_far ?_ NB337_373.out _; (with_reducible repeat (first | refine blk_drewN ?_ _ | refine blk_drew ?_ | refine blk_alloc ?_ _)); exact BK337.out⟩, ⟨by (with_reducible repeat (first | refine blk_drewN ?_ _ | refine blk_drew ?_ | refine blk_alloc ?_ _)); refine blk_far ?_ NB338_373.out _; (with_reducible repeat (first | refine blk_drewN ?_ _ | refine blk_drew ?_ | refine blk_alloc ?_ _)); exact BK338.out⟩, ⟨by (with_reducible repeat (first | refine blk_drewN ?_ _ | refine blk_drew ?_ | refine blk_alloc ?_ _)); refine blk_far ?_ NB349_373.out _; (with_reducible repeat (first | refine blk_drewN ?_ _ | refine blk_drew ?_ | refine blk_alloc ?_ _)); exact BK349.out⟩, ⟨by (with_reducible repeat (first | refine blk_drewN ?_ _ | refine blk_drew ?_ | refine blk_alloc ?_ _)); refine blk_far ?_ NB357_373.out _; (with_reducible repeat (first | refine blk_drewN ?_ _ | refine blk_drew ?_ | refine blk_alloc ?_ _)); exact BK357.out⟩, ⟨by (with_reducible repeat (first | refine blk_drewN ?_ _ | refine blk_drew ?_ | refine blk_alloc ?_ _)); refine blk_far ?_ NB365_373.out _; (with_reducible repeat (first | refine blk_drewN ?_ _ | refine blk_drew ?_ | refine blk_alloc ?_ _)); exact BK365.out⟩, ⟨by (with_reducible repeat (first | refine blk_drewN ?_ _ | refine blk_drew ?_ | refine blk_alloc ?_ _)); refine blk_put (cs := #[.slice none 0 0]) ?_ 0 _ rfl; (with_reducible repeat (first | refine blk_drewN ?_ _ | refine blk_drew ?_ | refine blk_alloc ?_ _)); exact BK373.out⟩, ⟨by repeat (first | (with_reducible first | exact HB.out | apply below_alloc | apply pw_below_drewN | apply below_drew1 | refine below_set ?_ GE336.out | refine below_set ?_ GE337.out | refine below_set ?_ GE338.out | refine below_set ?_ GE349.out | refine below_set ?_ GE357.out | refine below_set ?_ GE365.out | refine below_set ?_ GE373.out) | exact HB.out)⟩⟩
     case rest =>
      clear HC58
      try clear c1
      try clear c2
      try clear p2
      try clear c3
      try clear c4
      try clear c5
      try clear c6
      try clear p6
      try clear c7
      try clear c8
      try clear c9
      try clear c10
      try clear c11
      try clear c12
      try clear c13
      try clear c14
      try clear c14b0
      try clear c14b1
      try clear c15
      try clear c16
      try clear c22
      try clear c22b0
      try clear c22b1
      try clear c23
      try clear c24
      try clear c30
      try clear c33
      try clear c34
      try clear c40
      try clear c43
      try clear c44
      try clear c49
      try clear c50
      try clear c53
      try clear c59
      try clear c60
      try clear c62
      try clear p64
      try clear c67
      try clear c68
      try clear c69
      try clear c77
      try clear c78
      try clear c79
      try clear c80
      try clear c88
      try clear c89
      try clear c90
      try clear c91
      try clear c92
      try clear c100
      try clear c101
      try clear c102
      try clear c103
      try clear c104
      try clear c105
      try clear c107
      try clear c107b0
      try clear c107b1
      try clear c108
      try clear c108b0
      try clear c108b1
      try clear c110
      try clear c111
      try clear c112
      try clear c113
      try clear c114
      try clear c115
      try clear c117
      try clear c118
      try clear c119
      try clear c120
      try clear c121
      try clear hcz106_0
      try clear hcz116_0
      try clear hcz122_0
      try clear hcz17_0
      try clear hcz19_0
      try clear hcz21_0
      try clear hcz25_0
      try clear hcz27_0
      try clear hcz29_0
      try clear hcz31_0
      try clear hcz31_1
      try clear hcz31_2
      try clear hcz31_3
      try clear hcz32_0
      try clear hcz32_1
      try clear hcz32_2
      try clear hcz32_3
      try clear hcz35_0
      try clear hcz37_0
      try clear hcz39_0
      try clear hcz41_0
      try clear hcz41_1
      try clear hcz41_2
      try clear hcz41_3
      try clear hcz42_0
      try clear hcz42_1
      try clear hcz42_2
      try clear hcz42_3
      try clear hcz45_0
      try clear hcz47_0
      try clear hcz51_0
      try clear hcz61_0
      try clear hcz63_0
      try clear hcz63_1
      try clear hcz63_2
      try clear hcz63_3
      try clear hcz70_0
      try clear hcz72_0
      try clear hcz73_0
      try clear hcz73_1
      try clear hcz73_2
      try clear hcz73_3
      try clear hcz81_0
      try clear hcz83_0
      try clear hcz84_0
      try clear hcz84_1
      try clear hcz84_2
      try clear hcz84_3
      try clear hcz93_0
      try clear hcz95_0
      try clear hcz96_0
      try clear hcz96_1
      try clear hcz96_2
      try clear hcz96_3
      try clear hfz106_0
      try clear hfz116_0
      try clear hfz122_0
      try clear hfz17_0
      try clear hfz19_0
      try clear hfz21_0
      try clear hfz25_0
      try clear hfz27_0
      try clear hfz29_0
      try clear hfz31_0
      try clear hfz31_1
      try clear hfz31_2
      try clear hfz31_3
      try clear hfz32_0
      try clear hfz32_1
      try clear hfz32_2
      try clear hfz32_3
      try clear hfz35_0
      try clear hfz37_0
      try clear hfz39_0
      try clear hfz41_0
      try clear hfz41_1
      try clear hfz41_2
      try clear hfz41_3
      try clear hfz42_0
      try clear hfz42_1
      try clear hfz42_2
      try clear hfz42_3
      try clear hfz45_0
      try clear hfz47_0
      try clear hfz51_0
      try clear hfz61_0
      try clear hfz63_0
      try clear hfz63_1
      try clear hfz63_2
      try clear hfz63_3
      try clear hfz70_0
      try clear hfz72_0
      try clear hfz73_0
      try clear hfz73_1
      try clear hfz73_2
      try clear hfz73_3
      try clear hfz81_0
      try clear hfz83_0
      try clear hfz84_0
      try clear hfz84_1
      try clear hfz84_2
      try clear hfz84_3
      try clear hfz93_0
      try clear hfz95_0
      try clear hfz96_0
      try clear hfz96_1
      try clear hfz96_2
      try clear hfz96_3
      try clear p2
      try clear p6
      obtain ⟨kq, x96_57, rfl, HA, HJ57, HO_350000, HO_358000, HO_366000, HO_374000, BK336, BK337, BK338, BK349, BK357, BK365, BK373, HB⟩ := hcut
      cases kq with
      | zero => exact absurd HA.out (by simp [stolonlaw07_HostTwo.j1])
      | succ kj57 =>
       have H := HA.out
       clear HA
       simp only [stolonlaw07_HostTwo.j1] at H
       by_cases c124 : x96_57 = true
       · subst c124
         have H1 : (some false) = some r := by rw [if_pos rfl] at H; exact H
         clear H
         have H := H1
         clear H1
         obtain rfl := Option.some.inj H
         go_wp2
         go_ret
         exact ⟨by first | rfl | (simp [errW_none, errW_some] <;> rfl) | (simp [*, errW_none, errW_some] <;> rfl), by repeat (first | (with_reducible first | exact HB.out | apply below_alloc | apply pw_below_drewN | apply below_drew1 | refine below_set ?_ GE336.out | refine below_set ?_ GE337.out | refine below_set ?_ GE338.out | refine below_set ?_ GE349.out | refine below_set ?_ GE357.out | refine below_set ?_ GE365.out | refine below_set ?_ GE373.out) | exact HB.out)⟩
       · replace c124 := Bool.eq_false_iff.mpr c124
         subst c124
         have H1 : (if t339 = true then (if a1_1 = a2_1 then (some true) else ((host_Wants.f kj57 t342 a2_1).bind fun bt375 => ((host_Wants.f kj57 l0_0 a2_1).bind fun bt379 => ((stolonref06_Same.f kj57 bt375.1 bt375.2 bt379.1 bt379.2).bind fun t383 => (some t383))))) else (some false)) = some r := by rw [if_neg (show ¬ (false = true) by decide)] at H; exact H
         clear H
         have H := H1
         clear H1
         by_cases c125 : t339 = true
         · subst c125
           have H1 : (if a1_1 = a2_1 then (some true) else ((host_Wants.f kj57 t342 a2_1).bind fun bt375 => ((host_Wants.f kj57 l0_0 a2_1).bind fun bt379 => ((stolonref06_Same.f kj57 bt375.1 bt375.2 bt379.1 bt379.2).bind fun t383 => (some t383))))) = some r := by rw [if_pos rfl] at H; exact H
           clear H
           have H := H1
           clear H1
           by_cases c126 : a1_1 = a2_1
           · rw [if_pos c126] at H
             have c126b0 : (a1_1 == a2_1) = true := beq_iff_eq.mpr c126
             have c126b1 : (a1_1 != a2_1) = false := bne_eq_false_iff_eq.mpr c126
             clear c126
             obtain rfl := Option.some.inj H
             try go_wp2
             have n0_ := Aside0.mk (Kd.V_drew HO_350000.out)
             have n1_ := Aside0.mk (Kd.V_drew HO_358000.out)
             have n2_ := Aside0.mk (Kd.V_drew HO_366000.out)
             have n3_ := Aside0.mk (Kd.V_drew HO_374000.out)
             have n4_ := Aside0.mk (blk_drew BK336.out)
             have n5_ := Aside0.mk (blk_drew BK337.out)
             have n6_ := Aside0.mk (blk_drew BK338.out)
             have n7_ := Aside0.mk (blk_drew BK349.out)
             have n8_ := Aside0.mk (blk_drew BK357.out)
             have n9_ := Aside0.mk (blk_drew BK365.out)
             have n10_ := Aside0.mk (blk_drew BK373.out)
             have n11_ := Aside0.mk (below_drew1 HB.out)
             clear HO_350000
             clear HO_358000
             clear HO_366000
             clear HO_374000
             clear BK336
             clear BK337
             clear BK338
             clear BK349
             clear BK357
             clear BK365
             clear BK373
             clear HB
             have HO_350000 := n0_
             have HO_358000 := n1_
             have HO_366000 := n2_
             have HO_374000 := n3_
             have BK336 := n4_
             have BK337 := n5_
             have BK338 := n6_
             have BK349 := n7_
             have BK357 := n8_
             have BK365 := n9_
             have BK373 := n10_
             have HB := n11_
             clear n0_ n1_ n2_ n3_ n4_ n5_ n6_ n7_ n8_ n9_ n10_ n11_
             refine start_ (n := 20) (S := fun w' => w'.cell? ⟨gb337, 0, none⟩ = some (.int .i64 a1_0) ∧ w'.cell? ⟨gb337, 1, none⟩ = some (.int .u32 a1_1) ∧ w'.cell? ⟨gb337, 2, none⟩ = some (.bool a1_2) ∧ w'.cell? ⟨gb337, 3, none⟩ = some (.slice A1_3 l1_3.length c1_3) ∧ w'.cell? ⟨gb338, 0, none⟩ = some (.int .i64 a2_0) ∧ w'.cell? ⟨gb338, 1, none⟩ = some (.int .u32 a2_1) ∧ w'.cell? ⟨gb338, 2, none⟩ = some (.bool a2_2) ∧ w'.cell? ⟨gb338, 3, none⟩ = some (.slice A2_3 l2_3.length c2_3)) (ds := []) #[false, false, false, false, false, false, false, false, false, false, false, false, false, false, false, false, false, false, false, false] (by kernel_rfl) rfl rfl ⟨(blk_cell BK337.out 0).trans rfl, (blk_cell BK337.out 1).trans rfl, (blk_cell BK337.out 2).trans rfl, (blk_cell BK337.out 3).trans rfl, (blk_cell BK338.out 0).trans rfl, (blk_cell BK338.out 1).trans rfl, (blk_cell BK338.out 2).trans rfl, (blk_cell BK338.out 3).trans rfl⟩ (fun hHeld => ?_); refine with_tabW stolonlaw07_HostTwo.tab10 stolonlaw07_HostTwo.bits10 (fun HT_ HW_ => ?_)
             generalize wc.drew = w127 at HO_350000 HO_358000 HO_366000 HO_374000 BK336 BK337 BK338 BK349 BK357 BK365 BK373 HB hHeld ⊢
             refine pu 0 97 (bb 20 1) rfl rfl (any_of HT_.out (by kernel_rfl)) (fun _ _ _ h => h) (by rfl) (fun w' => by go_simp; with_reducible rfl) (by simp only [Act.put, List.setIfInBounds_toArray, List.set_cons_zero, List.set_cons_succ, i64_w, i32_w]; rfl) ?_
             refine pu 1 98 (bb 20 3) rfl rfl (any_of HT_.out (by kernel_rfl)) (fun _ _ _ h => h) (by rfl) (fun w' => by go_simp; with_reducible rfl) (by simp only [Act.put, List.setIfInBounds_toArray, List.set_cons_zero, List.set_cons_succ, i64_w, i32_w]; rfl) ?_
             refine pu 2 99 (bb 20 7) rfl rfl (any_of HT_.out (by kernel_rfl)) (fun _ _ _ h => h) (by rfl) (fun w' => by go_simp; with_reducible rfl) (by simp only [Act.put, List.setIfInBounds_toArray, List.set_cons_zero, List.set_cons_succ, i64_w, i32_w]; rfl) ?_
             refine pu 4 101 (bb 20 23) rfl rfl (any_of HT_.out (by kernel_rfl)) (fun _ _ _ h => h) (by rfl) (fun w' => by go_simp; with_reducible rfl) (by simp only [Act.put, List.setIfInBounds_toArray, List.set_cons_zero, List.set_cons_succ, i64_w, i32_w]; rfl) ?_
             refine take_ (i := 3) (N := some 100) (v := ?_) (a' := ?_) (bb 20 31) rfl rfl (take_ofW HT_.out HW_.out (by kernel_rfl)) (fun _ _ _ h => h) (Or.inl ⟨by rfl, ?_⟩) hHeld ?_ ?_
             rotate_left
             · rintro w' ⟨s0, s1, s2, s3, s4, s5, s6, s7⟩
               go_simp
               with_reducible rfl
             rotate_left
             · simp only [Act.put, List.setIfInBounds_toArray, List.set_cons_zero, List.set_cons_succ, i64_w, i32_w]
               rfl
             refine take_ (i := 5) (N := some 102) (v := ?_) (a' := ?_) (bb 20 63) rfl rfl (take_ofW HT_.out HW_.out (by kernel_rfl)) (fun _ _ _ h => h) (Or.inl ⟨by rfl, ?_⟩) hHeld ?_ ?_
             rotate_left
             · rintro w' ⟨s0, s1, s2, s3, s4, s5, s6, s7⟩
               go_simp
               with_reducible rfl
             rotate_left
             · simp only [Act.put, List.setIfInBounds_toArray, List.set_cons_zero, List.set_cons_succ, i64_w, i32_w]
               rfl
             refine pu 6 103 (bb 20 127) rfl rfl (any_of HT_.out (by kernel_rfl)) (fun _ _ _ h => h) (by rfl) (fun w' => by go_simp; with_reducible rfl) (by simp only [Act.put, List.setIfInBounds_toArray, List.set_cons_zero, List.set_cons_succ, i64_w, i32_w]; rfl) ?_
             refine pu 7 104 (bb 20 255) rfl rfl (any_of HT_.out (by kernel_rfl)) (fun _ _ _ h => h) (by rfl) (fun w' => by go_simp; with_reducible rfl) (by simp only [Act.put, List.setIfInBounds_toArray, List.set_cons_zero, List.set_cons_succ, i64_w, i32_w]; rfl) ?_
             refine pure_ (i := 8) (N := some 105) (v := undef) (a' := ?_) (bb 20 511) rfl rfl (any_of HT_.out (by kernel_rfl)) (fun _ _ _ h => h) (Or.inr ⟨by rfl, rfl⟩) ?_ ?_
             rotate_left
             · simp only [Act.put, List.setIfInBounds_toArray, List.set_cons_zero, List.set_cons_succ, i64_w, i32_w]
               rfl
             refine pure_ (i := 9) (N := some 106) (v := undef) (a' := ?_) (bb 20 1023) rfl rfl (any_of HT_.out (by kernel_rfl)) (fun _ _ _ h => h) (Or.inr ⟨by rfl, rfl⟩) ?_ ?_
             rotate_left
             · simp only [Act.put, List.setIfInBounds_toArray, List.set_cons_zero, List.set_cons_succ, i64_w, i32_w]
               rfl
             refine pure_ (i := 10) (N := some 107) (v := undef) (a' := ?_) (bb 20 2047) rfl rfl (any_of HT_.out (by kernel_rfl)) (fun _ _ _ h => h) (Or.inr ⟨by rfl, rfl⟩) ?_ ?_
             rotate_left
             · simp only [Act.put, List.setIfInBounds_toArray, List.set_cons_zero, List.set_cons_succ, i64_w, i32_w]
               rfl
             refine pure_ (i := 11) (N := some 108) (v := undef) (a' := ?_) (bb 20 4095) rfl rfl (any_of HT_.out (by kernel_rfl)) (fun _ _ _ h => h) (Or.inr ⟨by rfl, rfl⟩) ?_ ?_
             rotate_left
             · simp only [Act.put, List.setIfInBounds_toArray, List.set_cons_zero, List.set_cons_succ, i64_w, i32_w]
               rfl
             refine pure_ (i := 12) (N := some 109) (v := undef) (a' := ?_) (bb 20 8191) rfl rfl (any_of HT_.out (by kernel_rfl)) (fun _ _ _ h => h) (Or.inr ⟨by rfl, rfl⟩) ?_ ?_
             rotate_left
             · simp only [Act.put, List.setIfInBounds_toArray, List.set_cons_zero, List.set_cons_succ, i64_w, i32_w]
               rfl
             refine pure_ (i := 13) (N := some 110) (v := undef) (a' := ?_) (bb 20 16383) rfl rfl (any_of HT_.out (by kernel_rfl)) (fun _ _ _ h => h) (Or.inr ⟨by rfl, rfl⟩) ?_ ?_
             rotate_left
             · simp only [Act.put, List.setIfInBounds_toArray, List.set_cons_zero, List.set_cons_succ, i64_w, i32_w]
               rfl
             refine pure_ (i := 14) (N := some 111) (v := undef) (a' := ?_) (bb 20 32767) rfl rfl (any_of HT_.out (by kernel_rfl)) (fun _ _ _ h => h) (Or.inr ⟨by rfl, rfl⟩) ?_ ?_
             rotate_left
             · simp only [Act.put, List.setIfInBounds_toArray, List.set_cons_zero, List.set_cons_succ, i64_w, i32_w]
               rfl
             refine pure_ (i := 15) (N := some 112) (v := undef) (a' := ?_) (bb 20 65535) rfl rfl (any_of HT_.out (by kernel_rfl)) (fun _ _ _ h => h) (Or.inr ⟨by rfl, rfl⟩) ?_ ?_
             rotate_left
             · simp only [Act.put, List.setIfInBounds_toArray, List.set_cons_zero, List.set_cons_succ, i64_w, i32_w]
               rfl
             refine pure_ (i := 16) (N := some 113) (v := undef) (a' := ?_) (bb 20 131071) rfl rfl (any_of HT_.out (by kernel_rfl)) (fun _ _ _ h => h) (Or.inr ⟨by rfl, rfl⟩) ?_ ?_
             rotate_left
             · simp only [Act.put, List.setIfInBounds_toArray, List.set_cons_zero, List.set_cons_succ, i64_w, i32_w]
               rfl
             refine pu 17 114 (bb 20 262143) rfl rfl (any_of HT_.out (by kernel_rfl)) (fun _ _ _ h => h) (by rfl) (fun w' => by go_simp; with_reducible rfl) (by simp only [Act.put, List.setIfInBounds_toArray, List.set_cons_zero, List.set_cons_succ, i64_w, i32_w]; rfl) ?_
             refine pu 18 115 (bb 20 524287) rfl rfl (any_of HT_.out (by kernel_rfl)) (fun _ _ _ h => h) (by rfl) (fun w' => by go_simp; with_reducible rfl) (by simp only [Act.put, List.setIfInBounds_toArray, List.set_cons_zero, List.set_cons_succ, i64_w, i32_w]; rfl) ?_
             refine pu 19 6 (bb 20 1048575) rfl rfl (any_of HT_.out (by kernel_rfl)) (fun _ _ _ h => h) (by rfl) (fun w' => by go_simp; with_reducible rfl) (by simp only [Act.put, List.setIfInBounds_toArray, List.set_cons_zero, List.set_cons_succ, i64_w, i32_w]; rfl) ?_
             refine done_ (done_of HT_.out (by kernel_rfl)) ?_
             try go_wp2
             go_ret
             exact ⟨by first | rfl | (simp [errW_none, errW_some] <;> rfl) | (simp [*, errW_none, errW_some] <;> rfl), by repeat (first | (with_reducible first | exact HB.out | apply below_alloc | apply pw_below_drewN | apply below_drew1 | refine below_set ?_ GE336.out | refine below_set ?_ GE337.out | refine below_set ?_ GE338.out | refine below_set ?_ GE349.out | refine below_set ?_ GE357.out | refine below_set ?_ GE365.out | refine below_set ?_ GE373.out) | exact HB.out)⟩
           · rw [if_neg c126] at H
             have c126b0 : (a1_1 == a2_1) = false := beq_eq_false_iff_ne.mpr c126
             have c126b1 : (a1_1 != a2_1) = true := bne_iff_ne.mpr c126
             replace H := Option.bind_eq_some_iff.mp H
             obtain ⟨⟨t375, t376⟩, A1280, H⟩ := H
             replace H : ((host_Wants.f kj57 l0_0 a2_1).bind fun bt379 => ((stolonref06_Same.f kj57 t375 t376 bt379.1 bt379.2).bind fun t383 => (some t383))) = some r := H
             have A128 := Aside0.mk A1280
             clear A1280
             replace H := Option.bind_eq_some_iff.mp H
             obtain ⟨⟨t379, t380⟩, A1290, H⟩ := H
             replace H : ((stolonref06_Same.f kj57 t375 t376 t379 t380).bind fun t383 => (some t383)) = some r := H
             have A129 := Aside0.mk A1290
             clear A1290
             replace H := Option.bind_eq_some_iff.mp H
             obtain ⟨t383, A1300, H⟩ := H
             replace H : (some t383) = some r := H
             have A130 := Aside0.mk A1300
             clear A1300
             obtain rfl := Option.some.inj H
             try go_wp2
             have n0_ := Aside0.mk (Kd.V_drew HO_350000.out)
             have n1_ := Aside0.mk (Kd.V_drew HO_358000.out)
             have n2_ := Aside0.mk (Kd.V_drew HO_366000.out)
             have n3_ := Aside0.mk (Kd.V_drew HO_374000.out)
             have n4_ := Aside0.mk (blk_drew BK336.out)
             have n5_ := Aside0.mk (blk_drew BK337.out)
             have n6_ := Aside0.mk (blk_drew BK338.out)
             have n7_ := Aside0.mk (blk_drew BK349.out)
             have n8_ := Aside0.mk (blk_drew BK357.out)
             have n9_ := Aside0.mk (blk_drew BK365.out)
             have n10_ := Aside0.mk (blk_drew BK373.out)
             have n11_ := Aside0.mk (below_drew1 HB.out)
             clear HO_350000
             clear HO_358000
             clear HO_366000
             clear HO_374000
             clear BK336
             clear BK337
             clear BK338
             clear BK349
             clear BK357
             clear BK365
             clear BK373
             clear HB
             have HO_350000 := n0_
             have HO_358000 := n1_
             have HO_366000 := n2_
             have HO_374000 := n3_
             have BK336 := n4_
             have BK337 := n5_
             have BK338 := n6_
             have BK349 := n7_
             have BK357 := n8_
             have BK365 := n9_
             have BK373 := n10_
             have HB := n11_
             clear n0_ n1_ n2_ n3_ n4_ n5_ n6_ n7_ n8_ n9_ n10_ n11_
             refine start_ (n := 20) (S := fun w' => w'.cell? ⟨gb337, 0, none⟩ = some (.int .i64 a1_0) ∧ w'.cell? ⟨gb337, 1, none⟩ = some (.int .u32 a1_1) ∧ w'.cell? ⟨gb337, 2, none⟩ = some (.bool a1_2) ∧ w'.cell? ⟨gb337, 3, none⟩ = some (.slice A1_3 l1_3.length c1_3) ∧ w'.cell? ⟨gb338, 0, none⟩ = some (.int .i64 a2_0) ∧ w'.cell? ⟨gb338, 1, none⟩ = some (.int .u32 a2_1) ∧ w'.cell? ⟨gb338, 2, none⟩ = some (.bool a2_2) ∧ w'.cell? ⟨gb338, 3, none⟩ = some (.slice A2_3 l2_3.length c2_3) ∧ w'.cell? ⟨gb349, 0, none⟩ = some (.slice Ao66 t342.length co66) ∧ w'.cell? ⟨gb336, 0, none⟩ = some (.slice A0_0 l0_0.length c0_0)) (ds := []) #[false, false, false, false, false, false, false, false, false, false, false, false, false, false, false, false, false, false, false, false] (by kernel_rfl) rfl rfl ⟨(blk_cell BK337.out 0).trans rfl, (blk_cell BK337.out 1).trans rfl, (blk_cell BK337.out 2).trans rfl, (blk_cell BK337.out 3).trans rfl, (blk_cell BK338.out 0).trans rfl, (blk_cell BK338.out 1).trans rfl, (blk_cell BK338.out 2).trans rfl, (blk_cell BK338.out 3).trans rfl, (blk_cell BK349.out 0).trans rfl, (blk_cell BK336.out 0).trans rfl⟩ (fun hHeld => ?_); refine with_tabW stolonlaw07_HostTwo.tab10 stolonlaw07_HostTwo.bits10 (fun HT_ HW_ => ?_)
             generalize wc.drew = w131 at HO_350000 HO_358000 HO_366000 HO_374000 BK336 BK337 BK338 BK349 BK357 BK365 BK373 HB hHeld ⊢
             refine pu 0 97 (bb 20 1) rfl rfl (any_of HT_.out (by kernel_rfl)) (fun _ _ _ h => h) (by rfl) (fun w' => by go_simp; with_reducible rfl) (by simp only [Act.put, List.setIfInBounds_toArray, List.set_cons_zero, List.set_cons_succ, i64_w, i32_w]; rfl) ?_
             refine pu 1 98 (bb 20 3) rfl rfl (any_of HT_.out (by kernel_rfl)) (fun _ _ _ h => h) (by rfl) (fun w' => by go_simp; with_reducible rfl) (by simp only [Act.put, List.setIfInBounds_toArray, List.set_cons_zero, List.set_cons_succ, i64_w, i32_w]; rfl) ?_
             refine pu 2 99 (bb 20 7) rfl rfl (any_of HT_.out (by kernel_rfl)) (fun _ _ _ h => h) (by rfl) (fun w' => by go_simp; with_reducible rfl) (by simp only [Act.put, List.setIfInBounds_toArray, List.set_cons_zero, List.set_cons_succ, i64_w, i32_w]; rfl) ?_
             refine pu 4 101 (bb 20 23) rfl rfl (any_of HT_.out (by kernel_rfl)) (fun _ _ _ h => h) (by rfl) (fun w' => by go_simp; with_reducible rfl) (by simp only [Act.put, List.setIfInBounds_toArray, List.set_cons_zero, List.set_cons_succ, i64_w, i32_w]; rfl) ?_
             refine take_ (i := 3) (N := some 100) (v := ?_) (a' := ?_) (bb 20 31) rfl rfl (take_ofW HT_.out HW_.out (by kernel_rfl)) (fun _ _ _ h => h) (Or.inl ⟨by rfl, ?_⟩) hHeld ?_ ?_
             rotate_left
             · rintro w' ⟨s0, s1, s2, s3, s4, s5, s6, s7, s8, s9⟩
               go_simp
               with_reducible rfl
             rotate_left
             · simp only [Act.put, List.setIfInBounds_toArray, List.set_cons_zero, List.set_cons_succ, i64_w, i32_w]
               rfl
             refine take_ (i := 5) (N := some 102) (v := ?_) (a' := ?_) (bb 20 63) rfl rfl (take_ofW HT_.out HW_.out (by kernel_rfl)) (fun _ _ _ h => h) (Or.inl ⟨by rfl, ?_⟩) hHeld ?_ ?_
             rotate_left
             · rintro w' ⟨s0, s1, s2, s3, s4, s5, s6, s7, s8, s9⟩
               go_simp
               with_reducible rfl
             rotate_left
             · simp only [Act.put, List.setIfInBounds_toArray, List.set_cons_zero, List.set_cons_succ, i64_w, i32_w]
               rfl
             refine pu 6 103 (bb 20 127) rfl rfl (any_of HT_.out (by kernel_rfl)) (fun _ _ _ h => h) (by rfl) (fun w' => by go_simp; with_reducible rfl) (by simp only [Act.put, List.setIfInBounds_toArray, List.set_cons_zero, List.set_cons_succ, i64_w, i32_w]; rfl) ?_
             refine pu 7 104 (bb 20 255) rfl rfl (any_of HT_.out (by kernel_rfl)) (fun _ _ _ h => h) (by rfl) (fun w' => by go_simp; with_reducible rfl) (by simp only [Act.put, List.setIfInBounds_toArray, List.set_cons_zero, List.set_cons_succ, i64_w, i32_w]; rfl) ?_
             refine pu 9 106 (bb 20 767) rfl rfl (any_of HT_.out (by kernel_rfl)) (fun _ _ _ h => h) (by rfl) (fun w' => by go_simp; with_reducible rfl) (by simp only [Act.put, List.setIfInBounds_toArray, List.set_cons_zero, List.set_cons_succ, i64_w, i32_w]; rfl) ?_
             refine pu 13 110 (bb 20 8959) rfl rfl (any_of HT_.out (by kernel_rfl)) (fun _ _ _ h => h) (by rfl) (fun w' => by go_simp; with_reducible rfl) (by simp only [Act.put, List.setIfInBounds_toArray, List.set_cons_zero, List.set_cons_succ, i64_w, i32_w]; rfl) ?_
             refine take_ (i := 8) (N := some 105) (v := ?_) (a' := ?_) (bb 20 9215) rfl rfl (take_ofW HT_.out HW_.out (by kernel_rfl)) (fun _ _ _ h => h) (Or.inl ⟨by rfl, ?_⟩) hHeld ?_ ?_
             rotate_left
             · rintro w' ⟨s0, s1, s2, s3, s4, s5, s6, s7, s8, s9⟩
               go_simp
               with_reducible rfl
             rotate_left
             · simp only [Act.put, List.setIfInBounds_toArray, List.set_cons_zero, List.set_cons_succ, i64_w, i32_w]
               rfl
             refine take_ (i := 10) (N := some 107) (v := ?_) (a' := ?_) (bb 20 10239) rfl rfl (take_ofW HT_.out HW_.out (by kernel_rfl)) (fun _ _ _ h => h) (Or.inl ⟨by rfl, ?_⟩) hHeld ?_ ?_
             rotate_left
             · rintro w' ⟨s0, s1, s2, s3, s4, s5, s6, s7, s8, s9⟩
               go_simp
               with_reducible rfl
             rotate_left
             · simp only [Act.put, List.setIfInBounds_toArray, List.set_cons_zero, List.set_cons_succ, i64_w, i32_w]
               rfl
             refine take_ (i := 12) (N := some 109) (v := ?_) (a' := ?_) (bb 20 14335) rfl rfl (take_ofW HT_.out HW_.out (by kernel_rfl)) (fun _ _ _ h => h) (Or.inl ⟨by rfl, ?_⟩) hHeld ?_ ?_
             rotate_left
             · rintro w' ⟨s0, s1, s2, s3, s4, s5, s6, s7, s8, s9⟩
               go_simp
               with_reducible rfl
             rotate_left
             · simp only [Act.put, List.setIfInBounds_toArray, List.set_cons_zero, List.set_cons_succ, i64_w, i32_w]
               rfl
             refine take_ (i := 14) (N := some 111) (v := ?_) (a' := ?_) (bb 20 30719) rfl rfl (take_ofW HT_.out HW_.out (by kernel_rfl)) (fun _ _ _ h => h) (Or.inl ⟨by rfl, ?_⟩) hHeld ?_ ?_
             rotate_left
             · rintro w' ⟨s0, s1, s2, s3, s4, s5, s6, s7, s8, s9⟩
               go_simp
               with_reducible rfl
             rotate_left
             · simp only [Act.put, List.setIfInBounds_toArray, List.set_cons_zero, List.set_cons_succ, i64_w, i32_w]
               rfl
             refine one_ (i := 11) (N := some 108) (bb 20 32767) rfl rfl (one_of HT_.out (by kernel_rfl)) (by decide) (fun K hK => ?_)
             refine goes_ Try.func18 (by kernel_rfl) rfl #[.agg #[.slice Ao66 t342.length co66], .int .u32 a2_1] (by rfl) rfl rfl (by (try simp only [List.map_toArray, List.map_cons, List.map_nil]); first | done | rfl | (simp only [List.length_drop, List.length_take]; rfl)) ?_
             with_reducible refine (host_Wants.calls kj57 (fun k_ => (k_ ≠ gb336 ∧ (k_ ≠ gb337 ∧ (k_ ≠ gb338 ∧ (k_ ≠ gb349 ∧ (k_ ≠ gb357 ∧ (k_ ≠ gb365 ∧ k_ ≠ gb373))))))) _ _ t342 a2_1 t375 t376 _ ?side1 A128.out).mono ?_
             (case side1 => exact HO_350000.out)
             rintro e w132 ⟨v377, rfl, ho0, hb⟩
             refine ⟨_, rfl, ?_⟩
             have n0_ := Aside0.mk (Kd.V_elder' (by (with_reducible repeat (first | apply Kd.V_alloc | apply Kd.V_drewN | apply Kd.V_drew)); exact HO_350000.out) (Kd.R_base ho0) hb)
             have n1_ := Aside0.mk (Kd.V_elder' (by (with_reducible repeat (first | apply Kd.V_alloc | apply Kd.V_drewN | apply Kd.V_drew)); exact HO_358000.out) (Kd.R_base ho0) hb)
             have n2_ := Aside0.mk (Kd.V_elder' (by (with_reducible repeat (first | apply Kd.V_alloc | apply Kd.V_drewN | apply Kd.V_drew)); exact HO_366000.out) (Kd.R_base ho0) hb)
             have n3_ := Aside0.mk (Kd.V_elder' (by (with_reducible repeat (first | apply Kd.V_alloc | apply Kd.V_drewN | apply Kd.V_drew)); exact HO_374000.out) (Kd.R_base ho0) hb)
             have n4_ := Aside0.mk (Kd.R_lower (Kd.R_mono (ok' := fun k_ => True) ho0 (fun _ hk_ => trivial)) (below_size HB.out))
             have n5_ := Aside0.mk (blk_below BK336.out hb)
             have n6_ := Aside0.mk (blk_below BK337.out hb)
             have n7_ := Aside0.mk (blk_below BK338.out hb)
             have n8_ := Aside0.mk (blk_below BK349.out hb)
             have n9_ := Aside0.mk (blk_below BK357.out hb)
             have n10_ := Aside0.mk (blk_below BK365.out hb)
             have n11_ := Aside0.mk (blk_below BK373.out hb)
             have n12_ := Aside0.mk (below_step HB.out hb)
             clear HO_350000
             clear HO_358000
             clear HO_366000
             clear HO_374000
             clear BK336
             clear BK337
             clear BK338
             clear BK349
             clear BK357
             clear BK365
             clear BK373
             clear HB
             have HO_350000 := n0_
             have HO_358000 := n1_
             have HO_366000 := n2_
             have HO_374000 := n3_
             have HO378 := n4_
             have BK336 := n5_
             have BK337 := n6_
             have BK338 := n7_
             have BK349 := n8_
             have BK357 := n9_
             have BK365 := n10_
             have BK373 := n11_
             have HB := n12_
             clear n0_ n1_ n2_ n3_ n4_ n5_ n6_ n7_ n8_ n9_ n10_ n11_ n12_
             (try clear hb)
             (try clear hb2)
             (try clear hk)
             (try clear hi)
             (try clear ho0)
             refine hK.out _ _ ⟨(blk_cell BK337.out 0).trans rfl, (blk_cell BK337.out 1).trans rfl, (blk_cell BK337.out 2).trans rfl, (blk_cell BK337.out 3).trans rfl, (blk_cell BK338.out 0).trans rfl, (blk_cell BK338.out 1).trans rfl, (blk_cell BK338.out 2).trans rfl, (blk_cell BK338.out 3).trans rfl, (blk_cell BK349.out 0).trans rfl, (blk_cell BK336.out 0).trans rfl⟩ (fun hHeld => ?_)
             clear hK K
             refine norm_ (a' := ?_) ?_ ?_
             rotate_left
             · show Act.put _ (some 108) _ = _
               simp only [Act.put, List.setIfInBounds_toArray, List.set_cons_zero, List.set_cons_succ, i64_w, i32_w]
               rfl
             refine one_ (i := 15) (N := some 112) (bb 20 65535) rfl rfl (one_of HT_.out (by kernel_rfl)) (by decide) (fun K hK => ?_)
             refine goes_ Try.func18 (by kernel_rfl) rfl #[.agg #[.slice A0_0 l0_0.length c0_0], .int .u32 a2_1] (by rfl) rfl rfl (by (try simp only [List.map_toArray, List.map_cons, List.map_nil]); first | done | rfl | (simp only [List.length_drop, List.length_take]; rfl)) ?_
             with_reducible refine (host_Wants.calls kj57 (fun k_ => k_ < w.heap.size) _ _ l0_0 a2_1 t379 t380 _ ?side1 A129.out).mono ?_
             (case side1 => exact Kd.V_mk HC0_0.out (Kd.F_below (Kd.C_F k42_heap HR0_0.out) HB.out))
             rintro e w133 ⟨v381, rfl, ho0, hb⟩
             refine ⟨_, rfl, ?_⟩
             have n0_ := Aside0.mk (Kd.V_elder' (by (with_reducible repeat (first | apply Kd.V_alloc | apply Kd.V_drewN | apply Kd.V_drew)); exact HO_350000.out) (Kd.R_base ho0) hb)
             have n1_ := Aside0.mk (Kd.V_elder' (by (with_reducible repeat (first | apply Kd.V_alloc | apply Kd.V_drewN | apply Kd.V_drew)); exact HO_358000.out) (Kd.R_base ho0) hb)
             have n2_ := Aside0.mk (Kd.V_elder' (by (with_reducible repeat (first | apply Kd.V_alloc | apply Kd.V_drewN | apply Kd.V_drew)); exact HO_366000.out) (Kd.R_base ho0) hb)
             have n3_ := Aside0.mk (Kd.V_elder' (by (with_reducible repeat (first | apply Kd.V_alloc | apply Kd.V_drewN | apply Kd.V_drew)); exact HO_374000.out) (Kd.R_base ho0) hb)
             have n4_ := Aside0.mk (Kd.R_elder' (by (with_reducible repeat (first | apply Kd.R_alloc | apply Kd.R_drewN | apply Kd.R_drew)); exact HO378.out) (Kd.R_base ho0) hb)
             have n5_ := Aside0.mk (Kd.R_lower (Kd.R_new' (Kd.R_mono (ok' := fun k_ => True) ho0 (fun _ hk_ => trivial)) (Kd.R_lt (by (with_reducible repeat (first | apply Kd.R_alloc | apply Kd.R_drewN | apply Kd.R_drew)); exact HO378.out))) (below_size HB.out))
             have n6_ := Aside0.mk (blk_below BK336.out hb)
             have n7_ := Aside0.mk (blk_below BK337.out hb)
             have n8_ := Aside0.mk (blk_below BK338.out hb)
             have n9_ := Aside0.mk (blk_below BK349.out hb)
             have n10_ := Aside0.mk (blk_below BK357.out hb)
             have n11_ := Aside0.mk (blk_below BK365.out hb)
             have n12_ := Aside0.mk (blk_below BK373.out hb)
             have n13_ := Aside0.mk (below_step HB.out hb)
             clear HO_350000
             clear HO_358000
             clear HO_366000
             clear HO_374000
             clear HO378
             clear BK336
             clear BK337
             clear BK338
             clear BK349
             clear BK357
             clear BK365
             clear BK373
             clear HB
             have HO_350000 := n0_
             have HO_358000 := n1_
             have HO_366000 := n2_
             have HO_374000 := n3_
             have HO378 := n4_
             have HO382 := n5_
             have BK336 := n6_
             have BK337 := n7_
             have BK338 := n8_
             have BK349 := n9_
             have BK357 := n10_
             have BK365 := n11_
             have BK373 := n12_
             have HB := n13_
             clear n0_ n1_ n2_ n3_ n4_ n5_ n6_ n7_ n8_ n9_ n10_ n11_ n12_ n13_
             (try clear hb)
             (try clear hb2)
             (try clear hk)
             (try clear hi)
             (try clear ho0)
             obtain ⟨Ao134, co134, eo134⟩ := Kd.R_slice HO378.out
             (first | subst eo134 | (injection eo134 with f1_ f2_ f3_; have f4_ := f1_.symm; have f5_ := f3_.symm; clear f1_ f2_ f3_; subst f4_; subst f5_))
             obtain ⟨Ao135, co135, eo135⟩ := Kd.R_slice HO382.out
             (first | subst eo135 | (injection eo135 with f1_ f2_ f3_; have f4_ := f1_.symm; have f5_ := f3_.symm; clear f1_ f2_ f3_; subst f4_; subst f5_))
             refine hK.out _ _ ⟨(blk_cell BK337.out 0).trans rfl, (blk_cell BK337.out 1).trans rfl, (blk_cell BK337.out 2).trans rfl, (blk_cell BK337.out 3).trans rfl, (blk_cell BK338.out 0).trans rfl, (blk_cell BK338.out 1).trans rfl, (blk_cell BK338.out 2).trans rfl, (blk_cell BK338.out 3).trans rfl, (blk_cell BK349.out 0).trans rfl, (blk_cell BK336.out 0).trans rfl⟩ (fun hHeld => ?_)
             clear hK K
             refine norm_ (a' := ?_) ?_ ?_
             rotate_left
             · show Act.put _ (some 112) _ = _
               simp only [Act.put, List.setIfInBounds_toArray, List.set_cons_zero, List.set_cons_succ, i64_w, i32_w]
               rfl
             refine one_ (i := 16) (N := some 113) (bb 20 131071) rfl rfl (one_of HT_.out (by kernel_rfl)) (by decide) (fun K hK => ?_)
             refine goes_ Try.func17 (by kernel_rfl) rfl #[.agg #[.bool t375, .slice Ao134 t376.length co134], .agg #[.bool t379, .slice Ao135 t380.length co135]] (by rfl) rfl rfl (by (try simp only [List.map_toArray, List.map_cons, List.map_nil]); first | done | rfl | (simp only [List.length_drop, List.length_take]; rfl)) ?_
             with_reducible refine (stolonref06_Same.calls kj57 t375 _ _ t376 t379 _ _ t380 t383 _ ?side1 ?side2 ?side3 ?side4 A130.out).mono ?_
             (case side1 => repeat (first | exact (Kd.R_reads' HO378.out).2.2 | (with_reducible refine Kd.C_alloc ?_ _) | (with_reducible refine Kd.C_drewN ?_ _) | (with_reducible refine Kd.C_drew ?_)))
             (case side2 => exact (Kd.R_reads' HO378.out).2.1)
             (case side3 => repeat (first | exact (Kd.R_reads' HO382.out).2.2 | (with_reducible refine Kd.C_alloc ?_ _) | (with_reducible refine Kd.C_drewN ?_ _) | (with_reducible refine Kd.C_drew ?_)))
             (case side4 => exact (Kd.R_reads' HO382.out).2.1)
             rintro e w136 ⟨rfl, hb⟩
             refine ⟨_, rfl, ?_⟩
             have n0_ := Aside0.mk (Kd.V_below (by (with_reducible repeat (first | apply Kd.V_alloc | apply Kd.V_drewN | apply Kd.V_drew)); exact HO_350000.out) hb)
             have n1_ := Aside0.mk (Kd.V_below (by (with_reducible repeat (first | apply Kd.V_alloc | apply Kd.V_drewN | apply Kd.V_drew)); exact HO_358000.out) hb)
             have n2_ := Aside0.mk (Kd.V_below (by (with_reducible repeat (first | apply Kd.V_alloc | apply Kd.V_drewN | apply Kd.V_drew)); exact HO_366000.out) hb)
             have n3_ := Aside0.mk (Kd.V_below (by (with_reducible repeat (first | apply Kd.V_alloc | apply Kd.V_drewN | apply Kd.V_drew)); exact HO_374000.out) hb)
             have n4_ := Aside0.mk (Kd.R_below (by (with_reducible repeat (first | apply Kd.R_alloc | apply Kd.R_drewN | apply Kd.R_drew)); exact HO378.out) hb)
             have n5_ := Aside0.mk (Kd.R_below (by (with_reducible repeat (first | apply Kd.R_alloc | apply Kd.R_drewN | apply Kd.R_drew)); exact HO382.out) hb)
             have n6_ := Aside0.mk (blk_below BK336.out hb)
             have n7_ := Aside0.mk (blk_below BK337.out hb)
             have n8_ := Aside0.mk (blk_below BK338.out hb)
             have n9_ := Aside0.mk (blk_below BK349.out hb)
             have n10_ := Aside0.mk (blk_below BK357.out hb)
             have n11_ := Aside0.mk (blk_below BK365.out hb)
             have n12_ := Aside0.mk (blk_below BK373.out hb)
             have n13_ := Aside0.mk (below_step HB.out hb)
             clear HO_350000
             clear HO_358000
             clear HO_366000
             clear HO_374000
             clear HO378
             clear HO382
             clear BK336
             clear BK337
             clear BK338
             clear BK349
             clear BK357
             clear BK365
             clear BK373
             clear HB
             have HO_350000 := n0_
             have HO_358000 := n1_
             have HO_366000 := n2_
             have HO_374000 := n3_
             have HO378 := n4_
             have HO382 := n5_
             have BK336 := n6_
             have BK337 := n7_
             have BK338 := n8_
             have BK349 := n9_
             have BK357 := n10_
             have BK365 := n11_
             have BK373 := n12_
             have HB := n13_
             clear n0_ n1_ n2_ n3_ n4_ n5_ n6_ n7_ n8_ n9_ n10_ n11_ n12_ n13_
             (try clear hb)
             (try clear hb2)
             (try clear hk)
             (try clear hi)
             refine hK.out _ _ ⟨(blk_cell BK337.out 0).trans rfl, (blk_cell BK337.out 1).trans rfl, (blk_cell BK337.out 2).trans rfl, (blk_cell BK337.out 3).trans rfl, (blk_cell BK338.out 0).trans rfl, (blk_cell BK338.out 1).trans rfl, (blk_cell BK338.out 2).trans rfl, (blk_cell BK338.out 3).trans rfl, (blk_cell BK349.out 0).trans rfl, (blk_cell BK336.out 0).trans rfl⟩ (fun hHeld => ?_)
             clear hK K
             refine norm_ (a' := ?_) ?_ ?_
             rotate_left
             · show Act.put _ (some 113) _ = _
               simp only [Act.put, List.setIfInBounds_toArray, List.set_cons_zero, List.set_cons_succ, i64_w, i32_w]
               rfl
             refine pu 17 114 (bb 20 262143) rfl rfl (any_of HT_.out (by kernel_rfl)) (fun _ _ _ h => h) (by rfl) (fun w' => by go_simp; with_reducible rfl) (by simp only [Act.put, List.setIfInBounds_toArray, List.set_cons_zero, List.set_cons_succ, i64_w, i32_w]; rfl) ?_
             refine pu 18 115 (bb 20 524287) rfl rfl (any_of HT_.out (by kernel_rfl)) (fun _ _ _ h => h) (by rfl) (fun w' => by go_simp; with_reducible rfl) (by simp only [Act.put, List.setIfInBounds_toArray, List.set_cons_zero, List.set_cons_succ, i64_w, i32_w]; rfl) ?_
             refine pu 19 6 (bb 20 1048575) rfl rfl (any_of HT_.out (by kernel_rfl)) (fun _ _ _ h => h) (by rfl) (fun w' => by go_simp; with_reducible rfl) (by simp only [Act.put, List.setIfInBounds_toArray, List.set_cons_zero, List.set_cons_succ, i64_w, i32_w]; rfl) ?_
             refine done_ (done_of HT_.out (by kernel_rfl)) ?_
             try go_wp2
             go_ret
             exact ⟨by first | rfl | (simp [errW_none, errW_some] <;> rfl) | (simp [*, errW_none, errW_some] <;> rfl), by repeat (first | (with_reducible first | exact HB.out | apply below_alloc | apply pw_below_drewN | apply below_drew1 | refine below_set ?_ GE336.out | refine below_set ?_ GE337.out | refine below_set ?_ GE338.out | refine below_set ?_ GE349.out | refine below_set ?_ GE357.out | refine below_set ?_ GE365.out | refine below_set ?_ GE373.out) | exact HB.out)⟩
         · replace c125 := Bool.eq_false_iff.mpr c125
           subst c125
           have H1 : (some false) = some r := by rw [if_neg (show ¬ (false = true) by decide)] at H; exact H
           clear H
           have H := H1
           clear H1
           obtain rfl := Option.some.inj H
           try go_wp2
           have n0_ := Aside0.mk (Kd.V_drew HO_350000.out)
           have n1_ := Aside0.mk (Kd.V_drew HO_358000.out)
           have n2_ := Aside0.mk (Kd.V_drew HO_366000.out)
           have n3_ := Aside0.mk (Kd.V_drew HO_374000.out)
           have n4_ := Aside0.mk (blk_drew BK336.out)
           have n5_ := Aside0.mk (blk_drew BK337.out)
           have n6_ := Aside0.mk (blk_drew BK338.out)
           have n7_ := Aside0.mk (blk_drew BK349.out)
           have n8_ := Aside0.mk (blk_drew BK357.out)
           have n9_ := Aside0.mk (blk_drew BK365.out)
           have n10_ := Aside0.mk (blk_drew BK373.out)
           have n11_ := Aside0.mk (below_drew1 HB.out)
           clear HO_350000
           clear HO_358000
           clear HO_366000
           clear HO_374000
           clear BK336
           clear BK337
           clear BK338
           clear BK349
           clear BK357
           clear BK365
           clear BK373
           clear HB
           have HO_350000 := n0_
           have HO_358000 := n1_
           have HO_366000 := n2_
           have HO_374000 := n3_
           have BK336 := n4_
           have BK337 := n5_
           have BK338 := n6_
           have BK349 := n7_
           have BK357 := n8_
           have BK365 := n9_
           have BK373 := n10_
           have HB := n11_
           clear n0_ n1_ n2_ n3_ n4_ n5_ n6_ n7_ n8_ n9_ n10_ n11_
           refine start_ (n := 20) (S := fun w' => True) (ds := []) #[false, false, false, false, false, false, false, false, false, false, false, false, false, false, false, false, false, false, false, false] (by kernel_rfl) rfl rfl trivial (fun hHeld => ?_); refine with_tabW stolonlaw07_HostTwo.tab10 stolonlaw07_HostTwo.bits10 (fun HT_ HW_ => ?_)
           generalize wc.drew = w137 at HO_350000 HO_358000 HO_366000 HO_374000 BK336 BK337 BK338 BK349 BK357 BK365 BK373 HB hHeld ⊢
           refine pu 0 97 (bb 20 1) rfl rfl (any_of HT_.out (by kernel_rfl)) (fun _ _ _ h => h) (by rfl) (fun w' => by go_simp; with_reducible rfl) (by simp only [Act.put, List.setIfInBounds_toArray, List.set_cons_zero, List.set_cons_succ, i64_w, i32_w]; rfl) ?_
           refine pu 1 98 (bb 20 3) rfl rfl (any_of HT_.out (by kernel_rfl)) (fun _ _ _ h => h) (by rfl) (fun w' => by go_simp; with_reducible rfl) (by simp only [Act.put, List.setIfInBounds_toArray, List.set_cons_zero, List.set_cons_succ, i64_w, i32_w]; rfl) ?_
           refine pure_ (i := 2) (N := some 99) (v := undef) (a' := ?_) (bb 20 7) rfl rfl (any_of HT_.out (by kernel_rfl)) (fun _ _ _ h => h) (Or.inr ⟨by rfl, rfl⟩) ?_ ?_
           rotate_left
           · simp only [Act.put, List.setIfInBounds_toArray, List.set_cons_zero, List.set_cons_succ, i64_w, i32_w]
             rfl
           refine pure_ (i := 3) (N := some 100) (v := undef) (a' := ?_) (bb 20 15) rfl rfl (any_of HT_.out (by kernel_rfl)) (fun _ _ _ h => h) (Or.inr ⟨by rfl, rfl⟩) ?_ ?_
           rotate_left
           · simp only [Act.put, List.setIfInBounds_toArray, List.set_cons_zero, List.set_cons_succ, i64_w, i32_w]
             rfl
           refine pure_ (i := 4) (N := some 101) (v := undef) (a' := ?_) (bb 20 31) rfl rfl (any_of HT_.out (by kernel_rfl)) (fun _ _ _ h => h) (Or.inr ⟨by rfl, rfl⟩) ?_ ?_
           rotate_left
           · simp only [Act.put, List.setIfInBounds_toArray, List.set_cons_zero, List.set_cons_succ, i64_w, i32_w]
             rfl
           refine pure_ (i := 5) (N := some 102) (v := undef) (a' := ?_) (bb 20 63) rfl rfl (any_of HT_.out (by kernel_rfl)) (fun _ _ _ h => h) (Or.inr ⟨by rfl, rfl⟩) ?_ ?_
           rotate_left
           · simp only [Act.put, List.setIfInBounds_toArray, List.set_cons_zero, List.set_cons_succ, i64_w, i32_w]
             rfl
           refine pure_ (i := 6) (N := some 103) (v := undef) (a' := ?_) (bb 20 127) rfl rfl (any_of HT_.out (by kernel_rfl)) (fun _ _ _ h => h) (Or.inr ⟨by rfl, rfl⟩) ?_ ?_
           rotate_left
           · simp only [Act.put, List.setIfInBounds_toArray, List.set_cons_zero, List.set_cons_succ, i64_w, i32_w]
             rfl
           refine pure_ (i := 7) (N := some 104) (v := undef) (a' := ?_) (bb 20 255) rfl rfl (any_of HT_.out (by kernel_rfl)) (fun _ _ _ h => h) (Or.inr ⟨by rfl, rfl⟩) ?_ ?_
           rotate_left
           · simp only [Act.put, List.setIfInBounds_toArray, List.set_cons_zero, List.set_cons_succ, i64_w, i32_w]
             rfl
           refine pure_ (i := 8) (N := some 105) (v := undef) (a' := ?_) (bb 20 511) rfl rfl (any_of HT_.out (by kernel_rfl)) (fun _ _ _ h => h) (Or.inr ⟨by rfl, rfl⟩) ?_ ?_
           rotate_left
           · simp only [Act.put, List.setIfInBounds_toArray, List.set_cons_zero, List.set_cons_succ, i64_w, i32_w]
             rfl
           refine pure_ (i := 9) (N := some 106) (v := undef) (a' := ?_) (bb 20 1023) rfl rfl (any_of HT_.out (by kernel_rfl)) (fun _ _ _ h => h) (Or.inr ⟨by rfl, rfl⟩) ?_ ?_
           rotate_left
           · simp only [Act.put, List.setIfInBounds_toArray, List.set_cons_zero, List.set_cons_succ, i64_w, i32_w]
             rfl
           refine pure_ (i := 10) (N := some 107) (v := undef) (a' := ?_) (bb 20 2047) rfl rfl (any_of HT_.out (by kernel_rfl)) (fun _ _ _ h => h) (Or.inr ⟨by rfl, rfl⟩) ?_ ?_
           rotate_left
           · simp only [Act.put, List.setIfInBounds_toArray, List.set_cons_zero, List.set_cons_succ, i64_w, i32_w]
             rfl
           refine pure_ (i := 11) (N := some 108) (v := undef) (a' := ?_) (bb 20 4095) rfl rfl (any_of HT_.out (by kernel_rfl)) (fun _ _ _ h => h) (Or.inr ⟨by rfl, rfl⟩) ?_ ?_
           rotate_left
           · simp only [Act.put, List.setIfInBounds_toArray, List.set_cons_zero, List.set_cons_succ, i64_w, i32_w]
             rfl
           refine pure_ (i := 12) (N := some 109) (v := undef) (a' := ?_) (bb 20 8191) rfl rfl (any_of HT_.out (by kernel_rfl)) (fun _ _ _ h => h) (Or.inr ⟨by rfl, rfl⟩) ?_ ?_
           rotate_left
           · simp only [Act.put, List.setIfInBounds_toArray, List.set_cons_zero, List.set_cons_succ, i64_w, i32_w]
             rfl
           refine pure_ (i := 13) (N := some 110) (v := undef) (a' := ?_) (bb 20 16383) rfl rfl (any_of HT_.out (by kernel_rfl)) (fun _ _ _ h => h) (Or.inr ⟨by rfl, rfl⟩) ?_ ?_
           rotate_left
           · simp only [Act.put, List.setIfInBounds_toArray, List.set_cons_zero, List.set_cons_succ, i64_w, i32_w]
             rfl
           refine pure_ (i := 14) (N := some 111) (v := undef) (a' := ?_) (bb 20 32767) rfl rfl (any_of HT_.out (by kernel_rfl)) (fun _ _ _ h => h) (Or.inr ⟨by rfl, rfl⟩) ?_ ?_
           rotate_left
           · simp only [Act.put, List.setIfInBounds_toArray, List.set_cons_zero, List.set_cons_succ, i64_w, i32_w]
             rfl
           refine pure_ (i := 15) (N := some 112) (v := undef) (a' := ?_) (bb 20 65535) rfl rfl (any_of HT_.out (by kernel_rfl)) (fun _ _ _ h => h) (Or.inr ⟨by rfl, rfl⟩) ?_ ?_
           rotate_left
           · simp only [Act.put, List.setIfInBounds_toArray, List.set_cons_zero, List.set_cons_succ, i64_w, i32_w]
             rfl
           refine pure_ (i := 16) (N := some 113) (v := undef) (a' := ?_) (bb 20 131071) rfl rfl (any_of HT_.out (by kernel_rfl)) (fun _ _ _ h => h) (Or.inr ⟨by rfl, rfl⟩) ?_ ?_
           rotate_left
           · simp only [Act.put, List.setIfInBounds_toArray, List.set_cons_zero, List.set_cons_succ, i64_w, i32_w]
             rfl
           refine pure_ (i := 17) (N := some 114) (v := undef) (a' := ?_) (bb 20 262143) rfl rfl (any_of HT_.out (by kernel_rfl)) (fun _ _ _ h => h) (Or.inr ⟨by rfl, rfl⟩) ?_ ?_
           rotate_left
           · simp only [Act.put, List.setIfInBounds_toArray, List.set_cons_zero, List.set_cons_succ, i64_w, i32_w]
             rfl
           refine pu 18 115 (bb 20 524287) rfl rfl (any_of HT_.out (by kernel_rfl)) (fun _ _ _ h => h) (by rfl) (fun w' => by go_simp; with_reducible rfl) (by simp only [Act.put, List.setIfInBounds_toArray, List.set_cons_zero, List.set_cons_succ, i64_w, i32_w]; rfl) ?_
           refine pu 19 6 (bb 20 1048575) rfl rfl (any_of HT_.out (by kernel_rfl)) (fun _ _ _ h => h) (by rfl) (fun w' => by go_simp; with_reducible rfl) (by simp only [Act.put, List.setIfInBounds_toArray, List.set_cons_zero, List.set_cons_succ, i64_w, i32_w]; rfl) ?_
           refine done_ (done_of HT_.out (by kernel_rfl)) ?_
           try go_wp2
           go_ret
           exact ⟨by first | rfl | (simp [errW_none, errW_some] <;> rfl) | (simp [*, errW_none, errW_some] <;> rfl), by repeat (first | (with_reducible first | exact HB.out | apply below_alloc | apply pw_below_drewN | apply below_drew1 | refine below_set ?_ GE336.out | refine below_set ?_ GE337.out | refine below_set ?_ GE338.out | refine below_set ?_ GE349.out | refine below_set ?_ GE357.out | refine below_set ?_ GE365.out | refine below_set ?_ GE373.out) | exact HB.out)⟩
end Go.Proofs.Ytjncmiclpaodhaa.PHo
