-- written by a program of this session (hprint.py), over the kit's printer
import Derived.Test.YtjncmiclpaodhaaPHox1
namespace Go.Proofs.Ytjncmiclpaodhaa.PHo
open Go.RowKit Go.Proofs.YtjncmiclpaodhaaW.PrintWords Go.Proofs.YtjncmiclpaodhaaW.PrintLast Go.Proofs.YtjncmiclpaodhaaW.PrintMore
attribute [local go_sem] max2_int min2_int max_two min_two max_three min_three max_four min_four   -- for this text's walks alone
set_option linter.unusedVariables false
set_option linter.unusedSimpArgs false

/-! ### host_Right: function 26 -/
def host_Right.l0 : Nat → List (S42) → Int → Int → List (S42) → Option (Bool)
 | 0, _, _, _, _ => none
 | k + 1, x6, x7, x8, x306000 => if x8 < x7 then (if 0 ≤ x8 then (if x8 < (x6.length : Int) then ((host_right.f k ((rd_T42 x6 x8).f0) ((rd_T42 x6 x8).f1) ((rd_T42 x6 x8).f2.f0) ((rd_T42 x6 x8).f2.f1)).bind fun t308 => (if t308 = true then (if x8 > 0 then (if 0 ≤ (wrap64 (x8 - 1)) then (if (wrap64 (x8 - 1)) < (x306000.length : Int) then (if ((rd_T42 x306000 (wrap64 (x8 - 1))).f0) ≥ ((rd_T42 x6 x8).f0) then (some false) else (host_Right.l0 k x6 x7 (wrap64 (x8 + 1)) x306000)) else (none)) else (none)) else (host_Right.l0 k x6 x7 (wrap64 (x8 + 1)) x306000)) else (some false))) else (none)) else (none)) else (some (decide ((x306000.length : Int) ≤ 32)))
def host_Right.f (k : Nat) (l0_0 : List (S42)) : Option (Bool) := host_Right.l0 k l0_0 (l0_0.length : Int) 0 l0_0
theorem host_Right.mono_l : ∀ k, (∀ y0 y1 y2 y3, LeO (host_Right.l0 k y0 y1 y2 y3) (host_Right.l0 (k + 1) y0 y1 y2 y3))
 | 0 => fun _ _ _ _ r h => by simp [host_Right.l0] at h
 | k + 1 => by
  have ih0 := host_Right.mono_l k
  · intro y0 y1 y2 y3
    unfold host_Right.l0
    repeat' first
    | (with_reducible exact ih0 _ _ _ _)
    | (with_reducible exact host_right.mono _ _ _ _ _)
    | (with_reducible exact LeO.refl _)
    | (with_reducible exact LeO.none _)
    | (with_reducible refine LeO.ite ?_ ?_)
    | (with_reducible refine LeO.bind ?_ (fun _ => ?_))
    | exact ih0 _ _ _ _
    | exact host_right.mono _ _ _ _ _
    | exact LeO.none _
    | refine LeO.ite ?_ ?_
    | refine LeO.bind ?_ (fun _ => ?_)
theorem host_Right.mono : ∀ a0 k, LeO (host_Right.f k a0) (host_Right.f (k + 1) a0) := by
 intro a0 k
 have ih0 := host_Right.mono_l k
 unfold host_Right.f
 repeat' first
  | (with_reducible exact ih0 _ _ _ _)
  | (with_reducible exact host_right.mono _ _ _ _ _)
  | (with_reducible exact LeO.refl _)
  | (with_reducible exact LeO.none _)
  | (with_reducible refine LeO.ite ?_ ?_)
  | (with_reducible refine LeO.bind ?_ (fun _ => ?_))
  | exact ih0 _ _ _ _
  | exact host_right.mono _ _ _ _ _
  | exact LeO.none _
  | refine LeO.ite ?_ ?_
  | refine LeO.bind ?_ (fun _ => ?_)
def host_Right.T4 : Bool × List (List Nat × List Nat) := (true, [([], []), ([0], [0]), ([1], [1]), ([2, 1], [2]), ([3], [3]), ([4, 3], [3, 4]), ([5, 3, 3], [3, 5]), ([6], [6]), ([7, 6], [6, 7]), ([6], [6]), ([9, 6], [6, 9]), ([8, 10, 6], [6, 8, 10]), ([11, 6], [6, 11]), ([12, 6], [6, 12]), ([6], [6]), ([14, 6], [6, 14]), ([13, 15, 6], [6, 13, 15]), ([6, 16, 3], [3, 6, 16]), ([3, 17], [3, 17])])
def host_Right.B4 : List Nat := [0, 1, 3, 7, 15, 31, 63, 127, 255, 127, 639, 2047, 4095, 8191, 127, 16511, 65535, 131071, 262143]
theorem host_Right.tab4 : rtab .any (opsOf Try.f26 4) = host_Right.T4 := by kernel_rfl
theorem host_Right.bits4 : waitsOk host_Right.T4.2 host_Right.B4 = true := by kernel_rfl
set_option maxHeartbeats 8000000 in
set_option maxRecDepth 100000 in
theorem host_Right.calls (k : Nat) (A0_0 : Option Addr) (c0_0 : Nat) (l0_0 : List (S42)) (r : Bool) (w : World) (hr0_0 : Kd.C k42 w A0_0 l0_0.length l0_0) (hc0_0 : l0_0.length ≤ c0_0) (h : host_Right.f k l0_0 = some r) :
 Calls Try.prog 26 #[.agg #[.slice A0_0 l0_0.length c0_0]] w fun e w' => e = .returned (.bool r) ∧ Below w.heap.size w w' := by
 have hu40 := Try.underlying40
 have hu42 := Try.underlying42
 have HR0_0 := Aside0.mk hr0_0
 have HC0_0 := Aside0.mk hc0_0
 clear hr0_0 hc0_0
 have HB := Aside0.mk (Below.refl w.heap.size w)
 have H : (host_Right.l0 k l0_0 (l0_0.length : Int) 0 l0_0) = some r := h
 clear h
 have H' := Aside0.mk H
 clear H
 go_enter Try.func26, Try.ntmps26
 go_wp2_with (first | ((with_reducible refine gate_dst (N := 1) rfl ?_); refine box_event ?hg (N := 1) ?hd (cs := #[.slice A0_0 l0_0.length c0_0]) (t := 40) ?hr ?_; (case hd => rfl); (case hg => rfl); (case hr => first | (go_simp; done) | (go_simp; rfl)); intro gb305 hg w2 hbox hb; have n0_ := Aside0.mk (below_step HB.out hb); have n1_ := Aside0.mk (hbox); have n2_ := Aside0.mk ((by rw [hg]; exact (below_size HB.out) : w.heap.size ≤ gb305)); have n3_ := Aside0.mk ((by rw [hg]; exact (below_size HB.out) : w.heap.size ≤ gb305)); clear HB; have HB := n0_; have BK305 := n1_; have GW305 := n2_; have GE305 := n3_; clear n0_ n1_ n2_ n3_; clear hb hbox hg; have hcz3_0 : w2.cell? ⟨gb305, 0, none⟩ = some (.slice A0_0 l0_0.length c0_0) := (blk_cell BK305.out 0).trans rfl; have hfz3_0 := blk_frozen BK305.out 0))
 go_loopg [8] k (fun kq v8 w' => ∃ (x8_1 : Int), v8 = .int .i64 x8_1 ∧ Aside0 (host_Right.l0 kq l0_0 (l0_0.length : Int) x8_1 l0_0 = some r) ∧ Aside0 (kq ≤ k) ∧ Aside0 (w'.heap[gb305]? = some (.cells #[(.slice A0_0 l0_0.length c0_0)] 40 (0, 0))) ∧ Aside0 (Below w.heap.size w w'))
 case atStart => exact ⟨(0), (by first | rfl | (simp; done) | (simp [*]; done)), H', ⟨Nat.le_refl _⟩, ⟨BK305.out⟩, ⟨HB.out⟩⟩
 case round =>
  clear H'
  try clear c2
  try clear p2
  try clear hcz3_0
  try clear hfz3_0
  obtain ⟨x8_1, rfl, HA, HK1, BK305, HB⟩ := hrel
  cases gk with
  | zero => exact absurd HA.out (by simp [host_Right.l0])
  | succ k1 =>
   have H := HA.out
   clear HA
   simp only [host_Right.l0] at H
   by_cases c4 : x8_1 < (l0_0.length : Int)
   · rw [if_pos c4] at H
     have c4b0 : decide (x8_1 < (l0_0.length : Int)) = true := decide_eq_true c4
     clear c4
     by_cases c5 : 0 ≤ x8_1
     case neg => rw [if_neg c5] at H; exact absurd H (by simp)
     rw [if_pos c5] at H
     have c5b0 : decide (0 ≤ x8_1) = true := decide_eq_true c5
     clear c5
     by_cases c6 : x8_1 < (l0_0.length : Int)
     case neg => rw [if_neg c6] at H; exact absurd H (by simp)
     rw [if_pos c6] at H
     have c6b0 : decide (x8_1 < (l0_0.length : Int)) = true := decide_eq_true c6
     clear c6
     replace H := Option.bind_eq_some_iff.mp H
     obtain ⟨t308, A70, H⟩ := H
     replace H : (if t308 = true then (if x8_1 > 0 then (if 0 ≤ (wrap64 (x8_1 - 1)) then (if (wrap64 (x8_1 - 1)) < (l0_0.length : Int) then (if ((rd_T42 l0_0 (wrap64 (x8_1 - 1))).f0) ≥ ((rd_T42 l0_0 x8_1).f0) then (some false) else (host_Right.l0 k1 l0_0 (l0_0.length : Int) (wrap64 (x8_1 + 1)) l0_0)) else (none)) else (none)) else (host_Right.l0 k1 l0_0 (l0_0.length : Int) (wrap64 (x8_1 + 1)) l0_0)) else (some false)) = some r := H
     have A7 := Aside0.mk A70
     clear A70
     by_cases c8 : t308 = true
     · subst c8
       have H1 : (if x8_1 > 0 then (if 0 ≤ (wrap64 (x8_1 - 1)) then (if (wrap64 (x8_1 - 1)) < (l0_0.length : Int) then (if ((rd_T42 l0_0 (wrap64 (x8_1 - 1))).f0) ≥ ((rd_T42 l0_0 x8_1).f0) then (some false) else (host_Right.l0 k1 l0_0 (l0_0.length : Int) (wrap64 (x8_1 + 1)) l0_0)) else (none)) else (none)) else (host_Right.l0 k1 l0_0 (l0_0.length : Int) (wrap64 (x8_1 + 1)) l0_0)) = some r := by rw [if_pos rfl] at H; exact H
       clear H
       have H := H1
       clear H1
       by_cases c9 : x8_1 > 0
       · rw [if_pos c9] at H
         have c9b0 : decide (0 < x8_1) = true := decide_eq_true c9
         clear c9
         obtain ⟨ji10, hji10⟩ : ∃ j_ : Int, (wrap64 (x8_1 - 1)) = j_ := ⟨_, rfl⟩
         replace H : (if 0 ≤ (ji10) then (if (ji10) < (l0_0.length : Int) then (if ((rd_T42 l0_0 (ji10)).f0) ≥ ((rd_T42 l0_0 x8_1).f0) then (some false) else (host_Right.l0 k1 l0_0 (l0_0.length : Int) (wrap64 (x8_1 + 1)) l0_0)) else (none)) else (none)) = some r := by first | (rw [hji10] at H; exact H) | (simp only [hji10] at H ⊢; exact H)
         (try rw [hji10] at A7)
         have hji10w : (IntKind.i64.wrap (x8_1 - 1)) = ji10 := (i64_w _).trans hji10
         by_cases c11 : 0 ≤ (ji10)
         case neg => rw [if_neg c11] at H; exact absurd H (by simp)
         rw [if_pos c11] at H
         have c11b0 : decide (0 ≤ (ji10)) = true := decide_eq_true c11
         clear c11
         by_cases c12 : (ji10) < (l0_0.length : Int)
         case neg => rw [if_neg c12] at H; exact absurd H (by simp)
         rw [if_pos c12] at H
         have c12b0 : decide ((ji10) < (l0_0.length : Int)) = true := decide_eq_true c12
         clear c12
         by_cases c13 : ((rd_T42 l0_0 (ji10)).f0) ≥ ((rd_T42 l0_0 x8_1).f0)
         · rw [if_pos c13] at H
           have c13b0 : decide (((rd_T42 l0_0 x8_1).f0) ≤ ((rd_T42 l0_0 (ji10)).f0)) = true := decide_eq_true c13
           clear c13
           obtain rfl := Option.some.inj H
           have p306 : 0 ≤ (x8_1 : Int) := of_decide_eq_true (by first | (with_reducible assumption) | assumption)
           have q306 : x8_1 < (l0_0.length : Int) := of_decide_eq_true (by first | (with_reducible assumption) | assumption)
           obtain ⟨ad306, A306_3, c306_3, e306, hx306_0, hx306_1, hx306_2, hx306_3, hl306_3, hi306_3⟩ := at_T42 HR0_0.out x8_1 p306 q306
           cases e306
           replace hx306_0 := (HB.out.cell (World.block_lt_of_cell? w _ hx306_0)).trans hx306_0
           replace hx306_1 := (HB.out.cell (World.block_lt_of_cell? w _ hx306_1)).trans hx306_1
           replace hx306_2 := (HB.out.cell (World.block_lt_of_cell? w _ hx306_2)).trans hx306_2
           replace hx306_3 := (HB.out.cell (World.block_lt_of_cell? w _ hx306_3)).trans hx306_3
           have HR306_3 := Aside0.mk hi306_3
           have HC306_3 := Aside0.mk hl306_3
           clear hi306_3 hl306_3
           replace p306 := eq_true p306
           replace q306 := eq_true q306
           try go_wp2_with (first | ((with_reducible refine gate_dst (N := 4) rfl ?_); refine box_event ?hg (N := 4) ?hd (cs := #[.int .i64 0, .int .u32 0, .bool false, .slice none 0 0]) (t := 42) ?hr ?_; (case hd => rfl); (case hg => rfl); (case hr => first | (go_simp; done) | (go_simp; rfl)); intro gb307 hg w14 hbox hb; have n0_ := Aside0.mk (blk_below BK305.out hb); have n1_ := Aside0.mk (below_step HB.out hb); have n2_ := Aside0.mk (hbox); have n3_ := Aside0.mk ((by rw [hg]; exact (below_size HB.out) : w.heap.size ≤ gb307)); have n4_ := Aside0.mk ((by rw [hg]; exact (below_size HB.out) : w.heap.size ≤ gb307)); have n5_ := Aside0.mk ((by rw [hg]; exact Nat.ne_of_lt (blk_lt BK305.out) : gb305 ≠ gb307)); have n6_ := Aside0.mk ((by rw [hg]; exact Nat.ne_of_gt (blk_lt BK305.out) : gb307 ≠ gb305)); clear BK305; clear HB; have BK305 := n0_; have HB := n1_; have BK307 := n2_; have GW307 := n3_; have GE307 := n4_; have NB305_307 := n5_; have NB307_305 := n6_; clear n0_ n1_ n2_ n3_ n4_ n5_ n6_; clear hb hbox hg; have hnb15 := NB307_305.out; have hnc15 := NB305_307.out; obtain ⟨hcz16_0, hcz16_1, hcz16_2, hcz16_3, hfz16_0, hfz16_1, hfz16_2, hfz16_3⟩ := cf4 BK307.out))
           have n0_ : Aside0 (((((w14.setCell ⟨gb307, 0, none⟩ (.int .i64 ((rd_T42 l0_0 x8_1).f0))).setCell ⟨gb307, 1, none⟩ (.int .u32 ((rd_T42 l0_0 x8_1).f1))).setCell ⟨gb307, 2, none⟩ (.bool ((rd_T42 l0_0 x8_1).f2.f0))).setCell ⟨gb307, 3, none⟩ (.slice A306_3 ((rd_T42 l0_0 x8_1).f2.f1).length c306_3)).heap[gb305]? = some (.cells #[.slice (some ad306) l0_0.length c0_0] 40 (0, 0))) := ⟨by (with_reducible repeat (first | refine blk_drewN ?_ _ | refine blk_drew ?_ | refine blk_alloc ?_ _)); refine blk_far ?_ NB305_307.out _; (with_reducible repeat (first | refine blk_drewN ?_ _ | refine blk_drew ?_ | refine blk_alloc ?_ _)); refine blk_far ?_ NB305_307.out _; (with_reducible repeat (first | refine blk_drewN ?_ _ | refine blk_drew ?_ | refine blk_alloc ?_ _)); refine blk_far ?_ NB305_307.out _; (with_reducible repeat (first | refine blk_drewN ?_ _ | refine blk_drew ?_ | refine blk_alloc ?_ _)); refine blk_far ?_ NB305_307.out _; (with_reducible repeat (first | refine blk_drewN ?_ _ | refine blk_drew ?_ | refine blk_alloc ?_ _)); exact BK305.out⟩
           have n1_ : Aside0 (((((w14.setCell ⟨gb307, 0, none⟩ (.int .i64 ((rd_T42 l0_0 x8_1).f0))).setCell ⟨gb307, 1, none⟩ (.int .u32 ((rd_T42 l0_0 x8_1).f1))).setCell ⟨gb307, 2, none⟩ (.bool ((rd_T42 l0_0 x8_1).f2.f0))).setCell ⟨gb307, 3, none⟩ (.slice A306_3 ((rd_T42 l0_0 x8_1).f2.f1).length c306_3)).heap[gb307]? = some (.cells #[.int .i64 ((rd_T42 l0_0 x8_1).f0), .int .u32 ((rd_T42 l0_0 x8_1).f1), .bool ((rd_T42 l0_0 x8_1).f2.f0), .slice A306_3 ((rd_T42 l0_0 x8_1).f2.f1).length c306_3] 42 (0, 0))) := ⟨by (with_reducible repeat (first | refine blk_drewN ?_ _ | refine blk_drew ?_ | refine blk_alloc ?_ _)); refine blk_put (cs := #[.int .i64 ((rd_T42 l0_0 x8_1).f0), .int .u32 ((rd_T42 l0_0 x8_1).f1), .bool ((rd_T42 l0_0 x8_1).f2.f0), .slice none 0 0]) ?_ 3 _ rfl; (with_reducible repeat (first | refine blk_drewN ?_ _ | refine blk_drew ?_ | refine blk_alloc ?_ _)); refine blk_put (cs := #[.int .i64 ((rd_T42 l0_0 x8_1).f0), .int .u32 ((rd_T42 l0_0 x8_1).f1), .bool false, .slice none 0 0]) ?_ 2 _ rfl; (with_reducible repeat (first | refine blk_drewN ?_ _ | refine blk_drew ?_ | refine blk_alloc ?_ _)); refine blk_put (cs := #[.int .i64 ((rd_T42 l0_0 x8_1).f0), .int .u32 0, .bool false, .slice none 0 0]) ?_ 1 _ rfl; (with_reducible repeat (first | refine blk_drewN ?_ _ | refine blk_drew ?_ | refine blk_alloc ?_ _)); refine blk_put (cs := #[.int .i64 0, .int .u32 0, .bool false, .slice none 0 0]) ?_ 0 _ rfl; (with_reducible repeat (first | refine blk_drewN ?_ _ | refine blk_drew ?_ | refine blk_alloc ?_ _)); exact BK307.out⟩
           have n2_ : Aside0 (Below w.heap.size w ((((w14.setCell ⟨gb307, 0, none⟩ (.int .i64 ((rd_T42 l0_0 x8_1).f0))).setCell ⟨gb307, 1, none⟩ (.int .u32 ((rd_T42 l0_0 x8_1).f1))).setCell ⟨gb307, 2, none⟩ (.bool ((rd_T42 l0_0 x8_1).f2.f0))).setCell ⟨gb307, 3, none⟩ (.slice A306_3 ((rd_T42 l0_0 x8_1).f2.f1).length c306_3))) := ⟨by repeat (first | (with_reducible first | exact HB.out | apply below_alloc | apply pw_below_drewN | apply below_drew1 | refine below_set ?_ GE305.out | refine below_set ?_ GE307.out) | exact HB.out)⟩
           (try clear BK305)
           (try clear BK307)
           (try clear HB)
           generalize ((((w14.setCell ⟨gb307, 0, none⟩ (.int .i64 ((rd_T42 l0_0 x8_1).f0))).setCell ⟨gb307, 1, none⟩ (.int .u32 ((rd_T42 l0_0 x8_1).f1))).setCell ⟨gb307, 2, none⟩ (.bool ((rd_T42 l0_0 x8_1).f2.f0))).setCell ⟨gb307, 3, none⟩ (.slice A306_3 ((rd_T42 l0_0 x8_1).f2.f1).length c306_3)) = w17 at n0_ n1_ n2_ ⊢
           have BK305 := n0_
           have BK307 := n1_
           have HB := n2_
           clear n0_ n1_ n2_
           have n0_ := Aside0.mk (blk_drew BK305.out)
           have n1_ := Aside0.mk (blk_drew BK307.out)
           have n2_ := Aside0.mk (below_drew1 HB.out)
           clear BK305
           clear BK307
           clear HB
           have BK305 := n0_
           have BK307 := n1_
           have HB := n2_
           clear n0_ n1_ n2_
           have p309 : 0 ≤ ((ji10) : Int) := of_decide_eq_true (by first | (with_reducible assumption) | assumption)
           have q309 : (ji10) < (l0_0.length : Int) := of_decide_eq_true (by first | (with_reducible assumption) | assumption)
           obtain ⟨ad309, A309_3, c309_3, e309, hx309_0, hx309_1, hx309_2, hx309_3, hl309_3, hi309_3⟩ := at_T42 HR0_0.out (ji10) p309 q309
           have hw309_3 := hx309_3
           have hw309_2 := hx309_2
           have hw309_1 := hx309_1
           have hw309_0 := hx309_0
           obtain rfl : ad306 = ad309 := (by injection e309)
           replace hx309_0 := (HB.out.cell (World.block_lt_of_cell? w _ hx309_0)).trans hx309_0
           replace hx309_1 := (HB.out.cell (World.block_lt_of_cell? w _ hx309_1)).trans hx309_1
           replace hx309_2 := (HB.out.cell (World.block_lt_of_cell? w _ hx309_2)).trans hx309_2
           replace hx309_3 := (HB.out.cell (World.block_lt_of_cell? w _ hx309_3)).trans hx309_3
           have HR309_3 := Aside0.mk hi309_3
           have HC309_3 := Aside0.mk hl309_3
           clear hi309_3 hl309_3
           replace p309 := eq_true p309
           replace q309 := eq_true q309
           refine start_ (n := 19) (S := fun w' => w'.cell? ⟨gb307, 0, none⟩ = some (.int .i64 ((rd_T42 l0_0 x8_1).f0)) ∧ w'.cell? ⟨gb307, 1, none⟩ = some (.int .u32 ((rd_T42 l0_0 x8_1).f1)) ∧ w'.cell? ⟨gb307, 2, none⟩ = some (.bool ((rd_T42 l0_0 x8_1).f2.f0)) ∧ w'.cell? ⟨gb307, 3, none⟩ = some (.slice A306_3 ((rd_T42 l0_0 x8_1).f2.f1).length c306_3) ∧ w'.cell? ⟨gb305, 0, none⟩ = some (.slice (some ad306) l0_0.length c0_0) ∧ w'.cell? (ad306.add (((ji10)).toNat * 4)) = some (.int .i64 ((rd_T42 l0_0 (ji10)).f0)) ∧ w'.cell? ⟨(ad306.add (((ji10)).toNat * 4)).block, (ad306.add (((ji10)).toNat * 4)).off + 1, none⟩ = some (.int .u32 ((rd_T42 l0_0 (ji10)).f1)) ∧ w'.cell? ⟨(ad306.add (((ji10)).toNat * 4)).block, (ad306.add (((ji10)).toNat * 4)).off + 2, none⟩ = some (.bool ((rd_T42 l0_0 (ji10)).f2.f0)) ∧ w'.cell? ⟨(ad306.add (((ji10)).toNat * 4)).block, (ad306.add (((ji10)).toNat * 4)).off + 3, none⟩ = some (.slice A309_3 ((rd_T42 l0_0 (ji10)).f2.f1).length c309_3)) (ds := []) #[false, false, false, false, false, false, false, false, false, false, false, false, false, false, false, false, false, false, false] (by kernel_rfl) rfl rfl ⟨(blk_cell BK307.out 0).trans rfl, (blk_cell BK307.out 1).trans rfl, (blk_cell BK307.out 2).trans rfl, (blk_cell BK307.out 3).trans rfl, (blk_cell BK305.out 0).trans rfl, ((HB.out.cell (World.block_lt_of_cell? w _ hw309_0)).trans hw309_0), ((HB.out.cell (World.block_lt_of_cell? w _ hw309_1)).trans hw309_1), ((HB.out.cell (World.block_lt_of_cell? w _ hw309_2)).trans hw309_2), ((HB.out.cell (World.block_lt_of_cell? w _ hw309_3)).trans hw309_3)⟩ (fun hHeld => ?_); refine with_tabW host_Right.tab4 host_Right.bits4 (fun HT_ HW_ => ?_)
           generalize w17.drew = w18 at BK305 BK307 HB HR309_3 hx309_0 hx309_1 hx309_2 hx309_3 hHeld ⊢
           refine take_ (i := 0) (N := some 13) (v := ?_) (a' := ?_) (bb 19 1) rfl rfl (take_ofW HT_.out HW_.out (by kernel_rfl)) (fun _ _ _ h => h) (Or.inl ⟨by rfl, ?_⟩) hHeld ?_ ?_
           rotate_left
           · rintro w' ⟨s0, s1, s2, s3, s4, s5, s6, s7, s8⟩
             go_simp
             with_reducible rfl
           rotate_left
           · simp only [Act.put, List.setIfInBounds_toArray, List.set_cons_zero, List.set_cons_succ, i64_w, i32_w]
             rfl
           refine one_ (i := 1) (N := some 14) (bb 19 3) rfl rfl (one_of HT_.out (by kernel_rfl)) (by decide) (fun K hK => ?_)
           refine goes_ Try.func30 (by kernel_rfl) rfl #[.agg #[.int .i64 ((rd_T42 l0_0 x8_1).f0), .int .u32 ((rd_T42 l0_0 x8_1).f1), .bool ((rd_T42 l0_0 x8_1).f2.f0), .slice A306_3 ((rd_T42 l0_0 x8_1).f2.f1).length c306_3]] (by rfl) rfl rfl (by (try simp only [List.map_toArray, List.map_cons, List.map_nil]); first | done | rfl | (simp only [List.length_drop, List.length_take]; rfl)) ?_
           with_reducible refine (host_right.calls k1 ((rd_T42 l0_0 x8_1).f0) ((rd_T42 l0_0 x8_1).f1) ((rd_T42 l0_0 x8_1).f2.f0) _ _ ((rd_T42 l0_0 x8_1).f2.f1) true _ ?side1 ?side2 A7.out).mono ?_
           (case side1 => repeat (first | exact (Kd.C_below HR306_3.out HB.out) | (with_reducible refine Kd.C_alloc ?_ _) | (with_reducible refine Kd.C_drewN ?_ _) | (with_reducible refine Kd.C_drew ?_)))
           (case side2 => exact HC306_3.out)
           rintro e w19 ⟨rfl, hb⟩
           refine ⟨_, rfl, ?_⟩
           have n0_ := Aside0.mk (blk_below BK305.out hb)
           have n1_ := Aside0.mk (blk_below BK307.out hb)
           have n2_ := Aside0.mk (below_step HB.out hb)
           clear BK305
           clear BK307
           clear HB
           have BK305 := n0_
           have BK307 := n1_
           have HB := n2_
           clear n0_ n1_ n2_
           (try clear hb)
           (try clear hb2)
           (try clear hk)
           (try clear hi)
           refine hK.out _ _ ⟨(blk_cell BK307.out 0).trans rfl, (blk_cell BK307.out 1).trans rfl, (blk_cell BK307.out 2).trans rfl, (blk_cell BK307.out 3).trans rfl, (blk_cell BK305.out 0).trans rfl, ((HB.out.cell (World.block_lt_of_cell? w _ hw309_0)).trans hw309_0), ((HB.out.cell (World.block_lt_of_cell? w _ hw309_1)).trans hw309_1), ((HB.out.cell (World.block_lt_of_cell? w _ hw309_2)).trans hw309_2), ((HB.out.cell (World.block_lt_of_cell? w _ hw309_3)).trans hw309_3)⟩ (fun hHeld => ?_)
           clear hK K
           refine norm_ (a' := ?_) ?_ ?_
           rotate_left
           · show Act.put _ (some 14) _ = _
             simp only [Act.put, List.setIfInBounds_toArray, List.set_cons_zero, List.set_cons_succ, i64_w, i32_w]
             rfl
           refine pu 2 15 (bb 19 7) rfl rfl (any_of HT_.out (by kernel_rfl)) (fun _ _ _ h => h) (by rfl) (fun w' => by go_simp; with_reducible rfl) (by simp only [Act.put, List.setIfInBounds_toArray, List.set_cons_zero, List.set_cons_succ, i64_w, i32_w]; rfl) ?_
           refine pu 3 16 (bb 19 15) rfl rfl (any_of HT_.out (by kernel_rfl)) (fun _ _ _ h => h) (by rfl) (fun w' => by go_simp; with_reducible rfl) (by simp only [Act.put, List.setIfInBounds_toArray, List.set_cons_zero, List.set_cons_succ, i64_w, i32_w]; rfl) ?_
           refine pu 4 17 (bb 19 31) rfl rfl (any_of HT_.out (by kernel_rfl)) (fun _ _ _ h => h) (by rfl) (fun w' => by go_simp; with_reducible rfl) (by simp only [Act.put, List.setIfInBounds_toArray, List.set_cons_zero, List.set_cons_succ, i64_w, i32_w]; rfl) ?_
           refine pu 5 18 (bb 19 63) rfl rfl (any_of HT_.out (by kernel_rfl)) (fun _ _ _ h => h) (by rfl) (fun w' => by go_simp; with_reducible rfl) (by simp only [Act.put, List.setIfInBounds_toArray, List.set_cons_zero, List.set_cons_succ, i64_w, i32_w]; rfl) ?_
           refine pu 6 19 (bb 19 127) rfl rfl (any_of HT_.out (by kernel_rfl)) (fun _ _ _ h => h) (by rfl) (fun w' => by go_simp; with_reducible rfl) (by simp only [Act.put, List.setIfInBounds_toArray, List.set_cons_zero, List.set_cons_succ, i64_w, i32_w]; rfl) ?_
           refine pu 7 20 (bb 19 255) rfl rfl (any_of HT_.out (by kernel_rfl)) (fun _ _ _ h => h) (by rfl) (fun w' => by go_simp; with_reducible rfl) (by simp only [Act.put, List.setIfInBounds_toArray, List.set_cons_zero, List.set_cons_succ, i64_w, i32_w]; rfl) ?_
           refine pu 9 22 (bb 19 767) rfl rfl (any_of HT_.out (by kernel_rfl)) (fun _ _ _ h => h) (by rfl) (fun w' => by go_simp; with_reducible rfl) (by simp only [Act.put, List.setIfInBounds_toArray, List.set_cons_zero, List.set_cons_succ, i64_w, i32_w]; rfl) ?_
           refine pu 10 23 (bb 19 1791) rfl rfl (any_of HT_.out (by kernel_rfl)) (fun _ _ _ h => h) (by rfl) (fun w' => by go_simp; with_reducible rfl) (by simp only [Act.put, List.setIfInBounds_toArray, List.set_cons_zero, List.set_cons_succ, i64_w, i32_w]; rfl) ?_
           refine pu 14 27 (bb 19 18175) rfl rfl (any_of HT_.out (by kernel_rfl)) (fun _ _ _ h => h) (by rfl) (fun w' => by go_simp; with_reducible rfl) (by simp only [Act.put, List.setIfInBounds_toArray, List.set_cons_zero, List.set_cons_succ, i64_w, i32_w]; rfl) ?_
           refine take_ (i := 8) (N := some 21) (v := ?_) (a' := ?_) (bb 19 18431) rfl rfl (take_ofW HT_.out HW_.out (by kernel_rfl)) (fun _ _ _ h => h) (Or.inl ⟨by rfl, ?_⟩) hHeld ?_ ?_
           rotate_left
           · rintro w' ⟨s0, s1, s2, s3, s4, s5, s6, s7, s8⟩
             go_simp
             with_reducible rfl
           rotate_left
           · simp only [Act.put, List.setIfInBounds_toArray, List.set_cons_zero, List.set_cons_succ, i64_w, i32_w]
             rfl
           refine pu 11 24 (bb 19 20479) rfl rfl (any_of HT_.out (by kernel_rfl)) (fun _ _ _ h => h) (by rfl) (fun w' => by go_simp; with_reducible rfl) (by simp only [Act.put, List.setIfInBounds_toArray, List.set_cons_zero, List.set_cons_succ, i64_w, i32_w]; rfl) ?_
           refine pu 12 25 (bb 19 24575) rfl rfl (any_of HT_.out (by kernel_rfl)) (fun _ _ _ h => h) (by rfl) (fun w' => by go_simp; with_reducible rfl) (by simp only [Act.put, List.setIfInBounds_toArray, List.set_cons_zero, List.set_cons_succ, i64_w, i32_w]; rfl) ?_
           refine take_ (i := 13) (N := some 26) (v := ?_) (a' := ?_) (bb 19 32767) rfl rfl (take_ofW HT_.out HW_.out (by kernel_rfl)) (fun _ _ _ h => h) (Or.inl ⟨by rfl, ?_⟩) hHeld ?_ ?_
           rotate_left
           · rintro w' ⟨s0, s1, s2, s3, s4, s5, s6, s7, s8⟩
             go_simp
             with_reducible rfl
           rotate_left
           · simp only [Act.put, List.setIfInBounds_toArray, List.set_cons_zero, List.set_cons_succ, i64_w, i32_w]
             rfl
           refine take_ (i := 15) (N := some 28) (v := ?_) (a' := ?_) (bb 19 65535) rfl rfl (take_ofW HT_.out HW_.out (by kernel_rfl)) (fun _ _ _ h => h) (Or.inl ⟨by rfl, ?_⟩) hHeld ?_ ?_
           rotate_left
           · rintro w' ⟨s0, s1, s2, s3, s4, s5, s6, s7, s8⟩
             go_simp
             with_reducible rfl
           rotate_left
           · simp only [Act.put, List.setIfInBounds_toArray, List.set_cons_zero, List.set_cons_succ, i64_w, i32_w]
             rfl
           refine pu 16 29 (bb 19 131071) rfl rfl (any_of HT_.out (by kernel_rfl)) (fun _ _ _ h => h) (by rfl) (fun w' => by go_simp; with_reducible rfl) (by simp only [Act.put, List.setIfInBounds_toArray, List.set_cons_zero, List.set_cons_succ, i64_w, i32_w]; rfl) ?_
           refine pu 17 30 (bb 19 262143) rfl rfl (any_of HT_.out (by kernel_rfl)) (fun _ _ _ h => h) (by rfl) (fun w' => by go_simp; with_reducible rfl) (by simp only [Act.put, List.setIfInBounds_toArray, List.set_cons_zero, List.set_cons_succ, i64_w, i32_w]; rfl) ?_
           refine pu 18 31 (bb 19 524287) rfl rfl (any_of HT_.out (by kernel_rfl)) (fun _ _ _ h => h) (by rfl) (fun w' => by go_simp; with_reducible rfl) (by simp only [Act.put, List.setIfInBounds_toArray, List.set_cons_zero, List.set_cons_succ, i64_w, i32_w]; rfl) ?_
           refine done_ (done_of HT_.out (by kernel_rfl)) ?_
           try go_wp2
           go_ret
           exact ⟨by first | rfl | (simp [errW_none, errW_some] <;> rfl) | (simp only [← hji10]; first | rfl | (simp [errW_none, errW_some] <;> rfl)) | (simp [*, errW_none, errW_some] <;> rfl), by repeat (first | (with_reducible first | exact HB.out | apply below_alloc | apply pw_below_drewN | apply below_drew1 | refine below_set ?_ GE305.out | refine below_set ?_ GE307.out) | exact HB.out)⟩
         · rw [if_neg c13] at H
           have c13b0 : decide (((rd_T42 l0_0 x8_1).f0) ≤ ((rd_T42 l0_0 (ji10)).f0)) = false := decide_eq_false c13
           clear c13
           have H' := Aside0.mk H
           clear H
           have p306 : 0 ≤ (x8_1 : Int) := of_decide_eq_true (by first | (with_reducible assumption) | assumption)
           have q306 : x8_1 < (l0_0.length : Int) := of_decide_eq_true (by first | (with_reducible assumption) | assumption)
           obtain ⟨ad306, A306_3, c306_3, e306, hx306_0, hx306_1, hx306_2, hx306_3, hl306_3, hi306_3⟩ := at_T42 HR0_0.out x8_1 p306 q306
           cases e306
           replace hx306_0 := (HB.out.cell (World.block_lt_of_cell? w _ hx306_0)).trans hx306_0
           replace hx306_1 := (HB.out.cell (World.block_lt_of_cell? w _ hx306_1)).trans hx306_1
           replace hx306_2 := (HB.out.cell (World.block_lt_of_cell? w _ hx306_2)).trans hx306_2
           replace hx306_3 := (HB.out.cell (World.block_lt_of_cell? w _ hx306_3)).trans hx306_3
           have HR306_3 := Aside0.mk hi306_3
           have HC306_3 := Aside0.mk hl306_3
           clear hi306_3 hl306_3
           replace p306 := eq_true p306
           replace q306 := eq_true q306
           try go_wp2_with (first | ((with_reducible refine gate_dst (N := 4) rfl ?_); refine box_event ?hg (N := 4) ?hd (cs := #[.int .i64 0, .int .u32 0, .bool false, .slice none 0 0]) (t := 42) ?hr ?_; (case hd => rfl); (case hg => rfl); (case hr => first | (go_simp; done) | (go_simp; rfl)); intro gb307 hg w20 hbox hb; have n0_ := Aside0.mk (blk_below BK305.out hb); have n1_ := Aside0.mk (below_step HB.out hb); have n2_ := Aside0.mk (hbox); have n3_ := Aside0.mk ((by rw [hg]; exact (below_size HB.out) : w.heap.size ≤ gb307)); have n4_ := Aside0.mk ((by rw [hg]; exact (below_size HB.out) : w.heap.size ≤ gb307)); have n5_ := Aside0.mk ((by rw [hg]; exact Nat.ne_of_lt (blk_lt BK305.out) : gb305 ≠ gb307)); have n6_ := Aside0.mk ((by rw [hg]; exact Nat.ne_of_gt (blk_lt BK305.out) : gb307 ≠ gb305)); clear BK305; clear HB; have BK305 := n0_; have HB := n1_; have BK307 := n2_; have GW307 := n3_; have GE307 := n4_; have NB305_307 := n5_; have NB307_305 := n6_; clear n0_ n1_ n2_ n3_ n4_ n5_ n6_; clear hb hbox hg; have hnb21 := NB307_305.out; have hnc21 := NB305_307.out; obtain ⟨hcz22_0, hcz22_1, hcz22_2, hcz22_3, hfz22_0, hfz22_1, hfz22_2, hfz22_3⟩ := cf4 BK307.out))
           have n0_ : Aside0 (((((w20.setCell ⟨gb307, 0, none⟩ (.int .i64 ((rd_T42 l0_0 x8_1).f0))).setCell ⟨gb307, 1, none⟩ (.int .u32 ((rd_T42 l0_0 x8_1).f1))).setCell ⟨gb307, 2, none⟩ (.bool ((rd_T42 l0_0 x8_1).f2.f0))).setCell ⟨gb307, 3, none⟩ (.slice A306_3 ((rd_T42 l0_0 x8_1).f2.f1).length c306_3)).heap[gb305]? = some (.cells #[.slice (some ad306) l0_0.length c0_0] 40 (0, 0))) := ⟨by (with_reducible repeat (first | refine blk_drewN ?_ _ | refine blk_drew ?_ | refine blk_alloc ?_ _)); refine blk_far ?_ NB305_307.out _; (with_reducible repeat (first | refine blk_drewN ?_ _ | refine blk_drew ?_ | refine blk_alloc ?_ _)); refine blk_far ?_ NB305_307.out _; (with_reducible repeat (first | refine blk_drewN ?_ _ | refine blk_drew ?_ | refine blk_alloc ?_ _)); refine blk_far ?_ NB305_307.out _; (with_reducible repeat (first | refine blk_drewN ?_ _ | refine blk_drew ?_ | refine blk_alloc ?_ _)); refine blk_far ?_ NB305_307.out _; (with_reducible repeat (first | refine blk_drewN ?_ _ | refine blk_drew ?_ | refine blk_alloc ?_ _)); exact BK305.out⟩
           have n1_ : Aside0 (((((w20.setCell ⟨gb307, 0, none⟩ (.int .i64 ((rd_T42 l0_0 x8_1).f0))).setCell ⟨gb307, 1, none⟩ (.int .u32 ((rd_T42 l0_0 x8_1).f1))).setCell ⟨gb307, 2, none⟩ (.bool ((rd_T42 l0_0 x8_1).f2.f0))).setCell ⟨gb307, 3, none⟩ (.slice A306_3 ((rd_T42 l0_0 x8_1).f2.f1).length c306_3)).heap[gb307]? = some (.cells #[.int .i64 ((rd_T42 l0_0 x8_1).f0), .int .u32 ((rd_T42 l0_0 x8_1).f1), .bool ((rd_T42 l0_0 x8_1).f2.f0), .slice A306_3 ((rd_T42 l0_0 x8_1).f2.f1).length c306_3] 42 (0, 0))) := ⟨by (with_reducible repeat (first | refine blk_drewN ?_ _ | refine blk_drew ?_ | refine blk_alloc ?_ _)); refine blk_put (cs := #[.int .i64 ((rd_T42 l0_0 x8_1).f0), .int .u32 ((rd_T42 l0_0 x8_1).f1), .bool ((rd_T42 l0_0 x8_1).f2.f0), .slice none 0 0]) ?_ 3 _ rfl; (with_reducible repeat (first | refine blk_drewN ?_ _ | refine blk_drew ?_ | refine blk_alloc ?_ _)); refine blk_put (cs := #[.int .i64 ((rd_T42 l0_0 x8_1).f0), .int .u32 ((rd_T42 l0_0 x8_1).f1), .bool false, .slice none 0 0]) ?_ 2 _ rfl; (with_reducible repeat (first | refine blk_drewN ?_ _ | refine blk_drew ?_ | refine blk_alloc ?_ _)); refine blk_put (cs := #[.int .i64 ((rd_T42 l0_0 x8_1).f0), .int .u32 0, .bool false, .slice none 0 0]) ?_ 1 _ rfl; (with_reducible repeat (first | refine blk_drewN ?_ _ | refine blk_drew ?_ | refine blk_alloc ?_ _)); refine blk_put (cs := #[.int .i64 0, .int .u32 0, .bool false, .slice none 0 0]) ?_ 0 _ rfl; (with_reducible repeat (first | refine blk_drewN ?_ _ | refine blk_drew ?_ | refine blk_alloc ?_ _)); exact BK307.out⟩
           have n2_ : Aside0 (Below w.heap.size w ((((w20.setCell ⟨gb307, 0, none⟩ (.int .i64 ((rd_T42 l0_0 x8_1).f0))).setCell ⟨gb307, 1, none⟩ (.int .u32 ((rd_T42 l0_0 x8_1).f1))).setCell ⟨gb307, 2, none⟩ (.bool ((rd_T42 l0_0 x8_1).f2.f0))).setCell ⟨gb307, 3, none⟩ (.slice A306_3 ((rd_T42 l0_0 x8_1).f2.f1).length c306_3))) := ⟨by repeat (first | (with_reducible first | exact HB.out | apply below_alloc | apply pw_below_drewN | apply below_drew1 | refine below_set ?_ GE305.out | refine below_set ?_ GE307.out) | exact HB.out)⟩
           (try clear BK305)
           (try clear BK307)
           (try clear HB)
           generalize ((((w20.setCell ⟨gb307, 0, none⟩ (.int .i64 ((rd_T42 l0_0 x8_1).f0))).setCell ⟨gb307, 1, none⟩ (.int .u32 ((rd_T42 l0_0 x8_1).f1))).setCell ⟨gb307, 2, none⟩ (.bool ((rd_T42 l0_0 x8_1).f2.f0))).setCell ⟨gb307, 3, none⟩ (.slice A306_3 ((rd_T42 l0_0 x8_1).f2.f1).length c306_3)) = w23 at n0_ n1_ n2_ ⊢
           have BK305 := n0_
           have BK307 := n1_
           have HB := n2_
           clear n0_ n1_ n2_
           have n0_ := Aside0.mk (blk_drew BK305.out)
           have n1_ := Aside0.mk (blk_drew BK307.out)
           have n2_ := Aside0.mk (below_drew1 HB.out)
           clear BK305
           clear BK307
           clear HB
           have BK305 := n0_
           have BK307 := n1_
           have HB := n2_
           clear n0_ n1_ n2_
           have p309 : 0 ≤ ((ji10) : Int) := of_decide_eq_true (by first | (with_reducible assumption) | assumption)
           have q309 : (ji10) < (l0_0.length : Int) := of_decide_eq_true (by first | (with_reducible assumption) | assumption)
           obtain ⟨ad309, A309_3, c309_3, e309, hx309_0, hx309_1, hx309_2, hx309_3, hl309_3, hi309_3⟩ := at_T42 HR0_0.out (ji10) p309 q309
           have hw309_3 := hx309_3
           have hw309_2 := hx309_2
           have hw309_1 := hx309_1
           have hw309_0 := hx309_0
           obtain rfl : ad306 = ad309 := (by injection e309)
           replace hx309_0 := (HB.out.cell (World.block_lt_of_cell? w _ hx309_0)).trans hx309_0
           replace hx309_1 := (HB.out.cell (World.block_lt_of_cell? w _ hx309_1)).trans hx309_1
           replace hx309_2 := (HB.out.cell (World.block_lt_of_cell? w _ hx309_2)).trans hx309_2
           replace hx309_3 := (HB.out.cell (World.block_lt_of_cell? w _ hx309_3)).trans hx309_3
           have HR309_3 := Aside0.mk hi309_3
           have HC309_3 := Aside0.mk hl309_3
           clear hi309_3 hl309_3
           replace p309 := eq_true p309
           replace q309 := eq_true q309
           refine start_ (n := 19) (S := fun w' => w'.cell? ⟨gb307, 0, none⟩ = some (.int .i64 ((rd_T42 l0_0 x8_1).f0)) ∧ w'.cell? ⟨gb307, 1, none⟩ = some (.int .u32 ((rd_T42 l0_0 x8_1).f1)) ∧ w'.cell? ⟨gb307, 2, none⟩ = some (.bool ((rd_T42 l0_0 x8_1).f2.f0)) ∧ w'.cell? ⟨gb307, 3, none⟩ = some (.slice A306_3 ((rd_T42 l0_0 x8_1).f2.f1).length c306_3) ∧ w'.cell? ⟨gb305, 0, none⟩ = some (.slice (some ad306) l0_0.length c0_0) ∧ w'.cell? (ad306.add (((ji10)).toNat * 4)) = some (.int .i64 ((rd_T42 l0_0 (ji10)).f0)) ∧ w'.cell? ⟨(ad306.add (((ji10)).toNat * 4)).block, (ad306.add (((ji10)).toNat * 4)).off + 1, none⟩ = some (.int .u32 ((rd_T42 l0_0 (ji10)).f1)) ∧ w'.cell? ⟨(ad306.add (((ji10)).toNat * 4)).block, (ad306.add (((ji10)).toNat * 4)).off + 2, none⟩ = some (.bool ((rd_T42 l0_0 (ji10)).f2.f0)) ∧ w'.cell? ⟨(ad306.add (((ji10)).toNat * 4)).block, (ad306.add (((ji10)).toNat * 4)).off + 3, none⟩ = some (.slice A309_3 ((rd_T42 l0_0 (ji10)).f2.f1).length c309_3)) (ds := []) #[false, false, false, false, false, false, false, false, false, false, false, false, false, false, false, false, false, false, false] (by kernel_rfl) rfl rfl ⟨(blk_cell BK307.out 0).trans rfl, (blk_cell BK307.out 1).trans rfl, (blk_cell BK307.out 2).trans rfl, (blk_cell BK307.out 3).trans rfl, (blk_cell BK305.out 0).trans rfl, ((HB.out.cell (World.block_lt_of_cell? w _ hw309_0)).trans hw309_0), ((HB.out.cell (World.block_lt_of_cell? w _ hw309_1)).trans hw309_1), ((HB.out.cell (World.block_lt_of_cell? w _ hw309_2)).trans hw309_2), ((HB.out.cell (World.block_lt_of_cell? w _ hw309_3)).trans hw309_3)⟩ (fun hHeld => ?_); refine with_tabW host_Right.tab4 host_Right.bits4 (fun HT_ HW_ => ?_)
           generalize w23.drew = w24 at BK305 BK307 HB HR309_3 hx309_0 hx309_1 hx309_2 hx309_3 hHeld ⊢
           refine take_ (i := 0) (N := some 13) (v := ?_) (a' := ?_) (bb 19 1) rfl rfl (take_ofW HT_.out HW_.out (by kernel_rfl)) (fun _ _ _ h => h) (Or.inl ⟨by rfl, ?_⟩) hHeld ?_ ?_
           rotate_left
           · rintro w' ⟨s0, s1, s2, s3, s4, s5, s6, s7, s8⟩
             go_simp
             with_reducible rfl
           rotate_left
           · simp only [Act.put, List.setIfInBounds_toArray, List.set_cons_zero, List.set_cons_succ, i64_w, i32_w]
             rfl
           refine one_ (i := 1) (N := some 14) (bb 19 3) rfl rfl (one_of HT_.out (by kernel_rfl)) (by decide) (fun K hK => ?_)
           refine goes_ Try.func30 (by kernel_rfl) rfl #[.agg #[.int .i64 ((rd_T42 l0_0 x8_1).f0), .int .u32 ((rd_T42 l0_0 x8_1).f1), .bool ((rd_T42 l0_0 x8_1).f2.f0), .slice A306_3 ((rd_T42 l0_0 x8_1).f2.f1).length c306_3]] (by rfl) rfl rfl (by (try simp only [List.map_toArray, List.map_cons, List.map_nil]); first | done | rfl | (simp only [List.length_drop, List.length_take]; rfl)) ?_
           with_reducible refine (host_right.calls k1 ((rd_T42 l0_0 x8_1).f0) ((rd_T42 l0_0 x8_1).f1) ((rd_T42 l0_0 x8_1).f2.f0) _ _ ((rd_T42 l0_0 x8_1).f2.f1) true _ ?side1 ?side2 A7.out).mono ?_
           (case side1 => repeat (first | exact (Kd.C_below HR306_3.out HB.out) | (with_reducible refine Kd.C_alloc ?_ _) | (with_reducible refine Kd.C_drewN ?_ _) | (with_reducible refine Kd.C_drew ?_)))
           (case side2 => exact HC306_3.out)
           rintro e w25 ⟨rfl, hb⟩
           refine ⟨_, rfl, ?_⟩
           have n0_ := Aside0.mk (blk_below BK305.out hb)
           have n1_ := Aside0.mk (blk_below BK307.out hb)
           have n2_ := Aside0.mk (below_step HB.out hb)
           clear BK305
           clear BK307
           clear HB
           have BK305 := n0_
           have BK307 := n1_
           have HB := n2_
           clear n0_ n1_ n2_
           (try clear hb)
           (try clear hb2)
           (try clear hk)
           (try clear hi)
           refine hK.out _ _ ⟨(blk_cell BK307.out 0).trans rfl, (blk_cell BK307.out 1).trans rfl, (blk_cell BK307.out 2).trans rfl, (blk_cell BK307.out 3).trans rfl, (blk_cell BK305.out 0).trans rfl, ((HB.out.cell (World.block_lt_of_cell? w _ hw309_0)).trans hw309_0), ((HB.out.cell (World.block_lt_of_cell? w _ hw309_1)).trans hw309_1), ((HB.out.cell (World.block_lt_of_cell? w _ hw309_2)).trans hw309_2), ((HB.out.cell (World.block_lt_of_cell? w _ hw309_3)).trans hw309_3)⟩ (fun hHeld => ?_)
           clear hK K
           refine norm_ (a' := ?_) ?_ ?_
           rotate_left
           · show Act.put _ (some 14) _ = _
             simp only [Act.put, List.setIfInBounds_toArray, List.set_cons_zero, List.set_cons_succ, i64_w, i32_w]
             rfl
           refine pu 2 15 (bb 19 7) rfl rfl (any_of HT_.out (by kernel_rfl)) (fun _ _ _ h => h) (by rfl) (fun w' => by go_simp; with_reducible rfl) (by simp only [Act.put, List.setIfInBounds_toArray, List.set_cons_zero, List.set_cons_succ, i64_w, i32_w]; rfl) ?_
           refine pu 3 16 (bb 19 15) rfl rfl (any_of HT_.out (by kernel_rfl)) (fun _ _ _ h => h) (by rfl) (fun w' => by go_simp; with_reducible rfl) (by simp only [Act.put, List.setIfInBounds_toArray, List.set_cons_zero, List.set_cons_succ, i64_w, i32_w]; rfl) ?_
           refine pu 4 17 (bb 19 31) rfl rfl (any_of HT_.out (by kernel_rfl)) (fun _ _ _ h => h) (by rfl) (fun w' => by go_simp; with_reducible rfl) (by simp only [Act.put, List.setIfInBounds_toArray, List.set_cons_zero, List.set_cons_succ, i64_w, i32_w]; rfl) ?_
           refine pu 5 18 (bb 19 63) rfl rfl (any_of HT_.out (by kernel_rfl)) (fun _ _ _ h => h) (by rfl) (fun w' => by go_simp; with_reducible rfl) (by simp only [Act.put, List.setIfInBounds_toArray, List.set_cons_zero, List.set_cons_succ, i64_w, i32_w]; rfl) ?_
           refine pu 6 19 (bb 19 127) rfl rfl (any_of HT_.out (by kernel_rfl)) (fun _ _ _ h => h) (by rfl) (fun w' => by go_simp; with_reducible rfl) (by simp only [Act.put, List.setIfInBounds_toArray, List.set_cons_zero, List.set_cons_succ, i64_w, i32_w]; rfl) ?_
           refine pu 7 20 (bb 19 255) rfl rfl (any_of HT_.out (by kernel_rfl)) (fun _ _ _ h => h) (by rfl) (fun w' => by go_simp; with_reducible rfl) (by simp only [Act.put, List.setIfInBounds_toArray, List.set_cons_zero, List.set_cons_succ, i64_w, i32_w]; rfl) ?_
           refine pu 9 22 (bb 19 767) rfl rfl (any_of HT_.out (by kernel_rfl)) (fun _ _ _ h => h) (by rfl) (fun w' => by go_simp; with_reducible rfl) (by simp only [Act.put, List.setIfInBounds_toArray, List.set_cons_zero, List.set_cons_succ, i64_w, i32_w]; rfl) ?_
           refine pu 10 23 (bb 19 1791) rfl rfl (any_of HT_.out (by kernel_rfl)) (fun _ _ _ h => h) (by rfl) (fun w' => by go_simp; with_reducible rfl) (by simp only [Act.put, List.setIfInBounds_toArray, List.set_cons_zero, List.set_cons_succ, i64_w, i32_w]; rfl) ?_
           refine pu 14 27 (bb 19 18175) rfl rfl (any_of HT_.out (by kernel_rfl)) (fun _ _ _ h => h) (by rfl) (fun w' => by go_simp; with_reducible rfl) (by simp only [Act.put, List.setIfInBounds_toArray, List.set_cons_zero, List.set_cons_succ, i64_w, i32_w]; rfl) ?_
           refine take_ (i := 8) (N := some 21) (v := ?_) (a' := ?_) (bb 19 18431) rfl rfl (take_ofW HT_.out HW_.out (by kernel_rfl)) (fun _ _ _ h => h) (Or.inl ⟨by rfl, ?_⟩) hHeld ?_ ?_
           rotate_left
           · rintro w' ⟨s0, s1, s2, s3, s4, s5, s6, s7, s8⟩
             go_simp
             with_reducible rfl
           rotate_left
           · simp only [Act.put, List.setIfInBounds_toArray, List.set_cons_zero, List.set_cons_succ, i64_w, i32_w]
             rfl
           refine pu 11 24 (bb 19 20479) rfl rfl (any_of HT_.out (by kernel_rfl)) (fun _ _ _ h => h) (by rfl) (fun w' => by go_simp; with_reducible rfl) (by simp only [Act.put, List.setIfInBounds_toArray, List.set_cons_zero, List.set_cons_succ, i64_w, i32_w]; rfl) ?_
           refine pu 12 25 (bb 19 24575) rfl rfl (any_of HT_.out (by kernel_rfl)) (fun _ _ _ h => h) (by rfl) (fun w' => by go_simp; with_reducible rfl) (by simp only [Act.put, List.setIfInBounds_toArray, List.set_cons_zero, List.set_cons_succ, i64_w, i32_w]; rfl) ?_
           refine take_ (i := 13) (N := some 26) (v := ?_) (a' := ?_) (bb 19 32767) rfl rfl (take_ofW HT_.out HW_.out (by kernel_rfl)) (fun _ _ _ h => h) (Or.inl ⟨by rfl, ?_⟩) hHeld ?_ ?_
           rotate_left
           · rintro w' ⟨s0, s1, s2, s3, s4, s5, s6, s7, s8⟩
             go_simp
             with_reducible rfl
           rotate_left
           · simp only [Act.put, List.setIfInBounds_toArray, List.set_cons_zero, List.set_cons_succ, i64_w, i32_w]
             rfl
           refine take_ (i := 15) (N := some 28) (v := ?_) (a' := ?_) (bb 19 65535) rfl rfl (take_ofW HT_.out HW_.out (by kernel_rfl)) (fun _ _ _ h => h) (Or.inl ⟨by rfl, ?_⟩) hHeld ?_ ?_
           rotate_left
           · rintro w' ⟨s0, s1, s2, s3, s4, s5, s6, s7, s8⟩
             go_simp
             with_reducible rfl
           rotate_left
           · simp only [Act.put, List.setIfInBounds_toArray, List.set_cons_zero, List.set_cons_succ, i64_w, i32_w]
             rfl
           refine pu 16 29 (bb 19 131071) rfl rfl (any_of HT_.out (by kernel_rfl)) (fun _ _ _ h => h) (by rfl) (fun w' => by go_simp; with_reducible rfl) (by simp only [Act.put, List.setIfInBounds_toArray, List.set_cons_zero, List.set_cons_succ, i64_w, i32_w]; rfl) ?_
           refine pu 17 30 (bb 19 262143) rfl rfl (any_of HT_.out (by kernel_rfl)) (fun _ _ _ h => h) (by rfl) (fun w' => by go_simp; with_reducible rfl) (by simp only [Act.put, List.setIfInBounds_toArray, List.set_cons_zero, List.set_cons_succ, i64_w, i32_w]; rfl) ?_
           refine pu 18 31 (bb 19 524287) rfl rfl (any_of HT_.out (by kernel_rfl)) (fun _ _ _ h => h) (by rfl) (fun w' => by go_simp; with_reducible rfl) (by simp only [Act.put, List.setIfInBounds_toArray, List.set_cons_zero, List.set_cons_succ, i64_w, i32_w]; rfl) ?_
           refine done_ (done_of HT_.out (by kernel_rfl)) ?_
           try go_wp2
           go_roundg k1
           case measure => have := HK1.out; omega
           case rel => exact ⟨(wrap64 (x8_1 + 1)), (by first | rfl | (simp; done) | (simp [*]; done)), H', ⟨by have := HK1.out; omega⟩, ⟨BK305.out⟩, ⟨HB.out⟩⟩
       · rw [if_neg c9] at H
         have c9b0 : decide (0 < x8_1) = false := decide_eq_false c9
         clear c9
         have H' := Aside0.mk H
         clear H
         have p306 : 0 ≤ (x8_1 : Int) := of_decide_eq_true (by first | (with_reducible assumption) | assumption)
         have q306 : x8_1 < (l0_0.length : Int) := of_decide_eq_true (by first | (with_reducible assumption) | assumption)
         obtain ⟨ad306, A306_3, c306_3, e306, hx306_0, hx306_1, hx306_2, hx306_3, hl306_3, hi306_3⟩ := at_T42 HR0_0.out x8_1 p306 q306
         cases e306
         replace hx306_0 := (HB.out.cell (World.block_lt_of_cell? w _ hx306_0)).trans hx306_0
         replace hx306_1 := (HB.out.cell (World.block_lt_of_cell? w _ hx306_1)).trans hx306_1
         replace hx306_2 := (HB.out.cell (World.block_lt_of_cell? w _ hx306_2)).trans hx306_2
         replace hx306_3 := (HB.out.cell (World.block_lt_of_cell? w _ hx306_3)).trans hx306_3
         have HR306_3 := Aside0.mk hi306_3
         have HC306_3 := Aside0.mk hl306_3
         clear hi306_3 hl306_3
         replace p306 := eq_true p306
         replace q306 := eq_true q306
         try go_wp2_with (first | ((with_reducible refine gate_dst (N := 4) rfl ?_); refine box_event ?hg (N := 4) ?hd (cs := #[.int .i64 0, .int .u32 0, .bool false, .slice none 0 0]) (t := 42) ?hr ?_; (case hd => rfl); (case hg => rfl); (case hr => first | (go_simp; done) | (go_simp; rfl)); intro gb307 hg w26 hbox hb; have n0_ := Aside0.mk (blk_below BK305.out hb); have n1_ := Aside0.mk (below_step HB.out hb); have n2_ := Aside0.mk (hbox); have n3_ := Aside0.mk ((by rw [hg]; exact (below_size HB.out) : w.heap.size ≤ gb307)); have n4_ := Aside0.mk ((by rw [hg]; exact (below_size HB.out) : w.heap.size ≤ gb307)); have n5_ := Aside0.mk ((by rw [hg]; exact Nat.ne_of_lt (blk_lt BK305.out) : gb305 ≠ gb307)); have n6_ := Aside0.mk ((by rw [hg]; exact Nat.ne_of_gt (blk_lt BK305.out) : gb307 ≠ gb305)); clear BK305; clear HB; have BK305 := n0_; have HB := n1_; have BK307 := n2_; have GW307 := n3_; have GE307 := n4_; have NB305_307 := n5_; have NB307_305 := n6_; clear n0_ n1_ n2_ n3_ n4_ n5_ n6_; clear hb hbox hg; have hnb27 := NB307_305.out; have hnc27 := NB305_307.out; obtain ⟨hcz28_0, hcz28_1, hcz28_2, hcz28_3, hfz28_0, hfz28_1, hfz28_2, hfz28_3⟩ := cf4 BK307.out))
         have n0_ : Aside0 (((((w26.setCell ⟨gb307, 0, none⟩ (.int .i64 ((rd_T42 l0_0 x8_1).f0))).setCell ⟨gb307, 1, none⟩ (.int .u32 ((rd_T42 l0_0 x8_1).f1))).setCell ⟨gb307, 2, none⟩ (.bool ((rd_T42 l0_0 x8_1).f2.f0))).setCell ⟨gb307, 3, none⟩ (.slice A306_3 ((rd_T42 l0_0 x8_1).f2.f1).length c306_3)).heap[gb305]? = some (.cells #[.slice (some ad306) l0_0.length c0_0] 40 (0, 0))) := ⟨by (with_reducible repeat (first | refine blk_drewN ?_ _ | refine blk_drew ?_ | refine blk_alloc ?_ _)); refine blk_far ?_ NB305_307.out _; (with_reducible repeat (first | refine blk_drewN ?_ _ | refine blk_drew ?_ | refine blk_alloc ?_ _)); refine blk_far ?_ NB305_307.out _; (with_reducible repeat (first | refine blk_drewN ?_ _ | refine blk_drew ?_ | refine blk_alloc ?_ _)); refine blk_far ?_ NB305_307.out _; (with_reducible repeat (first | refine blk_drewN ?_ _ | refine blk_drew ?_ | refine blk_alloc ?_ _)); refine blk_far ?_ NB305_307.out _; (with_reducible repeat (first | refine blk_drewN ?_ _ | refine blk_drew ?_ | refine blk_alloc ?_ _)); exact BK305.out⟩
         have n1_ : Aside0 (((((w26.setCell ⟨gb307, 0, none⟩ (.int .i64 ((rd_T42 l0_0 x8_1).f0))).setCell ⟨gb307, 1, none⟩ (.int .u32 ((rd_T42 l0_0 x8_1).f1))).setCell ⟨gb307, 2, none⟩ (.bool ((rd_T42 l0_0 x8_1).f2.f0))).setCell ⟨gb307, 3, none⟩ (.slice A306_3 ((rd_T42 l0_0 x8_1).f2.f1).length c306_3)).heap[gb307]? = some (.cells #[.int .i64 ((rd_T42 l0_0 x8_1).f0), .int .u32 ((rd_T42 l0_0 x8_1).f1), .bool ((rd_T42 l0_0 x8_1).f2.f0), .slice A306_3 ((rd_T42 l0_0 x8_1).f2.f1).length c306_3] 42 (0, 0))) := ⟨by (with_reducible repeat (first | refine blk_drewN ?_ _ | refine blk_drew ?_ | refine blk_alloc ?_ _)); refine blk_put (cs := #[.int .i64 ((rd_T42 l0_0 x8_1).f0), .int .u32 ((rd_T42 l0_0 x8_1).f1), .bool ((rd_T42 l0_0 x8_1).f2.f0), .slice none 0 0]) ?_ 3 _ rfl; (with_reducible repeat (first | refine blk_drewN ?_ _ | refine blk_drew ?_ | refine blk_alloc ?_ _)); refine blk_put (cs := #[.int .i64 ((rd_T42 l0_0 x8_1).f0), .int .u32 ((rd_T42 l0_0 x8_1).f1), .bool false, .slice none 0 0]) ?_ 2 _ rfl; (with_reducible repeat (first | refine blk_drewN ?_ _ | refine blk_drew ?_ | refine blk_alloc ?_ _)); refine blk_put (cs := #[.int .i64 ((rd_T42 l0_0 x8_1).f0), .int .u32 0, .bool false, .slice none 0 0]) ?_ 1 _ rfl; (with_reducible repeat (first | refine blk_drewN ?_ _ | refine blk_drew ?_ | refine blk_alloc ?_ _)); refine blk_put (cs := #[.int .i64 0, .int .u32 0, .bool false, .slice none 0 0]) ?_ 0 _ rfl; (with_reducible repeat (first | refine blk_drewN ?_ _ | refine blk_drew ?_ | refine blk_alloc ?_ _)); exact BK307.out⟩
         have n2_ : Aside0 (Below w.heap.size w ((((w26.setCell ⟨gb307, 0, none⟩ (.int .i64 ((rd_T42 l0_0 x8_1).f0))).setCell ⟨gb307, 1, none⟩ (.int .u32 ((rd_T42 l0_0 x8_1).f1))).setCell ⟨gb307, 2, none⟩ (.bool ((rd_T42 l0_0 x8_1).f2.f0))).setCell ⟨gb307, 3, none⟩ (.slice A306_3 ((rd_T42 l0_0 x8_1).f2.f1).length c306_3))) := ⟨by repeat (first | (with_reducible first | exact HB.out | apply below_alloc | apply pw_below_drewN | apply below_drew1 | refine below_set ?_ GE305.out | refine below_set ?_ GE307.out) | exact HB.out)⟩
         (try clear BK305)
         (try clear BK307)
         (try clear HB)
         generalize ((((w26.setCell ⟨gb307, 0, none⟩ (.int .i64 ((rd_T42 l0_0 x8_1).f0))).setCell ⟨gb307, 1, none⟩ (.int .u32 ((rd_T42 l0_0 x8_1).f1))).setCell ⟨gb307, 2, none⟩ (.bool ((rd_T42 l0_0 x8_1).f2.f0))).setCell ⟨gb307, 3, none⟩ (.slice A306_3 ((rd_T42 l0_0 x8_1).f2.f1).length c306_3)) = w29 at n0_ n1_ n2_ ⊢
         have BK305 := n0_
         have BK307 := n1_
         have HB := n2_
         clear n0_ n1_ n2_
         have n0_ := Aside0.mk (blk_drew BK305.out)
         have n1_ := Aside0.mk (blk_drew BK307.out)
         have n2_ := Aside0.mk (below_drew1 HB.out)
         clear BK305
         clear BK307
         clear HB
         have BK305 := n0_
         have BK307 := n1_
         have HB := n2_
         clear n0_ n1_ n2_
         refine start_ (n := 19) (S := fun w' => w'.cell? ⟨gb307, 0, none⟩ = some (.int .i64 ((rd_T42 l0_0 x8_1).f0)) ∧ w'.cell? ⟨gb307, 1, none⟩ = some (.int .u32 ((rd_T42 l0_0 x8_1).f1)) ∧ w'.cell? ⟨gb307, 2, none⟩ = some (.bool ((rd_T42 l0_0 x8_1).f2.f0)) ∧ w'.cell? ⟨gb307, 3, none⟩ = some (.slice A306_3 ((rd_T42 l0_0 x8_1).f2.f1).length c306_3)) (ds := []) #[false, false, false, false, false, false, false, false, false, false, false, false, false, false, false, false, false, false, false] (by kernel_rfl) rfl rfl ⟨(blk_cell BK307.out 0).trans rfl, (blk_cell BK307.out 1).trans rfl, (blk_cell BK307.out 2).trans rfl, (blk_cell BK307.out 3).trans rfl⟩ (fun hHeld => ?_); refine with_tabW host_Right.tab4 host_Right.bits4 (fun HT_ HW_ => ?_)
         generalize w29.drew = w30 at BK305 BK307 HB hHeld ⊢
         refine take_ (i := 0) (N := some 13) (v := ?_) (a' := ?_) (bb 19 1) rfl rfl (take_ofW HT_.out HW_.out (by kernel_rfl)) (fun _ _ _ h => h) (Or.inl ⟨by rfl, ?_⟩) hHeld ?_ ?_
         rotate_left
         · rintro w' ⟨s0, s1, s2, s3⟩
           go_simp
           with_reducible rfl
         rotate_left
         · simp only [Act.put, List.setIfInBounds_toArray, List.set_cons_zero, List.set_cons_succ, i64_w, i32_w]
           rfl
         refine one_ (i := 1) (N := some 14) (bb 19 3) rfl rfl (one_of HT_.out (by kernel_rfl)) (by decide) (fun K hK => ?_)
         refine goes_ Try.func30 (by kernel_rfl) rfl #[.agg #[.int .i64 ((rd_T42 l0_0 x8_1).f0), .int .u32 ((rd_T42 l0_0 x8_1).f1), .bool ((rd_T42 l0_0 x8_1).f2.f0), .slice A306_3 ((rd_T42 l0_0 x8_1).f2.f1).length c306_3]] (by rfl) rfl rfl (by (try simp only [List.map_toArray, List.map_cons, List.map_nil]); first | done | rfl | (simp only [List.length_drop, List.length_take]; rfl)) ?_
         with_reducible refine (host_right.calls k1 ((rd_T42 l0_0 x8_1).f0) ((rd_T42 l0_0 x8_1).f1) ((rd_T42 l0_0 x8_1).f2.f0) _ _ ((rd_T42 l0_0 x8_1).f2.f1) true _ ?side1 ?side2 A7.out).mono ?_
         (case side1 => repeat (first | exact (Kd.C_below HR306_3.out HB.out) | (with_reducible refine Kd.C_alloc ?_ _) | (with_reducible refine Kd.C_drewN ?_ _) | (with_reducible refine Kd.C_drew ?_)))
         (case side2 => exact HC306_3.out)
         rintro e w31 ⟨rfl, hb⟩
         refine ⟨_, rfl, ?_⟩
         have n0_ := Aside0.mk (blk_below BK305.out hb)
         have n1_ := Aside0.mk (blk_below BK307.out hb)
         have n2_ := Aside0.mk (below_step HB.out hb)
         clear BK305
         clear BK307
         clear HB
         have BK305 := n0_
         have BK307 := n1_
         have HB := n2_
         clear n0_ n1_ n2_
         (try clear hb)
         (try clear hb2)
         (try clear hk)
         (try clear hi)
         refine hK.out _ _ ⟨(blk_cell BK307.out 0).trans rfl, (blk_cell BK307.out 1).trans rfl, (blk_cell BK307.out 2).trans rfl, (blk_cell BK307.out 3).trans rfl⟩ (fun hHeld => ?_)
         clear hK K
         refine norm_ (a' := ?_) ?_ ?_
         rotate_left
         · show Act.put _ (some 14) _ = _
           simp only [Act.put, List.setIfInBounds_toArray, List.set_cons_zero, List.set_cons_succ, i64_w, i32_w]
           rfl
         refine pu 2 15 (bb 19 7) rfl rfl (any_of HT_.out (by kernel_rfl)) (fun _ _ _ h => h) (by rfl) (fun w' => by go_simp; with_reducible rfl) (by simp only [Act.put, List.setIfInBounds_toArray, List.set_cons_zero, List.set_cons_succ, i64_w, i32_w]; rfl) ?_
         refine pu 3 16 (bb 19 15) rfl rfl (any_of HT_.out (by kernel_rfl)) (fun _ _ _ h => h) (by rfl) (fun w' => by go_simp; with_reducible rfl) (by simp only [Act.put, List.setIfInBounds_toArray, List.set_cons_zero, List.set_cons_succ, i64_w, i32_w]; rfl) ?_
         refine pu 4 17 (bb 19 31) rfl rfl (any_of HT_.out (by kernel_rfl)) (fun _ _ _ h => h) (by rfl) (fun w' => by go_simp; with_reducible rfl) (by simp only [Act.put, List.setIfInBounds_toArray, List.set_cons_zero, List.set_cons_succ, i64_w, i32_w]; rfl) ?_
         refine pu 5 18 (bb 19 63) rfl rfl (any_of HT_.out (by kernel_rfl)) (fun _ _ _ h => h) (by rfl) (fun w' => by go_simp; with_reducible rfl) (by simp only [Act.put, List.setIfInBounds_toArray, List.set_cons_zero, List.set_cons_succ, i64_w, i32_w]; rfl) ?_
         refine pu 6 19 (bb 19 127) rfl rfl (any_of HT_.out (by kernel_rfl)) (fun _ _ _ h => h) (by rfl) (fun w' => by go_simp; with_reducible rfl) (by simp only [Act.put, List.setIfInBounds_toArray, List.set_cons_zero, List.set_cons_succ, i64_w, i32_w]; rfl) ?_
         refine pure_ (i := 7) (N := some 20) (v := undef) (a' := ?_) (bb 19 255) rfl rfl (any_of HT_.out (by kernel_rfl)) (fun _ _ _ h => h) (Or.inr ⟨by rfl, rfl⟩) ?_ ?_
         rotate_left
         · simp only [Act.put, List.setIfInBounds_toArray, List.set_cons_zero, List.set_cons_succ, i64_w, i32_w]
           rfl
         refine pure_ (i := 8) (N := some 21) (v := undef) (a' := ?_) (bb 19 511) rfl rfl (any_of HT_.out (by kernel_rfl)) (fun _ _ _ h => h) (Or.inr ⟨by rfl, rfl⟩) ?_ ?_
         rotate_left
         · simp only [Act.put, List.setIfInBounds_toArray, List.set_cons_zero, List.set_cons_succ, i64_w, i32_w]
           rfl
         refine pure_ (i := 9) (N := some 22) (v := undef) (a' := ?_) (bb 19 1023) rfl rfl (any_of HT_.out (by kernel_rfl)) (fun _ _ _ h => h) (Or.inr ⟨by rfl, rfl⟩) ?_ ?_
         rotate_left
         · simp only [Act.put, List.setIfInBounds_toArray, List.set_cons_zero, List.set_cons_succ, i64_w, i32_w]
           rfl
         refine pure_ (i := 10) (N := some 23) (v := undef) (a' := ?_) (bb 19 2047) rfl rfl (any_of HT_.out (by kernel_rfl)) (fun _ _ _ h => h) (Or.inr ⟨by rfl, rfl⟩) ?_ ?_
         rotate_left
         · simp only [Act.put, List.setIfInBounds_toArray, List.set_cons_zero, List.set_cons_succ, i64_w, i32_w]
           rfl
         refine pure_ (i := 11) (N := some 24) (v := undef) (a' := ?_) (bb 19 4095) rfl rfl (any_of HT_.out (by kernel_rfl)) (fun _ _ _ h => h) (Or.inr ⟨by rfl, rfl⟩) ?_ ?_
         rotate_left
         · simp only [Act.put, List.setIfInBounds_toArray, List.set_cons_zero, List.set_cons_succ, i64_w, i32_w]
           rfl
         refine pure_ (i := 12) (N := some 25) (v := undef) (a' := ?_) (bb 19 8191) rfl rfl (any_of HT_.out (by kernel_rfl)) (fun _ _ _ h => h) (Or.inr ⟨by rfl, rfl⟩) ?_ ?_
         rotate_left
         · simp only [Act.put, List.setIfInBounds_toArray, List.set_cons_zero, List.set_cons_succ, i64_w, i32_w]
           rfl
         refine pure_ (i := 13) (N := some 26) (v := undef) (a' := ?_) (bb 19 16383) rfl rfl (any_of HT_.out (by kernel_rfl)) (fun _ _ _ h => h) (Or.inr ⟨by rfl, rfl⟩) ?_ ?_
         rotate_left
         · simp only [Act.put, List.setIfInBounds_toArray, List.set_cons_zero, List.set_cons_succ, i64_w, i32_w]
           rfl
         refine pure_ (i := 14) (N := some 27) (v := undef) (a' := ?_) (bb 19 32767) rfl rfl (any_of HT_.out (by kernel_rfl)) (fun _ _ _ h => h) (Or.inr ⟨by rfl, rfl⟩) ?_ ?_
         rotate_left
         · simp only [Act.put, List.setIfInBounds_toArray, List.set_cons_zero, List.set_cons_succ, i64_w, i32_w]
           rfl
         refine pure_ (i := 15) (N := some 28) (v := undef) (a' := ?_) (bb 19 65535) rfl rfl (any_of HT_.out (by kernel_rfl)) (fun _ _ _ h => h) (Or.inr ⟨by rfl, rfl⟩) ?_ ?_
         rotate_left
         · simp only [Act.put, List.setIfInBounds_toArray, List.set_cons_zero, List.set_cons_succ, i64_w, i32_w]
           rfl
         refine pure_ (i := 16) (N := some 29) (v := undef) (a' := ?_) (bb 19 131071) rfl rfl (any_of HT_.out (by kernel_rfl)) (fun _ _ _ h => h) (Or.inr ⟨by rfl, rfl⟩) ?_ ?_
         rotate_left
         · simp only [Act.put, List.setIfInBounds_toArray, List.set_cons_zero, List.set_cons_succ, i64_w, i32_w]
           rfl
         refine pu 17 30 (bb 19 262143) rfl rfl (any_of HT_.out (by kernel_rfl)) (fun _ _ _ h => h) (by rfl) (fun w' => by go_simp; with_reducible rfl) (by simp only [Act.put, List.setIfInBounds_toArray, List.set_cons_zero, List.set_cons_succ, i64_w, i32_w]; rfl) ?_
         refine pu 18 31 (bb 19 524287) rfl rfl (any_of HT_.out (by kernel_rfl)) (fun _ _ _ h => h) (by rfl) (fun w' => by go_simp; with_reducible rfl) (by simp only [Act.put, List.setIfInBounds_toArray, List.set_cons_zero, List.set_cons_succ, i64_w, i32_w]; rfl) ?_
         refine done_ (done_of HT_.out (by kernel_rfl)) ?_
         try go_wp2
         go_roundg k1
         case measure => have := HK1.out; omega
         case rel => exact ⟨(wrap64 (x8_1 + 1)), (by first | rfl | (simp; done) | (simp [*]; done)), H', ⟨by have := HK1.out; omega⟩, ⟨BK305.out⟩, ⟨HB.out⟩⟩
     · replace c8 := Bool.eq_false_iff.mpr c8
       subst c8
       have H1 : (some false) = some r := by rw [if_neg (show ¬ (false = true) by decide)] at H; exact H
       clear H
       have H := H1
       clear H1
       obtain rfl := Option.some.inj H
       have p306 : 0 ≤ (x8_1 : Int) := of_decide_eq_true (by first | (with_reducible assumption) | assumption)
       have q306 : x8_1 < (l0_0.length : Int) := of_decide_eq_true (by first | (with_reducible assumption) | assumption)
       obtain ⟨ad306, A306_3, c306_3, e306, hx306_0, hx306_1, hx306_2, hx306_3, hl306_3, hi306_3⟩ := at_T42 HR0_0.out x8_1 p306 q306
       cases e306
       replace hx306_0 := (HB.out.cell (World.block_lt_of_cell? w _ hx306_0)).trans hx306_0
       replace hx306_1 := (HB.out.cell (World.block_lt_of_cell? w _ hx306_1)).trans hx306_1
       replace hx306_2 := (HB.out.cell (World.block_lt_of_cell? w _ hx306_2)).trans hx306_2
       replace hx306_3 := (HB.out.cell (World.block_lt_of_cell? w _ hx306_3)).trans hx306_3
       have HR306_3 := Aside0.mk hi306_3
       have HC306_3 := Aside0.mk hl306_3
       clear hi306_3 hl306_3
       replace p306 := eq_true p306
       replace q306 := eq_true q306
       try go_wp2_with (first | ((with_reducible refine gate_dst (N := 4) rfl ?_); refine box_event ?hg (N := 4) ?hd (cs := #[.int .i64 0, .int .u32 0, .bool false, .slice none 0 0]) (t := 42) ?hr ?_; (case hd => rfl); (case hg => rfl); (case hr => first | (go_simp; done) | (go_simp; rfl)); intro gb307 hg w32 hbox hb; have n0_ := Aside0.mk (blk_below BK305.out hb); have n1_ := Aside0.mk (below_step HB.out hb); have n2_ := Aside0.mk (hbox); have n3_ := Aside0.mk ((by rw [hg]; exact (below_size HB.out) : w.heap.size ≤ gb307)); have n4_ := Aside0.mk ((by rw [hg]; exact (below_size HB.out) : w.heap.size ≤ gb307)); have n5_ := Aside0.mk ((by rw [hg]; exact Nat.ne_of_lt (blk_lt BK305.out) : gb305 ≠ gb307)); have n6_ := Aside0.mk ((by rw [hg]; exact Nat.ne_of_gt (blk_lt BK305.out) : gb307 ≠ gb305)); clear BK305; clear HB; have BK305 := n0_; have HB := n1_; have BK307 := n2_; have GW307 := n3_; have GE307 := n4_; have NB305_307 := n5_; have NB307_305 := n6_; clear n0_ n1_ n2_ n3_ n4_ n5_ n6_; clear hb hbox hg; have hnb33 := NB307_305.out; have hnc33 := NB305_307.out; obtain ⟨hcz34_0, hcz34_1, hcz34_2, hcz34_3, hfz34_0, hfz34_1, hfz34_2, hfz34_3⟩ := cf4 BK307.out))
       have n0_ : Aside0 (((((w32.setCell ⟨gb307, 0, none⟩ (.int .i64 ((rd_T42 l0_0 x8_1).f0))).setCell ⟨gb307, 1, none⟩ (.int .u32 ((rd_T42 l0_0 x8_1).f1))).setCell ⟨gb307, 2, none⟩ (.bool ((rd_T42 l0_0 x8_1).f2.f0))).setCell ⟨gb307, 3, none⟩ (.slice A306_3 ((rd_T42 l0_0 x8_1).f2.f1).length c306_3)).heap[gb305]? = some (.cells #[.slice (some ad306) l0_0.length c0_0] 40 (0, 0))) := ⟨by (with_reducible repeat (first | refine blk_drewN ?_ _ | refine blk_drew ?_ | refine blk_alloc ?_ _)); refine blk_far ?_ NB305_307.out _; (with_reducible repeat (first | refine blk_drewN ?_ _ | refine blk_drew ?_ | refine blk_alloc ?_ _)); refine blk_far ?_ NB305_307.out _; (with_reducible repeat (first | refine blk_drewN ?_ _ | refine blk_drew ?_ | refine blk_alloc ?_ _)); refine blk_far ?_ NB305_307.out _; (with_reducible repeat (first | refine blk_drewN ?_ _ | refine blk_drew ?_ | refine blk_alloc ?_ _)); refine blk_far ?_ NB305_307.out _; (with_reducible repeat (first | refine blk_drewN ?_ _ | refine blk_drew ?_ | refine blk_alloc ?_ _)); exact BK305.out⟩
       have n1_ : Aside0 (((((w32.setCell ⟨gb307, 0, none⟩ (.int .i64 ((rd_T42 l0_0 x8_1).f0))).setCell ⟨gb307, 1, none⟩ (.int .u32 ((rd_T42 l0_0 x8_1).f1))).setCell ⟨gb307, 2, none⟩ (.bool ((rd_T42 l0_0 x8_1).f2.f0))).setCell ⟨gb307, 3, none⟩ (.slice A306_3 ((rd_T42 l0_0 x8_1).f2.f1).length c306_3)).heap[gb307]? = some (.cells #[.int .i64 ((rd_T42 l0_0 x8_1).f0), .int .u32 ((rd_T42 l0_0 x8_1).f1), .bool ((rd_T42 l0_0 x8_1).f2.f0), .slice A306_3 ((rd_T42 l0_0 x8_1).f2.f1).length c306_3] 42 (0, 0))) := ⟨by (with_reducible repeat (first | refine blk_drewN ?_ _ | refine blk_drew ?_ | refine blk_alloc ?_ _)); refine blk_put (cs := #[.int .i64 ((rd_T42 l0_0 x8_1).f0), .int .u32 ((rd_T42 l0_0 x8_1).f1), .bool ((rd_T42 l0_0 x8_1).f2.f0), .slice none 0 0]) ?_ 3 _ rfl; (with_reducible repeat (first | refine blk_drewN ?_ _ | refine blk_drew ?_ | refine blk_alloc ?_ _)); refine blk_put (cs := #[.int .i64 ((rd_T42 l0_0 x8_1).f0), .int .u32 ((rd_T42 l0_0 x8_1).f1), .bool false, .slice none 0 0]) ?_ 2 _ rfl; (with_reducible repeat (first | refine blk_drewN ?_ _ | refine blk_drew ?_ | refine blk_alloc ?_ _)); refine blk_put (cs := #[.int .i64 ((rd_T42 l0_0 x8_1).f0), .int .u32 0, .bool false, .slice none 0 0]) ?_ 1 _ rfl; (with_reducible repeat (first | refine blk_drewN ?_ _ | refine blk_drew ?_ | refine blk_alloc ?_ _)); refine blk_put (cs := #[.int .i64 0, .int .u32 0, .bool false, .slice none 0 0]) ?_ 0 _ rfl; (with_reducible repeat (first | refine blk_drewN ?_ _ | refine blk_drew ?_ | refine blk_alloc ?_ _)); exact BK307.out⟩
       have n2_ : Aside0 (Below w.heap.size w ((((w32.setCell ⟨gb307, 0, none⟩ (.int .i64 ((rd_T42 l0_0 x8_1).f0))).setCell ⟨gb307, 1, none⟩ (.int .u32 ((rd_T42 l0_0 x8_1).f1))).setCell ⟨gb307, 2, none⟩ (.bool ((rd_T42 l0_0 x8_1).f2.f0))).setCell ⟨gb307, 3, none⟩ (.slice A306_3 ((rd_T42 l0_0 x8_1).f2.f1).length c306_3))) := ⟨by repeat (first | (with_reducible first | exact HB.out | apply below_alloc | apply pw_below_drewN | apply below_drew1 | refine below_set ?_ GE305.out | refine below_set ?_ GE307.out) | exact HB.out)⟩
       (try clear BK305)
       (try clear BK307)
       (try clear HB)
       generalize ((((w32.setCell ⟨gb307, 0, none⟩ (.int .i64 ((rd_T42 l0_0 x8_1).f0))).setCell ⟨gb307, 1, none⟩ (.int .u32 ((rd_T42 l0_0 x8_1).f1))).setCell ⟨gb307, 2, none⟩ (.bool ((rd_T42 l0_0 x8_1).f2.f0))).setCell ⟨gb307, 3, none⟩ (.slice A306_3 ((rd_T42 l0_0 x8_1).f2.f1).length c306_3)) = w35 at n0_ n1_ n2_ ⊢
       have BK305 := n0_
       have BK307 := n1_
       have HB := n2_
       clear n0_ n1_ n2_
       have n0_ := Aside0.mk (blk_drew BK305.out)
       have n1_ := Aside0.mk (blk_drew BK307.out)
       have n2_ := Aside0.mk (below_drew1 HB.out)
       clear BK305
       clear BK307
       clear HB
       have BK305 := n0_
       have BK307 := n1_
       have HB := n2_
       clear n0_ n1_ n2_
       refine start_ (n := 19) (S := fun w' => w'.cell? ⟨gb307, 0, none⟩ = some (.int .i64 ((rd_T42 l0_0 x8_1).f0)) ∧ w'.cell? ⟨gb307, 1, none⟩ = some (.int .u32 ((rd_T42 l0_0 x8_1).f1)) ∧ w'.cell? ⟨gb307, 2, none⟩ = some (.bool ((rd_T42 l0_0 x8_1).f2.f0)) ∧ w'.cell? ⟨gb307, 3, none⟩ = some (.slice A306_3 ((rd_T42 l0_0 x8_1).f2.f1).length c306_3)) (ds := []) #[false, false, false, false, false, false, false, false, false, false, false, false, false, false, false, false, false, false, false] (by kernel_rfl) rfl rfl ⟨(blk_cell BK307.out 0).trans rfl, (blk_cell BK307.out 1).trans rfl, (blk_cell BK307.out 2).trans rfl, (blk_cell BK307.out 3).trans rfl⟩ (fun hHeld => ?_); refine with_tabW host_Right.tab4 host_Right.bits4 (fun HT_ HW_ => ?_)
       generalize w35.drew = w36 at BK305 BK307 HB hHeld ⊢
       refine take_ (i := 0) (N := some 13) (v := ?_) (a' := ?_) (bb 19 1) rfl rfl (take_ofW HT_.out HW_.out (by kernel_rfl)) (fun _ _ _ h => h) (Or.inl ⟨by rfl, ?_⟩) hHeld ?_ ?_
       rotate_left
       · rintro w' ⟨s0, s1, s2, s3⟩
         go_simp
         with_reducible rfl
       rotate_left
       · simp only [Act.put, List.setIfInBounds_toArray, List.set_cons_zero, List.set_cons_succ, i64_w, i32_w]
         rfl
       refine one_ (i := 1) (N := some 14) (bb 19 3) rfl rfl (one_of HT_.out (by kernel_rfl)) (by decide) (fun K hK => ?_)
       refine goes_ Try.func30 (by kernel_rfl) rfl #[.agg #[.int .i64 ((rd_T42 l0_0 x8_1).f0), .int .u32 ((rd_T42 l0_0 x8_1).f1), .bool ((rd_T42 l0_0 x8_1).f2.f0), .slice A306_3 ((rd_T42 l0_0 x8_1).f2.f1).length c306_3]] (by rfl) rfl rfl (by (try simp only [List.map_toArray, List.map_cons, List.map_nil]); first | done | rfl | (simp only [List.length_drop, List.length_take]; rfl)) ?_
       with_reducible refine (host_right.calls k1 ((rd_T42 l0_0 x8_1).f0) ((rd_T42 l0_0 x8_1).f1) ((rd_T42 l0_0 x8_1).f2.f0) _ _ ((rd_T42 l0_0 x8_1).f2.f1) false _ ?side1 ?side2 A7.out).mono ?_
       (case side1 => repeat (first | exact (Kd.C_below HR306_3.out HB.out) | (with_reducible refine Kd.C_alloc ?_ _) | (with_reducible refine Kd.C_drewN ?_ _) | (with_reducible refine Kd.C_drew ?_)))
       (case side2 => exact HC306_3.out)
       rintro e w37 ⟨rfl, hb⟩
       refine ⟨_, rfl, ?_⟩
       have n0_ := Aside0.mk (blk_below BK305.out hb)
       have n1_ := Aside0.mk (blk_below BK307.out hb)
       have n2_ := Aside0.mk (below_step HB.out hb)
       clear BK305
       clear BK307
       clear HB
       have BK305 := n0_
       have BK307 := n1_
       have HB := n2_
       clear n0_ n1_ n2_
       (try clear hb)
       (try clear hb2)
       (try clear hk)
       (try clear hi)
       refine hK.out _ _ ⟨(blk_cell BK307.out 0).trans rfl, (blk_cell BK307.out 1).trans rfl, (blk_cell BK307.out 2).trans rfl, (blk_cell BK307.out 3).trans rfl⟩ (fun hHeld => ?_)
       clear hK K
       refine norm_ (a' := ?_) ?_ ?_
       rotate_left
       · show Act.put _ (some 14) _ = _
         simp only [Act.put, List.setIfInBounds_toArray, List.set_cons_zero, List.set_cons_succ, i64_w, i32_w]
         rfl
       refine pu 2 15 (bb 19 7) rfl rfl (any_of HT_.out (by kernel_rfl)) (fun _ _ _ h => h) (by rfl) (fun w' => by go_simp; with_reducible rfl) (by simp only [Act.put, List.setIfInBounds_toArray, List.set_cons_zero, List.set_cons_succ, i64_w, i32_w]; rfl) ?_
       refine pu 3 16 (bb 19 15) rfl rfl (any_of HT_.out (by kernel_rfl)) (fun _ _ _ h => h) (by rfl) (fun w' => by go_simp; with_reducible rfl) (by simp only [Act.put, List.setIfInBounds_toArray, List.set_cons_zero, List.set_cons_succ, i64_w, i32_w]; rfl) ?_
       refine pure_ (i := 4) (N := some 17) (v := undef) (a' := ?_) (bb 19 31) rfl rfl (any_of HT_.out (by kernel_rfl)) (fun _ _ _ h => h) (Or.inr ⟨by rfl, rfl⟩) ?_ ?_
       rotate_left
       · simp only [Act.put, List.setIfInBounds_toArray, List.set_cons_zero, List.set_cons_succ, i64_w, i32_w]
         rfl
       refine pure_ (i := 5) (N := some 18) (v := undef) (a' := ?_) (bb 19 63) rfl rfl (any_of HT_.out (by kernel_rfl)) (fun _ _ _ h => h) (Or.inr ⟨by rfl, rfl⟩) ?_ ?_
       rotate_left
       · simp only [Act.put, List.setIfInBounds_toArray, List.set_cons_zero, List.set_cons_succ, i64_w, i32_w]
         rfl
       refine pure_ (i := 6) (N := some 19) (v := undef) (a' := ?_) (bb 19 127) rfl rfl (any_of HT_.out (by kernel_rfl)) (fun _ _ _ h => h) (Or.inr ⟨by rfl, rfl⟩) ?_ ?_
       rotate_left
       · simp only [Act.put, List.setIfInBounds_toArray, List.set_cons_zero, List.set_cons_succ, i64_w, i32_w]
         rfl
       refine pure_ (i := 7) (N := some 20) (v := undef) (a' := ?_) (bb 19 255) rfl rfl (any_of HT_.out (by kernel_rfl)) (fun _ _ _ h => h) (Or.inr ⟨by rfl, rfl⟩) ?_ ?_
       rotate_left
       · simp only [Act.put, List.setIfInBounds_toArray, List.set_cons_zero, List.set_cons_succ, i64_w, i32_w]
         rfl
       refine pure_ (i := 8) (N := some 21) (v := undef) (a' := ?_) (bb 19 511) rfl rfl (any_of HT_.out (by kernel_rfl)) (fun _ _ _ h => h) (Or.inr ⟨by rfl, rfl⟩) ?_ ?_
       rotate_left
       · simp only [Act.put, List.setIfInBounds_toArray, List.set_cons_zero, List.set_cons_succ, i64_w, i32_w]
         rfl
       refine pure_ (i := 9) (N := some 22) (v := undef) (a' := ?_) (bb 19 1023) rfl rfl (any_of HT_.out (by kernel_rfl)) (fun _ _ _ h => h) (Or.inr ⟨by rfl, rfl⟩) ?_ ?_
       rotate_left
       · simp only [Act.put, List.setIfInBounds_toArray, List.set_cons_zero, List.set_cons_succ, i64_w, i32_w]
         rfl
       refine pure_ (i := 10) (N := some 23) (v := undef) (a' := ?_) (bb 19 2047) rfl rfl (any_of HT_.out (by kernel_rfl)) (fun _ _ _ h => h) (Or.inr ⟨by rfl, rfl⟩) ?_ ?_
       rotate_left
       · simp only [Act.put, List.setIfInBounds_toArray, List.set_cons_zero, List.set_cons_succ, i64_w, i32_w]
         rfl
       refine pure_ (i := 11) (N := some 24) (v := undef) (a' := ?_) (bb 19 4095) rfl rfl (any_of HT_.out (by kernel_rfl)) (fun _ _ _ h => h) (Or.inr ⟨by rfl, rfl⟩) ?_ ?_
       rotate_left
       · simp only [Act.put, List.setIfInBounds_toArray, List.set_cons_zero, List.set_cons_succ, i64_w, i32_w]
         rfl
       refine pure_ (i := 12) (N := some 25) (v := undef) (a' := ?_) (bb 19 8191) rfl rfl (any_of HT_.out (by kernel_rfl)) (fun _ _ _ h => h) (Or.inr ⟨by rfl, rfl⟩) ?_ ?_
       rotate_left
       · simp only [Act.put, List.setIfInBounds_toArray, List.set_cons_zero, List.set_cons_succ, i64_w, i32_w]
         rfl
       refine pure_ (i := 13) (N := some 26) (v := undef) (a' := ?_) (bb 19 16383) rfl rfl (any_of HT_.out (by kernel_rfl)) (fun _ _ _ h => h) (Or.inr ⟨by rfl, rfl⟩) ?_ ?_
       rotate_left
       · simp only [Act.put, List.setIfInBounds_toArray, List.set_cons_zero, List.set_cons_succ, i64_w, i32_w]
         rfl
       refine pure_ (i := 14) (N := some 27) (v := undef) (a' := ?_) (bb 19 32767) rfl rfl (any_of HT_.out (by kernel_rfl)) (fun _ _ _ h => h) (Or.inr ⟨by rfl, rfl⟩) ?_ ?_
       rotate_left
       · simp only [Act.put, List.setIfInBounds_toArray, List.set_cons_zero, List.set_cons_succ, i64_w, i32_w]
         rfl
       refine pure_ (i := 15) (N := some 28) (v := undef) (a' := ?_) (bb 19 65535) rfl rfl (any_of HT_.out (by kernel_rfl)) (fun _ _ _ h => h) (Or.inr ⟨by rfl, rfl⟩) ?_ ?_
       rotate_left
       · simp only [Act.put, List.setIfInBounds_toArray, List.set_cons_zero, List.set_cons_succ, i64_w, i32_w]
         rfl
       refine pure_ (i := 16) (N := some 29) (v := undef) (a' := ?_) (bb 19 131071) rfl rfl (any_of HT_.out (by kernel_rfl)) (fun _ _ _ h => h) (Or.inr ⟨by rfl, rfl⟩) ?_ ?_
       rotate_left
       · simp only [Act.put, List.setIfInBounds_toArray, List.set_cons_zero, List.set_cons_succ, i64_w, i32_w]
         rfl
       refine pure_ (i := 17) (N := some 30) (v := undef) (a' := ?_) (bb 19 262143) rfl rfl (any_of HT_.out (by kernel_rfl)) (fun _ _ _ h => h) (Or.inr ⟨by rfl, rfl⟩) ?_ ?_
       rotate_left
       · simp only [Act.put, List.setIfInBounds_toArray, List.set_cons_zero, List.set_cons_succ, i64_w, i32_w]
         rfl
       refine pu 18 31 (bb 19 524287) rfl rfl (any_of HT_.out (by kernel_rfl)) (fun _ _ _ h => h) (by rfl) (fun w' => by go_simp; with_reducible rfl) (by simp only [Act.put, List.setIfInBounds_toArray, List.set_cons_zero, List.set_cons_succ, i64_w, i32_w]; rfl) ?_
       refine done_ (done_of HT_.out (by kernel_rfl)) ?_
       try go_wp2
       go_ret
       exact ⟨by first | rfl | (simp [errW_none, errW_some] <;> rfl) | (simp [*, errW_none, errW_some] <;> rfl), by repeat (first | (with_reducible first | exact HB.out | apply below_alloc | apply pw_below_drewN | apply below_drew1 | refine below_set ?_ GE305.out | refine below_set ?_ GE307.out) | exact HB.out)⟩
   · rw [if_neg c4] at H
     have c4b0 : decide (x8_1 < (l0_0.length : Int)) = false := decide_eq_false c4
     clear c4
     obtain rfl := Option.some.inj H
     have hcz38_0 : wr.cell? ⟨gb305, 0, none⟩ = some (.slice A0_0 l0_0.length c0_0) := (blk_cell BK305.out 0).trans rfl
     have hfz38_0 := blk_frozen BK305.out 0
     go_wp2
     go_ret
     exact ⟨by first | rfl | (simp [errW_none, errW_some] <;> rfl) | (simp [*, errW_none, errW_some] <;> rfl), by repeat (first | (with_reducible first | exact HB.out | apply below_alloc | apply pw_below_drewN | apply below_drew1 | refine below_set ?_ GE305.out) | exact HB.out)⟩

end Go.Proofs.Ytjncmiclpaodhaa.PHo
