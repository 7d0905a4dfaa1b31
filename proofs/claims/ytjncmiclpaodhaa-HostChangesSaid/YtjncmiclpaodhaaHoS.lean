/- Texts of a claim. -/
import Derived.Test.YtjncmiclpaodhaaSoI
import Derived.Test.YtjncmiclpaodhaaPHox1
import Derived.Test.YtjncmiclpaodhaaPHox2
import Derived.Test.YtjncmiclpaodhaaPHox10
-- written by a program of this session (hprint.py), over the kit's printer
namespace Go.Proofs.Ytjncmiclpaodhaa.PHo
open Go.RowKit Go.Proofs.YtjncmiclpaodhaaW.PrintWords Go.Proofs.YtjncmiclpaodhaaW.PrintLast Go.Proofs.YtjncmiclpaodhaaW.PrintMore
attribute [local go_sem] max2_int min2_int max_two min_two max_three min_three max_four min_four   -- for this text's walks alone
set_option linter.unusedVariables false
set_option linter.unusedSimpArgs false

/-! ### host_Right: function 26 -/
def host_Right.l0 : Nat → List (S42) → Int → Int → List (S42) → Option (Bool)
 | 0, _, _, _, _ => none
 | k + 1, x6, x7, x8, x306000 => if x8 < x7 then (if 0 ≤ x8 then (if x8 < (x6.length : Int) then ((host_right.f k ((rd_T42 x6 x8).f0) ((rd_T42 x6 x8).f1) ((rd_T42 x6 x8).f2.f0) ((rd_T42 x6 x8).f2.f1)).bind fun t308 => (if t308 = true then (if x8 > 0 then (if 0 ≤ (wrap64 (x8 - 1)) then (if (wrap64 (x8 - 1)) < (x306000.length : Int) then (if ((rd_T42 x306000 (wrap64 (x8 - 1))).f0) ≥ ((rd_T42 x6 x8).f0) then (some false) else (host_Right.l0 k x6 x7 (wrap64 (x8 + 1)) x306000)) else (none)) else (none)) else (host_Right.l0 k x6 x7 (wrap64 (x8 + 1)) x306000)) else (some false))) else (none)) else (none)) else (some (decide ((x306000.length : Int) ≤ 32)))
def host_Right.f (k : Nat) (l0_0 : List (S42)) : Option (Bool) := host_Right.l0 k l0_0 (l0_0.length : Int) 0 l0_0
theorem host_Right.mono_l : ∀ k, (∀ y0 y1 y2 y3, LeO (host_Right.l0 k y0 y1 y2 y3) (host_Right.l0 (k + 1) y0 y1 y2 y3))
 | 0 => fun _ _ _ _ r h => by simp [host_Right.l0] at h
 | k + 1 => by
  have ih0 := host_Right.mono_l k
  · intro y0 y1 y2 y3
    unfold host_Right.l0
    repeat' first
    | (with_reducible exact ih0 _ _ _ _)
    | (with_reducible exact host_right.mono _ _ _ _ _)
    | (with_reducible exact LeO.refl _)
    | (with_reducible exact LeO.none _)
    | (with_reducible refine LeO.ite ?_ ?_)
    | (with_reducible refine LeO.bind ?_ (fun _ => ?_))
    | exact ih0 _ _ _ _
    | exact host_right.mono _ _ _ _ _
    | exact LeO.none _
    | refine LeO.ite ?_ ?_
    | refine LeO.bind ?_ (fun _ => ?_)
theorem host_Right.mono : ∀ a0 k, LeO (host_Right.f k a0) (host_Right.f (k + 1) a0) := by
 intro a0 k
 have ih0 := host_Right.mono_l k
 unfold host_Right.f
 repeat' first
  | (with_reducible exact ih0 _ _ _ _)
  | (with_reducible exact host_right.mono _ _ _ _ _)
  | (with_reducible exact LeO.refl _)
  | (with_reducible exact LeO.none _)
  | (with_reducible refine LeO.ite ?_ ?_)
  | (with_reducible refine LeO.bind ?_ (fun _ => ?_))
  | exact ih0 _ _ _ _
  | exact host_right.mono _ _ _ _ _
  | exact LeO.none _
  | refine LeO.ite ?_ ?_
  | refine LeO.bind ?_ (fun _ => ?_)
def host_Right.T4 : Bool × List (List Nat × List Nat) := (true, [([], []), ([0], [0]), ([1], [1]), ([2, 1], [2]), ([3], [3]), ([4, 3], [3, 4]), ([5, 3, 3], [3, 5]), ([6], [6]), ([7, 6], [6, 7]), ([6], [6]), ([9, 6], [6, 9]), ([8, 10, 6], [6, 8, 10]), ([11, 6], [6, 11]), ([12, 6], [6, 12]), ([6], [6]), ([14, 6], [6, 14]), ([13, 15, 6], [6, 13, 15]), ([6, 16, 3], [3, 6, 16]), ([3, 17], [3, 17])])
def host_Right.B4 : List Nat := [0, 1, 3, 7, 15, 31, 63, 127, 255, 127, 639, 2047, 4095, 8191, 127, 16511, 65535, 131071, 262143]
theorem host_Right.tab4 : rtab .any (opsOf Try.f26 4) = host_Right.T4 := by kernel_rfl
theorem host_Right.bits4 : waitsOk host_Right.T4.2 host_Right.B4 = true := by kernel_rfl
set_option maxHeartbeats 8000000 in
set_option maxRecDepth 100000 in
theorem host_Right.calls (k : Nat) (A0_0 : Option Addr) (c0_0 : Nat) (l0_0 : List (S42)) (r : Bool) (w : World) (hr0_0 : Kd.C k42 w A0_0 l0_0.length l0_0) (hc0_0 : l0_0.length ≤ c0_0) (h : host_Right.f k l0_0 = some r) :
 Calls Try.prog 26 #[.agg #[.slice A0_0 l0_0.length c0_0]] w fun e w' => e = .returned (.bool r) ∧ Below w.heap.size w w' := by
 have hu40 := Try.underlying40
 have hu42 := Try.underlying42
 have HR0_0 := Aside0.mk hr0_0
 have HC0_0 := Aside0.mk hc0_0
 clear hr0_0 hc0_0
 have HB := Aside0.mk (Below.refl w.heap.size w)
 have H : (host_Right.l0 k l0_0 (l0_0.length : Int) 0 l0_0) = some r := h
 clear h
 have H' := Aside0.mk H
 clear H
 go_enter Try.func26, Try.ntmps26
 go_wp2_with (first | ((with_reducible refine gate_dst (N := 1) rfl ?_); refine bxn (cs := #[.slice A0_0 l0_0.length c0_0]) (t := 40) ?_; intro gb305 hg w2 hbox hb; have BK305 := Aside0.mk (hbox); have GW305 := Aside0.mk ((by rw [hg]; exact (below_size HB.out) : w.heap.size ≤ gb305)); have GE305 := Aside0.mk ((by rw [hg]; exact (below_size HB.out) : w.heap.size ≤ gb305)); replace HB := Aside0.mk (below_step HB.out hb); clear hb hbox hg; obtain ⟨hcz3_0, hfz3_0⟩ := cf1 BK305.out))
 go_loopg [8] k (fun kq v8 w' => ∃ (x8_1 : Int), v8 = .int .i64 x8_1 ∧ Aside0 (host_Right.l0 kq l0_0 (l0_0.length : Int) x8_1 l0_0 = some r) ∧ Aside0 (kq ≤ k) ∧ Aside0 (w'.heap[gb305]? = some (.cells #[(.slice A0_0 l0_0.length c0_0)] 40 (0, 0))) ∧ Aside0 (Below w.heap.size w w'))
 case atStart => exact ⟨(0), (fr), H', ⟨Nat.le_refl _⟩, ⟨BK305.out⟩, ⟨HB.out⟩⟩
 case round =>
  clear H'
  try clear c2
  try clear p2
  try clear hcz3_0
  try clear hfz3_0
  obtain ⟨x8_1, rfl, HA, HK1, BK305, HB⟩ := hrel
  cases gk with
  | zero => exact absurd HA.out (by simp [host_Right.l0])
  | succ k1 =>
   have H := HA.out
   clear HA
   simp only [host_Right.l0] at H
   by_cases c4 : x8_1 < (l0_0.length : Int)
   · rw [if_pos c4] at H
     have c4b0 : decide (x8_1 < (l0_0.length : Int)) = true := decide_eq_true c4
     clear c4
     by_cases c5 : 0 ≤ x8_1
     case neg => rw [if_neg c5] at H; exact absurd H (by simp)
     rw [if_pos c5] at H
     have c5b0 : decide (0 ≤ x8_1) = true := decide_eq_true c5
     clear c5
     by_cases c6 : x8_1 < (l0_0.length : Int)
     case neg => rw [if_neg c6] at H; exact absurd H (by simp)
     rw [if_pos c6] at H
     have c6b0 : decide (x8_1 < (l0_0.length : Int)) = true := decide_eq_true c6
     clear c6
     replace H := Option.bind_eq_some_iff.mp H
     obtain ⟨t308, A70, H⟩ := H
     replace H : (if t308 = true then (if x8_1 > 0 then (if 0 ≤ (wrap64 (x8_1 - 1)) then (if (wrap64 (x8_1 - 1)) < (l0_0.length : Int) then (if ((rd_T42 l0_0 (wrap64 (x8_1 - 1))).f0) ≥ ((rd_T42 l0_0 x8_1).f0) then (some false) else (host_Right.l0 k1 l0_0 (l0_0.length : Int) (wrap64 (x8_1 + 1)) l0_0)) else (none)) else (none)) else (host_Right.l0 k1 l0_0 (l0_0.length : Int) (wrap64 (x8_1 + 1)) l0_0)) else (some false)) = some r := H
     have A7 := Aside0.mk A70
     clear A70
     by_cases c8 : t308 = true
     · subst c8
       replace H : (if x8_1 > 0 then (if 0 ≤ (wrap64 (x8_1 - 1)) then (if (wrap64 (x8_1 - 1)) < (l0_0.length : Int) then (if ((rd_T42 l0_0 (wrap64 (x8_1 - 1))).f0) ≥ ((rd_T42 l0_0 x8_1).f0) then (some false) else (host_Right.l0 k1 l0_0 (l0_0.length : Int) (wrap64 (x8_1 + 1)) l0_0)) else (none)) else (none)) else (host_Right.l0 k1 l0_0 (l0_0.length : Int) (wrap64 (x8_1 + 1)) l0_0)) = some r := by rw [if_pos rfl] at H; exact H
       by_cases c9 : x8_1 > 0
       · rw [if_pos c9] at H
         have c9b0 : decide (0 < x8_1) = true := decide_eq_true c9
         clear c9
         obtain ⟨ji10, hji10⟩ : ∃ j_ : Int, (wrap64 (x8_1 - 1)) = j_ := ⟨_, rfl⟩
         replace H : (if 0 ≤ (ji10) then (if (ji10) < (l0_0.length : Int) then (if ((rd_T42 l0_0 (ji10)).f0) ≥ ((rd_T42 l0_0 x8_1).f0) then (some false) else (host_Right.l0 k1 l0_0 (l0_0.length : Int) (wrap64 (x8_1 + 1)) l0_0)) else (none)) else (none)) = some r := by first | (rw [hji10] at H; exact H) | (simp only [hji10] at H ⊢; exact H)
         (try rw [hji10] at A7)
         have hji10w : (IntKind.i64.wrap (x8_1 - 1)) = ji10 := (i64_w _).trans hji10
         by_cases c11 : 0 ≤ (ji10)
         case neg => rw [if_neg c11] at H; exact absurd H (by simp)
         rw [if_pos c11] at H
         have c11b0 : decide (0 ≤ (ji10)) = true := decide_eq_true c11
         clear c11
         by_cases c12 : (ji10) < (l0_0.length : Int)
         case neg => rw [if_neg c12] at H; exact absurd H (by simp)
         rw [if_pos c12] at H
         have c12b0 : decide ((ji10) < (l0_0.length : Int)) = true := decide_eq_true c12
         clear c12
         by_cases c13 : ((rd_T42 l0_0 (ji10)).f0) ≥ ((rd_T42 l0_0 x8_1).f0)
         · rw [if_pos c13] at H
           have c13b0 : decide (((rd_T42 l0_0 x8_1).f0) ≤ ((rd_T42 l0_0 (ji10)).f0)) = true := decide_eq_true c13
           clear c13
           obtain rfl := Option.some.inj H
           have p306 : 0 ≤ (x8_1 : Int) := od
           have q306 : x8_1 < (l0_0.length : Int) := od
           obtain ⟨ad306, A306_3, c306_3, e306, hx306_0, hx306_1, hx306_2, hx306_3, hl306_3, hi306_3⟩ := at_T42 HR0_0.out x8_1 p306 q306
           cases e306
           replace hx306_0 := hcz HB hx306_0
           replace hx306_1 := hcz HB hx306_1
           replace hx306_2 := hcz HB hx306_2
           replace hx306_3 := hcz HB hx306_3
           have HR306_3 := Aside0.mk hi306_3
           have HC306_3 := Aside0.mk hl306_3
           clear hi306_3 hl306_3
           replace p306 := eq_true p306
           replace q306 := eq_true q306
           try go_wp2_with (first | ((with_reducible refine gate_dst (N := 4) rfl ?_); refine bxn (cs := #[.int .i64 0, .int .u32 0, .bool false, .slice none 0 0]) (t := 42) ?_; intro gb307 hg w14 hbox hb; have n0_ := Aside0.mk (blk_below BK305.out hb); have n1_ := Aside0.mk (below_step HB.out hb); have n2_ := Aside0.mk (hbox); have n3_ := Aside0.mk ((by rw [hg]; exact (below_size HB.out) : w.heap.size ≤ gb307)); have n4_ := Aside0.mk ((by rw [hg]; exact (below_size HB.out) : w.heap.size ≤ gb307)); have n5_ := Aside0.mk ((by rw [hg]; exact Nat.ne_of_lt (blk_lt BK305.out) : gb305 ≠ gb307)); have n6_ := Aside0.mk ((by rw [hg]; exact Nat.ne_of_gt (blk_lt BK305.out) : gb307 ≠ gb305)); clear BK305; clear HB; have BK305 := n0_; have HB := n1_; have BK307 := n2_; have GW307 := n3_; have GE307 := n4_; have NB305_307 := n5_; have NB307_305 := n6_; clear n0_ n1_ n2_ n3_ n4_ n5_ n6_; clear hb hbox hg; have hnb15 := NB307_305.out; have hnc15 := NB305_307.out; obtain ⟨hcz16_0, hcz16_1, hcz16_2, hcz16_3, hfz16_0, hfz16_1, hfz16_2, hfz16_3⟩ := cf4 BK307.out))
           have n0_ : Aside0 (((((w14.setCell ⟨gb307, 0, none⟩ (.int .i64 ((rd_T42 l0_0 x8_1).f0))).setCell ⟨gb307, 1, none⟩ (.int .u32 ((rd_T42 l0_0 x8_1).f1))).setCell ⟨gb307, 2, none⟩ (.bool ((rd_T42 l0_0 x8_1).f2.f0))).setCell ⟨gb307, 3, none⟩ (.slice A306_3 ((rd_T42 l0_0 x8_1).f2.f1).length c306_3)).heap[gb305]? = some (.cells #[.slice (some ad306) l0_0.length c0_0] 40 (0, 0))) := ⟨by refine ba ?_; refine blk_far ?_ NB305_307.out _; refine ba ?_; refine blk_far ?_ NB305_307.out _; refine ba ?_; refine blk_far ?_ NB305_307.out _; refine ba ?_; refine blk_far ?_ NB305_307.out _; refine ba ?_; exact BK305.out⟩
           have n1_ : Aside0 (((((w14.setCell ⟨gb307, 0, none⟩ (.int .i64 ((rd_T42 l0_0 x8_1).f0))).setCell ⟨gb307, 1, none⟩ (.int .u32 ((rd_T42 l0_0 x8_1).f1))).setCell ⟨gb307, 2, none⟩ (.bool ((rd_T42 l0_0 x8_1).f2.f0))).setCell ⟨gb307, 3, none⟩ (.slice A306_3 ((rd_T42 l0_0 x8_1).f2.f1).length c306_3)).heap[gb307]? = some (.cells #[.int .i64 ((rd_T42 l0_0 x8_1).f0), .int .u32 ((rd_T42 l0_0 x8_1).f1), .bool ((rd_T42 l0_0 x8_1).f2.f0), .slice A306_3 ((rd_T42 l0_0 x8_1).f2.f1).length c306_3] 42 (0, 0))) := ⟨by refine ba ?_; refine blk_put (cs := #[.int .i64 ((rd_T42 l0_0 x8_1).f0), .int .u32 ((rd_T42 l0_0 x8_1).f1), .bool ((rd_T42 l0_0 x8_1).f2.f0), .slice none 0 0]) ?_ 3 _ rfl; refine ba ?_; refine blk_put (cs := #[.int .i64 ((rd_T42 l0_0 x8_1).f0), .int .u32 ((rd_T42 l0_0 x8_1).f1), .bool false, .slice none 0 0]) ?_ 2 _ rfl; refine ba ?_; refine blk_put (cs := #[.int .i64 ((rd_T42 l0_0 x8_1).f0), .int .u32 0, .bool false, .slice none 0 0]) ?_ 1 _ rfl; refine ba ?_; refine blk_put (cs := #[.int .i64 0, .int .u32 0, .bool false, .slice none 0 0]) ?_ 0 _ rfl; refine ba ?_; exact BK307.out⟩
           have n2_ : Aside0 (Below w.heap.size w ((((w14.setCell ⟨gb307, 0, none⟩ (.int .i64 ((rd_T42 l0_0 x8_1).f0))).setCell ⟨gb307, 1, none⟩ (.int .u32 ((rd_T42 l0_0 x8_1).f1))).setCell ⟨gb307, 2, none⟩ (.bool ((rd_T42 l0_0 x8_1).f2.f0))).setCell ⟨gb307, 3, none⟩ (.slice A306_3 ((rd_T42 l0_0 x8_1).f2.f1).length c306_3))) := ⟨bl HB⟩
           (try clear BK305)
           (try clear BK307)
           (try clear HB)
           generalize ((((w14.setCell ⟨gb307, 0, none⟩ (.int .i64 ((rd_T42 l0_0 x8_1).f0))).setCell ⟨gb307, 1, none⟩ (.int .u32 ((rd_T42 l0_0 x8_1).f1))).setCell ⟨gb307, 2, none⟩ (.bool ((rd_T42 l0_0 x8_1).f2.f0))).setCell ⟨gb307, 3, none⟩ (.slice A306_3 ((rd_T42 l0_0 x8_1).f2.f1).length c306_3)) = w17 at n0_ n1_ n2_ ⊢
           have BK305 := n0_
           have BK307 := n1_
           have HB := n2_
           clear n0_ n1_ n2_
           have n0_ := Aside0.mk (blk_drew BK305.out)
           have n1_ := Aside0.mk (blk_drew BK307.out)
           have n2_ := Aside0.mk (below_drew1 HB.out)
           clear BK305
           clear BK307
           clear HB
           have BK305 := n0_
           have BK307 := n1_
           have HB := n2_
           clear n0_ n1_ n2_
           have p309 : 0 ≤ ((ji10) : Int) := od
           have q309 : (ji10) < (l0_0.length : Int) := od
           obtain ⟨ad309, A309_3, c309_3, e309, hx309_0, hx309_1, hx309_2, hx309_3, hl309_3, hi309_3⟩ := at_T42 HR0_0.out (ji10) p309 q309
           have hw309_3 := hx309_3
           have hw309_2 := hx309_2
           have hw309_1 := hx309_1
           have hw309_0 := hx309_0
           obtain rfl : ad306 = ad309 := (by injection e309)
           replace hx309_0 := hcz HB hx309_0
           replace hx309_1 := hcz HB hx309_1
           replace hx309_2 := hcz HB hx309_2
           replace hx309_3 := hcz HB hx309_3
           have HR309_3 := Aside0.mk hi309_3
           have HC309_3 := Aside0.mk hl309_3
           clear hi309_3 hl309_3
           replace p309 := eq_true p309
           replace q309 := eq_true q309
           refine start_ (n := 19) (S := fun w' => w'.cell? ⟨gb307, 0, none⟩ = some (.int .i64 ((rd_T42 l0_0 x8_1).f0)) ∧ w'.cell? ⟨gb307, 1, none⟩ = some (.int .u32 ((rd_T42 l0_0 x8_1).f1)) ∧ w'.cell? ⟨gb307, 2, none⟩ = some (.bool ((rd_T42 l0_0 x8_1).f2.f0)) ∧ w'.cell? ⟨gb307, 3, none⟩ = some (.slice A306_3 ((rd_T42 l0_0 x8_1).f2.f1).length c306_3) ∧ w'.cell? ⟨gb305, 0, none⟩ = some (.slice (some ad306) l0_0.length c0_0) ∧ w'.cell? (ad306.add (((ji10)).toNat * 4)) = some (.int .i64 ((rd_T42 l0_0 (ji10)).f0)) ∧ w'.cell? ⟨(ad306.add (((ji10)).toNat * 4)).block, (ad306.add (((ji10)).toNat * 4)).off + 1, none⟩ = some (.int .u32 ((rd_T42 l0_0 (ji10)).f1)) ∧ w'.cell? ⟨(ad306.add (((ji10)).toNat * 4)).block, (ad306.add (((ji10)).toNat * 4)).off + 2, none⟩ = some (.bool ((rd_T42 l0_0 (ji10)).f2.f0)) ∧ w'.cell? ⟨(ad306.add (((ji10)).toNat * 4)).block, (ad306.add (((ji10)).toNat * 4)).off + 3, none⟩ = some (.slice A309_3 ((rd_T42 l0_0 (ji10)).f2.f1).length c309_3)) (ds := []) #[false, false, false, false, false, false, false, false, false, false, false, false, false, false, false, false, false, false, false] (by kernel_rfl) rfl rfl ⟨(blk_cell BK307.out 0).trans rfl, (blk_cell BK307.out 1).trans rfl, (blk_cell BK307.out 2).trans rfl, (blk_cell BK307.out 3).trans rfl, (blk_cell BK305.out 0).trans rfl, ((HB.out.cell (World.block_lt_of_cell? w _ hw309_0)).trans hw309_0), ((HB.out.cell (World.block_lt_of_cell? w _ hw309_1)).trans hw309_1), ((HB.out.cell (World.block_lt_of_cell? w _ hw309_2)).trans hw309_2), ((HB.out.cell (World.block_lt_of_cell? w _ hw309_3)).trans hw309_3)⟩ (fun hHeld => ?_); refine with_tabW host_Right.tab4 host_Right.bits4 (fun HT_ HW_ => ?_)
           generalize w17.drew = w18 at BK305 BK307 HB HR309_3 hx309_0 hx309_1 hx309_2 hx309_3 hHeld ⊢
           refine tk 0 13 (bb 19 1) rfl rfl HT_ HW_ hHeld ?_
           refine on1 1 (some 14) (bb 19 3) rfl rfl HT_ (fun K hK => ?_)
           refine gfn Try.func30 #[.agg #[.int .i64 ((rd_T42 l0_0 x8_1).f0), .int .u32 ((rd_T42 l0_0 x8_1).f1), .bool ((rd_T42 l0_0 x8_1).f2.f0), .slice A306_3 ((rd_T42 l0_0 x8_1).f2.f1).length c306_3]] ?_
           with_reducible refine (host_right.calls k1 ((rd_T42 l0_0 x8_1).f0) ((rd_T42 l0_0 x8_1).f1) ((rd_T42 l0_0 x8_1).f2.f0) _ _ ((rd_T42 l0_0 x8_1).f2.f1) true _ ?side1 ?side2 A7.out).mono ?_
           (case side1 => exact ca (Kd.C_below HR306_3.out HB.out))
           (case side2 => exact HC306_3.out)
           rintro e w19 ⟨rfl, hb⟩
           refine ⟨_, rfl, ?_⟩
           have n0_ := Aside0.mk (blk_below BK305.out hb)
           have n1_ := Aside0.mk (blk_below BK307.out hb)
           have n2_ := Aside0.mk (below_step HB.out hb)
           clear BK305
           clear BK307
           clear HB
           have BK305 := n0_
           have BK307 := n1_
           have HB := n2_
           clear n0_ n1_ n2_
           (try clear hb)
           (try clear hb2)
           (try clear hk)
           (try clear hi)
           refine hK.out _ _ ⟨(blk_cell BK307.out 0).trans rfl, (blk_cell BK307.out 1).trans rfl, (blk_cell BK307.out 2).trans rfl, (blk_cell BK307.out 3).trans rfl, (blk_cell BK305.out 0).trans rfl, ((HB.out.cell (World.block_lt_of_cell? w _ hw309_0)).trans hw309_0), ((HB.out.cell (World.block_lt_of_cell? w _ hw309_1)).trans hw309_1), ((HB.out.cell (World.block_lt_of_cell? w _ hw309_2)).trans hw309_2), ((HB.out.cell (World.block_lt_of_cell? w _ hw309_3)).trans hw309_3)⟩ (fun hHeld => ?_)
           clear hK K
           refine nm ?_
           refine pw 2 15 (bb 19 7) rfl rfl HT_ ?_
           refine pw 3 16 (bb 19 15) rfl rfl HT_ ?_
           refine pw 4 17 (bb 19 31) rfl rfl HT_ ?_
           refine pw 5 18 (bb 19 63) rfl rfl HT_ ?_
           refine pw 6 19 (bb 19 127) rfl rfl HT_ ?_
           refine pw 7 20 (bb 19 255) rfl rfl HT_ ?_
           refine pw 9 22 (bb 19 767) rfl rfl HT_ ?_
           refine pw 10 23 (bb 19 1791) rfl rfl HT_ ?_
           refine pw 14 27 (bb 19 18175) rfl rfl HT_ ?_
           refine tk 8 21 (bb 19 18431) rfl rfl HT_ HW_ hHeld ?_
           refine pw 11 24 (bb 19 20479) rfl rfl HT_ ?_
           refine pw 12 25 (bb 19 24575) rfl rfl HT_ ?_
           refine tk 13 26 (bb 19 32767) rfl rfl HT_ HW_ hHeld ?_
           refine tk 15 28 (bb 19 65535) rfl rfl HT_ HW_ hHeld ?_
           refine pw 16 29 (bb 19 131071) rfl rfl HT_ ?_
           refine pw 17 30 (bb 19 262143) rfl rfl HT_ ?_
           refine pw 18 31 (bb 19 524287) rfl rfl HT_ ?_
           refine done_ (done_of HT_.out (by kernel_rfl)) ?_
           try go_wp2
           go_ret
           exact ⟨by first | rfl | (simp [errW_none, errW_some] <;> rfl) | (simp only [← hji10]; first | rfl | (simp [errW_none, errW_some] <;> rfl)) | (simp [*, errW_none, errW_some] <;> rfl), bl HB⟩
         · rw [if_neg c13] at H
           have c13b0 : decide (((rd_T42 l0_0 x8_1).f0) ≤ ((rd_T42 l0_0 (ji10)).f0)) = false := decide_eq_false c13
           clear c13
           have H' := Aside0.mk H
           clear H
           have p306 : 0 ≤ (x8_1 : Int) := od
           have q306 : x8_1 < (l0_0.length : Int) := od
           obtain ⟨ad306, A306_3, c306_3, e306, hx306_0, hx306_1, hx306_2, hx306_3, hl306_3, hi306_3⟩ := at_T42 HR0_0.out x8_1 p306 q306
           cases e306
           replace hx306_0 := hcz HB hx306_0
           replace hx306_1 := hcz HB hx306_1
           replace hx306_2 := hcz HB hx306_2
           replace hx306_3 := hcz HB hx306_3
           have HR306_3 := Aside0.mk hi306_3
           have HC306_3 := Aside0.mk hl306_3
           clear hi306_3 hl306_3
           replace p306 := eq_true p306
           replace q306 := eq_true q306
           try go_wp2_with (first | ((with_reducible refine gate_dst (N := 4) rfl ?_); refine bxn (cs := #[.int .i64 0, .int .u32 0, .bool false, .slice none 0 0]) (t := 42) ?_; intro gb307 hg w20 hbox hb; have n0_ := Aside0.mk (blk_below BK305.out hb); have n1_ := Aside0.mk (below_step HB.out hb); have n2_ := Aside0.mk (hbox); have n3_ := Aside0.mk ((by rw [hg]; exact (below_size HB.out) : w.heap.size ≤ gb307)); have n4_ := Aside0.mk ((by rw [hg]; exact (below_size HB.out) : w.heap.size ≤ gb307)); have n5_ := Aside0.mk ((by rw [hg]; exact Nat.ne_of_lt (blk_lt BK305.out) : gb305 ≠ gb307)); have n6_ := Aside0.mk ((by rw [hg]; exact Nat.ne_of_gt (blk_lt BK305.out) : gb307 ≠ gb305)); clear BK305; clear HB; have BK305 := n0_; have HB := n1_; have BK307 := n2_; have GW307 := n3_; have GE307 := n4_; have NB305_307 := n5_; have NB307_305 := n6_; clear n0_ n1_ n2_ n3_ n4_ n5_ n6_; clear hb hbox hg; have hnb21 := NB307_305.out; have hnc21 := NB305_307.out; obtain ⟨hcz22_0, hcz22_1, hcz22_2, hcz22_3, hfz22_0, hfz22_1, hfz22_2, hfz22_3⟩ := cf4 BK307.out))
           have n0_ : Aside0 (((((w20.setCell ⟨gb307, 0, none⟩ (.int .i64 ((rd_T42 l0_0 x8_1).f0))).setCell ⟨gb307, 1, none⟩ (.int .u32 ((rd_T42 l0_0 x8_1).f1))).setCell ⟨gb307, 2, none⟩ (.bool ((rd_T42 l0_0 x8_1).f2.f0))).setCell ⟨gb307, 3, none⟩ (.slice A306_3 ((rd_T42 l0_0 x8_1).f2.f1).length c306_3)).heap[gb305]? = some (.cells #[.slice (some ad306) l0_0.length c0_0] 40 (0, 0))) := ⟨by refine ba ?_; refine blk_far ?_ NB305_307.out _; refine ba ?_; refine blk_far ?_ NB305_307.out _; refine ba ?_; refine blk_far ?_ NB305_307.out _; refine ba ?_; refine blk_far ?_ NB305_307.out _; refine ba ?_; exact BK305.out⟩
           have n1_ : Aside0 (((((w20.setCell ⟨gb307, 0, none⟩ (.int .i64 ((rd_T42 l0_0 x8_1).f0))).setCell ⟨gb307, 1, none⟩ (.int .u32 ((rd_T42 l0_0 x8_1).f1))).setCell ⟨gb307, 2, none⟩ (.bool ((rd_T42 l0_0 x8_1).f2.f0))).setCell ⟨gb307, 3, none⟩ (.slice A306_3 ((rd_T42 l0_0 x8_1).f2.f1).length c306_3)).heap[gb307]? = some (.cells #[.int .i64 ((rd_T42 l0_0 x8_1).f0), .int .u32 ((rd_T42 l0_0 x8_1).f1), .bool ((rd_T42 l0_0 x8_1).f2.f0), .slice A306_3 ((rd_T42 l0_0 x8_1).f2.f1).length c306_3] 42 (0, 0))) := ⟨by refine ba ?_; refine blk_put (cs := #[.int .i64 ((rd_T42 l0_0 x8_1).f0), .int .u32 ((rd_T42 l0_0 x8_1).f1), .bool ((rd_T42 l0_0 x8_1).f2.f0), .slice none 0 0]) ?_ 3 _ rfl; refine ba ?_; refine blk_put (cs := #[.int .i64 ((rd_T42 l0_0 x8_1).f0), .int .u32 ((rd_T42 l0_0 x8_1).f1), .bool false, .slice none 0 0]) ?_ 2 _ rfl; refine ba ?_; refine blk_put (cs := #[.int .i64 ((rd_T42 l0_0 x8_1).f0), .int .u32 0, .bool false, .slice none 0 0]) ?_ 1 _ rfl; refine ba ?_; refine blk_put (cs := #[.int .i64 0, .int .u32 0, .bool false, .slice none 0 0]) ?_ 0 _ rfl; refine ba ?_; exact BK307.out⟩
           have n2_ : Aside0 (Below w.heap.size w ((((w20.setCell ⟨gb307, 0, none⟩ (.int .i64 ((rd_T42 l0_0 x8_1).f0))).setCell ⟨gb307, 1, none⟩ (.int .u32 ((rd_T42 l0_0 x8_1).f1))).setCell ⟨gb307, 2, none⟩ (.bool ((rd_T42 l0_0 x8_1).f2.f0))).setCell ⟨gb307, 3, none⟩ (.slice A306_3 ((rd_T42 l0_0 x8_1).f2.f1).length c306_3))) := ⟨bl HB⟩
           (try clear BK305)
           (try clear BK307)
           (try clear HB)
           generalize ((((w20.setCell ⟨gb307, 0, none⟩ (.int .i64 ((rd_T42 l0_0 x8_1).f0))).setCell ⟨gb307, 1, none⟩ (.int .u32 ((rd_T42 l0_0 x8_1).f1))).setCell ⟨gb307, 2, none⟩ (.bool ((rd_T42 l0_0 x8_1).f2.f0))).setCell ⟨gb307, 3, none⟩ (.slice A306_3 ((rd_T42 l0_0 x8_1).f2.f1).length c306_3)) = w23 at n0_ n1_ n2_ ⊢
           have BK305 := n0_
           have BK307 := n1_
           have HB := n2_
           clear n0_ n1_ n2_
           have n0_ := Aside0.mk (blk_drew BK305.out)
           have n1_ := Aside0.mk (blk_drew BK307.out)
           have n2_ := Aside0.mk (below_drew1 HB.out)
           clear BK305
           clear BK307
           clear HB
           have BK305 := n0_
           have BK307 := n1_
           have HB := n2_
           clear n0_ n1_ n2_
           have p309 : 0 ≤ ((ji10) : Int) := od
           have q309 : (ji10) < (l0_0.length : Int) := od
           obtain ⟨ad309, A309_3, c309_3, e309, hx309_0, hx309_1, hx309_2, hx309_3, hl309_3, hi309_3⟩ := at_T42 HR0_0.out (ji10) p309 q309
           have hw309_3 := hx309_3
           have hw309_2 := hx309_2
           have hw309_1 := hx309_1
           have hw309_0 := hx309_0
           obtain rfl : ad306 = ad309 := (by injection e309)
           replace hx309_0 := hcz HB hx309_0
           replace hx309_1 := hcz HB hx309_1
           replace hx309_2 := hcz HB hx309_2
           replace hx309_3 := hcz HB hx309_3
           have HR309_3 := Aside0.mk hi309_3
           have HC309_3 := Aside0.mk hl309_3
           clear hi309_3 hl309_3
           replace p309 := eq_true p309
           replace q309 := eq_true q309
           refine start_ (n := 19) (S := fun w' => w'.cell? ⟨gb307, 0, none⟩ = some (.int .i64 ((rd_T42 l0_0 x8_1).f0)) ∧ w'.cell? ⟨gb307, 1, none⟩ = some (.int .u32 ((rd_T42 l0_0 x8_1).f1)) ∧ w'.cell? ⟨gb307, 2, none⟩ = some (.bool ((rd_T42 l0_0 x8_1).f2.f0)) ∧ w'.cell? ⟨gb307, 3, none⟩ = some (.slice A306_3 ((rd_T42 l0_0 x8_1).f2.f1).length c306_3) ∧ w'.cell? ⟨gb305, 0, none⟩ = some (.slice (some ad306) l0_0.length c0_0) ∧ w'.cell? (ad306.add (((ji10)).toNat * 4)) = some (.int .i64 ((rd_T42 l0_0 (ji10)).f0)) ∧ w'.cell? ⟨(ad306.add (((ji10)).toNat * 4)).block, (ad306.add (((ji10)).toNat * 4)).off + 1, none⟩ = some (.int .u32 ((rd_T42 l0_0 (ji10)).f1)) ∧ w'.cell? ⟨(ad306.add (((ji10)).toNat * 4)).block, (ad306.add (((ji10)).toNat * 4)).off + 2, none⟩ = some (.bool ((rd_T42 l0_0 (ji10)).f2.f0)) ∧ w'.cell? ⟨(ad306.add (((ji10)).toNat * 4)).block, (ad306.add (((ji10)).toNat * 4)).off + 3, none⟩ = some (.slice A309_3 ((rd_T42 l0_0 (ji10)).f2.f1).length c309_3)) (ds := []) #[false, false, false, false, false, false, false, false, false, false, false, false, false, false, false, false, false, false, false] (by kernel_rfl) rfl rfl ⟨(blk_cell BK307.out 0).trans rfl, (blk_cell BK307.out 1).trans rfl, (blk_cell BK307.out 2).trans rfl, (blk_cell BK307.out 3).trans rfl, (blk_cell BK305.out 0).trans rfl, ((HB.out.cell (World.block_lt_of_cell? w _ hw309_0)).trans hw309_0), ((HB.out.cell (World.block_lt_of_cell? w _ hw309_1)).trans hw309_1), ((HB.out.cell (World.block_lt_of_cell? w _ hw309_2)).trans hw309_2), ((HB.out.cell (World.block_lt_of_cell? w _ hw309_3)).trans hw309_3)⟩ (fun hHeld => ?_); refine with_tabW host_Right.tab4 host_Right.bits4 (fun HT_ HW_ => ?_)
           generalize w23.drew = w24 at BK305 BK307 HB HR309_3 hx309_0 hx309_1 hx309_2 hx309_3 hHeld ⊢
           refine tk 0 13 (bb 19 1) rfl rfl HT_ HW_ hHeld ?_
           refine on1 1 (some 14) (bb 19 3) rfl rfl HT_ (fun K hK => ?_)
           refine gfn Try.func30 #[.agg #[.int .i64 ((rd_T42 l0_0 x8_1).f0), .int .u32 ((rd_T42 l0_0 x8_1).f1), .bool ((rd_T42 l0_0 x8_1).f2.f0), .slice A306_3 ((rd_T42 l0_0 x8_1).f2.f1).length c306_3]] ?_
           with_reducible refine (host_right.calls k1 ((rd_T42 l0_0 x8_1).f0) ((rd_T42 l0_0 x8_1).f1) ((rd_T42 l0_0 x8_1).f2.f0) _ _ ((rd_T42 l0_0 x8_1).f2.f1) true _ ?side1 ?side2 A7.out).mono ?_
           (case side1 => exact ca (Kd.C_below HR306_3.out HB.out))
           (case side2 => exact HC306_3.out)
           rintro e w25 ⟨rfl, hb⟩
           refine ⟨_, rfl, ?_⟩
           have n0_ := Aside0.mk (blk_below BK305.out hb)
           have n1_ := Aside0.mk (blk_below BK307.out hb)
           have n2_ := Aside0.mk (below_step HB.out hb)
           clear BK305
           clear BK307
           clear HB
           have BK305 := n0_
           have BK307 := n1_
           have HB := n2_
           clear n0_ n1_ n2_
           (try clear hb)
           (try clear hb2)
           (try clear hk)
           (try clear hi)
           refine hK.out _ _ ⟨(blk_cell BK307.out 0).trans rfl, (blk_cell BK307.out 1).trans rfl, (blk_cell BK307.out 2).trans rfl, (blk_cell BK307.out 3).trans rfl, (blk_cell BK305.out 0).trans rfl, ((HB.out.cell (World.block_lt_of_cell? w _ hw309_0)).trans hw309_0), ((HB.out.cell (World.block_lt_of_cell? w _ hw309_1)).trans hw309_1), ((HB.out.cell (World.block_lt_of_cell? w _ hw309_2)).trans hw309_2), ((HB.out.cell (World.block_lt_of_cell? w _ hw309_3)).trans hw309_3)⟩ (fun hHeld => ?_)
           clear hK K
           refine nm ?_
           refine pw 2 15 (bb 19 7) rfl rfl HT_ ?_
           refine pw 3 16 (bb 19 15) rfl rfl HT_ ?_
           refine pw 4 17 (bb 19 31) rfl rfl HT_ ?_
           refine pw 5 18 (bb 19 63) rfl rfl HT_ ?_
           refine pw 6 19 (bb 19 127) rfl rfl HT_ ?_
           refine pw 7 20 (bb 19 255) rfl rfl HT_ ?_
           refine pw 9 22 (bb 19 767) rfl rfl HT_ ?_
           refine pw 10 23 (bb 19 1791) rfl rfl HT_ ?_
           refine pw 14 27 (bb 19 18175) rfl rfl HT_ ?_
           refine tk 8 21 (bb 19 18431) rfl rfl HT_ HW_ hHeld ?_
           refine pw 11 24 (bb 19 20479) rfl rfl HT_ ?_
           refine pw 12 25 (bb 19 24575) rfl rfl HT_ ?_
           refine tk 13 26 (bb 19 32767) rfl rfl HT_ HW_ hHeld ?_
           refine tk 15 28 (bb 19 65535) rfl rfl HT_ HW_ hHeld ?_
           refine pw 16 29 (bb 19 131071) rfl rfl HT_ ?_
           refine pw 17 30 (bb 19 262143) rfl rfl HT_ ?_
           refine pw 18 31 (bb 19 524287) rfl rfl HT_ ?_
           refine done_ (done_of HT_.out (by kernel_rfl)) ?_
           try go_wp2
           go_roundg k1
           case measure => have := HK1.out; omega
           case rel => exact ⟨(wrap64 (x8_1 + 1)), (fr), H', ⟨by have := HK1.out; omega⟩, ⟨BK305.out⟩, ⟨HB.out⟩⟩
       · rw [if_neg c9] at H
         have c9b0 : decide (0 < x8_1) = false := decide_eq_false c9
         clear c9
         have H' := Aside0.mk H
         clear H
         have p306 : 0 ≤ (x8_1 : Int) := od
         have q306 : x8_1 < (l0_0.length : Int) := od
         obtain ⟨ad306, A306_3, c306_3, e306, hx306_0, hx306_1, hx306_2, hx306_3, hl306_3, hi306_3⟩ := at_T42 HR0_0.out x8_1 p306 q306
         cases e306
         replace hx306_0 := hcz HB hx306_0
         replace hx306_1 := hcz HB hx306_1
         replace hx306_2 := hcz HB hx306_2
         replace hx306_3 := hcz HB hx306_3
         have HR306_3 := Aside0.mk hi306_3
         have HC306_3 := Aside0.mk hl306_3
         clear hi306_3 hl306_3
         replace p306 := eq_true p306
         replace q306 := eq_true q306
         try go_wp2_with (first | ((with_reducible refine gate_dst (N := 4) rfl ?_); refine bxn (cs := #[.int .i64 0, .int .u32 0, .bool false, .slice none 0 0]) (t := 42) ?_; intro gb307 hg w26 hbox hb; have n0_ := Aside0.mk (blk_below BK305.out hb); have n1_ := Aside0.mk (below_step HB.out hb); have n2_ := Aside0.mk (hbox); have n3_ := Aside0.mk ((by rw [hg]; exact (below_size HB.out) : w.heap.size ≤ gb307)); have n4_ := Aside0.mk ((by rw [hg]; exact (below_size HB.out) : w.heap.size ≤ gb307)); have n5_ := Aside0.mk ((by rw [hg]; exact Nat.ne_of_lt (blk_lt BK305.out) : gb305 ≠ gb307)); have n6_ := Aside0.mk ((by rw [hg]; exact Nat.ne_of_gt (blk_lt BK305.out) : gb307 ≠ gb305)); clear BK305; clear HB; have BK305 := n0_; have HB := n1_; have BK307 := n2_; have GW307 := n3_; have GE307 := n4_; have NB305_307 := n5_; have NB307_305 := n6_; clear n0_ n1_ n2_ n3_ n4_ n5_ n6_; clear hb hbox hg; have hnb27 := NB307_305.out; have hnc27 := NB305_307.out; obtain ⟨hcz28_0, hcz28_1, hcz28_2, hcz28_3, hfz28_0, hfz28_1, hfz28_2, hfz28_3⟩ := cf4 BK307.out))
         have n0_ : Aside0 (((((w26.setCell ⟨gb307, 0, none⟩ (.int .i64 ((rd_T42 l0_0 x8_1).f0))).setCell ⟨gb307, 1, none⟩ (.int .u32 ((rd_T42 l0_0 x8_1).f1))).setCell ⟨gb307, 2, none⟩ (.bool ((rd_T42 l0_0 x8_1).f2.f0))).setCell ⟨gb307, 3, none⟩ (.slice A306_3 ((rd_T42 l0_0 x8_1).f2.f1).length c306_3)).heap[gb305]? = some (.cells #[.slice (some ad306) l0_0.length c0_0] 40 (0, 0))) := ⟨by refine ba ?_; refine blk_far ?_ NB305_307.out _; refine ba ?_; refine blk_far ?_ NB305_307.out _; refine ba ?_; refine blk_far ?_ NB305_307.out _; refine ba ?_; refine blk_far ?_ NB305_307.out _; refine ba ?_; exact BK305.out⟩
         have n1_ : Aside0 (((((w26.setCell ⟨gb307, 0, none⟩ (.int .i64 ((rd_T42 l0_0 x8_1).f0))).setCell ⟨gb307, 1, none⟩ (.int .u32 ((rd_T42 l0_0 x8_1).f1))).setCell ⟨gb307, 2, none⟩ (.bool ((rd_T42 l0_0 x8_1).f2.f0))).setCell ⟨gb307, 3, none⟩ (.slice A306_3 ((rd_T42 l0_0 x8_1).f2.f1).length c306_3)).heap[gb307]? = some (.cells #[.int .i64 ((rd_T42 l0_0 x8_1).f0), .int .u32 ((rd_T42 l0_0 x8_1).f1), .bool ((rd_T42 l0_0 x8_1).f2.f0), .slice A306_3 ((rd_T42 l0_0 x8_1).f2.f1).length c306_3] 42 (0, 0))) := ⟨by refine ba ?_; refine blk_put (cs := #[.int .i64 ((rd_T42 l0_0 x8_1).f0), .int .u32 ((rd_T42 l0_0 x8_1).f1), .bool ((rd_T42 l0_0 x8_1).f2.f0), .slice none 0 0]) ?_ 3 _ rfl; refine ba ?_; refine blk_put (cs := #[.int .i64 ((rd_T42 l0_0 x8_1).f0), .int .u32 ((rd_T42 l0_0 x8_1).f1), .bool false, .slice none 0 0]) ?_ 2 _ rfl; refine ba ?_; refine blk_put (cs := #[.int .i64 ((rd_T42 l0_0 x8_1).f0), .int .u32 0, .bool false, .slice none 0 0]) ?_ 1 _ rfl; refine ba ?_; refine blk_put (cs := #[.int .i64 0, .int .u32 0, .bool false, .slice none 0 0]) ?_ 0 _ rfl; refine ba ?_; exact BK307.out⟩
         have n2_ : Aside0 (Below w.heap.size w ((((w26.setCell ⟨gb307, 0, none⟩ (.int .i64 ((rd_T42 l0_0 x8_1).f0))).setCell ⟨gb307, 1, none⟩ (.int .u32 ((rd_T42 l0_0 x8_1).f1))).setCell ⟨gb307, 2, none⟩ (.bool ((rd_T42 l0_0 x8_1).f2.f0))).setCell ⟨gb307, 3, none⟩ (.slice A306_3 ((rd_T42 l0_0 x8_1).f2.f1).length c306_3))) := ⟨bl HB⟩
         (try clear BK305)
         (try clear BK307)
         (try clear HB)
         generalize ((((w26.setCell ⟨gb307, 0, none⟩ (.int .i64 ((rd_T42 l0_0 x8_1).f0))).setCell ⟨gb307, 1, none⟩ (.int .u32 ((rd_T42 l0_0 x8_1).f1))).setCell ⟨gb307, 2, none⟩ (.bool ((rd_T42 l0_0 x8_1).f2.f0))).setCell ⟨gb307, 3, none⟩ (.slice A306_3 ((rd_T42 l0_0 x8_1).f2.f1).length c306_3)) = w29 at n0_ n1_ n2_ ⊢
         have BK305 := n0_
         have BK307 := n1_
         have HB := n2_
         clear n0_ n1_ n2_
         have n0_ := Aside0.mk (blk_drew BK305.out)
         have n1_ := Aside0.mk (blk_drew BK307.out)
         have n2_ := Aside0.mk (below_drew1 HB.out)
         clear BK305
         clear BK307
         clear HB
         have BK305 := n0_
         have BK307 := n1_
         have HB := n2_
         clear n0_ n1_ n2_
         refine start_ (n := 19) (S := fun w' => w'.cell? ⟨gb307, 0, none⟩ = some (.int .i64 ((rd_T42 l0_0 x8_1).f0)) ∧ w'.cell? ⟨gb307, 1, none⟩ = some (.int .u32 ((rd_T42 l0_0 x8_1).f1)) ∧ w'.cell? ⟨gb307, 2, none⟩ = some (.bool ((rd_T42 l0_0 x8_1).f2.f0)) ∧ w'.cell? ⟨gb307, 3, none⟩ = some (.slice A306_3 ((rd_T42 l0_0 x8_1).f2.f1).length c306_3)) (ds := []) #[false, false, false, false, false, false, false, false, false, false, false, false, false, false, false, false, false, false, false] (by kernel_rfl) rfl rfl ⟨(blk_cell BK307.out 0).trans rfl, (blk_cell BK307.out 1).trans rfl, (blk_cell BK307.out 2).trans rfl, (blk_cell BK307.out 3).trans rfl⟩ (fun hHeld => ?_); refine with_tabW host_Right.tab4 host_Right.bits4 (fun HT_ HW_ => ?_)
         generalize w29.drew = w30 at BK305 BK307 HB hHeld ⊢
         refine tk 0 13 (bb 19 1) rfl rfl HT_ HW_ hHeld ?_
         refine on1 1 (some 14) (bb 19 3) rfl rfl HT_ (fun K hK => ?_)
         refine gfn Try.func30 #[.agg #[.int .i64 ((rd_T42 l0_0 x8_1).f0), .int .u32 ((rd_T42 l0_0 x8_1).f1), .bool ((rd_T42 l0_0 x8_1).f2.f0), .slice A306_3 ((rd_T42 l0_0 x8_1).f2.f1).length c306_3]] ?_
         with_reducible refine (host_right.calls k1 ((rd_T42 l0_0 x8_1).f0) ((rd_T42 l0_0 x8_1).f1) ((rd_T42 l0_0 x8_1).f2.f0) _ _ ((rd_T42 l0_0 x8_1).f2.f1) true _ ?side1 ?side2 A7.out).mono ?_
         (case side1 => exact ca (Kd.C_below HR306_3.out HB.out))
         (case side2 => exact HC306_3.out)
         rintro e w31 ⟨rfl, hb⟩
         refine ⟨_, rfl, ?_⟩
         have n0_ := Aside0.mk (blk_below BK305.out hb)
         have n1_ := Aside0.mk (blk_below BK307.out hb)
         have n2_ := Aside0.mk (below_step HB.out hb)
         clear BK305
         clear BK307
         clear HB
         have BK305 := n0_
         have BK307 := n1_
         have HB := n2_
         clear n0_ n1_ n2_
         (try clear hb)
         (try clear hb2)
         (try clear hk)
         (try clear hi)
         refine hK.out _ _ ⟨(blk_cell BK307.out 0).trans rfl, (blk_cell BK307.out 1).trans rfl, (blk_cell BK307.out 2).trans rfl, (blk_cell BK307.out 3).trans rfl⟩ (fun hHeld => ?_)
         clear hK K
         refine nm ?_
         refine pw 2 15 (bb 19 7) rfl rfl HT_ ?_
         refine pw 3 16 (bb 19 15) rfl rfl HT_ ?_
         refine pw 4 17 (bb 19 31) rfl rfl HT_ ?_
         refine pw 5 18 (bb 19 63) rfl rfl HT_ ?_
         refine pw 6 19 (bb 19 127) rfl rfl HT_ ?_
         refine pz 7 20 (bb 19 255) rfl rfl HT_ ?_
         refine pz 8 21 (bb 19 511) rfl rfl HT_ ?_
         refine pz 9 22 (bb 19 1023) rfl rfl HT_ ?_
         refine pz 10 23 (bb 19 2047) rfl rfl HT_ ?_
         refine pz 11 24 (bb 19 4095) rfl rfl HT_ ?_
         refine pz 12 25 (bb 19 8191) rfl rfl HT_ ?_
         refine pz 13 26 (bb 19 16383) rfl rfl HT_ ?_
         refine pz 14 27 (bb 19 32767) rfl rfl HT_ ?_
         refine pz 15 28 (bb 19 65535) rfl rfl HT_ ?_
         refine pz 16 29 (bb 19 131071) rfl rfl HT_ ?_
         refine pw 17 30 (bb 19 262143) rfl rfl HT_ ?_
         refine pw 18 31 (bb 19 524287) rfl rfl HT_ ?_
         refine done_ (done_of HT_.out (by kernel_rfl)) ?_
         try go_wp2
         go_roundg k1
         case measure => have := HK1.out; omega
         case rel => exact ⟨(wrap64 (x8_1 + 1)), (fr), H', ⟨by have := HK1.out; omega⟩, ⟨BK305.out⟩, ⟨HB.out⟩⟩
     · replace c8 := Bool.eq_false_iff.mpr c8
       subst c8
       replace H : (some false) = some r := by rw [if_neg (show ¬ (false = true) by decide)] at H; exact H
       obtain rfl := Option.some.inj H
       have p306 : 0 ≤ (x8_1 : Int) := od
       have q306 : x8_1 < (l0_0.length : Int) := od
       obtain ⟨ad306, A306_3, c306_3, e306, hx306_0, hx306_1, hx306_2, hx306_3, hl306_3, hi306_3⟩ := at_T42 HR0_0.out x8_1 p306 q306
       cases e306
       replace hx306_0 := hcz HB hx306_0
       replace hx306_1 := hcz HB hx306_1
       replace hx306_2 := hcz HB hx306_2
       replace hx306_3 := hcz HB hx306_3
       have HR306_3 := Aside0.mk hi306_3
       have HC306_3 := Aside0.mk hl306_3
       clear hi306_3 hl306_3
       replace p306 := eq_true p306
       replace q306 := eq_true q306
       try go_wp2_with (first | ((with_reducible refine gate_dst (N := 4) rfl ?_); refine bxn (cs := #[.int .i64 0, .int .u32 0, .bool false, .slice none 0 0]) (t := 42) ?_; intro gb307 hg w32 hbox hb; have n0_ := Aside0.mk (blk_below BK305.out hb); have n1_ := Aside0.mk (below_step HB.out hb); have n2_ := Aside0.mk (hbox); have n3_ := Aside0.mk ((by rw [hg]; exact (below_size HB.out) : w.heap.size ≤ gb307)); have n4_ := Aside0.mk ((by rw [hg]; exact (below_size HB.out) : w.heap.size ≤ gb307)); have n5_ := Aside0.mk ((by rw [hg]; exact Nat.ne_of_lt (blk_lt BK305.out) : gb305 ≠ gb307)); have n6_ := Aside0.mk ((by rw [hg]; exact Nat.ne_of_gt (blk_lt BK305.out) : gb307 ≠ gb305)); clear BK305; clear HB; have BK305 := n0_; have HB := n1_; have BK307 := n2_; have GW307 := n3_; have GE307 := n4_; have NB305_307 := n5_; have NB307_305 := n6_; clear n0_ n1_ n2_ n3_ n4_ n5_ n6_; clear hb hbox hg; have hnb33 := NB307_305.out; have hnc33 := NB305_307.out; obtain ⟨hcz34_0, hcz34_1, hcz34_2, hcz34_3, hfz34_0, hfz34_1, hfz34_2, hfz34_3⟩ := cf4 BK307.out))
       have n0_ : Aside0 (((((w32.setCell ⟨gb307, 0, none⟩ (.int .i64 ((rd_T42 l0_0 x8_1).f0))).setCell ⟨gb307, 1, none⟩ (.int .u32 ((rd_T42 l0_0 x8_1).f1))).setCell ⟨gb307, 2, none⟩ (.bool ((rd_T42 l0_0 x8_1).f2.f0))).setCell ⟨gb307, 3, none⟩ (.slice A306_3 ((rd_T42 l0_0 x8_1).f2.f1).length c306_3)).heap[gb305]? = some (.cells #[.slice (some ad306) l0_0.length c0_0] 40 (0, 0))) := ⟨by refine ba ?_; refine blk_far ?_ NB305_307.out _; refine ba ?_; refine blk_far ?_ NB305_307.out _; refine ba ?_; refine blk_far ?_ NB305_307.out _; refine ba ?_; refine blk_far ?_ NB305_307.out _; refine ba ?_; exact BK305.out⟩
       have n1_ : Aside0 (((((w32.setCell ⟨gb307, 0, none⟩ (.int .i64 ((rd_T42 l0_0 x8_1).f0))).setCell ⟨gb307, 1, none⟩ (.int .u32 ((rd_T42 l0_0 x8_1).f1))).setCell ⟨gb307, 2, none⟩ (.bool ((rd_T42 l0_0 x8_1).f2.f0))).setCell ⟨gb307, 3, none⟩ (.slice A306_3 ((rd_T42 l0_0 x8_1).f2.f1).length c306_3)).heap[gb307]? = some (.cells #[.int .i64 ((rd_T42 l0_0 x8_1).f0), .int .u32 ((rd_T42 l0_0 x8_1).f1), .bool ((rd_T42 l0_0 x8_1).f2.f0), .slice A306_3 ((rd_T42 l0_0 x8_1).f2.f1).length c306_3] 42 (0, 0))) := ⟨by refine ba ?_; refine blk_put (cs := #[.int .i64 ((rd_T42 l0_0 x8_1).f0), .int .u32 ((rd_T42 l0_0 x8_1).f1), .bool ((rd_T42 l0_0 x8_1).f2.f0), .slice none 0 0]) ?_ 3 _ rfl; refine ba ?_; refine blk_put (cs := #[.int .i64 ((rd_T42 l0_0 x8_1).f0), .int .u32 ((rd_T42 l0_0 x8_1).f1), .bool false, .slice none 0 0]) ?_ 2 _ rfl; refine ba ?_; refine blk_put (cs := #[.int .i64 ((rd_T42 l0_0 x8_1).f0), .int .u32 0, .bool false, .slice none 0 0]) ?_ 1 _ rfl; refine ba ?_; refine blk_put (cs := #[.int .i64 0, .int .u32 0, .bool false, .slice none 0 0]) ?_ 0 _ rfl; refine ba ?_; exact BK307.out⟩
       have n2_ : Aside0 (Below w.heap.size w ((((w32.setCell ⟨gb307, 0, none⟩ (.int .i64 ((rd_T42 l0_0 x8_1).f0))).setCell ⟨gb307, 1, none⟩ (.int .u32 ((rd_T42 l0_0 x8_1).f1))).setCell ⟨gb307, 2, none⟩ (.bool ((rd_T42 l0_0 x8_1).f2.f0))).setCell ⟨gb307, 3, none⟩ (.slice A306_3 ((rd_T42 l0_0 x8_1).f2.f1).length c306_3))) := ⟨bl HB⟩
       (try clear BK305)
       (try clear BK307)
       (try clear HB)
       generalize ((((w32.setCell ⟨gb307, 0, none⟩ (.int .i64 ((rd_T42 l0_0 x8_1).f0))).setCell ⟨gb307, 1, none⟩ (.int .u32 ((rd_T42 l0_0 x8_1).f1))).setCell ⟨gb307, 2, none⟩ (.bool ((rd_T42 l0_0 x8_1).f2.f0))).setCell ⟨gb307, 3, none⟩ (.slice A306_3 ((rd_T42 l0_0 x8_1).f2.f1).length c306_3)) = w35 at n0_ n1_ n2_ ⊢
       have BK305 := n0_
       have BK307 := n1_
       have HB := n2_
       clear n0_ n1_ n2_
       have n0_ := Aside0.mk (blk_drew BK305.out)
       have n1_ := Aside0.mk (blk_drew BK307.out)
       have n2_ := Aside0.mk (below_drew1 HB.out)
       clear BK305
       clear BK307
       clear HB
       have BK305 := n0_
       have BK307 := n1_
       have HB := n2_
       clear n0_ n1_ n2_
       refine start_ (n := 19) (S := fun w' => w'.cell? ⟨gb307, 0, none⟩ = some (.int .i64 ((rd_T42 l0_0 x8_1).f0)) ∧ w'.cell? ⟨gb307, 1, none⟩ = some (.int .u32 ((rd_T42 l0_0 x8_1).f1)) ∧ w'.cell? ⟨gb307, 2, none⟩ = some (.bool ((rd_T42 l0_0 x8_1).f2.f0)) ∧ w'.cell? ⟨gb307, 3, none⟩ = some (.slice A306_3 ((rd_T42 l0_0 x8_1).f2.f1).length c306_3)) (ds := []) #[false, false, false, false, false, false, false, false, false, false, false, false, false, false, false, false, false, false, false] (by kernel_rfl) rfl rfl ⟨(blk_cell BK307.out 0).trans rfl, (blk_cell BK307.out 1).trans rfl, (blk_cell BK307.out 2).trans rfl, (blk_cell BK307.out 3).trans rfl⟩ (fun hHeld => ?_); refine with_tabW host_Right.tab4 host_Right.bits4 (fun HT_ HW_ => ?_)
       generalize w35.drew = w36 at BK305 BK307 HB hHeld ⊢
       refine tk 0 13 (bb 19 1) rfl rfl HT_ HW_ hHeld ?_
       refine on1 1 (some 14) (bb 19 3) rfl rfl HT_ (fun K hK => ?_)
       refine gfn Try.func30 #[.agg #[.int .i64 ((rd_T42 l0_0 x8_1).f0), .int .u32 ((rd_T42 l0_0 x8_1).f1), .bool ((rd_T42 l0_0 x8_1).f2.f0), .slice A306_3 ((rd_T42 l0_0 x8_1).f2.f1).length c306_3]] ?_
       with_reducible refine (host_right.calls k1 ((rd_T42 l0_0 x8_1).f0) ((rd_T42 l0_0 x8_1).f1) ((rd_T42 l0_0 x8_1).f2.f0) _ _ ((rd_T42 l0_0 x8_1).f2.f1) false _ ?side1 ?side2 A7.out).mono ?_
       (case side1 => exact ca (Kd.C_below HR306_3.out HB.out))
       (case side2 => exact HC306_3.out)
       rintro e w37 ⟨rfl, hb⟩
       refine ⟨_, rfl, ?_⟩
       have n0_ := Aside0.mk (blk_below BK305.out hb)
       have n1_ := Aside0.mk (blk_below BK307.out hb)
       have n2_ := Aside0.mk (below_step HB.out hb)
       clear BK305
       clear BK307
       clear HB
       have BK305 := n0_
       have BK307 := n1_
       have HB := n2_
       clear n0_ n1_ n2_
       (try clear hb)
       (try clear hb2)
       (try clear hk)
       (try clear hi)
       refine hK.out _ _ ⟨(blk_cell BK307.out 0).trans rfl, (blk_cell BK307.out 1).trans rfl, (blk_cell BK307.out 2).trans rfl, (blk_cell BK307.out 3).trans rfl⟩ (fun hHeld => ?_)
       clear hK K
       refine nm ?_
       refine pw 2 15 (bb 19 7) rfl rfl HT_ ?_
       refine pw 3 16 (bb 19 15) rfl rfl HT_ ?_
       refine pz 4 17 (bb 19 31) rfl rfl HT_ ?_
       refine pz 5 18 (bb 19 63) rfl rfl HT_ ?_
       refine pz 6 19 (bb 19 127) rfl rfl HT_ ?_
       refine pz 7 20 (bb 19 255) rfl rfl HT_ ?_
       refine pz 8 21 (bb 19 511) rfl rfl HT_ ?_
       refine pz 9 22 (bb 19 1023) rfl rfl HT_ ?_
       refine pz 10 23 (bb 19 2047) rfl rfl HT_ ?_
       refine pz 11 24 (bb 19 4095) rfl rfl HT_ ?_
       refine pz 12 25 (bb 19 8191) rfl rfl HT_ ?_
       refine pz 13 26 (bb 19 16383) rfl rfl HT_ ?_
       refine pz 14 27 (bb 19 32767) rfl rfl HT_ ?_
       refine pz 15 28 (bb 19 65535) rfl rfl HT_ ?_
       refine pz 16 29 (bb 19 131071) rfl rfl HT_ ?_
       refine pz 17 30 (bb 19 262143) rfl rfl HT_ ?_
       refine pw 18 31 (bb 19 524287) rfl rfl HT_ ?_
       refine done_ (done_of HT_.out (by kernel_rfl)) ?_
       try go_wp2
       go_ret
       exact ⟨by first | rfl | (simp [errW_none, errW_some] <;> rfl) | (simp [*, errW_none, errW_some] <;> rfl), bl HB⟩
   · rw [if_neg c4] at H
     have c4b0 : decide (x8_1 < (l0_0.length : Int)) = false := decide_eq_false c4
     clear c4
     obtain rfl := Option.some.inj H
     obtain ⟨hcz38_0, hfz38_0⟩ := cf1 BK305.out
     go_wp2
     go_ret
     exact ⟨by first | rfl | (simp [errW_none, errW_some] <;> rfl) | (simp [*, errW_none, errW_some] <;> rfl), bl HB⟩

end Go.Proofs.Ytjncmiclpaodhaa.PHo
/-
  The document's example of chapter 07: a socket put into an empty host.
-/
namespace Go.Proofs.Ytjncmiclpaodhaa
set_option maxHeartbeats 8000000
set_option maxRecDepth 100000
open Go.RowKit Go.Proofs.YtjncmiclpaodhaaW.PrintWords Go.Proofs.YtjncmiclpaodhaaW.PrintLast Go.Proofs.YtjncmiclpaodhaaW.PrintMore Go.Proofs.Ytjncmiclpaodhaa.PHo
set_option linter.unusedVariables false
set_option linter.unusedSimpArgs false
theorem bs0_w (id : Int) (f : Value) (w : World) : Calls Try.prog 50 #[.slice none 0 0, .int .i64 id, f] w fun e w' => e = .returned (.tuple #[.int .i64 0, .bool false]) ∧ Below w.heap.size w w' := by
  have HB := Aside0.mk (Below.refl w.heap.size w)
  go_enter Try.func50, Try.ntmps50
  go_wp2
  go_loopg [9, 10] 0 (fun gk v9 v10 w' => v9 = .int .i64 0 ∧ v10 = .int .i64 0 ∧ Aside0 (Below w.heap.size w w'))
  case atStart => exact ⟨rfl, rfl, HB⟩
  case round =>
    clear HB
    obtain ⟨rfl, rfl, HB⟩ := hrel
    go_wp2
    go_ret2
    exact ⟨rfl, HB.out⟩
theorem place0_w (id : Int) (w : World) : Calls Try.prog 29 #[.agg #[.slice none 0 0], .int .i64 id] w fun e w' => e = .returned (.tuple #[.int .i64 0, .bool false]) ∧ Below w.heap.size w w' := by
  have hu40 := Try.underlying40
  have HB := Aside0.mk (Below.refl w.heap.size w)
  go_enter Try.func29, Try.ntmps29
  go_wp2_with (first | ((with_reducible refine gate_dst (N := 2) rfl ?_); (try (refine gate_guard (by rfl) ?_; dsimp only)); refine bxn (cs := #[.slice none 0 0]) (t := 40) ?_; intro gh hg w1_ hbox hB; have HBo := Aside0.mk HB.out; replace HB := mvH HB hB; have BK_gh := Aside0.mk hbox; have GE_gh := Aside0.mk (show w.heap.size ≤ gh by rw [hg]; exact HBo.out.size); clear hg hbox hB; obtain ⟨hc_gh_0, hf_gh_0⟩ := cf1 BK_gh.out; clear HBo) | (go_at_call 50; with_reducible refine (bs0_w id _ _).mono ?_; rintro e w2_ ⟨rfl, hB⟩; replace HB := mvH HB hB; clear hc_gh_0 hf_gh_0; replace BK_gh := mvB BK_gh hB; obtain ⟨hc_gh_0, hf_gh_0⟩ := cf1 BK_gh.out; clear hB))
  go_ret2
  exact ⟨rfl, HB.out⟩
theorem eqnil_ {ops : Array Oper} {Q : Exit → Act → World → Prop} {rest : List Oper} {o : Oper} {a : Act} {w : World} (hg : o.guard = none) (x y : Operand) (hop : o.op = .binOp .eql 38 x y 38) (hx : a.eval x = .slice none 0 0) (hy : a.eval y = .slice none 0 0)
    (h : wpList Try.prog ops Q rest (a.put o.dst (.bool true)) w) : wpList Try.prog ops Q (o :: rest) a w := by
  have hrun : (binOp .eql 38 (.slice none 0 0) (.slice none 0 0)).run Try.prog w = .ok (.bool true) w := by kernel_rfl
  refine wpList_plain hg fun K hK => ?_
  unfold Oper.wp
  simp only [execOp, hop, hx, hy, Sem.run_bind, hrun, Result.andThen]
  exact hK _ _ h
theorem clone0_w (w : World) : Calls Try.prog 31 #[.slice none 0 0] w fun e w' => e = .returned (.slice none 0 0) ∧ Below w.heap.size w w' := by
  go_enter Try.func31, Try.ntmps31
  go_wp2_with (first | ((with_reducible refine gate_dst (N := 4) rfl ?_); refine eqnil_ rfl _ _ rfl rfl rfl ?_))
  go_ret
  exact ⟨rfl, Below.refl _ _⟩
theorem info42_ : (Try.prog.info? 42).map (fun i => (i.zero, i.size, i.bytes)) = some (some (.agg #[.int .i64 0, .int .u32 0, .bool false, .slice none 0 0]), 4, 48) := by kernel_rfl
theorem insert0_w (x : S42) (A : Option Addr) (c : Nat) (P : Nat → Prop) (w : World) (hs : Kd.V k42 42 w 0 P (.slice A 1 c) [x]) : Calls Try.prog 32 #[.slice none 0 0, .int .i64 0, .slice A 1 c] w fun e w' => ∃ v, e = .returned v ∧ Kd.V k42 42 w' 0 (fun k => P k ∨ w.heap.size ≤ k) v [x] ∧ Below w.heap.size w w' := by
  have HV := Aside0.mk hs
  clear hs
  go_enter Try.func32, Try.ntmps32
  go_wp2_with (first | ((with_reducible refine gate_builtin (b := .append) (xs := #[.tmp 23, .tmp 24]) rfl ?_); at_builtin; refine Kd.N_append_rows k42 (w0 := w) w.heap.size rfl (.tmp 23) (.tmp 24) 38 42 (.agg #[.int .i64 0, .int .u32 0, .bool false, .slice none 0 0]) 48 rfl Try.underlying38 info42_ rfl (by decide) (by decide) (.slice none 0 0) [] [x] A 1 c (fun k => P k ∨ w.heap.size ≤ k) P rfl rfl (Kd.N_nil _ _ _ _ _) (Kd.V_F HV.out) (fun k hk => ⟨.inl hk, by simp [Value.ownBlock]⟩) (fun k hk => .inr hk) (Below.refl _ _) (Nat.le_refl _) (by simp) ?_; intro v_m wm hN hB _ _; have HN := Aside0.mk hN; have HB := Aside0.mk hB; clear hN hB))
  go_ret
  exact ⟨_, rfl, Kd.N_V HN.out, HB.out⟩
def sk : S42 := ⟨1, 4009820675, ⟨true, []⟩⟩
def rk : S36 := ⟨4, 4009820675, []⟩
theorem changed0 : host_changed.f 9 [] [sk] 4009820675 = some ([sk], [rk], 0) := by kernel_rfl
theorem right0 : host_right.f 9 1 4009820675 true [] = some true := by rfl
theorem Right0 : host_Right.f 9 [sk] = some true := by kernel_rfl
theorem Groups0 : host_Groups.f 9 [sk] = some [4009820675] := by kernel_rfl
theorem right0_w (w : World) : Calls Try.prog 30 #[.agg #[.int .i64 1, .int .u32 4009820675, .bool true, .slice none 0 0]] w fun e w' => e = .returned (.bool true) ∧ Below w.heap.size w w' := host_right.calls 9 1 4009820675 true none 0 [] true w (Kd.C_nil _ _) (Nat.le_refl _) right0
def put_T3 : Bool × List (List Nat × List Nat) := (true, [([], []), ([0], [0]), ([1], [1]), ([2, 1], [1, 2]), ([1], [1]), ([3, 4, 1], [1, 3, 4]), ([5, 1], [1, 5]), ([6, 1], [1, 6]), ([1], [1]), ([8, 1], [1, 8]), ([7, 9, 1], [1, 7, 9]), ([1, 10], [1, 10]), ([11, 1], [11])])
def put_B3 : List Nat := [0, 1, 3, 7, 3, 31, 63, 127, 3, 259, 1023, 2047, 4095]
theorem put_t3 : rtab .any (opsOf Try.f15 3) = put_T3 := by kernel_rfl
theorem put_b3 : waitsOk put_T3.2 put_B3 = true := by kernel_rfl
theorem put0_w (w : World) : Calls Try.prog 15 #[.agg #[.slice none 0 0], .agg #[.int .i64 1, .int .u32 4009820675, .bool true, .slice none 0 0]] w fun e w' => ∃ v0 v1, e = .returned (.tuple #[.agg #[v0], v1, .int .i64 0]) ∧ Kd.V k42 42 w' 0 (fun k => w.heap.size ≤ k) v0 [sk] ∧ Kd.V k36 36 w' 0 (fun k => w.heap.size ≤ k) v1 [rk] ∧ Below w.heap.size w w' := by
  have hu40 := Try.underlying40
  have hu42 := Try.underlying42
  have HB := Aside0.mk (Below.refl w.heap.size w)
  go_enter Try.func15, Try.ntmps15
  go_upto_region 3 with (first | ((with_reducible refine gate_dst (N := 2) rfl ?_); (try (refine gate_guard (by rfl) ?_; dsimp only)); refine bxn (cs := #[.slice none 0 0]) (t := 40) ?_; intro gh hg w1_ hbox hB; replace HB := mvH HB hB; have BK_gh := Aside0.mk hbox; clear hg hbox hB) | ((with_reducible refine gate_dst (N := 3) rfl ?_); (try (refine gate_guard (by rfl) ?_; dsimp only)); refine bxn (cs := #[.int .i64 1, .int .u32 4009820675, .bool true, .slice none 0 0]) (t := 42) ?_; intro gs hg w2_ hbox hB; replace HB := mvH HB hB; replace BK_gh := mvB BK_gh hB; have BK_gs := Aside0.mk hbox; clear hg hbox hB) | ((with_reducible refine gate_dst (N := 4) rfl ?_); (try (refine gate_guard (by rfl) ?_; dsimp only)); refine bxn (cs := #[.slice none 0 0]) (t := 40) ?_; intro gr hg w3_ hbox hB; have HBo := Aside0.mk HB.out; replace HB := mvH HB hB; replace BK_gh := mvB BK_gh hB; have hc_gh_0 : w3_.cell? ⟨gh, 0, none⟩ = some (.slice none 0 0) := (blk_cell BK_gh.out 0).trans rfl; replace BK_gs := mvB BK_gs hB; have hc_gs_0 := (cf4 BK_gs.out).1; have BK_gr := Aside0.mk hbox; have GE_gr := Aside0.mk (show w.heap.size ≤ gr by rw [hg]; exact HBo.out.size); clear hg hbox hB; clear HBo) | (go_at_call 29; with_reducible refine (place0_w 1 _).mono ?_; rintro e w4_ ⟨rfl, hB⟩; replace HB := mvH HB hB; clear hc_gh_0; replace BK_gh := mvB BK_gh hB; clear hc_gs_0; replace BK_gs := mvB BK_gs hB; have hc_gs_0 := (cf4 BK_gs.out).1; have hc_gs_1 := (cf4 BK_gs.out).2.1; have hc_gs_2 := (cf4 BK_gs.out).2.2.1; have hc_gs_3 := (cf4 BK_gs.out).2.2.2.1; replace BK_gr := mvB BK_gr hB; clear hB) | (go_at_call 30; with_reducible refine (right0_w _).mono ?_; rintro e w5_ ⟨rfl, hB⟩; replace HB := mvH HB hB; replace BK_gh := mvB BK_gh hB; have hc_gh_0 : w5_.cell? ⟨gh, 0, none⟩ = some (.slice none 0 0) := (blk_cell BK_gh.out 0).trans rfl; clear hc_gs_0 hc_gs_1 hc_gs_2 hc_gs_3; replace BK_gs := mvB BK_gs hB; have hc_gs_0 := (cf4 BK_gs.out).1; have hc_gs_1 := (cf4 BK_gs.out).2.1; have hc_gs_2 := (cf4 BK_gs.out).2.2.1; have hc_gs_3 := (cf4 BK_gs.out).2.2.2.1; replace BK_gr := mvB BK_gr hB; have hc_gr_0 : w5_.cell? ⟨gr, 0, none⟩ = some (.slice none 0 0) := (blk_cell BK_gr.out 0).trans rfl; clear hB))
  refine start_ (n := 13) (S := fun w' => w'.cell? ⟨gh, 0, none⟩ = some (.slice none 0 0) ∧ w'.cell? ⟨gs, 0, none⟩ = some (.int .i64 1) ∧ w'.cell? ⟨gs, 1, none⟩ = some (.int .u32 4009820675) ∧ w'.cell? ⟨gs, 2, none⟩ = some (.bool true) ∧ w'.cell? ⟨gs, 3, none⟩ = some (.slice none 0 0) ∧ w'.cell? ⟨gr, 0, none⟩ = some (.slice none 0 0)) (ds := []) #[false, false, false, false, false, false, false, false, false, false, false, false, false] (by kernel_rfl) rfl rfl ⟨hc_gh_0, hc_gs_0, hc_gs_1, hc_gs_2, hc_gs_3, hc_gr_0⟩ (fun hHeld => ?_); refine with_tabW put_t3 put_b3 (fun HT_ HW_ => ?_)
  have hB : Below w5_.heap.size w5_ w5_.drew := below_drew (Below.refl _ _)
  generalize w5_.drew = w6_ at hB hHeld ⊢
  replace HB := mvH HB hB
  clear hc_gh_0
  replace BK_gh := mvB BK_gh hB
  clear hc_gs_0 hc_gs_1 hc_gs_2 hc_gs_3
  replace BK_gs := mvB BK_gs hB
  clear hc_gr_0
  replace BK_gr := mvB BK_gr hB
  clear hB
  refine pw 0 21 (bb 13 1) rfl rfl HT_ ?_
  refine pw 1 22 (bb 13 3) rfl rfl HT_ ?_
  refine pz 2 23 (bb 13 7) rfl rfl HT_ ?_
  refine pz 3 24 (bb 13 15) rfl rfl HT_ ?_
  refine pz 4 25 (bb 13 31) rfl rfl HT_ ?_
  refine pz 5 26 (bb 13 63) rfl rfl HT_ ?_
  refine pz 6 27 (bb 13 127) rfl rfl HT_ ?_
  refine pz 7 28 (bb 13 255) rfl rfl HT_ ?_
  refine pz 8 29 (bb 13 511) rfl rfl HT_ ?_
  refine pz 9 30 (bb 13 1023) rfl rfl HT_ ?_
  refine pz 10 31 (bb 13 2047) rfl rfl HT_ ?_
  refine pw 11 32 (bb 13 4095) rfl rfl HT_ ?_
  refine pw 12 17 (bb 13 8191) rfl rfl HT_ ?_
  refine done_ (done_of HT_.out (by kernel_rfl)) ?_
  go_upto_region 10 with (first | (go_at_call 31; with_reducible refine (clone0_w _).mono ?_; rintro e w7_ ⟨rfl, hB⟩; replace HB := mvH HB hB; replace BK_gh := mvB BK_gh hB; replace BK_gs := mvB BK_gs hB; have hc_gs_0 := (cf4 BK_gs.out).1; have hc_gs_1 := (cf4 BK_gs.out).2.1; have hc_gs_2 := (cf4 BK_gs.out).2.2.1; have hc_gs_3 := (cf4 BK_gs.out).2.2.2.1; replace BK_gr := mvB BK_gr hB; clear hB))
  have HSZ := Aside0.mk (show gr < w7_.heap.size from blk_lt BK_gr.out)
  have HNW := Aside0.mk HB.out.size
  obtain ⟨nn, hnn⟩ : ∃ n, n = w7_.heap.size := ⟨_, rfl⟩
  have HNN := Aside0.mk hnn
  clear hnn
  go_wp2_with (first | ((with_reducible refine gate_dst (N := 55) rfl ?_); refine Kd.N_lit k42 _ 42 ?hg (N' := 55) ?hd (xs := [sk]) (inner := [.int .i64 1, .int .u32 4009820675, .bool true, .slice none 0 0]) (ok := fun k => w7_.heap.size ≤ k) (okp := fun _ => False) ?hr ?hp (fun _ hk => hk.elim) (Nat.le_refl _) (Below.refl _ _) (Nat.le_refl _) (by simp) ?_; (case hd => rfl); (case hg => rfl); (case hr => first | (go_simp; done) | (go_simp; rfl)); (case hp => exact Reps.c4 (show Kd.FK k42 _ _ _ _ from k42_mkF _ _ sk (Nat.le_refl _) (Kd.F_nil _ _ _)) (Reps.none _ _)); intro v_n w8_ hN hB hg_ hnew_; clear hg_ hnew_; replace HB := mvH HB hB; replace BK_gh := mvB BK_gh hB; clear hc_gs_0 hc_gs_1 hc_gs_2 hc_gs_3; replace BK_gs := mvB BK_gs hB; replace BK_gr := mvB BK_gr hB; have HV_n := Aside0.mk (Kd.V_mono (Kd.N_V (base' := 0) hN) (fun k hk => (by rw [HNN.out]; exact hk : nn ≤ k))); have HNL := Aside0.mk (show nn ≤ w8_.heap.size by rw [HNN.out]; exact hB.size); clear hN hB; obtain ⟨A_n, c_n, en_⟩ := Kd.V_slice HV_n.out; subst en_) | (go_at_call 32; refine (insert0_w sk A_n c_n (fun k => nn ≤ k) _ HV_n.out).mono ?_; rintro e w9_ ⟨v_l, rfl, hV, hB⟩; have hs_ := HB.out.size; clear HV_n; replace HB := mvH HB hB; replace BK_gh := mvB BK_gh hB; have hc_gh_0 : w9_.cell? ⟨gh, 0, none⟩ = some (.slice none 0 0) := (blk_cell BK_gh.out 0).trans rfl; replace BK_gs := mvB BK_gs hB; have hc_gs_1 := (cf4 BK_gs.out).2.1; replace BK_gr := mvB BK_gr hB; have HV_l := Aside0.mk (Kd.V_mono hV (fun k hk => hk.elim id (fun h => Nat.le_trans HNL.out h) : ∀ k, _ → nn ≤ k)); have HSB := Aside0.mk hB.size; clear hV hB hs_; obtain ⟨A_l, c_l, el_⟩ := Kd.V_slice HV_l.out; subst el_; have HNB0 := Aside0.mk (show nn ≤ w9_.heap.size from Nat.le_trans HNL.out (by first | exact HSB.out))) | (go_at_call 33; refine (host_changed.calls 9 none 0 [] (fun k => nn ≤ k) A_l c_l [sk] 4009820675 [sk] [rk] 0 _ (Kd.C_nil _ _) (Nat.le_refl _) HV_l.out changed0).mono ?_; rintro e w10_ ⟨v_0, v_1, rfl, hV0, hV1, hB⟩; have HNB := Aside0.mk (show nn ≤ w9_.heap.size from HNB0.out); clear HV_l; replace HB := mvH HB hB; clear hc_gh_0; clear BK_gh; clear hc_gs_1; clear BK_gs; replace BK_gr := mvB BK_gr hB; obtain ⟨hc_gr_0, hf_gr_0⟩ := cf1 BK_gr.out; have HV_0 := Aside0.mk (Kd.V_mono hV0 (fun k hk => hk.elim id (fun h => Nat.le_trans HNB.out h) : ∀ k, _ → nn ≤ k)); have HV_1 := Aside0.mk (Kd.V_mono hV1 (fun k hk => hk.elim id (fun h => Nat.le_trans HNB.out h) : ∀ k, _ → nn ≤ k)); clear hV0 hV1 hB; obtain ⟨A_0, c_0, e0_⟩ := Kd.V_slice HV_0.out; subst e0_; obtain ⟨A_1, c_1, e1_⟩ := Kd.V_slice HV_1.out; subst e1_))
  refine bodyPost_ret (results_ctt rfl _ _ gr 40 #[.slice A_0 [sk].length c_0] (0, 0) _ rfl (blk_put (cs := #[.slice none 0 0]) BK_gr.out 0 (.slice A_0 [sk].length c_0) rfl) Try.underlying40 rfl (by kernel_rfl)) rfl ?_
  have hnw : w.heap.size ≤ nn := by rw [HNN.out]; exact HNW.out
  exact ⟨_, _, rfl, Kd.V_mono (Kd.V_far (p := ⟨gr, 0, none⟩) HV_0.out (fun k hk e => by have := HSZ.out; have h3 : k = gr := e; rw [← HNN.out] at this; omega) _) (fun k hk => Nat.le_trans hnw hk), Kd.V_mono (Kd.V_far (p := ⟨gr, 0, none⟩) HV_1.out (fun k hk e => by have := HSZ.out; have h3 : k = gr := e; rw [← HNN.out] at this; omega) _) (fun k hk => Nat.le_trans hnw hk), below_set HB.out GE_gr.out⟩
theorem Right0_w {A : Option Addr} {c b : Nat} {ok : Nat → Prop} (w : World) (h : Kd.V k42 42 w b ok (.slice A 1 c) [sk]) : Calls Try.prog 26 #[.agg #[.slice A 1 c]] w fun e w' => e = .returned (.bool true) ∧ Below w.heap.size w w' :=
  host_Right.calls 9 A c [sk] true w (Kd.V_reads' h).2.2 (Kd.V_reads' h).2.1 Right0
theorem Groups0_w {A : Option Addr} {c b : Nat} {ok : Nat → Prop} (w : World) (h : Kd.V k42 42 w b ok (.slice A 1 c) [sk]) : Calls Try.prog 24 #[.agg #[.slice A 1 c]] w fun e w' => ∃ A' c', e = .returned (.slice A' 1 c') ∧ Below w.heap.size w w' := by
  refine (host_Groups.calls 9 A c [sk] [4009820675] w (Kd.V_reads' h).2.2 (Kd.V_reads' h).2.1 Groups0).mono ?_
  rintro e w' ⟨v, rfl, hR, hB⟩
  obtain ⟨A', c', rfl⟩ := Kd.R_slice hR
  exact ⟨A', c', rfl, hB⟩
def stolonlaw07_shown.f : Option Bool := some true
theorem shown0_w (w : World) : Calls Try.prog 8 #[] w fun e w' => e = .returned (.bool true) ∧ Below w.heap.size w w' := by
  have hu40 := Try.underlying40
  have hu42 := Try.underlying42
  have hu36 := Try.underlying36
  have HB := Aside0.mk (Below.refl w.heap.size w)
  go_enter Try.func8, Try.ntmps8
  go_upto_region 2 with (first | (go_at_call 15; refine (put0_w _).mono ?_; rintro e w1_ ⟨v_h, v_l, rfl, hVh, hVl, hB⟩; replace HB := mvH HB hB; have HV_h := Aside0.mk hVh; have HV_l := Aside0.mk hVl; clear hVh hVl hB; obtain ⟨A_h, c_h, eh_⟩ := Kd.V_slice HV_h.out; replace eh_ : v_h = .slice A_h 1 c_h := eh_; subst eh_; obtain ⟨A_l, c_l, el_⟩ := Kd.V_slice HV_l.out; replace el_ : v_l = .slice A_l 1 c_l := el_; subst el_) | ((with_reducible refine gate_dst (N := 1) rfl ?_); (try (refine gate_guard (by rfl) ?_; dsimp only)); refine bxn (cs := #[.slice none 0 0]) (t := 40) ?_; intro gb hg w2_ hbox hB0; have hG := Aside0.mk (show w1_.heap.size ≤ gb from Nat.le_of_eq hg.symm); clear hg; have hBX := Aside0.mk hbox; have hB1 := Aside0.mk hB0; clear hB0; have hc_gb_0 : w2_.cell? ⟨gb, 0, none⟩ = some (.slice none 0 0) := (blk_cell hbox 0).trans rfl; have hf_gb_0 := blk_frozen hbox 0; clear hbox))
  have hB : Below w1_.heap.size w1_ (w2_.setCell ⟨gb, 0, none⟩ (.slice A_h 1 c_h)) := (below_set hB1.out hG.out)
  have hBN : (w2_.setCell ⟨gb, 0, none⟩ (.slice A_h 1 c_h)).heap[gb]? = some (.cells #[.slice A_h 1 c_h] 40 (0, 0)) := (blk_put (cs := #[.slice none 0 0]) hBX.out 0 (.slice A_h 1 c_h) rfl)
  clear hBX hB1
  clear hc_gb_0 hf_gb_0
  generalize (w2_.setCell ⟨gb, 0, none⟩ (.slice A_h 1 c_h)) = w3_ at hB hBN ⊢
  replace HB := mvH HB hB
  replace HV_h := Aside0.mk (Kd.V_below HV_h.out hB)
  replace HV_l := Aside0.mk (Kd.V_below HV_l.out hB)
  have BK_gb := Aside0.mk hBN
  clear hG hBN hB
  have hc_gb_0 : w3_.cell? ⟨gb, 0, none⟩ = some (.slice A_h 1 c_h) := (blk_cell BK_gb.out 0).trans rfl
  obtain ⟨ad, A2, c2, he, hx0, hx1, _, _, _⟩ := at_T36 (Kd.V_reads' HV_l.out).2.2 0 (by decide) (by decide)
  subst he
  have ea : ad.add ((0 : Int).toNat * 3) = ad := by cases ad; rfl
  rw [ea] at hx0 hx1
  replace hx0 : w3_.cell? ad = some (.int .u8 4) := hx0
  replace hx1 : w3_.cell? ⟨ad.block, ad.off + 1, none⟩ = some (.int .u32 4009820675) := hx1
  clear ea
  go_wp2_with (first | (go_at_call 26; with_reducible refine (Right0_w _ HV_h.out).mono ?_; rintro e w4_ ⟨rfl, hB⟩; replace HB := mvH HB hB; clear hc_gb_0; replace BK_gb := mvB BK_gb hB; have hc_gb_0 : w4_.cell? ⟨gb, 0, none⟩ = some (.slice A_h 1 c_h) := (blk_cell BK_gb.out 0).trans rfl; replace HV_h := Aside0.mk (Kd.V_below HV_h.out hB); clear hB) | (go_at_call 24; with_reducible refine (Groups0_w _ HV_h.out).mono ?_; rintro e w5_ ⟨A_g, c_g, rfl, hB⟩; replace HB := mvH HB hB; clear hc_gb_0; clear BK_gb; clear HV_h; clear hB))
  go_ret
  exact ⟨rfl, HB.out⟩
theorem stolonlaw07_shown.calls (r : Bool) (w : World) (h : stolonlaw07_shown.f = some r) : Calls Try.prog 8 #[] w fun e w' => e = .returned (.bool r) ∧ Below w.heap.size w w' := by
  obtain rfl := Option.some.inj h
  exact shown0_w w
end Go.Proofs.Ytjncmiclpaodhaa
