-- written by a program of this session (hprint.py), over the kit's printer, then made shorter (squeeze.py)
import Derived.Test.YtlaanmkangikbaaPIpx7
namespace Go.Proofs.Ytlaanmkangikbaa.PIp
open Go.RowKit Go.Proofs.YtlaanmkangikbaaW.PrintWords Go.Proofs.YtlaanmkangikbaaW.PrintLast Go.Proofs.YtlaanmkangikbaaW.PrintMore
attribute [local go_sem] max2_int min2_int max_two min_two max_three min_three max_four min_four   -- for this text's walks alone
set_option linter.unusedVariables false
set_option linter.unusedSimpArgs false

set_option maxHeartbeats 8000000 in
set_option maxRecDepth 100000 in
theorem ip_Decode.calls (k : Nat) (A0 : Option Addr) (c0 : Nat) (l0 : List Int) (r1 : Int) (r2 : Int) (r3 : Int) (r4 : Int) (r5 : Int) (r6 : Bool) (r7 : List Int) (r8 : Int) (w : World) (hr0 : Kd.C (Kd.int .u8) w A0 l0.length l0) (hc0 : l0.length ≤ c0) (h : ip_Decode.f k l0 = some (r1, r2, r3, r4, r5, r6, r7, r8)) :
 Calls Try.prog 11 #[.slice A0 l0.length c0] w fun e w' => ∃ v6_ : Value, e = .returned (.tuple #[.agg #[.int .u32 r1, .int .u32 r2, .int .u8 r3, .int .u8 r4, .int .u16 r5, .bool r6], v6_, .int .i64 r8]) ∧ Kd.R (Kd.int .u8) 5 w' w.heap.size (fun _ => True) v6_ r7 ∧ Below w.heap.size w w' := by
 have hu26 := Try.underlying26
 have HR0 := Aside0.mk hr0
 have HC0 := Aside0.mk hc0
 clear hr0 hc0
 have HB := Aside0.mk (Below.refl w.heap.size w)
 have H : (if (l0.length : Int) < 20 then ((ip_Decode_1.f 3).bind fun bt175 => (some (bt175.1, bt175.2.1, bt175.2.2.1, bt175.2.2.2.1, bt175.2.2.2.2.1, bt175.2.2.2.2.2.1, bt175.2.2.2.2.2.2.1, bt175.2.2.2.2.2.2.2))) else (if 0 < (l0.length : Int) then (if (rd l0 0) = 69 then (ip_Decode.j0 k l0 false) else (ip_Decode.j0 k l0 ((rd l0 0) != 70))) else (none))) = some (r1, r2, r3, r4, r5, r6, r7, r8) := h
 clear h
 by_cases c2 : (l0.length : Int) < 20
 · rw [if_pos c2] at H
   have c2b0 : decide ((l0.length : Int) < 20) = true := decide_eq_true c2
   have c2b1 : decide (l0.length < 20) = true := decide_eq_true (by omega)
   clear c2
   replace H := Option.bind_eq_some_iff.mp H
   obtain ⟨⟨t175, t176, t177, t178, t179, t180, t181, t184⟩, A30, H⟩ := H
   replace H : (some (t175, t176, t177, t178, t179, t180, t181, t184)) = some (r1, r2, r3, r4, r5, r6, r7, r8) := H
   have A3 := Aside0.mk A30
   clear A30
   simp only [Option.some.injEq, Prod.mk.injEq] at H
   obtain ⟨rfl, rfl, rfl, rfl, rfl, rfl, rfl, rfl⟩ := H
   go_enter Try.func11, Try.ntmps11
   go_wp2_with (first | ((with_reducible refine gate_dst (N := 2) rfl ?_); refine box_event ?hg (N := 2) ?hd (cs := #[.int .u32 0, .int .u32 0, .int .u8 0, .int .u8 0, .int .u16 0, .bool false]) (t := 26) ?hr ?_; (case hd => rfl); (case hg => rfl); (case hr => first | (go_simp; done) | (go_simp; rfl)); intro gb174 hg w4 hbox hb; have n0_ := Aside0.mk (below_step (by repeat (first | (with_reducible first | exact HB.out | apply below_alloc | apply pw_below_drewN | apply below_drew1) | exact HB.out)) hb); have n1_ := Aside0.mk (hbox); have n2_ := Aside0.mk ((by rw [hg]; exact (below_size (by repeat (first | (with_reducible first | exact HB.out | apply below_alloc | apply pw_below_drewN | apply below_drew1) | exact HB.out))) : w.heap.size ≤ gb174)); have n3_ := Aside0.mk ((by rw [hg]; exact (below_size (by repeat (first | (with_reducible first | exact HB.out | apply below_alloc | apply pw_below_drewN | apply below_drew1) | exact HB.out))) : w.heap.size ≤ gb174)); clear HB; have HB := n0_; have BK174 := n1_; have GW174 := n2_; have GE174 := n3_; clear n0_ n1_ n2_ n3_; clear hb hbox hg) | (refine goesV_ (f := 20) (some 16) rfl rfl Try.func20 (by kernel_rfl) rfl #[.int .i64 3] rfl (by first | rfl | (go_simp; rfl)) (by (try simp only [List.map_toArray, List.map_cons, List.map_nil]); first | done | rfl | (simp only [List.length_drop, List.length_take]; rfl)) ?_; (with_reducible refine (ip_Decode_1.calls 3 t175 t176 t177 t178 t179 t180 t181 t184 _ A3.out).mono ?_); rintro e w5 ⟨v182, rfl, ho0, hb⟩; refine ⟨_, rfl, ?_⟩; have n0_ := Aside0.mk (Kd.R_lower ho0 (below_size (by repeat (first | (with_reducible first | exact HB.out | apply below_alloc | apply pw_below_drewN | apply below_drew1 | refine below_set ?_ GE174.out) | exact HB.out)))); have n1_ := Aside0.mk (blk_below (g := gb174) (o := .cells #[.int .u32 0, .int .u32 0, .int .u8 0, .int .u8 0, .int .u16 0, .bool false] 26 (0, 0)) (by (with_reducible repeat (first | refine blk_drewN ?_ _ | refine blk_drew ?_ | refine blk_alloc ?_ _)); exact BK174.out) hb); have n2_ := Aside0.mk (below_step (by repeat (first | (with_reducible first | exact HB.out | apply below_alloc | apply pw_below_drewN | apply below_drew1 | refine below_set ?_ GE174.out) | exact HB.out)) hb); clear BK174; clear HB; have HO183 := n0_; have BK174 := n1_; have HB := n2_; clear n0_ n1_ n2_; (try clear hb); (try clear hb2); (try clear hk); (try clear hi); (try clear ho0); have hcz6_0 : w5.cell? ⟨gb174, 0, none⟩ = some (.int .u32 0) := (blk_cell BK174.out 0).trans rfl; have hcz6_1 : w5.cell? ⟨gb174, 1, none⟩ = some (.int .u32 0) := (blk_cell BK174.out 1).trans rfl; have hcz6_2 : w5.cell? ⟨gb174, 2, none⟩ = some (.int .u8 0) := (blk_cell BK174.out 2).trans rfl; have hcz6_3 : w5.cell? ⟨gb174, 3, none⟩ = some (.int .u8 0) := (blk_cell BK174.out 3).trans rfl; have hcz6_4 : w5.cell? ⟨gb174, 4, none⟩ = some (.int .u16 0) := (blk_cell BK174.out 4).trans rfl; have hcz6_5 : w5.cell? ⟨gb174, 5, none⟩ = some (.bool false) := (blk_cell BK174.out 5).trans rfl; have hfz6_0 := blk_frozen BK174.out 0; have hfz6_1 := blk_frozen BK174.out 1; have hfz6_2 := blk_frozen BK174.out 2; have hfz6_3 := blk_frozen BK174.out 3; have hfz6_4 := blk_frozen BK174.out 4; have hfz6_5 := blk_frozen BK174.out 5))
   refine bodyPost_ret (results_ctt rfl _ _ gb174 26 #[.int .u32 t175, .int .u32 t176, .int .u8 t177, .int .u8 t178, .int .u16 t179, .bool t180] (0, 0) _ rfl (by (with_reducible repeat (first | refine blk_drewN ?_ _ | refine blk_drew ?_ | refine blk_alloc ?_ _)); refine blk_put (cs := #[.int .u32 t175, .int .u32 t176, .int .u8 t177, .int .u8 t178, .int .u16 t179, .bool false]) ?_ 5 _ rfl; (with_reducible repeat (first | refine blk_drewN ?_ _ | refine blk_drew ?_ | refine blk_alloc ?_ _)); refine blk_put (cs := #[.int .u32 t175, .int .u32 t176, .int .u8 t177, .int .u8 t178, .int .u16 0, .bool false]) ?_ 4 _ rfl; (with_reducible repeat (first | refine blk_drewN ?_ _ | refine blk_drew ?_ | refine blk_alloc ?_ _)); refine blk_put (cs := #[.int .u32 t175, .int .u32 t176, .int .u8 t177, .int .u8 0, .int .u16 0, .bool false]) ?_ 3 _ rfl; (with_reducible repeat (first | refine blk_drewN ?_ _ | refine blk_drew ?_ | refine blk_alloc ?_ _)); refine blk_put (cs := #[.int .u32 t175, .int .u32 t176, .int .u8 0, .int .u8 0, .int .u16 0, .bool false]) ?_ 2 _ rfl; (with_reducible repeat (first | refine blk_drewN ?_ _ | refine blk_drew ?_ | refine blk_alloc ?_ _)); refine blk_put (cs := #[.int .u32 t175, .int .u32 0, .int .u8 0, .int .u8 0, .int .u16 0, .bool false]) ?_ 1 _ rfl; (with_reducible repeat (first | refine blk_drewN ?_ _ | refine blk_drew ?_ | refine blk_alloc ?_ _)); refine blk_put (cs := #[.int .u32 0, .int .u32 0, .int .u8 0, .int .u8 0, .int .u16 0, .bool false]) ?_ 0 _ rfl; (with_reducible repeat (first | refine blk_drewN ?_ _ | refine blk_drew ?_ | refine blk_alloc ?_ _)); exact BK174.out) Try.underlying26 rfl (by kernel_rfl)) rfl ?_
   exact ⟨_, by first | rfl | (simp [errW_none, errW_some] <;> rfl) | (simp [*, errW_none, errW_some] <;> rfl), by (with_reducible repeat (first | apply Kd.R_alloc | apply Kd.R_drewN | apply Kd.R_drew)); exact Kd.R_mono (Kd.R_far (p := ⟨gb174, 5, none⟩) (Kd.R_far (p := ⟨gb174, 4, none⟩) (Kd.R_far (p := ⟨gb174, 3, none⟩) (Kd.R_far (p := ⟨gb174, 2, none⟩) (Kd.R_far (p := ⟨gb174, 1, none⟩) (Kd.R_far (p := ⟨gb174, 0, none⟩) (Kd.R_types HO183.out BK174.out (by decide)) (fun _ hk => hk.2) (.int .u32 t175)) (fun _ hk => hk.2) (.int .u32 t176)) (fun _ hk => hk.2) (.int .u8 t177)) (fun _ hk => hk.2) (.int .u8 t178)) (fun _ hk => hk.2) (.int .u16 t179)) (fun _ hk => hk.2) (.bool t180)) (fun _ hk => trivial), by repeat (first | (with_reducible first | exact HB.out | apply below_alloc | apply pw_below_drewN | apply below_drew1 | refine below_set ?_ GE174.out) | exact HB.out)⟩
 · rw [if_neg c2] at H
   have c2b0 : decide ((l0.length : Int) < 20) = false := decide_eq_false c2
   have c2b1 : decide (l0.length < 20) = false := decide_eq_false (by omega)
   clear c2
   have HC7 := Aside0.mk H
   clear H
   go_enter Try.func11, Try.ntmps11
   go_upto_region 4 with (first | ((with_reducible refine gate_dst (N := 2) rfl ?_); refine box_event ?hg (N := 2) ?hd (cs := #[.int .u32 0, .int .u32 0, .int .u8 0, .int .u8 0, .int .u16 0, .bool false]) (t := 26) ?hr ?_; (case hd => rfl); (case hg => rfl); (case hr => first | (go_simp; done) | (go_simp; rfl)); intro gb174 hg w8 hbox hb; have n0_ := Aside0.mk (below_step (by repeat (first | (with_reducible first | exact HB.out | apply below_alloc | apply pw_below_drewN | apply below_drew1) | exact HB.out)) hb); have n1_ := Aside0.mk (hbox); have n2_ := Aside0.mk ((by rw [hg]; exact (below_size (by repeat (first | (with_reducible first | exact HB.out | apply below_alloc | apply pw_below_drewN | apply below_drew1) | exact HB.out))) : w.heap.size ≤ gb174)); have n3_ := Aside0.mk ((by rw [hg]; exact (below_size (by repeat (first | (with_reducible first | exact HB.out | apply below_alloc | apply pw_below_drewN | apply below_drew1) | exact HB.out))) : w.heap.size ≤ gb174)); clear HB; have HB := n0_; have BK174 := n1_; have GW174 := n2_; have GE174 := n3_; clear n0_ n1_ n2_ n3_; clear hb hbox hg))
   (try simp only [Act.put, List.setIfInBounds_toArray, List.set_cons_zero, List.set_cons_succ])
   go_cut [20] (fun v20 wc => ∃ (kq : Nat) (x20_6 : Bool), v20 = .bool x20_6 ∧ Aside0 (ip_Decode.j0 kq l0 x20_6 = some (r1, r2, r3, r4, r5, r6, r7, r8)) ∧ Aside0 (kq ≤ k) ∧ Aside0 (wc.heap[gb174]? = some (.cells #[.int .u32 0, .int .u32 0, .int .u8 0, .int .u8 0, .int .u16 0, .bool false] 26 (0, 0))) ∧ Aside0 (Below w.heap.size w wc))
   case first =>
    have H := HC7.out
    clear HC7
    by_cases c9 : 0 < (l0.length : Int)
    case neg => rw [if_neg c9] at H; exact absurd H (by simp)
    rw [if_pos c9] at H
    have c9b0 : decide (0 < (l0.length : Int)) = true := decide_eq_true c9
    have c9b1 : decide (0 < l0.length) = true := decide_eq_true (by omega)
    clear c9
    (first | rw [c9b0] | (simp only [i64_w, i32_w]; rw [c9b0]) | skip)
    by_cases c10 : (rd l0 0) = 69
    · rw [if_pos c10] at H
      have c10b0 : ((rd l0 0) == 69) = true := beq_iff_eq.mpr c10
      have c10b1 : ((rd l0 0) != 69) = false := bne_eq_false_iff_eq.mpr c10
      clear c10
      have H' := Aside0.mk H
      clear H
      have p185 : 0 ≤ (0 : Int) := (by omega)
      have q185 : 0 < (l0.length : Int) := of_decide_eq_true (by first | (with_reducible assumption) | assumption)
      obtain ⟨ad185, e185, hx185_0⟩ := Kd.at_int HR0.out 0 p185 q185
      cases e185
      have qi185 : (0 < l0.length) = True := eq_true (by omega)
      (try rw [show ((0 : Int)).toNat = 0 from rfl] at hx185_0)
      (try rw [Addr.add_zero'] at hx185_0)
      replace hx185_0 := (HB.out.cell (World.block_lt_of_cell? w _ hx185_0)).trans hx185_0
      replace p185 := eq_true p185
      replace q185 := eq_true q185
      go_wp2
      go_meet
      case rel => exact ⟨_, (false), (by first | rfl | (simp; done) | (simp [*]; done)), H', ⟨by first | omega | exact Nat.le_refl _⟩, ⟨by (with_reducible repeat (first | refine blk_drewN ?_ _ | refine blk_drew ?_ | refine blk_alloc ?_ _)); exact BK174.out⟩, ⟨by repeat (first | (with_reducible first | exact HB.out | apply below_alloc | apply pw_below_drewN | apply below_drew1 | refine below_set ?_ GE174.out) | exact HB.out)⟩⟩
    · rw [if_neg c10] at H
      have c10b0 : ((rd l0 0) == 69) = false := beq_eq_false_iff_ne.mpr c10
      have c10b1 : ((rd l0 0) != 69) = true := bne_iff_ne.mpr c10
      have H' := Aside0.mk H
      clear H
      have p185 : 0 ≤ (0 : Int) := (by omega)
      have q185 : 0 < (l0.length : Int) := of_decide_eq_true (by first | (with_reducible assumption) | assumption)
      obtain ⟨ad185, e185, hx185_0⟩ := Kd.at_int HR0.out 0 p185 q185
      cases e185
      have qi185 : (0 < l0.length) = True := eq_true (by omega)
      (try rw [show ((0 : Int)).toNat = 0 from rfl] at hx185_0)
      (try rw [Addr.add_zero'] at hx185_0)
      replace hx185_0 := (HB.out.cell (World.block_lt_of_cell? w _ hx185_0)).trans hx185_0
      replace p185 := eq_true p185
      replace q185 := eq_true q185
      have p186 : 0 ≤ (0 : Int) := (by omega)
      have q186 : 0 < (l0.length : Int) := of_decide_eq_true (by first | (with_reducible assumption) | assumption)
      obtain ⟨ad186, e186, hx186_0⟩ := Kd.at_int HR0.out 0 p186 q186
      obtain rfl : ad185 = ad186 := (by injection e186)
      have qi186 : (0 < l0.length) = True := eq_true (by omega)
      (try rw [show ((0 : Int)).toNat = 0 from rfl] at hx186_0)
      (try rw [Addr.add_zero'] at hx186_0)
      replace hx186_0 := (HB.out.cell (World.block_lt_of_cell? w _ hx186_0)).trans hx186_0
      replace p186 := eq_true p186
      replace q186 := eq_true q186
      go_wp2
      go_meet
      case rel => exact ⟨_, (((rd l0 0) != 70)), (by first | rfl | (simp; done) | (simp [*]; done)), H', ⟨by first | omega | exact Nat.le_refl _⟩, ⟨by (with_reducible repeat (first | refine blk_drewN ?_ _ | refine blk_drew ?_ | refine blk_alloc ?_ _)); exact BK174.out⟩, ⟨by repeat (first | (with_reducible first | exact HB.out | apply below_alloc | apply pw_below_drewN | apply below_drew1 | refine below_set ?_ GE174.out) | exact HB.out)⟩⟩
   case rest =>
    clear HC7
    try clear c1
    try clear p1
    try clear q1
    try clear hx1
    try clear qi1
    try clear c2
    try clear c2b0
    try clear c2b1
    try clear p2
    try clear c9
    try clear c9b0
    try clear c9b1
    try clear c10
    try clear c10b0
    try clear c10b1
    try clear hcz6_0
    try clear hcz6_1
    try clear hcz6_2
    try clear hcz6_3
    try clear hcz6_4
    try clear hcz6_5
    try clear hfz6_0
    try clear hfz6_1
    try clear hfz6_2
    try clear hfz6_3
    try clear hfz6_4
    try clear hfz6_5
    try clear hx185_0
    try clear hx186_0
    try clear p185
    try clear p186
    try clear q185
    try clear q186
    obtain ⟨kq, x20_6, rfl, HA, HJ6, BK174, HB⟩ := hcut
    cases kq with
    | zero => exact absurd HA.out (by simp [ip_Decode.j0])
    | succ kj6 =>
     have H := HA.out
     clear HA
     simp only [ip_Decode.j0] at H
     by_cases c11 : x20_6 = true
     · subst c11
       have H1 : ((ip_Decode_1.f 2).bind fun bt187 => (some (bt187.1, bt187.2.1, bt187.2.2.1, bt187.2.2.2.1, bt187.2.2.2.2.1, bt187.2.2.2.2.2.1, bt187.2.2.2.2.2.2.1, bt187.2.2.2.2.2.2.2))) = some (r1, r2, r3, r4, r5, r6, r7, r8) := by rw [if_pos rfl] at H; exact H
       clear H
       have H := H1
       clear H1
       replace H := Option.bind_eq_some_iff.mp H
       obtain ⟨⟨t187, t188, t189, t190, t191, t192, t193, t196⟩, A120, H⟩ := H
       replace H : (some (t187, t188, t189, t190, t191, t192, t193, t196)) = some (r1, r2, r3, r4, r5, r6, r7, r8) := H
       have A12 := Aside0.mk A120
       clear A120
       simp only [Option.some.injEq, Prod.mk.injEq] at H
       obtain ⟨rfl, rfl, rfl, rfl, rfl, rfl, rfl, rfl⟩ := H
       go_wp2_with (first | (refine goesV_ (f := 20) (some 32) rfl rfl Try.func20 (by kernel_rfl) rfl #[.int .i64 2] rfl (by first | rfl | (go_simp; rfl)) (by (try simp only [List.map_toArray, List.map_cons, List.map_nil]); first | done | rfl | (simp only [List.length_drop, List.length_take]; rfl)) ?_; (with_reducible refine (ip_Decode_1.calls 2 t187 t188 t189 t190 t191 t192 t193 t196 _ A12.out).mono ?_); rintro e w13 ⟨v194, rfl, ho0, hb⟩; refine ⟨_, rfl, ?_⟩; have n0_ := Aside0.mk (Kd.R_lower ho0 (below_size (by repeat (first | (with_reducible first | exact HB.out | apply below_alloc | apply pw_below_drewN | apply below_drew1 | refine below_set ?_ GE174.out) | exact HB.out)))); have n1_ := Aside0.mk (blk_below (g := gb174) (o := .cells #[.int .u32 0, .int .u32 0, .int .u8 0, .int .u8 0, .int .u16 0, .bool false] 26 (0, 0)) (by (with_reducible repeat (first | refine blk_drewN ?_ _ | refine blk_drew ?_ | refine blk_alloc ?_ _)); exact BK174.out) hb); have n2_ := Aside0.mk (below_step (by repeat (first | (with_reducible first | exact HB.out | apply below_alloc | apply pw_below_drewN | apply below_drew1 | refine below_set ?_ GE174.out) | exact HB.out)) hb); clear BK174; clear HB; have HO195 := n0_; have BK174 := n1_; have HB := n2_; clear n0_ n1_ n2_; (try clear hb); (try clear hb2); (try clear hk); (try clear hi); (try clear ho0); have hcz14_0 : w13.cell? ⟨gb174, 0, none⟩ = some (.int .u32 0) := (blk_cell BK174.out 0).trans rfl; have hcz14_1 : w13.cell? ⟨gb174, 1, none⟩ = some (.int .u32 0) := (blk_cell BK174.out 1).trans rfl; have hcz14_2 : w13.cell? ⟨gb174, 2, none⟩ = some (.int .u8 0) := (blk_cell BK174.out 2).trans rfl; have hcz14_3 : w13.cell? ⟨gb174, 3, none⟩ = some (.int .u8 0) := (blk_cell BK174.out 3).trans rfl; have hcz14_4 : w13.cell? ⟨gb174, 4, none⟩ = some (.int .u16 0) := (blk_cell BK174.out 4).trans rfl; have hcz14_5 : w13.cell? ⟨gb174, 5, none⟩ = some (.bool false) := (blk_cell BK174.out 5).trans rfl; have hfz14_0 := blk_frozen BK174.out 0; have hfz14_1 := blk_frozen BK174.out 1; have hfz14_2 := blk_frozen BK174.out 2; have hfz14_3 := blk_frozen BK174.out 3; have hfz14_4 := blk_frozen BK174.out 4; have hfz14_5 := blk_frozen BK174.out 5))
       refine bodyPost_ret (results_ctt rfl _ _ gb174 26 #[.int .u32 t187, .int .u32 t188, .int .u8 t189, .int .u8 t190, .int .u16 t191, .bool t192] (0, 0) _ rfl (by (with_reducible repeat (first | refine blk_drewN ?_ _ | refine blk_drew ?_ | refine blk_alloc ?_ _)); refine blk_put (cs := #[.int .u32 t187, .int .u32 t188, .int .u8 t189, .int .u8 t190, .int .u16 t191, .bool false]) ?_ 5 _ rfl; (with_reducible repeat (first | refine blk_drewN ?_ _ | refine blk_drew ?_ | refine blk_alloc ?_ _)); refine blk_put (cs := #[.int .u32 t187, .int .u32 t188, .int .u8 t189, .int .u8 t190, .int .u16 0, .bool false]) ?_ 4 _ rfl; (with_reducible repeat (first | refine blk_drewN ?_ _ | refine blk_drew ?_ | refine blk_alloc ?_ _)); refine blk_put (cs := #[.int .u32 t187, .int .u32 t188, .int .u8 t189, .int .u8 0, .int .u16 0, .bool false]) ?_ 3 _ rfl; (with_reducible repeat (first | refine blk_drewN ?_ _ | refine blk_drew ?_ | refine blk_alloc ?_ _)); refine blk_put (cs := #[.int .u32 t187, .int .u32 t188, .int .u8 0, .int .u8 0, .int .u16 0, .bool false]) ?_ 2 _ rfl; (with_reducible repeat (first | refine blk_drewN ?_ _ | refine blk_drew ?_ | refine blk_alloc ?_ _)); refine blk_put (cs := #[.int .u32 t187, .int .u32 0, .int .u8 0, .int .u8 0, .int .u16 0, .bool false]) ?_ 1 _ rfl; (with_reducible repeat (first | refine blk_drewN ?_ _ | refine blk_drew ?_ | refine blk_alloc ?_ _)); refine blk_put (cs := #[.int .u32 0, .int .u32 0, .int .u8 0, .int .u8 0, .int .u16 0, .bool false]) ?_ 0 _ rfl; (with_reducible repeat (first | refine blk_drewN ?_ _ | refine blk_drew ?_ | refine blk_alloc ?_ _)); exact BK174.out) Try.underlying26 rfl (by kernel_rfl)) rfl ?_
       exact ⟨_, by first | rfl | (simp [errW_none, errW_some] <;> rfl) | (simp [*, errW_none, errW_some] <;> rfl), by (with_reducible repeat (first | apply Kd.R_alloc | apply Kd.R_drewN | apply Kd.R_drew)); exact Kd.R_mono (Kd.R_far (p := ⟨gb174, 5, none⟩) (Kd.R_far (p := ⟨gb174, 4, none⟩) (Kd.R_far (p := ⟨gb174, 3, none⟩) (Kd.R_far (p := ⟨gb174, 2, none⟩) (Kd.R_far (p := ⟨gb174, 1, none⟩) (Kd.R_far (p := ⟨gb174, 0, none⟩) (Kd.R_types HO195.out BK174.out (by decide)) (fun _ hk => hk.2) (.int .u32 t187)) (fun _ hk => hk.2) (.int .u32 t188)) (fun _ hk => hk.2) (.int .u8 t189)) (fun _ hk => hk.2) (.int .u8 t190)) (fun _ hk => hk.2) (.int .u16 t191)) (fun _ hk => hk.2) (.bool t192)) (fun _ hk => trivial), by repeat (first | (with_reducible first | exact HB.out | apply below_alloc | apply pw_below_drewN | apply below_drew1 | refine below_set ?_ GE174.out) | exact HB.out)⟩
     · replace c11 := Bool.eq_false_iff.mpr c11
       subst c11
       have H1 : (if 0 < (l0.length : Int) then ((ip_size.f ((rd l0 0) == 70)).bind fun t198 => (if (l0.length : Int) < t198 then ((ip_Decode_1.f 3).bind fun bt199 => (some (bt199.1, bt199.2.1, bt199.2.2.1, bt199.2.2.2.1, bt199.2.2.2.2.1, bt199.2.2.2.2.2.1, bt199.2.2.2.2.2.2.1, bt199.2.2.2.2.2.2.2))) else ((ip_read.f kj6 l0).bind fun bt210 => (if 0 ≤ t198 then (if t198 ≤ (l0.length : Int) then ((sum_Whole.f (l0.take (t198 : Int).toNat)).bind fun t219 => (if t219 = true then (if 1 < (l0.length : Int) then (if (rd l0 1) = 0 then (if 6 < (l0.length : Int) then (if (rd l0 6) = 0 then (if 7 < (l0.length : Int) then (if (rd l0 7) = 0 then (if bt210.2.2.2.2.2.1 = true then (if 20 ≤ 24 then (if 24 ≤ (l0.length : Int) then ((ip_option.f).bind fun t224 => ((bytes_Equal.f ((l0.take 24).drop 20) t224).bind fun t227 => (if t227 = true then (if bt210.2.2.2.2.2.2 < t198 then (ip_Decode.j1 kj6 l0 t198 bt210.2.2.2.2.2.2 true bt210.1 bt210.2.1 bt210.2.2.1 bt210.2.2.2.1 bt210.2.2.2.2.1 bt210.2.2.2.2.2.1) else (ip_Decode.j1 kj6 l0 t198 bt210.2.2.2.2.2.2 (decide (bt210.2.2.2.2.2.2 > 1500)) bt210.1 bt210.2.1 bt210.2.2.1 bt210.2.2.2.1 bt210.2.2.2.2.1 bt210.2.2.2.2.2.1)) else (ip_Decode.j1 kj6 l0 t198 bt210.2.2.2.2.2.2 true bt210.1 bt210.2.1 bt210.2.2.1 bt210.2.2.2.1 bt210.2.2.2.2.1 bt210.2.2.2.2.2.1)))) else (none)) else (none)) else (if bt210.2.2.2.2.2.2 < t198 then (ip_Decode.j1 kj6 l0 t198 bt210.2.2.2.2.2.2 true bt210.1 bt210.2.1 bt210.2.2.1 bt210.2.2.2.1 bt210.2.2.2.2.1 bt210.2.2.2.2.2.1) else (ip_Decode.j1 kj6 l0 t198 bt210.2.2.2.2.2.2 (decide (bt210.2.2.2.2.2.2 > 1500)) bt210.1 bt210.2.1 bt210.2.2.1 bt210.2.2.2.1 bt210.2.2.2.2.1 bt210.2.2.2.2.2.1))) else (ip_Decode.j1 kj6 l0 t198 bt210.2.2.2.2.2.2 true bt210.1 bt210.2.1 bt210.2.2.1 bt210.2.2.2.1 bt210.2.2.2.2.1 bt210.2.2.2.2.2.1)) else (none)) else (ip_Decode.j1 kj6 l0 t198 bt210.2.2.2.2.2.2 true bt210.1 bt210.2.1 bt210.2.2.1 bt210.2.2.2.1 bt210.2.2.2.2.1 bt210.2.2.2.2.2.1)) else (none)) else (ip_Decode.j1 kj6 l0 t198 bt210.2.2.2.2.2.2 true bt210.1 bt210.2.1 bt210.2.2.1 bt210.2.2.2.1 bt210.2.2.2.2.1 bt210.2.2.2.2.2.1)) else (none)) else ((ip_Decode_1.f 4).bind fun bt248 => (some (bt248.1, bt248.2.1, bt248.2.2.1, bt248.2.2.2.1, bt248.2.2.2.2.1, bt248.2.2.2.2.2.1, bt248.2.2.2.2.2.2.1, bt248.2.2.2.2.2.2.2))))) else (none)) else (none))))) else (none)) = some (r1, r2, r3, r4, r5, r6, r7, r8) := by rw [if_neg (show ¬ (false = true) by decide)] at H; exact H
       clear H
       have H := H1
       clear H1
       by_cases c15 : 0 < (l0.length : Int)
       case neg => rw [if_neg c15] at H; exact absurd H (by simp)
       rw [if_pos c15] at H
       have c15b0 : decide (0 < (l0.length : Int)) = true := decide_eq_true c15
       have c15b1 : decide (0 < l0.length) = true := decide_eq_true (by omega)
       clear c15
       replace H := Option.bind_eq_some_iff.mp H
       obtain ⟨t198, A160, H⟩ := H
       replace H : (if (l0.length : Int) < t198 then ((ip_Decode_1.f 3).bind fun bt199 => (some (bt199.1, bt199.2.1, bt199.2.2.1, bt199.2.2.2.1, bt199.2.2.2.2.1, bt199.2.2.2.2.2.1, bt199.2.2.2.2.2.2.1, bt199.2.2.2.2.2.2.2))) else ((ip_read.f kj6 l0).bind fun bt210 => (if 0 ≤ t198 then (if t198 ≤ (l0.length : Int) then ((sum_Whole.f (l0.take (t198 : Int).toNat)).bind fun t219 => (if t219 = true then (if 1 < (l0.length : Int) then (if (rd l0 1) = 0 then (if 6 < (l0.length : Int) then (if (rd l0 6) = 0 then (if 7 < (l0.length : Int) then (if (rd l0 7) = 0 then (if bt210.2.2.2.2.2.1 = true then (if 20 ≤ 24 then (if 24 ≤ (l0.length : Int) then ((ip_option.f).bind fun t224 => ((bytes_Equal.f ((l0.take 24).drop 20) t224).bind fun t227 => (if t227 = true then (if bt210.2.2.2.2.2.2 < t198 then (ip_Decode.j1 kj6 l0 t198 bt210.2.2.2.2.2.2 true bt210.1 bt210.2.1 bt210.2.2.1 bt210.2.2.2.1 bt210.2.2.2.2.1 bt210.2.2.2.2.2.1) else (ip_Decode.j1 kj6 l0 t198 bt210.2.2.2.2.2.2 (decide (bt210.2.2.2.2.2.2 > 1500)) bt210.1 bt210.2.1 bt210.2.2.1 bt210.2.2.2.1 bt210.2.2.2.2.1 bt210.2.2.2.2.2.1)) else (ip_Decode.j1 kj6 l0 t198 bt210.2.2.2.2.2.2 true bt210.1 bt210.2.1 bt210.2.2.1 bt210.2.2.2.1 bt210.2.2.2.2.1 bt210.2.2.2.2.2.1)))) else (none)) else (none)) else (if bt210.2.2.2.2.2.2 < t198 then (ip_Decode.j1 kj6 l0 t198 bt210.2.2.2.2.2.2 true bt210.1 bt210.2.1 bt210.2.2.1 bt210.2.2.2.1 bt210.2.2.2.2.1 bt210.2.2.2.2.2.1) else (ip_Decode.j1 kj6 l0 t198 bt210.2.2.2.2.2.2 (decide (bt210.2.2.2.2.2.2 > 1500)) bt210.1 bt210.2.1 bt210.2.2.1 bt210.2.2.2.1 bt210.2.2.2.2.1 bt210.2.2.2.2.2.1))) else (ip_Decode.j1 kj6 l0 t198 bt210.2.2.2.2.2.2 true bt210.1 bt210.2.1 bt210.2.2.1 bt210.2.2.2.1 bt210.2.2.2.2.1 bt210.2.2.2.2.2.1)) else (none)) else (ip_Decode.j1 kj6 l0 t198 bt210.2.2.2.2.2.2 true bt210.1 bt210.2.1 bt210.2.2.1 bt210.2.2.2.1 bt210.2.2.2.2.1 bt210.2.2.2.2.2.1)) else (none)) else (ip_Decode.j1 kj6 l0 t198 bt210.2.2.2.2.2.2 true bt210.1 bt210.2.1 bt210.2.2.1 bt210.2.2.2.1 bt210.2.2.2.2.1 bt210.2.2.2.2.2.1)) else (none)) else ((ip_Decode_1.f 4).bind fun bt248 => (some (bt248.1, bt248.2.1, bt248.2.2.1, bt248.2.2.2.1, bt248.2.2.2.2.1, bt248.2.2.2.2.2.1, bt248.2.2.2.2.2.2.1, bt248.2.2.2.2.2.2.2))))) else (none)) else (none)))) = some (r1, r2, r3, r4, r5, r6, r7, r8) := H
       have A16 := Aside0.mk A160
       clear A160
       by_cases c17 : (l0.length : Int) < t198
       · rw [if_pos c17] at H
         have c17b0 : decide ((l0.length : Int) < t198) = true := decide_eq_true c17
         clear c17
         replace H := Option.bind_eq_some_iff.mp H
         obtain ⟨⟨t199, t200, t201, t202, t203, t204, t205, t208⟩, A180, H⟩ := H
         replace H : (some (t199, t200, t201, t202, t203, t204, t205, t208)) = some (r1, r2, r3, r4, r5, r6, r7, r8) := H
         have A18 := Aside0.mk A180
         clear A180
         simp only [Option.some.injEq, Prod.mk.injEq] at H
         obtain ⟨rfl, rfl, rfl, rfl, rfl, rfl, rfl, rfl⟩ := H
         have p197 : 0 ≤ (0 : Int) := (by omega)
         have q197 : 0 < (l0.length : Int) := of_decide_eq_true (by first | (with_reducible assumption) | assumption)
         obtain ⟨ad197, e197, hx197_0⟩ := Kd.at_int HR0.out 0 p197 q197
         cases e197
         have qi197 : (0 < l0.length) = True := eq_true (by omega)
         (try rw [show ((0 : Int)).toNat = 0 from rfl] at hx197_0)
         (try rw [Addr.add_zero'] at hx197_0)
         replace hx197_0 := (HB.out.cell (World.block_lt_of_cell? w _ hx197_0)).trans hx197_0
         replace p197 := eq_true p197
         replace q197 := eq_true q197
         go_wp2_with (first | ((with_reducible refine gate_callee (f := 17) rfl ?_); refine goesL_ (some 43) rfl rfl Try.func17 (by kernel_rfl) rfl #[.bool ((rd l0 0) == 70)] rfl (by (try simp only [List.map_toArray, List.map_cons, List.map_nil]); first | done | rfl | (simp only [List.length_drop, List.length_take]; rfl)) ?_; (with_reducible refine (ip_size.calls ((rd l0 0) == 70) t198 _ A16.out).mono ?_); rintro e w' ⟨rfl, ⟨nd, rfl⟩⟩; refine ⟨_, rfl, ?_⟩; (try (rw [drewN_self wc]; generalize hq_ : World.drewN wc _ = wc; have n0_ : Aside0 (wc.heap[gb174]? = some (.cells #[.int .u32 0, .int .u32 0, .int .u8 0, .int .u8 0, .int .u16 0, .bool false] 26 (0, 0))) := ⟨by rw [← hq_]; exact (by (with_reducible repeat (first | refine blk_drewN ?_ _ | refine blk_drew ?_ | refine blk_alloc ?_ _)); exact BK174.out)⟩; have n1_ : Aside0 (Below w.heap.size w wc) := ⟨by rw [← hq_]; exact (by repeat (first | (with_reducible first | exact HB.out | apply below_alloc | apply pw_below_drewN | apply below_drew1 | refine below_set ?_ GE174.out) | exact HB.out))⟩; clear BK174 HB hq_; have BK174 := n0_; have HB := n1_; clear n0_ n1_))) | (refine goesV_ (f := 20) (some 46) rfl rfl Try.func20 (by kernel_rfl) rfl #[.int .i64 3] rfl (by first | rfl | (go_simp; rfl)) (by (try simp only [List.map_toArray, List.map_cons, List.map_nil]); first | done | rfl | (simp only [List.length_drop, List.length_take]; rfl)) ?_; (with_reducible refine (ip_Decode_1.calls 3 t199 t200 t201 t202 t203 t204 t205 t208 _ A18.out).mono ?_); rintro e w19 ⟨v206, rfl, ho0, hb⟩; refine ⟨_, rfl, ?_⟩; have n0_ := Aside0.mk (Kd.R_lower ho0 (below_size (by repeat (first | (with_reducible first | exact HB.out | apply below_alloc | apply pw_below_drewN | apply below_drew1 | refine below_set ?_ GE174.out) | exact HB.out)))); have n1_ := Aside0.mk (blk_below (g := gb174) (o := .cells #[.int .u32 0, .int .u32 0, .int .u8 0, .int .u8 0, .int .u16 0, .bool false] 26 (0, 0)) (by (with_reducible repeat (first | refine blk_drewN ?_ _ | refine blk_drew ?_ | refine blk_alloc ?_ _)); exact BK174.out) hb); have n2_ := Aside0.mk (below_step (by repeat (first | (with_reducible first | exact HB.out | apply below_alloc | apply pw_below_drewN | apply below_drew1 | refine below_set ?_ GE174.out) | exact HB.out)) hb); clear BK174; clear HB; have HO207 := n0_; have BK174 := n1_; have HB := n2_; clear n0_ n1_ n2_; (try clear hb); (try clear hb2); (try clear hk); (try clear hi); (try clear ho0); have hcz20_0 : w19.cell? ⟨gb174, 0, none⟩ = some (.int .u32 0) := (blk_cell BK174.out 0).trans rfl; have hcz20_1 : w19.cell? ⟨gb174, 1, none⟩ = some (.int .u32 0) := (blk_cell BK174.out 1).trans rfl; have hcz20_2 : w19.cell? ⟨gb174, 2, none⟩ = some (.int .u8 0) := (blk_cell BK174.out 2).trans rfl; have hcz20_3 : w19.cell? ⟨gb174, 3, none⟩ = some (.int .u8 0) := (blk_cell BK174.out 3).trans rfl; have hcz20_4 : w19.cell? ⟨gb174, 4, none⟩ = some (.int .u16 0) := (blk_cell BK174.out 4).trans rfl; have hcz20_5 : w19.cell? ⟨gb174, 5, none⟩ = some (.bool false) := (blk_cell BK174.out 5).trans rfl; have hfz20_0 := blk_frozen BK174.out 0; have hfz20_1 := blk_frozen BK174.out 1; have hfz20_2 := blk_frozen BK174.out 2; have hfz20_3 := blk_frozen BK174.out 3; have hfz20_4 := blk_frozen BK174.out 4; have hfz20_5 := blk_frozen BK174.out 5))
         refine bodyPost_ret (results_ctt rfl _ _ gb174 26 #[.int .u32 t199, .int .u32 t200, .int .u8 t201, .int .u8 t202, .int .u16 t203, .bool t204] (0, 0) _ rfl (by (with_reducible repeat (first | refine blk_drewN ?_ _ | refine blk_drew ?_ | refine blk_alloc ?_ _)); refine blk_put (cs := #[.int .u32 t199, .int .u32 t200, .int .u8 t201, .int .u8 t202, .int .u16 t203, .bool false]) ?_ 5 _ rfl; (with_reducible repeat (first | refine blk_drewN ?_ _ | refine blk_drew ?_ | refine blk_alloc ?_ _)); refine blk_put (cs := #[.int .u32 t199, .int .u32 t200, .int .u8 t201, .int .u8 t202, .int .u16 0, .bool false]) ?_ 4 _ rfl; (with_reducible repeat (first | refine blk_drewN ?_ _ | refine blk_drew ?_ | refine blk_alloc ?_ _)); refine blk_put (cs := #[.int .u32 t199, .int .u32 t200, .int .u8 t201, .int .u8 0, .int .u16 0, .bool false]) ?_ 3 _ rfl; (with_reducible repeat (first | refine blk_drewN ?_ _ | refine blk_drew ?_ | refine blk_alloc ?_ _)); refine blk_put (cs := #[.int .u32 t199, .int .u32 t200, .int .u8 0, .int .u8 0, .int .u16 0, .bool false]) ?_ 2 _ rfl; (with_reducible repeat (first | refine blk_drewN ?_ _ | refine blk_drew ?_ | refine blk_alloc ?_ _)); refine blk_put (cs := #[.int .u32 t199, .int .u32 0, .int .u8 0, .int .u8 0, .int .u16 0, .bool false]) ?_ 1 _ rfl; (with_reducible repeat (first | refine blk_drewN ?_ _ | refine blk_drew ?_ | refine blk_alloc ?_ _)); refine blk_put (cs := #[.int .u32 0, .int .u32 0, .int .u8 0, .int .u8 0, .int .u16 0, .bool false]) ?_ 0 _ rfl; (with_reducible repeat (first | refine blk_drewN ?_ _ | refine blk_drew ?_ | refine blk_alloc ?_ _)); exact BK174.out) Try.underlying26 rfl (by kernel_rfl)) rfl ?_
         exact ⟨_, by first | rfl | (simp [errW_none, errW_some] <;> rfl) | (simp [*, errW_none, errW_some] <;> rfl), by (with_reducible repeat (first | apply Kd.R_alloc | apply Kd.R_drewN | apply Kd.R_drew)); exact Kd.R_mono (Kd.R_far (p := ⟨gb174, 5, none⟩) (Kd.R_far (p := ⟨gb174, 4, none⟩) (Kd.R_far (p := ⟨gb174, 3, none⟩) (Kd.R_far (p := ⟨gb174, 2, none⟩) (Kd.R_far (p := ⟨gb174, 1, none⟩) (Kd.R_far (p := ⟨gb174, 0, none⟩) (Kd.R_types HO207.out BK174.out (by decide)) (fun _ hk => hk.2) (.int .u32 t199)) (fun _ hk => hk.2) (.int .u32 t200)) (fun _ hk => hk.2) (.int .u8 t201)) (fun _ hk => hk.2) (.int .u8 t202)) (fun _ hk => hk.2) (.int .u16 t203)) (fun _ hk => hk.2) (.bool t204)) (fun _ hk => trivial), by repeat (first | (with_reducible first | exact HB.out | apply below_alloc | apply pw_below_drewN | apply below_drew1 | refine below_set ?_ GE174.out) | exact HB.out)⟩
       · rw [if_neg c17] at H
         have c17b0 : decide ((l0.length : Int) < t198) = false := decide_eq_false c17
         clear c17
         replace H := Option.bind_eq_some_iff.mp H
         obtain ⟨⟨t210, t211, t212, t213, t214, t215, t216⟩, A210, H⟩ := H
         replace H : (if 0 ≤ t198 then (if t198 ≤ (l0.length : Int) then ((sum_Whole.f (l0.take (t198 : Int).toNat)).bind fun t219 => (if t219 = true then (if 1 < (l0.length : Int) then (if (rd l0 1) = 0 then (if 6 < (l0.length : Int) then (if (rd l0 6) = 0 then (if 7 < (l0.length : Int) then (if (rd l0 7) = 0 then (if t215 = true then (if 20 ≤ 24 then (if 24 ≤ (l0.length : Int) then ((ip_option.f).bind fun t224 => ((bytes_Equal.f ((l0.take 24).drop 20) t224).bind fun t227 => (if t227 = true then (if t216 < t198 then (ip_Decode.j1 kj6 l0 t198 t216 true t210 t211 t212 t213 t214 t215) else (ip_Decode.j1 kj6 l0 t198 t216 (decide (t216 > 1500)) t210 t211 t212 t213 t214 t215)) else (ip_Decode.j1 kj6 l0 t198 t216 true t210 t211 t212 t213 t214 t215)))) else (none)) else (none)) else (if t216 < t198 then (ip_Decode.j1 kj6 l0 t198 t216 true t210 t211 t212 t213 t214 t215) else (ip_Decode.j1 kj6 l0 t198 t216 (decide (t216 > 1500)) t210 t211 t212 t213 t214 t215))) else (ip_Decode.j1 kj6 l0 t198 t216 true t210 t211 t212 t213 t214 t215)) else (none)) else (ip_Decode.j1 kj6 l0 t198 t216 true t210 t211 t212 t213 t214 t215)) else (none)) else (ip_Decode.j1 kj6 l0 t198 t216 true t210 t211 t212 t213 t214 t215)) else (none)) else ((ip_Decode_1.f 4).bind fun bt248 => (some (bt248.1, bt248.2.1, bt248.2.2.1, bt248.2.2.2.1, bt248.2.2.2.2.1, bt248.2.2.2.2.2.1, bt248.2.2.2.2.2.2.1, bt248.2.2.2.2.2.2.2))))) else (none)) else (none)) = some (r1, r2, r3, r4, r5, r6, r7, r8) := H
         have A21 := Aside0.mk A210
         clear A210
         by_cases c22 : 0 ≤ t198
         case neg => rw [if_neg c22] at H; exact absurd H (by simp)
         rw [if_pos c22] at H
         have c22b0 := eq_true c22
         have c22b1 : decide (0 ≤ t198) = true := decide_eq_true c22
         clear c22
         by_cases c23 : t198 ≤ (l0.length : Int)
         case neg => rw [if_neg c23] at H; exact absurd H (by simp)
         rw [if_pos c23] at H
         have c23b0 := eq_true c23
         have c23b1 : decide (t198 ≤ (l0.length : Int)) = true := decide_eq_true c23
         clear c23
         replace H := Option.bind_eq_some_iff.mp H
         obtain ⟨t219, A240, H⟩ := H
         replace H : (if t219 = true then (if 1 < (l0.length : Int) then (if (rd l0 1) = 0 then (if 6 < (l0.length : Int) then (if (rd l0 6) = 0 then (if 7 < (l0.length : Int) then (if (rd l0 7) = 0 then (if t215 = true then (if 20 ≤ 24 then (if 24 ≤ (l0.length : Int) then ((ip_option.f).bind fun t224 => ((bytes_Equal.f ((l0.take 24).drop 20) t224).bind fun t227 => (if t227 = true then (if t216 < t198 then (ip_Decode.j1 kj6 l0 t198 t216 true t210 t211 t212 t213 t214 t215) else (ip_Decode.j1 kj6 l0 t198 t216 (decide (t216 > 1500)) t210 t211 t212 t213 t214 t215)) else (ip_Decode.j1 kj6 l0 t198 t216 true t210 t211 t212 t213 t214 t215)))) else (none)) else (none)) else (if t216 < t198 then (ip_Decode.j1 kj6 l0 t198 t216 true t210 t211 t212 t213 t214 t215) else (ip_Decode.j1 kj6 l0 t198 t216 (decide (t216 > 1500)) t210 t211 t212 t213 t214 t215))) else (ip_Decode.j1 kj6 l0 t198 t216 true t210 t211 t212 t213 t214 t215)) else (none)) else (ip_Decode.j1 kj6 l0 t198 t216 true t210 t211 t212 t213 t214 t215)) else (none)) else (ip_Decode.j1 kj6 l0 t198 t216 true t210 t211 t212 t213 t214 t215)) else (none)) else ((ip_Decode_1.f 4).bind fun bt248 => (some (bt248.1, bt248.2.1, bt248.2.2.1, bt248.2.2.2.1, bt248.2.2.2.2.1, bt248.2.2.2.2.2.1, bt248.2.2.2.2.2.2.1, bt248.2.2.2.2.2.2.2)))) = some (r1, r2, r3, r4, r5, r6, r7, r8) := H
         have A24 := Aside0.mk A240
         clear A240
         by_cases c25 : t219 = true
         · subst c25
           have H1 : (if 1 < (l0.length : Int) then (if (rd l0 1) = 0 then (if 6 < (l0.length : Int) then (if (rd l0 6) = 0 then (if 7 < (l0.length : Int) then (if (rd l0 7) = 0 then (if t215 = true then (if 20 ≤ 24 then (if 24 ≤ (l0.length : Int) then ((ip_option.f).bind fun t224 => ((bytes_Equal.f ((l0.take 24).drop 20) t224).bind fun t227 => (if t227 = true then (if t216 < t198 then (ip_Decode.j1 kj6 l0 t198 t216 true t210 t211 t212 t213 t214 t215) else (ip_Decode.j1 kj6 l0 t198 t216 (decide (t216 > 1500)) t210 t211 t212 t213 t214 t215)) else (ip_Decode.j1 kj6 l0 t198 t216 true t210 t211 t212 t213 t214 t215)))) else (none)) else (none)) else (if t216 < t198 then (ip_Decode.j1 kj6 l0 t198 t216 true t210 t211 t212 t213 t214 t215) else (ip_Decode.j1 kj6 l0 t198 t216 (decide (t216 > 1500)) t210 t211 t212 t213 t214 t215))) else (ip_Decode.j1 kj6 l0 t198 t216 true t210 t211 t212 t213 t214 t215)) else (none)) else (ip_Decode.j1 kj6 l0 t198 t216 true t210 t211 t212 t213 t214 t215)) else (none)) else (ip_Decode.j1 kj6 l0 t198 t216 true t210 t211 t212 t213 t214 t215)) else (none)) = some (r1, r2, r3, r4, r5, r6, r7, r8) := by rw [if_pos rfl] at H; exact H
           clear H
           have H := H1
           clear H1
           have HC26 := Aside0.mk H
           clear H
           have p197 : 0 ≤ (0 : Int) := (by omega)
           have q197 : 0 < (l0.length : Int) := of_decide_eq_true (by first | (with_reducible assumption) | assumption)
           obtain ⟨ad197, e197, hx197_0⟩ := Kd.at_int HR0.out 0 p197 q197
           cases e197
           have qi197 : (0 < l0.length) = True := eq_true (by omega)
           (try rw [show ((0 : Int)).toNat = 0 from rfl] at hx197_0)
           (try rw [Addr.add_zero'] at hx197_0)
           replace hx197_0 := (HB.out.cell (World.block_lt_of_cell? w _ hx197_0)).trans hx197_0
           replace p197 := eq_true p197
           replace q197 := eq_true q197
           go_upto_region 12 with (first | ((with_reducible refine gate_callee (f := 17) rfl ?_); refine goesL_ (some 54) rfl rfl Try.func17 (by kernel_rfl) rfl #[.bool ((rd l0 0) == 70)] rfl (by (try simp only [List.map_toArray, List.map_cons, List.map_nil]); first | done | rfl | (simp only [List.length_drop, List.length_take]; rfl)) ?_; (with_reducible refine (ip_size.calls ((rd l0 0) == 70) t198 _ A16.out).mono ?_); rintro e w' ⟨rfl, ⟨nd, rfl⟩⟩; refine ⟨_, rfl, ?_⟩; (try (rw [drewN_self wc]; generalize hq_ : World.drewN wc _ = wc; have n0_ : Aside0 (wc.heap[gb174]? = some (.cells #[.int .u32 0, .int .u32 0, .int .u8 0, .int .u8 0, .int .u16 0, .bool false] 26 (0, 0))) := ⟨by rw [← hq_]; exact (by (with_reducible repeat (first | refine blk_drewN ?_ _ | refine blk_drew ?_ | refine blk_alloc ?_ _)); exact BK174.out)⟩; have n1_ : Aside0 (Below w.heap.size w wc) := ⟨by rw [← hq_]; exact (by repeat (first | (with_reducible first | exact HB.out | apply below_alloc | apply pw_below_drewN | apply below_drew1 | refine below_set ?_ GE174.out) | exact HB.out))⟩; clear BK174 HB hq_; have BK174 := n0_; have HB := n1_; clear n0_ n1_))) | ((with_reducible refine gate_callee (f := 17) rfl ?_); refine goesL_ (some 43) rfl rfl Try.func17 (by kernel_rfl) rfl #[.bool ((rd l0 0) == 70)] rfl (by (try simp only [List.map_toArray, List.map_cons, List.map_nil]); first | done | rfl | (simp only [List.length_drop, List.length_take]; rfl)) ?_; (with_reducible refine (ip_size.calls ((rd l0 0) == 70) t198 _ A16.out).mono ?_); rintro e w' ⟨rfl, ⟨nd, rfl⟩⟩; refine ⟨_, rfl, ?_⟩; (try (rw [drewN_self wc]; generalize hq_ : World.drewN wc _ = wc; have n0_ : Aside0 (wc.heap[gb174]? = some (.cells #[.int .u32 0, .int .u32 0, .int .u8 0, .int .u8 0, .int .u16 0, .bool false] 26 (0, 0))) := ⟨by rw [← hq_]; exact (by (with_reducible repeat (first | refine blk_drewN ?_ _ | refine blk_drew ?_ | refine blk_alloc ?_ _)); exact BK174.out)⟩; have n1_ : Aside0 (Below w.heap.size w wc) := ⟨by rw [← hq_]; exact (by repeat (first | (with_reducible first | exact HB.out | apply below_alloc | apply pw_below_drewN | apply below_drew1 | refine below_set ?_ GE174.out) | exact HB.out))⟩; clear BK174 HB hq_; have BK174 := n0_; have HB := n1_; clear n0_ n1_)); have p209 : 0 ≤ (0 : Int) := (by omega); have q209 : 0 < (l0.length : Int) := of_decide_eq_true (by first | (with_reducible assumption) | assumption); obtain ⟨ad209, e209, hx209_0⟩ := Kd.at_int HR0.out 0 p209 q209; obtain rfl : ad197 = ad209 := (by injection e209); have qi209 : (0 < l0.length) = True := eq_true (by omega); (try rw [show ((0 : Int)).toNat = 0 from rfl] at hx209_0); (try rw [Addr.add_zero'] at hx209_0); replace hx209_0 := (HB.out.cell (World.block_lt_of_cell? w _ hx209_0)).trans hx209_0; replace p209 := eq_true p209; replace q209 := eq_true q209) | ((with_reducible refine gate_callee (f := 21) rfl ?_); refine goesL_ (some 57) rfl rfl Try.func21 (by kernel_rfl) rfl #[.slice (some ad197) l0.length c0] rfl (by (try simp only [List.map_toArray, List.map_cons, List.map_nil]); first | done | rfl | (simp only [List.length_drop, List.length_take]; rfl)) ?_; (with_reducible refine (ip_read.calls kj6 _ _ l0 t210 t211 t212 t213 t214 t215 t216 _ ?side1 ?side2 A21.out).mono ?_); (case side1 => repeat (first | exact (Kd.C_below HR0.out HB.out) | (with_reducible refine Kd.C_alloc ?_ _) | (with_reducible refine Kd.C_drewN ?_ _) | (with_reducible refine Kd.C_drew ?_))); (case side2 => exact HC0.out); rintro e w27 ⟨rfl, hb⟩; refine ⟨_, rfl, ?_⟩; have n0_ := Aside0.mk (blk_below (g := gb174) (o := .cells #[.int .u32 0, .int .u32 0, .int .u8 0, .int .u8 0, .int .u16 0, .bool false] 26 (0, 0)) (by (with_reducible repeat (first | refine blk_drewN ?_ _ | refine blk_drew ?_ | refine blk_alloc ?_ _)); exact BK174.out) hb); have n1_ := Aside0.mk (below_step (by repeat (first | (with_reducible first | exact HB.out | apply below_alloc | apply pw_below_drewN | apply below_drew1 | refine below_set ?_ GE174.out) | exact HB.out)) hb); clear BK174; clear HB; have BK174 := n0_; have HB := n1_; clear n0_ n1_; (try clear hb); (try clear hb2); (try clear hk); (try clear hi)) | ((with_reducible refine gate_dst (N := 7) rfl ?_); refine box_event ?hg (N := 7) ?hd (cs := #[.int .u32 0, .int .u32 0, .int .u8 0, .int .u8 0, .int .u16 0, .bool false]) (t := 26) ?hr ?_; (case hd => rfl); (case hg => rfl); (case hr => first | (go_simp; done) | (go_simp; rfl)); intro gb217 hg w28 hbox hb; have n0_ := Aside0.mk (blk_below (g := gb174) (o := .cells #[.int .u32 0, .int .u32 0, .int .u8 0, .int .u8 0, .int .u16 0, .bool false] 26 (0, 0)) (by (with_reducible repeat (first | refine blk_drewN ?_ _ | refine blk_drew ?_ | refine blk_alloc ?_ _)); exact BK174.out) hb); have n1_ := Aside0.mk (below_step (by repeat (first | (with_reducible first | exact HB.out | apply below_alloc | apply pw_below_drewN | apply below_drew1 | refine below_set ?_ GE174.out) | exact HB.out)) hb); have n2_ := Aside0.mk (hbox); have n3_ := Aside0.mk ((by rw [hg]; exact (below_size (by repeat (first | (with_reducible first | exact HB.out | apply below_alloc | apply pw_below_drewN | apply below_drew1 | refine below_set ?_ GE174.out) | exact HB.out))) : w.heap.size ≤ gb217)); have n4_ := Aside0.mk ((by rw [hg]; exact (below_size (by repeat (first | (with_reducible first | exact HB.out | apply below_alloc | apply pw_below_drewN | apply below_drew1 | refine below_set ?_ GE174.out) | exact HB.out))) : w.heap.size ≤ gb217)); have n5_ := Aside0.mk ((by rw [hg]; exact Nat.ne_of_lt (blk_lt (g := gb174) (o := .cells #[.int .u32 0, .int .u32 0, .int .u8 0, .int .u8 0, .int .u16 0, .bool false] 26 (0, 0)) (by (with_reducible repeat (first | refine blk_drewN ?_ _ | refine blk_drew ?_ | refine blk_alloc ?_ _)); exact BK174.out)) : gb174 ≠ gb217)); have n6_ := Aside0.mk ((by rw [hg]; exact Nat.ne_of_gt (blk_lt (g := gb174) (o := .cells #[.int .u32 0, .int .u32 0, .int .u8 0, .int .u8 0, .int .u16 0, .bool false] 26 (0, 0)) (by (with_reducible repeat (first | refine blk_drewN ?_ _ | refine blk_drew ?_ | refine blk_alloc ?_ _)); exact BK174.out)) : gb217 ≠ gb174)); clear BK174; clear HB; have BK174 := n0_; have HB := n1_; have BK217 := n2_; have GW217 := n3_; have GE217 := n4_; have NB174_217 := n5_; have NB217_174 := n6_; clear n0_ n1_ n2_ n3_ n4_ n5_ n6_; clear hb hbox hg; have hnb29 := NB217_174.out; have hnc29 := NB174_217.out; have hcz30_0 : w28.cell? ⟨gb217, 0, none⟩ = some (.int .u32 0) := (blk_cell BK217.out 0).trans rfl; have hcz30_1 : w28.cell? ⟨gb217, 1, none⟩ = some (.int .u32 0) := (blk_cell BK217.out 1).trans rfl; have hcz30_2 : w28.cell? ⟨gb217, 2, none⟩ = some (.int .u8 0) := (blk_cell BK217.out 2).trans rfl; have hcz30_3 : w28.cell? ⟨gb217, 3, none⟩ = some (.int .u8 0) := (blk_cell BK217.out 3).trans rfl; have hcz30_4 : w28.cell? ⟨gb217, 4, none⟩ = some (.int .u16 0) := (blk_cell BK217.out 4).trans rfl; have hcz30_5 : w28.cell? ⟨gb217, 5, none⟩ = some (.bool false) := (blk_cell BK217.out 5).trans rfl; have hfz30_0 := blk_frozen BK217.out 0; have hfz30_1 := blk_frozen BK217.out 1; have hfz30_2 := blk_frozen BK217.out 2; have hfz30_3 := blk_frozen BK217.out 3; have hfz30_4 := blk_frozen BK217.out 4; have hfz30_5 := blk_frozen BK217.out 5; obtain ⟨i031, hi031, _, hsz31, _⟩ := info_parts info5; obtain ⟨hcut31, hA31, hC31⟩ := print_take_of (P := Try.prog) (Value.int .u8) 0 27 5 .i64 Try.underlying27 hi031 hsz31 (some ad197) c0 l0 t198 (of_decide_eq_true (by first | (with_reducible assumption) | assumption)) (of_decide_eq_true (by first | (with_reducible assumption) | assumption)) HC0.out; have HR218 := Aside0.mk (Kd.C_of_reads (h1 := fun _ => rfl) (hA31 _ (Kd.reads_of_C HR0.out))); have HC218 := Aside0.mk hC31; clear hA31 hC31 hi031 hsz31) | ((with_reducible refine gate_callee (f := 22) rfl ?_); refine goesL_ (some 64) rfl rfl Try.func22 (by kernel_rfl) rfl #[.slice (some ad197) (l0.take (t198 : Int).toNat).length c0] rfl (by (try simp only [List.map_toArray, List.map_cons, List.map_nil]); first | done | (rw [show (l0.take (t198 : Int).toNat).length = t198.toNat from (by rw [List.length_take]; have h_ : (t198 : Int) ≤ (l0.length : Int) := of_decide_eq_true (by first | (with_reducible assumption) | assumption); omega)] <;> rfl) | rfl | (simp only [List.length_drop, List.length_take]; rfl)) ?_; (with_reducible refine (sum_Whole.calls _ _ (l0.take (t198 : Int).toNat) true _ ?side1 ?side2 A24.out).mono ?_); (case side1 => exact Kd.C_below HR218.out (by repeat (first | (with_reducible first | exact HB.out | apply below_alloc | apply pw_below_drewN | apply below_drew1 | refine below_set ?_ GE174.out | refine below_set ?_ GE217.out) | exact HB.out))); (case side2 => exact HC218.out); rintro e w32 ⟨rfl, hb⟩; refine ⟨_, rfl, ?_⟩; have n0_ := Aside0.mk (blk_below (g := gb174) (o := .cells #[.int .u32 0, .int .u32 0, .int .u8 0, .int .u8 0, .int .u16 0, .bool false] 26 (0, 0)) (by (with_reducible repeat (first | refine blk_drewN ?_ _ | refine blk_drew ?_ | refine blk_alloc ?_ _)); refine blk_far ?_ NB174_217.out _; (with_reducible repeat (first | refine blk_drewN ?_ _ | refine blk_drew ?_ | refine blk_alloc ?_ _)); refine blk_far ?_ NB174_217.out _; (with_reducible repeat (first | refine blk_drewN ?_ _ | refine blk_drew ?_ | refine blk_alloc ?_ _)); refine blk_far ?_ NB174_217.out _; (with_reducible repeat (first | refine blk_drewN ?_ _ | refine blk_drew ?_ | refine blk_alloc ?_ _)); refine blk_far ?_ NB174_217.out _; (with_reducible repeat (first | refine blk_drewN ?_ _ | refine blk_drew ?_ | refine blk_alloc ?_ _)); refine blk_far ?_ NB174_217.out _; (with_reducible repeat (first | refine blk_drewN ?_ _ | refine blk_drew ?_ | refine blk_alloc ?_ _)); refine blk_far ?_ NB174_217.out _; (with_reducible repeat (first | refine blk_drewN ?_ _ | refine blk_drew ?_ | refine blk_alloc ?_ _)); exact BK174.out) hb); have n1_ := Aside0.mk (blk_below (g := gb217) (o := .cells #[.int .u32 t210, .int .u32 t211, .int .u8 t212, .int .u8 t213, .int .u16 t214, .bool t215] 26 (0, 0)) (by (with_reducible repeat (first | refine blk_drewN ?_ _ | refine blk_drew ?_ | refine blk_alloc ?_ _)); refine blk_put (cs := #[.int .u32 t210, .int .u32 t211, .int .u8 t212, .int .u8 t213, .int .u16 t214, .bool false]) ?_ 5 _ rfl; (with_reducible repeat (first | refine blk_drewN ?_ _ | refine blk_drew ?_ | refine blk_alloc ?_ _)); refine blk_put (cs := #[.int .u32 t210, .int .u32 t211, .int .u8 t212, .int .u8 t213, .int .u16 0, .bool false]) ?_ 4 _ rfl; (with_reducible repeat (first | refine blk_drewN ?_ _ | refine blk_drew ?_ | refine blk_alloc ?_ _)); refine blk_put (cs := #[.int .u32 t210, .int .u32 t211, .int .u8 t212, .int .u8 0, .int .u16 0, .bool false]) ?_ 3 _ rfl; (with_reducible repeat (first | refine blk_drewN ?_ _ | refine blk_drew ?_ | refine blk_alloc ?_ _)); refine blk_put (cs := #[.int .u32 t210, .int .u32 t211, .int .u8 0, .int .u8 0, .int .u16 0, .bool false]) ?_ 2 _ rfl; (with_reducible repeat (first | refine blk_drewN ?_ _ | refine blk_drew ?_ | refine blk_alloc ?_ _)); refine blk_put (cs := #[.int .u32 t210, .int .u32 0, .int .u8 0, .int .u8 0, .int .u16 0, .bool false]) ?_ 1 _ rfl; (with_reducible repeat (first | refine blk_drewN ?_ _ | refine blk_drew ?_ | refine blk_alloc ?_ _)); refine blk_put (cs := #[.int .u32 0, .int .u32 0, .int .u8 0, .int .u8 0, .int .u16 0, .bool false]) ?_ 0 _ rfl; (with_reducible repeat (first | refine blk_drewN ?_ _ | refine blk_drew ?_ | refine blk_alloc ?_ _)); exact BK217.out) hb); have n2_ := Aside0.mk (below_step (by repeat (first | (with_reducible first | exact HB.out | apply below_alloc | apply pw_below_drewN | apply below_drew1 | refine below_set ?_ GE174.out | refine below_set ?_ GE217.out) | exact HB.out)) hb); clear BK174; clear BK217; clear HB; have BK174 := n0_; have BK217 := n1_; have HB := n2_; clear n0_ n1_ n2_; (try clear hb); (try clear hb2); (try clear hk); (try clear hi)))
           (try simp only [Act.put, List.setIfInBounds_toArray, List.set_cons_zero, List.set_cons_succ])
           go_cut [71] (fun v71 wc => ∃ (kq : Nat) (x71_25 : Bool), v71 = .bool x71_25 ∧ Aside0 (ip_Decode.j1 kq l0 t198 t216 x71_25 t210 t211 t212 t213 t214 t215 = some (r1, r2, r3, r4, r5, r6, r7, r8)) ∧ Aside0 (kq ≤ kj6) ∧ Aside0 (wc.heap[gb174]? = some (.cells #[.int .u32 0, .int .u32 0, .int .u8 0, .int .u8 0, .int .u16 0, .bool false] 26 (0, 0))) ∧ Aside0 (wc.heap[gb217]? = some (.cells #[.int .u32 t210, .int .u32 t211, .int .u8 t212, .int .u8 t213, .int .u16 t214, .bool t215] 26 (0, 0))) ∧ Aside0 (Below w.heap.size w wc))
           case first =>
            have H := HC26.out
            clear HC26
            by_cases c33 : 1 < (l0.length : Int)
            case neg => rw [if_neg c33] at H; exact absurd H (by simp)
            rw [if_pos c33] at H
            have c33b0 : decide (1 < (l0.length : Int)) = true := decide_eq_true c33
            have c33b1 : decide (1 < l0.length) = true := decide_eq_true (by omega)
            clear c33
            (first | rw [c33b0] | (simp only [i64_w, i32_w]; rw [c33b0]) | skip)
            by_cases c34 : (rd l0 1) = 0
            · rw [if_pos c34] at H
              have c34b0 : ((rd l0 1) == 0) = true := beq_iff_eq.mpr c34
              have c34b1 : ((rd l0 1) != 0) = false := bne_eq_false_iff_eq.mpr c34
              clear c34
              by_cases c35 : 6 < (l0.length : Int)
              case neg => rw [if_neg c35] at H; exact absurd H (by simp)
              rw [if_pos c35] at H
              have c35b0 : decide (6 < (l0.length : Int)) = true := decide_eq_true c35
              have c35b1 : decide (6 < l0.length) = true := decide_eq_true (by omega)
              clear c35
              by_cases c36 : (rd l0 6) = 0
              · rw [if_pos c36] at H
                have c36b0 : ((rd l0 6) == 0) = true := beq_iff_eq.mpr c36
                have c36b1 : ((rd l0 6) != 0) = false := bne_eq_false_iff_eq.mpr c36
                clear c36
                by_cases c37 : 7 < (l0.length : Int)
                case neg => rw [if_neg c37] at H; exact absurd H (by simp)
                rw [if_pos c37] at H
                have c37b0 : decide (7 < (l0.length : Int)) = true := decide_eq_true c37
                have c37b1 : decide (7 < l0.length) = true := decide_eq_true (by omega)
                clear c37
                by_cases c38 : (rd l0 7) = 0
                · rw [if_pos c38] at H
                  have c38b0 : ((rd l0 7) == 0) = true := beq_iff_eq.mpr c38
                  have c38b1 : ((rd l0 7) != 0) = false := bne_eq_false_iff_eq.mpr c38
                  clear c38
                  by_cases c39 : t215 = true
                  · subst c39
                    have H1 : (if 20 ≤ 24 then (if 24 ≤ (l0.length : Int) then ((ip_option.f).bind fun t224 => ((bytes_Equal.f ((l0.take 24).drop 20) t224).bind fun t227 => (if t227 = true then (if t216 < t198 then (ip_Decode.j1 kj6 l0 t198 t216 true t210 t211 t212 t213 t214 true) else (ip_Decode.j1 kj6 l0 t198 t216 (decide (t216 > 1500)) t210 t211 t212 t213 t214 true)) else (ip_Decode.j1 kj6 l0 t198 t216 true t210 t211 t212 t213 t214 true)))) else (none)) else (none)) = some (r1, r2, r3, r4, r5, r6, r7, r8) := by rw [if_pos rfl] at H; exact H
                    clear H
                    have H := H1
                    clear H1
                    by_cases c40 : 20 ≤ 24
                    case neg => rw [if_neg c40] at H; exact absurd H (by simp)
                    rw [if_pos c40] at H
                    have c40b0 := eq_true c40
                    have c40b1 : decide (20 ≤ 24) = true := decide_eq_true c40
                    clear c40
                    by_cases c41 : 24 ≤ (l0.length : Int)
                    case neg => rw [if_neg c41] at H; exact absurd H (by simp)
                    rw [if_pos c41] at H
                    have c41b0 := eq_true c41
                    have c41b1 : decide (24 ≤ (l0.length : Int)) = true := decide_eq_true c41
                    clear c41
                    replace H := Option.bind_eq_some_iff.mp H
                    obtain ⟨t224, A420, H⟩ := H
                    replace H : ((bytes_Equal.f ((l0.take 24).drop 20) t224).bind fun t227 => (if t227 = true then (if t216 < t198 then (ip_Decode.j1 kj6 l0 t198 t216 true t210 t211 t212 t213 t214 true) else (ip_Decode.j1 kj6 l0 t198 t216 (decide (t216 > 1500)) t210 t211 t212 t213 t214 true)) else (ip_Decode.j1 kj6 l0 t198 t216 true t210 t211 t212 t213 t214 true))) = some (r1, r2, r3, r4, r5, r6, r7, r8) := H
                    have A42 := Aside0.mk A420
                    clear A420
                    replace H := Option.bind_eq_some_iff.mp H
                    obtain ⟨t227, A430, H⟩ := H
                    replace H : (if t227 = true then (if t216 < t198 then (ip_Decode.j1 kj6 l0 t198 t216 true t210 t211 t212 t213 t214 true) else (ip_Decode.j1 kj6 l0 t198 t216 (decide (t216 > 1500)) t210 t211 t212 t213 t214 true)) else (ip_Decode.j1 kj6 l0 t198 t216 true t210 t211 t212 t213 t214 true)) = some (r1, r2, r3, r4, r5, r6, r7, r8) := H
                    have A43 := Aside0.mk A430
                    clear A430
                    by_cases c44 : t227 = true
                    · subst c44
                      have H1 : (if t216 < t198 then (ip_Decode.j1 kj6 l0 t198 t216 true t210 t211 t212 t213 t214 true) else (ip_Decode.j1 kj6 l0 t198 t216 (decide (t216 > 1500)) t210 t211 t212 t213 t214 true)) = some (r1, r2, r3, r4, r5, r6, r7, r8) := by rw [if_pos rfl] at H; exact H
                      clear H
                      have H := H1
                      clear H1
                      by_cases c45 : t216 < t198
                      · rw [if_pos c45] at H
                        have c45b0 : decide (t216 < t198) = true := decide_eq_true c45
                        clear c45
                        have H' := Aside0.mk H
                        clear H
                        try go_wp2
                        have n0_ := Aside0.mk (blk_drew BK174.out)
                        have n1_ := Aside0.mk (blk_drew BK217.out)
                        have n2_ := Aside0.mk (below_drew1 HB.out)
                        clear BK174
                        clear BK217
                        clear HB
                        have BK174 := n0_
                        have BK217 := n1_
                        have HB := n2_
                        clear n0_ n1_ n2_
                        have p220 : 0 ≤ (1 : Int) := (by omega)
                        have q220 : 1 < (l0.length : Int) := of_decide_eq_true (by first | (with_reducible assumption) | assumption)
                        obtain ⟨ad220, e220, hx220_0⟩ := Kd.at_int HR0.out 1 p220 q220
                        have hw220_0 := hx220_0
                        (try rw [show ((1 : Int)).toNat = 1 from rfl] at hw220_0)
                        (try rw [show 1 * 1 = 1 from rfl] at hw220_0)
                        (try simp only [Nat.reduceMul, Nat.reduceEqDiff, Go.Addr.add, ↓reduceIte] at hw220_0)
                        obtain rfl : ad197 = ad220 := (by injection e220)
                        (try simp only [show (1 : Int).toNat = 1 from rfl, Nat.reduceMul, Nat.reduceEqDiff, Go.Addr.add, ↓reduceIte] at hx220_0)
                        have qi220 : (1 < l0.length) = True := eq_true (by omega)
                        (try rw [show ((1 : Int)).toNat = 1 from rfl] at hx220_0)
                        replace hx220_0 := (HB.out.cell (World.block_lt_of_cell? w _ hx220_0)).trans hx220_0
                        replace p220 := eq_true p220
                        replace q220 := eq_true q220
                        have p221 : 0 ≤ (6 : Int) := (by omega)
                        have q221 : 6 < (l0.length : Int) := of_decide_eq_true (by first | (with_reducible assumption) | assumption)
                        obtain ⟨ad221, e221, hx221_0⟩ := Kd.at_int HR0.out 6 p221 q221
                        have hw221_0 := hx221_0
                        (try rw [show ((6 : Int)).toNat = 6 from rfl] at hw221_0)
                        (try rw [show 6 * 1 = 6 from rfl] at hw221_0)
                        (try simp only [Nat.reduceMul, Nat.reduceEqDiff, Go.Addr.add, ↓reduceIte] at hw221_0)
                        obtain rfl : ad197 = ad221 := (by injection e221)
                        (try simp only [show (6 : Int).toNat = 6 from rfl, Nat.reduceMul, Nat.reduceEqDiff, Go.Addr.add, ↓reduceIte] at hx221_0)
                        have qi221 : (6 < l0.length) = True := eq_true (by omega)
                        (try rw [show ((6 : Int)).toNat = 6 from rfl] at hx221_0)
                        replace hx221_0 := (HB.out.cell (World.block_lt_of_cell? w _ hx221_0)).trans hx221_0
                        replace p221 := eq_true p221
                        replace q221 := eq_true q221
                        have p222 : 0 ≤ (7 : Int) := (by omega)
                        have q222 : 7 < (l0.length : Int) := of_decide_eq_true (by first | (with_reducible assumption) | assumption)
                        obtain ⟨ad222, e222, hx222_0⟩ := Kd.at_int HR0.out 7 p222 q222
                        have hw222_0 := hx222_0
                        (try rw [show ((7 : Int)).toNat = 7 from rfl] at hw222_0)
                        (try rw [show 7 * 1 = 7 from rfl] at hw222_0)
                        (try simp only [Nat.reduceMul, Nat.reduceEqDiff, Go.Addr.add, ↓reduceIte] at hw222_0)
                        obtain rfl : ad197 = ad222 := (by injection e222)
                        (try simp only [show (7 : Int).toNat = 7 from rfl, Nat.reduceMul, Nat.reduceEqDiff, Go.Addr.add, ↓reduceIte] at hx222_0)
                        have qi222 : (7 < l0.length) = True := eq_true (by omega)
                        (try rw [show ((7 : Int)).toNat = 7 from rfl] at hx222_0)
                        replace hx222_0 := (HB.out.cell (World.block_lt_of_cell? w _ hx222_0)).trans hx222_0
                        replace p222 := eq_true p222
                        replace q222 := eq_true q222
                        obtain ⟨i047, hi047, _, hsz47, _⟩ := info_parts info5
                        obtain ⟨A47, hcut47, hA47, hC47⟩ := print_mid_of (P := Try.prog) (Value.int .u8) 0 27 5 .i64 .i64 Try.underlying27 hi047 hsz47 (some ad197) c0 l0 20 24 (by omega) (by first | omega | exact of_decide_eq_true (by first | (with_reducible assumption) | assumption)) (of_decide_eq_true (by first | (with_reducible assumption) | assumption)) HC0.out
                        have HR223 := Aside0.mk (Kd.C_of_reads (h1 := fun _ => rfl) (hA47 _ (Kd.reads_of_C HR0.out)))
                        have HC223 := Aside0.mk hC47
                        clear hA47 hC47 hi047 hsz47
                        refine start_ (n := 37) (S := fun w' => w'.cell? ⟨gb217, 0, none⟩ = some (.int .u32 t210) ∧ w'.cell? ⟨gb217, 1, none⟩ = some (.int .u32 t211) ∧ w'.cell? ⟨gb217, 2, none⟩ = some (.int .u8 t212) ∧ w'.cell? ⟨gb217, 3, none⟩ = some (.int .u8 t213) ∧ w'.cell? ⟨gb217, 4, none⟩ = some (.int .u16 t214) ∧ w'.cell? ⟨gb217, 5, none⟩ = some (.bool true) ∧ w'.cell? ⟨ad197.block, ad197.off + 1, none⟩ = some (.int .u8 (rd l0 1)) ∧ w'.cell? ⟨ad197.block, ad197.off + 6, none⟩ = some (.int .u8 (rd l0 6)) ∧ w'.cell? ⟨ad197.block, ad197.off + 7, none⟩ = some (.int .u8 (rd l0 7))) (ds := []) #[false, false, false, false, false, false, false, false, false, false, false, false, false, false, false, false, false, false, false, false, false, false, false, false, false, false, false, false, false, false, false, false, false, false, false, false, false] (by kernel_rfl) rfl rfl ⟨(blk_cell BK217.out 0).trans rfl, (blk_cell BK217.out 1).trans rfl, (blk_cell BK217.out 2).trans rfl, (blk_cell BK217.out 3).trans rfl, (blk_cell BK217.out 4).trans rfl, (blk_cell BK217.out 5).trans rfl, ((HB.out.cell (World.block_lt_of_cell? w _ hw220_0)).trans hw220_0), ((HB.out.cell (World.block_lt_of_cell? w _ hw221_0)).trans hw221_0), ((HB.out.cell (World.block_lt_of_cell? w _ hw222_0)).trans hw222_0)⟩ (fun hHeld => ?_); refine with_tabW ip_Decode.tab12 ip_Decode.bits12 (fun HT_ HW_ => ?_)
                        generalize w32.drew = w46 at BK174 BK217 HB HR223 hx220_0 hx221_0 hx222_0 hHeld ⊢
                        refine pu 0 72 (bb 37 1) rfl rfl (any_of HT_.out (by kernel_rfl)) (fun _ _ _ h => h) (by rfl) (fun w' => by go_simp; with_reducible rfl) (by simp only [Act.put, sA, sB, sC, i64_w, i32_w]; rfl) ?_
                        refine pu 1 73 (bb 37 3) rfl rfl (any_of HT_.out (by kernel_rfl)) (fun _ _ _ h => h) (by rfl) (fun w' => by go_simp; with_reducible rfl) (by simp only [Act.put, sA, sB, sC, i64_w, i32_w]; rfl) ?_
                        refine take_ (i := 2) (N := some 74) (v := ?_) (a' := ?_) (bb 37 7) rfl rfl (take_ofW HT_.out HW_.out (by kernel_rfl)) (fun _ _ _ h => h) (Or.inl ⟨by rfl, ?_⟩) hHeld ?_ ?_
                        rotate_left
                        · rintro w' ⟨s0, s1, s2, s3, s4, s5, s6, s7, s8⟩
                          go_simp
                          with_reducible rfl
                        rotate_left
                        · simp only [Act.put, sA, sB, sC, i64_w, i32_w]
                          rfl
                        refine pu 3 75 (bb 37 15) rfl rfl (any_of HT_.out (by kernel_rfl)) (fun _ _ _ h => h) (by rfl) (fun w' => by go_simp; with_reducible rfl) (by simp only [Act.put, sA, sB, sC, i64_w, i32_w]; rfl) ?_
                        refine pu 4 76 (bb 37 31) rfl rfl (any_of HT_.out (by kernel_rfl)) (fun _ _ _ h => h) (by rfl) (fun w' => by go_simp; with_reducible rfl) (by simp only [Act.put, sA, sB, sC, i64_w, i32_w]; rfl) ?_
                        refine pu 5 77 (bb 37 63) rfl rfl (any_of HT_.out (by kernel_rfl)) (fun _ _ _ h => h) (by rfl) (fun w' => by go_simp; with_reducible rfl) (by simp only [Act.put, sA, sB, sC, i64_w, i32_w]; rfl) ?_
                        refine pu 6 78 (bb 37 127) rfl rfl (any_of HT_.out (by kernel_rfl)) (fun _ _ _ h => h) (by rfl) (fun w' => by go_simp; with_reducible rfl) (by simp only [Act.put, sA, sB, sC, i64_w, i32_w]; rfl) ?_
                        refine take_ (i := 7) (N := some 79) (v := ?_) (a' := ?_) (bb 37 255) rfl rfl (take_ofW HT_.out HW_.out (by kernel_rfl)) (fun _ _ _ h => h) (Or.inl ⟨by rfl, ?_⟩) hHeld ?_ ?_
                        rotate_left
                        · rintro w' ⟨s0, s1, s2, s3, s4, s5, s6, s7, s8⟩
                          go_simp
                          with_reducible rfl
                        rotate_left
                        · simp only [Act.put, sA, sB, sC, i64_w, i32_w]
                          rfl
                        refine pu 8 80 (bb 37 511) rfl rfl (any_of HT_.out (by kernel_rfl)) (fun _ _ _ h => h) (by rfl) (fun w' => by go_simp; with_reducible rfl) (by simp only [Act.put, sA, sB, sC, i64_w, i32_w]; rfl) ?_
                        refine pu 9 81 (bb 37 1023) rfl rfl (any_of HT_.out (by kernel_rfl)) (fun _ _ _ h => h) (by rfl) (fun w' => by go_simp; with_reducible rfl) (by simp only [Act.put, sA, sB, sC, i64_w, i32_w]; rfl) ?_
                        refine pu 10 82 (bb 37 2047) rfl rfl (any_of HT_.out (by kernel_rfl)) (fun _ _ _ h => h) (by rfl) (fun w' => by go_simp; with_reducible rfl) (by simp only [Act.put, sA, sB, sC, i64_w, i32_w]; rfl) ?_
                        refine pu 11 83 (bb 37 4095) rfl rfl (any_of HT_.out (by kernel_rfl)) (fun _ _ _ h => h) (by rfl) (fun w' => by go_simp; with_reducible rfl) (by simp only [Act.put, sA, sB, sC, i64_w, i32_w]; rfl) ?_
                        refine pu 12 84 (bb 37 8191) rfl rfl (any_of HT_.out (by kernel_rfl)) (fun _ _ _ h => h) (by rfl) (fun w' => by go_simp; with_reducible rfl) (by simp only [Act.put, sA, sB, sC, i64_w, i32_w]; rfl) ?_
                        refine take_ (i := 13) (N := some 85) (v := ?_) (a' := ?_) (bb 37 16383) rfl rfl (take_ofW HT_.out HW_.out (by kernel_rfl)) (fun _ _ _ h => h) (Or.inl ⟨by rfl, ?_⟩) hHeld ?_ ?_
                        rotate_left
                        · rintro w' ⟨s0, s1, s2, s3, s4, s5, s6, s7, s8⟩
                          go_simp
                          with_reducible rfl
                        rotate_left
                        · simp only [Act.put, sA, sB, sC, i64_w, i32_w]
                          rfl
                        refine pu 14 86 (bb 37 32767) rfl rfl (any_of HT_.out (by kernel_rfl)) (fun _ _ _ h => h) (by rfl) (fun w' => by go_simp; with_reducible rfl) (by simp only [Act.put, sA, sB, sC, i64_w, i32_w]; rfl) ?_
                        refine pu 15 87 (bb 37 65535) rfl rfl (any_of HT_.out (by kernel_rfl)) (fun _ _ _ h => h) (by rfl) (fun w' => by go_simp; with_reducible rfl) (by simp only [Act.put, sA, sB, sC, i64_w, i32_w]; rfl) ?_
                        refine pu 16 88 (bb 37 131071) rfl rfl (any_of HT_.out (by kernel_rfl)) (fun _ _ _ h => h) (by rfl) (fun w' => by go_simp; with_reducible rfl) (by simp only [Act.put, sA, sB, sC, i64_w, i32_w]; rfl) ?_
                        refine pu 17 89 (bb 37 262143) rfl rfl (any_of HT_.out (by kernel_rfl)) (fun _ _ _ h => h) (by rfl) (fun w' => by go_simp; with_reducible rfl) (by simp only [Act.put, sA, sB, sC, i64_w, i32_w]; rfl) ?_
                        refine take_ (i := 18) (N := some 90) (v := ?_) (a' := ?_) (bb 37 524287) rfl rfl (take_ofW HT_.out HW_.out (by kernel_rfl)) (fun _ _ _ h => h) (Or.inl ⟨by rfl, ?_⟩) hHeld ?_ ?_
                        rotate_left
                        · rintro w' ⟨s0, s1, s2, s3, s4, s5, s6, s7, s8⟩
                          go_simp
                          with_reducible rfl
                        rotate_left
                        · simp only [Act.put, sA, sB, sC, i64_w, i32_w]
                          rfl
                        refine pu 19 91 (bb 37 1048575) rfl rfl (any_of HT_.out (by kernel_rfl)) (fun _ _ _ h => h) (by rfl) (fun w' => by go_simp; with_reducible rfl) (by simp only [Act.put, sA, sB, sC, i64_w, i32_w]; rfl) ?_
                        refine pu 20 92 (bb 37 2097151) rfl rfl (any_of HT_.out (by kernel_rfl)) (fun _ _ _ h => h) (by rfl) (fun w' => by go_simp; with_reducible rfl) (by simp only [Act.put, sA, sB, sC, i64_w, i32_w]; rfl) ?_
                        refine pu 21 93 (bb 37 4194303) rfl rfl (any_of HT_.out (by kernel_rfl)) (fun _ _ _ h => h) (by rfl) (fun w' => by go_simp; with_reducible rfl) (by simp only [Act.put, sA, sB, sC, i64_w, i32_w]; rfl) ?_
                        refine one_ (i := 22) (N := some 94) (bb 37 8388607) rfl rfl (one_of HT_.out (by kernel_rfl)) (by decide) (fun K hK => ?_)
                        refine goes_ Try.func24 (by kernel_rfl) rfl #[] (by rfl) rfl rfl (by (try simp only [List.map_toArray, List.map_cons, List.map_nil]); first | done | rfl | (simp only [List.length_drop, List.length_take]; rfl)) ?_
                        with_reducible refine (ip_option.calls  t224 _ A42.out).mono ?_
                        rintro e w48 ⟨v225, rfl, ho0, hb⟩
                        refine ⟨_, rfl, ?_⟩
                        have n0_ := Aside0.mk (Kd.R_lower ho0 (below_size (by repeat (first | (with_reducible first | exact HB.out | apply below_alloc | apply pw_below_drewN | apply below_drew1 | refine below_set ?_ GE174.out | refine below_set ?_ GE217.out) | exact HB.out))))
                        have n1_ := Aside0.mk (blk_below (g := gb174) (o := .cells #[.int .u32 0, .int .u32 0, .int .u8 0, .int .u8 0, .int .u16 0, .bool false] 26 (0, 0)) (by (with_reducible repeat (first | refine blk_drewN ?_ _ | refine blk_drew ?_ | refine blk_alloc ?_ _)); exact BK174.out) hb)
                        have n2_ := Aside0.mk (blk_below (g := gb217) (o := .cells #[.int .u32 t210, .int .u32 t211, .int .u8 t212, .int .u8 t213, .int .u16 t214, .bool true] 26 (0, 0)) (by (with_reducible repeat (first | refine blk_drewN ?_ _ | refine blk_drew ?_ | refine blk_alloc ?_ _)); exact BK217.out) hb)
                        have n3_ := Aside0.mk (below_step (by repeat (first | (with_reducible first | exact HB.out | apply below_alloc | apply pw_below_drewN | apply below_drew1 | refine below_set ?_ GE174.out | refine below_set ?_ GE217.out) | exact HB.out)) hb)
                        clear BK174
                        clear BK217
                        clear HB
                        have HO226 := n0_
                        have BK174 := n1_
                        have BK217 := n2_
                        have HB := n3_
                        clear n0_ n1_ n2_ n3_
                        (try clear hb)
                        (try clear hb2)
                        (try clear hk)
                        (try clear hi)
                        (try clear ho0)
                        obtain ⟨Ao49, co49, eo49⟩ := Kd.R_slice HO226.out
                        (first | subst eo49 | (injection eo49 with f1_ f2_ f3_; have f4_ := f1_.symm; have f5_ := f3_.symm; clear f1_ f2_ f3_; subst f4_; subst f5_))
                        refine hK.out _ _ ⟨(blk_cell BK217.out 0).trans rfl, (blk_cell BK217.out 1).trans rfl, (blk_cell BK217.out 2).trans rfl, (blk_cell BK217.out 3).trans rfl, (blk_cell BK217.out 4).trans rfl, (blk_cell BK217.out 5).trans rfl, ((HB.out.cell (World.block_lt_of_cell? w _ hw220_0)).trans hw220_0), ((HB.out.cell (World.block_lt_of_cell? w _ hw221_0)).trans hw221_0), ((HB.out.cell (World.block_lt_of_cell? w _ hw222_0)).trans hw222_0)⟩ (fun hHeld => ?_)
                        clear hK K
                        refine norm_ (a' := ?_) ?_ ?_
                        rotate_left
                        · show Act.put _ (some 94) _ = _
                          simp only [Act.put, sA, sB, sC, i64_w, i32_w]
                          rfl
                        refine one_ (i := 23) (N := some 95) (bb 37 16777215) rfl rfl (one_of HT_.out (by kernel_rfl)) (by decide) (fun K hK => ?_)
                        refine goes_ Try.func23 (by kernel_rfl) rfl #[.slice A47 ((l0.take 24).drop 20).length (c0 - 20), .slice Ao49 t224.length co49] (by rfl) rfl rfl (by (try simp only [List.map_toArray, List.map_cons, List.map_nil]); first | done | (rw [show ((l0.take 24).drop 20).length = (24 - 20) from (by rw [List.length_drop, List.length_take]; have h_ : (24 : Int) ≤ (l0.length : Int) := of_decide_eq_true (by first | (with_reducible assumption) | assumption); omega)] <;> rfl) | rfl | (simp only [List.length_drop, List.length_take]; rfl)) ?_
                        with_reducible refine (bytes_Equal.calls _ _ ((l0.take 24).drop 20) _ _ t224 true _ ?side1 ?side2 ?side3 ?side4 A43.out).mono ?_
                        (case side1 => repeat (first | exact (Kd.C_below HR223.out HB.out) | (with_reducible refine Kd.C_alloc ?_ _) | (with_reducible refine Kd.C_drewN ?_ _) | (with_reducible refine Kd.C_drew ?_)))
                        (case side2 => exact HC223.out)
                        (case side3 => repeat (first | exact (Kd.R_reads' HO226.out).2.2 | (with_reducible refine Kd.C_alloc ?_ _) | (with_reducible refine Kd.C_drewN ?_ _) | (with_reducible refine Kd.C_drew ?_)))
                        (case side4 => exact (Kd.R_reads' HO226.out).2.1)
                        rintro e w' ⟨rfl, ⟨nd, rfl⟩⟩
                        refine ⟨_, rfl, ?_⟩
                        refine hK.out _ _ ⟨(blk_cell BK217.out 0).trans rfl, (blk_cell BK217.out 1).trans rfl, (blk_cell BK217.out 2).trans rfl, (blk_cell BK217.out 3).trans rfl, (blk_cell BK217.out 4).trans rfl, (blk_cell BK217.out 5).trans rfl, ((HB.out.cell (World.block_lt_of_cell? w _ hw220_0)).trans hw220_0), ((HB.out.cell (World.block_lt_of_cell? w _ hw221_0)).trans hw221_0), ((HB.out.cell (World.block_lt_of_cell? w _ hw222_0)).trans hw222_0)⟩ (fun hHeld => ?_)
                        clear hK K
                        refine norm_ (a' := ?_) ?_ ?_
                        rotate_left
                        · show Act.put _ (some 95) _ = _
                          simp only [Act.put, sA, sB, sC, i64_w, i32_w]
                          rfl
                        refine pu 24 96 (bb 37 33554431) rfl rfl (any_of HT_.out (by kernel_rfl)) (fun _ _ _ h => h) (by rfl) (fun w' => by go_simp; with_reducible rfl) (by simp only [Act.put, sA, sB, sC, i64_w, i32_w]; rfl) ?_
                        refine pu 25 97 (bb 37 67108863) rfl rfl (any_of HT_.out (by kernel_rfl)) (fun _ _ _ h => h) (by rfl) (fun w' => by go_simp; with_reducible rfl) (by simp only [Act.put, sA, sB, sC, i64_w, i32_w]; rfl) ?_
                        refine pu 26 98 (bb 37 134217727) rfl rfl (any_of HT_.out (by kernel_rfl)) (fun _ _ _ h => h) (by rfl) (fun w' => by go_simp; with_reducible rfl) (by simp only [Act.put, sA, sB, sC, i64_w, i32_w]; rfl) ?_
                        refine pu 27 99 (bb 37 268435455) rfl rfl (any_of HT_.out (by kernel_rfl)) (fun _ _ _ h => h) (by rfl) (fun w' => by go_simp; with_reducible rfl) (by simp only [Act.put, sA, sB, sC, i64_w, i32_w]; rfl) ?_
                        refine pu 28 100 (bb 37 536870911) rfl rfl (any_of HT_.out (by kernel_rfl)) (fun _ _ _ h => h) (by rfl) (fun w' => by go_simp; with_reducible rfl) (by simp only [Act.put, sA, sB, sC, i64_w, i32_w]; rfl) ?_
                        refine pu 29 101 (bb 37 1073741823) rfl rfl (any_of HT_.out (by kernel_rfl)) (fun _ _ _ h => h) (by rfl) (fun w' => by go_simp; with_reducible rfl) (by simp only [Act.put, sA, sB, sC, i64_w, i32_w]; rfl) ?_
                        refine pu 30 102 (bb 37 2147483647) rfl rfl (any_of HT_.out (by kernel_rfl)) (fun _ _ _ h => h) (by rfl) (fun w' => by go_simp; with_reducible rfl) (by simp only [Act.put, sA, sB, sC, i64_w, i32_w]; rfl) ?_
                        refine pu 31 103 (bb 37 4294967295) rfl rfl (any_of HT_.out (by kernel_rfl)) (fun _ _ _ h => h) (by rfl) (fun w' => by go_simp; with_reducible rfl) (by simp only [Act.put, sA, sB, sC, i64_w, i32_w]; rfl) ?_
                        refine pu 32 104 (bb 37 8589934591) rfl rfl (any_of HT_.out (by kernel_rfl)) (fun _ _ _ h => h) (by rfl) (fun w' => by go_simp; with_reducible rfl) (by simp only [Act.put, sA, sB, sC, i64_w, i32_w]; rfl) ?_
                        refine pure_ (i := 33) (N := some 105) (v := undef) (a' := ?_) (bb 37 17179869183) rfl rfl (any_of HT_.out (by kernel_rfl)) (fun _ _ _ h => h) (Or.inr ⟨by rfl, rfl⟩) ?_ ?_
                        rotate_left
                        · simp only [Act.put, sA, sB, sC, i64_w, i32_w]
                          rfl
                        refine pure_ (i := 34) (N := some 106) (v := undef) (a' := ?_) (bb 37 34359738367) rfl rfl (any_of HT_.out (by kernel_rfl)) (fun _ _ _ h => h) (Or.inr ⟨by rfl, rfl⟩) ?_ ?_
                        rotate_left
                        · simp only [Act.put, sA, sB, sC, i64_w, i32_w]
                          rfl
                        refine pu 35 107 (bb 37 68719476735) rfl rfl (any_of HT_.out (by kernel_rfl)) (fun _ _ _ h => h) (by rfl) (fun w' => by go_simp; with_reducible rfl) (by simp only [Act.put, sA, sB, sC, i64_w, i32_w]; rfl) ?_
                        refine pu 36 71 (bb 37 137438953471) rfl rfl (any_of HT_.out (by kernel_rfl)) (fun _ _ _ h => h) (by rfl) (fun w' => by go_simp; with_reducible rfl) (by simp only [Act.put, sA, sB, sC, i64_w, i32_w]; rfl) ?_
                        refine done_ (done_of HT_.out (by kernel_rfl)) ?_
                        try go_wp2
                        go_meet
                        case rel => exact ⟨_, (true), (by first | rfl | (simp; done) | (simp [*]; done)), H', ⟨by have := HJ6.out; first | omega | exact Nat.le_refl _⟩, ⟨by (with_reducible repeat (first | refine blk_drewN ?_ _ | refine blk_drew ?_ | refine blk_alloc ?_ _)); exact BK174.out⟩, ⟨by (with_reducible repeat (first | refine blk_drewN ?_ _ | refine blk_drew ?_ | refine blk_alloc ?_ _)); exact BK217.out⟩, ⟨by repeat (first | (with_reducible first | exact HB.out | apply below_alloc | apply pw_below_drewN | apply below_drew1 | refine below_set ?_ GE174.out | refine below_set ?_ GE217.out) | exact HB.out)⟩⟩
                      · rw [if_neg c45] at H
                        have c45b0 : decide (t216 < t198) = false := decide_eq_false c45
                        clear c45
                        have H' := Aside0.mk H
                        clear H
                        try go_wp2
                        have n0_ := Aside0.mk (blk_drew BK174.out)
                        have n1_ := Aside0.mk (blk_drew BK217.out)
                        have n2_ := Aside0.mk (below_drew1 HB.out)
                        clear BK174
                        clear BK217
                        clear HB
                        have BK174 := n0_
                        have BK217 := n1_
                        have HB := n2_
                        clear n0_ n1_ n2_
                        have p220 : 0 ≤ (1 : Int) := (by omega)
                        have q220 : 1 < (l0.length : Int) := of_decide_eq_true (by first | (with_reducible assumption) | assumption)
                        obtain ⟨ad220, e220, hx220_0⟩ := Kd.at_int HR0.out 1 p220 q220
                        have hw220_0 := hx220_0
                        (try rw [show ((1 : Int)).toNat = 1 from rfl] at hw220_0)
                        (try rw [show 1 * 1 = 1 from rfl] at hw220_0)
                        (try simp only [Nat.reduceMul, Nat.reduceEqDiff, Go.Addr.add, ↓reduceIte] at hw220_0)
                        obtain rfl : ad197 = ad220 := (by injection e220)
                        (try simp only [show (1 : Int).toNat = 1 from rfl, Nat.reduceMul, Nat.reduceEqDiff, Go.Addr.add, ↓reduceIte] at hx220_0)
                        have qi220 : (1 < l0.length) = True := eq_true (by omega)
                        (try rw [show ((1 : Int)).toNat = 1 from rfl] at hx220_0)
                        replace hx220_0 := (HB.out.cell (World.block_lt_of_cell? w _ hx220_0)).trans hx220_0
                        replace p220 := eq_true p220
                        replace q220 := eq_true q220
                        have p221 : 0 ≤ (6 : Int) := (by omega)
                        have q221 : 6 < (l0.length : Int) := of_decide_eq_true (by first | (with_reducible assumption) | assumption)
                        obtain ⟨ad221, e221, hx221_0⟩ := Kd.at_int HR0.out 6 p221 q221
                        have hw221_0 := hx221_0
                        (try rw [show ((6 : Int)).toNat = 6 from rfl] at hw221_0)
                        (try rw [show 6 * 1 = 6 from rfl] at hw221_0)
                        (try simp only [Nat.reduceMul, Nat.reduceEqDiff, Go.Addr.add, ↓reduceIte] at hw221_0)
                        obtain rfl : ad197 = ad221 := (by injection e221)
                        (try simp only [show (6 : Int).toNat = 6 from rfl, Nat.reduceMul, Nat.reduceEqDiff, Go.Addr.add, ↓reduceIte] at hx221_0)
                        have qi221 : (6 < l0.length) = True := eq_true (by omega)
                        (try rw [show ((6 : Int)).toNat = 6 from rfl] at hx221_0)
                        replace hx221_0 := (HB.out.cell (World.block_lt_of_cell? w _ hx221_0)).trans hx221_0
                        replace p221 := eq_true p221
                        replace q221 := eq_true q221
                        have p222 : 0 ≤ (7 : Int) := (by omega)
                        have q222 : 7 < (l0.length : Int) := of_decide_eq_true (by first | (with_reducible assumption) | assumption)
                        obtain ⟨ad222, e222, hx222_0⟩ := Kd.at_int HR0.out 7 p222 q222
                        have hw222_0 := hx222_0
                        (try rw [show ((7 : Int)).toNat = 7 from rfl] at hw222_0)
                        (try rw [show 7 * 1 = 7 from rfl] at hw222_0)
                        (try simp only [Nat.reduceMul, Nat.reduceEqDiff, Go.Addr.add, ↓reduceIte] at hw222_0)
                        obtain rfl : ad197 = ad222 := (by injection e222)
                        (try simp only [show (7 : Int).toNat = 7 from rfl, Nat.reduceMul, Nat.reduceEqDiff, Go.Addr.add, ↓reduceIte] at hx222_0)
                        have qi222 : (7 < l0.length) = True := eq_true (by omega)
                        (try rw [show ((7 : Int)).toNat = 7 from rfl] at hx222_0)
                        replace hx222_0 := (HB.out.cell (World.block_lt_of_cell? w _ hx222_0)).trans hx222_0
                        replace p222 := eq_true p222
                        replace q222 := eq_true q222
                        obtain ⟨i051, hi051, _, hsz51, _⟩ := info_parts info5
                        obtain ⟨A51, hcut51, hA51, hC51⟩ := print_mid_of (P := Try.prog) (Value.int .u8) 0 27 5 .i64 .i64 Try.underlying27 hi051 hsz51 (some ad197) c0 l0 20 24 (by omega) (by first | omega | exact of_decide_eq_true (by first | (with_reducible assumption) | assumption)) (of_decide_eq_true (by first | (with_reducible assumption) | assumption)) HC0.out
                        have HR223 := Aside0.mk (Kd.C_of_reads (h1 := fun _ => rfl) (hA51 _ (Kd.reads_of_C HR0.out)))
                        have HC223 := Aside0.mk hC51
                        clear hA51 hC51 hi051 hsz51
                        refine start_ (n := 37) (S := fun w' => w'.cell? ⟨gb217, 0, none⟩ = some (.int .u32 t210) ∧ w'.cell? ⟨gb217, 1, none⟩ = some (.int .u32 t211) ∧ w'.cell? ⟨gb217, 2, none⟩ = some (.int .u8 t212) ∧ w'.cell? ⟨gb217, 3, none⟩ = some (.int .u8 t213) ∧ w'.cell? ⟨gb217, 4, none⟩ = some (.int .u16 t214) ∧ w'.cell? ⟨gb217, 5, none⟩ = some (.bool true) ∧ w'.cell? ⟨ad197.block, ad197.off + 1, none⟩ = some (.int .u8 (rd l0 1)) ∧ w'.cell? ⟨ad197.block, ad197.off + 6, none⟩ = some (.int .u8 (rd l0 6)) ∧ w'.cell? ⟨ad197.block, ad197.off + 7, none⟩ = some (.int .u8 (rd l0 7))) (ds := []) #[false, false, false, false, false, false, false, false, false, false, false, false, false, false, false, false, false, false, false, false, false, false, false, false, false, false, false, false, false, false, false, false, false, false, false, false, false] (by kernel_rfl) rfl rfl ⟨(blk_cell BK217.out 0).trans rfl, (blk_cell BK217.out 1).trans rfl, (blk_cell BK217.out 2).trans rfl, (blk_cell BK217.out 3).trans rfl, (blk_cell BK217.out 4).trans rfl, (blk_cell BK217.out 5).trans rfl, ((HB.out.cell (World.block_lt_of_cell? w _ hw220_0)).trans hw220_0), ((HB.out.cell (World.block_lt_of_cell? w _ hw221_0)).trans hw221_0), ((HB.out.cell (World.block_lt_of_cell? w _ hw222_0)).trans hw222_0)⟩ (fun hHeld => ?_); refine with_tabW ip_Decode.tab12 ip_Decode.bits12 (fun HT_ HW_ => ?_)
                        generalize w32.drew = w50 at BK174 BK217 HB HR223 hx220_0 hx221_0 hx222_0 hHeld ⊢
                        refine pu 0 72 (bb 37 1) rfl rfl (any_of HT_.out (by kernel_rfl)) (fun _ _ _ h => h) (by rfl) (fun w' => by go_simp; with_reducible rfl) (by simp only [Act.put, sA, sB, sC, i64_w, i32_w]; rfl) ?_
                        refine pu 1 73 (bb 37 3) rfl rfl (any_of HT_.out (by kernel_rfl)) (fun _ _ _ h => h) (by rfl) (fun w' => by go_simp; with_reducible rfl) (by simp only [Act.put, sA, sB, sC, i64_w, i32_w]; rfl) ?_
                        refine take_ (i := 2) (N := some 74) (v := ?_) (a' := ?_) (bb 37 7) rfl rfl (take_ofW HT_.out HW_.out (by kernel_rfl)) (fun _ _ _ h => h) (Or.inl ⟨by rfl, ?_⟩) hHeld ?_ ?_
                        rotate_left
                        · rintro w' ⟨s0, s1, s2, s3, s4, s5, s6, s7, s8⟩
                          go_simp
                          with_reducible rfl
                        rotate_left
                        · simp only [Act.put, sA, sB, sC, i64_w, i32_w]
                          rfl
                        refine pu 3 75 (bb 37 15) rfl rfl (any_of HT_.out (by kernel_rfl)) (fun _ _ _ h => h) (by rfl) (fun w' => by go_simp; with_reducible rfl) (by simp only [Act.put, sA, sB, sC, i64_w, i32_w]; rfl) ?_
                        refine pu 4 76 (bb 37 31) rfl rfl (any_of HT_.out (by kernel_rfl)) (fun _ _ _ h => h) (by rfl) (fun w' => by go_simp; with_reducible rfl) (by simp only [Act.put, sA, sB, sC, i64_w, i32_w]; rfl) ?_
                        refine pu 5 77 (bb 37 63) rfl rfl (any_of HT_.out (by kernel_rfl)) (fun _ _ _ h => h) (by rfl) (fun w' => by go_simp; with_reducible rfl) (by simp only [Act.put, sA, sB, sC, i64_w, i32_w]; rfl) ?_
                        refine pu 6 78 (bb 37 127) rfl rfl (any_of HT_.out (by kernel_rfl)) (fun _ _ _ h => h) (by rfl) (fun w' => by go_simp; with_reducible rfl) (by simp only [Act.put, sA, sB, sC, i64_w, i32_w]; rfl) ?_
                        refine take_ (i := 7) (N := some 79) (v := ?_) (a' := ?_) (bb 37 255) rfl rfl (take_ofW HT_.out HW_.out (by kernel_rfl)) (fun _ _ _ h => h) (Or.inl ⟨by rfl, ?_⟩) hHeld ?_ ?_
                        rotate_left
                        · rintro w' ⟨s0, s1, s2, s3, s4, s5, s6, s7, s8⟩
                          go_simp
                          with_reducible rfl
                        rotate_left
                        · simp only [Act.put, sA, sB, sC, i64_w, i32_w]
                          rfl
                        refine pu 8 80 (bb 37 511) rfl rfl (any_of HT_.out (by kernel_rfl)) (fun _ _ _ h => h) (by rfl) (fun w' => by go_simp; with_reducible rfl) (by simp only [Act.put, sA, sB, sC, i64_w, i32_w]; rfl) ?_
                        refine pu 9 81 (bb 37 1023) rfl rfl (any_of HT_.out (by kernel_rfl)) (fun _ _ _ h => h) (by rfl) (fun w' => by go_simp; with_reducible rfl) (by simp only [Act.put, sA, sB, sC, i64_w, i32_w]; rfl) ?_
                        refine pu 10 82 (bb 37 2047) rfl rfl (any_of HT_.out (by kernel_rfl)) (fun _ _ _ h => h) (by rfl) (fun w' => by go_simp; with_reducible rfl) (by simp only [Act.put, sA, sB, sC, i64_w, i32_w]; rfl) ?_
                        refine pu 11 83 (bb 37 4095) rfl rfl (any_of HT_.out (by kernel_rfl)) (fun _ _ _ h => h) (by rfl) (fun w' => by go_simp; with_reducible rfl) (by simp only [Act.put, sA, sB, sC, i64_w, i32_w]; rfl) ?_
                        refine pu 12 84 (bb 37 8191) rfl rfl (any_of HT_.out (by kernel_rfl)) (fun _ _ _ h => h) (by rfl) (fun w' => by go_simp; with_reducible rfl) (by simp only [Act.put, sA, sB, sC, i64_w, i32_w]; rfl) ?_
                        refine take_ (i := 13) (N := some 85) (v := ?_) (a' := ?_) (bb 37 16383) rfl rfl (take_ofW HT_.out HW_.out (by kernel_rfl)) (fun _ _ _ h => h) (Or.inl ⟨by rfl, ?_⟩) hHeld ?_ ?_
                        rotate_left
                        · rintro w' ⟨s0, s1, s2, s3, s4, s5, s6, s7, s8⟩
                          go_simp
                          with_reducible rfl
                        rotate_left
                        · simp only [Act.put, sA, sB, sC, i64_w, i32_w]
                          rfl
                        refine pu 14 86 (bb 37 32767) rfl rfl (any_of HT_.out (by kernel_rfl)) (fun _ _ _ h => h) (by rfl) (fun w' => by go_simp; with_reducible rfl) (by simp only [Act.put, sA, sB, sC, i64_w, i32_w]; rfl) ?_
                        refine pu 15 87 (bb 37 65535) rfl rfl (any_of HT_.out (by kernel_rfl)) (fun _ _ _ h => h) (by rfl) (fun w' => by go_simp; with_reducible rfl) (by simp only [Act.put, sA, sB, sC, i64_w, i32_w]; rfl) ?_
                        refine pu 16 88 (bb 37 131071) rfl rfl (any_of HT_.out (by kernel_rfl)) (fun _ _ _ h => h) (by rfl) (fun w' => by go_simp; with_reducible rfl) (by simp only [Act.put, sA, sB, sC, i64_w, i32_w]; rfl) ?_
                        refine pu 17 89 (bb 37 262143) rfl rfl (any_of HT_.out (by kernel_rfl)) (fun _ _ _ h => h) (by rfl) (fun w' => by go_simp; with_reducible rfl) (by simp only [Act.put, sA, sB, sC, i64_w, i32_w]; rfl) ?_
                        refine take_ (i := 18) (N := some 90) (v := ?_) (a' := ?_) (bb 37 524287) rfl rfl (take_ofW HT_.out HW_.out (by kernel_rfl)) (fun _ _ _ h => h) (Or.inl ⟨by rfl, ?_⟩) hHeld ?_ ?_
                        rotate_left
                        · rintro w' ⟨s0, s1, s2, s3, s4, s5, s6, s7, s8⟩
                          go_simp
                          with_reducible rfl
                        rotate_left
                        · simp only [Act.put, sA, sB, sC, i64_w, i32_w]
                          rfl
                        refine pu 19 91 (bb 37 1048575) rfl rfl (any_of HT_.out (by kernel_rfl)) (fun _ _ _ h => h) (by rfl) (fun w' => by go_simp; with_reducible rfl) (by simp only [Act.put, sA, sB, sC, i64_w, i32_w]; rfl) ?_
                        refine pu 20 92 (bb 37 2097151) rfl rfl (any_of HT_.out (by kernel_rfl)) (fun _ _ _ h => h) (by rfl) (fun w' => by go_simp; with_reducible rfl) (by simp only [Act.put, sA, sB, sC, i64_w, i32_w]; rfl) ?_
                        refine pu 21 93 (bb 37 4194303) rfl rfl (any_of HT_.out (by kernel_rfl)) (fun _ _ _ h => h) (by rfl) (fun w' => by go_simp; with_reducible rfl) (by simp only [Act.put, sA, sB, sC, i64_w, i32_w]; rfl) ?_
                        refine one_ (i := 22) (N := some 94) (bb 37 8388607) rfl rfl (one_of HT_.out (by kernel_rfl)) (by decide) (fun K hK => ?_)
                        refine goes_ Try.func24 (by kernel_rfl) rfl #[] (by rfl) rfl rfl (by (try simp only [List.map_toArray, List.map_cons, List.map_nil]); first | done | rfl | (simp only [List.length_drop, List.length_take]; rfl)) ?_
                        with_reducible refine (ip_option.calls  t224 _ A42.out).mono ?_
                        rintro e w52 ⟨v225, rfl, ho0, hb⟩
                        refine ⟨_, rfl, ?_⟩
                        have n0_ := Aside0.mk (Kd.R_lower ho0 (below_size (by repeat (first | (with_reducible first | exact HB.out | apply below_alloc | apply pw_below_drewN | apply below_drew1 | refine below_set ?_ GE174.out | refine below_set ?_ GE217.out) | exact HB.out))))
                        have n1_ := Aside0.mk (blk_below (g := gb174) (o := .cells #[.int .u32 0, .int .u32 0, .int .u8 0, .int .u8 0, .int .u16 0, .bool false] 26 (0, 0)) (by (with_reducible repeat (first | refine blk_drewN ?_ _ | refine blk_drew ?_ | refine blk_alloc ?_ _)); exact BK174.out) hb)
                        have n2_ := Aside0.mk (blk_below (g := gb217) (o := .cells #[.int .u32 t210, .int .u32 t211, .int .u8 t212, .int .u8 t213, .int .u16 t214, .bool true] 26 (0, 0)) (by (with_reducible repeat (first | refine blk_drewN ?_ _ | refine blk_drew ?_ | refine blk_alloc ?_ _)); exact BK217.out) hb)
                        have n3_ := Aside0.mk (below_step (by repeat (first | (with_reducible first | exact HB.out | apply below_alloc | apply pw_below_drewN | apply below_drew1 | refine below_set ?_ GE174.out | refine below_set ?_ GE217.out) | exact HB.out)) hb)
                        clear BK174
                        clear BK217
                        clear HB
                        have HO226 := n0_
                        have BK174 := n1_
                        have BK217 := n2_
                        have HB := n3_
                        clear n0_ n1_ n2_ n3_
                        (try clear hb)
                        (try clear hb2)
                        (try clear hk)
                        (try clear hi)
                        (try clear ho0)
                        obtain ⟨Ao53, co53, eo53⟩ := Kd.R_slice HO226.out
                        (first | subst eo53 | (injection eo53 with f1_ f2_ f3_; have f4_ := f1_.symm; have f5_ := f3_.symm; clear f1_ f2_ f3_; subst f4_; subst f5_))
                        refine hK.out _ _ ⟨(blk_cell BK217.out 0).trans rfl, (blk_cell BK217.out 1).trans rfl, (blk_cell BK217.out 2).trans rfl, (blk_cell BK217.out 3).trans rfl, (blk_cell BK217.out 4).trans rfl, (blk_cell BK217.out 5).trans rfl, ((HB.out.cell (World.block_lt_of_cell? w _ hw220_0)).trans hw220_0), ((HB.out.cell (World.block_lt_of_cell? w _ hw221_0)).trans hw221_0), ((HB.out.cell (World.block_lt_of_cell? w _ hw222_0)).trans hw222_0)⟩ (fun hHeld => ?_)
                        clear hK K
                        refine norm_ (a' := ?_) ?_ ?_
                        rotate_left
                        · show Act.put _ (some 94) _ = _
                          simp only [Act.put, sA, sB, sC, i64_w, i32_w]
                          rfl
                        refine one_ (i := 23) (N := some 95) (bb 37 16777215) rfl rfl (one_of HT_.out (by kernel_rfl)) (by decide) (fun K hK => ?_)
                        refine goes_ Try.func23 (by kernel_rfl) rfl #[.slice A51 ((l0.take 24).drop 20).length (c0 - 20), .slice Ao53 t224.length co53] (by rfl) rfl rfl (by (try simp only [List.map_toArray, List.map_cons, List.map_nil]); first | done | (rw [show ((l0.take 24).drop 20).length = (24 - 20) from (by rw [List.length_drop, List.length_take]; have h_ : (24 : Int) ≤ (l0.length : Int) := of_decide_eq_true (by first | (with_reducible assumption) | assumption); omega)] <;> rfl) | rfl | (simp only [List.length_drop, List.length_take]; rfl)) ?_
                        with_reducible refine (bytes_Equal.calls _ _ ((l0.take 24).drop 20) _ _ t224 true _ ?side1 ?side2 ?side3 ?side4 A43.out).mono ?_
                        (case side1 => repeat (first | exact (Kd.C_below HR223.out HB.out) | (with_reducible refine Kd.C_alloc ?_ _) | (with_reducible refine Kd.C_drewN ?_ _) | (with_reducible refine Kd.C_drew ?_)))
                        (case side2 => exact HC223.out)
                        (case side3 => repeat (first | exact (Kd.R_reads' HO226.out).2.2 | (with_reducible refine Kd.C_alloc ?_ _) | (with_reducible refine Kd.C_drewN ?_ _) | (with_reducible refine Kd.C_drew ?_)))
                        (case side4 => exact (Kd.R_reads' HO226.out).2.1)
                        rintro e w' ⟨rfl, ⟨nd, rfl⟩⟩
                        refine ⟨_, rfl, ?_⟩
                        refine hK.out _ _ ⟨(blk_cell BK217.out 0).trans rfl, (blk_cell BK217.out 1).trans rfl, (blk_cell BK217.out 2).trans rfl, (blk_cell BK217.out 3).trans rfl, (blk_cell BK217.out 4).trans rfl, (blk_cell BK217.out 5).trans rfl, ((HB.out.cell (World.block_lt_of_cell? w _ hw220_0)).trans hw220_0), ((HB.out.cell (World.block_lt_of_cell? w _ hw221_0)).trans hw221_0), ((HB.out.cell (World.block_lt_of_cell? w _ hw222_0)).trans hw222_0)⟩ (fun hHeld => ?_)
                        clear hK K
                        refine norm_ (a' := ?_) ?_ ?_
                        rotate_left
                        · show Act.put _ (some 95) _ = _
                          simp only [Act.put, sA, sB, sC, i64_w, i32_w]
                          rfl
                        refine pu 24 96 (bb 37 33554431) rfl rfl (any_of HT_.out (by kernel_rfl)) (fun _ _ _ h => h) (by rfl) (fun w' => by go_simp; with_reducible rfl) (by simp only [Act.put, sA, sB, sC, i64_w, i32_w]; rfl) ?_
                        refine pu 25 97 (bb 37 67108863) rfl rfl (any_of HT_.out (by kernel_rfl)) (fun _ _ _ h => h) (by rfl) (fun w' => by go_simp; with_reducible rfl) (by simp only [Act.put, sA, sB, sC, i64_w, i32_w]; rfl) ?_
                        refine pu 26 98 (bb 37 134217727) rfl rfl (any_of HT_.out (by kernel_rfl)) (fun _ _ _ h => h) (by rfl) (fun w' => by go_simp; with_reducible rfl) (by simp only [Act.put, sA, sB, sC, i64_w, i32_w]; rfl) ?_
                        refine pu 27 99 (bb 37 268435455) rfl rfl (any_of HT_.out (by kernel_rfl)) (fun _ _ _ h => h) (by rfl) (fun w' => by go_simp; with_reducible rfl) (by simp only [Act.put, sA, sB, sC, i64_w, i32_w]; rfl) ?_
                        refine pu 28 100 (bb 37 536870911) rfl rfl (any_of HT_.out (by kernel_rfl)) (fun _ _ _ h => h) (by rfl) (fun w' => by go_simp; with_reducible rfl) (by simp only [Act.put, sA, sB, sC, i64_w, i32_w]; rfl) ?_
                        refine pu 29 101 (bb 37 1073741823) rfl rfl (any_of HT_.out (by kernel_rfl)) (fun _ _ _ h => h) (by rfl) (fun w' => by go_simp; with_reducible rfl) (by simp only [Act.put, sA, sB, sC, i64_w, i32_w]; rfl) ?_
                        refine pu 30 102 (bb 37 2147483647) rfl rfl (any_of HT_.out (by kernel_rfl)) (fun _ _ _ h => h) (by rfl) (fun w' => by go_simp; with_reducible rfl) (by simp only [Act.put, sA, sB, sC, i64_w, i32_w]; rfl) ?_
                        refine pu 31 103 (bb 37 4294967295) rfl rfl (any_of HT_.out (by kernel_rfl)) (fun _ _ _ h => h) (by rfl) (fun w' => by go_simp; with_reducible rfl) (by simp only [Act.put, sA, sB, sC, i64_w, i32_w]; rfl) ?_
                        refine pu 32 104 (bb 37 8589934591) rfl rfl (any_of HT_.out (by kernel_rfl)) (fun _ _ _ h => h) (by rfl) (fun w' => by go_simp; with_reducible rfl) (by simp only [Act.put, sA, sB, sC, i64_w, i32_w]; rfl) ?_
                        refine pu 33 105 (bb 37 17179869183) rfl rfl (any_of HT_.out (by kernel_rfl)) (fun _ _ _ h => h) (by rfl) (fun w' => by go_simp; with_reducible rfl) (by simp only [Act.put, sA, sB, sC, i64_w, i32_w]; rfl) ?_
                        refine pu 34 106 (bb 37 34359738367) rfl rfl (any_of HT_.out (by kernel_rfl)) (fun _ _ _ h => h) (by rfl) (fun w' => by go_simp; with_reducible rfl) (by simp only [Act.put, sA, sB, sC, i64_w, i32_w]; rfl) ?_
                        refine pu 35 107 (bb 37 68719476735) rfl rfl (any_of HT_.out (by kernel_rfl)) (fun _ _ _ h => h) (by rfl) (fun w' => by go_simp; with_reducible rfl) (by simp only [Act.put, sA, sB, sC, i64_w, i32_w]; rfl) ?_
                        refine pu 36 71 (bb 37 137438953471) rfl rfl (any_of HT_.out (by kernel_rfl)) (fun _ _ _ h => h) (by rfl) (fun w' => by go_simp; with_reducible rfl) (by simp only [Act.put, sA, sB, sC, i64_w, i32_w]; rfl) ?_
                        refine done_ (done_of HT_.out (by kernel_rfl)) ?_
                        try go_wp2
                        go_meet
                        case rel => exact ⟨_, (decide (t216 > 1500)), (by first | rfl | (simp; done) | (simp [*]; done)), H', ⟨by have := HJ6.out; first | omega | exact Nat.le_refl _⟩, ⟨by (with_reducible repeat (first | refine blk_drewN ?_ _ | refine blk_drew ?_ | refine blk_alloc ?_ _)); exact BK174.out⟩, ⟨by (with_reducible repeat (first | refine blk_drewN ?_ _ | refine blk_drew ?_ | refine blk_alloc ?_ _)); exact BK217.out⟩, ⟨by repeat (first | (with_reducible first | exact HB.out | apply below_alloc | apply pw_below_drewN | apply below_drew1 | refine below_set ?_ GE174.out | refine below_set ?_ GE217.out) | exact HB.out)⟩⟩
                    · replace c44 := Bool.eq_false_iff.mpr c44
                      subst c44
                      have H1 : (ip_Decode.j1 kj6 l0 t198 t216 true t210 t211 t212 t213 t214 true) = some (r1, r2, r3, r4, r5, r6, r7, r8) := by rw [if_neg (show ¬ (false = true) by decide)] at H; exact H
                      clear H
                      have H := H1
                      clear H1
                      have H' := Aside0.mk H
                      clear H
                      try go_wp2
                      have n0_ := Aside0.mk (blk_drew BK174.out)
                      have n1_ := Aside0.mk (blk_drew BK217.out)
                      have n2_ := Aside0.mk (below_drew1 HB.out)
                      clear BK174
                      clear BK217
                      clear HB
                      have BK174 := n0_
                      have BK217 := n1_
                      have HB := n2_
                      clear n0_ n1_ n2_
                      have p220 : 0 ≤ (1 : Int) := (by omega)
                      have q220 : 1 < (l0.length : Int) := of_decide_eq_true (by first | (with_reducible assumption) | assumption)
                      obtain ⟨ad220, e220, hx220_0⟩ := Kd.at_int HR0.out 1 p220 q220
                      have hw220_0 := hx220_0
                      (try rw [show ((1 : Int)).toNat = 1 from rfl] at hw220_0)
                      (try rw [show 1 * 1 = 1 from rfl] at hw220_0)
                      (try simp only [Nat.reduceMul, Nat.reduceEqDiff, Go.Addr.add, ↓reduceIte] at hw220_0)
                      obtain rfl : ad197 = ad220 := (by injection e220)
                      (try simp only [show (1 : Int).toNat = 1 from rfl, Nat.reduceMul, Nat.reduceEqDiff, Go.Addr.add, ↓reduceIte] at hx220_0)
                      have qi220 : (1 < l0.length) = True := eq_true (by omega)
                      (try rw [show ((1 : Int)).toNat = 1 from rfl] at hx220_0)
                      replace hx220_0 := (HB.out.cell (World.block_lt_of_cell? w _ hx220_0)).trans hx220_0
                      replace p220 := eq_true p220
                      replace q220 := eq_true q220
                      have p221 : 0 ≤ (6 : Int) := (by omega)
                      have q221 : 6 < (l0.length : Int) := of_decide_eq_true (by first | (with_reducible assumption) | assumption)
                      obtain ⟨ad221, e221, hx221_0⟩ := Kd.at_int HR0.out 6 p221 q221
                      have hw221_0 := hx221_0
                      (try rw [show ((6 : Int)).toNat = 6 from rfl] at hw221_0)
                      (try rw [show 6 * 1 = 6 from rfl] at hw221_0)
                      (try simp only [Nat.reduceMul, Nat.reduceEqDiff, Go.Addr.add, ↓reduceIte] at hw221_0)
                      obtain rfl : ad197 = ad221 := (by injection e221)
                      (try simp only [show (6 : Int).toNat = 6 from rfl, Nat.reduceMul, Nat.reduceEqDiff, Go.Addr.add, ↓reduceIte] at hx221_0)
                      have qi221 : (6 < l0.length) = True := eq_true (by omega)
                      (try rw [show ((6 : Int)).toNat = 6 from rfl] at hx221_0)
                      replace hx221_0 := (HB.out.cell (World.block_lt_of_cell? w _ hx221_0)).trans hx221_0
                      replace p221 := eq_true p221
                      replace q221 := eq_true q221
                      have p222 : 0 ≤ (7 : Int) := (by omega)
                      have q222 : 7 < (l0.length : Int) := of_decide_eq_true (by first | (with_reducible assumption) | assumption)
                      obtain ⟨ad222, e222, hx222_0⟩ := Kd.at_int HR0.out 7 p222 q222
                      have hw222_0 := hx222_0
                      (try rw [show ((7 : Int)).toNat = 7 from rfl] at hw222_0)
                      (try rw [show 7 * 1 = 7 from rfl] at hw222_0)
                      (try simp only [Nat.reduceMul, Nat.reduceEqDiff, Go.Addr.add, ↓reduceIte] at hw222_0)
                      obtain rfl : ad197 = ad222 := (by injection e222)
                      (try simp only [show (7 : Int).toNat = 7 from rfl, Nat.reduceMul, Nat.reduceEqDiff, Go.Addr.add, ↓reduceIte] at hx222_0)
                      have qi222 : (7 < l0.length) = True := eq_true (by omega)
                      (try rw [show ((7 : Int)).toNat = 7 from rfl] at hx222_0)
                      replace hx222_0 := (HB.out.cell (World.block_lt_of_cell? w _ hx222_0)).trans hx222_0
                      replace p222 := eq_true p222
                      replace q222 := eq_true q222
                      obtain ⟨i055, hi055, _, hsz55, _⟩ := info_parts info5
                      obtain ⟨A55, hcut55, hA55, hC55⟩ := print_mid_of (P := Try.prog) (Value.int .u8) 0 27 5 .i64 .i64 Try.underlying27 hi055 hsz55 (some ad197) c0 l0 20 24 (by omega) (by first | omega | exact of_decide_eq_true (by first | (with_reducible assumption) | assumption)) (of_decide_eq_true (by first | (with_reducible assumption) | assumption)) HC0.out
                      have HR223 := Aside0.mk (Kd.C_of_reads (h1 := fun _ => rfl) (hA55 _ (Kd.reads_of_C HR0.out)))
                      have HC223 := Aside0.mk hC55
                      clear hA55 hC55 hi055 hsz55
                      refine start_ (n := 37) (S := fun w' => w'.cell? ⟨gb217, 0, none⟩ = some (.int .u32 t210) ∧ w'.cell? ⟨gb217, 1, none⟩ = some (.int .u32 t211) ∧ w'.cell? ⟨gb217, 2, none⟩ = some (.int .u8 t212) ∧ w'.cell? ⟨gb217, 3, none⟩ = some (.int .u8 t213) ∧ w'.cell? ⟨gb217, 4, none⟩ = some (.int .u16 t214) ∧ w'.cell? ⟨gb217, 5, none⟩ = some (.bool true) ∧ w'.cell? ⟨ad197.block, ad197.off + 1, none⟩ = some (.int .u8 (rd l0 1)) ∧ w'.cell? ⟨ad197.block, ad197.off + 6, none⟩ = some (.int .u8 (rd l0 6)) ∧ w'.cell? ⟨ad197.block, ad197.off + 7, none⟩ = some (.int .u8 (rd l0 7))) (ds := []) #[false, false, false, false, false, false, false, false, false, false, false, false, false, false, false, false, false, false, false, false, false, false, false, false, false, false, false, false, false, false, false, false, false, false, false, false, false] (by kernel_rfl) rfl rfl ⟨(blk_cell BK217.out 0).trans rfl, (blk_cell BK217.out 1).trans rfl, (blk_cell BK217.out 2).trans rfl, (blk_cell BK217.out 3).trans rfl, (blk_cell BK217.out 4).trans rfl, (blk_cell BK217.out 5).trans rfl, ((HB.out.cell (World.block_lt_of_cell? w _ hw220_0)).trans hw220_0), ((HB.out.cell (World.block_lt_of_cell? w _ hw221_0)).trans hw221_0), ((HB.out.cell (World.block_lt_of_cell? w _ hw222_0)).trans hw222_0)⟩ (fun hHeld => ?_); refine with_tabW ip_Decode.tab12 ip_Decode.bits12 (fun HT_ HW_ => ?_)
                      generalize w32.drew = w54 at BK174 BK217 HB HR223 hx220_0 hx221_0 hx222_0 hHeld ⊢
                      refine pu 0 72 (bb 37 1) rfl rfl (any_of HT_.out (by kernel_rfl)) (fun _ _ _ h => h) (by rfl) (fun w' => by go_simp; with_reducible rfl) (by simp only [Act.put, sA, sB, sC, i64_w, i32_w]; rfl) ?_
                      refine pu 1 73 (bb 37 3) rfl rfl (any_of HT_.out (by kernel_rfl)) (fun _ _ _ h => h) (by rfl) (fun w' => by go_simp; with_reducible rfl) (by simp only [Act.put, sA, sB, sC, i64_w, i32_w]; rfl) ?_
                      refine take_ (i := 2) (N := some 74) (v := ?_) (a' := ?_) (bb 37 7) rfl rfl (take_ofW HT_.out HW_.out (by kernel_rfl)) (fun _ _ _ h => h) (Or.inl ⟨by rfl, ?_⟩) hHeld ?_ ?_
                      rotate_left
                      · rintro w' ⟨s0, s1, s2, s3, s4, s5, s6, s7, s8⟩
                        go_simp
                        with_reducible rfl
                      rotate_left
                      · simp only [Act.put, sA, sB, sC, i64_w, i32_w]
                        rfl
                      refine pu 3 75 (bb 37 15) rfl rfl (any_of HT_.out (by kernel_rfl)) (fun _ _ _ h => h) (by rfl) (fun w' => by go_simp; with_reducible rfl) (by simp only [Act.put, sA, sB, sC, i64_w, i32_w]; rfl) ?_
                      refine pu 4 76 (bb 37 31) rfl rfl (any_of HT_.out (by kernel_rfl)) (fun _ _ _ h => h) (by rfl) (fun w' => by go_simp; with_reducible rfl) (by simp only [Act.put, sA, sB, sC, i64_w, i32_w]; rfl) ?_
                      refine pu 5 77 (bb 37 63) rfl rfl (any_of HT_.out (by kernel_rfl)) (fun _ _ _ h => h) (by rfl) (fun w' => by go_simp; with_reducible rfl) (by simp only [Act.put, sA, sB, sC, i64_w, i32_w]; rfl) ?_
                      refine pu 6 78 (bb 37 127) rfl rfl (any_of HT_.out (by kernel_rfl)) (fun _ _ _ h => h) (by rfl) (fun w' => by go_simp; with_reducible rfl) (by simp only [Act.put, sA, sB, sC, i64_w, i32_w]; rfl) ?_
                      refine take_ (i := 7) (N := some 79) (v := ?_) (a' := ?_) (bb 37 255) rfl rfl (take_ofW HT_.out HW_.out (by kernel_rfl)) (fun _ _ _ h => h) (Or.inl ⟨by rfl, ?_⟩) hHeld ?_ ?_
                      rotate_left
                      · rintro w' ⟨s0, s1, s2, s3, s4, s5, s6, s7, s8⟩
                        go_simp
                        with_reducible rfl
                      rotate_left
                      · simp only [Act.put, sA, sB, sC, i64_w, i32_w]
                        rfl
                      refine pu 8 80 (bb 37 511) rfl rfl (any_of HT_.out (by kernel_rfl)) (fun _ _ _ h => h) (by rfl) (fun w' => by go_simp; with_reducible rfl) (by simp only [Act.put, sA, sB, sC, i64_w, i32_w]; rfl) ?_
                      refine pu 9 81 (bb 37 1023) rfl rfl (any_of HT_.out (by kernel_rfl)) (fun _ _ _ h => h) (by rfl) (fun w' => by go_simp; with_reducible rfl) (by simp only [Act.put, sA, sB, sC, i64_w, i32_w]; rfl) ?_
                      refine pu 10 82 (bb 37 2047) rfl rfl (any_of HT_.out (by kernel_rfl)) (fun _ _ _ h => h) (by rfl) (fun w' => by go_simp; with_reducible rfl) (by simp only [Act.put, sA, sB, sC, i64_w, i32_w]; rfl) ?_
                      refine pu 11 83 (bb 37 4095) rfl rfl (any_of HT_.out (by kernel_rfl)) (fun _ _ _ h => h) (by rfl) (fun w' => by go_simp; with_reducible rfl) (by simp only [Act.put, sA, sB, sC, i64_w, i32_w]; rfl) ?_
                      refine pu 12 84 (bb 37 8191) rfl rfl (any_of HT_.out (by kernel_rfl)) (fun _ _ _ h => h) (by rfl) (fun w' => by go_simp; with_reducible rfl) (by simp only [Act.put, sA, sB, sC, i64_w, i32_w]; rfl) ?_
                      refine take_ (i := 13) (N := some 85) (v := ?_) (a' := ?_) (bb 37 16383) rfl rfl (take_ofW HT_.out HW_.out (by kernel_rfl)) (fun _ _ _ h => h) (Or.inl ⟨by rfl, ?_⟩) hHeld ?_ ?_
                      rotate_left
                      · rintro w' ⟨s0, s1, s2, s3, s4, s5, s6, s7, s8⟩
                        go_simp
                        with_reducible rfl
                      rotate_left
                      · simp only [Act.put, sA, sB, sC, i64_w, i32_w]
                        rfl
                      refine pu 14 86 (bb 37 32767) rfl rfl (any_of HT_.out (by kernel_rfl)) (fun _ _ _ h => h) (by rfl) (fun w' => by go_simp; with_reducible rfl) (by simp only [Act.put, sA, sB, sC, i64_w, i32_w]; rfl) ?_
                      refine pu 15 87 (bb 37 65535) rfl rfl (any_of HT_.out (by kernel_rfl)) (fun _ _ _ h => h) (by rfl) (fun w' => by go_simp; with_reducible rfl) (by simp only [Act.put, sA, sB, sC, i64_w, i32_w]; rfl) ?_
                      refine pu 16 88 (bb 37 131071) rfl rfl (any_of HT_.out (by kernel_rfl)) (fun _ _ _ h => h) (by rfl) (fun w' => by go_simp; with_reducible rfl) (by simp only [Act.put, sA, sB, sC, i64_w, i32_w]; rfl) ?_
                      refine pu 17 89 (bb 37 262143) rfl rfl (any_of HT_.out (by kernel_rfl)) (fun _ _ _ h => h) (by rfl) (fun w' => by go_simp; with_reducible rfl) (by simp only [Act.put, sA, sB, sC, i64_w, i32_w]; rfl) ?_
                      refine take_ (i := 18) (N := some 90) (v := ?_) (a' := ?_) (bb 37 524287) rfl rfl (take_ofW HT_.out HW_.out (by kernel_rfl)) (fun _ _ _ h => h) (Or.inl ⟨by rfl, ?_⟩) hHeld ?_ ?_
                      rotate_left
                      · rintro w' ⟨s0, s1, s2, s3, s4, s5, s6, s7, s8⟩
                        go_simp
                        with_reducible rfl
                      rotate_left
                      · simp only [Act.put, sA, sB, sC, i64_w, i32_w]
                        rfl
                      refine pu 19 91 (bb 37 1048575) rfl rfl (any_of HT_.out (by kernel_rfl)) (fun _ _ _ h => h) (by rfl) (fun w' => by go_simp; with_reducible rfl) (by simp only [Act.put, sA, sB, sC, i64_w, i32_w]; rfl) ?_
                      refine pu 20 92 (bb 37 2097151) rfl rfl (any_of HT_.out (by kernel_rfl)) (fun _ _ _ h => h) (by rfl) (fun w' => by go_simp; with_reducible rfl) (by simp only [Act.put, sA, sB, sC, i64_w, i32_w]; rfl) ?_
                      refine pu 21 93 (bb 37 4194303) rfl rfl (any_of HT_.out (by kernel_rfl)) (fun _ _ _ h => h) (by rfl) (fun w' => by go_simp; with_reducible rfl) (by simp only [Act.put, sA, sB, sC, i64_w, i32_w]; rfl) ?_
                      refine one_ (i := 22) (N := some 94) (bb 37 8388607) rfl rfl (one_of HT_.out (by kernel_rfl)) (by decide) (fun K hK => ?_)
                      refine goes_ Try.func24 (by kernel_rfl) rfl #[] (by rfl) rfl rfl (by (try simp only [List.map_toArray, List.map_cons, List.map_nil]); first | done | rfl | (simp only [List.length_drop, List.length_take]; rfl)) ?_
                      with_reducible refine (ip_option.calls  t224 _ A42.out).mono ?_
                      rintro e w56 ⟨v225, rfl, ho0, hb⟩
                      refine ⟨_, rfl, ?_⟩
                      have n0_ := Aside0.mk (Kd.R_lower ho0 (below_size (by repeat (first | (with_reducible first | exact HB.out | apply below_alloc | apply pw_below_drewN | apply below_drew1 | refine below_set ?_ GE174.out | refine below_set ?_ GE217.out) | exact HB.out))))
                      have n1_ := Aside0.mk (blk_below (g := gb174) (o := .cells #[.int .u32 0, .int .u32 0, .int .u8 0, .int .u8 0, .int .u16 0, .bool false] 26 (0, 0)) (by (with_reducible repeat (first | refine blk_drewN ?_ _ | refine blk_drew ?_ | refine blk_alloc ?_ _)); exact BK174.out) hb)
                      have n2_ := Aside0.mk (blk_below (g := gb217) (o := .cells #[.int .u32 t210, .int .u32 t211, .int .u8 t212, .int .u8 t213, .int .u16 t214, .bool true] 26 (0, 0)) (by (with_reducible repeat (first | refine blk_drewN ?_ _ | refine blk_drew ?_ | refine blk_alloc ?_ _)); exact BK217.out) hb)
                      have n3_ := Aside0.mk (below_step (by repeat (first | (with_reducible first | exact HB.out | apply below_alloc | apply pw_below_drewN | apply below_drew1 | refine below_set ?_ GE174.out | refine below_set ?_ GE217.out) | exact HB.out)) hb)
                      clear BK174
                      clear BK217
                      clear HB
                      have HO226 := n0_
                      have BK174 := n1_
                      have BK217 := n2_
                      have HB := n3_
                      clear n0_ n1_ n2_ n3_
                      (try clear hb)
                      (try clear hb2)
                      (try clear hk)
                      (try clear hi)
                      (try clear ho0)
                      obtain ⟨Ao57, co57, eo57⟩ := Kd.R_slice HO226.out
                      (first | subst eo57 | (injection eo57 with f1_ f2_ f3_; have f4_ := f1_.symm; have f5_ := f3_.symm; clear f1_ f2_ f3_; subst f4_; subst f5_))
                      refine hK.out _ _ ⟨(blk_cell BK217.out 0).trans rfl, (blk_cell BK217.out 1).trans rfl, (blk_cell BK217.out 2).trans rfl, (blk_cell BK217.out 3).trans rfl, (blk_cell BK217.out 4).trans rfl, (blk_cell BK217.out 5).trans rfl, ((HB.out.cell (World.block_lt_of_cell? w _ hw220_0)).trans hw220_0), ((HB.out.cell (World.block_lt_of_cell? w _ hw221_0)).trans hw221_0), ((HB.out.cell (World.block_lt_of_cell? w _ hw222_0)).trans hw222_0)⟩ (fun hHeld => ?_)
                      clear hK K
                      refine norm_ (a' := ?_) ?_ ?_
                      rotate_left
                      · show Act.put _ (some 94) _ = _
                        simp only [Act.put, sA, sB, sC, i64_w, i32_w]
                        rfl
                      refine one_ (i := 23) (N := some 95) (bb 37 16777215) rfl rfl (one_of HT_.out (by kernel_rfl)) (by decide) (fun K hK => ?_)
                      refine goes_ Try.func23 (by kernel_rfl) rfl #[.slice A55 ((l0.take 24).drop 20).length (c0 - 20), .slice Ao57 t224.length co57] (by rfl) rfl rfl (by (try simp only [List.map_toArray, List.map_cons, List.map_nil]); first | done | (rw [show ((l0.take 24).drop 20).length = (24 - 20) from (by rw [List.length_drop, List.length_take]; have h_ : (24 : Int) ≤ (l0.length : Int) := of_decide_eq_true (by first | (with_reducible assumption) | assumption); omega)] <;> rfl) | rfl | (simp only [List.length_drop, List.length_take]; rfl)) ?_
                      with_reducible refine (bytes_Equal.calls _ _ ((l0.take 24).drop 20) _ _ t224 false _ ?side1 ?side2 ?side3 ?side4 A43.out).mono ?_
                      (case side1 => repeat (first | exact (Kd.C_below HR223.out HB.out) | (with_reducible refine Kd.C_alloc ?_ _) | (with_reducible refine Kd.C_drewN ?_ _) | (with_reducible refine Kd.C_drew ?_)))
                      (case side2 => exact HC223.out)
                      (case side3 => repeat (first | exact (Kd.R_reads' HO226.out).2.2 | (with_reducible refine Kd.C_alloc ?_ _) | (with_reducible refine Kd.C_drewN ?_ _) | (with_reducible refine Kd.C_drew ?_)))
                      (case side4 => exact (Kd.R_reads' HO226.out).2.1)
                      rintro e w' ⟨rfl, ⟨nd, rfl⟩⟩
                      refine ⟨_, rfl, ?_⟩
                      refine hK.out _ _ ⟨(blk_cell BK217.out 0).trans rfl, (blk_cell BK217.out 1).trans rfl, (blk_cell BK217.out 2).trans rfl, (blk_cell BK217.out 3).trans rfl, (blk_cell BK217.out 4).trans rfl, (blk_cell BK217.out 5).trans rfl, ((HB.out.cell (World.block_lt_of_cell? w _ hw220_0)).trans hw220_0), ((HB.out.cell (World.block_lt_of_cell? w _ hw221_0)).trans hw221_0), ((HB.out.cell (World.block_lt_of_cell? w _ hw222_0)).trans hw222_0)⟩ (fun hHeld => ?_)
                      clear hK K
                      refine norm_ (a' := ?_) ?_ ?_
                      rotate_left
                      · show Act.put _ (some 95) _ = _
                        simp only [Act.put, sA, sB, sC, i64_w, i32_w]
                        rfl
                      refine pu 24 96 (bb 37 33554431) rfl rfl (any_of HT_.out (by kernel_rfl)) (fun _ _ _ h => h) (by rfl) (fun w' => by go_simp; with_reducible rfl) (by simp only [Act.put, sA, sB, sC, i64_w, i32_w]; rfl) ?_
                      refine pu 25 97 (bb 37 67108863) rfl rfl (any_of HT_.out (by kernel_rfl)) (fun _ _ _ h => h) (by rfl) (fun w' => by go_simp; with_reducible rfl) (by simp only [Act.put, sA, sB, sC, i64_w, i32_w]; rfl) ?_
                      refine pu 26 98 (bb 37 134217727) rfl rfl (any_of HT_.out (by kernel_rfl)) (fun _ _ _ h => h) (by rfl) (fun w' => by go_simp; with_reducible rfl) (by simp only [Act.put, sA, sB, sC, i64_w, i32_w]; rfl) ?_
                      refine pu 27 99 (bb 37 268435455) rfl rfl (any_of HT_.out (by kernel_rfl)) (fun _ _ _ h => h) (by rfl) (fun w' => by go_simp; with_reducible rfl) (by simp only [Act.put, sA, sB, sC, i64_w, i32_w]; rfl) ?_
                      refine pure_ (i := 28) (N := some 100) (v := undef) (a' := ?_) (bb 37 536870911) rfl rfl (any_of HT_.out (by kernel_rfl)) (fun _ _ _ h => h) (Or.inr ⟨by rfl, rfl⟩) ?_ ?_
                      rotate_left
                      · simp only [Act.put, sA, sB, sC, i64_w, i32_w]
                        rfl
                      refine pure_ (i := 29) (N := some 101) (v := undef) (a' := ?_) (bb 37 1073741823) rfl rfl (any_of HT_.out (by kernel_rfl)) (fun _ _ _ h => h) (Or.inr ⟨by rfl, rfl⟩) ?_ ?_
                      rotate_left
                      · simp only [Act.put, sA, sB, sC, i64_w, i32_w]
                        rfl
                      refine pure_ (i := 30) (N := some 102) (v := undef) (a' := ?_) (bb 37 2147483647) rfl rfl (any_of HT_.out (by kernel_rfl)) (fun _ _ _ h => h) (Or.inr ⟨by rfl, rfl⟩) ?_ ?_
                      rotate_left
                      · simp only [Act.put, sA, sB, sC, i64_w, i32_w]
                        rfl
                      refine pu 31 103 (bb 37 4294967295) rfl rfl (any_of HT_.out (by kernel_rfl)) (fun _ _ _ h => h) (by rfl) (fun w' => by go_simp; with_reducible rfl) (by simp only [Act.put, sA, sB, sC, i64_w, i32_w]; rfl) ?_
                      refine pu 32 104 (bb 37 8589934591) rfl rfl (any_of HT_.out (by kernel_rfl)) (fun _ _ _ h => h) (by rfl) (fun w' => by go_simp; with_reducible rfl) (by simp only [Act.put, sA, sB, sC, i64_w, i32_w]; rfl) ?_
                      refine pure_ (i := 33) (N := some 105) (v := undef) (a' := ?_) (bb 37 17179869183) rfl rfl (any_of HT_.out (by kernel_rfl)) (fun _ _ _ h => h) (Or.inr ⟨by rfl, rfl⟩) ?_ ?_
                      rotate_left
                      · simp only [Act.put, sA, sB, sC, i64_w, i32_w]
                        rfl
                      refine pure_ (i := 34) (N := some 106) (v := undef) (a' := ?_) (bb 37 34359738367) rfl rfl (any_of HT_.out (by kernel_rfl)) (fun _ _ _ h => h) (Or.inr ⟨by rfl, rfl⟩) ?_ ?_
                      rotate_left
                      · simp only [Act.put, sA, sB, sC, i64_w, i32_w]
                        rfl
                      refine pu 35 107 (bb 37 68719476735) rfl rfl (any_of HT_.out (by kernel_rfl)) (fun _ _ _ h => h) (by rfl) (fun w' => by go_simp; with_reducible rfl) (by simp only [Act.put, sA, sB, sC, i64_w, i32_w]; rfl) ?_
                      refine pu 36 71 (bb 37 137438953471) rfl rfl (any_of HT_.out (by kernel_rfl)) (fun _ _ _ h => h) (by rfl) (fun w' => by go_simp; with_reducible rfl) (by simp only [Act.put, sA, sB, sC, i64_w, i32_w]; rfl) ?_
                      refine done_ (done_of HT_.out (by kernel_rfl)) ?_
                      try go_wp2
                      go_meet
                      case rel => exact ⟨_, (true), (by first | rfl | (simp; done) | (simp [*]; done)), H', ⟨by have := HJ6.out; first | omega | exact Nat.le_refl _⟩, ⟨by (with_reducible repeat (first | refine blk_drewN ?_ _ | refine blk_drew ?_ | refine blk_alloc ?_ _)); exact BK174.out⟩, ⟨by (with_reducible repeat (first | refine blk_drewN ?_ _ | refine blk_drew ?_ | refine blk_alloc ?_ _)); exact BK217.out⟩, ⟨by repeat (first | (with_reducible first | exact HB.out | apply below_alloc | apply pw_below_drewN | apply below_drew1 | refine below_set ?_ GE174.out | refine below_set ?_ GE217.out) | exact HB.out)⟩⟩
                  · replace c39 := Bool.eq_false_iff.mpr c39
                    subst c39
                    have H1 : (if t216 < t198 then (ip_Decode.j1 kj6 l0 t198 t216 true t210 t211 t212 t213 t214 false) else (ip_Decode.j1 kj6 l0 t198 t216 (decide (t216 > 1500)) t210 t211 t212 t213 t214 false)) = some (r1, r2, r3, r4, r5, r6, r7, r8) := by rw [if_neg (show ¬ (false = true) by decide)] at H; exact H
                    clear H
                    have H := H1
                    clear H1
                    by_cases c58 : t216 < t198
                    · rw [if_pos c58] at H
                      have c58b0 : decide (t216 < t198) = true := decide_eq_true c58
                      clear c58
                      have H' := Aside0.mk H
                      clear H
                      try go_wp2
                      have n0_ := Aside0.mk (blk_drew BK174.out)
                      have n1_ := Aside0.mk (blk_drew BK217.out)
                      have n2_ := Aside0.mk (below_drew1 HB.out)
                      clear BK174
                      clear BK217
                      clear HB
                      have BK174 := n0_
                      have BK217 := n1_
                      have HB := n2_
                      clear n0_ n1_ n2_
                      have p220 : 0 ≤ (1 : Int) := (by omega)
                      have q220 : 1 < (l0.length : Int) := of_decide_eq_true (by first | (with_reducible assumption) | assumption)
                      obtain ⟨ad220, e220, hx220_0⟩ := Kd.at_int HR0.out 1 p220 q220
                      have hw220_0 := hx220_0
                      (try rw [show ((1 : Int)).toNat = 1 from rfl] at hw220_0)
                      (try rw [show 1 * 1 = 1 from rfl] at hw220_0)
                      (try simp only [Nat.reduceMul, Nat.reduceEqDiff, Go.Addr.add, ↓reduceIte] at hw220_0)
                      obtain rfl : ad197 = ad220 := (by injection e220)
                      (try simp only [show (1 : Int).toNat = 1 from rfl, Nat.reduceMul, Nat.reduceEqDiff, Go.Addr.add, ↓reduceIte] at hx220_0)
                      have qi220 : (1 < l0.length) = True := eq_true (by omega)
                      (try rw [show ((1 : Int)).toNat = 1 from rfl] at hx220_0)
                      replace hx220_0 := (HB.out.cell (World.block_lt_of_cell? w _ hx220_0)).trans hx220_0
                      replace p220 := eq_true p220
                      replace q220 := eq_true q220
                      have p221 : 0 ≤ (6 : Int) := (by omega)
                      have q221 : 6 < (l0.length : Int) := of_decide_eq_true (by first | (with_reducible assumption) | assumption)
                      obtain ⟨ad221, e221, hx221_0⟩ := Kd.at_int HR0.out 6 p221 q221
                      have hw221_0 := hx221_0
                      (try rw [show ((6 : Int)).toNat = 6 from rfl] at hw221_0)
                      (try rw [show 6 * 1 = 6 from rfl] at hw221_0)
                      (try simp only [Nat.reduceMul, Nat.reduceEqDiff, Go.Addr.add, ↓reduceIte] at hw221_0)
                      obtain rfl : ad197 = ad221 := (by injection e221)
                      (try simp only [show (6 : Int).toNat = 6 from rfl, Nat.reduceMul, Nat.reduceEqDiff, Go.Addr.add, ↓reduceIte] at hx221_0)
                      have qi221 : (6 < l0.length) = True := eq_true (by omega)
                      (try rw [show ((6 : Int)).toNat = 6 from rfl] at hx221_0)
                      replace hx221_0 := (HB.out.cell (World.block_lt_of_cell? w _ hx221_0)).trans hx221_0
                      replace p221 := eq_true p221
                      replace q221 := eq_true q221
                      have p222 : 0 ≤ (7 : Int) := (by omega)
                      have q222 : 7 < (l0.length : Int) := of_decide_eq_true (by first | (with_reducible assumption) | assumption)
                      obtain ⟨ad222, e222, hx222_0⟩ := Kd.at_int HR0.out 7 p222 q222
                      have hw222_0 := hx222_0
                      (try rw [show ((7 : Int)).toNat = 7 from rfl] at hw222_0)
                      (try rw [show 7 * 1 = 7 from rfl] at hw222_0)
                      (try simp only [Nat.reduceMul, Nat.reduceEqDiff, Go.Addr.add, ↓reduceIte] at hw222_0)
                      obtain rfl : ad197 = ad222 := (by injection e222)
                      (try simp only [show (7 : Int).toNat = 7 from rfl, Nat.reduceMul, Nat.reduceEqDiff, Go.Addr.add, ↓reduceIte] at hx222_0)
                      have qi222 : (7 < l0.length) = True := eq_true (by omega)
                      (try rw [show ((7 : Int)).toNat = 7 from rfl] at hx222_0)
                      replace hx222_0 := (HB.out.cell (World.block_lt_of_cell? w _ hx222_0)).trans hx222_0
                      replace p222 := eq_true p222
                      replace q222 := eq_true q222
                      refine start_ (n := 37) (S := fun w' => w'.cell? ⟨gb217, 0, none⟩ = some (.int .u32 t210) ∧ w'.cell? ⟨gb217, 1, none⟩ = some (.int .u32 t211) ∧ w'.cell? ⟨gb217, 2, none⟩ = some (.int .u8 t212) ∧ w'.cell? ⟨gb217, 3, none⟩ = some (.int .u8 t213) ∧ w'.cell? ⟨gb217, 4, none⟩ = some (.int .u16 t214) ∧ w'.cell? ⟨gb217, 5, none⟩ = some (.bool false) ∧ w'.cell? ⟨ad197.block, ad197.off + 1, none⟩ = some (.int .u8 (rd l0 1)) ∧ w'.cell? ⟨ad197.block, ad197.off + 6, none⟩ = some (.int .u8 (rd l0 6)) ∧ w'.cell? ⟨ad197.block, ad197.off + 7, none⟩ = some (.int .u8 (rd l0 7))) (ds := []) #[false, false, false, false, false, false, false, false, false, false, false, false, false, false, false, false, false, false, false, false, false, false, false, false, false, false, false, false, false, false, false, false, false, false, false, false, false] (by kernel_rfl) rfl rfl ⟨(blk_cell BK217.out 0).trans rfl, (blk_cell BK217.out 1).trans rfl, (blk_cell BK217.out 2).trans rfl, (blk_cell BK217.out 3).trans rfl, (blk_cell BK217.out 4).trans rfl, (blk_cell BK217.out 5).trans rfl, ((HB.out.cell (World.block_lt_of_cell? w _ hw220_0)).trans hw220_0), ((HB.out.cell (World.block_lt_of_cell? w _ hw221_0)).trans hw221_0), ((HB.out.cell (World.block_lt_of_cell? w _ hw222_0)).trans hw222_0)⟩ (fun hHeld => ?_); refine with_tabW ip_Decode.tab12 ip_Decode.bits12 (fun HT_ HW_ => ?_)
                      generalize w32.drew = w59 at BK174 BK217 HB hx220_0 hx221_0 hx222_0 hHeld ⊢
                      refine pu 0 72 (bb 37 1) rfl rfl (any_of HT_.out (by kernel_rfl)) (fun _ _ _ h => h) (by rfl) (fun w' => by go_simp; with_reducible rfl) (by simp only [Act.put, sA, sB, sC, i64_w, i32_w]; rfl) ?_
                      refine pu 1 73 (bb 37 3) rfl rfl (any_of HT_.out (by kernel_rfl)) (fun _ _ _ h => h) (by rfl) (fun w' => by go_simp; with_reducible rfl) (by simp only [Act.put, sA, sB, sC, i64_w, i32_w]; rfl) ?_
                      refine take_ (i := 2) (N := some 74) (v := ?_) (a' := ?_) (bb 37 7) rfl rfl (take_ofW HT_.out HW_.out (by kernel_rfl)) (fun _ _ _ h => h) (Or.inl ⟨by rfl, ?_⟩) hHeld ?_ ?_
                      rotate_left
                      · rintro w' ⟨s0, s1, s2, s3, s4, s5, s6, s7, s8⟩
                        go_simp
                        with_reducible rfl
                      rotate_left
                      · simp only [Act.put, sA, sB, sC, i64_w, i32_w]
                        rfl
                      refine pu 3 75 (bb 37 15) rfl rfl (any_of HT_.out (by kernel_rfl)) (fun _ _ _ h => h) (by rfl) (fun w' => by go_simp; with_reducible rfl) (by simp only [Act.put, sA, sB, sC, i64_w, i32_w]; rfl) ?_
                      refine pu 4 76 (bb 37 31) rfl rfl (any_of HT_.out (by kernel_rfl)) (fun _ _ _ h => h) (by rfl) (fun w' => by go_simp; with_reducible rfl) (by simp only [Act.put, sA, sB, sC, i64_w, i32_w]; rfl) ?_
                      refine pu 5 77 (bb 37 63) rfl rfl (any_of HT_.out (by kernel_rfl)) (fun _ _ _ h => h) (by rfl) (fun w' => by go_simp; with_reducible rfl) (by simp only [Act.put, sA, sB, sC, i64_w, i32_w]; rfl) ?_
                      refine pu 6 78 (bb 37 127) rfl rfl (any_of HT_.out (by kernel_rfl)) (fun _ _ _ h => h) (by rfl) (fun w' => by go_simp; with_reducible rfl) (by simp only [Act.put, sA, sB, sC, i64_w, i32_w]; rfl) ?_
                      refine take_ (i := 7) (N := some 79) (v := ?_) (a' := ?_) (bb 37 255) rfl rfl (take_ofW HT_.out HW_.out (by kernel_rfl)) (fun _ _ _ h => h) (Or.inl ⟨by rfl, ?_⟩) hHeld ?_ ?_
                      rotate_left
                      · rintro w' ⟨s0, s1, s2, s3, s4, s5, s6, s7, s8⟩
                        go_simp
                        with_reducible rfl
                      rotate_left
                      · simp only [Act.put, sA, sB, sC, i64_w, i32_w]
                        rfl
                      refine pu 8 80 (bb 37 511) rfl rfl (any_of HT_.out (by kernel_rfl)) (fun _ _ _ h => h) (by rfl) (fun w' => by go_simp; with_reducible rfl) (by simp only [Act.put, sA, sB, sC, i64_w, i32_w]; rfl) ?_
                      refine pu 9 81 (bb 37 1023) rfl rfl (any_of HT_.out (by kernel_rfl)) (fun _ _ _ h => h) (by rfl) (fun w' => by go_simp; with_reducible rfl) (by simp only [Act.put, sA, sB, sC, i64_w, i32_w]; rfl) ?_
                      refine pu 10 82 (bb 37 2047) rfl rfl (any_of HT_.out (by kernel_rfl)) (fun _ _ _ h => h) (by rfl) (fun w' => by go_simp; with_reducible rfl) (by simp only [Act.put, sA, sB, sC, i64_w, i32_w]; rfl) ?_
                      refine pu 11 83 (bb 37 4095) rfl rfl (any_of HT_.out (by kernel_rfl)) (fun _ _ _ h => h) (by rfl) (fun w' => by go_simp; with_reducible rfl) (by simp only [Act.put, sA, sB, sC, i64_w, i32_w]; rfl) ?_
                      refine pu 12 84 (bb 37 8191) rfl rfl (any_of HT_.out (by kernel_rfl)) (fun _ _ _ h => h) (by rfl) (fun w' => by go_simp; with_reducible rfl) (by simp only [Act.put, sA, sB, sC, i64_w, i32_w]; rfl) ?_
                      refine take_ (i := 13) (N := some 85) (v := ?_) (a' := ?_) (bb 37 16383) rfl rfl (take_ofW HT_.out HW_.out (by kernel_rfl)) (fun _ _ _ h => h) (Or.inl ⟨by rfl, ?_⟩) hHeld ?_ ?_
                      rotate_left
                      · rintro w' ⟨s0, s1, s2, s3, s4, s5, s6, s7, s8⟩
                        go_simp
                        with_reducible rfl
                      rotate_left
                      · simp only [Act.put, sA, sB, sC, i64_w, i32_w]
                        rfl
                      refine pu 14 86 (bb 37 32767) rfl rfl (any_of HT_.out (by kernel_rfl)) (fun _ _ _ h => h) (by rfl) (fun w' => by go_simp; with_reducible rfl) (by simp only [Act.put, sA, sB, sC, i64_w, i32_w]; rfl) ?_
                      refine pu 15 87 (bb 37 65535) rfl rfl (any_of HT_.out (by kernel_rfl)) (fun _ _ _ h => h) (by rfl) (fun w' => by go_simp; with_reducible rfl) (by simp only [Act.put, sA, sB, sC, i64_w, i32_w]; rfl) ?_
                      refine pu 16 88 (bb 37 131071) rfl rfl (any_of HT_.out (by kernel_rfl)) (fun _ _ _ h => h) (by rfl) (fun w' => by go_simp; with_reducible rfl) (by simp only [Act.put, sA, sB, sC, i64_w, i32_w]; rfl) ?_
                      refine pu 17 89 (bb 37 262143) rfl rfl (any_of HT_.out (by kernel_rfl)) (fun _ _ _ h => h) (by rfl) (fun w' => by go_simp; with_reducible rfl) (by simp only [Act.put, sA, sB, sC, i64_w, i32_w]; rfl) ?_
                      refine take_ (i := 18) (N := some 90) (v := ?_) (a' := ?_) (bb 37 524287) rfl rfl (take_ofW HT_.out HW_.out (by kernel_rfl)) (fun _ _ _ h => h) (Or.inl ⟨by rfl, ?_⟩) hHeld ?_ ?_
                      rotate_left
                      · rintro w' ⟨s0, s1, s2, s3, s4, s5, s6, s7, s8⟩
                        go_simp
                        with_reducible rfl
                      rotate_left
                      · simp only [Act.put, sA, sB, sC, i64_w, i32_w]
                        rfl
                      refine pu 19 91 (bb 37 1048575) rfl rfl (any_of HT_.out (by kernel_rfl)) (fun _ _ _ h => h) (by rfl) (fun w' => by go_simp; with_reducible rfl) (by simp only [Act.put, sA, sB, sC, i64_w, i32_w]; rfl) ?_
                      refine pure_ (i := 20) (N := some 92) (v := undef) (a' := ?_) (bb 37 2097151) rfl rfl (any_of HT_.out (by kernel_rfl)) (fun _ _ _ h => h) (Or.inr ⟨by rfl, rfl⟩) ?_ ?_
                      rotate_left
                      · simp only [Act.put, sA, sB, sC, i64_w, i32_w]
                        rfl
                      refine pure_ (i := 21) (N := some 93) (v := undef) (a' := ?_) (bb 37 4194303) rfl rfl (any_of HT_.out (by kernel_rfl)) (fun _ _ _ h => h) (Or.inr ⟨by rfl, rfl⟩) ?_ ?_
                      rotate_left
                      · simp only [Act.put, sA, sB, sC, i64_w, i32_w]
                        rfl
                      refine pure_ (i := 22) (N := some 94) (v := undef) (a' := ?_) (bb 37 8388607) rfl rfl (any_of HT_.out (by kernel_rfl)) (fun _ _ _ h => h) (Or.inr ⟨by rfl, rfl⟩) ?_ ?_
                      rotate_left
                      · simp only [Act.put, sA, sB, sC, i64_w, i32_w]
                        rfl
                      refine pure_ (i := 23) (N := some 95) (v := undef) (a' := ?_) (bb 37 16777215) rfl rfl (any_of HT_.out (by kernel_rfl)) (fun _ _ _ h => h) (Or.inr ⟨by rfl, rfl⟩) ?_ ?_
                      rotate_left
                      · simp only [Act.put, sA, sB, sC, i64_w, i32_w]
                        rfl
                      refine pure_ (i := 24) (N := some 96) (v := undef) (a' := ?_) (bb 37 33554431) rfl rfl (any_of HT_.out (by kernel_rfl)) (fun _ _ _ h => h) (Or.inr ⟨by rfl, rfl⟩) ?_ ?_
                      rotate_left
                      · simp only [Act.put, sA, sB, sC, i64_w, i32_w]
                        rfl
                      refine pu 25 97 (bb 37 67108863) rfl rfl (any_of HT_.out (by kernel_rfl)) (fun _ _ _ h => h) (by rfl) (fun w' => by go_simp; with_reducible rfl) (by simp only [Act.put, sA, sB, sC, i64_w, i32_w]; rfl) ?_
                      refine pu 26 98 (bb 37 134217727) rfl rfl (any_of HT_.out (by kernel_rfl)) (fun _ _ _ h => h) (by rfl) (fun w' => by go_simp; with_reducible rfl) (by simp only [Act.put, sA, sB, sC, i64_w, i32_w]; rfl) ?_
                      refine pu 27 99 (bb 37 268435455) rfl rfl (any_of HT_.out (by kernel_rfl)) (fun _ _ _ h => h) (by rfl) (fun w' => by go_simp; with_reducible rfl) (by simp only [Act.put, sA, sB, sC, i64_w, i32_w]; rfl) ?_
                      refine pu 28 100 (bb 37 536870911) rfl rfl (any_of HT_.out (by kernel_rfl)) (fun _ _ _ h => h) (by rfl) (fun w' => by go_simp; with_reducible rfl) (by simp only [Act.put, sA, sB, sC, i64_w, i32_w]; rfl) ?_
                      refine pu 29 101 (bb 37 1073741823) rfl rfl (any_of HT_.out (by kernel_rfl)) (fun _ _ _ h => h) (by rfl) (fun w' => by go_simp; with_reducible rfl) (by simp only [Act.put, sA, sB, sC, i64_w, i32_w]; rfl) ?_
                      refine pu 30 102 (bb 37 2147483647) rfl rfl (any_of HT_.out (by kernel_rfl)) (fun _ _ _ h => h) (by rfl) (fun w' => by go_simp; with_reducible rfl) (by simp only [Act.put, sA, sB, sC, i64_w, i32_w]; rfl) ?_
                      refine pu 31 103 (bb 37 4294967295) rfl rfl (any_of HT_.out (by kernel_rfl)) (fun _ _ _ h => h) (by rfl) (fun w' => by go_simp; with_reducible rfl) (by simp only [Act.put, sA, sB, sC, i64_w, i32_w]; rfl) ?_
                      refine pu 32 104 (bb 37 8589934591) rfl rfl (any_of HT_.out (by kernel_rfl)) (fun _ _ _ h => h) (by rfl) (fun w' => by go_simp; with_reducible rfl) (by simp only [Act.put, sA, sB, sC, i64_w, i32_w]; rfl) ?_
                      refine pure_ (i := 33) (N := some 105) (v := undef) (a' := ?_) (bb 37 17179869183) rfl rfl (any_of HT_.out (by kernel_rfl)) (fun _ _ _ h => h) (Or.inr ⟨by rfl, rfl⟩) ?_ ?_
                      rotate_left
                      · simp only [Act.put, sA, sB, sC, i64_w, i32_w]
                        rfl
                      refine pure_ (i := 34) (N := some 106) (v := undef) (a' := ?_) (bb 37 34359738367) rfl rfl (any_of HT_.out (by kernel_rfl)) (fun _ _ _ h => h) (Or.inr ⟨by rfl, rfl⟩) ?_ ?_
                      rotate_left
                      · simp only [Act.put, sA, sB, sC, i64_w, i32_w]
                        rfl
                      refine pu 35 107 (bb 37 68719476735) rfl rfl (any_of HT_.out (by kernel_rfl)) (fun _ _ _ h => h) (by rfl) (fun w' => by go_simp; with_reducible rfl) (by simp only [Act.put, sA, sB, sC, i64_w, i32_w]; rfl) ?_
                      refine pu 36 71 (bb 37 137438953471) rfl rfl (any_of HT_.out (by kernel_rfl)) (fun _ _ _ h => h) (by rfl) (fun w' => by go_simp; with_reducible rfl) (by simp only [Act.put, sA, sB, sC, i64_w, i32_w]; rfl) ?_
                      refine done_ (done_of HT_.out (by kernel_rfl)) ?_
                      try go_wp2
                      go_meet
                      case rel => exact ⟨_, (true), (by first | rfl | (simp; done) | (simp [*]; done)), H', ⟨by have := HJ6.out; first | omega | exact Nat.le_refl _⟩, ⟨by (with_reducible repeat (first | refine blk_drewN ?_ _ | refine blk_drew ?_ | refine blk_alloc ?_ _)); exact BK174.out⟩, ⟨by (with_reducible repeat (first | refine blk_drewN ?_ _ | refine blk_drew ?_ | refine blk_alloc ?_ _)); exact BK217.out⟩, ⟨by repeat (first | (with_reducible first | exact HB.out | apply below_alloc | apply pw_below_drewN | apply below_drew1 | refine below_set ?_ GE174.out | refine below_set ?_ GE217.out) | exact HB.out)⟩⟩
                    · rw [if_neg c58] at H
                      have c58b0 : decide (t216 < t198) = false := decide_eq_false c58
                      clear c58
                      have H' := Aside0.mk H
                      clear H
                      try go_wp2
                      have n0_ := Aside0.mk (blk_drew BK174.out)
                      have n1_ := Aside0.mk (blk_drew BK217.out)
                      have n2_ := Aside0.mk (below_drew1 HB.out)
                      clear BK174
                      clear BK217
                      clear HB
                      have BK174 := n0_
                      have BK217 := n1_
                      have HB := n2_
                      clear n0_ n1_ n2_
                      have p220 : 0 ≤ (1 : Int) := (by omega)
                      have q220 : 1 < (l0.length : Int) := of_decide_eq_true (by first | (with_reducible assumption) | assumption)
                      obtain ⟨ad220, e220, hx220_0⟩ := Kd.at_int HR0.out 1 p220 q220
                      have hw220_0 := hx220_0
                      (try rw [show ((1 : Int)).toNat = 1 from rfl] at hw220_0)
                      (try rw [show 1 * 1 = 1 from rfl] at hw220_0)
                      (try simp only [Nat.reduceMul, Nat.reduceEqDiff, Go.Addr.add, ↓reduceIte] at hw220_0)
                      obtain rfl : ad197 = ad220 := (by injection e220)
                      (try simp only [show (1 : Int).toNat = 1 from rfl, Nat.reduceMul, Nat.reduceEqDiff, Go.Addr.add, ↓reduceIte] at hx220_0)
                      have qi220 : (1 < l0.length) = True := eq_true (by omega)
                      (try rw [show ((1 : Int)).toNat = 1 from rfl] at hx220_0)
                      replace hx220_0 := (HB.out.cell (World.block_lt_of_cell? w _ hx220_0)).trans hx220_0
                      replace p220 := eq_true p220
                      replace q220 := eq_true q220
                      have p221 : 0 ≤ (6 : Int) := (by omega)
                      have q221 : 6 < (l0.length : Int) := of_decide_eq_true (by first | (with_reducible assumption) | assumption)
                      obtain ⟨ad221, e221, hx221_0⟩ := Kd.at_int HR0.out 6 p221 q221
                      have hw221_0 := hx221_0
                      (try rw [show ((6 : Int)).toNat = 6 from rfl] at hw221_0)
                      (try rw [show 6 * 1 = 6 from rfl] at hw221_0)
                      (try simp only [Nat.reduceMul, Nat.reduceEqDiff, Go.Addr.add, ↓reduceIte] at hw221_0)
                      obtain rfl : ad197 = ad221 := (by injection e221)
                      (try simp only [show (6 : Int).toNat = 6 from rfl, Nat.reduceMul, Nat.reduceEqDiff, Go.Addr.add, ↓reduceIte] at hx221_0)
                      have qi221 : (6 < l0.length) = True := eq_true (by omega)
                      (try rw [show ((6 : Int)).toNat = 6 from rfl] at hx221_0)
                      replace hx221_0 := (HB.out.cell (World.block_lt_of_cell? w _ hx221_0)).trans hx221_0
                      replace p221 := eq_true p221
                      replace q221 := eq_true q221
                      have p222 : 0 ≤ (7 : Int) := (by omega)
                      have q222 : 7 < (l0.length : Int) := of_decide_eq_true (by first | (with_reducible assumption) | assumption)
                      obtain ⟨ad222, e222, hx222_0⟩ := Kd.at_int HR0.out 7 p222 q222
                      have hw222_0 := hx222_0
                      (try rw [show ((7 : Int)).toNat = 7 from rfl] at hw222_0)
                      (try rw [show 7 * 1 = 7 from rfl] at hw222_0)
                      (try simp only [Nat.reduceMul, Nat.reduceEqDiff, Go.Addr.add, ↓reduceIte] at hw222_0)
                      obtain rfl : ad197 = ad222 := (by injection e222)
                      (try simp only [show (7 : Int).toNat = 7 from rfl, Nat.reduceMul, Nat.reduceEqDiff, Go.Addr.add, ↓reduceIte] at hx222_0)
                      have qi222 : (7 < l0.length) = True := eq_true (by omega)
                      (try rw [show ((7 : Int)).toNat = 7 from rfl] at hx222_0)
                      replace hx222_0 := (HB.out.cell (World.block_lt_of_cell? w _ hx222_0)).trans hx222_0
                      replace p222 := eq_true p222
                      replace q222 := eq_true q222
                      refine start_ (n := 37) (S := fun w' => w'.cell? ⟨gb217, 0, none⟩ = some (.int .u32 t210) ∧ w'.cell? ⟨gb217, 1, none⟩ = some (.int .u32 t211) ∧ w'.cell? ⟨gb217, 2, none⟩ = some (.int .u8 t212) ∧ w'.cell? ⟨gb217, 3, none⟩ = some (.int .u8 t213) ∧ w'.cell? ⟨gb217, 4, none⟩ = some (.int .u16 t214) ∧ w'.cell? ⟨gb217, 5, none⟩ = some (.bool false) ∧ w'.cell? ⟨ad197.block, ad197.off + 1, none⟩ = some (.int .u8 (rd l0 1)) ∧ w'.cell? ⟨ad197.block, ad197.off + 6, none⟩ = some (.int .u8 (rd l0 6)) ∧ w'.cell? ⟨ad197.block, ad197.off + 7, none⟩ = some (.int .u8 (rd l0 7))) (ds := []) #[false, false, false, false, false, false, false, false, false, false, false, false, false, false, false, false, false, false, false, false, false, false, false, false, false, false, false, false, false, false, false, false, false, false, false, false, false] (by kernel_rfl) rfl rfl ⟨(blk_cell BK217.out 0).trans rfl, (blk_cell BK217.out 1).trans rfl, (blk_cell BK217.out 2).trans rfl, (blk_cell BK217.out 3).trans rfl, (blk_cell BK217.out 4).trans rfl, (blk_cell BK217.out 5).trans rfl, ((HB.out.cell (World.block_lt_of_cell? w _ hw220_0)).trans hw220_0), ((HB.out.cell (World.block_lt_of_cell? w _ hw221_0)).trans hw221_0), ((HB.out.cell (World.block_lt_of_cell? w _ hw222_0)).trans hw222_0)⟩ (fun hHeld => ?_); refine with_tabW ip_Decode.tab12 ip_Decode.bits12 (fun HT_ HW_ => ?_)
                      generalize w32.drew = w60 at BK174 BK217 HB hx220_0 hx221_0 hx222_0 hHeld ⊢
                      refine pu 0 72 (bb 37 1) rfl rfl (any_of HT_.out (by kernel_rfl)) (fun _ _ _ h => h) (by rfl) (fun w' => by go_simp; with_reducible rfl) (by simp only [Act.put, sA, sB, sC, i64_w, i32_w]; rfl) ?_
                      refine pu 1 73 (bb 37 3) rfl rfl (any_of HT_.out (by kernel_rfl)) (fun _ _ _ h => h) (by rfl) (fun w' => by go_simp; with_reducible rfl) (by simp only [Act.put, sA, sB, sC, i64_w, i32_w]; rfl) ?_
                      refine take_ (i := 2) (N := some 74) (v := ?_) (a' := ?_) (bb 37 7) rfl rfl (take_ofW HT_.out HW_.out (by kernel_rfl)) (fun _ _ _ h => h) (Or.inl ⟨by rfl, ?_⟩) hHeld ?_ ?_
                      rotate_left
                      · rintro w' ⟨s0, s1, s2, s3, s4, s5, s6, s7, s8⟩
                        go_simp
                        with_reducible rfl
                      rotate_left
                      · simp only [Act.put, sA, sB, sC, i64_w, i32_w]
                        rfl
                      refine pu 3 75 (bb 37 15) rfl rfl (any_of HT_.out (by kernel_rfl)) (fun _ _ _ h => h) (by rfl) (fun w' => by go_simp; with_reducible rfl) (by simp only [Act.put, sA, sB, sC, i64_w, i32_w]; rfl) ?_
                      refine pu 4 76 (bb 37 31) rfl rfl (any_of HT_.out (by kernel_rfl)) (fun _ _ _ h => h) (by rfl) (fun w' => by go_simp; with_reducible rfl) (by simp only [Act.put, sA, sB, sC, i64_w, i32_w]; rfl) ?_
                      refine pu 5 77 (bb 37 63) rfl rfl (any_of HT_.out (by kernel_rfl)) (fun _ _ _ h => h) (by rfl) (fun w' => by go_simp; with_reducible rfl) (by simp only [Act.put, sA, sB, sC, i64_w, i32_w]; rfl) ?_
                      refine pu 6 78 (bb 37 127) rfl rfl (any_of HT_.out (by kernel_rfl)) (fun _ _ _ h => h) (by rfl) (fun w' => by go_simp; with_reducible rfl) (by simp only [Act.put, sA, sB, sC, i64_w, i32_w]; rfl) ?_
                      refine take_ (i := 7) (N := some 79) (v := ?_) (a' := ?_) (bb 37 255) rfl rfl (take_ofW HT_.out HW_.out (by kernel_rfl)) (fun _ _ _ h => h) (Or.inl ⟨by rfl, ?_⟩) hHeld ?_ ?_
                      rotate_left
                      · rintro w' ⟨s0, s1, s2, s3, s4, s5, s6, s7, s8⟩
                        go_simp
                        with_reducible rfl
                      rotate_left
                      · simp only [Act.put, sA, sB, sC, i64_w, i32_w]
                        rfl
                      refine pu 8 80 (bb 37 511) rfl rfl (any_of HT_.out (by kernel_rfl)) (fun _ _ _ h => h) (by rfl) (fun w' => by go_simp; with_reducible rfl) (by simp only [Act.put, sA, sB, sC, i64_w, i32_w]; rfl) ?_
                      refine pu 9 81 (bb 37 1023) rfl rfl (any_of HT_.out (by kernel_rfl)) (fun _ _ _ h => h) (by rfl) (fun w' => by go_simp; with_reducible rfl) (by simp only [Act.put, sA, sB, sC, i64_w, i32_w]; rfl) ?_
                      refine pu 10 82 (bb 37 2047) rfl rfl (any_of HT_.out (by kernel_rfl)) (fun _ _ _ h => h) (by rfl) (fun w' => by go_simp; with_reducible rfl) (by simp only [Act.put, sA, sB, sC, i64_w, i32_w]; rfl) ?_
                      refine pu 11 83 (bb 37 4095) rfl rfl (any_of HT_.out (by kernel_rfl)) (fun _ _ _ h => h) (by rfl) (fun w' => by go_simp; with_reducible rfl) (by simp only [Act.put, sA, sB, sC, i64_w, i32_w]; rfl) ?_
                      refine pu 12 84 (bb 37 8191) rfl rfl (any_of HT_.out (by kernel_rfl)) (fun _ _ _ h => h) (by rfl) (fun w' => by go_simp; with_reducible rfl) (by simp only [Act.put, sA, sB, sC, i64_w, i32_w]; rfl) ?_
                      refine take_ (i := 13) (N := some 85) (v := ?_) (a' := ?_) (bb 37 16383) rfl rfl (take_ofW HT_.out HW_.out (by kernel_rfl)) (fun _ _ _ h => h) (Or.inl ⟨by rfl, ?_⟩) hHeld ?_ ?_
                      rotate_left
                      · rintro w' ⟨s0, s1, s2, s3, s4, s5, s6, s7, s8⟩
                        go_simp
                        with_reducible rfl
                      rotate_left
                      · simp only [Act.put, sA, sB, sC, i64_w, i32_w]
                        rfl
                      refine pu 14 86 (bb 37 32767) rfl rfl (any_of HT_.out (by kernel_rfl)) (fun _ _ _ h => h) (by rfl) (fun w' => by go_simp; with_reducible rfl) (by simp only [Act.put, sA, sB, sC, i64_w, i32_w]; rfl) ?_
                      refine pu 15 87 (bb 37 65535) rfl rfl (any_of HT_.out (by kernel_rfl)) (fun _ _ _ h => h) (by rfl) (fun w' => by go_simp; with_reducible rfl) (by simp only [Act.put, sA, sB, sC, i64_w, i32_w]; rfl) ?_
                      refine pu 16 88 (bb 37 131071) rfl rfl (any_of HT_.out (by kernel_rfl)) (fun _ _ _ h => h) (by rfl) (fun w' => by go_simp; with_reducible rfl) (by simp only [Act.put, sA, sB, sC, i64_w, i32_w]; rfl) ?_
                      refine pu 17 89 (bb 37 262143) rfl rfl (any_of HT_.out (by kernel_rfl)) (fun _ _ _ h => h) (by rfl) (fun w' => by go_simp; with_reducible rfl) (by simp only [Act.put, sA, sB, sC, i64_w, i32_w]; rfl) ?_
                      refine take_ (i := 18) (N := some 90) (v := ?_) (a' := ?_) (bb 37 524287) rfl rfl (take_ofW HT_.out HW_.out (by kernel_rfl)) (fun _ _ _ h => h) (Or.inl ⟨by rfl, ?_⟩) hHeld ?_ ?_
                      rotate_left
                      · rintro w' ⟨s0, s1, s2, s3, s4, s5, s6, s7, s8⟩
                        go_simp
                        with_reducible rfl
                      rotate_left
                      · simp only [Act.put, sA, sB, sC, i64_w, i32_w]
                        rfl
                      refine pu 19 91 (bb 37 1048575) rfl rfl (any_of HT_.out (by kernel_rfl)) (fun _ _ _ h => h) (by rfl) (fun w' => by go_simp; with_reducible rfl) (by simp only [Act.put, sA, sB, sC, i64_w, i32_w]; rfl) ?_
                      refine pure_ (i := 20) (N := some 92) (v := undef) (a' := ?_) (bb 37 2097151) rfl rfl (any_of HT_.out (by kernel_rfl)) (fun _ _ _ h => h) (Or.inr ⟨by rfl, rfl⟩) ?_ ?_
                      rotate_left
                      · simp only [Act.put, sA, sB, sC, i64_w, i32_w]
                        rfl
                      refine pure_ (i := 21) (N := some 93) (v := undef) (a' := ?_) (bb 37 4194303) rfl rfl (any_of HT_.out (by kernel_rfl)) (fun _ _ _ h => h) (Or.inr ⟨by rfl, rfl⟩) ?_ ?_
                      rotate_left
                      · simp only [Act.put, sA, sB, sC, i64_w, i32_w]
                        rfl
                      refine pure_ (i := 22) (N := some 94) (v := undef) (a' := ?_) (bb 37 8388607) rfl rfl (any_of HT_.out (by kernel_rfl)) (fun _ _ _ h => h) (Or.inr ⟨by rfl, rfl⟩) ?_ ?_
                      rotate_left
                      · simp only [Act.put, sA, sB, sC, i64_w, i32_w]
                        rfl
                      refine pure_ (i := 23) (N := some 95) (v := undef) (a' := ?_) (bb 37 16777215) rfl rfl (any_of HT_.out (by kernel_rfl)) (fun _ _ _ h => h) (Or.inr ⟨by rfl, rfl⟩) ?_ ?_
                      rotate_left
                      · simp only [Act.put, sA, sB, sC, i64_w, i32_w]
                        rfl
                      refine pure_ (i := 24) (N := some 96) (v := undef) (a' := ?_) (bb 37 33554431) rfl rfl (any_of HT_.out (by kernel_rfl)) (fun _ _ _ h => h) (Or.inr ⟨by rfl, rfl⟩) ?_ ?_
                      rotate_left
                      · simp only [Act.put, sA, sB, sC, i64_w, i32_w]
                        rfl
                      refine pu 25 97 (bb 37 67108863) rfl rfl (any_of HT_.out (by kernel_rfl)) (fun _ _ _ h => h) (by rfl) (fun w' => by go_simp; with_reducible rfl) (by simp only [Act.put, sA, sB, sC, i64_w, i32_w]; rfl) ?_
                      refine pu 26 98 (bb 37 134217727) rfl rfl (any_of HT_.out (by kernel_rfl)) (fun _ _ _ h => h) (by rfl) (fun w' => by go_simp; with_reducible rfl) (by simp only [Act.put, sA, sB, sC, i64_w, i32_w]; rfl) ?_
                      refine pu 27 99 (bb 37 268435455) rfl rfl (any_of HT_.out (by kernel_rfl)) (fun _ _ _ h => h) (by rfl) (fun w' => by go_simp; with_reducible rfl) (by simp only [Act.put, sA, sB, sC, i64_w, i32_w]; rfl) ?_
                      refine pu 28 100 (bb 37 536870911) rfl rfl (any_of HT_.out (by kernel_rfl)) (fun _ _ _ h => h) (by rfl) (fun w' => by go_simp; with_reducible rfl) (by simp only [Act.put, sA, sB, sC, i64_w, i32_w]; rfl) ?_
                      refine pu 29 101 (bb 37 1073741823) rfl rfl (any_of HT_.out (by kernel_rfl)) (fun _ _ _ h => h) (by rfl) (fun w' => by go_simp; with_reducible rfl) (by simp only [Act.put, sA, sB, sC, i64_w, i32_w]; rfl) ?_
                      refine pu 30 102 (bb 37 2147483647) rfl rfl (any_of HT_.out (by kernel_rfl)) (fun _ _ _ h => h) (by rfl) (fun w' => by go_simp; with_reducible rfl) (by simp only [Act.put, sA, sB, sC, i64_w, i32_w]; rfl) ?_
                      refine pu 31 103 (bb 37 4294967295) rfl rfl (any_of HT_.out (by kernel_rfl)) (fun _ _ _ h => h) (by rfl) (fun w' => by go_simp; with_reducible rfl) (by simp only [Act.put, sA, sB, sC, i64_w, i32_w]; rfl) ?_
                      refine pu 32 104 (bb 37 8589934591) rfl rfl (any_of HT_.out (by kernel_rfl)) (fun _ _ _ h => h) (by rfl) (fun w' => by go_simp; with_reducible rfl) (by simp only [Act.put, sA, sB, sC, i64_w, i32_w]; rfl) ?_
                      refine pu 33 105 (bb 37 17179869183) rfl rfl (any_of HT_.out (by kernel_rfl)) (fun _ _ _ h => h) (by rfl) (fun w' => by go_simp; with_reducible rfl) (by simp only [Act.put, sA, sB, sC, i64_w, i32_w]; rfl) ?_
                      refine pu 34 106 (bb 37 34359738367) rfl rfl (any_of HT_.out (by kernel_rfl)) (fun _ _ _ h => h) (by rfl) (fun w' => by go_simp; with_reducible rfl) (by simp only [Act.put, sA, sB, sC, i64_w, i32_w]; rfl) ?_
                      refine pu 35 107 (bb 37 68719476735) rfl rfl (any_of HT_.out (by kernel_rfl)) (fun _ _ _ h => h) (by rfl) (fun w' => by go_simp; with_reducible rfl) (by simp only [Act.put, sA, sB, sC, i64_w, i32_w]; rfl) ?_
                      refine pu 36 71 (bb 37 137438953471) rfl rfl (any_of HT_.out (by kernel_rfl)) (fun _ _ _ h => h) (by rfl) (fun w' => by go_simp; with_reducible rfl) (by simp only [Act.put, sA, sB, sC, i64_w, i32_w]; rfl) ?_
                      refine done_ (done_of HT_.out (by kernel_rfl)) ?_
                      try go_wp2
                      go_meet
                      case rel => exact ⟨_, (decide (t216 > 1500)), (by first | rfl | (simp; done) | (simp [*]; done)), H', ⟨by have := HJ6.out; first | omega | exact Nat.le_refl _⟩, ⟨by (with_reducible repeat (first | refine blk_drewN ?_ _ | refine blk_drew ?_ | refine blk_alloc ?_ _)); exact BK174.out⟩, ⟨by (with_reducible repeat (first | refine blk_drewN ?_ _ | refine blk_drew ?_ | refine blk_alloc ?_ _)); exact BK217.out⟩, ⟨by repeat (first | (with_reducible first | exact HB.out | apply below_alloc | apply pw_below_drewN | apply below_drew1 | refine below_set ?_ GE174.out | refine below_set ?_ GE217.out) | exact HB.out)⟩⟩
                · rw [if_neg c38] at H
                  have c38b0 : ((rd l0 7) == 0) = false := beq_eq_false_iff_ne.mpr c38
                  have c38b1 : ((rd l0 7) != 0) = true := bne_iff_ne.mpr c38
                  have H' := Aside0.mk H
                  clear H
                  try go_wp2
                  have n0_ := Aside0.mk (blk_drew BK174.out)
                  have n1_ := Aside0.mk (blk_drew BK217.out)
                  have n2_ := Aside0.mk (below_drew1 HB.out)
                  clear BK174
                  clear BK217
                  clear HB
                  have BK174 := n0_
                  have BK217 := n1_
                  have HB := n2_
                  clear n0_ n1_ n2_
                  have p220 : 0 ≤ (1 : Int) := (by omega)
                  have q220 : 1 < (l0.length : Int) := of_decide_eq_true (by first | (with_reducible assumption) | assumption)
                  obtain ⟨ad220, e220, hx220_0⟩ := Kd.at_int HR0.out 1 p220 q220
                  have hw220_0 := hx220_0
                  (try rw [show ((1 : Int)).toNat = 1 from rfl] at hw220_0)
                  (try rw [show 1 * 1 = 1 from rfl] at hw220_0)
                  (try simp only [Nat.reduceMul, Nat.reduceEqDiff, Go.Addr.add, ↓reduceIte] at hw220_0)
                  obtain rfl : ad197 = ad220 := (by injection e220)
                  (try simp only [show (1 : Int).toNat = 1 from rfl, Nat.reduceMul, Nat.reduceEqDiff, Go.Addr.add, ↓reduceIte] at hx220_0)
                  have qi220 : (1 < l0.length) = True := eq_true (by omega)
                  (try rw [show ((1 : Int)).toNat = 1 from rfl] at hx220_0)
                  replace hx220_0 := (HB.out.cell (World.block_lt_of_cell? w _ hx220_0)).trans hx220_0
                  replace p220 := eq_true p220
                  replace q220 := eq_true q220
                  have p221 : 0 ≤ (6 : Int) := (by omega)
                  have q221 : 6 < (l0.length : Int) := of_decide_eq_true (by first | (with_reducible assumption) | assumption)
                  obtain ⟨ad221, e221, hx221_0⟩ := Kd.at_int HR0.out 6 p221 q221
                  have hw221_0 := hx221_0
                  (try rw [show ((6 : Int)).toNat = 6 from rfl] at hw221_0)
                  (try rw [show 6 * 1 = 6 from rfl] at hw221_0)
                  (try simp only [Nat.reduceMul, Nat.reduceEqDiff, Go.Addr.add, ↓reduceIte] at hw221_0)
                  obtain rfl : ad197 = ad221 := (by injection e221)
                  (try simp only [show (6 : Int).toNat = 6 from rfl, Nat.reduceMul, Nat.reduceEqDiff, Go.Addr.add, ↓reduceIte] at hx221_0)
                  have qi221 : (6 < l0.length) = True := eq_true (by omega)
                  (try rw [show ((6 : Int)).toNat = 6 from rfl] at hx221_0)
                  replace hx221_0 := (HB.out.cell (World.block_lt_of_cell? w _ hx221_0)).trans hx221_0
                  replace p221 := eq_true p221
                  replace q221 := eq_true q221
                  have p222 : 0 ≤ (7 : Int) := (by omega)
                  have q222 : 7 < (l0.length : Int) := of_decide_eq_true (by first | (with_reducible assumption) | assumption)
                  obtain ⟨ad222, e222, hx222_0⟩ := Kd.at_int HR0.out 7 p222 q222
                  have hw222_0 := hx222_0
                  (try rw [show ((7 : Int)).toNat = 7 from rfl] at hw222_0)
                  (try rw [show 7 * 1 = 7 from rfl] at hw222_0)
                  (try simp only [Nat.reduceMul, Nat.reduceEqDiff, Go.Addr.add, ↓reduceIte] at hw222_0)
                  obtain rfl : ad197 = ad222 := (by injection e222)
                  (try simp only [show (7 : Int).toNat = 7 from rfl, Nat.reduceMul, Nat.reduceEqDiff, Go.Addr.add, ↓reduceIte] at hx222_0)
                  have qi222 : (7 < l0.length) = True := eq_true (by omega)
                  (try rw [show ((7 : Int)).toNat = 7 from rfl] at hx222_0)
                  replace hx222_0 := (HB.out.cell (World.block_lt_of_cell? w _ hx222_0)).trans hx222_0
                  replace p222 := eq_true p222
                  replace q222 := eq_true q222
                  refine start_ (n := 37) (S := fun w' => w'.cell? ⟨ad197.block, ad197.off + 1, none⟩ = some (.int .u8 (rd l0 1)) ∧ w'.cell? ⟨ad197.block, ad197.off + 6, none⟩ = some (.int .u8 (rd l0 6)) ∧ w'.cell? ⟨ad197.block, ad197.off + 7, none⟩ = some (.int .u8 (rd l0 7))) (ds := []) #[false, false, false, false, false, false, false, false, false, false, false, false, false, false, false, false, false, false, false, false, false, false, false, false, false, false, false, false, false, false, false, false, false, false, false, false, false] (by kernel_rfl) rfl rfl ⟨((HB.out.cell (World.block_lt_of_cell? w _ hw220_0)).trans hw220_0), ((HB.out.cell (World.block_lt_of_cell? w _ hw221_0)).trans hw221_0), ((HB.out.cell (World.block_lt_of_cell? w _ hw222_0)).trans hw222_0)⟩ (fun hHeld => ?_); refine with_tabW ip_Decode.tab12 ip_Decode.bits12 (fun HT_ HW_ => ?_)
                  generalize w32.drew = w61 at BK174 BK217 HB hx220_0 hx221_0 hx222_0 hHeld ⊢
                  refine pu 0 72 (bb 37 1) rfl rfl (any_of HT_.out (by kernel_rfl)) (fun _ _ _ h => h) (by rfl) (fun w' => by go_simp; with_reducible rfl) (by simp only [Act.put, sA, sB, sC, i64_w, i32_w]; rfl) ?_
                  refine pu 1 73 (bb 37 3) rfl rfl (any_of HT_.out (by kernel_rfl)) (fun _ _ _ h => h) (by rfl) (fun w' => by go_simp; with_reducible rfl) (by simp only [Act.put, sA, sB, sC, i64_w, i32_w]; rfl) ?_
                  refine take_ (i := 2) (N := some 74) (v := ?_) (a' := ?_) (bb 37 7) rfl rfl (take_ofW HT_.out HW_.out (by kernel_rfl)) (fun _ _ _ h => h) (Or.inl ⟨by rfl, ?_⟩) hHeld ?_ ?_
                  rotate_left
                  · rintro w' ⟨s0, s1, s2⟩
                    go_simp
                    with_reducible rfl
                  rotate_left
                  · simp only [Act.put, sA, sB, sC, i64_w, i32_w]
                    rfl
                  refine pu 3 75 (bb 37 15) rfl rfl (any_of HT_.out (by kernel_rfl)) (fun _ _ _ h => h) (by rfl) (fun w' => by go_simp; with_reducible rfl) (by simp only [Act.put, sA, sB, sC, i64_w, i32_w]; rfl) ?_
                  refine pu 4 76 (bb 37 31) rfl rfl (any_of HT_.out (by kernel_rfl)) (fun _ _ _ h => h) (by rfl) (fun w' => by go_simp; with_reducible rfl) (by simp only [Act.put, sA, sB, sC, i64_w, i32_w]; rfl) ?_
                  refine pu 5 77 (bb 37 63) rfl rfl (any_of HT_.out (by kernel_rfl)) (fun _ _ _ h => h) (by rfl) (fun w' => by go_simp; with_reducible rfl) (by simp only [Act.put, sA, sB, sC, i64_w, i32_w]; rfl) ?_
                  refine pu 6 78 (bb 37 127) rfl rfl (any_of HT_.out (by kernel_rfl)) (fun _ _ _ h => h) (by rfl) (fun w' => by go_simp; with_reducible rfl) (by simp only [Act.put, sA, sB, sC, i64_w, i32_w]; rfl) ?_
                  refine take_ (i := 7) (N := some 79) (v := ?_) (a' := ?_) (bb 37 255) rfl rfl (take_ofW HT_.out HW_.out (by kernel_rfl)) (fun _ _ _ h => h) (Or.inl ⟨by rfl, ?_⟩) hHeld ?_ ?_
                  rotate_left
                  · rintro w' ⟨s0, s1, s2⟩
                    go_simp
                    with_reducible rfl
                  rotate_left
                  · simp only [Act.put, sA, sB, sC, i64_w, i32_w]
                    rfl
                  refine pu 8 80 (bb 37 511) rfl rfl (any_of HT_.out (by kernel_rfl)) (fun _ _ _ h => h) (by rfl) (fun w' => by go_simp; with_reducible rfl) (by simp only [Act.put, sA, sB, sC, i64_w, i32_w]; rfl) ?_
                  refine pu 9 81 (bb 37 1023) rfl rfl (any_of HT_.out (by kernel_rfl)) (fun _ _ _ h => h) (by rfl) (fun w' => by go_simp; with_reducible rfl) (by simp only [Act.put, sA, sB, sC, i64_w, i32_w]; rfl) ?_
                  refine pu 10 82 (bb 37 2047) rfl rfl (any_of HT_.out (by kernel_rfl)) (fun _ _ _ h => h) (by rfl) (fun w' => by go_simp; with_reducible rfl) (by simp only [Act.put, sA, sB, sC, i64_w, i32_w]; rfl) ?_
                  refine pu 11 83 (bb 37 4095) rfl rfl (any_of HT_.out (by kernel_rfl)) (fun _ _ _ h => h) (by rfl) (fun w' => by go_simp; with_reducible rfl) (by simp only [Act.put, sA, sB, sC, i64_w, i32_w]; rfl) ?_
                  refine pu 12 84 (bb 37 8191) rfl rfl (any_of HT_.out (by kernel_rfl)) (fun _ _ _ h => h) (by rfl) (fun w' => by go_simp; with_reducible rfl) (by simp only [Act.put, sA, sB, sC, i64_w, i32_w]; rfl) ?_
                  refine take_ (i := 13) (N := some 85) (v := ?_) (a' := ?_) (bb 37 16383) rfl rfl (take_ofW HT_.out HW_.out (by kernel_rfl)) (fun _ _ _ h => h) (Or.inl ⟨by rfl, ?_⟩) hHeld ?_ ?_
                  rotate_left
                  · rintro w' ⟨s0, s1, s2⟩
                    go_simp
                    with_reducible rfl
                  rotate_left
                  · simp only [Act.put, sA, sB, sC, i64_w, i32_w]
                    rfl
                  refine pu 14 86 (bb 37 32767) rfl rfl (any_of HT_.out (by kernel_rfl)) (fun _ _ _ h => h) (by rfl) (fun w' => by go_simp; with_reducible rfl) (by simp only [Act.put, sA, sB, sC, i64_w, i32_w]; rfl) ?_
                  refine pu 15 87 (bb 37 65535) rfl rfl (any_of HT_.out (by kernel_rfl)) (fun _ _ _ h => h) (by rfl) (fun w' => by go_simp; with_reducible rfl) (by simp only [Act.put, sA, sB, sC, i64_w, i32_w]; rfl) ?_
                  refine pu 16 88 (bb 37 131071) rfl rfl (any_of HT_.out (by kernel_rfl)) (fun _ _ _ h => h) (by rfl) (fun w' => by go_simp; with_reducible rfl) (by simp only [Act.put, sA, sB, sC, i64_w, i32_w]; rfl) ?_
                  refine pure_ (i := 17) (N := some 89) (v := undef) (a' := ?_) (bb 37 262143) rfl rfl (any_of HT_.out (by kernel_rfl)) (fun _ _ _ h => h) (Or.inr ⟨by rfl, rfl⟩) ?_ ?_
                  rotate_left
                  · simp only [Act.put, sA, sB, sC, i64_w, i32_w]
                    rfl
                  refine pure_ (i := 18) (N := some 90) (v := undef) (a' := ?_) (bb 37 524287) rfl rfl (any_of HT_.out (by kernel_rfl)) (fun _ _ _ h => h) (Or.inr ⟨by rfl, rfl⟩) ?_ ?_
                  rotate_left
                  · simp only [Act.put, sA, sB, sC, i64_w, i32_w]
                    rfl
                  refine pure_ (i := 19) (N := some 91) (v := undef) (a' := ?_) (bb 37 1048575) rfl rfl (any_of HT_.out (by kernel_rfl)) (fun _ _ _ h => h) (Or.inr ⟨by rfl, rfl⟩) ?_ ?_
                  rotate_left
                  · simp only [Act.put, sA, sB, sC, i64_w, i32_w]
                    rfl
                  refine pure_ (i := 20) (N := some 92) (v := undef) (a' := ?_) (bb 37 2097151) rfl rfl (any_of HT_.out (by kernel_rfl)) (fun _ _ _ h => h) (Or.inr ⟨by rfl, rfl⟩) ?_ ?_
                  rotate_left
                  · simp only [Act.put, sA, sB, sC, i64_w, i32_w]
                    rfl
                  refine pure_ (i := 21) (N := some 93) (v := undef) (a' := ?_) (bb 37 4194303) rfl rfl (any_of HT_.out (by kernel_rfl)) (fun _ _ _ h => h) (Or.inr ⟨by rfl, rfl⟩) ?_ ?_
                  rotate_left
                  · simp only [Act.put, sA, sB, sC, i64_w, i32_w]
                    rfl
                  refine pure_ (i := 22) (N := some 94) (v := undef) (a' := ?_) (bb 37 8388607) rfl rfl (any_of HT_.out (by kernel_rfl)) (fun _ _ _ h => h) (Or.inr ⟨by rfl, rfl⟩) ?_ ?_
                  rotate_left
                  · simp only [Act.put, sA, sB, sC, i64_w, i32_w]
                    rfl
                  refine pure_ (i := 23) (N := some 95) (v := undef) (a' := ?_) (bb 37 16777215) rfl rfl (any_of HT_.out (by kernel_rfl)) (fun _ _ _ h => h) (Or.inr ⟨by rfl, rfl⟩) ?_ ?_
                  rotate_left
                  · simp only [Act.put, sA, sB, sC, i64_w, i32_w]
                    rfl
                  refine pure_ (i := 24) (N := some 96) (v := undef) (a' := ?_) (bb 37 33554431) rfl rfl (any_of HT_.out (by kernel_rfl)) (fun _ _ _ h => h) (Or.inr ⟨by rfl, rfl⟩) ?_ ?_
                  rotate_left
                  · simp only [Act.put, sA, sB, sC, i64_w, i32_w]
                    rfl
                  refine pure_ (i := 25) (N := some 97) (v := undef) (a' := ?_) (bb 37 67108863) rfl rfl (any_of HT_.out (by kernel_rfl)) (fun _ _ _ h => h) (Or.inr ⟨by rfl, rfl⟩) ?_ ?_
                  rotate_left
                  · simp only [Act.put, sA, sB, sC, i64_w, i32_w]
                    rfl
                  refine pu 26 98 (bb 37 134217727) rfl rfl (any_of HT_.out (by kernel_rfl)) (fun _ _ _ h => h) (by rfl) (fun w' => by go_simp; with_reducible rfl) (by simp only [Act.put, sA, sB, sC, i64_w, i32_w]; rfl) ?_
                  refine pu 27 99 (bb 37 268435455) rfl rfl (any_of HT_.out (by kernel_rfl)) (fun _ _ _ h => h) (by rfl) (fun w' => by go_simp; with_reducible rfl) (by simp only [Act.put, sA, sB, sC, i64_w, i32_w]; rfl) ?_
                  refine pure_ (i := 28) (N := some 100) (v := undef) (a' := ?_) (bb 37 536870911) rfl rfl (any_of HT_.out (by kernel_rfl)) (fun _ _ _ h => h) (Or.inr ⟨by rfl, rfl⟩) ?_ ?_
                  rotate_left
                  · simp only [Act.put, sA, sB, sC, i64_w, i32_w]
                    rfl
                  refine pure_ (i := 29) (N := some 101) (v := undef) (a' := ?_) (bb 37 1073741823) rfl rfl (any_of HT_.out (by kernel_rfl)) (fun _ _ _ h => h) (Or.inr ⟨by rfl, rfl⟩) ?_ ?_
                  rotate_left
                  · simp only [Act.put, sA, sB, sC, i64_w, i32_w]
                    rfl
                  refine pure_ (i := 30) (N := some 102) (v := undef) (a' := ?_) (bb 37 2147483647) rfl rfl (any_of HT_.out (by kernel_rfl)) (fun _ _ _ h => h) (Or.inr ⟨by rfl, rfl⟩) ?_ ?_
                  rotate_left
                  · simp only [Act.put, sA, sB, sC, i64_w, i32_w]
                    rfl
                  refine pu 31 103 (bb 37 4294967295) rfl rfl (any_of HT_.out (by kernel_rfl)) (fun _ _ _ h => h) (by rfl) (fun w' => by go_simp; with_reducible rfl) (by simp only [Act.put, sA, sB, sC, i64_w, i32_w]; rfl) ?_
                  refine pu 32 104 (bb 37 8589934591) rfl rfl (any_of HT_.out (by kernel_rfl)) (fun _ _ _ h => h) (by rfl) (fun w' => by go_simp; with_reducible rfl) (by simp only [Act.put, sA, sB, sC, i64_w, i32_w]; rfl) ?_
                  refine pure_ (i := 33) (N := some 105) (v := undef) (a' := ?_) (bb 37 17179869183) rfl rfl (any_of HT_.out (by kernel_rfl)) (fun _ _ _ h => h) (Or.inr ⟨by rfl, rfl⟩) ?_ ?_
                  rotate_left
                  · simp only [Act.put, sA, sB, sC, i64_w, i32_w]
                    rfl
                  refine pure_ (i := 34) (N := some 106) (v := undef) (a' := ?_) (bb 37 34359738367) rfl rfl (any_of HT_.out (by kernel_rfl)) (fun _ _ _ h => h) (Or.inr ⟨by rfl, rfl⟩) ?_ ?_
                  rotate_left
                  · simp only [Act.put, sA, sB, sC, i64_w, i32_w]
                    rfl
                  refine pu 35 107 (bb 37 68719476735) rfl rfl (any_of HT_.out (by kernel_rfl)) (fun _ _ _ h => h) (by rfl) (fun w' => by go_simp; with_reducible rfl) (by simp only [Act.put, sA, sB, sC, i64_w, i32_w]; rfl) ?_
                  refine pu 36 71 (bb 37 137438953471) rfl rfl (any_of HT_.out (by kernel_rfl)) (fun _ _ _ h => h) (by rfl) (fun w' => by go_simp; with_reducible rfl) (by simp only [Act.put, sA, sB, sC, i64_w, i32_w]; rfl) ?_
                  refine done_ (done_of HT_.out (by kernel_rfl)) ?_
                  try go_wp2
                  go_meet
                  case rel => exact ⟨_, (true), (by first | rfl | (simp; done) | (simp [*]; done)), H', ⟨by have := HJ6.out; first | omega | exact Nat.le_refl _⟩, ⟨by (with_reducible repeat (first | refine blk_drewN ?_ _ | refine blk_drew ?_ | refine blk_alloc ?_ _)); exact BK174.out⟩, ⟨by (with_reducible repeat (first | refine blk_drewN ?_ _ | refine blk_drew ?_ | refine blk_alloc ?_ _)); exact BK217.out⟩, ⟨by repeat (first | (with_reducible first | exact HB.out | apply below_alloc | apply pw_below_drewN | apply below_drew1 | refine below_set ?_ GE174.out | refine below_set ?_ GE217.out) | exact HB.out)⟩⟩
              · rw [if_neg c36] at H
                have c36b0 : ((rd l0 6) == 0) = false := beq_eq_false_iff_ne.mpr c36
                have c36b1 : ((rd l0 6) != 0) = true := bne_iff_ne.mpr c36
                have H' := Aside0.mk H
                clear H
                try go_wp2
                have n0_ := Aside0.mk (blk_drew BK174.out)
                have n1_ := Aside0.mk (blk_drew BK217.out)
                have n2_ := Aside0.mk (below_drew1 HB.out)
                clear BK174
                clear BK217
                clear HB
                have BK174 := n0_
                have BK217 := n1_
                have HB := n2_
                clear n0_ n1_ n2_
                have p220 : 0 ≤ (1 : Int) := (by omega)
                have q220 : 1 < (l0.length : Int) := of_decide_eq_true (by first | (with_reducible assumption) | assumption)
                obtain ⟨ad220, e220, hx220_0⟩ := Kd.at_int HR0.out 1 p220 q220
                have hw220_0 := hx220_0
                (try rw [show ((1 : Int)).toNat = 1 from rfl] at hw220_0)
                (try rw [show 1 * 1 = 1 from rfl] at hw220_0)
                (try simp only [Nat.reduceMul, Nat.reduceEqDiff, Go.Addr.add, ↓reduceIte] at hw220_0)
                obtain rfl : ad197 = ad220 := (by injection e220)
                (try simp only [show (1 : Int).toNat = 1 from rfl, Nat.reduceMul, Nat.reduceEqDiff, Go.Addr.add, ↓reduceIte] at hx220_0)
                have qi220 : (1 < l0.length) = True := eq_true (by omega)
                (try rw [show ((1 : Int)).toNat = 1 from rfl] at hx220_0)
                replace hx220_0 := (HB.out.cell (World.block_lt_of_cell? w _ hx220_0)).trans hx220_0
                replace p220 := eq_true p220
                replace q220 := eq_true q220
                have p221 : 0 ≤ (6 : Int) := (by omega)
                have q221 : 6 < (l0.length : Int) := of_decide_eq_true (by first | (with_reducible assumption) | assumption)
                obtain ⟨ad221, e221, hx221_0⟩ := Kd.at_int HR0.out 6 p221 q221
                have hw221_0 := hx221_0
                (try rw [show ((6 : Int)).toNat = 6 from rfl] at hw221_0)
                (try rw [show 6 * 1 = 6 from rfl] at hw221_0)
                (try simp only [Nat.reduceMul, Nat.reduceEqDiff, Go.Addr.add, ↓reduceIte] at hw221_0)
                obtain rfl : ad197 = ad221 := (by injection e221)
                (try simp only [show (6 : Int).toNat = 6 from rfl, Nat.reduceMul, Nat.reduceEqDiff, Go.Addr.add, ↓reduceIte] at hx221_0)
                have qi221 : (6 < l0.length) = True := eq_true (by omega)
                (try rw [show ((6 : Int)).toNat = 6 from rfl] at hx221_0)
                replace hx221_0 := (HB.out.cell (World.block_lt_of_cell? w _ hx221_0)).trans hx221_0
                replace p221 := eq_true p221
                replace q221 := eq_true q221
                refine start_ (n := 37) (S := fun w' => w'.cell? ⟨ad197.block, ad197.off + 1, none⟩ = some (.int .u8 (rd l0 1)) ∧ w'.cell? ⟨ad197.block, ad197.off + 6, none⟩ = some (.int .u8 (rd l0 6))) (ds := []) #[false, false, false, false, false, false, false, false, false, false, false, false, false, false, false, false, false, false, false, false, false, false, false, false, false, false, false, false, false, false, false, false, false, false, false, false, false] (by kernel_rfl) rfl rfl ⟨((HB.out.cell (World.block_lt_of_cell? w _ hw220_0)).trans hw220_0), ((HB.out.cell (World.block_lt_of_cell? w _ hw221_0)).trans hw221_0)⟩ (fun hHeld => ?_); refine with_tabW ip_Decode.tab12 ip_Decode.bits12 (fun HT_ HW_ => ?_)
                generalize w32.drew = w62 at BK174 BK217 HB hx220_0 hx221_0 hHeld ⊢
                refine pu 0 72 (bb 37 1) rfl rfl (any_of HT_.out (by kernel_rfl)) (fun _ _ _ h => h) (by rfl) (fun w' => by go_simp; with_reducible rfl) (by simp only [Act.put, sA, sB, sC, i64_w, i32_w]; rfl) ?_
                refine pu 1 73 (bb 37 3) rfl rfl (any_of HT_.out (by kernel_rfl)) (fun _ _ _ h => h) (by rfl) (fun w' => by go_simp; with_reducible rfl) (by simp only [Act.put, sA, sB, sC, i64_w, i32_w]; rfl) ?_
                refine take_ (i := 2) (N := some 74) (v := ?_) (a' := ?_) (bb 37 7) rfl rfl (take_ofW HT_.out HW_.out (by kernel_rfl)) (fun _ _ _ h => h) (Or.inl ⟨by rfl, ?_⟩) hHeld ?_ ?_
                rotate_left
                · rintro w' ⟨s0, s1⟩
                  go_simp
                  with_reducible rfl
                rotate_left
                · simp only [Act.put, sA, sB, sC, i64_w, i32_w]
                  rfl
                refine pu 3 75 (bb 37 15) rfl rfl (any_of HT_.out (by kernel_rfl)) (fun _ _ _ h => h) (by rfl) (fun w' => by go_simp; with_reducible rfl) (by simp only [Act.put, sA, sB, sC, i64_w, i32_w]; rfl) ?_
                refine pu 4 76 (bb 37 31) rfl rfl (any_of HT_.out (by kernel_rfl)) (fun _ _ _ h => h) (by rfl) (fun w' => by go_simp; with_reducible rfl) (by simp only [Act.put, sA, sB, sC, i64_w, i32_w]; rfl) ?_
                refine pu 5 77 (bb 37 63) rfl rfl (any_of HT_.out (by kernel_rfl)) (fun _ _ _ h => h) (by rfl) (fun w' => by go_simp; with_reducible rfl) (by simp only [Act.put, sA, sB, sC, i64_w, i32_w]; rfl) ?_
                refine pu 6 78 (bb 37 127) rfl rfl (any_of HT_.out (by kernel_rfl)) (fun _ _ _ h => h) (by rfl) (fun w' => by go_simp; with_reducible rfl) (by simp only [Act.put, sA, sB, sC, i64_w, i32_w]; rfl) ?_
                refine take_ (i := 7) (N := some 79) (v := ?_) (a' := ?_) (bb 37 255) rfl rfl (take_ofW HT_.out HW_.out (by kernel_rfl)) (fun _ _ _ h => h) (Or.inl ⟨by rfl, ?_⟩) hHeld ?_ ?_
                rotate_left
                · rintro w' ⟨s0, s1⟩
                  go_simp
                  with_reducible rfl
                rotate_left
                · simp only [Act.put, sA, sB, sC, i64_w, i32_w]
                  rfl
                refine pu 8 80 (bb 37 511) rfl rfl (any_of HT_.out (by kernel_rfl)) (fun _ _ _ h => h) (by rfl) (fun w' => by go_simp; with_reducible rfl) (by simp only [Act.put, sA, sB, sC, i64_w, i32_w]; rfl) ?_
                refine pu 9 81 (bb 37 1023) rfl rfl (any_of HT_.out (by kernel_rfl)) (fun _ _ _ h => h) (by rfl) (fun w' => by go_simp; with_reducible rfl) (by simp only [Act.put, sA, sB, sC, i64_w, i32_w]; rfl) ?_
                refine pu 10 82 (bb 37 2047) rfl rfl (any_of HT_.out (by kernel_rfl)) (fun _ _ _ h => h) (by rfl) (fun w' => by go_simp; with_reducible rfl) (by simp only [Act.put, sA, sB, sC, i64_w, i32_w]; rfl) ?_
                refine pure_ (i := 11) (N := some 83) (v := undef) (a' := ?_) (bb 37 4095) rfl rfl (any_of HT_.out (by kernel_rfl)) (fun _ _ _ h => h) (Or.inr ⟨by rfl, rfl⟩) ?_ ?_
                rotate_left
                · simp only [Act.put, sA, sB, sC, i64_w, i32_w]
                  rfl
                refine pure_ (i := 12) (N := some 84) (v := undef) (a' := ?_) (bb 37 8191) rfl rfl (any_of HT_.out (by kernel_rfl)) (fun _ _ _ h => h) (Or.inr ⟨by rfl, rfl⟩) ?_ ?_
                rotate_left
                · simp only [Act.put, sA, sB, sC, i64_w, i32_w]
                  rfl
                refine pure_ (i := 13) (N := some 85) (v := undef) (a' := ?_) (bb 37 16383) rfl rfl (any_of HT_.out (by kernel_rfl)) (fun _ _ _ h => h) (Or.inr ⟨by rfl, rfl⟩) ?_ ?_
                rotate_left
                · simp only [Act.put, sA, sB, sC, i64_w, i32_w]
                  rfl
                refine pure_ (i := 14) (N := some 86) (v := undef) (a' := ?_) (bb 37 32767) rfl rfl (any_of HT_.out (by kernel_rfl)) (fun _ _ _ h => h) (Or.inr ⟨by rfl, rfl⟩) ?_ ?_
                rotate_left
                · simp only [Act.put, sA, sB, sC, i64_w, i32_w]
                  rfl
                refine pu 15 87 (bb 37 65535) rfl rfl (any_of HT_.out (by kernel_rfl)) (fun _ _ _ h => h) (by rfl) (fun w' => by go_simp; with_reducible rfl) (by simp only [Act.put, sA, sB, sC, i64_w, i32_w]; rfl) ?_
                refine pu 16 88 (bb 37 131071) rfl rfl (any_of HT_.out (by kernel_rfl)) (fun _ _ _ h => h) (by rfl) (fun w' => by go_simp; with_reducible rfl) (by simp only [Act.put, sA, sB, sC, i64_w, i32_w]; rfl) ?_
                refine pure_ (i := 17) (N := some 89) (v := undef) (a' := ?_) (bb 37 262143) rfl rfl (any_of HT_.out (by kernel_rfl)) (fun _ _ _ h => h) (Or.inr ⟨by rfl, rfl⟩) ?_ ?_
                rotate_left
                · simp only [Act.put, sA, sB, sC, i64_w, i32_w]
                  rfl
                refine pure_ (i := 18) (N := some 90) (v := undef) (a' := ?_) (bb 37 524287) rfl rfl (any_of HT_.out (by kernel_rfl)) (fun _ _ _ h => h) (Or.inr ⟨by rfl, rfl⟩) ?_ ?_
                rotate_left
                · simp only [Act.put, sA, sB, sC, i64_w, i32_w]
                  rfl
                refine pure_ (i := 19) (N := some 91) (v := undef) (a' := ?_) (bb 37 1048575) rfl rfl (any_of HT_.out (by kernel_rfl)) (fun _ _ _ h => h) (Or.inr ⟨by rfl, rfl⟩) ?_ ?_
                rotate_left
                · simp only [Act.put, sA, sB, sC, i64_w, i32_w]
                  rfl
                refine pure_ (i := 20) (N := some 92) (v := undef) (a' := ?_) (bb 37 2097151) rfl rfl (any_of HT_.out (by kernel_rfl)) (fun _ _ _ h => h) (Or.inr ⟨by rfl, rfl⟩) ?_ ?_
                rotate_left
                · simp only [Act.put, sA, sB, sC, i64_w, i32_w]
                  rfl
                refine pure_ (i := 21) (N := some 93) (v := undef) (a' := ?_) (bb 37 4194303) rfl rfl (any_of HT_.out (by kernel_rfl)) (fun _ _ _ h => h) (Or.inr ⟨by rfl, rfl⟩) ?_ ?_
                rotate_left
                · simp only [Act.put, sA, sB, sC, i64_w, i32_w]
                  rfl
                refine pure_ (i := 22) (N := some 94) (v := undef) (a' := ?_) (bb 37 8388607) rfl rfl (any_of HT_.out (by kernel_rfl)) (fun _ _ _ h => h) (Or.inr ⟨by rfl, rfl⟩) ?_ ?_
                rotate_left
                · simp only [Act.put, sA, sB, sC, i64_w, i32_w]
                  rfl
                refine pure_ (i := 23) (N := some 95) (v := undef) (a' := ?_) (bb 37 16777215) rfl rfl (any_of HT_.out (by kernel_rfl)) (fun _ _ _ h => h) (Or.inr ⟨by rfl, rfl⟩) ?_ ?_
                rotate_left
                · simp only [Act.put, sA, sB, sC, i64_w, i32_w]
                  rfl
                refine pure_ (i := 24) (N := some 96) (v := undef) (a' := ?_) (bb 37 33554431) rfl rfl (any_of HT_.out (by kernel_rfl)) (fun _ _ _ h => h) (Or.inr ⟨by rfl, rfl⟩) ?_ ?_
                rotate_left
                · simp only [Act.put, sA, sB, sC, i64_w, i32_w]
                  rfl
                refine pure_ (i := 25) (N := some 97) (v := undef) (a' := ?_) (bb 37 67108863) rfl rfl (any_of HT_.out (by kernel_rfl)) (fun _ _ _ h => h) (Or.inr ⟨by rfl, rfl⟩) ?_ ?_
                rotate_left
                · simp only [Act.put, sA, sB, sC, i64_w, i32_w]
                  rfl
                refine pu 26 98 (bb 37 134217727) rfl rfl (any_of HT_.out (by kernel_rfl)) (fun _ _ _ h => h) (by rfl) (fun w' => by go_simp; with_reducible rfl) (by simp only [Act.put, sA, sB, sC, i64_w, i32_w]; rfl) ?_
                refine pu 27 99 (bb 37 268435455) rfl rfl (any_of HT_.out (by kernel_rfl)) (fun _ _ _ h => h) (by rfl) (fun w' => by go_simp; with_reducible rfl) (by simp only [Act.put, sA, sB, sC, i64_w, i32_w]; rfl) ?_
                refine pure_ (i := 28) (N := some 100) (v := undef) (a' := ?_) (bb 37 536870911) rfl rfl (any_of HT_.out (by kernel_rfl)) (fun _ _ _ h => h) (Or.inr ⟨by rfl, rfl⟩) ?_ ?_
                rotate_left
                · simp only [Act.put, sA, sB, sC, i64_w, i32_w]
                  rfl
                refine pure_ (i := 29) (N := some 101) (v := undef) (a' := ?_) (bb 37 1073741823) rfl rfl (any_of HT_.out (by kernel_rfl)) (fun _ _ _ h => h) (Or.inr ⟨by rfl, rfl⟩) ?_ ?_
                rotate_left
                · simp only [Act.put, sA, sB, sC, i64_w, i32_w]
                  rfl
                refine pure_ (i := 30) (N := some 102) (v := undef) (a' := ?_) (bb 37 2147483647) rfl rfl (any_of HT_.out (by kernel_rfl)) (fun _ _ _ h => h) (Or.inr ⟨by rfl, rfl⟩) ?_ ?_
                rotate_left
                · simp only [Act.put, sA, sB, sC, i64_w, i32_w]
                  rfl
                refine pu 31 103 (bb 37 4294967295) rfl rfl (any_of HT_.out (by kernel_rfl)) (fun _ _ _ h => h) (by rfl) (fun w' => by go_simp; with_reducible rfl) (by simp only [Act.put, sA, sB, sC, i64_w, i32_w]; rfl) ?_
                refine pu 32 104 (bb 37 8589934591) rfl rfl (any_of HT_.out (by kernel_rfl)) (fun _ _ _ h => h) (by rfl) (fun w' => by go_simp; with_reducible rfl) (by simp only [Act.put, sA, sB, sC, i64_w, i32_w]; rfl) ?_
                refine pure_ (i := 33) (N := some 105) (v := undef) (a' := ?_) (bb 37 17179869183) rfl rfl (any_of HT_.out (by kernel_rfl)) (fun _ _ _ h => h) (Or.inr ⟨by rfl, rfl⟩) ?_ ?_
                rotate_left
                · simp only [Act.put, sA, sB, sC, i64_w, i32_w]
                  rfl
                refine pure_ (i := 34) (N := some 106) (v := undef) (a' := ?_) (bb 37 34359738367) rfl rfl (any_of HT_.out (by kernel_rfl)) (fun _ _ _ h => h) (Or.inr ⟨by rfl, rfl⟩) ?_ ?_
                rotate_left
                · simp only [Act.put, sA, sB, sC, i64_w, i32_w]
                  rfl
                refine pu 35 107 (bb 37 68719476735) rfl rfl (any_of HT_.out (by kernel_rfl)) (fun _ _ _ h => h) (by rfl) (fun w' => by go_simp; with_reducible rfl) (by simp only [Act.put, sA, sB, sC, i64_w, i32_w]; rfl) ?_
                refine pu 36 71 (bb 37 137438953471) rfl rfl (any_of HT_.out (by kernel_rfl)) (fun _ _ _ h => h) (by rfl) (fun w' => by go_simp; with_reducible rfl) (by simp only [Act.put, sA, sB, sC, i64_w, i32_w]; rfl) ?_
                refine done_ (done_of HT_.out (by kernel_rfl)) ?_
                try go_wp2
                go_meet
                case rel => exact ⟨_, (true), (by first | rfl | (simp; done) | (simp [*]; done)), H', ⟨by have := HJ6.out; first | omega | exact Nat.le_refl _⟩, ⟨by (with_reducible repeat (first | refine blk_drewN ?_ _ | refine blk_drew ?_ | refine blk_alloc ?_ _)); exact BK174.out⟩, ⟨by (with_reducible repeat (first | refine blk_drewN ?_ _ | refine blk_drew ?_ | refine blk_alloc ?_ _)); exact BK217.out⟩, ⟨by repeat (first | (with_reducible first | exact HB.out | apply below_alloc | apply pw_below_drewN | apply below_drew1 | refine below_set ?_ GE174.out | refine below_set ?_ GE217.out) | exact HB.out)⟩⟩
            · rw [if_neg c34] at H
              have c34b0 : ((rd l0 1) == 0) = false := beq_eq_false_iff_ne.mpr c34
              have c34b1 : ((rd l0 1) != 0) = true := bne_iff_ne.mpr c34
              have H' := Aside0.mk H
              clear H
              try go_wp2
              have n0_ := Aside0.mk (blk_drew BK174.out)
              have n1_ := Aside0.mk (blk_drew BK217.out)
              have n2_ := Aside0.mk (below_drew1 HB.out)
              clear BK174
              clear BK217
              clear HB
              have BK174 := n0_
              have BK217 := n1_
              have HB := n2_
              clear n0_ n1_ n2_
              have p220 : 0 ≤ (1 : Int) := (by omega)
              have q220 : 1 < (l0.length : Int) := of_decide_eq_true (by first | (with_reducible assumption) | assumption)
              obtain ⟨ad220, e220, hx220_0⟩ := Kd.at_int HR0.out 1 p220 q220
              have hw220_0 := hx220_0
              (try rw [show ((1 : Int)).toNat = 1 from rfl] at hw220_0)
              (try rw [show 1 * 1 = 1 from rfl] at hw220_0)
              (try simp only [Nat.reduceMul, Nat.reduceEqDiff, Go.Addr.add, ↓reduceIte] at hw220_0)
              obtain rfl : ad197 = ad220 := (by injection e220)
              (try simp only [show (1 : Int).toNat = 1 from rfl, Nat.reduceMul, Nat.reduceEqDiff, Go.Addr.add, ↓reduceIte] at hx220_0)
              have qi220 : (1 < l0.length) = True := eq_true (by omega)
              (try rw [show ((1 : Int)).toNat = 1 from rfl] at hx220_0)
              replace hx220_0 := (HB.out.cell (World.block_lt_of_cell? w _ hx220_0)).trans hx220_0
              replace p220 := eq_true p220
              replace q220 := eq_true q220
              refine start_ (n := 37) (S := fun w' => w'.cell? ⟨ad197.block, ad197.off + 1, none⟩ = some (.int .u8 (rd l0 1))) (ds := []) #[false, false, false, false, false, false, false, false, false, false, false, false, false, false, false, false, false, false, false, false, false, false, false, false, false, false, false, false, false, false, false, false, false, false, false, false, false] (by kernel_rfl) rfl rfl (((HB.out.cell (World.block_lt_of_cell? w _ hw220_0)).trans hw220_0)) (fun hHeld => ?_); refine with_tabW ip_Decode.tab12 ip_Decode.bits12 (fun HT_ HW_ => ?_)
              generalize w32.drew = w63 at BK174 BK217 HB hx220_0 hHeld ⊢
              refine pu 0 72 (bb 37 1) rfl rfl (any_of HT_.out (by kernel_rfl)) (fun _ _ _ h => h) (by rfl) (fun w' => by go_simp; with_reducible rfl) (by simp only [Act.put, sA, sB, sC, i64_w, i32_w]; rfl) ?_
              refine pu 1 73 (bb 37 3) rfl rfl (any_of HT_.out (by kernel_rfl)) (fun _ _ _ h => h) (by rfl) (fun w' => by go_simp; with_reducible rfl) (by simp only [Act.put, sA, sB, sC, i64_w, i32_w]; rfl) ?_
              refine take_ (i := 2) (N := some 74) (v := ?_) (a' := ?_) (bb 37 7) rfl rfl (take_ofW HT_.out HW_.out (by kernel_rfl)) (fun _ _ _ h => h) (Or.inl ⟨by rfl, ?_⟩) hHeld ?_ ?_
              rotate_left
              · intro w' s0
                go_simp
                with_reducible rfl
              rotate_left
              · simp only [Act.put, sA, sB, sC, i64_w, i32_w]
                rfl
              refine pu 3 75 (bb 37 15) rfl rfl (any_of HT_.out (by kernel_rfl)) (fun _ _ _ h => h) (by rfl) (fun w' => by go_simp; with_reducible rfl) (by simp only [Act.put, sA, sB, sC, i64_w, i32_w]; rfl) ?_
              refine pu 4 76 (bb 37 31) rfl rfl (any_of HT_.out (by kernel_rfl)) (fun _ _ _ h => h) (by rfl) (fun w' => by go_simp; with_reducible rfl) (by simp only [Act.put, sA, sB, sC, i64_w, i32_w]; rfl) ?_
              refine pure_ (i := 5) (N := some 77) (v := undef) (a' := ?_) (bb 37 63) rfl rfl (any_of HT_.out (by kernel_rfl)) (fun _ _ _ h => h) (Or.inr ⟨by rfl, rfl⟩) ?_ ?_
              rotate_left
              · simp only [Act.put, sA, sB, sC, i64_w, i32_w]
                rfl
              refine pure_ (i := 6) (N := some 78) (v := undef) (a' := ?_) (bb 37 127) rfl rfl (any_of HT_.out (by kernel_rfl)) (fun _ _ _ h => h) (Or.inr ⟨by rfl, rfl⟩) ?_ ?_
              rotate_left
              · simp only [Act.put, sA, sB, sC, i64_w, i32_w]
                rfl
              refine pure_ (i := 7) (N := some 79) (v := undef) (a' := ?_) (bb 37 255) rfl rfl (any_of HT_.out (by kernel_rfl)) (fun _ _ _ h => h) (Or.inr ⟨by rfl, rfl⟩) ?_ ?_
              rotate_left
              · simp only [Act.put, sA, sB, sC, i64_w, i32_w]
                rfl
              refine pure_ (i := 8) (N := some 80) (v := undef) (a' := ?_) (bb 37 511) rfl rfl (any_of HT_.out (by kernel_rfl)) (fun _ _ _ h => h) (Or.inr ⟨by rfl, rfl⟩) ?_ ?_
              rotate_left
              · simp only [Act.put, sA, sB, sC, i64_w, i32_w]
                rfl
              refine pu 9 81 (bb 37 1023) rfl rfl (any_of HT_.out (by kernel_rfl)) (fun _ _ _ h => h) (by rfl) (fun w' => by go_simp; with_reducible rfl) (by simp only [Act.put, sA, sB, sC, i64_w, i32_w]; rfl) ?_
              refine pu 10 82 (bb 37 2047) rfl rfl (any_of HT_.out (by kernel_rfl)) (fun _ _ _ h => h) (by rfl) (fun w' => by go_simp; with_reducible rfl) (by simp only [Act.put, sA, sB, sC, i64_w, i32_w]; rfl) ?_
              refine pure_ (i := 11) (N := some 83) (v := undef) (a' := ?_) (bb 37 4095) rfl rfl (any_of HT_.out (by kernel_rfl)) (fun _ _ _ h => h) (Or.inr ⟨by rfl, rfl⟩) ?_ ?_
              rotate_left
              · simp only [Act.put, sA, sB, sC, i64_w, i32_w]
                rfl
              refine pure_ (i := 12) (N := some 84) (v := undef) (a' := ?_) (bb 37 8191) rfl rfl (any_of HT_.out (by kernel_rfl)) (fun _ _ _ h => h) (Or.inr ⟨by rfl, rfl⟩) ?_ ?_
              rotate_left
              · simp only [Act.put, sA, sB, sC, i64_w, i32_w]
                rfl
              refine pure_ (i := 13) (N := some 85) (v := undef) (a' := ?_) (bb 37 16383) rfl rfl (any_of HT_.out (by kernel_rfl)) (fun _ _ _ h => h) (Or.inr ⟨by rfl, rfl⟩) ?_ ?_
              rotate_left
              · simp only [Act.put, sA, sB, sC, i64_w, i32_w]
                rfl
              refine pure_ (i := 14) (N := some 86) (v := undef) (a' := ?_) (bb 37 32767) rfl rfl (any_of HT_.out (by kernel_rfl)) (fun _ _ _ h => h) (Or.inr ⟨by rfl, rfl⟩) ?_ ?_
              rotate_left
              · simp only [Act.put, sA, sB, sC, i64_w, i32_w]
                rfl
              refine pu 15 87 (bb 37 65535) rfl rfl (any_of HT_.out (by kernel_rfl)) (fun _ _ _ h => h) (by rfl) (fun w' => by go_simp; with_reducible rfl) (by simp only [Act.put, sA, sB, sC, i64_w, i32_w]; rfl) ?_
              refine pu 16 88 (bb 37 131071) rfl rfl (any_of HT_.out (by kernel_rfl)) (fun _ _ _ h => h) (by rfl) (fun w' => by go_simp; with_reducible rfl) (by simp only [Act.put, sA, sB, sC, i64_w, i32_w]; rfl) ?_
              refine pure_ (i := 17) (N := some 89) (v := undef) (a' := ?_) (bb 37 262143) rfl rfl (any_of HT_.out (by kernel_rfl)) (fun _ _ _ h => h) (Or.inr ⟨by rfl, rfl⟩) ?_ ?_
              rotate_left
              · simp only [Act.put, sA, sB, sC, i64_w, i32_w]
                rfl
              refine pure_ (i := 18) (N := some 90) (v := undef) (a' := ?_) (bb 37 524287) rfl rfl (any_of HT_.out (by kernel_rfl)) (fun _ _ _ h => h) (Or.inr ⟨by rfl, rfl⟩) ?_ ?_
              rotate_left
              · simp only [Act.put, sA, sB, sC, i64_w, i32_w]
                rfl
              refine pure_ (i := 19) (N := some 91) (v := undef) (a' := ?_) (bb 37 1048575) rfl rfl (any_of HT_.out (by kernel_rfl)) (fun _ _ _ h => h) (Or.inr ⟨by rfl, rfl⟩) ?_ ?_
              rotate_left
              · simp only [Act.put, sA, sB, sC, i64_w, i32_w]
                rfl
              refine pure_ (i := 20) (N := some 92) (v := undef) (a' := ?_) (bb 37 2097151) rfl rfl (any_of HT_.out (by kernel_rfl)) (fun _ _ _ h => h) (Or.inr ⟨by rfl, rfl⟩) ?_ ?_
              rotate_left
              · simp only [Act.put, sA, sB, sC, i64_w, i32_w]
                rfl
              refine pure_ (i := 21) (N := some 93) (v := undef) (a' := ?_) (bb 37 4194303) rfl rfl (any_of HT_.out (by kernel_rfl)) (fun _ _ _ h => h) (Or.inr ⟨by rfl, rfl⟩) ?_ ?_
              rotate_left
              · simp only [Act.put, sA, sB, sC, i64_w, i32_w]
                rfl
              refine pure_ (i := 22) (N := some 94) (v := undef) (a' := ?_) (bb 37 8388607) rfl rfl (any_of HT_.out (by kernel_rfl)) (fun _ _ _ h => h) (Or.inr ⟨by rfl, rfl⟩) ?_ ?_
              rotate_left
              · simp only [Act.put, sA, sB, sC, i64_w, i32_w]
                rfl
              refine pure_ (i := 23) (N := some 95) (v := undef) (a' := ?_) (bb 37 16777215) rfl rfl (any_of HT_.out (by kernel_rfl)) (fun _ _ _ h => h) (Or.inr ⟨by rfl, rfl⟩) ?_ ?_
              rotate_left
              · simp only [Act.put, sA, sB, sC, i64_w, i32_w]
                rfl
              refine pure_ (i := 24) (N := some 96) (v := undef) (a' := ?_) (bb 37 33554431) rfl rfl (any_of HT_.out (by kernel_rfl)) (fun _ _ _ h => h) (Or.inr ⟨by rfl, rfl⟩) ?_ ?_
              rotate_left
              · simp only [Act.put, sA, sB, sC, i64_w, i32_w]
                rfl
              refine pure_ (i := 25) (N := some 97) (v := undef) (a' := ?_) (bb 37 67108863) rfl rfl (any_of HT_.out (by kernel_rfl)) (fun _ _ _ h => h) (Or.inr ⟨by rfl, rfl⟩) ?_ ?_
              rotate_left
              · simp only [Act.put, sA, sB, sC, i64_w, i32_w]
                rfl
              refine pu 26 98 (bb 37 134217727) rfl rfl (any_of HT_.out (by kernel_rfl)) (fun _ _ _ h => h) (by rfl) (fun w' => by go_simp; with_reducible rfl) (by simp only [Act.put, sA, sB, sC, i64_w, i32_w]; rfl) ?_
              refine pu 27 99 (bb 37 268435455) rfl rfl (any_of HT_.out (by kernel_rfl)) (fun _ _ _ h => h) (by rfl) (fun w' => by go_simp; with_reducible rfl) (by simp only [Act.put, sA, sB, sC, i64_w, i32_w]; rfl) ?_
              refine pure_ (i := 28) (N := some 100) (v := undef) (a' := ?_) (bb 37 536870911) rfl rfl (any_of HT_.out (by kernel_rfl)) (fun _ _ _ h => h) (Or.inr ⟨by rfl, rfl⟩) ?_ ?_
              rotate_left
              · simp only [Act.put, sA, sB, sC, i64_w, i32_w]
                rfl
              refine pure_ (i := 29) (N := some 101) (v := undef) (a' := ?_) (bb 37 1073741823) rfl rfl (any_of HT_.out (by kernel_rfl)) (fun _ _ _ h => h) (Or.inr ⟨by rfl, rfl⟩) ?_ ?_
              rotate_left
              · simp only [Act.put, sA, sB, sC, i64_w, i32_w]
                rfl
              refine pure_ (i := 30) (N := some 102) (v := undef) (a' := ?_) (bb 37 2147483647) rfl rfl (any_of HT_.out (by kernel_rfl)) (fun _ _ _ h => h) (Or.inr ⟨by rfl, rfl⟩) ?_ ?_
              rotate_left
              · simp only [Act.put, sA, sB, sC, i64_w, i32_w]
                rfl
              refine pu 31 103 (bb 37 4294967295) rfl rfl (any_of HT_.out (by kernel_rfl)) (fun _ _ _ h => h) (by rfl) (fun w' => by go_simp; with_reducible rfl) (by simp only [Act.put, sA, sB, sC, i64_w, i32_w]; rfl) ?_
              refine pu 32 104 (bb 37 8589934591) rfl rfl (any_of HT_.out (by kernel_rfl)) (fun _ _ _ h => h) (by rfl) (fun w' => by go_simp; with_reducible rfl) (by simp only [Act.put, sA, sB, sC, i64_w, i32_w]; rfl) ?_
              refine pure_ (i := 33) (N := some 105) (v := undef) (a' := ?_) (bb 37 17179869183) rfl rfl (any_of HT_.out (by kernel_rfl)) (fun _ _ _ h => h) (Or.inr ⟨by rfl, rfl⟩) ?_ ?_
              rotate_left
              · simp only [Act.put, sA, sB, sC, i64_w, i32_w]
                rfl
              refine pure_ (i := 34) (N := some 106) (v := undef) (a' := ?_) (bb 37 34359738367) rfl rfl (any_of HT_.out (by kernel_rfl)) (fun _ _ _ h => h) (Or.inr ⟨by rfl, rfl⟩) ?_ ?_
              rotate_left
              · simp only [Act.put, sA, sB, sC, i64_w, i32_w]
                rfl
              refine pu 35 107 (bb 37 68719476735) rfl rfl (any_of HT_.out (by kernel_rfl)) (fun _ _ _ h => h) (by rfl) (fun w' => by go_simp; with_reducible rfl) (by simp only [Act.put, sA, sB, sC, i64_w, i32_w]; rfl) ?_
              refine pu 36 71 (bb 37 137438953471) rfl rfl (any_of HT_.out (by kernel_rfl)) (fun _ _ _ h => h) (by rfl) (fun w' => by go_simp; with_reducible rfl) (by simp only [Act.put, sA, sB, sC, i64_w, i32_w]; rfl) ?_
              refine done_ (done_of HT_.out (by kernel_rfl)) ?_
              try go_wp2
              go_meet
              case rel => exact ⟨_, (true), (by first | rfl | (simp; done) | (simp [*]; done)), H', ⟨by have := HJ6.out; first | omega | exact Nat.le_refl _⟩, ⟨by (with_reducible repeat (first | refine blk_drewN ?_ _ | refine blk_drew ?_ | refine blk_alloc ?_ _)); exact BK174.out⟩, ⟨by (with_reducible repeat (first | refine blk_drewN ?_ _ | refine blk_drew ?_ | refine blk_alloc ?_ _)); exact BK217.out⟩, ⟨by repeat (first | (with_reducible first | exact HB.out | apply below_alloc | apply pw_below_drewN | apply below_drew1 | refine below_set ?_ GE174.out | refine below_set ?_ GE217.out) | exact HB.out)⟩⟩
           case rest =>
            clear HC26
            try clear p2
            try clear q2
            try clear hx2
            try clear qi2
            try clear c3
            try clear p22
            try clear q22
            try clear hx22
            try clear qi22
            try clear c33
            try clear c34
            try clear c34b0
            try clear c34b1
            try clear c35
            try clear c36
            try clear c36b0
            try clear c36b1
            try clear c37
            try clear hx220_0
            try clear hx221_0
            try clear p220
            try clear p221
            try clear q220
            try clear q221
            obtain ⟨kq, x71_25, rfl, HA, HJ25, BK174, BK217, HB⟩ := hcut
            cases kq with
            | zero => exact absurd HA.out (by simp [ip_Decode.j1])
            | succ kj25 =>
             have H := HA.out
             clear HA
             simp only [ip_Decode.j1] at H
             by_cases c64 : x71_25 = true
             · subst c64
               have H1 : ((ip_Decode_1.f 2).bind fun bt228 => (some (bt228.1, bt228.2.1, bt228.2.2.1, bt228.2.2.2.1, bt228.2.2.2.2.1, bt228.2.2.2.2.2.1, bt228.2.2.2.2.2.2.1, bt228.2.2.2.2.2.2.2))) = some (r1, r2, r3, r4, r5, r6, r7, r8) := by rw [if_pos rfl] at H; exact H
               clear H
               have H := H1
               clear H1
               replace H := Option.bind_eq_some_iff.mp H
               obtain ⟨⟨t228, t229, t230, t231, t232, t233, t234, t237⟩, A650, H⟩ := H
               replace H : (some (t228, t229, t230, t231, t232, t233, t234, t237)) = some (r1, r2, r3, r4, r5, r6, r7, r8) := H
               have A65 := Aside0.mk A650
               clear A650
               simp only [Option.some.injEq, Prod.mk.injEq] at H
               obtain ⟨rfl, rfl, rfl, rfl, rfl, rfl, rfl, rfl⟩ := H
               go_wp2_with (first | (refine goesV_ (f := 20) (some 109) rfl rfl Try.func20 (by kernel_rfl) rfl #[.int .i64 2] rfl (by first | rfl | (go_simp; rfl)) (by (try simp only [List.map_toArray, List.map_cons, List.map_nil]); first | done | rfl | (simp only [List.length_drop, List.length_take]; rfl)) ?_; (with_reducible refine (ip_Decode_1.calls 2 t228 t229 t230 t231 t232 t233 t234 t237 _ A65.out).mono ?_); rintro e w66 ⟨v235, rfl, ho0, hb⟩; refine ⟨_, rfl, ?_⟩; have n0_ := Aside0.mk (Kd.R_lower ho0 (below_size (by repeat (first | (with_reducible first | exact HB.out | apply below_alloc | apply pw_below_drewN | apply below_drew1 | refine below_set ?_ GE174.out | refine below_set ?_ GE217.out) | exact HB.out)))); have n1_ := Aside0.mk (blk_below (g := gb174) (o := .cells #[.int .u32 0, .int .u32 0, .int .u8 0, .int .u8 0, .int .u16 0, .bool false] 26 (0, 0)) (by (with_reducible repeat (first | refine blk_drewN ?_ _ | refine blk_drew ?_ | refine blk_alloc ?_ _)); exact BK174.out) hb); have n2_ := Aside0.mk (blk_below (g := gb217) (o := .cells #[.int .u32 t210, .int .u32 t211, .int .u8 t212, .int .u8 t213, .int .u16 t214, .bool t215] 26 (0, 0)) (by (with_reducible repeat (first | refine blk_drewN ?_ _ | refine blk_drew ?_ | refine blk_alloc ?_ _)); exact BK217.out) hb); have n3_ := Aside0.mk (below_step (by repeat (first | (with_reducible first | exact HB.out | apply below_alloc | apply pw_below_drewN | apply below_drew1 | refine below_set ?_ GE174.out | refine below_set ?_ GE217.out) | exact HB.out)) hb); clear BK174; clear BK217; clear HB; have HO236 := n0_; have BK174 := n1_; have BK217 := n2_; have HB := n3_; clear n0_ n1_ n2_ n3_; (try clear hb); (try clear hb2); (try clear hk); (try clear hi); (try clear ho0); have hnb67 := NB174_217.out; have hnc67 := NB217_174.out; have hcz68_0 : w66.cell? ⟨gb174, 0, none⟩ = some (.int .u32 0) := (blk_cell BK174.out 0).trans rfl; have hcz68_1 : w66.cell? ⟨gb174, 1, none⟩ = some (.int .u32 0) := (blk_cell BK174.out 1).trans rfl; have hcz68_2 : w66.cell? ⟨gb174, 2, none⟩ = some (.int .u8 0) := (blk_cell BK174.out 2).trans rfl; have hcz68_3 : w66.cell? ⟨gb174, 3, none⟩ = some (.int .u8 0) := (blk_cell BK174.out 3).trans rfl; have hcz68_4 : w66.cell? ⟨gb174, 4, none⟩ = some (.int .u16 0) := (blk_cell BK174.out 4).trans rfl; have hcz68_5 : w66.cell? ⟨gb174, 5, none⟩ = some (.bool false) := (blk_cell BK174.out 5).trans rfl; have hfz68_0 := blk_frozen BK174.out 0; have hfz68_1 := blk_frozen BK174.out 1; have hfz68_2 := blk_frozen BK174.out 2; have hfz68_3 := blk_frozen BK174.out 3; have hfz68_4 := blk_frozen BK174.out 4; have hfz68_5 := blk_frozen BK174.out 5))
               refine bodyPost_ret (results_ctt rfl _ _ gb174 26 #[.int .u32 t228, .int .u32 t229, .int .u8 t230, .int .u8 t231, .int .u16 t232, .bool t233] (0, 0) _ rfl (by (with_reducible repeat (first | refine blk_drewN ?_ _ | refine blk_drew ?_ | refine blk_alloc ?_ _)); refine blk_put (cs := #[.int .u32 t228, .int .u32 t229, .int .u8 t230, .int .u8 t231, .int .u16 t232, .bool false]) ?_ 5 _ rfl; (with_reducible repeat (first | refine blk_drewN ?_ _ | refine blk_drew ?_ | refine blk_alloc ?_ _)); refine blk_put (cs := #[.int .u32 t228, .int .u32 t229, .int .u8 t230, .int .u8 t231, .int .u16 0, .bool false]) ?_ 4 _ rfl; (with_reducible repeat (first | refine blk_drewN ?_ _ | refine blk_drew ?_ | refine blk_alloc ?_ _)); refine blk_put (cs := #[.int .u32 t228, .int .u32 t229, .int .u8 t230, .int .u8 0, .int .u16 0, .bool false]) ?_ 3 _ rfl; (with_reducible repeat (first | refine blk_drewN ?_ _ | refine blk_drew ?_ | refine blk_alloc ?_ _)); refine blk_put (cs := #[.int .u32 t228, .int .u32 t229, .int .u8 0, .int .u8 0, .int .u16 0, .bool false]) ?_ 2 _ rfl; (with_reducible repeat (first | refine blk_drewN ?_ _ | refine blk_drew ?_ | refine blk_alloc ?_ _)); refine blk_put (cs := #[.int .u32 t228, .int .u32 0, .int .u8 0, .int .u8 0, .int .u16 0, .bool false]) ?_ 1 _ rfl; (with_reducible repeat (first | refine blk_drewN ?_ _ | refine blk_drew ?_ | refine blk_alloc ?_ _)); refine blk_put (cs := #[.int .u32 0, .int .u32 0, .int .u8 0, .int .u8 0, .int .u16 0, .bool false]) ?_ 0 _ rfl; (with_reducible repeat (first | refine blk_drewN ?_ _ | refine blk_drew ?_ | refine blk_alloc ?_ _)); exact BK174.out) Try.underlying26 rfl (by kernel_rfl)) rfl ?_
               exact ⟨_, by first | rfl | (simp [errW_none, errW_some] <;> rfl) | (simp [*, errW_none, errW_some] <;> rfl), by (with_reducible repeat (first | apply Kd.R_alloc | apply Kd.R_drewN | apply Kd.R_drew)); exact Kd.R_mono (Kd.R_far (p := ⟨gb174, 5, none⟩) (Kd.R_far (p := ⟨gb174, 4, none⟩) (Kd.R_far (p := ⟨gb174, 3, none⟩) (Kd.R_far (p := ⟨gb174, 2, none⟩) (Kd.R_far (p := ⟨gb174, 1, none⟩) (Kd.R_far (p := ⟨gb174, 0, none⟩) (Kd.R_types HO236.out BK174.out (by decide)) (fun _ hk => hk.2) (.int .u32 t228)) (fun _ hk => hk.2) (.int .u32 t229)) (fun _ hk => hk.2) (.int .u8 t230)) (fun _ hk => hk.2) (.int .u8 t231)) (fun _ hk => hk.2) (.int .u16 t232)) (fun _ hk => hk.2) (.bool t233)) (fun _ hk => trivial), by repeat (first | (with_reducible first | exact HB.out | apply below_alloc | apply pw_below_drewN | apply below_drew1 | refine below_set ?_ GE174.out | refine below_set ?_ GE217.out) | exact HB.out)⟩
             · replace c64 := Bool.eq_false_iff.mpr c64
               subst c64
               have H1 : (if (l0.length : Int) < t216 then ((ip_Decode_1.f 3).bind fun bt238 => (some (bt238.1, bt238.2.1, bt238.2.2.1, bt238.2.2.2.1, bt238.2.2.2.2.1, bt238.2.2.2.2.2.1, bt238.2.2.2.2.2.2.1, bt238.2.2.2.2.2.2.2))) else (if 0 ≤ t198 then (if t198 ≤ t216 then (if t216 ≤ (l0.length : Int) then ((ip_Encode.f kj25 t210 t211 t212 t213 t214 t215 ((l0.take (t216 : Int).toNat).drop (t198 : Int).toNat)).bind fun bt259 => (if 10 < (bt259.1.length : Int) then (if 10 < (l0.length : Int) then (if (rd bt259.1 10) = (rd l0 10) then (if 11 < (bt259.1.length : Int) then (if 11 < (l0.length : Int) then (ip_Decode.j2 kj25 l0 t198 t216 ((rd bt259.1 11) != (rd l0 11)) t210 t211 t212 t213 t214 t215) else (none)) else (none)) else (ip_Decode.j2 kj25 l0 t198 t216 true t210 t211 t212 t213 t214 t215)) else (none)) else (none))) else (none)) else (none)) else (none))) = some (r1, r2, r3, r4, r5, r6, r7, r8) := by rw [if_neg (show ¬ (false = true) by decide)] at H; exact H
               clear H
               have H := H1
               clear H1
               by_cases c69 : (l0.length : Int) < t216
               · rw [if_pos c69] at H
                 have c69b0 : decide ((l0.length : Int) < t216) = true := decide_eq_true c69
                 clear c69
                 replace H := Option.bind_eq_some_iff.mp H
                 obtain ⟨⟨t238, t239, t240, t241, t242, t243, t244, t247⟩, A700, H⟩ := H
                 replace H : (some (t238, t239, t240, t241, t242, t243, t244, t247)) = some (r1, r2, r3, r4, r5, r6, r7, r8) := H
                 have A70 := Aside0.mk A700
                 clear A700
                 simp only [Option.some.injEq, Prod.mk.injEq] at H
                 obtain ⟨rfl, rfl, rfl, rfl, rfl, rfl, rfl, rfl⟩ := H
                 go_wp2_with (first | (refine goesV_ (f := 20) (some 119) rfl rfl Try.func20 (by kernel_rfl) rfl #[.int .i64 3] rfl (by first | rfl | (go_simp; rfl)) (by (try simp only [List.map_toArray, List.map_cons, List.map_nil]); first | done | rfl | (simp only [List.length_drop, List.length_take]; rfl)) ?_; (with_reducible refine (ip_Decode_1.calls 3 t238 t239 t240 t241 t242 t243 t244 t247 _ A70.out).mono ?_); rintro e w71 ⟨v245, rfl, ho0, hb⟩; refine ⟨_, rfl, ?_⟩; have n0_ := Aside0.mk (Kd.R_lower ho0 (below_size (by repeat (first | (with_reducible first | exact HB.out | apply below_alloc | apply pw_below_drewN | apply below_drew1 | refine below_set ?_ GE174.out | refine below_set ?_ GE217.out) | exact HB.out)))); have n1_ := Aside0.mk (blk_below (g := gb174) (o := .cells #[.int .u32 0, .int .u32 0, .int .u8 0, .int .u8 0, .int .u16 0, .bool false] 26 (0, 0)) (by (with_reducible repeat (first | refine blk_drewN ?_ _ | refine blk_drew ?_ | refine blk_alloc ?_ _)); exact BK174.out) hb); have n2_ := Aside0.mk (blk_below (g := gb217) (o := .cells #[.int .u32 t210, .int .u32 t211, .int .u8 t212, .int .u8 t213, .int .u16 t214, .bool t215] 26 (0, 0)) (by (with_reducible repeat (first | refine blk_drewN ?_ _ | refine blk_drew ?_ | refine blk_alloc ?_ _)); exact BK217.out) hb); have n3_ := Aside0.mk (below_step (by repeat (first | (with_reducible first | exact HB.out | apply below_alloc | apply pw_below_drewN | apply below_drew1 | refine below_set ?_ GE174.out | refine below_set ?_ GE217.out) | exact HB.out)) hb); clear BK174; clear BK217; clear HB; have HO246 := n0_; have BK174 := n1_; have BK217 := n2_; have HB := n3_; clear n0_ n1_ n2_ n3_; (try clear hb); (try clear hb2); (try clear hk); (try clear hi); (try clear ho0); have hnb72 := NB174_217.out; have hnc72 := NB217_174.out; have hcz73_0 : w71.cell? ⟨gb174, 0, none⟩ = some (.int .u32 0) := (blk_cell BK174.out 0).trans rfl; have hcz73_1 : w71.cell? ⟨gb174, 1, none⟩ = some (.int .u32 0) := (blk_cell BK174.out 1).trans rfl; have hcz73_2 : w71.cell? ⟨gb174, 2, none⟩ = some (.int .u8 0) := (blk_cell BK174.out 2).trans rfl; have hcz73_3 : w71.cell? ⟨gb174, 3, none⟩ = some (.int .u8 0) := (blk_cell BK174.out 3).trans rfl; have hcz73_4 : w71.cell? ⟨gb174, 4, none⟩ = some (.int .u16 0) := (blk_cell BK174.out 4).trans rfl; have hcz73_5 : w71.cell? ⟨gb174, 5, none⟩ = some (.bool false) := (blk_cell BK174.out 5).trans rfl; have hfz73_0 := blk_frozen BK174.out 0; have hfz73_1 := blk_frozen BK174.out 1; have hfz73_2 := blk_frozen BK174.out 2; have hfz73_3 := blk_frozen BK174.out 3; have hfz73_4 := blk_frozen BK174.out 4; have hfz73_5 := blk_frozen BK174.out 5))
                 refine bodyPost_ret (results_ctt rfl _ _ gb174 26 #[.int .u32 t238, .int .u32 t239, .int .u8 t240, .int .u8 t241, .int .u16 t242, .bool t243] (0, 0) _ rfl (by (with_reducible repeat (first | refine blk_drewN ?_ _ | refine blk_drew ?_ | refine blk_alloc ?_ _)); refine blk_put (cs := #[.int .u32 t238, .int .u32 t239, .int .u8 t240, .int .u8 t241, .int .u16 t242, .bool false]) ?_ 5 _ rfl; (with_reducible repeat (first | refine blk_drewN ?_ _ | refine blk_drew ?_ | refine blk_alloc ?_ _)); refine blk_put (cs := #[.int .u32 t238, .int .u32 t239, .int .u8 t240, .int .u8 t241, .int .u16 0, .bool false]) ?_ 4 _ rfl; (with_reducible repeat (first | refine blk_drewN ?_ _ | refine blk_drew ?_ | refine blk_alloc ?_ _)); refine blk_put (cs := #[.int .u32 t238, .int .u32 t239, .int .u8 t240, .int .u8 0, .int .u16 0, .bool false]) ?_ 3 _ rfl; (with_reducible repeat (first | refine blk_drewN ?_ _ | refine blk_drew ?_ | refine blk_alloc ?_ _)); refine blk_put (cs := #[.int .u32 t238, .int .u32 t239, .int .u8 0, .int .u8 0, .int .u16 0, .bool false]) ?_ 2 _ rfl; (with_reducible repeat (first | refine blk_drewN ?_ _ | refine blk_drew ?_ | refine blk_alloc ?_ _)); refine blk_put (cs := #[.int .u32 t238, .int .u32 0, .int .u8 0, .int .u8 0, .int .u16 0, .bool false]) ?_ 1 _ rfl; (with_reducible repeat (first | refine blk_drewN ?_ _ | refine blk_drew ?_ | refine blk_alloc ?_ _)); refine blk_put (cs := #[.int .u32 0, .int .u32 0, .int .u8 0, .int .u8 0, .int .u16 0, .bool false]) ?_ 0 _ rfl; (with_reducible repeat (first | refine blk_drewN ?_ _ | refine blk_drew ?_ | refine blk_alloc ?_ _)); exact BK174.out) Try.underlying26 rfl (by kernel_rfl)) rfl ?_
                 exact ⟨_, by first | rfl | (simp [errW_none, errW_some] <;> rfl) | (simp [*, errW_none, errW_some] <;> rfl), by (with_reducible repeat (first | apply Kd.R_alloc | apply Kd.R_drewN | apply Kd.R_drew)); exact Kd.R_mono (Kd.R_far (p := ⟨gb174, 5, none⟩) (Kd.R_far (p := ⟨gb174, 4, none⟩) (Kd.R_far (p := ⟨gb174, 3, none⟩) (Kd.R_far (p := ⟨gb174, 2, none⟩) (Kd.R_far (p := ⟨gb174, 1, none⟩) (Kd.R_far (p := ⟨gb174, 0, none⟩) (Kd.R_types HO246.out BK174.out (by decide)) (fun _ hk => hk.2) (.int .u32 t238)) (fun _ hk => hk.2) (.int .u32 t239)) (fun _ hk => hk.2) (.int .u8 t240)) (fun _ hk => hk.2) (.int .u8 t241)) (fun _ hk => hk.2) (.int .u16 t242)) (fun _ hk => hk.2) (.bool t243)) (fun _ hk => trivial), by repeat (first | (with_reducible first | exact HB.out | apply below_alloc | apply pw_below_drewN | apply below_drew1 | refine below_set ?_ GE174.out | refine below_set ?_ GE217.out) | exact HB.out)⟩
               · rw [if_neg c69] at H
                 have c69b0 : decide ((l0.length : Int) < t216) = false := decide_eq_false c69
                 clear c69
                 by_cases c74 : 0 ≤ t198
                 case neg => rw [if_neg c74] at H; exact absurd H (by simp)
                 rw [if_pos c74] at H
                 have c74b0 := eq_true c74
                 have c74b1 : decide (0 ≤ t198) = true := decide_eq_true c74
                 clear c74
                 by_cases c75 : t198 ≤ t216
                 case neg => rw [if_neg c75] at H; exact absurd H (by simp)
                 rw [if_pos c75] at H
                 have c75b0 := eq_true c75
                 have c75b1 : decide (t198 ≤ t216) = true := decide_eq_true c75
                 clear c75
                 by_cases c76 : t216 ≤ (l0.length : Int)
                 case neg => rw [if_neg c76] at H; exact absurd H (by simp)
                 rw [if_pos c76] at H
                 have c76b0 := eq_true c76
                 have c76b1 : decide (t216 ≤ (l0.length : Int)) = true := decide_eq_true c76
                 clear c76
                 replace H := Option.bind_eq_some_iff.mp H
                 obtain ⟨⟨t259, t262⟩, A770, H⟩ := H
                 replace H : (if 10 < (t259.length : Int) then (if 10 < (l0.length : Int) then (if (rd t259 10) = (rd l0 10) then (if 11 < (t259.length : Int) then (if 11 < (l0.length : Int) then (ip_Decode.j2 kj25 l0 t198 t216 ((rd t259 11) != (rd l0 11)) t210 t211 t212 t213 t214 t215) else (none)) else (none)) else (ip_Decode.j2 kj25 l0 t198 t216 true t210 t211 t212 t213 t214 t215)) else (none)) else (none)) = some (r1, r2, r3, r4, r5, r6, r7, r8) := H
                 have A77 := Aside0.mk A770
                 clear A770
                 have HC78 := Aside0.mk H
                 clear H
                 try go_wp2
                 have n0_ := Aside0.mk (blk_drew BK174.out)
                 have n1_ := Aside0.mk (blk_drew BK217.out)
                 have n2_ := Aside0.mk (below_drew1 HB.out)
                 clear BK174
                 clear BK217
                 clear HB
                 have BK174 := n0_
                 have BK217 := n1_
                 have HB := n2_
                 clear n0_ n1_ n2_
                 obtain ⟨i080, hi080, _, hsz80, _⟩ := info_parts info5
                 obtain ⟨A80, hcut80, hA80, hC80⟩ := print_mid_of (P := Try.prog) (Value.int .u8) 0 27 5 .i64 .i64 Try.underlying27 hi080 hsz80 (some ad197) c0 l0 t198 t216 (of_decide_eq_true (by first | (with_reducible assumption) | assumption)) (by first | omega | exact of_decide_eq_true (by first | (with_reducible assumption) | assumption)) (of_decide_eq_true (by first | (with_reducible assumption) | assumption)) HC0.out
                 have HR258 := Aside0.mk (Kd.C_of_reads (h1 := fun _ => rfl) (hA80 _ (Kd.reads_of_C HR0.out)))
                 have HC258 := Aside0.mk hC80
                 clear hA80 hC80 hi080 hsz80
                 refine start_ (n := 11) (S := fun w' => w'.cell? ⟨gb217, 0, none⟩ = some (.int .u32 t210) ∧ w'.cell? ⟨gb217, 1, none⟩ = some (.int .u32 t211) ∧ w'.cell? ⟨gb217, 2, none⟩ = some (.int .u8 t212) ∧ w'.cell? ⟨gb217, 3, none⟩ = some (.int .u8 t213) ∧ w'.cell? ⟨gb217, 4, none⟩ = some (.int .u16 t214) ∧ w'.cell? ⟨gb217, 5, none⟩ = some (.bool t215)) (ds := []) #[false, false, false, false, false, false, false, false, false, false, false] (by kernel_rfl) rfl rfl ⟨(blk_cell BK217.out 0).trans rfl, (blk_cell BK217.out 1).trans rfl, (blk_cell BK217.out 2).trans rfl, (blk_cell BK217.out 3).trans rfl, (blk_cell BK217.out 4).trans rfl, (blk_cell BK217.out 5).trans rfl⟩ (fun hHeld => ?_); refine with_tabW ip_Decode.tab16 ip_Decode.bits16 (fun HT_ HW_ => ?_)
                 generalize wc.drew = w79 at BK174 BK217 HB HR258 hHeld ⊢
                 refine pu 1 125 (bb 11 2) rfl rfl (any_of HT_.out (by kernel_rfl)) (fun _ _ _ h => h) (by rfl) (fun w' => by go_simp; with_reducible rfl) (by simp only [Act.put, sA, sB, sC, i64_w, i32_w]; rfl) ?_
                 refine pu 2 126 (bb 11 6) rfl rfl (any_of HT_.out (by kernel_rfl)) (fun _ _ _ h => h) (by rfl) (fun w' => by go_simp; with_reducible rfl) (by simp only [Act.put, sA, sB, sC, i64_w, i32_w]; rfl) ?_
                 refine pu 3 127 (bb 11 14) rfl rfl (any_of HT_.out (by kernel_rfl)) (fun _ _ _ h => h) (by rfl) (fun w' => by go_simp; with_reducible rfl) (by simp only [Act.put, sA, sB, sC, i64_w, i32_w]; rfl) ?_
                 refine pu 4 128 (bb 11 30) rfl rfl (any_of HT_.out (by kernel_rfl)) (fun _ _ _ h => h) (by rfl) (fun w' => by go_simp; with_reducible rfl) (by simp only [Act.put, sA, sB, sC, i64_w, i32_w]; rfl) ?_
                 refine take_ (i := 0) (N := some 124) (v := ?_) (a' := ?_) (bb 11 31) rfl rfl (take_ofW HT_.out HW_.out (by kernel_rfl)) (fun _ _ _ h => h) (Or.inl ⟨by rfl, ?_⟩) hHeld ?_ ?_
                 rotate_left
                 · rintro w' ⟨s0, s1, s2, s3, s4, s5⟩
                   go_simp
                   with_reducible rfl
                 rotate_left
                 · simp only [Act.put, sA, sB, sC, i64_w, i32_w]
                   rfl
                 refine one_ (i := 5) (N := some 129) (bb 11 63) rfl rfl (one_of HT_.out (by kernel_rfl)) (by decide) (fun K hK => ?_)
                 refine goes_ Try.func10 (by kernel_rfl) rfl #[.agg #[.int .u32 t210, .int .u32 t211, .int .u8 t212, .int .u8 t213, .int .u16 t214, .bool t215], .slice A80 ((l0.take (t216 : Int).toNat).drop (t198 : Int).toNat).length (c0 - t198.toNat)] (by rfl) rfl rfl (by (try simp only [List.map_toArray, List.map_cons, List.map_nil]); first | done | (rw [show ((l0.take (t216 : Int).toNat).drop (t198 : Int).toNat).length = (t216.toNat - t198.toNat) from (by rw [List.length_drop, List.length_take]; have h_ : (t216 : Int) ≤ (l0.length : Int) := of_decide_eq_true (by first | (with_reducible assumption) | assumption); omega)] <;> rfl) | rfl | (simp only [List.length_drop, List.length_take]; rfl)) ?_
                 with_reducible refine (ip_Encode.calls kj25 t210 t211 t212 t213 t214 t215 (fun k_ => k_ < w.heap.size) _ _ ((l0.take (t216 : Int).toNat).drop (t198 : Int).toNat) t259 t262 _ ?side1 A77.out).mono ?_
                 (case side1 => exact Kd.V_mk HC258.out (Kd.F_below (Kd.C_F (Kd.heap_int .u8) HR258.out) (by repeat (first | (with_reducible first | exact HB.out | apply below_alloc | apply pw_below_drewN | apply below_drew1 | refine below_set ?_ GE174.out | refine below_set ?_ GE217.out) | exact HB.out))))
                 rintro e w81 ⟨v260, rfl, ho0, hb⟩
                 refine ⟨_, rfl, ?_⟩
                 have n0_ := Aside0.mk (Kd.R_lower (Kd.R_mono (ok' := fun k_ => True) ho0 (fun _ hk_ => trivial)) (below_size (by repeat (first | (with_reducible first | exact HB.out | apply below_alloc | apply pw_below_drewN | apply below_drew1 | refine below_set ?_ GE174.out | refine below_set ?_ GE217.out) | exact HB.out))))
                 have n1_ := Aside0.mk (blk_below (g := gb174) (o := .cells #[.int .u32 0, .int .u32 0, .int .u8 0, .int .u8 0, .int .u16 0, .bool false] 26 (0, 0)) (by (with_reducible repeat (first | refine blk_drewN ?_ _ | refine blk_drew ?_ | refine blk_alloc ?_ _)); exact BK174.out) hb)
                 have n2_ := Aside0.mk (blk_below (g := gb217) (o := .cells #[.int .u32 t210, .int .u32 t211, .int .u8 t212, .int .u8 t213, .int .u16 t214, .bool t215] 26 (0, 0)) (by (with_reducible repeat (first | refine blk_drewN ?_ _ | refine blk_drew ?_ | refine blk_alloc ?_ _)); exact BK217.out) hb)
                 have n3_ := Aside0.mk (below_step (by repeat (first | (with_reducible first | exact HB.out | apply below_alloc | apply pw_below_drewN | apply below_drew1 | refine below_set ?_ GE174.out | refine below_set ?_ GE217.out) | exact HB.out)) hb)
                 clear BK174
                 clear BK217
                 clear HB
                 have HO261 := n0_
                 have BK174 := n1_
                 have BK217 := n2_
                 have HB := n3_
                 clear n0_ n1_ n2_ n3_
                 (try clear hb)
                 (try clear hb2)
                 (try clear hk)
                 (try clear hi)
                 (try clear ho0)
                 refine hK.out _ _ ⟨(blk_cell BK217.out 0).trans rfl, (blk_cell BK217.out 1).trans rfl, (blk_cell BK217.out 2).trans rfl, (blk_cell BK217.out 3).trans rfl, (blk_cell BK217.out 4).trans rfl, (blk_cell BK217.out 5).trans rfl⟩ (fun hHeld => ?_)
                 clear hK K
                 refine norm_ (a' := ?_) ?_ ?_
                 rotate_left
                 · show Act.put _ (some 129) _ = _
                   simp only [Act.put, sA, sB, sC, i64_w, i32_w]
                   rfl
                 refine pu 6 123 (bb 11 127) rfl rfl (any_of HT_.out (by kernel_rfl)) (fun _ _ _ h => h) (by rfl) (fun w' => by go_simp; with_reducible rfl) (by simp only [Act.put, sA, sB, sC, i64_w, i32_w]; rfl) ?_
                 refine pu 7 130 (bb 11 255) rfl rfl (any_of HT_.out (by kernel_rfl)) (fun _ _ _ h => h) (by rfl) (fun w' => by go_simp; with_reducible rfl) (by simp only [Act.put, sA, sB, sC, i64_w, i32_w]; rfl) ?_
                 refine pu 8 131 (bb 11 511) rfl rfl (any_of HT_.out (by kernel_rfl)) (fun _ _ _ h => h) (by rfl) (fun w' => by go_simp; with_reducible rfl) (by simp only [Act.put, sA, sB, sC, i64_w, i32_w]; rfl) ?_
                 refine pu 9 9 (bb 11 1023) rfl rfl (any_of HT_.out (by kernel_rfl)) (fun _ _ _ h => h) (by rfl) (fun w' => by go_simp; with_reducible rfl) (by simp only [Act.put, sA, sB, sC, i64_w, i32_w]; rfl) ?_
                 refine pu 10 10 (bb 11 2047) rfl rfl (any_of HT_.out (by kernel_rfl)) (fun _ _ _ h => h) (by rfl) (fun w' => by go_simp; with_reducible rfl) (by simp only [Act.put, sA, sB, sC, i64_w, i32_w]; rfl) ?_
                 refine done_ (done_of HT_.out (by kernel_rfl)) ?_
                 go_upto_region 17 with (fail)
                 go_cut [147] (fun v147 wc => ∃ (kq : Nat) (x147_77 : Bool), v147 = .bool x147_77 ∧ Aside0 (ip_Decode.j2 kq l0 t198 t216 x147_77 t210 t211 t212 t213 t214 t215 = some (r1, r2, r3, r4, r5, r6, r7, r8)) ∧ Aside0 (kq ≤ kj25) ∧ Aside0 (wc.heap[gb174]? = some (.cells #[.int .u32 0, .int .u32 0, .int .u8 0, .int .u8 0, .int .u16 0, .bool false] 26 (0, 0))) ∧ Aside0 (wc.heap[gb217]? = some (.cells #[.int .u32 t210, .int .u32 t211, .int .u8 t212, .int .u8 t213, .int .u16 t214, .bool t215] 26 (0, 0))) ∧ Aside0 (Below w.heap.size w wc))
                 case first =>
                  have H := HC78.out
                  clear HC78
                  by_cases c82 : 10 < (t259.length : Int)
                  case neg => rw [if_neg c82] at H; exact absurd H (by simp)
                  rw [if_pos c82] at H
                  have c82b0 : decide (10 < (t259.length : Int)) = true := decide_eq_true c82
                  have c82b1 : decide (10 < t259.length) = true := decide_eq_true (by omega)
                  clear c82
                  (first | rw [c82b0] | (simp only [i64_w, i32_w]; rw [c82b0]) | skip)
                  by_cases c83 : 10 < (l0.length : Int)
                  case neg => rw [if_neg c83] at H; exact absurd H (by simp)
                  rw [if_pos c83] at H
                  have c83b0 : decide (10 < (l0.length : Int)) = true := decide_eq_true c83
                  have c83b1 : decide (10 < l0.length) = true := decide_eq_true (by omega)
                  clear c83
                  by_cases c84 : (rd t259 10) = (rd l0 10)
                  · rw [if_pos c84] at H
                    have c84b0 : ((rd t259 10) == (rd l0 10)) = true := beq_iff_eq.mpr c84
                    have c84b1 : ((rd t259 10) != (rd l0 10)) = false := bne_eq_false_iff_eq.mpr c84
                    clear c84
                    by_cases c85 : 11 < (t259.length : Int)
                    case neg => rw [if_neg c85] at H; exact absurd H (by simp)
                    rw [if_pos c85] at H
                    have c85b0 : decide (11 < (t259.length : Int)) = true := decide_eq_true c85
                    have c85b1 : decide (11 < t259.length) = true := decide_eq_true (by omega)
                    clear c85
                    by_cases c86 : 11 < (l0.length : Int)
                    case neg => rw [if_neg c86] at H; exact absurd H (by simp)
                    rw [if_pos c86] at H
                    have c86b0 : decide (11 < (l0.length : Int)) = true := decide_eq_true c86
                    have c86b1 : decide (11 < l0.length) = true := decide_eq_true (by omega)
                    clear c86
                    have H' := Aside0.mk H
                    clear H
                    try go_wp2
                    have n0_ := Aside0.mk (Kd.R_drew HO261.out)
                    have n1_ := Aside0.mk (blk_drew BK174.out)
                    have n2_ := Aside0.mk (blk_drew BK217.out)
                    have n3_ := Aside0.mk (below_drew1 HB.out)
                    clear HO261
                    clear BK174
                    clear BK217
                    clear HB
                    have HO261 := n0_
                    have BK174 := n1_
                    have BK217 := n2_
                    have HB := n3_
                    clear n0_ n1_ n2_ n3_
                    obtain ⟨Ao88, co88, eo88⟩ := Kd.R_slice HO261.out
                    (first | subst eo88 | (injection eo88 with f1_ f2_ f3_; have f4_ := f1_.symm; have f5_ := f3_.symm; clear f1_ f2_ f3_; subst f4_; subst f5_))
                    have p263 : 0 ≤ (10 : Int) := (by omega)
                    have q263 : 10 < (t259.length : Int) := of_decide_eq_true (by first | (with_reducible assumption) | assumption)
                    obtain ⟨ad263, e263, hx263_0⟩ := Kd.at_int (Kd.R_reads' HO261.out).2.2 10 p263 q263
                    cases e263
                    (try simp only [show (10 : Int).toNat = 10 from rfl, Nat.reduceMul, Nat.reduceEqDiff, Go.Addr.add, ↓reduceIte] at hx263_0)
                    have qi263 : (10 < t259.length) = True := eq_true (by omega)
                    (try rw [show ((10 : Int)).toNat = 10 from rfl] at hx263_0)
                    replace p263 := eq_true p263
                    replace q263 := eq_true q263
                    have p264 : 0 ≤ (10 : Int) := (by omega)
                    have q264 : 10 < (l0.length : Int) := of_decide_eq_true (by first | (with_reducible assumption) | assumption)
                    obtain ⟨ad264, e264, hx264_0⟩ := Kd.at_int HR0.out 10 p264 q264
                    have hw264_0 := hx264_0
                    (try rw [show ((10 : Int)).toNat = 10 from rfl] at hw264_0)
                    (try rw [show 10 * 1 = 10 from rfl] at hw264_0)
                    (try simp only [Nat.reduceMul, Nat.reduceEqDiff, Go.Addr.add, ↓reduceIte] at hw264_0)
                    obtain rfl : ad197 = ad264 := (by injection e264)
                    (try simp only [show (10 : Int).toNat = 10 from rfl, Nat.reduceMul, Nat.reduceEqDiff, Go.Addr.add, ↓reduceIte] at hx264_0)
                    have qi264 : (10 < l0.length) = True := eq_true (by omega)
                    (try rw [show ((10 : Int)).toNat = 10 from rfl] at hx264_0)
                    replace hx264_0 := (HB.out.cell (World.block_lt_of_cell? w _ hx264_0)).trans hx264_0
                    replace p264 := eq_true p264
                    replace q264 := eq_true q264
                    have p265 : 0 ≤ (11 : Int) := (by omega)
                    have q265 : 11 < (t259.length : Int) := of_decide_eq_true (by first | (with_reducible assumption) | assumption)
                    obtain ⟨ad265, e265, hx265_0⟩ := Kd.at_int (Kd.R_reads' HO261.out).2.2 11 p265 q265
                    obtain rfl : ad263 = ad265 := (by injection e265)
                    (try simp only [show (11 : Int).toNat = 11 from rfl, Nat.reduceMul, Nat.reduceEqDiff, Go.Addr.add, ↓reduceIte] at hx265_0)
                    have qi265 : (11 < t259.length) = True := eq_true (by omega)
                    (try rw [show ((11 : Int)).toNat = 11 from rfl] at hx265_0)
                    replace p265 := eq_true p265
                    replace q265 := eq_true q265
                    have p266 : 0 ≤ (11 : Int) := (by omega)
                    have q266 : 11 < (l0.length : Int) := of_decide_eq_true (by first | (with_reducible assumption) | assumption)
                    obtain ⟨ad266, e266, hx266_0⟩ := Kd.at_int HR0.out 11 p266 q266
                    have hw266_0 := hx266_0
                    (try rw [show ((11 : Int)).toNat = 11 from rfl] at hw266_0)
                    (try rw [show 11 * 1 = 11 from rfl] at hw266_0)
                    (try simp only [Nat.reduceMul, Nat.reduceEqDiff, Go.Addr.add, ↓reduceIte] at hw266_0)
                    obtain rfl : ad197 = ad266 := (by injection e266)
                    (try simp only [show (11 : Int).toNat = 11 from rfl, Nat.reduceMul, Nat.reduceEqDiff, Go.Addr.add, ↓reduceIte] at hx266_0)
                    have qi266 : (11 < l0.length) = True := eq_true (by omega)
                    (try rw [show ((11 : Int)).toNat = 11 from rfl] at hx266_0)
                    replace hx266_0 := (HB.out.cell (World.block_lt_of_cell? w _ hx266_0)).trans hx266_0
                    replace p266 := eq_true p266
                    replace q266 := eq_true q266
                    refine start_ (n := 16) (S := fun w' => w'.cell? ⟨ad263.block, ad263.off + 10, none⟩ = some (.int .u8 (rd t259 10)) ∧ w'.cell? ⟨ad197.block, ad197.off + 10, none⟩ = some (.int .u8 (rd l0 10)) ∧ w'.cell? ⟨ad263.block, ad263.off + 11, none⟩ = some (.int .u8 (rd t259 11)) ∧ w'.cell? ⟨ad197.block, ad197.off + 11, none⟩ = some (.int .u8 (rd l0 11))) (ds := []) #[false, false, false, false, false, false, false, false, false, false, false, false, false, false, false, false] (by kernel_rfl) rfl rfl ⟨hx263_0, ((HB.out.cell (World.block_lt_of_cell? w _ hw264_0)).trans hw264_0), hx265_0, ((HB.out.cell (World.block_lt_of_cell? w _ hw266_0)).trans hw266_0)⟩ (fun hHeld => ?_); refine with_tabW ip_Decode.tab17 ip_Decode.bits17 (fun HT_ HW_ => ?_)
                    generalize w81.drew = w87 at HO261 BK174 BK217 HB hx263_0 hx264_0 hx265_0 hx266_0 hHeld ⊢
                    refine pu 0 132 (bb 16 1) rfl rfl (any_of HT_.out (by kernel_rfl)) (fun _ _ _ h => h) (by rfl) (fun w' => by go_simp; with_reducible rfl) (by simp only [Act.put, sA, sB, sC, i64_w, i32_w]; rfl) ?_
                    refine pu 1 133 (bb 16 3) rfl rfl (any_of HT_.out (by kernel_rfl)) (fun _ _ _ h => h) (by rfl) (fun w' => by go_simp; with_reducible rfl) (by simp only [Act.put, sA, sB, sC, i64_w, i32_w]; rfl) ?_
                    refine pu 3 135 (bb 16 11) rfl rfl (any_of HT_.out (by kernel_rfl)) (fun _ _ _ h => h) (by rfl) (fun w' => by go_simp; with_reducible rfl) (by simp only [Act.put, sA, sB, sC, i64_w, i32_w]; rfl) ?_
                    refine pu 4 136 (bb 16 27) rfl rfl (any_of HT_.out (by kernel_rfl)) (fun _ _ _ h => h) (by rfl) (fun w' => by go_simp; with_reducible rfl) (by simp only [Act.put, sA, sB, sC, i64_w, i32_w]; rfl) ?_
                    refine take_ (i := 2) (N := some 134) (v := ?_) (a' := ?_) (bb 16 31) rfl rfl (take_ofW HT_.out HW_.out (by kernel_rfl)) (fun _ _ _ h => h) (Or.inl ⟨by rfl, ?_⟩) hHeld ?_ ?_
                    rotate_left
                    · rintro w' ⟨s0, s1, s2, s3⟩
                      go_simp
                      with_reducible rfl
                    rotate_left
                    · simp only [Act.put, sA, sB, sC, i64_w, i32_w]
                      rfl
                    refine take_ (i := 5) (N := some 137) (v := ?_) (a' := ?_) (bb 16 63) rfl rfl (take_ofW HT_.out HW_.out (by kernel_rfl)) (fun _ _ _ h => h) (Or.inl ⟨by rfl, ?_⟩) hHeld ?_ ?_
                    rotate_left
                    · rintro w' ⟨s0, s1, s2, s3⟩
                      go_simp
                      with_reducible rfl
                    rotate_left
                    · simp only [Act.put, sA, sB, sC, i64_w, i32_w]
                      rfl
                    refine pu 6 138 (bb 16 127) rfl rfl (any_of HT_.out (by kernel_rfl)) (fun _ _ _ h => h) (by rfl) (fun w' => by go_simp; with_reducible rfl) (by simp only [Act.put, sA, sB, sC, i64_w, i32_w]; rfl) ?_
                    refine pu 7 139 (bb 16 255) rfl rfl (any_of HT_.out (by kernel_rfl)) (fun _ _ _ h => h) (by rfl) (fun w' => by go_simp; with_reducible rfl) (by simp only [Act.put, sA, sB, sC, i64_w, i32_w]; rfl) ?_
                    refine pu 8 140 (bb 16 511) rfl rfl (any_of HT_.out (by kernel_rfl)) (fun _ _ _ h => h) (by rfl) (fun w' => by go_simp; with_reducible rfl) (by simp only [Act.put, sA, sB, sC, i64_w, i32_w]; rfl) ?_
                    refine pu 9 141 (bb 16 1023) rfl rfl (any_of HT_.out (by kernel_rfl)) (fun _ _ _ h => h) (by rfl) (fun w' => by go_simp; with_reducible rfl) (by simp only [Act.put, sA, sB, sC, i64_w, i32_w]; rfl) ?_
                    refine pu 11 143 (bb 16 3071) rfl rfl (any_of HT_.out (by kernel_rfl)) (fun _ _ _ h => h) (by rfl) (fun w' => by go_simp; with_reducible rfl) (by simp only [Act.put, sA, sB, sC, i64_w, i32_w]; rfl) ?_
                    refine pu 12 144 (bb 16 7167) rfl rfl (any_of HT_.out (by kernel_rfl)) (fun _ _ _ h => h) (by rfl) (fun w' => by go_simp; with_reducible rfl) (by simp only [Act.put, sA, sB, sC, i64_w, i32_w]; rfl) ?_
                    refine take_ (i := 10) (N := some 142) (v := ?_) (a' := ?_) (bb 16 8191) rfl rfl (take_ofW HT_.out HW_.out (by kernel_rfl)) (fun _ _ _ h => h) (Or.inl ⟨by rfl, ?_⟩) hHeld ?_ ?_
                    rotate_left
                    · rintro w' ⟨s0, s1, s2, s3⟩
                      go_simp
                      with_reducible rfl
                    rotate_left
                    · simp only [Act.put, sA, sB, sC, i64_w, i32_w]
                      rfl
                    refine take_ (i := 13) (N := some 145) (v := ?_) (a' := ?_) (bb 16 16383) rfl rfl (take_ofW HT_.out HW_.out (by kernel_rfl)) (fun _ _ _ h => h) (Or.inl ⟨by rfl, ?_⟩) hHeld ?_ ?_
                    rotate_left
                    · rintro w' ⟨s0, s1, s2, s3⟩
                      go_simp
                      with_reducible rfl
                    rotate_left
                    · simp only [Act.put, sA, sB, sC, i64_w, i32_w]
                      rfl
                    refine pu 14 146 (bb 16 32767) rfl rfl (any_of HT_.out (by kernel_rfl)) (fun _ _ _ h => h) (by rfl) (fun w' => by go_simp; with_reducible rfl) (by simp only [Act.put, sA, sB, sC, i64_w, i32_w]; rfl) ?_
                    refine pu 15 147 (bb 16 65535) rfl rfl (any_of HT_.out (by kernel_rfl)) (fun _ _ _ h => h) (by rfl) (fun w' => by go_simp; with_reducible rfl) (by simp only [Act.put, sA, sB, sC, i64_w, i32_w]; rfl) ?_
                    refine done_ (done_of HT_.out (by kernel_rfl)) ?_
                    try go_wp2
                    go_meet
                    case rel => exact ⟨_, (((rd t259 11) != (rd l0 11))), (by first | rfl | (simp; done) | (simp [*]; done)), H', ⟨by have := HJ6.out; have := HJ25.out; first | omega | exact Nat.le_refl _⟩, ⟨by (with_reducible repeat (first | refine blk_drewN ?_ _ | refine blk_drew ?_ | refine blk_alloc ?_ _)); exact BK174.out⟩, ⟨by (with_reducible repeat (first | refine blk_drewN ?_ _ | refine blk_drew ?_ | refine blk_alloc ?_ _)); exact BK217.out⟩, ⟨by repeat (first | (with_reducible first | exact HB.out | apply below_alloc | apply pw_below_drewN | apply below_drew1 | refine below_set ?_ GE174.out | refine below_set ?_ GE217.out) | exact HB.out)⟩⟩
                  · rw [if_neg c84] at H
                    have c84b0 : ((rd t259 10) == (rd l0 10)) = false := beq_eq_false_iff_ne.mpr c84
                    have c84b1 : ((rd t259 10) != (rd l0 10)) = true := bne_iff_ne.mpr c84
                    have H' := Aside0.mk H
                    clear H
                    try go_wp2
                    have n0_ := Aside0.mk (Kd.R_drew HO261.out)
                    have n1_ := Aside0.mk (blk_drew BK174.out)
                    have n2_ := Aside0.mk (blk_drew BK217.out)
                    have n3_ := Aside0.mk (below_drew1 HB.out)
                    clear HO261
                    clear BK174
                    clear BK217
                    clear HB
                    have HO261 := n0_
                    have BK174 := n1_
                    have BK217 := n2_
                    have HB := n3_
                    clear n0_ n1_ n2_ n3_
                    obtain ⟨Ao90, co90, eo90⟩ := Kd.R_slice HO261.out
                    (first | subst eo90 | (injection eo90 with f1_ f2_ f3_; have f4_ := f1_.symm; have f5_ := f3_.symm; clear f1_ f2_ f3_; subst f4_; subst f5_))
                    have p263 : 0 ≤ (10 : Int) := (by omega)
                    have q263 : 10 < (t259.length : Int) := of_decide_eq_true (by first | (with_reducible assumption) | assumption)
                    obtain ⟨ad263, e263, hx263_0⟩ := Kd.at_int (Kd.R_reads' HO261.out).2.2 10 p263 q263
                    cases e263
                    (try simp only [show (10 : Int).toNat = 10 from rfl, Nat.reduceMul, Nat.reduceEqDiff, Go.Addr.add, ↓reduceIte] at hx263_0)
                    have qi263 : (10 < t259.length) = True := eq_true (by omega)
                    (try rw [show ((10 : Int)).toNat = 10 from rfl] at hx263_0)
                    replace p263 := eq_true p263
                    replace q263 := eq_true q263
                    have p264 : 0 ≤ (10 : Int) := (by omega)
                    have q264 : 10 < (l0.length : Int) := of_decide_eq_true (by first | (with_reducible assumption) | assumption)
                    obtain ⟨ad264, e264, hx264_0⟩ := Kd.at_int HR0.out 10 p264 q264
                    have hw264_0 := hx264_0
                    (try rw [show ((10 : Int)).toNat = 10 from rfl] at hw264_0)
                    (try rw [show 10 * 1 = 10 from rfl] at hw264_0)
                    (try simp only [Nat.reduceMul, Nat.reduceEqDiff, Go.Addr.add, ↓reduceIte] at hw264_0)
                    obtain rfl : ad197 = ad264 := (by injection e264)
                    (try simp only [show (10 : Int).toNat = 10 from rfl, Nat.reduceMul, Nat.reduceEqDiff, Go.Addr.add, ↓reduceIte] at hx264_0)
                    have qi264 : (10 < l0.length) = True := eq_true (by omega)
                    (try rw [show ((10 : Int)).toNat = 10 from rfl] at hx264_0)
                    replace hx264_0 := (HB.out.cell (World.block_lt_of_cell? w _ hx264_0)).trans hx264_0
                    replace p264 := eq_true p264
                    replace q264 := eq_true q264
                    refine start_ (n := 16) (S := fun w' => w'.cell? ⟨ad263.block, ad263.off + 10, none⟩ = some (.int .u8 (rd t259 10)) ∧ w'.cell? ⟨ad197.block, ad197.off + 10, none⟩ = some (.int .u8 (rd l0 10))) (ds := []) #[false, false, false, false, false, false, false, false, false, false, false, false, false, false, false, false] (by kernel_rfl) rfl rfl ⟨hx263_0, ((HB.out.cell (World.block_lt_of_cell? w _ hw264_0)).trans hw264_0)⟩ (fun hHeld => ?_); refine with_tabW ip_Decode.tab17 ip_Decode.bits17 (fun HT_ HW_ => ?_)
                    generalize w81.drew = w89 at HO261 BK174 BK217 HB hx263_0 hx264_0 hHeld ⊢
                    refine pu 0 132 (bb 16 1) rfl rfl (any_of HT_.out (by kernel_rfl)) (fun _ _ _ h => h) (by rfl) (fun w' => by go_simp; with_reducible rfl) (by simp only [Act.put, sA, sB, sC, i64_w, i32_w]; rfl) ?_
                    refine pu 1 133 (bb 16 3) rfl rfl (any_of HT_.out (by kernel_rfl)) (fun _ _ _ h => h) (by rfl) (fun w' => by go_simp; with_reducible rfl) (by simp only [Act.put, sA, sB, sC, i64_w, i32_w]; rfl) ?_
                    refine pu 3 135 (bb 16 11) rfl rfl (any_of HT_.out (by kernel_rfl)) (fun _ _ _ h => h) (by rfl) (fun w' => by go_simp; with_reducible rfl) (by simp only [Act.put, sA, sB, sC, i64_w, i32_w]; rfl) ?_
                    refine pu 4 136 (bb 16 27) rfl rfl (any_of HT_.out (by kernel_rfl)) (fun _ _ _ h => h) (by rfl) (fun w' => by go_simp; with_reducible rfl) (by simp only [Act.put, sA, sB, sC, i64_w, i32_w]; rfl) ?_
                    refine take_ (i := 2) (N := some 134) (v := ?_) (a' := ?_) (bb 16 31) rfl rfl (take_ofW HT_.out HW_.out (by kernel_rfl)) (fun _ _ _ h => h) (Or.inl ⟨by rfl, ?_⟩) hHeld ?_ ?_
                    rotate_left
                    · rintro w' ⟨s0, s1⟩
                      go_simp
                      with_reducible rfl
                    rotate_left
                    · simp only [Act.put, sA, sB, sC, i64_w, i32_w]
                      rfl
                    refine take_ (i := 5) (N := some 137) (v := ?_) (a' := ?_) (bb 16 63) rfl rfl (take_ofW HT_.out HW_.out (by kernel_rfl)) (fun _ _ _ h => h) (Or.inl ⟨by rfl, ?_⟩) hHeld ?_ ?_
                    rotate_left
                    · rintro w' ⟨s0, s1⟩
                      go_simp
                      with_reducible rfl
                    rotate_left
                    · simp only [Act.put, sA, sB, sC, i64_w, i32_w]
                      rfl
                    refine pu 6 138 (bb 16 127) rfl rfl (any_of HT_.out (by kernel_rfl)) (fun _ _ _ h => h) (by rfl) (fun w' => by go_simp; with_reducible rfl) (by simp only [Act.put, sA, sB, sC, i64_w, i32_w]; rfl) ?_
                    refine pu 7 139 (bb 16 255) rfl rfl (any_of HT_.out (by kernel_rfl)) (fun _ _ _ h => h) (by rfl) (fun w' => by go_simp; with_reducible rfl) (by simp only [Act.put, sA, sB, sC, i64_w, i32_w]; rfl) ?_
                    refine pure_ (i := 8) (N := some 140) (v := undef) (a' := ?_) (bb 16 511) rfl rfl (any_of HT_.out (by kernel_rfl)) (fun _ _ _ h => h) (Or.inr ⟨by rfl, rfl⟩) ?_ ?_
                    rotate_left
                    · simp only [Act.put, sA, sB, sC, i64_w, i32_w]
                      rfl
                    refine pure_ (i := 9) (N := some 141) (v := undef) (a' := ?_) (bb 16 1023) rfl rfl (any_of HT_.out (by kernel_rfl)) (fun _ _ _ h => h) (Or.inr ⟨by rfl, rfl⟩) ?_ ?_
                    rotate_left
                    · simp only [Act.put, sA, sB, sC, i64_w, i32_w]
                      rfl
                    refine pure_ (i := 10) (N := some 142) (v := undef) (a' := ?_) (bb 16 2047) rfl rfl (any_of HT_.out (by kernel_rfl)) (fun _ _ _ h => h) (Or.inr ⟨by rfl, rfl⟩) ?_ ?_
                    rotate_left
                    · simp only [Act.put, sA, sB, sC, i64_w, i32_w]
                      rfl
                    refine pure_ (i := 11) (N := some 143) (v := undef) (a' := ?_) (bb 16 4095) rfl rfl (any_of HT_.out (by kernel_rfl)) (fun _ _ _ h => h) (Or.inr ⟨by rfl, rfl⟩) ?_ ?_
                    rotate_left
                    · simp only [Act.put, sA, sB, sC, i64_w, i32_w]
                      rfl
                    refine pure_ (i := 12) (N := some 144) (v := undef) (a' := ?_) (bb 16 8191) rfl rfl (any_of HT_.out (by kernel_rfl)) (fun _ _ _ h => h) (Or.inr ⟨by rfl, rfl⟩) ?_ ?_
                    rotate_left
                    · simp only [Act.put, sA, sB, sC, i64_w, i32_w]
                      rfl
                    refine pure_ (i := 13) (N := some 145) (v := undef) (a' := ?_) (bb 16 16383) rfl rfl (any_of HT_.out (by kernel_rfl)) (fun _ _ _ h => h) (Or.inr ⟨by rfl, rfl⟩) ?_ ?_
                    rotate_left
                    · simp only [Act.put, sA, sB, sC, i64_w, i32_w]
                      rfl
                    refine pure_ (i := 14) (N := some 146) (v := undef) (a' := ?_) (bb 16 32767) rfl rfl (any_of HT_.out (by kernel_rfl)) (fun _ _ _ h => h) (Or.inr ⟨by rfl, rfl⟩) ?_ ?_
                    rotate_left
                    · simp only [Act.put, sA, sB, sC, i64_w, i32_w]
                      rfl
                    refine pu 15 147 (bb 16 65535) rfl rfl (any_of HT_.out (by kernel_rfl)) (fun _ _ _ h => h) (by rfl) (fun w' => by go_simp; with_reducible rfl) (by simp only [Act.put, sA, sB, sC, i64_w, i32_w]; rfl) ?_
                    refine done_ (done_of HT_.out (by kernel_rfl)) ?_
                    try go_wp2
                    go_meet
                    case rel => exact ⟨_, (true), (by first | rfl | (simp; done) | (simp [*]; done)), H', ⟨by have := HJ6.out; have := HJ25.out; first | omega | exact Nat.le_refl _⟩, ⟨by (with_reducible repeat (first | refine blk_drewN ?_ _ | refine blk_drew ?_ | refine blk_alloc ?_ _)); exact BK174.out⟩, ⟨by (with_reducible repeat (first | refine blk_drewN ?_ _ | refine blk_drew ?_ | refine blk_alloc ?_ _)); exact BK217.out⟩, ⟨by repeat (first | (with_reducible first | exact HB.out | apply below_alloc | apply pw_below_drewN | apply below_drew1 | refine below_set ?_ GE174.out | refine below_set ?_ GE217.out) | exact HB.out)⟩⟩
                 case rest =>
                  clear HC78
                  try clear c1
                  try clear c2
                  try clear p2
                  try clear q2
                  try clear hx2
                  try clear qi2
                  try clear c3
                  try clear c6
                  try clear c7
                  try clear c8
                  try clear c10
                  try clear c20
                  try clear p22
                  try clear q22
                  try clear hx22
                  try clear p26
                  try clear q26
                  try clear hx26
                  try clear qi26
                  try clear c34
                  try clear c34b0
                  try clear c34b1
                  try clear c35
                  try clear c36
                  try clear c36b0
                  try clear c36b1
                  try clear c37
                  try clear c64
                  try clear c67
                  try clear c69
                  try clear c69b0
                  try clear c72
                  try clear c74
                  try clear c74b0
                  try clear c74b1
                  try clear c75
                  try clear c75b0
                  try clear c75b1
                  try clear c76
                  try clear c76b0
                  try clear c76b1
                  try clear c82
                  try clear c82b0
                  try clear c82b1
                  try clear c83
                  try clear c83b0
                  try clear c83b1
                  try clear c84
                  try clear c84b0
                  try clear c84b1
                  try clear c85
                  try clear c85b0
                  try clear c85b1
                  try clear c86
                  try clear c86b0
                  try clear c86b1
                  try clear hcz68_0
                  try clear hcz68_1
                  try clear hcz68_2
                  try clear hcz68_3
                  try clear hcz68_4
                  try clear hcz68_5
                  try clear hcz73_0
                  try clear hcz73_1
                  try clear hcz73_2
                  try clear hcz73_3
                  try clear hcz73_4
                  try clear hcz73_5
                  try clear hfz68_0
                  try clear hfz68_1
                  try clear hfz68_2
                  try clear hfz68_3
                  try clear hfz68_4
                  try clear hfz68_5
                  try clear hfz73_0
                  try clear hfz73_1
                  try clear hfz73_2
                  try clear hfz73_3
                  try clear hfz73_4
                  try clear hfz73_5
                  try clear hx220_0
                  try clear hx221_0
                  try clear hx263_0
                  try clear hx264_0
                  try clear hx265_0
                  try clear hx266_0
                  try clear p220
                  try clear p221
                  try clear p263
                  try clear p264
                  try clear p265
                  try clear p266
                  try clear q220
                  try clear q221
                  try clear q263
                  try clear q264
                  try clear q265
                  try clear q266
                  obtain ⟨kq, x147_77, rfl, HA, HJ77, BK174, BK217, HB⟩ := hcut
                  cases kq with
                  | zero => exact absurd HA.out (by simp [ip_Decode.j2])
                  | succ kj77 =>
                   have H := HA.out
                   clear HA
                   simp only [ip_Decode.j2] at H
                   by_cases c91 : x147_77 = true
                   · subst c91
                     have H1 : ((ip_Decode_1.f 4).bind fun bt267 => (some (bt267.1, bt267.2.1, bt267.2.2.1, bt267.2.2.2.1, bt267.2.2.2.2.1, bt267.2.2.2.2.2.1, bt267.2.2.2.2.2.2.1, bt267.2.2.2.2.2.2.2))) = some (r1, r2, r3, r4, r5, r6, r7, r8) := by rw [if_pos rfl] at H; exact H
                     clear H
                     have H := H1
                     clear H1
                     replace H := Option.bind_eq_some_iff.mp H
                     obtain ⟨⟨t267, t268, t269, t270, t271, t272, t273, t276⟩, A920, H⟩ := H
                     replace H : (some (t267, t268, t269, t270, t271, t272, t273, t276)) = some (r1, r2, r3, r4, r5, r6, r7, r8) := H
                     have A92 := Aside0.mk A920
                     clear A920
                     simp only [Option.some.injEq, Prod.mk.injEq] at H
                     obtain ⟨rfl, rfl, rfl, rfl, rfl, rfl, rfl, rfl⟩ := H
                     go_wp2_with (first | (refine goesV_ (f := 20) (some 149) rfl rfl Try.func20 (by kernel_rfl) rfl #[.int .i64 4] rfl (by first | rfl | (go_simp; rfl)) (by (try simp only [List.map_toArray, List.map_cons, List.map_nil]); first | done | rfl | (simp only [List.length_drop, List.length_take]; rfl)) ?_; (with_reducible refine (ip_Decode_1.calls 4 t267 t268 t269 t270 t271 t272 t273 t276 _ A92.out).mono ?_); rintro e w93 ⟨v274, rfl, ho0, hb⟩; refine ⟨_, rfl, ?_⟩; have n0_ := Aside0.mk (Kd.R_lower ho0 (below_size (by repeat (first | (with_reducible first | exact HB.out | apply below_alloc | apply pw_below_drewN | apply below_drew1 | refine below_set ?_ GE174.out | refine below_set ?_ GE217.out) | exact HB.out)))); have n1_ := Aside0.mk (blk_below (g := gb174) (o := .cells #[.int .u32 0, .int .u32 0, .int .u8 0, .int .u8 0, .int .u16 0, .bool false] 26 (0, 0)) (by (with_reducible repeat (first | refine blk_drewN ?_ _ | refine blk_drew ?_ | refine blk_alloc ?_ _)); exact BK174.out) hb); have n2_ := Aside0.mk (blk_below (g := gb217) (o := .cells #[.int .u32 t210, .int .u32 t211, .int .u8 t212, .int .u8 t213, .int .u16 t214, .bool t215] 26 (0, 0)) (by (with_reducible repeat (first | refine blk_drewN ?_ _ | refine blk_drew ?_ | refine blk_alloc ?_ _)); exact BK217.out) hb); have n3_ := Aside0.mk (below_step (by repeat (first | (with_reducible first | exact HB.out | apply below_alloc | apply pw_below_drewN | apply below_drew1 | refine below_set ?_ GE174.out | refine below_set ?_ GE217.out) | exact HB.out)) hb); clear BK174; clear BK217; clear HB; have HO275 := n0_; have BK174 := n1_; have BK217 := n2_; have HB := n3_; clear n0_ n1_ n2_ n3_; (try clear hb); (try clear hb2); (try clear hk); (try clear hi); (try clear ho0); have hnb94 := NB174_217.out; have hnc94 := NB217_174.out; have hcz95_0 : w93.cell? ⟨gb174, 0, none⟩ = some (.int .u32 0) := (blk_cell BK174.out 0).trans rfl; have hcz95_1 : w93.cell? ⟨gb174, 1, none⟩ = some (.int .u32 0) := (blk_cell BK174.out 1).trans rfl; have hcz95_2 : w93.cell? ⟨gb174, 2, none⟩ = some (.int .u8 0) := (blk_cell BK174.out 2).trans rfl; have hcz95_3 : w93.cell? ⟨gb174, 3, none⟩ = some (.int .u8 0) := (blk_cell BK174.out 3).trans rfl; have hcz95_4 : w93.cell? ⟨gb174, 4, none⟩ = some (.int .u16 0) := (blk_cell BK174.out 4).trans rfl; have hcz95_5 : w93.cell? ⟨gb174, 5, none⟩ = some (.bool false) := (blk_cell BK174.out 5).trans rfl; have hfz95_0 := blk_frozen BK174.out 0; have hfz95_1 := blk_frozen BK174.out 1; have hfz95_2 := blk_frozen BK174.out 2; have hfz95_3 := blk_frozen BK174.out 3; have hfz95_4 := blk_frozen BK174.out 4; have hfz95_5 := blk_frozen BK174.out 5))
                     refine bodyPost_ret (results_ctt rfl _ _ gb174 26 #[.int .u32 t267, .int .u32 t268, .int .u8 t269, .int .u8 t270, .int .u16 t271, .bool t272] (0, 0) _ rfl (by (with_reducible repeat (first | refine blk_drewN ?_ _ | refine blk_drew ?_ | refine blk_alloc ?_ _)); refine blk_put (cs := #[.int .u32 t267, .int .u32 t268, .int .u8 t269, .int .u8 t270, .int .u16 t271, .bool false]) ?_ 5 _ rfl; (with_reducible repeat (first | refine blk_drewN ?_ _ | refine blk_drew ?_ | refine blk_alloc ?_ _)); refine blk_put (cs := #[.int .u32 t267, .int .u32 t268, .int .u8 t269, .int .u8 t270, .int .u16 0, .bool false]) ?_ 4 _ rfl; (with_reducible repeat (first | refine blk_drewN ?_ _ | refine blk_drew ?_ | refine blk_alloc ?_ _)); refine blk_put (cs := #[.int .u32 t267, .int .u32 t268, .int .u8 t269, .int .u8 0, .int .u16 0, .bool false]) ?_ 3 _ rfl; (with_reducible repeat (first | refine blk_drewN ?_ _ | refine blk_drew ?_ | refine blk_alloc ?_ _)); refine blk_put (cs := #[.int .u32 t267, .int .u32 t268, .int .u8 0, .int .u8 0, .int .u16 0, .bool false]) ?_ 2 _ rfl; (with_reducible repeat (first | refine blk_drewN ?_ _ | refine blk_drew ?_ | refine blk_alloc ?_ _)); refine blk_put (cs := #[.int .u32 t267, .int .u32 0, .int .u8 0, .int .u8 0, .int .u16 0, .bool false]) ?_ 1 _ rfl; (with_reducible repeat (first | refine blk_drewN ?_ _ | refine blk_drew ?_ | refine blk_alloc ?_ _)); refine blk_put (cs := #[.int .u32 0, .int .u32 0, .int .u8 0, .int .u8 0, .int .u16 0, .bool false]) ?_ 0 _ rfl; (with_reducible repeat (first | refine blk_drewN ?_ _ | refine blk_drew ?_ | refine blk_alloc ?_ _)); exact BK174.out) Try.underlying26 rfl (by kernel_rfl)) rfl ?_
                     exact ⟨_, by first | rfl | (simp [errW_none, errW_some] <;> rfl) | (simp [*, errW_none, errW_some] <;> rfl), by (with_reducible repeat (first | apply Kd.R_alloc | apply Kd.R_drewN | apply Kd.R_drew)); exact Kd.R_mono (Kd.R_far (p := ⟨gb174, 5, none⟩) (Kd.R_far (p := ⟨gb174, 4, none⟩) (Kd.R_far (p := ⟨gb174, 3, none⟩) (Kd.R_far (p := ⟨gb174, 2, none⟩) (Kd.R_far (p := ⟨gb174, 1, none⟩) (Kd.R_far (p := ⟨gb174, 0, none⟩) (Kd.R_types HO275.out BK174.out (by decide)) (fun _ hk => hk.2) (.int .u32 t267)) (fun _ hk => hk.2) (.int .u32 t268)) (fun _ hk => hk.2) (.int .u8 t269)) (fun _ hk => hk.2) (.int .u8 t270)) (fun _ hk => hk.2) (.int .u16 t271)) (fun _ hk => hk.2) (.bool t272)) (fun _ hk => trivial), by repeat (first | (with_reducible first | exact HB.out | apply below_alloc | apply pw_below_drewN | apply below_drew1 | refine below_set ?_ GE174.out | refine below_set ?_ GE217.out) | exact HB.out)⟩
                   · replace c91 := Bool.eq_false_iff.mpr c91
                     subst c91
                     have H1 : (if 0 ≤ t198 then (if t198 ≤ t216 then (if t216 ≤ (l0.length : Int) then ((slices_Clone.f ((l0.take (t216 : Int).toNat).drop (t198 : Int).toNat)).bind fun t278 => (some (t210, t211, t212, t213, t214, t215, t278, 0))) else (none)) else (none)) else (none)) = some (r1, r2, r3, r4, r5, r6, r7, r8) := by rw [if_neg (show ¬ (false = true) by decide)] at H; exact H
                     clear H
                     have H := H1
                     clear H1
                     by_cases c96 : 0 ≤ t198
                     case neg => rw [if_neg c96] at H; exact absurd H (by simp)
                     rw [if_pos c96] at H
                     have c96b0 := eq_true c96
                     have c96b1 : decide (0 ≤ t198) = true := decide_eq_true c96
                     clear c96
                     by_cases c97 : t198 ≤ t216
                     case neg => rw [if_neg c97] at H; exact absurd H (by simp)
                     rw [if_pos c97] at H
                     have c97b0 := eq_true c97
                     have c97b1 : decide (t198 ≤ t216) = true := decide_eq_true c97
                     clear c97
                     by_cases c98 : t216 ≤ (l0.length : Int)
                     case neg => rw [if_neg c98] at H; exact absurd H (by simp)
                     rw [if_pos c98] at H
                     have c98b0 := eq_true c98
                     have c98b1 : decide (t216 ≤ (l0.length : Int)) = true := decide_eq_true c98
                     clear c98
                     replace H := Option.bind_eq_some_iff.mp H
                     obtain ⟨t278, A990, H⟩ := H
                     replace H : (some (t210, t211, t212, t213, t214, t215, t278, 0)) = some (r1, r2, r3, r4, r5, r6, r7, r8) := H
                     have A99 := Aside0.mk A990
                     clear A990
                     simp only [Option.some.injEq, Prod.mk.injEq] at H
                     obtain ⟨rfl, rfl, rfl, rfl, rfl, rfl, rfl, rfl⟩ := H
                     try go_wp2
                     have n0_ := Aside0.mk (blk_drew BK174.out)
                     have n1_ := Aside0.mk (blk_drew BK217.out)
                     have n2_ := Aside0.mk (below_drew1 HB.out)
                     clear BK174
                     clear BK217
                     clear HB
                     have BK174 := n0_
                     have BK217 := n1_
                     have HB := n2_
                     clear n0_ n1_ n2_
                     clear hcut80
                     obtain ⟨i0101, hi0101, _, hsz101, _⟩ := info_parts info5
                     obtain ⟨A101, hcut101, hA101, hC101⟩ := print_mid_of (P := Try.prog) (Value.int .u8) 0 27 5 .i64 .i64 Try.underlying27 hi0101 hsz101 (some ad197) c0 l0 t198 t216 (of_decide_eq_true (by first | (with_reducible assumption) | assumption)) (by first | omega | exact of_decide_eq_true (by first | (with_reducible assumption) | assumption)) (of_decide_eq_true (by first | (with_reducible assumption) | assumption)) HC0.out
                     have HR277 := Aside0.mk (Kd.C_of_reads (h1 := fun _ => rfl) (hA101 _ (Kd.reads_of_C HR0.out)))
                     have HC277 := Aside0.mk hC101
                     clear hA101 hC101 hi0101 hsz101
                     refine start_ (n := 9) (S := fun w' => w'.cell? ⟨gb217, 0, none⟩ = some (.int .u32 t210) ∧ w'.cell? ⟨gb217, 1, none⟩ = some (.int .u32 t211) ∧ w'.cell? ⟨gb217, 2, none⟩ = some (.int .u8 t212) ∧ w'.cell? ⟨gb217, 3, none⟩ = some (.int .u8 t213) ∧ w'.cell? ⟨gb217, 4, none⟩ = some (.int .u16 t214) ∧ w'.cell? ⟨gb217, 5, none⟩ = some (.bool t215)) (ds := []) #[false, false, false, false, false, false, false, false, false] (by kernel_rfl) rfl rfl ⟨(blk_cell BK217.out 0).trans rfl, (blk_cell BK217.out 1).trans rfl, (blk_cell BK217.out 2).trans rfl, (blk_cell BK217.out 3).trans rfl, (blk_cell BK217.out 4).trans rfl, (blk_cell BK217.out 5).trans rfl⟩ (fun hHeld => ?_); refine with_tabW ip_Decode.tab19 ip_Decode.bits19 (fun HT_ HW_ => ?_)
                     generalize wc.drew = w100 at BK174 BK217 HB HR277 hHeld ⊢
                     refine pu 1 154 (bb 9 2) rfl rfl (any_of HT_.out (by kernel_rfl)) (fun _ _ _ h => h) (by rfl) (fun w' => by go_simp; with_reducible rfl) (by simp only [Act.put, sA, sB, sC, i64_w, i32_w]; rfl) ?_
                     refine pu 2 155 (bb 9 6) rfl rfl (any_of HT_.out (by kernel_rfl)) (fun _ _ _ h => h) (by rfl) (fun w' => by go_simp; with_reducible rfl) (by simp only [Act.put, sA, sB, sC, i64_w, i32_w]; rfl) ?_
                     refine pu 3 156 (bb 9 14) rfl rfl (any_of HT_.out (by kernel_rfl)) (fun _ _ _ h => h) (by rfl) (fun w' => by go_simp; with_reducible rfl) (by simp only [Act.put, sA, sB, sC, i64_w, i32_w]; rfl) ?_
                     refine pu 4 157 (bb 9 30) rfl rfl (any_of HT_.out (by kernel_rfl)) (fun _ _ _ h => h) (by rfl) (fun w' => by go_simp; with_reducible rfl) (by simp only [Act.put, sA, sB, sC, i64_w, i32_w]; rfl) ?_
                     refine take_ (i := 0) (N := some 153) (v := ?_) (a' := ?_) (bb 9 31) rfl rfl (take_ofW HT_.out HW_.out (by kernel_rfl)) (fun _ _ _ h => h) (Or.inl ⟨by rfl, ?_⟩) hHeld ?_ ?_
                     rotate_left
                     · rintro w' ⟨s0, s1, s2, s3, s4, s5⟩
                       go_simp
                       with_reducible rfl
                     rotate_left
                     · simp only [Act.put, sA, sB, sC, i64_w, i32_w]
                       rfl
                     refine one_ (i := 5) (N := some 158) (bb 9 63) rfl rfl (one_of HT_.out (by kernel_rfl)) (by decide) (fun K hK => ?_)
                     refine goes_ Try.func25 (by kernel_rfl) rfl #[.slice A101 ((l0.take (t216 : Int).toNat).drop (t198 : Int).toNat).length (c0 - t198.toNat)] (by rfl) rfl rfl (by (try simp only [List.map_toArray, List.map_cons, List.map_nil]); first | done | (rw [show ((l0.take (t216 : Int).toNat).drop (t198 : Int).toNat).length = (t216.toNat - t198.toNat) from (by rw [List.length_drop, List.length_take]; have h_ : (t216 : Int) ≤ (l0.length : Int) := of_decide_eq_true (by first | (with_reducible assumption) | assumption); omega)] <;> rfl) | rfl | (simp only [List.length_drop, List.length_take]; rfl)) ?_
                     with_reducible refine (slices_Clone.calls _ _ ((l0.take (t216 : Int).toNat).drop (t198 : Int).toNat) t278 _ ?side1 ?side2 A99.out).mono ?_
                     (case side1 => repeat (first | exact (Kd.C_below HR277.out HB.out) | (with_reducible refine Kd.C_alloc ?_ _) | (with_reducible refine Kd.C_drewN ?_ _) | (with_reducible refine Kd.C_drew ?_)))
                     (case side2 => exact HC277.out)
                     rintro e w102 ⟨v279, rfl, ho0, hb⟩
                     refine ⟨_, rfl, ?_⟩
                     have n0_ := Aside0.mk (Kd.R_lower ho0 (below_size (by repeat (first | (with_reducible first | exact HB.out | apply below_alloc | apply pw_below_drewN | apply below_drew1 | refine below_set ?_ GE174.out | refine below_set ?_ GE217.out) | exact HB.out))))
                     have n1_ := Aside0.mk (blk_below (g := gb174) (o := .cells #[.int .u32 0, .int .u32 0, .int .u8 0, .int .u8 0, .int .u16 0, .bool false] 26 (0, 0)) (by (with_reducible repeat (first | refine blk_drewN ?_ _ | refine blk_drew ?_ | refine blk_alloc ?_ _)); exact BK174.out) hb)
                     have n2_ := Aside0.mk (blk_below (g := gb217) (o := .cells #[.int .u32 t210, .int .u32 t211, .int .u8 t212, .int .u8 t213, .int .u16 t214, .bool t215] 26 (0, 0)) (by (with_reducible repeat (first | refine blk_drewN ?_ _ | refine blk_drew ?_ | refine blk_alloc ?_ _)); exact BK217.out) hb)
                     have n3_ := Aside0.mk (below_step (by repeat (first | (with_reducible first | exact HB.out | apply below_alloc | apply pw_below_drewN | apply below_drew1 | refine below_set ?_ GE174.out | refine below_set ?_ GE217.out) | exact HB.out)) hb)
                     clear BK174
                     clear BK217
                     clear HB
                     have HO280 := n0_
                     have BK174 := n1_
                     have BK217 := n2_
                     have HB := n3_
                     clear n0_ n1_ n2_ n3_
                     (try clear hb)
                     (try clear hb2)
                     (try clear hk)
                     (try clear hi)
                     (try clear ho0)
                     refine hK.out _ _ ⟨(blk_cell BK217.out 0).trans rfl, (blk_cell BK217.out 1).trans rfl, (blk_cell BK217.out 2).trans rfl, (blk_cell BK217.out 3).trans rfl, (blk_cell BK217.out 4).trans rfl, (blk_cell BK217.out 5).trans rfl⟩ (fun hHeld => ?_)
                     clear hK K
                     refine norm_ (a' := ?_) ?_ ?_
                     rotate_left
                     · show Act.put _ (some 158) _ = _
                       simp only [Act.put, sA, sB, sC, i64_w, i32_w]
                       rfl
                     refine one_ (i := 6) (N := none) (bb 9 127) rfl rfl (one_of HT_.out (by kernel_rfl)) (by decide) (fun K hK => ?_)
                     have hs103 : w102.cell? ⟨gb174, 0, none⟩ = some (.int .u32 0) := (blk_cell BK174.out 0).trans rfl
                     have hfs103 := blk_frozen BK174.out 0
                     have hns103_1 := NB217_174.out
                     have hms103_1 := NB174_217.out
                     have hs104 : w102.cell? ⟨gb174, 1, none⟩ = some (.int .u32 0) := (blk_cell BK174.out 1).trans rfl
                     have hfs104 := blk_frozen BK174.out 1
                     have hns104_1 := NB217_174.out
                     have hms104_1 := NB174_217.out
                     have hs105 : w102.cell? ⟨gb174, 2, none⟩ = some (.int .u8 0) := (blk_cell BK174.out 2).trans rfl
                     have hfs105 := blk_frozen BK174.out 2
                     have hns105_1 := NB217_174.out
                     have hms105_1 := NB174_217.out
                     have hs106 : w102.cell? ⟨gb174, 3, none⟩ = some (.int .u8 0) := (blk_cell BK174.out 3).trans rfl
                     have hfs106 := blk_frozen BK174.out 3
                     have hns106_1 := NB217_174.out
                     have hms106_1 := NB174_217.out
                     have hs107 : w102.cell? ⟨gb174, 4, none⟩ = some (.int .u16 0) := (blk_cell BK174.out 4).trans rfl
                     have hfs107 := blk_frozen BK174.out 4
                     have hns107_1 := NB217_174.out
                     have hms107_1 := NB174_217.out
                     have hs108 : w102.cell? ⟨gb174, 5, none⟩ = some (.bool false) := (blk_cell BK174.out 5).trans rfl
                     have hfs108 := blk_frozen BK174.out 5
                     have hns108_1 := NB217_174.out
                     have hms108_1 := NB174_217.out
                     refine skip_ (w1 := ?_) (by rfl) rfl ?_ ?_
                     rotate_left
                     · go_simp
                       rfl
                     refine hK.out _ _ ⟨((cf6 NB217_174.out _ _ _ _ _ _).trans (hHeld.1)), ((cf6 NB217_174.out _ _ _ _ _ _).trans (hHeld.2.1)), ((cf6 NB217_174.out _ _ _ _ _ _).trans (hHeld.2.2.1)), ((cf6 NB217_174.out _ _ _ _ _ _).trans (hHeld.2.2.2.1)), ((cf6 NB217_174.out _ _ _ _ _ _).trans (hHeld.2.2.2.2.1)), ((cf6 NB217_174.out _ _ _ _ _ _).trans (hHeld.2.2.2.2.2))⟩ (fun hHeld => ?_)
                     clear hK K
                     refine pu 7 3 (bb 9 255) rfl rfl (any_of HT_.out (by kernel_rfl)) (fun _ _ _ h => h) (by rfl) (fun w' => by go_simp; with_reducible rfl) (by simp only [Act.put, sA, sB, sC, i64_w, i32_w]; rfl) ?_
                     refine pu 8 4 (bb 9 511) rfl rfl (any_of HT_.out (by kernel_rfl)) (fun _ _ _ h => h) (by rfl) (fun w' => by go_simp; with_reducible rfl) (by simp only [Act.put, sA, sB, sC, i64_w, i32_w]; rfl) ?_
                     refine done_ (done_of HT_.out (by kernel_rfl)) ?_
                     try go_wp2
                     refine bodyPost_ret (results_ctt rfl _ _ gb174 26 #[.int .u32 t210, .int .u32 t211, .int .u8 t212, .int .u8 t213, .int .u16 t214, .bool t215] (0, 0) _ rfl (by (with_reducible repeat (first | refine blk_drewN ?_ _ | refine blk_drew ?_ | refine blk_alloc ?_ _)); refine blk_put (cs := #[.int .u32 t210, .int .u32 t211, .int .u8 t212, .int .u8 t213, .int .u16 t214, .bool false]) ?_ 5 _ rfl; (with_reducible repeat (first | refine blk_drewN ?_ _ | refine blk_drew ?_ | refine blk_alloc ?_ _)); refine blk_put (cs := #[.int .u32 t210, .int .u32 t211, .int .u8 t212, .int .u8 t213, .int .u16 0, .bool false]) ?_ 4 _ rfl; (with_reducible repeat (first | refine blk_drewN ?_ _ | refine blk_drew ?_ | refine blk_alloc ?_ _)); refine blk_put (cs := #[.int .u32 t210, .int .u32 t211, .int .u8 t212, .int .u8 0, .int .u16 0, .bool false]) ?_ 3 _ rfl; (with_reducible repeat (first | refine blk_drewN ?_ _ | refine blk_drew ?_ | refine blk_alloc ?_ _)); refine blk_put (cs := #[.int .u32 t210, .int .u32 t211, .int .u8 0, .int .u8 0, .int .u16 0, .bool false]) ?_ 2 _ rfl; (with_reducible repeat (first | refine blk_drewN ?_ _ | refine blk_drew ?_ | refine blk_alloc ?_ _)); refine blk_put (cs := #[.int .u32 t210, .int .u32 0, .int .u8 0, .int .u8 0, .int .u16 0, .bool false]) ?_ 1 _ rfl; (with_reducible repeat (first | refine blk_drewN ?_ _ | refine blk_drew ?_ | refine blk_alloc ?_ _)); refine blk_put (cs := #[.int .u32 0, .int .u32 0, .int .u8 0, .int .u8 0, .int .u16 0, .bool false]) ?_ 0 _ rfl; (with_reducible repeat (first | refine blk_drewN ?_ _ | refine blk_drew ?_ | refine blk_alloc ?_ _)); exact BK174.out) Try.underlying26 rfl (by kernel_rfl)) rfl ?_
                     exact ⟨_, by first | rfl | (simp [errW_none, errW_some] <;> rfl) | (simp [*, errW_none, errW_some] <;> rfl), by (with_reducible repeat (first | apply Kd.R_alloc | apply Kd.R_drewN | apply Kd.R_drew)); exact Kd.R_mono (Kd.R_far (p := ⟨gb174, 5, none⟩) (Kd.R_far (p := ⟨gb174, 4, none⟩) (Kd.R_far (p := ⟨gb174, 3, none⟩) (Kd.R_far (p := ⟨gb174, 2, none⟩) (Kd.R_far (p := ⟨gb174, 1, none⟩) (Kd.R_far (p := ⟨gb174, 0, none⟩) (Kd.R_types HO280.out BK174.out (by decide)) (fun _ hk => hk.2) (.int .u32 t210)) (fun _ hk => hk.2) (.int .u32 t211)) (fun _ hk => hk.2) (.int .u8 t212)) (fun _ hk => hk.2) (.int .u8 t213)) (fun _ hk => hk.2) (.int .u16 t214)) (fun _ hk => hk.2) (.bool t215)) (fun _ hk => trivial), by repeat (first | (with_reducible first | exact HB.out | apply below_alloc | apply pw_below_drewN | apply below_drew1 | refine below_set ?_ GE174.out | refine below_set ?_ GE217.out) | exact HB.out)⟩
         · replace c25 := Bool.eq_false_iff.mpr c25
           subst c25
           have H1 : ((ip_Decode_1.f 4).bind fun bt248 => (some (bt248.1, bt248.2.1, bt248.2.2.1, bt248.2.2.2.1, bt248.2.2.2.2.1, bt248.2.2.2.2.2.1, bt248.2.2.2.2.2.2.1, bt248.2.2.2.2.2.2.2))) = some (r1, r2, r3, r4, r5, r6, r7, r8) := by rw [if_neg (show ¬ (false = true) by decide)] at H; exact H
           clear H
           have H := H1
           clear H1
           replace H := Option.bind_eq_some_iff.mp H
           obtain ⟨⟨t248, t249, t250, t251, t252, t253, t254, t257⟩, A1090, H⟩ := H
           replace H : (some (t248, t249, t250, t251, t252, t253, t254, t257)) = some (r1, r2, r3, r4, r5, r6, r7, r8) := H
           have A109 := Aside0.mk A1090
           clear A1090
           simp only [Option.some.injEq, Prod.mk.injEq] at H
           obtain ⟨rfl, rfl, rfl, rfl, rfl, rfl, rfl, rfl⟩ := H
           have p197 : 0 ≤ (0 : Int) := (by omega)
           have q197 : 0 < (l0.length : Int) := of_decide_eq_true (by first | (with_reducible assumption) | assumption)
           obtain ⟨ad197, e197, hx197_0⟩ := Kd.at_int HR0.out 0 p197 q197
           cases e197
           have qi197 : (0 < l0.length) = True := eq_true (by omega)
           (try rw [show ((0 : Int)).toNat = 0 from rfl] at hx197_0)
           (try rw [Addr.add_zero'] at hx197_0)
           replace hx197_0 := (HB.out.cell (World.block_lt_of_cell? w _ hx197_0)).trans hx197_0
           replace p197 := eq_true p197
           replace q197 := eq_true q197
           go_wp2_with (first | ((with_reducible refine gate_callee (f := 17) rfl ?_); refine goesL_ (some 54) rfl rfl Try.func17 (by kernel_rfl) rfl #[.bool ((rd l0 0) == 70)] rfl (by (try simp only [List.map_toArray, List.map_cons, List.map_nil]); first | done | rfl | (simp only [List.length_drop, List.length_take]; rfl)) ?_; (with_reducible refine (ip_size.calls ((rd l0 0) == 70) t198 _ A16.out).mono ?_); rintro e w' ⟨rfl, ⟨nd, rfl⟩⟩; refine ⟨_, rfl, ?_⟩; (try (rw [drewN_self wc]; generalize hq_ : World.drewN wc _ = wc; have n0_ : Aside0 (wc.heap[gb174]? = some (.cells #[.int .u32 0, .int .u32 0, .int .u8 0, .int .u8 0, .int .u16 0, .bool false] 26 (0, 0))) := ⟨by rw [← hq_]; exact (by (with_reducible repeat (first | refine blk_drewN ?_ _ | refine blk_drew ?_ | refine blk_alloc ?_ _)); exact BK174.out)⟩; have n1_ : Aside0 (Below w.heap.size w wc) := ⟨by rw [← hq_]; exact (by repeat (first | (with_reducible first | exact HB.out | apply below_alloc | apply pw_below_drewN | apply below_drew1 | refine below_set ?_ GE174.out) | exact HB.out))⟩; clear BK174 HB hq_; have BK174 := n0_; have HB := n1_; clear n0_ n1_))) | ((with_reducible refine gate_callee (f := 17) rfl ?_); refine goesL_ (some 43) rfl rfl Try.func17 (by kernel_rfl) rfl #[.bool ((rd l0 0) == 70)] rfl (by (try simp only [List.map_toArray, List.map_cons, List.map_nil]); first | done | rfl | (simp only [List.length_drop, List.length_take]; rfl)) ?_; (with_reducible refine (ip_size.calls ((rd l0 0) == 70) t198 _ A16.out).mono ?_); rintro e w' ⟨rfl, ⟨nd, rfl⟩⟩; refine ⟨_, rfl, ?_⟩; (try (rw [drewN_self wc]; generalize hq_ : World.drewN wc _ = wc; have n0_ : Aside0 (wc.heap[gb174]? = some (.cells #[.int .u32 0, .int .u32 0, .int .u8 0, .int .u8 0, .int .u16 0, .bool false] 26 (0, 0))) := ⟨by rw [← hq_]; exact (by (with_reducible repeat (first | refine blk_drewN ?_ _ | refine blk_drew ?_ | refine blk_alloc ?_ _)); exact BK174.out)⟩; have n1_ : Aside0 (Below w.heap.size w wc) := ⟨by rw [← hq_]; exact (by repeat (first | (with_reducible first | exact HB.out | apply below_alloc | apply pw_below_drewN | apply below_drew1 | refine below_set ?_ GE174.out) | exact HB.out))⟩; clear BK174 HB hq_; have BK174 := n0_; have HB := n1_; clear n0_ n1_)); have p209 : 0 ≤ (0 : Int) := (by omega); have q209 : 0 < (l0.length : Int) := of_decide_eq_true (by first | (with_reducible assumption) | assumption); obtain ⟨ad209, e209, hx209_0⟩ := Kd.at_int HR0.out 0 p209 q209; obtain rfl : ad197 = ad209 := (by injection e209); have qi209 : (0 < l0.length) = True := eq_true (by omega); (try rw [show ((0 : Int)).toNat = 0 from rfl] at hx209_0); (try rw [Addr.add_zero'] at hx209_0); replace hx209_0 := (HB.out.cell (World.block_lt_of_cell? w _ hx209_0)).trans hx209_0; replace p209 := eq_true p209; replace q209 := eq_true q209) | ((with_reducible refine gate_callee (f := 21) rfl ?_); refine goesL_ (some 57) rfl rfl Try.func21 (by kernel_rfl) rfl #[.slice (some ad197) l0.length c0] rfl (by (try simp only [List.map_toArray, List.map_cons, List.map_nil]); first | done | rfl | (simp only [List.length_drop, List.length_take]; rfl)) ?_; (with_reducible refine (ip_read.calls kj6 _ _ l0 t210 t211 t212 t213 t214 t215 t216 _ ?side1 ?side2 A21.out).mono ?_); (case side1 => repeat (first | exact (Kd.C_below HR0.out HB.out) | (with_reducible refine Kd.C_alloc ?_ _) | (with_reducible refine Kd.C_drewN ?_ _) | (with_reducible refine Kd.C_drew ?_))); (case side2 => exact HC0.out); rintro e w110 ⟨rfl, hb⟩; refine ⟨_, rfl, ?_⟩; have n0_ := Aside0.mk (blk_below (g := gb174) (o := .cells #[.int .u32 0, .int .u32 0, .int .u8 0, .int .u8 0, .int .u16 0, .bool false] 26 (0, 0)) (by (with_reducible repeat (first | refine blk_drewN ?_ _ | refine blk_drew ?_ | refine blk_alloc ?_ _)); exact BK174.out) hb); have n1_ := Aside0.mk (below_step (by repeat (first | (with_reducible first | exact HB.out | apply below_alloc | apply pw_below_drewN | apply below_drew1 | refine below_set ?_ GE174.out) | exact HB.out)) hb); clear BK174; clear HB; have BK174 := n0_; have HB := n1_; clear n0_ n1_; (try clear hb); (try clear hb2); (try clear hk); (try clear hi)) | ((with_reducible refine gate_dst (N := 7) rfl ?_); refine box_event ?hg (N := 7) ?hd (cs := #[.int .u32 0, .int .u32 0, .int .u8 0, .int .u8 0, .int .u16 0, .bool false]) (t := 26) ?hr ?_; (case hd => rfl); (case hg => rfl); (case hr => first | (go_simp; done) | (go_simp; rfl)); intro gb217 hg w111 hbox hb; have n0_ := Aside0.mk (blk_below (g := gb174) (o := .cells #[.int .u32 0, .int .u32 0, .int .u8 0, .int .u8 0, .int .u16 0, .bool false] 26 (0, 0)) (by (with_reducible repeat (first | refine blk_drewN ?_ _ | refine blk_drew ?_ | refine blk_alloc ?_ _)); exact BK174.out) hb); have n1_ := Aside0.mk (below_step (by repeat (first | (with_reducible first | exact HB.out | apply below_alloc | apply pw_below_drewN | apply below_drew1 | refine below_set ?_ GE174.out) | exact HB.out)) hb); have n2_ := Aside0.mk (hbox); have n3_ := Aside0.mk ((by rw [hg]; exact (below_size (by repeat (first | (with_reducible first | exact HB.out | apply below_alloc | apply pw_below_drewN | apply below_drew1 | refine below_set ?_ GE174.out) | exact HB.out))) : w.heap.size ≤ gb217)); have n4_ := Aside0.mk ((by rw [hg]; exact (below_size (by repeat (first | (with_reducible first | exact HB.out | apply below_alloc | apply pw_below_drewN | apply below_drew1 | refine below_set ?_ GE174.out) | exact HB.out))) : w.heap.size ≤ gb217)); have n5_ := Aside0.mk ((by rw [hg]; exact Nat.ne_of_lt (blk_lt (g := gb174) (o := .cells #[.int .u32 0, .int .u32 0, .int .u8 0, .int .u8 0, .int .u16 0, .bool false] 26 (0, 0)) (by (with_reducible repeat (first | refine blk_drewN ?_ _ | refine blk_drew ?_ | refine blk_alloc ?_ _)); exact BK174.out)) : gb174 ≠ gb217)); have n6_ := Aside0.mk ((by rw [hg]; exact Nat.ne_of_gt (blk_lt (g := gb174) (o := .cells #[.int .u32 0, .int .u32 0, .int .u8 0, .int .u8 0, .int .u16 0, .bool false] 26 (0, 0)) (by (with_reducible repeat (first | refine blk_drewN ?_ _ | refine blk_drew ?_ | refine blk_alloc ?_ _)); exact BK174.out)) : gb217 ≠ gb174)); clear BK174; clear HB; have BK174 := n0_; have HB := n1_; have BK217 := n2_; have GW217 := n3_; have GE217 := n4_; have NB174_217 := n5_; have NB217_174 := n6_; clear n0_ n1_ n2_ n3_ n4_ n5_ n6_; clear hb hbox hg; have hnb112 := NB217_174.out; have hnc112 := NB174_217.out; have hcz113_0 : w111.cell? ⟨gb217, 0, none⟩ = some (.int .u32 0) := (blk_cell BK217.out 0).trans rfl; have hcz113_1 : w111.cell? ⟨gb217, 1, none⟩ = some (.int .u32 0) := (blk_cell BK217.out 1).trans rfl; have hcz113_2 : w111.cell? ⟨gb217, 2, none⟩ = some (.int .u8 0) := (blk_cell BK217.out 2).trans rfl; have hcz113_3 : w111.cell? ⟨gb217, 3, none⟩ = some (.int .u8 0) := (blk_cell BK217.out 3).trans rfl; have hcz113_4 : w111.cell? ⟨gb217, 4, none⟩ = some (.int .u16 0) := (blk_cell BK217.out 4).trans rfl; have hcz113_5 : w111.cell? ⟨gb217, 5, none⟩ = some (.bool false) := (blk_cell BK217.out 5).trans rfl; have hfz113_0 := blk_frozen BK217.out 0; have hfz113_1 := blk_frozen BK217.out 1; have hfz113_2 := blk_frozen BK217.out 2; have hfz113_3 := blk_frozen BK217.out 3; have hfz113_4 := blk_frozen BK217.out 4; have hfz113_5 := blk_frozen BK217.out 5; obtain ⟨i0114, hi0114, _, hsz114, _⟩ := info_parts info5; obtain ⟨hcut114, hA114, hC114⟩ := print_take_of (P := Try.prog) (Value.int .u8) 0 27 5 .i64 Try.underlying27 hi0114 hsz114 (some ad197) c0 l0 t198 (of_decide_eq_true (by first | (with_reducible assumption) | assumption)) (of_decide_eq_true (by first | (with_reducible assumption) | assumption)) HC0.out; have HR218 := Aside0.mk (Kd.C_of_reads (h1 := fun _ => rfl) (hA114 _ (Kd.reads_of_C HR0.out))); have HC218 := Aside0.mk hC114; clear hA114 hC114 hi0114 hsz114) | ((with_reducible refine gate_callee (f := 22) rfl ?_); refine goesL_ (some 64) rfl rfl Try.func22 (by kernel_rfl) rfl #[.slice (some ad197) (l0.take (t198 : Int).toNat).length c0] rfl (by (try simp only [List.map_toArray, List.map_cons, List.map_nil]); first | done | (rw [show (l0.take (t198 : Int).toNat).length = t198.toNat from (by rw [List.length_take]; have h_ : (t198 : Int) ≤ (l0.length : Int) := of_decide_eq_true (by first | (with_reducible assumption) | assumption); omega)] <;> rfl) | rfl | (simp only [List.length_drop, List.length_take]; rfl)) ?_; (with_reducible refine (sum_Whole.calls _ _ (l0.take (t198 : Int).toNat) false _ ?side1 ?side2 A24.out).mono ?_); (case side1 => exact Kd.C_below HR218.out (by repeat (first | (with_reducible first | exact HB.out | apply below_alloc | apply pw_below_drewN | apply below_drew1 | refine below_set ?_ GE174.out | refine below_set ?_ GE217.out) | exact HB.out))); (case side2 => exact HC218.out); rintro e w115 ⟨rfl, hb⟩; refine ⟨_, rfl, ?_⟩; have n0_ := Aside0.mk (blk_below (g := gb174) (o := .cells #[.int .u32 0, .int .u32 0, .int .u8 0, .int .u8 0, .int .u16 0, .bool false] 26 (0, 0)) (by (with_reducible repeat (first | refine blk_drewN ?_ _ | refine blk_drew ?_ | refine blk_alloc ?_ _)); refine blk_far ?_ NB174_217.out _; (with_reducible repeat (first | refine blk_drewN ?_ _ | refine blk_drew ?_ | refine blk_alloc ?_ _)); refine blk_far ?_ NB174_217.out _; (with_reducible repeat (first | refine blk_drewN ?_ _ | refine blk_drew ?_ | refine blk_alloc ?_ _)); refine blk_far ?_ NB174_217.out _; (with_reducible repeat (first | refine blk_drewN ?_ _ | refine blk_drew ?_ | refine blk_alloc ?_ _)); refine blk_far ?_ NB174_217.out _; (with_reducible repeat (first | refine blk_drewN ?_ _ | refine blk_drew ?_ | refine blk_alloc ?_ _)); refine blk_far ?_ NB174_217.out _; (with_reducible repeat (first | refine blk_drewN ?_ _ | refine blk_drew ?_ | refine blk_alloc ?_ _)); refine blk_far ?_ NB174_217.out _; (with_reducible repeat (first | refine blk_drewN ?_ _ | refine blk_drew ?_ | refine blk_alloc ?_ _)); exact BK174.out) hb); have n1_ := Aside0.mk (blk_below (g := gb217) (o := .cells #[.int .u32 t210, .int .u32 t211, .int .u8 t212, .int .u8 t213, .int .u16 t214, .bool t215] 26 (0, 0)) (by (with_reducible repeat (first | refine blk_drewN ?_ _ | refine blk_drew ?_ | refine blk_alloc ?_ _)); refine blk_put (cs := #[.int .u32 t210, .int .u32 t211, .int .u8 t212, .int .u8 t213, .int .u16 t214, .bool false]) ?_ 5 _ rfl; (with_reducible repeat (first | refine blk_drewN ?_ _ | refine blk_drew ?_ | refine blk_alloc ?_ _)); refine blk_put (cs := #[.int .u32 t210, .int .u32 t211, .int .u8 t212, .int .u8 t213, .int .u16 0, .bool false]) ?_ 4 _ rfl; (with_reducible repeat (first | refine blk_drewN ?_ _ | refine blk_drew ?_ | refine blk_alloc ?_ _)); refine blk_put (cs := #[.int .u32 t210, .int .u32 t211, .int .u8 t212, .int .u8 0, .int .u16 0, .bool false]) ?_ 3 _ rfl; (with_reducible repeat (first | refine blk_drewN ?_ _ | refine blk_drew ?_ | refine blk_alloc ?_ _)); refine blk_put (cs := #[.int .u32 t210, .int .u32 t211, .int .u8 0, .int .u8 0, .int .u16 0, .bool false]) ?_ 2 _ rfl; (with_reducible repeat (first | refine blk_drewN ?_ _ | refine blk_drew ?_ | refine blk_alloc ?_ _)); refine blk_put (cs := #[.int .u32 t210, .int .u32 0, .int .u8 0, .int .u8 0, .int .u16 0, .bool false]) ?_ 1 _ rfl; (with_reducible repeat (first | refine blk_drewN ?_ _ | refine blk_drew ?_ | refine blk_alloc ?_ _)); refine blk_put (cs := #[.int .u32 0, .int .u32 0, .int .u8 0, .int .u8 0, .int .u16 0, .bool false]) ?_ 0 _ rfl; (with_reducible repeat (first | refine blk_drewN ?_ _ | refine blk_drew ?_ | refine blk_alloc ?_ _)); exact BK217.out) hb); have n2_ := Aside0.mk (below_step (by repeat (first | (with_reducible first | exact HB.out | apply below_alloc | apply pw_below_drewN | apply below_drew1 | refine below_set ?_ GE174.out | refine below_set ?_ GE217.out) | exact HB.out)) hb); clear BK174; clear BK217; clear HB; have BK174 := n0_; have BK217 := n1_; have HB := n2_; clear n0_ n1_ n2_; (try clear hb); (try clear hb2); (try clear hk); (try clear hi)) | (refine goesV_ (f := 20) (some 67) rfl rfl Try.func20 (by kernel_rfl) rfl #[.int .i64 4] rfl (by first | rfl | (go_simp; rfl)) (by (try simp only [List.map_toArray, List.map_cons, List.map_nil]); first | done | rfl | (simp only [List.length_drop, List.length_take]; rfl)) ?_; (with_reducible refine (ip_Decode_1.calls 4 t248 t249 t250 t251 t252 t253 t254 t257 _ A109.out).mono ?_); rintro e w116 ⟨v255, rfl, ho0, hb⟩; refine ⟨_, rfl, ?_⟩; have n0_ := Aside0.mk (Kd.R_lower ho0 (below_size (by repeat (first | (with_reducible first | exact HB.out | apply below_alloc | apply pw_below_drewN | apply below_drew1 | refine below_set ?_ GE174.out | refine below_set ?_ GE217.out) | exact HB.out)))); have n1_ := Aside0.mk (blk_below (g := gb174) (o := .cells #[.int .u32 0, .int .u32 0, .int .u8 0, .int .u8 0, .int .u16 0, .bool false] 26 (0, 0)) (by (with_reducible repeat (first | refine blk_drewN ?_ _ | refine blk_drew ?_ | refine blk_alloc ?_ _)); exact BK174.out) hb); have n2_ := Aside0.mk (blk_below (g := gb217) (o := .cells #[.int .u32 t210, .int .u32 t211, .int .u8 t212, .int .u8 t213, .int .u16 t214, .bool t215] 26 (0, 0)) (by (with_reducible repeat (first | refine blk_drewN ?_ _ | refine blk_drew ?_ | refine blk_alloc ?_ _)); exact BK217.out) hb); have n3_ := Aside0.mk (below_step (by repeat (first | (with_reducible first | exact HB.out | apply below_alloc | apply pw_below_drewN | apply below_drew1 | refine below_set ?_ GE174.out | refine below_set ?_ GE217.out) | exact HB.out)) hb); clear BK174; clear BK217; clear HB; have HO256 := n0_; have BK174 := n1_; have BK217 := n2_; have HB := n3_; clear n0_ n1_ n2_ n3_; (try clear hb); (try clear hb2); (try clear hk); (try clear hi); (try clear ho0); have hcz117_0 : w116.cell? ⟨gb174, 0, none⟩ = some (.int .u32 0) := (blk_cell BK174.out 0).trans rfl; have hcz117_1 : w116.cell? ⟨gb174, 1, none⟩ = some (.int .u32 0) := (blk_cell BK174.out 1).trans rfl; have hcz117_2 : w116.cell? ⟨gb174, 2, none⟩ = some (.int .u8 0) := (blk_cell BK174.out 2).trans rfl; have hcz117_3 : w116.cell? ⟨gb174, 3, none⟩ = some (.int .u8 0) := (blk_cell BK174.out 3).trans rfl; have hcz117_4 : w116.cell? ⟨gb174, 4, none⟩ = some (.int .u16 0) := (blk_cell BK174.out 4).trans rfl; have hcz117_5 : w116.cell? ⟨gb174, 5, none⟩ = some (.bool false) := (blk_cell BK174.out 5).trans rfl; have hfz117_0 := blk_frozen BK174.out 0; have hfz117_1 := blk_frozen BK174.out 1; have hfz117_2 := blk_frozen BK174.out 2; have hfz117_3 := blk_frozen BK174.out 3; have hfz117_4 := blk_frozen BK174.out 4; have hfz117_5 := blk_frozen BK174.out 5))
           refine bodyPost_ret (results_ctt rfl _ _ gb174 26 #[.int .u32 t248, .int .u32 t249, .int .u8 t250, .int .u8 t251, .int .u16 t252, .bool t253] (0, 0) _ rfl (by (with_reducible repeat (first | refine blk_drewN ?_ _ | refine blk_drew ?_ | refine blk_alloc ?_ _)); refine blk_put (cs := #[.int .u32 t248, .int .u32 t249, .int .u8 t250, .int .u8 t251, .int .u16 t252, .bool false]) ?_ 5 _ rfl; (with_reducible repeat (first | refine blk_drewN ?_ _ | refine blk_drew ?_ | refine blk_alloc ?_ _)); refine blk_put (cs := #[.int .u32 t248, .int .u32 t249, .int .u8 t250, .int .u8 t251, .int .u16 0, .bool false]) ?_ 4 _ rfl; (with_reducible repeat (first | refine blk_drewN ?_ _ | refine blk_drew ?_ | refine blk_alloc ?_ _)); refine blk_put (cs := #[.int .u32 t248, .int .u32 t249, .int .u8 t250, .int .u8 0, .int .u16 0, .bool false]) ?_ 3 _ rfl; (with_reducible repeat (first | refine blk_drewN ?_ _ | refine blk_drew ?_ | refine blk_alloc ?_ _)); refine blk_put (cs := #[.int .u32 t248, .int .u32 t249, .int .u8 0, .int .u8 0, .int .u16 0, .bool false]) ?_ 2 _ rfl; (with_reducible repeat (first | refine blk_drewN ?_ _ | refine blk_drew ?_ | refine blk_alloc ?_ _)); refine blk_put (cs := #[.int .u32 t248, .int .u32 0, .int .u8 0, .int .u8 0, .int .u16 0, .bool false]) ?_ 1 _ rfl; (with_reducible repeat (first | refine blk_drewN ?_ _ | refine blk_drew ?_ | refine blk_alloc ?_ _)); refine blk_put (cs := #[.int .u32 0, .int .u32 0, .int .u8 0, .int .u8 0, .int .u16 0, .bool false]) ?_ 0 _ rfl; (with_reducible repeat (first | refine blk_drewN ?_ _ | refine blk_drew ?_ | refine blk_alloc ?_ _)); exact BK174.out) Try.underlying26 rfl (by kernel_rfl)) rfl ?_
           exact ⟨_, by first | rfl | (simp [errW_none, errW_some] <;> rfl) | (simp [*, errW_none, errW_some] <;> rfl), by (with_reducible repeat (first | apply Kd.R_alloc | apply Kd.R_drewN | apply Kd.R_drew)); exact Kd.R_mono (Kd.R_far (p := ⟨gb174, 5, none⟩) (Kd.R_far (p := ⟨gb174, 4, none⟩) (Kd.R_far (p := ⟨gb174, 3, none⟩) (Kd.R_far (p := ⟨gb174, 2, none⟩) (Kd.R_far (p := ⟨gb174, 1, none⟩) (Kd.R_far (p := ⟨gb174, 0, none⟩) (Kd.R_types HO256.out BK174.out (by decide)) (fun _ hk => hk.2) (.int .u32 t248)) (fun _ hk => hk.2) (.int .u32 t249)) (fun _ hk => hk.2) (.int .u8 t250)) (fun _ hk => hk.2) (.int .u8 t251)) (fun _ hk => hk.2) (.int .u16 t252)) (fun _ hk => hk.2) (.bool t253)) (fun _ hk => trivial), by repeat (first | (with_reducible first | exact HB.out | apply below_alloc | apply pw_below_drewN | apply below_drew1 | refine below_set ?_ GE174.out | refine below_set ?_ GE217.out) | exact HB.out)⟩

end Go.Proofs.Ytlaanmkangikbaa.PIp
