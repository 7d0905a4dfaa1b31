-- written by a program of this session (hprint.py), over the kit's printer
import Derived.Test.YtjncmiclpaodhaaSoI
import Derived.Test.YtjncmiclpaodhaaPHox2
namespace Go.Proofs.Ytjncmiclpaodhaa.PHo
open Go.RowKit Go.Proofs.YtjncmiclpaodhaaW.PrintWords Go.Proofs.YtjncmiclpaodhaaW.PrintLast Go.Proofs.YtjncmiclpaodhaaW.PrintMore
attribute [local go_sem] max2_int min2_int max_two min_two max_three min_three max_four min_four   -- for this text's walks alone
set_option linter.unusedVariables false
set_option linter.unusedSimpArgs false

-- NOT PRINTED: function 82 (api_Addr_82)

-- NOT PRINTED: function 75 (api_Addr_75)

-- NOT PRINTED: function 61 (api_Addr_61)

-- NOT PRINTED: function 62 (api_Addr_62)

-- BY HAND: function 42 (set_Make)

/-! ### host_Groups: function 24 -/
def host_Groups.l0 : Nat → List Int → List (S42) → Int → Int → List (S42) → Option (List Int)
 | 0, _, _, _, _, _ => none
 | k + 1, x3, x7, x8, x9, x292000 => if x9 < x8 then (if 0 ≤ x9 then (if x9 < (x7.length : Int) then ((host_Wants.f k x292000 ((rd_T42 x7 x9).f1)).bind fun bt297 => ((host_some.f bt297.1 bt297.2).bind fun t301 => (if t301 = true then (if x3.length < 35184372088832 then (host_Groups.l0 k (x3 ++ [(rd_T42 x7 x9).f1]) x7 x8 (wrap64 (x9 + 1)) x292000) else (none)) else (host_Groups.l0 k x3 x7 x8 (wrap64 (x9 + 1)) x292000)))) else (none)) else (none)) else ((set_Make.f x3).bind fun t292 => (some t292))
def host_Groups.f (k : Nat) (l0_0 : List (S42)) : Option (List Int) := host_Groups.l0 k ([] : List Int) l0_0 (l0_0.length : Int) 0 l0_0
theorem host_Groups.mono_l : ∀ k, (∀ y0 y1 y2 y3 y4, LeO (host_Groups.l0 k y0 y1 y2 y3 y4) (host_Groups.l0 (k + 1) y0 y1 y2 y3 y4))
 | 0 => fun _ _ _ _ _ r h => by simp [host_Groups.l0] at h
 | k + 1 => by
  have ih0 := host_Groups.mono_l k
  · intro y0 y1 y2 y3 y4
    unfold host_Groups.l0
    repeat' first
    | (with_reducible exact ih0 _ _ _ _ _)
    | (with_reducible exact host_Wants.mono _ _ _)
    | (with_reducible exact LeO.refl _)
    | (with_reducible exact LeO.none _)
    | (with_reducible refine LeO.ite ?_ ?_)
    | (with_reducible refine LeO.bind ?_ (fun _ => ?_))
    | exact ih0 _ _ _ _ _
    | exact host_Wants.mono _ _ _
    | exact LeO.none _
    | refine LeO.ite ?_ ?_
    | refine LeO.bind ?_ (fun _ => ?_)
theorem host_Groups.mono : ∀ a0 k, LeO (host_Groups.f k a0) (host_Groups.f (k + 1) a0) := by
 intro a0 k
 have ih0 := host_Groups.mono_l k
 unfold host_Groups.f
 repeat' first
  | (with_reducible exact ih0 _ _ _ _ _)
  | (with_reducible exact host_Wants.mono _ _ _)
  | (with_reducible exact LeO.refl _)
  | (with_reducible exact LeO.none _)
  | (with_reducible refine LeO.ite ?_ ?_)
  | (with_reducible refine LeO.bind ?_ (fun _ => ?_))
  | exact ih0 _ _ _ _ _
  | exact host_Wants.mono _ _ _
  | exact LeO.none _
  | refine LeO.ite ?_ ?_
  | refine LeO.bind ?_ (fun _ => ?_)
set_option maxHeartbeats 8000000 in
set_option maxRecDepth 100000 in
theorem host_Groups.calls (k : Nat) (A0_0 : Option Addr) (c0_0 : Nat) (l0_0 : List (S42)) (r : List Int) (w : World) (hr0_0 : Kd.C k42 w A0_0 l0_0.length l0_0) (hc0_0 : l0_0.length ≤ c0_0) (h : host_Groups.f k l0_0 = some r) :
 Calls Try.prog 24 #[.agg #[.slice A0_0 l0_0.length c0_0]] w fun e w' => ∃ v0_ : Value, e = .returned (v0_) ∧ Kd.R (Kd.int .u32) 23 w' w.heap.size (fun _ => True) v0_ r ∧ Below w.heap.size w w' := by
 have hu40 := Try.underlying40
 have hu42 := Try.underlying42
 have HR0_0 := Aside0.mk hr0_0
 have HC0_0 := Aside0.mk hc0_0
 clear hr0_0 hc0_0
 have HB := Aside0.mk (Below.refl w.heap.size w)
 have H : (host_Groups.l0 k ([] : List Int) l0_0 (l0_0.length : Int) 0 l0_0) = some r := h
 clear h
 have H' := Aside0.mk H
 clear H
 go_enter Try.func24, Try.ntmps24
 go_wp2_with (first | ((with_reducible refine gate_dst (N := 1) rfl ?_); refine bxn (cs := #[.slice A0_0 l0_0.length c0_0]) (t := 40) ?_; intro gb291 hg w2 hbox hb; have BK291 := Aside0.mk (hbox); have GW291 := Aside0.mk ((by rw [hg]; exact (below_size HB.out) : w.heap.size ≤ gb291)); have GE291 := Aside0.mk ((by rw [hg]; exact (below_size HB.out) : w.heap.size ≤ gb291)); replace HB := Aside0.mk (below_step HB.out hb); clear hb hbox hg; obtain ⟨hcz3_0, hfz3_0⟩ := cf1 BK291.out))
 go_loopg [3, 9] k (fun kq v3 v9 w' => ∃ (x3_1 : List Int) (x9_1 : Int), v9 = .int .i64 x9_1 ∧ Aside0 (host_Groups.l0 kq x3_1 l0_0 (l0_0.length : Int) x9_1 l0_0 = some r) ∧ Aside0 (kq ≤ k) ∧ Aside0 (Kd.R (Kd.int .u32) 23 w' w.heap.size (fun _ => True) v3 x3_1) ∧ Aside0 (w'.heap[gb291]? = some (.cells #[(.slice A0_0 l0_0.length c0_0)] 40 (0, 0))) ∧ Aside0 (Below w.heap.size w w'))
 case atStart => exact ⟨(([] : List Int)), (0), (fr), H', ⟨Nat.le_refl _⟩, ⟨nl⟩, ⟨BK291.out⟩, ⟨HB.out⟩⟩
 case round =>
  clear H'
  try clear c2
  try clear p2
  try clear hcz3_0
  try clear hfz3_0
  obtain ⟨x3_1, x9_1, rfl, HA, HK1, HO_3, BK291, HB⟩ := hrel
  cases gk with
  | zero => exact absurd HA.out (by simp [host_Groups.l0])
  | succ k1 =>
   have H := HA.out
   clear HA
   simp only [host_Groups.l0] at H
   by_cases c4 : x9_1 < (l0_0.length : Int)
   · rw [if_pos c4] at H
     have c4b0 : decide (x9_1 < (l0_0.length : Int)) = true := decide_eq_true c4
     clear c4
     by_cases c5 : 0 ≤ x9_1
     case neg => rw [if_neg c5] at H; exact absurd H (by simp)
     rw [if_pos c5] at H
     have c5b0 : decide (0 ≤ x9_1) = true := decide_eq_true c5
     clear c5
     by_cases c6 : x9_1 < (l0_0.length : Int)
     case neg => rw [if_neg c6] at H; exact absurd H (by simp)
     rw [if_pos c6] at H
     have c6b0 : decide (x9_1 < (l0_0.length : Int)) = true := decide_eq_true c6
     clear c6
     replace H := Option.bind_eq_some_iff.mp H
     obtain ⟨⟨t297, t298⟩, A70, H⟩ := H
     replace H : ((host_some.f t297 t298).bind fun t301 => (if t301 = true then (if x3_1.length < 35184372088832 then (host_Groups.l0 k1 (x3_1 ++ [(rd_T42 l0_0 x9_1).f1]) l0_0 (l0_0.length : Int) (wrap64 (x9_1 + 1)) l0_0) else (none)) else (host_Groups.l0 k1 x3_1 l0_0 (l0_0.length : Int) (wrap64 (x9_1 + 1)) l0_0))) = some r := H
     have A7 := Aside0.mk A70
     clear A70
     replace H := Option.bind_eq_some_iff.mp H
     obtain ⟨t301, A80, H⟩ := H
     replace H : (if t301 = true then (if x3_1.length < 35184372088832 then (host_Groups.l0 k1 (x3_1 ++ [(rd_T42 l0_0 x9_1).f1]) l0_0 (l0_0.length : Int) (wrap64 (x9_1 + 1)) l0_0) else (none)) else (host_Groups.l0 k1 x3_1 l0_0 (l0_0.length : Int) (wrap64 (x9_1 + 1)) l0_0)) = some r := H
     have A8 := Aside0.mk A80
     clear A80
     by_cases c9 : t301 = true
     · subst c9
       replace H : (if x3_1.length < 35184372088832 then (host_Groups.l0 k1 (x3_1 ++ [(rd_T42 l0_0 x9_1).f1]) l0_0 (l0_0.length : Int) (wrap64 (x9_1 + 1)) l0_0) else (none)) = some r := by rw [if_pos rfl] at H; exact H
       by_cases c10 : x3_1.length < 35184372088832
       case neg => rw [if_neg c10] at H; exact absurd H (by simp)
       rw [if_pos c10] at H
       have LMc10 := Aside0.mk c10
       clear c10
       obtain ⟨y302, hy302⟩ : ∃ y_ : List Int, y_ = (x3_1 ++ [(rd_T42 l0_0 x9_1).f1]) := ⟨_, rfl⟩
       replace H : (host_Groups.l0 k1 y302 l0_0 (l0_0.length : Int) (wrap64 (x9_1 + 1)) l0_0) = some r := by first | (rw [hy302]; with_reducible exact H) | (have H2_ := (Option.bind_some _ _).symm.trans H; rw [hy302]; with_reducible exact H2_) | (have H2_ := (Option.bind_some _ _).symm.trans H; with_reducible exact H2_) | with_reducible exact H | (rw [hy302]; exact H) | exact H
       have Ny302 := Aside0.mk hy302
       clear hy302
       have H' := Aside0.mk H
       clear H
       have p295 : 0 ≤ (x9_1 : Int) := od
       have q295 : x9_1 < (l0_0.length : Int) := od
       obtain ⟨ad295, A295_3, c295_3, e295, hx295_0, hx295_1, hx295_2, hx295_3, hl295_3, hi295_3⟩ := at_T42 HR0_0.out x9_1 p295 q295
       cases e295
       replace hx295_0 := hcz HB hx295_0
       replace hx295_1 := hcz HB hx295_1
       replace hx295_2 := hcz HB hx295_2
       replace hx295_3 := hcz HB hx295_3
       have HR295_3 := Aside0.mk hi295_3
       have HC295_3 := Aside0.mk hl295_3
       clear hi295_3 hl295_3
       replace p295 := eq_true p295
       replace q295 := eq_true q295
       go_wp2_with (first | ((with_reducible refine gate_dst (N := 5) rfl ?_); refine bxn (cs := #[.int .i64 0, .int .u32 0, .bool false, .slice none 0 0]) (t := 42) ?_; intro gb296 hg w11 hbox hb; have n0_ := Aside0.mk (Kd.R_below (rad HO_3.out) hb); have n1_ := Aside0.mk (blk_below (g := gb291) (o := .cells #[.slice (some ad295) l0_0.length c0_0] 40 (0, 0)) (ba BK291.out) hb); have n2_ := Aside0.mk (below_step (bl HB) hb); have n3_ := Aside0.mk (hbox); have n4_ := Aside0.mk ((by rw [hg]; exact (below_size (bl HB)) : w.heap.size ≤ gb296)); have n5_ := Aside0.mk ((by rw [hg]; exact (below_size (bl HB)) : w.heap.size ≤ gb296)); have n6_ := Aside0.mk ((by rw [hg]; exact Nat.ne_of_lt (blk_lt (g := gb291) (o := .cells #[.slice (some ad295) l0_0.length c0_0] 40 (0, 0)) (ba BK291.out)) : gb291 ≠ gb296)); have n7_ := Aside0.mk ((by rw [hg]; exact Nat.ne_of_gt (blk_lt (g := gb291) (o := .cells #[.slice (some ad295) l0_0.length c0_0] 40 (0, 0)) (ba BK291.out)) : gb296 ≠ gb291)); clear HO_3; clear BK291; clear HB; have HO_3 := n0_; have BK291 := n1_; have HB := n2_; have BK296 := n3_; have GW296 := n4_; have GE296 := n5_; have NB291_296 := n6_; have NB296_291 := n7_; clear n0_ n1_ n2_ n3_ n4_ n5_ n6_ n7_; clear hb hbox hg; have hnb12 := NB296_291.out; have hnc12 := NB291_296.out; obtain ⟨hcz13_0, hcz13_1, hcz13_2, hcz13_3, hfz13_0, hfz13_1, hfz13_2, hfz13_3⟩ := cf4 BK296.out) | ((with_reducible refine gate_store (t := 42) (p := 5) rfl ?_); refine store_event (t := 42) (p := 5) (v := ?vo_w14) (w1 := ((((w11.setCell ⟨gb296, 0, none⟩ (.int .i64 ((rd_T42 l0_0 x9_1).f0))).setCell ⟨gb296, 1, none⟩ (.int .u32 ((rd_T42 l0_0 x9_1).f1))).setCell ⟨gb296, 2, none⟩ (.bool ((rd_T42 l0_0 x9_1).f2.f0))).setCell ⟨gb296, 3, none⟩ (.slice A295_3 ((rd_T42 l0_0 x9_1).f2.f1).length c295_3))) ?hg ?ho ?hn ?hr ?_; (case ho => rfl); (case hg => rfl); (case hn => rfl); (case hr => first | (go_simp; done) | (go_simp; rfl)); intro w14 hw; have n0_ : Aside0 (Kd.R (Kd.int .u32) 23 w14 w.heap.size (fun _ => True) u3 x3_1) := ⟨(by rw [hw]; exact (by refine rad ?_; exact Kd.R_mono (Kd.R_far (p := ⟨gb296, 3, none⟩) (Kd.R_far (p := ⟨gb296, 2, none⟩) (Kd.R_far (p := ⟨gb296, 1, none⟩) (Kd.R_far (p := ⟨gb296, 0, none⟩) (Kd.R_types HO_3.out BK296.out (by decide)) (fun _ hk => hk.2) (.int .i64 ((rd_T42 l0_0 x9_1).f0))) (fun _ hk => hk.2) (.int .u32 ((rd_T42 l0_0 x9_1).f1))) (fun _ hk => hk.2) (.bool ((rd_T42 l0_0 x9_1).f2.f0))) (fun _ hk => hk.2) (.slice A295_3 ((rd_T42 l0_0 x9_1).f2.f1).length c295_3)) (fun _ hk => trivial)))⟩; have n1_ : Aside0 (w14.heap[gb291]? = some (.cells #[.slice (some ad295) l0_0.length c0_0] 40 (0, 0))) := ⟨(by rw [hw]; exact (by refine ba ?_; refine blk_far ?_ NB291_296.out _; refine ba ?_; refine blk_far ?_ NB291_296.out _; refine ba ?_; refine blk_far ?_ NB291_296.out _; refine ba ?_; refine blk_far ?_ NB291_296.out _; refine ba ?_; exact BK291.out))⟩; have n2_ : Aside0 (w14.heap[gb296]? = some (.cells #[.int .i64 ((rd_T42 l0_0 x9_1).f0), .int .u32 ((rd_T42 l0_0 x9_1).f1), .bool ((rd_T42 l0_0 x9_1).f2.f0), .slice A295_3 ((rd_T42 l0_0 x9_1).f2.f1).length c295_3] 42 (0, 0))) := ⟨(by rw [hw]; exact (by refine ba ?_; refine blk_put (cs := #[.int .i64 ((rd_T42 l0_0 x9_1).f0), .int .u32 ((rd_T42 l0_0 x9_1).f1), .bool ((rd_T42 l0_0 x9_1).f2.f0), .slice none 0 0]) ?_ 3 _ rfl; refine ba ?_; refine blk_put (cs := #[.int .i64 ((rd_T42 l0_0 x9_1).f0), .int .u32 ((rd_T42 l0_0 x9_1).f1), .bool false, .slice none 0 0]) ?_ 2 _ rfl; refine ba ?_; refine blk_put (cs := #[.int .i64 ((rd_T42 l0_0 x9_1).f0), .int .u32 0, .bool false, .slice none 0 0]) ?_ 1 _ rfl; refine ba ?_; refine blk_put (cs := #[.int .i64 0, .int .u32 0, .bool false, .slice none 0 0]) ?_ 0 _ rfl; refine ba ?_; exact BK296.out))⟩; have n3_ : Aside0 (Below w.heap.size w w14) := ⟨(by rw [hw]; exact (bl HB))⟩; clear hw; clear HO_3; clear BK291; clear BK296; clear HB; have HO_3 := n0_; have BK291 := n1_; have BK296 := n2_; have HB := n3_; clear n0_ n1_ n2_ n3_; obtain ⟨hcz15_0, hfz15_0⟩ := cf1 BK291.out; obtain ⟨hcz16_0, hcz16_1, hcz16_2, hcz16_3, hfz16_0, hfz16_1, hfz16_2, hfz16_3⟩ := cf4 BK296.out) | ((with_reducible refine gate_callee (f := 18) rfl ?_); refine goesL_ (some 16) rfl rfl Try.func18 (by kernel_rfl) rfl #[.agg #[.slice (some ad295) l0_0.length c0_0], .int .u32 ((rd_T42 l0_0 x9_1).f1)] rfl (by (try simp only [List.map_toArray, List.map_cons, List.map_nil]); first | done | rfl | (simp only [List.length_drop, List.length_take]; rfl)) ?_; (with_reducible refine (host_Wants.calls k1 (fun k_ => k_ < w.heap.size) _ _ l0_0 ((rd_T42 l0_0 x9_1).f1) t297 t298 _ ?side1 A7.out).mono ?_); (case side1 => exact Kd.V_mk HC0_0.out (Kd.F_below (Kd.C_F k42_heap HR0_0.out) (bl HB))); rintro e w17 ⟨v299, rfl, ho0, hb⟩; refine ⟨_, rfl, ?_⟩; have n0_ := Aside0.mk (Kd.R_elder' (rad HO_3.out) (Kd.R_base ho0) hb); have n1_ := Aside0.mk (Kd.R_lower (Kd.R_new' (Kd.R_mono (ok' := fun k_ => True) ho0 (fun _ hk_ => trivial)) (Kd.R_lt (rad HO_3.out))) (below_size (bl HB))); have n2_ := Aside0.mk (blk_below (g := gb291) (o := .cells #[.slice (some ad295) l0_0.length c0_0] 40 (0, 0)) (ba BK291.out) hb); have n3_ := Aside0.mk (blk_below (g := gb296) (o := .cells #[.int .i64 ((rd_T42 l0_0 x9_1).f0), .int .u32 ((rd_T42 l0_0 x9_1).f1), .bool ((rd_T42 l0_0 x9_1).f2.f0), .slice A295_3 ((rd_T42 l0_0 x9_1).f2.f1).length c295_3] 42 (0, 0)) (ba BK296.out) hb); have n4_ := Aside0.mk (below_step (bl HB) hb); clear HO_3; clear BK291; clear BK296; clear HB; have HO_3 := n0_; have HO300 := n1_; have BK291 := n2_; have BK296 := n3_; have HB := n4_; clear n0_ n1_ n2_ n3_ n4_; (try clear hb); (try clear hb2); (try clear hk); (try clear hi); (try clear ho0); obtain ⟨Ao18, co18, eo18⟩ := Kd.R_slice HO300.out; subst eo18) | ((with_reducible refine gate_callee (f := 41) rfl ?_); refine goesL_ (some 17) rfl rfl Try.func41 (by kernel_rfl) rfl #[.agg #[.bool t297, .slice Ao18 t298.length co18]] rfl (by (try simp only [List.map_toArray, List.map_cons, List.map_nil]); first | done | rfl | (simp only [List.length_drop, List.length_take]; rfl)) ?_; (with_reducible refine (host_some.calls t297 _ _ t298 true _ ?side1 ?side2 A8.out).mono ?_); (case side1 => exact ca (Kd.R_reads' HO300.out).2.2); (case side2 => exact (Kd.R_reads' HO300.out).2.1); rintro e w19 ⟨rfl, hb⟩; refine ⟨_, rfl, ?_⟩; have n0_ := Aside0.mk (Kd.R_below (rad HO_3.out) hb); have n1_ := Aside0.mk (Kd.R_below (rad HO300.out) hb); have n2_ := Aside0.mk (blk_below (g := gb291) (o := .cells #[.slice (some ad295) l0_0.length c0_0] 40 (0, 0)) (ba BK291.out) hb); have n3_ := Aside0.mk (blk_below (g := gb296) (o := .cells #[.int .i64 ((rd_T42 l0_0 x9_1).f0), .int .u32 ((rd_T42 l0_0 x9_1).f1), .bool ((rd_T42 l0_0 x9_1).f2.f0), .slice A295_3 ((rd_T42 l0_0 x9_1).f2.f1).length c295_3] 42 (0, 0)) (ba BK296.out) hb); have n4_ := Aside0.mk (below_step (bl HB) hb); clear HO_3; clear HO300; clear BK291; clear BK296; clear HB; have HO_3 := n0_; have HO300 := n1_; have BK291 := n2_; have BK296 := n3_; have HB := n4_; clear n0_ n1_ n2_ n3_ n4_; (try clear hb); (try clear hb2); (try clear hk); (try clear hi); obtain ⟨hcz20_0, hcz20_1, hcz20_2, hcz20_3, hfz20_0, hfz20_1, hfz20_2, hfz20_3⟩ := cf4 BK296.out) | ((with_reducible refine gate_builtin (b := .append) (xs := #[.tmp 18, .tmp 21]) rfl ?_); at_builtin; refine Kd.R_append (Kd.int .u32) (w0 := w) w.heap.size rfl (.tmp 18) (.tmp 21) 24 23 (.int .u32 0) 4 rfl Try.underlying24 info23 rfl (by decide) (by omega) u3 x3_1 ((rd_T42 l0_0 x9_1).f1) [.int .u32 ((rd_T42 l0_0 x9_1).f1)] (fun k_ => some k_ ≠ (.slice Ao18 t298.length co18 : Value).ownBlock) (fun _ => False) rfl rfl ?aP (fun _ hk => hk.elim) ?aF ?aO ?aB ?aS ?aL ?_; (case aP => exact rfl); (case aB => exact (bl HB)); (case aF => exact (fun k_ hk => Kd.fresh' (Kd.R_lt (rad HO300.out)) k_ hk)); (case aO => exact (by refine rad ?_; exact Kd.R_mono HO_3.out (fun _ hk => hk.2))); (case aS => exact (below_size (bl HB))); (case aL => have := LMc10.out; omega); intro v303 w21 ho hb hg hat; rw [← Ny302.out] at ho; have n0_ := Aside0.mk (blk_grown (g := gb291) (o := .cells #[.slice (some ad295) l0_0.length c0_0] 40 (0, 0)) (ba BK291.out) hg (Kd.R_ne HO_3.out BK291.out (by decide))); have n1_ := Aside0.mk (blk_grown (g := gb296) (o := .cells #[.int .i64 ((rd_T42 l0_0 x9_1).f0), .int .u32 ((rd_T42 l0_0 x9_1).f1), .bool ((rd_T42 l0_0 x9_1).f2.f0), .slice A295_3 ((rd_T42 l0_0 x9_1).f2.f1).length c295_3] 42 (0, 0)) (ba BK296.out) hg (Kd.R_ne HO_3.out BK296.out (by decide))); have n2_ := Aside0.mk (Kd.R_after (ok := (fun _ => True)) (rad HO300.out) hg hat); have n3_ := Aside0.mk (hb); have n4_ := Aside0.mk (ho); clear BK291; clear BK296; clear HO300; clear HB; clear HO_3; have BK291 := n0_; have BK296 := n1_; have HO300 := n2_; have HB := n3_; have HO304 := n4_; clear n0_ n1_ n2_ n3_ n4_; clear ho hb hg hat))
       go_roundg k1
       case measure => have := HK1.out; omega
       case rel => exact ⟨(y302), (wrap64 (x9_1 + 1)), (fr), H', ⟨by have := HK1.out; omega⟩, ⟨by refine rad ?_; exact Kd.R_mono HO304.out (fun _ hk => trivial)⟩, ⟨BK291.out⟩, ⟨HB.out⟩⟩
     · replace c9 := Bool.eq_false_iff.mpr c9
       subst c9
       replace H : (host_Groups.l0 k1 x3_1 l0_0 (l0_0.length : Int) (wrap64 (x9_1 + 1)) l0_0) = some r := by rw [if_neg (show ¬ (false = true) by decide)] at H; exact H
       have H' := Aside0.mk H
       clear H
       have p295 : 0 ≤ (x9_1 : Int) := od
       have q295 : x9_1 < (l0_0.length : Int) := od
       obtain ⟨ad295, A295_3, c295_3, e295, hx295_0, hx295_1, hx295_2, hx295_3, hl295_3, hi295_3⟩ := at_T42 HR0_0.out x9_1 p295 q295
       cases e295
       replace hx295_0 := hcz HB hx295_0
       replace hx295_1 := hcz HB hx295_1
       replace hx295_2 := hcz HB hx295_2
       replace hx295_3 := hcz HB hx295_3
       have HR295_3 := Aside0.mk hi295_3
       have HC295_3 := Aside0.mk hl295_3
       clear hi295_3 hl295_3
       replace p295 := eq_true p295
       replace q295 := eq_true q295
       go_wp2_with (first | ((with_reducible refine gate_dst (N := 5) rfl ?_); refine bxn (cs := #[.int .i64 0, .int .u32 0, .bool false, .slice none 0 0]) (t := 42) ?_; intro gb296 hg w22 hbox hb; have n0_ := Aside0.mk (Kd.R_below (rad HO_3.out) hb); have n1_ := Aside0.mk (blk_below (g := gb291) (o := .cells #[.slice (some ad295) l0_0.length c0_0] 40 (0, 0)) (ba BK291.out) hb); have n2_ := Aside0.mk (below_step (bl HB) hb); have n3_ := Aside0.mk (hbox); have n4_ := Aside0.mk ((by rw [hg]; exact (below_size (bl HB)) : w.heap.size ≤ gb296)); have n5_ := Aside0.mk ((by rw [hg]; exact (below_size (bl HB)) : w.heap.size ≤ gb296)); have n6_ := Aside0.mk ((by rw [hg]; exact Nat.ne_of_lt (blk_lt (g := gb291) (o := .cells #[.slice (some ad295) l0_0.length c0_0] 40 (0, 0)) (ba BK291.out)) : gb291 ≠ gb296)); have n7_ := Aside0.mk ((by rw [hg]; exact Nat.ne_of_gt (blk_lt (g := gb291) (o := .cells #[.slice (some ad295) l0_0.length c0_0] 40 (0, 0)) (ba BK291.out)) : gb296 ≠ gb291)); clear HO_3; clear BK291; clear HB; have HO_3 := n0_; have BK291 := n1_; have HB := n2_; have BK296 := n3_; have GW296 := n4_; have GE296 := n5_; have NB291_296 := n6_; have NB296_291 := n7_; clear n0_ n1_ n2_ n3_ n4_ n5_ n6_ n7_; clear hb hbox hg; have hnb23 := NB296_291.out; have hnc23 := NB291_296.out; obtain ⟨hcz24_0, hcz24_1, hcz24_2, hcz24_3, hfz24_0, hfz24_1, hfz24_2, hfz24_3⟩ := cf4 BK296.out) | ((with_reducible refine gate_store (t := 42) (p := 5) rfl ?_); refine store_event (t := 42) (p := 5) (v := ?vo_w25) (w1 := ((((w22.setCell ⟨gb296, 0, none⟩ (.int .i64 ((rd_T42 l0_0 x9_1).f0))).setCell ⟨gb296, 1, none⟩ (.int .u32 ((rd_T42 l0_0 x9_1).f1))).setCell ⟨gb296, 2, none⟩ (.bool ((rd_T42 l0_0 x9_1).f2.f0))).setCell ⟨gb296, 3, none⟩ (.slice A295_3 ((rd_T42 l0_0 x9_1).f2.f1).length c295_3))) ?hg ?ho ?hn ?hr ?_; (case ho => rfl); (case hg => rfl); (case hn => rfl); (case hr => first | (go_simp; done) | (go_simp; rfl)); intro w25 hw; have n0_ : Aside0 (Kd.R (Kd.int .u32) 23 w25 w.heap.size (fun _ => True) u3 x3_1) := ⟨(by rw [hw]; exact (by refine rad ?_; exact Kd.R_mono (Kd.R_far (p := ⟨gb296, 3, none⟩) (Kd.R_far (p := ⟨gb296, 2, none⟩) (Kd.R_far (p := ⟨gb296, 1, none⟩) (Kd.R_far (p := ⟨gb296, 0, none⟩) (Kd.R_types HO_3.out BK296.out (by decide)) (fun _ hk => hk.2) (.int .i64 ((rd_T42 l0_0 x9_1).f0))) (fun _ hk => hk.2) (.int .u32 ((rd_T42 l0_0 x9_1).f1))) (fun _ hk => hk.2) (.bool ((rd_T42 l0_0 x9_1).f2.f0))) (fun _ hk => hk.2) (.slice A295_3 ((rd_T42 l0_0 x9_1).f2.f1).length c295_3)) (fun _ hk => trivial)))⟩; have n1_ : Aside0 (w25.heap[gb291]? = some (.cells #[.slice (some ad295) l0_0.length c0_0] 40 (0, 0))) := ⟨(by rw [hw]; exact (by refine ba ?_; refine blk_far ?_ NB291_296.out _; refine ba ?_; refine blk_far ?_ NB291_296.out _; refine ba ?_; refine blk_far ?_ NB291_296.out _; refine ba ?_; refine blk_far ?_ NB291_296.out _; refine ba ?_; exact BK291.out))⟩; have n2_ : Aside0 (w25.heap[gb296]? = some (.cells #[.int .i64 ((rd_T42 l0_0 x9_1).f0), .int .u32 ((rd_T42 l0_0 x9_1).f1), .bool ((rd_T42 l0_0 x9_1).f2.f0), .slice A295_3 ((rd_T42 l0_0 x9_1).f2.f1).length c295_3] 42 (0, 0))) := ⟨(by rw [hw]; exact (by refine ba ?_; refine blk_put (cs := #[.int .i64 ((rd_T42 l0_0 x9_1).f0), .int .u32 ((rd_T42 l0_0 x9_1).f1), .bool ((rd_T42 l0_0 x9_1).f2.f0), .slice none 0 0]) ?_ 3 _ rfl; refine ba ?_; refine blk_put (cs := #[.int .i64 ((rd_T42 l0_0 x9_1).f0), .int .u32 ((rd_T42 l0_0 x9_1).f1), .bool false, .slice none 0 0]) ?_ 2 _ rfl; refine ba ?_; refine blk_put (cs := #[.int .i64 ((rd_T42 l0_0 x9_1).f0), .int .u32 0, .bool false, .slice none 0 0]) ?_ 1 _ rfl; refine ba ?_; refine blk_put (cs := #[.int .i64 0, .int .u32 0, .bool false, .slice none 0 0]) ?_ 0 _ rfl; refine ba ?_; exact BK296.out))⟩; have n3_ : Aside0 (Below w.heap.size w w25) := ⟨(by rw [hw]; exact (bl HB))⟩; clear hw; clear HO_3; clear BK291; clear BK296; clear HB; have HO_3 := n0_; have BK291 := n1_; have BK296 := n2_; have HB := n3_; clear n0_ n1_ n2_ n3_; obtain ⟨hcz26_0, hfz26_0⟩ := cf1 BK291.out; obtain ⟨hcz27_0, hcz27_1, hcz27_2, hcz27_3, hfz27_0, hfz27_1, hfz27_2, hfz27_3⟩ := cf4 BK296.out) | ((with_reducible refine gate_callee (f := 18) rfl ?_); refine goesL_ (some 16) rfl rfl Try.func18 (by kernel_rfl) rfl #[.agg #[.slice (some ad295) l0_0.length c0_0], .int .u32 ((rd_T42 l0_0 x9_1).f1)] rfl (by (try simp only [List.map_toArray, List.map_cons, List.map_nil]); first | done | rfl | (simp only [List.length_drop, List.length_take]; rfl)) ?_; (with_reducible refine (host_Wants.calls k1 (fun k_ => k_ < w.heap.size) _ _ l0_0 ((rd_T42 l0_0 x9_1).f1) t297 t298 _ ?side1 A7.out).mono ?_); (case side1 => exact Kd.V_mk HC0_0.out (Kd.F_below (Kd.C_F k42_heap HR0_0.out) (bl HB))); rintro e w28 ⟨v299, rfl, ho0, hb⟩; refine ⟨_, rfl, ?_⟩; have n0_ := Aside0.mk (Kd.R_elder' (rad HO_3.out) (Kd.R_base ho0) hb); have n1_ := Aside0.mk (Kd.R_lower (Kd.R_new' (Kd.R_mono (ok' := fun k_ => True) ho0 (fun _ hk_ => trivial)) (Kd.R_lt (rad HO_3.out))) (below_size (bl HB))); have n2_ := Aside0.mk (blk_below (g := gb291) (o := .cells #[.slice (some ad295) l0_0.length c0_0] 40 (0, 0)) (ba BK291.out) hb); have n3_ := Aside0.mk (blk_below (g := gb296) (o := .cells #[.int .i64 ((rd_T42 l0_0 x9_1).f0), .int .u32 ((rd_T42 l0_0 x9_1).f1), .bool ((rd_T42 l0_0 x9_1).f2.f0), .slice A295_3 ((rd_T42 l0_0 x9_1).f2.f1).length c295_3] 42 (0, 0)) (ba BK296.out) hb); have n4_ := Aside0.mk (below_step (bl HB) hb); clear HO_3; clear BK291; clear BK296; clear HB; have HO_3 := n0_; have HO300 := n1_; have BK291 := n2_; have BK296 := n3_; have HB := n4_; clear n0_ n1_ n2_ n3_ n4_; (try clear hb); (try clear hb2); (try clear hk); (try clear hi); (try clear ho0); obtain ⟨Ao29, co29, eo29⟩ := Kd.R_slice HO300.out; subst eo29) | ((with_reducible refine gate_callee (f := 41) rfl ?_); refine goesL_ (some 17) rfl rfl Try.func41 (by kernel_rfl) rfl #[.agg #[.bool t297, .slice Ao29 t298.length co29]] rfl (by (try simp only [List.map_toArray, List.map_cons, List.map_nil]); first | done | rfl | (simp only [List.length_drop, List.length_take]; rfl)) ?_; (with_reducible refine (host_some.calls t297 _ _ t298 false _ ?side1 ?side2 A8.out).mono ?_); (case side1 => exact ca (Kd.R_reads' HO300.out).2.2); (case side2 => exact (Kd.R_reads' HO300.out).2.1); rintro e w30 ⟨rfl, hb⟩; refine ⟨_, rfl, ?_⟩; have n0_ := Aside0.mk (Kd.R_below (rad HO_3.out) hb); have n1_ := Aside0.mk (Kd.R_below (rad HO300.out) hb); have n2_ := Aside0.mk (blk_below (g := gb291) (o := .cells #[.slice (some ad295) l0_0.length c0_0] 40 (0, 0)) (ba BK291.out) hb); have n3_ := Aside0.mk (blk_below (g := gb296) (o := .cells #[.int .i64 ((rd_T42 l0_0 x9_1).f0), .int .u32 ((rd_T42 l0_0 x9_1).f1), .bool ((rd_T42 l0_0 x9_1).f2.f0), .slice A295_3 ((rd_T42 l0_0 x9_1).f2.f1).length c295_3] 42 (0, 0)) (ba BK296.out) hb); have n4_ := Aside0.mk (below_step (bl HB) hb); clear HO_3; clear HO300; clear BK291; clear BK296; clear HB; have HO_3 := n0_; have HO300 := n1_; have BK291 := n2_; have BK296 := n3_; have HB := n4_; clear n0_ n1_ n2_ n3_ n4_; (try clear hb); (try clear hb2); (try clear hk); (try clear hi)))
       go_roundg k1
       case measure => have := HK1.out; omega
       case rel => exact ⟨(x3_1), (wrap64 (x9_1 + 1)), (fr), H', ⟨by have := HK1.out; omega⟩, ⟨by refine rad ?_; exact Kd.R_mono HO_3.out (fun _ hk => trivial)⟩, ⟨BK291.out⟩, ⟨HB.out⟩⟩
   · rw [if_neg c4] at H
     have c4b0 : decide (x9_1 < (l0_0.length : Int)) = false := decide_eq_false c4
     clear c4
     replace H := Option.bind_eq_some_iff.mp H
     obtain ⟨t292, A310, H⟩ := H
     replace H : (some t292) = some r := H
     have A31 := Aside0.mk A310
     clear A310
     obtain rfl := Option.some.inj H
     obtain ⟨Ao32, co32, eo32⟩ := Kd.R_slice HO_3.out
     subst eo32
     go_wp2_with (first | ((with_reducible refine gate_callee (f := 42) rfl ?_); refine goesL_ (some 25) rfl rfl Try.func42 (by kernel_rfl) rfl #[.slice Ao32 x3_1.length co32] rfl (by (try simp only [List.map_toArray, List.map_cons, List.map_nil]); first | done | rfl | (simp only [List.length_drop, List.length_take]; rfl)) ?_; (with_reducible refine (set_Make.calls _ _ x3_1 t292 _ ?side1 ?side2 A31.out).mono ?_); (case side1 => exact ca (Kd.R_reads' HO_3.out).2.2); (case side2 => exact (Kd.R_reads' HO_3.out).2.1); rintro e w33 ⟨v293, rfl, ho0, hb⟩; refine ⟨_, rfl, ?_⟩; have n0_ := Aside0.mk (Kd.R_elder' (rad HO_3.out) (Kd.R_base ho0) hb); have n1_ := Aside0.mk (Kd.R_lower (Kd.R_new' ho0 (Kd.R_lt (rad HO_3.out))) (below_size HB.out)); have n2_ := Aside0.mk (blk_below BK291.out hb); have n3_ := Aside0.mk (below_step HB.out hb); clear HO_3; clear BK291; clear HB; have HO_3 := n0_; have HO294 := n1_; have BK291 := n2_; have HB := n3_; clear n0_ n1_ n2_ n3_; (try clear hb); (try clear hb2); (try clear hk); (try clear hi); (try clear ho0)))
     go_ret
     exact ⟨_, by first | rfl | (simp [errW_none, errW_some] <;> rfl) | (simp [*, errW_none, errW_some] <;> rfl), by refine rad ?_; exact Kd.R_mono HO294.out (fun _ hk => trivial), bl HB⟩

end Go.Proofs.Ytjncmiclpaodhaa.PHo
