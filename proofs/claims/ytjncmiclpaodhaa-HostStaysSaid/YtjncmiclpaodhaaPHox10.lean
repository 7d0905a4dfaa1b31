/- Texts of a claim. -/
import Derived.Test.YtjncmiclpaodhaaPHox1
-- written by a program of this session (hprint.py), over the kit's printer
namespace Go.Proofs.Ytjncmiclpaodhaa.PHo
open Go.RowKit Go.Proofs.YtjncmiclpaodhaaW.PrintWords Go.Proofs.YtjncmiclpaodhaaW.PrintLast Go.Proofs.YtjncmiclpaodhaaW.PrintMore
attribute [local go_sem] max2_int min2_int max_two min_two max_three min_three max_four min_four   -- for this text's walks alone
set_option linter.unusedVariables false
set_option linter.unusedSimpArgs false

/-! ### host_changed: function 33 -/
def host_changed.f (k : Nat) (l0_0 : List (S42)) (l1_0 : List (S42)) (a2 : Int) : Option ((List (S42)) × (List (S36)) × Int) := (host_Wants.f k l0_0 a2).bind fun bt145 => ((host_Wants.f k l1_0 a2).bind fun bt149 => ((host_Change.f a2 bt145.1 bt145.2 bt149.1 bt149.2).bind fun t153 => (some (l1_0, t153, 0))))
theorem host_changed.mono : ∀ a0 a1 a2 k, LeO (host_changed.f k a0 a1 a2) (host_changed.f (k + 1) a0 a1 a2) := by
 intro a0 a1 a2 k
 unfold host_changed.f
 repeat' first
  | (with_reducible exact host_Wants.mono _ _ _)
  | (with_reducible exact LeO.refl _)
  | (with_reducible exact LeO.none _)
  | (with_reducible refine LeO.ite ?_ ?_)
  | (with_reducible refine LeO.bind ?_ (fun _ => ?_))
  | exact host_Wants.mono _ _ _
  | exact LeO.none _
  | refine LeO.ite ?_ ?_
  | refine LeO.bind ?_ (fun _ => ?_)
def host_changed.T1 : Bool × List (List Nat × List Nat) := (true, [([], []), ([], []), ([], []), ([], []), ([2, 3], [2, 3]), ([], []), ([], []), ([5, 6, 4], [5, 6]), ([1, 4, 7, 7], [1, 4, 7]), ([0, 8, 0], [0]), ([8, 9, 0, 1, 2, 3, 4, 5, 6, 7, 8, 9], [8]), ([10, 0, 1, 2, 3, 4, 5, 6, 7, 8, 9, 10], [])])
def host_changed.B1 : List Nat := [0, 0, 0, 0, 12, 0, 0, 124, 254, 511, 1023, 2047]
theorem host_changed.tab1 : rtab .any (opsOf Try.f33 1) = host_changed.T1 := by kernel_rfl
theorem host_changed.bits1 : waitsOk host_changed.T1.2 host_changed.B1 = true := by kernel_rfl
set_option maxHeartbeats 8000000 in
set_option maxRecDepth 100000 in
theorem host_changed.calls (k : Nat) (A0_0 : Option Addr) (c0_0 : Nat) (l0_0 : List (S42)) (P1_0_ : Nat → Prop) (A1_0 : Option Addr) (c1_0 : Nat) (l1_0 : List (S42)) (a2 : Int) (r1 : List (S42)) (r2 : List (S36)) (r3 : Int) (w : World) (hr0_0 : Kd.C k42 w A0_0 l0_0.length l0_0) (hc0_0 : l0_0.length ≤ c0_0) (hs1_0 : Kd.V k42 42 w w.heap.size (fun k_ => P1_0_ k_) (.slice A1_0 l1_0.length c1_0) l1_0) (h : host_changed.f k l0_0 l1_0 a2 = some (r1, r2, r3)) :
 Calls Try.prog 33 #[.agg #[.slice A0_0 l0_0.length c0_0], .agg #[.slice A1_0 l1_0.length c1_0], .int .u32 a2] w fun e w' => ∃ v0_ v1_ : Value, e = .returned (.tuple #[.agg #[v0_], v1_, .int .i64 r3]) ∧ Kd.V k42 42 w' w.heap.size (fun k_ => (P1_0_ k_ ∨ w.heap.size ≤ k_)) v0_ r1 ∧ Kd.V k36 36 w' w.heap.size (fun k_ => (P1_0_ k_ ∨ w.heap.size ≤ k_)) v1_ r2 ∧ Below w.heap.size w w' := by
 have hu40 := Try.underlying40
 have HR0_0 := Aside0.mk hr0_0
 have HC0_0 := Aside0.mk hc0_0
 clear hr0_0 hc0_0
 have HO1_0 := Aside0.mk (show Kd.V k42 42 w w.heap.size (fun k_ => (P1_0_ k_ ∨ w.heap.size ≤ k_)) (.slice A1_0 l1_0.length c1_0) l1_0 from Kd.V_mono hs1_0 (fun k_ hk => .inl hk))
 have HB := Aside0.mk (Below.refl w.heap.size w)
 have H : ((host_Wants.f k l0_0 a2).bind fun bt145 => ((host_Wants.f k l1_0 a2).bind fun bt149 => ((host_Change.f a2 bt145.1 bt145.2 bt149.1 bt149.2).bind fun t153 => (some (l1_0, t153, 0))))) = some (r1, r2, r3) := h
 clear h
 replace H := Option.bind_eq_some_iff.mp H
 obtain ⟨⟨t145, t146⟩, A40, H⟩ := H
 replace H : ((host_Wants.f k l1_0 a2).bind fun bt149 => ((host_Change.f a2 t145 t146 bt149.1 bt149.2).bind fun t153 => (some (l1_0, t153, 0)))) = some (r1, r2, r3) := H
 have A4 := Aside0.mk A40
 clear A40
 replace H := Option.bind_eq_some_iff.mp H
 obtain ⟨⟨t149, t150⟩, A50, H⟩ := H
 replace H : ((host_Change.f a2 t145 t146 t149 t150).bind fun t153 => (some (l1_0, t153, 0))) = some (r1, r2, r3) := H
 have A5 := Aside0.mk A50
 clear A50
 replace H := Option.bind_eq_some_iff.mp H
 obtain ⟨t153, A60, H⟩ := H
 replace H : (some (l1_0, t153, 0)) = some (r1, r2, r3) := H
 have A6 := Aside0.mk A60
 clear A60
 simp only [Option.some.injEq, Prod.mk.injEq] at H
 obtain ⟨rfl, rfl, rfl⟩ := H
 go_enter Try.func33, Try.ntmps33
 try go_wp2_with (first | ((with_reducible refine gate_dst (N := 3) rfl ?_); refine box_event ?hg (N := 3) ?hd (cs := #[.slice A0_0 l0_0.length c0_0]) (t := 40) ?hr ?_; (case hd => rfl); (case hg => rfl); (case hr => first | (go_simp; done) | (go_simp; rfl)); intro gb142 hg w7 hbox hb; have n0_ := Aside0.mk (Kd.V_below (Kd.V_elderB (by (with_reducible repeat (first | apply Kd.V_alloc | apply Kd.V_drewN | apply Kd.V_drew)); exact HO1_0.out) gb142 (Nat.le_of_eq hg.symm)) hb); have n1_ := Aside0.mk (below_step HB.out hb); have n2_ := Aside0.mk (hbox); have n3_ := Aside0.mk ((by rw [hg]; exact (below_size HB.out) : w.heap.size ≤ gb142)); have n4_ := Aside0.mk ((by rw [hg]; exact (below_size HB.out) : w.heap.size ≤ gb142)); clear HO1_0; clear HB; have HO1_0 := n0_; have HB := n1_; have BK142 := n2_; have GW142 := n3_; have GE142 := n4_; clear n0_ n1_ n2_ n3_ n4_; clear hb hbox hg) | ((with_reducible refine gate_dst (N := 4) rfl ?_); refine box_event ?hg (N := 4) ?hd (cs := #[.slice A1_0 l1_0.length c1_0]) (t := 40) ?hr ?_; (case hd => rfl); (case hg => rfl); (case hr => first | (go_simp; done) | (go_simp; rfl)); intro gb143 hg w8 hbox hb; have n0_ := Aside0.mk (Kd.V_below (Kd.V_elderB (by (with_reducible repeat (first | apply Kd.V_alloc | apply Kd.V_drewN | apply Kd.V_drew)); exact HO1_0.out) gb143 (Nat.le_of_eq hg.symm)) hb); have n1_ := Aside0.mk (blk_below BK142.out hb); have n2_ := Aside0.mk (below_step HB.out hb); have n3_ := Aside0.mk (hbox); have n4_ := Aside0.mk ((by rw [hg]; exact (below_size HB.out) : w.heap.size ≤ gb143)); have n5_ := Aside0.mk ((by rw [hg]; exact (below_size HB.out) : w.heap.size ≤ gb143)); have n6_ := Aside0.mk ((by rw [hg]; exact Nat.ne_of_lt (blk_lt BK142.out) : gb142 ≠ gb143)); have n7_ := Aside0.mk ((by rw [hg]; exact Nat.ne_of_gt (blk_lt BK142.out) : gb143 ≠ gb142)); clear HO1_0; clear BK142; clear HB; have HO1_0 := n0_; have BK142 := n1_; have HB := n2_; have BK143 := n3_; have GW143 := n4_; have GE143 := n5_; have NB142_143 := n6_; have NB143_142 := n7_; clear n0_ n1_ n2_ n3_ n4_ n5_ n6_ n7_; clear hb hbox hg) | ((with_reducible refine gate_dst (N := 6) rfl ?_); refine box_event ?hg (N := 6) ?hd (cs := #[.slice none 0 0]) (t := 40) ?hr ?_; (case hd => rfl); (case hg => rfl); (case hr => first | (go_simp; done) | (go_simp; rfl)); intro gb144 hg w9 hbox hb; have n0_ := Aside0.mk (Kd.V_below (Kd.V_elderB (by (with_reducible repeat (first | apply Kd.V_alloc | apply Kd.V_drewN | apply Kd.V_drew)); exact HO1_0.out) gb144 (Nat.le_of_eq hg.symm)) hb); have n1_ := Aside0.mk (blk_below BK142.out hb); have n2_ := Aside0.mk (blk_below BK143.out hb); have n3_ := Aside0.mk (below_step HB.out hb); have n4_ := Aside0.mk (hbox); have n5_ := Aside0.mk ((by rw [hg]; exact (below_size HB.out) : w.heap.size ≤ gb144)); have n6_ := Aside0.mk ((by rw [hg]; exact (below_size HB.out) : w.heap.size ≤ gb144)); have n7_ := Aside0.mk ((by rw [hg]; exact Nat.ne_of_lt (blk_lt BK142.out) : gb142 ≠ gb144)); have n8_ := Aside0.mk ((by rw [hg]; exact Nat.ne_of_gt (blk_lt BK142.out) : gb144 ≠ gb142)); have n9_ := Aside0.mk ((by rw [hg]; exact Nat.ne_of_lt (blk_lt BK143.out) : gb143 ≠ gb144)); have n10_ := Aside0.mk ((by rw [hg]; exact Nat.ne_of_gt (blk_lt BK143.out) : gb144 ≠ gb143)); clear HO1_0; clear BK142; clear BK143; clear HB; have HO1_0 := n0_; have BK142 := n1_; have BK143 := n2_; have HB := n3_; have BK144 := n4_; have GW144 := n5_; have GE144 := n6_; have NB142_144 := n7_; have NB144_142 := n8_; have NB143_144 := n9_; have NB144_143 := n10_; clear n0_ n1_ n2_ n3_ n4_ n5_ n6_ n7_ n8_ n9_ n10_; clear hb hbox hg))
 have n0_ := Aside0.mk (Kd.V_drew HO1_0.out)
 have n1_ := Aside0.mk (blk_drew BK142.out)
 have n2_ := Aside0.mk (blk_drew BK143.out)
 have n3_ := Aside0.mk (blk_drew BK144.out)
 have n4_ := Aside0.mk (below_drew1 HB.out)
 clear HO1_0
 clear BK142
 clear BK143
 clear BK144
 clear HB
 have HO1_0 := n0_
 have BK142 := n1_
 have BK143 := n2_
 have BK144 := n3_
 have HB := n4_
 clear n0_ n1_ n2_ n3_ n4_
 refine start_ (n := 12) (S := fun w' => w'.cell? ⟨gb143, 0, none⟩ = some (.slice A1_0 l1_0.length c1_0) ∧ w'.cell? ⟨gb142, 0, none⟩ = some (.slice A0_0 l0_0.length c0_0)) (ds := []) #[false, false, false, false, false, false, false, false, false, false, false, false] (by kernel_rfl) rfl rfl ⟨(blk_cell BK143.out 0).trans rfl, (blk_cell BK142.out 0).trans rfl⟩ (fun hHeld => ?_); refine with_tabW host_changed.tab1 host_changed.bits1 (fun HT_ HW_ => ?_)
 generalize w9.drew = w10 at HO1_0 BK142 BK143 BK144 HB hHeld ⊢
 refine pu 1 10 (bb 12 2) rfl rfl (any_of HT_.out (by kernel_rfl)) (fun _ _ _ h => h) (by rfl) (fun w' => by go_simp; with_reducible rfl) (by simp only [Act.put, List.setIfInBounds_toArray, List.set_cons_zero, List.set_cons_succ, i64_w, i32_w]; rfl) ?_
 refine pu 3 12 (bb 12 10) rfl rfl (any_of HT_.out (by kernel_rfl)) (fun _ _ _ h => h) (by rfl) (fun w' => by go_simp; with_reducible rfl) (by simp only [Act.put, List.setIfInBounds_toArray, List.set_cons_zero, List.set_cons_succ, i64_w, i32_w]; rfl) ?_
 refine pu 6 15 (bb 12 74) rfl rfl (any_of HT_.out (by kernel_rfl)) (fun _ _ _ h => h) (by rfl) (fun w' => by go_simp; with_reducible rfl) (by simp only [Act.put, List.setIfInBounds_toArray, List.set_cons_zero, List.set_cons_succ, i64_w, i32_w]; rfl) ?_
 refine take_ (i := 0) (N := some 9) (v := ?_) (a' := ?_) (bb 12 75) rfl rfl (take_ofW HT_.out HW_.out (by kernel_rfl)) (fun _ _ _ h => h) (Or.inl ⟨by rfl, ?_⟩) hHeld ?_ ?_
 rotate_left
 · rintro w' ⟨s0, s1⟩
   go_simp
   with_reducible rfl
 rotate_left
 · simp only [Act.put, List.setIfInBounds_toArray, List.set_cons_zero, List.set_cons_succ, i64_w, i32_w]
   rfl
 refine take_ (i := 2) (N := some 11) (v := ?_) (a' := ?_) (bb 12 79) rfl rfl (take_ofW HT_.out HW_.out (by kernel_rfl)) (fun _ _ _ h => h) (Or.inl ⟨by rfl, ?_⟩) hHeld ?_ ?_
 rotate_left
 · rintro w' ⟨s0, s1⟩
   go_simp
   with_reducible rfl
 rotate_left
 · simp only [Act.put, List.setIfInBounds_toArray, List.set_cons_zero, List.set_cons_succ, i64_w, i32_w]
   rfl
 refine take_ (i := 5) (N := some 14) (v := ?_) (a' := ?_) (bb 12 111) rfl rfl (take_ofW HT_.out HW_.out (by kernel_rfl)) (fun _ _ _ h => h) (Or.inl ⟨by rfl, ?_⟩) hHeld ?_ ?_
 rotate_left
 · rintro w' ⟨s0, s1⟩
   go_simp
   with_reducible rfl
 rotate_left
 · simp only [Act.put, List.setIfInBounds_toArray, List.set_cons_zero, List.set_cons_succ, i64_w, i32_w]
   rfl
 refine one_ (i := 4) (N := some 13) (bb 12 127) rfl rfl (one_of HT_.out (by kernel_rfl)) (by decide) (fun K hK => ?_)
 refine goes_ Try.func18 (by kernel_rfl) rfl #[.agg #[.slice A0_0 l0_0.length c0_0], .int .u32 a2] (by rfl) rfl rfl (by (try simp only [List.map_toArray, List.map_cons, List.map_nil]); first | done | rfl | (simp only [List.length_drop, List.length_take]; rfl)) ?_
 with_reducible refine (host_Wants.calls k (fun k_ => k_ < w.heap.size) _ _ l0_0 a2 t145 t146 _ ?side1 A4.out).mono ?_
 (case side1 => exact Kd.V_mk HC0_0.out (Kd.F_below (Kd.C_F k42_heap HR0_0.out) HB.out))
 rintro e w11 ⟨v147, rfl, ho0, hb⟩
 refine ⟨_, rfl, ?_⟩
 have n0_ := Aside0.mk (Kd.V_elder' (by (with_reducible repeat (first | apply Kd.V_alloc | apply Kd.V_drewN | apply Kd.V_drew)); exact HO1_0.out) (Kd.R_base ho0) hb)
 have n1_ := Aside0.mk (Kd.R_lower (Kd.R_newM (M := fun k_ => (w.heap.size ≤ k_)) (Kd.R_mono (ok' := fun k_ => True) ho0 (fun _ hk_ => trivial)) (below_size HB.out) (fun k_ h_ => h_)) (below_size HB.out))
 have n2_ := Aside0.mk (blk_below BK142.out hb)
 have n3_ := Aside0.mk (blk_below BK143.out hb)
 have n4_ := Aside0.mk (blk_below BK144.out hb)
 have n5_ := Aside0.mk (below_step HB.out hb)
 clear HO1_0
 clear BK142
 clear BK143
 clear BK144
 clear HB
 have HO1_0 := n0_
 have HO148 := n1_
 have BK142 := n2_
 have BK143 := n3_
 have BK144 := n4_
 have HB := n5_
 clear n0_ n1_ n2_ n3_ n4_ n5_
 (try clear hb)
 (try clear hb2)
 (try clear hk)
 (try clear hi)
 (try clear ho0)
 refine hK.out _ _ ⟨(blk_cell BK143.out 0).trans rfl, (blk_cell BK142.out 0).trans rfl⟩ (fun hHeld => ?_)
 clear hK K
 refine norm_ (a' := ?_) ?_ ?_
 rotate_left
 · show Act.put _ (some 13) _ = _
   simp only [Act.put, List.setIfInBounds_toArray, List.set_cons_zero, List.set_cons_succ, i64_w, i32_w]
   rfl
 refine one_ (i := 7) (N := some 16) (bb 12 255) rfl rfl (one_of HT_.out (by kernel_rfl)) (by decide) (fun K hK => ?_)
 refine goes_ Try.func18 (by kernel_rfl) rfl #[.agg #[.slice A1_0 l1_0.length c1_0], .int .u32 a2] (by rfl) rfl rfl (by (try simp only [List.map_toArray, List.map_cons, List.map_nil]); first | done | rfl | (simp only [List.length_drop, List.length_take]; rfl)) ?_
 with_reducible refine (host_Wants.calls k (fun k_ => (((((P1_0_ k_ ∨ w.heap.size ≤ k_) ∧ k_ ≠ gb142) ∧ k_ ≠ gb143) ∧ k_ ≠ gb144) ∧ some k_ ≠ (v147 : Value).ownBlock)) _ _ l1_0 a2 t149 t150 _ ?side1 A5.out).mono ?_
 (case side1 => exact HO1_0.out)
 rintro e w12 ⟨v151, rfl, ho0, hb⟩
 refine ⟨_, rfl, ?_⟩
 have n0_ := Aside0.mk (Kd.V_elder' (by (with_reducible repeat (first | apply Kd.V_alloc | apply Kd.V_drewN | apply Kd.V_drew)); exact HO1_0.out) (Kd.R_base ho0) hb)
 have n1_ := Aside0.mk (Kd.R_elder' (by (with_reducible repeat (first | apply Kd.R_alloc | apply Kd.R_drewN | apply Kd.R_drew)); exact HO148.out) (Kd.R_base ho0) hb)
 have n2_ := Aside0.mk (Kd.R_lower (Kd.R_new' (Kd.R_newM (M := fun k_ => (w.heap.size ≤ k_)) (Kd.R_mono (ok' := fun k_ => True) ho0 (fun _ hk_ => trivial)) (below_size HB.out) (fun k_ h_ => h_)) (Kd.R_lt (by (with_reducible repeat (first | apply Kd.R_alloc | apply Kd.R_drewN | apply Kd.R_drew)); exact HO148.out))) (below_size HB.out))
 have n3_ := Aside0.mk (blk_below BK142.out hb)
 have n4_ := Aside0.mk (blk_below BK143.out hb)
 have n5_ := Aside0.mk (blk_below BK144.out hb)
 have n6_ := Aside0.mk (below_step HB.out hb)
 clear HO1_0
 clear HO148
 clear BK142
 clear BK143
 clear BK144
 clear HB
 have HO1_0 := n0_
 have HO148 := n1_
 have HO152 := n2_
 have BK142 := n3_
 have BK143 := n4_
 have BK144 := n5_
 have HB := n6_
 clear n0_ n1_ n2_ n3_ n4_ n5_ n6_
 (try clear hb)
 (try clear hb2)
 (try clear hk)
 (try clear hi)
 (try clear ho0)
 obtain ⟨Ao13, co13, eo13⟩ := Kd.R_slice HO148.out
 (first | subst eo13 | (injection eo13 with f1_ f2_ f3_; have f4_ := f1_.symm; have f5_ := f3_.symm; clear f1_ f2_ f3_; subst f4_; subst f5_))
 obtain ⟨Ao14, co14, eo14⟩ := Kd.R_slice HO152.out
 (first | subst eo14 | (injection eo14 with f1_ f2_ f3_; have f4_ := f1_.symm; have f5_ := f3_.symm; clear f1_ f2_ f3_; subst f4_; subst f5_))
 refine hK.out _ _ ⟨(blk_cell BK143.out 0).trans rfl, (blk_cell BK142.out 0).trans rfl⟩ (fun hHeld => ?_)
 clear hK K
 refine norm_ (a' := ?_) ?_ ?_
 rotate_left
 · show Act.put _ (some 16) _ = _
   simp only [Act.put, List.setIfInBounds_toArray, List.set_cons_zero, List.set_cons_succ, i64_w, i32_w]
   rfl
 refine one_ (i := 8) (N := some 17) (bb 12 511) rfl rfl (one_of HT_.out (by kernel_rfl)) (by decide) (fun K hK => ?_)
 refine goes_ Try.func10 (by kernel_rfl) rfl #[.int .u32 a2, .agg #[.bool t145, .slice Ao13 t146.length co13], .agg #[.bool t149, .slice Ao14 t150.length co14]] (by rfl) rfl rfl (by (try simp only [List.map_toArray, List.map_cons, List.map_nil]); first | done | rfl | (simp only [List.length_drop, List.length_take]; rfl)) ?_
 with_reducible refine (host_Change.calls a2 t145 _ _ t146 t149 (fun k_ => some k_ = (.slice Ao14 t150.length co14 : Value).ownBlock) _ _ t150 t153 _ ?side1 ?side2 ?side3 A6.out).mono ?_
 (case side1 => repeat (first | exact (Kd.R_reads' HO148.out).2.2 | (with_reducible refine Kd.C_alloc ?_ _) | (with_reducible refine Kd.C_drewN ?_ _) | (with_reducible refine Kd.C_drew ?_)))
 (case side2 => exact (Kd.R_reads' HO148.out).2.1)
 (case side3 => exact Kd.R_V (Kd.R_tight rfl (Kd.R_types (Kd.R_types (Kd.R_types (HO152.out) BK142.out (by decide)) BK143.out (by decide)) BK144.out (by decide))))
 rintro e w15 ⟨v154, rfl, ho0, hb⟩
 refine ⟨_, rfl, ?_⟩
 have n0_ := Aside0.mk (Kd.V_below (by (with_reducible repeat (first | apply Kd.V_alloc | apply Kd.V_drewN | apply Kd.V_drew)); exact HO1_0.out) hb)
 have n1_ := Aside0.mk (Kd.R_below (by (with_reducible repeat (first | apply Kd.R_alloc | apply Kd.R_drewN | apply Kd.R_drew)); exact HO148.out) hb)
 have n2_ := Aside0.mk (Kd.R_below (by (with_reducible repeat (first | apply Kd.R_alloc | apply Kd.R_drewN | apply Kd.R_drew)); exact HO152.out) hb)
 have n3_ := Aside0.mk (Kd.V_lower (Kd.V_mono (ok' := fun k_ => (P1_0_ k_ ∨ w.heap.size ≤ k_) ∧ some k_ ≠ (.slice Ao13 t146.length co13 : Value).ownBlock ∧ k_ ≠ gb142 ∧ k_ ≠ gb143 ∧ k_ ≠ gb144) ho0 (fun k_ hk_ => ⟨Or.elim hk_ (fun hs_ => (.inr (((Kd.R_types (Kd.R_types (Kd.R_types (HO152.out) BK142.out (by decide)) BK143.out (by decide)) BK144.out (by decide)).1 k_ hs_.symm).1.1.1.1.1))) (fun hn_ => (.inr (Nat.le_trans (below_size HB.out) hn_))), Or.elim hk_ (fun hs_ => ((Kd.R_types (Kd.R_types (Kd.R_types (HO152.out) BK142.out (by decide)) BK143.out (by decide)) BK144.out (by decide)).1 k_ hs_.symm).1.1.1.2) (fun hn_ => (Kd.fresh' (Kd.R_lt (by (with_reducible repeat (first | apply Kd.R_alloc | apply Kd.R_drewN | apply Kd.R_drew)); exact HO148.out)) k_ hn_)), Or.elim hk_ (fun hs_ => ((Kd.R_types (Kd.R_types (Kd.R_types (HO152.out) BK142.out (by decide)) BK143.out (by decide)) BK144.out (by decide)).1 k_ hs_.symm).1.1.2) (fun hn_ => (Kd.freshB (g := gb142) (o := .cells #[.slice A0_0 l0_0.length c0_0] 40 (0, 0)) BK142.out k_ hn_)), Or.elim hk_ (fun hs_ => ((Kd.R_types (Kd.R_types (Kd.R_types (HO152.out) BK142.out (by decide)) BK143.out (by decide)) BK144.out (by decide)).1 k_ hs_.symm).1.2) (fun hn_ => (Kd.freshB (g := gb143) (o := .cells #[.slice A1_0 l1_0.length c1_0] 40 (0, 0)) BK143.out k_ hn_)), Or.elim hk_ (fun hs_ => ((Kd.R_types (Kd.R_types (Kd.R_types (HO152.out) BK142.out (by decide)) BK143.out (by decide)) BK144.out (by decide)).1 k_ hs_.symm).2) (fun hn_ => (Kd.freshB (g := gb144) (o := .cells #[.slice none 0 0] 40 (0, 0)) BK144.out k_ hn_))⟩)) (below_size HB.out))
 have n4_ := Aside0.mk (blk_below BK142.out hb)
 have n5_ := Aside0.mk (blk_below BK143.out hb)
 have n6_ := Aside0.mk (blk_below BK144.out hb)
 have n7_ := Aside0.mk (below_step HB.out hb)
 clear HO1_0
 clear HO148
 clear HO152
 clear BK142
 clear BK143
 clear BK144
 clear HB
 have HO1_0 := n0_
 have HO148 := n1_
 have HO152 := n2_
 have HO155 := n3_
 have BK142 := n4_
 have BK143 := n5_
 have BK144 := n6_
 have HB := n7_
 clear n0_ n1_ n2_ n3_ n4_ n5_ n6_ n7_
 (try clear hb)
 (try clear hb2)
 (try clear hk)
 (try clear hi)
 (try clear ho0)
 refine hK.out _ _ ⟨(blk_cell BK143.out 0).trans rfl, (blk_cell BK142.out 0).trans rfl⟩ (fun hHeld => ?_)
 clear hK K
 refine norm_ (a' := ?_) ?_ ?_
 rotate_left
 · show Act.put _ (some 17) _ = _
   simp only [Act.put, List.setIfInBounds_toArray, List.set_cons_zero, List.set_cons_succ, i64_w, i32_w]
   rfl
 refine one_ (i := 9) (N := none) (bb 12 1023) rfl rfl (one_of HT_.out (by kernel_rfl)) (by decide) (fun K hK => ?_)
 have hs16 : w15.cell? ⟨gb144, 0, none⟩ = some (.slice none 0 0) := (blk_cell BK144.out 0).trans rfl
 have hfs16 := blk_frozen BK144.out 0
 have hns16_0 := NB142_144.out
 have hns16_1 := NB143_144.out
 have hms16_0 := NB144_142.out
 have hms16_1 := NB144_143.out
 refine skip_ (w1 := ?_) (by rfl) rfl ?_ ?_
 rotate_left
 · go_simp
   rfl
 refine hK.out _ _ ⟨((cell_far (p := ⟨gb144, _, none⟩) NB143_144.out _).trans (hHeld.1)), ((cell_far (p := ⟨gb144, _, none⟩) NB142_144.out _).trans (hHeld.2))⟩ (fun hHeld => ?_)
 clear hK K
 refine pu 10 7 (bb 12 2047) rfl rfl (any_of HT_.out (by kernel_rfl)) (fun _ _ _ h => h) (by rfl) (fun w' => by go_simp; with_reducible rfl) (by simp only [Act.put, List.setIfInBounds_toArray, List.set_cons_zero, List.set_cons_succ, i64_w, i32_w]; rfl) ?_
 refine pu 11 8 (bb 12 4095) rfl rfl (any_of HT_.out (by kernel_rfl)) (fun _ _ _ h => h) (by rfl) (fun w' => by go_simp; with_reducible rfl) (by simp only [Act.put, List.setIfInBounds_toArray, List.set_cons_zero, List.set_cons_succ, i64_w, i32_w]; rfl) ?_
 refine done_ (done_of HT_.out (by kernel_rfl)) ?_
 try go_wp2
 refine bodyPost_ret (results_ctt rfl _ _ gb144 40 #[.slice A1_0 l1_0.length c1_0] (0, 0) _ rfl (by (with_reducible repeat (first | refine blk_drewN ?_ _ | refine blk_drew ?_ | refine blk_alloc ?_ _)); refine blk_put (cs := #[.slice none 0 0]) ?_ 0 _ rfl; (with_reducible repeat (first | refine blk_drewN ?_ _ | refine blk_drew ?_ | refine blk_alloc ?_ _)); exact BK144.out) Try.underlying40 rfl (by kernel_rfl)) rfl ?_
 exact ⟨_, _, by first | rfl | (simp [errW_none, errW_some] <;> rfl) | (simp [*, errW_none, errW_some] <;> rfl), by (with_reducible repeat (first | apply Kd.V_alloc | apply Kd.V_drewN | apply Kd.V_drew)); exact Kd.V_mono (Kd.V_far (p := ⟨gb144, 0, none⟩) (Kd.V_mono HO1_0.out (fun k_ hk => (⟨hk, hk.1.1.2⟩ : _ ∧ k_ ≠ gb144))) (fun _ hk => hk.2) (.slice A1_0 l1_0.length c1_0)) (fun _ hk => hk.1.1.1.1.1.1), by (with_reducible repeat (first | apply Kd.V_alloc | apply Kd.V_drewN | apply Kd.V_drew)); exact Kd.V_mono (Kd.V_far (p := ⟨gb144, 0, none⟩) (Kd.V_mono HO155.out (fun k_ hk => (⟨hk, hk.2.2.2.2⟩ : _ ∧ k_ ≠ gb144))) (fun _ hk => hk.2) (.slice A1_0 l1_0.length c1_0)) (fun _ hk => hk.1.1), by repeat (first | (with_reducible first | exact HB.out | apply below_alloc | apply pw_below_drewN | apply below_drew1 | refine below_set ?_ GE142.out | refine below_set ?_ GE143.out | refine below_set ?_ GE144.out) | exact HB.out)⟩

-- BY HAND: function 15 (host_Put)

/-! ### host_some: function 41 -/
def host_some.f (a0_0 : Bool) (l0_1 : List Int) : Option (Bool) := if a0_0 = true then (some true) else (some (decide ((l0_1.length : Int) > 0)))
set_option maxHeartbeats 8000000 in
set_option maxRecDepth 100000 in
theorem host_some.calls (a0_0 : Bool) (A0_1 : Option Addr) (c0_1 : Nat) (l0_1 : List Int) (r : Bool) (w : World) (hr0_1 : Kd.C (Kd.int .u32) w A0_1 l0_1.length l0_1) (hc0_1 : l0_1.length ≤ c0_1) (h : host_some.f a0_0 l0_1 = some r) :
 Calls Try.prog 41 #[.agg #[.bool a0_0, .slice A0_1 l0_1.length c0_1]] w fun e w' => e = .returned (.bool r) ∧ Below w.heap.size w w' := by
 have hu26 := Try.underlying26
 have HR0_1 := Aside0.mk hr0_1
 have HC0_1 := Aside0.mk hc0_1
 clear hr0_1 hc0_1
 have HB := Aside0.mk (Below.refl w.heap.size w)
 have H : (if a0_0 = true then (some true) else (some (decide ((l0_1.length : Int) > 0)))) = some r := h
 clear h
 by_cases c2 : a0_0 = true
 · subst c2
   have H1 : (some true) = some r := by rw [if_pos rfl] at H; exact H
   clear H
   have H := H1
   clear H1
   obtain rfl := Option.some.inj H
   go_enter Try.func41, Try.ntmps41
   go_wp2_with (first | ((with_reducible refine gate_dst (N := 1) rfl ?_); (try (refine gate_guard (by rfl) ?_; dsimp only)); refine box_event ?hg (N := 1) ?hd (cs := #[.bool true, .slice A0_1 l0_1.length c0_1]) (t := 26) ?hr ?_; (case hd => rfl); (case hg => rfl); (case hr => first | (go_simp; done) | (go_simp; rfl)); intro gb156 hg w3 hbox hb; have n0_ := Aside0.mk (below_step HB.out hb); have n1_ := Aside0.mk (hbox); have n2_ := Aside0.mk ((by rw [hg]; exact (below_size HB.out) : w.heap.size ≤ gb156)); have n3_ := Aside0.mk ((by rw [hg]; exact (below_size HB.out) : w.heap.size ≤ gb156)); clear HB; have HB := n0_; have BK156 := n1_; have GW156 := n2_; have GE156 := n3_; clear n0_ n1_ n2_ n3_; clear hb hbox hg; obtain ⟨hcz4_0, hcz4_1, hfz4_0, hfz4_1⟩ := cf2 BK156.out))
   go_ret
   exact ⟨by first | rfl | (simp [errW_none, errW_some] <;> rfl) | (simp [*, errW_none, errW_some] <;> rfl), by repeat (first | (with_reducible first | exact HB.out | apply below_alloc | apply pw_below_drewN | apply below_drew1 | refine below_set ?_ GE156.out) | exact HB.out)⟩
 · replace c2 := Bool.eq_false_iff.mpr c2
   subst c2
   have H1 : (some (decide ((l0_1.length : Int) > 0))) = some r := by rw [if_neg (show ¬ (false = true) by decide)] at H; exact H
   clear H
   have H := H1
   clear H1
   obtain rfl := Option.some.inj H
   go_enter Try.func41, Try.ntmps41
   go_wp2_with (first | ((with_reducible refine gate_dst (N := 1) rfl ?_); (try (refine gate_guard (by rfl) ?_; dsimp only)); refine box_event ?hg (N := 1) ?hd (cs := #[.bool false, .slice A0_1 l0_1.length c0_1]) (t := 26) ?hr ?_; (case hd => rfl); (case hg => rfl); (case hr => first | (go_simp; done) | (go_simp; rfl)); intro gb156 hg w5 hbox hb; have n0_ := Aside0.mk (below_step HB.out hb); have n1_ := Aside0.mk (hbox); have n2_ := Aside0.mk ((by rw [hg]; exact (below_size HB.out) : w.heap.size ≤ gb156)); have n3_ := Aside0.mk ((by rw [hg]; exact (below_size HB.out) : w.heap.size ≤ gb156)); clear HB; have HB := n0_; have BK156 := n1_; have GW156 := n2_; have GE156 := n3_; clear n0_ n1_ n2_ n3_; clear hb hbox hg; obtain ⟨hcz6_0, hcz6_1, hfz6_0, hfz6_1⟩ := cf2 BK156.out))
   go_ret
   exact ⟨by first | rfl | (simp [errW_none, errW_some] <;> rfl) | (simp [*, errW_none, errW_some] <;> rfl), by repeat (first | (with_reducible first | exact HB.out | apply below_alloc | apply pw_below_drewN | apply below_drew1 | refine below_set ?_ GE156.out) | exact HB.out)⟩

-- NOT PRINTED: function 60 (api_Addr_60)

-- NOT PRINTED: function 81 (api_Addr_81)

-- NOT PRINTED: function 74 (api_Addr_74)

end Go.Proofs.Ytjncmiclpaodhaa.PHo
-- written by a program of this session (hprint.py), over the kit's printer
namespace Go.Proofs.Ytjncmiclpaodhaa.PHo
open Go.RowKit Go.Proofs.YtjncmiclpaodhaaW.PrintWords Go.Proofs.YtjncmiclpaodhaaW.PrintLast Go.Proofs.YtjncmiclpaodhaaW.PrintMore
attribute [local go_sem] max2_int min2_int max_two min_two max_three min_three max_four min_four   -- for this text's walks alone
set_option linter.unusedVariables false
set_option linter.unusedSimpArgs false

-- NOT PRINTED: function 82 (api_Addr_82)

-- NOT PRINTED: function 75 (api_Addr_75)

-- NOT PRINTED: function 61 (api_Addr_61)

-- NOT PRINTED: function 62 (api_Addr_62)

-- BY HAND: function 42 (set_Make)

/-! ### host_Groups: function 24 -/
def host_Groups.l0 : Nat → List Int → List (S42) → Int → Int → List (S42) → Option (List Int)
 | 0, _, _, _, _, _ => none
 | k + 1, x3, x7, x8, x9, x292000 => if x9 < x8 then (if 0 ≤ x9 then (if x9 < (x7.length : Int) then ((host_Wants.f k x292000 ((rd_T42 x7 x9).f1)).bind fun bt297 => ((host_some.f bt297.1 bt297.2).bind fun t301 => (if t301 = true then (if x3.length < 35184372088832 then (host_Groups.l0 k (x3 ++ [(rd_T42 x7 x9).f1]) x7 x8 (wrap64 (x9 + 1)) x292000) else (none)) else (host_Groups.l0 k x3 x7 x8 (wrap64 (x9 + 1)) x292000)))) else (none)) else (none)) else ((set_Make.f x3).bind fun t292 => (some t292))
def host_Groups.f (k : Nat) (l0_0 : List (S42)) : Option (List Int) := host_Groups.l0 k ([] : List Int) l0_0 (l0_0.length : Int) 0 l0_0
theorem host_Groups.mono_l : ∀ k, (∀ y0 y1 y2 y3 y4, LeO (host_Groups.l0 k y0 y1 y2 y3 y4) (host_Groups.l0 (k + 1) y0 y1 y2 y3 y4))
 | 0 => fun _ _ _ _ _ r h => by simp [host_Groups.l0] at h
 | k + 1 => by
  have ih0 := host_Groups.mono_l k
  · intro y0 y1 y2 y3 y4
    unfold host_Groups.l0
    repeat' first
    | (with_reducible exact ih0 _ _ _ _ _)
    | (with_reducible exact host_Wants.mono _ _ _)
    | (with_reducible exact LeO.refl _)
    | (with_reducible exact LeO.none _)
    | (with_reducible refine LeO.ite ?_ ?_)
    | (with_reducible refine LeO.bind ?_ (fun _ => ?_))
    | exact ih0 _ _ _ _ _
    | exact host_Wants.mono _ _ _
    | exact LeO.none _
    | refine LeO.ite ?_ ?_
    | refine LeO.bind ?_ (fun _ => ?_)
theorem host_Groups.mono : ∀ a0 k, LeO (host_Groups.f k a0) (host_Groups.f (k + 1) a0) := by
 intro a0 k
 have ih0 := host_Groups.mono_l k
 unfold host_Groups.f
 repeat' first
  | (with_reducible exact ih0 _ _ _ _ _)
  | (with_reducible exact host_Wants.mono _ _ _)
  | (with_reducible exact LeO.refl _)
  | (with_reducible exact LeO.none _)
  | (with_reducible refine LeO.ite ?_ ?_)
  | (with_reducible refine LeO.bind ?_ (fun _ => ?_))
  | exact ih0 _ _ _ _ _
  | exact host_Wants.mono _ _ _
  | exact LeO.none _
  | refine LeO.ite ?_ ?_
  | refine LeO.bind ?_ (fun _ => ?_)
set_option maxHeartbeats 8000000 in
set_option maxRecDepth 100000 in
theorem host_Groups.calls (k : Nat) (A0_0 : Option Addr) (c0_0 : Nat) (l0_0 : List (S42)) (r : List Int) (w : World) (hr0_0 : Kd.C k42 w A0_0 l0_0.length l0_0) (hc0_0 : l0_0.length ≤ c0_0) (h : host_Groups.f k l0_0 = some r) :
 Calls Try.prog 24 #[.agg #[.slice A0_0 l0_0.length c0_0]] w fun e w' => ∃ v0_ : Value, e = .returned (v0_) ∧ Kd.R (Kd.int .u32) 23 w' w.heap.size (fun _ => True) v0_ r ∧ Below w.heap.size w w' := by
 have hu40 := Try.underlying40
 have hu42 := Try.underlying42
 have HR0_0 := Aside0.mk hr0_0
 have HC0_0 := Aside0.mk hc0_0
 clear hr0_0 hc0_0
 have HB := Aside0.mk (Below.refl w.heap.size w)
 have H : (host_Groups.l0 k ([] : List Int) l0_0 (l0_0.length : Int) 0 l0_0) = some r := h
 clear h
 have H' := Aside0.mk H
 clear H
 go_enter Try.func24, Try.ntmps24
 go_wp2_with (first | ((with_reducible refine gate_dst (N := 1) rfl ?_); refine box_event ?hg (N := 1) ?hd (cs := #[.slice A0_0 l0_0.length c0_0]) (t := 40) ?hr ?_; (case hd => rfl); (case hg => rfl); (case hr => first | (go_simp; done) | (go_simp; rfl)); intro gb291 hg w2 hbox hb; have n0_ := Aside0.mk (below_step HB.out hb); have n1_ := Aside0.mk (hbox); have n2_ := Aside0.mk ((by rw [hg]; exact (below_size HB.out) : w.heap.size ≤ gb291)); have n3_ := Aside0.mk ((by rw [hg]; exact (below_size HB.out) : w.heap.size ≤ gb291)); clear HB; have HB := n0_; have BK291 := n1_; have GW291 := n2_; have GE291 := n3_; clear n0_ n1_ n2_ n3_; clear hb hbox hg; have hcz3_0 : w2.cell? ⟨gb291, 0, none⟩ = some (.slice A0_0 l0_0.length c0_0) := (blk_cell BK291.out 0).trans rfl; have hfz3_0 := blk_frozen BK291.out 0))
 go_loopg [3, 9] k (fun kq v3 v9 w' => ∃ (x3_1 : List Int) (x9_1 : Int), v9 = .int .i64 x9_1 ∧ Aside0 (host_Groups.l0 kq x3_1 l0_0 (l0_0.length : Int) x9_1 l0_0 = some r) ∧ Aside0 (kq ≤ k) ∧ Aside0 (Kd.R (Kd.int .u32) 23 w' w.heap.size (fun _ => True) v3 x3_1) ∧ Aside0 (w'.heap[gb291]? = some (.cells #[(.slice A0_0 l0_0.length c0_0)] 40 (0, 0))) ∧ Aside0 (Below w.heap.size w w'))
 case atStart => exact ⟨(([] : List Int)), (0), (by first | rfl | (simp; done) | (simp [*]; done)), H', ⟨Nat.le_refl _⟩, ⟨by first | exact Kd.R_nil _ _ _ _ _ | exact Kd.N_nil _ _ _ _ _ | exact Kd.V_nil _ _ _ _ _ | exact Kd.Q_nil _ _ _ _ _ | exact Kd.S_nil _ _ _ _ _⟩, ⟨BK291.out⟩, ⟨HB.out⟩⟩
 case round =>
  clear H'
  try clear c2
  try clear p2
  try clear hcz3_0
  try clear hfz3_0
  obtain ⟨x3_1, x9_1, rfl, HA, HK1, HO_3, BK291, HB⟩ := hrel
  cases gk with
  | zero => exact absurd HA.out (by simp [host_Groups.l0])
  | succ k1 =>
   have H := HA.out
   clear HA
   simp only [host_Groups.l0] at H
   by_cases c4 : x9_1 < (l0_0.length : Int)
   · rw [if_pos c4] at H
     have c4b0 : decide (x9_1 < (l0_0.length : Int)) = true := decide_eq_true c4
     clear c4
     by_cases c5 : 0 ≤ x9_1
     case neg => rw [if_neg c5] at H; exact absurd H (by simp)
     rw [if_pos c5] at H
     have c5b0 : decide (0 ≤ x9_1) = true := decide_eq_true c5
     clear c5
     by_cases c6 : x9_1 < (l0_0.length : Int)
     case neg => rw [if_neg c6] at H; exact absurd H (by simp)
     rw [if_pos c6] at H
     have c6b0 : decide (x9_1 < (l0_0.length : Int)) = true := decide_eq_true c6
     clear c6
     replace H := Option.bind_eq_some_iff.mp H
     obtain ⟨⟨t297, t298⟩, A70, H⟩ := H
     replace H : ((host_some.f t297 t298).bind fun t301 => (if t301 = true then (if x3_1.length < 35184372088832 then (host_Groups.l0 k1 (x3_1 ++ [(rd_T42 l0_0 x9_1).f1]) l0_0 (l0_0.length : Int) (wrap64 (x9_1 + 1)) l0_0) else (none)) else (host_Groups.l0 k1 x3_1 l0_0 (l0_0.length : Int) (wrap64 (x9_1 + 1)) l0_0))) = some r := H
     have A7 := Aside0.mk A70
     clear A70
     replace H := Option.bind_eq_some_iff.mp H
     obtain ⟨t301, A80, H⟩ := H
     replace H : (if t301 = true then (if x3_1.length < 35184372088832 then (host_Groups.l0 k1 (x3_1 ++ [(rd_T42 l0_0 x9_1).f1]) l0_0 (l0_0.length : Int) (wrap64 (x9_1 + 1)) l0_0) else (none)) else (host_Groups.l0 k1 x3_1 l0_0 (l0_0.length : Int) (wrap64 (x9_1 + 1)) l0_0)) = some r := H
     have A8 := Aside0.mk A80
     clear A80
     by_cases c9 : t301 = true
     · subst c9
       have H1 : (if x3_1.length < 35184372088832 then (host_Groups.l0 k1 (x3_1 ++ [(rd_T42 l0_0 x9_1).f1]) l0_0 (l0_0.length : Int) (wrap64 (x9_1 + 1)) l0_0) else (none)) = some r := by rw [if_pos rfl] at H; exact H
       clear H
       have H := H1
       clear H1
       by_cases c10 : x3_1.length < 35184372088832
       case neg => rw [if_neg c10] at H; exact absurd H (by simp)
       rw [if_pos c10] at H
       have LMc10 := Aside0.mk c10
       clear c10
       obtain ⟨y302, hy302⟩ : ∃ y_ : List Int, y_ = (x3_1 ++ [(rd_T42 l0_0 x9_1).f1]) := ⟨_, rfl⟩
       replace H : (host_Groups.l0 k1 y302 l0_0 (l0_0.length : Int) (wrap64 (x9_1 + 1)) l0_0) = some r := by first | (rw [hy302]; with_reducible exact H) | (have H2_ := (Option.bind_some _ _).symm.trans H; rw [hy302]; with_reducible exact H2_) | (have H2_ := (Option.bind_some _ _).symm.trans H; with_reducible exact H2_) | with_reducible exact H | (rw [hy302]; exact H) | exact H
       have Ny302 := Aside0.mk hy302
       clear hy302
       have H' := Aside0.mk H
       clear H
       have p295 : 0 ≤ (x9_1 : Int) := of_decide_eq_true (by first | (with_reducible assumption) | assumption)
       have q295 : x9_1 < (l0_0.length : Int) := of_decide_eq_true (by first | (with_reducible assumption) | assumption)
       obtain ⟨ad295, A295_3, c295_3, e295, hx295_0, hx295_1, hx295_2, hx295_3, hl295_3, hi295_3⟩ := at_T42 HR0_0.out x9_1 p295 q295
       cases e295
       replace hx295_0 := (HB.out.cell (World.block_lt_of_cell? w _ hx295_0)).trans hx295_0
       replace hx295_1 := (HB.out.cell (World.block_lt_of_cell? w _ hx295_1)).trans hx295_1
       replace hx295_2 := (HB.out.cell (World.block_lt_of_cell? w _ hx295_2)).trans hx295_2
       replace hx295_3 := (HB.out.cell (World.block_lt_of_cell? w _ hx295_3)).trans hx295_3
       have HR295_3 := Aside0.mk hi295_3
       have HC295_3 := Aside0.mk hl295_3
       clear hi295_3 hl295_3
       replace p295 := eq_true p295
       replace q295 := eq_true q295
       go_wp2_with (first | ((with_reducible refine gate_dst (N := 5) rfl ?_); refine box_event ?hg (N := 5) ?hd (cs := #[.int .i64 0, .int .u32 0, .bool false, .slice none 0 0]) (t := 42) ?hr ?_; (case hd => rfl); (case hg => rfl); (case hr => first | (go_simp; done) | (go_simp; rfl)); intro gb296 hg w11 hbox hb; have n0_ := Aside0.mk (Kd.R_below (by (with_reducible repeat (first | apply Kd.R_alloc | apply Kd.R_drewN | apply Kd.R_drew)); exact HO_3.out) hb); have n1_ := Aside0.mk (blk_below (g := gb291) (o := .cells #[.slice (some ad295) l0_0.length c0_0] 40 (0, 0)) (by (with_reducible repeat (first | refine blk_drewN ?_ _ | refine blk_drew ?_ | refine blk_alloc ?_ _)); exact BK291.out) hb); have n2_ := Aside0.mk (below_step (by repeat (first | (with_reducible first | exact HB.out | apply below_alloc | apply pw_below_drewN | apply below_drew1 | refine below_set ?_ GE291.out) | exact HB.out)) hb); have n3_ := Aside0.mk (hbox); have n4_ := Aside0.mk ((by rw [hg]; exact (below_size (by repeat (first | (with_reducible first | exact HB.out | apply below_alloc | apply pw_below_drewN | apply below_drew1 | refine below_set ?_ GE291.out) | exact HB.out))) : w.heap.size ≤ gb296)); have n5_ := Aside0.mk ((by rw [hg]; exact (below_size (by repeat (first | (with_reducible first | exact HB.out | apply below_alloc | apply pw_below_drewN | apply below_drew1 | refine below_set ?_ GE291.out) | exact HB.out))) : w.heap.size ≤ gb296)); have n6_ := Aside0.mk ((by rw [hg]; exact Nat.ne_of_lt (blk_lt (g := gb291) (o := .cells #[.slice (some ad295) l0_0.length c0_0] 40 (0, 0)) (by (with_reducible repeat (first | refine blk_drewN ?_ _ | refine blk_drew ?_ | refine blk_alloc ?_ _)); exact BK291.out)) : gb291 ≠ gb296)); have n7_ := Aside0.mk ((by rw [hg]; exact Nat.ne_of_gt (blk_lt (g := gb291) (o := .cells #[.slice (some ad295) l0_0.length c0_0] 40 (0, 0)) (by (with_reducible repeat (first | refine blk_drewN ?_ _ | refine blk_drew ?_ | refine blk_alloc ?_ _)); exact BK291.out)) : gb296 ≠ gb291)); clear HO_3; clear BK291; clear HB; have HO_3 := n0_; have BK291 := n1_; have HB := n2_; have BK296 := n3_; have GW296 := n4_; have GE296 := n5_; have NB291_296 := n6_; have NB296_291 := n7_; clear n0_ n1_ n2_ n3_ n4_ n5_ n6_ n7_; clear hb hbox hg; have hnb12 := NB296_291.out; have hnc12 := NB291_296.out; obtain ⟨hcz13_0, hcz13_1, hcz13_2, hcz13_3, hfz13_0, hfz13_1, hfz13_2, hfz13_3⟩ := cf4 BK296.out) | ((with_reducible refine gate_store (t := 42) (p := 5) rfl ?_); refine store_event (t := 42) (p := 5) (v := ?vo_w14) (w1 := ((((w11.setCell ⟨gb296, 0, none⟩ (.int .i64 ((rd_T42 l0_0 x9_1).f0))).setCell ⟨gb296, 1, none⟩ (.int .u32 ((rd_T42 l0_0 x9_1).f1))).setCell ⟨gb296, 2, none⟩ (.bool ((rd_T42 l0_0 x9_1).f2.f0))).setCell ⟨gb296, 3, none⟩ (.slice A295_3 ((rd_T42 l0_0 x9_1).f2.f1).length c295_3))) ?hg ?ho ?hn ?hr ?_; (case ho => rfl); (case hg => rfl); (case hn => rfl); (case hr => first | (go_simp; done) | (go_simp; rfl)); intro w14 hw; have n0_ : Aside0 (Kd.R (Kd.int .u32) 23 w14 w.heap.size (fun _ => True) u3 x3_1) := ⟨(by rw [hw]; exact (by (with_reducible repeat (first | apply Kd.R_alloc | apply Kd.R_drewN | apply Kd.R_drew)); exact Kd.R_mono (Kd.R_far (p := ⟨gb296, 3, none⟩) (Kd.R_far (p := ⟨gb296, 2, none⟩) (Kd.R_far (p := ⟨gb296, 1, none⟩) (Kd.R_far (p := ⟨gb296, 0, none⟩) (Kd.R_types HO_3.out BK296.out (by decide)) (fun _ hk => hk.2) (.int .i64 ((rd_T42 l0_0 x9_1).f0))) (fun _ hk => hk.2) (.int .u32 ((rd_T42 l0_0 x9_1).f1))) (fun _ hk => hk.2) (.bool ((rd_T42 l0_0 x9_1).f2.f0))) (fun _ hk => hk.2) (.slice A295_3 ((rd_T42 l0_0 x9_1).f2.f1).length c295_3)) (fun _ hk => trivial)))⟩; have n1_ : Aside0 (w14.heap[gb291]? = some (.cells #[.slice (some ad295) l0_0.length c0_0] 40 (0, 0))) := ⟨(by rw [hw]; exact (by (with_reducible repeat (first | refine blk_drewN ?_ _ | refine blk_drew ?_ | refine blk_alloc ?_ _)); refine blk_far ?_ NB291_296.out _; (with_reducible repeat (first | refine blk_drewN ?_ _ | refine blk_drew ?_ | refine blk_alloc ?_ _)); refine blk_far ?_ NB291_296.out _; (with_reducible repeat (first | refine blk_drewN ?_ _ | refine blk_drew ?_ | refine blk_alloc ?_ _)); refine blk_far ?_ NB291_296.out _; (with_reducible repeat (first | refine blk_drewN ?_ _ | refine blk_drew ?_ | refine blk_alloc ?_ _)); refine blk_far ?_ NB291_296.out _; (with_reducible repeat (first | refine blk_drewN ?_ _ | refine blk_drew ?_ | refine blk_alloc ?_ _)); exact BK291.out))⟩; have n2_ : Aside0 (w14.heap[gb296]? = some (.cells #[.int .i64 ((rd_T42 l0_0 x9_1).f0), .int .u32 ((rd_T42 l0_0 x9_1).f1), .bool ((rd_T42 l0_0 x9_1).f2.f0), .slice A295_3 ((rd_T42 l0_0 x9_1).f2.f1).length c295_3] 42 (0, 0))) := ⟨(by rw [hw]; exact (by (with_reducible repeat (first | refine blk_drewN ?_ _ | refine blk_drew ?_ | refine blk_alloc ?_ _)); refine blk_put (cs := #[.int .i64 ((rd_T42 l0_0 x9_1).f0), .int .u32 ((rd_T42 l0_0 x9_1).f1), .bool ((rd_T42 l0_0 x9_1).f2.f0), .slice none 0 0]) ?_ 3 _ rfl; (with_reducible repeat (first | refine blk_drewN ?_ _ | refine blk_drew ?_ | refine blk_alloc ?_ _)); refine blk_put (cs := #[.int .i64 ((rd_T42 l0_0 x9_1).f0), .int .u32 ((rd_T42 l0_0 x9_1).f1), .bool false, .slice none 0 0]) ?_ 2 _ rfl; (with_reducible repeat (first | refine blk_drewN ?_ _ | refine blk_drew ?_ | refine blk_alloc ?_ _)); refine blk_put (cs := #[.int .i64 ((rd_T42 l0_0 x9_1).f0), .int .u32 0, .bool false, .slice none 0 0]) ?_ 1 _ rfl; (with_reducible repeat (first | refine blk_drewN ?_ _ | refine blk_drew ?_ | refine blk_alloc ?_ _)); refine blk_put (cs := #[.int .i64 0, .int .u32 0, .bool false, .slice none 0 0]) ?_ 0 _ rfl; (with_reducible repeat (first | refine blk_drewN ?_ _ | refine blk_drew ?_ | refine blk_alloc ?_ _)); exact BK296.out))⟩; have n3_ : Aside0 (Below w.heap.size w w14) := ⟨(by rw [hw]; exact (by repeat (first | (with_reducible first | exact HB.out | apply below_alloc | apply pw_below_drewN | apply below_drew1 | refine below_set ?_ GE291.out | refine below_set ?_ GE296.out) | exact HB.out)))⟩; clear hw; clear HO_3; clear BK291; clear BK296; clear HB; have HO_3 := n0_; have BK291 := n1_; have BK296 := n2_; have HB := n3_; clear n0_ n1_ n2_ n3_; have hcz15_0 : w14.cell? ⟨gb291, 0, none⟩ = some (.slice (some ad295) l0_0.length c0_0) := (blk_cell BK291.out 0).trans rfl; have hfz15_0 := blk_frozen BK291.out 0; have hcz16_0 : w14.cell? ⟨gb296, 0, none⟩ = some (.int .i64 ((rd_T42 l0_0 x9_1).f0)) := (blk_cell BK296.out 0).trans rfl; have hcz16_1 : w14.cell? ⟨gb296, 1, none⟩ = some (.int .u32 ((rd_T42 l0_0 x9_1).f1)) := (blk_cell BK296.out 1).trans rfl; have hcz16_2 : w14.cell? ⟨gb296, 2, none⟩ = some (.bool ((rd_T42 l0_0 x9_1).f2.f0)) := (blk_cell BK296.out 2).trans rfl; have hcz16_3 : w14.cell? ⟨gb296, 3, none⟩ = some (.slice A295_3 ((rd_T42 l0_0 x9_1).f2.f1).length c295_3) := (blk_cell BK296.out 3).trans rfl; have hfz16_0 := blk_frozen BK296.out 0; have hfz16_1 := blk_frozen BK296.out 1; have hfz16_2 := blk_frozen BK296.out 2; have hfz16_3 := blk_frozen BK296.out 3) | ((with_reducible refine gate_callee (f := 18) rfl ?_); refine goesL_ (some 16) rfl rfl Try.func18 (by kernel_rfl) rfl #[.agg #[.slice (some ad295) l0_0.length c0_0], .int .u32 ((rd_T42 l0_0 x9_1).f1)] rfl (by (try simp only [List.map_toArray, List.map_cons, List.map_nil]); first | done | rfl | (simp only [List.length_drop, List.length_take]; rfl)) ?_; (with_reducible refine (host_Wants.calls k1 (fun k_ => k_ < w.heap.size) _ _ l0_0 ((rd_T42 l0_0 x9_1).f1) t297 t298 _ ?side1 A7.out).mono ?_); (case side1 => exact Kd.V_mk HC0_0.out (Kd.F_below (Kd.C_F k42_heap HR0_0.out) (by repeat (first | (with_reducible first | exact HB.out | apply below_alloc | apply pw_below_drewN | apply below_drew1 | refine below_set ?_ GE291.out | refine below_set ?_ GE296.out) | exact HB.out)))); rintro e w17 ⟨v299, rfl, ho0, hb⟩; refine ⟨_, rfl, ?_⟩; have n0_ := Aside0.mk (Kd.R_elder' (by (with_reducible repeat (first | apply Kd.R_alloc | apply Kd.R_drewN | apply Kd.R_drew)); exact HO_3.out) (Kd.R_base ho0) hb); have n1_ := Aside0.mk (Kd.R_lower (Kd.R_new' (Kd.R_mono (ok' := fun k_ => True) ho0 (fun _ hk_ => trivial)) (Kd.R_lt (by (with_reducible repeat (first | apply Kd.R_alloc | apply Kd.R_drewN | apply Kd.R_drew)); exact HO_3.out))) (below_size (by repeat (first | (with_reducible first | exact HB.out | apply below_alloc | apply pw_below_drewN | apply below_drew1 | refine below_set ?_ GE291.out | refine below_set ?_ GE296.out) | exact HB.out)))); have n2_ := Aside0.mk (blk_below (g := gb291) (o := .cells #[.slice (some ad295) l0_0.length c0_0] 40 (0, 0)) (by (with_reducible repeat (first | refine blk_drewN ?_ _ | refine blk_drew ?_ | refine blk_alloc ?_ _)); exact BK291.out) hb); have n3_ := Aside0.mk (blk_below (g := gb296) (o := .cells #[.int .i64 ((rd_T42 l0_0 x9_1).f0), .int .u32 ((rd_T42 l0_0 x9_1).f1), .bool ((rd_T42 l0_0 x9_1).f2.f0), .slice A295_3 ((rd_T42 l0_0 x9_1).f2.f1).length c295_3] 42 (0, 0)) (by (with_reducible repeat (first | refine blk_drewN ?_ _ | refine blk_drew ?_ | refine blk_alloc ?_ _)); exact BK296.out) hb); have n4_ := Aside0.mk (below_step (by repeat (first | (with_reducible first | exact HB.out | apply below_alloc | apply pw_below_drewN | apply below_drew1 | refine below_set ?_ GE291.out | refine below_set ?_ GE296.out) | exact HB.out)) hb); clear HO_3; clear BK291; clear BK296; clear HB; have HO_3 := n0_; have HO300 := n1_; have BK291 := n2_; have BK296 := n3_; have HB := n4_; clear n0_ n1_ n2_ n3_ n4_; (try clear hb); (try clear hb2); (try clear hk); (try clear hi); (try clear ho0); obtain ⟨Ao18, co18, eo18⟩ := Kd.R_slice HO300.out; subst eo18) | ((with_reducible refine gate_callee (f := 41) rfl ?_); refine goesL_ (some 17) rfl rfl Try.func41 (by kernel_rfl) rfl #[.agg #[.bool t297, .slice Ao18 t298.length co18]] rfl (by (try simp only [List.map_toArray, List.map_cons, List.map_nil]); first | done | rfl | (simp only [List.length_drop, List.length_take]; rfl)) ?_; (with_reducible refine (host_some.calls t297 _ _ t298 true _ ?side1 ?side2 A8.out).mono ?_); (case side1 => repeat (first | exact (Kd.R_reads' HO300.out).2.2 | (with_reducible refine Kd.C_alloc ?_ _) | (with_reducible refine Kd.C_drewN ?_ _) | (with_reducible refine Kd.C_drew ?_))); (case side2 => exact (Kd.R_reads' HO300.out).2.1); rintro e w19 ⟨rfl, hb⟩; refine ⟨_, rfl, ?_⟩; have n0_ := Aside0.mk (Kd.R_below (by (with_reducible repeat (first | apply Kd.R_alloc | apply Kd.R_drewN | apply Kd.R_drew)); exact HO_3.out) hb); have n1_ := Aside0.mk (Kd.R_below (by (with_reducible repeat (first | apply Kd.R_alloc | apply Kd.R_drewN | apply Kd.R_drew)); exact HO300.out) hb); have n2_ := Aside0.mk (blk_below (g := gb291) (o := .cells #[.slice (some ad295) l0_0.length c0_0] 40 (0, 0)) (by (with_reducible repeat (first | refine blk_drewN ?_ _ | refine blk_drew ?_ | refine blk_alloc ?_ _)); exact BK291.out) hb); have n3_ := Aside0.mk (blk_below (g := gb296) (o := .cells #[.int .i64 ((rd_T42 l0_0 x9_1).f0), .int .u32 ((rd_T42 l0_0 x9_1).f1), .bool ((rd_T42 l0_0 x9_1).f2.f0), .slice A295_3 ((rd_T42 l0_0 x9_1).f2.f1).length c295_3] 42 (0, 0)) (by (with_reducible repeat (first | refine blk_drewN ?_ _ | refine blk_drew ?_ | refine blk_alloc ?_ _)); exact BK296.out) hb); have n4_ := Aside0.mk (below_step (by repeat (first | (with_reducible first | exact HB.out | apply below_alloc | apply pw_below_drewN | apply below_drew1 | refine below_set ?_ GE291.out | refine below_set ?_ GE296.out) | exact HB.out)) hb); clear HO_3; clear HO300; clear BK291; clear BK296; clear HB; have HO_3 := n0_; have HO300 := n1_; have BK291 := n2_; have BK296 := n3_; have HB := n4_; clear n0_ n1_ n2_ n3_ n4_; (try clear hb); (try clear hb2); (try clear hk); (try clear hi); have hcz20_0 : w19.cell? ⟨gb296, 0, none⟩ = some (.int .i64 ((rd_T42 l0_0 x9_1).f0)) := (blk_cell BK296.out 0).trans rfl; have hcz20_1 : w19.cell? ⟨gb296, 1, none⟩ = some (.int .u32 ((rd_T42 l0_0 x9_1).f1)) := (blk_cell BK296.out 1).trans rfl; have hcz20_2 : w19.cell? ⟨gb296, 2, none⟩ = some (.bool ((rd_T42 l0_0 x9_1).f2.f0)) := (blk_cell BK296.out 2).trans rfl; have hcz20_3 : w19.cell? ⟨gb296, 3, none⟩ = some (.slice A295_3 ((rd_T42 l0_0 x9_1).f2.f1).length c295_3) := (blk_cell BK296.out 3).trans rfl; have hfz20_0 := blk_frozen BK296.out 0; have hfz20_1 := blk_frozen BK296.out 1; have hfz20_2 := blk_frozen BK296.out 2; have hfz20_3 := blk_frozen BK296.out 3) | ((with_reducible refine gate_builtin (b := .append) (xs := #[.tmp 18, .tmp 21]) rfl ?_); at_builtin; refine Kd.R_append (Kd.int .u32) (w0 := w) w.heap.size rfl (.tmp 18) (.tmp 21) 24 23 (.int .u32 0) 4 rfl Try.underlying24 info23 rfl (by decide) (by omega) u3 x3_1 ((rd_T42 l0_0 x9_1).f1) [.int .u32 ((rd_T42 l0_0 x9_1).f1)] (fun k_ => some k_ ≠ (.slice Ao18 t298.length co18 : Value).ownBlock) (fun _ => False) rfl rfl ?aP (fun _ hk => hk.elim) ?aF ?aO ?aB ?aS ?aL ?_; (case aP => exact rfl); (case aB => exact (by repeat (first | (with_reducible first | exact HB.out | apply below_alloc | apply pw_below_drewN | apply below_drew1 | refine below_set ?_ GE291.out | refine below_set ?_ GE296.out) | exact HB.out))); (case aF => exact (fun k_ hk => Kd.fresh' (Kd.R_lt (by (with_reducible repeat (first | apply Kd.R_alloc | apply Kd.R_drewN | apply Kd.R_drew)); exact HO300.out)) k_ hk)); (case aO => exact (by (with_reducible repeat (first | apply Kd.R_alloc | apply Kd.R_drewN | apply Kd.R_drew)); exact Kd.R_mono HO_3.out (fun _ hk => hk.2))); (case aS => exact (below_size (by repeat (first | (with_reducible first | exact HB.out | apply below_alloc | apply pw_below_drewN | apply below_drew1 | refine below_set ?_ GE291.out | refine below_set ?_ GE296.out) | exact HB.out)))); (case aL => have := LMc10.out; omega); intro v303 w21 ho hb hg hat; rw [← Ny302.out] at ho; have n0_ := Aside0.mk (blk_grown (g := gb291) (o := .cells #[.slice (some ad295) l0_0.length c0_0] 40 (0, 0)) (by (with_reducible repeat (first | refine blk_drewN ?_ _ | refine blk_drew ?_ | refine blk_alloc ?_ _)); exact BK291.out) hg (Kd.R_ne HO_3.out BK291.out (by decide))); have n1_ := Aside0.mk (blk_grown (g := gb296) (o := .cells #[.int .i64 ((rd_T42 l0_0 x9_1).f0), .int .u32 ((rd_T42 l0_0 x9_1).f1), .bool ((rd_T42 l0_0 x9_1).f2.f0), .slice A295_3 ((rd_T42 l0_0 x9_1).f2.f1).length c295_3] 42 (0, 0)) (by (with_reducible repeat (first | refine blk_drewN ?_ _ | refine blk_drew ?_ | refine blk_alloc ?_ _)); exact BK296.out) hg (Kd.R_ne HO_3.out BK296.out (by decide))); have n2_ := Aside0.mk (Kd.R_after (ok := (fun _ => True)) (by (with_reducible repeat (first | apply Kd.R_alloc | apply Kd.R_drewN | apply Kd.R_drew)); exact HO300.out) hg hat); have n3_ := Aside0.mk (hb); have n4_ := Aside0.mk (ho); clear BK291; clear BK296; clear HO300; clear HB; clear HO_3; have BK291 := n0_; have BK296 := n1_; have HO300 := n2_; have HB := n3_; have HO304 := n4_; clear n0_ n1_ n2_ n3_ n4_; clear ho hb hg hat))
       go_roundg k1
       case measure => have := HK1.out; omega
       case rel => exact ⟨(y302), (wrap64 (x9_1 + 1)), (by first | rfl | (simp; done) | (simp [*]; done)), H', ⟨by have := HK1.out; omega⟩, ⟨by (with_reducible repeat (first | apply Kd.R_alloc | apply Kd.R_drewN | apply Kd.R_drew)); exact Kd.R_mono HO304.out (fun _ hk => trivial)⟩, ⟨BK291.out⟩, ⟨HB.out⟩⟩
     · replace c9 := Bool.eq_false_iff.mpr c9
       subst c9
       have H1 : (host_Groups.l0 k1 x3_1 l0_0 (l0_0.length : Int) (wrap64 (x9_1 + 1)) l0_0) = some r := by rw [if_neg (show ¬ (false = true) by decide)] at H; exact H
       clear H
       have H := H1
       clear H1
       have H' := Aside0.mk H
       clear H
       have p295 : 0 ≤ (x9_1 : Int) := of_decide_eq_true (by first | (with_reducible assumption) | assumption)
       have q295 : x9_1 < (l0_0.length : Int) := of_decide_eq_true (by first | (with_reducible assumption) | assumption)
       obtain ⟨ad295, A295_3, c295_3, e295, hx295_0, hx295_1, hx295_2, hx295_3, hl295_3, hi295_3⟩ := at_T42 HR0_0.out x9_1 p295 q295
       cases e295
       replace hx295_0 := (HB.out.cell (World.block_lt_of_cell? w _ hx295_0)).trans hx295_0
       replace hx295_1 := (HB.out.cell (World.block_lt_of_cell? w _ hx295_1)).trans hx295_1
       replace hx295_2 := (HB.out.cell (World.block_lt_of_cell? w _ hx295_2)).trans hx295_2
       replace hx295_3 := (HB.out.cell (World.block_lt_of_cell? w _ hx295_3)).trans hx295_3
       have HR295_3 := Aside0.mk hi295_3
       have HC295_3 := Aside0.mk hl295_3
       clear hi295_3 hl295_3
       replace p295 := eq_true p295
       replace q295 := eq_true q295
       go_wp2_with (first | ((with_reducible refine gate_dst (N := 5) rfl ?_); refine box_event ?hg (N := 5) ?hd (cs := #[.int .i64 0, .int .u32 0, .bool false, .slice none 0 0]) (t := 42) ?hr ?_; (case hd => rfl); (case hg => rfl); (case hr => first | (go_simp; done) | (go_simp; rfl)); intro gb296 hg w22 hbox hb; have n0_ := Aside0.mk (Kd.R_below (by (with_reducible repeat (first | apply Kd.R_alloc | apply Kd.R_drewN | apply Kd.R_drew)); exact HO_3.out) hb); have n1_ := Aside0.mk (blk_below (g := gb291) (o := .cells #[.slice (some ad295) l0_0.length c0_0] 40 (0, 0)) (by (with_reducible repeat (first | refine blk_drewN ?_ _ | refine blk_drew ?_ | refine blk_alloc ?_ _)); exact BK291.out) hb); have n2_ := Aside0.mk (below_step (by repeat (first | (with_reducible first | exact HB.out | apply below_alloc | apply pw_below_drewN | apply below_drew1 | refine below_set ?_ GE291.out) | exact HB.out)) hb); have n3_ := Aside0.mk (hbox); have n4_ := Aside0.mk ((by rw [hg]; exact (below_size (by repeat (first | (with_reducible first | exact HB.out | apply below_alloc | apply pw_below_drewN | apply below_drew1 | refine below_set ?_ GE291.out) | exact HB.out))) : w.heap.size ≤ gb296)); have n5_ := Aside0.mk ((by rw [hg]; exact (below_size (by repeat (first | (with_reducible first | exact HB.out | apply below_alloc | apply pw_below_drewN | apply below_drew1 | refine below_set ?_ GE291.out) | exact HB.out))) : w.heap.size ≤ gb296)); have n6_ := Aside0.mk ((by rw [hg]; exact Nat.ne_of_lt (blk_lt (g := gb291) (o := .cells #[.slice (some ad295) l0_0.length c0_0] 40 (0, 0)) (by (with_reducible repeat (first | refine blk_drewN ?_ _ | refine blk_drew ?_ | refine blk_alloc ?_ _)); exact BK291.out)) : gb291 ≠ gb296)); have n7_ := Aside0.mk ((by rw [hg]; exact Nat.ne_of_gt (blk_lt (g := gb291) (o := .cells #[.slice (some ad295) l0_0.length c0_0] 40 (0, 0)) (by (with_reducible repeat (first | refine blk_drewN ?_ _ | refine blk_drew ?_ | refine blk_alloc ?_ _)); exact BK291.out)) : gb296 ≠ gb291)); clear HO_3; clear BK291; clear HB; have HO_3 := n0_; have BK291 := n1_; have HB := n2_; have BK296 := n3_; have GW296 := n4_; have GE296 := n5_; have NB291_296 := n6_; have NB296_291 := n7_; clear n0_ n1_ n2_ n3_ n4_ n5_ n6_ n7_; clear hb hbox hg; have hnb23 := NB296_291.out; have hnc23 := NB291_296.out; obtain ⟨hcz24_0, hcz24_1, hcz24_2, hcz24_3, hfz24_0, hfz24_1, hfz24_2, hfz24_3⟩ := cf4 BK296.out) | ((with_reducible refine gate_store (t := 42) (p := 5) rfl ?_); refine store_event (t := 42) (p := 5) (v := ?vo_w25) (w1 := ((((w22.setCell ⟨gb296, 0, none⟩ (.int .i64 ((rd_T42 l0_0 x9_1).f0))).setCell ⟨gb296, 1, none⟩ (.int .u32 ((rd_T42 l0_0 x9_1).f1))).setCell ⟨gb296, 2, none⟩ (.bool ((rd_T42 l0_0 x9_1).f2.f0))).setCell ⟨gb296, 3, none⟩ (.slice A295_3 ((rd_T42 l0_0 x9_1).f2.f1).length c295_3))) ?hg ?ho ?hn ?hr ?_; (case ho => rfl); (case hg => rfl); (case hn => rfl); (case hr => first | (go_simp; done) | (go_simp; rfl)); intro w25 hw; have n0_ : Aside0 (Kd.R (Kd.int .u32) 23 w25 w.heap.size (fun _ => True) u3 x3_1) := ⟨(by rw [hw]; exact (by (with_reducible repeat (first | apply Kd.R_alloc | apply Kd.R_drewN | apply Kd.R_drew)); exact Kd.R_mono (Kd.R_far (p := ⟨gb296, 3, none⟩) (Kd.R_far (p := ⟨gb296, 2, none⟩) (Kd.R_far (p := ⟨gb296, 1, none⟩) (Kd.R_far (p := ⟨gb296, 0, none⟩) (Kd.R_types HO_3.out BK296.out (by decide)) (fun _ hk => hk.2) (.int .i64 ((rd_T42 l0_0 x9_1).f0))) (fun _ hk => hk.2) (.int .u32 ((rd_T42 l0_0 x9_1).f1))) (fun _ hk => hk.2) (.bool ((rd_T42 l0_0 x9_1).f2.f0))) (fun _ hk => hk.2) (.slice A295_3 ((rd_T42 l0_0 x9_1).f2.f1).length c295_3)) (fun _ hk => trivial)))⟩; have n1_ : Aside0 (w25.heap[gb291]? = some (.cells #[.slice (some ad295) l0_0.length c0_0] 40 (0, 0))) := ⟨(by rw [hw]; exact (by (with_reducible repeat (first | refine blk_drewN ?_ _ | refine blk_drew ?_ | refine blk_alloc ?_ _)); refine blk_far ?_ NB291_296.out _; (with_reducible repeat (first | refine blk_drewN ?_ _ | refine blk_drew ?_ | refine blk_alloc ?_ _)); refine blk_far ?_ NB291_296.out _; (with_reducible repeat (first | refine blk_drewN ?_ _ | refine blk_drew ?_ | refine blk_alloc ?_ _)); refine blk_far ?_ NB291_296.out _; (with_reducible repeat (first | refine blk_drewN ?_ _ | refine blk_drew ?_ | refine blk_alloc ?_ _)); refine blk_far ?_ NB291_296.out _; (with_reducible repeat (first | refine blk_drewN ?_ _ | refine blk_drew ?_ | refine blk_alloc ?_ _)); exact BK291.out))⟩; have n2_ : Aside0 (w25.heap[gb296]? = some (.cells #[.int .i64 ((rd_T42 l0_0 x9_1).f0), .int .u32 ((rd_T42 l0_0 x9_1).f1), .bool ((rd_T42 l0_0 x9_1).f2.f0), .slice A295_3 ((rd_T42 l0_0 x9_1).f2.f1).length c295_3] 42 (0, 0))) := ⟨(by rw [hw]; exact (by (with_reducible repeat (first | refine blk_drewN ?_ _ | refine blk_drew ?_ | refine blk_alloc ?_ _)); refine blk_put (cs := #[.int .i64 ((rd_T42 l0_0 x9_1).f0), .int .u32 ((rd_T42 l0_0 x9_1).f1), .bool ((rd_T42 l0_0 x9_1).f2.f0), .slice none 0 0]) ?_ 3 _ rfl; (with_reducible repeat (first | refine blk_drewN ?_ _ | refine blk_drew ?_ | refine blk_alloc ?_ _)); refine blk_put (cs := #[.int .i64 ((rd_T42 l0_0 x9_1).f0), .int .u32 ((rd_T42 l0_0 x9_1).f1), .bool false, .slice none 0 0]) ?_ 2 _ rfl; (with_reducible repeat (first | refine blk_drewN ?_ _ | refine blk_drew ?_ | refine blk_alloc ?_ _)); refine blk_put (cs := #[.int .i64 ((rd_T42 l0_0 x9_1).f0), .int .u32 0, .bool false, .slice none 0 0]) ?_ 1 _ rfl; (with_reducible repeat (first | refine blk_drewN ?_ _ | refine blk_drew ?_ | refine blk_alloc ?_ _)); refine blk_put (cs := #[.int .i64 0, .int .u32 0, .bool false, .slice none 0 0]) ?_ 0 _ rfl; (with_reducible repeat (first | refine blk_drewN ?_ _ | refine blk_drew ?_ | refine blk_alloc ?_ _)); exact BK296.out))⟩; have n3_ : Aside0 (Below w.heap.size w w25) := ⟨(by rw [hw]; exact (by repeat (first | (with_reducible first | exact HB.out | apply below_alloc | apply pw_below_drewN | apply below_drew1 | refine below_set ?_ GE291.out | refine below_set ?_ GE296.out) | exact HB.out)))⟩; clear hw; clear HO_3; clear BK291; clear BK296; clear HB; have HO_3 := n0_; have BK291 := n1_; have BK296 := n2_; have HB := n3_; clear n0_ n1_ n2_ n3_; have hcz26_0 : w25.cell? ⟨gb291, 0, none⟩ = some (.slice (some ad295) l0_0.length c0_0) := (blk_cell BK291.out 0).trans rfl; have hfz26_0 := blk_frozen BK291.out 0; have hcz27_0 : w25.cell? ⟨gb296, 0, none⟩ = some (.int .i64 ((rd_T42 l0_0 x9_1).f0)) := (blk_cell BK296.out 0).trans rfl; have hcz27_1 : w25.cell? ⟨gb296, 1, none⟩ = some (.int .u32 ((rd_T42 l0_0 x9_1).f1)) := (blk_cell BK296.out 1).trans rfl; have hcz27_2 : w25.cell? ⟨gb296, 2, none⟩ = some (.bool ((rd_T42 l0_0 x9_1).f2.f0)) := (blk_cell BK296.out 2).trans rfl; have hcz27_3 : w25.cell? ⟨gb296, 3, none⟩ = some (.slice A295_3 ((rd_T42 l0_0 x9_1).f2.f1).length c295_3) := (blk_cell BK296.out 3).trans rfl; have hfz27_0 := blk_frozen BK296.out 0; have hfz27_1 := blk_frozen BK296.out 1; have hfz27_2 := blk_frozen BK296.out 2; have hfz27_3 := blk_frozen BK296.out 3) | ((with_reducible refine gate_callee (f := 18) rfl ?_); refine goesL_ (some 16) rfl rfl Try.func18 (by kernel_rfl) rfl #[.agg #[.slice (some ad295) l0_0.length c0_0], .int .u32 ((rd_T42 l0_0 x9_1).f1)] rfl (by (try simp only [List.map_toArray, List.map_cons, List.map_nil]); first | done | rfl | (simp only [List.length_drop, List.length_take]; rfl)) ?_; (with_reducible refine (host_Wants.calls k1 (fun k_ => k_ < w.heap.size) _ _ l0_0 ((rd_T42 l0_0 x9_1).f1) t297 t298 _ ?side1 A7.out).mono ?_); (case side1 => exact Kd.V_mk HC0_0.out (Kd.F_below (Kd.C_F k42_heap HR0_0.out) (by repeat (first | (with_reducible first | exact HB.out | apply below_alloc | apply pw_below_drewN | apply below_drew1 | refine below_set ?_ GE291.out | refine below_set ?_ GE296.out) | exact HB.out)))); rintro e w28 ⟨v299, rfl, ho0, hb⟩; refine ⟨_, rfl, ?_⟩; have n0_ := Aside0.mk (Kd.R_elder' (by (with_reducible repeat (first | apply Kd.R_alloc | apply Kd.R_drewN | apply Kd.R_drew)); exact HO_3.out) (Kd.R_base ho0) hb); have n1_ := Aside0.mk (Kd.R_lower (Kd.R_new' (Kd.R_mono (ok' := fun k_ => True) ho0 (fun _ hk_ => trivial)) (Kd.R_lt (by (with_reducible repeat (first | apply Kd.R_alloc | apply Kd.R_drewN | apply Kd.R_drew)); exact HO_3.out))) (below_size (by repeat (first | (with_reducible first | exact HB.out | apply below_alloc | apply pw_below_drewN | apply below_drew1 | refine below_set ?_ GE291.out | refine below_set ?_ GE296.out) | exact HB.out)))); have n2_ := Aside0.mk (blk_below (g := gb291) (o := .cells #[.slice (some ad295) l0_0.length c0_0] 40 (0, 0)) (by (with_reducible repeat (first | refine blk_drewN ?_ _ | refine blk_drew ?_ | refine blk_alloc ?_ _)); exact BK291.out) hb); have n3_ := Aside0.mk (blk_below (g := gb296) (o := .cells #[.int .i64 ((rd_T42 l0_0 x9_1).f0), .int .u32 ((rd_T42 l0_0 x9_1).f1), .bool ((rd_T42 l0_0 x9_1).f2.f0), .slice A295_3 ((rd_T42 l0_0 x9_1).f2.f1).length c295_3] 42 (0, 0)) (by (with_reducible repeat (first | refine blk_drewN ?_ _ | refine blk_drew ?_ | refine blk_alloc ?_ _)); exact BK296.out) hb); have n4_ := Aside0.mk (below_step (by repeat (first | (with_reducible first | exact HB.out | apply below_alloc | apply pw_below_drewN | apply below_drew1 | refine below_set ?_ GE291.out | refine below_set ?_ GE296.out) | exact HB.out)) hb); clear HO_3; clear BK291; clear BK296; clear HB; have HO_3 := n0_; have HO300 := n1_; have BK291 := n2_; have BK296 := n3_; have HB := n4_; clear n0_ n1_ n2_ n3_ n4_; (try clear hb); (try clear hb2); (try clear hk); (try clear hi); (try clear ho0); obtain ⟨Ao29, co29, eo29⟩ := Kd.R_slice HO300.out; subst eo29) | ((with_reducible refine gate_callee (f := 41) rfl ?_); refine goesL_ (some 17) rfl rfl Try.func41 (by kernel_rfl) rfl #[.agg #[.bool t297, .slice Ao29 t298.length co29]] rfl (by (try simp only [List.map_toArray, List.map_cons, List.map_nil]); first | done | rfl | (simp only [List.length_drop, List.length_take]; rfl)) ?_; (with_reducible refine (host_some.calls t297 _ _ t298 false _ ?side1 ?side2 A8.out).mono ?_); (case side1 => repeat (first | exact (Kd.R_reads' HO300.out).2.2 | (with_reducible refine Kd.C_alloc ?_ _) | (with_reducible refine Kd.C_drewN ?_ _) | (with_reducible refine Kd.C_drew ?_))); (case side2 => exact (Kd.R_reads' HO300.out).2.1); rintro e w30 ⟨rfl, hb⟩; refine ⟨_, rfl, ?_⟩; have n0_ := Aside0.mk (Kd.R_below (by (with_reducible repeat (first | apply Kd.R_alloc | apply Kd.R_drewN | apply Kd.R_drew)); exact HO_3.out) hb); have n1_ := Aside0.mk (Kd.R_below (by (with_reducible repeat (first | apply Kd.R_alloc | apply Kd.R_drewN | apply Kd.R_drew)); exact HO300.out) hb); have n2_ := Aside0.mk (blk_below (g := gb291) (o := .cells #[.slice (some ad295) l0_0.length c0_0] 40 (0, 0)) (by (with_reducible repeat (first | refine blk_drewN ?_ _ | refine blk_drew ?_ | refine blk_alloc ?_ _)); exact BK291.out) hb); have n3_ := Aside0.mk (blk_below (g := gb296) (o := .cells #[.int .i64 ((rd_T42 l0_0 x9_1).f0), .int .u32 ((rd_T42 l0_0 x9_1).f1), .bool ((rd_T42 l0_0 x9_1).f2.f0), .slice A295_3 ((rd_T42 l0_0 x9_1).f2.f1).length c295_3] 42 (0, 0)) (by (with_reducible repeat (first | refine blk_drewN ?_ _ | refine blk_drew ?_ | refine blk_alloc ?_ _)); exact BK296.out) hb); have n4_ := Aside0.mk (below_step (by repeat (first | (with_reducible first | exact HB.out | apply below_alloc | apply pw_below_drewN | apply below_drew1 | refine below_set ?_ GE291.out | refine below_set ?_ GE296.out) | exact HB.out)) hb); clear HO_3; clear HO300; clear BK291; clear BK296; clear HB; have HO_3 := n0_; have HO300 := n1_; have BK291 := n2_; have BK296 := n3_; have HB := n4_; clear n0_ n1_ n2_ n3_ n4_; (try clear hb); (try clear hb2); (try clear hk); (try clear hi)))
       go_roundg k1
       case measure => have := HK1.out; omega
       case rel => exact ⟨(x3_1), (wrap64 (x9_1 + 1)), (by first | rfl | (simp; done) | (simp [*]; done)), H', ⟨by have := HK1.out; omega⟩, ⟨by (with_reducible repeat (first | apply Kd.R_alloc | apply Kd.R_drewN | apply Kd.R_drew)); exact Kd.R_mono HO_3.out (fun _ hk => trivial)⟩, ⟨BK291.out⟩, ⟨HB.out⟩⟩
   · rw [if_neg c4] at H
     have c4b0 : decide (x9_1 < (l0_0.length : Int)) = false := decide_eq_false c4
     clear c4
     replace H := Option.bind_eq_some_iff.mp H
     obtain ⟨t292, A310, H⟩ := H
     replace H : (some t292) = some r := H
     have A31 := Aside0.mk A310
     clear A310
     obtain rfl := Option.some.inj H
     obtain ⟨Ao32, co32, eo32⟩ := Kd.R_slice HO_3.out
     subst eo32
     go_wp2_with (first | ((with_reducible refine gate_callee (f := 42) rfl ?_); refine goesL_ (some 25) rfl rfl Try.func42 (by kernel_rfl) rfl #[.slice Ao32 x3_1.length co32] rfl (by (try simp only [List.map_toArray, List.map_cons, List.map_nil]); first | done | rfl | (simp only [List.length_drop, List.length_take]; rfl)) ?_; (with_reducible refine (set_Make.calls _ _ x3_1 t292 _ ?side1 ?side2 A31.out).mono ?_); (case side1 => repeat (first | exact (Kd.R_reads' HO_3.out).2.2 | (with_reducible refine Kd.C_alloc ?_ _) | (with_reducible refine Kd.C_drewN ?_ _) | (with_reducible refine Kd.C_drew ?_))); (case side2 => exact (Kd.R_reads' HO_3.out).2.1); rintro e w33 ⟨v293, rfl, ho0, hb⟩; refine ⟨_, rfl, ?_⟩; have n0_ := Aside0.mk (Kd.R_elder' (by (with_reducible repeat (first | apply Kd.R_alloc | apply Kd.R_drewN | apply Kd.R_drew)); exact HO_3.out) (Kd.R_base ho0) hb); have n1_ := Aside0.mk (Kd.R_lower (Kd.R_new' ho0 (Kd.R_lt (by (with_reducible repeat (first | apply Kd.R_alloc | apply Kd.R_drewN | apply Kd.R_drew)); exact HO_3.out))) (below_size HB.out)); have n2_ := Aside0.mk (blk_below BK291.out hb); have n3_ := Aside0.mk (below_step HB.out hb); clear HO_3; clear BK291; clear HB; have HO_3 := n0_; have HO294 := n1_; have BK291 := n2_; have HB := n3_; clear n0_ n1_ n2_ n3_; (try clear hb); (try clear hb2); (try clear hk); (try clear hi); (try clear ho0)))
     go_ret
     exact ⟨_, by first | rfl | (simp [errW_none, errW_some] <;> rfl) | (simp [*, errW_none, errW_some] <;> rfl), by (with_reducible repeat (first | apply Kd.R_alloc | apply Kd.R_drewN | apply Kd.R_drew)); exact Kd.R_mono HO294.out (fun _ hk => trivial), by repeat (first | (with_reducible first | exact HB.out | apply below_alloc | apply pw_below_drewN | apply below_drew1 | refine below_set ?_ GE291.out) | exact HB.out)⟩

end Go.Proofs.Ytjncmiclpaodhaa.PHo
