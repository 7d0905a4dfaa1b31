/-
  igmp.Decode, walked.
-/
import Derived.Test.YtmmjmncchckbbaaIgA
import Derived.Test.YtmmjmncchckbbaaIgB
import Derived.Test.YtmmjmncchckbbaaPIgx0
import Derived.Test.YtmmjmncchckbbaaPIgx3
import Derived.Test.YtmmjmncchckbbaaPIgx8
namespace Go.Proofs.Ytmmjmncchckbbaa
open Go.RowKit Go.Proofs.YtmmjmncchckbbaaW.PrintWords Go.Proofs.YtmmjmncchckbbaaW.PrintLast Go.Proofs.YtmmjmncchckbbaaW.PrintMore Go.Proofs.Ytmmjmncchckbbaa.PIg
set_option linter.unusedVariables false
set_option linter.unusedSimpArgs false
theorem z9 {w : World} {g : Nat} {a0 a1 a2 a3 a4 a5 a6 a7 a8 : Value} (h : w.heap[g]? = some (.cells #[a0, a1, a2, a3, a4, a5, a6, a7, a8] 27 (0, 0))) (b0 b1 b2 b3 b4 b5 b6 b7 b8 : Value) : ((((((((((w.setCell ⟨g, 0, none⟩ b0).setCell ⟨g, 1, none⟩ b1).setCell ⟨g, 2, none⟩ b2).setCell ⟨g, 3, none⟩ b3).setCell ⟨g, 4, none⟩ b4).setCell ⟨g, 5, none⟩ b5).setCell ⟨g, 6, none⟩ b6).setCell ⟨g, 7, none⟩ b7).setCell ⟨g, 8, none⟩ b8)).heap[g]? = some (.cells #[b0, b1, b2, b3, b4, b5, b6, b7, b8] 27 (0, 0)) := (blk_put (cs := #[b0, b1, b2, b3, b4, b5, b6, b7, a8]) (blk_put (cs := #[b0, b1, b2, b3, b4, b5, b6, a7, a8]) (blk_put (cs := #[b0, b1, b2, b3, b4, b5, a6, a7, a8]) (blk_put (cs := #[b0, b1, b2, b3, b4, a5, a6, a7, a8]) (blk_put (cs := #[b0, b1, b2, b3, a4, a5, a6, a7, a8]) (blk_put (cs := #[b0, b1, b2, a3, a4, a5, a6, a7, a8]) (blk_put (cs := #[b0, b1, a2, a3, a4, a5, a6, a7, a8]) (blk_put (cs := #[b0, a1, a2, a3, a4, a5, a6, a7, a8]) (blk_put (cs := #[a0, a1, a2, a3, a4, a5, a6, a7, a8]) h 0 b0 rfl) 1 b1 rfl) 2 b2 rfl) 3 b3 rfl) 4 b4 rfl) 5 b5 rfl) 6 b6 rfl) 7 b7 rfl) 8 b8 rfl)
theorem m9 (w : World) (g : Nat) (b0 b1 b2 b3 b4 b5 b6 b7 b8 : Value) : RM w (((((((((w.setCell ⟨g, 0, none⟩ b0).setCell ⟨g, 1, none⟩ b1).setCell ⟨g, 2, none⟩ b2).setCell ⟨g, 3, none⟩ b3).setCell ⟨g, 4, none⟩ b4).setCell ⟨g, 5, none⟩ b5).setCell ⟨g, 6, none⟩ b6).setCell ⟨g, 7, none⟩ b7).setCell ⟨g, 8, none⟩ b8) g := ((((((((((RM.of_below (g := g) (Below.refl w.heap.size w)).set 0 b0).set 1 b1).set 2 b2).set 3 b3).set 4 b4).set 5 b5).set 6 b6).set 7 b7).set 8 b8)
theorem l9 {w0 w : World} {g : Nat} (hb : Below w0.heap.size w0 w) (hg : w0.heap.size ≤ g) (b0 b1 b2 b3 b4 b5 b6 b7 b8 : Value) : Below w0.heap.size w0 (((((((((w.setCell ⟨g, 0, none⟩ b0).setCell ⟨g, 1, none⟩ b1).setCell ⟨g, 2, none⟩ b2).setCell ⟨g, 3, none⟩ b3).setCell ⟨g, 4, none⟩ b4).setCell ⟨g, 5, none⟩ b5).setCell ⟨g, 6, none⟩ b6).setCell ⟨g, 7, none⟩ b7).setCell ⟨g, 8, none⟩ b8) := (below_set (below_set (below_set (below_set (below_set (below_set (below_set (below_set (below_set hb hg) hg) hg) hg) hg) hg) hg) hg) hg)
theorem ReadsTo.calls {f : Nat} {k code : Int} {bs : List Int} {r : Msg × List Int × Bool} (h : ReadsTo f k code bs r) {w0 w : World} {g : Nat} {A : Option Addr} {c : Nat} (h1 : Below w0.heap.size w0 w) (h2 : w0.heap.size ≤ g) (h3 : w.heap[g]? = some (.cells #[.slice A bs.length c, .int .u8 k, .int .i64 0, .int .u8 code, .int .u32 0, .bool false, .int .u8 0, .int .u8 0, .slice none 0 0, .slice none 0 0, .bool false] 66 (0, 0))) (h4 : Kd.C (Kd.int .u8) w0 A bs.length bs) (h5 : bs.length ≤ c) :
    Calls Try.prog f #[.pointer (some ⟨g, 0, none⟩)] w fun e w' => ∃ vS vR A2 c2, e = .returned (.tuple #[]) ∧ Kd.R (Kd.int .u32) 23 w' w.heap.size (fun k => k ≠ g) vS r.1.srcs ∧ Kd.N k44 44 w' w.heap.size (fun k => k ≠ g ∧ w.heap.size ≤ k) vR r.1.recs ∧ w'.heap[g]? = some (.cells #[.slice A2 r.2.1.length c2, .int .u8 r.1.k, .int .i64 r.1.ver, .int .u8 r.1.code, .int .u32 r.1.grp, .bool r.1.quiet, .int .u8 r.1.rob, .int .u8 r.1.every, vS, vR, .bool r.2.2] 66 (0, 0)) ∧ RM w w' g := h w0 w g A c h1 h2 h3 h4 h5
/-- What is told of Decode: the message m, the number er. -/
def DecP (w : World) (m : Msg) (er : Int) (e : Ending) (w' : World) : Prop :=
  ∃ vS vR, e = .returned (.tuple #[.agg (m.vals vS vR), .int .i64 er]) ∧ Kd.R (Kd.int .u32) 23 w' w.heap.size (fun _ => True) vS m.srcs ∧ Kd.N k44 44 w' w.heap.size (fun _ => True) vR m.recs ∧ Below w.heap.size w w'
def es6 (p : Value) : Array MapEntry := (((((#[] : Array MapEntry).push ⟨.int .u8 17, .func (.func 41) #[p] #[], 0⟩).push ⟨.int .u8 18, .func (.func 42) #[p] #[], 0 + 1⟩).push ⟨.int .u8 22, .func (.func 42) #[p] #[], 0 + 1 + 1⟩).push ⟨.int .u8 23, .func (.func 42) #[p] #[], 0 + 1 + 1 + 1⟩).push ⟨.int .u8 34, .func (.func 43) #[p] #[], 0 + 1 + 1 + 1 + 1⟩
def dec_T : Bool × List (List Nat × List Nat) := (true, [([], []), ([0], [0]), ([], []), ([2], [2]), ([3], [3]), ([], []), ([5], [5]), ([6], [6]), ([4, 7], [4, 7]), ([1, 8], [1, 8]), ([9], [9]), ([10, 0, 1, 2, 3, 4, 5, 6, 7, 8, 9, 10], [10])])
def dec_B : List Nat := [0, 1, 0, 4, 12, 0, 32, 96, 252, 511, 1023, 2047]
theorem dec_t : rtab .any (opsOf Try.f20 5) = dec_T := by kernel_rfl
theorem dec_b : waitsOk dec_T.2 dec_B = true := by kernel_rfl
set_option maxHeartbeats 8000000 in
set_option maxRecDepth 100000 in
theorem dec_right {l : List Int} {K : Nat} (hl : 8 ≤ l.length) (hw : sum_Whole.f l = some true) {fid j : Nat} {fn : Func} (hf : Try.prog.funcs[fid]? = some fn) (hnm : (fn.name == "runtime.NumGoroutine") = false) (hbd : fn.body.isSome = true) (hfd : ∀ p, Instr.findNow (.int .u8) (.int .u8 (rd l 0)) (es6 p).toList 0 = some (some (j, .func (.func fid) #[p] #[]))) {m : Msg} {rest : List Int} (hrd : ReadsTo fid (rd l 0) (rd l 1) (l.drop 4) (m, rest, false)) (hrs : rest.length = 0) (hq : igmp_Right.f K m.k m.ver m.code m.grp m.quiet m.rob m.every m.srcs m.recs = some true) (A : Option Addr) (c : Nat) (w : World) (hr : Kd.C (Kd.int .u8) w A l.length l) (hc : l.length ≤ c) :
    Calls Try.prog 20 #[.slice A l.length c] w (DecP w m 0) := by
  have hu27 := Try.underlying27
  have hu66 : Try.prog.underlying 66 = _ := Try.underlying66
  have HB := Aside0.mk (Below.refl w.heap.size w)
  have HC_l := Aside0.mk hr
  have HK_l := Aside0.mk hc
  clear hr hc
  have hd8 : decide ((l.length : Int) < 8) = false := decide_eq_false (by omega)
  have hn8 : ¬ l.length < 8 := by omega
  have HWH := Aside0.mk hw
  have HFD := Aside0.mk hfd
  clear hw hfd
  have HF := Aside0.mk hf
  have HNM := Aside0.mk hnm
  have HBD := Aside0.mk hbd
  have HRD := Aside0.mk hrd
  clear hf hnm hbd hrd
  have HQ := Aside0.mk hq
  clear hq
  have hr1 : decide ((0 : Int) < (rest.length : Int)) = false := decide_eq_false (by omega)
  have HRS := Aside0.mk hrs
  have hr2 : ¬ 0 < rest.length := by omega
  clear hrs
  go_enter Try.func20, Try.ntmps20
  obtain ⟨i_, hi_, _, hz_, _⟩ := info_parts Try.info5
  obtain ⟨A4, hcutb, hAb, hKb⟩ := print_drop_of (P := Try.prog) (Value.int .u8) 0 30 5 .i64 Try.underlying30 hi_ hz_ A c l (4 : Int) (by omega) (by omega) HK_l.out
  simp only [show Int.toNat 4 = 4 from rfl] at hAb hKb hcutb
  obtain ⟨y, hy⟩ : ∃ y_, y_ = l.drop 4 := ⟨_, rfl⟩
  rw [← hy] at hAb hKb hcutb HRD
  have HY := Aside0.mk (show Kd.C (Kd.int .u8) w A4 y.length y from Kd.C_of_reads (h1 := fun _ => rfl) (hAb w (Kd.reads_of_C HC_l.out)))
  have HKY := Aside0.mk hKb
  clear hAb hKb hi_ hz_ hy
  obtain ⟨ad, hAd, _⟩ := Kd.at_int HC_l.out 0 (by omega) (by omega)
  subst hAd
  have y0w := Aside0.mk (idx_cell0 HC_l.out (by omega))
  have y1w := Aside0.mk (idx_cell HC_l.out 1 (by decide) (by omega))
  have bn0 : ((0 : Int) < (l.length : Int)) = True := eq_true (by omega)
  have bn1 : ((1 : Int) < (l.length : Int)) = True := eq_true (by omega)
  have hp0 : 0 < l.length := by omega
  go_upto_region 5 with (first | ((with_reducible refine gate_dst (N := 2) rfl ?_); (try (refine gate_guard (by rfl) ?_; dsimp only)); refine box_event ?hg (N := 2) ?hd (cs := #[.int .u8 0, .int .i64 0, .int .u8 0, .int .u32 0, .bool false, .int .u8 0, .int .u8 0, .slice none 0 0, .slice none 0 0]) (t := 27) ?hr ?_; (case hd => rfl); (case hg => rfl); (case hr => first | (go_simp; done) | (go_simp; rfl)); intro gr hg w1_ hbox hB; have HBo := Aside0.mk HB.out; have nHB := Aside0.mk (HB.out.trans (hB.mono HB.out.size)); clear HB; have HB := nHB; clear nHB; have BK_gr := Aside0.mk hbox; have GE_gr := Aside0.mk (show w.heap.size ≤ gr by rw [hg]; exact HBo.out.size); clear hg hbox hB; obtain ⟨hc_gr_0, hc_gr_1, hc_gr_2, hc_gr_3, hc_gr_4, hc_gr_5, hc_gr_6, hc_gr_7, hc_gr_8, hf_gr_0, hf_gr_1, hf_gr_2, hf_gr_3, hf_gr_4, hf_gr_5, hf_gr_6, hf_gr_7, hf_gr_8⟩ := cf9 BK_gr.out; clear HBo) | (go_at_call 40; with_reducible refine (sum_Whole.calls _ _ l _ _ (Kd.C_below HC_l.out HB.out) HK_l.out HWH.out).mono ?_; rintro e w2_ ⟨rfl, hB⟩; have nHB := Aside0.mk (HB.out.trans (hB.mono HB.out.size)); clear HB; have HB := nHB; clear nHB; clear hc_gr_0 hf_gr_0 hc_gr_1 hf_gr_1 hc_gr_2 hf_gr_2 hc_gr_3 hf_gr_3 hc_gr_4 hf_gr_4 hc_gr_5 hf_gr_5 hc_gr_6 hf_gr_6 hc_gr_7 hf_gr_7 hc_gr_8 hf_gr_8; have nBK := Aside0.mk (blk_below BK_gr.out hB); clear BK_gr; have BK_gr := nBK; clear nBK; obtain ⟨hc_gr_0, hc_gr_1, hc_gr_2, hc_gr_3, hc_gr_4, hc_gr_5, hc_gr_6, hc_gr_7, hc_gr_8, hf_gr_0, hf_gr_1, hf_gr_2, hf_gr_3, hf_gr_4, hf_gr_5, hf_gr_6, hf_gr_7, hf_gr_8⟩ := cf9 BK_gr.out; clear hB))
  refine start_ (n := 12) (S := fun w' => w'.cell? ⟨gr, 0, none⟩ = some (.int .u8 0) ∧ w'.cell? ⟨gr, 1, none⟩ = some (.int .i64 0) ∧ w'.cell? ⟨gr, 2, none⟩ = some (.int .u8 0) ∧ w'.cell? ⟨gr, 3, none⟩ = some (.int .u32 0) ∧ w'.cell? ⟨gr, 4, none⟩ = some (.bool false) ∧ w'.cell? ⟨gr, 5, none⟩ = some (.int .u8 0) ∧ w'.cell? ⟨gr, 6, none⟩ = some (.int .u8 0) ∧ w'.cell? ⟨gr, 7, none⟩ = some (.slice none 0 0) ∧ w'.cell? ⟨gr, 8, none⟩ = some (.slice none 0 0) ∧ w'.cell? ad = some (.int .u8 (rd l 0)) ∧ w'.cell? ⟨ad.block, ad.off + 1, none⟩ = some (.int .u8 (rd l 1))) (ds := []) #[false, false, false, false, false, false, false, false, false, false, false, false] (by kernel_rfl) rfl rfl ⟨hc_gr_0, hc_gr_1, hc_gr_2, hc_gr_3, hc_gr_4, hc_gr_5, hc_gr_6, hc_gr_7, hc_gr_8, ((HB.out.cell (World.block_lt_of_cell? w _ y0w.out)).trans y0w.out), ((HB.out.cell (World.block_lt_of_cell? w _ y1w.out)).trans y1w.out)⟩ (fun hHeld => ?_); refine with_tabW dec_t dec_b (fun HT_ HW_ => ?_)
  have hB : Below w2_.heap.size w2_ w2_.drew := below_drew (Below.refl _ _)
  generalize w2_.drew = w3_ at hB hHeld ⊢
  have nHB := Aside0.mk (HB.out.trans (hB.mono HB.out.size))
  clear HB
  have HB := nHB
  clear nHB
  clear hc_gr_0 hf_gr_0 hc_gr_1 hf_gr_1 hc_gr_2 hf_gr_2 hc_gr_3 hf_gr_3 hc_gr_4 hf_gr_4 hc_gr_5 hf_gr_5 hc_gr_6 hf_gr_6 hc_gr_7 hf_gr_7 hc_gr_8 hf_gr_8
  have nBK := Aside0.mk (blk_below BK_gr.out hB)
  clear BK_gr
  have BK_gr := nBK
  clear nBK
  obtain ⟨hc_gr_0, hc_gr_1, hc_gr_2, hc_gr_3, hc_gr_4, hc_gr_5, hc_gr_6, hc_gr_7, hc_gr_8, hf_gr_0, hf_gr_1, hf_gr_2, hf_gr_3, hf_gr_4, hf_gr_5, hf_gr_6, hf_gr_7, hf_gr_8⟩ := cf9 BK_gr.out
  clear hB
  refine pu 0 18 #[true, false, false, false, false, false, false, false, false, false, false, false] rfl rfl (any_of HT_.out (by kernel_rfl)) (fun _ _ _ h => h) (by rfl) (fun w' => by go_simp; with_reducible rfl) (by simp only [Act.put, List.setIfInBounds_toArray, List.set_cons_zero, List.set_cons_succ, i64_w, i32_w]; rfl) ?_
  refine pu 1 19 #[true, true, false, false, false, false, false, false, false, false, false, false] rfl rfl (any_of HT_.out (by kernel_rfl)) (fun _ _ _ h => h) (by rfl) (fun w' => by go_simp; with_reducible rfl) (by simp only [Act.put, List.setIfInBounds_toArray, List.set_cons_zero, List.set_cons_succ, i64_w, i32_w]; rfl) ?_
  refine pu 2 20 #[true, true, true, false, false, false, false, false, false, false, false, false] rfl rfl (any_of HT_.out (by kernel_rfl)) (fun _ _ _ h => h) (by rfl) (fun w' => by go_simp; with_reducible rfl) (by simp only [Act.put, List.setIfInBounds_toArray, List.set_cons_zero, List.set_cons_succ, i64_w, i32_w]; rfl) ?_
  refine pu 3 21 #[true, true, true, true, false, false, false, false, false, false, false, false] rfl rfl (any_of HT_.out (by kernel_rfl)) (fun _ _ _ h => h) (by rfl) (fun w' => by go_simp; with_reducible rfl) (by simp only [Act.put, List.setIfInBounds_toArray, List.set_cons_zero, List.set_cons_succ, i64_w, i32_w]; rfl) ?_
  refine take_ (i := 4) (N := some 22) (v := ?_) (a' := ?_) #[true, true, true, true, true, false, false, false, false, false, false, false] rfl rfl (take_ofW HT_.out HW_.out (by kernel_rfl)) (fun _ _ _ h => h) (Or.inl ⟨by rfl, ?_⟩) hHeld ?_ ?_
  rotate_left
  · rintro w' ⟨s0, s1, s2, s3, s4, s5, s6, s7, s8, s9, s10⟩
    go_simp
    with_reducible rfl
  rotate_left
  · simp only [Act.put, List.setIfInBounds_toArray, List.set_cons_zero, List.set_cons_succ, i64_w, i32_w]
    rfl
  refine pu 5 23 #[true, true, true, true, true, true, false, false, false, false, false, false] rfl rfl (any_of HT_.out (by kernel_rfl)) (fun _ _ _ h => h) (by rfl) (fun w' => by go_simp; with_reducible rfl) (by simp only [Act.put, List.setIfInBounds_toArray, List.set_cons_zero, List.set_cons_succ, i64_w, i32_w]; rfl) ?_
  refine pu 6 24 #[true, true, true, true, true, true, true, false, false, false, false, false] rfl rfl (any_of HT_.out (by kernel_rfl)) (fun _ _ _ h => h) (by rfl) (fun w' => by go_simp; with_reducible rfl) (by simp only [Act.put, List.setIfInBounds_toArray, List.set_cons_zero, List.set_cons_succ, i64_w, i32_w]; rfl) ?_
  refine take_ (i := 7) (N := some 25) (v := ?_) (a' := ?_) #[true, true, true, true, true, true, true, true, false, false, false, false] rfl rfl (take_ofW HT_.out HW_.out (by kernel_rfl)) (fun _ _ _ h => h) (Or.inl ⟨by rfl, ?_⟩) hHeld ?_ ?_
  rotate_left
  · rintro w' ⟨s0, s1, s2, s3, s4, s5, s6, s7, s8, s9, s10⟩
    go_simp
    with_reducible rfl
  rotate_left
  · simp only [Act.put, List.setIfInBounds_toArray, List.set_cons_zero, List.set_cons_succ, i64_w, i32_w]
    rfl
  refine pu 8 26 #[true, true, true, true, true, true, true, true, true, false, false, false] rfl rfl (any_of HT_.out (by kernel_rfl)) (fun _ _ _ h => h) (by rfl) (fun w' => by go_simp; with_reducible rfl) (by simp only [Act.put, List.setIfInBounds_toArray, List.set_cons_zero, List.set_cons_succ, i64_w, i32_w]; rfl) ?_
  refine pu 9 27 #[true, true, true, true, true, true, true, true, true, true, false, false] rfl rfl (any_of HT_.out (by kernel_rfl)) (fun _ _ _ h => h) (by rfl) (fun w' => by go_simp; with_reducible rfl) (by simp only [Act.put, List.setIfInBounds_toArray, List.set_cons_zero, List.set_cons_succ, i64_w, i32_w]; rfl) ?_
  refine one_ (i := 10) (N := some 28) #[true, true, true, true, true, true, true, true, true, true, true, false] rfl rfl (one_of HT_.out (by kernel_rfl)) (by decide) (fun K hK => ?_)
  refine box_step ?hg (N := 28) ?hd (cs := #[.slice A4 y.length (c - 4), .int .u8 (rd l 0), .int .i64 0, .int .u8 (rd l 1), .int .u32 0, .bool false, .int .u8 0, .int .u8 0, .slice none 0 0, .slice none 0 0, .bool false]) (t := 66) ?hr ?_; (case hd => rfl); (case hg => rfl); (case hr => first | (go_simp; done) | (go_simp; rfl))
  intro g hg w4_ hbox hB
  have NB_g_gr := Aside0.mk (show g ≠ gr by rw [hg]; exact Nat.ne_of_gt (blk_lt BK_gr.out))
  have NB_gr_g := Aside0.mk (Ne.symm NB_g_gr.out)
  have GE_g := Aside0.mk (show w.heap.size ≤ g by rw [hg]; exact HB.out.size)
  have nHB := Aside0.mk (HB.out.trans (hB.mono HB.out.size))
  clear HB
  have HB := nHB
  clear nHB
  clear hc_gr_0 hf_gr_0 hc_gr_1 hf_gr_1 hc_gr_2 hf_gr_2 hc_gr_3 hf_gr_3 hc_gr_4 hf_gr_4 hc_gr_5 hf_gr_5 hc_gr_6 hf_gr_6 hc_gr_7 hf_gr_7 hc_gr_8 hf_gr_8
  have nBK := Aside0.mk (blk_below BK_gr.out hB)
  clear BK_gr
  have BK_gr := nBK
  clear nBK
  obtain ⟨hc_gr_0, hc_gr_1, hc_gr_2, hc_gr_3, hc_gr_4, hc_gr_5, hc_gr_6, hc_gr_7, hc_gr_8, hf_gr_0, hf_gr_1, hf_gr_2, hf_gr_3, hf_gr_4, hf_gr_5, hf_gr_6, hf_gr_7, hf_gr_8⟩ := cf9 BK_gr.out
  have BK_g := Aside0.mk hbox
  clear hg hbox hB
  obtain ⟨hc_g_0, hc_g_1, hc_g_2, hc_g_3, hc_g_4, hc_g_5, hc_g_6, hc_g_7, hc_g_8, hc_g_9, hc_g_10, hf_g_0, hf_g_1, hf_g_2, hf_g_3, hf_g_4, hf_g_5, hf_g_6, hf_g_7, hf_g_8, hf_g_9, hf_g_10⟩ := cf11 BK_g.out
  refine hK.out _ _ ⟨hc_gr_0, hc_gr_1, hc_gr_2, hc_gr_3, hc_gr_4, hc_gr_5, hc_gr_6, hc_gr_7, hc_gr_8, ((HB.out.cell (World.block_lt_of_cell? w _ y0w.out)).trans y0w.out), ((HB.out.cell (World.block_lt_of_cell? w _ y1w.out)).trans y1w.out)⟩ (fun hHeld => ?_)
  clear hK K
  refine norm_ (a' := ?_) ?_ ?_
  rotate_left
  · show Act.put _ (some 28) _ = _
    simp only [Act.put, List.setIfInBounds_toArray, List.set_cons_zero, List.set_cons_succ, i64_w, i32_w]
    rfl
  refine pu 11 4 #[true, true, true, true, true, true, true, true, true, true, true, true] rfl rfl (any_of HT_.out (by kernel_rfl)) (fun _ _ _ h => h) (by rfl) (fun w' => by go_simp; with_reducible rfl) (by simp only [Act.put, List.setIfInBounds_toArray, List.set_cons_zero, List.set_cons_succ, i64_w, i32_w]; rfl) ?_
  refine done_ (done_of HT_.out (by kernel_rfl)) ?_
  clear hc_gr_0 hf_gr_0 hc_gr_1 hf_gr_1 hc_gr_2 hf_gr_2 hc_gr_3 hf_gr_3 hc_gr_4 hf_gr_4 hc_gr_5 hf_gr_5 hc_gr_6 hf_gr_6 hc_gr_7 hf_gr_7 hc_gr_8 hf_gr_8
  clear hc_g_0 hf_g_0 hc_g_1 hf_g_1 hc_g_2 hf_g_2 hc_g_3 hf_g_3 hc_g_4 hf_g_4 hc_g_5 hf_g_5 hc_g_6 hf_g_6 hc_g_7 hf_g_7 hc_g_8 hf_g_8 hc_g_9 hf_g_9 hc_g_10 hf_g_10
  have HMB := Aside0.mk (Below.refl w4_.heap.size w4_)
  go_wp2_with (first | ((with_reducible refine gate_dst (N := 29) rfl ?_); refine mk_ rfl 67 rfl ?_; intro b wm0 hbe hm hb; have HMB0 := Aside0.mk hb; have HBG := Aside0.mk (Nat.le_of_eq hbe.symm); have HMP0 := Aside0.mk hm; clear hbe hm hb) | (refine ins_ rfl (.tmp 29) (.tmp 31) 17 rfl b _ _ rfl _ rfl HMP0.out rfl ?_; intro wm1 hm hR; have HMP1 := Aside0.mk hm; have HMB1 := Aside0.mk (hR.below HMB0.out HBG.out); clear hm hR) | (refine ins_ rfl (.tmp 29) (.tmp 33) 18 rfl b _ _ rfl _ rfl HMP1.out rfl ?_; intro wm2 hm hR; have HMP2 := Aside0.mk hm; have HMB2 := Aside0.mk (hR.below HMB1.out HBG.out); clear hm hR) | (refine ins_ rfl (.tmp 29) (.tmp 35) 22 rfl b _ _ rfl _ rfl HMP2.out rfl ?_; intro wm3 hm hR; have HMP3 := Aside0.mk hm; have HMB3 := Aside0.mk (hR.below HMB2.out HBG.out); clear hm hR) | (refine ins_ rfl (.tmp 29) (.tmp 37) 23 rfl b _ _ rfl _ rfl HMP3.out rfl ?_; intro wm4 hm hR; have HMP4 := Aside0.mk hm; have HMB4 := Aside0.mk (hR.below HMB3.out HBG.out); clear hm hR) | (refine ins_ rfl (.tmp 29) (.tmp 39) 34 rfl b _ _ rfl _ rfl HMP4.out rfl ?_; intro wm5 hm hR; have HMP5 := Aside0.mk hm; have HMB5 := Aside0.mk (hR.below HMB4.out HBG.out); clear hm hR; have HB6 := Aside0.mk (HB.out.trans (HMB5.out.mono HB.out.size)); have y06 := (HB6.out.cell (World.block_lt_of_cell? w _ y0w.out)).trans y0w.out; have hlk := run_look (b := b) (kv := rd l 0) (es := es6 (.pointer (some ⟨g, 0, none⟩))) HMP5.out (HFD.out _)) | ((with_reducible refine gate_dst (N := 53) rfl ?_); refine goesB_ (some 53) rfl rfl HF.out HNM.out HBD.out #[.pointer (some ⟨g, 0, none⟩)] #[.pointer (some ⟨g, 0, none⟩)] rfl rfl (by simp) ?_; with_reducible refine (ReadsTo.calls HRD.out HB6.out GE_g.out (blk_below BK_g.out HMB5.out) HY.out HKY.out).mono ?_; rintro e w7 ⟨vS, vR, A7, c7, rfl, hS, hN, hb, hR⟩; refine ⟨_, rfl, ?_⟩; clear y06 hlk; obtain ⟨A_s, c_s, rfl⟩ := Kd.R_slice hS; obtain ⟨A_r, c_r, rfl⟩ := Kd.N_slice hN; have HS7 := Aside0.mk hS; have HN7 := Aside0.mk hN; have BG7 := Aside0.mk hb; have HB7 := Aside0.mk (hR.below HB6.out GE_g.out); have BR7 := Aside0.mk ((hR.block (blk_lt (blk_below (g := gr) BK_gr.out HMB5.out)) NB_gr_g.out).trans (blk_below (g := gr) BK_gr.out HMB5.out)); have LR7 := Aside0.mk (blk_lt (blk_below (g := gr) BK_gr.out HMB5.out)); clear hS hN hb hR; obtain ⟨hcg_0, hcg_1, hcg_2, hcg_3, hcg_4, hcg_5, hcg_6, hcg_7, hcg_8, hcg_9, hcg_10, hfg_0, hfg_1, hfg_2, hfg_3, hfg_4, hfg_5, hfg_6, hfg_7, hfg_8, hfg_9, hfg_10⟩ := cf11 BG7.out; obtain ⟨hcr_0, hcr_1, hcr_2, hcr_3, hcr_4, hcr_5, hcr_6, hcr_7, hcr_8, hfr_0, hfr_1, hfr_2, hfr_3, hfr_4, hfr_5, hfr_6, hfr_7, hfr_8⟩ := cf9 BR7.out) | (go_at_call 15; with_reducible refine (right_w HQ.out _ _ _ _ w7 (Kd.R_reads' HS7.out).2.2 (Kd.R_reads' HS7.out).2.1 (Kd.N_reads' HN7.out).2.2 (Kd.N_reads' HN7.out).2.1).mono ?_; rintro e w8 ⟨rfl, hb⟩; clear hcg_0 hfg_0 hcg_1 hfg_1 hcg_2 hfg_2 hcg_3 hfg_3 hcg_4 hfg_4 hcg_5 hfg_5 hcg_6 hfg_6 hcg_7 hfg_7 hcg_8 hfg_8 hcg_9 hfg_9 hcg_10 hfg_10 hcr_0 hfr_0 hcr_1 hfr_1 hcr_2 hfr_2 hcr_3 hfr_3 hcr_4 hfr_4 hcr_5 hfr_5 hcr_6 hfr_6 hcr_7 hfr_7 hcr_8 hfr_8; have BG8 := Aside0.mk (blk_below BG7.out hb); have BR8 := Aside0.mk (blk_below BR7.out hb); have HS8 := Aside0.mk (Kd.R_below HS7.out hb); have HN8 := Aside0.mk (Kd.N_below HN7.out hb); have HB8 := Aside0.mk (HB7.out.trans (hb.mono HB7.out.size)); clear hb; obtain ⟨hcg_0, hcg_1, hcg_2, hcg_3, hcg_4, hcg_5, hcg_6, hcg_7, hcg_8, hcg_9, hcg_10, hfg_0, hfg_1, hfg_2, hfg_3, hfg_4, hfg_5, hfg_6, hfg_7, hfg_8, hfg_9, hfg_10⟩ := cf11 BG8.out; obtain ⟨hcr_0, hcr_1, hcr_2, hcr_3, hcr_4, hcr_5, hcr_6, hcr_7, hcr_8, hfr_0, hfr_1, hfr_2, hfr_3, hfr_4, hfr_5, hfr_6, hfr_7, hfr_8⟩ := cf9 BR8.out))
  try simp only [Exit.inBlock, Exit.then]
  refine bodyPost_ret (results_ct rfl _ _ gr 27 #[.int .u8 m.k, .int .i64 m.ver, .int .u8 m.code, .int .u32 m.grp, .bool m.quiet, .int .u8 m.rob, .int .u8 m.every, .slice A_s m.srcs.length c_s, .slice A_r m.recs.length c_r] (0, 0) _ rfl (z9 BR8.out (.int .u8 m.k) (.int .i64 m.ver) (.int .u8 m.code) (.int .u32 m.grp) (.bool m.quiet) (.int .u8 m.rob) (.int .u8 m.every) (.slice A_s m.srcs.length c_s) (.slice A_r m.recs.length c_r)) Try.underlying27 rfl (by kernel_rfl)) rfl ?_
  refine ⟨_, _, rfl, ?_, ?_, l9 HB8.out GE_gr.out (.int .u8 m.k) (.int .i64 m.ver) (.int .u8 m.code) (.int .u32 m.grp) (.bool m.quiet) (.int .u8 m.rob) (.int .u8 m.every) (.slice A_s m.srcs.length c_s) (.slice A_r m.recs.length c_r)⟩
  · exact Kd.R_mono (Kd.R_lower (Kd.R_keep (Kd.R_mono (Kd.R_tight rfl HS8.out) (fun k hk => (by have := Kd.R_base HS8.out k hk.symm; have := LR7.out; omega : k ≠ gr))) (m9 w8 gr (.int .u8 m.k) (.int .i64 m.ver) (.int .u8 m.code) (.int .u32 m.grp) (.bool m.quiet) (.int .u8 m.rob) (.int .u8 m.every) (.slice A_s m.srcs.length c_s) (.slice A_r m.recs.length c_r)).keep (fun _ hk => hk)) HB6.out.size) (fun _ _ => trivial)
  · exact Kd.N_mono (Kd.N_lower (Kd.N_keep HN8.out (m9 w8 gr (.int .u8 m.k) (.int .i64 m.ver) (.int .u8 m.code) (.int .u32 m.grp) (.bool m.quiet) (.int .u8 m.rob) (.int .u8 m.every) (.slice A_s m.srcs.length c_s) (.slice A_r m.recs.length c_r)).keep (fun k hk => (by have := hk.2; have := LR7.out; omega : k ≠ gr))) HB6.out.size) (fun _ _ => trivial)
end Go.Proofs.Ytmmjmncchckbbaa
-- written by a program of this session (hprint.py), over the kit's printer
namespace Go.Proofs.Ytmmjmncchckbbaa.PIg
open Go.RowKit Go.Proofs.YtmmjmncchckbbaaW.PrintWords Go.Proofs.YtmmjmncchckbbaaW.PrintLast Go.Proofs.YtmmjmncchckbbaaW.PrintMore
attribute [local go_sem] max2_int min2_int max_two min_two max_three min_three max_four min_four   -- for this text's walks alone
set_option linter.unusedVariables false
set_option linter.unusedSimpArgs false

/-! ### stolonref01_Asked: function 22 -/
def stolonref01_Asked.f (a0 : Int) : Option (Bool) := if a0 ≥ 3758096640 then (some (decide (a0 ≤ 4026531839))) else (some false)
set_option maxHeartbeats 8000000 in
set_option maxRecDepth 100000 in
theorem stolonref01_Asked.calls (a0 : Int) (r : Bool) (w : World) (h : stolonref01_Asked.f a0 = some r) :
    Calls Try.prog 22 #[.int .u32 a0] w fun e w' => e = .returned (.bool r) ∧ Drawn0 w w' := by
  have H : (if a0 ≥ 3758096640 then (some (decide (a0 ≤ 4026531839))) else (some false)) = some r := h
  clear h
  by_cases c2 : a0 ≥ 3758096640
  · rw [if_pos c2] at H
    have c2b0 : decide (3758096640 ≤ a0) = true := decide_eq_true c2
    clear c2
    obtain rfl := Option.some.inj H
    go_enter Try.func22, Try.ntmps22
    go_wp2
    go_ret
    exact ⟨by first | rfl | (simp; done) | (simp [*]; done), by repeat (first | exact Drawn0.refl _ | apply Drawn0.step)⟩
  · rw [if_neg c2] at H
    have c2b0 : decide (3758096640 ≤ a0) = false := decide_eq_false c2
    clear c2
    obtain rfl := Option.some.inj H
    go_enter Try.func22, Try.ntmps22
    go_wp2
    go_ret
    exact ⟨by first | rfl | (simp; done) | (simp [*]; done), by repeat (first | exact Drawn0.refl _ | apply Drawn0.step)⟩

end Go.Proofs.Ytmmjmncchckbbaa.PIg
/-
  Which messages are right, which are the same: in plain words.
-/
namespace Go.Proofs.Ytmmjmncchckbbaa
open Go.RowKit Go.Proofs.YtmmjmncchckbbaaW.PrintWords Go.Proofs.Ytmmjmncchckbbaa.PIg
set_option linter.unusedVariables false
set_option linter.unusedSimpArgs false
deriving instance DecidableEq for S44
deriving instance DecidableEq for Msg
theorem rd_get {x : List Int} {i : Nat} (h : i < x.length) : rd x (i : Int) = x[i] := by
  rw [rd, Int.toNat_natCast, List.getD_eq_getElem?_getD, List.getElem?_eq_getElem h]; rfl
theorem rd44_get {x : List S44} {i : Nat} (h : i < x.length) : rd_T44 x (i : Int) = x[i] := by
  rw [rd_T44, Int.toNat_natCast, List.getD_eq_getElem?_getD, List.getElem?_eq_getElem h]; rfl
theorem wr1 {i : Nat} (h : i < 1000000000) : wrap64 ((i : Int) + 1) = ((i + 1 : Nat) : Int) := by
  rw [rw64 (by omega) (by omega)]; rfl
theorem addr_l0 (x y : List Int) (hxy : x.length = y.length) (hm : x.length ≤ 1000000) : ∀ (d i k : Nat), i + d = x.length → d < k → api_Addr.l0 k x y (x.length : Int) (i : Int) = some (decide (x.drop i = y.drop i))
  | 0, i, k + 1, h, _ => by
    unfold api_Addr.l0
    rw [if_neg (by omega), List.drop_eq_nil_of_le (by omega), List.drop_eq_nil_of_le (by omega)]; rfl
  | d + 1, i, k + 1, h, hk => by
    unfold api_Addr.l0
    rw [if_pos (by omega), if_pos (by omega), if_pos (by omega), if_pos (by omega), rd_get (by omega), rd_get (by omega : i < y.length), wr1 (by omega), addr_l0 x y hxy hm d (i + 1) k (by omega) (by omega),
      List.drop_eq_getElem_cons (by omega : i < x.length), List.drop_eq_getElem_cons (by omega : i < y.length)]
    by_cases he : x[i]'(by omega) = y[i]'(by omega)
    · rw [if_pos he]; exact congrArg some (decide_eq_decide.2 ⟨fun h => by rw [he, h], fun h => (List.cons.inj h).2⟩)
    · rw [if_neg he, decide_eq_false (fun h => he (List.cons.inj h).1)]
theorem addr_some {k : Nat} {x y : List Int} (hm : x.length ≤ 1000000) (hk : x.length < k) : api_Addr.f k x y = some (decide (x = y)) := by
  unfold api_Addr.f
  by_cases h : x.length = y.length
  · rw [if_pos (by omega)]
    have := addr_l0 x y h hm x.length 0 k (by omega) hk
    simpa using this
  · rw [if_neg (by omega), decide_eq_false (fun e => h (by rw [e]))]
theorem sameRec_some {k : Nat} {a b : S44} (hm : a.f2.length ≤ 1000000) (hk : a.f2.length < k) : igmp_sameRec.f k a.f0 a.f1 a.f2 b.f0 b.f1 b.f2 = some (decide (a = b)) := by
  obtain ⟨a0, a1, a2⟩ := a
  obtain ⟨b0, b1, b2⟩ := b
  unfold igmp_sameRec.f
  rw [addr_some hm hk]
  by_cases h0 : a0 = b0
  · by_cases h1 : a1 = b1
    · simp [h0, h1]
    · simp [h0, h1]
  · simp [h0]
/-- What a row of records needs. -/
def recK (l : List S44) : Nat := (l.map fun r => r.f2.length).sum + l.length
theorem recK_mem {l : List S44} {r : S44} (h : r ∈ l) : r.f2.length + 1 ≤ recK l := by
  induction l with
  | nil => simp at h
  | cons a l ih =>
    simp only [recK, List.map_cons, List.sum_cons, List.length_cons] at *
    rcases List.mem_cons.1 h with rfl | h
    · omega
    · have := ih h; omega
theorem rec_l0 (x y : List S44) (hxy : y.length = x.length) (hm : recK y ≤ 1000000) : ∀ (d i k : Nat), i + d = y.length → d + recK y < k → api_Record_36.l0 k x y (y.length : Int) (i : Int) = some (decide (y.drop i = x.drop i))
  | 0, i, k + 1, h, _ => by
    unfold api_Record_36.l0
    rw [if_neg (by omega), List.drop_eq_nil_of_le (by omega), List.drop_eq_nil_of_le (by omega)]; rfl
  | d + 1, i, k + 1, h, hk => by
    have hi : i < y.length := by omega
    have hr := recK_mem (List.getElem_mem hi)
    unfold api_Record_36.l0
    rw [if_pos (by omega), if_pos (by omega), if_pos (by omega), if_pos (by omega), rd44_get hi, rd44_get (by omega : i < x.length), sameRec_some (by omega) (by omega)]
    simp only [Option.bind_some]
    rw [wr1 (by have : y.length ≤ recK y := by unfold recK; omega
                omega), rec_l0 x y hxy hm d (i + 1) k (by omega) (by omega),
      List.drop_eq_getElem_cons hi, List.drop_eq_getElem_cons (by omega : i < x.length)]
    by_cases he : y[i]'hi = x[i]'(by omega)
    · rw [decide_eq_true he, if_pos rfl]; exact congrArg some (decide_eq_decide.2 ⟨fun h => by rw [he, h], fun h => (List.cons.inj h).2⟩)
    · rw [decide_eq_false he, if_neg (by decide), decide_eq_false (fun h => he (List.cons.inj h).1)]
theorem rec_some {k : Nat} {x y : List S44} (hm : recK x ≤ 1000000) (hk : x.length + recK x < k) : api_Record_36.f k x y 0 = some (decide (x = y)) := by
  unfold api_Record_36.f
  by_cases h : x.length = y.length
  · rw [if_pos (by omega)]
    have := rec_l0 y x h hm x.length 0 k (by omega) hk
    simpa using this
  · rw [if_neg (by omega), decide_eq_false (fun e => h (by rw [e]))]
/-- How much a message is. -/
def Msg.size (m : Msg) : Nat := m.srcs.length + 2 * recK m.recs
theorem same_some {K : Nat} (m n : Msg) (hm : m.size ≤ 1000000) (hk : m.size < K) :
    igmp_Same.f K m.k m.ver m.code m.grp m.quiet m.rob m.every m.srcs m.recs n.k n.ver n.code n.grp n.quiet n.rob n.every n.srcs n.recs = some (decide (m = n)) := by
  have hrl : m.recs.length ≤ recK m.recs := by unfold recK; omega
  have hsz : m.size = m.srcs.length + 2 * recK m.recs := rfl
  obtain ⟨a0, a1, a2, a3, a4, a5, a6, a7, a8⟩ := m
  obtain ⟨b0, b1, b2, b3, b4, b5, b6, b7, b8⟩ := n
  simp only at *
  unfold igmp_Same.f
  rw [addr_some (by omega) (by omega), rec_some (by omega) (by omega)]
  simp only [Msg.mk.injEq]
  by_cases h0 : a0 = b0
  · by_cases h1 : a1 = b1
    · by_cases h2 : a2 = b2
      · by_cases h3 : a3 = b3
        · by_cases h4 : a4 = b4
          · by_cases h5 : a5 = b5
            · by_cases h6 : a6 = b6
              · by_cases h7 : a7 = b7 <;> simp [*]
              · simp [*]
            · simp [*]
          · have : (a4 == b4) = false := by simp [h4]
            simp [*]
        · simp [*]
      · simp [*]
    · simp [*]
  · simp [*]
def askB (a : Int) : Bool := decide (3758096640 ≤ a ∧ a ≤ 4026531839)
theorem asked_some {a : Int} (h0 : 0 ≤ a) (h1 : a < 4294967296) : addr_IsAsked.f a = some (askB a) := by
  unfold addr_IsAsked.f addr_IsGroup.f addr_IsLocal.f
  simp only [Option.bind_some]
  by_cases hg : a / 268435456 = 14
  · rw [if_pos (by simp [hg])]
    simp only [askB, Option.some.injEq]
    by_cases hl : a / 256 = 14680064
    · rw [show (a / 256 == 14680064) = true from by simp [hl], decide_eq_false (by omega)]; rfl
    · rw [show (a / 256 == 14680064) = false from by simp [hl], decide_eq_true (by omega)]; rfl
  · rw [if_neg (by simp [hg]), askB, decide_eq_false (by omega)]
theorem refAsked_some (a : Int) : stolonref01_Asked.f a = some (askB a) := by
  unfold stolonref01_Asked.f askB
  by_cases h : a ≥ 3758096640
  · rw [if_pos h]; simp [h, show 3758096640 ≤ a from h]
  · rw [if_neg h, decide_eq_false (by omega)]
def recB (r : S44) : Bool := decide (1 ≤ r.f0) && decide (r.f0 ≤ 6) && askB r.f1 && decide (r.f2.length ≤ 64)
theorem record_some {r : S44} (h0 : 0 ≤ r.f1) (h1 : r.f1 < 4294967296) : igmp_record.f r.f0 r.f1 r.f2 = some (recB r) := by
  unfold igmp_record.f
  rw [asked_some h0 h1]
  by_cases a : r.f0 ≥ 1
  · by_cases b : r.f0 ≤ 6
    · rw [if_pos a, if_pos b]
      cases hk : askB r.f1
      · simp [recB, hk]
      · simp [recB, hk, a, b, show 1 ≤ r.f0 from a]; omega
    · rw [if_pos a, if_neg b]; simp [recB, b]
  · rw [if_neg a]; simp [recB, show ¬ 1 ≤ r.f0 from a]
theorem odd_l0 (x : List S44) (hr : ∀ r ∈ x, 0 ≤ r.f1 ∧ r.f1 < 4294967296) (hm : x.length ≤ 1000000) : ∀ (d i k : Nat), i + d = x.length → d < k → ∃ j : Int, api_Record_53.l0 k x (x.length : Int) (i : Int) = some j ∧ decide (j ≥ 0) = !(x.drop i).all recB
  | 0, i, k + 1, h, _ => by
    refine ⟨-1, ?_, ?_⟩
    · unfold api_Record_53.l0
      rw [if_neg (by omega)]
    · rw [List.drop_eq_nil_of_le (by omega)]; rfl
  | d + 1, i, k + 1, h, hk => by
    have hi : i < x.length := by omega
    have h2 := hr _ (List.getElem_mem hi)
    obtain ⟨j, hj, hj2⟩ := odd_l0 x hr hm d (i + 1) k (by omega) (by omega)
    unfold api_Record_53.l0 igmp_Right_1.f
    rw [if_pos (by omega), if_pos (by omega), if_pos (by omega), rd44_get hi, record_some h2.1 h2.2, wr1 (by omega), hj, List.drop_eq_getElem_cons hi]
    simp only [Option.bind_some, List.all_cons]
    cases hb : recB x[i]
    · exact ⟨i, by simp, by simp⟩
    · exact ⟨j, by simp, by simpa using hj2⟩
theorem odd_some {k : Nat} {x : List S44} (hr : ∀ r ∈ x, 0 ≤ r.f1 ∧ r.f1 < 4294967296) (hm : x.length ≤ 1000000) (hk : x.length < k) : api_Record_34.f k x 0 = some (!x.all recB) := by
  unfold api_Record_34.f api_Record_53.f
  obtain ⟨j, hj, hj2⟩ := odd_l0 x hr hm x.length 0 k (by omega) hk
  rw [show api_Record_53.l0 k x (x.length : Int) 0 = some j from hj]
  simp only [Option.bind_some, Option.some.injEq]
  simpa using hj2
def grpB (a : Int) : Bool := if a = 0 then true else askB a
/-- Is a query right? -/
def queryB (m : Msg) : Bool :=
  if m.ver = 1 then decide (m = ⟨17, 1, 0, 0, false, 0, 0, [], []⟩)
  else if m.ver = 2 then grpB m.grp && decide (m.code > 0) && decide (m = ⟨17, 2, m.code, m.grp, false, 0, 0, [], []⟩)
  else if m.ver = 3 then grpB m.grp && decide (m.rob ≤ 7) && decide (m.recs.length = 0) && decide (m.srcs.length ≤ 64) && (decide (m.grp ≠ 0) || decide (m.srcs.length = 0))
  else false
/-- Is a message right? -/
def rightB (m : Msg) : Bool :=
  if m.k = 17 then queryB m
  else if m.k = 18 ∨ m.k = 22 ∨ m.k = 23 then askB m.grp && decide (m = ⟨m.k, 0, 0, m.grp, false, 0, 0, [], []⟩)
  else if m.k = 34 then decide (m.recs.length ≤ 32) && m.recs.all recB && decide (m = ⟨m.k, 0, 0, 0, false, 0, 0, [], m.recs⟩)
  else false
theorem query_j {K : Nat} (m : Msg) (b : Bool) (hm : m.size ≤ 1000000) (hk : m.size < K) (hb : grpB m.grp = b) :
    igmp_query.j0 (K + 1) b m.k m.ver m.code m.grp m.quiet m.rob m.every m.srcs m.recs = some (queryB m) := by
  rw [igmp_query.j0, queryB]
  rw [hb]
  by_cases h1 : m.ver = 1
  · rw [if_pos h1, if_pos h1]
    have := same_some m ⟨17, 1, 0, 0, false, 0, 0, [], []⟩ hm hk
    simp only at this
    rw [this]; rfl
  · rw [if_neg h1, if_neg h1]
    by_cases h2 : m.ver = 2
    · rw [if_pos h2, if_pos h2]
      cases b
      · rfl
      · rw [if_pos rfl]
        by_cases hc : m.code > 0
        · rw [if_pos hc]
          have := same_some m ⟨17, 2, m.code, m.grp, false, 0, 0, [], []⟩ hm hk
          simp only at this
          rw [this]; simp [hc]
        · rw [if_neg hc]; simp [hc]
    · rw [if_neg h2, if_neg h2]
      by_cases h3 : m.ver = 3
      · rw [if_pos h3, if_pos h3]
        cases b
        · simp
        · rw [if_pos rfl]
          by_cases hr : m.rob ≤ 7
          · rw [if_pos hr]
            by_cases hl : m.recs.length = 0
            · rw [if_pos (by omega)]
              by_cases hs : m.srcs.length ≤ 64
              · rw [if_pos (by omega)]
                by_cases hg : m.grp = 0
                · rw [if_pos hg]
                  simp only [Option.some.injEq]
                  by_cases hz : m.srcs.length = 0
                  · simp [hr, hl, hs, hg, hz]
                  · simp [hr, hl, hs, hg, hz]
                · rw [if_neg hg]; simp [hr, hl, hs, hg]
              · rw [if_neg (by omega)]; simp [hs]
            · rw [if_neg (by omega)]; simp [hl]
          · rw [if_neg hr]; simp [hr]
      · rw [if_neg h3, if_neg h3]
theorem right_some {K : Nat} (m : Msg) (hg : 0 ≤ m.grp ∧ m.grp < 4294967296) (hr : ∀ r ∈ m.recs, 0 ≤ r.f1 ∧ r.f1 < 4294967296) (hm : m.size ≤ 1000000) (hk : m.size + 1 < K) :
    igmp_Right.f K m.k m.ver m.code m.grp m.quiet m.rob m.every m.srcs m.recs = some (rightB m) := by
  obtain ⟨K, rfl⟩ : ∃ K', K = K' + 1 := ⟨K - 1, by omega⟩
  have hrl : m.recs.length ≤ recK m.recs := by unfold recK; omega
  have hsz : m.size = m.srcs.length + 2 * recK m.recs := rfl
  unfold igmp_Right.f rightB
  by_cases h1 : m.k = 17
  · rw [if_pos h1, if_pos h1]
    unfold igmp_query.f
    by_cases h0 : m.grp = 0
    · rw [if_pos h0, query_j m true hm (by omega) (by rw [grpB, if_pos h0])]; rfl
    · rw [if_neg h0, asked_some hg.1 hg.2]
      simp only [Option.bind_some]
      rw [query_j m _ hm (by omega) (by rw [grpB, if_neg h0])]; rfl
  · rw [if_neg h1, if_neg h1]
    have hS := same_some (K := K) m ⟨m.k, 0, 0, m.grp, false, 0, 0, [], []⟩ hm (by omega)
    have hT := same_some (K := K) m ⟨m.k, 0, 0, 0, false, 0, 0, [], m.recs⟩ hm (by omega)
    simp only at hS hT
    have hj : ∀ b, (b = true ↔ (m.k = 18 ∨ m.k = 22 ∨ m.k = 23)) → igmp_Right.j0 (K + 1) m.k b m.k m.ver m.code m.grp m.quiet m.rob m.every m.srcs m.recs = some (if m.k = 18 ∨ m.k = 22 ∨ m.k = 23 then askB m.grp && decide (m = ⟨m.k, 0, 0, m.grp, false, 0, 0, [], []⟩)
        else if m.k = 34 then decide (m.recs.length ≤ 32) && m.recs.all recB && decide (m = ⟨m.k, 0, 0, 0, false, 0, 0, [], m.recs⟩) else false) := by
      intro b hb
      rw [igmp_Right.j0]
      by_cases h2 : m.k = 18 ∨ m.k = 22 ∨ m.k = 23
      · rw [if_pos h2, if_pos (hb.2 h2), asked_some hg.1 hg.2]
        simp only [Option.bind_some]
        cases ha : askB m.grp
        · simp
        · rw [if_pos rfl, hS]; simp
      · rw [if_neg h2, if_neg (fun h => h2 (hb.1 h))]
        by_cases h3 : m.k = 34
        · rw [if_pos h3, if_pos h3]
          by_cases h4 : m.recs.length ≤ 32
          · rw [if_pos (by omega), odd_some hr (by omega) (by omega), hT]
            simp only [Option.bind_some]
            cases ha : m.recs.all recB
            · simp
            · simp [h4]
          · rw [if_neg (by omega)]; simp [h4]
        · rw [if_neg h3, if_neg h3]
    by_cases h18 : m.k = 18
    · rw [if_pos h18, hj _ (by simp [h18])]
    · rw [if_neg h18]
      by_cases h22 : m.k = 22
      · rw [if_pos h22, hj _ (by simp [h22])]
      · rw [if_neg h22, hj _ (by simp [h18, h22])]
end Go.Proofs.Ytmmjmncchckbbaa
/-
  Sums, in plain numbers.
-/
namespace Go.Proofs.Ytmmjmncchckbbaa
open Go.RowKit Go.Proofs.YtmmjmncchckbbaaW.PrintWords Go.Proofs.Ytmmjmncchckbbaa.PIg

theorem putOf_len (l : List Int) (m : Nat) : (putOf l m).length = l.length := by simp [putOf, zeroed]
theorem wr64 {i : Int} (h0 : -9223372036854775808 ≤ i) (h1 : i ≤ 9223372036854775807) : wrap64 i = i := by unfold wrap64; omega
theorem tmod2_one (a : Int) (h : 0 ≤ a) : Int.tmod a 2 = a % 2 := Int.tmod_eq_emod_of_nonneg h
theorem rd_eq (l : List Int) (i : Int) : rd l i = l.getD i.toNat 0 := rfl

theorem get_byte {l : List Int} (hb : ∀ z ∈ l, 0 ≤ z ∧ z < 256) (i : Nat) : 0 ≤ l.getD i 0 ∧ l.getD i 0 < 256 := by
  rcases Nat.lt_or_ge i l.length with h | h
  · rw [List.getD_eq_getElem?_getD, List.getElem?_eq_getElem h]; exact hb _ (List.getElem_mem _)
  · rw [List.getD_eq_getElem?_getD, List.getElem?_eq_none h]; simp


theorem bsame_loop (a b : List Int) (hl : a.length = b.length) (hm : a.length ≤ 140737488351232) : ∀ (d k : Nat) (i : Nat), a.length - i = d → i ≤ a.length → d < k →
    stolonref01_Same.l0 k a b i = some (a.drop i == b.drop i) := by
  intro d
  induction d with
  | zero =>
    intro k i hd hi hk
    obtain ⟨k, rfl⟩ : ∃ m, k = m + 1 := ⟨k - 1, by omega⟩
    rw [stolonref01_Same.l0, if_neg (by omega), List.drop_eq_nil_of_le (by omega), List.drop_eq_nil_of_le (by omega)]
    rfl
  | succ d ih =>
    intro k i hd hi hk
    obtain ⟨k, rfl⟩ : ∃ m, k = m + 1 := ⟨k - 1, by omega⟩
    have e := ih k (i + 1) (by omega) (by omega) (by omega)
    rw [stolonref01_Same.l0, if_pos (by omega), if_pos (by omega), if_pos (by omega), wr64 (i := (i : Int) + 1) (by omega) (by omega)]
    have hx : (a.drop i == b.drop i) = (a[i]'(by omega) == b[i]'(by omega) && (a.drop (i + 1) == b.drop (i + 1))) := by
      rw [Bool.eq_iff_iff, Bool.and_eq_true, beq_iff_eq, beq_iff_eq, beq_iff_eq, List.drop_eq_getElem_cons (show i < a.length by omega), List.drop_eq_getElem_cons (show i < b.length by omega), List.cons.injEq]
    have g1 : rd a (i : Int) = a[i]'(by omega) := by simp [rd, List.getD_eq_getElem?_getD, List.getElem?_eq_getElem (show i < a.length by omega)]
    have g2 : rd b (i : Int) = b[i]'(by omega) := by simp [rd, List.getD_eq_getElem?_getD, List.getElem?_eq_getElem (show i < b.length by omega)]
    rw [g1, g2, hx]
    by_cases c : a[i]'(by omega) = b[i]'(by omega)
    · rw [if_pos c, show ((i : Int) + 1) = ((i + 1 : Nat) : Int) from by omega, e, beq_iff_eq.2 c]
      rfl
    · rw [if_neg c, beq_eq_false_iff_ne.2 c]
      rfl
theorem bsame_some (a b : List Int) (hm : a.length ≤ 140737488351232) (k : Nat) (hk : a.length < k) : stolonref01_Same.f k a b = some (a == b) := by
  unfold stolonref01_Same.f
  by_cases hl : a.length = b.length
  · rw [if_pos (by omega)]
    have := bsame_loop a b hl hm a.length k 0 (by omega) (by omega) hk
    simpa using this
  · rw [if_neg (by omega)]
    have : a ≠ b := fun h => hl (by rw [h])
    rw [beq_eq_false_iff_ne.2 this]
end Go.Proofs.Ytmmjmncchckbbaa
/-
  Messages, written and read, in plain words.
-/
namespace Go.Proofs.Ytmmjmncchckbbaa
open Go.RowKit Go.Proofs.YtmmjmncchckbbaaW.PrintWords Go.Proofs.YtmmjmncchckbbaaW.PrintLast Go.Proofs.YtmmjmncchckbbaaW.PrintMore Go.Proofs.Ytmmjmncchckbbaa.PIg
set_option linter.unusedVariables false
set_option linter.unusedSimpArgs false
def U32 (a : Int) : Prop := 0 ≤ a ∧ a < 4294967296
def U8 (a : Int) : Prop := 0 ≤ a ∧ a < 256
/-- The numbers of a record are of their kinds. -/
def RecOk (r : S44) : Prop := U8 r.f0 ∧ U32 r.f1 ∧ ∀ a ∈ r.f2, U32 a
/-- The numbers of a message are of their kinds. -/
structure Msg.Ok (m : Msg) : Prop where
  k : U8 m.k
  code : U8 m.code
  grp : U32 m.grp
  rob : U8 m.rob
  every : U8 m.every
  srcs : ∀ a ∈ m.srcs, U32 a
  recs : ∀ r ∈ m.recs, RecOk r
theorem ab_byt (a : Int) : Byt (ab a) := by
  intro z hz
  simp only [ab, List.mem_cons, List.not_mem_nil, or_false] at hz
  rcases hz with rfl | rfl | rfl | rfl <;> omega
theorem ab_len (a : Int) : (ab a).length = 4 := rfl
theorem or8_all : ∀ n : Fin 256, U8 (Go.bits .or .u8 (n.val : Int) 8) ∧ (n.val < 8 → Go.bits .or .u8 (n.val : Int) 8 = (n.val + 8 : Nat)) := by unfold U8; decide +kernel
theorem or8_u8 {x : Int} (h : U8 x) : U8 (Go.bits .or .u8 x 8) := by
  obtain ⟨h0, h1⟩ := h
  obtain ⟨n, rfl⟩ := Int.eq_ofNat_of_zero_le h0
  exact (or8_all ⟨n, by omega⟩).1
theorem or8 {x : Int} (h0 : 0 ≤ x) (h1 : x ≤ 7) : Go.bits .or .u8 x 8 = x + 8 := by
  obtain ⟨n, rfl⟩ := Int.eq_ofNat_of_zero_le h0
  refine ((or8_all ⟨n, by omega⟩).2 (by show n < 8; omega)).trans ?_
  show ((n + 8 : Nat) : Int) = _
  omega
theorem right_m {m : Msg} (h : m.Ok) (hs : m.size ≤ 1000000) : ∃ K, igmp_Right.f K m.k m.ver m.code m.grp m.quiet m.rob m.every m.srcs m.recs = some (rightB m) :=
  ⟨m.size + 2, right_some m h.grp (fun r hr => (h.recs r hr).2.1) hs (by omega)⟩
end Go.Proofs.Ytmmjmncchckbbaa
/-
  What is written is read; what is read is right, and as long as what is written of it.
-/
namespace Go.Proofs.Ytmmjmncchckbbaa
open Go.RowKit Go.Proofs.YtmmjmncchckbbaaW.PrintWords Go.Proofs.YtmmjmncchckbbaaW.PrintLast Go.Proofs.YtmmjmncchckbbaaW.PrintMore Go.Proofs.Ytmmjmncchckbbaa.PIg
set_option linter.unusedVariables false
set_option linter.unusedSimpArgs false
def Msg.tail (m : Msg) : List Int := (if m.k = 34 then [0, 0, 0, (m.recs.length : Int) % 256] ++ m.recs.flatMap rrow else ab m.grp) ++ (if m.ver = 3 then [if m.quiet then Go.bits .or .u8 m.rob 8 else m.rob, m.every] ++ wrow [] m.srcs else [])
def mb (m : Msg) : List Int := mbody m.k m.ver m.code m.grp m.quiet m.rob m.every m.srcs m.recs
theorem mb_eq (m : Msg) : mb m = m.k :: m.code :: 0 :: 0 :: m.tail := by
  simp only [mb, mbody, Msg.tail, List.cons_append, List.nil_append, List.append_assoc]
theorem byt_app {a b : List Int} (ha : Byt a) (hb : Byt b) : Byt (a ++ b) := fun z hz => (List.mem_append.1 hz).elim (ha z) (hb z)
theorem byt_cons {a : Int} {b : List Int} (ha : U8 a) (hb : Byt b) : Byt (a :: b) := fun z hz => by
  rcases List.mem_cons.1 hz with rfl | h
  · exact ha
  · exact hb z h
theorem byt_nil : Byt [] := fun z hz => by cases hz
theorem byt_flat {α : Type} {f : α → List Int} {l : List α} (h : ∀ a ∈ l, Byt (f a)) : Byt (l.flatMap f) := fun z hz => by
  obtain ⟨a, ha, hz⟩ := List.mem_flatMap.1 hz
  exact h a ha z hz
theorem u8_0 : U8 0 := by unfold U8; omega
theorem u8_mod (a : Int) : U8 (a % 256) := by unfold U8; omega
theorem wrow_byt {G L : List Int} (hG : Byt G) : Byt (wrow G L) :=
  byt_app (byt_app (byt_cons (u8_mod _) (byt_cons (u8_mod _) byt_nil)) hG) (byt_flat fun a _ => ab_byt a)
theorem mb_byt {m : Msg} (h : m.Ok) : Byt (mb m) := by
  rw [mb_eq]
  refine byt_cons h.k (byt_cons h.code (byt_cons u8_0 (byt_cons u8_0 (byt_app ?_ ?_))))
  · split
    · exact byt_app (byt_cons u8_0 (byt_cons u8_0 (byt_cons u8_0 (byt_cons (u8_mod _) byt_nil)))) (byt_flat fun r hr => byt_app (byt_cons (h.recs r hr).1 (byt_cons u8_0 byt_nil)) (wrow_byt (ab_byt _)))
    · exact ab_byt _
  · split
    · refine byt_cons ?_ (byt_cons h.every (wrow_byt byt_nil))
      split
      · exact or8_u8 h.rob
      · exact h.rob
    · exact byt_nil
/-- The kinds of right messages. -/
inductive RightV : Msg → Prop
  | q1 : RightV ⟨17, 1, 0, 0, false, 0, 0, [], []⟩
  | q2 (code grp : Int) (h : 0 < code) : RightV ⟨17, 2, code, grp, false, 0, 0, [], []⟩
  | q3 (code grp : Int) (quiet : Bool) (rob every : Int) (srcs : List Int) (hr : rob ≤ 7) (hs : srcs.length ≤ 64) : RightV ⟨17, 3, code, grp, quiet, rob, every, srcs, []⟩
  | pl (k grp : Int) (hk : k = 18 ∨ k = 22 ∨ k = 23) : RightV ⟨k, 0, 0, grp, false, 0, 0, [], []⟩
  | r3 (recs : List S44) (hl : recs.length ≤ 32) (ha : ∀ r ∈ recs, r.f2.length ≤ 64) : RightV ⟨34, 0, 0, 0, false, 0, 0, [], recs⟩
theorem right_view {m : Msg} (h : rightB m = true) : RightV m := by
  unfold rightB at h
  by_cases h1 : m.k = 17
  · rw [if_pos h1] at h
    unfold queryB at h
    by_cases v1 : m.ver = 1
    · rw [if_pos v1] at h
      rw [of_decide_eq_true h]; exact .q1
    rw [if_neg v1] at h
    by_cases v2 : m.ver = 2
    · rw [if_pos v2] at h
      simp only [Bool.and_eq_true, decide_eq_true_eq] at h
      rw [h.2]; exact .q2 _ _ (by have := h.1.2; omega)
    rw [if_neg v2] at h
    by_cases v3 : m.ver = 3
    · rw [if_pos v3] at h
      simp only [Bool.and_eq_true, decide_eq_true_eq] at h
      obtain ⟨k, ver, code, grp, quiet, rob, every, srcs, recs⟩ := m
      obtain rfl : k = 17 := h1
      obtain rfl : ver = 3 := v3
      obtain rfl : recs = [] := List.length_eq_zero_iff.1 h.1.1.2
      exact .q3 _ _ _ _ _ _ h.1.1.1.2 h.1.2
    rw [if_neg v3] at h; cases h
  rw [if_neg h1] at h
  by_cases h2 : m.k = 18 ∨ m.k = 22 ∨ m.k = 23
  · rw [if_pos h2] at h
    simp only [Bool.and_eq_true, decide_eq_true_eq] at h
    rw [h.2]; exact .pl _ _ h2
  rw [if_neg h2] at h
  by_cases h3 : m.k = 34
  · rw [if_pos h3] at h
    simp only [Bool.and_eq_true, decide_eq_true_eq] at h
    rw [h.2, h3]
    refine .r3 _ h.1.1 fun r hr => ?_
    have := List.all_eq_true.1 h.1.2 r hr
    unfold recB at this
    simp only [Bool.and_eq_true, decide_eq_true_eq] at this
    exact this.2
  rw [if_neg h3] at h; cases h
theorem tail_len {m : Msg} (h : RightV m) : m.tail.length + 4 = (if m.ver = 3 then 12 + 4 * m.srcs.length else 8) + (m.recs.flatMap rrow).length := by
  cases h with
  | q1 => rfl
  | q2 => rfl
  | q3 code grp quiet rob every srcs hr hs =>
    show (ab grp ++ ([_, _] ++ ([_, _] ++ [] ++ srcs.flatMap ab))).length + 4 = 12 + 4 * srcs.length + 0
    simp only [List.length_append, List.length_cons, List.length_nil, flat_len, ab_len]; omega
  | pl k grp hk =>
    have : ¬ k = 34 := by omega
    simp [Msg.tail, this, ab_len]
  | r3 recs hl ha =>
    show ([0, 0, 0, _] ++ recs.flatMap rrow ++ []).length + 4 = 8 + _
    simp only [List.length_append, List.length_cons, List.length_nil]; omega
theorem mb_len {m : Msg} (h : RightV m) : (mb m).length = (if m.ver = 3 then 12 + 4 * m.srcs.length else 8) + (m.recs.flatMap rrow).length := by
  rw [mb_eq, ← tail_len h]; simp only [List.length_cons]
theorem mb_8 {m : Msg} (h : RightV m) : 8 ≤ (mb m).length := by rw [mb_len h]; split <;> omega
theorem mb_max {m : Msg} (h : RightV m) : (mb m).length ≤ 10000 := by
  rw [mb_len h]
  cases h with
  | q1 => show 8 + 0 ≤ 10000; omega
  | q2 => show 8 + 0 ≤ 10000; omega
  | q3 code grp quiet rob every srcs hr hs => simp; omega
  | pl k grp hk => simp
  | r3 recs hl ha =>
    have : (recs.flatMap rrow).length ≤ recs.length * 264 := by
      clear hl
      induction recs with
      | nil => simp
      | cons r L ih =>
        rw [List.flatMap_cons, List.length_append, rrow_long, List.length_cons]
        have := ih fun x hx => ha x (List.mem_cons_of_mem _ hx)
        have := ha r List.mem_cons_self
        omega
    show 8 + (recs.flatMap rrow).length ≤ 10000; omega
def enc (m : Msg) : List Int := putOf (mb m) 2
theorem enc_len {m : Msg} : (enc m).length = (mb m).length := putOf_len _ _
end Go.Proofs.Ytmmjmncchckbbaa
/-
  The document's sums and rows of bytes, in plain numbers.
-/
namespace Go.Proofs.Ytmmjmncchckbbaa
open Go.RowKit Go.Proofs.YtmmjmncchckbbaaW.PrintWords Go.Proofs.YtmmjmncchckbbaaW.PrintLast Go.Proofs.Ytmmjmncchckbbaa.PIg
set_option linter.unusedVariables false
set_option linter.unusedSimpArgs false
theorem refJoin_some {x y : Int} (h0 : 0 ≤ x) (h1 : x < 65536) (h2 : 0 ≤ y) (h3 : y < 65536) : stolonref02_Join.f x y = some (joinW x y) := by
  unfold stolonref02_Join.f joinW
  rw [wr64 (i := x) (by omega) (by omega), wr64 (i := y) (by omega) (by omega), wr64 (i := x + y) (by omega) (by omega), wr64 (i := x + y - 65536) (by omega) (by omega), wr64 (by omega) (by omega)]
  by_cases c : x + y ≥ 65536
  · rw [if_pos c, if_neg (by omega), wraps_u16 _ (by omega) (by omega)]; congr 1; omega
  · rw [if_neg c, if_pos (by omega), wraps_u16 _ (by omega) (by omega)]

theorem refOf_loop (l : List Int) (hb : ∀ z ∈ l, 0 ≤ z ∧ z < 256) (hl : l.length ≤ 1000000) : ∀ (d k j : Nat) (s : Int), 0 ≤ s → s < 65536 → (l.length + 1) / 2 - j = d → d < k →
    stolonref02_Of.l0 k l s ((2 * j : Nat) : Int) = some (65535 - ((List.range ((l.length + 1) / 2)).drop j).foldl (fun s k => joinW s (wordAt l k)) s) := by
  intro d
  induction d with
  | zero =>
    intro k j s h0 h1 hd hk
    obtain ⟨k, rfl⟩ : ∃ m, k = m + 1 := ⟨k - 1, by omega⟩
    rw [stolonref02_Of.l0, if_neg (by omega), List.drop_of_length_le (by simp; omega), List.foldl_nil, wraps_u16 _ (by omega) (by omega)]
  | succ d ih =>
    intro k j s h0 h1 hd hk
    obtain ⟨k, rfl⟩ : ∃ m, k = m + 1 := ⟨k - 1, by omega⟩
    have g0 := get_byte hb (2 * j)
    have g1 := get_byte hb (2 * j + 1)
    have hw := wordAt_range l hb j
    have hj := joinW_range h0 h1 hw.1 hw.2
    have e := ih k (j + 1) (joinW s (wordAt l j)) hj.1 hj.2 (by omega) (by omega)
    rw [List.drop_eq_getElem_cons (by simp; omega), List.foldl_cons, List.getElem_range, ← e]
    have i1 : wrap64 (((2 * j : Nat) : Int) + 1) = ((2 * j + 1 : Nat) : Int) := by rw [wr64 (by omega) (by omega)]; omega
    have i2 : wrap64 (((2 * j : Nat) : Int) + 2) = ((2 * (j + 1) : Nat) : Int) := by rw [wr64 (by omega) (by omega)]; omega
    rw [stolonref02_Of.l0, if_pos (by omega), if_pos (by omega), i1, i2, rd_eq, rd_eq, Int.toNat_natCast, Int.toNat_natCast]
    rw [wr64 (i := l.getD (2 * j) 0) (by omega) (by omega), wr64 (i := l.getD (2 * j + 1) 0) (by omega) (by omega), wr64 (i := l.getD (2 * j) 0 * 256) (by omega) (by omega), wr64 (by omega) (by omega)]
    by_cases c : 2 * j + 1 < l.length
    · have hwe : wordAt l j = l.getD (2 * j) 0 * 256 + l.getD (2 * j + 1) 0 := by unfold wordAt; rw [if_pos c]
      rw [if_pos (by omega), if_pos (by omega), ← hwe, wraps_u16 _ hw.1 hw.2, refJoin_some h0 h1 hw.1 hw.2]
      rfl
    · have hwe : wordAt l j = l.getD (2 * j) 0 * 256 := by unfold wordAt; rw [if_neg c]; omega
      rw [if_neg (by omega), ← hwe, wraps_u16 _ hw.1 hw.2, refJoin_some h0 h1 hw.1 hw.2]
      rfl

theorem refOf_some (l : List Int) (hb : ∀ z ∈ l, 0 ≤ z ∧ z < 256) (hl : l.length ≤ 1000000) (k : Nat) (hk : l.length < k) : stolonref02_Of.f k l = some (sumOf l) := by
  unfold stolonref02_Of.f
  exact refOf_loop l hb hl ((l.length + 1) / 2) k 0 0 (by omega) (by omega) (by omega) (by omega)

theorem zeroed_get (l : List Int) (m i : Nat) (hi : i < l.length) : (zeroed l m).getD i 0 = if i = m ∨ i = m + 1 then 0 else l.getD i 0 := by
  unfold zeroed
  have hz : i < ((l.set m 0).set (m + 1) 0).length := by simp; exact hi
  rw [List.getD_eq_getElem?_getD, List.getElem?_eq_getElem hz, List.getD_eq_getElem?_getD, List.getElem?_eq_getElem hi]
  rw [List.getElem_set, List.getElem_set]
  by_cases c : m = i
  · subst c; simp
  · by_cases c' : m + 1 = i
    · subst c'; simp
    · rw [if_neg c', if_neg c, if_neg (by omega)]

theorem refPut_loop (l : List Int) (m : Nat) (hb : ∀ z ∈ l, 0 ≤ z ∧ z < 256) (hl : l.length ≤ 1000000) (hm : m + 2 ≤ l.length) : ∀ (d k i : Nat), l.length - i = d → i ≤ l.length → d + 1000001 < k →
    stolonref02_Put.l0 k l m ((zeroed l m).take i) i = some (putOf l m, 0) := by
  intro d
  have zl := zeroed_len l m
  have zb := zeroed_byte l m hb
  have hs := sumOf_range (zeroed l m) zb
  have e1 : wrap64 ((m : Int) + 1) = ((m + 1 : Nat) : Int) := by rw [wr64 (by omega) (by omega)]; omega
  induction d with
  | zero =>
    intro k i hd hi hk
    obtain ⟨k, rfl⟩ : ∃ m, k = m + 1 := ⟨k - 1, by omega⟩
    rw [stolonref02_Put.l0, if_neg (by omega), List.take_of_length_le (by omega), refOf_some _ zb (by omega) _ (by omega), Option.bind_some, e1, if_pos (by omega), if_pos (by omega), if_pos (by omega), if_pos (by omega)]
    rw [Int.toNat_natCast, Int.toNat_natCast, Int.tdiv_eq_ediv_of_nonneg hs.1, Int.tmod_eq_emod_of_nonneg hs.1, wraps_u16 _ (by omega) (by omega), show sumOf (zeroed l m) / 256 % 256 = sumOf (zeroed l m) / 256 from by omega, show sumOf (zeroed l m) % 256 % 256 = sumOf (zeroed l m) % 256 from by omega]
    rfl
  | succ d ih =>
    intro k i hd hi hk
    obtain ⟨k, rfl⟩ : ∃ m, k = m + 1 := ⟨k - 1, by omega⟩
    have hlt : i < l.length := by omega
    have e2 : wrap64 ((i : Int) + 1) = ((i + 1 : Nat) : Int) := by rw [wr64 (by omega) (by omega)]; omega
    have e3 := ih k (i + 1) (by omega) (by omega) (by omega)
    have g := zeroed_get l m i hlt
    have hz : i < (zeroed l m).length := by omega
    rw [List.take_succ_eq_append_getElem hz, show (zeroed l m)[i] = (zeroed l m).getD i 0 from by rw [List.getD_eq_getElem?_getD, List.getElem?_eq_getElem hz]; rfl, g] at e3
    have hn : ((zeroed l m).take i).length < 140737488355328 := by simp; omega
    rw [stolonref02_Put.l0, if_pos (by omega), e1, e2]
    by_cases c : i = m
    · rw [if_pos (by omega), if_pos hn, ← e3, if_pos (.inl c)]
    · by_cases c' : i = m + 1
      · rw [if_neg (by omega), if_pos (by omega), if_pos hn, ← e3, if_pos (.inr c')]
      · rw [if_neg (by omega), if_neg (by omega), if_pos (by omega), if_pos hn, ← e3, if_neg (by omega)]
        rfl

theorem refPut_some (l : List Int) (a : Int) (hb : ∀ z ∈ l, 0 ≤ z ∧ z < 256) (hl : l.length ≤ 1000000) (ha : -9223372036854775808 ≤ a ∧ a ≤ 9223372036854775807) (k : Nat) (hk : l.length + 1000005 < k) :
    stolonref02_Put.f k l a = some (if a < 0 ∨ a % 2 ≠ 0 ∨ (l.length : Int) - 2 < a then ([], 1) else (putOf l a.toNat, 0)) := by
  obtain ⟨k, rfl⟩ : ∃ m, k = m + 1 := ⟨k - 1, by omega⟩
  have no : stolonref02_Put.j0 (k + 1) l a true = some ([], 1) := by rw [stolonref02_Put.j0, if_pos rfl]
  unfold stolonref02_Put.f
  by_cases c1 : a < 0
  · rw [if_pos c1, no, if_pos (.inl c1)]
  · rw [if_neg c1, tmod2_one a (by omega)]
    by_cases c2 : a % 2 = 1
    · rw [if_pos c2, no, if_pos (.inr (.inl (by omega)))]
    · rw [if_neg c2, wr64 (by omega) (by omega)]
      by_cases c3 : a > (l.length : Int) - 2
      · rw [decide_eq_true c3, no, if_pos (.inr (.inr (by omega)))]
      · rw [decide_eq_false c3, if_neg (by omega), stolonref02_Put.j0, if_neg (by decide)]
        obtain ⟨m, rfl⟩ := Int.eq_ofNat_of_zero_le (show 0 ≤ a by omega)
        exact refPut_loop l m hb hl (by omega) l.length k 0 (by omega) (by omega) (by omega)
theorem refBytes_some {a : Int} (h : U32 a) : stolonref01_Bytes.f a = some (ab a) := by
  have h0 := h.1; have h1 := h.2
  unfold stolonref01_Bytes.f ab
  rw [Int.tdiv_eq_ediv_of_nonneg h0, Int.tdiv_eq_ediv_of_nonneg h0, Int.tdiv_eq_ediv_of_nonneg h0, Int.tmod_eq_emod_of_nonneg h0]
  have e1 : a / 16777216 % 4294967296 % 256 = a / 16777216 % 256 := by omega
  have e2 : a / 65536 % 4294967296 % 256 = a / 65536 % 256 := by omega
  have e3 : a / 256 % 4294967296 % 256 = a / 256 % 256 := by omega
  have e4 : a % 256 % 256 = a % 256 := by omega
  rw [e1, e2, e3, e4]
theorem rows_l0_some (L : List Int) (hL : ∀ a ∈ L, U32 a) (hl : L.length ≤ 1000000) : ∀ (d k i : Nat) (x : List Int), i + d = L.length → d < k → x.length + 4 * d ≤ 100000000 → stolonref05_rows.l0 k x L (i : Int) = some (x ++ (L.drop i).flatMap ab)
  | 0, k, i, x, hi, hk, hx => by
    obtain ⟨k, rfl⟩ : ∃ m, k = m + 1 := ⟨k - 1, by omega⟩
    rw [stolonref05_rows.l0, if_neg (by omega), List.drop_of_length_le (by omega), List.flatMap_nil, List.append_nil]
  | d + 1, k, i, x, hi, hk, hx => by
    obtain ⟨k, rfl⟩ : ∃ m, k = m + 1 := ⟨k - 1, by omega⟩
    have hlt : i < L.length := by omega
    have e2 : wrap64 ((i : Int) + 1) = ((i + 1 : Nat) : Int) := by rw [wr64 (by omega) (by omega)]; omega
    have eg : rd L (i : Int) = L[i] := by rw [rd_eq, Int.toNat_natCast, List.getD_eq_getElem?_getD, List.getElem?_eq_getElem hlt]; rfl
    rw [stolonref05_rows.l0, if_pos (by omega), if_pos (by omega), eg, refBytes_some (hL _ (List.getElem_mem hlt)), Option.bind_some, if_pos (by rw [ab_len]; omega), e2]
    rw [rows_l0_some L hL hl d k (i + 1) (x ++ ab L[i]) (by omega) (by omega) (by rw [List.length_append, ab_len]; omega)]
    rw [List.drop_eq_getElem_cons hlt, List.flatMap_cons, List.append_assoc]
theorem rows_some' {x G L : List Int} (hL : ∀ a ∈ L, U32 a) (hl : L.length ≤ 1000000) (hx : x.length + G.length ≤ 10000000) : stolonref05_rows.f (L.length + 1) x G L = some (x ++ wrow G L) := by
  unfold stolonref05_rows.f
  rw [Option.bind_some, if_pos (by simp; omega), Option.bind_some, if_pos (by simp; omega)]
  have h := rows_l0_some L hL hl L.length (L.length + 1) 0 (x ++ [(wrap64 ((L.length : Int) / 256)) % 256, (L.length : Int) % 256] ++ G) (by omega) (by omega) (by simp; omega)
  have e : wrap64 ((L.length : Int) / 256) = (L.length : Int) / 256 := wr64 (by omega) (by omega)
  rw [e] at h ⊢
  refine h.trans ?_
  simp only [wrow, List.drop_zero, List.append_assoc]
end Go.Proofs.Ytmmjmncchckbbaa
/-
  Which messages are short, in plain words.
-/
namespace Go.Proofs.Ytmmjmncchckbbaa
open Go.RowKit Go.Proofs.YtmmjmncchckbbaaW.PrintWords Go.Proofs.Ytmmjmncchckbbaa.PIg
set_option linter.unusedVariables false
set_option linter.unusedSimpArgs false
def srcN (l : List S44) : Nat := (l.map fun r => r.f2.length).sum
def Msg.few (m : Msg) : Nat := m.srcs.length + m.recs.length + srcN m.recs
def fewB (m : Msg) : Bool := decide (m.few ≤ 3000)
theorem few_l0 (x : List S44) (hs : ∀ r ∈ x, r.f2.length ≤ 140737488351232) (hx : x.length ≤ 140737488351232) (a b c e : Int) (q : Bool) (f g : Int) (s : List Int) : ∀ (d i k : Nat) (n : Nat), i + d = x.length → d < k → n ≤ 281474976710656 → stolonref05_Few.l0 k (n : Int) (i : Int) a b c e q f g s x = some (decide (n + srcN (x.drop i) ≤ 3000))
  | 0, i, k + 1, n, h, _, _ => by
    unfold stolonref05_Few.l0
    rw [if_neg (by omega), List.drop_eq_nil_of_le (by omega)]
    simp [srcN]; omega
  | d + 1, i, k + 1, n, h, hk, hn => by
    have hi : i < x.length := by omega
    have hr := hs _ (List.getElem_mem hi)
    unfold stolonref05_Few.l0
    have e1 : x.drop i = x[i] :: x.drop (i + 1) := List.drop_eq_getElem_cons hi
    have e2 : srcN (x.drop i) = x[i].f2.length + srcN (x.drop (i + 1)) := by rw [e1]; rfl
    rw [if_pos (by omega)]
    by_cases h3 : n ≤ 3000
    · rw [if_pos (by omega), if_pos (by omega), rd44_get hi]
      rw [show wrap64 ((n : Int) + (x[i].f2.length : Int)) = ((n + x[i].f2.length : Nat) : Int) by rw [rw64 (by omega) (by omega)]; omega,
        show wrap64 ((i : Int) + 1) = ((i + 1 : Nat) : Int) by rw [rw64 (by omega) (by omega)]; rfl,
        few_l0 x hs hx a b c e q f g s d (i + 1) k (n + x[i].f2.length) (by omega) (by omega) (by omega), e2, Nat.add_assoc]
    · rw [if_neg (by omega), decide_eq_false (by omega), decide_eq_false (by omega)]
theorem few_some {k : Nat} (m : Msg) (hs : m.srcs.length ≤ 140737488351232) (hr : m.recs.length ≤ 140737488351232) (hrr : ∀ r ∈ m.recs, r.f2.length ≤ 140737488351232) (hk : m.recs.length < k) :
    stolonref05_Few.f k m.k m.ver m.code m.grp m.quiet m.rob m.every m.srcs m.recs = some (fewB m) := by
  unfold stolonref05_Few.f fewB Msg.few
  rw [show wrap64 ((m.srcs.length : Int) + (m.recs.length : Int)) = ((m.srcs.length + m.recs.length : Nat) : Int) by rw [rw64 (by omega) (by omega)]; omega]
  exact few_l0 m.recs hrr hr m.k m.ver m.code m.grp m.quiet m.rob m.every m.srcs m.recs.length 0 k _ (by omega) hk (by omega)
theorem few_size {m : Msg} (h : fewB m = true) : m.size ≤ 6000 := by
  have := of_decide_eq_true h
  unfold Msg.few srcN at this
  unfold Msg.size recK
  omega
end Go.Proofs.Ytmmjmncchckbbaa
