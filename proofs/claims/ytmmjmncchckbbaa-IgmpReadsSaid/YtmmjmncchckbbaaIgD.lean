/-
  igmp.Decode, walked.
-/
import Derived.Test.YtmmjmncchckbbaaIgA
import Derived.Test.YtmmjmncchckbbaaIgB
namespace Go.Proofs.Ytmmjmncchckbbaa
open Go.RowKit Go.Proofs.YtmmjmncchckbbaaW.PrintWords Go.Proofs.YtmmjmncchckbbaaW.PrintLast Go.Proofs.YtmmjmncchckbbaaW.PrintMore Go.Proofs.Ytmmjmncchckbbaa.PIg
set_option linter.unusedVariables false
set_option linter.unusedSimpArgs false
theorem z9 {w : World} {g : Nat} {a0 a1 a2 a3 a4 a5 a6 a7 a8 : Value} (h : w.heap[g]? = some (.cells #[a0, a1, a2, a3, a4, a5, a6, a7, a8] 27 (0, 0))) (b0 b1 b2 b3 b4 b5 b6 b7 b8 : Value) : ((((((((((w.setCell ⟨g, 0, none⟩ b0).setCell ⟨g, 1, none⟩ b1).setCell ⟨g, 2, none⟩ b2).setCell ⟨g, 3, none⟩ b3).setCell ⟨g, 4, none⟩ b4).setCell ⟨g, 5, none⟩ b5).setCell ⟨g, 6, none⟩ b6).setCell ⟨g, 7, none⟩ b7).setCell ⟨g, 8, none⟩ b8)).heap[g]? = some (.cells #[b0, b1, b2, b3, b4, b5, b6, b7, b8] 27 (0, 0)) := (blk_put (cs := #[b0, b1, b2, b3, b4, b5, b6, b7, a8]) (blk_put (cs := #[b0, b1, b2, b3, b4, b5, b6, a7, a8]) (blk_put (cs := #[b0, b1, b2, b3, b4, b5, a6, a7, a8]) (blk_put (cs := #[b0, b1, b2, b3, b4, a5, a6, a7, a8]) (blk_put (cs := #[b0, b1, b2, b3, a4, a5, a6, a7, a8]) (blk_put (cs := #[b0, b1, b2, a3, a4, a5, a6, a7, a8]) (blk_put (cs := #[b0, b1, a2, a3, a4, a5, a6, a7, a8]) (blk_put (cs := #[b0, a1, a2, a3, a4, a5, a6, a7, a8]) (blk_put (cs := #[a0, a1, a2, a3, a4, a5, a6, a7, a8]) h 0 b0 rfl) 1 b1 rfl) 2 b2 rfl) 3 b3 rfl) 4 b4 rfl) 5 b5 rfl) 6 b6 rfl) 7 b7 rfl) 8 b8 rfl)
theorem m9 (w : World) (g : Nat) (b0 b1 b2 b3 b4 b5 b6 b7 b8 : Value) : RM w (((((((((w.setCell ⟨g, 0, none⟩ b0).setCell ⟨g, 1, none⟩ b1).setCell ⟨g, 2, none⟩ b2).setCell ⟨g, 3, none⟩ b3).setCell ⟨g, 4, none⟩ b4).setCell ⟨g, 5, none⟩ b5).setCell ⟨g, 6, none⟩ b6).setCell ⟨g, 7, none⟩ b7).setCell ⟨g, 8, none⟩ b8) g := ((((((((((RM.of_below (g := g) (Below.refl w.heap.size w)).set 0 b0).set 1 b1).set 2 b2).set 3 b3).set 4 b4).set 5 b5).set 6 b6).set 7 b7).set 8 b8)
theorem l9 {w0 w : World} {g : Nat} (hb : Below w0.heap.size w0 w) (hg : w0.heap.size ≤ g) (b0 b1 b2 b3 b4 b5 b6 b7 b8 : Value) : Below w0.heap.size w0 (((((((((w.setCell ⟨g, 0, none⟩ b0).setCell ⟨g, 1, none⟩ b1).setCell ⟨g, 2, none⟩ b2).setCell ⟨g, 3, none⟩ b3).setCell ⟨g, 4, none⟩ b4).setCell ⟨g, 5, none⟩ b5).setCell ⟨g, 6, none⟩ b6).setCell ⟨g, 7, none⟩ b7).setCell ⟨g, 8, none⟩ b8) := (below_set (below_set (below_set (below_set (below_set (below_set (below_set (below_set (below_set hb hg) hg) hg) hg) hg) hg) hg) hg) hg)
theorem ReadsTo.calls {f : Nat} {k code : Int} {bs : List Int} {r : Msg × List Int × Bool} (h : ReadsTo f k code bs r) {w0 w : World} {g : Nat} {A : Option Addr} {c : Nat} (h1 : Below w0.heap.size w0 w) (h2 : w0.heap.size ≤ g) (h3 : w.heap[g]? = some (.cells #[.slice A bs.length c, .int .u8 k, .int .i64 0, .int .u8 code, .int .u32 0, .bool false, .int .u8 0, .int .u8 0, .slice none 0 0, .slice none 0 0, .bool false] 66 (0, 0))) (h4 : Kd.C (Kd.int .u8) w0 A bs.length bs) (h5 : bs.length ≤ c) :
    Calls Try.prog f #[.pointer (some ⟨g, 0, none⟩)] w fun e w' => ∃ vS vR A2 c2, e = .returned (.tuple #[]) ∧ Kd.R (Kd.int .u32) 23 w' w.heap.size (fun k => k ≠ g) vS r.1.srcs ∧ Kd.N k44 44 w' w.heap.size (fun k => k ≠ g ∧ w.heap.size ≤ k) vR r.1.recs ∧ w'.heap[g]? = some (.cells #[.slice A2 r.2.1.length c2, .int .u8 r.1.k, .int .i64 r.1.ver, .int .u8 r.1.code, .int .u32 r.1.grp, .bool r.1.quiet, .int .u8 r.1.rob, .int .u8 r.1.every, vS, vR, .bool r.2.2] 66 (0, 0)) ∧ RM w w' g := h w0 w g A c h1 h2 h3 h4 h5
/-- What is told of Decode: the message m, the number er. -/
def DecP (w : World) (m : Msg) (er : Int) (e : Ending) (w' : World) : Prop :=
  ∃ vS vR, e = .returned (.tuple #[.agg (m.vals vS vR), .int .i64 er]) ∧ Kd.R (Kd.int .u32) 23 w' w.heap.size (fun _ => True) vS m.srcs ∧ Kd.N k44 44 w' w.heap.size (fun _ => True) vR m.recs ∧ Below w.heap.size w w'
theorem decP_0 {w w' : World} (er : Int) (h : Below w.heap.size w w') : DecP w msg0 er (.returned (.tuple #[.agg #[.int .u8 0, .int .i64 0, .int .u8 0, .int .u32 0, .bool false, .int .u8 0, .int .u8 0, .slice none 0 0, .slice none 0 0], .int .i64 er])) w' :=
  ⟨.slice none 0 0, .slice none 0 0, rfl, Kd.R_nil _ _ _ _ _, Kd.N_nil _ _ _ _ _, h⟩
def es6 (p : Value) : Array MapEntry := (((((#[] : Array MapEntry).push ⟨.int .u8 17, .func (.func 41) #[p] #[], 0⟩).push ⟨.int .u8 18, .func (.func 42) #[p] #[], 0 + 1⟩).push ⟨.int .u8 22, .func (.func 42) #[p] #[], 0 + 1 + 1⟩).push ⟨.int .u8 23, .func (.func 42) #[p] #[], 0 + 1 + 1 + 1⟩).push ⟨.int .u8 34, .func (.func 43) #[p] #[], 0 + 1 + 1 + 1 + 1⟩
def dec_T : Bool × List (List Nat × List Nat) := (true, [([], []), ([0], [0]), ([], []), ([2], [2]), ([3], [3]), ([], []), ([5], [5]), ([6], [6]), ([4, 7], [4, 7]), ([1, 8], [1, 8]), ([9], [9]), ([10, 0, 1, 2, 3, 4, 5, 6, 7, 8, 9, 10], [10])])
def dec_B : List Nat := [0, 1, 0, 4, 12, 0, 32, 96, 252, 511, 1023, 2047]
theorem dec_t : rtab .any (opsOf Try.f20 5) = dec_T := by kernel_rfl
theorem dec_b : waitsOk dec_T.2 dec_B = true := by kernel_rfl
set_option maxHeartbeats 8000000 in
set_option maxRecDepth 100000 in
theorem dec_few {l : List Int} (hl : l.length < 8) (A : Option Addr) (c : Nat) (w : World) (hr : Kd.C (Kd.int .u8) w A l.length l) (hc : l.length ≤ c) :
    Calls Try.prog 20 #[.slice A l.length c] w (DecP w msg0 3) := by
  have hu27 := Try.underlying27
  have hu66 : Try.prog.underlying 66 = _ := Try.underlying66
  have HB := Aside0.mk (Below.refl w.heap.size w)
  have HC_l := Aside0.mk hr
  have HK_l := Aside0.mk hc
  clear hr hc
  have hd8 : decide ((l.length : Int) < 8) = true := decide_eq_true (by omega)
  go_enter Try.func20, Try.ntmps20
  go_wp2_with (first | ((with_reducible refine gate_dst (N := 2) rfl ?_); (try (refine gate_guard (by rfl) ?_; dsimp only)); refine box_event ?hg (N := 2) ?hd (cs := #[.int .u8 0, .int .i64 0, .int .u8 0, .int .u32 0, .bool false, .int .u8 0, .int .u8 0, .slice none 0 0, .slice none 0 0]) (t := 27) ?hr ?_; (case hd => rfl); (case hg => rfl); (case hr => first | (go_simp; done) | (go_simp; rfl)); intro gr hg w1_ hbox hB; have HBo := Aside0.mk HB.out; have nHB := Aside0.mk (HB.out.trans (hB.mono HB.out.size)); clear HB; have HB := nHB; clear nHB; have BK_gr := Aside0.mk hbox; have GE_gr := Aside0.mk (show w.heap.size ≤ gr by rw [hg]; exact HBo.out.size); clear hg hbox hB; obtain ⟨hc_gr_0, hc_gr_1, hc_gr_2, hc_gr_3, hc_gr_4, hc_gr_5, hc_gr_6, hc_gr_7, hc_gr_8, hf_gr_0, hf_gr_1, hf_gr_2, hf_gr_3, hf_gr_4, hf_gr_5, hf_gr_6, hf_gr_7, hf_gr_8⟩ := cf9 BK_gr.out; clear HBo))
  try simp only [Exit.inBlock, Exit.then]
  refine bodyPost_ret (results_ct rfl _ _ gr 27 #[.int .u8 0, .int .i64 0, .int .u8 0, .int .u32 0, .bool false, .int .u8 0, .int .u8 0, .slice none 0 0, .slice none 0 0] (0, 0) _ rfl (z9 BK_gr.out (.int .u8 0) (.int .i64 0) (.int .u8 0) (.int .u32 0) (.bool false) (.int .u8 0) (.int .u8 0) (.slice none 0 0) (.slice none 0 0)) Try.underlying27 rfl (by kernel_rfl)) rfl ?_
  exact decP_0 3 (l9 HB.out GE_gr.out (.int .u8 0) (.int .i64 0) (.int .u8 0) (.int .u32 0) (.bool false) (.int .u8 0) (.int .u8 0) (.slice none 0 0) (.slice none 0 0))
set_option maxHeartbeats 8000000 in
set_option maxRecDepth 100000 in
theorem dec_torn {l : List Int} (hl : 8 ≤ l.length) (hw : sum_Whole.f l = some false) (A : Option Addr) (c : Nat) (w : World) (hr : Kd.C (Kd.int .u8) w A l.length l) (hc : l.length ≤ c) :
    Calls Try.prog 20 #[.slice A l.length c] w (DecP w msg0 4) := by
  have hu27 := Try.underlying27
  have hu66 : Try.prog.underlying 66 = _ := Try.underlying66
  have HB := Aside0.mk (Below.refl w.heap.size w)
  have HC_l := Aside0.mk hr
  have HK_l := Aside0.mk hc
  clear hr hc
  have hd8 : decide ((l.length : Int) < 8) = false := decide_eq_false (by omega)
  have hn8 : ¬ l.length < 8 := by omega
  have HWH := Aside0.mk hw
  clear hw
  go_enter Try.func20, Try.ntmps20
  go_wp2_with (first | ((with_reducible refine gate_dst (N := 2) rfl ?_); (try (refine gate_guard (by rfl) ?_; dsimp only)); refine box_event ?hg (N := 2) ?hd (cs := #[.int .u8 0, .int .i64 0, .int .u8 0, .int .u32 0, .bool false, .int .u8 0, .int .u8 0, .slice none 0 0, .slice none 0 0]) (t := 27) ?hr ?_; (case hd => rfl); (case hg => rfl); (case hr => first | (go_simp; done) | (go_simp; rfl)); intro gr hg w1_ hbox hB; have HBo := Aside0.mk HB.out; have nHB := Aside0.mk (HB.out.trans (hB.mono HB.out.size)); clear HB; have HB := nHB; clear nHB; have BK_gr := Aside0.mk hbox; have GE_gr := Aside0.mk (show w.heap.size ≤ gr by rw [hg]; exact HBo.out.size); clear hg hbox hB; obtain ⟨hc_gr_0, hc_gr_1, hc_gr_2, hc_gr_3, hc_gr_4, hc_gr_5, hc_gr_6, hc_gr_7, hc_gr_8, hf_gr_0, hf_gr_1, hf_gr_2, hf_gr_3, hf_gr_4, hf_gr_5, hf_gr_6, hf_gr_7, hf_gr_8⟩ := cf9 BK_gr.out; clear HBo) | (go_at_call 40; with_reducible refine (sum_Whole.calls _ _ l _ _ (Kd.C_below HC_l.out HB.out) HK_l.out HWH.out).mono ?_; rintro e w2_ ⟨rfl, hB⟩; have nHB := Aside0.mk (HB.out.trans (hB.mono HB.out.size)); clear HB; have HB := nHB; clear nHB; clear hc_gr_0 hf_gr_0 hc_gr_1 hf_gr_1 hc_gr_2 hf_gr_2 hc_gr_3 hf_gr_3 hc_gr_4 hf_gr_4 hc_gr_5 hf_gr_5 hc_gr_6 hf_gr_6 hc_gr_7 hf_gr_7 hc_gr_8 hf_gr_8; have nBK := Aside0.mk (blk_below BK_gr.out hB); clear BK_gr; have BK_gr := nBK; clear nBK; obtain ⟨hc_gr_0, hc_gr_1, hc_gr_2, hc_gr_3, hc_gr_4, hc_gr_5, hc_gr_6, hc_gr_7, hc_gr_8, hf_gr_0, hf_gr_1, hf_gr_2, hf_gr_3, hf_gr_4, hf_gr_5, hf_gr_6, hf_gr_7, hf_gr_8⟩ := cf9 BK_gr.out; clear hB))
  try simp only [Exit.inBlock, Exit.then]
  refine bodyPost_ret (results_ct rfl _ _ gr 27 #[.int .u8 0, .int .i64 0, .int .u8 0, .int .u32 0, .bool false, .int .u8 0, .int .u8 0, .slice none 0 0, .slice none 0 0] (0, 0) _ rfl (z9 BK_gr.out (.int .u8 0) (.int .i64 0) (.int .u8 0) (.int .u32 0) (.bool false) (.int .u8 0) (.int .u8 0) (.slice none 0 0) (.slice none 0 0)) Try.underlying27 rfl (by kernel_rfl)) rfl ?_
  exact decP_0 4 (l9 HB.out GE_gr.out (.int .u8 0) (.int .i64 0) (.int .u8 0) (.int .u32 0) (.bool false) (.int .u8 0) (.int .u8 0) (.slice none 0 0) (.slice none 0 0))
set_option maxHeartbeats 8000000 in
set_option maxRecDepth 100000 in
theorem dec_form {l : List Int} (hl : 8 ≤ l.length) (hw : sum_Whole.f l = some true) (hfd : ∀ p, Instr.findNow (.int .u8) (.int .u8 (rd l 0)) (es6 p).toList 0 = some none) (A : Option Addr) (c : Nat) (w : World) (hr : Kd.C (Kd.int .u8) w A l.length l) (hc : l.length ≤ c) :
    Calls Try.prog 20 #[.slice A l.length c] w (DecP w msg0 2) := by
  have hu27 := Try.underlying27
  have hu66 : Try.prog.underlying 66 = _ := Try.underlying66
  have HB := Aside0.mk (Below.refl w.heap.size w)
  have HC_l := Aside0.mk hr
  have HK_l := Aside0.mk hc
  clear hr hc
  have hd8 : decide ((l.length : Int) < 8) = false := decide_eq_false (by omega)
  have hn8 : ¬ l.length < 8 := by omega
  have HWH := Aside0.mk hw
  have HFD := Aside0.mk hfd
  clear hw hfd
  go_enter Try.func20, Try.ntmps20
  obtain ⟨i_, hi_, _, hz_, _⟩ := info_parts Try.info5
  obtain ⟨A4, hcutb, hAb, hKb⟩ := print_drop_of (P := Try.prog) (Value.int .u8) 0 30 5 .i64 Try.underlying30 hi_ hz_ A c l (4 : Int) (by omega) (by omega) HK_l.out
  simp only [show Int.toNat 4 = 4 from rfl] at hAb hKb hcutb
  obtain ⟨y, hy⟩ : ∃ y_, y_ = l.drop 4 := ⟨_, rfl⟩
  rw [← hy] at hAb hKb hcutb
  have HY := Aside0.mk (show Kd.C (Kd.int .u8) w A4 y.length y from Kd.C_of_reads (h1 := fun _ => rfl) (hAb w (Kd.reads_of_C HC_l.out)))
  have HKY := Aside0.mk hKb
  clear hAb hKb hi_ hz_ hy
  obtain ⟨ad, hAd, _⟩ := Kd.at_int HC_l.out 0 (by omega) (by omega)
  subst hAd
  have y0w := Aside0.mk (idx_cell0 HC_l.out (by omega))
  have y1w := Aside0.mk (idx_cell HC_l.out 1 (by decide) (by omega))
  have bn0 : ((0 : Int) < (l.length : Int)) = True := eq_true (by omega)
  have bn1 : ((1 : Int) < (l.length : Int)) = True := eq_true (by omega)
  have hp0 : 0 < l.length := by omega
  go_upto_region 5 with (first | ((with_reducible refine gate_dst (N := 2) rfl ?_); (try (refine gate_guard (by rfl) ?_; dsimp only)); refine box_event ?hg (N := 2) ?hd (cs := #[.int .u8 0, .int .i64 0, .int .u8 0, .int .u32 0, .bool false, .int .u8 0, .int .u8 0, .slice none 0 0, .slice none 0 0]) (t := 27) ?hr ?_; (case hd => rfl); (case hg => rfl); (case hr => first | (go_simp; done) | (go_simp; rfl)); intro gr hg w1_ hbox hB; have HBo := Aside0.mk HB.out; have nHB := Aside0.mk (HB.out.trans (hB.mono HB.out.size)); clear HB; have HB := nHB; clear nHB; have BK_gr := Aside0.mk hbox; have GE_gr := Aside0.mk (show w.heap.size ≤ gr by rw [hg]; exact HBo.out.size); clear hg hbox hB; obtain ⟨hc_gr_0, hc_gr_1, hc_gr_2, hc_gr_3, hc_gr_4, hc_gr_5, hc_gr_6, hc_gr_7, hc_gr_8, hf_gr_0, hf_gr_1, hf_gr_2, hf_gr_3, hf_gr_4, hf_gr_5, hf_gr_6, hf_gr_7, hf_gr_8⟩ := cf9 BK_gr.out; clear HBo) | (go_at_call 40; with_reducible refine (sum_Whole.calls _ _ l _ _ (Kd.C_below HC_l.out HB.out) HK_l.out HWH.out).mono ?_; rintro e w2_ ⟨rfl, hB⟩; have nHB := Aside0.mk (HB.out.trans (hB.mono HB.out.size)); clear HB; have HB := nHB; clear nHB; clear hc_gr_0 hf_gr_0 hc_gr_1 hf_gr_1 hc_gr_2 hf_gr_2 hc_gr_3 hf_gr_3 hc_gr_4 hf_gr_4 hc_gr_5 hf_gr_5 hc_gr_6 hf_gr_6 hc_gr_7 hf_gr_7 hc_gr_8 hf_gr_8; have nBK := Aside0.mk (blk_below BK_gr.out hB); clear BK_gr; have BK_gr := nBK; clear nBK; obtain ⟨hc_gr_0, hc_gr_1, hc_gr_2, hc_gr_3, hc_gr_4, hc_gr_5, hc_gr_6, hc_gr_7, hc_gr_8, hf_gr_0, hf_gr_1, hf_gr_2, hf_gr_3, hf_gr_4, hf_gr_5, hf_gr_6, hf_gr_7, hf_gr_8⟩ := cf9 BK_gr.out; clear hB))
  refine start_ (n := 12) (S := fun w' => w'.cell? ⟨gr, 0, none⟩ = some (.int .u8 0) ∧ w'.cell? ⟨gr, 1, none⟩ = some (.int .i64 0) ∧ w'.cell? ⟨gr, 2, none⟩ = some (.int .u8 0) ∧ w'.cell? ⟨gr, 3, none⟩ = some (.int .u32 0) ∧ w'.cell? ⟨gr, 4, none⟩ = some (.bool false) ∧ w'.cell? ⟨gr, 5, none⟩ = some (.int .u8 0) ∧ w'.cell? ⟨gr, 6, none⟩ = some (.int .u8 0) ∧ w'.cell? ⟨gr, 7, none⟩ = some (.slice none 0 0) ∧ w'.cell? ⟨gr, 8, none⟩ = some (.slice none 0 0) ∧ w'.cell? ad = some (.int .u8 (rd l 0)) ∧ w'.cell? ⟨ad.block, ad.off + 1, none⟩ = some (.int .u8 (rd l 1))) (ds := []) #[false, false, false, false, false, false, false, false, false, false, false, false] (by kernel_rfl) rfl rfl ⟨hc_gr_0, hc_gr_1, hc_gr_2, hc_gr_3, hc_gr_4, hc_gr_5, hc_gr_6, hc_gr_7, hc_gr_8, ((HB.out.cell (World.block_lt_of_cell? w _ y0w.out)).trans y0w.out), ((HB.out.cell (World.block_lt_of_cell? w _ y1w.out)).trans y1w.out)⟩ (fun hHeld => ?_); refine with_tabW dec_t dec_b (fun HT_ HW_ => ?_)
  have hB : Below w2_.heap.size w2_ w2_.drew := below_drew (Below.refl _ _)
  generalize w2_.drew = w3_ at hB hHeld ⊢
  have nHB := Aside0.mk (HB.out.trans (hB.mono HB.out.size))
  clear HB
  have HB := nHB
  clear nHB
  clear hc_gr_0 hf_gr_0 hc_gr_1 hf_gr_1 hc_gr_2 hf_gr_2 hc_gr_3 hf_gr_3 hc_gr_4 hf_gr_4 hc_gr_5 hf_gr_5 hc_gr_6 hf_gr_6 hc_gr_7 hf_gr_7 hc_gr_8 hf_gr_8
  have nBK := Aside0.mk (blk_below BK_gr.out hB)
  clear BK_gr
  have BK_gr := nBK
  clear nBK
  obtain ⟨hc_gr_0, hc_gr_1, hc_gr_2, hc_gr_3, hc_gr_4, hc_gr_5, hc_gr_6, hc_gr_7, hc_gr_8, hf_gr_0, hf_gr_1, hf_gr_2, hf_gr_3, hf_gr_4, hf_gr_5, hf_gr_6, hf_gr_7, hf_gr_8⟩ := cf9 BK_gr.out
  clear hB
  refine pu 0 18 #[true, false, false, false, false, false, false, false, false, false, false, false] rfl rfl (any_of HT_.out (by kernel_rfl)) (fun _ _ _ h => h) (by rfl) (fun w' => by go_simp; with_reducible rfl) (by simp only [Act.put, List.setIfInBounds_toArray, List.set_cons_zero, List.set_cons_succ, i64_w, i32_w]; rfl) ?_
  refine pu 1 19 #[true, true, false, false, false, false, false, false, false, false, false, false] rfl rfl (any_of HT_.out (by kernel_rfl)) (fun _ _ _ h => h) (by rfl) (fun w' => by go_simp; with_reducible rfl) (by simp only [Act.put, List.setIfInBounds_toArray, List.set_cons_zero, List.set_cons_succ, i64_w, i32_w]; rfl) ?_
  refine pu 2 20 #[true, true, true, false, false, false, false, false, false, false, false, false] rfl rfl (any_of HT_.out (by kernel_rfl)) (fun _ _ _ h => h) (by rfl) (fun w' => by go_simp; with_reducible rfl) (by simp only [Act.put, List.setIfInBounds_toArray, List.set_cons_zero, List.set_cons_succ, i64_w, i32_w]; rfl) ?_
  refine pu 3 21 #[true, true, true, true, false, false, false, false, false, false, false, false] rfl rfl (any_of HT_.out (by kernel_rfl)) (fun _ _ _ h => h) (by rfl) (fun w' => by go_simp; with_reducible rfl) (by simp only [Act.put, List.setIfInBounds_toArray, List.set_cons_zero, List.set_cons_succ, i64_w, i32_w]; rfl) ?_
  refine take_ (i := 4) (N := some 22) (v := ?_) (a' := ?_) #[true, true, true, true, true, false, false, false, false, false, false, false] rfl rfl (take_ofW HT_.out HW_.out (by kernel_rfl)) (fun _ _ _ h => h) (Or.inl ⟨by rfl, ?_⟩) hHeld ?_ ?_
  rotate_left
  · rintro w' ⟨s0, s1, s2, s3, s4, s5, s6, s7, s8, s9, s10⟩
    go_simp
    with_reducible rfl
  rotate_left
  · simp only [Act.put, List.setIfInBounds_toArray, List.set_cons_zero, List.set_cons_succ, i64_w, i32_w]
    rfl
  refine pu 5 23 #[true, true, true, true, true, true, false, false, false, false, false, false] rfl rfl (any_of HT_.out (by kernel_rfl)) (fun _ _ _ h => h) (by rfl) (fun w' => by go_simp; with_reducible rfl) (by simp only [Act.put, List.setIfInBounds_toArray, List.set_cons_zero, List.set_cons_succ, i64_w, i32_w]; rfl) ?_
  refine pu 6 24 #[true, true, true, true, true, true, true, false, false, false, false, false] rfl rfl (any_of HT_.out (by kernel_rfl)) (fun _ _ _ h => h) (by rfl) (fun w' => by go_simp; with_reducible rfl) (by simp only [Act.put, List.setIfInBounds_toArray, List.set_cons_zero, List.set_cons_succ, i64_w, i32_w]; rfl) ?_
  refine take_ (i := 7) (N := some 25) (v := ?_) (a' := ?_) #[true, true, true, true, true, true, true, true, false, false, false, false] rfl rfl (take_ofW HT_.out HW_.out (by kernel_rfl)) (fun _ _ _ h => h) (Or.inl ⟨by rfl, ?_⟩) hHeld ?_ ?_
  rotate_left
  · rintro w' ⟨s0, s1, s2, s3, s4, s5, s6, s7, s8, s9, s10⟩
    go_simp
    with_reducible rfl
  rotate_left
  · simp only [Act.put, List.setIfInBounds_toArray, List.set_cons_zero, List.set_cons_succ, i64_w, i32_w]
    rfl
  refine pu 8 26 #[true, true, true, true, true, true, true, true, true, false, false, false] rfl rfl (any_of HT_.out (by kernel_rfl)) (fun _ _ _ h => h) (by rfl) (fun w' => by go_simp; with_reducible rfl) (by simp only [Act.put, List.setIfInBounds_toArray, List.set_cons_zero, List.set_cons_succ, i64_w, i32_w]; rfl) ?_
  refine pu 9 27 #[true, true, true, true, true, true, true, true, true, true, false, false] rfl rfl (any_of HT_.out (by kernel_rfl)) (fun _ _ _ h => h) (by rfl) (fun w' => by go_simp; with_reducible rfl) (by simp only [Act.put, List.setIfInBounds_toArray, List.set_cons_zero, List.set_cons_succ, i64_w, i32_w]; rfl) ?_
  refine one_ (i := 10) (N := some 28) #[true, true, true, true, true, true, true, true, true, true, true, false] rfl rfl (one_of HT_.out (by kernel_rfl)) (by decide) (fun K hK => ?_)
  refine box_step ?hg (N := 28) ?hd (cs := #[.slice A4 y.length (c - 4), .int .u8 (rd l 0), .int .i64 0, .int .u8 (rd l 1), .int .u32 0, .bool false, .int .u8 0, .int .u8 0, .slice none 0 0, .slice none 0 0, .bool false]) (t := 66) ?hr ?_; (case hd => rfl); (case hg => rfl); (case hr => first | (go_simp; done) | (go_simp; rfl))
  intro g hg w4_ hbox hB
  have NB_g_gr := Aside0.mk (show g ≠ gr by rw [hg]; exact Nat.ne_of_gt (blk_lt BK_gr.out))
  have NB_gr_g := Aside0.mk (Ne.symm NB_g_gr.out)
  have GE_g := Aside0.mk (show w.heap.size ≤ g by rw [hg]; exact HB.out.size)
  have nHB := Aside0.mk (HB.out.trans (hB.mono HB.out.size))
  clear HB
  have HB := nHB
  clear nHB
  clear hc_gr_0 hf_gr_0 hc_gr_1 hf_gr_1 hc_gr_2 hf_gr_2 hc_gr_3 hf_gr_3 hc_gr_4 hf_gr_4 hc_gr_5 hf_gr_5 hc_gr_6 hf_gr_6 hc_gr_7 hf_gr_7 hc_gr_8 hf_gr_8
  have nBK := Aside0.mk (blk_below BK_gr.out hB)
  clear BK_gr
  have BK_gr := nBK
  clear nBK
  obtain ⟨hc_gr_0, hc_gr_1, hc_gr_2, hc_gr_3, hc_gr_4, hc_gr_5, hc_gr_6, hc_gr_7, hc_gr_8, hf_gr_0, hf_gr_1, hf_gr_2, hf_gr_3, hf_gr_4, hf_gr_5, hf_gr_6, hf_gr_7, hf_gr_8⟩ := cf9 BK_gr.out
  have BK_g := Aside0.mk hbox
  clear hg hbox hB
  obtain ⟨hc_g_0, hc_g_1, hc_g_2, hc_g_3, hc_g_4, hc_g_5, hc_g_6, hc_g_7, hc_g_8, hc_g_9, hc_g_10, hf_g_0, hf_g_1, hf_g_2, hf_g_3, hf_g_4, hf_g_5, hf_g_6, hf_g_7, hf_g_8, hf_g_9, hf_g_10⟩ := cf11 BK_g.out
  refine hK.out _ _ ⟨hc_gr_0, hc_gr_1, hc_gr_2, hc_gr_3, hc_gr_4, hc_gr_5, hc_gr_6, hc_gr_7, hc_gr_8, ((HB.out.cell (World.block_lt_of_cell? w _ y0w.out)).trans y0w.out), ((HB.out.cell (World.block_lt_of_cell? w _ y1w.out)).trans y1w.out)⟩ (fun hHeld => ?_)
  clear hK K
  refine norm_ (a' := ?_) ?_ ?_
  rotate_left
  · show Act.put _ (some 28) _ = _
    simp only [Act.put, List.setIfInBounds_toArray, List.set_cons_zero, List.set_cons_succ, i64_w, i32_w]
    rfl
  refine pu 11 4 #[true, true, true, true, true, true, true, true, true, true, true, true] rfl rfl (any_of HT_.out (by kernel_rfl)) (fun _ _ _ h => h) (by rfl) (fun w' => by go_simp; with_reducible rfl) (by simp only [Act.put, List.setIfInBounds_toArray, List.set_cons_zero, List.set_cons_succ, i64_w, i32_w]; rfl) ?_
  refine done_ (done_of HT_.out (by kernel_rfl)) ?_
  clear hc_gr_0 hf_gr_0 hc_gr_1 hf_gr_1 hc_gr_2 hf_gr_2 hc_gr_3 hf_gr_3 hc_gr_4 hf_gr_4 hc_gr_5 hf_gr_5 hc_gr_6 hf_gr_6 hc_gr_7 hf_gr_7 hc_gr_8 hf_gr_8
  clear hc_g_0 hf_g_0 hc_g_1 hf_g_1 hc_g_2 hf_g_2 hc_g_3 hf_g_3 hc_g_4 hf_g_4 hc_g_5 hf_g_5 hc_g_6 hf_g_6 hc_g_7 hf_g_7 hc_g_8 hf_g_8 hc_g_9 hf_g_9 hc_g_10 hf_g_10
  have HMB := Aside0.mk (Below.refl w4_.heap.size w4_)
  go_wp2_with (first | ((with_reducible refine gate_dst (N := 29) rfl ?_); refine mk_ rfl 67 rfl ?_; intro b wm0 hbe hm hb; have HMB0 := Aside0.mk hb; have HBG := Aside0.mk (Nat.le_of_eq hbe.symm); have HMP0 := Aside0.mk hm; clear hbe hm hb) | (refine ins_ rfl (.tmp 29) (.tmp 31) 17 rfl b _ _ rfl _ rfl HMP0.out rfl ?_; intro wm1 hm hR; have HMP1 := Aside0.mk hm; have HMB1 := Aside0.mk (hR.below HMB0.out HBG.out); clear hm hR) | (refine ins_ rfl (.tmp 29) (.tmp 33) 18 rfl b _ _ rfl _ rfl HMP1.out rfl ?_; intro wm2 hm hR; have HMP2 := Aside0.mk hm; have HMB2 := Aside0.mk (hR.below HMB1.out HBG.out); clear hm hR) | (refine ins_ rfl (.tmp 29) (.tmp 35) 22 rfl b _ _ rfl _ rfl HMP2.out rfl ?_; intro wm3 hm hR; have HMP3 := Aside0.mk hm; have HMB3 := Aside0.mk (hR.below HMB2.out HBG.out); clear hm hR) | (refine ins_ rfl (.tmp 29) (.tmp 37) 23 rfl b _ _ rfl _ rfl HMP3.out rfl ?_; intro wm4 hm hR; have HMP4 := Aside0.mk hm; have HMB4 := Aside0.mk (hR.below HMB3.out HBG.out); clear hm hR) | (refine ins_ rfl (.tmp 29) (.tmp 39) 34 rfl b _ _ rfl _ rfl HMP4.out rfl ?_; intro wm5 hm hR; have HMP5 := Aside0.mk hm; have HMB5 := Aside0.mk (hR.below HMB4.out HBG.out); clear hm hR; have HB6 := Aside0.mk (HB.out.trans (HMB5.out.mono HB.out.size)); have y06 := (HB6.out.cell (World.block_lt_of_cell? w _ y0w.out)).trans y0w.out; have hlk := run_look (b := b) (kv := rd l 0) (es := es6 (.pointer (some ⟨g, 0, none⟩))) HMP5.out (HFD.out _); have BR6 := Aside0.mk (blk_below (g := gr) BK_gr.out HMB5.out); obtain ⟨hcr_0, hcr_1, hcr_2, hcr_3, hcr_4, hcr_5, hcr_6, hcr_7, hcr_8, hfr_0, hfr_1, hfr_2, hfr_3, hfr_4, hfr_5, hfr_6, hfr_7, hfr_8⟩ := cf9 BR6.out))
  try simp only [Exit.inBlock, Exit.then]
  refine bodyPost_ret (results_ct rfl _ _ gr 27 #[.int .u8 0, .int .i64 0, .int .u8 0, .int .u32 0, .bool false, .int .u8 0, .int .u8 0, .slice none 0 0, .slice none 0 0] (0, 0) _ rfl (z9 BR6.out (.int .u8 0) (.int .i64 0) (.int .u8 0) (.int .u32 0) (.bool false) (.int .u8 0) (.int .u8 0) (.slice none 0 0) (.slice none 0 0)) Try.underlying27 rfl (by kernel_rfl)) rfl ?_
  exact decP_0 2 (l9 HB6.out GE_gr.out (.int .u8 0) (.int .i64 0) (.int .u8 0) (.int .u32 0) (.bool false) (.int .u8 0) (.int .u8 0) (.slice none 0 0) (.slice none 0 0))
set_option maxHeartbeats 8000000 in
set_option maxRecDepth 100000 in
theorem dec_short {l : List Int} {K : Nat} (hl : 8 ≤ l.length) (hw : sum_Whole.f l = some true) {fid j : Nat} {fn : Func} (hf : Try.prog.funcs[fid]? = some fn) (hnm : (fn.name == "runtime.NumGoroutine") = false) (hbd : fn.body.isSome = true) (hfd : ∀ p, Instr.findNow (.int .u8) (.int .u8 (rd l 0)) (es6 p).toList 0 = some (some (j, .func (.func fid) #[p] #[]))) {m : Msg} {rest : List Int} (hrd : ReadsTo fid (rd l 0) (rd l 1) (l.drop 4) (m, rest, true)) (A : Option Addr) (c : Nat) (w : World) (hr : Kd.C (Kd.int .u8) w A l.length l) (hc : l.length ≤ c) :
    Calls Try.prog 20 #[.slice A l.length c] w (DecP w msg0 3) := by
  have hu27 := Try.underlying27
  have hu66 : Try.prog.underlying 66 = _ := Try.underlying66
  have HB := Aside0.mk (Below.refl w.heap.size w)
  have HC_l := Aside0.mk hr
  have HK_l := Aside0.mk hc
  clear hr hc
  have hd8 : decide ((l.length : Int) < 8) = false := decide_eq_false (by omega)
  have hn8 : ¬ l.length < 8 := by omega
  have HWH := Aside0.mk hw
  have HFD := Aside0.mk hfd
  clear hw hfd
  have HF := Aside0.mk hf
  have HNM := Aside0.mk hnm
  have HBD := Aside0.mk hbd
  have HRD := Aside0.mk hrd
  clear hf hnm hbd hrd
  go_enter Try.func20, Try.ntmps20
  obtain ⟨i_, hi_, _, hz_, _⟩ := info_parts Try.info5
  obtain ⟨A4, hcutb, hAb, hKb⟩ := print_drop_of (P := Try.prog) (Value.int .u8) 0 30 5 .i64 Try.underlying30 hi_ hz_ A c l (4 : Int) (by omega) (by omega) HK_l.out
  simp only [show Int.toNat 4 = 4 from rfl] at hAb hKb hcutb
  obtain ⟨y, hy⟩ : ∃ y_, y_ = l.drop 4 := ⟨_, rfl⟩
  rw [← hy] at hAb hKb hcutb HRD
  have HY := Aside0.mk (show Kd.C (Kd.int .u8) w A4 y.length y from Kd.C_of_reads (h1 := fun _ => rfl) (hAb w (Kd.reads_of_C HC_l.out)))
  have HKY := Aside0.mk hKb
  clear hAb hKb hi_ hz_ hy
  obtain ⟨ad, hAd, _⟩ := Kd.at_int HC_l.out 0 (by omega) (by omega)
  subst hAd
  have y0w := Aside0.mk (idx_cell0 HC_l.out (by omega))
  have y1w := Aside0.mk (idx_cell HC_l.out 1 (by decide) (by omega))
  have bn0 : ((0 : Int) < (l.length : Int)) = True := eq_true (by omega)
  have bn1 : ((1 : Int) < (l.length : Int)) = True := eq_true (by omega)
  have hp0 : 0 < l.length := by omega
  go_upto_region 5 with (first | ((with_reducible refine gate_dst (N := 2) rfl ?_); (try (refine gate_guard (by rfl) ?_; dsimp only)); refine box_event ?hg (N := 2) ?hd (cs := #[.int .u8 0, .int .i64 0, .int .u8 0, .int .u32 0, .bool false, .int .u8 0, .int .u8 0, .slice none 0 0, .slice none 0 0]) (t := 27) ?hr ?_; (case hd => rfl); (case hg => rfl); (case hr => first | (go_simp; done) | (go_simp; rfl)); intro gr hg w1_ hbox hB; have HBo := Aside0.mk HB.out; have nHB := Aside0.mk (HB.out.trans (hB.mono HB.out.size)); clear HB; have HB := nHB; clear nHB; have BK_gr := Aside0.mk hbox; have GE_gr := Aside0.mk (show w.heap.size ≤ gr by rw [hg]; exact HBo.out.size); clear hg hbox hB; obtain ⟨hc_gr_0, hc_gr_1, hc_gr_2, hc_gr_3, hc_gr_4, hc_gr_5, hc_gr_6, hc_gr_7, hc_gr_8, hf_gr_0, hf_gr_1, hf_gr_2, hf_gr_3, hf_gr_4, hf_gr_5, hf_gr_6, hf_gr_7, hf_gr_8⟩ := cf9 BK_gr.out; clear HBo) | (go_at_call 40; with_reducible refine (sum_Whole.calls _ _ l _ _ (Kd.C_below HC_l.out HB.out) HK_l.out HWH.out).mono ?_; rintro e w2_ ⟨rfl, hB⟩; have nHB := Aside0.mk (HB.out.trans (hB.mono HB.out.size)); clear HB; have HB := nHB; clear nHB; clear hc_gr_0 hf_gr_0 hc_gr_1 hf_gr_1 hc_gr_2 hf_gr_2 hc_gr_3 hf_gr_3 hc_gr_4 hf_gr_4 hc_gr_5 hf_gr_5 hc_gr_6 hf_gr_6 hc_gr_7 hf_gr_7 hc_gr_8 hf_gr_8; have nBK := Aside0.mk (blk_below BK_gr.out hB); clear BK_gr; have BK_gr := nBK; clear nBK; obtain ⟨hc_gr_0, hc_gr_1, hc_gr_2, hc_gr_3, hc_gr_4, hc_gr_5, hc_gr_6, hc_gr_7, hc_gr_8, hf_gr_0, hf_gr_1, hf_gr_2, hf_gr_3, hf_gr_4, hf_gr_5, hf_gr_6, hf_gr_7, hf_gr_8⟩ := cf9 BK_gr.out; clear hB))
  refine start_ (n := 12) (S := fun w' => w'.cell? ⟨gr, 0, none⟩ = some (.int .u8 0) ∧ w'.cell? ⟨gr, 1, none⟩ = some (.int .i64 0) ∧ w'.cell? ⟨gr, 2, none⟩ = some (.int .u8 0) ∧ w'.cell? ⟨gr, 3, none⟩ = some (.int .u32 0) ∧ w'.cell? ⟨gr, 4, none⟩ = some (.bool false) ∧ w'.cell? ⟨gr, 5, none⟩ = some (.int .u8 0) ∧ w'.cell? ⟨gr, 6, none⟩ = some (.int .u8 0) ∧ w'.cell? ⟨gr, 7, none⟩ = some (.slice none 0 0) ∧ w'.cell? ⟨gr, 8, none⟩ = some (.slice none 0 0) ∧ w'.cell? ad = some (.int .u8 (rd l 0)) ∧ w'.cell? ⟨ad.block, ad.off + 1, none⟩ = some (.int .u8 (rd l 1))) (ds := []) #[false, false, false, false, false, false, false, false, false, false, false, false] (by kernel_rfl) rfl rfl ⟨hc_gr_0, hc_gr_1, hc_gr_2, hc_gr_3, hc_gr_4, hc_gr_5, hc_gr_6, hc_gr_7, hc_gr_8, ((HB.out.cell (World.block_lt_of_cell? w _ y0w.out)).trans y0w.out), ((HB.out.cell (World.block_lt_of_cell? w _ y1w.out)).trans y1w.out)⟩ (fun hHeld => ?_); refine with_tabW dec_t dec_b (fun HT_ HW_ => ?_)
  have hB : Below w2_.heap.size w2_ w2_.drew := below_drew (Below.refl _ _)
  generalize w2_.drew = w3_ at hB hHeld ⊢
  have nHB := Aside0.mk (HB.out.trans (hB.mono HB.out.size))
  clear HB
  have HB := nHB
  clear nHB
  clear hc_gr_0 hf_gr_0 hc_gr_1 hf_gr_1 hc_gr_2 hf_gr_2 hc_gr_3 hf_gr_3 hc_gr_4 hf_gr_4 hc_gr_5 hf_gr_5 hc_gr_6 hf_gr_6 hc_gr_7 hf_gr_7 hc_gr_8 hf_gr_8
  have nBK := Aside0.mk (blk_below BK_gr.out hB)
  clear BK_gr
  have BK_gr := nBK
  clear nBK
  obtain ⟨hc_gr_0, hc_gr_1, hc_gr_2, hc_gr_3, hc_gr_4, hc_gr_5, hc_gr_6, hc_gr_7, hc_gr_8, hf_gr_0, hf_gr_1, hf_gr_2, hf_gr_3, hf_gr_4, hf_gr_5, hf_gr_6, hf_gr_7, hf_gr_8⟩ := cf9 BK_gr.out
  clear hB
  refine pu 0 18 #[true, false, false, false, false, false, false, false, false, false, false, false] rfl rfl (any_of HT_.out (by kernel_rfl)) (fun _ _ _ h => h) (by rfl) (fun w' => by go_simp; with_reducible rfl) (by simp only [Act.put, List.setIfInBounds_toArray, List.set_cons_zero, List.set_cons_succ, i64_w, i32_w]; rfl) ?_
  refine pu 1 19 #[true, true, false, false, false, false, false, false, false, false, false, false] rfl rfl (any_of HT_.out (by kernel_rfl)) (fun _ _ _ h => h) (by rfl) (fun w' => by go_simp; with_reducible rfl) (by simp only [Act.put, List.setIfInBounds_toArray, List.set_cons_zero, List.set_cons_succ, i64_w, i32_w]; rfl) ?_
  refine pu 2 20 #[true, true, true, false, false, false, false, false, false, false, false, false] rfl rfl (any_of HT_.out (by kernel_rfl)) (fun _ _ _ h => h) (by rfl) (fun w' => by go_simp; with_reducible rfl) (by simp only [Act.put, List.setIfInBounds_toArray, List.set_cons_zero, List.set_cons_succ, i64_w, i32_w]; rfl) ?_
  refine pu 3 21 #[true, true, true, true, false, false, false, false, false, false, false, false] rfl rfl (any_of HT_.out (by kernel_rfl)) (fun _ _ _ h => h) (by rfl) (fun w' => by go_simp; with_reducible rfl) (by simp only [Act.put, List.setIfInBounds_toArray, List.set_cons_zero, List.set_cons_succ, i64_w, i32_w]; rfl) ?_
  refine take_ (i := 4) (N := some 22) (v := ?_) (a' := ?_) #[true, true, true, true, true, false, false, false, false, false, false, false] rfl rfl (take_ofW HT_.out HW_.out (by kernel_rfl)) (fun _ _ _ h => h) (Or.inl ⟨by rfl, ?_⟩) hHeld ?_ ?_
  rotate_left
  · rintro w' ⟨s0, s1, s2, s3, s4, s5, s6, s7, s8, s9, s10⟩
    go_simp
    with_reducible rfl
  rotate_left
  · simp only [Act.put, List.setIfInBounds_toArray, List.set_cons_zero, List.set_cons_succ, i64_w, i32_w]
    rfl
  refine pu 5 23 #[true, true, true, true, true, true, false, false, false, false, false, false] rfl rfl (any_of HT_.out (by kernel_rfl)) (fun _ _ _ h => h) (by rfl) (fun w' => by go_simp; with_reducible rfl) (by simp only [Act.put, List.setIfInBounds_toArray, List.set_cons_zero, List.set_cons_succ, i64_w, i32_w]; rfl) ?_
  refine pu 6 24 #[true, true, true, true, true, true, true, false, false, false, false, false] rfl rfl (any_of HT_.out (by kernel_rfl)) (fun _ _ _ h => h) (by rfl) (fun w' => by go_simp; with_reducible rfl) (by simp only [Act.put, List.setIfInBounds_toArray, List.set_cons_zero, List.set_cons_succ, i64_w, i32_w]; rfl) ?_
  refine take_ (i := 7) (N := some 25) (v := ?_) (a' := ?_) #[true, true, true, true, true, true, true, true, false, false, false, false] rfl rfl (take_ofW HT_.out HW_.out (by kernel_rfl)) (fun _ _ _ h => h) (Or.inl ⟨by rfl, ?_⟩) hHeld ?_ ?_
  rotate_left
  · rintro w' ⟨s0, s1, s2, s3, s4, s5, s6, s7, s8, s9, s10⟩
    go_simp
    with_reducible rfl
  rotate_left
  · simp only [Act.put, List.setIfInBounds_toArray, List.set_cons_zero, List.set_cons_succ, i64_w, i32_w]
    rfl
  refine pu 8 26 #[true, true, true, true, true, true, true, true, true, false, false, false] rfl rfl (any_of HT_.out (by kernel_rfl)) (fun _ _ _ h => h) (by rfl) (fun w' => by go_simp; with_reducible rfl) (by simp only [Act.put, List.setIfInBounds_toArray, List.set_cons_zero, List.set_cons_succ, i64_w, i32_w]; rfl) ?_
  refine pu 9 27 #[true, true, true, true, true, true, true, true, true, true, false, false] rfl rfl (any_of HT_.out (by kernel_rfl)) (fun _ _ _ h => h) (by rfl) (fun w' => by go_simp; with_reducible rfl) (by simp only [Act.put, List.setIfInBounds_toArray, List.set_cons_zero, List.set_cons_succ, i64_w, i32_w]; rfl) ?_
  refine one_ (i := 10) (N := some 28) #[true, true, true, true, true, true, true, true, true, true, true, false] rfl rfl (one_of HT_.out (by kernel_rfl)) (by decide) (fun K hK => ?_)
  refine box_step ?hg (N := 28) ?hd (cs := #[.slice A4 y.length (c - 4), .int .u8 (rd l 0), .int .i64 0, .int .u8 (rd l 1), .int .u32 0, .bool false, .int .u8 0, .int .u8 0, .slice none 0 0, .slice none 0 0, .bool false]) (t := 66) ?hr ?_; (case hd => rfl); (case hg => rfl); (case hr => first | (go_simp; done) | (go_simp; rfl))
  intro g hg w4_ hbox hB
  have NB_g_gr := Aside0.mk (show g ≠ gr by rw [hg]; exact Nat.ne_of_gt (blk_lt BK_gr.out))
  have NB_gr_g := Aside0.mk (Ne.symm NB_g_gr.out)
  have GE_g := Aside0.mk (show w.heap.size ≤ g by rw [hg]; exact HB.out.size)
  have nHB := Aside0.mk (HB.out.trans (hB.mono HB.out.size))
  clear HB
  have HB := nHB
  clear nHB
  clear hc_gr_0 hf_gr_0 hc_gr_1 hf_gr_1 hc_gr_2 hf_gr_2 hc_gr_3 hf_gr_3 hc_gr_4 hf_gr_4 hc_gr_5 hf_gr_5 hc_gr_6 hf_gr_6 hc_gr_7 hf_gr_7 hc_gr_8 hf_gr_8
  have nBK := Aside0.mk (blk_below BK_gr.out hB)
  clear BK_gr
  have BK_gr := nBK
  clear nBK
  obtain ⟨hc_gr_0, hc_gr_1, hc_gr_2, hc_gr_3, hc_gr_4, hc_gr_5, hc_gr_6, hc_gr_7, hc_gr_8, hf_gr_0, hf_gr_1, hf_gr_2, hf_gr_3, hf_gr_4, hf_gr_5, hf_gr_6, hf_gr_7, hf_gr_8⟩ := cf9 BK_gr.out
  have BK_g := Aside0.mk hbox
  clear hg hbox hB
  obtain ⟨hc_g_0, hc_g_1, hc_g_2, hc_g_3, hc_g_4, hc_g_5, hc_g_6, hc_g_7, hc_g_8, hc_g_9, hc_g_10, hf_g_0, hf_g_1, hf_g_2, hf_g_3, hf_g_4, hf_g_5, hf_g_6, hf_g_7, hf_g_8, hf_g_9, hf_g_10⟩ := cf11 BK_g.out
  refine hK.out _ _ ⟨hc_gr_0, hc_gr_1, hc_gr_2, hc_gr_3, hc_gr_4, hc_gr_5, hc_gr_6, hc_gr_7, hc_gr_8, ((HB.out.cell (World.block_lt_of_cell? w _ y0w.out)).trans y0w.out), ((HB.out.cell (World.block_lt_of_cell? w _ y1w.out)).trans y1w.out)⟩ (fun hHeld => ?_)
  clear hK K
  refine norm_ (a' := ?_) ?_ ?_
  rotate_left
  · show Act.put _ (some 28) _ = _
    simp only [Act.put, List.setIfInBounds_toArray, List.set_cons_zero, List.set_cons_succ, i64_w, i32_w]
    rfl
  refine pu 11 4 #[true, true, true, true, true, true, true, true, true, true, true, true] rfl rfl (any_of HT_.out (by kernel_rfl)) (fun _ _ _ h => h) (by rfl) (fun w' => by go_simp; with_reducible rfl) (by simp only [Act.put, List.setIfInBounds_toArray, List.set_cons_zero, List.set_cons_succ, i64_w, i32_w]; rfl) ?_
  refine done_ (done_of HT_.out (by kernel_rfl)) ?_
  clear hc_gr_0 hf_gr_0 hc_gr_1 hf_gr_1 hc_gr_2 hf_gr_2 hc_gr_3 hf_gr_3 hc_gr_4 hf_gr_4 hc_gr_5 hf_gr_5 hc_gr_6 hf_gr_6 hc_gr_7 hf_gr_7 hc_gr_8 hf_gr_8
  clear hc_g_0 hf_g_0 hc_g_1 hf_g_1 hc_g_2 hf_g_2 hc_g_3 hf_g_3 hc_g_4 hf_g_4 hc_g_5 hf_g_5 hc_g_6 hf_g_6 hc_g_7 hf_g_7 hc_g_8 hf_g_8 hc_g_9 hf_g_9 hc_g_10 hf_g_10
  have HMB := Aside0.mk (Below.refl w4_.heap.size w4_)
  go_wp2_with (first | ((with_reducible refine gate_dst (N := 29) rfl ?_); refine mk_ rfl 67 rfl ?_; intro b wm0 hbe hm hb; have HMB0 := Aside0.mk hb; have HBG := Aside0.mk (Nat.le_of_eq hbe.symm); have HMP0 := Aside0.mk hm; clear hbe hm hb) | (refine ins_ rfl (.tmp 29) (.tmp 31) 17 rfl b _ _ rfl _ rfl HMP0.out rfl ?_; intro wm1 hm hR; have HMP1 := Aside0.mk hm; have HMB1 := Aside0.mk (hR.below HMB0.out HBG.out); clear hm hR) | (refine ins_ rfl (.tmp 29) (.tmp 33) 18 rfl b _ _ rfl _ rfl HMP1.out rfl ?_; intro wm2 hm hR; have HMP2 := Aside0.mk hm; have HMB2 := Aside0.mk (hR.below HMB1.out HBG.out); clear hm hR) | (refine ins_ rfl (.tmp 29) (.tmp 35) 22 rfl b _ _ rfl _ rfl HMP2.out rfl ?_; intro wm3 hm hR; have HMP3 := Aside0.mk hm; have HMB3 := Aside0.mk (hR.below HMB2.out HBG.out); clear hm hR) | (refine ins_ rfl (.tmp 29) (.tmp 37) 23 rfl b _ _ rfl _ rfl HMP3.out rfl ?_; intro wm4 hm hR; have HMP4 := Aside0.mk hm; have HMB4 := Aside0.mk (hR.below HMB3.out HBG.out); clear hm hR) | (refine ins_ rfl (.tmp 29) (.tmp 39) 34 rfl b _ _ rfl _ rfl HMP4.out rfl ?_; intro wm5 hm hR; have HMP5 := Aside0.mk hm; have HMB5 := Aside0.mk (hR.below HMB4.out HBG.out); clear hm hR; have HB6 := Aside0.mk (HB.out.trans (HMB5.out.mono HB.out.size)); have y06 := (HB6.out.cell (World.block_lt_of_cell? w _ y0w.out)).trans y0w.out; have hlk := run_look (b := b) (kv := rd l 0) (es := es6 (.pointer (some ⟨g, 0, none⟩))) HMP5.out (HFD.out _)) | ((with_reducible refine gate_dst (N := 53) rfl ?_); refine goesB_ (some 53) rfl rfl HF.out HNM.out HBD.out #[.pointer (some ⟨g, 0, none⟩)] #[.pointer (some ⟨g, 0, none⟩)] rfl rfl (by simp) ?_; with_reducible refine (ReadsTo.calls HRD.out HB6.out GE_g.out (blk_below BK_g.out HMB5.out) HY.out HKY.out).mono ?_; rintro e w7 ⟨vS, vR, A7, c7, rfl, hS, hN, hb, hR⟩; refine ⟨_, rfl, ?_⟩; clear y06 hlk; obtain ⟨A_s, c_s, rfl⟩ := Kd.R_slice hS; obtain ⟨A_r, c_r, rfl⟩ := Kd.N_slice hN; have HS7 := Aside0.mk hS; have HN7 := Aside0.mk hN; have BG7 := Aside0.mk hb; have HB7 := Aside0.mk (hR.below HB6.out GE_g.out); have BR7 := Aside0.mk ((hR.block (blk_lt (blk_below (g := gr) BK_gr.out HMB5.out)) NB_gr_g.out).trans (blk_below (g := gr) BK_gr.out HMB5.out)); have LR7 := Aside0.mk (blk_lt (blk_below (g := gr) BK_gr.out HMB5.out)); clear hS hN hb hR; obtain ⟨hcg_0, hcg_1, hcg_2, hcg_3, hcg_4, hcg_5, hcg_6, hcg_7, hcg_8, hcg_9, hcg_10, hfg_0, hfg_1, hfg_2, hfg_3, hfg_4, hfg_5, hfg_6, hfg_7, hfg_8, hfg_9, hfg_10⟩ := cf11 BG7.out; obtain ⟨hcr_0, hcr_1, hcr_2, hcr_3, hcr_4, hcr_5, hcr_6, hcr_7, hcr_8, hfr_0, hfr_1, hfr_2, hfr_3, hfr_4, hfr_5, hfr_6, hfr_7, hfr_8⟩ := cf9 BR7.out))
  try simp only [Exit.inBlock, Exit.then]
  refine bodyPost_ret (results_ct rfl _ _ gr 27 #[.int .u8 0, .int .i64 0, .int .u8 0, .int .u32 0, .bool false, .int .u8 0, .int .u8 0, .slice none 0 0, .slice none 0 0] (0, 0) _ rfl (z9 BR7.out (.int .u8 0) (.int .i64 0) (.int .u8 0) (.int .u32 0) (.bool false) (.int .u8 0) (.int .u8 0) (.slice none 0 0) (.slice none 0 0)) Try.underlying27 rfl (by kernel_rfl)) rfl ?_
  exact decP_0 3 (l9 HB7.out GE_gr.out (.int .u8 0) (.int .i64 0) (.int .u8 0) (.int .u32 0) (.bool false) (.int .u8 0) (.int .u8 0) (.slice none 0 0) (.slice none 0 0))
set_option maxHeartbeats 8000000 in
set_option maxRecDepth 100000 in
theorem dec_rest {l : List Int} {K : Nat} (hl : 8 ≤ l.length) (hw : sum_Whole.f l = some true) {fid j : Nat} {fn : Func} (hf : Try.prog.funcs[fid]? = some fn) (hnm : (fn.name == "runtime.NumGoroutine") = false) (hbd : fn.body.isSome = true) (hfd : ∀ p, Instr.findNow (.int .u8) (.int .u8 (rd l 0)) (es6 p).toList 0 = some (some (j, .func (.func fid) #[p] #[]))) {m : Msg} {rest : List Int} (hrd : ReadsTo fid (rd l 0) (rd l 1) (l.drop 4) (m, rest, false)) (hrs : 0 < rest.length) (A : Option Addr) (c : Nat) (w : World) (hr : Kd.C (Kd.int .u8) w A l.length l) (hc : l.length ≤ c) :
    Calls Try.prog 20 #[.slice A l.length c] w (DecP w msg0 2) := by
  have hu27 := Try.underlying27
  have hu66 : Try.prog.underlying 66 = _ := Try.underlying66
  have HB := Aside0.mk (Below.refl w.heap.size w)
  have HC_l := Aside0.mk hr
  have HK_l := Aside0.mk hc
  clear hr hc
  have hd8 : decide ((l.length : Int) < 8) = false := decide_eq_false (by omega)
  have hn8 : ¬ l.length < 8 := by omega
  have HWH := Aside0.mk hw
  have HFD := Aside0.mk hfd
  clear hw hfd
  have HF := Aside0.mk hf
  have HNM := Aside0.mk hnm
  have HBD := Aside0.mk hbd
  have HRD := Aside0.mk hrd
  clear hf hnm hbd hrd
  have hr1 : decide ((0 : Int) < (rest.length : Int)) = true := decide_eq_true (by omega)
  have HRS := Aside0.mk hrs
  have hr2 : 0 < rest.length := hrs
  clear hrs
  go_enter Try.func20, Try.ntmps20
  obtain ⟨i_, hi_, _, hz_, _⟩ := info_parts Try.info5
  obtain ⟨A4, hcutb, hAb, hKb⟩ := print_drop_of (P := Try.prog) (Value.int .u8) 0 30 5 .i64 Try.underlying30 hi_ hz_ A c l (4 : Int) (by omega) (by omega) HK_l.out
  simp only [show Int.toNat 4 = 4 from rfl] at hAb hKb hcutb
  obtain ⟨y, hy⟩ : ∃ y_, y_ = l.drop 4 := ⟨_, rfl⟩
  rw [← hy] at hAb hKb hcutb HRD
  have HY := Aside0.mk (show Kd.C (Kd.int .u8) w A4 y.length y from Kd.C_of_reads (h1 := fun _ => rfl) (hAb w (Kd.reads_of_C HC_l.out)))
  have HKY := Aside0.mk hKb
  clear hAb hKb hi_ hz_ hy
  obtain ⟨ad, hAd, _⟩ := Kd.at_int HC_l.out 0 (by omega) (by omega)
  subst hAd
  have y0w := Aside0.mk (idx_cell0 HC_l.out (by omega))
  have y1w := Aside0.mk (idx_cell HC_l.out 1 (by decide) (by omega))
  have bn0 : ((0 : Int) < (l.length : Int)) = True := eq_true (by omega)
  have bn1 : ((1 : Int) < (l.length : Int)) = True := eq_true (by omega)
  have hp0 : 0 < l.length := by omega
  go_upto_region 5 with (first | ((with_reducible refine gate_dst (N := 2) rfl ?_); (try (refine gate_guard (by rfl) ?_; dsimp only)); refine box_event ?hg (N := 2) ?hd (cs := #[.int .u8 0, .int .i64 0, .int .u8 0, .int .u32 0, .bool false, .int .u8 0, .int .u8 0, .slice none 0 0, .slice none 0 0]) (t := 27) ?hr ?_; (case hd => rfl); (case hg => rfl); (case hr => first | (go_simp; done) | (go_simp; rfl)); intro gr hg w1_ hbox hB; have HBo := Aside0.mk HB.out; have nHB := Aside0.mk (HB.out.trans (hB.mono HB.out.size)); clear HB; have HB := nHB; clear nHB; have BK_gr := Aside0.mk hbox; have GE_gr := Aside0.mk (show w.heap.size ≤ gr by rw [hg]; exact HBo.out.size); clear hg hbox hB; obtain ⟨hc_gr_0, hc_gr_1, hc_gr_2, hc_gr_3, hc_gr_4, hc_gr_5, hc_gr_6, hc_gr_7, hc_gr_8, hf_gr_0, hf_gr_1, hf_gr_2, hf_gr_3, hf_gr_4, hf_gr_5, hf_gr_6, hf_gr_7, hf_gr_8⟩ := cf9 BK_gr.out; clear HBo) | (go_at_call 40; with_reducible refine (sum_Whole.calls _ _ l _ _ (Kd.C_below HC_l.out HB.out) HK_l.out HWH.out).mono ?_; rintro e w2_ ⟨rfl, hB⟩; have nHB := Aside0.mk (HB.out.trans (hB.mono HB.out.size)); clear HB; have HB := nHB; clear nHB; clear hc_gr_0 hf_gr_0 hc_gr_1 hf_gr_1 hc_gr_2 hf_gr_2 hc_gr_3 hf_gr_3 hc_gr_4 hf_gr_4 hc_gr_5 hf_gr_5 hc_gr_6 hf_gr_6 hc_gr_7 hf_gr_7 hc_gr_8 hf_gr_8; have nBK := Aside0.mk (blk_below BK_gr.out hB); clear BK_gr; have BK_gr := nBK; clear nBK; obtain ⟨hc_gr_0, hc_gr_1, hc_gr_2, hc_gr_3, hc_gr_4, hc_gr_5, hc_gr_6, hc_gr_7, hc_gr_8, hf_gr_0, hf_gr_1, hf_gr_2, hf_gr_3, hf_gr_4, hf_gr_5, hf_gr_6, hf_gr_7, hf_gr_8⟩ := cf9 BK_gr.out; clear hB))
  refine start_ (n := 12) (S := fun w' => w'.cell? ⟨gr, 0, none⟩ = some (.int .u8 0) ∧ w'.cell? ⟨gr, 1, none⟩ = some (.int .i64 0) ∧ w'.cell? ⟨gr, 2, none⟩ = some (.int .u8 0) ∧ w'.cell? ⟨gr, 3, none⟩ = some (.int .u32 0) ∧ w'.cell? ⟨gr, 4, none⟩ = some (.bool false) ∧ w'.cell? ⟨gr, 5, none⟩ = some (.int .u8 0) ∧ w'.cell? ⟨gr, 6, none⟩ = some (.int .u8 0) ∧ w'.cell? ⟨gr, 7, none⟩ = some (.slice none 0 0) ∧ w'.cell? ⟨gr, 8, none⟩ = some (.slice none 0 0) ∧ w'.cell? ad = some (.int .u8 (rd l 0)) ∧ w'.cell? ⟨ad.block, ad.off + 1, none⟩ = some (.int .u8 (rd l 1))) (ds := []) #[false, false, false, false, false, false, false, false, false, false, false, false] (by kernel_rfl) rfl rfl ⟨hc_gr_0, hc_gr_1, hc_gr_2, hc_gr_3, hc_gr_4, hc_gr_5, hc_gr_6, hc_gr_7, hc_gr_8, ((HB.out.cell (World.block_lt_of_cell? w _ y0w.out)).trans y0w.out), ((HB.out.cell (World.block_lt_of_cell? w _ y1w.out)).trans y1w.out)⟩ (fun hHeld => ?_); refine with_tabW dec_t dec_b (fun HT_ HW_ => ?_)
  have hB : Below w2_.heap.size w2_ w2_.drew := below_drew (Below.refl _ _)
  generalize w2_.drew = w3_ at hB hHeld ⊢
  have nHB := Aside0.mk (HB.out.trans (hB.mono HB.out.size))
  clear HB
  have HB := nHB
  clear nHB
  clear hc_gr_0 hf_gr_0 hc_gr_1 hf_gr_1 hc_gr_2 hf_gr_2 hc_gr_3 hf_gr_3 hc_gr_4 hf_gr_4 hc_gr_5 hf_gr_5 hc_gr_6 hf_gr_6 hc_gr_7 hf_gr_7 hc_gr_8 hf_gr_8
  have nBK := Aside0.mk (blk_below BK_gr.out hB)
  clear BK_gr
  have BK_gr := nBK
  clear nBK
  obtain ⟨hc_gr_0, hc_gr_1, hc_gr_2, hc_gr_3, hc_gr_4, hc_gr_5, hc_gr_6, hc_gr_7, hc_gr_8, hf_gr_0, hf_gr_1, hf_gr_2, hf_gr_3, hf_gr_4, hf_gr_5, hf_gr_6, hf_gr_7, hf_gr_8⟩ := cf9 BK_gr.out
  clear hB
  refine pu 0 18 #[true, false, false, false, false, false, false, false, false, false, false, false] rfl rfl (any_of HT_.out (by kernel_rfl)) (fun _ _ _ h => h) (by rfl) (fun w' => by go_simp; with_reducible rfl) (by simp only [Act.put, List.setIfInBounds_toArray, List.set_cons_zero, List.set_cons_succ, i64_w, i32_w]; rfl) ?_
  refine pu 1 19 #[true, true, false, false, false, false, false, false, false, false, false, false] rfl rfl (any_of HT_.out (by kernel_rfl)) (fun _ _ _ h => h) (by rfl) (fun w' => by go_simp; with_reducible rfl) (by simp only [Act.put, List.setIfInBounds_toArray, List.set_cons_zero, List.set_cons_succ, i64_w, i32_w]; rfl) ?_
  refine pu 2 20 #[true, true, true, false, false, false, false, false, false, false, false, false] rfl rfl (any_of HT_.out (by kernel_rfl)) (fun _ _ _ h => h) (by rfl) (fun w' => by go_simp; with_reducible rfl) (by simp only [Act.put, List.setIfInBounds_toArray, List.set_cons_zero, List.set_cons_succ, i64_w, i32_w]; rfl) ?_
  refine pu 3 21 #[true, true, true, true, false, false, false, false, false, false, false, false] rfl rfl (any_of HT_.out (by kernel_rfl)) (fun _ _ _ h => h) (by rfl) (fun w' => by go_simp; with_reducible rfl) (by simp only [Act.put, List.setIfInBounds_toArray, List.set_cons_zero, List.set_cons_succ, i64_w, i32_w]; rfl) ?_
  refine take_ (i := 4) (N := some 22) (v := ?_) (a' := ?_) #[true, true, true, true, true, false, false, false, false, false, false, false] rfl rfl (take_ofW HT_.out HW_.out (by kernel_rfl)) (fun _ _ _ h => h) (Or.inl ⟨by rfl, ?_⟩) hHeld ?_ ?_
  rotate_left
  · rintro w' ⟨s0, s1, s2, s3, s4, s5, s6, s7, s8, s9, s10⟩
    go_simp
    with_reducible rfl
  rotate_left
  · simp only [Act.put, List.setIfInBounds_toArray, List.set_cons_zero, List.set_cons_succ, i64_w, i32_w]
    rfl
  refine pu 5 23 #[true, true, true, true, true, true, false, false, false, false, false, false] rfl rfl (any_of HT_.out (by kernel_rfl)) (fun _ _ _ h => h) (by rfl) (fun w' => by go_simp; with_reducible rfl) (by simp only [Act.put, List.setIfInBounds_toArray, List.set_cons_zero, List.set_cons_succ, i64_w, i32_w]; rfl) ?_
  refine pu 6 24 #[true, true, true, true, true, true, true, false, false, false, false, false] rfl rfl (any_of HT_.out (by kernel_rfl)) (fun _ _ _ h => h) (by rfl) (fun w' => by go_simp; with_reducible rfl) (by simp only [Act.put, List.setIfInBounds_toArray, List.set_cons_zero, List.set_cons_succ, i64_w, i32_w]; rfl) ?_
  refine take_ (i := 7) (N := some 25) (v := ?_) (a' := ?_) #[true, true, true, true, true, true, true, true, false, false, false, false] rfl rfl (take_ofW HT_.out HW_.out (by kernel_rfl)) (fun _ _ _ h => h) (Or.inl ⟨by rfl, ?_⟩) hHeld ?_ ?_
  rotate_left
  · rintro w' ⟨s0, s1, s2, s3, s4, s5, s6, s7, s8, s9, s10⟩
    go_simp
    with_reducible rfl
  rotate_left
  · simp only [Act.put, List.setIfInBounds_toArray, List.set_cons_zero, List.set_cons_succ, i64_w, i32_w]
    rfl
  refine pu 8 26 #[true, true, true, true, true, true, true, true, true, false, false, false] rfl rfl (any_of HT_.out (by kernel_rfl)) (fun _ _ _ h => h) (by rfl) (fun w' => by go_simp; with_reducible rfl) (by simp only [Act.put, List.setIfInBounds_toArray, List.set_cons_zero, List.set_cons_succ, i64_w, i32_w]; rfl) ?_
  refine pu 9 27 #[true, true, true, true, true, true, true, true, true, true, false, false] rfl rfl (any_of HT_.out (by kernel_rfl)) (fun _ _ _ h => h) (by rfl) (fun w' => by go_simp; with_reducible rfl) (by simp only [Act.put, List.setIfInBounds_toArray, List.set_cons_zero, List.set_cons_succ, i64_w, i32_w]; rfl) ?_
  refine one_ (i := 10) (N := some 28) #[true, true, true, true, true, true, true, true, true, true, true, false] rfl rfl (one_of HT_.out (by kernel_rfl)) (by decide) (fun K hK => ?_)
  refine box_step ?hg (N := 28) ?hd (cs := #[.slice A4 y.length (c - 4), .int .u8 (rd l 0), .int .i64 0, .int .u8 (rd l 1), .int .u32 0, .bool false, .int .u8 0, .int .u8 0, .slice none 0 0, .slice none 0 0, .bool false]) (t := 66) ?hr ?_; (case hd => rfl); (case hg => rfl); (case hr => first | (go_simp; done) | (go_simp; rfl))
  intro g hg w4_ hbox hB
  have NB_g_gr := Aside0.mk (show g ≠ gr by rw [hg]; exact Nat.ne_of_gt (blk_lt BK_gr.out))
  have NB_gr_g := Aside0.mk (Ne.symm NB_g_gr.out)
  have GE_g := Aside0.mk (show w.heap.size ≤ g by rw [hg]; exact HB.out.size)
  have nHB := Aside0.mk (HB.out.trans (hB.mono HB.out.size))
  clear HB
  have HB := nHB
  clear nHB
  clear hc_gr_0 hf_gr_0 hc_gr_1 hf_gr_1 hc_gr_2 hf_gr_2 hc_gr_3 hf_gr_3 hc_gr_4 hf_gr_4 hc_gr_5 hf_gr_5 hc_gr_6 hf_gr_6 hc_gr_7 hf_gr_7 hc_gr_8 hf_gr_8
  have nBK := Aside0.mk (blk_below BK_gr.out hB)
  clear BK_gr
  have BK_gr := nBK
  clear nBK
  obtain ⟨hc_gr_0, hc_gr_1, hc_gr_2, hc_gr_3, hc_gr_4, hc_gr_5, hc_gr_6, hc_gr_7, hc_gr_8, hf_gr_0, hf_gr_1, hf_gr_2, hf_gr_3, hf_gr_4, hf_gr_5, hf_gr_6, hf_gr_7, hf_gr_8⟩ := cf9 BK_gr.out
  have BK_g := Aside0.mk hbox
  clear hg hbox hB
  obtain ⟨hc_g_0, hc_g_1, hc_g_2, hc_g_3, hc_g_4, hc_g_5, hc_g_6, hc_g_7, hc_g_8, hc_g_9, hc_g_10, hf_g_0, hf_g_1, hf_g_2, hf_g_3, hf_g_4, hf_g_5, hf_g_6, hf_g_7, hf_g_8, hf_g_9, hf_g_10⟩ := cf11 BK_g.out
  refine hK.out _ _ ⟨hc_gr_0, hc_gr_1, hc_gr_2, hc_gr_3, hc_gr_4, hc_gr_5, hc_gr_6, hc_gr_7, hc_gr_8, ((HB.out.cell (World.block_lt_of_cell? w _ y0w.out)).trans y0w.out), ((HB.out.cell (World.block_lt_of_cell? w _ y1w.out)).trans y1w.out)⟩ (fun hHeld => ?_)
  clear hK K
  refine norm_ (a' := ?_) ?_ ?_
  rotate_left
  · show Act.put _ (some 28) _ = _
    simp only [Act.put, List.setIfInBounds_toArray, List.set_cons_zero, List.set_cons_succ, i64_w, i32_w]
    rfl
  refine pu 11 4 #[true, true, true, true, true, true, true, true, true, true, true, true] rfl rfl (any_of HT_.out (by kernel_rfl)) (fun _ _ _ h => h) (by rfl) (fun w' => by go_simp; with_reducible rfl) (by simp only [Act.put, List.setIfInBounds_toArray, List.set_cons_zero, List.set_cons_succ, i64_w, i32_w]; rfl) ?_
  refine done_ (done_of HT_.out (by kernel_rfl)) ?_
  clear hc_gr_0 hf_gr_0 hc_gr_1 hf_gr_1 hc_gr_2 hf_gr_2 hc_gr_3 hf_gr_3 hc_gr_4 hf_gr_4 hc_gr_5 hf_gr_5 hc_gr_6 hf_gr_6 hc_gr_7 hf_gr_7 hc_gr_8 hf_gr_8
  clear hc_g_0 hf_g_0 hc_g_1 hf_g_1 hc_g_2 hf_g_2 hc_g_3 hf_g_3 hc_g_4 hf_g_4 hc_g_5 hf_g_5 hc_g_6 hf_g_6 hc_g_7 hf_g_7 hc_g_8 hf_g_8 hc_g_9 hf_g_9 hc_g_10 hf_g_10
  have HMB := Aside0.mk (Below.refl w4_.heap.size w4_)
  go_wp2_with (first | ((with_reducible refine gate_dst (N := 29) rfl ?_); refine mk_ rfl 67 rfl ?_; intro b wm0 hbe hm hb; have HMB0 := Aside0.mk hb; have HBG := Aside0.mk (Nat.le_of_eq hbe.symm); have HMP0 := Aside0.mk hm; clear hbe hm hb) | (refine ins_ rfl (.tmp 29) (.tmp 31) 17 rfl b _ _ rfl _ rfl HMP0.out rfl ?_; intro wm1 hm hR; have HMP1 := Aside0.mk hm; have HMB1 := Aside0.mk (hR.below HMB0.out HBG.out); clear hm hR) | (refine ins_ rfl (.tmp 29) (.tmp 33) 18 rfl b _ _ rfl _ rfl HMP1.out rfl ?_; intro wm2 hm hR; have HMP2 := Aside0.mk hm; have HMB2 := Aside0.mk (hR.below HMB1.out HBG.out); clear hm hR) | (refine ins_ rfl (.tmp 29) (.tmp 35) 22 rfl b _ _ rfl _ rfl HMP2.out rfl ?_; intro wm3 hm hR; have HMP3 := Aside0.mk hm; have HMB3 := Aside0.mk (hR.below HMB2.out HBG.out); clear hm hR) | (refine ins_ rfl (.tmp 29) (.tmp 37) 23 rfl b _ _ rfl _ rfl HMP3.out rfl ?_; intro wm4 hm hR; have HMP4 := Aside0.mk hm; have HMB4 := Aside0.mk (hR.below HMB3.out HBG.out); clear hm hR) | (refine ins_ rfl (.tmp 29) (.tmp 39) 34 rfl b _ _ rfl _ rfl HMP4.out rfl ?_; intro wm5 hm hR; have HMP5 := Aside0.mk hm; have HMB5 := Aside0.mk (hR.below HMB4.out HBG.out); clear hm hR; have HB6 := Aside0.mk (HB.out.trans (HMB5.out.mono HB.out.size)); have y06 := (HB6.out.cell (World.block_lt_of_cell? w _ y0w.out)).trans y0w.out; have hlk := run_look (b := b) (kv := rd l 0) (es := es6 (.pointer (some ⟨g, 0, none⟩))) HMP5.out (HFD.out _)) | ((with_reducible refine gate_dst (N := 53) rfl ?_); refine goesB_ (some 53) rfl rfl HF.out HNM.out HBD.out #[.pointer (some ⟨g, 0, none⟩)] #[.pointer (some ⟨g, 0, none⟩)] rfl rfl (by simp) ?_; with_reducible refine (ReadsTo.calls HRD.out HB6.out GE_g.out (blk_below BK_g.out HMB5.out) HY.out HKY.out).mono ?_; rintro e w7 ⟨vS, vR, A7, c7, rfl, hS, hN, hb, hR⟩; refine ⟨_, rfl, ?_⟩; clear y06 hlk; obtain ⟨A_s, c_s, rfl⟩ := Kd.R_slice hS; obtain ⟨A_r, c_r, rfl⟩ := Kd.N_slice hN; have HS7 := Aside0.mk hS; have HN7 := Aside0.mk hN; have BG7 := Aside0.mk hb; have HB7 := Aside0.mk (hR.below HB6.out GE_g.out); have BR7 := Aside0.mk ((hR.block (blk_lt (blk_below (g := gr) BK_gr.out HMB5.out)) NB_gr_g.out).trans (blk_below (g := gr) BK_gr.out HMB5.out)); have LR7 := Aside0.mk (blk_lt (blk_below (g := gr) BK_gr.out HMB5.out)); clear hS hN hb hR; obtain ⟨hcg_0, hcg_1, hcg_2, hcg_3, hcg_4, hcg_5, hcg_6, hcg_7, hcg_8, hcg_9, hcg_10, hfg_0, hfg_1, hfg_2, hfg_3, hfg_4, hfg_5, hfg_6, hfg_7, hfg_8, hfg_9, hfg_10⟩ := cf11 BG7.out; obtain ⟨hcr_0, hcr_1, hcr_2, hcr_3, hcr_4, hcr_5, hcr_6, hcr_7, hcr_8, hfr_0, hfr_1, hfr_2, hfr_3, hfr_4, hfr_5, hfr_6, hfr_7, hfr_8⟩ := cf9 BR7.out))
  try simp only [Exit.inBlock, Exit.then]
  refine bodyPost_ret (results_ct rfl _ _ gr 27 #[.int .u8 0, .int .i64 0, .int .u8 0, .int .u32 0, .bool false, .int .u8 0, .int .u8 0, .slice none 0 0, .slice none 0 0] (0, 0) _ rfl (z9 BR7.out (.int .u8 0) (.int .i64 0) (.int .u8 0) (.int .u32 0) (.bool false) (.int .u8 0) (.int .u8 0) (.slice none 0 0) (.slice none 0 0)) Try.underlying27 rfl (by kernel_rfl)) rfl ?_
  exact decP_0 2 (l9 HB7.out GE_gr.out (.int .u8 0) (.int .i64 0) (.int .u8 0) (.int .u32 0) (.bool false) (.int .u8 0) (.int .u8 0) (.slice none 0 0) (.slice none 0 0))
set_option maxHeartbeats 8000000 in
set_option maxRecDepth 100000 in
theorem dec_wrong {l : List Int} {K : Nat} (hl : 8 ≤ l.length) (hw : sum_Whole.f l = some true) {fid j : Nat} {fn : Func} (hf : Try.prog.funcs[fid]? = some fn) (hnm : (fn.name == "runtime.NumGoroutine") = false) (hbd : fn.body.isSome = true) (hfd : ∀ p, Instr.findNow (.int .u8) (.int .u8 (rd l 0)) (es6 p).toList 0 = some (some (j, .func (.func fid) #[p] #[]))) {m : Msg} {rest : List Int} (hrd : ReadsTo fid (rd l 0) (rd l 1) (l.drop 4) (m, rest, false)) (hrs : rest.length = 0) (hq : igmp_Right.f K m.k m.ver m.code m.grp m.quiet m.rob m.every m.srcs m.recs = some false) (A : Option Addr) (c : Nat) (w : World) (hr : Kd.C (Kd.int .u8) w A l.length l) (hc : l.length ≤ c) :
    Calls Try.prog 20 #[.slice A l.length c] w (DecP w msg0 2) := by
  have hu27 := Try.underlying27
  have hu66 : Try.prog.underlying 66 = _ := Try.underlying66
  have HB := Aside0.mk (Below.refl w.heap.size w)
  have HC_l := Aside0.mk hr
  have HK_l := Aside0.mk hc
  clear hr hc
  have hd8 : decide ((l.length : Int) < 8) = false := decide_eq_false (by omega)
  have hn8 : ¬ l.length < 8 := by omega
  have HWH := Aside0.mk hw
  have HFD := Aside0.mk hfd
  clear hw hfd
  have HF := Aside0.mk hf
  have HNM := Aside0.mk hnm
  have HBD := Aside0.mk hbd
  have HRD := Aside0.mk hrd
  clear hf hnm hbd hrd
  have HQ := Aside0.mk hq
  clear hq
  have hr1 : decide ((0 : Int) < (rest.length : Int)) = false := decide_eq_false (by omega)
  have HRS := Aside0.mk hrs
  have hr2 : ¬ 0 < rest.length := by omega
  clear hrs
  go_enter Try.func20, Try.ntmps20
  obtain ⟨i_, hi_, _, hz_, _⟩ := info_parts Try.info5
  obtain ⟨A4, hcutb, hAb, hKb⟩ := print_drop_of (P := Try.prog) (Value.int .u8) 0 30 5 .i64 Try.underlying30 hi_ hz_ A c l (4 : Int) (by omega) (by omega) HK_l.out
  simp only [show Int.toNat 4 = 4 from rfl] at hAb hKb hcutb
  obtain ⟨y, hy⟩ : ∃ y_, y_ = l.drop 4 := ⟨_, rfl⟩
  rw [← hy] at hAb hKb hcutb HRD
  have HY := Aside0.mk (show Kd.C (Kd.int .u8) w A4 y.length y from Kd.C_of_reads (h1 := fun _ => rfl) (hAb w (Kd.reads_of_C HC_l.out)))
  have HKY := Aside0.mk hKb
  clear hAb hKb hi_ hz_ hy
  obtain ⟨ad, hAd, _⟩ := Kd.at_int HC_l.out 0 (by omega) (by omega)
  subst hAd
  have y0w := Aside0.mk (idx_cell0 HC_l.out (by omega))
  have y1w := Aside0.mk (idx_cell HC_l.out 1 (by decide) (by omega))
  have bn0 : ((0 : Int) < (l.length : Int)) = True := eq_true (by omega)
  have bn1 : ((1 : Int) < (l.length : Int)) = True := eq_true (by omega)
  have hp0 : 0 < l.length := by omega
  go_upto_region 5 with (first | ((with_reducible refine gate_dst (N := 2) rfl ?_); (try (refine gate_guard (by rfl) ?_; dsimp only)); refine box_event ?hg (N := 2) ?hd (cs := #[.int .u8 0, .int .i64 0, .int .u8 0, .int .u32 0, .bool false, .int .u8 0, .int .u8 0, .slice none 0 0, .slice none 0 0]) (t := 27) ?hr ?_; (case hd => rfl); (case hg => rfl); (case hr => first | (go_simp; done) | (go_simp; rfl)); intro gr hg w1_ hbox hB; have HBo := Aside0.mk HB.out; have nHB := Aside0.mk (HB.out.trans (hB.mono HB.out.size)); clear HB; have HB := nHB; clear nHB; have BK_gr := Aside0.mk hbox; have GE_gr := Aside0.mk (show w.heap.size ≤ gr by rw [hg]; exact HBo.out.size); clear hg hbox hB; obtain ⟨hc_gr_0, hc_gr_1, hc_gr_2, hc_gr_3, hc_gr_4, hc_gr_5, hc_gr_6, hc_gr_7, hc_gr_8, hf_gr_0, hf_gr_1, hf_gr_2, hf_gr_3, hf_gr_4, hf_gr_5, hf_gr_6, hf_gr_7, hf_gr_8⟩ := cf9 BK_gr.out; clear HBo) | (go_at_call 40; with_reducible refine (sum_Whole.calls _ _ l _ _ (Kd.C_below HC_l.out HB.out) HK_l.out HWH.out).mono ?_; rintro e w2_ ⟨rfl, hB⟩; have nHB := Aside0.mk (HB.out.trans (hB.mono HB.out.size)); clear HB; have HB := nHB; clear nHB; clear hc_gr_0 hf_gr_0 hc_gr_1 hf_gr_1 hc_gr_2 hf_gr_2 hc_gr_3 hf_gr_3 hc_gr_4 hf_gr_4 hc_gr_5 hf_gr_5 hc_gr_6 hf_gr_6 hc_gr_7 hf_gr_7 hc_gr_8 hf_gr_8; have nBK := Aside0.mk (blk_below BK_gr.out hB); clear BK_gr; have BK_gr := nBK; clear nBK; obtain ⟨hc_gr_0, hc_gr_1, hc_gr_2, hc_gr_3, hc_gr_4, hc_gr_5, hc_gr_6, hc_gr_7, hc_gr_8, hf_gr_0, hf_gr_1, hf_gr_2, hf_gr_3, hf_gr_4, hf_gr_5, hf_gr_6, hf_gr_7, hf_gr_8⟩ := cf9 BK_gr.out; clear hB))
  refine start_ (n := 12) (S := fun w' => w'.cell? ⟨gr, 0, none⟩ = some (.int .u8 0) ∧ w'.cell? ⟨gr, 1, none⟩ = some (.int .i64 0) ∧ w'.cell? ⟨gr, 2, none⟩ = some (.int .u8 0) ∧ w'.cell? ⟨gr, 3, none⟩ = some (.int .u32 0) ∧ w'.cell? ⟨gr, 4, none⟩ = some (.bool false) ∧ w'.cell? ⟨gr, 5, none⟩ = some (.int .u8 0) ∧ w'.cell? ⟨gr, 6, none⟩ = some (.int .u8 0) ∧ w'.cell? ⟨gr, 7, none⟩ = some (.slice none 0 0) ∧ w'.cell? ⟨gr, 8, none⟩ = some (.slice none 0 0) ∧ w'.cell? ad = some (.int .u8 (rd l 0)) ∧ w'.cell? ⟨ad.block, ad.off + 1, none⟩ = some (.int .u8 (rd l 1))) (ds := []) #[false, false, false, false, false, false, false, false, false, false, false, false] (by kernel_rfl) rfl rfl ⟨hc_gr_0, hc_gr_1, hc_gr_2, hc_gr_3, hc_gr_4, hc_gr_5, hc_gr_6, hc_gr_7, hc_gr_8, ((HB.out.cell (World.block_lt_of_cell? w _ y0w.out)).trans y0w.out), ((HB.out.cell (World.block_lt_of_cell? w _ y1w.out)).trans y1w.out)⟩ (fun hHeld => ?_); refine with_tabW dec_t dec_b (fun HT_ HW_ => ?_)
  have hB : Below w2_.heap.size w2_ w2_.drew := below_drew (Below.refl _ _)
  generalize w2_.drew = w3_ at hB hHeld ⊢
  have nHB := Aside0.mk (HB.out.trans (hB.mono HB.out.size))
  clear HB
  have HB := nHB
  clear nHB
  clear hc_gr_0 hf_gr_0 hc_gr_1 hf_gr_1 hc_gr_2 hf_gr_2 hc_gr_3 hf_gr_3 hc_gr_4 hf_gr_4 hc_gr_5 hf_gr_5 hc_gr_6 hf_gr_6 hc_gr_7 hf_gr_7 hc_gr_8 hf_gr_8
  have nBK := Aside0.mk (blk_below BK_gr.out hB)
  clear BK_gr
  have BK_gr := nBK
  clear nBK
  obtain ⟨hc_gr_0, hc_gr_1, hc_gr_2, hc_gr_3, hc_gr_4, hc_gr_5, hc_gr_6, hc_gr_7, hc_gr_8, hf_gr_0, hf_gr_1, hf_gr_2, hf_gr_3, hf_gr_4, hf_gr_5, hf_gr_6, hf_gr_7, hf_gr_8⟩ := cf9 BK_gr.out
  clear hB
  refine pu 0 18 #[true, false, false, false, false, false, false, false, false, false, false, false] rfl rfl (any_of HT_.out (by kernel_rfl)) (fun _ _ _ h => h) (by rfl) (fun w' => by go_simp; with_reducible rfl) (by simp only [Act.put, List.setIfInBounds_toArray, List.set_cons_zero, List.set_cons_succ, i64_w, i32_w]; rfl) ?_
  refine pu 1 19 #[true, true, false, false, false, false, false, false, false, false, false, false] rfl rfl (any_of HT_.out (by kernel_rfl)) (fun _ _ _ h => h) (by rfl) (fun w' => by go_simp; with_reducible rfl) (by simp only [Act.put, List.setIfInBounds_toArray, List.set_cons_zero, List.set_cons_succ, i64_w, i32_w]; rfl) ?_
  refine pu 2 20 #[true, true, true, false, false, false, false, false, false, false, false, false] rfl rfl (any_of HT_.out (by kernel_rfl)) (fun _ _ _ h => h) (by rfl) (fun w' => by go_simp; with_reducible rfl) (by simp only [Act.put, List.setIfInBounds_toArray, List.set_cons_zero, List.set_cons_succ, i64_w, i32_w]; rfl) ?_
  refine pu 3 21 #[true, true, true, true, false, false, false, false, false, false, false, false] rfl rfl (any_of HT_.out (by kernel_rfl)) (fun _ _ _ h => h) (by rfl) (fun w' => by go_simp; with_reducible rfl) (by simp only [Act.put, List.setIfInBounds_toArray, List.set_cons_zero, List.set_cons_succ, i64_w, i32_w]; rfl) ?_
  refine take_ (i := 4) (N := some 22) (v := ?_) (a' := ?_) #[true, true, true, true, true, false, false, false, false, false, false, false] rfl rfl (take_ofW HT_.out HW_.out (by kernel_rfl)) (fun _ _ _ h => h) (Or.inl ⟨by rfl, ?_⟩) hHeld ?_ ?_
  rotate_left
  · rintro w' ⟨s0, s1, s2, s3, s4, s5, s6, s7, s8, s9, s10⟩
    go_simp
    with_reducible rfl
  rotate_left
  · simp only [Act.put, List.setIfInBounds_toArray, List.set_cons_zero, List.set_cons_succ, i64_w, i32_w]
    rfl
  refine pu 5 23 #[true, true, true, true, true, true, false, false, false, false, false, false] rfl rfl (any_of HT_.out (by kernel_rfl)) (fun _ _ _ h => h) (by rfl) (fun w' => by go_simp; with_reducible rfl) (by simp only [Act.put, List.setIfInBounds_toArray, List.set_cons_zero, List.set_cons_succ, i64_w, i32_w]; rfl) ?_
  refine pu 6 24 #[true, true, true, true, true, true, true, false, false, false, false, false] rfl rfl (any_of HT_.out (by kernel_rfl)) (fun _ _ _ h => h) (by rfl) (fun w' => by go_simp; with_reducible rfl) (by simp only [Act.put, List.setIfInBounds_toArray, List.set_cons_zero, List.set_cons_succ, i64_w, i32_w]; rfl) ?_
  refine take_ (i := 7) (N := some 25) (v := ?_) (a' := ?_) #[true, true, true, true, true, true, true, true, false, false, false, false] rfl rfl (take_ofW HT_.out HW_.out (by kernel_rfl)) (fun _ _ _ h => h) (Or.inl ⟨by rfl, ?_⟩) hHeld ?_ ?_
  rotate_left
  · rintro w' ⟨s0, s1, s2, s3, s4, s5, s6, s7, s8, s9, s10⟩
    go_simp
    with_reducible rfl
  rotate_left
  · simp only [Act.put, List.setIfInBounds_toArray, List.set_cons_zero, List.set_cons_succ, i64_w, i32_w]
    rfl
  refine pu 8 26 #[true, true, true, true, true, true, true, true, true, false, false, false] rfl rfl (any_of HT_.out (by kernel_rfl)) (fun _ _ _ h => h) (by rfl) (fun w' => by go_simp; with_reducible rfl) (by simp only [Act.put, List.setIfInBounds_toArray, List.set_cons_zero, List.set_cons_succ, i64_w, i32_w]; rfl) ?_
  refine pu 9 27 #[true, true, true, true, true, true, true, true, true, true, false, false] rfl rfl (any_of HT_.out (by kernel_rfl)) (fun _ _ _ h => h) (by rfl) (fun w' => by go_simp; with_reducible rfl) (by simp only [Act.put, List.setIfInBounds_toArray, List.set_cons_zero, List.set_cons_succ, i64_w, i32_w]; rfl) ?_
  refine one_ (i := 10) (N := some 28) #[true, true, true, true, true, true, true, true, true, true, true, false] rfl rfl (one_of HT_.out (by kernel_rfl)) (by decide) (fun K hK => ?_)
  refine box_step ?hg (N := 28) ?hd (cs := #[.slice A4 y.length (c - 4), .int .u8 (rd l 0), .int .i64 0, .int .u8 (rd l 1), .int .u32 0, .bool false, .int .u8 0, .int .u8 0, .slice none 0 0, .slice none 0 0, .bool false]) (t := 66) ?hr ?_; (case hd => rfl); (case hg => rfl); (case hr => first | (go_simp; done) | (go_simp; rfl))
  intro g hg w4_ hbox hB
  have NB_g_gr := Aside0.mk (show g ≠ gr by rw [hg]; exact Nat.ne_of_gt (blk_lt BK_gr.out))
  have NB_gr_g := Aside0.mk (Ne.symm NB_g_gr.out)
  have GE_g := Aside0.mk (show w.heap.size ≤ g by rw [hg]; exact HB.out.size)
  have nHB := Aside0.mk (HB.out.trans (hB.mono HB.out.size))
  clear HB
  have HB := nHB
  clear nHB
  clear hc_gr_0 hf_gr_0 hc_gr_1 hf_gr_1 hc_gr_2 hf_gr_2 hc_gr_3 hf_gr_3 hc_gr_4 hf_gr_4 hc_gr_5 hf_gr_5 hc_gr_6 hf_gr_6 hc_gr_7 hf_gr_7 hc_gr_8 hf_gr_8
  have nBK := Aside0.mk (blk_below BK_gr.out hB)
  clear BK_gr
  have BK_gr := nBK
  clear nBK
  obtain ⟨hc_gr_0, hc_gr_1, hc_gr_2, hc_gr_3, hc_gr_4, hc_gr_5, hc_gr_6, hc_gr_7, hc_gr_8, hf_gr_0, hf_gr_1, hf_gr_2, hf_gr_3, hf_gr_4, hf_gr_5, hf_gr_6, hf_gr_7, hf_gr_8⟩ := cf9 BK_gr.out
  have BK_g := Aside0.mk hbox
  clear hg hbox hB
  obtain ⟨hc_g_0, hc_g_1, hc_g_2, hc_g_3, hc_g_4, hc_g_5, hc_g_6, hc_g_7, hc_g_8, hc_g_9, hc_g_10, hf_g_0, hf_g_1, hf_g_2, hf_g_3, hf_g_4, hf_g_5, hf_g_6, hf_g_7, hf_g_8, hf_g_9, hf_g_10⟩ := cf11 BK_g.out
  refine hK.out _ _ ⟨hc_gr_0, hc_gr_1, hc_gr_2, hc_gr_3, hc_gr_4, hc_gr_5, hc_gr_6, hc_gr_7, hc_gr_8, ((HB.out.cell (World.block_lt_of_cell? w _ y0w.out)).trans y0w.out), ((HB.out.cell (World.block_lt_of_cell? w _ y1w.out)).trans y1w.out)⟩ (fun hHeld => ?_)
  clear hK K
  refine norm_ (a' := ?_) ?_ ?_
  rotate_left
  · show Act.put _ (some 28) _ = _
    simp only [Act.put, List.setIfInBounds_toArray, List.set_cons_zero, List.set_cons_succ, i64_w, i32_w]
    rfl
  refine pu 11 4 #[true, true, true, true, true, true, true, true, true, true, true, true] rfl rfl (any_of HT_.out (by kernel_rfl)) (fun _ _ _ h => h) (by rfl) (fun w' => by go_simp; with_reducible rfl) (by simp only [Act.put, List.setIfInBounds_toArray, List.set_cons_zero, List.set_cons_succ, i64_w, i32_w]; rfl) ?_
  refine done_ (done_of HT_.out (by kernel_rfl)) ?_
  clear hc_gr_0 hf_gr_0 hc_gr_1 hf_gr_1 hc_gr_2 hf_gr_2 hc_gr_3 hf_gr_3 hc_gr_4 hf_gr_4 hc_gr_5 hf_gr_5 hc_gr_6 hf_gr_6 hc_gr_7 hf_gr_7 hc_gr_8 hf_gr_8
  clear hc_g_0 hf_g_0 hc_g_1 hf_g_1 hc_g_2 hf_g_2 hc_g_3 hf_g_3 hc_g_4 hf_g_4 hc_g_5 hf_g_5 hc_g_6 hf_g_6 hc_g_7 hf_g_7 hc_g_8 hf_g_8 hc_g_9 hf_g_9 hc_g_10 hf_g_10
  have HMB := Aside0.mk (Below.refl w4_.heap.size w4_)
  go_wp2_with (first | ((with_reducible refine gate_dst (N := 29) rfl ?_); refine mk_ rfl 67 rfl ?_; intro b wm0 hbe hm hb; have HMB0 := Aside0.mk hb; have HBG := Aside0.mk (Nat.le_of_eq hbe.symm); have HMP0 := Aside0.mk hm; clear hbe hm hb) | (refine ins_ rfl (.tmp 29) (.tmp 31) 17 rfl b _ _ rfl _ rfl HMP0.out rfl ?_; intro wm1 hm hR; have HMP1 := Aside0.mk hm; have HMB1 := Aside0.mk (hR.below HMB0.out HBG.out); clear hm hR) | (refine ins_ rfl (.tmp 29) (.tmp 33) 18 rfl b _ _ rfl _ rfl HMP1.out rfl ?_; intro wm2 hm hR; have HMP2 := Aside0.mk hm; have HMB2 := Aside0.mk (hR.below HMB1.out HBG.out); clear hm hR) | (refine ins_ rfl (.tmp 29) (.tmp 35) 22 rfl b _ _ rfl _ rfl HMP2.out rfl ?_; intro wm3 hm hR; have HMP3 := Aside0.mk hm; have HMB3 := Aside0.mk (hR.below HMB2.out HBG.out); clear hm hR) | (refine ins_ rfl (.tmp 29) (.tmp 37) 23 rfl b _ _ rfl _ rfl HMP3.out rfl ?_; intro wm4 hm hR; have HMP4 := Aside0.mk hm; have HMB4 := Aside0.mk (hR.below HMB3.out HBG.out); clear hm hR) | (refine ins_ rfl (.tmp 29) (.tmp 39) 34 rfl b _ _ rfl _ rfl HMP4.out rfl ?_; intro wm5 hm hR; have HMP5 := Aside0.mk hm; have HMB5 := Aside0.mk (hR.below HMB4.out HBG.out); clear hm hR; have HB6 := Aside0.mk (HB.out.trans (HMB5.out.mono HB.out.size)); have y06 := (HB6.out.cell (World.block_lt_of_cell? w _ y0w.out)).trans y0w.out; have hlk := run_look (b := b) (kv := rd l 0) (es := es6 (.pointer (some ⟨g, 0, none⟩))) HMP5.out (HFD.out _)) | ((with_reducible refine gate_dst (N := 53) rfl ?_); refine goesB_ (some 53) rfl rfl HF.out HNM.out HBD.out #[.pointer (some ⟨g, 0, none⟩)] #[.pointer (some ⟨g, 0, none⟩)] rfl rfl (by simp) ?_; with_reducible refine (ReadsTo.calls HRD.out HB6.out GE_g.out (blk_below BK_g.out HMB5.out) HY.out HKY.out).mono ?_; rintro e w7 ⟨vS, vR, A7, c7, rfl, hS, hN, hb, hR⟩; refine ⟨_, rfl, ?_⟩; clear y06 hlk; obtain ⟨A_s, c_s, rfl⟩ := Kd.R_slice hS; obtain ⟨A_r, c_r, rfl⟩ := Kd.N_slice hN; have HS7 := Aside0.mk hS; have HN7 := Aside0.mk hN; have BG7 := Aside0.mk hb; have HB7 := Aside0.mk (hR.below HB6.out GE_g.out); have BR7 := Aside0.mk ((hR.block (blk_lt (blk_below (g := gr) BK_gr.out HMB5.out)) NB_gr_g.out).trans (blk_below (g := gr) BK_gr.out HMB5.out)); have LR7 := Aside0.mk (blk_lt (blk_below (g := gr) BK_gr.out HMB5.out)); clear hS hN hb hR; obtain ⟨hcg_0, hcg_1, hcg_2, hcg_3, hcg_4, hcg_5, hcg_6, hcg_7, hcg_8, hcg_9, hcg_10, hfg_0, hfg_1, hfg_2, hfg_3, hfg_4, hfg_5, hfg_6, hfg_7, hfg_8, hfg_9, hfg_10⟩ := cf11 BG7.out; obtain ⟨hcr_0, hcr_1, hcr_2, hcr_3, hcr_4, hcr_5, hcr_6, hcr_7, hcr_8, hfr_0, hfr_1, hfr_2, hfr_3, hfr_4, hfr_5, hfr_6, hfr_7, hfr_8⟩ := cf9 BR7.out) | (go_at_call 15; with_reducible refine (right_w HQ.out _ _ _ _ w7 (Kd.R_reads' HS7.out).2.2 (Kd.R_reads' HS7.out).2.1 (Kd.N_reads' HN7.out).2.2 (Kd.N_reads' HN7.out).2.1).mono ?_; rintro e w8 ⟨rfl, hb⟩; clear hcg_0 hfg_0 hcg_1 hfg_1 hcg_2 hfg_2 hcg_3 hfg_3 hcg_4 hfg_4 hcg_5 hfg_5 hcg_6 hfg_6 hcg_7 hfg_7 hcg_8 hfg_8 hcg_9 hfg_9 hcg_10 hfg_10 hcr_0 hfr_0 hcr_1 hfr_1 hcr_2 hfr_2 hcr_3 hfr_3 hcr_4 hfr_4 hcr_5 hfr_5 hcr_6 hfr_6 hcr_7 hfr_7 hcr_8 hfr_8; have BG8 := Aside0.mk (blk_below BG7.out hb); have BR8 := Aside0.mk (blk_below BR7.out hb); have HS8 := Aside0.mk (Kd.R_below HS7.out hb); have HN8 := Aside0.mk (Kd.N_below HN7.out hb); have HB8 := Aside0.mk (HB7.out.trans (hb.mono HB7.out.size)); clear hb; obtain ⟨hcg_0, hcg_1, hcg_2, hcg_3, hcg_4, hcg_5, hcg_6, hcg_7, hcg_8, hcg_9, hcg_10, hfg_0, hfg_1, hfg_2, hfg_3, hfg_4, hfg_5, hfg_6, hfg_7, hfg_8, hfg_9, hfg_10⟩ := cf11 BG8.out; obtain ⟨hcr_0, hcr_1, hcr_2, hcr_3, hcr_4, hcr_5, hcr_6, hcr_7, hcr_8, hfr_0, hfr_1, hfr_2, hfr_3, hfr_4, hfr_5, hfr_6, hfr_7, hfr_8⟩ := cf9 BR8.out))
  try simp only [Exit.inBlock, Exit.then]
  refine bodyPost_ret (results_ct rfl _ _ gr 27 #[.int .u8 0, .int .i64 0, .int .u8 0, .int .u32 0, .bool false, .int .u8 0, .int .u8 0, .slice none 0 0, .slice none 0 0] (0, 0) _ rfl (z9 BR8.out (.int .u8 0) (.int .i64 0) (.int .u8 0) (.int .u32 0) (.bool false) (.int .u8 0) (.int .u8 0) (.slice none 0 0) (.slice none 0 0)) Try.underlying27 rfl (by kernel_rfl)) rfl ?_
  exact decP_0 2 (l9 HB8.out GE_gr.out (.int .u8 0) (.int .i64 0) (.int .u8 0) (.int .u32 0) (.bool false) (.int .u8 0) (.int .u8 0) (.slice none 0 0) (.slice none 0 0))
set_option maxHeartbeats 8000000 in
set_option maxRecDepth 100000 in
theorem dec_right {l : List Int} {K : Nat} (hl : 8 ≤ l.length) (hw : sum_Whole.f l = some true) {fid j : Nat} {fn : Func} (hf : Try.prog.funcs[fid]? = some fn) (hnm : (fn.name == "runtime.NumGoroutine") = false) (hbd : fn.body.isSome = true) (hfd : ∀ p, Instr.findNow (.int .u8) (.int .u8 (rd l 0)) (es6 p).toList 0 = some (some (j, .func (.func fid) #[p] #[]))) {m : Msg} {rest : List Int} (hrd : ReadsTo fid (rd l 0) (rd l 1) (l.drop 4) (m, rest, false)) (hrs : rest.length = 0) (hq : igmp_Right.f K m.k m.ver m.code m.grp m.quiet m.rob m.every m.srcs m.recs = some true) (A : Option Addr) (c : Nat) (w : World) (hr : Kd.C (Kd.int .u8) w A l.length l) (hc : l.length ≤ c) :
    Calls Try.prog 20 #[.slice A l.length c] w (DecP w m 0) := by
  have hu27 := Try.underlying27
  have hu66 : Try.prog.underlying 66 = _ := Try.underlying66
  have HB := Aside0.mk (Below.refl w.heap.size w)
  have HC_l := Aside0.mk hr
  have HK_l := Aside0.mk hc
  clear hr hc
  have hd8 : decide ((l.length : Int) < 8) = false := decide_eq_false (by omega)
  have hn8 : ¬ l.length < 8 := by omega
  have HWH := Aside0.mk hw
  have HFD := Aside0.mk hfd
  clear hw hfd
  have HF := Aside0.mk hf
  have HNM := Aside0.mk hnm
  have HBD := Aside0.mk hbd
  have HRD := Aside0.mk hrd
  clear hf hnm hbd hrd
  have HQ := Aside0.mk hq
  clear hq
  have hr1 : decide ((0 : Int) < (rest.length : Int)) = false := decide_eq_false (by omega)
  have HRS := Aside0.mk hrs
  have hr2 : ¬ 0 < rest.length := by omega
  clear hrs
  go_enter Try.func20, Try.ntmps20
  obtain ⟨i_, hi_, _, hz_, _⟩ := info_parts Try.info5
  obtain ⟨A4, hcutb, hAb, hKb⟩ := print_drop_of (P := Try.prog) (Value.int .u8) 0 30 5 .i64 Try.underlying30 hi_ hz_ A c l (4 : Int) (by omega) (by omega) HK_l.out
  simp only [show Int.toNat 4 = 4 from rfl] at hAb hKb hcutb
  obtain ⟨y, hy⟩ : ∃ y_, y_ = l.drop 4 := ⟨_, rfl⟩
  rw [← hy] at hAb hKb hcutb HRD
  have HY := Aside0.mk (show Kd.C (Kd.int .u8) w A4 y.length y from Kd.C_of_reads (h1 := fun _ => rfl) (hAb w (Kd.reads_of_C HC_l.out)))
  have HKY := Aside0.mk hKb
  clear hAb hKb hi_ hz_ hy
  obtain ⟨ad, hAd, _⟩ := Kd.at_int HC_l.out 0 (by omega) (by omega)
  subst hAd
  have y0w := Aside0.mk (idx_cell0 HC_l.out (by omega))
  have y1w := Aside0.mk (idx_cell HC_l.out 1 (by decide) (by omega))
  have bn0 : ((0 : Int) < (l.length : Int)) = True := eq_true (by omega)
  have bn1 : ((1 : Int) < (l.length : Int)) = True := eq_true (by omega)
  have hp0 : 0 < l.length := by omega
  go_upto_region 5 with (first | ((with_reducible refine gate_dst (N := 2) rfl ?_); (try (refine gate_guard (by rfl) ?_; dsimp only)); refine box_event ?hg (N := 2) ?hd (cs := #[.int .u8 0, .int .i64 0, .int .u8 0, .int .u32 0, .bool false, .int .u8 0, .int .u8 0, .slice none 0 0, .slice none 0 0]) (t := 27) ?hr ?_; (case hd => rfl); (case hg => rfl); (case hr => first | (go_simp; done) | (go_simp; rfl)); intro gr hg w1_ hbox hB; have HBo := Aside0.mk HB.out; have nHB := Aside0.mk (HB.out.trans (hB.mono HB.out.size)); clear HB; have HB := nHB; clear nHB; have BK_gr := Aside0.mk hbox; have GE_gr := Aside0.mk (show w.heap.size ≤ gr by rw [hg]; exact HBo.out.size); clear hg hbox hB; obtain ⟨hc_gr_0, hc_gr_1, hc_gr_2, hc_gr_3, hc_gr_4, hc_gr_5, hc_gr_6, hc_gr_7, hc_gr_8, hf_gr_0, hf_gr_1, hf_gr_2, hf_gr_3, hf_gr_4, hf_gr_5, hf_gr_6, hf_gr_7, hf_gr_8⟩ := cf9 BK_gr.out; clear HBo) | (go_at_call 40; with_reducible refine (sum_Whole.calls _ _ l _ _ (Kd.C_below HC_l.out HB.out) HK_l.out HWH.out).mono ?_; rintro e w2_ ⟨rfl, hB⟩; have nHB := Aside0.mk (HB.out.trans (hB.mono HB.out.size)); clear HB; have HB := nHB; clear nHB; clear hc_gr_0 hf_gr_0 hc_gr_1 hf_gr_1 hc_gr_2 hf_gr_2 hc_gr_3 hf_gr_3 hc_gr_4 hf_gr_4 hc_gr_5 hf_gr_5 hc_gr_6 hf_gr_6 hc_gr_7 hf_gr_7 hc_gr_8 hf_gr_8; have nBK := Aside0.mk (blk_below BK_gr.out hB); clear BK_gr; have BK_gr := nBK; clear nBK; obtain ⟨hc_gr_0, hc_gr_1, hc_gr_2, hc_gr_3, hc_gr_4, hc_gr_5, hc_gr_6, hc_gr_7, hc_gr_8, hf_gr_0, hf_gr_1, hf_gr_2, hf_gr_3, hf_gr_4, hf_gr_5, hf_gr_6, hf_gr_7, hf_gr_8⟩ := cf9 BK_gr.out; clear hB))
  refine start_ (n := 12) (S := fun w' => w'.cell? ⟨gr, 0, none⟩ = some (.int .u8 0) ∧ w'.cell? ⟨gr, 1, none⟩ = some (.int .i64 0) ∧ w'.cell? ⟨gr, 2, none⟩ = some (.int .u8 0) ∧ w'.cell? ⟨gr, 3, none⟩ = some (.int .u32 0) ∧ w'.cell? ⟨gr, 4, none⟩ = some (.bool false) ∧ w'.cell? ⟨gr, 5, none⟩ = some (.int .u8 0) ∧ w'.cell? ⟨gr, 6, none⟩ = some (.int .u8 0) ∧ w'.cell? ⟨gr, 7, none⟩ = some (.slice none 0 0) ∧ w'.cell? ⟨gr, 8, none⟩ = some (.slice none 0 0) ∧ w'.cell? ad = some (.int .u8 (rd l 0)) ∧ w'.cell? ⟨ad.block, ad.off + 1, none⟩ = some (.int .u8 (rd l 1))) (ds := []) #[false, false, false, false, false, false, false, false, false, false, false, false] (by kernel_rfl) rfl rfl ⟨hc_gr_0, hc_gr_1, hc_gr_2, hc_gr_3, hc_gr_4, hc_gr_5, hc_gr_6, hc_gr_7, hc_gr_8, ((HB.out.cell (World.block_lt_of_cell? w _ y0w.out)).trans y0w.out), ((HB.out.cell (World.block_lt_of_cell? w _ y1w.out)).trans y1w.out)⟩ (fun hHeld => ?_); refine with_tabW dec_t dec_b (fun HT_ HW_ => ?_)
  have hB : Below w2_.heap.size w2_ w2_.drew := below_drew (Below.refl _ _)
  generalize w2_.drew = w3_ at hB hHeld ⊢
  have nHB := Aside0.mk (HB.out.trans (hB.mono HB.out.size))
  clear HB
  have HB := nHB
  clear nHB
  clear hc_gr_0 hf_gr_0 hc_gr_1 hf_gr_1 hc_gr_2 hf_gr_2 hc_gr_3 hf_gr_3 hc_gr_4 hf_gr_4 hc_gr_5 hf_gr_5 hc_gr_6 hf_gr_6 hc_gr_7 hf_gr_7 hc_gr_8 hf_gr_8
  have nBK := Aside0.mk (blk_below BK_gr.out hB)
  clear BK_gr
  have BK_gr := nBK
  clear nBK
  obtain ⟨hc_gr_0, hc_gr_1, hc_gr_2, hc_gr_3, hc_gr_4, hc_gr_5, hc_gr_6, hc_gr_7, hc_gr_8, hf_gr_0, hf_gr_1, hf_gr_2, hf_gr_3, hf_gr_4, hf_gr_5, hf_gr_6, hf_gr_7, hf_gr_8⟩ := cf9 BK_gr.out
  clear hB
  refine pu 0 18 #[true, false, false, false, false, false, false, false, false, false, false, false] rfl rfl (any_of HT_.out (by kernel_rfl)) (fun _ _ _ h => h) (by rfl) (fun w' => by go_simp; with_reducible rfl) (by simp only [Act.put, List.setIfInBounds_toArray, List.set_cons_zero, List.set_cons_succ, i64_w, i32_w]; rfl) ?_
  refine pu 1 19 #[true, true, false, false, false, false, false, false, false, false, false, false] rfl rfl (any_of HT_.out (by kernel_rfl)) (fun _ _ _ h => h) (by rfl) (fun w' => by go_simp; with_reducible rfl) (by simp only [Act.put, List.setIfInBounds_toArray, List.set_cons_zero, List.set_cons_succ, i64_w, i32_w]; rfl) ?_
  refine pu 2 20 #[true, true, true, false, false, false, false, false, false, false, false, false] rfl rfl (any_of HT_.out (by kernel_rfl)) (fun _ _ _ h => h) (by rfl) (fun w' => by go_simp; with_reducible rfl) (by simp only [Act.put, List.setIfInBounds_toArray, List.set_cons_zero, List.set_cons_succ, i64_w, i32_w]; rfl) ?_
  refine pu 3 21 #[true, true, true, true, false, false, false, false, false, false, false, false] rfl rfl (any_of HT_.out (by kernel_rfl)) (fun _ _ _ h => h) (by rfl) (fun w' => by go_simp; with_reducible rfl) (by simp only [Act.put, List.setIfInBounds_toArray, List.set_cons_zero, List.set_cons_succ, i64_w, i32_w]; rfl) ?_
  refine take_ (i := 4) (N := some 22) (v := ?_) (a' := ?_) #[true, true, true, true, true, false, false, false, false, false, false, false] rfl rfl (take_ofW HT_.out HW_.out (by kernel_rfl)) (fun _ _ _ h => h) (Or.inl ⟨by rfl, ?_⟩) hHeld ?_ ?_
  rotate_left
  · rintro w' ⟨s0, s1, s2, s3, s4, s5, s6, s7, s8, s9, s10⟩
    go_simp
    with_reducible rfl
  rotate_left
  · simp only [Act.put, List.setIfInBounds_toArray, List.set_cons_zero, List.set_cons_succ, i64_w, i32_w]
    rfl
  refine pu 5 23 #[true, true, true, true, true, true, false, false, false, false, false, false] rfl rfl (any_of HT_.out (by kernel_rfl)) (fun _ _ _ h => h) (by rfl) (fun w' => by go_simp; with_reducible rfl) (by simp only [Act.put, List.setIfInBounds_toArray, List.set_cons_zero, List.set_cons_succ, i64_w, i32_w]; rfl) ?_
  refine pu 6 24 #[true, true, true, true, true, true, true, false, false, false, false, false] rfl rfl (any_of HT_.out (by kernel_rfl)) (fun _ _ _ h => h) (by rfl) (fun w' => by go_simp; with_reducible rfl) (by simp only [Act.put, List.setIfInBounds_toArray, List.set_cons_zero, List.set_cons_succ, i64_w, i32_w]; rfl) ?_
  refine take_ (i := 7) (N := some 25) (v := ?_) (a' := ?_) #[true, true, true, true, true, true, true, true, false, false, false, false] rfl rfl (take_ofW HT_.out HW_.out (by kernel_rfl)) (fun _ _ _ h => h) (Or.inl ⟨by rfl, ?_⟩) hHeld ?_ ?_
  rotate_left
  · rintro w' ⟨s0, s1, s2, s3, s4, s5, s6, s7, s8, s9, s10⟩
    go_simp
    with_reducible rfl
  rotate_left
  · simp only [Act.put, List.setIfInBounds_toArray, List.set_cons_zero, List.set_cons_succ, i64_w, i32_w]
    rfl
  refine pu 8 26 #[true, true, true, true, true, true, true, true, true, false, false, false] rfl rfl (any_of HT_.out (by kernel_rfl)) (fun _ _ _ h => h) (by rfl) (fun w' => by go_simp; with_reducible rfl) (by simp only [Act.put, List.setIfInBounds_toArray, List.set_cons_zero, List.set_cons_succ, i64_w, i32_w]; rfl) ?_
  refine pu 9 27 #[true, true, true, true, true, true, true, true, true, true, false, false] rfl rfl (any_of HT_.out (by kernel_rfl)) (fun _ _ _ h => h) (by rfl) (fun w' => by go_simp; with_reducible rfl) (by simp only [Act.put, List.setIfInBounds_toArray, List.set_cons_zero, List.set_cons_succ, i64_w, i32_w]; rfl) ?_
  refine one_ (i := 10) (N := some 28) #[true, true, true, true, true, true, true, true, true, true, true, false] rfl rfl (one_of HT_.out (by kernel_rfl)) (by decide) (fun K hK => ?_)
  refine box_step ?hg (N := 28) ?hd (cs := #[.slice A4 y.length (c - 4), .int .u8 (rd l 0), .int .i64 0, .int .u8 (rd l 1), .int .u32 0, .bool false, .int .u8 0, .int .u8 0, .slice none 0 0, .slice none 0 0, .bool false]) (t := 66) ?hr ?_; (case hd => rfl); (case hg => rfl); (case hr => first | (go_simp; done) | (go_simp; rfl))
  intro g hg w4_ hbox hB
  have NB_g_gr := Aside0.mk (show g ≠ gr by rw [hg]; exact Nat.ne_of_gt (blk_lt BK_gr.out))
  have NB_gr_g := Aside0.mk (Ne.symm NB_g_gr.out)
  have GE_g := Aside0.mk (show w.heap.size ≤ g by rw [hg]; exact HB.out.size)
  have nHB := Aside0.mk (HB.out.trans (hB.mono HB.out.size))
  clear HB
  have HB := nHB
  clear nHB
  clear hc_gr_0 hf_gr_0 hc_gr_1 hf_gr_1 hc_gr_2 hf_gr_2 hc_gr_3 hf_gr_3 hc_gr_4 hf_gr_4 hc_gr_5 hf_gr_5 hc_gr_6 hf_gr_6 hc_gr_7 hf_gr_7 hc_gr_8 hf_gr_8
  have nBK := Aside0.mk (blk_below BK_gr.out hB)
  clear BK_gr
  have BK_gr := nBK
  clear nBK
  obtain ⟨hc_gr_0, hc_gr_1, hc_gr_2, hc_gr_3, hc_gr_4, hc_gr_5, hc_gr_6, hc_gr_7, hc_gr_8, hf_gr_0, hf_gr_1, hf_gr_2, hf_gr_3, hf_gr_4, hf_gr_5, hf_gr_6, hf_gr_7, hf_gr_8⟩ := cf9 BK_gr.out
  have BK_g := Aside0.mk hbox
  clear hg hbox hB
  obtain ⟨hc_g_0, hc_g_1, hc_g_2, hc_g_3, hc_g_4, hc_g_5, hc_g_6, hc_g_7, hc_g_8, hc_g_9, hc_g_10, hf_g_0, hf_g_1, hf_g_2, hf_g_3, hf_g_4, hf_g_5, hf_g_6, hf_g_7, hf_g_8, hf_g_9, hf_g_10⟩ := cf11 BK_g.out
  refine hK.out _ _ ⟨hc_gr_0, hc_gr_1, hc_gr_2, hc_gr_3, hc_gr_4, hc_gr_5, hc_gr_6, hc_gr_7, hc_gr_8, ((HB.out.cell (World.block_lt_of_cell? w _ y0w.out)).trans y0w.out), ((HB.out.cell (World.block_lt_of_cell? w _ y1w.out)).trans y1w.out)⟩ (fun hHeld => ?_)
  clear hK K
  refine norm_ (a' := ?_) ?_ ?_
  rotate_left
  · show Act.put _ (some 28) _ = _
    simp only [Act.put, List.setIfInBounds_toArray, List.set_cons_zero, List.set_cons_succ, i64_w, i32_w]
    rfl
  refine pu 11 4 #[true, true, true, true, true, true, true, true, true, true, true, true] rfl rfl (any_of HT_.out (by kernel_rfl)) (fun _ _ _ h => h) (by rfl) (fun w' => by go_simp; with_reducible rfl) (by simp only [Act.put, List.setIfInBounds_toArray, List.set_cons_zero, List.set_cons_succ, i64_w, i32_w]; rfl) ?_
  refine done_ (done_of HT_.out (by kernel_rfl)) ?_
  clear hc_gr_0 hf_gr_0 hc_gr_1 hf_gr_1 hc_gr_2 hf_gr_2 hc_gr_3 hf_gr_3 hc_gr_4 hf_gr_4 hc_gr_5 hf_gr_5 hc_gr_6 hf_gr_6 hc_gr_7 hf_gr_7 hc_gr_8 hf_gr_8
  clear hc_g_0 hf_g_0 hc_g_1 hf_g_1 hc_g_2 hf_g_2 hc_g_3 hf_g_3 hc_g_4 hf_g_4 hc_g_5 hf_g_5 hc_g_6 hf_g_6 hc_g_7 hf_g_7 hc_g_8 hf_g_8 hc_g_9 hf_g_9 hc_g_10 hf_g_10
  have HMB := Aside0.mk (Below.refl w4_.heap.size w4_)
  go_wp2_with (first | ((with_reducible refine gate_dst (N := 29) rfl ?_); refine mk_ rfl 67 rfl ?_; intro b wm0 hbe hm hb; have HMB0 := Aside0.mk hb; have HBG := Aside0.mk (Nat.le_of_eq hbe.symm); have HMP0 := Aside0.mk hm; clear hbe hm hb) | (refine ins_ rfl (.tmp 29) (.tmp 31) 17 rfl b _ _ rfl _ rfl HMP0.out rfl ?_; intro wm1 hm hR; have HMP1 := Aside0.mk hm; have HMB1 := Aside0.mk (hR.below HMB0.out HBG.out); clear hm hR) | (refine ins_ rfl (.tmp 29) (.tmp 33) 18 rfl b _ _ rfl _ rfl HMP1.out rfl ?_; intro wm2 hm hR; have HMP2 := Aside0.mk hm; have HMB2 := Aside0.mk (hR.below HMB1.out HBG.out); clear hm hR) | (refine ins_ rfl (.tmp 29) (.tmp 35) 22 rfl b _ _ rfl _ rfl HMP2.out rfl ?_; intro wm3 hm hR; have HMP3 := Aside0.mk hm; have HMB3 := Aside0.mk (hR.below HMB2.out HBG.out); clear hm hR) | (refine ins_ rfl (.tmp 29) (.tmp 37) 23 rfl b _ _ rfl _ rfl HMP3.out rfl ?_; intro wm4 hm hR; have HMP4 := Aside0.mk hm; have HMB4 := Aside0.mk (hR.below HMB3.out HBG.out); clear hm hR) | (refine ins_ rfl (.tmp 29) (.tmp 39) 34 rfl b _ _ rfl _ rfl HMP4.out rfl ?_; intro wm5 hm hR; have HMP5 := Aside0.mk hm; have HMB5 := Aside0.mk (hR.below HMB4.out HBG.out); clear hm hR; have HB6 := Aside0.mk (HB.out.trans (HMB5.out.mono HB.out.size)); have y06 := (HB6.out.cell (World.block_lt_of_cell? w _ y0w.out)).trans y0w.out; have hlk := run_look (b := b) (kv := rd l 0) (es := es6 (.pointer (some ⟨g, 0, none⟩))) HMP5.out (HFD.out _)) | ((with_reducible refine gate_dst (N := 53) rfl ?_); refine goesB_ (some 53) rfl rfl HF.out HNM.out HBD.out #[.pointer (some ⟨g, 0, none⟩)] #[.pointer (some ⟨g, 0, none⟩)] rfl rfl (by simp) ?_; with_reducible refine (ReadsTo.calls HRD.out HB6.out GE_g.out (blk_below BK_g.out HMB5.out) HY.out HKY.out).mono ?_; rintro e w7 ⟨vS, vR, A7, c7, rfl, hS, hN, hb, hR⟩; refine ⟨_, rfl, ?_⟩; clear y06 hlk; obtain ⟨A_s, c_s, rfl⟩ := Kd.R_slice hS; obtain ⟨A_r, c_r, rfl⟩ := Kd.N_slice hN; have HS7 := Aside0.mk hS; have HN7 := Aside0.mk hN; have BG7 := Aside0.mk hb; have HB7 := Aside0.mk (hR.below HB6.out GE_g.out); have BR7 := Aside0.mk ((hR.block (blk_lt (blk_below (g := gr) BK_gr.out HMB5.out)) NB_gr_g.out).trans (blk_below (g := gr) BK_gr.out HMB5.out)); have LR7 := Aside0.mk (blk_lt (blk_below (g := gr) BK_gr.out HMB5.out)); clear hS hN hb hR; obtain ⟨hcg_0, hcg_1, hcg_2, hcg_3, hcg_4, hcg_5, hcg_6, hcg_7, hcg_8, hcg_9, hcg_10, hfg_0, hfg_1, hfg_2, hfg_3, hfg_4, hfg_5, hfg_6, hfg_7, hfg_8, hfg_9, hfg_10⟩ := cf11 BG7.out; obtain ⟨hcr_0, hcr_1, hcr_2, hcr_3, hcr_4, hcr_5, hcr_6, hcr_7, hcr_8, hfr_0, hfr_1, hfr_2, hfr_3, hfr_4, hfr_5, hfr_6, hfr_7, hfr_8⟩ := cf9 BR7.out) | (go_at_call 15; with_reducible refine (right_w HQ.out _ _ _ _ w7 (Kd.R_reads' HS7.out).2.2 (Kd.R_reads' HS7.out).2.1 (Kd.N_reads' HN7.out).2.2 (Kd.N_reads' HN7.out).2.1).mono ?_; rintro e w8 ⟨rfl, hb⟩; clear hcg_0 hfg_0 hcg_1 hfg_1 hcg_2 hfg_2 hcg_3 hfg_3 hcg_4 hfg_4 hcg_5 hfg_5 hcg_6 hfg_6 hcg_7 hfg_7 hcg_8 hfg_8 hcg_9 hfg_9 hcg_10 hfg_10 hcr_0 hfr_0 hcr_1 hfr_1 hcr_2 hfr_2 hcr_3 hfr_3 hcr_4 hfr_4 hcr_5 hfr_5 hcr_6 hfr_6 hcr_7 hfr_7 hcr_8 hfr_8; have BG8 := Aside0.mk (blk_below BG7.out hb); have BR8 := Aside0.mk (blk_below BR7.out hb); have HS8 := Aside0.mk (Kd.R_below HS7.out hb); have HN8 := Aside0.mk (Kd.N_below HN7.out hb); have HB8 := Aside0.mk (HB7.out.trans (hb.mono HB7.out.size)); clear hb; obtain ⟨hcg_0, hcg_1, hcg_2, hcg_3, hcg_4, hcg_5, hcg_6, hcg_7, hcg_8, hcg_9, hcg_10, hfg_0, hfg_1, hfg_2, hfg_3, hfg_4, hfg_5, hfg_6, hfg_7, hfg_8, hfg_9, hfg_10⟩ := cf11 BG8.out; obtain ⟨hcr_0, hcr_1, hcr_2, hcr_3, hcr_4, hcr_5, hcr_6, hcr_7, hcr_8, hfr_0, hfr_1, hfr_2, hfr_3, hfr_4, hfr_5, hfr_6, hfr_7, hfr_8⟩ := cf9 BR8.out))
  try simp only [Exit.inBlock, Exit.then]
  refine bodyPost_ret (results_ct rfl _ _ gr 27 #[.int .u8 m.k, .int .i64 m.ver, .int .u8 m.code, .int .u32 m.grp, .bool m.quiet, .int .u8 m.rob, .int .u8 m.every, .slice A_s m.srcs.length c_s, .slice A_r m.recs.length c_r] (0, 0) _ rfl (z9 BR8.out (.int .u8 m.k) (.int .i64 m.ver) (.int .u8 m.code) (.int .u32 m.grp) (.bool m.quiet) (.int .u8 m.rob) (.int .u8 m.every) (.slice A_s m.srcs.length c_s) (.slice A_r m.recs.length c_r)) Try.underlying27 rfl (by kernel_rfl)) rfl ?_
  refine ⟨_, _, rfl, ?_, ?_, l9 HB8.out GE_gr.out (.int .u8 m.k) (.int .i64 m.ver) (.int .u8 m.code) (.int .u32 m.grp) (.bool m.quiet) (.int .u8 m.rob) (.int .u8 m.every) (.slice A_s m.srcs.length c_s) (.slice A_r m.recs.length c_r)⟩
  · exact Kd.R_mono (Kd.R_lower (Kd.R_keep (Kd.R_mono (Kd.R_tight rfl HS8.out) (fun k hk => (by have := Kd.R_base HS8.out k hk.symm; have := LR7.out; omega : k ≠ gr))) (m9 w8 gr (.int .u8 m.k) (.int .i64 m.ver) (.int .u8 m.code) (.int .u32 m.grp) (.bool m.quiet) (.int .u8 m.rob) (.int .u8 m.every) (.slice A_s m.srcs.length c_s) (.slice A_r m.recs.length c_r)).keep (fun _ hk => hk)) HB6.out.size) (fun _ _ => trivial)
  · exact Kd.N_mono (Kd.N_lower (Kd.N_keep HN8.out (m9 w8 gr (.int .u8 m.k) (.int .i64 m.ver) (.int .u8 m.code) (.int .u32 m.grp) (.bool m.quiet) (.int .u8 m.rob) (.int .u8 m.every) (.slice A_s m.srcs.length c_s) (.slice A_r m.recs.length c_r)).keep (fun k hk => (by have := hk.2; have := LR7.out; omega : k ≠ gr))) HB6.out.size) (fun _ _ => trivial)
end Go.Proofs.Ytmmjmncchckbbaa
