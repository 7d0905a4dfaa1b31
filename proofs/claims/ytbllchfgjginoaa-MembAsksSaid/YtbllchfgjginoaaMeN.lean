/-
  memb.Hear, walked.
-/
import Derived.Test.YtbllchfgjginoaaMeM
namespace Go.Proofs.Ytbllchfgjginoaa
open Go.RowKit Go.Lib Go.Proofs.YtbllchfgjginoaaW.PrintWords Go.Proofs.YtbllchfgjginoaaW.PrintLast Go.Proofs.YtbllchfgjginoaaW.PrintMore Go.Proofs.Ytbllchfgjginoaa.PMe
set_option linter.unusedVariables false
set_option linter.unusedSimpArgs false
def he_T5 : Bool × List (List Nat × List Nat) := (true, [([], []), ([], []), ([], []), ([2], [2]), ([0, 1, 3], [0, 1, 3]), ([4], [4]), ([5, 3, 0, 1, 2, 3, 4, 5], [5])])
def he_B5 : List Nat := [0, 0, 0, 4, 15, 31, 63]
theorem he_t5 : rtab .any (opsOf Try.f12 5) = he_T5 := by kernel_rfl
theorem he_b5 : waitsOk he_T5.2 he_B5 = true := by kernel_rfl
def he_T10 : Bool × List (List Nat × List Nat) := (true, [([], []), ([0], [0]), ([1], [1]), ([2], [2]), ([], []), ([4], [4]), ([5], [5]), ([6], [6]), ([3, 0, 1, 2, 3], [3]), ([7, 8, 0, 1, 2, 3, 4, 5, 6, 7, 8], [7]), ([9, 0, 1, 2, 3, 4, 5, 6, 7, 8, 9], [])])
def he_B10 : List Nat := [0, 1, 3, 7, 0, 16, 48, 112, 15, 511, 1023]
theorem he_t10 : rtab .any (opsOf Try.f12 10) = he_T10 := by kernel_rfl
theorem he_b10 : waitsOk he_T10.2 he_B10 = true := by kernel_rfl
/-- What a record comes to: what is known, what is asked, and how it went. -/
def HearPost (P : Nat → Prop) (w : World) (x : S28) (asks : List S46) (err : Int) (e : Ending) (w' : World) : Prop :=
  ∃ v0 v1 : Value, e = .returned (.tuple #[.agg #[.int .u32 x.f0, .bool x.f1, .int .i64 x.f2, v0], v1, .int .i64 err]) ∧ Kd.V k49 49 w' 0 (fun k => P k ∨ w.heap.size ≤ k) v0 x.f3 ∧ Kd.V k46 46 w' 0 (fun k => P k ∨ w.heap.size ≤ k) v1 asks ∧ Below w.heap.size w w'
/-- What does it. -/
def Does (f : FuncId) (F : WM → WM) : Prop := ∀ (base gw : Nat) (m : WM) (vS vB vA : Value) (w : World), Wk base gw m vS vB vA w → WOk m → base ≤ w.heap.size → Calls Try.prog f #[.pointer (some ⟨gw, 0, none⟩)] w fun e w' => e = .returned (.tuple #[]) ∧ (∃ vS' vA', Wk base gw (F m) vS' vB vA' w') ∧ Fr base gw w w'
def hear0 (t : S23) (x : S28) (l : List Int) : WM := ⟨x.f0, x.f1, x.f2, x.f3, t.f0, t.f1, mk l, []⟩
set_option maxHeartbeats 8000000 in
set_option maxRecDepth 100000 in
theorem hear_none {t : S23} {x : S28} {kind : Int} {l : List Int} (hfd : Instr.findNow (.int .u8) (.int .u8 kind) es6.toList 0 = some none) (A_x : Option Addr) (c_x : Nat) (A_l : Option Addr) (c_l : Nat) (w : World) (hx : Kd.C k49 w A_x x.f3.length x.f3) (hcx : x.f3.length ≤ c_x) (hl : Kd.C (Kd.int .u32) w A_l l.length l) (hcl : l.length ≤ c_l) (P : Nat → Prop) (hP : ∀ k, P k → k < w.heap.size) (hxF : Kd.F k49 w P A_x x.f3.length x.f3) :
    Calls Try.prog 12 #[.agg #[.int .i64 t.f0, .int .i64 t.f1], .agg #[.int .u32 x.f0, .bool x.f1, .int .i64 x.f2, .slice A_x x.f3.length c_x], .int .u8 kind, .slice A_l l.length c_l] w (HearPost P w x [] 1) := by
  have hu23 := Try.underlying23
  have hu28 := Try.underlying28
  have hu73 := Try.underlying73
  have HB := Aside0.mk (Below.refl w.heap.size w)
  have HC_x := Aside0.mk hx
  have HK_x := Aside0.mk hcx
  have HC_l := Aside0.mk hl
  have HK_l := Aside0.mk hcl
  have XP := Aside0.mk hP
  have FX := Aside0.mk hxF
  clear hx hcx hl hcl hP hxF
  have Xhfd := Aside0.mk hfd
  clear hfd
  go_enter Try.func12, Try.ntmps12
  go_wp2_with (first | ((with_reducible refine gate_dst (N := 4) rfl ?_); (try (refine gate_guard (by rfl) ?_; dsimp only)); refine box_event ?hg (N := 4) ?hd (cs := #[.int .i64 t.f0, .int .i64 t.f1]) (t := 23) ?hr ?_; (case hd => rfl); (case hg => rfl); (case hr => first | (go_simp; done) | (go_simp; rfl)); intro gt hg w1_ hbox hB; have HBo := Aside0.mk HB.out; have nHB := Aside0.mk (HB.out.trans (hB.mono HB.out.size)); clear HB; have HB := nHB; clear nHB; have BK_gt := Aside0.mk hbox; have GE_gt := Aside0.mk (show w.heap.size ≤ gt by rw [hg]; exact HBo.out.size); clear hg hbox hB; have hc_gt_0 : w1_.cell? ⟨gt, 0, none⟩ = some (.int .i64 t.f0) := (blk_cell BK_gt.out 0).trans rfl; have hf_gt_0 := blk_frozen BK_gt.out 0; have hc_gt_1 : w1_.cell? ⟨gt, 1, none⟩ = some (.int .i64 t.f1) := (blk_cell BK_gt.out 1).trans rfl; have hf_gt_1 := blk_frozen BK_gt.out 1; clear HBo) | ((with_reducible refine gate_dst (N := 5) rfl ?_); (try (refine gate_guard (by rfl) ?_; dsimp only)); refine box_event ?hg (N := 5) ?hd (cs := #[.int .u32 x.f0, .bool x.f1, .int .i64 x.f2, .slice A_x x.f3.length c_x]) (t := 28) ?hr ?_; (case hd => rfl); (case hg => rfl); (case hr => first | (go_simp; done) | (go_simp; rfl)); intro gh hg w2_ hbox hB; have HBo := Aside0.mk HB.out; have BK0_gt := Aside0.mk BK_gt.out; have nHB := Aside0.mk (HB.out.trans (hB.mono HB.out.size)); clear HB; have HB := nHB; clear nHB; clear hc_gt_0 hf_gt_0 hc_gt_1 hf_gt_1; have nBK := Aside0.mk (blk_below (g := gt) (o := .cells #[.int .i64 t.f0, .int .i64 t.f1] 23 (0, 0)) BK_gt.out hB); clear BK_gt; have BK_gt := nBK; clear nBK; have hc_gt_0 : w2_.cell? ⟨gt, 0, none⟩ = some (.int .i64 t.f0) := (blk_cell BK_gt.out 0).trans rfl; have hf_gt_0 := blk_frozen BK_gt.out 0; have hc_gt_1 : w2_.cell? ⟨gt, 1, none⟩ = some (.int .i64 t.f1) := (blk_cell BK_gt.out 1).trans rfl; have hf_gt_1 := blk_frozen BK_gt.out 1; have BK_gh := Aside0.mk hbox; have GE_gh := Aside0.mk (show w.heap.size ≤ gh by rw [hg]; exact HBo.out.size); have NB_gh_gt := Aside0.mk (show gh ≠ gt by rw [hg]; exact Nat.ne_of_gt (blk_lt (g := gt) (o := .cells #[.int .i64 t.f0, .int .i64 t.f1] 23 (0, 0)) BK0_gt.out)); have NB_gt_gh := Aside0.mk (Ne.symm NB_gh_gt.out); clear BK0_gt; clear hg hbox hB; have hc_gh_0 : w2_.cell? ⟨gh, 0, none⟩ = some (.int .u32 x.f0) := (blk_cell BK_gh.out 0).trans rfl; have hf_gh_0 := blk_frozen BK_gh.out 0; have hc_gh_1 : w2_.cell? ⟨gh, 1, none⟩ = some (.bool x.f1) := (blk_cell BK_gh.out 1).trans rfl; have hf_gh_1 := blk_frozen BK_gh.out 1; have hc_gh_2 : w2_.cell? ⟨gh, 2, none⟩ = some (.int .i64 x.f2) := (blk_cell BK_gh.out 2).trans rfl; have hf_gh_2 := blk_frozen BK_gh.out 2; have hc_gh_3 : w2_.cell? ⟨gh, 3, none⟩ = some (.slice A_x x.f3.length c_x) := (blk_cell BK_gh.out 3).trans rfl; have hf_gh_3 := blk_frozen BK_gh.out 3; clear HBo) | ((with_reducible refine gate_dst (N := 8) rfl ?_); (try (refine gate_guard (by rfl) ?_; dsimp only)); refine box_event ?hg (N := 8) ?hd (cs := #[.int .u32 0, .bool false, .int .i64 0, .slice none 0 0]) (t := 28) ?hr ?_; (case hd => rfl); (case hg => rfl); (case hr => first | (go_simp; done) | (go_simp; rfl)); intro gr hg w3_ hbox hB; have HBo := Aside0.mk HB.out; have BK0_gt := Aside0.mk BK_gt.out; have BK0_gh := Aside0.mk BK_gh.out; have nHB := Aside0.mk (HB.out.trans (hB.mono HB.out.size)); clear HB; have HB := nHB; clear nHB; clear hc_gt_0 hf_gt_0 hc_gt_1 hf_gt_1; have nBK := Aside0.mk (blk_below (g := gt) (o := .cells #[.int .i64 t.f0, .int .i64 t.f1] 23 (0, 0)) BK_gt.out hB); clear BK_gt; have BK_gt := nBK; clear nBK; have hc_gt_0 : w3_.cell? ⟨gt, 0, none⟩ = some (.int .i64 t.f0) := (blk_cell BK_gt.out 0).trans rfl; have hf_gt_0 := blk_frozen BK_gt.out 0; have hc_gt_1 : w3_.cell? ⟨gt, 1, none⟩ = some (.int .i64 t.f1) := (blk_cell BK_gt.out 1).trans rfl; have hf_gt_1 := blk_frozen BK_gt.out 1; clear hc_gh_0 hf_gh_0 hc_gh_1 hf_gh_1 hc_gh_2 hf_gh_2 hc_gh_3 hf_gh_3; have nBK := Aside0.mk (blk_below (g := gh) (o := .cells #[.int .u32 x.f0, .bool x.f1, .int .i64 x.f2, .slice A_x x.f3.length c_x] 28 (0, 0)) BK_gh.out hB); clear BK_gh; have BK_gh := nBK; clear nBK; have hc_gh_0 : w3_.cell? ⟨gh, 0, none⟩ = some (.int .u32 x.f0) := (blk_cell BK_gh.out 0).trans rfl; have hf_gh_0 := blk_frozen BK_gh.out 0; have hc_gh_1 : w3_.cell? ⟨gh, 1, none⟩ = some (.bool x.f1) := (blk_cell BK_gh.out 1).trans rfl; have hf_gh_1 := blk_frozen BK_gh.out 1; have hc_gh_2 : w3_.cell? ⟨gh, 2, none⟩ = some (.int .i64 x.f2) := (blk_cell BK_gh.out 2).trans rfl; have hf_gh_2 := blk_frozen BK_gh.out 2; have hc_gh_3 : w3_.cell? ⟨gh, 3, none⟩ = some (.slice A_x x.f3.length c_x) := (blk_cell BK_gh.out 3).trans rfl; have hf_gh_3 := blk_frozen BK_gh.out 3; have BK_gr := Aside0.mk hbox; have GE_gr := Aside0.mk (show w.heap.size ≤ gr by rw [hg]; exact HBo.out.size); have NB_gr_gt := Aside0.mk (show gr ≠ gt by rw [hg]; exact Nat.ne_of_gt (blk_lt (g := gt) (o := .cells #[.int .i64 t.f0, .int .i64 t.f1] 23 (0, 0)) BK0_gt.out)); have NB_gt_gr := Aside0.mk (Ne.symm NB_gr_gt.out); clear BK0_gt; have NB_gr_gh := Aside0.mk (show gr ≠ gh by rw [hg]; exact Nat.ne_of_gt (blk_lt (g := gh) (o := .cells #[.int .u32 x.f0, .bool x.f1, .int .i64 x.f2, .slice A_x x.f3.length c_x] 28 (0, 0)) BK0_gh.out)); have NB_gh_gr := Aside0.mk (Ne.symm NB_gr_gh.out); clear BK0_gh; clear hg hbox hB; have hc_gr_0 : w3_.cell? ⟨gr, 0, none⟩ = some (.int .u32 0) := (blk_cell BK_gr.out 0).trans rfl; have hf_gr_0 := blk_frozen BK_gr.out 0; have hc_gr_1 : w3_.cell? ⟨gr, 1, none⟩ = some (.bool false) := (blk_cell BK_gr.out 1).trans rfl; have hf_gr_1 := blk_frozen BK_gr.out 1; have hc_gr_2 : w3_.cell? ⟨gr, 2, none⟩ = some (.int .i64 0) := (blk_cell BK_gr.out 2).trans rfl; have hf_gr_2 := blk_frozen BK_gr.out 2; have hc_gr_3 : w3_.cell? ⟨gr, 3, none⟩ = some (.slice none 0 0) := (blk_cell BK_gr.out 3).trans rfl; have hf_gr_3 := blk_frozen BK_gr.out 3; clear HBo) | ((with_reducible refine gate_dst (N := 15) rfl ?_); refine mk_ rfl 69 rfl ?_; intro b wm0 hbe hm hb; have HMB0 := Aside0.mk hb; have HBE := Aside0.mk (Nat.le_of_eq hbe.symm); have HMP0 := Aside0.mk hm; clear hbe hm hb) | (refine ins_ rfl (.tmp 15) (.func 23) 1 rfl b _ _ rfl _ rfl HMP0.out rfl ?_; intro wm1 hm hR; have HMP1 := Aside0.mk hm; have HMB1 := Aside0.mk (hR _ _ HMB0.out HBE.out); clear hm hR) | (refine ins_ rfl (.tmp 15) (.func 23) 5 rfl b _ _ rfl _ rfl HMP1.out rfl ?_; intro wm2 hm hR; have HMP2 := Aside0.mk hm; have HMB2 := Aside0.mk (hR _ _ HMB1.out HBE.out); clear hm hR) | (refine ins_ rfl (.tmp 15) (.func 24) 2 rfl b _ _ rfl _ rfl HMP2.out rfl ?_; intro wm3 hm hR; have HMP3 := Aside0.mk hm; have HMB3 := Aside0.mk (hR _ _ HMB2.out HBE.out); clear hm hR) | (refine ins_ rfl (.tmp 15) (.func 25) 6 rfl b _ _ rfl _ rfl HMP3.out rfl ?_; intro wm4 hm hR; have HMP4 := Aside0.mk hm; have HMB4 := Aside0.mk (hR _ _ HMB3.out HBE.out); clear hm hR) | (refine ins_ rfl (.tmp 15) (.func 26) 4 rfl b _ _ rfl _ rfl HMP4.out rfl ?_; intro wm5 hm hR; have HMP5 := Aside0.mk hm; have HMB5 := Aside0.mk (hR _ _ HMB4.out HBE.out); clear hm hR) | (refine ins_ rfl (.tmp 15) (.func 27) 3 rfl b _ _ rfl _ rfl HMP5.out rfl ?_; intro wm6 hm hR; have HMP6 := Aside0.mk hm; have HMB6 := Aside0.mk (hR _ _ HMB5.out HBE.out); clear hm hR; have hB := HMB6.out; have hlk := run_look (b := b) (kv := kind) (es := es6) HMP6.out Xhfd.out; have nHB := Aside0.mk (HB.out.trans (hB.mono HB.out.size)); clear HB; have HB := nHB; clear nHB; clear hc_gt_0 hf_gt_0 hc_gt_1 hf_gt_1; have nBK := Aside0.mk (blk_below (g := gt) (o := .cells #[.int .i64 t.f0, .int .i64 t.f1] 23 (0, 0)) BK_gt.out hB); clear BK_gt; have BK_gt := nBK; clear nBK; have hc_gt_0 : wm6.cell? ⟨gt, 0, none⟩ = some (.int .i64 t.f0) := (blk_cell BK_gt.out 0).trans rfl; have hf_gt_0 := blk_frozen BK_gt.out 0; have hc_gt_1 : wm6.cell? ⟨gt, 1, none⟩ = some (.int .i64 t.f1) := (blk_cell BK_gt.out 1).trans rfl; have hf_gt_1 := blk_frozen BK_gt.out 1; clear hc_gh_0 hf_gh_0 hc_gh_1 hf_gh_1 hc_gh_2 hf_gh_2 hc_gh_3 hf_gh_3; have nBK := Aside0.mk (blk_below (g := gh) (o := .cells #[.int .u32 x.f0, .bool x.f1, .int .i64 x.f2, .slice A_x x.f3.length c_x] 28 (0, 0)) BK_gh.out hB); clear BK_gh; have BK_gh := nBK; clear nBK; have hc_gh_0 : wm6.cell? ⟨gh, 0, none⟩ = some (.int .u32 x.f0) := (blk_cell BK_gh.out 0).trans rfl; have hf_gh_0 := blk_frozen BK_gh.out 0; have hc_gh_1 : wm6.cell? ⟨gh, 1, none⟩ = some (.bool x.f1) := (blk_cell BK_gh.out 1).trans rfl; have hf_gh_1 := blk_frozen BK_gh.out 1; have hc_gh_2 : wm6.cell? ⟨gh, 2, none⟩ = some (.int .i64 x.f2) := (blk_cell BK_gh.out 2).trans rfl; have hf_gh_2 := blk_frozen BK_gh.out 2; have hc_gh_3 : wm6.cell? ⟨gh, 3, none⟩ = some (.slice A_x x.f3.length c_x) := (blk_cell BK_gh.out 3).trans rfl; have hf_gh_3 := blk_frozen BK_gh.out 3; clear hc_gr_0 hf_gr_0 hc_gr_1 hf_gr_1 hc_gr_2 hf_gr_2 hc_gr_3 hf_gr_3; have nBK := Aside0.mk (blk_below (g := gr) (o := .cells #[.int .u32 0, .bool false, .int .i64 0, .slice none 0 0] 28 (0, 0)) BK_gr.out hB); clear BK_gr; have BK_gr := nBK; clear nBK; have hc_gr_0 : wm6.cell? ⟨gr, 0, none⟩ = some (.int .u32 0) := (blk_cell BK_gr.out 0).trans rfl; have hf_gr_0 := blk_frozen BK_gr.out 0; have hc_gr_1 : wm6.cell? ⟨gr, 1, none⟩ = some (.bool false) := (blk_cell BK_gr.out 1).trans rfl; have hf_gr_1 := blk_frozen BK_gr.out 1; have hc_gr_2 : wm6.cell? ⟨gr, 2, none⟩ = some (.int .i64 0) := (blk_cell BK_gr.out 2).trans rfl; have hf_gr_2 := blk_frozen BK_gr.out 2; have hc_gr_3 : wm6.cell? ⟨gr, 3, none⟩ = some (.slice none 0 0) := (blk_cell BK_gr.out 3).trans rfl; have hf_gr_3 := blk_frozen BK_gr.out 3; clear hB))
  refine bodyPost_ret (results_ctt rfl _ _ gr 28 #[.int .u32 x.f0, .bool x.f1, .int .i64 x.f2, .slice A_x x.f3.length c_x] (0, 0) _ rfl (blk_put (cs := #[.int .u32 x.f0, .bool x.f1, .int .i64 x.f2, .slice none 0 0]) (blk_put (cs := #[.int .u32 x.f0, .bool x.f1, .int .i64 0, .slice none 0 0]) (blk_put (cs := #[.int .u32 x.f0, .bool false, .int .i64 0, .slice none 0 0]) (blk_put (cs := #[.int .u32 0, .bool false, .int .i64 0, .slice none 0 0]) BK_gr.out 0 (.int .u32 x.f0) rfl) 1 (.bool x.f1) rfl) 2 (.int .i64 x.f2) rfl) 3 (.slice A_x x.f3.length c_x) rfl) Try.underlying28 rfl (by kernel_rfl)) rfl ?_
  exact ⟨_, _, rfl, Kd.V_mk HK_x.out (Kd.F_mono (Kd.F_below FX.out (below_set (below_set (below_set (below_set HB.out GE_gr.out) GE_gr.out) GE_gr.out) GE_gr.out)) (fun k hk => .inl hk)), Kd.V_nil _ _ _ _ _, (below_set (below_set (below_set (below_set HB.out GE_gr.out) GE_gr.out) GE_gr.out) GE_gr.out)⟩
set_option maxHeartbeats 8000000 in
set_option maxRecDepth 100000 in
theorem hear_is {t : S23} {x : S28} {kind : Int} {l : List Int} {f j : Nat} {fn : Func} {F : WM → WM} (hfn : Try.prog.funcs[f]? = some fn) (hnm : (fn.name == "runtime.NumGoroutine") = false) (hbd : fn.body.isSome = true) (hfd : Instr.findNow (.int .u8) (.int .u8 kind) es6.toList 0 = some (some (j, .func (.func f) #[] #[]))) (hdo : Does f F) (hs : SortH x.f3) (hn : x.f3.length ≤ 1000) (hm : l.length ≤ 1000) {m2 : WM} (h2 : F (hear0 t x l) = m2) (A_x : Option Addr) (c_x : Nat) (A_l : Option Addr) (c_l : Nat) (w : World) (hx : Kd.C k49 w A_x x.f3.length x.f3) (hcx : x.f3.length ≤ c_x) (hl : Kd.C (Kd.int .u32) w A_l l.length l) (hcl : l.length ≤ c_l) (P : Nat → Prop) (hP : ∀ k, P k → k < w.heap.size) (hxF : Kd.F k49 w P A_x x.f3.length x.f3) :
    Calls Try.prog 12 #[.agg #[.int .i64 t.f0, .int .i64 t.f1], .agg #[.int .u32 x.f0, .bool x.f1, .int .i64 x.f2, .slice A_x x.f3.length c_x], .int .u8 kind, .slice A_l l.length c_l] w (fun e w' => (64 < m2.srcs.length ∧ HearPost P w x [] 7 e w') ∨ (m2.srcs.length ≤ 64 ∧ HearPost P w ⟨m2.g, m2.ex, m2.left, m2.srcs⟩ m2.asks 0 e w')) := by
  have hu23 := Try.underlying23
  have hu28 := Try.underlying28
  have hu73 := Try.underlying73
  have HB := Aside0.mk (Below.refl w.heap.size w)
  have HC_x := Aside0.mk hx
  have HK_x := Aside0.mk hcx
  have HC_l := Aside0.mk hl
  have HK_l := Aside0.mk hcl
  have XP := Aside0.mk hP
  have FX := Aside0.mk hxF
  clear hx hcx hl hcl hP hxF
  have Xhfn := Aside0.mk hfn
  have Xhnm := Aside0.mk hnm
  have Xhbd := Aside0.mk hbd
  have Xhfd := Aside0.mk hfd
  have Xhdo := Aside0.mk hdo
  have Xhs := Aside0.mk hs
  have Xhn := Aside0.mk hn
  have Xhm := Aside0.mk hm
  have Xh2 := Aside0.mk h2
  clear hfn hnm hbd hfd hdo hs hn hm h2
  go_enter Try.func12, Try.ntmps12
  go_upto_region 5 with (first | ((with_reducible refine gate_dst (N := 4) rfl ?_); (try (refine gate_guard (by rfl) ?_; dsimp only)); refine box_event ?hg (N := 4) ?hd (cs := #[.int .i64 t.f0, .int .i64 t.f1]) (t := 23) ?hr ?_; (case hd => rfl); (case hg => rfl); (case hr => first | (go_simp; done) | (go_simp; rfl)); intro gt hg w1_ hbox hB; have HBo := Aside0.mk HB.out; have nHB := Aside0.mk (HB.out.trans (hB.mono HB.out.size)); clear HB; have HB := nHB; clear nHB; have BK_gt := Aside0.mk hbox; have GE_gt := Aside0.mk (show w.heap.size ≤ gt by rw [hg]; exact HBo.out.size); clear hg hbox hB; have hc_gt_0 : w1_.cell? ⟨gt, 0, none⟩ = some (.int .i64 t.f0) := (blk_cell BK_gt.out 0).trans rfl; have hf_gt_0 := blk_frozen BK_gt.out 0; have hc_gt_1 : w1_.cell? ⟨gt, 1, none⟩ = some (.int .i64 t.f1) := (blk_cell BK_gt.out 1).trans rfl; have hf_gt_1 := blk_frozen BK_gt.out 1; clear HBo) | ((with_reducible refine gate_dst (N := 5) rfl ?_); (try (refine gate_guard (by rfl) ?_; dsimp only)); refine box_event ?hg (N := 5) ?hd (cs := #[.int .u32 x.f0, .bool x.f1, .int .i64 x.f2, .slice A_x x.f3.length c_x]) (t := 28) ?hr ?_; (case hd => rfl); (case hg => rfl); (case hr => first | (go_simp; done) | (go_simp; rfl)); intro gh hg w2_ hbox hB; have HBo := Aside0.mk HB.out; have BK0_gt := Aside0.mk BK_gt.out; have nHB := Aside0.mk (HB.out.trans (hB.mono HB.out.size)); clear HB; have HB := nHB; clear nHB; clear hc_gt_0 hf_gt_0 hc_gt_1 hf_gt_1; have nBK := Aside0.mk (blk_below (g := gt) (o := .cells #[.int .i64 t.f0, .int .i64 t.f1] 23 (0, 0)) BK_gt.out hB); clear BK_gt; have BK_gt := nBK; clear nBK; have hc_gt_0 : w2_.cell? ⟨gt, 0, none⟩ = some (.int .i64 t.f0) := (blk_cell BK_gt.out 0).trans rfl; have hf_gt_0 := blk_frozen BK_gt.out 0; have hc_gt_1 : w2_.cell? ⟨gt, 1, none⟩ = some (.int .i64 t.f1) := (blk_cell BK_gt.out 1).trans rfl; have hf_gt_1 := blk_frozen BK_gt.out 1; have BK_gh := Aside0.mk hbox; have GE_gh := Aside0.mk (show w.heap.size ≤ gh by rw [hg]; exact HBo.out.size); have NB_gh_gt := Aside0.mk (show gh ≠ gt by rw [hg]; exact Nat.ne_of_gt (blk_lt (g := gt) (o := .cells #[.int .i64 t.f0, .int .i64 t.f1] 23 (0, 0)) BK0_gt.out)); have NB_gt_gh := Aside0.mk (Ne.symm NB_gh_gt.out); clear BK0_gt; clear hg hbox hB; have hc_gh_0 : w2_.cell? ⟨gh, 0, none⟩ = some (.int .u32 x.f0) := (blk_cell BK_gh.out 0).trans rfl; have hf_gh_0 := blk_frozen BK_gh.out 0; have hc_gh_1 : w2_.cell? ⟨gh, 1, none⟩ = some (.bool x.f1) := (blk_cell BK_gh.out 1).trans rfl; have hf_gh_1 := blk_frozen BK_gh.out 1; have hc_gh_2 : w2_.cell? ⟨gh, 2, none⟩ = some (.int .i64 x.f2) := (blk_cell BK_gh.out 2).trans rfl; have hf_gh_2 := blk_frozen BK_gh.out 2; have hc_gh_3 : w2_.cell? ⟨gh, 3, none⟩ = some (.slice A_x x.f3.length c_x) := (blk_cell BK_gh.out 3).trans rfl; have hf_gh_3 := blk_frozen BK_gh.out 3; clear HBo) | ((with_reducible refine gate_dst (N := 8) rfl ?_); (try (refine gate_guard (by rfl) ?_; dsimp only)); refine box_event ?hg (N := 8) ?hd (cs := #[.int .u32 0, .bool false, .int .i64 0, .slice none 0 0]) (t := 28) ?hr ?_; (case hd => rfl); (case hg => rfl); (case hr => first | (go_simp; done) | (go_simp; rfl)); intro gr hg w3_ hbox hB; have HBo := Aside0.mk HB.out; have BK0_gt := Aside0.mk BK_gt.out; have BK0_gh := Aside0.mk BK_gh.out; have nHB := Aside0.mk (HB.out.trans (hB.mono HB.out.size)); clear HB; have HB := nHB; clear nHB; clear hc_gt_0 hf_gt_0 hc_gt_1 hf_gt_1; have nBK := Aside0.mk (blk_below (g := gt) (o := .cells #[.int .i64 t.f0, .int .i64 t.f1] 23 (0, 0)) BK_gt.out hB); clear BK_gt; have BK_gt := nBK; clear nBK; have hc_gt_0 : w3_.cell? ⟨gt, 0, none⟩ = some (.int .i64 t.f0) := (blk_cell BK_gt.out 0).trans rfl; have hf_gt_0 := blk_frozen BK_gt.out 0; have hc_gt_1 : w3_.cell? ⟨gt, 1, none⟩ = some (.int .i64 t.f1) := (blk_cell BK_gt.out 1).trans rfl; have hf_gt_1 := blk_frozen BK_gt.out 1; clear hc_gh_0 hf_gh_0 hc_gh_1 hf_gh_1 hc_gh_2 hf_gh_2 hc_gh_3 hf_gh_3; have nBK := Aside0.mk (blk_below (g := gh) (o := .cells #[.int .u32 x.f0, .bool x.f1, .int .i64 x.f2, .slice A_x x.f3.length c_x] 28 (0, 0)) BK_gh.out hB); clear BK_gh; have BK_gh := nBK; clear nBK; have hc_gh_0 : w3_.cell? ⟨gh, 0, none⟩ = some (.int .u32 x.f0) := (blk_cell BK_gh.out 0).trans rfl; have hf_gh_0 := blk_frozen BK_gh.out 0; have hc_gh_1 : w3_.cell? ⟨gh, 1, none⟩ = some (.bool x.f1) := (blk_cell BK_gh.out 1).trans rfl; have hf_gh_1 := blk_frozen BK_gh.out 1; have hc_gh_2 : w3_.cell? ⟨gh, 2, none⟩ = some (.int .i64 x.f2) := (blk_cell BK_gh.out 2).trans rfl; have hf_gh_2 := blk_frozen BK_gh.out 2; have hc_gh_3 : w3_.cell? ⟨gh, 3, none⟩ = some (.slice A_x x.f3.length c_x) := (blk_cell BK_gh.out 3).trans rfl; have hf_gh_3 := blk_frozen BK_gh.out 3; have BK_gr := Aside0.mk hbox; have GE_gr := Aside0.mk (show w.heap.size ≤ gr by rw [hg]; exact HBo.out.size); have NB_gr_gt := Aside0.mk (show gr ≠ gt by rw [hg]; exact Nat.ne_of_gt (blk_lt (g := gt) (o := .cells #[.int .i64 t.f0, .int .i64 t.f1] 23 (0, 0)) BK0_gt.out)); have NB_gt_gr := Aside0.mk (Ne.symm NB_gr_gt.out); clear BK0_gt; have NB_gr_gh := Aside0.mk (show gr ≠ gh by rw [hg]; exact Nat.ne_of_gt (blk_lt (g := gh) (o := .cells #[.int .u32 x.f0, .bool x.f1, .int .i64 x.f2, .slice A_x x.f3.length c_x] 28 (0, 0)) BK0_gh.out)); have NB_gh_gr := Aside0.mk (Ne.symm NB_gr_gh.out); clear BK0_gh; clear hg hbox hB; have hc_gr_0 : w3_.cell? ⟨gr, 0, none⟩ = some (.int .u32 0) := (blk_cell BK_gr.out 0).trans rfl; have hf_gr_0 := blk_frozen BK_gr.out 0; have hc_gr_1 : w3_.cell? ⟨gr, 1, none⟩ = some (.bool false) := (blk_cell BK_gr.out 1).trans rfl; have hf_gr_1 := blk_frozen BK_gr.out 1; have hc_gr_2 : w3_.cell? ⟨gr, 2, none⟩ = some (.int .i64 0) := (blk_cell BK_gr.out 2).trans rfl; have hf_gr_2 := blk_frozen BK_gr.out 2; have hc_gr_3 : w3_.cell? ⟨gr, 3, none⟩ = some (.slice none 0 0) := (blk_cell BK_gr.out 3).trans rfl; have hf_gr_3 := blk_frozen BK_gr.out 3; clear HBo) | ((with_reducible refine gate_dst (N := 15) rfl ?_); refine mk_ rfl 69 rfl ?_; intro b wm0 hbe hm hb; have HMB0 := Aside0.mk hb; have HBE := Aside0.mk (Nat.le_of_eq hbe.symm); have HMP0 := Aside0.mk hm; clear hbe hm hb) | (refine ins_ rfl (.tmp 15) (.func 23) 1 rfl b _ _ rfl _ rfl HMP0.out rfl ?_; intro wm1 hm hR; have HMP1 := Aside0.mk hm; have HMB1 := Aside0.mk (hR _ _ HMB0.out HBE.out); clear hm hR) | (refine ins_ rfl (.tmp 15) (.func 23) 5 rfl b _ _ rfl _ rfl HMP1.out rfl ?_; intro wm2 hm hR; have HMP2 := Aside0.mk hm; have HMB2 := Aside0.mk (hR _ _ HMB1.out HBE.out); clear hm hR) | (refine ins_ rfl (.tmp 15) (.func 24) 2 rfl b _ _ rfl _ rfl HMP2.out rfl ?_; intro wm3 hm hR; have HMP3 := Aside0.mk hm; have HMB3 := Aside0.mk (hR _ _ HMB2.out HBE.out); clear hm hR) | (refine ins_ rfl (.tmp 15) (.func 25) 6 rfl b _ _ rfl _ rfl HMP3.out rfl ?_; intro wm4 hm hR; have HMP4 := Aside0.mk hm; have HMB4 := Aside0.mk (hR _ _ HMB3.out HBE.out); clear hm hR) | (refine ins_ rfl (.tmp 15) (.func 26) 4 rfl b _ _ rfl _ rfl HMP4.out rfl ?_; intro wm5 hm hR; have HMP5 := Aside0.mk hm; have HMB5 := Aside0.mk (hR _ _ HMB4.out HBE.out); clear hm hR) | (refine ins_ rfl (.tmp 15) (.func 27) 3 rfl b _ _ rfl _ rfl HMP5.out rfl ?_; intro wm6 hm hR; have HMP6 := Aside0.mk hm; have HMB6 := Aside0.mk (hR _ _ HMB5.out HBE.out); clear hm hR; have hB := HMB6.out; have hlk := run_look (b := b) (kv := kind) (es := es6) HMP6.out Xhfd.out; have nHB := Aside0.mk (HB.out.trans (hB.mono HB.out.size)); clear HB; have HB := nHB; clear nHB; clear hc_gt_0 hf_gt_0 hc_gt_1 hf_gt_1; have nBK := Aside0.mk (blk_below (g := gt) (o := .cells #[.int .i64 t.f0, .int .i64 t.f1] 23 (0, 0)) BK_gt.out hB); clear BK_gt; have BK_gt := nBK; clear nBK; have hc_gt_0 : wm6.cell? ⟨gt, 0, none⟩ = some (.int .i64 t.f0) := (blk_cell BK_gt.out 0).trans rfl; have hf_gt_0 := blk_frozen BK_gt.out 0; have hc_gt_1 : wm6.cell? ⟨gt, 1, none⟩ = some (.int .i64 t.f1) := (blk_cell BK_gt.out 1).trans rfl; have hf_gt_1 := blk_frozen BK_gt.out 1; clear hc_gh_0 hf_gh_0 hc_gh_1 hf_gh_1 hc_gh_2 hf_gh_2 hc_gh_3 hf_gh_3; have nBK := Aside0.mk (blk_below (g := gh) (o := .cells #[.int .u32 x.f0, .bool x.f1, .int .i64 x.f2, .slice A_x x.f3.length c_x] 28 (0, 0)) BK_gh.out hB); clear BK_gh; have BK_gh := nBK; clear nBK; have hc_gh_0 : wm6.cell? ⟨gh, 0, none⟩ = some (.int .u32 x.f0) := (blk_cell BK_gh.out 0).trans rfl; have hf_gh_0 := blk_frozen BK_gh.out 0; have hc_gh_1 : wm6.cell? ⟨gh, 1, none⟩ = some (.bool x.f1) := (blk_cell BK_gh.out 1).trans rfl; have hf_gh_1 := blk_frozen BK_gh.out 1; have hc_gh_2 : wm6.cell? ⟨gh, 2, none⟩ = some (.int .i64 x.f2) := (blk_cell BK_gh.out 2).trans rfl; have hf_gh_2 := blk_frozen BK_gh.out 2; have hc_gh_3 : wm6.cell? ⟨gh, 3, none⟩ = some (.slice A_x x.f3.length c_x) := (blk_cell BK_gh.out 3).trans rfl; have hf_gh_3 := blk_frozen BK_gh.out 3; clear hc_gr_0 hf_gr_0 hc_gr_1 hf_gr_1 hc_gr_2 hf_gr_2 hc_gr_3 hf_gr_3; have nBK := Aside0.mk (blk_below (g := gr) (o := .cells #[.int .u32 0, .bool false, .int .i64 0, .slice none 0 0] 28 (0, 0)) BK_gr.out hB); clear BK_gr; have BK_gr := nBK; clear nBK; have hc_gr_0 : wm6.cell? ⟨gr, 0, none⟩ = some (.int .u32 0) := (blk_cell BK_gr.out 0).trans rfl; have hf_gr_0 := blk_frozen BK_gr.out 0; have hc_gr_1 : wm6.cell? ⟨gr, 1, none⟩ = some (.bool false) := (blk_cell BK_gr.out 1).trans rfl; have hf_gr_1 := blk_frozen BK_gr.out 1; have hc_gr_2 : wm6.cell? ⟨gr, 2, none⟩ = some (.int .i64 0) := (blk_cell BK_gr.out 2).trans rfl; have hf_gr_2 := blk_frozen BK_gr.out 2; have hc_gr_3 : wm6.cell? ⟨gr, 3, none⟩ = some (.slice none 0 0) := (blk_cell BK_gr.out 3).trans rfl; have hf_gr_3 := blk_frozen BK_gr.out 3; clear hB))
  refine start_ (n := 7) (S := fun w' => w'.cell? ⟨gt, 0, none⟩ = some (.int .i64 t.f0) ∧ w'.cell? ⟨gt, 1, none⟩ = some (.int .i64 t.f1) ∧ w'.cell? ⟨gh, 0, none⟩ = some (.int .u32 x.f0) ∧ w'.cell? ⟨gh, 1, none⟩ = some (.bool x.f1) ∧ w'.cell? ⟨gh, 2, none⟩ = some (.int .i64 x.f2) ∧ w'.cell? ⟨gh, 3, none⟩ = some (.slice A_x x.f3.length c_x)) (ds := []) #[false, false, false, false, false, false, false] (by kernel_rfl) rfl rfl ⟨hc_gt_0, hc_gt_1, hc_gh_0, hc_gh_1, hc_gh_2, hc_gh_3⟩ (fun hHeld => ?_); refine with_tabW he_t5 he_b5 (fun HT_ HW_ => ?_)
  have hB : Below wm6.heap.size wm6 wm6.drew := below_drew (Below.refl _ _)
  generalize wm6.drew = w4_ at hB hHeld ⊢
  have nHB := Aside0.mk (HB.out.trans (hB.mono HB.out.size))
  clear HB
  have HB := nHB
  clear nHB
  clear hc_gt_0 hf_gt_0 hc_gt_1 hf_gt_1
  have nBK := Aside0.mk (blk_below (g := gt) (o := .cells #[.int .i64 t.f0, .int .i64 t.f1] 23 (0, 0)) BK_gt.out hB)
  clear BK_gt
  have BK_gt := nBK
  clear nBK
  have hc_gt_0 : w4_.cell? ⟨gt, 0, none⟩ = some (.int .i64 t.f0) := (blk_cell BK_gt.out 0).trans rfl
  have hf_gt_0 := blk_frozen BK_gt.out 0
  have hc_gt_1 : w4_.cell? ⟨gt, 1, none⟩ = some (.int .i64 t.f1) := (blk_cell BK_gt.out 1).trans rfl
  have hf_gt_1 := blk_frozen BK_gt.out 1
  clear hc_gh_0 hf_gh_0 hc_gh_1 hf_gh_1 hc_gh_2 hf_gh_2 hc_gh_3 hf_gh_3
  have nBK := Aside0.mk (blk_below (g := gh) (o := .cells #[.int .u32 x.f0, .bool x.f1, .int .i64 x.f2, .slice A_x x.f3.length c_x] 28 (0, 0)) BK_gh.out hB)
  clear BK_gh
  have BK_gh := nBK
  clear nBK
  have hc_gh_0 : w4_.cell? ⟨gh, 0, none⟩ = some (.int .u32 x.f0) := (blk_cell BK_gh.out 0).trans rfl
  have hf_gh_0 := blk_frozen BK_gh.out 0
  have hc_gh_1 : w4_.cell? ⟨gh, 1, none⟩ = some (.bool x.f1) := (blk_cell BK_gh.out 1).trans rfl
  have hf_gh_1 := blk_frozen BK_gh.out 1
  have hc_gh_2 : w4_.cell? ⟨gh, 2, none⟩ = some (.int .i64 x.f2) := (blk_cell BK_gh.out 2).trans rfl
  have hf_gh_2 := blk_frozen BK_gh.out 2
  have hc_gh_3 : w4_.cell? ⟨gh, 3, none⟩ = some (.slice A_x x.f3.length c_x) := (blk_cell BK_gh.out 3).trans rfl
  have hf_gh_3 := blk_frozen BK_gh.out 3
  clear hc_gr_0 hf_gr_0 hc_gr_1 hf_gr_1 hc_gr_2 hf_gr_2 hc_gr_3 hf_gr_3
  have nBK := Aside0.mk (blk_below (g := gr) (o := .cells #[.int .u32 0, .bool false, .int .i64 0, .slice none 0 0] 28 (0, 0)) BK_gr.out hB)
  clear BK_gr
  have BK_gr := nBK
  clear nBK
  have hc_gr_0 : w4_.cell? ⟨gr, 0, none⟩ = some (.int .u32 0) := (blk_cell BK_gr.out 0).trans rfl
  have hf_gr_0 := blk_frozen BK_gr.out 0
  have hc_gr_1 : w4_.cell? ⟨gr, 1, none⟩ = some (.bool false) := (blk_cell BK_gr.out 1).trans rfl
  have hf_gr_1 := blk_frozen BK_gr.out 1
  have hc_gr_2 : w4_.cell? ⟨gr, 2, none⟩ = some (.int .i64 0) := (blk_cell BK_gr.out 2).trans rfl
  have hf_gr_2 := blk_frozen BK_gr.out 2
  have hc_gr_3 : w4_.cell? ⟨gr, 3, none⟩ = some (.slice none 0 0) := (blk_cell BK_gr.out 3).trans rfl
  have hf_gr_3 := blk_frozen BK_gr.out 3
  clear hB
  refine take_ (i := 0) (N := some 26) (v := ?_) (a' := ?_) #[true, false, false, false, false, false, false] rfl rfl (take_ofW HT_.out HW_.out (by kernel_rfl)) (fun _ _ _ h => h) (Or.inl ⟨by rfl, ?_⟩) hHeld ?_ ?_
  rotate_left
  · rintro w' ⟨s0, s1, s2, s3, s4, s5⟩
    go_simp
    with_reducible rfl
  rotate_left
  · simp only [Act.put, List.setIfInBounds_toArray, List.set_cons_zero, List.set_cons_succ, i64_w, i32_w]
    rfl
  refine take_ (i := 1) (N := some 27) (v := ?_) (a' := ?_) #[true, true, false, false, false, false, false] rfl rfl (take_ofW HT_.out HW_.out (by kernel_rfl)) (fun _ _ _ h => h) (Or.inl ⟨by rfl, ?_⟩) hHeld ?_ ?_
  rotate_left
  · rintro w' ⟨s0, s1, s2, s3, s4, s5⟩
    go_simp
    with_reducible rfl
  rotate_left
  · simp only [Act.put, List.setIfInBounds_toArray, List.set_cons_zero, List.set_cons_succ, i64_w, i32_w]
    rfl
  refine pure_ (i := 2) (N := some 28) (v := ?_) (a' := ?_) #[true, true, true, false, false, false, false] rfl rfl (any_of HT_.out (by kernel_rfl)) (fun _ _ _ h => h) (Or.inl ⟨by rfl, ?_⟩) ?_ ?_
  rotate_left
  · intro w'
    go_simp
    with_reducible rfl
  rotate_left
  · simp only [Act.put, List.setIfInBounds_toArray, List.set_cons_zero, List.set_cons_succ, i64_w, i32_w]
    rfl
  refine one_ (i := 3) (N := some 29) #[true, true, true, true, false, false, false] rfl rfl (one_of HT_.out (by kernel_rfl)) (by decide) (fun K hK => ?_)
  refine goes_ Try.func28 (by kernel_rfl) rfl #[.slice A_l l.length c_l] (by rfl) rfl rfl (by (try simp only [List.map_toArray, List.map_cons, List.map_nil]); first | done | rfl | (simp only [List.length_drop, List.length_take]; rfl)) ?_
  with_reducible refine (set_Make.calls A_l c_l l (mk l) _ (Kd.C_below HC_l.out HB.out) HK_l.out (by unfold set_Make.f; rw [if_pos (by have := Xhm.out; omega)])).mono ?_
  rintro e w5_ ⟨v_b, rfl, hR, hB⟩
  obtain ⟨A_b, c_b, rfl⟩ := Kd.R_slice hR
  refine ⟨_, rfl, ?_⟩
  have LT_gt := Aside0.mk (blk_lt (g := gt) (o := .cells #[.int .i64 t.f0, .int .i64 t.f1] 23 (0, 0)) BK_gt.out)
  have LT_gh := Aside0.mk (blk_lt (g := gh) (o := .cells #[.int .u32 x.f0, .bool x.f1, .int .i64 x.f2, .slice A_x x.f3.length c_x] 28 (0, 0)) BK_gh.out)
  have LT_gr := Aside0.mk (blk_lt (g := gr) (o := .cells #[.int .u32 0, .bool false, .int .i64 0, .slice none 0 0] 28 (0, 0)) BK_gr.out)
  have HSB := Aside0.mk HB.out.size
  have HSN := Aside0.mk hB.size
  have nHB := Aside0.mk (HB.out.trans (hB.mono HB.out.size))
  clear HB
  have HB := nHB
  clear nHB
  clear hc_gt_0 hf_gt_0 hc_gt_1 hf_gt_1
  have nBK := Aside0.mk (blk_below (g := gt) (o := .cells #[.int .i64 t.f0, .int .i64 t.f1] 23 (0, 0)) BK_gt.out hB)
  clear BK_gt
  have BK_gt := nBK
  clear nBK
  have hc_gt_0 : w5_.cell? ⟨gt, 0, none⟩ = some (.int .i64 t.f0) := (blk_cell BK_gt.out 0).trans rfl
  have hf_gt_0 := blk_frozen BK_gt.out 0
  have hc_gt_1 : w5_.cell? ⟨gt, 1, none⟩ = some (.int .i64 t.f1) := (blk_cell BK_gt.out 1).trans rfl
  have hf_gt_1 := blk_frozen BK_gt.out 1
  clear hc_gh_0 hf_gh_0 hc_gh_1 hf_gh_1 hc_gh_2 hf_gh_2 hc_gh_3 hf_gh_3
  have nBK := Aside0.mk (blk_below (g := gh) (o := .cells #[.int .u32 x.f0, .bool x.f1, .int .i64 x.f2, .slice A_x x.f3.length c_x] 28 (0, 0)) BK_gh.out hB)
  clear BK_gh
  have BK_gh := nBK
  clear nBK
  have hc_gh_0 : w5_.cell? ⟨gh, 0, none⟩ = some (.int .u32 x.f0) := (blk_cell BK_gh.out 0).trans rfl
  have hf_gh_0 := blk_frozen BK_gh.out 0
  have hc_gh_1 : w5_.cell? ⟨gh, 1, none⟩ = some (.bool x.f1) := (blk_cell BK_gh.out 1).trans rfl
  have hf_gh_1 := blk_frozen BK_gh.out 1
  have hc_gh_2 : w5_.cell? ⟨gh, 2, none⟩ = some (.int .i64 x.f2) := (blk_cell BK_gh.out 2).trans rfl
  have hf_gh_2 := blk_frozen BK_gh.out 2
  have hc_gh_3 : w5_.cell? ⟨gh, 3, none⟩ = some (.slice A_x x.f3.length c_x) := (blk_cell BK_gh.out 3).trans rfl
  have hf_gh_3 := blk_frozen BK_gh.out 3
  clear hc_gr_0 hf_gr_0 hc_gr_1 hf_gr_1 hc_gr_2 hf_gr_2 hc_gr_3 hf_gr_3
  have nBK := Aside0.mk (blk_below (g := gr) (o := .cells #[.int .u32 0, .bool false, .int .i64 0, .slice none 0 0] 28 (0, 0)) BK_gr.out hB)
  clear BK_gr
  have BK_gr := nBK
  clear nBK
  have hc_gr_0 : w5_.cell? ⟨gr, 0, none⟩ = some (.int .u32 0) := (blk_cell BK_gr.out 0).trans rfl
  have hf_gr_0 := blk_frozen BK_gr.out 0
  have hc_gr_1 : w5_.cell? ⟨gr, 1, none⟩ = some (.bool false) := (blk_cell BK_gr.out 1).trans rfl
  have hf_gr_1 := blk_frozen BK_gr.out 1
  have hc_gr_2 : w5_.cell? ⟨gr, 2, none⟩ = some (.int .i64 0) := (blk_cell BK_gr.out 2).trans rfl
  have hf_gr_2 := blk_frozen BK_gr.out 2
  have hc_gr_3 : w5_.cell? ⟨gr, 3, none⟩ = some (.slice none 0 0) := (blk_cell BK_gr.out 3).trans rfl
  have hf_gr_3 := blk_frozen BK_gr.out 3
  have HRB := Aside0.mk (show RA w5_ w4_.heap.size _ _ from hR)
  clear hR hB
  refine hK.out _ _ ⟨hc_gt_0, hc_gt_1, hc_gh_0, hc_gh_1, hc_gh_2, hc_gh_3⟩ (fun hHeld => ?_)
  clear hK K
  refine norm_ (a' := ?_) ?_ ?_
  rotate_left
  · show Act.put _ (some 29) _ = _
    simp only [Act.put, List.setIfInBounds_toArray, List.set_cons_zero, List.set_cons_succ, i64_w, i32_w]
    rfl
  refine pure_ (i := 4) (N := some 30) (v := ?_) (a' := ?_) #[true, true, true, true, true, false, false] rfl rfl (any_of HT_.out (by kernel_rfl)) (fun _ _ _ h => h) (Or.inl ⟨by rfl, ?_⟩) ?_ ?_
  rotate_left
  · intro w'
    go_simp
    with_reducible rfl
  rotate_left
  · simp only [Act.put, List.setIfInBounds_toArray, List.set_cons_zero, List.set_cons_succ, i64_w, i32_w]
    rfl
  refine one_ (i := 5) (N := some 31) #[true, true, true, true, true, true, false] rfl rfl (one_of HT_.out (by kernel_rfl)) (by decide) (fun K hK => ?_)
  refine box_step ?hg (N := 31) ?hd (cs := #[.int .u32 x.f0, .bool x.f1, .int .i64 x.f2, .slice A_x x.f3.length c_x, .int .i64 t.f0, .int .i64 t.f1, .slice A_b (mk l).length c_b, .slice none 0 0]) (t := 73) ?hr ?_; (case hd => rfl); (case hg => rfl); (case hr => first | (go_simp; done) | (go_simp; rfl))
  intro gw hg w6_ hbox hB
  have NB_gw_gt := Aside0.mk (show gw ≠ gt by rw [hg]; exact Nat.ne_of_gt (blk_lt (g := gt) (o := .cells #[.int .i64 t.f0, .int .i64 t.f1] 23 (0, 0)) BK_gt.out))
  have NB_gt_gw := Aside0.mk (Ne.symm NB_gw_gt.out)
  have NB_gw_gh := Aside0.mk (show gw ≠ gh by rw [hg]; exact Nat.ne_of_gt (blk_lt (g := gh) (o := .cells #[.int .u32 x.f0, .bool x.f1, .int .i64 x.f2, .slice A_x x.f3.length c_x] 28 (0, 0)) BK_gh.out))
  have NB_gh_gw := Aside0.mk (Ne.symm NB_gw_gh.out)
  have NB_gw_gr := Aside0.mk (show gw ≠ gr by rw [hg]; exact Nat.ne_of_gt (blk_lt (g := gr) (o := .cells #[.int .u32 0, .bool false, .int .i64 0, .slice none 0 0] 28 (0, 0)) BK_gr.out))
  have NB_gr_gw := Aside0.mk (Ne.symm NB_gw_gr.out)
  have GE_gw := Aside0.mk (show w.heap.size ≤ gw by rw [hg]; exact HB.out.size)
  replace HRB := mvR HRB hB
  have HGE := Aside0.mk (show w4_.heap.size ≤ gw by rw [hg]; exact Nat.le_trans HSN.out (Nat.le_refl _))
  have nHB := Aside0.mk (HB.out.trans (hB.mono HB.out.size))
  clear HB
  have HB := nHB
  clear nHB
  clear hc_gt_0 hf_gt_0 hc_gt_1 hf_gt_1
  have nBK := Aside0.mk (blk_below (g := gt) (o := .cells #[.int .i64 t.f0, .int .i64 t.f1] 23 (0, 0)) BK_gt.out hB)
  clear BK_gt
  have BK_gt := nBK
  clear nBK
  have hc_gt_0 : w6_.cell? ⟨gt, 0, none⟩ = some (.int .i64 t.f0) := (blk_cell BK_gt.out 0).trans rfl
  have hf_gt_0 := blk_frozen BK_gt.out 0
  have hc_gt_1 : w6_.cell? ⟨gt, 1, none⟩ = some (.int .i64 t.f1) := (blk_cell BK_gt.out 1).trans rfl
  have hf_gt_1 := blk_frozen BK_gt.out 1
  clear hc_gh_0 hf_gh_0 hc_gh_1 hf_gh_1 hc_gh_2 hf_gh_2 hc_gh_3 hf_gh_3
  have nBK := Aside0.mk (blk_below (g := gh) (o := .cells #[.int .u32 x.f0, .bool x.f1, .int .i64 x.f2, .slice A_x x.f3.length c_x] 28 (0, 0)) BK_gh.out hB)
  clear BK_gh
  have BK_gh := nBK
  clear nBK
  have hc_gh_0 : w6_.cell? ⟨gh, 0, none⟩ = some (.int .u32 x.f0) := (blk_cell BK_gh.out 0).trans rfl
  have hf_gh_0 := blk_frozen BK_gh.out 0
  have hc_gh_1 : w6_.cell? ⟨gh, 1, none⟩ = some (.bool x.f1) := (blk_cell BK_gh.out 1).trans rfl
  have hf_gh_1 := blk_frozen BK_gh.out 1
  have hc_gh_2 : w6_.cell? ⟨gh, 2, none⟩ = some (.int .i64 x.f2) := (blk_cell BK_gh.out 2).trans rfl
  have hf_gh_2 := blk_frozen BK_gh.out 2
  have hc_gh_3 : w6_.cell? ⟨gh, 3, none⟩ = some (.slice A_x x.f3.length c_x) := (blk_cell BK_gh.out 3).trans rfl
  have hf_gh_3 := blk_frozen BK_gh.out 3
  clear hc_gr_0 hf_gr_0 hc_gr_1 hf_gr_1 hc_gr_2 hf_gr_2 hc_gr_3 hf_gr_3
  have nBK := Aside0.mk (blk_below (g := gr) (o := .cells #[.int .u32 0, .bool false, .int .i64 0, .slice none 0 0] 28 (0, 0)) BK_gr.out hB)
  clear BK_gr
  have BK_gr := nBK
  clear nBK
  have hc_gr_0 : w6_.cell? ⟨gr, 0, none⟩ = some (.int .u32 0) := (blk_cell BK_gr.out 0).trans rfl
  have hf_gr_0 := blk_frozen BK_gr.out 0
  have hc_gr_1 : w6_.cell? ⟨gr, 1, none⟩ = some (.bool false) := (blk_cell BK_gr.out 1).trans rfl
  have hf_gr_1 := blk_frozen BK_gr.out 1
  have hc_gr_2 : w6_.cell? ⟨gr, 2, none⟩ = some (.int .i64 0) := (blk_cell BK_gr.out 2).trans rfl
  have hf_gr_2 := blk_frozen BK_gr.out 2
  have hc_gr_3 : w6_.cell? ⟨gr, 3, none⟩ = some (.slice none 0 0) := (blk_cell BK_gr.out 3).trans rfl
  have hf_gr_3 := blk_frozen BK_gr.out 3
  have BK_gw := Aside0.mk hbox
  clear hg hbox hB
  have hc_gw_0 : w6_.cell? ⟨gw, 0, none⟩ = some (.int .u32 x.f0) := (blk_cell BK_gw.out 0).trans rfl
  have hf_gw_0 := blk_frozen BK_gw.out 0
  have hc_gw_1 : w6_.cell? ⟨gw, 1, none⟩ = some (.bool x.f1) := (blk_cell BK_gw.out 1).trans rfl
  have hf_gw_1 := blk_frozen BK_gw.out 1
  have hc_gw_2 : w6_.cell? ⟨gw, 2, none⟩ = some (.int .i64 x.f2) := (blk_cell BK_gw.out 2).trans rfl
  have hf_gw_2 := blk_frozen BK_gw.out 2
  have hc_gw_3 : w6_.cell? ⟨gw, 3, none⟩ = some (.slice A_x x.f3.length c_x) := (blk_cell BK_gw.out 3).trans rfl
  have hf_gw_3 := blk_frozen BK_gw.out 3
  have hc_gw_4 : w6_.cell? ⟨gw, 4, none⟩ = some (.int .i64 t.f0) := (blk_cell BK_gw.out 4).trans rfl
  have hf_gw_4 := blk_frozen BK_gw.out 4
  have hc_gw_5 : w6_.cell? ⟨gw, 5, none⟩ = some (.int .i64 t.f1) := (blk_cell BK_gw.out 5).trans rfl
  have hf_gw_5 := blk_frozen BK_gw.out 5
  have hc_gw_6 : w6_.cell? ⟨gw, 6, none⟩ = some (.slice A_b (mk l).length c_b) := (blk_cell BK_gw.out 6).trans rfl
  have hf_gw_6 := blk_frozen BK_gw.out 6
  have hc_gw_7 : w6_.cell? ⟨gw, 7, none⟩ = some (.slice none 0 0) := (blk_cell BK_gw.out 7).trans rfl
  have hf_gw_7 := blk_frozen BK_gw.out 7
  refine hK.out _ _ ⟨hc_gt_0, hc_gt_1, hc_gh_0, hc_gh_1, hc_gh_2, hc_gh_3⟩ (fun hHeld => ?_)
  clear hK K
  refine norm_ (a' := ?_) ?_ ?_
  rotate_left
  · show Act.put _ (some 31) _ = _
    simp only [Act.put, List.setIfInBounds_toArray, List.set_cons_zero, List.set_cons_succ, i64_w, i32_w]
    rfl
  refine pure_ (i := 6) (N := some 14) (v := ?_) (a' := ?_) #[true, true, true, true, true, true, true] rfl rfl (any_of HT_.out (by kernel_rfl)) (fun _ _ _ h => h) (Or.inl ⟨by rfl, ?_⟩) ?_ ?_
  rotate_left
  · intro w'
    go_simp
    with_reducible rfl
  rotate_left
  · simp only [Act.put, List.setIfInBounds_toArray, List.set_cons_zero, List.set_cons_succ, i64_w, i32_w]
    rfl
  refine done_ (done_of HT_.out (by kernel_rfl)) ?_
  have HSW := Aside0.mk (show w4_.heap.size ≤ w6_.heap.size from Nat.le_of_lt (Nat.lt_of_le_of_lt HGE.out (blk_lt (g := gw) (o := .cells #[.int .u32 x.f0, .bool x.f1, .int .i64 x.f2, .slice A_x x.f3.length c_x, .int .i64 t.f0, .int .i64 t.f1, .slice A_b (mk l).length c_b, .slice none 0 0] 73 (0, 0)) BK_gw.out)))
  go_upto_region 7 with (first | (go_at_call 29; (with_reducible refine (cloneH_w A_x c_x x.f3 _ (by have := Xhn.out; omega) (Kd.C_below HC_x.out HB.out)).mono ?_); rintro e w7_ ⟨v_s, rfl, hR, hB⟩; obtain ⟨A_s, c_s, rfl⟩ := Kd.R_slice hR; have hsz := HSW.out; have nHB := Aside0.mk (HB.out.trans (hB.mono HB.out.size)); clear HB; have HB := nHB; clear nHB; clear hc_gt_0 hf_gt_0 hc_gt_1 hf_gt_1; have nBK := Aside0.mk (blk_below (g := gt) (o := .cells #[.int .i64 t.f0, .int .i64 t.f1] 23 (0, 0)) BK_gt.out hB); clear BK_gt; have BK_gt := nBK; clear nBK; have hc_gt_0 : w7_.cell? ⟨gt, 0, none⟩ = some (.int .i64 t.f0) := (blk_cell BK_gt.out 0).trans rfl; have hf_gt_0 := blk_frozen BK_gt.out 0; have hc_gt_1 : w7_.cell? ⟨gt, 1, none⟩ = some (.int .i64 t.f1) := (blk_cell BK_gt.out 1).trans rfl; have hf_gt_1 := blk_frozen BK_gt.out 1; clear hc_gh_0 hf_gh_0 hc_gh_1 hf_gh_1 hc_gh_2 hf_gh_2 hc_gh_3 hf_gh_3; have nBK := Aside0.mk (blk_below (g := gh) (o := .cells #[.int .u32 x.f0, .bool x.f1, .int .i64 x.f2, .slice A_x x.f3.length c_x] 28 (0, 0)) BK_gh.out hB); clear BK_gh; have BK_gh := nBK; clear nBK; have hc_gh_0 : w7_.cell? ⟨gh, 0, none⟩ = some (.int .u32 x.f0) := (blk_cell BK_gh.out 0).trans rfl; have hf_gh_0 := blk_frozen BK_gh.out 0; have hc_gh_1 : w7_.cell? ⟨gh, 1, none⟩ = some (.bool x.f1) := (blk_cell BK_gh.out 1).trans rfl; have hf_gh_1 := blk_frozen BK_gh.out 1; have hc_gh_2 : w7_.cell? ⟨gh, 2, none⟩ = some (.int .i64 x.f2) := (blk_cell BK_gh.out 2).trans rfl; have hf_gh_2 := blk_frozen BK_gh.out 2; have hc_gh_3 : w7_.cell? ⟨gh, 3, none⟩ = some (.slice A_x x.f3.length c_x) := (blk_cell BK_gh.out 3).trans rfl; have hf_gh_3 := blk_frozen BK_gh.out 3; clear hc_gr_0 hf_gr_0 hc_gr_1 hf_gr_1 hc_gr_2 hf_gr_2 hc_gr_3 hf_gr_3; have nBK := Aside0.mk (blk_below (g := gr) (o := .cells #[.int .u32 0, .bool false, .int .i64 0, .slice none 0 0] 28 (0, 0)) BK_gr.out hB); clear BK_gr; have BK_gr := nBK; clear nBK; have hc_gr_0 : w7_.cell? ⟨gr, 0, none⟩ = some (.int .u32 0) := (blk_cell BK_gr.out 0).trans rfl; have hf_gr_0 := blk_frozen BK_gr.out 0; have hc_gr_1 : w7_.cell? ⟨gr, 1, none⟩ = some (.bool false) := (blk_cell BK_gr.out 1).trans rfl; have hf_gr_1 := blk_frozen BK_gr.out 1; have hc_gr_2 : w7_.cell? ⟨gr, 2, none⟩ = some (.int .i64 0) := (blk_cell BK_gr.out 2).trans rfl; have hf_gr_2 := blk_frozen BK_gr.out 2; have hc_gr_3 : w7_.cell? ⟨gr, 3, none⟩ = some (.slice none 0 0) := (blk_cell BK_gr.out 3).trans rfl; have hf_gr_3 := blk_frozen BK_gr.out 3; clear hc_gw_0 hf_gw_0 hc_gw_1 hf_gw_1 hc_gw_2 hf_gw_2 hc_gw_3 hf_gw_3 hc_gw_4 hf_gw_4 hc_gw_5 hf_gw_5 hc_gw_6 hf_gw_6 hc_gw_7 hf_gw_7; have nBK := Aside0.mk (blk_below (g := gw) (o := .cells #[.int .u32 x.f0, .bool x.f1, .int .i64 x.f2, .slice A_x x.f3.length c_x, .int .i64 t.f0, .int .i64 t.f1, .slice A_b (mk l).length c_b, .slice none 0 0] 73 (0, 0)) BK_gw.out hB); clear BK_gw; have BK_gw := nBK; clear nBK; have hc_gw_0 : w7_.cell? ⟨gw, 0, none⟩ = some (.int .u32 x.f0) := (blk_cell BK_gw.out 0).trans rfl; have hf_gw_0 := blk_frozen BK_gw.out 0; have hc_gw_1 : w7_.cell? ⟨gw, 1, none⟩ = some (.bool x.f1) := (blk_cell BK_gw.out 1).trans rfl; have hf_gw_1 := blk_frozen BK_gw.out 1; have hc_gw_2 : w7_.cell? ⟨gw, 2, none⟩ = some (.int .i64 x.f2) := (blk_cell BK_gw.out 2).trans rfl; have hf_gw_2 := blk_frozen BK_gw.out 2; have hc_gw_3 : w7_.cell? ⟨gw, 3, none⟩ = some (.slice A_x x.f3.length c_x) := (blk_cell BK_gw.out 3).trans rfl; have hf_gw_3 := blk_frozen BK_gw.out 3; have hc_gw_4 : w7_.cell? ⟨gw, 4, none⟩ = some (.int .i64 t.f0) := (blk_cell BK_gw.out 4).trans rfl; have hf_gw_4 := blk_frozen BK_gw.out 4; have hc_gw_5 : w7_.cell? ⟨gw, 5, none⟩ = some (.int .i64 t.f1) := (blk_cell BK_gw.out 5).trans rfl; have hf_gw_5 := blk_frozen BK_gw.out 5; have hc_gw_6 : w7_.cell? ⟨gw, 6, none⟩ = some (.slice A_b (mk l).length c_b) := (blk_cell BK_gw.out 6).trans rfl; have hf_gw_6 := blk_frozen BK_gw.out 6; have hc_gw_7 : w7_.cell? ⟨gw, 7, none⟩ = some (.slice none 0 0) := (blk_cell BK_gw.out 7).trans rfl; have hf_gw_7 := blk_frozen BK_gw.out 7; replace HRB := mvR HRB hB; have HRS := Aside0.mk (show Kd.R k49 49 w7_ w4_.heap.size (fun _ => True) _ _ from Kd.R_lower hR hsz); clear hR hB hsz))
  have HW := Aside0.mk (show Wk w4_.heap.size gw (hear0 t x l) (.slice A_s x.f3.length c_s) (.slice A_b (mk l).length c_b) (.slice none 0 0) (w7_.setCell ⟨gw, 3, none⟩ (.slice A_s x.f3.length c_s)) from ⟨blk_put (cs := #[.int .u32 x.f0, .bool x.f1, .int .i64 x.f2, .slice A_x x.f3.length c_x, .int .i64 t.f0, .int .i64 t.f1, .slice A_b (mk l).length c_b, .slice none 0 0]) BK_gw.out 3 _ rfl, HGE.out, Kd.R_set HRS.out BK_gw.out (by decide) 3 _, Kd.R_set HRB.out BK_gw.out (by decide) 3 _, Kd.R_nil _ _ _ _ _⟩)
  have nB := Aside0.mk (below_set (j := 3) (v := .slice A_s x.f3.length c_s) HB.out GE_gw.out)
  have nB := Aside0.mk (below_set (j := 3) (v := .slice A_s x.f3.length c_s) HB.out GE_gw.out)
  have nH : Aside0 ((w7_.setCell ⟨gw, 3, none⟩ (.slice A_s x.f3.length c_s)).heap[gh]? = some (.cells #[.int .u32 x.f0, .bool x.f1, .int .i64 x.f2, .slice A_x x.f3.length c_x] 28 (0, 0))) := ⟨blk_far BK_gh.out NB_gh_gw.out _⟩
  have nR : Aside0 ((w7_.setCell ⟨gw, 3, none⟩ (.slice A_s x.f3.length c_s)).heap[gr]? = some (.cells #[.int .u32 0, .bool false, .int .i64 0, .slice none 0 0] 28 (0, 0))) := ⟨blk_far BK_gr.out NB_gr_gw.out _⟩
  have XBS := Aside0.mk (show w4_.heap.size ≤ (w7_.setCell ⟨gw, 3, none⟩ (.slice A_s x.f3.length c_s)).heap.size from Nat.le_trans (Nat.le_of_lt (Nat.lt_of_le_of_lt HGE.out HW.out.lt)) (Nat.le_refl _))
  clear hc_gt_0 hf_gt_0 hc_gt_1 hf_gt_1
  clear hc_gh_0 hf_gh_0 hc_gh_1 hf_gh_1 hc_gh_2 hf_gh_2 hc_gh_3 hf_gh_3
  clear hc_gr_0 hf_gr_0 hc_gr_1 hf_gr_1 hc_gr_2 hf_gr_2 hc_gr_3 hf_gr_3
  clear hc_gw_0 hf_gw_0 hc_gw_1 hf_gw_1 hc_gw_2 hf_gw_2 hc_gw_3 hf_gw_3 hc_gw_4 hf_gw_4 hc_gw_5 hf_gw_5 hc_gw_6 hf_gw_6 hc_gw_7 hf_gw_7
  clear HB BK_gt BK_gh BK_gr BK_gw HRS HRB
  generalize (w7_.setCell ⟨gw, 3, none⟩ (.slice A_s x.f3.length c_s)) = w70_ at HW nB nH nR XBS ⊢
  have XOK : Aside0 (WOk (hear0 t x l)) := ⟨⟨Xhs.out, mk_rise l, by have := Xhn.out; show x.f3.length ≤ _; omega, by have h1 := mk_len l; have h2 := Xhm.out; show (mk l).length ≤ _; omega, by show (0 : Nat) ≤ 100; omega⟩⟩
  have HDO := Aside0.mk (Xhdo.out _ _ _ _ _ _ _ HW.out XOK.out XBS.out)
  rw [Xh2.out] at HDO
  by_cases h64 : m2.srcs.length ≤ 64
  · have c48 : ¬ (64 : Int) < (m2.srcs.length : Int) := by omega
    have X64 := Aside0.mk h64
    clear h64
    go_upto_region 10 with (first | ((with_reducible refine gate_dst (N := 41) rfl ?_); refine goesB_ (some 41) rfl rfl Xhfn.out Xhnm.out Xhbd.out #[] #[.pointer (some ⟨gw, 0, none⟩)] rfl rfl (by simp; rfl) ?_; with_reducible refine HDO.out.mono ?_; rintro e w8 ⟨rfl, ⟨vS2, vA2, hW2⟩, hFr⟩; refine ⟨_, rfl, ?_⟩; have hBb := hFr.below HW.out.ge XBS.out; obtain ⟨A2, c2, e2⟩ := Kd.R_slice hW2.S; subst e2; obtain ⟨A3, c3, e3⟩ := Kd.R_slice hW2.A; subst e3; obtain ⟨A4, c4, e4⟩ := Kd.R_slice hW2.B; have HW2 := Aside0.mk hW2; have HB := Aside0.mk (nB.out.trans (hBb.mono HSB.out)); have BK_gh := Aside0.mk ((hBb.block gh LT_gh.out).trans nH.out); have BK_gr := Aside0.mk ((hBb.block gr LT_gr.out).trans nR.out); have XBW := Aside0.mk (Nat.le_trans XBS.out hFr.size); clear hW2 hFr hBb nB nH nR HDO HW e4; have hw_3 : w8.cell? ⟨gw, 3, none⟩ = some (.slice A2 m2.srcs.length c2) := (blk_cell HW2.out.blk 3).trans rfl; have hf_3 := blk_frozen HW2.out.blk 3))
    clear hw_3 hf_3
    have BK_gw := Aside0.mk HW2.out.blk
    have HR_S := Aside0.mk HW2.out.S
    have HR_A := Aside0.mk HW2.out.A
    have NB_gr_gh := NB_gr_gh
    have NB_gr_gw := NB_gr_gw
    have hc_gh_0 : w8.cell? ⟨gh, 0, none⟩ = some (.int .u32 x.f0) := (blk_cell BK_gh.out 0).trans rfl
    have hf_gh_0 := blk_frozen BK_gh.out 0
    have hc_gh_1 : w8.cell? ⟨gh, 1, none⟩ = some (.bool x.f1) := (blk_cell BK_gh.out 1).trans rfl
    have hf_gh_1 := blk_frozen BK_gh.out 1
    have hc_gh_2 : w8.cell? ⟨gh, 2, none⟩ = some (.int .i64 x.f2) := (blk_cell BK_gh.out 2).trans rfl
    have hf_gh_2 := blk_frozen BK_gh.out 2
    have hc_gh_3 : w8.cell? ⟨gh, 3, none⟩ = some (.slice A_x x.f3.length c_x) := (blk_cell BK_gh.out 3).trans rfl
    have hf_gh_3 := blk_frozen BK_gh.out 3
    have hc_gr_0 : w8.cell? ⟨gr, 0, none⟩ = some (.int .u32 0) := (blk_cell BK_gr.out 0).trans rfl
    have hf_gr_0 := blk_frozen BK_gr.out 0
    have hc_gr_1 : w8.cell? ⟨gr, 1, none⟩ = some (.bool false) := (blk_cell BK_gr.out 1).trans rfl
    have hf_gr_1 := blk_frozen BK_gr.out 1
    have hc_gr_2 : w8.cell? ⟨gr, 2, none⟩ = some (.int .i64 0) := (blk_cell BK_gr.out 2).trans rfl
    have hf_gr_2 := blk_frozen BK_gr.out 2
    have hc_gr_3 : w8.cell? ⟨gr, 3, none⟩ = some (.slice none 0 0) := (blk_cell BK_gr.out 3).trans rfl
    have hf_gr_3 := blk_frozen BK_gr.out 3
    have hc_gw_0 : w8.cell? ⟨gw, 0, none⟩ = some (.int .u32 m2.g) := (blk_cell BK_gw.out 0).trans rfl
    have hf_gw_0 := blk_frozen BK_gw.out 0
    have hc_gw_1 : w8.cell? ⟨gw, 1, none⟩ = some (.bool m2.ex) := (blk_cell BK_gw.out 1).trans rfl
    have hf_gw_1 := blk_frozen BK_gw.out 1
    have hc_gw_2 : w8.cell? ⟨gw, 2, none⟩ = some (.int .i64 m2.left) := (blk_cell BK_gw.out 2).trans rfl
    have hf_gw_2 := blk_frozen BK_gw.out 2
    have hc_gw_3 : w8.cell? ⟨gw, 3, none⟩ = some (.slice A2 m2.srcs.length c2) := (blk_cell BK_gw.out 3).trans rfl
    have hf_gw_3 := blk_frozen BK_gw.out 3
    have hc_gw_4 : w8.cell? ⟨gw, 4, none⟩ = some (.int .i64 m2.keep) := (blk_cell BK_gw.out 4).trans rfl
    have hf_gw_4 := blk_frozen BK_gw.out 4
    have hc_gw_5 : w8.cell? ⟨gw, 5, none⟩ = some (.int .i64 m2.last) := (blk_cell BK_gw.out 5).trans rfl
    have hf_gw_5 := blk_frozen BK_gw.out 5
    have hc_gw_6 : w8.cell? ⟨gw, 6, none⟩ = some (.slice A_b (mk l).length c_b) := (blk_cell BK_gw.out 6).trans rfl
    have hf_gw_6 := blk_frozen BK_gw.out 6
    have hc_gw_7 : w8.cell? ⟨gw, 7, none⟩ = some (.slice A3 m2.asks.length c3) := (blk_cell BK_gw.out 7).trans rfl
    have hf_gw_7 := blk_frozen BK_gw.out 7
    refine start_ (n := 11) (S := fun w' => w'.cell? ⟨gw, 0, none⟩ = some (.int .u32 m2.g) ∧ w'.cell? ⟨gw, 1, none⟩ = some (.bool m2.ex) ∧ w'.cell? ⟨gw, 2, none⟩ = some (.int .i64 m2.left) ∧ w'.cell? ⟨gw, 3, none⟩ = some (.slice A2 m2.srcs.length c2) ∧ w'.cell? ⟨gw, 4, none⟩ = some (.int .i64 m2.keep) ∧ w'.cell? ⟨gw, 5, none⟩ = some (.int .i64 m2.last) ∧ w'.cell? ⟨gw, 6, none⟩ = some (.slice A_b (mk l).length c_b) ∧ w'.cell? ⟨gw, 7, none⟩ = some (.slice A3 m2.asks.length c3)) (ds := []) #[false, false, false, false, false, false, false, false, false, false, false] (by kernel_rfl) rfl rfl ⟨hc_gw_0, hc_gw_1, hc_gw_2, hc_gw_3, hc_gw_4, hc_gw_5, hc_gw_6, hc_gw_7⟩ (fun hHeld => ?_); refine with_tabW he_t10 he_b10 (fun HT_ HW_ => ?_)
    have hB : Below w8.heap.size w8 w8.drew := below_drew (Below.refl _ _)
    generalize w8.drew = w81_ at hB hHeld ⊢
    have nHB := Aside0.mk (HB.out.trans (hB.mono HB.out.size))
    clear HB
    have HB := nHB
    clear nHB
    clear hc_gh_0 hf_gh_0 hc_gh_1 hf_gh_1 hc_gh_2 hf_gh_2 hc_gh_3 hf_gh_3
    have nBK := Aside0.mk (blk_below (g := gh) (o := .cells #[.int .u32 x.f0, .bool x.f1, .int .i64 x.f2, .slice A_x x.f3.length c_x] 28 (0, 0)) BK_gh.out hB)
    clear BK_gh
    have BK_gh := nBK
    clear nBK
    have hc_gh_0 : w81_.cell? ⟨gh, 0, none⟩ = some (.int .u32 x.f0) := (blk_cell BK_gh.out 0).trans rfl
    have hf_gh_0 := blk_frozen BK_gh.out 0
    have hc_gh_1 : w81_.cell? ⟨gh, 1, none⟩ = some (.bool x.f1) := (blk_cell BK_gh.out 1).trans rfl
    have hf_gh_1 := blk_frozen BK_gh.out 1
    have hc_gh_2 : w81_.cell? ⟨gh, 2, none⟩ = some (.int .i64 x.f2) := (blk_cell BK_gh.out 2).trans rfl
    have hf_gh_2 := blk_frozen BK_gh.out 2
    have hc_gh_3 : w81_.cell? ⟨gh, 3, none⟩ = some (.slice A_x x.f3.length c_x) := (blk_cell BK_gh.out 3).trans rfl
    have hf_gh_3 := blk_frozen BK_gh.out 3
    clear hc_gr_0 hf_gr_0 hc_gr_1 hf_gr_1 hc_gr_2 hf_gr_2 hc_gr_3 hf_gr_3
    have nBK := Aside0.mk (blk_below (g := gr) (o := .cells #[.int .u32 0, .bool false, .int .i64 0, .slice none 0 0] 28 (0, 0)) BK_gr.out hB)
    clear BK_gr
    have BK_gr := nBK
    clear nBK
    have hc_gr_0 : w81_.cell? ⟨gr, 0, none⟩ = some (.int .u32 0) := (blk_cell BK_gr.out 0).trans rfl
    have hf_gr_0 := blk_frozen BK_gr.out 0
    have hc_gr_1 : w81_.cell? ⟨gr, 1, none⟩ = some (.bool false) := (blk_cell BK_gr.out 1).trans rfl
    have hf_gr_1 := blk_frozen BK_gr.out 1
    have hc_gr_2 : w81_.cell? ⟨gr, 2, none⟩ = some (.int .i64 0) := (blk_cell BK_gr.out 2).trans rfl
    have hf_gr_2 := blk_frozen BK_gr.out 2
    have hc_gr_3 : w81_.cell? ⟨gr, 3, none⟩ = some (.slice none 0 0) := (blk_cell BK_gr.out 3).trans rfl
    have hf_gr_3 := blk_frozen BK_gr.out 3
    clear hc_gw_0 hf_gw_0 hc_gw_1 hf_gw_1 hc_gw_2 hf_gw_2 hc_gw_3 hf_gw_3 hc_gw_4 hf_gw_4 hc_gw_5 hf_gw_5 hc_gw_6 hf_gw_6 hc_gw_7 hf_gw_7
    have nBK := Aside0.mk (blk_below (g := gw) (o := .cells #[.int .u32 m2.g, .bool m2.ex, .int .i64 m2.left, .slice A2 m2.srcs.length c2, .int .i64 m2.keep, .int .i64 m2.last, .slice A_b (mk l).length c_b, .slice A3 m2.asks.length c3] 73 (0, 0)) BK_gw.out hB)
    clear BK_gw
    have BK_gw := nBK
    clear nBK
    have hc_gw_0 : w81_.cell? ⟨gw, 0, none⟩ = some (.int .u32 m2.g) := (blk_cell BK_gw.out 0).trans rfl
    have hf_gw_0 := blk_frozen BK_gw.out 0
    have hc_gw_1 : w81_.cell? ⟨gw, 1, none⟩ = some (.bool m2.ex) := (blk_cell BK_gw.out 1).trans rfl
    have hf_gw_1 := blk_frozen BK_gw.out 1
    have hc_gw_2 : w81_.cell? ⟨gw, 2, none⟩ = some (.int .i64 m2.left) := (blk_cell BK_gw.out 2).trans rfl
    have hf_gw_2 := blk_frozen BK_gw.out 2
    have hc_gw_3 : w81_.cell? ⟨gw, 3, none⟩ = some (.slice A2 m2.srcs.length c2) := (blk_cell BK_gw.out 3).trans rfl
    have hf_gw_3 := blk_frozen BK_gw.out 3
    have hc_gw_4 : w81_.cell? ⟨gw, 4, none⟩ = some (.int .i64 m2.keep) := (blk_cell BK_gw.out 4).trans rfl
    have hf_gw_4 := blk_frozen BK_gw.out 4
    have hc_gw_5 : w81_.cell? ⟨gw, 5, none⟩ = some (.int .i64 m2.last) := (blk_cell BK_gw.out 5).trans rfl
    have hf_gw_5 := blk_frozen BK_gw.out 5
    have hc_gw_6 : w81_.cell? ⟨gw, 6, none⟩ = some (.slice A_b (mk l).length c_b) := (blk_cell BK_gw.out 6).trans rfl
    have hf_gw_6 := blk_frozen BK_gw.out 6
    have hc_gw_7 : w81_.cell? ⟨gw, 7, none⟩ = some (.slice A3 m2.asks.length c3) := (blk_cell BK_gw.out 7).trans rfl
    have hf_gw_7 := blk_frozen BK_gw.out 7
    have nHC := Aside0.mk (Kd.R_below HR_S.out hB)
    clear HR_S
    have HR_S := nHC
    clear nHC
    have nHC := Aside0.mk (Kd.R_below HR_A.out hB)
    clear HR_A
    have HR_A := nHC
    clear nHC
    clear hB
    refine pure_ (i := 0) (N := some 50) (v := ?_) (a' := ?_) #[true, false, false, false, false, false, false, false, false, false, false] rfl rfl (any_of HT_.out (by kernel_rfl)) (fun _ _ _ h => h) (Or.inl ⟨by rfl, ?_⟩) ?_ ?_
    rotate_left
    · intro w'
      go_simp
      with_reducible rfl
    rotate_left
    · simp only [Act.put, List.setIfInBounds_toArray, List.set_cons_zero, List.set_cons_succ, i64_w, i32_w]
      rfl
    refine pure_ (i := 1) (N := some 51) (v := ?_) (a' := ?_) #[true, true, false, false, false, false, false, false, false, false, false] rfl rfl (any_of HT_.out (by kernel_rfl)) (fun _ _ _ h => h) (Or.inl ⟨by rfl, ?_⟩) ?_ ?_
    rotate_left
    · intro w'
      go_simp
      with_reducible rfl
    rotate_left
    · simp only [Act.put, List.setIfInBounds_toArray, List.set_cons_zero, List.set_cons_succ, i64_w, i32_w]
      rfl
    refine pure_ (i := 2) (N := some 52) (v := ?_) (a' := ?_) #[true, true, true, false, false, false, false, false, false, false, false] rfl rfl (any_of HT_.out (by kernel_rfl)) (fun _ _ _ h => h) (Or.inl ⟨by rfl, ?_⟩) ?_ ?_
    rotate_left
    · intro w'
      go_simp
      with_reducible rfl
    rotate_left
    · simp only [Act.put, List.setIfInBounds_toArray, List.set_cons_zero, List.set_cons_succ, i64_w, i32_w]
      rfl
    refine take_ (i := 3) (N := some 53) (v := ?_) (a' := ?_) #[true, true, true, true, false, false, false, false, false, false, false] rfl rfl (take_ofW HT_.out HW_.out (by kernel_rfl)) (fun _ _ _ h => h) (Or.inl ⟨by rfl, ?_⟩) hHeld ?_ ?_
    rotate_left
    · rintro w' ⟨s0, s1, s2, s3, s4, s5, s6, s7⟩
      go_simp
      with_reducible rfl
    rotate_left
    · simp only [Act.put, List.setIfInBounds_toArray, List.set_cons_zero, List.set_cons_succ, i64_w, i32_w]
      rfl
    refine pure_ (i := 4) (N := some 54) (v := ?_) (a' := ?_) #[true, true, true, true, true, false, false, false, false, false, false] rfl rfl (any_of HT_.out (by kernel_rfl)) (fun _ _ _ h => h) (Or.inl ⟨by rfl, ?_⟩) ?_ ?_
    rotate_left
    · intro w'
      go_simp
      with_reducible rfl
    rotate_left
    · simp only [Act.put, List.setIfInBounds_toArray, List.set_cons_zero, List.set_cons_succ, i64_w, i32_w]
      rfl
    refine pure_ (i := 5) (N := some 55) (v := ?_) (a' := ?_) #[true, true, true, true, true, true, false, false, false, false, false] rfl rfl (any_of HT_.out (by kernel_rfl)) (fun _ _ _ h => h) (Or.inl ⟨by rfl, ?_⟩) ?_ ?_
    rotate_left
    · intro w'
      go_simp
      with_reducible rfl
    rotate_left
    · simp only [Act.put, List.setIfInBounds_toArray, List.set_cons_zero, List.set_cons_succ, i64_w, i32_w]
      rfl
    refine pure_ (i := 6) (N := some 56) (v := ?_) (a' := ?_) #[true, true, true, true, true, true, true, false, false, false, false] rfl rfl (any_of HT_.out (by kernel_rfl)) (fun _ _ _ h => h) (Or.inl ⟨by rfl, ?_⟩) ?_ ?_
    rotate_left
    · intro w'
      go_simp
      with_reducible rfl
    rotate_left
    · simp only [Act.put, List.setIfInBounds_toArray, List.set_cons_zero, List.set_cons_succ, i64_w, i32_w]
      rfl
    refine take_ (i := 7) (N := some 57) (v := ?_) (a' := ?_) #[true, true, true, true, true, true, true, true, false, false, false] rfl rfl (take_ofW HT_.out HW_.out (by kernel_rfl)) (fun _ _ _ h => h) (Or.inl ⟨by rfl, ?_⟩) hHeld ?_ ?_
    rotate_left
    · rintro w' ⟨s0, s1, s2, s3, s4, s5, s6, s7⟩
      go_simp
      with_reducible rfl
    rotate_left
    · simp only [Act.put, List.setIfInBounds_toArray, List.set_cons_zero, List.set_cons_succ, i64_w, i32_w]
      rfl
    refine one_ (i := 8) (N := none) #[true, true, true, true, true, true, true, true, true, false, false] rfl rfl (one_of HT_.out (by kernel_rfl)) (by decide) (fun K hK => ?_)
    refine skip_ (w1 := ?_) (by rfl) rfl ?_ ?_
    rotate_left
    · go_simp
      rfl
    have nHB : Aside0 (Below w.heap.size w (w81_.setCell ⟨gr, 0, none⟩ (.int .u32 m2.g))) := ⟨below_set HB.out GE_gr.out⟩
    have nBK : Aside0 ((w81_.setCell ⟨gr, 0, none⟩ (.int .u32 m2.g)).heap[gr]? = some (.cells #[.int .u32 m2.g, .bool false, .int .i64 0, .slice none 0 0] 28 (0, 0))) := ⟨blk_put (cs := #[.int .u32 0, .bool false, .int .i64 0, .slice none 0 0]) BK_gr.out 0 (.int .u32 m2.g) rfl⟩
    have nB_gh : Aside0 ((w81_.setCell ⟨gr, 0, none⟩ (.int .u32 m2.g)).heap[gh]? = some (.cells #[.int .u32 x.f0, .bool x.f1, .int .i64 x.f2, .slice A_x x.f3.length c_x] 28 (0, 0))) := ⟨blk_far BK_gh.out NB_gh_gr.out _⟩
    have nB_gw : Aside0 ((w81_.setCell ⟨gr, 0, none⟩ (.int .u32 m2.g)).heap[gw]? = some (.cells #[.int .u32 m2.g, .bool m2.ex, .int .i64 m2.left, .slice A2 m2.srcs.length c2, .int .i64 m2.keep, .int .i64 m2.last, .slice A_b (mk l).length c_b, .slice A3 m2.asks.length c3] 73 (0, 0))) := ⟨blk_far BK_gw.out NB_gw_gr.out _⟩
    have nR_S := Aside0.mk (Kd.R_mono (Kd.R_far (p := ⟨gr, 0, none⟩) (Kd.R_types HR_S.out BK_gr.out (by decide)) (fun _ hk => hk.2) (.int .u32 m2.g)) (fun _ _ => trivial : ∀ k, _ → (fun _ => True) k))
    have nR_A := Aside0.mk (Kd.R_mono (Kd.R_far (p := ⟨gr, 0, none⟩) (Kd.R_types HR_A.out BK_gr.out (by decide)) (fun _ hk => hk.2) (.int .u32 m2.g)) (fun _ _ => trivial : ∀ k, _ → (fun _ => True) k))
    clear hc_gh_0 hf_gh_0 hc_gh_1 hf_gh_1 hc_gh_2 hf_gh_2 hc_gh_3 hf_gh_3
    clear BK_gh
    clear hc_gr_0 hf_gr_0 hc_gr_1 hf_gr_1 hc_gr_2 hf_gr_2 hc_gr_3 hf_gr_3
    clear BK_gr
    clear hc_gw_0 hf_gw_0 hc_gw_1 hf_gw_1 hc_gw_2 hf_gw_2 hc_gw_3 hf_gw_3 hc_gw_4 hf_gw_4 hc_gw_5 hf_gw_5 hc_gw_6 hf_gw_6 hc_gw_7 hf_gw_7
    clear BK_gw
    clear HR_S
    clear HR_A
    clear HB
    generalize (w81_.setCell ⟨gr, 0, none⟩ (.int .u32 m2.g)) = w82_ at nHB nBK nB_gh nB_gw nR_S nR_A ⊢
    have HB := nHB
    have BK_gr := nBK
    have BK_gh := nB_gh
    have BK_gw := nB_gw
    have HR_S := nR_S
    have HR_A := nR_A
    clear nHB nBK nB_gh nB_gw nR_S nR_A
    have hc_gh_0 : w82_.cell? ⟨gh, 0, none⟩ = some (.int .u32 x.f0) := (blk_cell BK_gh.out 0).trans rfl
    have hf_gh_0 := blk_frozen BK_gh.out 0
    have hc_gh_1 : w82_.cell? ⟨gh, 1, none⟩ = some (.bool x.f1) := (blk_cell BK_gh.out 1).trans rfl
    have hf_gh_1 := blk_frozen BK_gh.out 1
    have hc_gh_2 : w82_.cell? ⟨gh, 2, none⟩ = some (.int .i64 x.f2) := (blk_cell BK_gh.out 2).trans rfl
    have hf_gh_2 := blk_frozen BK_gh.out 2
    have hc_gh_3 : w82_.cell? ⟨gh, 3, none⟩ = some (.slice A_x x.f3.length c_x) := (blk_cell BK_gh.out 3).trans rfl
    have hf_gh_3 := blk_frozen BK_gh.out 3
    have hc_gr_0 : w82_.cell? ⟨gr, 0, none⟩ = some (.int .u32 m2.g) := (blk_cell BK_gr.out 0).trans rfl
    have hf_gr_0 := blk_frozen BK_gr.out 0
    have hc_gr_1 : w82_.cell? ⟨gr, 1, none⟩ = some (.bool false) := (blk_cell BK_gr.out 1).trans rfl
    have hf_gr_1 := blk_frozen BK_gr.out 1
    have hc_gr_2 : w82_.cell? ⟨gr, 2, none⟩ = some (.int .i64 0) := (blk_cell BK_gr.out 2).trans rfl
    have hf_gr_2 := blk_frozen BK_gr.out 2
    have hc_gr_3 : w82_.cell? ⟨gr, 3, none⟩ = some (.slice none 0 0) := (blk_cell BK_gr.out 3).trans rfl
    have hf_gr_3 := blk_frozen BK_gr.out 3
    have hc_gw_0 : w82_.cell? ⟨gw, 0, none⟩ = some (.int .u32 m2.g) := (blk_cell BK_gw.out 0).trans rfl
    have hf_gw_0 := blk_frozen BK_gw.out 0
    have hc_gw_1 : w82_.cell? ⟨gw, 1, none⟩ = some (.bool m2.ex) := (blk_cell BK_gw.out 1).trans rfl
    have hf_gw_1 := blk_frozen BK_gw.out 1
    have hc_gw_2 : w82_.cell? ⟨gw, 2, none⟩ = some (.int .i64 m2.left) := (blk_cell BK_gw.out 2).trans rfl
    have hf_gw_2 := blk_frozen BK_gw.out 2
    have hc_gw_3 : w82_.cell? ⟨gw, 3, none⟩ = some (.slice A2 m2.srcs.length c2) := (blk_cell BK_gw.out 3).trans rfl
    have hf_gw_3 := blk_frozen BK_gw.out 3
    have hc_gw_4 : w82_.cell? ⟨gw, 4, none⟩ = some (.int .i64 m2.keep) := (blk_cell BK_gw.out 4).trans rfl
    have hf_gw_4 := blk_frozen BK_gw.out 4
    have hc_gw_5 : w82_.cell? ⟨gw, 5, none⟩ = some (.int .i64 m2.last) := (blk_cell BK_gw.out 5).trans rfl
    have hf_gw_5 := blk_frozen BK_gw.out 5
    have hc_gw_6 : w82_.cell? ⟨gw, 6, none⟩ = some (.slice A_b (mk l).length c_b) := (blk_cell BK_gw.out 6).trans rfl
    have hf_gw_6 := blk_frozen BK_gw.out 6
    have hc_gw_7 : w82_.cell? ⟨gw, 7, none⟩ = some (.slice A3 m2.asks.length c3) := (blk_cell BK_gw.out 7).trans rfl
    have hf_gw_7 := blk_frozen BK_gw.out 7
    have nHB : Aside0 (Below w.heap.size w (w82_.setCell ⟨gr, 1, none⟩ (.bool m2.ex))) := ⟨below_set HB.out GE_gr.out⟩
    have nBK : Aside0 ((w82_.setCell ⟨gr, 1, none⟩ (.bool m2.ex)).heap[gr]? = some (.cells #[.int .u32 m2.g, .bool m2.ex, .int .i64 0, .slice none 0 0] 28 (0, 0))) := ⟨blk_put (cs := #[.int .u32 m2.g, .bool false, .int .i64 0, .slice none 0 0]) BK_gr.out 1 (.bool m2.ex) rfl⟩
    have nB_gh : Aside0 ((w82_.setCell ⟨gr, 1, none⟩ (.bool m2.ex)).heap[gh]? = some (.cells #[.int .u32 x.f0, .bool x.f1, .int .i64 x.f2, .slice A_x x.f3.length c_x] 28 (0, 0))) := ⟨blk_far BK_gh.out NB_gh_gr.out _⟩
    have nB_gw : Aside0 ((w82_.setCell ⟨gr, 1, none⟩ (.bool m2.ex)).heap[gw]? = some (.cells #[.int .u32 m2.g, .bool m2.ex, .int .i64 m2.left, .slice A2 m2.srcs.length c2, .int .i64 m2.keep, .int .i64 m2.last, .slice A_b (mk l).length c_b, .slice A3 m2.asks.length c3] 73 (0, 0))) := ⟨blk_far BK_gw.out NB_gw_gr.out _⟩
    have nR_S := Aside0.mk (Kd.R_mono (Kd.R_far (p := ⟨gr, 1, none⟩) (Kd.R_types HR_S.out BK_gr.out (by decide)) (fun _ hk => hk.2) (.bool m2.ex)) (fun _ _ => trivial : ∀ k, _ → (fun _ => True) k))
    have nR_A := Aside0.mk (Kd.R_mono (Kd.R_far (p := ⟨gr, 1, none⟩) (Kd.R_types HR_A.out BK_gr.out (by decide)) (fun _ hk => hk.2) (.bool m2.ex)) (fun _ _ => trivial : ∀ k, _ → (fun _ => True) k))
    clear hc_gh_0 hf_gh_0 hc_gh_1 hf_gh_1 hc_gh_2 hf_gh_2 hc_gh_3 hf_gh_3
    clear BK_gh
    clear hc_gr_0 hf_gr_0 hc_gr_1 hf_gr_1 hc_gr_2 hf_gr_2 hc_gr_3 hf_gr_3
    clear BK_gr
    clear hc_gw_0 hf_gw_0 hc_gw_1 hf_gw_1 hc_gw_2 hf_gw_2 hc_gw_3 hf_gw_3 hc_gw_4 hf_gw_4 hc_gw_5 hf_gw_5 hc_gw_6 hf_gw_6 hc_gw_7 hf_gw_7
    clear BK_gw
    clear HR_S
    clear HR_A
    clear HB
    generalize (w82_.setCell ⟨gr, 1, none⟩ (.bool m2.ex)) = w83_ at nHB nBK nB_gh nB_gw nR_S nR_A ⊢
    have HB := nHB
    have BK_gr := nBK
    have BK_gh := nB_gh
    have BK_gw := nB_gw
    have HR_S := nR_S
    have HR_A := nR_A
    clear nHB nBK nB_gh nB_gw nR_S nR_A
    have hc_gh_0 : w83_.cell? ⟨gh, 0, none⟩ = some (.int .u32 x.f0) := (blk_cell BK_gh.out 0).trans rfl
    have hf_gh_0 := blk_frozen BK_gh.out 0
    have hc_gh_1 : w83_.cell? ⟨gh, 1, none⟩ = some (.bool x.f1) := (blk_cell BK_gh.out 1).trans rfl
    have hf_gh_1 := blk_frozen BK_gh.out 1
    have hc_gh_2 : w83_.cell? ⟨gh, 2, none⟩ = some (.int .i64 x.f2) := (blk_cell BK_gh.out 2).trans rfl
    have hf_gh_2 := blk_frozen BK_gh.out 2
    have hc_gh_3 : w83_.cell? ⟨gh, 3, none⟩ = some (.slice A_x x.f3.length c_x) := (blk_cell BK_gh.out 3).trans rfl
    have hf_gh_3 := blk_frozen BK_gh.out 3
    have hc_gr_0 : w83_.cell? ⟨gr, 0, none⟩ = some (.int .u32 m2.g) := (blk_cell BK_gr.out 0).trans rfl
    have hf_gr_0 := blk_frozen BK_gr.out 0
    have hc_gr_1 : w83_.cell? ⟨gr, 1, none⟩ = some (.bool m2.ex) := (blk_cell BK_gr.out 1).trans rfl
    have hf_gr_1 := blk_frozen BK_gr.out 1
    have hc_gr_2 : w83_.cell? ⟨gr, 2, none⟩ = some (.int .i64 0) := (blk_cell BK_gr.out 2).trans rfl
    have hf_gr_2 := blk_frozen BK_gr.out 2
    have hc_gr_3 : w83_.cell? ⟨gr, 3, none⟩ = some (.slice none 0 0) := (blk_cell BK_gr.out 3).trans rfl
    have hf_gr_3 := blk_frozen BK_gr.out 3
    have hc_gw_0 : w83_.cell? ⟨gw, 0, none⟩ = some (.int .u32 m2.g) := (blk_cell BK_gw.out 0).trans rfl
    have hf_gw_0 := blk_frozen BK_gw.out 0
    have hc_gw_1 : w83_.cell? ⟨gw, 1, none⟩ = some (.bool m2.ex) := (blk_cell BK_gw.out 1).trans rfl
    have hf_gw_1 := blk_frozen BK_gw.out 1
    have hc_gw_2 : w83_.cell? ⟨gw, 2, none⟩ = some (.int .i64 m2.left) := (blk_cell BK_gw.out 2).trans rfl
    have hf_gw_2 := blk_frozen BK_gw.out 2
    have hc_gw_3 : w83_.cell? ⟨gw, 3, none⟩ = some (.slice A2 m2.srcs.length c2) := (blk_cell BK_gw.out 3).trans rfl
    have hf_gw_3 := blk_frozen BK_gw.out 3
    have hc_gw_4 : w83_.cell? ⟨gw, 4, none⟩ = some (.int .i64 m2.keep) := (blk_cell BK_gw.out 4).trans rfl
    have hf_gw_4 := blk_frozen BK_gw.out 4
    have hc_gw_5 : w83_.cell? ⟨gw, 5, none⟩ = some (.int .i64 m2.last) := (blk_cell BK_gw.out 5).trans rfl
    have hf_gw_5 := blk_frozen BK_gw.out 5
    have hc_gw_6 : w83_.cell? ⟨gw, 6, none⟩ = some (.slice A_b (mk l).length c_b) := (blk_cell BK_gw.out 6).trans rfl
    have hf_gw_6 := blk_frozen BK_gw.out 6
    have hc_gw_7 : w83_.cell? ⟨gw, 7, none⟩ = some (.slice A3 m2.asks.length c3) := (blk_cell BK_gw.out 7).trans rfl
    have hf_gw_7 := blk_frozen BK_gw.out 7
    have nHB : Aside0 (Below w.heap.size w (w83_.setCell ⟨gr, 2, none⟩ (.int .i64 m2.left))) := ⟨below_set HB.out GE_gr.out⟩
    have nBK : Aside0 ((w83_.setCell ⟨gr, 2, none⟩ (.int .i64 m2.left)).heap[gr]? = some (.cells #[.int .u32 m2.g, .bool m2.ex, .int .i64 m2.left, .slice none 0 0] 28 (0, 0))) := ⟨blk_put (cs := #[.int .u32 m2.g, .bool m2.ex, .int .i64 0, .slice none 0 0]) BK_gr.out 2 (.int .i64 m2.left) rfl⟩
    have nB_gh : Aside0 ((w83_.setCell ⟨gr, 2, none⟩ (.int .i64 m2.left)).heap[gh]? = some (.cells #[.int .u32 x.f0, .bool x.f1, .int .i64 x.f2, .slice A_x x.f3.length c_x] 28 (0, 0))) := ⟨blk_far BK_gh.out NB_gh_gr.out _⟩
    have nB_gw : Aside0 ((w83_.setCell ⟨gr, 2, none⟩ (.int .i64 m2.left)).heap[gw]? = some (.cells #[.int .u32 m2.g, .bool m2.ex, .int .i64 m2.left, .slice A2 m2.srcs.length c2, .int .i64 m2.keep, .int .i64 m2.last, .slice A_b (mk l).length c_b, .slice A3 m2.asks.length c3] 73 (0, 0))) := ⟨blk_far BK_gw.out NB_gw_gr.out _⟩
    have nR_S := Aside0.mk (Kd.R_mono (Kd.R_far (p := ⟨gr, 2, none⟩) (Kd.R_types HR_S.out BK_gr.out (by decide)) (fun _ hk => hk.2) (.int .i64 m2.left)) (fun _ _ => trivial : ∀ k, _ → (fun _ => True) k))
    have nR_A := Aside0.mk (Kd.R_mono (Kd.R_far (p := ⟨gr, 2, none⟩) (Kd.R_types HR_A.out BK_gr.out (by decide)) (fun _ hk => hk.2) (.int .i64 m2.left)) (fun _ _ => trivial : ∀ k, _ → (fun _ => True) k))
    clear hc_gh_0 hf_gh_0 hc_gh_1 hf_gh_1 hc_gh_2 hf_gh_2 hc_gh_3 hf_gh_3
    clear BK_gh
    clear hc_gr_0 hf_gr_0 hc_gr_1 hf_gr_1 hc_gr_2 hf_gr_2 hc_gr_3 hf_gr_3
    clear BK_gr
    clear hc_gw_0 hf_gw_0 hc_gw_1 hf_gw_1 hc_gw_2 hf_gw_2 hc_gw_3 hf_gw_3 hc_gw_4 hf_gw_4 hc_gw_5 hf_gw_5 hc_gw_6 hf_gw_6 hc_gw_7 hf_gw_7
    clear BK_gw
    clear HR_S
    clear HR_A
    clear HB
    generalize (w83_.setCell ⟨gr, 2, none⟩ (.int .i64 m2.left)) = w84_ at nHB nBK nB_gh nB_gw nR_S nR_A ⊢
    have HB := nHB
    have BK_gr := nBK
    have BK_gh := nB_gh
    have BK_gw := nB_gw
    have HR_S := nR_S
    have HR_A := nR_A
    clear nHB nBK nB_gh nB_gw nR_S nR_A
    have hc_gh_0 : w84_.cell? ⟨gh, 0, none⟩ = some (.int .u32 x.f0) := (blk_cell BK_gh.out 0).trans rfl
    have hf_gh_0 := blk_frozen BK_gh.out 0
    have hc_gh_1 : w84_.cell? ⟨gh, 1, none⟩ = some (.bool x.f1) := (blk_cell BK_gh.out 1).trans rfl
    have hf_gh_1 := blk_frozen BK_gh.out 1
    have hc_gh_2 : w84_.cell? ⟨gh, 2, none⟩ = some (.int .i64 x.f2) := (blk_cell BK_gh.out 2).trans rfl
    have hf_gh_2 := blk_frozen BK_gh.out 2
    have hc_gh_3 : w84_.cell? ⟨gh, 3, none⟩ = some (.slice A_x x.f3.length c_x) := (blk_cell BK_gh.out 3).trans rfl
    have hf_gh_3 := blk_frozen BK_gh.out 3
    have hc_gr_0 : w84_.cell? ⟨gr, 0, none⟩ = some (.int .u32 m2.g) := (blk_cell BK_gr.out 0).trans rfl
    have hf_gr_0 := blk_frozen BK_gr.out 0
    have hc_gr_1 : w84_.cell? ⟨gr, 1, none⟩ = some (.bool m2.ex) := (blk_cell BK_gr.out 1).trans rfl
    have hf_gr_1 := blk_frozen BK_gr.out 1
    have hc_gr_2 : w84_.cell? ⟨gr, 2, none⟩ = some (.int .i64 m2.left) := (blk_cell BK_gr.out 2).trans rfl
    have hf_gr_2 := blk_frozen BK_gr.out 2
    have hc_gr_3 : w84_.cell? ⟨gr, 3, none⟩ = some (.slice none 0 0) := (blk_cell BK_gr.out 3).trans rfl
    have hf_gr_3 := blk_frozen BK_gr.out 3
    have hc_gw_0 : w84_.cell? ⟨gw, 0, none⟩ = some (.int .u32 m2.g) := (blk_cell BK_gw.out 0).trans rfl
    have hf_gw_0 := blk_frozen BK_gw.out 0
    have hc_gw_1 : w84_.cell? ⟨gw, 1, none⟩ = some (.bool m2.ex) := (blk_cell BK_gw.out 1).trans rfl
    have hf_gw_1 := blk_frozen BK_gw.out 1
    have hc_gw_2 : w84_.cell? ⟨gw, 2, none⟩ = some (.int .i64 m2.left) := (blk_cell BK_gw.out 2).trans rfl
    have hf_gw_2 := blk_frozen BK_gw.out 2
    have hc_gw_3 : w84_.cell? ⟨gw, 3, none⟩ = some (.slice A2 m2.srcs.length c2) := (blk_cell BK_gw.out 3).trans rfl
    have hf_gw_3 := blk_frozen BK_gw.out 3
    have hc_gw_4 : w84_.cell? ⟨gw, 4, none⟩ = some (.int .i64 m2.keep) := (blk_cell BK_gw.out 4).trans rfl
    have hf_gw_4 := blk_frozen BK_gw.out 4
    have hc_gw_5 : w84_.cell? ⟨gw, 5, none⟩ = some (.int .i64 m2.last) := (blk_cell BK_gw.out 5).trans rfl
    have hf_gw_5 := blk_frozen BK_gw.out 5
    have hc_gw_6 : w84_.cell? ⟨gw, 6, none⟩ = some (.slice A_b (mk l).length c_b) := (blk_cell BK_gw.out 6).trans rfl
    have hf_gw_6 := blk_frozen BK_gw.out 6
    have hc_gw_7 : w84_.cell? ⟨gw, 7, none⟩ = some (.slice A3 m2.asks.length c3) := (blk_cell BK_gw.out 7).trans rfl
    have hf_gw_7 := blk_frozen BK_gw.out 7
    have nHB : Aside0 (Below w.heap.size w (w84_.setCell ⟨gr, 3, none⟩ (.slice A2 m2.srcs.length c2))) := ⟨below_set HB.out GE_gr.out⟩
    have nBK : Aside0 ((w84_.setCell ⟨gr, 3, none⟩ (.slice A2 m2.srcs.length c2)).heap[gr]? = some (.cells #[.int .u32 m2.g, .bool m2.ex, .int .i64 m2.left, .slice A2 m2.srcs.length c2] 28 (0, 0))) := ⟨blk_put (cs := #[.int .u32 m2.g, .bool m2.ex, .int .i64 m2.left, .slice none 0 0]) BK_gr.out 3 (.slice A2 m2.srcs.length c2) rfl⟩
    have nB_gh : Aside0 ((w84_.setCell ⟨gr, 3, none⟩ (.slice A2 m2.srcs.length c2)).heap[gh]? = some (.cells #[.int .u32 x.f0, .bool x.f1, .int .i64 x.f2, .slice A_x x.f3.length c_x] 28 (0, 0))) := ⟨blk_far BK_gh.out NB_gh_gr.out _⟩
    have nB_gw : Aside0 ((w84_.setCell ⟨gr, 3, none⟩ (.slice A2 m2.srcs.length c2)).heap[gw]? = some (.cells #[.int .u32 m2.g, .bool m2.ex, .int .i64 m2.left, .slice A2 m2.srcs.length c2, .int .i64 m2.keep, .int .i64 m2.last, .slice A_b (mk l).length c_b, .slice A3 m2.asks.length c3] 73 (0, 0))) := ⟨blk_far BK_gw.out NB_gw_gr.out _⟩
    have nR_S := Aside0.mk (Kd.R_mono (Kd.R_far (p := ⟨gr, 3, none⟩) (Kd.R_types HR_S.out BK_gr.out (by decide)) (fun _ hk => hk.2) (.slice A2 m2.srcs.length c2)) (fun _ _ => trivial : ∀ k, _ → (fun _ => True) k))
    have nR_A := Aside0.mk (Kd.R_mono (Kd.R_far (p := ⟨gr, 3, none⟩) (Kd.R_types HR_A.out BK_gr.out (by decide)) (fun _ hk => hk.2) (.slice A2 m2.srcs.length c2)) (fun _ _ => trivial : ∀ k, _ → (fun _ => True) k))
    clear hc_gh_0 hf_gh_0 hc_gh_1 hf_gh_1 hc_gh_2 hf_gh_2 hc_gh_3 hf_gh_3
    clear BK_gh
    clear hc_gr_0 hf_gr_0 hc_gr_1 hf_gr_1 hc_gr_2 hf_gr_2 hc_gr_3 hf_gr_3
    clear BK_gr
    clear hc_gw_0 hf_gw_0 hc_gw_1 hf_gw_1 hc_gw_2 hf_gw_2 hc_gw_3 hf_gw_3 hc_gw_4 hf_gw_4 hc_gw_5 hf_gw_5 hc_gw_6 hf_gw_6 hc_gw_7 hf_gw_7
    clear BK_gw
    clear HR_S
    clear HR_A
    clear HB
    generalize (w84_.setCell ⟨gr, 3, none⟩ (.slice A2 m2.srcs.length c2)) = w85_ at nHB nBK nB_gh nB_gw nR_S nR_A ⊢
    have HB := nHB
    have BK_gr := nBK
    have BK_gh := nB_gh
    have BK_gw := nB_gw
    have HR_S := nR_S
    have HR_A := nR_A
    clear nHB nBK nB_gh nB_gw nR_S nR_A
    have hc_gh_0 : w85_.cell? ⟨gh, 0, none⟩ = some (.int .u32 x.f0) := (blk_cell BK_gh.out 0).trans rfl
    have hf_gh_0 := blk_frozen BK_gh.out 0
    have hc_gh_1 : w85_.cell? ⟨gh, 1, none⟩ = some (.bool x.f1) := (blk_cell BK_gh.out 1).trans rfl
    have hf_gh_1 := blk_frozen BK_gh.out 1
    have hc_gh_2 : w85_.cell? ⟨gh, 2, none⟩ = some (.int .i64 x.f2) := (blk_cell BK_gh.out 2).trans rfl
    have hf_gh_2 := blk_frozen BK_gh.out 2
    have hc_gh_3 : w85_.cell? ⟨gh, 3, none⟩ = some (.slice A_x x.f3.length c_x) := (blk_cell BK_gh.out 3).trans rfl
    have hf_gh_3 := blk_frozen BK_gh.out 3
    have hc_gr_0 : w85_.cell? ⟨gr, 0, none⟩ = some (.int .u32 m2.g) := (blk_cell BK_gr.out 0).trans rfl
    have hf_gr_0 := blk_frozen BK_gr.out 0
    have hc_gr_1 : w85_.cell? ⟨gr, 1, none⟩ = some (.bool m2.ex) := (blk_cell BK_gr.out 1).trans rfl
    have hf_gr_1 := blk_frozen BK_gr.out 1
    have hc_gr_2 : w85_.cell? ⟨gr, 2, none⟩ = some (.int .i64 m2.left) := (blk_cell BK_gr.out 2).trans rfl
    have hf_gr_2 := blk_frozen BK_gr.out 2
    have hc_gr_3 : w85_.cell? ⟨gr, 3, none⟩ = some (.slice A2 m2.srcs.length c2) := (blk_cell BK_gr.out 3).trans rfl
    have hf_gr_3 := blk_frozen BK_gr.out 3
    have hc_gw_0 : w85_.cell? ⟨gw, 0, none⟩ = some (.int .u32 m2.g) := (blk_cell BK_gw.out 0).trans rfl
    have hf_gw_0 := blk_frozen BK_gw.out 0
    have hc_gw_1 : w85_.cell? ⟨gw, 1, none⟩ = some (.bool m2.ex) := (blk_cell BK_gw.out 1).trans rfl
    have hf_gw_1 := blk_frozen BK_gw.out 1
    have hc_gw_2 : w85_.cell? ⟨gw, 2, none⟩ = some (.int .i64 m2.left) := (blk_cell BK_gw.out 2).trans rfl
    have hf_gw_2 := blk_frozen BK_gw.out 2
    have hc_gw_3 : w85_.cell? ⟨gw, 3, none⟩ = some (.slice A2 m2.srcs.length c2) := (blk_cell BK_gw.out 3).trans rfl
    have hf_gw_3 := blk_frozen BK_gw.out 3
    have hc_gw_4 : w85_.cell? ⟨gw, 4, none⟩ = some (.int .i64 m2.keep) := (blk_cell BK_gw.out 4).trans rfl
    have hf_gw_4 := blk_frozen BK_gw.out 4
    have hc_gw_5 : w85_.cell? ⟨gw, 5, none⟩ = some (.int .i64 m2.last) := (blk_cell BK_gw.out 5).trans rfl
    have hf_gw_5 := blk_frozen BK_gw.out 5
    have hc_gw_6 : w85_.cell? ⟨gw, 6, none⟩ = some (.slice A_b (mk l).length c_b) := (blk_cell BK_gw.out 6).trans rfl
    have hf_gw_6 := blk_frozen BK_gw.out 6
    have hc_gw_7 : w85_.cell? ⟨gw, 7, none⟩ = some (.slice A3 m2.asks.length c3) := (blk_cell BK_gw.out 7).trans rfl
    have hf_gw_7 := blk_frozen BK_gw.out 7
    refine hK.out _ _ ⟨hc_gw_0, hc_gw_1, hc_gw_2, hc_gw_3, hc_gw_4, hc_gw_5, hc_gw_6, hc_gw_7⟩ (fun hHeld => ?_)
    clear hK K
    refine pure_ (i := 9) (N := some 9) (v := ?_) (a' := ?_) #[true, true, true, true, true, true, true, true, true, true, false] rfl rfl (any_of HT_.out (by kernel_rfl)) (fun _ _ _ h => h) (Or.inl ⟨by rfl, ?_⟩) ?_ ?_
    rotate_left
    · intro w'
      go_simp
      with_reducible rfl
    rotate_left
    · simp only [Act.put, List.setIfInBounds_toArray, List.set_cons_zero, List.set_cons_succ, i64_w, i32_w]
      rfl
    refine pure_ (i := 10) (N := some 10) (v := ?_) (a' := ?_) #[true, true, true, true, true, true, true, true, true, true, true] rfl rfl (any_of HT_.out (by kernel_rfl)) (fun _ _ _ h => h) (Or.inl ⟨by rfl, ?_⟩) ?_ ?_
    rotate_left
    · intro w'
      go_simp
      with_reducible rfl
    rotate_left
    · simp only [Act.put, List.setIfInBounds_toArray, List.set_cons_zero, List.set_cons_succ, i64_w, i32_w]
      rfl
    refine done_ (done_of HT_.out (by kernel_rfl)) ?_
    go_wp2
    refine bodyPost_ret (results_ctt rfl _ _ gr 28 #[.int .u32 m2.g, .bool m2.ex, .int .i64 m2.left, .slice A2 m2.srcs.length c2] (0, 0) _ rfl BK_gr.out Try.underlying28 rfl (by kernel_rfl)) rfl ?_
    refine .inr ⟨X64.out, ⟨_, _, rfl, Kd.V_mono (Kd.R_V (e := 49) (base' := 0) (Kd.R_bound HR_S.out)) (fun k hk => .inr (Nat.le_trans HSB.out hk.2.1)), Kd.V_mono (Kd.R_V (e := 46) (base' := 0) (Kd.R_bound HR_A.out)) (fun k hk => .inr (Nat.le_trans HSB.out hk.2.1)), HB.out⟩⟩
  · have c48 : (64 : Int) < (m2.srcs.length : Int) := by omega
    have X64 := Aside0.mk h64
    clear h64
    go_wp2_with (first | ((with_reducible refine gate_dst (N := 41) rfl ?_); refine goesB_ (some 41) rfl rfl Xhfn.out Xhnm.out Xhbd.out #[] #[.pointer (some ⟨gw, 0, none⟩)] rfl rfl (by simp; rfl) ?_; with_reducible refine HDO.out.mono ?_; rintro e w8 ⟨rfl, ⟨vS2, vA2, hW2⟩, hFr⟩; refine ⟨_, rfl, ?_⟩; have hBb := hFr.below HW.out.ge XBS.out; obtain ⟨A2, c2, e2⟩ := Kd.R_slice hW2.S; subst e2; obtain ⟨A3, c3, e3⟩ := Kd.R_slice hW2.A; subst e3; obtain ⟨A4, c4, e4⟩ := Kd.R_slice hW2.B; have HW2 := Aside0.mk hW2; have HB := Aside0.mk (nB.out.trans (hBb.mono HSB.out)); have BK_gh := Aside0.mk ((hBb.block gh LT_gh.out).trans nH.out); have BK_gr := Aside0.mk ((hBb.block gr LT_gr.out).trans nR.out); have XBW := Aside0.mk (Nat.le_trans XBS.out hFr.size); clear hW2 hFr hBb nB nH nR HDO HW e4; have hw_3 : w8.cell? ⟨gw, 3, none⟩ = some (.slice A2 m2.srcs.length c2) := (blk_cell HW2.out.blk 3).trans rfl; have hf_3 := blk_frozen HW2.out.blk 3; have hc_gh_0 : w8.cell? ⟨gh, 0, none⟩ = some (.int .u32 x.f0) := (blk_cell BK_gh.out 0).trans rfl; have hc_gh_1 : w8.cell? ⟨gh, 1, none⟩ = some (.bool x.f1) := (blk_cell BK_gh.out 1).trans rfl; have hc_gh_2 : w8.cell? ⟨gh, 2, none⟩ = some (.int .i64 x.f2) := (blk_cell BK_gh.out 2).trans rfl; have hc_gh_3 : w8.cell? ⟨gh, 3, none⟩ = some (.slice A_x x.f3.length c_x) := (blk_cell BK_gh.out 3).trans rfl; have hc_gr_0 : w8.cell? ⟨gr, 0, none⟩ = some (.int .u32 0) := (blk_cell BK_gr.out 0).trans rfl; have hf_gr_0 := blk_frozen BK_gr.out 0; have hc_gr_1 : w8.cell? ⟨gr, 1, none⟩ = some (.bool false) := (blk_cell BK_gr.out 1).trans rfl; have hf_gr_1 := blk_frozen BK_gr.out 1; have hc_gr_2 : w8.cell? ⟨gr, 2, none⟩ = some (.int .i64 0) := (blk_cell BK_gr.out 2).trans rfl; have hf_gr_2 := blk_frozen BK_gr.out 2; have hc_gr_3 : w8.cell? ⟨gr, 3, none⟩ = some (.slice none 0 0) := (blk_cell BK_gr.out 3).trans rfl; have hf_gr_3 := blk_frozen BK_gr.out 3))
    refine bodyPost_ret (results_ctt rfl _ _ gr 28 #[.int .u32 x.f0, .bool x.f1, .int .i64 x.f2, .slice A_x x.f3.length c_x] (0, 0) _ rfl (blk_put (cs := #[.int .u32 x.f0, .bool x.f1, .int .i64 x.f2, .slice none 0 0]) (blk_put (cs := #[.int .u32 x.f0, .bool x.f1, .int .i64 0, .slice none 0 0]) (blk_put (cs := #[.int .u32 x.f0, .bool false, .int .i64 0, .slice none 0 0]) (blk_put (cs := #[.int .u32 0, .bool false, .int .i64 0, .slice none 0 0]) BK_gr.out 0 (.int .u32 x.f0) rfl) 1 (.bool x.f1) rfl) 2 (.int .i64 x.f2) rfl) 3 (.slice A_x x.f3.length c_x) rfl) Try.underlying28 rfl (by kernel_rfl)) rfl ?_
    exact .inl ⟨by have := X64.out; omega, ⟨_, _, rfl, Kd.V_mk HK_x.out (Kd.F_mono (Kd.F_below FX.out (below_set (below_set (below_set (below_set HB.out GE_gr.out) GE_gr.out) GE_gr.out) GE_gr.out)) (fun k hk => .inl hk)), Kd.V_nil _ _ _ _ _, (below_set (below_set (below_set (below_set HB.out GE_gr.out) GE_gr.out) GE_gr.out) GE_gr.out)⟩⟩
end Go.Proofs.Ytbllchfgjginoaa
