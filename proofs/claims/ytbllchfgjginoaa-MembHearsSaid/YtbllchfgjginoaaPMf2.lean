/-
  memb.Hear, walked.
-/
import Derived.Test.YtbllchfgjginoaaSoJ
import Derived.Test.YtbllchfgjginoaaMeM
import Derived.Test.YtbllchfgjginoaaMeK
namespace Go.Proofs.Ytbllchfgjginoaa
open Go.RowKit Go.Lib Go.Proofs.YtbllchfgjginoaaW.PrintWords Go.Proofs.YtbllchfgjginoaaW.PrintLast Go.Proofs.YtbllchfgjginoaaW.PrintMore Go.Proofs.Ytbllchfgjginoaa.PMe
set_option linter.unusedVariables false
set_option linter.unusedSimpArgs false
def he_T5 : Bool × List (List Nat × List Nat) := (true, [([], []), ([], []), ([], []), ([2], [2]), ([0, 1, 3], [0, 1, 3]), ([4], [4]), ([5, 3, 0, 1, 2, 3, 4, 5], [5])])
def he_B5 : List Nat := [0, 0, 0, 4, 15, 31, 63]
theorem he_t5 : rtab .any (opsOf Try.f12 5) = he_T5 := by kernel_rfl
theorem he_b5 : waitsOk he_T5.2 he_B5 = true := by kernel_rfl
def he_T10 : Bool × List (List Nat × List Nat) := (true, [([], []), ([0], [0]), ([1], [1]), ([2], [2]), ([], []), ([4], [4]), ([5], [5]), ([6], [6]), ([3, 0, 1, 2, 3], [3]), ([7, 8, 0, 1, 2, 3, 4, 5, 6, 7, 8], [7]), ([9, 0, 1, 2, 3, 4, 5, 6, 7, 8, 9], [])])
def he_B10 : List Nat := [0, 1, 3, 7, 0, 16, 48, 112, 15, 511, 1023]
theorem he_t10 : rtab .any (opsOf Try.f12 10) = he_T10 := by kernel_rfl
theorem he_b10 : waitsOk he_T10.2 he_B10 = true := by kernel_rfl
/-- What a record comes to: what is known, what is asked, and how it went. -/
def HearPost (P : Nat → Prop) (w : World) (x : S28) (asks : List S46) (err : Int) (e : Ending) (w' : World) : Prop :=
  ∃ v0 v1 : Value, e = .returned (.tuple #[.agg #[.int .u32 x.f0, .bool x.f1, .int .i64 x.f2, v0], v1, .int .i64 err]) ∧ Kd.V k49 49 w' 0 (fun k => P k ∨ w.heap.size ≤ k) v0 x.f3 ∧ Kd.V k46 46 w' 0 (fun k => P k ∨ w.heap.size ≤ k) v1 asks ∧ Below w.heap.size w w'
/-- What does it. -/
def Does (f : FuncId) (F : WM → WM) : Prop := ∀ (base gw : Nat) (m : WM) (vS vB vA : Value) (w : World), Wk base gw m vS vB vA w → WOk m → base ≤ w.heap.size → Calls Try.prog f #[.pointer (some ⟨gw, 0, none⟩)] w fun e w' => e = .returned (.tuple #[]) ∧ (∃ vS' vA', Wk base gw (F m) vS' vB vA' w') ∧ Fr base gw w w'
def hear0 (t : S23) (x : S28) (l : List Int) : WM := ⟨x.f0, x.f1, x.f2, x.f3, t.f0, t.f1, mk l, []⟩
set_option maxHeartbeats 8000000 in
set_option maxRecDepth 100000 in
theorem hear_none {t : S23} {x : S28} {kind : Int} {l : List Int} (hfd : Instr.findNow (.int .u8) (.int .u8 kind) es6.toList 0 = some none) (A_x : Option Addr) (c_x : Nat) (A_l : Option Addr) (c_l : Nat) (w : World) (hx : Kd.C k49 w A_x x.f3.length x.f3) (hcx : x.f3.length ≤ c_x) (hl : Kd.C (Kd.int .u32) w A_l l.length l) (hcl : l.length ≤ c_l) (P : Nat → Prop) (hP : ∀ k, P k → k < w.heap.size) (hxF : Kd.F k49 w P A_x x.f3.length x.f3) :
    Calls Try.prog 12 #[.agg #[.int .i64 t.f0, .int .i64 t.f1], .agg #[.int .u32 x.f0, .bool x.f1, .int .i64 x.f2, .slice A_x x.f3.length c_x], .int .u8 kind, .slice A_l l.length c_l] w (HearPost P w x [] 1) := by
  have hu23 := Try.underlying23
  have hu28 := Try.underlying28
  have hu73 := Try.underlying73
  have HB := Aside0.mk (Below.refl w.heap.size w)
  have HC_x := Aside0.mk hx
  have HK_x := Aside0.mk hcx
  have HC_l := Aside0.mk hl
  have HK_l := Aside0.mk hcl
  have XP := Aside0.mk hP
  have FX := Aside0.mk hxF
  clear hx hcx hl hcl hP hxF
  have Xhfd := Aside0.mk hfd
  clear hfd
  go_enter Try.func12, Try.ntmps12
  go_wp2_with (first | ((with_reducible refine gate_dst (N := 4) rfl ?_); (try (refine gate_guard (by rfl) ?_; dsimp only)); refine bxn (cs := #[.int .i64 t.f0, .int .i64 t.f1]) (t := 23) ?_; intro gt hg w1_ hbox hB; have HBo := Aside0.mk HB.out; replace HB := mvH HB hB; have BK_gt := Aside0.mk hbox; have GE_gt := Aside0.mk (show w.heap.size ≤ gt by rw [hg]; exact HBo.out.size); clear hg hbox hB; obtain ⟨hc_gt_0, hc_gt_1, hf_gt_0, hf_gt_1⟩ := cf2 BK_gt.out; clear HBo) | ((with_reducible refine gate_dst (N := 5) rfl ?_); (try (refine gate_guard (by rfl) ?_; dsimp only)); refine bxn (cs := #[.int .u32 x.f0, .bool x.f1, .int .i64 x.f2, .slice A_x x.f3.length c_x]) (t := 28) ?_; intro gh hg w2_ hbox hB; have HBo := Aside0.mk HB.out; have BK0_gt := Aside0.mk BK_gt.out; replace HB := mvH HB hB; clear hc_gt_0 hf_gt_0 hc_gt_1 hf_gt_1; replace BK_gt := mvB BK_gt hB; obtain ⟨hc_gt_0, hc_gt_1, hf_gt_0, hf_gt_1⟩ := cf2 BK_gt.out; have BK_gh := Aside0.mk hbox; have GE_gh := Aside0.mk (show w.heap.size ≤ gh by rw [hg]; exact HBo.out.size); have NB_gh_gt := Aside0.mk (show gh ≠ gt by rw [hg]; exact Nat.ne_of_gt (blk_lt (g := gt) (o := .cells #[.int .i64 t.f0, .int .i64 t.f1] 23 (0, 0)) BK0_gt.out)); have NB_gt_gh := Aside0.mk (Ne.symm NB_gh_gt.out); clear BK0_gt; clear hg hbox hB; obtain ⟨hc_gh_0, hc_gh_1, hc_gh_2, hc_gh_3, hf_gh_0, hf_gh_1, hf_gh_2, hf_gh_3⟩ := cf4 BK_gh.out; clear HBo) | ((with_reducible refine gate_dst (N := 8) rfl ?_); (try (refine gate_guard (by rfl) ?_; dsimp only)); refine bxn (cs := #[.int .u32 0, .bool false, .int .i64 0, .slice none 0 0]) (t := 28) ?_; intro gr hg w3_ hbox hB; have HBo := Aside0.mk HB.out; have BK0_gt := Aside0.mk BK_gt.out; have BK0_gh := Aside0.mk BK_gh.out; replace HB := mvH HB hB; clear hc_gt_0 hf_gt_0 hc_gt_1 hf_gt_1; replace BK_gt := mvB BK_gt hB; obtain ⟨hc_gt_0, hc_gt_1, hf_gt_0, hf_gt_1⟩ := cf2 BK_gt.out; clear hc_gh_0 hf_gh_0 hc_gh_1 hf_gh_1 hc_gh_2 hf_gh_2 hc_gh_3 hf_gh_3; replace BK_gh := mvB BK_gh hB; obtain ⟨hc_gh_0, hc_gh_1, hc_gh_2, hc_gh_3, hf_gh_0, hf_gh_1, hf_gh_2, hf_gh_3⟩ := cf4 BK_gh.out; have BK_gr := Aside0.mk hbox; have GE_gr := Aside0.mk (show w.heap.size ≤ gr by rw [hg]; exact HBo.out.size); have NB_gr_gt := Aside0.mk (show gr ≠ gt by rw [hg]; exact Nat.ne_of_gt (blk_lt (g := gt) (o := .cells #[.int .i64 t.f0, .int .i64 t.f1] 23 (0, 0)) BK0_gt.out)); have NB_gt_gr := Aside0.mk (Ne.symm NB_gr_gt.out); clear BK0_gt; have NB_gr_gh := Aside0.mk (show gr ≠ gh by rw [hg]; exact Nat.ne_of_gt (blk_lt (g := gh) (o := .cells #[.int .u32 x.f0, .bool x.f1, .int .i64 x.f2, .slice A_x x.f3.length c_x] 28 (0, 0)) BK0_gh.out)); have NB_gh_gr := Aside0.mk (Ne.symm NB_gr_gh.out); clear BK0_gh; clear hg hbox hB; obtain ⟨hc_gr_0, hc_gr_1, hc_gr_2, hc_gr_3, hf_gr_0, hf_gr_1, hf_gr_2, hf_gr_3⟩ := cf4 BK_gr.out; clear HBo) | ((with_reducible refine gate_dst (N := 15) rfl ?_); refine mk_ rfl 69 rfl ?_; intro b wm0 hbe hm hb; have HMB0 := Aside0.mk hb; have HBE := Aside0.mk (Nat.le_of_eq hbe.symm); have HMP0 := Aside0.mk hm; clear hbe hm hb) | (refine ins_ rfl (.tmp 15) (.func 23) 1 rfl b _ _ rfl _ rfl HMP0.out rfl ?_; intro wm1 hm hR; have HMP1 := Aside0.mk hm; have HMB1 := Aside0.mk (hR _ _ HMB0.out HBE.out); clear hm hR) | (refine ins_ rfl (.tmp 15) (.func 23) 5 rfl b _ _ rfl _ rfl HMP1.out rfl ?_; intro wm2 hm hR; have HMP2 := Aside0.mk hm; have HMB2 := Aside0.mk (hR _ _ HMB1.out HBE.out); clear hm hR) | (refine ins_ rfl (.tmp 15) (.func 24) 2 rfl b _ _ rfl _ rfl HMP2.out rfl ?_; intro wm3 hm hR; have HMP3 := Aside0.mk hm; have HMB3 := Aside0.mk (hR _ _ HMB2.out HBE.out); clear hm hR) | (refine ins_ rfl (.tmp 15) (.func 25) 6 rfl b _ _ rfl _ rfl HMP3.out rfl ?_; intro wm4 hm hR; have HMP4 := Aside0.mk hm; have HMB4 := Aside0.mk (hR _ _ HMB3.out HBE.out); clear hm hR) | (refine ins_ rfl (.tmp 15) (.func 26) 4 rfl b _ _ rfl _ rfl HMP4.out rfl ?_; intro wm5 hm hR; have HMP5 := Aside0.mk hm; have HMB5 := Aside0.mk (hR _ _ HMB4.out HBE.out); clear hm hR) | (refine ins_ rfl (.tmp 15) (.func 27) 3 rfl b _ _ rfl _ rfl HMP5.out rfl ?_; intro wm6 hm hR; have HMP6 := Aside0.mk hm; have HMB6 := Aside0.mk (hR _ _ HMB5.out HBE.out); clear hm hR; have hB := HMB6.out; have hlk := run_look (b := b) (kv := kind) (es := es6) HMP6.out Xhfd.out; replace HB := mvH HB hB; clear hc_gt_0 hf_gt_0 hc_gt_1 hf_gt_1; replace BK_gt := mvB BK_gt hB; obtain ⟨hc_gt_0, hc_gt_1, hf_gt_0, hf_gt_1⟩ := cf2 BK_gt.out; clear hc_gh_0 hf_gh_0 hc_gh_1 hf_gh_1 hc_gh_2 hf_gh_2 hc_gh_3 hf_gh_3; replace BK_gh := mvB BK_gh hB; obtain ⟨hc_gh_0, hc_gh_1, hc_gh_2, hc_gh_3, hf_gh_0, hf_gh_1, hf_gh_2, hf_gh_3⟩ := cf4 BK_gh.out; clear hc_gr_0 hf_gr_0 hc_gr_1 hf_gr_1 hc_gr_2 hf_gr_2 hc_gr_3 hf_gr_3; replace BK_gr := mvB BK_gr hB; obtain ⟨hc_gr_0, hc_gr_1, hc_gr_2, hc_gr_3, hf_gr_0, hf_gr_1, hf_gr_2, hf_gr_3⟩ := cf4 BK_gr.out; clear hB))
  refine bodyPost_ret (results_ctt rfl _ _ gr 28 #[.int .u32 x.f0, .bool x.f1, .int .i64 x.f2, .slice A_x x.f3.length c_x] (0, 0) _ rfl (blk_put (cs := #[.int .u32 x.f0, .bool x.f1, .int .i64 x.f2, .slice none 0 0]) (blk_put (cs := #[.int .u32 x.f0, .bool x.f1, .int .i64 0, .slice none 0 0]) (blk_put (cs := #[.int .u32 x.f0, .bool false, .int .i64 0, .slice none 0 0]) (blk_put (cs := #[.int .u32 0, .bool false, .int .i64 0, .slice none 0 0]) BK_gr.out 0 (.int .u32 x.f0) rfl) 1 (.bool x.f1) rfl) 2 (.int .i64 x.f2) rfl) 3 (.slice A_x x.f3.length c_x) rfl) Try.underlying28 rfl (by kernel_rfl)) rfl ?_
  exact ⟨_, _, rfl, Kd.V_mk HK_x.out (Kd.F_mono (Kd.F_below FX.out (below_set (below_set (below_set (below_set HB.out GE_gr.out) GE_gr.out) GE_gr.out) GE_gr.out)) (fun k hk => .inl hk)), Kd.V_nil _ _ _ _ _, (below_set (below_set (below_set (below_set HB.out GE_gr.out) GE_gr.out) GE_gr.out) GE_gr.out)⟩
set_option maxHeartbeats 8000000 in
set_option maxRecDepth 100000 in
theorem hear_is {t : S23} {x : S28} {kind : Int} {l : List Int} {f j : Nat} {fn : Func} {F : WM → WM} (hfn : Try.prog.funcs[f]? = some fn) (hnm : (fn.name == "runtime.NumGoroutine") = false) (hbd : fn.body.isSome = true) (hfd : Instr.findNow (.int .u8) (.int .u8 kind) es6.toList 0 = some (some (j, .func (.func f) #[] #[]))) (hdo : Does f F) (hs : SortH x.f3) (hn : x.f3.length ≤ 1000) (hm : l.length ≤ 1000) {m2 : WM} (h2 : F (hear0 t x l) = m2) (A_x : Option Addr) (c_x : Nat) (A_l : Option Addr) (c_l : Nat) (w : World) (hx : Kd.C k49 w A_x x.f3.length x.f3) (hcx : x.f3.length ≤ c_x) (hl : Kd.C (Kd.int .u32) w A_l l.length l) (hcl : l.length ≤ c_l) (P : Nat → Prop) (hP : ∀ k, P k → k < w.heap.size) (hxF : Kd.F k49 w P A_x x.f3.length x.f3) :
    Calls Try.prog 12 #[.agg #[.int .i64 t.f0, .int .i64 t.f1], .agg #[.int .u32 x.f0, .bool x.f1, .int .i64 x.f2, .slice A_x x.f3.length c_x], .int .u8 kind, .slice A_l l.length c_l] w (fun e w' => (64 < m2.srcs.length ∧ HearPost P w x [] 7 e w') ∨ (m2.srcs.length ≤ 64 ∧ HearPost P w ⟨m2.g, m2.ex, m2.left, m2.srcs⟩ m2.asks 0 e w')) := by
  have hu23 := Try.underlying23
  have hu28 := Try.underlying28
  have hu73 := Try.underlying73
  have HB := Aside0.mk (Below.refl w.heap.size w)
  have HC_x := Aside0.mk hx
  have HK_x := Aside0.mk hcx
  have HC_l := Aside0.mk hl
  have HK_l := Aside0.mk hcl
  have XP := Aside0.mk hP
  have FX := Aside0.mk hxF
  clear hx hcx hl hcl hP hxF
  have Xhfn := Aside0.mk hfn
  have Xhnm := Aside0.mk hnm
  have Xhbd := Aside0.mk hbd
  have Xhfd := Aside0.mk hfd
  have Xhdo := Aside0.mk hdo
  have Xhs := Aside0.mk hs
  have Xhn := Aside0.mk hn
  have Xhm := Aside0.mk hm
  have Xh2 := Aside0.mk h2
  clear hfn hnm hbd hfd hdo hs hn hm h2
  go_enter Try.func12, Try.ntmps12
  go_upto_region 5 with (first | ((with_reducible refine gate_dst (N := 4) rfl ?_); (try (refine gate_guard (by rfl) ?_; dsimp only)); refine bxn (cs := #[.int .i64 t.f0, .int .i64 t.f1]) (t := 23) ?_; intro gt hg w1_ hbox hB; have HBo := Aside0.mk HB.out; replace HB := mvH HB hB; have BK_gt := Aside0.mk hbox; have GE_gt := Aside0.mk (show w.heap.size ≤ gt by rw [hg]; exact HBo.out.size); clear hg hbox hB; obtain ⟨hc_gt_0, hc_gt_1, hf_gt_0, hf_gt_1⟩ := cf2 BK_gt.out; clear HBo) | ((with_reducible refine gate_dst (N := 5) rfl ?_); (try (refine gate_guard (by rfl) ?_; dsimp only)); refine bxn (cs := #[.int .u32 x.f0, .bool x.f1, .int .i64 x.f2, .slice A_x x.f3.length c_x]) (t := 28) ?_; intro gh hg w2_ hbox hB; have HBo := Aside0.mk HB.out; have BK0_gt := Aside0.mk BK_gt.out; replace HB := mvH HB hB; clear hc_gt_0 hf_gt_0 hc_gt_1 hf_gt_1; replace BK_gt := mvB BK_gt hB; obtain ⟨hc_gt_0, hc_gt_1, hf_gt_0, hf_gt_1⟩ := cf2 BK_gt.out; have BK_gh := Aside0.mk hbox; have GE_gh := Aside0.mk (show w.heap.size ≤ gh by rw [hg]; exact HBo.out.size); have NB_gh_gt := Aside0.mk (show gh ≠ gt by rw [hg]; exact Nat.ne_of_gt (blk_lt (g := gt) (o := .cells #[.int .i64 t.f0, .int .i64 t.f1] 23 (0, 0)) BK0_gt.out)); have NB_gt_gh := Aside0.mk (Ne.symm NB_gh_gt.out); clear BK0_gt; clear hg hbox hB; obtain ⟨hc_gh_0, hc_gh_1, hc_gh_2, hc_gh_3, hf_gh_0, hf_gh_1, hf_gh_2, hf_gh_3⟩ := cf4 BK_gh.out; clear HBo) | ((with_reducible refine gate_dst (N := 8) rfl ?_); (try (refine gate_guard (by rfl) ?_; dsimp only)); refine bxn (cs := #[.int .u32 0, .bool false, .int .i64 0, .slice none 0 0]) (t := 28) ?_; intro gr hg w3_ hbox hB; have HBo := Aside0.mk HB.out; have BK0_gt := Aside0.mk BK_gt.out; have BK0_gh := Aside0.mk BK_gh.out; replace HB := mvH HB hB; clear hc_gt_0 hf_gt_0 hc_gt_1 hf_gt_1; replace BK_gt := mvB BK_gt hB; obtain ⟨hc_gt_0, hc_gt_1, hf_gt_0, hf_gt_1⟩ := cf2 BK_gt.out; clear hc_gh_0 hf_gh_0 hc_gh_1 hf_gh_1 hc_gh_2 hf_gh_2 hc_gh_3 hf_gh_3; replace BK_gh := mvB BK_gh hB; obtain ⟨hc_gh_0, hc_gh_1, hc_gh_2, hc_gh_3, hf_gh_0, hf_gh_1, hf_gh_2, hf_gh_3⟩ := cf4 BK_gh.out; have BK_gr := Aside0.mk hbox; have GE_gr := Aside0.mk (show w.heap.size ≤ gr by rw [hg]; exact HBo.out.size); have NB_gr_gt := Aside0.mk (show gr ≠ gt by rw [hg]; exact Nat.ne_of_gt (blk_lt (g := gt) (o := .cells #[.int .i64 t.f0, .int .i64 t.f1] 23 (0, 0)) BK0_gt.out)); have NB_gt_gr := Aside0.mk (Ne.symm NB_gr_gt.out); clear BK0_gt; have NB_gr_gh := Aside0.mk (show gr ≠ gh by rw [hg]; exact Nat.ne_of_gt (blk_lt (g := gh) (o := .cells #[.int .u32 x.f0, .bool x.f1, .int .i64 x.f2, .slice A_x x.f3.length c_x] 28 (0, 0)) BK0_gh.out)); have NB_gh_gr := Aside0.mk (Ne.symm NB_gr_gh.out); clear BK0_gh; clear hg hbox hB; obtain ⟨hc_gr_0, hc_gr_1, hc_gr_2, hc_gr_3, hf_gr_0, hf_gr_1, hf_gr_2, hf_gr_3⟩ := cf4 BK_gr.out; clear HBo) | ((with_reducible refine gate_dst (N := 15) rfl ?_); refine mk_ rfl 69 rfl ?_; intro b wm0 hbe hm hb; have HMB0 := Aside0.mk hb; have HBE := Aside0.mk (Nat.le_of_eq hbe.symm); have HMP0 := Aside0.mk hm; clear hbe hm hb) | (refine ins_ rfl (.tmp 15) (.func 23) 1 rfl b _ _ rfl _ rfl HMP0.out rfl ?_; intro wm1 hm hR; have HMP1 := Aside0.mk hm; have HMB1 := Aside0.mk (hR _ _ HMB0.out HBE.out); clear hm hR) | (refine ins_ rfl (.tmp 15) (.func 23) 5 rfl b _ _ rfl _ rfl HMP1.out rfl ?_; intro wm2 hm hR; have HMP2 := Aside0.mk hm; have HMB2 := Aside0.mk (hR _ _ HMB1.out HBE.out); clear hm hR) | (refine ins_ rfl (.tmp 15) (.func 24) 2 rfl b _ _ rfl _ rfl HMP2.out rfl ?_; intro wm3 hm hR; have HMP3 := Aside0.mk hm; have HMB3 := Aside0.mk (hR _ _ HMB2.out HBE.out); clear hm hR) | (refine ins_ rfl (.tmp 15) (.func 25) 6 rfl b _ _ rfl _ rfl HMP3.out rfl ?_; intro wm4 hm hR; have HMP4 := Aside0.mk hm; have HMB4 := Aside0.mk (hR _ _ HMB3.out HBE.out); clear hm hR) | (refine ins_ rfl (.tmp 15) (.func 26) 4 rfl b _ _ rfl _ rfl HMP4.out rfl ?_; intro wm5 hm hR; have HMP5 := Aside0.mk hm; have HMB5 := Aside0.mk (hR _ _ HMB4.out HBE.out); clear hm hR) | (refine ins_ rfl (.tmp 15) (.func 27) 3 rfl b _ _ rfl _ rfl HMP5.out rfl ?_; intro wm6 hm hR; have HMP6 := Aside0.mk hm; have HMB6 := Aside0.mk (hR _ _ HMB5.out HBE.out); clear hm hR; have hB := HMB6.out; have hlk := run_look (b := b) (kv := kind) (es := es6) HMP6.out Xhfd.out; replace HB := mvH HB hB; clear hc_gt_0 hf_gt_0 hc_gt_1 hf_gt_1; replace BK_gt := mvB BK_gt hB; obtain ⟨hc_gt_0, hc_gt_1, hf_gt_0, hf_gt_1⟩ := cf2 BK_gt.out; clear hc_gh_0 hf_gh_0 hc_gh_1 hf_gh_1 hc_gh_2 hf_gh_2 hc_gh_3 hf_gh_3; replace BK_gh := mvB BK_gh hB; obtain ⟨hc_gh_0, hc_gh_1, hc_gh_2, hc_gh_3, hf_gh_0, hf_gh_1, hf_gh_2, hf_gh_3⟩ := cf4 BK_gh.out; clear hc_gr_0 hf_gr_0 hc_gr_1 hf_gr_1 hc_gr_2 hf_gr_2 hc_gr_3 hf_gr_3; replace BK_gr := mvB BK_gr hB; obtain ⟨hc_gr_0, hc_gr_1, hc_gr_2, hc_gr_3, hf_gr_0, hf_gr_1, hf_gr_2, hf_gr_3⟩ := cf4 BK_gr.out; clear hB))
  refine start_ (n := 7) (S := fun w' => w'.cell? ⟨gt, 0, none⟩ = some (.int .i64 t.f0) ∧ w'.cell? ⟨gt, 1, none⟩ = some (.int .i64 t.f1) ∧ w'.cell? ⟨gh, 0, none⟩ = some (.int .u32 x.f0) ∧ w'.cell? ⟨gh, 1, none⟩ = some (.bool x.f1) ∧ w'.cell? ⟨gh, 2, none⟩ = some (.int .i64 x.f2) ∧ w'.cell? ⟨gh, 3, none⟩ = some (.slice A_x x.f3.length c_x)) (ds := []) #[false, false, false, false, false, false, false] (by kernel_rfl) rfl rfl ⟨hc_gt_0, hc_gt_1, hc_gh_0, hc_gh_1, hc_gh_2, hc_gh_3⟩ (fun hHeld => ?_); refine with_tabW he_t5 he_b5 (fun HT_ HW_ => ?_)
  have hB : Below wm6.heap.size wm6 wm6.drew := below_drew (Below.refl _ _)
  generalize wm6.drew = w4_ at hB hHeld ⊢
  replace HB := mvH HB hB
  clear hc_gt_0 hf_gt_0 hc_gt_1 hf_gt_1
  replace BK_gt := mvB BK_gt hB
  obtain ⟨hc_gt_0, hc_gt_1, hf_gt_0, hf_gt_1⟩ := cf2 BK_gt.out
  clear hc_gh_0 hf_gh_0 hc_gh_1 hf_gh_1 hc_gh_2 hf_gh_2 hc_gh_3 hf_gh_3
  replace BK_gh := mvB BK_gh hB
  obtain ⟨hc_gh_0, hc_gh_1, hc_gh_2, hc_gh_3, hf_gh_0, hf_gh_1, hf_gh_2, hf_gh_3⟩ := cf4 BK_gh.out
  clear hc_gr_0 hf_gr_0 hc_gr_1 hf_gr_1 hc_gr_2 hf_gr_2 hc_gr_3 hf_gr_3
  replace BK_gr := mvB BK_gr hB
  obtain ⟨hc_gr_0, hc_gr_1, hc_gr_2, hc_gr_3, hf_gr_0, hf_gr_1, hf_gr_2, hf_gr_3⟩ := cf4 BK_gr.out
  clear hB
  refine tk 0 26 (bb 7 1) rfl rfl HT_ HW_ hHeld ?_
  refine tk 1 27 (bb 7 3) rfl rfl HT_ HW_ hHeld ?_
  refine pw 2 28 (bb 7 7) rfl rfl HT_ ?_
  refine on1 3 (some 29) (bb 7 15) rfl rfl HT_ (fun K hK => ?_)
  refine gfn Try.func28 #[.slice A_l l.length c_l] ?_
  with_reducible refine (set_Make.calls A_l c_l l (mk l) _ (Kd.C_below HC_l.out HB.out) HK_l.out (by unfold set_Make.f; rw [if_pos (by have := Xhm.out; omega)])).mono ?_
  rintro e w5_ ⟨v_b, rfl, hR, hB⟩
  obtain ⟨A_b, c_b, rfl⟩ := Kd.R_slice hR
  refine ⟨_, rfl, ?_⟩
  have LT_gt := Aside0.mk (blk_lt (g := gt) (o := .cells #[.int .i64 t.f0, .int .i64 t.f1] 23 (0, 0)) BK_gt.out)
  have LT_gh := Aside0.mk (blk_lt (g := gh) (o := .cells #[.int .u32 x.f0, .bool x.f1, .int .i64 x.f2, .slice A_x x.f3.length c_x] 28 (0, 0)) BK_gh.out)
  have LT_gr := Aside0.mk (blk_lt (g := gr) (o := .cells #[.int .u32 0, .bool false, .int .i64 0, .slice none 0 0] 28 (0, 0)) BK_gr.out)
  have HSB := Aside0.mk HB.out.size
  have HSN := Aside0.mk hB.size
  replace HB := mvH HB hB
  clear hc_gt_0 hf_gt_0 hc_gt_1 hf_gt_1
  replace BK_gt := mvB BK_gt hB
  obtain ⟨hc_gt_0, hc_gt_1, hf_gt_0, hf_gt_1⟩ := cf2 BK_gt.out
  clear hc_gh_0 hf_gh_0 hc_gh_1 hf_gh_1 hc_gh_2 hf_gh_2 hc_gh_3 hf_gh_3
  replace BK_gh := mvB BK_gh hB
  obtain ⟨hc_gh_0, hc_gh_1, hc_gh_2, hc_gh_3, hf_gh_0, hf_gh_1, hf_gh_2, hf_gh_3⟩ := cf4 BK_gh.out
  clear hc_gr_0 hf_gr_0 hc_gr_1 hf_gr_1 hc_gr_2 hf_gr_2 hc_gr_3 hf_gr_3
  replace BK_gr := mvB BK_gr hB
  obtain ⟨hc_gr_0, hc_gr_1, hc_gr_2, hc_gr_3, hf_gr_0, hf_gr_1, hf_gr_2, hf_gr_3⟩ := cf4 BK_gr.out
  have HRB := Aside0.mk (show RA w5_ w4_.heap.size _ _ from hR)
  clear hR hB
  refine hK.out _ _ ⟨hc_gt_0, hc_gt_1, hc_gh_0, hc_gh_1, hc_gh_2, hc_gh_3⟩ (fun hHeld => ?_)
  clear hK K
  refine nm ?_
  refine pw 4 30 (bb 7 31) rfl rfl HT_ ?_
  refine on1 5 (some 31) (bb 7 63) rfl rfl HT_ (fun K hK => ?_)
  refine box_step ?hg (N := 31) ?hd (cs := #[.int .u32 x.f0, .bool x.f1, .int .i64 x.f2, .slice A_x x.f3.length c_x, .int .i64 t.f0, .int .i64 t.f1, .slice A_b (mk l).length c_b, .slice none 0 0]) (t := 73) ?hr ?_; (case hd => rfl); (case hg => rfl); (case hr => first | (go_simp; done) | (go_simp; rfl))
  intro gw hg w6_ hbox hB
  have NB_gw_gt := Aside0.mk (show gw ≠ gt by rw [hg]; exact Nat.ne_of_gt (blk_lt (g := gt) (o := .cells #[.int .i64 t.f0, .int .i64 t.f1] 23 (0, 0)) BK_gt.out))
  have NB_gt_gw := Aside0.mk (Ne.symm NB_gw_gt.out)
  have NB_gw_gh := Aside0.mk (show gw ≠ gh by rw [hg]; exact Nat.ne_of_gt (blk_lt (g := gh) (o := .cells #[.int .u32 x.f0, .bool x.f1, .int .i64 x.f2, .slice A_x x.f3.length c_x] 28 (0, 0)) BK_gh.out))
  have NB_gh_gw := Aside0.mk (Ne.symm NB_gw_gh.out)
  have NB_gw_gr := Aside0.mk (show gw ≠ gr by rw [hg]; exact Nat.ne_of_gt (blk_lt (g := gr) (o := .cells #[.int .u32 0, .bool false, .int .i64 0, .slice none 0 0] 28 (0, 0)) BK_gr.out))
  have NB_gr_gw := Aside0.mk (Ne.symm NB_gw_gr.out)
  have GE_gw := Aside0.mk (show w.heap.size ≤ gw by rw [hg]; exact HB.out.size)
  replace HRB := mvR HRB hB
  have HGE := Aside0.mk (show w4_.heap.size ≤ gw by rw [hg]; exact Nat.le_trans HSN.out (Nat.le_refl _))
  replace HB := mvH HB hB
  clear hc_gt_0 hf_gt_0 hc_gt_1 hf_gt_1
  replace BK_gt := mvB BK_gt hB
  obtain ⟨hc_gt_0, hc_gt_1, hf_gt_0, hf_gt_1⟩ := cf2 BK_gt.out
  clear hc_gh_0 hf_gh_0 hc_gh_1 hf_gh_1 hc_gh_2 hf_gh_2 hc_gh_3 hf_gh_3
  replace BK_gh := mvB BK_gh hB
  obtain ⟨hc_gh_0, hc_gh_1, hc_gh_2, hc_gh_3, hf_gh_0, hf_gh_1, hf_gh_2, hf_gh_3⟩ := cf4 BK_gh.out
  clear hc_gr_0 hf_gr_0 hc_gr_1 hf_gr_1 hc_gr_2 hf_gr_2 hc_gr_3 hf_gr_3
  replace BK_gr := mvB BK_gr hB
  obtain ⟨hc_gr_0, hc_gr_1, hc_gr_2, hc_gr_3, hf_gr_0, hf_gr_1, hf_gr_2, hf_gr_3⟩ := cf4 BK_gr.out
  have BK_gw := Aside0.mk hbox
  clear hg hbox hB
  obtain ⟨hc_gw_0, hc_gw_1, hc_gw_2, hc_gw_3, hc_gw_4, hc_gw_5, hc_gw_6, hc_gw_7, hf_gw_0, hf_gw_1, hf_gw_2, hf_gw_3, hf_gw_4, hf_gw_5, hf_gw_6, hf_gw_7⟩ := cf8 BK_gw.out
  refine hK.out _ _ ⟨hc_gt_0, hc_gt_1, hc_gh_0, hc_gh_1, hc_gh_2, hc_gh_3⟩ (fun hHeld => ?_)
  clear hK K
  refine nm ?_
  refine pw 6 14 (bb 7 127) rfl rfl HT_ ?_
  refine done_ (done_of HT_.out (by kernel_rfl)) ?_
  have HSW := Aside0.mk (show w4_.heap.size ≤ w6_.heap.size from Nat.le_of_lt (Nat.lt_of_le_of_lt HGE.out (blk_lt (g := gw) (o := .cells #[.int .u32 x.f0, .bool x.f1, .int .i64 x.f2, .slice A_x x.f3.length c_x, .int .i64 t.f0, .int .i64 t.f1, .slice A_b (mk l).length c_b, .slice none 0 0] 73 (0, 0)) BK_gw.out)))
  go_upto_region 7 with (first | (go_at_call 29; (with_reducible refine (cloneH_w A_x c_x x.f3 _ (by have := Xhn.out; omega) (Kd.C_below HC_x.out HB.out)).mono ?_); rintro e w7_ ⟨v_s, rfl, hR, hB⟩; obtain ⟨A_s, c_s, rfl⟩ := Kd.R_slice hR; have hsz := HSW.out; replace HB := mvH HB hB; clear hc_gt_0 hf_gt_0 hc_gt_1 hf_gt_1; replace BK_gt := mvB BK_gt hB; obtain ⟨hc_gt_0, hc_gt_1, hf_gt_0, hf_gt_1⟩ := cf2 BK_gt.out; clear hc_gh_0 hf_gh_0 hc_gh_1 hf_gh_1 hc_gh_2 hf_gh_2 hc_gh_3 hf_gh_3; replace BK_gh := mvB BK_gh hB; obtain ⟨hc_gh_0, hc_gh_1, hc_gh_2, hc_gh_3, hf_gh_0, hf_gh_1, hf_gh_2, hf_gh_3⟩ := cf4 BK_gh.out; clear hc_gr_0 hf_gr_0 hc_gr_1 hf_gr_1 hc_gr_2 hf_gr_2 hc_gr_3 hf_gr_3; replace BK_gr := mvB BK_gr hB; obtain ⟨hc_gr_0, hc_gr_1, hc_gr_2, hc_gr_3, hf_gr_0, hf_gr_1, hf_gr_2, hf_gr_3⟩ := cf4 BK_gr.out; clear hc_gw_0 hf_gw_0 hc_gw_1 hf_gw_1 hc_gw_2 hf_gw_2 hc_gw_3 hf_gw_3 hc_gw_4 hf_gw_4 hc_gw_5 hf_gw_5 hc_gw_6 hf_gw_6 hc_gw_7 hf_gw_7; replace BK_gw := mvB BK_gw hB; obtain ⟨hc_gw_0, hc_gw_1, hc_gw_2, hc_gw_3, hc_gw_4, hc_gw_5, hc_gw_6, hc_gw_7, hf_gw_0, hf_gw_1, hf_gw_2, hf_gw_3, hf_gw_4, hf_gw_5, hf_gw_6, hf_gw_7⟩ := cf8 BK_gw.out; replace HRB := mvR HRB hB; have HRS := Aside0.mk (show Kd.R k49 49 w7_ w4_.heap.size (fun _ => True) _ _ from Kd.R_lower hR hsz); clear hR hB hsz))
  have HW := Aside0.mk (show Wk w4_.heap.size gw (hear0 t x l) (.slice A_s x.f3.length c_s) (.slice A_b (mk l).length c_b) (.slice none 0 0) (w7_.setCell ⟨gw, 3, none⟩ (.slice A_s x.f3.length c_s)) from ⟨blk_put (cs := #[.int .u32 x.f0, .bool x.f1, .int .i64 x.f2, .slice A_x x.f3.length c_x, .int .i64 t.f0, .int .i64 t.f1, .slice A_b (mk l).length c_b, .slice none 0 0]) BK_gw.out 3 _ rfl, HGE.out, Kd.R_set HRS.out BK_gw.out (by decide) 3 _, Kd.R_set HRB.out BK_gw.out (by decide) 3 _, Kd.R_nil _ _ _ _ _⟩)
  have nB := Aside0.mk (below_set (j := 3) (v := .slice A_s x.f3.length c_s) HB.out GE_gw.out)
  have nB := Aside0.mk (below_set (j := 3) (v := .slice A_s x.f3.length c_s) HB.out GE_gw.out)
  have nH : Aside0 ((w7_.setCell ⟨gw, 3, none⟩ (.slice A_s x.f3.length c_s)).heap[gh]? = some (.cells #[.int .u32 x.f0, .bool x.f1, .int .i64 x.f2, .slice A_x x.f3.length c_x] 28 (0, 0))) := ⟨blk_far BK_gh.out NB_gh_gw.out _⟩
  have nR : Aside0 ((w7_.setCell ⟨gw, 3, none⟩ (.slice A_s x.f3.length c_s)).heap[gr]? = some (.cells #[.int .u32 0, .bool false, .int .i64 0, .slice none 0 0] 28 (0, 0))) := ⟨blk_far BK_gr.out NB_gr_gw.out _⟩
  have XBS := Aside0.mk (show w4_.heap.size ≤ (w7_.setCell ⟨gw, 3, none⟩ (.slice A_s x.f3.length c_s)).heap.size from Nat.le_trans (Nat.le_of_lt (Nat.lt_of_le_of_lt HGE.out HW.out.lt)) (Nat.le_refl _))
  clear hc_gt_0 hf_gt_0 hc_gt_1 hf_gt_1
  clear hc_gh_0 hf_gh_0 hc_gh_1 hf_gh_1 hc_gh_2 hf_gh_2 hc_gh_3 hf_gh_3
  clear hc_gr_0 hf_gr_0 hc_gr_1 hf_gr_1 hc_gr_2 hf_gr_2 hc_gr_3 hf_gr_3
  clear hc_gw_0 hf_gw_0 hc_gw_1 hf_gw_1 hc_gw_2 hf_gw_2 hc_gw_3 hf_gw_3 hc_gw_4 hf_gw_4 hc_gw_5 hf_gw_5 hc_gw_6 hf_gw_6 hc_gw_7 hf_gw_7
  clear HB BK_gt BK_gh BK_gr BK_gw HRS HRB
  generalize (w7_.setCell ⟨gw, 3, none⟩ (.slice A_s x.f3.length c_s)) = w70_ at HW nB nH nR XBS ⊢
  have XOK : Aside0 (WOk (hear0 t x l)) := ⟨⟨Xhs.out, mk_rise l, by have := Xhn.out; show x.f3.length ≤ _; omega, by have h1 := mk_len l; have h2 := Xhm.out; show (mk l).length ≤ _; omega, by show (0 : Nat) ≤ 100; omega⟩⟩
  have HDO := Aside0.mk (Xhdo.out _ _ _ _ _ _ _ HW.out XOK.out XBS.out)
  rw [Xh2.out] at HDO
  by_cases h64 : m2.srcs.length ≤ 64
  · have c48 : ¬ (64 : Int) < (m2.srcs.length : Int) := by omega
    have X64 := Aside0.mk h64
    clear h64
    go_upto_region 10 with (first | ((with_reducible refine gate_dst (N := 41) rfl ?_); refine goesB_ (some 41) rfl rfl Xhfn.out Xhnm.out Xhbd.out #[] #[.pointer (some ⟨gw, 0, none⟩)] rfl rfl (by simp; rfl) ?_; with_reducible refine HDO.out.mono ?_; rintro e w8 ⟨rfl, ⟨vS2, vA2, hW2⟩, hFr⟩; refine ⟨_, rfl, ?_⟩; have hBb := hFr.below HW.out.ge XBS.out; obtain ⟨A2, c2, e2⟩ := Kd.R_slice hW2.S; subst e2; obtain ⟨A3, c3, e3⟩ := Kd.R_slice hW2.A; subst e3; obtain ⟨A4, c4, e4⟩ := Kd.R_slice hW2.B; have HW2 := Aside0.mk hW2; have HB := Aside0.mk (nB.out.trans (hBb.mono HSB.out)); have BK_gh := Aside0.mk ((hBb.block gh LT_gh.out).trans nH.out); have BK_gr := Aside0.mk ((hBb.block gr LT_gr.out).trans nR.out); have XBW := Aside0.mk (Nat.le_trans XBS.out hFr.size); clear hW2 hFr hBb nB nH nR HDO HW e4; have hw_3 : w8.cell? ⟨gw, 3, none⟩ = some (.slice A2 m2.srcs.length c2) := (blk_cell HW2.out.blk 3).trans rfl; have hf_3 := blk_frozen HW2.out.blk 3))
    clear hw_3 hf_3
    have BK_gw := Aside0.mk HW2.out.blk
    have HR_S := Aside0.mk HW2.out.S
    have HR_A := Aside0.mk HW2.out.A
    have NB_gr_gh := NB_gr_gh
    have NB_gr_gw := NB_gr_gw
    obtain ⟨hc_gh_0, hc_gh_1, hc_gh_2, hc_gh_3, hf_gh_0, hf_gh_1, hf_gh_2, hf_gh_3⟩ := cf4 BK_gh.out
    obtain ⟨hc_gr_0, hc_gr_1, hc_gr_2, hc_gr_3, hf_gr_0, hf_gr_1, hf_gr_2, hf_gr_3⟩ := cf4 BK_gr.out
    obtain ⟨hc_gw_0, hc_gw_1, hc_gw_2, hc_gw_3, hc_gw_4, hc_gw_5, hc_gw_6, hc_gw_7, hf_gw_0, hf_gw_1, hf_gw_2, hf_gw_3, hf_gw_4, hf_gw_5, hf_gw_6, hf_gw_7⟩ := cf8 BK_gw.out
    refine start_ (n := 11) (S := fun w' => w'.cell? ⟨gw, 0, none⟩ = some (.int .u32 m2.g) ∧ w'.cell? ⟨gw, 1, none⟩ = some (.bool m2.ex) ∧ w'.cell? ⟨gw, 2, none⟩ = some (.int .i64 m2.left) ∧ w'.cell? ⟨gw, 3, none⟩ = some (.slice A2 m2.srcs.length c2) ∧ w'.cell? ⟨gw, 4, none⟩ = some (.int .i64 m2.keep) ∧ w'.cell? ⟨gw, 5, none⟩ = some (.int .i64 m2.last) ∧ w'.cell? ⟨gw, 6, none⟩ = some (.slice A_b (mk l).length c_b) ∧ w'.cell? ⟨gw, 7, none⟩ = some (.slice A3 m2.asks.length c3)) (ds := []) #[false, false, false, false, false, false, false, false, false, false, false] (by kernel_rfl) rfl rfl ⟨hc_gw_0, hc_gw_1, hc_gw_2, hc_gw_3, hc_gw_4, hc_gw_5, hc_gw_6, hc_gw_7⟩ (fun hHeld => ?_); refine with_tabW he_t10 he_b10 (fun HT_ HW_ => ?_)
    have hB : Below w8.heap.size w8 w8.drew := below_drew (Below.refl _ _)
    generalize w8.drew = w81_ at hB hHeld ⊢
    replace HB := mvH HB hB
    clear hc_gh_0 hf_gh_0 hc_gh_1 hf_gh_1 hc_gh_2 hf_gh_2 hc_gh_3 hf_gh_3
    replace BK_gh := mvB BK_gh hB
    obtain ⟨hc_gh_0, hc_gh_1, hc_gh_2, hc_gh_3, hf_gh_0, hf_gh_1, hf_gh_2, hf_gh_3⟩ := cf4 BK_gh.out
    clear hc_gr_0 hf_gr_0 hc_gr_1 hf_gr_1 hc_gr_2 hf_gr_2 hc_gr_3 hf_gr_3
    replace BK_gr := mvB BK_gr hB
    obtain ⟨hc_gr_0, hc_gr_1, hc_gr_2, hc_gr_3, hf_gr_0, hf_gr_1, hf_gr_2, hf_gr_3⟩ := cf4 BK_gr.out
    clear hc_gw_0 hf_gw_0 hc_gw_1 hf_gw_1 hc_gw_2 hf_gw_2 hc_gw_3 hf_gw_3 hc_gw_4 hf_gw_4 hc_gw_5 hf_gw_5 hc_gw_6 hf_gw_6 hc_gw_7 hf_gw_7
    replace BK_gw := mvB BK_gw hB
    obtain ⟨hc_gw_0, hc_gw_1, hc_gw_2, hc_gw_3, hc_gw_4, hc_gw_5, hc_gw_6, hc_gw_7, hf_gw_0, hf_gw_1, hf_gw_2, hf_gw_3, hf_gw_4, hf_gw_5, hf_gw_6, hf_gw_7⟩ := cf8 BK_gw.out
    replace HR_S := mvR HR_S hB
    replace HR_A := mvR HR_A hB
    clear hB
    refine pw 0 50 (bb 11 1) rfl rfl HT_ ?_
    refine pw 1 51 (bb 11 3) rfl rfl HT_ ?_
    refine pw 2 52 (bb 11 7) rfl rfl HT_ ?_
    refine tk 3 53 (bb 11 15) rfl rfl HT_ HW_ hHeld ?_
    refine pw 4 54 (bb 11 31) rfl rfl HT_ ?_
    refine pw 5 55 (bb 11 63) rfl rfl HT_ ?_
    refine pw 6 56 (bb 11 127) rfl rfl HT_ ?_
    refine tk 7 57 (bb 11 255) rfl rfl HT_ HW_ hHeld ?_
    refine on1 8 none (bb 11 511) rfl rfl HT_ (fun K hK => ?_)
    refine skip_ (w1 := ?_) (by rfl) rfl ?_ ?_
    rotate_left
    · go_simp
      rfl
    have nHB : Aside0 (Below w.heap.size w (w81_.setCell ⟨gr, 0, none⟩ (.int .u32 m2.g))) := ⟨below_set HB.out GE_gr.out⟩
    have nBK : Aside0 ((w81_.setCell ⟨gr, 0, none⟩ (.int .u32 m2.g)).heap[gr]? = some (.cells #[.int .u32 m2.g, .bool false, .int .i64 0, .slice none 0 0] 28 (0, 0))) := ⟨blk_put (cs := #[.int .u32 0, .bool false, .int .i64 0, .slice none 0 0]) BK_gr.out 0 (.int .u32 m2.g) rfl⟩
    have nB_gh : Aside0 ((w81_.setCell ⟨gr, 0, none⟩ (.int .u32 m2.g)).heap[gh]? = some (.cells #[.int .u32 x.f0, .bool x.f1, .int .i64 x.f2, .slice A_x x.f3.length c_x] 28 (0, 0))) := ⟨blk_far BK_gh.out NB_gh_gr.out _⟩
    have nB_gw : Aside0 ((w81_.setCell ⟨gr, 0, none⟩ (.int .u32 m2.g)).heap[gw]? = some (.cells #[.int .u32 m2.g, .bool m2.ex, .int .i64 m2.left, .slice A2 m2.srcs.length c2, .int .i64 m2.keep, .int .i64 m2.last, .slice A_b (mk l).length c_b, .slice A3 m2.asks.length c3] 73 (0, 0))) := ⟨blk_far BK_gw.out NB_gw_gr.out _⟩
    have nR_S := Aside0.mk (Kd.R_mono (Kd.R_far (p := ⟨gr, 0, none⟩) (Kd.R_types HR_S.out BK_gr.out (by decide)) (fun _ hk => hk.2) (.int .u32 m2.g)) (fun _ _ => trivial : ∀ k, _ → (fun _ => True) k))
    have nR_A := Aside0.mk (Kd.R_mono (Kd.R_far (p := ⟨gr, 0, none⟩) (Kd.R_types HR_A.out BK_gr.out (by decide)) (fun _ hk => hk.2) (.int .u32 m2.g)) (fun _ _ => trivial : ∀ k, _ → (fun _ => True) k))
    clear hc_gh_0 hf_gh_0 hc_gh_1 hf_gh_1 hc_gh_2 hf_gh_2 hc_gh_3 hf_gh_3
    clear BK_gh
    clear hc_gr_0 hf_gr_0 hc_gr_1 hf_gr_1 hc_gr_2 hf_gr_2 hc_gr_3 hf_gr_3
    clear BK_gr
    clear hc_gw_0 hf_gw_0 hc_gw_1 hf_gw_1 hc_gw_2 hf_gw_2 hc_gw_3 hf_gw_3 hc_gw_4 hf_gw_4 hc_gw_5 hf_gw_5 hc_gw_6 hf_gw_6 hc_gw_7 hf_gw_7
    clear BK_gw
    clear HR_S
    clear HR_A
    clear HB
    generalize (w81_.setCell ⟨gr, 0, none⟩ (.int .u32 m2.g)) = w82_ at nHB nBK nB_gh nB_gw nR_S nR_A ⊢
    have HB := nHB
    have BK_gr := nBK
    have BK_gh := nB_gh
    have BK_gw := nB_gw
    have HR_S := nR_S
    have HR_A := nR_A
    clear nHB nBK nB_gh nB_gw nR_S nR_A
    obtain ⟨hc_gh_0, hc_gh_1, hc_gh_2, hc_gh_3, hf_gh_0, hf_gh_1, hf_gh_2, hf_gh_3⟩ := cf4 BK_gh.out
    obtain ⟨hc_gr_0, hc_gr_1, hc_gr_2, hc_gr_3, hf_gr_0, hf_gr_1, hf_gr_2, hf_gr_3⟩ := cf4 BK_gr.out
    obtain ⟨hc_gw_0, hc_gw_1, hc_gw_2, hc_gw_3, hc_gw_4, hc_gw_5, hc_gw_6, hc_gw_7, hf_gw_0, hf_gw_1, hf_gw_2, hf_gw_3, hf_gw_4, hf_gw_5, hf_gw_6, hf_gw_7⟩ := cf8 BK_gw.out
    have nHB : Aside0 (Below w.heap.size w (w82_.setCell ⟨gr, 1, none⟩ (.bool m2.ex))) := ⟨below_set HB.out GE_gr.out⟩
    have nBK : Aside0 ((w82_.setCell ⟨gr, 1, none⟩ (.bool m2.ex)).heap[gr]? = some (.cells #[.int .u32 m2.g, .bool m2.ex, .int .i64 0, .slice none 0 0] 28 (0, 0))) := ⟨blk_put (cs := #[.int .u32 m2.g, .bool false, .int .i64 0, .slice none 0 0]) BK_gr.out 1 (.bool m2.ex) rfl⟩
    have nB_gh : Aside0 ((w82_.setCell ⟨gr, 1, none⟩ (.bool m2.ex)).heap[gh]? = some (.cells #[.int .u32 x.f0, .bool x.f1, .int .i64 x.f2, .slice A_x x.f3.length c_x] 28 (0, 0))) := ⟨blk_far BK_gh.out NB_gh_gr.out _⟩
    have nB_gw : Aside0 ((w82_.setCell ⟨gr, 1, none⟩ (.bool m2.ex)).heap[gw]? = some (.cells #[.int .u32 m2.g, .bool m2.ex, .int .i64 m2.left, .slice A2 m2.srcs.length c2, .int .i64 m2.keep, .int .i64 m2.last, .slice A_b (mk l).length c_b, .slice A3 m2.asks.length c3] 73 (0, 0))) := ⟨blk_far BK_gw.out NB_gw_gr.out _⟩
    have nR_S := Aside0.mk (Kd.R_mono (Kd.R_far (p := ⟨gr, 1, none⟩) (Kd.R_types HR_S.out BK_gr.out (by decide)) (fun _ hk => hk.2) (.bool m2.ex)) (fun _ _ => trivial : ∀ k, _ → (fun _ => True) k))
    have nR_A := Aside0.mk (Kd.R_mono (Kd.R_far (p := ⟨gr, 1, none⟩) (Kd.R_types HR_A.out BK_gr.out (by decide)) (fun _ hk => hk.2) (.bool m2.ex)) (fun _ _ => trivial : ∀ k, _ → (fun _ => True) k))
    clear hc_gh_0 hf_gh_0 hc_gh_1 hf_gh_1 hc_gh_2 hf_gh_2 hc_gh_3 hf_gh_3
    clear BK_gh
    clear hc_gr_0 hf_gr_0 hc_gr_1 hf_gr_1 hc_gr_2 hf_gr_2 hc_gr_3 hf_gr_3
    clear BK_gr
    clear hc_gw_0 hf_gw_0 hc_gw_1 hf_gw_1 hc_gw_2 hf_gw_2 hc_gw_3 hf_gw_3 hc_gw_4 hf_gw_4 hc_gw_5 hf_gw_5 hc_gw_6 hf_gw_6 hc_gw_7 hf_gw_7
    clear BK_gw
    clear HR_S
    clear HR_A
    clear HB
    generalize (w82_.setCell ⟨gr, 1, none⟩ (.bool m2.ex)) = w83_ at nHB nBK nB_gh nB_gw nR_S nR_A ⊢
    have HB := nHB
    have BK_gr := nBK
    have BK_gh := nB_gh
    have BK_gw := nB_gw
    have HR_S := nR_S
    have HR_A := nR_A
    clear nHB nBK nB_gh nB_gw nR_S nR_A
    obtain ⟨hc_gh_0, hc_gh_1, hc_gh_2, hc_gh_3, hf_gh_0, hf_gh_1, hf_gh_2, hf_gh_3⟩ := cf4 BK_gh.out
    obtain ⟨hc_gr_0, hc_gr_1, hc_gr_2, hc_gr_3, hf_gr_0, hf_gr_1, hf_gr_2, hf_gr_3⟩ := cf4 BK_gr.out
    obtain ⟨hc_gw_0, hc_gw_1, hc_gw_2, hc_gw_3, hc_gw_4, hc_gw_5, hc_gw_6, hc_gw_7, hf_gw_0, hf_gw_1, hf_gw_2, hf_gw_3, hf_gw_4, hf_gw_5, hf_gw_6, hf_gw_7⟩ := cf8 BK_gw.out
    have nHB : Aside0 (Below w.heap.size w (w83_.setCell ⟨gr, 2, none⟩ (.int .i64 m2.left))) := ⟨below_set HB.out GE_gr.out⟩
    have nBK : Aside0 ((w83_.setCell ⟨gr, 2, none⟩ (.int .i64 m2.left)).heap[gr]? = some (.cells #[.int .u32 m2.g, .bool m2.ex, .int .i64 m2.left, .slice none 0 0] 28 (0, 0))) := ⟨blk_put (cs := #[.int .u32 m2.g, .bool m2.ex, .int .i64 0, .slice none 0 0]) BK_gr.out 2 (.int .i64 m2.left) rfl⟩
    have nB_gh : Aside0 ((w83_.setCell ⟨gr, 2, none⟩ (.int .i64 m2.left)).heap[gh]? = some (.cells #[.int .u32 x.f0, .bool x.f1, .int .i64 x.f2, .slice A_x x.f3.length c_x] 28 (0, 0))) := ⟨blk_far BK_gh.out NB_gh_gr.out _⟩
    have nB_gw : Aside0 ((w83_.setCell ⟨gr, 2, none⟩ (.int .i64 m2.left)).heap[gw]? = some (.cells #[.int .u32 m2.g, .bool m2.ex, .int .i64 m2.left, .slice A2 m2.srcs.length c2, .int .i64 m2.keep, .int .i64 m2.last, .slice A_b (mk l).length c_b, .slice A3 m2.asks.length c3] 73 (0, 0))) := ⟨blk_far BK_gw.out NB_gw_gr.out _⟩
    have nR_S := Aside0.mk (Kd.R_mono (Kd.R_far (p := ⟨gr, 2, none⟩) (Kd.R_types HR_S.out BK_gr.out (by decide)) (fun _ hk => hk.2) (.int .i64 m2.left)) (fun _ _ => trivial : ∀ k, _ → (fun _ => True) k))
    have nR_A := Aside0.mk (Kd.R_mono (Kd.R_far (p := ⟨gr, 2, none⟩) (Kd.R_types HR_A.out BK_gr.out (by decide)) (fun _ hk => hk.2) (.int .i64 m2.left)) (fun _ _ => trivial : ∀ k, _ → (fun _ => True) k))
    clear hc_gh_0 hf_gh_0 hc_gh_1 hf_gh_1 hc_gh_2 hf_gh_2 hc_gh_3 hf_gh_3
    clear BK_gh
    clear hc_gr_0 hf_gr_0 hc_gr_1 hf_gr_1 hc_gr_2 hf_gr_2 hc_gr_3 hf_gr_3
    clear BK_gr
    clear hc_gw_0 hf_gw_0 hc_gw_1 hf_gw_1 hc_gw_2 hf_gw_2 hc_gw_3 hf_gw_3 hc_gw_4 hf_gw_4 hc_gw_5 hf_gw_5 hc_gw_6 hf_gw_6 hc_gw_7 hf_gw_7
    clear BK_gw
    clear HR_S
    clear HR_A
    clear HB
    generalize (w83_.setCell ⟨gr, 2, none⟩ (.int .i64 m2.left)) = w84_ at nHB nBK nB_gh nB_gw nR_S nR_A ⊢
    have HB := nHB
    have BK_gr := nBK
    have BK_gh := nB_gh
    have BK_gw := nB_gw
    have HR_S := nR_S
    have HR_A := nR_A
    clear nHB nBK nB_gh nB_gw nR_S nR_A
    obtain ⟨hc_gh_0, hc_gh_1, hc_gh_2, hc_gh_3, hf_gh_0, hf_gh_1, hf_gh_2, hf_gh_3⟩ := cf4 BK_gh.out
    obtain ⟨hc_gr_0, hc_gr_1, hc_gr_2, hc_gr_3, hf_gr_0, hf_gr_1, hf_gr_2, hf_gr_3⟩ := cf4 BK_gr.out
    obtain ⟨hc_gw_0, hc_gw_1, hc_gw_2, hc_gw_3, hc_gw_4, hc_gw_5, hc_gw_6, hc_gw_7, hf_gw_0, hf_gw_1, hf_gw_2, hf_gw_3, hf_gw_4, hf_gw_5, hf_gw_6, hf_gw_7⟩ := cf8 BK_gw.out
    have nHB : Aside0 (Below w.heap.size w (w84_.setCell ⟨gr, 3, none⟩ (.slice A2 m2.srcs.length c2))) := ⟨below_set HB.out GE_gr.out⟩
    have nBK : Aside0 ((w84_.setCell ⟨gr, 3, none⟩ (.slice A2 m2.srcs.length c2)).heap[gr]? = some (.cells #[.int .u32 m2.g, .bool m2.ex, .int .i64 m2.left, .slice A2 m2.srcs.length c2] 28 (0, 0))) := ⟨blk_put (cs := #[.int .u32 m2.g, .bool m2.ex, .int .i64 m2.left, .slice none 0 0]) BK_gr.out 3 (.slice A2 m2.srcs.length c2) rfl⟩
    have nB_gh : Aside0 ((w84_.setCell ⟨gr, 3, none⟩ (.slice A2 m2.srcs.length c2)).heap[gh]? = some (.cells #[.int .u32 x.f0, .bool x.f1, .int .i64 x.f2, .slice A_x x.f3.length c_x] 28 (0, 0))) := ⟨blk_far BK_gh.out NB_gh_gr.out _⟩
    have nB_gw : Aside0 ((w84_.setCell ⟨gr, 3, none⟩ (.slice A2 m2.srcs.length c2)).heap[gw]? = some (.cells #[.int .u32 m2.g, .bool m2.ex, .int .i64 m2.left, .slice A2 m2.srcs.length c2, .int .i64 m2.keep, .int .i64 m2.last, .slice A_b (mk l).length c_b, .slice A3 m2.asks.length c3] 73 (0, 0))) := ⟨blk_far BK_gw.out NB_gw_gr.out _⟩
    have nR_S := Aside0.mk (Kd.R_mono (Kd.R_far (p := ⟨gr, 3, none⟩) (Kd.R_types HR_S.out BK_gr.out (by decide)) (fun _ hk => hk.2) (.slice A2 m2.srcs.length c2)) (fun _ _ => trivial : ∀ k, _ → (fun _ => True) k))
    have nR_A := Aside0.mk (Kd.R_mono (Kd.R_far (p := ⟨gr, 3, none⟩) (Kd.R_types HR_A.out BK_gr.out (by decide)) (fun _ hk => hk.2) (.slice A2 m2.srcs.length c2)) (fun _ _ => trivial : ∀ k, _ → (fun _ => True) k))
    clear hc_gh_0 hf_gh_0 hc_gh_1 hf_gh_1 hc_gh_2 hf_gh_2 hc_gh_3 hf_gh_3
    clear BK_gh
    clear hc_gr_0 hf_gr_0 hc_gr_1 hf_gr_1 hc_gr_2 hf_gr_2 hc_gr_3 hf_gr_3
    clear BK_gr
    clear hc_gw_0 hf_gw_0 hc_gw_1 hf_gw_1 hc_gw_2 hf_gw_2 hc_gw_3 hf_gw_3 hc_gw_4 hf_gw_4 hc_gw_5 hf_gw_5 hc_gw_6 hf_gw_6 hc_gw_7 hf_gw_7
    clear BK_gw
    clear HR_S
    clear HR_A
    clear HB
    generalize (w84_.setCell ⟨gr, 3, none⟩ (.slice A2 m2.srcs.length c2)) = w85_ at nHB nBK nB_gh nB_gw nR_S nR_A ⊢
    have HB := nHB
    have BK_gr := nBK
    have BK_gh := nB_gh
    have BK_gw := nB_gw
    have HR_S := nR_S
    have HR_A := nR_A
    clear nHB nBK nB_gh nB_gw nR_S nR_A
    obtain ⟨hc_gh_0, hc_gh_1, hc_gh_2, hc_gh_3, hf_gh_0, hf_gh_1, hf_gh_2, hf_gh_3⟩ := cf4 BK_gh.out
    obtain ⟨hc_gr_0, hc_gr_1, hc_gr_2, hc_gr_3, hf_gr_0, hf_gr_1, hf_gr_2, hf_gr_3⟩ := cf4 BK_gr.out
    obtain ⟨hc_gw_0, hc_gw_1, hc_gw_2, hc_gw_3, hc_gw_4, hc_gw_5, hc_gw_6, hc_gw_7, hf_gw_0, hf_gw_1, hf_gw_2, hf_gw_3, hf_gw_4, hf_gw_5, hf_gw_6, hf_gw_7⟩ := cf8 BK_gw.out
    refine hK.out _ _ ⟨hc_gw_0, hc_gw_1, hc_gw_2, hc_gw_3, hc_gw_4, hc_gw_5, hc_gw_6, hc_gw_7⟩ (fun hHeld => ?_)
    clear hK K
    refine pw 9 9 (bb 11 1023) rfl rfl HT_ ?_
    refine pw 10 10 (bb 11 2047) rfl rfl HT_ ?_
    refine done_ (done_of HT_.out (by kernel_rfl)) ?_
    go_wp2
    refine bodyPost_ret (results_ctt rfl _ _ gr 28 #[.int .u32 m2.g, .bool m2.ex, .int .i64 m2.left, .slice A2 m2.srcs.length c2] (0, 0) _ rfl BK_gr.out Try.underlying28 rfl (by kernel_rfl)) rfl ?_
    refine .inr ⟨X64.out, ⟨_, _, rfl, Kd.V_mono (Kd.R_V (e := 49) (base' := 0) (Kd.R_bound HR_S.out)) (fun k hk => .inr (Nat.le_trans HSB.out hk.2.1)), Kd.V_mono (Kd.R_V (e := 46) (base' := 0) (Kd.R_bound HR_A.out)) (fun k hk => .inr (Nat.le_trans HSB.out hk.2.1)), HB.out⟩⟩
  · have c48 : (64 : Int) < (m2.srcs.length : Int) := by omega
    have X64 := Aside0.mk h64
    clear h64
    go_wp2_with (first | ((with_reducible refine gate_dst (N := 41) rfl ?_); refine goesB_ (some 41) rfl rfl Xhfn.out Xhnm.out Xhbd.out #[] #[.pointer (some ⟨gw, 0, none⟩)] rfl rfl (by simp; rfl) ?_; with_reducible refine HDO.out.mono ?_; rintro e w8 ⟨rfl, ⟨vS2, vA2, hW2⟩, hFr⟩; refine ⟨_, rfl, ?_⟩; have hBb := hFr.below HW.out.ge XBS.out; obtain ⟨A2, c2, e2⟩ := Kd.R_slice hW2.S; subst e2; obtain ⟨A3, c3, e3⟩ := Kd.R_slice hW2.A; subst e3; obtain ⟨A4, c4, e4⟩ := Kd.R_slice hW2.B; have HW2 := Aside0.mk hW2; have HB := Aside0.mk (nB.out.trans (hBb.mono HSB.out)); have BK_gh := Aside0.mk ((hBb.block gh LT_gh.out).trans nH.out); have BK_gr := Aside0.mk ((hBb.block gr LT_gr.out).trans nR.out); have XBW := Aside0.mk (Nat.le_trans XBS.out hFr.size); clear hW2 hFr hBb nB nH nR HDO HW e4; have hw_3 : w8.cell? ⟨gw, 3, none⟩ = some (.slice A2 m2.srcs.length c2) := (blk_cell HW2.out.blk 3).trans rfl; have hf_3 := blk_frozen HW2.out.blk 3; obtain ⟨hc_gh_0, hc_gh_1, hc_gh_2, hc_gh_3, -, -, -, -⟩ := cf4 BK_gh.out; obtain ⟨hc_gr_0, hc_gr_1, hc_gr_2, hc_gr_3, hf_gr_0, hf_gr_1, hf_gr_2, -⟩ := cf4 BK_gr.out; have hf_gr_3 := blk_frozen BK_gr.out 3))
    refine bodyPost_ret (results_ctt rfl _ _ gr 28 #[.int .u32 x.f0, .bool x.f1, .int .i64 x.f2, .slice A_x x.f3.length c_x] (0, 0) _ rfl (blk_put (cs := #[.int .u32 x.f0, .bool x.f1, .int .i64 x.f2, .slice none 0 0]) (blk_put (cs := #[.int .u32 x.f0, .bool x.f1, .int .i64 0, .slice none 0 0]) (blk_put (cs := #[.int .u32 x.f0, .bool false, .int .i64 0, .slice none 0 0]) (blk_put (cs := #[.int .u32 0, .bool false, .int .i64 0, .slice none 0 0]) BK_gr.out 0 (.int .u32 x.f0) rfl) 1 (.bool x.f1) rfl) 2 (.int .i64 x.f2) rfl) 3 (.slice A_x x.f3.length c_x) rfl) Try.underlying28 rfl (by kernel_rfl)) rfl ?_
    exact .inl ⟨by have := X64.out; omega, ⟨_, _, rfl, Kd.V_mk HK_x.out (Kd.F_mono (Kd.F_below FX.out (below_set (below_set (below_set (below_set HB.out GE_gr.out) GE_gr.out) GE_gr.out) GE_gr.out)) (fun k hk => .inl hk)), Kd.V_nil _ _ _ _ _, (below_set (below_set (below_set (below_set HB.out GE_gr.out) GE_gr.out) GE_gr.out) GE_gr.out)⟩⟩
end Go.Proofs.Ytbllchfgjginoaa
/-
  memb.Hear, told: what a record of each type does.
-/
namespace Go.Proofs.Ytbllchfgjginoaa
open Go.RowKit Go.Lib Go.Proofs.YtbllchfgjginoaaW.PrintWords Go.Proofs.YtbllchfgjginoaaW.PrintLast Go.Proofs.YtbllchfgjginoaaW.PrintMore Go.Proofs.Ytbllchfgjginoaa.PMe
set_option linter.unusedVariables false
set_option linter.unusedSimpArgs false
theorem find_no {k : Int} (h1 : k ≠ 1) (h5 : k ≠ 5) (h2 : k ≠ 2) (h6 : k ≠ 6) (h4 : k ≠ 4) (h3 : k ≠ 3) : Instr.findNow (.int .u8) (.int .u8 k) es6.toList 0 = some none := by
  have e : ∀ c : Int, k ≠ c → Instr.sameNow (.int .u8) (.int .u8 k) (.int .u8 c) = some false := by
    intro c hc
    simp [Instr.sameNow, hc]
  simp [es6, Instr.findNow, e _ h1, e _ h2, e _ h3, e _ h4, e _ h5, e _ h6]
def kindM (kind : Int) (m : WM) : WM := if kind = 1 ∨ kind = 5 then allowM m else if kind = 2 then isExM m else if kind = 6 then blockM m else if kind = 4 then toExM m else toInM m
def hearD (t : S23) (x : S28) (kind : Int) (l : List Int) : WM := kindM kind (hear0 t x l)
/-- What a record comes to. -/
def hearR (t : S23) (x : S28) (kind : Int) (l : List Int) : S28 × List S46 × Int :=
  if kind = 1 ∨ kind = 5 ∨ kind = 2 ∨ kind = 6 ∨ kind = 4 ∨ kind = 3 then
    if 64 < (hearD t x kind l).srcs.length then (x, [], 7) else (⟨(hearD t x kind l).g, (hearD t x kind l).ex, (hearD t x kind l).left, (hearD t x kind l).srcs⟩, (hearD t x kind l).asks, 0)
  else (x, [], 1)
theorem hear_w (t : S23) (x : S28) (kind : Int) (l : List Int) (hs : SortH x.f3) (hn : x.f3.length ≤ 1000) (hm : l.length ≤ 1000) (A_x : Option Addr) (c_x : Nat) (A_l : Option Addr) (c_l : Nat) (w : World) (hx : Kd.C k49 w A_x x.f3.length x.f3) (hcx : x.f3.length ≤ c_x) (hl : Kd.C (Kd.int .u32) w A_l l.length l) (hcl : l.length ≤ c_l) (P : Nat → Prop) (hP : ∀ k, P k → k < w.heap.size) (hxF : Kd.F k49 w P A_x x.f3.length x.f3) :
    Calls Try.prog 12 #[.agg #[.int .i64 t.f0, .int .i64 t.f1], .agg #[.int .u32 x.f0, .bool x.f1, .int .i64 x.f2, .slice A_x x.f3.length c_x], .int .u8 kind, .slice A_l l.length c_l] w (HearPost P w (hearR t x kind l).1 (hearR t x kind l).2.1 (hearR t x kind l).2.2) := by
  have main : ∀ {f j : Nat} {fn : Func} (hfn : Try.prog.funcs[f]? = some fn) (hnm : (fn.name == "runtime.NumGoroutine") = false) (hbd : fn.body.isSome = true) (hfd : Instr.findNow (.int .u8) (.int .u8 kind) es6.toList 0 = some (some (j, .func (.func f) #[] #[]))) (hdo : Does f (kindM kind)) (hk : kind = 1 ∨ kind = 5 ∨ kind = 2 ∨ kind = 6 ∨ kind = 4 ∨ kind = 3), Calls Try.prog 12 #[.agg #[.int .i64 t.f0, .int .i64 t.f1], .agg #[.int .u32 x.f0, .bool x.f1, .int .i64 x.f2, .slice A_x x.f3.length c_x], .int .u8 kind, .slice A_l l.length c_l] w (HearPost P w (hearR t x kind l).1 (hearR t x kind l).2.1 (hearR t x kind l).2.2) := by
    intro f j fn hfn hnm hbd hfd hdo hk
    refine (hear_is hfn hnm hbd hfd hdo hs hn hm (m2 := hearD t x kind l) rfl A_x c_x A_l c_l w hx hcx hl hcl P hP hxF).mono fun e w' h => ?_
    rcases h with ⟨h1, h2⟩ | ⟨h1, h2⟩
    · have e : hearR t x kind l = (x, [], 7) := by unfold hearR; rw [if_pos hk, if_pos h1]
      rw [e]; exact h2
    · have e : hearR t x kind l = (⟨(hearD t x kind l).g, (hearD t x kind l).ex, (hearD t x kind l).left, (hearD t x kind l).srcs⟩, (hearD t x kind l).asks, 0) := by unfold hearR; rw [if_pos hk, if_neg (by omega)]
      rw [e]; exact h2
  have go : ∀ {f : Nat} {F : WM → WM}, Does f F → kindM kind = F → Does f (kindM kind) := fun h e => e ▸ h
  by_cases h1 : kind = 1
  · subst h1
    exact main Try.func23 (by kernel_rfl) rfl (by rfl) (go (fun base gw m vS vB vA w h hk hb => allow_w h hk hb) (by funext m; rfl)) (.inl rfl)
  by_cases h5 : kind = 5
  · subst h5
    exact main Try.func23 (by kernel_rfl) rfl (by rfl) (go (fun base gw m vS vB vA w h hk hb => allow_w h hk hb) (by funext m; rfl)) (.inr (.inl rfl))
  by_cases h2 : kind = 2
  · subst h2
    exact main Try.func24 (by kernel_rfl) rfl (by rfl) (go (fun base gw m vS vB vA w h hk hb => isEx_w h hk hb) (by funext m; rfl)) (.inr (.inr (.inl rfl)))
  by_cases h6 : kind = 6
  · subst h6
    exact main Try.func25 (by kernel_rfl) rfl (by rfl) (go (fun base gw m vS vB vA w h hk hb => block_w h hk hb) (by funext m; rfl)) (.inr (.inr (.inr (.inl rfl))))
  by_cases h4 : kind = 4
  · subst h4
    exact main Try.func26 (by kernel_rfl) rfl (by rfl) (go (fun base gw m vS vB vA w h hk hb => toEx_w h hk hb) (by funext m; rfl)) (.inr (.inr (.inr (.inr (.inl rfl)))))
  by_cases h3 : kind = 3
  · subst h3
    exact main Try.func27 (by kernel_rfl) rfl (by rfl) (go (fun base gw m vS vB vA w h hk hb => toIn_w h hk hb) (by funext m; rfl)) (.inr (.inr (.inr (.inr (.inr rfl)))))
  have e : hearR t x kind l = (x, [], 1) := by unfold hearR; rw [if_neg (by omega)]
  rw [e]
  exact hear_none (find_no h1 h5 h2 h6 h4 h3) A_x c_x A_l c_l w hx hcx hl hcl P hP hxF
end Go.Proofs.Ytbllchfgjginoaa
/-
  memb.place in the printer's form.
-/
namespace Go.Proofs.Ytbllchfgjginoaa
open Go.RowKit Go.Lib Go.Proofs.YtbllchfgjginoaaW.PrintWords Go.Proofs.YtbllchfgjginoaaW.PrintMore Go.Proofs.Ytbllchfgjginoaa.PMe
instance (l : List S49) : Decidable (SortH l) := by unfold SortH; infer_instance
def memb_place.f (l : List S49) (a : Int) : Option (Int × Bool) := if l.length ≤ 1000000 ∧ SortH l then some ((posH l a : Int), hasH l a) else none
theorem memb_place.some {l : List S49} (h : SortH l) (hn : l.length ≤ 1000000) (a : Int) : memb_place.f l a = .some ((posH l a : Int), hasH l a) := by
  unfold memb_place.f
  rw [if_pos ⟨hn, h⟩]
theorem memb_place.calls (A : Option Addr) (c : Nat) (l : List S49) (a : Int) (r0 : Int) (r1 : Bool) (w : World) (hr : Kd.C k49 w A l.length l) (hc : l.length ≤ c) (h : memb_place.f l a = Option.some (r0, r1)) :
    Calls Try.prog 34 #[.slice A l.length c, .int .u32 a] w fun e w' => e = .returned (.tuple #[.int .i64 r0, .bool r1]) ∧ Below w.heap.size w w' := by
  unfold memb_place.f at h
  split at h
  · rename_i hh
    obtain ⟨h1, h2, h3⟩ := standsH hh.2 a
    have e := Option.some.inj h
    injection e with e1 e2
    subst e1 e2
    rw [← atH_has hh.2 a]
    exact place_w h1 h2 h3 hh.1 A c w hr hc
  · exact absurd h (by simp)
end Go.Proofs.Ytbllchfgjginoaa
-- written by a program of this session (hprint.py), over the kit's printer
namespace Go.Proofs.Ytbllchfgjginoaa.PMe
set_option maxHeartbeats 8000000
set_option maxRecDepth 100000
open Go.RowKit Go.Proofs.YtbllchfgjginoaaW.PrintWords Go.Proofs.YtbllchfgjginoaaW.PrintLast Go.Proofs.YtbllchfgjginoaaW.PrintMore
attribute [local go_sem] max2_int min2_int max_two min_two max_three min_three max_four min_four   -- for this text's walks alone
set_option linter.unusedVariables false
set_option linter.unusedSimpArgs false

-- NOT PRINTED: function 52 (api_Addr)

-- BY HAND: function 34 (memb_place)

/-! ### memb_Wants: function 19 -/
def memb_Wants.f (a0_0 : Int) (a0_1 : Bool) (a0_2 : Int) (l0_3 : List (S49)) (a1 : Int) : Option (Bool) := (memb_place.f l0_3 a1).bind fun bt102 => (if a0_1 = true then (if bt102.2 = true then (if 0 ≤ bt102.1 then (if bt102.1 < (l0_3.length : Int) then (some (decide (((rd_T49 l0_3 bt102.1).f1) > 0))) else (none)) else (none)) else (some true)) else (some bt102.2))
theorem memb_Wants.calls (a0_0 : Int) (a0_1 : Bool) (a0_2 : Int) (A0_3 : Option Addr) (c0_3 : Nat) (l0_3 : List (S49)) (a1 : Int) (r : Bool) (w : World) (hr0_3 : Kd.C k49 w A0_3 l0_3.length l0_3) (hc0_3 : l0_3.length ≤ c0_3) (h : memb_Wants.f a0_0 a0_1 a0_2 l0_3 a1 = some r) :
    Calls Try.prog 19 #[.agg #[.int .u32 a0_0, .bool a0_1, .int .i64 a0_2, .slice A0_3 l0_3.length c0_3], .int .u32 a1] w fun e w' => e = .returned (.bool r) ∧ Below w.heap.size w w' := by
  have hu28 := Try.underlying28
  have HR0_3 := Aside0.mk hr0_3
  have HC0_3 := Aside0.mk hc0_3
  clear hr0_3 hc0_3
  have HB := Aside0.mk (Below.refl w.heap.size w)
  have H : ((memb_place.f l0_3 a1).bind fun bt102 => (if a0_1 = true then (if bt102.2 = true then (if 0 ≤ bt102.1 then (if bt102.1 < (l0_3.length : Int) then (some (decide (((rd_T49 l0_3 bt102.1).f1) > 0))) else (none)) else (none)) else (some true)) else (some bt102.2))) = some r := h
  clear h
  replace H := Option.bind_eq_some_iff.mp H
  obtain ⟨⟨t102, t103⟩, A30, H⟩ := H
  replace H : (if a0_1 = true then (if t103 = true then (if 0 ≤ t102 then (if t102 < (l0_3.length : Int) then (some (decide (((rd_T49 l0_3 t102).f1) > 0))) else (none)) else (none)) else (some true)) else (some t103)) = some r := H
  have A3 := Aside0.mk A30
  clear A30
  by_cases c4 : a0_1 = true
  · subst c4
    replace H : (if t103 = true then (if 0 ≤ t102 then (if t102 < (l0_3.length : Int) then (some (decide (((rd_T49 l0_3 t102).f1) > 0))) else (none)) else (none)) else (some true)) = some r := by rw [if_pos rfl] at H; exact H
    by_cases c5 : t103 = true
    · subst c5
      replace H : (if 0 ≤ t102 then (if t102 < (l0_3.length : Int) then (some (decide (((rd_T49 l0_3 t102).f1) > 0))) else (none)) else (none)) = some r := by rw [if_pos rfl] at H; exact H
      by_cases c6 : 0 ≤ t102
      · rw [if_pos c6] at H
        have c6b0 : decide (0 ≤ t102) = true := decide_eq_true c6
        clear c6
        by_cases c7 : t102 < (l0_3.length : Int)
        · rw [if_pos c7] at H
          have c7b0 : decide (t102 < (l0_3.length : Int)) = true := decide_eq_true c7
          clear c7
          obtain rfl := Option.some.inj H
          go_enter Try.func19, Try.ntmps19
          go_wp2_with (first | ((with_reducible refine gate_dst (N := 2) rfl ?_); refine bxn (cs := #[.int .u32 a0_0, .bool true, .int .i64 a0_2, .slice A0_3 l0_3.length c0_3]) (t := 28) ?_; intro gb101 hg w8 hbox hb; have BK101 := Aside0.mk (hbox); have GW101 := Aside0.mk ((by rw [hg]; exact (below_size (bl HB)) : w.heap.size ≤ gb101)); have GE101 := Aside0.mk ((by rw [hg]; exact (below_size (bl HB)) : w.heap.size ≤ gb101)); replace HB := Aside0.mk (below_step (bl HB) hb); clear hb hbox hg; obtain ⟨hcz9_0, hcz9_1, hcz9_2, hcz9_3, hfz9_0, hfz9_1, hfz9_2, hfz9_3⟩ := cf4 BK101.out) | ((with_reducible refine gate_callee (f := 34) rfl ?_); refine goesL_ (some 11) rfl rfl Try.func34 (by kernel_rfl) rfl #[.slice A0_3 l0_3.length c0_3, .int .u32 a1] rfl (by (try simp only [List.map_toArray, List.map_cons, List.map_nil]); first | done | rfl | (simp only [List.length_drop, List.length_take]; rfl)) ?_; (with_reducible refine (memb_place.calls _ _ l0_3 a1 t102 true _ ?side1 ?side2 A3.out).mono ?_); (case side1 => exact ca (Kd.C_below HR0_3.out HB.out)); (case side2 => exact HC0_3.out); rintro e w10 ⟨rfl, hb⟩; refine ⟨_, rfl, ?_⟩; have n0_ := Aside0.mk (blk_below (g := gb101) (o := .cells #[.int .u32 a0_0, .bool true, .int .i64 a0_2, .slice A0_3 l0_3.length c0_3] 28 (0, 0)) (ba BK101.out) hb); have n1_ := Aside0.mk (below_step (bl HB) hb); clear BK101; clear HB; have BK101 := n0_; have HB := n1_; clear n0_ n1_; (try clear hb); (try clear hb2); (try clear hk); (try clear hi); obtain ⟨hcz11_0, hcz11_1, hcz11_2, hcz11_3, hfz11_0, hfz11_1, hfz11_2, hfz11_3⟩ := cf4 BK101.out; have p104 : 0 ≤ (t102 : Int) := od; have q104 : t102 < (l0_3.length : Int) := od; obtain ⟨ad104, e104, hx104_0, hx104_1⟩ := at_T49 HR0_3.out t102 p104 q104; cases e104; replace hx104_0 := hcz HB hx104_0; replace hx104_1 := hcz HB hx104_1; replace p104 := eq_true p104; replace q104 := eq_true q104))
          go_ret
          exact ⟨by first | rfl | (simp [errW_none, errW_some] <;> rfl) | (simp [*, errW_none, errW_some] <;> rfl), bl HB⟩
        · rw [if_neg c7] at H
          exact absurd H (by simp)
      · rw [if_neg c6] at H
        exact absurd H (by simp)
    · replace c5 := Bool.eq_false_iff.mpr c5
      subst c5
      replace H : (some true) = some r := by rw [if_neg (show ¬ (false = true) by decide)] at H; exact H
      obtain rfl := Option.some.inj H
      go_enter Try.func19, Try.ntmps19
      go_wp2_with (first | ((with_reducible refine gate_dst (N := 2) rfl ?_); refine bxn (cs := #[.int .u32 a0_0, .bool true, .int .i64 a0_2, .slice A0_3 l0_3.length c0_3]) (t := 28) ?_; intro gb101 hg w12 hbox hb; have BK101 := Aside0.mk (hbox); have GW101 := Aside0.mk ((by rw [hg]; exact (below_size (bl HB)) : w.heap.size ≤ gb101)); have GE101 := Aside0.mk ((by rw [hg]; exact (below_size (bl HB)) : w.heap.size ≤ gb101)); replace HB := Aside0.mk (below_step (bl HB) hb); clear hb hbox hg; obtain ⟨hcz13_0, hcz13_1, hcz13_2, hcz13_3, hfz13_0, hfz13_1, hfz13_2, hfz13_3⟩ := cf4 BK101.out) | ((with_reducible refine gate_callee (f := 34) rfl ?_); refine goesL_ (some 11) rfl rfl Try.func34 (by kernel_rfl) rfl #[.slice A0_3 l0_3.length c0_3, .int .u32 a1] rfl (by (try simp only [List.map_toArray, List.map_cons, List.map_nil]); first | done | rfl | (simp only [List.length_drop, List.length_take]; rfl)) ?_; (with_reducible refine (memb_place.calls _ _ l0_3 a1 t102 false _ ?side1 ?side2 A3.out).mono ?_); (case side1 => exact ca (Kd.C_below HR0_3.out HB.out)); (case side2 => exact HC0_3.out); rintro e w14 ⟨rfl, hb⟩; refine ⟨_, rfl, ?_⟩; have n0_ := Aside0.mk (blk_below (g := gb101) (o := .cells #[.int .u32 a0_0, .bool true, .int .i64 a0_2, .slice A0_3 l0_3.length c0_3] 28 (0, 0)) (ba BK101.out) hb); have n1_ := Aside0.mk (below_step (bl HB) hb); clear BK101; clear HB; have BK101 := n0_; have HB := n1_; clear n0_ n1_; (try clear hb); (try clear hb2); (try clear hk); (try clear hi); obtain ⟨hcz15_0, hcz15_1, hcz15_2, hcz15_3, hfz15_0, hfz15_1, hfz15_2, hfz15_3⟩ := cf4 BK101.out))
      go_ret
      exact ⟨by first | rfl | (simp [errW_none, errW_some] <;> rfl) | (simp [*, errW_none, errW_some] <;> rfl), bl HB⟩
  · replace c4 := Bool.eq_false_iff.mpr c4
    subst c4
    replace H : (some t103) = some r := by rw [if_neg (show ¬ (false = true) by decide)] at H; exact H
    obtain rfl := Option.some.inj H
    go_enter Try.func19, Try.ntmps19
    go_wp2_with (first | ((with_reducible refine gate_dst (N := 2) rfl ?_); refine bxn (cs := #[.int .u32 a0_0, .bool false, .int .i64 a0_2, .slice A0_3 l0_3.length c0_3]) (t := 28) ?_; intro gb101 hg w16 hbox hb; have BK101 := Aside0.mk (hbox); have GW101 := Aside0.mk ((by rw [hg]; exact (below_size (bl HB)) : w.heap.size ≤ gb101)); have GE101 := Aside0.mk ((by rw [hg]; exact (below_size (bl HB)) : w.heap.size ≤ gb101)); replace HB := Aside0.mk (below_step (bl HB) hb); clear hb hbox hg; obtain ⟨hcz17_0, hcz17_1, hcz17_2, hcz17_3, hfz17_0, hfz17_1, hfz17_2, hfz17_3⟩ := cf4 BK101.out) | ((with_reducible refine gate_callee (f := 34) rfl ?_); refine goesL_ (some 11) rfl rfl Try.func34 (by kernel_rfl) rfl #[.slice A0_3 l0_3.length c0_3, .int .u32 a1] rfl (by (try simp only [List.map_toArray, List.map_cons, List.map_nil]); first | done | rfl | (simp only [List.length_drop, List.length_take]; rfl)) ?_; (with_reducible refine (memb_place.calls _ _ l0_3 a1 t102 t103 _ ?side1 ?side2 A3.out).mono ?_); (case side1 => exact ca (Kd.C_below HR0_3.out HB.out)); (case side2 => exact HC0_3.out); rintro e w18 ⟨rfl, hb⟩; refine ⟨_, rfl, ?_⟩; have n0_ := Aside0.mk (blk_below (g := gb101) (o := .cells #[.int .u32 a0_0, .bool false, .int .i64 a0_2, .slice A0_3 l0_3.length c0_3] 28 (0, 0)) (ba BK101.out) hb); have n1_ := Aside0.mk (below_step (bl HB) hb); clear BK101; clear HB; have BK101 := n0_; have HB := n1_; clear n0_ n1_; (try clear hb); (try clear hb2); (try clear hk); (try clear hi); obtain ⟨hcz19_0, hcz19_1, hcz19_2, hcz19_3, hfz19_0, hfz19_1, hfz19_2, hfz19_3⟩ := cf4 BK101.out))
    go_ret
    exact ⟨by first | rfl | (simp [errW_none, errW_some] <;> rfl) | (simp [*, errW_none, errW_some] <;> rfl), bl HB⟩

/-! ### memb_Some: function 20 -/
def memb_Some.f (a0_0 : Int) (a0_1 : Bool) (a0_2 : Int) (l0_3 : List (S49)) : Option (Bool) := if a0_1 = true then (some true) else (some (decide ((l0_3.length : Int) > 0)))
theorem memb_Some.calls (a0_0 : Int) (a0_1 : Bool) (a0_2 : Int) (A0_3 : Option Addr) (c0_3 : Nat) (l0_3 : List (S49)) (r : Bool) (w : World) (hr0_3 : Kd.C k49 w A0_3 l0_3.length l0_3) (hc0_3 : l0_3.length ≤ c0_3) (h : memb_Some.f a0_0 a0_1 a0_2 l0_3 = some r) :
    Calls Try.prog 20 #[.agg #[.int .u32 a0_0, .bool a0_1, .int .i64 a0_2, .slice A0_3 l0_3.length c0_3]] w fun e w' => e = .returned (.bool r) ∧ Below w.heap.size w w' := by
  have hu28 := Try.underlying28
  have HR0_3 := Aside0.mk hr0_3
  have HC0_3 := Aside0.mk hc0_3
  clear hr0_3 hc0_3
  have HB := Aside0.mk (Below.refl w.heap.size w)
  have H : (if a0_1 = true then (some true) else (some (decide ((l0_3.length : Int) > 0)))) = some r := h
  clear h
  by_cases c2 : a0_1 = true
  · subst c2
    replace H : (some true) = some r := by rw [if_pos rfl] at H; exact H
    obtain rfl := Option.some.inj H
    go_enter Try.func20, Try.ntmps20
    go_wp2_with (first | ((with_reducible refine gate_dst (N := 1) rfl ?_); (try (refine gate_guard (by rfl) ?_; dsimp only)); refine bxn (cs := #[.int .u32 a0_0, .bool true, .int .i64 a0_2, .slice A0_3 l0_3.length c0_3]) (t := 28) ?_; intro gb105 hg w3 hbox hb; have BK105 := Aside0.mk (hbox); have GW105 := Aside0.mk ((by rw [hg]; exact (below_size (bl HB)) : w.heap.size ≤ gb105)); have GE105 := Aside0.mk ((by rw [hg]; exact (below_size (bl HB)) : w.heap.size ≤ gb105)); replace HB := Aside0.mk (below_step (bl HB) hb); clear hb hbox hg; obtain ⟨hcz4_0, hcz4_1, hcz4_2, hcz4_3, hfz4_0, hfz4_1, hfz4_2, hfz4_3⟩ := cf4 BK105.out))
    go_ret
    exact ⟨by first | rfl | (simp [errW_none, errW_some] <;> rfl) | (simp [*, errW_none, errW_some] <;> rfl), bl HB⟩
  · replace c2 := Bool.eq_false_iff.mpr c2
    subst c2
    replace H : (some (decide ((l0_3.length : Int) > 0))) = some r := by rw [if_neg (show ¬ (false = true) by decide)] at H; exact H
    obtain rfl := Option.some.inj H
    go_enter Try.func20, Try.ntmps20
    go_wp2_with (first | ((with_reducible refine gate_dst (N := 1) rfl ?_); (try (refine gate_guard (by rfl) ?_; dsimp only)); refine bxn (cs := #[.int .u32 a0_0, .bool false, .int .i64 a0_2, .slice A0_3 l0_3.length c0_3]) (t := 28) ?_; intro gb105 hg w5 hbox hb; have BK105 := Aside0.mk (hbox); have GW105 := Aside0.mk ((by rw [hg]; exact (below_size (bl HB)) : w.heap.size ≤ gb105)); have GE105 := Aside0.mk ((by rw [hg]; exact (below_size (bl HB)) : w.heap.size ≤ gb105)); replace HB := Aside0.mk (below_step (bl HB) hb); clear hb hbox hg; obtain ⟨hcz6_0, hcz6_1, hcz6_2, hcz6_3, hfz6_0, hfz6_1, hfz6_2, hfz6_3⟩ := cf4 BK105.out))
    go_ret
    exact ⟨by first | rfl | (simp [errW_none, errW_some] <;> rfl) | (simp [*, errW_none, errW_some] <;> rfl), bl HB⟩

/-! ### memb_May: function 21 -/
def memb_May.f (a0_0 : Int) (a0_1 : Int) : Option (Bool) := if a0_1 ≥ 1 then (if a0_1 ≤ a0_0 then (some (decide (a0_0 ≤ 1000000))) else (some false)) else (some false)
theorem memb_May.calls (a0_0 : Int) (a0_1 : Int) (r : Bool) (w : World) (h : memb_May.f a0_0 a0_1 = some r) :
    Calls Try.prog 21 #[.agg #[.int .i64 a0_0, .int .i64 a0_1]] w fun e w' => e = .returned (.bool r) ∧ Below w.heap.size w w' := by
  have hu23 := Try.underlying23
  have HB := Aside0.mk (Below.refl w.heap.size w)
  have H : (if a0_1 ≥ 1 then (if a0_1 ≤ a0_0 then (some (decide (a0_0 ≤ 1000000))) else (some false)) else (some false)) = some r := h
  clear h
  by_cases c2 : a0_1 ≥ 1
  · rw [if_pos c2] at H
    have c2b0 : decide (1 ≤ a0_1) = true := decide_eq_true c2
    clear c2
    by_cases c3 : a0_1 ≤ a0_0
    · rw [if_pos c3] at H
      have c3b0 : decide (a0_1 ≤ a0_0) = true := decide_eq_true c3
      clear c3
      obtain rfl := Option.some.inj H
      go_enter Try.func21, Try.ntmps21
      go_wp2_with (first | ((with_reducible refine gate_dst (N := 1) rfl ?_); refine bxn (cs := #[.int .i64 a0_0, .int .i64 a0_1]) (t := 23) ?_; intro gb106 hg w4 hbox hb; have BK106 := Aside0.mk (hbox); have GW106 := Aside0.mk ((by rw [hg]; exact (below_size (bl HB)) : w.heap.size ≤ gb106)); have GE106 := Aside0.mk ((by rw [hg]; exact (below_size (bl HB)) : w.heap.size ≤ gb106)); replace HB := Aside0.mk (below_step (bl HB) hb); clear hb hbox hg; obtain ⟨hcz5_0, hcz5_1, hfz5_0, hfz5_1⟩ := cf2 BK106.out))
      go_ret
      exact ⟨by first | rfl | (simp [errW_none, errW_some] <;> rfl) | (simp [*, errW_none, errW_some] <;> rfl), bl HB⟩
    · rw [if_neg c3] at H
      have c3b0 : decide (a0_1 ≤ a0_0) = false := decide_eq_false c3
      clear c3
      obtain rfl := Option.some.inj H
      go_enter Try.func21, Try.ntmps21
      go_wp2_with (first | ((with_reducible refine gate_dst (N := 1) rfl ?_); refine bxn (cs := #[.int .i64 a0_0, .int .i64 a0_1]) (t := 23) ?_; intro gb106 hg w6 hbox hb; have BK106 := Aside0.mk (hbox); have GW106 := Aside0.mk ((by rw [hg]; exact (below_size (bl HB)) : w.heap.size ≤ gb106)); have GE106 := Aside0.mk ((by rw [hg]; exact (below_size (bl HB)) : w.heap.size ≤ gb106)); replace HB := Aside0.mk (below_step (bl HB) hb); clear hb hbox hg; obtain ⟨hcz7_0, hcz7_1, hfz7_0, hfz7_1⟩ := cf2 BK106.out))
      go_ret
      exact ⟨by first | rfl | (simp [errW_none, errW_some] <;> rfl) | (simp [*, errW_none, errW_some] <;> rfl), bl HB⟩
  · rw [if_neg c2] at H
    have c2b0 : decide (1 ≤ a0_1) = false := decide_eq_false c2
    clear c2
    obtain rfl := Option.some.inj H
    go_enter Try.func21, Try.ntmps21
    go_wp2_with (first | ((with_reducible refine gate_dst (N := 1) rfl ?_); refine bxn (cs := #[.int .i64 a0_0, .int .i64 a0_1]) (t := 23) ?_; intro gb106 hg w8 hbox hb; have BK106 := Aside0.mk (hbox); have GW106 := Aside0.mk ((by rw [hg]; exact (below_size (bl HB)) : w.heap.size ≤ gb106)); have GE106 := Aside0.mk ((by rw [hg]; exact (below_size (bl HB)) : w.heap.size ≤ gb106)); replace HB := Aside0.mk (below_step (bl HB) hb); clear hb hbox hg; obtain ⟨hcz9_0, hcz9_1, hfz9_0, hfz9_1⟩ := cf2 BK106.out))
    go_ret
    exact ⟨by first | rfl | (simp [errW_none, errW_some] <;> rfl) | (simp [*, errW_none, errW_some] <;> rfl), bl HB⟩

/-! ### stolonref08_May: function 10 -/
def stolonref08_May.f (a0_0 : Int) (a0_1 : Int) : Option (Bool) := if a0_1 ≥ 1 then (if a0_0 ≥ a0_1 then (some (decide (a0_0 ≤ 1000000))) else (some false)) else (some false)
theorem stolonref08_May.calls (a0_0 : Int) (a0_1 : Int) (r : Bool) (w : World) (h : stolonref08_May.f a0_0 a0_1 = some r) :
    Calls Try.prog 10 #[.agg #[.int .i64 a0_0, .int .i64 a0_1]] w fun e w' => e = .returned (.bool r) ∧ Below w.heap.size w w' := by
  have hu23 := Try.underlying23
  have HB := Aside0.mk (Below.refl w.heap.size w)
  have H : (if a0_1 ≥ 1 then (if a0_0 ≥ a0_1 then (some (decide (a0_0 ≤ 1000000))) else (some false)) else (some false)) = some r := h
  clear h
  by_cases c2 : a0_1 ≥ 1
  · rw [if_pos c2] at H
    have c2b0 : decide (1 ≤ a0_1) = true := decide_eq_true c2
    clear c2
    by_cases c3 : a0_0 ≥ a0_1
    · rw [if_pos c3] at H
      have c3b0 : decide (a0_1 ≤ a0_0) = true := decide_eq_true c3
      clear c3
      obtain rfl := Option.some.inj H
      go_enter Try.func10, Try.ntmps10
      go_wp2_with (first | ((with_reducible refine gate_dst (N := 1) rfl ?_); refine bxn (cs := #[.int .i64 a0_0, .int .i64 a0_1]) (t := 23) ?_; intro gb107 hg w4 hbox hb; have BK107 := Aside0.mk (hbox); have GW107 := Aside0.mk ((by rw [hg]; exact (below_size (bl HB)) : w.heap.size ≤ gb107)); have GE107 := Aside0.mk ((by rw [hg]; exact (below_size (bl HB)) : w.heap.size ≤ gb107)); replace HB := Aside0.mk (below_step (bl HB) hb); clear hb hbox hg; obtain ⟨hcz5_0, hcz5_1, hfz5_0, hfz5_1⟩ := cf2 BK107.out))
      go_ret
      exact ⟨by first | rfl | (simp [errW_none, errW_some] <;> rfl) | (simp [*, errW_none, errW_some] <;> rfl), bl HB⟩
    · rw [if_neg c3] at H
      have c3b0 : decide (a0_1 ≤ a0_0) = false := decide_eq_false c3
      clear c3
      obtain rfl := Option.some.inj H
      go_enter Try.func10, Try.ntmps10
      go_wp2_with (first | ((with_reducible refine gate_dst (N := 1) rfl ?_); refine bxn (cs := #[.int .i64 a0_0, .int .i64 a0_1]) (t := 23) ?_; intro gb107 hg w6 hbox hb; have BK107 := Aside0.mk (hbox); have GW107 := Aside0.mk ((by rw [hg]; exact (below_size (bl HB)) : w.heap.size ≤ gb107)); have GE107 := Aside0.mk ((by rw [hg]; exact (below_size (bl HB)) : w.heap.size ≤ gb107)); replace HB := Aside0.mk (below_step (bl HB) hb); clear hb hbox hg; obtain ⟨hcz7_0, hcz7_1, hfz7_0, hfz7_1⟩ := cf2 BK107.out))
      go_ret
      exact ⟨by first | rfl | (simp [errW_none, errW_some] <;> rfl) | (simp [*, errW_none, errW_some] <;> rfl), bl HB⟩
  · rw [if_neg c2] at H
    have c2b0 : decide (1 ≤ a0_1) = false := decide_eq_false c2
    clear c2
    obtain rfl := Option.some.inj H
    go_enter Try.func10, Try.ntmps10
    go_wp2_with (first | ((with_reducible refine gate_dst (N := 1) rfl ?_); refine bxn (cs := #[.int .i64 a0_0, .int .i64 a0_1]) (t := 23) ?_; intro gb107 hg w8 hbox hb; have BK107 := Aside0.mk (hbox); have GW107 := Aside0.mk ((by rw [hg]; exact (below_size (bl HB)) : w.heap.size ≤ gb107)); have GE107 := Aside0.mk ((by rw [hg]; exact (below_size (bl HB)) : w.heap.size ≤ gb107)); replace HB := Aside0.mk (below_step (bl HB) hb); clear hb hbox hg; obtain ⟨hcz9_0, hcz9_1, hfz9_0, hfz9_1⟩ := cf2 BK107.out))
    go_ret
    exact ⟨by first | rfl | (simp [errW_none, errW_some] <;> rfl) | (simp [*, errW_none, errW_some] <;> rfl), bl HB⟩

/-! ### stolonref01_Asked: function 22 -/
def stolonref01_Asked.f (a0 : Int) : Option (Bool) := if a0 ≥ 3758096640 then (some (decide (a0 ≤ 4026531839))) else (some false)
theorem stolonref01_Asked.calls (a0 : Int) (r : Bool) (w : World) (h : stolonref01_Asked.f a0 = some r) :
    Calls Try.prog 22 #[.int .u32 a0] w fun e w' => e = .returned (.bool r) ∧ Drawn0 w w' := by
  have H : (if a0 ≥ 3758096640 then (some (decide (a0 ≤ 4026531839))) else (some false)) = some r := h
  clear h
  by_cases c2 : a0 ≥ 3758096640
  · rw [if_pos c2] at H
    have c2b0 : decide (3758096640 ≤ a0) = true := decide_eq_true c2
    clear c2
    obtain rfl := Option.some.inj H
    go_enter Try.func22, Try.ntmps22
    go_wp2
    go_ret
    exact ⟨fr, by repeat (first | exact Drawn0.refl _ | apply Drawn0.step)⟩
  · rw [if_neg c2] at H
    have c2b0 : decide (3758096640 ≤ a0) = false := decide_eq_false c2
    clear c2
    obtain rfl := Option.some.inj H
    go_enter Try.func22, Try.ntmps22
    go_wp2
    go_ret
    exact ⟨fr, by repeat (first | exact Drawn0.refl _ | apply Drawn0.step)⟩

end Go.Proofs.Ytbllchfgjginoaa.PMe
