/-
  HostStays, walked.
-/
import Derived.Test.YtjncmiclpaodhaaHoG
import Derived.Test.YtjncmiclpaodhaaPHpa
namespace Go.Proofs.Ytjncmiclpaodhaa
open Go.RowKit Go.Lib Go.Proofs.YtjncmiclpaodhaaW.PrintWords Go.Proofs.YtjncmiclpaodhaaW.PrintLast Go.Proofs.YtjncmiclpaodhaaW.PrintMore Go.Proofs.Ytjncmiclpaodhaa.PHo
set_option linter.unusedVariables false
set_option linter.unusedSimpArgs false
def hs_T13 : Bool × List (List Nat × List Nat) := (true, [([], []), ([0], [0]), ([1], [1]), ([2, 1], [1, 2]), ([1], [1]), ([3, 4, 1], [1, 3, 4]), ([5, 1], [1, 5]), ([6, 1], [1, 6]), ([1], [1]), ([8, 1], [1, 8]), ([7, 9, 1], [1, 7, 9]), ([1, 10], [1, 10]), ([11, 1, 0, 1, 2, 3, 4, 5, 6, 7, 8, 9, 10, 11], [0, 11])])
def hs_B13 : List Nat := [0, 1, 3, 7, 3, 31, 63, 127, 3, 259, 1023, 2047, 4095]
theorem hs_t13 : rtab .any (opsOf Try.f6 13) = hs_T13 := by kernel_rfl
theorem hs_b13 : waitsOk hs_T13.2 hs_B13 = true := by kernel_rfl
theorem same7_w {k : Nat} {l m : List S42} {b : Bool} (h : stolonref07_Same.f k l m = some b) (A : Option Addr) (c : Nat) (B : Option Addr) (d : Nat) (w : World) (hr : Kd.C k42 w A l.length l) (hc : l.length ≤ c) (hs : Kd.C k42 w B m.length m) (hd : m.length ≤ d) :
    Calls Try.prog 16 #[.agg #[.slice A l.length c], .agg #[.slice B m.length d]] w fun e w' => e = .returned (.bool b) ∧ Below w.heap.size w w' := stolonref07_Same.calls k A c l B d m b w hr hc hs hd h
theorem has_take {l : List S42} {i : Nat} (h : i < l.length) (id : Int) : hasS (l.take (i + 1)) id = (hasS (l.take i) id || ((rd_T42 l i).f0 == id)) := by
  rw [← List.take_append_getElem h, rd42 l i h]
  unfold hasS
  rw [List.any_append]
  congr 1
  simp only [List.any_cons, List.any_nil, Bool.or_false]
  rw [Bool.eq_iff_iff, decide_eq_true_eq, beq_iff_eq]
set_option maxHeartbeats 8000000 in
set_option maxRecDepth 100000 in
theorem stays_few {k : Nat} {l : List S42} {s : S42} (hf : stolonref07_Few.f k l = some false) (A_l : Option Addr) (c_l : Nat) (A_s : Option Addr) (c_s : Nat) (w : World) (hr : Kd.C k42 w A_l l.length l) (hc : l.length ≤ c_l) (hs : Kd.C (Kd.int .u32) w A_s s.f2.f1.length s.f2.f1) (hcs : s.f2.f1.length ≤ c_s) :
    Calls Try.prog 6 #[.agg #[.slice A_l l.length c_l], .agg #[.int .i64 s.f0, .int .u32 s.f1, .bool s.f2.f0, .slice A_s s.f2.f1.length c_s]] w fun e w' => e = .returned (.bool true) ∧ Below w.heap.size w w' := by
  have hu40 := Try.underlying40
  have hu42 := Try.underlying42
  have hu26 := Try.underlying26
  have HB := Aside0.mk (Below.refl w.heap.size w)
  have HC_l := Aside0.mk hr
  have HK_l := Aside0.mk hc
  have HC_s := Aside0.mk hs
  have HK_s := Aside0.mk hcs
  clear hr hc hs hcs
  have Xhf := Aside0.mk hf
  clear hf
  go_enter Try.func6, Try.ntmps6
  go_wp2_with (first | ((with_reducible refine gate_dst (N := 2) rfl ?_); (try (refine gate_guard (by rfl) ?_; dsimp only)); refine box_event ?hg (N := 2) ?hd (cs := #[.slice A_l l.length c_l]) (t := 40) ?hr ?_; (case hd => rfl); (case hg => rfl); (case hr => first | (go_simp; done) | (go_simp; rfl)); intro gh hg w1_ hbox hB; have HBo := Aside0.mk HB.out; have nHB := Aside0.mk (HB.out.trans (hB.mono HB.out.size)); clear HB; have HB := nHB; clear nHB; have BK_gh := Aside0.mk hbox; have GE_gh := Aside0.mk (show w.heap.size ≤ gh by rw [hg]; exact HBo.out.size); clear hg hbox hB; have hc_gh_0 : w1_.cell? ⟨gh, 0, none⟩ = some (.slice A_l l.length c_l) := (blk_cell BK_gh.out 0).trans rfl; have hf_gh_0 := blk_frozen BK_gh.out 0; clear HBo) | ((with_reducible refine gate_dst (N := 3) rfl ?_); (try (refine gate_guard (by rfl) ?_; dsimp only)); refine box_event ?hg (N := 3) ?hd (cs := #[.int .i64 s.f0, .int .u32 s.f1, .bool s.f2.f0, .slice A_s s.f2.f1.length c_s]) (t := 42) ?hr ?_; (case hd => rfl); (case hg => rfl); (case hr => first | (go_simp; done) | (go_simp; rfl)); intro gs hg w2_ hbox hB; have HBo := Aside0.mk HB.out; have BK0_gh := Aside0.mk BK_gh.out; have nHB := Aside0.mk (HB.out.trans (hB.mono HB.out.size)); clear HB; have HB := nHB; clear nHB; clear hc_gh_0 hf_gh_0; have nBK := Aside0.mk (blk_below (g := gh) (o := .cells #[.slice A_l l.length c_l] 40 (0, 0)) BK_gh.out hB); clear BK_gh; have BK_gh := nBK; clear nBK; have hc_gh_0 : w2_.cell? ⟨gh, 0, none⟩ = some (.slice A_l l.length c_l) := (blk_cell BK_gh.out 0).trans rfl; have hf_gh_0 := blk_frozen BK_gh.out 0; have BK_gs := Aside0.mk hbox; have GE_gs := Aside0.mk (show w.heap.size ≤ gs by rw [hg]; exact HBo.out.size); have NB_gs_gh := Aside0.mk (show gs ≠ gh by rw [hg]; exact Nat.ne_of_gt (blk_lt (g := gh) (o := .cells #[.slice A_l l.length c_l] 40 (0, 0)) BK0_gh.out)); have NB_gh_gs := Aside0.mk (Ne.symm NB_gs_gh.out); clear BK0_gh; clear hg hbox hB; have hc_gs_0 : w2_.cell? ⟨gs, 0, none⟩ = some (.int .i64 s.f0) := (blk_cell BK_gs.out 0).trans rfl; have hf_gs_0 := blk_frozen BK_gs.out 0; have hc_gs_1 : w2_.cell? ⟨gs, 1, none⟩ = some (.int .u32 s.f1) := (blk_cell BK_gs.out 1).trans rfl; have hf_gs_1 := blk_frozen BK_gs.out 1; have hc_gs_2 : w2_.cell? ⟨gs, 2, none⟩ = some (.bool s.f2.f0) := (blk_cell BK_gs.out 2).trans rfl; have hf_gs_2 := blk_frozen BK_gs.out 2; have hc_gs_3 : w2_.cell? ⟨gs, 3, none⟩ = some (.slice A_s s.f2.f1.length c_s) := (blk_cell BK_gs.out 3).trans rfl; have hf_gs_3 := blk_frozen BK_gs.out 3; clear HBo) | (go_at_call 8; with_reducible refine (stolonlaw07_shown.calls true _ rfl).mono ?_; rintro e w3_ ⟨rfl, hB⟩; have nHB := Aside0.mk (HB.out.trans (hB.mono HB.out.size)); clear HB; have HB := nHB; clear nHB; clear hc_gh_0 hf_gh_0; have nBK := Aside0.mk (blk_below (g := gh) (o := .cells #[.slice A_l l.length c_l] 40 (0, 0)) BK_gh.out hB); clear BK_gh; have BK_gh := nBK; clear nBK; have hc_gh_0 : w3_.cell? ⟨gh, 0, none⟩ = some (.slice A_l l.length c_l) := (blk_cell BK_gh.out 0).trans rfl; have hf_gh_0 := blk_frozen BK_gh.out 0; clear hc_gs_0 hf_gs_0 hc_gs_1 hf_gs_1 hc_gs_2 hf_gs_2 hc_gs_3 hf_gs_3; have nBK := Aside0.mk (blk_below (g := gs) (o := .cells #[.int .i64 s.f0, .int .u32 s.f1, .bool s.f2.f0, .slice A_s s.f2.f1.length c_s] 42 (0, 0)) BK_gs.out hB); clear BK_gs; have BK_gs := nBK; clear nBK; have hc_gs_0 : w3_.cell? ⟨gs, 0, none⟩ = some (.int .i64 s.f0) := (blk_cell BK_gs.out 0).trans rfl; have hf_gs_0 := blk_frozen BK_gs.out 0; have hc_gs_1 : w3_.cell? ⟨gs, 1, none⟩ = some (.int .u32 s.f1) := (blk_cell BK_gs.out 1).trans rfl; have hf_gs_1 := blk_frozen BK_gs.out 1; have hc_gs_2 : w3_.cell? ⟨gs, 2, none⟩ = some (.bool s.f2.f0) := (blk_cell BK_gs.out 2).trans rfl; have hf_gs_2 := blk_frozen BK_gs.out 2; have hc_gs_3 : w3_.cell? ⟨gs, 3, none⟩ = some (.slice A_s s.f2.f1.length c_s) := (blk_cell BK_gs.out 3).trans rfl; have hf_gs_3 := blk_frozen BK_gs.out 3; clear hB) | (go_at_call 13; with_reducible refine (few7_w Xhf.out _ _ _ (Kd.C_below HC_l.out HB.out) HK_l.out).mono ?_; rintro e w4_ ⟨rfl, hB⟩; have nHB := Aside0.mk (HB.out.trans (hB.mono HB.out.size)); clear HB; have HB := nHB; clear nHB; clear hc_gh_0 hf_gh_0; have nBK := Aside0.mk (blk_below (g := gh) (o := .cells #[.slice A_l l.length c_l] 40 (0, 0)) BK_gh.out hB); clear BK_gh; have BK_gh := nBK; clear nBK; have hc_gh_0 : w4_.cell? ⟨gh, 0, none⟩ = some (.slice A_l l.length c_l) := (blk_cell BK_gh.out 0).trans rfl; have hf_gh_0 := blk_frozen BK_gh.out 0; clear hc_gs_0 hf_gs_0 hc_gs_1 hf_gs_1 hc_gs_2 hf_gs_2 hc_gs_3 hf_gs_3; have nBK := Aside0.mk (blk_below (g := gs) (o := .cells #[.int .i64 s.f0, .int .u32 s.f1, .bool s.f2.f0, .slice A_s s.f2.f1.length c_s] 42 (0, 0)) BK_gs.out hB); clear BK_gs; have BK_gs := nBK; clear nBK; have hc_gs_0 : w4_.cell? ⟨gs, 0, none⟩ = some (.int .i64 s.f0) := (blk_cell BK_gs.out 0).trans rfl; have hf_gs_0 := blk_frozen BK_gs.out 0; have hc_gs_1 : w4_.cell? ⟨gs, 1, none⟩ = some (.int .u32 s.f1) := (blk_cell BK_gs.out 1).trans rfl; have hf_gs_1 := blk_frozen BK_gs.out 1; have hc_gs_2 : w4_.cell? ⟨gs, 2, none⟩ = some (.bool s.f2.f0) := (blk_cell BK_gs.out 2).trans rfl; have hf_gs_2 := blk_frozen BK_gs.out 2; have hc_gs_3 : w4_.cell? ⟨gs, 3, none⟩ = some (.slice A_s s.f2.f1.length c_s) := (blk_cell BK_gs.out 3).trans rfl; have hf_gs_3 := blk_frozen BK_gs.out 3; clear hB))
  go_ret
  exact ⟨rfl, HB.out⟩
set_option maxHeartbeats 8000000 in
set_option maxRecDepth 100000 in
theorem stays_wrong {k : Nat} {l : List S42} {s : S42} (hf : stolonref07_Few.f k l = some true) (hg : stolonref07_Right.f k l = some false) (A_l : Option Addr) (c_l : Nat) (A_s : Option Addr) (c_s : Nat) (w : World) (hr : Kd.C k42 w A_l l.length l) (hc : l.length ≤ c_l) (hs : Kd.C (Kd.int .u32) w A_s s.f2.f1.length s.f2.f1) (hcs : s.f2.f1.length ≤ c_s) :
    Calls Try.prog 6 #[.agg #[.slice A_l l.length c_l], .agg #[.int .i64 s.f0, .int .u32 s.f1, .bool s.f2.f0, .slice A_s s.f2.f1.length c_s]] w fun e w' => e = .returned (.bool true) ∧ Below w.heap.size w w' := by
  have hu40 := Try.underlying40
  have hu42 := Try.underlying42
  have hu26 := Try.underlying26
  have HB := Aside0.mk (Below.refl w.heap.size w)
  have HC_l := Aside0.mk hr
  have HK_l := Aside0.mk hc
  have HC_s := Aside0.mk hs
  have HK_s := Aside0.mk hcs
  clear hr hc hs hcs
  have Xhf := Aside0.mk hf
  have Xhg := Aside0.mk hg
  clear hf hg
  go_enter Try.func6, Try.ntmps6
  go_wp2_with (first | ((with_reducible refine gate_dst (N := 2) rfl ?_); (try (refine gate_guard (by rfl) ?_; dsimp only)); refine box_event ?hg (N := 2) ?hd (cs := #[.slice A_l l.length c_l]) (t := 40) ?hr ?_; (case hd => rfl); (case hg => rfl); (case hr => first | (go_simp; done) | (go_simp; rfl)); intro gh hg w1_ hbox hB; have HBo := Aside0.mk HB.out; have nHB := Aside0.mk (HB.out.trans (hB.mono HB.out.size)); clear HB; have HB := nHB; clear nHB; have BK_gh := Aside0.mk hbox; have GE_gh := Aside0.mk (show w.heap.size ≤ gh by rw [hg]; exact HBo.out.size); clear hg hbox hB; have hc_gh_0 : w1_.cell? ⟨gh, 0, none⟩ = some (.slice A_l l.length c_l) := (blk_cell BK_gh.out 0).trans rfl; have hf_gh_0 := blk_frozen BK_gh.out 0; clear HBo) | ((with_reducible refine gate_dst (N := 3) rfl ?_); (try (refine gate_guard (by rfl) ?_; dsimp only)); refine box_event ?hg (N := 3) ?hd (cs := #[.int .i64 s.f0, .int .u32 s.f1, .bool s.f2.f0, .slice A_s s.f2.f1.length c_s]) (t := 42) ?hr ?_; (case hd => rfl); (case hg => rfl); (case hr => first | (go_simp; done) | (go_simp; rfl)); intro gs hg w2_ hbox hB; have HBo := Aside0.mk HB.out; have BK0_gh := Aside0.mk BK_gh.out; have nHB := Aside0.mk (HB.out.trans (hB.mono HB.out.size)); clear HB; have HB := nHB; clear nHB; clear hc_gh_0 hf_gh_0; have nBK := Aside0.mk (blk_below (g := gh) (o := .cells #[.slice A_l l.length c_l] 40 (0, 0)) BK_gh.out hB); clear BK_gh; have BK_gh := nBK; clear nBK; have hc_gh_0 : w2_.cell? ⟨gh, 0, none⟩ = some (.slice A_l l.length c_l) := (blk_cell BK_gh.out 0).trans rfl; have hf_gh_0 := blk_frozen BK_gh.out 0; have BK_gs := Aside0.mk hbox; have GE_gs := Aside0.mk (show w.heap.size ≤ gs by rw [hg]; exact HBo.out.size); have NB_gs_gh := Aside0.mk (show gs ≠ gh by rw [hg]; exact Nat.ne_of_gt (blk_lt (g := gh) (o := .cells #[.slice A_l l.length c_l] 40 (0, 0)) BK0_gh.out)); have NB_gh_gs := Aside0.mk (Ne.symm NB_gs_gh.out); clear BK0_gh; clear hg hbox hB; have hc_gs_0 : w2_.cell? ⟨gs, 0, none⟩ = some (.int .i64 s.f0) := (blk_cell BK_gs.out 0).trans rfl; have hf_gs_0 := blk_frozen BK_gs.out 0; have hc_gs_1 : w2_.cell? ⟨gs, 1, none⟩ = some (.int .u32 s.f1) := (blk_cell BK_gs.out 1).trans rfl; have hf_gs_1 := blk_frozen BK_gs.out 1; have hc_gs_2 : w2_.cell? ⟨gs, 2, none⟩ = some (.bool s.f2.f0) := (blk_cell BK_gs.out 2).trans rfl; have hf_gs_2 := blk_frozen BK_gs.out 2; have hc_gs_3 : w2_.cell? ⟨gs, 3, none⟩ = some (.slice A_s s.f2.f1.length c_s) := (blk_cell BK_gs.out 3).trans rfl; have hf_gs_3 := blk_frozen BK_gs.out 3; clear HBo) | (go_at_call 8; with_reducible refine (stolonlaw07_shown.calls true _ rfl).mono ?_; rintro e w3_ ⟨rfl, hB⟩; have nHB := Aside0.mk (HB.out.trans (hB.mono HB.out.size)); clear HB; have HB := nHB; clear nHB; clear hc_gh_0 hf_gh_0; have nBK := Aside0.mk (blk_below (g := gh) (o := .cells #[.slice A_l l.length c_l] 40 (0, 0)) BK_gh.out hB); clear BK_gh; have BK_gh := nBK; clear nBK; have hc_gh_0 : w3_.cell? ⟨gh, 0, none⟩ = some (.slice A_l l.length c_l) := (blk_cell BK_gh.out 0).trans rfl; have hf_gh_0 := blk_frozen BK_gh.out 0; clear hc_gs_0 hf_gs_0 hc_gs_1 hf_gs_1 hc_gs_2 hf_gs_2 hc_gs_3 hf_gs_3; have nBK := Aside0.mk (blk_below (g := gs) (o := .cells #[.int .i64 s.f0, .int .u32 s.f1, .bool s.f2.f0, .slice A_s s.f2.f1.length c_s] 42 (0, 0)) BK_gs.out hB); clear BK_gs; have BK_gs := nBK; clear nBK; have hc_gs_0 : w3_.cell? ⟨gs, 0, none⟩ = some (.int .i64 s.f0) := (blk_cell BK_gs.out 0).trans rfl; have hf_gs_0 := blk_frozen BK_gs.out 0; have hc_gs_1 : w3_.cell? ⟨gs, 1, none⟩ = some (.int .u32 s.f1) := (blk_cell BK_gs.out 1).trans rfl; have hf_gs_1 := blk_frozen BK_gs.out 1; have hc_gs_2 : w3_.cell? ⟨gs, 2, none⟩ = some (.bool s.f2.f0) := (blk_cell BK_gs.out 2).trans rfl; have hf_gs_2 := blk_frozen BK_gs.out 2; have hc_gs_3 : w3_.cell? ⟨gs, 3, none⟩ = some (.slice A_s s.f2.f1.length c_s) := (blk_cell BK_gs.out 3).trans rfl; have hf_gs_3 := blk_frozen BK_gs.out 3; clear hB) | (go_at_call 13; with_reducible refine (few7_w Xhf.out _ _ _ (Kd.C_below HC_l.out HB.out) HK_l.out).mono ?_; rintro e w4_ ⟨rfl, hB⟩; have nHB := Aside0.mk (HB.out.trans (hB.mono HB.out.size)); clear HB; have HB := nHB; clear nHB; clear hc_gh_0 hf_gh_0; have nBK := Aside0.mk (blk_below (g := gh) (o := .cells #[.slice A_l l.length c_l] 40 (0, 0)) BK_gh.out hB); clear BK_gh; have BK_gh := nBK; clear nBK; have hc_gh_0 : w4_.cell? ⟨gh, 0, none⟩ = some (.slice A_l l.length c_l) := (blk_cell BK_gh.out 0).trans rfl; have hf_gh_0 := blk_frozen BK_gh.out 0; clear hc_gs_0 hf_gs_0 hc_gs_1 hf_gs_1 hc_gs_2 hf_gs_2 hc_gs_3 hf_gs_3; have nBK := Aside0.mk (blk_below (g := gs) (o := .cells #[.int .i64 s.f0, .int .u32 s.f1, .bool s.f2.f0, .slice A_s s.f2.f1.length c_s] 42 (0, 0)) BK_gs.out hB); clear BK_gs; have BK_gs := nBK; clear nBK; have hc_gs_0 : w4_.cell? ⟨gs, 0, none⟩ = some (.int .i64 s.f0) := (blk_cell BK_gs.out 0).trans rfl; have hf_gs_0 := blk_frozen BK_gs.out 0; have hc_gs_1 : w4_.cell? ⟨gs, 1, none⟩ = some (.int .u32 s.f1) := (blk_cell BK_gs.out 1).trans rfl; have hf_gs_1 := blk_frozen BK_gs.out 1; have hc_gs_2 : w4_.cell? ⟨gs, 2, none⟩ = some (.bool s.f2.f0) := (blk_cell BK_gs.out 2).trans rfl; have hf_gs_2 := blk_frozen BK_gs.out 2; have hc_gs_3 : w4_.cell? ⟨gs, 3, none⟩ = some (.slice A_s s.f2.f1.length c_s) := (blk_cell BK_gs.out 3).trans rfl; have hf_gs_3 := blk_frozen BK_gs.out 3; clear hB) | (go_at_call 14; with_reducible refine (right7_w Xhg.out _ _ _ (Kd.C_below HC_l.out HB.out) HK_l.out).mono ?_; rintro e w5_ ⟨rfl, hB⟩; have nHB := Aside0.mk (HB.out.trans (hB.mono HB.out.size)); clear HB; have HB := nHB; clear nHB; clear hc_gh_0 hf_gh_0; have nBK := Aside0.mk (blk_below (g := gh) (o := .cells #[.slice A_l l.length c_l] 40 (0, 0)) BK_gh.out hB); clear BK_gh; have BK_gh := nBK; clear nBK; have hc_gh_0 : w5_.cell? ⟨gh, 0, none⟩ = some (.slice A_l l.length c_l) := (blk_cell BK_gh.out 0).trans rfl; have hf_gh_0 := blk_frozen BK_gh.out 0; clear hc_gs_0 hf_gs_0 hc_gs_1 hf_gs_1 hc_gs_2 hf_gs_2 hc_gs_3 hf_gs_3; have nBK := Aside0.mk (blk_below (g := gs) (o := .cells #[.int .i64 s.f0, .int .u32 s.f1, .bool s.f2.f0, .slice A_s s.f2.f1.length c_s] 42 (0, 0)) BK_gs.out hB); clear BK_gs; have BK_gs := nBK; clear nBK; have hc_gs_0 : w5_.cell? ⟨gs, 0, none⟩ = some (.int .i64 s.f0) := (blk_cell BK_gs.out 0).trans rfl; have hf_gs_0 := blk_frozen BK_gs.out 0; have hc_gs_1 : w5_.cell? ⟨gs, 1, none⟩ = some (.int .u32 s.f1) := (blk_cell BK_gs.out 1).trans rfl; have hf_gs_1 := blk_frozen BK_gs.out 1; have hc_gs_2 : w5_.cell? ⟨gs, 2, none⟩ = some (.bool s.f2.f0) := (blk_cell BK_gs.out 2).trans rfl; have hf_gs_2 := blk_frozen BK_gs.out 2; have hc_gs_3 : w5_.cell? ⟨gs, 3, none⟩ = some (.slice A_s s.f2.f1.length c_s) := (blk_cell BK_gs.out 3).trans rfl; have hf_gs_3 := blk_frozen BK_gs.out 3; clear hB))
  go_ret
  exact ⟨rfl, HB.out⟩
set_option maxHeartbeats 8000000 in
set_option maxRecDepth 100000 in
theorem stays_long {k : Nat} {l : List S42} {s : S42} (hf : stolonref07_Few.f k l = some true) (hg : stolonref07_Right.f k l = some true) (hL : (100 : Int) < (s.f2.f1.length : Int)) (A_l : Option Addr) (c_l : Nat) (A_s : Option Addr) (c_s : Nat) (w : World) (hr : Kd.C k42 w A_l l.length l) (hc : l.length ≤ c_l) (hs : Kd.C (Kd.int .u32) w A_s s.f2.f1.length s.f2.f1) (hcs : s.f2.f1.length ≤ c_s) :
    Calls Try.prog 6 #[.agg #[.slice A_l l.length c_l], .agg #[.int .i64 s.f0, .int .u32 s.f1, .bool s.f2.f0, .slice A_s s.f2.f1.length c_s]] w fun e w' => e = .returned (.bool true) ∧ Below w.heap.size w w' := by
  have hu40 := Try.underlying40
  have hu42 := Try.underlying42
  have hu26 := Try.underlying26
  have HB := Aside0.mk (Below.refl w.heap.size w)
  have HC_l := Aside0.mk hr
  have HK_l := Aside0.mk hc
  have HC_s := Aside0.mk hs
  have HK_s := Aside0.mk hcs
  clear hr hc hs hcs
  have Xhf := Aside0.mk hf
  have Xhg := Aside0.mk hg
  clear hf hg
  go_enter Try.func6, Try.ntmps6
  go_wp2_with (first | ((with_reducible refine gate_dst (N := 2) rfl ?_); (try (refine gate_guard (by rfl) ?_; dsimp only)); refine box_event ?hg (N := 2) ?hd (cs := #[.slice A_l l.length c_l]) (t := 40) ?hr ?_; (case hd => rfl); (case hg => rfl); (case hr => first | (go_simp; done) | (go_simp; rfl)); intro gh hg w1_ hbox hB; have HBo := Aside0.mk HB.out; have nHB := Aside0.mk (HB.out.trans (hB.mono HB.out.size)); clear HB; have HB := nHB; clear nHB; have BK_gh := Aside0.mk hbox; have GE_gh := Aside0.mk (show w.heap.size ≤ gh by rw [hg]; exact HBo.out.size); clear hg hbox hB; have hc_gh_0 : w1_.cell? ⟨gh, 0, none⟩ = some (.slice A_l l.length c_l) := (blk_cell BK_gh.out 0).trans rfl; have hf_gh_0 := blk_frozen BK_gh.out 0; clear HBo) | ((with_reducible refine gate_dst (N := 3) rfl ?_); (try (refine gate_guard (by rfl) ?_; dsimp only)); refine box_event ?hg (N := 3) ?hd (cs := #[.int .i64 s.f0, .int .u32 s.f1, .bool s.f2.f0, .slice A_s s.f2.f1.length c_s]) (t := 42) ?hr ?_; (case hd => rfl); (case hg => rfl); (case hr => first | (go_simp; done) | (go_simp; rfl)); intro gs hg w2_ hbox hB; have HBo := Aside0.mk HB.out; have BK0_gh := Aside0.mk BK_gh.out; have nHB := Aside0.mk (HB.out.trans (hB.mono HB.out.size)); clear HB; have HB := nHB; clear nHB; clear hc_gh_0 hf_gh_0; have nBK := Aside0.mk (blk_below (g := gh) (o := .cells #[.slice A_l l.length c_l] 40 (0, 0)) BK_gh.out hB); clear BK_gh; have BK_gh := nBK; clear nBK; have hc_gh_0 : w2_.cell? ⟨gh, 0, none⟩ = some (.slice A_l l.length c_l) := (blk_cell BK_gh.out 0).trans rfl; have hf_gh_0 := blk_frozen BK_gh.out 0; have BK_gs := Aside0.mk hbox; have GE_gs := Aside0.mk (show w.heap.size ≤ gs by rw [hg]; exact HBo.out.size); have NB_gs_gh := Aside0.mk (show gs ≠ gh by rw [hg]; exact Nat.ne_of_gt (blk_lt (g := gh) (o := .cells #[.slice A_l l.length c_l] 40 (0, 0)) BK0_gh.out)); have NB_gh_gs := Aside0.mk (Ne.symm NB_gs_gh.out); clear BK0_gh; clear hg hbox hB; have hc_gs_0 : w2_.cell? ⟨gs, 0, none⟩ = some (.int .i64 s.f0) := (blk_cell BK_gs.out 0).trans rfl; have hf_gs_0 := blk_frozen BK_gs.out 0; have hc_gs_1 : w2_.cell? ⟨gs, 1, none⟩ = some (.int .u32 s.f1) := (blk_cell BK_gs.out 1).trans rfl; have hf_gs_1 := blk_frozen BK_gs.out 1; have hc_gs_2 : w2_.cell? ⟨gs, 2, none⟩ = some (.bool s.f2.f0) := (blk_cell BK_gs.out 2).trans rfl; have hf_gs_2 := blk_frozen BK_gs.out 2; have hc_gs_3 : w2_.cell? ⟨gs, 3, none⟩ = some (.slice A_s s.f2.f1.length c_s) := (blk_cell BK_gs.out 3).trans rfl; have hf_gs_3 := blk_frozen BK_gs.out 3; clear HBo) | (go_at_call 8; with_reducible refine (stolonlaw07_shown.calls true _ rfl).mono ?_; rintro e w3_ ⟨rfl, hB⟩; have nHB := Aside0.mk (HB.out.trans (hB.mono HB.out.size)); clear HB; have HB := nHB; clear nHB; clear hc_gh_0 hf_gh_0; have nBK := Aside0.mk (blk_below (g := gh) (o := .cells #[.slice A_l l.length c_l] 40 (0, 0)) BK_gh.out hB); clear BK_gh; have BK_gh := nBK; clear nBK; have hc_gh_0 : w3_.cell? ⟨gh, 0, none⟩ = some (.slice A_l l.length c_l) := (blk_cell BK_gh.out 0).trans rfl; have hf_gh_0 := blk_frozen BK_gh.out 0; clear hc_gs_0 hf_gs_0 hc_gs_1 hf_gs_1 hc_gs_2 hf_gs_2 hc_gs_3 hf_gs_3; have nBK := Aside0.mk (blk_below (g := gs) (o := .cells #[.int .i64 s.f0, .int .u32 s.f1, .bool s.f2.f0, .slice A_s s.f2.f1.length c_s] 42 (0, 0)) BK_gs.out hB); clear BK_gs; have BK_gs := nBK; clear nBK; have hc_gs_0 : w3_.cell? ⟨gs, 0, none⟩ = some (.int .i64 s.f0) := (blk_cell BK_gs.out 0).trans rfl; have hf_gs_0 := blk_frozen BK_gs.out 0; have hc_gs_1 : w3_.cell? ⟨gs, 1, none⟩ = some (.int .u32 s.f1) := (blk_cell BK_gs.out 1).trans rfl; have hf_gs_1 := blk_frozen BK_gs.out 1; have hc_gs_2 : w3_.cell? ⟨gs, 2, none⟩ = some (.bool s.f2.f0) := (blk_cell BK_gs.out 2).trans rfl; have hf_gs_2 := blk_frozen BK_gs.out 2; have hc_gs_3 : w3_.cell? ⟨gs, 3, none⟩ = some (.slice A_s s.f2.f1.length c_s) := (blk_cell BK_gs.out 3).trans rfl; have hf_gs_3 := blk_frozen BK_gs.out 3; clear hB) | (go_at_call 13; with_reducible refine (few7_w Xhf.out _ _ _ (Kd.C_below HC_l.out HB.out) HK_l.out).mono ?_; rintro e w4_ ⟨rfl, hB⟩; have nHB := Aside0.mk (HB.out.trans (hB.mono HB.out.size)); clear HB; have HB := nHB; clear nHB; clear hc_gh_0 hf_gh_0; have nBK := Aside0.mk (blk_below (g := gh) (o := .cells #[.slice A_l l.length c_l] 40 (0, 0)) BK_gh.out hB); clear BK_gh; have BK_gh := nBK; clear nBK; have hc_gh_0 : w4_.cell? ⟨gh, 0, none⟩ = some (.slice A_l l.length c_l) := (blk_cell BK_gh.out 0).trans rfl; have hf_gh_0 := blk_frozen BK_gh.out 0; clear hc_gs_0 hf_gs_0 hc_gs_1 hf_gs_1 hc_gs_2 hf_gs_2 hc_gs_3 hf_gs_3; have nBK := Aside0.mk (blk_below (g := gs) (o := .cells #[.int .i64 s.f0, .int .u32 s.f1, .bool s.f2.f0, .slice A_s s.f2.f1.length c_s] 42 (0, 0)) BK_gs.out hB); clear BK_gs; have BK_gs := nBK; clear nBK; have hc_gs_0 : w4_.cell? ⟨gs, 0, none⟩ = some (.int .i64 s.f0) := (blk_cell BK_gs.out 0).trans rfl; have hf_gs_0 := blk_frozen BK_gs.out 0; have hc_gs_1 : w4_.cell? ⟨gs, 1, none⟩ = some (.int .u32 s.f1) := (blk_cell BK_gs.out 1).trans rfl; have hf_gs_1 := blk_frozen BK_gs.out 1; have hc_gs_2 : w4_.cell? ⟨gs, 2, none⟩ = some (.bool s.f2.f0) := (blk_cell BK_gs.out 2).trans rfl; have hf_gs_2 := blk_frozen BK_gs.out 2; have hc_gs_3 : w4_.cell? ⟨gs, 3, none⟩ = some (.slice A_s s.f2.f1.length c_s) := (blk_cell BK_gs.out 3).trans rfl; have hf_gs_3 := blk_frozen BK_gs.out 3; clear hB) | (go_at_call 14; with_reducible refine (right7_w Xhg.out _ _ _ (Kd.C_below HC_l.out HB.out) HK_l.out).mono ?_; rintro e w5_ ⟨rfl, hB⟩; have nHB := Aside0.mk (HB.out.trans (hB.mono HB.out.size)); clear HB; have HB := nHB; clear nHB; clear hc_gh_0 hf_gh_0; have nBK := Aside0.mk (blk_below (g := gh) (o := .cells #[.slice A_l l.length c_l] 40 (0, 0)) BK_gh.out hB); clear BK_gh; have BK_gh := nBK; clear nBK; have hc_gh_0 : w5_.cell? ⟨gh, 0, none⟩ = some (.slice A_l l.length c_l) := (blk_cell BK_gh.out 0).trans rfl; have hf_gh_0 := blk_frozen BK_gh.out 0; clear hc_gs_0 hf_gs_0 hc_gs_1 hf_gs_1 hc_gs_2 hf_gs_2 hc_gs_3 hf_gs_3; have nBK := Aside0.mk (blk_below (g := gs) (o := .cells #[.int .i64 s.f0, .int .u32 s.f1, .bool s.f2.f0, .slice A_s s.f2.f1.length c_s] 42 (0, 0)) BK_gs.out hB); clear BK_gs; have BK_gs := nBK; clear nBK; have hc_gs_0 : w5_.cell? ⟨gs, 0, none⟩ = some (.int .i64 s.f0) := (blk_cell BK_gs.out 0).trans rfl; have hf_gs_0 := blk_frozen BK_gs.out 0; have hc_gs_1 : w5_.cell? ⟨gs, 1, none⟩ = some (.int .u32 s.f1) := (blk_cell BK_gs.out 1).trans rfl; have hf_gs_1 := blk_frozen BK_gs.out 1; have hc_gs_2 : w5_.cell? ⟨gs, 2, none⟩ = some (.bool s.f2.f0) := (blk_cell BK_gs.out 2).trans rfl; have hf_gs_2 := blk_frozen BK_gs.out 2; have hc_gs_3 : w5_.cell? ⟨gs, 3, none⟩ = some (.slice A_s s.f2.f1.length c_s) := (blk_cell BK_gs.out 3).trans rfl; have hf_gs_3 := blk_frozen BK_gs.out 3; clear hB))
  go_ret
  exact ⟨rfl, HB.out⟩
set_option maxHeartbeats 8000000 in
set_option maxRecDepth 100000 in
theorem stays_err {k : Nat} {l : List S42} {s : S42} (hf : stolonref07_Few.f k l = some true) (hg : stolonref07_Right.f k l = some true) (hL : ¬ (100 : Int) < (s.f2.f1.length : Int)) (hl : HOk l) (hm : s.f2.f1.length ≤ 1000000) {la : List S42} (h1 : putL l s = la) {n : Nat} (h2 : (putR l s).length = n) {e : Int} (h3 : putE l s = e) (hs1 : stolonref07_Same.f k la l = some true) (hz : n = 0) (hne : (e == 0) = false) (A_l : Option Addr) (c_l : Nat) (A_s : Option Addr) (c_s : Nat) (w : World) (hr : Kd.C k42 w A_l l.length l) (hc : l.length ≤ c_l) (hs : Kd.C (Kd.int .u32) w A_s s.f2.f1.length s.f2.f1) (hcs : s.f2.f1.length ≤ c_s) :
    Calls Try.prog 6 #[.agg #[.slice A_l l.length c_l], .agg #[.int .i64 s.f0, .int .u32 s.f1, .bool s.f2.f0, .slice A_s s.f2.f1.length c_s]] w fun e w' => e = .returned (.bool true) ∧ Below w.heap.size w w' := by
  have hu40 := Try.underlying40
  have hu42 := Try.underlying42
  have hu26 := Try.underlying26
  have HB := Aside0.mk (Below.refl w.heap.size w)
  have HC_l := Aside0.mk hr
  have HK_l := Aside0.mk hc
  have HC_s := Aside0.mk hs
  have HK_s := Aside0.mk hcs
  clear hr hc hs hcs
  have Xhf := Aside0.mk hf
  have Xhg := Aside0.mk hg
  have Xhl := Aside0.mk hl
  have Xhm := Aside0.mk hm
  have Xh1 := Aside0.mk h1
  have Xh2 := Aside0.mk h2
  have Xh3 := Aside0.mk h3
  have Xhs1 := Aside0.mk hs1
  clear hf hg hl hm h1 h2 h3 hs1
  subst hz
  go_enter Try.func6, Try.ntmps6
  go_upto_region 5 with (first | ((with_reducible refine gate_dst (N := 2) rfl ?_); (try (refine gate_guard (by rfl) ?_; dsimp only)); refine box_event ?hg (N := 2) ?hd (cs := #[.slice A_l l.length c_l]) (t := 40) ?hr ?_; (case hd => rfl); (case hg => rfl); (case hr => first | (go_simp; done) | (go_simp; rfl)); intro gh hg w1_ hbox hB; have HBo := Aside0.mk HB.out; have nHB := Aside0.mk (HB.out.trans (hB.mono HB.out.size)); clear HB; have HB := nHB; clear nHB; have BK_gh := Aside0.mk hbox; have GE_gh := Aside0.mk (show w.heap.size ≤ gh by rw [hg]; exact HBo.out.size); clear hg hbox hB; have hc_gh_0 : w1_.cell? ⟨gh, 0, none⟩ = some (.slice A_l l.length c_l) := (blk_cell BK_gh.out 0).trans rfl; have hf_gh_0 := blk_frozen BK_gh.out 0; clear HBo) | ((with_reducible refine gate_dst (N := 3) rfl ?_); (try (refine gate_guard (by rfl) ?_; dsimp only)); refine box_event ?hg (N := 3) ?hd (cs := #[.int .i64 s.f0, .int .u32 s.f1, .bool s.f2.f0, .slice A_s s.f2.f1.length c_s]) (t := 42) ?hr ?_; (case hd => rfl); (case hg => rfl); (case hr => first | (go_simp; done) | (go_simp; rfl)); intro gs hg w2_ hbox hB; have HBo := Aside0.mk HB.out; have BK0_gh := Aside0.mk BK_gh.out; have nHB := Aside0.mk (HB.out.trans (hB.mono HB.out.size)); clear HB; have HB := nHB; clear nHB; clear hc_gh_0 hf_gh_0; have nBK := Aside0.mk (blk_below (g := gh) (o := .cells #[.slice A_l l.length c_l] 40 (0, 0)) BK_gh.out hB); clear BK_gh; have BK_gh := nBK; clear nBK; have hc_gh_0 : w2_.cell? ⟨gh, 0, none⟩ = some (.slice A_l l.length c_l) := (blk_cell BK_gh.out 0).trans rfl; have hf_gh_0 := blk_frozen BK_gh.out 0; have BK_gs := Aside0.mk hbox; have GE_gs := Aside0.mk (show w.heap.size ≤ gs by rw [hg]; exact HBo.out.size); have NB_gs_gh := Aside0.mk (show gs ≠ gh by rw [hg]; exact Nat.ne_of_gt (blk_lt (g := gh) (o := .cells #[.slice A_l l.length c_l] 40 (0, 0)) BK0_gh.out)); have NB_gh_gs := Aside0.mk (Ne.symm NB_gs_gh.out); clear BK0_gh; clear hg hbox hB; have hc_gs_0 : w2_.cell? ⟨gs, 0, none⟩ = some (.int .i64 s.f0) := (blk_cell BK_gs.out 0).trans rfl; have hf_gs_0 := blk_frozen BK_gs.out 0; have hc_gs_1 : w2_.cell? ⟨gs, 1, none⟩ = some (.int .u32 s.f1) := (blk_cell BK_gs.out 1).trans rfl; have hf_gs_1 := blk_frozen BK_gs.out 1; have hc_gs_2 : w2_.cell? ⟨gs, 2, none⟩ = some (.bool s.f2.f0) := (blk_cell BK_gs.out 2).trans rfl; have hf_gs_2 := blk_frozen BK_gs.out 2; have hc_gs_3 : w2_.cell? ⟨gs, 3, none⟩ = some (.slice A_s s.f2.f1.length c_s) := (blk_cell BK_gs.out 3).trans rfl; have hf_gs_3 := blk_frozen BK_gs.out 3; clear HBo) | (go_at_call 8; with_reducible refine (stolonlaw07_shown.calls true _ rfl).mono ?_; rintro e w3_ ⟨rfl, hB⟩; have nHB := Aside0.mk (HB.out.trans (hB.mono HB.out.size)); clear HB; have HB := nHB; clear nHB; clear hc_gh_0 hf_gh_0; have nBK := Aside0.mk (blk_below (g := gh) (o := .cells #[.slice A_l l.length c_l] 40 (0, 0)) BK_gh.out hB); clear BK_gh; have BK_gh := nBK; clear nBK; have hc_gh_0 : w3_.cell? ⟨gh, 0, none⟩ = some (.slice A_l l.length c_l) := (blk_cell BK_gh.out 0).trans rfl; have hf_gh_0 := blk_frozen BK_gh.out 0; clear hc_gs_0 hf_gs_0 hc_gs_1 hf_gs_1 hc_gs_2 hf_gs_2 hc_gs_3 hf_gs_3; have nBK := Aside0.mk (blk_below (g := gs) (o := .cells #[.int .i64 s.f0, .int .u32 s.f1, .bool s.f2.f0, .slice A_s s.f2.f1.length c_s] 42 (0, 0)) BK_gs.out hB); clear BK_gs; have BK_gs := nBK; clear nBK; have hc_gs_0 : w3_.cell? ⟨gs, 0, none⟩ = some (.int .i64 s.f0) := (blk_cell BK_gs.out 0).trans rfl; have hf_gs_0 := blk_frozen BK_gs.out 0; have hc_gs_1 : w3_.cell? ⟨gs, 1, none⟩ = some (.int .u32 s.f1) := (blk_cell BK_gs.out 1).trans rfl; have hf_gs_1 := blk_frozen BK_gs.out 1; have hc_gs_2 : w3_.cell? ⟨gs, 2, none⟩ = some (.bool s.f2.f0) := (blk_cell BK_gs.out 2).trans rfl; have hf_gs_2 := blk_frozen BK_gs.out 2; have hc_gs_3 : w3_.cell? ⟨gs, 3, none⟩ = some (.slice A_s s.f2.f1.length c_s) := (blk_cell BK_gs.out 3).trans rfl; have hf_gs_3 := blk_frozen BK_gs.out 3; clear hB) | (go_at_call 13; with_reducible refine (few7_w Xhf.out _ _ _ (Kd.C_below HC_l.out HB.out) HK_l.out).mono ?_; rintro e w4_ ⟨rfl, hB⟩; have nHB := Aside0.mk (HB.out.trans (hB.mono HB.out.size)); clear HB; have HB := nHB; clear nHB; clear hc_gh_0 hf_gh_0; have nBK := Aside0.mk (blk_below (g := gh) (o := .cells #[.slice A_l l.length c_l] 40 (0, 0)) BK_gh.out hB); clear BK_gh; have BK_gh := nBK; clear nBK; have hc_gh_0 : w4_.cell? ⟨gh, 0, none⟩ = some (.slice A_l l.length c_l) := (blk_cell BK_gh.out 0).trans rfl; have hf_gh_0 := blk_frozen BK_gh.out 0; clear hc_gs_0 hf_gs_0 hc_gs_1 hf_gs_1 hc_gs_2 hf_gs_2 hc_gs_3 hf_gs_3; have nBK := Aside0.mk (blk_below (g := gs) (o := .cells #[.int .i64 s.f0, .int .u32 s.f1, .bool s.f2.f0, .slice A_s s.f2.f1.length c_s] 42 (0, 0)) BK_gs.out hB); clear BK_gs; have BK_gs := nBK; clear nBK; have hc_gs_0 : w4_.cell? ⟨gs, 0, none⟩ = some (.int .i64 s.f0) := (blk_cell BK_gs.out 0).trans rfl; have hf_gs_0 := blk_frozen BK_gs.out 0; have hc_gs_1 : w4_.cell? ⟨gs, 1, none⟩ = some (.int .u32 s.f1) := (blk_cell BK_gs.out 1).trans rfl; have hf_gs_1 := blk_frozen BK_gs.out 1; have hc_gs_2 : w4_.cell? ⟨gs, 2, none⟩ = some (.bool s.f2.f0) := (blk_cell BK_gs.out 2).trans rfl; have hf_gs_2 := blk_frozen BK_gs.out 2; have hc_gs_3 : w4_.cell? ⟨gs, 3, none⟩ = some (.slice A_s s.f2.f1.length c_s) := (blk_cell BK_gs.out 3).trans rfl; have hf_gs_3 := blk_frozen BK_gs.out 3; clear hB) | (go_at_call 14; with_reducible refine (right7_w Xhg.out _ _ _ (Kd.C_below HC_l.out HB.out) HK_l.out).mono ?_; rintro e w5_ ⟨rfl, hB⟩; have nHB := Aside0.mk (HB.out.trans (hB.mono HB.out.size)); clear HB; have HB := nHB; clear nHB; clear hc_gh_0 hf_gh_0; have nBK := Aside0.mk (blk_below (g := gh) (o := .cells #[.slice A_l l.length c_l] 40 (0, 0)) BK_gh.out hB); clear BK_gh; have BK_gh := nBK; clear nBK; have hc_gh_0 : w5_.cell? ⟨gh, 0, none⟩ = some (.slice A_l l.length c_l) := (blk_cell BK_gh.out 0).trans rfl; have hf_gh_0 := blk_frozen BK_gh.out 0; clear hc_gs_0 hf_gs_0 hc_gs_1 hf_gs_1 hc_gs_2 hf_gs_2 hc_gs_3 hf_gs_3; have nBK := Aside0.mk (blk_below (g := gs) (o := .cells #[.int .i64 s.f0, .int .u32 s.f1, .bool s.f2.f0, .slice A_s s.f2.f1.length c_s] 42 (0, 0)) BK_gs.out hB); clear BK_gs; have BK_gs := nBK; clear nBK; have hc_gs_0 : w5_.cell? ⟨gs, 0, none⟩ = some (.int .i64 s.f0) := (blk_cell BK_gs.out 0).trans rfl; have hf_gs_0 := blk_frozen BK_gs.out 0; have hc_gs_1 : w5_.cell? ⟨gs, 1, none⟩ = some (.int .u32 s.f1) := (blk_cell BK_gs.out 1).trans rfl; have hf_gs_1 := blk_frozen BK_gs.out 1; have hc_gs_2 : w5_.cell? ⟨gs, 2, none⟩ = some (.bool s.f2.f0) := (blk_cell BK_gs.out 2).trans rfl; have hf_gs_2 := blk_frozen BK_gs.out 2; have hc_gs_3 : w5_.cell? ⟨gs, 3, none⟩ = some (.slice A_s s.f2.f1.length c_s) := (blk_cell BK_gs.out 3).trans rfl; have hf_gs_3 := blk_frozen BK_gs.out 3; clear hB) | (go_at_call 15; (with_reducible refine (put_view Xhl.out Xhm.out Xh1.out Xh2.out Xh3.out _ _ _ _ _ (Kd.C_below HC_l.out HB.out) HK_l.out (Kd.C_below HC_s.out HB.out) HK_s.out).mono ?_); rintro e_ w6_ ⟨A_a, c_a, A_ar, c_ar, rfl, hC, hK, hB⟩; have nHB := Aside0.mk (HB.out.trans (hB.mono HB.out.size)); clear HB; have HB := nHB; clear nHB; clear hc_gh_0 hf_gh_0; have nBK := Aside0.mk (blk_below (g := gh) (o := .cells #[.slice A_l l.length c_l] 40 (0, 0)) BK_gh.out hB); clear BK_gh; have BK_gh := nBK; clear nBK; have hc_gh_0 : w6_.cell? ⟨gh, 0, none⟩ = some (.slice A_l l.length c_l) := (blk_cell BK_gh.out 0).trans rfl; have hf_gh_0 := blk_frozen BK_gh.out 0; clear hc_gs_0 hf_gs_0 hc_gs_1 hf_gs_1 hc_gs_2 hf_gs_2 hc_gs_3 hf_gs_3; have nBK := Aside0.mk (blk_below (g := gs) (o := .cells #[.int .i64 s.f0, .int .u32 s.f1, .bool s.f2.f0, .slice A_s s.f2.f1.length c_s] 42 (0, 0)) BK_gs.out hB); clear BK_gs; have BK_gs := nBK; clear nBK; have hc_gs_0 : w6_.cell? ⟨gs, 0, none⟩ = some (.int .i64 s.f0) := (blk_cell BK_gs.out 0).trans rfl; have hf_gs_0 := blk_frozen BK_gs.out 0; have hc_gs_1 : w6_.cell? ⟨gs, 1, none⟩ = some (.int .u32 s.f1) := (blk_cell BK_gs.out 1).trans rfl; have hf_gs_1 := blk_frozen BK_gs.out 1; have hc_gs_2 : w6_.cell? ⟨gs, 2, none⟩ = some (.bool s.f2.f0) := (blk_cell BK_gs.out 2).trans rfl; have hf_gs_2 := blk_frozen BK_gs.out 2; have hc_gs_3 : w6_.cell? ⟨gs, 3, none⟩ = some (.slice A_s s.f2.f1.length c_s) := (blk_cell BK_gs.out 3).trans rfl; have hf_gs_3 := blk_frozen BK_gs.out 3; have HC_a := Aside0.mk hC; have HK_a := Aside0.mk hK; clear hC hK hB) | ((with_reducible refine gate_dst (N := 6) rfl ?_); (try (refine gate_guard (by rfl) ?_; dsimp only)); refine box_event ?hg (N := 6) ?hd (cs := #[.slice none 0 0]) (t := 40) ?hr ?_; (case hd => rfl); (case hg => rfl); (case hr => first | (go_simp; done) | (go_simp; rfl)); intro ga hg w7_ hbox hB0; have hG := Aside0.mk (show w6_.heap.size ≤ ga from Nat.le_of_eq hg.symm); clear hg; have hBX := Aside0.mk hbox; have hB1 := Aside0.mk hB0; clear hB0; have hc_ga_0 : w7_.cell? ⟨ga, 0, none⟩ = some (.slice none 0 0) := (blk_cell hbox 0).trans rfl; have hf_ga_0 := blk_frozen hbox 0; clear hbox))
  have hB : Below w6_.heap.size w6_ (w7_.setCell ⟨ga, 0, none⟩ (.slice A_a la.length c_a)) := (below_set hB1.out hG.out)
  have hBN : (w7_.setCell ⟨ga, 0, none⟩ (.slice A_a la.length c_a)).heap[ga]? = some (.cells #[.slice A_a la.length c_a] 40 (0, 0)) := (blk_put (cs := #[.slice none 0 0]) hBX.out 0 (.slice A_a la.length c_a) rfl)
  clear hBX hB1
  clear hc_ga_0 hf_ga_0
  generalize (w7_.setCell ⟨ga, 0, none⟩ (.slice A_a la.length c_a)) = w8_ at hB hBN ⊢
  have NB_ga_gh := Aside0.mk (show ga ≠ gh from Nat.ne_of_gt (Nat.lt_of_lt_of_le (blk_lt (g := gh) (o := .cells #[.slice A_l l.length c_l] 40 (0, 0)) BK_gh.out) hG.out))
  have NB_gh_ga := Aside0.mk (Ne.symm NB_ga_gh.out)
  have NB_ga_gs := Aside0.mk (show ga ≠ gs from Nat.ne_of_gt (Nat.lt_of_lt_of_le (blk_lt (g := gs) (o := .cells #[.int .i64 s.f0, .int .u32 s.f1, .bool s.f2.f0, .slice A_s s.f2.f1.length c_s] 42 (0, 0)) BK_gs.out) hG.out))
  have NB_gs_ga := Aside0.mk (Ne.symm NB_ga_gs.out)
  have HBo := Aside0.mk HB.out
  have nHB := Aside0.mk (HB.out.trans (hB.mono HB.out.size))
  clear HB
  have HB := nHB
  clear nHB
  clear hc_gh_0 hf_gh_0
  have nBK := Aside0.mk (blk_below (g := gh) (o := .cells #[.slice A_l l.length c_l] 40 (0, 0)) BK_gh.out hB)
  clear BK_gh
  have BK_gh := nBK
  clear nBK
  have hc_gh_0 : w8_.cell? ⟨gh, 0, none⟩ = some (.slice A_l l.length c_l) := (blk_cell BK_gh.out 0).trans rfl
  have hf_gh_0 := blk_frozen BK_gh.out 0
  clear hc_gs_0 hf_gs_0 hc_gs_1 hf_gs_1 hc_gs_2 hf_gs_2 hc_gs_3 hf_gs_3
  have nBK := Aside0.mk (blk_below (g := gs) (o := .cells #[.int .i64 s.f0, .int .u32 s.f1, .bool s.f2.f0, .slice A_s s.f2.f1.length c_s] 42 (0, 0)) BK_gs.out hB)
  clear BK_gs
  have BK_gs := nBK
  clear nBK
  have hc_gs_0 : w8_.cell? ⟨gs, 0, none⟩ = some (.int .i64 s.f0) := (blk_cell BK_gs.out 0).trans rfl
  have hf_gs_0 := blk_frozen BK_gs.out 0
  have hc_gs_1 : w8_.cell? ⟨gs, 1, none⟩ = some (.int .u32 s.f1) := (blk_cell BK_gs.out 1).trans rfl
  have hf_gs_1 := blk_frozen BK_gs.out 1
  have hc_gs_2 : w8_.cell? ⟨gs, 2, none⟩ = some (.bool s.f2.f0) := (blk_cell BK_gs.out 2).trans rfl
  have hf_gs_2 := blk_frozen BK_gs.out 2
  have hc_gs_3 : w8_.cell? ⟨gs, 3, none⟩ = some (.slice A_s s.f2.f1.length c_s) := (blk_cell BK_gs.out 3).trans rfl
  have hf_gs_3 := blk_frozen BK_gs.out 3
  have nHC := Aside0.mk (Kd.C_below HC_a.out hB)
  clear HC_a
  have HC_a := nHC
  clear nHC
  have BK_ga := Aside0.mk hBN
  have GE_ga := Aside0.mk (Nat.le_trans HBo.out.size hG.out)
  clear HBo hG hBN hB
  have hc_ga_0 : w8_.cell? ⟨ga, 0, none⟩ = some (.slice A_a la.length c_a) := (blk_cell BK_ga.out 0).trans rfl
  have hf_ga_0 := blk_frozen BK_ga.out 0
  go_wp2_with (first | (go_at_call 16; with_reducible refine (same7_w Xhs1.out _ _ _ _ _ HC_a.out HK_a.out (Kd.C_below HC_l.out HB.out) HK_l.out).mono ?_; rintro e w9_ ⟨rfl, hB⟩; have nHB := Aside0.mk (HB.out.trans (hB.mono HB.out.size)); clear HB; have HB := nHB; clear nHB; clear hc_gh_0 hf_gh_0; have nBK := Aside0.mk (blk_below (g := gh) (o := .cells #[.slice A_l l.length c_l] 40 (0, 0)) BK_gh.out hB); clear BK_gh; have BK_gh := nBK; clear nBK; have hc_gh_0 : w9_.cell? ⟨gh, 0, none⟩ = some (.slice A_l l.length c_l) := (blk_cell BK_gh.out 0).trans rfl; have hf_gh_0 := blk_frozen BK_gh.out 0; clear hc_gs_0 hf_gs_0 hc_gs_1 hf_gs_1 hc_gs_2 hf_gs_2 hc_gs_3 hf_gs_3; have nBK := Aside0.mk (blk_below (g := gs) (o := .cells #[.int .i64 s.f0, .int .u32 s.f1, .bool s.f2.f0, .slice A_s s.f2.f1.length c_s] 42 (0, 0)) BK_gs.out hB); clear BK_gs; have BK_gs := nBK; clear nBK; have hc_gs_0 : w9_.cell? ⟨gs, 0, none⟩ = some (.int .i64 s.f0) := (blk_cell BK_gs.out 0).trans rfl; have hf_gs_0 := blk_frozen BK_gs.out 0; have hc_gs_1 : w9_.cell? ⟨gs, 1, none⟩ = some (.int .u32 s.f1) := (blk_cell BK_gs.out 1).trans rfl; have hf_gs_1 := blk_frozen BK_gs.out 1; have hc_gs_2 : w9_.cell? ⟨gs, 2, none⟩ = some (.bool s.f2.f0) := (blk_cell BK_gs.out 2).trans rfl; have hf_gs_2 := blk_frozen BK_gs.out 2; have hc_gs_3 : w9_.cell? ⟨gs, 3, none⟩ = some (.slice A_s s.f2.f1.length c_s) := (blk_cell BK_gs.out 3).trans rfl; have hf_gs_3 := blk_frozen BK_gs.out 3; clear hc_ga_0 hf_ga_0; have nBK := Aside0.mk (blk_below (g := ga) (o := .cells #[.slice A_a la.length c_a] 40 (0, 0)) BK_ga.out hB); clear BK_ga; have BK_ga := nBK; clear nBK; have hc_ga_0 : w9_.cell? ⟨ga, 0, none⟩ = some (.slice A_a la.length c_a) := (blk_cell BK_ga.out 0).trans rfl; have hf_ga_0 := blk_frozen BK_ga.out 0; have nHC := Aside0.mk (Kd.C_below HC_a.out hB); clear HC_a; have HC_a := nHC; clear nHC; clear hB))
  go_ret
  exact ⟨rfl, HB.out⟩
set_option maxHeartbeats 8000000 in
set_option maxRecDepth 100000 in
theorem stays_main {k : Nat} {l : List S42} {s : S42} (hf : stolonref07_Few.f k l = some true) (hg : stolonref07_Right.f k l = some true) (hL : ¬ (100 : Int) < (s.f2.f1.length : Int)) (hl : HOk l) (hm : s.f2.f1.length ≤ 1000000) {la : List S42} (h1 : putL l s = la) {n : Nat} (h2 : (putR l s).length = n) (h3 : putE l s = 0) (hla : HOk la) (h4 : putL la s = la) (h5 : (putR la s).length = 0) (h6 : putE la s = 0) {lc : List S42} (h7 : dropL la s.f0 = lc) {nc : Nat} (h8 : (dropR la s.f0).length = nc) (h9 : dropE la s.f0 = 0) (hra : stolonref07_Right.f k la = some true) (hsa : stolonref07_Same.f k la la = some true) (hrc : stolonref07_Right.f k lc = some true) {bw : Bool} (hbw : hasS l s.f0 = bw) (hsc : bw = false → stolonref07_Same.f k lc l = some true) (hll : l.length ≤ 1000000) (A_l : Option Addr) (c_l : Nat) (A_s : Option Addr) (c_s : Nat) (w : World) (hr : Kd.C k42 w A_l l.length l) (hc : l.length ≤ c_l) (hs : Kd.C (Kd.int .u32) w A_s s.f2.f1.length s.f2.f1) (hcs : s.f2.f1.length ≤ c_s) :
    Calls Try.prog 6 #[.agg #[.slice A_l l.length c_l], .agg #[.int .i64 s.f0, .int .u32 s.f1, .bool s.f2.f0, .slice A_s s.f2.f1.length c_s]] w fun e w' => e = .returned (.bool true) ∧ Below w.heap.size w w' := by
  have hu40 := Try.underlying40
  have hu42 := Try.underlying42
  have hu26 := Try.underlying26
  have HB := Aside0.mk (Below.refl w.heap.size w)
  have HC_l := Aside0.mk hr
  have HK_l := Aside0.mk hc
  have HC_s := Aside0.mk hs
  have HK_s := Aside0.mk hcs
  clear hr hc hs hcs
  have Xhf := Aside0.mk hf
  have Xhg := Aside0.mk hg
  have Xhl := Aside0.mk hl
  have Xhm := Aside0.mk hm
  have Xh1 := Aside0.mk h1
  have Xh2 := Aside0.mk h2
  have Xh3 := Aside0.mk h3
  have Xhla := Aside0.mk hla
  have Xh4 := Aside0.mk h4
  have Xh5 := Aside0.mk h5
  have Xh6 := Aside0.mk h6
  have Xh7 := Aside0.mk h7
  have Xh8 := Aside0.mk h8
  have Xh9 := Aside0.mk h9
  have Xhra := Aside0.mk hra
  have Xhsa := Aside0.mk hsa
  have Xhrc := Aside0.mk hrc
  have Xhbw := Aside0.mk hbw
  have Xhsc := Aside0.mk hsc
  have Xhll := Aside0.mk hll
  clear hf hg hl hm h1 h2 h3 hla h4 h5 h6 h7 h8 h9 hra hsa hrc hbw hsc hll
  go_enter Try.func6, Try.ntmps6
  go_upto_region 5 with (first | ((with_reducible refine gate_dst (N := 2) rfl ?_); (try (refine gate_guard (by rfl) ?_; dsimp only)); refine box_event ?hg (N := 2) ?hd (cs := #[.slice A_l l.length c_l]) (t := 40) ?hr ?_; (case hd => rfl); (case hg => rfl); (case hr => first | (go_simp; done) | (go_simp; rfl)); intro gh hg w1_ hbox hB; have HBo := Aside0.mk HB.out; have nHB := Aside0.mk (HB.out.trans (hB.mono HB.out.size)); clear HB; have HB := nHB; clear nHB; have BK_gh := Aside0.mk hbox; have GE_gh := Aside0.mk (show w.heap.size ≤ gh by rw [hg]; exact HBo.out.size); clear hg hbox hB; have hc_gh_0 : w1_.cell? ⟨gh, 0, none⟩ = some (.slice A_l l.length c_l) := (blk_cell BK_gh.out 0).trans rfl; have hf_gh_0 := blk_frozen BK_gh.out 0; clear HBo) | ((with_reducible refine gate_dst (N := 3) rfl ?_); (try (refine gate_guard (by rfl) ?_; dsimp only)); refine box_event ?hg (N := 3) ?hd (cs := #[.int .i64 s.f0, .int .u32 s.f1, .bool s.f2.f0, .slice A_s s.f2.f1.length c_s]) (t := 42) ?hr ?_; (case hd => rfl); (case hg => rfl); (case hr => first | (go_simp; done) | (go_simp; rfl)); intro gs hg w2_ hbox hB; have HBo := Aside0.mk HB.out; have BK0_gh := Aside0.mk BK_gh.out; have nHB := Aside0.mk (HB.out.trans (hB.mono HB.out.size)); clear HB; have HB := nHB; clear nHB; clear hc_gh_0 hf_gh_0; have nBK := Aside0.mk (blk_below (g := gh) (o := .cells #[.slice A_l l.length c_l] 40 (0, 0)) BK_gh.out hB); clear BK_gh; have BK_gh := nBK; clear nBK; have hc_gh_0 : w2_.cell? ⟨gh, 0, none⟩ = some (.slice A_l l.length c_l) := (blk_cell BK_gh.out 0).trans rfl; have hf_gh_0 := blk_frozen BK_gh.out 0; have BK_gs := Aside0.mk hbox; have GE_gs := Aside0.mk (show w.heap.size ≤ gs by rw [hg]; exact HBo.out.size); have NB_gs_gh := Aside0.mk (show gs ≠ gh by rw [hg]; exact Nat.ne_of_gt (blk_lt (g := gh) (o := .cells #[.slice A_l l.length c_l] 40 (0, 0)) BK0_gh.out)); have NB_gh_gs := Aside0.mk (Ne.symm NB_gs_gh.out); clear BK0_gh; clear hg hbox hB; have hc_gs_0 : w2_.cell? ⟨gs, 0, none⟩ = some (.int .i64 s.f0) := (blk_cell BK_gs.out 0).trans rfl; have hf_gs_0 := blk_frozen BK_gs.out 0; have hc_gs_1 : w2_.cell? ⟨gs, 1, none⟩ = some (.int .u32 s.f1) := (blk_cell BK_gs.out 1).trans rfl; have hf_gs_1 := blk_frozen BK_gs.out 1; have hc_gs_2 : w2_.cell? ⟨gs, 2, none⟩ = some (.bool s.f2.f0) := (blk_cell BK_gs.out 2).trans rfl; have hf_gs_2 := blk_frozen BK_gs.out 2; have hc_gs_3 : w2_.cell? ⟨gs, 3, none⟩ = some (.slice A_s s.f2.f1.length c_s) := (blk_cell BK_gs.out 3).trans rfl; have hf_gs_3 := blk_frozen BK_gs.out 3; clear HBo) | (go_at_call 8; with_reducible refine (stolonlaw07_shown.calls true _ rfl).mono ?_; rintro e w3_ ⟨rfl, hB⟩; have nHB := Aside0.mk (HB.out.trans (hB.mono HB.out.size)); clear HB; have HB := nHB; clear nHB; clear hc_gh_0 hf_gh_0; have nBK := Aside0.mk (blk_below (g := gh) (o := .cells #[.slice A_l l.length c_l] 40 (0, 0)) BK_gh.out hB); clear BK_gh; have BK_gh := nBK; clear nBK; have hc_gh_0 : w3_.cell? ⟨gh, 0, none⟩ = some (.slice A_l l.length c_l) := (blk_cell BK_gh.out 0).trans rfl; have hf_gh_0 := blk_frozen BK_gh.out 0; clear hc_gs_0 hf_gs_0 hc_gs_1 hf_gs_1 hc_gs_2 hf_gs_2 hc_gs_3 hf_gs_3; have nBK := Aside0.mk (blk_below (g := gs) (o := .cells #[.int .i64 s.f0, .int .u32 s.f1, .bool s.f2.f0, .slice A_s s.f2.f1.length c_s] 42 (0, 0)) BK_gs.out hB); clear BK_gs; have BK_gs := nBK; clear nBK; have hc_gs_0 : w3_.cell? ⟨gs, 0, none⟩ = some (.int .i64 s.f0) := (blk_cell BK_gs.out 0).trans rfl; have hf_gs_0 := blk_frozen BK_gs.out 0; have hc_gs_1 : w3_.cell? ⟨gs, 1, none⟩ = some (.int .u32 s.f1) := (blk_cell BK_gs.out 1).trans rfl; have hf_gs_1 := blk_frozen BK_gs.out 1; have hc_gs_2 : w3_.cell? ⟨gs, 2, none⟩ = some (.bool s.f2.f0) := (blk_cell BK_gs.out 2).trans rfl; have hf_gs_2 := blk_frozen BK_gs.out 2; have hc_gs_3 : w3_.cell? ⟨gs, 3, none⟩ = some (.slice A_s s.f2.f1.length c_s) := (blk_cell BK_gs.out 3).trans rfl; have hf_gs_3 := blk_frozen BK_gs.out 3; clear hB) | (go_at_call 13; with_reducible refine (few7_w Xhf.out _ _ _ (Kd.C_below HC_l.out HB.out) HK_l.out).mono ?_; rintro e w4_ ⟨rfl, hB⟩; have nHB := Aside0.mk (HB.out.trans (hB.mono HB.out.size)); clear HB; have HB := nHB; clear nHB; clear hc_gh_0 hf_gh_0; have nBK := Aside0.mk (blk_below (g := gh) (o := .cells #[.slice A_l l.length c_l] 40 (0, 0)) BK_gh.out hB); clear BK_gh; have BK_gh := nBK; clear nBK; have hc_gh_0 : w4_.cell? ⟨gh, 0, none⟩ = some (.slice A_l l.length c_l) := (blk_cell BK_gh.out 0).trans rfl; have hf_gh_0 := blk_frozen BK_gh.out 0; clear hc_gs_0 hf_gs_0 hc_gs_1 hf_gs_1 hc_gs_2 hf_gs_2 hc_gs_3 hf_gs_3; have nBK := Aside0.mk (blk_below (g := gs) (o := .cells #[.int .i64 s.f0, .int .u32 s.f1, .bool s.f2.f0, .slice A_s s.f2.f1.length c_s] 42 (0, 0)) BK_gs.out hB); clear BK_gs; have BK_gs := nBK; clear nBK; have hc_gs_0 : w4_.cell? ⟨gs, 0, none⟩ = some (.int .i64 s.f0) := (blk_cell BK_gs.out 0).trans rfl; have hf_gs_0 := blk_frozen BK_gs.out 0; have hc_gs_1 : w4_.cell? ⟨gs, 1, none⟩ = some (.int .u32 s.f1) := (blk_cell BK_gs.out 1).trans rfl; have hf_gs_1 := blk_frozen BK_gs.out 1; have hc_gs_2 : w4_.cell? ⟨gs, 2, none⟩ = some (.bool s.f2.f0) := (blk_cell BK_gs.out 2).trans rfl; have hf_gs_2 := blk_frozen BK_gs.out 2; have hc_gs_3 : w4_.cell? ⟨gs, 3, none⟩ = some (.slice A_s s.f2.f1.length c_s) := (blk_cell BK_gs.out 3).trans rfl; have hf_gs_3 := blk_frozen BK_gs.out 3; clear hB) | (go_at_call 14; with_reducible refine (right7_w Xhg.out _ _ _ (Kd.C_below HC_l.out HB.out) HK_l.out).mono ?_; rintro e w5_ ⟨rfl, hB⟩; have nHB := Aside0.mk (HB.out.trans (hB.mono HB.out.size)); clear HB; have HB := nHB; clear nHB; clear hc_gh_0 hf_gh_0; have nBK := Aside0.mk (blk_below (g := gh) (o := .cells #[.slice A_l l.length c_l] 40 (0, 0)) BK_gh.out hB); clear BK_gh; have BK_gh := nBK; clear nBK; have hc_gh_0 : w5_.cell? ⟨gh, 0, none⟩ = some (.slice A_l l.length c_l) := (blk_cell BK_gh.out 0).trans rfl; have hf_gh_0 := blk_frozen BK_gh.out 0; clear hc_gs_0 hf_gs_0 hc_gs_1 hf_gs_1 hc_gs_2 hf_gs_2 hc_gs_3 hf_gs_3; have nBK := Aside0.mk (blk_below (g := gs) (o := .cells #[.int .i64 s.f0, .int .u32 s.f1, .bool s.f2.f0, .slice A_s s.f2.f1.length c_s] 42 (0, 0)) BK_gs.out hB); clear BK_gs; have BK_gs := nBK; clear nBK; have hc_gs_0 : w5_.cell? ⟨gs, 0, none⟩ = some (.int .i64 s.f0) := (blk_cell BK_gs.out 0).trans rfl; have hf_gs_0 := blk_frozen BK_gs.out 0; have hc_gs_1 : w5_.cell? ⟨gs, 1, none⟩ = some (.int .u32 s.f1) := (blk_cell BK_gs.out 1).trans rfl; have hf_gs_1 := blk_frozen BK_gs.out 1; have hc_gs_2 : w5_.cell? ⟨gs, 2, none⟩ = some (.bool s.f2.f0) := (blk_cell BK_gs.out 2).trans rfl; have hf_gs_2 := blk_frozen BK_gs.out 2; have hc_gs_3 : w5_.cell? ⟨gs, 3, none⟩ = some (.slice A_s s.f2.f1.length c_s) := (blk_cell BK_gs.out 3).trans rfl; have hf_gs_3 := blk_frozen BK_gs.out 3; clear hB) | (go_at_call 15; (with_reducible refine (put_view Xhl.out Xhm.out Xh1.out Xh2.out Xh3.out _ _ _ _ _ (Kd.C_below HC_l.out HB.out) HK_l.out (Kd.C_below HC_s.out HB.out) HK_s.out).mono ?_); rintro e_ w6_ ⟨A_a, c_a, A_ar, c_ar, rfl, hC, hK, hB⟩; have nHB := Aside0.mk (HB.out.trans (hB.mono HB.out.size)); clear HB; have HB := nHB; clear nHB; clear hc_gh_0 hf_gh_0; have nBK := Aside0.mk (blk_below (g := gh) (o := .cells #[.slice A_l l.length c_l] 40 (0, 0)) BK_gh.out hB); clear BK_gh; have BK_gh := nBK; clear nBK; have hc_gh_0 : w6_.cell? ⟨gh, 0, none⟩ = some (.slice A_l l.length c_l) := (blk_cell BK_gh.out 0).trans rfl; have hf_gh_0 := blk_frozen BK_gh.out 0; clear hc_gs_0 hf_gs_0 hc_gs_1 hf_gs_1 hc_gs_2 hf_gs_2 hc_gs_3 hf_gs_3; have nBK := Aside0.mk (blk_below (g := gs) (o := .cells #[.int .i64 s.f0, .int .u32 s.f1, .bool s.f2.f0, .slice A_s s.f2.f1.length c_s] 42 (0, 0)) BK_gs.out hB); clear BK_gs; have BK_gs := nBK; clear nBK; have hc_gs_0 : w6_.cell? ⟨gs, 0, none⟩ = some (.int .i64 s.f0) := (blk_cell BK_gs.out 0).trans rfl; have hf_gs_0 := blk_frozen BK_gs.out 0; have hc_gs_1 : w6_.cell? ⟨gs, 1, none⟩ = some (.int .u32 s.f1) := (blk_cell BK_gs.out 1).trans rfl; have hf_gs_1 := blk_frozen BK_gs.out 1; have hc_gs_2 : w6_.cell? ⟨gs, 2, none⟩ = some (.bool s.f2.f0) := (blk_cell BK_gs.out 2).trans rfl; have hf_gs_2 := blk_frozen BK_gs.out 2; have hc_gs_3 : w6_.cell? ⟨gs, 3, none⟩ = some (.slice A_s s.f2.f1.length c_s) := (blk_cell BK_gs.out 3).trans rfl; have hf_gs_3 := blk_frozen BK_gs.out 3; have HC_a := Aside0.mk hC; have HK_a := Aside0.mk hK; clear hC hK hB) | ((with_reducible refine gate_dst (N := 6) rfl ?_); (try (refine gate_guard (by rfl) ?_; dsimp only)); refine box_event ?hg (N := 6) ?hd (cs := #[.slice none 0 0]) (t := 40) ?hr ?_; (case hd => rfl); (case hg => rfl); (case hr => first | (go_simp; done) | (go_simp; rfl)); intro ga hg w7_ hbox hB0; have hG := Aside0.mk (show w6_.heap.size ≤ ga from Nat.le_of_eq hg.symm); clear hg; have hBX := Aside0.mk hbox; have hB1 := Aside0.mk hB0; clear hB0; have hc_ga_0 : w7_.cell? ⟨ga, 0, none⟩ = some (.slice none 0 0) := (blk_cell hbox 0).trans rfl; have hf_ga_0 := blk_frozen hbox 0; clear hbox))
  have hB : Below w6_.heap.size w6_ (w7_.setCell ⟨ga, 0, none⟩ (.slice A_a la.length c_a)) := (below_set hB1.out hG.out)
  have hBN : (w7_.setCell ⟨ga, 0, none⟩ (.slice A_a la.length c_a)).heap[ga]? = some (.cells #[.slice A_a la.length c_a] 40 (0, 0)) := (blk_put (cs := #[.slice none 0 0]) hBX.out 0 (.slice A_a la.length c_a) rfl)
  clear hBX hB1
  clear hc_ga_0 hf_ga_0
  generalize (w7_.setCell ⟨ga, 0, none⟩ (.slice A_a la.length c_a)) = w8_ at hB hBN ⊢
  have NB_ga_gh := Aside0.mk (show ga ≠ gh from Nat.ne_of_gt (Nat.lt_of_lt_of_le (blk_lt (g := gh) (o := .cells #[.slice A_l l.length c_l] 40 (0, 0)) BK_gh.out) hG.out))
  have NB_gh_ga := Aside0.mk (Ne.symm NB_ga_gh.out)
  have NB_ga_gs := Aside0.mk (show ga ≠ gs from Nat.ne_of_gt (Nat.lt_of_lt_of_le (blk_lt (g := gs) (o := .cells #[.int .i64 s.f0, .int .u32 s.f1, .bool s.f2.f0, .slice A_s s.f2.f1.length c_s] 42 (0, 0)) BK_gs.out) hG.out))
  have NB_gs_ga := Aside0.mk (Ne.symm NB_ga_gs.out)
  have HBo := Aside0.mk HB.out
  have nHB := Aside0.mk (HB.out.trans (hB.mono HB.out.size))
  clear HB
  have HB := nHB
  clear nHB
  clear hc_gh_0 hf_gh_0
  have nBK := Aside0.mk (blk_below (g := gh) (o := .cells #[.slice A_l l.length c_l] 40 (0, 0)) BK_gh.out hB)
  clear BK_gh
  have BK_gh := nBK
  clear nBK
  have hc_gh_0 : w8_.cell? ⟨gh, 0, none⟩ = some (.slice A_l l.length c_l) := (blk_cell BK_gh.out 0).trans rfl
  have hf_gh_0 := blk_frozen BK_gh.out 0
  clear hc_gs_0 hf_gs_0 hc_gs_1 hf_gs_1 hc_gs_2 hf_gs_2 hc_gs_3 hf_gs_3
  have nBK := Aside0.mk (blk_below (g := gs) (o := .cells #[.int .i64 s.f0, .int .u32 s.f1, .bool s.f2.f0, .slice A_s s.f2.f1.length c_s] 42 (0, 0)) BK_gs.out hB)
  clear BK_gs
  have BK_gs := nBK
  clear nBK
  have hc_gs_0 : w8_.cell? ⟨gs, 0, none⟩ = some (.int .i64 s.f0) := (blk_cell BK_gs.out 0).trans rfl
  have hf_gs_0 := blk_frozen BK_gs.out 0
  have hc_gs_1 : w8_.cell? ⟨gs, 1, none⟩ = some (.int .u32 s.f1) := (blk_cell BK_gs.out 1).trans rfl
  have hf_gs_1 := blk_frozen BK_gs.out 1
  have hc_gs_2 : w8_.cell? ⟨gs, 2, none⟩ = some (.bool s.f2.f0) := (blk_cell BK_gs.out 2).trans rfl
  have hf_gs_2 := blk_frozen BK_gs.out 2
  have hc_gs_3 : w8_.cell? ⟨gs, 3, none⟩ = some (.slice A_s s.f2.f1.length c_s) := (blk_cell BK_gs.out 3).trans rfl
  have hf_gs_3 := blk_frozen BK_gs.out 3
  have nHC := Aside0.mk (Kd.C_below HC_a.out hB)
  clear HC_a
  have HC_a := nHC
  clear nHC
  have BK_ga := Aside0.mk hBN
  have GE_ga := Aside0.mk (Nat.le_trans HBo.out.size hG.out)
  clear HBo hG hBN hB
  have hc_ga_0 : w8_.cell? ⟨ga, 0, none⟩ = some (.slice A_a la.length c_a) := (blk_cell BK_ga.out 0).trans rfl
  have hf_ga_0 := blk_frozen BK_ga.out 0
  go_upto_region 8 with (first | (go_at_call 15; (with_reducible refine (put_view Xhla.out Xhm.out Xh4.out Xh5.out Xh6.out _ _ _ _ _ HC_a.out HK_a.out (Kd.C_below HC_s.out HB.out) HK_s.out).mono ?_); rintro e_ w9_ ⟨A_b, c_b, A_br, c_br, rfl, hC, hK, hB⟩; have nHB := Aside0.mk (HB.out.trans (hB.mono HB.out.size)); clear HB; have HB := nHB; clear nHB; clear hc_gh_0 hf_gh_0; have nBK := Aside0.mk (blk_below (g := gh) (o := .cells #[.slice A_l l.length c_l] 40 (0, 0)) BK_gh.out hB); clear BK_gh; have BK_gh := nBK; clear nBK; have hc_gh_0 : w9_.cell? ⟨gh, 0, none⟩ = some (.slice A_l l.length c_l) := (blk_cell BK_gh.out 0).trans rfl; have hf_gh_0 := blk_frozen BK_gh.out 0; clear hc_gs_0 hf_gs_0 hc_gs_1 hf_gs_1 hc_gs_2 hf_gs_2 hc_gs_3 hf_gs_3; have nBK := Aside0.mk (blk_below (g := gs) (o := .cells #[.int .i64 s.f0, .int .u32 s.f1, .bool s.f2.f0, .slice A_s s.f2.f1.length c_s] 42 (0, 0)) BK_gs.out hB); clear BK_gs; have BK_gs := nBK; clear nBK; have hc_gs_0 : w9_.cell? ⟨gs, 0, none⟩ = some (.int .i64 s.f0) := (blk_cell BK_gs.out 0).trans rfl; have hf_gs_0 := blk_frozen BK_gs.out 0; have hc_gs_1 : w9_.cell? ⟨gs, 1, none⟩ = some (.int .u32 s.f1) := (blk_cell BK_gs.out 1).trans rfl; have hf_gs_1 := blk_frozen BK_gs.out 1; have hc_gs_2 : w9_.cell? ⟨gs, 2, none⟩ = some (.bool s.f2.f0) := (blk_cell BK_gs.out 2).trans rfl; have hf_gs_2 := blk_frozen BK_gs.out 2; have hc_gs_3 : w9_.cell? ⟨gs, 3, none⟩ = some (.slice A_s s.f2.f1.length c_s) := (blk_cell BK_gs.out 3).trans rfl; have hf_gs_3 := blk_frozen BK_gs.out 3; clear hc_ga_0 hf_ga_0; have nBK := Aside0.mk (blk_below (g := ga) (o := .cells #[.slice A_a la.length c_a] 40 (0, 0)) BK_ga.out hB); clear BK_ga; have BK_ga := nBK; clear nBK; have hc_ga_0 : w9_.cell? ⟨ga, 0, none⟩ = some (.slice A_a la.length c_a) := (blk_cell BK_ga.out 0).trans rfl; have hf_ga_0 := blk_frozen BK_ga.out 0; have nHC := Aside0.mk (Kd.C_below HC_a.out hB); clear HC_a; have HC_a := nHC; clear nHC; have HC_b := Aside0.mk hC; have HK_b := Aside0.mk hK; clear hC hK hB) | ((with_reducible refine gate_dst (N := 9) rfl ?_); (try (refine gate_guard (by rfl) ?_; dsimp only)); refine box_event ?hg (N := 9) ?hd (cs := #[.slice none 0 0]) (t := 40) ?hr ?_; (case hd => rfl); (case hg => rfl); (case hr => first | (go_simp; done) | (go_simp; rfl)); intro gb hg w10_ hbox hB0; have hG := Aside0.mk (show w9_.heap.size ≤ gb from Nat.le_of_eq hg.symm); clear hg; have hBX := Aside0.mk hbox; have hB1 := Aside0.mk hB0; clear hB0; have hc_gb_0 : w10_.cell? ⟨gb, 0, none⟩ = some (.slice none 0 0) := (blk_cell hbox 0).trans rfl; have hf_gb_0 := blk_frozen hbox 0; clear hbox))
  have hB : Below w9_.heap.size w9_ (w10_.setCell ⟨gb, 0, none⟩ (.slice A_b la.length c_b)) := (below_set hB1.out hG.out)
  have hBN : (w10_.setCell ⟨gb, 0, none⟩ (.slice A_b la.length c_b)).heap[gb]? = some (.cells #[.slice A_b la.length c_b] 40 (0, 0)) := (blk_put (cs := #[.slice none 0 0]) hBX.out 0 (.slice A_b la.length c_b) rfl)
  clear hBX hB1
  clear hc_gb_0 hf_gb_0
  generalize (w10_.setCell ⟨gb, 0, none⟩ (.slice A_b la.length c_b)) = w11_ at hB hBN ⊢
  have NB_gb_gh := Aside0.mk (show gb ≠ gh from Nat.ne_of_gt (Nat.lt_of_lt_of_le (blk_lt (g := gh) (o := .cells #[.slice A_l l.length c_l] 40 (0, 0)) BK_gh.out) hG.out))
  have NB_gh_gb := Aside0.mk (Ne.symm NB_gb_gh.out)
  have NB_gb_gs := Aside0.mk (show gb ≠ gs from Nat.ne_of_gt (Nat.lt_of_lt_of_le (blk_lt (g := gs) (o := .cells #[.int .i64 s.f0, .int .u32 s.f1, .bool s.f2.f0, .slice A_s s.f2.f1.length c_s] 42 (0, 0)) BK_gs.out) hG.out))
  have NB_gs_gb := Aside0.mk (Ne.symm NB_gb_gs.out)
  have NB_gb_ga := Aside0.mk (show gb ≠ ga from Nat.ne_of_gt (Nat.lt_of_lt_of_le (blk_lt (g := ga) (o := .cells #[.slice A_a la.length c_a] 40 (0, 0)) BK_ga.out) hG.out))
  have NB_ga_gb := Aside0.mk (Ne.symm NB_gb_ga.out)
  have HBo := Aside0.mk HB.out
  have nHB := Aside0.mk (HB.out.trans (hB.mono HB.out.size))
  clear HB
  have HB := nHB
  clear nHB
  clear hc_gh_0 hf_gh_0
  have nBK := Aside0.mk (blk_below (g := gh) (o := .cells #[.slice A_l l.length c_l] 40 (0, 0)) BK_gh.out hB)
  clear BK_gh
  have BK_gh := nBK
  clear nBK
  have hc_gh_0 : w11_.cell? ⟨gh, 0, none⟩ = some (.slice A_l l.length c_l) := (blk_cell BK_gh.out 0).trans rfl
  have hf_gh_0 := blk_frozen BK_gh.out 0
  clear hc_gs_0 hf_gs_0 hc_gs_1 hf_gs_1 hc_gs_2 hf_gs_2 hc_gs_3 hf_gs_3
  have nBK := Aside0.mk (blk_below (g := gs) (o := .cells #[.int .i64 s.f0, .int .u32 s.f1, .bool s.f2.f0, .slice A_s s.f2.f1.length c_s] 42 (0, 0)) BK_gs.out hB)
  clear BK_gs
  have BK_gs := nBK
  clear nBK
  have hc_gs_0 : w11_.cell? ⟨gs, 0, none⟩ = some (.int .i64 s.f0) := (blk_cell BK_gs.out 0).trans rfl
  have hf_gs_0 := blk_frozen BK_gs.out 0
  have hc_gs_1 : w11_.cell? ⟨gs, 1, none⟩ = some (.int .u32 s.f1) := (blk_cell BK_gs.out 1).trans rfl
  have hf_gs_1 := blk_frozen BK_gs.out 1
  have hc_gs_2 : w11_.cell? ⟨gs, 2, none⟩ = some (.bool s.f2.f0) := (blk_cell BK_gs.out 2).trans rfl
  have hf_gs_2 := blk_frozen BK_gs.out 2
  have hc_gs_3 : w11_.cell? ⟨gs, 3, none⟩ = some (.slice A_s s.f2.f1.length c_s) := (blk_cell BK_gs.out 3).trans rfl
  have hf_gs_3 := blk_frozen BK_gs.out 3
  clear hc_ga_0 hf_ga_0
  have nBK := Aside0.mk (blk_below (g := ga) (o := .cells #[.slice A_a la.length c_a] 40 (0, 0)) BK_ga.out hB)
  clear BK_ga
  have BK_ga := nBK
  clear nBK
  have hc_ga_0 : w11_.cell? ⟨ga, 0, none⟩ = some (.slice A_a la.length c_a) := (blk_cell BK_ga.out 0).trans rfl
  have hf_ga_0 := blk_frozen BK_ga.out 0
  have nHC := Aside0.mk (Kd.C_below HC_a.out hB)
  clear HC_a
  have HC_a := nHC
  clear nHC
  have nHC := Aside0.mk (Kd.C_below HC_b.out hB)
  clear HC_b
  have HC_b := nHC
  clear nHC
  have BK_gb := Aside0.mk hBN
  have GE_gb := Aside0.mk (Nat.le_trans HBo.out.size hG.out)
  clear HBo hG hBN hB
  have hc_gb_0 : w11_.cell? ⟨gb, 0, none⟩ = some (.slice A_b la.length c_b) := (blk_cell BK_gb.out 0).trans rfl
  have hf_gb_0 := blk_frozen BK_gb.out 0
  go_upto_region 9 with (first | (go_at_call 20; (with_reducible refine (drop_view Xhla.out Xh7.out Xh8.out Xh9.out _ _ _ HC_a.out HK_a.out).mono ?_); rintro e_ w12_ ⟨A_c, c_c, A_cr, c_cr, rfl, hC, hK, hB⟩; have nHB := Aside0.mk (HB.out.trans (hB.mono HB.out.size)); clear HB; have HB := nHB; clear nHB; clear hc_gh_0 hf_gh_0; have nBK := Aside0.mk (blk_below (g := gh) (o := .cells #[.slice A_l l.length c_l] 40 (0, 0)) BK_gh.out hB); clear BK_gh; have BK_gh := nBK; clear nBK; have hc_gh_0 : w12_.cell? ⟨gh, 0, none⟩ = some (.slice A_l l.length c_l) := (blk_cell BK_gh.out 0).trans rfl; have hf_gh_0 := blk_frozen BK_gh.out 0; clear hc_gs_0 hf_gs_0 hc_gs_1 hf_gs_1 hc_gs_2 hf_gs_2 hc_gs_3 hf_gs_3; have nBK := Aside0.mk (blk_below (g := gs) (o := .cells #[.int .i64 s.f0, .int .u32 s.f1, .bool s.f2.f0, .slice A_s s.f2.f1.length c_s] 42 (0, 0)) BK_gs.out hB); clear BK_gs; have BK_gs := nBK; clear nBK; have hc_gs_0 : w12_.cell? ⟨gs, 0, none⟩ = some (.int .i64 s.f0) := (blk_cell BK_gs.out 0).trans rfl; have hf_gs_0 := blk_frozen BK_gs.out 0; have hc_gs_1 : w12_.cell? ⟨gs, 1, none⟩ = some (.int .u32 s.f1) := (blk_cell BK_gs.out 1).trans rfl; have hf_gs_1 := blk_frozen BK_gs.out 1; have hc_gs_2 : w12_.cell? ⟨gs, 2, none⟩ = some (.bool s.f2.f0) := (blk_cell BK_gs.out 2).trans rfl; have hf_gs_2 := blk_frozen BK_gs.out 2; have hc_gs_3 : w12_.cell? ⟨gs, 3, none⟩ = some (.slice A_s s.f2.f1.length c_s) := (blk_cell BK_gs.out 3).trans rfl; have hf_gs_3 := blk_frozen BK_gs.out 3; clear hc_ga_0 hf_ga_0; have nBK := Aside0.mk (blk_below (g := ga) (o := .cells #[.slice A_a la.length c_a] 40 (0, 0)) BK_ga.out hB); clear BK_ga; have BK_ga := nBK; clear nBK; have hc_ga_0 : w12_.cell? ⟨ga, 0, none⟩ = some (.slice A_a la.length c_a) := (blk_cell BK_ga.out 0).trans rfl; have hf_ga_0 := blk_frozen BK_ga.out 0; clear hc_gb_0 hf_gb_0; have nBK := Aside0.mk (blk_below (g := gb) (o := .cells #[.slice A_b la.length c_b] 40 (0, 0)) BK_gb.out hB); clear BK_gb; have BK_gb := nBK; clear nBK; have hc_gb_0 : w12_.cell? ⟨gb, 0, none⟩ = some (.slice A_b la.length c_b) := (blk_cell BK_gb.out 0).trans rfl; have hf_gb_0 := blk_frozen BK_gb.out 0; have nHC := Aside0.mk (Kd.C_below HC_a.out hB); clear HC_a; have HC_a := nHC; clear nHC; have nHC := Aside0.mk (Kd.C_below HC_b.out hB); clear HC_b; have HC_b := nHC; clear nHC; have HC_c := Aside0.mk hC; have HK_c := Aside0.mk hK; clear hC hK hB) | ((with_reducible refine gate_dst (N := 12) rfl ?_); (try (refine gate_guard (by rfl) ?_; dsimp only)); refine box_event ?hg (N := 12) ?hd (cs := #[.slice none 0 0]) (t := 40) ?hr ?_; (case hd => rfl); (case hg => rfl); (case hr => first | (go_simp; done) | (go_simp; rfl)); intro gc hg w13_ hbox hB0; have hG := Aside0.mk (show w12_.heap.size ≤ gc from Nat.le_of_eq hg.symm); clear hg; have hBX := Aside0.mk hbox; have hB1 := Aside0.mk hB0; clear hB0; have hc_gc_0 : w13_.cell? ⟨gc, 0, none⟩ = some (.slice none 0 0) := (blk_cell hbox 0).trans rfl; have hf_gc_0 := blk_frozen hbox 0; clear hbox))
  have hB : Below w12_.heap.size w12_ (w13_.setCell ⟨gc, 0, none⟩ (.slice A_c lc.length c_c)) := (below_set hB1.out hG.out)
  have hBN : (w13_.setCell ⟨gc, 0, none⟩ (.slice A_c lc.length c_c)).heap[gc]? = some (.cells #[.slice A_c lc.length c_c] 40 (0, 0)) := (blk_put (cs := #[.slice none 0 0]) hBX.out 0 (.slice A_c lc.length c_c) rfl)
  clear hBX hB1
  clear hc_gc_0 hf_gc_0
  generalize (w13_.setCell ⟨gc, 0, none⟩ (.slice A_c lc.length c_c)) = w14_ at hB hBN ⊢
  have NB_gc_gh := Aside0.mk (show gc ≠ gh from Nat.ne_of_gt (Nat.lt_of_lt_of_le (blk_lt (g := gh) (o := .cells #[.slice A_l l.length c_l] 40 (0, 0)) BK_gh.out) hG.out))
  have NB_gh_gc := Aside0.mk (Ne.symm NB_gc_gh.out)
  have NB_gc_gs := Aside0.mk (show gc ≠ gs from Nat.ne_of_gt (Nat.lt_of_lt_of_le (blk_lt (g := gs) (o := .cells #[.int .i64 s.f0, .int .u32 s.f1, .bool s.f2.f0, .slice A_s s.f2.f1.length c_s] 42 (0, 0)) BK_gs.out) hG.out))
  have NB_gs_gc := Aside0.mk (Ne.symm NB_gc_gs.out)
  have NB_gc_ga := Aside0.mk (show gc ≠ ga from Nat.ne_of_gt (Nat.lt_of_lt_of_le (blk_lt (g := ga) (o := .cells #[.slice A_a la.length c_a] 40 (0, 0)) BK_ga.out) hG.out))
  have NB_ga_gc := Aside0.mk (Ne.symm NB_gc_ga.out)
  have NB_gc_gb := Aside0.mk (show gc ≠ gb from Nat.ne_of_gt (Nat.lt_of_lt_of_le (blk_lt (g := gb) (o := .cells #[.slice A_b la.length c_b] 40 (0, 0)) BK_gb.out) hG.out))
  have NB_gb_gc := Aside0.mk (Ne.symm NB_gc_gb.out)
  have HBo := Aside0.mk HB.out
  have nHB := Aside0.mk (HB.out.trans (hB.mono HB.out.size))
  clear HB
  have HB := nHB
  clear nHB
  clear hc_gh_0 hf_gh_0
  have nBK := Aside0.mk (blk_below (g := gh) (o := .cells #[.slice A_l l.length c_l] 40 (0, 0)) BK_gh.out hB)
  clear BK_gh
  have BK_gh := nBK
  clear nBK
  have hc_gh_0 : w14_.cell? ⟨gh, 0, none⟩ = some (.slice A_l l.length c_l) := (blk_cell BK_gh.out 0).trans rfl
  have hf_gh_0 := blk_frozen BK_gh.out 0
  clear hc_gs_0 hf_gs_0 hc_gs_1 hf_gs_1 hc_gs_2 hf_gs_2 hc_gs_3 hf_gs_3
  have nBK := Aside0.mk (blk_below (g := gs) (o := .cells #[.int .i64 s.f0, .int .u32 s.f1, .bool s.f2.f0, .slice A_s s.f2.f1.length c_s] 42 (0, 0)) BK_gs.out hB)
  clear BK_gs
  have BK_gs := nBK
  clear nBK
  have hc_gs_0 : w14_.cell? ⟨gs, 0, none⟩ = some (.int .i64 s.f0) := (blk_cell BK_gs.out 0).trans rfl
  have hf_gs_0 := blk_frozen BK_gs.out 0
  have hc_gs_1 : w14_.cell? ⟨gs, 1, none⟩ = some (.int .u32 s.f1) := (blk_cell BK_gs.out 1).trans rfl
  have hf_gs_1 := blk_frozen BK_gs.out 1
  have hc_gs_2 : w14_.cell? ⟨gs, 2, none⟩ = some (.bool s.f2.f0) := (blk_cell BK_gs.out 2).trans rfl
  have hf_gs_2 := blk_frozen BK_gs.out 2
  have hc_gs_3 : w14_.cell? ⟨gs, 3, none⟩ = some (.slice A_s s.f2.f1.length c_s) := (blk_cell BK_gs.out 3).trans rfl
  have hf_gs_3 := blk_frozen BK_gs.out 3
  clear hc_ga_0 hf_ga_0
  have nBK := Aside0.mk (blk_below (g := ga) (o := .cells #[.slice A_a la.length c_a] 40 (0, 0)) BK_ga.out hB)
  clear BK_ga
  have BK_ga := nBK
  clear nBK
  have hc_ga_0 : w14_.cell? ⟨ga, 0, none⟩ = some (.slice A_a la.length c_a) := (blk_cell BK_ga.out 0).trans rfl
  have hf_ga_0 := blk_frozen BK_ga.out 0
  clear hc_gb_0 hf_gb_0
  have nBK := Aside0.mk (blk_below (g := gb) (o := .cells #[.slice A_b la.length c_b] 40 (0, 0)) BK_gb.out hB)
  clear BK_gb
  have BK_gb := nBK
  clear nBK
  have hc_gb_0 : w14_.cell? ⟨gb, 0, none⟩ = some (.slice A_b la.length c_b) := (blk_cell BK_gb.out 0).trans rfl
  have hf_gb_0 := blk_frozen BK_gb.out 0
  have nHC := Aside0.mk (Kd.C_below HC_a.out hB)
  clear HC_a
  have HC_a := nHC
  clear nHC
  have nHC := Aside0.mk (Kd.C_below HC_b.out hB)
  clear HC_b
  have HC_b := nHC
  clear nHC
  have nHC := Aside0.mk (Kd.C_below HC_c.out hB)
  clear HC_c
  have HC_c := nHC
  clear nHC
  have BK_gc := Aside0.mk hBN
  have GE_gc := Aside0.mk (Nat.le_trans HBo.out.size hG.out)
  clear HBo hG hBN hB
  have hc_gc_0 : w14_.cell? ⟨gc, 0, none⟩ = some (.slice A_c lc.length c_c) := (blk_cell BK_gc.out 0).trans rfl
  have hf_gc_0 := blk_frozen BK_gc.out 0
  go_wp2
  have HBL := Aside0.mk (Below.refl w14_.heap.size w14_)
  have HBW := HB
  clear hc_gh_0 hf_gh_0
  have BL_gh := BK_gh
  clear BK_gh
  clear hc_gs_0 hf_gs_0 hc_gs_1 hf_gs_1 hc_gs_2 hf_gs_2 hc_gs_3 hf_gs_3
  have BL_gs := BK_gs
  clear BK_gs
  clear hc_ga_0 hf_ga_0
  have BL_ga := BK_ga
  clear BK_ga
  clear hc_gb_0 hf_gb_0
  have BL_gb := BK_gb
  clear BK_gb
  clear hc_gc_0 hf_gc_0
  have BL_gc := BK_gc
  clear BK_gc
  have HL_a := HC_a
  clear HC_a
  have HL_b := HC_b
  clear HC_b
  have HL_c := HC_c
  clear HC_c
  clear HB
  go_loopg [15, 16] l.length (fun gk v15 v16 w' => ∃ i : Nat, v16 = .int .i64 (i : Int) ∧ v15 = .bool (hasS (l.take i) s.f0) ∧ Aside0 (i ≤ l.length ∧ gk = l.length - i) ∧ Aside0 (Below w14_.heap.size w14_ w'))
  case atStart => exact ⟨0, rfl, rfl, ⟨Nat.zero_le _, by omega⟩, HBL⟩
  case round =>
    clear HBL
    obtain ⟨i, rfl, rfl, HI, HBr⟩ := hrel
    obtain ⟨hi, hgk⟩ := HI.out
    have HB := Aside0.mk (HBW.out.trans (HBr.out.mono HBW.out.size))
    have BK_gh := Aside0.mk (blk_below BL_gh.out HBr.out)
    have BK_gs := Aside0.mk (blk_below BL_gs.out HBr.out)
    have BK_ga := Aside0.mk (blk_below BL_ga.out HBr.out)
    have BK_gb := Aside0.mk (blk_below BL_gb.out HBr.out)
    have BK_gc := Aside0.mk (blk_below BL_gc.out HBr.out)
    have HC_a := Aside0.mk (Kd.C_below HL_a.out HBr.out)
    have HC_b := Aside0.mk (Kd.C_below HL_b.out HBr.out)
    have HC_c := Aside0.mk (Kd.C_below HL_c.out HBr.out)
    have hc_gh_0 : wr.cell? ⟨gh, 0, none⟩ = some (.slice A_l l.length c_l) := (blk_cell BK_gh.out 0).trans rfl
    have hf_gh_0 := blk_frozen BK_gh.out 0
    have hc_gs_0 : wr.cell? ⟨gs, 0, none⟩ = some (.int .i64 s.f0) := (blk_cell BK_gs.out 0).trans rfl
    have hf_gs_0 := blk_frozen BK_gs.out 0
    have hc_gs_1 : wr.cell? ⟨gs, 1, none⟩ = some (.int .u32 s.f1) := (blk_cell BK_gs.out 1).trans rfl
    have hf_gs_1 := blk_frozen BK_gs.out 1
    have hc_gs_2 : wr.cell? ⟨gs, 2, none⟩ = some (.bool s.f2.f0) := (blk_cell BK_gs.out 2).trans rfl
    have hf_gs_2 := blk_frozen BK_gs.out 2
    have hc_gs_3 : wr.cell? ⟨gs, 3, none⟩ = some (.slice A_s s.f2.f1.length c_s) := (blk_cell BK_gs.out 3).trans rfl
    have hf_gs_3 := blk_frozen BK_gs.out 3
    have hc_ga_0 : wr.cell? ⟨ga, 0, none⟩ = some (.slice A_a la.length c_a) := (blk_cell BK_ga.out 0).trans rfl
    have hf_ga_0 := blk_frozen BK_ga.out 0
    have hc_gb_0 : wr.cell? ⟨gb, 0, none⟩ = some (.slice A_b la.length c_b) := (blk_cell BK_gb.out 0).trans rfl
    have hf_gb_0 := blk_frozen BK_gb.out 0
    have hc_gc_0 : wr.cell? ⟨gc, 0, none⟩ = some (.slice A_c lc.length c_c) := (blk_cell BK_gc.out 0).trans rfl
    have hf_gc_0 := blk_frozen BK_gc.out 0
    obtain ⟨bi, hbi⟩ : ∃ b, b = hasS (l.take i) s.f0 := ⟨_, rfl⟩
    rw [← hbi]
    have HBI := Aside0.mk hbi
    clear hbi
    by_cases hlt : i < l.length
    · have c73 : decide ((i : Int) < (l.length : Int)) = true := decide_eq_true (by omega)
      have p1 : (0 : Int) ≤ (i : Int) := by omega
      have p2 : (i : Int) < (l.length : Int) := by omega
      obtain ⟨ad, A3, c3, he_, hx0, hx1, hx2, hx3, _, _⟩ := at_T42 HC_l.out (i : Int) p1 p2
      subst he_
      rw [Int.toNat_natCast] at hx0 hx1 hx2 hx3
      have HTK := Aside0.mk (has_take hlt s.f0)
      obtain ⟨gx, hgx⟩ : ∃ gx, gx = (rd_T42 l i).f0 := ⟨_, rfl⟩
      rw [← hgx] at hx0 HTK
      rw [← HBI.out] at HTK
      have EX0 := Aside0.mk hx0
      clear hx0 hx1 hx2 hx3 hgx
      replace p1 := eq_true p1
      replace p2 := eq_true p2
      have HBR := Aside0.mk (Below.refl wr.heap.size wr)
      cases bi with
      | false =>
        go_upto_region 13 with fail
        refine start_ (n := 13) (S := fun w' => w'.cell? ⟨gh, 0, none⟩ = some (.slice (some ad) l.length c_l) ∧ w'.cell? ⟨gs, 0, none⟩ = some (.int .i64 s.f0) ∧ w'.cell? ⟨gs, 1, none⟩ = some (.int .u32 s.f1) ∧ w'.cell? ⟨gs, 2, none⟩ = some (.bool s.f2.f0) ∧ w'.cell? ⟨gs, 3, none⟩ = some (.slice A_s s.f2.f1.length c_s) ∧ w'.cell? (ad.add (i * 4)) = some (.int .i64 gx)) (ds := []) #[false, false, false, false, false, false, false, false, false, false, false, false, false] (by kernel_rfl) rfl rfl ⟨hc_gh_0, hc_gs_0, hc_gs_1, hc_gs_2, hc_gs_3, ((HB.out.cell (World.block_lt_of_cell? w _ EX0.out)).trans EX0.out)⟩ (fun hHeld => ?_); refine with_tabW hs_t13 hs_b13 (fun HT_ HW_ => ?_)
        have hB : Below wr.heap.size wr wr.drew := below_drew (Below.refl _ _)
        generalize wr.drew = w61_ at hB hHeld ⊢
        have nHB := Aside0.mk (HB.out.trans (hB.mono HB.out.size))
        clear HB
        have HB := nHB
        clear nHB
        clear hc_gh_0 hf_gh_0
        have nBK := Aside0.mk (blk_below (g := gh) (o := .cells #[.slice (some ad) l.length c_l] 40 (0, 0)) BK_gh.out hB)
        clear BK_gh
        have BK_gh := nBK
        clear nBK
        have hc_gh_0 : w61_.cell? ⟨gh, 0, none⟩ = some (.slice (some ad) l.length c_l) := (blk_cell BK_gh.out 0).trans rfl
        have hf_gh_0 := blk_frozen BK_gh.out 0
        clear hc_gs_0 hf_gs_0 hc_gs_1 hf_gs_1 hc_gs_2 hf_gs_2 hc_gs_3 hf_gs_3
        have nBK := Aside0.mk (blk_below (g := gs) (o := .cells #[.int .i64 s.f0, .int .u32 s.f1, .bool s.f2.f0, .slice A_s s.f2.f1.length c_s] 42 (0, 0)) BK_gs.out hB)
        clear BK_gs
        have BK_gs := nBK
        clear nBK
        have hc_gs_0 : w61_.cell? ⟨gs, 0, none⟩ = some (.int .i64 s.f0) := (blk_cell BK_gs.out 0).trans rfl
        have hf_gs_0 := blk_frozen BK_gs.out 0
        have hc_gs_1 : w61_.cell? ⟨gs, 1, none⟩ = some (.int .u32 s.f1) := (blk_cell BK_gs.out 1).trans rfl
        have hf_gs_1 := blk_frozen BK_gs.out 1
        have hc_gs_2 : w61_.cell? ⟨gs, 2, none⟩ = some (.bool s.f2.f0) := (blk_cell BK_gs.out 2).trans rfl
        have hf_gs_2 := blk_frozen BK_gs.out 2
        have hc_gs_3 : w61_.cell? ⟨gs, 3, none⟩ = some (.slice A_s s.f2.f1.length c_s) := (blk_cell BK_gs.out 3).trans rfl
        have hf_gs_3 := blk_frozen BK_gs.out 3
        clear hc_ga_0 hf_ga_0
        have nBK := Aside0.mk (blk_below (g := ga) (o := .cells #[.slice A_a la.length c_a] 40 (0, 0)) BK_ga.out hB)
        clear BK_ga
        have BK_ga := nBK
        clear nBK
        have hc_ga_0 : w61_.cell? ⟨ga, 0, none⟩ = some (.slice A_a la.length c_a) := (blk_cell BK_ga.out 0).trans rfl
        have hf_ga_0 := blk_frozen BK_ga.out 0
        clear hc_gb_0 hf_gb_0
        have nBK := Aside0.mk (blk_below (g := gb) (o := .cells #[.slice A_b la.length c_b] 40 (0, 0)) BK_gb.out hB)
        clear BK_gb
        have BK_gb := nBK
        clear nBK
        have hc_gb_0 : w61_.cell? ⟨gb, 0, none⟩ = some (.slice A_b la.length c_b) := (blk_cell BK_gb.out 0).trans rfl
        have hf_gb_0 := blk_frozen BK_gb.out 0
        clear hc_gc_0 hf_gc_0
        have nBK := Aside0.mk (blk_below (g := gc) (o := .cells #[.slice A_c lc.length c_c] 40 (0, 0)) BK_gc.out hB)
        clear BK_gc
        have BK_gc := nBK
        clear nBK
        have hc_gc_0 : w61_.cell? ⟨gc, 0, none⟩ = some (.slice A_c lc.length c_c) := (blk_cell BK_gc.out 0).trans rfl
        have hf_gc_0 := blk_frozen BK_gc.out 0
        have nHC := Aside0.mk (Kd.C_below HC_a.out hB)
        clear HC_a
        have HC_a := nHC
        clear nHC
        have nHC := Aside0.mk (Kd.C_below HC_b.out hB)
        clear HC_b
        have HC_b := nHC
        clear nHC
        have nHC := Aside0.mk (Kd.C_below HC_c.out hB)
        clear HC_c
        have HC_c := nHC
        clear nHC
        have nHR := Aside0.mk (HBR.out.trans (hB.mono HBR.out.size))
        clear HBR
        have HBR := nHR
        clear nHR
        clear hB
        refine pure_ (i := 0) (N := some 76) (v := ?_) (a' := ?_) #[true, false, false, false, false, false, false, false, false, false, false, false, false] rfl rfl (any_of HT_.out (by kernel_rfl)) (fun _ _ _ h => h) (Or.inl ⟨by rfl, ?_⟩) ?_ ?_
        rotate_left
        · intro w'
          go_simp
          with_reducible rfl
        rotate_left
        · simp only [Act.put, List.setIfInBounds_toArray, List.set_cons_zero, List.set_cons_succ, i64_w, i32_w]
          rfl
        refine pure_ (i := 1) (N := some 77) (v := ?_) (a' := ?_) #[true, true, false, false, false, false, false, false, false, false, false, false, false] rfl rfl (any_of HT_.out (by kernel_rfl)) (fun _ _ _ h => h) (Or.inl ⟨by rfl, ?_⟩) ?_ ?_
        rotate_left
        · intro w'
          go_simp
          with_reducible rfl
        rotate_left
        · simp only [Act.put, List.setIfInBounds_toArray, List.set_cons_zero, List.set_cons_succ, i64_w, i32_w]
          rfl
        refine pure_ (i := 2) (N := some 78) (v := ?_) (a' := ?_) #[true, true, true, false, false, false, false, false, false, false, false, false, false] rfl rfl (any_of HT_.out (by kernel_rfl)) (fun _ _ _ h => h) (Or.inl ⟨by rfl, ?_⟩) ?_ ?_
        rotate_left
        · intro w'
          go_simp
          with_reducible rfl
        rotate_left
        · simp only [Act.put, List.setIfInBounds_toArray, List.set_cons_zero, List.set_cons_succ, i64_w, i32_w]
          rfl
        refine take_ (i := 3) (N := some 79) (v := ?_) (a' := ?_) #[true, true, true, true, false, false, false, false, false, false, false, false, false] rfl rfl (take_ofW HT_.out HW_.out (by kernel_rfl)) (fun _ _ _ h => h) (Or.inl ⟨by rfl, ?_⟩) hHeld ?_ ?_
        rotate_left
        · rintro w' ⟨s0, s1, s2, s3, s4, s5⟩
          go_simp
          with_reducible rfl
        rotate_left
        · simp only [Act.put, List.setIfInBounds_toArray, List.set_cons_zero, List.set_cons_succ, i64_w, i32_w]
          rfl
        refine pure_ (i := 4) (N := some 80) (v := ?_) (a' := ?_) #[true, true, true, true, true, false, false, false, false, false, false, false, false] rfl rfl (any_of HT_.out (by kernel_rfl)) (fun _ _ _ h => h) (Or.inl ⟨by rfl, ?_⟩) ?_ ?_
        rotate_left
        · intro w'
          go_simp
          with_reducible rfl
        rotate_left
        · simp only [Act.put, List.setIfInBounds_toArray, List.set_cons_zero, List.set_cons_succ, i64_w, i32_w]
          rfl
        refine pure_ (i := 5) (N := some 81) (v := ?_) (a' := ?_) #[true, true, true, true, true, true, false, false, false, false, false, false, false] rfl rfl (any_of HT_.out (by kernel_rfl)) (fun _ _ _ h => h) (Or.inl ⟨by rfl, ?_⟩) ?_ ?_
        rotate_left
        · intro w'
          go_simp
          with_reducible rfl
        rotate_left
        · simp only [Act.put, List.setIfInBounds_toArray, List.set_cons_zero, List.set_cons_succ, i64_w, i32_w]
          rfl
        refine pure_ (i := 6) (N := some 82) (v := ?_) (a' := ?_) #[true, true, true, true, true, true, true, false, false, false, false, false, false] rfl rfl (any_of HT_.out (by kernel_rfl)) (fun _ _ _ h => h) (Or.inl ⟨by rfl, ?_⟩) ?_ ?_
        rotate_left
        · intro w'
          go_simp
          with_reducible rfl
        rotate_left
        · simp only [Act.put, List.setIfInBounds_toArray, List.set_cons_zero, List.set_cons_succ, i64_w, i32_w]
          rfl
        refine take_ (i := 7) (N := some 83) (v := ?_) (a' := ?_) #[true, true, true, true, true, true, true, true, false, false, false, false, false] rfl rfl (take_ofW HT_.out HW_.out (by kernel_rfl)) (fun _ _ _ h => h) (Or.inl ⟨by rfl, ?_⟩) hHeld ?_ ?_
        rotate_left
        · rintro w' ⟨s0, s1, s2, s3, s4, s5⟩
          go_simp
          with_reducible rfl
        rotate_left
        · simp only [Act.put, List.setIfInBounds_toArray, List.set_cons_zero, List.set_cons_succ, i64_w, i32_w]
          rfl
        refine pure_ (i := 8) (N := some 84) (v := ?_) (a' := ?_) #[true, true, true, true, true, true, true, true, true, false, false, false, false] rfl rfl (any_of HT_.out (by kernel_rfl)) (fun _ _ _ h => h) (Or.inl ⟨by rfl, ?_⟩) ?_ ?_
        rotate_left
        · intro w'
          go_simp
          with_reducible rfl
        rotate_left
        · simp only [Act.put, List.setIfInBounds_toArray, List.set_cons_zero, List.set_cons_succ, i64_w, i32_w]
          rfl
        refine take_ (i := 9) (N := some 85) (v := ?_) (a' := ?_) #[true, true, true, true, true, true, true, true, true, true, false, false, false] rfl rfl (take_ofW HT_.out HW_.out (by kernel_rfl)) (fun _ _ _ h => h) (Or.inl ⟨by rfl, ?_⟩) hHeld ?_ ?_
        rotate_left
        · rintro w' ⟨s0, s1, s2, s3, s4, s5⟩
          go_simp
          with_reducible rfl
        rotate_left
        · simp only [Act.put, List.setIfInBounds_toArray, List.set_cons_zero, List.set_cons_succ, i64_w, i32_w]
          rfl
        refine pure_ (i := 10) (N := some 86) (v := ?_) (a' := ?_) #[true, true, true, true, true, true, true, true, true, true, true, false, false] rfl rfl (any_of HT_.out (by kernel_rfl)) (fun _ _ _ h => h) (Or.inl ⟨by rfl, ?_⟩) ?_ ?_
        rotate_left
        · intro w'
          go_simp
          with_reducible rfl
        rotate_left
        · simp only [Act.put, List.setIfInBounds_toArray, List.set_cons_zero, List.set_cons_succ, i64_w, i32_w]
          rfl
        refine pure_ (i := 11) (N := some 87) (v := ?_) (a' := ?_) #[true, true, true, true, true, true, true, true, true, true, true, true, false] rfl rfl (any_of HT_.out (by kernel_rfl)) (fun _ _ _ h => h) (Or.inl ⟨by rfl, ?_⟩) ?_ ?_
        rotate_left
        · intro w'
          go_simp
          with_reducible rfl
        rotate_left
        · simp only [Act.put, List.setIfInBounds_toArray, List.set_cons_zero, List.set_cons_succ, i64_w, i32_w]
          rfl
        refine pure_ (i := 12) (N := some 15) (v := ?_) (a' := ?_) #[true, true, true, true, true, true, true, true, true, true, true, true, true] rfl rfl (any_of HT_.out (by kernel_rfl)) (fun _ _ _ h => h) (Or.inl ⟨by rfl, ?_⟩) ?_ ?_
        rotate_left
        · intro w'
          go_simp
          with_reducible rfl
        rotate_left
        · simp only [Act.put, List.setIfInBounds_toArray, List.set_cons_zero, List.set_cons_succ, i64_w, i32_w]
          rfl
        refine done_ (done_of HT_.out (by kernel_rfl)) ?_
        go_wp2
        go_roundg (l.length - (i + 1))
        case measure => omega
        case rel =>
          refine ⟨i + 1, ?_, ?_, ⟨by omega, rfl⟩, ⟨HBr.out.trans (HBR.out.mono HBr.out.size)⟩⟩
          · show Value.int .i64 (wrap64 ((i : Int) + 1)) = _
            have h1 := Xhll.out
            have h2 : wrap64 ((i : Int) + 1) = ((i + 1 : Nat) : Int) := by unfold wrap64; omega
            rw [h2]
          · rw [HTK.out]; first | rfl | (rw [Bool.false_or]; rfl)
      | true =>
        go_upto_region 13 with fail
        refine start_ (n := 13) (S := fun w' => w'.cell? ⟨gh, 0, none⟩ = some (.slice (some ad) l.length c_l) ∧ w'.cell? ⟨gs, 0, none⟩ = some (.int .i64 s.f0) ∧ w'.cell? ⟨gs, 1, none⟩ = some (.int .u32 s.f1) ∧ w'.cell? ⟨gs, 2, none⟩ = some (.bool s.f2.f0) ∧ w'.cell? ⟨gs, 3, none⟩ = some (.slice A_s s.f2.f1.length c_s) ∧ w'.cell? (ad.add (i * 4)) = some (.int .i64 gx)) (ds := []) #[false, false, false, false, false, false, false, false, false, false, false, false, false] (by kernel_rfl) rfl rfl ⟨hc_gh_0, hc_gs_0, hc_gs_1, hc_gs_2, hc_gs_3, ((HB.out.cell (World.block_lt_of_cell? w _ EX0.out)).trans EX0.out)⟩ (fun hHeld => ?_); refine with_tabW hs_t13 hs_b13 (fun HT_ HW_ => ?_)
        have hB : Below wr.heap.size wr wr.drew := below_drew (Below.refl _ _)
        generalize wr.drew = w61_ at hB hHeld ⊢
        have nHB := Aside0.mk (HB.out.trans (hB.mono HB.out.size))
        clear HB
        have HB := nHB
        clear nHB
        clear hc_gh_0 hf_gh_0
        have nBK := Aside0.mk (blk_below (g := gh) (o := .cells #[.slice (some ad) l.length c_l] 40 (0, 0)) BK_gh.out hB)
        clear BK_gh
        have BK_gh := nBK
        clear nBK
        have hc_gh_0 : w61_.cell? ⟨gh, 0, none⟩ = some (.slice (some ad) l.length c_l) := (blk_cell BK_gh.out 0).trans rfl
        have hf_gh_0 := blk_frozen BK_gh.out 0
        clear hc_gs_0 hf_gs_0 hc_gs_1 hf_gs_1 hc_gs_2 hf_gs_2 hc_gs_3 hf_gs_3
        have nBK := Aside0.mk (blk_below (g := gs) (o := .cells #[.int .i64 s.f0, .int .u32 s.f1, .bool s.f2.f0, .slice A_s s.f2.f1.length c_s] 42 (0, 0)) BK_gs.out hB)
        clear BK_gs
        have BK_gs := nBK
        clear nBK
        have hc_gs_0 : w61_.cell? ⟨gs, 0, none⟩ = some (.int .i64 s.f0) := (blk_cell BK_gs.out 0).trans rfl
        have hf_gs_0 := blk_frozen BK_gs.out 0
        have hc_gs_1 : w61_.cell? ⟨gs, 1, none⟩ = some (.int .u32 s.f1) := (blk_cell BK_gs.out 1).trans rfl
        have hf_gs_1 := blk_frozen BK_gs.out 1
        have hc_gs_2 : w61_.cell? ⟨gs, 2, none⟩ = some (.bool s.f2.f0) := (blk_cell BK_gs.out 2).trans rfl
        have hf_gs_2 := blk_frozen BK_gs.out 2
        have hc_gs_3 : w61_.cell? ⟨gs, 3, none⟩ = some (.slice A_s s.f2.f1.length c_s) := (blk_cell BK_gs.out 3).trans rfl
        have hf_gs_3 := blk_frozen BK_gs.out 3
        clear hc_ga_0 hf_ga_0
        have nBK := Aside0.mk (blk_below (g := ga) (o := .cells #[.slice A_a la.length c_a] 40 (0, 0)) BK_ga.out hB)
        clear BK_ga
        have BK_ga := nBK
        clear nBK
        have hc_ga_0 : w61_.cell? ⟨ga, 0, none⟩ = some (.slice A_a la.length c_a) := (blk_cell BK_ga.out 0).trans rfl
        have hf_ga_0 := blk_frozen BK_ga.out 0
        clear hc_gb_0 hf_gb_0
        have nBK := Aside0.mk (blk_below (g := gb) (o := .cells #[.slice A_b la.length c_b] 40 (0, 0)) BK_gb.out hB)
        clear BK_gb
        have BK_gb := nBK
        clear nBK
        have hc_gb_0 : w61_.cell? ⟨gb, 0, none⟩ = some (.slice A_b la.length c_b) := (blk_cell BK_gb.out 0).trans rfl
        have hf_gb_0 := blk_frozen BK_gb.out 0
        clear hc_gc_0 hf_gc_0
        have nBK := Aside0.mk (blk_below (g := gc) (o := .cells #[.slice A_c lc.length c_c] 40 (0, 0)) BK_gc.out hB)
        clear BK_gc
        have BK_gc := nBK
        clear nBK
        have hc_gc_0 : w61_.cell? ⟨gc, 0, none⟩ = some (.slice A_c lc.length c_c) := (blk_cell BK_gc.out 0).trans rfl
        have hf_gc_0 := blk_frozen BK_gc.out 0
        have nHC := Aside0.mk (Kd.C_below HC_a.out hB)
        clear HC_a
        have HC_a := nHC
        clear nHC
        have nHC := Aside0.mk (Kd.C_below HC_b.out hB)
        clear HC_b
        have HC_b := nHC
        clear nHC
        have nHC := Aside0.mk (Kd.C_below HC_c.out hB)
        clear HC_c
        have HC_c := nHC
        clear nHC
        have nHR := Aside0.mk (HBR.out.trans (hB.mono HBR.out.size))
        clear HBR
        have HBR := nHR
        clear nHR
        clear hB
        refine pure_ (i := 0) (N := some 76) (v := ?_) (a' := ?_) #[true, false, false, false, false, false, false, false, false, false, false, false, false] rfl rfl (any_of HT_.out (by kernel_rfl)) (fun _ _ _ h => h) (Or.inl ⟨by rfl, ?_⟩) ?_ ?_
        rotate_left
        · intro w'
          go_simp
          with_reducible rfl
        rotate_left
        · simp only [Act.put, List.setIfInBounds_toArray, List.set_cons_zero, List.set_cons_succ, i64_w, i32_w]
          rfl
        refine pure_ (i := 1) (N := some 77) (v := ?_) (a' := ?_) #[true, true, false, false, false, false, false, false, false, false, false, false, false] rfl rfl (any_of HT_.out (by kernel_rfl)) (fun _ _ _ h => h) (Or.inl ⟨by rfl, ?_⟩) ?_ ?_
        rotate_left
        · intro w'
          go_simp
          with_reducible rfl
        rotate_left
        · simp only [Act.put, List.setIfInBounds_toArray, List.set_cons_zero, List.set_cons_succ, i64_w, i32_w]
          rfl
        refine pure_ (i := 2) (N := some 78) (v := undef) (a' := ?_) #[true, true, true, false, false, false, false, false, false, false, false, false, false] rfl rfl (any_of HT_.out (by kernel_rfl)) (fun _ _ _ h => h) (Or.inr ⟨by rfl, rfl⟩) ?_ ?_
        rotate_left
        · simp only [Act.put, List.setIfInBounds_toArray, List.set_cons_zero, List.set_cons_succ, i64_w, i32_w]
          rfl
        refine pure_ (i := 3) (N := some 79) (v := undef) (a' := ?_) #[true, true, true, true, false, false, false, false, false, false, false, false, false] rfl rfl (any_of HT_.out (by kernel_rfl)) (fun _ _ _ h => h) (Or.inr ⟨by rfl, rfl⟩) ?_ ?_
        rotate_left
        · simp only [Act.put, List.setIfInBounds_toArray, List.set_cons_zero, List.set_cons_succ, i64_w, i32_w]
          rfl
        refine pure_ (i := 4) (N := some 80) (v := undef) (a' := ?_) #[true, true, true, true, true, false, false, false, false, false, false, false, false] rfl rfl (any_of HT_.out (by kernel_rfl)) (fun _ _ _ h => h) (Or.inr ⟨by rfl, rfl⟩) ?_ ?_
        rotate_left
        · simp only [Act.put, List.setIfInBounds_toArray, List.set_cons_zero, List.set_cons_succ, i64_w, i32_w]
          rfl
        refine pure_ (i := 5) (N := some 81) (v := undef) (a' := ?_) #[true, true, true, true, true, true, false, false, false, false, false, false, false] rfl rfl (any_of HT_.out (by kernel_rfl)) (fun _ _ _ h => h) (Or.inr ⟨by rfl, rfl⟩) ?_ ?_
        rotate_left
        · simp only [Act.put, List.setIfInBounds_toArray, List.set_cons_zero, List.set_cons_succ, i64_w, i32_w]
          rfl
        refine pure_ (i := 6) (N := some 82) (v := undef) (a' := ?_) #[true, true, true, true, true, true, true, false, false, false, false, false, false] rfl rfl (any_of HT_.out (by kernel_rfl)) (fun _ _ _ h => h) (Or.inr ⟨by rfl, rfl⟩) ?_ ?_
        rotate_left
        · simp only [Act.put, List.setIfInBounds_toArray, List.set_cons_zero, List.set_cons_succ, i64_w, i32_w]
          rfl
        refine pure_ (i := 7) (N := some 83) (v := undef) (a' := ?_) #[true, true, true, true, true, true, true, true, false, false, false, false, false] rfl rfl (any_of HT_.out (by kernel_rfl)) (fun _ _ _ h => h) (Or.inr ⟨by rfl, rfl⟩) ?_ ?_
        rotate_left
        · simp only [Act.put, List.setIfInBounds_toArray, List.set_cons_zero, List.set_cons_succ, i64_w, i32_w]
          rfl
        refine pure_ (i := 8) (N := some 84) (v := undef) (a' := ?_) #[true, true, true, true, true, true, true, true, true, false, false, false, false] rfl rfl (any_of HT_.out (by kernel_rfl)) (fun _ _ _ h => h) (Or.inr ⟨by rfl, rfl⟩) ?_ ?_
        rotate_left
        · simp only [Act.put, List.setIfInBounds_toArray, List.set_cons_zero, List.set_cons_succ, i64_w, i32_w]
          rfl
        refine pure_ (i := 9) (N := some 85) (v := undef) (a' := ?_) #[true, true, true, true, true, true, true, true, true, true, false, false, false] rfl rfl (any_of HT_.out (by kernel_rfl)) (fun _ _ _ h => h) (Or.inr ⟨by rfl, rfl⟩) ?_ ?_
        rotate_left
        · simp only [Act.put, List.setIfInBounds_toArray, List.set_cons_zero, List.set_cons_succ, i64_w, i32_w]
          rfl
        refine pure_ (i := 10) (N := some 86) (v := undef) (a' := ?_) #[true, true, true, true, true, true, true, true, true, true, true, false, false] rfl rfl (any_of HT_.out (by kernel_rfl)) (fun _ _ _ h => h) (Or.inr ⟨by rfl, rfl⟩) ?_ ?_
        rotate_left
        · simp only [Act.put, List.setIfInBounds_toArray, List.set_cons_zero, List.set_cons_succ, i64_w, i32_w]
          rfl
        refine pure_ (i := 11) (N := some 87) (v := ?_) (a' := ?_) #[true, true, true, true, true, true, true, true, true, true, true, true, false] rfl rfl (any_of HT_.out (by kernel_rfl)) (fun _ _ _ h => h) (Or.inl ⟨by rfl, ?_⟩) ?_ ?_
        rotate_left
        · intro w'
          go_simp
          with_reducible rfl
        rotate_left
        · simp only [Act.put, List.setIfInBounds_toArray, List.set_cons_zero, List.set_cons_succ, i64_w, i32_w]
          rfl
        refine pure_ (i := 12) (N := some 15) (v := ?_) (a' := ?_) #[true, true, true, true, true, true, true, true, true, true, true, true, true] rfl rfl (any_of HT_.out (by kernel_rfl)) (fun _ _ _ h => h) (Or.inl ⟨by rfl, ?_⟩) ?_ ?_
        rotate_left
        · intro w'
          go_simp
          with_reducible rfl
        rotate_left
        · simp only [Act.put, List.setIfInBounds_toArray, List.set_cons_zero, List.set_cons_succ, i64_w, i32_w]
          rfl
        refine done_ (done_of HT_.out (by kernel_rfl)) ?_
        go_wp2
        go_roundg (l.length - (i + 1))
        case measure => omega
        case rel =>
          refine ⟨i + 1, ?_, ?_, ⟨by omega, rfl⟩, ⟨HBr.out.trans (HBR.out.mono HBr.out.size)⟩⟩
          · show Value.int .i64 (wrap64 ((i : Int) + 1)) = _
            have h1 := Xhll.out
            have h2 : wrap64 ((i : Int) + 1) = ((i + 1 : Nat) : Int) := by unfold wrap64; omega
            rw [h2]
          · rw [HTK.out]; rfl
    · have c73 : decide ((i : Int) < (l.length : Int)) = false := decide_eq_false (by omega)
      have hie : i = l.length := by omega
      have hbb : bi = bw := by rw [HBI.out, hie, List.take_length, Xhbw.out]
      subst hbb
      clear hie HBI hgk
      cases bi with
      | false =>
        have HSC := Aside0.mk (Xhsc.out rfl)
        go_wp2_with (first | (go_at_call 14; with_reducible refine (right7_w Xhra.out _ _ _ HC_a.out HK_a.out).mono ?_; rintro e w61_ ⟨rfl, hB⟩; have nHB := Aside0.mk (HB.out.trans (hB.mono HB.out.size)); clear HB; have HB := nHB; clear nHB; clear hc_gh_0 hf_gh_0; have nBK := Aside0.mk (blk_below (g := gh) (o := .cells #[.slice A_l l.length c_l] 40 (0, 0)) BK_gh.out hB); clear BK_gh; have BK_gh := nBK; clear nBK; have hc_gh_0 : w61_.cell? ⟨gh, 0, none⟩ = some (.slice A_l l.length c_l) := (blk_cell BK_gh.out 0).trans rfl; have hf_gh_0 := blk_frozen BK_gh.out 0; clear hc_gs_0 hf_gs_0 hc_gs_1 hf_gs_1 hc_gs_2 hf_gs_2 hc_gs_3 hf_gs_3; have nBK := Aside0.mk (blk_below (g := gs) (o := .cells #[.int .i64 s.f0, .int .u32 s.f1, .bool s.f2.f0, .slice A_s s.f2.f1.length c_s] 42 (0, 0)) BK_gs.out hB); clear BK_gs; have BK_gs := nBK; clear nBK; have hc_gs_0 : w61_.cell? ⟨gs, 0, none⟩ = some (.int .i64 s.f0) := (blk_cell BK_gs.out 0).trans rfl; have hf_gs_0 := blk_frozen BK_gs.out 0; have hc_gs_1 : w61_.cell? ⟨gs, 1, none⟩ = some (.int .u32 s.f1) := (blk_cell BK_gs.out 1).trans rfl; have hf_gs_1 := blk_frozen BK_gs.out 1; have hc_gs_2 : w61_.cell? ⟨gs, 2, none⟩ = some (.bool s.f2.f0) := (blk_cell BK_gs.out 2).trans rfl; have hf_gs_2 := blk_frozen BK_gs.out 2; have hc_gs_3 : w61_.cell? ⟨gs, 3, none⟩ = some (.slice A_s s.f2.f1.length c_s) := (blk_cell BK_gs.out 3).trans rfl; have hf_gs_3 := blk_frozen BK_gs.out 3; clear hc_ga_0 hf_ga_0; have nBK := Aside0.mk (blk_below (g := ga) (o := .cells #[.slice A_a la.length c_a] 40 (0, 0)) BK_ga.out hB); clear BK_ga; have BK_ga := nBK; clear nBK; have hc_ga_0 : w61_.cell? ⟨ga, 0, none⟩ = some (.slice A_a la.length c_a) := (blk_cell BK_ga.out 0).trans rfl; have hf_ga_0 := blk_frozen BK_ga.out 0; clear hc_gb_0 hf_gb_0; have nBK := Aside0.mk (blk_below (g := gb) (o := .cells #[.slice A_b la.length c_b] 40 (0, 0)) BK_gb.out hB); clear BK_gb; have BK_gb := nBK; clear nBK; have hc_gb_0 : w61_.cell? ⟨gb, 0, none⟩ = some (.slice A_b la.length c_b) := (blk_cell BK_gb.out 0).trans rfl; have hf_gb_0 := blk_frozen BK_gb.out 0; clear hc_gc_0 hf_gc_0; have nBK := Aside0.mk (blk_below (g := gc) (o := .cells #[.slice A_c lc.length c_c] 40 (0, 0)) BK_gc.out hB); clear BK_gc; have BK_gc := nBK; clear nBK; have hc_gc_0 : w61_.cell? ⟨gc, 0, none⟩ = some (.slice A_c lc.length c_c) := (blk_cell BK_gc.out 0).trans rfl; have hf_gc_0 := blk_frozen BK_gc.out 0; have nHC := Aside0.mk (Kd.C_below HC_a.out hB); clear HC_a; have HC_a := nHC; clear nHC; have nHC := Aside0.mk (Kd.C_below HC_b.out hB); clear HC_b; have HC_b := nHC; clear nHC; have nHC := Aside0.mk (Kd.C_below HC_c.out hB); clear HC_c; have HC_c := nHC; clear nHC; clear hB) | (go_at_call 16; with_reducible refine (same7_w Xhsa.out _ _ _ _ _ HC_a.out HK_a.out HC_b.out HK_b.out).mono ?_; rintro e w62_ ⟨rfl, hB⟩; have nHB := Aside0.mk (HB.out.trans (hB.mono HB.out.size)); clear HB; have HB := nHB; clear nHB; clear hc_gh_0 hf_gh_0; have nBK := Aside0.mk (blk_below (g := gh) (o := .cells #[.slice A_l l.length c_l] 40 (0, 0)) BK_gh.out hB); clear BK_gh; have BK_gh := nBK; clear nBK; have hc_gh_0 : w62_.cell? ⟨gh, 0, none⟩ = some (.slice A_l l.length c_l) := (blk_cell BK_gh.out 0).trans rfl; have hf_gh_0 := blk_frozen BK_gh.out 0; clear hc_gs_0 hf_gs_0 hc_gs_1 hf_gs_1 hc_gs_2 hf_gs_2 hc_gs_3 hf_gs_3; have nBK := Aside0.mk (blk_below (g := gs) (o := .cells #[.int .i64 s.f0, .int .u32 s.f1, .bool s.f2.f0, .slice A_s s.f2.f1.length c_s] 42 (0, 0)) BK_gs.out hB); clear BK_gs; have BK_gs := nBK; clear nBK; have hc_gs_0 : w62_.cell? ⟨gs, 0, none⟩ = some (.int .i64 s.f0) := (blk_cell BK_gs.out 0).trans rfl; have hf_gs_0 := blk_frozen BK_gs.out 0; have hc_gs_1 : w62_.cell? ⟨gs, 1, none⟩ = some (.int .u32 s.f1) := (blk_cell BK_gs.out 1).trans rfl; have hf_gs_1 := blk_frozen BK_gs.out 1; have hc_gs_2 : w62_.cell? ⟨gs, 2, none⟩ = some (.bool s.f2.f0) := (blk_cell BK_gs.out 2).trans rfl; have hf_gs_2 := blk_frozen BK_gs.out 2; have hc_gs_3 : w62_.cell? ⟨gs, 3, none⟩ = some (.slice A_s s.f2.f1.length c_s) := (blk_cell BK_gs.out 3).trans rfl; have hf_gs_3 := blk_frozen BK_gs.out 3; clear hc_ga_0 hf_ga_0; have nBK := Aside0.mk (blk_below (g := ga) (o := .cells #[.slice A_a la.length c_a] 40 (0, 0)) BK_ga.out hB); clear BK_ga; have BK_ga := nBK; clear nBK; have hc_ga_0 : w62_.cell? ⟨ga, 0, none⟩ = some (.slice A_a la.length c_a) := (blk_cell BK_ga.out 0).trans rfl; have hf_ga_0 := blk_frozen BK_ga.out 0; clear hc_gb_0 hf_gb_0; have nBK := Aside0.mk (blk_below (g := gb) (o := .cells #[.slice A_b la.length c_b] 40 (0, 0)) BK_gb.out hB); clear BK_gb; have BK_gb := nBK; clear nBK; have hc_gb_0 : w62_.cell? ⟨gb, 0, none⟩ = some (.slice A_b la.length c_b) := (blk_cell BK_gb.out 0).trans rfl; have hf_gb_0 := blk_frozen BK_gb.out 0; clear hc_gc_0 hf_gc_0; have nBK := Aside0.mk (blk_below (g := gc) (o := .cells #[.slice A_c lc.length c_c] 40 (0, 0)) BK_gc.out hB); clear BK_gc; have BK_gc := nBK; clear nBK; have hc_gc_0 : w62_.cell? ⟨gc, 0, none⟩ = some (.slice A_c lc.length c_c) := (blk_cell BK_gc.out 0).trans rfl; have hf_gc_0 := blk_frozen BK_gc.out 0; have nHC := Aside0.mk (Kd.C_below HC_a.out hB); clear HC_a; have HC_a := nHC; clear nHC; have nHC := Aside0.mk (Kd.C_below HC_b.out hB); clear HC_b; have HC_b := nHC; clear nHC; have nHC := Aside0.mk (Kd.C_below HC_c.out hB); clear HC_c; have HC_c := nHC; clear nHC; clear hB) | (go_at_call 14; with_reducible refine (right7_w Xhrc.out _ _ _ HC_c.out HK_c.out).mono ?_; rintro e w63_ ⟨rfl, hB⟩; have nHB := Aside0.mk (HB.out.trans (hB.mono HB.out.size)); clear HB; have HB := nHB; clear nHB; clear hc_gh_0 hf_gh_0; have nBK := Aside0.mk (blk_below (g := gh) (o := .cells #[.slice A_l l.length c_l] 40 (0, 0)) BK_gh.out hB); clear BK_gh; have BK_gh := nBK; clear nBK; have hc_gh_0 : w63_.cell? ⟨gh, 0, none⟩ = some (.slice A_l l.length c_l) := (blk_cell BK_gh.out 0).trans rfl; have hf_gh_0 := blk_frozen BK_gh.out 0; clear hc_gs_0 hf_gs_0 hc_gs_1 hf_gs_1 hc_gs_2 hf_gs_2 hc_gs_3 hf_gs_3; have nBK := Aside0.mk (blk_below (g := gs) (o := .cells #[.int .i64 s.f0, .int .u32 s.f1, .bool s.f2.f0, .slice A_s s.f2.f1.length c_s] 42 (0, 0)) BK_gs.out hB); clear BK_gs; have BK_gs := nBK; clear nBK; have hc_gs_0 : w63_.cell? ⟨gs, 0, none⟩ = some (.int .i64 s.f0) := (blk_cell BK_gs.out 0).trans rfl; have hf_gs_0 := blk_frozen BK_gs.out 0; have hc_gs_1 : w63_.cell? ⟨gs, 1, none⟩ = some (.int .u32 s.f1) := (blk_cell BK_gs.out 1).trans rfl; have hf_gs_1 := blk_frozen BK_gs.out 1; have hc_gs_2 : w63_.cell? ⟨gs, 2, none⟩ = some (.bool s.f2.f0) := (blk_cell BK_gs.out 2).trans rfl; have hf_gs_2 := blk_frozen BK_gs.out 2; have hc_gs_3 : w63_.cell? ⟨gs, 3, none⟩ = some (.slice A_s s.f2.f1.length c_s) := (blk_cell BK_gs.out 3).trans rfl; have hf_gs_3 := blk_frozen BK_gs.out 3; clear hc_ga_0 hf_ga_0; have nBK := Aside0.mk (blk_below (g := ga) (o := .cells #[.slice A_a la.length c_a] 40 (0, 0)) BK_ga.out hB); clear BK_ga; have BK_ga := nBK; clear nBK; have hc_ga_0 : w63_.cell? ⟨ga, 0, none⟩ = some (.slice A_a la.length c_a) := (blk_cell BK_ga.out 0).trans rfl; have hf_ga_0 := blk_frozen BK_ga.out 0; clear hc_gb_0 hf_gb_0; have nBK := Aside0.mk (blk_below (g := gb) (o := .cells #[.slice A_b la.length c_b] 40 (0, 0)) BK_gb.out hB); clear BK_gb; have BK_gb := nBK; clear nBK; have hc_gb_0 : w63_.cell? ⟨gb, 0, none⟩ = some (.slice A_b la.length c_b) := (blk_cell BK_gb.out 0).trans rfl; have hf_gb_0 := blk_frozen BK_gb.out 0; clear hc_gc_0 hf_gc_0; have nBK := Aside0.mk (blk_below (g := gc) (o := .cells #[.slice A_c lc.length c_c] 40 (0, 0)) BK_gc.out hB); clear BK_gc; have BK_gc := nBK; clear nBK; have hc_gc_0 : w63_.cell? ⟨gc, 0, none⟩ = some (.slice A_c lc.length c_c) := (blk_cell BK_gc.out 0).trans rfl; have hf_gc_0 := blk_frozen BK_gc.out 0; have nHC := Aside0.mk (Kd.C_below HC_a.out hB); clear HC_a; have HC_a := nHC; clear nHC; have nHC := Aside0.mk (Kd.C_below HC_b.out hB); clear HC_b; have HC_b := nHC; clear nHC; have nHC := Aside0.mk (Kd.C_below HC_c.out hB); clear HC_c; have HC_c := nHC; clear nHC; clear hB) | (go_at_call 16; with_reducible refine (same7_w HSC.out _ _ _ _ _ HC_c.out HK_c.out (Kd.C_below HC_l.out HB.out) HK_l.out).mono ?_; rintro e w64_ ⟨rfl, hB⟩; have nHB := Aside0.mk (HB.out.trans (hB.mono HB.out.size)); clear HB; have HB := nHB; clear nHB; clear hc_gh_0 hf_gh_0; have nBK := Aside0.mk (blk_below (g := gh) (o := .cells #[.slice A_l l.length c_l] 40 (0, 0)) BK_gh.out hB); clear BK_gh; have BK_gh := nBK; clear nBK; have hc_gh_0 : w64_.cell? ⟨gh, 0, none⟩ = some (.slice A_l l.length c_l) := (blk_cell BK_gh.out 0).trans rfl; have hf_gh_0 := blk_frozen BK_gh.out 0; clear hc_gs_0 hf_gs_0 hc_gs_1 hf_gs_1 hc_gs_2 hf_gs_2 hc_gs_3 hf_gs_3; have nBK := Aside0.mk (blk_below (g := gs) (o := .cells #[.int .i64 s.f0, .int .u32 s.f1, .bool s.f2.f0, .slice A_s s.f2.f1.length c_s] 42 (0, 0)) BK_gs.out hB); clear BK_gs; have BK_gs := nBK; clear nBK; have hc_gs_0 : w64_.cell? ⟨gs, 0, none⟩ = some (.int .i64 s.f0) := (blk_cell BK_gs.out 0).trans rfl; have hf_gs_0 := blk_frozen BK_gs.out 0; have hc_gs_1 : w64_.cell? ⟨gs, 1, none⟩ = some (.int .u32 s.f1) := (blk_cell BK_gs.out 1).trans rfl; have hf_gs_1 := blk_frozen BK_gs.out 1; have hc_gs_2 : w64_.cell? ⟨gs, 2, none⟩ = some (.bool s.f2.f0) := (blk_cell BK_gs.out 2).trans rfl; have hf_gs_2 := blk_frozen BK_gs.out 2; have hc_gs_3 : w64_.cell? ⟨gs, 3, none⟩ = some (.slice A_s s.f2.f1.length c_s) := (blk_cell BK_gs.out 3).trans rfl; have hf_gs_3 := blk_frozen BK_gs.out 3; clear hc_ga_0 hf_ga_0; have nBK := Aside0.mk (blk_below (g := ga) (o := .cells #[.slice A_a la.length c_a] 40 (0, 0)) BK_ga.out hB); clear BK_ga; have BK_ga := nBK; clear nBK; have hc_ga_0 : w64_.cell? ⟨ga, 0, none⟩ = some (.slice A_a la.length c_a) := (blk_cell BK_ga.out 0).trans rfl; have hf_ga_0 := blk_frozen BK_ga.out 0; clear hc_gb_0 hf_gb_0; have nBK := Aside0.mk (blk_below (g := gb) (o := .cells #[.slice A_b la.length c_b] 40 (0, 0)) BK_gb.out hB); clear BK_gb; have BK_gb := nBK; clear nBK; have hc_gb_0 : w64_.cell? ⟨gb, 0, none⟩ = some (.slice A_b la.length c_b) := (blk_cell BK_gb.out 0).trans rfl; have hf_gb_0 := blk_frozen BK_gb.out 0; clear hc_gc_0 hf_gc_0; have nBK := Aside0.mk (blk_below (g := gc) (o := .cells #[.slice A_c lc.length c_c] 40 (0, 0)) BK_gc.out hB); clear BK_gc; have BK_gc := nBK; clear nBK; have hc_gc_0 : w64_.cell? ⟨gc, 0, none⟩ = some (.slice A_c lc.length c_c) := (blk_cell BK_gc.out 0).trans rfl; have hf_gc_0 := blk_frozen BK_gc.out 0; have nHC := Aside0.mk (Kd.C_below HC_a.out hB); clear HC_a; have HC_a := nHC; clear nHC; have nHC := Aside0.mk (Kd.C_below HC_b.out hB); clear HC_b; have HC_b := nHC; clear nHC; have nHC := Aside0.mk (Kd.C_below HC_c.out hB); clear HC_c; have HC_c := nHC; clear nHC; clear hB))
        go_ret
        exact ⟨rfl, HB.out⟩
      | true =>
        go_wp2_with (first | (go_at_call 14; with_reducible refine (right7_w Xhra.out _ _ _ HC_a.out HK_a.out).mono ?_; rintro e w61_ ⟨rfl, hB⟩; have nHB := Aside0.mk (HB.out.trans (hB.mono HB.out.size)); clear HB; have HB := nHB; clear nHB; clear hc_gh_0 hf_gh_0; have nBK := Aside0.mk (blk_below (g := gh) (o := .cells #[.slice A_l l.length c_l] 40 (0, 0)) BK_gh.out hB); clear BK_gh; have BK_gh := nBK; clear nBK; have hc_gh_0 : w61_.cell? ⟨gh, 0, none⟩ = some (.slice A_l l.length c_l) := (blk_cell BK_gh.out 0).trans rfl; have hf_gh_0 := blk_frozen BK_gh.out 0; clear hc_gs_0 hf_gs_0 hc_gs_1 hf_gs_1 hc_gs_2 hf_gs_2 hc_gs_3 hf_gs_3; have nBK := Aside0.mk (blk_below (g := gs) (o := .cells #[.int .i64 s.f0, .int .u32 s.f1, .bool s.f2.f0, .slice A_s s.f2.f1.length c_s] 42 (0, 0)) BK_gs.out hB); clear BK_gs; have BK_gs := nBK; clear nBK; have hc_gs_0 : w61_.cell? ⟨gs, 0, none⟩ = some (.int .i64 s.f0) := (blk_cell BK_gs.out 0).trans rfl; have hf_gs_0 := blk_frozen BK_gs.out 0; have hc_gs_1 : w61_.cell? ⟨gs, 1, none⟩ = some (.int .u32 s.f1) := (blk_cell BK_gs.out 1).trans rfl; have hf_gs_1 := blk_frozen BK_gs.out 1; have hc_gs_2 : w61_.cell? ⟨gs, 2, none⟩ = some (.bool s.f2.f0) := (blk_cell BK_gs.out 2).trans rfl; have hf_gs_2 := blk_frozen BK_gs.out 2; have hc_gs_3 : w61_.cell? ⟨gs, 3, none⟩ = some (.slice A_s s.f2.f1.length c_s) := (blk_cell BK_gs.out 3).trans rfl; have hf_gs_3 := blk_frozen BK_gs.out 3; clear hc_ga_0 hf_ga_0; have nBK := Aside0.mk (blk_below (g := ga) (o := .cells #[.slice A_a la.length c_a] 40 (0, 0)) BK_ga.out hB); clear BK_ga; have BK_ga := nBK; clear nBK; have hc_ga_0 : w61_.cell? ⟨ga, 0, none⟩ = some (.slice A_a la.length c_a) := (blk_cell BK_ga.out 0).trans rfl; have hf_ga_0 := blk_frozen BK_ga.out 0; clear hc_gb_0 hf_gb_0; have nBK := Aside0.mk (blk_below (g := gb) (o := .cells #[.slice A_b la.length c_b] 40 (0, 0)) BK_gb.out hB); clear BK_gb; have BK_gb := nBK; clear nBK; have hc_gb_0 : w61_.cell? ⟨gb, 0, none⟩ = some (.slice A_b la.length c_b) := (blk_cell BK_gb.out 0).trans rfl; have hf_gb_0 := blk_frozen BK_gb.out 0; clear hc_gc_0 hf_gc_0; have nBK := Aside0.mk (blk_below (g := gc) (o := .cells #[.slice A_c lc.length c_c] 40 (0, 0)) BK_gc.out hB); clear BK_gc; have BK_gc := nBK; clear nBK; have hc_gc_0 : w61_.cell? ⟨gc, 0, none⟩ = some (.slice A_c lc.length c_c) := (blk_cell BK_gc.out 0).trans rfl; have hf_gc_0 := blk_frozen BK_gc.out 0; have nHC := Aside0.mk (Kd.C_below HC_a.out hB); clear HC_a; have HC_a := nHC; clear nHC; have nHC := Aside0.mk (Kd.C_below HC_b.out hB); clear HC_b; have HC_b := nHC; clear nHC; have nHC := Aside0.mk (Kd.C_below HC_c.out hB); clear HC_c; have HC_c := nHC; clear nHC; clear hB) | (go_at_call 16; with_reducible refine (same7_w Xhsa.out _ _ _ _ _ HC_a.out HK_a.out HC_b.out HK_b.out).mono ?_; rintro e w62_ ⟨rfl, hB⟩; have nHB := Aside0.mk (HB.out.trans (hB.mono HB.out.size)); clear HB; have HB := nHB; clear nHB; clear hc_gh_0 hf_gh_0; have nBK := Aside0.mk (blk_below (g := gh) (o := .cells #[.slice A_l l.length c_l] 40 (0, 0)) BK_gh.out hB); clear BK_gh; have BK_gh := nBK; clear nBK; have hc_gh_0 : w62_.cell? ⟨gh, 0, none⟩ = some (.slice A_l l.length c_l) := (blk_cell BK_gh.out 0).trans rfl; have hf_gh_0 := blk_frozen BK_gh.out 0; clear hc_gs_0 hf_gs_0 hc_gs_1 hf_gs_1 hc_gs_2 hf_gs_2 hc_gs_3 hf_gs_3; have nBK := Aside0.mk (blk_below (g := gs) (o := .cells #[.int .i64 s.f0, .int .u32 s.f1, .bool s.f2.f0, .slice A_s s.f2.f1.length c_s] 42 (0, 0)) BK_gs.out hB); clear BK_gs; have BK_gs := nBK; clear nBK; have hc_gs_0 : w62_.cell? ⟨gs, 0, none⟩ = some (.int .i64 s.f0) := (blk_cell BK_gs.out 0).trans rfl; have hf_gs_0 := blk_frozen BK_gs.out 0; have hc_gs_1 : w62_.cell? ⟨gs, 1, none⟩ = some (.int .u32 s.f1) := (blk_cell BK_gs.out 1).trans rfl; have hf_gs_1 := blk_frozen BK_gs.out 1; have hc_gs_2 : w62_.cell? ⟨gs, 2, none⟩ = some (.bool s.f2.f0) := (blk_cell BK_gs.out 2).trans rfl; have hf_gs_2 := blk_frozen BK_gs.out 2; have hc_gs_3 : w62_.cell? ⟨gs, 3, none⟩ = some (.slice A_s s.f2.f1.length c_s) := (blk_cell BK_gs.out 3).trans rfl; have hf_gs_3 := blk_frozen BK_gs.out 3; clear hc_ga_0 hf_ga_0; have nBK := Aside0.mk (blk_below (g := ga) (o := .cells #[.slice A_a la.length c_a] 40 (0, 0)) BK_ga.out hB); clear BK_ga; have BK_ga := nBK; clear nBK; have hc_ga_0 : w62_.cell? ⟨ga, 0, none⟩ = some (.slice A_a la.length c_a) := (blk_cell BK_ga.out 0).trans rfl; have hf_ga_0 := blk_frozen BK_ga.out 0; clear hc_gb_0 hf_gb_0; have nBK := Aside0.mk (blk_below (g := gb) (o := .cells #[.slice A_b la.length c_b] 40 (0, 0)) BK_gb.out hB); clear BK_gb; have BK_gb := nBK; clear nBK; have hc_gb_0 : w62_.cell? ⟨gb, 0, none⟩ = some (.slice A_b la.length c_b) := (blk_cell BK_gb.out 0).trans rfl; have hf_gb_0 := blk_frozen BK_gb.out 0; clear hc_gc_0 hf_gc_0; have nBK := Aside0.mk (blk_below (g := gc) (o := .cells #[.slice A_c lc.length c_c] 40 (0, 0)) BK_gc.out hB); clear BK_gc; have BK_gc := nBK; clear nBK; have hc_gc_0 : w62_.cell? ⟨gc, 0, none⟩ = some (.slice A_c lc.length c_c) := (blk_cell BK_gc.out 0).trans rfl; have hf_gc_0 := blk_frozen BK_gc.out 0; have nHC := Aside0.mk (Kd.C_below HC_a.out hB); clear HC_a; have HC_a := nHC; clear nHC; have nHC := Aside0.mk (Kd.C_below HC_b.out hB); clear HC_b; have HC_b := nHC; clear nHC; have nHC := Aside0.mk (Kd.C_below HC_c.out hB); clear HC_c; have HC_c := nHC; clear nHC; clear hB) | (go_at_call 14; with_reducible refine (right7_w Xhrc.out _ _ _ HC_c.out HK_c.out).mono ?_; rintro e w63_ ⟨rfl, hB⟩; have nHB := Aside0.mk (HB.out.trans (hB.mono HB.out.size)); clear HB; have HB := nHB; clear nHB; clear hc_gh_0 hf_gh_0; have nBK := Aside0.mk (blk_below (g := gh) (o := .cells #[.slice A_l l.length c_l] 40 (0, 0)) BK_gh.out hB); clear BK_gh; have BK_gh := nBK; clear nBK; have hc_gh_0 : w63_.cell? ⟨gh, 0, none⟩ = some (.slice A_l l.length c_l) := (blk_cell BK_gh.out 0).trans rfl; have hf_gh_0 := blk_frozen BK_gh.out 0; clear hc_gs_0 hf_gs_0 hc_gs_1 hf_gs_1 hc_gs_2 hf_gs_2 hc_gs_3 hf_gs_3; have nBK := Aside0.mk (blk_below (g := gs) (o := .cells #[.int .i64 s.f0, .int .u32 s.f1, .bool s.f2.f0, .slice A_s s.f2.f1.length c_s] 42 (0, 0)) BK_gs.out hB); clear BK_gs; have BK_gs := nBK; clear nBK; have hc_gs_0 : w63_.cell? ⟨gs, 0, none⟩ = some (.int .i64 s.f0) := (blk_cell BK_gs.out 0).trans rfl; have hf_gs_0 := blk_frozen BK_gs.out 0; have hc_gs_1 : w63_.cell? ⟨gs, 1, none⟩ = some (.int .u32 s.f1) := (blk_cell BK_gs.out 1).trans rfl; have hf_gs_1 := blk_frozen BK_gs.out 1; have hc_gs_2 : w63_.cell? ⟨gs, 2, none⟩ = some (.bool s.f2.f0) := (blk_cell BK_gs.out 2).trans rfl; have hf_gs_2 := blk_frozen BK_gs.out 2; have hc_gs_3 : w63_.cell? ⟨gs, 3, none⟩ = some (.slice A_s s.f2.f1.length c_s) := (blk_cell BK_gs.out 3).trans rfl; have hf_gs_3 := blk_frozen BK_gs.out 3; clear hc_ga_0 hf_ga_0; have nBK := Aside0.mk (blk_below (g := ga) (o := .cells #[.slice A_a la.length c_a] 40 (0, 0)) BK_ga.out hB); clear BK_ga; have BK_ga := nBK; clear nBK; have hc_ga_0 : w63_.cell? ⟨ga, 0, none⟩ = some (.slice A_a la.length c_a) := (blk_cell BK_ga.out 0).trans rfl; have hf_ga_0 := blk_frozen BK_ga.out 0; clear hc_gb_0 hf_gb_0; have nBK := Aside0.mk (blk_below (g := gb) (o := .cells #[.slice A_b la.length c_b] 40 (0, 0)) BK_gb.out hB); clear BK_gb; have BK_gb := nBK; clear nBK; have hc_gb_0 : w63_.cell? ⟨gb, 0, none⟩ = some (.slice A_b la.length c_b) := (blk_cell BK_gb.out 0).trans rfl; have hf_gb_0 := blk_frozen BK_gb.out 0; clear hc_gc_0 hf_gc_0; have nBK := Aside0.mk (blk_below (g := gc) (o := .cells #[.slice A_c lc.length c_c] 40 (0, 0)) BK_gc.out hB); clear BK_gc; have BK_gc := nBK; clear nBK; have hc_gc_0 : w63_.cell? ⟨gc, 0, none⟩ = some (.slice A_c lc.length c_c) := (blk_cell BK_gc.out 0).trans rfl; have hf_gc_0 := blk_frozen BK_gc.out 0; have nHC := Aside0.mk (Kd.C_below HC_a.out hB); clear HC_a; have HC_a := nHC; clear nHC; have nHC := Aside0.mk (Kd.C_below HC_b.out hB); clear HC_b; have HC_b := nHC; clear nHC; have nHC := Aside0.mk (Kd.C_below HC_c.out hB); clear HC_c; have HC_c := nHC; clear nHC; clear hB))
        go_ret
        exact ⟨rfl, HB.out⟩
end Go.Proofs.Ytjncmiclpaodhaa
