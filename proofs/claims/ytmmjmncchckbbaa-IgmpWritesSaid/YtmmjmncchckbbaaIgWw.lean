/-
  IgmpWrites, walked.
-/
import Derived.Test.YtmmjmncchckbbaaIgY
namespace Go.Proofs.Ytmmjmncchckbbaa
open Go.RowKit Go.Proofs.YtmmjmncchckbbaaW.PrintWords Go.Proofs.YtmmjmncchckbbaaW.PrintLast Go.Proofs.YtmmjmncchckbbaaW.PrintMore Go.Proofs.Ytmmjmncchckbbaa.PIg
set_option linter.unusedVariables false
set_option linter.unusedSimpArgs false
def wr_T6 : Bool × List (List Nat × List Nat) := (true, [([], []), ([0], [0]), ([1], [1]), ([2, 1, 1], [1, 2]), ([1], [1]), ([4, 3, 1], [1, 4]), ([3, 5, 1], [1, 3, 5]), ([1, 6], [1, 6]), ([7, 5], [7]), ([8], [8]), ([8], [8]), ([9, 10, 8, 8], [8, 9, 10]), ([8, 11], [8, 11]), ([12, 11], [12]), ([13], [13]), ([13], [13]), ([14, 15, 13], [13, 14, 15]), ([13, 16], [13, 16]), ([17, 13], [17]), ([18], [18]), ([18], [18]), ([19, 20, 18, 18], [18, 19, 20]), ([18], [18]), ([18], [18]), ([22, 23, 21, 18], [18, 22, 23]), ([21, 24, 18], [18, 21, 24]), ([18, 25], [18, 25]), ([26, 24, 0, 1, 2, 3, 4, 5, 6, 7, 8, 9, 10, 11, 12, 13, 14, 15, 16, 17, 18, 19, 20, 21, 22, 23, 24, 25, 26], [26])])
def wr_B6 : List Nat := [0, 1, 3, 7, 3, 31, 63, 127, 255, 511, 511, 2047, 4095, 8191, 16383, 16383, 65535, 131071, 262143, 524287, 524287, 2097151, 524287, 524287, 16777215, 33554431, 67108863, 134217727]
theorem wr_t6 : rtab .any (opsOf Try.f3 6) = wr_T6 := by kernel_rfl
theorem wr_b6 : waitsOk wr_T6.2 wr_B6 = true := by kernel_rfl
set_option maxHeartbeats 8000000 in
set_option maxRecDepth 100000 in
theorem writes_few1 {m n : Msg} (hf : fewB m = false) (l1 : m.srcs.length ≤ 140737488351232) (l2 : m.recs.length ≤ 140737488351232) (l3 : ∀ r ∈ m.recs, r.f2.length ≤ 140737488351232) (nl1 : n.srcs.length ≤ 140737488351232) (nl2 : n.recs.length ≤ 140737488351232) (nl3 : ∀ r ∈ n.recs, r.f2.length ≤ 140737488351232) (A_s : Option Addr) (c_s : Nat) (A_r : Option Addr) (c_r : Nat) (w : World) (hss : Kd.C (Kd.int .u32) w A_s m.srcs.length m.srcs) (hscs : m.srcs.length ≤ c_s) (hrr : Kd.C k44 w A_r m.recs.length m.recs) (hrcr : m.recs.length ≤ c_r) (A_t : Option Addr) (c_t : Nat) (A_u : Option Addr) (c_u : Nat) (hst : Kd.C (Kd.int .u32) w A_t n.srcs.length n.srcs) (hsct : n.srcs.length ≤ c_t) (hru : Kd.C k44 w A_u n.recs.length n.recs) (hrcu : n.recs.length ≤ c_u) :
    Calls Try.prog 3 #[.agg #[.int .u8 m.k, .int .i64 m.ver, .int .u8 m.code, .int .u32 m.grp, .bool m.quiet, .int .u8 m.rob, .int .u8 m.every, .slice A_s m.srcs.length c_s, .slice A_r m.recs.length c_r], .agg #[.int .u8 n.k, .int .i64 n.ver, .int .u8 n.code, .int .u32 n.grp, .bool n.quiet, .int .u8 n.rob, .int .u8 n.every, .slice A_t n.srcs.length c_t, .slice A_u n.recs.length c_u]] w fun e w' => e = .returned (.bool true) ∧ Below w.heap.size w w' := by
  have hu27 := Try.underlying27
  have HB := Aside0.mk (Below.refl w.heap.size w)
  have HC_s := Aside0.mk hss
  have HK_s := Aside0.mk hscs
  have HC_r := Aside0.mk hrr
  have HK_r := Aside0.mk hrcr
  clear hss hscs hrr hrcr
  have HC_t := Aside0.mk hst
  have HK_t := Aside0.mk hsct
  have HC_u := Aside0.mk hru
  have HK_u := Aside0.mk hrcu
  clear hst hsct hru hrcu
  have Xhf := Aside0.mk hf
  clear hf
  have Xl1 := Aside0.mk l1
  clear l1
  have Xl2 := Aside0.mk l2
  clear l2
  have Xl3 := Aside0.mk l3
  clear l3
  have Xnl1 := Aside0.mk nl1
  clear nl1
  have Xnl2 := Aside0.mk nl2
  clear nl2
  have Xnl3 := Aside0.mk nl3
  clear nl3
  go_enter Try.func3, Try.ntmps3
  go_wp2_with (first | ((with_reducible refine gate_dst (N := 2) rfl ?_); (try (refine gate_guard (by rfl) ?_; dsimp only)); refine box_event ?hg (N := 2) ?hd (cs := #[.int .u8 m.k, .int .i64 m.ver, .int .u8 m.code, .int .u32 m.grp, .bool m.quiet, .int .u8 m.rob, .int .u8 m.every, .slice A_s m.srcs.length c_s, .slice A_r m.recs.length c_r]) (t := 27) ?hr ?_; (case hd => rfl); (case hg => rfl); (case hr => first | (go_simp; done) | (go_simp; rfl)); intro gm hg w1_ hbox hB; have HBo := Aside0.mk HB.out; have nHB := Aside0.mk (HB.out.trans (hB.mono HB.out.size)); clear HB; have HB := nHB; clear nHB; have BK_gm := Aside0.mk hbox; have GE_gm := Aside0.mk (show w.heap.size ≤ gm by rw [hg]; exact HBo.out.size); clear hg hbox hB; have hc_gm_0 : w1_.cell? ⟨gm, 0, none⟩ = some (.int .u8 m.k) := (blk_cell BK_gm.out 0).trans rfl; have hf_gm_0 := blk_frozen BK_gm.out 0; have hc_gm_1 : w1_.cell? ⟨gm, 1, none⟩ = some (.int .i64 m.ver) := (blk_cell BK_gm.out 1).trans rfl; have hf_gm_1 := blk_frozen BK_gm.out 1; have hc_gm_2 : w1_.cell? ⟨gm, 2, none⟩ = some (.int .u8 m.code) := (blk_cell BK_gm.out 2).trans rfl; have hf_gm_2 := blk_frozen BK_gm.out 2; have hc_gm_3 : w1_.cell? ⟨gm, 3, none⟩ = some (.int .u32 m.grp) := (blk_cell BK_gm.out 3).trans rfl; have hf_gm_3 := blk_frozen BK_gm.out 3; have hc_gm_4 : w1_.cell? ⟨gm, 4, none⟩ = some (.bool m.quiet) := (blk_cell BK_gm.out 4).trans rfl; have hf_gm_4 := blk_frozen BK_gm.out 4; have hc_gm_5 : w1_.cell? ⟨gm, 5, none⟩ = some (.int .u8 m.rob) := (blk_cell BK_gm.out 5).trans rfl; have hf_gm_5 := blk_frozen BK_gm.out 5; have hc_gm_6 : w1_.cell? ⟨gm, 6, none⟩ = some (.int .u8 m.every) := (blk_cell BK_gm.out 6).trans rfl; have hf_gm_6 := blk_frozen BK_gm.out 6; have hc_gm_7 : w1_.cell? ⟨gm, 7, none⟩ = some (.slice A_s m.srcs.length c_s) := (blk_cell BK_gm.out 7).trans rfl; have hf_gm_7 := blk_frozen BK_gm.out 7; have hc_gm_8 : w1_.cell? ⟨gm, 8, none⟩ = some (.slice A_r m.recs.length c_r) := (blk_cell BK_gm.out 8).trans rfl; have hf_gm_8 := blk_frozen BK_gm.out 8; clear HBo) | ((with_reducible refine gate_dst (N := 3) rfl ?_); (try (refine gate_guard (by rfl) ?_; dsimp only)); refine box_event ?hg (N := 3) ?hd (cs := #[.int .u8 n.k, .int .i64 n.ver, .int .u8 n.code, .int .u32 n.grp, .bool n.quiet, .int .u8 n.rob, .int .u8 n.every, .slice A_t n.srcs.length c_t, .slice A_u n.recs.length c_u]) (t := 27) ?hr ?_; (case hd => rfl); (case hg => rfl); (case hr => first | (go_simp; done) | (go_simp; rfl)); intro gn hg w2_ hbox hB; have HBo := Aside0.mk HB.out; have BK0_gm := Aside0.mk BK_gm.out; have nHB := Aside0.mk (HB.out.trans (hB.mono HB.out.size)); clear HB; have HB := nHB; clear nHB; clear hc_gm_0 hf_gm_0 hc_gm_1 hf_gm_1 hc_gm_2 hf_gm_2 hc_gm_3 hf_gm_3 hc_gm_4 hf_gm_4 hc_gm_5 hf_gm_5 hc_gm_6 hf_gm_6 hc_gm_7 hf_gm_7 hc_gm_8 hf_gm_8; have nBK := Aside0.mk (blk_below (g := gm) (o := .cells #[.int .u8 m.k, .int .i64 m.ver, .int .u8 m.code, .int .u32 m.grp, .bool m.quiet, .int .u8 m.rob, .int .u8 m.every, .slice A_s m.srcs.length c_s, .slice A_r m.recs.length c_r] 27 (0, 0)) BK_gm.out hB); clear BK_gm; have BK_gm := nBK; clear nBK; have hc_gm_0 : w2_.cell? ⟨gm, 0, none⟩ = some (.int .u8 m.k) := (blk_cell BK_gm.out 0).trans rfl; have hf_gm_0 := blk_frozen BK_gm.out 0; have hc_gm_1 : w2_.cell? ⟨gm, 1, none⟩ = some (.int .i64 m.ver) := (blk_cell BK_gm.out 1).trans rfl; have hf_gm_1 := blk_frozen BK_gm.out 1; have hc_gm_2 : w2_.cell? ⟨gm, 2, none⟩ = some (.int .u8 m.code) := (blk_cell BK_gm.out 2).trans rfl; have hf_gm_2 := blk_frozen BK_gm.out 2; have hc_gm_3 : w2_.cell? ⟨gm, 3, none⟩ = some (.int .u32 m.grp) := (blk_cell BK_gm.out 3).trans rfl; have hf_gm_3 := blk_frozen BK_gm.out 3; have hc_gm_4 : w2_.cell? ⟨gm, 4, none⟩ = some (.bool m.quiet) := (blk_cell BK_gm.out 4).trans rfl; have hf_gm_4 := blk_frozen BK_gm.out 4; have hc_gm_5 : w2_.cell? ⟨gm, 5, none⟩ = some (.int .u8 m.rob) := (blk_cell BK_gm.out 5).trans rfl; have hf_gm_5 := blk_frozen BK_gm.out 5; have hc_gm_6 : w2_.cell? ⟨gm, 6, none⟩ = some (.int .u8 m.every) := (blk_cell BK_gm.out 6).trans rfl; have hf_gm_6 := blk_frozen BK_gm.out 6; have hc_gm_7 : w2_.cell? ⟨gm, 7, none⟩ = some (.slice A_s m.srcs.length c_s) := (blk_cell BK_gm.out 7).trans rfl; have hf_gm_7 := blk_frozen BK_gm.out 7; have hc_gm_8 : w2_.cell? ⟨gm, 8, none⟩ = some (.slice A_r m.recs.length c_r) := (blk_cell BK_gm.out 8).trans rfl; have hf_gm_8 := blk_frozen BK_gm.out 8; have BK_gn := Aside0.mk hbox; have GE_gn := Aside0.mk (show w.heap.size ≤ gn by rw [hg]; exact HBo.out.size); have NB_gn_gm := Aside0.mk (show gn ≠ gm by rw [hg]; exact Nat.ne_of_gt (blk_lt (g := gm) (o := .cells #[.int .u8 m.k, .int .i64 m.ver, .int .u8 m.code, .int .u32 m.grp, .bool m.quiet, .int .u8 m.rob, .int .u8 m.every, .slice A_s m.srcs.length c_s, .slice A_r m.recs.length c_r] 27 (0, 0)) BK0_gm.out)); have NB_gm_gn := Aside0.mk (Ne.symm NB_gn_gm.out); clear BK0_gm; clear hg hbox hB; have hc_gn_0 : w2_.cell? ⟨gn, 0, none⟩ = some (.int .u8 n.k) := (blk_cell BK_gn.out 0).trans rfl; have hf_gn_0 := blk_frozen BK_gn.out 0; have hc_gn_1 : w2_.cell? ⟨gn, 1, none⟩ = some (.int .i64 n.ver) := (blk_cell BK_gn.out 1).trans rfl; have hf_gn_1 := blk_frozen BK_gn.out 1; have hc_gn_2 : w2_.cell? ⟨gn, 2, none⟩ = some (.int .u8 n.code) := (blk_cell BK_gn.out 2).trans rfl; have hf_gn_2 := blk_frozen BK_gn.out 2; have hc_gn_3 : w2_.cell? ⟨gn, 3, none⟩ = some (.int .u32 n.grp) := (blk_cell BK_gn.out 3).trans rfl; have hf_gn_3 := blk_frozen BK_gn.out 3; have hc_gn_4 : w2_.cell? ⟨gn, 4, none⟩ = some (.bool n.quiet) := (blk_cell BK_gn.out 4).trans rfl; have hf_gn_4 := blk_frozen BK_gn.out 4; have hc_gn_5 : w2_.cell? ⟨gn, 5, none⟩ = some (.int .u8 n.rob) := (blk_cell BK_gn.out 5).trans rfl; have hf_gn_5 := blk_frozen BK_gn.out 5; have hc_gn_6 : w2_.cell? ⟨gn, 6, none⟩ = some (.int .u8 n.every) := (blk_cell BK_gn.out 6).trans rfl; have hf_gn_6 := blk_frozen BK_gn.out 6; have hc_gn_7 : w2_.cell? ⟨gn, 7, none⟩ = some (.slice A_t n.srcs.length c_t) := (blk_cell BK_gn.out 7).trans rfl; have hf_gn_7 := blk_frozen BK_gn.out 7; have hc_gn_8 : w2_.cell? ⟨gn, 8, none⟩ = some (.slice A_u n.recs.length c_u) := (blk_cell BK_gn.out 8).trans rfl; have hf_gn_8 := blk_frozen BK_gn.out 8; clear HBo) | (go_at_call 11; with_reducible refine (shown_calls _).mono ?_; rintro e w3_ ⟨rfl, hB⟩; have nHB := Aside0.mk (HB.out.trans (hB.mono HB.out.size)); clear HB; have HB := nHB; clear nHB; clear hc_gm_0 hf_gm_0 hc_gm_1 hf_gm_1 hc_gm_2 hf_gm_2 hc_gm_3 hf_gm_3 hc_gm_4 hf_gm_4 hc_gm_5 hf_gm_5 hc_gm_6 hf_gm_6 hc_gm_7 hf_gm_7 hc_gm_8 hf_gm_8; have nBK := Aside0.mk (blk_below (g := gm) (o := .cells #[.int .u8 m.k, .int .i64 m.ver, .int .u8 m.code, .int .u32 m.grp, .bool m.quiet, .int .u8 m.rob, .int .u8 m.every, .slice A_s m.srcs.length c_s, .slice A_r m.recs.length c_r] 27 (0, 0)) BK_gm.out hB); clear BK_gm; have BK_gm := nBK; clear nBK; have hc_gm_0 : w3_.cell? ⟨gm, 0, none⟩ = some (.int .u8 m.k) := (blk_cell BK_gm.out 0).trans rfl; have hf_gm_0 := blk_frozen BK_gm.out 0; have hc_gm_1 : w3_.cell? ⟨gm, 1, none⟩ = some (.int .i64 m.ver) := (blk_cell BK_gm.out 1).trans rfl; have hf_gm_1 := blk_frozen BK_gm.out 1; have hc_gm_2 : w3_.cell? ⟨gm, 2, none⟩ = some (.int .u8 m.code) := (blk_cell BK_gm.out 2).trans rfl; have hf_gm_2 := blk_frozen BK_gm.out 2; have hc_gm_3 : w3_.cell? ⟨gm, 3, none⟩ = some (.int .u32 m.grp) := (blk_cell BK_gm.out 3).trans rfl; have hf_gm_3 := blk_frozen BK_gm.out 3; have hc_gm_4 : w3_.cell? ⟨gm, 4, none⟩ = some (.bool m.quiet) := (blk_cell BK_gm.out 4).trans rfl; have hf_gm_4 := blk_frozen BK_gm.out 4; have hc_gm_5 : w3_.cell? ⟨gm, 5, none⟩ = some (.int .u8 m.rob) := (blk_cell BK_gm.out 5).trans rfl; have hf_gm_5 := blk_frozen BK_gm.out 5; have hc_gm_6 : w3_.cell? ⟨gm, 6, none⟩ = some (.int .u8 m.every) := (blk_cell BK_gm.out 6).trans rfl; have hf_gm_6 := blk_frozen BK_gm.out 6; have hc_gm_7 : w3_.cell? ⟨gm, 7, none⟩ = some (.slice A_s m.srcs.length c_s) := (blk_cell BK_gm.out 7).trans rfl; have hf_gm_7 := blk_frozen BK_gm.out 7; have hc_gm_8 : w3_.cell? ⟨gm, 8, none⟩ = some (.slice A_r m.recs.length c_r) := (blk_cell BK_gm.out 8).trans rfl; have hf_gm_8 := blk_frozen BK_gm.out 8; clear hc_gn_0 hf_gn_0 hc_gn_1 hf_gn_1 hc_gn_2 hf_gn_2 hc_gn_3 hf_gn_3 hc_gn_4 hf_gn_4 hc_gn_5 hf_gn_5 hc_gn_6 hf_gn_6 hc_gn_7 hf_gn_7 hc_gn_8 hf_gn_8; have nBK := Aside0.mk (blk_below (g := gn) (o := .cells #[.int .u8 n.k, .int .i64 n.ver, .int .u8 n.code, .int .u32 n.grp, .bool n.quiet, .int .u8 n.rob, .int .u8 n.every, .slice A_t n.srcs.length c_t, .slice A_u n.recs.length c_u] 27 (0, 0)) BK_gn.out hB); clear BK_gn; have BK_gn := nBK; clear nBK; have hc_gn_0 : w3_.cell? ⟨gn, 0, none⟩ = some (.int .u8 n.k) := (blk_cell BK_gn.out 0).trans rfl; have hf_gn_0 := blk_frozen BK_gn.out 0; have hc_gn_1 : w3_.cell? ⟨gn, 1, none⟩ = some (.int .i64 n.ver) := (blk_cell BK_gn.out 1).trans rfl; have hf_gn_1 := blk_frozen BK_gn.out 1; have hc_gn_2 : w3_.cell? ⟨gn, 2, none⟩ = some (.int .u8 n.code) := (blk_cell BK_gn.out 2).trans rfl; have hf_gn_2 := blk_frozen BK_gn.out 2; have hc_gn_3 : w3_.cell? ⟨gn, 3, none⟩ = some (.int .u32 n.grp) := (blk_cell BK_gn.out 3).trans rfl; have hf_gn_3 := blk_frozen BK_gn.out 3; have hc_gn_4 : w3_.cell? ⟨gn, 4, none⟩ = some (.bool n.quiet) := (blk_cell BK_gn.out 4).trans rfl; have hf_gn_4 := blk_frozen BK_gn.out 4; have hc_gn_5 : w3_.cell? ⟨gn, 5, none⟩ = some (.int .u8 n.rob) := (blk_cell BK_gn.out 5).trans rfl; have hf_gn_5 := blk_frozen BK_gn.out 5; have hc_gn_6 : w3_.cell? ⟨gn, 6, none⟩ = some (.int .u8 n.every) := (blk_cell BK_gn.out 6).trans rfl; have hf_gn_6 := blk_frozen BK_gn.out 6; have hc_gn_7 : w3_.cell? ⟨gn, 7, none⟩ = some (.slice A_t n.srcs.length c_t) := (blk_cell BK_gn.out 7).trans rfl; have hf_gn_7 := blk_frozen BK_gn.out 7; have hc_gn_8 : w3_.cell? ⟨gn, 8, none⟩ = some (.slice A_u n.recs.length c_u) := (blk_cell BK_gn.out 8).trans rfl; have hf_gn_8 := blk_frozen BK_gn.out 8; clear hB) | (go_at_call 12; with_reducible refine (few_w Xhf.out Xl1.out Xl2.out Xl3.out _ _ _ _ _ (Kd.C_below HC_s.out HB.out) HK_s.out (Kd.C_below HC_r.out HB.out) HK_r.out).mono ?_; rintro e w4_ ⟨rfl, hB⟩; have nHB := Aside0.mk (HB.out.trans (hB.mono HB.out.size)); clear HB; have HB := nHB; clear nHB; clear hc_gm_0 hf_gm_0 hc_gm_1 hf_gm_1 hc_gm_2 hf_gm_2 hc_gm_3 hf_gm_3 hc_gm_4 hf_gm_4 hc_gm_5 hf_gm_5 hc_gm_6 hf_gm_6 hc_gm_7 hf_gm_7 hc_gm_8 hf_gm_8; have nBK := Aside0.mk (blk_below (g := gm) (o := .cells #[.int .u8 m.k, .int .i64 m.ver, .int .u8 m.code, .int .u32 m.grp, .bool m.quiet, .int .u8 m.rob, .int .u8 m.every, .slice A_s m.srcs.length c_s, .slice A_r m.recs.length c_r] 27 (0, 0)) BK_gm.out hB); clear BK_gm; have BK_gm := nBK; clear nBK; have hc_gm_0 : w4_.cell? ⟨gm, 0, none⟩ = some (.int .u8 m.k) := (blk_cell BK_gm.out 0).trans rfl; have hf_gm_0 := blk_frozen BK_gm.out 0; have hc_gm_1 : w4_.cell? ⟨gm, 1, none⟩ = some (.int .i64 m.ver) := (blk_cell BK_gm.out 1).trans rfl; have hf_gm_1 := blk_frozen BK_gm.out 1; have hc_gm_2 : w4_.cell? ⟨gm, 2, none⟩ = some (.int .u8 m.code) := (blk_cell BK_gm.out 2).trans rfl; have hf_gm_2 := blk_frozen BK_gm.out 2; have hc_gm_3 : w4_.cell? ⟨gm, 3, none⟩ = some (.int .u32 m.grp) := (blk_cell BK_gm.out 3).trans rfl; have hf_gm_3 := blk_frozen BK_gm.out 3; have hc_gm_4 : w4_.cell? ⟨gm, 4, none⟩ = some (.bool m.quiet) := (blk_cell BK_gm.out 4).trans rfl; have hf_gm_4 := blk_frozen BK_gm.out 4; have hc_gm_5 : w4_.cell? ⟨gm, 5, none⟩ = some (.int .u8 m.rob) := (blk_cell BK_gm.out 5).trans rfl; have hf_gm_5 := blk_frozen BK_gm.out 5; have hc_gm_6 : w4_.cell? ⟨gm, 6, none⟩ = some (.int .u8 m.every) := (blk_cell BK_gm.out 6).trans rfl; have hf_gm_6 := blk_frozen BK_gm.out 6; have hc_gm_7 : w4_.cell? ⟨gm, 7, none⟩ = some (.slice A_s m.srcs.length c_s) := (blk_cell BK_gm.out 7).trans rfl; have hf_gm_7 := blk_frozen BK_gm.out 7; have hc_gm_8 : w4_.cell? ⟨gm, 8, none⟩ = some (.slice A_r m.recs.length c_r) := (blk_cell BK_gm.out 8).trans rfl; have hf_gm_8 := blk_frozen BK_gm.out 8; clear hc_gn_0 hf_gn_0 hc_gn_1 hf_gn_1 hc_gn_2 hf_gn_2 hc_gn_3 hf_gn_3 hc_gn_4 hf_gn_4 hc_gn_5 hf_gn_5 hc_gn_6 hf_gn_6 hc_gn_7 hf_gn_7 hc_gn_8 hf_gn_8; have nBK := Aside0.mk (blk_below (g := gn) (o := .cells #[.int .u8 n.k, .int .i64 n.ver, .int .u8 n.code, .int .u32 n.grp, .bool n.quiet, .int .u8 n.rob, .int .u8 n.every, .slice A_t n.srcs.length c_t, .slice A_u n.recs.length c_u] 27 (0, 0)) BK_gn.out hB); clear BK_gn; have BK_gn := nBK; clear nBK; have hc_gn_0 : w4_.cell? ⟨gn, 0, none⟩ = some (.int .u8 n.k) := (blk_cell BK_gn.out 0).trans rfl; have hf_gn_0 := blk_frozen BK_gn.out 0; have hc_gn_1 : w4_.cell? ⟨gn, 1, none⟩ = some (.int .i64 n.ver) := (blk_cell BK_gn.out 1).trans rfl; have hf_gn_1 := blk_frozen BK_gn.out 1; have hc_gn_2 : w4_.cell? ⟨gn, 2, none⟩ = some (.int .u8 n.code) := (blk_cell BK_gn.out 2).trans rfl; have hf_gn_2 := blk_frozen BK_gn.out 2; have hc_gn_3 : w4_.cell? ⟨gn, 3, none⟩ = some (.int .u32 n.grp) := (blk_cell BK_gn.out 3).trans rfl; have hf_gn_3 := blk_frozen BK_gn.out 3; have hc_gn_4 : w4_.cell? ⟨gn, 4, none⟩ = some (.bool n.quiet) := (blk_cell BK_gn.out 4).trans rfl; have hf_gn_4 := blk_frozen BK_gn.out 4; have hc_gn_5 : w4_.cell? ⟨gn, 5, none⟩ = some (.int .u8 n.rob) := (blk_cell BK_gn.out 5).trans rfl; have hf_gn_5 := blk_frozen BK_gn.out 5; have hc_gn_6 : w4_.cell? ⟨gn, 6, none⟩ = some (.int .u8 n.every) := (blk_cell BK_gn.out 6).trans rfl; have hf_gn_6 := blk_frozen BK_gn.out 6; have hc_gn_7 : w4_.cell? ⟨gn, 7, none⟩ = some (.slice A_t n.srcs.length c_t) := (blk_cell BK_gn.out 7).trans rfl; have hf_gn_7 := blk_frozen BK_gn.out 7; have hc_gn_8 : w4_.cell? ⟨gn, 8, none⟩ = some (.slice A_u n.recs.length c_u) := (blk_cell BK_gn.out 8).trans rfl; have hf_gn_8 := blk_frozen BK_gn.out 8; clear hB))
  go_ret
  exact ⟨rfl, HB.out⟩
set_option maxHeartbeats 8000000 in
set_option maxRecDepth 100000 in
theorem writes_few2 {m n : Msg} (hf : fewB m = true) (hg : fewB n = false) (l1 : m.srcs.length ≤ 140737488351232) (l2 : m.recs.length ≤ 140737488351232) (l3 : ∀ r ∈ m.recs, r.f2.length ≤ 140737488351232) (nl1 : n.srcs.length ≤ 140737488351232) (nl2 : n.recs.length ≤ 140737488351232) (nl3 : ∀ r ∈ n.recs, r.f2.length ≤ 140737488351232) (A_s : Option Addr) (c_s : Nat) (A_r : Option Addr) (c_r : Nat) (w : World) (hss : Kd.C (Kd.int .u32) w A_s m.srcs.length m.srcs) (hscs : m.srcs.length ≤ c_s) (hrr : Kd.C k44 w A_r m.recs.length m.recs) (hrcr : m.recs.length ≤ c_r) (A_t : Option Addr) (c_t : Nat) (A_u : Option Addr) (c_u : Nat) (hst : Kd.C (Kd.int .u32) w A_t n.srcs.length n.srcs) (hsct : n.srcs.length ≤ c_t) (hru : Kd.C k44 w A_u n.recs.length n.recs) (hrcu : n.recs.length ≤ c_u) :
    Calls Try.prog 3 #[.agg #[.int .u8 m.k, .int .i64 m.ver, .int .u8 m.code, .int .u32 m.grp, .bool m.quiet, .int .u8 m.rob, .int .u8 m.every, .slice A_s m.srcs.length c_s, .slice A_r m.recs.length c_r], .agg #[.int .u8 n.k, .int .i64 n.ver, .int .u8 n.code, .int .u32 n.grp, .bool n.quiet, .int .u8 n.rob, .int .u8 n.every, .slice A_t n.srcs.length c_t, .slice A_u n.recs.length c_u]] w fun e w' => e = .returned (.bool true) ∧ Below w.heap.size w w' := by
  have hu27 := Try.underlying27
  have HB := Aside0.mk (Below.refl w.heap.size w)
  have HC_s := Aside0.mk hss
  have HK_s := Aside0.mk hscs
  have HC_r := Aside0.mk hrr
  have HK_r := Aside0.mk hrcr
  clear hss hscs hrr hrcr
  have HC_t := Aside0.mk hst
  have HK_t := Aside0.mk hsct
  have HC_u := Aside0.mk hru
  have HK_u := Aside0.mk hrcu
  clear hst hsct hru hrcu
  have Xhf := Aside0.mk hf
  clear hf
  have Xhg := Aside0.mk hg
  clear hg
  have Xl1 := Aside0.mk l1
  clear l1
  have Xl2 := Aside0.mk l2
  clear l2
  have Xl3 := Aside0.mk l3
  clear l3
  have Xnl1 := Aside0.mk nl1
  clear nl1
  have Xnl2 := Aside0.mk nl2
  clear nl2
  have Xnl3 := Aside0.mk nl3
  clear nl3
  go_enter Try.func3, Try.ntmps3
  go_wp2_with (first | ((with_reducible refine gate_dst (N := 2) rfl ?_); (try (refine gate_guard (by rfl) ?_; dsimp only)); refine box_event ?hg (N := 2) ?hd (cs := #[.int .u8 m.k, .int .i64 m.ver, .int .u8 m.code, .int .u32 m.grp, .bool m.quiet, .int .u8 m.rob, .int .u8 m.every, .slice A_s m.srcs.length c_s, .slice A_r m.recs.length c_r]) (t := 27) ?hr ?_; (case hd => rfl); (case hg => rfl); (case hr => first | (go_simp; done) | (go_simp; rfl)); intro gm hg w1_ hbox hB; have HBo := Aside0.mk HB.out; have nHB := Aside0.mk (HB.out.trans (hB.mono HB.out.size)); clear HB; have HB := nHB; clear nHB; have BK_gm := Aside0.mk hbox; have GE_gm := Aside0.mk (show w.heap.size ≤ gm by rw [hg]; exact HBo.out.size); clear hg hbox hB; have hc_gm_0 : w1_.cell? ⟨gm, 0, none⟩ = some (.int .u8 m.k) := (blk_cell BK_gm.out 0).trans rfl; have hf_gm_0 := blk_frozen BK_gm.out 0; have hc_gm_1 : w1_.cell? ⟨gm, 1, none⟩ = some (.int .i64 m.ver) := (blk_cell BK_gm.out 1).trans rfl; have hf_gm_1 := blk_frozen BK_gm.out 1; have hc_gm_2 : w1_.cell? ⟨gm, 2, none⟩ = some (.int .u8 m.code) := (blk_cell BK_gm.out 2).trans rfl; have hf_gm_2 := blk_frozen BK_gm.out 2; have hc_gm_3 : w1_.cell? ⟨gm, 3, none⟩ = some (.int .u32 m.grp) := (blk_cell BK_gm.out 3).trans rfl; have hf_gm_3 := blk_frozen BK_gm.out 3; have hc_gm_4 : w1_.cell? ⟨gm, 4, none⟩ = some (.bool m.quiet) := (blk_cell BK_gm.out 4).trans rfl; have hf_gm_4 := blk_frozen BK_gm.out 4; have hc_gm_5 : w1_.cell? ⟨gm, 5, none⟩ = some (.int .u8 m.rob) := (blk_cell BK_gm.out 5).trans rfl; have hf_gm_5 := blk_frozen BK_gm.out 5; have hc_gm_6 : w1_.cell? ⟨gm, 6, none⟩ = some (.int .u8 m.every) := (blk_cell BK_gm.out 6).trans rfl; have hf_gm_6 := blk_frozen BK_gm.out 6; have hc_gm_7 : w1_.cell? ⟨gm, 7, none⟩ = some (.slice A_s m.srcs.length c_s) := (blk_cell BK_gm.out 7).trans rfl; have hf_gm_7 := blk_frozen BK_gm.out 7; have hc_gm_8 : w1_.cell? ⟨gm, 8, none⟩ = some (.slice A_r m.recs.length c_r) := (blk_cell BK_gm.out 8).trans rfl; have hf_gm_8 := blk_frozen BK_gm.out 8; clear HBo) | ((with_reducible refine gate_dst (N := 3) rfl ?_); (try (refine gate_guard (by rfl) ?_; dsimp only)); refine box_event ?hg (N := 3) ?hd (cs := #[.int .u8 n.k, .int .i64 n.ver, .int .u8 n.code, .int .u32 n.grp, .bool n.quiet, .int .u8 n.rob, .int .u8 n.every, .slice A_t n.srcs.length c_t, .slice A_u n.recs.length c_u]) (t := 27) ?hr ?_; (case hd => rfl); (case hg => rfl); (case hr => first | (go_simp; done) | (go_simp; rfl)); intro gn hg w2_ hbox hB; have HBo := Aside0.mk HB.out; have BK0_gm := Aside0.mk BK_gm.out; have nHB := Aside0.mk (HB.out.trans (hB.mono HB.out.size)); clear HB; have HB := nHB; clear nHB; clear hc_gm_0 hf_gm_0 hc_gm_1 hf_gm_1 hc_gm_2 hf_gm_2 hc_gm_3 hf_gm_3 hc_gm_4 hf_gm_4 hc_gm_5 hf_gm_5 hc_gm_6 hf_gm_6 hc_gm_7 hf_gm_7 hc_gm_8 hf_gm_8; have nBK := Aside0.mk (blk_below (g := gm) (o := .cells #[.int .u8 m.k, .int .i64 m.ver, .int .u8 m.code, .int .u32 m.grp, .bool m.quiet, .int .u8 m.rob, .int .u8 m.every, .slice A_s m.srcs.length c_s, .slice A_r m.recs.length c_r] 27 (0, 0)) BK_gm.out hB); clear BK_gm; have BK_gm := nBK; clear nBK; have hc_gm_0 : w2_.cell? ⟨gm, 0, none⟩ = some (.int .u8 m.k) := (blk_cell BK_gm.out 0).trans rfl; have hf_gm_0 := blk_frozen BK_gm.out 0; have hc_gm_1 : w2_.cell? ⟨gm, 1, none⟩ = some (.int .i64 m.ver) := (blk_cell BK_gm.out 1).trans rfl; have hf_gm_1 := blk_frozen BK_gm.out 1; have hc_gm_2 : w2_.cell? ⟨gm, 2, none⟩ = some (.int .u8 m.code) := (blk_cell BK_gm.out 2).trans rfl; have hf_gm_2 := blk_frozen BK_gm.out 2; have hc_gm_3 : w2_.cell? ⟨gm, 3, none⟩ = some (.int .u32 m.grp) := (blk_cell BK_gm.out 3).trans rfl; have hf_gm_3 := blk_frozen BK_gm.out 3; have hc_gm_4 : w2_.cell? ⟨gm, 4, none⟩ = some (.bool m.quiet) := (blk_cell BK_gm.out 4).trans rfl; have hf_gm_4 := blk_frozen BK_gm.out 4; have hc_gm_5 : w2_.cell? ⟨gm, 5, none⟩ = some (.int .u8 m.rob) := (blk_cell BK_gm.out 5).trans rfl; have hf_gm_5 := blk_frozen BK_gm.out 5; have hc_gm_6 : w2_.cell? ⟨gm, 6, none⟩ = some (.int .u8 m.every) := (blk_cell BK_gm.out 6).trans rfl; have hf_gm_6 := blk_frozen BK_gm.out 6; have hc_gm_7 : w2_.cell? ⟨gm, 7, none⟩ = some (.slice A_s m.srcs.length c_s) := (blk_cell BK_gm.out 7).trans rfl; have hf_gm_7 := blk_frozen BK_gm.out 7; have hc_gm_8 : w2_.cell? ⟨gm, 8, none⟩ = some (.slice A_r m.recs.length c_r) := (blk_cell BK_gm.out 8).trans rfl; have hf_gm_8 := blk_frozen BK_gm.out 8; have BK_gn := Aside0.mk hbox; have GE_gn := Aside0.mk (show w.heap.size ≤ gn by rw [hg]; exact HBo.out.size); have NB_gn_gm := Aside0.mk (show gn ≠ gm by rw [hg]; exact Nat.ne_of_gt (blk_lt (g := gm) (o := .cells #[.int .u8 m.k, .int .i64 m.ver, .int .u8 m.code, .int .u32 m.grp, .bool m.quiet, .int .u8 m.rob, .int .u8 m.every, .slice A_s m.srcs.length c_s, .slice A_r m.recs.length c_r] 27 (0, 0)) BK0_gm.out)); have NB_gm_gn := Aside0.mk (Ne.symm NB_gn_gm.out); clear BK0_gm; clear hg hbox hB; have hc_gn_0 : w2_.cell? ⟨gn, 0, none⟩ = some (.int .u8 n.k) := (blk_cell BK_gn.out 0).trans rfl; have hf_gn_0 := blk_frozen BK_gn.out 0; have hc_gn_1 : w2_.cell? ⟨gn, 1, none⟩ = some (.int .i64 n.ver) := (blk_cell BK_gn.out 1).trans rfl; have hf_gn_1 := blk_frozen BK_gn.out 1; have hc_gn_2 : w2_.cell? ⟨gn, 2, none⟩ = some (.int .u8 n.code) := (blk_cell BK_gn.out 2).trans rfl; have hf_gn_2 := blk_frozen BK_gn.out 2; have hc_gn_3 : w2_.cell? ⟨gn, 3, none⟩ = some (.int .u32 n.grp) := (blk_cell BK_gn.out 3).trans rfl; have hf_gn_3 := blk_frozen BK_gn.out 3; have hc_gn_4 : w2_.cell? ⟨gn, 4, none⟩ = some (.bool n.quiet) := (blk_cell BK_gn.out 4).trans rfl; have hf_gn_4 := blk_frozen BK_gn.out 4; have hc_gn_5 : w2_.cell? ⟨gn, 5, none⟩ = some (.int .u8 n.rob) := (blk_cell BK_gn.out 5).trans rfl; have hf_gn_5 := blk_frozen BK_gn.out 5; have hc_gn_6 : w2_.cell? ⟨gn, 6, none⟩ = some (.int .u8 n.every) := (blk_cell BK_gn.out 6).trans rfl; have hf_gn_6 := blk_frozen BK_gn.out 6; have hc_gn_7 : w2_.cell? ⟨gn, 7, none⟩ = some (.slice A_t n.srcs.length c_t) := (blk_cell BK_gn.out 7).trans rfl; have hf_gn_7 := blk_frozen BK_gn.out 7; have hc_gn_8 : w2_.cell? ⟨gn, 8, none⟩ = some (.slice A_u n.recs.length c_u) := (blk_cell BK_gn.out 8).trans rfl; have hf_gn_8 := blk_frozen BK_gn.out 8; clear HBo) | (go_at_call 11; with_reducible refine (shown_calls _).mono ?_; rintro e w3_ ⟨rfl, hB⟩; have nHB := Aside0.mk (HB.out.trans (hB.mono HB.out.size)); clear HB; have HB := nHB; clear nHB; clear hc_gm_0 hf_gm_0 hc_gm_1 hf_gm_1 hc_gm_2 hf_gm_2 hc_gm_3 hf_gm_3 hc_gm_4 hf_gm_4 hc_gm_5 hf_gm_5 hc_gm_6 hf_gm_6 hc_gm_7 hf_gm_7 hc_gm_8 hf_gm_8; have nBK := Aside0.mk (blk_below (g := gm) (o := .cells #[.int .u8 m.k, .int .i64 m.ver, .int .u8 m.code, .int .u32 m.grp, .bool m.quiet, .int .u8 m.rob, .int .u8 m.every, .slice A_s m.srcs.length c_s, .slice A_r m.recs.length c_r] 27 (0, 0)) BK_gm.out hB); clear BK_gm; have BK_gm := nBK; clear nBK; have hc_gm_0 : w3_.cell? ⟨gm, 0, none⟩ = some (.int .u8 m.k) := (blk_cell BK_gm.out 0).trans rfl; have hf_gm_0 := blk_frozen BK_gm.out 0; have hc_gm_1 : w3_.cell? ⟨gm, 1, none⟩ = some (.int .i64 m.ver) := (blk_cell BK_gm.out 1).trans rfl; have hf_gm_1 := blk_frozen BK_gm.out 1; have hc_gm_2 : w3_.cell? ⟨gm, 2, none⟩ = some (.int .u8 m.code) := (blk_cell BK_gm.out 2).trans rfl; have hf_gm_2 := blk_frozen BK_gm.out 2; have hc_gm_3 : w3_.cell? ⟨gm, 3, none⟩ = some (.int .u32 m.grp) := (blk_cell BK_gm.out 3).trans rfl; have hf_gm_3 := blk_frozen BK_gm.out 3; have hc_gm_4 : w3_.cell? ⟨gm, 4, none⟩ = some (.bool m.quiet) := (blk_cell BK_gm.out 4).trans rfl; have hf_gm_4 := blk_frozen BK_gm.out 4; have hc_gm_5 : w3_.cell? ⟨gm, 5, none⟩ = some (.int .u8 m.rob) := (blk_cell BK_gm.out 5).trans rfl; have hf_gm_5 := blk_frozen BK_gm.out 5; have hc_gm_6 : w3_.cell? ⟨gm, 6, none⟩ = some (.int .u8 m.every) := (blk_cell BK_gm.out 6).trans rfl; have hf_gm_6 := blk_frozen BK_gm.out 6; have hc_gm_7 : w3_.cell? ⟨gm, 7, none⟩ = some (.slice A_s m.srcs.length c_s) := (blk_cell BK_gm.out 7).trans rfl; have hf_gm_7 := blk_frozen BK_gm.out 7; have hc_gm_8 : w3_.cell? ⟨gm, 8, none⟩ = some (.slice A_r m.recs.length c_r) := (blk_cell BK_gm.out 8).trans rfl; have hf_gm_8 := blk_frozen BK_gm.out 8; clear hc_gn_0 hf_gn_0 hc_gn_1 hf_gn_1 hc_gn_2 hf_gn_2 hc_gn_3 hf_gn_3 hc_gn_4 hf_gn_4 hc_gn_5 hf_gn_5 hc_gn_6 hf_gn_6 hc_gn_7 hf_gn_7 hc_gn_8 hf_gn_8; have nBK := Aside0.mk (blk_below (g := gn) (o := .cells #[.int .u8 n.k, .int .i64 n.ver, .int .u8 n.code, .int .u32 n.grp, .bool n.quiet, .int .u8 n.rob, .int .u8 n.every, .slice A_t n.srcs.length c_t, .slice A_u n.recs.length c_u] 27 (0, 0)) BK_gn.out hB); clear BK_gn; have BK_gn := nBK; clear nBK; have hc_gn_0 : w3_.cell? ⟨gn, 0, none⟩ = some (.int .u8 n.k) := (blk_cell BK_gn.out 0).trans rfl; have hf_gn_0 := blk_frozen BK_gn.out 0; have hc_gn_1 : w3_.cell? ⟨gn, 1, none⟩ = some (.int .i64 n.ver) := (blk_cell BK_gn.out 1).trans rfl; have hf_gn_1 := blk_frozen BK_gn.out 1; have hc_gn_2 : w3_.cell? ⟨gn, 2, none⟩ = some (.int .u8 n.code) := (blk_cell BK_gn.out 2).trans rfl; have hf_gn_2 := blk_frozen BK_gn.out 2; have hc_gn_3 : w3_.cell? ⟨gn, 3, none⟩ = some (.int .u32 n.grp) := (blk_cell BK_gn.out 3).trans rfl; have hf_gn_3 := blk_frozen BK_gn.out 3; have hc_gn_4 : w3_.cell? ⟨gn, 4, none⟩ = some (.bool n.quiet) := (blk_cell BK_gn.out 4).trans rfl; have hf_gn_4 := blk_frozen BK_gn.out 4; have hc_gn_5 : w3_.cell? ⟨gn, 5, none⟩ = some (.int .u8 n.rob) := (blk_cell BK_gn.out 5).trans rfl; have hf_gn_5 := blk_frozen BK_gn.out 5; have hc_gn_6 : w3_.cell? ⟨gn, 6, none⟩ = some (.int .u8 n.every) := (blk_cell BK_gn.out 6).trans rfl; have hf_gn_6 := blk_frozen BK_gn.out 6; have hc_gn_7 : w3_.cell? ⟨gn, 7, none⟩ = some (.slice A_t n.srcs.length c_t) := (blk_cell BK_gn.out 7).trans rfl; have hf_gn_7 := blk_frozen BK_gn.out 7; have hc_gn_8 : w3_.cell? ⟨gn, 8, none⟩ = some (.slice A_u n.recs.length c_u) := (blk_cell BK_gn.out 8).trans rfl; have hf_gn_8 := blk_frozen BK_gn.out 8; clear hB) | (go_at_call 12; with_reducible refine (few_w Xhf.out Xl1.out Xl2.out Xl3.out _ _ _ _ _ (Kd.C_below HC_s.out HB.out) HK_s.out (Kd.C_below HC_r.out HB.out) HK_r.out).mono ?_; rintro e w4_ ⟨rfl, hB⟩; have nHB := Aside0.mk (HB.out.trans (hB.mono HB.out.size)); clear HB; have HB := nHB; clear nHB; clear hc_gm_0 hf_gm_0 hc_gm_1 hf_gm_1 hc_gm_2 hf_gm_2 hc_gm_3 hf_gm_3 hc_gm_4 hf_gm_4 hc_gm_5 hf_gm_5 hc_gm_6 hf_gm_6 hc_gm_7 hf_gm_7 hc_gm_8 hf_gm_8; have nBK := Aside0.mk (blk_below (g := gm) (o := .cells #[.int .u8 m.k, .int .i64 m.ver, .int .u8 m.code, .int .u32 m.grp, .bool m.quiet, .int .u8 m.rob, .int .u8 m.every, .slice A_s m.srcs.length c_s, .slice A_r m.recs.length c_r] 27 (0, 0)) BK_gm.out hB); clear BK_gm; have BK_gm := nBK; clear nBK; have hc_gm_0 : w4_.cell? ⟨gm, 0, none⟩ = some (.int .u8 m.k) := (blk_cell BK_gm.out 0).trans rfl; have hf_gm_0 := blk_frozen BK_gm.out 0; have hc_gm_1 : w4_.cell? ⟨gm, 1, none⟩ = some (.int .i64 m.ver) := (blk_cell BK_gm.out 1).trans rfl; have hf_gm_1 := blk_frozen BK_gm.out 1; have hc_gm_2 : w4_.cell? ⟨gm, 2, none⟩ = some (.int .u8 m.code) := (blk_cell BK_gm.out 2).trans rfl; have hf_gm_2 := blk_frozen BK_gm.out 2; have hc_gm_3 : w4_.cell? ⟨gm, 3, none⟩ = some (.int .u32 m.grp) := (blk_cell BK_gm.out 3).trans rfl; have hf_gm_3 := blk_frozen BK_gm.out 3; have hc_gm_4 : w4_.cell? ⟨gm, 4, none⟩ = some (.bool m.quiet) := (blk_cell BK_gm.out 4).trans rfl; have hf_gm_4 := blk_frozen BK_gm.out 4; have hc_gm_5 : w4_.cell? ⟨gm, 5, none⟩ = some (.int .u8 m.rob) := (blk_cell BK_gm.out 5).trans rfl; have hf_gm_5 := blk_frozen BK_gm.out 5; have hc_gm_6 : w4_.cell? ⟨gm, 6, none⟩ = some (.int .u8 m.every) := (blk_cell BK_gm.out 6).trans rfl; have hf_gm_6 := blk_frozen BK_gm.out 6; have hc_gm_7 : w4_.cell? ⟨gm, 7, none⟩ = some (.slice A_s m.srcs.length c_s) := (blk_cell BK_gm.out 7).trans rfl; have hf_gm_7 := blk_frozen BK_gm.out 7; have hc_gm_8 : w4_.cell? ⟨gm, 8, none⟩ = some (.slice A_r m.recs.length c_r) := (blk_cell BK_gm.out 8).trans rfl; have hf_gm_8 := blk_frozen BK_gm.out 8; clear hc_gn_0 hf_gn_0 hc_gn_1 hf_gn_1 hc_gn_2 hf_gn_2 hc_gn_3 hf_gn_3 hc_gn_4 hf_gn_4 hc_gn_5 hf_gn_5 hc_gn_6 hf_gn_6 hc_gn_7 hf_gn_7 hc_gn_8 hf_gn_8; have nBK := Aside0.mk (blk_below (g := gn) (o := .cells #[.int .u8 n.k, .int .i64 n.ver, .int .u8 n.code, .int .u32 n.grp, .bool n.quiet, .int .u8 n.rob, .int .u8 n.every, .slice A_t n.srcs.length c_t, .slice A_u n.recs.length c_u] 27 (0, 0)) BK_gn.out hB); clear BK_gn; have BK_gn := nBK; clear nBK; have hc_gn_0 : w4_.cell? ⟨gn, 0, none⟩ = some (.int .u8 n.k) := (blk_cell BK_gn.out 0).trans rfl; have hf_gn_0 := blk_frozen BK_gn.out 0; have hc_gn_1 : w4_.cell? ⟨gn, 1, none⟩ = some (.int .i64 n.ver) := (blk_cell BK_gn.out 1).trans rfl; have hf_gn_1 := blk_frozen BK_gn.out 1; have hc_gn_2 : w4_.cell? ⟨gn, 2, none⟩ = some (.int .u8 n.code) := (blk_cell BK_gn.out 2).trans rfl; have hf_gn_2 := blk_frozen BK_gn.out 2; have hc_gn_3 : w4_.cell? ⟨gn, 3, none⟩ = some (.int .u32 n.grp) := (blk_cell BK_gn.out 3).trans rfl; have hf_gn_3 := blk_frozen BK_gn.out 3; have hc_gn_4 : w4_.cell? ⟨gn, 4, none⟩ = some (.bool n.quiet) := (blk_cell BK_gn.out 4).trans rfl; have hf_gn_4 := blk_frozen BK_gn.out 4; have hc_gn_5 : w4_.cell? ⟨gn, 5, none⟩ = some (.int .u8 n.rob) := (blk_cell BK_gn.out 5).trans rfl; have hf_gn_5 := blk_frozen BK_gn.out 5; have hc_gn_6 : w4_.cell? ⟨gn, 6, none⟩ = some (.int .u8 n.every) := (blk_cell BK_gn.out 6).trans rfl; have hf_gn_6 := blk_frozen BK_gn.out 6; have hc_gn_7 : w4_.cell? ⟨gn, 7, none⟩ = some (.slice A_t n.srcs.length c_t) := (blk_cell BK_gn.out 7).trans rfl; have hf_gn_7 := blk_frozen BK_gn.out 7; have hc_gn_8 : w4_.cell? ⟨gn, 8, none⟩ = some (.slice A_u n.recs.length c_u) := (blk_cell BK_gn.out 8).trans rfl; have hf_gn_8 := blk_frozen BK_gn.out 8; clear hB) | (go_at_call 12; with_reducible refine (few_w Xhg.out Xnl1.out Xnl2.out Xnl3.out _ _ _ _ _ (Kd.C_below HC_t.out HB.out) HK_t.out (Kd.C_below HC_u.out HB.out) HK_u.out).mono ?_; rintro e w5_ ⟨rfl, hB⟩; have nHB := Aside0.mk (HB.out.trans (hB.mono HB.out.size)); clear HB; have HB := nHB; clear nHB; clear hc_gm_0 hf_gm_0 hc_gm_1 hf_gm_1 hc_gm_2 hf_gm_2 hc_gm_3 hf_gm_3 hc_gm_4 hf_gm_4 hc_gm_5 hf_gm_5 hc_gm_6 hf_gm_6 hc_gm_7 hf_gm_7 hc_gm_8 hf_gm_8; have nBK := Aside0.mk (blk_below (g := gm) (o := .cells #[.int .u8 m.k, .int .i64 m.ver, .int .u8 m.code, .int .u32 m.grp, .bool m.quiet, .int .u8 m.rob, .int .u8 m.every, .slice A_s m.srcs.length c_s, .slice A_r m.recs.length c_r] 27 (0, 0)) BK_gm.out hB); clear BK_gm; have BK_gm := nBK; clear nBK; have hc_gm_0 : w5_.cell? ⟨gm, 0, none⟩ = some (.int .u8 m.k) := (blk_cell BK_gm.out 0).trans rfl; have hf_gm_0 := blk_frozen BK_gm.out 0; have hc_gm_1 : w5_.cell? ⟨gm, 1, none⟩ = some (.int .i64 m.ver) := (blk_cell BK_gm.out 1).trans rfl; have hf_gm_1 := blk_frozen BK_gm.out 1; have hc_gm_2 : w5_.cell? ⟨gm, 2, none⟩ = some (.int .u8 m.code) := (blk_cell BK_gm.out 2).trans rfl; have hf_gm_2 := blk_frozen BK_gm.out 2; have hc_gm_3 : w5_.cell? ⟨gm, 3, none⟩ = some (.int .u32 m.grp) := (blk_cell BK_gm.out 3).trans rfl; have hf_gm_3 := blk_frozen BK_gm.out 3; have hc_gm_4 : w5_.cell? ⟨gm, 4, none⟩ = some (.bool m.quiet) := (blk_cell BK_gm.out 4).trans rfl; have hf_gm_4 := blk_frozen BK_gm.out 4; have hc_gm_5 : w5_.cell? ⟨gm, 5, none⟩ = some (.int .u8 m.rob) := (blk_cell BK_gm.out 5).trans rfl; have hf_gm_5 := blk_frozen BK_gm.out 5; have hc_gm_6 : w5_.cell? ⟨gm, 6, none⟩ = some (.int .u8 m.every) := (blk_cell BK_gm.out 6).trans rfl; have hf_gm_6 := blk_frozen BK_gm.out 6; have hc_gm_7 : w5_.cell? ⟨gm, 7, none⟩ = some (.slice A_s m.srcs.length c_s) := (blk_cell BK_gm.out 7).trans rfl; have hf_gm_7 := blk_frozen BK_gm.out 7; have hc_gm_8 : w5_.cell? ⟨gm, 8, none⟩ = some (.slice A_r m.recs.length c_r) := (blk_cell BK_gm.out 8).trans rfl; have hf_gm_8 := blk_frozen BK_gm.out 8; clear hc_gn_0 hf_gn_0 hc_gn_1 hf_gn_1 hc_gn_2 hf_gn_2 hc_gn_3 hf_gn_3 hc_gn_4 hf_gn_4 hc_gn_5 hf_gn_5 hc_gn_6 hf_gn_6 hc_gn_7 hf_gn_7 hc_gn_8 hf_gn_8; have nBK := Aside0.mk (blk_below (g := gn) (o := .cells #[.int .u8 n.k, .int .i64 n.ver, .int .u8 n.code, .int .u32 n.grp, .bool n.quiet, .int .u8 n.rob, .int .u8 n.every, .slice A_t n.srcs.length c_t, .slice A_u n.recs.length c_u] 27 (0, 0)) BK_gn.out hB); clear BK_gn; have BK_gn := nBK; clear nBK; have hc_gn_0 : w5_.cell? ⟨gn, 0, none⟩ = some (.int .u8 n.k) := (blk_cell BK_gn.out 0).trans rfl; have hf_gn_0 := blk_frozen BK_gn.out 0; have hc_gn_1 : w5_.cell? ⟨gn, 1, none⟩ = some (.int .i64 n.ver) := (blk_cell BK_gn.out 1).trans rfl; have hf_gn_1 := blk_frozen BK_gn.out 1; have hc_gn_2 : w5_.cell? ⟨gn, 2, none⟩ = some (.int .u8 n.code) := (blk_cell BK_gn.out 2).trans rfl; have hf_gn_2 := blk_frozen BK_gn.out 2; have hc_gn_3 : w5_.cell? ⟨gn, 3, none⟩ = some (.int .u32 n.grp) := (blk_cell BK_gn.out 3).trans rfl; have hf_gn_3 := blk_frozen BK_gn.out 3; have hc_gn_4 : w5_.cell? ⟨gn, 4, none⟩ = some (.bool n.quiet) := (blk_cell BK_gn.out 4).trans rfl; have hf_gn_4 := blk_frozen BK_gn.out 4; have hc_gn_5 : w5_.cell? ⟨gn, 5, none⟩ = some (.int .u8 n.rob) := (blk_cell BK_gn.out 5).trans rfl; have hf_gn_5 := blk_frozen BK_gn.out 5; have hc_gn_6 : w5_.cell? ⟨gn, 6, none⟩ = some (.int .u8 n.every) := (blk_cell BK_gn.out 6).trans rfl; have hf_gn_6 := blk_frozen BK_gn.out 6; have hc_gn_7 : w5_.cell? ⟨gn, 7, none⟩ = some (.slice A_t n.srcs.length c_t) := (blk_cell BK_gn.out 7).trans rfl; have hf_gn_7 := blk_frozen BK_gn.out 7; have hc_gn_8 : w5_.cell? ⟨gn, 8, none⟩ = some (.slice A_u n.recs.length c_u) := (blk_cell BK_gn.out 8).trans rfl; have hf_gn_8 := blk_frozen BK_gn.out 8; clear hB))
  go_ret
  exact ⟨rfl, HB.out⟩
set_option maxHeartbeats 8000000 in
set_option maxRecDepth 100000 in
theorem writes_no {m n : Msg} (hf : fewB m = true) (hg : fewB n = true) (hb : rightB m = false) (hz : m.size ≤ 1000000) (hrl : m.recs.length ≤ 1000000) (ho : m.Ok) {b : Bool} (hq : decide (m = n) = b) (l1 : m.srcs.length ≤ 140737488351232) (l2 : m.recs.length ≤ 140737488351232) (l3 : ∀ r ∈ m.recs, r.f2.length ≤ 140737488351232) (nl1 : n.srcs.length ≤ 140737488351232) (nl2 : n.recs.length ≤ 140737488351232) (nl3 : ∀ r ∈ n.recs, r.f2.length ≤ 140737488351232) (A_s : Option Addr) (c_s : Nat) (A_r : Option Addr) (c_r : Nat) (w : World) (hss : Kd.C (Kd.int .u32) w A_s m.srcs.length m.srcs) (hscs : m.srcs.length ≤ c_s) (hrr : Kd.C k44 w A_r m.recs.length m.recs) (hrcr : m.recs.length ≤ c_r) (A_t : Option Addr) (c_t : Nat) (A_u : Option Addr) (c_u : Nat) (hst : Kd.C (Kd.int .u32) w A_t n.srcs.length n.srcs) (hsct : n.srcs.length ≤ c_t) (hru : Kd.C k44 w A_u n.recs.length n.recs) (hrcu : n.recs.length ≤ c_u) :
    Calls Try.prog 3 #[.agg #[.int .u8 m.k, .int .i64 m.ver, .int .u8 m.code, .int .u32 m.grp, .bool m.quiet, .int .u8 m.rob, .int .u8 m.every, .slice A_s m.srcs.length c_s, .slice A_r m.recs.length c_r], .agg #[.int .u8 n.k, .int .i64 n.ver, .int .u8 n.code, .int .u32 n.grp, .bool n.quiet, .int .u8 n.rob, .int .u8 n.every, .slice A_t n.srcs.length c_t, .slice A_u n.recs.length c_u]] w fun e w' => e = .returned (.bool true) ∧ Below w.heap.size w w' := by
  have hu27 := Try.underlying27
  have HB := Aside0.mk (Below.refl w.heap.size w)
  have HC_s := Aside0.mk hss
  have HK_s := Aside0.mk hscs
  have HC_r := Aside0.mk hrr
  have HK_r := Aside0.mk hrcr
  clear hss hscs hrr hrcr
  have HC_t := Aside0.mk hst
  have HK_t := Aside0.mk hsct
  have HC_u := Aside0.mk hru
  have HK_u := Aside0.mk hrcu
  clear hst hsct hru hrcu
  have Xhf := Aside0.mk hf
  clear hf
  have Xhg := Aside0.mk hg
  clear hg
  have Xhb := Aside0.mk hb
  clear hb
  have Xhz := Aside0.mk hz
  clear hz
  have Xhrl := Aside0.mk hrl
  clear hrl
  have Xho := Aside0.mk ho
  clear ho
  have Xhq := Aside0.mk hq
  clear hq
  have Xl1 := Aside0.mk l1
  clear l1
  have Xl2 := Aside0.mk l2
  clear l2
  have Xl3 := Aside0.mk l3
  clear l3
  have Xnl1 := Aside0.mk nl1
  clear nl1
  have Xnl2 := Aside0.mk nl2
  clear nl2
  have Xnl3 := Aside0.mk nl3
  clear nl3
  go_enter Try.func3, Try.ntmps3
  go_upto_region 6 with (first | ((with_reducible refine gate_dst (N := 2) rfl ?_); (try (refine gate_guard (by rfl) ?_; dsimp only)); refine box_event ?hg (N := 2) ?hd (cs := #[.int .u8 m.k, .int .i64 m.ver, .int .u8 m.code, .int .u32 m.grp, .bool m.quiet, .int .u8 m.rob, .int .u8 m.every, .slice A_s m.srcs.length c_s, .slice A_r m.recs.length c_r]) (t := 27) ?hr ?_; (case hd => rfl); (case hg => rfl); (case hr => first | (go_simp; done) | (go_simp; rfl)); intro gm hg w1_ hbox hB; have HBo := Aside0.mk HB.out; have nHB := Aside0.mk (HB.out.trans (hB.mono HB.out.size)); clear HB; have HB := nHB; clear nHB; have BK_gm := Aside0.mk hbox; have GE_gm := Aside0.mk (show w.heap.size ≤ gm by rw [hg]; exact HBo.out.size); clear hg hbox hB; have hc_gm_0 : w1_.cell? ⟨gm, 0, none⟩ = some (.int .u8 m.k) := (blk_cell BK_gm.out 0).trans rfl; have hf_gm_0 := blk_frozen BK_gm.out 0; have hc_gm_1 : w1_.cell? ⟨gm, 1, none⟩ = some (.int .i64 m.ver) := (blk_cell BK_gm.out 1).trans rfl; have hf_gm_1 := blk_frozen BK_gm.out 1; have hc_gm_2 : w1_.cell? ⟨gm, 2, none⟩ = some (.int .u8 m.code) := (blk_cell BK_gm.out 2).trans rfl; have hf_gm_2 := blk_frozen BK_gm.out 2; have hc_gm_3 : w1_.cell? ⟨gm, 3, none⟩ = some (.int .u32 m.grp) := (blk_cell BK_gm.out 3).trans rfl; have hf_gm_3 := blk_frozen BK_gm.out 3; have hc_gm_4 : w1_.cell? ⟨gm, 4, none⟩ = some (.bool m.quiet) := (blk_cell BK_gm.out 4).trans rfl; have hf_gm_4 := blk_frozen BK_gm.out 4; have hc_gm_5 : w1_.cell? ⟨gm, 5, none⟩ = some (.int .u8 m.rob) := (blk_cell BK_gm.out 5).trans rfl; have hf_gm_5 := blk_frozen BK_gm.out 5; have hc_gm_6 : w1_.cell? ⟨gm, 6, none⟩ = some (.int .u8 m.every) := (blk_cell BK_gm.out 6).trans rfl; have hf_gm_6 := blk_frozen BK_gm.out 6; have hc_gm_7 : w1_.cell? ⟨gm, 7, none⟩ = some (.slice A_s m.srcs.length c_s) := (blk_cell BK_gm.out 7).trans rfl; have hf_gm_7 := blk_frozen BK_gm.out 7; have hc_gm_8 : w1_.cell? ⟨gm, 8, none⟩ = some (.slice A_r m.recs.length c_r) := (blk_cell BK_gm.out 8).trans rfl; have hf_gm_8 := blk_frozen BK_gm.out 8; clear HBo) | ((with_reducible refine gate_dst (N := 3) rfl ?_); (try (refine gate_guard (by rfl) ?_; dsimp only)); refine box_event ?hg (N := 3) ?hd (cs := #[.int .u8 n.k, .int .i64 n.ver, .int .u8 n.code, .int .u32 n.grp, .bool n.quiet, .int .u8 n.rob, .int .u8 n.every, .slice A_t n.srcs.length c_t, .slice A_u n.recs.length c_u]) (t := 27) ?hr ?_; (case hd => rfl); (case hg => rfl); (case hr => first | (go_simp; done) | (go_simp; rfl)); intro gn hg w2_ hbox hB; have HBo := Aside0.mk HB.out; have BK0_gm := Aside0.mk BK_gm.out; have nHB := Aside0.mk (HB.out.trans (hB.mono HB.out.size)); clear HB; have HB := nHB; clear nHB; clear hc_gm_0 hf_gm_0 hc_gm_1 hf_gm_1 hc_gm_2 hf_gm_2 hc_gm_3 hf_gm_3 hc_gm_4 hf_gm_4 hc_gm_5 hf_gm_5 hc_gm_6 hf_gm_6 hc_gm_7 hf_gm_7 hc_gm_8 hf_gm_8; have nBK := Aside0.mk (blk_below (g := gm) (o := .cells #[.int .u8 m.k, .int .i64 m.ver, .int .u8 m.code, .int .u32 m.grp, .bool m.quiet, .int .u8 m.rob, .int .u8 m.every, .slice A_s m.srcs.length c_s, .slice A_r m.recs.length c_r] 27 (0, 0)) BK_gm.out hB); clear BK_gm; have BK_gm := nBK; clear nBK; have hc_gm_0 : w2_.cell? ⟨gm, 0, none⟩ = some (.int .u8 m.k) := (blk_cell BK_gm.out 0).trans rfl; have hf_gm_0 := blk_frozen BK_gm.out 0; have hc_gm_1 : w2_.cell? ⟨gm, 1, none⟩ = some (.int .i64 m.ver) := (blk_cell BK_gm.out 1).trans rfl; have hf_gm_1 := blk_frozen BK_gm.out 1; have hc_gm_2 : w2_.cell? ⟨gm, 2, none⟩ = some (.int .u8 m.code) := (blk_cell BK_gm.out 2).trans rfl; have hf_gm_2 := blk_frozen BK_gm.out 2; have hc_gm_3 : w2_.cell? ⟨gm, 3, none⟩ = some (.int .u32 m.grp) := (blk_cell BK_gm.out 3).trans rfl; have hf_gm_3 := blk_frozen BK_gm.out 3; have hc_gm_4 : w2_.cell? ⟨gm, 4, none⟩ = some (.bool m.quiet) := (blk_cell BK_gm.out 4).trans rfl; have hf_gm_4 := blk_frozen BK_gm.out 4; have hc_gm_5 : w2_.cell? ⟨gm, 5, none⟩ = some (.int .u8 m.rob) := (blk_cell BK_gm.out 5).trans rfl; have hf_gm_5 := blk_frozen BK_gm.out 5; have hc_gm_6 : w2_.cell? ⟨gm, 6, none⟩ = some (.int .u8 m.every) := (blk_cell BK_gm.out 6).trans rfl; have hf_gm_6 := blk_frozen BK_gm.out 6; have hc_gm_7 : w2_.cell? ⟨gm, 7, none⟩ = some (.slice A_s m.srcs.length c_s) := (blk_cell BK_gm.out 7).trans rfl; have hf_gm_7 := blk_frozen BK_gm.out 7; have hc_gm_8 : w2_.cell? ⟨gm, 8, none⟩ = some (.slice A_r m.recs.length c_r) := (blk_cell BK_gm.out 8).trans rfl; have hf_gm_8 := blk_frozen BK_gm.out 8; have BK_gn := Aside0.mk hbox; have GE_gn := Aside0.mk (show w.heap.size ≤ gn by rw [hg]; exact HBo.out.size); have NB_gn_gm := Aside0.mk (show gn ≠ gm by rw [hg]; exact Nat.ne_of_gt (blk_lt (g := gm) (o := .cells #[.int .u8 m.k, .int .i64 m.ver, .int .u8 m.code, .int .u32 m.grp, .bool m.quiet, .int .u8 m.rob, .int .u8 m.every, .slice A_s m.srcs.length c_s, .slice A_r m.recs.length c_r] 27 (0, 0)) BK0_gm.out)); have NB_gm_gn := Aside0.mk (Ne.symm NB_gn_gm.out); clear BK0_gm; clear hg hbox hB; have hc_gn_0 : w2_.cell? ⟨gn, 0, none⟩ = some (.int .u8 n.k) := (blk_cell BK_gn.out 0).trans rfl; have hf_gn_0 := blk_frozen BK_gn.out 0; have hc_gn_1 : w2_.cell? ⟨gn, 1, none⟩ = some (.int .i64 n.ver) := (blk_cell BK_gn.out 1).trans rfl; have hf_gn_1 := blk_frozen BK_gn.out 1; have hc_gn_2 : w2_.cell? ⟨gn, 2, none⟩ = some (.int .u8 n.code) := (blk_cell BK_gn.out 2).trans rfl; have hf_gn_2 := blk_frozen BK_gn.out 2; have hc_gn_3 : w2_.cell? ⟨gn, 3, none⟩ = some (.int .u32 n.grp) := (blk_cell BK_gn.out 3).trans rfl; have hf_gn_3 := blk_frozen BK_gn.out 3; have hc_gn_4 : w2_.cell? ⟨gn, 4, none⟩ = some (.bool n.quiet) := (blk_cell BK_gn.out 4).trans rfl; have hf_gn_4 := blk_frozen BK_gn.out 4; have hc_gn_5 : w2_.cell? ⟨gn, 5, none⟩ = some (.int .u8 n.rob) := (blk_cell BK_gn.out 5).trans rfl; have hf_gn_5 := blk_frozen BK_gn.out 5; have hc_gn_6 : w2_.cell? ⟨gn, 6, none⟩ = some (.int .u8 n.every) := (blk_cell BK_gn.out 6).trans rfl; have hf_gn_6 := blk_frozen BK_gn.out 6; have hc_gn_7 : w2_.cell? ⟨gn, 7, none⟩ = some (.slice A_t n.srcs.length c_t) := (blk_cell BK_gn.out 7).trans rfl; have hf_gn_7 := blk_frozen BK_gn.out 7; have hc_gn_8 : w2_.cell? ⟨gn, 8, none⟩ = some (.slice A_u n.recs.length c_u) := (blk_cell BK_gn.out 8).trans rfl; have hf_gn_8 := blk_frozen BK_gn.out 8; clear HBo) | (go_at_call 11; with_reducible refine (shown_calls _).mono ?_; rintro e w3_ ⟨rfl, hB⟩; have nHB := Aside0.mk (HB.out.trans (hB.mono HB.out.size)); clear HB; have HB := nHB; clear nHB; clear hc_gm_0 hf_gm_0 hc_gm_1 hf_gm_1 hc_gm_2 hf_gm_2 hc_gm_3 hf_gm_3 hc_gm_4 hf_gm_4 hc_gm_5 hf_gm_5 hc_gm_6 hf_gm_6 hc_gm_7 hf_gm_7 hc_gm_8 hf_gm_8; have nBK := Aside0.mk (blk_below (g := gm) (o := .cells #[.int .u8 m.k, .int .i64 m.ver, .int .u8 m.code, .int .u32 m.grp, .bool m.quiet, .int .u8 m.rob, .int .u8 m.every, .slice A_s m.srcs.length c_s, .slice A_r m.recs.length c_r] 27 (0, 0)) BK_gm.out hB); clear BK_gm; have BK_gm := nBK; clear nBK; have hc_gm_0 : w3_.cell? ⟨gm, 0, none⟩ = some (.int .u8 m.k) := (blk_cell BK_gm.out 0).trans rfl; have hf_gm_0 := blk_frozen BK_gm.out 0; have hc_gm_1 : w3_.cell? ⟨gm, 1, none⟩ = some (.int .i64 m.ver) := (blk_cell BK_gm.out 1).trans rfl; have hf_gm_1 := blk_frozen BK_gm.out 1; have hc_gm_2 : w3_.cell? ⟨gm, 2, none⟩ = some (.int .u8 m.code) := (blk_cell BK_gm.out 2).trans rfl; have hf_gm_2 := blk_frozen BK_gm.out 2; have hc_gm_3 : w3_.cell? ⟨gm, 3, none⟩ = some (.int .u32 m.grp) := (blk_cell BK_gm.out 3).trans rfl; have hf_gm_3 := blk_frozen BK_gm.out 3; have hc_gm_4 : w3_.cell? ⟨gm, 4, none⟩ = some (.bool m.quiet) := (blk_cell BK_gm.out 4).trans rfl; have hf_gm_4 := blk_frozen BK_gm.out 4; have hc_gm_5 : w3_.cell? ⟨gm, 5, none⟩ = some (.int .u8 m.rob) := (blk_cell BK_gm.out 5).trans rfl; have hf_gm_5 := blk_frozen BK_gm.out 5; have hc_gm_6 : w3_.cell? ⟨gm, 6, none⟩ = some (.int .u8 m.every) := (blk_cell BK_gm.out 6).trans rfl; have hf_gm_6 := blk_frozen BK_gm.out 6; have hc_gm_7 : w3_.cell? ⟨gm, 7, none⟩ = some (.slice A_s m.srcs.length c_s) := (blk_cell BK_gm.out 7).trans rfl; have hf_gm_7 := blk_frozen BK_gm.out 7; have hc_gm_8 : w3_.cell? ⟨gm, 8, none⟩ = some (.slice A_r m.recs.length c_r) := (blk_cell BK_gm.out 8).trans rfl; have hf_gm_8 := blk_frozen BK_gm.out 8; clear hc_gn_0 hf_gn_0 hc_gn_1 hf_gn_1 hc_gn_2 hf_gn_2 hc_gn_3 hf_gn_3 hc_gn_4 hf_gn_4 hc_gn_5 hf_gn_5 hc_gn_6 hf_gn_6 hc_gn_7 hf_gn_7 hc_gn_8 hf_gn_8; have nBK := Aside0.mk (blk_below (g := gn) (o := .cells #[.int .u8 n.k, .int .i64 n.ver, .int .u8 n.code, .int .u32 n.grp, .bool n.quiet, .int .u8 n.rob, .int .u8 n.every, .slice A_t n.srcs.length c_t, .slice A_u n.recs.length c_u] 27 (0, 0)) BK_gn.out hB); clear BK_gn; have BK_gn := nBK; clear nBK; have hc_gn_0 : w3_.cell? ⟨gn, 0, none⟩ = some (.int .u8 n.k) := (blk_cell BK_gn.out 0).trans rfl; have hf_gn_0 := blk_frozen BK_gn.out 0; have hc_gn_1 : w3_.cell? ⟨gn, 1, none⟩ = some (.int .i64 n.ver) := (blk_cell BK_gn.out 1).trans rfl; have hf_gn_1 := blk_frozen BK_gn.out 1; have hc_gn_2 : w3_.cell? ⟨gn, 2, none⟩ = some (.int .u8 n.code) := (blk_cell BK_gn.out 2).trans rfl; have hf_gn_2 := blk_frozen BK_gn.out 2; have hc_gn_3 : w3_.cell? ⟨gn, 3, none⟩ = some (.int .u32 n.grp) := (blk_cell BK_gn.out 3).trans rfl; have hf_gn_3 := blk_frozen BK_gn.out 3; have hc_gn_4 : w3_.cell? ⟨gn, 4, none⟩ = some (.bool n.quiet) := (blk_cell BK_gn.out 4).trans rfl; have hf_gn_4 := blk_frozen BK_gn.out 4; have hc_gn_5 : w3_.cell? ⟨gn, 5, none⟩ = some (.int .u8 n.rob) := (blk_cell BK_gn.out 5).trans rfl; have hf_gn_5 := blk_frozen BK_gn.out 5; have hc_gn_6 : w3_.cell? ⟨gn, 6, none⟩ = some (.int .u8 n.every) := (blk_cell BK_gn.out 6).trans rfl; have hf_gn_6 := blk_frozen BK_gn.out 6; have hc_gn_7 : w3_.cell? ⟨gn, 7, none⟩ = some (.slice A_t n.srcs.length c_t) := (blk_cell BK_gn.out 7).trans rfl; have hf_gn_7 := blk_frozen BK_gn.out 7; have hc_gn_8 : w3_.cell? ⟨gn, 8, none⟩ = some (.slice A_u n.recs.length c_u) := (blk_cell BK_gn.out 8).trans rfl; have hf_gn_8 := blk_frozen BK_gn.out 8; clear hB) | (go_at_call 12; with_reducible refine (few_w Xhf.out Xl1.out Xl2.out Xl3.out _ _ _ _ _ (Kd.C_below HC_s.out HB.out) HK_s.out (Kd.C_below HC_r.out HB.out) HK_r.out).mono ?_; rintro e w4_ ⟨rfl, hB⟩; have nHB := Aside0.mk (HB.out.trans (hB.mono HB.out.size)); clear HB; have HB := nHB; clear nHB; clear hc_gm_0 hf_gm_0 hc_gm_1 hf_gm_1 hc_gm_2 hf_gm_2 hc_gm_3 hf_gm_3 hc_gm_4 hf_gm_4 hc_gm_5 hf_gm_5 hc_gm_6 hf_gm_6 hc_gm_7 hf_gm_7 hc_gm_8 hf_gm_8; have nBK := Aside0.mk (blk_below (g := gm) (o := .cells #[.int .u8 m.k, .int .i64 m.ver, .int .u8 m.code, .int .u32 m.grp, .bool m.quiet, .int .u8 m.rob, .int .u8 m.every, .slice A_s m.srcs.length c_s, .slice A_r m.recs.length c_r] 27 (0, 0)) BK_gm.out hB); clear BK_gm; have BK_gm := nBK; clear nBK; have hc_gm_0 : w4_.cell? ⟨gm, 0, none⟩ = some (.int .u8 m.k) := (blk_cell BK_gm.out 0).trans rfl; have hf_gm_0 := blk_frozen BK_gm.out 0; have hc_gm_1 : w4_.cell? ⟨gm, 1, none⟩ = some (.int .i64 m.ver) := (blk_cell BK_gm.out 1).trans rfl; have hf_gm_1 := blk_frozen BK_gm.out 1; have hc_gm_2 : w4_.cell? ⟨gm, 2, none⟩ = some (.int .u8 m.code) := (blk_cell BK_gm.out 2).trans rfl; have hf_gm_2 := blk_frozen BK_gm.out 2; have hc_gm_3 : w4_.cell? ⟨gm, 3, none⟩ = some (.int .u32 m.grp) := (blk_cell BK_gm.out 3).trans rfl; have hf_gm_3 := blk_frozen BK_gm.out 3; have hc_gm_4 : w4_.cell? ⟨gm, 4, none⟩ = some (.bool m.quiet) := (blk_cell BK_gm.out 4).trans rfl; have hf_gm_4 := blk_frozen BK_gm.out 4; have hc_gm_5 : w4_.cell? ⟨gm, 5, none⟩ = some (.int .u8 m.rob) := (blk_cell BK_gm.out 5).trans rfl; have hf_gm_5 := blk_frozen BK_gm.out 5; have hc_gm_6 : w4_.cell? ⟨gm, 6, none⟩ = some (.int .u8 m.every) := (blk_cell BK_gm.out 6).trans rfl; have hf_gm_6 := blk_frozen BK_gm.out 6; have hc_gm_7 : w4_.cell? ⟨gm, 7, none⟩ = some (.slice A_s m.srcs.length c_s) := (blk_cell BK_gm.out 7).trans rfl; have hf_gm_7 := blk_frozen BK_gm.out 7; have hc_gm_8 : w4_.cell? ⟨gm, 8, none⟩ = some (.slice A_r m.recs.length c_r) := (blk_cell BK_gm.out 8).trans rfl; have hf_gm_8 := blk_frozen BK_gm.out 8; clear hc_gn_0 hf_gn_0 hc_gn_1 hf_gn_1 hc_gn_2 hf_gn_2 hc_gn_3 hf_gn_3 hc_gn_4 hf_gn_4 hc_gn_5 hf_gn_5 hc_gn_6 hf_gn_6 hc_gn_7 hf_gn_7 hc_gn_8 hf_gn_8; have nBK := Aside0.mk (blk_below (g := gn) (o := .cells #[.int .u8 n.k, .int .i64 n.ver, .int .u8 n.code, .int .u32 n.grp, .bool n.quiet, .int .u8 n.rob, .int .u8 n.every, .slice A_t n.srcs.length c_t, .slice A_u n.recs.length c_u] 27 (0, 0)) BK_gn.out hB); clear BK_gn; have BK_gn := nBK; clear nBK; have hc_gn_0 : w4_.cell? ⟨gn, 0, none⟩ = some (.int .u8 n.k) := (blk_cell BK_gn.out 0).trans rfl; have hf_gn_0 := blk_frozen BK_gn.out 0; have hc_gn_1 : w4_.cell? ⟨gn, 1, none⟩ = some (.int .i64 n.ver) := (blk_cell BK_gn.out 1).trans rfl; have hf_gn_1 := blk_frozen BK_gn.out 1; have hc_gn_2 : w4_.cell? ⟨gn, 2, none⟩ = some (.int .u8 n.code) := (blk_cell BK_gn.out 2).trans rfl; have hf_gn_2 := blk_frozen BK_gn.out 2; have hc_gn_3 : w4_.cell? ⟨gn, 3, none⟩ = some (.int .u32 n.grp) := (blk_cell BK_gn.out 3).trans rfl; have hf_gn_3 := blk_frozen BK_gn.out 3; have hc_gn_4 : w4_.cell? ⟨gn, 4, none⟩ = some (.bool n.quiet) := (blk_cell BK_gn.out 4).trans rfl; have hf_gn_4 := blk_frozen BK_gn.out 4; have hc_gn_5 : w4_.cell? ⟨gn, 5, none⟩ = some (.int .u8 n.rob) := (blk_cell BK_gn.out 5).trans rfl; have hf_gn_5 := blk_frozen BK_gn.out 5; have hc_gn_6 : w4_.cell? ⟨gn, 6, none⟩ = some (.int .u8 n.every) := (blk_cell BK_gn.out 6).trans rfl; have hf_gn_6 := blk_frozen BK_gn.out 6; have hc_gn_7 : w4_.cell? ⟨gn, 7, none⟩ = some (.slice A_t n.srcs.length c_t) := (blk_cell BK_gn.out 7).trans rfl; have hf_gn_7 := blk_frozen BK_gn.out 7; have hc_gn_8 : w4_.cell? ⟨gn, 8, none⟩ = some (.slice A_u n.recs.length c_u) := (blk_cell BK_gn.out 8).trans rfl; have hf_gn_8 := blk_frozen BK_gn.out 8; clear hB) | (go_at_call 12; with_reducible refine (few_w Xhg.out Xnl1.out Xnl2.out Xnl3.out _ _ _ _ _ (Kd.C_below HC_t.out HB.out) HK_t.out (Kd.C_below HC_u.out HB.out) HK_u.out).mono ?_; rintro e w5_ ⟨rfl, hB⟩; have nHB := Aside0.mk (HB.out.trans (hB.mono HB.out.size)); clear HB; have HB := nHB; clear nHB; clear hc_gm_0 hf_gm_0 hc_gm_1 hf_gm_1 hc_gm_2 hf_gm_2 hc_gm_3 hf_gm_3 hc_gm_4 hf_gm_4 hc_gm_5 hf_gm_5 hc_gm_6 hf_gm_6 hc_gm_7 hf_gm_7 hc_gm_8 hf_gm_8; have nBK := Aside0.mk (blk_below (g := gm) (o := .cells #[.int .u8 m.k, .int .i64 m.ver, .int .u8 m.code, .int .u32 m.grp, .bool m.quiet, .int .u8 m.rob, .int .u8 m.every, .slice A_s m.srcs.length c_s, .slice A_r m.recs.length c_r] 27 (0, 0)) BK_gm.out hB); clear BK_gm; have BK_gm := nBK; clear nBK; have hc_gm_0 : w5_.cell? ⟨gm, 0, none⟩ = some (.int .u8 m.k) := (blk_cell BK_gm.out 0).trans rfl; have hf_gm_0 := blk_frozen BK_gm.out 0; have hc_gm_1 : w5_.cell? ⟨gm, 1, none⟩ = some (.int .i64 m.ver) := (blk_cell BK_gm.out 1).trans rfl; have hf_gm_1 := blk_frozen BK_gm.out 1; have hc_gm_2 : w5_.cell? ⟨gm, 2, none⟩ = some (.int .u8 m.code) := (blk_cell BK_gm.out 2).trans rfl; have hf_gm_2 := blk_frozen BK_gm.out 2; have hc_gm_3 : w5_.cell? ⟨gm, 3, none⟩ = some (.int .u32 m.grp) := (blk_cell BK_gm.out 3).trans rfl; have hf_gm_3 := blk_frozen BK_gm.out 3; have hc_gm_4 : w5_.cell? ⟨gm, 4, none⟩ = some (.bool m.quiet) := (blk_cell BK_gm.out 4).trans rfl; have hf_gm_4 := blk_frozen BK_gm.out 4; have hc_gm_5 : w5_.cell? ⟨gm, 5, none⟩ = some (.int .u8 m.rob) := (blk_cell BK_gm.out 5).trans rfl; have hf_gm_5 := blk_frozen BK_gm.out 5; have hc_gm_6 : w5_.cell? ⟨gm, 6, none⟩ = some (.int .u8 m.every) := (blk_cell BK_gm.out 6).trans rfl; have hf_gm_6 := blk_frozen BK_gm.out 6; have hc_gm_7 : w5_.cell? ⟨gm, 7, none⟩ = some (.slice A_s m.srcs.length c_s) := (blk_cell BK_gm.out 7).trans rfl; have hf_gm_7 := blk_frozen BK_gm.out 7; have hc_gm_8 : w5_.cell? ⟨gm, 8, none⟩ = some (.slice A_r m.recs.length c_r) := (blk_cell BK_gm.out 8).trans rfl; have hf_gm_8 := blk_frozen BK_gm.out 8; clear hc_gn_0 hf_gn_0 hc_gn_1 hf_gn_1 hc_gn_2 hf_gn_2 hc_gn_3 hf_gn_3 hc_gn_4 hf_gn_4 hc_gn_5 hf_gn_5 hc_gn_6 hf_gn_6 hc_gn_7 hf_gn_7 hc_gn_8 hf_gn_8; have nBK := Aside0.mk (blk_below (g := gn) (o := .cells #[.int .u8 n.k, .int .i64 n.ver, .int .u8 n.code, .int .u32 n.grp, .bool n.quiet, .int .u8 n.rob, .int .u8 n.every, .slice A_t n.srcs.length c_t, .slice A_u n.recs.length c_u] 27 (0, 0)) BK_gn.out hB); clear BK_gn; have BK_gn := nBK; clear nBK; have hc_gn_0 : w5_.cell? ⟨gn, 0, none⟩ = some (.int .u8 n.k) := (blk_cell BK_gn.out 0).trans rfl; have hf_gn_0 := blk_frozen BK_gn.out 0; have hc_gn_1 : w5_.cell? ⟨gn, 1, none⟩ = some (.int .i64 n.ver) := (blk_cell BK_gn.out 1).trans rfl; have hf_gn_1 := blk_frozen BK_gn.out 1; have hc_gn_2 : w5_.cell? ⟨gn, 2, none⟩ = some (.int .u8 n.code) := (blk_cell BK_gn.out 2).trans rfl; have hf_gn_2 := blk_frozen BK_gn.out 2; have hc_gn_3 : w5_.cell? ⟨gn, 3, none⟩ = some (.int .u32 n.grp) := (blk_cell BK_gn.out 3).trans rfl; have hf_gn_3 := blk_frozen BK_gn.out 3; have hc_gn_4 : w5_.cell? ⟨gn, 4, none⟩ = some (.bool n.quiet) := (blk_cell BK_gn.out 4).trans rfl; have hf_gn_4 := blk_frozen BK_gn.out 4; have hc_gn_5 : w5_.cell? ⟨gn, 5, none⟩ = some (.int .u8 n.rob) := (blk_cell BK_gn.out 5).trans rfl; have hf_gn_5 := blk_frozen BK_gn.out 5; have hc_gn_6 : w5_.cell? ⟨gn, 6, none⟩ = some (.int .u8 n.every) := (blk_cell BK_gn.out 6).trans rfl; have hf_gn_6 := blk_frozen BK_gn.out 6; have hc_gn_7 : w5_.cell? ⟨gn, 7, none⟩ = some (.slice A_t n.srcs.length c_t) := (blk_cell BK_gn.out 7).trans rfl; have hf_gn_7 := blk_frozen BK_gn.out 7; have hc_gn_8 : w5_.cell? ⟨gn, 8, none⟩ = some (.slice A_u n.recs.length c_u) := (blk_cell BK_gn.out 8).trans rfl; have hf_gn_8 := blk_frozen BK_gn.out 8; clear hB) | (go_at_call 13; with_reducible refine (encno_w Xho.out Xhz.out Xhb.out _ _ _ _ _ (Kd.C_below HC_s.out HB.out) HK_s.out (Kd.C_below HC_r.out HB.out) HK_r.out).mono ?_; rintro e w6_ ⟨rfl, hB⟩; have nHB := Aside0.mk (HB.out.trans (hB.mono HB.out.size)); clear HB; have HB := nHB; clear nHB; clear hc_gm_0 hf_gm_0 hc_gm_1 hf_gm_1 hc_gm_2 hf_gm_2 hc_gm_3 hf_gm_3 hc_gm_4 hf_gm_4 hc_gm_5 hf_gm_5 hc_gm_6 hf_gm_6 hc_gm_7 hf_gm_7 hc_gm_8 hf_gm_8; have nBK := Aside0.mk (blk_below (g := gm) (o := .cells #[.int .u8 m.k, .int .i64 m.ver, .int .u8 m.code, .int .u32 m.grp, .bool m.quiet, .int .u8 m.rob, .int .u8 m.every, .slice A_s m.srcs.length c_s, .slice A_r m.recs.length c_r] 27 (0, 0)) BK_gm.out hB); clear BK_gm; have BK_gm := nBK; clear nBK; have hc_gm_0 : w6_.cell? ⟨gm, 0, none⟩ = some (.int .u8 m.k) := (blk_cell BK_gm.out 0).trans rfl; have hf_gm_0 := blk_frozen BK_gm.out 0; have hc_gm_1 : w6_.cell? ⟨gm, 1, none⟩ = some (.int .i64 m.ver) := (blk_cell BK_gm.out 1).trans rfl; have hf_gm_1 := blk_frozen BK_gm.out 1; have hc_gm_2 : w6_.cell? ⟨gm, 2, none⟩ = some (.int .u8 m.code) := (blk_cell BK_gm.out 2).trans rfl; have hf_gm_2 := blk_frozen BK_gm.out 2; have hc_gm_3 : w6_.cell? ⟨gm, 3, none⟩ = some (.int .u32 m.grp) := (blk_cell BK_gm.out 3).trans rfl; have hf_gm_3 := blk_frozen BK_gm.out 3; have hc_gm_4 : w6_.cell? ⟨gm, 4, none⟩ = some (.bool m.quiet) := (blk_cell BK_gm.out 4).trans rfl; have hf_gm_4 := blk_frozen BK_gm.out 4; have hc_gm_5 : w6_.cell? ⟨gm, 5, none⟩ = some (.int .u8 m.rob) := (blk_cell BK_gm.out 5).trans rfl; have hf_gm_5 := blk_frozen BK_gm.out 5; have hc_gm_6 : w6_.cell? ⟨gm, 6, none⟩ = some (.int .u8 m.every) := (blk_cell BK_gm.out 6).trans rfl; have hf_gm_6 := blk_frozen BK_gm.out 6; have hc_gm_7 : w6_.cell? ⟨gm, 7, none⟩ = some (.slice A_s m.srcs.length c_s) := (blk_cell BK_gm.out 7).trans rfl; have hf_gm_7 := blk_frozen BK_gm.out 7; have hc_gm_8 : w6_.cell? ⟨gm, 8, none⟩ = some (.slice A_r m.recs.length c_r) := (blk_cell BK_gm.out 8).trans rfl; have hf_gm_8 := blk_frozen BK_gm.out 8; clear hc_gn_0 hf_gn_0 hc_gn_1 hf_gn_1 hc_gn_2 hf_gn_2 hc_gn_3 hf_gn_3 hc_gn_4 hf_gn_4 hc_gn_5 hf_gn_5 hc_gn_6 hf_gn_6 hc_gn_7 hf_gn_7 hc_gn_8 hf_gn_8; have nBK := Aside0.mk (blk_below (g := gn) (o := .cells #[.int .u8 n.k, .int .i64 n.ver, .int .u8 n.code, .int .u32 n.grp, .bool n.quiet, .int .u8 n.rob, .int .u8 n.every, .slice A_t n.srcs.length c_t, .slice A_u n.recs.length c_u] 27 (0, 0)) BK_gn.out hB); clear BK_gn; have BK_gn := nBK; clear nBK; have hc_gn_0 : w6_.cell? ⟨gn, 0, none⟩ = some (.int .u8 n.k) := (blk_cell BK_gn.out 0).trans rfl; have hf_gn_0 := blk_frozen BK_gn.out 0; have hc_gn_1 : w6_.cell? ⟨gn, 1, none⟩ = some (.int .i64 n.ver) := (blk_cell BK_gn.out 1).trans rfl; have hf_gn_1 := blk_frozen BK_gn.out 1; have hc_gn_2 : w6_.cell? ⟨gn, 2, none⟩ = some (.int .u8 n.code) := (blk_cell BK_gn.out 2).trans rfl; have hf_gn_2 := blk_frozen BK_gn.out 2; have hc_gn_3 : w6_.cell? ⟨gn, 3, none⟩ = some (.int .u32 n.grp) := (blk_cell BK_gn.out 3).trans rfl; have hf_gn_3 := blk_frozen BK_gn.out 3; have hc_gn_4 : w6_.cell? ⟨gn, 4, none⟩ = some (.bool n.quiet) := (blk_cell BK_gn.out 4).trans rfl; have hf_gn_4 := blk_frozen BK_gn.out 4; have hc_gn_5 : w6_.cell? ⟨gn, 5, none⟩ = some (.int .u8 n.rob) := (blk_cell BK_gn.out 5).trans rfl; have hf_gn_5 := blk_frozen BK_gn.out 5; have hc_gn_6 : w6_.cell? ⟨gn, 6, none⟩ = some (.int .u8 n.every) := (blk_cell BK_gn.out 6).trans rfl; have hf_gn_6 := blk_frozen BK_gn.out 6; have hc_gn_7 : w6_.cell? ⟨gn, 7, none⟩ = some (.slice A_t n.srcs.length c_t) := (blk_cell BK_gn.out 7).trans rfl; have hf_gn_7 := blk_frozen BK_gn.out 7; have hc_gn_8 : w6_.cell? ⟨gn, 8, none⟩ = some (.slice A_u n.recs.length c_u) := (blk_cell BK_gn.out 8).trans rfl; have hf_gn_8 := blk_frozen BK_gn.out 8; clear hB) | (go_at_call 14; with_reducible refine (renc_no Xhb.out Xhrl.out _ _ _ _ _ (Kd.C_below HC_s.out HB.out) HK_s.out (Kd.C_below HC_r.out HB.out) HK_r.out).mono ?_; rintro e w7_ ⟨rfl, hB⟩; have nHB := Aside0.mk (HB.out.trans (hB.mono HB.out.size)); clear HB; have HB := nHB; clear nHB; clear hc_gm_0 hf_gm_0 hc_gm_1 hf_gm_1 hc_gm_2 hf_gm_2 hc_gm_3 hf_gm_3 hc_gm_4 hf_gm_4 hc_gm_5 hf_gm_5 hc_gm_6 hf_gm_6 hc_gm_7 hf_gm_7 hc_gm_8 hf_gm_8; have nBK := Aside0.mk (blk_below (g := gm) (o := .cells #[.int .u8 m.k, .int .i64 m.ver, .int .u8 m.code, .int .u32 m.grp, .bool m.quiet, .int .u8 m.rob, .int .u8 m.every, .slice A_s m.srcs.length c_s, .slice A_r m.recs.length c_r] 27 (0, 0)) BK_gm.out hB); clear BK_gm; have BK_gm := nBK; clear nBK; have hc_gm_0 : w7_.cell? ⟨gm, 0, none⟩ = some (.int .u8 m.k) := (blk_cell BK_gm.out 0).trans rfl; have hf_gm_0 := blk_frozen BK_gm.out 0; have hc_gm_1 : w7_.cell? ⟨gm, 1, none⟩ = some (.int .i64 m.ver) := (blk_cell BK_gm.out 1).trans rfl; have hf_gm_1 := blk_frozen BK_gm.out 1; have hc_gm_2 : w7_.cell? ⟨gm, 2, none⟩ = some (.int .u8 m.code) := (blk_cell BK_gm.out 2).trans rfl; have hf_gm_2 := blk_frozen BK_gm.out 2; have hc_gm_3 : w7_.cell? ⟨gm, 3, none⟩ = some (.int .u32 m.grp) := (blk_cell BK_gm.out 3).trans rfl; have hf_gm_3 := blk_frozen BK_gm.out 3; have hc_gm_4 : w7_.cell? ⟨gm, 4, none⟩ = some (.bool m.quiet) := (blk_cell BK_gm.out 4).trans rfl; have hf_gm_4 := blk_frozen BK_gm.out 4; have hc_gm_5 : w7_.cell? ⟨gm, 5, none⟩ = some (.int .u8 m.rob) := (blk_cell BK_gm.out 5).trans rfl; have hf_gm_5 := blk_frozen BK_gm.out 5; have hc_gm_6 : w7_.cell? ⟨gm, 6, none⟩ = some (.int .u8 m.every) := (blk_cell BK_gm.out 6).trans rfl; have hf_gm_6 := blk_frozen BK_gm.out 6; have hc_gm_7 : w7_.cell? ⟨gm, 7, none⟩ = some (.slice A_s m.srcs.length c_s) := (blk_cell BK_gm.out 7).trans rfl; have hf_gm_7 := blk_frozen BK_gm.out 7; have hc_gm_8 : w7_.cell? ⟨gm, 8, none⟩ = some (.slice A_r m.recs.length c_r) := (blk_cell BK_gm.out 8).trans rfl; have hf_gm_8 := blk_frozen BK_gm.out 8; clear hc_gn_0 hf_gn_0 hc_gn_1 hf_gn_1 hc_gn_2 hf_gn_2 hc_gn_3 hf_gn_3 hc_gn_4 hf_gn_4 hc_gn_5 hf_gn_5 hc_gn_6 hf_gn_6 hc_gn_7 hf_gn_7 hc_gn_8 hf_gn_8; have nBK := Aside0.mk (blk_below (g := gn) (o := .cells #[.int .u8 n.k, .int .i64 n.ver, .int .u8 n.code, .int .u32 n.grp, .bool n.quiet, .int .u8 n.rob, .int .u8 n.every, .slice A_t n.srcs.length c_t, .slice A_u n.recs.length c_u] 27 (0, 0)) BK_gn.out hB); clear BK_gn; have BK_gn := nBK; clear nBK; have hc_gn_0 : w7_.cell? ⟨gn, 0, none⟩ = some (.int .u8 n.k) := (blk_cell BK_gn.out 0).trans rfl; have hf_gn_0 := blk_frozen BK_gn.out 0; have hc_gn_1 : w7_.cell? ⟨gn, 1, none⟩ = some (.int .i64 n.ver) := (blk_cell BK_gn.out 1).trans rfl; have hf_gn_1 := blk_frozen BK_gn.out 1; have hc_gn_2 : w7_.cell? ⟨gn, 2, none⟩ = some (.int .u8 n.code) := (blk_cell BK_gn.out 2).trans rfl; have hf_gn_2 := blk_frozen BK_gn.out 2; have hc_gn_3 : w7_.cell? ⟨gn, 3, none⟩ = some (.int .u32 n.grp) := (blk_cell BK_gn.out 3).trans rfl; have hf_gn_3 := blk_frozen BK_gn.out 3; have hc_gn_4 : w7_.cell? ⟨gn, 4, none⟩ = some (.bool n.quiet) := (blk_cell BK_gn.out 4).trans rfl; have hf_gn_4 := blk_frozen BK_gn.out 4; have hc_gn_5 : w7_.cell? ⟨gn, 5, none⟩ = some (.int .u8 n.rob) := (blk_cell BK_gn.out 5).trans rfl; have hf_gn_5 := blk_frozen BK_gn.out 5; have hc_gn_6 : w7_.cell? ⟨gn, 6, none⟩ = some (.int .u8 n.every) := (blk_cell BK_gn.out 6).trans rfl; have hf_gn_6 := blk_frozen BK_gn.out 6; have hc_gn_7 : w7_.cell? ⟨gn, 7, none⟩ = some (.slice A_t n.srcs.length c_t) := (blk_cell BK_gn.out 7).trans rfl; have hf_gn_7 := blk_frozen BK_gn.out 7; have hc_gn_8 : w7_.cell? ⟨gn, 8, none⟩ = some (.slice A_u n.recs.length c_u) := (blk_cell BK_gn.out 8).trans rfl; have hf_gn_8 := blk_frozen BK_gn.out 8; clear hB))
  refine start_ (n := 28) (S := fun w' => w'.cell? ⟨gm, 0, none⟩ = some (.int .u8 m.k) ∧ w'.cell? ⟨gm, 1, none⟩ = some (.int .i64 m.ver) ∧ w'.cell? ⟨gm, 2, none⟩ = some (.int .u8 m.code) ∧ w'.cell? ⟨gm, 3, none⟩ = some (.int .u32 m.grp) ∧ w'.cell? ⟨gm, 4, none⟩ = some (.bool m.quiet) ∧ w'.cell? ⟨gm, 5, none⟩ = some (.int .u8 m.rob) ∧ w'.cell? ⟨gm, 6, none⟩ = some (.int .u8 m.every) ∧ w'.cell? ⟨gm, 7, none⟩ = some (.slice A_s m.srcs.length c_s) ∧ w'.cell? ⟨gm, 8, none⟩ = some (.slice A_r m.recs.length c_r) ∧ w'.cell? ⟨gn, 0, none⟩ = some (.int .u8 n.k) ∧ w'.cell? ⟨gn, 1, none⟩ = some (.int .i64 n.ver) ∧ w'.cell? ⟨gn, 2, none⟩ = some (.int .u8 n.code) ∧ w'.cell? ⟨gn, 3, none⟩ = some (.int .u32 n.grp) ∧ w'.cell? ⟨gn, 4, none⟩ = some (.bool n.quiet) ∧ w'.cell? ⟨gn, 5, none⟩ = some (.int .u8 n.rob) ∧ w'.cell? ⟨gn, 6, none⟩ = some (.int .u8 n.every) ∧ w'.cell? ⟨gn, 7, none⟩ = some (.slice A_t n.srcs.length c_t) ∧ w'.cell? ⟨gn, 8, none⟩ = some (.slice A_u n.recs.length c_u)) (ds := []) #[false, false, false, false, false, false, false, false, false, false, false, false, false, false, false, false, false, false, false, false, false, false, false, false, false, false, false, false] (by kernel_rfl) rfl rfl ⟨hc_gm_0, hc_gm_1, hc_gm_2, hc_gm_3, hc_gm_4, hc_gm_5, hc_gm_6, hc_gm_7, hc_gm_8, hc_gn_0, hc_gn_1, hc_gn_2, hc_gn_3, hc_gn_4, hc_gn_5, hc_gn_6, hc_gn_7, hc_gn_8⟩ (fun hHeld => ?_); refine with_tabW wr_t6 wr_b6 (fun HT_ HW_ => ?_)
  have hB : Below w7_.heap.size w7_ w7_.drew := below_drew (Below.refl _ _)
  generalize w7_.drew = w8_ at hB hHeld ⊢
  have nHB := Aside0.mk (HB.out.trans (hB.mono HB.out.size))
  clear HB
  have HB := nHB
  clear nHB
  clear hc_gm_0 hf_gm_0 hc_gm_1 hf_gm_1 hc_gm_2 hf_gm_2 hc_gm_3 hf_gm_3 hc_gm_4 hf_gm_4 hc_gm_5 hf_gm_5 hc_gm_6 hf_gm_6 hc_gm_7 hf_gm_7 hc_gm_8 hf_gm_8
  have nBK := Aside0.mk (blk_below (g := gm) (o := .cells #[.int .u8 m.k, .int .i64 m.ver, .int .u8 m.code, .int .u32 m.grp, .bool m.quiet, .int .u8 m.rob, .int .u8 m.every, .slice A_s m.srcs.length c_s, .slice A_r m.recs.length c_r] 27 (0, 0)) BK_gm.out hB)
  clear BK_gm
  have BK_gm := nBK
  clear nBK
  have hc_gm_0 : w8_.cell? ⟨gm, 0, none⟩ = some (.int .u8 m.k) := (blk_cell BK_gm.out 0).trans rfl
  have hf_gm_0 := blk_frozen BK_gm.out 0
  have hc_gm_1 : w8_.cell? ⟨gm, 1, none⟩ = some (.int .i64 m.ver) := (blk_cell BK_gm.out 1).trans rfl
  have hf_gm_1 := blk_frozen BK_gm.out 1
  have hc_gm_2 : w8_.cell? ⟨gm, 2, none⟩ = some (.int .u8 m.code) := (blk_cell BK_gm.out 2).trans rfl
  have hf_gm_2 := blk_frozen BK_gm.out 2
  have hc_gm_3 : w8_.cell? ⟨gm, 3, none⟩ = some (.int .u32 m.grp) := (blk_cell BK_gm.out 3).trans rfl
  have hf_gm_3 := blk_frozen BK_gm.out 3
  have hc_gm_4 : w8_.cell? ⟨gm, 4, none⟩ = some (.bool m.quiet) := (blk_cell BK_gm.out 4).trans rfl
  have hf_gm_4 := blk_frozen BK_gm.out 4
  have hc_gm_5 : w8_.cell? ⟨gm, 5, none⟩ = some (.int .u8 m.rob) := (blk_cell BK_gm.out 5).trans rfl
  have hf_gm_5 := blk_frozen BK_gm.out 5
  have hc_gm_6 : w8_.cell? ⟨gm, 6, none⟩ = some (.int .u8 m.every) := (blk_cell BK_gm.out 6).trans rfl
  have hf_gm_6 := blk_frozen BK_gm.out 6
  have hc_gm_7 : w8_.cell? ⟨gm, 7, none⟩ = some (.slice A_s m.srcs.length c_s) := (blk_cell BK_gm.out 7).trans rfl
  have hf_gm_7 := blk_frozen BK_gm.out 7
  have hc_gm_8 : w8_.cell? ⟨gm, 8, none⟩ = some (.slice A_r m.recs.length c_r) := (blk_cell BK_gm.out 8).trans rfl
  have hf_gm_8 := blk_frozen BK_gm.out 8
  clear hc_gn_0 hf_gn_0 hc_gn_1 hf_gn_1 hc_gn_2 hf_gn_2 hc_gn_3 hf_gn_3 hc_gn_4 hf_gn_4 hc_gn_5 hf_gn_5 hc_gn_6 hf_gn_6 hc_gn_7 hf_gn_7 hc_gn_8 hf_gn_8
  have nBK := Aside0.mk (blk_below (g := gn) (o := .cells #[.int .u8 n.k, .int .i64 n.ver, .int .u8 n.code, .int .u32 n.grp, .bool n.quiet, .int .u8 n.rob, .int .u8 n.every, .slice A_t n.srcs.length c_t, .slice A_u n.recs.length c_u] 27 (0, 0)) BK_gn.out hB)
  clear BK_gn
  have BK_gn := nBK
  clear nBK
  have hc_gn_0 : w8_.cell? ⟨gn, 0, none⟩ = some (.int .u8 n.k) := (blk_cell BK_gn.out 0).trans rfl
  have hf_gn_0 := blk_frozen BK_gn.out 0
  have hc_gn_1 : w8_.cell? ⟨gn, 1, none⟩ = some (.int .i64 n.ver) := (blk_cell BK_gn.out 1).trans rfl
  have hf_gn_1 := blk_frozen BK_gn.out 1
  have hc_gn_2 : w8_.cell? ⟨gn, 2, none⟩ = some (.int .u8 n.code) := (blk_cell BK_gn.out 2).trans rfl
  have hf_gn_2 := blk_frozen BK_gn.out 2
  have hc_gn_3 : w8_.cell? ⟨gn, 3, none⟩ = some (.int .u32 n.grp) := (blk_cell BK_gn.out 3).trans rfl
  have hf_gn_3 := blk_frozen BK_gn.out 3
  have hc_gn_4 : w8_.cell? ⟨gn, 4, none⟩ = some (.bool n.quiet) := (blk_cell BK_gn.out 4).trans rfl
  have hf_gn_4 := blk_frozen BK_gn.out 4
  have hc_gn_5 : w8_.cell? ⟨gn, 5, none⟩ = some (.int .u8 n.rob) := (blk_cell BK_gn.out 5).trans rfl
  have hf_gn_5 := blk_frozen BK_gn.out 5
  have hc_gn_6 : w8_.cell? ⟨gn, 6, none⟩ = some (.int .u8 n.every) := (blk_cell BK_gn.out 6).trans rfl
  have hf_gn_6 := blk_frozen BK_gn.out 6
  have hc_gn_7 : w8_.cell? ⟨gn, 7, none⟩ = some (.slice A_t n.srcs.length c_t) := (blk_cell BK_gn.out 7).trans rfl
  have hf_gn_7 := blk_frozen BK_gn.out 7
  have hc_gn_8 : w8_.cell? ⟨gn, 8, none⟩ = some (.slice A_u n.recs.length c_u) := (blk_cell BK_gn.out 8).trans rfl
  have hf_gn_8 := blk_frozen BK_gn.out 8
  clear hB
  refine pure_ (i := 0) (N := some 30) (v := ?_) (a' := ?_) #[true, false, false, false, false, false, false, false, false, false, false, false, false, false, false, false, false, false, false, false, false, false, false, false, false, false, false, false] rfl rfl (any_of HT_.out (by kernel_rfl)) (fun _ _ _ h => h) (Or.inl ⟨by rfl, ?_⟩) ?_ ?_
  rotate_left
  · intro w'
    go_simp
    with_reducible rfl
  rotate_left
  · simp only [Act.put, List.setIfInBounds_toArray, List.set_cons_zero, List.set_cons_succ, i64_w, i32_w]
    rfl
  refine pure_ (i := 1) (N := some 31) (v := ?_) (a' := ?_) #[true, true, false, false, false, false, false, false, false, false, false, false, false, false, false, false, false, false, false, false, false, false, false, false, false, false, false, false] rfl rfl (any_of HT_.out (by kernel_rfl)) (fun _ _ _ h => h) (Or.inl ⟨by rfl, ?_⟩) ?_ ?_
  rotate_left
  · intro w'
    go_simp
    with_reducible rfl
  rotate_left
  · simp only [Act.put, List.setIfInBounds_toArray, List.set_cons_zero, List.set_cons_succ, i64_w, i32_w]
    rfl
  refine take_ (i := 2) (N := some 32) (v := ?_) (a' := ?_) #[true, true, true, false, false, false, false, false, false, false, false, false, false, false, false, false, false, false, false, false, false, false, false, false, false, false, false, false] rfl rfl (take_ofW HT_.out HW_.out (by kernel_rfl)) (fun _ _ _ h => h) (Or.inl ⟨by rfl, ?_⟩) hHeld ?_ ?_
  rotate_left
  · rintro w' ⟨s0, s1, s2, s3, s4, s5, s6, s7, s8, s9, s10, s11, s12, s13, s14, s15, s16, s17⟩
    go_simp
    with_reducible rfl
  rotate_left
  · simp only [Act.put, List.setIfInBounds_toArray, List.set_cons_zero, List.set_cons_succ, i64_w, i32_w]
    rfl
  refine take_ (i := 4) (N := some 34) (v := ?_) (a' := ?_) #[true, true, true, false, true, false, false, false, false, false, false, false, false, false, false, false, false, false, false, false, false, false, false, false, false, false, false, false] rfl rfl (take_ofW HT_.out HW_.out (by kernel_rfl)) (fun _ _ _ h => h) (Or.inl ⟨by rfl, ?_⟩) hHeld ?_ ?_
  rotate_left
  · rintro w' ⟨s0, s1, s2, s3, s4, s5, s6, s7, s8, s9, s10, s11, s12, s13, s14, s15, s16, s17⟩
    go_simp
    with_reducible rfl
  rotate_left
  · simp only [Act.put, List.setIfInBounds_toArray, List.set_cons_zero, List.set_cons_succ, i64_w, i32_w]
    rfl
  refine one_ (i := 3) (N := some 33) #[true, true, true, true, true, false, false, false, false, false, false, false, false, false, false, false, false, false, false, false, false, false, false, false, false, false, false, false] rfl rfl (one_of HT_.out (by kernel_rfl)) (by decide) (fun K hK => ?_)
  refine goes_ Try.func15 (by kernel_rfl) rfl #[.agg #[.int .u8 m.k, .int .i64 m.ver, .int .u8 m.code, .int .u32 m.grp, .bool m.quiet, .int .u8 m.rob, .int .u8 m.every, .slice A_s m.srcs.length c_s, .slice A_r m.recs.length c_r]] (by rfl) rfl rfl (by (try simp only [List.map_toArray, List.map_cons, List.map_nil]); first | done | rfl | (simp only [List.length_drop, List.length_take]; rfl)) ?_
  with_reducible refine (rightm_w Xho.out Xhz.out Xhb.out _ _ _ _ _ (Kd.C_below HC_s.out HB.out) HK_s.out (Kd.C_below HC_r.out HB.out) HK_r.out).mono ?_
  rintro e w9_ ⟨rfl, hB⟩
  refine ⟨_, rfl, ?_⟩
  have hsz := HB.out.size
  have nHB := Aside0.mk (HB.out.trans (hB.mono HB.out.size))
  clear HB
  have HB := nHB
  clear nHB
  clear hc_gm_0 hf_gm_0 hc_gm_1 hf_gm_1 hc_gm_2 hf_gm_2 hc_gm_3 hf_gm_3 hc_gm_4 hf_gm_4 hc_gm_5 hf_gm_5 hc_gm_6 hf_gm_6 hc_gm_7 hf_gm_7 hc_gm_8 hf_gm_8
  have nBK := Aside0.mk (blk_below (g := gm) (o := .cells #[.int .u8 m.k, .int .i64 m.ver, .int .u8 m.code, .int .u32 m.grp, .bool m.quiet, .int .u8 m.rob, .int .u8 m.every, .slice A_s m.srcs.length c_s, .slice A_r m.recs.length c_r] 27 (0, 0)) BK_gm.out hB)
  clear BK_gm
  have BK_gm := nBK
  clear nBK
  have hc_gm_0 : w9_.cell? ⟨gm, 0, none⟩ = some (.int .u8 m.k) := (blk_cell BK_gm.out 0).trans rfl
  have hf_gm_0 := blk_frozen BK_gm.out 0
  have hc_gm_1 : w9_.cell? ⟨gm, 1, none⟩ = some (.int .i64 m.ver) := (blk_cell BK_gm.out 1).trans rfl
  have hf_gm_1 := blk_frozen BK_gm.out 1
  have hc_gm_2 : w9_.cell? ⟨gm, 2, none⟩ = some (.int .u8 m.code) := (blk_cell BK_gm.out 2).trans rfl
  have hf_gm_2 := blk_frozen BK_gm.out 2
  have hc_gm_3 : w9_.cell? ⟨gm, 3, none⟩ = some (.int .u32 m.grp) := (blk_cell BK_gm.out 3).trans rfl
  have hf_gm_3 := blk_frozen BK_gm.out 3
  have hc_gm_4 : w9_.cell? ⟨gm, 4, none⟩ = some (.bool m.quiet) := (blk_cell BK_gm.out 4).trans rfl
  have hf_gm_4 := blk_frozen BK_gm.out 4
  have hc_gm_5 : w9_.cell? ⟨gm, 5, none⟩ = some (.int .u8 m.rob) := (blk_cell BK_gm.out 5).trans rfl
  have hf_gm_5 := blk_frozen BK_gm.out 5
  have hc_gm_6 : w9_.cell? ⟨gm, 6, none⟩ = some (.int .u8 m.every) := (blk_cell BK_gm.out 6).trans rfl
  have hf_gm_6 := blk_frozen BK_gm.out 6
  have hc_gm_7 : w9_.cell? ⟨gm, 7, none⟩ = some (.slice A_s m.srcs.length c_s) := (blk_cell BK_gm.out 7).trans rfl
  have hf_gm_7 := blk_frozen BK_gm.out 7
  have hc_gm_8 : w9_.cell? ⟨gm, 8, none⟩ = some (.slice A_r m.recs.length c_r) := (blk_cell BK_gm.out 8).trans rfl
  have hf_gm_8 := blk_frozen BK_gm.out 8
  clear hc_gn_0 hf_gn_0 hc_gn_1 hf_gn_1 hc_gn_2 hf_gn_2 hc_gn_3 hf_gn_3 hc_gn_4 hf_gn_4 hc_gn_5 hf_gn_5 hc_gn_6 hf_gn_6 hc_gn_7 hf_gn_7 hc_gn_8 hf_gn_8
  have nBK := Aside0.mk (blk_below (g := gn) (o := .cells #[.int .u8 n.k, .int .i64 n.ver, .int .u8 n.code, .int .u32 n.grp, .bool n.quiet, .int .u8 n.rob, .int .u8 n.every, .slice A_t n.srcs.length c_t, .slice A_u n.recs.length c_u] 27 (0, 0)) BK_gn.out hB)
  clear BK_gn
  have BK_gn := nBK
  clear nBK
  have hc_gn_0 : w9_.cell? ⟨gn, 0, none⟩ = some (.int .u8 n.k) := (blk_cell BK_gn.out 0).trans rfl
  have hf_gn_0 := blk_frozen BK_gn.out 0
  have hc_gn_1 : w9_.cell? ⟨gn, 1, none⟩ = some (.int .i64 n.ver) := (blk_cell BK_gn.out 1).trans rfl
  have hf_gn_1 := blk_frozen BK_gn.out 1
  have hc_gn_2 : w9_.cell? ⟨gn, 2, none⟩ = some (.int .u8 n.code) := (blk_cell BK_gn.out 2).trans rfl
  have hf_gn_2 := blk_frozen BK_gn.out 2
  have hc_gn_3 : w9_.cell? ⟨gn, 3, none⟩ = some (.int .u32 n.grp) := (blk_cell BK_gn.out 3).trans rfl
  have hf_gn_3 := blk_frozen BK_gn.out 3
  have hc_gn_4 : w9_.cell? ⟨gn, 4, none⟩ = some (.bool n.quiet) := (blk_cell BK_gn.out 4).trans rfl
  have hf_gn_4 := blk_frozen BK_gn.out 4
  have hc_gn_5 : w9_.cell? ⟨gn, 5, none⟩ = some (.int .u8 n.rob) := (blk_cell BK_gn.out 5).trans rfl
  have hf_gn_5 := blk_frozen BK_gn.out 5
  have hc_gn_6 : w9_.cell? ⟨gn, 6, none⟩ = some (.int .u8 n.every) := (blk_cell BK_gn.out 6).trans rfl
  have hf_gn_6 := blk_frozen BK_gn.out 6
  have hc_gn_7 : w9_.cell? ⟨gn, 7, none⟩ = some (.slice A_t n.srcs.length c_t) := (blk_cell BK_gn.out 7).trans rfl
  have hf_gn_7 := blk_frozen BK_gn.out 7
  have hc_gn_8 : w9_.cell? ⟨gn, 8, none⟩ = some (.slice A_u n.recs.length c_u) := (blk_cell BK_gn.out 8).trans rfl
  have hf_gn_8 := blk_frozen BK_gn.out 8
  clear hB hsz
  refine hK.out _ _ ⟨hc_gm_0, hc_gm_1, hc_gm_2, hc_gm_3, hc_gm_4, hc_gm_5, hc_gm_6, hc_gm_7, hc_gm_8, hc_gn_0, hc_gn_1, hc_gn_2, hc_gn_3, hc_gn_4, hc_gn_5, hc_gn_6, hc_gn_7, hc_gn_8⟩ (fun hHeld => ?_)
  clear hK K
  refine norm_ (a' := ?_) ?_ ?_
  rotate_left
  · show Act.put _ (some 33) _ = _
    simp only [Act.put, List.setIfInBounds_toArray, List.set_cons_zero, List.set_cons_succ, i64_w, i32_w]
    rfl
  refine one_ (i := 5) (N := some 35) #[true, true, true, true, true, true, false, false, false, false, false, false, false, false, false, false, false, false, false, false, false, false, false, false, false, false, false, false] rfl rfl (one_of HT_.out (by kernel_rfl)) (by decide) (fun K hK => ?_)
  refine goes_ Try.func16 (by kernel_rfl) rfl #[.agg #[.int .u8 m.k, .int .i64 m.ver, .int .u8 m.code, .int .u32 m.grp, .bool m.quiet, .int .u8 m.rob, .int .u8 m.every, .slice A_s m.srcs.length c_s, .slice A_r m.recs.length c_r]] (by rfl) rfl rfl (by (try simp only [List.map_toArray, List.map_cons, List.map_nil]); first | done | rfl | (simp only [List.length_drop, List.length_take]; rfl)) ?_
  with_reducible refine (rright_w Xhb.out Xhrl.out _ _ _ _ _ (Kd.C_below HC_s.out HB.out) HK_s.out (Kd.C_below HC_r.out HB.out) HK_r.out).mono ?_
  rintro e w10_ ⟨rfl, hB⟩
  refine ⟨_, rfl, ?_⟩
  have hsz := HB.out.size
  have nHB := Aside0.mk (HB.out.trans (hB.mono HB.out.size))
  clear HB
  have HB := nHB
  clear nHB
  clear hc_gm_0 hf_gm_0 hc_gm_1 hf_gm_1 hc_gm_2 hf_gm_2 hc_gm_3 hf_gm_3 hc_gm_4 hf_gm_4 hc_gm_5 hf_gm_5 hc_gm_6 hf_gm_6 hc_gm_7 hf_gm_7 hc_gm_8 hf_gm_8
  have nBK := Aside0.mk (blk_below (g := gm) (o := .cells #[.int .u8 m.k, .int .i64 m.ver, .int .u8 m.code, .int .u32 m.grp, .bool m.quiet, .int .u8 m.rob, .int .u8 m.every, .slice A_s m.srcs.length c_s, .slice A_r m.recs.length c_r] 27 (0, 0)) BK_gm.out hB)
  clear BK_gm
  have BK_gm := nBK
  clear nBK
  have hc_gm_0 : w10_.cell? ⟨gm, 0, none⟩ = some (.int .u8 m.k) := (blk_cell BK_gm.out 0).trans rfl
  have hf_gm_0 := blk_frozen BK_gm.out 0
  have hc_gm_1 : w10_.cell? ⟨gm, 1, none⟩ = some (.int .i64 m.ver) := (blk_cell BK_gm.out 1).trans rfl
  have hf_gm_1 := blk_frozen BK_gm.out 1
  have hc_gm_2 : w10_.cell? ⟨gm, 2, none⟩ = some (.int .u8 m.code) := (blk_cell BK_gm.out 2).trans rfl
  have hf_gm_2 := blk_frozen BK_gm.out 2
  have hc_gm_3 : w10_.cell? ⟨gm, 3, none⟩ = some (.int .u32 m.grp) := (blk_cell BK_gm.out 3).trans rfl
  have hf_gm_3 := blk_frozen BK_gm.out 3
  have hc_gm_4 : w10_.cell? ⟨gm, 4, none⟩ = some (.bool m.quiet) := (blk_cell BK_gm.out 4).trans rfl
  have hf_gm_4 := blk_frozen BK_gm.out 4
  have hc_gm_5 : w10_.cell? ⟨gm, 5, none⟩ = some (.int .u8 m.rob) := (blk_cell BK_gm.out 5).trans rfl
  have hf_gm_5 := blk_frozen BK_gm.out 5
  have hc_gm_6 : w10_.cell? ⟨gm, 6, none⟩ = some (.int .u8 m.every) := (blk_cell BK_gm.out 6).trans rfl
  have hf_gm_6 := blk_frozen BK_gm.out 6
  have hc_gm_7 : w10_.cell? ⟨gm, 7, none⟩ = some (.slice A_s m.srcs.length c_s) := (blk_cell BK_gm.out 7).trans rfl
  have hf_gm_7 := blk_frozen BK_gm.out 7
  have hc_gm_8 : w10_.cell? ⟨gm, 8, none⟩ = some (.slice A_r m.recs.length c_r) := (blk_cell BK_gm.out 8).trans rfl
  have hf_gm_8 := blk_frozen BK_gm.out 8
  clear hc_gn_0 hf_gn_0 hc_gn_1 hf_gn_1 hc_gn_2 hf_gn_2 hc_gn_3 hf_gn_3 hc_gn_4 hf_gn_4 hc_gn_5 hf_gn_5 hc_gn_6 hf_gn_6 hc_gn_7 hf_gn_7 hc_gn_8 hf_gn_8
  have nBK := Aside0.mk (blk_below (g := gn) (o := .cells #[.int .u8 n.k, .int .i64 n.ver, .int .u8 n.code, .int .u32 n.grp, .bool n.quiet, .int .u8 n.rob, .int .u8 n.every, .slice A_t n.srcs.length c_t, .slice A_u n.recs.length c_u] 27 (0, 0)) BK_gn.out hB)
  clear BK_gn
  have BK_gn := nBK
  clear nBK
  have hc_gn_0 : w10_.cell? ⟨gn, 0, none⟩ = some (.int .u8 n.k) := (blk_cell BK_gn.out 0).trans rfl
  have hf_gn_0 := blk_frozen BK_gn.out 0
  have hc_gn_1 : w10_.cell? ⟨gn, 1, none⟩ = some (.int .i64 n.ver) := (blk_cell BK_gn.out 1).trans rfl
  have hf_gn_1 := blk_frozen BK_gn.out 1
  have hc_gn_2 : w10_.cell? ⟨gn, 2, none⟩ = some (.int .u8 n.code) := (blk_cell BK_gn.out 2).trans rfl
  have hf_gn_2 := blk_frozen BK_gn.out 2
  have hc_gn_3 : w10_.cell? ⟨gn, 3, none⟩ = some (.int .u32 n.grp) := (blk_cell BK_gn.out 3).trans rfl
  have hf_gn_3 := blk_frozen BK_gn.out 3
  have hc_gn_4 : w10_.cell? ⟨gn, 4, none⟩ = some (.bool n.quiet) := (blk_cell BK_gn.out 4).trans rfl
  have hf_gn_4 := blk_frozen BK_gn.out 4
  have hc_gn_5 : w10_.cell? ⟨gn, 5, none⟩ = some (.int .u8 n.rob) := (blk_cell BK_gn.out 5).trans rfl
  have hf_gn_5 := blk_frozen BK_gn.out 5
  have hc_gn_6 : w10_.cell? ⟨gn, 6, none⟩ = some (.int .u8 n.every) := (blk_cell BK_gn.out 6).trans rfl
  have hf_gn_6 := blk_frozen BK_gn.out 6
  have hc_gn_7 : w10_.cell? ⟨gn, 7, none⟩ = some (.slice A_t n.srcs.length c_t) := (blk_cell BK_gn.out 7).trans rfl
  have hf_gn_7 := blk_frozen BK_gn.out 7
  have hc_gn_8 : w10_.cell? ⟨gn, 8, none⟩ = some (.slice A_u n.recs.length c_u) := (blk_cell BK_gn.out 8).trans rfl
  have hf_gn_8 := blk_frozen BK_gn.out 8
  clear hB hsz
  refine hK.out _ _ ⟨hc_gm_0, hc_gm_1, hc_gm_2, hc_gm_3, hc_gm_4, hc_gm_5, hc_gm_6, hc_gm_7, hc_gm_8, hc_gn_0, hc_gn_1, hc_gn_2, hc_gn_3, hc_gn_4, hc_gn_5, hc_gn_6, hc_gn_7, hc_gn_8⟩ (fun hHeld => ?_)
  clear hK K
  refine norm_ (a' := ?_) ?_ ?_
  rotate_left
  · show Act.put _ (some 35) _ = _
    simp only [Act.put, List.setIfInBounds_toArray, List.set_cons_zero, List.set_cons_succ, i64_w, i32_w]
    rfl
  refine pure_ (i := 6) (N := some 36) (v := ?_) (a' := ?_) #[true, true, true, true, true, true, true, false, false, false, false, false, false, false, false, false, false, false, false, false, false, false, false, false, false, false, false, false] rfl rfl (any_of HT_.out (by kernel_rfl)) (fun _ _ _ h => h) (Or.inl ⟨by rfl, ?_⟩) ?_ ?_
  rotate_left
  · intro w'
    go_simp
    with_reducible rfl
  rotate_left
  · simp only [Act.put, List.setIfInBounds_toArray, List.set_cons_zero, List.set_cons_succ, i64_w, i32_w]
    rfl
  refine pure_ (i := 7) (N := some 37) (v := ?_) (a' := ?_) #[true, true, true, true, true, true, true, true, false, false, false, false, false, false, false, false, false, false, false, false, false, false, false, false, false, false, false, false] rfl rfl (any_of HT_.out (by kernel_rfl)) (fun _ _ _ h => h) (Or.inl ⟨by rfl, ?_⟩) ?_ ?_
  rotate_left
  · intro w'
    go_simp
    with_reducible rfl
  rotate_left
  · simp only [Act.put, List.setIfInBounds_toArray, List.set_cons_zero, List.set_cons_succ, i64_w, i32_w]
    rfl
  refine pure_ (i := 8) (N := some 38) (v := ?_) (a' := ?_) #[true, true, true, true, true, true, true, true, true, false, false, false, false, false, false, false, false, false, false, false, false, false, false, false, false, false, false, false] rfl rfl (any_of HT_.out (by kernel_rfl)) (fun _ _ _ h => h) (Or.inl ⟨by rfl, ?_⟩) ?_ ?_
  rotate_left
  · intro w'
    go_simp
    with_reducible rfl
  rotate_left
  · simp only [Act.put, List.setIfInBounds_toArray, List.set_cons_zero, List.set_cons_succ, i64_w, i32_w]
    rfl
  refine pure_ (i := 9) (N := some 39) (v := ?_) (a' := ?_) #[true, true, true, true, true, true, true, true, true, true, false, false, false, false, false, false, false, false, false, false, false, false, false, false, false, false, false, false] rfl rfl (any_of HT_.out (by kernel_rfl)) (fun _ _ _ h => h) (Or.inl ⟨by rfl, ?_⟩) ?_ ?_
  rotate_left
  · intro w'
    go_simp
    with_reducible rfl
  rotate_left
  · simp only [Act.put, List.setIfInBounds_toArray, List.set_cons_zero, List.set_cons_succ, i64_w, i32_w]
    rfl
  refine pure_ (i := 10) (N := some 40) (v := ?_) (a' := ?_) #[true, true, true, true, true, true, true, true, true, true, true, false, false, false, false, false, false, false, false, false, false, false, false, false, false, false, false, false] rfl rfl (any_of HT_.out (by kernel_rfl)) (fun _ _ _ h => h) (Or.inl ⟨by rfl, ?_⟩) ?_ ?_
  rotate_left
  · intro w'
    go_simp
    with_reducible rfl
  rotate_left
  · simp only [Act.put, List.setIfInBounds_toArray, List.set_cons_zero, List.set_cons_succ, i64_w, i32_w]
    rfl
  refine one_ (i := 11) (N := some 41) #[true, true, true, true, true, true, true, true, true, true, true, true, false, false, false, false, false, false, false, false, false, false, false, false, false, false, false, false] rfl rfl (one_of HT_.out (by kernel_rfl)) (by decide) (fun K hK => ?_)
  refine goes_ Try.func17 (by kernel_rfl) rfl #[.slice none 0 0, .slice none 0 0] (by rfl) rfl rfl (by (try simp only [List.map_toArray, List.map_cons, List.map_nil]); first | done | rfl | (simp only [List.length_drop, List.length_take]; rfl)) ?_
  with_reducible refine (same0_w _).mono ?_
  rintro e w11_ ⟨rfl, hB⟩
  refine ⟨_, rfl, ?_⟩
  have hsz := HB.out.size
  have nHB := Aside0.mk (HB.out.trans (hB.mono HB.out.size))
  clear HB
  have HB := nHB
  clear nHB
  clear hc_gm_0 hf_gm_0 hc_gm_1 hf_gm_1 hc_gm_2 hf_gm_2 hc_gm_3 hf_gm_3 hc_gm_4 hf_gm_4 hc_gm_5 hf_gm_5 hc_gm_6 hf_gm_6 hc_gm_7 hf_gm_7 hc_gm_8 hf_gm_8
  have nBK := Aside0.mk (blk_below (g := gm) (o := .cells #[.int .u8 m.k, .int .i64 m.ver, .int .u8 m.code, .int .u32 m.grp, .bool m.quiet, .int .u8 m.rob, .int .u8 m.every, .slice A_s m.srcs.length c_s, .slice A_r m.recs.length c_r] 27 (0, 0)) BK_gm.out hB)
  clear BK_gm
  have BK_gm := nBK
  clear nBK
  have hc_gm_0 : w11_.cell? ⟨gm, 0, none⟩ = some (.int .u8 m.k) := (blk_cell BK_gm.out 0).trans rfl
  have hf_gm_0 := blk_frozen BK_gm.out 0
  have hc_gm_1 : w11_.cell? ⟨gm, 1, none⟩ = some (.int .i64 m.ver) := (blk_cell BK_gm.out 1).trans rfl
  have hf_gm_1 := blk_frozen BK_gm.out 1
  have hc_gm_2 : w11_.cell? ⟨gm, 2, none⟩ = some (.int .u8 m.code) := (blk_cell BK_gm.out 2).trans rfl
  have hf_gm_2 := blk_frozen BK_gm.out 2
  have hc_gm_3 : w11_.cell? ⟨gm, 3, none⟩ = some (.int .u32 m.grp) := (blk_cell BK_gm.out 3).trans rfl
  have hf_gm_3 := blk_frozen BK_gm.out 3
  have hc_gm_4 : w11_.cell? ⟨gm, 4, none⟩ = some (.bool m.quiet) := (blk_cell BK_gm.out 4).trans rfl
  have hf_gm_4 := blk_frozen BK_gm.out 4
  have hc_gm_5 : w11_.cell? ⟨gm, 5, none⟩ = some (.int .u8 m.rob) := (blk_cell BK_gm.out 5).trans rfl
  have hf_gm_5 := blk_frozen BK_gm.out 5
  have hc_gm_6 : w11_.cell? ⟨gm, 6, none⟩ = some (.int .u8 m.every) := (blk_cell BK_gm.out 6).trans rfl
  have hf_gm_6 := blk_frozen BK_gm.out 6
  have hc_gm_7 : w11_.cell? ⟨gm, 7, none⟩ = some (.slice A_s m.srcs.length c_s) := (blk_cell BK_gm.out 7).trans rfl
  have hf_gm_7 := blk_frozen BK_gm.out 7
  have hc_gm_8 : w11_.cell? ⟨gm, 8, none⟩ = some (.slice A_r m.recs.length c_r) := (blk_cell BK_gm.out 8).trans rfl
  have hf_gm_8 := blk_frozen BK_gm.out 8
  clear hc_gn_0 hf_gn_0 hc_gn_1 hf_gn_1 hc_gn_2 hf_gn_2 hc_gn_3 hf_gn_3 hc_gn_4 hf_gn_4 hc_gn_5 hf_gn_5 hc_gn_6 hf_gn_6 hc_gn_7 hf_gn_7 hc_gn_8 hf_gn_8
  have nBK := Aside0.mk (blk_below (g := gn) (o := .cells #[.int .u8 n.k, .int .i64 n.ver, .int .u8 n.code, .int .u32 n.grp, .bool n.quiet, .int .u8 n.rob, .int .u8 n.every, .slice A_t n.srcs.length c_t, .slice A_u n.recs.length c_u] 27 (0, 0)) BK_gn.out hB)
  clear BK_gn
  have BK_gn := nBK
  clear nBK
  have hc_gn_0 : w11_.cell? ⟨gn, 0, none⟩ = some (.int .u8 n.k) := (blk_cell BK_gn.out 0).trans rfl
  have hf_gn_0 := blk_frozen BK_gn.out 0
  have hc_gn_1 : w11_.cell? ⟨gn, 1, none⟩ = some (.int .i64 n.ver) := (blk_cell BK_gn.out 1).trans rfl
  have hf_gn_1 := blk_frozen BK_gn.out 1
  have hc_gn_2 : w11_.cell? ⟨gn, 2, none⟩ = some (.int .u8 n.code) := (blk_cell BK_gn.out 2).trans rfl
  have hf_gn_2 := blk_frozen BK_gn.out 2
  have hc_gn_3 : w11_.cell? ⟨gn, 3, none⟩ = some (.int .u32 n.grp) := (blk_cell BK_gn.out 3).trans rfl
  have hf_gn_3 := blk_frozen BK_gn.out 3
  have hc_gn_4 : w11_.cell? ⟨gn, 4, none⟩ = some (.bool n.quiet) := (blk_cell BK_gn.out 4).trans rfl
  have hf_gn_4 := blk_frozen BK_gn.out 4
  have hc_gn_5 : w11_.cell? ⟨gn, 5, none⟩ = some (.int .u8 n.rob) := (blk_cell BK_gn.out 5).trans rfl
  have hf_gn_5 := blk_frozen BK_gn.out 5
  have hc_gn_6 : w11_.cell? ⟨gn, 6, none⟩ = some (.int .u8 n.every) := (blk_cell BK_gn.out 6).trans rfl
  have hf_gn_6 := blk_frozen BK_gn.out 6
  have hc_gn_7 : w11_.cell? ⟨gn, 7, none⟩ = some (.slice A_t n.srcs.length c_t) := (blk_cell BK_gn.out 7).trans rfl
  have hf_gn_7 := blk_frozen BK_gn.out 7
  have hc_gn_8 : w11_.cell? ⟨gn, 8, none⟩ = some (.slice A_u n.recs.length c_u) := (blk_cell BK_gn.out 8).trans rfl
  have hf_gn_8 := blk_frozen BK_gn.out 8
  clear hB hsz
  refine hK.out _ _ ⟨hc_gm_0, hc_gm_1, hc_gm_2, hc_gm_3, hc_gm_4, hc_gm_5, hc_gm_6, hc_gm_7, hc_gm_8, hc_gn_0, hc_gn_1, hc_gn_2, hc_gn_3, hc_gn_4, hc_gn_5, hc_gn_6, hc_gn_7, hc_gn_8⟩ (fun hHeld => ?_)
  clear hK K
  refine norm_ (a' := ?_) ?_ ?_
  rotate_left
  · show Act.put _ (some 41) _ = _
    simp only [Act.put, List.setIfInBounds_toArray, List.set_cons_zero, List.set_cons_succ, i64_w, i32_w]
    rfl
  refine pure_ (i := 12) (N := some 42) (v := ?_) (a' := ?_) #[true, true, true, true, true, true, true, true, true, true, true, true, true, false, false, false, false, false, false, false, false, false, false, false, false, false, false, false] rfl rfl (any_of HT_.out (by kernel_rfl)) (fun _ _ _ h => h) (Or.inl ⟨by rfl, ?_⟩) ?_ ?_
  rotate_left
  · intro w'
    go_simp
    with_reducible rfl
  rotate_left
  · simp only [Act.put, List.setIfInBounds_toArray, List.set_cons_zero, List.set_cons_succ, i64_w, i32_w]
    rfl
  refine pure_ (i := 13) (N := some 43) (v := ?_) (a' := ?_) #[true, true, true, true, true, true, true, true, true, true, true, true, true, true, false, false, false, false, false, false, false, false, false, false, false, false, false, false] rfl rfl (any_of HT_.out (by kernel_rfl)) (fun _ _ _ h => h) (Or.inl ⟨by rfl, ?_⟩) ?_ ?_
  rotate_left
  · intro w'
    go_simp
    with_reducible rfl
  rotate_left
  · simp only [Act.put, List.setIfInBounds_toArray, List.set_cons_zero, List.set_cons_succ, i64_w, i32_w]
    rfl
  refine pure_ (i := 14) (N := some 44) (v := ?_) (a' := ?_) #[true, true, true, true, true, true, true, true, true, true, true, true, true, true, true, false, false, false, false, false, false, false, false, false, false, false, false, false] rfl rfl (any_of HT_.out (by kernel_rfl)) (fun _ _ _ h => h) (Or.inl ⟨by rfl, ?_⟩) ?_ ?_
  rotate_left
  · intro w'
    go_simp
    with_reducible rfl
  rotate_left
  · simp only [Act.put, List.setIfInBounds_toArray, List.set_cons_zero, List.set_cons_succ, i64_w, i32_w]
    rfl
  refine pure_ (i := 15) (N := some 45) (v := ?_) (a' := ?_) #[true, true, true, true, true, true, true, true, true, true, true, true, true, true, true, true, false, false, false, false, false, false, false, false, false, false, false, false] rfl rfl (any_of HT_.out (by kernel_rfl)) (fun _ _ _ h => h) (Or.inl ⟨by rfl, ?_⟩) ?_ ?_
  rotate_left
  · intro w'
    go_simp
    with_reducible rfl
  rotate_left
  · simp only [Act.put, List.setIfInBounds_toArray, List.set_cons_zero, List.set_cons_succ, i64_w, i32_w]
    rfl
  refine pure_ (i := 16) (N := some 46) (v := ?_) (a' := ?_) #[true, true, true, true, true, true, true, true, true, true, true, true, true, true, true, true, true, false, false, false, false, false, false, false, false, false, false, false] rfl rfl (any_of HT_.out (by kernel_rfl)) (fun _ _ _ h => h) (Or.inl ⟨by rfl, ?_⟩) ?_ ?_
  rotate_left
  · intro w'
    go_simp
    with_reducible rfl
  rotate_left
  · simp only [Act.put, List.setIfInBounds_toArray, List.set_cons_zero, List.set_cons_succ, i64_w, i32_w]
    rfl
  refine pure_ (i := 17) (N := some 47) (v := ?_) (a' := ?_) #[true, true, true, true, true, true, true, true, true, true, true, true, true, true, true, true, true, true, false, false, false, false, false, false, false, false, false, false] rfl rfl (any_of HT_.out (by kernel_rfl)) (fun _ _ _ h => h) (Or.inl ⟨by rfl, ?_⟩) ?_ ?_
  rotate_left
  · intro w'
    go_simp
    with_reducible rfl
  rotate_left
  · simp only [Act.put, List.setIfInBounds_toArray, List.set_cons_zero, List.set_cons_succ, i64_w, i32_w]
    rfl
  refine pure_ (i := 18) (N := some 48) (v := ?_) (a' := ?_) #[true, true, true, true, true, true, true, true, true, true, true, true, true, true, true, true, true, true, true, false, false, false, false, false, false, false, false, false] rfl rfl (any_of HT_.out (by kernel_rfl)) (fun _ _ _ h => h) (Or.inl ⟨by rfl, ?_⟩) ?_ ?_
  rotate_left
  · intro w'
    go_simp
    with_reducible rfl
  rotate_left
  · simp only [Act.put, List.setIfInBounds_toArray, List.set_cons_zero, List.set_cons_succ, i64_w, i32_w]
    rfl
  refine take_ (i := 19) (N := some 49) (v := ?_) (a' := ?_) #[true, true, true, true, true, true, true, true, true, true, true, true, true, true, true, true, true, true, true, true, false, false, false, false, false, false, false, false] rfl rfl (take_ofW HT_.out HW_.out (by kernel_rfl)) (fun _ _ _ h => h) (Or.inl ⟨by rfl, ?_⟩) hHeld ?_ ?_
  rotate_left
  · rintro w' ⟨s0, s1, s2, s3, s4, s5, s6, s7, s8, s9, s10, s11, s12, s13, s14, s15, s16, s17⟩
    go_simp
    with_reducible rfl
  rotate_left
  · simp only [Act.put, List.setIfInBounds_toArray, List.set_cons_zero, List.set_cons_succ, i64_w, i32_w]
    rfl
  refine take_ (i := 20) (N := some 50) (v := ?_) (a' := ?_) #[true, true, true, true, true, true, true, true, true, true, true, true, true, true, true, true, true, true, true, true, true, false, false, false, false, false, false, false] rfl rfl (take_ofW HT_.out HW_.out (by kernel_rfl)) (fun _ _ _ h => h) (Or.inl ⟨by rfl, ?_⟩) hHeld ?_ ?_
  rotate_left
  · rintro w' ⟨s0, s1, s2, s3, s4, s5, s6, s7, s8, s9, s10, s11, s12, s13, s14, s15, s16, s17⟩
    go_simp
    with_reducible rfl
  rotate_left
  · simp only [Act.put, List.setIfInBounds_toArray, List.set_cons_zero, List.set_cons_succ, i64_w, i32_w]
    rfl
  refine take_ (i := 22) (N := some 52) (v := ?_) (a' := ?_) #[true, true, true, true, true, true, true, true, true, true, true, true, true, true, true, true, true, true, true, true, true, false, true, false, false, false, false, false] rfl rfl (take_ofW HT_.out HW_.out (by kernel_rfl)) (fun _ _ _ h => h) (Or.inl ⟨by rfl, ?_⟩) hHeld ?_ ?_
  rotate_left
  · rintro w' ⟨s0, s1, s2, s3, s4, s5, s6, s7, s8, s9, s10, s11, s12, s13, s14, s15, s16, s17⟩
    go_simp
    with_reducible rfl
  rotate_left
  · simp only [Act.put, List.setIfInBounds_toArray, List.set_cons_zero, List.set_cons_succ, i64_w, i32_w]
    rfl
  refine take_ (i := 23) (N := some 53) (v := ?_) (a' := ?_) #[true, true, true, true, true, true, true, true, true, true, true, true, true, true, true, true, true, true, true, true, true, false, true, true, false, false, false, false] rfl rfl (take_ofW HT_.out HW_.out (by kernel_rfl)) (fun _ _ _ h => h) (Or.inl ⟨by rfl, ?_⟩) hHeld ?_ ?_
  rotate_left
  · rintro w' ⟨s0, s1, s2, s3, s4, s5, s6, s7, s8, s9, s10, s11, s12, s13, s14, s15, s16, s17⟩
    go_simp
    with_reducible rfl
  rotate_left
  · simp only [Act.put, List.setIfInBounds_toArray, List.set_cons_zero, List.set_cons_succ, i64_w, i32_w]
    rfl
  refine one_ (i := 21) (N := some 51) #[true, true, true, true, true, true, true, true, true, true, true, true, true, true, true, true, true, true, true, true, true, true, true, true, false, false, false, false] rfl rfl (one_of HT_.out (by kernel_rfl)) (by decide) (fun K hK => ?_)
  refine goes_ Try.func18 (by kernel_rfl) rfl #[.agg #[.int .u8 m.k, .int .i64 m.ver, .int .u8 m.code, .int .u32 m.grp, .bool m.quiet, .int .u8 m.rob, .int .u8 m.every, .slice A_s m.srcs.length c_s, .slice A_r m.recs.length c_r], .agg #[.int .u8 n.k, .int .i64 n.ver, .int .u8 n.code, .int .u32 n.grp, .bool n.quiet, .int .u8 n.rob, .int .u8 n.every, .slice A_t n.srcs.length c_t, .slice A_u n.recs.length c_u]] (by rfl) rfl rfl (by (try simp only [List.map_toArray, List.map_cons, List.map_nil]); first | done | rfl | (simp only [List.length_drop, List.length_take]; rfl)) ?_
  with_reducible refine (gsame_w Xhq.out Xhz.out _ _ _ _ _ _ _ _ _ (Kd.C_below HC_s.out HB.out) HK_s.out (Kd.C_below HC_r.out HB.out) HK_r.out (Kd.C_below HC_t.out HB.out) HK_t.out (Kd.C_below HC_u.out HB.out) HK_u.out).mono ?_
  rintro e w12_ ⟨rfl, hB⟩
  refine ⟨_, rfl, ?_⟩
  have hsz := HB.out.size
  have nHB := Aside0.mk (HB.out.trans (hB.mono HB.out.size))
  clear HB
  have HB := nHB
  clear nHB
  clear hc_gm_0 hf_gm_0 hc_gm_1 hf_gm_1 hc_gm_2 hf_gm_2 hc_gm_3 hf_gm_3 hc_gm_4 hf_gm_4 hc_gm_5 hf_gm_5 hc_gm_6 hf_gm_6 hc_gm_7 hf_gm_7 hc_gm_8 hf_gm_8
  have nBK := Aside0.mk (blk_below (g := gm) (o := .cells #[.int .u8 m.k, .int .i64 m.ver, .int .u8 m.code, .int .u32 m.grp, .bool m.quiet, .int .u8 m.rob, .int .u8 m.every, .slice A_s m.srcs.length c_s, .slice A_r m.recs.length c_r] 27 (0, 0)) BK_gm.out hB)
  clear BK_gm
  have BK_gm := nBK
  clear nBK
  have hc_gm_0 : w12_.cell? ⟨gm, 0, none⟩ = some (.int .u8 m.k) := (blk_cell BK_gm.out 0).trans rfl
  have hf_gm_0 := blk_frozen BK_gm.out 0
  have hc_gm_1 : w12_.cell? ⟨gm, 1, none⟩ = some (.int .i64 m.ver) := (blk_cell BK_gm.out 1).trans rfl
  have hf_gm_1 := blk_frozen BK_gm.out 1
  have hc_gm_2 : w12_.cell? ⟨gm, 2, none⟩ = some (.int .u8 m.code) := (blk_cell BK_gm.out 2).trans rfl
  have hf_gm_2 := blk_frozen BK_gm.out 2
  have hc_gm_3 : w12_.cell? ⟨gm, 3, none⟩ = some (.int .u32 m.grp) := (blk_cell BK_gm.out 3).trans rfl
  have hf_gm_3 := blk_frozen BK_gm.out 3
  have hc_gm_4 : w12_.cell? ⟨gm, 4, none⟩ = some (.bool m.quiet) := (blk_cell BK_gm.out 4).trans rfl
  have hf_gm_4 := blk_frozen BK_gm.out 4
  have hc_gm_5 : w12_.cell? ⟨gm, 5, none⟩ = some (.int .u8 m.rob) := (blk_cell BK_gm.out 5).trans rfl
  have hf_gm_5 := blk_frozen BK_gm.out 5
  have hc_gm_6 : w12_.cell? ⟨gm, 6, none⟩ = some (.int .u8 m.every) := (blk_cell BK_gm.out 6).trans rfl
  have hf_gm_6 := blk_frozen BK_gm.out 6
  have hc_gm_7 : w12_.cell? ⟨gm, 7, none⟩ = some (.slice A_s m.srcs.length c_s) := (blk_cell BK_gm.out 7).trans rfl
  have hf_gm_7 := blk_frozen BK_gm.out 7
  have hc_gm_8 : w12_.cell? ⟨gm, 8, none⟩ = some (.slice A_r m.recs.length c_r) := (blk_cell BK_gm.out 8).trans rfl
  have hf_gm_8 := blk_frozen BK_gm.out 8
  clear hc_gn_0 hf_gn_0 hc_gn_1 hf_gn_1 hc_gn_2 hf_gn_2 hc_gn_3 hf_gn_3 hc_gn_4 hf_gn_4 hc_gn_5 hf_gn_5 hc_gn_6 hf_gn_6 hc_gn_7 hf_gn_7 hc_gn_8 hf_gn_8
  have nBK := Aside0.mk (blk_below (g := gn) (o := .cells #[.int .u8 n.k, .int .i64 n.ver, .int .u8 n.code, .int .u32 n.grp, .bool n.quiet, .int .u8 n.rob, .int .u8 n.every, .slice A_t n.srcs.length c_t, .slice A_u n.recs.length c_u] 27 (0, 0)) BK_gn.out hB)
  clear BK_gn
  have BK_gn := nBK
  clear nBK
  have hc_gn_0 : w12_.cell? ⟨gn, 0, none⟩ = some (.int .u8 n.k) := (blk_cell BK_gn.out 0).trans rfl
  have hf_gn_0 := blk_frozen BK_gn.out 0
  have hc_gn_1 : w12_.cell? ⟨gn, 1, none⟩ = some (.int .i64 n.ver) := (blk_cell BK_gn.out 1).trans rfl
  have hf_gn_1 := blk_frozen BK_gn.out 1
  have hc_gn_2 : w12_.cell? ⟨gn, 2, none⟩ = some (.int .u8 n.code) := (blk_cell BK_gn.out 2).trans rfl
  have hf_gn_2 := blk_frozen BK_gn.out 2
  have hc_gn_3 : w12_.cell? ⟨gn, 3, none⟩ = some (.int .u32 n.grp) := (blk_cell BK_gn.out 3).trans rfl
  have hf_gn_3 := blk_frozen BK_gn.out 3
  have hc_gn_4 : w12_.cell? ⟨gn, 4, none⟩ = some (.bool n.quiet) := (blk_cell BK_gn.out 4).trans rfl
  have hf_gn_4 := blk_frozen BK_gn.out 4
  have hc_gn_5 : w12_.cell? ⟨gn, 5, none⟩ = some (.int .u8 n.rob) := (blk_cell BK_gn.out 5).trans rfl
  have hf_gn_5 := blk_frozen BK_gn.out 5
  have hc_gn_6 : w12_.cell? ⟨gn, 6, none⟩ = some (.int .u8 n.every) := (blk_cell BK_gn.out 6).trans rfl
  have hf_gn_6 := blk_frozen BK_gn.out 6
  have hc_gn_7 : w12_.cell? ⟨gn, 7, none⟩ = some (.slice A_t n.srcs.length c_t) := (blk_cell BK_gn.out 7).trans rfl
  have hf_gn_7 := blk_frozen BK_gn.out 7
  have hc_gn_8 : w12_.cell? ⟨gn, 8, none⟩ = some (.slice A_u n.recs.length c_u) := (blk_cell BK_gn.out 8).trans rfl
  have hf_gn_8 := blk_frozen BK_gn.out 8
  clear hB hsz
  refine hK.out _ _ ⟨hc_gm_0, hc_gm_1, hc_gm_2, hc_gm_3, hc_gm_4, hc_gm_5, hc_gm_6, hc_gm_7, hc_gm_8, hc_gn_0, hc_gn_1, hc_gn_2, hc_gn_3, hc_gn_4, hc_gn_5, hc_gn_6, hc_gn_7, hc_gn_8⟩ (fun hHeld => ?_)
  clear hK K
  refine norm_ (a' := ?_) ?_ ?_
  rotate_left
  · show Act.put _ (some 51) _ = _
    simp only [Act.put, List.setIfInBounds_toArray, List.set_cons_zero, List.set_cons_succ, i64_w, i32_w]
    rfl
  refine one_ (i := 24) (N := some 54) #[true, true, true, true, true, true, true, true, true, true, true, true, true, true, true, true, true, true, true, true, true, true, true, true, true, false, false, false] rfl rfl (one_of HT_.out (by kernel_rfl)) (by decide) (fun K hK => ?_)
  refine goes_ Try.func19 (by kernel_rfl) rfl #[.agg #[.int .u8 m.k, .int .i64 m.ver, .int .u8 m.code, .int .u32 m.grp, .bool m.quiet, .int .u8 m.rob, .int .u8 m.every, .slice A_s m.srcs.length c_s, .slice A_r m.recs.length c_r], .agg #[.int .u8 n.k, .int .i64 n.ver, .int .u8 n.code, .int .u32 n.grp, .bool n.quiet, .int .u8 n.rob, .int .u8 n.every, .slice A_t n.srcs.length c_t, .slice A_u n.recs.length c_u]] (by rfl) rfl rfl (by (try simp only [List.map_toArray, List.map_cons, List.map_nil]); first | done | rfl | (simp only [List.length_drop, List.length_take]; rfl)) ?_
  with_reducible refine (rsame_w Xhq.out Xhz.out _ _ _ _ _ _ _ _ _ (Kd.C_below HC_s.out HB.out) HK_s.out (Kd.C_below HC_r.out HB.out) HK_r.out (Kd.C_below HC_t.out HB.out) HK_t.out (Kd.C_below HC_u.out HB.out) HK_u.out).mono ?_
  rintro e w13_ ⟨rfl, hB⟩
  refine ⟨_, rfl, ?_⟩
  have hsz := HB.out.size
  have nHB := Aside0.mk (HB.out.trans (hB.mono HB.out.size))
  clear HB
  have HB := nHB
  clear nHB
  clear hc_gm_0 hf_gm_0 hc_gm_1 hf_gm_1 hc_gm_2 hf_gm_2 hc_gm_3 hf_gm_3 hc_gm_4 hf_gm_4 hc_gm_5 hf_gm_5 hc_gm_6 hf_gm_6 hc_gm_7 hf_gm_7 hc_gm_8 hf_gm_8
  have nBK := Aside0.mk (blk_below (g := gm) (o := .cells #[.int .u8 m.k, .int .i64 m.ver, .int .u8 m.code, .int .u32 m.grp, .bool m.quiet, .int .u8 m.rob, .int .u8 m.every, .slice A_s m.srcs.length c_s, .slice A_r m.recs.length c_r] 27 (0, 0)) BK_gm.out hB)
  clear BK_gm
  have BK_gm := nBK
  clear nBK
  have hc_gm_0 : w13_.cell? ⟨gm, 0, none⟩ = some (.int .u8 m.k) := (blk_cell BK_gm.out 0).trans rfl
  have hf_gm_0 := blk_frozen BK_gm.out 0
  have hc_gm_1 : w13_.cell? ⟨gm, 1, none⟩ = some (.int .i64 m.ver) := (blk_cell BK_gm.out 1).trans rfl
  have hf_gm_1 := blk_frozen BK_gm.out 1
  have hc_gm_2 : w13_.cell? ⟨gm, 2, none⟩ = some (.int .u8 m.code) := (blk_cell BK_gm.out 2).trans rfl
  have hf_gm_2 := blk_frozen BK_gm.out 2
  have hc_gm_3 : w13_.cell? ⟨gm, 3, none⟩ = some (.int .u32 m.grp) := (blk_cell BK_gm.out 3).trans rfl
  have hf_gm_3 := blk_frozen BK_gm.out 3
  have hc_gm_4 : w13_.cell? ⟨gm, 4, none⟩ = some (.bool m.quiet) := (blk_cell BK_gm.out 4).trans rfl
  have hf_gm_4 := blk_frozen BK_gm.out 4
  have hc_gm_5 : w13_.cell? ⟨gm, 5, none⟩ = some (.int .u8 m.rob) := (blk_cell BK_gm.out 5).trans rfl
  have hf_gm_5 := blk_frozen BK_gm.out 5
  have hc_gm_6 : w13_.cell? ⟨gm, 6, none⟩ = some (.int .u8 m.every) := (blk_cell BK_gm.out 6).trans rfl
  have hf_gm_6 := blk_frozen BK_gm.out 6
  have hc_gm_7 : w13_.cell? ⟨gm, 7, none⟩ = some (.slice A_s m.srcs.length c_s) := (blk_cell BK_gm.out 7).trans rfl
  have hf_gm_7 := blk_frozen BK_gm.out 7
  have hc_gm_8 : w13_.cell? ⟨gm, 8, none⟩ = some (.slice A_r m.recs.length c_r) := (blk_cell BK_gm.out 8).trans rfl
  have hf_gm_8 := blk_frozen BK_gm.out 8
  clear hc_gn_0 hf_gn_0 hc_gn_1 hf_gn_1 hc_gn_2 hf_gn_2 hc_gn_3 hf_gn_3 hc_gn_4 hf_gn_4 hc_gn_5 hf_gn_5 hc_gn_6 hf_gn_6 hc_gn_7 hf_gn_7 hc_gn_8 hf_gn_8
  have nBK := Aside0.mk (blk_below (g := gn) (o := .cells #[.int .u8 n.k, .int .i64 n.ver, .int .u8 n.code, .int .u32 n.grp, .bool n.quiet, .int .u8 n.rob, .int .u8 n.every, .slice A_t n.srcs.length c_t, .slice A_u n.recs.length c_u] 27 (0, 0)) BK_gn.out hB)
  clear BK_gn
  have BK_gn := nBK
  clear nBK
  have hc_gn_0 : w13_.cell? ⟨gn, 0, none⟩ = some (.int .u8 n.k) := (blk_cell BK_gn.out 0).trans rfl
  have hf_gn_0 := blk_frozen BK_gn.out 0
  have hc_gn_1 : w13_.cell? ⟨gn, 1, none⟩ = some (.int .i64 n.ver) := (blk_cell BK_gn.out 1).trans rfl
  have hf_gn_1 := blk_frozen BK_gn.out 1
  have hc_gn_2 : w13_.cell? ⟨gn, 2, none⟩ = some (.int .u8 n.code) := (blk_cell BK_gn.out 2).trans rfl
  have hf_gn_2 := blk_frozen BK_gn.out 2
  have hc_gn_3 : w13_.cell? ⟨gn, 3, none⟩ = some (.int .u32 n.grp) := (blk_cell BK_gn.out 3).trans rfl
  have hf_gn_3 := blk_frozen BK_gn.out 3
  have hc_gn_4 : w13_.cell? ⟨gn, 4, none⟩ = some (.bool n.quiet) := (blk_cell BK_gn.out 4).trans rfl
  have hf_gn_4 := blk_frozen BK_gn.out 4
  have hc_gn_5 : w13_.cell? ⟨gn, 5, none⟩ = some (.int .u8 n.rob) := (blk_cell BK_gn.out 5).trans rfl
  have hf_gn_5 := blk_frozen BK_gn.out 5
  have hc_gn_6 : w13_.cell? ⟨gn, 6, none⟩ = some (.int .u8 n.every) := (blk_cell BK_gn.out 6).trans rfl
  have hf_gn_6 := blk_frozen BK_gn.out 6
  have hc_gn_7 : w13_.cell? ⟨gn, 7, none⟩ = some (.slice A_t n.srcs.length c_t) := (blk_cell BK_gn.out 7).trans rfl
  have hf_gn_7 := blk_frozen BK_gn.out 7
  have hc_gn_8 : w13_.cell? ⟨gn, 8, none⟩ = some (.slice A_u n.recs.length c_u) := (blk_cell BK_gn.out 8).trans rfl
  have hf_gn_8 := blk_frozen BK_gn.out 8
  clear hB hsz
  refine hK.out _ _ ⟨hc_gm_0, hc_gm_1, hc_gm_2, hc_gm_3, hc_gm_4, hc_gm_5, hc_gm_6, hc_gm_7, hc_gm_8, hc_gn_0, hc_gn_1, hc_gn_2, hc_gn_3, hc_gn_4, hc_gn_5, hc_gn_6, hc_gn_7, hc_gn_8⟩ (fun hHeld => ?_)
  clear hK K
  refine norm_ (a' := ?_) ?_ ?_
  rotate_left
  · show Act.put _ (some 54) _ = _
    simp only [Act.put, List.setIfInBounds_toArray, List.set_cons_zero, List.set_cons_succ, i64_w, i32_w]
    rfl
  refine pure_ (i := 25) (N := some 55) (v := ?_) (a' := ?_) #[true, true, true, true, true, true, true, true, true, true, true, true, true, true, true, true, true, true, true, true, true, true, true, true, true, true, false, false] rfl rfl (any_of HT_.out (by kernel_rfl)) (fun _ _ _ h => h) (Or.inl ⟨by rfl, ?_⟩) ?_ ?_
  rotate_left
  · intro w'
    go_simp
    with_reducible rfl
  rotate_left
  · simp only [Act.put, List.setIfInBounds_toArray, List.set_cons_zero, List.set_cons_succ, i64_w, i32_w]
    rfl
  refine pure_ (i := 26) (N := some 56) (v := ?_) (a' := ?_) #[true, true, true, true, true, true, true, true, true, true, true, true, true, true, true, true, true, true, true, true, true, true, true, true, true, true, true, false] rfl rfl (any_of HT_.out (by kernel_rfl)) (fun _ _ _ h => h) (Or.inl ⟨by rfl, ?_⟩) ?_ ?_
  rotate_left
  · intro w'
    go_simp
    with_reducible rfl
  rotate_left
  · simp only [Act.put, List.setIfInBounds_toArray, List.set_cons_zero, List.set_cons_succ, i64_w, i32_w]
    rfl
  refine pure_ (i := 27) (N := some 4) (v := ?_) (a' := ?_) #[true, true, true, true, true, true, true, true, true, true, true, true, true, true, true, true, true, true, true, true, true, true, true, true, true, true, true, true] rfl rfl (any_of HT_.out (by kernel_rfl)) (fun _ _ _ h => h) (Or.inl ⟨by rfl, ?_⟩) ?_ ?_
  rotate_left
  · intro w'
    go_simp
    with_reducible rfl
  rotate_left
  · simp only [Act.put, List.setIfInBounds_toArray, List.set_cons_zero, List.set_cons_succ, i64_w, i32_w]
    rfl
  refine done_ (done_of HT_.out (by kernel_rfl)) ?_
  try go_wp2
  go_ret
  exact ⟨by first | rfl | simp, HB.out⟩
set_option maxHeartbeats 8000000 in
set_option maxRecDepth 100000 in
theorem writes_ok {m n : Msg} (hf : fewB m = true) (hg : fewB n = true) (hb : rightB m = true) (hz : m.size ≤ 1000000) (hrl : m.recs.length ≤ 1000000) (ho : m.Ok) {b : Bool} (hq : decide (m = n) = b) {x : List Int} (hx : enc m = x) (hxl : x.length ≤ 1000000) (l1 : m.srcs.length ≤ 140737488351232) (l2 : m.recs.length ≤ 140737488351232) (l3 : ∀ r ∈ m.recs, r.f2.length ≤ 140737488351232) (nl1 : n.srcs.length ≤ 140737488351232) (nl2 : n.recs.length ≤ 140737488351232) (nl3 : ∀ r ∈ n.recs, r.f2.length ≤ 140737488351232) (A_s : Option Addr) (c_s : Nat) (A_r : Option Addr) (c_r : Nat) (w : World) (hss : Kd.C (Kd.int .u32) w A_s m.srcs.length m.srcs) (hscs : m.srcs.length ≤ c_s) (hrr : Kd.C k44 w A_r m.recs.length m.recs) (hrcr : m.recs.length ≤ c_r) (A_t : Option Addr) (c_t : Nat) (A_u : Option Addr) (c_u : Nat) (hst : Kd.C (Kd.int .u32) w A_t n.srcs.length n.srcs) (hsct : n.srcs.length ≤ c_t) (hru : Kd.C k44 w A_u n.recs.length n.recs) (hrcu : n.recs.length ≤ c_u) :
    Calls Try.prog 3 #[.agg #[.int .u8 m.k, .int .i64 m.ver, .int .u8 m.code, .int .u32 m.grp, .bool m.quiet, .int .u8 m.rob, .int .u8 m.every, .slice A_s m.srcs.length c_s, .slice A_r m.recs.length c_r], .agg #[.int .u8 n.k, .int .i64 n.ver, .int .u8 n.code, .int .u32 n.grp, .bool n.quiet, .int .u8 n.rob, .int .u8 n.every, .slice A_t n.srcs.length c_t, .slice A_u n.recs.length c_u]] w fun e w' => e = .returned (.bool true) ∧ Below w.heap.size w w' := by
  have hu27 := Try.underlying27
  have HB := Aside0.mk (Below.refl w.heap.size w)
  have HC_s := Aside0.mk hss
  have HK_s := Aside0.mk hscs
  have HC_r := Aside0.mk hrr
  have HK_r := Aside0.mk hrcr
  clear hss hscs hrr hrcr
  have HC_t := Aside0.mk hst
  have HK_t := Aside0.mk hsct
  have HC_u := Aside0.mk hru
  have HK_u := Aside0.mk hrcu
  clear hst hsct hru hrcu
  have Xhf := Aside0.mk hf
  clear hf
  have Xhg := Aside0.mk hg
  clear hg
  have Xhb := Aside0.mk hb
  clear hb
  have Xhz := Aside0.mk hz
  clear hz
  have Xhrl := Aside0.mk hrl
  clear hrl
  have Xho := Aside0.mk ho
  clear ho
  have Xhq := Aside0.mk hq
  clear hq
  have Xhx := Aside0.mk hx
  clear hx
  have Xhxl := Aside0.mk hxl
  clear hxl
  have Xl1 := Aside0.mk l1
  clear l1
  have Xl2 := Aside0.mk l2
  clear l2
  have Xl3 := Aside0.mk l3
  clear l3
  have Xnl1 := Aside0.mk nl1
  clear nl1
  have Xnl2 := Aside0.mk nl2
  clear nl2
  have Xnl3 := Aside0.mk nl3
  clear nl3
  go_enter Try.func3, Try.ntmps3
  go_upto_region 6 with (first | ((with_reducible refine gate_dst (N := 2) rfl ?_); (try (refine gate_guard (by rfl) ?_; dsimp only)); refine box_event ?hg (N := 2) ?hd (cs := #[.int .u8 m.k, .int .i64 m.ver, .int .u8 m.code, .int .u32 m.grp, .bool m.quiet, .int .u8 m.rob, .int .u8 m.every, .slice A_s m.srcs.length c_s, .slice A_r m.recs.length c_r]) (t := 27) ?hr ?_; (case hd => rfl); (case hg => rfl); (case hr => first | (go_simp; done) | (go_simp; rfl)); intro gm hg w1_ hbox hB; have HBo := Aside0.mk HB.out; have nHB := Aside0.mk (HB.out.trans (hB.mono HB.out.size)); clear HB; have HB := nHB; clear nHB; have BK_gm := Aside0.mk hbox; have GE_gm := Aside0.mk (show w.heap.size ≤ gm by rw [hg]; exact HBo.out.size); clear hg hbox hB; have hc_gm_0 : w1_.cell? ⟨gm, 0, none⟩ = some (.int .u8 m.k) := (blk_cell BK_gm.out 0).trans rfl; have hf_gm_0 := blk_frozen BK_gm.out 0; have hc_gm_1 : w1_.cell? ⟨gm, 1, none⟩ = some (.int .i64 m.ver) := (blk_cell BK_gm.out 1).trans rfl; have hf_gm_1 := blk_frozen BK_gm.out 1; have hc_gm_2 : w1_.cell? ⟨gm, 2, none⟩ = some (.int .u8 m.code) := (blk_cell BK_gm.out 2).trans rfl; have hf_gm_2 := blk_frozen BK_gm.out 2; have hc_gm_3 : w1_.cell? ⟨gm, 3, none⟩ = some (.int .u32 m.grp) := (blk_cell BK_gm.out 3).trans rfl; have hf_gm_3 := blk_frozen BK_gm.out 3; have hc_gm_4 : w1_.cell? ⟨gm, 4, none⟩ = some (.bool m.quiet) := (blk_cell BK_gm.out 4).trans rfl; have hf_gm_4 := blk_frozen BK_gm.out 4; have hc_gm_5 : w1_.cell? ⟨gm, 5, none⟩ = some (.int .u8 m.rob) := (blk_cell BK_gm.out 5).trans rfl; have hf_gm_5 := blk_frozen BK_gm.out 5; have hc_gm_6 : w1_.cell? ⟨gm, 6, none⟩ = some (.int .u8 m.every) := (blk_cell BK_gm.out 6).trans rfl; have hf_gm_6 := blk_frozen BK_gm.out 6; have hc_gm_7 : w1_.cell? ⟨gm, 7, none⟩ = some (.slice A_s m.srcs.length c_s) := (blk_cell BK_gm.out 7).trans rfl; have hf_gm_7 := blk_frozen BK_gm.out 7; have hc_gm_8 : w1_.cell? ⟨gm, 8, none⟩ = some (.slice A_r m.recs.length c_r) := (blk_cell BK_gm.out 8).trans rfl; have hf_gm_8 := blk_frozen BK_gm.out 8; clear HBo) | ((with_reducible refine gate_dst (N := 3) rfl ?_); (try (refine gate_guard (by rfl) ?_; dsimp only)); refine box_event ?hg (N := 3) ?hd (cs := #[.int .u8 n.k, .int .i64 n.ver, .int .u8 n.code, .int .u32 n.grp, .bool n.quiet, .int .u8 n.rob, .int .u8 n.every, .slice A_t n.srcs.length c_t, .slice A_u n.recs.length c_u]) (t := 27) ?hr ?_; (case hd => rfl); (case hg => rfl); (case hr => first | (go_simp; done) | (go_simp; rfl)); intro gn hg w2_ hbox hB; have HBo := Aside0.mk HB.out; have BK0_gm := Aside0.mk BK_gm.out; have nHB := Aside0.mk (HB.out.trans (hB.mono HB.out.size)); clear HB; have HB := nHB; clear nHB; clear hc_gm_0 hf_gm_0 hc_gm_1 hf_gm_1 hc_gm_2 hf_gm_2 hc_gm_3 hf_gm_3 hc_gm_4 hf_gm_4 hc_gm_5 hf_gm_5 hc_gm_6 hf_gm_6 hc_gm_7 hf_gm_7 hc_gm_8 hf_gm_8; have nBK := Aside0.mk (blk_below (g := gm) (o := .cells #[.int .u8 m.k, .int .i64 m.ver, .int .u8 m.code, .int .u32 m.grp, .bool m.quiet, .int .u8 m.rob, .int .u8 m.every, .slice A_s m.srcs.length c_s, .slice A_r m.recs.length c_r] 27 (0, 0)) BK_gm.out hB); clear BK_gm; have BK_gm := nBK; clear nBK; have hc_gm_0 : w2_.cell? ⟨gm, 0, none⟩ = some (.int .u8 m.k) := (blk_cell BK_gm.out 0).trans rfl; have hf_gm_0 := blk_frozen BK_gm.out 0; have hc_gm_1 : w2_.cell? ⟨gm, 1, none⟩ = some (.int .i64 m.ver) := (blk_cell BK_gm.out 1).trans rfl; have hf_gm_1 := blk_frozen BK_gm.out 1; have hc_gm_2 : w2_.cell? ⟨gm, 2, none⟩ = some (.int .u8 m.code) := (blk_cell BK_gm.out 2).trans rfl; have hf_gm_2 := blk_frozen BK_gm.out 2; have hc_gm_3 : w2_.cell? ⟨gm, 3, none⟩ = some (.int .u32 m.grp) := (blk_cell BK_gm.out 3).trans rfl; have hf_gm_3 := blk_frozen BK_gm.out 3; have hc_gm_4 : w2_.cell? ⟨gm, 4, none⟩ = some (.bool m.quiet) := (blk_cell BK_gm.out 4).trans rfl; have hf_gm_4 := blk_frozen BK_gm.out 4; have hc_gm_5 : w2_.cell? ⟨gm, 5, none⟩ = some (.int .u8 m.rob) := (blk_cell BK_gm.out 5).trans rfl; have hf_gm_5 := blk_frozen BK_gm.out 5; have hc_gm_6 : w2_.cell? ⟨gm, 6, none⟩ = some (.int .u8 m.every) := (blk_cell BK_gm.out 6).trans rfl; have hf_gm_6 := blk_frozen BK_gm.out 6; have hc_gm_7 : w2_.cell? ⟨gm, 7, none⟩ = some (.slice A_s m.srcs.length c_s) := (blk_cell BK_gm.out 7).trans rfl; have hf_gm_7 := blk_frozen BK_gm.out 7; have hc_gm_8 : w2_.cell? ⟨gm, 8, none⟩ = some (.slice A_r m.recs.length c_r) := (blk_cell BK_gm.out 8).trans rfl; have hf_gm_8 := blk_frozen BK_gm.out 8; have BK_gn := Aside0.mk hbox; have GE_gn := Aside0.mk (show w.heap.size ≤ gn by rw [hg]; exact HBo.out.size); have NB_gn_gm := Aside0.mk (show gn ≠ gm by rw [hg]; exact Nat.ne_of_gt (blk_lt (g := gm) (o := .cells #[.int .u8 m.k, .int .i64 m.ver, .int .u8 m.code, .int .u32 m.grp, .bool m.quiet, .int .u8 m.rob, .int .u8 m.every, .slice A_s m.srcs.length c_s, .slice A_r m.recs.length c_r] 27 (0, 0)) BK0_gm.out)); have NB_gm_gn := Aside0.mk (Ne.symm NB_gn_gm.out); clear BK0_gm; clear hg hbox hB; have hc_gn_0 : w2_.cell? ⟨gn, 0, none⟩ = some (.int .u8 n.k) := (blk_cell BK_gn.out 0).trans rfl; have hf_gn_0 := blk_frozen BK_gn.out 0; have hc_gn_1 : w2_.cell? ⟨gn, 1, none⟩ = some (.int .i64 n.ver) := (blk_cell BK_gn.out 1).trans rfl; have hf_gn_1 := blk_frozen BK_gn.out 1; have hc_gn_2 : w2_.cell? ⟨gn, 2, none⟩ = some (.int .u8 n.code) := (blk_cell BK_gn.out 2).trans rfl; have hf_gn_2 := blk_frozen BK_gn.out 2; have hc_gn_3 : w2_.cell? ⟨gn, 3, none⟩ = some (.int .u32 n.grp) := (blk_cell BK_gn.out 3).trans rfl; have hf_gn_3 := blk_frozen BK_gn.out 3; have hc_gn_4 : w2_.cell? ⟨gn, 4, none⟩ = some (.bool n.quiet) := (blk_cell BK_gn.out 4).trans rfl; have hf_gn_4 := blk_frozen BK_gn.out 4; have hc_gn_5 : w2_.cell? ⟨gn, 5, none⟩ = some (.int .u8 n.rob) := (blk_cell BK_gn.out 5).trans rfl; have hf_gn_5 := blk_frozen BK_gn.out 5; have hc_gn_6 : w2_.cell? ⟨gn, 6, none⟩ = some (.int .u8 n.every) := (blk_cell BK_gn.out 6).trans rfl; have hf_gn_6 := blk_frozen BK_gn.out 6; have hc_gn_7 : w2_.cell? ⟨gn, 7, none⟩ = some (.slice A_t n.srcs.length c_t) := (blk_cell BK_gn.out 7).trans rfl; have hf_gn_7 := blk_frozen BK_gn.out 7; have hc_gn_8 : w2_.cell? ⟨gn, 8, none⟩ = some (.slice A_u n.recs.length c_u) := (blk_cell BK_gn.out 8).trans rfl; have hf_gn_8 := blk_frozen BK_gn.out 8; clear HBo) | (go_at_call 11; with_reducible refine (shown_calls _).mono ?_; rintro e w3_ ⟨rfl, hB⟩; have nHB := Aside0.mk (HB.out.trans (hB.mono HB.out.size)); clear HB; have HB := nHB; clear nHB; clear hc_gm_0 hf_gm_0 hc_gm_1 hf_gm_1 hc_gm_2 hf_gm_2 hc_gm_3 hf_gm_3 hc_gm_4 hf_gm_4 hc_gm_5 hf_gm_5 hc_gm_6 hf_gm_6 hc_gm_7 hf_gm_7 hc_gm_8 hf_gm_8; have nBK := Aside0.mk (blk_below (g := gm) (o := .cells #[.int .u8 m.k, .int .i64 m.ver, .int .u8 m.code, .int .u32 m.grp, .bool m.quiet, .int .u8 m.rob, .int .u8 m.every, .slice A_s m.srcs.length c_s, .slice A_r m.recs.length c_r] 27 (0, 0)) BK_gm.out hB); clear BK_gm; have BK_gm := nBK; clear nBK; have hc_gm_0 : w3_.cell? ⟨gm, 0, none⟩ = some (.int .u8 m.k) := (blk_cell BK_gm.out 0).trans rfl; have hf_gm_0 := blk_frozen BK_gm.out 0; have hc_gm_1 : w3_.cell? ⟨gm, 1, none⟩ = some (.int .i64 m.ver) := (blk_cell BK_gm.out 1).trans rfl; have hf_gm_1 := blk_frozen BK_gm.out 1; have hc_gm_2 : w3_.cell? ⟨gm, 2, none⟩ = some (.int .u8 m.code) := (blk_cell BK_gm.out 2).trans rfl; have hf_gm_2 := blk_frozen BK_gm.out 2; have hc_gm_3 : w3_.cell? ⟨gm, 3, none⟩ = some (.int .u32 m.grp) := (blk_cell BK_gm.out 3).trans rfl; have hf_gm_3 := blk_frozen BK_gm.out 3; have hc_gm_4 : w3_.cell? ⟨gm, 4, none⟩ = some (.bool m.quiet) := (blk_cell BK_gm.out 4).trans rfl; have hf_gm_4 := blk_frozen BK_gm.out 4; have hc_gm_5 : w3_.cell? ⟨gm, 5, none⟩ = some (.int .u8 m.rob) := (blk_cell BK_gm.out 5).trans rfl; have hf_gm_5 := blk_frozen BK_gm.out 5; have hc_gm_6 : w3_.cell? ⟨gm, 6, none⟩ = some (.int .u8 m.every) := (blk_cell BK_gm.out 6).trans rfl; have hf_gm_6 := blk_frozen BK_gm.out 6; have hc_gm_7 : w3_.cell? ⟨gm, 7, none⟩ = some (.slice A_s m.srcs.length c_s) := (blk_cell BK_gm.out 7).trans rfl; have hf_gm_7 := blk_frozen BK_gm.out 7; have hc_gm_8 : w3_.cell? ⟨gm, 8, none⟩ = some (.slice A_r m.recs.length c_r) := (blk_cell BK_gm.out 8).trans rfl; have hf_gm_8 := blk_frozen BK_gm.out 8; clear hc_gn_0 hf_gn_0 hc_gn_1 hf_gn_1 hc_gn_2 hf_gn_2 hc_gn_3 hf_gn_3 hc_gn_4 hf_gn_4 hc_gn_5 hf_gn_5 hc_gn_6 hf_gn_6 hc_gn_7 hf_gn_7 hc_gn_8 hf_gn_8; have nBK := Aside0.mk (blk_below (g := gn) (o := .cells #[.int .u8 n.k, .int .i64 n.ver, .int .u8 n.code, .int .u32 n.grp, .bool n.quiet, .int .u8 n.rob, .int .u8 n.every, .slice A_t n.srcs.length c_t, .slice A_u n.recs.length c_u] 27 (0, 0)) BK_gn.out hB); clear BK_gn; have BK_gn := nBK; clear nBK; have hc_gn_0 : w3_.cell? ⟨gn, 0, none⟩ = some (.int .u8 n.k) := (blk_cell BK_gn.out 0).trans rfl; have hf_gn_0 := blk_frozen BK_gn.out 0; have hc_gn_1 : w3_.cell? ⟨gn, 1, none⟩ = some (.int .i64 n.ver) := (blk_cell BK_gn.out 1).trans rfl; have hf_gn_1 := blk_frozen BK_gn.out 1; have hc_gn_2 : w3_.cell? ⟨gn, 2, none⟩ = some (.int .u8 n.code) := (blk_cell BK_gn.out 2).trans rfl; have hf_gn_2 := blk_frozen BK_gn.out 2; have hc_gn_3 : w3_.cell? ⟨gn, 3, none⟩ = some (.int .u32 n.grp) := (blk_cell BK_gn.out 3).trans rfl; have hf_gn_3 := blk_frozen BK_gn.out 3; have hc_gn_4 : w3_.cell? ⟨gn, 4, none⟩ = some (.bool n.quiet) := (blk_cell BK_gn.out 4).trans rfl; have hf_gn_4 := blk_frozen BK_gn.out 4; have hc_gn_5 : w3_.cell? ⟨gn, 5, none⟩ = some (.int .u8 n.rob) := (blk_cell BK_gn.out 5).trans rfl; have hf_gn_5 := blk_frozen BK_gn.out 5; have hc_gn_6 : w3_.cell? ⟨gn, 6, none⟩ = some (.int .u8 n.every) := (blk_cell BK_gn.out 6).trans rfl; have hf_gn_6 := blk_frozen BK_gn.out 6; have hc_gn_7 : w3_.cell? ⟨gn, 7, none⟩ = some (.slice A_t n.srcs.length c_t) := (blk_cell BK_gn.out 7).trans rfl; have hf_gn_7 := blk_frozen BK_gn.out 7; have hc_gn_8 : w3_.cell? ⟨gn, 8, none⟩ = some (.slice A_u n.recs.length c_u) := (blk_cell BK_gn.out 8).trans rfl; have hf_gn_8 := blk_frozen BK_gn.out 8; clear hB) | (go_at_call 12; with_reducible refine (few_w Xhf.out Xl1.out Xl2.out Xl3.out _ _ _ _ _ (Kd.C_below HC_s.out HB.out) HK_s.out (Kd.C_below HC_r.out HB.out) HK_r.out).mono ?_; rintro e w4_ ⟨rfl, hB⟩; have nHB := Aside0.mk (HB.out.trans (hB.mono HB.out.size)); clear HB; have HB := nHB; clear nHB; clear hc_gm_0 hf_gm_0 hc_gm_1 hf_gm_1 hc_gm_2 hf_gm_2 hc_gm_3 hf_gm_3 hc_gm_4 hf_gm_4 hc_gm_5 hf_gm_5 hc_gm_6 hf_gm_6 hc_gm_7 hf_gm_7 hc_gm_8 hf_gm_8; have nBK := Aside0.mk (blk_below (g := gm) (o := .cells #[.int .u8 m.k, .int .i64 m.ver, .int .u8 m.code, .int .u32 m.grp, .bool m.quiet, .int .u8 m.rob, .int .u8 m.every, .slice A_s m.srcs.length c_s, .slice A_r m.recs.length c_r] 27 (0, 0)) BK_gm.out hB); clear BK_gm; have BK_gm := nBK; clear nBK; have hc_gm_0 : w4_.cell? ⟨gm, 0, none⟩ = some (.int .u8 m.k) := (blk_cell BK_gm.out 0).trans rfl; have hf_gm_0 := blk_frozen BK_gm.out 0; have hc_gm_1 : w4_.cell? ⟨gm, 1, none⟩ = some (.int .i64 m.ver) := (blk_cell BK_gm.out 1).trans rfl; have hf_gm_1 := blk_frozen BK_gm.out 1; have hc_gm_2 : w4_.cell? ⟨gm, 2, none⟩ = some (.int .u8 m.code) := (blk_cell BK_gm.out 2).trans rfl; have hf_gm_2 := blk_frozen BK_gm.out 2; have hc_gm_3 : w4_.cell? ⟨gm, 3, none⟩ = some (.int .u32 m.grp) := (blk_cell BK_gm.out 3).trans rfl; have hf_gm_3 := blk_frozen BK_gm.out 3; have hc_gm_4 : w4_.cell? ⟨gm, 4, none⟩ = some (.bool m.quiet) := (blk_cell BK_gm.out 4).trans rfl; have hf_gm_4 := blk_frozen BK_gm.out 4; have hc_gm_5 : w4_.cell? ⟨gm, 5, none⟩ = some (.int .u8 m.rob) := (blk_cell BK_gm.out 5).trans rfl; have hf_gm_5 := blk_frozen BK_gm.out 5; have hc_gm_6 : w4_.cell? ⟨gm, 6, none⟩ = some (.int .u8 m.every) := (blk_cell BK_gm.out 6).trans rfl; have hf_gm_6 := blk_frozen BK_gm.out 6; have hc_gm_7 : w4_.cell? ⟨gm, 7, none⟩ = some (.slice A_s m.srcs.length c_s) := (blk_cell BK_gm.out 7).trans rfl; have hf_gm_7 := blk_frozen BK_gm.out 7; have hc_gm_8 : w4_.cell? ⟨gm, 8, none⟩ = some (.slice A_r m.recs.length c_r) := (blk_cell BK_gm.out 8).trans rfl; have hf_gm_8 := blk_frozen BK_gm.out 8; clear hc_gn_0 hf_gn_0 hc_gn_1 hf_gn_1 hc_gn_2 hf_gn_2 hc_gn_3 hf_gn_3 hc_gn_4 hf_gn_4 hc_gn_5 hf_gn_5 hc_gn_6 hf_gn_6 hc_gn_7 hf_gn_7 hc_gn_8 hf_gn_8; have nBK := Aside0.mk (blk_below (g := gn) (o := .cells #[.int .u8 n.k, .int .i64 n.ver, .int .u8 n.code, .int .u32 n.grp, .bool n.quiet, .int .u8 n.rob, .int .u8 n.every, .slice A_t n.srcs.length c_t, .slice A_u n.recs.length c_u] 27 (0, 0)) BK_gn.out hB); clear BK_gn; have BK_gn := nBK; clear nBK; have hc_gn_0 : w4_.cell? ⟨gn, 0, none⟩ = some (.int .u8 n.k) := (blk_cell BK_gn.out 0).trans rfl; have hf_gn_0 := blk_frozen BK_gn.out 0; have hc_gn_1 : w4_.cell? ⟨gn, 1, none⟩ = some (.int .i64 n.ver) := (blk_cell BK_gn.out 1).trans rfl; have hf_gn_1 := blk_frozen BK_gn.out 1; have hc_gn_2 : w4_.cell? ⟨gn, 2, none⟩ = some (.int .u8 n.code) := (blk_cell BK_gn.out 2).trans rfl; have hf_gn_2 := blk_frozen BK_gn.out 2; have hc_gn_3 : w4_.cell? ⟨gn, 3, none⟩ = some (.int .u32 n.grp) := (blk_cell BK_gn.out 3).trans rfl; have hf_gn_3 := blk_frozen BK_gn.out 3; have hc_gn_4 : w4_.cell? ⟨gn, 4, none⟩ = some (.bool n.quiet) := (blk_cell BK_gn.out 4).trans rfl; have hf_gn_4 := blk_frozen BK_gn.out 4; have hc_gn_5 : w4_.cell? ⟨gn, 5, none⟩ = some (.int .u8 n.rob) := (blk_cell BK_gn.out 5).trans rfl; have hf_gn_5 := blk_frozen BK_gn.out 5; have hc_gn_6 : w4_.cell? ⟨gn, 6, none⟩ = some (.int .u8 n.every) := (blk_cell BK_gn.out 6).trans rfl; have hf_gn_6 := blk_frozen BK_gn.out 6; have hc_gn_7 : w4_.cell? ⟨gn, 7, none⟩ = some (.slice A_t n.srcs.length c_t) := (blk_cell BK_gn.out 7).trans rfl; have hf_gn_7 := blk_frozen BK_gn.out 7; have hc_gn_8 : w4_.cell? ⟨gn, 8, none⟩ = some (.slice A_u n.recs.length c_u) := (blk_cell BK_gn.out 8).trans rfl; have hf_gn_8 := blk_frozen BK_gn.out 8; clear hB) | (go_at_call 12; with_reducible refine (few_w Xhg.out Xnl1.out Xnl2.out Xnl3.out _ _ _ _ _ (Kd.C_below HC_t.out HB.out) HK_t.out (Kd.C_below HC_u.out HB.out) HK_u.out).mono ?_; rintro e w5_ ⟨rfl, hB⟩; have nHB := Aside0.mk (HB.out.trans (hB.mono HB.out.size)); clear HB; have HB := nHB; clear nHB; clear hc_gm_0 hf_gm_0 hc_gm_1 hf_gm_1 hc_gm_2 hf_gm_2 hc_gm_3 hf_gm_3 hc_gm_4 hf_gm_4 hc_gm_5 hf_gm_5 hc_gm_6 hf_gm_6 hc_gm_7 hf_gm_7 hc_gm_8 hf_gm_8; have nBK := Aside0.mk (blk_below (g := gm) (o := .cells #[.int .u8 m.k, .int .i64 m.ver, .int .u8 m.code, .int .u32 m.grp, .bool m.quiet, .int .u8 m.rob, .int .u8 m.every, .slice A_s m.srcs.length c_s, .slice A_r m.recs.length c_r] 27 (0, 0)) BK_gm.out hB); clear BK_gm; have BK_gm := nBK; clear nBK; have hc_gm_0 : w5_.cell? ⟨gm, 0, none⟩ = some (.int .u8 m.k) := (blk_cell BK_gm.out 0).trans rfl; have hf_gm_0 := blk_frozen BK_gm.out 0; have hc_gm_1 : w5_.cell? ⟨gm, 1, none⟩ = some (.int .i64 m.ver) := (blk_cell BK_gm.out 1).trans rfl; have hf_gm_1 := blk_frozen BK_gm.out 1; have hc_gm_2 : w5_.cell? ⟨gm, 2, none⟩ = some (.int .u8 m.code) := (blk_cell BK_gm.out 2).trans rfl; have hf_gm_2 := blk_frozen BK_gm.out 2; have hc_gm_3 : w5_.cell? ⟨gm, 3, none⟩ = some (.int .u32 m.grp) := (blk_cell BK_gm.out 3).trans rfl; have hf_gm_3 := blk_frozen BK_gm.out 3; have hc_gm_4 : w5_.cell? ⟨gm, 4, none⟩ = some (.bool m.quiet) := (blk_cell BK_gm.out 4).trans rfl; have hf_gm_4 := blk_frozen BK_gm.out 4; have hc_gm_5 : w5_.cell? ⟨gm, 5, none⟩ = some (.int .u8 m.rob) := (blk_cell BK_gm.out 5).trans rfl; have hf_gm_5 := blk_frozen BK_gm.out 5; have hc_gm_6 : w5_.cell? ⟨gm, 6, none⟩ = some (.int .u8 m.every) := (blk_cell BK_gm.out 6).trans rfl; have hf_gm_6 := blk_frozen BK_gm.out 6; have hc_gm_7 : w5_.cell? ⟨gm, 7, none⟩ = some (.slice A_s m.srcs.length c_s) := (blk_cell BK_gm.out 7).trans rfl; have hf_gm_7 := blk_frozen BK_gm.out 7; have hc_gm_8 : w5_.cell? ⟨gm, 8, none⟩ = some (.slice A_r m.recs.length c_r) := (blk_cell BK_gm.out 8).trans rfl; have hf_gm_8 := blk_frozen BK_gm.out 8; clear hc_gn_0 hf_gn_0 hc_gn_1 hf_gn_1 hc_gn_2 hf_gn_2 hc_gn_3 hf_gn_3 hc_gn_4 hf_gn_4 hc_gn_5 hf_gn_5 hc_gn_6 hf_gn_6 hc_gn_7 hf_gn_7 hc_gn_8 hf_gn_8; have nBK := Aside0.mk (blk_below (g := gn) (o := .cells #[.int .u8 n.k, .int .i64 n.ver, .int .u8 n.code, .int .u32 n.grp, .bool n.quiet, .int .u8 n.rob, .int .u8 n.every, .slice A_t n.srcs.length c_t, .slice A_u n.recs.length c_u] 27 (0, 0)) BK_gn.out hB); clear BK_gn; have BK_gn := nBK; clear nBK; have hc_gn_0 : w5_.cell? ⟨gn, 0, none⟩ = some (.int .u8 n.k) := (blk_cell BK_gn.out 0).trans rfl; have hf_gn_0 := blk_frozen BK_gn.out 0; have hc_gn_1 : w5_.cell? ⟨gn, 1, none⟩ = some (.int .i64 n.ver) := (blk_cell BK_gn.out 1).trans rfl; have hf_gn_1 := blk_frozen BK_gn.out 1; have hc_gn_2 : w5_.cell? ⟨gn, 2, none⟩ = some (.int .u8 n.code) := (blk_cell BK_gn.out 2).trans rfl; have hf_gn_2 := blk_frozen BK_gn.out 2; have hc_gn_3 : w5_.cell? ⟨gn, 3, none⟩ = some (.int .u32 n.grp) := (blk_cell BK_gn.out 3).trans rfl; have hf_gn_3 := blk_frozen BK_gn.out 3; have hc_gn_4 : w5_.cell? ⟨gn, 4, none⟩ = some (.bool n.quiet) := (blk_cell BK_gn.out 4).trans rfl; have hf_gn_4 := blk_frozen BK_gn.out 4; have hc_gn_5 : w5_.cell? ⟨gn, 5, none⟩ = some (.int .u8 n.rob) := (blk_cell BK_gn.out 5).trans rfl; have hf_gn_5 := blk_frozen BK_gn.out 5; have hc_gn_6 : w5_.cell? ⟨gn, 6, none⟩ = some (.int .u8 n.every) := (blk_cell BK_gn.out 6).trans rfl; have hf_gn_6 := blk_frozen BK_gn.out 6; have hc_gn_7 : w5_.cell? ⟨gn, 7, none⟩ = some (.slice A_t n.srcs.length c_t) := (blk_cell BK_gn.out 7).trans rfl; have hf_gn_7 := blk_frozen BK_gn.out 7; have hc_gn_8 : w5_.cell? ⟨gn, 8, none⟩ = some (.slice A_u n.recs.length c_u) := (blk_cell BK_gn.out 8).trans rfl; have hf_gn_8 := blk_frozen BK_gn.out 8; clear hB) | (go_at_call 13; with_reducible refine (encok_w Xho.out Xhb.out Xhx.out _ _ _ _ _ (Kd.C_below HC_s.out HB.out) HK_s.out (Kd.C_below HC_r.out HB.out) HK_r.out).mono ?_; rintro e w6_ ⟨v_x, rfl, hR, hB⟩; obtain ⟨A_x, c_x, rfl⟩ := Kd.R_slice hR; have hsz := HB.out.size; have nHB := Aside0.mk (HB.out.trans (hB.mono HB.out.size)); clear HB; have HB := nHB; clear nHB; clear hc_gm_0 hf_gm_0 hc_gm_1 hf_gm_1 hc_gm_2 hf_gm_2 hc_gm_3 hf_gm_3 hc_gm_4 hf_gm_4 hc_gm_5 hf_gm_5 hc_gm_6 hf_gm_6 hc_gm_7 hf_gm_7 hc_gm_8 hf_gm_8; have nBK := Aside0.mk (blk_below (g := gm) (o := .cells #[.int .u8 m.k, .int .i64 m.ver, .int .u8 m.code, .int .u32 m.grp, .bool m.quiet, .int .u8 m.rob, .int .u8 m.every, .slice A_s m.srcs.length c_s, .slice A_r m.recs.length c_r] 27 (0, 0)) BK_gm.out hB); clear BK_gm; have BK_gm := nBK; clear nBK; have hc_gm_0 : w6_.cell? ⟨gm, 0, none⟩ = some (.int .u8 m.k) := (blk_cell BK_gm.out 0).trans rfl; have hf_gm_0 := blk_frozen BK_gm.out 0; have hc_gm_1 : w6_.cell? ⟨gm, 1, none⟩ = some (.int .i64 m.ver) := (blk_cell BK_gm.out 1).trans rfl; have hf_gm_1 := blk_frozen BK_gm.out 1; have hc_gm_2 : w6_.cell? ⟨gm, 2, none⟩ = some (.int .u8 m.code) := (blk_cell BK_gm.out 2).trans rfl; have hf_gm_2 := blk_frozen BK_gm.out 2; have hc_gm_3 : w6_.cell? ⟨gm, 3, none⟩ = some (.int .u32 m.grp) := (blk_cell BK_gm.out 3).trans rfl; have hf_gm_3 := blk_frozen BK_gm.out 3; have hc_gm_4 : w6_.cell? ⟨gm, 4, none⟩ = some (.bool m.quiet) := (blk_cell BK_gm.out 4).trans rfl; have hf_gm_4 := blk_frozen BK_gm.out 4; have hc_gm_5 : w6_.cell? ⟨gm, 5, none⟩ = some (.int .u8 m.rob) := (blk_cell BK_gm.out 5).trans rfl; have hf_gm_5 := blk_frozen BK_gm.out 5; have hc_gm_6 : w6_.cell? ⟨gm, 6, none⟩ = some (.int .u8 m.every) := (blk_cell BK_gm.out 6).trans rfl; have hf_gm_6 := blk_frozen BK_gm.out 6; have hc_gm_7 : w6_.cell? ⟨gm, 7, none⟩ = some (.slice A_s m.srcs.length c_s) := (blk_cell BK_gm.out 7).trans rfl; have hf_gm_7 := blk_frozen BK_gm.out 7; have hc_gm_8 : w6_.cell? ⟨gm, 8, none⟩ = some (.slice A_r m.recs.length c_r) := (blk_cell BK_gm.out 8).trans rfl; have hf_gm_8 := blk_frozen BK_gm.out 8; clear hc_gn_0 hf_gn_0 hc_gn_1 hf_gn_1 hc_gn_2 hf_gn_2 hc_gn_3 hf_gn_3 hc_gn_4 hf_gn_4 hc_gn_5 hf_gn_5 hc_gn_6 hf_gn_6 hc_gn_7 hf_gn_7 hc_gn_8 hf_gn_8; have nBK := Aside0.mk (blk_below (g := gn) (o := .cells #[.int .u8 n.k, .int .i64 n.ver, .int .u8 n.code, .int .u32 n.grp, .bool n.quiet, .int .u8 n.rob, .int .u8 n.every, .slice A_t n.srcs.length c_t, .slice A_u n.recs.length c_u] 27 (0, 0)) BK_gn.out hB); clear BK_gn; have BK_gn := nBK; clear nBK; have hc_gn_0 : w6_.cell? ⟨gn, 0, none⟩ = some (.int .u8 n.k) := (blk_cell BK_gn.out 0).trans rfl; have hf_gn_0 := blk_frozen BK_gn.out 0; have hc_gn_1 : w6_.cell? ⟨gn, 1, none⟩ = some (.int .i64 n.ver) := (blk_cell BK_gn.out 1).trans rfl; have hf_gn_1 := blk_frozen BK_gn.out 1; have hc_gn_2 : w6_.cell? ⟨gn, 2, none⟩ = some (.int .u8 n.code) := (blk_cell BK_gn.out 2).trans rfl; have hf_gn_2 := blk_frozen BK_gn.out 2; have hc_gn_3 : w6_.cell? ⟨gn, 3, none⟩ = some (.int .u32 n.grp) := (blk_cell BK_gn.out 3).trans rfl; have hf_gn_3 := blk_frozen BK_gn.out 3; have hc_gn_4 : w6_.cell? ⟨gn, 4, none⟩ = some (.bool n.quiet) := (blk_cell BK_gn.out 4).trans rfl; have hf_gn_4 := blk_frozen BK_gn.out 4; have hc_gn_5 : w6_.cell? ⟨gn, 5, none⟩ = some (.int .u8 n.rob) := (blk_cell BK_gn.out 5).trans rfl; have hf_gn_5 := blk_frozen BK_gn.out 5; have hc_gn_6 : w6_.cell? ⟨gn, 6, none⟩ = some (.int .u8 n.every) := (blk_cell BK_gn.out 6).trans rfl; have hf_gn_6 := blk_frozen BK_gn.out 6; have hc_gn_7 : w6_.cell? ⟨gn, 7, none⟩ = some (.slice A_t n.srcs.length c_t) := (blk_cell BK_gn.out 7).trans rfl; have hf_gn_7 := blk_frozen BK_gn.out 7; have hc_gn_8 : w6_.cell? ⟨gn, 8, none⟩ = some (.slice A_u n.recs.length c_u) := (blk_cell BK_gn.out 8).trans rfl; have hf_gn_8 := blk_frozen BK_gn.out 8; have HR_x := Aside0.mk (Kd.R_mono (Kd.R_lower hR hsz) (fun _ _ => trivial : ∀ k, _ → (fun _ => True) k)); clear hR hsz; clear hB) | (go_at_call 14; with_reducible refine (renc_ok Xho.out Xhb.out Xhx.out _ _ _ _ _ (Kd.C_below HC_s.out HB.out) HK_s.out (Kd.C_below HC_r.out HB.out) HK_r.out).mono ?_; rintro e w7_ ⟨v_y, rfl, hR, hB⟩; obtain ⟨A_y, c_y, rfl⟩ := Kd.R_slice hR; have hsz := HB.out.size; have nHB := Aside0.mk (HB.out.trans (hB.mono HB.out.size)); clear HB; have HB := nHB; clear nHB; clear hc_gm_0 hf_gm_0 hc_gm_1 hf_gm_1 hc_gm_2 hf_gm_2 hc_gm_3 hf_gm_3 hc_gm_4 hf_gm_4 hc_gm_5 hf_gm_5 hc_gm_6 hf_gm_6 hc_gm_7 hf_gm_7 hc_gm_8 hf_gm_8; have nBK := Aside0.mk (blk_below (g := gm) (o := .cells #[.int .u8 m.k, .int .i64 m.ver, .int .u8 m.code, .int .u32 m.grp, .bool m.quiet, .int .u8 m.rob, .int .u8 m.every, .slice A_s m.srcs.length c_s, .slice A_r m.recs.length c_r] 27 (0, 0)) BK_gm.out hB); clear BK_gm; have BK_gm := nBK; clear nBK; have hc_gm_0 : w7_.cell? ⟨gm, 0, none⟩ = some (.int .u8 m.k) := (blk_cell BK_gm.out 0).trans rfl; have hf_gm_0 := blk_frozen BK_gm.out 0; have hc_gm_1 : w7_.cell? ⟨gm, 1, none⟩ = some (.int .i64 m.ver) := (blk_cell BK_gm.out 1).trans rfl; have hf_gm_1 := blk_frozen BK_gm.out 1; have hc_gm_2 : w7_.cell? ⟨gm, 2, none⟩ = some (.int .u8 m.code) := (blk_cell BK_gm.out 2).trans rfl; have hf_gm_2 := blk_frozen BK_gm.out 2; have hc_gm_3 : w7_.cell? ⟨gm, 3, none⟩ = some (.int .u32 m.grp) := (blk_cell BK_gm.out 3).trans rfl; have hf_gm_3 := blk_frozen BK_gm.out 3; have hc_gm_4 : w7_.cell? ⟨gm, 4, none⟩ = some (.bool m.quiet) := (blk_cell BK_gm.out 4).trans rfl; have hf_gm_4 := blk_frozen BK_gm.out 4; have hc_gm_5 : w7_.cell? ⟨gm, 5, none⟩ = some (.int .u8 m.rob) := (blk_cell BK_gm.out 5).trans rfl; have hf_gm_5 := blk_frozen BK_gm.out 5; have hc_gm_6 : w7_.cell? ⟨gm, 6, none⟩ = some (.int .u8 m.every) := (blk_cell BK_gm.out 6).trans rfl; have hf_gm_6 := blk_frozen BK_gm.out 6; have hc_gm_7 : w7_.cell? ⟨gm, 7, none⟩ = some (.slice A_s m.srcs.length c_s) := (blk_cell BK_gm.out 7).trans rfl; have hf_gm_7 := blk_frozen BK_gm.out 7; have hc_gm_8 : w7_.cell? ⟨gm, 8, none⟩ = some (.slice A_r m.recs.length c_r) := (blk_cell BK_gm.out 8).trans rfl; have hf_gm_8 := blk_frozen BK_gm.out 8; clear hc_gn_0 hf_gn_0 hc_gn_1 hf_gn_1 hc_gn_2 hf_gn_2 hc_gn_3 hf_gn_3 hc_gn_4 hf_gn_4 hc_gn_5 hf_gn_5 hc_gn_6 hf_gn_6 hc_gn_7 hf_gn_7 hc_gn_8 hf_gn_8; have nBK := Aside0.mk (blk_below (g := gn) (o := .cells #[.int .u8 n.k, .int .i64 n.ver, .int .u8 n.code, .int .u32 n.grp, .bool n.quiet, .int .u8 n.rob, .int .u8 n.every, .slice A_t n.srcs.length c_t, .slice A_u n.recs.length c_u] 27 (0, 0)) BK_gn.out hB); clear BK_gn; have BK_gn := nBK; clear nBK; have hc_gn_0 : w7_.cell? ⟨gn, 0, none⟩ = some (.int .u8 n.k) := (blk_cell BK_gn.out 0).trans rfl; have hf_gn_0 := blk_frozen BK_gn.out 0; have hc_gn_1 : w7_.cell? ⟨gn, 1, none⟩ = some (.int .i64 n.ver) := (blk_cell BK_gn.out 1).trans rfl; have hf_gn_1 := blk_frozen BK_gn.out 1; have hc_gn_2 : w7_.cell? ⟨gn, 2, none⟩ = some (.int .u8 n.code) := (blk_cell BK_gn.out 2).trans rfl; have hf_gn_2 := blk_frozen BK_gn.out 2; have hc_gn_3 : w7_.cell? ⟨gn, 3, none⟩ = some (.int .u32 n.grp) := (blk_cell BK_gn.out 3).trans rfl; have hf_gn_3 := blk_frozen BK_gn.out 3; have hc_gn_4 : w7_.cell? ⟨gn, 4, none⟩ = some (.bool n.quiet) := (blk_cell BK_gn.out 4).trans rfl; have hf_gn_4 := blk_frozen BK_gn.out 4; have hc_gn_5 : w7_.cell? ⟨gn, 5, none⟩ = some (.int .u8 n.rob) := (blk_cell BK_gn.out 5).trans rfl; have hf_gn_5 := blk_frozen BK_gn.out 5; have hc_gn_6 : w7_.cell? ⟨gn, 6, none⟩ = some (.int .u8 n.every) := (blk_cell BK_gn.out 6).trans rfl; have hf_gn_6 := blk_frozen BK_gn.out 6; have hc_gn_7 : w7_.cell? ⟨gn, 7, none⟩ = some (.slice A_t n.srcs.length c_t) := (blk_cell BK_gn.out 7).trans rfl; have hf_gn_7 := blk_frozen BK_gn.out 7; have hc_gn_8 : w7_.cell? ⟨gn, 8, none⟩ = some (.slice A_u n.recs.length c_u) := (blk_cell BK_gn.out 8).trans rfl; have hf_gn_8 := blk_frozen BK_gn.out 8; have nHC := Aside0.mk (Kd.R_below HR_x.out hB); clear HR_x; have HR_x := nHC; clear nHC; have HR_y := Aside0.mk (Kd.R_mono (Kd.R_lower hR hsz) (fun _ _ => trivial : ∀ k, _ → (fun _ => True) k)); clear hR hsz; clear hB))
  refine start_ (n := 28) (S := fun w' => w'.cell? ⟨gm, 0, none⟩ = some (.int .u8 m.k) ∧ w'.cell? ⟨gm, 1, none⟩ = some (.int .i64 m.ver) ∧ w'.cell? ⟨gm, 2, none⟩ = some (.int .u8 m.code) ∧ w'.cell? ⟨gm, 3, none⟩ = some (.int .u32 m.grp) ∧ w'.cell? ⟨gm, 4, none⟩ = some (.bool m.quiet) ∧ w'.cell? ⟨gm, 5, none⟩ = some (.int .u8 m.rob) ∧ w'.cell? ⟨gm, 6, none⟩ = some (.int .u8 m.every) ∧ w'.cell? ⟨gm, 7, none⟩ = some (.slice A_s m.srcs.length c_s) ∧ w'.cell? ⟨gm, 8, none⟩ = some (.slice A_r m.recs.length c_r) ∧ w'.cell? ⟨gn, 0, none⟩ = some (.int .u8 n.k) ∧ w'.cell? ⟨gn, 1, none⟩ = some (.int .i64 n.ver) ∧ w'.cell? ⟨gn, 2, none⟩ = some (.int .u8 n.code) ∧ w'.cell? ⟨gn, 3, none⟩ = some (.int .u32 n.grp) ∧ w'.cell? ⟨gn, 4, none⟩ = some (.bool n.quiet) ∧ w'.cell? ⟨gn, 5, none⟩ = some (.int .u8 n.rob) ∧ w'.cell? ⟨gn, 6, none⟩ = some (.int .u8 n.every) ∧ w'.cell? ⟨gn, 7, none⟩ = some (.slice A_t n.srcs.length c_t) ∧ w'.cell? ⟨gn, 8, none⟩ = some (.slice A_u n.recs.length c_u)) (ds := []) #[false, false, false, false, false, false, false, false, false, false, false, false, false, false, false, false, false, false, false, false, false, false, false, false, false, false, false, false] (by kernel_rfl) rfl rfl ⟨hc_gm_0, hc_gm_1, hc_gm_2, hc_gm_3, hc_gm_4, hc_gm_5, hc_gm_6, hc_gm_7, hc_gm_8, hc_gn_0, hc_gn_1, hc_gn_2, hc_gn_3, hc_gn_4, hc_gn_5, hc_gn_6, hc_gn_7, hc_gn_8⟩ (fun hHeld => ?_); refine with_tabW wr_t6 wr_b6 (fun HT_ HW_ => ?_)
  have hB : Below w7_.heap.size w7_ w7_.drew := below_drew (Below.refl _ _)
  generalize w7_.drew = w8_ at hB hHeld ⊢
  have nHB := Aside0.mk (HB.out.trans (hB.mono HB.out.size))
  clear HB
  have HB := nHB
  clear nHB
  clear hc_gm_0 hf_gm_0 hc_gm_1 hf_gm_1 hc_gm_2 hf_gm_2 hc_gm_3 hf_gm_3 hc_gm_4 hf_gm_4 hc_gm_5 hf_gm_5 hc_gm_6 hf_gm_6 hc_gm_7 hf_gm_7 hc_gm_8 hf_gm_8
  have nBK := Aside0.mk (blk_below (g := gm) (o := .cells #[.int .u8 m.k, .int .i64 m.ver, .int .u8 m.code, .int .u32 m.grp, .bool m.quiet, .int .u8 m.rob, .int .u8 m.every, .slice A_s m.srcs.length c_s, .slice A_r m.recs.length c_r] 27 (0, 0)) BK_gm.out hB)
  clear BK_gm
  have BK_gm := nBK
  clear nBK
  have hc_gm_0 : w8_.cell? ⟨gm, 0, none⟩ = some (.int .u8 m.k) := (blk_cell BK_gm.out 0).trans rfl
  have hf_gm_0 := blk_frozen BK_gm.out 0
  have hc_gm_1 : w8_.cell? ⟨gm, 1, none⟩ = some (.int .i64 m.ver) := (blk_cell BK_gm.out 1).trans rfl
  have hf_gm_1 := blk_frozen BK_gm.out 1
  have hc_gm_2 : w8_.cell? ⟨gm, 2, none⟩ = some (.int .u8 m.code) := (blk_cell BK_gm.out 2).trans rfl
  have hf_gm_2 := blk_frozen BK_gm.out 2
  have hc_gm_3 : w8_.cell? ⟨gm, 3, none⟩ = some (.int .u32 m.grp) := (blk_cell BK_gm.out 3).trans rfl
  have hf_gm_3 := blk_frozen BK_gm.out 3
  have hc_gm_4 : w8_.cell? ⟨gm, 4, none⟩ = some (.bool m.quiet) := (blk_cell BK_gm.out 4).trans rfl
  have hf_gm_4 := blk_frozen BK_gm.out 4
  have hc_gm_5 : w8_.cell? ⟨gm, 5, none⟩ = some (.int .u8 m.rob) := (blk_cell BK_gm.out 5).trans rfl
  have hf_gm_5 := blk_frozen BK_gm.out 5
  have hc_gm_6 : w8_.cell? ⟨gm, 6, none⟩ = some (.int .u8 m.every) := (blk_cell BK_gm.out 6).trans rfl
  have hf_gm_6 := blk_frozen BK_gm.out 6
  have hc_gm_7 : w8_.cell? ⟨gm, 7, none⟩ = some (.slice A_s m.srcs.length c_s) := (blk_cell BK_gm.out 7).trans rfl
  have hf_gm_7 := blk_frozen BK_gm.out 7
  have hc_gm_8 : w8_.cell? ⟨gm, 8, none⟩ = some (.slice A_r m.recs.length c_r) := (blk_cell BK_gm.out 8).trans rfl
  have hf_gm_8 := blk_frozen BK_gm.out 8
  clear hc_gn_0 hf_gn_0 hc_gn_1 hf_gn_1 hc_gn_2 hf_gn_2 hc_gn_3 hf_gn_3 hc_gn_4 hf_gn_4 hc_gn_5 hf_gn_5 hc_gn_6 hf_gn_6 hc_gn_7 hf_gn_7 hc_gn_8 hf_gn_8
  have nBK := Aside0.mk (blk_below (g := gn) (o := .cells #[.int .u8 n.k, .int .i64 n.ver, .int .u8 n.code, .int .u32 n.grp, .bool n.quiet, .int .u8 n.rob, .int .u8 n.every, .slice A_t n.srcs.length c_t, .slice A_u n.recs.length c_u] 27 (0, 0)) BK_gn.out hB)
  clear BK_gn
  have BK_gn := nBK
  clear nBK
  have hc_gn_0 : w8_.cell? ⟨gn, 0, none⟩ = some (.int .u8 n.k) := (blk_cell BK_gn.out 0).trans rfl
  have hf_gn_0 := blk_frozen BK_gn.out 0
  have hc_gn_1 : w8_.cell? ⟨gn, 1, none⟩ = some (.int .i64 n.ver) := (blk_cell BK_gn.out 1).trans rfl
  have hf_gn_1 := blk_frozen BK_gn.out 1
  have hc_gn_2 : w8_.cell? ⟨gn, 2, none⟩ = some (.int .u8 n.code) := (blk_cell BK_gn.out 2).trans rfl
  have hf_gn_2 := blk_frozen BK_gn.out 2
  have hc_gn_3 : w8_.cell? ⟨gn, 3, none⟩ = some (.int .u32 n.grp) := (blk_cell BK_gn.out 3).trans rfl
  have hf_gn_3 := blk_frozen BK_gn.out 3
  have hc_gn_4 : w8_.cell? ⟨gn, 4, none⟩ = some (.bool n.quiet) := (blk_cell BK_gn.out 4).trans rfl
  have hf_gn_4 := blk_frozen BK_gn.out 4
  have hc_gn_5 : w8_.cell? ⟨gn, 5, none⟩ = some (.int .u8 n.rob) := (blk_cell BK_gn.out 5).trans rfl
  have hf_gn_5 := blk_frozen BK_gn.out 5
  have hc_gn_6 : w8_.cell? ⟨gn, 6, none⟩ = some (.int .u8 n.every) := (blk_cell BK_gn.out 6).trans rfl
  have hf_gn_6 := blk_frozen BK_gn.out 6
  have hc_gn_7 : w8_.cell? ⟨gn, 7, none⟩ = some (.slice A_t n.srcs.length c_t) := (blk_cell BK_gn.out 7).trans rfl
  have hf_gn_7 := blk_frozen BK_gn.out 7
  have hc_gn_8 : w8_.cell? ⟨gn, 8, none⟩ = some (.slice A_u n.recs.length c_u) := (blk_cell BK_gn.out 8).trans rfl
  have hf_gn_8 := blk_frozen BK_gn.out 8
  have nHC := Aside0.mk (Kd.R_below HR_x.out hB)
  clear HR_x
  have HR_x := nHC
  clear nHC
  have nHC := Aside0.mk (Kd.R_below HR_y.out hB)
  clear HR_y
  have HR_y := nHC
  clear nHC
  clear hB
  refine pure_ (i := 0) (N := some 30) (v := ?_) (a' := ?_) #[true, false, false, false, false, false, false, false, false, false, false, false, false, false, false, false, false, false, false, false, false, false, false, false, false, false, false, false] rfl rfl (any_of HT_.out (by kernel_rfl)) (fun _ _ _ h => h) (Or.inl ⟨by rfl, ?_⟩) ?_ ?_
  rotate_left
  · intro w'
    go_simp
    with_reducible rfl
  rotate_left
  · simp only [Act.put, List.setIfInBounds_toArray, List.set_cons_zero, List.set_cons_succ, i64_w, i32_w]
    rfl
  refine pure_ (i := 1) (N := some 31) (v := ?_) (a' := ?_) #[true, true, false, false, false, false, false, false, false, false, false, false, false, false, false, false, false, false, false, false, false, false, false, false, false, false, false, false] rfl rfl (any_of HT_.out (by kernel_rfl)) (fun _ _ _ h => h) (Or.inl ⟨by rfl, ?_⟩) ?_ ?_
  rotate_left
  · intro w'
    go_simp
    with_reducible rfl
  rotate_left
  · simp only [Act.put, List.setIfInBounds_toArray, List.set_cons_zero, List.set_cons_succ, i64_w, i32_w]
    rfl
  refine take_ (i := 2) (N := some 32) (v := ?_) (a' := ?_) #[true, true, true, false, false, false, false, false, false, false, false, false, false, false, false, false, false, false, false, false, false, false, false, false, false, false, false, false] rfl rfl (take_ofW HT_.out HW_.out (by kernel_rfl)) (fun _ _ _ h => h) (Or.inl ⟨by rfl, ?_⟩) hHeld ?_ ?_
  rotate_left
  · rintro w' ⟨s0, s1, s2, s3, s4, s5, s6, s7, s8, s9, s10, s11, s12, s13, s14, s15, s16, s17⟩
    go_simp
    with_reducible rfl
  rotate_left
  · simp only [Act.put, List.setIfInBounds_toArray, List.set_cons_zero, List.set_cons_succ, i64_w, i32_w]
    rfl
  refine take_ (i := 4) (N := some 34) (v := ?_) (a' := ?_) #[true, true, true, false, true, false, false, false, false, false, false, false, false, false, false, false, false, false, false, false, false, false, false, false, false, false, false, false] rfl rfl (take_ofW HT_.out HW_.out (by kernel_rfl)) (fun _ _ _ h => h) (Or.inl ⟨by rfl, ?_⟩) hHeld ?_ ?_
  rotate_left
  · rintro w' ⟨s0, s1, s2, s3, s4, s5, s6, s7, s8, s9, s10, s11, s12, s13, s14, s15, s16, s17⟩
    go_simp
    with_reducible rfl
  rotate_left
  · simp only [Act.put, List.setIfInBounds_toArray, List.set_cons_zero, List.set_cons_succ, i64_w, i32_w]
    rfl
  refine one_ (i := 3) (N := some 33) #[true, true, true, true, true, false, false, false, false, false, false, false, false, false, false, false, false, false, false, false, false, false, false, false, false, false, false, false] rfl rfl (one_of HT_.out (by kernel_rfl)) (by decide) (fun K hK => ?_)
  refine goes_ Try.func15 (by kernel_rfl) rfl #[.agg #[.int .u8 m.k, .int .i64 m.ver, .int .u8 m.code, .int .u32 m.grp, .bool m.quiet, .int .u8 m.rob, .int .u8 m.every, .slice A_s m.srcs.length c_s, .slice A_r m.recs.length c_r]] (by rfl) rfl rfl (by (try simp only [List.map_toArray, List.map_cons, List.map_nil]); first | done | rfl | (simp only [List.length_drop, List.length_take]; rfl)) ?_
  with_reducible refine (rightm_w Xho.out Xhz.out Xhb.out _ _ _ _ _ (Kd.C_below HC_s.out HB.out) HK_s.out (Kd.C_below HC_r.out HB.out) HK_r.out).mono ?_
  rintro e w9_ ⟨rfl, hB⟩
  refine ⟨_, rfl, ?_⟩
  have hsz := HB.out.size
  have nHB := Aside0.mk (HB.out.trans (hB.mono HB.out.size))
  clear HB
  have HB := nHB
  clear nHB
  clear hc_gm_0 hf_gm_0 hc_gm_1 hf_gm_1 hc_gm_2 hf_gm_2 hc_gm_3 hf_gm_3 hc_gm_4 hf_gm_4 hc_gm_5 hf_gm_5 hc_gm_6 hf_gm_6 hc_gm_7 hf_gm_7 hc_gm_8 hf_gm_8
  have nBK := Aside0.mk (blk_below (g := gm) (o := .cells #[.int .u8 m.k, .int .i64 m.ver, .int .u8 m.code, .int .u32 m.grp, .bool m.quiet, .int .u8 m.rob, .int .u8 m.every, .slice A_s m.srcs.length c_s, .slice A_r m.recs.length c_r] 27 (0, 0)) BK_gm.out hB)
  clear BK_gm
  have BK_gm := nBK
  clear nBK
  have hc_gm_0 : w9_.cell? ⟨gm, 0, none⟩ = some (.int .u8 m.k) := (blk_cell BK_gm.out 0).trans rfl
  have hf_gm_0 := blk_frozen BK_gm.out 0
  have hc_gm_1 : w9_.cell? ⟨gm, 1, none⟩ = some (.int .i64 m.ver) := (blk_cell BK_gm.out 1).trans rfl
  have hf_gm_1 := blk_frozen BK_gm.out 1
  have hc_gm_2 : w9_.cell? ⟨gm, 2, none⟩ = some (.int .u8 m.code) := (blk_cell BK_gm.out 2).trans rfl
  have hf_gm_2 := blk_frozen BK_gm.out 2
  have hc_gm_3 : w9_.cell? ⟨gm, 3, none⟩ = some (.int .u32 m.grp) := (blk_cell BK_gm.out 3).trans rfl
  have hf_gm_3 := blk_frozen BK_gm.out 3
  have hc_gm_4 : w9_.cell? ⟨gm, 4, none⟩ = some (.bool m.quiet) := (blk_cell BK_gm.out 4).trans rfl
  have hf_gm_4 := blk_frozen BK_gm.out 4
  have hc_gm_5 : w9_.cell? ⟨gm, 5, none⟩ = some (.int .u8 m.rob) := (blk_cell BK_gm.out 5).trans rfl
  have hf_gm_5 := blk_frozen BK_gm.out 5
  have hc_gm_6 : w9_.cell? ⟨gm, 6, none⟩ = some (.int .u8 m.every) := (blk_cell BK_gm.out 6).trans rfl
  have hf_gm_6 := blk_frozen BK_gm.out 6
  have hc_gm_7 : w9_.cell? ⟨gm, 7, none⟩ = some (.slice A_s m.srcs.length c_s) := (blk_cell BK_gm.out 7).trans rfl
  have hf_gm_7 := blk_frozen BK_gm.out 7
  have hc_gm_8 : w9_.cell? ⟨gm, 8, none⟩ = some (.slice A_r m.recs.length c_r) := (blk_cell BK_gm.out 8).trans rfl
  have hf_gm_8 := blk_frozen BK_gm.out 8
  clear hc_gn_0 hf_gn_0 hc_gn_1 hf_gn_1 hc_gn_2 hf_gn_2 hc_gn_3 hf_gn_3 hc_gn_4 hf_gn_4 hc_gn_5 hf_gn_5 hc_gn_6 hf_gn_6 hc_gn_7 hf_gn_7 hc_gn_8 hf_gn_8
  have nBK := Aside0.mk (blk_below (g := gn) (o := .cells #[.int .u8 n.k, .int .i64 n.ver, .int .u8 n.code, .int .u32 n.grp, .bool n.quiet, .int .u8 n.rob, .int .u8 n.every, .slice A_t n.srcs.length c_t, .slice A_u n.recs.length c_u] 27 (0, 0)) BK_gn.out hB)
  clear BK_gn
  have BK_gn := nBK
  clear nBK
  have hc_gn_0 : w9_.cell? ⟨gn, 0, none⟩ = some (.int .u8 n.k) := (blk_cell BK_gn.out 0).trans rfl
  have hf_gn_0 := blk_frozen BK_gn.out 0
  have hc_gn_1 : w9_.cell? ⟨gn, 1, none⟩ = some (.int .i64 n.ver) := (blk_cell BK_gn.out 1).trans rfl
  have hf_gn_1 := blk_frozen BK_gn.out 1
  have hc_gn_2 : w9_.cell? ⟨gn, 2, none⟩ = some (.int .u8 n.code) := (blk_cell BK_gn.out 2).trans rfl
  have hf_gn_2 := blk_frozen BK_gn.out 2
  have hc_gn_3 : w9_.cell? ⟨gn, 3, none⟩ = some (.int .u32 n.grp) := (blk_cell BK_gn.out 3).trans rfl
  have hf_gn_3 := blk_frozen BK_gn.out 3
  have hc_gn_4 : w9_.cell? ⟨gn, 4, none⟩ = some (.bool n.quiet) := (blk_cell BK_gn.out 4).trans rfl
  have hf_gn_4 := blk_frozen BK_gn.out 4
  have hc_gn_5 : w9_.cell? ⟨gn, 5, none⟩ = some (.int .u8 n.rob) := (blk_cell BK_gn.out 5).trans rfl
  have hf_gn_5 := blk_frozen BK_gn.out 5
  have hc_gn_6 : w9_.cell? ⟨gn, 6, none⟩ = some (.int .u8 n.every) := (blk_cell BK_gn.out 6).trans rfl
  have hf_gn_6 := blk_frozen BK_gn.out 6
  have hc_gn_7 : w9_.cell? ⟨gn, 7, none⟩ = some (.slice A_t n.srcs.length c_t) := (blk_cell BK_gn.out 7).trans rfl
  have hf_gn_7 := blk_frozen BK_gn.out 7
  have hc_gn_8 : w9_.cell? ⟨gn, 8, none⟩ = some (.slice A_u n.recs.length c_u) := (blk_cell BK_gn.out 8).trans rfl
  have hf_gn_8 := blk_frozen BK_gn.out 8
  have nHC := Aside0.mk (Kd.R_below HR_x.out hB)
  clear HR_x
  have HR_x := nHC
  clear nHC
  have nHC := Aside0.mk (Kd.R_below HR_y.out hB)
  clear HR_y
  have HR_y := nHC
  clear nHC
  clear hB hsz
  refine hK.out _ _ ⟨hc_gm_0, hc_gm_1, hc_gm_2, hc_gm_3, hc_gm_4, hc_gm_5, hc_gm_6, hc_gm_7, hc_gm_8, hc_gn_0, hc_gn_1, hc_gn_2, hc_gn_3, hc_gn_4, hc_gn_5, hc_gn_6, hc_gn_7, hc_gn_8⟩ (fun hHeld => ?_)
  clear hK K
  refine norm_ (a' := ?_) ?_ ?_
  rotate_left
  · show Act.put _ (some 33) _ = _
    simp only [Act.put, List.setIfInBounds_toArray, List.set_cons_zero, List.set_cons_succ, i64_w, i32_w]
    rfl
  refine one_ (i := 5) (N := some 35) #[true, true, true, true, true, true, false, false, false, false, false, false, false, false, false, false, false, false, false, false, false, false, false, false, false, false, false, false] rfl rfl (one_of HT_.out (by kernel_rfl)) (by decide) (fun K hK => ?_)
  refine goes_ Try.func16 (by kernel_rfl) rfl #[.agg #[.int .u8 m.k, .int .i64 m.ver, .int .u8 m.code, .int .u32 m.grp, .bool m.quiet, .int .u8 m.rob, .int .u8 m.every, .slice A_s m.srcs.length c_s, .slice A_r m.recs.length c_r]] (by rfl) rfl rfl (by (try simp only [List.map_toArray, List.map_cons, List.map_nil]); first | done | rfl | (simp only [List.length_drop, List.length_take]; rfl)) ?_
  with_reducible refine (rright_w Xhb.out Xhrl.out _ _ _ _ _ (Kd.C_below HC_s.out HB.out) HK_s.out (Kd.C_below HC_r.out HB.out) HK_r.out).mono ?_
  rintro e w10_ ⟨rfl, hB⟩
  refine ⟨_, rfl, ?_⟩
  have hsz := HB.out.size
  have nHB := Aside0.mk (HB.out.trans (hB.mono HB.out.size))
  clear HB
  have HB := nHB
  clear nHB
  clear hc_gm_0 hf_gm_0 hc_gm_1 hf_gm_1 hc_gm_2 hf_gm_2 hc_gm_3 hf_gm_3 hc_gm_4 hf_gm_4 hc_gm_5 hf_gm_5 hc_gm_6 hf_gm_6 hc_gm_7 hf_gm_7 hc_gm_8 hf_gm_8
  have nBK := Aside0.mk (blk_below (g := gm) (o := .cells #[.int .u8 m.k, .int .i64 m.ver, .int .u8 m.code, .int .u32 m.grp, .bool m.quiet, .int .u8 m.rob, .int .u8 m.every, .slice A_s m.srcs.length c_s, .slice A_r m.recs.length c_r] 27 (0, 0)) BK_gm.out hB)
  clear BK_gm
  have BK_gm := nBK
  clear nBK
  have hc_gm_0 : w10_.cell? ⟨gm, 0, none⟩ = some (.int .u8 m.k) := (blk_cell BK_gm.out 0).trans rfl
  have hf_gm_0 := blk_frozen BK_gm.out 0
  have hc_gm_1 : w10_.cell? ⟨gm, 1, none⟩ = some (.int .i64 m.ver) := (blk_cell BK_gm.out 1).trans rfl
  have hf_gm_1 := blk_frozen BK_gm.out 1
  have hc_gm_2 : w10_.cell? ⟨gm, 2, none⟩ = some (.int .u8 m.code) := (blk_cell BK_gm.out 2).trans rfl
  have hf_gm_2 := blk_frozen BK_gm.out 2
  have hc_gm_3 : w10_.cell? ⟨gm, 3, none⟩ = some (.int .u32 m.grp) := (blk_cell BK_gm.out 3).trans rfl
  have hf_gm_3 := blk_frozen BK_gm.out 3
  have hc_gm_4 : w10_.cell? ⟨gm, 4, none⟩ = some (.bool m.quiet) := (blk_cell BK_gm.out 4).trans rfl
  have hf_gm_4 := blk_frozen BK_gm.out 4
  have hc_gm_5 : w10_.cell? ⟨gm, 5, none⟩ = some (.int .u8 m.rob) := (blk_cell BK_gm.out 5).trans rfl
  have hf_gm_5 := blk_frozen BK_gm.out 5
  have hc_gm_6 : w10_.cell? ⟨gm, 6, none⟩ = some (.int .u8 m.every) := (blk_cell BK_gm.out 6).trans rfl
  have hf_gm_6 := blk_frozen BK_gm.out 6
  have hc_gm_7 : w10_.cell? ⟨gm, 7, none⟩ = some (.slice A_s m.srcs.length c_s) := (blk_cell BK_gm.out 7).trans rfl
  have hf_gm_7 := blk_frozen BK_gm.out 7
  have hc_gm_8 : w10_.cell? ⟨gm, 8, none⟩ = some (.slice A_r m.recs.length c_r) := (blk_cell BK_gm.out 8).trans rfl
  have hf_gm_8 := blk_frozen BK_gm.out 8
  clear hc_gn_0 hf_gn_0 hc_gn_1 hf_gn_1 hc_gn_2 hf_gn_2 hc_gn_3 hf_gn_3 hc_gn_4 hf_gn_4 hc_gn_5 hf_gn_5 hc_gn_6 hf_gn_6 hc_gn_7 hf_gn_7 hc_gn_8 hf_gn_8
  have nBK := Aside0.mk (blk_below (g := gn) (o := .cells #[.int .u8 n.k, .int .i64 n.ver, .int .u8 n.code, .int .u32 n.grp, .bool n.quiet, .int .u8 n.rob, .int .u8 n.every, .slice A_t n.srcs.length c_t, .slice A_u n.recs.length c_u] 27 (0, 0)) BK_gn.out hB)
  clear BK_gn
  have BK_gn := nBK
  clear nBK
  have hc_gn_0 : w10_.cell? ⟨gn, 0, none⟩ = some (.int .u8 n.k) := (blk_cell BK_gn.out 0).trans rfl
  have hf_gn_0 := blk_frozen BK_gn.out 0
  have hc_gn_1 : w10_.cell? ⟨gn, 1, none⟩ = some (.int .i64 n.ver) := (blk_cell BK_gn.out 1).trans rfl
  have hf_gn_1 := blk_frozen BK_gn.out 1
  have hc_gn_2 : w10_.cell? ⟨gn, 2, none⟩ = some (.int .u8 n.code) := (blk_cell BK_gn.out 2).trans rfl
  have hf_gn_2 := blk_frozen BK_gn.out 2
  have hc_gn_3 : w10_.cell? ⟨gn, 3, none⟩ = some (.int .u32 n.grp) := (blk_cell BK_gn.out 3).trans rfl
  have hf_gn_3 := blk_frozen BK_gn.out 3
  have hc_gn_4 : w10_.cell? ⟨gn, 4, none⟩ = some (.bool n.quiet) := (blk_cell BK_gn.out 4).trans rfl
  have hf_gn_4 := blk_frozen BK_gn.out 4
  have hc_gn_5 : w10_.cell? ⟨gn, 5, none⟩ = some (.int .u8 n.rob) := (blk_cell BK_gn.out 5).trans rfl
  have hf_gn_5 := blk_frozen BK_gn.out 5
  have hc_gn_6 : w10_.cell? ⟨gn, 6, none⟩ = some (.int .u8 n.every) := (blk_cell BK_gn.out 6).trans rfl
  have hf_gn_6 := blk_frozen BK_gn.out 6
  have hc_gn_7 : w10_.cell? ⟨gn, 7, none⟩ = some (.slice A_t n.srcs.length c_t) := (blk_cell BK_gn.out 7).trans rfl
  have hf_gn_7 := blk_frozen BK_gn.out 7
  have hc_gn_8 : w10_.cell? ⟨gn, 8, none⟩ = some (.slice A_u n.recs.length c_u) := (blk_cell BK_gn.out 8).trans rfl
  have hf_gn_8 := blk_frozen BK_gn.out 8
  have nHC := Aside0.mk (Kd.R_below HR_x.out hB)
  clear HR_x
  have HR_x := nHC
  clear nHC
  have nHC := Aside0.mk (Kd.R_below HR_y.out hB)
  clear HR_y
  have HR_y := nHC
  clear nHC
  clear hB hsz
  refine hK.out _ _ ⟨hc_gm_0, hc_gm_1, hc_gm_2, hc_gm_3, hc_gm_4, hc_gm_5, hc_gm_6, hc_gm_7, hc_gm_8, hc_gn_0, hc_gn_1, hc_gn_2, hc_gn_3, hc_gn_4, hc_gn_5, hc_gn_6, hc_gn_7, hc_gn_8⟩ (fun hHeld => ?_)
  clear hK K
  refine norm_ (a' := ?_) ?_ ?_
  rotate_left
  · show Act.put _ (some 35) _ = _
    simp only [Act.put, List.setIfInBounds_toArray, List.set_cons_zero, List.set_cons_succ, i64_w, i32_w]
    rfl
  refine pure_ (i := 6) (N := some 36) (v := ?_) (a' := ?_) #[true, true, true, true, true, true, true, false, false, false, false, false, false, false, false, false, false, false, false, false, false, false, false, false, false, false, false, false] rfl rfl (any_of HT_.out (by kernel_rfl)) (fun _ _ _ h => h) (Or.inl ⟨by rfl, ?_⟩) ?_ ?_
  rotate_left
  · intro w'
    go_simp
    with_reducible rfl
  rotate_left
  · simp only [Act.put, List.setIfInBounds_toArray, List.set_cons_zero, List.set_cons_succ, i64_w, i32_w]
    rfl
  refine pure_ (i := 7) (N := some 37) (v := ?_) (a' := ?_) #[true, true, true, true, true, true, true, true, false, false, false, false, false, false, false, false, false, false, false, false, false, false, false, false, false, false, false, false] rfl rfl (any_of HT_.out (by kernel_rfl)) (fun _ _ _ h => h) (Or.inl ⟨by rfl, ?_⟩) ?_ ?_
  rotate_left
  · intro w'
    go_simp
    with_reducible rfl
  rotate_left
  · simp only [Act.put, List.setIfInBounds_toArray, List.set_cons_zero, List.set_cons_succ, i64_w, i32_w]
    rfl
  refine pure_ (i := 8) (N := some 38) (v := ?_) (a' := ?_) #[true, true, true, true, true, true, true, true, true, false, false, false, false, false, false, false, false, false, false, false, false, false, false, false, false, false, false, false] rfl rfl (any_of HT_.out (by kernel_rfl)) (fun _ _ _ h => h) (Or.inl ⟨by rfl, ?_⟩) ?_ ?_
  rotate_left
  · intro w'
    go_simp
    with_reducible rfl
  rotate_left
  · simp only [Act.put, List.setIfInBounds_toArray, List.set_cons_zero, List.set_cons_succ, i64_w, i32_w]
    rfl
  refine pure_ (i := 9) (N := some 39) (v := ?_) (a' := ?_) #[true, true, true, true, true, true, true, true, true, true, false, false, false, false, false, false, false, false, false, false, false, false, false, false, false, false, false, false] rfl rfl (any_of HT_.out (by kernel_rfl)) (fun _ _ _ h => h) (Or.inl ⟨by rfl, ?_⟩) ?_ ?_
  rotate_left
  · intro w'
    go_simp
    with_reducible rfl
  rotate_left
  · simp only [Act.put, List.setIfInBounds_toArray, List.set_cons_zero, List.set_cons_succ, i64_w, i32_w]
    rfl
  refine pure_ (i := 10) (N := some 40) (v := ?_) (a' := ?_) #[true, true, true, true, true, true, true, true, true, true, true, false, false, false, false, false, false, false, false, false, false, false, false, false, false, false, false, false] rfl rfl (any_of HT_.out (by kernel_rfl)) (fun _ _ _ h => h) (Or.inl ⟨by rfl, ?_⟩) ?_ ?_
  rotate_left
  · intro w'
    go_simp
    with_reducible rfl
  rotate_left
  · simp only [Act.put, List.setIfInBounds_toArray, List.set_cons_zero, List.set_cons_succ, i64_w, i32_w]
    rfl
  refine one_ (i := 11) (N := some 41) #[true, true, true, true, true, true, true, true, true, true, true, true, false, false, false, false, false, false, false, false, false, false, false, false, false, false, false, false] rfl rfl (one_of HT_.out (by kernel_rfl)) (by decide) (fun K hK => ?_)
  refine goes_ Try.func17 (by kernel_rfl) rfl #[.slice A_x x.length c_x, .slice A_y x.length c_y] (by rfl) rfl rfl (by (try simp only [List.map_toArray, List.map_cons, List.map_nil]); first | done | rfl | (simp only [List.length_drop, List.length_take]; rfl)) ?_
  with_reducible refine (same2_w Xhxl.out _ _ _ _ _ (Kd.R_reads' HR_x.out).2.2 (Kd.R_reads' HR_x.out).2.1 (Kd.R_reads' HR_y.out).2.2 (Kd.R_reads' HR_y.out).2.1).mono ?_
  rintro e w11_ ⟨rfl, hB⟩
  refine ⟨_, rfl, ?_⟩
  have hsz := HB.out.size
  have nHB := Aside0.mk (HB.out.trans (hB.mono HB.out.size))
  clear HB
  have HB := nHB
  clear nHB
  clear hc_gm_0 hf_gm_0 hc_gm_1 hf_gm_1 hc_gm_2 hf_gm_2 hc_gm_3 hf_gm_3 hc_gm_4 hf_gm_4 hc_gm_5 hf_gm_5 hc_gm_6 hf_gm_6 hc_gm_7 hf_gm_7 hc_gm_8 hf_gm_8
  have nBK := Aside0.mk (blk_below (g := gm) (o := .cells #[.int .u8 m.k, .int .i64 m.ver, .int .u8 m.code, .int .u32 m.grp, .bool m.quiet, .int .u8 m.rob, .int .u8 m.every, .slice A_s m.srcs.length c_s, .slice A_r m.recs.length c_r] 27 (0, 0)) BK_gm.out hB)
  clear BK_gm
  have BK_gm := nBK
  clear nBK
  have hc_gm_0 : w11_.cell? ⟨gm, 0, none⟩ = some (.int .u8 m.k) := (blk_cell BK_gm.out 0).trans rfl
  have hf_gm_0 := blk_frozen BK_gm.out 0
  have hc_gm_1 : w11_.cell? ⟨gm, 1, none⟩ = some (.int .i64 m.ver) := (blk_cell BK_gm.out 1).trans rfl
  have hf_gm_1 := blk_frozen BK_gm.out 1
  have hc_gm_2 : w11_.cell? ⟨gm, 2, none⟩ = some (.int .u8 m.code) := (blk_cell BK_gm.out 2).trans rfl
  have hf_gm_2 := blk_frozen BK_gm.out 2
  have hc_gm_3 : w11_.cell? ⟨gm, 3, none⟩ = some (.int .u32 m.grp) := (blk_cell BK_gm.out 3).trans rfl
  have hf_gm_3 := blk_frozen BK_gm.out 3
  have hc_gm_4 : w11_.cell? ⟨gm, 4, none⟩ = some (.bool m.quiet) := (blk_cell BK_gm.out 4).trans rfl
  have hf_gm_4 := blk_frozen BK_gm.out 4
  have hc_gm_5 : w11_.cell? ⟨gm, 5, none⟩ = some (.int .u8 m.rob) := (blk_cell BK_gm.out 5).trans rfl
  have hf_gm_5 := blk_frozen BK_gm.out 5
  have hc_gm_6 : w11_.cell? ⟨gm, 6, none⟩ = some (.int .u8 m.every) := (blk_cell BK_gm.out 6).trans rfl
  have hf_gm_6 := blk_frozen BK_gm.out 6
  have hc_gm_7 : w11_.cell? ⟨gm, 7, none⟩ = some (.slice A_s m.srcs.length c_s) := (blk_cell BK_gm.out 7).trans rfl
  have hf_gm_7 := blk_frozen BK_gm.out 7
  have hc_gm_8 : w11_.cell? ⟨gm, 8, none⟩ = some (.slice A_r m.recs.length c_r) := (blk_cell BK_gm.out 8).trans rfl
  have hf_gm_8 := blk_frozen BK_gm.out 8
  clear hc_gn_0 hf_gn_0 hc_gn_1 hf_gn_1 hc_gn_2 hf_gn_2 hc_gn_3 hf_gn_3 hc_gn_4 hf_gn_4 hc_gn_5 hf_gn_5 hc_gn_6 hf_gn_6 hc_gn_7 hf_gn_7 hc_gn_8 hf_gn_8
  have nBK := Aside0.mk (blk_below (g := gn) (o := .cells #[.int .u8 n.k, .int .i64 n.ver, .int .u8 n.code, .int .u32 n.grp, .bool n.quiet, .int .u8 n.rob, .int .u8 n.every, .slice A_t n.srcs.length c_t, .slice A_u n.recs.length c_u] 27 (0, 0)) BK_gn.out hB)
  clear BK_gn
  have BK_gn := nBK
  clear nBK
  have hc_gn_0 : w11_.cell? ⟨gn, 0, none⟩ = some (.int .u8 n.k) := (blk_cell BK_gn.out 0).trans rfl
  have hf_gn_0 := blk_frozen BK_gn.out 0
  have hc_gn_1 : w11_.cell? ⟨gn, 1, none⟩ = some (.int .i64 n.ver) := (blk_cell BK_gn.out 1).trans rfl
  have hf_gn_1 := blk_frozen BK_gn.out 1
  have hc_gn_2 : w11_.cell? ⟨gn, 2, none⟩ = some (.int .u8 n.code) := (blk_cell BK_gn.out 2).trans rfl
  have hf_gn_2 := blk_frozen BK_gn.out 2
  have hc_gn_3 : w11_.cell? ⟨gn, 3, none⟩ = some (.int .u32 n.grp) := (blk_cell BK_gn.out 3).trans rfl
  have hf_gn_3 := blk_frozen BK_gn.out 3
  have hc_gn_4 : w11_.cell? ⟨gn, 4, none⟩ = some (.bool n.quiet) := (blk_cell BK_gn.out 4).trans rfl
  have hf_gn_4 := blk_frozen BK_gn.out 4
  have hc_gn_5 : w11_.cell? ⟨gn, 5, none⟩ = some (.int .u8 n.rob) := (blk_cell BK_gn.out 5).trans rfl
  have hf_gn_5 := blk_frozen BK_gn.out 5
  have hc_gn_6 : w11_.cell? ⟨gn, 6, none⟩ = some (.int .u8 n.every) := (blk_cell BK_gn.out 6).trans rfl
  have hf_gn_6 := blk_frozen BK_gn.out 6
  have hc_gn_7 : w11_.cell? ⟨gn, 7, none⟩ = some (.slice A_t n.srcs.length c_t) := (blk_cell BK_gn.out 7).trans rfl
  have hf_gn_7 := blk_frozen BK_gn.out 7
  have hc_gn_8 : w11_.cell? ⟨gn, 8, none⟩ = some (.slice A_u n.recs.length c_u) := (blk_cell BK_gn.out 8).trans rfl
  have hf_gn_8 := blk_frozen BK_gn.out 8
  have nHC := Aside0.mk (Kd.R_below HR_x.out hB)
  clear HR_x
  have HR_x := nHC
  clear nHC
  have nHC := Aside0.mk (Kd.R_below HR_y.out hB)
  clear HR_y
  have HR_y := nHC
  clear nHC
  clear hB hsz
  refine hK.out _ _ ⟨hc_gm_0, hc_gm_1, hc_gm_2, hc_gm_3, hc_gm_4, hc_gm_5, hc_gm_6, hc_gm_7, hc_gm_8, hc_gn_0, hc_gn_1, hc_gn_2, hc_gn_3, hc_gn_4, hc_gn_5, hc_gn_6, hc_gn_7, hc_gn_8⟩ (fun hHeld => ?_)
  clear hK K
  refine norm_ (a' := ?_) ?_ ?_
  rotate_left
  · show Act.put _ (some 41) _ = _
    simp only [Act.put, List.setIfInBounds_toArray, List.set_cons_zero, List.set_cons_succ, i64_w, i32_w]
    rfl
  refine pure_ (i := 12) (N := some 42) (v := ?_) (a' := ?_) #[true, true, true, true, true, true, true, true, true, true, true, true, true, false, false, false, false, false, false, false, false, false, false, false, false, false, false, false] rfl rfl (any_of HT_.out (by kernel_rfl)) (fun _ _ _ h => h) (Or.inl ⟨by rfl, ?_⟩) ?_ ?_
  rotate_left
  · intro w'
    go_simp
    with_reducible rfl
  rotate_left
  · simp only [Act.put, List.setIfInBounds_toArray, List.set_cons_zero, List.set_cons_succ, i64_w, i32_w]
    rfl
  refine pure_ (i := 13) (N := some 43) (v := ?_) (a' := ?_) #[true, true, true, true, true, true, true, true, true, true, true, true, true, true, false, false, false, false, false, false, false, false, false, false, false, false, false, false] rfl rfl (any_of HT_.out (by kernel_rfl)) (fun _ _ _ h => h) (Or.inl ⟨by rfl, ?_⟩) ?_ ?_
  rotate_left
  · intro w'
    go_simp
    with_reducible rfl
  rotate_left
  · simp only [Act.put, List.setIfInBounds_toArray, List.set_cons_zero, List.set_cons_succ, i64_w, i32_w]
    rfl
  refine pure_ (i := 14) (N := some 44) (v := ?_) (a' := ?_) #[true, true, true, true, true, true, true, true, true, true, true, true, true, true, true, false, false, false, false, false, false, false, false, false, false, false, false, false] rfl rfl (any_of HT_.out (by kernel_rfl)) (fun _ _ _ h => h) (Or.inl ⟨by rfl, ?_⟩) ?_ ?_
  rotate_left
  · intro w'
    go_simp
    with_reducible rfl
  rotate_left
  · simp only [Act.put, List.setIfInBounds_toArray, List.set_cons_zero, List.set_cons_succ, i64_w, i32_w]
    rfl
  refine pure_ (i := 15) (N := some 45) (v := ?_) (a' := ?_) #[true, true, true, true, true, true, true, true, true, true, true, true, true, true, true, true, false, false, false, false, false, false, false, false, false, false, false, false] rfl rfl (any_of HT_.out (by kernel_rfl)) (fun _ _ _ h => h) (Or.inl ⟨by rfl, ?_⟩) ?_ ?_
  rotate_left
  · intro w'
    go_simp
    with_reducible rfl
  rotate_left
  · simp only [Act.put, List.setIfInBounds_toArray, List.set_cons_zero, List.set_cons_succ, i64_w, i32_w]
    rfl
  refine pure_ (i := 16) (N := some 46) (v := ?_) (a' := ?_) #[true, true, true, true, true, true, true, true, true, true, true, true, true, true, true, true, true, false, false, false, false, false, false, false, false, false, false, false] rfl rfl (any_of HT_.out (by kernel_rfl)) (fun _ _ _ h => h) (Or.inl ⟨by rfl, ?_⟩) ?_ ?_
  rotate_left
  · intro w'
    go_simp
    with_reducible rfl
  rotate_left
  · simp only [Act.put, List.setIfInBounds_toArray, List.set_cons_zero, List.set_cons_succ, i64_w, i32_w]
    rfl
  refine pure_ (i := 17) (N := some 47) (v := ?_) (a' := ?_) #[true, true, true, true, true, true, true, true, true, true, true, true, true, true, true, true, true, true, false, false, false, false, false, false, false, false, false, false] rfl rfl (any_of HT_.out (by kernel_rfl)) (fun _ _ _ h => h) (Or.inl ⟨by rfl, ?_⟩) ?_ ?_
  rotate_left
  · intro w'
    go_simp
    with_reducible rfl
  rotate_left
  · simp only [Act.put, List.setIfInBounds_toArray, List.set_cons_zero, List.set_cons_succ, i64_w, i32_w]
    rfl
  refine pure_ (i := 18) (N := some 48) (v := ?_) (a' := ?_) #[true, true, true, true, true, true, true, true, true, true, true, true, true, true, true, true, true, true, true, false, false, false, false, false, false, false, false, false] rfl rfl (any_of HT_.out (by kernel_rfl)) (fun _ _ _ h => h) (Or.inl ⟨by rfl, ?_⟩) ?_ ?_
  rotate_left
  · intro w'
    go_simp
    with_reducible rfl
  rotate_left
  · simp only [Act.put, List.setIfInBounds_toArray, List.set_cons_zero, List.set_cons_succ, i64_w, i32_w]
    rfl
  refine take_ (i := 19) (N := some 49) (v := ?_) (a' := ?_) #[true, true, true, true, true, true, true, true, true, true, true, true, true, true, true, true, true, true, true, true, false, false, false, false, false, false, false, false] rfl rfl (take_ofW HT_.out HW_.out (by kernel_rfl)) (fun _ _ _ h => h) (Or.inl ⟨by rfl, ?_⟩) hHeld ?_ ?_
  rotate_left
  · rintro w' ⟨s0, s1, s2, s3, s4, s5, s6, s7, s8, s9, s10, s11, s12, s13, s14, s15, s16, s17⟩
    go_simp
    with_reducible rfl
  rotate_left
  · simp only [Act.put, List.setIfInBounds_toArray, List.set_cons_zero, List.set_cons_succ, i64_w, i32_w]
    rfl
  refine take_ (i := 20) (N := some 50) (v := ?_) (a' := ?_) #[true, true, true, true, true, true, true, true, true, true, true, true, true, true, true, true, true, true, true, true, true, false, false, false, false, false, false, false] rfl rfl (take_ofW HT_.out HW_.out (by kernel_rfl)) (fun _ _ _ h => h) (Or.inl ⟨by rfl, ?_⟩) hHeld ?_ ?_
  rotate_left
  · rintro w' ⟨s0, s1, s2, s3, s4, s5, s6, s7, s8, s9, s10, s11, s12, s13, s14, s15, s16, s17⟩
    go_simp
    with_reducible rfl
  rotate_left
  · simp only [Act.put, List.setIfInBounds_toArray, List.set_cons_zero, List.set_cons_succ, i64_w, i32_w]
    rfl
  refine take_ (i := 22) (N := some 52) (v := ?_) (a' := ?_) #[true, true, true, true, true, true, true, true, true, true, true, true, true, true, true, true, true, true, true, true, true, false, true, false, false, false, false, false] rfl rfl (take_ofW HT_.out HW_.out (by kernel_rfl)) (fun _ _ _ h => h) (Or.inl ⟨by rfl, ?_⟩) hHeld ?_ ?_
  rotate_left
  · rintro w' ⟨s0, s1, s2, s3, s4, s5, s6, s7, s8, s9, s10, s11, s12, s13, s14, s15, s16, s17⟩
    go_simp
    with_reducible rfl
  rotate_left
  · simp only [Act.put, List.setIfInBounds_toArray, List.set_cons_zero, List.set_cons_succ, i64_w, i32_w]
    rfl
  refine take_ (i := 23) (N := some 53) (v := ?_) (a' := ?_) #[true, true, true, true, true, true, true, true, true, true, true, true, true, true, true, true, true, true, true, true, true, false, true, true, false, false, false, false] rfl rfl (take_ofW HT_.out HW_.out (by kernel_rfl)) (fun _ _ _ h => h) (Or.inl ⟨by rfl, ?_⟩) hHeld ?_ ?_
  rotate_left
  · rintro w' ⟨s0, s1, s2, s3, s4, s5, s6, s7, s8, s9, s10, s11, s12, s13, s14, s15, s16, s17⟩
    go_simp
    with_reducible rfl
  rotate_left
  · simp only [Act.put, List.setIfInBounds_toArray, List.set_cons_zero, List.set_cons_succ, i64_w, i32_w]
    rfl
  refine one_ (i := 21) (N := some 51) #[true, true, true, true, true, true, true, true, true, true, true, true, true, true, true, true, true, true, true, true, true, true, true, true, false, false, false, false] rfl rfl (one_of HT_.out (by kernel_rfl)) (by decide) (fun K hK => ?_)
  refine goes_ Try.func18 (by kernel_rfl) rfl #[.agg #[.int .u8 m.k, .int .i64 m.ver, .int .u8 m.code, .int .u32 m.grp, .bool m.quiet, .int .u8 m.rob, .int .u8 m.every, .slice A_s m.srcs.length c_s, .slice A_r m.recs.length c_r], .agg #[.int .u8 n.k, .int .i64 n.ver, .int .u8 n.code, .int .u32 n.grp, .bool n.quiet, .int .u8 n.rob, .int .u8 n.every, .slice A_t n.srcs.length c_t, .slice A_u n.recs.length c_u]] (by rfl) rfl rfl (by (try simp only [List.map_toArray, List.map_cons, List.map_nil]); first | done | rfl | (simp only [List.length_drop, List.length_take]; rfl)) ?_
  with_reducible refine (gsame_w Xhq.out Xhz.out _ _ _ _ _ _ _ _ _ (Kd.C_below HC_s.out HB.out) HK_s.out (Kd.C_below HC_r.out HB.out) HK_r.out (Kd.C_below HC_t.out HB.out) HK_t.out (Kd.C_below HC_u.out HB.out) HK_u.out).mono ?_
  rintro e w12_ ⟨rfl, hB⟩
  refine ⟨_, rfl, ?_⟩
  have hsz := HB.out.size
  have nHB := Aside0.mk (HB.out.trans (hB.mono HB.out.size))
  clear HB
  have HB := nHB
  clear nHB
  clear hc_gm_0 hf_gm_0 hc_gm_1 hf_gm_1 hc_gm_2 hf_gm_2 hc_gm_3 hf_gm_3 hc_gm_4 hf_gm_4 hc_gm_5 hf_gm_5 hc_gm_6 hf_gm_6 hc_gm_7 hf_gm_7 hc_gm_8 hf_gm_8
  have nBK := Aside0.mk (blk_below (g := gm) (o := .cells #[.int .u8 m.k, .int .i64 m.ver, .int .u8 m.code, .int .u32 m.grp, .bool m.quiet, .int .u8 m.rob, .int .u8 m.every, .slice A_s m.srcs.length c_s, .slice A_r m.recs.length c_r] 27 (0, 0)) BK_gm.out hB)
  clear BK_gm
  have BK_gm := nBK
  clear nBK
  have hc_gm_0 : w12_.cell? ⟨gm, 0, none⟩ = some (.int .u8 m.k) := (blk_cell BK_gm.out 0).trans rfl
  have hf_gm_0 := blk_frozen BK_gm.out 0
  have hc_gm_1 : w12_.cell? ⟨gm, 1, none⟩ = some (.int .i64 m.ver) := (blk_cell BK_gm.out 1).trans rfl
  have hf_gm_1 := blk_frozen BK_gm.out 1
  have hc_gm_2 : w12_.cell? ⟨gm, 2, none⟩ = some (.int .u8 m.code) := (blk_cell BK_gm.out 2).trans rfl
  have hf_gm_2 := blk_frozen BK_gm.out 2
  have hc_gm_3 : w12_.cell? ⟨gm, 3, none⟩ = some (.int .u32 m.grp) := (blk_cell BK_gm.out 3).trans rfl
  have hf_gm_3 := blk_frozen BK_gm.out 3
  have hc_gm_4 : w12_.cell? ⟨gm, 4, none⟩ = some (.bool m.quiet) := (blk_cell BK_gm.out 4).trans rfl
  have hf_gm_4 := blk_frozen BK_gm.out 4
  have hc_gm_5 : w12_.cell? ⟨gm, 5, none⟩ = some (.int .u8 m.rob) := (blk_cell BK_gm.out 5).trans rfl
  have hf_gm_5 := blk_frozen BK_gm.out 5
  have hc_gm_6 : w12_.cell? ⟨gm, 6, none⟩ = some (.int .u8 m.every) := (blk_cell BK_gm.out 6).trans rfl
  have hf_gm_6 := blk_frozen BK_gm.out 6
  have hc_gm_7 : w12_.cell? ⟨gm, 7, none⟩ = some (.slice A_s m.srcs.length c_s) := (blk_cell BK_gm.out 7).trans rfl
  have hf_gm_7 := blk_frozen BK_gm.out 7
  have hc_gm_8 : w12_.cell? ⟨gm, 8, none⟩ = some (.slice A_r m.recs.length c_r) := (blk_cell BK_gm.out 8).trans rfl
  have hf_gm_8 := blk_frozen BK_gm.out 8
  clear hc_gn_0 hf_gn_0 hc_gn_1 hf_gn_1 hc_gn_2 hf_gn_2 hc_gn_3 hf_gn_3 hc_gn_4 hf_gn_4 hc_gn_5 hf_gn_5 hc_gn_6 hf_gn_6 hc_gn_7 hf_gn_7 hc_gn_8 hf_gn_8
  have nBK := Aside0.mk (blk_below (g := gn) (o := .cells #[.int .u8 n.k, .int .i64 n.ver, .int .u8 n.code, .int .u32 n.grp, .bool n.quiet, .int .u8 n.rob, .int .u8 n.every, .slice A_t n.srcs.length c_t, .slice A_u n.recs.length c_u] 27 (0, 0)) BK_gn.out hB)
  clear BK_gn
  have BK_gn := nBK
  clear nBK
  have hc_gn_0 : w12_.cell? ⟨gn, 0, none⟩ = some (.int .u8 n.k) := (blk_cell BK_gn.out 0).trans rfl
  have hf_gn_0 := blk_frozen BK_gn.out 0
  have hc_gn_1 : w12_.cell? ⟨gn, 1, none⟩ = some (.int .i64 n.ver) := (blk_cell BK_gn.out 1).trans rfl
  have hf_gn_1 := blk_frozen BK_gn.out 1
  have hc_gn_2 : w12_.cell? ⟨gn, 2, none⟩ = some (.int .u8 n.code) := (blk_cell BK_gn.out 2).trans rfl
  have hf_gn_2 := blk_frozen BK_gn.out 2
  have hc_gn_3 : w12_.cell? ⟨gn, 3, none⟩ = some (.int .u32 n.grp) := (blk_cell BK_gn.out 3).trans rfl
  have hf_gn_3 := blk_frozen BK_gn.out 3
  have hc_gn_4 : w12_.cell? ⟨gn, 4, none⟩ = some (.bool n.quiet) := (blk_cell BK_gn.out 4).trans rfl
  have hf_gn_4 := blk_frozen BK_gn.out 4
  have hc_gn_5 : w12_.cell? ⟨gn, 5, none⟩ = some (.int .u8 n.rob) := (blk_cell BK_gn.out 5).trans rfl
  have hf_gn_5 := blk_frozen BK_gn.out 5
  have hc_gn_6 : w12_.cell? ⟨gn, 6, none⟩ = some (.int .u8 n.every) := (blk_cell BK_gn.out 6).trans rfl
  have hf_gn_6 := blk_frozen BK_gn.out 6
  have hc_gn_7 : w12_.cell? ⟨gn, 7, none⟩ = some (.slice A_t n.srcs.length c_t) := (blk_cell BK_gn.out 7).trans rfl
  have hf_gn_7 := blk_frozen BK_gn.out 7
  have hc_gn_8 : w12_.cell? ⟨gn, 8, none⟩ = some (.slice A_u n.recs.length c_u) := (blk_cell BK_gn.out 8).trans rfl
  have hf_gn_8 := blk_frozen BK_gn.out 8
  have nHC := Aside0.mk (Kd.R_below HR_x.out hB)
  clear HR_x
  have HR_x := nHC
  clear nHC
  have nHC := Aside0.mk (Kd.R_below HR_y.out hB)
  clear HR_y
  have HR_y := nHC
  clear nHC
  clear hB hsz
  refine hK.out _ _ ⟨hc_gm_0, hc_gm_1, hc_gm_2, hc_gm_3, hc_gm_4, hc_gm_5, hc_gm_6, hc_gm_7, hc_gm_8, hc_gn_0, hc_gn_1, hc_gn_2, hc_gn_3, hc_gn_4, hc_gn_5, hc_gn_6, hc_gn_7, hc_gn_8⟩ (fun hHeld => ?_)
  clear hK K
  refine norm_ (a' := ?_) ?_ ?_
  rotate_left
  · show Act.put _ (some 51) _ = _
    simp only [Act.put, List.setIfInBounds_toArray, List.set_cons_zero, List.set_cons_succ, i64_w, i32_w]
    rfl
  refine one_ (i := 24) (N := some 54) #[true, true, true, true, true, true, true, true, true, true, true, true, true, true, true, true, true, true, true, true, true, true, true, true, true, false, false, false] rfl rfl (one_of HT_.out (by kernel_rfl)) (by decide) (fun K hK => ?_)
  refine goes_ Try.func19 (by kernel_rfl) rfl #[.agg #[.int .u8 m.k, .int .i64 m.ver, .int .u8 m.code, .int .u32 m.grp, .bool m.quiet, .int .u8 m.rob, .int .u8 m.every, .slice A_s m.srcs.length c_s, .slice A_r m.recs.length c_r], .agg #[.int .u8 n.k, .int .i64 n.ver, .int .u8 n.code, .int .u32 n.grp, .bool n.quiet, .int .u8 n.rob, .int .u8 n.every, .slice A_t n.srcs.length c_t, .slice A_u n.recs.length c_u]] (by rfl) rfl rfl (by (try simp only [List.map_toArray, List.map_cons, List.map_nil]); first | done | rfl | (simp only [List.length_drop, List.length_take]; rfl)) ?_
  with_reducible refine (rsame_w Xhq.out Xhz.out _ _ _ _ _ _ _ _ _ (Kd.C_below HC_s.out HB.out) HK_s.out (Kd.C_below HC_r.out HB.out) HK_r.out (Kd.C_below HC_t.out HB.out) HK_t.out (Kd.C_below HC_u.out HB.out) HK_u.out).mono ?_
  rintro e w13_ ⟨rfl, hB⟩
  refine ⟨_, rfl, ?_⟩
  have hsz := HB.out.size
  have nHB := Aside0.mk (HB.out.trans (hB.mono HB.out.size))
  clear HB
  have HB := nHB
  clear nHB
  clear hc_gm_0 hf_gm_0 hc_gm_1 hf_gm_1 hc_gm_2 hf_gm_2 hc_gm_3 hf_gm_3 hc_gm_4 hf_gm_4 hc_gm_5 hf_gm_5 hc_gm_6 hf_gm_6 hc_gm_7 hf_gm_7 hc_gm_8 hf_gm_8
  have nBK := Aside0.mk (blk_below (g := gm) (o := .cells #[.int .u8 m.k, .int .i64 m.ver, .int .u8 m.code, .int .u32 m.grp, .bool m.quiet, .int .u8 m.rob, .int .u8 m.every, .slice A_s m.srcs.length c_s, .slice A_r m.recs.length c_r] 27 (0, 0)) BK_gm.out hB)
  clear BK_gm
  have BK_gm := nBK
  clear nBK
  have hc_gm_0 : w13_.cell? ⟨gm, 0, none⟩ = some (.int .u8 m.k) := (blk_cell BK_gm.out 0).trans rfl
  have hf_gm_0 := blk_frozen BK_gm.out 0
  have hc_gm_1 : w13_.cell? ⟨gm, 1, none⟩ = some (.int .i64 m.ver) := (blk_cell BK_gm.out 1).trans rfl
  have hf_gm_1 := blk_frozen BK_gm.out 1
  have hc_gm_2 : w13_.cell? ⟨gm, 2, none⟩ = some (.int .u8 m.code) := (blk_cell BK_gm.out 2).trans rfl
  have hf_gm_2 := blk_frozen BK_gm.out 2
  have hc_gm_3 : w13_.cell? ⟨gm, 3, none⟩ = some (.int .u32 m.grp) := (blk_cell BK_gm.out 3).trans rfl
  have hf_gm_3 := blk_frozen BK_gm.out 3
  have hc_gm_4 : w13_.cell? ⟨gm, 4, none⟩ = some (.bool m.quiet) := (blk_cell BK_gm.out 4).trans rfl
  have hf_gm_4 := blk_frozen BK_gm.out 4
  have hc_gm_5 : w13_.cell? ⟨gm, 5, none⟩ = some (.int .u8 m.rob) := (blk_cell BK_gm.out 5).trans rfl
  have hf_gm_5 := blk_frozen BK_gm.out 5
  have hc_gm_6 : w13_.cell? ⟨gm, 6, none⟩ = some (.int .u8 m.every) := (blk_cell BK_gm.out 6).trans rfl
  have hf_gm_6 := blk_frozen BK_gm.out 6
  have hc_gm_7 : w13_.cell? ⟨gm, 7, none⟩ = some (.slice A_s m.srcs.length c_s) := (blk_cell BK_gm.out 7).trans rfl
  have hf_gm_7 := blk_frozen BK_gm.out 7
  have hc_gm_8 : w13_.cell? ⟨gm, 8, none⟩ = some (.slice A_r m.recs.length c_r) := (blk_cell BK_gm.out 8).trans rfl
  have hf_gm_8 := blk_frozen BK_gm.out 8
  clear hc_gn_0 hf_gn_0 hc_gn_1 hf_gn_1 hc_gn_2 hf_gn_2 hc_gn_3 hf_gn_3 hc_gn_4 hf_gn_4 hc_gn_5 hf_gn_5 hc_gn_6 hf_gn_6 hc_gn_7 hf_gn_7 hc_gn_8 hf_gn_8
  have nBK := Aside0.mk (blk_below (g := gn) (o := .cells #[.int .u8 n.k, .int .i64 n.ver, .int .u8 n.code, .int .u32 n.grp, .bool n.quiet, .int .u8 n.rob, .int .u8 n.every, .slice A_t n.srcs.length c_t, .slice A_u n.recs.length c_u] 27 (0, 0)) BK_gn.out hB)
  clear BK_gn
  have BK_gn := nBK
  clear nBK
  have hc_gn_0 : w13_.cell? ⟨gn, 0, none⟩ = some (.int .u8 n.k) := (blk_cell BK_gn.out 0).trans rfl
  have hf_gn_0 := blk_frozen BK_gn.out 0
  have hc_gn_1 : w13_.cell? ⟨gn, 1, none⟩ = some (.int .i64 n.ver) := (blk_cell BK_gn.out 1).trans rfl
  have hf_gn_1 := blk_frozen BK_gn.out 1
  have hc_gn_2 : w13_.cell? ⟨gn, 2, none⟩ = some (.int .u8 n.code) := (blk_cell BK_gn.out 2).trans rfl
  have hf_gn_2 := blk_frozen BK_gn.out 2
  have hc_gn_3 : w13_.cell? ⟨gn, 3, none⟩ = some (.int .u32 n.grp) := (blk_cell BK_gn.out 3).trans rfl
  have hf_gn_3 := blk_frozen BK_gn.out 3
  have hc_gn_4 : w13_.cell? ⟨gn, 4, none⟩ = some (.bool n.quiet) := (blk_cell BK_gn.out 4).trans rfl
  have hf_gn_4 := blk_frozen BK_gn.out 4
  have hc_gn_5 : w13_.cell? ⟨gn, 5, none⟩ = some (.int .u8 n.rob) := (blk_cell BK_gn.out 5).trans rfl
  have hf_gn_5 := blk_frozen BK_gn.out 5
  have hc_gn_6 : w13_.cell? ⟨gn, 6, none⟩ = some (.int .u8 n.every) := (blk_cell BK_gn.out 6).trans rfl
  have hf_gn_6 := blk_frozen BK_gn.out 6
  have hc_gn_7 : w13_.cell? ⟨gn, 7, none⟩ = some (.slice A_t n.srcs.length c_t) := (blk_cell BK_gn.out 7).trans rfl
  have hf_gn_7 := blk_frozen BK_gn.out 7
  have hc_gn_8 : w13_.cell? ⟨gn, 8, none⟩ = some (.slice A_u n.recs.length c_u) := (blk_cell BK_gn.out 8).trans rfl
  have hf_gn_8 := blk_frozen BK_gn.out 8
  have nHC := Aside0.mk (Kd.R_below HR_x.out hB)
  clear HR_x
  have HR_x := nHC
  clear nHC
  have nHC := Aside0.mk (Kd.R_below HR_y.out hB)
  clear HR_y
  have HR_y := nHC
  clear nHC
  clear hB hsz
  refine hK.out _ _ ⟨hc_gm_0, hc_gm_1, hc_gm_2, hc_gm_3, hc_gm_4, hc_gm_5, hc_gm_6, hc_gm_7, hc_gm_8, hc_gn_0, hc_gn_1, hc_gn_2, hc_gn_3, hc_gn_4, hc_gn_5, hc_gn_6, hc_gn_7, hc_gn_8⟩ (fun hHeld => ?_)
  clear hK K
  refine norm_ (a' := ?_) ?_ ?_
  rotate_left
  · show Act.put _ (some 54) _ = _
    simp only [Act.put, List.setIfInBounds_toArray, List.set_cons_zero, List.set_cons_succ, i64_w, i32_w]
    rfl
  refine pure_ (i := 25) (N := some 55) (v := ?_) (a' := ?_) #[true, true, true, true, true, true, true, true, true, true, true, true, true, true, true, true, true, true, true, true, true, true, true, true, true, true, false, false] rfl rfl (any_of HT_.out (by kernel_rfl)) (fun _ _ _ h => h) (Or.inl ⟨by rfl, ?_⟩) ?_ ?_
  rotate_left
  · intro w'
    go_simp
    with_reducible rfl
  rotate_left
  · simp only [Act.put, List.setIfInBounds_toArray, List.set_cons_zero, List.set_cons_succ, i64_w, i32_w]
    rfl
  refine pure_ (i := 26) (N := some 56) (v := ?_) (a' := ?_) #[true, true, true, true, true, true, true, true, true, true, true, true, true, true, true, true, true, true, true, true, true, true, true, true, true, true, true, false] rfl rfl (any_of HT_.out (by kernel_rfl)) (fun _ _ _ h => h) (Or.inl ⟨by rfl, ?_⟩) ?_ ?_
  rotate_left
  · intro w'
    go_simp
    with_reducible rfl
  rotate_left
  · simp only [Act.put, List.setIfInBounds_toArray, List.set_cons_zero, List.set_cons_succ, i64_w, i32_w]
    rfl
  refine pure_ (i := 27) (N := some 4) (v := ?_) (a' := ?_) #[true, true, true, true, true, true, true, true, true, true, true, true, true, true, true, true, true, true, true, true, true, true, true, true, true, true, true, true] rfl rfl (any_of HT_.out (by kernel_rfl)) (fun _ _ _ h => h) (Or.inl ⟨by rfl, ?_⟩) ?_ ?_
  rotate_left
  · intro w'
    go_simp
    with_reducible rfl
  rotate_left
  · simp only [Act.put, List.setIfInBounds_toArray, List.set_cons_zero, List.set_cons_succ, i64_w, i32_w]
    rfl
  refine done_ (done_of HT_.out (by kernel_rfl)) ?_
  try go_wp2
  go_ret
  exact ⟨by first | rfl | simp, HB.out⟩
theorem igmpWrites_call {m n : Msg} (ho : m.Ok) (l1 : m.srcs.length ≤ 140737488351232) (l2 : m.recs.length ≤ 140737488351232) (l3 : ∀ r ∈ m.recs, r.f2.length ≤ 140737488351232) (nl1 : n.srcs.length ≤ 140737488351232) (nl2 : n.recs.length ≤ 140737488351232) (nl3 : ∀ r ∈ n.recs, r.f2.length ≤ 140737488351232) (A_s : Option Addr) (c_s : Nat) (A_r : Option Addr) (c_r : Nat) (w : World) (hss : Kd.C (Kd.int .u32) w A_s m.srcs.length m.srcs) (hscs : m.srcs.length ≤ c_s) (hrr : Kd.C k44 w A_r m.recs.length m.recs) (hrcr : m.recs.length ≤ c_r) (A_t : Option Addr) (c_t : Nat) (A_u : Option Addr) (c_u : Nat) (hst : Kd.C (Kd.int .u32) w A_t n.srcs.length n.srcs) (hsct : n.srcs.length ≤ c_t) (hru : Kd.C k44 w A_u n.recs.length n.recs) (hrcu : n.recs.length ≤ c_u) : Calls Try.prog 3 #[.agg #[.int .u8 m.k, .int .i64 m.ver, .int .u8 m.code, .int .u32 m.grp, .bool m.quiet, .int .u8 m.rob, .int .u8 m.every, .slice A_s m.srcs.length c_s, .slice A_r m.recs.length c_r], .agg #[.int .u8 n.k, .int .i64 n.ver, .int .u8 n.code, .int .u32 n.grp, .bool n.quiet, .int .u8 n.rob, .int .u8 n.every, .slice A_t n.srcs.length c_t, .slice A_u n.recs.length c_u]] w fun e w' => e = .returned (.bool true) ∧ Below w.heap.size w w' := by
  cases hf : fewB m
  · exact writes_few1 hf l1 l2 l3 nl1 nl2 nl3 A_s c_s A_r c_r w hss hscs hrr hrcr A_t c_t A_u c_u hst hsct hru hrcu
  cases hg : fewB n
  · exact writes_few2 hf hg l1 l2 l3 nl1 nl2 nl3 A_s c_s A_r c_r w hss hscs hrr hrcr A_t c_t A_u c_u hst hsct hru hrcu
  have hz := few_size hf
  have hrl : m.recs.length ≤ 1000000 := by unfold Msg.size recK at hz; omega
  cases hb : rightB m
  · exact writes_no hf hg hb (by omega) hrl ho rfl l1 l2 l3 nl1 nl2 nl3 A_s c_s A_r c_r w hss hscs hrr hrcr A_t c_t A_u c_u hst hsct hru hrcu
  have hv := right_view hb
  have h2 : (enc m).length ≤ 10000 := by rw [enc_len]; exact mb_max hv
  exact writes_ok hf hg hb (by omega) hrl ho rfl rfl (by omega) l1 l2 l3 nl1 nl2 nl3 A_s c_s A_r c_r w hss hscs hrr hrcr A_t c_t A_u c_u hst hsct hru hrcu
end Go.Proofs.Ytmmjmncchckbbaa
