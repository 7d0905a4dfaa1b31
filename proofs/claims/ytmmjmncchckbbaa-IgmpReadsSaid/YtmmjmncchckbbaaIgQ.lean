/-
  The reader of messages: plain, query.
-/
import Derived.Test.YtmmjmncchckbbaaIgS
namespace Go.Proofs.Ytmmjmncchckbbaa
open Go.RowKit Go.Proofs.YtmmjmncchckbbaaW.PrintWords Go.Proofs.YtmmjmncchckbbaaW.PrintLast Go.Proofs.YtmmjmncchckbbaaW.PrintMore Go.Proofs.Ytmmjmncchckbbaa.PIg
set_option linter.unusedVariables false
set_option linter.unusedSimpArgs false
set_option maxHeartbeats 8000000 in
set_option maxRecDepth 100000 in
theorem plain_w {w0 w : World} {g : Nat} {A : Option Addr} {c : Nat} {bs : List Int} {k ver code grp rob every : Int} {quiet : Bool} {vS vR : Value} {sh : Bool} (hB : Below w0.heap.size w0 w) (hg : w0.heap.size ≤ g) (h : w.heap[g]? = some (.cells #[.slice A bs.length c, .int .u8 k, .int .i64 ver, .int .u8 code, .int .u32 grp, .bool quiet, .int .u8 rob, .int .u8 every, vS, vR, .bool sh] 66 (0, 0))) (hC : Kd.C (Kd.int .u8) w0 A bs.length bs) (hc : bs.length ≤ c) (hby : Byt bs) :
    Calls Try.prog 42 #[.pointer (some ⟨g, 0, none⟩)] w fun e w' => ∃ A2 c2, e = .returned (.tuple #[]) ∧ w'.heap[g]? = some (.cells #[.slice A2 (tkb 4 bs sh).length c2, .int .u8 k, .int .i64 ver, .int .u8 code, .int .u32 (av (tkx 4 bs sh)), .bool quiet, .int .u8 rob, .int .u8 every, vS, vR, .bool (tks 4 bs sh)] 66 (0, 0)) ∧ Kd.C (Kd.int .u8) w0 A2 (tkb 4 bs sh).length (tkb 4 bs sh) ∧ (tkb 4 bs sh).length ≤ c2 ∧ RM w w' g := by
  have HB := Aside0.mk hB
  have HG := Aside0.mk hg
  have BK := Aside0.mk h
  have HC := Aside0.mk hC
  have HK := Aside0.mk hc
  clear hB hg h hC hc
  have HBY := Aside0.mk hby
  clear hby
  go_enter Try.func42, Try.ntmps42
  go_wp2_with (first | (go_at_call 58; with_reducible refine (addr_w HB.out HG.out BK.out HC.out HK.out HBY.out).mono ?_; rintro e w1 ⟨A2, c2, rfl, hbx, hC2, hK2, hR⟩; clear BK; have BK := Aside0.mk hbx; have HC2 := Aside0.mk hC2; have HK2 := Aside0.mk hK2; have HR := Aside0.mk hR; clear hbx hC2 hK2 hR; have hc_4 : w1.cell? ⟨g, 4, none⟩ = some (.int .u32 grp) := (blk_cell BK.out 4).trans rfl; have hf_4 := blk_frozen BK.out 4))
  go_end0
  exact ⟨A2, c2, rfl, blk_put (cs := #[.slice A2 (tkb 4 bs sh).length c2, .int .u8 k, .int .i64 ver, .int .u8 code, .int .u32 grp, .bool quiet, .int .u8 rob, .int .u8 every, vS, vR, .bool (tks 4 bs sh)]) BK.out 4 _ rfl, HC2.out, HK2.out, HR.out.set 4 _⟩
set_option maxHeartbeats 8000000 in
set_option maxRecDepth 100000 in
theorem query_s1 {w0 w : World} {g : Nat} {A : Option Addr} {c : Nat} {bs : List Int} {k ver code grp rob every : Int} {quiet : Bool} {vS vR : Value} {sh : Bool} (hB : Below w0.heap.size w0 w) (hg : w0.heap.size ≤ g) (h : w.heap[g]? = some (.cells #[.slice A bs.length c, .int .u8 k, .int .i64 ver, .int .u8 code, .int .u32 grp, .bool quiet, .int .u8 rob, .int .u8 every, vS, vR, .bool sh] 66 (0, 0))) (hC : Kd.C (Kd.int .u8) w0 A bs.length bs) (hc : bs.length ≤ c) (hby : Byt bs) (hz : (code == 0) = true) (hn : ¬ 4 < bs.length) :
    Calls Try.prog 41 #[.pointer (some ⟨g, 0, none⟩)] w fun e w' => ∃ A2 c2, e = .returned (.tuple #[]) ∧ w'.heap[g]? = some (.cells #[.slice A2 (tkb 4 bs sh).length c2, .int .u8 k, .int .i64 1, .int .u8 code, .int .u32 0, .bool quiet, .int .u8 rob, .int .u8 every, vS, vR, .bool (tks 4 bs sh)] 66 (0, 0)) ∧ Kd.C (Kd.int .u8) w0 A2 (tkb 4 bs sh).length (tkb 4 bs sh) ∧ (tkb 4 bs sh).length ≤ c2 ∧ RM w w' g := by
  have HB := Aside0.mk hB
  have HG := Aside0.mk hg
  have BK := Aside0.mk h
  have HC := Aside0.mk hC
  have HK := Aside0.mk hc
  clear hB hg h hC hc
  have HBY := Aside0.mk hby
  clear hby
  have hn1 : decide ((4 : Int) < (bs.length : Int)) = false := decide_eq_false (by omega)
  have hc_0 : w.cell? ⟨g, 0, none⟩ = some (.slice A bs.length c) := (blk_cell BK.out 0).trans rfl
  have hf_0 := blk_frozen BK.out 0
  have hc_2 : w.cell? ⟨g, 2, none⟩ = some (.int .i64 ver) := (blk_cell BK.out 2).trans rfl
  have hf_2 := blk_frozen BK.out 2
  have hc_3 : w.cell? ⟨g, 3, none⟩ = some (.int .u8 code) := (blk_cell BK.out 3).trans rfl
  have hf_3 := blk_frozen BK.out 3
  go_enter Try.func41, Try.ntmps41
  go_upto_region 3 with fail
  have hBK : ((w.setCell ⟨g, 2, none⟩ (.int .i64 2)).setCell ⟨g, 2, none⟩ (.int .i64 1)).heap[g]? = some (.cells #[.slice A bs.length c, .int .u8 k, .int .i64 1, .int .u8 code, .int .u32 grp, .bool quiet, .int .u8 rob, .int .u8 every, vS, vR, .bool sh] 66 (0, 0)) := (blk_put (cs := #[.slice A bs.length c, .int .u8 k, .int .i64 2, .int .u8 code, .int .u32 grp, .bool quiet, .int .u8 rob, .int .u8 every, vS, vR, .bool sh]) (blk_put (cs := #[.slice A bs.length c, .int .u8 k, .int .i64 ver, .int .u8 code, .int .u32 grp, .bool quiet, .int .u8 rob, .int .u8 every, vS, vR, .bool sh]) BK.out 2 (.int .i64 2) rfl) 2 (.int .i64 1) rfl)
  have hR : RM w ((w.setCell ⟨g, 2, none⟩ (.int .i64 2)).setCell ⟨g, 2, none⟩ (.int .i64 1)) g := (((RM.of_below (g := g) (Below.refl w.heap.size w)).set 2 (.int .i64 2)).set 2 (.int .i64 1))
  clear hc_0 hf_0 hc_2 hf_2 hc_3 hf_3
  clear BK
  generalize ((w.setCell ⟨g, 2, none⟩ (.int .i64 2)).setCell ⟨g, 2, none⟩ (.int .i64 1)) = ws at hBK hR ⊢
  have BK := Aside0.mk hBK
  have HR0 := Aside0.mk hR
  have HB0 := Aside0.mk (hR.below HB.out HG.out)
  clear hBK hR
  have hc_0 : ws.cell? ⟨g, 0, none⟩ = some (.slice A bs.length c) := (blk_cell BK.out 0).trans rfl
  have hf_0 := blk_frozen BK.out 0
  have hc_2 : ws.cell? ⟨g, 2, none⟩ = some (.int .i64 1) := (blk_cell BK.out 2).trans rfl
  have hf_2 := blk_frozen BK.out 2
  go_wp2_with (first | (go_at_call 42; with_reducible refine (plain_w HB0.out HG.out BK.out HC.out HK.out HBY.out).mono ?_; rintro e w1 ⟨A1, c1, rfl, hbx, hC2, hK2, hR⟩; clear BK; have BK := Aside0.mk hbx; have HC2 := Aside0.mk hC2; have HK2 := Aside0.mk hK2; have HR := Aside0.mk (HR0.out.trans hR); clear hbx hC2 hK2 hR HR0; clear hc_0 hf_0 hc_2 hf_2; have hc_2 : w1.cell? ⟨g, 2, none⟩ = some (.int .i64 1) := (blk_cell BK.out 2).trans rfl; have hf_2 := blk_frozen BK.out 2; have hc_4 : w1.cell? ⟨g, 4, none⟩ = some (.int .u32 (av (tkx 4 bs sh))) := (blk_cell BK.out 4).trans rfl; have hf_4 := blk_frozen BK.out 4))
  try simp only [Exit.inBlock, Exit.then]
  refine bodyPost_ret (results_none rfl _ _ _) rfl ?_
  exact ⟨A1, c1, rfl, blk_put (cs := #[.slice A1 (tkb 4 bs sh).length c1, .int .u8 k, .int .i64 1, .int .u8 code, .int .u32 (av (tkx 4 bs sh)), .bool quiet, .int .u8 rob, .int .u8 every, vS, vR, .bool (tks 4 bs sh)]) BK.out 4 _ rfl, HC2.out, HK2.out, HR.out.set 4 _⟩
set_option maxHeartbeats 8000000 in
set_option maxRecDepth 100000 in
theorem query_s0 {w0 w : World} {g : Nat} {A : Option Addr} {c : Nat} {bs : List Int} {k ver code grp rob every : Int} {quiet : Bool} {vS vR : Value} {sh : Bool} (hB : Below w0.heap.size w0 w) (hg : w0.heap.size ≤ g) (h : w.heap[g]? = some (.cells #[.slice A bs.length c, .int .u8 k, .int .i64 ver, .int .u8 code, .int .u32 grp, .bool quiet, .int .u8 rob, .int .u8 every, vS, vR, .bool sh] 66 (0, 0))) (hC : Kd.C (Kd.int .u8) w0 A bs.length bs) (hc : bs.length ≤ c) (hby : Byt bs) (hz : (code == 0) = false) (hn : ¬ 4 < bs.length) :
    Calls Try.prog 41 #[.pointer (some ⟨g, 0, none⟩)] w fun e w' => ∃ A2 c2, e = .returned (.tuple #[]) ∧ w'.heap[g]? = some (.cells #[.slice A2 (tkb 4 bs sh).length c2, .int .u8 k, .int .i64 2, .int .u8 code, .int .u32 (av (tkx 4 bs sh)), .bool quiet, .int .u8 rob, .int .u8 every, vS, vR, .bool (tks 4 bs sh)] 66 (0, 0)) ∧ Kd.C (Kd.int .u8) w0 A2 (tkb 4 bs sh).length (tkb 4 bs sh) ∧ (tkb 4 bs sh).length ≤ c2 ∧ RM w w' g := by
  have HB := Aside0.mk hB
  have HG := Aside0.mk hg
  have BK := Aside0.mk h
  have HC := Aside0.mk hC
  have HK := Aside0.mk hc
  clear hB hg h hC hc
  have HBY := Aside0.mk hby
  clear hby
  have hn1 : decide ((4 : Int) < (bs.length : Int)) = false := decide_eq_false (by omega)
  have hc_0 : w.cell? ⟨g, 0, none⟩ = some (.slice A bs.length c) := (blk_cell BK.out 0).trans rfl
  have hf_0 := blk_frozen BK.out 0
  have hc_2 : w.cell? ⟨g, 2, none⟩ = some (.int .i64 ver) := (blk_cell BK.out 2).trans rfl
  have hf_2 := blk_frozen BK.out 2
  have hc_3 : w.cell? ⟨g, 3, none⟩ = some (.int .u8 code) := (blk_cell BK.out 3).trans rfl
  have hf_3 := blk_frozen BK.out 3
  go_enter Try.func41, Try.ntmps41
  go_upto_region 3 with fail
  have hBK : (w.setCell ⟨g, 2, none⟩ (.int .i64 2)).heap[g]? = some (.cells #[.slice A bs.length c, .int .u8 k, .int .i64 2, .int .u8 code, .int .u32 grp, .bool quiet, .int .u8 rob, .int .u8 every, vS, vR, .bool sh] 66 (0, 0)) := (blk_put (cs := #[.slice A bs.length c, .int .u8 k, .int .i64 ver, .int .u8 code, .int .u32 grp, .bool quiet, .int .u8 rob, .int .u8 every, vS, vR, .bool sh]) BK.out 2 (.int .i64 2) rfl)
  have hR : RM w (w.setCell ⟨g, 2, none⟩ (.int .i64 2)) g := ((RM.of_below (g := g) (Below.refl w.heap.size w)).set 2 (.int .i64 2))
  clear hc_0 hf_0 hc_2 hf_2 hc_3 hf_3
  clear BK
  generalize (w.setCell ⟨g, 2, none⟩ (.int .i64 2)) = ws at hBK hR ⊢
  have BK := Aside0.mk hBK
  have HR0 := Aside0.mk hR
  have HB0 := Aside0.mk (hR.below HB.out HG.out)
  clear hBK hR
  have hc_0 : ws.cell? ⟨g, 0, none⟩ = some (.slice A bs.length c) := (blk_cell BK.out 0).trans rfl
  have hf_0 := blk_frozen BK.out 0
  have hc_2 : ws.cell? ⟨g, 2, none⟩ = some (.int .i64 2) := (blk_cell BK.out 2).trans rfl
  have hf_2 := blk_frozen BK.out 2
  go_wp2_with (first | (go_at_call 42; with_reducible refine (plain_w HB0.out HG.out BK.out HC.out HK.out HBY.out).mono ?_; rintro e w1 ⟨A1, c1, rfl, hbx, hC2, hK2, hR⟩; clear BK; have BK := Aside0.mk hbx; have HC2 := Aside0.mk hC2; have HK2 := Aside0.mk hK2; have HR := Aside0.mk (HR0.out.trans hR); clear hbx hC2 hK2 hR HR0; clear hc_0 hf_0 hc_2 hf_2; have hc_2 : w1.cell? ⟨g, 2, none⟩ = some (.int .i64 2) := (blk_cell BK.out 2).trans rfl; have hf_2 := blk_frozen BK.out 2; have hc_4 : w1.cell? ⟨g, 4, none⟩ = some (.int .u32 (av (tkx 4 bs sh))) := (blk_cell BK.out 4).trans rfl; have hf_4 := blk_frozen BK.out 4))
  try simp only [Exit.inBlock, Exit.then]
  refine bodyPost_ret (results_none rfl _ _ _) rfl ?_
  exact ⟨A1, c1, rfl, BK.out, HC2.out, HK2.out, HR.out⟩
def query_T : Bool × List (List Nat × List Nat) := (true, [([], []), ([], []), ([], []), ([], []), ([3], [3]), ([4], [4]), ([5], [5]), ([], []), ([7], [7]), ([8], [8]), ([9], [9]), ([10], [10]), ([], []), ([12], [12]), ([13], [13]), ([0, 0, 3, 4, 5, 6, 9, 14], [0]), ([15, 0, 3, 4, 5, 6, 9, 14], [15]), ([16, 0, 3, 4, 5, 6, 9, 14], [16]), ([17, 6, 0, 3, 4, 5, 6, 9, 14], [6, 17]), ([1, 0, 1, 3, 4, 5, 6, 7, 8, 9, 10, 11, 14, 15, 16, 17, 18], [1]), ([19, 0, 1, 3, 4, 5, 6, 7, 8, 9, 10, 11, 14, 15, 16, 17, 18], [19]), ([20, 0, 1, 3, 4, 5, 6, 7, 8, 9, 10, 11, 14, 15, 16, 17, 18], [20]), ([21, 11, 18, 0, 1, 3, 4, 5, 6, 7, 8, 9, 10, 11, 14, 15, 16, 17, 18], [11, 21]), ([2, 0, 1, 2, 3, 4, 5, 6, 7, 8, 9, 10, 11, 12, 13, 14, 15, 16, 17, 18, 19, 20, 21, 22], [2]), ([23, 0, 1, 2, 3, 4, 5, 6, 7, 8, 9, 10, 11, 12, 13, 14, 15, 16, 17, 18, 19, 20, 21, 22], [23]), ([24, 0, 1, 2, 3, 4, 5, 6, 7, 8, 9, 10, 11, 12, 13, 14, 15, 16, 17, 18, 19, 20, 21, 22], [24]), ([25, 14, 22, 0, 1, 2, 3, 4, 5, 6, 7, 8, 9, 10, 11, 12, 13, 14, 15, 16, 17, 18, 19, 20, 21, 22], [14, 25])])
def query_B : List Nat := [0, 0, 0, 0, 8, 24, 56, 0, 128, 384, 896, 1920, 0, 4096, 12288, 29689, 62457, 127993, 259065, 524283, 1048571, 2097147, 4194299, 8388607, 16777215, 33554431, 67108863]
theorem query_t : rtab .any (opsOf Try.f41 10) = query_T := by kernel_rfl
theorem query_b : waitsOk query_T.2 query_B = true := by kernel_rfl
/-- The flags' byte and the time's, what stays behind them, how many sources, they and what stays. -/
def qx (bs : List Int) (sh : Bool) : List Int := tkx 2 (tkb 4 bs sh) (tks 4 bs sh)
def qb (bs : List Int) (sh : Bool) : List Int := tkb 2 (tkb 4 bs sh) (tks 4 bs sh)
def qs (bs : List Int) (sh : Bool) : Bool := tks 2 (tkb 4 bs sh) (tks 4 bs sh)
def qn (bs : List Int) (sh : Bool) : Nat := (be2 (tkx 2 (qb bs sh) (qs bs sh))).toNat
def qa (bs : List Int) (sh : Bool) : List Int × List Int × Bool := ads (qn bs sh) (tkb 2 (qb bs sh) (qs bs sh)) (tks 2 (qb bs sh) (qs bs sh))
theorem be2_nat {x : List Int} (h : Byt x) : be2 x = ((be2 x).toNat : Int) ∧ (be2 x).toNat ≤ 65535 := by
  have h0 := h.rd 0; have h1 := h.rd 1
  unfold be2; omega
theorem take_q {w0 w : World} {g : Nat} {A : Option Addr} {c : Nat} {bs : List Int} {k ver code grp rob every : Int} {quiet : Bool} {vS vR : Value} {sh : Bool} (hB : Below w0.heap.size w0 w) (hg : w0.heap.size ≤ g) (h : w.heap[g]? = some (.cells #[.slice A (tkb 4 bs sh).length c, .int .u8 k, .int .i64 ver, .int .u8 code, .int .u32 grp, .bool quiet, .int .u8 rob, .int .u8 every, vS, vR, .bool (tks 4 bs sh)] 66 (0, 0))) (hC : Kd.C (Kd.int .u8) w0 A (tkb 4 bs sh).length (tkb 4 bs sh)) (hc : (tkb 4 bs sh).length ≤ c) :
    Calls Try.prog 55 #[.pointer (some ⟨g, 0, none⟩), .int .i64 2] w fun e w' => ∃ A1 c1 A2 c2, e = .returned (.slice A1 (qx bs sh).length c1) ∧ Kd.V (Kd.int .u8) 5 w' 0 (fun k => k ≠ g) (.slice A1 (qx bs sh).length c1) (qx bs sh) ∧ w'.heap[g]? = some (.cells #[.slice A2 (qb bs sh).length c2, .int .u8 k, .int .i64 ver, .int .u8 code, .int .u32 grp, .bool quiet, .int .u8 rob, .int .u8 every, vS, vR, .bool (qs bs sh)] 66 (0, 0)) ∧ Kd.C (Kd.int .u8) w0 A2 (qb bs sh).length (qb bs sh) ∧ (qb bs sh).length ≤ c2 ∧ RM w w' g := take_2 hB hg h hC hc
theorem two_q {w0 w : World} {g : Nat} {A : Option Addr} {c : Nat} {bs : List Int} {k ver code grp rob every : Int} {quiet : Bool} {vS vR : Value} {sh : Bool} (hB : Below w0.heap.size w0 w) (hg : w0.heap.size ≤ g) (h : w.heap[g]? = some (.cells #[.slice A (qb bs sh).length c, .int .u8 k, .int .i64 ver, .int .u8 code, .int .u32 grp, .bool quiet, .int .u8 rob, .int .u8 every, vS, vR, .bool (qs bs sh)] 66 (0, 0))) (hC : Kd.C (Kd.int .u8) w0 A (qb bs sh).length (qb bs sh)) (hc : (qb bs sh).length ≤ c) (hby : Byt (qb bs sh)) :
    Calls Try.prog 57 #[.pointer (some ⟨g, 0, none⟩)] w fun e w' => ∃ A2 c2, e = .returned (.int .i64 (qn bs sh : Nat)) ∧ w'.heap[g]? = some (.cells #[.slice A2 (tkb 2 (qb bs sh) (qs bs sh)).length c2, .int .u8 k, .int .i64 ver, .int .u8 code, .int .u32 grp, .bool quiet, .int .u8 rob, .int .u8 every, vS, vR, .bool (tks 2 (qb bs sh) (qs bs sh))] 66 (0, 0)) ∧ Kd.C (Kd.int .u8) w0 A2 (tkb 2 (qb bs sh) (qs bs sh)).length (tkb 2 (qb bs sh) (qs bs sh)) ∧ (tkb 2 (qb bs sh) (qs bs sh)).length ≤ c2 ∧ RM w w' g := by
  have h := two_w hB hg h hC hc hby
  rw [(be2_nat (tkx_byt (m := 2) (sh := qs bs sh) hby)).1] at h
  exact h
theorem addrs_q {w0 w : World} {g : Nat} {A : Option Addr} {c : Nat} {bs : List Int} {k ver code grp rob every : Int} {quiet : Bool} {vS vR : Value} {sh : Bool} (hB : Below w0.heap.size w0 w) (hg : w0.heap.size ≤ g) (h : w.heap[g]? = some (.cells #[.slice A (tkb 2 (qb bs sh) (qs bs sh)).length c, .int .u8 k, .int .i64 ver, .int .u8 code, .int .u32 grp, .bool quiet, .int .u8 rob, .int .u8 every, vS, vR, .bool (tks 2 (qb bs sh) (qs bs sh))] 66 (0, 0))) (hC : Kd.C (Kd.int .u8) w0 A (tkb 2 (qb bs sh) (qs bs sh)).length (tkb 2 (qb bs sh) (qs bs sh))) (hc : (tkb 2 (qb bs sh) (qs bs sh)).length ≤ c) (hby : Byt (tkb 2 (qb bs sh) (qs bs sh))) (hn : qn bs sh ≤ 100000) :
    Calls Try.prog 56 #[.pointer (some ⟨g, 0, none⟩), .int .i64 (qn bs sh : Nat)] w fun e w' => ∃ v A2 c2, e = .returned v ∧ Kd.R (Kd.int .u32) 23 w' w.heap.size (fun k => k ≠ g) v (qa bs sh).1 ∧ w'.heap[g]? = some (.cells #[.slice A2 (qa bs sh).2.1.length c2, .int .u8 k, .int .i64 ver, .int .u8 code, .int .u32 grp, .bool quiet, .int .u8 rob, .int .u8 every, vS, vR, .bool (qa bs sh).2.2] 66 (0, 0)) ∧ Kd.C (Kd.int .u8) w0 A2 (qa bs sh).2.1.length (qa bs sh).2.1 ∧ (qa bs sh).2.1.length ≤ c2 ∧ RM w w' g := addrs_r hB hg h hC hc hby _ hn
set_option maxHeartbeats 8000000 in
set_option maxRecDepth 100000 in
theorem query_l1 {w0 w : World} {g : Nat} {A : Option Addr} {c : Nat} {bs : List Int} {k ver code grp rob every : Int} {quiet : Bool} {vS vR : Value} {sh : Bool} (hB : Below w0.heap.size w0 w) (hg : w0.heap.size ≤ g) (h : w.heap[g]? = some (.cells #[.slice A bs.length c, .int .u8 k, .int .i64 ver, .int .u8 code, .int .u32 grp, .bool quiet, .int .u8 rob, .int .u8 every, vS, vR, .bool sh] 66 (0, 0))) (hC : Kd.C (Kd.int .u8) w0 A bs.length bs) (hc : bs.length ≤ c) (hby : Byt bs) (hz : (code == 0) = true) (hn : 4 < bs.length) :
    Calls Try.prog 41 #[.pointer (some ⟨g, 0, none⟩)] w fun e w' => ∃ v A2 c2, e = .returned (.tuple #[]) ∧ Kd.R (Kd.int .u32) 23 w' w.heap.size (fun k => k ≠ g) v (qa bs sh).1 ∧ w'.heap[g]? = some (.cells #[.slice A2 (qa bs sh).2.1.length c2, .int .u8 k, .int .i64 3, .int .u8 code, .int .u32 (av (tkx 4 bs sh)), .bool (Go.bits .and .u8 (rd (qx bs sh) 0) 8 != 0), .int .u8 (Go.bits .and .u8 (rd (qx bs sh) 0) 7), .int .u8 (rd (qx bs sh) 1), v, vR, .bool (qa bs sh).2.2] 66 (0, 0)) ∧ Kd.C (Kd.int .u8) w0 A2 (qa bs sh).2.1.length (qa bs sh).2.1 ∧ (qa bs sh).2.1.length ≤ c2 ∧ RM w w' g := by
  have HB := Aside0.mk hB
  have HG := Aside0.mk hg
  have BK := Aside0.mk h
  have HC := Aside0.mk hC
  have HK := Aside0.mk hc
  clear hB hg h hC hc
  have HBY := Aside0.mk hby
  clear hby
  have hn1 : decide ((4 : Int) < (bs.length : Int)) = true := decide_eq_true (by omega)
  have HB1B := Aside0.mk (tkb_byt (m := 4) (sh := sh) HBY.out)
  have HQB := Aside0.mk (show Byt (qb bs sh) from tkb_byt HB1B.out)
  have HQB2 := Aside0.mk (show Byt (tkb 2 (qb bs sh) (qs bs sh)) from tkb_byt HQB.out)
  have HN := Aside0.mk (show qn bs sh ≤ 100000 from Nat.le_trans (be2_nat (tkx_byt (m := 2) (sh := qs bs sh) HQB.out)).2 (by decide))
  have HXL := Aside0.mk (show (qx bs sh).length = 2 from tkx_len 2 _ _)
  have HXB := Aside0.mk (show Byt (qx bs sh) from tkx_byt HB1B.out)
  have hc_0 : w.cell? ⟨g, 0, none⟩ = some (.slice A bs.length c) := (blk_cell BK.out 0).trans rfl
  have hf_0 := blk_frozen BK.out 0
  have hc_2 : w.cell? ⟨g, 2, none⟩ = some (.int .i64 ver) := (blk_cell BK.out 2).trans rfl
  have hf_2 := blk_frozen BK.out 2
  have hc_3 : w.cell? ⟨g, 3, none⟩ = some (.int .u8 code) := (blk_cell BK.out 3).trans rfl
  have hf_3 := blk_frozen BK.out 3
  go_enter Try.func41, Try.ntmps41
  go_upto_region 3 with fail
  have hBK : ((w.setCell ⟨g, 2, none⟩ (.int .i64 2)).setCell ⟨g, 2, none⟩ (.int .i64 1)).heap[g]? = some (.cells #[.slice A bs.length c, .int .u8 k, .int .i64 1, .int .u8 code, .int .u32 grp, .bool quiet, .int .u8 rob, .int .u8 every, vS, vR, .bool sh] 66 (0, 0)) := (blk_put (cs := #[.slice A bs.length c, .int .u8 k, .int .i64 2, .int .u8 code, .int .u32 grp, .bool quiet, .int .u8 rob, .int .u8 every, vS, vR, .bool sh]) (blk_put (cs := #[.slice A bs.length c, .int .u8 k, .int .i64 ver, .int .u8 code, .int .u32 grp, .bool quiet, .int .u8 rob, .int .u8 every, vS, vR, .bool sh]) BK.out 2 (.int .i64 2) rfl) 2 (.int .i64 1) rfl)
  have hR : RM w ((w.setCell ⟨g, 2, none⟩ (.int .i64 2)).setCell ⟨g, 2, none⟩ (.int .i64 1)) g := (((RM.of_below (g := g) (Below.refl w.heap.size w)).set 2 (.int .i64 2)).set 2 (.int .i64 1))
  clear hc_0 hf_0 hc_2 hf_2 hc_3 hf_3
  clear BK
  generalize ((w.setCell ⟨g, 2, none⟩ (.int .i64 2)).setCell ⟨g, 2, none⟩ (.int .i64 1)) = ws at hBK hR ⊢
  have BK := Aside0.mk hBK
  have HR0 := Aside0.mk hR
  have HB0 := Aside0.mk (hR.below HB.out HG.out)
  clear hBK hR
  have hc_0 : ws.cell? ⟨g, 0, none⟩ = some (.slice A bs.length c) := (blk_cell BK.out 0).trans rfl
  have hf_0 := blk_frozen BK.out 0
  have hc_2 : ws.cell? ⟨g, 2, none⟩ = some (.int .i64 1) := (blk_cell BK.out 2).trans rfl
  have hf_2 := blk_frozen BK.out 2
  go_upto_region 9 with (first | (go_at_call 42; with_reducible refine (plain_w HB0.out HG.out BK.out HC.out HK.out HBY.out).mono ?_; rintro e w1 ⟨A1, c1, rfl, hbx, hC2, hK2, hR⟩; clear BK; have BK := Aside0.mk hbx; have HC2 := Aside0.mk hC2; have HK2 := Aside0.mk hK2; have HR := Aside0.mk (HR0.out.trans hR); clear hbx hC2 hK2 hR HR0; clear hc_0 hf_0 hc_2 hf_2; have hc_2 : w1.cell? ⟨g, 2, none⟩ = some (.int .i64 1) := (blk_cell BK.out 2).trans rfl; have hf_2 := blk_frozen BK.out 2))
  have hBK : (w1.setCell ⟨g, 2, none⟩ (.int .i64 3)).heap[g]? = some (.cells #[.slice A1 (tkb 4 bs sh).length c1, .int .u8 k, .int .i64 3, .int .u8 code, .int .u32 (av (tkx 4 bs sh)), .bool quiet, .int .u8 rob, .int .u8 every, vS, vR, .bool (tks 4 bs sh)] 66 (0, 0)) := blk_put (cs := #[.slice A1 (tkb 4 bs sh).length c1, .int .u8 k, .int .i64 1, .int .u8 code, .int .u32 (av (tkx 4 bs sh)), .bool quiet, .int .u8 rob, .int .u8 every, vS, vR, .bool (tks 4 bs sh)]) BK.out 2 (.int .i64 3) rfl
  have hR := HR.out.set 2 (.int .i64 3)
  clear BK HR
  clear hc_2 hf_2
  generalize (w1.setCell ⟨g, 2, none⟩ (.int .i64 3)) = w2 at hBK hR ⊢
  have BK := Aside0.mk hBK
  have HR := Aside0.mk hR
  have HB2 := Aside0.mk (hR.below HB.out HG.out)
  clear hBK hR
  go_upto_region 10 with (first | (go_at_call 55; with_reducible refine (take_q HB2.out HG.out BK.out HC2.out HK2.out).mono ?_; rintro e w3 ⟨Ax, cx, A3, c3, rfl, hV, hbx, hC3, hK3, hR⟩; clear BK; have HV := Aside0.mk hV; have BK := Aside0.mk hbx; have HC3 := Aside0.mk hC3; have HK3 := Aside0.mk hK3; have HR := Aside0.mk (HR.out.trans hR); clear hV hbx hC3 hK3 hR))
  obtain ⟨x, hx⟩ : ∃ x_, x_ = qx bs sh := ⟨_, rfl⟩
  rw [← hx] at HV HXB HXL ⊢
  have HXQ := Aside0.mk hx
  clear hx
  have hxl := HXL.out
  obtain ⟨ad, rfl, _⟩ := Kd.at_int (Kd.V_reads' HV.out).2.2 0 (by omega) (by omega)
  have bn0 : ((0 : Int) < (x.length : Int)) = True := eq_true (by omega)
  have bn1 : ((1 : Int) < (x.length : Int)) = True := eq_true (by omega)
  have hp0 : 0 < x.length := by omega
  have HR1 := Aside0.mk (RM.of_below (g := g) (Below.refl w3.heap.size w3))
  have hc_0 : w3.cell? ⟨g, 0, none⟩ = some (.slice A3 (qb bs sh).length c3) := (blk_cell BK.out 0).trans rfl
  have hf_0 := blk_frozen BK.out 0
  have hc_1 : w3.cell? ⟨g, 1, none⟩ = some (.int .u8 k) := (blk_cell BK.out 1).trans rfl
  have hf_1 := blk_frozen BK.out 1
  have hc_2 : w3.cell? ⟨g, 2, none⟩ = some (.int .i64 3) := (blk_cell BK.out 2).trans rfl
  have hf_2 := blk_frozen BK.out 2
  have hc_3 : w3.cell? ⟨g, 3, none⟩ = some (.int .u8 code) := (blk_cell BK.out 3).trans rfl
  have hf_3 := blk_frozen BK.out 3
  have hc_4 : w3.cell? ⟨g, 4, none⟩ = some (.int .u32 (av (tkx 4 bs sh))) := (blk_cell BK.out 4).trans rfl
  have hf_4 := blk_frozen BK.out 4
  have hc_5 : w3.cell? ⟨g, 5, none⟩ = some (.bool quiet) := (blk_cell BK.out 5).trans rfl
  have hf_5 := blk_frozen BK.out 5
  have hc_6 : w3.cell? ⟨g, 6, none⟩ = some (.int .u8 rob) := (blk_cell BK.out 6).trans rfl
  have hf_6 := blk_frozen BK.out 6
  have hc_7 : w3.cell? ⟨g, 7, none⟩ = some (.int .u8 every) := (blk_cell BK.out 7).trans rfl
  have hf_7 := blk_frozen BK.out 7
  have hc_8 : w3.cell? ⟨g, 8, none⟩ = some (vS) := (blk_cell BK.out 8).trans rfl
  have hf_8 := blk_frozen BK.out 8
  have hc_9 : w3.cell? ⟨g, 9, none⟩ = some (vR) := (blk_cell BK.out 9).trans rfl
  have hf_9 := blk_frozen BK.out 9
  have hc_10 : w3.cell? ⟨g, 10, none⟩ = some (.bool (qs bs sh)) := (blk_cell BK.out 10).trans rfl
  have hf_10 := blk_frozen BK.out 10
  refine start_ (n := 27) (S := fun w' => RM w3 w' g) (ds := []) #[false, false, false, false, false, false, false, false, false, false, false, false, false, false, false, false, false, false, false, false, false, false, false, false, false, false, false] (by kernel_rfl) rfl rfl (HR1.out.trans (RM.of_below (below_drew (Below.refl _ _)))) (fun hHeld => ?_); refine with_tabW query_t query_b (fun HT_ HW_ => ?_)
  have hB : Below w3.heap.size w3 w3.drew := below_drew (Below.refl _ _)
  generalize w3.drew = w201_ at hB hHeld ⊢
  have nHR := Aside0.mk (HR1.out.trans (RM.of_below hB))
  clear HR1
  have HR1 := nHR
  clear nHR
  clear hc_0 hf_0 hc_1 hf_1 hc_2 hf_2 hc_3 hf_3 hc_4 hf_4 hc_5 hf_5 hc_6 hf_6 hc_7 hf_7 hc_8 hf_8 hc_9 hf_9 hc_10 hf_10
  have nBK := Aside0.mk (blk_below BK.out hB)
  clear BK
  have BK := nBK
  clear nBK
  have hc_0 : w201_.cell? ⟨g, 0, none⟩ = some (.slice A3 (qb bs sh).length c3) := (blk_cell BK.out 0).trans rfl
  have hf_0 := blk_frozen BK.out 0
  have hc_1 : w201_.cell? ⟨g, 1, none⟩ = some (.int .u8 k) := (blk_cell BK.out 1).trans rfl
  have hf_1 := blk_frozen BK.out 1
  have hc_2 : w201_.cell? ⟨g, 2, none⟩ = some (.int .i64 3) := (blk_cell BK.out 2).trans rfl
  have hf_2 := blk_frozen BK.out 2
  have hc_3 : w201_.cell? ⟨g, 3, none⟩ = some (.int .u8 code) := (blk_cell BK.out 3).trans rfl
  have hf_3 := blk_frozen BK.out 3
  have hc_4 : w201_.cell? ⟨g, 4, none⟩ = some (.int .u32 (av (tkx 4 bs sh))) := (blk_cell BK.out 4).trans rfl
  have hf_4 := blk_frozen BK.out 4
  have hc_5 : w201_.cell? ⟨g, 5, none⟩ = some (.bool quiet) := (blk_cell BK.out 5).trans rfl
  have hf_5 := blk_frozen BK.out 5
  have hc_6 : w201_.cell? ⟨g, 6, none⟩ = some (.int .u8 rob) := (blk_cell BK.out 6).trans rfl
  have hf_6 := blk_frozen BK.out 6
  have hc_7 : w201_.cell? ⟨g, 7, none⟩ = some (.int .u8 every) := (blk_cell BK.out 7).trans rfl
  have hf_7 := blk_frozen BK.out 7
  have hc_8 : w201_.cell? ⟨g, 8, none⟩ = some (vS) := (blk_cell BK.out 8).trans rfl
  have hf_8 := blk_frozen BK.out 8
  have hc_9 : w201_.cell? ⟨g, 9, none⟩ = some (vR) := (blk_cell BK.out 9).trans rfl
  have hf_9 := blk_frozen BK.out 9
  have hc_10 : w201_.cell? ⟨g, 10, none⟩ = some (.bool (qs bs sh)) := (blk_cell BK.out 10).trans rfl
  have hf_10 := blk_frozen BK.out 10
  clear hB
  refine pu 0 44 #[true, false, false, false, false, false, false, false, false, false, false, false, false, false, false, false, false, false, false, false, false, false, false, false, false, false, false] rfl rfl (any_of HT_.out (by kernel_rfl)) (fun _ _ _ h => h) (by rfl) (fun w' => by go_simp; with_reducible rfl) (by simp only [Act.put, List.setIfInBounds_toArray, List.set_cons_zero, List.set_cons_succ, i64_w, i32_w]; rfl) ?_
  refine pu 1 45 #[true, true, false, false, false, false, false, false, false, false, false, false, false, false, false, false, false, false, false, false, false, false, false, false, false, false, false] rfl rfl (any_of HT_.out (by kernel_rfl)) (fun _ _ _ h => h) (by rfl) (fun w' => by go_simp; with_reducible rfl) (by simp only [Act.put, List.setIfInBounds_toArray, List.set_cons_zero, List.set_cons_succ, i64_w, i32_w]; rfl) ?_
  refine pu 2 46 #[true, true, true, false, false, false, false, false, false, false, false, false, false, false, false, false, false, false, false, false, false, false, false, false, false, false, false] rfl rfl (any_of HT_.out (by kernel_rfl)) (fun _ _ _ h => h) (by rfl) (fun w' => by go_simp; with_reducible rfl) (by simp only [Act.put, List.setIfInBounds_toArray, List.set_cons_zero, List.set_cons_succ, i64_w, i32_w]; rfl) ?_
  refine pu 3 47 #[true, true, true, true, false, false, false, false, false, false, false, false, false, false, false, false, false, false, false, false, false, false, false, false, false, false, false] rfl rfl (any_of HT_.out (by kernel_rfl)) (fun _ _ _ h => h) (by rfl) (fun w' => by go_simp; with_reducible rfl) (by simp only [Act.put, List.setIfInBounds_toArray, List.set_cons_zero, List.set_cons_succ, i64_w, i32_w]; rfl) ?_
  refine pu 4 48 #[true, true, true, true, true, false, false, false, false, false, false, false, false, false, false, false, false, false, false, false, false, false, false, false, false, false, false] rfl rfl (any_of HT_.out (by kernel_rfl)) (fun _ _ _ h => h) (by rfl) (fun w' => by go_simp; with_reducible rfl) (by simp only [Act.put, List.setIfInBounds_toArray, List.set_cons_zero, List.set_cons_succ, i64_w, i32_w]; rfl) ?_
  refine take_ (i := 5) (N := some 49) (v := ?_) (a' := ?_) #[true, true, true, true, true, true, false, false, false, false, false, false, false, false, false, false, false, false, false, false, false, false, false, false, false, false, false] rfl rfl (take_ofW HT_.out HW_.out (by kernel_rfl)) (fun _ _ _ h => h) (Or.inl ⟨by rfl, ?_⟩) hHeld ?_ ?_
  rotate_left
  · rintro w' s0
    have y0 := idx_cell0 (Kd.V_reads' (s0.V HV.out)).2.2 (by omega)
    have y1 := idx_cell (Kd.V_reads' (s0.V HV.out)).2.2 1 (by decide) (by omega)
    go_simp
    with_reducible rfl
  rotate_left
  · simp only [Act.put, List.setIfInBounds_toArray, List.set_cons_zero, List.set_cons_succ, i64_w, i32_w]
    rfl
  refine pu 6 50 #[true, true, true, true, true, true, true, false, false, false, false, false, false, false, false, false, false, false, false, false, false, false, false, false, false, false, false] rfl rfl (any_of HT_.out (by kernel_rfl)) (fun _ _ _ h => h) (by rfl) (fun w' => by go_simp; with_reducible rfl) (by simp only [Act.put, List.setIfInBounds_toArray, List.set_cons_zero, List.set_cons_succ, i64_w, i32_w]; rfl) ?_
  refine pu 7 51 #[true, true, true, true, true, true, true, true, false, false, false, false, false, false, false, false, false, false, false, false, false, false, false, false, false, false, false] rfl rfl (any_of HT_.out (by kernel_rfl)) (fun _ _ _ h => h) (by rfl) (fun w' => by go_simp; with_reducible rfl) (by simp only [Act.put, List.setIfInBounds_toArray, List.set_cons_zero, List.set_cons_succ, i64_w, i32_w]; rfl) ?_
  refine pu 8 52 #[true, true, true, true, true, true, true, true, true, false, false, false, false, false, false, false, false, false, false, false, false, false, false, false, false, false, false] rfl rfl (any_of HT_.out (by kernel_rfl)) (fun _ _ _ h => h) (by rfl) (fun w' => by go_simp; with_reducible rfl) (by simp only [Act.put, List.setIfInBounds_toArray, List.set_cons_zero, List.set_cons_succ, i64_w, i32_w]; rfl) ?_
  refine take_ (i := 9) (N := some 53) (v := ?_) (a' := ?_) #[true, true, true, true, true, true, true, true, true, true, false, false, false, false, false, false, false, false, false, false, false, false, false, false, false, false, false] rfl rfl (take_ofW HT_.out HW_.out (by kernel_rfl)) (fun _ _ _ h => h) (Or.inl ⟨by rfl, ?_⟩) hHeld ?_ ?_
  rotate_left
  · rintro w' s0
    have y0 := idx_cell0 (Kd.V_reads' (s0.V HV.out)).2.2 (by omega)
    have y1 := idx_cell (Kd.V_reads' (s0.V HV.out)).2.2 1 (by decide) (by omega)
    go_simp
    with_reducible rfl
  rotate_left
  · simp only [Act.put, List.setIfInBounds_toArray, List.set_cons_zero, List.set_cons_succ, i64_w, i32_w]
    rfl
  refine pu 10 54 #[true, true, true, true, true, true, true, true, true, true, true, false, false, false, false, false, false, false, false, false, false, false, false, false, false, false, false] rfl rfl (any_of HT_.out (by kernel_rfl)) (fun _ _ _ h => h) (by rfl) (fun w' => by go_simp; with_reducible rfl) (by simp only [Act.put, List.setIfInBounds_toArray, List.set_cons_zero, List.set_cons_succ, i64_w, i32_w]; rfl) ?_
  refine pu 11 55 #[true, true, true, true, true, true, true, true, true, true, true, true, false, false, false, false, false, false, false, false, false, false, false, false, false, false, false] rfl rfl (any_of HT_.out (by kernel_rfl)) (fun _ _ _ h => h) (by rfl) (fun w' => by go_simp; with_reducible rfl) (by simp only [Act.put, List.setIfInBounds_toArray, List.set_cons_zero, List.set_cons_succ, i64_w, i32_w]; rfl) ?_
  refine pu 12 56 #[true, true, true, true, true, true, true, true, true, true, true, true, true, false, false, false, false, false, false, false, false, false, false, false, false, false, false] rfl rfl (any_of HT_.out (by kernel_rfl)) (fun _ _ _ h => h) (by rfl) (fun w' => by go_simp; with_reducible rfl) (by simp only [Act.put, List.setIfInBounds_toArray, List.set_cons_zero, List.set_cons_succ, i64_w, i32_w]; rfl) ?_
  refine pu 13 57 #[true, true, true, true, true, true, true, true, true, true, true, true, true, true, false, false, false, false, false, false, false, false, false, false, false, false, false] rfl rfl (any_of HT_.out (by kernel_rfl)) (fun _ _ _ h => h) (by rfl) (fun w' => by go_simp; with_reducible rfl) (by simp only [Act.put, List.setIfInBounds_toArray, List.set_cons_zero, List.set_cons_succ, i64_w, i32_w]; rfl) ?_
  refine take_ (i := 14) (N := some 58) (v := ?_) (a' := ?_) #[true, true, true, true, true, true, true, true, true, true, true, true, true, true, true, false, false, false, false, false, false, false, false, false, false, false, false] rfl rfl (take_ofW HT_.out HW_.out (by kernel_rfl)) (fun _ _ _ h => h) (Or.inl ⟨by rfl, ?_⟩) hHeld ?_ ?_
  rotate_left
  · rintro w' s0
    have y0 := idx_cell0 (Kd.V_reads' (s0.V HV.out)).2.2 (by omega)
    have y1 := idx_cell (Kd.V_reads' (s0.V HV.out)).2.2 1 (by decide) (by omega)
    go_simp
    with_reducible rfl
  rotate_left
  · simp only [Act.put, List.setIfInBounds_toArray, List.set_cons_zero, List.set_cons_succ, i64_w, i32_w]
    rfl
  refine pu 15 59 #[true, true, true, true, true, true, true, true, true, true, true, true, true, true, true, true, false, false, false, false, false, false, false, false, false, false, false] rfl rfl (any_of HT_.out (by kernel_rfl)) (fun _ _ _ h => h) (by rfl) (fun w' => by go_simp; with_reducible rfl) (by simp only [Act.put, List.setIfInBounds_toArray, List.set_cons_zero, List.set_cons_succ, i64_w, i32_w]; rfl) ?_
  refine pu 16 60 #[true, true, true, true, true, true, true, true, true, true, true, true, true, true, true, true, true, false, false, false, false, false, false, false, false, false, false] rfl rfl (any_of HT_.out (by kernel_rfl)) (fun _ _ _ h => h) (by rfl) (fun w' => by go_simp; with_reducible rfl) (by simp only [Act.put, List.setIfInBounds_toArray, List.set_cons_zero, List.set_cons_succ, i64_w, i32_w]; rfl) ?_
  refine pu 17 61 #[true, true, true, true, true, true, true, true, true, true, true, true, true, true, true, true, true, true, false, false, false, false, false, false, false, false, false] rfl rfl (any_of HT_.out (by kernel_rfl)) (fun _ _ _ h => h) (by rfl) (fun w' => by go_simp; with_reducible rfl) (by simp only [Act.put, List.setIfInBounds_toArray, List.set_cons_zero, List.set_cons_succ, i64_w, i32_w]; rfl) ?_
  refine one_ (i := 18) (N := none) #[true, true, true, true, true, true, true, true, true, true, true, true, true, true, true, true, true, true, true, false, false, false, false, false, false, false, false] rfl rfl (one_of HT_.out (by kernel_rfl)) (by decide) (fun K hK => ?_)
  refine skip_ (w1 := ?_) (by rfl) rfl ?_ ?_
  rotate_left
  · go_simp
    rfl
  have nHR := Aside0.mk (HR1.out.set 6 (.int .u8 (Go.bits .and .u8 (rd x 0) 7)))
  have nBK : Aside0 ((w201_.setCell ⟨g, 6, none⟩ (.int .u8 (Go.bits .and .u8 (rd x 0) 7))).heap[g]? = some (.cells #[.slice A3 (qb bs sh).length c3, .int .u8 k, .int .i64 3, .int .u8 code, .int .u32 (av (tkx 4 bs sh)), .bool quiet, .int .u8 (Go.bits .and .u8 (rd x 0) 7), .int .u8 every, vS, vR, .bool (qs bs sh)] 66 (0, 0))) := ⟨blk_put (cs := #[.slice A3 (qb bs sh).length c3, .int .u8 k, .int .i64 3, .int .u8 code, .int .u32 (av (tkx 4 bs sh)), .bool quiet, .int .u8 rob, .int .u8 every, vS, vR, .bool (qs bs sh)]) BK.out 6 (.int .u8 (Go.bits .and .u8 (rd x 0) 7)) rfl⟩
  clear hc_0 hf_0 hc_1 hf_1 hc_2 hf_2 hc_3 hf_3 hc_4 hf_4 hc_5 hf_5 hc_6 hf_6 hc_7 hf_7 hc_8 hf_8 hc_9 hf_9 hc_10 hf_10
  clear HR1 BK
  generalize (w201_.setCell ⟨g, 6, none⟩ (.int .u8 (Go.bits .and .u8 (rd x 0) 7))) = w202_ at nHR nBK ⊢
  have HR1 := nHR
  have BK := nBK
  clear nHR nBK
  have hc_0 : w202_.cell? ⟨g, 0, none⟩ = some (.slice A3 (qb bs sh).length c3) := (blk_cell BK.out 0).trans rfl
  have hf_0 := blk_frozen BK.out 0
  have hc_1 : w202_.cell? ⟨g, 1, none⟩ = some (.int .u8 k) := (blk_cell BK.out 1).trans rfl
  have hf_1 := blk_frozen BK.out 1
  have hc_2 : w202_.cell? ⟨g, 2, none⟩ = some (.int .i64 3) := (blk_cell BK.out 2).trans rfl
  have hf_2 := blk_frozen BK.out 2
  have hc_3 : w202_.cell? ⟨g, 3, none⟩ = some (.int .u8 code) := (blk_cell BK.out 3).trans rfl
  have hf_3 := blk_frozen BK.out 3
  have hc_4 : w202_.cell? ⟨g, 4, none⟩ = some (.int .u32 (av (tkx 4 bs sh))) := (blk_cell BK.out 4).trans rfl
  have hf_4 := blk_frozen BK.out 4
  have hc_5 : w202_.cell? ⟨g, 5, none⟩ = some (.bool quiet) := (blk_cell BK.out 5).trans rfl
  have hf_5 := blk_frozen BK.out 5
  have hc_6 : w202_.cell? ⟨g, 6, none⟩ = some (.int .u8 (Go.bits .and .u8 (rd x 0) 7)) := (blk_cell BK.out 6).trans rfl
  have hf_6 := blk_frozen BK.out 6
  have hc_7 : w202_.cell? ⟨g, 7, none⟩ = some (.int .u8 every) := (blk_cell BK.out 7).trans rfl
  have hf_7 := blk_frozen BK.out 7
  have hc_8 : w202_.cell? ⟨g, 8, none⟩ = some (vS) := (blk_cell BK.out 8).trans rfl
  have hf_8 := blk_frozen BK.out 8
  have hc_9 : w202_.cell? ⟨g, 9, none⟩ = some (vR) := (blk_cell BK.out 9).trans rfl
  have hf_9 := blk_frozen BK.out 9
  have hc_10 : w202_.cell? ⟨g, 10, none⟩ = some (.bool (qs bs sh)) := (blk_cell BK.out 10).trans rfl
  have hf_10 := blk_frozen BK.out 10
  refine hK.out _ _ HR1.out (fun hHeld => ?_)
  clear hK K
  refine pu 19 62 #[true, true, true, true, true, true, true, true, true, true, true, true, true, true, true, true, true, true, true, true, false, false, false, false, false, false, false] rfl rfl (any_of HT_.out (by kernel_rfl)) (fun _ _ _ h => h) (by rfl) (fun w' => by go_simp; with_reducible rfl) (by simp only [Act.put, List.setIfInBounds_toArray, List.set_cons_zero, List.set_cons_succ, i64_w, i32_w]; rfl) ?_
  refine pu 20 63 #[true, true, true, true, true, true, true, true, true, true, true, true, true, true, true, true, true, true, true, true, true, false, false, false, false, false, false] rfl rfl (any_of HT_.out (by kernel_rfl)) (fun _ _ _ h => h) (by rfl) (fun w' => by go_simp; with_reducible rfl) (by simp only [Act.put, List.setIfInBounds_toArray, List.set_cons_zero, List.set_cons_succ, i64_w, i32_w]; rfl) ?_
  refine pu 21 64 #[true, true, true, true, true, true, true, true, true, true, true, true, true, true, true, true, true, true, true, true, true, true, false, false, false, false, false] rfl rfl (any_of HT_.out (by kernel_rfl)) (fun _ _ _ h => h) (by rfl) (fun w' => by go_simp; with_reducible rfl) (by simp only [Act.put, List.setIfInBounds_toArray, List.set_cons_zero, List.set_cons_succ, i64_w, i32_w]; rfl) ?_
  refine one_ (i := 22) (N := none) #[true, true, true, true, true, true, true, true, true, true, true, true, true, true, true, true, true, true, true, true, true, true, true, false, false, false, false] rfl rfl (one_of HT_.out (by kernel_rfl)) (by decide) (fun K hK => ?_)
  refine skip_ (w1 := ?_) (by rfl) rfl ?_ ?_
  rotate_left
  · go_simp
    rfl
  have nHR := Aside0.mk (HR1.out.set 5 (.bool (Go.bits .and .u8 (rd x 0) 8 != 0)))
  have nBK : Aside0 ((w202_.setCell ⟨g, 5, none⟩ (.bool (Go.bits .and .u8 (rd x 0) 8 != 0))).heap[g]? = some (.cells #[.slice A3 (qb bs sh).length c3, .int .u8 k, .int .i64 3, .int .u8 code, .int .u32 (av (tkx 4 bs sh)), .bool (Go.bits .and .u8 (rd x 0) 8 != 0), .int .u8 (Go.bits .and .u8 (rd x 0) 7), .int .u8 every, vS, vR, .bool (qs bs sh)] 66 (0, 0))) := ⟨blk_put (cs := #[.slice A3 (qb bs sh).length c3, .int .u8 k, .int .i64 3, .int .u8 code, .int .u32 (av (tkx 4 bs sh)), .bool quiet, .int .u8 (Go.bits .and .u8 (rd x 0) 7), .int .u8 every, vS, vR, .bool (qs bs sh)]) BK.out 5 (.bool (Go.bits .and .u8 (rd x 0) 8 != 0)) rfl⟩
  clear hc_0 hf_0 hc_1 hf_1 hc_2 hf_2 hc_3 hf_3 hc_4 hf_4 hc_5 hf_5 hc_6 hf_6 hc_7 hf_7 hc_8 hf_8 hc_9 hf_9 hc_10 hf_10
  clear HR1 BK
  generalize (w202_.setCell ⟨g, 5, none⟩ (.bool (Go.bits .and .u8 (rd x 0) 8 != 0))) = w203_ at nHR nBK ⊢
  have HR1 := nHR
  have BK := nBK
  clear nHR nBK
  have hc_0 : w203_.cell? ⟨g, 0, none⟩ = some (.slice A3 (qb bs sh).length c3) := (blk_cell BK.out 0).trans rfl
  have hf_0 := blk_frozen BK.out 0
  have hc_1 : w203_.cell? ⟨g, 1, none⟩ = some (.int .u8 k) := (blk_cell BK.out 1).trans rfl
  have hf_1 := blk_frozen BK.out 1
  have hc_2 : w203_.cell? ⟨g, 2, none⟩ = some (.int .i64 3) := (blk_cell BK.out 2).trans rfl
  have hf_2 := blk_frozen BK.out 2
  have hc_3 : w203_.cell? ⟨g, 3, none⟩ = some (.int .u8 code) := (blk_cell BK.out 3).trans rfl
  have hf_3 := blk_frozen BK.out 3
  have hc_4 : w203_.cell? ⟨g, 4, none⟩ = some (.int .u32 (av (tkx 4 bs sh))) := (blk_cell BK.out 4).trans rfl
  have hf_4 := blk_frozen BK.out 4
  have hc_5 : w203_.cell? ⟨g, 5, none⟩ = some (.bool (Go.bits .and .u8 (rd x 0) 8 != 0)) := (blk_cell BK.out 5).trans rfl
  have hf_5 := blk_frozen BK.out 5
  have hc_6 : w203_.cell? ⟨g, 6, none⟩ = some (.int .u8 (Go.bits .and .u8 (rd x 0) 7)) := (blk_cell BK.out 6).trans rfl
  have hf_6 := blk_frozen BK.out 6
  have hc_7 : w203_.cell? ⟨g, 7, none⟩ = some (.int .u8 every) := (blk_cell BK.out 7).trans rfl
  have hf_7 := blk_frozen BK.out 7
  have hc_8 : w203_.cell? ⟨g, 8, none⟩ = some (vS) := (blk_cell BK.out 8).trans rfl
  have hf_8 := blk_frozen BK.out 8
  have hc_9 : w203_.cell? ⟨g, 9, none⟩ = some (vR) := (blk_cell BK.out 9).trans rfl
  have hf_9 := blk_frozen BK.out 9
  have hc_10 : w203_.cell? ⟨g, 10, none⟩ = some (.bool (qs bs sh)) := (blk_cell BK.out 10).trans rfl
  have hf_10 := blk_frozen BK.out 10
  refine hK.out _ _ HR1.out (fun hHeld => ?_)
  clear hK K
  refine pu 23 65 #[true, true, true, true, true, true, true, true, true, true, true, true, true, true, true, true, true, true, true, true, true, true, true, true, false, false, false] rfl rfl (any_of HT_.out (by kernel_rfl)) (fun _ _ _ h => h) (by rfl) (fun w' => by go_simp; with_reducible rfl) (by simp only [Act.put, List.setIfInBounds_toArray, List.set_cons_zero, List.set_cons_succ, i64_w, i32_w]; rfl) ?_
  refine pu 24 66 #[true, true, true, true, true, true, true, true, true, true, true, true, true, true, true, true, true, true, true, true, true, true, true, true, true, false, false] rfl rfl (any_of HT_.out (by kernel_rfl)) (fun _ _ _ h => h) (by rfl) (fun w' => by go_simp; with_reducible rfl) (by simp only [Act.put, List.setIfInBounds_toArray, List.set_cons_zero, List.set_cons_succ, i64_w, i32_w]; rfl) ?_
  refine pu 25 67 #[true, true, true, true, true, true, true, true, true, true, true, true, true, true, true, true, true, true, true, true, true, true, true, true, true, true, false] rfl rfl (any_of HT_.out (by kernel_rfl)) (fun _ _ _ h => h) (by rfl) (fun w' => by go_simp; with_reducible rfl) (by simp only [Act.put, List.setIfInBounds_toArray, List.set_cons_zero, List.set_cons_succ, i64_w, i32_w]; rfl) ?_
  refine one_ (i := 26) (N := none) #[true, true, true, true, true, true, true, true, true, true, true, true, true, true, true, true, true, true, true, true, true, true, true, true, true, true, true] rfl rfl (one_of HT_.out (by kernel_rfl)) (by decide) (fun K hK => ?_)
  refine skip_ (w1 := ?_) (by rfl) rfl ?_ ?_
  rotate_left
  · go_simp
    rfl
  have nHR := Aside0.mk (HR1.out.set 7 (.int .u8 (rd x 1)))
  have nBK : Aside0 ((w203_.setCell ⟨g, 7, none⟩ (.int .u8 (rd x 1))).heap[g]? = some (.cells #[.slice A3 (qb bs sh).length c3, .int .u8 k, .int .i64 3, .int .u8 code, .int .u32 (av (tkx 4 bs sh)), .bool (Go.bits .and .u8 (rd x 0) 8 != 0), .int .u8 (Go.bits .and .u8 (rd x 0) 7), .int .u8 (rd x 1), vS, vR, .bool (qs bs sh)] 66 (0, 0))) := ⟨blk_put (cs := #[.slice A3 (qb bs sh).length c3, .int .u8 k, .int .i64 3, .int .u8 code, .int .u32 (av (tkx 4 bs sh)), .bool (Go.bits .and .u8 (rd x 0) 8 != 0), .int .u8 (Go.bits .and .u8 (rd x 0) 7), .int .u8 every, vS, vR, .bool (qs bs sh)]) BK.out 7 (.int .u8 (rd x 1)) rfl⟩
  clear hc_0 hf_0 hc_1 hf_1 hc_2 hf_2 hc_3 hf_3 hc_4 hf_4 hc_5 hf_5 hc_6 hf_6 hc_7 hf_7 hc_8 hf_8 hc_9 hf_9 hc_10 hf_10
  clear HR1 BK
  generalize (w203_.setCell ⟨g, 7, none⟩ (.int .u8 (rd x 1))) = w204_ at nHR nBK ⊢
  have HR1 := nHR
  have BK := nBK
  clear nHR nBK
  have hc_0 : w204_.cell? ⟨g, 0, none⟩ = some (.slice A3 (qb bs sh).length c3) := (blk_cell BK.out 0).trans rfl
  have hf_0 := blk_frozen BK.out 0
  have hc_1 : w204_.cell? ⟨g, 1, none⟩ = some (.int .u8 k) := (blk_cell BK.out 1).trans rfl
  have hf_1 := blk_frozen BK.out 1
  have hc_2 : w204_.cell? ⟨g, 2, none⟩ = some (.int .i64 3) := (blk_cell BK.out 2).trans rfl
  have hf_2 := blk_frozen BK.out 2
  have hc_3 : w204_.cell? ⟨g, 3, none⟩ = some (.int .u8 code) := (blk_cell BK.out 3).trans rfl
  have hf_3 := blk_frozen BK.out 3
  have hc_4 : w204_.cell? ⟨g, 4, none⟩ = some (.int .u32 (av (tkx 4 bs sh))) := (blk_cell BK.out 4).trans rfl
  have hf_4 := blk_frozen BK.out 4
  have hc_5 : w204_.cell? ⟨g, 5, none⟩ = some (.bool (Go.bits .and .u8 (rd x 0) 8 != 0)) := (blk_cell BK.out 5).trans rfl
  have hf_5 := blk_frozen BK.out 5
  have hc_6 : w204_.cell? ⟨g, 6, none⟩ = some (.int .u8 (Go.bits .and .u8 (rd x 0) 7)) := (blk_cell BK.out 6).trans rfl
  have hf_6 := blk_frozen BK.out 6
  have hc_7 : w204_.cell? ⟨g, 7, none⟩ = some (.int .u8 (rd x 1)) := (blk_cell BK.out 7).trans rfl
  have hf_7 := blk_frozen BK.out 7
  have hc_8 : w204_.cell? ⟨g, 8, none⟩ = some (vS) := (blk_cell BK.out 8).trans rfl
  have hf_8 := blk_frozen BK.out 8
  have hc_9 : w204_.cell? ⟨g, 9, none⟩ = some (vR) := (blk_cell BK.out 9).trans rfl
  have hf_9 := blk_frozen BK.out 9
  have hc_10 : w204_.cell? ⟨g, 10, none⟩ = some (.bool (qs bs sh)) := (blk_cell BK.out 10).trans rfl
  have hf_10 := blk_frozen BK.out 10
  refine hK.out _ _ HR1.out (fun hHeld => ?_)
  clear hK K
  refine done_ (done_of HT_.out (by kernel_rfl)) ?_
  have HR4 := Aside0.mk (HR.out.trans HR1.out)
  have HB4 := Aside0.mk (HR4.out.below HB.out HG.out)
  clear HR HR1
  clear hc_0 hf_0 hc_1 hf_1 hc_2 hf_2 hc_3 hf_3 hc_4 hf_4 hc_5 hf_5 hc_6 hf_6 hc_7 hf_7 hc_8 hf_8 hc_9 hf_9 hc_10 hf_10
  go_wp2_with (first | (go_at_call 57; with_reducible refine (two_q HB4.out HG.out BK.out HC3.out HK3.out HQB.out).mono ?_; rintro e w5 ⟨A5, c5, rfl, hbx, hC5, hK5, hR⟩; clear BK; have BK := Aside0.mk hbx; have HC5 := Aside0.mk hC5; have HK5 := Aside0.mk hK5; have HR5 := Aside0.mk (HR4.out.trans hR); have HB5 := Aside0.mk (HR5.out.below HB.out HG.out); clear hbx hC5 hK5 hR) | (go_at_call 56; with_reducible refine (addrs_q HB5.out HG.out BK.out HC5.out HK5.out HQB2.out HN.out).mono ?_; rintro e w6 ⟨v, A6, c6, rfl, hRw, hbx, hC6, hK6, hR⟩; clear BK; have BK := Aside0.mk hbx; have HC6 := Aside0.mk hC6; have HK6 := Aside0.mk hK6; have HL := Aside0.mk (Kd.R_lower hRw HR5.out.out.size); have HR6 := Aside0.mk (HR5.out.trans hR); clear hbx hC6 hK6 hRw hR; obtain ⟨A_v, c_v, rfl⟩ := Kd.R_slice HL.out; have hc_8 : w6.cell? ⟨g, 8, none⟩ = some (vS) := (blk_cell BK.out 8).trans rfl; have hf_8 := blk_frozen BK.out 8))
  go_end0
  refine ⟨_, A6, c6, rfl, Kd.R_keep HL.out ((RM.of_below (Below.refl _ _)).set 8 _).keep (fun _ hk => hk), ?_, HC6.out, HK6.out, HR6.out.set 8 _⟩
  have hb := blk_put (cs := #[.slice A6 (qa bs sh).2.1.length c6, .int .u8 k, .int .i64 3, .int .u8 code, .int .u32 (av (tkx 4 bs sh)), .bool (Go.bits .and .u8 (rd x 0) 8 != 0), .int .u8 (Go.bits .and .u8 (rd x 0) 7), .int .u8 (rd x 1), vS, vR, .bool (qa bs sh).2.2]) BK.out 8 (.slice A_v (qa bs sh).1.length c_v) rfl
  rw [HXQ.out] at hb
  exact hb
set_option maxHeartbeats 8000000 in
set_option maxRecDepth 100000 in
theorem query_l0 {w0 w : World} {g : Nat} {A : Option Addr} {c : Nat} {bs : List Int} {k ver code grp rob every : Int} {quiet : Bool} {vS vR : Value} {sh : Bool} (hB : Below w0.heap.size w0 w) (hg : w0.heap.size ≤ g) (h : w.heap[g]? = some (.cells #[.slice A bs.length c, .int .u8 k, .int .i64 ver, .int .u8 code, .int .u32 grp, .bool quiet, .int .u8 rob, .int .u8 every, vS, vR, .bool sh] 66 (0, 0))) (hC : Kd.C (Kd.int .u8) w0 A bs.length bs) (hc : bs.length ≤ c) (hby : Byt bs) (hz : (code == 0) = false) (hn : 4 < bs.length) :
    Calls Try.prog 41 #[.pointer (some ⟨g, 0, none⟩)] w fun e w' => ∃ v A2 c2, e = .returned (.tuple #[]) ∧ Kd.R (Kd.int .u32) 23 w' w.heap.size (fun k => k ≠ g) v (qa bs sh).1 ∧ w'.heap[g]? = some (.cells #[.slice A2 (qa bs sh).2.1.length c2, .int .u8 k, .int .i64 3, .int .u8 code, .int .u32 (av (tkx 4 bs sh)), .bool (Go.bits .and .u8 (rd (qx bs sh) 0) 8 != 0), .int .u8 (Go.bits .and .u8 (rd (qx bs sh) 0) 7), .int .u8 (rd (qx bs sh) 1), v, vR, .bool (qa bs sh).2.2] 66 (0, 0)) ∧ Kd.C (Kd.int .u8) w0 A2 (qa bs sh).2.1.length (qa bs sh).2.1 ∧ (qa bs sh).2.1.length ≤ c2 ∧ RM w w' g := by
  have HB := Aside0.mk hB
  have HG := Aside0.mk hg
  have BK := Aside0.mk h
  have HC := Aside0.mk hC
  have HK := Aside0.mk hc
  clear hB hg h hC hc
  have HBY := Aside0.mk hby
  clear hby
  have hn1 : decide ((4 : Int) < (bs.length : Int)) = true := decide_eq_true (by omega)
  have HB1B := Aside0.mk (tkb_byt (m := 4) (sh := sh) HBY.out)
  have HQB := Aside0.mk (show Byt (qb bs sh) from tkb_byt HB1B.out)
  have HQB2 := Aside0.mk (show Byt (tkb 2 (qb bs sh) (qs bs sh)) from tkb_byt HQB.out)
  have HN := Aside0.mk (show qn bs sh ≤ 100000 from Nat.le_trans (be2_nat (tkx_byt (m := 2) (sh := qs bs sh) HQB.out)).2 (by decide))
  have HXL := Aside0.mk (show (qx bs sh).length = 2 from tkx_len 2 _ _)
  have HXB := Aside0.mk (show Byt (qx bs sh) from tkx_byt HB1B.out)
  have hc_0 : w.cell? ⟨g, 0, none⟩ = some (.slice A bs.length c) := (blk_cell BK.out 0).trans rfl
  have hf_0 := blk_frozen BK.out 0
  have hc_2 : w.cell? ⟨g, 2, none⟩ = some (.int .i64 ver) := (blk_cell BK.out 2).trans rfl
  have hf_2 := blk_frozen BK.out 2
  have hc_3 : w.cell? ⟨g, 3, none⟩ = some (.int .u8 code) := (blk_cell BK.out 3).trans rfl
  have hf_3 := blk_frozen BK.out 3
  go_enter Try.func41, Try.ntmps41
  go_upto_region 3 with fail
  have hBK : (w.setCell ⟨g, 2, none⟩ (.int .i64 2)).heap[g]? = some (.cells #[.slice A bs.length c, .int .u8 k, .int .i64 2, .int .u8 code, .int .u32 grp, .bool quiet, .int .u8 rob, .int .u8 every, vS, vR, .bool sh] 66 (0, 0)) := (blk_put (cs := #[.slice A bs.length c, .int .u8 k, .int .i64 ver, .int .u8 code, .int .u32 grp, .bool quiet, .int .u8 rob, .int .u8 every, vS, vR, .bool sh]) BK.out 2 (.int .i64 2) rfl)
  have hR : RM w (w.setCell ⟨g, 2, none⟩ (.int .i64 2)) g := ((RM.of_below (g := g) (Below.refl w.heap.size w)).set 2 (.int .i64 2))
  clear hc_0 hf_0 hc_2 hf_2 hc_3 hf_3
  clear BK
  generalize (w.setCell ⟨g, 2, none⟩ (.int .i64 2)) = ws at hBK hR ⊢
  have BK := Aside0.mk hBK
  have HR0 := Aside0.mk hR
  have HB0 := Aside0.mk (hR.below HB.out HG.out)
  clear hBK hR
  have hc_0 : ws.cell? ⟨g, 0, none⟩ = some (.slice A bs.length c) := (blk_cell BK.out 0).trans rfl
  have hf_0 := blk_frozen BK.out 0
  have hc_2 : ws.cell? ⟨g, 2, none⟩ = some (.int .i64 2) := (blk_cell BK.out 2).trans rfl
  have hf_2 := blk_frozen BK.out 2
  go_upto_region 9 with (first | (go_at_call 42; with_reducible refine (plain_w HB0.out HG.out BK.out HC.out HK.out HBY.out).mono ?_; rintro e w1 ⟨A1, c1, rfl, hbx, hC2, hK2, hR⟩; clear BK; have BK := Aside0.mk hbx; have HC2 := Aside0.mk hC2; have HK2 := Aside0.mk hK2; have HR := Aside0.mk (HR0.out.trans hR); clear hbx hC2 hK2 hR HR0; clear hc_0 hf_0 hc_2 hf_2; have hc_2 : w1.cell? ⟨g, 2, none⟩ = some (.int .i64 2) := (blk_cell BK.out 2).trans rfl; have hf_2 := blk_frozen BK.out 2))
  have hBK : (w1.setCell ⟨g, 2, none⟩ (.int .i64 3)).heap[g]? = some (.cells #[.slice A1 (tkb 4 bs sh).length c1, .int .u8 k, .int .i64 3, .int .u8 code, .int .u32 (av (tkx 4 bs sh)), .bool quiet, .int .u8 rob, .int .u8 every, vS, vR, .bool (tks 4 bs sh)] 66 (0, 0)) := blk_put (cs := #[.slice A1 (tkb 4 bs sh).length c1, .int .u8 k, .int .i64 2, .int .u8 code, .int .u32 (av (tkx 4 bs sh)), .bool quiet, .int .u8 rob, .int .u8 every, vS, vR, .bool (tks 4 bs sh)]) BK.out 2 (.int .i64 3) rfl
  have hR := HR.out.set 2 (.int .i64 3)
  clear BK HR
  clear hc_2 hf_2
  generalize (w1.setCell ⟨g, 2, none⟩ (.int .i64 3)) = w2 at hBK hR ⊢
  have BK := Aside0.mk hBK
  have HR := Aside0.mk hR
  have HB2 := Aside0.mk (hR.below HB.out HG.out)
  clear hBK hR
  go_upto_region 10 with (first | (go_at_call 55; with_reducible refine (take_q HB2.out HG.out BK.out HC2.out HK2.out).mono ?_; rintro e w3 ⟨Ax, cx, A3, c3, rfl, hV, hbx, hC3, hK3, hR⟩; clear BK; have HV := Aside0.mk hV; have BK := Aside0.mk hbx; have HC3 := Aside0.mk hC3; have HK3 := Aside0.mk hK3; have HR := Aside0.mk (HR.out.trans hR); clear hV hbx hC3 hK3 hR))
  obtain ⟨x, hx⟩ : ∃ x_, x_ = qx bs sh := ⟨_, rfl⟩
  rw [← hx] at HV HXB HXL ⊢
  have HXQ := Aside0.mk hx
  clear hx
  have hxl := HXL.out
  obtain ⟨ad, rfl, _⟩ := Kd.at_int (Kd.V_reads' HV.out).2.2 0 (by omega) (by omega)
  have bn0 : ((0 : Int) < (x.length : Int)) = True := eq_true (by omega)
  have bn1 : ((1 : Int) < (x.length : Int)) = True := eq_true (by omega)
  have hp0 : 0 < x.length := by omega
  have HR1 := Aside0.mk (RM.of_below (g := g) (Below.refl w3.heap.size w3))
  have hc_0 : w3.cell? ⟨g, 0, none⟩ = some (.slice A3 (qb bs sh).length c3) := (blk_cell BK.out 0).trans rfl
  have hf_0 := blk_frozen BK.out 0
  have hc_1 : w3.cell? ⟨g, 1, none⟩ = some (.int .u8 k) := (blk_cell BK.out 1).trans rfl
  have hf_1 := blk_frozen BK.out 1
  have hc_2 : w3.cell? ⟨g, 2, none⟩ = some (.int .i64 3) := (blk_cell BK.out 2).trans rfl
  have hf_2 := blk_frozen BK.out 2
  have hc_3 : w3.cell? ⟨g, 3, none⟩ = some (.int .u8 code) := (blk_cell BK.out 3).trans rfl
  have hf_3 := blk_frozen BK.out 3
  have hc_4 : w3.cell? ⟨g, 4, none⟩ = some (.int .u32 (av (tkx 4 bs sh))) := (blk_cell BK.out 4).trans rfl
  have hf_4 := blk_frozen BK.out 4
  have hc_5 : w3.cell? ⟨g, 5, none⟩ = some (.bool quiet) := (blk_cell BK.out 5).trans rfl
  have hf_5 := blk_frozen BK.out 5
  have hc_6 : w3.cell? ⟨g, 6, none⟩ = some (.int .u8 rob) := (blk_cell BK.out 6).trans rfl
  have hf_6 := blk_frozen BK.out 6
  have hc_7 : w3.cell? ⟨g, 7, none⟩ = some (.int .u8 every) := (blk_cell BK.out 7).trans rfl
  have hf_7 := blk_frozen BK.out 7
  have hc_8 : w3.cell? ⟨g, 8, none⟩ = some (vS) := (blk_cell BK.out 8).trans rfl
  have hf_8 := blk_frozen BK.out 8
  have hc_9 : w3.cell? ⟨g, 9, none⟩ = some (vR) := (blk_cell BK.out 9).trans rfl
  have hf_9 := blk_frozen BK.out 9
  have hc_10 : w3.cell? ⟨g, 10, none⟩ = some (.bool (qs bs sh)) := (blk_cell BK.out 10).trans rfl
  have hf_10 := blk_frozen BK.out 10
  refine start_ (n := 27) (S := fun w' => RM w3 w' g) (ds := []) #[false, false, false, false, false, false, false, false, false, false, false, false, false, false, false, false, false, false, false, false, false, false, false, false, false, false, false] (by kernel_rfl) rfl rfl (HR1.out.trans (RM.of_below (below_drew (Below.refl _ _)))) (fun hHeld => ?_); refine with_tabW query_t query_b (fun HT_ HW_ => ?_)
  have hB : Below w3.heap.size w3 w3.drew := below_drew (Below.refl _ _)
  generalize w3.drew = w201_ at hB hHeld ⊢
  have nHR := Aside0.mk (HR1.out.trans (RM.of_below hB))
  clear HR1
  have HR1 := nHR
  clear nHR
  clear hc_0 hf_0 hc_1 hf_1 hc_2 hf_2 hc_3 hf_3 hc_4 hf_4 hc_5 hf_5 hc_6 hf_6 hc_7 hf_7 hc_8 hf_8 hc_9 hf_9 hc_10 hf_10
  have nBK := Aside0.mk (blk_below BK.out hB)
  clear BK
  have BK := nBK
  clear nBK
  have hc_0 : w201_.cell? ⟨g, 0, none⟩ = some (.slice A3 (qb bs sh).length c3) := (blk_cell BK.out 0).trans rfl
  have hf_0 := blk_frozen BK.out 0
  have hc_1 : w201_.cell? ⟨g, 1, none⟩ = some (.int .u8 k) := (blk_cell BK.out 1).trans rfl
  have hf_1 := blk_frozen BK.out 1
  have hc_2 : w201_.cell? ⟨g, 2, none⟩ = some (.int .i64 3) := (blk_cell BK.out 2).trans rfl
  have hf_2 := blk_frozen BK.out 2
  have hc_3 : w201_.cell? ⟨g, 3, none⟩ = some (.int .u8 code) := (blk_cell BK.out 3).trans rfl
  have hf_3 := blk_frozen BK.out 3
  have hc_4 : w201_.cell? ⟨g, 4, none⟩ = some (.int .u32 (av (tkx 4 bs sh))) := (blk_cell BK.out 4).trans rfl
  have hf_4 := blk_frozen BK.out 4
  have hc_5 : w201_.cell? ⟨g, 5, none⟩ = some (.bool quiet) := (blk_cell BK.out 5).trans rfl
  have hf_5 := blk_frozen BK.out 5
  have hc_6 : w201_.cell? ⟨g, 6, none⟩ = some (.int .u8 rob) := (blk_cell BK.out 6).trans rfl
  have hf_6 := blk_frozen BK.out 6
  have hc_7 : w201_.cell? ⟨g, 7, none⟩ = some (.int .u8 every) := (blk_cell BK.out 7).trans rfl
  have hf_7 := blk_frozen BK.out 7
  have hc_8 : w201_.cell? ⟨g, 8, none⟩ = some (vS) := (blk_cell BK.out 8).trans rfl
  have hf_8 := blk_frozen BK.out 8
  have hc_9 : w201_.cell? ⟨g, 9, none⟩ = some (vR) := (blk_cell BK.out 9).trans rfl
  have hf_9 := blk_frozen BK.out 9
  have hc_10 : w201_.cell? ⟨g, 10, none⟩ = some (.bool (qs bs sh)) := (blk_cell BK.out 10).trans rfl
  have hf_10 := blk_frozen BK.out 10
  clear hB
  refine pu 0 44 #[true, false, false, false, false, false, false, false, false, false, false, false, false, false, false, false, false, false, false, false, false, false, false, false, false, false, false] rfl rfl (any_of HT_.out (by kernel_rfl)) (fun _ _ _ h => h) (by rfl) (fun w' => by go_simp; with_reducible rfl) (by simp only [Act.put, List.setIfInBounds_toArray, List.set_cons_zero, List.set_cons_succ, i64_w, i32_w]; rfl) ?_
  refine pu 1 45 #[true, true, false, false, false, false, false, false, false, false, false, false, false, false, false, false, false, false, false, false, false, false, false, false, false, false, false] rfl rfl (any_of HT_.out (by kernel_rfl)) (fun _ _ _ h => h) (by rfl) (fun w' => by go_simp; with_reducible rfl) (by simp only [Act.put, List.setIfInBounds_toArray, List.set_cons_zero, List.set_cons_succ, i64_w, i32_w]; rfl) ?_
  refine pu 2 46 #[true, true, true, false, false, false, false, false, false, false, false, false, false, false, false, false, false, false, false, false, false, false, false, false, false, false, false] rfl rfl (any_of HT_.out (by kernel_rfl)) (fun _ _ _ h => h) (by rfl) (fun w' => by go_simp; with_reducible rfl) (by simp only [Act.put, List.setIfInBounds_toArray, List.set_cons_zero, List.set_cons_succ, i64_w, i32_w]; rfl) ?_
  refine pu 3 47 #[true, true, true, true, false, false, false, false, false, false, false, false, false, false, false, false, false, false, false, false, false, false, false, false, false, false, false] rfl rfl (any_of HT_.out (by kernel_rfl)) (fun _ _ _ h => h) (by rfl) (fun w' => by go_simp; with_reducible rfl) (by simp only [Act.put, List.setIfInBounds_toArray, List.set_cons_zero, List.set_cons_succ, i64_w, i32_w]; rfl) ?_
  refine pu 4 48 #[true, true, true, true, true, false, false, false, false, false, false, false, false, false, false, false, false, false, false, false, false, false, false, false, false, false, false] rfl rfl (any_of HT_.out (by kernel_rfl)) (fun _ _ _ h => h) (by rfl) (fun w' => by go_simp; with_reducible rfl) (by simp only [Act.put, List.setIfInBounds_toArray, List.set_cons_zero, List.set_cons_succ, i64_w, i32_w]; rfl) ?_
  refine take_ (i := 5) (N := some 49) (v := ?_) (a' := ?_) #[true, true, true, true, true, true, false, false, false, false, false, false, false, false, false, false, false, false, false, false, false, false, false, false, false, false, false] rfl rfl (take_ofW HT_.out HW_.out (by kernel_rfl)) (fun _ _ _ h => h) (Or.inl ⟨by rfl, ?_⟩) hHeld ?_ ?_
  rotate_left
  · rintro w' s0
    have y0 := idx_cell0 (Kd.V_reads' (s0.V HV.out)).2.2 (by omega)
    have y1 := idx_cell (Kd.V_reads' (s0.V HV.out)).2.2 1 (by decide) (by omega)
    go_simp
    with_reducible rfl
  rotate_left
  · simp only [Act.put, List.setIfInBounds_toArray, List.set_cons_zero, List.set_cons_succ, i64_w, i32_w]
    rfl
  refine pu 6 50 #[true, true, true, true, true, true, true, false, false, false, false, false, false, false, false, false, false, false, false, false, false, false, false, false, false, false, false] rfl rfl (any_of HT_.out (by kernel_rfl)) (fun _ _ _ h => h) (by rfl) (fun w' => by go_simp; with_reducible rfl) (by simp only [Act.put, List.setIfInBounds_toArray, List.set_cons_zero, List.set_cons_succ, i64_w, i32_w]; rfl) ?_
  refine pu 7 51 #[true, true, true, true, true, true, true, true, false, false, false, false, false, false, false, false, false, false, false, false, false, false, false, false, false, false, false] rfl rfl (any_of HT_.out (by kernel_rfl)) (fun _ _ _ h => h) (by rfl) (fun w' => by go_simp; with_reducible rfl) (by simp only [Act.put, List.setIfInBounds_toArray, List.set_cons_zero, List.set_cons_succ, i64_w, i32_w]; rfl) ?_
  refine pu 8 52 #[true, true, true, true, true, true, true, true, true, false, false, false, false, false, false, false, false, false, false, false, false, false, false, false, false, false, false] rfl rfl (any_of HT_.out (by kernel_rfl)) (fun _ _ _ h => h) (by rfl) (fun w' => by go_simp; with_reducible rfl) (by simp only [Act.put, List.setIfInBounds_toArray, List.set_cons_zero, List.set_cons_succ, i64_w, i32_w]; rfl) ?_
  refine take_ (i := 9) (N := some 53) (v := ?_) (a' := ?_) #[true, true, true, true, true, true, true, true, true, true, false, false, false, false, false, false, false, false, false, false, false, false, false, false, false, false, false] rfl rfl (take_ofW HT_.out HW_.out (by kernel_rfl)) (fun _ _ _ h => h) (Or.inl ⟨by rfl, ?_⟩) hHeld ?_ ?_
  rotate_left
  · rintro w' s0
    have y0 := idx_cell0 (Kd.V_reads' (s0.V HV.out)).2.2 (by omega)
    have y1 := idx_cell (Kd.V_reads' (s0.V HV.out)).2.2 1 (by decide) (by omega)
    go_simp
    with_reducible rfl
  rotate_left
  · simp only [Act.put, List.setIfInBounds_toArray, List.set_cons_zero, List.set_cons_succ, i64_w, i32_w]
    rfl
  refine pu 10 54 #[true, true, true, true, true, true, true, true, true, true, true, false, false, false, false, false, false, false, false, false, false, false, false, false, false, false, false] rfl rfl (any_of HT_.out (by kernel_rfl)) (fun _ _ _ h => h) (by rfl) (fun w' => by go_simp; with_reducible rfl) (by simp only [Act.put, List.setIfInBounds_toArray, List.set_cons_zero, List.set_cons_succ, i64_w, i32_w]; rfl) ?_
  refine pu 11 55 #[true, true, true, true, true, true, true, true, true, true, true, true, false, false, false, false, false, false, false, false, false, false, false, false, false, false, false] rfl rfl (any_of HT_.out (by kernel_rfl)) (fun _ _ _ h => h) (by rfl) (fun w' => by go_simp; with_reducible rfl) (by simp only [Act.put, List.setIfInBounds_toArray, List.set_cons_zero, List.set_cons_succ, i64_w, i32_w]; rfl) ?_
  refine pu 12 56 #[true, true, true, true, true, true, true, true, true, true, true, true, true, false, false, false, false, false, false, false, false, false, false, false, false, false, false] rfl rfl (any_of HT_.out (by kernel_rfl)) (fun _ _ _ h => h) (by rfl) (fun w' => by go_simp; with_reducible rfl) (by simp only [Act.put, List.setIfInBounds_toArray, List.set_cons_zero, List.set_cons_succ, i64_w, i32_w]; rfl) ?_
  refine pu 13 57 #[true, true, true, true, true, true, true, true, true, true, true, true, true, true, false, false, false, false, false, false, false, false, false, false, false, false, false] rfl rfl (any_of HT_.out (by kernel_rfl)) (fun _ _ _ h => h) (by rfl) (fun w' => by go_simp; with_reducible rfl) (by simp only [Act.put, List.setIfInBounds_toArray, List.set_cons_zero, List.set_cons_succ, i64_w, i32_w]; rfl) ?_
  refine take_ (i := 14) (N := some 58) (v := ?_) (a' := ?_) #[true, true, true, true, true, true, true, true, true, true, true, true, true, true, true, false, false, false, false, false, false, false, false, false, false, false, false] rfl rfl (take_ofW HT_.out HW_.out (by kernel_rfl)) (fun _ _ _ h => h) (Or.inl ⟨by rfl, ?_⟩) hHeld ?_ ?_
  rotate_left
  · rintro w' s0
    have y0 := idx_cell0 (Kd.V_reads' (s0.V HV.out)).2.2 (by omega)
    have y1 := idx_cell (Kd.V_reads' (s0.V HV.out)).2.2 1 (by decide) (by omega)
    go_simp
    with_reducible rfl
  rotate_left
  · simp only [Act.put, List.setIfInBounds_toArray, List.set_cons_zero, List.set_cons_succ, i64_w, i32_w]
    rfl
  refine pu 15 59 #[true, true, true, true, true, true, true, true, true, true, true, true, true, true, true, true, false, false, false, false, false, false, false, false, false, false, false] rfl rfl (any_of HT_.out (by kernel_rfl)) (fun _ _ _ h => h) (by rfl) (fun w' => by go_simp; with_reducible rfl) (by simp only [Act.put, List.setIfInBounds_toArray, List.set_cons_zero, List.set_cons_succ, i64_w, i32_w]; rfl) ?_
  refine pu 16 60 #[true, true, true, true, true, true, true, true, true, true, true, true, true, true, true, true, true, false, false, false, false, false, false, false, false, false, false] rfl rfl (any_of HT_.out (by kernel_rfl)) (fun _ _ _ h => h) (by rfl) (fun w' => by go_simp; with_reducible rfl) (by simp only [Act.put, List.setIfInBounds_toArray, List.set_cons_zero, List.set_cons_succ, i64_w, i32_w]; rfl) ?_
  refine pu 17 61 #[true, true, true, true, true, true, true, true, true, true, true, true, true, true, true, true, true, true, false, false, false, false, false, false, false, false, false] rfl rfl (any_of HT_.out (by kernel_rfl)) (fun _ _ _ h => h) (by rfl) (fun w' => by go_simp; with_reducible rfl) (by simp only [Act.put, List.setIfInBounds_toArray, List.set_cons_zero, List.set_cons_succ, i64_w, i32_w]; rfl) ?_
  refine one_ (i := 18) (N := none) #[true, true, true, true, true, true, true, true, true, true, true, true, true, true, true, true, true, true, true, false, false, false, false, false, false, false, false] rfl rfl (one_of HT_.out (by kernel_rfl)) (by decide) (fun K hK => ?_)
  refine skip_ (w1 := ?_) (by rfl) rfl ?_ ?_
  rotate_left
  · go_simp
    rfl
  have nHR := Aside0.mk (HR1.out.set 6 (.int .u8 (Go.bits .and .u8 (rd x 0) 7)))
  have nBK : Aside0 ((w201_.setCell ⟨g, 6, none⟩ (.int .u8 (Go.bits .and .u8 (rd x 0) 7))).heap[g]? = some (.cells #[.slice A3 (qb bs sh).length c3, .int .u8 k, .int .i64 3, .int .u8 code, .int .u32 (av (tkx 4 bs sh)), .bool quiet, .int .u8 (Go.bits .and .u8 (rd x 0) 7), .int .u8 every, vS, vR, .bool (qs bs sh)] 66 (0, 0))) := ⟨blk_put (cs := #[.slice A3 (qb bs sh).length c3, .int .u8 k, .int .i64 3, .int .u8 code, .int .u32 (av (tkx 4 bs sh)), .bool quiet, .int .u8 rob, .int .u8 every, vS, vR, .bool (qs bs sh)]) BK.out 6 (.int .u8 (Go.bits .and .u8 (rd x 0) 7)) rfl⟩
  clear hc_0 hf_0 hc_1 hf_1 hc_2 hf_2 hc_3 hf_3 hc_4 hf_4 hc_5 hf_5 hc_6 hf_6 hc_7 hf_7 hc_8 hf_8 hc_9 hf_9 hc_10 hf_10
  clear HR1 BK
  generalize (w201_.setCell ⟨g, 6, none⟩ (.int .u8 (Go.bits .and .u8 (rd x 0) 7))) = w202_ at nHR nBK ⊢
  have HR1 := nHR
  have BK := nBK
  clear nHR nBK
  have hc_0 : w202_.cell? ⟨g, 0, none⟩ = some (.slice A3 (qb bs sh).length c3) := (blk_cell BK.out 0).trans rfl
  have hf_0 := blk_frozen BK.out 0
  have hc_1 : w202_.cell? ⟨g, 1, none⟩ = some (.int .u8 k) := (blk_cell BK.out 1).trans rfl
  have hf_1 := blk_frozen BK.out 1
  have hc_2 : w202_.cell? ⟨g, 2, none⟩ = some (.int .i64 3) := (blk_cell BK.out 2).trans rfl
  have hf_2 := blk_frozen BK.out 2
  have hc_3 : w202_.cell? ⟨g, 3, none⟩ = some (.int .u8 code) := (blk_cell BK.out 3).trans rfl
  have hf_3 := blk_frozen BK.out 3
  have hc_4 : w202_.cell? ⟨g, 4, none⟩ = some (.int .u32 (av (tkx 4 bs sh))) := (blk_cell BK.out 4).trans rfl
  have hf_4 := blk_frozen BK.out 4
  have hc_5 : w202_.cell? ⟨g, 5, none⟩ = some (.bool quiet) := (blk_cell BK.out 5).trans rfl
  have hf_5 := blk_frozen BK.out 5
  have hc_6 : w202_.cell? ⟨g, 6, none⟩ = some (.int .u8 (Go.bits .and .u8 (rd x 0) 7)) := (blk_cell BK.out 6).trans rfl
  have hf_6 := blk_frozen BK.out 6
  have hc_7 : w202_.cell? ⟨g, 7, none⟩ = some (.int .u8 every) := (blk_cell BK.out 7).trans rfl
  have hf_7 := blk_frozen BK.out 7
  have hc_8 : w202_.cell? ⟨g, 8, none⟩ = some (vS) := (blk_cell BK.out 8).trans rfl
  have hf_8 := blk_frozen BK.out 8
  have hc_9 : w202_.cell? ⟨g, 9, none⟩ = some (vR) := (blk_cell BK.out 9).trans rfl
  have hf_9 := blk_frozen BK.out 9
  have hc_10 : w202_.cell? ⟨g, 10, none⟩ = some (.bool (qs bs sh)) := (blk_cell BK.out 10).trans rfl
  have hf_10 := blk_frozen BK.out 10
  refine hK.out _ _ HR1.out (fun hHeld => ?_)
  clear hK K
  refine pu 19 62 #[true, true, true, true, true, true, true, true, true, true, true, true, true, true, true, true, true, true, true, true, false, false, false, false, false, false, false] rfl rfl (any_of HT_.out (by kernel_rfl)) (fun _ _ _ h => h) (by rfl) (fun w' => by go_simp; with_reducible rfl) (by simp only [Act.put, List.setIfInBounds_toArray, List.set_cons_zero, List.set_cons_succ, i64_w, i32_w]; rfl) ?_
  refine pu 20 63 #[true, true, true, true, true, true, true, true, true, true, true, true, true, true, true, true, true, true, true, true, true, false, false, false, false, false, false] rfl rfl (any_of HT_.out (by kernel_rfl)) (fun _ _ _ h => h) (by rfl) (fun w' => by go_simp; with_reducible rfl) (by simp only [Act.put, List.setIfInBounds_toArray, List.set_cons_zero, List.set_cons_succ, i64_w, i32_w]; rfl) ?_
  refine pu 21 64 #[true, true, true, true, true, true, true, true, true, true, true, true, true, true, true, true, true, true, true, true, true, true, false, false, false, false, false] rfl rfl (any_of HT_.out (by kernel_rfl)) (fun _ _ _ h => h) (by rfl) (fun w' => by go_simp; with_reducible rfl) (by simp only [Act.put, List.setIfInBounds_toArray, List.set_cons_zero, List.set_cons_succ, i64_w, i32_w]; rfl) ?_
  refine one_ (i := 22) (N := none) #[true, true, true, true, true, true, true, true, true, true, true, true, true, true, true, true, true, true, true, true, true, true, true, false, false, false, false] rfl rfl (one_of HT_.out (by kernel_rfl)) (by decide) (fun K hK => ?_)
  refine skip_ (w1 := ?_) (by rfl) rfl ?_ ?_
  rotate_left
  · go_simp
    rfl
  have nHR := Aside0.mk (HR1.out.set 5 (.bool (Go.bits .and .u8 (rd x 0) 8 != 0)))
  have nBK : Aside0 ((w202_.setCell ⟨g, 5, none⟩ (.bool (Go.bits .and .u8 (rd x 0) 8 != 0))).heap[g]? = some (.cells #[.slice A3 (qb bs sh).length c3, .int .u8 k, .int .i64 3, .int .u8 code, .int .u32 (av (tkx 4 bs sh)), .bool (Go.bits .and .u8 (rd x 0) 8 != 0), .int .u8 (Go.bits .and .u8 (rd x 0) 7), .int .u8 every, vS, vR, .bool (qs bs sh)] 66 (0, 0))) := ⟨blk_put (cs := #[.slice A3 (qb bs sh).length c3, .int .u8 k, .int .i64 3, .int .u8 code, .int .u32 (av (tkx 4 bs sh)), .bool quiet, .int .u8 (Go.bits .and .u8 (rd x 0) 7), .int .u8 every, vS, vR, .bool (qs bs sh)]) BK.out 5 (.bool (Go.bits .and .u8 (rd x 0) 8 != 0)) rfl⟩
  clear hc_0 hf_0 hc_1 hf_1 hc_2 hf_2 hc_3 hf_3 hc_4 hf_4 hc_5 hf_5 hc_6 hf_6 hc_7 hf_7 hc_8 hf_8 hc_9 hf_9 hc_10 hf_10
  clear HR1 BK
  generalize (w202_.setCell ⟨g, 5, none⟩ (.bool (Go.bits .and .u8 (rd x 0) 8 != 0))) = w203_ at nHR nBK ⊢
  have HR1 := nHR
  have BK := nBK
  clear nHR nBK
  have hc_0 : w203_.cell? ⟨g, 0, none⟩ = some (.slice A3 (qb bs sh).length c3) := (blk_cell BK.out 0).trans rfl
  have hf_0 := blk_frozen BK.out 0
  have hc_1 : w203_.cell? ⟨g, 1, none⟩ = some (.int .u8 k) := (blk_cell BK.out 1).trans rfl
  have hf_1 := blk_frozen BK.out 1
  have hc_2 : w203_.cell? ⟨g, 2, none⟩ = some (.int .i64 3) := (blk_cell BK.out 2).trans rfl
  have hf_2 := blk_frozen BK.out 2
  have hc_3 : w203_.cell? ⟨g, 3, none⟩ = some (.int .u8 code) := (blk_cell BK.out 3).trans rfl
  have hf_3 := blk_frozen BK.out 3
  have hc_4 : w203_.cell? ⟨g, 4, none⟩ = some (.int .u32 (av (tkx 4 bs sh))) := (blk_cell BK.out 4).trans rfl
  have hf_4 := blk_frozen BK.out 4
  have hc_5 : w203_.cell? ⟨g, 5, none⟩ = some (.bool (Go.bits .and .u8 (rd x 0) 8 != 0)) := (blk_cell BK.out 5).trans rfl
  have hf_5 := blk_frozen BK.out 5
  have hc_6 : w203_.cell? ⟨g, 6, none⟩ = some (.int .u8 (Go.bits .and .u8 (rd x 0) 7)) := (blk_cell BK.out 6).trans rfl
  have hf_6 := blk_frozen BK.out 6
  have hc_7 : w203_.cell? ⟨g, 7, none⟩ = some (.int .u8 every) := (blk_cell BK.out 7).trans rfl
  have hf_7 := blk_frozen BK.out 7
  have hc_8 : w203_.cell? ⟨g, 8, none⟩ = some (vS) := (blk_cell BK.out 8).trans rfl
  have hf_8 := blk_frozen BK.out 8
  have hc_9 : w203_.cell? ⟨g, 9, none⟩ = some (vR) := (blk_cell BK.out 9).trans rfl
  have hf_9 := blk_frozen BK.out 9
  have hc_10 : w203_.cell? ⟨g, 10, none⟩ = some (.bool (qs bs sh)) := (blk_cell BK.out 10).trans rfl
  have hf_10 := blk_frozen BK.out 10
  refine hK.out _ _ HR1.out (fun hHeld => ?_)
  clear hK K
  refine pu 23 65 #[true, true, true, true, true, true, true, true, true, true, true, true, true, true, true, true, true, true, true, true, true, true, true, true, false, false, false] rfl rfl (any_of HT_.out (by kernel_rfl)) (fun _ _ _ h => h) (by rfl) (fun w' => by go_simp; with_reducible rfl) (by simp only [Act.put, List.setIfInBounds_toArray, List.set_cons_zero, List.set_cons_succ, i64_w, i32_w]; rfl) ?_
  refine pu 24 66 #[true, true, true, true, true, true, true, true, true, true, true, true, true, true, true, true, true, true, true, true, true, true, true, true, true, false, false] rfl rfl (any_of HT_.out (by kernel_rfl)) (fun _ _ _ h => h) (by rfl) (fun w' => by go_simp; with_reducible rfl) (by simp only [Act.put, List.setIfInBounds_toArray, List.set_cons_zero, List.set_cons_succ, i64_w, i32_w]; rfl) ?_
  refine pu 25 67 #[true, true, true, true, true, true, true, true, true, true, true, true, true, true, true, true, true, true, true, true, true, true, true, true, true, true, false] rfl rfl (any_of HT_.out (by kernel_rfl)) (fun _ _ _ h => h) (by rfl) (fun w' => by go_simp; with_reducible rfl) (by simp only [Act.put, List.setIfInBounds_toArray, List.set_cons_zero, List.set_cons_succ, i64_w, i32_w]; rfl) ?_
  refine one_ (i := 26) (N := none) #[true, true, true, true, true, true, true, true, true, true, true, true, true, true, true, true, true, true, true, true, true, true, true, true, true, true, true] rfl rfl (one_of HT_.out (by kernel_rfl)) (by decide) (fun K hK => ?_)
  refine skip_ (w1 := ?_) (by rfl) rfl ?_ ?_
  rotate_left
  · go_simp
    rfl
  have nHR := Aside0.mk (HR1.out.set 7 (.int .u8 (rd x 1)))
  have nBK : Aside0 ((w203_.setCell ⟨g, 7, none⟩ (.int .u8 (rd x 1))).heap[g]? = some (.cells #[.slice A3 (qb bs sh).length c3, .int .u8 k, .int .i64 3, .int .u8 code, .int .u32 (av (tkx 4 bs sh)), .bool (Go.bits .and .u8 (rd x 0) 8 != 0), .int .u8 (Go.bits .and .u8 (rd x 0) 7), .int .u8 (rd x 1), vS, vR, .bool (qs bs sh)] 66 (0, 0))) := ⟨blk_put (cs := #[.slice A3 (qb bs sh).length c3, .int .u8 k, .int .i64 3, .int .u8 code, .int .u32 (av (tkx 4 bs sh)), .bool (Go.bits .and .u8 (rd x 0) 8 != 0), .int .u8 (Go.bits .and .u8 (rd x 0) 7), .int .u8 every, vS, vR, .bool (qs bs sh)]) BK.out 7 (.int .u8 (rd x 1)) rfl⟩
  clear hc_0 hf_0 hc_1 hf_1 hc_2 hf_2 hc_3 hf_3 hc_4 hf_4 hc_5 hf_5 hc_6 hf_6 hc_7 hf_7 hc_8 hf_8 hc_9 hf_9 hc_10 hf_10
  clear HR1 BK
  generalize (w203_.setCell ⟨g, 7, none⟩ (.int .u8 (rd x 1))) = w204_ at nHR nBK ⊢
  have HR1 := nHR
  have BK := nBK
  clear nHR nBK
  have hc_0 : w204_.cell? ⟨g, 0, none⟩ = some (.slice A3 (qb bs sh).length c3) := (blk_cell BK.out 0).trans rfl
  have hf_0 := blk_frozen BK.out 0
  have hc_1 : w204_.cell? ⟨g, 1, none⟩ = some (.int .u8 k) := (blk_cell BK.out 1).trans rfl
  have hf_1 := blk_frozen BK.out 1
  have hc_2 : w204_.cell? ⟨g, 2, none⟩ = some (.int .i64 3) := (blk_cell BK.out 2).trans rfl
  have hf_2 := blk_frozen BK.out 2
  have hc_3 : w204_.cell? ⟨g, 3, none⟩ = some (.int .u8 code) := (blk_cell BK.out 3).trans rfl
  have hf_3 := blk_frozen BK.out 3
  have hc_4 : w204_.cell? ⟨g, 4, none⟩ = some (.int .u32 (av (tkx 4 bs sh))) := (blk_cell BK.out 4).trans rfl
  have hf_4 := blk_frozen BK.out 4
  have hc_5 : w204_.cell? ⟨g, 5, none⟩ = some (.bool (Go.bits .and .u8 (rd x 0) 8 != 0)) := (blk_cell BK.out 5).trans rfl
  have hf_5 := blk_frozen BK.out 5
  have hc_6 : w204_.cell? ⟨g, 6, none⟩ = some (.int .u8 (Go.bits .and .u8 (rd x 0) 7)) := (blk_cell BK.out 6).trans rfl
  have hf_6 := blk_frozen BK.out 6
  have hc_7 : w204_.cell? ⟨g, 7, none⟩ = some (.int .u8 (rd x 1)) := (blk_cell BK.out 7).trans rfl
  have hf_7 := blk_frozen BK.out 7
  have hc_8 : w204_.cell? ⟨g, 8, none⟩ = some (vS) := (blk_cell BK.out 8).trans rfl
  have hf_8 := blk_frozen BK.out 8
  have hc_9 : w204_.cell? ⟨g, 9, none⟩ = some (vR) := (blk_cell BK.out 9).trans rfl
  have hf_9 := blk_frozen BK.out 9
  have hc_10 : w204_.cell? ⟨g, 10, none⟩ = some (.bool (qs bs sh)) := (blk_cell BK.out 10).trans rfl
  have hf_10 := blk_frozen BK.out 10
  refine hK.out _ _ HR1.out (fun hHeld => ?_)
  clear hK K
  refine done_ (done_of HT_.out (by kernel_rfl)) ?_
  have HR4 := Aside0.mk (HR.out.trans HR1.out)
  have HB4 := Aside0.mk (HR4.out.below HB.out HG.out)
  clear HR HR1
  clear hc_0 hf_0 hc_1 hf_1 hc_2 hf_2 hc_3 hf_3 hc_4 hf_4 hc_5 hf_5 hc_6 hf_6 hc_7 hf_7 hc_8 hf_8 hc_9 hf_9 hc_10 hf_10
  go_wp2_with (first | (go_at_call 57; with_reducible refine (two_q HB4.out HG.out BK.out HC3.out HK3.out HQB.out).mono ?_; rintro e w5 ⟨A5, c5, rfl, hbx, hC5, hK5, hR⟩; clear BK; have BK := Aside0.mk hbx; have HC5 := Aside0.mk hC5; have HK5 := Aside0.mk hK5; have HR5 := Aside0.mk (HR4.out.trans hR); have HB5 := Aside0.mk (HR5.out.below HB.out HG.out); clear hbx hC5 hK5 hR) | (go_at_call 56; with_reducible refine (addrs_q HB5.out HG.out BK.out HC5.out HK5.out HQB2.out HN.out).mono ?_; rintro e w6 ⟨v, A6, c6, rfl, hRw, hbx, hC6, hK6, hR⟩; clear BK; have BK := Aside0.mk hbx; have HC6 := Aside0.mk hC6; have HK6 := Aside0.mk hK6; have HL := Aside0.mk (Kd.R_lower hRw HR5.out.out.size); have HR6 := Aside0.mk (HR5.out.trans hR); clear hbx hC6 hK6 hRw hR; obtain ⟨A_v, c_v, rfl⟩ := Kd.R_slice HL.out; have hc_8 : w6.cell? ⟨g, 8, none⟩ = some (vS) := (blk_cell BK.out 8).trans rfl; have hf_8 := blk_frozen BK.out 8))
  go_end0
  refine ⟨_, A6, c6, rfl, Kd.R_keep HL.out ((RM.of_below (Below.refl _ _)).set 8 _).keep (fun _ hk => hk), ?_, HC6.out, HK6.out, HR6.out.set 8 _⟩
  have hb := blk_put (cs := #[.slice A6 (qa bs sh).2.1.length c6, .int .u8 k, .int .i64 3, .int .u8 code, .int .u32 (av (tkx 4 bs sh)), .bool (Go.bits .and .u8 (rd x 0) 8 != 0), .int .u8 (Go.bits .and .u8 (rd x 0) 7), .int .u8 (rd x 1), vS, vR, .bool (qa bs sh).2.2]) BK.out 8 (.slice A_v (qa bs sh).1.length c_v) rfl
  rw [HXQ.out] at hb
  exact hb
end Go.Proofs.Ytmmjmncchckbbaa
