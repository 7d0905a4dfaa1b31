/-
  The reader of messages: report.
-/
import Derived.Test.YtmmjmncchckbbaaIgQ
namespace Go.Proofs.Ytmmjmncchckbbaa
open Go.RowKit Go.Proofs.YtmmjmncchckbbaaW.PrintWords Go.Proofs.YtmmjmncchckbbaaW.PrintLast Go.Proofs.YtmmjmncchckbbaaW.PrintMore Go.Proofs.Ytmmjmncchckbbaa.PIg
set_option linter.unusedVariables false
set_option linter.unusedSimpArgs false
def report_T : Bool × List (List Nat × List Nat) := (true, [([], []), ([], []), ([1], [1]), ([2], [2]), ([3], [3]), ([4], [4]), ([], []), ([6], [6]), ([7], [7]), ([], []), ([], []), ([], []), ([10, 11], [10, 11]), ([8, 9, 12], [8, 9, 12]), ([13], [13]), ([5, 14, 12], [5, 14]), ([0, 0, 1, 2, 3, 4, 5, 6, 7, 8, 9, 10, 11, 12, 13, 14, 15], [0]), ([16, 0, 1, 2, 3, 4, 5, 6, 7, 8, 9, 10, 11, 12, 13, 14, 15], [16]), ([17, 0, 1, 2, 3, 4, 5, 6, 7, 8, 9, 10, 11, 12, 13, 14, 15], [17]), ([18, 15, 15, 0, 1, 2, 3, 4, 5, 6, 7, 8, 9, 10, 11, 12, 13, 14, 15], [15, 18])])
def report_B : List Nat := [0, 0, 2, 6, 14, 30, 0, 64, 192, 0, 0, 0, 3072, 8128, 16320, 32766, 65535, 131071, 262143, 524287]
theorem report_t : rtab .any (opsOf Try.f43 8) = report_T := by kernel_rfl
theorem report_b : waitsOk report_T.2 report_B = true := by kernel_rfl
/-- A record as it is read: two bytes, how many sources, the group, they. -/
def rx (bs : List Int) (sh : Bool) : List Int := tkx 2 bs sh
def rb (bs : List Int) (sh : Bool) : List Int := tkb 2 bs sh
def rs (bs : List Int) (sh : Bool) : Bool := tks 2 bs sh
def rn (bs : List Int) (sh : Bool) : Nat := (be2 (tkx 2 (rb bs sh) (rs bs sh))).toNat
def rb2 (bs : List Int) (sh : Bool) : List Int := tkb 2 (rb bs sh) (rs bs sh)
def rs2 (bs : List Int) (sh : Bool) : Bool := tks 2 (rb bs sh) (rs bs sh)
def rg (bs : List Int) (sh : Bool) : Int := av (tkx 4 (rb2 bs sh) (rs2 bs sh))
def rb3 (bs : List Int) (sh : Bool) : List Int := tkb 4 (rb2 bs sh) (rs2 bs sh)
def rs3 (bs : List Int) (sh : Bool) : Bool := tks 4 (rb2 bs sh) (rs2 bs sh)
def ra (bs : List Int) (sh : Bool) : List Int × List Int × Bool := ads (rn bs sh) (rb3 bs sh) (rs3 bs sh)
def rrec (bs : List Int) (sh : Bool) : S44 := ⟨rd (rx bs sh) 0, rg bs sh, (ra bs sh).1⟩
/-- So many records, as far as there are bytes: they, what stays, whether it was too short. -/
def rcs : Nat → List Int → Bool → List S44 × List Int × Bool
  | 0, bs, sh => ([], bs, sh)
  | n + 1, bs, sh => if sh = true then ([], bs, sh) else (rrec bs sh :: (rcs n (ra bs sh).2.1 (ra bs sh).2.2).1, (rcs n (ra bs sh).2.1 (ra bs sh).2.2).2)
theorem rcs_sh (n : Nat) (bs : List Int) : rcs n bs true = ([], bs, true) := by cases n <;> rfl
theorem rb_byt {bs : List Int} {sh : Bool} (h : Byt bs) : Byt (rb bs sh) := tkb_byt h
theorem rb2_byt {bs : List Int} {sh : Bool} (h : Byt bs) : Byt (rb2 bs sh) := tkb_byt (rb_byt h)
theorem rb3_byt {bs : List Int} {sh : Bool} (h : Byt bs) : Byt (rb3 bs sh) := tkb_byt (rb2_byt h)
theorem ra_byt {bs : List Int} {sh : Bool} (h : Byt bs) : Byt (ra bs sh).2.1 := ads_byt _ _ _ (rb3_byt h)
theorem rn_le {bs : List Int} {sh : Bool} (h : Byt bs) : rn bs sh ≤ 65535 := (be2_nat (tkx_byt (m := 2) (sh := rs bs sh) (rb_byt h))).2
theorem take_o {w0 w : World} {g : Nat} {A : Option Addr} {c : Nat} {bs : List Int} {k ver code grp rob every : Int} {quiet : Bool} {vS vR : Value} {sh : Bool} (hB : Below w0.heap.size w0 w) (hg : w0.heap.size ≤ g) (h : w.heap[g]? = some (.cells #[.slice A bs.length c, .int .u8 k, .int .i64 ver, .int .u8 code, .int .u32 grp, .bool quiet, .int .u8 rob, .int .u8 every, vS, vR, .bool sh] 66 (0, 0))) (hC : Kd.C (Kd.int .u8) w0 A bs.length bs) (hc : bs.length ≤ c) :
    Calls Try.prog 55 #[.pointer (some ⟨g, 0, none⟩), .int .i64 2] w fun e w' => ∃ A1 c1 A2 c2, e = .returned (.slice A1 (rx bs sh).length c1) ∧ Kd.V (Kd.int .u8) 5 w' 0 (fun k => k ≠ g) (.slice A1 (rx bs sh).length c1) (rx bs sh) ∧ w'.heap[g]? = some (.cells #[.slice A2 (rb bs sh).length c2, .int .u8 k, .int .i64 ver, .int .u8 code, .int .u32 grp, .bool quiet, .int .u8 rob, .int .u8 every, vS, vR, .bool (rs bs sh)] 66 (0, 0)) ∧ Kd.C (Kd.int .u8) w0 A2 (rb bs sh).length (rb bs sh) ∧ (rb bs sh).length ≤ c2 ∧ RM w w' g := take_2 hB hg h hC hc
theorem two_o {w0 w : World} {g : Nat} {A : Option Addr} {c : Nat} {bs : List Int} {k ver code grp rob every : Int} {quiet : Bool} {vS vR : Value} {sh : Bool} (hB : Below w0.heap.size w0 w) (hg : w0.heap.size ≤ g) (h : w.heap[g]? = some (.cells #[.slice A bs.length c, .int .u8 k, .int .i64 ver, .int .u8 code, .int .u32 grp, .bool quiet, .int .u8 rob, .int .u8 every, vS, vR, .bool sh] 66 (0, 0))) (hC : Kd.C (Kd.int .u8) w0 A bs.length bs) (hc : bs.length ≤ c) (hby : Byt bs) :
    Calls Try.prog 57 #[.pointer (some ⟨g, 0, none⟩)] w fun e w' => ∃ A2 c2, e = .returned (.int .i64 (be2 (rx bs sh))) ∧ w'.heap[g]? = some (.cells #[.slice A2 (rb bs sh).length c2, .int .u8 k, .int .i64 ver, .int .u8 code, .int .u32 grp, .bool quiet, .int .u8 rob, .int .u8 every, vS, vR, .bool (rs bs sh)] 66 (0, 0)) ∧ Kd.C (Kd.int .u8) w0 A2 (rb bs sh).length (rb bs sh) ∧ (rb bs sh).length ≤ c2 ∧ RM w w' g := two_w hB hg h hC hc hby
theorem two_r {w0 w : World} {g : Nat} {A : Option Addr} {c : Nat} {bs : List Int} {k ver code grp rob every : Int} {quiet : Bool} {vS vR : Value} {sh : Bool} (hB : Below w0.heap.size w0 w) (hg : w0.heap.size ≤ g) (h : w.heap[g]? = some (.cells #[.slice A (rb bs sh).length c, .int .u8 k, .int .i64 ver, .int .u8 code, .int .u32 grp, .bool quiet, .int .u8 rob, .int .u8 every, vS, vR, .bool (rs bs sh)] 66 (0, 0))) (hC : Kd.C (Kd.int .u8) w0 A (rb bs sh).length (rb bs sh)) (hc : (rb bs sh).length ≤ c) (hby : Byt (rb bs sh)) :
    Calls Try.prog 57 #[.pointer (some ⟨g, 0, none⟩)] w fun e w' => ∃ A2 c2, e = .returned (.int .i64 (rn bs sh : Nat)) ∧ w'.heap[g]? = some (.cells #[.slice A2 (rb2 bs sh).length c2, .int .u8 k, .int .i64 ver, .int .u8 code, .int .u32 grp, .bool quiet, .int .u8 rob, .int .u8 every, vS, vR, .bool (rs2 bs sh)] 66 (0, 0)) ∧ Kd.C (Kd.int .u8) w0 A2 (rb2 bs sh).length (rb2 bs sh) ∧ (rb2 bs sh).length ≤ c2 ∧ RM w w' g := by
  have h := two_w hB hg h hC hc hby
  rw [(be2_nat (tkx_byt (m := 2) (sh := rs bs sh) hby)).1] at h
  exact h
theorem addr_r {w0 w : World} {g : Nat} {A : Option Addr} {c : Nat} {bs : List Int} {k ver code grp rob every : Int} {quiet : Bool} {vS vR : Value} {sh : Bool} (hB : Below w0.heap.size w0 w) (hg : w0.heap.size ≤ g) (h : w.heap[g]? = some (.cells #[.slice A (rb2 bs sh).length c, .int .u8 k, .int .i64 ver, .int .u8 code, .int .u32 grp, .bool quiet, .int .u8 rob, .int .u8 every, vS, vR, .bool (rs2 bs sh)] 66 (0, 0))) (hC : Kd.C (Kd.int .u8) w0 A (rb2 bs sh).length (rb2 bs sh)) (hc : (rb2 bs sh).length ≤ c) (hby : Byt (rb2 bs sh)) :
    Calls Try.prog 58 #[.pointer (some ⟨g, 0, none⟩)] w fun e w' => ∃ A2 c2, e = .returned (.int .u32 (rg bs sh)) ∧ w'.heap[g]? = some (.cells #[.slice A2 (rb3 bs sh).length c2, .int .u8 k, .int .i64 ver, .int .u8 code, .int .u32 grp, .bool quiet, .int .u8 rob, .int .u8 every, vS, vR, .bool (rs3 bs sh)] 66 (0, 0)) ∧ Kd.C (Kd.int .u8) w0 A2 (rb3 bs sh).length (rb3 bs sh) ∧ (rb3 bs sh).length ≤ c2 ∧ RM w w' g := addr_w hB hg h hC hc hby
theorem addrs_o {w0 w : World} {g : Nat} {A : Option Addr} {c : Nat} {bs : List Int} {k ver code grp rob every : Int} {quiet : Bool} {vS vR : Value} {sh : Bool} (hB : Below w0.heap.size w0 w) (hg : w0.heap.size ≤ g) (h : w.heap[g]? = some (.cells #[.slice A (rb3 bs sh).length c, .int .u8 k, .int .i64 ver, .int .u8 code, .int .u32 grp, .bool quiet, .int .u8 rob, .int .u8 every, vS, vR, .bool (rs3 bs sh)] 66 (0, 0))) (hC : Kd.C (Kd.int .u8) w0 A (rb3 bs sh).length (rb3 bs sh)) (hc : (rb3 bs sh).length ≤ c) (hby : Byt (rb3 bs sh)) (hn : rn bs sh ≤ 100000) :
    Calls Try.prog 56 #[.pointer (some ⟨g, 0, none⟩), .int .i64 (rn bs sh : Nat)] w fun e w' => ∃ v A2 c2, e = .returned (v) ∧ Kd.R (Kd.int .u32) 23 w' w.heap.size (fun k => k ≠ g) v (ra bs sh).1 ∧ w'.heap[g]? = some (.cells #[.slice A2 ((ra bs sh).2.1).length c2, .int .u8 k, .int .i64 ver, .int .u8 code, .int .u32 grp, .bool quiet, .int .u8 rob, .int .u8 every, vS, vR, .bool ((ra bs sh).2.2)] 66 (0, 0)) ∧ Kd.C (Kd.int .u8) w0 A2 ((ra bs sh).2.1).length ((ra bs sh).2.1) ∧ ((ra bs sh).2.1).length ≤ c2 ∧ RM w w' g := addrs_r hB hg h hC hc hby _ hn
set_option maxHeartbeats 8000000 in
set_option maxRecDepth 100000 in
theorem report_w {w0 w : World} {g : Nat} {A : Option Addr} {c : Nat} {bs : List Int} {k ver code grp rob every : Int} {quiet : Bool} {vS vR : Value} {sh : Bool} (hB : Below w0.heap.size w0 w) (hg : w0.heap.size ≤ g) (h : w.heap[g]? = some (.cells #[.slice A bs.length c, .int .u8 k, .int .i64 ver, .int .u8 code, .int .u32 grp, .bool quiet, .int .u8 rob, .int .u8 every, vS, .slice none 0 0, .bool sh] 66 (0, 0))) (hC : Kd.C (Kd.int .u8) w0 A bs.length bs) (hc : bs.length ≤ c) (hby : Byt bs) :
    Calls Try.prog 43 #[.pointer (some ⟨g, 0, none⟩)] w fun e w' => ∃ v A2 c2, e = .returned (.tuple #[]) ∧ Kd.N k44 44 w' w.heap.size (fun k => k ≠ g ∧ w.heap.size ≤ k) v (if be2 (rx bs sh) = 0 then (rcs (rn bs sh) (rb2 bs sh) (rs2 bs sh)).1 else List.replicate 33 z44) ∧ w'.heap[g]? = some (.cells #[.slice A2 (rcs (rn bs sh) (rb2 bs sh) (rs2 bs sh)).2.1.length c2, .int .u8 k, .int .i64 ver, .int .u8 code, .int .u32 grp, .bool quiet, .int .u8 rob, .int .u8 every, vS, v, .bool (rcs (rn bs sh) (rb2 bs sh) (rs2 bs sh)).2.2] 66 (0, 0)) ∧ Kd.C (Kd.int .u8) w0 A2 (rcs (rn bs sh) (rb2 bs sh) (rs2 bs sh)).2.1.length (rcs (rn bs sh) (rb2 bs sh) (rs2 bs sh)).2.1 ∧ (rcs (rn bs sh) (rb2 bs sh) (rs2 bs sh)).2.1.length ≤ c2 ∧ RM w w' g := by
  have HB := Aside0.mk hB
  have HG := Aside0.mk hg
  have BK := Aside0.mk h
  have HC := Aside0.mk hC
  have HK := Aside0.mk hc
  clear hB hg h hC hc
  have HBY := Aside0.mk hby
  have HBYB := Aside0.mk (rb_byt (sh := sh) hby)
  have HBYB2 := Aside0.mk (rb2_byt (sh := sh) hby)
  have hnl := rn_le (sh := sh) hby
  clear hby
  obtain ⟨n, hn⟩ : ∃ n_, n_ = rn bs sh := ⟨_, rfl⟩
  obtain ⟨q, hq⟩ : ∃ q_, q_ = rcs n (rb2 bs sh) (rs2 bs sh) := ⟨_, rfl⟩
  rw [← hn] at hnl ⊢
  rw [← hq]
  have HQ := Aside0.mk hq
  have HNQ := Aside0.mk hn
  have HN := Aside0.mk hnl
  clear hq hn hnl
  have HGW := Aside0.mk (blk_lt BK.out)
  obtain ⟨Po, hPo⟩ : ∃ P_ : Ending → World → Prop, P_ = fun e w' => ∃ v A2 c2, e = .returned (.tuple #[]) ∧ Kd.N k44 44 w' w.heap.size (fun k => k ≠ g ∧ w.heap.size ≤ k) v (if be2 (rx bs sh) = 0 then q.1 else List.replicate 33 z44) ∧ w'.heap[g]? = some (.cells #[.slice A2 q.2.1.length c2, .int .u8 k, .int .i64 ver, .int .u8 code, .int .u32 grp, .bool quiet, .int .u8 rob, .int .u8 every, vS, v, .bool q.2.2] 66 (0, 0)) ∧ Kd.C (Kd.int .u8) w0 A2 q.2.1.length q.2.1 ∧ q.2.1.length ≤ c2 ∧ RM w w' g := ⟨_, rfl⟩
  rw [← hPo]
  have HPO := Aside0.mk hPo
  clear hPo
  go_enter Try.func43, Try.ntmps43
  go_upto_region 2 with (first | (go_at_call 57; with_reducible refine (two_o HB.out HG.out BK.out HC.out HK.out HBY.out).mono ?_; rintro e w1 ⟨A1, c1, rfl, hbx, hC2, hK2, hR⟩; clear BK; have BK := Aside0.mk hbx; have HC1 := Aside0.mk hC2; have HK1 := Aside0.mk hK2; have HR1 := Aside0.mk hR; have HB1 := Aside0.mk (hR.below HB.out HG.out); clear hbx hC2 hK2 hR) | (go_at_call 57; with_reducible refine (two_r HB1.out HG.out BK.out HC1.out HK1.out HBYB.out).mono ?_; rintro e w2 ⟨A2, c2, rfl, hbx, hC2, hK2, hR⟩; clear BK; have BK := Aside0.mk hbx; have HC2 := Aside0.mk hC2; have HK2 := Aside0.mk hK2; have HR2 := Aside0.mk (HR1.out.trans hR); clear HC1 HK1 HR1 HB1 hbx hC2 hK2 hR; rw [← HNQ.out]))
  go_wp2
  go_loopg [4] n (fun gk v4 w' => ∃ (i : Nat) (l : List S44) (v : Value) (b1 : List Int) (s1 : Bool) (A1 : Option Addr) (c1 : Nat), v4 = .int .i64 i ∧ Aside0 (i ≤ n ∧ gk = n - i ∧ l.length ≤ i) ∧ Aside0 (l ++ (rcs (n - i) b1 s1).1 = q.1 ∧ (rcs (n - i) b1 s1).2 = q.2) ∧ Aside0 (Kd.N k44 44 w' w.heap.size (fun k => k ≠ g ∧ w.heap.size ≤ k) v l) ∧ Aside0 (w'.heap[g]? = some (.cells #[.slice A1 b1.length c1, .int .u8 k, .int .i64 ver, .int .u8 code, .int .u32 grp, .bool quiet, .int .u8 rob, .int .u8 every, vS, v, .bool s1] 66 (0, 0))) ∧ Aside0 (Kd.C (Kd.int .u8) w0 A1 b1.length b1) ∧ Aside0 (b1.length ≤ c1) ∧ Aside0 (Byt b1) ∧ Aside0 (RM w w' g))
  case atStart => exact ⟨0, [], _, _, _, A2, c2, rfl, ⟨Nat.zero_le _, by omega, Nat.zero_le _⟩, ⟨by rw [HQ.out]; exact ⟨rfl, rfl⟩⟩, ⟨Kd.N_nil _ _ _ _ _⟩, BK, HC2, HK2, HBYB2, HR2⟩
  case round =>
    clear BK HC HK HC2 HK2 HBY HBYB HBYB2 HR2
    obtain ⟨i, l, v, b1, s1, A1, c1, rfl, HI, HL, HNL, BK, HC, HK, HBY, HR⟩ := hrel
    obtain ⟨hi, hgk, hll⟩ := HI.out
    obtain ⟨A_l, c_l, rfl⟩ := Kd.N_slice HNL.out
    by_cases hlt : i < n
    · have c5b0 : decide ((i : Int) < (n : Int)) = true := decide_eq_true (by omega)
      cases s1
      case true =>
        have hc_9 : wr.cell? ⟨g, 9, none⟩ = some (.slice A_l l.length c_l) := (blk_cell BK.out 9).trans rfl
        have hf_9 := blk_frozen BK.out 9
        have hc_10 : wr.cell? ⟨g, 10, none⟩ = some (.bool true) := (blk_cell BK.out 10).trans rfl
        have hf_10 := blk_frozen BK.out 10
        by_cases hod : be2 (rx bs sh) = 0
        · have hodb : (be2 (rx bs sh) != 0) = false := by rw [hod]; rfl
          have HOD := Aside0.mk hod
          clear hod
          go_wp2
          go_end0
          have hl := HL.out
          rw [rcs_sh] at hl
          rw [HPO.out]
          rw [List.append_nil] at hl
          refine ⟨.slice A_l l.length c_l, A1, c1, rfl, ?_, ?_, ?_, ?_, HR.out⟩
          · rw [if_pos HOD.out, ← hl.1]; exact HNL.out
          · rw [← hl.2]; exact BK.out
          · rw [← hl.2]; exact HC.out
          · rw [← hl.2]; exact HK.out
        · have hodb : (be2 (rx bs sh) != 0) = true := bne_iff_ne.mpr hod
          have HOD := Aside0.mk hod
          clear hod
          have LTG := Aside0.mk (blk_lt BK.out)
          obtain ⟨y9, hy9⟩ : ∃ y_, y_ = List.replicate 33 z44 := ⟨_, rfl⟩
          have HY9 := Aside0.mk hy9
          clear hy9
          go_wp2_with (first | ((with_reducible refine gate_dst (N := 52) rfl ?_); refine Kd.N_make k44 (w0 := wr) wr.heap.size 44 rfl rfl 25 (.const (.int .i64 33)) (.const (.int .i64 33)) rfl (33 : Int) rfl rfl Try.underlying25 (.agg #[(.int .u8 0), (.int .u32 0), (.slice none 0 0)]) 32 info44 rfl (by decide) (by decide) z44 (ok := fun k => k ≠ g ∧ w.heap.size ≤ k) (okp := fun k => k ≠ g ∧ w.heap.size ≤ k) (Kd.FK_of_M (k44_mkM wr 0 (fun k => k ≠ g ∧ w.heap.size ≤ k) z44 (v2 := .slice none 0 0) (Kd.R_nil _ _ _ _ _))) (fun _ h => h) ⟨by have := LTG.out; omega, HR.out.out.size⟩ (by decide) (by decide) (Below.refl _ _) (Nat.le_refl _) ?_; intro v9 w9 hN hb hg_ hn_; replace hN : Kd.N k44 44 w9 w.heap.size (fun k => k ≠ g ∧ w.heap.size ≤ k) v9 (List.replicate 33 z44) := Kd.N_lower hN HR.out.out.size; rw [← HY9.out] at hN; have HN9 := Aside0.mk hN; have BK9 := Aside0.mk (blk_below BK.out hb); have HR9 := Aside0.mk (HR.out.trans (RM.of_below hb)); clear hN hb hg_ hn_; obtain ⟨A9, c9, rfl⟩ := Kd.N_slice HN9.out; have hc9_ : w9.cell? ⟨g, 9, none⟩ = some (.slice A_l l.length c_l) := (blk_cell BK9.out 9).trans rfl; have hf9_ := blk_frozen BK9.out 9))
          go_end0
          have hl := HL.out
          rw [rcs_sh] at hl
          rw [HPO.out]
          refine ⟨.slice A9 y9.length c9, A1, c1, rfl, ?_, ?_, ?_, ?_, HR9.out.set 9 _⟩
          · rw [if_neg HOD.out, ← HY9.out]; exact Kd.N_far (p := ⟨g, 9, none⟩) HN9.out (fun _ hk => hk.1) _
          · rw [← hl.2]; exact blk_put (cs := #[.slice A1 b1.length c1, .int .u8 k, .int .i64 ver, .int .u8 code, .int .u32 grp, .bool quiet, .int .u8 rob, .int .u8 every, vS, .slice A_l l.length c_l, .bool true]) BK9.out 9 _ rfl
          · rw [← hl.2]; exact HC.out
          · rw [← hl.2]; exact HK.out
      case false =>
        have hc_10 : wr.cell? ⟨g, 10, none⟩ = some (.bool false) := (blk_cell BK.out 10).trans rfl
        have hf_10 := blk_frozen BK.out 10
        have HBB := Aside0.mk (HR.out.below HB.out HG.out)
        have HBY1 := Aside0.mk (rb_byt (sh := false) HBY.out)
        have HBY2 := Aside0.mk (rb2_byt (sh := false) HBY.out)
        have HBY3 := Aside0.mk (rb3_byt (sh := false) HBY.out)
        have HBY5 := Aside0.mk (ra_byt (sh := false) HBY.out)
        have HN3 := Aside0.mk (Nat.le_trans (rn_le (sh := false) HBY.out) (by decide : 65535 ≤ 100000))
        have HXL := Aside0.mk (show (rx b1 false).length = 2 from tkx_len 2 _ _)
        go_upto_region 8 with (first | (go_at_call 55; with_reducible refine (take_o HBB.out HG.out BK.out HC.out HK.out).mono ?_; rintro e wa ⟨Ax, cx, A2, c2, rfl, hV, hbx, hC2, hK2, hR⟩; clear BK; have BK := Aside0.mk hbx; have HC2 := Aside0.mk hC2; have HK2 := Aside0.mk hK2; have HR2 := Aside0.mk (HR.out.trans hR); have HBw2 := Aside0.mk (HR2.out.below HB.out HG.out); have nN := Aside0.mk (Kd.N_keep HNL.out hR.keep (fun _ hk => hk.1)); clear HNL; have HNL := nN; clear nN; have HV := Aside0.mk hV; clear hV; clear hbx hC2 hK2 hR) | (go_at_call 57; with_reducible refine (two_r HBw2.out HG.out BK.out HC2.out HK2.out HBY1.out).mono ?_; rintro e wb ⟨A4, c4, rfl, hbx, hC2, hK2, hR⟩; clear BK; have BK := Aside0.mk hbx; have HC4 := Aside0.mk hC2; have HK4 := Aside0.mk hK2; have HR4 := Aside0.mk (HR2.out.trans hR); have HBw4 := Aside0.mk (HR4.out.below HB.out HG.out); have nN := Aside0.mk (Kd.N_keep HNL.out hR.keep (fun _ hk => hk.1)); clear HNL; have HNL := nN; clear nN; have nV := Aside0.mk (hR.V HV.out); clear HV; have HV := nV; clear nV; clear hbx hC2 hK2 hR) | (go_at_call 58; with_reducible refine (addr_r HBw4.out HG.out BK.out HC4.out HK4.out HBY2.out).mono ?_; rintro e w3 ⟨A3, c3, rfl, hbx, hC2, hK2, hR⟩; clear BK; have BK := Aside0.mk hbx; have HC3 := Aside0.mk hC2; have HK3 := Aside0.mk hK2; have HR3 := Aside0.mk (HR4.out.trans hR); have HBw3 := Aside0.mk (HR3.out.below HB.out HG.out); have nN := Aside0.mk (Kd.N_keep HNL.out hR.keep (fun _ hk => hk.1)); clear HNL; have HNL := nN; clear nN; have nV := Aside0.mk (hR.V HV.out); clear HV; have HV := nV; clear nV; clear hbx hC2 hK2 hR))
        obtain ⟨x, hx⟩ : ∃ x_, x_ = rx b1 false := ⟨_, rfl⟩
        rw [← hx] at HV HXL ⊢
        have HXQ := Aside0.mk hx
        clear hx
        have hxl := HXL.out
        obtain ⟨ad, rfl, _⟩ := Kd.at_int (Kd.V_reads' HV.out).2.2 0 (by omega) (by omega)
        have bn0 : ((0 : Int) < (x.length : Int)) = True := eq_true (by omega)
        have hp0 : 0 < x.length := by omega
        obtain ⟨y, hy⟩ : ∃ y_, y_ = (l ++ [(⟨rd x 0, rg b1 false, (ra b1 false).1⟩ : S44)]) := ⟨_, rfl⟩
        have HYL := Aside0.mk hy
        clear hy
        have LTG := Aside0.mk (blk_lt BK.out)
        have NLT := Aside0.mk (Kd.N_lt HNL.out)
        have HR1 := Aside0.mk (RM.of_below (g := g) (Below.refl w3.heap.size w3))
        have hc_9 : w3.cell? ⟨g, 9, none⟩ = some (.slice A_l l.length c_l) := (blk_cell BK.out 9).trans rfl
        have hf_9 := blk_frozen BK.out 9
        refine start_ (n := 20) (S := fun w' => RM w3 w' g ∧ w'.cell? ⟨g, 9, none⟩ = some (.slice A_l l.length c_l)) (ds := [15, 19]) #[false, false, false, false, false, false, false, false, false, false, false, false, false, false, false, false, false, false, false, false] (by kernel_rfl) rfl rfl ⟨HR1.out.trans (RM.of_below (below_drew (Below.refl _ _))), hc_9⟩ (fun hHeld => ?_); refine with_tabW report_t report_b (fun HT_ HW_ => ?_)
        have hB : Below w3.heap.size w3 w3.drew := below_drew (Below.refl _ _)
        generalize w3.drew = w4 at hB hHeld ⊢
        have nHR := Aside0.mk (HR1.out.trans (RM.of_below hB))
        clear HR1
        have HR1 := nHR
        clear nHR
        clear hc_9 hf_9
        have nBK := Aside0.mk (blk_below BK.out hB)
        clear BK
        have BK := nBK
        clear nBK
        have nN := Aside0.mk (Kd.N_below HNL.out hB)
        clear HNL
        have HNL := nN
        clear nN
        clear hB
        have hc_9 : w4.cell? ⟨g, 9, none⟩ = some (.slice A_l l.length c_l) := (blk_cell BK.out 9).trans rfl
        have hf_9 := blk_frozen BK.out 9
        have HB4 := Aside0.mk ((HR3.out.trans HR1.out).below HB.out HG.out)
        refine pure_ (i := 0) (N := some 31) (v := ?_) (a' := ?_) #[true, false, false, false, false, false, false, false, false, false, false, false, false, false, false, false, false, false, false, false] rfl rfl (any_of HT_.out (by kernel_rfl)) (fun _ _ _ h => h) (Or.inl ⟨by rfl, ?_⟩) ?_ ?_
        rotate_left
        · intro w'
          go_simp
          with_reducible rfl
        rotate_left
        · simp only [Act.put, List.setIfInBounds_toArray, List.set_cons_zero, List.set_cons_succ, i64_w, i32_w]
          rfl
        refine pure_ (i := 1) (N := some 32) (v := ?_) (a' := ?_) #[true, true, false, false, false, false, false, false, false, false, false, false, false, false, false, false, false, false, false, false] rfl rfl (any_of HT_.out (by kernel_rfl)) (fun _ _ _ h => h) (Or.inl ⟨by rfl, ?_⟩) ?_ ?_
        rotate_left
        · intro w'
          go_simp
          with_reducible rfl
        rotate_left
        · simp only [Act.put, List.setIfInBounds_toArray, List.set_cons_zero, List.set_cons_succ, i64_w, i32_w]
          rfl
        refine pure_ (i := 2) (N := some 33) (v := ?_) (a' := ?_) #[true, true, true, false, false, false, false, false, false, false, false, false, false, false, false, false, false, false, false, false] rfl rfl (any_of HT_.out (by kernel_rfl)) (fun _ _ _ h => h) (Or.inl ⟨by rfl, ?_⟩) ?_ ?_
        rotate_left
        · intro w'
          go_simp
          with_reducible rfl
        rotate_left
        · simp only [Act.put, List.setIfInBounds_toArray, List.set_cons_zero, List.set_cons_succ, i64_w, i32_w]
          rfl
        refine pure_ (i := 3) (N := some 34) (v := ?_) (a' := ?_) #[true, true, true, true, false, false, false, false, false, false, false, false, false, false, false, false, false, false, false, false] rfl rfl (any_of HT_.out (by kernel_rfl)) (fun _ _ _ h => h) (Or.inl ⟨by rfl, ?_⟩) ?_ ?_
        rotate_left
        · intro w'
          go_simp
          with_reducible rfl
        rotate_left
        · simp only [Act.put, List.setIfInBounds_toArray, List.set_cons_zero, List.set_cons_succ, i64_w, i32_w]
          rfl
        refine pure_ (i := 4) (N := some 35) (v := ?_) (a' := ?_) #[true, true, true, true, true, false, false, false, false, false, false, false, false, false, false, false, false, false, false, false] rfl rfl (any_of HT_.out (by kernel_rfl)) (fun _ _ _ h => h) (Or.inl ⟨by rfl, ?_⟩) ?_ ?_
        rotate_left
        · intro w'
          go_simp
          with_reducible rfl
        rotate_left
        · simp only [Act.put, List.setIfInBounds_toArray, List.set_cons_zero, List.set_cons_succ, i64_w, i32_w]
          rfl
        refine take_ (i := 5) (N := some 36) (v := ?_) (a' := ?_) #[true, true, true, true, true, true, false, false, false, false, false, false, false, false, false, false, false, false, false, false] rfl rfl (take_ofW HT_.out HW_.out (by kernel_rfl)) (fun _ _ _ h => h) (Or.inl ⟨by rfl, ?_⟩) hHeld ?_ ?_
        rotate_left
        · rintro w' ⟨s0, s1⟩
          have y0 := idx_cell0 (Kd.V_reads' (s0.V HV.out)).2.2 (by omega)
          go_simp
          with_reducible rfl
        rotate_left
        · simp only [Act.put, List.setIfInBounds_toArray, List.set_cons_zero, List.set_cons_succ, i64_w, i32_w]
          rfl
        refine pure_ (i := 6) (N := some 37) (v := ?_) (a' := ?_) #[true, true, true, true, true, true, true, false, false, false, false, false, false, false, false, false, false, false, false, false] rfl rfl (any_of HT_.out (by kernel_rfl)) (fun _ _ _ h => h) (Or.inl ⟨by rfl, ?_⟩) ?_ ?_
        rotate_left
        · intro w'
          go_simp
          with_reducible rfl
        rotate_left
        · simp only [Act.put, List.setIfInBounds_toArray, List.set_cons_zero, List.set_cons_succ, i64_w, i32_w]
          rfl
        refine pure_ (i := 7) (N := some 38) (v := ?_) (a' := ?_) #[true, true, true, true, true, true, true, true, false, false, false, false, false, false, false, false, false, false, false, false] rfl rfl (any_of HT_.out (by kernel_rfl)) (fun _ _ _ h => h) (Or.inl ⟨by rfl, ?_⟩) ?_ ?_
        rotate_left
        · intro w'
          go_simp
          with_reducible rfl
        rotate_left
        · simp only [Act.put, List.setIfInBounds_toArray, List.set_cons_zero, List.set_cons_succ, i64_w, i32_w]
          rfl
        refine take_ (i := 8) (N := some 39) (v := ?_) (a' := ?_) #[true, true, true, true, true, true, true, true, true, false, false, false, false, false, false, false, false, false, false, false] rfl rfl (take_ofW HT_.out HW_.out (by kernel_rfl)) (fun _ _ _ h => h) (Or.inl ⟨by rfl, ?_⟩) hHeld ?_ ?_
        rotate_left
        · rintro w' ⟨s0, s1⟩
          have y0 := idx_cell0 (Kd.V_reads' (s0.V HV.out)).2.2 (by omega)
          go_simp
          with_reducible rfl
        rotate_left
        · simp only [Act.put, List.setIfInBounds_toArray, List.set_cons_zero, List.set_cons_succ, i64_w, i32_w]
          rfl
        refine pure_ (i := 9) (N := some 40) (v := ?_) (a' := ?_) #[true, true, true, true, true, true, true, true, true, true, false, false, false, false, false, false, false, false, false, false] rfl rfl (any_of HT_.out (by kernel_rfl)) (fun _ _ _ h => h) (Or.inl ⟨by rfl, ?_⟩) ?_ ?_
        rotate_left
        · intro w'
          go_simp
          with_reducible rfl
        rotate_left
        · simp only [Act.put, List.setIfInBounds_toArray, List.set_cons_zero, List.set_cons_succ, i64_w, i32_w]
          rfl
        refine pure_ (i := 10) (N := some 41) (v := ?_) (a' := ?_) #[true, true, true, true, true, true, true, true, true, true, true, false, false, false, false, false, false, false, false, false] rfl rfl (any_of HT_.out (by kernel_rfl)) (fun _ _ _ h => h) (Or.inl ⟨by rfl, ?_⟩) ?_ ?_
        rotate_left
        · intro w'
          go_simp
          with_reducible rfl
        rotate_left
        · simp only [Act.put, List.setIfInBounds_toArray, List.set_cons_zero, List.set_cons_succ, i64_w, i32_w]
          rfl
        refine pure_ (i := 11) (N := some 42) (v := ?_) (a' := ?_) #[true, true, true, true, true, true, true, true, true, true, true, true, false, false, false, false, false, false, false, false] rfl rfl (any_of HT_.out (by kernel_rfl)) (fun _ _ _ h => h) (Or.inl ⟨by rfl, ?_⟩) ?_ ?_
        rotate_left
        · intro w'
          go_simp
          with_reducible rfl
        rotate_left
        · simp only [Act.put, List.setIfInBounds_toArray, List.set_cons_zero, List.set_cons_succ, i64_w, i32_w]
          rfl
        refine one_ (i := 12) (N := some 43) #[true, true, true, true, true, true, true, true, true, true, true, true, true, false, false, false, false, false, false, false] rfl rfl (one_of HT_.out (by kernel_rfl)) (by decide) (fun K hK => ?_)
        refine goes_ Try.func56 (by kernel_rfl) rfl #[.pointer (some ⟨g, 0, none⟩), .int .i64 (rn b1 false : Nat)] (by rfl) rfl rfl (by (try simp only [List.map_toArray, List.map_cons, List.map_nil]); first | done | rfl) ?_
        with_reducible refine (addrs_o HB4.out HG.out BK.out HC3.out HK3.out HBY3.out HN3.out).mono ?_
        rintro e w5 ⟨v, A5, c5, rfl, hRw, hbx, hC5, hK5, hR⟩
        refine ⟨_, rfl, ?_⟩
        have hs4 := HR1.out.out.size
        clear BK hc_9 hf_9
        have BK := Aside0.mk hbx
        have HC5 := Aside0.mk hC5
        have HK5 := Aside0.mk hK5
        have nHR := Aside0.mk (HR1.out.trans hR)
        clear HR1
        have HR1 := nHR
        clear nHR
        have nN := Aside0.mk (Kd.N_keep HNL.out hR.keep (fun _ hk => hk.1))
        clear HNL
        have HNL := nN
        clear nN
        have HLR := Aside0.mk (Kd.R_lower hRw hs4)
        clear hRw hbx hC5 hK5 hR hs4
        obtain ⟨A_v, c_v, rfl⟩ := Kd.R_slice HLR.out
        have hc_9 : w5.cell? ⟨g, 9, none⟩ = some (.slice A_l l.length c_l) := (blk_cell BK.out 9).trans rfl
        have hf_9 := blk_frozen BK.out 9
        refine hK.out _ _ ⟨HR1.out, hc_9⟩ (fun hHeld => ?_)
        clear hK K
        refine norm_ (a' := ?_) ?_ ?_
        rotate_left
        · show Act.put _ (some 43) _ = _
          simp only [Act.put, List.setIfInBounds_toArray, List.set_cons_zero, List.set_cons_succ, i64_w, i32_w]
          rfl
        have HRW5 := Aside0.mk (HR3.out.trans HR1.out)
        refine pure_ (i := 13) (N := some 44) (v := ?_) (a' := ?_) #[true, true, true, true, true, true, true, true, true, true, true, true, true, true, false, false, false, false, false, false] rfl rfl (any_of HT_.out (by kernel_rfl)) (fun _ _ _ h => h) (Or.inl ⟨by rfl, ?_⟩) ?_ ?_
        rotate_left
        · intro w'
          go_simp
          with_reducible rfl
        rotate_left
        · simp only [Act.put, List.setIfInBounds_toArray, List.set_cons_zero, List.set_cons_succ, i64_w, i32_w]
          rfl
        refine one_ (i := 14) (N := some 45) #[true, true, true, true, true, true, true, true, true, true, true, true, true, true, true, false, false, false, false, false] rfl rfl (one_of HT_.out (by kernel_rfl)) (by decide) (fun K hK => ?_)
        refine value_ (w1 := ?_) (v := ?_) (by rfl) rfl ?_ ?_
        rotate_left 2
        · go_simp
          constructor
          · rfl
          · rfl
        refine hK.out _ _ ⟨HR1.out.trans (RM.of_below (below_alloc (Below.refl _ _) _)), (World.cell?_alloc_lt _ _ _ (World.block_lt_of_cell? _ _ hc_9)).trans hc_9⟩ (fun hHeld => ?_)
        clear hK K
        refine norm_ (a' := ?_) ?_ ?_
        rotate_left
        · show Act.put _ (some 45) _ = _
          simp only [Act.put, List.setIfInBounds_toArray, List.set_cons_zero, List.set_cons_succ, i64_w, i32_w]
          rfl
        refine last_ (i := 15) (N := some 46) #[true, true, true, true, true, true, true, true, true, true, true, true, true, true, true, true, false, false, false, false] rfl rfl (one_of HT_.out (by kernel_rfl)) (by decide) (fun K hK => ?_)
        have hlt5 := blk_lt BK.out
        have hll5 := HI.out.2.2
        have hnn := HN.out
        refine Kd.N_append_step k44 (w0 := w5) w.heap.size (by rfl) (.tmp 36) (.tmp 45) 25 44 (.agg #[(.int .u8 0), (.int .u32 0), (.slice none 0 0)]) 32 rfl Try.underlying25 info44 rfl (by decide) (by omega) _ l (⟨rd x 0, rg b1 false, (ra b1 false).1⟩ : S44) [.int .u8 (rd x 0), .int .u32 (rg b1 false), .slice A_v (ra b1 false).1.length c_v] (fun k => k ≠ g ∧ w.heap.size ≤ k) (fun k => w3.heap.size ≤ k) rfl rfl ?aP (fun k hk => ⟨⟨by have := LTG.out; omega, Nat.le_trans HR3.out.out.size hk⟩, fun e => by have := NLT.out k e.symm; omega⟩) (fun k hk => ⟨by omega, Nat.le_trans HRW5.out.out.size hk⟩) HNL.out (Below.refl _ _ |>.mono HRW5.out.out.size) HRW5.out.out.size (by omega) ?_
        (case aP => exact Kd.FK_of_M (k44_mkM _ _ _ (⟨rd x 0, rg b1 false, (ra b1 false).1⟩ : S44) (Kd.R_mono (Kd.R_tight rfl HLR.out) (fun k hk => Kd.R_base HLR.out k hk.symm))))
        intro v6 w6 ho hb hg hat
        clear hlt5 hll5 hnn
        rw [← HYL.out] at ho
        have HNE := Aside0.mk (Kd.N_ne HNL.out BK.out (by decide))
        have BK6 := Aside0.mk (blk_grown BK.out hg HNE.out)
        have HR6 := Aside0.mk (show RM w w6 g from ⟨⟨Nat.le_trans HRW5.out.keep.1 hg.size, fun q hq hq1 _ => (hg.block q (Nat.lt_of_lt_of_le hq HRW5.out.keep.1) (fun e => by have := Kd.N_base HNL.out q e.symm; omega)).trans (HRW5.out.block hq hq1)⟩, HRW5.out.out.trans (hb.mono (Nat.zero_le _))⟩)
        have HO6 := Aside0.mk ho
        clear ho hb hg hat BK HNL HNE hc_9 hf_9
        have BK := BK6
        clear BK6
        obtain ⟨A6, c6, rfl⟩ := Kd.N_slice HO6.out
        have hc_9 : w6.cell? ⟨g, 9, none⟩ = some (.slice A_l l.length c_l) := (blk_cell BK.out 9).trans rfl
        have hf_9 := blk_frozen BK.out 9
        refine hK.out _ _ ?_
        clear hK K
        refine norm_ (a' := ?_) ?_ ?_
        rotate_left
        · show Act.put _ (some 46) _ = _
          simp only [Act.put, List.setIfInBounds_toArray, List.set_cons_zero, List.set_cons_succ, i64_w, i32_w]
          rfl
        refine pure_ (i := 16) (N := some 47) (v := ?_) (a' := ?_) #[true, true, true, true, true, true, true, true, true, true, true, true, true, true, true, true, true, false, false, false] rfl rfl (any_of HT_.out (by kernel_rfl)) (fun _ _ _ h => h) (Or.inl ⟨by rfl, ?_⟩) ?_ ?_
        rotate_left
        · intro w'
          go_simp
          with_reducible rfl
        rotate_left
        · simp only [Act.put, List.setIfInBounds_toArray, List.set_cons_zero, List.set_cons_succ, i64_w, i32_w]
          rfl
        refine pure_ (i := 17) (N := some 48) (v := ?_) (a' := ?_) #[true, true, true, true, true, true, true, true, true, true, true, true, true, true, true, true, true, true, false, false] rfl rfl (any_of HT_.out (by kernel_rfl)) (fun _ _ _ h => h) (Or.inl ⟨by rfl, ?_⟩) ?_ ?_
        rotate_left
        · intro w'
          go_simp
          with_reducible rfl
        rotate_left
        · simp only [Act.put, List.setIfInBounds_toArray, List.set_cons_zero, List.set_cons_succ, i64_w, i32_w]
          rfl
        refine pure_ (i := 18) (N := some 49) (v := ?_) (a' := ?_) #[true, true, true, true, true, true, true, true, true, true, true, true, true, true, true, true, true, true, true, false] rfl rfl (any_of HT_.out (by kernel_rfl)) (fun _ _ _ h => h) (Or.inl ⟨by rfl, ?_⟩) ?_ ?_
        rotate_left
        · intro w'
          go_simp
          with_reducible rfl
        rotate_left
        · simp only [Act.put, List.setIfInBounds_toArray, List.set_cons_zero, List.set_cons_succ, i64_w, i32_w]
          rfl
        refine last_ (i := 19) (N := none) #[true, true, true, true, true, true, true, true, true, true, true, true, true, true, true, true, true, true, true, true] rfl rfl (one_of HT_.out (by kernel_rfl)) (by decide) (fun K hK => ?_)
        refine skip_ (w1 := ?_) (by rfl) rfl ?_ ?_
        rotate_left
        · go_simp
          rfl
        refine hK.out _ _ ?_
        clear hK K
        have HB7 := Aside0.mk (blk_put (cs := #[.slice A5 (ra b1 false).2.1.length c5, .int .u8 k, .int .i64 ver, .int .u8 code, .int .u32 grp, .bool quiet, .int .u8 rob, .int .u8 every, vS, .slice A_l l.length c_l, .bool (ra b1 false).2.2]) BK.out 9 (.slice A6 y.length c6) rfl)
        have HR7 := Aside0.mk (HR6.out.set 9 (.slice A6 y.length c6))
        have HO7 := Aside0.mk (Kd.N_far (p := ⟨g, 9, none⟩) HO6.out (fun _ hk => hk.1) (.slice A6 y.length c6))
        clear hc_9 hf_9 BK HR6 HO6
        generalize (w6.setCell ⟨g, 9, none⟩ (.slice A6 y.length c6)) = w7 at HB7 HR7 HO7 ⊢
        refine done_ (done_of HT_.out (by kernel_rfl)) ?_
        go_wp2
        go_roundg (n - (i + 1))
        case measure => omega
        case rel =>
          refine ⟨i + 1, _, _, _, _, A5, c5, ?_, ⟨by omega, rfl, by rw [HYL.out, List.length_append]; simp only [List.length_cons, List.length_nil]; omega⟩, ⟨?_⟩, HO7, HB7, HC5, HK5, HBY5, HR7⟩
          · have hn := HN.out
            show Value.int .i64 (wrap64 ((i : Int) + 1)) = _
            rw [rw64 (by omega) (by omega)]
            rfl
          · have hl := HL.out
            rw [show n - i = (n - (i + 1)) + 1 from by omega] at hl
            simp only [rcs, rrec, Bool.false_eq_true, if_false] at hl
            rw [← HXQ.out] at hl
            exact ⟨by rw [← hl.1, HYL.out]; simp, hl.2⟩
    · have c5b0 : decide ((i : Int) < (n : Int)) = false := decide_eq_false (by omega)
      have hc_9 : wr.cell? ⟨g, 9, none⟩ = some (.slice A_l l.length c_l) := (blk_cell BK.out 9).trans rfl
      have hf_9 := blk_frozen BK.out 9
      by_cases hod : be2 (rx bs sh) = 0
      · have hodb : (be2 (rx bs sh) != 0) = false := by rw [hod]; rfl
        have HOD := Aside0.mk hod
        clear hod
        go_wp2
        go_end0
        have hl := HL.out
        rw [show n - i = 0 from by omega] at hl
        simp only [rcs] at hl
        rw [HPO.out]
        rw [List.append_nil] at hl
        refine ⟨.slice A_l l.length c_l, A1, c1, rfl, ?_, ?_, ?_, ?_, HR.out⟩
        · rw [if_pos HOD.out, ← hl.1]; exact HNL.out
        · rw [← hl.2]; exact BK.out
        · rw [← hl.2]; exact HC.out
        · rw [← hl.2]; exact HK.out
      · have hodb : (be2 (rx bs sh) != 0) = true := bne_iff_ne.mpr hod
        have HOD := Aside0.mk hod
        clear hod
        have LTG := Aside0.mk (blk_lt BK.out)
        obtain ⟨y9, hy9⟩ : ∃ y_, y_ = List.replicate 33 z44 := ⟨_, rfl⟩
        have HY9 := Aside0.mk hy9
        clear hy9
        go_wp2_with (first | ((with_reducible refine gate_dst (N := 52) rfl ?_); refine Kd.N_make k44 (w0 := wr) wr.heap.size 44 rfl rfl 25 (.const (.int .i64 33)) (.const (.int .i64 33)) rfl (33 : Int) rfl rfl Try.underlying25 (.agg #[(.int .u8 0), (.int .u32 0), (.slice none 0 0)]) 32 info44 rfl (by decide) (by decide) z44 (ok := fun k => k ≠ g ∧ w.heap.size ≤ k) (okp := fun k => k ≠ g ∧ w.heap.size ≤ k) (Kd.FK_of_M (k44_mkM wr 0 (fun k => k ≠ g ∧ w.heap.size ≤ k) z44 (v2 := .slice none 0 0) (Kd.R_nil _ _ _ _ _))) (fun _ h => h) ⟨by have := LTG.out; omega, HR.out.out.size⟩ (by decide) (by decide) (Below.refl _ _) (Nat.le_refl _) ?_; intro v9 w9 hN hb hg_ hn_; replace hN : Kd.N k44 44 w9 w.heap.size (fun k => k ≠ g ∧ w.heap.size ≤ k) v9 (List.replicate 33 z44) := Kd.N_lower hN HR.out.out.size; rw [← HY9.out] at hN; have HN9 := Aside0.mk hN; have BK9 := Aside0.mk (blk_below BK.out hb); have HR9 := Aside0.mk (HR.out.trans (RM.of_below hb)); clear hN hb hg_ hn_; obtain ⟨A9, c9, rfl⟩ := Kd.N_slice HN9.out; have hc9_ : w9.cell? ⟨g, 9, none⟩ = some (.slice A_l l.length c_l) := (blk_cell BK9.out 9).trans rfl; have hf9_ := blk_frozen BK9.out 9))
        go_end0
        have hl := HL.out
        rw [show n - i = 0 from by omega] at hl
        simp only [rcs] at hl
        rw [HPO.out]
        refine ⟨.slice A9 y9.length c9, A1, c1, rfl, ?_, ?_, ?_, ?_, HR9.out.set 9 _⟩
        · rw [if_neg HOD.out, ← HY9.out]; exact Kd.N_far (p := ⟨g, 9, none⟩) HN9.out (fun _ hk => hk.1) _
        · rw [← hl.2]; exact blk_put (cs := #[.slice A1 b1.length c1, .int .u8 k, .int .i64 ver, .int .u8 code, .int .u32 grp, .bool quiet, .int .u8 rob, .int .u8 every, vS, .slice A_l l.length c_l, .bool s1]) BK9.out 9 _ rfl
        · rw [← hl.2]; exact HC.out
        · rw [← hl.2]; exact HK.out
end Go.Proofs.Ytmmjmncchckbbaa
