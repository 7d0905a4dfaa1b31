/-
  The reader of messages: report.
-/
import Derived.Test.YtmmjmncchckbbaaIgQ
import Derived.MapFrom
import Derived.ChangeMaps4
import Derived.Test.YtmmjmncchckbbaaPIgx3
namespace Go.Proofs.Ytmmjmncchckbbaa
open Go.RowKit Go.Proofs.YtmmjmncchckbbaaW.PrintWords Go.Proofs.YtmmjmncchckbbaaW.PrintLast Go.Proofs.YtmmjmncchckbbaaW.PrintMore Go.Proofs.Ytmmjmncchckbbaa.PIg
set_option linter.unusedVariables false
set_option linter.unusedSimpArgs false
def report_T : Bool × List (List Nat × List Nat) := (true, [([], []), ([], []), ([1], [1]), ([2], [2]), ([3], [3]), ([4], [4]), ([], []), ([6], [6]), ([7], [7]), ([], []), ([], []), ([], []), ([10, 11], [10, 11]), ([8, 9, 12], [8, 9, 12]), ([13], [13]), ([5, 14, 12], [5, 14]), ([0, 0, 1, 2, 3, 4, 5, 6, 7, 8, 9, 10, 11, 12, 13, 14, 15], [0]), ([16, 0, 1, 2, 3, 4, 5, 6, 7, 8, 9, 10, 11, 12, 13, 14, 15], [16]), ([17, 0, 1, 2, 3, 4, 5, 6, 7, 8, 9, 10, 11, 12, 13, 14, 15], [17]), ([18, 15, 15, 0, 1, 2, 3, 4, 5, 6, 7, 8, 9, 10, 11, 12, 13, 14, 15], [15, 18])])
def report_B : List Nat := [0, 0, 2, 6, 14, 30, 0, 64, 192, 0, 0, 0, 3072, 8128, 16320, 32766, 65535, 131071, 262143, 524287]
theorem report_t : rtab .any (opsOf Try.f43 8) = report_T := by kernel_rfl
theorem report_b : waitsOk report_T.2 report_B = true := by kernel_rfl
/-- A record as it is read: two bytes, how many sources, the group, they. -/
def rx (bs : List Int) (sh : Bool) : List Int := tkx 2 bs sh
def rb (bs : List Int) (sh : Bool) : List Int := tkb 2 bs sh
def rs (bs : List Int) (sh : Bool) : Bool := tks 2 bs sh
def rn (bs : List Int) (sh : Bool) : Nat := (be2 (tkx 2 (rb bs sh) (rs bs sh))).toNat
def rb2 (bs : List Int) (sh : Bool) : List Int := tkb 2 (rb bs sh) (rs bs sh)
def rs2 (bs : List Int) (sh : Bool) : Bool := tks 2 (rb bs sh) (rs bs sh)
def rg (bs : List Int) (sh : Bool) : Int := av (tkx 4 (rb2 bs sh) (rs2 bs sh))
def rb3 (bs : List Int) (sh : Bool) : List Int := tkb 4 (rb2 bs sh) (rs2 bs sh)
def rs3 (bs : List Int) (sh : Bool) : Bool := tks 4 (rb2 bs sh) (rs2 bs sh)
def ra (bs : List Int) (sh : Bool) : List Int × List Int × Bool := ads (rn bs sh) (rb3 bs sh) (rs3 bs sh)
def rrec (bs : List Int) (sh : Bool) : S44 := ⟨rd (rx bs sh) 0, rg bs sh, (ra bs sh).1⟩
/-- So many records, as far as there are bytes: they, what stays, whether it was too short. -/
def rcs : Nat → List Int → Bool → List S44 × List Int × Bool
  | 0, bs, sh => ([], bs, sh)
  | n + 1, bs, sh => if sh = true then ([], bs, sh) else (rrec bs sh :: (rcs n (ra bs sh).2.1 (ra bs sh).2.2).1, (rcs n (ra bs sh).2.1 (ra bs sh).2.2).2)
theorem rcs_sh (n : Nat) (bs : List Int) : rcs n bs true = ([], bs, true) := by cases n <;> rfl
theorem rb_byt {bs : List Int} {sh : Bool} (h : Byt bs) : Byt (rb bs sh) := tkb_byt h
theorem rb2_byt {bs : List Int} {sh : Bool} (h : Byt bs) : Byt (rb2 bs sh) := tkb_byt (rb_byt h)
theorem rb3_byt {bs : List Int} {sh : Bool} (h : Byt bs) : Byt (rb3 bs sh) := tkb_byt (rb2_byt h)
theorem ra_byt {bs : List Int} {sh : Bool} (h : Byt bs) : Byt (ra bs sh).2.1 := ads_byt _ _ _ (rb3_byt h)
theorem rn_le {bs : List Int} {sh : Bool} (h : Byt bs) : rn bs sh ≤ 65535 := (be2_nat (tkx_byt (m := 2) (sh := rs bs sh) (rb_byt h))).2
theorem take_o {w0 w : World} {g : Nat} {A : Option Addr} {c : Nat} {bs : List Int} {k ver code grp rob every : Int} {quiet : Bool} {vS vR : Value} {sh : Bool} (hB : Below w0.heap.size w0 w) (hg : w0.heap.size ≤ g) (h : w.heap[g]? = some (.cells #[.slice A bs.length c, .int .u8 k, .int .i64 ver, .int .u8 code, .int .u32 grp, .bool quiet, .int .u8 rob, .int .u8 every, vS, vR, .bool sh] 66 (0, 0))) (hC : Kd.C (Kd.int .u8) w0 A bs.length bs) (hc : bs.length ≤ c) :
    Calls Try.prog 55 #[.pointer (some ⟨g, 0, none⟩), .int .i64 2] w fun e w' => ∃ A1 c1 A2 c2, e = .returned (.slice A1 (rx bs sh).length c1) ∧ Kd.V (Kd.int .u8) 5 w' 0 (fun k => k ≠ g) (.slice A1 (rx bs sh).length c1) (rx bs sh) ∧ w'.heap[g]? = some (.cells #[.slice A2 (rb bs sh).length c2, .int .u8 k, .int .i64 ver, .int .u8 code, .int .u32 grp, .bool quiet, .int .u8 rob, .int .u8 every, vS, vR, .bool (rs bs sh)] 66 (0, 0)) ∧ Kd.C (Kd.int .u8) w0 A2 (rb bs sh).length (rb bs sh) ∧ (rb bs sh).length ≤ c2 ∧ RM w w' g := take_2 hB hg h hC hc
theorem two_o {w0 w : World} {g : Nat} {A : Option Addr} {c : Nat} {bs : List Int} {k ver code grp rob every : Int} {quiet : Bool} {vS vR : Value} {sh : Bool} (hB : Below w0.heap.size w0 w) (hg : w0.heap.size ≤ g) (h : w.heap[g]? = some (.cells #[.slice A bs.length c, .int .u8 k, .int .i64 ver, .int .u8 code, .int .u32 grp, .bool quiet, .int .u8 rob, .int .u8 every, vS, vR, .bool sh] 66 (0, 0))) (hC : Kd.C (Kd.int .u8) w0 A bs.length bs) (hc : bs.length ≤ c) (hby : Byt bs) :
    Calls Try.prog 57 #[.pointer (some ⟨g, 0, none⟩)] w fun e w' => ∃ A2 c2, e = .returned (.int .i64 (be2 (rx bs sh))) ∧ w'.heap[g]? = some (.cells #[.slice A2 (rb bs sh).length c2, .int .u8 k, .int .i64 ver, .int .u8 code, .int .u32 grp, .bool quiet, .int .u8 rob, .int .u8 every, vS, vR, .bool (rs bs sh)] 66 (0, 0)) ∧ Kd.C (Kd.int .u8) w0 A2 (rb bs sh).length (rb bs sh) ∧ (rb bs sh).length ≤ c2 ∧ RM w w' g := two_w hB hg h hC hc hby
theorem two_r {w0 w : World} {g : Nat} {A : Option Addr} {c : Nat} {bs : List Int} {k ver code grp rob every : Int} {quiet : Bool} {vS vR : Value} {sh : Bool} (hB : Below w0.heap.size w0 w) (hg : w0.heap.size ≤ g) (h : w.heap[g]? = some (.cells #[.slice A (rb bs sh).length c, .int .u8 k, .int .i64 ver, .int .u8 code, .int .u32 grp, .bool quiet, .int .u8 rob, .int .u8 every, vS, vR, .bool (rs bs sh)] 66 (0, 0))) (hC : Kd.C (Kd.int .u8) w0 A (rb bs sh).length (rb bs sh)) (hc : (rb bs sh).length ≤ c) (hby : Byt (rb bs sh)) :
    Calls Try.prog 57 #[.pointer (some ⟨g, 0, none⟩)] w fun e w' => ∃ A2 c2, e = .returned (.int .i64 (rn bs sh : Nat)) ∧ w'.heap[g]? = some (.cells #[.slice A2 (rb2 bs sh).length c2, .int .u8 k, .int .i64 ver, .int .u8 code, .int .u32 grp, .bool quiet, .int .u8 rob, .int .u8 every, vS, vR, .bool (rs2 bs sh)] 66 (0, 0)) ∧ Kd.C (Kd.int .u8) w0 A2 (rb2 bs sh).length (rb2 bs sh) ∧ (rb2 bs sh).length ≤ c2 ∧ RM w w' g := by
  have h := two_w hB hg h hC hc hby
  rw [(be2_nat (tkx_byt (m := 2) (sh := rs bs sh) hby)).1] at h
  exact h
theorem addr_r {w0 w : World} {g : Nat} {A : Option Addr} {c : Nat} {bs : List Int} {k ver code grp rob every : Int} {quiet : Bool} {vS vR : Value} {sh : Bool} (hB : Below w0.heap.size w0 w) (hg : w0.heap.size ≤ g) (h : w.heap[g]? = some (.cells #[.slice A (rb2 bs sh).length c, .int .u8 k, .int .i64 ver, .int .u8 code, .int .u32 grp, .bool quiet, .int .u8 rob, .int .u8 every, vS, vR, .bool (rs2 bs sh)] 66 (0, 0))) (hC : Kd.C (Kd.int .u8) w0 A (rb2 bs sh).length (rb2 bs sh)) (hc : (rb2 bs sh).length ≤ c) (hby : Byt (rb2 bs sh)) :
    Calls Try.prog 58 #[.pointer (some ⟨g, 0, none⟩)] w fun e w' => ∃ A2 c2, e = .returned (.int .u32 (rg bs sh)) ∧ w'.heap[g]? = some (.cells #[.slice A2 (rb3 bs sh).length c2, .int .u8 k, .int .i64 ver, .int .u8 code, .int .u32 grp, .bool quiet, .int .u8 rob, .int .u8 every, vS, vR, .bool (rs3 bs sh)] 66 (0, 0)) ∧ Kd.C (Kd.int .u8) w0 A2 (rb3 bs sh).length (rb3 bs sh) ∧ (rb3 bs sh).length ≤ c2 ∧ RM w w' g := addr_w hB hg h hC hc hby
theorem addrs_o {w0 w : World} {g : Nat} {A : Option Addr} {c : Nat} {bs : List Int} {k ver code grp rob every : Int} {quiet : Bool} {vS vR : Value} {sh : Bool} (hB : Below w0.heap.size w0 w) (hg : w0.heap.size ≤ g) (h : w.heap[g]? = some (.cells #[.slice A (rb3 bs sh).length c, .int .u8 k, .int .i64 ver, .int .u8 code, .int .u32 grp, .bool quiet, .int .u8 rob, .int .u8 every, vS, vR, .bool (rs3 bs sh)] 66 (0, 0))) (hC : Kd.C (Kd.int .u8) w0 A (rb3 bs sh).length (rb3 bs sh)) (hc : (rb3 bs sh).length ≤ c) (hby : Byt (rb3 bs sh)) (hn : rn bs sh ≤ 100000) :
    Calls Try.prog 56 #[.pointer (some ⟨g, 0, none⟩), .int .i64 (rn bs sh : Nat)] w fun e w' => ∃ v A2 c2, e = .returned (v) ∧ Kd.R (Kd.int .u32) 23 w' w.heap.size (fun k => k ≠ g) v (ra bs sh).1 ∧ w'.heap[g]? = some (.cells #[.slice A2 ((ra bs sh).2.1).length c2, .int .u8 k, .int .i64 ver, .int .u8 code, .int .u32 grp, .bool quiet, .int .u8 rob, .int .u8 every, vS, vR, .bool ((ra bs sh).2.2)] 66 (0, 0)) ∧ Kd.C (Kd.int .u8) w0 A2 ((ra bs sh).2.1).length ((ra bs sh).2.1) ∧ ((ra bs sh).2.1).length ≤ c2 ∧ RM w w' g := addrs_r hB hg h hC hc hby _ hn
set_option maxHeartbeats 8000000 in
set_option maxRecDepth 100000 in
theorem report_w {w0 w : World} {g : Nat} {A : Option Addr} {c : Nat} {bs : List Int} {k ver code grp rob every : Int} {quiet : Bool} {vS vR : Value} {sh : Bool} (hB : Below w0.heap.size w0 w) (hg : w0.heap.size ≤ g) (h : w.heap[g]? = some (.cells #[.slice A bs.length c, .int .u8 k, .int .i64 ver, .int .u8 code, .int .u32 grp, .bool quiet, .int .u8 rob, .int .u8 every, vS, .slice none 0 0, .bool sh] 66 (0, 0))) (hC : Kd.C (Kd.int .u8) w0 A bs.length bs) (hc : bs.length ≤ c) (hby : Byt bs) :
    Calls Try.prog 43 #[.pointer (some ⟨g, 0, none⟩)] w fun e w' => ∃ v A2 c2, e = .returned (.tuple #[]) ∧ Kd.N k44 44 w' w.heap.size (fun k => k ≠ g ∧ w.heap.size ≤ k) v (if be2 (rx bs sh) = 0 then (rcs (rn bs sh) (rb2 bs sh) (rs2 bs sh)).1 else List.replicate 33 z44) ∧ w'.heap[g]? = some (.cells #[.slice A2 (rcs (rn bs sh) (rb2 bs sh) (rs2 bs sh)).2.1.length c2, .int .u8 k, .int .i64 ver, .int .u8 code, .int .u32 grp, .bool quiet, .int .u8 rob, .int .u8 every, vS, v, .bool (rcs (rn bs sh) (rb2 bs sh) (rs2 bs sh)).2.2] 66 (0, 0)) ∧ Kd.C (Kd.int .u8) w0 A2 (rcs (rn bs sh) (rb2 bs sh) (rs2 bs sh)).2.1.length (rcs (rn bs sh) (rb2 bs sh) (rs2 bs sh)).2.1 ∧ (rcs (rn bs sh) (rb2 bs sh) (rs2 bs sh)).2.1.length ≤ c2 ∧ RM w w' g := by
  have HB := Aside0.mk hB
  have HG := Aside0.mk hg
  have BK := Aside0.mk h
  have HC := Aside0.mk hC
  have HK := Aside0.mk hc
  clear hB hg h hC hc
  have HBY := Aside0.mk hby
  have HBYB := Aside0.mk (rb_byt (sh := sh) hby)
  have HBYB2 := Aside0.mk (rb2_byt (sh := sh) hby)
  have hnl := rn_le (sh := sh) hby
  clear hby
  obtain ⟨n, hn⟩ : ∃ n_, n_ = rn bs sh := ⟨_, rfl⟩
  obtain ⟨q, hq⟩ : ∃ q_, q_ = rcs n (rb2 bs sh) (rs2 bs sh) := ⟨_, rfl⟩
  rw [← hn] at hnl ⊢
  rw [← hq]
  have HQ := Aside0.mk hq
  have HNQ := Aside0.mk hn
  have HN := Aside0.mk hnl
  clear hq hn hnl
  have HGW := Aside0.mk (blk_lt BK.out)
  obtain ⟨Po, hPo⟩ : ∃ P_ : Ending → World → Prop, P_ = fun e w' => ∃ v A2 c2, e = .returned (.tuple #[]) ∧ Kd.N k44 44 w' w.heap.size (fun k => k ≠ g ∧ w.heap.size ≤ k) v (if be2 (rx bs sh) = 0 then q.1 else List.replicate 33 z44) ∧ w'.heap[g]? = some (.cells #[.slice A2 q.2.1.length c2, .int .u8 k, .int .i64 ver, .int .u8 code, .int .u32 grp, .bool quiet, .int .u8 rob, .int .u8 every, vS, v, .bool q.2.2] 66 (0, 0)) ∧ Kd.C (Kd.int .u8) w0 A2 q.2.1.length q.2.1 ∧ q.2.1.length ≤ c2 ∧ RM w w' g := ⟨_, rfl⟩
  rw [← hPo]
  have HPO := Aside0.mk hPo
  clear hPo
  go_enter Try.func43, Try.ntmps43
  go_upto_region 2 with (first | (go_at_call 57; with_reducible refine (two_o HB.out HG.out BK.out HC.out HK.out HBY.out).mono ?_; rintro e w1 ⟨A1, c1, rfl, hbx, hC2, hK2, hR⟩; clear BK; have BK := Aside0.mk hbx; have HC1 := Aside0.mk hC2; have HK1 := Aside0.mk hK2; have HR1 := Aside0.mk hR; have HB1 := Aside0.mk (hR.below HB.out HG.out); clear hbx hC2 hK2 hR) | (go_at_call 57; with_reducible refine (two_r HB1.out HG.out BK.out HC1.out HK1.out HBYB.out).mono ?_; rintro e w2 ⟨A2, c2, rfl, hbx, hC2, hK2, hR⟩; clear BK; have BK := Aside0.mk hbx; have HC2 := Aside0.mk hC2; have HK2 := Aside0.mk hK2; have HR2 := Aside0.mk (HR1.out.trans hR); clear HC1 HK1 HR1 HB1 hbx hC2 hK2 hR; rw [← HNQ.out]))
  go_wp2
  go_loopg [4] n (fun gk v4 w' => ∃ (i : Nat) (l : List S44) (v : Value) (b1 : List Int) (s1 : Bool) (A1 : Option Addr) (c1 : Nat), v4 = .int .i64 i ∧ Aside0 (i ≤ n ∧ gk = n - i ∧ l.length ≤ i) ∧ Aside0 (l ++ (rcs (n - i) b1 s1).1 = q.1 ∧ (rcs (n - i) b1 s1).2 = q.2) ∧ Aside0 (Kd.N k44 44 w' w.heap.size (fun k => k ≠ g ∧ w.heap.size ≤ k) v l) ∧ Aside0 (w'.heap[g]? = some (.cells #[.slice A1 b1.length c1, .int .u8 k, .int .i64 ver, .int .u8 code, .int .u32 grp, .bool quiet, .int .u8 rob, .int .u8 every, vS, v, .bool s1] 66 (0, 0))) ∧ Aside0 (Kd.C (Kd.int .u8) w0 A1 b1.length b1) ∧ Aside0 (b1.length ≤ c1) ∧ Aside0 (Byt b1) ∧ Aside0 (RM w w' g))
  case atStart => exact ⟨0, [], _, _, _, A2, c2, rfl, ⟨Nat.zero_le _, by omega, Nat.zero_le _⟩, ⟨by rw [HQ.out]; exact ⟨rfl, rfl⟩⟩, ⟨Kd.N_nil _ _ _ _ _⟩, BK, HC2, HK2, HBYB2, HR2⟩
  case round =>
    clear BK HC HK HC2 HK2 HBY HBYB HBYB2 HR2
    obtain ⟨i, l, v, b1, s1, A1, c1, rfl, HI, HL, HNL, BK, HC, HK, HBY, HR⟩ := hrel
    obtain ⟨hi, hgk, hll⟩ := HI.out
    obtain ⟨A_l, c_l, rfl⟩ := Kd.N_slice HNL.out
    by_cases hlt : i < n
    · have c5b0 : decide ((i : Int) < (n : Int)) = true := decide_eq_true (by omega)
      cases s1
      case true =>
        have hc_9 : wr.cell? ⟨g, 9, none⟩ = some (.slice A_l l.length c_l) := (blk_cell BK.out 9).trans rfl
        have hf_9 := blk_frozen BK.out 9
        have hc_10 : wr.cell? ⟨g, 10, none⟩ = some (.bool true) := (blk_cell BK.out 10).trans rfl
        have hf_10 := blk_frozen BK.out 10
        by_cases hod : be2 (rx bs sh) = 0
        · have hodb : (be2 (rx bs sh) != 0) = false := by rw [hod]; rfl
          have HOD := Aside0.mk hod
          clear hod
          go_wp2
          go_end0
          have hl := HL.out
          rw [rcs_sh] at hl
          rw [HPO.out]
          rw [List.append_nil] at hl
          refine ⟨.slice A_l l.length c_l, A1, c1, rfl, ?_, ?_, ?_, ?_, HR.out⟩
          · rw [if_pos HOD.out, ← hl.1]; exact HNL.out
          · rw [← hl.2]; exact BK.out
          · rw [← hl.2]; exact HC.out
          · rw [← hl.2]; exact HK.out
        · have hodb : (be2 (rx bs sh) != 0) = true := bne_iff_ne.mpr hod
          have HOD := Aside0.mk hod
          clear hod
          have LTG := Aside0.mk (blk_lt BK.out)
          obtain ⟨y9, hy9⟩ : ∃ y_, y_ = List.replicate 33 z44 := ⟨_, rfl⟩
          have HY9 := Aside0.mk hy9
          clear hy9
          go_wp2_with (first | ((with_reducible refine gate_dst (N := 52) rfl ?_); refine Kd.N_make k44 (w0 := wr) wr.heap.size 44 rfl rfl 25 (.const (.int .i64 33)) (.const (.int .i64 33)) rfl (33 : Int) rfl rfl Try.underlying25 (.agg #[(.int .u8 0), (.int .u32 0), (.slice none 0 0)]) 32 info44 rfl (by decide) (by decide) z44 (ok := fun k => k ≠ g ∧ w.heap.size ≤ k) (okp := fun k => k ≠ g ∧ w.heap.size ≤ k) (Kd.FK_of_M (k44_mkM wr 0 (fun k => k ≠ g ∧ w.heap.size ≤ k) z44 (v2 := .slice none 0 0) (Kd.R_nil _ _ _ _ _))) (fun _ h => h) ⟨by have := LTG.out; omega, HR.out.out.size⟩ (by decide) (by decide) (Below.refl _ _) (Nat.le_refl _) ?_; intro v9 w9 hN hb hg_ hn_; replace hN : Kd.N k44 44 w9 w.heap.size (fun k => k ≠ g ∧ w.heap.size ≤ k) v9 (List.replicate 33 z44) := Kd.N_lower hN HR.out.out.size; rw [← HY9.out] at hN; have HN9 := Aside0.mk hN; have BK9 := Aside0.mk (blk_below BK.out hb); have HR9 := Aside0.mk (HR.out.trans (RM.of_below hb)); clear hN hb hg_ hn_; obtain ⟨A9, c9, rfl⟩ := Kd.N_slice HN9.out; have hc9_ : w9.cell? ⟨g, 9, none⟩ = some (.slice A_l l.length c_l) := (blk_cell BK9.out 9).trans rfl; have hf9_ := blk_frozen BK9.out 9))
          go_end0
          have hl := HL.out
          rw [rcs_sh] at hl
          rw [HPO.out]
          refine ⟨.slice A9 y9.length c9, A1, c1, rfl, ?_, ?_, ?_, ?_, HR9.out.set 9 _⟩
          · rw [if_neg HOD.out, ← HY9.out]; exact Kd.N_far (p := ⟨g, 9, none⟩) HN9.out (fun _ hk => hk.1) _
          · rw [← hl.2]; exact blk_put (cs := #[.slice A1 b1.length c1, .int .u8 k, .int .i64 ver, .int .u8 code, .int .u32 grp, .bool quiet, .int .u8 rob, .int .u8 every, vS, .slice A_l l.length c_l, .bool true]) BK9.out 9 _ rfl
          · rw [← hl.2]; exact HC.out
          · rw [← hl.2]; exact HK.out
      case false =>
        have hc_10 : wr.cell? ⟨g, 10, none⟩ = some (.bool false) := (blk_cell BK.out 10).trans rfl
        have hf_10 := blk_frozen BK.out 10
        have HBB := Aside0.mk (HR.out.below HB.out HG.out)
        have HBY1 := Aside0.mk (rb_byt (sh := false) HBY.out)
        have HBY2 := Aside0.mk (rb2_byt (sh := false) HBY.out)
        have HBY3 := Aside0.mk (rb3_byt (sh := false) HBY.out)
        have HBY5 := Aside0.mk (ra_byt (sh := false) HBY.out)
        have HN3 := Aside0.mk (Nat.le_trans (rn_le (sh := false) HBY.out) (by decide : 65535 ≤ 100000))
        have HXL := Aside0.mk (show (rx b1 false).length = 2 from tkx_len 2 _ _)
        go_upto_region 8 with (first | (go_at_call 55; with_reducible refine (take_o HBB.out HG.out BK.out HC.out HK.out).mono ?_; rintro e wa ⟨Ax, cx, A2, c2, rfl, hV, hbx, hC2, hK2, hR⟩; clear BK; have BK := Aside0.mk hbx; have HC2 := Aside0.mk hC2; have HK2 := Aside0.mk hK2; have HR2 := Aside0.mk (HR.out.trans hR); have HBw2 := Aside0.mk (HR2.out.below HB.out HG.out); have nN := Aside0.mk (Kd.N_keep HNL.out hR.keep (fun _ hk => hk.1)); clear HNL; have HNL := nN; clear nN; have HV := Aside0.mk hV; clear hV; clear hbx hC2 hK2 hR) | (go_at_call 57; with_reducible refine (two_r HBw2.out HG.out BK.out HC2.out HK2.out HBY1.out).mono ?_; rintro e wb ⟨A4, c4, rfl, hbx, hC2, hK2, hR⟩; clear BK; have BK := Aside0.mk hbx; have HC4 := Aside0.mk hC2; have HK4 := Aside0.mk hK2; have HR4 := Aside0.mk (HR2.out.trans hR); have HBw4 := Aside0.mk (HR4.out.below HB.out HG.out); have nN := Aside0.mk (Kd.N_keep HNL.out hR.keep (fun _ hk => hk.1)); clear HNL; have HNL := nN; clear nN; have nV := Aside0.mk (hR.V HV.out); clear HV; have HV := nV; clear nV; clear hbx hC2 hK2 hR) | (go_at_call 58; with_reducible refine (addr_r HBw4.out HG.out BK.out HC4.out HK4.out HBY2.out).mono ?_; rintro e w3 ⟨A3, c3, rfl, hbx, hC2, hK2, hR⟩; clear BK; have BK := Aside0.mk hbx; have HC3 := Aside0.mk hC2; have HK3 := Aside0.mk hK2; have HR3 := Aside0.mk (HR4.out.trans hR); have HBw3 := Aside0.mk (HR3.out.below HB.out HG.out); have nN := Aside0.mk (Kd.N_keep HNL.out hR.keep (fun _ hk => hk.1)); clear HNL; have HNL := nN; clear nN; have nV := Aside0.mk (hR.V HV.out); clear HV; have HV := nV; clear nV; clear hbx hC2 hK2 hR))
        obtain ⟨x, hx⟩ : ∃ x_, x_ = rx b1 false := ⟨_, rfl⟩
        rw [← hx] at HV HXL ⊢
        have HXQ := Aside0.mk hx
        clear hx
        have hxl := HXL.out
        obtain ⟨ad, rfl, _⟩ := Kd.at_int (Kd.V_reads' HV.out).2.2 0 (by omega) (by omega)
        have bn0 : ((0 : Int) < (x.length : Int)) = True := eq_true (by omega)
        have hp0 : 0 < x.length := by omega
        obtain ⟨y, hy⟩ : ∃ y_, y_ = (l ++ [(⟨rd x 0, rg b1 false, (ra b1 false).1⟩ : S44)]) := ⟨_, rfl⟩
        have HYL := Aside0.mk hy
        clear hy
        have LTG := Aside0.mk (blk_lt BK.out)
        have NLT := Aside0.mk (Kd.N_lt HNL.out)
        have HR1 := Aside0.mk (RM.of_below (g := g) (Below.refl w3.heap.size w3))
        have hc_9 : w3.cell? ⟨g, 9, none⟩ = some (.slice A_l l.length c_l) := (blk_cell BK.out 9).trans rfl
        have hf_9 := blk_frozen BK.out 9
        refine start_ (n := 20) (S := fun w' => RM w3 w' g ∧ w'.cell? ⟨g, 9, none⟩ = some (.slice A_l l.length c_l)) (ds := [15, 19]) #[false, false, false, false, false, false, false, false, false, false, false, false, false, false, false, false, false, false, false, false] (by kernel_rfl) rfl rfl ⟨HR1.out.trans (RM.of_below (below_drew (Below.refl _ _))), hc_9⟩ (fun hHeld => ?_); refine with_tabW report_t report_b (fun HT_ HW_ => ?_)
        have hB : Below w3.heap.size w3 w3.drew := below_drew (Below.refl _ _)
        generalize w3.drew = w4 at hB hHeld ⊢
        have nHR := Aside0.mk (HR1.out.trans (RM.of_below hB))
        clear HR1
        have HR1 := nHR
        clear nHR
        clear hc_9 hf_9
        have nBK := Aside0.mk (blk_below BK.out hB)
        clear BK
        have BK := nBK
        clear nBK
        have nN := Aside0.mk (Kd.N_below HNL.out hB)
        clear HNL
        have HNL := nN
        clear nN
        clear hB
        have hc_9 : w4.cell? ⟨g, 9, none⟩ = some (.slice A_l l.length c_l) := (blk_cell BK.out 9).trans rfl
        have hf_9 := blk_frozen BK.out 9
        have HB4 := Aside0.mk ((HR3.out.trans HR1.out).below HB.out HG.out)
        refine pure_ (i := 0) (N := some 31) (v := ?_) (a' := ?_) #[true, false, false, false, false, false, false, false, false, false, false, false, false, false, false, false, false, false, false, false] rfl rfl (any_of HT_.out (by kernel_rfl)) (fun _ _ _ h => h) (Or.inl ⟨by rfl, ?_⟩) ?_ ?_
        rotate_left
        · intro w'
          go_simp
          with_reducible rfl
        rotate_left
        · simp only [Act.put, List.setIfInBounds_toArray, List.set_cons_zero, List.set_cons_succ, i64_w, i32_w]
          rfl
        refine pure_ (i := 1) (N := some 32) (v := ?_) (a' := ?_) #[true, true, false, false, false, false, false, false, false, false, false, false, false, false, false, false, false, false, false, false] rfl rfl (any_of HT_.out (by kernel_rfl)) (fun _ _ _ h => h) (Or.inl ⟨by rfl, ?_⟩) ?_ ?_
        rotate_left
        · intro w'
          go_simp
          with_reducible rfl
        rotate_left
        · simp only [Act.put, List.setIfInBounds_toArray, List.set_cons_zero, List.set_cons_succ, i64_w, i32_w]
          rfl
        refine pure_ (i := 2) (N := some 33) (v := ?_) (a' := ?_) #[true, true, true, false, false, false, false, false, false, false, false, false, false, false, false, false, false, false, false, false] rfl rfl (any_of HT_.out (by kernel_rfl)) (fun _ _ _ h => h) (Or.inl ⟨by rfl, ?_⟩) ?_ ?_
        rotate_left
        · intro w'
          go_simp
          with_reducible rfl
        rotate_left
        · simp only [Act.put, List.setIfInBounds_toArray, List.set_cons_zero, List.set_cons_succ, i64_w, i32_w]
          rfl
        refine pure_ (i := 3) (N := some 34) (v := ?_) (a' := ?_) #[true, true, true, true, false, false, false, false, false, false, false, false, false, false, false, false, false, false, false, false] rfl rfl (any_of HT_.out (by kernel_rfl)) (fun _ _ _ h => h) (Or.inl ⟨by rfl, ?_⟩) ?_ ?_
        rotate_left
        · intro w'
          go_simp
          with_reducible rfl
        rotate_left
        · simp only [Act.put, List.setIfInBounds_toArray, List.set_cons_zero, List.set_cons_succ, i64_w, i32_w]
          rfl
        refine pure_ (i := 4) (N := some 35) (v := ?_) (a' := ?_) #[true, true, true, true, true, false, false, false, false, false, false, false, false, false, false, false, false, false, false, false] rfl rfl (any_of HT_.out (by kernel_rfl)) (fun _ _ _ h => h) (Or.inl ⟨by rfl, ?_⟩) ?_ ?_
        rotate_left
        · intro w'
          go_simp
          with_reducible rfl
        rotate_left
        · simp only [Act.put, List.setIfInBounds_toArray, List.set_cons_zero, List.set_cons_succ, i64_w, i32_w]
          rfl
        refine take_ (i := 5) (N := some 36) (v := ?_) (a' := ?_) #[true, true, true, true, true, true, false, false, false, false, false, false, false, false, false, false, false, false, false, false] rfl rfl (take_ofW HT_.out HW_.out (by kernel_rfl)) (fun _ _ _ h => h) (Or.inl ⟨by rfl, ?_⟩) hHeld ?_ ?_
        rotate_left
        · rintro w' ⟨s0, s1⟩
          have y0 := idx_cell0 (Kd.V_reads' (s0.V HV.out)).2.2 (by omega)
          go_simp
          with_reducible rfl
        rotate_left
        · simp only [Act.put, List.setIfInBounds_toArray, List.set_cons_zero, List.set_cons_succ, i64_w, i32_w]
          rfl
        refine pure_ (i := 6) (N := some 37) (v := ?_) (a' := ?_) #[true, true, true, true, true, true, true, false, false, false, false, false, false, false, false, false, false, false, false, false] rfl rfl (any_of HT_.out (by kernel_rfl)) (fun _ _ _ h => h) (Or.inl ⟨by rfl, ?_⟩) ?_ ?_
        rotate_left
        · intro w'
          go_simp
          with_reducible rfl
        rotate_left
        · simp only [Act.put, List.setIfInBounds_toArray, List.set_cons_zero, List.set_cons_succ, i64_w, i32_w]
          rfl
        refine pure_ (i := 7) (N := some 38) (v := ?_) (a' := ?_) #[true, true, true, true, true, true, true, true, false, false, false, false, false, false, false, false, false, false, false, false] rfl rfl (any_of HT_.out (by kernel_rfl)) (fun _ _ _ h => h) (Or.inl ⟨by rfl, ?_⟩) ?_ ?_
        rotate_left
        · intro w'
          go_simp
          with_reducible rfl
        rotate_left
        · simp only [Act.put, List.setIfInBounds_toArray, List.set_cons_zero, List.set_cons_succ, i64_w, i32_w]
          rfl
        refine take_ (i := 8) (N := some 39) (v := ?_) (a' := ?_) #[true, true, true, true, true, true, true, true, true, false, false, false, false, false, false, false, false, false, false, false] rfl rfl (take_ofW HT_.out HW_.out (by kernel_rfl)) (fun _ _ _ h => h) (Or.inl ⟨by rfl, ?_⟩) hHeld ?_ ?_
        rotate_left
        · rintro w' ⟨s0, s1⟩
          have y0 := idx_cell0 (Kd.V_reads' (s0.V HV.out)).2.2 (by omega)
          go_simp
          with_reducible rfl
        rotate_left
        · simp only [Act.put, List.setIfInBounds_toArray, List.set_cons_zero, List.set_cons_succ, i64_w, i32_w]
          rfl
        refine pure_ (i := 9) (N := some 40) (v := ?_) (a' := ?_) #[true, true, true, true, true, true, true, true, true, true, false, false, false, false, false, false, false, false, false, false] rfl rfl (any_of HT_.out (by kernel_rfl)) (fun _ _ _ h => h) (Or.inl ⟨by rfl, ?_⟩) ?_ ?_
        rotate_left
        · intro w'
          go_simp
          with_reducible rfl
        rotate_left
        · simp only [Act.put, List.setIfInBounds_toArray, List.set_cons_zero, List.set_cons_succ, i64_w, i32_w]
          rfl
        refine pure_ (i := 10) (N := some 41) (v := ?_) (a' := ?_) #[true, true, true, true, true, true, true, true, true, true, true, false, false, false, false, false, false, false, false, false] rfl rfl (any_of HT_.out (by kernel_rfl)) (fun _ _ _ h => h) (Or.inl ⟨by rfl, ?_⟩) ?_ ?_
        rotate_left
        · intro w'
          go_simp
          with_reducible rfl
        rotate_left
        · simp only [Act.put, List.setIfInBounds_toArray, List.set_cons_zero, List.set_cons_succ, i64_w, i32_w]
          rfl
        refine pure_ (i := 11) (N := some 42) (v := ?_) (a' := ?_) #[true, true, true, true, true, true, true, true, true, true, true, true, false, false, false, false, false, false, false, false] rfl rfl (any_of HT_.out (by kernel_rfl)) (fun _ _ _ h => h) (Or.inl ⟨by rfl, ?_⟩) ?_ ?_
        rotate_left
        · intro w'
          go_simp
          with_reducible rfl
        rotate_left
        · simp only [Act.put, List.setIfInBounds_toArray, List.set_cons_zero, List.set_cons_succ, i64_w, i32_w]
          rfl
        refine one_ (i := 12) (N := some 43) #[true, true, true, true, true, true, true, true, true, true, true, true, true, false, false, false, false, false, false, false] rfl rfl (one_of HT_.out (by kernel_rfl)) (by decide) (fun K hK => ?_)
        refine goes_ Try.func56 (by kernel_rfl) rfl #[.pointer (some ⟨g, 0, none⟩), .int .i64 (rn b1 false : Nat)] (by rfl) rfl rfl (by (try simp only [List.map_toArray, List.map_cons, List.map_nil]); first | done | rfl) ?_
        with_reducible refine (addrs_o HB4.out HG.out BK.out HC3.out HK3.out HBY3.out HN3.out).mono ?_
        rintro e w5 ⟨v, A5, c5, rfl, hRw, hbx, hC5, hK5, hR⟩
        refine ⟨_, rfl, ?_⟩
        have hs4 := HR1.out.out.size
        clear BK hc_9 hf_9
        have BK := Aside0.mk hbx
        have HC5 := Aside0.mk hC5
        have HK5 := Aside0.mk hK5
        have nHR := Aside0.mk (HR1.out.trans hR)
        clear HR1
        have HR1 := nHR
        clear nHR
        have nN := Aside0.mk (Kd.N_keep HNL.out hR.keep (fun _ hk => hk.1))
        clear HNL
        have HNL := nN
        clear nN
        have HLR := Aside0.mk (Kd.R_lower hRw hs4)
        clear hRw hbx hC5 hK5 hR hs4
        obtain ⟨A_v, c_v, rfl⟩ := Kd.R_slice HLR.out
        have hc_9 : w5.cell? ⟨g, 9, none⟩ = some (.slice A_l l.length c_l) := (blk_cell BK.out 9).trans rfl
        have hf_9 := blk_frozen BK.out 9
        refine hK.out _ _ ⟨HR1.out, hc_9⟩ (fun hHeld => ?_)
        clear hK K
        refine norm_ (a' := ?_) ?_ ?_
        rotate_left
        · show Act.put _ (some 43) _ = _
          simp only [Act.put, List.setIfInBounds_toArray, List.set_cons_zero, List.set_cons_succ, i64_w, i32_w]
          rfl
        have HRW5 := Aside0.mk (HR3.out.trans HR1.out)
        refine pure_ (i := 13) (N := some 44) (v := ?_) (a' := ?_) #[true, true, true, true, true, true, true, true, true, true, true, true, true, true, false, false, false, false, false, false] rfl rfl (any_of HT_.out (by kernel_rfl)) (fun _ _ _ h => h) (Or.inl ⟨by rfl, ?_⟩) ?_ ?_
        rotate_left
        · intro w'
          go_simp
          with_reducible rfl
        rotate_left
        · simp only [Act.put, List.setIfInBounds_toArray, List.set_cons_zero, List.set_cons_succ, i64_w, i32_w]
          rfl
        refine one_ (i := 14) (N := some 45) #[true, true, true, true, true, true, true, true, true, true, true, true, true, true, true, false, false, false, false, false] rfl rfl (one_of HT_.out (by kernel_rfl)) (by decide) (fun K hK => ?_)
        refine value_ (w1 := ?_) (v := ?_) (by rfl) rfl ?_ ?_
        rotate_left 2
        · go_simp
          constructor
          · rfl
          · rfl
        refine hK.out _ _ ⟨HR1.out.trans (RM.of_below (below_alloc (Below.refl _ _) _)), (World.cell?_alloc_lt _ _ _ (World.block_lt_of_cell? _ _ hc_9)).trans hc_9⟩ (fun hHeld => ?_)
        clear hK K
        refine norm_ (a' := ?_) ?_ ?_
        rotate_left
        · show Act.put _ (some 45) _ = _
          simp only [Act.put, List.setIfInBounds_toArray, List.set_cons_zero, List.set_cons_succ, i64_w, i32_w]
          rfl
        refine last_ (i := 15) (N := some 46) #[true, true, true, true, true, true, true, true, true, true, true, true, true, true, true, true, false, false, false, false] rfl rfl (one_of HT_.out (by kernel_rfl)) (by decide) (fun K hK => ?_)
        have hlt5 := blk_lt BK.out
        have hll5 := HI.out.2.2
        have hnn := HN.out
        refine Kd.N_append_step k44 (w0 := w5) w.heap.size (by rfl) (.tmp 36) (.tmp 45) 25 44 (.agg #[(.int .u8 0), (.int .u32 0), (.slice none 0 0)]) 32 rfl Try.underlying25 info44 rfl (by decide) (by omega) _ l (⟨rd x 0, rg b1 false, (ra b1 false).1⟩ : S44) [.int .u8 (rd x 0), .int .u32 (rg b1 false), .slice A_v (ra b1 false).1.length c_v] (fun k => k ≠ g ∧ w.heap.size ≤ k) (fun k => w3.heap.size ≤ k) rfl rfl ?aP (fun k hk => ⟨⟨by have := LTG.out; omega, Nat.le_trans HR3.out.out.size hk⟩, fun e => by have := NLT.out k e.symm; omega⟩) (fun k hk => ⟨by omega, Nat.le_trans HRW5.out.out.size hk⟩) HNL.out (Below.refl _ _ |>.mono HRW5.out.out.size) HRW5.out.out.size (by omega) ?_
        (case aP => exact Kd.FK_of_M (k44_mkM _ _ _ (⟨rd x 0, rg b1 false, (ra b1 false).1⟩ : S44) (Kd.R_mono (Kd.R_tight rfl HLR.out) (fun k hk => Kd.R_base HLR.out k hk.symm))))
        intro v6 w6 ho hb hg hat
        clear hlt5 hll5 hnn
        rw [← HYL.out] at ho
        have HNE := Aside0.mk (Kd.N_ne HNL.out BK.out (by decide))
        have BK6 := Aside0.mk (blk_grown BK.out hg HNE.out)
        have HR6 := Aside0.mk (show RM w w6 g from ⟨⟨Nat.le_trans HRW5.out.keep.1 hg.size, fun q hq hq1 _ => (hg.block q (Nat.lt_of_lt_of_le hq HRW5.out.keep.1) (fun e => by have := Kd.N_base HNL.out q e.symm; omega)).trans (HRW5.out.block hq hq1)⟩, HRW5.out.out.trans (hb.mono (Nat.zero_le _))⟩)
        have HO6 := Aside0.mk ho
        clear ho hb hg hat BK HNL HNE hc_9 hf_9
        have BK := BK6
        clear BK6
        obtain ⟨A6, c6, rfl⟩ := Kd.N_slice HO6.out
        have hc_9 : w6.cell? ⟨g, 9, none⟩ = some (.slice A_l l.length c_l) := (blk_cell BK.out 9).trans rfl
        have hf_9 := blk_frozen BK.out 9
        refine hK.out _ _ ?_
        clear hK K
        refine norm_ (a' := ?_) ?_ ?_
        rotate_left
        · show Act.put _ (some 46) _ = _
          simp only [Act.put, List.setIfInBounds_toArray, List.set_cons_zero, List.set_cons_succ, i64_w, i32_w]
          rfl
        refine pure_ (i := 16) (N := some 47) (v := ?_) (a' := ?_) #[true, true, true, true, true, true, true, true, true, true, true, true, true, true, true, true, true, false, false, false] rfl rfl (any_of HT_.out (by kernel_rfl)) (fun _ _ _ h => h) (Or.inl ⟨by rfl, ?_⟩) ?_ ?_
        rotate_left
        · intro w'
          go_simp
          with_reducible rfl
        rotate_left
        · simp only [Act.put, List.setIfInBounds_toArray, List.set_cons_zero, List.set_cons_succ, i64_w, i32_w]
          rfl
        refine pure_ (i := 17) (N := some 48) (v := ?_) (a' := ?_) #[true, true, true, true, true, true, true, true, true, true, true, true, true, true, true, true, true, true, false, false] rfl rfl (any_of HT_.out (by kernel_rfl)) (fun _ _ _ h => h) (Or.inl ⟨by rfl, ?_⟩) ?_ ?_
        rotate_left
        · intro w'
          go_simp
          with_reducible rfl
        rotate_left
        · simp only [Act.put, List.setIfInBounds_toArray, List.set_cons_zero, List.set_cons_succ, i64_w, i32_w]
          rfl
        refine pure_ (i := 18) (N := some 49) (v := ?_) (a' := ?_) #[true, true, true, true, true, true, true, true, true, true, true, true, true, true, true, true, true, true, true, false] rfl rfl (any_of HT_.out (by kernel_rfl)) (fun _ _ _ h => h) (Or.inl ⟨by rfl, ?_⟩) ?_ ?_
        rotate_left
        · intro w'
          go_simp
          with_reducible rfl
        rotate_left
        · simp only [Act.put, List.setIfInBounds_toArray, List.set_cons_zero, List.set_cons_succ, i64_w, i32_w]
          rfl
        refine last_ (i := 19) (N := none) #[true, true, true, true, true, true, true, true, true, true, true, true, true, true, true, true, true, true, true, true] rfl rfl (one_of HT_.out (by kernel_rfl)) (by decide) (fun K hK => ?_)
        refine skip_ (w1 := ?_) (by rfl) rfl ?_ ?_
        rotate_left
        · go_simp
          rfl
        refine hK.out _ _ ?_
        clear hK K
        have HB7 := Aside0.mk (blk_put (cs := #[.slice A5 (ra b1 false).2.1.length c5, .int .u8 k, .int .i64 ver, .int .u8 code, .int .u32 grp, .bool quiet, .int .u8 rob, .int .u8 every, vS, .slice A_l l.length c_l, .bool (ra b1 false).2.2]) BK.out 9 (.slice A6 y.length c6) rfl)
        have HR7 := Aside0.mk (HR6.out.set 9 (.slice A6 y.length c6))
        have HO7 := Aside0.mk (Kd.N_far (p := ⟨g, 9, none⟩) HO6.out (fun _ hk => hk.1) (.slice A6 y.length c6))
        clear hc_9 hf_9 BK HR6 HO6
        generalize (w6.setCell ⟨g, 9, none⟩ (.slice A6 y.length c6)) = w7 at HB7 HR7 HO7 ⊢
        refine done_ (done_of HT_.out (by kernel_rfl)) ?_
        go_wp2
        go_roundg (n - (i + 1))
        case measure => omega
        case rel =>
          refine ⟨i + 1, _, _, _, _, A5, c5, ?_, ⟨by omega, rfl, by rw [HYL.out, List.length_append]; simp only [List.length_cons, List.length_nil]; omega⟩, ⟨?_⟩, HO7, HB7, HC5, HK5, HBY5, HR7⟩
          · have hn := HN.out
            show Value.int .i64 (wrap64 ((i : Int) + 1)) = _
            rw [rw64 (by omega) (by omega)]
            rfl
          · have hl := HL.out
            rw [show n - i = (n - (i + 1)) + 1 from by omega] at hl
            simp only [rcs, rrec, Bool.false_eq_true, if_false] at hl
            rw [← HXQ.out] at hl
            exact ⟨by rw [← hl.1, HYL.out]; simp, hl.2⟩
    · have c5b0 : decide ((i : Int) < (n : Int)) = false := decide_eq_false (by omega)
      have hc_9 : wr.cell? ⟨g, 9, none⟩ = some (.slice A_l l.length c_l) := (blk_cell BK.out 9).trans rfl
      have hf_9 := blk_frozen BK.out 9
      by_cases hod : be2 (rx bs sh) = 0
      · have hodb : (be2 (rx bs sh) != 0) = false := by rw [hod]; rfl
        have HOD := Aside0.mk hod
        clear hod
        go_wp2
        go_end0
        have hl := HL.out
        rw [show n - i = 0 from by omega] at hl
        simp only [rcs] at hl
        rw [HPO.out]
        rw [List.append_nil] at hl
        refine ⟨.slice A_l l.length c_l, A1, c1, rfl, ?_, ?_, ?_, ?_, HR.out⟩
        · rw [if_pos HOD.out, ← hl.1]; exact HNL.out
        · rw [← hl.2]; exact BK.out
        · rw [← hl.2]; exact HC.out
        · rw [← hl.2]; exact HK.out
      · have hodb : (be2 (rx bs sh) != 0) = true := bne_iff_ne.mpr hod
        have HOD := Aside0.mk hod
        clear hod
        have LTG := Aside0.mk (blk_lt BK.out)
        obtain ⟨y9, hy9⟩ : ∃ y_, y_ = List.replicate 33 z44 := ⟨_, rfl⟩
        have HY9 := Aside0.mk hy9
        clear hy9
        go_wp2_with (first | ((with_reducible refine gate_dst (N := 52) rfl ?_); refine Kd.N_make k44 (w0 := wr) wr.heap.size 44 rfl rfl 25 (.const (.int .i64 33)) (.const (.int .i64 33)) rfl (33 : Int) rfl rfl Try.underlying25 (.agg #[(.int .u8 0), (.int .u32 0), (.slice none 0 0)]) 32 info44 rfl (by decide) (by decide) z44 (ok := fun k => k ≠ g ∧ w.heap.size ≤ k) (okp := fun k => k ≠ g ∧ w.heap.size ≤ k) (Kd.FK_of_M (k44_mkM wr 0 (fun k => k ≠ g ∧ w.heap.size ≤ k) z44 (v2 := .slice none 0 0) (Kd.R_nil _ _ _ _ _))) (fun _ h => h) ⟨by have := LTG.out; omega, HR.out.out.size⟩ (by decide) (by decide) (Below.refl _ _) (Nat.le_refl _) ?_; intro v9 w9 hN hb hg_ hn_; replace hN : Kd.N k44 44 w9 w.heap.size (fun k => k ≠ g ∧ w.heap.size ≤ k) v9 (List.replicate 33 z44) := Kd.N_lower hN HR.out.out.size; rw [← HY9.out] at hN; have HN9 := Aside0.mk hN; have BK9 := Aside0.mk (blk_below BK.out hb); have HR9 := Aside0.mk (HR.out.trans (RM.of_below hb)); clear hN hb hg_ hn_; obtain ⟨A9, c9, rfl⟩ := Kd.N_slice HN9.out; have hc9_ : w9.cell? ⟨g, 9, none⟩ = some (.slice A_l l.length c_l) := (blk_cell BK9.out 9).trans rfl; have hf9_ := blk_frozen BK9.out 9))
        go_end0
        have hl := HL.out
        rw [show n - i = 0 from by omega] at hl
        simp only [rcs] at hl
        rw [HPO.out]
        refine ⟨.slice A9 y9.length c9, A1, c1, rfl, ?_, ?_, ?_, ?_, HR9.out.set 9 _⟩
        · rw [if_neg HOD.out, ← HY9.out]; exact Kd.N_far (p := ⟨g, 9, none⟩) HN9.out (fun _ hk => hk.1) _
        · rw [← hl.2]; exact blk_put (cs := #[.slice A1 b1.length c1, .int .u8 k, .int .i64 ver, .int .u8 code, .int .u32 grp, .bool quiet, .int .u8 rob, .int .u8 every, vS, .slice A_l l.length c_l, .bool s1]) BK9.out 9 _ rfl
        · rw [← hl.2]; exact HC.out
        · rw [← hl.2]; exact HK.out
end Go.Proofs.Ytmmjmncchckbbaa
/-
  A small map of function values: filled, looked up; a call of a method value.
-/
namespace Go.Proofs.Ytmmjmncchckbbaa
open Go.RowKit Go.Proofs.YtmmjmncchckbbaaW.PrintWords Go.Proofs.YtmmjmncchckbbaaW.PrintLast Go.Proofs.YtmmjmncchckbbaaW.PrintMore Go.Proofs.Ytmmjmncchckbbaa.PIg
set_option linter.unusedVariables false
set_option linter.unusedSimpArgs false
theorem ud67 : Try.prog.underlying 67 = some (.map 5 1) := by kernel_rfl
theorem ud5 : Try.prog.underlying 5 = some (.int .u8) := by kernel_rfl
theorem zv1 (w : World) : (zeroValue 1).run Try.prog w = .ok .nilFunc w := by rfl
section
variable {w : World} {b clock : Nat} {es : Array MapEntry} {kv : Int} {val : Value}
theorem run_ins (hb : w.heap[b]? = some (.map es clock)) (h1 : Instr.findNow (.int .u8) (.int .u8 kv) es.toList 0 = some none) :
    (Instr.mapUpdate 67 (.map (some b)) (.int .u8 kv) val).run Try.prog w = .ok () { w with heap := w.heap.setIfInBounds b (.map (es.push ⟨.int .u8 kv, val, clock⟩) (clock + 1)) } := by
  simp [Instr.mapUpdate, run_underlying ud67, MapKept.run_getObj_map hb, MapKept.run_checkKey ud5 (show MapKept.IsKey (.int .u8) (.int .u8 kv) from rfl), MapKept.run_findKey ud5 h1, MapKept.run_setObj_map _ hb, Result.andThen]
theorem run_look {z : Option (Nat × Value)} (hb : w.heap[b]? = some (.map es clock)) (h1 : Instr.findNow (.int .u8) (.int .u8 kv) es.toList 0 = some z) :
    (Instr.lookup 67 (.map (some b)) (.int .u8 kv) true).run Try.prog w = .ok (match z with | some (_, v) => .tuple #[v, .bool true] | none => .tuple #[.nilFunc, .bool false]) w := by
  cases z <;> simp [Instr.lookup, run_underlying ud67, MapKept.run_getObj_map hb, MapKept.run_checkKey ud5 (show MapKept.IsKey (.int .u8) (.int .u8 kv) from rfl), MapKept.run_findKey ud5 h1, zv1, Result.andThen]
end
section
variable {P : Program} {ops : Array Oper} {Q : Exit → Act → World → Prop}
theorem mk_ {W : World} {rest : List Oper} {o : Oper} {a : Act} (hg : o.guard = none) (t : TypeId) (hop : o.op = .makeMap t none)
    (h : ∀ b w1, b = W.heap.size → w1.heap[b]? = some (.map #[] 0) → Below W.heap.size W w1 → wpList P ops Q rest (a.put o.dst (.map (some b))) w1) : wpList P ops Q (o :: rest) a W := by
  refine wpList_plain hg fun K hK => ?_
  unfold Oper.wp
  simp only [execOp, hop, Option.map_none, Sem.run_bind, run_makeMap, Result.andThen]
  exact hK _ _ (h _ _ rfl (by show (W.heap.push (Obj.map #[] 0))[W.heap.size]? = _; simp) (below_alloc (Below.refl _ _) _))
theorem ins_ {w : World} {rest : List Oper} {o : Oper} {a : Act} (hg : o.guard = none) (m v : Operand) (kv : Int) (hop : o.op = .insert 67 m (.const (.int .u8 kv)) v)
    (b clock : Nat) (es : Array MapEntry) (hm : a.eval m = .map (some b)) (val : Value) (hv : a.eval v = val) (hb : w.heap[b]? = some (.map es clock)) (h1 : Instr.findNow (.int .u8) (.int .u8 kv) es.toList 0 = some none)
    (h : ∀ w1, w1.heap[b]? = some (.map (es.push ⟨.int .u8 kv, val, clock⟩) (clock + 1)) → RM w w1 b → wpList Try.prog ops Q rest (a.put o.dst undef) w1) : wpList Try.prog ops Q (o :: rest) a w := by
  refine wpList_plain hg fun K hK => ?_
  unfold Oper.wp
  have he : a.eval (.const (.int .u8 kv)) = .int .u8 kv := rfl
  simp only [execOp, hop, hm, hv, he, Sem.run_bind, run_ins hb h1, Result.andThen]
  refine hK _ _ (h _ (MapKept.heap_set hb).1 ⟨⟨?_, fun q hq hq1 _ => (MapKept.heap_set hb).2 q hq1⟩, ⟨rfl, rfl, rfl, ?_, fun q hq => absurd hq (Nat.not_lt_zero _)⟩⟩)
  · simp
  · simp
theorem goesB_ {rest : List Oper} {oi : Oper} {a : Act} {w : World} (N : Option Tmp) (hd : oi.dst = N) (hg : oi.guard = none) {f : FuncId} {fn : Func} {xs : Array Operand} {ts : Array TypeId} {cv : Operand} (hf : P.funcs[f]? = some fn) (hname : (fn.name == "runtime.NumGoroutine") = false) (hb : fn.body.isSome = true) (first args : Array Value)
    (hop : oi.op = .call { callee := .value cv, args := xs, argTypes := ts }) (hv : a.eval cv = .func (.func f) first #[]) (hargs : first ++ xs.map a.eval = args)
    (h : Calls P f args w fun e w' => ∃ v, e = .returned v ∧ wpList P ops Q rest (a.put N v) w') : wpList P ops Q (oi :: rest) a w := by
  refine wpList_plain hg fun K hK => ?_
  have he := enters_ hf hname hb args w
  have hrun : (execOp a.eval oi).run P w = .ok (.enter f args) w := by
    unfold execOp
    rw [hop]
    simp only [resolve, hv]
    simp [Deferred.ofValue, invoke, hargs, he]
  unfold Oper.wp
  rw [hrun, Oper.upon_enter]
  refine h.mono fun e w'' hh => ?_
  obtain ⟨v, rfl, hk⟩ := hh
  subst hd
  exact hK _ _ hk
end
end Go.Proofs.Ytmmjmncchckbbaa
/-
  What each kind of message is read as.
-/
namespace Go.Proofs.Ytmmjmncchckbbaa
open Go.RowKit Go.Proofs.YtmmjmncchckbbaaW.PrintWords Go.Proofs.YtmmjmncchckbbaaW.PrintLast Go.Proofs.YtmmjmncchckbbaaW.PrintMore Go.Proofs.Ytmmjmncchckbbaa.PIg
set_option linter.unusedVariables false
set_option linter.unusedSimpArgs false
/-- A message. -/
structure Msg where
  k : Int
  ver : Int
  code : Int
  grp : Int
  quiet : Bool
  rob : Int
  every : Int
  srcs : List Int
  recs : List S44
def msg0 : Msg := ⟨0, 0, 0, 0, false, 0, 0, [], []⟩
def Msg.vals (m : Msg) (vS vR : Value) : Array Value := #[.int .u8 m.k, .int .i64 m.ver, .int .u8 m.code, .int .u32 m.grp, .bool m.quiet, .int .u8 m.rob, .int .u8 m.every, vS, vR]
/-- The function f, called on a new reader of these bytes, leaves this message. -/
def ReadsTo (f : Nat) (k code : Int) (bs : List Int) (r : Msg × List Int × Bool) : Prop :=
  ∀ (w0 w : World) (g : Nat) (A : Option Addr) (c : Nat), Below w0.heap.size w0 w → w0.heap.size ≤ g → w.heap[g]? = some (.cells #[.slice A bs.length c, .int .u8 k, .int .i64 0, .int .u8 code, .int .u32 0, .bool false, .int .u8 0, .int .u8 0, .slice none 0 0, .slice none 0 0, .bool false] 66 (0, 0)) → Kd.C (Kd.int .u8) w0 A bs.length bs → bs.length ≤ c →
    Calls Try.prog f #[.pointer (some ⟨g, 0, none⟩)] w fun e w' => ∃ vS vR A2 c2, e = .returned (.tuple #[]) ∧ Kd.R (Kd.int .u32) 23 w' w.heap.size (fun k => k ≠ g) vS r.1.srcs ∧ Kd.N k44 44 w' w.heap.size (fun k => k ≠ g ∧ w.heap.size ≤ k) vR r.1.recs ∧ w'.heap[g]? = some (.cells #[.slice A2 r.2.1.length c2, .int .u8 r.1.k, .int .i64 r.1.ver, .int .u8 r.1.code, .int .u32 r.1.grp, .bool r.1.quiet, .int .u8 r.1.rob, .int .u8 r.1.every, vS, vR, .bool r.2.2] 66 (0, 0)) ∧ RM w w' g
def rdPlain (k code : Int) (bs : List Int) : Msg × List Int × Bool := (⟨k, 0, code, av (tkx 4 bs false), false, 0, 0, [], []⟩, tkb 4 bs false, tks 4 bs false)
def rdQuery (k code : Int) (bs : List Int) : Msg × List Int × Bool :=
  if 4 < bs.length then (⟨k, 3, code, av (tkx 4 bs false), Go.bits .and .u8 (rd (qx bs false) 0) 8 != 0, Go.bits .and .u8 (rd (qx bs false) 0) 7, rd (qx bs false) 1, (qa bs false).1, []⟩, (qa bs false).2.1, (qa bs false).2.2)
  else if (code == 0) = true then (⟨k, 1, code, 0, false, 0, 0, [], []⟩, tkb 4 bs false, tks 4 bs false)
  else (⟨k, 2, code, av (tkx 4 bs false), false, 0, 0, [], []⟩, tkb 4 bs false, tks 4 bs false)
def rdReport (k code : Int) (bs : List Int) : Msg × List Int × Bool :=
  (⟨k, 0, code, 0, false, 0, 0, [], if be2 (rx bs false) = 0 then (rcs (rn bs false) (rb2 bs false) (rs2 bs false)).1 else List.replicate 33 z44⟩, (rcs (rn bs false) (rb2 bs false) (rs2 bs false)).2.1, (rcs (rn bs false) (rb2 bs false) (rs2 bs false)).2.2)
theorem plain_reads (k code : Int) {bs : List Int} (hby : Byt bs) : ReadsTo 42 k code bs (rdPlain k code bs) := by
  intro w0 w g A c hB hg h hC hc
  refine (plain_w hB hg h hC hc hby).mono ?_
  rintro e w' ⟨A2, c2, rfl, hb, _, _, hR⟩
  exact ⟨.slice none 0 0, .slice none 0 0, A2, c2, rfl, Kd.R_nil _ _ _ _ _, Kd.N_nil _ _ _ _ _, hb, hR⟩
theorem query_reads (k code : Int) {bs : List Int} (hby : Byt bs) : ReadsTo 41 k code bs (rdQuery k code bs) := by
  intro w0 w g A c hB hg h hC hc
  unfold rdQuery
  by_cases hn : 4 < bs.length
  · rw [if_pos hn]
    cases hz : code == 0
    · refine (query_l0 hB hg h hC hc hby hz hn).mono ?_
      rintro e w' ⟨v, A2, c2, rfl, hv, hb, _, _, hR⟩
      exact ⟨v, .slice none 0 0, A2, c2, rfl, hv, Kd.N_nil _ _ _ _ _, hb, hR⟩
    · refine (query_l1 hB hg h hC hc hby hz hn).mono ?_
      rintro e w' ⟨v, A2, c2, rfl, hv, hb, _, _, hR⟩
      exact ⟨v, .slice none 0 0, A2, c2, rfl, hv, Kd.N_nil _ _ _ _ _, hb, hR⟩
  · rw [if_neg hn]
    cases hz : code == 0
    · rw [if_neg (by decide)]
      refine (query_s0 hB hg h hC hc hby hz hn).mono ?_
      rintro e w' ⟨A2, c2, rfl, hb, _, _, hR⟩
      exact ⟨.slice none 0 0, .slice none 0 0, A2, c2, rfl, Kd.R_nil _ _ _ _ _, Kd.N_nil _ _ _ _ _, hb, hR⟩
    · rw [if_pos rfl]
      refine (query_s1 hB hg h hC hc hby hz hn).mono ?_
      rintro e w' ⟨A2, c2, rfl, hb, _, _, hR⟩
      exact ⟨.slice none 0 0, .slice none 0 0, A2, c2, rfl, Kd.R_nil _ _ _ _ _, Kd.N_nil _ _ _ _ _, hb, hR⟩
theorem report_reads (k code : Int) {bs : List Int} (hby : Byt bs) : ReadsTo 43 k code bs (rdReport k code bs) := by
  intro w0 w g A c hB hg h hC hc
  refine (report_w (vR := .slice none 0 0) hB hg h hC hc hby).mono ?_
  rintro e w' ⟨v, A2, c2, rfl, hv, hb, _, _, hR⟩
  exact ⟨.slice none 0 0, v, A2, c2, rfl, Kd.R_nil _ _ _ _ _, hv, hb, hR⟩
end Go.Proofs.Ytmmjmncchckbbaa
/-
  The writer of messages: what lay does.
-/
namespace Go.Proofs.Ytmmjmncchckbbaa
open Go.RowKit Go.Proofs.YtmmjmncchckbbaaW.PrintWords Go.Proofs.YtmmjmncchckbbaaW.PrintLast Go.Proofs.YtmmjmncchckbbaaW.PrintMore Go.Proofs.Ytmmjmncchckbbaa.PIg
set_option linter.unusedVariables false
set_option linter.unusedSimpArgs false
set_option maxHeartbeats 4000000 in
set_option maxRecDepth 100000 in
theorem lay_calls {base g : Nat} {v : Value} {xs ys : List Int} {A : Option Addr} {c : Nat} {w : World} (hb : w.heap[g]? = some (.cells #[v] 51 (0, 0))) (hR : Kd.R (Kd.int .u8) 5 w base (fun _ => True) v xs) (hbase : base ≤ w.heap.size) (hC : Kd.C (Kd.int .u8) w A ys.length ys) (hl : xs.length + ys.length ≤ 100000000) :
    Calls Try.prog 23 #[.pointer (some ⟨g, 0, none⟩), .slice A ys.length c] w fun e w' => e = .returned (.tuple #[]) ∧ ∃ v', w'.heap[g]? = some (.cells #[v'] 51 (0, 0)) ∧ Kd.R (Kd.int .u8) 5 w' base (fun _ => True) v' (xs ++ ys) ∧ Kept w w' (fun k => k = g ∨ some k = v.ownBlock) ∧ (v'.ownBlock = v.ownBlock ∨ ∃ b, v'.ownBlock = some b ∧ w.heap.size ≤ b) ∧ Below 0 w w' := by
  obtain ⟨Av, cv, rfl⟩ := Kd.R_slice hR
  have hc0 : w.cell? ⟨g, 0, none⟩ = some (.slice Av xs.length cv) := (blk_cell hb 0).trans rfl
  have hf0 := blk_frozen hb 0
  have HB := Aside0.mk hb
  have HR := Aside0.mk hR
  have HBS := Aside0.mk hbase
  have HC := Aside0.mk hC
  have HL := Aside0.mk hl
  clear hb hR hbase hC hl
  go_enter Try.func23, Try.ntmps23
  go_wp2_with (first | ((with_reducible refine gate_dst (N := 10) rfl ?_); refine Kd.R_append_rows (Kd.int .u8) (w0 := w) base rfl (.tmp 8) (.tmp 9) 30 5 (.int .u8 0) 1 rfl rfl Try.info5 rfl (by decide) (by decide) _ xs ys A ys.length c (fun _ => True) (fun _ => False) rfl rfl HR.out HC.out (fun _ _ h => h) (fun _ h => h.elim) (fun _ _ => trivial) (Below.refl _ _) HBS.out (by have := HL.out; omega) ?_; intro v1 w1 hR1 hB1 hg hat; have HB1 := Aside0.mk (show w1.heap[g]? = some (.cells #[.slice Av xs.length cv] 51 (0, 0)) from blk_grown HB.out hg (Kd.R_ne HR.out HB.out (by decide))); have hc1 : w1.cell? ⟨g, 0, none⟩ = some (.slice Av xs.length cv) := (blk_cell HB1.out 0).trans rfl; have hf1 := blk_frozen HB1.out 0; have HR1 := Aside0.mk hR1; have HG1 := Aside0.mk hg; have HBB := Aside0.mk hB1; have HAT := Aside0.mk hat; clear hR1 hB1 hg hat; obtain ⟨A1, c1, e1⟩ := Kd.R_slice HR1.out; subst e1))
  go_end0
  have hr1 := HR1.out
  have hat := HAT.out
  have hg1 : w.grownBy w1 (Value.slice Av xs.length cv).ownBlock := HG1.out
  rw [List.length_append] at hr1 hat
  refine ⟨rfl, _, blk_put (cs := #[.slice Av xs.length cv]) HB1.out 0 _ rfl, ?_, ⟨?_, fun i hi hn => ?_⟩, hat, ⟨HBB.out.os, HBB.out.tape, HBB.out.output, ?_, fun k hk => absurd hk (Nat.not_lt_zero _)⟩⟩
  · exact Kd.R_mono (Kd.R_far (p := ⟨g, 0, none⟩) (Kd.R_types hr1 HB1.out (by decide)) (fun _ hk => hk.2) _) (fun _ _ => trivial)
  · simpa [World.setCell] using hg1.size
  · have h1 : i ≠ g := fun e => hn (.inl e)
    have h2 : some i ≠ (Value.slice Av xs.length cv).ownBlock := fun e => hn (.inr e)
    exact (Below.heap_setCell w1 ⟨g, 0, none⟩ _ i h1).trans (hg1.block i hi h2)
  · simpa [World.setCell] using hg1.size

/-- What a call on the writer at block g may have turned: its box, its row. -/
structure WM (w w' : World) (g : Nat) (v v' : Value) : Prop where
  kept : Kept w w' (fun k => k = g ∨ some k = v.ownBlock)
  at_ : v'.ownBlock = v.ownBlock ∨ ∃ b, v'.ownBlock = some b ∧ w.heap.size ≤ b
  out : Below 0 w w'
/-- The writer at block g holds xs. -/
structure Wr (w : World) (base g : Nat) (xs : List Int) (v : Value) : Prop where
  box : w.heap[g]? = some (.cells #[v] 51 (0, 0))
  row : Kd.R (Kd.int .u8) 5 w base (fun _ => True) v xs
theorem WM.size {w w' : World} {g : Nat} {v v' : Value} (h : WM w w' g v v') : w.heap.size ≤ w'.heap.size := h.kept.1
theorem WM.block {w w' : World} {g : Nat} {v v' : Value} (h : WM w w' g v v') {b : Nat} (hb : b < w.heap.size) (h1 : b ≠ g) (h2 : some b ≠ v.ownBlock) : w'.heap[b]? = w.heap[b]? := h.kept.2 b hb (fun h => h.elim h1 h2)
theorem WM.of_below {w w' : World} {g : Nat} {v : Value} (h : Below w.heap.size w w') : WM w w' g v v := ⟨Kept.of_below h _, .inl rfl, h.mono (Nat.zero_le _)⟩
theorem WM.trans {w w1 w2 : World} {g : Nat} {v v1 v2 : Value} (h : WM w w1 g v v1) (k : WM w1 w2 g v1 v2) : WM w w2 g v v2 := by
  refine ⟨⟨Nat.le_trans h.size k.size, fun i hi hn => ?_⟩, ?_, h.out.trans k.out⟩
  · have h1 : i ≠ g := fun e => hn (.inl e)
    have h2 : some i ≠ v.ownBlock := fun e => hn (.inr e)
    refine (k.block (Nat.lt_of_lt_of_le hi h.size) h1 (fun e => ?_)).trans (h.block hi h1 h2)
    rcases h.at_ with h3 | ⟨b, h3, h4⟩
    · exact h2 (e.trans h3)
    · rw [h3] at e; injection e with e; omega
  · rcases k.at_ with h3 | ⟨b, h3, h4⟩
    · rcases h.at_ with h5 | ⟨b, h5, h6⟩
      · exact .inl (h3.trans h5)
      · exact .inr ⟨b, h3.trans h5, h6⟩
    · exact .inr ⟨b, h3, Nat.le_trans h.size h4⟩
theorem Wr.below {w w' : World} {base g : Nat} {xs : List Int} {v : Value} (h : Wr w base g xs v) (hb : Below w.heap.size w w') : Wr w' base g xs v := ⟨blk_below h.box hb, Kd.R_below h.row hb⟩
theorem WM.V {α : Type} {d : Kd α} {e b : Nat} {u : Value} {xs : List α} {w w' : World} {g : Nat} {v v' : Value} (h : WM w w' g v v') (hV : Kd.V d e w b (fun k => k ≠ g ∧ some k ≠ v.ownBlock) u xs) : Kd.V d e w' b (fun k => k ≠ g ∧ some k ≠ v'.ownBlock) u xs :=
  Kd.V_mono (Kd.V_step (Kd.V_bound hV) (fun k hk hlt => h.block hlt hk.1.1 hk.1.2)) (fun k hk => ⟨hk.1.1, fun e => by
    rcases h.at_ with h3 | ⟨b, h3, h4⟩
    · exact hk.1.2 (e.trans h3)
    · rw [h3] at e; injection e with e; have := hk.2; omega⟩)
theorem lay_w {base g : Nat} {v : Value} {xs ys : List Int} {A : Option Addr} {c : Nat} {w : World} (h : Wr w base g xs v) (hbase : base ≤ w.heap.size) (hC : Kd.C (Kd.int .u8) w A ys.length ys) (hl : xs.length + ys.length ≤ 100000000) :
    Calls Try.prog 23 #[.pointer (some ⟨g, 0, none⟩), .slice A ys.length c] w fun e w' => e = .returned (.tuple #[]) ∧ ∃ v', Wr w' base g (xs ++ ys) v' ∧ WM w w' g v v' :=
  (lay_calls h.box h.row hbase hC hl).mono fun _ _ ⟨h1, v', h2, h3, h4, h5, h6⟩ => ⟨h1, v', ⟨h2, h3⟩, ⟨h4, h5, h6⟩⟩
/-- An address's bytes. -/
def ab (a : Int) : List Int := [a / 16777216 % 256, a / 65536 % 256, a / 256 % 256, a % 256]
theorem w64' {i : Int} (h0 : -9223372036854775808 ≤ i) (h1 : i ≤ 9223372036854775807) : wrap64 i = i := by unfold wrap64; omega
theorem part_some {a : Int} (i : Int) (h0 : 0 ≤ i) (h1 : i < 4) : addr_part.f a i = some ((a / 2 ^ (24 - 8 * i).toNat) % 256) := by
  unfold addr_part.f
  rw [w64' (i := 8 * i) (by omega) (by omega), w64' (i := 24 - 8 * i) (by omega) (by omega), if_pos (by omega)]
  unfold shr
  rw [show min (24 - 8 * i).toNat IntKind.u32.bits = (24 - 8 * i).toNat from Nat.min_eq_left (by simp [IntKind.bits]; omega)]
theorem addr_bytes_some {a : Int} (k : Nat) : addr_Bytes.f (k + 5) a = some (ab a) := by
  unfold addr_Bytes.f
  rw [if_pos (by omega), Option.bind_some]
  simp only [addr_Bytes.l0, List.length_replicate, List.length_set]
  rw [part_some 0 (by omega) (by omega)]
  have e1 : wrap64 ((0 : Int) + 1) = 1 := (w64' (by omega) (by omega)).trans (by omega)
  have e2 : wrap64 ((1 : Int) + 1) = 2 := (w64' (by omega) (by omega)).trans (by omega)
  have e3 : wrap64 ((2 : Int) + 1) = 3 := (w64' (by omega) (by omega)).trans (by omega)
  have e4 : wrap64 ((3 : Int) + 1) = 4 := (w64' (by omega) (by omega)).trans (by omega)
  simp only [e1, e2, e3, e4]
  rw [part_some 1 (by omega) (by omega), part_some 2 (by omega) (by omega), part_some 3 (by omega) (by omega)]
  simp [ab]
theorem abytes_calls (a : Int) (w : World) : Calls Try.prog 25 #[.int .u32 a] w fun e w' => ∃ v, e = .returned v ∧ Kd.R (Kd.int .u8) 5 w' w.heap.size (fun _ => True) v (ab a) ∧ Below w.heap.size w w' :=
  (addr_Bytes.calls 5 a (ab a) w (addr_bytes_some 0)).mono fun _ _ ⟨v, h1, h2, h3⟩ => ⟨v, h1, Kd.R_mono h2 (fun _ _ => trivial), h3⟩
/-- How many, what stands between, and they. -/
def wrow (G L : List Int) : List Int := [(L.length : Int) / 256 % 256, (L.length : Int) % 256] ++ G ++ L.flatMap ab
theorem flat_len (L : List Int) : (L.flatMap ab).length = 4 * L.length := by
  induction L with
  | nil => rfl
  | cons a L ih => rw [List.flatMap_cons, List.length_append, ih, List.length_cons]; simp only [ab, List.length_cons, List.length_nil]; omega
set_option maxHeartbeats 4000000 in
set_option maxRecDepth 100000 in
theorem addrs_w {base g : Nat} {v : Value} {xs G L : List Int} {A_G A_L : Option Addr} {c_G c_L : Nat} {w : World} (h : Wr w base g xs v) (hbase : base ≤ w.heap.size) (hG : Kd.V (Kd.int .u8) 5 w 0 (fun k => k ≠ g ∧ some k ≠ v.ownBlock) (.slice A_G G.length c_G) G) (hL : Kd.V (Kd.int .u32) 23 w 0 (fun k => k ≠ g ∧ some k ≠ v.ownBlock) (.slice A_L L.length c_L) L) (hl : xs.length + G.length + 4 * L.length ≤ 10000000) (hw : ∀ a ∈ L, 0 ≤ a ∧ a < 4294967296) :
    Calls Try.prog 24 #[.pointer (some ⟨g, 0, none⟩), .slice A_G G.length c_G, .slice A_L L.length c_L] w fun e w' => e = .returned (.tuple #[]) ∧ ∃ v', Wr w' base g (xs ++ wrow G L) v' ∧ WM w w' g v v' := by
  obtain ⟨y, hy⟩ : ∃ y_, y_ = [(L.length : Int) / 256 % 256, (L.length : Int) % 256] := ⟨_, rfl⟩
  have HY := Aside0.mk hy
  have Y2 : Aside0 (y.length = 2) := ⟨by rw [hy]; rfl⟩
  have HW := Aside0.mk h
  have HBS := Aside0.mk hbase
  have HG := Aside0.mk hG
  have HL := Aside0.mk hL
  have HLN := Aside0.mk hl
  have HRG := Aside0.mk hw
  clear hy h hbase hG hL hl hw
  go_enter Try.func24, Try.ntmps24
  go_wp2_with (first | ((with_reducible refine gate_dst (N := 16) rfl ?_); refine Kd.R_lit (Kd.int .u8) _ 5 ?hg (N := 16) ?hd (xs := [(L.length : Int) / 256 % 256, (L.length : Int) % 256]) (inner := [.int .u8 ((L.length : Int) / 256 % 256), .int .u8 ((L.length : Int) % 256)]) (ok := fun _ => True) (okp := fun _ => True) ?hr ?hp (fun _ hk => hk) trivial (Below.refl _ _) (Nat.le_refl _) (by simp) ?_; (case hd => rfl); (case hg => rfl); (case hr => first | (go_simp; done) | (go_simp; rfl)); (case hp => exact Reps.one (show Kd.M (Kd.int .u8) _ _ _ _ _ from rfl) (Reps.one (show Kd.M (Kd.int .u8) _ _ _ _ _ from rfl) (Reps.none _ _))); intro v16 w1 hR hb hg_ hn_; clear hg_ hn_; rw [← HY.out] at hR; have HW1 := Aside0.mk (HW.out.below hb); have HM1 := Aside0.mk (WM.of_below (g := g) (v := v) hb); obtain ⟨A_y, c_y, rfl⟩ := Kd.R_slice hR; have HC_y := Aside0.mk (Kd.R_reads' hR).2.2; clear hR hb) | (go_at_call 23; with_reducible refine (lay_w HW1.out (Nat.le_trans HBS.out HM1.out.size) HC_y.out (by have := HLN.out; have := Y2.out; omega)).mono ?_; rintro e w2 ⟨rfl, v2, hW, hM⟩; have HW2 := Aside0.mk hW; have HM2 := Aside0.mk (HM1.out.trans hM); clear hW hM) | (go_at_call 23; with_reducible refine (lay_w HW2.out (Nat.le_trans HBS.out HM2.out.size) (Kd.V_reads' (HM2.out.V HG.out)).2.2 (by have := HLN.out; have := Y2.out; rw [List.length_append]; omega)).mono ?_; rintro e w3 ⟨rfl, v3, hW, hM⟩; have HW3 := Aside0.mk hW; have HM3 := Aside0.mk (HM2.out.trans hM); clear hW hM))
  go_loopg [23] L.length (fun gk v23 w' => ∃ (i : Nat) (v' : Value), v23 = .int .i64 i ∧ Aside0 (i ≤ L.length ∧ gk = L.length - i) ∧ Aside0 (Wr w' base g (xs ++ y ++ G ++ (L.take i).flatMap ab) v') ∧ Aside0 (WM w w' g v v'))
  case atStart => exact ⟨0, v3, rfl, ⟨Nat.zero_le _, by omega⟩, ⟨by simpa using HW3.out⟩, HM3⟩
  case round =>
    obtain ⟨i, v4, rfl, HI, HW4, HM4⟩ := hrel
    clear HW3 HM3 HW2 HM2 HW1 HM1
    obtain ⟨hi, hgk⟩ := HI.out
    by_cases hlt : i < L.length
    · have c5b0 : decide ((i : Int) < (L.length : Int)) = true := decide_eq_true (by omega)
      have p1 : (0 : Int) ≤ (i : Int) := by omega
      have p2 : (i : Int) < (L.length : Int) := by omega
      have hCL := (Kd.V_reads' (HM4.out.V HL.out)).2.2
      obtain ⟨ad, he, hx⟩ := Kd.at_int hCL (i : Int) p1 p2
      cases he
      obtain ⟨a0, ha⟩ : ∃ a_, a_ = rd L (i : Int) := ⟨_, rfl⟩
      rw [← ha, Int.toNat_natCast] at hx
      have HA0 := Aside0.mk (show rd L (i : Int) = L[i] from by rw [rd, Int.toNat_natCast, List.getD_eq_getElem?_getD, List.getElem?_eq_getElem hlt]; rfl)
      have HA := Aside0.mk ha
      have hfl : xs.length + y.length + G.length + ((L.take i).flatMap ab).length ≤ 10000000 := by
        have h1 : ((L.take i).flatMap ab).length = 4 * i := by
          rw [flat_len, List.length_take, Nat.min_eq_left hi]
        have := HLN.out; have := Y2.out; omega
      have HFL := Aside0.mk hfl
      clear ha hCL hfl
      replace p1 := eq_true p1
      replace p2 := eq_true p2
      go_wp2_with (first | (go_at_call 25; with_reducible refine (abytes_calls a0 _).mono ?_; rintro e w5 ⟨v_b, rfl, hR, hb⟩; have HW5 := Aside0.mk (HW4.out.below hb); have HM5 := Aside0.mk (HM4.out.trans (WM.of_below hb)); obtain ⟨A_b, c_b, rfl⟩ := Kd.R_slice hR; have HC_b := Aside0.mk (Kd.R_reads' hR).2.2; clear hR hb) | (go_at_call 23; with_reducible refine (lay_w HW5.out (Nat.le_trans HBS.out HM5.out.size) HC_b.out (by have := HFL.out; simp only [List.length_append]; simp only [ab, List.length_cons, List.length_nil]; omega)).mono ?_; rintro e w6 ⟨rfl, v6, hW, hM⟩; have HW6 := Aside0.mk hW; have HM6 := Aside0.mk (HM5.out.trans hM); clear hW hM))
      go_roundg (L.length - (i + 1))
      case measure => omega
      case rel =>
        refine ⟨i + 1, v6, ?_, ⟨by omega, rfl⟩, ⟨?_⟩, HM6⟩
        · show Value.int .i64 (wrap64 ((i : Int) + 1)) = _
          have hl := HLN.out
          rw [show wrap64 ((i : Int) + 1) = ((i + 1 : Nat) : Int) from by unfold wrap64; omega]
        · have h6 := HW6.out
          have h7 : (L.take (i + 1)).flatMap ab = (L.take i).flatMap ab ++ ab a0 := by
            rw [← List.take_append_getElem hlt, List.flatMap_append, HA.out, HA0.out]; simp
          rw [h7, ← List.append_assoc]
          exact h6
    · have c5b0 : decide ((i : Int) < (L.length : Int)) = false := decide_eq_false (by omega)
      go_wp2
      go_end0
      refine ⟨rfl, v4, ?_, HM4.out⟩
      have h4 := HW4.out
      obtain rfl : i = L.length := by omega
      rw [List.take_length, HY.out] at h4
      simpa [wrow] using h4
end Go.Proofs.Ytmmjmncchckbbaa
