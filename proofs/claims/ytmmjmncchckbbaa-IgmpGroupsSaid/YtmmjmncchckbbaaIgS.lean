/-
  The reader of messages: addresses.
-/
import Derived.Test.YtmmjmncchckbbaaIgR
import Derived.Test.YtmmjmncchckbbaaPIhx1
namespace Go.Proofs.Ytmmjmncchckbbaa
open Go.RowKit Go.Proofs.YtmmjmncchckbbaaW.PrintWords Go.Proofs.YtmmjmncchckbbaaW.PrintLast Go.Proofs.YtmmjmncchckbbaaW.PrintMore Go.Proofs.Ytmmjmncchckbbaa.PIg
set_option linter.unusedVariables false
set_option linter.unusedSimpArgs false
theorem rw64 {i : Int} (h0 : -9223372036854775808 ≤ i) (h1 : i ≤ 9223372036854775807) : wrap64 i = i := by unfold wrap64; omega
theorem or32 {x y : Int} (hx : 0 ≤ x) (hx1 : x < 16777216) (hy : 0 ≤ y) (hy1 : y < 256) : Go.bits .or .u32 ((x * 256) % 4294967296) (y % 4294967296) = x * 256 + y := by
  rw [show (x * 256) % 4294967296 = x * 256 from by omega, show y % 4294967296 = y from by omega]
  exact bits_join .u32 32 (by decide) (fun n h0 h1 => by rw [IntKind.wrap_u32]; omega) 8 _ _ (by omega) (by omega) (by omega) hy (by omega) (by omega)
theorem addr_of_some {a b c d : Int} (ha : 0 ≤ a ∧ a < 256) (hb : 0 ≤ b ∧ b < 256) (hc : 0 ≤ c ∧ c < 256) (hd : 0 ≤ d ∧ d < 256) (k : Nat) : PIh.addr_Of.f (k + 5) [a, b, c, d] = some (a * 16777216 + b * 65536 + c * 256 + d, 0) := by
  unfold PIh.addr_Of.f
  simp only [List.length_cons, List.length_nil]
  rw [if_neg (by omega), if_neg (by omega)]
  have e1 : wrap64 ((0 : Int) + 1) = 1 := (rw64 (by omega) (by omega)).trans (by omega)
  have e2 : wrap64 ((1 : Int) + 1) = 2 := (rw64 (by omega) (by omega)).trans (by omega)
  have e3 : wrap64 ((2 : Int) + 1) = 3 := (rw64 (by omega) (by omega)).trans (by omega)
  have e4 : wrap64 ((3 : Int) + 1) = 4 := (rw64 (by omega) (by omega)).trans (by omega)
  simp only [PIh.addr_Of.l0, List.length_cons, List.length_nil, e1, e2, e3, e4]
  rw [show rd [a, b, c, d] 0 = a from rfl, show rd [a, b, c, d] 1 = b from rfl, show rd [a, b, c, d] 2 = c from rfl, show rd [a, b, c, d] 3 = d from rfl]
  rw [or32 (by omega) (by omega) ha.1 ha.2, or32 (by omega) (by omega) hb.1 hb.2, or32 (by omega) (by omega) hc.1 hc.2, or32 (by omega) (by omega) hd.1 hd.2]
  simp
  omega

/-- The address of four bytes. -/
def av (x : List Int) : Int := rd x 0 * 16777216 + rd x 1 * 65536 + rd x 2 * 256 + rd x 3
theorem four_eq (x : List Int) (h : x.length = 4) : x = [rd x 0, rd x 1, rd x 2, rd x 3] := by
  match x, h with
  | [a, b, c, d], _ => rfl
theorem av_range {x : List Int} (h : Byt x) : 0 ≤ av x ∧ av x < 4294967296 := by
  have h0 := h.rd 0; have h1 := h.rd 1; have h2 := h.rd 2; have h3 := h.rd 3
  unfold av; omega
theorem of_w {x : List Int} (hx : Byt x) (hl : x.length = 4) (A : Option Addr) (c : Nat) (w : World) (hr : Kd.C (Kd.int .u8) w A x.length x) (hc : x.length ≤ c) :
    Calls Try.prog 63 #[.slice A x.length c] w fun e w' => e = .returned (.tuple #[.int .u32 (av x), .int .i64 0]) ∧ Below w.heap.size w w' :=
  (PIh.addr_Of.calls 5 A c x (av x) 0 w hr hc (by
    have h := addr_of_some (hx.rd 0) (hx.rd 1) (hx.rd 2) (hx.rd 3) 0
    rw [← four_eq x hl] at h
    exact h)).mono fun _ _ hh => ⟨hh.1, by obtain ⟨_, n, rfl⟩ := hh; exact pw_below_drewN (Below.refl _ _) _⟩
set_option maxHeartbeats 8000000 in
set_option maxRecDepth 100000 in
theorem addr_w {w0 w : World} {g : Nat} {A : Option Addr} {c : Nat} {bs : List Int} {k ver code grp rob every : Int} {quiet : Bool} {vS vR : Value} {sh : Bool} (hB : Below w0.heap.size w0 w) (hg : w0.heap.size ≤ g) (h : w.heap[g]? = some (.cells #[.slice A bs.length c, .int .u8 k, .int .i64 ver, .int .u8 code, .int .u32 grp, .bool quiet, .int .u8 rob, .int .u8 every, vS, vR, .bool sh] 66 (0, 0))) (hC : Kd.C (Kd.int .u8) w0 A bs.length bs) (hc : bs.length ≤ c) (hby : Byt bs) :
    Calls Try.prog 58 #[.pointer (some ⟨g, 0, none⟩)] w fun e w' => ∃ A2 c2, e = .returned (.int .u32 (av (tkx 4 bs sh))) ∧ w'.heap[g]? = some (.cells #[.slice A2 (tkb 4 bs sh).length c2, .int .u8 k, .int .i64 ver, .int .u8 code, .int .u32 grp, .bool quiet, .int .u8 rob, .int .u8 every, vS, vR, .bool (tks 4 bs sh)] 66 (0, 0)) ∧ Kd.C (Kd.int .u8) w0 A2 (tkb 4 bs sh).length (tkb 4 bs sh) ∧ (tkb 4 bs sh).length ≤ c2 ∧ RM w w' g := by
  have HB := Aside0.mk hB
  have HG := Aside0.mk hg
  have BK := Aside0.mk h
  have HC := Aside0.mk hC
  have HK := Aside0.mk hc
  clear hB hg h hC hc
  have HBY := Aside0.mk hby
  clear hby
  have hxl := tkx_len 4 bs sh
  have HXB := Aside0.mk (tkx_byt (m := 4) (sh := sh) HBY.out)
  have HXL := Aside0.mk hxl
  clear hxl
  go_enter Try.func58, Try.ntmps58
  go_wp2_with (first | (go_at_call 55; with_reducible refine (take_4 HB.out HG.out BK.out HC.out HK.out).mono ?_; rintro e w1 ⟨A1, c1, A2, c2, rfl, hV, hbx, hC2, hK2, hR⟩; have HV := Aside0.mk hV; have BX := Aside0.mk hbx; have HC2 := Aside0.mk hC2; have HK2 := Aside0.mk hK2; have HR := Aside0.mk hR; clear hV hbx hC2 hK2 hR) | (go_at_call 63; with_reducible refine (of_w HXB.out HXL.out _ _ _ (Kd.V_reads' HV.out).2.2 (Kd.V_reads' HV.out).2.1).mono ?_; rintro e w2 ⟨rfl, hb⟩; have Hb := Aside0.mk hb; clear hb))
  go_ret
  exact ⟨A2, c2, rfl, blk_below BX.out Hb.out, HC2.out, HK2.out, HR.out.trans (RM.of_below Hb.out)⟩
/-- So many addresses, as far as there are bytes: they, what stays, whether it was too short. -/
def ads : Nat → List Int → Bool → List Int × List Int × Bool
  | 0, bs, sh => ([], bs, sh)
  | n + 1, bs, sh => if sh = true then ([], bs, sh) else (av (tkx 4 bs sh) :: (ads n (tkb 4 bs sh) (tks 4 bs sh)).1, (ads n (tkb 4 bs sh) (tks 4 bs sh)).2)
theorem ads_sh (n : Nat) (bs : List Int) : ads n bs true = ([], bs, true) := by cases n <;> rfl
theorem ads_byt : ∀ (n : Nat) (bs : List Int) (sh : Bool), Byt bs → Byt (ads n bs sh).2.1
  | 0, bs, sh, h => h
  | n + 1, bs, sh, h => by
    unfold ads
    split
    · exact h
    · exact ads_byt n _ _ (tkb_byt h)
theorem ads_len : ∀ (n : Nat) (bs : List Int) (sh : Bool), (ads n bs sh).1.length ≤ n
  | 0, bs, sh => by simp [ads]
  | n + 1, bs, sh => by
    unfold ads
    split
    · simp
    · have := ads_len n (tkb 4 bs sh) (tks 4 bs sh)
      simp only [List.length_cons]; omega
set_option maxHeartbeats 8000000 in
set_option maxRecDepth 100000 in
theorem addrs_r {w0 w : World} {g : Nat} {A : Option Addr} {c : Nat} {bs : List Int} {k ver code grp rob every : Int} {quiet : Bool} {vS vR : Value} {sh : Bool} (hB : Below w0.heap.size w0 w) (hg : w0.heap.size ≤ g) (h : w.heap[g]? = some (.cells #[.slice A bs.length c, .int .u8 k, .int .i64 ver, .int .u8 code, .int .u32 grp, .bool quiet, .int .u8 rob, .int .u8 every, vS, vR, .bool sh] 66 (0, 0))) (hC : Kd.C (Kd.int .u8) w0 A bs.length bs) (hc : bs.length ≤ c) (hby : Byt bs) (n : Nat) (hn : n ≤ 100000) :
    Calls Try.prog 56 #[.pointer (some ⟨g, 0, none⟩), .int .i64 n] w fun e w' => ∃ v A2 c2, e = .returned v ∧ Kd.R (Kd.int .u32) 23 w' w.heap.size (fun k => k ≠ g) v (ads n bs sh).1 ∧ w'.heap[g]? = some (.cells #[.slice A2 (ads n bs sh).2.1.length c2, .int .u8 k, .int .i64 ver, .int .u8 code, .int .u32 grp, .bool quiet, .int .u8 rob, .int .u8 every, vS, vR, .bool (ads n bs sh).2.2] 66 (0, 0)) ∧ Kd.C (Kd.int .u8) w0 A2 (ads n bs sh).2.1.length (ads n bs sh).2.1 ∧ (ads n bs sh).2.1.length ≤ c2 ∧ RM w w' g := by
  have HB := Aside0.mk hB
  have HG := Aside0.mk hg
  have BK := Aside0.mk h
  have HC := Aside0.mk hC
  have HK := Aside0.mk hc
  clear hB hg h hC hc
  have HBY := Aside0.mk hby
  have HN := Aside0.mk hn
  have HGW := Aside0.mk (blk_lt BK.out)
  clear hby hn
  go_enter Try.func56, Try.ntmps56
  go_wp2
  go_loopg [5, 6] n (fun gk v5 v6 w' => ∃ (i : Nat) (l b1 : List Int) (s1 : Bool) (A1 : Option Addr) (c1 : Nat), v6 = .int .i64 i ∧ Aside0 (i ≤ n ∧ gk = n - i ∧ l.length ≤ i) ∧ Aside0 (l ++ (ads (n - i) b1 s1).1 = (ads n bs sh).1 ∧ (ads (n - i) b1 s1).2 = (ads n bs sh).2) ∧ Aside0 (Kd.R (Kd.int .u32) 23 w' w.heap.size (fun k => k ≠ g) v5 l) ∧ Aside0 (w'.heap[g]? = some (.cells #[.slice A1 b1.length c1, .int .u8 k, .int .i64 ver, .int .u8 code, .int .u32 grp, .bool quiet, .int .u8 rob, .int .u8 every, vS, vR, .bool s1] 66 (0, 0))) ∧ Aside0 (Kd.C (Kd.int .u8) w0 A1 b1.length b1) ∧ Aside0 (b1.length ≤ c1) ∧ Aside0 (Byt b1) ∧ Aside0 (RM w w' g))
  case atStart => exact ⟨0, [], bs, sh, A, c, rfl, ⟨Nat.zero_le _, by omega, Nat.zero_le _⟩, ⟨rfl, rfl⟩, ⟨Kd.R_nil _ _ _ _ _⟩, BK, HC, HK, HBY, ⟨RM.of_below (Below.refl _ _)⟩⟩
  case round =>
    clear BK HC HK HBY
    obtain ⟨i, l, b1, s1, A1, c1, rfl, HI, HL, HO, BK, HC, HK, HBY, HR⟩ := hrel
    obtain ⟨hi, hgk, hll⟩ := HI.out
    by_cases hlt : i < n
    · have c5b0 : decide ((i : Int) < (n : Int)) = true := decide_eq_true (by omega)
      cases s1
      case true =>
        have hc_10 : wr.cell? ⟨g, 10, none⟩ = some (.bool true) := (blk_cell BK.out 10).trans rfl
        have hf_10 := blk_frozen BK.out 10
        go_wp2
        go_ret
        have hl := HL.out
        rw [ads_sh] at hl
        rw [← hl.1, ← hl.2, List.append_nil]
        exact ⟨_, A1, c1, rfl, HO.out, BK.out, HC.out, HK.out, HR.out⟩
      case false =>
        have hc_10 : wr.cell? ⟨g, 10, none⟩ = some (.bool false) := (blk_cell BK.out 10).trans rfl
        have hf_10 := blk_frozen BK.out 10
        have HBB := Aside0.mk (HR.out.below HB.out HG.out)
        obtain ⟨A_l, c_l, rfl⟩ := Kd.R_slice HO.out
        obtain ⟨x, hx⟩ : ∃ x_, x_ = av (tkx 4 b1 false) := ⟨_, rfl⟩
        have HX := Aside0.mk hx
        clear hx
        go_wp2_with (first | (go_at_call 58; with_reducible refine (addr_w HBB.out HG.out BK.out HC.out HK.out HBY.out).mono ?_; rintro e w1 ⟨A2, c2, rfl, hbx, hC2, hK2, hR⟩; have BX := Aside0.mk hbx; have HC2 := Aside0.mk hC2; have HK2 := Aside0.mk hK2; have HO2 := Aside0.mk (Kd.R_keep HO.out hR.keep (fun _ hk => hk)); have HR2 := Aside0.mk (HR.out.trans hR); clear hbx hC2 hK2 hR; rw [← HX.out]) | ((with_reducible refine gate_builtin (b := .append) (xs := #[.tmp 19, .tmp 22]) rfl ?_); at_builtin; refine Kd.R_append (Kd.int .u32) (w0 := w1) w.heap.size rfl (.tmp 19) (.tmp 22) 24 23 (.int .u32 0) 4 rfl Try.underlying24 info23 rfl (by decide) (by omega) _ l x [.int .u32 x] (fun k => k ≠ g) (fun _ => False) rfl rfl rfl (fun _ hk => hk.elim) (fun q hq e => by have h1 := blk_lt BX.out; omega) HO2.out (Below.refl _ _) HR2.out.keep.1 (by have := HN.out; omega) ?_; intro v1 w2 ho hb hg hat; have HO3 := Aside0.mk ho; have BX3 := Aside0.mk (blk_grown BX.out hg (fun e => (Kd.R_ne HO2.out BX.out (by decide)) e)); have HR3 := Aside0.mk (show RM w w2 g from ⟨⟨Nat.le_trans HR2.out.keep.1 hg.size, fun q hq hq1 _ => (hg.block q (Nat.lt_of_lt_of_le hq HR2.out.keep.1) (fun e => by have := Kd.R_base HO2.out q e.symm; omega)).trans (HR2.out.block hq hq1)⟩, HR2.out.out.trans (hb.mono (Nat.zero_le _))⟩); clear ho hb hg hat))
        go_roundg (n - (i + 1))
        case measure => omega
        case rel =>
          refine ⟨i + 1, l ++ [x], _, _, A2, c2, ?_, ⟨by omega, rfl, by simp; omega⟩, ⟨?_⟩, HO3, BX3, HC2, HK2, ⟨tkb_byt HBY.out⟩, HR3⟩
          · have hn := HN.out
            show Value.int .i64 (wrap64 ((i : Int) + 1)) = _
            rw [rw64 (by omega) (by omega)]
            rfl
          · have hl := HL.out
            rw [show n - i = (n - (i + 1)) + 1 from by omega] at hl
            simp only [ads, Bool.false_eq_true, if_false] at hl
            rw [← HX.out] at hl
            exact ⟨by rw [← hl.1]; simp, hl.2⟩
    · have c5b0 : decide ((i : Int) < (n : Int)) = false := decide_eq_false (by omega)
      go_wp2
      go_ret
      have hl := HL.out
      rw [show n - i = 0 from by omega] at hl
      simp only [ads] at hl
      rw [← hl.1, ← hl.2, List.append_nil]
      exact ⟨_, A1, c1, rfl, HO.out, BK.out, HC.out, HK.out, HR.out⟩
end Go.Proofs.Ytmmjmncchckbbaa
