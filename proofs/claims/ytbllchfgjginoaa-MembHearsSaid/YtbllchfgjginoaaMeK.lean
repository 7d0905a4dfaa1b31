/-
  slices.BinarySearchFunc over sockets by their ids; host.place.
-/
import Derived.Test.YtbllchfgjginoaaSoJ
import Derived.Test.YtbllchfgjginoaaMeJ
namespace Go.Proofs.Ytbllchfgjginoaa
set_option maxHeartbeats 8000000
set_option maxRecDepth 100000
open Go.RowKit Go.Proofs.YtbllchfgjginoaaW.PrintWords Go.Proofs.Ytbllchfgjginoaa.PMe
set_option linter.unusedVariables false
set_option linter.unusedSimpArgs false
theorem nan_w (x : Int) (w : World) : Calls Try.prog 69 #[.int .u32 x] w fun e w' => e = .returned (.bool false) ∧ w' = w := by
  go_enter Try.func69, Try.ntmps69
  go_wp2
  go_ret
  exact ⟨by simp, rfl⟩
def cmp3 (x y : Int) : Int := if x < y then -1 else if y < x then 1 else 0
theorem cmp3_eq (x y : Int) : (cmp3 x y == 0) = decide (x = y) := by
  unfold cmp3
  by_cases h1 : x < y
  · rw [if_pos h1, decide_eq_false (by omega)]; rfl
  · by_cases h2 : y < x
    · rw [if_neg h1, if_pos h2, decide_eq_false (by omega)]; rfl
    · rw [if_neg h1, if_neg h2, decide_eq_true (by omega)]; rfl
theorem compare_w (x y : Int) (w : World) : Calls Try.prog 54 #[.int .u32 x, .int .u32 y] w fun e w' => e = .returned (.int .i64 (cmp3 x y)) ∧ w' = w := by
  by_cases h1 : x < y
  · have c1 : decide (x < y) = true := decide_eq_true h1
    go_enter Try.func54, Try.ntmps54
    go_wp2_with (first | (go_at_call 69; refine (nan_w _ _).mono ?_; rintro e w1 ⟨rfl, rfl⟩))
    go_ret
    first | exact ⟨rfl, rfl⟩ | (unfold cmp3; rw [if_pos h1]; exact ⟨rfl, rfl⟩)
  · have c1 : decide (x < y) = false := decide_eq_false h1
    by_cases h2 : y < x
    · have c2 : decide (y < x) = true := decide_eq_true h2
      go_enter Try.func54, Try.ntmps54
      go_wp2_with (first | (go_at_call 69; refine (nan_w _ _).mono ?_; rintro e w1 ⟨rfl, rfl⟩))
      go_ret
      first | exact ⟨rfl, rfl⟩ | (unfold cmp3; rw [if_neg (by omega), if_pos h2]; exact ⟨rfl, rfl⟩)
    · have c2 : decide (y < x) = false := decide_eq_false h2
      go_enter Try.func54, Try.ntmps54
      go_wp2_with (first | (go_at_call 69; refine (nan_w _ _).mono ?_; rintro e w1 ⟨rfl, rfl⟩))
      go_ret
      first | exact ⟨rfl, rfl⟩ | (unfold cmp3; rw [if_neg (by omega), if_neg (by omega)]; exact ⟨rfl, rfl⟩)
theorem place1_w (a b : Int) (id : Int) (w : World) : Calls Try.prog 53 #[.agg #[.int .u32 a, .int .i64 b], .int .u32 id] w fun x w' => x = .returned (.int .i64 (cmp3 a id)) ∧ Below w.heap.size w w' := by
  have hu49 := Try.underlying49
  have HB := Aside0.mk (Below.refl w.heap.size w)
  go_enter Try.func53, Try.ntmps53
  go_wp2_with (first | ((with_reducible refine gate_dst (N := 2) rfl ?_); (try (refine gate_guard (by rfl) ?_; dsimp only)); refine bxn (cs := #[.int .u32 a, .int .i64 b]) (t := 49) ?_; intro gs hg w1_ hbox hB; have HBo := Aside0.mk HB.out; replace HB := mvH HB hB; have BK_gs := Aside0.mk hbox; have GE_gs := Aside0.mk (show w.heap.size ≤ gs by rw [hg]; exact HBo.out.size); clear hg hbox hB; obtain ⟨hc_gs_0, hc_gs_1, hf_gs_0, hf_gs_1⟩ := cf2 BK_gs.out; clear HBo) | (go_at_call 54; refine (compare_w a id _).mono ?_; rintro e w7_ ⟨rfl, rfl⟩))
  go_ret
  exact ⟨rfl, HB.out⟩
theorem search_w {l : List S49} {id : Int} {i : Nat} (hi : i ≤ l.length) (hlo : ∀ k : Nat, k < i → (rd_T49 l k).f0 < id) (hhi : ∀ k : Nat, i ≤ k → k < l.length → id ≤ (rd_T49 l k).f0) (hn : l.length ≤ 1000000) (A : Option Addr) (c : Nat) (w : World) (hr : Kd.C k49 w A l.length l) (hc : l.length ≤ c) :
    Calls Try.prog 52 #[.slice A l.length c, .int .u32 id, .func (.func 53) #[] #[]] w fun e w' => e = .returned (.tuple #[.int .i64 i, .bool (decide (i < l.length) && decide ((rd_T49 l i).f0 = id))]) ∧ Below w.heap.size w w' := by
  have HB := Aside0.mk (Below.refl w.heap.size w)
  have HC := Aside0.mk hr
  have HK := Aside0.mk hc
  have XI := Aside0.mk hi
  have XLO := Aside0.mk hlo
  have XHI := Aside0.mk hhi
  have XN := Aside0.mk hn
  clear hr hc hi hlo hhi hn
  go_enter Try.func52, Try.ntmps52
  go_wp2
  go_loopg [9, 10] l.length (fun gk v9 v10 w' => ∃ p q : Nat, v9 = .int .i64 (p : Int) ∧ v10 = .int .i64 (q : Int) ∧ Aside0 (p ≤ i ∧ i ≤ q ∧ q ≤ l.length ∧ gk = q - p) ∧ Aside0 (Below w.heap.size w w'))
  case atStart => exact ⟨0, l.length, rfl, rfl, ⟨Nat.zero_le _, XI.out, Nat.le_refl _, rfl⟩, HB⟩
  case round =>
    clear HB
    obtain ⟨p, q, rfl, rfl, HI, HB⟩ := hrel
    by_cases hlt : p < q
    · have c17 : decide ((p : Int) < (q : Int)) = true := decide_eq_true (by omega)
      obtain ⟨i1, i2, i3, i4⟩ := HI.out
      have hl := XN.out
      obtain ⟨m, hm⟩ : ∃ m, m = (p + q) / 2 := ⟨_, rfl⟩
      have hmid : wrap64 (IntKind.u64.wrap (wrap64 ((p : Int) + (q : Int))) / 2) = (m : Int) := by
        rw [show wrap64 ((p : Int) + (q : Int)) = (p : Int) + (q : Int) by unfold wrap64; omega]
        rw [show IntKind.u64.wrap ((p : Int) + (q : Int)) = (p : Int) + (q : Int) by simp only [IntKind.wrap, IntKind.bits, IntKind.signed, Bool.false_and, Bool.false_eq_true, if_false]; omega]
        unfold wrap64
        omega
      have HM := Aside0.mk (show p ≤ m ∧ m < q by omega)
      have p1 : (0 : Int) ≤ (m : Int) := by omega
      have p2 : (m : Int) < (l.length : Int) := by omega
      obtain ⟨ad, he, hx0, hx1⟩ := at_T49 (Kd.C_below HC.out HB.out) (m : Int) p1 p2
      subst he
      rw [Int.toNat_natCast] at hx0 hx1
      obtain ⟨x, hx⟩ : ∃ x, x = rd_T49 l (m : Int) := ⟨_, rfl⟩
      rw [← hx] at hx0 hx1
      have HX := Aside0.mk hx
      clear hx hm i1 i2 i3 i4
      replace p1 := eq_true p1
      replace p2 := eq_true p2
      by_cases hcm : x.f0 < id
      · have c31 : decide (cmp3 x.f0 id < 0) = true := by unfold cmp3; rw [if_pos hcm]; decide
        have HCM := Aside0.mk hcm
        clear hcm
        go_wp2_with (first | (go_at_call 53; refine (place1_w x.f0 x.f1 id _).mono ?_; rintro e wx ⟨rfl, hB⟩; have nB := Aside0.mk (HB.out.trans (hB.mono HB.out.size)); clear HB hx0 hx1 hB; have HB := nB; clear nB))
        go_roundg (q - (m + 1))
        case measure => have := HI.out; have := HM.out; omega
        case rel =>
          have hq := HI.out
          have hm := HM.out
          have him : m + 1 ≤ i := by
            by_cases hh : i ≤ m
            · have h1 := XHI.out m hh (by omega)
              have h2 := HCM.out
              rw [HX.out] at h2
              omega
            · omega
          refine ⟨m + 1, q, ?_, rfl, ⟨him, hq.2.1, hq.2.2.1, rfl⟩, HB⟩
          show Value.int .i64 (wrap64 ((m : Int) + 1)) = _
          have h1 := XN.out
          have h2 : wrap64 ((m : Int) + 1) = ((m + 1 : Nat) : Int) := by unfold wrap64; omega
          rw [h2]
      · have c31 : decide (cmp3 x.f0 id < 0) = false := by unfold cmp3; rw [if_neg hcm]; split <;> decide
        have HCM := Aside0.mk hcm
        clear hcm
        go_wp2_with (first | (go_at_call 53; refine (place1_w x.f0 x.f1 id _).mono ?_; rintro e wx ⟨rfl, hB⟩; have nB := Aside0.mk (HB.out.trans (hB.mono HB.out.size)); clear HB hx0 hx1 hB; have HB := nB; clear nB))
        go_roundg (m - p)
        case measure => have := HI.out; have := HM.out; omega
        case rel =>
          have hq := HI.out
          have hm := HM.out
          have him : i ≤ m := by
            by_cases hh : i ≤ m
            · exact hh
            · have h1 := XLO.out m (by omega)
              have h2 := HCM.out
              rw [HX.out] at h2
              omega
          exact ⟨p, m, rfl, rfl, ⟨hq.1, him, by omega, rfl⟩, HB⟩
    · have c17 : decide ((p : Int) < (q : Int)) = false := decide_eq_false (by omega)
      have hl := XN.out
      have hie : p = i ∧ q = i := by have := HI.out; omega
      obtain ⟨rfl, rfl⟩ := hie
      clear hlt
      by_cases hin : q < l.length
      · have c38 : decide ((q : Int) < (l.length : Int)) = true := decide_eq_true (by omega)
        have p1 : (0 : Int) ≤ (q : Int) := by omega
        have p2 : (q : Int) < (l.length : Int) := by omega
        obtain ⟨ad, he, hx0, hx1⟩ := at_T49 (Kd.C_below HC.out HB.out) (q : Int) p1 p2
        subst he
        rw [Int.toNat_natCast] at hx0 hx1
        obtain ⟨x, hx⟩ : ∃ x, x = rd_T49 l (q : Int) := ⟨_, rfl⟩
        rw [← hx] at hx0 hx1
        have HX := Aside0.mk hx
        have HIN := Aside0.mk hin
        clear hx hin
        replace p1 := eq_true p1
        replace p2 := eq_true p2
        have c47 : (cmp3 x.f0 id == 0) = decide (x.f0 = id) := cmp3_eq _ _
        go_wp2_with (first | (go_at_call 53; refine (place1_w x.f0 x.f1 id _).mono ?_; rintro e wx ⟨rfl, hB⟩; have nB := Aside0.mk (HB.out.trans (hB.mono HB.out.size)); clear HB hx0 hx1 hB; have HB := nB; clear nB))
        go_ret2
        rw [decide_eq_true HIN.out, Bool.true_and, ← HX.out]
        exact ⟨rfl, HB.out⟩
      · have c38 : decide ((q : Int) < (l.length : Int)) = false := decide_eq_false (by omega)
        have HIN := Aside0.mk hin
        go_wp2
        go_ret2
        rw [decide_eq_false HIN.out, Bool.false_and]
        exact ⟨rfl, HB.out⟩
theorem place_w {l : List S49} {id : Int} {i : Nat} (hi : i ≤ l.length) (hlo : ∀ k : Nat, k < i → (rd_T49 l k).f0 < id) (hhi : ∀ k : Nat, i ≤ k → k < l.length → id ≤ (rd_T49 l k).f0) (hn : l.length ≤ 1000000) (A_l : Option Addr) (c_l : Nat) (w : World) (hr : Kd.C k49 w A_l l.length l) (hc : l.length ≤ c_l) :
    Calls Try.prog 34 #[.slice A_l l.length c_l, .int .u32 id] w fun e w' => e = .returned (.tuple #[.int .i64 i, .bool (decide (i < l.length) && decide ((rd_T49 l i).f0 = id))]) ∧ Below w.heap.size w w' := by
  have HB := Aside0.mk (Below.refl w.heap.size w)
  have HC_l := Aside0.mk hr
  have HK_l := Aside0.mk hc
  have XI := Aside0.mk hi
  have XLO := Aside0.mk hlo
  have XHI := Aside0.mk hhi
  have XN := Aside0.mk hn
  clear hr hc hi hlo hhi hn
  go_enter Try.func34, Try.ntmps34
  go_wp2_with (first | (go_at_call 52; with_reducible refine (search_w XI.out XLO.out XHI.out XN.out _ _ _ (Kd.C_below HC_l.out HB.out) HK_l.out).mono ?_; rintro e w1_ ⟨rfl, hB⟩; replace HB := mvH HB hB; clear hB))
  go_ret2
  exact ⟨rfl, HB.out⟩
end Go.Proofs.Ytbllchfgjginoaa
/-
  memb.work: what it holds, and what a call that changes it leaves as it was.
-/
namespace Go.Proofs.Ytbllchfgjginoaa
open Go.RowKit Go.Lib Go.Proofs.YtbllchfgjginoaaW.PrintWords Go.Proofs.YtbllchfgjginoaaW.PrintMore Go.Proofs.Ytbllchfgjginoaa.PMe
set_option linter.unusedVariables false
set_option linter.unusedSimpArgs false
/-- What a work holds. -/
structure WM where
  g : Int
  ex : Bool
  left : Int
  srcs : List S49
  keep : Int
  last : Int
  b : List Int
  asks : List S46
abbrev RA (w : World) (base : Nat) (v : Value) (l : List Int) : Prop := Kd.R (Kd.int .u32) 25 w base (fun _ => True) v l
structure Wk (base gw : Nat) (m : WM) (vS vB vA : Value) (w : World) : Prop where
  blk : w.heap[gw]? = some (.cells #[.int .u32 m.g, .bool m.ex, .int .i64 m.left, vS, .int .i64 m.keep, .int .i64 m.last, vB, vA] 73 (0, 0))
  ge : base ≤ gw
  S : Kd.R k49 49 w base (fun _ => True) vS m.srcs
  B : RA w base vB m.b
  A : Kd.R k46 46 w base (fun _ => True) vA m.asks
variable {base gw : Nat} {m : WM} {vS vB vA : Value} {w w1 w2 : World}
theorem Wk.lt (h : Wk base gw m vS vB vA w) : gw < w.heap.size := (Array.getElem?_eq_some_iff.1 h.blk).1
theorem Wk.below (h : Wk base gw m vS vB vA w) (hB : Below w.heap.size w w1) : Wk base gw m vS vB vA w1 :=
  ⟨blk_below h.blk hB, h.ge, Kd.R_below h.S hB, Kd.R_below h.B hB, Kd.R_below h.A hB⟩
/-- All but the work, its sources and its questions is as it was. -/
structure Fr (base gw : Nat) (w w' : World) : Prop where
  os : w'.os = w.os
  tape : w'.tape = w.tape
  output : w'.output = w.output
  size : w.heap.size ≤ w'.heap.size
  block : ∀ k, k < w.heap.size → k ≠ gw → (k < base ∨ ∃ cells t, w.heap[k]? = some (.cells cells t (0, 0)) ∧ t ≠ 49 ∧ t ≠ 46) → w'.heap[k]? = w.heap[k]?
theorem Fr.refl (base gw : Nat) (w : World) : Fr base gw w w := ⟨rfl, rfl, rfl, Nat.le_refl _, fun _ _ _ _ => rfl⟩
theorem Fr.trans (h : Fr base gw w w1) (h2 : Fr base gw w1 w2) : Fr base gw w w2 :=
  ⟨h2.os.trans h.os, h2.tape.trans h.tape, h2.output.trans h.output, Nat.le_trans h.size h2.size, fun k hk hne hc => by
    have e := h.block k hk hne hc
    exact (h2.block k (Nat.lt_of_lt_of_le hk h.size) hne (by rw [e]; exact hc)).trans e⟩
theorem Fr.of_below (hB : Below w.heap.size w w1) : Fr base gw w w1 := ⟨hB.os, hB.tape, hB.output, hB.size, fun k hk _ _ => hB.block k hk⟩
theorem Fr.set (j : Nat) (u : Value) : Fr base gw w (w.setCell ⟨gw, j, none⟩ u) :=
  ⟨rfl, rfl, rfl, by simp [World.setCell], fun k _ hne _ => Below.heap_setCell w ⟨gw, j, none⟩ u k hne⟩
theorem Fr.grown {v : Value} {e : Nat} (he : e = 49 ∨ e = 46) (hty : ∀ k, v.ownBlock = some k → base ≤ k ∧ ∃ cells, w.heap[k]? = some (.cells cells e (0, 0))) (hg : w.grownBy w1 v.ownBlock) : Fr base gw w w1 :=
  ⟨hg.os, hg.tape, hg.output, hg.size, fun k hk _ hc => hg.block k hk (fun e2 => by
    obtain ⟨h1, cells, h2⟩ := hty k e2.symm
    rcases hc with hc | ⟨c2, t, h3, h4, h5⟩
    · omega
    · rw [h2] at h3
      injection h3 with h3
      injection h3 with _ h3 _
      rcases he with rfl | rfl
      · exact h4 h3.symm
      · exact h5 h3.symm)⟩
theorem Fr.below (h : Fr base gw w w1) (hb : base ≤ gw) (hs : base ≤ w.heap.size) : Below base w w1 :=
  ⟨h.os, h.tape, h.output, h.size, fun k hk => h.block k (by omega) (by omega) (.inl hk)⟩
theorem Fr.row {v : Value} {l : List Int} (h : Fr base gw w w1) (hr : RA w base v l) (hg : ∃ cells, w.heap[gw]? = some (.cells cells 73 (0, 0))) : RA w1 base v l := by
  refine Kd.R_mono (Kd.R_step (Kd.R_bound hr) (fun k hk hlt => h.block k hlt ?_ (.inr ?_))) (fun _ _ => trivial)
  · rintro rfl
    obtain ⟨q, hq, cells, hc⟩ := hk.2.2.2
    obtain ⟨c2, h2⟩ := hg
    rw [h2] at hc
    injection hc with hc
    injection hc with _ hc _
    simp only [List.mem_cons] at hq
    rcases hq with hq | hq
    · rw [hq] at hc; exact absurd hc (by decide)
    · cases hq
  · obtain ⟨q, hq, cells, hc⟩ := hk.2.2.2
    refine ⟨cells, q, hc, ?_⟩
    simp only [List.mem_cons] at hq
    rcases hq with rfl | hq
    · exact ⟨by decide, by decide⟩
    · cases hq
theorem Wk.box (h : Wk base gw m vS vB vA w) : ∃ cells, w.heap[gw]? = some (.cells cells 73 (0, 0)) := ⟨_, h.blk⟩
/-! ### what is stored into it -/
theorem Wk.put {m2 : WM} {vS2 vA2 : Value} (h : Wk base gw m vS vB vA w) (j : Nat) (u : Value) (hb : m2.b = m.b) (hS : Kd.R k49 49 w base (fun _ => True) vS2 m2.srcs) (hA : Kd.R k46 46 w base (fun _ => True) vA2 m2.asks)
    (hc : (w.setCell ⟨gw, j, none⟩ u).heap[gw]? = some (.cells #[.int .u32 m2.g, .bool m2.ex, .int .i64 m2.left, vS2, .int .i64 m2.keep, .int .i64 m2.last, vB, vA2] 73 (0, 0))) : Wk base gw m2 vS2 vB vA2 (w.setCell ⟨gw, j, none⟩ u) :=
  ⟨hc, h.ge, Kd.R_set hS h.blk (by decide) j u, by rw [hb]; exact Kd.R_set h.B h.blk (by decide) j u, Kd.R_set hA h.blk (by decide) j u⟩
/-- The sources' row was written into, or grew. -/
theorem Wk.overS {vS2 : Value} {srcs2 : List S49} (h : Wk base gw m vS vB vA w) (hg : w.grownBy w1 vS.ownBlock) (hS : Kd.R k49 49 w1 base (fun _ => True) vS2 srcs2) :
    w1.heap[gw]? = w.heap[gw]? ∧ RA w1 base vB m.b ∧ Kd.R k46 46 w1 base (fun _ => True) vA m.asks ∧ Fr base gw w w1 := by
  have hty : ∀ k, vS.ownBlock = some k → ∃ cells, w.heap[k]? = some (.cells cells 49 (0, 0)) := Kd.R_typed h.S
  exact ⟨hg.block gw h.lt (Kd.R_ne h.S h.blk (by decide)), Kd.R_over' h.B hty (by decide) hg, Kd.R_over' h.A hty (by decide) hg, Fr.grown (.inl rfl) (fun k hk => ⟨Kd.R_base h.S k hk, hty k hk⟩) hg⟩
theorem Wk.overA {vA2 : Value} {asks2 : List S46} (h : Wk base gw m vS vB vA w) (hg : w.grownBy w1 vA.ownBlock) :
    w1.heap[gw]? = w.heap[gw]? ∧ RA w1 base vB m.b ∧ Kd.R k49 49 w1 base (fun _ => True) vS m.srcs ∧ Fr base gw w w1 := by
  have hty : ∀ k, vA.ownBlock = some k → ∃ cells, w.heap[k]? = some (.cells cells 46 (0, 0)) := Kd.R_typed h.A
  exact ⟨hg.block gw h.lt (Kd.R_ne h.A h.blk (by decide)), Kd.R_over' h.B hty (by decide) hg, Kd.R_over' h.S hty (by decide) hg, Fr.grown (.inr rfl) (fun k hk => ⟨Kd.R_base h.A k hk, hty k hk⟩) hg⟩
end Go.Proofs.Ytbllchfgjginoaa
/-
  Held sources in plain words: where one stands, one put in, some kept, some asked for.
-/
namespace Go.Proofs.Ytbllchfgjginoaa
open Go.RowKit Go.Lib Go.Proofs.YtbllchfgjginoaaW.PrintWords Go.Proofs.Ytbllchfgjginoaa.PMe
set_option linter.unusedVariables false
set_option linter.unusedSimpArgs false
theorem rd49 (l : List S49) (i : Nat) (h : i < l.length) : rd_T49 l (i : Int) = l[i] := by
  show l.getD _ _ = _
  rw [Int.toNat_natCast, List.getD_eq_getElem?_getD, List.getElem?_eq_getElem h]; rfl
theorem rdI (l : List Int) (i : Nat) (h : i < l.length) : rd l (i : Int) = l[i] := by
  show l.getD _ _ = _
  rw [Int.toNat_natCast, List.getD_eq_getElem?_getD, List.getElem?_eq_getElem h]; rfl
def thoseS (p : Int → Bool) (l : List S49) : List Int := (l.filter fun x => p x.f1).map (·.f0)
theorem those_succ (p : Int → Bool) {l : List S49} {i : Nat} (h : i < l.length) : thoseS p (l.take (i + 1)) = if p (rd_T49 l i).f1 = true then thoseS p (l.take i) ++ [(rd_T49 l i).f0] else thoseS p (l.take i) := by
  unfold thoseS
  rw [rd49 l i h, ← List.take_append_getElem h, List.filter_append, List.map_append]
  by_cases c : p l[i].f1 = true
  · rw [if_pos c, List.filter_cons_of_pos (by simpa using c)]; rfl
  · rw [if_neg c, List.filter_cons_of_neg (by simpa using c)]; simp
theorem those_len (p : Int → Bool) (l : List S49) : (thoseS p l).length ≤ l.length := by
  unfold thoseS; rw [List.length_map]; exact List.length_filter_le _ _
/-! ### where one stands -/
def SortH (l : List S49) : Prop := l.Pairwise (fun a b => a.f0 < b.f0)
def ltH (l : List S49) (a : Int) : List S49 := l.filter fun x => decide (x.f0 < a)
def gtH (l : List S49) (a : Int) : List S49 := l.filter fun x => decide (a < x.f0)
def hasH (l : List S49) (a : Int) : Bool := l.any fun x => decide (x.f0 = a)
def posH (l : List S49) (a : Int) : Nat := (ltH l a).length
def insH (l : List S49) (s : S49) : List S49 := ltH l s.f0 ++ [s] ++ gtH l s.f0
theorem hasH_iff {l : List S49} {a : Int} : hasH l a = true ↔ ∃ x ∈ l, x.f0 = a := by unfold hasH; simp
theorem gtH_all {l : List S49} {a : Int} (h : ∀ x ∈ l, a < x.f0) : ltH l a = [] ∧ gtH l a = l := by
  refine ⟨List.filter_eq_nil_iff.2 (fun x hx => ?_), List.filter_eq_self.2 (fun x hx => decide_eq_true (h x hx))⟩
  have := h x hx
  rw [decide_eq_true_eq]; omega
theorem splitH_at : ∀ {l : List S49}, SortH l → ∀ {x : S49}, x ∈ l → l = ltH l x.f0 ++ [x] ++ gtH l x.f0
  | [], _, x, hx => by cases hx
  | y :: l, hs, x, hx => by
    have hs1 := (List.pairwise_cons.1 hs).1
    have hs2 : SortH l := (List.pairwise_cons.1 hs).2
    rcases List.mem_cons.1 hx with rfl | hx
    · have h := gtH_all (l := l) (a := x.f0) (fun z hz => hs1 z hz)
      have e1 : ltH (x :: l) x.f0 = [] := by unfold ltH; rw [List.filter_cons_of_neg (by simp)]; exact h.1
      have e2 : gtH (x :: l) x.f0 = l := by unfold gtH; rw [List.filter_cons_of_neg (by simp)]; exact h.2
      rw [e1, e2]; rfl
    · have hyx := hs1 x hx
      have h := splitH_at hs2 hx
      have e1 : ltH (y :: l) x.f0 = y :: ltH l x.f0 := by unfold ltH; rw [List.filter_cons_of_pos (by simpa using hyx)]
      have e2 : gtH (y :: l) x.f0 = gtH l x.f0 := by unfold gtH; rw [List.filter_cons_of_neg (by simp; omega)]
      rw [e1, e2, List.cons_append, List.cons_append, ← h]
theorem splitH_no : ∀ {l : List S49}, SortH l → ∀ {a : Int}, (∀ x ∈ l, x.f0 ≠ a) → l = ltH l a ++ gtH l a
  | [], _, a, _ => rfl
  | y :: l, hs, a, hn => by
    have hs1 := (List.pairwise_cons.1 hs).1
    have hs2 : SortH l := (List.pairwise_cons.1 hs).2
    have hy := hn y List.mem_cons_self
    have h := splitH_no hs2 (a := a) (fun x hx => hn x (List.mem_cons_of_mem _ hx))
    by_cases c : y.f0 < a
    · have e1 : ltH (y :: l) a = y :: ltH l a := by unfold ltH; rw [List.filter_cons_of_pos (by simpa using c)]
      have e2 : gtH (y :: l) a = gtH l a := by unfold gtH; rw [List.filter_cons_of_neg (by simp; omega)]
      rw [e1, e2, List.cons_append, ← h]
    · have h2 := gtH_all (l := l) (a := a) (fun z hz => by have := hs1 z hz; omega)
      have e1 : ltH (y :: l) a = [] := by unfold ltH; rw [List.filter_cons_of_neg (by simpa using c)]; exact h2.1
      have e2 : gtH (y :: l) a = y :: l := by unfold gtH; rw [List.filter_cons_of_pos (by simp; omega)]; congr 1; exact h2.2
      rw [e1, e2]; rfl
theorem mem_insH {l : List S49} {s x : S49} : x ∈ insH l s ↔ x = s ∨ (x ∈ l ∧ x.f0 ≠ s.f0) := by
  unfold insH ltH gtH
  simp only [List.mem_append, List.mem_filter, List.mem_singleton, decide_eq_true_eq]
  constructor
  · rintro ((⟨h1, h2⟩ | h) | ⟨h1, h2⟩)
    · exact .inr ⟨h1, by omega⟩
    · exact .inl h
    · exact .inr ⟨h1, by omega⟩
  · rintro (h | ⟨h1, h2⟩)
    · exact .inl (.inr h)
    · rcases Int.lt_or_gt_of_ne h2 with h3 | h3
      · exact .inl (.inl ⟨h1, h3⟩)
      · exact .inr ⟨h1, h3⟩
theorem insH_sorted {l : List S49} (hs : SortH l) (s : S49) : SortH (insH l s) := by
  unfold SortH insH
  rw [List.pairwise_append, List.pairwise_append]
  refine ⟨⟨hs.filter _, List.pairwise_singleton _ _, fun a ha b hb => ?_⟩, hs.filter _, fun a ha b hb => ?_⟩
  · rw [List.mem_singleton.1 hb]
    exact of_decide_eq_true (List.mem_filter.1 ha).2
  · have h2 := of_decide_eq_true (List.mem_filter.1 hb).2
    rcases List.mem_append.1 ha with ha | ha
    · have h1 := of_decide_eq_true (List.mem_filter.1 ha).2
      exact Int.lt_trans h1 h2
    · rw [List.mem_singleton.1 ha]
      exact h2
theorem sortH_ext : ∀ {a b : List S49}, SortH a → SortH b → (∀ x, x ∈ a ↔ x ∈ b) → a = b
  | [], [], _, _, _ => rfl
  | [], y :: b, _, _, h => by have := (h y).2 List.mem_cons_self; cases this
  | x :: a, [], _, _, h => by have := (h x).1 List.mem_cons_self; cases this
  | x :: a, y :: b, ha, hb, h => by
    have a1 := (List.pairwise_cons.1 ha).1
    have b1 := (List.pairwise_cons.1 hb).1
    have exy : x = y := by
      have h1 := (h x).1 List.mem_cons_self
      have h2 := (h y).2 List.mem_cons_self
      rcases List.mem_cons.1 h1 with h1 | h1
      · exact h1
      rcases List.mem_cons.1 h2 with h2 | h2
      · exact h2.symm
      have := a1 y h2
      have := b1 x h1
      omega
    subst exy
    congr 1
    refine sortH_ext (List.pairwise_cons.1 ha).2 (List.pairwise_cons.1 hb).2 fun z => ⟨fun hz => ?_, fun hz => ?_⟩
    · rcases List.mem_cons.1 ((h z).1 (List.mem_cons_of_mem _ hz)) with e | e
      · have := a1 z hz; rw [e] at this; omega
      · exact e
    · rcases List.mem_cons.1 ((h z).2 (List.mem_cons_of_mem _ hz)) with e | e
      · have := b1 z hz; rw [e] at this; omega
      · exact e
theorem setH_mid (A B : List S49) (x s : S49) : (A ++ [x] ++ B).set A.length s = A ++ [s] ++ B := by
  induction A with
  | nil => rfl
  | cons a A ih => simp
theorem getH_mid (A B : List S49) (x : S49) : (A ++ [x] ++ B)[A.length]? = some x := by
  induction A with
  | nil => rfl
  | cons a A ih => simp
theorem insH_set {l : List S49} (hs : SortH l) {s x : S49} (hx : x ∈ l) (he : x.f0 = s.f0) : l.set (posH l s.f0) s = insH l s := by
  have h := splitH_at hs hx
  rw [he] at h
  have h2 := setH_mid (ltH l s.f0) (gtH l s.f0) x s
  rw [← h] at h2
  exact h2
theorem insH_new {l : List S49} (hs : SortH l) {s : S49} (hn : hasH l s.f0 = false) : l.take (posH l s.f0) ++ [s] ++ l.drop (posH l s.f0) = insH l s := by
  have h := splitH_no hs (a := s.f0) (fun x hx e => by rw [hasH_iff.2 ⟨x, hx, e⟩] at hn; cases hn)
  have h1 : (ltH l s.f0 ++ gtH l s.f0).take (ltH l s.f0).length = ltH l s.f0 := List.take_left' rfl
  have h2 : (ltH l s.f0 ++ gtH l s.f0).drop (ltH l s.f0).length = gtH l s.f0 := List.drop_left' rfl
  rw [← h] at h1 h2
  replace h1 : l.take (posH l s.f0) = ltH l s.f0 := h1
  replace h2 : l.drop (posH l s.f0) = gtH l s.f0 := h2
  rw [h1, h2]; rfl
theorem insH_len {l : List S49} (hs : SortH l) (s : S49) : (insH l s).length ≤ l.length + 1 := by
  cases h : hasH l s.f0
  · rw [← insH_new hs h]
    simp only [List.length_append, List.length_take, List.length_drop, List.length_cons, List.length_nil]; omega
  · obtain ⟨x, hx, he⟩ := hasH_iff.1 h
    rw [← insH_set hs hx he, List.length_set]; omega
theorem standsH {l : List S49} (hs : SortH l) (a : Int) : posH l a ≤ l.length ∧ (∀ k : Nat, k < posH l a → (rd_T49 l k).f0 < a) ∧ ∀ k : Nat, posH l a ≤ k → k < l.length → a ≤ (rd_T49 l k).f0 := by
  have hp : posH l a ≤ l.length := List.length_filter_le _ _
  have key : ∃ C, l = ltH l a ++ C ∧ ∀ x ∈ C, a ≤ x.f0 := by
    by_cases h : hasH l a = true
    · obtain ⟨x, hx, he⟩ := hasH_iff.1 h
      have h2 := splitH_at hs hx
      rw [he] at h2
      refine ⟨[x] ++ gtH l a, by rw [← List.append_assoc]; exact h2, fun y hy => ?_⟩
      rcases List.mem_append.1 hy with hy | hy
      · rw [List.mem_singleton.1 hy, he]; exact Int.le_refl _
      · exact Int.le_of_lt (of_decide_eq_true (List.mem_filter.1 hy).2)
    · exact ⟨gtH l a, splitH_no hs (fun x hx e => h (hasH_iff.2 ⟨x, hx, e⟩)), fun y hy => Int.le_of_lt (of_decide_eq_true (List.mem_filter.1 hy).2)⟩
  obtain ⟨C, hC, hge⟩ := key
  refine ⟨hp, fun k hk => ?_, fun k hk hl => ?_⟩
  · rw [rd49 l k (by omega)]
    have h1 : l[k]? = (ltH l a)[k]? := by
      conv => lhs; rw [hC]
      exact List.getElem?_append_left hk
    rw [List.getElem?_eq_getElem (by omega), List.getElem?_eq_getElem hk] at h1
    have h2 := Option.some.inj h1
    rw [h2]
    exact of_decide_eq_true (List.mem_filter.1 (List.getElem_mem hk)).2
  · rw [rd49 l k hl]
    have hlen : (ltH l a).length + C.length = l.length := by rw [← List.length_append, ← hC]
    have hk' : (ltH l a).length ≤ k := hk
    have h1 : l[k]? = C[k - (ltH l a).length]? := by
      conv => lhs; rw [hC]
      exact List.getElem?_append_right hk'
    rw [List.getElem?_eq_getElem hl, List.getElem?_eq_getElem (show k - (ltH l a).length < C.length by omega)] at h1
    rw [Option.some.inj h1]
    exact hge _ (List.getElem_mem _)
theorem atH_has {l : List S49} (hs : SortH l) (a : Int) : (decide (posH l a < l.length) && decide ((rd_T49 l (posH l a)).f0 = a)) = hasH l a := by
  by_cases h : hasH l a = true
  · rw [h]
    obtain ⟨x, hx, he⟩ := hasH_iff.1 h
    have h2 := splitH_at hs hx
    rw [he] at h2
    have h3 := getH_mid (ltH l a) (gtH l a) x
    rw [← h2] at h3
    replace h3 : l[posH l a]? = some x := h3
    have h4 := (List.getElem?_eq_some_iff.1 h3).1
    rw [decide_eq_true h4, rd49 l _ h4, (List.getElem?_eq_some_iff.1 h3).2, decide_eq_true he]; rfl
  · have hf : hasH l a = false := Bool.eq_false_iff.2 h
    rw [hf]
    by_cases h4 : posH l a < l.length
    · rw [decide_eq_false (show ¬ (rd_T49 l ((posH l a : Nat) : Int)).f0 = a from fun e => h (hasH_iff.2 ⟨_, List.getElem_mem h4, by rw [← rd49 l _ h4]; exact e⟩)), Bool.and_false]
    · rw [decide_eq_false h4]; rfl
/-! ### keep -/
def keepS (srcs : List S49) (l : List Int) (left : Int) : List S49 := l.foldl (fun s a => insH s ⟨a, left⟩) srcs
theorem keep_succ (srcs : List S49) {l : List Int} {i : Nat} (h : i < l.length) (left : Int) : keepS srcs (l.take (i + 1)) left = insH (keepS srcs (l.take i) left) ⟨rd l i, left⟩ := by
  unfold keepS
  rw [rdI l i h, ← List.take_append_getElem h, List.foldl_append]
  rfl
theorem keep_sorted (l : List Int) (left : Int) : ∀ {srcs : List S49}, SortH srcs → SortH (keepS srcs l left) := by
  unfold keepS
  induction l with
  | nil => exact fun h => h
  | cons a l ih => exact fun h => ih (insH_sorted h _)
theorem keep_len (l : List Int) (left : Int) : ∀ {srcs : List S49}, SortH srcs → (keepS srcs l left).length ≤ srcs.length + l.length := by
  unfold keepS
  induction l with
  | nil => exact fun _ => Nat.le_refl _
  | cons a l ih =>
    intro srcs h
    have h1 := ih (insH_sorted h ⟨a, left⟩)
    have h2 := insH_len h ⟨a, left⟩
    rw [List.foldl_cons, List.length_cons]
    omega
/-! ### a source's time, put into its row -/
theorem R49_store {w : World} {base g n c : Nat} {xs : List S49} (h : Kd.R k49 49 w base (fun _ => True) (.slice (some ⟨g, 0, none⟩) n c) xs) (i : Nat) (hi : i < xs.length) (t : Int) :
    Kd.R k49 49 (w.setCell ⟨g, i * 2 + 1, none⟩ (.int .i64 t)) base (fun _ => True) (.slice (some ⟨g, 0, none⟩) n c) (xs.set i ⟨(rd_T49 xs i).f0, t⟩) ∧ w.grownBy (w.setCell ⟨g, i * 2 + 1, none⟩ (.int .i64 t)) (some g) := by
  obtain rfl := (Kd.R_reads' h).1
  obtain ⟨h0, inner, hown, hr⟩ := h
  obtain ⟨h1, g1⟩ := hown.stored (i * 2 + 1) (.int .i64 t)
  have hil : inner.length = xs.length * 2 := hown.1
  have hx := hr.2 i xs[i] (List.getElem?_eq_getElem hi)
  have hK : (inner.drop (i * 2)).take 2 = [.int .u32 xs[i].f0, .int .i64 xs[i].f1] := k49_openM hx
  have e : inner.set (i * 2 + 1) (.int .i64 t) = inner.take (i * 2) ++ [.int .u32 xs[i].f0, .int .i64 t] ++ inner.drop (i * 2 + 2) := by
    have e1 : inner = inner.take (i * 2) ++ [.int .u32 xs[i].f0, .int .i64 xs[i].f1] ++ inner.drop (i * 2 + 2) := by
      conv => lhs; rw [← List.take_append_drop (i * 2) inner, ← List.take_append_drop 2 (inner.drop (i * 2)), hK, List.drop_drop]
      rw [List.append_assoc]
    conv => lhs; rw [e1]
    have hl : (inner.take (i * 2)).length = i * 2 := by rw [List.length_take]; omega
    rw [List.append_assoc, List.set_append_right _ _ (by omega), hl, show i * 2 + 1 - i * 2 = 1 by omega]
    rw [List.append_assoc]; rfl
  refine ⟨⟨h0, _, by rw [List.length_set]; exact h1, ?_⟩, g1⟩
  rw [e, rd49 xs i hi]
  exact Kd.reps_set (size := 2) (x := ⟨xs[i].f0, t⟩) (seg := [.int .u32 xs[i].f0, .int .i64 t]) (Reps.imp_ hr (fun p c hp => by rw [k49_openM hp]; exact k49_mkM _ _ _ _)) hi (k49_mkM _ _ _ _) rfl
end Go.Proofs.Ytbllchfgjginoaa
/-
  memb.work: those sources whose time is such.
-/
namespace Go.Proofs.Ytbllchfgjginoaa
set_option maxHeartbeats 8000000
set_option maxRecDepth 100000
open Go.RowKit Go.Lib Go.Proofs.YtbllchfgjginoaaW.PrintWords Go.Proofs.YtbllchfgjginoaaW.PrintLast Go.Proofs.YtbllchfgjginoaaW.PrintMore Go.Proofs.Ytbllchfgjginoaa.PMe
set_option linter.unusedVariables false
set_option linter.unusedSimpArgs false
theorem all1_w {x : Int} {b : Bool} (h : (fun _ => true) x = b) (w : World) : Calls Try.prog 61 #[.int .i64 x] w fun e w' => e = .returned (.bool b) ∧ Below w.heap.size w w' := by
  subst h
  have HB := Aside0.mk (Below.refl w.heap.size w)
  go_enter Try.func61, Try.ntmps61
  go_wp2
  go_ret
  exact ⟨rfl, HB.out⟩
theorem those_all {base gw : Nat} {m : WM} {vS vB vA : Value} {w : World} (h : Wk base gw m vS vB vA w) (hn : m.srcs.length ≤ 1000000) :
    Calls Try.prog 60 #[.pointer (some ⟨gw, 0, none⟩), .func (.func 61) #[] #[]] w fun e w' => ∃ v, e = .returned v ∧ RA w' w.heap.size v (thoseS (fun _ => true) m.srcs) ∧ Below w.heap.size w w' := by
  have hu49 := Try.underlying49
  have hu73 := Try.underlying73
  have hu28 := Try.underlying28
  obtain ⟨A, c, rfl⟩ := Kd.R_slice h.S
  have HC := Aside0.mk (Kd.R_reads' h.S).2.2
  have HB := Aside0.mk (Below.refl w.heap.size w)
  have hw3 : w.cell? ⟨gw, 3, none⟩ = some (.slice A m.srcs.length c) := (blk_cell h.blk 3).trans rfl
  have XN := Aside0.mk hn
  clear h hn
  go_enter Try.func60, Try.ntmps60
  go_wp2
  clear hw3
  go_loopg [5, 14] m.srcs.length (fun gk v5 v14 w' => ∃ i : Nat, v14 = .int .i64 (i : Int) ∧ Aside0 (i ≤ m.srcs.length ∧ gk = m.srcs.length - i) ∧ Aside0 (RA w' w.heap.size v5 (thoseS (fun _ => true) (m.srcs.take i))) ∧ Aside0 (Below w.heap.size w w'))
  case atStart => exact ⟨0, rfl, ⟨Nat.zero_le _, by omega⟩, ⟨Kd.R_nil _ _ _ _ _⟩, HB⟩
  case round =>
    clear HB
    obtain ⟨i, rfl, HI, HR, HB⟩ := hrel
    obtain ⟨hi, hgk⟩ := HI.out
    by_cases hlt : i < m.srcs.length
    · have c15 : decide ((i : Int) < (m.srcs.length : Int)) = true := decide_eq_true (by omega)
      have p1 : (0 : Int) ≤ (i : Int) := by omega
      have p2 : (i : Int) < (m.srcs.length : Int) := by omega
      obtain ⟨ad, he, hx0, hx1⟩ := at_T49 (Kd.C_below HC.out HB.out) (i : Int) p1 p2
      subst he
      rw [Int.toNat_natCast] at hx0 hx1
      obtain ⟨x, hx⟩ : ∃ x, x = rd_T49 m.srcs (i : Int) := ⟨_, rfl⟩
      have HTS := Aside0.mk (those_succ (fun _ => true) hlt)
      rw [← hx] at hx0 hx1 HTS
      clear hx
      replace p1 := eq_true p1
      replace p2 := eq_true p2
      go_upto_region 5 with (first | ((with_reducible refine gate_dst (N := 7) rfl ?_); (try (refine gate_guard (by rfl) ?_; dsimp only)); refine bxn (cs := #[.int .u32 0, .int .i64 0]) (t := 49) ?_; intro gx hg w11_ hbox hB0; have hG := Aside0.mk (show wr.heap.size ≤ gx from Nat.le_of_eq hg.symm); clear hg; have hBX := Aside0.mk hbox; have hB1 := Aside0.mk hB0; clear hB0; obtain ⟨hc_gx_0, hc_gx_1, hf_gx_0, hf_gx_1⟩ := cf2 hbox; clear hbox))
      have hB : Below wr.heap.size wr ((w11_.setCell ⟨gx, 0, none⟩ (.int .u32 x.f0)).setCell ⟨gx, 1, none⟩ (.int .i64 x.f1)) := (below_set (below_set hB1.out hG.out) hG.out)
      have hBN : ((w11_.setCell ⟨gx, 0, none⟩ (.int .u32 x.f0)).setCell ⟨gx, 1, none⟩ (.int .i64 x.f1)).heap[gx]? = some (.cells #[.int .u32 x.f0, .int .i64 x.f1] 49 (0, 0)) := (blk_put (cs := #[.int .u32 x.f0, .int .i64 0]) (blk_put (cs := #[.int .u32 0, .int .i64 0]) hBX.out 0 (.int .u32 x.f0) rfl) 1 (.int .i64 x.f1) rfl)
      clear hBX hB1
      clear hc_gx_0 hf_gx_0 hc_gx_1 hf_gx_1
      generalize ((w11_.setCell ⟨gx, 0, none⟩ (.int .u32 x.f0)).setCell ⟨gx, 1, none⟩ (.int .i64 x.f1)) = w12_ at hB hBN ⊢
      have HBo := Aside0.mk HB.out
      replace HB := mvH HB hB
      have nHR := Aside0.mk (Kd.R_below HR.out hB)
      clear HR
      have HR := nHR
      clear nHR
      have BK_gx := Aside0.mk hBN
      have GE_gx := Aside0.mk (Nat.le_trans HBo.out.size hG.out)
      clear HBo hG hBN hB
      obtain ⟨hc_gx_0, hc_gx_1, hf_gx_0, hf_gx_1⟩ := cf2 BK_gx.out
      clear hx0 hx1
      obtain ⟨b, hb⟩ : ∃ b, b = (fun _ => true) x.f1 := ⟨_, rfl⟩
      have XBB := Aside0.mk hb.symm
      clear hb
      cases b with
      | false =>
        exact absurd (show true = false from XBB.out) (by decide)
      | true =>
        go_wp2_with (first | (go_at_call 61; with_reducible refine (all1_w XBB.out _).mono ?_; rintro e w13_ ⟨rfl, hB⟩; replace HB := mvH HB hB; clear hc_gx_0 hf_gx_0 hc_gx_1 hf_gx_1; replace BK_gx := mvB BK_gx hB; obtain ⟨hc_gx_0, hc_gx_1, hf_gx_0, hf_gx_1⟩ := cf2 BK_gx.out; have nHR := Aside0.mk (Kd.R_below HR.out hB); clear HR; have HR := nHR; clear nHR; clear hB) | ((with_reducible refine gate_builtin (b := .append) (xs := #[.tmp 22, .tmp 25]) rfl ?_); at_builtin; refine Kd.R_append (Kd.int .u32) (w0 := w) w.heap.size rfl (.tmp 22) (.tmp 25) 29 25 (.int .u32 0) 4 rfl Try.underlying29 info25 rfl (by decide) (by decide) u5 (thoseS (fun _ => true) (m.srcs.take i)) x.f0 [.int .u32 x.f0] (fun _ => True) (fun _ => False) rfl rfl rfl (fun _ hk => hk.elim) (fun _ _ => trivial) HR.out HB.out HB.out.size (by have h1 := XN.out; have h2 := those_len (fun _ => true) (m.srcs.take i); rw [List.length_take] at h2; omega) ?_; intro v_n w14_ hR2 hB2 _ _; clear HR HB; have HR := Aside0.mk hR2; have HB := Aside0.mk hB2; clear hR2 hB2 hc_gx_0 hf_gx_0 hc_gx_1 hf_gx_1 BK_gx))
        go_roundg (m.srcs.length - (i + 1))
        case measure => omega
        case rel =>
          refine ⟨i + 1, ?_, ⟨by omega, rfl⟩, ⟨?_⟩, HB⟩
          · show Value.int .i64 (wrap64 ((i : Int) + 1)) = _
            have h1 := XN.out
            have h2 : wrap64 ((i : Int) + 1) = ((i + 1 : Nat) : Int) := by unfold wrap64; omega
            rw [h2]
          · have h1 := HR.out
            rw [HTS.out, if_pos XBB.out]
            exact h1
    · have c15 : decide ((i : Int) < (m.srcs.length : Int)) = false := decide_eq_false (by omega)
      have hie : i = m.srcs.length := by omega
      have HR2 := Aside0.mk (show RA wr w.heap.size u5 (thoseS (fun _ => true) m.srcs) by have h1 := HR.out; rw [hie, List.take_length] at h1; exact h1)
      clear hie hgk
      go_wp2
      go_ret
      exact ⟨_, rfl, HR2.out, HB.out⟩
theorem all_w {base gw : Nat} {m : WM} {vS vB vA : Value} {w : World} (h : Wk base gw m vS vB vA w) (hn : m.srcs.length ≤ 1000000) :
    Calls Try.prog 39 #[.pointer (some ⟨gw, 0, none⟩)] w fun e w' => ∃ v, e = .returned v ∧ RA w' w.heap.size v (thoseS (fun _ => true) m.srcs) ∧ Below w.heap.size w w' := by
  have H := Aside0.mk (those_all h hn)
  clear h hn
  go_enter Try.func39, Try.ntmps39
  go_wp2_with (first | (go_at_call 60; (with_reducible refine H.out.mono ?_); rintro e w1 ⟨v, rfl, hR, hB⟩; have HR := Aside0.mk hR; have HB := Aside0.mk hB; clear hR hB))
  go_ret
  exact ⟨_, rfl, HR.out, HB.out⟩
theorem x1_w {x : Int} {b : Bool} (h : (fun t => decide (0 < t)) x = b) (w : World) : Calls Try.prog 64 #[.int .i64 x] w fun e w' => e = .returned (.bool b) ∧ Below w.heap.size w w' := by
  subst h
  have HB := Aside0.mk (Below.refl w.heap.size w)
  go_enter Try.func64, Try.ntmps64
  go_wp2
  go_ret
  exact ⟨rfl, HB.out⟩
theorem those_x {base gw : Nat} {m : WM} {vS vB vA : Value} {w : World} (h : Wk base gw m vS vB vA w) (hn : m.srcs.length ≤ 1000000) :
    Calls Try.prog 60 #[.pointer (some ⟨gw, 0, none⟩), .func (.func 64) #[] #[]] w fun e w' => ∃ v, e = .returned v ∧ RA w' w.heap.size v (thoseS (fun t => decide (0 < t)) m.srcs) ∧ Below w.heap.size w w' := by
  have hu49 := Try.underlying49
  have hu73 := Try.underlying73
  have hu28 := Try.underlying28
  obtain ⟨A, c, rfl⟩ := Kd.R_slice h.S
  have HC := Aside0.mk (Kd.R_reads' h.S).2.2
  have HB := Aside0.mk (Below.refl w.heap.size w)
  have hw3 : w.cell? ⟨gw, 3, none⟩ = some (.slice A m.srcs.length c) := (blk_cell h.blk 3).trans rfl
  have XN := Aside0.mk hn
  clear h hn
  go_enter Try.func60, Try.ntmps60
  go_wp2
  clear hw3
  go_loopg [5, 14] m.srcs.length (fun gk v5 v14 w' => ∃ i : Nat, v14 = .int .i64 (i : Int) ∧ Aside0 (i ≤ m.srcs.length ∧ gk = m.srcs.length - i) ∧ Aside0 (RA w' w.heap.size v5 (thoseS (fun t => decide (0 < t)) (m.srcs.take i))) ∧ Aside0 (Below w.heap.size w w'))
  case atStart => exact ⟨0, rfl, ⟨Nat.zero_le _, by omega⟩, ⟨Kd.R_nil _ _ _ _ _⟩, HB⟩
  case round =>
    clear HB
    obtain ⟨i, rfl, HI, HR, HB⟩ := hrel
    obtain ⟨hi, hgk⟩ := HI.out
    by_cases hlt : i < m.srcs.length
    · have c15 : decide ((i : Int) < (m.srcs.length : Int)) = true := decide_eq_true (by omega)
      have p1 : (0 : Int) ≤ (i : Int) := by omega
      have p2 : (i : Int) < (m.srcs.length : Int) := by omega
      obtain ⟨ad, he, hx0, hx1⟩ := at_T49 (Kd.C_below HC.out HB.out) (i : Int) p1 p2
      subst he
      rw [Int.toNat_natCast] at hx0 hx1
      obtain ⟨x, hx⟩ : ∃ x, x = rd_T49 m.srcs (i : Int) := ⟨_, rfl⟩
      have HTS := Aside0.mk (those_succ (fun t => decide (0 < t)) hlt)
      rw [← hx] at hx0 hx1 HTS
      clear hx
      replace p1 := eq_true p1
      replace p2 := eq_true p2
      go_upto_region 5 with (first | ((with_reducible refine gate_dst (N := 7) rfl ?_); (try (refine gate_guard (by rfl) ?_; dsimp only)); refine bxn (cs := #[.int .u32 0, .int .i64 0]) (t := 49) ?_; intro gx hg w11_ hbox hB0; have hG := Aside0.mk (show wr.heap.size ≤ gx from Nat.le_of_eq hg.symm); clear hg; have hBX := Aside0.mk hbox; have hB1 := Aside0.mk hB0; clear hB0; obtain ⟨hc_gx_0, hc_gx_1, hf_gx_0, hf_gx_1⟩ := cf2 hbox; clear hbox))
      have hB : Below wr.heap.size wr ((w11_.setCell ⟨gx, 0, none⟩ (.int .u32 x.f0)).setCell ⟨gx, 1, none⟩ (.int .i64 x.f1)) := (below_set (below_set hB1.out hG.out) hG.out)
      have hBN : ((w11_.setCell ⟨gx, 0, none⟩ (.int .u32 x.f0)).setCell ⟨gx, 1, none⟩ (.int .i64 x.f1)).heap[gx]? = some (.cells #[.int .u32 x.f0, .int .i64 x.f1] 49 (0, 0)) := (blk_put (cs := #[.int .u32 x.f0, .int .i64 0]) (blk_put (cs := #[.int .u32 0, .int .i64 0]) hBX.out 0 (.int .u32 x.f0) rfl) 1 (.int .i64 x.f1) rfl)
      clear hBX hB1
      clear hc_gx_0 hf_gx_0 hc_gx_1 hf_gx_1
      generalize ((w11_.setCell ⟨gx, 0, none⟩ (.int .u32 x.f0)).setCell ⟨gx, 1, none⟩ (.int .i64 x.f1)) = w12_ at hB hBN ⊢
      have HBo := Aside0.mk HB.out
      replace HB := mvH HB hB
      have nHR := Aside0.mk (Kd.R_below HR.out hB)
      clear HR
      have HR := nHR
      clear nHR
      have BK_gx := Aside0.mk hBN
      have GE_gx := Aside0.mk (Nat.le_trans HBo.out.size hG.out)
      clear HBo hG hBN hB
      obtain ⟨hc_gx_0, hc_gx_1, hf_gx_0, hf_gx_1⟩ := cf2 BK_gx.out
      clear hx0 hx1
      obtain ⟨b, hb⟩ : ∃ b, b = (fun t => decide (0 < t)) x.f1 := ⟨_, rfl⟩
      have XBB := Aside0.mk hb.symm
      clear hb
      cases b with
      | false =>
        go_wp2_with (first | (go_at_call 64; with_reducible refine (x1_w XBB.out _).mono ?_; rintro e w13_ ⟨rfl, hB⟩; replace HB := mvH HB hB; clear hc_gx_0 hf_gx_0 hc_gx_1 hf_gx_1; replace BK_gx := mvB BK_gx hB; obtain ⟨hc_gx_0, hc_gx_1, hf_gx_0, hf_gx_1⟩ := cf2 BK_gx.out; have nHR := Aside0.mk (Kd.R_below HR.out hB); clear HR; have HR := nHR; clear nHR; clear hB))
        go_roundg (m.srcs.length - (i + 1))
        case measure => omega
        case rel =>
          refine ⟨i + 1, ?_, ⟨by omega, rfl⟩, ⟨?_⟩, HB⟩
          · show Value.int .i64 (wrap64 ((i : Int) + 1)) = _
            have h1 := XN.out
            have h2 : wrap64 ((i : Int) + 1) = ((i + 1 : Nat) : Int) := by unfold wrap64; omega
            rw [h2]
          · have h1 := HR.out
            rw [HTS.out, if_neg (by rw [XBB.out]; decide)]
            exact h1
      | true =>
        go_wp2_with (first | (go_at_call 64; with_reducible refine (x1_w XBB.out _).mono ?_; rintro e w13_ ⟨rfl, hB⟩; replace HB := mvH HB hB; clear hc_gx_0 hf_gx_0 hc_gx_1 hf_gx_1; replace BK_gx := mvB BK_gx hB; obtain ⟨hc_gx_0, hc_gx_1, hf_gx_0, hf_gx_1⟩ := cf2 BK_gx.out; have nHR := Aside0.mk (Kd.R_below HR.out hB); clear HR; have HR := nHR; clear nHR; clear hB) | ((with_reducible refine gate_builtin (b := .append) (xs := #[.tmp 22, .tmp 25]) rfl ?_); at_builtin; refine Kd.R_append (Kd.int .u32) (w0 := w) w.heap.size rfl (.tmp 22) (.tmp 25) 29 25 (.int .u32 0) 4 rfl Try.underlying29 info25 rfl (by decide) (by decide) u5 (thoseS (fun t => decide (0 < t)) (m.srcs.take i)) x.f0 [.int .u32 x.f0] (fun _ => True) (fun _ => False) rfl rfl rfl (fun _ hk => hk.elim) (fun _ _ => trivial) HR.out HB.out HB.out.size (by have h1 := XN.out; have h2 := those_len (fun t => decide (0 < t)) (m.srcs.take i); rw [List.length_take] at h2; omega) ?_; intro v_n w14_ hR2 hB2 _ _; clear HR HB; have HR := Aside0.mk hR2; have HB := Aside0.mk hB2; clear hR2 hB2 hc_gx_0 hf_gx_0 hc_gx_1 hf_gx_1 BK_gx))
        go_roundg (m.srcs.length - (i + 1))
        case measure => omega
        case rel =>
          refine ⟨i + 1, ?_, ⟨by omega, rfl⟩, ⟨?_⟩, HB⟩
          · show Value.int .i64 (wrap64 ((i : Int) + 1)) = _
            have h1 := XN.out
            have h2 : wrap64 ((i : Int) + 1) = ((i + 1 : Nat) : Int) := by unfold wrap64; omega
            rw [h2]
          · have h1 := HR.out
            rw [HTS.out, if_pos XBB.out]
            exact h1
    · have c15 : decide ((i : Int) < (m.srcs.length : Int)) = false := decide_eq_false (by omega)
      have hie : i = m.srcs.length := by omega
      have HR2 := Aside0.mk (show RA wr w.heap.size u5 (thoseS (fun t => decide (0 < t)) m.srcs) by have h1 := HR.out; rw [hie, List.take_length] at h1; exact h1)
      clear hie hgk
      go_wp2
      go_ret
      exact ⟨_, rfl, HR2.out, HB.out⟩
theorem x_w {base gw : Nat} {m : WM} {vS vB vA : Value} {w : World} (h : Wk base gw m vS vB vA w) (hn : m.srcs.length ≤ 1000000) :
    Calls Try.prog 42 #[.pointer (some ⟨gw, 0, none⟩)] w fun e w' => ∃ v, e = .returned v ∧ RA w' w.heap.size v (thoseS (fun t => decide (0 < t)) m.srcs) ∧ Below w.heap.size w w' := by
  have H := Aside0.mk (those_x h hn)
  clear h hn
  go_enter Try.func42, Try.ntmps42
  go_wp2_with (first | (go_at_call 60; (with_reducible refine H.out.mono ?_); rintro e w1 ⟨v, rfl, hR, hB⟩; have HR := Aside0.mk hR; have HB := Aside0.mk hB; clear hR hB))
  go_ret
  exact ⟨_, rfl, HR.out, HB.out⟩
theorem y1_w {x : Int} {b : Bool} (h : (fun t => t == 0) x = b) (w : World) : Calls Try.prog 62 #[.int .i64 x] w fun e w' => e = .returned (.bool b) ∧ Below w.heap.size w w' := by
  subst h
  have HB := Aside0.mk (Below.refl w.heap.size w)
  go_enter Try.func62, Try.ntmps62
  go_wp2
  go_ret
  exact ⟨rfl, HB.out⟩
theorem those_y {base gw : Nat} {m : WM} {vS vB vA : Value} {w : World} (h : Wk base gw m vS vB vA w) (hn : m.srcs.length ≤ 1000000) :
    Calls Try.prog 60 #[.pointer (some ⟨gw, 0, none⟩), .func (.func 62) #[] #[]] w fun e w' => ∃ v, e = .returned v ∧ RA w' w.heap.size v (thoseS (fun t => t == 0) m.srcs) ∧ Below w.heap.size w w' := by
  have hu49 := Try.underlying49
  have hu73 := Try.underlying73
  have hu28 := Try.underlying28
  obtain ⟨A, c, rfl⟩ := Kd.R_slice h.S
  have HC := Aside0.mk (Kd.R_reads' h.S).2.2
  have HB := Aside0.mk (Below.refl w.heap.size w)
  have hw3 : w.cell? ⟨gw, 3, none⟩ = some (.slice A m.srcs.length c) := (blk_cell h.blk 3).trans rfl
  have XN := Aside0.mk hn
  clear h hn
  go_enter Try.func60, Try.ntmps60
  go_wp2
  clear hw3
  go_loopg [5, 14] m.srcs.length (fun gk v5 v14 w' => ∃ i : Nat, v14 = .int .i64 (i : Int) ∧ Aside0 (i ≤ m.srcs.length ∧ gk = m.srcs.length - i) ∧ Aside0 (RA w' w.heap.size v5 (thoseS (fun t => t == 0) (m.srcs.take i))) ∧ Aside0 (Below w.heap.size w w'))
  case atStart => exact ⟨0, rfl, ⟨Nat.zero_le _, by omega⟩, ⟨Kd.R_nil _ _ _ _ _⟩, HB⟩
  case round =>
    clear HB
    obtain ⟨i, rfl, HI, HR, HB⟩ := hrel
    obtain ⟨hi, hgk⟩ := HI.out
    by_cases hlt : i < m.srcs.length
    · have c15 : decide ((i : Int) < (m.srcs.length : Int)) = true := decide_eq_true (by omega)
      have p1 : (0 : Int) ≤ (i : Int) := by omega
      have p2 : (i : Int) < (m.srcs.length : Int) := by omega
      obtain ⟨ad, he, hx0, hx1⟩ := at_T49 (Kd.C_below HC.out HB.out) (i : Int) p1 p2
      subst he
      rw [Int.toNat_natCast] at hx0 hx1
      obtain ⟨x, hx⟩ : ∃ x, x = rd_T49 m.srcs (i : Int) := ⟨_, rfl⟩
      have HTS := Aside0.mk (those_succ (fun t => t == 0) hlt)
      rw [← hx] at hx0 hx1 HTS
      clear hx
      replace p1 := eq_true p1
      replace p2 := eq_true p2
      go_upto_region 5 with (first | ((with_reducible refine gate_dst (N := 7) rfl ?_); (try (refine gate_guard (by rfl) ?_; dsimp only)); refine bxn (cs := #[.int .u32 0, .int .i64 0]) (t := 49) ?_; intro gx hg w11_ hbox hB0; have hG := Aside0.mk (show wr.heap.size ≤ gx from Nat.le_of_eq hg.symm); clear hg; have hBX := Aside0.mk hbox; have hB1 := Aside0.mk hB0; clear hB0; obtain ⟨hc_gx_0, hc_gx_1, hf_gx_0, hf_gx_1⟩ := cf2 hbox; clear hbox))
      have hB : Below wr.heap.size wr ((w11_.setCell ⟨gx, 0, none⟩ (.int .u32 x.f0)).setCell ⟨gx, 1, none⟩ (.int .i64 x.f1)) := (below_set (below_set hB1.out hG.out) hG.out)
      have hBN : ((w11_.setCell ⟨gx, 0, none⟩ (.int .u32 x.f0)).setCell ⟨gx, 1, none⟩ (.int .i64 x.f1)).heap[gx]? = some (.cells #[.int .u32 x.f0, .int .i64 x.f1] 49 (0, 0)) := (blk_put (cs := #[.int .u32 x.f0, .int .i64 0]) (blk_put (cs := #[.int .u32 0, .int .i64 0]) hBX.out 0 (.int .u32 x.f0) rfl) 1 (.int .i64 x.f1) rfl)
      clear hBX hB1
      clear hc_gx_0 hf_gx_0 hc_gx_1 hf_gx_1
      generalize ((w11_.setCell ⟨gx, 0, none⟩ (.int .u32 x.f0)).setCell ⟨gx, 1, none⟩ (.int .i64 x.f1)) = w12_ at hB hBN ⊢
      have HBo := Aside0.mk HB.out
      replace HB := mvH HB hB
      have nHR := Aside0.mk (Kd.R_below HR.out hB)
      clear HR
      have HR := nHR
      clear nHR
      have BK_gx := Aside0.mk hBN
      have GE_gx := Aside0.mk (Nat.le_trans HBo.out.size hG.out)
      clear HBo hG hBN hB
      obtain ⟨hc_gx_0, hc_gx_1, hf_gx_0, hf_gx_1⟩ := cf2 BK_gx.out
      clear hx0 hx1
      obtain ⟨b, hb⟩ : ∃ b, b = (fun t => t == 0) x.f1 := ⟨_, rfl⟩
      have XBB := Aside0.mk hb.symm
      clear hb
      cases b with
      | false =>
        go_wp2_with (first | (go_at_call 62; with_reducible refine (y1_w XBB.out _).mono ?_; rintro e w13_ ⟨rfl, hB⟩; replace HB := mvH HB hB; clear hc_gx_0 hf_gx_0 hc_gx_1 hf_gx_1; replace BK_gx := mvB BK_gx hB; obtain ⟨hc_gx_0, hc_gx_1, hf_gx_0, hf_gx_1⟩ := cf2 BK_gx.out; have nHR := Aside0.mk (Kd.R_below HR.out hB); clear HR; have HR := nHR; clear nHR; clear hB))
        go_roundg (m.srcs.length - (i + 1))
        case measure => omega
        case rel =>
          refine ⟨i + 1, ?_, ⟨by omega, rfl⟩, ⟨?_⟩, HB⟩
          · show Value.int .i64 (wrap64 ((i : Int) + 1)) = _
            have h1 := XN.out
            have h2 : wrap64 ((i : Int) + 1) = ((i + 1 : Nat) : Int) := by unfold wrap64; omega
            rw [h2]
          · have h1 := HR.out
            rw [HTS.out, if_neg (by rw [XBB.out]; decide)]
            exact h1
      | true =>
        go_wp2_with (first | (go_at_call 62; with_reducible refine (y1_w XBB.out _).mono ?_; rintro e w13_ ⟨rfl, hB⟩; replace HB := mvH HB hB; clear hc_gx_0 hf_gx_0 hc_gx_1 hf_gx_1; replace BK_gx := mvB BK_gx hB; obtain ⟨hc_gx_0, hc_gx_1, hf_gx_0, hf_gx_1⟩ := cf2 BK_gx.out; have nHR := Aside0.mk (Kd.R_below HR.out hB); clear HR; have HR := nHR; clear nHR; clear hB) | ((with_reducible refine gate_builtin (b := .append) (xs := #[.tmp 22, .tmp 25]) rfl ?_); at_builtin; refine Kd.R_append (Kd.int .u32) (w0 := w) w.heap.size rfl (.tmp 22) (.tmp 25) 29 25 (.int .u32 0) 4 rfl Try.underlying29 info25 rfl (by decide) (by decide) u5 (thoseS (fun t => t == 0) (m.srcs.take i)) x.f0 [.int .u32 x.f0] (fun _ => True) (fun _ => False) rfl rfl rfl (fun _ hk => hk.elim) (fun _ _ => trivial) HR.out HB.out HB.out.size (by have h1 := XN.out; have h2 := those_len (fun t => t == 0) (m.srcs.take i); rw [List.length_take] at h2; omega) ?_; intro v_n w14_ hR2 hB2 _ _; clear HR HB; have HR := Aside0.mk hR2; have HB := Aside0.mk hB2; clear hR2 hB2 hc_gx_0 hf_gx_0 hc_gx_1 hf_gx_1 BK_gx))
        go_roundg (m.srcs.length - (i + 1))
        case measure => omega
        case rel =>
          refine ⟨i + 1, ?_, ⟨by omega, rfl⟩, ⟨?_⟩, HB⟩
          · show Value.int .i64 (wrap64 ((i : Int) + 1)) = _
            have h1 := XN.out
            have h2 : wrap64 ((i : Int) + 1) = ((i + 1 : Nat) : Int) := by unfold wrap64; omega
            rw [h2]
          · have h1 := HR.out
            rw [HTS.out, if_pos XBB.out]
            exact h1
    · have c15 : decide ((i : Int) < (m.srcs.length : Int)) = false := decide_eq_false (by omega)
      have hie : i = m.srcs.length := by omega
      have HR2 := Aside0.mk (show RA wr w.heap.size u5 (thoseS (fun t => t == 0) m.srcs) by have h1 := HR.out; rw [hie, List.take_length] at h1; exact h1)
      clear hie hgk
      go_wp2
      go_ret
      exact ⟨_, rfl, HR2.out, HB.out⟩
theorem y_w {base gw : Nat} {m : WM} {vS vB vA : Value} {w : World} (h : Wk base gw m vS vB vA w) (hn : m.srcs.length ≤ 1000000) :
    Calls Try.prog 40 #[.pointer (some ⟨gw, 0, none⟩)] w fun e w' => ∃ v, e = .returned v ∧ RA w' w.heap.size v (thoseS (fun t => t == 0) m.srcs) ∧ Below w.heap.size w w' := by
  have H := Aside0.mk (those_y h hn)
  clear h hn
  go_enter Try.func40, Try.ntmps40
  go_wp2_with (first | (go_at_call 60; (with_reducible refine H.out.mono ?_); rintro e w1 ⟨v, rfl, hR, hB⟩; have HR := Aside0.mk hR; have HB := Aside0.mk hB; clear hR hB))
  go_ret
  exact ⟨_, rfl, HR.out, HB.out⟩
end Go.Proofs.Ytbllchfgjginoaa
/-
  memb.work.keep: sources kept for a time.
-/
namespace Go.Proofs.Ytbllchfgjginoaa
open Go.RowKit Go.Lib Go.Proofs.YtbllchfgjginoaaW.PrintWords Go.Proofs.YtbllchfgjginoaaW.PrintLast Go.Proofs.YtbllchfgjginoaaW.PrintMore Go.Proofs.Ytbllchfgjginoaa.PMe
set_option linter.unusedVariables false
set_option linter.unusedSimpArgs false
theorem placeH_w {l : List S49} {a : Int} {b : Bool} (hs : SortH l) (hb : hasH l a = b) (hn : l.length ≤ 1000000) (A : Option Addr) (c : Nat) (w : World) (hr : Kd.C k49 w A l.length l) (hc : l.length ≤ c) :
    Calls Try.prog 34 #[.slice A l.length c, .int .u32 a] w fun e w' => e = .returned (.tuple #[.int .i64 (posH l a : Nat), .bool b]) ∧ Below w.heap.size w w' := by
  subst hb
  rw [← atH_has hs a]
  exact place_w (standsH hs a).1 (standsH hs a).2.1 (standsH hs a).2.2 hn A c w hr hc
theorem R49_cell {w : World} {base g n c : Nat} {xs : List S49} (h : Kd.R k49 49 w base (fun _ => True) (.slice (some ⟨g, 0, none⟩) n c) xs) (i : Nat) (hi : i < xs.length) : (∃ u, w.cell? ⟨g, i * 2 + 1, none⟩ = some u) ∧ w.frozen? ⟨g, i * 2 + 1, none⟩ = false := by
  obtain rfl := (Kd.R_reads' h).1
  obtain ⟨h0, inner, hown, hr⟩ := h
  have hl : inner.length = xs.length * 2 := hown.1
  exact ⟨⟨_, (hown.cellAt (i * 2 + 1) (show i * 2 + 1 < xs.length * 2 by omega)).trans (List.getElem?_eq_getElem (by omega))⟩, hown.frozenAt (i * 2 + 1)⟩
/-- insert, over a row of held sources. -/
theorem insertH_w {w : World} {base vb : Nat} {v : Value} {xs : List S49} {x : S49} (h : Kd.R k49 49 w base (fun _ => True) v xs) (hB : base ≤ w.heap.size) (hn : xs.length ≤ 1000000) (i : Nat) (hi : i ≤ xs.length) (hvb : vb = w.heap.size) :
    Calls Try.prog 55 #[v, .int .i64 i, .slice (some ⟨vb, 0, none⟩) 1 1] (w.alloc (.cells #[.int .u32 x.f0, .int .i64 x.f1] 49)) fun e w' => ∃ v', e = .returned v' ∧ Kd.R k49 49 w' base (fun _ => True) v' (xs.take i ++ [x] ++ xs.drop i) ∧ w.grownBy w' v.ownBlock := by
  subst hvb
  obtain ⟨h0, inner, hown, hr⟩ := h
  have hg := World.grownBy_alloc w (.cells #[.int .u32 x.f0, .int .i64 x.f1] 49) v.ownBlock
  have h1 : ∀ u ∈ inner, u.oneCell' = true := Kd.reps_one hr (by decide) (fun p c hp => k49.K_one (k49.K_of_M hp))
  refine (insert_w base v xs.length i w.heap.size 1 inner [.int .u32 x.f0, .int .i64 x.f1] #[.int .u32 x.f0, .int .i64 x.f1] _ (Nat.le_trans hB (World.grownBy_alloc w _ none).size) hn hi (hown.alloc _) h1 (heap_alloc_new _ _) rfl rfl (by simp [Value.oneCell']) (fun e => by have := (hown.lt _ e).2; omega)).mono ?_
  rintro e w' ⟨v', rfl, ho, hg2⟩
  have hlen : (xs.take i ++ [x] ++ xs.drop i).length = xs.length + 1 := by simp only [List.length_append, List.length_take, List.length_drop, List.length_cons, List.length_nil]; omega
  refine ⟨v', rfl, ⟨fun _ _ => trivial, inner.take (i * 2) ++ [.int .u32 x.f0, .int .i64 x.f1] ++ inner.drop (i * 2), by rw [hlen]; exact ho, ?_⟩, ⟨hg2.os.trans hg.os, hg2.tape.trans hg.tape, hg2.output.trans hg.output, Nat.le_trans hg.size hg2.size, fun k hk hne => (hg2.block k (Nat.lt_of_lt_of_le hk hg.size) hne).trans (hg.block k hk hne)⟩⟩
  have hM : ∀ {w2 : World} {ok ok2 : Nat → Prop} (p : S49) (c : List Value), k49.M w base ok p c → k49.M w2 base ok2 p c := fun p c hp => by rw [k49_openM hp]; exact k49_mkM _ _ _ _
  exact Kd.reps_append (Kd.reps_append (Kd.reps_take (size := 2) (Reps.imp_ hr (fun p c hp => hM p c hp)) hi) (Reps.c2 (k49_mkM _ _ _ _) (Reps.none _ _))) (Kd.reps_drop (size := 2) (Reps.imp_ hr (fun p c hp => hM p c hp)))
set_option maxHeartbeats 8000000 in
set_option maxRecDepth 100000 in
theorem keep_w {base gw : Nat} {m : WM} {vS vB vA : Value} {w : World} (h : Wk base gw m vS vB vA w) (hs : SortH m.srcs) {v : Value} {l : List Int} (hl : RA w base v l) (hn : m.srcs.length + l.length ≤ 1000000) (hbs : base ≤ w.heap.size) (left : Int) :
    Calls Try.prog 35 #[.pointer (some ⟨gw, 0, none⟩), v, .int .i64 left] w fun e w' => e = .returned (.tuple #[]) ∧ (∃ vS', Wk base gw { m with srcs := keepS m.srcs l left } vS' vB vA w') ∧ Fr base gw w w' := by
  have hu49 := Try.underlying49
  have hu73 := Try.underlying73
  have hu28 := Try.underlying28
  obtain ⟨A_l, c_l, rfl⟩ := Kd.R_slice hl
  have HW := Aside0.mk h
  have HL := Aside0.mk hl
  have HBOX := Aside0.mk h.box
  have XS := Aside0.mk hs
  have XN := Aside0.mk hn
  have XB := Aside0.mk hbs
  clear h hs hl hn hbs
  go_enter Try.func35, Try.ntmps35
  go_wp2
  go_loopg [12] l.length (fun gk v12 w' => ∃ i : Nat, v12 = .int .i64 (i : Int) ∧ Aside0 (i ≤ l.length ∧ gk = l.length - i) ∧ (∃ vS' : Value, Aside0 (Wk base gw { m with srcs := keepS m.srcs (l.take i) left } vS' vB vA w')) ∧ Aside0 (Fr base gw w w'))
  case atStart => exact ⟨0, rfl, ⟨Nat.zero_le _, by omega⟩, ⟨_, HW⟩, ⟨Fr.refl _ _ _⟩⟩
  case round =>
    clear HW
    obtain ⟨i, rfl, HI, ⟨vS1, HW⟩, HF⟩ := hrel
    obtain ⟨hi, hgk⟩ := HI.out
    by_cases hlt : i < l.length
    · have c13 : decide ((i : Int) < (l.length : Int)) = true := decide_eq_true (by omega)
      have p1 : (0 : Int) ≤ (i : Int) := by omega
      have p2 : (i : Int) < (l.length : Int) := by omega
      obtain ⟨ad, he, hx0⟩ := Kd.at_int (Kd.R_reads' (HF.out.row HL.out HBOX.out)).2.2 (i : Int) p1 p2
      subst he
      rw [Int.toNat_natCast] at hx0
      have HKS := Aside0.mk (keep_succ m.srcs hlt left)
      obtain ⟨a, ha⟩ : ∃ a, a = rd l (i : Int) := ⟨_, rfl⟩
      rw [← ha] at hx0 HKS
      clear ha
      obtain ⟨xs, hxs⟩ : ∃ xs, xs = keepS m.srcs (l.take i) left := ⟨_, rfl⟩
      rw [← hxs] at HW HKS
      have HXS := Aside0.mk (show SortH xs by rw [hxs]; exact keep_sorted _ _ XS.out)
      have HXN := Aside0.mk (show xs.length ≤ 1000000 by have h1 := keep_len (l.take i) left XS.out; rw [← hxs, List.length_take] at h1; have h2 := XN.out; omega)
      clear hxs
      replace p1 := eq_true p1
      replace p2 := eq_true p2
      obtain ⟨A1, c1, e1⟩ := Kd.R_slice HW.out.S
      subst e1
      have hw3 : wr.cell? ⟨gw, 3, none⟩ = some (.slice A1 xs.length c1) := (blk_cell HW.out.blk 3).trans rfl
      have hf3 := blk_frozen HW.out.blk 3
      obtain ⟨b, hb⟩ : ∃ b, hasH xs a = b := ⟨_, rfl⟩
      have HHB := Aside0.mk hb
      clear hb
      have HST := Aside0.mk (standsH HXS.out a)
      cases b with
      | true =>
        have hpos : posH xs a < xs.length := by have h1 := atH_has HXS.out a; rw [HHB.out] at h1; simp only [Bool.and_eq_true, decide_eq_true_eq] at h1; exact h1.1
        have HPOS := Aside0.mk hpos
        clear hpos
        go_upto_region 5 with (first | (go_at_call 34; (with_reducible refine (placeH_w HXS.out HHB.out HXN.out A1 c1 wr (Kd.R_reads' HW.out.S).2.2 (Kd.R_reads' HW.out.S).2.1).mono ?_); rintro e w2 ⟨rfl, hB⟩; have HW2 := Aside0.mk (HW.out.below hB); have HF2 := Aside0.mk (HF.out.trans (Fr.of_below hB)); clear HW HF hw3 hf3 hB hx0; have hw3 : w2.cell? ⟨gw, 3, none⟩ = some (.slice A1 xs.length c1) := (blk_cell HW2.out.blk 3).trans rfl; have hf3 := blk_frozen HW2.out.blk 3))
        obtain ⟨g, cap, ev_, hgb, _, _⟩ := Kd.R_form HW2.out.S (show 0 < xs.length by have := HPOS.out; omega)
        simp only [Value.slice.injEq, true_and] at ev_
        obtain ⟨rfl, rfl⟩ := ev_
        obtain ⟨⟨y_, hy_⟩, hfy_⟩ := R49_cell HW2.out.S (posH xs a) HPOS.out
        have p3 : (0 : Int) ≤ ((posH xs a : Nat) : Int) := by omega
        have p4 : ((posH xs a : Nat) : Int) < (xs.length : Int) := by have := HPOS.out; omega
        replace p3 := eq_true p3
        replace p4 := eq_true p4
        have HEND := Aside0.mk (R49_store HW2.out.S (posH xs a) HPOS.out left)
        obtain ⟨q, hq⟩ : ∃ q, q = posH xs a := ⟨_, rfl⟩
        have HQ := Aside0.mk hq
        rw [← hq] at hy_ hfy_ p3 p4 HEND ⊢
        clear hq
        go_wp2
        go_roundg (l.length - (i + 1))
        case measure => omega
        case rel =>
          obtain ⟨hS2, hG2⟩ := HEND.out
          obtain ⟨hb2, hB2, hA2, hF2⟩ := HW2.out.overS (vS2 := .slice (some ⟨g, 0, none⟩) xs.length c1) hG2 hS2
          have hins : xs.set q ⟨(rd_T49 xs q).f0, left⟩ = insH xs ⟨a, left⟩ := by
            have h1 := atH_has HXS.out a
            rw [HHB.out, ← HQ.out] at h1
            simp only [Bool.and_eq_true, decide_eq_true_eq] at h1
            rw [h1.2]
            have h2 := insH_set HXS.out (s := ⟨a, left⟩) (x := rd_T49 xs q) (by rw [rd49 xs q h1.1]; exact List.getElem_mem h1.1) h1.2
            rw [← HQ.out] at h2
            exact h2
          refine ⟨i + 1, ?_, ⟨by omega, rfl⟩, ⟨.slice (some ⟨g, 0, none⟩) xs.length c1, ⟨?_⟩⟩, ⟨HF2.out.trans hF2⟩⟩
          · show Value.int .i64 (wrap64 ((i : Int) + 1)) = _
            have h1 := XN.out
            have h2 : wrap64 ((i : Int) + 1) = ((i + 1 : Nat) : Int) := by unfold wrap64; omega
            rw [h2]
          · rw [HKS.out, ← hins]
            exact ⟨hb2.trans HW2.out.blk, HW2.out.ge, hS2, hB2, hA2⟩
      | false =>
        go_wp2_with (first | (go_at_call 34; (with_reducible refine (placeH_w HXS.out HHB.out HXN.out A1 c1 wr (Kd.R_reads' HW.out.S).2.2 (Kd.R_reads' HW.out.S).2.1).mono ?_); rintro e w2 ⟨rfl, hB⟩; have HW2 := Aside0.mk (HW.out.below hB); have HF2 := Aside0.mk (HF.out.trans (Fr.of_below hB)); clear HW HF hw3 hf3 hB hx0; have hw3 : w2.cell? ⟨gw, 3, none⟩ = some (.slice A1 xs.length c1) := (blk_cell HW2.out.blk 3).trans rfl; have hf3 := blk_frozen HW2.out.blk 3) | (go_at_call 55; (with_reducible refine (insertH_w (x := ⟨a, left⟩) HW2.out.S (Nat.le_trans XB.out HF2.out.size) HXN.out (posH xs a) HST.out.1 rfl).mono ?_); rintro e w3 ⟨v3, rfl, hS3, hG3⟩; obtain ⟨A3, c3, e3_⟩ := Kd.R_slice hS3; subst e3_; have HS3 := Aside0.mk hS3; have HO3 := Aside0.mk (HW2.out.overS hG3 hS3); obtain ⟨n3, hn3⟩ : ∃ n, n = (xs.take (posH xs a) ++ [(⟨a, left⟩ : S49)] ++ xs.drop (posH xs a)).length := ⟨_, rfl⟩; rw [← hn3] at HS3 ⊢; clear hn3; have HK3 := Aside0.mk (show w3.heap[gw]? = _ from HO3.out.1.trans HW2.out.blk); clear hS3 hG3 hw3 hf3; have hw3 : w3.cell? ⟨gw, 3, none⟩ = some (.slice A1 xs.length c1) := (blk_cell HK3.out 3).trans rfl; have hf3 := blk_frozen HK3.out 3))
        go_roundg (l.length - (i + 1))
        case measure => omega
        case rel =>
          obtain ⟨_, hB3, hA3, hF3⟩ := HO3.out
          have hW3 : Wk base gw { m with srcs := xs } (.slice A1 xs.length c1) vB vA w2 := HW2.out
          have hins := insH_new HXS.out (s := ⟨a, left⟩) HHB.out
          refine ⟨i + 1, ?_, ⟨by omega, rfl⟩, ⟨.slice A3 n3 c3, ⟨?_⟩⟩, ⟨(HF2.out.trans hF3).trans (Fr.set 3 (.slice A3 n3 c3))⟩⟩
          · show Value.int .i64 (wrap64 ((i : Int) + 1)) = _
            have h1 := XN.out
            have h2 : wrap64 ((i : Int) + 1) = ((i + 1 : Nat) : Int) := by unfold wrap64; omega
            rw [h2]
          · rw [HKS.out, ← hins]
            exact ⟨blk_put (cs := #[.int .u32 m.g, .bool m.ex, .int .i64 m.left, .slice A1 xs.length c1, .int .i64 m.keep, .int .i64 m.last, vB, vA]) HK3.out 3 (.slice A3 n3 c3) rfl, HW2.out.ge, Kd.R_set HS3.out HK3.out (by decide) 3 _, Kd.R_set hB3 HK3.out (by decide) 3 _, Kd.R_set hA3 HK3.out (by decide) 3 _⟩
    · have c13 : decide ((i : Int) < (l.length : Int)) = false := decide_eq_false (by omega)
      have hie : i = l.length := by omega
      rw [hie, List.take_length] at HW
      clear hie hgk
      go_wp2
      go_end0
      exact ⟨rfl, ⟨_, HW.out⟩, HF.out⟩
end Go.Proofs.Ytbllchfgjginoaa
