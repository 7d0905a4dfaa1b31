/-
  memb.work: those sources whose time is such.
-/
import Derived.Test.YtbllchfgjginoaaMeV
import Derived.Test.YtbllchfgjginoaaPMe0
namespace Go.Proofs.Ytbllchfgjginoaa
open Go.RowKit Go.Lib Go.Proofs.YtbllchfgjginoaaW.PrintWords Go.Proofs.YtbllchfgjginoaaW.PrintLast Go.Proofs.YtbllchfgjginoaaW.PrintMore Go.Proofs.Ytbllchfgjginoaa.PMe
set_option linter.unusedVariables false
set_option linter.unusedSimpArgs false
set_option maxHeartbeats 8000000 in
set_option maxRecDepth 100000 in
theorem all1_w {x : Int} {b : Bool} (h : (fun _ => true) x = b) (w : World) : Calls Try.prog 61 #[.int .i64 x] w fun e w' => e = .returned (.bool b) ∧ Below w.heap.size w w' := by
  subst h
  have HB := Aside0.mk (Below.refl w.heap.size w)
  go_enter Try.func61, Try.ntmps61
  go_wp2
  go_ret
  exact ⟨rfl, HB.out⟩
set_option maxHeartbeats 8000000 in
set_option maxRecDepth 100000 in
theorem those_all {base gw : Nat} {m : WM} {vS vB vA : Value} {w : World} (h : Wk base gw m vS vB vA w) (hn : m.srcs.length ≤ 1000000) :
    Calls Try.prog 60 #[.pointer (some ⟨gw, 0, none⟩), .func (.func 61) #[] #[]] w fun e w' => ∃ v, e = .returned v ∧ RA w' w.heap.size v (thoseS (fun _ => true) m.srcs) ∧ Below w.heap.size w w' := by
  have hu49 := Try.underlying49
  have hu73 := Try.underlying73
  have hu28 := Try.underlying28
  obtain ⟨A, c, rfl⟩ := Kd.R_slice h.S
  have HC := Aside0.mk (Kd.R_reads' h.S).2.2
  have HB := Aside0.mk (Below.refl w.heap.size w)
  have hw3 : w.cell? ⟨gw, 3, none⟩ = some (.slice A m.srcs.length c) := (blk_cell h.blk 3).trans rfl
  have XN := Aside0.mk hn
  clear h hn
  go_enter Try.func60, Try.ntmps60
  go_wp2
  clear hw3
  go_loopg [5, 14] m.srcs.length (fun gk v5 v14 w' => ∃ i : Nat, v14 = .int .i64 (i : Int) ∧ Aside0 (i ≤ m.srcs.length ∧ gk = m.srcs.length - i) ∧ Aside0 (RA w' w.heap.size v5 (thoseS (fun _ => true) (m.srcs.take i))) ∧ Aside0 (Below w.heap.size w w'))
  case atStart => exact ⟨0, rfl, ⟨Nat.zero_le _, by omega⟩, ⟨Kd.R_nil _ _ _ _ _⟩, HB⟩
  case round =>
    clear HB
    obtain ⟨i, rfl, HI, HR, HB⟩ := hrel
    obtain ⟨hi, hgk⟩ := HI.out
    by_cases hlt : i < m.srcs.length
    · have c15 : decide ((i : Int) < (m.srcs.length : Int)) = true := decide_eq_true (by omega)
      have p1 : (0 : Int) ≤ (i : Int) := by omega
      have p2 : (i : Int) < (m.srcs.length : Int) := by omega
      obtain ⟨ad, he, hx0, hx1⟩ := at_T49 (Kd.C_below HC.out HB.out) (i : Int) p1 p2
      subst he
      rw [Int.toNat_natCast] at hx0 hx1
      obtain ⟨x, hx⟩ : ∃ x, x = rd_T49 m.srcs (i : Int) := ⟨_, rfl⟩
      have HTS := Aside0.mk (those_succ (fun _ => true) hlt)
      rw [← hx] at hx0 hx1 HTS
      clear hx
      replace p1 := eq_true p1
      replace p2 := eq_true p2
      go_upto_region 5 with (first | ((with_reducible refine gate_dst (N := 7) rfl ?_); (try (refine gate_guard (by rfl) ?_; dsimp only)); refine box_event ?hg (N := 7) ?hd (cs := #[.int .u32 0, .int .i64 0]) (t := 49) ?hr ?_; (case hd => rfl); (case hg => rfl); (case hr => first | (go_simp; done) | (go_simp; rfl)); intro gx hg w11_ hbox hB0; have hG := Aside0.mk (show wr.heap.size ≤ gx from Nat.le_of_eq hg.symm); clear hg; have hBX := Aside0.mk hbox; have hB1 := Aside0.mk hB0; clear hB0; have hc_gx_0 : w11_.cell? ⟨gx, 0, none⟩ = some (.int .u32 0) := (blk_cell hbox 0).trans rfl; have hf_gx_0 := blk_frozen hbox 0; have hc_gx_1 : w11_.cell? ⟨gx, 1, none⟩ = some (.int .i64 0) := (blk_cell hbox 1).trans rfl; have hf_gx_1 := blk_frozen hbox 1; clear hbox))
      have hB : Below wr.heap.size wr ((w11_.setCell ⟨gx, 0, none⟩ (.int .u32 x.f0)).setCell ⟨gx, 1, none⟩ (.int .i64 x.f1)) := (below_set (below_set hB1.out hG.out) hG.out)
      have hBN : ((w11_.setCell ⟨gx, 0, none⟩ (.int .u32 x.f0)).setCell ⟨gx, 1, none⟩ (.int .i64 x.f1)).heap[gx]? = some (.cells #[.int .u32 x.f0, .int .i64 x.f1] 49 (0, 0)) := (blk_put (cs := #[.int .u32 x.f0, .int .i64 0]) (blk_put (cs := #[.int .u32 0, .int .i64 0]) hBX.out 0 (.int .u32 x.f0) rfl) 1 (.int .i64 x.f1) rfl)
      clear hBX hB1
      clear hc_gx_0 hf_gx_0 hc_gx_1 hf_gx_1
      generalize ((w11_.setCell ⟨gx, 0, none⟩ (.int .u32 x.f0)).setCell ⟨gx, 1, none⟩ (.int .i64 x.f1)) = w12_ at hB hBN ⊢
      have HBo := Aside0.mk HB.out
      have nHB := Aside0.mk (HB.out.trans (hB.mono HB.out.size))
      clear HB
      have HB := nHB
      clear nHB
      have nHR := Aside0.mk (Kd.R_below HR.out hB)
      clear HR
      have HR := nHR
      clear nHR
      have BK_gx := Aside0.mk hBN
      have GE_gx := Aside0.mk (Nat.le_trans HBo.out.size hG.out)
      clear HBo hG hBN hB
      have hc_gx_0 : w12_.cell? ⟨gx, 0, none⟩ = some (.int .u32 x.f0) := (blk_cell BK_gx.out 0).trans rfl
      have hf_gx_0 := blk_frozen BK_gx.out 0
      have hc_gx_1 : w12_.cell? ⟨gx, 1, none⟩ = some (.int .i64 x.f1) := (blk_cell BK_gx.out 1).trans rfl
      have hf_gx_1 := blk_frozen BK_gx.out 1
      clear hx0 hx1
      obtain ⟨b, hb⟩ : ∃ b, b = (fun _ => true) x.f1 := ⟨_, rfl⟩
      have XBB := Aside0.mk hb.symm
      clear hb
      cases b with
      | false =>
        exact absurd (show true = false from XBB.out) (by decide)
      | true =>
        go_wp2_with (first | (go_at_call 61; with_reducible refine (all1_w XBB.out _).mono ?_; rintro e w13_ ⟨rfl, hB⟩; have nHB := Aside0.mk (HB.out.trans (hB.mono HB.out.size)); clear HB; have HB := nHB; clear nHB; clear hc_gx_0 hf_gx_0 hc_gx_1 hf_gx_1; have nBK := Aside0.mk (blk_below (g := gx) (o := .cells #[.int .u32 x.f0, .int .i64 x.f1] 49 (0, 0)) BK_gx.out hB); clear BK_gx; have BK_gx := nBK; clear nBK; have hc_gx_0 : w13_.cell? ⟨gx, 0, none⟩ = some (.int .u32 x.f0) := (blk_cell BK_gx.out 0).trans rfl; have hf_gx_0 := blk_frozen BK_gx.out 0; have hc_gx_1 : w13_.cell? ⟨gx, 1, none⟩ = some (.int .i64 x.f1) := (blk_cell BK_gx.out 1).trans rfl; have hf_gx_1 := blk_frozen BK_gx.out 1; have nHR := Aside0.mk (Kd.R_below HR.out hB); clear HR; have HR := nHR; clear nHR; clear hB) | ((with_reducible refine gate_builtin (b := .append) (xs := #[.tmp 22, .tmp 25]) rfl ?_); at_builtin; refine Kd.R_append (Kd.int .u32) (w0 := w) w.heap.size rfl (.tmp 22) (.tmp 25) 29 25 (.int .u32 0) 4 rfl Try.underlying29 info25 rfl (by decide) (by decide) u5 (thoseS (fun _ => true) (m.srcs.take i)) x.f0 [.int .u32 x.f0] (fun _ => True) (fun _ => False) rfl rfl rfl (fun _ hk => hk.elim) (fun _ _ => trivial) HR.out HB.out HB.out.size (by have h1 := XN.out; have h2 := those_len (fun _ => true) (m.srcs.take i); rw [List.length_take] at h2; omega) ?_; intro v_n w14_ hR2 hB2 _ _; clear HR HB; have HR := Aside0.mk hR2; have HB := Aside0.mk hB2; clear hR2 hB2 hc_gx_0 hf_gx_0 hc_gx_1 hf_gx_1 BK_gx))
        go_roundg (m.srcs.length - (i + 1))
        case measure => omega
        case rel =>
          refine ⟨i + 1, ?_, ⟨by omega, rfl⟩, ⟨?_⟩, HB⟩
          · show Value.int .i64 (wrap64 ((i : Int) + 1)) = _
            have h1 := XN.out
            have h2 : wrap64 ((i : Int) + 1) = ((i + 1 : Nat) : Int) := by unfold wrap64; omega
            rw [h2]
          · have h1 := HR.out
            rw [HTS.out, if_pos XBB.out]
            exact h1
    · have c15 : decide ((i : Int) < (m.srcs.length : Int)) = false := decide_eq_false (by omega)
      have hie : i = m.srcs.length := by omega
      have HR2 := Aside0.mk (show RA wr w.heap.size u5 (thoseS (fun _ => true) m.srcs) by have h1 := HR.out; rw [hie, List.take_length] at h1; exact h1)
      clear hie hgk
      go_wp2
      go_ret
      exact ⟨_, rfl, HR2.out, HB.out⟩
set_option maxHeartbeats 8000000 in
set_option maxRecDepth 100000 in
theorem all_w {base gw : Nat} {m : WM} {vS vB vA : Value} {w : World} (h : Wk base gw m vS vB vA w) (hn : m.srcs.length ≤ 1000000) :
    Calls Try.prog 39 #[.pointer (some ⟨gw, 0, none⟩)] w fun e w' => ∃ v, e = .returned v ∧ RA w' w.heap.size v (thoseS (fun _ => true) m.srcs) ∧ Below w.heap.size w w' := by
  have H := Aside0.mk (those_all h hn)
  clear h hn
  go_enter Try.func39, Try.ntmps39
  go_wp2_with (first | (go_at_call 60; (with_reducible refine H.out.mono ?_); rintro e w1 ⟨v, rfl, hR, hB⟩; have HR := Aside0.mk hR; have HB := Aside0.mk hB; clear hR hB))
  go_ret
  exact ⟨_, rfl, HR.out, HB.out⟩
set_option maxHeartbeats 8000000 in
set_option maxRecDepth 100000 in
theorem x1_w {x : Int} {b : Bool} (h : (fun t => decide (0 < t)) x = b) (w : World) : Calls Try.prog 64 #[.int .i64 x] w fun e w' => e = .returned (.bool b) ∧ Below w.heap.size w w' := by
  subst h
  have HB := Aside0.mk (Below.refl w.heap.size w)
  go_enter Try.func64, Try.ntmps64
  go_wp2
  go_ret
  exact ⟨rfl, HB.out⟩
set_option maxHeartbeats 8000000 in
set_option maxRecDepth 100000 in
theorem those_x {base gw : Nat} {m : WM} {vS vB vA : Value} {w : World} (h : Wk base gw m vS vB vA w) (hn : m.srcs.length ≤ 1000000) :
    Calls Try.prog 60 #[.pointer (some ⟨gw, 0, none⟩), .func (.func 64) #[] #[]] w fun e w' => ∃ v, e = .returned v ∧ RA w' w.heap.size v (thoseS (fun t => decide (0 < t)) m.srcs) ∧ Below w.heap.size w w' := by
  have hu49 := Try.underlying49
  have hu73 := Try.underlying73
  have hu28 := Try.underlying28
  obtain ⟨A, c, rfl⟩ := Kd.R_slice h.S
  have HC := Aside0.mk (Kd.R_reads' h.S).2.2
  have HB := Aside0.mk (Below.refl w.heap.size w)
  have hw3 : w.cell? ⟨gw, 3, none⟩ = some (.slice A m.srcs.length c) := (blk_cell h.blk 3).trans rfl
  have XN := Aside0.mk hn
  clear h hn
  go_enter Try.func60, Try.ntmps60
  go_wp2
  clear hw3
  go_loopg [5, 14] m.srcs.length (fun gk v5 v14 w' => ∃ i : Nat, v14 = .int .i64 (i : Int) ∧ Aside0 (i ≤ m.srcs.length ∧ gk = m.srcs.length - i) ∧ Aside0 (RA w' w.heap.size v5 (thoseS (fun t => decide (0 < t)) (m.srcs.take i))) ∧ Aside0 (Below w.heap.size w w'))
  case atStart => exact ⟨0, rfl, ⟨Nat.zero_le _, by omega⟩, ⟨Kd.R_nil _ _ _ _ _⟩, HB⟩
  case round =>
    clear HB
    obtain ⟨i, rfl, HI, HR, HB⟩ := hrel
    obtain ⟨hi, hgk⟩ := HI.out
    by_cases hlt : i < m.srcs.length
    · have c15 : decide ((i : Int) < (m.srcs.length : Int)) = true := decide_eq_true (by omega)
      have p1 : (0 : Int) ≤ (i : Int) := by omega
      have p2 : (i : Int) < (m.srcs.length : Int) := by omega
      obtain ⟨ad, he, hx0, hx1⟩ := at_T49 (Kd.C_below HC.out HB.out) (i : Int) p1 p2
      subst he
      rw [Int.toNat_natCast] at hx0 hx1
      obtain ⟨x, hx⟩ : ∃ x, x = rd_T49 m.srcs (i : Int) := ⟨_, rfl⟩
      have HTS := Aside0.mk (those_succ (fun t => decide (0 < t)) hlt)
      rw [← hx] at hx0 hx1 HTS
      clear hx
      replace p1 := eq_true p1
      replace p2 := eq_true p2
      go_upto_region 5 with (first | ((with_reducible refine gate_dst (N := 7) rfl ?_); (try (refine gate_guard (by rfl) ?_; dsimp only)); refine box_event ?hg (N := 7) ?hd (cs := #[.int .u32 0, .int .i64 0]) (t := 49) ?hr ?_; (case hd => rfl); (case hg => rfl); (case hr => first | (go_simp; done) | (go_simp; rfl)); intro gx hg w11_ hbox hB0; have hG := Aside0.mk (show wr.heap.size ≤ gx from Nat.le_of_eq hg.symm); clear hg; have hBX := Aside0.mk hbox; have hB1 := Aside0.mk hB0; clear hB0; have hc_gx_0 : w11_.cell? ⟨gx, 0, none⟩ = some (.int .u32 0) := (blk_cell hbox 0).trans rfl; have hf_gx_0 := blk_frozen hbox 0; have hc_gx_1 : w11_.cell? ⟨gx, 1, none⟩ = some (.int .i64 0) := (blk_cell hbox 1).trans rfl; have hf_gx_1 := blk_frozen hbox 1; clear hbox))
      have hB : Below wr.heap.size wr ((w11_.setCell ⟨gx, 0, none⟩ (.int .u32 x.f0)).setCell ⟨gx, 1, none⟩ (.int .i64 x.f1)) := (below_set (below_set hB1.out hG.out) hG.out)
      have hBN : ((w11_.setCell ⟨gx, 0, none⟩ (.int .u32 x.f0)).setCell ⟨gx, 1, none⟩ (.int .i64 x.f1)).heap[gx]? = some (.cells #[.int .u32 x.f0, .int .i64 x.f1] 49 (0, 0)) := (blk_put (cs := #[.int .u32 x.f0, .int .i64 0]) (blk_put (cs := #[.int .u32 0, .int .i64 0]) hBX.out 0 (.int .u32 x.f0) rfl) 1 (.int .i64 x.f1) rfl)
      clear hBX hB1
      clear hc_gx_0 hf_gx_0 hc_gx_1 hf_gx_1
      generalize ((w11_.setCell ⟨gx, 0, none⟩ (.int .u32 x.f0)).setCell ⟨gx, 1, none⟩ (.int .i64 x.f1)) = w12_ at hB hBN ⊢
      have HBo := Aside0.mk HB.out
      have nHB := Aside0.mk (HB.out.trans (hB.mono HB.out.size))
      clear HB
      have HB := nHB
      clear nHB
      have nHR := Aside0.mk (Kd.R_below HR.out hB)
      clear HR
      have HR := nHR
      clear nHR
      have BK_gx := Aside0.mk hBN
      have GE_gx := Aside0.mk (Nat.le_trans HBo.out.size hG.out)
      clear HBo hG hBN hB
      have hc_gx_0 : w12_.cell? ⟨gx, 0, none⟩ = some (.int .u32 x.f0) := (blk_cell BK_gx.out 0).trans rfl
      have hf_gx_0 := blk_frozen BK_gx.out 0
      have hc_gx_1 : w12_.cell? ⟨gx, 1, none⟩ = some (.int .i64 x.f1) := (blk_cell BK_gx.out 1).trans rfl
      have hf_gx_1 := blk_frozen BK_gx.out 1
      clear hx0 hx1
      obtain ⟨b, hb⟩ : ∃ b, b = (fun t => decide (0 < t)) x.f1 := ⟨_, rfl⟩
      have XBB := Aside0.mk hb.symm
      clear hb
      cases b with
      | false =>
        go_wp2_with (first | (go_at_call 64; with_reducible refine (x1_w XBB.out _).mono ?_; rintro e w13_ ⟨rfl, hB⟩; have nHB := Aside0.mk (HB.out.trans (hB.mono HB.out.size)); clear HB; have HB := nHB; clear nHB; clear hc_gx_0 hf_gx_0 hc_gx_1 hf_gx_1; have nBK := Aside0.mk (blk_below (g := gx) (o := .cells #[.int .u32 x.f0, .int .i64 x.f1] 49 (0, 0)) BK_gx.out hB); clear BK_gx; have BK_gx := nBK; clear nBK; have hc_gx_0 : w13_.cell? ⟨gx, 0, none⟩ = some (.int .u32 x.f0) := (blk_cell BK_gx.out 0).trans rfl; have hf_gx_0 := blk_frozen BK_gx.out 0; have hc_gx_1 : w13_.cell? ⟨gx, 1, none⟩ = some (.int .i64 x.f1) := (blk_cell BK_gx.out 1).trans rfl; have hf_gx_1 := blk_frozen BK_gx.out 1; have nHR := Aside0.mk (Kd.R_below HR.out hB); clear HR; have HR := nHR; clear nHR; clear hB))
        go_roundg (m.srcs.length - (i + 1))
        case measure => omega
        case rel =>
          refine ⟨i + 1, ?_, ⟨by omega, rfl⟩, ⟨?_⟩, HB⟩
          · show Value.int .i64 (wrap64 ((i : Int) + 1)) = _
            have h1 := XN.out
            have h2 : wrap64 ((i : Int) + 1) = ((i + 1 : Nat) : Int) := by unfold wrap64; omega
            rw [h2]
          · have h1 := HR.out
            rw [HTS.out, if_neg (by rw [XBB.out]; decide)]
            exact h1
      | true =>
        go_wp2_with (first | (go_at_call 64; with_reducible refine (x1_w XBB.out _).mono ?_; rintro e w13_ ⟨rfl, hB⟩; have nHB := Aside0.mk (HB.out.trans (hB.mono HB.out.size)); clear HB; have HB := nHB; clear nHB; clear hc_gx_0 hf_gx_0 hc_gx_1 hf_gx_1; have nBK := Aside0.mk (blk_below (g := gx) (o := .cells #[.int .u32 x.f0, .int .i64 x.f1] 49 (0, 0)) BK_gx.out hB); clear BK_gx; have BK_gx := nBK; clear nBK; have hc_gx_0 : w13_.cell? ⟨gx, 0, none⟩ = some (.int .u32 x.f0) := (blk_cell BK_gx.out 0).trans rfl; have hf_gx_0 := blk_frozen BK_gx.out 0; have hc_gx_1 : w13_.cell? ⟨gx, 1, none⟩ = some (.int .i64 x.f1) := (blk_cell BK_gx.out 1).trans rfl; have hf_gx_1 := blk_frozen BK_gx.out 1; have nHR := Aside0.mk (Kd.R_below HR.out hB); clear HR; have HR := nHR; clear nHR; clear hB) | ((with_reducible refine gate_builtin (b := .append) (xs := #[.tmp 22, .tmp 25]) rfl ?_); at_builtin; refine Kd.R_append (Kd.int .u32) (w0 := w) w.heap.size rfl (.tmp 22) (.tmp 25) 29 25 (.int .u32 0) 4 rfl Try.underlying29 info25 rfl (by decide) (by decide) u5 (thoseS (fun t => decide (0 < t)) (m.srcs.take i)) x.f0 [.int .u32 x.f0] (fun _ => True) (fun _ => False) rfl rfl rfl (fun _ hk => hk.elim) (fun _ _ => trivial) HR.out HB.out HB.out.size (by have h1 := XN.out; have h2 := those_len (fun t => decide (0 < t)) (m.srcs.take i); rw [List.length_take] at h2; omega) ?_; intro v_n w14_ hR2 hB2 _ _; clear HR HB; have HR := Aside0.mk hR2; have HB := Aside0.mk hB2; clear hR2 hB2 hc_gx_0 hf_gx_0 hc_gx_1 hf_gx_1 BK_gx))
        go_roundg (m.srcs.length - (i + 1))
        case measure => omega
        case rel =>
          refine ⟨i + 1, ?_, ⟨by omega, rfl⟩, ⟨?_⟩, HB⟩
          · show Value.int .i64 (wrap64 ((i : Int) + 1)) = _
            have h1 := XN.out
            have h2 : wrap64 ((i : Int) + 1) = ((i + 1 : Nat) : Int) := by unfold wrap64; omega
            rw [h2]
          · have h1 := HR.out
            rw [HTS.out, if_pos XBB.out]
            exact h1
    · have c15 : decide ((i : Int) < (m.srcs.length : Int)) = false := decide_eq_false (by omega)
      have hie : i = m.srcs.length := by omega
      have HR2 := Aside0.mk (show RA wr w.heap.size u5 (thoseS (fun t => decide (0 < t)) m.srcs) by have h1 := HR.out; rw [hie, List.take_length] at h1; exact h1)
      clear hie hgk
      go_wp2
      go_ret
      exact ⟨_, rfl, HR2.out, HB.out⟩
set_option maxHeartbeats 8000000 in
set_option maxRecDepth 100000 in
theorem x_w {base gw : Nat} {m : WM} {vS vB vA : Value} {w : World} (h : Wk base gw m vS vB vA w) (hn : m.srcs.length ≤ 1000000) :
    Calls Try.prog 42 #[.pointer (some ⟨gw, 0, none⟩)] w fun e w' => ∃ v, e = .returned v ∧ RA w' w.heap.size v (thoseS (fun t => decide (0 < t)) m.srcs) ∧ Below w.heap.size w w' := by
  have H := Aside0.mk (those_x h hn)
  clear h hn
  go_enter Try.func42, Try.ntmps42
  go_wp2_with (first | (go_at_call 60; (with_reducible refine H.out.mono ?_); rintro e w1 ⟨v, rfl, hR, hB⟩; have HR := Aside0.mk hR; have HB := Aside0.mk hB; clear hR hB))
  go_ret
  exact ⟨_, rfl, HR.out, HB.out⟩
set_option maxHeartbeats 8000000 in
set_option maxRecDepth 100000 in
theorem y1_w {x : Int} {b : Bool} (h : (fun t => t == 0) x = b) (w : World) : Calls Try.prog 62 #[.int .i64 x] w fun e w' => e = .returned (.bool b) ∧ Below w.heap.size w w' := by
  subst h
  have HB := Aside0.mk (Below.refl w.heap.size w)
  go_enter Try.func62, Try.ntmps62
  go_wp2
  go_ret
  exact ⟨rfl, HB.out⟩
set_option maxHeartbeats 8000000 in
set_option maxRecDepth 100000 in
theorem those_y {base gw : Nat} {m : WM} {vS vB vA : Value} {w : World} (h : Wk base gw m vS vB vA w) (hn : m.srcs.length ≤ 1000000) :
    Calls Try.prog 60 #[.pointer (some ⟨gw, 0, none⟩), .func (.func 62) #[] #[]] w fun e w' => ∃ v, e = .returned v ∧ RA w' w.heap.size v (thoseS (fun t => t == 0) m.srcs) ∧ Below w.heap.size w w' := by
  have hu49 := Try.underlying49
  have hu73 := Try.underlying73
  have hu28 := Try.underlying28
  obtain ⟨A, c, rfl⟩ := Kd.R_slice h.S
  have HC := Aside0.mk (Kd.R_reads' h.S).2.2
  have HB := Aside0.mk (Below.refl w.heap.size w)
  have hw3 : w.cell? ⟨gw, 3, none⟩ = some (.slice A m.srcs.length c) := (blk_cell h.blk 3).trans rfl
  have XN := Aside0.mk hn
  clear h hn
  go_enter Try.func60, Try.ntmps60
  go_wp2
  clear hw3
  go_loopg [5, 14] m.srcs.length (fun gk v5 v14 w' => ∃ i : Nat, v14 = .int .i64 (i : Int) ∧ Aside0 (i ≤ m.srcs.length ∧ gk = m.srcs.length - i) ∧ Aside0 (RA w' w.heap.size v5 (thoseS (fun t => t == 0) (m.srcs.take i))) ∧ Aside0 (Below w.heap.size w w'))
  case atStart => exact ⟨0, rfl, ⟨Nat.zero_le _, by omega⟩, ⟨Kd.R_nil _ _ _ _ _⟩, HB⟩
  case round =>
    clear HB
    obtain ⟨i, rfl, HI, HR, HB⟩ := hrel
    obtain ⟨hi, hgk⟩ := HI.out
    by_cases hlt : i < m.srcs.length
    · have c15 : decide ((i : Int) < (m.srcs.length : Int)) = true := decide_eq_true (by omega)
      have p1 : (0 : Int) ≤ (i : Int) := by omega
      have p2 : (i : Int) < (m.srcs.length : Int) := by omega
      obtain ⟨ad, he, hx0, hx1⟩ := at_T49 (Kd.C_below HC.out HB.out) (i : Int) p1 p2
      subst he
      rw [Int.toNat_natCast] at hx0 hx1
      obtain ⟨x, hx⟩ : ∃ x, x = rd_T49 m.srcs (i : Int) := ⟨_, rfl⟩
      have HTS := Aside0.mk (those_succ (fun t => t == 0) hlt)
      rw [← hx] at hx0 hx1 HTS
      clear hx
      replace p1 := eq_true p1
      replace p2 := eq_true p2
      go_upto_region 5 with (first | ((with_reducible refine gate_dst (N := 7) rfl ?_); (try (refine gate_guard (by rfl) ?_; dsimp only)); refine box_event ?hg (N := 7) ?hd (cs := #[.int .u32 0, .int .i64 0]) (t := 49) ?hr ?_; (case hd => rfl); (case hg => rfl); (case hr => first | (go_simp; done) | (go_simp; rfl)); intro gx hg w11_ hbox hB0; have hG := Aside0.mk (show wr.heap.size ≤ gx from Nat.le_of_eq hg.symm); clear hg; have hBX := Aside0.mk hbox; have hB1 := Aside0.mk hB0; clear hB0; have hc_gx_0 : w11_.cell? ⟨gx, 0, none⟩ = some (.int .u32 0) := (blk_cell hbox 0).trans rfl; have hf_gx_0 := blk_frozen hbox 0; have hc_gx_1 : w11_.cell? ⟨gx, 1, none⟩ = some (.int .i64 0) := (blk_cell hbox 1).trans rfl; have hf_gx_1 := blk_frozen hbox 1; clear hbox))
      have hB : Below wr.heap.size wr ((w11_.setCell ⟨gx, 0, none⟩ (.int .u32 x.f0)).setCell ⟨gx, 1, none⟩ (.int .i64 x.f1)) := (below_set (below_set hB1.out hG.out) hG.out)
      have hBN : ((w11_.setCell ⟨gx, 0, none⟩ (.int .u32 x.f0)).setCell ⟨gx, 1, none⟩ (.int .i64 x.f1)).heap[gx]? = some (.cells #[.int .u32 x.f0, .int .i64 x.f1] 49 (0, 0)) := (blk_put (cs := #[.int .u32 x.f0, .int .i64 0]) (blk_put (cs := #[.int .u32 0, .int .i64 0]) hBX.out 0 (.int .u32 x.f0) rfl) 1 (.int .i64 x.f1) rfl)
      clear hBX hB1
      clear hc_gx_0 hf_gx_0 hc_gx_1 hf_gx_1
      generalize ((w11_.setCell ⟨gx, 0, none⟩ (.int .u32 x.f0)).setCell ⟨gx, 1, none⟩ (.int .i64 x.f1)) = w12_ at hB hBN ⊢
      have HBo := Aside0.mk HB.out
      have nHB := Aside0.mk (HB.out.trans (hB.mono HB.out.size))
      clear HB
      have HB := nHB
      clear nHB
      have nHR := Aside0.mk (Kd.R_below HR.out hB)
      clear HR
      have HR := nHR
      clear nHR
      have BK_gx := Aside0.mk hBN
      have GE_gx := Aside0.mk (Nat.le_trans HBo.out.size hG.out)
      clear HBo hG hBN hB
      have hc_gx_0 : w12_.cell? ⟨gx, 0, none⟩ = some (.int .u32 x.f0) := (blk_cell BK_gx.out 0).trans rfl
      have hf_gx_0 := blk_frozen BK_gx.out 0
      have hc_gx_1 : w12_.cell? ⟨gx, 1, none⟩ = some (.int .i64 x.f1) := (blk_cell BK_gx.out 1).trans rfl
      have hf_gx_1 := blk_frozen BK_gx.out 1
      clear hx0 hx1
      obtain ⟨b, hb⟩ : ∃ b, b = (fun t => t == 0) x.f1 := ⟨_, rfl⟩
      have XBB := Aside0.mk hb.symm
      clear hb
      cases b with
      | false =>
        go_wp2_with (first | (go_at_call 62; with_reducible refine (y1_w XBB.out _).mono ?_; rintro e w13_ ⟨rfl, hB⟩; have nHB := Aside0.mk (HB.out.trans (hB.mono HB.out.size)); clear HB; have HB := nHB; clear nHB; clear hc_gx_0 hf_gx_0 hc_gx_1 hf_gx_1; have nBK := Aside0.mk (blk_below (g := gx) (o := .cells #[.int .u32 x.f0, .int .i64 x.f1] 49 (0, 0)) BK_gx.out hB); clear BK_gx; have BK_gx := nBK; clear nBK; have hc_gx_0 : w13_.cell? ⟨gx, 0, none⟩ = some (.int .u32 x.f0) := (blk_cell BK_gx.out 0).trans rfl; have hf_gx_0 := blk_frozen BK_gx.out 0; have hc_gx_1 : w13_.cell? ⟨gx, 1, none⟩ = some (.int .i64 x.f1) := (blk_cell BK_gx.out 1).trans rfl; have hf_gx_1 := blk_frozen BK_gx.out 1; have nHR := Aside0.mk (Kd.R_below HR.out hB); clear HR; have HR := nHR; clear nHR; clear hB))
        go_roundg (m.srcs.length - (i + 1))
        case measure => omega
        case rel =>
          refine ⟨i + 1, ?_, ⟨by omega, rfl⟩, ⟨?_⟩, HB⟩
          · show Value.int .i64 (wrap64 ((i : Int) + 1)) = _
            have h1 := XN.out
            have h2 : wrap64 ((i : Int) + 1) = ((i + 1 : Nat) : Int) := by unfold wrap64; omega
            rw [h2]
          · have h1 := HR.out
            rw [HTS.out, if_neg (by rw [XBB.out]; decide)]
            exact h1
      | true =>
        go_wp2_with (first | (go_at_call 62; with_reducible refine (y1_w XBB.out _).mono ?_; rintro e w13_ ⟨rfl, hB⟩; have nHB := Aside0.mk (HB.out.trans (hB.mono HB.out.size)); clear HB; have HB := nHB; clear nHB; clear hc_gx_0 hf_gx_0 hc_gx_1 hf_gx_1; have nBK := Aside0.mk (blk_below (g := gx) (o := .cells #[.int .u32 x.f0, .int .i64 x.f1] 49 (0, 0)) BK_gx.out hB); clear BK_gx; have BK_gx := nBK; clear nBK; have hc_gx_0 : w13_.cell? ⟨gx, 0, none⟩ = some (.int .u32 x.f0) := (blk_cell BK_gx.out 0).trans rfl; have hf_gx_0 := blk_frozen BK_gx.out 0; have hc_gx_1 : w13_.cell? ⟨gx, 1, none⟩ = some (.int .i64 x.f1) := (blk_cell BK_gx.out 1).trans rfl; have hf_gx_1 := blk_frozen BK_gx.out 1; have nHR := Aside0.mk (Kd.R_below HR.out hB); clear HR; have HR := nHR; clear nHR; clear hB) | ((with_reducible refine gate_builtin (b := .append) (xs := #[.tmp 22, .tmp 25]) rfl ?_); at_builtin; refine Kd.R_append (Kd.int .u32) (w0 := w) w.heap.size rfl (.tmp 22) (.tmp 25) 29 25 (.int .u32 0) 4 rfl Try.underlying29 info25 rfl (by decide) (by decide) u5 (thoseS (fun t => t == 0) (m.srcs.take i)) x.f0 [.int .u32 x.f0] (fun _ => True) (fun _ => False) rfl rfl rfl (fun _ hk => hk.elim) (fun _ _ => trivial) HR.out HB.out HB.out.size (by have h1 := XN.out; have h2 := those_len (fun t => t == 0) (m.srcs.take i); rw [List.length_take] at h2; omega) ?_; intro v_n w14_ hR2 hB2 _ _; clear HR HB; have HR := Aside0.mk hR2; have HB := Aside0.mk hB2; clear hR2 hB2 hc_gx_0 hf_gx_0 hc_gx_1 hf_gx_1 BK_gx))
        go_roundg (m.srcs.length - (i + 1))
        case measure => omega
        case rel =>
          refine ⟨i + 1, ?_, ⟨by omega, rfl⟩, ⟨?_⟩, HB⟩
          · show Value.int .i64 (wrap64 ((i : Int) + 1)) = _
            have h1 := XN.out
            have h2 : wrap64 ((i : Int) + 1) = ((i + 1 : Nat) : Int) := by unfold wrap64; omega
            rw [h2]
          · have h1 := HR.out
            rw [HTS.out, if_pos XBB.out]
            exact h1
    · have c15 : decide ((i : Int) < (m.srcs.length : Int)) = false := decide_eq_false (by omega)
      have hie : i = m.srcs.length := by omega
      have HR2 := Aside0.mk (show RA wr w.heap.size u5 (thoseS (fun t => t == 0) m.srcs) by have h1 := HR.out; rw [hie, List.take_length] at h1; exact h1)
      clear hie hgk
      go_wp2
      go_ret
      exact ⟨_, rfl, HR2.out, HB.out⟩
set_option maxHeartbeats 8000000 in
set_option maxRecDepth 100000 in
theorem y_w {base gw : Nat} {m : WM} {vS vB vA : Value} {w : World} (h : Wk base gw m vS vB vA w) (hn : m.srcs.length ≤ 1000000) :
    Calls Try.prog 40 #[.pointer (some ⟨gw, 0, none⟩)] w fun e w' => ∃ v, e = .returned v ∧ RA w' w.heap.size v (thoseS (fun t => t == 0) m.srcs) ∧ Below w.heap.size w w' := by
  have H := Aside0.mk (those_y h hn)
  clear h hn
  go_enter Try.func40, Try.ntmps40
  go_wp2_with (first | (go_at_call 60; (with_reducible refine H.out.mono ?_); rintro e w1 ⟨v, rfl, hR, hB⟩; have HR := Aside0.mk hR; have HB := Aside0.mk hB; clear hR hB))
  go_ret
  exact ⟨_, rfl, HR.out, HB.out⟩
end Go.Proofs.Ytbllchfgjginoaa
/-
  memb.work.keep: sources kept for a time.
-/
namespace Go.Proofs.Ytbllchfgjginoaa
open Go.RowKit Go.Lib Go.Proofs.YtbllchfgjginoaaW.PrintWords Go.Proofs.YtbllchfgjginoaaW.PrintLast Go.Proofs.YtbllchfgjginoaaW.PrintMore Go.Proofs.Ytbllchfgjginoaa.PMe
set_option linter.unusedVariables false
set_option linter.unusedSimpArgs false
theorem placeH_w {l : List S49} {a : Int} {b : Bool} (hs : SortH l) (hb : hasH l a = b) (hn : l.length ≤ 1000000) (A : Option Addr) (c : Nat) (w : World) (hr : Kd.C k49 w A l.length l) (hc : l.length ≤ c) :
    Calls Try.prog 34 #[.slice A l.length c, .int .u32 a] w fun e w' => e = .returned (.tuple #[.int .i64 (posH l a : Nat), .bool b]) ∧ Below w.heap.size w w' := by
  subst hb
  rw [← atH_has hs a]
  exact place_w (standsH hs a).1 (standsH hs a).2.1 (standsH hs a).2.2 hn A c w hr hc
theorem R49_cell {w : World} {base g n c : Nat} {xs : List S49} (h : Kd.R k49 49 w base (fun _ => True) (.slice (some ⟨g, 0, none⟩) n c) xs) (i : Nat) (hi : i < xs.length) : (∃ u, w.cell? ⟨g, i * 2 + 1, none⟩ = some u) ∧ w.frozen? ⟨g, i * 2 + 1, none⟩ = false := by
  obtain rfl := (Kd.R_reads' h).1
  obtain ⟨h0, inner, hown, hr⟩ := h
  have hl : inner.length = xs.length * 2 := hown.1
  exact ⟨⟨_, (hown.cellAt (i * 2 + 1) (show i * 2 + 1 < xs.length * 2 by omega)).trans (List.getElem?_eq_getElem (by omega))⟩, hown.frozenAt (i * 2 + 1)⟩
/-- insert, over a row of held sources. -/
theorem insertH_w {w : World} {base vb : Nat} {v : Value} {xs : List S49} {x : S49} (h : Kd.R k49 49 w base (fun _ => True) v xs) (hB : base ≤ w.heap.size) (hn : xs.length ≤ 1000000) (i : Nat) (hi : i ≤ xs.length) (hvb : vb = w.heap.size) :
    Calls Try.prog 55 #[v, .int .i64 i, .slice (some ⟨vb, 0, none⟩) 1 1] (w.alloc (.cells #[.int .u32 x.f0, .int .i64 x.f1] 49)) fun e w' => ∃ v', e = .returned v' ∧ Kd.R k49 49 w' base (fun _ => True) v' (xs.take i ++ [x] ++ xs.drop i) ∧ w.grownBy w' v.ownBlock := by
  subst hvb
  obtain ⟨h0, inner, hown, hr⟩ := h
  have hg := World.grownBy_alloc w (.cells #[.int .u32 x.f0, .int .i64 x.f1] 49) v.ownBlock
  have h1 : ∀ u ∈ inner, u.oneCell' = true := Kd.reps_one hr (by decide) (fun p c hp => k49.K_one (k49.K_of_M hp))
  refine (insert_w base v xs.length i w.heap.size 1 inner [.int .u32 x.f0, .int .i64 x.f1] #[.int .u32 x.f0, .int .i64 x.f1] _ (Nat.le_trans hB (World.grownBy_alloc w _ none).size) hn hi (hown.alloc _) h1 (heap_alloc_new _ _) rfl rfl (by simp [Value.oneCell']) (fun e => by have := (hown.lt _ e).2; omega)).mono ?_
  rintro e w' ⟨v', rfl, ho, hg2⟩
  have hlen : (xs.take i ++ [x] ++ xs.drop i).length = xs.length + 1 := by simp only [List.length_append, List.length_take, List.length_drop, List.length_cons, List.length_nil]; omega
  refine ⟨v', rfl, ⟨fun _ _ => trivial, inner.take (i * 2) ++ [.int .u32 x.f0, .int .i64 x.f1] ++ inner.drop (i * 2), by rw [hlen]; exact ho, ?_⟩, ⟨hg2.os.trans hg.os, hg2.tape.trans hg.tape, hg2.output.trans hg.output, Nat.le_trans hg.size hg2.size, fun k hk hne => (hg2.block k (Nat.lt_of_lt_of_le hk hg.size) hne).trans (hg.block k hk hne)⟩⟩
  have hM : ∀ {w2 : World} {ok ok2 : Nat → Prop} (p : S49) (c : List Value), k49.M w base ok p c → k49.M w2 base ok2 p c := fun p c hp => by rw [k49_openM hp]; exact k49_mkM _ _ _ _
  exact Kd.reps_append (Kd.reps_append (Kd.reps_take (size := 2) (Reps.imp_ hr (fun p c hp => hM p c hp)) hi) (Reps.c2 (k49_mkM _ _ _ _) (Reps.none _ _))) (Kd.reps_drop (size := 2) (Reps.imp_ hr (fun p c hp => hM p c hp)))
set_option maxHeartbeats 8000000 in
set_option maxRecDepth 100000 in
theorem keep_w {base gw : Nat} {m : WM} {vS vB vA : Value} {w : World} (h : Wk base gw m vS vB vA w) (hs : SortH m.srcs) {v : Value} {l : List Int} (hl : RA w base v l) (hn : m.srcs.length + l.length ≤ 1000000) (hbs : base ≤ w.heap.size) (left : Int) :
    Calls Try.prog 35 #[.pointer (some ⟨gw, 0, none⟩), v, .int .i64 left] w fun e w' => e = .returned (.tuple #[]) ∧ (∃ vS', Wk base gw { m with srcs := keepS m.srcs l left } vS' vB vA w') ∧ Fr base gw w w' := by
  have hu49 := Try.underlying49
  have hu73 := Try.underlying73
  have hu28 := Try.underlying28
  obtain ⟨A_l, c_l, rfl⟩ := Kd.R_slice hl
  have HW := Aside0.mk h
  have HL := Aside0.mk hl
  have HBOX := Aside0.mk h.box
  have XS := Aside0.mk hs
  have XN := Aside0.mk hn
  have XB := Aside0.mk hbs
  clear h hs hl hn hbs
  go_enter Try.func35, Try.ntmps35
  go_wp2
  go_loopg [12] l.length (fun gk v12 w' => ∃ i : Nat, v12 = .int .i64 (i : Int) ∧ Aside0 (i ≤ l.length ∧ gk = l.length - i) ∧ (∃ vS' : Value, Aside0 (Wk base gw { m with srcs := keepS m.srcs (l.take i) left } vS' vB vA w')) ∧ Aside0 (Fr base gw w w'))
  case atStart => exact ⟨0, rfl, ⟨Nat.zero_le _, by omega⟩, ⟨_, HW⟩, ⟨Fr.refl _ _ _⟩⟩
  case round =>
    clear HW
    obtain ⟨i, rfl, HI, ⟨vS1, HW⟩, HF⟩ := hrel
    obtain ⟨hi, hgk⟩ := HI.out
    by_cases hlt : i < l.length
    · have c13 : decide ((i : Int) < (l.length : Int)) = true := decide_eq_true (by omega)
      have p1 : (0 : Int) ≤ (i : Int) := by omega
      have p2 : (i : Int) < (l.length : Int) := by omega
      obtain ⟨ad, he, hx0⟩ := Kd.at_int (Kd.R_reads' (HF.out.row HL.out HBOX.out)).2.2 (i : Int) p1 p2
      subst he
      rw [Int.toNat_natCast] at hx0
      have HKS := Aside0.mk (keep_succ m.srcs hlt left)
      obtain ⟨a, ha⟩ : ∃ a, a = rd l (i : Int) := ⟨_, rfl⟩
      rw [← ha] at hx0 HKS
      clear ha
      obtain ⟨xs, hxs⟩ : ∃ xs, xs = keepS m.srcs (l.take i) left := ⟨_, rfl⟩
      rw [← hxs] at HW HKS
      have HXS := Aside0.mk (show SortH xs by rw [hxs]; exact keep_sorted _ _ XS.out)
      have HXN := Aside0.mk (show xs.length ≤ 1000000 by have h1 := keep_len (l.take i) left XS.out; rw [← hxs, List.length_take] at h1; have h2 := XN.out; omega)
      clear hxs
      replace p1 := eq_true p1
      replace p2 := eq_true p2
      obtain ⟨A1, c1, e1⟩ := Kd.R_slice HW.out.S
      subst e1
      have hw3 : wr.cell? ⟨gw, 3, none⟩ = some (.slice A1 xs.length c1) := (blk_cell HW.out.blk 3).trans rfl
      have hf3 := blk_frozen HW.out.blk 3
      obtain ⟨b, hb⟩ : ∃ b, hasH xs a = b := ⟨_, rfl⟩
      have HHB := Aside0.mk hb
      clear hb
      have HST := Aside0.mk (standsH HXS.out a)
      cases b with
      | true =>
        have hpos : posH xs a < xs.length := by have h1 := atH_has HXS.out a; rw [HHB.out] at h1; simp only [Bool.and_eq_true, decide_eq_true_eq] at h1; exact h1.1
        have HPOS := Aside0.mk hpos
        clear hpos
        go_upto_region 5 with (first | (go_at_call 34; (with_reducible refine (placeH_w HXS.out HHB.out HXN.out A1 c1 wr (Kd.R_reads' HW.out.S).2.2 (Kd.R_reads' HW.out.S).2.1).mono ?_); rintro e w2 ⟨rfl, hB⟩; have HW2 := Aside0.mk (HW.out.below hB); have HF2 := Aside0.mk (HF.out.trans (Fr.of_below hB)); clear HW HF hw3 hf3 hB hx0; have hw3 : w2.cell? ⟨gw, 3, none⟩ = some (.slice A1 xs.length c1) := (blk_cell HW2.out.blk 3).trans rfl; have hf3 := blk_frozen HW2.out.blk 3))
        obtain ⟨g, cap, ev_, hgb, _, _⟩ := Kd.R_form HW2.out.S (show 0 < xs.length by have := HPOS.out; omega)
        simp only [Value.slice.injEq, true_and] at ev_
        obtain ⟨rfl, rfl⟩ := ev_
        obtain ⟨⟨y_, hy_⟩, hfy_⟩ := R49_cell HW2.out.S (posH xs a) HPOS.out
        have p3 : (0 : Int) ≤ ((posH xs a : Nat) : Int) := by omega
        have p4 : ((posH xs a : Nat) : Int) < (xs.length : Int) := by have := HPOS.out; omega
        replace p3 := eq_true p3
        replace p4 := eq_true p4
        have HEND := Aside0.mk (R49_store HW2.out.S (posH xs a) HPOS.out left)
        obtain ⟨q, hq⟩ : ∃ q, q = posH xs a := ⟨_, rfl⟩
        have HQ := Aside0.mk hq
        rw [← hq] at hy_ hfy_ p3 p4 HEND ⊢
        clear hq
        go_wp2
        go_roundg (l.length - (i + 1))
        case measure => omega
        case rel =>
          obtain ⟨hS2, hG2⟩ := HEND.out
          obtain ⟨hb2, hB2, hA2, hF2⟩ := HW2.out.overS (vS2 := .slice (some ⟨g, 0, none⟩) xs.length c1) hG2 hS2
          have hins : xs.set q ⟨(rd_T49 xs q).f0, left⟩ = insH xs ⟨a, left⟩ := by
            have h1 := atH_has HXS.out a
            rw [HHB.out, ← HQ.out] at h1
            simp only [Bool.and_eq_true, decide_eq_true_eq] at h1
            rw [h1.2]
            have h2 := insH_set HXS.out (s := ⟨a, left⟩) (x := rd_T49 xs q) (by rw [rd49 xs q h1.1]; exact List.getElem_mem h1.1) h1.2
            rw [← HQ.out] at h2
            exact h2
          refine ⟨i + 1, ?_, ⟨by omega, rfl⟩, ⟨.slice (some ⟨g, 0, none⟩) xs.length c1, ⟨?_⟩⟩, ⟨HF2.out.trans hF2⟩⟩
          · show Value.int .i64 (wrap64 ((i : Int) + 1)) = _
            have h1 := XN.out
            have h2 : wrap64 ((i : Int) + 1) = ((i + 1 : Nat) : Int) := by unfold wrap64; omega
            rw [h2]
          · rw [HKS.out, ← hins]
            exact ⟨hb2.trans HW2.out.blk, HW2.out.ge, hS2, hB2, hA2⟩
      | false =>
        go_wp2_with (first | (go_at_call 34; (with_reducible refine (placeH_w HXS.out HHB.out HXN.out A1 c1 wr (Kd.R_reads' HW.out.S).2.2 (Kd.R_reads' HW.out.S).2.1).mono ?_); rintro e w2 ⟨rfl, hB⟩; have HW2 := Aside0.mk (HW.out.below hB); have HF2 := Aside0.mk (HF.out.trans (Fr.of_below hB)); clear HW HF hw3 hf3 hB hx0; have hw3 : w2.cell? ⟨gw, 3, none⟩ = some (.slice A1 xs.length c1) := (blk_cell HW2.out.blk 3).trans rfl; have hf3 := blk_frozen HW2.out.blk 3) | (go_at_call 55; (with_reducible refine (insertH_w (x := ⟨a, left⟩) HW2.out.S (Nat.le_trans XB.out HF2.out.size) HXN.out (posH xs a) HST.out.1 rfl).mono ?_); rintro e w3 ⟨v3, rfl, hS3, hG3⟩; obtain ⟨A3, c3, e3_⟩ := Kd.R_slice hS3; subst e3_; have HS3 := Aside0.mk hS3; have HO3 := Aside0.mk (HW2.out.overS hG3 hS3); obtain ⟨n3, hn3⟩ : ∃ n, n = (xs.take (posH xs a) ++ [(⟨a, left⟩ : S49)] ++ xs.drop (posH xs a)).length := ⟨_, rfl⟩; rw [← hn3] at HS3 ⊢; clear hn3; have HK3 := Aside0.mk (show w3.heap[gw]? = _ from HO3.out.1.trans HW2.out.blk); clear hS3 hG3 hw3 hf3; have hw3 : w3.cell? ⟨gw, 3, none⟩ = some (.slice A1 xs.length c1) := (blk_cell HK3.out 3).trans rfl; have hf3 := blk_frozen HK3.out 3))
        go_roundg (l.length - (i + 1))
        case measure => omega
        case rel =>
          obtain ⟨_, hB3, hA3, hF3⟩ := HO3.out
          have hW3 : Wk base gw { m with srcs := xs } (.slice A1 xs.length c1) vB vA w2 := HW2.out
          have hins := insH_new HXS.out (s := ⟨a, left⟩) HHB.out
          refine ⟨i + 1, ?_, ⟨by omega, rfl⟩, ⟨.slice A3 n3 c3, ⟨?_⟩⟩, ⟨(HF2.out.trans hF3).trans (Fr.set 3 (.slice A3 n3 c3))⟩⟩
          · show Value.int .i64 (wrap64 ((i : Int) + 1)) = _
            have h1 := XN.out
            have h2 : wrap64 ((i : Int) + 1) = ((i + 1 : Nat) : Int) := by unfold wrap64; omega
            rw [h2]
          · rw [HKS.out, ← hins]
            exact ⟨blk_put (cs := #[.int .u32 m.g, .bool m.ex, .int .i64 m.left, .slice A1 xs.length c1, .int .i64 m.keep, .int .i64 m.last, vB, vA]) HK3.out 3 (.slice A3 n3 c3) rfl, HW2.out.ge, Kd.R_set HS3.out HK3.out (by decide) 3 _, Kd.R_set hB3 HK3.out (by decide) 3 _, Kd.R_set hA3 HK3.out (by decide) 3 _⟩
    · have c13 : decide ((i : Int) < (l.length : Int)) = false := decide_eq_false (by omega)
      have hie : i = l.length := by omega
      rw [hie, List.take_length] at HW
      clear hie hgk
      go_wp2
      go_end0
      exact ⟨rfl, ⟨_, HW.out⟩, HF.out⟩
end Go.Proofs.Ytbllchfgjginoaa
-- written by a program of this session (hprint.py), over the kit's printer
namespace Go.Proofs.Ytbllchfgjginoaa.PMe
open Go.RowKit Go.Proofs.YtbllchfgjginoaaW.PrintWords Go.Proofs.YtbllchfgjginoaaW.PrintLast Go.Proofs.YtbllchfgjginoaaW.PrintMore
attribute [local go_sem] max2_int min2_int max_two min_two max_three min_three max_four min_four   -- for this text's walks alone
set_option linter.unusedVariables false
set_option linter.unusedSimpArgs false

/-! ### api_Addr_69: function 69 -/
def api_Addr_69.f (a0 : Int) : Option (Bool) := some (a0 != a0)
set_option maxHeartbeats 8000000 in
set_option maxRecDepth 100000 in
theorem api_Addr_69.calls (a0 : Int) (r : Bool) (w : World) (h : api_Addr_69.f a0 = some r) :
    Calls Try.prog 69 #[.int .u32 a0] w fun e w' => e = .returned (.bool r) ∧ Drawn0 w w' := by
  have H : (some (a0 != a0)) = some r := h
  clear h
  obtain rfl := Option.some.inj H
  go_enter Try.func69, Try.ntmps69
  go_wp2
  go_ret
  exact ⟨by first | rfl | (simp; done) | (simp [*]; done), by repeat (first | exact Drawn0.refl _ | apply Drawn0.step)⟩

/-! ### api_Addr_81: function 81 -/
def api_Addr_81.f (a0 : Int) (a1 : Int) : Option (Bool) := (api_Addr_69.f a0).bind fun t101 => (if t101 = true then ((api_Addr_69.f a1).bind fun t102 => (if t102 = true then (some (decide (a0 < a1))) else (some true))) else (some (decide (a0 < a1))))
set_option maxHeartbeats 8000000 in
set_option maxRecDepth 100000 in
theorem api_Addr_81.calls (a0 : Int) (a1 : Int) (r : Bool) (w : World) (h : api_Addr_81.f a0 a1 = some r) :
    Calls Try.prog 81 #[.int .u32 a0, .int .u32 a1] w fun e w' => e = .returned (.bool r) ∧ Drawn0 w w' := by
  have H : ((api_Addr_69.f a0).bind fun t101 => (if t101 = true then ((api_Addr_69.f a1).bind fun t102 => (if t102 = true then (some (decide (a0 < a1))) else (some true))) else (some (decide (a0 < a1))))) = some r := h
  clear h
  replace H := Option.bind_eq_some_iff.mp H
  obtain ⟨t101, A30, H⟩ := H
  replace H : (if t101 = true then ((api_Addr_69.f a1).bind fun t102 => (if t102 = true then (some (decide (a0 < a1))) else (some true))) else (some (decide (a0 < a1)))) = some r := H
  have A3 := Aside0.mk A30
  clear A30
  by_cases c4 : t101 = true
  · subst c4
    have H1 : ((api_Addr_69.f a1).bind fun t102 => (if t102 = true then (some (decide (a0 < a1))) else (some true))) = some r := by rw [if_pos rfl] at H; exact H
    clear H
    have H := H1
    clear H1
    replace H := Option.bind_eq_some_iff.mp H
    obtain ⟨t102, A50, H⟩ := H
    replace H : (if t102 = true then (some (decide (a0 < a1))) else (some true)) = some r := H
    have A5 := Aside0.mk A50
    clear A50
    by_cases c6 : t102 = true
    · subst c6
      have H1 : (some (decide (a0 < a1))) = some r := by rw [if_pos rfl] at H; exact H
      clear H
      have H := H1
      clear H1
      obtain rfl := Option.some.inj H
      go_enter Try.func81, Try.ntmps81
      go_wp2_with (first | ((with_reducible refine gate_callee (f := 69) rfl ?_); refine goesL_ (some 6) rfl rfl Try.func69 (by kernel_rfl) rfl #[.int .u32 a0] rfl (by (try simp only [List.map_toArray, List.map_cons, List.map_nil]); first | done | rfl | (simp only [List.length_drop, List.length_take]; rfl)) ?_; (with_reducible refine (api_Addr_69.calls a0 true _ A3.out).mono ?_); rintro e w' ⟨rfl, ⟨nd, rfl⟩⟩; refine ⟨_, rfl, ?_⟩) | (go_at_call 69; (with_reducible refine (api_Addr_69.calls a1 true _ A5.out).mono ?_); rintro e w' ⟨rfl, ⟨nd, rfl⟩⟩))
      go_ret
      exact ⟨by first | rfl | (simp; done) | (simp [*]; done), by repeat (first | exact Drawn0.refl _ | apply Drawn0.step)⟩
    · replace c6 := Bool.eq_false_iff.mpr c6
      subst c6
      have H1 : (some true) = some r := by rw [if_neg (show ¬ (false = true) by decide)] at H; exact H
      clear H
      have H := H1
      clear H1
      obtain rfl := Option.some.inj H
      go_enter Try.func81, Try.ntmps81
      go_wp2_with (first | ((with_reducible refine gate_callee (f := 69) rfl ?_); refine goesL_ (some 6) rfl rfl Try.func69 (by kernel_rfl) rfl #[.int .u32 a0] rfl (by (try simp only [List.map_toArray, List.map_cons, List.map_nil]); first | done | rfl | (simp only [List.length_drop, List.length_take]; rfl)) ?_; (with_reducible refine (api_Addr_69.calls a0 true _ A3.out).mono ?_); rintro e w' ⟨rfl, ⟨nd, rfl⟩⟩; refine ⟨_, rfl, ?_⟩) | (go_at_call 69; (with_reducible refine (api_Addr_69.calls a1 false _ A5.out).mono ?_); rintro e w' ⟨rfl, ⟨nd, rfl⟩⟩))
      go_ret
      exact ⟨by first | rfl | (simp; done) | (simp [*]; done), by repeat (first | exact Drawn0.refl _ | apply Drawn0.step)⟩
  · replace c4 := Bool.eq_false_iff.mpr c4
    subst c4
    have H1 : (some (decide (a0 < a1))) = some r := by rw [if_neg (show ¬ (false = true) by decide)] at H; exact H
    clear H
    have H := H1
    clear H1
    obtain rfl := Option.some.inj H
    go_enter Try.func81, Try.ntmps81
    go_wp2_with (first | ((with_reducible refine gate_callee (f := 69) rfl ?_); refine goesL_ (some 6) rfl rfl Try.func69 (by kernel_rfl) rfl #[.int .u32 a0] rfl (by (try simp only [List.map_toArray, List.map_cons, List.map_nil]); first | done | rfl | (simp only [List.length_drop, List.length_take]; rfl)) ?_; (with_reducible refine (api_Addr_69.calls a0 false _ A3.out).mono ?_); rintro e w' ⟨rfl, ⟨nd, rfl⟩⟩; refine ⟨_, rfl, ?_⟩))
    go_ret
    exact ⟨by first | rfl | (simp; done) | (simp [*]; done), by repeat (first | exact Drawn0.refl _ | apply Drawn0.step)⟩

/-! ### api_Addr_82: function 82 -/
def api_Addr_82.f (a0 : Int) : Option (Bool) := some (a0 != a0)
set_option maxHeartbeats 8000000 in
set_option maxRecDepth 100000 in
theorem api_Addr_82.calls (a0 : Int) (r : Bool) (w : World) (h : api_Addr_82.f a0 = some r) :
    Calls Try.prog 82 #[.int .u32 a0] w fun e w' => e = .returned (.bool r) ∧ Drawn0 w w' := by
  have H : (some (a0 != a0)) = some r := h
  clear h
  obtain rfl := Option.some.inj H
  go_enter Try.func82, Try.ntmps82
  go_wp2
  go_ret
  exact ⟨by first | rfl | (simp; done) | (simp [*]; done), by repeat (first | exact Drawn0.refl _ | apply Drawn0.step)⟩

/-! ### api_Addr_74: function 74 -/
def api_Addr_74.l0 : Nat → List Int → Int → Int → Int → Int → Option (Int × Bool)
  | 0, _, _, _, _, _ => none
  | k + 1, x0, x1, x6, x7, x8 => if x7 < x8 then (if 0 ≤ (wrap64 ((IntKind.u64.wrap (wrap64 (x7 + x8))) / 2)) then (if (wrap64 ((IntKind.u64.wrap (wrap64 (x7 + x8))) / 2)) < (x0.length : Int) then ((api_Addr_81.f (rd x0 (wrap64 ((IntKind.u64.wrap (wrap64 (x7 + x8))) / 2))) x1).bind fun t104 => (if t104 = true then (api_Addr_74.l0 k x0 x1 x6 (wrap64 ((wrap64 ((IntKind.u64.wrap (wrap64 (x7 + x8))) / 2)) + 1)) x8) else (api_Addr_74.l0 k x0 x1 x6 x7 (wrap64 ((IntKind.u64.wrap (wrap64 (x7 + x8))) / 2))))) else (none)) else (none)) else (if x7 < x6 then (if 0 ≤ x7 then (if x7 < (x0.length : Int) then (if (rd x0 x7) = x1 then (some (x7, true)) else ((api_Addr_82.f (rd x0 x7)).bind fun t107 => (if t107 = true then ((api_Addr_82.f x1).bind fun t108 => (some (x7, t108))) else (some (x7, false))))) else (none)) else (none)) else (some (x7, false)))
def api_Addr_74.f (k : Nat) (l0 : List Int) (a1 : Int) : Option (Int × Bool) := api_Addr_74.l0 k l0 a1 (l0.length : Int) 0 (l0.length : Int)
theorem api_Addr_74.mono_l : ∀ k, (∀ y0 y1 y2 y3 y4, LeO (api_Addr_74.l0 k y0 y1 y2 y3 y4) (api_Addr_74.l0 (k + 1) y0 y1 y2 y3 y4))
  | 0 => fun _ _ _ _ _ r h => by simp [api_Addr_74.l0] at h
  | k + 1 => by
    have ih0 := api_Addr_74.mono_l k
    · intro y0 y1 y2 y3 y4
      unfold api_Addr_74.l0
      repeat' first
      | (with_reducible exact ih0 _ _ _ _ _)
      | (with_reducible exact LeO.refl _)
      | (with_reducible exact LeO.none _)
      | (with_reducible refine LeO.ite ?_ ?_)
      | (with_reducible refine LeO.bind ?_ (fun _ => ?_))
      | exact ih0 _ _ _ _ _
      | exact LeO.none _
      | refine LeO.ite ?_ ?_
      | refine LeO.bind ?_ (fun _ => ?_)
theorem api_Addr_74.mono : ∀ a0 a1 k, LeO (api_Addr_74.f k a0 a1) (api_Addr_74.f (k + 1) a0 a1) := by
  intro a0 a1 k
  have ih0 := api_Addr_74.mono_l k
  unfold api_Addr_74.f
  repeat' first
      | (with_reducible exact ih0 _ _ _ _ _)
      | (with_reducible exact LeO.refl _)
      | (with_reducible exact LeO.none _)
      | (with_reducible refine LeO.ite ?_ ?_)
      | (with_reducible refine LeO.bind ?_ (fun _ => ?_))
      | exact ih0 _ _ _ _ _
      | exact LeO.none _
      | refine LeO.ite ?_ ?_
      | refine LeO.bind ?_ (fun _ => ?_)
set_option maxHeartbeats 8000000 in
set_option maxRecDepth 100000 in
theorem api_Addr_74.calls (k : Nat) (A0 : Option Addr) (c0 : Nat) (l0 : List Int) (a1 : Int) (r1 : Int) (r2 : Bool) (w : World) (hr0 : Kd.C (Kd.int .u32) w A0 l0.length l0) (hc0 : l0.length ≤ c0) (h : api_Addr_74.f k l0 a1 = some (r1, r2)) :
    Calls Try.prog 74 #[.slice A0 l0.length c0, .int .u32 a1] w fun e w' => e = .returned (.tuple #[.int .i64 r1, .bool r2]) ∧ Drawn0 w w' := by
  have HR0 := Aside0.mk hr0
  have HC0 := Aside0.mk hc0
  clear hr0 hc0
  have H : (api_Addr_74.l0 k l0 a1 (l0.length : Int) 0 (l0.length : Int)) = some (r1, r2) := h
  clear h
  have H' := Aside0.mk H
  clear H
  go_enter Try.func74, Try.ntmps74
  go_wp2
  go_loopg [7, 8] k (fun kq v7 v8 w' => ∃ (x7_1 : Int) (x8_1 : Int), v7 = .int .i64 x7_1 ∧ v8 = .int .i64 x8_1 ∧ Aside0 (api_Addr_74.l0 kq l0 a1 (l0.length : Int) x7_1 x8_1 = some (r1, r2)) ∧ Aside0 (kq ≤ k) ∧ Drawn0 w w')
  case atStart => exact ⟨(0), ((l0.length : Int)), (by first | rfl | (simp; done) | (simp [*]; done)), (by first | rfl | (simp; done) | (simp [*]; done)), H', ⟨Nat.le_refl _⟩, by repeat (first | exact Drawn0.refl _ | apply Drawn0.step)⟩
  case round =>
    clear H'
    try clear p2
    obtain ⟨x7_1, x8_1, rfl, rfl, HA, HK1, ⟨m1, rfl⟩⟩ := hrel
    cases gk with
    | zero => exact absurd HA.out (by simp [api_Addr_74.l0])
    | succ k1 =>
      have H := HA.out
      clear HA
      simp only [api_Addr_74.l0] at H
      by_cases c3 : x7_1 < x8_1
      · rw [if_pos c3] at H
        have c3b0 : decide (x7_1 < x8_1) = true := decide_eq_true c3
        clear c3
        obtain ⟨ji4, hji4⟩ : ∃ j_ : Int, (wrap64 ((IntKind.u64.wrap (wrap64 (x7_1 + x8_1))) / 2)) = j_ := ⟨_, rfl⟩
        replace H : (if 0 ≤ (ji4) then (if (ji4) < (l0.length : Int) then ((api_Addr_81.f (rd l0 (ji4)) a1).bind fun t104 => (if t104 = true then (api_Addr_74.l0 k1 l0 a1 (l0.length : Int) (wrap64 ((ji4) + 1)) x8_1) else (api_Addr_74.l0 k1 l0 a1 (l0.length : Int) x7_1 ji4))) else (none)) else (none)) = some (r1, r2) := by first | (rw [hji4] at H; exact H) | (simp only [hji4] at H ⊢; exact H)
        have hji4w : (IntKind.i64.wrap ((IntKind.u64.wrap (wrap64 (x7_1 + x8_1))) / 2)) = ji4 := (i64_w _).trans hji4
        by_cases c5 : 0 ≤ (ji4)
        · rw [if_pos c5] at H
          have c5b0 : decide (0 ≤ (ji4)) = true := decide_eq_true c5
          clear c5
          by_cases c6 : (ji4) < (l0.length : Int)
          · rw [if_pos c6] at H
            have c6b0 : decide ((ji4) < (l0.length : Int)) = true := decide_eq_true c6
            clear c6
            replace H := Option.bind_eq_some_iff.mp H
            obtain ⟨t104, A70, H⟩ := H
            replace H : (if t104 = true then (api_Addr_74.l0 k1 l0 a1 (l0.length : Int) (wrap64 ((ji4) + 1)) x8_1) else (api_Addr_74.l0 k1 l0 a1 (l0.length : Int) x7_1 ji4)) = some (r1, r2) := H
            have A7 := Aside0.mk A70
            clear A70
            by_cases c8 : t104 = true
            · subst c8
              have H1 : (api_Addr_74.l0 k1 l0 a1 (l0.length : Int) (wrap64 ((ji4) + 1)) x8_1) = some (r1, r2) := by rw [if_pos rfl] at H; exact H
              clear H
              have H := H1
              clear H1
              have H' := Aside0.mk H
              clear H
              have p103 : 0 ≤ ((ji4) : Int) := of_decide_eq_true (by first | (with_reducible assumption) | assumption)
              have q103 : (ji4) < (l0.length : Int) := of_decide_eq_true (by first | (with_reducible assumption) | assumption)
              obtain ⟨ad103, e103, hx103_0⟩ := Kd.at_int HR0.out (ji4) p103 q103
              cases e103
              replace p103 := eq_true p103
              replace q103 := eq_true q103
              go_wp2_with (first | ((with_reducible refine gate_callee (f := 81) rfl ?_); refine goesL_ (some 27) rfl rfl Try.func81 (by kernel_rfl) rfl #[.int .u32 (rd l0 (ji4)), .int .u32 a1] rfl (by (try simp only [List.map_toArray, List.map_cons, List.map_nil]); first | done | (simp only [hji4]; rfl) | rfl | (simp only [List.length_drop, List.length_take]; rfl)) ?_; (with_reducible refine (api_Addr_81.calls (rd l0 (ji4)) a1 true _ A7.out).mono ?_); rintro e w' ⟨rfl, ⟨nd, rfl⟩⟩; refine ⟨_, rfl, ?_⟩))
              go_roundg k1
              case measure => have := HK1.out; omega
              case rel => exact ⟨(wrap64 ((ji4) + 1)), (x8_1), (by first | rfl | (simp; done) | (simp only [← hji4] <;> (first | rfl | simp)) | (simp [*]; done)), (by first | rfl | (simp; done) | (simp [*]; done)), H', ⟨by have := HK1.out; omega⟩, by repeat (first | exact Drawn0.refl _ | apply Drawn0.step)⟩
            · replace c8 := Bool.eq_false_iff.mpr c8
              subst c8
              have H1 : (api_Addr_74.l0 k1 l0 a1 (l0.length : Int) x7_1 ji4) = some (r1, r2) := by rw [if_neg (show ¬ (false = true) by decide)] at H; exact H
              clear H
              have H := H1
              clear H1
              have H' := Aside0.mk H
              clear H
              have p103 : 0 ≤ ((ji4) : Int) := of_decide_eq_true (by first | (with_reducible assumption) | assumption)
              have q103 : (ji4) < (l0.length : Int) := of_decide_eq_true (by first | (with_reducible assumption) | assumption)
              obtain ⟨ad103, e103, hx103_0⟩ := Kd.at_int HR0.out (ji4) p103 q103
              cases e103
              replace p103 := eq_true p103
              replace q103 := eq_true q103
              go_wp2_with (first | ((with_reducible refine gate_callee (f := 81) rfl ?_); refine goesL_ (some 27) rfl rfl Try.func81 (by kernel_rfl) rfl #[.int .u32 (rd l0 (ji4)), .int .u32 a1] rfl (by (try simp only [List.map_toArray, List.map_cons, List.map_nil]); first | done | (simp only [hji4]; rfl) | rfl | (simp only [List.length_drop, List.length_take]; rfl)) ?_; (with_reducible refine (api_Addr_81.calls (rd l0 (ji4)) a1 false _ A7.out).mono ?_); rintro e w' ⟨rfl, ⟨nd, rfl⟩⟩; refine ⟨_, rfl, ?_⟩))
              go_roundg k1
              case measure => have := HK1.out; omega
              case rel => exact ⟨(x7_1), (ji4), (by first | rfl | (simp; done) | (simp [*]; done)), (by first | rfl | (simp; done) | (simp only [← hji4] <;> (first | rfl | simp)) | (simp [*]; done)), H', ⟨by have := HK1.out; omega⟩, by repeat (first | exact Drawn0.refl _ | apply Drawn0.step)⟩
          · rw [if_neg c6] at H
            exact absurd H (by simp)
        · rw [if_neg c5] at H
          exact absurd H (by simp)
      · rw [if_neg c3] at H
        have c3b0 : decide (x7_1 < x8_1) = false := decide_eq_false c3
        clear c3
        by_cases c9 : x7_1 < (l0.length : Int)
        · rw [if_pos c9] at H
          have c9b0 : decide (x7_1 < (l0.length : Int)) = true := decide_eq_true c9
          clear c9
          by_cases c10 : 0 ≤ x7_1
          · rw [if_pos c10] at H
            have c10b0 : decide (0 ≤ x7_1) = true := decide_eq_true c10
            clear c10
            by_cases c11 : x7_1 < (l0.length : Int)
            · rw [if_pos c11] at H
              have c11b0 : decide (x7_1 < (l0.length : Int)) = true := decide_eq_true c11
              clear c11
              by_cases c12 : (rd l0 x7_1) = a1
              · rw [if_pos c12] at H
                have c12b0 : ((rd l0 x7_1) == a1) = true := beq_iff_eq.mpr c12
                have c12b1 : ((rd l0 x7_1) != a1) = false := bne_eq_false_iff_eq.mpr c12
                clear c12
                simp only [Option.some.injEq, Prod.mk.injEq] at H
                obtain ⟨rfl, rfl⟩ := H
                have p105 : 0 ≤ (x7_1 : Int) := of_decide_eq_true (by first | (with_reducible assumption) | assumption)
                have q105 : x7_1 < (l0.length : Int) := of_decide_eq_true (by first | (with_reducible assumption) | assumption)
                obtain ⟨ad105, e105, hx105_0⟩ := Kd.at_int HR0.out x7_1 p105 q105
                cases e105
                replace p105 := eq_true p105
                replace q105 := eq_true q105
                go_wp2
                go_ret2
                exact ⟨by first | rfl | (simp; done) | (simp [*]; done), by repeat (first | exact Drawn0.refl _ | apply Drawn0.step)⟩
              · rw [if_neg c12] at H
                have c12b0 : ((rd l0 x7_1) == a1) = false := beq_eq_false_iff_ne.mpr c12
                have c12b1 : ((rd l0 x7_1) != a1) = true := bne_iff_ne.mpr c12
                replace H := Option.bind_eq_some_iff.mp H
                obtain ⟨t107, A130, H⟩ := H
                replace H : (if t107 = true then ((api_Addr_82.f a1).bind fun t108 => (some (x7_1, t108))) else (some (x7_1, false))) = some (r1, r2) := H
                have A13 := Aside0.mk A130
                clear A130
                by_cases c14 : t107 = true
                · subst c14
                  have H1 : ((api_Addr_82.f a1).bind fun t108 => (some (x7_1, t108))) = some (r1, r2) := by rw [if_pos rfl] at H; exact H
                  clear H
                  have H := H1
                  clear H1
                  replace H := Option.bind_eq_some_iff.mp H
                  obtain ⟨t108, A150, H⟩ := H
                  replace H : (some (x7_1, t108)) = some (r1, r2) := H
                  have A15 := Aside0.mk A150
                  clear A150
                  simp only [Option.some.injEq, Prod.mk.injEq] at H
                  obtain ⟨rfl, rfl⟩ := H
                  have p105 : 0 ≤ (x7_1 : Int) := of_decide_eq_true (by first | (with_reducible assumption) | assumption)
                  have q105 : x7_1 < (l0.length : Int) := of_decide_eq_true (by first | (with_reducible assumption) | assumption)
                  obtain ⟨ad105, e105, hx105_0⟩ := Kd.at_int HR0.out x7_1 p105 q105
                  cases e105
                  replace p105 := eq_true p105
                  replace q105 := eq_true q105
                  have p106 : 0 ≤ (x7_1 : Int) := of_decide_eq_true (by first | (with_reducible assumption) | assumption)
                  have q106 : x7_1 < (l0.length : Int) := of_decide_eq_true (by first | (with_reducible assumption) | assumption)
                  obtain ⟨ad106, e106, hx106_0⟩ := Kd.at_int HR0.out x7_1 p106 q106
                  obtain rfl : ad105 = ad106 := (by injection e106)
                  replace p106 := eq_true p106
                  replace q106 := eq_true q106
                  go_wp2_with (first | (go_at_call 82; (with_reducible refine (api_Addr_82.calls (rd l0 x7_1) true _ A13.out).mono ?_); rintro e w' ⟨rfl, ⟨nd, rfl⟩⟩) | (go_at_call 82; (with_reducible refine (api_Addr_82.calls a1 t108 _ A15.out).mono ?_); rintro e w' ⟨rfl, ⟨nd, rfl⟩⟩))
                  go_ret2
                  exact ⟨by first | rfl | (simp; done) | (simp [*]; done), by repeat (first | exact Drawn0.refl _ | apply Drawn0.step)⟩
                · replace c14 := Bool.eq_false_iff.mpr c14
                  subst c14
                  have H1 : (some (x7_1, false)) = some (r1, r2) := by rw [if_neg (show ¬ (false = true) by decide)] at H; exact H
                  clear H
                  have H := H1
                  clear H1
                  simp only [Option.some.injEq, Prod.mk.injEq] at H
                  obtain ⟨rfl, rfl⟩ := H
                  have p105 : 0 ≤ (x7_1 : Int) := of_decide_eq_true (by first | (with_reducible assumption) | assumption)
                  have q105 : x7_1 < (l0.length : Int) := of_decide_eq_true (by first | (with_reducible assumption) | assumption)
                  obtain ⟨ad105, e105, hx105_0⟩ := Kd.at_int HR0.out x7_1 p105 q105
                  cases e105
                  replace p105 := eq_true p105
                  replace q105 := eq_true q105
                  have p106 : 0 ≤ (x7_1 : Int) := of_decide_eq_true (by first | (with_reducible assumption) | assumption)
                  have q106 : x7_1 < (l0.length : Int) := of_decide_eq_true (by first | (with_reducible assumption) | assumption)
                  obtain ⟨ad106, e106, hx106_0⟩ := Kd.at_int HR0.out x7_1 p106 q106
                  obtain rfl : ad105 = ad106 := (by injection e106)
                  replace p106 := eq_true p106
                  replace q106 := eq_true q106
                  go_wp2_with (first | (go_at_call 82; (with_reducible refine (api_Addr_82.calls (rd l0 x7_1) false _ A13.out).mono ?_); rintro e w' ⟨rfl, ⟨nd, rfl⟩⟩))
                  go_ret2
                  exact ⟨by first | rfl | (simp; done) | (simp [*]; done), by repeat (first | exact Drawn0.refl _ | apply Drawn0.step)⟩
            · rw [if_neg c11] at H
              exact absurd H (by simp)
          · rw [if_neg c10] at H
            exact absurd H (by simp)
        · rw [if_neg c9] at H
          have c9b0 : decide (x7_1 < (l0.length : Int)) = false := decide_eq_false c9
          clear c9
          simp only [Option.some.injEq, Prod.mk.injEq] at H
          obtain ⟨rfl, rfl⟩ := H
          go_wp2
          go_ret2
          exact ⟨by first | rfl | (simp; done) | (simp [*]; done), by repeat (first | exact Drawn0.refl _ | apply Drawn0.step)⟩

/-! ### set_Has: function 57 -/
def set_Has.f (k : Nat) (l0 : List Int) (a1 : Int) : Option (Bool) := (api_Addr_74.f k l0 a1).bind fun bt109 => (some bt109.2)
theorem set_Has.mono : ∀ a0 a1 k, LeO (set_Has.f k a0 a1) (set_Has.f (k + 1) a0 a1) := by
  intro a0 a1 k
  unfold set_Has.f
  repeat' first
      | (with_reducible exact api_Addr_74.mono _ _ _)
      | (with_reducible exact LeO.refl _)
      | (with_reducible exact LeO.none _)
      | (with_reducible refine LeO.ite ?_ ?_)
      | (with_reducible refine LeO.bind ?_ (fun _ => ?_))
      | exact api_Addr_74.mono _ _ _
      | exact LeO.none _
      | refine LeO.ite ?_ ?_
      | refine LeO.bind ?_ (fun _ => ?_)
set_option maxHeartbeats 8000000 in
set_option maxRecDepth 100000 in
theorem set_Has.calls (k : Nat) (A0 : Option Addr) (c0 : Nat) (l0 : List Int) (a1 : Int) (r : Bool) (w : World) (hr0 : Kd.C (Kd.int .u32) w A0 l0.length l0) (hc0 : l0.length ≤ c0) (h : set_Has.f k l0 a1 = some r) :
    Calls Try.prog 57 #[.slice A0 l0.length c0, .int .u32 a1] w fun e w' => e = .returned (.bool r) ∧ Drawn0 w w' := by
  have HR0 := Aside0.mk hr0
  have HC0 := Aside0.mk hc0
  clear hr0 hc0
  have H : ((api_Addr_74.f k l0 a1).bind fun bt109 => (some bt109.2)) = some r := h
  clear h
  replace H := Option.bind_eq_some_iff.mp H
  obtain ⟨⟨t109, t110⟩, A30, H⟩ := H
  replace H : (some t110) = some r := H
  have A3 := Aside0.mk A30
  clear A30
  obtain rfl := Option.some.inj H
  go_enter Try.func57, Try.ntmps57
  go_wp2_with (first | ((with_reducible refine gate_callee (f := 74) rfl ?_); refine goesL_ (some 10) rfl rfl Try.func74 (by kernel_rfl) rfl #[.slice A0 l0.length c0, .int .u32 a1] rfl (by (try simp only [List.map_toArray, List.map_cons, List.map_nil]); first | done | rfl | (simp only [List.length_drop, List.length_take]; rfl)) ?_; (with_reducible refine (api_Addr_74.calls k _ _ l0 a1 t109 t110 _ ?side1 ?side2 A3.out).mono ?_); (case side1 => repeat (first | exact HR0.out | (with_reducible refine Kd.C_alloc ?_ _) | (with_reducible refine Kd.C_drewN ?_ _) | (with_reducible refine Kd.C_drew ?_))); (case side2 => exact HC0.out); rintro e w' ⟨rfl, ⟨nd, rfl⟩⟩; refine ⟨_, rfl, ?_⟩))
  go_ret
  exact ⟨by first | rfl | (simp; done) | (simp [*]; done), by repeat (first | exact Drawn0.refl _ | apply Drawn0.step)⟩

end Go.Proofs.Ytbllchfgjginoaa.PMe
