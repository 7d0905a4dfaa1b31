/-
  SetMore, walked: a filter more, ahead or behind.
-/
import Derived.Test.YtkhljamellgcfaaSetW
namespace Go.Proofs.Ytkhljamellgcfaa
open Go.RowKit Go.Proofs.YtkhljamellgcfaaW.PrintWords Go.Proofs.YtkhljamellgcfaaW.PrintLast Go.Proofs.YtkhljamellgcfaaW.PrintMore Go.Proofs.Ytkhljamellgcfaa.PSet
set_option linter.unusedVariables false
set_option linter.unusedSimpArgs false
theorem drawn_below {w w' : World} (h : Drawn0 w w') : Below w.heap.size w w' := by
  obtain ⟨n, rfl⟩ := h
  exact pw_below_drewN (Below.refl _ _) n
theorem m_shown (w : World) : Calls Try.prog 10 #[] w fun e w' => e = .returned (.bool true) ∧ Below w.heap.size w w' := stolonlaw06_shown.calls _ _ _ (shown_some 0)
theorem m_filters {k : Nat} {l : List S29} {r : Bool} (h : stolonlaw06_filters.f k l = some r) (A : Option Addr) (c : Nat) (w : World) (hr : Kd.C k29 w A l.length l) (hc : l.length ≤ c) :
    Calls Try.prog 11 #[.slice A l.length c] w fun e w' => e = .returned (.bool r) ∧ Below w.heap.size w w' :=
  (stolonlaw06_filters.calls k A c l r w hr hc h).mono fun _ _ h => ⟨h.1, drawn_below h.2⟩
theorem m_filter {k : Nat} {l : List S29} {e : Bool} {s : List Int} (h : set_Filter.f k l = some (e, s)) (A : Option Addr) (c : Nat) (w : World) (hr : Kd.C k29 w A l.length l) (hc : l.length ≤ c) :
    Calls Try.prog 12 #[.slice A l.length c] w fun e' w' => ∃ v : Value, e' = .returned (.agg #[.bool e, v]) ∧ Kd.R (Kd.int .u32) 24 w' w.heap.size (fun _ => True) v s ∧ Below w.heap.size w w' :=
  (set_Filter.calls k (fun k => k < w.heap.size) A c l e s w ⟨A, c, rfl, hc, Kd.C_F k29_heap hr⟩ h).mono fun _ _ ⟨v, h1, h2, h3⟩ => ⟨v, h1, Kd.R_mono h2 (fun _ _ => trivial), h3⟩
theorem m_wants {k : Nat} {f0 : Bool} {f1 : List Int} {a : Int} {r : Bool} (h : set_Wants.f k f0 f1 a = some r) (A : Option Addr) (c : Nat) (w : World) (hr : Kd.C (Kd.int .u32) w A f1.length f1) (hc : f1.length ≤ c) :
    Calls Try.prog 15 #[.agg #[.bool f0, .slice A f1.length c], .int .u32 a] w fun e w' => e = .returned (.bool r) ∧ Below w.heap.size w w' :=
  (set_Wants.calls k f0 A c f1 a r w hr hc h).mono fun _ _ h => ⟨h.1, by first | exact drawn_below h.2 | exact h.2⟩
theorem store_step {P : Program} {ops : Array Oper} {Q : Exit → Act → World → Prop} {oi : Oper} {a : Act} {w w1 : World} {K : Act → World → Prop} (hw : Region.wanted oi (yielded ops a.tmps) = true) (hN : oi.dst = none) (hrun : (execOp a.eval oi).run P w = .ok .skip w1) (h : K a w1) :
    if Region.wanted oi (yielded ops a.tmps) = true then Oper.wp P oi a w K Q else K (a.put oi.dst undef) w := by
  rw [if_pos hw]
  unfold Oper.wp
  rw [hrun]
  show K (a.put oi.dst undef) w1
  rw [hN]
  exact h
theorem m_rows {k : Nat} {a b : List Int} {r : Bool} (h : stolonref01_Rows.f k a b = some r) (A : Option Addr) (c : Nat) (B : Option Addr) (d : Nat) (w : World) (hr : Kd.C (Kd.int .u32) w A a.length a) (hc : a.length ≤ c) (hs : Kd.C (Kd.int .u32) w B b.length b) (hd : b.length ≤ d) :
    Calls Try.prog 24 #[.slice A a.length c, .slice B b.length d] w fun e w' => e = .returned (.bool r) ∧ Below w.heap.size w w' :=
  (stolonref01_Rows.calls k A c a B d b r w hr hc hs hd h).mono fun _ _ h => ⟨h.1, drawn_below h.2⟩
set_option maxHeartbeats 8000000 in
set_option maxRecDepth 100000 in
theorem more_few0 (l : List S29) (f0 : Bool) (f1 : List Int) (x : Int) {k : Nat} (q1 : stolonlaw06_filters.f k l = some false) (A_l : Option Addr) (c_l : Nat) (A_f : Option Addr) (c_f : Nat) (w : World) (hr : Kd.C k29 w A_l l.length l) (hc : l.length ≤ c_l) (hr2 : Kd.C (Kd.int .u32) w A_f f1.length f1) (hc2 : f1.length ≤ c_f) :
    Calls Try.prog 7 #[.slice A_l l.length c_l, .agg #[.bool f0, .slice A_f f1.length c_f], .int .u32 x] w fun e w' => e = .returned (.bool true) ∧ Below w.heap.size w w' := by
  have hu29 := Try.underlying29
  have HB := Aside0.mk (Below.refl w.heap.size w)
  have HC_l := Aside0.mk hr
  have HK_l := Aside0.mk hc
  have HC_f := Aside0.mk hr2
  have HK_f := Aside0.mk hc2
  clear hr hc hr2 hc2
  have Q1 := Aside0.mk q1
  go_enter Try.func7, Try.ntmps7
  go_wp2_with (first | ((with_reducible refine gate_dst (N := 4) rfl ?_); (try (refine gate_guard (by rfl) ?_; dsimp only)); refine box_event ?hg (N := 4) ?hd (cs := #[.bool f0, .slice A_f f1.length c_f]) (t := 29) ?hr ?_; (case hd => rfl); (case hg => rfl); (case hr => first | (go_simp; done) | (go_simp; rfl)); intro gf hg w1_ hbox hB; have HBo := Aside0.mk HB.out; have nHB := Aside0.mk (HB.out.trans (hB.mono HB.out.size)); clear HB; have HB := nHB; clear nHB; have BK_gf := Aside0.mk hbox; have GE_gf := Aside0.mk (show w.heap.size ≤ gf by rw [hg]; exact HBo.out.size); clear hg hbox hB; have hc_gf_0 : w1_.cell? ⟨gf, 0, none⟩ = some (.bool f0) := (blk_cell BK_gf.out 0).trans rfl; have hf_gf_0 := blk_frozen BK_gf.out 0; have hc_gf_1 : w1_.cell? ⟨gf, 1, none⟩ = some (.slice A_f f1.length c_f) := (blk_cell BK_gf.out 1).trans rfl; have hf_gf_1 := blk_frozen BK_gf.out 1; clear HBo) | (go_at_call 10; with_reducible refine (m_shown _).mono ?_; rintro e w2_ ⟨rfl, hB⟩; have nHB := Aside0.mk (HB.out.trans (hB.mono HB.out.size)); clear HB; have HB := nHB; clear nHB; clear hc_gf_0 hf_gf_0 hc_gf_1 hf_gf_1; have nBK := Aside0.mk (blk_below (g := gf) (o := .cells #[.bool f0, .slice A_f f1.length c_f] 29 (0, 0)) BK_gf.out hB); clear BK_gf; have BK_gf := nBK; clear nBK; have hc_gf_0 : w2_.cell? ⟨gf, 0, none⟩ = some (.bool f0) := (blk_cell BK_gf.out 0).trans rfl; have hf_gf_0 := blk_frozen BK_gf.out 0; have hc_gf_1 : w2_.cell? ⟨gf, 1, none⟩ = some (.slice A_f f1.length c_f) := (blk_cell BK_gf.out 1).trans rfl; have hf_gf_1 := blk_frozen BK_gf.out 1; clear hB) | (go_at_call 11; with_reducible refine (m_filters Q1.out _ _ _ (Kd.C_below HC_l.out HB.out) HK_l.out).mono ?_; rintro e w3_ ⟨rfl, hB⟩; have nHB := Aside0.mk (HB.out.trans (hB.mono HB.out.size)); clear HB; have HB := nHB; clear nHB; clear hc_gf_0 hf_gf_0 hc_gf_1 hf_gf_1; have nBK := Aside0.mk (blk_below (g := gf) (o := .cells #[.bool f0, .slice A_f f1.length c_f] 29 (0, 0)) BK_gf.out hB); clear BK_gf; have BK_gf := nBK; clear nBK; have hc_gf_0 : w3_.cell? ⟨gf, 0, none⟩ = some (.bool f0) := (blk_cell BK_gf.out 0).trans rfl; have hf_gf_0 := blk_frozen BK_gf.out 0; have hc_gf_1 : w3_.cell? ⟨gf, 1, none⟩ = some (.slice A_f f1.length c_f) := (blk_cell BK_gf.out 1).trans rfl; have hf_gf_1 := blk_frozen BK_gf.out 1; clear hB))
  go_ret
  exact ⟨rfl, HB.out⟩
set_option maxHeartbeats 8000000 in
set_option maxRecDepth 100000 in
theorem more_few1 (l : List S29) (f0 : Bool) (f1 : List Int) (x : Int) {k : Nat} (q1 : stolonlaw06_filters.f k l = some true) (q2 : stolonlaw06_filters.f k [(⟨f0, f1⟩ : S29)] = some false) (A_l : Option Addr) (c_l : Nat) (A_f : Option Addr) (c_f : Nat) (w : World) (hr : Kd.C k29 w A_l l.length l) (hc : l.length ≤ c_l) (hr2 : Kd.C (Kd.int .u32) w A_f f1.length f1) (hc2 : f1.length ≤ c_f) :
    Calls Try.prog 7 #[.slice A_l l.length c_l, .agg #[.bool f0, .slice A_f f1.length c_f], .int .u32 x] w fun e w' => e = .returned (.bool true) ∧ Below w.heap.size w w' := by
  have hu29 := Try.underlying29
  have HB := Aside0.mk (Below.refl w.heap.size w)
  have HC_l := Aside0.mk hr
  have HK_l := Aside0.mk hc
  have HC_f := Aside0.mk hr2
  have HK_f := Aside0.mk hc2
  clear hr hc hr2 hc2
  have Q1 := Aside0.mk q1
  obtain ⟨y, hy⟩ : ∃ y_, y_ = [(⟨f0, f1⟩ : S29)] := ⟨_, rfl⟩
  rw [← hy] at q2
  have HY := Aside0.mk hy
  clear hy
  have Q2 := Aside0.mk q2
  go_enter Try.func7, Try.ntmps7
  go_wp2_with (first | ((with_reducible refine gate_dst (N := 4) rfl ?_); (try (refine gate_guard (by rfl) ?_; dsimp only)); refine box_event ?hg (N := 4) ?hd (cs := #[.bool f0, .slice A_f f1.length c_f]) (t := 29) ?hr ?_; (case hd => rfl); (case hg => rfl); (case hr => first | (go_simp; done) | (go_simp; rfl)); intro gf hg w1_ hbox hB; have HBo := Aside0.mk HB.out; have nHB := Aside0.mk (HB.out.trans (hB.mono HB.out.size)); clear HB; have HB := nHB; clear nHB; have BK_gf := Aside0.mk hbox; have GE_gf := Aside0.mk (show w.heap.size ≤ gf by rw [hg]; exact HBo.out.size); clear hg hbox hB; have hc_gf_0 : w1_.cell? ⟨gf, 0, none⟩ = some (.bool f0) := (blk_cell BK_gf.out 0).trans rfl; have hf_gf_0 := blk_frozen BK_gf.out 0; have hc_gf_1 : w1_.cell? ⟨gf, 1, none⟩ = some (.slice A_f f1.length c_f) := (blk_cell BK_gf.out 1).trans rfl; have hf_gf_1 := blk_frozen BK_gf.out 1; clear HBo) | (go_at_call 10; with_reducible refine (m_shown _).mono ?_; rintro e w2_ ⟨rfl, hB⟩; have nHB := Aside0.mk (HB.out.trans (hB.mono HB.out.size)); clear HB; have HB := nHB; clear nHB; clear hc_gf_0 hf_gf_0 hc_gf_1 hf_gf_1; have nBK := Aside0.mk (blk_below (g := gf) (o := .cells #[.bool f0, .slice A_f f1.length c_f] 29 (0, 0)) BK_gf.out hB); clear BK_gf; have BK_gf := nBK; clear nBK; have hc_gf_0 : w2_.cell? ⟨gf, 0, none⟩ = some (.bool f0) := (blk_cell BK_gf.out 0).trans rfl; have hf_gf_0 := blk_frozen BK_gf.out 0; have hc_gf_1 : w2_.cell? ⟨gf, 1, none⟩ = some (.slice A_f f1.length c_f) := (blk_cell BK_gf.out 1).trans rfl; have hf_gf_1 := blk_frozen BK_gf.out 1; clear hB) | (go_at_call 11; with_reducible refine (m_filters Q1.out _ _ _ (Kd.C_below HC_l.out HB.out) HK_l.out).mono ?_; rintro e w3_ ⟨rfl, hB⟩; have nHB := Aside0.mk (HB.out.trans (hB.mono HB.out.size)); clear HB; have HB := nHB; clear nHB; clear hc_gf_0 hf_gf_0 hc_gf_1 hf_gf_1; have nBK := Aside0.mk (blk_below (g := gf) (o := .cells #[.bool f0, .slice A_f f1.length c_f] 29 (0, 0)) BK_gf.out hB); clear BK_gf; have BK_gf := nBK; clear nBK; have hc_gf_0 : w3_.cell? ⟨gf, 0, none⟩ = some (.bool f0) := (blk_cell BK_gf.out 0).trans rfl; have hf_gf_0 := blk_frozen BK_gf.out 0; have hc_gf_1 : w3_.cell? ⟨gf, 1, none⟩ = some (.slice A_f f1.length c_f) := (blk_cell BK_gf.out 1).trans rfl; have hf_gf_1 := blk_frozen BK_gf.out 1; clear hB) | ((with_reducible refine gate_dst (N := 17) rfl ?_); (try (refine gate_guard (by rfl) ?_; dsimp only)); refine Kd.N_lit k29 _ 29 ?hg (N' := 17) ?hd (xs := [(⟨f0, f1⟩ : S29)]) (inner := [.bool f0, .slice A_f f1.length c_f]) (ok := fun _ => True) (okp := fun k => k < w3_.heap.size) ?hr ?hp (fun _ _ => trivial) trivial (Below.refl _ _) (Nat.le_refl _) (by simp) ?_; (case hd => rfl); (case hg => rfl); (case hr => first | (go_simp; done) | (go_simp; rfl)); (case hp => exact Reps.c2 (show Kd.FK k29 _ _ _ _ from k29_mkF _ _ (⟨f0, f1⟩ : S29) HK_f.out (Kd.C_F (Kd.heap_int .u32) (Kd.C_below HC_f.out HB.out))) (Reps.none _ _)); intro v_y w4_ hN hB hg_ hnew_; clear hg_ hnew_; rw [← HY.out] at hN; have nHB := Aside0.mk (HB.out.trans (hB.mono HB.out.size)); clear HB; have HB := nHB; clear nHB; clear hc_gf_0 hf_gf_0 hc_gf_1 hf_gf_1; have nBK := Aside0.mk (blk_below (g := gf) (o := .cells #[.bool f0, .slice A_f f1.length c_f] 29 (0, 0)) BK_gf.out hB); clear BK_gf; have BK_gf := nBK; clear nBK; have hc_gf_0 : w4_.cell? ⟨gf, 0, none⟩ = some (.bool f0) := (blk_cell BK_gf.out 0).trans rfl; have hf_gf_0 := blk_frozen BK_gf.out 0; have hc_gf_1 : w4_.cell? ⟨gf, 1, none⟩ = some (.slice A_f f1.length c_f) := (blk_cell BK_gf.out 1).trans rfl; have hf_gf_1 := blk_frozen BK_gf.out 1; obtain ⟨A_y, c_y, rfl⟩ := Kd.N_slice hN; have HC_y := Aside0.mk (Kd.N_reads' hN).2.2; have HK_y := Aside0.mk (Kd.N_reads' hN).2.1; clear hN hB) | (go_at_call 11; with_reducible refine (m_filters Q2.out _ _ _ HC_y.out HK_y.out).mono ?_; rintro e w5_ ⟨rfl, hB⟩; have nHB := Aside0.mk (HB.out.trans (hB.mono HB.out.size)); clear HB; have HB := nHB; clear nHB; clear hc_gf_0 hf_gf_0 hc_gf_1 hf_gf_1; have nBK := Aside0.mk (blk_below (g := gf) (o := .cells #[.bool f0, .slice A_f f1.length c_f] 29 (0, 0)) BK_gf.out hB); clear BK_gf; have BK_gf := nBK; clear nBK; have hc_gf_0 : w5_.cell? ⟨gf, 0, none⟩ = some (.bool f0) := (blk_cell BK_gf.out 0).trans rfl; have hf_gf_0 := blk_frozen BK_gf.out 0; have hc_gf_1 : w5_.cell? ⟨gf, 1, none⟩ = some (.slice A_f f1.length c_f) := (blk_cell BK_gf.out 1).trans rfl; have hf_gf_1 := blk_frozen BK_gf.out 1; have nHC := Aside0.mk (Kd.C_below HC_y.out hB); clear HC_y; have HC_y := nHC; clear nHC; clear hB))
  go_ret
  exact ⟨rfl, HB.out⟩
def more_T7 : Bool × List (List Nat × List Nat) := (true, [([], []), ([0], [0]), ([1], [1]), ([1], [1]), ([2, 3, 1, 1], [1, 2, 3]), ([4, 1], [1, 4]), ([5, 4, 1], [1, 5]), ([6], [6]), ([6], [6]), ([7, 8, 6, 6], [6, 7, 8]), ([6, 9, 1], [1, 6, 9]), ([1, 10], [1, 10]), ([11, 9], [11]), ([12], [12]), ([12], [12]), ([13, 14, 12, 12], [12, 13, 14]), ([12], [12]), ([12], [12]), ([16, 17, 15, 12], [12, 16, 17]), ([18, 18, 12], [12, 18]), ([19], [19]), ([19], [19]), ([20, 21, 19, 19], [19, 20, 21]), ([19, 22, 12], [12, 19, 22]), ([15, 23, 12], [12, 15, 23]), ([12, 24], [12, 24]), ([25, 22], [25]), ([26], [26]), ([27, 26], [26, 27]), ([26], [26]), ([29, 26], [26, 29]), ([28, 30, 26], [26, 28, 30]), ([26, 31], [26, 31]), ([32, 26], [32]), ([33], [33]), ([34, 33], [33, 34]), ([33], [33]), ([36, 33], [33, 36]), ([35, 37, 33, 33], [33, 35, 37]), ([33, 38], [33, 38]), ([39, 38, 0, 1, 2, 3, 4, 5, 6, 7, 8, 9, 10, 11, 12, 13, 14, 15, 16, 17, 18, 19, 20, 21, 22, 23, 24, 25, 26, 27, 28, 29, 30, 31, 32, 33, 34, 35, 36, 37, 38, 39], [39])])
def more_B7 : List Nat := [0, 1, 3, 3, 15, 31, 63, 127, 127, 511, 1023, 2047, 4095, 8191, 8191, 32767, 8191, 8191, 262143, 524287, 1048575, 1048575, 4194303, 8388607, 16777215, 33554431, 67108863, 134217727, 268435455, 134217727, 671088639, 2147483647, 4294967295, 8589934591, 17179869183, 34359738367, 17179869183, 85899345919, 274877906943, 549755813887, 1099511627775]
theorem more_T7t : rtab .any (opsOf Try.f7 7) = more_T7 := by kernel_rfl
theorem more_B7t : waitsOk more_T7.2 more_B7 = true := by kernel_rfl
def more_T5 : Bool × List (List Nat × List Nat) := (true, [([], []), ([], []), ([0, 1], [0, 1]), ([], []), ([3], [3]), ([2, 4, 2], [2, 4]), ([5, 5], [5]), ([], []), ([7, 6, 6, 0, 1, 2, 3, 4, 5, 6, 7], [6, 7])])
def more_B5 : List Nat := [0, 0, 3, 0, 8, 31, 63, 0, 255]
theorem more_tab5 : rtab .any (opsOf Try.f7 5) = more_T5 := by kernel_rfl
theorem more_bits5 : waitsOk more_T5.2 more_B5 = true := by kernel_rfl
set_option maxHeartbeats 8000000 in
set_option maxRecDepth 100000 in
theorem more_main (l : List S29) (f0 : Bool) (f1 : List Int) (x : Int) {k : Nat} (hl : l.length ≤ 200) (q1 : stolonlaw06_filters.f k l = some true) (q2 : stolonlaw06_filters.f k [(⟨f0, f1⟩ : S29)] = some true) {e0 e1 e2 : Bool} {s0 s1 s2 : List Int} (q3 : set_Filter.f k l = some (e0, s0)) (q4 : set_Filter.f k (l ++ [(⟨f0, f1⟩ : S29)]) = some (e1, s1)) (q5 : set_Filter.f k ([(⟨f0, f1⟩ : S29)] ++ l) = some (e2, s2)) {b0 b1 b2 : Bool} (q6 : set_Wants.f k e0 s0 x = some b0) (q7 : set_Wants.f k e1 s1 x = some b1) (q8 : set_Wants.f k f0 f1 x = some b2) (hb : b1 = (b0 || b2)) (he : e1 = e2) (q9 : stolonref01_Rows.f k s1 s2 = some true) (A_l : Option Addr) (c_l : Nat) (A_f : Option Addr) (c_f : Nat) (w : World) (hr : Kd.C k29 w A_l l.length l) (hc : l.length ≤ c_l) (hr2 : Kd.C (Kd.int .u32) w A_f f1.length f1) (hc2 : f1.length ≤ c_f) :
    Calls Try.prog 7 #[.slice A_l l.length c_l, .agg #[.bool f0, .slice A_f f1.length c_f], .int .u32 x] w fun e w' => e = .returned (.bool true) ∧ Below w.heap.size w w' := by
  have hu29 := Try.underlying29
  have HB := Aside0.mk (Below.refl w.heap.size w)
  have HC_l := Aside0.mk hr
  have HK_l := Aside0.mk hc
  have HC_f := Aside0.mk hr2
  have HK_f := Aside0.mk hc2
  clear hr hc hr2 hc2
  obtain ⟨y, hy⟩ : ∃ y_, y_ = [(⟨f0, f1⟩ : S29)] := ⟨_, rfl⟩
  rw [← hy] at q2 q4 q5
  have HY := Aside0.mk hy
  clear hy
  obtain ⟨yl, hyl⟩ : ∃ y_, y_ = y ++ l := ⟨_, rfl⟩
  rw [← hyl] at q5
  have HYL := Aside0.mk hyl
  clear hyl
  have Q1 := Aside0.mk q1
  have Q2 := Aside0.mk q2
  have Q3 := Aside0.mk q3
  have QF4 := Aside0.mk q4
  have Q5 := Aside0.mk q5
  have Q6 := Aside0.mk q6
  have Q7 := Aside0.mk q7
  have Q8 := Aside0.mk q8
  have Q9 := Aside0.mk q9
  have HL := Aside0.mk hl
  clear q1 q2 q3 q4 q5 q6 q7 q8 q9 hl
  subst he
  go_enter Try.func7, Try.ntmps7
  go_upto_region 5 with (first | ((with_reducible refine gate_dst (N := 4) rfl ?_); (try (refine gate_guard (by rfl) ?_; dsimp only)); refine box_event ?hg (N := 4) ?hd (cs := #[.bool f0, .slice A_f f1.length c_f]) (t := 29) ?hr ?_; (case hd => rfl); (case hg => rfl); (case hr => first | (go_simp; done) | (go_simp; rfl)); intro gf hg w1_ hbox hB; have HBo := Aside0.mk HB.out; have nHB := Aside0.mk (HB.out.trans (hB.mono HB.out.size)); clear HB; have HB := nHB; clear nHB; have BK_gf := Aside0.mk hbox; have GE_gf := Aside0.mk (show w.heap.size ≤ gf by rw [hg]; exact HBo.out.size); clear hg hbox hB; have hc_gf_0 : w1_.cell? ⟨gf, 0, none⟩ = some (.bool f0) := (blk_cell BK_gf.out 0).trans rfl; have hf_gf_0 := blk_frozen BK_gf.out 0; have hc_gf_1 : w1_.cell? ⟨gf, 1, none⟩ = some (.slice A_f f1.length c_f) := (blk_cell BK_gf.out 1).trans rfl; have hf_gf_1 := blk_frozen BK_gf.out 1; clear HBo) | (go_at_call 10; with_reducible refine (m_shown _).mono ?_; rintro e w2_ ⟨rfl, hB⟩; have nHB := Aside0.mk (HB.out.trans (hB.mono HB.out.size)); clear HB; have HB := nHB; clear nHB; clear hc_gf_0 hf_gf_0 hc_gf_1 hf_gf_1; have nBK := Aside0.mk (blk_below (g := gf) (o := .cells #[.bool f0, .slice A_f f1.length c_f] 29 (0, 0)) BK_gf.out hB); clear BK_gf; have BK_gf := nBK; clear nBK; have hc_gf_0 : w2_.cell? ⟨gf, 0, none⟩ = some (.bool f0) := (blk_cell BK_gf.out 0).trans rfl; have hf_gf_0 := blk_frozen BK_gf.out 0; have hc_gf_1 : w2_.cell? ⟨gf, 1, none⟩ = some (.slice A_f f1.length c_f) := (blk_cell BK_gf.out 1).trans rfl; have hf_gf_1 := blk_frozen BK_gf.out 1; clear hB) | (go_at_call 11; with_reducible refine (m_filters Q1.out _ _ _ (Kd.C_below HC_l.out HB.out) HK_l.out).mono ?_; rintro e w3_ ⟨rfl, hB⟩; have nHB := Aside0.mk (HB.out.trans (hB.mono HB.out.size)); clear HB; have HB := nHB; clear nHB; clear hc_gf_0 hf_gf_0 hc_gf_1 hf_gf_1; have nBK := Aside0.mk (blk_below (g := gf) (o := .cells #[.bool f0, .slice A_f f1.length c_f] 29 (0, 0)) BK_gf.out hB); clear BK_gf; have BK_gf := nBK; clear nBK; have hc_gf_0 : w3_.cell? ⟨gf, 0, none⟩ = some (.bool f0) := (blk_cell BK_gf.out 0).trans rfl; have hf_gf_0 := blk_frozen BK_gf.out 0; have hc_gf_1 : w3_.cell? ⟨gf, 1, none⟩ = some (.slice A_f f1.length c_f) := (blk_cell BK_gf.out 1).trans rfl; have hf_gf_1 := blk_frozen BK_gf.out 1; clear hB) | ((with_reducible refine gate_dst (N := 17) rfl ?_); (try (refine gate_guard (by rfl) ?_; dsimp only)); refine Kd.N_lit k29 _ 29 ?hg (N' := 17) ?hd (xs := [(⟨f0, f1⟩ : S29)]) (inner := [.bool f0, .slice A_f f1.length c_f]) (ok := fun _ => True) (okp := fun k => k < w3_.heap.size) ?hr ?hp (fun _ _ => trivial) trivial (Below.refl _ _) (Nat.le_refl _) (by simp) ?_; (case hd => rfl); (case hg => rfl); (case hr => first | (go_simp; done) | (go_simp; rfl)); (case hp => exact Reps.c2 (show Kd.FK k29 _ _ _ _ from k29_mkF _ _ (⟨f0, f1⟩ : S29) HK_f.out (Kd.C_F (Kd.heap_int .u32) (Kd.C_below HC_f.out HB.out))) (Reps.none _ _)); intro v_y w4_ hN hB hg_ hnew_; clear hg_ hnew_; rw [← HY.out] at hN; have nHB := Aside0.mk (HB.out.trans (hB.mono HB.out.size)); clear HB; have HB := nHB; clear nHB; clear hc_gf_0 hf_gf_0 hc_gf_1 hf_gf_1; have nBK := Aside0.mk (blk_below (g := gf) (o := .cells #[.bool f0, .slice A_f f1.length c_f] 29 (0, 0)) BK_gf.out hB); clear BK_gf; have BK_gf := nBK; clear nBK; have hc_gf_0 : w4_.cell? ⟨gf, 0, none⟩ = some (.bool f0) := (blk_cell BK_gf.out 0).trans rfl; have hf_gf_0 := blk_frozen BK_gf.out 0; have hc_gf_1 : w4_.cell? ⟨gf, 1, none⟩ = some (.slice A_f f1.length c_f) := (blk_cell BK_gf.out 1).trans rfl; have hf_gf_1 := blk_frozen BK_gf.out 1; obtain ⟨A_y, c_y, rfl⟩ := Kd.N_slice hN; have HC_y := Aside0.mk (Kd.N_reads' hN).2.2; have HK_y := Aside0.mk (Kd.N_reads' hN).2.1; clear hN hB) | (go_at_call 11; with_reducible refine (m_filters Q2.out _ _ _ HC_y.out HK_y.out).mono ?_; rintro e w5_ ⟨rfl, hB⟩; have nHB := Aside0.mk (HB.out.trans (hB.mono HB.out.size)); clear HB; have HB := nHB; clear nHB; clear hc_gf_0 hf_gf_0 hc_gf_1 hf_gf_1; have nBK := Aside0.mk (blk_below (g := gf) (o := .cells #[.bool f0, .slice A_f f1.length c_f] 29 (0, 0)) BK_gf.out hB); clear BK_gf; have BK_gf := nBK; clear nBK; have hc_gf_0 : w5_.cell? ⟨gf, 0, none⟩ = some (.bool f0) := (blk_cell BK_gf.out 0).trans rfl; have hf_gf_0 := blk_frozen BK_gf.out 0; have hc_gf_1 : w5_.cell? ⟨gf, 1, none⟩ = some (.slice A_f f1.length c_f) := (blk_cell BK_gf.out 1).trans rfl; have hf_gf_1 := blk_frozen BK_gf.out 1; have nHC := Aside0.mk (Kd.C_below HC_y.out hB); clear HC_y; have HC_y := nHC; clear nHC; clear hB) | (go_at_call 12; with_reducible refine (m_filter Q3.out _ _ _ (Kd.C_below HC_l.out HB.out) HK_l.out).mono ?_; rintro e w6_ ⟨v_s0, rfl, hR, hB⟩; obtain ⟨A_s0, c_s0, rfl⟩ := Kd.R_slice hR; have hsz := HB.out.size; have nHB := Aside0.mk (HB.out.trans (hB.mono HB.out.size)); clear HB; have HB := nHB; clear nHB; clear hc_gf_0 hf_gf_0 hc_gf_1 hf_gf_1; have nBK := Aside0.mk (blk_below (g := gf) (o := .cells #[.bool f0, .slice A_f f1.length c_f] 29 (0, 0)) BK_gf.out hB); clear BK_gf; have BK_gf := nBK; clear nBK; have hc_gf_0 : w6_.cell? ⟨gf, 0, none⟩ = some (.bool f0) := (blk_cell BK_gf.out 0).trans rfl; have hf_gf_0 := blk_frozen BK_gf.out 0; have hc_gf_1 : w6_.cell? ⟨gf, 1, none⟩ = some (.slice A_f f1.length c_f) := (blk_cell BK_gf.out 1).trans rfl; have hf_gf_1 := blk_frozen BK_gf.out 1; have nHC := Aside0.mk (Kd.C_below HC_y.out hB); clear HC_y; have HC_y := nHC; clear nHC; have HR_s0 := Aside0.mk (Kd.R_mono (Kd.R_lower hR hsz) (fun _ _ => trivial : ∀ k, _ → (fun _ => True) k)); clear hR hsz; clear hB) | ((with_reducible refine gate_dst (N := 8) rfl ?_); (try (refine gate_guard (by rfl) ?_; dsimp only)); refine box_event ?hg (N := 8) ?hd (cs := #[.bool false, .slice none 0 0]) (t := 29) ?hr ?_; (case hd => rfl); (case hg => rfl); (case hr => first | (go_simp; done) | (go_simp; rfl)); intro gw hg w7_ hbox hB0; have hG := Aside0.mk (show w6_.heap.size ≤ gw from Nat.le_of_eq hg.symm); clear hg; have hBX := Aside0.mk hbox; have hB1 := Aside0.mk hB0; clear hB0; have hc_gw_0 : w7_.cell? ⟨gw, 0, none⟩ = some (.bool false) := (blk_cell hbox 0).trans rfl; have hf_gw_0 := blk_frozen hbox 0; have hc_gw_1 : w7_.cell? ⟨gw, 1, none⟩ = some (.slice none 0 0) := (blk_cell hbox 1).trans rfl; have hf_gw_1 := blk_frozen hbox 1; clear hbox))
  have hB : Below w6_.heap.size w6_ ((w7_.setCell ⟨gw, 0, none⟩ (.bool e0)).setCell ⟨gw, 1, none⟩ (.slice A_s0 s0.length c_s0)) := (below_set (below_set hB1.out hG.out) hG.out)
  have hBN : ((w7_.setCell ⟨gw, 0, none⟩ (.bool e0)).setCell ⟨gw, 1, none⟩ (.slice A_s0 s0.length c_s0)).heap[gw]? = some (.cells #[.bool e0, .slice A_s0 s0.length c_s0] 29 (0, 0)) := (blk_put (cs := #[.bool e0, .slice none 0 0]) (blk_put (cs := #[.bool false, .slice none 0 0]) hBX.out 0 (.bool e0) rfl) 1 (.slice A_s0 s0.length c_s0) rfl)
  clear hBX hB1
  clear hc_gw_0 hf_gw_0 hc_gw_1 hf_gw_1
  generalize ((w7_.setCell ⟨gw, 0, none⟩ (.bool e0)).setCell ⟨gw, 1, none⟩ (.slice A_s0 s0.length c_s0)) = w8_ at hB hBN ⊢
  have NB_gw_gf := Aside0.mk (show gw ≠ gf from Nat.ne_of_gt (Nat.lt_of_lt_of_le (blk_lt (g := gf) (o := .cells #[.bool f0, .slice A_f f1.length c_f] 29 (0, 0)) BK_gf.out) hG.out))
  have NB_gf_gw := Aside0.mk (Ne.symm NB_gw_gf.out)
  have HBo := Aside0.mk HB.out
  have nHB := Aside0.mk (HB.out.trans (hB.mono HB.out.size))
  clear HB
  have HB := nHB
  clear nHB
  clear hc_gf_0 hf_gf_0 hc_gf_1 hf_gf_1
  have nBK := Aside0.mk (blk_below (g := gf) (o := .cells #[.bool f0, .slice A_f f1.length c_f] 29 (0, 0)) BK_gf.out hB)
  clear BK_gf
  have BK_gf := nBK
  clear nBK
  have hc_gf_0 : w8_.cell? ⟨gf, 0, none⟩ = some (.bool f0) := (blk_cell BK_gf.out 0).trans rfl
  have hf_gf_0 := blk_frozen BK_gf.out 0
  have hc_gf_1 : w8_.cell? ⟨gf, 1, none⟩ = some (.slice A_f f1.length c_f) := (blk_cell BK_gf.out 1).trans rfl
  have hf_gf_1 := blk_frozen BK_gf.out 1
  have nHC := Aside0.mk (Kd.C_below HC_y.out hB)
  clear HC_y
  have HC_y := nHC
  clear nHC
  have nHC := Aside0.mk (Kd.R_below HR_s0.out hB)
  clear HR_s0
  have HR_s0 := nHC
  clear nHC
  have BK_gw := Aside0.mk hBN
  have GE_gw := Aside0.mk (Nat.le_trans HBo.out.size hG.out)
  clear HBo hG hBN hB
  have hc_gw_0 : w8_.cell? ⟨gw, 0, none⟩ = some (.bool e0) := (blk_cell BK_gw.out 0).trans rfl
  have hf_gw_0 := blk_frozen BK_gw.out 0
  have hc_gw_1 : w8_.cell? ⟨gw, 1, none⟩ = some (.slice A_s0 s0.length c_s0) := (blk_cell BK_gw.out 1).trans rfl
  have hf_gw_1 := blk_frozen BK_gw.out 1
  refine start_ (n := 9) (S := fun w' => True) (ds := []) #[false, false, false, false, false, false, false, false, false] (by kernel_rfl) rfl rfl trivial (fun hHeld => ?_); refine with_tabW more_tab5 more_bits5 (fun HT_ HW_ => ?_)
  have hB : Below w8_.heap.size w8_ w8_.drew := below_drew (Below.refl _ _)
  generalize w8_.drew = w8_d at hB hHeld ⊢
  have nHB := Aside0.mk (HB.out.trans (hB.mono HB.out.size))
  clear HB
  have HB := nHB
  clear nHB
  clear hc_gf_0 hf_gf_0 hc_gf_1 hf_gf_1
  have nBK := Aside0.mk (blk_below (g := gf) (o := .cells #[.bool f0, .slice A_f f1.length c_f] 29 (0, 0)) BK_gf.out hB)
  clear BK_gf
  have BK_gf := nBK
  clear nBK
  have hc_gf_0 : w8_d.cell? ⟨gf, 0, none⟩ = some (.bool f0) := (blk_cell BK_gf.out 0).trans rfl
  have hf_gf_0 := blk_frozen BK_gf.out 0
  have hc_gf_1 : w8_d.cell? ⟨gf, 1, none⟩ = some (.slice A_f f1.length c_f) := (blk_cell BK_gf.out 1).trans rfl
  have hf_gf_1 := blk_frozen BK_gf.out 1
  clear hc_gw_0 hf_gw_0 hc_gw_1 hf_gw_1
  have nBK := Aside0.mk (blk_below (g := gw) (o := .cells #[.bool e0, .slice A_s0 s0.length c_s0] 29 (0, 0)) BK_gw.out hB)
  clear BK_gw
  have BK_gw := nBK
  clear nBK
  have hc_gw_0 : w8_d.cell? ⟨gw, 0, none⟩ = some (.bool e0) := (blk_cell BK_gw.out 0).trans rfl
  have hf_gw_0 := blk_frozen BK_gw.out 0
  have hc_gw_1 : w8_d.cell? ⟨gw, 1, none⟩ = some (.slice A_s0 s0.length c_s0) := (blk_cell BK_gw.out 1).trans rfl
  have hf_gw_1 := blk_frozen BK_gw.out 1
  have nHC := Aside0.mk (Kd.C_below HC_y.out hB)
  clear HC_y
  have HC_y := nHC
  clear nHC
  have nHC := Aside0.mk (Kd.R_below HR_s0.out hB)
  clear HR_s0
  have HR_s0 := nHC
  clear nHC
  clear hB
  have HCl_V := Aside0.mk (Kd.C_below HC_l.out HB.out)
  have HCf_V := Aside0.mk (Kd.C_below HC_f.out HB.out)
  have Y1 : Aside0 (y.length = 1) := ⟨by rw [HY.out]; rfl⟩
  refine inv_at [0, 1, 2, 3, 4, 5, 6, 7, 8] (fun a0_ b a w' => ∃ (v24 v26 v28 v29 v30 : Value) (g9 : Nat), a = putSel a0_ b [(0, 24, v24), (1, 25, .slice A_l l.length c_l), (2, 26, v26), (3, 27, .agg #[.bool f0, .slice A_f f1.length c_f]), (4, 28, v28), (5, 29, v29), (6, 30, .agg #[.bool e1, v30]), (7, 9, .pointer (some ⟨g9, 0, none⟩))] ∧ Below w8_d.heap.size w8_d w'
    ∧ (b 0 = true → b 2 = false → Kd.N k29 29 w' w8_d.heap.size (fun _ => True) v24 [])
    ∧ (b 2 = true → b 5 = false → Kd.N k29 29 w' w8_d.heap.size (fun _ => True) v26 l)
    ∧ (b 4 = true → b 5 = false → Kd.V k29 29 w' 0 (fun k => (b 0 = true → b 2 = false → some k ≠ v24.ownBlock) ∧ (b 2 = true → some k ≠ v26.ownBlock)) v28 y)
    ∧ (b 5 = true → b 6 = false → Kd.V k29 29 w' 0 (fun _ => True) v29 (l ++ y))
    ∧ (b 6 = true → Kd.V (Kd.int .u32) 24 w' 0 (fun k => b 7 = true → k ≠ g9) v30 s1)
    ∧ (b 7 = true → w8_d.heap.size ≤ g9 ∧ (b 0 = true → b 2 = false → some g9 ≠ v24.ownBlock) ∧ (b 2 = true → b 5 = false → some g9 ≠ v26.ownBlock) ∧ w'.heap[g9]? = some (.cells (if b 8 = true then #[.bool e1, v30] else #[.bool false, .slice none 0 0]) 29 (0, 0)))) HT_.out HW_.out (by kernel_rfl) (by kernel_rfl) ?_ ?_ ?_
  · exact ⟨.bool false, .bool false, .bool false, .bool false, .bool false, 0, by simp only [putSel, Bool.false_eq_true, if_false], Below.refl _ _, fun h => absurd h (by decide), fun h => absurd h (by decide), fun h => absurd h (by decide), fun h => absurd h (by decide), fun h => absurd h (by decide), fun h => absurd h (by decide)⟩
  · skip
    refine steps_cons ?_ ?_
    · rintro b a w' ⟨v24, v26, v28, v29, v30, g9, ha, QB, Q0, Q2, Q4, Q5, Q6, Q7⟩ hb_ hon hoff
      refine ⟨_, rfl, fun K hK => ?_⟩
      replace ha := Aside0.mk ha
      refine Kd.N_lit_step k29 _ 29 ?hg (N' := 24) ?hd (xs := ([] : List S29)) (inner := []) (ok := fun _ => True) (okp := fun _ => True) ?hr ?hp (fun _ hk => hk) trivial (Below.refl _ _) (Nat.le_refl _) (by simp) ?_; (case hd => rfl); (case hg => rfl); (case hr => first | (go_simp; done) | (go_simp; rfl)); (case hp => exact Reps.none _ _)
      intro u w1 hN hb hg hat
      exact hK.out _ _ ⟨u, v26, v28, v29, v30, g9, (by rw [ha.out]; exact putSel_upk 0 hb_ rfl rfl rfl), QB.trans (hb.mono QB.size), fun _ _ => Kd.N_lower hN QB.size, fun h _ => absurd ((hoff 2 (by kernel_rfl)).symm.trans h) (by decide), fun h4 h5 => Kd.V_mono (Kd.V_below (Kd.V_bound (Q4 h4 h5)) hb) (fun k hk => ⟨fun _ _ e => by have := Kd.N_base hN k e.symm; have := hk.2; omega, fun h => absurd ((hoff 2 (by kernel_rfl)).symm.trans h) (by decide)⟩), fun h _ => absurd ((hoff 5 (by kernel_rfl)).symm.trans h) (by decide), fun h => absurd ((hoff 6 (by kernel_rfl)).symm.trans h) (by decide), fun h7 => ⟨(Q7 h7).1, fun _ _ e => by have := Kd.N_base hN g9 e.symm; have := blk_lt (Q7 h7).2.2.2; omega, fun h _ => absurd ((hoff 2 (by kernel_rfl)).symm.trans h) (by decide), blk_below (Q7 h7).2.2.2 hb⟩⟩
    refine steps_cons ?_ ?_
    · rintro b a w' ⟨v24, v26, v28, v29, v30, g9, ha, QB, Q0, Q2, Q4, Q5, Q6, Q7⟩ hb_ hon hoff
      refine ⟨_, rfl, fun K hK => ?_⟩
      have e0 : a.tmps[0]? = some (.slice A_l l.length c_l) := by rw [ha]; exact (putSel_off rfl).trans rfl
      replace ha := Aside0.mk ha
      refine value_ (w1 := w') (v := .slice A_l l.length c_l) (by rfl) rfl ?_ ?_
      · go_simp
        try rfl
      exact hK.out _ _ ⟨v24, v26, v28, v29, v30, g9, (by rw [ha.out]; exact putSel_upk 1 hb_ rfl rfl rfl), QB, Q0, Q2, Q4, Q5, Q6, Q7⟩
    refine steps_cons ?_ ?_
    · rintro b a w' ⟨v24, v26, v28, v29, v30, g9, ha, QB, Q0, Q2, Q4, Q5, Q6, Q7⟩ hb_ hon hoff
      refine ⟨_, rfl, fun K hK => ?_⟩
      have e24 : a.tmps[24]? = some (v24) := by rw [ha]; exact putSel_on (e := (0, 24, v24)) 0 rfl rfl (hon 0 (by kernel_rfl)) rfl
      have e25 : a.tmps[25]? = some (.slice A_l l.length c_l) := by rw [ha]; exact putSel_on (e := (1, 25, .slice A_l l.length c_l)) 1 rfl rfl (hon 1 (by kernel_rfl)) rfl
      replace ha := Aside0.mk ha
      have N0 := Q0 (hon 0 (by kernel_rfl)) hb_
      have hlen := HL.out
      refine Kd.N_append_rows_step k29 (w0 := w8_d) w8_d.heap.size (by rfl) (.tmp 24) (.tmp 25) 22 29 (.agg #[.bool false, .slice none 0 0]) 32 rfl Try.underlying22 info29 rfl (by decide) (by decide) v24 [] l A_l l.length c_l (fun _ => True) (fun k => k < w8_d.heap.size) (by simp only [Act.eval, Array.getD_eq_getD_getElem?, e24, Option.getD_some]) (by simp only [Act.eval, Array.getD_eq_getD_getElem?, e25, Option.getD_some]) N0 (Kd.F_below (Kd.C_F k29_heap HCl_V.out) QB) (fun k hk => ⟨trivial, fun e => by have := Kd.N_base N0 k e.symm; omega⟩) (fun _ _ => trivial) QB QB.size (by simp only [List.length_nil]; omega) ?_
      intro u w1 hN hB hg hat
      have ap : ∀ k, k < w'.heap.size → some k ≠ v24.ownBlock → some k ≠ u.ownBlock := fun k hk hne e => by
        rcases hat with hat | ⟨b1, hb1, hle⟩
        · exact hne (e.trans hat)
        · rw [hb1] at e; injection e with e; omega
      exact hK.out _ _ ⟨v24, u, v28, v29, v30, g9, (by rw [ha.out]; exact putSel_upk 2 hb_ rfl rfl rfl), hB, fun _ h => absurd ((up_self b 2).symm.trans h) (by decide), fun _ _ => hN, fun h4 h5 => Kd.V_mono (Kd.V_grown (Kd.V_bound (Kd.V_mono (Q4 h4 h5) (fun k hk => hk.1 (hon 0 (by kernel_rfl)) hb_))) hg (fun k hk => hk.1)) (fun k hk => ⟨fun _ h => absurd ((up_self b 2).symm.trans h) (by decide), fun _ => ap k hk.2 hk.1⟩), fun h _ => absurd ((hoff 5 (by kernel_rfl)).symm.trans h) (by decide), fun h => absurd ((hoff 6 (by kernel_rfl)).symm.trans h) (by decide), fun h7 => ⟨(Q7 h7).1, fun _ h => absurd ((up_self b 2).symm.trans h) (by decide), fun _ _ => ap g9 (blk_lt (Q7 h7).2.2.2) ((Q7 h7).2.1 (hon 0 (by kernel_rfl)) hb_), blk_grown (Q7 h7).2.2.2 hg ((Q7 h7).2.1 (hon 0 (by kernel_rfl)) hb_)⟩⟩
    refine steps_cons ?_ ?_
    · rintro b a w' ⟨v24, v26, v28, v29, v30, g9, ha, QB, Q0, Q2, Q4, Q5, Q6, Q7⟩ hb_ hon hoff
      refine ⟨_, rfl, fun K hK => ?_⟩
      have e4 : a.tmps[4]? = some (.pointer (some ⟨gf, 0, none⟩)) := by rw [ha]; exact (putSel_off rfl).trans rfl
      replace ha := Aside0.mk ha
      have hd0 : w'.cell? ⟨gf, 0, none⟩ = some (.bool f0) := (blk_cell (blk_below BK_gf.out QB) 0).trans rfl
      have hd1 : w'.cell? ⟨gf, 1, none⟩ = some (.slice A_f f1.length c_f) := (blk_cell (blk_below BK_gf.out QB) 1).trans rfl
      refine value_ (w1 := w') (v := .agg #[.bool f0, .slice A_f f1.length c_f]) (by rfl) rfl ?_ ?_
      · go_simp
        try rfl
      exact hK.out _ _ ⟨v24, v26, v28, v29, v30, g9, (by rw [ha.out]; exact putSel_upk 3 hb_ rfl rfl rfl), QB, Q0, Q2, Q4, Q5, Q6, Q7⟩
    refine steps_cons ?_ ?_
    · rintro b a w' ⟨v24, v26, v28, v29, v30, g9, ha, QB, Q0, Q2, Q4, Q5, Q6, Q7⟩ hb_ hon hoff
      refine ⟨_, rfl, fun K hK => ?_⟩
      have e27 : a.tmps[27]? = some (.agg #[.bool f0, .slice A_f f1.length c_f]) := by rw [ha]; exact putSel_on (e := (3, 27, .agg #[.bool f0, .slice A_f f1.length c_f])) 3 rfl rfl (hon 3 (by kernel_rfl)) rfl
      replace ha := Aside0.mk ha
      refine Kd.N_lit_step k29 _ 29 ?hg (N' := 28) ?hd (xs := [(⟨f0, f1⟩ : S29)]) (inner := [.bool f0, .slice A_f f1.length c_f]) (ok := fun k => k < w8_d.heap.size ∨ w'.heap.size ≤ k) (okp := fun k => k < w8_d.heap.size) ?hr ?hp (fun _ hk => .inl hk) (.inr (Nat.le_refl _)) (Below.refl _ _) (Nat.le_refl _) (by simp) ?_; (case hd => rfl); (case hg => rfl); (case hr => first | (go_simp; done) | (go_simp; rfl)); (case hp => exact Reps.c2 (show Kd.FK k29 _ _ _ _ from k29_mkF _ _ (⟨f0, f1⟩ : S29) HK_f.out (Kd.F_below (Kd.C_F (Kd.heap_int .u32) HCf_V.out) QB)) (Reps.none _ _))
      intro u w1 hN hb hg hat
      rw [← HY.out] at hN
      exact hK.out _ _ ⟨v24, v26, u, v29, v30, g9, (by rw [ha.out]; exact putSel_upk 4 hb_ rfl rfl rfl), QB.trans (hb.mono QB.size), fun h0 h2 => Kd.N_below (Q0 h0 h2) hb, fun h2 h5 => Kd.N_below (Q2 h2 h5) hb, fun _ h5 => Kd.V_mono (Kd.N_V hN) (fun k hk => ⟨fun h0 h2 e => by have := Kd.N_base (Q0 h0 h2) k e.symm; have := Kd.N_lt (Q0 h0 h2) k e.symm; omega, fun h2 e => by have := Kd.N_base (Q2 h2 h5) k e.symm; have := Kd.N_lt (Q2 h2 h5) k e.symm; omega⟩), fun h _ => absurd ((hoff 5 (by kernel_rfl)).symm.trans h) (by decide), fun h => absurd ((hoff 6 (by kernel_rfl)).symm.trans h) (by decide), fun h7 => ⟨(Q7 h7).1, (Q7 h7).2.1, (Q7 h7).2.2.1, blk_below (Q7 h7).2.2.2 hb⟩⟩
    refine steps_cons ?_ ?_
    · rintro b a w' ⟨v24, v26, v28, v29, v30, g9, ha, QB, Q0, Q2, Q4, Q5, Q6, Q7⟩ hb_ hon hoff
      refine ⟨_, rfl, fun K hK => ?_⟩
      have e26 : a.tmps[26]? = some (v26) := by rw [ha]; exact putSel_on (e := (2, 26, v26)) 2 rfl rfl (hon 2 (by kernel_rfl)) rfl
      have e28 : a.tmps[28]? = some (v28) := by rw [ha]; exact putSel_on (e := (4, 28, v28)) 4 rfl rfl (hon 4 (by kernel_rfl)) rfl
      replace ha := Aside0.mk ha
      have N2 := Q2 (hon 2 (by kernel_rfl)) hb_
      have V4 := Q4 (hon 4 (by kernel_rfl)) hb_
      have hlen := HL.out
      have y1 := Y1.out
      obtain ⟨Aq, cq, hq⟩ := Kd.V_slice V4
      rw [hq] at V4
      refine Kd.N_append_rows_step k29 (w0 := w8_d) w8_d.heap.size (by rfl) (.tmp 26) (.tmp 28) 22 29 (.agg #[.bool false, .slice none 0 0]) 32 rfl Try.underlying22 info29 rfl (by decide) (by decide) v26 l y Aq y.length cq (fun _ => True) (fun k => some k ≠ v26.ownBlock) (by simp only [Act.eval, Array.getD_eq_getD_getElem?, e26, Option.getD_some]) (by simp only [Act.eval, Array.getD_eq_getD_getElem?, e28, Option.getD_some, hq]) N2 (Kd.F_mono (Kd.V_F V4) (fun k hk => hk.2 (hon 2 (by kernel_rfl)))) (fun k hk => ⟨trivial, hk⟩) (fun _ _ => trivial) QB QB.size (by omega) ?_
      intro u w1 hN hB hg hat
      exact hK.out _ _ ⟨v24, v26, v28, u, v30, g9, (by rw [ha.out]; exact putSel_upk 5 hb_ rfl rfl rfl), hB, fun _ h => absurd ((hon 2 (by kernel_rfl)).symm.trans h) (by decide), fun _ h => absurd ((up_self b 5).symm.trans h) (by decide), fun _ h => absurd ((up_self b 5).symm.trans h) (by decide), fun _ _ => Kd.V_mono (Kd.N_V hN) (fun _ _ => trivial), fun h => absurd ((hoff 6 (by kernel_rfl)).symm.trans h) (by decide), fun h7 => ⟨(Q7 h7).1, fun _ h => absurd ((hon 2 (by kernel_rfl)).symm.trans h) (by decide), fun _ h => absurd ((up_self b 5).symm.trans h) (by decide), blk_grown (Q7 h7).2.2.2 hg ((Q7 h7).2.2.1 (hon 2 (by kernel_rfl)) hb_)⟩⟩
    refine steps_cons ?_ ?_
    · rintro b a w' ⟨v24, v26, v28, v29, v30, g9, ha, QB, Q0, Q2, Q4, Q5, Q6, Q7⟩ hb_ hon hoff
      refine ⟨_, rfl, fun K hK => ?_⟩
      have e29 : a.tmps[29]? = some (v29) := by rw [ha]; exact putSel_on (e := (5, 29, v29)) 5 rfl rfl (hon 5 (by kernel_rfl)) rfl
      replace ha := Aside0.mk ha
      have V5 := Q5 (hon 5 (by kernel_rfl)) hb_
      obtain ⟨Ar, cr, hq⟩ := Kd.V_slice V5
      rw [hq] at V5
      refine goes_ Try.func12 (by kernel_rfl) rfl #[.slice Ar (l ++ y).length cr] (by rfl) rfl rfl (by first | (simp only [List.map_toArray, List.map_cons, List.map_nil, Act.eval, Array.getD_eq_getD_getElem?, Option.getD_some, e29, hq]; done) | (simp only [List.map_toArray, List.map_cons, List.map_nil, Act.eval, Array.getD_eq_getD_getElem?, Option.getD_some, e29, hq]; rfl)) ?_
      with_reducible refine (m_filter QF4.out _ _ _ (Kd.V_reads' V5).2.2 (Kd.V_reads' V5).2.1).mono ?_
      rintro e w1 ⟨u, rfl, hR, hb⟩
      refine ⟨_, rfl, ?_⟩
      exact hK.out _ _ ⟨v24, v26, v28, v29, u, g9, (by rw [ha.out]; exact putSel_upk 6 hb_ rfl rfl rfl), QB.trans (hb.mono QB.size), fun _ h => absurd ((hon 2 (by kernel_rfl)).symm.trans h) (by decide), fun _ h => absurd ((hon 5 (by kernel_rfl)).symm.trans h) (by decide), fun _ h => absurd ((hon 5 (by kernel_rfl)).symm.trans h) (by decide), fun _ h => absurd ((up_self b 6).symm.trans h) (by decide), fun _ => Kd.V_mono (Kd.R_V (Kd.R_bound hR)) (fun k hk h7 e => by have := blk_lt (Q7 h7).2.2.2; have := hk.2.1; omega), fun h7 => ⟨(Q7 h7).1, fun _ h => absurd ((hon 2 (by kernel_rfl)).symm.trans h) (by decide), fun _ h => absurd ((hon 5 (by kernel_rfl)).symm.trans h) (by decide), by rw [if_neg (by rw [show up b 6 8 = b 8 from rfl, (hoff 8 (by kernel_rfl))]; decide)]; have h9 := (Q7 h7).2.2.2; rw [if_neg (by rw [(hoff 8 (by kernel_rfl))]; decide)] at h9; exact blk_below h9 hb⟩⟩
    refine steps_cons ?_ ?_
    · rintro b a w' ⟨v24, v26, v28, v29, v30, g9, ha, QB, Q0, Q2, Q4, Q5, Q6, Q7⟩ hb_ hon hoff
      refine ⟨_, rfl, fun K hK => ?_⟩
      replace ha := Aside0.mk ha
      refine box_step (by rfl) (N := 9) rfl (cs := #[.bool false, .slice none 0 0]) (t := 29) ?hr ?_; (case hr => first | (go_simp; done) | (go_simp; rfl))
      intro g hg w1 hbox hb
      exact hK.out _ _ ⟨v24, v26, v28, v29, v30, g, (by rw [ha.out]; exact putSel_upk 7 hb_ rfl rfl rfl), QB.trans (hb.mono QB.size), fun h0 h2 => Kd.N_below (Q0 h0 h2) hb, fun h2 h5 => Kd.N_below (Q2 h2 h5) hb, fun h4 h5 => Kd.V_below (Q4 h4 h5) hb, fun h5 h6 => Kd.V_below (Q5 h5 h6) hb, fun h6 => Kd.V_mono (Kd.V_below (Kd.V_bound (Q6 h6)) hb) (fun k hk _ e => by have := hk.2; omega), fun _ => ⟨by have := QB.size; omega, fun h0 h2 e => by have := Kd.N_lt (Q0 h0 h2) g e.symm; omega, fun h2 h5 e => by have := Kd.N_lt (Q2 h2 h5) g e.symm; omega, by rw [if_neg (by rw [show up b 7 8 = b 8 from rfl, (hoff 8 (by kernel_rfl))]; decide)]; exact hbox⟩⟩
    refine steps_cons ?_ ?_
    · rintro b a w' ⟨v24, v26, v28, v29, v30, g9, ha, QB, Q0, Q2, Q4, Q5, Q6, Q7⟩ hb_ hon hoff
      refine ⟨_, rfl, fun K hK => ?_⟩
      have e9 : a.tmps[9]? = some (.pointer (some ⟨g9, 0, none⟩)) := by rw [ha]; exact putSel_on (e := (7, 9, .pointer (some ⟨g9, 0, none⟩))) 7 rfl rfl (hon 7 (by kernel_rfl)) rfl
      have e30 : a.tmps[30]? = some (.agg #[.bool e1, v30]) := by rw [ha]; exact putSel_on (e := (6, 30, .agg #[.bool e1, v30])) 6 rfl rfl (hon 6 (by kernel_rfl)) rfl
      replace ha := Aside0.mk ha
      have V6 := Q6 (hon 6 (by kernel_rfl))
      obtain ⟨g1, _, _, g4⟩ := Q7 (hon 7 (by kernel_rfl))
      rw [if_neg (by rw [hb_]; decide)] at g4
      have hd0 : w'.cell? ⟨g9, 0, none⟩ = some (.bool false) := (blk_cell g4 0).trans rfl
      have hd1 : w'.cell? ⟨g9, 1, none⟩ = some (.slice none 0 0) := (blk_cell g4 1).trans rfl
      have hf0 := blk_frozen g4 0
      have hf1 := blk_frozen g4 1
      obtain ⟨As, cs, rfl⟩ := Kd.V_slice V6
      refine store_step (w1 := (w'.setCell ⟨g9, 0, none⟩ (.bool e1)).setCell ⟨g9, 1, none⟩ (.slice As s1.length cs)) (by rfl) rfl ?_ ?_
      · go_simp
        try rfl
      exact hK.out _ _ ⟨v24, v26, v28, v29, .slice As s1.length cs, g9, (by rw [ha.out]; exact (putSel_same rfl).symm), below_set (below_set QB g1) g1, fun _ h => absurd ((hon 2 (by kernel_rfl)).symm.trans h) (by decide), fun _ h => absurd ((hon 5 (by kernel_rfl)).symm.trans h) (by decide), fun _ h => absurd ((hon 5 (by kernel_rfl)).symm.trans h) (by decide), fun _ h => absurd ((hon 6 (by kernel_rfl)).symm.trans h) (by decide), fun _ => Kd.V_mono (Kd.V_far (p := ⟨g9, 1, none⟩) (Kd.V_far (p := ⟨g9, 0, none⟩) V6 (fun _ hk => hk (hon 7 (by kernel_rfl))) (.bool e1)) (fun _ hk => hk (hon 7 (by kernel_rfl))) (.slice As s1.length cs)) (fun _ hk => hk), fun _ => ⟨g1, fun _ h => absurd ((hon 2 (by kernel_rfl)).symm.trans h) (by decide), fun _ h => absurd ((hon 5 (by kernel_rfl)).symm.trans h) (by decide), by rw [if_pos (up_self b 8)]; exact blk_put (cs := #[.bool e1, .slice none 0 0]) (blk_put (cs := #[.bool false, .slice none 0 0]) g4 0 (.bool e1) rfl) 1 (.slice As s1.length cs) rfl⟩⟩
    exact steps_nil
  rintro b a w9 hall ⟨v24, v26, v28, v29, v30, g9, ha, QB, Q0, Q2, Q4, Q5, Q6, Q7⟩
  have hb0_ := hall 0 (by kernel_rfl)
  have hb1_ := hall 1 (by kernel_rfl)
  have hb2_ := hall 2 (by kernel_rfl)
  have hb3_ := hall 3 (by kernel_rfl)
  have hb4_ := hall 4 (by kernel_rfl)
  have hb5_ := hall 5 (by kernel_rfl)
  have hb6_ := hall 6 (by kernel_rfl)
  have hb7_ := hall 7 (by kernel_rfl)
  have hb8_ := hall 8 (by kernel_rfl)
  subst ha
  simp only [putSel, hb0_, hb1_, hb2_, hb3_, hb4_, hb5_, hb6_, hb7_, if_true, Act.put, List.setIfInBounds_toArray, List.set_cons_zero, List.set_cons_succ]
  have V6 := Q6 hb6_
  obtain ⟨g1, _, _, g4⟩ := Q7 hb7_
  rw [if_pos hb8_] at g4
  obtain ⟨A_s1, c_s1, rfl⟩ := Kd.V_slice V6
  have HC_s1 := Aside0.mk (Kd.V_reads' V6).2.2
  have HK_s1 := Aside0.mk (Kd.V_reads' V6).2.1
  have hB := QB
  clear Q0 Q2 Q4 Q5 Q6 Q7 V6 hall hb0_ hb1_ hb2_ hb3_ hb4_ hb5_ hb6_ hb7_ hb8_ HCl_V HCf_V Y1
  have NB_g9_gf := Aside0.mk (show g9 ≠ gf from Nat.ne_of_gt (Nat.lt_of_lt_of_le (blk_lt (g := gf) (o := .cells #[.bool f0, .slice A_f f1.length c_f] 29 (0, 0)) BK_gf.out) g1))
  have NB_gf_g9 := Aside0.mk (Ne.symm NB_g9_gf.out)
  have NB_g9_gw := Aside0.mk (show g9 ≠ gw from Nat.ne_of_gt (Nat.lt_of_lt_of_le (blk_lt (g := gw) (o := .cells #[.bool e0, .slice A_s0 s0.length c_s0] 29 (0, 0)) BK_gw.out) g1))
  have NB_gw_g9 := Aside0.mk (Ne.symm NB_g9_gw.out)
  have GE_g9 := Aside0.mk (Nat.le_trans HB.out.size g1)
  have nHB := Aside0.mk (HB.out.trans (hB.mono HB.out.size))
  clear HB
  have HB := nHB
  clear nHB
  clear hc_gf_0 hf_gf_0 hc_gf_1 hf_gf_1
  have nBK := Aside0.mk (blk_below (g := gf) (o := .cells #[.bool f0, .slice A_f f1.length c_f] 29 (0, 0)) BK_gf.out hB)
  clear BK_gf
  have BK_gf := nBK
  clear nBK
  have hc_gf_0 : w9.cell? ⟨gf, 0, none⟩ = some (.bool f0) := (blk_cell BK_gf.out 0).trans rfl
  have hf_gf_0 := blk_frozen BK_gf.out 0
  have hc_gf_1 : w9.cell? ⟨gf, 1, none⟩ = some (.slice A_f f1.length c_f) := (blk_cell BK_gf.out 1).trans rfl
  have hf_gf_1 := blk_frozen BK_gf.out 1
  clear hc_gw_0 hf_gw_0 hc_gw_1 hf_gw_1
  have nBK := Aside0.mk (blk_below (g := gw) (o := .cells #[.bool e0, .slice A_s0 s0.length c_s0] 29 (0, 0)) BK_gw.out hB)
  clear BK_gw
  have BK_gw := nBK
  clear nBK
  have hc_gw_0 : w9.cell? ⟨gw, 0, none⟩ = some (.bool e0) := (blk_cell BK_gw.out 0).trans rfl
  have hf_gw_0 := blk_frozen BK_gw.out 0
  have hc_gw_1 : w9.cell? ⟨gw, 1, none⟩ = some (.slice A_s0 s0.length c_s0) := (blk_cell BK_gw.out 1).trans rfl
  have hf_gw_1 := blk_frozen BK_gw.out 1
  have nHC := Aside0.mk (Kd.C_below HC_y.out hB)
  clear HC_y
  have HC_y := nHC
  clear nHC
  have nHC := Aside0.mk (Kd.R_below HR_s0.out hB)
  clear HR_s0
  have HR_s0 := nHC
  clear nHC
  have BK_g9 := Aside0.mk g4
  clear hB g1 g4 QB
  have hc_g9_0 : w9.cell? ⟨g9, 0, none⟩ = some (.bool e1) := (blk_cell BK_g9.out 0).trans rfl
  have hf_g9_0 := blk_frozen BK_g9.out 0
  have hc_g9_1 : w9.cell? ⟨g9, 1, none⟩ = some (.slice A_s1 s1.length c_s1) := (blk_cell BK_g9.out 1).trans rfl
  have hf_g9_1 := blk_frozen BK_g9.out 1
  go_upto_region 7 with (first | ((with_reducible refine gate_dst (N := 32) rfl ?_); (try (refine gate_guard (by rfl) ?_; dsimp only)); refine Kd.N_lit k29 _ 29 ?hg (N' := 32) ?hd (xs := [(⟨f0, f1⟩ : S29)]) (inner := [.bool f0, .slice A_f f1.length c_f]) (ok := fun _ => True) (okp := fun k => k < w9.heap.size) ?hr ?hp (fun _ _ => trivial) trivial (Below.refl _ _) (Nat.le_refl _) (by simp) ?_; (case hd => rfl); (case hg => rfl); (case hr => first | (go_simp; done) | (go_simp; rfl)); (case hp => exact Reps.c2 (show Kd.FK k29 _ _ _ _ from k29_mkF _ _ (⟨f0, f1⟩ : S29) HK_f.out (Kd.C_F (Kd.heap_int .u32) (Kd.C_below HC_f.out HB.out))) (Reps.none _ _)); intro v_z w9_ hN hB hg_ hnew_; clear hg_ hnew_; rw [← HY.out] at hN; have HNL := Aside0.mk hN; have HBL := Aside0.mk hB; clear hN hB) | ((with_reducible refine gate_dst (N := 34) rfl ?_); refine Kd.N_append_rows k29 (w0 := w9) w9.heap.size rfl (.tmp 32) (.tmp 33) 22 29 (.agg #[.bool false, .slice none 0 0]) 32 rfl Try.underlying22 info29 rfl (by decide) (by decide) _ y l A_l l.length c_l (fun _ => True) (fun k => k < w9.heap.size) rfl rfl HNL.out (Kd.F_below (Kd.C_F k29_heap (Kd.C_below HC_l.out HB.out)) HBL.out) (fun k hk => ⟨trivial, fun e => Nat.lt_irrefl _ (Nat.lt_of_lt_of_le hk (Kd.N_base HNL.out k e.symm))⟩) (fun _ _ => trivial) HBL.out HBL.out.size (by have := HL.out; rw [HY.out]; simp only [List.length_cons, List.length_nil]; omega) ?_; intro v_yl w10_ hN hB _ _; rw [← HYL.out] at hN; have nHB := Aside0.mk (HB.out.trans (hB.mono HB.out.size)); clear HB; have HB := nHB; clear nHB; clear hc_gf_0 hf_gf_0 hc_gf_1 hf_gf_1; have nBK := Aside0.mk (blk_below (g := gf) (o := .cells #[.bool f0, .slice A_f f1.length c_f] 29 (0, 0)) BK_gf.out hB); clear BK_gf; have BK_gf := nBK; clear nBK; have hc_gf_0 : w10_.cell? ⟨gf, 0, none⟩ = some (.bool f0) := (blk_cell BK_gf.out 0).trans rfl; have hf_gf_0 := blk_frozen BK_gf.out 0; have hc_gf_1 : w10_.cell? ⟨gf, 1, none⟩ = some (.slice A_f f1.length c_f) := (blk_cell BK_gf.out 1).trans rfl; have hf_gf_1 := blk_frozen BK_gf.out 1; clear hc_gw_0 hf_gw_0 hc_gw_1 hf_gw_1; have nBK := Aside0.mk (blk_below (g := gw) (o := .cells #[.bool e0, .slice A_s0 s0.length c_s0] 29 (0, 0)) BK_gw.out hB); clear BK_gw; have BK_gw := nBK; clear nBK; have hc_gw_0 : w10_.cell? ⟨gw, 0, none⟩ = some (.bool e0) := (blk_cell BK_gw.out 0).trans rfl; have hf_gw_0 := blk_frozen BK_gw.out 0; have hc_gw_1 : w10_.cell? ⟨gw, 1, none⟩ = some (.slice A_s0 s0.length c_s0) := (blk_cell BK_gw.out 1).trans rfl; have hf_gw_1 := blk_frozen BK_gw.out 1; clear hc_g9_0 hf_g9_0 hc_g9_1 hf_g9_1; have nBK := Aside0.mk (blk_below (g := g9) (o := .cells #[.bool e1, .slice A_s1 s1.length c_s1] 29 (0, 0)) BK_g9.out hB); clear BK_g9; have BK_g9 := nBK; clear nBK; have hc_g9_0 : w10_.cell? ⟨g9, 0, none⟩ = some (.bool e1) := (blk_cell BK_g9.out 0).trans rfl; have hf_g9_0 := blk_frozen BK_g9.out 0; have hc_g9_1 : w10_.cell? ⟨g9, 1, none⟩ = some (.slice A_s1 s1.length c_s1) := (blk_cell BK_g9.out 1).trans rfl; have hf_g9_1 := blk_frozen BK_g9.out 1; have nHC := Aside0.mk (Kd.C_below HC_y.out hB); clear HC_y; have HC_y := nHC; clear nHC; have nHC := Aside0.mk (Kd.R_below HR_s0.out hB); clear HR_s0; have HR_s0 := nHC; clear nHC; have nHC := Aside0.mk (Kd.C_below HC_s1.out hB); clear HC_s1; have HC_s1 := nHC; clear nHC; obtain ⟨A_yl, c_yl, rfl⟩ := Kd.N_slice hN; have HC_yl := Aside0.mk (Kd.N_reads' hN).2.2; have HK_yl := Aside0.mk (Kd.N_reads' hN).2.1; clear hN hB HNL HBL) | (go_at_call 12; with_reducible refine (m_filter Q5.out _ _ _ HC_yl.out HK_yl.out).mono ?_; rintro e w11_ ⟨v_s2, rfl, hR, hB⟩; obtain ⟨A_s2, c_s2, rfl⟩ := Kd.R_slice hR; have hsz := HB.out.size; have nHB := Aside0.mk (HB.out.trans (hB.mono HB.out.size)); clear HB; have HB := nHB; clear nHB; clear hc_gf_0 hf_gf_0 hc_gf_1 hf_gf_1; have nBK := Aside0.mk (blk_below (g := gf) (o := .cells #[.bool f0, .slice A_f f1.length c_f] 29 (0, 0)) BK_gf.out hB); clear BK_gf; have BK_gf := nBK; clear nBK; have hc_gf_0 : w11_.cell? ⟨gf, 0, none⟩ = some (.bool f0) := (blk_cell BK_gf.out 0).trans rfl; have hf_gf_0 := blk_frozen BK_gf.out 0; have hc_gf_1 : w11_.cell? ⟨gf, 1, none⟩ = some (.slice A_f f1.length c_f) := (blk_cell BK_gf.out 1).trans rfl; have hf_gf_1 := blk_frozen BK_gf.out 1; clear hc_gw_0 hf_gw_0 hc_gw_1 hf_gw_1; have nBK := Aside0.mk (blk_below (g := gw) (o := .cells #[.bool e0, .slice A_s0 s0.length c_s0] 29 (0, 0)) BK_gw.out hB); clear BK_gw; have BK_gw := nBK; clear nBK; have hc_gw_0 : w11_.cell? ⟨gw, 0, none⟩ = some (.bool e0) := (blk_cell BK_gw.out 0).trans rfl; have hf_gw_0 := blk_frozen BK_gw.out 0; have hc_gw_1 : w11_.cell? ⟨gw, 1, none⟩ = some (.slice A_s0 s0.length c_s0) := (blk_cell BK_gw.out 1).trans rfl; have hf_gw_1 := blk_frozen BK_gw.out 1; clear hc_g9_0 hf_g9_0 hc_g9_1 hf_g9_1; have nBK := Aside0.mk (blk_below (g := g9) (o := .cells #[.bool e1, .slice A_s1 s1.length c_s1] 29 (0, 0)) BK_g9.out hB); clear BK_g9; have BK_g9 := nBK; clear nBK; have hc_g9_0 : w11_.cell? ⟨g9, 0, none⟩ = some (.bool e1) := (blk_cell BK_g9.out 0).trans rfl; have hf_g9_0 := blk_frozen BK_g9.out 0; have hc_g9_1 : w11_.cell? ⟨g9, 1, none⟩ = some (.slice A_s1 s1.length c_s1) := (blk_cell BK_g9.out 1).trans rfl; have hf_g9_1 := blk_frozen BK_g9.out 1; have nHC := Aside0.mk (Kd.C_below HC_y.out hB); clear HC_y; have HC_y := nHC; clear nHC; have nHC := Aside0.mk (Kd.R_below HR_s0.out hB); clear HR_s0; have HR_s0 := nHC; clear nHC; have nHC := Aside0.mk (Kd.C_below HC_s1.out hB); clear HC_s1; have HC_s1 := nHC; clear nHC; have nHC := Aside0.mk (Kd.C_below HC_yl.out hB); clear HC_yl; have HC_yl := nHC; clear nHC; have HR_s2 := Aside0.mk (Kd.R_mono (Kd.R_lower hR hsz) (fun _ _ => trivial : ∀ k, _ → (fun _ => True) k)); clear hR hsz; clear hB) | ((with_reducible refine gate_dst (N := 10) rfl ?_); (try (refine gate_guard (by rfl) ?_; dsimp only)); refine box_event ?hg (N := 10) ?hd (cs := #[.bool false, .slice none 0 0]) (t := 29) ?hr ?_; (case hd => rfl); (case hg => rfl); (case hr => first | (go_simp; done) | (go_simp; rfl)); intro go hg w12_ hbox hB0; have hG := Aside0.mk (show w11_.heap.size ≤ go from Nat.le_of_eq hg.symm); clear hg; have hBX := Aside0.mk hbox; have hB1 := Aside0.mk hB0; clear hB0; have hc_go_0 : w12_.cell? ⟨go, 0, none⟩ = some (.bool false) := (blk_cell hbox 0).trans rfl; have hf_go_0 := blk_frozen hbox 0; have hc_go_1 : w12_.cell? ⟨go, 1, none⟩ = some (.slice none 0 0) := (blk_cell hbox 1).trans rfl; have hf_go_1 := blk_frozen hbox 1; clear hbox))
  have hB : Below w11_.heap.size w11_ ((w12_.setCell ⟨go, 0, none⟩ (.bool e1)).setCell ⟨go, 1, none⟩ (.slice A_s2 s2.length c_s2)) := (below_set (below_set hB1.out hG.out) hG.out)
  have hBN : ((w12_.setCell ⟨go, 0, none⟩ (.bool e1)).setCell ⟨go, 1, none⟩ (.slice A_s2 s2.length c_s2)).heap[go]? = some (.cells #[.bool e1, .slice A_s2 s2.length c_s2] 29 (0, 0)) := (blk_put (cs := #[.bool e1, .slice none 0 0]) (blk_put (cs := #[.bool false, .slice none 0 0]) hBX.out 0 (.bool e1) rfl) 1 (.slice A_s2 s2.length c_s2) rfl)
  clear hBX hB1
  clear hc_go_0 hf_go_0 hc_go_1 hf_go_1
  generalize ((w12_.setCell ⟨go, 0, none⟩ (.bool e1)).setCell ⟨go, 1, none⟩ (.slice A_s2 s2.length c_s2)) = w13_ at hB hBN ⊢
  have NB_go_gf := Aside0.mk (show go ≠ gf from Nat.ne_of_gt (Nat.lt_of_lt_of_le (blk_lt (g := gf) (o := .cells #[.bool f0, .slice A_f f1.length c_f] 29 (0, 0)) BK_gf.out) hG.out))
  have NB_gf_go := Aside0.mk (Ne.symm NB_go_gf.out)
  have NB_go_gw := Aside0.mk (show go ≠ gw from Nat.ne_of_gt (Nat.lt_of_lt_of_le (blk_lt (g := gw) (o := .cells #[.bool e0, .slice A_s0 s0.length c_s0] 29 (0, 0)) BK_gw.out) hG.out))
  have NB_gw_go := Aside0.mk (Ne.symm NB_go_gw.out)
  have NB_go_g9 := Aside0.mk (show go ≠ g9 from Nat.ne_of_gt (Nat.lt_of_lt_of_le (blk_lt (g := g9) (o := .cells #[.bool e1, .slice A_s1 s1.length c_s1] 29 (0, 0)) BK_g9.out) hG.out))
  have NB_g9_go := Aside0.mk (Ne.symm NB_go_g9.out)
  have HBo := Aside0.mk HB.out
  have nHB := Aside0.mk (HB.out.trans (hB.mono HB.out.size))
  clear HB
  have HB := nHB
  clear nHB
  clear hc_gf_0 hf_gf_0 hc_gf_1 hf_gf_1
  have nBK := Aside0.mk (blk_below (g := gf) (o := .cells #[.bool f0, .slice A_f f1.length c_f] 29 (0, 0)) BK_gf.out hB)
  clear BK_gf
  have BK_gf := nBK
  clear nBK
  have hc_gf_0 : w13_.cell? ⟨gf, 0, none⟩ = some (.bool f0) := (blk_cell BK_gf.out 0).trans rfl
  have hf_gf_0 := blk_frozen BK_gf.out 0
  have hc_gf_1 : w13_.cell? ⟨gf, 1, none⟩ = some (.slice A_f f1.length c_f) := (blk_cell BK_gf.out 1).trans rfl
  have hf_gf_1 := blk_frozen BK_gf.out 1
  clear hc_gw_0 hf_gw_0 hc_gw_1 hf_gw_1
  have nBK := Aside0.mk (blk_below (g := gw) (o := .cells #[.bool e0, .slice A_s0 s0.length c_s0] 29 (0, 0)) BK_gw.out hB)
  clear BK_gw
  have BK_gw := nBK
  clear nBK
  have hc_gw_0 : w13_.cell? ⟨gw, 0, none⟩ = some (.bool e0) := (blk_cell BK_gw.out 0).trans rfl
  have hf_gw_0 := blk_frozen BK_gw.out 0
  have hc_gw_1 : w13_.cell? ⟨gw, 1, none⟩ = some (.slice A_s0 s0.length c_s0) := (blk_cell BK_gw.out 1).trans rfl
  have hf_gw_1 := blk_frozen BK_gw.out 1
  clear hc_g9_0 hf_g9_0 hc_g9_1 hf_g9_1
  have nBK := Aside0.mk (blk_below (g := g9) (o := .cells #[.bool e1, .slice A_s1 s1.length c_s1] 29 (0, 0)) BK_g9.out hB)
  clear BK_g9
  have BK_g9 := nBK
  clear nBK
  have hc_g9_0 : w13_.cell? ⟨g9, 0, none⟩ = some (.bool e1) := (blk_cell BK_g9.out 0).trans rfl
  have hf_g9_0 := blk_frozen BK_g9.out 0
  have hc_g9_1 : w13_.cell? ⟨g9, 1, none⟩ = some (.slice A_s1 s1.length c_s1) := (blk_cell BK_g9.out 1).trans rfl
  have hf_g9_1 := blk_frozen BK_g9.out 1
  have nHC := Aside0.mk (Kd.C_below HC_y.out hB)
  clear HC_y
  have HC_y := nHC
  clear nHC
  have nHC := Aside0.mk (Kd.R_below HR_s0.out hB)
  clear HR_s0
  have HR_s0 := nHC
  clear nHC
  have nHC := Aside0.mk (Kd.C_below HC_s1.out hB)
  clear HC_s1
  have HC_s1 := nHC
  clear nHC
  have nHC := Aside0.mk (Kd.C_below HC_yl.out hB)
  clear HC_yl
  have HC_yl := nHC
  clear nHC
  have nHC := Aside0.mk (Kd.R_below HR_s2.out hB)
  clear HR_s2
  have HR_s2 := nHC
  clear nHC
  have BK_go := Aside0.mk hBN
  have GE_go := Aside0.mk (Nat.le_trans HBo.out.size hG.out)
  clear HBo hG hBN hB
  have hc_go_0 : w13_.cell? ⟨go, 0, none⟩ = some (.bool e1) := (blk_cell BK_go.out 0).trans rfl
  have hf_go_0 := blk_frozen BK_go.out 0
  have hc_go_1 : w13_.cell? ⟨go, 1, none⟩ = some (.slice A_s2 s2.length c_s2) := (blk_cell BK_go.out 1).trans rfl
  have hf_go_1 := blk_frozen BK_go.out 1
  subst hb
  cases b0
  · refine start_ (n := 41) (S := fun w' => w'.cell? ⟨gf, 0, none⟩ = some (.bool f0) ∧ w'.cell? ⟨gf, 1, none⟩ = some (.slice A_f f1.length c_f) ∧ w'.cell? ⟨gw, 0, none⟩ = some (.bool e0) ∧ w'.cell? ⟨gw, 1, none⟩ = some (.slice A_s0 s0.length c_s0) ∧ w'.cell? ⟨g9, 0, none⟩ = some (.bool e1) ∧ w'.cell? ⟨g9, 1, none⟩ = some (.slice A_s1 s1.length c_s1) ∧ w'.cell? ⟨go, 0, none⟩ = some (.bool e1) ∧ w'.cell? ⟨go, 1, none⟩ = some (.slice A_s2 s2.length c_s2)) (ds := []) #[false, false, false, false, false, false, false, false, false, false, false, false, false, false, false, false, false, false, false, false, false, false, false, false, false, false, false, false, false, false, false, false, false, false, false, false, false, false, false, false, false] (by kernel_rfl) rfl rfl ⟨hc_gf_0, hc_gf_1, hc_gw_0, hc_gw_1, hc_g9_0, hc_g9_1, hc_go_0, hc_go_1⟩ (fun hHeld => ?_); refine with_tabW more_T7t more_B7t (fun HT_ HW_ => ?_)
    have hB : Below w13_.heap.size w13_ w13_.drew := below_drew (Below.refl _ _)
    generalize w13_.drew = w14_ at hB hHeld ⊢
    have nHB := Aside0.mk (HB.out.trans (hB.mono HB.out.size))
    clear HB
    have HB := nHB
    clear nHB
    clear hc_gf_0 hf_gf_0 hc_gf_1 hf_gf_1
    have nBK := Aside0.mk (blk_below (g := gf) (o := .cells #[.bool f0, .slice A_f f1.length c_f] 29 (0, 0)) BK_gf.out hB)
    clear BK_gf
    have BK_gf := nBK
    clear nBK
    have hc_gf_0 : w14_.cell? ⟨gf, 0, none⟩ = some (.bool f0) := (blk_cell BK_gf.out 0).trans rfl
    have hf_gf_0 := blk_frozen BK_gf.out 0
    have hc_gf_1 : w14_.cell? ⟨gf, 1, none⟩ = some (.slice A_f f1.length c_f) := (blk_cell BK_gf.out 1).trans rfl
    have hf_gf_1 := blk_frozen BK_gf.out 1
    clear hc_gw_0 hf_gw_0 hc_gw_1 hf_gw_1
    have nBK := Aside0.mk (blk_below (g := gw) (o := .cells #[.bool e0, .slice A_s0 s0.length c_s0] 29 (0, 0)) BK_gw.out hB)
    clear BK_gw
    have BK_gw := nBK
    clear nBK
    have hc_gw_0 : w14_.cell? ⟨gw, 0, none⟩ = some (.bool e0) := (blk_cell BK_gw.out 0).trans rfl
    have hf_gw_0 := blk_frozen BK_gw.out 0
    have hc_gw_1 : w14_.cell? ⟨gw, 1, none⟩ = some (.slice A_s0 s0.length c_s0) := (blk_cell BK_gw.out 1).trans rfl
    have hf_gw_1 := blk_frozen BK_gw.out 1
    clear hc_g9_0 hf_g9_0 hc_g9_1 hf_g9_1
    have nBK := Aside0.mk (blk_below (g := g9) (o := .cells #[.bool e1, .slice A_s1 s1.length c_s1] 29 (0, 0)) BK_g9.out hB)
    clear BK_g9
    have BK_g9 := nBK
    clear nBK
    have hc_g9_0 : w14_.cell? ⟨g9, 0, none⟩ = some (.bool e1) := (blk_cell BK_g9.out 0).trans rfl
    have hf_g9_0 := blk_frozen BK_g9.out 0
    have hc_g9_1 : w14_.cell? ⟨g9, 1, none⟩ = some (.slice A_s1 s1.length c_s1) := (blk_cell BK_g9.out 1).trans rfl
    have hf_g9_1 := blk_frozen BK_g9.out 1
    clear hc_go_0 hf_go_0 hc_go_1 hf_go_1
    have nBK := Aside0.mk (blk_below (g := go) (o := .cells #[.bool e1, .slice A_s2 s2.length c_s2] 29 (0, 0)) BK_go.out hB)
    clear BK_go
    have BK_go := nBK
    clear nBK
    have hc_go_0 : w14_.cell? ⟨go, 0, none⟩ = some (.bool e1) := (blk_cell BK_go.out 0).trans rfl
    have hf_go_0 := blk_frozen BK_go.out 0
    have hc_go_1 : w14_.cell? ⟨go, 1, none⟩ = some (.slice A_s2 s2.length c_s2) := (blk_cell BK_go.out 1).trans rfl
    have hf_go_1 := blk_frozen BK_go.out 1
    have nHC := Aside0.mk (Kd.C_below HC_y.out hB)
    clear HC_y
    have HC_y := nHC
    clear nHC
    have nHC := Aside0.mk (Kd.R_below HR_s0.out hB)
    clear HR_s0
    have HR_s0 := nHC
    clear nHC
    have nHC := Aside0.mk (Kd.C_below HC_s1.out hB)
    clear HC_s1
    have HC_s1 := nHC
    clear nHC
    have nHC := Aside0.mk (Kd.C_below HC_yl.out hB)
    clear HC_yl
    have HC_yl := nHC
    clear nHC
    have nHC := Aside0.mk (Kd.R_below HR_s2.out hB)
    clear HR_s2
    have HR_s2 := nHC
    clear nHC
    clear hB
    refine pure_ (i := 0) (N := some 36) (v := ?_) (a' := ?_) #[true, false, false, false, false, false, false, false, false, false, false, false, false, false, false, false, false, false, false, false, false, false, false, false, false, false, false, false, false, false, false, false, false, false, false, false, false, false, false, false, false] rfl rfl (any_of HT_.out (by kernel_rfl)) (fun _ _ _ h => h) (Or.inl ⟨by rfl, ?_⟩) ?_ ?_
    rotate_left
    · intro w'
      go_simp
      with_reducible rfl
    rotate_left
    · simp only [Act.put, List.setIfInBounds_toArray, List.set_cons_zero, List.set_cons_succ, i64_w, i32_w]
      rfl
    refine pure_ (i := 1) (N := some 37) (v := ?_) (a' := ?_) #[true, true, false, false, false, false, false, false, false, false, false, false, false, false, false, false, false, false, false, false, false, false, false, false, false, false, false, false, false, false, false, false, false, false, false, false, false, false, false, false, false] rfl rfl (any_of HT_.out (by kernel_rfl)) (fun _ _ _ h => h) (Or.inl ⟨by rfl, ?_⟩) ?_ ?_
    rotate_left
    · intro w'
      go_simp
      with_reducible rfl
    rotate_left
    · simp only [Act.put, List.setIfInBounds_toArray, List.set_cons_zero, List.set_cons_succ, i64_w, i32_w]
      rfl
    refine take_ (i := 2) (N := some 38) (v := ?_) (a' := ?_) #[true, true, true, false, false, false, false, false, false, false, false, false, false, false, false, false, false, false, false, false, false, false, false, false, false, false, false, false, false, false, false, false, false, false, false, false, false, false, false, false, false] rfl rfl (take_ofW HT_.out HW_.out (by kernel_rfl)) (fun _ _ _ h => h) (Or.inl ⟨by rfl, ?_⟩) hHeld ?_ ?_
    rotate_left
    · rintro w' ⟨s0, s1, s2, s3, s4, s5, s6, s7⟩
      go_simp
      with_reducible rfl
    rotate_left
    · simp only [Act.put, List.setIfInBounds_toArray, List.set_cons_zero, List.set_cons_succ, i64_w, i32_w]
      rfl
    refine pure_ (i := 3) (N := some 39) (v := ?_) (a' := ?_) #[true, true, true, true, false, false, false, false, false, false, false, false, false, false, false, false, false, false, false, false, false, false, false, false, false, false, false, false, false, false, false, false, false, false, false, false, false, false, false, false, false] rfl rfl (any_of HT_.out (by kernel_rfl)) (fun _ _ _ h => h) (Or.inl ⟨by rfl, ?_⟩) ?_ ?_
    rotate_left
    · intro w'
      go_simp
      with_reducible rfl
    rotate_left
    · simp only [Act.put, List.setIfInBounds_toArray, List.set_cons_zero, List.set_cons_succ, i64_w, i32_w]
      rfl
    refine one_ (i := 4) (N := some 40) #[true, true, true, true, true, false, false, false, false, false, false, false, false, false, false, false, false, false, false, false, false, false, false, false, false, false, false, false, false, false, false, false, false, false, false, false, false, false, false, false, false] rfl rfl (one_of HT_.out (by kernel_rfl)) (by decide) (fun K hK => ?_)
    refine goes_ Try.func15 (by kernel_rfl) rfl #[.agg #[.bool e0, .slice A_s0 s0.length c_s0], .int .u32 x] (by rfl) rfl rfl (by (try simp only [List.map_toArray, List.map_cons, List.map_nil]); first | done | rfl | (simp only [List.length_drop, List.length_take]; rfl)) ?_
    with_reducible refine (m_wants Q6.out _ _ _ (Kd.R_reads' HR_s0.out).2.2 (Kd.R_reads' HR_s0.out).2.1).mono ?_
    rintro e w15_ ⟨rfl, hB⟩
    refine ⟨_, rfl, ?_⟩
    have hsz := HB.out.size
    have nHB := Aside0.mk (HB.out.trans (hB.mono HB.out.size))
    clear HB
    have HB := nHB
    clear nHB
    clear hc_gf_0 hf_gf_0 hc_gf_1 hf_gf_1
    have nBK := Aside0.mk (blk_below (g := gf) (o := .cells #[.bool f0, .slice A_f f1.length c_f] 29 (0, 0)) BK_gf.out hB)
    clear BK_gf
    have BK_gf := nBK
    clear nBK
    have hc_gf_0 : w15_.cell? ⟨gf, 0, none⟩ = some (.bool f0) := (blk_cell BK_gf.out 0).trans rfl
    have hf_gf_0 := blk_frozen BK_gf.out 0
    have hc_gf_1 : w15_.cell? ⟨gf, 1, none⟩ = some (.slice A_f f1.length c_f) := (blk_cell BK_gf.out 1).trans rfl
    have hf_gf_1 := blk_frozen BK_gf.out 1
    clear hc_gw_0 hf_gw_0 hc_gw_1 hf_gw_1
    have nBK := Aside0.mk (blk_below (g := gw) (o := .cells #[.bool e0, .slice A_s0 s0.length c_s0] 29 (0, 0)) BK_gw.out hB)
    clear BK_gw
    have BK_gw := nBK
    clear nBK
    have hc_gw_0 : w15_.cell? ⟨gw, 0, none⟩ = some (.bool e0) := (blk_cell BK_gw.out 0).trans rfl
    have hf_gw_0 := blk_frozen BK_gw.out 0
    have hc_gw_1 : w15_.cell? ⟨gw, 1, none⟩ = some (.slice A_s0 s0.length c_s0) := (blk_cell BK_gw.out 1).trans rfl
    have hf_gw_1 := blk_frozen BK_gw.out 1
    clear hc_g9_0 hf_g9_0 hc_g9_1 hf_g9_1
    have nBK := Aside0.mk (blk_below (g := g9) (o := .cells #[.bool e1, .slice A_s1 s1.length c_s1] 29 (0, 0)) BK_g9.out hB)
    clear BK_g9
    have BK_g9 := nBK
    clear nBK
    have hc_g9_0 : w15_.cell? ⟨g9, 0, none⟩ = some (.bool e1) := (blk_cell BK_g9.out 0).trans rfl
    have hf_g9_0 := blk_frozen BK_g9.out 0
    have hc_g9_1 : w15_.cell? ⟨g9, 1, none⟩ = some (.slice A_s1 s1.length c_s1) := (blk_cell BK_g9.out 1).trans rfl
    have hf_g9_1 := blk_frozen BK_g9.out 1
    clear hc_go_0 hf_go_0 hc_go_1 hf_go_1
    have nBK := Aside0.mk (blk_below (g := go) (o := .cells #[.bool e1, .slice A_s2 s2.length c_s2] 29 (0, 0)) BK_go.out hB)
    clear BK_go
    have BK_go := nBK
    clear nBK
    have hc_go_0 : w15_.cell? ⟨go, 0, none⟩ = some (.bool e1) := (blk_cell BK_go.out 0).trans rfl
    have hf_go_0 := blk_frozen BK_go.out 0
    have hc_go_1 : w15_.cell? ⟨go, 1, none⟩ = some (.slice A_s2 s2.length c_s2) := (blk_cell BK_go.out 1).trans rfl
    have hf_go_1 := blk_frozen BK_go.out 1
    have nHC := Aside0.mk (Kd.C_below HC_y.out hB)
    clear HC_y
    have HC_y := nHC
    clear nHC
    have nHC := Aside0.mk (Kd.R_below HR_s0.out hB)
    clear HR_s0
    have HR_s0 := nHC
    clear nHC
    have nHC := Aside0.mk (Kd.C_below HC_s1.out hB)
    clear HC_s1
    have HC_s1 := nHC
    clear nHC
    have nHC := Aside0.mk (Kd.C_below HC_yl.out hB)
    clear HC_yl
    have HC_yl := nHC
    clear nHC
    have nHC := Aside0.mk (Kd.R_below HR_s2.out hB)
    clear HR_s2
    have HR_s2 := nHC
    clear nHC
    clear hB hsz
    refine hK.out _ _ ⟨hc_gf_0, hc_gf_1, hc_gw_0, hc_gw_1, hc_g9_0, hc_g9_1, hc_go_0, hc_go_1⟩ (fun hHeld => ?_)
    clear hK K
    refine norm_ (a' := ?_) ?_ ?_
    rotate_left
    · show Act.put _ (some 40) _ = _
      simp only [Act.put, List.setIfInBounds_toArray, List.set_cons_zero, List.set_cons_succ, i64_w, i32_w]
      rfl
    refine pure_ (i := 5) (N := some 41) (v := ?_) (a' := ?_) #[true, true, true, true, true, true, false, false, false, false, false, false, false, false, false, false, false, false, false, false, false, false, false, false, false, false, false, false, false, false, false, false, false, false, false, false, false, false, false, false, false] rfl rfl (any_of HT_.out (by kernel_rfl)) (fun _ _ _ h => h) (Or.inl ⟨by rfl, ?_⟩) ?_ ?_
    rotate_left
    · intro w'
      go_simp
      with_reducible rfl
    rotate_left
    · simp only [Act.put, List.setIfInBounds_toArray, List.set_cons_zero, List.set_cons_succ, i64_w, i32_w]
      rfl
    refine pure_ (i := 6) (N := some 42) (v := ?_) (a' := ?_) #[true, true, true, true, true, true, true, false, false, false, false, false, false, false, false, false, false, false, false, false, false, false, false, false, false, false, false, false, false, false, false, false, false, false, false, false, false, false, false, false, false] rfl rfl (any_of HT_.out (by kernel_rfl)) (fun _ _ _ h => h) (Or.inl ⟨by rfl, ?_⟩) ?_ ?_
    rotate_left
    · intro w'
      go_simp
      with_reducible rfl
    rotate_left
    · simp only [Act.put, List.setIfInBounds_toArray, List.set_cons_zero, List.set_cons_succ, i64_w, i32_w]
      rfl
    refine pure_ (i := 7) (N := some 43) (v := undef) (a' := ?_) #[true, true, true, true, true, true, true, true, false, false, false, false, false, false, false, false, false, false, false, false, false, false, false, false, false, false, false, false, false, false, false, false, false, false, false, false, false, false, false, false, false] rfl rfl (any_of HT_.out (by kernel_rfl)) (fun _ _ _ h => h) (Or.inr ⟨by rfl, rfl⟩) ?_ ?_
    rotate_left
    · simp only [Act.put, List.setIfInBounds_toArray, List.set_cons_zero, List.set_cons_succ, i64_w, i32_w]
      rfl
    refine pure_ (i := 8) (N := some 44) (v := undef) (a' := ?_) #[true, true, true, true, true, true, true, true, true, false, false, false, false, false, false, false, false, false, false, false, false, false, false, false, false, false, false, false, false, false, false, false, false, false, false, false, false, false, false, false, false] rfl rfl (any_of HT_.out (by kernel_rfl)) (fun _ _ _ h => h) (Or.inr ⟨by rfl, rfl⟩) ?_ ?_
    rotate_left
    · simp only [Act.put, List.setIfInBounds_toArray, List.set_cons_zero, List.set_cons_succ, i64_w, i32_w]
      rfl
    refine pure_ (i := 9) (N := some 45) (v := undef) (a' := ?_) #[true, true, true, true, true, true, true, true, true, true, false, false, false, false, false, false, false, false, false, false, false, false, false, false, false, false, false, false, false, false, false, false, false, false, false, false, false, false, false, false, false] rfl rfl (any_of HT_.out (by kernel_rfl)) (fun _ _ _ h => h) (Or.inr ⟨by rfl, rfl⟩) ?_ ?_
    rotate_left
    · simp only [Act.put, List.setIfInBounds_toArray, List.set_cons_zero, List.set_cons_succ, i64_w, i32_w]
      rfl
    refine pure_ (i := 10) (N := some 46) (v := ?_) (a' := ?_) #[true, true, true, true, true, true, true, true, true, true, true, false, false, false, false, false, false, false, false, false, false, false, false, false, false, false, false, false, false, false, false, false, false, false, false, false, false, false, false, false, false] rfl rfl (any_of HT_.out (by kernel_rfl)) (fun _ _ _ h => h) (Or.inl ⟨by rfl, ?_⟩) ?_ ?_
    rotate_left
    · intro w'
      go_simp
      with_reducible rfl
    rotate_left
    · simp only [Act.put, List.setIfInBounds_toArray, List.set_cons_zero, List.set_cons_succ, i64_w, i32_w]
      rfl
    refine pure_ (i := 11) (N := some 47) (v := ?_) (a' := ?_) #[true, true, true, true, true, true, true, true, true, true, true, true, false, false, false, false, false, false, false, false, false, false, false, false, false, false, false, false, false, false, false, false, false, false, false, false, false, false, false, false, false] rfl rfl (any_of HT_.out (by kernel_rfl)) (fun _ _ _ h => h) (Or.inl ⟨by rfl, ?_⟩) ?_ ?_
    rotate_left
    · intro w'
      go_simp
      with_reducible rfl
    rotate_left
    · simp only [Act.put, List.setIfInBounds_toArray, List.set_cons_zero, List.set_cons_succ, i64_w, i32_w]
      rfl
    refine pure_ (i := 12) (N := some 48) (v := ?_) (a' := ?_) #[true, true, true, true, true, true, true, true, true, true, true, true, true, false, false, false, false, false, false, false, false, false, false, false, false, false, false, false, false, false, false, false, false, false, false, false, false, false, false, false, false] rfl rfl (any_of HT_.out (by kernel_rfl)) (fun _ _ _ h => h) (Or.inl ⟨by rfl, ?_⟩) ?_ ?_
    rotate_left
    · intro w'
      go_simp
      with_reducible rfl
    rotate_left
    · simp only [Act.put, List.setIfInBounds_toArray, List.set_cons_zero, List.set_cons_succ, i64_w, i32_w]
      rfl
    refine take_ (i := 13) (N := some 49) (v := ?_) (a' := ?_) #[true, true, true, true, true, true, true, true, true, true, true, true, true, true, false, false, false, false, false, false, false, false, false, false, false, false, false, false, false, false, false, false, false, false, false, false, false, false, false, false, false] rfl rfl (take_ofW HT_.out HW_.out (by kernel_rfl)) (fun _ _ _ h => h) (Or.inl ⟨by rfl, ?_⟩) hHeld ?_ ?_
    rotate_left
    · rintro w' ⟨s0, s1, s2, s3, s4, s5, s6, s7⟩
      go_simp
      with_reducible rfl
    rotate_left
    · simp only [Act.put, List.setIfInBounds_toArray, List.set_cons_zero, List.set_cons_succ, i64_w, i32_w]
      rfl
    refine pure_ (i := 14) (N := some 50) (v := ?_) (a' := ?_) #[true, true, true, true, true, true, true, true, true, true, true, true, true, true, true, false, false, false, false, false, false, false, false, false, false, false, false, false, false, false, false, false, false, false, false, false, false, false, false, false, false] rfl rfl (any_of HT_.out (by kernel_rfl)) (fun _ _ _ h => h) (Or.inl ⟨by rfl, ?_⟩) ?_ ?_
    rotate_left
    · intro w'
      go_simp
      with_reducible rfl
    rotate_left
    · simp only [Act.put, List.setIfInBounds_toArray, List.set_cons_zero, List.set_cons_succ, i64_w, i32_w]
      rfl
    refine take_ (i := 16) (N := some 52) (v := ?_) (a' := ?_) #[true, true, true, true, true, true, true, true, true, true, true, true, true, true, true, false, true, false, false, false, false, false, false, false, false, false, false, false, false, false, false, false, false, false, false, false, false, false, false, false, false] rfl rfl (take_ofW HT_.out HW_.out (by kernel_rfl)) (fun _ _ _ h => h) (Or.inl ⟨by rfl, ?_⟩) hHeld ?_ ?_
    rotate_left
    · rintro w' ⟨s0, s1, s2, s3, s4, s5, s6, s7⟩
      go_simp
      with_reducible rfl
    rotate_left
    · simp only [Act.put, List.setIfInBounds_toArray, List.set_cons_zero, List.set_cons_succ, i64_w, i32_w]
      rfl
    refine pure_ (i := 17) (N := some 53) (v := ?_) (a' := ?_) #[true, true, true, true, true, true, true, true, true, true, true, true, true, true, true, false, true, true, false, false, false, false, false, false, false, false, false, false, false, false, false, false, false, false, false, false, false, false, false, false, false] rfl rfl (any_of HT_.out (by kernel_rfl)) (fun _ _ _ h => h) (Or.inl ⟨by rfl, ?_⟩) ?_ ?_
    rotate_left
    · intro w'
      go_simp
      with_reducible rfl
    rotate_left
    · simp only [Act.put, List.setIfInBounds_toArray, List.set_cons_zero, List.set_cons_succ, i64_w, i32_w]
      rfl
    refine one_ (i := 15) (N := some 51) #[true, true, true, true, true, true, true, true, true, true, true, true, true, true, true, true, true, true, false, false, false, false, false, false, false, false, false, false, false, false, false, false, false, false, false, false, false, false, false, false, false] rfl rfl (one_of HT_.out (by kernel_rfl)) (by decide) (fun K hK => ?_)
    refine goes_ Try.func15 (by kernel_rfl) rfl #[.agg #[.bool e1, .slice A_s1 s1.length c_s1], .int .u32 x] (by rfl) rfl rfl (by (try simp only [List.map_toArray, List.map_cons, List.map_nil]); first | done | rfl | (simp only [List.length_drop, List.length_take]; rfl)) ?_
    with_reducible refine (m_wants Q7.out _ _ _ HC_s1.out HK_s1.out).mono ?_
    rintro e w16_ ⟨rfl, hB⟩
    refine ⟨_, rfl, ?_⟩
    have hsz := HB.out.size
    have nHB := Aside0.mk (HB.out.trans (hB.mono HB.out.size))
    clear HB
    have HB := nHB
    clear nHB
    clear hc_gf_0 hf_gf_0 hc_gf_1 hf_gf_1
    have nBK := Aside0.mk (blk_below (g := gf) (o := .cells #[.bool f0, .slice A_f f1.length c_f] 29 (0, 0)) BK_gf.out hB)
    clear BK_gf
    have BK_gf := nBK
    clear nBK
    have hc_gf_0 : w16_.cell? ⟨gf, 0, none⟩ = some (.bool f0) := (blk_cell BK_gf.out 0).trans rfl
    have hf_gf_0 := blk_frozen BK_gf.out 0
    have hc_gf_1 : w16_.cell? ⟨gf, 1, none⟩ = some (.slice A_f f1.length c_f) := (blk_cell BK_gf.out 1).trans rfl
    have hf_gf_1 := blk_frozen BK_gf.out 1
    clear hc_gw_0 hf_gw_0 hc_gw_1 hf_gw_1
    have nBK := Aside0.mk (blk_below (g := gw) (o := .cells #[.bool e0, .slice A_s0 s0.length c_s0] 29 (0, 0)) BK_gw.out hB)
    clear BK_gw
    have BK_gw := nBK
    clear nBK
    have hc_gw_0 : w16_.cell? ⟨gw, 0, none⟩ = some (.bool e0) := (blk_cell BK_gw.out 0).trans rfl
    have hf_gw_0 := blk_frozen BK_gw.out 0
    have hc_gw_1 : w16_.cell? ⟨gw, 1, none⟩ = some (.slice A_s0 s0.length c_s0) := (blk_cell BK_gw.out 1).trans rfl
    have hf_gw_1 := blk_frozen BK_gw.out 1
    clear hc_g9_0 hf_g9_0 hc_g9_1 hf_g9_1
    have nBK := Aside0.mk (blk_below (g := g9) (o := .cells #[.bool e1, .slice A_s1 s1.length c_s1] 29 (0, 0)) BK_g9.out hB)
    clear BK_g9
    have BK_g9 := nBK
    clear nBK
    have hc_g9_0 : w16_.cell? ⟨g9, 0, none⟩ = some (.bool e1) := (blk_cell BK_g9.out 0).trans rfl
    have hf_g9_0 := blk_frozen BK_g9.out 0
    have hc_g9_1 : w16_.cell? ⟨g9, 1, none⟩ = some (.slice A_s1 s1.length c_s1) := (blk_cell BK_g9.out 1).trans rfl
    have hf_g9_1 := blk_frozen BK_g9.out 1
    clear hc_go_0 hf_go_0 hc_go_1 hf_go_1
    have nBK := Aside0.mk (blk_below (g := go) (o := .cells #[.bool e1, .slice A_s2 s2.length c_s2] 29 (0, 0)) BK_go.out hB)
    clear BK_go
    have BK_go := nBK
    clear nBK
    have hc_go_0 : w16_.cell? ⟨go, 0, none⟩ = some (.bool e1) := (blk_cell BK_go.out 0).trans rfl
    have hf_go_0 := blk_frozen BK_go.out 0
    have hc_go_1 : w16_.cell? ⟨go, 1, none⟩ = some (.slice A_s2 s2.length c_s2) := (blk_cell BK_go.out 1).trans rfl
    have hf_go_1 := blk_frozen BK_go.out 1
    have nHC := Aside0.mk (Kd.C_below HC_y.out hB)
    clear HC_y
    have HC_y := nHC
    clear nHC
    have nHC := Aside0.mk (Kd.R_below HR_s0.out hB)
    clear HR_s0
    have HR_s0 := nHC
    clear nHC
    have nHC := Aside0.mk (Kd.C_below HC_s1.out hB)
    clear HC_s1
    have HC_s1 := nHC
    clear nHC
    have nHC := Aside0.mk (Kd.C_below HC_yl.out hB)
    clear HC_yl
    have HC_yl := nHC
    clear nHC
    have nHC := Aside0.mk (Kd.R_below HR_s2.out hB)
    clear HR_s2
    have HR_s2 := nHC
    clear nHC
    clear hB hsz
    refine hK.out _ _ ⟨hc_gf_0, hc_gf_1, hc_gw_0, hc_gw_1, hc_g9_0, hc_g9_1, hc_go_0, hc_go_1⟩ (fun hHeld => ?_)
    clear hK K
    refine norm_ (a' := ?_) ?_ ?_
    rotate_left
    · show Act.put _ (some 51) _ = _
      simp only [Act.put, List.setIfInBounds_toArray, List.set_cons_zero, List.set_cons_succ, i64_w, i32_w]
      rfl
    refine one_ (i := 18) (N := some 54) #[true, true, true, true, true, true, true, true, true, true, true, true, true, true, true, true, true, true, true, false, false, false, false, false, false, false, false, false, false, false, false, false, false, false, false, false, false, false, false, false, false] rfl rfl (one_of HT_.out (by kernel_rfl)) (by decide) (fun K hK => ?_)
    refine goes_ Try.func15 (by kernel_rfl) rfl #[.agg #[.bool e0, .slice A_s0 s0.length c_s0], .int .u32 x] (by rfl) rfl rfl (by (try simp only [List.map_toArray, List.map_cons, List.map_nil]); first | done | rfl | (simp only [List.length_drop, List.length_take]; rfl)) ?_
    with_reducible refine (m_wants Q6.out _ _ _ (Kd.R_reads' HR_s0.out).2.2 (Kd.R_reads' HR_s0.out).2.1).mono ?_
    rintro e w17_ ⟨rfl, hB⟩
    refine ⟨_, rfl, ?_⟩
    have hsz := HB.out.size
    have nHB := Aside0.mk (HB.out.trans (hB.mono HB.out.size))
    clear HB
    have HB := nHB
    clear nHB
    clear hc_gf_0 hf_gf_0 hc_gf_1 hf_gf_1
    have nBK := Aside0.mk (blk_below (g := gf) (o := .cells #[.bool f0, .slice A_f f1.length c_f] 29 (0, 0)) BK_gf.out hB)
    clear BK_gf
    have BK_gf := nBK
    clear nBK
    have hc_gf_0 : w17_.cell? ⟨gf, 0, none⟩ = some (.bool f0) := (blk_cell BK_gf.out 0).trans rfl
    have hf_gf_0 := blk_frozen BK_gf.out 0
    have hc_gf_1 : w17_.cell? ⟨gf, 1, none⟩ = some (.slice A_f f1.length c_f) := (blk_cell BK_gf.out 1).trans rfl
    have hf_gf_1 := blk_frozen BK_gf.out 1
    clear hc_gw_0 hf_gw_0 hc_gw_1 hf_gw_1
    have nBK := Aside0.mk (blk_below (g := gw) (o := .cells #[.bool e0, .slice A_s0 s0.length c_s0] 29 (0, 0)) BK_gw.out hB)
    clear BK_gw
    have BK_gw := nBK
    clear nBK
    have hc_gw_0 : w17_.cell? ⟨gw, 0, none⟩ = some (.bool e0) := (blk_cell BK_gw.out 0).trans rfl
    have hf_gw_0 := blk_frozen BK_gw.out 0
    have hc_gw_1 : w17_.cell? ⟨gw, 1, none⟩ = some (.slice A_s0 s0.length c_s0) := (blk_cell BK_gw.out 1).trans rfl
    have hf_gw_1 := blk_frozen BK_gw.out 1
    clear hc_g9_0 hf_g9_0 hc_g9_1 hf_g9_1
    have nBK := Aside0.mk (blk_below (g := g9) (o := .cells #[.bool e1, .slice A_s1 s1.length c_s1] 29 (0, 0)) BK_g9.out hB)
    clear BK_g9
    have BK_g9 := nBK
    clear nBK
    have hc_g9_0 : w17_.cell? ⟨g9, 0, none⟩ = some (.bool e1) := (blk_cell BK_g9.out 0).trans rfl
    have hf_g9_0 := blk_frozen BK_g9.out 0
    have hc_g9_1 : w17_.cell? ⟨g9, 1, none⟩ = some (.slice A_s1 s1.length c_s1) := (blk_cell BK_g9.out 1).trans rfl
    have hf_g9_1 := blk_frozen BK_g9.out 1
    clear hc_go_0 hf_go_0 hc_go_1 hf_go_1
    have nBK := Aside0.mk (blk_below (g := go) (o := .cells #[.bool e1, .slice A_s2 s2.length c_s2] 29 (0, 0)) BK_go.out hB)
    clear BK_go
    have BK_go := nBK
    clear nBK
    have hc_go_0 : w17_.cell? ⟨go, 0, none⟩ = some (.bool e1) := (blk_cell BK_go.out 0).trans rfl
    have hf_go_0 := blk_frozen BK_go.out 0
    have hc_go_1 : w17_.cell? ⟨go, 1, none⟩ = some (.slice A_s2 s2.length c_s2) := (blk_cell BK_go.out 1).trans rfl
    have hf_go_1 := blk_frozen BK_go.out 1
    have nHC := Aside0.mk (Kd.C_below HC_y.out hB)
    clear HC_y
    have HC_y := nHC
    clear nHC
    have nHC := Aside0.mk (Kd.R_below HR_s0.out hB)
    clear HR_s0
    have HR_s0 := nHC
    clear nHC
    have nHC := Aside0.mk (Kd.C_below HC_s1.out hB)
    clear HC_s1
    have HC_s1 := nHC
    clear nHC
    have nHC := Aside0.mk (Kd.C_below HC_yl.out hB)
    clear HC_yl
    have HC_yl := nHC
    clear nHC
    have nHC := Aside0.mk (Kd.R_below HR_s2.out hB)
    clear HR_s2
    have HR_s2 := nHC
    clear nHC
    clear hB hsz
    refine hK.out _ _ ⟨hc_gf_0, hc_gf_1, hc_gw_0, hc_gw_1, hc_g9_0, hc_g9_1, hc_go_0, hc_go_1⟩ (fun hHeld => ?_)
    clear hK K
    refine norm_ (a' := ?_) ?_ ?_
    rotate_left
    · show Act.put _ (some 54) _ = _
      simp only [Act.put, List.setIfInBounds_toArray, List.set_cons_zero, List.set_cons_succ, i64_w, i32_w]
      rfl
    refine pure_ (i := 19) (N := some 55) (v := ?_) (a' := ?_) #[true, true, true, true, true, true, true, true, true, true, true, true, true, true, true, true, true, true, true, true, false, false, false, false, false, false, false, false, false, false, false, false, false, false, false, false, false, false, false, false, false] rfl rfl (any_of HT_.out (by kernel_rfl)) (fun _ _ _ h => h) (Or.inl ⟨by rfl, ?_⟩) ?_ ?_
    rotate_left
    · intro w'
      go_simp
      with_reducible rfl
    rotate_left
    · simp only [Act.put, List.setIfInBounds_toArray, List.set_cons_zero, List.set_cons_succ, i64_w, i32_w]
      rfl
    refine take_ (i := 20) (N := some 56) (v := ?_) (a' := ?_) #[true, true, true, true, true, true, true, true, true, true, true, true, true, true, true, true, true, true, true, true, true, false, false, false, false, false, false, false, false, false, false, false, false, false, false, false, false, false, false, false, false] rfl rfl (take_ofW HT_.out HW_.out (by kernel_rfl)) (fun _ _ _ h => h) (Or.inl ⟨by rfl, ?_⟩) hHeld ?_ ?_
    rotate_left
    · rintro w' ⟨s0, s1, s2, s3, s4, s5, s6, s7⟩
      go_simp
      with_reducible rfl
    rotate_left
    · simp only [Act.put, List.setIfInBounds_toArray, List.set_cons_zero, List.set_cons_succ, i64_w, i32_w]
      rfl
    refine pure_ (i := 21) (N := some 57) (v := ?_) (a' := ?_) #[true, true, true, true, true, true, true, true, true, true, true, true, true, true, true, true, true, true, true, true, true, true, false, false, false, false, false, false, false, false, false, false, false, false, false, false, false, false, false, false, false] rfl rfl (any_of HT_.out (by kernel_rfl)) (fun _ _ _ h => h) (Or.inl ⟨by rfl, ?_⟩) ?_ ?_
    rotate_left
    · intro w'
      go_simp
      with_reducible rfl
    rotate_left
    · simp only [Act.put, List.setIfInBounds_toArray, List.set_cons_zero, List.set_cons_succ, i64_w, i32_w]
      rfl
    refine one_ (i := 22) (N := some 58) #[true, true, true, true, true, true, true, true, true, true, true, true, true, true, true, true, true, true, true, true, true, true, true, false, false, false, false, false, false, false, false, false, false, false, false, false, false, false, false, false, false] rfl rfl (one_of HT_.out (by kernel_rfl)) (by decide) (fun K hK => ?_)
    refine goes_ Try.func15 (by kernel_rfl) rfl #[.agg #[.bool f0, .slice A_f f1.length c_f], .int .u32 x] (by rfl) rfl rfl (by (try simp only [List.map_toArray, List.map_cons, List.map_nil]); first | done | rfl | (simp only [List.length_drop, List.length_take]; rfl)) ?_
    with_reducible refine (m_wants Q8.out _ _ _ (Kd.C_below HC_f.out HB.out) HK_f.out).mono ?_
    rintro e w18_ ⟨rfl, hB⟩
    refine ⟨_, rfl, ?_⟩
    have hsz := HB.out.size
    have nHB := Aside0.mk (HB.out.trans (hB.mono HB.out.size))
    clear HB
    have HB := nHB
    clear nHB
    clear hc_gf_0 hf_gf_0 hc_gf_1 hf_gf_1
    have nBK := Aside0.mk (blk_below (g := gf) (o := .cells #[.bool f0, .slice A_f f1.length c_f] 29 (0, 0)) BK_gf.out hB)
    clear BK_gf
    have BK_gf := nBK
    clear nBK
    have hc_gf_0 : w18_.cell? ⟨gf, 0, none⟩ = some (.bool f0) := (blk_cell BK_gf.out 0).trans rfl
    have hf_gf_0 := blk_frozen BK_gf.out 0
    have hc_gf_1 : w18_.cell? ⟨gf, 1, none⟩ = some (.slice A_f f1.length c_f) := (blk_cell BK_gf.out 1).trans rfl
    have hf_gf_1 := blk_frozen BK_gf.out 1
    clear hc_gw_0 hf_gw_0 hc_gw_1 hf_gw_1
    have nBK := Aside0.mk (blk_below (g := gw) (o := .cells #[.bool e0, .slice A_s0 s0.length c_s0] 29 (0, 0)) BK_gw.out hB)
    clear BK_gw
    have BK_gw := nBK
    clear nBK
    have hc_gw_0 : w18_.cell? ⟨gw, 0, none⟩ = some (.bool e0) := (blk_cell BK_gw.out 0).trans rfl
    have hf_gw_0 := blk_frozen BK_gw.out 0
    have hc_gw_1 : w18_.cell? ⟨gw, 1, none⟩ = some (.slice A_s0 s0.length c_s0) := (blk_cell BK_gw.out 1).trans rfl
    have hf_gw_1 := blk_frozen BK_gw.out 1
    clear hc_g9_0 hf_g9_0 hc_g9_1 hf_g9_1
    have nBK := Aside0.mk (blk_below (g := g9) (o := .cells #[.bool e1, .slice A_s1 s1.length c_s1] 29 (0, 0)) BK_g9.out hB)
    clear BK_g9
    have BK_g9 := nBK
    clear nBK
    have hc_g9_0 : w18_.cell? ⟨g9, 0, none⟩ = some (.bool e1) := (blk_cell BK_g9.out 0).trans rfl
    have hf_g9_0 := blk_frozen BK_g9.out 0
    have hc_g9_1 : w18_.cell? ⟨g9, 1, none⟩ = some (.slice A_s1 s1.length c_s1) := (blk_cell BK_g9.out 1).trans rfl
    have hf_g9_1 := blk_frozen BK_g9.out 1
    clear hc_go_0 hf_go_0 hc_go_1 hf_go_1
    have nBK := Aside0.mk (blk_below (g := go) (o := .cells #[.bool e1, .slice A_s2 s2.length c_s2] 29 (0, 0)) BK_go.out hB)
    clear BK_go
    have BK_go := nBK
    clear nBK
    have hc_go_0 : w18_.cell? ⟨go, 0, none⟩ = some (.bool e1) := (blk_cell BK_go.out 0).trans rfl
    have hf_go_0 := blk_frozen BK_go.out 0
    have hc_go_1 : w18_.cell? ⟨go, 1, none⟩ = some (.slice A_s2 s2.length c_s2) := (blk_cell BK_go.out 1).trans rfl
    have hf_go_1 := blk_frozen BK_go.out 1
    have nHC := Aside0.mk (Kd.C_below HC_y.out hB)
    clear HC_y
    have HC_y := nHC
    clear nHC
    have nHC := Aside0.mk (Kd.R_below HR_s0.out hB)
    clear HR_s0
    have HR_s0 := nHC
    clear nHC
    have nHC := Aside0.mk (Kd.C_below HC_s1.out hB)
    clear HC_s1
    have HC_s1 := nHC
    clear nHC
    have nHC := Aside0.mk (Kd.C_below HC_yl.out hB)
    clear HC_yl
    have HC_yl := nHC
    clear nHC
    have nHC := Aside0.mk (Kd.R_below HR_s2.out hB)
    clear HR_s2
    have HR_s2 := nHC
    clear nHC
    clear hB hsz
    refine hK.out _ _ ⟨hc_gf_0, hc_gf_1, hc_gw_0, hc_gw_1, hc_g9_0, hc_g9_1, hc_go_0, hc_go_1⟩ (fun hHeld => ?_)
    clear hK K
    refine norm_ (a' := ?_) ?_ ?_
    rotate_left
    · show Act.put _ (some 58) _ = _
      simp only [Act.put, List.setIfInBounds_toArray, List.set_cons_zero, List.set_cons_succ, i64_w, i32_w]
      rfl
    refine pure_ (i := 23) (N := some 59) (v := ?_) (a' := ?_) #[true, true, true, true, true, true, true, true, true, true, true, true, true, true, true, true, true, true, true, true, true, true, true, true, false, false, false, false, false, false, false, false, false, false, false, false, false, false, false, false, false] rfl rfl (any_of HT_.out (by kernel_rfl)) (fun _ _ _ h => h) (Or.inl ⟨by rfl, ?_⟩) ?_ ?_
    rotate_left
    · intro w'
      go_simp
      with_reducible rfl
    rotate_left
    · simp only [Act.put, List.setIfInBounds_toArray, List.set_cons_zero, List.set_cons_succ, i64_w, i32_w]
      rfl
    refine pure_ (i := 24) (N := some 60) (v := ?_) (a' := ?_) #[true, true, true, true, true, true, true, true, true, true, true, true, true, true, true, true, true, true, true, true, true, true, true, true, true, false, false, false, false, false, false, false, false, false, false, false, false, false, false, false, false] rfl rfl (any_of HT_.out (by kernel_rfl)) (fun _ _ _ h => h) (Or.inl ⟨by rfl, ?_⟩) ?_ ?_
    rotate_left
    · intro w'
      go_simp
      with_reducible rfl
    rotate_left
    · simp only [Act.put, List.setIfInBounds_toArray, List.set_cons_zero, List.set_cons_succ, i64_w, i32_w]
      rfl
    refine pure_ (i := 25) (N := some 61) (v := ?_) (a' := ?_) #[true, true, true, true, true, true, true, true, true, true, true, true, true, true, true, true, true, true, true, true, true, true, true, true, true, true, false, false, false, false, false, false, false, false, false, false, false, false, false, false, false] rfl rfl (any_of HT_.out (by kernel_rfl)) (fun _ _ _ h => h) (Or.inl ⟨by rfl, ?_⟩) ?_ ?_
    rotate_left
    · intro w'
      go_simp
      with_reducible rfl
    rotate_left
    · simp only [Act.put, List.setIfInBounds_toArray, List.set_cons_zero, List.set_cons_succ, i64_w, i32_w]
      rfl
    refine pure_ (i := 26) (N := some 62) (v := ?_) (a' := ?_) #[true, true, true, true, true, true, true, true, true, true, true, true, true, true, true, true, true, true, true, true, true, true, true, true, true, true, true, false, false, false, false, false, false, false, false, false, false, false, false, false, false] rfl rfl (any_of HT_.out (by kernel_rfl)) (fun _ _ _ h => h) (Or.inl ⟨by rfl, ?_⟩) ?_ ?_
    rotate_left
    · intro w'
      go_simp
      with_reducible rfl
    rotate_left
    · simp only [Act.put, List.setIfInBounds_toArray, List.set_cons_zero, List.set_cons_succ, i64_w, i32_w]
      rfl
    refine pure_ (i := 27) (N := some 63) (v := ?_) (a' := ?_) #[true, true, true, true, true, true, true, true, true, true, true, true, true, true, true, true, true, true, true, true, true, true, true, true, true, true, true, true, false, false, false, false, false, false, false, false, false, false, false, false, false] rfl rfl (any_of HT_.out (by kernel_rfl)) (fun _ _ _ h => h) (Or.inl ⟨by rfl, ?_⟩) ?_ ?_
    rotate_left
    · intro w'
      go_simp
      with_reducible rfl
    rotate_left
    · simp only [Act.put, List.setIfInBounds_toArray, List.set_cons_zero, List.set_cons_succ, i64_w, i32_w]
      rfl
    refine take_ (i := 28) (N := some 64) (v := ?_) (a' := ?_) #[true, true, true, true, true, true, true, true, true, true, true, true, true, true, true, true, true, true, true, true, true, true, true, true, true, true, true, true, true, false, false, false, false, false, false, false, false, false, false, false, false] rfl rfl (take_ofW HT_.out HW_.out (by kernel_rfl)) (fun _ _ _ h => h) (Or.inl ⟨by rfl, ?_⟩) hHeld ?_ ?_
    rotate_left
    · rintro w' ⟨s0, s1, s2, s3, s4, s5, s6, s7⟩
      go_simp
      with_reducible rfl
    rotate_left
    · simp only [Act.put, List.setIfInBounds_toArray, List.set_cons_zero, List.set_cons_succ, i64_w, i32_w]
      rfl
    refine pure_ (i := 29) (N := some 65) (v := ?_) (a' := ?_) #[true, true, true, true, true, true, true, true, true, true, true, true, true, true, true, true, true, true, true, true, true, true, true, true, true, true, true, true, true, true, false, false, false, false, false, false, false, false, false, false, false] rfl rfl (any_of HT_.out (by kernel_rfl)) (fun _ _ _ h => h) (Or.inl ⟨by rfl, ?_⟩) ?_ ?_
    rotate_left
    · intro w'
      go_simp
      with_reducible rfl
    rotate_left
    · simp only [Act.put, List.setIfInBounds_toArray, List.set_cons_zero, List.set_cons_succ, i64_w, i32_w]
      rfl
    refine take_ (i := 30) (N := some 66) (v := ?_) (a' := ?_) #[true, true, true, true, true, true, true, true, true, true, true, true, true, true, true, true, true, true, true, true, true, true, true, true, true, true, true, true, true, true, true, false, false, false, false, false, false, false, false, false, false] rfl rfl (take_ofW HT_.out HW_.out (by kernel_rfl)) (fun _ _ _ h => h) (Or.inl ⟨by rfl, ?_⟩) hHeld ?_ ?_
    rotate_left
    · rintro w' ⟨s0, s1, s2, s3, s4, s5, s6, s7⟩
      go_simp
      with_reducible rfl
    rotate_left
    · simp only [Act.put, List.setIfInBounds_toArray, List.set_cons_zero, List.set_cons_succ, i64_w, i32_w]
      rfl
    refine pure_ (i := 31) (N := some 67) (v := ?_) (a' := ?_) #[true, true, true, true, true, true, true, true, true, true, true, true, true, true, true, true, true, true, true, true, true, true, true, true, true, true, true, true, true, true, true, true, false, false, false, false, false, false, false, false, false] rfl rfl (any_of HT_.out (by kernel_rfl)) (fun _ _ _ h => h) (Or.inl ⟨by rfl, ?_⟩) ?_ ?_
    rotate_left
    · intro w'
      go_simp
      with_reducible rfl
    rotate_left
    · simp only [Act.put, List.setIfInBounds_toArray, List.set_cons_zero, List.set_cons_succ, i64_w, i32_w]
      rfl
    refine pure_ (i := 32) (N := some 68) (v := ?_) (a' := ?_) #[true, true, true, true, true, true, true, true, true, true, true, true, true, true, true, true, true, true, true, true, true, true, true, true, true, true, true, true, true, true, true, true, true, false, false, false, false, false, false, false, false] rfl rfl (any_of HT_.out (by kernel_rfl)) (fun _ _ _ h => h) (Or.inl ⟨by rfl, ?_⟩) ?_ ?_
    rotate_left
    · intro w'
      go_simp
      with_reducible rfl
    rotate_left
    · simp only [Act.put, List.setIfInBounds_toArray, List.set_cons_zero, List.set_cons_succ, i64_w, i32_w]
      rfl
    refine pure_ (i := 33) (N := some 69) (v := ?_) (a' := ?_) #[true, true, true, true, true, true, true, true, true, true, true, true, true, true, true, true, true, true, true, true, true, true, true, true, true, true, true, true, true, true, true, true, true, true, false, false, false, false, false, false, false] rfl rfl (any_of HT_.out (by kernel_rfl)) (fun _ _ _ h => h) (Or.inl ⟨by rfl, ?_⟩) ?_ ?_
    rotate_left
    · intro w'
      go_simp
      with_reducible rfl
    rotate_left
    · simp only [Act.put, List.setIfInBounds_toArray, List.set_cons_zero, List.set_cons_succ, i64_w, i32_w]
      rfl
    refine pure_ (i := 34) (N := some 70) (v := ?_) (a' := ?_) #[true, true, true, true, true, true, true, true, true, true, true, true, true, true, true, true, true, true, true, true, true, true, true, true, true, true, true, true, true, true, true, true, true, true, true, false, false, false, false, false, false] rfl rfl (any_of HT_.out (by kernel_rfl)) (fun _ _ _ h => h) (Or.inl ⟨by rfl, ?_⟩) ?_ ?_
    rotate_left
    · intro w'
      go_simp
      with_reducible rfl
    rotate_left
    · simp only [Act.put, List.setIfInBounds_toArray, List.set_cons_zero, List.set_cons_succ, i64_w, i32_w]
      rfl
    refine take_ (i := 35) (N := some 71) (v := ?_) (a' := ?_) #[true, true, true, true, true, true, true, true, true, true, true, true, true, true, true, true, true, true, true, true, true, true, true, true, true, true, true, true, true, true, true, true, true, true, true, true, false, false, false, false, false] rfl rfl (take_ofW HT_.out HW_.out (by kernel_rfl)) (fun _ _ _ h => h) (Or.inl ⟨by rfl, ?_⟩) hHeld ?_ ?_
    rotate_left
    · rintro w' ⟨s0, s1, s2, s3, s4, s5, s6, s7⟩
      go_simp
      with_reducible rfl
    rotate_left
    · simp only [Act.put, List.setIfInBounds_toArray, List.set_cons_zero, List.set_cons_succ, i64_w, i32_w]
      rfl
    refine pure_ (i := 36) (N := some 72) (v := ?_) (a' := ?_) #[true, true, true, true, true, true, true, true, true, true, true, true, true, true, true, true, true, true, true, true, true, true, true, true, true, true, true, true, true, true, true, true, true, true, true, true, true, false, false, false, false] rfl rfl (any_of HT_.out (by kernel_rfl)) (fun _ _ _ h => h) (Or.inl ⟨by rfl, ?_⟩) ?_ ?_
    rotate_left
    · intro w'
      go_simp
      with_reducible rfl
    rotate_left
    · simp only [Act.put, List.setIfInBounds_toArray, List.set_cons_zero, List.set_cons_succ, i64_w, i32_w]
      rfl
    refine take_ (i := 37) (N := some 73) (v := ?_) (a' := ?_) #[true, true, true, true, true, true, true, true, true, true, true, true, true, true, true, true, true, true, true, true, true, true, true, true, true, true, true, true, true, true, true, true, true, true, true, true, true, true, false, false, false] rfl rfl (take_ofW HT_.out HW_.out (by kernel_rfl)) (fun _ _ _ h => h) (Or.inl ⟨by rfl, ?_⟩) hHeld ?_ ?_
    rotate_left
    · rintro w' ⟨s0, s1, s2, s3, s4, s5, s6, s7⟩
      go_simp
      with_reducible rfl
    rotate_left
    · simp only [Act.put, List.setIfInBounds_toArray, List.set_cons_zero, List.set_cons_succ, i64_w, i32_w]
      rfl
    refine one_ (i := 38) (N := some 74) #[true, true, true, true, true, true, true, true, true, true, true, true, true, true, true, true, true, true, true, true, true, true, true, true, true, true, true, true, true, true, true, true, true, true, true, true, true, true, true, false, false] rfl rfl (one_of HT_.out (by kernel_rfl)) (by decide) (fun K hK => ?_)
    refine goes_ Try.func24 (by kernel_rfl) rfl #[.slice A_s1 s1.length c_s1, .slice A_s2 s2.length c_s2] (by rfl) rfl rfl (by (try simp only [List.map_toArray, List.map_cons, List.map_nil]); first | done | rfl | (simp only [List.length_drop, List.length_take]; rfl)) ?_
    with_reducible refine (m_rows Q9.out _ _ _ _ _ HC_s1.out HK_s1.out (Kd.R_reads' HR_s2.out).2.2 (Kd.R_reads' HR_s2.out).2.1).mono ?_
    rintro e w19_ ⟨rfl, hB⟩
    refine ⟨_, rfl, ?_⟩
    have hsz := HB.out.size
    have nHB := Aside0.mk (HB.out.trans (hB.mono HB.out.size))
    clear HB
    have HB := nHB
    clear nHB
    clear hc_gf_0 hf_gf_0 hc_gf_1 hf_gf_1
    have nBK := Aside0.mk (blk_below (g := gf) (o := .cells #[.bool f0, .slice A_f f1.length c_f] 29 (0, 0)) BK_gf.out hB)
    clear BK_gf
    have BK_gf := nBK
    clear nBK
    have hc_gf_0 : w19_.cell? ⟨gf, 0, none⟩ = some (.bool f0) := (blk_cell BK_gf.out 0).trans rfl
    have hf_gf_0 := blk_frozen BK_gf.out 0
    have hc_gf_1 : w19_.cell? ⟨gf, 1, none⟩ = some (.slice A_f f1.length c_f) := (blk_cell BK_gf.out 1).trans rfl
    have hf_gf_1 := blk_frozen BK_gf.out 1
    clear hc_gw_0 hf_gw_0 hc_gw_1 hf_gw_1
    have nBK := Aside0.mk (blk_below (g := gw) (o := .cells #[.bool e0, .slice A_s0 s0.length c_s0] 29 (0, 0)) BK_gw.out hB)
    clear BK_gw
    have BK_gw := nBK
    clear nBK
    have hc_gw_0 : w19_.cell? ⟨gw, 0, none⟩ = some (.bool e0) := (blk_cell BK_gw.out 0).trans rfl
    have hf_gw_0 := blk_frozen BK_gw.out 0
    have hc_gw_1 : w19_.cell? ⟨gw, 1, none⟩ = some (.slice A_s0 s0.length c_s0) := (blk_cell BK_gw.out 1).trans rfl
    have hf_gw_1 := blk_frozen BK_gw.out 1
    clear hc_g9_0 hf_g9_0 hc_g9_1 hf_g9_1
    have nBK := Aside0.mk (blk_below (g := g9) (o := .cells #[.bool e1, .slice A_s1 s1.length c_s1] 29 (0, 0)) BK_g9.out hB)
    clear BK_g9
    have BK_g9 := nBK
    clear nBK
    have hc_g9_0 : w19_.cell? ⟨g9, 0, none⟩ = some (.bool e1) := (blk_cell BK_g9.out 0).trans rfl
    have hf_g9_0 := blk_frozen BK_g9.out 0
    have hc_g9_1 : w19_.cell? ⟨g9, 1, none⟩ = some (.slice A_s1 s1.length c_s1) := (blk_cell BK_g9.out 1).trans rfl
    have hf_g9_1 := blk_frozen BK_g9.out 1
    clear hc_go_0 hf_go_0 hc_go_1 hf_go_1
    have nBK := Aside0.mk (blk_below (g := go) (o := .cells #[.bool e1, .slice A_s2 s2.length c_s2] 29 (0, 0)) BK_go.out hB)
    clear BK_go
    have BK_go := nBK
    clear nBK
    have hc_go_0 : w19_.cell? ⟨go, 0, none⟩ = some (.bool e1) := (blk_cell BK_go.out 0).trans rfl
    have hf_go_0 := blk_frozen BK_go.out 0
    have hc_go_1 : w19_.cell? ⟨go, 1, none⟩ = some (.slice A_s2 s2.length c_s2) := (blk_cell BK_go.out 1).trans rfl
    have hf_go_1 := blk_frozen BK_go.out 1
    have nHC := Aside0.mk (Kd.C_below HC_y.out hB)
    clear HC_y
    have HC_y := nHC
    clear nHC
    have nHC := Aside0.mk (Kd.R_below HR_s0.out hB)
    clear HR_s0
    have HR_s0 := nHC
    clear nHC
    have nHC := Aside0.mk (Kd.C_below HC_s1.out hB)
    clear HC_s1
    have HC_s1 := nHC
    clear nHC
    have nHC := Aside0.mk (Kd.C_below HC_yl.out hB)
    clear HC_yl
    have HC_yl := nHC
    clear nHC
    have nHC := Aside0.mk (Kd.R_below HR_s2.out hB)
    clear HR_s2
    have HR_s2 := nHC
    clear nHC
    clear hB hsz
    refine hK.out _ _ ⟨hc_gf_0, hc_gf_1, hc_gw_0, hc_gw_1, hc_g9_0, hc_g9_1, hc_go_0, hc_go_1⟩ (fun hHeld => ?_)
    clear hK K
    refine norm_ (a' := ?_) ?_ ?_
    rotate_left
    · show Act.put _ (some 74) _ = _
      simp only [Act.put, List.setIfInBounds_toArray, List.set_cons_zero, List.set_cons_succ, i64_w, i32_w]
      rfl
    refine pure_ (i := 39) (N := some 75) (v := ?_) (a' := ?_) #[true, true, true, true, true, true, true, true, true, true, true, true, true, true, true, true, true, true, true, true, true, true, true, true, true, true, true, true, true, true, true, true, true, true, true, true, true, true, true, true, false] rfl rfl (any_of HT_.out (by kernel_rfl)) (fun _ _ _ h => h) (Or.inl ⟨by rfl, ?_⟩) ?_ ?_
    rotate_left
    · intro w'
      go_simp
      with_reducible rfl
    rotate_left
    · simp only [Act.put, List.setIfInBounds_toArray, List.set_cons_zero, List.set_cons_succ, i64_w, i32_w]
      rfl
    refine pure_ (i := 40) (N := some 6) (v := ?_) (a' := ?_) #[true, true, true, true, true, true, true, true, true, true, true, true, true, true, true, true, true, true, true, true, true, true, true, true, true, true, true, true, true, true, true, true, true, true, true, true, true, true, true, true, true] rfl rfl (any_of HT_.out (by kernel_rfl)) (fun _ _ _ h => h) (Or.inl ⟨by rfl, ?_⟩) ?_ ?_
    rotate_left
    · intro w'
      go_simp
      with_reducible rfl
    rotate_left
    · simp only [Act.put, List.setIfInBounds_toArray, List.set_cons_zero, List.set_cons_succ, i64_w, i32_w]
      rfl
    refine done_ (done_of HT_.out (by kernel_rfl)) ?_
    try go_wp2
    go_ret
    exact ⟨rfl, HB.out⟩
  · refine start_ (n := 41) (S := fun w' => w'.cell? ⟨gf, 0, none⟩ = some (.bool f0) ∧ w'.cell? ⟨gf, 1, none⟩ = some (.slice A_f f1.length c_f) ∧ w'.cell? ⟨gw, 0, none⟩ = some (.bool e0) ∧ w'.cell? ⟨gw, 1, none⟩ = some (.slice A_s0 s0.length c_s0) ∧ w'.cell? ⟨g9, 0, none⟩ = some (.bool e1) ∧ w'.cell? ⟨g9, 1, none⟩ = some (.slice A_s1 s1.length c_s1) ∧ w'.cell? ⟨go, 0, none⟩ = some (.bool e1) ∧ w'.cell? ⟨go, 1, none⟩ = some (.slice A_s2 s2.length c_s2)) (ds := []) #[false, false, false, false, false, false, false, false, false, false, false, false, false, false, false, false, false, false, false, false, false, false, false, false, false, false, false, false, false, false, false, false, false, false, false, false, false, false, false, false, false] (by kernel_rfl) rfl rfl ⟨hc_gf_0, hc_gf_1, hc_gw_0, hc_gw_1, hc_g9_0, hc_g9_1, hc_go_0, hc_go_1⟩ (fun hHeld => ?_); refine with_tabW more_T7t more_B7t (fun HT_ HW_ => ?_)
    have hB : Below w13_.heap.size w13_ w13_.drew := below_drew (Below.refl _ _)
    generalize w13_.drew = w14_ at hB hHeld ⊢
    have nHB := Aside0.mk (HB.out.trans (hB.mono HB.out.size))
    clear HB
    have HB := nHB
    clear nHB
    clear hc_gf_0 hf_gf_0 hc_gf_1 hf_gf_1
    have nBK := Aside0.mk (blk_below (g := gf) (o := .cells #[.bool f0, .slice A_f f1.length c_f] 29 (0, 0)) BK_gf.out hB)
    clear BK_gf
    have BK_gf := nBK
    clear nBK
    have hc_gf_0 : w14_.cell? ⟨gf, 0, none⟩ = some (.bool f0) := (blk_cell BK_gf.out 0).trans rfl
    have hf_gf_0 := blk_frozen BK_gf.out 0
    have hc_gf_1 : w14_.cell? ⟨gf, 1, none⟩ = some (.slice A_f f1.length c_f) := (blk_cell BK_gf.out 1).trans rfl
    have hf_gf_1 := blk_frozen BK_gf.out 1
    clear hc_gw_0 hf_gw_0 hc_gw_1 hf_gw_1
    have nBK := Aside0.mk (blk_below (g := gw) (o := .cells #[.bool e0, .slice A_s0 s0.length c_s0] 29 (0, 0)) BK_gw.out hB)
    clear BK_gw
    have BK_gw := nBK
    clear nBK
    have hc_gw_0 : w14_.cell? ⟨gw, 0, none⟩ = some (.bool e0) := (blk_cell BK_gw.out 0).trans rfl
    have hf_gw_0 := blk_frozen BK_gw.out 0
    have hc_gw_1 : w14_.cell? ⟨gw, 1, none⟩ = some (.slice A_s0 s0.length c_s0) := (blk_cell BK_gw.out 1).trans rfl
    have hf_gw_1 := blk_frozen BK_gw.out 1
    clear hc_g9_0 hf_g9_0 hc_g9_1 hf_g9_1
    have nBK := Aside0.mk (blk_below (g := g9) (o := .cells #[.bool e1, .slice A_s1 s1.length c_s1] 29 (0, 0)) BK_g9.out hB)
    clear BK_g9
    have BK_g9 := nBK
    clear nBK
    have hc_g9_0 : w14_.cell? ⟨g9, 0, none⟩ = some (.bool e1) := (blk_cell BK_g9.out 0).trans rfl
    have hf_g9_0 := blk_frozen BK_g9.out 0
    have hc_g9_1 : w14_.cell? ⟨g9, 1, none⟩ = some (.slice A_s1 s1.length c_s1) := (blk_cell BK_g9.out 1).trans rfl
    have hf_g9_1 := blk_frozen BK_g9.out 1
    clear hc_go_0 hf_go_0 hc_go_1 hf_go_1
    have nBK := Aside0.mk (blk_below (g := go) (o := .cells #[.bool e1, .slice A_s2 s2.length c_s2] 29 (0, 0)) BK_go.out hB)
    clear BK_go
    have BK_go := nBK
    clear nBK
    have hc_go_0 : w14_.cell? ⟨go, 0, none⟩ = some (.bool e1) := (blk_cell BK_go.out 0).trans rfl
    have hf_go_0 := blk_frozen BK_go.out 0
    have hc_go_1 : w14_.cell? ⟨go, 1, none⟩ = some (.slice A_s2 s2.length c_s2) := (blk_cell BK_go.out 1).trans rfl
    have hf_go_1 := blk_frozen BK_go.out 1
    have nHC := Aside0.mk (Kd.C_below HC_y.out hB)
    clear HC_y
    have HC_y := nHC
    clear nHC
    have nHC := Aside0.mk (Kd.R_below HR_s0.out hB)
    clear HR_s0
    have HR_s0 := nHC
    clear nHC
    have nHC := Aside0.mk (Kd.C_below HC_s1.out hB)
    clear HC_s1
    have HC_s1 := nHC
    clear nHC
    have nHC := Aside0.mk (Kd.C_below HC_yl.out hB)
    clear HC_yl
    have HC_yl := nHC
    clear nHC
    have nHC := Aside0.mk (Kd.R_below HR_s2.out hB)
    clear HR_s2
    have HR_s2 := nHC
    clear nHC
    clear hB
    refine pure_ (i := 0) (N := some 36) (v := ?_) (a' := ?_) #[true, false, false, false, false, false, false, false, false, false, false, false, false, false, false, false, false, false, false, false, false, false, false, false, false, false, false, false, false, false, false, false, false, false, false, false, false, false, false, false, false] rfl rfl (any_of HT_.out (by kernel_rfl)) (fun _ _ _ h => h) (Or.inl ⟨by rfl, ?_⟩) ?_ ?_
    rotate_left
    · intro w'
      go_simp
      with_reducible rfl
    rotate_left
    · simp only [Act.put, List.setIfInBounds_toArray, List.set_cons_zero, List.set_cons_succ, i64_w, i32_w]
      rfl
    refine pure_ (i := 1) (N := some 37) (v := ?_) (a' := ?_) #[true, true, false, false, false, false, false, false, false, false, false, false, false, false, false, false, false, false, false, false, false, false, false, false, false, false, false, false, false, false, false, false, false, false, false, false, false, false, false, false, false] rfl rfl (any_of HT_.out (by kernel_rfl)) (fun _ _ _ h => h) (Or.inl ⟨by rfl, ?_⟩) ?_ ?_
    rotate_left
    · intro w'
      go_simp
      with_reducible rfl
    rotate_left
    · simp only [Act.put, List.setIfInBounds_toArray, List.set_cons_zero, List.set_cons_succ, i64_w, i32_w]
      rfl
    refine take_ (i := 2) (N := some 38) (v := ?_) (a' := ?_) #[true, true, true, false, false, false, false, false, false, false, false, false, false, false, false, false, false, false, false, false, false, false, false, false, false, false, false, false, false, false, false, false, false, false, false, false, false, false, false, false, false] rfl rfl (take_ofW HT_.out HW_.out (by kernel_rfl)) (fun _ _ _ h => h) (Or.inl ⟨by rfl, ?_⟩) hHeld ?_ ?_
    rotate_left
    · rintro w' ⟨s0, s1, s2, s3, s4, s5, s6, s7⟩
      go_simp
      with_reducible rfl
    rotate_left
    · simp only [Act.put, List.setIfInBounds_toArray, List.set_cons_zero, List.set_cons_succ, i64_w, i32_w]
      rfl
    refine pure_ (i := 3) (N := some 39) (v := ?_) (a' := ?_) #[true, true, true, true, false, false, false, false, false, false, false, false, false, false, false, false, false, false, false, false, false, false, false, false, false, false, false, false, false, false, false, false, false, false, false, false, false, false, false, false, false] rfl rfl (any_of HT_.out (by kernel_rfl)) (fun _ _ _ h => h) (Or.inl ⟨by rfl, ?_⟩) ?_ ?_
    rotate_left
    · intro w'
      go_simp
      with_reducible rfl
    rotate_left
    · simp only [Act.put, List.setIfInBounds_toArray, List.set_cons_zero, List.set_cons_succ, i64_w, i32_w]
      rfl
    refine one_ (i := 4) (N := some 40) #[true, true, true, true, true, false, false, false, false, false, false, false, false, false, false, false, false, false, false, false, false, false, false, false, false, false, false, false, false, false, false, false, false, false, false, false, false, false, false, false, false] rfl rfl (one_of HT_.out (by kernel_rfl)) (by decide) (fun K hK => ?_)
    refine goes_ Try.func15 (by kernel_rfl) rfl #[.agg #[.bool e0, .slice A_s0 s0.length c_s0], .int .u32 x] (by rfl) rfl rfl (by (try simp only [List.map_toArray, List.map_cons, List.map_nil]); first | done | rfl | (simp only [List.length_drop, List.length_take]; rfl)) ?_
    with_reducible refine (m_wants Q6.out _ _ _ (Kd.R_reads' HR_s0.out).2.2 (Kd.R_reads' HR_s0.out).2.1).mono ?_
    rintro e w15_ ⟨rfl, hB⟩
    refine ⟨_, rfl, ?_⟩
    have hsz := HB.out.size
    have nHB := Aside0.mk (HB.out.trans (hB.mono HB.out.size))
    clear HB
    have HB := nHB
    clear nHB
    clear hc_gf_0 hf_gf_0 hc_gf_1 hf_gf_1
    have nBK := Aside0.mk (blk_below (g := gf) (o := .cells #[.bool f0, .slice A_f f1.length c_f] 29 (0, 0)) BK_gf.out hB)
    clear BK_gf
    have BK_gf := nBK
    clear nBK
    have hc_gf_0 : w15_.cell? ⟨gf, 0, none⟩ = some (.bool f0) := (blk_cell BK_gf.out 0).trans rfl
    have hf_gf_0 := blk_frozen BK_gf.out 0
    have hc_gf_1 : w15_.cell? ⟨gf, 1, none⟩ = some (.slice A_f f1.length c_f) := (blk_cell BK_gf.out 1).trans rfl
    have hf_gf_1 := blk_frozen BK_gf.out 1
    clear hc_gw_0 hf_gw_0 hc_gw_1 hf_gw_1
    have nBK := Aside0.mk (blk_below (g := gw) (o := .cells #[.bool e0, .slice A_s0 s0.length c_s0] 29 (0, 0)) BK_gw.out hB)
    clear BK_gw
    have BK_gw := nBK
    clear nBK
    have hc_gw_0 : w15_.cell? ⟨gw, 0, none⟩ = some (.bool e0) := (blk_cell BK_gw.out 0).trans rfl
    have hf_gw_0 := blk_frozen BK_gw.out 0
    have hc_gw_1 : w15_.cell? ⟨gw, 1, none⟩ = some (.slice A_s0 s0.length c_s0) := (blk_cell BK_gw.out 1).trans rfl
    have hf_gw_1 := blk_frozen BK_gw.out 1
    clear hc_g9_0 hf_g9_0 hc_g9_1 hf_g9_1
    have nBK := Aside0.mk (blk_below (g := g9) (o := .cells #[.bool e1, .slice A_s1 s1.length c_s1] 29 (0, 0)) BK_g9.out hB)
    clear BK_g9
    have BK_g9 := nBK
    clear nBK
    have hc_g9_0 : w15_.cell? ⟨g9, 0, none⟩ = some (.bool e1) := (blk_cell BK_g9.out 0).trans rfl
    have hf_g9_0 := blk_frozen BK_g9.out 0
    have hc_g9_1 : w15_.cell? ⟨g9, 1, none⟩ = some (.slice A_s1 s1.length c_s1) := (blk_cell BK_g9.out 1).trans rfl
    have hf_g9_1 := blk_frozen BK_g9.out 1
    clear hc_go_0 hf_go_0 hc_go_1 hf_go_1
    have nBK := Aside0.mk (blk_below (g := go) (o := .cells #[.bool e1, .slice A_s2 s2.length c_s2] 29 (0, 0)) BK_go.out hB)
    clear BK_go
    have BK_go := nBK
    clear nBK
    have hc_go_0 : w15_.cell? ⟨go, 0, none⟩ = some (.bool e1) := (blk_cell BK_go.out 0).trans rfl
    have hf_go_0 := blk_frozen BK_go.out 0
    have hc_go_1 : w15_.cell? ⟨go, 1, none⟩ = some (.slice A_s2 s2.length c_s2) := (blk_cell BK_go.out 1).trans rfl
    have hf_go_1 := blk_frozen BK_go.out 1
    have nHC := Aside0.mk (Kd.C_below HC_y.out hB)
    clear HC_y
    have HC_y := nHC
    clear nHC
    have nHC := Aside0.mk (Kd.R_below HR_s0.out hB)
    clear HR_s0
    have HR_s0 := nHC
    clear nHC
    have nHC := Aside0.mk (Kd.C_below HC_s1.out hB)
    clear HC_s1
    have HC_s1 := nHC
    clear nHC
    have nHC := Aside0.mk (Kd.C_below HC_yl.out hB)
    clear HC_yl
    have HC_yl := nHC
    clear nHC
    have nHC := Aside0.mk (Kd.R_below HR_s2.out hB)
    clear HR_s2
    have HR_s2 := nHC
    clear nHC
    clear hB hsz
    refine hK.out _ _ ⟨hc_gf_0, hc_gf_1, hc_gw_0, hc_gw_1, hc_g9_0, hc_g9_1, hc_go_0, hc_go_1⟩ (fun hHeld => ?_)
    clear hK K
    refine norm_ (a' := ?_) ?_ ?_
    rotate_left
    · show Act.put _ (some 40) _ = _
      simp only [Act.put, List.setIfInBounds_toArray, List.set_cons_zero, List.set_cons_succ, i64_w, i32_w]
      rfl
    refine pure_ (i := 5) (N := some 41) (v := ?_) (a' := ?_) #[true, true, true, true, true, true, false, false, false, false, false, false, false, false, false, false, false, false, false, false, false, false, false, false, false, false, false, false, false, false, false, false, false, false, false, false, false, false, false, false, false] rfl rfl (any_of HT_.out (by kernel_rfl)) (fun _ _ _ h => h) (Or.inl ⟨by rfl, ?_⟩) ?_ ?_
    rotate_left
    · intro w'
      go_simp
      with_reducible rfl
    rotate_left
    · simp only [Act.put, List.setIfInBounds_toArray, List.set_cons_zero, List.set_cons_succ, i64_w, i32_w]
      rfl
    refine pure_ (i := 6) (N := some 42) (v := ?_) (a' := ?_) #[true, true, true, true, true, true, true, false, false, false, false, false, false, false, false, false, false, false, false, false, false, false, false, false, false, false, false, false, false, false, false, false, false, false, false, false, false, false, false, false, false] rfl rfl (any_of HT_.out (by kernel_rfl)) (fun _ _ _ h => h) (Or.inl ⟨by rfl, ?_⟩) ?_ ?_
    rotate_left
    · intro w'
      go_simp
      with_reducible rfl
    rotate_left
    · simp only [Act.put, List.setIfInBounds_toArray, List.set_cons_zero, List.set_cons_succ, i64_w, i32_w]
      rfl
    refine take_ (i := 7) (N := some 43) (v := ?_) (a' := ?_) #[true, true, true, true, true, true, true, true, false, false, false, false, false, false, false, false, false, false, false, false, false, false, false, false, false, false, false, false, false, false, false, false, false, false, false, false, false, false, false, false, false] rfl rfl (take_ofW HT_.out HW_.out (by kernel_rfl)) (fun _ _ _ h => h) (Or.inl ⟨by rfl, ?_⟩) hHeld ?_ ?_
    rotate_left
    · rintro w' ⟨s0, s1, s2, s3, s4, s5, s6, s7⟩
      go_simp
      with_reducible rfl
    rotate_left
    · simp only [Act.put, List.setIfInBounds_toArray, List.set_cons_zero, List.set_cons_succ, i64_w, i32_w]
      rfl
    refine pure_ (i := 8) (N := some 44) (v := ?_) (a' := ?_) #[true, true, true, true, true, true, true, true, true, false, false, false, false, false, false, false, false, false, false, false, false, false, false, false, false, false, false, false, false, false, false, false, false, false, false, false, false, false, false, false, false] rfl rfl (any_of HT_.out (by kernel_rfl)) (fun _ _ _ h => h) (Or.inl ⟨by rfl, ?_⟩) ?_ ?_
    rotate_left
    · intro w'
      go_simp
      with_reducible rfl
    rotate_left
    · simp only [Act.put, List.setIfInBounds_toArray, List.set_cons_zero, List.set_cons_succ, i64_w, i32_w]
      rfl
    refine one_ (i := 9) (N := some 45) #[true, true, true, true, true, true, true, true, true, true, false, false, false, false, false, false, false, false, false, false, false, false, false, false, false, false, false, false, false, false, false, false, false, false, false, false, false, false, false, false, false] rfl rfl (one_of HT_.out (by kernel_rfl)) (by decide) (fun K hK => ?_)
    refine goes_ Try.func15 (by kernel_rfl) rfl #[.agg #[.bool e1, .slice A_s1 s1.length c_s1], .int .u32 x] (by rfl) rfl rfl (by (try simp only [List.map_toArray, List.map_cons, List.map_nil]); first | done | rfl | (simp only [List.length_drop, List.length_take]; rfl)) ?_
    with_reducible refine (m_wants Q7.out _ _ _ HC_s1.out HK_s1.out).mono ?_
    rintro e w16_ ⟨rfl, hB⟩
    refine ⟨_, rfl, ?_⟩
    have hsz := HB.out.size
    have nHB := Aside0.mk (HB.out.trans (hB.mono HB.out.size))
    clear HB
    have HB := nHB
    clear nHB
    clear hc_gf_0 hf_gf_0 hc_gf_1 hf_gf_1
    have nBK := Aside0.mk (blk_below (g := gf) (o := .cells #[.bool f0, .slice A_f f1.length c_f] 29 (0, 0)) BK_gf.out hB)
    clear BK_gf
    have BK_gf := nBK
    clear nBK
    have hc_gf_0 : w16_.cell? ⟨gf, 0, none⟩ = some (.bool f0) := (blk_cell BK_gf.out 0).trans rfl
    have hf_gf_0 := blk_frozen BK_gf.out 0
    have hc_gf_1 : w16_.cell? ⟨gf, 1, none⟩ = some (.slice A_f f1.length c_f) := (blk_cell BK_gf.out 1).trans rfl
    have hf_gf_1 := blk_frozen BK_gf.out 1
    clear hc_gw_0 hf_gw_0 hc_gw_1 hf_gw_1
    have nBK := Aside0.mk (blk_below (g := gw) (o := .cells #[.bool e0, .slice A_s0 s0.length c_s0] 29 (0, 0)) BK_gw.out hB)
    clear BK_gw
    have BK_gw := nBK
    clear nBK
    have hc_gw_0 : w16_.cell? ⟨gw, 0, none⟩ = some (.bool e0) := (blk_cell BK_gw.out 0).trans rfl
    have hf_gw_0 := blk_frozen BK_gw.out 0
    have hc_gw_1 : w16_.cell? ⟨gw, 1, none⟩ = some (.slice A_s0 s0.length c_s0) := (blk_cell BK_gw.out 1).trans rfl
    have hf_gw_1 := blk_frozen BK_gw.out 1
    clear hc_g9_0 hf_g9_0 hc_g9_1 hf_g9_1
    have nBK := Aside0.mk (blk_below (g := g9) (o := .cells #[.bool e1, .slice A_s1 s1.length c_s1] 29 (0, 0)) BK_g9.out hB)
    clear BK_g9
    have BK_g9 := nBK
    clear nBK
    have hc_g9_0 : w16_.cell? ⟨g9, 0, none⟩ = some (.bool e1) := (blk_cell BK_g9.out 0).trans rfl
    have hf_g9_0 := blk_frozen BK_g9.out 0
    have hc_g9_1 : w16_.cell? ⟨g9, 1, none⟩ = some (.slice A_s1 s1.length c_s1) := (blk_cell BK_g9.out 1).trans rfl
    have hf_g9_1 := blk_frozen BK_g9.out 1
    clear hc_go_0 hf_go_0 hc_go_1 hf_go_1
    have nBK := Aside0.mk (blk_below (g := go) (o := .cells #[.bool e1, .slice A_s2 s2.length c_s2] 29 (0, 0)) BK_go.out hB)
    clear BK_go
    have BK_go := nBK
    clear nBK
    have hc_go_0 : w16_.cell? ⟨go, 0, none⟩ = some (.bool e1) := (blk_cell BK_go.out 0).trans rfl
    have hf_go_0 := blk_frozen BK_go.out 0
    have hc_go_1 : w16_.cell? ⟨go, 1, none⟩ = some (.slice A_s2 s2.length c_s2) := (blk_cell BK_go.out 1).trans rfl
    have hf_go_1 := blk_frozen BK_go.out 1
    have nHC := Aside0.mk (Kd.C_below HC_y.out hB)
    clear HC_y
    have HC_y := nHC
    clear nHC
    have nHC := Aside0.mk (Kd.R_below HR_s0.out hB)
    clear HR_s0
    have HR_s0 := nHC
    clear nHC
    have nHC := Aside0.mk (Kd.C_below HC_s1.out hB)
    clear HC_s1
    have HC_s1 := nHC
    clear nHC
    have nHC := Aside0.mk (Kd.C_below HC_yl.out hB)
    clear HC_yl
    have HC_yl := nHC
    clear nHC
    have nHC := Aside0.mk (Kd.R_below HR_s2.out hB)
    clear HR_s2
    have HR_s2 := nHC
    clear nHC
    clear hB hsz
    refine hK.out _ _ ⟨hc_gf_0, hc_gf_1, hc_gw_0, hc_gw_1, hc_g9_0, hc_g9_1, hc_go_0, hc_go_1⟩ (fun hHeld => ?_)
    clear hK K
    refine norm_ (a' := ?_) ?_ ?_
    rotate_left
    · show Act.put _ (some 45) _ = _
      simp only [Act.put, List.setIfInBounds_toArray, List.set_cons_zero, List.set_cons_succ, i64_w, i32_w]
      rfl
    refine pure_ (i := 10) (N := some 46) (v := ?_) (a' := ?_) #[true, true, true, true, true, true, true, true, true, true, true, false, false, false, false, false, false, false, false, false, false, false, false, false, false, false, false, false, false, false, false, false, false, false, false, false, false, false, false, false, false] rfl rfl (any_of HT_.out (by kernel_rfl)) (fun _ _ _ h => h) (Or.inl ⟨by rfl, ?_⟩) ?_ ?_
    rotate_left
    · intro w'
      go_simp
      with_reducible rfl
    rotate_left
    · simp only [Act.put, List.setIfInBounds_toArray, List.set_cons_zero, List.set_cons_succ, i64_w, i32_w]
      rfl
    refine pure_ (i := 11) (N := some 47) (v := ?_) (a' := ?_) #[true, true, true, true, true, true, true, true, true, true, true, true, false, false, false, false, false, false, false, false, false, false, false, false, false, false, false, false, false, false, false, false, false, false, false, false, false, false, false, false, false] rfl rfl (any_of HT_.out (by kernel_rfl)) (fun _ _ _ h => h) (Or.inl ⟨by rfl, ?_⟩) ?_ ?_
    rotate_left
    · intro w'
      go_simp
      with_reducible rfl
    rotate_left
    · simp only [Act.put, List.setIfInBounds_toArray, List.set_cons_zero, List.set_cons_succ, i64_w, i32_w]
      rfl
    refine pure_ (i := 12) (N := some 48) (v := ?_) (a' := ?_) #[true, true, true, true, true, true, true, true, true, true, true, true, true, false, false, false, false, false, false, false, false, false, false, false, false, false, false, false, false, false, false, false, false, false, false, false, false, false, false, false, false] rfl rfl (any_of HT_.out (by kernel_rfl)) (fun _ _ _ h => h) (Or.inl ⟨by rfl, ?_⟩) ?_ ?_
    rotate_left
    · intro w'
      go_simp
      with_reducible rfl
    rotate_left
    · simp only [Act.put, List.setIfInBounds_toArray, List.set_cons_zero, List.set_cons_succ, i64_w, i32_w]
      rfl
    refine take_ (i := 13) (N := some 49) (v := ?_) (a' := ?_) #[true, true, true, true, true, true, true, true, true, true, true, true, true, true, false, false, false, false, false, false, false, false, false, false, false, false, false, false, false, false, false, false, false, false, false, false, false, false, false, false, false] rfl rfl (take_ofW HT_.out HW_.out (by kernel_rfl)) (fun _ _ _ h => h) (Or.inl ⟨by rfl, ?_⟩) hHeld ?_ ?_
    rotate_left
    · rintro w' ⟨s0, s1, s2, s3, s4, s5, s6, s7⟩
      go_simp
      with_reducible rfl
    rotate_left
    · simp only [Act.put, List.setIfInBounds_toArray, List.set_cons_zero, List.set_cons_succ, i64_w, i32_w]
      rfl
    refine pure_ (i := 14) (N := some 50) (v := ?_) (a' := ?_) #[true, true, true, true, true, true, true, true, true, true, true, true, true, true, true, false, false, false, false, false, false, false, false, false, false, false, false, false, false, false, false, false, false, false, false, false, false, false, false, false, false] rfl rfl (any_of HT_.out (by kernel_rfl)) (fun _ _ _ h => h) (Or.inl ⟨by rfl, ?_⟩) ?_ ?_
    rotate_left
    · intro w'
      go_simp
      with_reducible rfl
    rotate_left
    · simp only [Act.put, List.setIfInBounds_toArray, List.set_cons_zero, List.set_cons_succ, i64_w, i32_w]
      rfl
    refine take_ (i := 16) (N := some 52) (v := ?_) (a' := ?_) #[true, true, true, true, true, true, true, true, true, true, true, true, true, true, true, false, true, false, false, false, false, false, false, false, false, false, false, false, false, false, false, false, false, false, false, false, false, false, false, false, false] rfl rfl (take_ofW HT_.out HW_.out (by kernel_rfl)) (fun _ _ _ h => h) (Or.inl ⟨by rfl, ?_⟩) hHeld ?_ ?_
    rotate_left
    · rintro w' ⟨s0, s1, s2, s3, s4, s5, s6, s7⟩
      go_simp
      with_reducible rfl
    rotate_left
    · simp only [Act.put, List.setIfInBounds_toArray, List.set_cons_zero, List.set_cons_succ, i64_w, i32_w]
      rfl
    refine pure_ (i := 17) (N := some 53) (v := ?_) (a' := ?_) #[true, true, true, true, true, true, true, true, true, true, true, true, true, true, true, false, true, true, false, false, false, false, false, false, false, false, false, false, false, false, false, false, false, false, false, false, false, false, false, false, false] rfl rfl (any_of HT_.out (by kernel_rfl)) (fun _ _ _ h => h) (Or.inl ⟨by rfl, ?_⟩) ?_ ?_
    rotate_left
    · intro w'
      go_simp
      with_reducible rfl
    rotate_left
    · simp only [Act.put, List.setIfInBounds_toArray, List.set_cons_zero, List.set_cons_succ, i64_w, i32_w]
      rfl
    refine one_ (i := 15) (N := some 51) #[true, true, true, true, true, true, true, true, true, true, true, true, true, true, true, true, true, true, false, false, false, false, false, false, false, false, false, false, false, false, false, false, false, false, false, false, false, false, false, false, false] rfl rfl (one_of HT_.out (by kernel_rfl)) (by decide) (fun K hK => ?_)
    refine goes_ Try.func15 (by kernel_rfl) rfl #[.agg #[.bool e1, .slice A_s1 s1.length c_s1], .int .u32 x] (by rfl) rfl rfl (by (try simp only [List.map_toArray, List.map_cons, List.map_nil]); first | done | rfl | (simp only [List.length_drop, List.length_take]; rfl)) ?_
    with_reducible refine (m_wants Q7.out _ _ _ HC_s1.out HK_s1.out).mono ?_
    rintro e w17_ ⟨rfl, hB⟩
    refine ⟨_, rfl, ?_⟩
    have hsz := HB.out.size
    have nHB := Aside0.mk (HB.out.trans (hB.mono HB.out.size))
    clear HB
    have HB := nHB
    clear nHB
    clear hc_gf_0 hf_gf_0 hc_gf_1 hf_gf_1
    have nBK := Aside0.mk (blk_below (g := gf) (o := .cells #[.bool f0, .slice A_f f1.length c_f] 29 (0, 0)) BK_gf.out hB)
    clear BK_gf
    have BK_gf := nBK
    clear nBK
    have hc_gf_0 : w17_.cell? ⟨gf, 0, none⟩ = some (.bool f0) := (blk_cell BK_gf.out 0).trans rfl
    have hf_gf_0 := blk_frozen BK_gf.out 0
    have hc_gf_1 : w17_.cell? ⟨gf, 1, none⟩ = some (.slice A_f f1.length c_f) := (blk_cell BK_gf.out 1).trans rfl
    have hf_gf_1 := blk_frozen BK_gf.out 1
    clear hc_gw_0 hf_gw_0 hc_gw_1 hf_gw_1
    have nBK := Aside0.mk (blk_below (g := gw) (o := .cells #[.bool e0, .slice A_s0 s0.length c_s0] 29 (0, 0)) BK_gw.out hB)
    clear BK_gw
    have BK_gw := nBK
    clear nBK
    have hc_gw_0 : w17_.cell? ⟨gw, 0, none⟩ = some (.bool e0) := (blk_cell BK_gw.out 0).trans rfl
    have hf_gw_0 := blk_frozen BK_gw.out 0
    have hc_gw_1 : w17_.cell? ⟨gw, 1, none⟩ = some (.slice A_s0 s0.length c_s0) := (blk_cell BK_gw.out 1).trans rfl
    have hf_gw_1 := blk_frozen BK_gw.out 1
    clear hc_g9_0 hf_g9_0 hc_g9_1 hf_g9_1
    have nBK := Aside0.mk (blk_below (g := g9) (o := .cells #[.bool e1, .slice A_s1 s1.length c_s1] 29 (0, 0)) BK_g9.out hB)
    clear BK_g9
    have BK_g9 := nBK
    clear nBK
    have hc_g9_0 : w17_.cell? ⟨g9, 0, none⟩ = some (.bool e1) := (blk_cell BK_g9.out 0).trans rfl
    have hf_g9_0 := blk_frozen BK_g9.out 0
    have hc_g9_1 : w17_.cell? ⟨g9, 1, none⟩ = some (.slice A_s1 s1.length c_s1) := (blk_cell BK_g9.out 1).trans rfl
    have hf_g9_1 := blk_frozen BK_g9.out 1
    clear hc_go_0 hf_go_0 hc_go_1 hf_go_1
    have nBK := Aside0.mk (blk_below (g := go) (o := .cells #[.bool e1, .slice A_s2 s2.length c_s2] 29 (0, 0)) BK_go.out hB)
    clear BK_go
    have BK_go := nBK
    clear nBK
    have hc_go_0 : w17_.cell? ⟨go, 0, none⟩ = some (.bool e1) := (blk_cell BK_go.out 0).trans rfl
    have hf_go_0 := blk_frozen BK_go.out 0
    have hc_go_1 : w17_.cell? ⟨go, 1, none⟩ = some (.slice A_s2 s2.length c_s2) := (blk_cell BK_go.out 1).trans rfl
    have hf_go_1 := blk_frozen BK_go.out 1
    have nHC := Aside0.mk (Kd.C_below HC_y.out hB)
    clear HC_y
    have HC_y := nHC
    clear nHC
    have nHC := Aside0.mk (Kd.R_below HR_s0.out hB)
    clear HR_s0
    have HR_s0 := nHC
    clear nHC
    have nHC := Aside0.mk (Kd.C_below HC_s1.out hB)
    clear HC_s1
    have HC_s1 := nHC
    clear nHC
    have nHC := Aside0.mk (Kd.C_below HC_yl.out hB)
    clear HC_yl
    have HC_yl := nHC
    clear nHC
    have nHC := Aside0.mk (Kd.R_below HR_s2.out hB)
    clear HR_s2
    have HR_s2 := nHC
    clear nHC
    clear hB hsz
    refine hK.out _ _ ⟨hc_gf_0, hc_gf_1, hc_gw_0, hc_gw_1, hc_g9_0, hc_g9_1, hc_go_0, hc_go_1⟩ (fun hHeld => ?_)
    clear hK K
    refine norm_ (a' := ?_) ?_ ?_
    rotate_left
    · show Act.put _ (some 51) _ = _
      simp only [Act.put, List.setIfInBounds_toArray, List.set_cons_zero, List.set_cons_succ, i64_w, i32_w]
      rfl
    refine one_ (i := 18) (N := some 54) #[true, true, true, true, true, true, true, true, true, true, true, true, true, true, true, true, true, true, true, false, false, false, false, false, false, false, false, false, false, false, false, false, false, false, false, false, false, false, false, false, false] rfl rfl (one_of HT_.out (by kernel_rfl)) (by decide) (fun K hK => ?_)
    refine goes_ Try.func15 (by kernel_rfl) rfl #[.agg #[.bool e0, .slice A_s0 s0.length c_s0], .int .u32 x] (by rfl) rfl rfl (by (try simp only [List.map_toArray, List.map_cons, List.map_nil]); first | done | rfl | (simp only [List.length_drop, List.length_take]; rfl)) ?_
    with_reducible refine (m_wants Q6.out _ _ _ (Kd.R_reads' HR_s0.out).2.2 (Kd.R_reads' HR_s0.out).2.1).mono ?_
    rintro e w18_ ⟨rfl, hB⟩
    refine ⟨_, rfl, ?_⟩
    have hsz := HB.out.size
    have nHB := Aside0.mk (HB.out.trans (hB.mono HB.out.size))
    clear HB
    have HB := nHB
    clear nHB
    clear hc_gf_0 hf_gf_0 hc_gf_1 hf_gf_1
    have nBK := Aside0.mk (blk_below (g := gf) (o := .cells #[.bool f0, .slice A_f f1.length c_f] 29 (0, 0)) BK_gf.out hB)
    clear BK_gf
    have BK_gf := nBK
    clear nBK
    have hc_gf_0 : w18_.cell? ⟨gf, 0, none⟩ = some (.bool f0) := (blk_cell BK_gf.out 0).trans rfl
    have hf_gf_0 := blk_frozen BK_gf.out 0
    have hc_gf_1 : w18_.cell? ⟨gf, 1, none⟩ = some (.slice A_f f1.length c_f) := (blk_cell BK_gf.out 1).trans rfl
    have hf_gf_1 := blk_frozen BK_gf.out 1
    clear hc_gw_0 hf_gw_0 hc_gw_1 hf_gw_1
    have nBK := Aside0.mk (blk_below (g := gw) (o := .cells #[.bool e0, .slice A_s0 s0.length c_s0] 29 (0, 0)) BK_gw.out hB)
    clear BK_gw
    have BK_gw := nBK
    clear nBK
    have hc_gw_0 : w18_.cell? ⟨gw, 0, none⟩ = some (.bool e0) := (blk_cell BK_gw.out 0).trans rfl
    have hf_gw_0 := blk_frozen BK_gw.out 0
    have hc_gw_1 : w18_.cell? ⟨gw, 1, none⟩ = some (.slice A_s0 s0.length c_s0) := (blk_cell BK_gw.out 1).trans rfl
    have hf_gw_1 := blk_frozen BK_gw.out 1
    clear hc_g9_0 hf_g9_0 hc_g9_1 hf_g9_1
    have nBK := Aside0.mk (blk_below (g := g9) (o := .cells #[.bool e1, .slice A_s1 s1.length c_s1] 29 (0, 0)) BK_g9.out hB)
    clear BK_g9
    have BK_g9 := nBK
    clear nBK
    have hc_g9_0 : w18_.cell? ⟨g9, 0, none⟩ = some (.bool e1) := (blk_cell BK_g9.out 0).trans rfl
    have hf_g9_0 := blk_frozen BK_g9.out 0
    have hc_g9_1 : w18_.cell? ⟨g9, 1, none⟩ = some (.slice A_s1 s1.length c_s1) := (blk_cell BK_g9.out 1).trans rfl
    have hf_g9_1 := blk_frozen BK_g9.out 1
    clear hc_go_0 hf_go_0 hc_go_1 hf_go_1
    have nBK := Aside0.mk (blk_below (g := go) (o := .cells #[.bool e1, .slice A_s2 s2.length c_s2] 29 (0, 0)) BK_go.out hB)
    clear BK_go
    have BK_go := nBK
    clear nBK
    have hc_go_0 : w18_.cell? ⟨go, 0, none⟩ = some (.bool e1) := (blk_cell BK_go.out 0).trans rfl
    have hf_go_0 := blk_frozen BK_go.out 0
    have hc_go_1 : w18_.cell? ⟨go, 1, none⟩ = some (.slice A_s2 s2.length c_s2) := (blk_cell BK_go.out 1).trans rfl
    have hf_go_1 := blk_frozen BK_go.out 1
    have nHC := Aside0.mk (Kd.C_below HC_y.out hB)
    clear HC_y
    have HC_y := nHC
    clear nHC
    have nHC := Aside0.mk (Kd.R_below HR_s0.out hB)
    clear HR_s0
    have HR_s0 := nHC
    clear nHC
    have nHC := Aside0.mk (Kd.C_below HC_s1.out hB)
    clear HC_s1
    have HC_s1 := nHC
    clear nHC
    have nHC := Aside0.mk (Kd.C_below HC_yl.out hB)
    clear HC_yl
    have HC_yl := nHC
    clear nHC
    have nHC := Aside0.mk (Kd.R_below HR_s2.out hB)
    clear HR_s2
    have HR_s2 := nHC
    clear nHC
    clear hB hsz
    refine hK.out _ _ ⟨hc_gf_0, hc_gf_1, hc_gw_0, hc_gw_1, hc_g9_0, hc_g9_1, hc_go_0, hc_go_1⟩ (fun hHeld => ?_)
    clear hK K
    refine norm_ (a' := ?_) ?_ ?_
    rotate_left
    · show Act.put _ (some 54) _ = _
      simp only [Act.put, List.setIfInBounds_toArray, List.set_cons_zero, List.set_cons_succ, i64_w, i32_w]
      rfl
    refine pure_ (i := 19) (N := some 55) (v := ?_) (a' := ?_) #[true, true, true, true, true, true, true, true, true, true, true, true, true, true, true, true, true, true, true, true, false, false, false, false, false, false, false, false, false, false, false, false, false, false, false, false, false, false, false, false, false] rfl rfl (any_of HT_.out (by kernel_rfl)) (fun _ _ _ h => h) (Or.inl ⟨by rfl, ?_⟩) ?_ ?_
    rotate_left
    · intro w'
      go_simp
      with_reducible rfl
    rotate_left
    · simp only [Act.put, List.setIfInBounds_toArray, List.set_cons_zero, List.set_cons_succ, i64_w, i32_w]
      rfl
    refine pure_ (i := 20) (N := some 56) (v := undef) (a' := ?_) #[true, true, true, true, true, true, true, true, true, true, true, true, true, true, true, true, true, true, true, true, true, false, false, false, false, false, false, false, false, false, false, false, false, false, false, false, false, false, false, false, false] rfl rfl (any_of HT_.out (by kernel_rfl)) (fun _ _ _ h => h) (Or.inr ⟨by rfl, rfl⟩) ?_ ?_
    rotate_left
    · simp only [Act.put, List.setIfInBounds_toArray, List.set_cons_zero, List.set_cons_succ, i64_w, i32_w]
      rfl
    refine pure_ (i := 21) (N := some 57) (v := undef) (a' := ?_) #[true, true, true, true, true, true, true, true, true, true, true, true, true, true, true, true, true, true, true, true, true, true, false, false, false, false, false, false, false, false, false, false, false, false, false, false, false, false, false, false, false] rfl rfl (any_of HT_.out (by kernel_rfl)) (fun _ _ _ h => h) (Or.inr ⟨by rfl, rfl⟩) ?_ ?_
    rotate_left
    · simp only [Act.put, List.setIfInBounds_toArray, List.set_cons_zero, List.set_cons_succ, i64_w, i32_w]
      rfl
    refine pure_ (i := 22) (N := some 58) (v := undef) (a' := ?_) #[true, true, true, true, true, true, true, true, true, true, true, true, true, true, true, true, true, true, true, true, true, true, true, false, false, false, false, false, false, false, false, false, false, false, false, false, false, false, false, false, false] rfl rfl (any_of HT_.out (by kernel_rfl)) (fun _ _ _ h => h) (Or.inr ⟨by rfl, rfl⟩) ?_ ?_
    rotate_left
    · simp only [Act.put, List.setIfInBounds_toArray, List.set_cons_zero, List.set_cons_succ, i64_w, i32_w]
      rfl
    refine pure_ (i := 23) (N := some 59) (v := ?_) (a' := ?_) #[true, true, true, true, true, true, true, true, true, true, true, true, true, true, true, true, true, true, true, true, true, true, true, true, false, false, false, false, false, false, false, false, false, false, false, false, false, false, false, false, false] rfl rfl (any_of HT_.out (by kernel_rfl)) (fun _ _ _ h => h) (Or.inl ⟨by rfl, ?_⟩) ?_ ?_
    rotate_left
    · intro w'
      go_simp
      with_reducible rfl
    rotate_left
    · simp only [Act.put, List.setIfInBounds_toArray, List.set_cons_zero, List.set_cons_succ, i64_w, i32_w]
      rfl
    refine pure_ (i := 24) (N := some 60) (v := ?_) (a' := ?_) #[true, true, true, true, true, true, true, true, true, true, true, true, true, true, true, true, true, true, true, true, true, true, true, true, true, false, false, false, false, false, false, false, false, false, false, false, false, false, false, false, false] rfl rfl (any_of HT_.out (by kernel_rfl)) (fun _ _ _ h => h) (Or.inl ⟨by rfl, ?_⟩) ?_ ?_
    rotate_left
    · intro w'
      go_simp
      with_reducible rfl
    rotate_left
    · simp only [Act.put, List.setIfInBounds_toArray, List.set_cons_zero, List.set_cons_succ, i64_w, i32_w]
      rfl
    refine pure_ (i := 25) (N := some 61) (v := ?_) (a' := ?_) #[true, true, true, true, true, true, true, true, true, true, true, true, true, true, true, true, true, true, true, true, true, true, true, true, true, true, false, false, false, false, false, false, false, false, false, false, false, false, false, false, false] rfl rfl (any_of HT_.out (by kernel_rfl)) (fun _ _ _ h => h) (Or.inl ⟨by rfl, ?_⟩) ?_ ?_
    rotate_left
    · intro w'
      go_simp
      with_reducible rfl
    rotate_left
    · simp only [Act.put, List.setIfInBounds_toArray, List.set_cons_zero, List.set_cons_succ, i64_w, i32_w]
      rfl
    refine pure_ (i := 26) (N := some 62) (v := ?_) (a' := ?_) #[true, true, true, true, true, true, true, true, true, true, true, true, true, true, true, true, true, true, true, true, true, true, true, true, true, true, true, false, false, false, false, false, false, false, false, false, false, false, false, false, false] rfl rfl (any_of HT_.out (by kernel_rfl)) (fun _ _ _ h => h) (Or.inl ⟨by rfl, ?_⟩) ?_ ?_
    rotate_left
    · intro w'
      go_simp
      with_reducible rfl
    rotate_left
    · simp only [Act.put, List.setIfInBounds_toArray, List.set_cons_zero, List.set_cons_succ, i64_w, i32_w]
      rfl
    refine pure_ (i := 27) (N := some 63) (v := ?_) (a' := ?_) #[true, true, true, true, true, true, true, true, true, true, true, true, true, true, true, true, true, true, true, true, true, true, true, true, true, true, true, true, false, false, false, false, false, false, false, false, false, false, false, false, false] rfl rfl (any_of HT_.out (by kernel_rfl)) (fun _ _ _ h => h) (Or.inl ⟨by rfl, ?_⟩) ?_ ?_
    rotate_left
    · intro w'
      go_simp
      with_reducible rfl
    rotate_left
    · simp only [Act.put, List.setIfInBounds_toArray, List.set_cons_zero, List.set_cons_succ, i64_w, i32_w]
      rfl
    refine take_ (i := 28) (N := some 64) (v := ?_) (a' := ?_) #[true, true, true, true, true, true, true, true, true, true, true, true, true, true, true, true, true, true, true, true, true, true, true, true, true, true, true, true, true, false, false, false, false, false, false, false, false, false, false, false, false] rfl rfl (take_ofW HT_.out HW_.out (by kernel_rfl)) (fun _ _ _ h => h) (Or.inl ⟨by rfl, ?_⟩) hHeld ?_ ?_
    rotate_left
    · rintro w' ⟨s0, s1, s2, s3, s4, s5, s6, s7⟩
      go_simp
      with_reducible rfl
    rotate_left
    · simp only [Act.put, List.setIfInBounds_toArray, List.set_cons_zero, List.set_cons_succ, i64_w, i32_w]
      rfl
    refine pure_ (i := 29) (N := some 65) (v := ?_) (a' := ?_) #[true, true, true, true, true, true, true, true, true, true, true, true, true, true, true, true, true, true, true, true, true, true, true, true, true, true, true, true, true, true, false, false, false, false, false, false, false, false, false, false, false] rfl rfl (any_of HT_.out (by kernel_rfl)) (fun _ _ _ h => h) (Or.inl ⟨by rfl, ?_⟩) ?_ ?_
    rotate_left
    · intro w'
      go_simp
      with_reducible rfl
    rotate_left
    · simp only [Act.put, List.setIfInBounds_toArray, List.set_cons_zero, List.set_cons_succ, i64_w, i32_w]
      rfl
    refine take_ (i := 30) (N := some 66) (v := ?_) (a' := ?_) #[true, true, true, true, true, true, true, true, true, true, true, true, true, true, true, true, true, true, true, true, true, true, true, true, true, true, true, true, true, true, true, false, false, false, false, false, false, false, false, false, false] rfl rfl (take_ofW HT_.out HW_.out (by kernel_rfl)) (fun _ _ _ h => h) (Or.inl ⟨by rfl, ?_⟩) hHeld ?_ ?_
    rotate_left
    · rintro w' ⟨s0, s1, s2, s3, s4, s5, s6, s7⟩
      go_simp
      with_reducible rfl
    rotate_left
    · simp only [Act.put, List.setIfInBounds_toArray, List.set_cons_zero, List.set_cons_succ, i64_w, i32_w]
      rfl
    refine pure_ (i := 31) (N := some 67) (v := ?_) (a' := ?_) #[true, true, true, true, true, true, true, true, true, true, true, true, true, true, true, true, true, true, true, true, true, true, true, true, true, true, true, true, true, true, true, true, false, false, false, false, false, false, false, false, false] rfl rfl (any_of HT_.out (by kernel_rfl)) (fun _ _ _ h => h) (Or.inl ⟨by rfl, ?_⟩) ?_ ?_
    rotate_left
    · intro w'
      go_simp
      with_reducible rfl
    rotate_left
    · simp only [Act.put, List.setIfInBounds_toArray, List.set_cons_zero, List.set_cons_succ, i64_w, i32_w]
      rfl
    refine pure_ (i := 32) (N := some 68) (v := ?_) (a' := ?_) #[true, true, true, true, true, true, true, true, true, true, true, true, true, true, true, true, true, true, true, true, true, true, true, true, true, true, true, true, true, true, true, true, true, false, false, false, false, false, false, false, false] rfl rfl (any_of HT_.out (by kernel_rfl)) (fun _ _ _ h => h) (Or.inl ⟨by rfl, ?_⟩) ?_ ?_
    rotate_left
    · intro w'
      go_simp
      with_reducible rfl
    rotate_left
    · simp only [Act.put, List.setIfInBounds_toArray, List.set_cons_zero, List.set_cons_succ, i64_w, i32_w]
      rfl
    refine pure_ (i := 33) (N := some 69) (v := ?_) (a' := ?_) #[true, true, true, true, true, true, true, true, true, true, true, true, true, true, true, true, true, true, true, true, true, true, true, true, true, true, true, true, true, true, true, true, true, true, false, false, false, false, false, false, false] rfl rfl (any_of HT_.out (by kernel_rfl)) (fun _ _ _ h => h) (Or.inl ⟨by rfl, ?_⟩) ?_ ?_
    rotate_left
    · intro w'
      go_simp
      with_reducible rfl
    rotate_left
    · simp only [Act.put, List.setIfInBounds_toArray, List.set_cons_zero, List.set_cons_succ, i64_w, i32_w]
      rfl
    refine pure_ (i := 34) (N := some 70) (v := ?_) (a' := ?_) #[true, true, true, true, true, true, true, true, true, true, true, true, true, true, true, true, true, true, true, true, true, true, true, true, true, true, true, true, true, true, true, true, true, true, true, false, false, false, false, false, false] rfl rfl (any_of HT_.out (by kernel_rfl)) (fun _ _ _ h => h) (Or.inl ⟨by rfl, ?_⟩) ?_ ?_
    rotate_left
    · intro w'
      go_simp
      with_reducible rfl
    rotate_left
    · simp only [Act.put, List.setIfInBounds_toArray, List.set_cons_zero, List.set_cons_succ, i64_w, i32_w]
      rfl
    refine take_ (i := 35) (N := some 71) (v := ?_) (a' := ?_) #[true, true, true, true, true, true, true, true, true, true, true, true, true, true, true, true, true, true, true, true, true, true, true, true, true, true, true, true, true, true, true, true, true, true, true, true, false, false, false, false, false] rfl rfl (take_ofW HT_.out HW_.out (by kernel_rfl)) (fun _ _ _ h => h) (Or.inl ⟨by rfl, ?_⟩) hHeld ?_ ?_
    rotate_left
    · rintro w' ⟨s0, s1, s2, s3, s4, s5, s6, s7⟩
      go_simp
      with_reducible rfl
    rotate_left
    · simp only [Act.put, List.setIfInBounds_toArray, List.set_cons_zero, List.set_cons_succ, i64_w, i32_w]
      rfl
    refine pure_ (i := 36) (N := some 72) (v := ?_) (a' := ?_) #[true, true, true, true, true, true, true, true, true, true, true, true, true, true, true, true, true, true, true, true, true, true, true, true, true, true, true, true, true, true, true, true, true, true, true, true, true, false, false, false, false] rfl rfl (any_of HT_.out (by kernel_rfl)) (fun _ _ _ h => h) (Or.inl ⟨by rfl, ?_⟩) ?_ ?_
    rotate_left
    · intro w'
      go_simp
      with_reducible rfl
    rotate_left
    · simp only [Act.put, List.setIfInBounds_toArray, List.set_cons_zero, List.set_cons_succ, i64_w, i32_w]
      rfl
    refine take_ (i := 37) (N := some 73) (v := ?_) (a' := ?_) #[true, true, true, true, true, true, true, true, true, true, true, true, true, true, true, true, true, true, true, true, true, true, true, true, true, true, true, true, true, true, true, true, true, true, true, true, true, true, false, false, false] rfl rfl (take_ofW HT_.out HW_.out (by kernel_rfl)) (fun _ _ _ h => h) (Or.inl ⟨by rfl, ?_⟩) hHeld ?_ ?_
    rotate_left
    · rintro w' ⟨s0, s1, s2, s3, s4, s5, s6, s7⟩
      go_simp
      with_reducible rfl
    rotate_left
    · simp only [Act.put, List.setIfInBounds_toArray, List.set_cons_zero, List.set_cons_succ, i64_w, i32_w]
      rfl
    refine one_ (i := 38) (N := some 74) #[true, true, true, true, true, true, true, true, true, true, true, true, true, true, true, true, true, true, true, true, true, true, true, true, true, true, true, true, true, true, true, true, true, true, true, true, true, true, true, false, false] rfl rfl (one_of HT_.out (by kernel_rfl)) (by decide) (fun K hK => ?_)
    refine goes_ Try.func24 (by kernel_rfl) rfl #[.slice A_s1 s1.length c_s1, .slice A_s2 s2.length c_s2] (by rfl) rfl rfl (by (try simp only [List.map_toArray, List.map_cons, List.map_nil]); first | done | rfl | (simp only [List.length_drop, List.length_take]; rfl)) ?_
    with_reducible refine (m_rows Q9.out _ _ _ _ _ HC_s1.out HK_s1.out (Kd.R_reads' HR_s2.out).2.2 (Kd.R_reads' HR_s2.out).2.1).mono ?_
    rintro e w19_ ⟨rfl, hB⟩
    refine ⟨_, rfl, ?_⟩
    have hsz := HB.out.size
    have nHB := Aside0.mk (HB.out.trans (hB.mono HB.out.size))
    clear HB
    have HB := nHB
    clear nHB
    clear hc_gf_0 hf_gf_0 hc_gf_1 hf_gf_1
    have nBK := Aside0.mk (blk_below (g := gf) (o := .cells #[.bool f0, .slice A_f f1.length c_f] 29 (0, 0)) BK_gf.out hB)
    clear BK_gf
    have BK_gf := nBK
    clear nBK
    have hc_gf_0 : w19_.cell? ⟨gf, 0, none⟩ = some (.bool f0) := (blk_cell BK_gf.out 0).trans rfl
    have hf_gf_0 := blk_frozen BK_gf.out 0
    have hc_gf_1 : w19_.cell? ⟨gf, 1, none⟩ = some (.slice A_f f1.length c_f) := (blk_cell BK_gf.out 1).trans rfl
    have hf_gf_1 := blk_frozen BK_gf.out 1
    clear hc_gw_0 hf_gw_0 hc_gw_1 hf_gw_1
    have nBK := Aside0.mk (blk_below (g := gw) (o := .cells #[.bool e0, .slice A_s0 s0.length c_s0] 29 (0, 0)) BK_gw.out hB)
    clear BK_gw
    have BK_gw := nBK
    clear nBK
    have hc_gw_0 : w19_.cell? ⟨gw, 0, none⟩ = some (.bool e0) := (blk_cell BK_gw.out 0).trans rfl
    have hf_gw_0 := blk_frozen BK_gw.out 0
    have hc_gw_1 : w19_.cell? ⟨gw, 1, none⟩ = some (.slice A_s0 s0.length c_s0) := (blk_cell BK_gw.out 1).trans rfl
    have hf_gw_1 := blk_frozen BK_gw.out 1
    clear hc_g9_0 hf_g9_0 hc_g9_1 hf_g9_1
    have nBK := Aside0.mk (blk_below (g := g9) (o := .cells #[.bool e1, .slice A_s1 s1.length c_s1] 29 (0, 0)) BK_g9.out hB)
    clear BK_g9
    have BK_g9 := nBK
    clear nBK
    have hc_g9_0 : w19_.cell? ⟨g9, 0, none⟩ = some (.bool e1) := (blk_cell BK_g9.out 0).trans rfl
    have hf_g9_0 := blk_frozen BK_g9.out 0
    have hc_g9_1 : w19_.cell? ⟨g9, 1, none⟩ = some (.slice A_s1 s1.length c_s1) := (blk_cell BK_g9.out 1).trans rfl
    have hf_g9_1 := blk_frozen BK_g9.out 1
    clear hc_go_0 hf_go_0 hc_go_1 hf_go_1
    have nBK := Aside0.mk (blk_below (g := go) (o := .cells #[.bool e1, .slice A_s2 s2.length c_s2] 29 (0, 0)) BK_go.out hB)
    clear BK_go
    have BK_go := nBK
    clear nBK
    have hc_go_0 : w19_.cell? ⟨go, 0, none⟩ = some (.bool e1) := (blk_cell BK_go.out 0).trans rfl
    have hf_go_0 := blk_frozen BK_go.out 0
    have hc_go_1 : w19_.cell? ⟨go, 1, none⟩ = some (.slice A_s2 s2.length c_s2) := (blk_cell BK_go.out 1).trans rfl
    have hf_go_1 := blk_frozen BK_go.out 1
    have nHC := Aside0.mk (Kd.C_below HC_y.out hB)
    clear HC_y
    have HC_y := nHC
    clear nHC
    have nHC := Aside0.mk (Kd.R_below HR_s0.out hB)
    clear HR_s0
    have HR_s0 := nHC
    clear nHC
    have nHC := Aside0.mk (Kd.C_below HC_s1.out hB)
    clear HC_s1
    have HC_s1 := nHC
    clear nHC
    have nHC := Aside0.mk (Kd.C_below HC_yl.out hB)
    clear HC_yl
    have HC_yl := nHC
    clear nHC
    have nHC := Aside0.mk (Kd.R_below HR_s2.out hB)
    clear HR_s2
    have HR_s2 := nHC
    clear nHC
    clear hB hsz
    refine hK.out _ _ ⟨hc_gf_0, hc_gf_1, hc_gw_0, hc_gw_1, hc_g9_0, hc_g9_1, hc_go_0, hc_go_1⟩ (fun hHeld => ?_)
    clear hK K
    refine norm_ (a' := ?_) ?_ ?_
    rotate_left
    · show Act.put _ (some 74) _ = _
      simp only [Act.put, List.setIfInBounds_toArray, List.set_cons_zero, List.set_cons_succ, i64_w, i32_w]
      rfl
    refine pure_ (i := 39) (N := some 75) (v := ?_) (a' := ?_) #[true, true, true, true, true, true, true, true, true, true, true, true, true, true, true, true, true, true, true, true, true, true, true, true, true, true, true, true, true, true, true, true, true, true, true, true, true, true, true, true, false] rfl rfl (any_of HT_.out (by kernel_rfl)) (fun _ _ _ h => h) (Or.inl ⟨by rfl, ?_⟩) ?_ ?_
    rotate_left
    · intro w'
      go_simp
      with_reducible rfl
    rotate_left
    · simp only [Act.put, List.setIfInBounds_toArray, List.set_cons_zero, List.set_cons_succ, i64_w, i32_w]
      rfl
    refine pure_ (i := 40) (N := some 6) (v := ?_) (a' := ?_) #[true, true, true, true, true, true, true, true, true, true, true, true, true, true, true, true, true, true, true, true, true, true, true, true, true, true, true, true, true, true, true, true, true, true, true, true, true, true, true, true, true] rfl rfl (any_of HT_.out (by kernel_rfl)) (fun _ _ _ h => h) (Or.inl ⟨by rfl, ?_⟩) ?_ ?_
    rotate_left
    · intro w'
      go_simp
      with_reducible rfl
    rotate_left
    · simp only [Act.put, List.setIfInBounds_toArray, List.set_cons_zero, List.set_cons_succ, i64_w, i32_w]
      rfl
    refine done_ (done_of HT_.out (by kernel_rfl)) ?_
    try go_wp2
    go_ret
    exact ⟨rfl, HB.out⟩
end Go.Proofs.Ytkhljamellgcfaa
