/-
  HostGroups, walked.
-/
import Derived.Test.YtjncmiclpaodhaaHoA
import Derived.Test.YtjncmiclpaodhaaPHox12
import Derived.Test.YtjncmiclpaodhaaPHoy0
import Derived.Test.YtjncmiclpaodhaaPHoy1
namespace Go.Proofs.Ytjncmiclpaodhaa
open Go.RowKit Go.Proofs.YtjncmiclpaodhaaW.PrintWords Go.Proofs.YtjncmiclpaodhaaW.PrintLast Go.Proofs.YtjncmiclpaodhaaW.PrintMore Go.Proofs.Ytjncmiclpaodhaa.PHo
set_option linter.unusedVariables false
set_option linter.unusedSimpArgs false
def hg_T11 : Bool × List (List Nat × List Nat) := (true, [([], []), ([], []), ([], []), ([1, 2], [1, 2]), ([3], [3]), ([0, 4], [0, 4]), ([], []), ([6, 5, 5, 0, 1, 2, 3, 4, 5, 6], [5, 6])])
def hg_B11 : List Nat := [0, 0, 0, 6, 14, 31, 0, 127]
def hg_T13 : Bool × List (List Nat × List Nat) := (true, [([], []), ([], []), ([0, 1], [0, 1]), ([2], [2]), ([3], [3]), ([], []), ([], []), ([5, 6], [5, 6]), ([7], [7]), ([4, 8], [4, 8]), ([9], [9]), ([10], [10]), ([10], [10]), ([11, 12, 10], [10, 11, 12]), ([13, 10], [10, 13]), ([14, 10], [10, 14]), ([15, 10], [10, 15]), ([16, 10, 10], [10, 16]), ([17], [17]), ([18, 17], [17, 18]), ([17, 19, 10], [10, 17, 19]), ([10, 20], [10, 20]), ([21, 17], [21]), ([22], [22]), ([22], [22]), ([23, 24, 22, 22], [22, 23, 24]), ([22], [22]), ([22], [22]), ([26, 27, 22], [22, 26, 27]), ([28, 22], [22, 28]), ([29, 22], [22, 29]), ([22], [22]), ([30, 31, 25, 22], [22, 30, 31]), ([22], [22]), ([32, 33, 22], [22, 32, 33]), ([25, 34, 22], [22, 25, 34]), ([22, 35], [22, 35]), ([36, 32], [36]), ([37], [37]), ([38, 37], [37, 38]), ([39, 37, 37], [37, 39]), ([40], [40]), ([40], [40]), ([41, 42, 40], [40, 41, 42]), ([43, 40], [40, 43]), ([44, 40], [40, 44]), ([45, 40], [40, 45]), ([46, 40], [40, 46]), ([40, 47, 37], [37, 40, 47]), ([37, 48], [37, 48])])
def hg_B13 : List Nat := [0, 0, 3, 7, 15, 0, 0, 96, 224, 511, 1023, 2047, 2047, 8191, 16383, 32767, 65535, 131071, 262143, 524287, 1048575, 2097151, 4194303, 8388607, 8388607, 33554431, 8388607, 8388607, 209715199, 478150655, 1015021567, 8388607, 4294967295, 8388607, 17179869183, 34359738367, 68719476735, 137438953471, 274877906943, 549755813887, 1099511627775, 2199023255551, 2199023255551, 8796093022207, 17592186044415, 35184372088831, 70368744177663, 140737488355327, 281474976710655, 562949953421311]
theorem hg_t11 : rtab .any (opsOf Try.f7 11) = hg_T11 := by kernel_rfl
theorem hg_b11 : waitsOk hg_T11.2 hg_B11 = true := by kernel_rfl
theorem hg_t13 : rtab .any (opsOf Try.f7 13) = hg_T13 := by kernel_rfl
theorem hg_b13 : waitsOk hg_T13.2 hg_B13 = true := by kernel_rfl
theorem store_step {P : Program} {ops : Array Oper} {Q : Exit → Act → World → Prop} {oi : Oper} {a : Act} {w w1 : World} {K : Act → World → Prop} (hw : Region.wanted oi (yielded ops a.tmps) = true) (hN : oi.dst = none) (hrun : (execOp a.eval oi).run P w = .ok .skip w1) (h : K a w1) :
    if Region.wanted oi (yielded ops a.tmps) = true then Oper.wp P oi a w K Q else K (a.put oi.dst undef) w := by
  rw [if_pos hw]
  unfold Oper.wp
  rw [hrun]
  show K (a.put oi.dst undef) w1
  rw [hN]
  exact h
theorem few7_w {k : Nat} {l : List S42} {b : Bool} (h : stolonref07_Few.f k l = some b) (A : Option Addr) (c : Nat) (w : World) (hr : Kd.C k42 w A l.length l) (hc : l.length ≤ c) :
    Calls Try.prog 13 #[.agg #[.slice A l.length c]] w fun x w' => x = .returned (.bool b) ∧ Below w.heap.size w w' := stolonref07_Few.calls k A c l b w hr hc h
theorem right7_w {k : Nat} {l : List S42} {b : Bool} (h : stolonref07_Right.f k l = some b) (A : Option Addr) (c : Nat) (w : World) (hr : Kd.C k42 w A l.length l) (hc : l.length ≤ c) :
    Calls Try.prog 14 #[.agg #[.slice A l.length c]] w fun x w' => x = .returned (.bool b) ∧ Below w.heap.size w w' := stolonref07_Right.calls k A c l b w hr hc h
theorem dr_below {w w' : World} (h : Drawn0 w w') : Below w.heap.size w w' := by
  obtain ⟨n, rfl⟩ := h
  exact pw_below_drewN (Below.refl _ _) n
theorem right6_w {k : Nat} {l : List Int} {b : Bool} (h : stolonref06_Right.f k l = some b) (A : Option Addr) (c : Nat) (w : World) (hr : Kd.C (Kd.int .u32) w A l.length l) (hc : l.length ≤ c) :
    Calls Try.prog 9 #[.slice A l.length c] w fun x w' => x = .returned (.bool b) ∧ Below w.heap.size w w' := (stolonref06_Right.calls k A c l b w hr hc h).mono fun _ _ h => ⟨h.1, dr_below h.2⟩
theorem has6_w {k : Nat} {l : List Int} {x : Int} {b : Bool} (h : stolonref06_Has.f k l x = some b) (A : Option Addr) (c : Nat) (w : World) (hr : Kd.C (Kd.int .u32) w A l.length l) (hc : l.length ≤ c) :
    Calls Try.prog 12 #[.slice A l.length c, .int .u32 x] w fun e w' => e = .returned (.bool b) ∧ Below w.heap.size w w' := (stolonref06_Has.calls k A c l x b w hr hc h).mono fun _ _ h => ⟨h.1, dr_below h.2⟩
theorem wants6_w {k : Nat} {q : Bool} {l : List Int} {x : Int} {b : Bool} (h : stolonref06_Wants.f k q l x = some b) (A : Option Addr) (c : Nat) (w : World) (hr : Kd.C (Kd.int .u32) w A l.length l) (hc : l.length ≤ c) :
    Calls Try.prog 11 #[.agg #[.bool q, .slice A l.length c], .int .u32 x] w fun e w' => e = .returned (.bool b) ∧ Below w.heap.size w w' := (stolonref06_Wants.calls k q A c l x b w hr hc h).mono fun _ _ h => ⟨h.1, by first | exact h.2 | exact dr_below h.2⟩
theorem recs5_w {k n : Nat} {xs : List S36} {b : Bool} (hn : n = xs.length) (h : stolonref05_Recs.f k xs xs = some b) (A : Option Addr) (c : Nat) (B : Option Addr) (d : Nat) (w : World) (hr : Kd.C k36 w A n xs) (hc : n ≤ c) (hs : Kd.C k36 w B n xs) (hd : n ≤ d) :
    Calls Try.prog 22 #[.slice A n c, .slice B n d] w fun e w' => e = .returned (.bool b) ∧ Below w.heap.size w w' := by
  subst hn
  exact stolonref05_Recs.calls k A c xs B d xs b w hr hc hs hd h
def recOf (we : Int → Bool) (ws : Int → List Int) (g : Int) : S36 := ⟨if we g = true then 2 else 1, g, ws g⟩
set_option maxHeartbeats 8000000 in
set_option maxRecDepth 100000 in
theorem groups_few {k : Nat} {l : List S42} (hf : stolonref07_Few.f k l = some false) (x : Int) (A_l : Option Addr) (c_l : Nat) (w : World) (hr : Kd.C k42 w A_l l.length l) (hc : l.length ≤ c_l) :
    Calls Try.prog 7 #[.agg #[.slice A_l l.length c_l], .int .u32 x] w fun e w' => e = .returned (.bool true) ∧ Below w.heap.size w w' := by
  have hu40 := Try.underlying40
  have hu26 := Try.underlying26
  have hu36 := Try.underlying36
  have hu63 := Try.underlying63
  have HB := Aside0.mk (Below.refl w.heap.size w)
  have HC_l := Aside0.mk hr
  have HK_l := Aside0.mk hc
  clear hr hc
  have Xhf := Aside0.mk hf
  clear hf
  go_enter Try.func7, Try.ntmps7
  go_wp2_with (first | ((with_reducible refine gate_dst (N := 2) rfl ?_); (try (refine gate_guard (by rfl) ?_; dsimp only)); refine box_event ?hg (N := 2) ?hd (cs := #[.slice A_l l.length c_l]) (t := 40) ?hr ?_; (case hd => rfl); (case hg => rfl); (case hr => first | (go_simp; done) | (go_simp; rfl)); intro gh hg w1_ hbox hB; have HBo := Aside0.mk HB.out; have nHB := Aside0.mk (HB.out.trans (hB.mono HB.out.size)); clear HB; have HB := nHB; clear nHB; have BK_gh := Aside0.mk hbox; have GE_gh := Aside0.mk (show w.heap.size ≤ gh by rw [hg]; exact HBo.out.size); clear hg hbox hB; have hc_gh_0 : w1_.cell? ⟨gh, 0, none⟩ = some (.slice A_l l.length c_l) := (blk_cell BK_gh.out 0).trans rfl; have hf_gh_0 := blk_frozen BK_gh.out 0; clear HBo) | (go_at_call 8; with_reducible refine (stolonlaw07_shown.calls true _ rfl).mono ?_; rintro e w2_ ⟨rfl, hB⟩; have nHB := Aside0.mk (HB.out.trans (hB.mono HB.out.size)); clear HB; have HB := nHB; clear nHB; clear hc_gh_0 hf_gh_0; have nBK := Aside0.mk (blk_below (g := gh) (o := .cells #[.slice A_l l.length c_l] 40 (0, 0)) BK_gh.out hB); clear BK_gh; have BK_gh := nBK; clear nBK; have hc_gh_0 : w2_.cell? ⟨gh, 0, none⟩ = some (.slice A_l l.length c_l) := (blk_cell BK_gh.out 0).trans rfl; have hf_gh_0 := blk_frozen BK_gh.out 0; clear hB) | (go_at_call 13; with_reducible refine (few7_w Xhf.out _ _ _ (Kd.C_below HC_l.out HB.out) HK_l.out).mono ?_; rintro e w3_ ⟨rfl, hB⟩; have nHB := Aside0.mk (HB.out.trans (hB.mono HB.out.size)); clear HB; have HB := nHB; clear nHB; clear hc_gh_0 hf_gh_0; have nBK := Aside0.mk (blk_below (g := gh) (o := .cells #[.slice A_l l.length c_l] 40 (0, 0)) BK_gh.out hB); clear BK_gh; have BK_gh := nBK; clear nBK; have hc_gh_0 : w3_.cell? ⟨gh, 0, none⟩ = some (.slice A_l l.length c_l) := (blk_cell BK_gh.out 0).trans rfl; have hf_gh_0 := blk_frozen BK_gh.out 0; clear hB))
  go_ret
  exact ⟨rfl, HB.out⟩
set_option maxHeartbeats 8000000 in
set_option maxRecDepth 100000 in
theorem groups_wrong {k : Nat} {l : List S42} (hf : stolonref07_Few.f k l = some true) (hg : stolonref07_Right.f k l = some false) (x : Int) (A_l : Option Addr) (c_l : Nat) (w : World) (hr : Kd.C k42 w A_l l.length l) (hc : l.length ≤ c_l) :
    Calls Try.prog 7 #[.agg #[.slice A_l l.length c_l], .int .u32 x] w fun e w' => e = .returned (.bool true) ∧ Below w.heap.size w w' := by
  have hu40 := Try.underlying40
  have hu26 := Try.underlying26
  have hu36 := Try.underlying36
  have hu63 := Try.underlying63
  have HB := Aside0.mk (Below.refl w.heap.size w)
  have HC_l := Aside0.mk hr
  have HK_l := Aside0.mk hc
  clear hr hc
  have Xhf := Aside0.mk hf
  have Xhg := Aside0.mk hg
  clear hf hg
  go_enter Try.func7, Try.ntmps7
  go_wp2_with (first | ((with_reducible refine gate_dst (N := 2) rfl ?_); (try (refine gate_guard (by rfl) ?_; dsimp only)); refine box_event ?hg (N := 2) ?hd (cs := #[.slice A_l l.length c_l]) (t := 40) ?hr ?_; (case hd => rfl); (case hg => rfl); (case hr => first | (go_simp; done) | (go_simp; rfl)); intro gh hg w1_ hbox hB; have HBo := Aside0.mk HB.out; have nHB := Aside0.mk (HB.out.trans (hB.mono HB.out.size)); clear HB; have HB := nHB; clear nHB; have BK_gh := Aside0.mk hbox; have GE_gh := Aside0.mk (show w.heap.size ≤ gh by rw [hg]; exact HBo.out.size); clear hg hbox hB; have hc_gh_0 : w1_.cell? ⟨gh, 0, none⟩ = some (.slice A_l l.length c_l) := (blk_cell BK_gh.out 0).trans rfl; have hf_gh_0 := blk_frozen BK_gh.out 0; clear HBo) | (go_at_call 8; with_reducible refine (stolonlaw07_shown.calls true _ rfl).mono ?_; rintro e w2_ ⟨rfl, hB⟩; have nHB := Aside0.mk (HB.out.trans (hB.mono HB.out.size)); clear HB; have HB := nHB; clear nHB; clear hc_gh_0 hf_gh_0; have nBK := Aside0.mk (blk_below (g := gh) (o := .cells #[.slice A_l l.length c_l] 40 (0, 0)) BK_gh.out hB); clear BK_gh; have BK_gh := nBK; clear nBK; have hc_gh_0 : w2_.cell? ⟨gh, 0, none⟩ = some (.slice A_l l.length c_l) := (blk_cell BK_gh.out 0).trans rfl; have hf_gh_0 := blk_frozen BK_gh.out 0; clear hB) | (go_at_call 13; with_reducible refine (few7_w Xhf.out _ _ _ (Kd.C_below HC_l.out HB.out) HK_l.out).mono ?_; rintro e w3_ ⟨rfl, hB⟩; have nHB := Aside0.mk (HB.out.trans (hB.mono HB.out.size)); clear HB; have HB := nHB; clear nHB; clear hc_gh_0 hf_gh_0; have nBK := Aside0.mk (blk_below (g := gh) (o := .cells #[.slice A_l l.length c_l] 40 (0, 0)) BK_gh.out hB); clear BK_gh; have BK_gh := nBK; clear nBK; have hc_gh_0 : w3_.cell? ⟨gh, 0, none⟩ = some (.slice A_l l.length c_l) := (blk_cell BK_gh.out 0).trans rfl; have hf_gh_0 := blk_frozen BK_gh.out 0; clear hB) | (go_at_call 14; with_reducible refine (right7_w Xhg.out _ _ _ (Kd.C_below HC_l.out HB.out) HK_l.out).mono ?_; rintro e w4_ ⟨rfl, hB⟩; have nHB := Aside0.mk (HB.out.trans (hB.mono HB.out.size)); clear HB; have HB := nHB; clear nHB; clear hc_gh_0 hf_gh_0; have nBK := Aside0.mk (blk_below (g := gh) (o := .cells #[.slice A_l l.length c_l] 40 (0, 0)) BK_gh.out hB); clear BK_gh; have BK_gh := nBK; clear nBK; have hc_gh_0 : w4_.cell? ⟨gh, 0, none⟩ = some (.slice A_l l.length c_l) := (blk_cell BK_gh.out 0).trans rfl; have hf_gh_0 := blk_frozen BK_gh.out 0; clear hB))
  go_ret
  exact ⟨rfl, HB.out⟩
set_option maxHeartbeats 8000000 in
set_option maxRecDepth 100000 in
theorem groups_main {k : Nat} {l : List S42} (x_ : Int) (hf : stolonref07_Few.f k l = some true) (hg : stolonref07_Right.f k l = some true) {G : List Int} (hG : host_Groups.f k l = some G) (hGl : G.length ≤ 1000) (hGR : stolonref06_Right.f k G = some true) {e0 : Bool} {s0 : List Int} (hw0 : host_Wants.f k l 0 = some (e0, s0)) {we : Int → Bool} {ws : Int → List Int} (hwant : ∀ g ∈ G, host_Wants.f k l g = some (we g, ws g)) (hcur : ∀ g ∈ G, host_current.f k l g = some ((recOf we ws g).f0, (recOf we ws g).f1, (recOf we ws g).f2)) (hne : ∀ g ∈ G, we g = false → 0 < (ws g).length) {wb hb : Int → Bool} (hwb : ∀ g ∈ G, stolonref06_Wants.f k (we g) (ws g) x_ = some (wb g)) (hhb : ∀ g ∈ G, stolonref06_Has.f k (ws g) x_ = some (hb g)) (hq : ∀ g ∈ G, wb g = (hb g != we g)) (hrecs : stolonref05_Recs.f k (G.map (recOf we ws)) (G.map (recOf we ws)) = some true) (A_l : Option Addr) (c_l : Nat) (w : World) (hr : Kd.C k42 w A_l l.length l) (hc : l.length ≤ c_l) :
    Calls Try.prog 7 #[.agg #[.slice A_l l.length c_l], .int .u32 x_] w fun e w' => e = .returned (.bool true) ∧ Below w.heap.size w w' := by
  have hu40 := Try.underlying40
  have hu26 := Try.underlying26
  have hu36 := Try.underlying36
  have hu63 := Try.underlying63
  have HB := Aside0.mk (Below.refl w.heap.size w)
  have HC_l := Aside0.mk hr
  have HK_l := Aside0.mk hc
  clear hr hc
  have Xhf := Aside0.mk hf
  have Xhg := Aside0.mk hg
  have XhG := Aside0.mk hG
  have XhGl := Aside0.mk hGl
  have XhGR := Aside0.mk hGR
  have Xhw0 := Aside0.mk hw0
  have Xhwant := Aside0.mk hwant
  have Xhcur := Aside0.mk hcur
  have Xhne := Aside0.mk hne
  have Xhwb := Aside0.mk hwb
  have Xhhb := Aside0.mk hhb
  have Xhq := Aside0.mk hq
  have Xhrecs := Aside0.mk hrecs
  clear hf hg hG hGl hGR hw0 hwant hcur hne hwb hhb hq hrecs
  go_enter Try.func7, Try.ntmps7
  go_upto_region 5 with (first | ((with_reducible refine gate_dst (N := 2) rfl ?_); (try (refine gate_guard (by rfl) ?_; dsimp only)); refine box_event ?hg (N := 2) ?hd (cs := #[.slice A_l l.length c_l]) (t := 40) ?hr ?_; (case hd => rfl); (case hg => rfl); (case hr => first | (go_simp; done) | (go_simp; rfl)); intro gh hg w1_ hbox hB; have HBo := Aside0.mk HB.out; have nHB := Aside0.mk (HB.out.trans (hB.mono HB.out.size)); clear HB; have HB := nHB; clear nHB; have BK_gh := Aside0.mk hbox; have GE_gh := Aside0.mk (show w.heap.size ≤ gh by rw [hg]; exact HBo.out.size); clear hg hbox hB; have hc_gh_0 : w1_.cell? ⟨gh, 0, none⟩ = some (.slice A_l l.length c_l) := (blk_cell BK_gh.out 0).trans rfl; have hf_gh_0 := blk_frozen BK_gh.out 0; clear HBo) | (go_at_call 8; with_reducible refine (stolonlaw07_shown.calls true _ rfl).mono ?_; rintro e w2_ ⟨rfl, hB⟩; have nHB := Aside0.mk (HB.out.trans (hB.mono HB.out.size)); clear HB; have HB := nHB; clear nHB; clear hc_gh_0 hf_gh_0; have nBK := Aside0.mk (blk_below (g := gh) (o := .cells #[.slice A_l l.length c_l] 40 (0, 0)) BK_gh.out hB); clear BK_gh; have BK_gh := nBK; clear nBK; have hc_gh_0 : w2_.cell? ⟨gh, 0, none⟩ = some (.slice A_l l.length c_l) := (blk_cell BK_gh.out 0).trans rfl; have hf_gh_0 := blk_frozen BK_gh.out 0; clear hB) | (go_at_call 13; with_reducible refine (few7_w Xhf.out _ _ _ (Kd.C_below HC_l.out HB.out) HK_l.out).mono ?_; rintro e w3_ ⟨rfl, hB⟩; have nHB := Aside0.mk (HB.out.trans (hB.mono HB.out.size)); clear HB; have HB := nHB; clear nHB; clear hc_gh_0 hf_gh_0; have nBK := Aside0.mk (blk_below (g := gh) (o := .cells #[.slice A_l l.length c_l] 40 (0, 0)) BK_gh.out hB); clear BK_gh; have BK_gh := nBK; clear nBK; have hc_gh_0 : w3_.cell? ⟨gh, 0, none⟩ = some (.slice A_l l.length c_l) := (blk_cell BK_gh.out 0).trans rfl; have hf_gh_0 := blk_frozen BK_gh.out 0; clear hB) | (go_at_call 14; with_reducible refine (right7_w Xhg.out _ _ _ (Kd.C_below HC_l.out HB.out) HK_l.out).mono ?_; rintro e w4_ ⟨rfl, hB⟩; have nHB := Aside0.mk (HB.out.trans (hB.mono HB.out.size)); clear HB; have HB := nHB; clear nHB; clear hc_gh_0 hf_gh_0; have nBK := Aside0.mk (blk_below (g := gh) (o := .cells #[.slice A_l l.length c_l] 40 (0, 0)) BK_gh.out hB); clear BK_gh; have BK_gh := nBK; clear nBK; have hc_gh_0 : w4_.cell? ⟨gh, 0, none⟩ = some (.slice A_l l.length c_l) := (blk_cell BK_gh.out 0).trans rfl; have hf_gh_0 := blk_frozen BK_gh.out 0; clear hB) | (go_at_call 24; with_reducible refine (groups_w XhG.out _ _ _ (Kd.C_below HC_l.out HB.out) HK_l.out).mono ?_; rintro e w5_ ⟨v_G, rfl, hR, hB⟩; obtain ⟨A_G, c_G, rfl⟩ := Kd.R_slice hR; have hsz := HB.out.size; have nHB := Aside0.mk (HB.out.trans (hB.mono HB.out.size)); clear HB; have HB := nHB; clear nHB; clear hc_gh_0 hf_gh_0; have nBK := Aside0.mk (blk_below (g := gh) (o := .cells #[.slice A_l l.length c_l] 40 (0, 0)) BK_gh.out hB); clear BK_gh; have BK_gh := nBK; clear nBK; have hc_gh_0 : w5_.cell? ⟨gh, 0, none⟩ = some (.slice A_l l.length c_l) := (blk_cell BK_gh.out 0).trans rfl; have hf_gh_0 := blk_frozen BK_gh.out 0; have HR_G := Aside0.mk (Kd.R_mono (Kd.R_lower hR hsz) (fun _ _ => trivial : ∀ k, _ → (fun _ => True) k)); clear hR hsz; clear hB))
  have HC_G := Aside0.mk (Kd.R_reads' HR_G.out).2.2
  have HK_G := Aside0.mk (Kd.R_reads' HR_G.out).2.1
  clear HR_G
  go_wp2_with (first | (go_at_call 25; refine (answer0_w XhG.out Xhw0.out Xhcur.out XhGl.out 2 9 _ _ _ (Kd.C_below HC_l.out HB.out) HK_l.out).mono ?_; rintro e w6_ ⟨v_R, rfl, hV, hB⟩; have nHB := Aside0.mk (HB.out.trans (hB.mono HB.out.size)); clear HB; have HB := nHB; clear nHB; clear hc_gh_0 hf_gh_0; have nBK := Aside0.mk (blk_below (g := gh) (o := .cells #[.slice A_l l.length c_l] 40 (0, 0)) BK_gh.out hB); clear BK_gh; have BK_gh := nBK; clear nBK; have hc_gh_0 : w6_.cell? ⟨gh, 0, none⟩ = some (.slice A_l l.length c_l) := (blk_cell BK_gh.out 0).trans rfl; have hf_gh_0 := blk_frozen BK_gh.out 0; have nHC := Aside0.mk (Kd.C_below HC_G.out hB); clear HC_G; have HC_G := nHC; clear nHC; obtain ⟨A_R, c_R, e_R⟩ := Kd.V_slice hV; subst e_R; have h_R := Kd.V_reads' hV; rw [List.length_map] at h_R ⊢; have HC_R := Aside0.mk h_R.2.2; have HK_R := Aside0.mk h_R.2.1; clear h_R hV hB) | (go_at_call 9; with_reducible refine (right6_w XhGR.out _ _ _ HC_G.out HK_G.out).mono ?_; rintro e w7_ ⟨rfl, hB⟩; have nHB := Aside0.mk (HB.out.trans (hB.mono HB.out.size)); clear HB; have HB := nHB; clear nHB; clear hc_gh_0 hf_gh_0; have nBK := Aside0.mk (blk_below (g := gh) (o := .cells #[.slice A_l l.length c_l] 40 (0, 0)) BK_gh.out hB); clear BK_gh; have BK_gh := nBK; clear nBK; have hc_gh_0 : w7_.cell? ⟨gh, 0, none⟩ = some (.slice A_l l.length c_l) := (blk_cell BK_gh.out 0).trans rfl; have hf_gh_0 := blk_frozen BK_gh.out 0; have nHC := Aside0.mk (Kd.C_below HC_G.out hB); clear HC_G; have HC_G := nHC; clear nHC; have nHC := Aside0.mk (Kd.C_below HC_R.out hB); clear HC_R; have HC_R := nHC; clear nHC; clear hB))
  have HBL := Aside0.mk (Below.refl w7_.heap.size w7_)
  have HBW := HB
  have HGL := HC_G
  have HRL := HC_R
  have BH := BK_gh
  clear hc_gh_0 hf_gh_0
  clear HB HC_G HC_R BK_gh
  go_loopg [8] G.length (fun gk v8 w' => ∃ i : Nat, v8 = .int .i64 (i : Int) ∧ Aside0 (i ≤ G.length ∧ gk = G.length - i) ∧ Aside0 (Below w7_.heap.size w7_ w'))
  case atStart => exact ⟨0, rfl, ⟨Nat.zero_le _, by omega⟩, HBL⟩
  case round =>
    clear HBL
    obtain ⟨i, rfl, HI, HBr⟩ := hrel
    obtain ⟨hi, hgk⟩ := HI.out
    have HB := Aside0.mk (HBW.out.trans (HBr.out.mono HBW.out.size))
    have HC_G := Aside0.mk (Kd.C_below HGL.out HBr.out)
    have HC_R := Aside0.mk (Kd.C_below HRL.out HBr.out)
    have BK_gh := Aside0.mk (blk_below BH.out HBr.out)
    by_cases hlt : i < G.length
    · have c39 : decide ((i : Int) < (G.length : Int)) = true := decide_eq_true (by omega)
      have p1 : (0 : Int) ≤ (i : Int) := by omega
      have p2 : (i : Int) < (G.length : Int) := by omega
      have HBR := Aside0.mk (Below.refl wr.heap.size wr)
      obtain ⟨ad, he1, hx⟩ := Kd.at_int HC_G.out (i : Int) p1 p2
      obtain ⟨ae, A_t, c_t, he2, hx0, hx1, hx2, hl2, hc2⟩ := at_T36 HC_R.out (i : Int) p1 p2
      subst he1 he2
      have hgi : rd G (i : Int) = G[i] := by show G.getD ((i : Int).toNat) 0 = _; rw [Int.toNat_natCast, List.getD_eq_getElem?_getD, List.getElem?_eq_getElem hlt]; rfl
      have hri : rd_T36 (G.map (recOf we ws)) (i : Int) = recOf we ws G[i] := by unfold rd_T36; rw [Int.toNat_natCast, List.getD_eq_getElem?_getD, List.getElem?_map, List.getElem?_eq_getElem hlt]; rfl
      have HGM0 := List.getElem_mem hlt
      obtain ⟨g, hg⟩ : ∃ g, g = G[i] := ⟨_, rfl⟩
      rw [hgi, ← hg] at hx
      rw [hri, ← hg] at hx0 hx1 hx2 hl2 hc2
      rw [← hg] at HGM0
      have HGM := Aside0.mk HGM0
      rw [Int.toNat_natCast] at hx hx0 hx1 hx2
      clear hgi hri HGM0 hg
      obtain ⟨e, hee⟩ : ∃ e, e = we g := ⟨_, rfl⟩
      obtain ⟨s, hss⟩ : ∃ s, s = ws g := ⟨_, rfl⟩
      obtain ⟨y, hy⟩ : ∃ y : Int, y = (if we g = true then 2 else 1) := ⟨_, rfl⟩
      replace hx0 : wr.cell? (ae.add (i * 3)) = some (.int .u8 y) := by rw [hy]; exact hx0
      replace hx1 : wr.cell? ⟨(ae.add (i * 3)).block, (ae.add (i * 3)).off + 1, none⟩ = some (.int .u32 g) := hx1
      replace hx2 : wr.cell? ⟨(ae.add (i * 3)).block, (ae.add (i * 3)).off + 2, none⟩ = some (.slice A_t s.length c_t) := by rw [hss]; exact hx2
      have HC_t := Aside0.mk (show Kd.C (Kd.int .u32) wr A_t s.length s by rw [hss]; exact hc2)
      have HK_t := Aside0.mk (show s.length ≤ c_t by rw [hss]; exact hl2)
      have HWN := Aside0.mk (show host_Wants.f k l g = some (e, s) by rw [hee, hss]; exact Xhwant.out g HGM.out)
      have HNE := Aside0.mk (show e = false → 0 < s.length by rw [hee, hss]; exact Xhne.out g HGM.out)
      obtain ⟨b1, hb1⟩ : ∃ b, b = wb g := ⟨_, rfl⟩
      obtain ⟨b2, hb2⟩ : ∃ b, b = hb g := ⟨_, rfl⟩
      have HWB := Aside0.mk (show stolonref06_Wants.f k e s x_ = some b1 by rw [hee, hss, hb1]; exact Xhwb.out g HGM.out)
      have HHB := Aside0.mk (show stolonref06_Has.f k s x_ = some b2 by rw [hss, hb2]; exact Xhhb.out g HGM.out)
      have HQ := Aside0.mk (show b1 = (b2 != e) by rw [hb1, hb2, hee]; exact Xhq.out g HGM.out)
      rw [← hee] at hy
      clear hl2 hc2 hee hss hb1 hb2
      have EX := Aside0.mk hx
      have EX0 := Aside0.mk hx0
      have EX1 := Aside0.mk hx1
      have EX2 := Aside0.mk hx2
      have HYE := Aside0.mk hy
      clear hx hx0 hx1 hx2 hy
      replace p1 := eq_true p1
      replace p2 := eq_true p2
      have hc_gh_0 : wr.cell? ⟨gh, 0, none⟩ = some (.slice A_l l.length c_l) := (blk_cell BK_gh.out 0).trans rfl
      have hf_gh_0 := blk_frozen BK_gh.out 0
      go_upto_region 11 with fail
      refine start_ (n := 8) (S := fun w' => True) (ds := []) #[false, false, false, false, false, false, false, false] (by kernel_rfl) rfl rfl trivial (fun hHeld => ?_); refine with_tabW hg_t11 hg_b11 (fun HT_ HW_ => ?_)
      have hB : Below wr.heap.size wr wr.drew := below_drew (Below.refl _ _)
      generalize wr.drew = w41_ at hB hHeld ⊢
      have nHB := Aside0.mk (HB.out.trans (hB.mono HB.out.size))
      clear HB
      have HB := nHB
      clear nHB
      clear hc_gh_0 hf_gh_0
      have nBK := Aside0.mk (blk_below (g := gh) (o := .cells #[.slice A_l l.length c_l] 40 (0, 0)) BK_gh.out hB)
      clear BK_gh
      have BK_gh := nBK
      clear nBK
      have hc_gh_0 : w41_.cell? ⟨gh, 0, none⟩ = some (.slice A_l l.length c_l) := (blk_cell BK_gh.out 0).trans rfl
      have hf_gh_0 := blk_frozen BK_gh.out 0
      have nHC := Aside0.mk (Kd.C_below HC_G.out hB)
      clear HC_G
      have HC_G := nHC
      clear nHC
      have nHC := Aside0.mk (Kd.C_below HC_R.out hB)
      clear HC_R
      have HC_R := nHC
      clear nHC
      have nHC := Aside0.mk (Kd.C_below HC_t.out hB)
      clear HC_t
      have HC_t := nHC
      clear nHC
      have nHR := Aside0.mk (HBR.out.trans (hB.mono HBR.out.size))
      clear HBR
      have HBR := nHR
      clear nHR
      clear hB
      have HXV := Aside0.mk (show w41_.cell? (ad.add i) = some (.int .u32 g) from ((HBR.out.cell (World.block_lt_of_cell? wr _ EX.out)).trans EX.out))
      refine pure_ (i := 1) (N := some 43) (v := ?_) (a' := ?_) #[false, true, false, false, false, false, false, false] rfl rfl (any_of HT_.out (by kernel_rfl)) (fun _ _ _ h => h) (Or.inl ⟨by rfl, ?_⟩) ?_ ?_
      rotate_left
      · intro w'
        go_simp
        with_reducible rfl
      rotate_left
      · simp only [Act.put, List.setIfInBounds_toArray, List.set_cons_zero, List.set_cons_succ, i64_w, i32_w]
        rfl
      refine pure_ (i := 2) (N := some 44) (v := ?_) (a' := ?_) #[false, true, true, false, false, false, false, false] rfl rfl (any_of HT_.out (by kernel_rfl)) (fun _ _ _ h => h) (Or.inl ⟨by rfl, ?_⟩) ?_ ?_
      rotate_left
      · intro w'
        go_simp
        with_reducible rfl
      rotate_left
      · simp only [Act.put, List.setIfInBounds_toArray, List.set_cons_zero, List.set_cons_succ, i64_w, i32_w]
        rfl
      refine pure_ (i := 3) (N := some 45) (v := ?_) (a' := ?_) #[false, true, true, true, false, false, false, false] rfl rfl (any_of HT_.out (by kernel_rfl)) (fun _ _ _ h => h) (Or.inl ⟨by rfl, ?_⟩) ?_ ?_
      rotate_left
      · intro w'
        go_simp
        with_reducible rfl
      rotate_left
      · simp only [Act.put, List.setIfInBounds_toArray, List.set_cons_zero, List.set_cons_succ, i64_w, i32_w]
        rfl
      refine inv_at [0, 4, 5, 6, 7] (fun a0_ b a w' => ∃ (v : Value) (g9 : Nat), a = putSel a0_ b [(0, 42, .agg #[.slice A_l l.length c_l]), (4, 46, .int .u32 g), (5, 47, .agg #[.bool e, v]), (6, 9, .pointer (some ⟨g9, 0, none⟩))] ∧ Below w41_.heap.size w41_ w' ∧ (b 5 = true → Kd.V (Kd.int .u32) 23 w' 0 (fun k => b 6 = true → k ≠ g9) v s) ∧ (b 6 = true → w41_.heap.size ≤ g9 ∧ w'.heap[g9]? = some (.cells (if b 7 = true then #[.bool e, v] else #[.bool false, .slice none 0 0]) 26 (0, 0)))) HT_.out HW_.out (by kernel_rfl) (by kernel_rfl) ?_ ?_ ?_
      · exact ⟨undef, 0, by simp only [putSel, Bool.false_eq_true, if_false], Below.refl _ _, fun h => absurd h (by decide), fun h => absurd h (by decide)⟩
      · skip
        refine steps_cons ?_ ?_
        · rintro b a w' ⟨v, g9, ha, QB, Q5, Q6⟩ hb_ hon hoff
          refine ⟨_, rfl, fun K hK => ?_⟩
          have e2 : a.tmps[2]? = some (.pointer (some ⟨gh, 0, none⟩)) := by rw [ha]; exact (putSel_off rfl).trans rfl
          replace ha := Aside0.mk ha
          have hd0 : w'.cell? ⟨gh, 0, none⟩ = some (.slice A_l l.length c_l) := (blk_cell (blk_below BK_gh.out QB) 0).trans rfl
          refine value_ (w1 := w') (v := .agg #[.slice A_l l.length c_l]) (by rfl) rfl ?_ ?_
          · go_simp
            try rfl
          exact hK.out _ _ ⟨v, g9, (by rw [ha.out]; exact putSel_upk 0 hb_ rfl rfl rfl), QB, Q5, Q6⟩
        refine steps_cons ?_ ?_
        · rintro b a w' ⟨v, g9, ha, QB, Q5, Q6⟩ hb_ hon hoff
          refine ⟨_, rfl, fun K hK => ?_⟩
          have e45 : a.tmps[45]? = some (.pointer (some (ad.add i))) := by rw [ha]; exact (putSel_off rfl).trans rfl
          replace ha := Aside0.mk ha
          have hd0 : w'.cell? (ad.add i) = some (.int .u32 g) := (QB.cell (World.block_lt_of_cell? w41_ _ HXV.out)).trans HXV.out
          refine value_ (w1 := w') (v := .int .u32 g) (by rfl) rfl ?_ ?_
          · go_simp
            try rfl
          exact hK.out _ _ ⟨v, g9, (by rw [ha.out]; exact putSel_upk 1 hb_ rfl rfl rfl), QB, Q5, Q6⟩
        refine steps_cons ?_ ?_
        · rintro b a w' ⟨v, g9, ha, QB, Q5, Q6⟩ hb_ hon hoff
          refine ⟨_, rfl, fun K hK => ?_⟩
          have e42 : a.tmps[42]? = some (.agg #[.slice A_l l.length c_l]) := by rw [ha]; exact putSel_on (e := (0, 42, .agg #[.slice A_l l.length c_l])) 0 rfl rfl (hon 0 (by kernel_rfl)) rfl
          have e46 : a.tmps[46]? = some (.int .u32 g) := by rw [ha]; exact putSel_on (e := (4, 46, .int .u32 g)) 1 rfl rfl (hon 4 (by kernel_rfl)) rfl
          replace ha := Aside0.mk ha
          refine goes_ Try.func18 (by kernel_rfl) rfl #[.agg #[.slice A_l l.length c_l], .int .u32 g] (by rfl) rfl rfl (by first | (simp only [List.map_toArray, List.map_cons, List.map_nil, Act.eval, Array.getD_eq_getD_getElem?, Option.getD_some, e42, e46]; done) | (simp only [List.map_toArray, List.map_cons, List.map_nil, Act.eval, Array.getD_eq_getD_getElem?, Option.getD_some, e42, e46]; rfl)) ?_
          with_reducible refine (wants_w HWN.out _ _ _ (Kd.C_below HC_l.out (HB.out.trans (QB.mono HB.out.size))) HK_l.out).mono ?_
          rintro z w1 ⟨u, rfl, hR, hb⟩
          refine ⟨_, rfl, ?_⟩
          exact hK.out _ _ ⟨u, g9, (by rw [ha.out]; exact putSel_upk 2 hb_ rfl rfl rfl), QB.trans (hb.mono QB.size), fun _ => Kd.V_mono (Kd.R_V (base' := 0) (Kd.R_bound hR)) (fun k hk h6 e => by have := blk_lt (Q6 h6).2; have := hk.2.1; omega), fun h6 => ⟨(Q6 h6).1, by have h7 := hoff 7 (by kernel_rfl); rw [show up b 5 7 = false from h7, if_neg Bool.false_ne_true]; have h9 := (Q6 h6).2; rw [h7, if_neg Bool.false_ne_true] at h9; exact blk_below h9 hb⟩⟩
        refine steps_cons ?_ ?_
        · rintro b a w' ⟨v, g9, ha, QB, Q5, Q6⟩ hb_ hon hoff
          refine ⟨_, rfl, fun K hK => ?_⟩
          replace ha := Aside0.mk ha
          refine box_step (by rfl) (N := 9) rfl (cs := #[.bool false, .slice none 0 0]) (t := 26) ?hr ?_; (case hr => first | (go_simp; done) | (go_simp; rfl))
          intro g1 hg w1 hbox hb
          exact hK.out _ _ ⟨v, g1, (by rw [ha.out]; exact putSel_upk 3 hb_ rfl rfl rfl), QB.trans (hb.mono QB.size), fun h5 => Kd.V_mono (Kd.V_below (Kd.V_bound (Q5 h5)) hb) (fun k hk _ e => by have := hk.2; omega), fun _ => ⟨by have := QB.size; omega, by have h7 := hoff 7 (by kernel_rfl); rw [show up b 6 7 = false from h7, if_neg Bool.false_ne_true]; exact hbox⟩⟩
        refine steps_cons ?_ ?_
        · rintro b a w' ⟨v, g9, ha, QB, Q5, Q6⟩ hb_ hon hoff
          refine ⟨_, rfl, fun K hK => ?_⟩
          have e9 : a.tmps[9]? = some (.pointer (some ⟨g9, 0, none⟩)) := by rw [ha]; exact putSel_on (e := (6, 9, .pointer (some ⟨g9, 0, none⟩))) 3 rfl rfl (hon 6 (by kernel_rfl)) rfl
          have e47 : a.tmps[47]? = some (.agg #[.bool e, v]) := by rw [ha]; exact putSel_on (e := (5, 47, .agg #[.bool e, v])) 2 rfl rfl (hon 5 (by kernel_rfl)) rfl
          replace ha := Aside0.mk ha
          have V5 := Q5 (hon 5 (by kernel_rfl))
          obtain ⟨g1, g4⟩ := Q6 (hon 6 (by kernel_rfl))
          rw [hb_, if_neg Bool.false_ne_true] at g4
          have hd0 : w'.cell? ⟨g9, 0, none⟩ = some (.bool false) := (blk_cell g4 0).trans rfl
          have hd1 : w'.cell? ⟨g9, 1, none⟩ = some (.slice none 0 0) := (blk_cell g4 1).trans rfl
          have hf0 := blk_frozen g4 0
          have hf1 := blk_frozen g4 1
          obtain ⟨As, cs, rfl⟩ := Kd.V_slice V5
          refine store_step (w1 := (w'.setCell ⟨g9, 0, none⟩ (.bool e)).setCell ⟨g9, 1, none⟩ (.slice As s.length cs)) (by rfl) rfl ?_ ?_
          · go_simp
            try rfl
          exact hK.out _ _ ⟨.slice As s.length cs, g9, (by rw [ha.out]; exact (putSel_same rfl).symm), below_set (below_set QB g1) g1, fun _ => Kd.V_mono (Kd.V_far (p := ⟨g9, 1, none⟩) (Kd.V_far (p := ⟨g9, 0, none⟩) V5 (fun _ hk => hk (hon 6 (by kernel_rfl))) (.bool e)) (fun _ hk => hk (hon 6 (by kernel_rfl))) (.slice As s.length cs)) (fun _ hk => hk), fun _ => ⟨g1, by rw [up_self b 7, if_pos rfl]; exact blk_put (cs := #[.bool e, .slice none 0 0]) (blk_put (cs := #[.bool false, .slice none 0 0]) g4 0 (.bool e) rfl) 1 (.slice As s.length cs) rfl⟩⟩
        exact steps_nil
      rintro b a wv hall ⟨v, gf, ha, QB, Q5, Q6⟩
      have hb0_ := hall 0 (by kernel_rfl)
      have hb4_ := hall 4 (by kernel_rfl)
      have hb5_ := hall 5 (by kernel_rfl)
      have hb6_ := hall 6 (by kernel_rfl)
      have hb7_ := hall 7 (by kernel_rfl)
      subst ha
      simp only [putSel, hb0_, hb4_, hb5_, hb6_, if_true, Act.put, List.setIfInBounds_toArray, List.set_cons_zero, List.set_cons_succ]
      have V5 := Q5 hb5_
      obtain ⟨g1, g4⟩ := Q6 hb6_
      rw [if_pos hb7_] at g4
      obtain ⟨A_s, c_s, rfl⟩ := Kd.V_slice V5
      have h_s := Kd.V_reads' V5
      have hB := QB
      have nHB := Aside0.mk (HB.out.trans (hB.mono HB.out.size))
      clear HB
      have HB := nHB
      clear nHB
      clear hc_gh_0 hf_gh_0
      have nBK := Aside0.mk (blk_below (g := gh) (o := .cells #[.slice A_l l.length c_l] 40 (0, 0)) BK_gh.out hB)
      clear BK_gh
      have BK_gh := nBK
      clear nBK
      have hc_gh_0 : wv.cell? ⟨gh, 0, none⟩ = some (.slice A_l l.length c_l) := (blk_cell BK_gh.out 0).trans rfl
      have hf_gh_0 := blk_frozen BK_gh.out 0
      have nHC := Aside0.mk (Kd.C_below HC_G.out hB)
      clear HC_G
      have HC_G := nHC
      clear nHC
      have nHC := Aside0.mk (Kd.C_below HC_R.out hB)
      clear HC_R
      have HC_R := nHC
      clear nHC
      have nHC := Aside0.mk (Kd.C_below HC_t.out hB)
      clear HC_t
      have HC_t := nHC
      clear nHC
      have nHR := Aside0.mk (HBR.out.trans (hB.mono HBR.out.size))
      clear HBR
      have HBR := nHR
      clear nHR
      have HC_s := Aside0.mk h_s.2.2
      have HK_s := Aside0.mk h_s.2.1
      have BK_gf := Aside0.mk g4
      have NGF := Aside0.mk g1
      clear h_s V5 g1 g4 Q5 Q6 hall hb0_ hb4_ hb5_ hb6_ hb7_ hB QB HT_ HW_ hHeld
      have hc_gf_0 : wv.cell? ⟨gf, 0, none⟩ = some (.bool e) := (blk_cell BK_gf.out 0).trans rfl
      have hf_gf_0 := blk_frozen BK_gf.out 0
      have hc_gf_1 : wv.cell? ⟨gf, 1, none⟩ = some (.slice A_s s.length c_s) := (blk_cell BK_gf.out 1).trans rfl
      have hf_gf_1 := blk_frozen BK_gf.out 1
      have hx0 := ((HBR.out.cell (World.block_lt_of_cell? wr _ EX0.out)).trans EX0.out)
      go_upto_region 13 with fail
      clear hx0
      have hy := HYE.out
      cases e with
      | false =>
        have hy2 : y = 1 := by rw [hy]; rfl
        clear hy
        subst hy2
        have h0s := HNE.out rfl
        have c0 : ((s.length : Int) == 0) = false := beq_eq_false_iff_ne.2 (by omega)
        clear h0s
        have hqq := HQ.out
        subst hqq
        refine start_ (n := 50) (S := fun w' => w'.cell? ⟨gh, 0, none⟩ = some (.slice A_l l.length c_l) ∧ w'.cell? ⟨gf, 0, none⟩ = some (.bool false) ∧ w'.cell? ⟨gf, 1, none⟩ = some (.slice A_s s.length c_s) ∧ w'.cell? (ad.add i) = some (.int .u32 g) ∧ w'.cell? (ae.add (i * 3)) = some (.int .u8 1) ∧ w'.cell? ⟨(ae.add (i * 3)).block, (ae.add (i * 3)).off + 1, none⟩ = some (.int .u32 g) ∧ w'.cell? ⟨(ae.add (i * 3)).block, (ae.add (i * 3)).off + 2, none⟩ = some (.slice A_t s.length c_t)) (ds := []) #[false, false, false, false, false, false, false, false, false, false, false, false, false, false, false, false, false, false, false, false, false, false, false, false, false, false, false, false, false, false, false, false, false, false, false, false, false, false, false, false, false, false, false, false, false, false, false, false, false, false] (by kernel_rfl) rfl rfl ⟨hc_gh_0, hc_gf_0, hc_gf_1, ((HBR.out.cell (World.block_lt_of_cell? wr _ EX.out)).trans EX.out), ((HBR.out.cell (World.block_lt_of_cell? wr _ EX0.out)).trans EX0.out), ((HBR.out.cell (World.block_lt_of_cell? wr _ EX1.out)).trans EX1.out), ((HBR.out.cell (World.block_lt_of_cell? wr _ EX2.out)).trans EX2.out)⟩ (fun hHeld => ?_); refine with_tabW hg_t13 hg_b13 (fun HT_ HW_ => ?_)
        have hB : Below wv.heap.size wv wv.drew := below_drew (Below.refl _ _)
        generalize wv.drew = w42_ at hB hHeld ⊢
        have nHB := Aside0.mk (HB.out.trans (hB.mono HB.out.size))
        clear HB
        have HB := nHB
        clear nHB
        clear hc_gh_0 hf_gh_0
        have nBK := Aside0.mk (blk_below (g := gh) (o := .cells #[.slice A_l l.length c_l] 40 (0, 0)) BK_gh.out hB)
        clear BK_gh
        have BK_gh := nBK
        clear nBK
        have hc_gh_0 : w42_.cell? ⟨gh, 0, none⟩ = some (.slice A_l l.length c_l) := (blk_cell BK_gh.out 0).trans rfl
        have hf_gh_0 := blk_frozen BK_gh.out 0
        clear hc_gf_0 hf_gf_0 hc_gf_1 hf_gf_1
        have nBK := Aside0.mk (blk_below (g := gf) (o := .cells #[.bool false, .slice A_s s.length c_s] 26 (0, 0)) BK_gf.out hB)
        clear BK_gf
        have BK_gf := nBK
        clear nBK
        have hc_gf_0 : w42_.cell? ⟨gf, 0, none⟩ = some (.bool false) := (blk_cell BK_gf.out 0).trans rfl
        have hf_gf_0 := blk_frozen BK_gf.out 0
        have hc_gf_1 : w42_.cell? ⟨gf, 1, none⟩ = some (.slice A_s s.length c_s) := (blk_cell BK_gf.out 1).trans rfl
        have hf_gf_1 := blk_frozen BK_gf.out 1
        have nHC := Aside0.mk (Kd.C_below HC_G.out hB)
        clear HC_G
        have HC_G := nHC
        clear nHC
        have nHC := Aside0.mk (Kd.C_below HC_R.out hB)
        clear HC_R
        have HC_R := nHC
        clear nHC
        have nHC := Aside0.mk (Kd.C_below HC_t.out hB)
        clear HC_t
        have HC_t := nHC
        clear nHC
        have nHC := Aside0.mk (Kd.C_below HC_s.out hB)
        clear HC_s
        have HC_s := nHC
        clear nHC
        have nHR := Aside0.mk (HBR.out.trans (hB.mono HBR.out.size))
        clear HBR
        have HBR := nHR
        clear nHR
        clear hB
        refine pure_ (i := 0) (N := some 54) (v := ?_) (a' := ?_) #[true, false, false, false, false, false, false, false, false, false, false, false, false, false, false, false, false, false, false, false, false, false, false, false, false, false, false, false, false, false, false, false, false, false, false, false, false, false, false, false, false, false, false, false, false, false, false, false, false, false] rfl rfl (any_of HT_.out (by kernel_rfl)) (fun _ _ _ h => h) (Or.inl ⟨by rfl, ?_⟩) ?_ ?_
        rotate_left
        · intro w'
          go_simp
          with_reducible rfl
        rotate_left
        · simp only [Act.put, List.setIfInBounds_toArray, List.set_cons_zero, List.set_cons_succ, i64_w, i32_w]
          rfl
        refine pure_ (i := 1) (N := some 55) (v := ?_) (a' := ?_) #[true, true, false, false, false, false, false, false, false, false, false, false, false, false, false, false, false, false, false, false, false, false, false, false, false, false, false, false, false, false, false, false, false, false, false, false, false, false, false, false, false, false, false, false, false, false, false, false, false, false] rfl rfl (any_of HT_.out (by kernel_rfl)) (fun _ _ _ h => h) (Or.inl ⟨by rfl, ?_⟩) ?_ ?_
        rotate_left
        · intro w'
          go_simp
          with_reducible rfl
        rotate_left
        · simp only [Act.put, List.setIfInBounds_toArray, List.set_cons_zero, List.set_cons_succ, i64_w, i32_w]
          rfl
        refine pure_ (i := 2) (N := some 56) (v := ?_) (a' := ?_) #[true, true, true, false, false, false, false, false, false, false, false, false, false, false, false, false, false, false, false, false, false, false, false, false, false, false, false, false, false, false, false, false, false, false, false, false, false, false, false, false, false, false, false, false, false, false, false, false, false, false] rfl rfl (any_of HT_.out (by kernel_rfl)) (fun _ _ _ h => h) (Or.inl ⟨by rfl, ?_⟩) ?_ ?_
        rotate_left
        · intro w'
          go_simp
          with_reducible rfl
        rotate_left
        · simp only [Act.put, List.setIfInBounds_toArray, List.set_cons_zero, List.set_cons_succ, i64_w, i32_w]
          rfl
        refine pure_ (i := 3) (N := some 57) (v := ?_) (a' := ?_) #[true, true, true, true, false, false, false, false, false, false, false, false, false, false, false, false, false, false, false, false, false, false, false, false, false, false, false, false, false, false, false, false, false, false, false, false, false, false, false, false, false, false, false, false, false, false, false, false, false, false] rfl rfl (any_of HT_.out (by kernel_rfl)) (fun _ _ _ h => h) (Or.inl ⟨by rfl, ?_⟩) ?_ ?_
        rotate_left
        · intro w'
          go_simp
          with_reducible rfl
        rotate_left
        · simp only [Act.put, List.setIfInBounds_toArray, List.set_cons_zero, List.set_cons_succ, i64_w, i32_w]
          rfl
        refine take_ (i := 4) (N := some 58) (v := ?_) (a' := ?_) #[true, true, true, true, true, false, false, false, false, false, false, false, false, false, false, false, false, false, false, false, false, false, false, false, false, false, false, false, false, false, false, false, false, false, false, false, false, false, false, false, false, false, false, false, false, false, false, false, false, false] rfl rfl (take_ofW HT_.out HW_.out (by kernel_rfl)) (fun _ _ _ h => h) (Or.inl ⟨by rfl, ?_⟩) hHeld ?_ ?_
        rotate_left
        · rintro w' ⟨s0, s1, s2, s3, s4, s5, s6⟩
          go_simp
          with_reducible rfl
        rotate_left
        · simp only [Act.put, List.setIfInBounds_toArray, List.set_cons_zero, List.set_cons_succ, i64_w, i32_w]
          rfl
        refine pure_ (i := 5) (N := some 59) (v := ?_) (a' := ?_) #[true, true, true, true, true, true, false, false, false, false, false, false, false, false, false, false, false, false, false, false, false, false, false, false, false, false, false, false, false, false, false, false, false, false, false, false, false, false, false, false, false, false, false, false, false, false, false, false, false, false] rfl rfl (any_of HT_.out (by kernel_rfl)) (fun _ _ _ h => h) (Or.inl ⟨by rfl, ?_⟩) ?_ ?_
        rotate_left
        · intro w'
          go_simp
          with_reducible rfl
        rotate_left
        · simp only [Act.put, List.setIfInBounds_toArray, List.set_cons_zero, List.set_cons_succ, i64_w, i32_w]
          rfl
        refine pure_ (i := 6) (N := some 60) (v := ?_) (a' := ?_) #[true, true, true, true, true, true, true, false, false, false, false, false, false, false, false, false, false, false, false, false, false, false, false, false, false, false, false, false, false, false, false, false, false, false, false, false, false, false, false, false, false, false, false, false, false, false, false, false, false, false] rfl rfl (any_of HT_.out (by kernel_rfl)) (fun _ _ _ h => h) (Or.inl ⟨by rfl, ?_⟩) ?_ ?_
        rotate_left
        · intro w'
          go_simp
          with_reducible rfl
        rotate_left
        · simp only [Act.put, List.setIfInBounds_toArray, List.set_cons_zero, List.set_cons_succ, i64_w, i32_w]
          rfl
        refine pure_ (i := 7) (N := some 61) (v := ?_) (a' := ?_) #[true, true, true, true, true, true, true, true, false, false, false, false, false, false, false, false, false, false, false, false, false, false, false, false, false, false, false, false, false, false, false, false, false, false, false, false, false, false, false, false, false, false, false, false, false, false, false, false, false, false] rfl rfl (any_of HT_.out (by kernel_rfl)) (fun _ _ _ h => h) (Or.inl ⟨by rfl, ?_⟩) ?_ ?_
        rotate_left
        · intro w'
          go_simp
          with_reducible rfl
        rotate_left
        · simp only [Act.put, List.setIfInBounds_toArray, List.set_cons_zero, List.set_cons_succ, i64_w, i32_w]
          rfl
        refine take_ (i := 8) (N := some 62) (v := ?_) (a' := ?_) #[true, true, true, true, true, true, true, true, true, false, false, false, false, false, false, false, false, false, false, false, false, false, false, false, false, false, false, false, false, false, false, false, false, false, false, false, false, false, false, false, false, false, false, false, false, false, false, false, false, false] rfl rfl (take_ofW HT_.out HW_.out (by kernel_rfl)) (fun _ _ _ h => h) (Or.inl ⟨by rfl, ?_⟩) hHeld ?_ ?_
        rotate_left
        · rintro w' ⟨s0, s1, s2, s3, s4, s5, s6⟩
          go_simp
          with_reducible rfl
        rotate_left
        · simp only [Act.put, List.setIfInBounds_toArray, List.set_cons_zero, List.set_cons_succ, i64_w, i32_w]
          rfl
        refine pure_ (i := 9) (N := some 63) (v := ?_) (a' := ?_) #[true, true, true, true, true, true, true, true, true, true, false, false, false, false, false, false, false, false, false, false, false, false, false, false, false, false, false, false, false, false, false, false, false, false, false, false, false, false, false, false, false, false, false, false, false, false, false, false, false, false] rfl rfl (any_of HT_.out (by kernel_rfl)) (fun _ _ _ h => h) (Or.inl ⟨by rfl, ?_⟩) ?_ ?_
        rotate_left
        · intro w'
          go_simp
          with_reducible rfl
        rotate_left
        · simp only [Act.put, List.setIfInBounds_toArray, List.set_cons_zero, List.set_cons_succ, i64_w, i32_w]
          rfl
        refine pure_ (i := 10) (N := some 64) (v := ?_) (a' := ?_) #[true, true, true, true, true, true, true, true, true, true, true, false, false, false, false, false, false, false, false, false, false, false, false, false, false, false, false, false, false, false, false, false, false, false, false, false, false, false, false, false, false, false, false, false, false, false, false, false, false, false] rfl rfl (any_of HT_.out (by kernel_rfl)) (fun _ _ _ h => h) (Or.inl ⟨by rfl, ?_⟩) ?_ ?_
        rotate_left
        · intro w'
          go_simp
          with_reducible rfl
        rotate_left
        · simp only [Act.put, List.setIfInBounds_toArray, List.set_cons_zero, List.set_cons_succ, i64_w, i32_w]
          rfl
        refine pure_ (i := 11) (N := some 65) (v := ?_) (a' := ?_) #[true, true, true, true, true, true, true, true, true, true, true, true, false, false, false, false, false, false, false, false, false, false, false, false, false, false, false, false, false, false, false, false, false, false, false, false, false, false, false, false, false, false, false, false, false, false, false, false, false, false] rfl rfl (any_of HT_.out (by kernel_rfl)) (fun _ _ _ h => h) (Or.inl ⟨by rfl, ?_⟩) ?_ ?_
        rotate_left
        · intro w'
          go_simp
          with_reducible rfl
        rotate_left
        · simp only [Act.put, List.setIfInBounds_toArray, List.set_cons_zero, List.set_cons_succ, i64_w, i32_w]
          rfl
        refine pure_ (i := 12) (N := some 66) (v := ?_) (a' := ?_) #[true, true, true, true, true, true, true, true, true, true, true, true, true, false, false, false, false, false, false, false, false, false, false, false, false, false, false, false, false, false, false, false, false, false, false, false, false, false, false, false, false, false, false, false, false, false, false, false, false, false] rfl rfl (any_of HT_.out (by kernel_rfl)) (fun _ _ _ h => h) (Or.inl ⟨by rfl, ?_⟩) ?_ ?_
        rotate_left
        · intro w'
          go_simp
          with_reducible rfl
        rotate_left
        · simp only [Act.put, List.setIfInBounds_toArray, List.set_cons_zero, List.set_cons_succ, i64_w, i32_w]
          rfl
        refine pure_ (i := 13) (N := some 67) (v := ?_) (a' := ?_) #[true, true, true, true, true, true, true, true, true, true, true, true, true, true, false, false, false, false, false, false, false, false, false, false, false, false, false, false, false, false, false, false, false, false, false, false, false, false, false, false, false, false, false, false, false, false, false, false, false, false] rfl rfl (any_of HT_.out (by kernel_rfl)) (fun _ _ _ h => h) (Or.inl ⟨by rfl, ?_⟩) ?_ ?_
        rotate_left
        · intro w'
          go_simp
          with_reducible rfl
        rotate_left
        · simp only [Act.put, List.setIfInBounds_toArray, List.set_cons_zero, List.set_cons_succ, i64_w, i32_w]
          rfl
        refine pure_ (i := 14) (N := some 68) (v := ?_) (a' := ?_) #[true, true, true, true, true, true, true, true, true, true, true, true, true, true, true, false, false, false, false, false, false, false, false, false, false, false, false, false, false, false, false, false, false, false, false, false, false, false, false, false, false, false, false, false, false, false, false, false, false, false] rfl rfl (any_of HT_.out (by kernel_rfl)) (fun _ _ _ h => h) (Or.inl ⟨by rfl, ?_⟩) ?_ ?_
        rotate_left
        · intro w'
          go_simp
          with_reducible rfl
        rotate_left
        · simp only [Act.put, List.setIfInBounds_toArray, List.set_cons_zero, List.set_cons_succ, i64_w, i32_w]
          rfl
        refine take_ (i := 15) (N := some 69) (v := ?_) (a' := ?_) #[true, true, true, true, true, true, true, true, true, true, true, true, true, true, true, true, false, false, false, false, false, false, false, false, false, false, false, false, false, false, false, false, false, false, false, false, false, false, false, false, false, false, false, false, false, false, false, false, false, false] rfl rfl (take_ofW HT_.out HW_.out (by kernel_rfl)) (fun _ _ _ h => h) (Or.inl ⟨by rfl, ?_⟩) hHeld ?_ ?_
        rotate_left
        · rintro w' ⟨s0, s1, s2, s3, s4, s5, s6⟩
          go_simp
          with_reducible rfl
        rotate_left
        · simp only [Act.put, List.setIfInBounds_toArray, List.set_cons_zero, List.set_cons_succ, i64_w, i32_w]
          rfl
        refine pure_ (i := 16) (N := some 70) (v := ?_) (a' := ?_) #[true, true, true, true, true, true, true, true, true, true, true, true, true, true, true, true, true, false, false, false, false, false, false, false, false, false, false, false, false, false, false, false, false, false, false, false, false, false, false, false, false, false, false, false, false, false, false, false, false, false] rfl rfl (any_of HT_.out (by kernel_rfl)) (fun _ _ _ h => h) (Or.inl ⟨by rfl, ?_⟩) ?_ ?_
        rotate_left
        · intro w'
          go_simp
          with_reducible rfl
        rotate_left
        · simp only [Act.put, List.setIfInBounds_toArray, List.set_cons_zero, List.set_cons_succ, i64_w, i32_w]
          rfl
        refine pure_ (i := 17) (N := some 71) (v := ?_) (a' := ?_) #[true, true, true, true, true, true, true, true, true, true, true, true, true, true, true, true, true, true, false, false, false, false, false, false, false, false, false, false, false, false, false, false, false, false, false, false, false, false, false, false, false, false, false, false, false, false, false, false, false, false] rfl rfl (any_of HT_.out (by kernel_rfl)) (fun _ _ _ h => h) (Or.inl ⟨by rfl, ?_⟩) ?_ ?_
        rotate_left
        · intro w'
          go_simp
          with_reducible rfl
        rotate_left
        · simp only [Act.put, List.setIfInBounds_toArray, List.set_cons_zero, List.set_cons_succ, i64_w, i32_w]
          rfl
        refine pure_ (i := 18) (N := some 72) (v := undef) (a' := ?_) #[true, true, true, true, true, true, true, true, true, true, true, true, true, true, true, true, true, true, true, false, false, false, false, false, false, false, false, false, false, false, false, false, false, false, false, false, false, false, false, false, false, false, false, false, false, false, false, false, false, false] rfl rfl (any_of HT_.out (by kernel_rfl)) (fun _ _ _ h => h) (Or.inr ⟨by rfl, rfl⟩) ?_ ?_
        rotate_left
        · simp only [Act.put, List.setIfInBounds_toArray, List.set_cons_zero, List.set_cons_succ, i64_w, i32_w]
          rfl
        refine pure_ (i := 19) (N := some 73) (v := undef) (a' := ?_) #[true, true, true, true, true, true, true, true, true, true, true, true, true, true, true, true, true, true, true, true, false, false, false, false, false, false, false, false, false, false, false, false, false, false, false, false, false, false, false, false, false, false, false, false, false, false, false, false, false, false] rfl rfl (any_of HT_.out (by kernel_rfl)) (fun _ _ _ h => h) (Or.inr ⟨by rfl, rfl⟩) ?_ ?_
        rotate_left
        · simp only [Act.put, List.setIfInBounds_toArray, List.set_cons_zero, List.set_cons_succ, i64_w, i32_w]
          rfl
        refine pure_ (i := 20) (N := some 74) (v := ?_) (a' := ?_) #[true, true, true, true, true, true, true, true, true, true, true, true, true, true, true, true, true, true, true, true, true, false, false, false, false, false, false, false, false, false, false, false, false, false, false, false, false, false, false, false, false, false, false, false, false, false, false, false, false, false] rfl rfl (any_of HT_.out (by kernel_rfl)) (fun _ _ _ h => h) (Or.inl ⟨by rfl, ?_⟩) ?_ ?_
        rotate_left
        · intro w'
          go_simp
          with_reducible rfl
        rotate_left
        · simp only [Act.put, List.setIfInBounds_toArray, List.set_cons_zero, List.set_cons_succ, i64_w, i32_w]
          rfl
        refine pure_ (i := 21) (N := some 75) (v := ?_) (a' := ?_) #[true, true, true, true, true, true, true, true, true, true, true, true, true, true, true, true, true, true, true, true, true, true, false, false, false, false, false, false, false, false, false, false, false, false, false, false, false, false, false, false, false, false, false, false, false, false, false, false, false, false] rfl rfl (any_of HT_.out (by kernel_rfl)) (fun _ _ _ h => h) (Or.inl ⟨by rfl, ?_⟩) ?_ ?_
        rotate_left
        · intro w'
          go_simp
          with_reducible rfl
        rotate_left
        · simp only [Act.put, List.setIfInBounds_toArray, List.set_cons_zero, List.set_cons_succ, i64_w, i32_w]
          rfl
        refine pure_ (i := 22) (N := some 76) (v := ?_) (a' := ?_) #[true, true, true, true, true, true, true, true, true, true, true, true, true, true, true, true, true, true, true, true, true, true, true, false, false, false, false, false, false, false, false, false, false, false, false, false, false, false, false, false, false, false, false, false, false, false, false, false, false, false] rfl rfl (any_of HT_.out (by kernel_rfl)) (fun _ _ _ h => h) (Or.inl ⟨by rfl, ?_⟩) ?_ ?_
        rotate_left
        · intro w'
          go_simp
          with_reducible rfl
        rotate_left
        · simp only [Act.put, List.setIfInBounds_toArray, List.set_cons_zero, List.set_cons_succ, i64_w, i32_w]
          rfl
        refine take_ (i := 23) (N := some 77) (v := ?_) (a' := ?_) #[true, true, true, true, true, true, true, true, true, true, true, true, true, true, true, true, true, true, true, true, true, true, true, true, false, false, false, false, false, false, false, false, false, false, false, false, false, false, false, false, false, false, false, false, false, false, false, false, false, false] rfl rfl (take_ofW HT_.out HW_.out (by kernel_rfl)) (fun _ _ _ h => h) (Or.inl ⟨by rfl, ?_⟩) hHeld ?_ ?_
        rotate_left
        · rintro w' ⟨s0, s1, s2, s3, s4, s5, s6⟩
          go_simp
          with_reducible rfl
        rotate_left
        · simp only [Act.put, List.setIfInBounds_toArray, List.set_cons_zero, List.set_cons_succ, i64_w, i32_w]
          rfl
        refine pure_ (i := 24) (N := some 78) (v := ?_) (a' := ?_) #[true, true, true, true, true, true, true, true, true, true, true, true, true, true, true, true, true, true, true, true, true, true, true, true, true, false, false, false, false, false, false, false, false, false, false, false, false, false, false, false, false, false, false, false, false, false, false, false, false, false] rfl rfl (any_of HT_.out (by kernel_rfl)) (fun _ _ _ h => h) (Or.inl ⟨by rfl, ?_⟩) ?_ ?_
        rotate_left
        · intro w'
          go_simp
          with_reducible rfl
        rotate_left
        · simp only [Act.put, List.setIfInBounds_toArray, List.set_cons_zero, List.set_cons_succ, i64_w, i32_w]
          rfl
        refine pure_ (i := 26) (N := some 80) (v := ?_) (a' := ?_) #[true, true, true, true, true, true, true, true, true, true, true, true, true, true, true, true, true, true, true, true, true, true, true, true, true, false, true, false, false, false, false, false, false, false, false, false, false, false, false, false, false, false, false, false, false, false, false, false, false, false] rfl rfl (any_of HT_.out (by kernel_rfl)) (fun _ _ _ h => h) (Or.inl ⟨by rfl, ?_⟩) ?_ ?_
        rotate_left
        · intro w'
          go_simp
          with_reducible rfl
        rotate_left
        · simp only [Act.put, List.setIfInBounds_toArray, List.set_cons_zero, List.set_cons_succ, i64_w, i32_w]
          rfl
        refine pure_ (i := 27) (N := some 81) (v := ?_) (a' := ?_) #[true, true, true, true, true, true, true, true, true, true, true, true, true, true, true, true, true, true, true, true, true, true, true, true, true, false, true, true, false, false, false, false, false, false, false, false, false, false, false, false, false, false, false, false, false, false, false, false, false, false] rfl rfl (any_of HT_.out (by kernel_rfl)) (fun _ _ _ h => h) (Or.inl ⟨by rfl, ?_⟩) ?_ ?_
        rotate_left
        · intro w'
          go_simp
          with_reducible rfl
        rotate_left
        · simp only [Act.put, List.setIfInBounds_toArray, List.set_cons_zero, List.set_cons_succ, i64_w, i32_w]
          rfl
        refine pure_ (i := 28) (N := some 82) (v := ?_) (a' := ?_) #[true, true, true, true, true, true, true, true, true, true, true, true, true, true, true, true, true, true, true, true, true, true, true, true, true, false, true, true, true, false, false, false, false, false, false, false, false, false, false, false, false, false, false, false, false, false, false, false, false, false] rfl rfl (any_of HT_.out (by kernel_rfl)) (fun _ _ _ h => h) (Or.inl ⟨by rfl, ?_⟩) ?_ ?_
        rotate_left
        · intro w'
          go_simp
          with_reducible rfl
        rotate_left
        · simp only [Act.put, List.setIfInBounds_toArray, List.set_cons_zero, List.set_cons_succ, i64_w, i32_w]
          rfl
        refine pure_ (i := 29) (N := some 83) (v := ?_) (a' := ?_) #[true, true, true, true, true, true, true, true, true, true, true, true, true, true, true, true, true, true, true, true, true, true, true, true, true, false, true, true, true, true, false, false, false, false, false, false, false, false, false, false, false, false, false, false, false, false, false, false, false, false] rfl rfl (any_of HT_.out (by kernel_rfl)) (fun _ _ _ h => h) (Or.inl ⟨by rfl, ?_⟩) ?_ ?_
        rotate_left
        · intro w'
          go_simp
          with_reducible rfl
        rotate_left
        · simp only [Act.put, List.setIfInBounds_toArray, List.set_cons_zero, List.set_cons_succ, i64_w, i32_w]
          rfl
        refine take_ (i := 30) (N := some 84) (v := ?_) (a' := ?_) #[true, true, true, true, true, true, true, true, true, true, true, true, true, true, true, true, true, true, true, true, true, true, true, true, true, false, true, true, true, true, true, false, false, false, false, false, false, false, false, false, false, false, false, false, false, false, false, false, false, false] rfl rfl (take_ofW HT_.out HW_.out (by kernel_rfl)) (fun _ _ _ h => h) (Or.inl ⟨by rfl, ?_⟩) hHeld ?_ ?_
        rotate_left
        · rintro w' ⟨s0, s1, s2, s3, s4, s5, s6⟩
          go_simp
          with_reducible rfl
        rotate_left
        · simp only [Act.put, List.setIfInBounds_toArray, List.set_cons_zero, List.set_cons_succ, i64_w, i32_w]
          rfl
        refine pure_ (i := 31) (N := some 85) (v := ?_) (a' := ?_) #[true, true, true, true, true, true, true, true, true, true, true, true, true, true, true, true, true, true, true, true, true, true, true, true, true, false, true, true, true, true, true, true, false, false, false, false, false, false, false, false, false, false, false, false, false, false, false, false, false, false] rfl rfl (any_of HT_.out (by kernel_rfl)) (fun _ _ _ h => h) (Or.inl ⟨by rfl, ?_⟩) ?_ ?_
        rotate_left
        · intro w'
          go_simp
          with_reducible rfl
        rotate_left
        · simp only [Act.put, List.setIfInBounds_toArray, List.set_cons_zero, List.set_cons_succ, i64_w, i32_w]
          rfl
        refine pure_ (i := 33) (N := some 87) (v := ?_) (a' := ?_) #[true, true, true, true, true, true, true, true, true, true, true, true, true, true, true, true, true, true, true, true, true, true, true, true, true, false, true, true, true, true, true, true, false, true, false, false, false, false, false, false, false, false, false, false, false, false, false, false, false, false] rfl rfl (any_of HT_.out (by kernel_rfl)) (fun _ _ _ h => h) (Or.inl ⟨by rfl, ?_⟩) ?_ ?_
        rotate_left
        · intro w'
          go_simp
          with_reducible rfl
        rotate_left
        · simp only [Act.put, List.setIfInBounds_toArray, List.set_cons_zero, List.set_cons_succ, i64_w, i32_w]
          rfl
        refine one_ (i := 25) (N := some 79) #[true, true, true, true, true, true, true, true, true, true, true, true, true, true, true, true, true, true, true, true, true, true, true, true, true, true, true, true, true, true, true, true, false, true, false, false, false, false, false, false, false, false, false, false, false, false, false, false, false, false] rfl rfl (one_of HT_.out (by kernel_rfl)) (by decide) (fun K hK => ?_)
        refine goes_ Try.func11 (by kernel_rfl) rfl #[.agg #[.bool false, .slice A_s s.length c_s], .int .u32 x_] (by rfl) rfl rfl (by (try simp only [List.map_toArray, List.map_cons, List.map_nil]); first | done | rfl | (simp only [List.length_drop, List.length_take]; rfl)) ?_
        with_reducible refine (wants6_w HWB.out _ _ _ HC_s.out HK_s.out).mono ?_
        rintro e w43_ ⟨rfl, hB⟩
        refine ⟨_, rfl, ?_⟩
        have hsz := HB.out.size
        have nHB := Aside0.mk (HB.out.trans (hB.mono HB.out.size))
        clear HB
        have HB := nHB
        clear nHB
        clear hc_gh_0 hf_gh_0
        have nBK := Aside0.mk (blk_below (g := gh) (o := .cells #[.slice A_l l.length c_l] 40 (0, 0)) BK_gh.out hB)
        clear BK_gh
        have BK_gh := nBK
        clear nBK
        have hc_gh_0 : w43_.cell? ⟨gh, 0, none⟩ = some (.slice A_l l.length c_l) := (blk_cell BK_gh.out 0).trans rfl
        have hf_gh_0 := blk_frozen BK_gh.out 0
        clear hc_gf_0 hf_gf_0 hc_gf_1 hf_gf_1
        have nBK := Aside0.mk (blk_below (g := gf) (o := .cells #[.bool false, .slice A_s s.length c_s] 26 (0, 0)) BK_gf.out hB)
        clear BK_gf
        have BK_gf := nBK
        clear nBK
        have hc_gf_0 : w43_.cell? ⟨gf, 0, none⟩ = some (.bool false) := (blk_cell BK_gf.out 0).trans rfl
        have hf_gf_0 := blk_frozen BK_gf.out 0
        have hc_gf_1 : w43_.cell? ⟨gf, 1, none⟩ = some (.slice A_s s.length c_s) := (blk_cell BK_gf.out 1).trans rfl
        have hf_gf_1 := blk_frozen BK_gf.out 1
        have nHC := Aside0.mk (Kd.C_below HC_G.out hB)
        clear HC_G
        have HC_G := nHC
        clear nHC
        have nHC := Aside0.mk (Kd.C_below HC_R.out hB)
        clear HC_R
        have HC_R := nHC
        clear nHC
        have nHC := Aside0.mk (Kd.C_below HC_t.out hB)
        clear HC_t
        have HC_t := nHC
        clear nHC
        have nHC := Aside0.mk (Kd.C_below HC_s.out hB)
        clear HC_s
        have HC_s := nHC
        clear nHC
        have nHR := Aside0.mk (HBR.out.trans (hB.mono HBR.out.size))
        clear HBR
        have HBR := nHR
        clear nHR
        clear hB hsz
        refine hK.out _ _ ⟨hc_gh_0, hc_gf_0, hc_gf_1, ((HBR.out.cell (World.block_lt_of_cell? wr _ EX.out)).trans EX.out), ((HBR.out.cell (World.block_lt_of_cell? wr _ EX0.out)).trans EX0.out), ((HBR.out.cell (World.block_lt_of_cell? wr _ EX1.out)).trans EX1.out), ((HBR.out.cell (World.block_lt_of_cell? wr _ EX2.out)).trans EX2.out)⟩ (fun hHeld => ?_)
        clear hK K
        refine norm_ (a' := ?_) ?_ ?_
        rotate_left
        · show Act.put _ (some 79) _ = _
          simp only [Act.put, List.setIfInBounds_toArray, List.set_cons_zero, List.set_cons_succ, i64_w, i32_w]
          rfl
        refine one_ (i := 32) (N := some 86) #[true, true, true, true, true, true, true, true, true, true, true, true, true, true, true, true, true, true, true, true, true, true, true, true, true, true, true, true, true, true, true, true, true, true, false, false, false, false, false, false, false, false, false, false, false, false, false, false, false, false] rfl rfl (one_of HT_.out (by kernel_rfl)) (by decide) (fun K hK => ?_)
        refine goes_ Try.func12 (by kernel_rfl) rfl #[.slice A_t s.length c_t, .int .u32 x_] (by rfl) rfl rfl (by (try simp only [List.map_toArray, List.map_cons, List.map_nil]); first | done | rfl | (simp only [List.length_drop, List.length_take]; rfl)) ?_
        with_reducible refine (has6_w HHB.out _ _ _ HC_t.out HK_t.out).mono ?_
        rintro e w44_ ⟨rfl, hB⟩
        refine ⟨_, rfl, ?_⟩
        have hsz := HB.out.size
        have nHB := Aside0.mk (HB.out.trans (hB.mono HB.out.size))
        clear HB
        have HB := nHB
        clear nHB
        clear hc_gh_0 hf_gh_0
        have nBK := Aside0.mk (blk_below (g := gh) (o := .cells #[.slice A_l l.length c_l] 40 (0, 0)) BK_gh.out hB)
        clear BK_gh
        have BK_gh := nBK
        clear nBK
        have hc_gh_0 : w44_.cell? ⟨gh, 0, none⟩ = some (.slice A_l l.length c_l) := (blk_cell BK_gh.out 0).trans rfl
        have hf_gh_0 := blk_frozen BK_gh.out 0
        clear hc_gf_0 hf_gf_0 hc_gf_1 hf_gf_1
        have nBK := Aside0.mk (blk_below (g := gf) (o := .cells #[.bool false, .slice A_s s.length c_s] 26 (0, 0)) BK_gf.out hB)
        clear BK_gf
        have BK_gf := nBK
        clear nBK
        have hc_gf_0 : w44_.cell? ⟨gf, 0, none⟩ = some (.bool false) := (blk_cell BK_gf.out 0).trans rfl
        have hf_gf_0 := blk_frozen BK_gf.out 0
        have hc_gf_1 : w44_.cell? ⟨gf, 1, none⟩ = some (.slice A_s s.length c_s) := (blk_cell BK_gf.out 1).trans rfl
        have hf_gf_1 := blk_frozen BK_gf.out 1
        have nHC := Aside0.mk (Kd.C_below HC_G.out hB)
        clear HC_G
        have HC_G := nHC
        clear nHC
        have nHC := Aside0.mk (Kd.C_below HC_R.out hB)
        clear HC_R
        have HC_R := nHC
        clear nHC
        have nHC := Aside0.mk (Kd.C_below HC_t.out hB)
        clear HC_t
        have HC_t := nHC
        clear nHC
        have nHC := Aside0.mk (Kd.C_below HC_s.out hB)
        clear HC_s
        have HC_s := nHC
        clear nHC
        have nHR := Aside0.mk (HBR.out.trans (hB.mono HBR.out.size))
        clear HBR
        have HBR := nHR
        clear nHR
        clear hB hsz
        refine hK.out _ _ ⟨hc_gh_0, hc_gf_0, hc_gf_1, ((HBR.out.cell (World.block_lt_of_cell? wr _ EX.out)).trans EX.out), ((HBR.out.cell (World.block_lt_of_cell? wr _ EX0.out)).trans EX0.out), ((HBR.out.cell (World.block_lt_of_cell? wr _ EX1.out)).trans EX1.out), ((HBR.out.cell (World.block_lt_of_cell? wr _ EX2.out)).trans EX2.out)⟩ (fun hHeld => ?_)
        clear hK K
        refine norm_ (a' := ?_) ?_ ?_
        rotate_left
        · show Act.put _ (some 86) _ = _
          simp only [Act.put, List.setIfInBounds_toArray, List.set_cons_zero, List.set_cons_succ, i64_w, i32_w]
          rfl
        refine pure_ (i := 34) (N := some 88) (v := ?_) (a' := ?_) #[true, true, true, true, true, true, true, true, true, true, true, true, true, true, true, true, true, true, true, true, true, true, true, true, true, true, true, true, true, true, true, true, true, true, true, false, false, false, false, false, false, false, false, false, false, false, false, false, false, false] rfl rfl (any_of HT_.out (by kernel_rfl)) (fun _ _ _ h => h) (Or.inl ⟨by rfl, ?_⟩) ?_ ?_
        rotate_left
        · intro w'
          go_simp
          with_reducible rfl
        rotate_left
        · simp only [Act.put, List.setIfInBounds_toArray, List.set_cons_zero, List.set_cons_succ, i64_w, i32_w]
          rfl
        refine pure_ (i := 35) (N := some 89) (v := ?_) (a' := ?_) #[true, true, true, true, true, true, true, true, true, true, true, true, true, true, true, true, true, true, true, true, true, true, true, true, true, true, true, true, true, true, true, true, true, true, true, true, false, false, false, false, false, false, false, false, false, false, false, false, false, false] rfl rfl (any_of HT_.out (by kernel_rfl)) (fun _ _ _ h => h) (Or.inl ⟨by rfl, ?_⟩) ?_ ?_
        rotate_left
        · intro w'
          go_simp
          with_reducible rfl
        rotate_left
        · simp only [Act.put, List.setIfInBounds_toArray, List.set_cons_zero, List.set_cons_succ, i64_w, i32_w]
          rfl
        refine pure_ (i := 36) (N := some 90) (v := ?_) (a' := ?_) #[true, true, true, true, true, true, true, true, true, true, true, true, true, true, true, true, true, true, true, true, true, true, true, true, true, true, true, true, true, true, true, true, true, true, true, true, true, false, false, false, false, false, false, false, false, false, false, false, false, false] rfl rfl (any_of HT_.out (by kernel_rfl)) (fun _ _ _ h => h) (Or.inl ⟨by rfl, ?_⟩) ?_ ?_
        rotate_left
        · intro w'
          go_simp
          with_reducible rfl
        rotate_left
        · simp only [Act.put, List.setIfInBounds_toArray, List.set_cons_zero, List.set_cons_succ, i64_w, i32_w]
          rfl
        refine pure_ (i := 37) (N := some 91) (v := ?_) (a' := ?_) #[true, true, true, true, true, true, true, true, true, true, true, true, true, true, true, true, true, true, true, true, true, true, true, true, true, true, true, true, true, true, true, true, true, true, true, true, true, true, false, false, false, false, false, false, false, false, false, false, false, false] rfl rfl (any_of HT_.out (by kernel_rfl)) (fun _ _ _ h => h) (Or.inl ⟨by rfl, ?_⟩) ?_ ?_
        rotate_left
        · intro w'
          go_simp
          with_reducible rfl
        rotate_left
        · simp only [Act.put, List.setIfInBounds_toArray, List.set_cons_zero, List.set_cons_succ, i64_w, i32_w]
          rfl
        refine pure_ (i := 38) (N := some 92) (v := ?_) (a' := ?_) #[true, true, true, true, true, true, true, true, true, true, true, true, true, true, true, true, true, true, true, true, true, true, true, true, true, true, true, true, true, true, true, true, true, true, true, true, true, true, true, false, false, false, false, false, false, false, false, false, false, false] rfl rfl (any_of HT_.out (by kernel_rfl)) (fun _ _ _ h => h) (Or.inl ⟨by rfl, ?_⟩) ?_ ?_
        rotate_left
        · intro w'
          go_simp
          with_reducible rfl
        rotate_left
        · simp only [Act.put, List.setIfInBounds_toArray, List.set_cons_zero, List.set_cons_succ, i64_w, i32_w]
          rfl
        refine pure_ (i := 39) (N := some 93) (v := ?_) (a' := ?_) #[true, true, true, true, true, true, true, true, true, true, true, true, true, true, true, true, true, true, true, true, true, true, true, true, true, true, true, true, true, true, true, true, true, true, true, true, true, true, true, true, false, false, false, false, false, false, false, false, false, false] rfl rfl (any_of HT_.out (by kernel_rfl)) (fun _ _ _ h => h) (Or.inl ⟨by rfl, ?_⟩) ?_ ?_
        rotate_left
        · intro w'
          go_simp
          with_reducible rfl
        rotate_left
        · simp only [Act.put, List.setIfInBounds_toArray, List.set_cons_zero, List.set_cons_succ, i64_w, i32_w]
          rfl
        refine pure_ (i := 40) (N := some 94) (v := ?_) (a' := ?_) #[true, true, true, true, true, true, true, true, true, true, true, true, true, true, true, true, true, true, true, true, true, true, true, true, true, true, true, true, true, true, true, true, true, true, true, true, true, true, true, true, true, false, false, false, false, false, false, false, false, false] rfl rfl (any_of HT_.out (by kernel_rfl)) (fun _ _ _ h => h) (Or.inl ⟨by rfl, ?_⟩) ?_ ?_
        rotate_left
        · intro w'
          go_simp
          with_reducible rfl
        rotate_left
        · simp only [Act.put, List.setIfInBounds_toArray, List.set_cons_zero, List.set_cons_succ, i64_w, i32_w]
          rfl
        refine pure_ (i := 41) (N := some 95) (v := ?_) (a' := ?_) #[true, true, true, true, true, true, true, true, true, true, true, true, true, true, true, true, true, true, true, true, true, true, true, true, true, true, true, true, true, true, true, true, true, true, true, true, true, true, true, true, true, true, false, false, false, false, false, false, false, false] rfl rfl (any_of HT_.out (by kernel_rfl)) (fun _ _ _ h => h) (Or.inl ⟨by rfl, ?_⟩) ?_ ?_
        rotate_left
        · intro w'
          go_simp
          with_reducible rfl
        rotate_left
        · simp only [Act.put, List.setIfInBounds_toArray, List.set_cons_zero, List.set_cons_succ, i64_w, i32_w]
          rfl
        refine pure_ (i := 42) (N := some 96) (v := ?_) (a' := ?_) #[true, true, true, true, true, true, true, true, true, true, true, true, true, true, true, true, true, true, true, true, true, true, true, true, true, true, true, true, true, true, true, true, true, true, true, true, true, true, true, true, true, true, true, false, false, false, false, false, false, false] rfl rfl (any_of HT_.out (by kernel_rfl)) (fun _ _ _ h => h) (Or.inl ⟨by rfl, ?_⟩) ?_ ?_
        rotate_left
        · intro w'
          go_simp
          with_reducible rfl
        rotate_left
        · simp only [Act.put, List.setIfInBounds_toArray, List.set_cons_zero, List.set_cons_succ, i64_w, i32_w]
          rfl
        refine pure_ (i := 43) (N := some 97) (v := ?_) (a' := ?_) #[true, true, true, true, true, true, true, true, true, true, true, true, true, true, true, true, true, true, true, true, true, true, true, true, true, true, true, true, true, true, true, true, true, true, true, true, true, true, true, true, true, true, true, true, false, false, false, false, false, false] rfl rfl (any_of HT_.out (by kernel_rfl)) (fun _ _ _ h => h) (Or.inl ⟨by rfl, ?_⟩) ?_ ?_
        rotate_left
        · intro w'
          go_simp
          with_reducible rfl
        rotate_left
        · simp only [Act.put, List.setIfInBounds_toArray, List.set_cons_zero, List.set_cons_succ, i64_w, i32_w]
          rfl
        refine pure_ (i := 44) (N := some 98) (v := ?_) (a' := ?_) #[true, true, true, true, true, true, true, true, true, true, true, true, true, true, true, true, true, true, true, true, true, true, true, true, true, true, true, true, true, true, true, true, true, true, true, true, true, true, true, true, true, true, true, true, true, false, false, false, false, false] rfl rfl (any_of HT_.out (by kernel_rfl)) (fun _ _ _ h => h) (Or.inl ⟨by rfl, ?_⟩) ?_ ?_
        rotate_left
        · intro w'
          go_simp
          with_reducible rfl
        rotate_left
        · simp only [Act.put, List.setIfInBounds_toArray, List.set_cons_zero, List.set_cons_succ, i64_w, i32_w]
          rfl
        refine take_ (i := 45) (N := some 99) (v := ?_) (a' := ?_) #[true, true, true, true, true, true, true, true, true, true, true, true, true, true, true, true, true, true, true, true, true, true, true, true, true, true, true, true, true, true, true, true, true, true, true, true, true, true, true, true, true, true, true, true, true, true, false, false, false, false] rfl rfl (take_ofW HT_.out HW_.out (by kernel_rfl)) (fun _ _ _ h => h) (Or.inl ⟨by rfl, ?_⟩) hHeld ?_ ?_
        rotate_left
        · rintro w' ⟨s0, s1, s2, s3, s4, s5, s6⟩
          go_simp
          with_reducible rfl
        rotate_left
        · simp only [Act.put, List.setIfInBounds_toArray, List.set_cons_zero, List.set_cons_succ, i64_w, i32_w]
          rfl
        refine pure_ (i := 46) (N := some 100) (v := ?_) (a' := ?_) #[true, true, true, true, true, true, true, true, true, true, true, true, true, true, true, true, true, true, true, true, true, true, true, true, true, true, true, true, true, true, true, true, true, true, true, true, true, true, true, true, true, true, true, true, true, true, true, false, false, false] rfl rfl (any_of HT_.out (by kernel_rfl)) (fun _ _ _ h => h) (Or.inl ⟨by rfl, ?_⟩) ?_ ?_
        rotate_left
        · intro w'
          go_simp
          with_reducible rfl
        rotate_left
        · simp only [Act.put, List.setIfInBounds_toArray, List.set_cons_zero, List.set_cons_succ, i64_w, i32_w]
          rfl
        refine pure_ (i := 47) (N := some 101) (v := ?_) (a' := ?_) #[true, true, true, true, true, true, true, true, true, true, true, true, true, true, true, true, true, true, true, true, true, true, true, true, true, true, true, true, true, true, true, true, true, true, true, true, true, true, true, true, true, true, true, true, true, true, true, true, false, false] rfl rfl (any_of HT_.out (by kernel_rfl)) (fun _ _ _ h => h) (Or.inl ⟨by rfl, ?_⟩) ?_ ?_
        rotate_left
        · intro w'
          go_simp
          with_reducible rfl
        rotate_left
        · simp only [Act.put, List.setIfInBounds_toArray, List.set_cons_zero, List.set_cons_succ, i64_w, i32_w]
          rfl
        refine pure_ (i := 48) (N := some 102) (v := ?_) (a' := ?_) #[true, true, true, true, true, true, true, true, true, true, true, true, true, true, true, true, true, true, true, true, true, true, true, true, true, true, true, true, true, true, true, true, true, true, true, true, true, true, true, true, true, true, true, true, true, true, true, true, true, false] rfl rfl (any_of HT_.out (by kernel_rfl)) (fun _ _ _ h => h) (Or.inl ⟨by rfl, ?_⟩) ?_ ?_
        rotate_left
        · intro w'
          go_simp
          with_reducible rfl
        rotate_left
        · simp only [Act.put, List.setIfInBounds_toArray, List.set_cons_zero, List.set_cons_succ, i64_w, i32_w]
          rfl
        refine pure_ (i := 49) (N := some 103) (v := ?_) (a' := ?_) #[true, true, true, true, true, true, true, true, true, true, true, true, true, true, true, true, true, true, true, true, true, true, true, true, true, true, true, true, true, true, true, true, true, true, true, true, true, true, true, true, true, true, true, true, true, true, true, true, true, true] rfl rfl (any_of HT_.out (by kernel_rfl)) (fun _ _ _ h => h) (Or.inl ⟨by rfl, ?_⟩) ?_ ?_
        rotate_left
        · intro w'
          go_simp
          with_reducible rfl
        rotate_left
        · simp only [Act.put, List.setIfInBounds_toArray, List.set_cons_zero, List.set_cons_succ, i64_w, i32_w]
          rfl
        refine done_ (done_of HT_.out (by kernel_rfl)) ?_
        go_wp2
        go_roundg (G.length - (i + 1))
        case measure => omega
        case rel =>
          refine ⟨i + 1, ?_, ⟨by omega, rfl⟩, ⟨HBr.out.trans (HBR.out.mono HBr.out.size)⟩⟩
          show Value.int .i64 (wrap64 ((i : Int) + 1)) = _
          have h1 := XhGl.out
          have h2 : wrap64 ((i : Int) + 1) = ((i + 1 : Nat) : Int) := by unfold wrap64; omega
          rw [h2]
      | true =>
        have hy2 : y = 2 := by rw [hy]; rfl
        clear hy
        subst hy2
        have hqq := HQ.out
        subst hqq
        refine start_ (n := 50) (S := fun w' => w'.cell? ⟨gh, 0, none⟩ = some (.slice A_l l.length c_l) ∧ w'.cell? ⟨gf, 0, none⟩ = some (.bool true) ∧ w'.cell? ⟨gf, 1, none⟩ = some (.slice A_s s.length c_s) ∧ w'.cell? (ad.add i) = some (.int .u32 g) ∧ w'.cell? (ae.add (i * 3)) = some (.int .u8 2) ∧ w'.cell? ⟨(ae.add (i * 3)).block, (ae.add (i * 3)).off + 1, none⟩ = some (.int .u32 g) ∧ w'.cell? ⟨(ae.add (i * 3)).block, (ae.add (i * 3)).off + 2, none⟩ = some (.slice A_t s.length c_t)) (ds := []) #[false, false, false, false, false, false, false, false, false, false, false, false, false, false, false, false, false, false, false, false, false, false, false, false, false, false, false, false, false, false, false, false, false, false, false, false, false, false, false, false, false, false, false, false, false, false, false, false, false, false] (by kernel_rfl) rfl rfl ⟨hc_gh_0, hc_gf_0, hc_gf_1, ((HBR.out.cell (World.block_lt_of_cell? wr _ EX.out)).trans EX.out), ((HBR.out.cell (World.block_lt_of_cell? wr _ EX0.out)).trans EX0.out), ((HBR.out.cell (World.block_lt_of_cell? wr _ EX1.out)).trans EX1.out), ((HBR.out.cell (World.block_lt_of_cell? wr _ EX2.out)).trans EX2.out)⟩ (fun hHeld => ?_); refine with_tabW hg_t13 hg_b13 (fun HT_ HW_ => ?_)
        have hB : Below wv.heap.size wv wv.drew := below_drew (Below.refl _ _)
        generalize wv.drew = w42_ at hB hHeld ⊢
        have nHB := Aside0.mk (HB.out.trans (hB.mono HB.out.size))
        clear HB
        have HB := nHB
        clear nHB
        clear hc_gh_0 hf_gh_0
        have nBK := Aside0.mk (blk_below (g := gh) (o := .cells #[.slice A_l l.length c_l] 40 (0, 0)) BK_gh.out hB)
        clear BK_gh
        have BK_gh := nBK
        clear nBK
        have hc_gh_0 : w42_.cell? ⟨gh, 0, none⟩ = some (.slice A_l l.length c_l) := (blk_cell BK_gh.out 0).trans rfl
        have hf_gh_0 := blk_frozen BK_gh.out 0
        clear hc_gf_0 hf_gf_0 hc_gf_1 hf_gf_1
        have nBK := Aside0.mk (blk_below (g := gf) (o := .cells #[.bool true, .slice A_s s.length c_s] 26 (0, 0)) BK_gf.out hB)
        clear BK_gf
        have BK_gf := nBK
        clear nBK
        have hc_gf_0 : w42_.cell? ⟨gf, 0, none⟩ = some (.bool true) := (blk_cell BK_gf.out 0).trans rfl
        have hf_gf_0 := blk_frozen BK_gf.out 0
        have hc_gf_1 : w42_.cell? ⟨gf, 1, none⟩ = some (.slice A_s s.length c_s) := (blk_cell BK_gf.out 1).trans rfl
        have hf_gf_1 := blk_frozen BK_gf.out 1
        have nHC := Aside0.mk (Kd.C_below HC_G.out hB)
        clear HC_G
        have HC_G := nHC
        clear nHC
        have nHC := Aside0.mk (Kd.C_below HC_R.out hB)
        clear HC_R
        have HC_R := nHC
        clear nHC
        have nHC := Aside0.mk (Kd.C_below HC_t.out hB)
        clear HC_t
        have HC_t := nHC
        clear nHC
        have nHC := Aside0.mk (Kd.C_below HC_s.out hB)
        clear HC_s
        have HC_s := nHC
        clear nHC
        have nHR := Aside0.mk (HBR.out.trans (hB.mono HBR.out.size))
        clear HBR
        have HBR := nHR
        clear nHR
        clear hB
        refine pure_ (i := 0) (N := some 54) (v := ?_) (a' := ?_) #[true, false, false, false, false, false, false, false, false, false, false, false, false, false, false, false, false, false, false, false, false, false, false, false, false, false, false, false, false, false, false, false, false, false, false, false, false, false, false, false, false, false, false, false, false, false, false, false, false, false] rfl rfl (any_of HT_.out (by kernel_rfl)) (fun _ _ _ h => h) (Or.inl ⟨by rfl, ?_⟩) ?_ ?_
        rotate_left
        · intro w'
          go_simp
          with_reducible rfl
        rotate_left
        · simp only [Act.put, List.setIfInBounds_toArray, List.set_cons_zero, List.set_cons_succ, i64_w, i32_w]
          rfl
        refine pure_ (i := 1) (N := some 55) (v := ?_) (a' := ?_) #[true, true, false, false, false, false, false, false, false, false, false, false, false, false, false, false, false, false, false, false, false, false, false, false, false, false, false, false, false, false, false, false, false, false, false, false, false, false, false, false, false, false, false, false, false, false, false, false, false, false] rfl rfl (any_of HT_.out (by kernel_rfl)) (fun _ _ _ h => h) (Or.inl ⟨by rfl, ?_⟩) ?_ ?_
        rotate_left
        · intro w'
          go_simp
          with_reducible rfl
        rotate_left
        · simp only [Act.put, List.setIfInBounds_toArray, List.set_cons_zero, List.set_cons_succ, i64_w, i32_w]
          rfl
        refine pure_ (i := 2) (N := some 56) (v := ?_) (a' := ?_) #[true, true, true, false, false, false, false, false, false, false, false, false, false, false, false, false, false, false, false, false, false, false, false, false, false, false, false, false, false, false, false, false, false, false, false, false, false, false, false, false, false, false, false, false, false, false, false, false, false, false] rfl rfl (any_of HT_.out (by kernel_rfl)) (fun _ _ _ h => h) (Or.inl ⟨by rfl, ?_⟩) ?_ ?_
        rotate_left
        · intro w'
          go_simp
          with_reducible rfl
        rotate_left
        · simp only [Act.put, List.setIfInBounds_toArray, List.set_cons_zero, List.set_cons_succ, i64_w, i32_w]
          rfl
        refine pure_ (i := 3) (N := some 57) (v := ?_) (a' := ?_) #[true, true, true, true, false, false, false, false, false, false, false, false, false, false, false, false, false, false, false, false, false, false, false, false, false, false, false, false, false, false, false, false, false, false, false, false, false, false, false, false, false, false, false, false, false, false, false, false, false, false] rfl rfl (any_of HT_.out (by kernel_rfl)) (fun _ _ _ h => h) (Or.inl ⟨by rfl, ?_⟩) ?_ ?_
        rotate_left
        · intro w'
          go_simp
          with_reducible rfl
        rotate_left
        · simp only [Act.put, List.setIfInBounds_toArray, List.set_cons_zero, List.set_cons_succ, i64_w, i32_w]
          rfl
        refine take_ (i := 4) (N := some 58) (v := ?_) (a' := ?_) #[true, true, true, true, true, false, false, false, false, false, false, false, false, false, false, false, false, false, false, false, false, false, false, false, false, false, false, false, false, false, false, false, false, false, false, false, false, false, false, false, false, false, false, false, false, false, false, false, false, false] rfl rfl (take_ofW HT_.out HW_.out (by kernel_rfl)) (fun _ _ _ h => h) (Or.inl ⟨by rfl, ?_⟩) hHeld ?_ ?_
        rotate_left
        · rintro w' ⟨s0, s1, s2, s3, s4, s5, s6⟩
          go_simp
          with_reducible rfl
        rotate_left
        · simp only [Act.put, List.setIfInBounds_toArray, List.set_cons_zero, List.set_cons_succ, i64_w, i32_w]
          rfl
        refine pure_ (i := 5) (N := some 59) (v := ?_) (a' := ?_) #[true, true, true, true, true, true, false, false, false, false, false, false, false, false, false, false, false, false, false, false, false, false, false, false, false, false, false, false, false, false, false, false, false, false, false, false, false, false, false, false, false, false, false, false, false, false, false, false, false, false] rfl rfl (any_of HT_.out (by kernel_rfl)) (fun _ _ _ h => h) (Or.inl ⟨by rfl, ?_⟩) ?_ ?_
        rotate_left
        · intro w'
          go_simp
          with_reducible rfl
        rotate_left
        · simp only [Act.put, List.setIfInBounds_toArray, List.set_cons_zero, List.set_cons_succ, i64_w, i32_w]
          rfl
        refine pure_ (i := 6) (N := some 60) (v := ?_) (a' := ?_) #[true, true, true, true, true, true, true, false, false, false, false, false, false, false, false, false, false, false, false, false, false, false, false, false, false, false, false, false, false, false, false, false, false, false, false, false, false, false, false, false, false, false, false, false, false, false, false, false, false, false] rfl rfl (any_of HT_.out (by kernel_rfl)) (fun _ _ _ h => h) (Or.inl ⟨by rfl, ?_⟩) ?_ ?_
        rotate_left
        · intro w'
          go_simp
          with_reducible rfl
        rotate_left
        · simp only [Act.put, List.setIfInBounds_toArray, List.set_cons_zero, List.set_cons_succ, i64_w, i32_w]
          rfl
        refine pure_ (i := 7) (N := some 61) (v := ?_) (a' := ?_) #[true, true, true, true, true, true, true, true, false, false, false, false, false, false, false, false, false, false, false, false, false, false, false, false, false, false, false, false, false, false, false, false, false, false, false, false, false, false, false, false, false, false, false, false, false, false, false, false, false, false] rfl rfl (any_of HT_.out (by kernel_rfl)) (fun _ _ _ h => h) (Or.inl ⟨by rfl, ?_⟩) ?_ ?_
        rotate_left
        · intro w'
          go_simp
          with_reducible rfl
        rotate_left
        · simp only [Act.put, List.setIfInBounds_toArray, List.set_cons_zero, List.set_cons_succ, i64_w, i32_w]
          rfl
        refine take_ (i := 8) (N := some 62) (v := ?_) (a' := ?_) #[true, true, true, true, true, true, true, true, true, false, false, false, false, false, false, false, false, false, false, false, false, false, false, false, false, false, false, false, false, false, false, false, false, false, false, false, false, false, false, false, false, false, false, false, false, false, false, false, false, false] rfl rfl (take_ofW HT_.out HW_.out (by kernel_rfl)) (fun _ _ _ h => h) (Or.inl ⟨by rfl, ?_⟩) hHeld ?_ ?_
        rotate_left
        · rintro w' ⟨s0, s1, s2, s3, s4, s5, s6⟩
          go_simp
          with_reducible rfl
        rotate_left
        · simp only [Act.put, List.setIfInBounds_toArray, List.set_cons_zero, List.set_cons_succ, i64_w, i32_w]
          rfl
        refine pure_ (i := 9) (N := some 63) (v := ?_) (a' := ?_) #[true, true, true, true, true, true, true, true, true, true, false, false, false, false, false, false, false, false, false, false, false, false, false, false, false, false, false, false, false, false, false, false, false, false, false, false, false, false, false, false, false, false, false, false, false, false, false, false, false, false] rfl rfl (any_of HT_.out (by kernel_rfl)) (fun _ _ _ h => h) (Or.inl ⟨by rfl, ?_⟩) ?_ ?_
        rotate_left
        · intro w'
          go_simp
          with_reducible rfl
        rotate_left
        · simp only [Act.put, List.setIfInBounds_toArray, List.set_cons_zero, List.set_cons_succ, i64_w, i32_w]
          rfl
        refine pure_ (i := 10) (N := some 64) (v := ?_) (a' := ?_) #[true, true, true, true, true, true, true, true, true, true, true, false, false, false, false, false, false, false, false, false, false, false, false, false, false, false, false, false, false, false, false, false, false, false, false, false, false, false, false, false, false, false, false, false, false, false, false, false, false, false] rfl rfl (any_of HT_.out (by kernel_rfl)) (fun _ _ _ h => h) (Or.inl ⟨by rfl, ?_⟩) ?_ ?_
        rotate_left
        · intro w'
          go_simp
          with_reducible rfl
        rotate_left
        · simp only [Act.put, List.setIfInBounds_toArray, List.set_cons_zero, List.set_cons_succ, i64_w, i32_w]
          rfl
        refine pure_ (i := 11) (N := some 65) (v := ?_) (a' := ?_) #[true, true, true, true, true, true, true, true, true, true, true, true, false, false, false, false, false, false, false, false, false, false, false, false, false, false, false, false, false, false, false, false, false, false, false, false, false, false, false, false, false, false, false, false, false, false, false, false, false, false] rfl rfl (any_of HT_.out (by kernel_rfl)) (fun _ _ _ h => h) (Or.inl ⟨by rfl, ?_⟩) ?_ ?_
        rotate_left
        · intro w'
          go_simp
          with_reducible rfl
        rotate_left
        · simp only [Act.put, List.setIfInBounds_toArray, List.set_cons_zero, List.set_cons_succ, i64_w, i32_w]
          rfl
        refine pure_ (i := 12) (N := some 66) (v := ?_) (a' := ?_) #[true, true, true, true, true, true, true, true, true, true, true, true, true, false, false, false, false, false, false, false, false, false, false, false, false, false, false, false, false, false, false, false, false, false, false, false, false, false, false, false, false, false, false, false, false, false, false, false, false, false] rfl rfl (any_of HT_.out (by kernel_rfl)) (fun _ _ _ h => h) (Or.inl ⟨by rfl, ?_⟩) ?_ ?_
        rotate_left
        · intro w'
          go_simp
          with_reducible rfl
        rotate_left
        · simp only [Act.put, List.setIfInBounds_toArray, List.set_cons_zero, List.set_cons_succ, i64_w, i32_w]
          rfl
        refine pure_ (i := 13) (N := some 67) (v := ?_) (a' := ?_) #[true, true, true, true, true, true, true, true, true, true, true, true, true, true, false, false, false, false, false, false, false, false, false, false, false, false, false, false, false, false, false, false, false, false, false, false, false, false, false, false, false, false, false, false, false, false, false, false, false, false] rfl rfl (any_of HT_.out (by kernel_rfl)) (fun _ _ _ h => h) (Or.inl ⟨by rfl, ?_⟩) ?_ ?_
        rotate_left
        · intro w'
          go_simp
          with_reducible rfl
        rotate_left
        · simp only [Act.put, List.setIfInBounds_toArray, List.set_cons_zero, List.set_cons_succ, i64_w, i32_w]
          rfl
        refine pure_ (i := 14) (N := some 68) (v := ?_) (a' := ?_) #[true, true, true, true, true, true, true, true, true, true, true, true, true, true, true, false, false, false, false, false, false, false, false, false, false, false, false, false, false, false, false, false, false, false, false, false, false, false, false, false, false, false, false, false, false, false, false, false, false, false] rfl rfl (any_of HT_.out (by kernel_rfl)) (fun _ _ _ h => h) (Or.inl ⟨by rfl, ?_⟩) ?_ ?_
        rotate_left
        · intro w'
          go_simp
          with_reducible rfl
        rotate_left
        · simp only [Act.put, List.setIfInBounds_toArray, List.set_cons_zero, List.set_cons_succ, i64_w, i32_w]
          rfl
        refine take_ (i := 15) (N := some 69) (v := ?_) (a' := ?_) #[true, true, true, true, true, true, true, true, true, true, true, true, true, true, true, true, false, false, false, false, false, false, false, false, false, false, false, false, false, false, false, false, false, false, false, false, false, false, false, false, false, false, false, false, false, false, false, false, false, false] rfl rfl (take_ofW HT_.out HW_.out (by kernel_rfl)) (fun _ _ _ h => h) (Or.inl ⟨by rfl, ?_⟩) hHeld ?_ ?_
        rotate_left
        · rintro w' ⟨s0, s1, s2, s3, s4, s5, s6⟩
          go_simp
          with_reducible rfl
        rotate_left
        · simp only [Act.put, List.setIfInBounds_toArray, List.set_cons_zero, List.set_cons_succ, i64_w, i32_w]
          rfl
        refine pure_ (i := 16) (N := some 70) (v := ?_) (a' := ?_) #[true, true, true, true, true, true, true, true, true, true, true, true, true, true, true, true, true, false, false, false, false, false, false, false, false, false, false, false, false, false, false, false, false, false, false, false, false, false, false, false, false, false, false, false, false, false, false, false, false, false] rfl rfl (any_of HT_.out (by kernel_rfl)) (fun _ _ _ h => h) (Or.inl ⟨by rfl, ?_⟩) ?_ ?_
        rotate_left
        · intro w'
          go_simp
          with_reducible rfl
        rotate_left
        · simp only [Act.put, List.setIfInBounds_toArray, List.set_cons_zero, List.set_cons_succ, i64_w, i32_w]
          rfl
        refine pure_ (i := 17) (N := some 71) (v := ?_) (a' := ?_) #[true, true, true, true, true, true, true, true, true, true, true, true, true, true, true, true, true, true, false, false, false, false, false, false, false, false, false, false, false, false, false, false, false, false, false, false, false, false, false, false, false, false, false, false, false, false, false, false, false, false] rfl rfl (any_of HT_.out (by kernel_rfl)) (fun _ _ _ h => h) (Or.inl ⟨by rfl, ?_⟩) ?_ ?_
        rotate_left
        · intro w'
          go_simp
          with_reducible rfl
        rotate_left
        · simp only [Act.put, List.setIfInBounds_toArray, List.set_cons_zero, List.set_cons_succ, i64_w, i32_w]
          rfl
        refine pure_ (i := 18) (N := some 72) (v := ?_) (a' := ?_) #[true, true, true, true, true, true, true, true, true, true, true, true, true, true, true, true, true, true, true, false, false, false, false, false, false, false, false, false, false, false, false, false, false, false, false, false, false, false, false, false, false, false, false, false, false, false, false, false, false, false] rfl rfl (any_of HT_.out (by kernel_rfl)) (fun _ _ _ h => h) (Or.inl ⟨by rfl, ?_⟩) ?_ ?_
        rotate_left
        · intro w'
          go_simp
          with_reducible rfl
        rotate_left
        · simp only [Act.put, List.setIfInBounds_toArray, List.set_cons_zero, List.set_cons_succ, i64_w, i32_w]
          rfl
        refine pure_ (i := 19) (N := some 73) (v := ?_) (a' := ?_) #[true, true, true, true, true, true, true, true, true, true, true, true, true, true, true, true, true, true, true, true, false, false, false, false, false, false, false, false, false, false, false, false, false, false, false, false, false, false, false, false, false, false, false, false, false, false, false, false, false, false] rfl rfl (any_of HT_.out (by kernel_rfl)) (fun _ _ _ h => h) (Or.inl ⟨by rfl, ?_⟩) ?_ ?_
        rotate_left
        · intro w'
          go_simp
          with_reducible rfl
        rotate_left
        · simp only [Act.put, List.setIfInBounds_toArray, List.set_cons_zero, List.set_cons_succ, i64_w, i32_w]
          rfl
        refine pure_ (i := 20) (N := some 74) (v := ?_) (a' := ?_) #[true, true, true, true, true, true, true, true, true, true, true, true, true, true, true, true, true, true, true, true, true, false, false, false, false, false, false, false, false, false, false, false, false, false, false, false, false, false, false, false, false, false, false, false, false, false, false, false, false, false] rfl rfl (any_of HT_.out (by kernel_rfl)) (fun _ _ _ h => h) (Or.inl ⟨by rfl, ?_⟩) ?_ ?_
        rotate_left
        · intro w'
          go_simp
          with_reducible rfl
        rotate_left
        · simp only [Act.put, List.setIfInBounds_toArray, List.set_cons_zero, List.set_cons_succ, i64_w, i32_w]
          rfl
        refine pure_ (i := 21) (N := some 75) (v := ?_) (a' := ?_) #[true, true, true, true, true, true, true, true, true, true, true, true, true, true, true, true, true, true, true, true, true, true, false, false, false, false, false, false, false, false, false, false, false, false, false, false, false, false, false, false, false, false, false, false, false, false, false, false, false, false] rfl rfl (any_of HT_.out (by kernel_rfl)) (fun _ _ _ h => h) (Or.inl ⟨by rfl, ?_⟩) ?_ ?_
        rotate_left
        · intro w'
          go_simp
          with_reducible rfl
        rotate_left
        · simp only [Act.put, List.setIfInBounds_toArray, List.set_cons_zero, List.set_cons_succ, i64_w, i32_w]
          rfl
        refine pure_ (i := 22) (N := some 76) (v := ?_) (a' := ?_) #[true, true, true, true, true, true, true, true, true, true, true, true, true, true, true, true, true, true, true, true, true, true, true, false, false, false, false, false, false, false, false, false, false, false, false, false, false, false, false, false, false, false, false, false, false, false, false, false, false, false] rfl rfl (any_of HT_.out (by kernel_rfl)) (fun _ _ _ h => h) (Or.inl ⟨by rfl, ?_⟩) ?_ ?_
        rotate_left
        · intro w'
          go_simp
          with_reducible rfl
        rotate_left
        · simp only [Act.put, List.setIfInBounds_toArray, List.set_cons_zero, List.set_cons_succ, i64_w, i32_w]
          rfl
        refine take_ (i := 23) (N := some 77) (v := ?_) (a' := ?_) #[true, true, true, true, true, true, true, true, true, true, true, true, true, true, true, true, true, true, true, true, true, true, true, true, false, false, false, false, false, false, false, false, false, false, false, false, false, false, false, false, false, false, false, false, false, false, false, false, false, false] rfl rfl (take_ofW HT_.out HW_.out (by kernel_rfl)) (fun _ _ _ h => h) (Or.inl ⟨by rfl, ?_⟩) hHeld ?_ ?_
        rotate_left
        · rintro w' ⟨s0, s1, s2, s3, s4, s5, s6⟩
          go_simp
          with_reducible rfl
        rotate_left
        · simp only [Act.put, List.setIfInBounds_toArray, List.set_cons_zero, List.set_cons_succ, i64_w, i32_w]
          rfl
        refine pure_ (i := 24) (N := some 78) (v := ?_) (a' := ?_) #[true, true, true, true, true, true, true, true, true, true, true, true, true, true, true, true, true, true, true, true, true, true, true, true, true, false, false, false, false, false, false, false, false, false, false, false, false, false, false, false, false, false, false, false, false, false, false, false, false, false] rfl rfl (any_of HT_.out (by kernel_rfl)) (fun _ _ _ h => h) (Or.inl ⟨by rfl, ?_⟩) ?_ ?_
        rotate_left
        · intro w'
          go_simp
          with_reducible rfl
        rotate_left
        · simp only [Act.put, List.setIfInBounds_toArray, List.set_cons_zero, List.set_cons_succ, i64_w, i32_w]
          rfl
        refine pure_ (i := 26) (N := some 80) (v := ?_) (a' := ?_) #[true, true, true, true, true, true, true, true, true, true, true, true, true, true, true, true, true, true, true, true, true, true, true, true, true, false, true, false, false, false, false, false, false, false, false, false, false, false, false, false, false, false, false, false, false, false, false, false, false, false] rfl rfl (any_of HT_.out (by kernel_rfl)) (fun _ _ _ h => h) (Or.inl ⟨by rfl, ?_⟩) ?_ ?_
        rotate_left
        · intro w'
          go_simp
          with_reducible rfl
        rotate_left
        · simp only [Act.put, List.setIfInBounds_toArray, List.set_cons_zero, List.set_cons_succ, i64_w, i32_w]
          rfl
        refine pure_ (i := 27) (N := some 81) (v := ?_) (a' := ?_) #[true, true, true, true, true, true, true, true, true, true, true, true, true, true, true, true, true, true, true, true, true, true, true, true, true, false, true, true, false, false, false, false, false, false, false, false, false, false, false, false, false, false, false, false, false, false, false, false, false, false] rfl rfl (any_of HT_.out (by kernel_rfl)) (fun _ _ _ h => h) (Or.inl ⟨by rfl, ?_⟩) ?_ ?_
        rotate_left
        · intro w'
          go_simp
          with_reducible rfl
        rotate_left
        · simp only [Act.put, List.setIfInBounds_toArray, List.set_cons_zero, List.set_cons_succ, i64_w, i32_w]
          rfl
        refine pure_ (i := 28) (N := some 82) (v := ?_) (a' := ?_) #[true, true, true, true, true, true, true, true, true, true, true, true, true, true, true, true, true, true, true, true, true, true, true, true, true, false, true, true, true, false, false, false, false, false, false, false, false, false, false, false, false, false, false, false, false, false, false, false, false, false] rfl rfl (any_of HT_.out (by kernel_rfl)) (fun _ _ _ h => h) (Or.inl ⟨by rfl, ?_⟩) ?_ ?_
        rotate_left
        · intro w'
          go_simp
          with_reducible rfl
        rotate_left
        · simp only [Act.put, List.setIfInBounds_toArray, List.set_cons_zero, List.set_cons_succ, i64_w, i32_w]
          rfl
        refine pure_ (i := 29) (N := some 83) (v := ?_) (a' := ?_) #[true, true, true, true, true, true, true, true, true, true, true, true, true, true, true, true, true, true, true, true, true, true, true, true, true, false, true, true, true, true, false, false, false, false, false, false, false, false, false, false, false, false, false, false, false, false, false, false, false, false] rfl rfl (any_of HT_.out (by kernel_rfl)) (fun _ _ _ h => h) (Or.inl ⟨by rfl, ?_⟩) ?_ ?_
        rotate_left
        · intro w'
          go_simp
          with_reducible rfl
        rotate_left
        · simp only [Act.put, List.setIfInBounds_toArray, List.set_cons_zero, List.set_cons_succ, i64_w, i32_w]
          rfl
        refine take_ (i := 30) (N := some 84) (v := ?_) (a' := ?_) #[true, true, true, true, true, true, true, true, true, true, true, true, true, true, true, true, true, true, true, true, true, true, true, true, true, false, true, true, true, true, true, false, false, false, false, false, false, false, false, false, false, false, false, false, false, false, false, false, false, false] rfl rfl (take_ofW HT_.out HW_.out (by kernel_rfl)) (fun _ _ _ h => h) (Or.inl ⟨by rfl, ?_⟩) hHeld ?_ ?_
        rotate_left
        · rintro w' ⟨s0, s1, s2, s3, s4, s5, s6⟩
          go_simp
          with_reducible rfl
        rotate_left
        · simp only [Act.put, List.setIfInBounds_toArray, List.set_cons_zero, List.set_cons_succ, i64_w, i32_w]
          rfl
        refine pure_ (i := 31) (N := some 85) (v := ?_) (a' := ?_) #[true, true, true, true, true, true, true, true, true, true, true, true, true, true, true, true, true, true, true, true, true, true, true, true, true, false, true, true, true, true, true, true, false, false, false, false, false, false, false, false, false, false, false, false, false, false, false, false, false, false] rfl rfl (any_of HT_.out (by kernel_rfl)) (fun _ _ _ h => h) (Or.inl ⟨by rfl, ?_⟩) ?_ ?_
        rotate_left
        · intro w'
          go_simp
          with_reducible rfl
        rotate_left
        · simp only [Act.put, List.setIfInBounds_toArray, List.set_cons_zero, List.set_cons_succ, i64_w, i32_w]
          rfl
        refine pure_ (i := 33) (N := some 87) (v := ?_) (a' := ?_) #[true, true, true, true, true, true, true, true, true, true, true, true, true, true, true, true, true, true, true, true, true, true, true, true, true, false, true, true, true, true, true, true, false, true, false, false, false, false, false, false, false, false, false, false, false, false, false, false, false, false] rfl rfl (any_of HT_.out (by kernel_rfl)) (fun _ _ _ h => h) (Or.inl ⟨by rfl, ?_⟩) ?_ ?_
        rotate_left
        · intro w'
          go_simp
          with_reducible rfl
        rotate_left
        · simp only [Act.put, List.setIfInBounds_toArray, List.set_cons_zero, List.set_cons_succ, i64_w, i32_w]
          rfl
        refine one_ (i := 25) (N := some 79) #[true, true, true, true, true, true, true, true, true, true, true, true, true, true, true, true, true, true, true, true, true, true, true, true, true, true, true, true, true, true, true, true, false, true, false, false, false, false, false, false, false, false, false, false, false, false, false, false, false, false] rfl rfl (one_of HT_.out (by kernel_rfl)) (by decide) (fun K hK => ?_)
        refine goes_ Try.func11 (by kernel_rfl) rfl #[.agg #[.bool true, .slice A_s s.length c_s], .int .u32 x_] (by rfl) rfl rfl (by (try simp only [List.map_toArray, List.map_cons, List.map_nil]); first | done | rfl | (simp only [List.length_drop, List.length_take]; rfl)) ?_
        with_reducible refine (wants6_w HWB.out _ _ _ HC_s.out HK_s.out).mono ?_
        rintro e w43_ ⟨rfl, hB⟩
        refine ⟨_, rfl, ?_⟩
        have hsz := HB.out.size
        have nHB := Aside0.mk (HB.out.trans (hB.mono HB.out.size))
        clear HB
        have HB := nHB
        clear nHB
        clear hc_gh_0 hf_gh_0
        have nBK := Aside0.mk (blk_below (g := gh) (o := .cells #[.slice A_l l.length c_l] 40 (0, 0)) BK_gh.out hB)
        clear BK_gh
        have BK_gh := nBK
        clear nBK
        have hc_gh_0 : w43_.cell? ⟨gh, 0, none⟩ = some (.slice A_l l.length c_l) := (blk_cell BK_gh.out 0).trans rfl
        have hf_gh_0 := blk_frozen BK_gh.out 0
        clear hc_gf_0 hf_gf_0 hc_gf_1 hf_gf_1
        have nBK := Aside0.mk (blk_below (g := gf) (o := .cells #[.bool true, .slice A_s s.length c_s] 26 (0, 0)) BK_gf.out hB)
        clear BK_gf
        have BK_gf := nBK
        clear nBK
        have hc_gf_0 : w43_.cell? ⟨gf, 0, none⟩ = some (.bool true) := (blk_cell BK_gf.out 0).trans rfl
        have hf_gf_0 := blk_frozen BK_gf.out 0
        have hc_gf_1 : w43_.cell? ⟨gf, 1, none⟩ = some (.slice A_s s.length c_s) := (blk_cell BK_gf.out 1).trans rfl
        have hf_gf_1 := blk_frozen BK_gf.out 1
        have nHC := Aside0.mk (Kd.C_below HC_G.out hB)
        clear HC_G
        have HC_G := nHC
        clear nHC
        have nHC := Aside0.mk (Kd.C_below HC_R.out hB)
        clear HC_R
        have HC_R := nHC
        clear nHC
        have nHC := Aside0.mk (Kd.C_below HC_t.out hB)
        clear HC_t
        have HC_t := nHC
        clear nHC
        have nHC := Aside0.mk (Kd.C_below HC_s.out hB)
        clear HC_s
        have HC_s := nHC
        clear nHC
        have nHR := Aside0.mk (HBR.out.trans (hB.mono HBR.out.size))
        clear HBR
        have HBR := nHR
        clear nHR
        clear hB hsz
        refine hK.out _ _ ⟨hc_gh_0, hc_gf_0, hc_gf_1, ((HBR.out.cell (World.block_lt_of_cell? wr _ EX.out)).trans EX.out), ((HBR.out.cell (World.block_lt_of_cell? wr _ EX0.out)).trans EX0.out), ((HBR.out.cell (World.block_lt_of_cell? wr _ EX1.out)).trans EX1.out), ((HBR.out.cell (World.block_lt_of_cell? wr _ EX2.out)).trans EX2.out)⟩ (fun hHeld => ?_)
        clear hK K
        refine norm_ (a' := ?_) ?_ ?_
        rotate_left
        · show Act.put _ (some 79) _ = _
          simp only [Act.put, List.setIfInBounds_toArray, List.set_cons_zero, List.set_cons_succ, i64_w, i32_w]
          rfl
        refine one_ (i := 32) (N := some 86) #[true, true, true, true, true, true, true, true, true, true, true, true, true, true, true, true, true, true, true, true, true, true, true, true, true, true, true, true, true, true, true, true, true, true, false, false, false, false, false, false, false, false, false, false, false, false, false, false, false, false] rfl rfl (one_of HT_.out (by kernel_rfl)) (by decide) (fun K hK => ?_)
        refine goes_ Try.func12 (by kernel_rfl) rfl #[.slice A_t s.length c_t, .int .u32 x_] (by rfl) rfl rfl (by (try simp only [List.map_toArray, List.map_cons, List.map_nil]); first | done | rfl | (simp only [List.length_drop, List.length_take]; rfl)) ?_
        with_reducible refine (has6_w HHB.out _ _ _ HC_t.out HK_t.out).mono ?_
        rintro e w44_ ⟨rfl, hB⟩
        refine ⟨_, rfl, ?_⟩
        have hsz := HB.out.size
        have nHB := Aside0.mk (HB.out.trans (hB.mono HB.out.size))
        clear HB
        have HB := nHB
        clear nHB
        clear hc_gh_0 hf_gh_0
        have nBK := Aside0.mk (blk_below (g := gh) (o := .cells #[.slice A_l l.length c_l] 40 (0, 0)) BK_gh.out hB)
        clear BK_gh
        have BK_gh := nBK
        clear nBK
        have hc_gh_0 : w44_.cell? ⟨gh, 0, none⟩ = some (.slice A_l l.length c_l) := (blk_cell BK_gh.out 0).trans rfl
        have hf_gh_0 := blk_frozen BK_gh.out 0
        clear hc_gf_0 hf_gf_0 hc_gf_1 hf_gf_1
        have nBK := Aside0.mk (blk_below (g := gf) (o := .cells #[.bool true, .slice A_s s.length c_s] 26 (0, 0)) BK_gf.out hB)
        clear BK_gf
        have BK_gf := nBK
        clear nBK
        have hc_gf_0 : w44_.cell? ⟨gf, 0, none⟩ = some (.bool true) := (blk_cell BK_gf.out 0).trans rfl
        have hf_gf_0 := blk_frozen BK_gf.out 0
        have hc_gf_1 : w44_.cell? ⟨gf, 1, none⟩ = some (.slice A_s s.length c_s) := (blk_cell BK_gf.out 1).trans rfl
        have hf_gf_1 := blk_frozen BK_gf.out 1
        have nHC := Aside0.mk (Kd.C_below HC_G.out hB)
        clear HC_G
        have HC_G := nHC
        clear nHC
        have nHC := Aside0.mk (Kd.C_below HC_R.out hB)
        clear HC_R
        have HC_R := nHC
        clear nHC
        have nHC := Aside0.mk (Kd.C_below HC_t.out hB)
        clear HC_t
        have HC_t := nHC
        clear nHC
        have nHC := Aside0.mk (Kd.C_below HC_s.out hB)
        clear HC_s
        have HC_s := nHC
        clear nHC
        have nHR := Aside0.mk (HBR.out.trans (hB.mono HBR.out.size))
        clear HBR
        have HBR := nHR
        clear nHR
        clear hB hsz
        refine hK.out _ _ ⟨hc_gh_0, hc_gf_0, hc_gf_1, ((HBR.out.cell (World.block_lt_of_cell? wr _ EX.out)).trans EX.out), ((HBR.out.cell (World.block_lt_of_cell? wr _ EX0.out)).trans EX0.out), ((HBR.out.cell (World.block_lt_of_cell? wr _ EX1.out)).trans EX1.out), ((HBR.out.cell (World.block_lt_of_cell? wr _ EX2.out)).trans EX2.out)⟩ (fun hHeld => ?_)
        clear hK K
        refine norm_ (a' := ?_) ?_ ?_
        rotate_left
        · show Act.put _ (some 86) _ = _
          simp only [Act.put, List.setIfInBounds_toArray, List.set_cons_zero, List.set_cons_succ, i64_w, i32_w]
          rfl
        refine pure_ (i := 34) (N := some 88) (v := ?_) (a' := ?_) #[true, true, true, true, true, true, true, true, true, true, true, true, true, true, true, true, true, true, true, true, true, true, true, true, true, true, true, true, true, true, true, true, true, true, true, false, false, false, false, false, false, false, false, false, false, false, false, false, false, false] rfl rfl (any_of HT_.out (by kernel_rfl)) (fun _ _ _ h => h) (Or.inl ⟨by rfl, ?_⟩) ?_ ?_
        rotate_left
        · intro w'
          go_simp
          with_reducible rfl
        rotate_left
        · simp only [Act.put, List.setIfInBounds_toArray, List.set_cons_zero, List.set_cons_succ, i64_w, i32_w]
          rfl
        refine pure_ (i := 35) (N := some 89) (v := ?_) (a' := ?_) #[true, true, true, true, true, true, true, true, true, true, true, true, true, true, true, true, true, true, true, true, true, true, true, true, true, true, true, true, true, true, true, true, true, true, true, true, false, false, false, false, false, false, false, false, false, false, false, false, false, false] rfl rfl (any_of HT_.out (by kernel_rfl)) (fun _ _ _ h => h) (Or.inl ⟨by rfl, ?_⟩) ?_ ?_
        rotate_left
        · intro w'
          go_simp
          with_reducible rfl
        rotate_left
        · simp only [Act.put, List.setIfInBounds_toArray, List.set_cons_zero, List.set_cons_succ, i64_w, i32_w]
          rfl
        refine pure_ (i := 36) (N := some 90) (v := ?_) (a' := ?_) #[true, true, true, true, true, true, true, true, true, true, true, true, true, true, true, true, true, true, true, true, true, true, true, true, true, true, true, true, true, true, true, true, true, true, true, true, true, false, false, false, false, false, false, false, false, false, false, false, false, false] rfl rfl (any_of HT_.out (by kernel_rfl)) (fun _ _ _ h => h) (Or.inl ⟨by rfl, ?_⟩) ?_ ?_
        rotate_left
        · intro w'
          go_simp
          with_reducible rfl
        rotate_left
        · simp only [Act.put, List.setIfInBounds_toArray, List.set_cons_zero, List.set_cons_succ, i64_w, i32_w]
          rfl
        refine pure_ (i := 37) (N := some 91) (v := ?_) (a' := ?_) #[true, true, true, true, true, true, true, true, true, true, true, true, true, true, true, true, true, true, true, true, true, true, true, true, true, true, true, true, true, true, true, true, true, true, true, true, true, true, false, false, false, false, false, false, false, false, false, false, false, false] rfl rfl (any_of HT_.out (by kernel_rfl)) (fun _ _ _ h => h) (Or.inl ⟨by rfl, ?_⟩) ?_ ?_
        rotate_left
        · intro w'
          go_simp
          with_reducible rfl
        rotate_left
        · simp only [Act.put, List.setIfInBounds_toArray, List.set_cons_zero, List.set_cons_succ, i64_w, i32_w]
          rfl
        refine pure_ (i := 38) (N := some 92) (v := ?_) (a' := ?_) #[true, true, true, true, true, true, true, true, true, true, true, true, true, true, true, true, true, true, true, true, true, true, true, true, true, true, true, true, true, true, true, true, true, true, true, true, true, true, true, false, false, false, false, false, false, false, false, false, false, false] rfl rfl (any_of HT_.out (by kernel_rfl)) (fun _ _ _ h => h) (Or.inl ⟨by rfl, ?_⟩) ?_ ?_
        rotate_left
        · intro w'
          go_simp
          with_reducible rfl
        rotate_left
        · simp only [Act.put, List.setIfInBounds_toArray, List.set_cons_zero, List.set_cons_succ, i64_w, i32_w]
          rfl
        refine pure_ (i := 39) (N := some 93) (v := ?_) (a' := ?_) #[true, true, true, true, true, true, true, true, true, true, true, true, true, true, true, true, true, true, true, true, true, true, true, true, true, true, true, true, true, true, true, true, true, true, true, true, true, true, true, true, false, false, false, false, false, false, false, false, false, false] rfl rfl (any_of HT_.out (by kernel_rfl)) (fun _ _ _ h => h) (Or.inl ⟨by rfl, ?_⟩) ?_ ?_
        rotate_left
        · intro w'
          go_simp
          with_reducible rfl
        rotate_left
        · simp only [Act.put, List.setIfInBounds_toArray, List.set_cons_zero, List.set_cons_succ, i64_w, i32_w]
          rfl
        refine pure_ (i := 40) (N := some 94) (v := ?_) (a' := ?_) #[true, true, true, true, true, true, true, true, true, true, true, true, true, true, true, true, true, true, true, true, true, true, true, true, true, true, true, true, true, true, true, true, true, true, true, true, true, true, true, true, true, false, false, false, false, false, false, false, false, false] rfl rfl (any_of HT_.out (by kernel_rfl)) (fun _ _ _ h => h) (Or.inl ⟨by rfl, ?_⟩) ?_ ?_
        rotate_left
        · intro w'
          go_simp
          with_reducible rfl
        rotate_left
        · simp only [Act.put, List.setIfInBounds_toArray, List.set_cons_zero, List.set_cons_succ, i64_w, i32_w]
          rfl
        refine pure_ (i := 41) (N := some 95) (v := undef) (a' := ?_) #[true, true, true, true, true, true, true, true, true, true, true, true, true, true, true, true, true, true, true, true, true, true, true, true, true, true, true, true, true, true, true, true, true, true, true, true, true, true, true, true, true, true, false, false, false, false, false, false, false, false] rfl rfl (any_of HT_.out (by kernel_rfl)) (fun _ _ _ h => h) (Or.inr ⟨by rfl, rfl⟩) ?_ ?_
        rotate_left
        · simp only [Act.put, List.setIfInBounds_toArray, List.set_cons_zero, List.set_cons_succ, i64_w, i32_w]
          rfl
        refine pure_ (i := 42) (N := some 96) (v := undef) (a' := ?_) #[true, true, true, true, true, true, true, true, true, true, true, true, true, true, true, true, true, true, true, true, true, true, true, true, true, true, true, true, true, true, true, true, true, true, true, true, true, true, true, true, true, true, true, false, false, false, false, false, false, false] rfl rfl (any_of HT_.out (by kernel_rfl)) (fun _ _ _ h => h) (Or.inr ⟨by rfl, rfl⟩) ?_ ?_
        rotate_left
        · simp only [Act.put, List.setIfInBounds_toArray, List.set_cons_zero, List.set_cons_succ, i64_w, i32_w]
          rfl
        refine pure_ (i := 43) (N := some 97) (v := undef) (a' := ?_) #[true, true, true, true, true, true, true, true, true, true, true, true, true, true, true, true, true, true, true, true, true, true, true, true, true, true, true, true, true, true, true, true, true, true, true, true, true, true, true, true, true, true, true, true, false, false, false, false, false, false] rfl rfl (any_of HT_.out (by kernel_rfl)) (fun _ _ _ h => h) (Or.inr ⟨by rfl, rfl⟩) ?_ ?_
        rotate_left
        · simp only [Act.put, List.setIfInBounds_toArray, List.set_cons_zero, List.set_cons_succ, i64_w, i32_w]
          rfl
        refine pure_ (i := 44) (N := some 98) (v := undef) (a' := ?_) #[true, true, true, true, true, true, true, true, true, true, true, true, true, true, true, true, true, true, true, true, true, true, true, true, true, true, true, true, true, true, true, true, true, true, true, true, true, true, true, true, true, true, true, true, true, false, false, false, false, false] rfl rfl (any_of HT_.out (by kernel_rfl)) (fun _ _ _ h => h) (Or.inr ⟨by rfl, rfl⟩) ?_ ?_
        rotate_left
        · simp only [Act.put, List.setIfInBounds_toArray, List.set_cons_zero, List.set_cons_succ, i64_w, i32_w]
          rfl
        refine pure_ (i := 45) (N := some 99) (v := undef) (a' := ?_) #[true, true, true, true, true, true, true, true, true, true, true, true, true, true, true, true, true, true, true, true, true, true, true, true, true, true, true, true, true, true, true, true, true, true, true, true, true, true, true, true, true, true, true, true, true, true, false, false, false, false] rfl rfl (any_of HT_.out (by kernel_rfl)) (fun _ _ _ h => h) (Or.inr ⟨by rfl, rfl⟩) ?_ ?_
        rotate_left
        · simp only [Act.put, List.setIfInBounds_toArray, List.set_cons_zero, List.set_cons_succ, i64_w, i32_w]
          rfl
        refine pure_ (i := 46) (N := some 100) (v := undef) (a' := ?_) #[true, true, true, true, true, true, true, true, true, true, true, true, true, true, true, true, true, true, true, true, true, true, true, true, true, true, true, true, true, true, true, true, true, true, true, true, true, true, true, true, true, true, true, true, true, true, true, false, false, false] rfl rfl (any_of HT_.out (by kernel_rfl)) (fun _ _ _ h => h) (Or.inr ⟨by rfl, rfl⟩) ?_ ?_
        rotate_left
        · simp only [Act.put, List.setIfInBounds_toArray, List.set_cons_zero, List.set_cons_succ, i64_w, i32_w]
          rfl
        refine pure_ (i := 47) (N := some 101) (v := undef) (a' := ?_) #[true, true, true, true, true, true, true, true, true, true, true, true, true, true, true, true, true, true, true, true, true, true, true, true, true, true, true, true, true, true, true, true, true, true, true, true, true, true, true, true, true, true, true, true, true, true, true, true, false, false] rfl rfl (any_of HT_.out (by kernel_rfl)) (fun _ _ _ h => h) (Or.inr ⟨by rfl, rfl⟩) ?_ ?_
        rotate_left
        · simp only [Act.put, List.setIfInBounds_toArray, List.set_cons_zero, List.set_cons_succ, i64_w, i32_w]
          rfl
        refine pure_ (i := 48) (N := some 102) (v := ?_) (a' := ?_) #[true, true, true, true, true, true, true, true, true, true, true, true, true, true, true, true, true, true, true, true, true, true, true, true, true, true, true, true, true, true, true, true, true, true, true, true, true, true, true, true, true, true, true, true, true, true, true, true, true, false] rfl rfl (any_of HT_.out (by kernel_rfl)) (fun _ _ _ h => h) (Or.inl ⟨by rfl, ?_⟩) ?_ ?_
        rotate_left
        · intro w'
          go_simp
          with_reducible rfl
        rotate_left
        · simp only [Act.put, List.setIfInBounds_toArray, List.set_cons_zero, List.set_cons_succ, i64_w, i32_w]
          rfl
        refine pure_ (i := 49) (N := some 103) (v := ?_) (a' := ?_) #[true, true, true, true, true, true, true, true, true, true, true, true, true, true, true, true, true, true, true, true, true, true, true, true, true, true, true, true, true, true, true, true, true, true, true, true, true, true, true, true, true, true, true, true, true, true, true, true, true, true] rfl rfl (any_of HT_.out (by kernel_rfl)) (fun _ _ _ h => h) (Or.inl ⟨by rfl, ?_⟩) ?_ ?_
        rotate_left
        · intro w'
          go_simp
          with_reducible rfl
        rotate_left
        · simp only [Act.put, List.setIfInBounds_toArray, List.set_cons_zero, List.set_cons_succ, i64_w, i32_w]
          rfl
        refine done_ (done_of HT_.out (by kernel_rfl)) ?_
        go_wp2
        go_roundg (G.length - (i + 1))
        case measure => omega
        case rel =>
          refine ⟨i + 1, ?_, ⟨by omega, rfl⟩, ⟨HBr.out.trans (HBR.out.mono HBr.out.size)⟩⟩
          show Value.int .i64 (wrap64 ((i : Int) + 1)) = _
          have h1 := XhGl.out
          have h2 : wrap64 ((i : Int) + 1) = ((i + 1 : Nat) : Int) := by unfold wrap64; omega
          rw [h2]
    · have c39 : decide ((i : Int) < (G.length : Int)) = false := decide_eq_false (by omega)
      have hc_gh_0 : wr.cell? ⟨gh, 0, none⟩ = some (.slice A_l l.length c_l) := (blk_cell BK_gh.out 0).trans rfl
      have hf_gh_0 := blk_frozen BK_gh.out 0
      go_wp2_with (first | (go_at_call 25; refine (answer0_w XhG.out Xhw0.out Xhcur.out XhGl.out 1 0 _ _ _ (Kd.C_below HC_l.out HB.out) HK_l.out).mono ?_; rintro e w91_ ⟨v_S, rfl, hV, hB⟩; have nHB := Aside0.mk (HB.out.trans (hB.mono HB.out.size)); clear HB; have HB := nHB; clear nHB; clear hc_gh_0 hf_gh_0; have nBK := Aside0.mk (blk_below (g := gh) (o := .cells #[.slice A_l l.length c_l] 40 (0, 0)) BK_gh.out hB); clear BK_gh; have BK_gh := nBK; clear nBK; have hc_gh_0 : w91_.cell? ⟨gh, 0, none⟩ = some (.slice A_l l.length c_l) := (blk_cell BK_gh.out 0).trans rfl; have hf_gh_0 := blk_frozen BK_gh.out 0; have nHC := Aside0.mk (Kd.C_below HC_G.out hB); clear HC_G; have HC_G := nHC; clear nHC; have nHC := Aside0.mk (Kd.C_below HC_R.out hB); clear HC_R; have HC_R := nHC; clear nHC; obtain ⟨A_S, c_S, e_S⟩ := Kd.V_slice hV; subst e_S; have h_S := Kd.V_reads' hV; rw [List.length_map] at h_S ⊢; have HC_S := Aside0.mk h_S.2.2; have HK_S := Aside0.mk h_S.2.1; clear h_S hV hB) | (go_at_call 22; with_reducible refine (recs5_w (List.length_map _).symm Xhrecs.out _ _ _ _ _ HC_R.out HK_R.out HC_S.out HK_S.out).mono ?_; rintro e w92_ ⟨rfl, hB⟩; have nHB := Aside0.mk (HB.out.trans (hB.mono HB.out.size)); clear HB; have HB := nHB; clear nHB; clear hc_gh_0 hf_gh_0; have nBK := Aside0.mk (blk_below (g := gh) (o := .cells #[.slice A_l l.length c_l] 40 (0, 0)) BK_gh.out hB); clear BK_gh; have BK_gh := nBK; clear nBK; have hc_gh_0 : w92_.cell? ⟨gh, 0, none⟩ = some (.slice A_l l.length c_l) := (blk_cell BK_gh.out 0).trans rfl; have hf_gh_0 := blk_frozen BK_gh.out 0; have nHC := Aside0.mk (Kd.C_below HC_G.out hB); clear HC_G; have HC_G := nHC; clear nHC; have nHC := Aside0.mk (Kd.C_below HC_R.out hB); clear HC_R; have HC_R := nHC; clear nHC; have nHC := Aside0.mk (Kd.C_below HC_S.out hB); clear HC_S; have HC_S := nHC; clear nHC; clear hB))
      go_ret
      exact ⟨rfl, HB.out⟩
end Go.Proofs.Ytjncmiclpaodhaa
