/-
  The document's Put, walked.
-/
import Derived.Test.YtjncmiclpaodhaaSoI
import Derived.Test.YtjncmiclpaodhaaHoG
import Derived.Test.YtjncmiclpaodhaaHoR
namespace Go.Proofs.Ytjncmiclpaodhaa
open Go.RowKit Go.Lib Go.Proofs.YtjncmiclpaodhaaW.PrintWords Go.Proofs.YtjncmiclpaodhaaW.PrintLast Go.Proofs.YtjncmiclpaodhaaW.PrintMore Go.Proofs.Ytjncmiclpaodhaa.PHo
set_option linter.unusedVariables false
set_option linter.unusedSimpArgs false
def rp_T22 : Bool × List (List Nat × List Nat) := (true, [([], []), ([], []), ([1], [1]), ([], []), ([], []), ([4], [4]), ([3, 5], [3, 5]), ([], []), ([], []), ([8], [8]), ([7, 9, 6], [7, 9]), ([2, 6, 10, 10], [2, 6, 10]), ([0, 11, 0], [0]), ([11, 12, 0, 1, 2, 3, 4, 5, 6, 7, 8, 9, 10, 11, 12], [11]), ([13, 0, 1, 2, 3, 4, 5, 6, 7, 8, 9, 10, 11, 12, 13], [])])
def rp_B22 : List Nat := [0, 0, 2, 0, 0, 16, 56, 0, 0, 256, 1016, 2046, 4095, 8191, 16383]
theorem rp_t22 : rtab .any (opsOf Try.f19 22) = rp_T22 := by kernel_rfl
theorem rp_b22 : waitsOk rp_T22.2 rp_B22 = true := by kernel_rfl
def rstep (s : S42) (st : List S42 × Bool) (x : S42) : List S42 × Bool :=
  if x.f0 = s.f0 then (if st.2 = true then st else (st.1 ++ [s], true))
  else if st.2 = true then (st.1 ++ [x], true) else if s.f0 ≤ x.f0 then (st.1 ++ [s] ++ [x], true) else (st.1 ++ [x], false)
def rst (l : List S42) (s : S42) (i : Nat) : List S42 × Bool := (l.take i).foldl (rstep s) ([], false)
def rputL (l : List S42) (s : S42) : List S42 := if (rst l s l.length).2 = true then (rst l s l.length).1 else (rst l s l.length).1 ++ [s]
theorem rst_succ {l : List S42} {i : Nat} (h : i < l.length) (s : S42) : rst l s (i + 1) = rstep s (rst l s i) (rd_T42 l i) := by
  unfold rst
  rw [← List.take_append_getElem h, List.foldl_append, rd42 l i h]
  rfl
theorem rst_len {l : List S42} (s : S42) (i : Nat) (h : i ≤ l.length) : (rst l s i).1.length ≤ 2 * i := by
  induction i with
  | zero => exact Nat.le_refl _
  | succ i ih =>
    have h1 := ih (by omega)
    rw [rst_succ (by omega)]
    unfold rstep
    split
    · split
      · omega
      · simp only [List.length_append, List.length_cons, List.length_nil]; omega
    · split
      · simp only [List.length_append, List.length_cons, List.length_nil]; omega
      · split <;> simp only [List.length_append, List.length_cons, List.length_nil] <;> omega
theorem clash_take {l : List S42} {i : Nat} (h : i < l.length) (s : S42) : clash (l.take (i + 1)) s = (clash (l.take i) s || (decide ((rd_T42 l i).f0 = s.f0) && !decide ((rd_T42 l i).f1 = s.f1))) := by
  rw [← List.take_append_getElem h, rd42 l i h]
  unfold clash
  rw [List.any_append]
  simp
theorem clash_of {l : List S42} {i : Nat} (h : i < l.length) {s : S42} (h0 : (rd_T42 l i).f0 = s.f0) (h1 : (rd_T42 l i).f1 ≠ s.f1) : clash l s = true := by
  rw [rd42 l i h] at h0 h1
  exact clash_iff.2 ⟨_, List.getElem_mem h, h0, h1⟩
/-- What the document's Put comes to. -/
def RPost (P : Nat → Prop) (w : World) (l : List S42) (s : S42) (l2 : List S42) (rs : List S36) (e : Ending) (w' : World) : Prop :=
  (clash l s = true ∧ PutPost P w l [] 1 e w') ∨ (clash l s = false ∧ 32 < l2.length ∧ PutPost P w l [] 7 e w') ∨ (clash l s = false ∧ l2.length ≤ 32 ∧ PutPost P w l2 rs 0 e w')
theorem socket_w {k : Nat} {s : S42} {b : Bool} (h : stolonref07_socket.f k s.f0 s.f1 s.f2.f0 s.f2.f1 = some b) (A : Option Addr) (c : Nat) (w : World) (hr : Kd.C (Kd.int .u32) w A s.f2.f1.length s.f2.f1) (hc : s.f2.f1.length ≤ c) :
    Calls Try.prog 28 #[.agg #[.int .i64 s.f0, .int .u32 s.f1, .bool s.f2.f0, .slice A s.f2.f1.length c]] w fun e w' => e = .returned (.bool b) ∧ Below w.heap.size w w' := (stolonref07_socket.calls k s.f0 s.f1 s.f2.f0 A c s.f2.f1 b w hr hc h).mono fun _ _ h => ⟨h.1, by first | exact h.2 | exact dr_below h.2⟩
theorem rwants_w {k : Nat} {l : List S42} {g : Int} {e : Bool} {s : List Int} (h : stolonref07_Wants.f k l g = some (e, s)) (A : Option Addr) (c : Nat) (w : World) (hr : Kd.C k42 w A l.length l) (hc : l.length ≤ c) :
    Calls Try.prog 36 #[.agg #[.slice A l.length c], .int .u32 g] w fun x w' => ∃ v : Value, x = .returned (.agg #[.bool e, v]) ∧ Kd.R (Kd.int .u32) 23 w' w.heap.size (fun _ => True) v s ∧ Below w.heap.size w w' := by
  refine (stolonref07_Wants.calls k (fun k => k < w.heap.size) A c l g e s w (Kd.V_mk hc (Kd.C_F k42_heap hr)) h).mono ?_
  rintro x w' ⟨v, rfl, hR, hB⟩
  exact ⟨v, rfl, Kd.R_mono hR (fun _ _ => trivial), hB⟩
theorem rchange_w {a0 : Int} {p q : Bool} {l1 l2 : List Int} {r : List S36} (h : stolonref07_Change.f a0 p l1 q l2 = some r) (A1 : Option Addr) (c1 : Nat) (A2 : Option Addr) (c2 : Nat) (P : Nat → Prop) (w : World) (hr1 : Kd.C (Kd.int .u32) w A1 l1.length l1) (hc1 : l1.length ≤ c1) (hs2 : Kd.V (Kd.int .u32) 23 w 0 P (.slice A2 l2.length c2) l2) :
    Calls Try.prog 23 #[.int .u32 a0, .agg #[.bool p, .slice A1 l1.length c1], .agg #[.bool q, .slice A2 l2.length c2]] w fun e w' => ∃ v : Value, e = .returned v ∧ Kd.V k36 36 w' 0 (fun k => P k ∨ w.heap.size ≤ k) v r ∧ Below w.heap.size w w' := by
  refine (stolonref07_Change.calls a0 p A1 c1 l1 q P A2 c2 l2 r w hr1 hc1 (Kd.V_map hs2 (fun _ h => h)) h).mono ?_
  rintro e w' ⟨v, rfl, hV, hB⟩
  exact ⟨v, rfl, Kd.V_map hV (fun _ h => h), hB⟩
set_option maxHeartbeats 8000000 in
set_option maxRecDepth 100000 in
theorem rput_wrong {k : Nat} {l : List S42} {s : S42} (hn : l.length ≤ 1000000) (hr : stolonref07_socket.f k s.f0 s.f1 s.f2.f0 s.f2.f1 = some false) (A_l : Option Addr) (c_l : Nat) (A_s : Option Addr) (c_s : Nat) (w : World) (hl : Kd.C k42 w A_l l.length l) (hcl : l.length ≤ c_l) (hs : Kd.C (Kd.int .u32) w A_s s.f2.f1.length s.f2.f1) (hcs : s.f2.f1.length ≤ c_s) (P : Nat → Prop) (hP : ∀ k, P k → k < w.heap.size) (hlF : Kd.F k42 w P A_l l.length l) (hsF : Kd.F (Kd.int .u32) w P A_s s.f2.f1.length s.f2.f1) :
    Calls Try.prog 19 #[.agg #[.slice A_l l.length c_l], .agg #[.int .i64 s.f0, .int .u32 s.f1, .bool s.f2.f0, .slice A_s s.f2.f1.length c_s]] w (PutPost P w l [] 1) := by
  have hu40 := Try.underlying40
  have hu42 := Try.underlying42
  have hu26 := Try.underlying26
  have HB := Aside0.mk (Below.refl w.heap.size w)
  have HK_l := Aside0.mk hcl
  have HC_s := Aside0.mk hs
  have HK_s := Aside0.mk hcs
  have FL := Aside0.mk hlF
  have Xhr := Aside0.mk hr
  clear hl hcl hs hcs hn hP hlF hsF hr
  go_enter Try.func19, Try.ntmps19
  go_wp2_with (first | ((with_reducible refine gate_dst (N := 2) rfl ?_); (try (refine gate_guard (by rfl) ?_; dsimp only)); refine bxn (cs := #[.slice A_l l.length c_l]) (t := 40) ?_; intro gh hg w1_ hbox hB; replace HB := mvH HB hB; have BK_gh := Aside0.mk hbox; clear hg hbox hB) | ((with_reducible refine gate_dst (N := 3) rfl ?_); (try (refine gate_guard (by rfl) ?_; dsimp only)); refine bxn (cs := #[.int .i64 s.f0, .int .u32 s.f1, .bool s.f2.f0, .slice A_s s.f2.f1.length c_s]) (t := 42) ?_; intro gs hg w2_ hbox hB; replace HB := mvH HB hB; replace BK_gh := mvB BK_gh hB; have BK_gs := Aside0.mk hbox; clear hg hbox hB) | ((with_reducible refine gate_dst (N := 4) rfl ?_); (try (refine gate_guard (by rfl) ?_; dsimp only)); refine bxn (cs := #[.slice none 0 0]) (t := 40) ?_; intro gr hg w3_ hbox hB; have HBo := Aside0.mk HB.out; replace HB := mvH HB hB; replace BK_gh := mvB BK_gh hB; replace BK_gs := mvB BK_gs hB; have hc_gs_0 := (cf4 BK_gs.out).1; have hc_gs_1 := (cf4 BK_gs.out).2.1; have hc_gs_2 := (cf4 BK_gs.out).2.2.1; have hc_gs_3 := (cf4 BK_gs.out).2.2.2.1; have BK_gr := Aside0.mk hbox; have GE_gr := Aside0.mk (show w.heap.size ≤ gr by rw [hg]; exact HBo.out.size); clear hg hbox hB; clear HBo) | (go_at_call 28; with_reducible refine (socket_w Xhr.out _ _ _ (Kd.C_below HC_s.out HB.out) HK_s.out).mono ?_; rintro e w4_ ⟨rfl, hB⟩; replace HB := mvH HB hB; replace BK_gh := mvB BK_gh hB; have hc_gh_0 : w4_.cell? ⟨gh, 0, none⟩ = some (.slice A_l l.length c_l) := (blk_cell BK_gh.out 0).trans rfl; clear hc_gs_0 hc_gs_1 hc_gs_2 hc_gs_3; clear BK_gs; replace BK_gr := mvB BK_gr hB; obtain ⟨hc_gr_0, hf_gr_0⟩ := cf1 BK_gr.out; clear hB))
  refine bodyPost_ret (results_ctt rfl _ _ gr 40 #[.slice A_l l.length c_l] (0, 0) _ rfl (blk_put (cs := #[.slice none 0 0]) BK_gr.out 0 (.slice A_l l.length c_l) rfl) Try.underlying40 rfl (by kernel_rfl)) rfl ?_
  exact ⟨_, _, rfl, Kd.V_mk HK_l.out (Kd.F_mono (Kd.F_below FL.out (below_set HB.out GE_gr.out)) (fun k hk => .inl hk)), Kd.V_nil _ _ _ _ _, below_set HB.out GE_gr.out⟩
set_option maxHeartbeats 8000000 in
set_option maxRecDepth 100000 in
theorem rput_main {k : Nat} {l : List S42} {s : S42} (hn : l.length ≤ 1000000) (hr : stolonref07_socket.f k s.f0 s.f1 s.f2.f0 s.f2.f1 = some true) {l2 : List S42} (h2 : rputL l s = l2) {e1 e2 : Bool} {s1 s2 : List Int} {rs : List S36} (hw1 : l2.length ≤ 32 → stolonref07_Wants.f k l s.f1 = some (e1, s1)) (hw2 : l2.length ≤ 32 → stolonref07_Wants.f k l2 s.f1 = some (e2, s2)) (hch : l2.length ≤ 32 → stolonref07_Change.f s.f1 e1 s1 e2 s2 = some rs) (A_l : Option Addr) (c_l : Nat) (A_s : Option Addr) (c_s : Nat) (w : World) (hl : Kd.C k42 w A_l l.length l) (hcl : l.length ≤ c_l) (hs : Kd.C (Kd.int .u32) w A_s s.f2.f1.length s.f2.f1) (hcs : s.f2.f1.length ≤ c_s) (P : Nat → Prop) (hP : ∀ k, P k → k < w.heap.size) (hlF : Kd.F k42 w P A_l l.length l) (hsF : Kd.F (Kd.int .u32) w P A_s s.f2.f1.length s.f2.f1) :
    Calls Try.prog 19 #[.agg #[.slice A_l l.length c_l], .agg #[.int .i64 s.f0, .int .u32 s.f1, .bool s.f2.f0, .slice A_s s.f2.f1.length c_s]] w (RPost P w l s l2 rs) := by
  have hu40 := Try.underlying40
  have hu42 := Try.underlying42
  have hu26 := Try.underlying26
  have HB := Aside0.mk (Below.refl w.heap.size w)
  have HC_l := Aside0.mk hl
  have HK_l := Aside0.mk hcl
  have HC_s := Aside0.mk hs
  have HK_s := Aside0.mk hcs
  have XP := Aside0.mk hP
  have FL := Aside0.mk hlF
  have FS := Aside0.mk hsF
  have Xhn := Aside0.mk hn
  have Xhr := Aside0.mk hr
  have Xh2 := Aside0.mk h2
  have Xhw1 := Aside0.mk hw1
  have Xhw2 := Aside0.mk hw2
  have Xhch := Aside0.mk hch
  clear hl hcl hs hcs hn hP hlF hsF hr h2 hw1 hw2 hch
  go_enter Try.func19, Try.ntmps19
  go_upto_region 4 with (first | ((with_reducible refine gate_dst (N := 2) rfl ?_); (try (refine gate_guard (by rfl) ?_; dsimp only)); refine bxn (cs := #[.slice A_l l.length c_l]) (t := 40) ?_; intro gh hg w1_ hbox hB; replace HB := mvH HB hB; have BK_gh := Aside0.mk hbox; clear hg hbox hB) | ((with_reducible refine gate_dst (N := 3) rfl ?_); (try (refine gate_guard (by rfl) ?_; dsimp only)); refine bxn (cs := #[.int .i64 s.f0, .int .u32 s.f1, .bool s.f2.f0, .slice A_s s.f2.f1.length c_s]) (t := 42) ?_; intro gs hg w2_ hbox hB; replace HB := mvH HB hB; replace BK_gh := mvB BK_gh hB; have BK_gs := Aside0.mk hbox; clear hg hbox hB) | ((with_reducible refine gate_dst (N := 4) rfl ?_); (try (refine gate_guard (by rfl) ?_; dsimp only)); refine bxn (cs := #[.slice none 0 0]) (t := 40) ?_; intro gr hg w3_ hbox hB; have HBo := Aside0.mk HB.out; have BK0_gh := Aside0.mk BK_gh.out; have BK0_gs := Aside0.mk BK_gs.out; replace HB := mvH HB hB; replace BK_gh := mvB BK_gh hB; replace BK_gs := mvB BK_gs hB; have hc_gs_0 := (cf4 BK_gs.out).1; have hc_gs_1 := (cf4 BK_gs.out).2.1; have hc_gs_2 := (cf4 BK_gs.out).2.2.1; have hc_gs_3 := (cf4 BK_gs.out).2.2.2.1; have BK_gr := Aside0.mk hbox; have GE_gr := Aside0.mk (show w.heap.size ≤ gr by rw [hg]; exact HBo.out.size); have NB_gr_gh := Aside0.mk (show gr ≠ gh by rw [hg]; exact Nat.ne_of_gt (blk_lt (g := gh) (o := .cells #[.slice A_l l.length c_l] 40 (0, 0)) BK0_gh.out)); have NB_gh_gr := Aside0.mk (Ne.symm NB_gr_gh.out); clear BK0_gh; have NB_gr_gs := Aside0.mk (show gr ≠ gs by rw [hg]; exact Nat.ne_of_gt (blk_lt (g := gs) (o := .cells #[.int .i64 s.f0, .int .u32 s.f1, .bool s.f2.f0, .slice A_s s.f2.f1.length c_s] 42 (0, 0)) BK0_gs.out)); have NB_gs_gr := Aside0.mk (Ne.symm NB_gr_gs.out); clear BK0_gs; clear hg hbox hB; clear HBo) | (go_at_call 28; with_reducible refine (socket_w Xhr.out _ _ _ (Kd.C_below HC_s.out HB.out) HK_s.out).mono ?_; rintro e w4_ ⟨rfl, hB⟩; replace HB := mvH HB hB; replace BK_gh := mvB BK_gh hB; clear hc_gs_0 hc_gs_1 hc_gs_2 hc_gs_3; replace BK_gs := mvB BK_gs hB; replace BK_gr := mvB BK_gr hB; clear hB))
  go_wp2
  have HBL := Aside0.mk (Below.refl w4_.heap.size w4_)
  have HBW := HB
  have BL_gh := BK_gh
  clear BK_gh
  have BL_gs := BK_gs
  clear BK_gs
  have BL_gr := BK_gr
  clear BK_gr
  clear HB
  have LT_gh := Aside0.mk (blk_lt (g := gh) (o := .cells #[.slice A_l l.length c_l] 40 (0, 0)) BL_gh.out)
  have LT_gs := Aside0.mk (blk_lt (g := gs) (o := .cells #[.int .i64 s.f0, .int .u32 s.f1, .bool s.f2.f0, .slice A_s s.f2.f1.length c_s] 42 (0, 0)) BL_gs.out)
  have LT_gr := Aside0.mk (blk_lt (g := gr) (o := .cells #[.slice none 0 0] 40 (0, 0)) BL_gr.out)
  go_loopg [8, 9, 10] l.length (fun gk v8 v9 v10 w' => ∃ i : Nat, v10 = .int .i64 (i : Int) ∧ v9 = .bool (rst l s i).2 ∧ Aside0 (i ≤ l.length ∧ gk = l.length - i) ∧ Aside0 (clash (l.take i) s = false) ∧ Aside0 (Kd.N k42 42 w' w4_.heap.size (fun k => P k ∨ w4_.heap.size ≤ k) v8 (rst l s i).1) ∧ Aside0 (Below w4_.heap.size w4_ w'))
  case atStart => exact ⟨0, rfl, rfl, ⟨Nat.zero_le _, by omega⟩, ⟨rfl⟩, ⟨Kd.N_nil _ _ _ _ _⟩, HBL⟩
  case round =>
    clear HBL
    obtain ⟨i, rfl, rfl, HI, HCL, HN, HBr⟩ := hrel
    obtain ⟨hi, hgk⟩ := HI.out
    have HB := Aside0.mk (HBW.out.trans (HBr.out.mono HBW.out.size))
    have BK_gh := Aside0.mk (blk_below BL_gh.out HBr.out)
    have BK_gs := Aside0.mk (blk_below BL_gs.out HBr.out)
    have BK_gr := Aside0.mk (blk_below BL_gr.out HBr.out)
    have hc_gh_0 : wr.cell? ⟨gh, 0, none⟩ = some (.slice A_l l.length c_l) := (blk_cell BK_gh.out 0).trans rfl
    have hc_gs_0 := (cf4 BK_gs.out).1
    have hc_gs_1 := (cf4 BK_gs.out).2.1
    have hc_gs_2 := (cf4 BK_gs.out).2.2.1
    have hc_gs_3 := (cf4 BK_gs.out).2.2.2.1
    obtain ⟨hc_gr_0, hf_gr_0⟩ := cf1 BK_gr.out
    obtain ⟨bi, hbi⟩ : ∃ b, b = (rst l s i).2 := ⟨_, rfl⟩
    rw [← hbi]
    have HBI := Aside0.mk hbi
    clear hbi
    by_cases hlt : i < l.length
    · have c22 : decide ((i : Int) < (l.length : Int)) = true := decide_eq_true (by omega)
      have p1 : (0 : Int) ≤ (i : Int) := by omega
      have p2 : (i : Int) < (l.length : Int) := by omega
      obtain ⟨ad, _, _, he_, _⟩ := at_T42 HC_l.out (i : Int) p1 p2
      subst he_
      obtain ⟨cs_, _, hFK_, hcc_⟩ := Kd.V_get (e := 42) (base := 0) (Kd.V_mk HK_l.out FL.out) z42 (i : Int) p1 p2
      obtain ⟨x, hx⟩ : ∃ x, x = rd_T42 l (i : Int) := ⟨_, rfl⟩
      replace hFK_ : Kd.FK k42 w P x cs_ := by rw [hx]; exact hFK_
      obtain ⟨A_x, c_x, rfl, hl_, hF_⟩ := k42_openF hFK_
      clear hFK_
      have HKX := Aside0.mk hl_
      have FX := Aside0.mk hF_
      clear hl_ hF_
      have HST := Aside0.mk (rst_succ hlt s)
      have HCT := Aside0.mk (clash_take hlt s)
      have HCO := Aside0.mk (clash_of hlt (s := s))
      rw [← hx] at HST HCT HCO
      clear hx
      have HLN := Aside0.mk (rst_len (l := l) s i hi)
      rw [Int.toNat_natCast] at hcc_
      have hx0 : wr.cell? (ad.add (i * 4)) = some (.int .i64 x.f0) := (HB.out.cell (World.block_lt_of_cell? w _ (hcc_ 0 _ rfl))).trans (hcc_ 0 _ rfl)
      have hx1 : wr.cell? ⟨(ad.add (i * 4)).block, (ad.add (i * 4)).off + 1, none⟩ = some (.int .u32 x.f1) := by have h := hcc_ 1 _ rfl; replace h : w.cell? (ad.add (i * 4 + 1)) = _ := h; rw [add_field _ _ 1 (by omega)] at h; exact (HB.out.cell (World.block_lt_of_cell? w _ h)).trans h
      have hx2 : wr.cell? ⟨(ad.add (i * 4)).block, (ad.add (i * 4)).off + 2, none⟩ = some (.bool x.f2.f0) := by have h := hcc_ 2 _ rfl; replace h : w.cell? (ad.add (i * 4 + 2)) = _ := h; rw [add_field _ _ 2 (by omega)] at h; exact (HB.out.cell (World.block_lt_of_cell? w _ h)).trans h
      have hx3 : wr.cell? ⟨(ad.add (i * 4)).block, (ad.add (i * 4)).off + 3, none⟩ = some (.slice A_x x.f2.f1.length c_x) := by have h := hcc_ 3 _ rfl; replace h : w.cell? (ad.add (i * 4 + 3)) = _ := h; rw [add_field _ _ 3 (by omega)] at h; exact (HB.out.cell (World.block_lt_of_cell? w _ h)).trans h
      clear hcc_
      replace p1 := eq_true p1
      replace p2 := eq_true p2
      have HLT := Aside0.mk (Kd.N_lt HN.out)
      go_upto_region 10 with (first | ((with_reducible refine gate_dst (N := 11) rfl ?_); (try (refine gate_guard (by rfl) ?_; dsimp only)); refine bxn (cs := #[.int .i64 0, .int .u32 0, .bool false, .slice none 0 0]) (t := 42) ?_; intro gx hg w61_ hbox hB0; have hG := Aside0.mk (show wr.heap.size ≤ gx from Nat.le_of_eq hg.symm); clear hg; have hBX := Aside0.mk hbox; have hB1 := Aside0.mk hB0; clear hB0; obtain ⟨hc_gx_0, hc_gx_1, hc_gx_2, hc_gx_3, hf_gx_0, hf_gx_1, hf_gx_2, hf_gx_3⟩ := cf4 hbox; clear hbox))
      have HGX0 := Aside0.mk (hG.out : wr.heap.size ≤ gx)
      have hB : Below wr.heap.size wr ((((w61_.setCell ⟨gx, 0, none⟩ (.int .i64 x.f0)).setCell ⟨gx, 1, none⟩ (.int .u32 x.f1)).setCell ⟨gx, 2, none⟩ (.bool x.f2.f0)).setCell ⟨gx, 3, none⟩ (.slice A_x x.f2.f1.length c_x)) := (below_set (below_set (below_set (below_set hB1.out hG.out) hG.out) hG.out) hG.out)
      have hBN : ((((w61_.setCell ⟨gx, 0, none⟩ (.int .i64 x.f0)).setCell ⟨gx, 1, none⟩ (.int .u32 x.f1)).setCell ⟨gx, 2, none⟩ (.bool x.f2.f0)).setCell ⟨gx, 3, none⟩ (.slice A_x x.f2.f1.length c_x)).heap[gx]? = some (.cells #[.int .i64 x.f0, .int .u32 x.f1, .bool x.f2.f0, .slice A_x x.f2.f1.length c_x] 42 (0, 0)) := (blk_put (cs := #[.int .i64 x.f0, .int .u32 x.f1, .bool x.f2.f0, .slice none 0 0]) (blk_put (cs := #[.int .i64 x.f0, .int .u32 x.f1, .bool false, .slice none 0 0]) (blk_put (cs := #[.int .i64 x.f0, .int .u32 0, .bool false, .slice none 0 0]) (blk_put (cs := #[.int .i64 0, .int .u32 0, .bool false, .slice none 0 0]) hBX.out 0 (.int .i64 x.f0) rfl) 1 (.int .u32 x.f1) rfl) 2 (.bool x.f2.f0) rfl) 3 (.slice A_x x.f2.f1.length c_x) rfl)
      clear hBX hB1
      clear hc_gx_0 hf_gx_0 hc_gx_1 hf_gx_1 hc_gx_2 hf_gx_2 hc_gx_3 hf_gx_3
      generalize ((((w61_.setCell ⟨gx, 0, none⟩ (.int .i64 x.f0)).setCell ⟨gx, 1, none⟩ (.int .u32 x.f1)).setCell ⟨gx, 2, none⟩ (.bool x.f2.f0)).setCell ⟨gx, 3, none⟩ (.slice A_x x.f2.f1.length c_x)) = w62_ at hB hBN ⊢
      replace HB := mvH HB hB
      clear hc_gh_0
      replace BK_gh := mvB BK_gh hB
      have hc_gh_0 : w62_.cell? ⟨gh, 0, none⟩ = some (.slice (some ad) l.length c_l) := (blk_cell BK_gh.out 0).trans rfl
      clear hc_gs_0 hc_gs_1 hc_gs_2 hc_gs_3
      replace BK_gs := mvB BK_gs hB
      have hc_gs_0 := (cf4 BK_gs.out).1
      have hc_gs_1 := (cf4 BK_gs.out).2.1
      have hc_gs_2 := (cf4 BK_gs.out).2.2.1
      have hc_gs_3 := (cf4 BK_gs.out).2.2.2.1
      clear hc_gr_0 hf_gr_0
      replace BK_gr := mvB BK_gr hB
      obtain ⟨hc_gr_0, hf_gr_0⟩ := cf1 BK_gr.out
      replace HBr := mvH HBr hB
      replace HN := Aside0.mk (Kd.N_below HN.out hB)
      have BK_gx := Aside0.mk hBN
      clear hG hBN hB
      have hc_gx_0 := (cf4 BK_gx.out).1
      have hc_gx_1 := (cf4 BK_gx.out).2.1
      have hc_gx_2 := (cf4 BK_gx.out).2.2.1
      have hc_gx_3 := (cf4 BK_gx.out).2.2.2.1
      clear hx0 hx1 hx2 hx3
      have HNX := Aside0.mk (show ∀ k, u8.ownBlock = some k → k ≠ gx from fun k hk e => by have h1 := HLT.out k hk; have h2 := HGX0.out; omega)
      clear HLT HGX0
      by_cases h0 : x.f0 = s.f0
      · by_cases h1 : x.f1 = s.f1
        · cases bi with
          | false =>
            have e0 : (x.f0 == s.f0) = true := beq_iff_eq.2 h0
            have e1 : (x.f1 == s.f1) = true := beq_iff_eq.2 h1
            have e2 : decide (s.f0 ≤ x.f0) = true := decide_eq_true (by omega)
            have Xh0 := Aside0.mk h0
            clear h0 h1
            go_wp2_with (first | ((with_reducible refine gate_builtin (b := .append) (xs := #[.tmp 52, .tmp 54]) rfl ?_); at_builtin; refine Kd.N_append k42 (w0 := w4_) w4_.heap.size rfl (.tmp 52) (.tmp 54) 38 42 (.agg #[.int .i64 0, .int .u32 0, .bool false, .slice none 0 0]) 48 rfl Try.underlying38 info42_ rfl (by decide) (by decide) _ ((rst l s i).1) s [.int .i64 s.f0, .int .u32 s.f1, .bool s.f2.f0, .slice A_s s.f2.f1.length c_s] (fun k => P k ∨ w4_.heap.size ≤ k) P rfl rfl (k42_mkF _ _ s HK_s.out (Kd.F_below FS.out HB.out)) (fun k hk => ⟨.inl hk, fun e => by have h1 := Kd.N_base HN.out k e.symm; have h2 := XP.out k hk; have h3 := HBW.out.size; omega⟩) (fun k hk => .inr (Nat.le_trans HBr.out.size hk)) HN.out HBr.out HBr.out.size (by have h1 := HLN.out; have h2 := Xhn.out; (try simp only [List.length_append, List.length_cons, List.length_nil]); omega) ?_; intro v_w63_ w63_ hN hB0 hG hat; have hrow : ∀ k, _ = some k → w4_.heap.size ≤ k := fun k hk => Kd.N_base HN.out k hk; clear HB; have nHR := Aside0.mk (HBr.out.grown hG HBr.out.size hrow); clear hc_gh_0; clear BK_gh; clear hc_gs_0 hc_gs_1 hc_gs_2 hc_gs_3; have nBK := Aside0.mk (blk_grown BK_gs.out hG (fun e => (by have h1 := hrow _ e.symm; have h2 := LT_gs.out; omega))); clear BK_gs; have BK_gs := nBK; clear nBK; clear hc_gr_0 hf_gr_0; clear BK_gr; clear hc_gx_0 hc_gx_1 hc_gx_2 hc_gx_3; replace BK_gx := Aside0.mk (blk_grown BK_gx.out hG (fun e => HNX.out _ e.symm rfl)); have hc_gs_0 := (cf4 BK_gs.out).1; have hc_gx_0 := (cf4 BK_gx.out).1; clear HNX; clear HBr hrow HN hB0 hat hG; have HBr := nHR; clear nHR; have HN := Aside0.mk hN; clear hN))
            go_roundg (l.length - (i + 1))
            case measure => omega
            case rel =>
              refine ⟨i + 1, ?_, ?_, ⟨by omega, rfl⟩, ⟨?_⟩, ⟨?_⟩, HBr⟩
              · show Value.int .i64 (wrap64 ((i : Int) + 1)) = _
                have h1 := Xhn.out
                have h2 : wrap64 ((i : Int) + 1) = ((i + 1 : Nat) : Int) := by unfold wrap64; omega
                rw [h2]
              · show Value.bool true = _
                rw [HST.out]; unfold rstep; rw [if_pos Xh0.out, if_neg (by rw [← HBI.out]; decide)]
                (try rfl)
              · rw [HCT.out, HCL.out, Bool.false_or]
                rw [decide_eq_true (beq_iff_eq.1 e1), Bool.not_true, Bool.and_false]
              · have hh := HN.out
                rw [HST.out]; unfold rstep; rw [if_pos Xh0.out, if_neg (by rw [← HBI.out]; decide)]
                exact hh
          | true =>
            have e0 : (x.f0 == s.f0) = true := beq_iff_eq.2 h0
            have e1 : (x.f1 == s.f1) = true := beq_iff_eq.2 h1
            have e2 : decide (s.f0 ≤ x.f0) = true := decide_eq_true (by omega)
            have Xh0 := Aside0.mk h0
            clear h0 h1
            go_wp2
            go_roundg (l.length - (i + 1))
            case measure => omega
            case rel =>
              refine ⟨i + 1, ?_, ?_, ⟨by omega, rfl⟩, ⟨?_⟩, ⟨?_⟩, HBr⟩
              · show Value.int .i64 (wrap64 ((i : Int) + 1)) = _
                have h1 := Xhn.out
                have h2 : wrap64 ((i : Int) + 1) = ((i + 1 : Nat) : Int) := by unfold wrap64; omega
                rw [h2]
              · show Value.bool true = _
                rw [HST.out]; unfold rstep; rw [if_pos Xh0.out, if_pos HBI.out.symm]
                exact congrArg Value.bool HBI.out
              · rw [HCT.out, HCL.out, Bool.false_or]
                rw [decide_eq_true (beq_iff_eq.1 e1), Bool.not_true, Bool.and_false]
              · have hh := HN.out
                rw [HST.out]; unfold rstep; rw [if_pos Xh0.out, if_pos HBI.out.symm]
                exact hh
        · have e0 : (x.f0 == s.f0) = true := beq_iff_eq.2 h0
          have e1 : (x.f1 == s.f1) = false := beq_eq_false_iff_ne.2 h1
          have HCY := Aside0.mk (HCO.out h0 h1)
          clear h0 h1
          go_wp2
          refine bodyPost_ret (results_ctt rfl _ _ gr 40 #[.slice (some ad) l.length c_l] (0, 0) _ rfl (blk_put (cs := #[.slice none 0 0]) BK_gr.out 0 (.slice (some ad) l.length c_l) rfl) Try.underlying40 rfl (by kernel_rfl)) rfl ?_
          exact .inl ⟨HCY.out, ⟨_, _, rfl, Kd.V_mk HK_l.out (Kd.F_mono (Kd.F_below FL.out (below_set HB.out GE_gr.out)) (fun k hk => .inl hk)), Kd.V_nil _ _ _ _ _, below_set HB.out GE_gr.out⟩⟩
      · by_cases h2 : s.f0 ≤ x.f0
        · cases bi with
          | false =>
            have e0 : (x.f0 == s.f0) = false := beq_eq_false_iff_ne.2 h0
            have e2 : decide (s.f0 ≤ x.f0) = true := decide_eq_true h2
            have Xh0 := Aside0.mk h0
            have Xh2 := Aside0.mk h2
            clear h0 h2
            go_wp2_with (first | ((with_reducible refine gate_builtin (b := .append) (xs := #[.tmp 52, .tmp 54]) rfl ?_); at_builtin; refine Kd.N_append k42 (w0 := w4_) w4_.heap.size rfl (.tmp 52) (.tmp 54) 38 42 (.agg #[.int .i64 0, .int .u32 0, .bool false, .slice none 0 0]) 48 rfl Try.underlying38 info42_ rfl (by decide) (by decide) _ ((rst l s i).1) s [.int .i64 s.f0, .int .u32 s.f1, .bool s.f2.f0, .slice A_s s.f2.f1.length c_s] (fun k => P k ∨ w4_.heap.size ≤ k) P rfl rfl (k42_mkF _ _ s HK_s.out (Kd.F_below FS.out HB.out)) (fun k hk => ⟨.inl hk, fun e => by have h1 := Kd.N_base HN.out k e.symm; have h2 := XP.out k hk; have h3 := HBW.out.size; omega⟩) (fun k hk => .inr (Nat.le_trans HBr.out.size hk)) HN.out HBr.out HBr.out.size (by have h1 := HLN.out; have h2 := Xhn.out; (try simp only [List.length_append, List.length_cons, List.length_nil]); omega) ?_; intro v_w63_ w63_ hN hB0 hG hat; have hrow : ∀ k, _ = some k → w4_.heap.size ≤ k := fun k hk => Kd.N_base HN.out k hk; replace HB := Aside0.mk (HB.out.grown hG HB.out.size (fun k hk => Nat.le_trans HBW.out.size (hrow k hk))); have nHR := Aside0.mk (HBr.out.grown hG HBr.out.size hrow); clear hc_gh_0; clear BK_gh; clear hc_gs_0 hc_gs_1 hc_gs_2 hc_gs_3; have nBK := Aside0.mk (blk_grown BK_gs.out hG (fun e => (by have h1 := hrow _ e.symm; have h2 := LT_gs.out; omega))); clear BK_gs; have BK_gs := nBK; clear nBK; clear hc_gr_0 hf_gr_0; clear BK_gr; clear hc_gx_0 hc_gx_1 hc_gx_2 hc_gx_3; replace BK_gx := Aside0.mk (blk_grown BK_gx.out hG (fun e => HNX.out _ e.symm rfl)); have hc_gs_0 := (cf4 BK_gs.out).1; have hc_gx_0 := (cf4 BK_gx.out).1; have hc_gx_1 := (cf4 BK_gx.out).2.1; have hc_gx_2 := (cf4 BK_gx.out).2.2.1; have hc_gx_3 := (cf4 BK_gx.out).2.2.2.1; clear HNX; clear HBr hrow HN hB0 hat hG; have HBr := nHR; clear nHR; have HN := Aside0.mk hN; clear hN) | ((with_reducible refine gate_builtin (b := .append) (xs := #[.tmp 61, .tmp 63]) rfl ?_); at_builtin; refine Kd.N_append k42 (w0 := w4_) w4_.heap.size rfl (.tmp 61) (.tmp 63) 38 42 (.agg #[.int .i64 0, .int .u32 0, .bool false, .slice none 0 0]) 48 rfl Try.underlying38 info42_ rfl (by decide) (by decide) _ ((rst l s i).1 ++ [s]) x [.int .i64 x.f0, .int .u32 x.f1, .bool x.f2.f0, .slice A_x x.f2.f1.length c_x] (fun k => P k ∨ w4_.heap.size ≤ k) P rfl rfl (k42_mkF _ _ x HKX.out (Kd.F_below FX.out HB.out)) (fun k hk => ⟨.inl hk, fun e => by have h1 := Kd.N_base HN.out k e.symm; have h2 := XP.out k hk; have h3 := HBW.out.size; omega⟩) (fun k hk => .inr (Nat.le_trans HBr.out.size hk)) HN.out HBr.out HBr.out.size (by have h1 := HLN.out; have h2 := Xhn.out; (try simp only [List.length_append, List.length_cons, List.length_nil]); omega) ?_; intro v_w64_ w64_ hN hB0 hG hat; have hrow : ∀ k, _ = some k → w4_.heap.size ≤ k := fun k hk => Kd.N_base HN.out k hk; clear HB; have nHR := Aside0.mk (HBr.out.grown hG HBr.out.size hrow); clear hc_gs_0; clear BK_gs; clear hc_gx_0 hc_gx_1 hc_gx_2 hc_gx_3; clear BK_gx; clear HBr hrow HN hB0 hat hG; have HBr := nHR; clear nHR; have HN := Aside0.mk hN; clear hN))
            go_roundg (l.length - (i + 1))
            case measure => omega
            case rel =>
              refine ⟨i + 1, ?_, ?_, ⟨by omega, rfl⟩, ⟨?_⟩, ⟨?_⟩, HBr⟩
              · show Value.int .i64 (wrap64 ((i : Int) + 1)) = _
                have h1 := Xhn.out
                have h2 : wrap64 ((i : Int) + 1) = ((i + 1 : Nat) : Int) := by unfold wrap64; omega
                rw [h2]
              · show Value.bool true = _
                rw [HST.out]; unfold rstep; rw [if_neg Xh0.out, if_neg (by rw [← HBI.out]; decide), if_pos (by have := Xh2.out; omega)]
                (try rfl)
              · rw [HCT.out, HCL.out, Bool.false_or]
                rw [decide_eq_false Xh0.out, Bool.false_and]
              · have hh := HN.out
                rw [HST.out]; unfold rstep; rw [if_neg Xh0.out, if_neg (by rw [← HBI.out]; decide), if_pos (by have := Xh2.out; omega)]
                exact hh
          | true =>
            have e0 : (x.f0 == s.f0) = false := beq_eq_false_iff_ne.2 h0
            have e2 : decide (s.f0 ≤ x.f0) = true := decide_eq_true h2
            have Xh0 := Aside0.mk h0
            clear h0 h2
            go_wp2_with (first | ((with_reducible refine gate_builtin (b := .append) (xs := #[.tmp 61, .tmp 63]) rfl ?_); at_builtin; refine Kd.N_append k42 (w0 := w4_) w4_.heap.size rfl (.tmp 61) (.tmp 63) 38 42 (.agg #[.int .i64 0, .int .u32 0, .bool false, .slice none 0 0]) 48 rfl Try.underlying38 info42_ rfl (by decide) (by decide) _ ((rst l s i).1) x [.int .i64 x.f0, .int .u32 x.f1, .bool x.f2.f0, .slice A_x x.f2.f1.length c_x] (fun k => P k ∨ w4_.heap.size ≤ k) P rfl rfl (k42_mkF _ _ x HKX.out (Kd.F_below FX.out HB.out)) (fun k hk => ⟨.inl hk, fun e => by have h1 := Kd.N_base HN.out k e.symm; have h2 := XP.out k hk; have h3 := HBW.out.size; omega⟩) (fun k hk => .inr (Nat.le_trans HBr.out.size hk)) HN.out HBr.out HBr.out.size (by have h1 := HLN.out; have h2 := Xhn.out; (try simp only [List.length_append, List.length_cons, List.length_nil]); omega) ?_; intro v_w63_ w63_ hN hB0 hG hat; have hrow : ∀ k, _ = some k → w4_.heap.size ≤ k := fun k hk => Kd.N_base HN.out k hk; clear HB; have nHR := Aside0.mk (HBr.out.grown hG HBr.out.size hrow); clear hc_gh_0; clear BK_gh; clear hc_gs_0 hc_gs_1 hc_gs_2 hc_gs_3; clear BK_gs; clear hc_gr_0 hf_gr_0; clear BK_gr; clear hc_gx_0 hc_gx_1 hc_gx_2 hc_gx_3; clear BK_gx; clear HNX; clear HBr hrow HN hB0 hat hG; have HBr := nHR; clear nHR; have HN := Aside0.mk hN; clear hN))
            go_roundg (l.length - (i + 1))
            case measure => omega
            case rel =>
              refine ⟨i + 1, ?_, ?_, ⟨by omega, rfl⟩, ⟨?_⟩, ⟨?_⟩, HBr⟩
              · show Value.int .i64 (wrap64 ((i : Int) + 1)) = _
                have h1 := Xhn.out
                have h2 : wrap64 ((i : Int) + 1) = ((i + 1 : Nat) : Int) := by unfold wrap64; omega
                rw [h2]
              · show Value.bool true = _
                rw [HST.out]; unfold rstep; rw [if_neg Xh0.out, if_pos HBI.out.symm]
                (try rfl)
              · rw [HCT.out, HCL.out, Bool.false_or]
                rw [decide_eq_false Xh0.out, Bool.false_and]
              · have hh := HN.out
                rw [HST.out]; unfold rstep; rw [if_neg Xh0.out, if_pos HBI.out.symm]
                exact hh
        · cases bi with
          | false =>
            have e0 : (x.f0 == s.f0) = false := beq_eq_false_iff_ne.2 h0
            have e2 : decide (s.f0 ≤ x.f0) = false := decide_eq_false h2
            have Xh0 := Aside0.mk h0
            have Xh2 := Aside0.mk h2
            clear h0 h2
            go_wp2_with (first | ((with_reducible refine gate_builtin (b := .append) (xs := #[.tmp 61, .tmp 63]) rfl ?_); at_builtin; refine Kd.N_append k42 (w0 := w4_) w4_.heap.size rfl (.tmp 61) (.tmp 63) 38 42 (.agg #[.int .i64 0, .int .u32 0, .bool false, .slice none 0 0]) 48 rfl Try.underlying38 info42_ rfl (by decide) (by decide) _ ((rst l s i).1) x [.int .i64 x.f0, .int .u32 x.f1, .bool x.f2.f0, .slice A_x x.f2.f1.length c_x] (fun k => P k ∨ w4_.heap.size ≤ k) P rfl rfl (k42_mkF _ _ x HKX.out (Kd.F_below FX.out HB.out)) (fun k hk => ⟨.inl hk, fun e => by have h1 := Kd.N_base HN.out k e.symm; have h2 := XP.out k hk; have h3 := HBW.out.size; omega⟩) (fun k hk => .inr (Nat.le_trans HBr.out.size hk)) HN.out HBr.out HBr.out.size (by have h1 := HLN.out; have h2 := Xhn.out; (try simp only [List.length_append, List.length_cons, List.length_nil]); omega) ?_; intro v_w63_ w63_ hN hB0 hG hat; have hrow : ∀ k, _ = some k → w4_.heap.size ≤ k := fun k hk => Kd.N_base HN.out k hk; clear HB; have nHR := Aside0.mk (HBr.out.grown hG HBr.out.size hrow); clear hc_gh_0; clear BK_gh; clear hc_gs_0 hc_gs_1 hc_gs_2 hc_gs_3; clear BK_gs; clear hc_gr_0 hf_gr_0; clear BK_gr; clear hc_gx_0 hc_gx_1 hc_gx_2 hc_gx_3; clear BK_gx; clear HNX; clear HBr hrow HN hB0 hat hG; have HBr := nHR; clear nHR; have HN := Aside0.mk hN; clear hN))
            go_roundg (l.length - (i + 1))
            case measure => omega
            case rel =>
              refine ⟨i + 1, ?_, ?_, ⟨by omega, rfl⟩, ⟨?_⟩, ⟨?_⟩, HBr⟩
              · show Value.int .i64 (wrap64 ((i : Int) + 1)) = _
                have h1 := Xhn.out
                have h2 : wrap64 ((i : Int) + 1) = ((i + 1 : Nat) : Int) := by unfold wrap64; omega
                rw [h2]
              · show Value.bool false = _
                rw [HST.out]; unfold rstep; rw [if_neg Xh0.out, if_neg (by rw [← HBI.out]; decide), if_neg (by have := Xh2.out; omega)]
                (try rfl)
              · rw [HCT.out, HCL.out, Bool.false_or]
                rw [decide_eq_false Xh0.out, Bool.false_and]
              · have hh := HN.out
                rw [HST.out]; unfold rstep; rw [if_neg Xh0.out, if_neg (by rw [← HBI.out]; decide), if_neg (by have := Xh2.out; omega)]
                exact hh
          | true =>
            have e0 : (x.f0 == s.f0) = false := beq_eq_false_iff_ne.2 h0
            have e2 : decide (s.f0 ≤ x.f0) = false := decide_eq_false h2
            have Xh0 := Aside0.mk h0
            clear h0 h2
            go_wp2_with (first | ((with_reducible refine gate_builtin (b := .append) (xs := #[.tmp 61, .tmp 63]) rfl ?_); at_builtin; refine Kd.N_append k42 (w0 := w4_) w4_.heap.size rfl (.tmp 61) (.tmp 63) 38 42 (.agg #[.int .i64 0, .int .u32 0, .bool false, .slice none 0 0]) 48 rfl Try.underlying38 info42_ rfl (by decide) (by decide) _ ((rst l s i).1) x [.int .i64 x.f0, .int .u32 x.f1, .bool x.f2.f0, .slice A_x x.f2.f1.length c_x] (fun k => P k ∨ w4_.heap.size ≤ k) P rfl rfl (k42_mkF _ _ x HKX.out (Kd.F_below FX.out HB.out)) (fun k hk => ⟨.inl hk, fun e => by have h1 := Kd.N_base HN.out k e.symm; have h2 := XP.out k hk; have h3 := HBW.out.size; omega⟩) (fun k hk => .inr (Nat.le_trans HBr.out.size hk)) HN.out HBr.out HBr.out.size (by have h1 := HLN.out; have h2 := Xhn.out; (try simp only [List.length_append, List.length_cons, List.length_nil]); omega) ?_; intro v_w63_ w63_ hN hB0 hG hat; have hrow : ∀ k, _ = some k → w4_.heap.size ≤ k := fun k hk => Kd.N_base HN.out k hk; clear HB; have nHR := Aside0.mk (HBr.out.grown hG HBr.out.size hrow); clear hc_gh_0; clear BK_gh; clear hc_gs_0 hc_gs_1 hc_gs_2 hc_gs_3; clear BK_gs; clear hc_gr_0 hf_gr_0; clear BK_gr; clear hc_gx_0 hc_gx_1 hc_gx_2 hc_gx_3; clear BK_gx; clear HNX; clear HBr hrow HN hB0 hat hG; have HBr := nHR; clear nHR; have HN := Aside0.mk hN; clear hN))
            go_roundg (l.length - (i + 1))
            case measure => omega
            case rel =>
              refine ⟨i + 1, ?_, ?_, ⟨by omega, rfl⟩, ⟨?_⟩, ⟨?_⟩, HBr⟩
              · show Value.int .i64 (wrap64 ((i : Int) + 1)) = _
                have h1 := Xhn.out
                have h2 : wrap64 ((i : Int) + 1) = ((i + 1 : Nat) : Int) := by unfold wrap64; omega
                rw [h2]
              · show Value.bool true = _
                rw [HST.out]; unfold rstep; rw [if_neg Xh0.out, if_pos HBI.out.symm]
                (try rfl)
              · rw [HCT.out, HCL.out, Bool.false_or]
                rw [decide_eq_false Xh0.out, Bool.false_and]
              · have hh := HN.out
                rw [HST.out]; unfold rstep; rw [if_neg Xh0.out, if_pos HBI.out.symm]
                exact hh
    · have c22 : decide ((i : Int) < (l.length : Int)) = false := decide_eq_false (by omega)
      have hie : i = l.length := by omega
      subst hie
      have HCLL := Aside0.mk (show clash l s = false by have h := HCL.out; rw [List.take_length] at h; exact h)
      clear HCL hgk
      have HLN := Aside0.mk (rst_len (l := l) s l.length (Nat.le_refl _))
      cases bi with
      | false =>
        go_upto_region 19 with (first | ((with_reducible refine gate_builtin (b := .append) (xs := #[.tmp 67, .tmp 69]) rfl ?_); at_builtin; refine Kd.N_append k42 (w0 := w4_) w4_.heap.size rfl (.tmp 67) (.tmp 69) 38 42 (.agg #[.int .i64 0, .int .u32 0, .bool false, .slice none 0 0]) 48 rfl Try.underlying38 info42_ rfl (by decide) (by decide) _ ((rst l s l.length).1) s [.int .i64 s.f0, .int .u32 s.f1, .bool s.f2.f0, .slice A_s s.f2.f1.length c_s] (fun k => P k ∨ w4_.heap.size ≤ k) P rfl rfl (k42_mkF _ _ s HK_s.out (Kd.F_below FS.out HB.out)) (fun k hk => ⟨.inl hk, fun e => by have h1 := Kd.N_base HN.out k e.symm; have h2 := XP.out k hk; have h3 := HBW.out.size; omega⟩) (fun k hk => .inr (Nat.le_trans HBr.out.size hk)) HN.out HBr.out HBr.out.size (by have h1 := HLN.out; have h2 := Xhn.out; (try simp only [List.length_append, List.length_cons, List.length_nil]); omega) ?_; intro v_w61_ w61_ hN hB0 hG hat; have hrow : ∀ k, _ = some k → w4_.heap.size ≤ k := fun k hk => Kd.N_base HN.out k hk; replace HB := Aside0.mk (HB.out.grown hG HB.out.size (fun k hk => Nat.le_trans HBW.out.size (hrow k hk))); clear hc_gh_0; have nBK := Aside0.mk (blk_grown BK_gh.out hG (fun e => (by have h1 := hrow _ e.symm; have h2 := LT_gh.out; omega))); clear BK_gh; have BK_gh := nBK; clear nBK; clear hc_gs_0 hc_gs_1 hc_gs_2 hc_gs_3; have nBK := Aside0.mk (blk_grown BK_gs.out hG (fun e => (by have h1 := hrow _ e.symm; have h2 := LT_gs.out; omega))); clear BK_gs; have BK_gs := nBK; clear nBK; clear hc_gr_0 hf_gr_0; have nBK := Aside0.mk (blk_grown BK_gr.out hG (fun e => (by have h1 := hrow _ e.symm; have h2 := LT_gr.out; omega))); clear BK_gr; have BK_gr := nBK; clear nBK; have hc_gh_0 : w61_.cell? ⟨gh, 0, none⟩ = some (.slice A_l l.length c_l) := (blk_cell BK_gh.out 0).trans rfl; obtain ⟨hc_gr_0, hf_gr_0⟩ := cf1 BK_gr.out; clear HBr hrow HN hB0 hat hG; have HN := Aside0.mk hN; clear hN))
        have HN2 := Aside0.mk (show Kd.N k42 42 _ w4_.heap.size (fun k => P k ∨ w4_.heap.size ≤ k) v_w61_ l2 by have h := HN.out; rw [← Xh2.out]; unfold rputL; rw [if_neg (by rw [← HBI.out]; decide)]; exact h)
        clear HN HBI
        have HV_t := Aside0.mk (Kd.N_V (base' := 0) HN2.out)
        clear HN2
        obtain ⟨A_t, c_t, et_⟩ := Kd.V_slice HV_t.out
        subst et_
        have HC_t := Aside0.mk (Kd.V_reads' HV_t.out).2.2
        have HK_t := Aside0.mk (Kd.V_reads' HV_t.out).2.1
        by_cases h32 : l2.length ≤ 32
        · have c73 : ¬ (32 : Int) < (l2.length : Int) := by omega
          have HW1 := Aside0.mk (Xhw1.out h32)
          have HW2 := Aside0.mk (Xhw2.out h32)
          have HCH := Aside0.mk (Xhch.out h32)
          have X32 := Aside0.mk h32
          clear h32
          go_upto_region 22 with (first | ((with_reducible refine gate_dst (N := 12) rfl ?_); (try (refine gate_guard (by rfl) ?_; dsimp only)); refine bxn (cs := #[.slice none 0 0]) (t := 40) ?_; intro gt hg w62_ hbox hB0; have hG := Aside0.mk (show w61_.heap.size ≤ gt from Nat.le_of_eq hg.symm); clear hg; have hBX := Aside0.mk hbox; have hB1 := Aside0.mk hB0; clear hB0; have hc_gt_0 : w62_.cell? ⟨gt, 0, none⟩ = some (.slice none 0 0) := (blk_cell hbox 0).trans rfl; have hf_gt_0 := blk_frozen hbox 0; clear hbox))
          have hB : Below w61_.heap.size w61_ (w62_.setCell ⟨gt, 0, none⟩ (.slice A_t l2.length c_t)) := (below_set hB1.out hG.out)
          have hBN : (w62_.setCell ⟨gt, 0, none⟩ (.slice A_t l2.length c_t)).heap[gt]? = some (.cells #[.slice A_t l2.length c_t] 40 (0, 0)) := (blk_put (cs := #[.slice none 0 0]) hBX.out 0 (.slice A_t l2.length c_t) rfl)
          clear hBX hB1
          clear hc_gt_0 hf_gt_0
          generalize (w62_.setCell ⟨gt, 0, none⟩ (.slice A_t l2.length c_t)) = w63_ at hB hBN ⊢
          have NB_gt_gr := Aside0.mk (show gt ≠ gr from Nat.ne_of_gt (Nat.lt_of_lt_of_le (blk_lt (g := gr) (o := .cells #[.slice none 0 0] 40 (0, 0)) BK_gr.out) hG.out))
          replace HB := mvH HB hB
          clear hc_gh_0
          replace BK_gh := mvB BK_gh hB
          have hc_gh_0 : w63_.cell? ⟨gh, 0, none⟩ = some (.slice A_l l.length c_l) := (blk_cell BK_gh.out 0).trans rfl
          replace BK_gs := mvB BK_gs hB
          have hc_gs_0 := (cf4 BK_gs.out).1
          have hc_gs_1 := (cf4 BK_gs.out).2.1
          have hc_gs_2 := (cf4 BK_gs.out).2.2.1
          have hc_gs_3 := (cf4 BK_gs.out).2.2.2.1
          clear hc_gr_0 hf_gr_0
          replace BK_gr := mvB BK_gr hB
          replace HC_t := mvC HC_t hB
          replace HV_t := Aside0.mk (Kd.V_below HV_t.out hB)
          have BK_gt := Aside0.mk hBN
          clear hG hBN hB
          have hc_gt_0 : w63_.cell? ⟨gt, 0, none⟩ = some (.slice A_t l2.length c_t) := (blk_cell BK_gt.out 0).trans rfl
          refine start_ (n := 15) (S := fun w' => w'.cell? ⟨gh, 0, none⟩ = some (.slice A_l l.length c_l) ∧ w'.cell? ⟨gs, 0, none⟩ = some (.int .i64 s.f0) ∧ w'.cell? ⟨gs, 1, none⟩ = some (.int .u32 s.f1) ∧ w'.cell? ⟨gs, 2, none⟩ = some (.bool s.f2.f0) ∧ w'.cell? ⟨gs, 3, none⟩ = some (.slice A_s s.f2.f1.length c_s) ∧ w'.cell? ⟨gt, 0, none⟩ = some (.slice A_t l2.length c_t)) (ds := []) #[false, false, false, false, false, false, false, false, false, false, false, false, false, false, false] (by kernel_rfl) rfl rfl ⟨hc_gh_0, hc_gs_0, hc_gs_1, hc_gs_2, hc_gs_3, hc_gt_0⟩ (fun hHeld => ?_); refine with_tabW rp_t22 rp_b22 (fun HT_ HW_ => ?_)
          have hB : Below w63_.heap.size w63_ w63_.drew := below_drew (Below.refl _ _)
          generalize w63_.drew = w64_ at hB hHeld ⊢
          replace HB := mvH HB hB
          clear hc_gh_0
          replace BK_gh := mvB BK_gh hB
          clear hc_gs_0 hc_gs_1 hc_gs_2 hc_gs_3
          replace BK_gs := mvB BK_gs hB
          replace BK_gr := mvB BK_gr hB
          clear hc_gt_0
          replace BK_gt := mvB BK_gt hB
          replace HC_t := mvC HC_t hB
          replace HV_t := Aside0.mk (Kd.V_below HV_t.out hB)
          clear hB
          refine tk 0 77 (bb 15 1) rfl rfl HT_ HW_ hHeld ?_
          refine pw 1 78 (bb 15 3) rfl rfl HT_ ?_
          refine tk 2 79 (bb 15 7) rfl rfl HT_ HW_ hHeld ?_
          refine tk 3 80 (bb 15 15) rfl rfl HT_ HW_ hHeld ?_
          refine pw 4 81 (bb 15 31) rfl rfl HT_ ?_
          refine tk 5 82 (bb 15 63) rfl rfl HT_ HW_ hHeld ?_
          refine tk 7 84 (bb 15 191) rfl rfl HT_ HW_ hHeld ?_
          refine pw 8 85 (bb 15 447) rfl rfl HT_ ?_
          refine tk 9 86 (bb 15 959) rfl rfl HT_ HW_ hHeld ?_
          refine on1 6 (some 83) (bb 15 1023) rfl rfl HT_ (fun K hK => ?_)
          refine gfn Try.func36 #[.agg #[.slice A_l l.length c_l], .int .u32 s.f1] ?_
          with_reducible refine (rwants_w HW1.out _ _ _ (Kd.C_below HC_l.out HB.out) HK_l.out).mono ?_
          rintro e w65_ ⟨v_w1, rfl, hR, hB⟩
          obtain ⟨A_w1, c_w1, rfl⟩ := Kd.R_slice hR
          refine ⟨_, rfl, ?_⟩
          have hsz := HB.out.size
          replace HB := mvH HB hB
          replace BK_gh := mvB BK_gh hB
          have hc_gh_0 : w65_.cell? ⟨gh, 0, none⟩ = some (.slice A_l l.length c_l) := (blk_cell BK_gh.out 0).trans rfl
          replace BK_gs := mvB BK_gs hB
          have hc_gs_0 := (cf4 BK_gs.out).1
          have hc_gs_1 := (cf4 BK_gs.out).2.1
          have hc_gs_2 := (cf4 BK_gs.out).2.2.1
          have hc_gs_3 := (cf4 BK_gs.out).2.2.2.1
          replace BK_gr := mvB BK_gr hB
          replace BK_gt := mvB BK_gt hB
          have hc_gt_0 : w65_.cell? ⟨gt, 0, none⟩ = some (.slice A_t l2.length c_t) := (blk_cell BK_gt.out 0).trans rfl
          replace HC_t := mvC HC_t hB
          replace HV_t := Aside0.mk (Kd.V_below HV_t.out hB)
          have HR_w1 := Aside0.mk (Kd.R_mono (Kd.R_lower hR hsz) (fun _ _ => trivial : ∀ k, _ → (fun _ => True) k))
          clear hR
          clear hB hsz
          refine hK.out _ _ ⟨hc_gh_0, hc_gs_0, hc_gs_1, hc_gs_2, hc_gs_3, hc_gt_0⟩ (fun hHeld => ?_)
          clear hK K
          refine nm ?_
          refine on1 10 (some 87) (bb 15 2047) rfl rfl HT_ (fun K hK => ?_)
          refine gfn Try.func36 #[.agg #[.slice A_t l2.length c_t], .int .u32 s.f1] ?_
          with_reducible refine (rwants_w HW2.out _ _ _ HC_t.out HK_t.out).mono ?_
          rintro e w66_ ⟨v_w2, rfl, hR, hB⟩
          obtain ⟨A_w2, c_w2, rfl⟩ := Kd.R_slice hR
          refine ⟨_, rfl, ?_⟩
          have hsz := HB.out.size
          replace HB := mvH HB hB
          clear hc_gh_0
          replace BK_gh := mvB BK_gh hB
          have hc_gh_0 : w66_.cell? ⟨gh, 0, none⟩ = some (.slice A_l l.length c_l) := (blk_cell BK_gh.out 0).trans rfl
          clear hc_gs_0 hc_gs_1 hc_gs_2 hc_gs_3
          replace BK_gs := mvB BK_gs hB
          have hc_gs_0 := (cf4 BK_gs.out).1
          have hc_gs_1 := (cf4 BK_gs.out).2.1
          have hc_gs_2 := (cf4 BK_gs.out).2.2.1
          have hc_gs_3 := (cf4 BK_gs.out).2.2.2.1
          replace BK_gr := mvB BK_gr hB
          clear hc_gt_0
          replace BK_gt := mvB BK_gt hB
          have hc_gt_0 : w66_.cell? ⟨gt, 0, none⟩ = some (.slice A_t l2.length c_t) := (blk_cell BK_gt.out 0).trans rfl
          clear HC_t
          replace HR_w1 := mvR HR_w1 hB
          replace HV_t := Aside0.mk (Kd.V_below HV_t.out hB)
          have HR_w2 := Aside0.mk (Kd.R_mono (Kd.R_lower hR hsz) (fun _ _ => trivial : ∀ k, _ → (fun _ => True) k))
          clear hR
          clear hB hsz
          refine hK.out _ _ ⟨hc_gh_0, hc_gs_0, hc_gs_1, hc_gs_2, hc_gs_3, hc_gt_0⟩ (fun hHeld => ?_)
          clear hK K
          refine nm ?_
          refine on1 11 (some 88) (bb 15 4095) rfl rfl HT_ (fun K hK => ?_)
          refine gfn Try.func23 #[.int .u32 s.f1, .agg #[.bool e1, .slice A_w1 s1.length c_w1], .agg #[.bool e2, .slice A_w2 s2.length c_w2]] ?_
          with_reducible refine (rchange_w HCH.out A_w1 c_w1 A_w2 c_w2 (fun k => w.heap.size ≤ k ∧ k ≠ gr) w66_ (Kd.R_reads' HR_w1.out).2.2 (Kd.R_reads' HR_w1.out).2.1 (Kd.V_mono (Kd.R_V (e := 23) (base' := 0) (Kd.R_types (Kd.R_bound HR_w2.out) BK_gr.out (by decide))) (fun k hk => ⟨hk.1.2.1, hk.2⟩))).mono ?_
          rintro e w67_ ⟨v_c, rfl, hVC, hB⟩
          refine ⟨_, rfl, ?_⟩
          have HSC := Aside0.mk (show gr < w66_.heap.size from blk_lt (g := gr) (o := .cells #[.slice none 0 0] 40 (0, 0)) BK_gr.out)
          have HSD := Aside0.mk (show w.heap.size ≤ w66_.heap.size from HB.out.size)
          replace HB := mvH HB hB
          clear hc_gh_0
          replace BK_gh := mvB BK_gh hB
          have hc_gh_0 : w67_.cell? ⟨gh, 0, none⟩ = some (.slice A_l l.length c_l) := (blk_cell BK_gh.out 0).trans rfl
          clear hc_gs_0 hc_gs_1 hc_gs_2 hc_gs_3
          replace BK_gs := mvB BK_gs hB
          have hc_gs_0 := (cf4 BK_gs.out).1
          have hc_gs_1 := (cf4 BK_gs.out).2.1
          have hc_gs_2 := (cf4 BK_gs.out).2.2.1
          have hc_gs_3 := (cf4 BK_gs.out).2.2.2.1
          replace BK_gr := mvB BK_gr hB
          obtain ⟨hc_gr_0, hf_gr_0⟩ := cf1 BK_gr.out
          clear hc_gt_0
          replace BK_gt := mvB BK_gt hB
          have hc_gt_0 : w67_.cell? ⟨gt, 0, none⟩ = some (.slice A_t l2.length c_t) := (blk_cell BK_gt.out 0).trans rfl
          clear HR_w1
          clear HR_w2
          replace HV_t := Aside0.mk (Kd.V_below HV_t.out hB)
          have HV_c := Aside0.mk hVC
          clear hVC hB
          refine hK.out _ _ ⟨hc_gh_0, hc_gs_0, hc_gs_1, hc_gs_2, hc_gs_3, hc_gt_0⟩ (fun hHeld => ?_)
          clear hK K
          refine nm ?_
          refine on1 12 none (bb 15 8191) rfl rfl HT_ (fun K hK => ?_)
          refine skip_ (w1 := ?_) (by rfl) rfl ?_ ?_
          rotate_left
          · go_simp
            rfl
          have nHB : Aside0 (Below w.heap.size w (w67_.setCell ⟨gr, 0, none⟩ (.slice A_t l2.length c_t))) := ⟨below_set HB.out GE_gr.out⟩
          have nBK : Aside0 ((w67_.setCell ⟨gr, 0, none⟩ (.slice A_t l2.length c_t)).heap[gr]? = some (.cells #[.slice A_t l2.length c_t] 40 (0, 0))) := ⟨blk_put (cs := #[.slice none 0 0]) BK_gr.out 0 (.slice A_t l2.length c_t) rfl⟩
          have nB_gh : Aside0 ((w67_.setCell ⟨gr, 0, none⟩ (.slice A_t l2.length c_t)).heap[gh]? = some (.cells #[.slice A_l l.length c_l] 40 (0, 0))) := ⟨blk_far BK_gh.out NB_gh_gr.out _⟩
          have nB_gs : Aside0 ((w67_.setCell ⟨gr, 0, none⟩ (.slice A_t l2.length c_t)).heap[gs]? = some (.cells #[.int .i64 s.f0, .int .u32 s.f1, .bool s.f2.f0, .slice A_s s.f2.f1.length c_s] 42 (0, 0))) := ⟨blk_far BK_gs.out NB_gs_gr.out _⟩
          have nB_gt : Aside0 ((w67_.setCell ⟨gr, 0, none⟩ (.slice A_t l2.length c_t)).heap[gt]? = some (.cells #[.slice A_t l2.length c_t] 40 (0, 0))) := ⟨blk_far BK_gt.out NB_gt_gr.out _⟩
          have nVt := Aside0.mk (Kd.V_mono (Kd.V_far (p := ⟨gr, 0, none⟩) HV_t.out (fun k hk e => by have h1 := LT_gr.out; have h3 : k = gr := e; have h4 := GE_gr.out; exact Or.elim hk (fun hk => by have := XP.out k hk; omega) (fun hk => by omega)) (.slice A_t l2.length c_t)) (fun k hk => by have h4 := HBW.out.size; exact Or.elim hk (fun hk => .inl hk) (fun hk => .inr (by omega)) : ∀ k, _ → (P k ∨ w.heap.size ≤ k)))
          clear HV_t
          have nVc := Aside0.mk (Kd.V_mono (Kd.V_far (p := ⟨gr, 0, none⟩) HV_c.out (fun k hk e => by have h3 : k = gr := e; have h4 := HSC.out; exact Or.elim hk (fun hk => hk.2 h3) (fun hk => by omega)) (.slice A_t l2.length c_t)) (fun k hk => by have h4 := HSD.out; exact Or.elim hk (fun hk => .inr hk.1) (fun hk => .inr (by omega)) : ∀ k, _ → (P k ∨ w.heap.size ≤ k)))
          clear HV_c
          clear hc_gh_0
          clear BK_gh
          clear hc_gs_0 hc_gs_1 hc_gs_2 hc_gs_3
          clear BK_gs
          clear hc_gr_0 hf_gr_0
          clear BK_gr
          clear hc_gt_0
          clear BK_gt
          clear HB
          generalize (w67_.setCell ⟨gr, 0, none⟩ (.slice A_t l2.length c_t)) = w68_ at nHB nBK nB_gh nB_gs nB_gt nVt nVc ⊢
          have HB := nHB
          have BK_gr := nBK
          have BK_gh := nB_gh
          have BK_gs := nB_gs
          have BK_gt := nB_gt
          have HV_t := nVt
          have HV_c := nVc
          clear nHB nBK nB_gh nB_gs nB_gt nVt nVc
          have hc_gh_0 : w68_.cell? ⟨gh, 0, none⟩ = some (.slice A_l l.length c_l) := (blk_cell BK_gh.out 0).trans rfl
          have hc_gs_0 := (cf4 BK_gs.out).1
          have hc_gs_1 := (cf4 BK_gs.out).2.1
          have hc_gs_2 := (cf4 BK_gs.out).2.2.1
          have hc_gs_3 := (cf4 BK_gs.out).2.2.2.1
          have hc_gt_0 : w68_.cell? ⟨gt, 0, none⟩ = some (.slice A_t l2.length c_t) := (blk_cell BK_gt.out 0).trans rfl
          refine hK.out _ _ ⟨hc_gh_0, hc_gs_0, hc_gs_1, hc_gs_2, hc_gs_3, hc_gt_0⟩ (fun hHeld => ?_)
          clear hK K
          refine pw 13 5 (bb 15 16383) rfl rfl HT_ ?_
          refine pw 14 6 (bb 15 32767) rfl rfl HT_ ?_
          refine done_ (done_of HT_.out (by kernel_rfl)) ?_
          go_wp2
          refine bodyPost_ret (results_ctt rfl _ _ gr 40 #[.slice A_t l2.length c_t] (0, 0) _ rfl BK_gr.out Try.underlying40 rfl (by kernel_rfl)) rfl ?_
          exact .inr (.inr ⟨HCLL.out, X32.out, ⟨_, _, rfl, HV_t.out, HV_c.out, HB.out⟩⟩)
        · have c73 : (32 : Int) < (l2.length : Int) := by omega
          have X32 := Aside0.mk h32
          clear h32
          go_wp2
          refine bodyPost_ret (results_ctt rfl _ _ gr 40 #[.slice A_l l.length c_l] (0, 0) _ rfl (blk_put (cs := #[.slice none 0 0]) BK_gr.out 0 (.slice A_l l.length c_l) rfl) Try.underlying40 rfl (by kernel_rfl)) rfl ?_
          exact .inr (.inl ⟨HCLL.out, (by have := X32.out; omega), ⟨_, _, rfl, Kd.V_mk HK_l.out (Kd.F_mono (Kd.F_below FL.out (below_set HB.out GE_gr.out)) (fun k hk => .inl hk)), Kd.V_nil _ _ _ _ _, below_set HB.out GE_gr.out⟩⟩)
      | true =>
        go_upto_region 19 with fail
        have HN2 := Aside0.mk (show Kd.N k42 42 _ w4_.heap.size (fun k => P k ∨ w4_.heap.size ≤ k) u8 l2 by have h := HN.out; rw [← Xh2.out]; unfold rputL; rw [if_pos HBI.out.symm]; exact h)
        clear HN HBI
        have HV_t := Aside0.mk (Kd.N_V (base' := 0) HN2.out)
        clear HN2
        obtain ⟨A_t, c_t, et_⟩ := Kd.V_slice HV_t.out
        subst et_
        have HC_t := Aside0.mk (Kd.V_reads' HV_t.out).2.2
        have HK_t := Aside0.mk (Kd.V_reads' HV_t.out).2.1
        by_cases h32 : l2.length ≤ 32
        · have c73 : ¬ (32 : Int) < (l2.length : Int) := by omega
          have HW1 := Aside0.mk (Xhw1.out h32)
          have HW2 := Aside0.mk (Xhw2.out h32)
          have HCH := Aside0.mk (Xhch.out h32)
          have X32 := Aside0.mk h32
          clear h32
          go_upto_region 22 with (first | ((with_reducible refine gate_dst (N := 12) rfl ?_); (try (refine gate_guard (by rfl) ?_; dsimp only)); refine bxn (cs := #[.slice none 0 0]) (t := 40) ?_; intro gt hg w61_ hbox hB0; have hG := Aside0.mk (show wr.heap.size ≤ gt from Nat.le_of_eq hg.symm); clear hg; have hBX := Aside0.mk hbox; have hB1 := Aside0.mk hB0; clear hB0; have hc_gt_0 : w61_.cell? ⟨gt, 0, none⟩ = some (.slice none 0 0) := (blk_cell hbox 0).trans rfl; have hf_gt_0 := blk_frozen hbox 0; clear hbox))
          have hB : Below wr.heap.size wr (w61_.setCell ⟨gt, 0, none⟩ (.slice A_t l2.length c_t)) := (below_set hB1.out hG.out)
          have hBN : (w61_.setCell ⟨gt, 0, none⟩ (.slice A_t l2.length c_t)).heap[gt]? = some (.cells #[.slice A_t l2.length c_t] 40 (0, 0)) := (blk_put (cs := #[.slice none 0 0]) hBX.out 0 (.slice A_t l2.length c_t) rfl)
          clear hBX hB1
          clear hc_gt_0 hf_gt_0
          generalize (w61_.setCell ⟨gt, 0, none⟩ (.slice A_t l2.length c_t)) = w62_ at hB hBN ⊢
          have NB_gt_gr := Aside0.mk (show gt ≠ gr from Nat.ne_of_gt (Nat.lt_of_lt_of_le (blk_lt (g := gr) (o := .cells #[.slice none 0 0] 40 (0, 0)) BK_gr.out) hG.out))
          replace HB := mvH HB hB
          clear hc_gh_0
          replace BK_gh := mvB BK_gh hB
          have hc_gh_0 : w62_.cell? ⟨gh, 0, none⟩ = some (.slice A_l l.length c_l) := (blk_cell BK_gh.out 0).trans rfl
          clear hc_gs_0 hc_gs_1 hc_gs_2 hc_gs_3
          replace BK_gs := mvB BK_gs hB
          have hc_gs_0 := (cf4 BK_gs.out).1
          have hc_gs_1 := (cf4 BK_gs.out).2.1
          have hc_gs_2 := (cf4 BK_gs.out).2.2.1
          have hc_gs_3 := (cf4 BK_gs.out).2.2.2.1
          clear hc_gr_0 hf_gr_0
          replace BK_gr := mvB BK_gr hB
          replace HC_t := mvC HC_t hB
          replace HV_t := Aside0.mk (Kd.V_below HV_t.out hB)
          have BK_gt := Aside0.mk hBN
          clear hG hBN hB
          have hc_gt_0 : w62_.cell? ⟨gt, 0, none⟩ = some (.slice A_t l2.length c_t) := (blk_cell BK_gt.out 0).trans rfl
          refine start_ (n := 15) (S := fun w' => w'.cell? ⟨gh, 0, none⟩ = some (.slice A_l l.length c_l) ∧ w'.cell? ⟨gs, 0, none⟩ = some (.int .i64 s.f0) ∧ w'.cell? ⟨gs, 1, none⟩ = some (.int .u32 s.f1) ∧ w'.cell? ⟨gs, 2, none⟩ = some (.bool s.f2.f0) ∧ w'.cell? ⟨gs, 3, none⟩ = some (.slice A_s s.f2.f1.length c_s) ∧ w'.cell? ⟨gt, 0, none⟩ = some (.slice A_t l2.length c_t)) (ds := []) #[false, false, false, false, false, false, false, false, false, false, false, false, false, false, false] (by kernel_rfl) rfl rfl ⟨hc_gh_0, hc_gs_0, hc_gs_1, hc_gs_2, hc_gs_3, hc_gt_0⟩ (fun hHeld => ?_); refine with_tabW rp_t22 rp_b22 (fun HT_ HW_ => ?_)
          have hB : Below w62_.heap.size w62_ w62_.drew := below_drew (Below.refl _ _)
          generalize w62_.drew = w63_ at hB hHeld ⊢
          replace HB := mvH HB hB
          clear hc_gh_0
          replace BK_gh := mvB BK_gh hB
          clear hc_gs_0 hc_gs_1 hc_gs_2 hc_gs_3
          replace BK_gs := mvB BK_gs hB
          replace BK_gr := mvB BK_gr hB
          clear hc_gt_0
          replace BK_gt := mvB BK_gt hB
          replace HC_t := mvC HC_t hB
          replace HV_t := Aside0.mk (Kd.V_below HV_t.out hB)
          clear hB
          refine tk 0 77 (bb 15 1) rfl rfl HT_ HW_ hHeld ?_
          refine pw 1 78 (bb 15 3) rfl rfl HT_ ?_
          refine tk 2 79 (bb 15 7) rfl rfl HT_ HW_ hHeld ?_
          refine tk 3 80 (bb 15 15) rfl rfl HT_ HW_ hHeld ?_
          refine pw 4 81 (bb 15 31) rfl rfl HT_ ?_
          refine tk 5 82 (bb 15 63) rfl rfl HT_ HW_ hHeld ?_
          refine tk 7 84 (bb 15 191) rfl rfl HT_ HW_ hHeld ?_
          refine pw 8 85 (bb 15 447) rfl rfl HT_ ?_
          refine tk 9 86 (bb 15 959) rfl rfl HT_ HW_ hHeld ?_
          refine on1 6 (some 83) (bb 15 1023) rfl rfl HT_ (fun K hK => ?_)
          refine gfn Try.func36 #[.agg #[.slice A_l l.length c_l], .int .u32 s.f1] ?_
          with_reducible refine (rwants_w HW1.out _ _ _ (Kd.C_below HC_l.out HB.out) HK_l.out).mono ?_
          rintro e w64_ ⟨v_w1, rfl, hR, hB⟩
          obtain ⟨A_w1, c_w1, rfl⟩ := Kd.R_slice hR
          refine ⟨_, rfl, ?_⟩
          have hsz := HB.out.size
          replace HB := mvH HB hB
          replace BK_gh := mvB BK_gh hB
          have hc_gh_0 : w64_.cell? ⟨gh, 0, none⟩ = some (.slice A_l l.length c_l) := (blk_cell BK_gh.out 0).trans rfl
          replace BK_gs := mvB BK_gs hB
          have hc_gs_0 := (cf4 BK_gs.out).1
          have hc_gs_1 := (cf4 BK_gs.out).2.1
          have hc_gs_2 := (cf4 BK_gs.out).2.2.1
          have hc_gs_3 := (cf4 BK_gs.out).2.2.2.1
          replace BK_gr := mvB BK_gr hB
          replace BK_gt := mvB BK_gt hB
          have hc_gt_0 : w64_.cell? ⟨gt, 0, none⟩ = some (.slice A_t l2.length c_t) := (blk_cell BK_gt.out 0).trans rfl
          replace HC_t := mvC HC_t hB
          replace HV_t := Aside0.mk (Kd.V_below HV_t.out hB)
          have HR_w1 := Aside0.mk (Kd.R_mono (Kd.R_lower hR hsz) (fun _ _ => trivial : ∀ k, _ → (fun _ => True) k))
          clear hR
          clear hB hsz
          refine hK.out _ _ ⟨hc_gh_0, hc_gs_0, hc_gs_1, hc_gs_2, hc_gs_3, hc_gt_0⟩ (fun hHeld => ?_)
          clear hK K
          refine nm ?_
          refine on1 10 (some 87) (bb 15 2047) rfl rfl HT_ (fun K hK => ?_)
          refine gfn Try.func36 #[.agg #[.slice A_t l2.length c_t], .int .u32 s.f1] ?_
          with_reducible refine (rwants_w HW2.out _ _ _ HC_t.out HK_t.out).mono ?_
          rintro e w65_ ⟨v_w2, rfl, hR, hB⟩
          obtain ⟨A_w2, c_w2, rfl⟩ := Kd.R_slice hR
          refine ⟨_, rfl, ?_⟩
          have hsz := HB.out.size
          replace HB := mvH HB hB
          clear hc_gh_0
          replace BK_gh := mvB BK_gh hB
          have hc_gh_0 : w65_.cell? ⟨gh, 0, none⟩ = some (.slice A_l l.length c_l) := (blk_cell BK_gh.out 0).trans rfl
          clear hc_gs_0 hc_gs_1 hc_gs_2 hc_gs_3
          replace BK_gs := mvB BK_gs hB
          have hc_gs_0 := (cf4 BK_gs.out).1
          have hc_gs_1 := (cf4 BK_gs.out).2.1
          have hc_gs_2 := (cf4 BK_gs.out).2.2.1
          have hc_gs_3 := (cf4 BK_gs.out).2.2.2.1
          replace BK_gr := mvB BK_gr hB
          clear hc_gt_0
          replace BK_gt := mvB BK_gt hB
          have hc_gt_0 : w65_.cell? ⟨gt, 0, none⟩ = some (.slice A_t l2.length c_t) := (blk_cell BK_gt.out 0).trans rfl
          clear HC_t
          replace HR_w1 := mvR HR_w1 hB
          replace HV_t := Aside0.mk (Kd.V_below HV_t.out hB)
          have HR_w2 := Aside0.mk (Kd.R_mono (Kd.R_lower hR hsz) (fun _ _ => trivial : ∀ k, _ → (fun _ => True) k))
          clear hR
          clear hB hsz
          refine hK.out _ _ ⟨hc_gh_0, hc_gs_0, hc_gs_1, hc_gs_2, hc_gs_3, hc_gt_0⟩ (fun hHeld => ?_)
          clear hK K
          refine nm ?_
          refine on1 11 (some 88) (bb 15 4095) rfl rfl HT_ (fun K hK => ?_)
          refine gfn Try.func23 #[.int .u32 s.f1, .agg #[.bool e1, .slice A_w1 s1.length c_w1], .agg #[.bool e2, .slice A_w2 s2.length c_w2]] ?_
          with_reducible refine (rchange_w HCH.out A_w1 c_w1 A_w2 c_w2 (fun k => w.heap.size ≤ k ∧ k ≠ gr) w65_ (Kd.R_reads' HR_w1.out).2.2 (Kd.R_reads' HR_w1.out).2.1 (Kd.V_mono (Kd.R_V (e := 23) (base' := 0) (Kd.R_types (Kd.R_bound HR_w2.out) BK_gr.out (by decide))) (fun k hk => ⟨hk.1.2.1, hk.2⟩))).mono ?_
          rintro e w66_ ⟨v_c, rfl, hVC, hB⟩
          refine ⟨_, rfl, ?_⟩
          have HSC := Aside0.mk (show gr < w65_.heap.size from blk_lt (g := gr) (o := .cells #[.slice none 0 0] 40 (0, 0)) BK_gr.out)
          have HSD := Aside0.mk (show w.heap.size ≤ w65_.heap.size from HB.out.size)
          replace HB := mvH HB hB
          clear hc_gh_0
          replace BK_gh := mvB BK_gh hB
          have hc_gh_0 : w66_.cell? ⟨gh, 0, none⟩ = some (.slice A_l l.length c_l) := (blk_cell BK_gh.out 0).trans rfl
          clear hc_gs_0 hc_gs_1 hc_gs_2 hc_gs_3
          replace BK_gs := mvB BK_gs hB
          have hc_gs_0 := (cf4 BK_gs.out).1
          have hc_gs_1 := (cf4 BK_gs.out).2.1
          have hc_gs_2 := (cf4 BK_gs.out).2.2.1
          have hc_gs_3 := (cf4 BK_gs.out).2.2.2.1
          replace BK_gr := mvB BK_gr hB
          obtain ⟨hc_gr_0, hf_gr_0⟩ := cf1 BK_gr.out
          clear hc_gt_0
          replace BK_gt := mvB BK_gt hB
          have hc_gt_0 : w66_.cell? ⟨gt, 0, none⟩ = some (.slice A_t l2.length c_t) := (blk_cell BK_gt.out 0).trans rfl
          clear HR_w1
          clear HR_w2
          replace HV_t := Aside0.mk (Kd.V_below HV_t.out hB)
          have HV_c := Aside0.mk hVC
          clear hVC hB
          refine hK.out _ _ ⟨hc_gh_0, hc_gs_0, hc_gs_1, hc_gs_2, hc_gs_3, hc_gt_0⟩ (fun hHeld => ?_)
          clear hK K
          refine nm ?_
          refine on1 12 none (bb 15 8191) rfl rfl HT_ (fun K hK => ?_)
          refine skip_ (w1 := ?_) (by rfl) rfl ?_ ?_
          rotate_left
          · go_simp
            rfl
          have nHB : Aside0 (Below w.heap.size w (w66_.setCell ⟨gr, 0, none⟩ (.slice A_t l2.length c_t))) := ⟨below_set HB.out GE_gr.out⟩
          have nBK : Aside0 ((w66_.setCell ⟨gr, 0, none⟩ (.slice A_t l2.length c_t)).heap[gr]? = some (.cells #[.slice A_t l2.length c_t] 40 (0, 0))) := ⟨blk_put (cs := #[.slice none 0 0]) BK_gr.out 0 (.slice A_t l2.length c_t) rfl⟩
          have nB_gh : Aside0 ((w66_.setCell ⟨gr, 0, none⟩ (.slice A_t l2.length c_t)).heap[gh]? = some (.cells #[.slice A_l l.length c_l] 40 (0, 0))) := ⟨blk_far BK_gh.out NB_gh_gr.out _⟩
          have nB_gs : Aside0 ((w66_.setCell ⟨gr, 0, none⟩ (.slice A_t l2.length c_t)).heap[gs]? = some (.cells #[.int .i64 s.f0, .int .u32 s.f1, .bool s.f2.f0, .slice A_s s.f2.f1.length c_s] 42 (0, 0))) := ⟨blk_far BK_gs.out NB_gs_gr.out _⟩
          have nB_gt : Aside0 ((w66_.setCell ⟨gr, 0, none⟩ (.slice A_t l2.length c_t)).heap[gt]? = some (.cells #[.slice A_t l2.length c_t] 40 (0, 0))) := ⟨blk_far BK_gt.out NB_gt_gr.out _⟩
          have nVt := Aside0.mk (Kd.V_mono (Kd.V_far (p := ⟨gr, 0, none⟩) HV_t.out (fun k hk e => by have h1 := LT_gr.out; have h3 : k = gr := e; have h4 := GE_gr.out; exact Or.elim hk (fun hk => by have := XP.out k hk; omega) (fun hk => by omega)) (.slice A_t l2.length c_t)) (fun k hk => by have h4 := HBW.out.size; exact Or.elim hk (fun hk => .inl hk) (fun hk => .inr (by omega)) : ∀ k, _ → (P k ∨ w.heap.size ≤ k)))
          clear HV_t
          have nVc := Aside0.mk (Kd.V_mono (Kd.V_far (p := ⟨gr, 0, none⟩) HV_c.out (fun k hk e => by have h3 : k = gr := e; have h4 := HSC.out; exact Or.elim hk (fun hk => hk.2 h3) (fun hk => by omega)) (.slice A_t l2.length c_t)) (fun k hk => by have h4 := HSD.out; exact Or.elim hk (fun hk => .inr hk.1) (fun hk => .inr (by omega)) : ∀ k, _ → (P k ∨ w.heap.size ≤ k)))
          clear HV_c
          clear hc_gh_0
          clear BK_gh
          clear hc_gs_0 hc_gs_1 hc_gs_2 hc_gs_3
          clear BK_gs
          clear hc_gr_0 hf_gr_0
          clear BK_gr
          clear hc_gt_0
          clear BK_gt
          clear HB
          generalize (w66_.setCell ⟨gr, 0, none⟩ (.slice A_t l2.length c_t)) = w67_ at nHB nBK nB_gh nB_gs nB_gt nVt nVc ⊢
          have HB := nHB
          have BK_gr := nBK
          have BK_gh := nB_gh
          have BK_gs := nB_gs
          have BK_gt := nB_gt
          have HV_t := nVt
          have HV_c := nVc
          clear nHB nBK nB_gh nB_gs nB_gt nVt nVc
          have hc_gh_0 : w67_.cell? ⟨gh, 0, none⟩ = some (.slice A_l l.length c_l) := (blk_cell BK_gh.out 0).trans rfl
          have hc_gs_0 := (cf4 BK_gs.out).1
          have hc_gs_1 := (cf4 BK_gs.out).2.1
          have hc_gs_2 := (cf4 BK_gs.out).2.2.1
          have hc_gs_3 := (cf4 BK_gs.out).2.2.2.1
          have hc_gt_0 : w67_.cell? ⟨gt, 0, none⟩ = some (.slice A_t l2.length c_t) := (blk_cell BK_gt.out 0).trans rfl
          refine hK.out _ _ ⟨hc_gh_0, hc_gs_0, hc_gs_1, hc_gs_2, hc_gs_3, hc_gt_0⟩ (fun hHeld => ?_)
          clear hK K
          refine pw 13 5 (bb 15 16383) rfl rfl HT_ ?_
          refine pw 14 6 (bb 15 32767) rfl rfl HT_ ?_
          refine done_ (done_of HT_.out (by kernel_rfl)) ?_
          go_wp2
          refine bodyPost_ret (results_ctt rfl _ _ gr 40 #[.slice A_t l2.length c_t] (0, 0) _ rfl BK_gr.out Try.underlying40 rfl (by kernel_rfl)) rfl ?_
          exact .inr (.inr ⟨HCLL.out, X32.out, ⟨_, _, rfl, HV_t.out, HV_c.out, HB.out⟩⟩)
        · have c73 : (32 : Int) < (l2.length : Int) := by omega
          have X32 := Aside0.mk h32
          clear h32
          go_wp2
          refine bodyPost_ret (results_ctt rfl _ _ gr 40 #[.slice A_l l.length c_l] (0, 0) _ rfl (blk_put (cs := #[.slice none 0 0]) BK_gr.out 0 (.slice A_l l.length c_l) rfl) Try.underlying40 rfl (by kernel_rfl)) rfl ?_
          exact .inr (.inl ⟨HCLL.out, (by have := X32.out; omega), ⟨_, _, rfl, Kd.V_mk HK_l.out (Kd.F_mono (Kd.F_below FL.out (below_set HB.out GE_gr.out)) (fun k hk => .inl hk)), Kd.V_nil _ _ _ _ _, below_set HB.out GE_gr.out⟩⟩)
end Go.Proofs.Ytjncmiclpaodhaa
