/-
  host.Drop, walked way by way.
-/
import Derived.Test.YtjncmiclpaodhaaSoI
import Derived.Test.YtjncmiclpaodhaaHoU
import Derived.Test.YtjncmiclpaodhaaHoG
namespace Go.Proofs.Ytjncmiclpaodhaa
open Go.RowKit Go.Lib Go.Proofs.YtjncmiclpaodhaaW.PrintWords Go.Proofs.YtjncmiclpaodhaaW.PrintLast Go.Proofs.YtjncmiclpaodhaaW.PrintMore Go.Proofs.Ytjncmiclpaodhaa.PHo
set_option linter.unusedVariables false
set_option linter.unusedSimpArgs false
def drop_T4 : Bool × List (List Nat × List Nat) := (true, [([], []), ([], []), ([1], [1]), ([2], [2]), ([], []), ([], []), ([5], [5]), ([3, 4, 6, 3], [3, 4, 6]), ([7], [7]), ([], []), ([9], [9]), ([], []), ([10, 11], [10, 11]), ([12], [12]), ([13], [13]), ([0, 8, 14, 7], [0, 8, 14]), ([15], [15]), ([15], [15]), ([15], [15]), ([16, 15, 0, 1, 2, 3, 4, 5, 6, 7, 8, 9, 10, 11, 12, 13, 14, 15, 16, 17, 18], [16]), ([17, 19, 0, 1, 2, 3, 4, 5, 6, 7, 8, 9, 10, 11, 12, 13, 14, 15, 16, 17, 18, 19], [17]), ([18, 20, 0, 1, 2, 3, 4, 5, 6, 7, 8, 9, 10, 11, 12, 13, 14, 15, 16, 17, 18, 19, 20], [18])])
def drop_B4 : List Nat := [0, 0, 2, 6, 0, 0, 32, 126, 254, 0, 512, 0, 3584, 7680, 15872, 32767, 65535, 65535, 65535, 524287, 1048575, 2097151]
theorem drop_t4 : rtab .any (opsOf Try.f20 4) = drop_T4 := by kernel_rfl
theorem drop_b4 : waitsOk drop_T4.2 drop_B4 = true := by kernel_rfl
theorem delete_wj {j : Int} (B : Nat) (v : Value) (n i : Nat) (inner : List Value) (w : World) (hj : j = (i : Int) + 1) (hi : i < n) (ho : w.ownsRow B 42 4 v n inner) (h1 : ∀ u ∈ inner, u.oneCell' = true) :
    Calls Try.prog 37 #[v, .int .i64 i, .int .i64 j] w fun e w' => ∃ v', e = .returned v' ∧ w'.ownsRow B 42 4 v' (n - 1) (inner.take (i * 4) ++ inner.drop ((i + 1) * 4)) ∧ w.grownBy w' v.ownBlock := by
  subst hj
  exact delete_w B v n i inner w hi ho h1
set_option maxHeartbeats 8000000 in
set_option maxRecDepth 100000 in
theorem drop_none {l : List S42} {id : Int} {i : Nat} (hi : Stands l id i) (hn : l.length ≤ 1000000) (hb : at_ l i id = false) (A_l : Option Addr) (c_l : Nat) (w : World) (hl : Kd.C k42 w A_l l.length l) (hcl : l.length ≤ c_l) (P : Nat → Prop) (hP : ∀ k, P k → k < w.heap.size) (hlF : Kd.F k42 w P A_l l.length l) :
    Calls Try.prog 20 #[.agg #[.slice A_l l.length c_l], .int .i64 id] w (PutPost P w l [] 8) := by
  have hu40 := Try.underlying40
  have hu42 := Try.underlying42
  have HB := Aside0.mk (Below.refl w.heap.size w)
  have HC_l := Aside0.mk hl
  have HK_l := Aside0.mk hcl
  have FL := Aside0.mk hlF
  have Xhi := Aside0.mk hi
  have Xhn := Aside0.mk hn
  have Xhb := Aside0.mk hb
  clear hl hcl hi hn hP hlF hb
  go_enter Try.func20, Try.ntmps20
  go_wp2_with (first | ((with_reducible refine gate_dst (N := 2) rfl ?_); (try (refine gate_guard (by rfl) ?_; dsimp only)); refine bxn (cs := #[.slice A_l l.length c_l]) (t := 40) ?_; intro gh hg w1_ hbox hB; replace HB := mvH HB hB; have BK_gh := Aside0.mk hbox; clear hg hbox hB) | ((with_reducible refine gate_dst (N := 4) rfl ?_); (try (refine gate_guard (by rfl) ?_; dsimp only)); refine bxn (cs := #[.slice none 0 0]) (t := 40) ?_; intro gr hg w2_ hbox hB; have HBo := Aside0.mk HB.out; replace HB := mvH HB hB; replace BK_gh := mvB BK_gh hB; have hc_gh_0 : w2_.cell? ⟨gh, 0, none⟩ = some (.slice A_l l.length c_l) := (blk_cell BK_gh.out 0).trans rfl; have BK_gr := Aside0.mk hbox; have GE_gr := Aside0.mk (show w.heap.size ≤ gr by rw [hg]; exact HBo.out.size); clear hg hbox hB; clear HBo) | (go_at_call 29; with_reducible refine (placeb_w Xhi.out Xhb.out Xhn.out _ _ _ (Kd.C_below HC_l.out HB.out) HK_l.out).mono ?_; rintro e w3_ ⟨rfl, hB⟩; replace HB := mvH HB hB; clear hc_gh_0; replace BK_gh := mvB BK_gh hB; have hc_gh_0 : w3_.cell? ⟨gh, 0, none⟩ = some (.slice A_l l.length c_l) := (blk_cell BK_gh.out 0).trans rfl; replace BK_gr := mvB BK_gr hB; obtain ⟨hc_gr_0, hf_gr_0⟩ := cf1 BK_gr.out; clear hB))
  refine bodyPost_ret (results_ctt rfl _ _ gr 40 #[.slice A_l l.length c_l] (0, 0) _ rfl (blk_put (cs := #[.slice none 0 0]) BK_gr.out 0 (.slice A_l l.length c_l) rfl) Try.underlying40 rfl (by kernel_rfl)) rfl ?_
  exact ⟨_, _, rfl, Kd.V_mk HK_l.out (Kd.F_mono (Kd.F_below FL.out (below_set HB.out GE_gr.out)) (fun k hk => .inl hk)), Kd.V_nil _ _ _ _ _, below_set HB.out GE_gr.out⟩
set_option maxHeartbeats 8000000 in
set_option maxRecDepth 100000 in
theorem drop_is {l : List S42} {id : Int} {i : Nat} (hi : Stands l id i) (hn : l.length ≤ 1000000) (hb : at_ l i id = true) {l2 : List S42} (h2 : l2 = l.take i ++ l.drop (i + 1)) {rs : List S36} {k : Nat} (hch : host_changed.f k l l2 (rd_T42 l i).f1 = some (l2, rs, 0)) (A_l : Option Addr) (c_l : Nat) (w : World) (hl : Kd.C k42 w A_l l.length l) (hcl : l.length ≤ c_l) (P : Nat → Prop) (hP : ∀ k, P k → k < w.heap.size) (hlF : Kd.F k42 w P A_l l.length l) :
    Calls Try.prog 20 #[.agg #[.slice A_l l.length c_l], .int .i64 id] w (PutPost P w l2 rs 0) := by
  have hu40 := Try.underlying40
  have hu42 := Try.underlying42
  have hil : i < l.length := by unfold at_ at hb; simp only [Bool.and_eq_true, decide_eq_true_eq] at hb; exact hb.1
  obtain ⟨ad, A3, c3, he, hx0, hx1, hx2, hx3, _, _⟩ := at_T42 hl (i : Int) (by omega) (by omega)
  subst he
  rw [Int.toNat_natCast] at hx0 hx1 hx2 hx3
  have EX1 := Aside0.mk hx1
  clear hx0 hx1 hx2 hx3
  have HIL := Aside0.mk hil
  clear hil
  obtain ⟨gx, hgx⟩ : ∃ gx, gx = (rd_T42 l i).f1 := ⟨_, rfl⟩
  rw [← hgx] at hch EX1
  clear hgx
  have HB := Aside0.mk (Below.refl w.heap.size w)
  have HC_l := Aside0.mk hl
  have HK_l := Aside0.mk hcl
  have XP := Aside0.mk hP
  have FL := Aside0.mk hlF
  have XI1 := Aside0.mk hi.1
  have Xhi := Aside0.mk hi
  have Xhn := Aside0.mk hn
  have Xhb := Aside0.mk hb
  have Xh2 := Aside0.mk h2
  have Xhch := Aside0.mk hch
  clear hl hcl hi hn hP hlF hb h2 hch
  go_enter Try.func20, Try.ntmps20
  go_upto_region 4 with (first | ((with_reducible refine gate_dst (N := 2) rfl ?_); (try (refine gate_guard (by rfl) ?_; dsimp only)); refine bxn (cs := #[.slice (some ad) l.length c_l]) (t := 40) ?_; intro gh hg w1_ hbox hB; replace HB := mvH HB hB; have BK_gh := Aside0.mk hbox; clear hg hbox hB) | ((with_reducible refine gate_dst (N := 4) rfl ?_); (try (refine gate_guard (by rfl) ?_; dsimp only)); refine bxn (cs := #[.slice none 0 0]) (t := 40) ?_; intro gr hg w2_ hbox hB; have HBo := Aside0.mk HB.out; have BK0_gh := Aside0.mk BK_gh.out; replace HB := mvH HB hB; replace BK_gh := mvB BK_gh hB; have hc_gh_0 : w2_.cell? ⟨gh, 0, none⟩ = some (.slice (some ad) l.length c_l) := (blk_cell BK_gh.out 0).trans rfl; have BK_gr := Aside0.mk hbox; have GE_gr := Aside0.mk (show w.heap.size ≤ gr by rw [hg]; exact HBo.out.size); have NB_gr_gh := Aside0.mk (show gr ≠ gh by rw [hg]; exact Nat.ne_of_gt (blk_lt (g := gh) (o := .cells #[.slice (some ad) l.length c_l] 40 (0, 0)) BK0_gh.out)); have NB_gh_gr := Aside0.mk (Ne.symm NB_gr_gh.out); clear BK0_gh; clear hg hbox hB; clear HBo) | (go_at_call 29; with_reducible refine (placeb_w Xhi.out Xhb.out Xhn.out _ _ _ (Kd.C_below HC_l.out HB.out) HK_l.out).mono ?_; rintro e w3_ ⟨rfl, hB⟩; replace HB := mvH HB hB; clear hc_gh_0; replace BK_gh := mvB BK_gh hB; have hc_gh_0 : w3_.cell? ⟨gh, 0, none⟩ = some (.slice (some ad) l.length c_l) := (blk_cell BK_gh.out 0).trans rfl; replace BK_gr := mvB BK_gr hB; clear hB))
  have HLEN := Aside0.mk (show l2.length = l.length - 1 by rw [Xh2.out]; have := HIL.out; simp only [List.length_append, List.length_take, List.length_drop]; omega)
  have p1 : (0 : Int) ≤ (i : Int) := by omega
  have p2 : (i : Int) < (l.length : Int) := by have := HIL.out; omega
  replace p1 := eq_true p1
  replace p2 := eq_true p2
  have hw1 : wrap64 ((i : Int) + 1) = (i : Int) + 1 := by have h1 := HIL.out; have h2 := Xhn.out; unfold wrap64; omega
  refine start_ (n := 22) (S := fun w' => w'.cell? ⟨gh, 0, none⟩ = some (.slice (some ad) l.length c_l) ∧ w'.cell? ⟨(ad.add (i * 4)).block, (ad.add (i * 4)).off + 1, none⟩ = some (.int .u32 gx)) (ds := []) #[false, false, false, false, false, false, false, false, false, false, false, false, false, false, false, false, false, false, false, false, false, false] (by kernel_rfl) rfl rfl ⟨hc_gh_0, ((HB.out.cell (World.block_lt_of_cell? w _ EX1.out)).trans EX1.out)⟩ (fun hHeld => ?_); refine with_tabW drop_t4 drop_b4 (fun HT_ HW_ => ?_)
  have hB : Below w3_.heap.size w3_ w3_.drew := below_drew (Below.refl _ _)
  generalize w3_.drew = w4_ at hB hHeld ⊢
  replace HB := mvH HB hB
  clear hc_gh_0
  replace BK_gh := mvB BK_gh hB
  replace BK_gr := mvB BK_gr hB
  clear hB
  refine tk 0 18 (bb 22 1) rfl rfl HT_ HW_ hHeld ?_
  refine pw 1 19 (bb 22 3) rfl rfl HT_ ?_
  refine tk 2 20 (bb 22 7) rfl rfl HT_ HW_ hHeld ?_
  refine pw 4 22 (bb 22 23) rfl rfl HT_ ?_
  refine pw 5 23 (bb 22 55) rfl rfl HT_ ?_
  refine pw 6 24 (bb 22 119) rfl rfl HT_ ?_
  refine pw 9 27 (bb 22 631) rfl rfl HT_ ?_
  refine tk 10 28 (bb 22 1655) rfl rfl HT_ HW_ hHeld ?_
  refine pw 11 29 (bb 22 3703) rfl rfl HT_ ?_
  refine pw 12 30 (bb 22 7799) rfl rfl HT_ ?_
  refine pw 13 31 (bb 22 15991) rfl rfl HT_ ?_
  refine tk 14 32 (bb 22 32375) rfl rfl HT_ HW_ hHeld ?_
  refine on1 3 (some 21) (bb 22 32383) rfl rfl HT_ (fun K hK => ?_)
  refine gfn Try.func31 #[.slice (some ad) l.length c_l] ?_
  refine (clone_w (R := Kd.FK k42 w4_ P) (fun p c hp => (k42_FKlen hp).2) (some ad) c_l l _ Xhn.out (Kd.F_rows (Kd.F_below FL.out HB.out))).mono ?_
  rintro e w5_ ⟨v_m, rfl, inner, hO, hR, h1, hg⟩
  refine ⟨_, rfl, ?_⟩
  have LT_gh0 := blk_lt (g := gh) (o := .cells #[.slice (some ad) l.length c_l] 40 (0, 0)) BK_gh.out
  have LT_gr0 := blk_lt (g := gr) (o := .cells #[.slice none 0 0] 40 (0, 0)) BK_gr.out
  have hB := (Below.refl w4_.heap.size w4_).grown hg (Nat.le_refl _) (fun k hk => by cases hk)
  have HSW := HB.out.size
  replace HB := mvH HB hB
  replace BK_gh := mvB BK_gh hB
  have hc_gh_0 : w5_.cell? ⟨gh, 0, none⟩ = some (.slice (some ad) l.length c_l) := (blk_cell BK_gh.out 0).trans rfl
  replace BK_gr := mvB BK_gr hB
  have HRI := Aside0.mk (hR.imp_ (fun _ _ hp => Kd.FK_below hp hB))
  obtain ⟨nn, hnn⟩ : ∃ n, n = w4_.heap.size := ⟨_, rfl⟩
  have HNS := Aside0.mk (show nn ≤ w5_.heap.size by rw [hnn]; exact hB.size)
  rw [← hnn] at hO LT_gh0 LT_gr0 HSW
  have HO := Aside0.mk hO
  have H1 := Aside0.mk h1
  have LT_gh := Aside0.mk LT_gh0
  have LT_gr := Aside0.mk LT_gr0
  have HNN := Aside0.mk HSW
  clear hO hR h1 hg hB hnn LT_gh0 LT_gr0 HSW
  refine hK.out _ _ ⟨hc_gh_0, ((HB.out.cell (World.block_lt_of_cell? w _ EX1.out)).trans EX1.out)⟩ (fun hHeld => ?_)
  clear hK K
  refine nm ?_
  refine on1 7 (some 25) (bb 22 32511) rfl rfl HT_ (fun K hK => ?_)
  refine gfn Try.func37 #[v_m, .int .i64 i, .int .i64 (wrap64 ((i : Int) + 1))] ?_
  refine (delete_wj nn v_m l.length i inner w5_ hw1 HIL.out HO.out H1.out).mono ?_
  rintro e w6_ ⟨v_n, rfl, hO2, hG⟩
  refine ⟨_, rfl, ?_⟩
  have hrow : ∀ k, v_m.ownBlock = some k → nn ≤ k := fun k hk => (HO.out.lt k hk).1
  have HNW := Aside0.mk (Nat.le_trans HNS.out hG.size)
  replace HB := Aside0.mk (HB.out.grown hG HB.out.size (fun k hk => Nat.le_trans HNN.out (hrow k hk)))
  clear hc_gh_0
  have nBK := Aside0.mk (blk_grown BK_gh.out hG (fun e => by have h1 := hrow _ e.symm; have h2 := LT_gh.out; omega))
  clear BK_gh
  have BK_gh := nBK
  clear nBK
  have hc_gh_0 : w6_.cell? ⟨gh, 0, none⟩ = some (.slice (some ad) l.length c_l) := (blk_cell BK_gh.out 0).trans rfl
  have nBK := Aside0.mk (blk_grown BK_gr.out hG (fun e => by have h1 := hrow _ e.symm; have h2 := LT_gr.out; omega))
  clear BK_gr
  have BK_gr := nBK
  clear nBK
  have HRN := Aside0.mk (HRI.out.imp_ (fun _ _ hp => Kd.FK_step hp (fun k hk hlt => hG.block k hlt (fun e => by have h1 := hrow k e.symm; have h2 := HNN.out; have h3 := XP.out k hk; omega))))
  clear HRI
  have HV := Aside0.mk (show Kd.V k42 42 w6_ 0 (fun k => P k ∨ nn ≤ k) v_n l2 from made_V (inner := inner.take (i * 4) ++ inner.drop ((i + 1) * 4)) (fun k hk => Nat.lt_of_lt_of_le (XP.out k hk) HNN.out) (HLEN.out.symm ▸ hO2) (by rw [Xh2.out]; exact Kd.reps_append (Kd.reps_take HRN.out XI1.out) (Kd.reps_drop HRN.out)))
  clear hO2 hG hrow HO HRN
  obtain ⟨A_n, c_n, en_, hcall⟩ := changed_w Xhch.out (some ad) c_l _ _ (Kd.C_below HC_l.out HB.out) HK_l.out HV.out
  subst en_
  have XCALL := Aside0.mk hcall
  clear hcall
  refine hK.out _ _ ⟨hc_gh_0, ((HB.out.cell (World.block_lt_of_cell? w _ EX1.out)).trans EX1.out)⟩ (fun hHeld => ?_)
  clear hK K
  refine nm ?_
  refine pw 8 26 (bb 22 32767) rfl rfl HT_ ?_
  refine on1 15 (some 33) (bb 22 65535) rfl rfl HT_ (fun K hK => ?_)
  refine gfn Try.func33 #[.agg #[.slice (some ad) l.length c_l], .agg #[.slice A_n l2.length c_n], .int .u32 gx] ?_
  with_reducible refine XCALL.out.mono ?_
  rintro e w7_ ⟨A_0, c_0, A_1, c_1, rfl, hV0, hV1, hB⟩
  refine ⟨_, rfl, ?_⟩
  replace HB := mvH HB hB
  clear hc_gh_0
  replace BK_gh := mvB BK_gh hB
  have hc_gh_0 : w7_.cell? ⟨gh, 0, none⟩ = some (.slice (some ad) l.length c_l) := (blk_cell BK_gh.out 0).trans rfl
  replace BK_gr := mvB BK_gr hB
  obtain ⟨hc_gr_0, hf_gr_0⟩ := cf1 BK_gr.out
  have HV_0 := Aside0.mk hV0
  have HV_1 := Aside0.mk hV1
  clear hV0 hV1 hB XCALL
  refine hK.out _ _ ⟨hc_gh_0, ((HB.out.cell (World.block_lt_of_cell? w _ EX1.out)).trans EX1.out)⟩ (fun hHeld => ?_)
  clear hK K
  refine nm ?_
  refine pw 16 34 (bb 22 131071) rfl rfl HT_ ?_
  refine pw 17 35 (bb 22 262143) rfl rfl HT_ ?_
  refine pw 18 36 (bb 22 524287) rfl rfl HT_ ?_
  refine on1 19 none (bb 22 1048575) rfl rfl HT_ (fun K hK => ?_)
  refine skip_ (w1 := ?_) (by rfl) rfl ?_ ?_
  rotate_left
  · go_simp
    rfl
  have nHB : Aside0 (Below w.heap.size w (w7_.setCell ⟨gr, 0, none⟩ (.slice A_0 l2.length c_0))) := ⟨below_set HB.out GE_gr.out⟩
  have nBK : Aside0 ((w7_.setCell ⟨gr, 0, none⟩ (.slice A_0 l2.length c_0)).heap[gr]? = some (.cells #[.slice A_0 l2.length c_0] 40 (0, 0))) := ⟨blk_put (cs := #[.slice none 0 0]) BK_gr.out 0 (.slice A_0 l2.length c_0) rfl⟩
  have nB_gh : Aside0 ((w7_.setCell ⟨gr, 0, none⟩ (.slice A_0 l2.length c_0)).heap[gh]? = some (.cells #[.slice (some ad) l.length c_l] 40 (0, 0))) := ⟨blk_far BK_gh.out NB_gh_gr.out _⟩
  have nV0 := Aside0.mk (Kd.V_mono (Kd.V_far (p := ⟨gr, 0, none⟩) HV_0.out (fun k hk e => by have h1 := LT_gr.out; have h2 := GE_gr.out; have h3 : k = gr := e; have h4 := HNW.out; exact Or.elim hk (fun hk => Or.elim hk (fun hk => by have := XP.out k hk; omega) (fun hk => by omega)) (fun hk => by omega)) (.slice A_0 l2.length c_0)) (fun k hk => by have h2 := HNN.out; have h4 := HNW.out; exact Or.elim hk (fun hk => Or.elim hk (fun hk => .inl hk) (fun hk => .inr (by omega))) (fun hk => .inr (by omega)) : ∀ k, _ → (P k ∨ w.heap.size ≤ k)))
  clear HV_0
  have nV1 := Aside0.mk (Kd.V_mono (Kd.V_far (p := ⟨gr, 0, none⟩) HV_1.out (fun k hk e => by have h1 := LT_gr.out; have h2 := GE_gr.out; have h3 : k = gr := e; have h4 := HNW.out; exact Or.elim hk (fun hk => Or.elim hk (fun hk => by have := XP.out k hk; omega) (fun hk => by omega)) (fun hk => by omega)) (.slice A_0 l2.length c_0)) (fun k hk => by have h2 := HNN.out; have h4 := HNW.out; exact Or.elim hk (fun hk => Or.elim hk (fun hk => .inl hk) (fun hk => .inr (by omega))) (fun hk => .inr (by omega)) : ∀ k, _ → (P k ∨ w.heap.size ≤ k)))
  clear HV_1
  clear hc_gh_0
  clear BK_gh
  clear hc_gr_0 hf_gr_0
  clear BK_gr
  clear HB
  generalize (w7_.setCell ⟨gr, 0, none⟩ (.slice A_0 l2.length c_0)) = w8_ at nHB nBK nB_gh nV0 nV1 ⊢
  have HB := nHB
  have BK_gr := nBK
  have BK_gh := nB_gh
  have HV_0 := nV0
  have HV_1 := nV1
  clear nHB nBK nB_gh nV0 nV1
  have hc_gh_0 : w8_.cell? ⟨gh, 0, none⟩ = some (.slice (some ad) l.length c_l) := (blk_cell BK_gh.out 0).trans rfl
  refine hK.out _ _ ⟨hc_gh_0, ((HB.out.cell (World.block_lt_of_cell? w _ EX1.out)).trans EX1.out)⟩ (fun hHeld => ?_)
  clear hK K
  refine pw 20 5 (bb 22 2097151) rfl rfl HT_ ?_
  refine pw 21 6 (bb 22 4194303) rfl rfl HT_ ?_
  refine done_ (done_of HT_.out (by kernel_rfl)) ?_
  go_wp2
  refine bodyPost_ret (results_ctt rfl _ _ gr 40 #[.slice A_0 l2.length c_0] (0, 0) _ rfl BK_gr.out Try.underlying40 rfl (by kernel_rfl)) rfl ?_
  exact ⟨_, _, rfl, HV_0.out, HV_1.out, HB.out⟩
end Go.Proofs.Ytjncmiclpaodhaa
/-
  host.Drop of any socket: the walk and what it computes, joined; Put and Drop for a law's walk.
-/
namespace Go.Proofs.Ytjncmiclpaodhaa
open Go.RowKit Go.Lib Go.Proofs.YtjncmiclpaodhaaW.PrintWords Go.Proofs.Ytjncmiclpaodhaa.PHo
set_option linter.unusedVariables false
set_option linter.unusedSimpArgs false
/-- A socket dropped: those ahead, and those behind. -/
def delS (l : List S42) (id : Int) : List S42 := ltS l id ++ gtS l id
def dropE (l : List S42) (id : Int) : Int := if hasS l id = true then 0 else 8
def dropL (l : List S42) (id : Int) : List S42 := if hasS l id = true then delS l id else l
def dropG (l : List S42) (id : Int) : Int := (rd_T42 l (posS l id)).f1
def dropR (l : List S42) (id : Int) : List S36 := if hasS l id = true then chg (dropG l id) (wnt l (dropG l id)) (wnt (delS l id) (dropG l id)) else []
theorem del_has {l : List S42} (hs : Sorted l) {id : Int} (h : hasS l id = true) : l.take (posS l id) ++ l.drop (posS l id + 1) = delS l id := by
  obtain ⟨x, hx, he⟩ := hasS_iff.1 h
  have h2 := split_at hs hx
  rw [he] at h2
  have e1 : l.take (posS l id) = ltS l id := by
    have h3 := take_len (ltS l id) ([x] ++ gtS l id)
    rw [← List.append_assoc, ← h2] at h3
    exact h3
  have e2 : l.drop (posS l id + 1) = gtS l id := by
    have h3 := drop_len (ltS l id ++ [x]) (gtS l id)
    rw [← h2, List.length_append] at h3
    exact h3
  rw [e1, e2]; rfl
theorem mem_del {l : List S42} {id : Int} {x : S42} : x ∈ delS l id ↔ x ∈ l ∧ x.f0 ≠ id := by
  unfold delS ltS gtS
  simp only [List.mem_append, List.mem_filter, decide_eq_true_eq]
  constructor
  · rintro (⟨h1, h2⟩ | ⟨h1, h2⟩)
    · exact ⟨h1, by omega⟩
    · exact ⟨h1, by omega⟩
  · rintro ⟨h1, h2⟩
    rcases Int.lt_or_gt_of_ne h2 with h3 | h3
    · exact .inl ⟨h1, h3⟩
    · exact .inr ⟨h1, h3⟩
theorem del_sorted {l : List S42} (hs : Sorted l) (id : Int) : Sorted (delS l id) := by
  unfold Sorted delS
  rw [List.pairwise_append]
  refine ⟨hs.filter _, hs.filter _, fun a ha b hb => ?_⟩
  have h1 := of_decide_eq_true (List.mem_filter.1 ha).2
  have h2 := of_decide_eq_true (List.mem_filter.1 hb).2
  exact Int.lt_trans h1 h2
theorem del_len {l : List S42} (hs : Sorted l) (id : Int) : (delS l id).length ≤ l.length := by
  cases h : hasS l id
  · have h2 := split_no hs (id := id) (fun x hx e => by rw [hasS_iff.2 ⟨x, hx, e⟩] at h; cases h)
    have h3 : delS l id = l := h2.symm
    rw [h3]; exact Nat.le_refl _
  · rw [← del_has hs h, List.length_append, List.length_take, List.length_drop]
    omega
theorem del_ok {l : List S42} (hl : HOk l) (id : Int) : HOk (delS l id) :=
  ⟨Nat.le_trans (del_len hl.2.1 id) hl.1, del_sorted hl.2.1 id, fun x hx => hl.2.2 x (mem_del.1 hx).1⟩
theorem drop_ok {l : List S42} (hl : HOk l) (id : Int) : HOk (dropL l id) := by
  unfold dropL
  split
  · exact del_ok hl id
  · exact hl
theorem drop_calls {l : List S42} {id : Int} (hl : HOk l) (A_l : Option Addr) (c_l : Nat) (w : World) (hr : Kd.C k42 w A_l l.length l) (hc : l.length ≤ c_l) (P : Nat → Prop) (hP : ∀ k, P k → k < w.heap.size) (hlF : Kd.F k42 w P A_l l.length l) :
    Calls Try.prog 20 #[.agg #[.slice A_l l.length c_l], .int .i64 id] w (PutPost P w (dropL l id) (dropR l id) (dropE l id)) := by
  have hst : Stands l id (posS l id) := stands hl.2.1 id
  have hat : at_ l (posS l id) id = hasS l id := at_has hl.2.1 id
  have hn : l.length ≤ 1000000 := by have := hl.1; omega
  unfold dropL dropR dropE
  cases hh : hasS l id
  · rw [if_neg (by decide), if_neg (by decide), if_neg (by decide)]
    exact drop_none hst hn (hat.trans hh) A_l c_l w hr hc P hP hlF
  · rw [if_pos rfl, if_pos rfl, if_pos rfl]
    have hd := del_ok hl id
    exact drop_is hst hn (hat.trans hh) (del_has hl.2.1 hh).symm (k := 1000001) (changed_some hl.1 hl.fok hd.1 hd.fok (dropG l id) 1000001 (by omega)) A_l c_l w hr hc P hP hlF
end Go.Proofs.Ytjncmiclpaodhaa
