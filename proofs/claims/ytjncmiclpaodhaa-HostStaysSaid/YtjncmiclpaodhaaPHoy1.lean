/-
  host.Drop, walked way by way.
-/
import Derived.Test.YtjncmiclpaodhaaHoU
import Derived.Test.YtjncmiclpaodhaaSoI
import Derived.Test.YtjncmiclpaodhaaSoM
namespace Go.Proofs.Ytjncmiclpaodhaa
open Go.RowKit Go.Lib Go.Proofs.YtjncmiclpaodhaaW.PrintWords Go.Proofs.YtjncmiclpaodhaaW.PrintLast Go.Proofs.YtjncmiclpaodhaaW.PrintMore Go.Proofs.Ytjncmiclpaodhaa.PHo
set_option linter.unusedVariables false
set_option linter.unusedSimpArgs false
def drop_T4 : Bool × List (List Nat × List Nat) := (true, [([], []), ([], []), ([1], [1]), ([2], [2]), ([], []), ([], []), ([5], [5]), ([3, 4, 6, 3], [3, 4, 6]), ([7], [7]), ([], []), ([9], [9]), ([], []), ([10, 11], [10, 11]), ([12], [12]), ([13], [13]), ([0, 8, 14, 7], [0, 8, 14]), ([15], [15]), ([15], [15]), ([15], [15]), ([16, 15, 0, 1, 2, 3, 4, 5, 6, 7, 8, 9, 10, 11, 12, 13, 14, 15, 16, 17, 18], [16]), ([17, 19, 0, 1, 2, 3, 4, 5, 6, 7, 8, 9, 10, 11, 12, 13, 14, 15, 16, 17, 18, 19], [17]), ([18, 20, 0, 1, 2, 3, 4, 5, 6, 7, 8, 9, 10, 11, 12, 13, 14, 15, 16, 17, 18, 19, 20], [18])])
def drop_B4 : List Nat := [0, 0, 2, 6, 0, 0, 32, 126, 254, 0, 512, 0, 3584, 7680, 15872, 32767, 65535, 65535, 65535, 524287, 1048575, 2097151]
theorem drop_t4 : rtab .any (opsOf Try.f20 4) = drop_T4 := by kernel_rfl
theorem drop_b4 : waitsOk drop_T4.2 drop_B4 = true := by kernel_rfl
theorem delete_wj {j : Int} (B : Nat) (v : Value) (n i : Nat) (inner : List Value) (w : World) (hj : j = (i : Int) + 1) (hi : i < n) (ho : w.ownsRow B 42 4 v n inner) (h1 : ∀ u ∈ inner, u.oneCell' = true) :
    Calls Try.prog 37 #[v, .int .i64 i, .int .i64 j] w fun e w' => ∃ v', e = .returned v' ∧ w'.ownsRow B 42 4 v' (n - 1) (inner.take (i * 4) ++ inner.drop ((i + 1) * 4)) ∧ w.grownBy w' v.ownBlock := by
  subst hj
  exact delete_w B v n i inner w hi ho h1
set_option maxHeartbeats 8000000 in
set_option maxRecDepth 100000 in
theorem drop_none {l : List S42} {id : Int} {i : Nat} (hi : Stands l id i) (hn : l.length ≤ 1000000) (hb : at_ l i id = false) (A_l : Option Addr) (c_l : Nat) (w : World) (hl : Kd.C k42 w A_l l.length l) (hcl : l.length ≤ c_l) (P : Nat → Prop) (hP : ∀ k, P k → k < w.heap.size) (hlF : Kd.F k42 w P A_l l.length l) :
    Calls Try.prog 20 #[.agg #[.slice A_l l.length c_l], .int .i64 id] w (PutPost P w l [] 8) := by
  have hu40 := Try.underlying40
  have hu42 := Try.underlying42
  have HB := Aside0.mk (Below.refl w.heap.size w)
  have HC_l := Aside0.mk hl
  have HK_l := Aside0.mk hcl
  have XP := Aside0.mk hP
  have FL := Aside0.mk hlF
  have XI1 := Aside0.mk hi.1
  have Xhi := Aside0.mk hi
  have Xhn := Aside0.mk hn
  have Xhb := Aside0.mk hb
  clear hl hcl hi hn hP hlF hb
  go_enter Try.func20, Try.ntmps20
  go_wp2_with (first | ((with_reducible refine gate_dst (N := 2) rfl ?_); (try (refine gate_guard (by rfl) ?_; dsimp only)); refine box_event ?hg (N := 2) ?hd (cs := #[.slice A_l l.length c_l]) (t := 40) ?hr ?_; (case hd => rfl); (case hg => rfl); (case hr => first | (go_simp; done) | (go_simp; rfl)); intro gh hg w1_ hbox hB; have HBo := Aside0.mk HB.out; have nHB := Aside0.mk (HB.out.trans (hB.mono HB.out.size)); clear HB; have HB := nHB; clear nHB; have BK_gh := Aside0.mk hbox; have GE_gh := Aside0.mk (show w.heap.size ≤ gh by rw [hg]; exact HBo.out.size); clear hg hbox hB; have hc_gh_0 : w1_.cell? ⟨gh, 0, none⟩ = some (.slice A_l l.length c_l) := (blk_cell BK_gh.out 0).trans rfl; have hf_gh_0 := blk_frozen BK_gh.out 0; clear HBo) | ((with_reducible refine gate_dst (N := 4) rfl ?_); (try (refine gate_guard (by rfl) ?_; dsimp only)); refine box_event ?hg (N := 4) ?hd (cs := #[.slice none 0 0]) (t := 40) ?hr ?_; (case hd => rfl); (case hg => rfl); (case hr => first | (go_simp; done) | (go_simp; rfl)); intro gr hg w2_ hbox hB; have HBo := Aside0.mk HB.out; have BK0_gh := Aside0.mk BK_gh.out; have nHB := Aside0.mk (HB.out.trans (hB.mono HB.out.size)); clear HB; have HB := nHB; clear nHB; clear hc_gh_0 hf_gh_0; have nBK := Aside0.mk (blk_below (g := gh) (o := .cells #[.slice A_l l.length c_l] 40 (0, 0)) BK_gh.out hB); clear BK_gh; have BK_gh := nBK; clear nBK; have hc_gh_0 : w2_.cell? ⟨gh, 0, none⟩ = some (.slice A_l l.length c_l) := (blk_cell BK_gh.out 0).trans rfl; have hf_gh_0 := blk_frozen BK_gh.out 0; have BK_gr := Aside0.mk hbox; have GE_gr := Aside0.mk (show w.heap.size ≤ gr by rw [hg]; exact HBo.out.size); have NB_gr_gh := Aside0.mk (show gr ≠ gh by rw [hg]; exact Nat.ne_of_gt (blk_lt (g := gh) (o := .cells #[.slice A_l l.length c_l] 40 (0, 0)) BK0_gh.out)); have NB_gh_gr := Aside0.mk (Ne.symm NB_gr_gh.out); clear BK0_gh; clear hg hbox hB; have hc_gr_0 : w2_.cell? ⟨gr, 0, none⟩ = some (.slice none 0 0) := (blk_cell BK_gr.out 0).trans rfl; have hf_gr_0 := blk_frozen BK_gr.out 0; clear HBo) | (go_at_call 29; with_reducible refine (placeb_w Xhi.out Xhb.out Xhn.out _ _ _ (Kd.C_below HC_l.out HB.out) HK_l.out).mono ?_; rintro e w3_ ⟨rfl, hB⟩; have nHB := Aside0.mk (HB.out.trans (hB.mono HB.out.size)); clear HB; have HB := nHB; clear nHB; clear hc_gh_0 hf_gh_0; have nBK := Aside0.mk (blk_below (g := gh) (o := .cells #[.slice A_l l.length c_l] 40 (0, 0)) BK_gh.out hB); clear BK_gh; have BK_gh := nBK; clear nBK; have hc_gh_0 : w3_.cell? ⟨gh, 0, none⟩ = some (.slice A_l l.length c_l) := (blk_cell BK_gh.out 0).trans rfl; have hf_gh_0 := blk_frozen BK_gh.out 0; clear hc_gr_0 hf_gr_0; have nBK := Aside0.mk (blk_below (g := gr) (o := .cells #[.slice none 0 0] 40 (0, 0)) BK_gr.out hB); clear BK_gr; have BK_gr := nBK; clear nBK; have hc_gr_0 : w3_.cell? ⟨gr, 0, none⟩ = some (.slice none 0 0) := (blk_cell BK_gr.out 0).trans rfl; have hf_gr_0 := blk_frozen BK_gr.out 0; clear hB))
  refine bodyPost_ret (results_ctt rfl _ _ gr 40 #[.slice A_l l.length c_l] (0, 0) _ rfl (blk_put (cs := #[.slice none 0 0]) BK_gr.out 0 (.slice A_l l.length c_l) rfl) Try.underlying40 rfl (by kernel_rfl)) rfl ?_
  exact ⟨_, _, rfl, Kd.V_mk HK_l.out (Kd.F_mono (Kd.F_below FL.out (below_set HB.out GE_gr.out)) (fun k hk => .inl hk)), Kd.V_nil _ _ _ _ _, below_set HB.out GE_gr.out⟩
set_option maxHeartbeats 8000000 in
set_option maxRecDepth 100000 in
theorem drop_is {l : List S42} {id : Int} {i : Nat} (hi : Stands l id i) (hn : l.length ≤ 1000000) (hb : at_ l i id = true) {l2 : List S42} (h2 : l2 = l.take i ++ l.drop (i + 1)) {rs : List S36} {k : Nat} (hch : host_changed.f k l l2 (rd_T42 l i).f1 = some (l2, rs, 0)) (A_l : Option Addr) (c_l : Nat) (w : World) (hl : Kd.C k42 w A_l l.length l) (hcl : l.length ≤ c_l) (P : Nat → Prop) (hP : ∀ k, P k → k < w.heap.size) (hlF : Kd.F k42 w P A_l l.length l) :
    Calls Try.prog 20 #[.agg #[.slice A_l l.length c_l], .int .i64 id] w (PutPost P w l2 rs 0) := by
  have hu40 := Try.underlying40
  have hu42 := Try.underlying42
  have hil : i < l.length := by unfold at_ at hb; simp only [Bool.and_eq_true, decide_eq_true_eq] at hb; exact hb.1
  obtain ⟨ad, A3, c3, he, hx0, hx1, hx2, hx3, _, _⟩ := at_T42 hl (i : Int) (by omega) (by omega)
  subst he
  rw [Int.toNat_natCast] at hx0 hx1 hx2 hx3
  have EX1 := Aside0.mk hx1
  clear hx0 hx1 hx2 hx3
  have HIL := Aside0.mk hil
  clear hil
  obtain ⟨gx, hgx⟩ : ∃ gx, gx = (rd_T42 l i).f1 := ⟨_, rfl⟩
  rw [← hgx] at hch EX1
  clear hgx
  have HB := Aside0.mk (Below.refl w.heap.size w)
  have HC_l := Aside0.mk hl
  have HK_l := Aside0.mk hcl
  have XP := Aside0.mk hP
  have FL := Aside0.mk hlF
  have XI1 := Aside0.mk hi.1
  have Xhi := Aside0.mk hi
  have Xhn := Aside0.mk hn
  have Xhb := Aside0.mk hb
  have Xh2 := Aside0.mk h2
  have Xhch := Aside0.mk hch
  clear hl hcl hi hn hP hlF hb h2 hch
  go_enter Try.func20, Try.ntmps20
  go_upto_region 4 with (first | ((with_reducible refine gate_dst (N := 2) rfl ?_); (try (refine gate_guard (by rfl) ?_; dsimp only)); refine box_event ?hg (N := 2) ?hd (cs := #[.slice (some ad) l.length c_l]) (t := 40) ?hr ?_; (case hd => rfl); (case hg => rfl); (case hr => first | (go_simp; done) | (go_simp; rfl)); intro gh hg w1_ hbox hB; have HBo := Aside0.mk HB.out; have nHB := Aside0.mk (HB.out.trans (hB.mono HB.out.size)); clear HB; have HB := nHB; clear nHB; have BK_gh := Aside0.mk hbox; have GE_gh := Aside0.mk (show w.heap.size ≤ gh by rw [hg]; exact HBo.out.size); clear hg hbox hB; have hc_gh_0 : w1_.cell? ⟨gh, 0, none⟩ = some (.slice (some ad) l.length c_l) := (blk_cell BK_gh.out 0).trans rfl; have hf_gh_0 := blk_frozen BK_gh.out 0; clear HBo) | ((with_reducible refine gate_dst (N := 4) rfl ?_); (try (refine gate_guard (by rfl) ?_; dsimp only)); refine box_event ?hg (N := 4) ?hd (cs := #[.slice none 0 0]) (t := 40) ?hr ?_; (case hd => rfl); (case hg => rfl); (case hr => first | (go_simp; done) | (go_simp; rfl)); intro gr hg w2_ hbox hB; have HBo := Aside0.mk HB.out; have BK0_gh := Aside0.mk BK_gh.out; have nHB := Aside0.mk (HB.out.trans (hB.mono HB.out.size)); clear HB; have HB := nHB; clear nHB; clear hc_gh_0 hf_gh_0; have nBK := Aside0.mk (blk_below (g := gh) (o := .cells #[.slice (some ad) l.length c_l] 40 (0, 0)) BK_gh.out hB); clear BK_gh; have BK_gh := nBK; clear nBK; have hc_gh_0 : w2_.cell? ⟨gh, 0, none⟩ = some (.slice (some ad) l.length c_l) := (blk_cell BK_gh.out 0).trans rfl; have hf_gh_0 := blk_frozen BK_gh.out 0; have BK_gr := Aside0.mk hbox; have GE_gr := Aside0.mk (show w.heap.size ≤ gr by rw [hg]; exact HBo.out.size); have NB_gr_gh := Aside0.mk (show gr ≠ gh by rw [hg]; exact Nat.ne_of_gt (blk_lt (g := gh) (o := .cells #[.slice (some ad) l.length c_l] 40 (0, 0)) BK0_gh.out)); have NB_gh_gr := Aside0.mk (Ne.symm NB_gr_gh.out); clear BK0_gh; clear hg hbox hB; have hc_gr_0 : w2_.cell? ⟨gr, 0, none⟩ = some (.slice none 0 0) := (blk_cell BK_gr.out 0).trans rfl; have hf_gr_0 := blk_frozen BK_gr.out 0; clear HBo) | (go_at_call 29; with_reducible refine (placeb_w Xhi.out Xhb.out Xhn.out _ _ _ (Kd.C_below HC_l.out HB.out) HK_l.out).mono ?_; rintro e w3_ ⟨rfl, hB⟩; have nHB := Aside0.mk (HB.out.trans (hB.mono HB.out.size)); clear HB; have HB := nHB; clear nHB; clear hc_gh_0 hf_gh_0; have nBK := Aside0.mk (blk_below (g := gh) (o := .cells #[.slice (some ad) l.length c_l] 40 (0, 0)) BK_gh.out hB); clear BK_gh; have BK_gh := nBK; clear nBK; have hc_gh_0 : w3_.cell? ⟨gh, 0, none⟩ = some (.slice (some ad) l.length c_l) := (blk_cell BK_gh.out 0).trans rfl; have hf_gh_0 := blk_frozen BK_gh.out 0; clear hc_gr_0 hf_gr_0; have nBK := Aside0.mk (blk_below (g := gr) (o := .cells #[.slice none 0 0] 40 (0, 0)) BK_gr.out hB); clear BK_gr; have BK_gr := nBK; clear nBK; have hc_gr_0 : w3_.cell? ⟨gr, 0, none⟩ = some (.slice none 0 0) := (blk_cell BK_gr.out 0).trans rfl; have hf_gr_0 := blk_frozen BK_gr.out 0; clear hB))
  have HLEN := Aside0.mk (show l2.length = l.length - 1 by rw [Xh2.out]; have := HIL.out; simp only [List.length_append, List.length_take, List.length_drop]; omega)
  have p1 : (0 : Int) ≤ (i : Int) := by omega
  have p2 : (i : Int) < (l.length : Int) := by have := HIL.out; omega
  replace p1 := eq_true p1
  replace p2 := eq_true p2
  have hw1 : wrap64 ((i : Int) + 1) = (i : Int) + 1 := by have h1 := HIL.out; have h2 := Xhn.out; unfold wrap64; omega
  refine start_ (n := 22) (S := fun w' => w'.cell? ⟨gh, 0, none⟩ = some (.slice (some ad) l.length c_l) ∧ w'.cell? ⟨(ad.add (i * 4)).block, (ad.add (i * 4)).off + 1, none⟩ = some (.int .u32 gx)) (ds := []) #[false, false, false, false, false, false, false, false, false, false, false, false, false, false, false, false, false, false, false, false, false, false] (by kernel_rfl) rfl rfl ⟨hc_gh_0, ((HB.out.cell (World.block_lt_of_cell? w _ EX1.out)).trans EX1.out)⟩ (fun hHeld => ?_); refine with_tabW drop_t4 drop_b4 (fun HT_ HW_ => ?_)
  have hB : Below w3_.heap.size w3_ w3_.drew := below_drew (Below.refl _ _)
  generalize w3_.drew = w4_ at hB hHeld ⊢
  have nHB := Aside0.mk (HB.out.trans (hB.mono HB.out.size))
  clear HB
  have HB := nHB
  clear nHB
  clear hc_gh_0 hf_gh_0
  have nBK := Aside0.mk (blk_below (g := gh) (o := .cells #[.slice (some ad) l.length c_l] 40 (0, 0)) BK_gh.out hB)
  clear BK_gh
  have BK_gh := nBK
  clear nBK
  have hc_gh_0 : w4_.cell? ⟨gh, 0, none⟩ = some (.slice (some ad) l.length c_l) := (blk_cell BK_gh.out 0).trans rfl
  have hf_gh_0 := blk_frozen BK_gh.out 0
  clear hc_gr_0 hf_gr_0
  have nBK := Aside0.mk (blk_below (g := gr) (o := .cells #[.slice none 0 0] 40 (0, 0)) BK_gr.out hB)
  clear BK_gr
  have BK_gr := nBK
  clear nBK
  have hc_gr_0 : w4_.cell? ⟨gr, 0, none⟩ = some (.slice none 0 0) := (blk_cell BK_gr.out 0).trans rfl
  have hf_gr_0 := blk_frozen BK_gr.out 0
  clear hB
  refine take_ (i := 0) (N := some 18) (v := ?_) (a' := ?_) #[true, false, false, false, false, false, false, false, false, false, false, false, false, false, false, false, false, false, false, false, false, false] rfl rfl (take_ofW HT_.out HW_.out (by kernel_rfl)) (fun _ _ _ h => h) (Or.inl ⟨by rfl, ?_⟩) hHeld ?_ ?_
  rotate_left
  · rintro w' ⟨s0, s1⟩
    go_simp
    with_reducible rfl
  rotate_left
  · simp only [Act.put, List.setIfInBounds_toArray, List.set_cons_zero, List.set_cons_succ, i64_w, i32_w]
    rfl
  refine pure_ (i := 1) (N := some 19) (v := ?_) (a' := ?_) #[true, true, false, false, false, false, false, false, false, false, false, false, false, false, false, false, false, false, false, false, false, false] rfl rfl (any_of HT_.out (by kernel_rfl)) (fun _ _ _ h => h) (Or.inl ⟨by rfl, ?_⟩) ?_ ?_
  rotate_left
  · intro w'
    go_simp
    with_reducible rfl
  rotate_left
  · simp only [Act.put, List.setIfInBounds_toArray, List.set_cons_zero, List.set_cons_succ, i64_w, i32_w]
    rfl
  refine take_ (i := 2) (N := some 20) (v := ?_) (a' := ?_) #[true, true, true, false, false, false, false, false, false, false, false, false, false, false, false, false, false, false, false, false, false, false] rfl rfl (take_ofW HT_.out HW_.out (by kernel_rfl)) (fun _ _ _ h => h) (Or.inl ⟨by rfl, ?_⟩) hHeld ?_ ?_
  rotate_left
  · rintro w' ⟨s0, s1⟩
    go_simp
    with_reducible rfl
  rotate_left
  · simp only [Act.put, List.setIfInBounds_toArray, List.set_cons_zero, List.set_cons_succ, i64_w, i32_w]
    rfl
  refine pure_ (i := 4) (N := some 22) (v := ?_) (a' := ?_) #[true, true, true, false, true, false, false, false, false, false, false, false, false, false, false, false, false, false, false, false, false, false] rfl rfl (any_of HT_.out (by kernel_rfl)) (fun _ _ _ h => h) (Or.inl ⟨by rfl, ?_⟩) ?_ ?_
  rotate_left
  · intro w'
    go_simp
    with_reducible rfl
  rotate_left
  · simp only [Act.put, List.setIfInBounds_toArray, List.set_cons_zero, List.set_cons_succ, i64_w, i32_w]
    rfl
  refine pure_ (i := 5) (N := some 23) (v := ?_) (a' := ?_) #[true, true, true, false, true, true, false, false, false, false, false, false, false, false, false, false, false, false, false, false, false, false] rfl rfl (any_of HT_.out (by kernel_rfl)) (fun _ _ _ h => h) (Or.inl ⟨by rfl, ?_⟩) ?_ ?_
  rotate_left
  · intro w'
    go_simp
    with_reducible rfl
  rotate_left
  · simp only [Act.put, List.setIfInBounds_toArray, List.set_cons_zero, List.set_cons_succ, i64_w, i32_w]
    rfl
  refine pure_ (i := 6) (N := some 24) (v := ?_) (a' := ?_) #[true, true, true, false, true, true, true, false, false, false, false, false, false, false, false, false, false, false, false, false, false, false] rfl rfl (any_of HT_.out (by kernel_rfl)) (fun _ _ _ h => h) (Or.inl ⟨by rfl, ?_⟩) ?_ ?_
  rotate_left
  · intro w'
    go_simp
    with_reducible rfl
  rotate_left
  · simp only [Act.put, List.setIfInBounds_toArray, List.set_cons_zero, List.set_cons_succ, i64_w, i32_w]
    rfl
  refine pure_ (i := 9) (N := some 27) (v := ?_) (a' := ?_) #[true, true, true, false, true, true, true, false, false, true, false, false, false, false, false, false, false, false, false, false, false, false] rfl rfl (any_of HT_.out (by kernel_rfl)) (fun _ _ _ h => h) (Or.inl ⟨by rfl, ?_⟩) ?_ ?_
  rotate_left
  · intro w'
    go_simp
    with_reducible rfl
  rotate_left
  · simp only [Act.put, List.setIfInBounds_toArray, List.set_cons_zero, List.set_cons_succ, i64_w, i32_w]
    rfl
  refine take_ (i := 10) (N := some 28) (v := ?_) (a' := ?_) #[true, true, true, false, true, true, true, false, false, true, true, false, false, false, false, false, false, false, false, false, false, false] rfl rfl (take_ofW HT_.out HW_.out (by kernel_rfl)) (fun _ _ _ h => h) (Or.inl ⟨by rfl, ?_⟩) hHeld ?_ ?_
  rotate_left
  · rintro w' ⟨s0, s1⟩
    go_simp
    with_reducible rfl
  rotate_left
  · simp only [Act.put, List.setIfInBounds_toArray, List.set_cons_zero, List.set_cons_succ, i64_w, i32_w]
    rfl
  refine pure_ (i := 11) (N := some 29) (v := ?_) (a' := ?_) #[true, true, true, false, true, true, true, false, false, true, true, true, false, false, false, false, false, false, false, false, false, false] rfl rfl (any_of HT_.out (by kernel_rfl)) (fun _ _ _ h => h) (Or.inl ⟨by rfl, ?_⟩) ?_ ?_
  rotate_left
  · intro w'
    go_simp
    with_reducible rfl
  rotate_left
  · simp only [Act.put, List.setIfInBounds_toArray, List.set_cons_zero, List.set_cons_succ, i64_w, i32_w]
    rfl
  refine pure_ (i := 12) (N := some 30) (v := ?_) (a' := ?_) #[true, true, true, false, true, true, true, false, false, true, true, true, true, false, false, false, false, false, false, false, false, false] rfl rfl (any_of HT_.out (by kernel_rfl)) (fun _ _ _ h => h) (Or.inl ⟨by rfl, ?_⟩) ?_ ?_
  rotate_left
  · intro w'
    go_simp
    with_reducible rfl
  rotate_left
  · simp only [Act.put, List.setIfInBounds_toArray, List.set_cons_zero, List.set_cons_succ, i64_w, i32_w]
    rfl
  refine pure_ (i := 13) (N := some 31) (v := ?_) (a' := ?_) #[true, true, true, false, true, true, true, false, false, true, true, true, true, true, false, false, false, false, false, false, false, false] rfl rfl (any_of HT_.out (by kernel_rfl)) (fun _ _ _ h => h) (Or.inl ⟨by rfl, ?_⟩) ?_ ?_
  rotate_left
  · intro w'
    go_simp
    with_reducible rfl
  rotate_left
  · simp only [Act.put, List.setIfInBounds_toArray, List.set_cons_zero, List.set_cons_succ, i64_w, i32_w]
    rfl
  refine take_ (i := 14) (N := some 32) (v := ?_) (a' := ?_) #[true, true, true, false, true, true, true, false, false, true, true, true, true, true, true, false, false, false, false, false, false, false] rfl rfl (take_ofW HT_.out HW_.out (by kernel_rfl)) (fun _ _ _ h => h) (Or.inl ⟨by rfl, ?_⟩) hHeld ?_ ?_
  rotate_left
  · rintro w' ⟨s0, s1⟩
    go_simp
    with_reducible rfl
  rotate_left
  · simp only [Act.put, List.setIfInBounds_toArray, List.set_cons_zero, List.set_cons_succ, i64_w, i32_w]
    rfl
  refine one_ (i := 3) (N := some 21) #[true, true, true, true, true, true, true, false, false, true, true, true, true, true, true, false, false, false, false, false, false, false] rfl rfl (one_of HT_.out (by kernel_rfl)) (by decide) (fun K hK => ?_)
  refine goes_ Try.func31 (by kernel_rfl) rfl #[.slice (some ad) l.length c_l] (by rfl) rfl rfl (by (try simp only [List.map_toArray, List.map_cons, List.map_nil]); first | done | rfl | (simp only [List.length_drop, List.length_take]; rfl)) ?_
  refine (clone_w (R := Kd.FK k42 w4_ P) (fun p c hp => (k42_FKlen hp).2) (some ad) c_l l _ Xhn.out (Kd.F_rows (Kd.F_below FL.out HB.out))).mono ?_
  rintro e w5_ ⟨v_m, rfl, inner, hO, hR, h1, hg⟩
  refine ⟨_, rfl, ?_⟩
  have LT_gh0 := blk_lt (g := gh) (o := .cells #[.slice (some ad) l.length c_l] 40 (0, 0)) BK_gh.out
  have LT_gr0 := blk_lt (g := gr) (o := .cells #[.slice none 0 0] 40 (0, 0)) BK_gr.out
  have hB := (Below.refl w4_.heap.size w4_).grown hg (Nat.le_refl _) (fun k hk => by cases hk)
  have HSW := HB.out.size
  have nHB := Aside0.mk (HB.out.trans (hB.mono HB.out.size))
  clear HB
  have HB := nHB
  clear nHB
  clear hc_gh_0 hf_gh_0
  have nBK := Aside0.mk (blk_below (g := gh) (o := .cells #[.slice (some ad) l.length c_l] 40 (0, 0)) BK_gh.out hB)
  clear BK_gh
  have BK_gh := nBK
  clear nBK
  have hc_gh_0 : w5_.cell? ⟨gh, 0, none⟩ = some (.slice (some ad) l.length c_l) := (blk_cell BK_gh.out 0).trans rfl
  have hf_gh_0 := blk_frozen BK_gh.out 0
  clear hc_gr_0 hf_gr_0
  have nBK := Aside0.mk (blk_below (g := gr) (o := .cells #[.slice none 0 0] 40 (0, 0)) BK_gr.out hB)
  clear BK_gr
  have BK_gr := nBK
  clear nBK
  have hc_gr_0 : w5_.cell? ⟨gr, 0, none⟩ = some (.slice none 0 0) := (blk_cell BK_gr.out 0).trans rfl
  have hf_gr_0 := blk_frozen BK_gr.out 0
  have HRI := Aside0.mk (hR.imp_ (fun _ _ hp => Kd.FK_below hp hB))
  obtain ⟨nn, hnn⟩ : ∃ n, n = w4_.heap.size := ⟨_, rfl⟩
  have HNS := Aside0.mk (show nn ≤ w5_.heap.size by rw [hnn]; exact hB.size)
  rw [← hnn] at hO LT_gh0 LT_gr0 HSW
  have HO := Aside0.mk hO
  have H1 := Aside0.mk h1
  have LT_gh := Aside0.mk LT_gh0
  have LT_gr := Aside0.mk LT_gr0
  have HNN := Aside0.mk HSW
  clear hO hR h1 hg hB hnn LT_gh0 LT_gr0 HSW
  refine hK.out _ _ ⟨hc_gh_0, ((HB.out.cell (World.block_lt_of_cell? w _ EX1.out)).trans EX1.out)⟩ (fun hHeld => ?_)
  clear hK K
  refine norm_ (a' := ?_) ?_ ?_
  rotate_left
  · show Act.put _ (some 21) _ = _
    simp only [Act.put, List.setIfInBounds_toArray, List.set_cons_zero, List.set_cons_succ, i64_w, i32_w]
    rfl
  refine one_ (i := 7) (N := some 25) #[true, true, true, true, true, true, true, true, false, true, true, true, true, true, true, false, false, false, false, false, false, false] rfl rfl (one_of HT_.out (by kernel_rfl)) (by decide) (fun K hK => ?_)
  refine goes_ Try.func37 (by kernel_rfl) rfl #[v_m, .int .i64 i, .int .i64 (wrap64 ((i : Int) + 1))] (by rfl) rfl rfl (by (try simp only [List.map_toArray, List.map_cons, List.map_nil]); first | done | rfl | (simp only [List.length_drop, List.length_take]; rfl)) ?_
  refine (delete_wj nn v_m l.length i inner w5_ hw1 HIL.out HO.out H1.out).mono ?_
  rintro e w6_ ⟨v_n, rfl, hO2, hG⟩
  refine ⟨_, rfl, ?_⟩
  have hrow : ∀ k, v_m.ownBlock = some k → nn ≤ k := fun k hk => (HO.out.lt k hk).1
  have HNW := Aside0.mk (Nat.le_trans HNS.out hG.size)
  have nHB := Aside0.mk (HB.out.grown hG HB.out.size (fun k hk => Nat.le_trans HNN.out (hrow k hk)))
  clear HB
  have HB := nHB
  clear nHB
  clear hc_gh_0 hf_gh_0
  have nBK := Aside0.mk (blk_grown BK_gh.out hG (fun e => by have h1 := hrow _ e.symm; have h2 := LT_gh.out; omega))
  clear BK_gh
  have BK_gh := nBK
  clear nBK
  have hc_gh_0 : w6_.cell? ⟨gh, 0, none⟩ = some (.slice (some ad) l.length c_l) := (blk_cell BK_gh.out 0).trans rfl
  have hf_gh_0 := blk_frozen BK_gh.out 0
  clear hc_gr_0 hf_gr_0
  have nBK := Aside0.mk (blk_grown BK_gr.out hG (fun e => by have h1 := hrow _ e.symm; have h2 := LT_gr.out; omega))
  clear BK_gr
  have BK_gr := nBK
  clear nBK
  have hc_gr_0 : w6_.cell? ⟨gr, 0, none⟩ = some (.slice none 0 0) := (blk_cell BK_gr.out 0).trans rfl
  have hf_gr_0 := blk_frozen BK_gr.out 0
  have HRN := Aside0.mk (HRI.out.imp_ (fun _ _ hp => Kd.FK_step hp (fun k hk hlt => hG.block k hlt (fun e => by have h1 := hrow k e.symm; have h2 := HNN.out; have h3 := XP.out k hk; omega))))
  clear HRI
  have HV := Aside0.mk (show Kd.V k42 42 w6_ 0 (fun k => P k ∨ nn ≤ k) v_n l2 from made_V (inner := inner.take (i * 4) ++ inner.drop ((i + 1) * 4)) (fun k hk => Nat.lt_of_lt_of_le (XP.out k hk) HNN.out) (HLEN.out.symm ▸ hO2) (by rw [Xh2.out]; exact Kd.reps_append (Kd.reps_take HRN.out XI1.out) (Kd.reps_drop HRN.out)))
  clear hO2 hG hrow HO HRN
  obtain ⟨A_n, c_n, en_, hcall⟩ := changed_w Xhch.out (some ad) c_l _ _ (Kd.C_below HC_l.out HB.out) HK_l.out HV.out
  subst en_
  have XCALL := Aside0.mk hcall
  clear hcall
  refine hK.out _ _ ⟨hc_gh_0, ((HB.out.cell (World.block_lt_of_cell? w _ EX1.out)).trans EX1.out)⟩ (fun hHeld => ?_)
  clear hK K
  refine norm_ (a' := ?_) ?_ ?_
  rotate_left
  · show Act.put _ (some 25) _ = _
    simp only [Act.put, List.setIfInBounds_toArray, List.set_cons_zero, List.set_cons_succ, i64_w, i32_w]
    rfl
  refine pure_ (i := 8) (N := some 26) (v := ?_) (a' := ?_) #[true, true, true, true, true, true, true, true, true, true, true, true, true, true, true, false, false, false, false, false, false, false] rfl rfl (any_of HT_.out (by kernel_rfl)) (fun _ _ _ h => h) (Or.inl ⟨by rfl, ?_⟩) ?_ ?_
  rotate_left
  · intro w'
    go_simp
    with_reducible rfl
  rotate_left
  · simp only [Act.put, List.setIfInBounds_toArray, List.set_cons_zero, List.set_cons_succ, i64_w, i32_w]
    rfl
  refine one_ (i := 15) (N := some 33) #[true, true, true, true, true, true, true, true, true, true, true, true, true, true, true, true, false, false, false, false, false, false] rfl rfl (one_of HT_.out (by kernel_rfl)) (by decide) (fun K hK => ?_)
  refine goes_ Try.func33 (by kernel_rfl) rfl #[.agg #[.slice (some ad) l.length c_l], .agg #[.slice A_n l2.length c_n], .int .u32 gx] (by rfl) rfl rfl (by (try simp only [List.map_toArray, List.map_cons, List.map_nil]); first | done | rfl | (simp only [List.length_drop, List.length_take]; rfl)) ?_
  with_reducible refine XCALL.out.mono ?_
  rintro e w7_ ⟨A_0, c_0, A_1, c_1, rfl, hV0, hV1, hB⟩
  refine ⟨_, rfl, ?_⟩
  have HNS2 := Aside0.mk HNW.out
  have nHB := Aside0.mk (HB.out.trans (hB.mono HB.out.size))
  clear HB
  have HB := nHB
  clear nHB
  clear hc_gh_0 hf_gh_0
  have nBK := Aside0.mk (blk_below (g := gh) (o := .cells #[.slice (some ad) l.length c_l] 40 (0, 0)) BK_gh.out hB)
  clear BK_gh
  have BK_gh := nBK
  clear nBK
  have hc_gh_0 : w7_.cell? ⟨gh, 0, none⟩ = some (.slice (some ad) l.length c_l) := (blk_cell BK_gh.out 0).trans rfl
  have hf_gh_0 := blk_frozen BK_gh.out 0
  clear hc_gr_0 hf_gr_0
  have nBK := Aside0.mk (blk_below (g := gr) (o := .cells #[.slice none 0 0] 40 (0, 0)) BK_gr.out hB)
  clear BK_gr
  have BK_gr := nBK
  clear nBK
  have hc_gr_0 : w7_.cell? ⟨gr, 0, none⟩ = some (.slice none 0 0) := (blk_cell BK_gr.out 0).trans rfl
  have hf_gr_0 := blk_frozen BK_gr.out 0
  have HV_0 := Aside0.mk hV0
  have HV_1 := Aside0.mk hV1
  clear hV0 hV1 hB XCALL
  refine hK.out _ _ ⟨hc_gh_0, ((HB.out.cell (World.block_lt_of_cell? w _ EX1.out)).trans EX1.out)⟩ (fun hHeld => ?_)
  clear hK K
  refine norm_ (a' := ?_) ?_ ?_
  rotate_left
  · show Act.put _ (some 33) _ = _
    simp only [Act.put, List.setIfInBounds_toArray, List.set_cons_zero, List.set_cons_succ, i64_w, i32_w]
    rfl
  refine pure_ (i := 16) (N := some 34) (v := ?_) (a' := ?_) #[true, true, true, true, true, true, true, true, true, true, true, true, true, true, true, true, true, false, false, false, false, false] rfl rfl (any_of HT_.out (by kernel_rfl)) (fun _ _ _ h => h) (Or.inl ⟨by rfl, ?_⟩) ?_ ?_
  rotate_left
  · intro w'
    go_simp
    with_reducible rfl
  rotate_left
  · simp only [Act.put, List.setIfInBounds_toArray, List.set_cons_zero, List.set_cons_succ, i64_w, i32_w]
    rfl
  refine pure_ (i := 17) (N := some 35) (v := ?_) (a' := ?_) #[true, true, true, true, true, true, true, true, true, true, true, true, true, true, true, true, true, true, false, false, false, false] rfl rfl (any_of HT_.out (by kernel_rfl)) (fun _ _ _ h => h) (Or.inl ⟨by rfl, ?_⟩) ?_ ?_
  rotate_left
  · intro w'
    go_simp
    with_reducible rfl
  rotate_left
  · simp only [Act.put, List.setIfInBounds_toArray, List.set_cons_zero, List.set_cons_succ, i64_w, i32_w]
    rfl
  refine pure_ (i := 18) (N := some 36) (v := ?_) (a' := ?_) #[true, true, true, true, true, true, true, true, true, true, true, true, true, true, true, true, true, true, true, false, false, false] rfl rfl (any_of HT_.out (by kernel_rfl)) (fun _ _ _ h => h) (Or.inl ⟨by rfl, ?_⟩) ?_ ?_
  rotate_left
  · intro w'
    go_simp
    with_reducible rfl
  rotate_left
  · simp only [Act.put, List.setIfInBounds_toArray, List.set_cons_zero, List.set_cons_succ, i64_w, i32_w]
    rfl
  refine one_ (i := 19) (N := none) #[true, true, true, true, true, true, true, true, true, true, true, true, true, true, true, true, true, true, true, true, false, false] rfl rfl (one_of HT_.out (by kernel_rfl)) (by decide) (fun K hK => ?_)
  refine skip_ (w1 := ?_) (by rfl) rfl ?_ ?_
  rotate_left
  · go_simp
    rfl
  have nHB : Aside0 (Below w.heap.size w (w7_.setCell ⟨gr, 0, none⟩ (.slice A_0 l2.length c_0))) := ⟨below_set HB.out GE_gr.out⟩
  have nBK : Aside0 ((w7_.setCell ⟨gr, 0, none⟩ (.slice A_0 l2.length c_0)).heap[gr]? = some (.cells #[.slice A_0 l2.length c_0] 40 (0, 0))) := ⟨blk_put (cs := #[.slice none 0 0]) BK_gr.out 0 (.slice A_0 l2.length c_0) rfl⟩
  have nB_gh : Aside0 ((w7_.setCell ⟨gr, 0, none⟩ (.slice A_0 l2.length c_0)).heap[gh]? = some (.cells #[.slice (some ad) l.length c_l] 40 (0, 0))) := ⟨blk_far BK_gh.out NB_gh_gr.out _⟩
  have nV0 := Aside0.mk (Kd.V_mono (Kd.V_far (p := ⟨gr, 0, none⟩) HV_0.out (fun k hk e => by have h1 := LT_gr.out; have h2 := GE_gr.out; have h3 : k = gr := e; have h4 := HNW.out; exact Or.elim hk (fun hk => Or.elim hk (fun hk => by have := XP.out k hk; omega) (fun hk => by omega)) (fun hk => by omega)) (.slice A_0 l2.length c_0)) (fun k hk => by have h2 := HNN.out; have h4 := HNW.out; exact Or.elim hk (fun hk => Or.elim hk (fun hk => .inl hk) (fun hk => .inr (by omega))) (fun hk => .inr (by omega)) : ∀ k, _ → (P k ∨ w.heap.size ≤ k)))
  clear HV_0
  have nV1 := Aside0.mk (Kd.V_mono (Kd.V_far (p := ⟨gr, 0, none⟩) HV_1.out (fun k hk e => by have h1 := LT_gr.out; have h2 := GE_gr.out; have h3 : k = gr := e; have h4 := HNW.out; exact Or.elim hk (fun hk => Or.elim hk (fun hk => by have := XP.out k hk; omega) (fun hk => by omega)) (fun hk => by omega)) (.slice A_0 l2.length c_0)) (fun k hk => by have h2 := HNN.out; have h4 := HNW.out; exact Or.elim hk (fun hk => Or.elim hk (fun hk => .inl hk) (fun hk => .inr (by omega))) (fun hk => .inr (by omega)) : ∀ k, _ → (P k ∨ w.heap.size ≤ k)))
  clear HV_1
  clear hc_gh_0 hf_gh_0
  clear BK_gh
  clear hc_gr_0 hf_gr_0
  clear BK_gr
  clear HB
  generalize (w7_.setCell ⟨gr, 0, none⟩ (.slice A_0 l2.length c_0)) = w8_ at nHB nBK nB_gh nV0 nV1 ⊢
  have HB := nHB
  have BK_gr := nBK
  have BK_gh := nB_gh
  have HV_0 := nV0
  have HV_1 := nV1
  clear nHB nBK nB_gh nV0 nV1
  have hc_gh_0 : w8_.cell? ⟨gh, 0, none⟩ = some (.slice (some ad) l.length c_l) := (blk_cell BK_gh.out 0).trans rfl
  have hf_gh_0 := blk_frozen BK_gh.out 0
  have hc_gr_0 : w8_.cell? ⟨gr, 0, none⟩ = some (.slice A_0 l2.length c_0) := (blk_cell BK_gr.out 0).trans rfl
  have hf_gr_0 := blk_frozen BK_gr.out 0
  refine hK.out _ _ ⟨hc_gh_0, ((HB.out.cell (World.block_lt_of_cell? w _ EX1.out)).trans EX1.out)⟩ (fun hHeld => ?_)
  clear hK K
  refine pure_ (i := 20) (N := some 5) (v := ?_) (a' := ?_) #[true, true, true, true, true, true, true, true, true, true, true, true, true, true, true, true, true, true, true, true, true, false] rfl rfl (any_of HT_.out (by kernel_rfl)) (fun _ _ _ h => h) (Or.inl ⟨by rfl, ?_⟩) ?_ ?_
  rotate_left
  · intro w'
    go_simp
    with_reducible rfl
  rotate_left
  · simp only [Act.put, List.setIfInBounds_toArray, List.set_cons_zero, List.set_cons_succ, i64_w, i32_w]
    rfl
  refine pure_ (i := 21) (N := some 6) (v := ?_) (a' := ?_) #[true, true, true, true, true, true, true, true, true, true, true, true, true, true, true, true, true, true, true, true, true, true] rfl rfl (any_of HT_.out (by kernel_rfl)) (fun _ _ _ h => h) (Or.inl ⟨by rfl, ?_⟩) ?_ ?_
  rotate_left
  · intro w'
    go_simp
    with_reducible rfl
  rotate_left
  · simp only [Act.put, List.setIfInBounds_toArray, List.set_cons_zero, List.set_cons_succ, i64_w, i32_w]
    rfl
  refine done_ (done_of HT_.out (by kernel_rfl)) ?_
  go_wp2
  refine bodyPost_ret (results_ctt rfl _ _ gr 40 #[.slice A_0 l2.length c_0] (0, 0) _ rfl BK_gr.out Try.underlying40 rfl (by kernel_rfl)) rfl ?_
  exact ⟨_, _, rfl, HV_0.out, HV_1.out, HB.out⟩
end Go.Proofs.Ytjncmiclpaodhaa
-- written by a program of this session (hprint.py), over the kit's printer
namespace Go.Proofs.Ytjncmiclpaodhaa.PHo
open Go.RowKit Go.Proofs.YtjncmiclpaodhaaW.PrintWords Go.Proofs.YtjncmiclpaodhaaW.PrintLast Go.Proofs.YtjncmiclpaodhaaW.PrintMore
attribute [local go_sem] max2_int min2_int max_two min_two max_three min_three max_four min_four   -- for this text's walks alone
set_option linter.unusedVariables false
set_option linter.unusedSimpArgs false

-- BY HAND: function 8 (stolonlaw07_shown)

/-! ### stolonref06_Right: function 9 -/
def stolonref06_Right.l0 : Nat → List Int → Int → Option (Bool)
  | 0, _, _ => none
  | k + 1, x0, x3 => if x3 < (x0.length : Int) then (if 0 ≤ (wrap64 (x3 - 1)) then (if (wrap64 (x3 - 1)) < (x0.length : Int) then (if 0 ≤ x3 then (if (rd x0 (wrap64 (x3 - 1))) ≥ (rd x0 x3) then (some false) else (stolonref06_Right.l0 k x0 (wrap64 (x3 + 1)))) else (none)) else (none)) else (none)) else (some true)
def stolonref06_Right.f (k : Nat) (l0 : List Int) : Option (Bool) := stolonref06_Right.l0 k l0 1
theorem stolonref06_Right.mono_l : ∀ k, (∀ y0 y1, LeO (stolonref06_Right.l0 k y0 y1) (stolonref06_Right.l0 (k + 1) y0 y1))
  | 0 => fun _ _ r h => by simp [stolonref06_Right.l0] at h
  | k + 1 => by
    have ih0 := stolonref06_Right.mono_l k
    · intro y0 y1
      unfold stolonref06_Right.l0
      repeat' first
      | (with_reducible exact ih0 _ _)
      | (with_reducible exact LeO.refl _)
      | (with_reducible exact LeO.none _)
      | (with_reducible refine LeO.ite ?_ ?_)
      | (with_reducible refine LeO.bind ?_ (fun _ => ?_))
      | exact ih0 _ _
      | exact LeO.none _
      | refine LeO.ite ?_ ?_
      | refine LeO.bind ?_ (fun _ => ?_)
theorem stolonref06_Right.mono : ∀ a0 k, LeO (stolonref06_Right.f k a0) (stolonref06_Right.f (k + 1) a0) := by
  intro a0 k
  have ih0 := stolonref06_Right.mono_l k
  unfold stolonref06_Right.f
  repeat' first
      | (with_reducible exact ih0 _ _)
      | (with_reducible exact LeO.refl _)
      | (with_reducible exact LeO.none _)
      | (with_reducible refine LeO.ite ?_ ?_)
      | (with_reducible refine LeO.bind ?_ (fun _ => ?_))
      | exact ih0 _ _
      | exact LeO.none _
      | refine LeO.ite ?_ ?_
      | refine LeO.bind ?_ (fun _ => ?_)
set_option maxHeartbeats 8000000 in
set_option maxRecDepth 100000 in
theorem stolonref06_Right.calls (k : Nat) (A0 : Option Addr) (c0 : Nat) (l0 : List Int) (r : Bool) (w : World) (hr0 : Kd.C (Kd.int .u32) w A0 l0.length l0) (hc0 : l0.length ≤ c0) (h : stolonref06_Right.f k l0 = some r) :
    Calls Try.prog 9 #[.slice A0 l0.length c0] w fun e w' => e = .returned (.bool r) ∧ Drawn0 w w' := by
  have HR0 := Aside0.mk hr0
  have HC0 := Aside0.mk hc0
  clear hr0 hc0
  have H : (stolonref06_Right.l0 k l0 1) = some r := h
  clear h
  have H' := Aside0.mk H
  clear H
  go_enter Try.func9, Try.ntmps9
  go_wp2
  repeat (go_quiet (fail); try go_wp2)
  go_loopg [3] k (fun kq v3 w' => ∃ (x3_1 : Int), v3 = .int .i64 x3_1 ∧ Aside0 (stolonref06_Right.l0 kq l0 x3_1 = some r) ∧ Aside0 (kq ≤ k) ∧ Drawn0 w w')
  case atStart => exact ⟨(1), (by first | rfl | (simp; done) | (simp [*]; done)), H', ⟨Nat.le_refl _⟩, by repeat (first | exact Drawn0.refl _ | apply Drawn0.step)⟩
  case round =>
    clear H'
    obtain ⟨x3_1, rfl, HA, HK1, ⟨m1, rfl⟩⟩ := hrel
    cases gk with
    | zero => exact absurd HA.out (by simp [stolonref06_Right.l0])
    | succ k1 =>
      have H := HA.out
      clear HA
      simp only [stolonref06_Right.l0] at H
      by_cases c2 : x3_1 < (l0.length : Int)
      · rw [if_pos c2] at H
        have c2b0 : decide (x3_1 < (l0.length : Int)) = true := decide_eq_true c2
        clear c2
        obtain ⟨ji3, hji3⟩ : ∃ j_ : Int, (wrap64 (x3_1 - 1)) = j_ := ⟨_, rfl⟩
        replace H : (if 0 ≤ (ji3) then (if (ji3) < (l0.length : Int) then (if 0 ≤ x3_1 then (if (rd l0 (ji3)) ≥ (rd l0 x3_1) then (some false) else (stolonref06_Right.l0 k1 l0 (wrap64 (x3_1 + 1)))) else (none)) else (none)) else (none)) = some r := by first | (rw [hji3] at H; exact H) | (simp only [hji3] at H ⊢; exact H)
        have hji3w : (IntKind.i64.wrap (x3_1 - 1)) = ji3 := (i64_w _).trans hji3
        by_cases c4 : 0 ≤ (ji3)
        · rw [if_pos c4] at H
          have c4b0 : decide (0 ≤ (ji3)) = true := decide_eq_true c4
          clear c4
          by_cases c5 : (ji3) < (l0.length : Int)
          · rw [if_pos c5] at H
            have c5b0 : decide ((ji3) < (l0.length : Int)) = true := decide_eq_true c5
            clear c5
            by_cases c6 : 0 ≤ x3_1
            · rw [if_pos c6] at H
              have c6b0 : decide (0 ≤ x3_1) = true := decide_eq_true c6
              clear c6
              by_cases c7 : (rd l0 (ji3)) ≥ (rd l0 x3_1)
              · rw [if_pos c7] at H
                have c7b0 : decide ((rd l0 x3_1) ≤ (rd l0 (ji3))) = true := decide_eq_true c7
                clear c7
                obtain rfl := Option.some.inj H
                have p310 : 0 ≤ ((ji3) : Int) := of_decide_eq_true (by first | (with_reducible assumption) | assumption)
                have q310 : (ji3) < (l0.length : Int) := of_decide_eq_true (by first | (with_reducible assumption) | assumption)
                obtain ⟨ad310, e310, hx310_0⟩ := Kd.at_int HR0.out (ji3) p310 q310
                cases e310
                replace p310 := eq_true p310
                replace q310 := eq_true q310
                have p311 : 0 ≤ (x3_1 : Int) := of_decide_eq_true (by first | (with_reducible assumption) | assumption)
                have q311 : x3_1 < (l0.length : Int) := of_decide_eq_true (by first | (with_reducible assumption) | assumption)
                obtain ⟨ad311, e311, hx311_0⟩ := Kd.at_int HR0.out x3_1 p311 q311
                obtain rfl : ad310 = ad311 := (by injection e311)
                replace p311 := eq_true p311
                replace q311 := eq_true q311
                go_wp2
                repeat (go_quiet (fail); try go_wp2)
                go_ret
                exact ⟨by first | rfl | (simp; done) | (simp only [← hji3] <;> (first | rfl | simp)) | (simp [*]; done), by repeat (first | exact Drawn0.refl _ | apply Drawn0.step)⟩
              · rw [if_neg c7] at H
                have c7b0 : decide ((rd l0 x3_1) ≤ (rd l0 (ji3))) = false := decide_eq_false c7
                clear c7
                have H' := Aside0.mk H
                clear H
                have p310 : 0 ≤ ((ji3) : Int) := of_decide_eq_true (by first | (with_reducible assumption) | assumption)
                have q310 : (ji3) < (l0.length : Int) := of_decide_eq_true (by first | (with_reducible assumption) | assumption)
                obtain ⟨ad310, e310, hx310_0⟩ := Kd.at_int HR0.out (ji3) p310 q310
                cases e310
                replace p310 := eq_true p310
                replace q310 := eq_true q310
                have p311 : 0 ≤ (x3_1 : Int) := of_decide_eq_true (by first | (with_reducible assumption) | assumption)
                have q311 : x3_1 < (l0.length : Int) := of_decide_eq_true (by first | (with_reducible assumption) | assumption)
                obtain ⟨ad311, e311, hx311_0⟩ := Kd.at_int HR0.out x3_1 p311 q311
                obtain rfl : ad310 = ad311 := (by injection e311)
                replace p311 := eq_true p311
                replace q311 := eq_true q311
                go_wp2
                repeat (go_quiet (fail); try go_wp2)
                go_roundg k1
                case measure => have := HK1.out; omega
                case rel => exact ⟨(wrap64 (x3_1 + 1)), (by first | rfl | (simp; done) | (simp [*]; done)), H', ⟨by have := HK1.out; omega⟩, by repeat (first | exact Drawn0.refl _ | apply Drawn0.step)⟩
            · rw [if_neg c6] at H
              exact absurd H (by simp)
          · rw [if_neg c5] at H
            exact absurd H (by simp)
        · rw [if_neg c4] at H
          exact absurd H (by simp)
      · rw [if_neg c2] at H
        have c2b0 : decide (x3_1 < (l0.length : Int)) = false := decide_eq_false c2
        clear c2
        obtain rfl := Option.some.inj H
        go_wp2
        repeat (go_quiet (fail); try go_wp2)
        go_ret
        exact ⟨by first | rfl | (simp; done) | (simp [*]; done), by repeat (first | exact Drawn0.refl _ | apply Drawn0.step)⟩

end Go.Proofs.Ytjncmiclpaodhaa.PHo
/-
  Sets in plain lists, for chapter 07 (out of chapter 06's plain laws).
-/
namespace Go.Proofs.Ytjncmiclpaodhaa
open Go.RowKit Go.Proofs.YtjncmiclpaodhaaW.PrintWords Go.Proofs.Ytjncmiclpaodhaa.PHo
set_option linter.unusedVariables false
set_option linter.unusedSimpArgs false
theorem w64 {i : Int} (h0 : -9223372036854775808 ≤ i) (h1 : i ≤ 9223372036854775807) : wrap64 i = i := by unfold wrap64; omega
theorem rd_eq (l : List Int) (i : Int) : rd l i = l.getD i.toNat 0 := rfl
abbrev Rise (l : List Int) : Prop := l.Pairwise (· < ·)
theorem getD_eq (l : List Int) (i : Nat) (h : i < l.length) : l.getD i 0 = l[i] := by
  rw [List.getD_eq_getElem?_getD, List.getElem?_eq_getElem h]; rfl
theorem rise_iff (l : List Int) : (∀ i, 1 ≤ i → i < l.length → l.getD (i - 1) 0 < l.getD i 0) ↔ Rise l := by
  constructor
  · intro h
    rw [Rise, List.pairwise_iff_getElem]
    intro i j hi hj hij
    rw [← getD_eq l i hi, ← getD_eq l j hj]
    clear hi
    induction j with
    | zero => omega
    | succ j ih =>
      have h1 := h (j + 1) (by omega) hj
      rw [Nat.add_sub_cancel] at h1
      rcases Nat.lt_or_ge i j with h2 | h2
      · have := ih (by omega) h2; omega
      · obtain rfl : i = j := by omega
        exact h1
  · intro h i h1 h2
    rw [Rise, List.pairwise_iff_getElem] at h
    rw [getD_eq l i h2, getD_eq l (i - 1) (by omega)]
    exact h _ _ _ _ (by omega)
open Classical in
theorem right_loop (l : List Int) (hm : l.length ≤ 1000000000) : ∀ n k (j : Nat), 1 ≤ j → l.length ≤ j + n → n < k →
    stolonref06_Right.l0 k l j = some (decide (∀ i, j ≤ i → i < l.length → l.getD (i - 1) 0 < l.getD i 0)) := by
  intro n
  induction n with
  | zero =>
    intro k j h1 h2 hk
    obtain ⟨k, rfl⟩ : ∃ k', k = k' + 1 := ⟨k - 1, by omega⟩
    rw [stolonref06_Right.l0, if_neg (by omega)]
    congr 1
    symm
    rw [decide_eq_true_eq]
    intro i hi hl; omega
  | succ n ih =>
    intro k j h1 h2 hk
    obtain ⟨k, rfl⟩ : ∃ k', k = k' + 1 := ⟨k - 1, by omega⟩
    rw [stolonref06_Right.l0]
    by_cases hj : j < l.length
    · rw [if_pos (by omega), w64 (by omega) (by omega), if_pos (by omega), if_pos (by omega), if_pos (by omega)]
      rw [rd_eq, rd_eq, show ((j : Int) - 1).toNat = j - 1 from by omega, show ((j : Int)).toNat = j from by omega]
      split
      · rename_i hge
        congr 1
        symm
        rw [decide_eq_false_iff_not]
        intro h
        have := h j (Nat.le_refl _) hj
        omega
      · rename_i hge
        rw [w64 (by omega) (by omega), show (j : Int) + 1 = ((j + 1 : Nat) : Int) from by omega, ih k (j + 1) (by omega) (by omega) (by omega)]
        congr 1
        rw [decide_eq_decide]
        constructor
        · intro h i hi hl
          rcases Nat.lt_or_ge j i with h' | h'
          · exact h i (by omega) hl
          · obtain rfl : i = j := by omega
            omega
        · intro h i hi hl
          exact h i (by omega) hl
    · rw [if_neg (by omega)]
      congr 1
      symm
      rw [decide_eq_true_eq]
      intro i hi hl; omega
theorem right_some (l : List Int) (hm : l.length ≤ 1000000000) (k : Nat) (hk : l.length < k) : stolonref06_Right.f k l = some (decide (Rise l)) := by
  unfold stolonref06_Right.f
  have := right_loop l hm l.length k 1 (Nat.le_refl _) (by omega) hk
  rw [show ((1 : Nat) : Int) = 1 from rfl] at this
  rw [this]
  congr 1
  rw [decide_eq_decide]
  exact rise_iff l
theorem both_all (a b : List Int) : ∀ x, x ∈ a ∨ x ∈ b → ∃ t ∈ bothOf a b, t.1 = x := by
  induction a, b using bothOf.induct with
  | case1 => intro x h; simp at h
  | case2 y a ih =>
    intro x h
    rw [bothOf]
    rcases h with h | h
    · rcases List.mem_cons.1 h with rfl | h
      · exact ⟨_, List.mem_cons_self, rfl⟩
      · obtain ⟨t, h1, h2⟩ := ih x (.inl h)
        exact ⟨t, List.mem_cons_of_mem _ h1, h2⟩
    · simp at h
  | case3 y b ih =>
    intro x h
    rw [bothOf]
    rcases h with h | h
    · simp at h
    · rcases List.mem_cons.1 h with rfl | h
      · exact ⟨_, List.mem_cons_self, rfl⟩
      · obtain ⟨t, h1, h2⟩ := ih x (.inr h)
        exact ⟨t, List.mem_cons_of_mem _ h1, h2⟩
  | case4 z a y b hlt ih =>
    intro x h
    rw [bothOf, if_pos hlt]
    by_cases hx : x = z
    · subst hx; exact ⟨_, List.mem_cons_self, rfl⟩
    · obtain ⟨t, h1, h2⟩ := ih x (by simpa [hx] using h)
      exact ⟨t, List.mem_cons_of_mem _ h1, h2⟩
  | case5 z a y b hlt hlt' ih =>
    intro x h
    rw [bothOf, if_neg hlt, if_pos hlt']
    by_cases hx : x = y
    · subst hx; exact ⟨_, List.mem_cons_self, rfl⟩
    · obtain ⟨t, h1, h2⟩ := ih x (by simpa [hx] using h)
      exact ⟨t, List.mem_cons_of_mem _ h1, h2⟩
  | case6 z a y b hlt hlt' ih =>
    intro x h
    rw [bothOf, if_neg hlt, if_neg hlt']
    obtain rfl : z = y := by omega
    by_cases hx : x = z
    · subst hx; exact ⟨_, List.mem_cons_self, rfl⟩
    · obtain ⟨t, h1, h2⟩ := ih x (by simpa [hx] using h)
      exact ⟨t, List.mem_cons_of_mem _ h1, h2⟩
theorem both_spec (a b : List Int) : Rise a → Rise b → ∀ t ∈ bothOf a b, t.2.1 = decide (t.1 ∈ a) ∧ t.2.2 = decide (t.1 ∈ b) ∧ (t.1 ∈ a ∨ t.1 ∈ b) := by
  induction a, b using bothOf.induct with
  | case1 => intro _ _ t h; simp [bothOf] at h
  | case2 y a ih =>
    intro ha hb t h
    rw [bothOf] at h
    have ha' := List.pairwise_cons.1 ha
    rcases List.mem_cons.1 h with rfl | h
    · simp
    · obtain ⟨h1, h2, h3⟩ := ih ha'.2 hb t h
      refine ⟨?_, h2, ?_⟩
      · rw [h1, decide_eq_decide, List.mem_cons]
        constructor
        · exact .inr
        · rintro (e | h)
          · rcases h3 with h3 | h3
            · exact h3
            · simp at h3
          · exact h
      · rcases h3 with h3 | h3
        · exact .inl (List.mem_cons_of_mem _ h3)
        · exact .inr h3
  | case3 y b ih =>
    intro ha hb t h
    rw [bothOf] at h
    have hb' := List.pairwise_cons.1 hb
    rcases List.mem_cons.1 h with rfl | h
    · simp
    · obtain ⟨h1, h2, h3⟩ := ih ha hb'.2 t h
      have h4 : t.1 ∈ b := by simpa using h3
      refine ⟨h1, ?_, .inr (List.mem_cons_of_mem _ h4)⟩
      rw [h2, decide_eq_decide]
      exact ⟨fun h => List.mem_cons_of_mem _ h, fun _ => h4⟩
  | case4 z a y b hlt ih =>
    intro ha hb t h
    rw [bothOf, if_pos hlt] at h
    have ha' := List.pairwise_cons.1 ha
    have hb' := List.pairwise_cons.1 hb
    rcases List.mem_cons.1 h with rfl | h
    · refine ⟨by simp, ?_, .inl List.mem_cons_self⟩
      symm
      rw [decide_eq_false_iff_not, List.mem_cons]
      rintro (e | h')
      · simp at e; omega
      · have := hb'.1 _ h'; simp at this; omega
    · obtain ⟨h1, h2, h3⟩ := ih ha'.2 hb t h
      have hne : t.1 ≠ z := by
        rintro e
        rcases h3 with h3 | h3
        · have := ha'.1 _ h3; omega
        · rcases List.mem_cons.1 h3 with h3 | h3
          · omega
          · have := hb'.1 _ h3; omega
      refine ⟨by rw [h1, decide_eq_decide]; simp [hne], h2, by simp [hne]; simpa using h3⟩
  | case5 z a y b hlt hlt' ih =>
    intro ha hb t h
    rw [bothOf, if_neg hlt, if_pos hlt'] at h
    have ha' := List.pairwise_cons.1 ha
    have hb' := List.pairwise_cons.1 hb
    rcases List.mem_cons.1 h with rfl | h
    · refine ⟨?_, by simp, .inr List.mem_cons_self⟩
      symm
      rw [decide_eq_false_iff_not, List.mem_cons]
      rintro (e | h')
      · simp at e; omega
      · have := ha'.1 _ h'; simp at this; omega
    · obtain ⟨h1, h2, h3⟩ := ih ha hb'.2 t h
      have hne : t.1 ≠ y := by
        rintro e
        rcases h3 with h3 | h3
        · rcases List.mem_cons.1 h3 with h3 | h3
          · omega
          · have := ha'.1 _ h3; omega
        · have := hb'.1 _ h3; omega
      refine ⟨h1, by rw [h2, decide_eq_decide]; simp [hne], by simp [hne]; simpa using h3⟩
  | case6 z a y b hlt hlt' ih =>
    intro ha hb t h
    rw [bothOf, if_neg hlt, if_neg hlt'] at h
    obtain rfl : z = y := by omega
    have ha' := List.pairwise_cons.1 ha
    have hb' := List.pairwise_cons.1 hb
    rcases List.mem_cons.1 h with rfl | h
    · simp
    · obtain ⟨h1, h2, h3⟩ := ih ha'.2 hb'.2 t h
      have hne : t.1 ≠ z := by
        rintro e
        rcases h3 with h3 | h3
        · have := ha'.1 _ h3; omega
        · have := hb'.1 _ h3; omega
      refine ⟨by rw [h1, decide_eq_decide]; simp [hne], by rw [h2, decide_eq_decide]; simp [hne], by simp [hne]; exact h3⟩
theorem both_rise (a b : List Int) : Rise a → Rise b → (bothOf a b).Pairwise (fun s t => s.1 < t.1) := by
  induction a, b using bothOf.induct with
  | case1 => intro _ _; simp [bothOf]
  | case2 y a ih =>
    intro ha hb
    have ha' := List.pairwise_cons.1 ha
    rw [bothOf]
    refine List.pairwise_cons.2 ⟨fun t ht => ?_, ih ha'.2 hb⟩
    rcases (both_spec _ _ ha'.2 hb t ht).2.2 with h | h
    · exact ha'.1 _ h
    · simp at h
  | case3 y b ih =>
    intro ha hb
    have hb' := List.pairwise_cons.1 hb
    rw [bothOf]
    refine List.pairwise_cons.2 ⟨fun t ht => ?_, ih ha hb'.2⟩
    rcases (both_spec _ _ ha hb'.2 t ht).2.2 with h | h
    · simp at h
    · exact hb'.1 _ h
  | case4 z a y b hlt ih =>
    intro ha hb
    have ha' := List.pairwise_cons.1 ha
    have hb' := List.pairwise_cons.1 hb
    rw [bothOf, if_pos hlt]
    refine List.pairwise_cons.2 ⟨fun t ht => ?_, ih ha'.2 hb⟩
    rcases (both_spec _ _ ha'.2 hb t ht).2.2 with h | h
    · exact ha'.1 _ h
    · rcases List.mem_cons.1 h with h | h
      · show z < t.1; omega
      · have := hb'.1 _ h; show z < t.1; omega
  | case5 z a y b hlt hlt' ih =>
    intro ha hb
    have ha' := List.pairwise_cons.1 ha
    have hb' := List.pairwise_cons.1 hb
    rw [bothOf, if_neg hlt, if_pos hlt']
    refine List.pairwise_cons.2 ⟨fun t ht => ?_, ih ha hb'.2⟩
    rcases (both_spec _ _ ha hb'.2 t ht).2.2 with h | h
    · rcases List.mem_cons.1 h with h | h
      · show y < t.1; omega
      · have := ha'.1 _ h; show y < t.1; omega
    · exact hb'.1 _ h
  | case6 z a y b hlt hlt' ih =>
    intro ha hb
    have ha' := List.pairwise_cons.1 ha
    have hb' := List.pairwise_cons.1 hb
    rw [bothOf, if_neg hlt, if_neg hlt']
    refine List.pairwise_cons.2 ⟨fun t ht => ?_, ih ha'.2 hb'.2⟩
    rcases (both_spec _ _ ha'.2 hb'.2 t ht).2.2 with h | h
    · exact ha'.1 _ h
    · have := hb'.1 _ h; show z < t.1; omega
theorem sel_mem {p : Bool → Bool → Bool} {a b : List Int} (ha : Rise a) (hb : Rise b) (x : Int) :
    x ∈ selOf p (bothOf a b) ↔ (x ∈ a ∨ x ∈ b) ∧ p (decide (x ∈ a)) (decide (x ∈ b)) = true := by
  unfold selOf
  rw [List.mem_map]
  constructor
  · rintro ⟨t, ht, rfl⟩
    obtain ⟨h1, h2⟩ := List.mem_filter.1 ht
    obtain ⟨e1, e2, e3⟩ := both_spec a b ha hb t h1
    rw [e1, e2] at h2
    exact ⟨e3, h2⟩
  · rintro ⟨h1, h2⟩
    obtain ⟨t, ht, rfl⟩ := both_all a b x h1
    obtain ⟨e1, e2, e3⟩ := both_spec a b ha hb t ht
    refine ⟨t, List.mem_filter.2 ⟨ht, ?_⟩, rfl⟩
    rw [e1, e2]
    exact h2
theorem sel_rise {p : Bool → Bool → Bool} {a b : List Int} (ha : Rise a) (hb : Rise b) : Rise (selOf p (bothOf a b)) := by
  unfold selOf
  rw [Rise, List.pairwise_map]
  exact (both_rise a b ha hb).filter _
def mns (a b : List Int) : List Int := selOf (fun x y => x && !y) (bothOf a b)
theorem mns_some {a b : List Int} (h : a.length ≤ 1000000000) (h' : b.length ≤ 1000000000) : set_Minus.f a b = some (mns a b) := by rw [set_Minus.f, if_pos ⟨h, h'⟩]; rfl
theorem sel_len2 (p : Bool → Bool → Bool) (a b : List Int) : (selOf p (bothOf a b)).length ≤ a.length + b.length := Nat.le_trans (selOf_len _ _) (bothOf_len _ _)
theorem mns_len (a b : List Int) : (mns a b).length ≤ a.length + b.length := sel_len2 _ _ _
theorem mns_rise {a b : List Int} (ha : Rise a) (hb : Rise b) : Rise (mns a b) := sel_rise ha hb
theorem mns_mem {a b : List Int} (ha : Rise a) (hb : Rise b) (x : Int) : x ∈ mns a b ↔ x ∈ a ∧ x ∉ b := by
  unfold mns; rw [sel_mem ha hb]; simp only [Bool.and_eq_true, decide_eq_true_eq, Bool.not_eq_true', decide_eq_false_iff_not]
  exact ⟨fun h => h.2, fun h => ⟨.inl h.1, h⟩⟩
theorem step64 (j : Nat) (h : j ≤ 1000000000000000) : wrap64 ((j : Int) + 1) = ((j + 1 : Nat) : Int) := by rw [w64 (by omega) (by omega)]; omega
end Go.Proofs.Ytjncmiclpaodhaa
-- written by a program of this session (hprint.py), over the kit's printer
namespace Go.Proofs.Ytjncmiclpaodhaa.PHo
open Go.RowKit Go.Proofs.YtjncmiclpaodhaaW.PrintWords Go.Proofs.YtjncmiclpaodhaaW.PrintLast Go.Proofs.YtjncmiclpaodhaaW.PrintMore
attribute [local go_sem] max2_int min2_int max_two min_two max_three min_three max_four min_four   -- for this text's walks alone
set_option linter.unusedVariables false
set_option linter.unusedSimpArgs false
/-! ### stolonref01_Rows: function 34 -/
def stolonref01_Rows.l0 : Nat → List Int → List Int → Int → Option (Bool)
  | 0, _, _, _ => none
  | k + 1, x0, x1, x5 => if x5 < (x0.length : Int) then (if 0 ≤ x5 then (if x5 < (x1.length : Int) then (if (rd x0 x5) = (rd x1 x5) then (stolonref01_Rows.l0 k x0 x1 (wrap64 (x5 + 1))) else (some false)) else (none)) else (none)) else (some true)
def stolonref01_Rows.f (k : Nat) (l0 : List Int) (l1 : List Int) : Option (Bool) := if (l0.length : Int) = (l1.length : Int) then (stolonref01_Rows.l0 k l0 l1 0) else (some false)
theorem stolonref01_Rows.mono_l : ∀ k, (∀ y0 y1 y2, LeO (stolonref01_Rows.l0 k y0 y1 y2) (stolonref01_Rows.l0 (k + 1) y0 y1 y2))
  | 0 => fun _ _ _ r h => by simp [stolonref01_Rows.l0] at h
  | k + 1 => by
    have ih0 := stolonref01_Rows.mono_l k
    · intro y0 y1 y2
      unfold stolonref01_Rows.l0
      repeat' first
      | (with_reducible exact ih0 _ _ _)
      | (with_reducible exact LeO.refl _)
      | (with_reducible exact LeO.none _)
      | (with_reducible refine LeO.ite ?_ ?_)
      | (with_reducible refine LeO.bind ?_ (fun _ => ?_))
      | exact ih0 _ _ _
      | exact LeO.none _
      | refine LeO.ite ?_ ?_
      | refine LeO.bind ?_ (fun _ => ?_)
theorem stolonref01_Rows.mono : ∀ a0 a1 k, LeO (stolonref01_Rows.f k a0 a1) (stolonref01_Rows.f (k + 1) a0 a1) := by
  intro a0 a1 k
  have ih0 := stolonref01_Rows.mono_l k
  unfold stolonref01_Rows.f
  repeat' first
      | (with_reducible exact ih0 _ _ _)
      | (with_reducible exact LeO.refl _)
      | (with_reducible exact LeO.none _)
      | (with_reducible refine LeO.ite ?_ ?_)
      | (with_reducible refine LeO.bind ?_ (fun _ => ?_))
      | exact ih0 _ _ _
      | exact LeO.none _
      | refine LeO.ite ?_ ?_
      | refine LeO.bind ?_ (fun _ => ?_)
set_option maxHeartbeats 8000000 in
set_option maxRecDepth 100000 in
theorem stolonref01_Rows.calls (k : Nat) (A0 : Option Addr) (c0 : Nat) (l0 : List Int) (A1 : Option Addr) (c1 : Nat) (l1 : List Int) (r : Bool) (w : World) (hr0 : Kd.C (Kd.int .u32) w A0 l0.length l0) (hc0 : l0.length ≤ c0) (hr1 : Kd.C (Kd.int .u32) w A1 l1.length l1) (hc1 : l1.length ≤ c1) (h : stolonref01_Rows.f k l0 l1 = some r) :
    Calls Try.prog 34 #[.slice A0 l0.length c0, .slice A1 l1.length c1] w fun e w' => e = .returned (.bool r) ∧ Drawn0 w w' := by
  have HR0 := Aside0.mk hr0
  have HC0 := Aside0.mk hc0
  clear hr0 hc0
  have HR1 := Aside0.mk hr1
  have HC1 := Aside0.mk hc1
  clear hr1 hc1
  have H : (if (l0.length : Int) = (l1.length : Int) then (stolonref01_Rows.l0 k l0 l1 0) else (some false)) = some r := h
  clear h
  by_cases c3 : (l0.length : Int) = (l1.length : Int)
  · rw [if_pos c3] at H
    have c3b0 : ((l0.length : Int) == (l1.length : Int)) = true := beq_iff_eq.mpr c3
    have c3b1 : ((l0.length : Int) != (l1.length : Int)) = false := bne_eq_false_iff_eq.mpr c3
    have c3b2 : (l0.length == l1.length) = true := by first | simpa using c3 | (simp at c3 ⊢; omega)
    clear c3
    have H' := Aside0.mk H
    clear H
    go_enter Try.func34, Try.ntmps34
    go_wp2
    repeat (go_quiet (fail); try go_wp2)
    go_loopg [5] k (fun kq v5 w' => ∃ (x5_1 : Int), v5 = .int .i64 x5_1 ∧ Aside0 (stolonref01_Rows.l0 kq l0 l1 x5_1 = some r) ∧ Aside0 (kq ≤ k) ∧ Drawn0 w w')
    case atStart => exact ⟨(0), (by first | rfl | (simp; done) | (simp [*]; done)), H', ⟨Nat.le_refl _⟩, by repeat (first | exact Drawn0.refl _ | apply Drawn0.step)⟩
    case round =>
      clear H'
      try clear c1
      try clear p2
      try clear c3
      try clear c3b0
      try clear c3b1
      try clear c3b2
      obtain ⟨x5_1, rfl, HA, HK1, ⟨m1, rfl⟩⟩ := hrel
      cases gk with
      | zero => exact absurd HA.out (by simp [stolonref01_Rows.l0])
      | succ k1 =>
        have H := HA.out
        clear HA
        simp only [stolonref01_Rows.l0] at H
        by_cases c4 : x5_1 < (l0.length : Int)
        · rw [if_pos c4] at H
          have c4b0 : decide (x5_1 < (l0.length : Int)) = true := decide_eq_true c4
          clear c4
          by_cases c5 : 0 ≤ x5_1
          · rw [if_pos c5] at H
            have c5b0 : decide (0 ≤ x5_1) = true := decide_eq_true c5
            clear c5
            by_cases c6 : x5_1 < (l1.length : Int)
            · rw [if_pos c6] at H
              have c6b0 : decide (x5_1 < (l1.length : Int)) = true := decide_eq_true c6
              clear c6
              by_cases c7 : (rd l0 x5_1) = (rd l1 x5_1)
              · rw [if_pos c7] at H
                have c7b0 : ((rd l0 x5_1) == (rd l1 x5_1)) = true := beq_iff_eq.mpr c7
                have c7b1 : ((rd l0 x5_1) != (rd l1 x5_1)) = false := bne_eq_false_iff_eq.mpr c7
                clear c7
                have H' := Aside0.mk H
                clear H
                have p339 : 0 ≤ (x5_1 : Int) := of_decide_eq_true (by first | (with_reducible assumption) | assumption)
                have q339 : x5_1 < (l0.length : Int) := of_decide_eq_true (by first | (with_reducible assumption) | assumption)
                obtain ⟨ad339, e339, hx339_0⟩ := Kd.at_int HR0.out x5_1 p339 q339
                cases e339
                replace p339 := eq_true p339
                replace q339 := eq_true q339
                have p340 : 0 ≤ (x5_1 : Int) := of_decide_eq_true (by first | (with_reducible assumption) | assumption)
                have q340 : x5_1 < (l1.length : Int) := of_decide_eq_true (by first | (with_reducible assumption) | assumption)
                obtain ⟨ad340, e340, hx340_0⟩ := Kd.at_int HR1.out x5_1 p340 q340
                cases e340
                replace p340 := eq_true p340
                replace q340 := eq_true q340
                go_wp2
                repeat (go_quiet (fail); try go_wp2)
                go_roundg k1
                case measure => have := HK1.out; omega
                case rel => exact ⟨(wrap64 (x5_1 + 1)), (by first | rfl | (simp; done) | (simp [*]; done)), H', ⟨by have := HK1.out; omega⟩, by repeat (first | exact Drawn0.refl _ | apply Drawn0.step)⟩
              · rw [if_neg c7] at H
                have c7b0 : ((rd l0 x5_1) == (rd l1 x5_1)) = false := beq_eq_false_iff_ne.mpr c7
                have c7b1 : ((rd l0 x5_1) != (rd l1 x5_1)) = true := bne_iff_ne.mpr c7
                obtain rfl := Option.some.inj H
                have p339 : 0 ≤ (x5_1 : Int) := of_decide_eq_true (by first | (with_reducible assumption) | assumption)
                have q339 : x5_1 < (l0.length : Int) := of_decide_eq_true (by first | (with_reducible assumption) | assumption)
                obtain ⟨ad339, e339, hx339_0⟩ := Kd.at_int HR0.out x5_1 p339 q339
                cases e339
                replace p339 := eq_true p339
                replace q339 := eq_true q339
                have p340 : 0 ≤ (x5_1 : Int) := of_decide_eq_true (by first | (with_reducible assumption) | assumption)
                have q340 : x5_1 < (l1.length : Int) := of_decide_eq_true (by first | (with_reducible assumption) | assumption)
                obtain ⟨ad340, e340, hx340_0⟩ := Kd.at_int HR1.out x5_1 p340 q340
                cases e340
                replace p340 := eq_true p340
                replace q340 := eq_true q340
                go_wp2
                repeat (go_quiet (fail); try go_wp2)
                go_ret
                exact ⟨by first | rfl | (simp; done) | (simp [*]; done), by repeat (first | exact Drawn0.refl _ | apply Drawn0.step)⟩
            · rw [if_neg c6] at H
              exact absurd H (by simp)
          · rw [if_neg c5] at H
            exact absurd H (by simp)
        · rw [if_neg c4] at H
          have c4b0 : decide (x5_1 < (l0.length : Int)) = false := decide_eq_false c4
          clear c4
          obtain rfl := Option.some.inj H
          go_wp2
          repeat (go_quiet (fail); try go_wp2)
          go_ret
          exact ⟨by first | rfl | (simp; done) | (simp [*]; done), by repeat (first | exact Drawn0.refl _ | apply Drawn0.step)⟩
  · rw [if_neg c3] at H
    have c3b0 : ((l0.length : Int) == (l1.length : Int)) = false := beq_eq_false_iff_ne.mpr c3
    have c3b1 : ((l0.length : Int) != (l1.length : Int)) = true := bne_iff_ne.mpr c3
    have c3b2 : (l0.length == l1.length) = false := by first | simpa using c3 | (simp at c3 ⊢; omega)
    obtain rfl := Option.some.inj H
    go_enter Try.func34, Try.ntmps34
    go_wp2
    repeat (go_quiet (fail); try go_wp2)
    go_ret
    exact ⟨by first | rfl | (simp; done) | (simp [*]; done), by repeat (first | exact Drawn0.refl _ | apply Drawn0.step)⟩
end Go.Proofs.Ytjncmiclpaodhaa.PHo
