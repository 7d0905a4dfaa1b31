/-
  The document's example of chapter 07: a socket put into an empty host.
-/
import Derived.Test.YtjncmiclpaodhaaPHox2
import Derived.Test.YtjncmiclpaodhaaPHoy2
import Derived.Test.YtjncmiclpaodhaaPHox11
import Derived.Test.YtjncmiclpaodhaaSoI
import Derived.Test.YtjncmiclpaodhaaSoM
namespace Go.Proofs.Ytjncmiclpaodhaa
open Go.RowKit Go.Proofs.YtjncmiclpaodhaaW.PrintWords Go.Proofs.YtjncmiclpaodhaaW.PrintLast Go.Proofs.YtjncmiclpaodhaaW.PrintMore Go.Proofs.Ytjncmiclpaodhaa.PHo
set_option linter.unusedVariables false
set_option linter.unusedSimpArgs false
set_option maxHeartbeats 8000000 in
set_option maxRecDepth 100000 in
theorem bs0_w (id : Int) (f : Value) (w : World) : Calls Try.prog 50 #[.slice none 0 0, .int .i64 id, f] w fun e w' => e = .returned (.tuple #[.int .i64 0, .bool false]) ∧ Below w.heap.size w w' := by
  have HB := Aside0.mk (Below.refl w.heap.size w)
  go_enter Try.func50, Try.ntmps50
  go_wp2
  go_loopg [9, 10] 0 (fun gk v9 v10 w' => v9 = .int .i64 0 ∧ v10 = .int .i64 0 ∧ Aside0 (Below w.heap.size w w'))
  case atStart => exact ⟨rfl, rfl, HB⟩
  case round =>
    clear HB
    obtain ⟨rfl, rfl, HB⟩ := hrel
    go_wp2
    go_ret2
    exact ⟨rfl, HB.out⟩
set_option maxHeartbeats 8000000 in
set_option maxRecDepth 100000 in
theorem place0_w (id : Int) (w : World) : Calls Try.prog 29 #[.agg #[.slice none 0 0], .int .i64 id] w fun e w' => e = .returned (.tuple #[.int .i64 0, .bool false]) ∧ Below w.heap.size w w' := by
  have hu40 := Try.underlying40
  have HB := Aside0.mk (Below.refl w.heap.size w)
  go_enter Try.func29, Try.ntmps29
  go_wp2_with (first | ((with_reducible refine gate_dst (N := 2) rfl ?_); (try (refine gate_guard (by rfl) ?_; dsimp only)); refine box_event ?hg (N := 2) ?hd (cs := #[.slice none 0 0]) (t := 40) ?hr ?_; (case hd => rfl); (case hg => rfl); (case hr => first | (go_simp; done) | (go_simp; rfl)); intro gh hg w1_ hbox hB; have HBo := Aside0.mk HB.out; have nHB := Aside0.mk (HB.out.trans (hB.mono HB.out.size)); clear HB; have HB := nHB; clear nHB; have BK_gh := Aside0.mk hbox; have GE_gh := Aside0.mk (show w.heap.size ≤ gh by rw [hg]; exact HBo.out.size); clear hg hbox hB; have hc_gh_0 : w1_.cell? ⟨gh, 0, none⟩ = some (.slice none 0 0) := (blk_cell BK_gh.out 0).trans rfl; have hf_gh_0 := blk_frozen BK_gh.out 0; clear HBo) | (go_at_call 50; with_reducible refine (bs0_w id _ _).mono ?_; rintro e w2_ ⟨rfl, hB⟩; have nHB := Aside0.mk (HB.out.trans (hB.mono HB.out.size)); clear HB; have HB := nHB; clear nHB; clear hc_gh_0 hf_gh_0; have nBK := Aside0.mk (blk_below (g := gh) (o := .cells #[.slice none 0 0] 40 (0, 0)) BK_gh.out hB); clear BK_gh; have BK_gh := nBK; clear nBK; have hc_gh_0 : w2_.cell? ⟨gh, 0, none⟩ = some (.slice none 0 0) := (blk_cell BK_gh.out 0).trans rfl; have hf_gh_0 := blk_frozen BK_gh.out 0; clear hB))
  go_ret2
  exact ⟨rfl, HB.out⟩
set_option maxHeartbeats 8000000 in
set_option maxRecDepth 100000 in
theorem eqnil_ {ops : Array Oper} {Q : Exit → Act → World → Prop} {rest : List Oper} {o : Oper} {a : Act} {w : World} (hg : o.guard = none) (x y : Operand) (hop : o.op = .binOp .eql 38 x y 38) (hx : a.eval x = .slice none 0 0) (hy : a.eval y = .slice none 0 0)
    (h : wpList Try.prog ops Q rest (a.put o.dst (.bool true)) w) : wpList Try.prog ops Q (o :: rest) a w := by
  have hrun : (binOp .eql 38 (.slice none 0 0) (.slice none 0 0)).run Try.prog w = .ok (.bool true) w := by kernel_rfl
  refine wpList_plain hg fun K hK => ?_
  unfold Oper.wp
  simp only [execOp, hop, hx, hy, Sem.run_bind, hrun, Result.andThen]
  exact hK _ _ h
set_option maxHeartbeats 8000000 in
set_option maxRecDepth 100000 in
theorem clone0_w (w : World) : Calls Try.prog 31 #[.slice none 0 0] w fun e w' => e = .returned (.slice none 0 0) ∧ Below w.heap.size w w' := by
  go_enter Try.func31, Try.ntmps31
  go_wp2_with (first | ((with_reducible refine gate_dst (N := 4) rfl ?_); refine eqnil_ rfl _ _ rfl rfl rfl ?_))
  go_ret
  exact ⟨rfl, Below.refl _ _⟩
theorem info42_ : (Try.prog.info? 42).map (fun i => (i.zero, i.size, i.bytes)) = some (some (.agg #[.int .i64 0, .int .u32 0, .bool false, .slice none 0 0]), 4, 48) := by kernel_rfl
set_option maxHeartbeats 8000000 in
set_option maxRecDepth 100000 in
theorem insert0_w (x : S42) (A : Option Addr) (c : Nat) (P : Nat → Prop) (w : World) (hs : Kd.V k42 42 w 0 P (.slice A 1 c) [x]) : Calls Try.prog 32 #[.slice none 0 0, .int .i64 0, .slice A 1 c] w fun e w' => ∃ v, e = .returned v ∧ Kd.V k42 42 w' 0 (fun k => P k ∨ w.heap.size ≤ k) v [x] ∧ Below w.heap.size w w' := by
  have HV := Aside0.mk hs
  clear hs
  go_enter Try.func32, Try.ntmps32
  go_wp2_with (first | ((with_reducible refine gate_builtin (b := .append) (xs := #[.tmp 23, .tmp 24]) rfl ?_); at_builtin; refine Kd.N_append_rows k42 (w0 := w) w.heap.size rfl (.tmp 23) (.tmp 24) 38 42 (.agg #[.int .i64 0, .int .u32 0, .bool false, .slice none 0 0]) 48 rfl Try.underlying38 info42_ rfl (by decide) (by decide) (.slice none 0 0) [] [x] A 1 c (fun k => P k ∨ w.heap.size ≤ k) P rfl rfl (Kd.N_nil _ _ _ _ _) (Kd.V_F HV.out) (fun k hk => ⟨.inl hk, by simp [Value.ownBlock]⟩) (fun k hk => .inr hk) (Below.refl _ _) (Nat.le_refl _) (by simp) ?_; intro v_m wm hN hB _ _; have HN := Aside0.mk hN; have HB := Aside0.mk hB; clear hN hB))
  go_ret
  exact ⟨_, rfl, Kd.N_V HN.out, HB.out⟩
def sk : S42 := ⟨1, 4009820675, ⟨true, []⟩⟩
def rk : S36 := ⟨4, 4009820675, []⟩
theorem changed0 : host_changed.f 9 [] [sk] 4009820675 = some ([sk], [rk], 0) := by kernel_rfl
theorem right0 : host_right.f 9 1 4009820675 true [] = some true := by rfl
theorem Right0 : host_Right.f 9 [sk] = some true := by kernel_rfl
theorem Groups0 : host_Groups.f 9 [sk] = some [4009820675] := by kernel_rfl
theorem right0_w (w : World) : Calls Try.prog 30 #[.agg #[.int .i64 1, .int .u32 4009820675, .bool true, .slice none 0 0]] w fun e w' => e = .returned (.bool true) ∧ Below w.heap.size w w' := host_right.calls 9 1 4009820675 true none 0 [] true w (Kd.C_nil _ _) (Nat.le_refl _) right0
def put_T3 : Bool × List (List Nat × List Nat) := (true, [([], []), ([0], [0]), ([1], [1]), ([2, 1], [1, 2]), ([1], [1]), ([3, 4, 1], [1, 3, 4]), ([5, 1], [1, 5]), ([6, 1], [1, 6]), ([1], [1]), ([8, 1], [1, 8]), ([7, 9, 1], [1, 7, 9]), ([1, 10], [1, 10]), ([11, 1], [11])])
def put_B3 : List Nat := [0, 1, 3, 7, 3, 31, 63, 127, 3, 259, 1023, 2047, 4095]
theorem put_t3 : rtab .any (opsOf Try.f15 3) = put_T3 := by kernel_rfl
theorem put_b3 : waitsOk put_T3.2 put_B3 = true := by kernel_rfl
set_option maxHeartbeats 8000000 in
set_option maxRecDepth 100000 in
theorem put0_w (w : World) : Calls Try.prog 15 #[.agg #[.slice none 0 0], .agg #[.int .i64 1, .int .u32 4009820675, .bool true, .slice none 0 0]] w fun e w' => ∃ v0 v1, e = .returned (.tuple #[.agg #[v0], v1, .int .i64 0]) ∧ Kd.V k42 42 w' 0 (fun k => w.heap.size ≤ k) v0 [sk] ∧ Kd.V k36 36 w' 0 (fun k => w.heap.size ≤ k) v1 [rk] ∧ Below w.heap.size w w' := by
  have hu40 := Try.underlying40
  have hu42 := Try.underlying42
  have HB := Aside0.mk (Below.refl w.heap.size w)
  go_enter Try.func15, Try.ntmps15
  go_upto_region 3 with (first | ((with_reducible refine gate_dst (N := 2) rfl ?_); (try (refine gate_guard (by rfl) ?_; dsimp only)); refine box_event ?hg (N := 2) ?hd (cs := #[.slice none 0 0]) (t := 40) ?hr ?_; (case hd => rfl); (case hg => rfl); (case hr => first | (go_simp; done) | (go_simp; rfl)); intro gh hg w1_ hbox hB; have HBo := Aside0.mk HB.out; have nHB := Aside0.mk (HB.out.trans (hB.mono HB.out.size)); clear HB; have HB := nHB; clear nHB; have BK_gh := Aside0.mk hbox; have GE_gh := Aside0.mk (show w.heap.size ≤ gh by rw [hg]; exact HBo.out.size); clear hg hbox hB; have hc_gh_0 : w1_.cell? ⟨gh, 0, none⟩ = some (.slice none 0 0) := (blk_cell BK_gh.out 0).trans rfl; have hf_gh_0 := blk_frozen BK_gh.out 0; clear HBo) | ((with_reducible refine gate_dst (N := 3) rfl ?_); (try (refine gate_guard (by rfl) ?_; dsimp only)); refine box_event ?hg (N := 3) ?hd (cs := #[.int .i64 1, .int .u32 4009820675, .bool true, .slice none 0 0]) (t := 42) ?hr ?_; (case hd => rfl); (case hg => rfl); (case hr => first | (go_simp; done) | (go_simp; rfl)); intro gs hg w2_ hbox hB; have HBo := Aside0.mk HB.out; have BK0_gh := Aside0.mk BK_gh.out; have nHB := Aside0.mk (HB.out.trans (hB.mono HB.out.size)); clear HB; have HB := nHB; clear nHB; clear hc_gh_0 hf_gh_0; have nBK := Aside0.mk (blk_below (g := gh) (o := .cells #[.slice none 0 0] 40 (0, 0)) BK_gh.out hB); clear BK_gh; have BK_gh := nBK; clear nBK; have hc_gh_0 : w2_.cell? ⟨gh, 0, none⟩ = some (.slice none 0 0) := (blk_cell BK_gh.out 0).trans rfl; have hf_gh_0 := blk_frozen BK_gh.out 0; have BK_gs := Aside0.mk hbox; have GE_gs := Aside0.mk (show w.heap.size ≤ gs by rw [hg]; exact HBo.out.size); have NB_gs_gh := Aside0.mk (show gs ≠ gh by rw [hg]; exact Nat.ne_of_gt (blk_lt (g := gh) (o := .cells #[.slice none 0 0] 40 (0, 0)) BK0_gh.out)); have NB_gh_gs := Aside0.mk (Ne.symm NB_gs_gh.out); clear BK0_gh; clear hg hbox hB; have hc_gs_0 : w2_.cell? ⟨gs, 0, none⟩ = some (.int .i64 1) := (blk_cell BK_gs.out 0).trans rfl; have hf_gs_0 := blk_frozen BK_gs.out 0; have hc_gs_1 : w2_.cell? ⟨gs, 1, none⟩ = some (.int .u32 4009820675) := (blk_cell BK_gs.out 1).trans rfl; have hf_gs_1 := blk_frozen BK_gs.out 1; have hc_gs_2 : w2_.cell? ⟨gs, 2, none⟩ = some (.bool true) := (blk_cell BK_gs.out 2).trans rfl; have hf_gs_2 := blk_frozen BK_gs.out 2; have hc_gs_3 : w2_.cell? ⟨gs, 3, none⟩ = some (.slice none 0 0) := (blk_cell BK_gs.out 3).trans rfl; have hf_gs_3 := blk_frozen BK_gs.out 3; clear HBo) | ((with_reducible refine gate_dst (N := 4) rfl ?_); (try (refine gate_guard (by rfl) ?_; dsimp only)); refine box_event ?hg (N := 4) ?hd (cs := #[.slice none 0 0]) (t := 40) ?hr ?_; (case hd => rfl); (case hg => rfl); (case hr => first | (go_simp; done) | (go_simp; rfl)); intro gr hg w3_ hbox hB; have HBo := Aside0.mk HB.out; have BK0_gh := Aside0.mk BK_gh.out; have BK0_gs := Aside0.mk BK_gs.out; have nHB := Aside0.mk (HB.out.trans (hB.mono HB.out.size)); clear HB; have HB := nHB; clear nHB; clear hc_gh_0 hf_gh_0; have nBK := Aside0.mk (blk_below (g := gh) (o := .cells #[.slice none 0 0] 40 (0, 0)) BK_gh.out hB); clear BK_gh; have BK_gh := nBK; clear nBK; have hc_gh_0 : w3_.cell? ⟨gh, 0, none⟩ = some (.slice none 0 0) := (blk_cell BK_gh.out 0).trans rfl; have hf_gh_0 := blk_frozen BK_gh.out 0; clear hc_gs_0 hf_gs_0 hc_gs_1 hf_gs_1 hc_gs_2 hf_gs_2 hc_gs_3 hf_gs_3; have nBK := Aside0.mk (blk_below (g := gs) (o := .cells #[.int .i64 1, .int .u32 4009820675, .bool true, .slice none 0 0] 42 (0, 0)) BK_gs.out hB); clear BK_gs; have BK_gs := nBK; clear nBK; have hc_gs_0 : w3_.cell? ⟨gs, 0, none⟩ = some (.int .i64 1) := (blk_cell BK_gs.out 0).trans rfl; have hf_gs_0 := blk_frozen BK_gs.out 0; have hc_gs_1 : w3_.cell? ⟨gs, 1, none⟩ = some (.int .u32 4009820675) := (blk_cell BK_gs.out 1).trans rfl; have hf_gs_1 := blk_frozen BK_gs.out 1; have hc_gs_2 : w3_.cell? ⟨gs, 2, none⟩ = some (.bool true) := (blk_cell BK_gs.out 2).trans rfl; have hf_gs_2 := blk_frozen BK_gs.out 2; have hc_gs_3 : w3_.cell? ⟨gs, 3, none⟩ = some (.slice none 0 0) := (blk_cell BK_gs.out 3).trans rfl; have hf_gs_3 := blk_frozen BK_gs.out 3; have BK_gr := Aside0.mk hbox; have GE_gr := Aside0.mk (show w.heap.size ≤ gr by rw [hg]; exact HBo.out.size); have NB_gr_gh := Aside0.mk (show gr ≠ gh by rw [hg]; exact Nat.ne_of_gt (blk_lt (g := gh) (o := .cells #[.slice none 0 0] 40 (0, 0)) BK0_gh.out)); have NB_gh_gr := Aside0.mk (Ne.symm NB_gr_gh.out); clear BK0_gh; have NB_gr_gs := Aside0.mk (show gr ≠ gs by rw [hg]; exact Nat.ne_of_gt (blk_lt (g := gs) (o := .cells #[.int .i64 1, .int .u32 4009820675, .bool true, .slice none 0 0] 42 (0, 0)) BK0_gs.out)); have NB_gs_gr := Aside0.mk (Ne.symm NB_gr_gs.out); clear BK0_gs; clear hg hbox hB; have hc_gr_0 : w3_.cell? ⟨gr, 0, none⟩ = some (.slice none 0 0) := (blk_cell BK_gr.out 0).trans rfl; have hf_gr_0 := blk_frozen BK_gr.out 0; clear HBo) | (go_at_call 29; with_reducible refine (place0_w 1 _).mono ?_; rintro e w4_ ⟨rfl, hB⟩; have nHB := Aside0.mk (HB.out.trans (hB.mono HB.out.size)); clear HB; have HB := nHB; clear nHB; clear hc_gh_0 hf_gh_0; have nBK := Aside0.mk (blk_below (g := gh) (o := .cells #[.slice none 0 0] 40 (0, 0)) BK_gh.out hB); clear BK_gh; have BK_gh := nBK; clear nBK; have hc_gh_0 : w4_.cell? ⟨gh, 0, none⟩ = some (.slice none 0 0) := (blk_cell BK_gh.out 0).trans rfl; have hf_gh_0 := blk_frozen BK_gh.out 0; clear hc_gs_0 hf_gs_0 hc_gs_1 hf_gs_1 hc_gs_2 hf_gs_2 hc_gs_3 hf_gs_3; have nBK := Aside0.mk (blk_below (g := gs) (o := .cells #[.int .i64 1, .int .u32 4009820675, .bool true, .slice none 0 0] 42 (0, 0)) BK_gs.out hB); clear BK_gs; have BK_gs := nBK; clear nBK; have hc_gs_0 : w4_.cell? ⟨gs, 0, none⟩ = some (.int .i64 1) := (blk_cell BK_gs.out 0).trans rfl; have hf_gs_0 := blk_frozen BK_gs.out 0; have hc_gs_1 : w4_.cell? ⟨gs, 1, none⟩ = some (.int .u32 4009820675) := (blk_cell BK_gs.out 1).trans rfl; have hf_gs_1 := blk_frozen BK_gs.out 1; have hc_gs_2 : w4_.cell? ⟨gs, 2, none⟩ = some (.bool true) := (blk_cell BK_gs.out 2).trans rfl; have hf_gs_2 := blk_frozen BK_gs.out 2; have hc_gs_3 : w4_.cell? ⟨gs, 3, none⟩ = some (.slice none 0 0) := (blk_cell BK_gs.out 3).trans rfl; have hf_gs_3 := blk_frozen BK_gs.out 3; clear hc_gr_0 hf_gr_0; have nBK := Aside0.mk (blk_below (g := gr) (o := .cells #[.slice none 0 0] 40 (0, 0)) BK_gr.out hB); clear BK_gr; have BK_gr := nBK; clear nBK; have hc_gr_0 : w4_.cell? ⟨gr, 0, none⟩ = some (.slice none 0 0) := (blk_cell BK_gr.out 0).trans rfl; have hf_gr_0 := blk_frozen BK_gr.out 0; clear hB) | (go_at_call 30; with_reducible refine (right0_w _).mono ?_; rintro e w5_ ⟨rfl, hB⟩; have nHB := Aside0.mk (HB.out.trans (hB.mono HB.out.size)); clear HB; have HB := nHB; clear nHB; clear hc_gh_0 hf_gh_0; have nBK := Aside0.mk (blk_below (g := gh) (o := .cells #[.slice none 0 0] 40 (0, 0)) BK_gh.out hB); clear BK_gh; have BK_gh := nBK; clear nBK; have hc_gh_0 : w5_.cell? ⟨gh, 0, none⟩ = some (.slice none 0 0) := (blk_cell BK_gh.out 0).trans rfl; have hf_gh_0 := blk_frozen BK_gh.out 0; clear hc_gs_0 hf_gs_0 hc_gs_1 hf_gs_1 hc_gs_2 hf_gs_2 hc_gs_3 hf_gs_3; have nBK := Aside0.mk (blk_below (g := gs) (o := .cells #[.int .i64 1, .int .u32 4009820675, .bool true, .slice none 0 0] 42 (0, 0)) BK_gs.out hB); clear BK_gs; have BK_gs := nBK; clear nBK; have hc_gs_0 : w5_.cell? ⟨gs, 0, none⟩ = some (.int .i64 1) := (blk_cell BK_gs.out 0).trans rfl; have hf_gs_0 := blk_frozen BK_gs.out 0; have hc_gs_1 : w5_.cell? ⟨gs, 1, none⟩ = some (.int .u32 4009820675) := (blk_cell BK_gs.out 1).trans rfl; have hf_gs_1 := blk_frozen BK_gs.out 1; have hc_gs_2 : w5_.cell? ⟨gs, 2, none⟩ = some (.bool true) := (blk_cell BK_gs.out 2).trans rfl; have hf_gs_2 := blk_frozen BK_gs.out 2; have hc_gs_3 : w5_.cell? ⟨gs, 3, none⟩ = some (.slice none 0 0) := (blk_cell BK_gs.out 3).trans rfl; have hf_gs_3 := blk_frozen BK_gs.out 3; clear hc_gr_0 hf_gr_0; have nBK := Aside0.mk (blk_below (g := gr) (o := .cells #[.slice none 0 0] 40 (0, 0)) BK_gr.out hB); clear BK_gr; have BK_gr := nBK; clear nBK; have hc_gr_0 : w5_.cell? ⟨gr, 0, none⟩ = some (.slice none 0 0) := (blk_cell BK_gr.out 0).trans rfl; have hf_gr_0 := blk_frozen BK_gr.out 0; clear hB))
  refine start_ (n := 13) (S := fun w' => w'.cell? ⟨gh, 0, none⟩ = some (.slice none 0 0) ∧ w'.cell? ⟨gs, 0, none⟩ = some (.int .i64 1) ∧ w'.cell? ⟨gs, 1, none⟩ = some (.int .u32 4009820675) ∧ w'.cell? ⟨gs, 2, none⟩ = some (.bool true) ∧ w'.cell? ⟨gs, 3, none⟩ = some (.slice none 0 0) ∧ w'.cell? ⟨gr, 0, none⟩ = some (.slice none 0 0)) (ds := []) #[false, false, false, false, false, false, false, false, false, false, false, false, false] (by kernel_rfl) rfl rfl ⟨hc_gh_0, hc_gs_0, hc_gs_1, hc_gs_2, hc_gs_3, hc_gr_0⟩ (fun hHeld => ?_); refine with_tabW put_t3 put_b3 (fun HT_ HW_ => ?_)
  have hB : Below w5_.heap.size w5_ w5_.drew := below_drew (Below.refl _ _)
  generalize w5_.drew = w6_ at hB hHeld ⊢
  have nHB := Aside0.mk (HB.out.trans (hB.mono HB.out.size))
  clear HB
  have HB := nHB
  clear nHB
  clear hc_gh_0 hf_gh_0
  have nBK := Aside0.mk (blk_below (g := gh) (o := .cells #[.slice none 0 0] 40 (0, 0)) BK_gh.out hB)
  clear BK_gh
  have BK_gh := nBK
  clear nBK
  have hc_gh_0 : w6_.cell? ⟨gh, 0, none⟩ = some (.slice none 0 0) := (blk_cell BK_gh.out 0).trans rfl
  have hf_gh_0 := blk_frozen BK_gh.out 0
  clear hc_gs_0 hf_gs_0 hc_gs_1 hf_gs_1 hc_gs_2 hf_gs_2 hc_gs_3 hf_gs_3
  have nBK := Aside0.mk (blk_below (g := gs) (o := .cells #[.int .i64 1, .int .u32 4009820675, .bool true, .slice none 0 0] 42 (0, 0)) BK_gs.out hB)
  clear BK_gs
  have BK_gs := nBK
  clear nBK
  have hc_gs_0 : w6_.cell? ⟨gs, 0, none⟩ = some (.int .i64 1) := (blk_cell BK_gs.out 0).trans rfl
  have hf_gs_0 := blk_frozen BK_gs.out 0
  have hc_gs_1 : w6_.cell? ⟨gs, 1, none⟩ = some (.int .u32 4009820675) := (blk_cell BK_gs.out 1).trans rfl
  have hf_gs_1 := blk_frozen BK_gs.out 1
  have hc_gs_2 : w6_.cell? ⟨gs, 2, none⟩ = some (.bool true) := (blk_cell BK_gs.out 2).trans rfl
  have hf_gs_2 := blk_frozen BK_gs.out 2
  have hc_gs_3 : w6_.cell? ⟨gs, 3, none⟩ = some (.slice none 0 0) := (blk_cell BK_gs.out 3).trans rfl
  have hf_gs_3 := blk_frozen BK_gs.out 3
  clear hc_gr_0 hf_gr_0
  have nBK := Aside0.mk (blk_below (g := gr) (o := .cells #[.slice none 0 0] 40 (0, 0)) BK_gr.out hB)
  clear BK_gr
  have BK_gr := nBK
  clear nBK
  have hc_gr_0 : w6_.cell? ⟨gr, 0, none⟩ = some (.slice none 0 0) := (blk_cell BK_gr.out 0).trans rfl
  have hf_gr_0 := blk_frozen BK_gr.out 0
  clear hB
  refine pure_ (i := 0) (N := some 21) (v := ?_) (a' := ?_) #[true, false, false, false, false, false, false, false, false, false, false, false, false] rfl rfl (any_of HT_.out (by kernel_rfl)) (fun _ _ _ h => h) (Or.inl ⟨by rfl, ?_⟩) ?_ ?_
  rotate_left
  · intro w'
    go_simp
    with_reducible rfl
  rotate_left
  · simp only [Act.put, List.setIfInBounds_toArray, List.set_cons_zero, List.set_cons_succ, i64_w, i32_w]
    rfl
  refine pure_ (i := 1) (N := some 22) (v := ?_) (a' := ?_) #[true, true, false, false, false, false, false, false, false, false, false, false, false] rfl rfl (any_of HT_.out (by kernel_rfl)) (fun _ _ _ h => h) (Or.inl ⟨by rfl, ?_⟩) ?_ ?_
  rotate_left
  · intro w'
    go_simp
    with_reducible rfl
  rotate_left
  · simp only [Act.put, List.setIfInBounds_toArray, List.set_cons_zero, List.set_cons_succ, i64_w, i32_w]
    rfl
  refine pure_ (i := 2) (N := some 23) (v := undef) (a' := ?_) #[true, true, true, false, false, false, false, false, false, false, false, false, false] rfl rfl (any_of HT_.out (by kernel_rfl)) (fun _ _ _ h => h) (Or.inr ⟨by rfl, rfl⟩) ?_ ?_
  rotate_left
  · simp only [Act.put, List.setIfInBounds_toArray, List.set_cons_zero, List.set_cons_succ, i64_w, i32_w]
    rfl
  refine pure_ (i := 3) (N := some 24) (v := undef) (a' := ?_) #[true, true, true, true, false, false, false, false, false, false, false, false, false] rfl rfl (any_of HT_.out (by kernel_rfl)) (fun _ _ _ h => h) (Or.inr ⟨by rfl, rfl⟩) ?_ ?_
  rotate_left
  · simp only [Act.put, List.setIfInBounds_toArray, List.set_cons_zero, List.set_cons_succ, i64_w, i32_w]
    rfl
  refine pure_ (i := 4) (N := some 25) (v := undef) (a' := ?_) #[true, true, true, true, true, false, false, false, false, false, false, false, false] rfl rfl (any_of HT_.out (by kernel_rfl)) (fun _ _ _ h => h) (Or.inr ⟨by rfl, rfl⟩) ?_ ?_
  rotate_left
  · simp only [Act.put, List.setIfInBounds_toArray, List.set_cons_zero, List.set_cons_succ, i64_w, i32_w]
    rfl
  refine pure_ (i := 5) (N := some 26) (v := undef) (a' := ?_) #[true, true, true, true, true, true, false, false, false, false, false, false, false] rfl rfl (any_of HT_.out (by kernel_rfl)) (fun _ _ _ h => h) (Or.inr ⟨by rfl, rfl⟩) ?_ ?_
  rotate_left
  · simp only [Act.put, List.setIfInBounds_toArray, List.set_cons_zero, List.set_cons_succ, i64_w, i32_w]
    rfl
  refine pure_ (i := 6) (N := some 27) (v := undef) (a' := ?_) #[true, true, true, true, true, true, true, false, false, false, false, false, false] rfl rfl (any_of HT_.out (by kernel_rfl)) (fun _ _ _ h => h) (Or.inr ⟨by rfl, rfl⟩) ?_ ?_
  rotate_left
  · simp only [Act.put, List.setIfInBounds_toArray, List.set_cons_zero, List.set_cons_succ, i64_w, i32_w]
    rfl
  refine pure_ (i := 7) (N := some 28) (v := undef) (a' := ?_) #[true, true, true, true, true, true, true, true, false, false, false, false, false] rfl rfl (any_of HT_.out (by kernel_rfl)) (fun _ _ _ h => h) (Or.inr ⟨by rfl, rfl⟩) ?_ ?_
  rotate_left
  · simp only [Act.put, List.setIfInBounds_toArray, List.set_cons_zero, List.set_cons_succ, i64_w, i32_w]
    rfl
  refine pure_ (i := 8) (N := some 29) (v := undef) (a' := ?_) #[true, true, true, true, true, true, true, true, true, false, false, false, false] rfl rfl (any_of HT_.out (by kernel_rfl)) (fun _ _ _ h => h) (Or.inr ⟨by rfl, rfl⟩) ?_ ?_
  rotate_left
  · simp only [Act.put, List.setIfInBounds_toArray, List.set_cons_zero, List.set_cons_succ, i64_w, i32_w]
    rfl
  refine pure_ (i := 9) (N := some 30) (v := undef) (a' := ?_) #[true, true, true, true, true, true, true, true, true, true, false, false, false] rfl rfl (any_of HT_.out (by kernel_rfl)) (fun _ _ _ h => h) (Or.inr ⟨by rfl, rfl⟩) ?_ ?_
  rotate_left
  · simp only [Act.put, List.setIfInBounds_toArray, List.set_cons_zero, List.set_cons_succ, i64_w, i32_w]
    rfl
  refine pure_ (i := 10) (N := some 31) (v := undef) (a' := ?_) #[true, true, true, true, true, true, true, true, true, true, true, false, false] rfl rfl (any_of HT_.out (by kernel_rfl)) (fun _ _ _ h => h) (Or.inr ⟨by rfl, rfl⟩) ?_ ?_
  rotate_left
  · simp only [Act.put, List.setIfInBounds_toArray, List.set_cons_zero, List.set_cons_succ, i64_w, i32_w]
    rfl
  refine pure_ (i := 11) (N := some 32) (v := ?_) (a' := ?_) #[true, true, true, true, true, true, true, true, true, true, true, true, false] rfl rfl (any_of HT_.out (by kernel_rfl)) (fun _ _ _ h => h) (Or.inl ⟨by rfl, ?_⟩) ?_ ?_
  rotate_left
  · intro w'
    go_simp
    with_reducible rfl
  rotate_left
  · simp only [Act.put, List.setIfInBounds_toArray, List.set_cons_zero, List.set_cons_succ, i64_w, i32_w]
    rfl
  refine pure_ (i := 12) (N := some 17) (v := ?_) (a' := ?_) #[true, true, true, true, true, true, true, true, true, true, true, true, true] rfl rfl (any_of HT_.out (by kernel_rfl)) (fun _ _ _ h => h) (Or.inl ⟨by rfl, ?_⟩) ?_ ?_
  rotate_left
  · intro w'
    go_simp
    with_reducible rfl
  rotate_left
  · simp only [Act.put, List.setIfInBounds_toArray, List.set_cons_zero, List.set_cons_succ, i64_w, i32_w]
    rfl
  refine done_ (done_of HT_.out (by kernel_rfl)) ?_
  go_upto_region 10 with (first | (go_at_call 31; with_reducible refine (clone0_w _).mono ?_; rintro e w7_ ⟨rfl, hB⟩; have nHB := Aside0.mk (HB.out.trans (hB.mono HB.out.size)); clear HB; have HB := nHB; clear nHB; clear hc_gh_0 hf_gh_0; have nBK := Aside0.mk (blk_below (g := gh) (o := .cells #[.slice none 0 0] 40 (0, 0)) BK_gh.out hB); clear BK_gh; have BK_gh := nBK; clear nBK; have hc_gh_0 : w7_.cell? ⟨gh, 0, none⟩ = some (.slice none 0 0) := (blk_cell BK_gh.out 0).trans rfl; have hf_gh_0 := blk_frozen BK_gh.out 0; clear hc_gs_0 hf_gs_0 hc_gs_1 hf_gs_1 hc_gs_2 hf_gs_2 hc_gs_3 hf_gs_3; have nBK := Aside0.mk (blk_below (g := gs) (o := .cells #[.int .i64 1, .int .u32 4009820675, .bool true, .slice none 0 0] 42 (0, 0)) BK_gs.out hB); clear BK_gs; have BK_gs := nBK; clear nBK; have hc_gs_0 : w7_.cell? ⟨gs, 0, none⟩ = some (.int .i64 1) := (blk_cell BK_gs.out 0).trans rfl; have hf_gs_0 := blk_frozen BK_gs.out 0; have hc_gs_1 : w7_.cell? ⟨gs, 1, none⟩ = some (.int .u32 4009820675) := (blk_cell BK_gs.out 1).trans rfl; have hf_gs_1 := blk_frozen BK_gs.out 1; have hc_gs_2 : w7_.cell? ⟨gs, 2, none⟩ = some (.bool true) := (blk_cell BK_gs.out 2).trans rfl; have hf_gs_2 := blk_frozen BK_gs.out 2; have hc_gs_3 : w7_.cell? ⟨gs, 3, none⟩ = some (.slice none 0 0) := (blk_cell BK_gs.out 3).trans rfl; have hf_gs_3 := blk_frozen BK_gs.out 3; clear hc_gr_0 hf_gr_0; have nBK := Aside0.mk (blk_below (g := gr) (o := .cells #[.slice none 0 0] 40 (0, 0)) BK_gr.out hB); clear BK_gr; have BK_gr := nBK; clear nBK; have hc_gr_0 : w7_.cell? ⟨gr, 0, none⟩ = some (.slice none 0 0) := (blk_cell BK_gr.out 0).trans rfl; have hf_gr_0 := blk_frozen BK_gr.out 0; clear hB))
  have HSZ := Aside0.mk (show gr < w7_.heap.size from blk_lt (g := gr) (o := .cells #[.slice none 0 0] 40 (0, 0)) BK_gr.out)
  have HNW := Aside0.mk HB.out.size
  obtain ⟨nn, hnn⟩ : ∃ n, n = w7_.heap.size := ⟨_, rfl⟩
  have HNN := Aside0.mk hnn
  clear hnn
  go_wp2_with (first | ((with_reducible refine gate_dst (N := 55) rfl ?_); refine Kd.N_lit k42 _ 42 ?hg (N' := 55) ?hd (xs := [sk]) (inner := [.int .i64 1, .int .u32 4009820675, .bool true, .slice none 0 0]) (ok := fun k => w7_.heap.size ≤ k) (okp := fun _ => False) ?hr ?hp (fun _ hk => hk.elim) (Nat.le_refl _) (Below.refl _ _) (Nat.le_refl _) (by simp) ?_; (case hd => rfl); (case hg => rfl); (case hr => first | (go_simp; done) | (go_simp; rfl)); (case hp => exact Reps.c4 (show Kd.FK k42 _ _ _ _ from k42_mkF _ _ sk (Nat.le_refl _) (Kd.F_nil _ _ _)) (Reps.none _ _)); intro v_n w8_ hN hB hg_ hnew_; clear hg_ hnew_; have nHB := Aside0.mk (HB.out.trans (hB.mono HB.out.size)); clear HB; have HB := nHB; clear nHB; clear hc_gh_0 hf_gh_0; have nBK := Aside0.mk (blk_below (g := gh) (o := .cells #[.slice none 0 0] 40 (0, 0)) BK_gh.out hB); clear BK_gh; have BK_gh := nBK; clear nBK; have hc_gh_0 : w8_.cell? ⟨gh, 0, none⟩ = some (.slice none 0 0) := (blk_cell BK_gh.out 0).trans rfl; have hf_gh_0 := blk_frozen BK_gh.out 0; clear hc_gs_0 hf_gs_0 hc_gs_1 hf_gs_1 hc_gs_2 hf_gs_2 hc_gs_3 hf_gs_3; have nBK := Aside0.mk (blk_below (g := gs) (o := .cells #[.int .i64 1, .int .u32 4009820675, .bool true, .slice none 0 0] 42 (0, 0)) BK_gs.out hB); clear BK_gs; have BK_gs := nBK; clear nBK; have hc_gs_0 : w8_.cell? ⟨gs, 0, none⟩ = some (.int .i64 1) := (blk_cell BK_gs.out 0).trans rfl; have hf_gs_0 := blk_frozen BK_gs.out 0; have hc_gs_1 : w8_.cell? ⟨gs, 1, none⟩ = some (.int .u32 4009820675) := (blk_cell BK_gs.out 1).trans rfl; have hf_gs_1 := blk_frozen BK_gs.out 1; have hc_gs_2 : w8_.cell? ⟨gs, 2, none⟩ = some (.bool true) := (blk_cell BK_gs.out 2).trans rfl; have hf_gs_2 := blk_frozen BK_gs.out 2; have hc_gs_3 : w8_.cell? ⟨gs, 3, none⟩ = some (.slice none 0 0) := (blk_cell BK_gs.out 3).trans rfl; have hf_gs_3 := blk_frozen BK_gs.out 3; clear hc_gr_0 hf_gr_0; have nBK := Aside0.mk (blk_below (g := gr) (o := .cells #[.slice none 0 0] 40 (0, 0)) BK_gr.out hB); clear BK_gr; have BK_gr := nBK; clear nBK; have hc_gr_0 : w8_.cell? ⟨gr, 0, none⟩ = some (.slice none 0 0) := (blk_cell BK_gr.out 0).trans rfl; have hf_gr_0 := blk_frozen BK_gr.out 0; have HV_n := Aside0.mk (Kd.V_mono (Kd.N_V (base' := 0) hN) (fun k hk => (by rw [HNN.out]; exact hk : nn ≤ k))); have HNL := Aside0.mk (show nn ≤ w8_.heap.size by rw [HNN.out]; exact hB.size); clear hN hB; obtain ⟨A_n, c_n, en_⟩ := Kd.V_slice HV_n.out; subst en_) | (go_at_call 32; refine (insert0_w sk A_n c_n (fun k => nn ≤ k) _ HV_n.out).mono ?_; rintro e w9_ ⟨v_l, rfl, hV, hB⟩; have hs_ := HB.out.size; clear HV_n; have nHB := Aside0.mk (HB.out.trans (hB.mono HB.out.size)); clear HB; have HB := nHB; clear nHB; clear hc_gh_0 hf_gh_0; have nBK := Aside0.mk (blk_below (g := gh) (o := .cells #[.slice none 0 0] 40 (0, 0)) BK_gh.out hB); clear BK_gh; have BK_gh := nBK; clear nBK; have hc_gh_0 : w9_.cell? ⟨gh, 0, none⟩ = some (.slice none 0 0) := (blk_cell BK_gh.out 0).trans rfl; have hf_gh_0 := blk_frozen BK_gh.out 0; clear hc_gs_0 hf_gs_0 hc_gs_1 hf_gs_1 hc_gs_2 hf_gs_2 hc_gs_3 hf_gs_3; have nBK := Aside0.mk (blk_below (g := gs) (o := .cells #[.int .i64 1, .int .u32 4009820675, .bool true, .slice none 0 0] 42 (0, 0)) BK_gs.out hB); clear BK_gs; have BK_gs := nBK; clear nBK; have hc_gs_0 : w9_.cell? ⟨gs, 0, none⟩ = some (.int .i64 1) := (blk_cell BK_gs.out 0).trans rfl; have hf_gs_0 := blk_frozen BK_gs.out 0; have hc_gs_1 : w9_.cell? ⟨gs, 1, none⟩ = some (.int .u32 4009820675) := (blk_cell BK_gs.out 1).trans rfl; have hf_gs_1 := blk_frozen BK_gs.out 1; have hc_gs_2 : w9_.cell? ⟨gs, 2, none⟩ = some (.bool true) := (blk_cell BK_gs.out 2).trans rfl; have hf_gs_2 := blk_frozen BK_gs.out 2; have hc_gs_3 : w9_.cell? ⟨gs, 3, none⟩ = some (.slice none 0 0) := (blk_cell BK_gs.out 3).trans rfl; have hf_gs_3 := blk_frozen BK_gs.out 3; clear hc_gr_0 hf_gr_0; have nBK := Aside0.mk (blk_below (g := gr) (o := .cells #[.slice none 0 0] 40 (0, 0)) BK_gr.out hB); clear BK_gr; have BK_gr := nBK; clear nBK; have hc_gr_0 : w9_.cell? ⟨gr, 0, none⟩ = some (.slice none 0 0) := (blk_cell BK_gr.out 0).trans rfl; have hf_gr_0 := blk_frozen BK_gr.out 0; have HV_l := Aside0.mk (Kd.V_mono hV (fun k hk => hk.elim id (fun h => Nat.le_trans HNL.out h) : ∀ k, _ → nn ≤ k)); have HSB := Aside0.mk hB.size; clear hV hB hs_; obtain ⟨A_l, c_l, el_⟩ := Kd.V_slice HV_l.out; subst el_; have HNB0 := Aside0.mk (show nn ≤ w9_.heap.size from Nat.le_trans HNL.out (by first | exact HSB.out))) | (go_at_call 33; refine (host_changed.calls 9 none 0 [] (fun k => nn ≤ k) A_l c_l [sk] 4009820675 [sk] [rk] 0 _ (Kd.C_nil _ _) (Nat.le_refl _) HV_l.out changed0).mono ?_; rintro e w10_ ⟨v_0, v_1, rfl, hV0, hV1, hB⟩; have HNB := Aside0.mk (show nn ≤ w9_.heap.size from HNB0.out); clear HV_l; have nHB := Aside0.mk (HB.out.trans (hB.mono HB.out.size)); clear HB; have HB := nHB; clear nHB; clear hc_gh_0 hf_gh_0; have nBK := Aside0.mk (blk_below (g := gh) (o := .cells #[.slice none 0 0] 40 (0, 0)) BK_gh.out hB); clear BK_gh; have BK_gh := nBK; clear nBK; have hc_gh_0 : w10_.cell? ⟨gh, 0, none⟩ = some (.slice none 0 0) := (blk_cell BK_gh.out 0).trans rfl; have hf_gh_0 := blk_frozen BK_gh.out 0; clear hc_gs_0 hf_gs_0 hc_gs_1 hf_gs_1 hc_gs_2 hf_gs_2 hc_gs_3 hf_gs_3; have nBK := Aside0.mk (blk_below (g := gs) (o := .cells #[.int .i64 1, .int .u32 4009820675, .bool true, .slice none 0 0] 42 (0, 0)) BK_gs.out hB); clear BK_gs; have BK_gs := nBK; clear nBK; have hc_gs_0 : w10_.cell? ⟨gs, 0, none⟩ = some (.int .i64 1) := (blk_cell BK_gs.out 0).trans rfl; have hf_gs_0 := blk_frozen BK_gs.out 0; have hc_gs_1 : w10_.cell? ⟨gs, 1, none⟩ = some (.int .u32 4009820675) := (blk_cell BK_gs.out 1).trans rfl; have hf_gs_1 := blk_frozen BK_gs.out 1; have hc_gs_2 : w10_.cell? ⟨gs, 2, none⟩ = some (.bool true) := (blk_cell BK_gs.out 2).trans rfl; have hf_gs_2 := blk_frozen BK_gs.out 2; have hc_gs_3 : w10_.cell? ⟨gs, 3, none⟩ = some (.slice none 0 0) := (blk_cell BK_gs.out 3).trans rfl; have hf_gs_3 := blk_frozen BK_gs.out 3; clear hc_gr_0 hf_gr_0; have nBK := Aside0.mk (blk_below (g := gr) (o := .cells #[.slice none 0 0] 40 (0, 0)) BK_gr.out hB); clear BK_gr; have BK_gr := nBK; clear nBK; have hc_gr_0 : w10_.cell? ⟨gr, 0, none⟩ = some (.slice none 0 0) := (blk_cell BK_gr.out 0).trans rfl; have hf_gr_0 := blk_frozen BK_gr.out 0; have HV_0 := Aside0.mk (Kd.V_mono hV0 (fun k hk => hk.elim id (fun h => Nat.le_trans HNB.out h) : ∀ k, _ → nn ≤ k)); have HV_1 := Aside0.mk (Kd.V_mono hV1 (fun k hk => hk.elim id (fun h => Nat.le_trans HNB.out h) : ∀ k, _ → nn ≤ k)); clear hV0 hV1 hB; obtain ⟨A_0, c_0, e0_⟩ := Kd.V_slice HV_0.out; subst e0_; obtain ⟨A_1, c_1, e1_⟩ := Kd.V_slice HV_1.out; subst e1_))
  refine bodyPost_ret (results_ctt rfl _ _ gr 40 #[.slice A_0 [sk].length c_0] (0, 0) _ rfl (blk_put (cs := #[.slice none 0 0]) BK_gr.out 0 (.slice A_0 [sk].length c_0) rfl) Try.underlying40 rfl (by kernel_rfl)) rfl ?_
  have hnw : w.heap.size ≤ nn := by rw [HNN.out]; exact HNW.out
  exact ⟨_, _, rfl, Kd.V_mono (Kd.V_far (p := ⟨gr, 0, none⟩) HV_0.out (fun k hk e => by have := HSZ.out; have h3 : k = gr := e; rw [← HNN.out] at this; omega) _) (fun k hk => Nat.le_trans hnw hk), Kd.V_mono (Kd.V_far (p := ⟨gr, 0, none⟩) HV_1.out (fun k hk e => by have := HSZ.out; have h3 : k = gr := e; rw [← HNN.out] at this; omega) _) (fun k hk => Nat.le_trans hnw hk), below_set HB.out GE_gr.out⟩
theorem Right0_w {A : Option Addr} {c b : Nat} {ok : Nat → Prop} (w : World) (h : Kd.V k42 42 w b ok (.slice A 1 c) [sk]) : Calls Try.prog 26 #[.agg #[.slice A 1 c]] w fun e w' => e = .returned (.bool true) ∧ Below w.heap.size w w' :=
  host_Right.calls 9 A c [sk] true w (Kd.V_reads' h).2.2 (Kd.V_reads' h).2.1 Right0
theorem Groups0_w {A : Option Addr} {c b : Nat} {ok : Nat → Prop} (w : World) (h : Kd.V k42 42 w b ok (.slice A 1 c) [sk]) : Calls Try.prog 24 #[.agg #[.slice A 1 c]] w fun e w' => ∃ A' c', e = .returned (.slice A' 1 c') ∧ Below w.heap.size w w' := by
  refine (host_Groups.calls 9 A c [sk] [4009820675] w (Kd.V_reads' h).2.2 (Kd.V_reads' h).2.1 Groups0).mono ?_
  rintro e w' ⟨v, rfl, hR, hB⟩
  obtain ⟨A', c', rfl⟩ := Kd.R_slice hR
  exact ⟨A', c', rfl, hB⟩
def stolonlaw07_shown.f : Option Bool := some true
set_option maxHeartbeats 8000000 in
set_option maxRecDepth 100000 in
theorem shown0_w (w : World) : Calls Try.prog 8 #[] w fun e w' => e = .returned (.bool true) ∧ Below w.heap.size w w' := by
  have hu40 := Try.underlying40
  have hu42 := Try.underlying42
  have hu36 := Try.underlying36
  have HB := Aside0.mk (Below.refl w.heap.size w)
  go_enter Try.func8, Try.ntmps8
  go_upto_region 2 with (first | (go_at_call 15; refine (put0_w _).mono ?_; rintro e w1_ ⟨v_h, v_l, rfl, hVh, hVl, hB⟩; have nHB := Aside0.mk (HB.out.trans (hB.mono HB.out.size)); clear HB; have HB := nHB; clear nHB; have HV_h := Aside0.mk hVh; have HV_l := Aside0.mk hVl; clear hVh hVl hB; obtain ⟨A_h, c_h, eh_⟩ := Kd.V_slice HV_h.out; replace eh_ : v_h = .slice A_h 1 c_h := eh_; subst eh_; obtain ⟨A_l, c_l, el_⟩ := Kd.V_slice HV_l.out; replace el_ : v_l = .slice A_l 1 c_l := el_; subst el_) | ((with_reducible refine gate_dst (N := 1) rfl ?_); (try (refine gate_guard (by rfl) ?_; dsimp only)); refine box_event ?hg (N := 1) ?hd (cs := #[.slice none 0 0]) (t := 40) ?hr ?_; (case hd => rfl); (case hg => rfl); (case hr => first | (go_simp; done) | (go_simp; rfl)); intro gb hg w2_ hbox hB0; have hG := Aside0.mk (show w1_.heap.size ≤ gb from Nat.le_of_eq hg.symm); clear hg; have hBX := Aside0.mk hbox; have hB1 := Aside0.mk hB0; clear hB0; have hc_gb_0 : w2_.cell? ⟨gb, 0, none⟩ = some (.slice none 0 0) := (blk_cell hbox 0).trans rfl; have hf_gb_0 := blk_frozen hbox 0; clear hbox))
  have hB : Below w1_.heap.size w1_ (w2_.setCell ⟨gb, 0, none⟩ (.slice A_h 1 c_h)) := (below_set hB1.out hG.out)
  have hBN : (w2_.setCell ⟨gb, 0, none⟩ (.slice A_h 1 c_h)).heap[gb]? = some (.cells #[.slice A_h 1 c_h] 40 (0, 0)) := (blk_put (cs := #[.slice none 0 0]) hBX.out 0 (.slice A_h 1 c_h) rfl)
  clear hBX hB1
  clear hc_gb_0 hf_gb_0
  generalize (w2_.setCell ⟨gb, 0, none⟩ (.slice A_h 1 c_h)) = w3_ at hB hBN ⊢
  have HBo := Aside0.mk HB.out
  have nHB := Aside0.mk (HB.out.trans (hB.mono HB.out.size))
  clear HB
  have HB := nHB
  clear nHB
  have nV := Aside0.mk (Kd.V_below HV_h.out hB)
  clear HV_h
  have HV_h := nV
  clear nV
  have nV := Aside0.mk (Kd.V_below HV_l.out hB)
  clear HV_l
  have HV_l := nV
  clear nV
  have BK_gb := Aside0.mk hBN
  have GE_gb := Aside0.mk (Nat.le_trans HBo.out.size hG.out)
  clear HBo hG hBN hB
  have hc_gb_0 : w3_.cell? ⟨gb, 0, none⟩ = some (.slice A_h 1 c_h) := (blk_cell BK_gb.out 0).trans rfl
  have hf_gb_0 := blk_frozen BK_gb.out 0
  obtain ⟨ad, A2, c2, he, hx0, hx1, _, _, _⟩ := at_T36 (Kd.V_reads' HV_l.out).2.2 0 (by decide) (by decide)
  subst he
  have ea : ad.add ((0 : Int).toNat * 3) = ad := by cases ad; rfl
  rw [ea] at hx0 hx1
  replace hx0 : w3_.cell? ad = some (.int .u8 4) := hx0
  replace hx1 : w3_.cell? ⟨ad.block, ad.off + 1, none⟩ = some (.int .u32 4009820675) := hx1
  clear ea
  go_wp2_with (first | (go_at_call 26; with_reducible refine (Right0_w _ HV_h.out).mono ?_; rintro e w4_ ⟨rfl, hB⟩; have nHB := Aside0.mk (HB.out.trans (hB.mono HB.out.size)); clear HB; have HB := nHB; clear nHB; clear hc_gb_0 hf_gb_0; have nBK := Aside0.mk (blk_below (g := gb) (o := .cells #[.slice A_h 1 c_h] 40 (0, 0)) BK_gb.out hB); clear BK_gb; have BK_gb := nBK; clear nBK; have hc_gb_0 : w4_.cell? ⟨gb, 0, none⟩ = some (.slice A_h 1 c_h) := (blk_cell BK_gb.out 0).trans rfl; have hf_gb_0 := blk_frozen BK_gb.out 0; have nV := Aside0.mk (Kd.V_below HV_h.out hB); clear HV_h; have HV_h := nV; clear nV; clear hB) | (go_at_call 24; with_reducible refine (Groups0_w _ HV_h.out).mono ?_; rintro e w5_ ⟨A_g, c_g, rfl, hB⟩; have nHB := Aside0.mk (HB.out.trans (hB.mono HB.out.size)); clear HB; have HB := nHB; clear nHB; clear hc_gb_0 hf_gb_0; have nBK := Aside0.mk (blk_below (g := gb) (o := .cells #[.slice A_h 1 c_h] 40 (0, 0)) BK_gb.out hB); clear BK_gb; have BK_gb := nBK; clear nBK; have hc_gb_0 : w5_.cell? ⟨gb, 0, none⟩ = some (.slice A_h 1 c_h) := (blk_cell BK_gb.out 0).trans rfl; have hf_gb_0 := blk_frozen BK_gb.out 0; have nV := Aside0.mk (Kd.V_below HV_h.out hB); clear HV_h; have HV_h := nV; clear nV; clear hB))
  go_ret
  exact ⟨rfl, HB.out⟩
theorem stolonlaw07_shown.calls (r : Bool) (w : World) (h : stolonlaw07_shown.f = some r) : Calls Try.prog 8 #[] w fun e w' => e = .returned (.bool r) ∧ Below w.heap.size w w' := by
  obtain rfl := Option.some.inj h
  exact shown0_w w
end Go.Proofs.Ytjncmiclpaodhaa
-- written by a program of this session (hprint.py), over the kit's printer
namespace Go.Proofs.Ytjncmiclpaodhaa.PHo
open Go.RowKit Go.Proofs.YtjncmiclpaodhaaW.PrintWords Go.Proofs.YtjncmiclpaodhaaW.PrintLast Go.Proofs.YtjncmiclpaodhaaW.PrintMore
attribute [local go_sem] max2_int min2_int max_two min_two max_three min_three max_four min_four   -- for this text's walks alone
set_option linter.unusedVariables false
set_option linter.unusedSimpArgs false

-- BY HAND: function 8 (stolonlaw07_shown)

/-! ### stolonref06_Right: function 9 -/
def stolonref06_Right.l0 : Nat → List Int → Int → Option (Bool)
  | 0, _, _ => none
  | k + 1, x0, x3 => if x3 < (x0.length : Int) then (if 0 ≤ (wrap64 (x3 - 1)) then (if (wrap64 (x3 - 1)) < (x0.length : Int) then (if 0 ≤ x3 then (if (rd x0 (wrap64 (x3 - 1))) ≥ (rd x0 x3) then (some false) else (stolonref06_Right.l0 k x0 (wrap64 (x3 + 1)))) else (none)) else (none)) else (none)) else (some true)
def stolonref06_Right.f (k : Nat) (l0 : List Int) : Option (Bool) := stolonref06_Right.l0 k l0 1
theorem stolonref06_Right.mono_l : ∀ k, (∀ y0 y1, LeO (stolonref06_Right.l0 k y0 y1) (stolonref06_Right.l0 (k + 1) y0 y1))
  | 0 => fun _ _ r h => by simp [stolonref06_Right.l0] at h
  | k + 1 => by
    have ih0 := stolonref06_Right.mono_l k
    · intro y0 y1
      unfold stolonref06_Right.l0
      repeat' first
      | (with_reducible exact ih0 _ _)
      | (with_reducible exact LeO.refl _)
      | (with_reducible exact LeO.none _)
      | (with_reducible refine LeO.ite ?_ ?_)
      | (with_reducible refine LeO.bind ?_ (fun _ => ?_))
      | exact ih0 _ _
      | exact LeO.none _
      | refine LeO.ite ?_ ?_
      | refine LeO.bind ?_ (fun _ => ?_)
theorem stolonref06_Right.mono : ∀ a0 k, LeO (stolonref06_Right.f k a0) (stolonref06_Right.f (k + 1) a0) := by
  intro a0 k
  have ih0 := stolonref06_Right.mono_l k
  unfold stolonref06_Right.f
  repeat' first
      | (with_reducible exact ih0 _ _)
      | (with_reducible exact LeO.refl _)
      | (with_reducible exact LeO.none _)
      | (with_reducible refine LeO.ite ?_ ?_)
      | (with_reducible refine LeO.bind ?_ (fun _ => ?_))
      | exact ih0 _ _
      | exact LeO.none _
      | refine LeO.ite ?_ ?_
      | refine LeO.bind ?_ (fun _ => ?_)
set_option maxHeartbeats 8000000 in
set_option maxRecDepth 100000 in
theorem stolonref06_Right.calls (k : Nat) (A0 : Option Addr) (c0 : Nat) (l0 : List Int) (r : Bool) (w : World) (hr0 : Kd.C (Kd.int .u32) w A0 l0.length l0) (hc0 : l0.length ≤ c0) (h : stolonref06_Right.f k l0 = some r) :
    Calls Try.prog 9 #[.slice A0 l0.length c0] w fun e w' => e = .returned (.bool r) ∧ Drawn0 w w' := by
  have HR0 := Aside0.mk hr0
  have HC0 := Aside0.mk hc0
  clear hr0 hc0
  have H : (stolonref06_Right.l0 k l0 1) = some r := h
  clear h
  have H' := Aside0.mk H
  clear H
  go_enter Try.func9, Try.ntmps9
  go_wp2
  repeat (go_quiet (fail); try go_wp2)
  go_loopg [3] k (fun kq v3 w' => ∃ (x3_1 : Int), v3 = .int .i64 x3_1 ∧ Aside0 (stolonref06_Right.l0 kq l0 x3_1 = some r) ∧ Aside0 (kq ≤ k) ∧ Drawn0 w w')
  case atStart => exact ⟨(1), (by first | rfl | (simp; done) | (simp [*]; done)), H', ⟨Nat.le_refl _⟩, by repeat (first | exact Drawn0.refl _ | apply Drawn0.step)⟩
  case round =>
    clear H'
    obtain ⟨x3_1, rfl, HA, HK1, ⟨m1, rfl⟩⟩ := hrel
    cases gk with
    | zero => exact absurd HA.out (by simp [stolonref06_Right.l0])
    | succ k1 =>
      have H := HA.out
      clear HA
      simp only [stolonref06_Right.l0] at H
      by_cases c2 : x3_1 < (l0.length : Int)
      · rw [if_pos c2] at H
        have c2b0 : decide (x3_1 < (l0.length : Int)) = true := decide_eq_true c2
        clear c2
        obtain ⟨ji3, hji3⟩ : ∃ j_ : Int, (wrap64 (x3_1 - 1)) = j_ := ⟨_, rfl⟩
        replace H : (if 0 ≤ (ji3) then (if (ji3) < (l0.length : Int) then (if 0 ≤ x3_1 then (if (rd l0 (ji3)) ≥ (rd l0 x3_1) then (some false) else (stolonref06_Right.l0 k1 l0 (wrap64 (x3_1 + 1)))) else (none)) else (none)) else (none)) = some r := by first | (rw [hji3] at H; exact H) | (simp only [hji3] at H ⊢; exact H)
        have hji3w : (IntKind.i64.wrap (x3_1 - 1)) = ji3 := (i64_w _).trans hji3
        by_cases c4 : 0 ≤ (ji3)
        · rw [if_pos c4] at H
          have c4b0 : decide (0 ≤ (ji3)) = true := decide_eq_true c4
          clear c4
          by_cases c5 : (ji3) < (l0.length : Int)
          · rw [if_pos c5] at H
            have c5b0 : decide ((ji3) < (l0.length : Int)) = true := decide_eq_true c5
            clear c5
            by_cases c6 : 0 ≤ x3_1
            · rw [if_pos c6] at H
              have c6b0 : decide (0 ≤ x3_1) = true := decide_eq_true c6
              clear c6
              by_cases c7 : (rd l0 (ji3)) ≥ (rd l0 x3_1)
              · rw [if_pos c7] at H
                have c7b0 : decide ((rd l0 x3_1) ≤ (rd l0 (ji3))) = true := decide_eq_true c7
                clear c7
                obtain rfl := Option.some.inj H
                have p310 : 0 ≤ ((ji3) : Int) := of_decide_eq_true (by first | (with_reducible assumption) | assumption)
                have q310 : (ji3) < (l0.length : Int) := of_decide_eq_true (by first | (with_reducible assumption) | assumption)
                obtain ⟨ad310, e310, hx310_0⟩ := Kd.at_int HR0.out (ji3) p310 q310
                cases e310
                replace p310 := eq_true p310
                replace q310 := eq_true q310
                have p311 : 0 ≤ (x3_1 : Int) := of_decide_eq_true (by first | (with_reducible assumption) | assumption)
                have q311 : x3_1 < (l0.length : Int) := of_decide_eq_true (by first | (with_reducible assumption) | assumption)
                obtain ⟨ad311, e311, hx311_0⟩ := Kd.at_int HR0.out x3_1 p311 q311
                obtain rfl : ad310 = ad311 := (by injection e311)
                replace p311 := eq_true p311
                replace q311 := eq_true q311
                go_wp2
                repeat (go_quiet (fail); try go_wp2)
                go_ret
                exact ⟨by first | rfl | (simp; done) | (simp only [← hji3] <;> (first | rfl | simp)) | (simp [*]; done), by repeat (first | exact Drawn0.refl _ | apply Drawn0.step)⟩
              · rw [if_neg c7] at H
                have c7b0 : decide ((rd l0 x3_1) ≤ (rd l0 (ji3))) = false := decide_eq_false c7
                clear c7
                have H' := Aside0.mk H
                clear H
                have p310 : 0 ≤ ((ji3) : Int) := of_decide_eq_true (by first | (with_reducible assumption) | assumption)
                have q310 : (ji3) < (l0.length : Int) := of_decide_eq_true (by first | (with_reducible assumption) | assumption)
                obtain ⟨ad310, e310, hx310_0⟩ := Kd.at_int HR0.out (ji3) p310 q310
                cases e310
                replace p310 := eq_true p310
                replace q310 := eq_true q310
                have p311 : 0 ≤ (x3_1 : Int) := of_decide_eq_true (by first | (with_reducible assumption) | assumption)
                have q311 : x3_1 < (l0.length : Int) := of_decide_eq_true (by first | (with_reducible assumption) | assumption)
                obtain ⟨ad311, e311, hx311_0⟩ := Kd.at_int HR0.out x3_1 p311 q311
                obtain rfl : ad310 = ad311 := (by injection e311)
                replace p311 := eq_true p311
                replace q311 := eq_true q311
                go_wp2
                repeat (go_quiet (fail); try go_wp2)
                go_roundg k1
                case measure => have := HK1.out; omega
                case rel => exact ⟨(wrap64 (x3_1 + 1)), (by first | rfl | (simp; done) | (simp [*]; done)), H', ⟨by have := HK1.out; omega⟩, by repeat (first | exact Drawn0.refl _ | apply Drawn0.step)⟩
            · rw [if_neg c6] at H
              exact absurd H (by simp)
          · rw [if_neg c5] at H
            exact absurd H (by simp)
        · rw [if_neg c4] at H
          exact absurd H (by simp)
      · rw [if_neg c2] at H
        have c2b0 : decide (x3_1 < (l0.length : Int)) = false := decide_eq_false c2
        clear c2
        obtain rfl := Option.some.inj H
        go_wp2
        repeat (go_quiet (fail); try go_wp2)
        go_ret
        exact ⟨by first | rfl | (simp; done) | (simp [*]; done), by repeat (first | exact Drawn0.refl _ | apply Drawn0.step)⟩

/-! ### stolonref06_Has: function 12 -/
def stolonref06_Has.l0 : Nat → List Int → Int → Int → Option (Bool)
  | 0, _, _, _ => none
  | k + 1, x0, x1, x5 => if x5 < (x0.length : Int) then (if 0 ≤ x5 then (if (rd x0 x5) = x1 then (some true) else (stolonref06_Has.l0 k x0 x1 (wrap64 (x5 + 1)))) else (none)) else (some false)
def stolonref06_Has.f (k : Nat) (l0 : List Int) (a1 : Int) : Option (Bool) := stolonref06_Has.l0 k l0 a1 0
theorem stolonref06_Has.mono_l : ∀ k, (∀ y0 y1 y2, LeO (stolonref06_Has.l0 k y0 y1 y2) (stolonref06_Has.l0 (k + 1) y0 y1 y2))
  | 0 => fun _ _ _ r h => by simp [stolonref06_Has.l0] at h
  | k + 1 => by
    have ih0 := stolonref06_Has.mono_l k
    · intro y0 y1 y2
      unfold stolonref06_Has.l0
      repeat' first
      | (with_reducible exact ih0 _ _ _)
      | (with_reducible exact LeO.refl _)
      | (with_reducible exact LeO.none _)
      | (with_reducible refine LeO.ite ?_ ?_)
      | (with_reducible refine LeO.bind ?_ (fun _ => ?_))
      | exact ih0 _ _ _
      | exact LeO.none _
      | refine LeO.ite ?_ ?_
      | refine LeO.bind ?_ (fun _ => ?_)
theorem stolonref06_Has.mono : ∀ a0 a1 k, LeO (stolonref06_Has.f k a0 a1) (stolonref06_Has.f (k + 1) a0 a1) := by
  intro a0 a1 k
  have ih0 := stolonref06_Has.mono_l k
  unfold stolonref06_Has.f
  repeat' first
      | (with_reducible exact ih0 _ _ _)
      | (with_reducible exact LeO.refl _)
      | (with_reducible exact LeO.none _)
      | (with_reducible refine LeO.ite ?_ ?_)
      | (with_reducible refine LeO.bind ?_ (fun _ => ?_))
      | exact ih0 _ _ _
      | exact LeO.none _
      | refine LeO.ite ?_ ?_
      | refine LeO.bind ?_ (fun _ => ?_)
set_option maxHeartbeats 8000000 in
set_option maxRecDepth 100000 in
theorem stolonref06_Has.calls (k : Nat) (A0 : Option Addr) (c0 : Nat) (l0 : List Int) (a1 : Int) (r : Bool) (w : World) (hr0 : Kd.C (Kd.int .u32) w A0 l0.length l0) (hc0 : l0.length ≤ c0) (h : stolonref06_Has.f k l0 a1 = some r) :
    Calls Try.prog 12 #[.slice A0 l0.length c0, .int .u32 a1] w fun e w' => e = .returned (.bool r) ∧ Drawn0 w w' := by
  have HR0 := Aside0.mk hr0
  have HC0 := Aside0.mk hc0
  clear hr0 hc0
  have H : (stolonref06_Has.l0 k l0 a1 0) = some r := h
  clear h
  have H' := Aside0.mk H
  clear H
  go_enter Try.func12, Try.ntmps12
  go_wp2
  go_loopg [5] k (fun kq v5 w' => ∃ (x5_1 : Int), v5 = .int .i64 x5_1 ∧ Aside0 (stolonref06_Has.l0 kq l0 a1 x5_1 = some r) ∧ Aside0 (kq ≤ k) ∧ Drawn0 w w')
  case atStart => exact ⟨(0), (by first | rfl | (simp; done) | (simp [*]; done)), H', ⟨Nat.le_refl _⟩, by repeat (first | exact Drawn0.refl _ | apply Drawn0.step)⟩
  case round =>
    clear H'
    try clear c1
    try clear p2
    obtain ⟨x5_1, rfl, HA, HK1, ⟨m1, rfl⟩⟩ := hrel
    cases gk with
    | zero => exact absurd HA.out (by simp [stolonref06_Has.l0])
    | succ k1 =>
      have H := HA.out
      clear HA
      simp only [stolonref06_Has.l0] at H
      by_cases c3 : x5_1 < (l0.length : Int)
      · rw [if_pos c3] at H
        have c3b0 : decide (x5_1 < (l0.length : Int)) = true := decide_eq_true c3
        clear c3
        by_cases c4 : 0 ≤ x5_1
        · rw [if_pos c4] at H
          have c4b0 : decide (0 ≤ x5_1) = true := decide_eq_true c4
          clear c4
          by_cases c5 : (rd l0 x5_1) = a1
          · rw [if_pos c5] at H
            have c5b0 : ((rd l0 x5_1) == a1) = true := beq_iff_eq.mpr c5
            have c5b1 : ((rd l0 x5_1) != a1) = false := bne_eq_false_iff_eq.mpr c5
            clear c5
            obtain rfl := Option.some.inj H
            have p312 : 0 ≤ (x5_1 : Int) := of_decide_eq_true (by first | (with_reducible assumption) | assumption)
            have q312 : x5_1 < (l0.length : Int) := of_decide_eq_true (by first | (with_reducible assumption) | assumption)
            obtain ⟨ad312, e312, hx312_0⟩ := Kd.at_int HR0.out x5_1 p312 q312
            cases e312
            replace p312 := eq_true p312
            replace q312 := eq_true q312
            go_wp2
            go_ret
            exact ⟨by first | rfl | (simp; done) | (simp [*]; done), by repeat (first | exact Drawn0.refl _ | apply Drawn0.step)⟩
          · rw [if_neg c5] at H
            have c5b0 : ((rd l0 x5_1) == a1) = false := beq_eq_false_iff_ne.mpr c5
            have c5b1 : ((rd l0 x5_1) != a1) = true := bne_iff_ne.mpr c5
            have H' := Aside0.mk H
            clear H
            have p312 : 0 ≤ (x5_1 : Int) := of_decide_eq_true (by first | (with_reducible assumption) | assumption)
            have q312 : x5_1 < (l0.length : Int) := of_decide_eq_true (by first | (with_reducible assumption) | assumption)
            obtain ⟨ad312, e312, hx312_0⟩ := Kd.at_int HR0.out x5_1 p312 q312
            cases e312
            replace p312 := eq_true p312
            replace q312 := eq_true q312
            go_wp2
            go_roundg k1
            case measure => have := HK1.out; omega
            case rel => exact ⟨(wrap64 (x5_1 + 1)), (by first | rfl | (simp; done) | (simp [*]; done)), H', ⟨by have := HK1.out; omega⟩, by repeat (first | exact Drawn0.refl _ | apply Drawn0.step)⟩
        · rw [if_neg c4] at H
          exact absurd H (by simp)
      · rw [if_neg c3] at H
        have c3b0 : decide (x5_1 < (l0.length : Int)) = false := decide_eq_false c3
        clear c3
        obtain rfl := Option.some.inj H
        go_wp2
        go_ret
        exact ⟨by first | rfl | (simp; done) | (simp [*]; done), by repeat (first | exact Drawn0.refl _ | apply Drawn0.step)⟩

/-! ### stolonref06_Wants: function 11 -/
def stolonref06_Wants.f (k : Nat) (a0_0 : Bool) (l0_1 : List Int) (a1 : Int) : Option (Bool) := (stolonref06_Has.f k l0_1 a1).bind fun t314 => (some (t314 != a0_0))
theorem stolonref06_Wants.mono : ∀ a0 a1 a2 k, LeO (stolonref06_Wants.f k a0 a1 a2) (stolonref06_Wants.f (k + 1) a0 a1 a2) := by
  intro a0 a1 a2 k
  unfold stolonref06_Wants.f
  repeat' first
      | (with_reducible exact stolonref06_Has.mono _ _ _)
      | (with_reducible exact LeO.refl _)
      | (with_reducible exact LeO.none _)
      | (with_reducible refine LeO.ite ?_ ?_)
      | (with_reducible refine LeO.bind ?_ (fun _ => ?_))
      | exact stolonref06_Has.mono _ _ _
      | exact LeO.none _
      | refine LeO.ite ?_ ?_
      | refine LeO.bind ?_ (fun _ => ?_)
set_option maxHeartbeats 8000000 in
set_option maxRecDepth 100000 in
theorem stolonref06_Wants.calls (k : Nat) (a0_0 : Bool) (A0_1 : Option Addr) (c0_1 : Nat) (l0_1 : List Int) (a1 : Int) (r : Bool) (w : World) (hr0_1 : Kd.C (Kd.int .u32) w A0_1 l0_1.length l0_1) (hc0_1 : l0_1.length ≤ c0_1) (h : stolonref06_Wants.f k a0_0 l0_1 a1 = some r) :
    Calls Try.prog 11 #[.agg #[.bool a0_0, .slice A0_1 l0_1.length c0_1], .int .u32 a1] w fun e w' => e = .returned (.bool r) ∧ Below w.heap.size w w' := by
  have hu26 := Try.underlying26
  have HR0_1 := Aside0.mk hr0_1
  have HC0_1 := Aside0.mk hc0_1
  clear hr0_1 hc0_1
  have HB := Aside0.mk (Below.refl w.heap.size w)
  have H : ((stolonref06_Has.f k l0_1 a1).bind fun t314 => (some (t314 != a0_0))) = some r := h
  clear h
  replace H := Option.bind_eq_some_iff.mp H
  obtain ⟨t314, A30, H⟩ := H
  replace H : (some (t314 != a0_0)) = some r := H
  have A3 := Aside0.mk A30
  clear A30
  obtain rfl := Option.some.inj H
  go_enter Try.func11, Try.ntmps11
  go_wp2_with (first | ((with_reducible refine gate_dst (N := 2) rfl ?_); refine box_event ?hg (N := 2) ?hd (cs := #[.bool a0_0, .slice A0_1 l0_1.length c0_1]) (t := 26) ?hr ?_; (case hd => rfl); (case hg => rfl); (case hr => first | (go_simp; done) | (go_simp; rfl)); intro gb313 hg w4 hbox hb; have n0_ := Aside0.mk (below_step (by repeat (first | (with_reducible first | exact HB.out | apply below_alloc | apply pw_below_drewN | apply below_drew1) | exact HB.out)) hb); have n1_ := Aside0.mk (hbox); have n2_ := Aside0.mk ((by rw [hg]; exact (below_size (by repeat (first | (with_reducible first | exact HB.out | apply below_alloc | apply pw_below_drewN | apply below_drew1) | exact HB.out))) : w.heap.size ≤ gb313)); have n3_ := Aside0.mk ((by rw [hg]; exact (below_size (by repeat (first | (with_reducible first | exact HB.out | apply below_alloc | apply pw_below_drewN | apply below_drew1) | exact HB.out))) : w.heap.size ≤ gb313)); clear HB; have HB := n0_; have BK313 := n1_; have GW313 := n2_; have GE313 := n3_; clear n0_ n1_ n2_ n3_; clear hb hbox hg; have hcz5_0 : w4.cell? ⟨gb313, 0, none⟩ = some (.bool a0_0) := (blk_cell BK313.out 0).trans rfl; have hcz5_1 : w4.cell? ⟨gb313, 1, none⟩ = some (.slice A0_1 l0_1.length c0_1) := (blk_cell BK313.out 1).trans rfl; have hfz5_0 := blk_frozen BK313.out 0; have hfz5_1 := blk_frozen BK313.out 1) | (go_at_call 12; (with_reducible refine (stolonref06_Has.calls k _ _ l0_1 a1 t314 _ ?side1 ?side2 A3.out).mono ?_); (case side1 => repeat (first | exact (Kd.C_below HR0_1.out HB.out) | (with_reducible refine Kd.C_alloc ?_ _) | (with_reducible refine Kd.C_drewN ?_ _) | (with_reducible refine Kd.C_drew ?_))); (case side2 => exact HC0_1.out); rintro e w' ⟨rfl, ⟨nd, rfl⟩⟩; (try first | exact ⟨rfl, _, World.drewN_drewN _ _ _⟩ | exact ⟨rfl, _, Eq.trans (World.drewN_drewN _ _ _) (congrArg (World.drewN _) (Nat.add_assoc _ _ _))⟩)))
  repeat (go_quiet (first | ((with_reducible refine gate_dst (N := 2) rfl ?_); refine box_event ?hg (N := 2) ?hd (cs := #[.bool a0_0, .slice A0_1 l0_1.length c0_1]) (t := 26) ?hr ?_; (case hd => rfl); (case hg => rfl); (case hr => first | (go_simp; done) | (go_simp; rfl)); intro gb313 hg w4 hbox hb; have n0_ := Aside0.mk (below_step (by repeat (first | (with_reducible first | exact HB.out | apply below_alloc | apply pw_below_drewN | apply below_drew1) | exact HB.out)) hb); have n1_ := Aside0.mk (hbox); have n2_ := Aside0.mk ((by rw [hg]; exact (below_size (by repeat (first | (with_reducible first | exact HB.out | apply below_alloc | apply pw_below_drewN | apply below_drew1) | exact HB.out))) : w.heap.size ≤ gb313)); have n3_ := Aside0.mk ((by rw [hg]; exact (below_size (by repeat (first | (with_reducible first | exact HB.out | apply below_alloc | apply pw_below_drewN | apply below_drew1) | exact HB.out))) : w.heap.size ≤ gb313)); clear HB; have HB := n0_; have BK313 := n1_; have GW313 := n2_; have GE313 := n3_; clear n0_ n1_ n2_ n3_; clear hb hbox hg; have hcz5_0 : w4.cell? ⟨gb313, 0, none⟩ = some (.bool a0_0) := (blk_cell BK313.out 0).trans rfl; have hcz5_1 : w4.cell? ⟨gb313, 1, none⟩ = some (.slice A0_1 l0_1.length c0_1) := (blk_cell BK313.out 1).trans rfl; have hfz5_0 := blk_frozen BK313.out 0; have hfz5_1 := blk_frozen BK313.out 1) | (go_at_call 12; (with_reducible refine (stolonref06_Has.calls k _ _ l0_1 a1 t314 _ ?side1 ?side2 A3.out).mono ?_); (case side1 => repeat (first | exact (Kd.C_below HR0_1.out HB.out) | (with_reducible refine Kd.C_alloc ?_ _) | (with_reducible refine Kd.C_drewN ?_ _) | (with_reducible refine Kd.C_drew ?_))); (case side2 => exact HC0_1.out); rintro e w' ⟨rfl, ⟨nd, rfl⟩⟩; (try first | exact ⟨rfl, _, World.drewN_drewN _ _ _⟩ | exact ⟨rfl, _, Eq.trans (World.drewN_drewN _ _ _) (congrArg (World.drewN _) (Nat.add_assoc _ _ _))⟩))); try go_wp2_with (first | ((with_reducible refine gate_dst (N := 2) rfl ?_); refine box_event ?hg (N := 2) ?hd (cs := #[.bool a0_0, .slice A0_1 l0_1.length c0_1]) (t := 26) ?hr ?_; (case hd => rfl); (case hg => rfl); (case hr => first | (go_simp; done) | (go_simp; rfl)); intro gb313 hg w4 hbox hb; have n0_ := Aside0.mk (below_step (by repeat (first | (with_reducible first | exact HB.out | apply below_alloc | apply pw_below_drewN | apply below_drew1) | exact HB.out)) hb); have n1_ := Aside0.mk (hbox); have n2_ := Aside0.mk ((by rw [hg]; exact (below_size (by repeat (first | (with_reducible first | exact HB.out | apply below_alloc | apply pw_below_drewN | apply below_drew1) | exact HB.out))) : w.heap.size ≤ gb313)); have n3_ := Aside0.mk ((by rw [hg]; exact (below_size (by repeat (first | (with_reducible first | exact HB.out | apply below_alloc | apply pw_below_drewN | apply below_drew1) | exact HB.out))) : w.heap.size ≤ gb313)); clear HB; have HB := n0_; have BK313 := n1_; have GW313 := n2_; have GE313 := n3_; clear n0_ n1_ n2_ n3_; clear hb hbox hg; have hcz5_0 : w4.cell? ⟨gb313, 0, none⟩ = some (.bool a0_0) := (blk_cell BK313.out 0).trans rfl; have hcz5_1 : w4.cell? ⟨gb313, 1, none⟩ = some (.slice A0_1 l0_1.length c0_1) := (blk_cell BK313.out 1).trans rfl; have hfz5_0 := blk_frozen BK313.out 0; have hfz5_1 := blk_frozen BK313.out 1) | (go_at_call 12; (with_reducible refine (stolonref06_Has.calls k _ _ l0_1 a1 t314 _ ?side1 ?side2 A3.out).mono ?_); (case side1 => repeat (first | exact (Kd.C_below HR0_1.out HB.out) | (with_reducible refine Kd.C_alloc ?_ _) | (with_reducible refine Kd.C_drewN ?_ _) | (with_reducible refine Kd.C_drew ?_))); (case side2 => exact HC0_1.out); rintro e w' ⟨rfl, ⟨nd, rfl⟩⟩; (try first | exact ⟨rfl, _, World.drewN_drewN _ _ _⟩ | exact ⟨rfl, _, Eq.trans (World.drewN_drewN _ _ _) (congrArg (World.drewN _) (Nat.add_assoc _ _ _))⟩))))
  go_ret
  exact ⟨by first | rfl | (simp [errW_none, errW_some] <;> rfl) | (simp [*, errW_none, errW_some] <;> rfl), by repeat (first | (with_reducible first | exact HB.out | apply below_alloc | apply pw_below_drewN | apply below_drew1 | refine below_set ?_ GE313.out) | exact HB.out)⟩

end Go.Proofs.Ytjncmiclpaodhaa.PHo
