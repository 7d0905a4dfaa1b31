/-
  host.Put, walked way by way.
-/
import Derived.Test.YtjncmiclpaodhaaSoI
import Derived.Test.YtjncmiclpaodhaaHoN
namespace Go.Proofs.Ytjncmiclpaodhaa
set_option maxHeartbeats 8000000
set_option maxRecDepth 100000
open Go.RowKit Go.Lib Go.Proofs.YtjncmiclpaodhaaW.PrintWords Go.Proofs.YtjncmiclpaodhaaW.PrintLast Go.Proofs.YtjncmiclpaodhaaW.PrintMore Go.Proofs.Ytjncmiclpaodhaa.PHo
set_option linter.unusedVariables false
set_option linter.unusedSimpArgs false
def at_ (l : List S42) (i : Nat) (id : Int) : Bool := decide (i < l.length) && decide ((rd_T42 l i).f0 = id)
/-- i is where a socket of this id stands, or would stand. -/
def Stands (l : List S42) (id : Int) (i : Nat) : Prop := i ≤ l.length ∧ (∀ k : Nat, k < i → (rd_T42 l k).f0 < id) ∧ ∀ k : Nat, i ≤ k → k < l.length → id ≤ (rd_T42 l k).f0
theorem placeb_w {l : List S42} {id : Int} {i : Nat} {b : Bool} (hi : Stands l id i) (hb : at_ l i id = b) (hn : l.length ≤ 1000000) (A : Option Addr) (c : Nat) (w : World) (hr : Kd.C k42 w A l.length l) (hc : l.length ≤ c) :
    Calls Try.prog 29 #[.agg #[.slice A l.length c], .int .i64 id] w fun e w' => e = .returned (.tuple #[.int .i64 i, .bool b]) ∧ Below w.heap.size w w' := by
  subst hb
  exact place_w hi.1 hi.2.1 hi.2.2 hn A c w hr hc
theorem right_w {k : Nat} {s : S42} {b : Bool} (h : host_right.f k s.f0 s.f1 s.f2.f0 s.f2.f1 = some b) (A : Option Addr) (c : Nat) (w : World) (hr : Kd.C (Kd.int .u32) w A s.f2.f1.length s.f2.f1) (hc : s.f2.f1.length ≤ c) :
    Calls Try.prog 30 #[.agg #[.int .i64 s.f0, .int .u32 s.f1, .bool s.f2.f0, .slice A s.f2.f1.length c]] w fun e w' => e = .returned (.bool b) ∧ Below w.heap.size w w' := host_right.calls k s.f0 s.f1 s.f2.f0 A c s.f2.f1 b w hr hc h
theorem own_form {w : World} {B n : Nat} {v : Value} {xs : List Value} (h : w.ownsRow B 42 4 v n xs) (hn : 0 < n) : ∃ g cap, v = .slice (some ⟨g, 0, none⟩) n cap ∧ B ≤ g := by
  rcases h.2 with ⟨_, h0⟩ | ⟨g, cap, cur, rfl, hg, _⟩
  · omega
  · exact ⟨g, cap, rfl, hg⟩
theorem own_cell {w : World} {B n g cap : Nat} {xs : List Value} (h : w.ownsRow B 42 4 (.slice (some ⟨g, 0, none⟩) n cap) n xs) (j : Nat) (hj : j < n * 4) : ∃ u, w.cell? ⟨g, j, none⟩ = some u :=
  ⟨_, (h.cellAt j hj).trans (List.getElem?_eq_getElem (by rw [h.1]; exact hj))⟩
def put_T3w : Bool × List (List Nat × List Nat) := (true, [([], []), ([0], [0]), ([1], [1]), ([2, 1], [1, 2]), ([1], [1]), ([3, 4, 1], [1, 3, 4]), ([5, 1], [1, 5]), ([6, 1], [1, 6]), ([1], [1]), ([8, 1], [1, 8]), ([7, 9, 1], [1, 7, 9]), ([1, 10], [1, 10]), ([11, 1], [11])])
def put_B3w : List Nat := [0, 1, 3, 7, 3, 31, 63, 127, 3, 259, 1023, 2047, 4095]
theorem put_t3w : rtab .any (opsOf Try.f15 3) = put_T3w := by kernel_rfl
theorem put_b3w : waitsOk put_T3w.2 put_B3w = true := by kernel_rfl
theorem put_wrong {k : Nat} {l : List S42} {s : S42} {i : Nat} (hi : Stands l s.f0 i) (hn : l.length ≤ 1000000) (hr : host_right.f k s.f0 s.f1 s.f2.f0 s.f2.f1 = some false) {b : Bool} (hb : at_ l i s.f0 = b) (A_l : Option Addr) (c_l : Nat) (A_s : Option Addr) (c_s : Nat) (w : World) (hl : Kd.C k42 w A_l l.length l) (hcl : l.length ≤ c_l) (hs : Kd.C (Kd.int .u32) w A_s s.f2.f1.length s.f2.f1) (hcs : s.f2.f1.length ≤ c_s) (P : Nat → Prop) (hP : ∀ k, P k → k < w.heap.size) (hlF : Kd.F k42 w P A_l l.length l) (hsF : Kd.F (Kd.int .u32) w P A_s s.f2.f1.length s.f2.f1) :
    Calls Try.prog 15 #[.agg #[.slice A_l l.length c_l], .agg #[.int .i64 s.f0, .int .u32 s.f1, .bool s.f2.f0, .slice A_s s.f2.f1.length c_s]] w (PutPost P w l [] 1) := by
  have hu40 := Try.underlying40
  have hu42 := Try.underlying42
  have HB := Aside0.mk (Below.refl w.heap.size w)
  have HC_l := Aside0.mk hl
  have HK_l := Aside0.mk hcl
  have HC_s := Aside0.mk hs
  have HK_s := Aside0.mk hcs
  have FL := Aside0.mk hlF
  have Xhi := Aside0.mk hi
  have Xhn := Aside0.mk hn
  have Xhr := Aside0.mk hr
  have Xhb := Aside0.mk hb
  clear hl hcl hs hcs hi hn hP hlF hsF hr hb
  go_enter Try.func15, Try.ntmps15
  go_wp2_with (first | ((with_reducible refine gate_dst (N := 2) rfl ?_); (try (refine gate_guard (by rfl) ?_; dsimp only)); refine bxn (cs := #[.slice A_l l.length c_l]) (t := 40) ?_; intro gh hg w1_ hbox hB; replace HB := mvH HB hB; have BK_gh := Aside0.mk hbox; clear hg hbox hB) | ((with_reducible refine gate_dst (N := 3) rfl ?_); (try (refine gate_guard (by rfl) ?_; dsimp only)); refine bxn (cs := #[.int .i64 s.f0, .int .u32 s.f1, .bool s.f2.f0, .slice A_s s.f2.f1.length c_s]) (t := 42) ?_; intro gs hg w2_ hbox hB; replace HB := mvH HB hB; replace BK_gh := mvB BK_gh hB; have BK_gs := Aside0.mk hbox; clear hg hbox hB) | ((with_reducible refine gate_dst (N := 4) rfl ?_); (try (refine gate_guard (by rfl) ?_; dsimp only)); refine bxn (cs := #[.slice none 0 0]) (t := 40) ?_; intro gr hg w3_ hbox hB; have HBo := Aside0.mk HB.out; replace HB := mvH HB hB; replace BK_gh := mvB BK_gh hB; have hc_gh_0 : w3_.cell? ⟨gh, 0, none⟩ = some (.slice A_l l.length c_l) := (blk_cell BK_gh.out 0).trans rfl; replace BK_gs := mvB BK_gs hB; have hc_gs_0 := (cf4 BK_gs.out).1; have BK_gr := Aside0.mk hbox; have GE_gr := Aside0.mk (show w.heap.size ≤ gr by rw [hg]; exact HBo.out.size); clear hg hbox hB; clear HBo) | (go_at_call 29; with_reducible refine (placeb_w Xhi.out Xhb.out Xhn.out _ _ _ (Kd.C_below HC_l.out HB.out) HK_l.out).mono ?_; rintro e w4_ ⟨rfl, hB⟩; replace HB := mvH HB hB; clear hc_gh_0; replace BK_gh := mvB BK_gh hB; clear hc_gs_0; replace BK_gs := mvB BK_gs hB; have hc_gs_0 := (cf4 BK_gs.out).1; have hc_gs_1 := (cf4 BK_gs.out).2.1; have hc_gs_2 := (cf4 BK_gs.out).2.2.1; have hc_gs_3 := (cf4 BK_gs.out).2.2.2.1; replace BK_gr := mvB BK_gr hB; clear hB) | (go_at_call 30; with_reducible refine (right_w Xhr.out _ _ _ (Kd.C_below HC_s.out HB.out) HK_s.out).mono ?_; rintro e w5_ ⟨rfl, hB⟩; replace HB := mvH HB hB; replace BK_gh := mvB BK_gh hB; have hc_gh_0 : w5_.cell? ⟨gh, 0, none⟩ = some (.slice A_l l.length c_l) := (blk_cell BK_gh.out 0).trans rfl; clear hc_gs_0 hc_gs_1 hc_gs_2 hc_gs_3; clear BK_gs; replace BK_gr := mvB BK_gr hB; obtain ⟨hc_gr_0, hf_gr_0⟩ := cf1 BK_gr.out; clear hB))
  refine bodyPost_ret (results_ctt rfl _ _ gr 40 #[.slice A_l l.length c_l] (0, 0) _ rfl (blk_put (cs := #[.slice none 0 0]) BK_gr.out 0 (.slice A_l l.length c_l) rfl) Try.underlying40 rfl (by kernel_rfl)) rfl ?_
  exact ⟨_, _, rfl, Kd.V_mk HK_l.out (Kd.F_mono (Kd.F_below FL.out (below_set HB.out GE_gr.out)) (fun k hk => .inl hk)), Kd.V_nil _ _ _ _ _, below_set HB.out GE_gr.out⟩
theorem put_other {k : Nat} {l : List S42} {s : S42} {i : Nat} (hi : Stands l s.f0 i) (hn : l.length ≤ 1000000) (hr : host_right.f k s.f0 s.f1 s.f2.f0 s.f2.f1 = some true) (hb : at_ l i s.f0 = true) (hg : ((rd_T42 l i).f1 == s.f1) = false) (A_l : Option Addr) (c_l : Nat) (A_s : Option Addr) (c_s : Nat) (w : World) (hl : Kd.C k42 w A_l l.length l) (hcl : l.length ≤ c_l) (hs : Kd.C (Kd.int .u32) w A_s s.f2.f1.length s.f2.f1) (hcs : s.f2.f1.length ≤ c_s) (P : Nat → Prop) (hP : ∀ k, P k → k < w.heap.size) (hlF : Kd.F k42 w P A_l l.length l) (hsF : Kd.F (Kd.int .u32) w P A_s s.f2.f1.length s.f2.f1) :
    Calls Try.prog 15 #[.agg #[.slice A_l l.length c_l], .agg #[.int .i64 s.f0, .int .u32 s.f1, .bool s.f2.f0, .slice A_s s.f2.f1.length c_s]] w (PutPost P w l [] 1) := by
  have hu40 := Try.underlying40
  have hu42 := Try.underlying42
  have hil : i < l.length := by unfold at_ at hb; simp only [Bool.and_eq_true, decide_eq_true_eq] at hb; exact hb.1
  obtain ⟨ad, A3, c3, he, hx0, hx1, hx2, hx3, _, _⟩ := at_T42 hl (i : Int) (by omega) (by omega)
  subst he
  rw [Int.toNat_natCast] at hx0 hx1 hx2 hx3
  have EX1 := Aside0.mk hx1
  clear hx0 hx1 hx2 hx3
  have HIL := Aside0.mk hil
  clear hil
  obtain ⟨gx, hgx⟩ : ∃ gx, gx = (rd_T42 l i).f1 := ⟨_, rfl⟩
  rw [← hgx] at hg EX1
  clear hgx
  have HB := Aside0.mk (Below.refl w.heap.size w)
  have HC_l := Aside0.mk hl
  have HK_l := Aside0.mk hcl
  have HC_s := Aside0.mk hs
  have HK_s := Aside0.mk hcs
  have FL := Aside0.mk hlF
  have Xhi := Aside0.mk hi
  have Xhn := Aside0.mk hn
  have Xhr := Aside0.mk hr
  have Xhb := Aside0.mk hb
  clear hl hcl hs hcs hi hn hP hlF hsF hr hb
  go_enter Try.func15, Try.ntmps15
  go_upto_region 3 with (first | ((with_reducible refine gate_dst (N := 2) rfl ?_); (try (refine gate_guard (by rfl) ?_; dsimp only)); refine bxn (cs := #[.slice (some ad) l.length c_l]) (t := 40) ?_; intro gh hg w1_ hbox hB; replace HB := mvH HB hB; have BK_gh := Aside0.mk hbox; clear hg hbox hB) | ((with_reducible refine gate_dst (N := 3) rfl ?_); (try (refine gate_guard (by rfl) ?_; dsimp only)); refine bxn (cs := #[.int .i64 s.f0, .int .u32 s.f1, .bool s.f2.f0, .slice A_s s.f2.f1.length c_s]) (t := 42) ?_; intro gs hg w2_ hbox hB; replace HB := mvH HB hB; replace BK_gh := mvB BK_gh hB; have BK_gs := Aside0.mk hbox; clear hg hbox hB) | ((with_reducible refine gate_dst (N := 4) rfl ?_); (try (refine gate_guard (by rfl) ?_; dsimp only)); refine bxn (cs := #[.slice none 0 0]) (t := 40) ?_; intro gr hg w3_ hbox hB; have HBo := Aside0.mk HB.out; replace HB := mvH HB hB; replace BK_gh := mvB BK_gh hB; have hc_gh_0 : w3_.cell? ⟨gh, 0, none⟩ = some (.slice (some ad) l.length c_l) := (blk_cell BK_gh.out 0).trans rfl; replace BK_gs := mvB BK_gs hB; have hc_gs_0 := (cf4 BK_gs.out).1; have BK_gr := Aside0.mk hbox; have GE_gr := Aside0.mk (show w.heap.size ≤ gr by rw [hg]; exact HBo.out.size); clear hg hbox hB; clear HBo) | (go_at_call 29; with_reducible refine (placeb_w Xhi.out Xhb.out Xhn.out _ _ _ (Kd.C_below HC_l.out HB.out) HK_l.out).mono ?_; rintro e w4_ ⟨rfl, hB⟩; replace HB := mvH HB hB; clear hc_gh_0; replace BK_gh := mvB BK_gh hB; clear hc_gs_0; replace BK_gs := mvB BK_gs hB; have hc_gs_0 := (cf4 BK_gs.out).1; have hc_gs_1 := (cf4 BK_gs.out).2.1; have hc_gs_2 := (cf4 BK_gs.out).2.2.1; have hc_gs_3 := (cf4 BK_gs.out).2.2.2.1; replace BK_gr := mvB BK_gr hB; clear hB) | (go_at_call 30; with_reducible refine (right_w Xhr.out _ _ _ (Kd.C_below HC_s.out HB.out) HK_s.out).mono ?_; rintro e w5_ ⟨rfl, hB⟩; replace HB := mvH HB hB; replace BK_gh := mvB BK_gh hB; have hc_gh_0 : w5_.cell? ⟨gh, 0, none⟩ = some (.slice (some ad) l.length c_l) := (blk_cell BK_gh.out 0).trans rfl; clear hc_gs_0 hc_gs_1 hc_gs_2 hc_gs_3; replace BK_gs := mvB BK_gs hB; have hc_gs_0 := (cf4 BK_gs.out).1; have hc_gs_1 := (cf4 BK_gs.out).2.1; have hc_gs_2 := (cf4 BK_gs.out).2.2.1; have hc_gs_3 := (cf4 BK_gs.out).2.2.2.1; replace BK_gr := mvB BK_gr hB; have hc_gr_0 : w5_.cell? ⟨gr, 0, none⟩ = some (.slice none 0 0) := (blk_cell BK_gr.out 0).trans rfl; clear hB))
  have p1 : (0 : Int) ≤ (i : Int) := by omega
  have p2 : (i : Int) < (l.length : Int) := by have := HIL.out; omega
  replace p1 := eq_true p1
  replace p2 := eq_true p2
  refine start_ (n := 13) (S := fun w' => w'.cell? ⟨gh, 0, none⟩ = some (.slice (some ad) l.length c_l) ∧ w'.cell? ⟨gs, 0, none⟩ = some (.int .i64 s.f0) ∧ w'.cell? ⟨gs, 1, none⟩ = some (.int .u32 s.f1) ∧ w'.cell? ⟨gs, 2, none⟩ = some (.bool s.f2.f0) ∧ w'.cell? ⟨gs, 3, none⟩ = some (.slice A_s s.f2.f1.length c_s) ∧ w'.cell? ⟨gr, 0, none⟩ = some (.slice none 0 0) ∧ w'.cell? ⟨(ad.add (i * 4)).block, (ad.add (i * 4)).off + 1, none⟩ = some (.int .u32 gx)) (ds := []) #[false, false, false, false, false, false, false, false, false, false, false, false, false] (by kernel_rfl) rfl rfl ⟨hc_gh_0, hc_gs_0, hc_gs_1, hc_gs_2, hc_gs_3, hc_gr_0, ((HB.out.cell (World.block_lt_of_cell? w _ EX1.out)).trans EX1.out)⟩ (fun hHeld => ?_); refine with_tabW put_t3w put_b3w (fun HT_ HW_ => ?_)
  have hB : Below w5_.heap.size w5_ w5_.drew := below_drew (Below.refl _ _)
  generalize w5_.drew = w6_ at hB hHeld ⊢
  replace HB := mvH HB hB
  clear hc_gh_0
  clear BK_gh
  clear hc_gs_0 hc_gs_1 hc_gs_2 hc_gs_3
  clear BK_gs
  clear hc_gr_0
  replace BK_gr := mvB BK_gr hB
  have hf_gr_0 := blk_frozen BK_gr.out 0
  clear hB
  refine pw 0 21 (bb 13 1) rfl rfl HT_ ?_
  refine pw 1 22 (bb 13 3) rfl rfl HT_ ?_
  refine pw 2 23 (bb 13 7) rfl rfl HT_ ?_
  refine tk 3 24 (bb 13 15) rfl rfl HT_ HW_ hHeld ?_
  refine pw 4 25 (bb 13 31) rfl rfl HT_ ?_
  refine pw 5 26 (bb 13 63) rfl rfl HT_ ?_
  refine pw 6 27 (bb 13 127) rfl rfl HT_ ?_
  refine tk 7 28 (bb 13 255) rfl rfl HT_ HW_ hHeld ?_
  refine pw 8 29 (bb 13 511) rfl rfl HT_ ?_
  refine tk 9 30 (bb 13 1023) rfl rfl HT_ HW_ hHeld ?_
  refine pw 10 31 (bb 13 2047) rfl rfl HT_ ?_
  refine pw 11 32 (bb 13 4095) rfl rfl HT_ ?_
  refine pw 12 17 (bb 13 8191) rfl rfl HT_ ?_
  refine done_ (done_of HT_.out (by kernel_rfl)) ?_
  go_wp2
  refine bodyPost_ret (results_ctt rfl _ _ gr 40 #[.slice (some ad) l.length c_l] (0, 0) _ rfl (blk_put (cs := #[.slice none 0 0]) BK_gr.out 0 (.slice (some ad) l.length c_l) rfl) Try.underlying40 rfl (by kernel_rfl)) rfl ?_
  exact ⟨_, _, rfl, Kd.V_mk HK_l.out (Kd.F_mono (Kd.F_below FL.out (below_set HB.out GE_gr.out)) (fun k hk => .inl hk)), Kd.V_nil _ _ _ _ _, below_set HB.out GE_gr.out⟩
theorem put_full {k : Nat} {l : List S42} {s : S42} {i : Nat} (hi : Stands l s.f0 i) (hn : l.length ≤ 1000000) (hr : host_right.f k s.f0 s.f1 s.f2.f0 s.f2.f1 = some true) (hb : at_ l i s.f0 = false) (h32 : (32 : Int) ≤ l.length) (A_l : Option Addr) (c_l : Nat) (A_s : Option Addr) (c_s : Nat) (w : World) (hl : Kd.C k42 w A_l l.length l) (hcl : l.length ≤ c_l) (hs : Kd.C (Kd.int .u32) w A_s s.f2.f1.length s.f2.f1) (hcs : s.f2.f1.length ≤ c_s) (P : Nat → Prop) (hP : ∀ k, P k → k < w.heap.size) (hlF : Kd.F k42 w P A_l l.length l) (hsF : Kd.F (Kd.int .u32) w P A_s s.f2.f1.length s.f2.f1) :
    Calls Try.prog 15 #[.agg #[.slice A_l l.length c_l], .agg #[.int .i64 s.f0, .int .u32 s.f1, .bool s.f2.f0, .slice A_s s.f2.f1.length c_s]] w (PutPost P w l [] 7) := by
  have hu40 := Try.underlying40
  have hu42 := Try.underlying42
  have HB := Aside0.mk (Below.refl w.heap.size w)
  have HC_l := Aside0.mk hl
  have HK_l := Aside0.mk hcl
  have HC_s := Aside0.mk hs
  have HK_s := Aside0.mk hcs
  have FL := Aside0.mk hlF
  have Xhi := Aside0.mk hi
  have Xhn := Aside0.mk hn
  have Xhr := Aside0.mk hr
  have Xhb := Aside0.mk hb
  clear hl hcl hs hcs hi hn hP hlF hsF hr hb
  go_enter Try.func15, Try.ntmps15
  go_upto_region 3 with (first | ((with_reducible refine gate_dst (N := 2) rfl ?_); (try (refine gate_guard (by rfl) ?_; dsimp only)); refine bxn (cs := #[.slice A_l l.length c_l]) (t := 40) ?_; intro gh hg w1_ hbox hB; replace HB := mvH HB hB; have BK_gh := Aside0.mk hbox; clear hg hbox hB) | ((with_reducible refine gate_dst (N := 3) rfl ?_); (try (refine gate_guard (by rfl) ?_; dsimp only)); refine bxn (cs := #[.int .i64 s.f0, .int .u32 s.f1, .bool s.f2.f0, .slice A_s s.f2.f1.length c_s]) (t := 42) ?_; intro gs hg w2_ hbox hB; replace HB := mvH HB hB; replace BK_gh := mvB BK_gh hB; have BK_gs := Aside0.mk hbox; clear hg hbox hB) | ((with_reducible refine gate_dst (N := 4) rfl ?_); (try (refine gate_guard (by rfl) ?_; dsimp only)); refine bxn (cs := #[.slice none 0 0]) (t := 40) ?_; intro gr hg w3_ hbox hB; have HBo := Aside0.mk HB.out; replace HB := mvH HB hB; replace BK_gh := mvB BK_gh hB; have hc_gh_0 : w3_.cell? ⟨gh, 0, none⟩ = some (.slice A_l l.length c_l) := (blk_cell BK_gh.out 0).trans rfl; replace BK_gs := mvB BK_gs hB; have hc_gs_0 := (cf4 BK_gs.out).1; have BK_gr := Aside0.mk hbox; have GE_gr := Aside0.mk (show w.heap.size ≤ gr by rw [hg]; exact HBo.out.size); clear hg hbox hB; clear HBo) | (go_at_call 29; with_reducible refine (placeb_w Xhi.out Xhb.out Xhn.out _ _ _ (Kd.C_below HC_l.out HB.out) HK_l.out).mono ?_; rintro e w4_ ⟨rfl, hB⟩; replace HB := mvH HB hB; clear hc_gh_0; replace BK_gh := mvB BK_gh hB; clear hc_gs_0; replace BK_gs := mvB BK_gs hB; have hc_gs_0 := (cf4 BK_gs.out).1; have hc_gs_1 := (cf4 BK_gs.out).2.1; have hc_gs_2 := (cf4 BK_gs.out).2.2.1; have hc_gs_3 := (cf4 BK_gs.out).2.2.2.1; replace BK_gr := mvB BK_gr hB; clear hB) | (go_at_call 30; with_reducible refine (right_w Xhr.out _ _ _ (Kd.C_below HC_s.out HB.out) HK_s.out).mono ?_; rintro e w5_ ⟨rfl, hB⟩; replace HB := mvH HB hB; replace BK_gh := mvB BK_gh hB; have hc_gh_0 : w5_.cell? ⟨gh, 0, none⟩ = some (.slice A_l l.length c_l) := (blk_cell BK_gh.out 0).trans rfl; clear hc_gs_0 hc_gs_1 hc_gs_2 hc_gs_3; replace BK_gs := mvB BK_gs hB; have hc_gs_0 := (cf4 BK_gs.out).1; have hc_gs_1 := (cf4 BK_gs.out).2.1; have hc_gs_2 := (cf4 BK_gs.out).2.2.1; have hc_gs_3 := (cf4 BK_gs.out).2.2.2.1; replace BK_gr := mvB BK_gr hB; have hc_gr_0 : w5_.cell? ⟨gr, 0, none⟩ = some (.slice none 0 0) := (blk_cell BK_gr.out 0).trans rfl; clear hB))
  refine start_ (n := 13) (S := fun w' => w'.cell? ⟨gh, 0, none⟩ = some (.slice A_l l.length c_l) ∧ w'.cell? ⟨gs, 0, none⟩ = some (.int .i64 s.f0) ∧ w'.cell? ⟨gs, 1, none⟩ = some (.int .u32 s.f1) ∧ w'.cell? ⟨gs, 2, none⟩ = some (.bool s.f2.f0) ∧ w'.cell? ⟨gs, 3, none⟩ = some (.slice A_s s.f2.f1.length c_s) ∧ w'.cell? ⟨gr, 0, none⟩ = some (.slice none 0 0)) (ds := []) #[false, false, false, false, false, false, false, false, false, false, false, false, false] (by kernel_rfl) rfl rfl ⟨hc_gh_0, hc_gs_0, hc_gs_1, hc_gs_2, hc_gs_3, hc_gr_0⟩ (fun hHeld => ?_); refine with_tabW put_t3w put_b3w (fun HT_ HW_ => ?_)
  have hB : Below w5_.heap.size w5_ w5_.drew := below_drew (Below.refl _ _)
  generalize w5_.drew = w6_ at hB hHeld ⊢
  replace HB := mvH HB hB
  clear hc_gh_0
  clear BK_gh
  clear hc_gs_0 hc_gs_1 hc_gs_2 hc_gs_3
  clear BK_gs
  clear hc_gr_0
  replace BK_gr := mvB BK_gr hB
  have hf_gr_0 := blk_frozen BK_gr.out 0
  clear hB
  refine pw 0 21 (bb 13 1) rfl rfl HT_ ?_
  refine pw 1 22 (bb 13 3) rfl rfl HT_ ?_
  refine pz 2 23 (bb 13 7) rfl rfl HT_ ?_
  refine pz 3 24 (bb 13 15) rfl rfl HT_ ?_
  refine pz 4 25 (bb 13 31) rfl rfl HT_ ?_
  refine pz 5 26 (bb 13 63) rfl rfl HT_ ?_
  refine pz 6 27 (bb 13 127) rfl rfl HT_ ?_
  refine pz 7 28 (bb 13 255) rfl rfl HT_ ?_
  refine pz 8 29 (bb 13 511) rfl rfl HT_ ?_
  refine pz 9 30 (bb 13 1023) rfl rfl HT_ ?_
  refine pz 10 31 (bb 13 2047) rfl rfl HT_ ?_
  refine pw 11 32 (bb 13 4095) rfl rfl HT_ ?_
  refine pw 12 17 (bb 13 8191) rfl rfl HT_ ?_
  refine done_ (done_of HT_.out (by kernel_rfl)) ?_
  go_wp2
  refine bodyPost_ret (results_ctt rfl _ _ gr 40 #[.slice A_l l.length c_l] (0, 0) _ rfl (blk_put (cs := #[.slice none 0 0]) BK_gr.out 0 (.slice A_l l.length c_l) rfl) Try.underlying40 rfl (by kernel_rfl)) rfl ?_
  exact ⟨_, _, rfl, Kd.V_mk HK_l.out (Kd.F_mono (Kd.F_below FL.out (below_set HB.out GE_gr.out)) (fun k hk => .inl hk)), Kd.V_nil _ _ _ _ _, below_set HB.out GE_gr.out⟩
theorem put_place {k : Nat} {l : List S42} {s : S42} {i : Nat} (hi : Stands l s.f0 i) (hn : l.length ≤ 1000000) (hr : host_right.f k s.f0 s.f1 s.f2.f0 s.f2.f1 = some true) (hb : at_ l i s.f0 = true) (hg : (rd_T42 l i).f1 = s.f1) {l2 : List S42} (h2 : l2 = l.set i s) {rs : List S36} (hch : host_changed.f k l l2 s.f1 = some (l2, rs, 0)) (A_l : Option Addr) (c_l : Nat) (A_s : Option Addr) (c_s : Nat) (w : World) (hl : Kd.C k42 w A_l l.length l) (hcl : l.length ≤ c_l) (hs : Kd.C (Kd.int .u32) w A_s s.f2.f1.length s.f2.f1) (hcs : s.f2.f1.length ≤ c_s) (P : Nat → Prop) (hP : ∀ k, P k → k < w.heap.size) (hlF : Kd.F k42 w P A_l l.length l) (hsF : Kd.F (Kd.int .u32) w P A_s s.f2.f1.length s.f2.f1) :
    Calls Try.prog 15 #[.agg #[.slice A_l l.length c_l], .agg #[.int .i64 s.f0, .int .u32 s.f1, .bool s.f2.f0, .slice A_s s.f2.f1.length c_s]] w (PutPost P w l2 rs 0) := by
  have hu40 := Try.underlying40
  have hu42 := Try.underlying42
  have hil : i < l.length := by unfold at_ at hb; simp only [Bool.and_eq_true, decide_eq_true_eq] at hb; exact hb.1
  obtain ⟨ad, A3, c3, he, hx0, hx1, hx2, hx3, _, _⟩ := at_T42 hl (i : Int) (by omega) (by omega)
  subst he
  rw [Int.toNat_natCast] at hx0 hx1 hx2 hx3
  have EX1 := Aside0.mk hx1
  clear hx0 hx1 hx2 hx3
  have HIL := Aside0.mk hil
  clear hil
  rw [hg] at EX1
  clear hg
  have HB := Aside0.mk (Below.refl w.heap.size w)
  have HC_l := Aside0.mk hl
  have HK_l := Aside0.mk hcl
  have HC_s := Aside0.mk hs
  have HK_s := Aside0.mk hcs
  have XP := Aside0.mk hP
  have FL := Aside0.mk hlF
  have FS := Aside0.mk hsF
  have Xhi := Aside0.mk hi
  have Xhn := Aside0.mk hn
  have Xhr := Aside0.mk hr
  have Xhb := Aside0.mk hb
  have Xh2 := Aside0.mk h2
  have Xhch := Aside0.mk hch
  clear hl hcl hs hcs hi hn hP hlF hsF hr hb h2 hch
  go_enter Try.func15, Try.ntmps15
  go_upto_region 3 with (first | ((with_reducible refine gate_dst (N := 2) rfl ?_); (try (refine gate_guard (by rfl) ?_; dsimp only)); refine bxn (cs := #[.slice (some ad) l.length c_l]) (t := 40) ?_; intro gh hg w1_ hbox hB; replace HB := mvH HB hB; have BK_gh := Aside0.mk hbox; clear hg hbox hB) | ((with_reducible refine gate_dst (N := 3) rfl ?_); (try (refine gate_guard (by rfl) ?_; dsimp only)); refine bxn (cs := #[.int .i64 s.f0, .int .u32 s.f1, .bool s.f2.f0, .slice A_s s.f2.f1.length c_s]) (t := 42) ?_; intro gs hg w2_ hbox hB; replace HB := mvH HB hB; replace BK_gh := mvB BK_gh hB; have BK_gs := Aside0.mk hbox; clear hg hbox hB) | ((with_reducible refine gate_dst (N := 4) rfl ?_); (try (refine gate_guard (by rfl) ?_; dsimp only)); refine bxn (cs := #[.slice none 0 0]) (t := 40) ?_; intro gr hg w3_ hbox hB; have HBo := Aside0.mk HB.out; replace HB := mvH HB hB; replace BK_gh := mvB BK_gh hB; have hc_gh_0 : w3_.cell? ⟨gh, 0, none⟩ = some (.slice (some ad) l.length c_l) := (blk_cell BK_gh.out 0).trans rfl; replace BK_gs := mvB BK_gs hB; have hc_gs_0 := (cf4 BK_gs.out).1; have BK_gr := Aside0.mk hbox; have GE_gr := Aside0.mk (show w.heap.size ≤ gr by rw [hg]; exact HBo.out.size); clear hg hbox hB; clear HBo) | (go_at_call 29; with_reducible refine (placeb_w Xhi.out Xhb.out Xhn.out _ _ _ (Kd.C_below HC_l.out HB.out) HK_l.out).mono ?_; rintro e w4_ ⟨rfl, hB⟩; replace HB := mvH HB hB; clear hc_gh_0; replace BK_gh := mvB BK_gh hB; clear hc_gs_0; replace BK_gs := mvB BK_gs hB; have hc_gs_0 := (cf4 BK_gs.out).1; have hc_gs_1 := (cf4 BK_gs.out).2.1; have hc_gs_2 := (cf4 BK_gs.out).2.2.1; have hc_gs_3 := (cf4 BK_gs.out).2.2.2.1; replace BK_gr := mvB BK_gr hB; clear hB) | (go_at_call 30; with_reducible refine (right_w Xhr.out _ _ _ (Kd.C_below HC_s.out HB.out) HK_s.out).mono ?_; rintro e w5_ ⟨rfl, hB⟩; replace HB := mvH HB hB; replace BK_gh := mvB BK_gh hB; have hc_gh_0 : w5_.cell? ⟨gh, 0, none⟩ = some (.slice (some ad) l.length c_l) := (blk_cell BK_gh.out 0).trans rfl; clear hc_gs_0 hc_gs_1 hc_gs_2 hc_gs_3; replace BK_gs := mvB BK_gs hB; have hc_gs_0 := (cf4 BK_gs.out).1; have hc_gs_1 := (cf4 BK_gs.out).2.1; have hc_gs_2 := (cf4 BK_gs.out).2.2.1; have hc_gs_3 := (cf4 BK_gs.out).2.2.2.1; replace BK_gr := mvB BK_gr hB; have hc_gr_0 : w5_.cell? ⟨gr, 0, none⟩ = some (.slice none 0 0) := (blk_cell BK_gr.out 0).trans rfl; clear hB))
  have p1 : (0 : Int) ≤ (i : Int) := by omega
  have p2 : (i : Int) < (l.length : Int) := by have := HIL.out; omega
  replace p1 := eq_true p1
  replace p2 := eq_true p2
  refine start_ (n := 13) (S := fun w' => w'.cell? ⟨gh, 0, none⟩ = some (.slice (some ad) l.length c_l) ∧ w'.cell? ⟨gs, 0, none⟩ = some (.int .i64 s.f0) ∧ w'.cell? ⟨gs, 1, none⟩ = some (.int .u32 s.f1) ∧ w'.cell? ⟨gs, 2, none⟩ = some (.bool s.f2.f0) ∧ w'.cell? ⟨gs, 3, none⟩ = some (.slice A_s s.f2.f1.length c_s) ∧ w'.cell? ⟨gr, 0, none⟩ = some (.slice none 0 0) ∧ w'.cell? ⟨(ad.add (i * 4)).block, (ad.add (i * 4)).off + 1, none⟩ = some (.int .u32 s.f1)) (ds := []) #[false, false, false, false, false, false, false, false, false, false, false, false, false] (by kernel_rfl) rfl rfl ⟨hc_gh_0, hc_gs_0, hc_gs_1, hc_gs_2, hc_gs_3, hc_gr_0, ((HB.out.cell (World.block_lt_of_cell? w _ EX1.out)).trans EX1.out)⟩ (fun hHeld => ?_); refine with_tabW put_t3w put_b3w (fun HT_ HW_ => ?_)
  have hB : Below w5_.heap.size w5_ w5_.drew := below_drew (Below.refl _ _)
  generalize w5_.drew = w6_ at hB hHeld ⊢
  replace HB := mvH HB hB
  clear hc_gh_0
  replace BK_gh := mvB BK_gh hB
  clear hc_gs_0 hc_gs_1 hc_gs_2 hc_gs_3
  replace BK_gs := mvB BK_gs hB
  clear hc_gr_0
  replace BK_gr := mvB BK_gr hB
  clear hB
  refine pw 0 21 (bb 13 1) rfl rfl HT_ ?_
  refine pw 1 22 (bb 13 3) rfl rfl HT_ ?_
  refine pw 2 23 (bb 13 7) rfl rfl HT_ ?_
  refine tk 3 24 (bb 13 15) rfl rfl HT_ HW_ hHeld ?_
  refine pw 4 25 (bb 13 31) rfl rfl HT_ ?_
  refine pw 5 26 (bb 13 63) rfl rfl HT_ ?_
  refine pw 6 27 (bb 13 127) rfl rfl HT_ ?_
  refine tk 7 28 (bb 13 255) rfl rfl HT_ HW_ hHeld ?_
  refine pw 8 29 (bb 13 511) rfl rfl HT_ ?_
  refine tk 9 30 (bb 13 1023) rfl rfl HT_ HW_ hHeld ?_
  refine pw 10 31 (bb 13 2047) rfl rfl HT_ ?_
  refine pw 11 32 (bb 13 4095) rfl rfl HT_ ?_
  refine pw 12 17 (bb 13 8191) rfl rfl HT_ ?_
  refine done_ (done_of HT_.out (by kernel_rfl)) ?_
  go_upto_region 9 with (first | (go_at_call 31; refine (clone_w (R := Kd.FK k42 w6_ P) (fun p c hp => (k42_FKlen hp).2) (some ad) c_l l _ Xhn.out (Kd.F_rows (Kd.F_below FL.out HB.out))).mono ?_; rintro e w7_ ⟨v_m, rfl, inner, hO, hR, h1, hg⟩; have LT_gh0 := blk_lt BK_gh.out; have LT_gs0 := blk_lt BK_gs.out; have LT_gr0 := blk_lt BK_gr.out; have hB := (Below.refl w6_.heap.size w6_).grown hg (Nat.le_refl _) (fun k hk => by cases hk); have HSW := HB.out.size; replace HB := mvH HB hB; replace BK_gh := mvB BK_gh hB; replace BK_gs := mvB BK_gs hB; have hc_gs_0 := (cf4 BK_gs.out).1; have hc_gs_1 := (cf4 BK_gs.out).2.1; have hc_gs_2 := (cf4 BK_gs.out).2.2.1; have hc_gs_3 := (cf4 BK_gs.out).2.2.2.1; replace BK_gr := mvB BK_gr hB; have HRI := Aside0.mk (hR.imp_ (fun _ _ hp => Kd.FK_below hp hB)); obtain ⟨nn, hnn⟩ : ∃ n, n = w6_.heap.size := ⟨_, rfl⟩; have HNS := Aside0.mk (show nn ≤ w7_.heap.size by rw [hnn]; exact hB.size); rw [← hnn] at hO LT_gh0 LT_gs0 LT_gr0 HSW; have HO := Aside0.mk hO; have LT_gh := Aside0.mk LT_gh0; have LT_gs := Aside0.mk LT_gs0; have LT_gr := Aside0.mk LT_gr0; have HNN := Aside0.mk HSW; clear hO hR h1 hg hB hnn LT_gh0 LT_gs0 LT_gr0 HSW))
  obtain ⟨g, cap, em_, hgn⟩ := own_form HO.out (by have := HIL.out; omega)
  subst em_
  have HGN := Aside0.mk hgn
  clear hgn
  obtain ⟨y0, hy0⟩ := own_cell HO.out (i * 4) (by have := HIL.out; omega)
  obtain ⟨y1, hy1⟩ := own_cell HO.out (i * 4 + 1) (by have := HIL.out; omega)
  obtain ⟨y2, hy2⟩ := own_cell HO.out (i * 4 + 2) (by have := HIL.out; omega)
  obtain ⟨y3, hy3⟩ := own_cell HO.out (i * 4 + 3) (by have := HIL.out; omega)
  have hf0 := HO.out.frozenAt (i * 4)
  have hf1 := HO.out.frozenAt (i * 4 + 1)
  have hf2 := HO.out.frozenAt (i * 4 + 2)
  have hf3 := HO.out.frozenAt (i * 4 + 3)
  go_upto_region 11 with fail
  obtain ⟨hO2, hG⟩ := own_store4 HO.out i HIL.out (.int .i64 s.f0) (.int .u32 s.f1) (.bool s.f2.f0) (.slice A_s s.f2.f1.length c_s)
  clear hy0 hy1 hy2 hy3 hf0 hf1 hf2 hf3
  generalize ((((w7_.setCell ⟨g, i * 4, none⟩ (.int .i64 s.f0)).setCell ⟨g, i * 4 + 1, none⟩ (.int .u32 s.f1)).setCell ⟨g, i * 4 + 2, none⟩ (.bool s.f2.f0)).setCell ⟨g, i * 4 + 3, none⟩ (.slice A_s s.f2.f1.length c_s)) = w8_ at hO2 hG ⊢
  have hrow : ∀ k, some g = some k → nn ≤ k := fun k hk => by injection hk with hk; have := HGN.out; omega
  have HNW := Aside0.mk (Nat.le_trans HNS.out hG.size)
  replace HB := Aside0.mk (HB.out.grown hG HB.out.size (fun k hk => Nat.le_trans HNN.out (hrow k hk)))
  have nBK := Aside0.mk (blk_grown BK_gh.out hG (fun e => by have h1 := hrow _ e.symm; have h2 := LT_gh.out; omega))
  clear BK_gh
  have BK_gh := nBK
  clear nBK
  have hc_gh_0 : w8_.cell? ⟨gh, 0, none⟩ = some (.slice (some ad) l.length c_l) := (blk_cell BK_gh.out 0).trans rfl
  clear hc_gs_0 hc_gs_1 hc_gs_2 hc_gs_3
  have nBK := Aside0.mk (blk_grown BK_gs.out hG (fun e => by have h1 := hrow _ e.symm; have h2 := LT_gs.out; omega))
  clear BK_gs
  have BK_gs := nBK
  clear nBK
  have hc_gs_1 := (cf4 BK_gs.out).2.1
  have nBK := Aside0.mk (blk_grown BK_gr.out hG (fun e => by have h1 := hrow _ e.symm; have h2 := LT_gr.out; omega))
  clear BK_gr
  have BK_gr := nBK
  clear nBK
  have HRN := Aside0.mk (HRI.out.imp_ (fun _ _ hp => Kd.FK_step hp (fun k hk hlt => hG.block k hlt (fun e => by have h1 := hrow k e.symm; have h2 := HNN.out; have h3 := XP.out k hk; omega))))
  clear HRI
  have HFS := Aside0.mk (show Kd.FK k42 w8_ P s [.int .i64 s.f0, .int .u32 s.f1, .bool s.f2.f0, .slice A_s s.f2.f1.length c_s] from k42_mkF _ _ s HK_s.out (Kd.F_below FS.out HB.out))
  have HV := Aside0.mk (show Kd.V k42 42 w8_ 0 (fun k => P k ∨ nn ≤ k) _ l2 from made_V (inner := inner.take (i * 4) ++ [.int .i64 s.f0, .int .u32 s.f1, .bool s.f2.f0, .slice A_s s.f2.f1.length c_s] ++ inner.drop (i * 4 + 4)) (fun k hk => Nat.lt_of_lt_of_le (XP.out k hk) HNN.out) (v := .slice (some ⟨g, 0, none⟩) l.length cap) (by rw [Xh2.out, List.length_set]; exact hO2) (by rw [Xh2.out]; exact Kd.reps_set HRN.out HIL.out HFS.out rfl))
  clear hO2 hG hrow HO HRN HFS
  obtain ⟨A_n, c_n, en_, hcall⟩ := changed_w Xhch.out (some ad) c_l _ _ (Kd.C_below HC_l.out HB.out) HK_l.out HV.out
  simp only [Value.slice.injEq] at en_
  obtain ⟨rfl, hl2_, rfl⟩ := en_
  rw [← hl2_] at hcall
  have XCALL := Aside0.mk hcall
  clear hcall hl2_
  go_wp2_with (first | (go_at_call 33; refine XCALL.out.mono ?_; rintro e w9_ ⟨A_0, c_0, A_1, c_1, rfl, hV0, hV1, hB⟩; replace HB := mvH HB hB; clear hc_gh_0; clear BK_gh; clear hc_gs_1; clear BK_gs; replace BK_gr := mvB BK_gr hB; obtain ⟨hc_gr_0, hf_gr_0⟩ := cf1 BK_gr.out; have HV_0 := Aside0.mk hV0; have HV_1 := Aside0.mk hV1; clear hV0 hV1 hB XCALL))
  refine bodyPost_ret (results_ctt rfl _ _ gr 40 #[.slice A_0 l.length c_0] (0, 0) _ rfl (blk_put (cs := #[.slice none 0 0]) BK_gr.out 0 (.slice A_0 l.length c_0) rfl) Try.underlying40 rfl (by kernel_rfl)) rfl ?_
  exact ⟨_, _, rfl, (Kd.V_mono (Kd.V_far (p := ⟨gr, 0, none⟩) HV_0.out (fun k hk e => by have h1 := LT_gr.out; have h2 := GE_gr.out; have h3 : k = gr := e; have h4 := HNW.out; exact Or.elim hk (fun hk => Or.elim hk (fun hk => by have := XP.out k hk; omega) (fun hk => by omega)) (fun hk => by omega)) (.slice A_0 l.length c_0)) (fun k hk => by have h2 := HNN.out; have h4 := HNW.out; exact Or.elim hk (fun hk => Or.elim hk (fun hk => .inl hk) (fun hk => .inr (by omega))) (fun hk => .inr (by omega)))), (Kd.V_mono (Kd.V_far (p := ⟨gr, 0, none⟩) HV_1.out (fun k hk e => by have h1 := LT_gr.out; have h2 := GE_gr.out; have h3 : k = gr := e; have h4 := HNW.out; exact Or.elim hk (fun hk => Or.elim hk (fun hk => by have := XP.out k hk; omega) (fun hk => by omega)) (fun hk => by omega)) (.slice A_0 l.length c_0)) (fun k hk => by have h2 := HNN.out; have h4 := HNW.out; exact Or.elim hk (fun hk => Or.elim hk (fun hk => .inl hk) (fun hk => .inr (by omega))) (fun hk => .inr (by omega)))), below_set HB.out GE_gr.out⟩
theorem put_new {k : Nat} {l : List S42} {s : S42} {i : Nat} (hi : Stands l s.f0 i) (hn : l.length ≤ 1000000) (hr : host_right.f k s.f0 s.f1 s.f2.f0 s.f2.f1 = some true) (hb : at_ l i s.f0 = false) (h32 : ¬ (32 : Int) ≤ l.length) {l2 : List S42} (h2 : l2 = l.take i ++ [s] ++ l.drop i) {rs : List S36} (hch : host_changed.f k l l2 s.f1 = some (l2, rs, 0)) (A_l : Option Addr) (c_l : Nat) (A_s : Option Addr) (c_s : Nat) (w : World) (hl : Kd.C k42 w A_l l.length l) (hcl : l.length ≤ c_l) (hs : Kd.C (Kd.int .u32) w A_s s.f2.f1.length s.f2.f1) (hcs : s.f2.f1.length ≤ c_s) (P : Nat → Prop) (hP : ∀ k, P k → k < w.heap.size) (hlF : Kd.F k42 w P A_l l.length l) (hsF : Kd.F (Kd.int .u32) w P A_s s.f2.f1.length s.f2.f1) :
    Calls Try.prog 15 #[.agg #[.slice A_l l.length c_l], .agg #[.int .i64 s.f0, .int .u32 s.f1, .bool s.f2.f0, .slice A_s s.f2.f1.length c_s]] w (PutPost P w l2 rs 0) := by
  have hu40 := Try.underlying40
  have hu42 := Try.underlying42
  have HB := Aside0.mk (Below.refl w.heap.size w)
  have HC_l := Aside0.mk hl
  have HK_l := Aside0.mk hcl
  have HC_s := Aside0.mk hs
  have HK_s := Aside0.mk hcs
  have XP := Aside0.mk hP
  have FL := Aside0.mk hlF
  have FS := Aside0.mk hsF
  have XI1 := Aside0.mk hi.1
  have Xhi := Aside0.mk hi
  have Xhn := Aside0.mk hn
  have Xhr := Aside0.mk hr
  have Xhb := Aside0.mk hb
  have Xh2 := Aside0.mk h2
  have Xhch := Aside0.mk hch
  clear hl hcl hs hcs hi hn hP hlF hsF hr hb h2 hch
  go_enter Try.func15, Try.ntmps15
  go_upto_region 3 with (first | ((with_reducible refine gate_dst (N := 2) rfl ?_); (try (refine gate_guard (by rfl) ?_; dsimp only)); refine bxn (cs := #[.slice A_l l.length c_l]) (t := 40) ?_; intro gh hg w1_ hbox hB; replace HB := mvH HB hB; have BK_gh := Aside0.mk hbox; clear hg hbox hB) | ((with_reducible refine gate_dst (N := 3) rfl ?_); (try (refine gate_guard (by rfl) ?_; dsimp only)); refine bxn (cs := #[.int .i64 s.f0, .int .u32 s.f1, .bool s.f2.f0, .slice A_s s.f2.f1.length c_s]) (t := 42) ?_; intro gs hg w2_ hbox hB; replace HB := mvH HB hB; replace BK_gh := mvB BK_gh hB; have BK_gs := Aside0.mk hbox; clear hg hbox hB) | ((with_reducible refine gate_dst (N := 4) rfl ?_); (try (refine gate_guard (by rfl) ?_; dsimp only)); refine bxn (cs := #[.slice none 0 0]) (t := 40) ?_; intro gr hg w3_ hbox hB; have HBo := Aside0.mk HB.out; replace HB := mvH HB hB; replace BK_gh := mvB BK_gh hB; have hc_gh_0 : w3_.cell? ⟨gh, 0, none⟩ = some (.slice A_l l.length c_l) := (blk_cell BK_gh.out 0).trans rfl; replace BK_gs := mvB BK_gs hB; have hc_gs_0 := (cf4 BK_gs.out).1; have BK_gr := Aside0.mk hbox; have GE_gr := Aside0.mk (show w.heap.size ≤ gr by rw [hg]; exact HBo.out.size); clear hg hbox hB; clear HBo) | (go_at_call 29; with_reducible refine (placeb_w Xhi.out Xhb.out Xhn.out _ _ _ (Kd.C_below HC_l.out HB.out) HK_l.out).mono ?_; rintro e w4_ ⟨rfl, hB⟩; replace HB := mvH HB hB; clear hc_gh_0; replace BK_gh := mvB BK_gh hB; clear hc_gs_0; replace BK_gs := mvB BK_gs hB; have hc_gs_0 := (cf4 BK_gs.out).1; have hc_gs_1 := (cf4 BK_gs.out).2.1; have hc_gs_2 := (cf4 BK_gs.out).2.2.1; have hc_gs_3 := (cf4 BK_gs.out).2.2.2.1; replace BK_gr := mvB BK_gr hB; clear hB) | (go_at_call 30; with_reducible refine (right_w Xhr.out _ _ _ (Kd.C_below HC_s.out HB.out) HK_s.out).mono ?_; rintro e w5_ ⟨rfl, hB⟩; replace HB := mvH HB hB; replace BK_gh := mvB BK_gh hB; have hc_gh_0 : w5_.cell? ⟨gh, 0, none⟩ = some (.slice A_l l.length c_l) := (blk_cell BK_gh.out 0).trans rfl; clear hc_gs_0 hc_gs_1 hc_gs_2 hc_gs_3; replace BK_gs := mvB BK_gs hB; have hc_gs_0 := (cf4 BK_gs.out).1; have hc_gs_1 := (cf4 BK_gs.out).2.1; have hc_gs_2 := (cf4 BK_gs.out).2.2.1; have hc_gs_3 := (cf4 BK_gs.out).2.2.2.1; replace BK_gr := mvB BK_gr hB; have hc_gr_0 : w5_.cell? ⟨gr, 0, none⟩ = some (.slice none 0 0) := (blk_cell BK_gr.out 0).trans rfl; clear hB))
  refine start_ (n := 13) (S := fun w' => w'.cell? ⟨gh, 0, none⟩ = some (.slice A_l l.length c_l) ∧ w'.cell? ⟨gs, 0, none⟩ = some (.int .i64 s.f0) ∧ w'.cell? ⟨gs, 1, none⟩ = some (.int .u32 s.f1) ∧ w'.cell? ⟨gs, 2, none⟩ = some (.bool s.f2.f0) ∧ w'.cell? ⟨gs, 3, none⟩ = some (.slice A_s s.f2.f1.length c_s) ∧ w'.cell? ⟨gr, 0, none⟩ = some (.slice none 0 0)) (ds := []) #[false, false, false, false, false, false, false, false, false, false, false, false, false] (by kernel_rfl) rfl rfl ⟨hc_gh_0, hc_gs_0, hc_gs_1, hc_gs_2, hc_gs_3, hc_gr_0⟩ (fun hHeld => ?_); refine with_tabW put_t3w put_b3w (fun HT_ HW_ => ?_)
  have hB : Below w5_.heap.size w5_ w5_.drew := below_drew (Below.refl _ _)
  generalize w5_.drew = w6_ at hB hHeld ⊢
  replace HB := mvH HB hB
  clear hc_gh_0
  replace BK_gh := mvB BK_gh hB
  clear hc_gs_0 hc_gs_1 hc_gs_2 hc_gs_3
  replace BK_gs := mvB BK_gs hB
  clear hc_gr_0
  replace BK_gr := mvB BK_gr hB
  clear hB
  refine pw 0 21 (bb 13 1) rfl rfl HT_ ?_
  refine pw 1 22 (bb 13 3) rfl rfl HT_ ?_
  refine pz 2 23 (bb 13 7) rfl rfl HT_ ?_
  refine pz 3 24 (bb 13 15) rfl rfl HT_ ?_
  refine pz 4 25 (bb 13 31) rfl rfl HT_ ?_
  refine pz 5 26 (bb 13 63) rfl rfl HT_ ?_
  refine pz 6 27 (bb 13 127) rfl rfl HT_ ?_
  refine pz 7 28 (bb 13 255) rfl rfl HT_ ?_
  refine pz 8 29 (bb 13 511) rfl rfl HT_ ?_
  refine pz 9 30 (bb 13 1023) rfl rfl HT_ ?_
  refine pz 10 31 (bb 13 2047) rfl rfl HT_ ?_
  refine pw 11 32 (bb 13 4095) rfl rfl HT_ ?_
  refine pw 12 17 (bb 13 8191) rfl rfl HT_ ?_
  refine done_ (done_of HT_.out (by kernel_rfl)) ?_
  go_upto_region 10 with (first | (go_at_call 31; refine (clone_w (R := Kd.FK k42 w6_ P) (fun p c hp => (k42_FKlen hp).2) A_l c_l l _ Xhn.out (Kd.F_rows (Kd.F_below FL.out HB.out))).mono ?_; rintro e w7_ ⟨v_m, rfl, inner, hO, hR, h1, hg⟩; have LT_gh0 := blk_lt BK_gh.out; have LT_gs0 := blk_lt BK_gs.out; have LT_gr0 := blk_lt BK_gr.out; have hB := (Below.refl w6_.heap.size w6_).grown hg (Nat.le_refl _) (fun k hk => by cases hk); have HSW := HB.out.size; replace HB := mvH HB hB; replace BK_gh := mvB BK_gh hB; replace BK_gs := mvB BK_gs hB; have hc_gs_0 := (cf4 BK_gs.out).1; have hc_gs_1 := (cf4 BK_gs.out).2.1; have hc_gs_2 := (cf4 BK_gs.out).2.2.1; have hc_gs_3 := (cf4 BK_gs.out).2.2.2.1; replace BK_gr := mvB BK_gr hB; have HRI := Aside0.mk (hR.imp_ (fun _ _ hp => Kd.FK_below hp hB)); obtain ⟨nn, hnn⟩ : ∃ n, n = w6_.heap.size := ⟨_, rfl⟩; have HNS := Aside0.mk (show nn ≤ w7_.heap.size by rw [hnn]; exact hB.size); rw [← hnn] at hO LT_gh0 LT_gs0 LT_gr0 HSW; have HO := Aside0.mk hO; have H1 := Aside0.mk h1; have LT_gh := Aside0.mk LT_gh0; have LT_gs := Aside0.mk LT_gs0; have LT_gr := Aside0.mk LT_gr0; have HNN := Aside0.mk HSW; clear hO hR h1 hg hB hnn LT_gh0 LT_gs0 LT_gr0 HSW))
  have HLEN := Aside0.mk (show l2.length = l.length + 1 by rw [Xh2.out]; have := XI1.out; simp only [List.length_append, List.length_take, List.length_drop, List.length_cons, List.length_nil]; omega)
  have hins := insert_w nn v_m l.length i w7_.heap.size 1 inner [.int .i64 s.f0, .int .u32 s.f1, .bool s.f2.f0, .slice A_s s.f2.f1.length c_s] #[.int .i64 s.f0, .int .u32 s.f1, .bool s.f2.f0, .slice A_s s.f2.f1.length c_s] (w7_.alloc (.cells #[.int .i64 s.f0, .int .u32 s.f1, .bool s.f2.f0, .slice A_s s.f2.f1.length c_s] 42)) (Nat.le_trans HNS.out (World.grownBy_alloc _ _ none).size) Xhn.out XI1.out (HO.out.alloc _) H1.out (heap_alloc_new _ _) rfl rfl (by simp [Value.oneCell']) (fun e => by have h1 := (HO.out.lt _ e).2; omega)
  have XINS := Aside0.mk hins
  clear hins
  go_wp2_with (first | (go_at_call 32; with_reducible refine XINS.out.mono ?_; rintro e w8_ ⟨v_n, rfl, hO2, hG0⟩; have hG := grown_trans (World.grownBy_alloc w7_ (.cells #[.int .i64 s.f0, .int .u32 s.f1, .bool s.f2.f0, .slice A_s s.f2.f1.length c_s] 42) v_m.ownBlock) hG0; have hrow : ∀ k, v_m.ownBlock = some k → nn ≤ k := fun k hk => (HO.out.lt k hk).1; have HNW := Aside0.mk (Nat.le_trans HNS.out hG.size); replace HB := Aside0.mk (HB.out.grown hG HB.out.size (fun k hk => Nat.le_trans HNN.out (hrow k hk))); have nBK := Aside0.mk (blk_grown BK_gh.out hG (fun e => by have h1 := hrow _ e.symm; have h2 := LT_gh.out; omega)); clear BK_gh; have BK_gh := nBK; clear nBK; have hc_gh_0 : w8_.cell? ⟨gh, 0, none⟩ = some (.slice A_l l.length c_l) := (blk_cell BK_gh.out 0).trans rfl; clear hc_gs_0 hc_gs_1 hc_gs_2 hc_gs_3; have nBK := Aside0.mk (blk_grown BK_gs.out hG (fun e => by have h1 := hrow _ e.symm; have h2 := LT_gs.out; omega)); clear BK_gs; have BK_gs := nBK; clear nBK; have hc_gs_1 := (cf4 BK_gs.out).2.1; have nBK := Aside0.mk (blk_grown BK_gr.out hG (fun e => by have h1 := hrow _ e.symm; have h2 := LT_gr.out; omega)); clear BK_gr; have BK_gr := nBK; clear nBK; have HRN := Aside0.mk (HRI.out.imp_ (fun _ _ hp => Kd.FK_step hp (fun k hk hlt => hG.block k hlt (fun e => by have h1 := hrow k e.symm; have h2 := HNN.out; have h3 := XP.out k hk; omega)))); clear HRI; have HFS := Aside0.mk (show Kd.FK k42 w8_ P s [.int .i64 s.f0, .int .u32 s.f1, .bool s.f2.f0, .slice A_s s.f2.f1.length c_s] from k42_mkF _ _ s HK_s.out (Kd.F_below FS.out HB.out)); have HV := Aside0.mk (show Kd.V k42 42 w8_ 0 (fun k => P k ∨ nn ≤ k) v_n l2 from made_V (inner := inner.take (i * 4) ++ [.int .i64 s.f0, .int .u32 s.f1, .bool s.f2.f0, .slice A_s s.f2.f1.length c_s] ++ inner.drop (i * 4)) (fun k hk => Nat.lt_of_lt_of_le (XP.out k hk) HNN.out) (HLEN.out.symm ▸ hO2) (by rw [Xh2.out]; exact Kd.reps_append (Kd.reps_append (Kd.reps_take HRN.out XI1.out) (Reps.c4 HFS.out (Reps.none _ _))) (Kd.reps_drop HRN.out))); clear hO2 hG0 hG hrow HO HRN HFS; obtain ⟨A_n, c_n, en_, hcall⟩ := changed_w Xhch.out A_l c_l _ _ (Kd.C_below HC_l.out HB.out) HK_l.out HV.out; subst en_; have XCALL := Aside0.mk hcall; clear hcall) | (go_at_call 33; refine XCALL.out.mono ?_; rintro e w9_ ⟨A_0, c_0, A_1, c_1, rfl, hV0, hV1, hB⟩; replace HB := mvH HB hB; clear hc_gh_0; clear BK_gh; clear hc_gs_1; clear BK_gs; replace BK_gr := mvB BK_gr hB; obtain ⟨hc_gr_0, hf_gr_0⟩ := cf1 BK_gr.out; have HV_0 := Aside0.mk hV0; have HV_1 := Aside0.mk hV1; clear hV0 hV1 hB XCALL))
  refine bodyPost_ret (results_ctt rfl _ _ gr 40 #[.slice A_0 l2.length c_0] (0, 0) _ rfl (blk_put (cs := #[.slice none 0 0]) BK_gr.out 0 (.slice A_0 l2.length c_0) rfl) Try.underlying40 rfl (by kernel_rfl)) rfl ?_
  exact ⟨_, _, rfl, (Kd.V_mono (Kd.V_far (p := ⟨gr, 0, none⟩) HV_0.out (fun k hk e => by have h1 := LT_gr.out; have h2 := GE_gr.out; have h3 : k = gr := e; have h4 := HNW.out; exact Or.elim hk (fun hk => Or.elim hk (fun hk => by have := XP.out k hk; omega) (fun hk => by omega)) (fun hk => by omega)) (.slice A_0 l2.length c_0)) (fun k hk => by have h2 := HNN.out; have h4 := HNW.out; exact Or.elim hk (fun hk => Or.elim hk (fun hk => .inl hk) (fun hk => .inr (by omega))) (fun hk => .inr (by omega)))), (Kd.V_mono (Kd.V_far (p := ⟨gr, 0, none⟩) HV_1.out (fun k hk e => by have h1 := LT_gr.out; have h2 := GE_gr.out; have h3 : k = gr := e; have h4 := HNW.out; exact Or.elim hk (fun hk => Or.elim hk (fun hk => by have := XP.out k hk; omega) (fun hk => by omega)) (fun hk => by omega)) (.slice A_0 l2.length c_0)) (fun k hk => by have h2 := HNN.out; have h4 := HNW.out; exact Or.elim hk (fun hk => Or.elim hk (fun hk => .inl hk) (fun hk => .inr (by omega))) (fun hk => .inr (by omega)))), below_set HB.out GE_gr.out⟩
end Go.Proofs.Ytjncmiclpaodhaa
