/-
  igmp.Encode, walked.
-/
import Derived.Test.YtmmjmncchckbbaaIgA
namespace Go.Proofs.Ytmmjmncchckbbaa
open Go.RowKit Go.Proofs.YtmmjmncchckbbaaW.PrintWords Go.Proofs.YtmmjmncchckbbaaW.PrintLast Go.Proofs.YtmmjmncchckbbaaW.PrintMore Go.Proofs.Ytmmjmncchckbbaa.PIg
set_option linter.unusedVariables false
set_option linter.unusedSimpArgs false
/-- A record's bytes. -/
def rrow (r : S44) : List Int := [r.f0, 0] ++ wrow (ab r.f1) r.f2
theorem rrow_long (r : S44) : (rrow r).length = 8 + 4 * r.f2.length := by
  simp only [rrow, wrow, List.length_append, flat_len, List.length_cons, List.length_nil, ab]
  omega
theorem flat_min (l : List S44) : l.length ≤ (l.flatMap rrow).length := by
  induction l with
  | nil => exact Nat.le_refl _
  | cons a l ih => rw [List.flatMap_cons, List.length_append, List.length_cons, rrow_long]; omega
/-- A message's bytes ahead of its sum. -/
def mbody (k ver code grp : Int) (quiet : Bool) (rob every : Int) (srcs : List Int) (recs : List S44) : List Int :=
  [k, code, 0, 0] ++ (if k = 34 then [0, 0, 0, (recs.length : Int) % 256] ++ recs.flatMap rrow else ab grp) ++ (if ver = 3 then [if quiet then Go.bits .or .u8 rob 8 else rob, every] ++ wrow [] srcs else [])
theorem rrow_len {r : S44} {recs : List S44} (h : r ∈ recs) : (rrow r).length ≤ (recs.flatMap rrow).length := by
  induction recs with
  | nil => cases h
  | cons a l ih =>
    rw [List.flatMap_cons, List.length_append]
    rcases List.mem_cons.1 h with rfl | h
    · omega
    · have := ih h; omega
theorem addrs_n {base g : Nat} {v : Value} {xs L : List Int} {A_L : Option Addr} {c_L : Nat} {w : World} (h : Wr w base g xs v) (hbase : base ≤ w.heap.size) (hL : Kd.V (Kd.int .u32) 23 w 0 (fun k => k ≠ g ∧ some k ≠ v.ownBlock) (.slice A_L L.length c_L) L) (hl : xs.length + 4 * L.length ≤ 10000000) (hw : ∀ a ∈ L, 0 ≤ a ∧ a < 4294967296) :
    Calls Try.prog 24 #[.pointer (some ⟨g, 0, none⟩), .slice none 0 0, .slice A_L L.length c_L] w fun e w' => e = .returned (.tuple #[]) ∧ ∃ v', Wr w' base g (xs ++ wrow [] L) v' ∧ WM w w' g v v' :=
  addrs_w (G := []) (A_G := none) (c_G := 0) h hbase (Kd.V_nil _ _ _ _ _) hL (by simpa using hl) hw
theorem put_w (A : Option Addr) (c : Nat) (zs : List Int) (w : World) (hl : zs.length ≤ 140737488351232) (hcap : zs.length ≤ c) (hz : ∀ z ∈ zs, 0 ≤ z ∧ z < 256) (hr : (Kd.int .u8).C w A zs.length zs) (hm2 : 2 + 2 ≤ zs.length) :
    Calls Try.prog 26 #[.slice A zs.length c, .int .i64 2] w fun e w' => ∃ v, e = .returned (.tuple #[v, .int .i64 0]) ∧ (Kd.int .u8).R 5 w' w.heap.size (fun _ => True) v (putOf zs 2) ∧ Below w.heap.size w w' :=
  put_yes A c zs 2 w hl hcap hz hr rfl hm2
theorem WM.below {w W1 cur : World} {g : Nat} {v : Value} (hB : Below w.heap.size w W1) (h : WM W1 cur g (.slice none 0 0) v) (hg : w.heap.size ≤ g) : Below w.heap.size w cur :=
  ⟨h.out.os.trans hB.os, h.out.tape.trans hB.tape, h.out.output.trans hB.output, Nat.le_trans hB.size h.size, fun k hk => (h.block (Nat.lt_of_lt_of_le hk hB.size) (by omega) (by simp [Value.ownBlock])).trans (hB.block k hk)⟩
theorem flat_take_len {recs : List S44} (i : Nat) (h : i < recs.length) : ((recs.take i).flatMap rrow).length + (rrow recs[i]).length ≤ (recs.flatMap rrow).length := by
  have h1 : recs.flatMap rrow = (recs.take i).flatMap rrow ++ (rrow recs[i] ++ (recs.drop (i + 1)).flatMap rrow) := by
    conv => lhs; rw [← List.take_append_drop i recs, List.drop_eq_getElem_cons h, List.flatMap_append, List.flatMap_cons]
  rw [h1, List.length_append, List.length_append]
  omega
theorem k44_heap : Kd.Heap k44 := Kd.heap_iso _ (Kd.heap_pair (Kd.heap_int .u8) (Kd.heap_pair (Kd.heap_int .u32) (Kd.heap_slice 23 (Kd.heap_int .u32))))
theorem k44_openF {W : World} {ok : Nat → Prop} {x : S44} {cs : List Value} (h : Kd.FK k44 W ok x cs) : ∃ A2 c2, cs = [.int .u8 x.f0, .int .u32 x.f1, .slice A2 x.f2.length c2] ∧ x.f2.length ≤ c2 ∧ Kd.F (Kd.int .u32) W ok A2 x.f2.length x.f2 := by
  obtain ⟨A1, c1, rfl, l1, _⟩ := k44_open (Kd.FK_now h)
  exact ⟨A1, c1, rfl, l1, (fun W' hW => by obtain ⟨A1_, c1_, he, l1_, g1_⟩ := k44_open (h W' hW); injection (Option.some.inj (show some (Value.slice A1 x.f2.length c1) = some (Value.slice A1_ x.f2.length c1_) from congrArg (fun l => l[2]?) he)) with ha_ _ _; rw [ha_]; exact g1_)⟩
def enc_T12 : Bool × List (List Nat × List Nat) := (true, [([], []), ([], []), ([1], [1]), ([2], [2]), ([], []), ([4], [4]), ([0, 3, 5, 3], [0, 3, 5])])
def enc_B12 : List Nat := [0, 0, 2, 6, 0, 16, 63]
theorem enc_t12 : rtab .any (opsOf Try.f13 12) = enc_T12 := by kernel_rfl
theorem enc_b12 : waitsOk enc_T12.2 enc_B12 = true := by kernel_rfl
theorem right_w {K : Nat} {k ver code grp rob every : Int} {quiet : Bool} {srcs : List Int} {recs : List S44} {b : Bool} (hq : igmp_Right.f K k ver code grp quiet rob every srcs recs = some b) (A_s : Option Addr) (c_s : Nat) (A_r : Option Addr) (c_r : Nat) (w : World) (hs : Kd.C (Kd.int .u32) w A_s srcs.length srcs) (hsc : srcs.length ≤ c_s) (hr : Kd.C k44 w A_r recs.length recs) (hrc : recs.length ≤ c_r) :
    Calls Try.prog 15 #[.agg #[.int .u8 k, .int .i64 ver, .int .u8 code, .int .u32 grp, .bool quiet, .int .u8 rob, .int .u8 every, .slice A_s srcs.length c_s, .slice A_r recs.length c_r]] w fun e w' => e = .returned (.bool b) ∧ Below w.heap.size w w' := igmp_Right.calls K k ver code grp quiet rob every A_s c_s srcs A_r c_r recs b w hs hsc hr hrc hq
set_option maxHeartbeats 8000000 in
set_option maxRecDepth 100000 in
theorem encode_yes {K : Nat} {k ver code grp rob every : Int} {quiet : Bool} {srcs : List Int} {recs : List S44} (hq : igmp_Right.f K k ver code grp quiet rob every srcs recs = some true) (hln : 100 + (recs.flatMap rrow).length + 4 * srcs.length ≤ 1000000) (hby : ∀ z ∈ mbody k ver code grp quiet rob every srcs recs, 0 ≤ z ∧ z < 256) (hsr : ∀ a ∈ srcs, 0 ≤ a ∧ a < 4294967296) (hrr : ∀ r ∈ recs, ∀ a ∈ r.f2, 0 ≤ a ∧ a < 4294967296) (A_s : Option Addr) (c_s : Nat) (A_r : Option Addr) (c_r : Nat) (w : World) (hs : Kd.C (Kd.int .u32) w A_s srcs.length srcs) (hsc : srcs.length ≤ c_s) (hr : Kd.C k44 w A_r recs.length recs) (hrc : recs.length ≤ c_r) :
    Calls Try.prog 13 #[.agg #[.int .u8 k, .int .i64 ver, .int .u8 code, .int .u32 grp, .bool quiet, .int .u8 rob, .int .u8 every, .slice A_s srcs.length c_s, .slice A_r recs.length c_r]] w fun e w' => ∃ v, e = .returned (.tuple #[v, .int .i64 0]) ∧ Kd.R (Kd.int .u8) 5 w' w.heap.size (fun _ => True) v (putOf (mbody k ver code grp quiet rob every srcs recs) 2) ∧ Below w.heap.size w w' := by
  have hu27 := Try.underlying27
  have HB := Aside0.mk (Below.refl w.heap.size w)
  have HC_s := Aside0.mk hs
  have HK_s := Aside0.mk hsc
  have HC_r := Aside0.mk hr
  have HK_r := Aside0.mk hrc
  have HQ := Aside0.mk hq
  clear hs hsc hr hrc hq
  have HLN := Aside0.mk hln
  have HBY := Aside0.mk hby
  have HSR := Aside0.mk hsr
  have HRR := Aside0.mk hrr
  clear hln hby hsr hrr
  have hin := fun r (h : r ∈ recs) => rrow_len h
  have HIN := Aside0.mk hin
  clear hin
  go_enter Try.func13, Try.ntmps13
  go_upto_region 4 with (first | ((with_reducible refine gate_dst (N := 1) rfl ?_); (try (refine gate_guard (by rfl) ?_; dsimp only)); refine box_event ?hg (N := 1) ?hd (cs := #[.int .u8 k, .int .i64 ver, .int .u8 code, .int .u32 grp, .bool quiet, .int .u8 rob, .int .u8 every, .slice A_s srcs.length c_s, .slice A_r recs.length c_r]) (t := 27) ?hr ?_; (case hd => rfl); (case hg => rfl); (case hr => first | (go_simp; done) | (go_simp; rfl)); intro gm hg w1_ hbox hB; have HBo := Aside0.mk HB.out; have nHB := Aside0.mk (HB.out.trans (hB.mono HB.out.size)); clear HB; have HB := nHB; clear nHB; have BK_gm := Aside0.mk hbox; have GE_gm := Aside0.mk (show w.heap.size ≤ gm by rw [hg]; exact HBo.out.size); clear hg hbox hB; obtain ⟨hc_gm_0, hc_gm_1, hc_gm_2, hc_gm_3, hc_gm_4, hc_gm_5, hc_gm_6, hc_gm_7, hc_gm_8, hf_gm_0, hf_gm_1, hf_gm_2, hf_gm_3, hf_gm_4, hf_gm_5, hf_gm_6, hf_gm_7, hf_gm_8⟩ := cf9 BK_gm.out; clear HBo) | (go_at_call 15; with_reducible refine (right_w HQ.out _ _ _ _ _ (Kd.C_below HC_s.out HB.out) HK_s.out (Kd.C_below HC_r.out HB.out) HK_r.out).mono ?_; rintro e w2_ ⟨rfl, hB⟩; have nHB := Aside0.mk (HB.out.trans (hB.mono HB.out.size)); clear HB; have HB := nHB; clear nHB; clear hc_gm_0 hf_gm_0 hc_gm_1 hf_gm_1 hc_gm_2 hf_gm_2 hc_gm_3 hf_gm_3 hc_gm_4 hf_gm_4 hc_gm_5 hf_gm_5 hc_gm_6 hf_gm_6 hc_gm_7 hf_gm_7 hc_gm_8 hf_gm_8; have nBK := Aside0.mk (blk_below BK_gm.out hB); clear BK_gm; have BK_gm := nBK; clear nBK; obtain ⟨hc_gm_0, hc_gm_1, hc_gm_2, hc_gm_3, hc_gm_4, hc_gm_5, hc_gm_6, hc_gm_7, hc_gm_8, hf_gm_0, hf_gm_1, hf_gm_2, hf_gm_3, hf_gm_4, hf_gm_5, hf_gm_6, hf_gm_7, hf_gm_8⟩ := cf9 BK_gm.out; clear hB) | ((with_reducible refine gate_dst (N := 12) rfl ?_); (try (refine gate_guard (by rfl) ?_; dsimp only)); refine box_event ?hg (N := 12) ?hd (cs := #[.slice none 0 0]) (t := 51) ?hr ?_; (case hd => rfl); (case hg => rfl); (case hr => first | (go_simp; done) | (go_simp; rfl)); intro gw hg w3_ hbox hB; have HBo := Aside0.mk HB.out; have BK0_gm := Aside0.mk BK_gm.out; have nHB := Aside0.mk (HB.out.trans (hB.mono HB.out.size)); clear HB; have HB := nHB; clear nHB; clear hc_gm_0 hf_gm_0 hc_gm_1 hf_gm_1 hc_gm_2 hf_gm_2 hc_gm_3 hf_gm_3 hc_gm_4 hf_gm_4 hc_gm_5 hf_gm_5 hc_gm_6 hf_gm_6 hc_gm_7 hf_gm_7 hc_gm_8 hf_gm_8; have nBK := Aside0.mk (blk_below BK_gm.out hB); clear BK_gm; have BK_gm := nBK; clear nBK; obtain ⟨hc_gm_0, hc_gm_1, hc_gm_2, hc_gm_3, hc_gm_4, hc_gm_5, hc_gm_6, hc_gm_7, hc_gm_8, hf_gm_0, hf_gm_1, hf_gm_2, hf_gm_3, hf_gm_4, hf_gm_5, hf_gm_6, hf_gm_7, hf_gm_8⟩ := cf9 BK_gm.out; have BK_gw := Aside0.mk hbox; have GE_gw := Aside0.mk (show w.heap.size ≤ gw by rw [hg]; exact HBo.out.size); have NB_gw_gm := Aside0.mk (show gw ≠ gm by rw [hg]; exact Nat.ne_of_gt (blk_lt BK0_gm.out)); have NB_gm_gw := Aside0.mk (Ne.symm NB_gw_gm.out); clear BK0_gm; clear hg hbox hB; have hc_gw_0 : w3_.cell? ⟨gw, 0, none⟩ = some (.slice none 0 0) := (blk_cell BK_gw.out 0).trans rfl; have hf_gw_0 := blk_frozen BK_gw.out 0; clear HBo))
  clear hc_gm_0 hf_gm_0 hc_gm_1 hf_gm_1 hc_gm_2 hf_gm_2 hc_gm_3 hf_gm_3 hc_gm_4 hf_gm_4 hc_gm_5 hf_gm_5 hc_gm_6 hf_gm_6 hc_gm_7 hf_gm_7 hc_gm_8 hf_gm_8
  clear hc_gw_0 hf_gw_0
  have HB1 := Aside0.mk HB.out
  have GWS := Aside0.mk GE_gw.out
  have BO_gm := Aside0.mk BK_gm.out
  have LT_gm := Aside0.mk (blk_lt BK_gm.out)
  have NG_gm := Aside0.mk NB_gm_gw.out
  have HW := Aside0.mk (⟨BK_gw.out, Kd.R_nil _ _ _ _ _⟩ : Wr w3_ w3_.heap.size gw [] (.slice none 0 0))
  have HM := Aside0.mk (WM.of_below (g := gw) (v := .slice none 0 0) (Below.refl w3_.heap.size w3_))
  have VS := Aside0.mk (Kd.V_mono (Kd.V_mk (e := 23) (base := 0) HK_s.out (Kd.F_below (Kd.C_F (Kd.heap_int .u32) HC_s.out) HB.out)) (fun q hq => ⟨fun e => by have := GE_gw.out; omega, by simp [Value.ownBlock]⟩ : ∀ q, q < w.heap.size → q ≠ gw ∧ some q ≠ (Value.slice none 0 0).ownBlock))
  have VR := Aside0.mk (Kd.V_mono (Kd.V_mk (e := 44) (base := 0) HK_r.out (Kd.F_below (Kd.C_F k44_heap HC_r.out) HB.out)) (fun q hq => ⟨fun e => by have := GE_gw.out; omega, by simp [Value.ownBlock]⟩ : ∀ q, q < w.heap.size → q ≠ gw ∧ some q ≠ (Value.slice none 0 0).ownBlock))
  clear BK_gm HB
  have BK_gm := Aside0.mk ((HM.out.block LT_gm.out NG_gm.out (by simp [Value.ownBlock])).trans BO_gm.out)
  obtain ⟨hc_gm_0, hc_gm_1, hc_gm_2, hc_gm_3, hc_gm_4, hc_gm_5, hc_gm_6, hc_gm_7, hc_gm_8, hf_gm_0, hf_gm_1, hf_gm_2, hf_gm_3, hf_gm_4, hf_gm_5, hf_gm_6, hf_gm_7, hf_gm_8⟩ := cf9 BK_gm.out
  go_upto_block 0 with (first | ((with_reducible refine gate_dst (N := 18) rfl ?_); refine Kd.R_lit (Kd.int .u8) _ 5 ?hg (N := 18) ?hd (xs := [k, code, 0, 0]) (inner := [.int .u8 k, .int .u8 code, .int .u8 0, .int .u8 0]) (ok := fun _ => True) (okp := fun _ => True) ?hr ?hp (fun _ hk => hk) trivial (Below.refl _ _) (Nat.le_refl _) (by simp) ?_; (case hd => rfl); (case hg => rfl); (case hr => first | (go_simp; done) | (go_simp; rfl)); (case hp => exact Reps.one (show Kd.M (Kd.int .u8) _ _ _ _ _ from rfl) (Reps.one (show Kd.M (Kd.int .u8) _ _ _ _ _ from rfl) (Reps.one (show Kd.M (Kd.int .u8) _ _ _ _ _ from rfl) (Reps.one (show Kd.M (Kd.int .u8) _ _ _ _ _ from rfl) (Reps.none _ _))))); intro v_y0 w3x1_ hR hb hg_ hn_; clear hg_ hn_; obtain ⟨y0, hy_⟩ : ∃ y_, y_ = ([k, code, 0, 0] : List Int) := ⟨_, rfl⟩; rw [← hy_] at hR; have HY_y0 := Aside0.mk hy_; clear hy_; have nW := Aside0.mk (HW.out.below hb); have nM := Aside0.mk (HM.out.trans (WM.of_below hb)); clear HW HM; have HW := nW; have HM := nM; clear nW nM; clear BK_gm hc_gm_0 hf_gm_0 hc_gm_1 hf_gm_1 hc_gm_2 hf_gm_2 hc_gm_3 hf_gm_3 hc_gm_4 hf_gm_4 hc_gm_5 hf_gm_5 hc_gm_6 hf_gm_6 hc_gm_7 hf_gm_7 hc_gm_8 hf_gm_8; have BK_gm := Aside0.mk ((HM.out.block LT_gm.out NG_gm.out (by simp [Value.ownBlock])).trans BO_gm.out); obtain ⟨hc_gm_0, hc_gm_1, hc_gm_2, hc_gm_3, hc_gm_4, hc_gm_5, hc_gm_6, hc_gm_7, hc_gm_8, hf_gm_0, hf_gm_1, hf_gm_2, hf_gm_3, hf_gm_4, hf_gm_5, hf_gm_6, hf_gm_7, hf_gm_8⟩ := cf9 BK_gm.out; obtain ⟨A_y0, c_y0, rfl⟩ := Kd.R_slice hR; have HC_y0 := Aside0.mk (Kd.R_reads' hR).2.2; clear hR hb) | (go_at_call 23; with_reducible refine (lay_w HW.out HM.out.size HC_y0.out (by rw [HY_y0.out]; simp)).mono ?_; rintro e w3x2_ ⟨rfl, v_w3x2_, hW, hM⟩; have hsz := hM.size; have nW := Aside0.mk hW; have nM := Aside0.mk (HM.out.trans hM); clear HW HM; have HW := nW; have HM := nM; clear nW nM; clear BK_gm hc_gm_0 hf_gm_0 hc_gm_1 hf_gm_1 hc_gm_2 hf_gm_2 hc_gm_3 hf_gm_3 hc_gm_4 hf_gm_4 hc_gm_5 hf_gm_5 hc_gm_6 hf_gm_6 hc_gm_7 hf_gm_7 hc_gm_8 hf_gm_8; have BK_gm := Aside0.mk ((HM.out.block LT_gm.out NG_gm.out (by simp [Value.ownBlock])).trans BO_gm.out); obtain ⟨hc_gm_0, hc_gm_1, hc_gm_2, hc_gm_3, hc_gm_4, hc_gm_5, hc_gm_6, hc_gm_7, hc_gm_8, hf_gm_0, hf_gm_1, hf_gm_2, hf_gm_3, hf_gm_4, hf_gm_5, hf_gm_6, hf_gm_7, hf_gm_8⟩ := cf9 BK_gm.out; clear hW hM hsz))
  have HW0 := HW.out
  rw [List.nil_append] at HW0
  have nW := Aside0.mk HW0
  clear HW0 HW
  have HW := nW
  clear nW
  go_cut [25] (fun v25 wc => ∃ (l : List Int) (v : Value), Aside0 (l = if k = 34 then [0, 0, 0, (recs.length : Int) % 256] ++ recs.flatMap rrow else ab grp) ∧ Aside0 (Wr wc w3_.heap.size gw (y0 ++ l) v) ∧ Aside0 (WM w3_ wc gw (.slice none 0 0) v))
  case first =>
    by_cases hk : k = 34
    · have e34 : (k == 34) = true := by rw [hk]; rfl
      have HK := Aside0.mk hk
      clear hk
      go_wp2_with (first | ((with_reducible refine gate_dst (N := 34) rfl ?_); refine Kd.R_lit (Kd.int .u8) _ 5 ?hg (N := 34) ?hd (xs := [0, 0, 0, (recs.length : Int) % 256]) (inner := [.int .u8 0, .int .u8 0, .int .u8 0, .int .u8 ((recs.length : Int) % 256)]) (ok := fun _ => True) (okp := fun _ => True) ?hr ?hp (fun _ hk => hk) trivial (Below.refl _ _) (Nat.le_refl _) (by simp) ?_; (case hd => rfl); (case hg => rfl); (case hr => first | (go_simp; done) | (go_simp; rfl)); (case hp => exact Reps.one (show Kd.M (Kd.int .u8) _ _ _ _ _ from rfl) (Reps.one (show Kd.M (Kd.int .u8) _ _ _ _ _ from rfl) (Reps.one (show Kd.M (Kd.int .u8) _ _ _ _ _ from rfl) (Reps.one (show Kd.M (Kd.int .u8) _ _ _ _ _ from rfl) (Reps.none _ _))))); intro v_y1 w3x3_ hR hb hg_ hn_; clear hg_ hn_; obtain ⟨y1, hy_⟩ : ∃ y_, y_ = ([0, 0, 0, (recs.length : Int) % 256] : List Int) := ⟨_, rfl⟩; rw [← hy_] at hR; have HY_y1 := Aside0.mk hy_; clear hy_; have nW := Aside0.mk (HW.out.below hb); have nM := Aside0.mk (HM.out.trans (WM.of_below hb)); clear HW HM; have HW := nW; have HM := nM; clear nW nM; clear BK_gm hc_gm_0 hf_gm_0 hc_gm_1 hf_gm_1 hc_gm_2 hf_gm_2 hc_gm_3 hf_gm_3 hc_gm_4 hf_gm_4 hc_gm_5 hf_gm_5 hc_gm_6 hf_gm_6 hc_gm_7 hf_gm_7 hc_gm_8 hf_gm_8; have BK_gm := Aside0.mk ((HM.out.block LT_gm.out NG_gm.out (by simp [Value.ownBlock])).trans BO_gm.out); obtain ⟨hc_gm_0, hc_gm_1, hc_gm_2, hc_gm_3, hc_gm_4, hc_gm_5, hc_gm_6, hc_gm_7, hc_gm_8, hf_gm_0, hf_gm_1, hf_gm_2, hf_gm_3, hf_gm_4, hf_gm_5, hf_gm_6, hf_gm_7, hf_gm_8⟩ := cf9 BK_gm.out; obtain ⟨A_y1, c_y1, rfl⟩ := Kd.R_slice hR; have HC_y1 := Aside0.mk (Kd.R_reads' hR).2.2; clear hR hb) | (go_at_call 23; with_reducible refine (lay_w HW.out HM.out.size HC_y1.out (by have := HLN.out; rw [HY_y0.out, HY_y1.out]; simp)).mono ?_; rintro e w3x4_ ⟨rfl, v_w3x4_, hW, hM⟩; have hsz := hM.size; have nW := Aside0.mk hW; have nM := Aside0.mk (HM.out.trans hM); clear HW HM; have HW := nW; have HM := nM; clear nW nM; clear BK_gm hc_gm_0 hf_gm_0 hc_gm_1 hf_gm_1 hc_gm_2 hf_gm_2 hc_gm_3 hf_gm_3 hc_gm_4 hf_gm_4 hc_gm_5 hf_gm_5 hc_gm_6 hf_gm_6 hc_gm_7 hf_gm_7 hc_gm_8 hf_gm_8; have BK_gm := Aside0.mk ((HM.out.block LT_gm.out NG_gm.out (by simp [Value.ownBlock])).trans BO_gm.out); obtain ⟨hc_gm_0, hc_gm_1, hc_gm_2, hc_gm_3, hc_gm_4, hc_gm_5, hc_gm_6, hc_gm_7, hc_gm_8, hf_gm_0, hf_gm_1, hf_gm_2, hf_gm_3, hf_gm_4, hf_gm_5, hf_gm_6, hf_gm_7, hf_gm_8⟩ := cf9 BK_gm.out; clear hW hM hsz))
      go_loopg [39] recs.length (fun gk v39 w' => ∃ (i : Nat) (v' : Value), v39 = .int .i64 i ∧ Aside0 (i ≤ recs.length ∧ gk = recs.length - i) ∧ Aside0 (Wr w' w3_.heap.size gw (y0 ++ y1 ++ (recs.take i).flatMap rrow) v') ∧ Aside0 (WM w3_ w' gw (.slice none 0 0) v'))
      case atStart => exact ⟨0, _, rfl, ⟨Nat.zero_le _, by omega⟩, ⟨by simpa using HW.out⟩, HM⟩
      case round =>
        clear HW HM
        clear BK_gm hc_gm_0 hf_gm_0 hc_gm_1 hf_gm_1 hc_gm_2 hf_gm_2 hc_gm_3 hf_gm_3 hc_gm_4 hf_gm_4 hc_gm_5 hf_gm_5 hc_gm_6 hf_gm_6 hc_gm_7 hf_gm_7 hc_gm_8 hf_gm_8
        obtain ⟨i, v4, rfl, HI, HW, HM⟩ := hrel
        have BK_gm := Aside0.mk ((HM.out.block LT_gm.out NG_gm.out (by simp [Value.ownBlock])).trans BO_gm.out)
        obtain ⟨hc_gm_0, hc_gm_1, hc_gm_2, hc_gm_3, hc_gm_4, hc_gm_5, hc_gm_6, hc_gm_7, hc_gm_8, hf_gm_0, hf_gm_1, hf_gm_2, hf_gm_3, hf_gm_4, hf_gm_5, hf_gm_6, hf_gm_7, hf_gm_8⟩ := cf9 BK_gm.out
        obtain ⟨hi, hgk⟩ := HI.out
        by_cases hlt : i < recs.length
        · have c5b0 : decide ((i : Int) < (recs.length : Int)) = true := decide_eq_true (by omega)
          have p1 : (0 : Int) ≤ (i : Int) := by omega
          have p2 : (i : Int) < (recs.length : Int) := by omega
          have hVR := HM.out.V VR.out
          obtain ⟨ad, he⟩ : ∃ ad, A_r = some ad := by
            obtain ⟨ad, _, _, he, _⟩ := at_T44 (Kd.V_reads' hVR).2.2 (i : Int) p1 p2
            exact ⟨ad, he⟩
          subst he
          obtain ⟨cs, _, hFK, hcc⟩ := Kd.V_get hVR z44 (i : Int) p1 p2
          obtain ⟨r, hr⟩ : ∃ r_, r_ = recs.getD ((i : Int).toNat) z44 := ⟨_, rfl⟩
          rw [← hr] at hFK
          obtain ⟨A_x, c_x, rfl, hxl, hFx⟩ := k44_openF hFK
          have hx0 := hcc 0 _ rfl
          have hx1 := hcc 1 _ rfl
          have hx2 := hcc 2 _ rfl
          have hsz3 : k44.sz = 3 := rfl
          rw [Int.toNat_natCast, hsz3, Nat.add_zero] at hx0
          rw [Int.toNat_natCast, hsz3, add_field _ _ 1 (by omega)] at hx1
          rw [Int.toNat_natCast, hsz3, add_field _ _ 2 (by omega)] at hx2
          have HRM := Aside0.mk (show r ∈ recs by rw [hr, Int.toNat_natCast, List.getD_eq_getElem?_getD, List.getElem?_eq_getElem hlt]; exact List.getElem_mem _)
          have HRI := Aside0.mk (show r = recs[i] by rw [hr, Int.toNat_natCast, List.getD_eq_getElem?_getD, List.getElem?_eq_getElem hlt]; rfl)
          have HFX := Aside0.mk (Kd.V_mk (e := 23) (base := 0) hxl hFx)
          have HFL := Aside0.mk (show (y0 ++ y1 ++ (recs.take i).flatMap rrow).length + (rrow r).length ≤ 2000000 by
            have h1 := flat_take_len (recs := recs) i hlt
            rw [← HRI.out] at h1
            have := HLN.out
            rw [List.length_append, List.length_append, HY_y0.out, HY_y1.out]
            simp only [List.length_cons, List.length_nil]
            omega)
          clear hVR hFK hcc hxl hFx hr hsz3
          replace p1 := eq_true p1
          replace p2 := eq_true p2
          go_upto_region 11 with (first | ((with_reducible refine gate_dst (N := 6) rfl ?_); refine box_event ?hg (N := 6) ?hd (cs := #[.int .u8 0, .int .u32 0, .slice none 0 0]) (t := 44) ?hr ?_; (case hd => rfl); (case hg => rfl); (case hr => first | (go_simp; done) | (go_simp; rfl)); intro gr hg rx1_ hbox hb0; have hG := Aside0.mk (show wr.heap.size ≤ gr from Nat.le_of_eq hg.symm); clear hg; have hBX := Aside0.mk hbox; have hB1 := Aside0.mk hb0; clear hb0; have hc_gr_0 : rx1_.cell? ⟨gr, 0, none⟩ = some (.int .u8 0) := (blk_cell hbox 0).trans rfl; have hf_gr_0 := blk_frozen hbox 0; have hc_gr_1 : rx1_.cell? ⟨gr, 1, none⟩ = some (.int .u32 0) := (blk_cell hbox 1).trans rfl; have hf_gr_1 := blk_frozen hbox 1; have hc_gr_2 : rx1_.cell? ⟨gr, 2, none⟩ = some (.slice none 0 0) := (blk_cell hbox 2).trans rfl; have hf_gr_2 := blk_frozen hbox 2; clear hbox))
          have hb : Below wr.heap.size wr (((rx1_.setCell ⟨gr, 0, none⟩ (.int .u8 r.f0)).setCell ⟨gr, 1, none⟩ (.int .u32 r.f1)).setCell ⟨gr, 2, none⟩ (.slice A_x r.f2.length c_x)) := below_set (below_set (below_set hB1.out hG.out) hG.out) hG.out
          have hBN : (((rx1_.setCell ⟨gr, 0, none⟩ (.int .u8 r.f0)).setCell ⟨gr, 1, none⟩ (.int .u32 r.f1)).setCell ⟨gr, 2, none⟩ (.slice A_x r.f2.length c_x)).heap[gr]? = some (.cells #[.int .u8 r.f0, .int .u32 r.f1, .slice A_x r.f2.length c_x] 44 (0, 0)) := blk_put (cs := #[.int .u8 r.f0, .int .u32 r.f1, .slice none 0 0]) (blk_put (cs := #[.int .u8 r.f0, .int .u32 0, .slice none 0 0]) (blk_put (cs := #[.int .u8 0, .int .u32 0, .slice none 0 0]) hBX.out 0 (.int .u8 r.f0) rfl) 1 (.int .u32 r.f1) rfl) 2 (.slice A_x r.f2.length c_x) rfl
          clear hBX hB1 hc_gr_0 hf_gr_0 hc_gr_1 hf_gr_1 hc_gr_2 hf_gr_2
          generalize (((rx1_.setCell ⟨gr, 0, none⟩ (.int .u8 r.f0)).setCell ⟨gr, 1, none⟩ (.int .u32 r.f1)).setCell ⟨gr, 2, none⟩ (.slice A_x r.f2.length c_x)) = rx2_ at hb hBN ⊢
          have NG_gr := Aside0.mk (show gr ≠ gw from Nat.ne_of_gt (Nat.lt_of_lt_of_le (blk_lt HW.out.box) hG.out))
          have nV := Aside0.mk (Kd.V_below HFX.out hb)
          clear HFX
          have HFX := nV
          clear nV
          have nW := Aside0.mk (HW.out.below hb)
          have nM := Aside0.mk (HM.out.trans (WM.of_below hb))
          clear HW HM
          have HW := nW
          have HM := nM
          clear nW nM
          clear BK_gm hc_gm_0 hf_gm_0 hc_gm_1 hf_gm_1 hc_gm_2 hf_gm_2 hc_gm_3 hf_gm_3 hc_gm_4 hf_gm_4 hc_gm_5 hf_gm_5 hc_gm_6 hf_gm_6 hc_gm_7 hf_gm_7 hc_gm_8 hf_gm_8
          have BK_gm := Aside0.mk ((HM.out.block LT_gm.out NG_gm.out (by simp [Value.ownBlock])).trans BO_gm.out)
          obtain ⟨hc_gm_0, hc_gm_1, hc_gm_2, hc_gm_3, hc_gm_4, hc_gm_5, hc_gm_6, hc_gm_7, hc_gm_8, hf_gm_0, hf_gm_1, hf_gm_2, hf_gm_3, hf_gm_4, hf_gm_5, hf_gm_6, hf_gm_7, hf_gm_8⟩ := cf9 BK_gm.out
          have BK_gr := Aside0.mk hBN
          clear hb hBN hG hx0 hx1 hx2
          obtain ⟨hc_gr_0, hc_gr_1, hc_gr_2, hf_gr_0, hf_gr_1, hf_gr_2⟩ := cf3 BK_gr.out
          go_upto_region 12 with (first | ((with_reducible refine gate_dst (N := 46) rfl ?_); refine Kd.R_lit (Kd.int .u8) _ 5 ?hg (N := 46) ?hd (xs := [r.f0, 0]) (inner := [.int .u8 r.f0, .int .u8 0]) (ok := fun _ => True) (okp := fun _ => True) ?hr ?hp (fun _ hk => hk) trivial (Below.refl _ _) (Nat.le_refl _) (by simp) ?_; (case hd => rfl); (case hg => rfl); (case hr => first | (go_simp; done) | (go_simp; rfl)); (case hp => exact Reps.one (show Kd.M (Kd.int .u8) _ _ _ _ _ from rfl) (Reps.one (show Kd.M (Kd.int .u8) _ _ _ _ _ from rfl) (Reps.none _ _))); intro v_y2 rx3_ hR hb hg_ hn_; clear hg_ hn_; obtain ⟨y2, hy_⟩ : ∃ y_, y_ = ([r.f0, 0] : List Int) := ⟨_, rfl⟩; rw [← hy_] at hR; have HY_y2 := Aside0.mk hy_; clear hy_; have nF := Aside0.mk (blk_below BK_gr.out hb); clear BK_gr; have BK_gr := nF; clear nF; have nV := Aside0.mk (Kd.V_below HFX.out hb); clear HFX; have HFX := nV; clear nV; have nW := Aside0.mk (HW.out.below hb); have nM := Aside0.mk (HM.out.trans (WM.of_below hb)); clear HW HM; have HW := nW; have HM := nM; clear nW nM; clear BK_gm hc_gm_0 hf_gm_0 hc_gm_1 hf_gm_1 hc_gm_2 hf_gm_2 hc_gm_3 hf_gm_3 hc_gm_4 hf_gm_4 hc_gm_5 hf_gm_5 hc_gm_6 hf_gm_6 hc_gm_7 hf_gm_7 hc_gm_8 hf_gm_8; clear hc_gr_0 hf_gr_0 hc_gr_1 hf_gr_1 hc_gr_2 hf_gr_2; have BK_gm := Aside0.mk ((HM.out.block LT_gm.out NG_gm.out (by simp [Value.ownBlock])).trans BO_gm.out); obtain ⟨hc_gm_0, hc_gm_1, hc_gm_2, hc_gm_3, hc_gm_4, hc_gm_5, hc_gm_6, hc_gm_7, hc_gm_8, hf_gm_0, hf_gm_1, hf_gm_2, hf_gm_3, hf_gm_4, hf_gm_5, hf_gm_6, hf_gm_7, hf_gm_8⟩ := cf9 BK_gm.out; obtain ⟨hc_gr_0, hc_gr_1, hc_gr_2, hf_gr_0, hf_gr_1, hf_gr_2⟩ := cf3 BK_gr.out; obtain ⟨A_y2, c_y2, rfl⟩ := Kd.R_slice hR; have HC_y2 := Aside0.mk (Kd.R_reads' hR).2.2; clear hR hb) | (go_at_call 23; with_reducible refine (lay_w HW.out HM.out.size HC_y2.out (by have := HFL.out; have h2 : (rrow r).length = 8 + 4 * r.f2.length := rrow_long r; rw [HY_y2.out]; simp only [List.length_cons, List.length_nil]; omega)).mono ?_; rintro e rx4_ ⟨rfl, v_rx4_, hW, hM⟩; have hsz := hM.size; have nF := Aside0.mk ((hM.block (blk_lt BK_gr.out) NG_gr.out (Kd.R_ne HW.out.row BK_gr.out (by decide))).trans BK_gr.out); clear BK_gr; have BK_gr := nF; clear nF; have nV := Aside0.mk (hM.V HFX.out); clear HFX; have HFX := nV; clear nV; have nW := Aside0.mk hW; have nM := Aside0.mk (HM.out.trans hM); clear HW HM; have HW := nW; have HM := nM; clear nW nM; clear BK_gm hc_gm_0 hf_gm_0 hc_gm_1 hf_gm_1 hc_gm_2 hf_gm_2 hc_gm_3 hf_gm_3 hc_gm_4 hf_gm_4 hc_gm_5 hf_gm_5 hc_gm_6 hf_gm_6 hc_gm_7 hf_gm_7 hc_gm_8 hf_gm_8; clear hc_gr_0 hf_gr_0 hc_gr_1 hf_gr_1 hc_gr_2 hf_gr_2; have BK_gm := Aside0.mk ((HM.out.block LT_gm.out NG_gm.out (by simp [Value.ownBlock])).trans BO_gm.out); obtain ⟨hc_gm_0, hc_gm_1, hc_gm_2, hc_gm_3, hc_gm_4, hc_gm_5, hc_gm_6, hc_gm_7, hc_gm_8, hf_gm_0, hf_gm_1, hf_gm_2, hf_gm_3, hf_gm_4, hf_gm_5, hf_gm_6, hf_gm_7, hf_gm_8⟩ := cf9 BK_gm.out; obtain ⟨hc_gr_0, hc_gr_1, hc_gr_2, hf_gr_0, hf_gr_1, hf_gr_2⟩ := cf3 BK_gr.out; clear hW hM hsz))
          refine start_ (n := 7) (S := fun w' => w'.cell? ⟨gr, 0, none⟩ = some (.int .u8 r.f0) ∧ w'.cell? ⟨gr, 1, none⟩ = some (.int .u32 r.f1) ∧ w'.cell? ⟨gr, 2, none⟩ = some (.slice A_x r.f2.length c_x)) (ds := []) #[false, false, false, false, false, false, false] (by kernel_rfl) rfl rfl ⟨hc_gr_0, hc_gr_1, hc_gr_2⟩ (fun hHeld => ?_); refine with_tabW enc_t12 enc_b12 (fun HT_ HW_ => ?_)
          have hb : Below rx4_.heap.size rx4_ rx4_.drew := below_drew (Below.refl _ _)
          generalize rx4_.drew = rx5_ at hb hHeld ⊢
          have nF := Aside0.mk (blk_below BK_gr.out hb)
          clear BK_gr
          have BK_gr := nF
          clear nF
          have nV := Aside0.mk (Kd.V_below HFX.out hb)
          clear HFX
          have HFX := nV
          clear nV
          have nW := Aside0.mk (HW.out.below hb)
          have nM := Aside0.mk (HM.out.trans (WM.of_below hb))
          clear HW HM
          have HW := nW
          have HM := nM
          clear nW nM
          clear BK_gm hc_gm_0 hf_gm_0 hc_gm_1 hf_gm_1 hc_gm_2 hf_gm_2 hc_gm_3 hf_gm_3 hc_gm_4 hf_gm_4 hc_gm_5 hf_gm_5 hc_gm_6 hf_gm_6 hc_gm_7 hf_gm_7 hc_gm_8 hf_gm_8
          clear hc_gr_0 hf_gr_0 hc_gr_1 hf_gr_1 hc_gr_2 hf_gr_2
          have BK_gm := Aside0.mk ((HM.out.block LT_gm.out NG_gm.out (by simp [Value.ownBlock])).trans BO_gm.out)
          obtain ⟨hc_gm_0, hc_gm_1, hc_gm_2, hc_gm_3, hc_gm_4, hc_gm_5, hc_gm_6, hc_gm_7, hc_gm_8, hf_gm_0, hf_gm_1, hf_gm_2, hf_gm_3, hf_gm_4, hf_gm_5, hf_gm_6, hf_gm_7, hf_gm_8⟩ := cf9 BK_gm.out
          obtain ⟨hc_gr_0, hc_gr_1, hc_gr_2, hf_gr_0, hf_gr_1, hf_gr_2⟩ := cf3 BK_gr.out
          clear hb
          refine pure_ (i := 0) (N := some 48) (v := ?_) (a' := ?_) #[true, false, false, false, false, false, false] rfl rfl (any_of HT_.out (by kernel_rfl)) (fun _ _ _ h => h) (Or.inl ⟨by rfl, ?_⟩) ?_ ?_
          rotate_left
          · intro w'
            go_simp
            with_reducible rfl
          rotate_left
          · simp only [Act.put, List.setIfInBounds_toArray, List.set_cons_zero, List.set_cons_succ, i64_w, i32_w]
            rfl
          refine pure_ (i := 1) (N := some 49) (v := ?_) (a' := ?_) #[true, true, false, false, false, false, false] rfl rfl (any_of HT_.out (by kernel_rfl)) (fun _ _ _ h => h) (Or.inl ⟨by rfl, ?_⟩) ?_ ?_
          rotate_left
          · intro w'
            go_simp
            with_reducible rfl
          rotate_left
          · simp only [Act.put, List.setIfInBounds_toArray, List.set_cons_zero, List.set_cons_succ, i64_w, i32_w]
            rfl
          refine take_ (i := 2) (N := some 50) (v := ?_) (a' := ?_) #[true, true, true, false, false, false, false] rfl rfl (take_ofW HT_.out HW_.out (by kernel_rfl)) (fun _ _ _ h => h) (Or.inl ⟨by rfl, ?_⟩) hHeld ?_ ?_
          rotate_left
          · rintro w' ⟨s0, s1, s2⟩
            go_simp
            with_reducible rfl
          rotate_left
          · simp only [Act.put, List.setIfInBounds_toArray, List.set_cons_zero, List.set_cons_succ, i64_w, i32_w]
            rfl
          refine pure_ (i := 4) (N := some 52) (v := ?_) (a' := ?_) #[true, true, true, false, true, false, false] rfl rfl (any_of HT_.out (by kernel_rfl)) (fun _ _ _ h => h) (Or.inl ⟨by rfl, ?_⟩) ?_ ?_
          rotate_left
          · intro w'
            go_simp
            with_reducible rfl
          rotate_left
          · simp only [Act.put, List.setIfInBounds_toArray, List.set_cons_zero, List.set_cons_succ, i64_w, i32_w]
            rfl
          refine take_ (i := 5) (N := some 53) (v := ?_) (a' := ?_) #[true, true, true, false, true, true, false] rfl rfl (take_ofW HT_.out HW_.out (by kernel_rfl)) (fun _ _ _ h => h) (Or.inl ⟨by rfl, ?_⟩) hHeld ?_ ?_
          rotate_left
          · rintro w' ⟨s0, s1, s2⟩
            go_simp
            with_reducible rfl
          rotate_left
          · simp only [Act.put, List.setIfInBounds_toArray, List.set_cons_zero, List.set_cons_succ, i64_w, i32_w]
            rfl
          refine one_ (i := 3) (N := some 51) #[true, true, true, true, true, true, false] rfl rfl (one_of HT_.out (by kernel_rfl)) (by decide) (fun K hK => ?_)
          refine goes_ Try.func25 (by kernel_rfl) rfl #[.int .u32 r.f1] (by rfl) rfl rfl (by (try simp only [List.map_toArray, List.map_cons, List.map_nil]); first | done | rfl | (simp only [List.length_drop, List.length_take]; rfl)) ?_
          with_reducible refine (abytes_calls r.f1 _).mono ?_
          rintro e rx6_ ⟨v_gx, rfl, hR, hb⟩
          refine ⟨_, rfl, ?_⟩
          have hlt1 := blk_lt HW.out.box
          have hlt2 := Kd.R_lt HW.out.row
          have nF := Aside0.mk (blk_below BK_gr.out hb)
          clear BK_gr
          have BK_gr := nF
          clear nF
          have nV := Aside0.mk (Kd.V_below HFX.out hb)
          clear HFX
          have HFX := nV
          clear nV
          have nW := Aside0.mk (HW.out.below hb)
          have nM := Aside0.mk (HM.out.trans (WM.of_below hb))
          clear HW HM
          have HW := nW
          have HM := nM
          clear nW nM
          clear BK_gm hc_gm_0 hf_gm_0 hc_gm_1 hf_gm_1 hc_gm_2 hf_gm_2 hc_gm_3 hf_gm_3 hc_gm_4 hf_gm_4 hc_gm_5 hf_gm_5 hc_gm_6 hf_gm_6 hc_gm_7 hf_gm_7 hc_gm_8 hf_gm_8
          clear hc_gr_0 hf_gr_0 hc_gr_1 hf_gr_1 hc_gr_2 hf_gr_2
          have BK_gm := Aside0.mk ((HM.out.block LT_gm.out NG_gm.out (by simp [Value.ownBlock])).trans BO_gm.out)
          obtain ⟨hc_gm_0, hc_gm_1, hc_gm_2, hc_gm_3, hc_gm_4, hc_gm_5, hc_gm_6, hc_gm_7, hc_gm_8, hf_gm_0, hf_gm_1, hf_gm_2, hf_gm_3, hf_gm_4, hf_gm_5, hf_gm_6, hf_gm_7, hf_gm_8⟩ := cf9 BK_gm.out
          obtain ⟨hc_gr_0, hc_gr_1, hc_gr_2, hf_gr_0, hf_gr_1, hf_gr_2⟩ := cf3 BK_gr.out
          obtain ⟨A_gx, c_gx, rfl⟩ := Kd.R_slice hR
          have HC_gx := Aside0.mk (Kd.R_reads' hR).2.2
          have HV_gx := Aside0.mk (Kd.V_mono (Kd.R_V (base' := 0) (Kd.R_bound hR)) (fun k hk => ⟨fun e => by have := hk.2.1; omega, fun e => by have := hlt2 k e.symm; have := hk.2.1; omega⟩ : ∀ k, _ → k ≠ gw ∧ some k ≠ _))
          clear hR hb hlt1 hlt2
          refine hK.out _ _ ⟨hc_gr_0, hc_gr_1, hc_gr_2⟩ (fun hHeld => ?_)
          clear hK K
          refine norm_ (a' := ?_) ?_ ?_
          rotate_left
          · show Act.put _ (some 51) _ = _
            simp only [Act.put, List.setIfInBounds_toArray, List.set_cons_zero, List.set_cons_succ, i64_w, i32_w]
            rfl
          refine one_ (i := 6) (N := some 54) #[true, true, true, true, true, true, true] rfl rfl (one_of HT_.out (by kernel_rfl)) (by decide) (fun K hK => ?_)
          refine goes_ Try.func24 (by kernel_rfl) rfl #[.pointer (some ⟨gw, 0, none⟩), .slice A_gx (ab r.f1).length c_gx, .slice A_x r.f2.length c_x] (by rfl) rfl rfl (by (try simp only [List.map_toArray, List.map_cons, List.map_nil]); first | done | rfl | (simp only [List.length_drop, List.length_take]; rfl)) ?_
          with_reducible refine (addrs_w HW.out HM.out.size HV_gx.out HFX.out (by have := HFL.out; have h2 : (rrow r).length = 8 + 4 * r.f2.length := rrow_long r; rw [List.length_append, HY_y2.out]; simp only [ab, List.length_cons, List.length_nil]; omega) (HRR.out r HRM.out)).mono ?_
          rintro e rx7_ ⟨rfl, v_rx7_, hW, hM⟩
          refine ⟨_, rfl, ?_⟩
          have hsz := hM.size
          have nF := Aside0.mk ((hM.block (blk_lt BK_gr.out) NG_gr.out (Kd.R_ne HW.out.row BK_gr.out (by decide))).trans BK_gr.out)
          clear BK_gr
          have BK_gr := nF
          clear nF
          have nV := Aside0.mk (hM.V HFX.out)
          clear HFX
          have HFX := nV
          clear nV
          have nW := Aside0.mk hW
          have nM := Aside0.mk (HM.out.trans hM)
          clear HW HM
          have HW := nW
          have HM := nM
          clear nW nM
          clear BK_gm hc_gm_0 hf_gm_0 hc_gm_1 hf_gm_1 hc_gm_2 hf_gm_2 hc_gm_3 hf_gm_3 hc_gm_4 hf_gm_4 hc_gm_5 hf_gm_5 hc_gm_6 hf_gm_6 hc_gm_7 hf_gm_7 hc_gm_8 hf_gm_8
          clear hc_gr_0 hf_gr_0 hc_gr_1 hf_gr_1 hc_gr_2 hf_gr_2
          have BK_gm := Aside0.mk ((HM.out.block LT_gm.out NG_gm.out (by simp [Value.ownBlock])).trans BO_gm.out)
          obtain ⟨hc_gm_0, hc_gm_1, hc_gm_2, hc_gm_3, hc_gm_4, hc_gm_5, hc_gm_6, hc_gm_7, hc_gm_8, hf_gm_0, hf_gm_1, hf_gm_2, hf_gm_3, hf_gm_4, hf_gm_5, hf_gm_6, hf_gm_7, hf_gm_8⟩ := cf9 BK_gm.out
          obtain ⟨hc_gr_0, hc_gr_1, hc_gr_2, hf_gr_0, hf_gr_1, hf_gr_2⟩ := cf3 BK_gr.out
          clear hW hM hsz
          refine hK.out _ _ ⟨hc_gr_0, hc_gr_1, hc_gr_2⟩ (fun hHeld => ?_)
          clear hK K
          refine norm_ (a' := ?_) ?_ ?_
          rotate_left
          · show Act.put _ (some 54) _ = _
            simp only [Act.put, List.setIfInBounds_toArray, List.set_cons_zero, List.set_cons_succ, i64_w, i32_w]
            rfl
          refine done_ (done_of HT_.out (by kernel_rfl)) ?_
          go_wp2
          go_roundg (recs.length - (i + 1))
          case measure => omega
          case rel =>
            refine ⟨i + 1, _, ?_, ⟨by omega, rfl⟩, ⟨?_⟩, HM⟩
            · show Value.int .i64 (wrap64 ((i : Int) + 1)) = _
              have h0 := flat_min recs
              have h1 := HLN.out
              rw [w64' (by omega) (by omega)]
              rfl
            · have h6 := HW.out
              have h7 : (recs.take (i + 1)).flatMap rrow = (recs.take i).flatMap rrow ++ rrow r := by rw [← List.take_append_getElem hlt, List.flatMap_append, ← HRI.out]; simp
              rw [HY_y2.out] at h6
              rw [h7]
              simpa only [rrow, List.append_assoc] using h6
        · have c5b0 : decide ((i : Int) < (recs.length : Int)) = false := decide_eq_false (by omega)
          go_wp2
          go_meet
          case rel =>
            refine ⟨_, v4, ⟨rfl⟩, ⟨?_⟩, HM⟩
            have h4 := HW.out
            obtain rfl : i = recs.length := by omega
            rw [List.take_length, List.append_assoc] at h4
            rw [if_pos HK.out, ← HY_y1.out]
            exact h4
    · have e34 : (k == 34) = false := beq_eq_false_iff_ne.2 hk
      have HK := Aside0.mk hk
      clear hk
      go_wp2_with (first | (go_at_call 25; with_reducible refine (abytes_calls grp _).mono ?_; rintro e zx3_ ⟨v_gb, rfl, hR, hb⟩; have hlt1 := blk_lt HW.out.box; have hlt2 := Kd.R_lt HW.out.row; have nW := Aside0.mk (HW.out.below hb); have nM := Aside0.mk (HM.out.trans (WM.of_below hb)); clear HW HM; have HW := nW; have HM := nM; clear nW nM; clear BK_gm hc_gm_0 hf_gm_0 hc_gm_1 hf_gm_1 hc_gm_2 hf_gm_2 hc_gm_3 hf_gm_3 hc_gm_4 hf_gm_4 hc_gm_5 hf_gm_5 hc_gm_6 hf_gm_6 hc_gm_7 hf_gm_7 hc_gm_8 hf_gm_8; have BK_gm := Aside0.mk ((HM.out.block LT_gm.out NG_gm.out (by simp [Value.ownBlock])).trans BO_gm.out); obtain ⟨hc_gm_0, hc_gm_1, hc_gm_2, hc_gm_3, hc_gm_4, hc_gm_5, hc_gm_6, hc_gm_7, hc_gm_8, hf_gm_0, hf_gm_1, hf_gm_2, hf_gm_3, hf_gm_4, hf_gm_5, hf_gm_6, hf_gm_7, hf_gm_8⟩ := cf9 BK_gm.out; obtain ⟨A_gb, c_gb, rfl⟩ := Kd.R_slice hR; have HC_gb := Aside0.mk (Kd.R_reads' hR).2.2; have HV_gb := Aside0.mk (Kd.V_mono (Kd.R_V (base' := 0) (Kd.R_bound hR)) (fun k hk => ⟨fun e => by have := hk.2.1; omega, fun e => by have := hlt2 k e.symm; have := hk.2.1; omega⟩ : ∀ k, _ → k ≠ gw ∧ some k ≠ _)); clear hR hb hlt1 hlt2) | (go_at_call 23; with_reducible refine (lay_w HW.out HM.out.size HC_gb.out (by rw [HY_y0.out]; simp [ab])).mono ?_; rintro e zx4_ ⟨rfl, v_zx4_, hW, hM⟩; have hsz := hM.size; have nW := Aside0.mk hW; have nM := Aside0.mk (HM.out.trans hM); clear HW HM; have HW := nW; have HM := nM; clear nW nM; clear BK_gm hc_gm_0 hf_gm_0 hc_gm_1 hf_gm_1 hc_gm_2 hf_gm_2 hc_gm_3 hf_gm_3 hc_gm_4 hf_gm_4 hc_gm_5 hf_gm_5 hc_gm_6 hf_gm_6 hc_gm_7 hf_gm_7 hc_gm_8 hf_gm_8; have BK_gm := Aside0.mk ((HM.out.block LT_gm.out NG_gm.out (by simp [Value.ownBlock])).trans BO_gm.out); obtain ⟨hc_gm_0, hc_gm_1, hc_gm_2, hc_gm_3, hc_gm_4, hc_gm_5, hc_gm_6, hc_gm_7, hc_gm_8, hf_gm_0, hf_gm_1, hf_gm_2, hf_gm_3, hf_gm_4, hf_gm_5, hf_gm_6, hf_gm_7, hf_gm_8⟩ := cf9 BK_gm.out; clear hW hM hsz))
      go_meet
      case rel => exact ⟨_, _, ⟨rfl⟩, ⟨by rw [if_neg HK.out]; exact HW.out⟩, HM⟩
  case rest =>
    clear BK_gm hc_gm_0 hf_gm_0 hc_gm_1 hf_gm_1 hc_gm_2 hf_gm_2 hc_gm_3 hf_gm_3 hc_gm_4 hf_gm_4 hc_gm_5 hf_gm_5 hc_gm_6 hf_gm_6 hc_gm_7 hf_gm_7 hc_gm_8 hf_gm_8
    clear HW HM
    obtain ⟨l, v1, HLL, HW, HM⟩ := hcut
    have BK_gm := Aside0.mk ((HM.out.block LT_gm.out NG_gm.out (by simp [Value.ownBlock])).trans BO_gm.out)
    obtain ⟨hc_gm_0, hc_gm_1, hc_gm_2, hc_gm_3, hc_gm_4, hc_gm_5, hc_gm_6, hc_gm_7, hc_gm_8, hf_gm_0, hf_gm_1, hf_gm_2, hf_gm_3, hf_gm_4, hf_gm_5, hf_gm_6, hf_gm_7, hf_gm_8⟩ := cf9 BK_gm.out
    have HLE := Aside0.mk (show (y0 ++ l).length ≤ 1000000 by
      have h1 := HLN.out
      rw [List.length_append, HLL.out, HY_y0.out]
      split
      · simp only [List.length_append, List.length_cons, List.length_nil]; omega
      · simp [ab])
    have HLM := Aside0.mk (show 8 ≤ (y0 ++ l).length by
      rw [List.length_append, HLL.out, HY_y0.out]
      split
      · simp only [List.length_append, List.length_cons, List.length_nil]; omega
      · simp [ab])
    by_cases h3 : ver = 3
    · have e3 : (ver == 3) = true := beq_iff_eq.2 h3
      have H3 := Aside0.mk h3
      clear h3
      by_cases hq : quiet = true
      · have HQU := Aside0.mk hq
        clear hq
        have hqt := HQU.out
        go_upto_region 20 with (first | ((with_reducible refine gate_dst (N := 69) rfl ?_); refine Kd.R_lit (Kd.int .u8) _ 5 ?hg (N := 69) ?hd (xs := [Go.bits .or .u8 rob 8, every]) (inner := [.int .u8 (Go.bits .or .u8 rob 8), .int .u8 every]) (ok := fun _ => True) (okp := fun _ => True) ?hr ?hp (fun _ hk => hk) trivial (Below.refl _ _) (Nat.le_refl _) (by simp) ?_; (case hd => rfl); (case hg => rfl); (case hr => first | (go_simp; done) | (go_simp; rfl)); (case hp => exact Reps.one (show Kd.M (Kd.int .u8) _ _ _ _ _ from rfl) (Reps.one (show Kd.M (Kd.int .u8) _ _ _ _ _ from rfl) (Reps.none _ _))); intro v_y3 qx1_ hR hb hg_ hn_; clear hg_ hn_; obtain ⟨y3, hy_⟩ : ∃ y_, y_ = ([Go.bits .or .u8 rob 8, every] : List Int) := ⟨_, rfl⟩; rw [← hy_] at hR; have HY_y3 := Aside0.mk hy_; clear hy_; have nW := Aside0.mk (HW.out.below hb); have nM := Aside0.mk (HM.out.trans (WM.of_below hb)); clear HW HM; have HW := nW; have HM := nM; clear nW nM; clear BK_gm hc_gm_0 hf_gm_0 hc_gm_1 hf_gm_1 hc_gm_2 hf_gm_2 hc_gm_3 hf_gm_3 hc_gm_4 hf_gm_4 hc_gm_5 hf_gm_5 hc_gm_6 hf_gm_6 hc_gm_7 hf_gm_7 hc_gm_8 hf_gm_8; have BK_gm := Aside0.mk ((HM.out.block LT_gm.out NG_gm.out (by simp [Value.ownBlock])).trans BO_gm.out); obtain ⟨hc_gm_0, hc_gm_1, hc_gm_2, hc_gm_3, hc_gm_4, hc_gm_5, hc_gm_6, hc_gm_7, hc_gm_8, hf_gm_0, hf_gm_1, hf_gm_2, hf_gm_3, hf_gm_4, hf_gm_5, hf_gm_6, hf_gm_7, hf_gm_8⟩ := cf9 BK_gm.out; obtain ⟨A_y3, c_y3, rfl⟩ := Kd.R_slice hR; have HC_y3 := Aside0.mk (Kd.R_reads' hR).2.2; clear hR hb) | (go_at_call 23; with_reducible refine (lay_w HW.out HM.out.size HC_y3.out (by have := HLE.out; rw [List.length_append] at this; rw [List.length_append, HY_y3.out]; simp only [List.length_cons, List.length_nil]; omega)).mono ?_; rintro e qx2_ ⟨rfl, v_qx2_, hW, hM⟩; have hsz := hM.size; have nW := Aside0.mk hW; have nM := Aside0.mk (HM.out.trans hM); clear HW HM; have HW := nW; have HM := nM; clear nW nM; clear BK_gm hc_gm_0 hf_gm_0 hc_gm_1 hf_gm_1 hc_gm_2 hf_gm_2 hc_gm_3 hf_gm_3 hc_gm_4 hf_gm_4 hc_gm_5 hf_gm_5 hc_gm_6 hf_gm_6 hc_gm_7 hf_gm_7 hc_gm_8 hf_gm_8; have BK_gm := Aside0.mk ((HM.out.block LT_gm.out NG_gm.out (by simp [Value.ownBlock])).trans BO_gm.out); obtain ⟨hc_gm_0, hc_gm_1, hc_gm_2, hc_gm_3, hc_gm_4, hc_gm_5, hc_gm_6, hc_gm_7, hc_gm_8, hf_gm_0, hf_gm_1, hf_gm_2, hf_gm_3, hf_gm_4, hf_gm_5, hf_gm_6, hf_gm_7, hf_gm_8⟩ := cf9 BK_gm.out; clear hW hM hsz) | (go_at_call 24; with_reducible refine (addrs_n HW.out HM.out.size (HM.out.V VS.out) (by have := HLE.out; have := HLN.out; simp only [List.length_append, HY_y3.out, List.length_cons, List.length_nil] at *; omega) HSR.out).mono ?_; rintro e qx3_ ⟨rfl, v_qx3_, hW, hM⟩; have hsz := hM.size; have nW := Aside0.mk hW; have nM := Aside0.mk (HM.out.trans hM); clear HW HM; have HW := nW; have HM := nM; clear nW nM; clear BK_gm hc_gm_0 hf_gm_0 hc_gm_1 hf_gm_1 hc_gm_2 hf_gm_2 hc_gm_3 hf_gm_3 hc_gm_4 hf_gm_4 hc_gm_5 hf_gm_5 hc_gm_6 hf_gm_6 hc_gm_7 hf_gm_7 hc_gm_8 hf_gm_8; have BK_gm := Aside0.mk ((HM.out.block LT_gm.out NG_gm.out (by simp [Value.ownBlock])).trans BO_gm.out); obtain ⟨hc_gm_0, hc_gm_1, hc_gm_2, hc_gm_3, hc_gm_4, hc_gm_5, hc_gm_6, hc_gm_7, hc_gm_8, hf_gm_0, hf_gm_1, hf_gm_2, hf_gm_3, hf_gm_4, hf_gm_5, hf_gm_6, hf_gm_7, hf_gm_8⟩ := cf9 BK_gm.out; clear hW hM hsz))
        obtain ⟨A_z, c_z, hz⟩ := Kd.R_slice HW.out.row
        subst hz
        have hcw : qx3_.cell? ⟨gw, 0, none⟩ = some _ := (blk_cell HW.out.box 0).trans rfl
        obtain ⟨zs, hzs⟩ : ∃ zs_, zs_ = y0 ++ l ++ y3 ++ wrow [] srcs := ⟨_, rfl⟩
        rw [← hzs] at HW hcw
        have HZ := Aside0.mk (show zs = mbody k ver code grp quiet rob every srcs recs by rw [hzs]; simp only [mbody, HY_y0.out, HLL.out, HY_y3.out, if_pos H3.out, HQU.out, if_true, List.append_assoc, Bool.false_eq_true, if_false])
        have HZL := Aside0.mk (show 8 ≤ zs.length ∧ zs.length ≤ 2000000 by
          have h1 := HLE.out
          have h2 := HLN.out
          have h3 := HLM.out
          rw [hzs]
          simp only [List.length_append] at h1 h3 ⊢
          first | omega | (simp only [wrow, flat_len, HY_y3.out, List.length_append, List.length_cons, List.length_nil]; omega))
        clear hzs
        go_wp2_with (first | (go_at_call 26; with_reducible refine (put_w _ _ zs _ (by have := HZL.out; omega) (Kd.R_reads' HW.out.row).2.1 (by rw [HZ.out]; exact HBY.out) (Kd.R_reads' HW.out.row).2.2 (by have := HZL.out; omega)).mono ?_; rintro e qx4_ ⟨v_p, rfl, hR, hb⟩; have HRP := Aside0.mk hR; have HBP := Aside0.mk hb; clear hR hb))
        go_ret2
        have hbb := WM.below HB1.out HM.out GWS.out
        exact ⟨_, rfl, by rw [← HZ.out]; exact Kd.R_lower HRP.out hbb.size, hbb.trans (HBP.out.mono hbb.size)⟩
      · have hqt := Bool.eq_false_iff.2 hq
        clear hq
        have HQU := Aside0.mk hqt
        go_upto_region 20 with (first | ((with_reducible refine gate_dst (N := 69) rfl ?_); refine Kd.R_lit (Kd.int .u8) _ 5 ?hg (N := 69) ?hd (xs := [rob, every]) (inner := [.int .u8 rob, .int .u8 every]) (ok := fun _ => True) (okp := fun _ => True) ?hr ?hp (fun _ hk => hk) trivial (Below.refl _ _) (Nat.le_refl _) (by simp) ?_; (case hd => rfl); (case hg => rfl); (case hr => first | (go_simp; done) | (go_simp; rfl)); (case hp => exact Reps.one (show Kd.M (Kd.int .u8) _ _ _ _ _ from rfl) (Reps.one (show Kd.M (Kd.int .u8) _ _ _ _ _ from rfl) (Reps.none _ _))); intro v_y3 px1_ hR hb hg_ hn_; clear hg_ hn_; obtain ⟨y3, hy_⟩ : ∃ y_, y_ = ([rob, every] : List Int) := ⟨_, rfl⟩; rw [← hy_] at hR; have HY_y3 := Aside0.mk hy_; clear hy_; have nW := Aside0.mk (HW.out.below hb); have nM := Aside0.mk (HM.out.trans (WM.of_below hb)); clear HW HM; have HW := nW; have HM := nM; clear nW nM; clear BK_gm hc_gm_0 hf_gm_0 hc_gm_1 hf_gm_1 hc_gm_2 hf_gm_2 hc_gm_3 hf_gm_3 hc_gm_4 hf_gm_4 hc_gm_5 hf_gm_5 hc_gm_6 hf_gm_6 hc_gm_7 hf_gm_7 hc_gm_8 hf_gm_8; have BK_gm := Aside0.mk ((HM.out.block LT_gm.out NG_gm.out (by simp [Value.ownBlock])).trans BO_gm.out); obtain ⟨hc_gm_0, hc_gm_1, hc_gm_2, hc_gm_3, hc_gm_4, hc_gm_5, hc_gm_6, hc_gm_7, hc_gm_8, hf_gm_0, hf_gm_1, hf_gm_2, hf_gm_3, hf_gm_4, hf_gm_5, hf_gm_6, hf_gm_7, hf_gm_8⟩ := cf9 BK_gm.out; obtain ⟨A_y3, c_y3, rfl⟩ := Kd.R_slice hR; have HC_y3 := Aside0.mk (Kd.R_reads' hR).2.2; clear hR hb) | (go_at_call 23; with_reducible refine (lay_w HW.out HM.out.size HC_y3.out (by have := HLE.out; rw [List.length_append] at this; rw [List.length_append, HY_y3.out]; simp only [List.length_cons, List.length_nil]; omega)).mono ?_; rintro e px2_ ⟨rfl, v_px2_, hW, hM⟩; have hsz := hM.size; have nW := Aside0.mk hW; have nM := Aside0.mk (HM.out.trans hM); clear HW HM; have HW := nW; have HM := nM; clear nW nM; clear BK_gm hc_gm_0 hf_gm_0 hc_gm_1 hf_gm_1 hc_gm_2 hf_gm_2 hc_gm_3 hf_gm_3 hc_gm_4 hf_gm_4 hc_gm_5 hf_gm_5 hc_gm_6 hf_gm_6 hc_gm_7 hf_gm_7 hc_gm_8 hf_gm_8; have BK_gm := Aside0.mk ((HM.out.block LT_gm.out NG_gm.out (by simp [Value.ownBlock])).trans BO_gm.out); obtain ⟨hc_gm_0, hc_gm_1, hc_gm_2, hc_gm_3, hc_gm_4, hc_gm_5, hc_gm_6, hc_gm_7, hc_gm_8, hf_gm_0, hf_gm_1, hf_gm_2, hf_gm_3, hf_gm_4, hf_gm_5, hf_gm_6, hf_gm_7, hf_gm_8⟩ := cf9 BK_gm.out; clear hW hM hsz) | (go_at_call 24; with_reducible refine (addrs_n HW.out HM.out.size (HM.out.V VS.out) (by have := HLE.out; have := HLN.out; simp only [List.length_append, HY_y3.out, List.length_cons, List.length_nil] at *; omega) HSR.out).mono ?_; rintro e px3_ ⟨rfl, v_px3_, hW, hM⟩; have hsz := hM.size; have nW := Aside0.mk hW; have nM := Aside0.mk (HM.out.trans hM); clear HW HM; have HW := nW; have HM := nM; clear nW nM; clear BK_gm hc_gm_0 hf_gm_0 hc_gm_1 hf_gm_1 hc_gm_2 hf_gm_2 hc_gm_3 hf_gm_3 hc_gm_4 hf_gm_4 hc_gm_5 hf_gm_5 hc_gm_6 hf_gm_6 hc_gm_7 hf_gm_7 hc_gm_8 hf_gm_8; have BK_gm := Aside0.mk ((HM.out.block LT_gm.out NG_gm.out (by simp [Value.ownBlock])).trans BO_gm.out); obtain ⟨hc_gm_0, hc_gm_1, hc_gm_2, hc_gm_3, hc_gm_4, hc_gm_5, hc_gm_6, hc_gm_7, hc_gm_8, hf_gm_0, hf_gm_1, hf_gm_2, hf_gm_3, hf_gm_4, hf_gm_5, hf_gm_6, hf_gm_7, hf_gm_8⟩ := cf9 BK_gm.out; clear hW hM hsz))
        obtain ⟨A_z, c_z, hz⟩ := Kd.R_slice HW.out.row
        subst hz
        have hcw : px3_.cell? ⟨gw, 0, none⟩ = some _ := (blk_cell HW.out.box 0).trans rfl
        obtain ⟨zs, hzs⟩ : ∃ zs_, zs_ = y0 ++ l ++ y3 ++ wrow [] srcs := ⟨_, rfl⟩
        rw [← hzs] at HW hcw
        have HZ := Aside0.mk (show zs = mbody k ver code grp quiet rob every srcs recs by rw [hzs]; simp only [mbody, HY_y0.out, HLL.out, HY_y3.out, if_pos H3.out, HQU.out, if_true, List.append_assoc, Bool.false_eq_true, if_false])
        have HZL := Aside0.mk (show 8 ≤ zs.length ∧ zs.length ≤ 2000000 by
          have h1 := HLE.out
          have h2 := HLN.out
          have h3 := HLM.out
          rw [hzs]
          simp only [List.length_append] at h1 h3 ⊢
          first | omega | (simp only [wrow, flat_len, HY_y3.out, List.length_append, List.length_cons, List.length_nil]; omega))
        clear hzs
        go_wp2_with (first | (go_at_call 26; with_reducible refine (put_w _ _ zs _ (by have := HZL.out; omega) (Kd.R_reads' HW.out.row).2.1 (by rw [HZ.out]; exact HBY.out) (Kd.R_reads' HW.out.row).2.2 (by have := HZL.out; omega)).mono ?_; rintro e px4_ ⟨v_p, rfl, hR, hb⟩; have HRP := Aside0.mk hR; have HBP := Aside0.mk hb; clear hR hb))
        go_ret2
        have hbb := WM.below HB1.out HM.out GWS.out
        exact ⟨_, rfl, by rw [← HZ.out]; exact Kd.R_lower HRP.out hbb.size, hbb.trans (HBP.out.mono hbb.size)⟩
    · have e3 : (ver == 3) = false := beq_eq_false_iff_ne.2 h3
      have H3 := Aside0.mk h3
      clear h3
      go_upto_region 20 with fail
      obtain ⟨A_z, c_z, hz⟩ := Kd.R_slice HW.out.row
      subst hz
      have hcw : wc.cell? ⟨gw, 0, none⟩ = some _ := (blk_cell HW.out.box 0).trans rfl
      obtain ⟨zs, hzs⟩ : ∃ zs_, zs_ = y0 ++ l := ⟨_, rfl⟩
      rw [← hzs] at HW hcw
      have HZ := Aside0.mk (show zs = mbody k ver code grp quiet rob every srcs recs by rw [hzs]; simp only [mbody, HY_y0.out, HLL.out, if_neg H3.out, List.append_nil])
      have HZL := Aside0.mk (show 8 ≤ zs.length ∧ zs.length ≤ 2000000 by
        have h1 := HLE.out
        have h2 := HLN.out
        have h3 := HLM.out
        rw [hzs]
        simp only [List.length_append] at h1 h3 ⊢
        first | omega | (simp only [wrow, flat_len, HY_y3.out, List.length_append, List.length_cons, List.length_nil]; omega))
      clear hzs
      go_wp2_with (first | (go_at_call 26; with_reducible refine (put_w _ _ zs _ (by have := HZL.out; omega) (Kd.R_reads' HW.out.row).2.1 (by rw [HZ.out]; exact HBY.out) (Kd.R_reads' HW.out.row).2.2 (by have := HZL.out; omega)).mono ?_; rintro e nx1_ ⟨v_p, rfl, hR, hb⟩; have HRP := Aside0.mk hR; have HBP := Aside0.mk hb; clear hR hb))
      go_ret2
      have hbb := WM.below HB1.out HM.out GWS.out
      exact ⟨_, rfl, by rw [← HZ.out]; exact Kd.R_lower HRP.out hbb.size, hbb.trans (HBP.out.mono hbb.size)⟩
end Go.Proofs.Ytmmjmncchckbbaa
