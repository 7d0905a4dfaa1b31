/-
  The document's igmp.Encode, walked.
-/
import Derived.Test.YtmmjmncchckbbaaIgX
import Derived.Test.YtmmjmncchckbbaaIgCr
import Derived.Test.YtmmjmncchckbbaaIgC
import Derived.Test.YtmmjmncchckbbaaPIgx8
namespace Go.Proofs.Ytmmjmncchckbbaa
open Go.RowKit Go.Proofs.YtmmjmncchckbbaaW.PrintWords Go.Proofs.YtmmjmncchckbbaaW.PrintLast Go.Proofs.YtmmjmncchckbbaaW.PrintMore Go.Proofs.Ytmmjmncchckbbaa.PIg
set_option linter.unusedVariables false
set_option linter.unusedSimpArgs false
theorem rowsn_w {x L : List Int} {A : Option Addr} {c : Nat} {v : Value} (w1 W : World) (HB : Below w1.heap.size w1 W) (hO : Kd.R (Kd.int .u8) 5 W w1.heap.size (fun _ => True) v x) (hL : Kd.C (Kd.int .u32) w1 A L.length L) (hc : L.length ≤ c) (hu : ∀ a ∈ L, U32 a) (hl : L.length ≤ 1000000) (hx : x.length ≤ 9000000) :
    Calls Try.prog 27 #[v, .slice none 0 0, .slice A L.length c] W fun e w' => ∃ v', e = .returned v' ∧ Kd.R (Kd.int .u8) 5 w' w1.heap.size (fun _ => True) v' (x ++ wrow [] L) ∧ Below w1.heap.size w1 w' := by
  refine (stolonref05_rows.calls (L.length + 1) (fun k => w1.heap.size ≤ k) v x none 0 [] A c L (x ++ wrow [] L) w1 W HB (Kd.R_mono (Kd.R_bound hO) (fun k hk => hk.2.1)) (fun W_ _ => Kd.C_nil _ W_) (Nat.le_refl _) (Kd.C_kept_came (Kd.heap_int .u32) hL HB (fun k hk => hk)) hc (rows_some' hu hl (by simp only [List.length_nil]; omega))).mono ?_
  rintro e w' ⟨v0, rfl, hR, hB, _⟩
  exact ⟨v0, rfl, Kd.R_mono hR (fun _ _ => trivial), hB⟩
theorem rowsg_w {x G L : List Int} {A B : Option Addr} {c d : Nat} {v : Value} (w1 W : World) (HB : Below w1.heap.size w1 W) (hO : Kd.R (Kd.int .u8) 5 W w1.heap.size (fun k => True ∧ some k ≠ (Value.slice B G.length d).ownBlock) v x) (hG : Kd.R (Kd.int .u8) 5 W w1.heap.size (fun _ => True) (.slice B G.length d) G) (hL : Kd.C (Kd.int .u32) w1 A L.length L) (hc : L.length ≤ c) (hu : ∀ a ∈ L, U32 a) (hl : L.length ≤ 1000000) (hx : x.length + G.length ≤ 9000000) :
    Calls Try.prog 27 #[v, .slice B G.length d, .slice A L.length c] W fun e w' => ∃ v', e = .returned v' ∧ Kd.R (Kd.int .u8) 5 w' w1.heap.size (fun _ => True) v' (x ++ wrow G L) ∧ Below w1.heap.size w1 w' := by
  refine (stolonref05_rows.calls (L.length + 1) (fun k => w1.heap.size ≤ k ∧ some k ≠ (Value.slice B G.length d).ownBlock) v x B d G A c L (x ++ wrow G L) w1 W HB (Kd.R_mono (Kd.R_bound hO) (fun k hk => ⟨hk.2.1, hk.1.2⟩)) (Kd.C_kept_own (Kd.R_tight rfl hG) (fun k hk h2 => h2.2 hk)) (Kd.R_reads' hG).2.1 (Kd.C_kept_came (Kd.heap_int .u32) hL HB (fun k hk => hk.1)) hc (rows_some' hu hl (by omega))).mono ?_
  rintro e w' ⟨v0, rfl, hR, hB, _⟩
  exact ⟨v0, rfl, Kd.R_mono hR (fun _ _ => trivial), hB⟩
theorem rput_w {A : Option Addr} {c : Nat} {zs : List Int} (w : World) (hb : Byt zs) (hl : zs.length ≤ 1000000) (h4 : 4 ≤ zs.length) (hr : Kd.C (Kd.int .u8) w A zs.length zs) (hc : zs.length ≤ c) :
    Calls Try.prog 29 #[.slice A zs.length c, .int .i64 2] w fun e w' => ∃ v, e = .returned (.tuple #[v, .int .i64 0]) ∧ Kd.R (Kd.int .u8) 5 w' w.heap.size (fun _ => True) v (putOf zs 2) ∧ Below w.heap.size w w' := by
  refine (stolonref02_Put.calls (zs.length + 1000006) A c zs 2 (putOf zs 2) 0 w hr hc ?_)
  rw [refPut_some zs 2 hb hl (by decide) _ (by omega), if_neg (by omega)]
  rfl

set_option maxHeartbeats 8000000 in
set_option maxRecDepth 100000 in
theorem rencno_w {m : Msg} (A_s : Option Addr) (c_s : Nat) (A_r : Option Addr) (c_r : Nat) (w : World) (hss : Kd.C (Kd.int .u32) w A_s m.srcs.length m.srcs) (hscs : m.srcs.length ≤ c_s) (hrr : Kd.C k44 w A_r m.recs.length m.recs) (hrcr : m.recs.length ≤ c_r) (hb : rightB m = false) (hl : m.recs.length ≤ 1000000) : Calls Try.prog 14 #[.agg #[.int .u8 m.k, .int .i64 m.ver, .int .u8 m.code, .int .u32 m.grp, .bool m.quiet, .int .u8 m.rob, .int .u8 m.every, .slice A_s m.srcs.length c_s, .slice A_r m.recs.length c_r]] w fun e w' => e = .returned (.tuple #[.slice none 0 0, .int .i64 1]) ∧ Below w.heap.size w w' := by
  go_enter Try.func14, Try.ntmps14
  go_upto_region 1 with (first | ((with_reducible refine gate_dst (N := 1) rfl ?_); (try (refine gate_guard (by rfl) ?_; dsimp only)); refine box_event ?hg (N := 1) ?hd (cs := #[.int .u8 m.k, .int .i64 m.ver, .int .u8 m.code, .int .u32 m.grp, .bool m.quiet, .int .u8 m.rob, .int .u8 m.every, .slice A_s m.srcs.length c_s, .slice A_r m.recs.length c_r]) (t := 27) ?hr ?_; (case hd => rfl); (case hg => rfl); (case hr => first | (go_simp; done) | (go_simp; rfl)); intro gm hg w1_ hbox hb; have BO := Aside0.mk hbox; have HB1 := Aside0.mk hb; have HB := Aside0.mk (Below.refl w1_.heap.size w1_); clear hbox hb hg))
  have HS1 := Aside0.mk (Kd.C_below hss HB1.out)
  have HR1 := Aside0.mk (Kd.C_below hrr HB1.out)
  clear hss hrr
  obtain ⟨hc_0, hc_1, hc_2, hc_3, hc_4, hc_5, hc_6, hc_7, hc_8, hf_0, hf_1, hf_2, hf_3, hf_4, hf_5, hf_6, hf_7, hf_8⟩ := cf9 (blk_below BO.out HB.out)
  go_wp2_with (first | (go_at_call 16; with_reducible refine (rright_w (m := m) hb hl A_s c_s A_r c_r _ HS1.out hscs HR1.out hrcr).mono ?_; rintro e x1_ ⟨rfl, hb⟩; have nB := Aside0.mk (HB.out.trans (hb.mono HB.out.size)); clear HB; have HB := nB; clear nB; clear hc_0 hf_0 hc_1 hf_1 hc_2 hf_2 hc_3 hf_3 hc_4 hf_4 hc_5 hf_5 hc_6 hf_6 hc_7 hf_7 hc_8 hf_8; obtain ⟨hc_0, hc_1, hc_2, hc_3, hc_4, hc_5, hc_6, hc_7, hc_8, hf_0, hf_1, hf_2, hf_3, hf_4, hf_5, hf_6, hf_7, hf_8⟩ := cf9 (blk_below BO.out HB.out); clear hb))
  go_ret2
  exact ⟨rfl, HB1.out.trans (HB.out.mono HB1.out.size)⟩
set_option maxHeartbeats 8000000 in
set_option maxRecDepth 100000 in
theorem renc_b {m : Msg} (A_s : Option Addr) (c_s : Nat) (A_r : Option Addr) (c_r : Nat) (w : World) (hss : Kd.C (Kd.int .u32) w A_s m.srcs.length m.srcs) (hscs : m.srcs.length ≤ c_s) (hrr : Kd.C k44 w A_r m.recs.length m.recs) (hrcr : m.recs.length ≤ c_r) (hv : RightV m) (ho : m.Ok) (hb : rightB m = true) (hk : m.k ≠ 34) (hver : m.ver ≠ 3) : Calls Try.prog 14 #[.agg #[.int .u8 m.k, .int .i64 m.ver, .int .u8 m.code, .int .u32 m.grp, .bool m.quiet, .int .u8 m.rob, .int .u8 m.every, .slice A_s m.srcs.length c_s, .slice A_r m.recs.length c_r]] w fun e w' => ∃ v, e = .returned (.tuple #[v, .int .i64 0]) ∧ Kd.R (Kd.int .u8) 5 w' w.heap.size (fun _ => True) v (enc m) ∧ Below w.heap.size w w' := by
  have HV := Aside0.mk hv
  have HOK := Aside0.mk ho
  clear hv
  have HRL := Aside0.mk (show m.recs.length ≤ 1000000 by have := size_right hb; unfold Msg.size recK at this; omega)
  have HSL := Aside0.mk (show m.srcs.length ≤ 64 ∧ ∀ r ∈ m.recs, r.f2.length ≤ 64 by have h := HV.out; cases h <;> simp_all)
  have e34 : (m.k == 34) = false := beq_eq_false_iff_ne.2 hk
  have e3 : (m.ver == 3) = false := beq_eq_false_iff_ne.2 hver
  have HKK := Aside0.mk hk
  have HVV := Aside0.mk hver
  clear hk hver
  go_enter Try.func14, Try.ntmps14
  go_upto_region 1 with (first | ((with_reducible refine gate_dst (N := 1) rfl ?_); (try (refine gate_guard (by rfl) ?_; dsimp only)); refine box_event ?hg (N := 1) ?hd (cs := #[.int .u8 m.k, .int .i64 m.ver, .int .u8 m.code, .int .u32 m.grp, .bool m.quiet, .int .u8 m.rob, .int .u8 m.every, .slice A_s m.srcs.length c_s, .slice A_r m.recs.length c_r]) (t := 27) ?hr ?_; (case hd => rfl); (case hg => rfl); (case hr => first | (go_simp; done) | (go_simp; rfl)); intro gm hg w1_ hbox hb; have BO := Aside0.mk hbox; have HB1 := Aside0.mk hb; have HB := Aside0.mk (Below.refl w1_.heap.size w1_); clear hbox hb hg))
  have HS1 := Aside0.mk (Kd.C_below hss HB1.out)
  have HR1 := Aside0.mk (Kd.C_below hrr HB1.out)
  clear hss hrr
  obtain ⟨hc_0, hc_1, hc_2, hc_3, hc_4, hc_5, hc_6, hc_7, hc_8, hf_0, hf_1, hf_2, hf_3, hf_4, hf_5, hf_6, hf_7, hf_8⟩ := cf9 (blk_below BO.out HB.out)
  go_upto_region 19 with (first | (go_at_call 16; with_reducible refine (rright_w (m := m) hb HRL.out A_s c_s A_r c_r _ HS1.out hscs HR1.out hrcr).mono ?_; rintro e x1_ ⟨rfl, hb⟩; have nB := Aside0.mk (HB.out.trans (hb.mono HB.out.size)); clear HB; have HB := nB; clear nB; clear hc_0 hf_0 hc_1 hf_1 hc_2 hf_2 hc_3 hf_3 hc_4 hf_4 hc_5 hf_5 hc_6 hf_6 hc_7 hf_7 hc_8 hf_8; obtain ⟨hc_0, hc_1, hc_2, hc_3, hc_4, hc_5, hc_6, hc_7, hc_8, hf_0, hf_1, hf_2, hf_3, hf_4, hf_5, hf_6, hf_7, hf_8⟩ := cf9 (blk_below BO.out HB.out); clear hb) | ((with_reducible refine gate_dst (N := 16) rfl ?_); refine Kd.R_lit (Kd.int .u8) _ 5 ?hg (N := 16) ?hd (xs := [m.k, m.code, 0, 0]) (inner := [.int .u8 m.k, .int .u8 m.code, .int .u8 0, .int .u8 0]) (ok := fun _ => True) (okp := fun _ => True) ?hr ?hp (fun _ hk => hk) trivial (Below.refl _ _) (Nat.le_refl _) (by simp) ?_; (case hd => rfl); (case hg => rfl); (case hr => first | (go_simp; done) | (go_simp; rfl)); (case hp => exact Reps.one (show Kd.M (Kd.int .u8) _ _ _ _ _ from rfl) (Reps.one (show Kd.M (Kd.int .u8) _ _ _ _ _ from rfl) (Reps.one (show Kd.M (Kd.int .u8) _ _ _ _ _ from rfl) (Reps.one (show Kd.M (Kd.int .u8) _ _ _ _ _ from rfl) (Reps.none _ _))))); intro v_y0 x2_ hR hb hg_ hn_; clear hg_ hn_; obtain ⟨y0, hy_⟩ : ∃ y_, y_ = ([m.k, m.code, 0, 0] : List Int) := ⟨_, rfl⟩; rw [← hy_] at hR; have HY_y0 := Aside0.mk hy_; clear hy_; have HO := Aside0.mk (Kd.R_lower hR HB.out.size); have nB := Aside0.mk (HB.out.trans (hb.mono HB.out.size)); clear HB; have HB := nB; clear nB hR hb; clear hc_0 hf_0 hc_1 hf_1 hc_2 hf_2 hc_3 hf_3 hc_4 hf_4 hc_5 hf_5 hc_6 hf_6 hc_7 hf_7 hc_8 hf_8; obtain ⟨hc_0, hc_1, hc_2, hc_3, hc_4, hc_5, hc_6, hc_7, hc_8, hf_0, hf_1, hf_2, hf_3, hf_4, hf_5, hf_6, hf_7, hf_8⟩ := cf9 (blk_below BO.out HB.out)) | (go_at_call 28; with_reducible refine (stolonref01_Bytes.calls m.grp (ab m.grp) _ (refBytes_some HOK.out.grp)).mono ?_; rintro e x3_ ⟨v_g0, rfl, hR, hb⟩; have hRR := Aside0.mk (Kd.R_lower hR HB.out.size); have nE := Aside0.mk (Kd.R_elder' HO.out (Kd.R_base hR) hb); have nB := Aside0.mk (HB.out.trans (hb.mono HB.out.size)); have nO := Aside0.mk (Kd.R_below HO.out hb); clear HO; have HO := nO; clear nO; clear HB; have HB := nB; clear nB; clear hc_0 hf_0 hc_1 hf_1 hc_2 hf_2 hc_3 hf_3 hc_4 hf_4 hc_5 hf_5 hc_6 hf_6 hc_7 hf_7 hc_8 hf_8; obtain ⟨hc_0, hc_1, hc_2, hc_3, hc_4, hc_5, hc_6, hc_7, hc_8, hf_0, hf_1, hf_2, hf_3, hf_4, hf_5, hf_6, hf_7, hf_8⟩ := cf9 (blk_below BO.out HB.out); obtain ⟨A_g0, c_g0, e_⟩ := Kd.R_slice hRR.out; subst e_; have HC_g0 := Aside0.mk (Kd.R_reads' hRR.out).2.2; have HRG := Aside0.mk hRR.out; have HOG := Aside0.mk nE.out; clear hR hb hRR nE) | ((with_reducible refine gate_builtin (b := .append) (xs := #[.tmp 58, .tmp 61]) rfl ?_); at_builtin; refine Kd.R_append_rows (Kd.int .u8) (w0 := w1_) w1_.heap.size rfl (.tmp 58) (.tmp 61) 30 5 (.int .u8 0) 1 rfl Try.underlying30 info5 rfl (by decide) (by omega) v_y0 y0 (ab m.grp) _ _ _ (fun _ => True) (fun _ => False) rfl rfl HO.out HC_g0.out (fun _ _ h => h) (fun _ h => h.elim) (fun _ _ => trivial) HB.out HB.out.size (by have := HY_y0.out; subst this; simp [ab]) ?_; intro v_y1 x4_ hR hB hg_ hat_; clear hg_ hat_ HO HB HC_g0; obtain ⟨y1, hy_⟩ : ∃ y_, y_ = y0 ++ (ab m.grp) := ⟨_, rfl⟩; rw [← hy_] at hR; have HY_y1 := Aside0.mk hy_; clear hy_; have HO := Aside0.mk hR; have HB := Aside0.mk hB; clear hR hB; clear hc_0 hf_0 hc_1 hf_1 hc_2 hf_2 hc_3 hf_3 hc_4 hf_4 hc_5 hf_5 hc_6 hf_6 hc_7 hf_7 hc_8 hf_8; obtain ⟨hc_0, hc_1, hc_2, hc_3, hc_4, hc_5, hc_6, hc_7, hc_8, hf_0, hf_1, hf_2, hf_3, hf_4, hf_5, hf_6, hf_7, hf_8⟩ := cf9 (blk_below BO.out HB.out)))
  obtain ⟨A_z, c_z, e_⟩ := Kd.R_slice HO.out
  subst e_
  have HZ := Aside0.mk (show y1 = mb m by rw [HY_y1.out, HY_y0.out, mb_eq, Msg.tail, if_neg HKK.out, if_neg HVV.out, List.append_nil]; rfl)
  have HZL := Aside0.mk (show 8 ≤ y1.length ∧ y1.length ≤ 10000 by rw [HZ.out]; exact ⟨mb_8 HV.out, mb_max HV.out⟩)
  go_wp2_with (first | (go_at_call 29; with_reducible refine (rput_w _ (by rw [HZ.out]; exact mb_byt HOK.out) (by have := HZL.out; omega) (by have := HZL.out; omega) (Kd.R_reads' HO.out).2.2 (Kd.R_reads' HO.out).2.1).mono ?_; rintro e wz_ ⟨v_p, rfl, hR, hb⟩; have HRP := Aside0.mk hR; have HBP := Aside0.mk hb; clear hR hb))
  go_ret2
  have hbb := HB1.out.trans (HB.out.mono HB1.out.size)
  exact ⟨_, rfl, by have h := HRP.out; rw [HZ.out] at h; exact Kd.R_lower h hbb.size, hbb.trans (HBP.out.mono hbb.size)⟩
set_option maxHeartbeats 8000000 in
set_option maxRecDepth 100000 in
theorem renc_ct {m : Msg} (A_s : Option Addr) (c_s : Nat) (A_r : Option Addr) (c_r : Nat) (w : World) (hss : Kd.C (Kd.int .u32) w A_s m.srcs.length m.srcs) (hscs : m.srcs.length ≤ c_s) (hrr : Kd.C k44 w A_r m.recs.length m.recs) (hrcr : m.recs.length ≤ c_r) (hv : RightV m) (ho : m.Ok) (hb : rightB m = true) (hk : m.k ≠ 34) (hver : m.ver = 3) (hq : m.quiet = true) : Calls Try.prog 14 #[.agg #[.int .u8 m.k, .int .i64 m.ver, .int .u8 m.code, .int .u32 m.grp, .bool m.quiet, .int .u8 m.rob, .int .u8 m.every, .slice A_s m.srcs.length c_s, .slice A_r m.recs.length c_r]] w fun e w' => ∃ v, e = .returned (.tuple #[v, .int .i64 0]) ∧ Kd.R (Kd.int .u8) 5 w' w.heap.size (fun _ => True) v (enc m) ∧ Below w.heap.size w w' := by
  have HV := Aside0.mk hv
  have HOK := Aside0.mk ho
  clear hv
  have HRL := Aside0.mk (show m.recs.length ≤ 1000000 by have := size_right hb; unfold Msg.size recK at this; omega)
  have HSL := Aside0.mk (show m.srcs.length ≤ 64 ∧ ∀ r ∈ m.recs, r.f2.length ≤ 64 by have h := HV.out; cases h <;> simp_all)
  have e34 : (m.k == 34) = false := beq_eq_false_iff_ne.2 hk
  have e3 : (m.ver == 3) = true := beq_iff_eq.2 hver
  have HKK := Aside0.mk hk
  have HVV := Aside0.mk hver
  have HQ := Aside0.mk hq
  clear hq
  have HRB := Aside0.mk (show 0 ≤ m.rob ∧ m.rob ≤ 7 by have h := HV.out; have h2 := HOK.out.rob; cases h <;> simp_all [U8])
  clear hk hver
  go_enter Try.func14, Try.ntmps14
  go_upto_region 1 with (first | ((with_reducible refine gate_dst (N := 1) rfl ?_); (try (refine gate_guard (by rfl) ?_; dsimp only)); refine box_event ?hg (N := 1) ?hd (cs := #[.int .u8 m.k, .int .i64 m.ver, .int .u8 m.code, .int .u32 m.grp, .bool m.quiet, .int .u8 m.rob, .int .u8 m.every, .slice A_s m.srcs.length c_s, .slice A_r m.recs.length c_r]) (t := 27) ?hr ?_; (case hd => rfl); (case hg => rfl); (case hr => first | (go_simp; done) | (go_simp; rfl)); intro gm hg w1_ hbox hb; have BO := Aside0.mk hbox; have HB1 := Aside0.mk hb; have HB := Aside0.mk (Below.refl w1_.heap.size w1_); clear hbox hb hg))
  have HS1 := Aside0.mk (Kd.C_below hss HB1.out)
  have HR1 := Aside0.mk (Kd.C_below hrr HB1.out)
  clear hss hrr
  obtain ⟨hc_0, hc_1, hc_2, hc_3, hc_4, hc_5, hc_6, hc_7, hc_8, hf_0, hf_1, hf_2, hf_3, hf_4, hf_5, hf_6, hf_7, hf_8⟩ := cf9 (blk_below BO.out HB.out)
  go_upto_region 15 with (first | (go_at_call 16; with_reducible refine (rright_w (m := m) hb HRL.out A_s c_s A_r c_r _ HS1.out hscs HR1.out hrcr).mono ?_; rintro e x1_ ⟨rfl, hb⟩; have nB := Aside0.mk (HB.out.trans (hb.mono HB.out.size)); clear HB; have HB := nB; clear nB; clear hc_0 hf_0 hc_1 hf_1 hc_2 hf_2 hc_3 hf_3 hc_4 hf_4 hc_5 hf_5 hc_6 hf_6 hc_7 hf_7 hc_8 hf_8; obtain ⟨hc_0, hc_1, hc_2, hc_3, hc_4, hc_5, hc_6, hc_7, hc_8, hf_0, hf_1, hf_2, hf_3, hf_4, hf_5, hf_6, hf_7, hf_8⟩ := cf9 (blk_below BO.out HB.out); clear hb) | ((with_reducible refine gate_dst (N := 16) rfl ?_); refine Kd.R_lit (Kd.int .u8) _ 5 ?hg (N := 16) ?hd (xs := [m.k, m.code, 0, 0]) (inner := [.int .u8 m.k, .int .u8 m.code, .int .u8 0, .int .u8 0]) (ok := fun _ => True) (okp := fun _ => True) ?hr ?hp (fun _ hk => hk) trivial (Below.refl _ _) (Nat.le_refl _) (by simp) ?_; (case hd => rfl); (case hg => rfl); (case hr => first | (go_simp; done) | (go_simp; rfl)); (case hp => exact Reps.one (show Kd.M (Kd.int .u8) _ _ _ _ _ from rfl) (Reps.one (show Kd.M (Kd.int .u8) _ _ _ _ _ from rfl) (Reps.one (show Kd.M (Kd.int .u8) _ _ _ _ _ from rfl) (Reps.one (show Kd.M (Kd.int .u8) _ _ _ _ _ from rfl) (Reps.none _ _))))); intro v_y0 x2_ hR hb hg_ hn_; clear hg_ hn_; obtain ⟨y0, hy_⟩ : ∃ y_, y_ = ([m.k, m.code, 0, 0] : List Int) := ⟨_, rfl⟩; rw [← hy_] at hR; have HY_y0 := Aside0.mk hy_; clear hy_; have HO := Aside0.mk (Kd.R_lower hR HB.out.size); have nB := Aside0.mk (HB.out.trans (hb.mono HB.out.size)); clear HB; have HB := nB; clear nB hR hb; clear hc_0 hf_0 hc_1 hf_1 hc_2 hf_2 hc_3 hf_3 hc_4 hf_4 hc_5 hf_5 hc_6 hf_6 hc_7 hf_7 hc_8 hf_8; obtain ⟨hc_0, hc_1, hc_2, hc_3, hc_4, hc_5, hc_6, hc_7, hc_8, hf_0, hf_1, hf_2, hf_3, hf_4, hf_5, hf_6, hf_7, hf_8⟩ := cf9 (blk_below BO.out HB.out)) | (go_at_call 28; with_reducible refine (stolonref01_Bytes.calls m.grp (ab m.grp) _ (refBytes_some HOK.out.grp)).mono ?_; rintro e x3_ ⟨v_g0, rfl, hR, hb⟩; have hRR := Aside0.mk (Kd.R_lower hR HB.out.size); have nE := Aside0.mk (Kd.R_elder' HO.out (Kd.R_base hR) hb); have nB := Aside0.mk (HB.out.trans (hb.mono HB.out.size)); have nO := Aside0.mk (Kd.R_below HO.out hb); clear HO; have HO := nO; clear nO; clear HB; have HB := nB; clear nB; clear hc_0 hf_0 hc_1 hf_1 hc_2 hf_2 hc_3 hf_3 hc_4 hf_4 hc_5 hf_5 hc_6 hf_6 hc_7 hf_7 hc_8 hf_8; obtain ⟨hc_0, hc_1, hc_2, hc_3, hc_4, hc_5, hc_6, hc_7, hc_8, hf_0, hf_1, hf_2, hf_3, hf_4, hf_5, hf_6, hf_7, hf_8⟩ := cf9 (blk_below BO.out HB.out); obtain ⟨A_g0, c_g0, e_⟩ := Kd.R_slice hRR.out; subst e_; have HC_g0 := Aside0.mk (Kd.R_reads' hRR.out).2.2; have HRG := Aside0.mk hRR.out; have HOG := Aside0.mk nE.out; clear hR hb hRR nE) | ((with_reducible refine gate_builtin (b := .append) (xs := #[.tmp 58, .tmp 61]) rfl ?_); at_builtin; refine Kd.R_append_rows (Kd.int .u8) (w0 := w1_) w1_.heap.size rfl (.tmp 58) (.tmp 61) 30 5 (.int .u8 0) 1 rfl Try.underlying30 info5 rfl (by decide) (by omega) v_y0 y0 (ab m.grp) _ _ _ (fun _ => True) (fun _ => False) rfl rfl HO.out HC_g0.out (fun _ _ h => h) (fun _ h => h.elim) (fun _ _ => trivial) HB.out HB.out.size (by have := HY_y0.out; subst this; simp [ab]) ?_; intro v_y1 x4_ hR hB hg_ hat_; clear hg_ hat_ HO HB HC_g0; obtain ⟨y1, hy_⟩ : ∃ y_, y_ = y0 ++ (ab m.grp) := ⟨_, rfl⟩; rw [← hy_] at hR; have HY_y1 := Aside0.mk hy_; clear hy_; have HO := Aside0.mk hR; have HB := Aside0.mk hB; clear hR hB; clear hc_0 hf_0 hc_1 hf_1 hc_2 hf_2 hc_3 hf_3 hc_4 hf_4 hc_5 hf_5 hc_6 hf_6 hc_7 hf_7 hc_8 hf_8; obtain ⟨hc_0, hc_1, hc_2, hc_3, hc_4, hc_5, hc_6, hc_7, hc_8, hf_0, hf_1, hf_2, hf_3, hf_4, hf_5, hf_6, hf_7, hf_8⟩ := cf9 (blk_below BO.out HB.out)))
  have hq := HQ.out
  go_upto_region 16 with fail
  go_upto_region 19 with (first | ((with_reducible refine gate_dst (N := 76) rfl ?_); refine Kd.R_lit (Kd.int .u8) _ 5 ?hg (N := 76) ?hd (xs := [(m.rob + 8) % 256, m.every]) (inner := [.int .u8 ((m.rob + 8) % 256), .int .u8 m.every]) (ok := fun _ => True) (okp := fun _ => True) ?hr ?hp (fun _ hk => hk) trivial (Below.refl _ _) (Nat.le_refl _) (by simp) ?_; (case hd => rfl); (case hg => rfl); (case hr => first | (go_simp; done) | (go_simp; rfl)); (case hp => exact Reps.one (show Kd.M (Kd.int .u8) _ _ _ _ _ from rfl) (Reps.one (show Kd.M (Kd.int .u8) _ _ _ _ _ from rfl) (Reps.none _ _))); intro v_y2 x5_ hR hb hg_ hn_; clear hg_ hn_; obtain ⟨y2, hy_⟩ : ∃ y_, y_ = ([(m.rob + 8) % 256, m.every] : List Int) := ⟨_, rfl⟩; rw [← hy_] at hR; have HY_y2 := Aside0.mk hy_; clear hy_; have hRR := Aside0.mk hR; have nB := Aside0.mk (HB.out.trans (hb.mono HB.out.size)); have nO := Aside0.mk (Kd.R_below HO.out hb); clear HO; have HO := nO; clear nO; clear HB; have HB := nB; clear nB; clear hc_0 hf_0 hc_1 hf_1 hc_2 hf_2 hc_3 hf_3 hc_4 hf_4 hc_5 hf_5 hc_6 hf_6 hc_7 hf_7 hc_8 hf_8; obtain ⟨hc_0, hc_1, hc_2, hc_3, hc_4, hc_5, hc_6, hc_7, hc_8, hf_0, hf_1, hf_2, hf_3, hf_4, hf_5, hf_6, hf_7, hf_8⟩ := cf9 (blk_below BO.out HB.out); obtain ⟨A_y2, c_y2, e_⟩ := Kd.R_slice hRR.out; subst e_; have HC_y2 := Aside0.mk (Kd.R_reads' hRR.out).2.2; clear hR hb hRR) | ((with_reducible refine gate_builtin (b := .append) (xs := #[.tmp 72, .tmp 76]) rfl ?_); at_builtin; refine Kd.R_append_rows (Kd.int .u8) (w0 := w1_) w1_.heap.size rfl (.tmp 72) (.tmp 76) 30 5 (.int .u8 0) 1 rfl Try.underlying30 info5 rfl (by decide) (by omega) v_y1 y1 y2 _ _ _ (fun _ => True) (fun _ => False) rfl rfl HO.out HC_y2.out (fun _ _ h => h) (fun _ h => h.elim) (fun _ _ => trivial) HB.out HB.out.size (by have := HY_y0.out; have := HY_y1.out; have := HY_y2.out; subst_vars; simp [ab]) ?_; intro v_y3 x6_ hR hB hg_ hat_; clear hg_ hat_ HO HB HC_y2; obtain ⟨y3, hy_⟩ : ∃ y_, y_ = y1 ++ y2 := ⟨_, rfl⟩; rw [← hy_] at hR; have HY_y3 := Aside0.mk hy_; clear hy_; have HO := Aside0.mk hR; have HB := Aside0.mk hB; clear hR hB; clear hc_0 hf_0 hc_1 hf_1 hc_2 hf_2 hc_3 hf_3 hc_4 hf_4 hc_5 hf_5 hc_6 hf_6 hc_7 hf_7 hc_8 hf_8; obtain ⟨hc_0, hc_1, hc_2, hc_3, hc_4, hc_5, hc_6, hc_7, hc_8, hf_0, hf_1, hf_2, hf_3, hf_4, hf_5, hf_6, hf_7, hf_8⟩ := cf9 (blk_below BO.out HB.out)) | (go_at_call 27; with_reducible refine (rowsn_w w1_ _ HB.out HO.out HS1.out hscs HOK.out.srcs (by have := HSL.out.1; omega) (by have := HY_y0.out; have := HY_y1.out; have := HY_y2.out; have := HY_y3.out; subst_vars; simp [ab])).mono ?_; rintro e x7_ ⟨v_y4, rfl, hR, hB⟩; obtain ⟨y4, hy_⟩ : ∃ y_, y_ = y3 ++ wrow [] m.srcs := ⟨_, rfl⟩; rw [← hy_] at hR; have HY_y4 := Aside0.mk hy_; clear HO HB hy_; have HO := Aside0.mk hR; have HB := Aside0.mk hB; clear hR hB; clear hc_0 hf_0 hc_1 hf_1 hc_2 hf_2 hc_3 hf_3 hc_4 hf_4 hc_5 hf_5 hc_6 hf_6 hc_7 hf_7 hc_8 hf_8; obtain ⟨hc_0, hc_1, hc_2, hc_3, hc_4, hc_5, hc_6, hc_7, hc_8, hf_0, hf_1, hf_2, hf_3, hf_4, hf_5, hf_6, hf_7, hf_8⟩ := cf9 (blk_below BO.out HB.out)))
  obtain ⟨A_z, c_z, e_⟩ := Kd.R_slice HO.out
  subst e_
  have HZ := Aside0.mk (show y4 = mb m by rw [HY_y4.out, HY_y3.out, HY_y2.out, HY_y1.out, HY_y0.out, mb_eq, Msg.tail, if_neg HKK.out, if_pos HVV.out, HQ.out]; rw [if_pos rfl, or8 HRB.out.1 HRB.out.2, show (m.rob + 8) % 256 = m.rob + 8 from by have := HRB.out; omega]; simp)
  have HZL := Aside0.mk (show 8 ≤ y4.length ∧ y4.length ≤ 10000 by rw [HZ.out]; exact ⟨mb_8 HV.out, mb_max HV.out⟩)
  go_wp2_with (first | (go_at_call 29; with_reducible refine (rput_w _ (by rw [HZ.out]; exact mb_byt HOK.out) (by have := HZL.out; omega) (by have := HZL.out; omega) (Kd.R_reads' HO.out).2.2 (Kd.R_reads' HO.out).2.1).mono ?_; rintro e wz_ ⟨v_p, rfl, hR, hb⟩; have HRP := Aside0.mk hR; have HBP := Aside0.mk hb; clear hR hb))
  go_ret2
  have hbb := HB1.out.trans (HB.out.mono HB1.out.size)
  exact ⟨_, rfl, by have h := HRP.out; rw [HZ.out] at h; exact Kd.R_lower h hbb.size, hbb.trans (HBP.out.mono hbb.size)⟩
set_option maxHeartbeats 8000000 in
set_option maxRecDepth 100000 in
theorem renc_cf {m : Msg} (A_s : Option Addr) (c_s : Nat) (A_r : Option Addr) (c_r : Nat) (w : World) (hss : Kd.C (Kd.int .u32) w A_s m.srcs.length m.srcs) (hscs : m.srcs.length ≤ c_s) (hrr : Kd.C k44 w A_r m.recs.length m.recs) (hrcr : m.recs.length ≤ c_r) (hv : RightV m) (ho : m.Ok) (hb : rightB m = true) (hk : m.k ≠ 34) (hver : m.ver = 3) (hq : m.quiet = false) : Calls Try.prog 14 #[.agg #[.int .u8 m.k, .int .i64 m.ver, .int .u8 m.code, .int .u32 m.grp, .bool m.quiet, .int .u8 m.rob, .int .u8 m.every, .slice A_s m.srcs.length c_s, .slice A_r m.recs.length c_r]] w fun e w' => ∃ v, e = .returned (.tuple #[v, .int .i64 0]) ∧ Kd.R (Kd.int .u8) 5 w' w.heap.size (fun _ => True) v (enc m) ∧ Below w.heap.size w w' := by
  have HV := Aside0.mk hv
  have HOK := Aside0.mk ho
  clear hv
  have HRL := Aside0.mk (show m.recs.length ≤ 1000000 by have := size_right hb; unfold Msg.size recK at this; omega)
  have HSL := Aside0.mk (show m.srcs.length ≤ 64 ∧ ∀ r ∈ m.recs, r.f2.length ≤ 64 by have h := HV.out; cases h <;> simp_all)
  have e34 : (m.k == 34) = false := beq_eq_false_iff_ne.2 hk
  have e3 : (m.ver == 3) = true := beq_iff_eq.2 hver
  have HKK := Aside0.mk hk
  have HVV := Aside0.mk hver
  have HQ := Aside0.mk hq
  clear hq
  have HRB := Aside0.mk (show 0 ≤ m.rob ∧ m.rob ≤ 7 by have h := HV.out; have h2 := HOK.out.rob; cases h <;> simp_all [U8])
  clear hk hver
  go_enter Try.func14, Try.ntmps14
  go_upto_region 1 with (first | ((with_reducible refine gate_dst (N := 1) rfl ?_); (try (refine gate_guard (by rfl) ?_; dsimp only)); refine box_event ?hg (N := 1) ?hd (cs := #[.int .u8 m.k, .int .i64 m.ver, .int .u8 m.code, .int .u32 m.grp, .bool m.quiet, .int .u8 m.rob, .int .u8 m.every, .slice A_s m.srcs.length c_s, .slice A_r m.recs.length c_r]) (t := 27) ?hr ?_; (case hd => rfl); (case hg => rfl); (case hr => first | (go_simp; done) | (go_simp; rfl)); intro gm hg w1_ hbox hb; have BO := Aside0.mk hbox; have HB1 := Aside0.mk hb; have HB := Aside0.mk (Below.refl w1_.heap.size w1_); clear hbox hb hg))
  have HS1 := Aside0.mk (Kd.C_below hss HB1.out)
  have HR1 := Aside0.mk (Kd.C_below hrr HB1.out)
  clear hss hrr
  obtain ⟨hc_0, hc_1, hc_2, hc_3, hc_4, hc_5, hc_6, hc_7, hc_8, hf_0, hf_1, hf_2, hf_3, hf_4, hf_5, hf_6, hf_7, hf_8⟩ := cf9 (blk_below BO.out HB.out)
  go_upto_region 15 with (first | (go_at_call 16; with_reducible refine (rright_w (m := m) hb HRL.out A_s c_s A_r c_r _ HS1.out hscs HR1.out hrcr).mono ?_; rintro e x1_ ⟨rfl, hb⟩; have nB := Aside0.mk (HB.out.trans (hb.mono HB.out.size)); clear HB; have HB := nB; clear nB; clear hc_0 hf_0 hc_1 hf_1 hc_2 hf_2 hc_3 hf_3 hc_4 hf_4 hc_5 hf_5 hc_6 hf_6 hc_7 hf_7 hc_8 hf_8; obtain ⟨hc_0, hc_1, hc_2, hc_3, hc_4, hc_5, hc_6, hc_7, hc_8, hf_0, hf_1, hf_2, hf_3, hf_4, hf_5, hf_6, hf_7, hf_8⟩ := cf9 (blk_below BO.out HB.out); clear hb) | ((with_reducible refine gate_dst (N := 16) rfl ?_); refine Kd.R_lit (Kd.int .u8) _ 5 ?hg (N := 16) ?hd (xs := [m.k, m.code, 0, 0]) (inner := [.int .u8 m.k, .int .u8 m.code, .int .u8 0, .int .u8 0]) (ok := fun _ => True) (okp := fun _ => True) ?hr ?hp (fun _ hk => hk) trivial (Below.refl _ _) (Nat.le_refl _) (by simp) ?_; (case hd => rfl); (case hg => rfl); (case hr => first | (go_simp; done) | (go_simp; rfl)); (case hp => exact Reps.one (show Kd.M (Kd.int .u8) _ _ _ _ _ from rfl) (Reps.one (show Kd.M (Kd.int .u8) _ _ _ _ _ from rfl) (Reps.one (show Kd.M (Kd.int .u8) _ _ _ _ _ from rfl) (Reps.one (show Kd.M (Kd.int .u8) _ _ _ _ _ from rfl) (Reps.none _ _))))); intro v_y0 x2_ hR hb hg_ hn_; clear hg_ hn_; obtain ⟨y0, hy_⟩ : ∃ y_, y_ = ([m.k, m.code, 0, 0] : List Int) := ⟨_, rfl⟩; rw [← hy_] at hR; have HY_y0 := Aside0.mk hy_; clear hy_; have HO := Aside0.mk (Kd.R_lower hR HB.out.size); have nB := Aside0.mk (HB.out.trans (hb.mono HB.out.size)); clear HB; have HB := nB; clear nB hR hb; clear hc_0 hf_0 hc_1 hf_1 hc_2 hf_2 hc_3 hf_3 hc_4 hf_4 hc_5 hf_5 hc_6 hf_6 hc_7 hf_7 hc_8 hf_8; obtain ⟨hc_0, hc_1, hc_2, hc_3, hc_4, hc_5, hc_6, hc_7, hc_8, hf_0, hf_1, hf_2, hf_3, hf_4, hf_5, hf_6, hf_7, hf_8⟩ := cf9 (blk_below BO.out HB.out)) | (go_at_call 28; with_reducible refine (stolonref01_Bytes.calls m.grp (ab m.grp) _ (refBytes_some HOK.out.grp)).mono ?_; rintro e x3_ ⟨v_g0, rfl, hR, hb⟩; have hRR := Aside0.mk (Kd.R_lower hR HB.out.size); have nE := Aside0.mk (Kd.R_elder' HO.out (Kd.R_base hR) hb); have nB := Aside0.mk (HB.out.trans (hb.mono HB.out.size)); have nO := Aside0.mk (Kd.R_below HO.out hb); clear HO; have HO := nO; clear nO; clear HB; have HB := nB; clear nB; clear hc_0 hf_0 hc_1 hf_1 hc_2 hf_2 hc_3 hf_3 hc_4 hf_4 hc_5 hf_5 hc_6 hf_6 hc_7 hf_7 hc_8 hf_8; obtain ⟨hc_0, hc_1, hc_2, hc_3, hc_4, hc_5, hc_6, hc_7, hc_8, hf_0, hf_1, hf_2, hf_3, hf_4, hf_5, hf_6, hf_7, hf_8⟩ := cf9 (blk_below BO.out HB.out); obtain ⟨A_g0, c_g0, e_⟩ := Kd.R_slice hRR.out; subst e_; have HC_g0 := Aside0.mk (Kd.R_reads' hRR.out).2.2; have HRG := Aside0.mk hRR.out; have HOG := Aside0.mk nE.out; clear hR hb hRR nE) | ((with_reducible refine gate_builtin (b := .append) (xs := #[.tmp 58, .tmp 61]) rfl ?_); at_builtin; refine Kd.R_append_rows (Kd.int .u8) (w0 := w1_) w1_.heap.size rfl (.tmp 58) (.tmp 61) 30 5 (.int .u8 0) 1 rfl Try.underlying30 info5 rfl (by decide) (by omega) v_y0 y0 (ab m.grp) _ _ _ (fun _ => True) (fun _ => False) rfl rfl HO.out HC_g0.out (fun _ _ h => h) (fun _ h => h.elim) (fun _ _ => trivial) HB.out HB.out.size (by have := HY_y0.out; subst this; simp [ab]) ?_; intro v_y1 x4_ hR hB hg_ hat_; clear hg_ hat_ HO HB HC_g0; obtain ⟨y1, hy_⟩ : ∃ y_, y_ = y0 ++ (ab m.grp) := ⟨_, rfl⟩; rw [← hy_] at hR; have HY_y1 := Aside0.mk hy_; clear hy_; have HO := Aside0.mk hR; have HB := Aside0.mk hB; clear hR hB; clear hc_0 hf_0 hc_1 hf_1 hc_2 hf_2 hc_3 hf_3 hc_4 hf_4 hc_5 hf_5 hc_6 hf_6 hc_7 hf_7 hc_8 hf_8; obtain ⟨hc_0, hc_1, hc_2, hc_3, hc_4, hc_5, hc_6, hc_7, hc_8, hf_0, hf_1, hf_2, hf_3, hf_4, hf_5, hf_6, hf_7, hf_8⟩ := cf9 (blk_below BO.out HB.out)))
  have hq := HQ.out
  skip
  go_upto_region 19 with (first | ((with_reducible refine gate_dst (N := 76) rfl ?_); refine Kd.R_lit (Kd.int .u8) _ 5 ?hg (N := 76) ?hd (xs := [m.rob, m.every]) (inner := [.int .u8 m.rob, .int .u8 m.every]) (ok := fun _ => True) (okp := fun _ => True) ?hr ?hp (fun _ hk => hk) trivial (Below.refl _ _) (Nat.le_refl _) (by simp) ?_; (case hd => rfl); (case hg => rfl); (case hr => first | (go_simp; done) | (go_simp; rfl)); (case hp => exact Reps.one (show Kd.M (Kd.int .u8) _ _ _ _ _ from rfl) (Reps.one (show Kd.M (Kd.int .u8) _ _ _ _ _ from rfl) (Reps.none _ _))); intro v_y2 x5_ hR hb hg_ hn_; clear hg_ hn_; obtain ⟨y2, hy_⟩ : ∃ y_, y_ = ([m.rob, m.every] : List Int) := ⟨_, rfl⟩; rw [← hy_] at hR; have HY_y2 := Aside0.mk hy_; clear hy_; have hRR := Aside0.mk hR; have nB := Aside0.mk (HB.out.trans (hb.mono HB.out.size)); have nO := Aside0.mk (Kd.R_below HO.out hb); clear HO; have HO := nO; clear nO; clear HB; have HB := nB; clear nB; clear hc_0 hf_0 hc_1 hf_1 hc_2 hf_2 hc_3 hf_3 hc_4 hf_4 hc_5 hf_5 hc_6 hf_6 hc_7 hf_7 hc_8 hf_8; obtain ⟨hc_0, hc_1, hc_2, hc_3, hc_4, hc_5, hc_6, hc_7, hc_8, hf_0, hf_1, hf_2, hf_3, hf_4, hf_5, hf_6, hf_7, hf_8⟩ := cf9 (blk_below BO.out HB.out); obtain ⟨A_y2, c_y2, e_⟩ := Kd.R_slice hRR.out; subst e_; have HC_y2 := Aside0.mk (Kd.R_reads' hRR.out).2.2; clear hR hb hRR) | ((with_reducible refine gate_builtin (b := .append) (xs := #[.tmp 72, .tmp 76]) rfl ?_); at_builtin; refine Kd.R_append_rows (Kd.int .u8) (w0 := w1_) w1_.heap.size rfl (.tmp 72) (.tmp 76) 30 5 (.int .u8 0) 1 rfl Try.underlying30 info5 rfl (by decide) (by omega) v_y1 y1 y2 _ _ _ (fun _ => True) (fun _ => False) rfl rfl HO.out HC_y2.out (fun _ _ h => h) (fun _ h => h.elim) (fun _ _ => trivial) HB.out HB.out.size (by have := HY_y0.out; have := HY_y1.out; have := HY_y2.out; subst_vars; simp [ab]) ?_; intro v_y3 x6_ hR hB hg_ hat_; clear hg_ hat_ HO HB HC_y2; obtain ⟨y3, hy_⟩ : ∃ y_, y_ = y1 ++ y2 := ⟨_, rfl⟩; rw [← hy_] at hR; have HY_y3 := Aside0.mk hy_; clear hy_; have HO := Aside0.mk hR; have HB := Aside0.mk hB; clear hR hB; clear hc_0 hf_0 hc_1 hf_1 hc_2 hf_2 hc_3 hf_3 hc_4 hf_4 hc_5 hf_5 hc_6 hf_6 hc_7 hf_7 hc_8 hf_8; obtain ⟨hc_0, hc_1, hc_2, hc_3, hc_4, hc_5, hc_6, hc_7, hc_8, hf_0, hf_1, hf_2, hf_3, hf_4, hf_5, hf_6, hf_7, hf_8⟩ := cf9 (blk_below BO.out HB.out)) | (go_at_call 27; with_reducible refine (rowsn_w w1_ _ HB.out HO.out HS1.out hscs HOK.out.srcs (by have := HSL.out.1; omega) (by have := HY_y0.out; have := HY_y1.out; have := HY_y2.out; have := HY_y3.out; subst_vars; simp [ab])).mono ?_; rintro e x7_ ⟨v_y4, rfl, hR, hB⟩; obtain ⟨y4, hy_⟩ : ∃ y_, y_ = y3 ++ wrow [] m.srcs := ⟨_, rfl⟩; rw [← hy_] at hR; have HY_y4 := Aside0.mk hy_; clear HO HB hy_; have HO := Aside0.mk hR; have HB := Aside0.mk hB; clear hR hB; clear hc_0 hf_0 hc_1 hf_1 hc_2 hf_2 hc_3 hf_3 hc_4 hf_4 hc_5 hf_5 hc_6 hf_6 hc_7 hf_7 hc_8 hf_8; obtain ⟨hc_0, hc_1, hc_2, hc_3, hc_4, hc_5, hc_6, hc_7, hc_8, hf_0, hf_1, hf_2, hf_3, hf_4, hf_5, hf_6, hf_7, hf_8⟩ := cf9 (blk_below BO.out HB.out)))
  obtain ⟨A_z, c_z, e_⟩ := Kd.R_slice HO.out
  subst e_
  have HZ := Aside0.mk (show y4 = mb m by rw [HY_y4.out, HY_y3.out, HY_y2.out, HY_y1.out, HY_y0.out, mb_eq, Msg.tail, if_neg HKK.out, if_pos HVV.out, HQ.out]; simp)
  have HZL := Aside0.mk (show 8 ≤ y4.length ∧ y4.length ≤ 10000 by rw [HZ.out]; exact ⟨mb_8 HV.out, mb_max HV.out⟩)
  go_wp2_with (first | (go_at_call 29; with_reducible refine (rput_w _ (by rw [HZ.out]; exact mb_byt HOK.out) (by have := HZL.out; omega) (by have := HZL.out; omega) (Kd.R_reads' HO.out).2.2 (Kd.R_reads' HO.out).2.1).mono ?_; rintro e wz_ ⟨v_p, rfl, hR, hb⟩; have HRP := Aside0.mk hR; have HBP := Aside0.mk hb; clear hR hb))
  go_ret2
  have hbb := HB1.out.trans (HB.out.mono HB1.out.size)
  exact ⟨_, rfl, by have h := HRP.out; rw [HZ.out] at h; exact Kd.R_lower h hbb.size, hbb.trans (HBP.out.mono hbb.size)⟩
def renc_T11 : Bool × List (List Nat × List Nat) := (true, [([], []), ([], []), ([1], [1]), ([], []), ([2, 3], [2, 3]), ([4], [4]), ([5], [5]), ([6], [6]), ([], []), ([8], [8]), ([], []), ([9, 10], [9, 10]), ([11], [11]), ([12], [12]), ([0, 7, 13, 7], [0, 7, 13]), ([14, 14, 0, 1, 2, 3, 4, 5, 6, 7, 8, 9, 10, 11, 12, 13, 14], [0, 14])])
def renc_B11 : List Nat := [0, 0, 2, 0, 14, 30, 62, 126, 0, 256, 0, 1792, 3840, 7936, 16383, 32767]
theorem renc_t11 : rtab .any (opsOf Try.f14 11) = renc_T11 := by kernel_rfl
theorem renc_b11 : waitsOk renc_T11.2 renc_B11 = true := by kernel_rfl
set_option maxHeartbeats 8000000 in
set_option maxRecDepth 100000 in
theorem renc_a {m : Msg} (A_s : Option Addr) (c_s : Nat) (A_r : Option Addr) (c_r : Nat) (w : World) (hss : Kd.C (Kd.int .u32) w A_s m.srcs.length m.srcs) (hscs : m.srcs.length ≤ c_s) (hrr : Kd.C k44 w A_r m.recs.length m.recs) (hrcr : m.recs.length ≤ c_r) (hv : RightV m) (ho : m.Ok) (hb : rightB m = true) (hk : m.k = 34) (hver : m.ver ≠ 3) : Calls Try.prog 14 #[.agg #[.int .u8 m.k, .int .i64 m.ver, .int .u8 m.code, .int .u32 m.grp, .bool m.quiet, .int .u8 m.rob, .int .u8 m.every, .slice A_s m.srcs.length c_s, .slice A_r m.recs.length c_r]] w fun e w' => ∃ v, e = .returned (.tuple #[v, .int .i64 0]) ∧ Kd.R (Kd.int .u8) 5 w' w.heap.size (fun _ => True) v (enc m) ∧ Below w.heap.size w w' := by
  have HV := Aside0.mk hv
  have HOK := Aside0.mk ho
  clear hv
  have HRL := Aside0.mk (show m.recs.length ≤ 1000000 by have := size_right hb; unfold Msg.size recK at this; omega)
  have HSL := Aside0.mk (show m.srcs.length ≤ 64 ∧ ∀ r ∈ m.recs, r.f2.length ≤ 64 by have h := HV.out; cases h <;> simp_all)
  have e34 : (m.k == 34) = true := beq_iff_eq.2 hk
  have e3 : (m.ver == 3) = false := beq_eq_false_iff_ne.2 hver
  have HKK := Aside0.mk hk
  have HVV := Aside0.mk hver
  have HR32 := Aside0.mk (show m.recs.length ≤ 32 by have h := HV.out; cases h <;> simp_all)
  clear hk hver
  go_enter Try.func14, Try.ntmps14
  go_upto_region 1 with (first | ((with_reducible refine gate_dst (N := 1) rfl ?_); (try (refine gate_guard (by rfl) ?_; dsimp only)); refine box_event ?hg (N := 1) ?hd (cs := #[.int .u8 m.k, .int .i64 m.ver, .int .u8 m.code, .int .u32 m.grp, .bool m.quiet, .int .u8 m.rob, .int .u8 m.every, .slice A_s m.srcs.length c_s, .slice A_r m.recs.length c_r]) (t := 27) ?hr ?_; (case hd => rfl); (case hg => rfl); (case hr => first | (go_simp; done) | (go_simp; rfl)); intro gm hg w1_ hbox hb; have BO := Aside0.mk hbox; have HB1 := Aside0.mk hb; have HB := Aside0.mk (Below.refl w1_.heap.size w1_); clear hbox hb hg))
  have HS1 := Aside0.mk (Kd.C_below hss HB1.out)
  have HR1 := Aside0.mk (Kd.C_below hrr HB1.out)
  clear hss hrr
  obtain ⟨hc_0, hc_1, hc_2, hc_3, hc_4, hc_5, hc_6, hc_7, hc_8, hf_0, hf_1, hf_2, hf_3, hf_4, hf_5, hf_6, hf_7, hf_8⟩ := cf9 (blk_below BO.out HB.out)
  go_wp2_with (first | (go_at_call 16; with_reducible refine (rright_w (m := m) hb HRL.out A_s c_s A_r c_r _ HS1.out hscs HR1.out hrcr).mono ?_; rintro e x1_ ⟨rfl, hb⟩; have nB := Aside0.mk (HB.out.trans (hb.mono HB.out.size)); clear HB; have HB := nB; clear nB; clear hc_0 hf_0 hc_1 hf_1 hc_2 hf_2 hc_3 hf_3 hc_4 hf_4 hc_5 hf_5 hc_6 hf_6 hc_7 hf_7 hc_8 hf_8; obtain ⟨hc_0, hc_1, hc_2, hc_3, hc_4, hc_5, hc_6, hc_7, hc_8, hf_0, hf_1, hf_2, hf_3, hf_4, hf_5, hf_6, hf_7, hf_8⟩ := cf9 (blk_below BO.out HB.out); clear hb) | ((with_reducible refine gate_dst (N := 16) rfl ?_); refine Kd.R_lit (Kd.int .u8) _ 5 ?hg (N := 16) ?hd (xs := [m.k, m.code, 0, 0]) (inner := [.int .u8 m.k, .int .u8 m.code, .int .u8 0, .int .u8 0]) (ok := fun _ => True) (okp := fun _ => True) ?hr ?hp (fun _ hk => hk) trivial (Below.refl _ _) (Nat.le_refl _) (by simp) ?_; (case hd => rfl); (case hg => rfl); (case hr => first | (go_simp; done) | (go_simp; rfl)); (case hp => exact Reps.one (show Kd.M (Kd.int .u8) _ _ _ _ _ from rfl) (Reps.one (show Kd.M (Kd.int .u8) _ _ _ _ _ from rfl) (Reps.one (show Kd.M (Kd.int .u8) _ _ _ _ _ from rfl) (Reps.one (show Kd.M (Kd.int .u8) _ _ _ _ _ from rfl) (Reps.none _ _))))); intro v_y0 x2_ hR hb hg_ hn_; clear hg_ hn_; obtain ⟨y0, hy_⟩ : ∃ y_, y_ = ([m.k, m.code, 0, 0] : List Int) := ⟨_, rfl⟩; rw [← hy_] at hR; have HY_y0 := Aside0.mk hy_; clear hy_; have HO := Aside0.mk (Kd.R_lower hR HB.out.size); have nB := Aside0.mk (HB.out.trans (hb.mono HB.out.size)); clear HB; have HB := nB; clear nB hR hb; clear hc_0 hf_0 hc_1 hf_1 hc_2 hf_2 hc_3 hf_3 hc_4 hf_4 hc_5 hf_5 hc_6 hf_6 hc_7 hf_7 hc_8 hf_8; obtain ⟨hc_0, hc_1, hc_2, hc_3, hc_4, hc_5, hc_6, hc_7, hc_8, hf_0, hf_1, hf_2, hf_3, hf_4, hf_5, hf_6, hf_7, hf_8⟩ := cf9 (blk_below BO.out HB.out)) | ((with_reducible refine gate_dst (N := 25) rfl ?_); refine Kd.R_lit (Kd.int .u8) _ 5 ?hg (N := 25) ?hd (xs := [0, 0, 0, (m.recs.length : Int) % 256]) (inner := [.int .u8 0, .int .u8 0, .int .u8 0, .int .u8 ((m.recs.length : Int) % 256)]) (ok := fun _ => True) (okp := fun _ => True) ?hr ?hp (fun _ hk => hk) trivial (Below.refl _ _) (Nat.le_refl _) (by simp) ?_; (case hd => rfl); (case hg => rfl); (case hr => first | (go_simp; done) | (go_simp; rfl)); (case hp => exact Reps.one (show Kd.M (Kd.int .u8) _ _ _ _ _ from rfl) (Reps.one (show Kd.M (Kd.int .u8) _ _ _ _ _ from rfl) (Reps.one (show Kd.M (Kd.int .u8) _ _ _ _ _ from rfl) (Reps.one (show Kd.M (Kd.int .u8) _ _ _ _ _ from rfl) (Reps.none _ _))))); intro v_y1 x3_ hR hb hg_ hn_; clear hg_ hn_; obtain ⟨y1, hy_⟩ : ∃ y_, y_ = ([0, 0, 0, (m.recs.length : Int) % 256] : List Int) := ⟨_, rfl⟩; rw [← hy_] at hR; have HY_y1 := Aside0.mk hy_; clear hy_; have hRR := Aside0.mk hR; have nB := Aside0.mk (HB.out.trans (hb.mono HB.out.size)); have nO := Aside0.mk (Kd.R_below HO.out hb); clear HO; have HO := nO; clear nO; clear HB; have HB := nB; clear nB; clear hc_0 hf_0 hc_1 hf_1 hc_2 hf_2 hc_3 hf_3 hc_4 hf_4 hc_5 hf_5 hc_6 hf_6 hc_7 hf_7 hc_8 hf_8; obtain ⟨hc_0, hc_1, hc_2, hc_3, hc_4, hc_5, hc_6, hc_7, hc_8, hf_0, hf_1, hf_2, hf_3, hf_4, hf_5, hf_6, hf_7, hf_8⟩ := cf9 (blk_below BO.out HB.out); obtain ⟨A_y1, c_y1, e_⟩ := Kd.R_slice hRR.out; subst e_; have HC_y1 := Aside0.mk (Kd.R_reads' hRR.out).2.2; clear hR hb hRR) | ((with_reducible refine gate_builtin (b := .append) (xs := #[.tmp 20, .tmp 25]) rfl ?_); at_builtin; refine Kd.R_append_rows (Kd.int .u8) (w0 := w1_) w1_.heap.size rfl (.tmp 20) (.tmp 25) 30 5 (.int .u8 0) 1 rfl Try.underlying30 info5 rfl (by decide) (by omega) v_y0 y0 y1 _ _ _ (fun _ => True) (fun _ => False) rfl rfl HO.out HC_y1.out (fun _ _ h => h) (fun _ h => h.elim) (fun _ _ => trivial) HB.out HB.out.size (by have := HY_y0.out; have := HY_y1.out; subst_vars; simp) ?_; intro v_y2 x4_ hR hB hg_ hat_; clear hg_ hat_ HO HB HC_y1; obtain ⟨y2, hy_⟩ : ∃ y_, y_ = y0 ++ y1 := ⟨_, rfl⟩; rw [← hy_] at hR; have HY_y2 := Aside0.mk hy_; clear hy_; have HO := Aside0.mk hR; have HB := Aside0.mk hB; clear hR hB; clear hc_0 hf_0 hc_1 hf_1 hc_2 hf_2 hc_3 hf_3 hc_4 hf_4 hc_5 hf_5 hc_6 hf_6 hc_7 hf_7 hc_8 hf_8; obtain ⟨hc_0, hc_1, hc_2, hc_3, hc_4, hc_5, hc_6, hc_7, hc_8, hf_0, hf_1, hf_2, hf_3, hf_4, hf_5, hf_6, hf_7, hf_8⟩ := cf9 (blk_below BO.out HB.out)))
  clear hc_0 hf_0 hc_1 hf_1 hc_2 hf_2 hc_3 hf_3 hc_4 hf_4 hc_5 hf_5 hc_6 hf_6 hc_7 hf_7 hc_8 hf_8
  go_loopg [5, 6] m.recs.length (fun gk v5 v6 w' => ∃ (i : Nat), v6 = .int .i64 (i : Int) ∧ Aside0 (i ≤ m.recs.length ∧ gk = m.recs.length - i) ∧ Aside0 (Kd.R (Kd.int .u8) 5 w' w1_.heap.size (fun _ => True) v5 (y2 ++ (m.recs.take i).flatMap rrow)) ∧ Aside0 (Below w1_.heap.size w1_ w'))
  case atStart => exact ⟨0, rfl, ⟨Nat.zero_le _, by omega⟩, ⟨by simpa using HO.out⟩, HB⟩
  case round =>
    clear HO HB
    obtain ⟨i, rfl, HI, HO, HB⟩ := hrel
    obtain ⟨hi, hgk⟩ := HI.out
    obtain ⟨hc_0, hc_1, hc_2, hc_3, hc_4, hc_5, hc_6, hc_7, hc_8, hf_0, hf_1, hf_2, hf_3, hf_4, hf_5, hf_6, hf_7, hf_8⟩ := cf9 (blk_below BO.out HB.out)
    by_cases hlt : i < m.recs.length
    · have c5b0 : decide ((i : Int) < (m.recs.length : Int)) = true := decide_eq_true (by omega)
      have p1 : (0 : Int) ≤ (i : Int) := by omega
      have p2 : (i : Int) < (m.recs.length : Int) := by omega
      obtain ⟨ad, A_x, c_x, he, ex0, ex1, ex2, hxl, hxc⟩ := at_T44 HR1.out (i : Int) p1 p2
      subst he
      obtain ⟨r, hr⟩ : ∃ r_, r_ = rd_T44 m.recs (i : Int) := ⟨_, rfl⟩
      rw [← hr] at ex0 ex1 ex2 hxl hxc
      rw [Int.toNat_natCast] at ex0 ex1 ex2
      have EX_0 := Aside0.mk ex0
      have EX_1 := Aside0.mk ex1
      have EX_2 := Aside0.mk ex2
      have HXC := Aside0.mk hxc
      have HXL := Aside0.mk hxl
      clear ex0 ex1 ex2 hxc hxl
      have HRI := Aside0.mk (show r = m.recs[i] by rw [hr]; unfold rd_T44; rw [Int.toNat_natCast, List.getD_eq_getElem?_getD, List.getElem?_eq_getElem hlt]; rfl)
      have HRM := Aside0.mk (show r ∈ m.recs by rw [HRI.out]; exact List.getElem_mem _)
      clear hr
      have HFL := Aside0.mk (show (y2 ++ (m.recs.take i).flatMap rrow).length + (rrow r).length ≤ 2000000 by
        have h1 := flat_take_len (recs := m.recs) i hlt
        rw [← HRI.out] at h1
        have h2 := mb_max HV.out
        rw [mb_len HV.out] at h2
        rw [List.length_append, HY_y2.out, HY_y1.out, HY_y0.out]
        simp only [List.length_append, List.length_cons, List.length_nil]
        omega)
      have HRO := Aside0.mk (show U8 r.f0 ∧ U32 r.f1 ∧ ∀ a ∈ r.f2, U32 a from HOK.out.recs r HRM.out)
      replace p1 := eq_true p1
      replace p2 := eq_true p2
      have hx_0 := Go.Proofs.YtmmjmncchckbbaaW.PrintWords.cell_kept EX_0.out (Kept.of_below HB.out (fun _ => False)) (fun h => h)
      have hx_1 := Go.Proofs.YtmmjmncchckbbaaW.PrintWords.cell_kept EX_1.out (Kept.of_below HB.out (fun _ => False)) (fun h => h)
      have hx_2 := Go.Proofs.YtmmjmncchckbbaaW.PrintWords.cell_kept EX_2.out (Kept.of_below HB.out (fun _ => False)) (fun h => h)
      go_upto_region 11 with (first | ((with_reducible refine gate_dst (N := 41) rfl ?_); refine Kd.R_lit (Kd.int .u8) _ 5 ?hg (N := 41) ?hd (xs := [r.f0, 0]) (inner := [.int .u8 r.f0, .int .u8 0]) (ok := fun _ => True) (okp := fun _ => True) ?hr ?hp (fun _ hk => hk) trivial (Below.refl _ _) (Nat.le_refl _) (by simp) ?_; (case hd => rfl); (case hg => rfl); (case hr => first | (go_simp; done) | (go_simp; rfl)); (case hp => exact Reps.one (show Kd.M (Kd.int .u8) _ _ _ _ _ from rfl) (Reps.one (show Kd.M (Kd.int .u8) _ _ _ _ _ from rfl) (Reps.none _ _))); intro v_y3 x51_ hR hb hg_ hn_; clear hg_ hn_; obtain ⟨y3, hy_⟩ : ∃ y_, y_ = ([r.f0, 0] : List Int) := ⟨_, rfl⟩; rw [← hy_] at hR; have HY_y3 := Aside0.mk hy_; clear hy_; have hRR := Aside0.mk hR; have nB := Aside0.mk (HB.out.trans (hb.mono HB.out.size)); have nO := Aside0.mk (Kd.R_below HO.out hb); clear HO; have HO := nO; clear nO; clear HB; have HB := nB; clear nB; clear hc_0 hf_0 hc_1 hf_1 hc_2 hf_2 hc_3 hf_3 hc_4 hf_4 hc_5 hf_5 hc_6 hf_6 hc_7 hf_7 hc_8 hf_8; clear hx_0 hx_1 hx_2; obtain ⟨hc_0, hc_1, hc_2, hc_3, hc_4, hc_5, hc_6, hc_7, hc_8, hf_0, hf_1, hf_2, hf_3, hf_4, hf_5, hf_6, hf_7, hf_8⟩ := cf9 (blk_below BO.out HB.out); have hx_0 := Go.Proofs.YtmmjmncchckbbaaW.PrintWords.cell_kept EX_0.out (Kept.of_below HB.out (fun _ => False)) (fun h => h); have hx_1 := Go.Proofs.YtmmjmncchckbbaaW.PrintWords.cell_kept EX_1.out (Kept.of_below HB.out (fun _ => False)) (fun h => h); have hx_2 := Go.Proofs.YtmmjmncchckbbaaW.PrintWords.cell_kept EX_2.out (Kept.of_below HB.out (fun _ => False)) (fun h => h); obtain ⟨A_y3, c_y3, e_⟩ := Kd.R_slice hRR.out; subst e_; have HC_y3 := Aside0.mk (Kd.R_reads' hRR.out).2.2; clear hR hb hRR) | ((with_reducible refine gate_builtin (b := .append) (xs := #[.tmp 34, .tmp 41]) rfl ?_); at_builtin; refine Kd.R_append_rows (Kd.int .u8) (w0 := w1_) w1_.heap.size rfl (.tmp 34) (.tmp 41) 30 5 (.int .u8 0) 1 rfl Try.underlying30 info5 rfl (by decide) (by omega) u5 (y2 ++ (m.recs.take i).flatMap rrow) y3 _ _ _ (fun _ => True) (fun _ => False) rfl rfl HO.out HC_y3.out (fun _ _ h => h) (fun _ h => h.elim) (fun _ _ => trivial) HB.out HB.out.size (by have := HFL.out; have h2 : (rrow r).length = 8 + 4 * r.f2.length := rrow_long r; have h3 := HY_y3.out; subst h3; simp only [List.length_cons, List.length_nil]; omega) ?_; intro v_y4 x52_ hR hB hg_ hat_; clear hg_ hat_ HO HB HC_y3; obtain ⟨y4, hy_⟩ : ∃ y_, y_ = (y2 ++ (m.recs.take i).flatMap rrow) ++ y3 := ⟨_, rfl⟩; rw [← hy_] at hR; have HY_y4 := Aside0.mk hy_; clear hy_; have HO := Aside0.mk hR; have HB := Aside0.mk hB; clear hR hB; clear hc_0 hf_0 hc_1 hf_1 hc_2 hf_2 hc_3 hf_3 hc_4 hf_4 hc_5 hf_5 hc_6 hf_6 hc_7 hf_7 hc_8 hf_8; clear hx_0 hx_1 hx_2; obtain ⟨hc_0, hc_1, hc_2, hc_3, hc_4, hc_5, hc_6, hc_7, hc_8, hf_0, hf_1, hf_2, hf_3, hf_4, hf_5, hf_6, hf_7, hf_8⟩ := cf9 (blk_below BO.out HB.out); have hx_0 := Go.Proofs.YtmmjmncchckbbaaW.PrintWords.cell_kept EX_0.out (Kept.of_below HB.out (fun _ => False)) (fun h => h); have hx_1 := Go.Proofs.YtmmjmncchckbbaaW.PrintWords.cell_kept EX_1.out (Kept.of_below HB.out (fun _ => False)) (fun h => h); have hx_2 := Go.Proofs.YtmmjmncchckbbaaW.PrintWords.cell_kept EX_2.out (Kept.of_below HB.out (fun _ => False)) (fun h => h)))
      refine start_ (n := 16) (S := fun w' => w'.cell? ⟨gm, 0, none⟩ = some (.int .u8 m.k) ∧ w'.cell? ⟨gm, 1, none⟩ = some (.int .i64 m.ver) ∧ w'.cell? ⟨gm, 2, none⟩ = some (.int .u8 m.code) ∧ w'.cell? ⟨gm, 3, none⟩ = some (.int .u32 m.grp) ∧ w'.cell? ⟨gm, 4, none⟩ = some (.bool m.quiet) ∧ w'.cell? ⟨gm, 5, none⟩ = some (.int .u8 m.rob) ∧ w'.cell? ⟨gm, 6, none⟩ = some (.int .u8 m.every) ∧ w'.cell? ⟨gm, 7, none⟩ = some (.slice A_s m.srcs.length c_s) ∧ w'.cell? ⟨gm, 8, none⟩ = some (.slice (some ad) m.recs.length c_r) ∧ w'.cell? (ad.add (i * 3)) = some (.int .u8 r.f0) ∧ w'.cell? ⟨(ad.add (i * 3)).block, (ad.add (i * 3)).off + 1, none⟩ = some (.int .u32 r.f1) ∧ w'.cell? ⟨(ad.add (i * 3)).block, (ad.add (i * 3)).off + 2, none⟩ = some (.slice A_x r.f2.length c_x)) (ds := []) #[false, false, false, false, false, false, false, false, false, false, false, false, false, false, false, false] (by kernel_rfl) rfl rfl ⟨hc_0, hc_1, hc_2, hc_3, hc_4, hc_5, hc_6, hc_7, hc_8, hx_0, hx_1, hx_2⟩ (fun hHeld => ?_); refine with_tabW renc_t11 renc_b11 (fun HT_ HW_ => ?_)
      have hb : Below x52_.heap.size x52_ x52_.drew := below_drew (Below.refl _ _)
      generalize x52_.drew = x53_ at hb hHeld ⊢
      have nB := Aside0.mk (HB.out.trans (hb.mono HB.out.size))
      have nO := Aside0.mk (Kd.R_below HO.out hb)
      clear HO
      have HO := nO
      clear nO
      clear HB
      have HB := nB
      clear nB
      clear hc_0 hf_0 hc_1 hf_1 hc_2 hf_2 hc_3 hf_3 hc_4 hf_4 hc_5 hf_5 hc_6 hf_6 hc_7 hf_7 hc_8 hf_8
      clear hx_0 hx_1 hx_2
      obtain ⟨hc_0, hc_1, hc_2, hc_3, hc_4, hc_5, hc_6, hc_7, hc_8, hf_0, hf_1, hf_2, hf_3, hf_4, hf_5, hf_6, hf_7, hf_8⟩ := cf9 (blk_below BO.out HB.out)
      have hx_0 := Go.Proofs.YtmmjmncchckbbaaW.PrintWords.cell_kept EX_0.out (Kept.of_below HB.out (fun _ => False)) (fun h => h)
      have hx_1 := Go.Proofs.YtmmjmncchckbbaaW.PrintWords.cell_kept EX_1.out (Kept.of_below HB.out (fun _ => False)) (fun h => h)
      have hx_2 := Go.Proofs.YtmmjmncchckbbaaW.PrintWords.cell_kept EX_2.out (Kept.of_below HB.out (fun _ => False)) (fun h => h)
      clear hb
      refine pure_ (i := 0) (N := some 43) (v := ?_) (a' := ?_) #[true, false, false, false, false, false, false, false, false, false, false, false, false, false, false, false] rfl rfl (any_of HT_.out (by kernel_rfl)) (fun _ _ _ h => h) (Or.inl ⟨by rfl, ?_⟩) ?_ ?_
      rotate_left
      · intro w'
        go_simp
        with_reducible rfl
      rotate_left
      · simp only [Act.put, List.setIfInBounds_toArray, List.set_cons_zero, List.set_cons_succ, i64_w, i32_w]
        rfl
      refine pure_ (i := 1) (N := some 44) (v := ?_) (a' := ?_) #[true, true, false, false, false, false, false, false, false, false, false, false, false, false, false, false] rfl rfl (any_of HT_.out (by kernel_rfl)) (fun _ _ _ h => h) (Or.inl ⟨by rfl, ?_⟩) ?_ ?_
      rotate_left
      · intro w'
        go_simp
        with_reducible rfl
      rotate_left
      · simp only [Act.put, List.setIfInBounds_toArray, List.set_cons_zero, List.set_cons_succ, i64_w, i32_w]
        rfl
      refine take_ (i := 2) (N := some 45) (v := ?_) (a' := ?_) #[true, true, true, false, false, false, false, false, false, false, false, false, false, false, false, false] rfl rfl (take_ofW HT_.out HW_.out (by kernel_rfl)) (fun _ _ _ h => h) (Or.inl ⟨by rfl, ?_⟩) hHeld ?_ ?_
      rotate_left
      · rintro w' ⟨s0, s1, s2, s3, s4, s5, s6, s7, s8, s9, s10, s11⟩
        go_simp
        with_reducible rfl
      rotate_left
      · simp only [Act.put, List.setIfInBounds_toArray, List.set_cons_zero, List.set_cons_succ, i64_w, i32_w]
        rfl
      refine pure_ (i := 3) (N := some 46) (v := ?_) (a' := ?_) #[true, true, true, true, false, false, false, false, false, false, false, false, false, false, false, false] rfl rfl (any_of HT_.out (by kernel_rfl)) (fun _ _ _ h => h) (Or.inl ⟨by rfl, ?_⟩) ?_ ?_
      rotate_left
      · intro w'
        go_simp
        with_reducible rfl
      rotate_left
      · simp only [Act.put, List.setIfInBounds_toArray, List.set_cons_zero, List.set_cons_succ, i64_w, i32_w]
        rfl
      refine pure_ (i := 4) (N := some 47) (v := ?_) (a' := ?_) #[true, true, true, true, true, false, false, false, false, false, false, false, false, false, false, false] rfl rfl (any_of HT_.out (by kernel_rfl)) (fun _ _ _ h => h) (Or.inl ⟨by rfl, ?_⟩) ?_ ?_
      rotate_left
      · intro w'
        go_simp
        with_reducible rfl
      rotate_left
      · simp only [Act.put, List.setIfInBounds_toArray, List.set_cons_zero, List.set_cons_succ, i64_w, i32_w]
        rfl
      refine pure_ (i := 5) (N := some 48) (v := ?_) (a' := ?_) #[true, true, true, true, true, true, false, false, false, false, false, false, false, false, false, false] rfl rfl (any_of HT_.out (by kernel_rfl)) (fun _ _ _ h => h) (Or.inl ⟨by rfl, ?_⟩) ?_ ?_
      rotate_left
      · intro w'
        go_simp
        with_reducible rfl
      rotate_left
      · simp only [Act.put, List.setIfInBounds_toArray, List.set_cons_zero, List.set_cons_succ, i64_w, i32_w]
        rfl
      refine take_ (i := 6) (N := some 49) (v := ?_) (a' := ?_) #[true, true, true, true, true, true, true, false, false, false, false, false, false, false, false, false] rfl rfl (take_ofW HT_.out HW_.out (by kernel_rfl)) (fun _ _ _ h => h) (Or.inl ⟨by rfl, ?_⟩) hHeld ?_ ?_
      rotate_left
      · rintro w' ⟨s0, s1, s2, s3, s4, s5, s6, s7, s8, s9, s10, s11⟩
        go_simp
        with_reducible rfl
      rotate_left
      · simp only [Act.put, List.setIfInBounds_toArray, List.set_cons_zero, List.set_cons_succ, i64_w, i32_w]
        rfl
      refine pure_ (i := 8) (N := some 51) (v := ?_) (a' := ?_) #[true, true, true, true, true, true, true, false, true, false, false, false, false, false, false, false] rfl rfl (any_of HT_.out (by kernel_rfl)) (fun _ _ _ h => h) (Or.inl ⟨by rfl, ?_⟩) ?_ ?_
      rotate_left
      · intro w'
        go_simp
        with_reducible rfl
      rotate_left
      · simp only [Act.put, List.setIfInBounds_toArray, List.set_cons_zero, List.set_cons_succ, i64_w, i32_w]
        rfl
      refine take_ (i := 9) (N := some 52) (v := ?_) (a' := ?_) #[true, true, true, true, true, true, true, false, true, true, false, false, false, false, false, false] rfl rfl (take_ofW HT_.out HW_.out (by kernel_rfl)) (fun _ _ _ h => h) (Or.inl ⟨by rfl, ?_⟩) hHeld ?_ ?_
      rotate_left
      · rintro w' ⟨s0, s1, s2, s3, s4, s5, s6, s7, s8, s9, s10, s11⟩
        go_simp
        with_reducible rfl
      rotate_left
      · simp only [Act.put, List.setIfInBounds_toArray, List.set_cons_zero, List.set_cons_succ, i64_w, i32_w]
        rfl
      refine pure_ (i := 10) (N := some 53) (v := ?_) (a' := ?_) #[true, true, true, true, true, true, true, false, true, true, true, false, false, false, false, false] rfl rfl (any_of HT_.out (by kernel_rfl)) (fun _ _ _ h => h) (Or.inl ⟨by rfl, ?_⟩) ?_ ?_
      rotate_left
      · intro w'
        go_simp
        with_reducible rfl
      rotate_left
      · simp only [Act.put, List.setIfInBounds_toArray, List.set_cons_zero, List.set_cons_succ, i64_w, i32_w]
        rfl
      refine pure_ (i := 11) (N := some 54) (v := ?_) (a' := ?_) #[true, true, true, true, true, true, true, false, true, true, true, true, false, false, false, false] rfl rfl (any_of HT_.out (by kernel_rfl)) (fun _ _ _ h => h) (Or.inl ⟨by rfl, ?_⟩) ?_ ?_
      rotate_left
      · intro w'
        go_simp
        with_reducible rfl
      rotate_left
      · simp only [Act.put, List.setIfInBounds_toArray, List.set_cons_zero, List.set_cons_succ, i64_w, i32_w]
        rfl
      refine pure_ (i := 12) (N := some 55) (v := ?_) (a' := ?_) #[true, true, true, true, true, true, true, false, true, true, true, true, true, false, false, false] rfl rfl (any_of HT_.out (by kernel_rfl)) (fun _ _ _ h => h) (Or.inl ⟨by rfl, ?_⟩) ?_ ?_
      rotate_left
      · intro w'
        go_simp
        with_reducible rfl
      rotate_left
      · simp only [Act.put, List.setIfInBounds_toArray, List.set_cons_zero, List.set_cons_succ, i64_w, i32_w]
        rfl
      refine take_ (i := 13) (N := some 56) (v := ?_) (a' := ?_) #[true, true, true, true, true, true, true, false, true, true, true, true, true, true, false, false] rfl rfl (take_ofW HT_.out HW_.out (by kernel_rfl)) (fun _ _ _ h => h) (Or.inl ⟨by rfl, ?_⟩) hHeld ?_ ?_
      rotate_left
      · rintro w' ⟨s0, s1, s2, s3, s4, s5, s6, s7, s8, s9, s10, s11⟩
        go_simp
        with_reducible rfl
      rotate_left
      · simp only [Act.put, List.setIfInBounds_toArray, List.set_cons_zero, List.set_cons_succ, i64_w, i32_w]
        rfl
      refine one_ (i := 7) (N := some 50) #[true, true, true, true, true, true, true, true, true, true, true, true, true, true, false, false] rfl rfl (one_of HT_.out (by kernel_rfl)) (by decide) (fun K hK => ?_)
      refine goes_ Try.func28 (by kernel_rfl) rfl #[.int .u32 r.f1] (by rfl) rfl rfl (by (try simp only [List.map_toArray, List.map_cons, List.map_nil]); first | done | rfl | (simp only [List.length_drop, List.length_take]; rfl)) ?_
      with_reducible refine (stolonref01_Bytes.calls r.f1 (ab r.f1) _ (refBytes_some HRO.out.2.1)).mono ?_
      rintro e x54_ ⟨v_gx, rfl, hR, hb⟩
      refine ⟨_, rfl, ?_⟩
      have hRR := Aside0.mk (Kd.R_lower hR HB.out.size)
      have nE := Aside0.mk (Kd.R_elder' HO.out (Kd.R_base hR) hb)
      have nB := Aside0.mk (HB.out.trans (hb.mono HB.out.size))
      have nO := Aside0.mk (Kd.R_below HO.out hb)
      clear HO
      have HO := nO
      clear nO
      clear HB
      have HB := nB
      clear nB
      clear hc_0 hf_0 hc_1 hf_1 hc_2 hf_2 hc_3 hf_3 hc_4 hf_4 hc_5 hf_5 hc_6 hf_6 hc_7 hf_7 hc_8 hf_8
      clear hx_0 hx_1 hx_2
      obtain ⟨hc_0, hc_1, hc_2, hc_3, hc_4, hc_5, hc_6, hc_7, hc_8, hf_0, hf_1, hf_2, hf_3, hf_4, hf_5, hf_6, hf_7, hf_8⟩ := cf9 (blk_below BO.out HB.out)
      have hx_0 := Go.Proofs.YtmmjmncchckbbaaW.PrintWords.cell_kept EX_0.out (Kept.of_below HB.out (fun _ => False)) (fun h => h)
      have hx_1 := Go.Proofs.YtmmjmncchckbbaaW.PrintWords.cell_kept EX_1.out (Kept.of_below HB.out (fun _ => False)) (fun h => h)
      have hx_2 := Go.Proofs.YtmmjmncchckbbaaW.PrintWords.cell_kept EX_2.out (Kept.of_below HB.out (fun _ => False)) (fun h => h)
      obtain ⟨A_gx, c_gx, e_⟩ := Kd.R_slice hRR.out
      subst e_
      have HC_gx := Aside0.mk (Kd.R_reads' hRR.out).2.2
      have HRG := Aside0.mk hRR.out
      have HOG := Aside0.mk nE.out
      clear hR hb hRR nE
      refine hK.out _ _ ⟨hc_0, hc_1, hc_2, hc_3, hc_4, hc_5, hc_6, hc_7, hc_8, hx_0, hx_1, hx_2⟩ (fun hHeld => ?_)
      clear hK K
      refine norm_ (a' := ?_) ?_ ?_
      rotate_left
      · show Act.put _ (some 50) _ = _
        simp only [Act.put, List.setIfInBounds_toArray, List.set_cons_zero, List.set_cons_succ, i64_w, i32_w]
        rfl
      refine one_ (i := 14) (N := some 57) #[true, true, true, true, true, true, true, true, true, true, true, true, true, true, true, false] rfl rfl (one_of HT_.out (by kernel_rfl)) (by decide) (fun K hK => ?_)
      refine goes_ Try.func27 (by kernel_rfl) rfl #[v_y4, .slice A_gx (ab r.f1).length c_gx, .slice A_x r.f2.length c_x] (by rfl) rfl rfl (by (try simp only [List.map_toArray, List.map_cons, List.map_nil]); first | done | rfl | (simp only [List.length_drop, List.length_take]; rfl)) ?_
      with_reducible refine (rowsg_w w1_ _ HB.out HOG.out HRG.out HXC.out HXL.out HRO.out.2.2 (by have := HSL.out.2 r HRM.out; omega) (by have := HFL.out; have h2 : (rrow r).length = 8 + 4 * r.f2.length := rrow_long r; have h3 := HY_y3.out; have h4 := HY_y4.out; subst h3; subst h4; simp only [List.length_append, ab, List.length_cons, List.length_nil] at *; omega)).mono ?_
      rintro e x55_ ⟨v_y5, rfl, hR, hB⟩
      refine ⟨_, rfl, ?_⟩
      obtain ⟨y5, hy_⟩ : ∃ y_, y_ = y4 ++ wrow (ab r.f1) r.f2 := ⟨_, rfl⟩
      rw [← hy_] at hR
      have HY_y5 := Aside0.mk hy_
      clear HO HB hy_
      have HO := Aside0.mk hR
      have HB := Aside0.mk hB
      clear hR hB
      clear hc_0 hf_0 hc_1 hf_1 hc_2 hf_2 hc_3 hf_3 hc_4 hf_4 hc_5 hf_5 hc_6 hf_6 hc_7 hf_7 hc_8 hf_8
      clear hx_0 hx_1 hx_2
      obtain ⟨hc_0, hc_1, hc_2, hc_3, hc_4, hc_5, hc_6, hc_7, hc_8, hf_0, hf_1, hf_2, hf_3, hf_4, hf_5, hf_6, hf_7, hf_8⟩ := cf9 (blk_below BO.out HB.out)
      have hx_0 := Go.Proofs.YtmmjmncchckbbaaW.PrintWords.cell_kept EX_0.out (Kept.of_below HB.out (fun _ => False)) (fun h => h)
      have hx_1 := Go.Proofs.YtmmjmncchckbbaaW.PrintWords.cell_kept EX_1.out (Kept.of_below HB.out (fun _ => False)) (fun h => h)
      have hx_2 := Go.Proofs.YtmmjmncchckbbaaW.PrintWords.cell_kept EX_2.out (Kept.of_below HB.out (fun _ => False)) (fun h => h)
      refine hK.out _ _ ⟨hc_0, hc_1, hc_2, hc_3, hc_4, hc_5, hc_6, hc_7, hc_8, hx_0, hx_1, hx_2⟩ (fun hHeld => ?_)
      clear hK K
      refine norm_ (a' := ?_) ?_ ?_
      rotate_left
      · show Act.put _ (some 57) _ = _
        simp only [Act.put, List.setIfInBounds_toArray, List.set_cons_zero, List.set_cons_succ, i64_w, i32_w]
        rfl
      refine pure_ (i := 15) (N := some 5) (v := ?_) (a' := ?_) #[true, true, true, true, true, true, true, true, true, true, true, true, true, true, true, true] rfl rfl (any_of HT_.out (by kernel_rfl)) (fun _ _ _ h => h) (Or.inl ⟨by rfl, ?_⟩) ?_ ?_
      rotate_left
      · intro w'
        go_simp
        with_reducible rfl
      rotate_left
      · simp only [Act.put, List.setIfInBounds_toArray, List.set_cons_zero, List.set_cons_succ, i64_w, i32_w]
        rfl
      refine done_ (done_of HT_.out (by kernel_rfl)) ?_
      go_wp2
      go_roundg (m.recs.length - (i + 1))
      case measure => omega
      case rel =>
        refine ⟨i + 1, ?_, ⟨by omega, rfl⟩, ⟨?_⟩, HB⟩
        · show Value.int .i64 (wrap64 ((i : Int) + 1)) = _
          have h1 := HR32.out
          rw [wr64 (by omega) (by omega)]
          rfl
        · have h6 := HO.out
          have h7 : (m.recs.take (i + 1)).flatMap rrow = (m.recs.take i).flatMap rrow ++ rrow r := by rw [← List.take_append_getElem hlt, List.flatMap_append, ← HRI.out]; simp
          rw [HY_y5.out, HY_y4.out, HY_y3.out] at h6
          rw [h7]
          simpa only [rrow, List.append_assoc] using h6
    · have c5b0 : decide ((i : Int) < (m.recs.length : Int)) = false := decide_eq_false (by omega)
      go_upto_region 19 with fail
      obtain rfl : i = m.recs.length := by omega
      obtain ⟨y6, hy_⟩ : ∃ y_, y_ = y2 ++ (m.recs.take m.recs.length).flatMap rrow := ⟨_, rfl⟩
      rw [← hy_] at HO
      have HY_y6 := Aside0.mk hy_
      clear hy_
      obtain ⟨A_z, c_z, e_⟩ := Kd.R_slice HO.out
      subst e_
      have HZ := Aside0.mk (show y6 = mb m by rw [HY_y6.out, HY_y2.out, HY_y1.out, HY_y0.out, List.take_length, mb_eq, Msg.tail, if_pos HKK.out, if_neg HVV.out, List.append_nil]; simp)
      have HZL := Aside0.mk (show 8 ≤ y6.length ∧ y6.length ≤ 10000 by rw [HZ.out]; exact ⟨mb_8 HV.out, mb_max HV.out⟩)
      go_wp2_with (first | (go_at_call 29; with_reducible refine (rput_w _ (by rw [HZ.out]; exact mb_byt HOK.out) (by have := HZL.out; omega) (by have := HZL.out; omega) (Kd.R_reads' HO.out).2.2 (Kd.R_reads' HO.out).2.1).mono ?_; rintro e wz_ ⟨v_p, rfl, hR, hb⟩; have HRP := Aside0.mk hR; have HBP := Aside0.mk hb; clear hR hb))
      go_ret2
      have hbb := HB1.out.trans (HB.out.mono HB1.out.size)
      exact ⟨_, rfl, by have h := HRP.out; rw [HZ.out] at h; exact Kd.R_lower h hbb.size, hbb.trans (HBP.out.mono hbb.size)⟩
end Go.Proofs.Ytmmjmncchckbbaa
/-
  Which messages are the same by the document's answer: in plain words.
-/
namespace Go.Proofs.Ytmmjmncchckbbaa
open Go.RowKit Go.Proofs.YtmmjmncchckbbaaW.PrintWords Go.Proofs.Ytmmjmncchckbbaa.PIg
set_option linter.unusedVariables false
set_option linter.unusedSimpArgs false
theorem rows_l0 (x y : List Int) (hxy : x.length = y.length) (hm : x.length ≤ 1000000) : ∀ (d i k : Nat), i + d = x.length → d < k → stolonref01_Rows.l0 k x y (i : Int) = some (decide (x.drop i = y.drop i))
  | 0, i, k + 1, h, _ => by
    unfold stolonref01_Rows.l0
    rw [if_neg (by omega), List.drop_eq_nil_of_le (by omega), List.drop_eq_nil_of_le (by omega)]; rfl
  | d + 1, i, k + 1, h, hk => by
    unfold stolonref01_Rows.l0
    rw [if_pos (by omega), if_pos (by omega), if_pos (by omega), rd_get (by omega), rd_get (by omega : i < y.length), wr1 (by omega), rows_l0 x y hxy hm d (i + 1) k (by omega) (by omega),
      List.drop_eq_getElem_cons (by omega : i < x.length), List.drop_eq_getElem_cons (by omega : i < y.length)]
    by_cases he : x[i]'(by omega) = y[i]'(by omega)
    · rw [if_pos he]; exact congrArg some (decide_eq_decide.2 ⟨fun h => by rw [he, h], fun h => (List.cons.inj h).2⟩)
    · rw [if_neg he, decide_eq_false (fun h => he (List.cons.inj h).1)]
theorem rows_some {k : Nat} {x y : List Int} (hm : x.length ≤ 1000000) (hk : x.length < k) : stolonref01_Rows.f k x y = some (decide (x = y)) := by
  unfold stolonref01_Rows.f
  by_cases h : x.length = y.length
  · rw [if_pos (by omega)]
    have := rows_l0 x y h hm x.length 0 k (by omega) hk
    simpa using this
  · rw [if_neg (by omega), decide_eq_false (fun e => h (by rw [e]))]
theorem rec1_some {k : Nat} {a b : S44} (hm : a.f2.length ≤ 1000000) (hk : a.f2.length < k) : stolonref05_Rec.f k a.f0 a.f1 a.f2 b.f0 b.f1 b.f2 = some (decide (a = b)) := by
  obtain ⟨a0, a1, a2⟩ := a
  obtain ⟨b0, b1, b2⟩ := b
  unfold stolonref05_Rec.f
  rw [rows_some hm hk]
  by_cases h0 : a0 = b0
  · by_cases h1 : a1 = b1
    · simp [h0, h1]
    · simp [h0, h1]
  · simp [h0]
theorem recs_l0 (x y : List S44) (hxy : x.length = y.length) (hm : recK x ≤ 1000000) : ∀ (d i k : Nat), i + d = x.length → d + recK x < k → stolonref05_Recs.l0 k x y (i : Int) = some (decide (x.drop i = y.drop i))
  | 0, i, k + 1, h, _ => by
    unfold stolonref05_Recs.l0
    rw [if_neg (by omega), List.drop_eq_nil_of_le (by omega), List.drop_eq_nil_of_le (by omega)]; rfl
  | d + 1, i, k + 1, h, hk => by
    have hi : i < x.length := by omega
    have hr := recK_mem (List.getElem_mem hi)
    unfold stolonref05_Recs.l0
    rw [if_pos (by omega), if_pos (by omega), if_pos (by omega), rd44_get hi, rd44_get (by omega : i < y.length), rec1_some (by omega) (by omega)]
    simp only [Option.bind_some]
    rw [wr1 (by have : x.length ≤ recK x := by unfold recK; omega
                omega), recs_l0 x y hxy hm d (i + 1) k (by omega) (by omega),
      List.drop_eq_getElem_cons hi, List.drop_eq_getElem_cons (by omega : i < y.length)]
    by_cases he : x[i]'hi = y[i]'(by omega)
    · rw [decide_eq_true he, if_pos rfl]; exact congrArg some (decide_eq_decide.2 ⟨fun h => by rw [he, h], fun h => (List.cons.inj h).2⟩)
    · rw [decide_eq_false he, if_neg (by decide), decide_eq_false (fun h => he (List.cons.inj h).1)]
theorem recs_some {k : Nat} {x y : List S44} (hm : recK x ≤ 1000000) (hk : x.length + recK x < k) : stolonref05_Recs.f k x y = some (decide (x = y)) := by
  unfold stolonref05_Recs.f
  by_cases h : x.length = y.length
  · rw [if_pos (by omega)]
    have := recs_l0 x y h hm x.length 0 k (by omega) hk
    simpa using this
  · rw [if_neg (by omega), decide_eq_false (fun e => h (by rw [e]))]
theorem refSame_some {K : Nat} (m n : Msg) (hm : m.size ≤ 1000000) (hk : m.size < K) :
    stolonref05_Same.f K m.k m.ver m.code m.grp m.quiet m.rob m.every m.srcs m.recs n.k n.ver n.code n.grp n.quiet n.rob n.every n.srcs n.recs = some (decide (m = n)) := by
  have hrl : m.recs.length ≤ recK m.recs := by unfold recK; omega
  have hsz : m.size = m.srcs.length + 2 * recK m.recs := rfl
  obtain ⟨a0, a1, a2, a3, a4, a5, a6, a7, a8⟩ := m
  obtain ⟨b0, b1, b2, b3, b4, b5, b6, b7, b8⟩ := n
  simp only at *
  unfold stolonref05_Same.f
  rw [rows_some (by omega) (by omega), recs_some (by omega) (by omega)]
  simp only [Msg.mk.injEq]
  by_cases h0 : a0 = b0
  · by_cases h1 : a1 = b1
    · by_cases h2 : a2 = b2
      · by_cases h3 : a3 = b3
        · by_cases h4 : a4 = b4
          · by_cases h5 : a5 = b5
            · by_cases h6 : a6 = b6
              · by_cases h7 : a7 = b7 <;> simp [*]
              · simp [*]
            · simp [*]
          · have : (a4 == b4) = false := by simp [h4]
            simp [*]
        · simp [*]
      · simp [*]
    · simp [*]
  · simp [*]
end Go.Proofs.Ytmmjmncchckbbaa
/-
  Contracts over messages: the same by the document.
-/
namespace Go.Proofs.Ytmmjmncchckbbaa
open Go.RowKit Go.Proofs.YtmmjmncchckbbaaW.PrintWords Go.Proofs.YtmmjmncchckbbaaW.PrintLast Go.Proofs.YtmmjmncchckbbaaW.PrintMore Go.Proofs.Ytmmjmncchckbbaa.PIg
set_option linter.unusedVariables false
set_option linter.unusedSimpArgs false
theorem rsame_w {m n : Msg} {b : Bool} (hb : decide (m = n) = b) (hl : m.size ≤ 1000000) (A_s : Option Addr) (c_s : Nat) (A_r : Option Addr) (c_r : Nat) (B_s : Option Addr) (d_s : Nat) (B_r : Option Addr) (d_r : Nat) (w : World) (hss : Kd.C (Kd.int .u32) w A_s m.srcs.length m.srcs) (hscs : m.srcs.length ≤ c_s) (hrr : Kd.C k44 w A_r m.recs.length m.recs) (hrcr : m.recs.length ≤ c_r) (hss2 : Kd.C (Kd.int .u32) w B_s n.srcs.length n.srcs) (hscs2 : n.srcs.length ≤ d_s) (hrr2 : Kd.C k44 w B_r n.recs.length n.recs) (hrcr2 : n.recs.length ≤ d_r) : Calls Try.prog 19 #[.agg #[.int .u8 m.k, .int .i64 m.ver, .int .u8 m.code, .int .u32 m.grp, .bool m.quiet, .int .u8 m.rob, .int .u8 m.every, .slice A_s m.srcs.length c_s, .slice A_r m.recs.length c_r], .agg #[.int .u8 n.k, .int .i64 n.ver, .int .u8 n.code, .int .u32 n.grp, .bool n.quiet, .int .u8 n.rob, .int .u8 n.every, .slice B_s n.srcs.length d_s, .slice B_r n.recs.length d_r]] w fun e w' => e = .returned (.bool b) ∧ Below w.heap.size w w' :=
  stolonref05_Same.calls (m.size + 1) m.k m.ver m.code m.grp m.quiet m.rob m.every A_s c_s m.srcs A_r c_r m.recs n.k n.ver n.code n.grp n.quiet n.rob n.every B_s d_s n.srcs B_r d_r n.recs b w hss hscs hrr hrcr hss2 hscs2 hrr2 hrcr2 (by rw [refSame_some m n hl (Nat.lt_succ_self _), hb])
end Go.Proofs.Ytmmjmncchckbbaa
