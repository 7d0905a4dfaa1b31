/-
  Which messages are right by the document's answer: in plain words.
-/
import Derived.Test.YtmmjmncchckbbaaIgX
import Derived.Test.YtmmjmncchckbbaaPIgx5
import Derived.Test.YtmmjmncchckbbaaIgC
namespace Go.Proofs.Ytmmjmncchckbbaa
open Go.RowKit Go.Proofs.YtmmjmncchckbbaaW.PrintWords Go.Proofs.Ytmmjmncchckbbaa.PIg
set_option linter.unusedVariables false
set_option linter.unusedSimpArgs false
theorem rr_l0 (x : List S44) (hx : x.length ≤ 1000000) (a b c e : Int) (q : Bool) (f g : Int) (s : List Int) : ∀ (d i k : Nat), i + d = x.length → d < k → stolonref05_Right.l0 k (i : Int) a b c e q f g s x = some ((x.drop i).all recB)
  | 0, i, k + 1, h, _ => by
    unfold stolonref05_Right.l0
    rw [if_neg (by omega), List.drop_eq_nil_of_le (by omega)]; rfl
  | d + 1, i, k + 1, h, hk => by
    have hi : i < x.length := by omega
    unfold stolonref05_Right.l0
    rw [if_pos (by omega), if_pos (by omega), rd44_get hi, refAsked_some, List.drop_eq_getElem_cons hi, List.all_cons]
    simp only [Option.bind_some]
    unfold recB
    by_cases h1 : x[i].f0 < 1
    · rw [if_pos h1, decide_eq_false (show ¬ 1 ≤ x[i].f0 by omega)]; simp
    rw [if_neg h1, decide_eq_true (show 1 ≤ x[i].f0 by omega)]
    by_cases h6 : x[i].f0 > 6
    · rw [if_pos h6, decide_eq_false (show ¬ x[i].f0 ≤ 6 by omega)]; simp
    rw [if_neg h6, decide_eq_true (show x[i].f0 ≤ 6 by omega)]
    cases ha : askB x[i].f1
    · simp
    rw [if_pos rfl]
    by_cases hl : (x[i].f2.length : Int) > 64
    · rw [if_pos hl, decide_eq_false (show ¬ x[i].f2.length ≤ 64 by omega)]; simp
    rw [if_neg hl, decide_eq_true (show x[i].f2.length ≤ 64 by omega), wr1 (by omega), rr_l0 x hx a b c e q f g s d (i + 1) k (by omega) (by omega)]
    simp only [Bool.true_and]; rfl
theorem refRight_some {k : Nat} (m : Msg) (hl : m.recs.length ≤ 1000000) (hk : m.recs.length + 3 < k) :
    stolonref05_Right.f k m.k m.ver m.code m.grp m.quiet m.rob m.every m.srcs m.recs = some (rightB m) := by
  obtain ⟨k, rfl⟩ : ∃ k', k = k' + 3 := ⟨k - 3, by omega⟩
  obtain ⟨kd, ver, code, grp, quiet, rob, every, srcs, recs⟩ := m
  simp only at hl hk ⊢
  have main : ∀ B : Bool, (B = true ↔ quiet = false ∧ rob = 0 ∧ every = 0 ∧ srcs = []) → stolonref05_Right.j0 (k + 3) B kd ver code grp quiet rob every srcs recs = some (rightB ⟨kd, ver, code, grp, quiet, rob, every, srcs, recs⟩) := by
    intro B hB
    have hB' : B = decide (quiet = false ∧ rob = 0 ∧ every = 0 ∧ srcs = []) := by
      cases B
      · simp only [Bool.false_eq_true, false_iff] at hB; simp only [hB, decide_false]
      · simp only [true_iff] at hB; simp only [hB, and_self, decide_true]
    rw [stolonref05_Right.j0, refAsked_some]
    simp only [Option.bind_some]
    unfold rightB
    dsimp only
    by_cases h34 : kd = 34
    · subst h34
      rw [if_pos (rfl : (34 : Int) = 34), if_neg (show ¬ (34 : Int) = 17 by decide), if_neg (show ¬ ((34 : Int) = 18 ∨ (34 : Int) = 22 ∨ (34 : Int) = 23) by decide), if_pos (rfl : (34 : Int) = 34)]
      have t : stolonref05_Right.j1 (k + 2) true 34 ver code grp quiet rob every srcs recs = some false := by rw [stolonref05_Right.j1]; rfl
      by_cases hb : B = true
      · rw [if_pos hb]
        obtain ⟨rfl, rfl, rfl, rfl⟩ := hB.1 hb
        by_cases h1 : ver = 0
        · rw [if_pos h1]
          by_cases h2 : code = 0
          · rw [if_pos h2]
            by_cases h3 : grp = 0
            · rw [if_pos h3, stolonref05_Right.j1]
              subst h1 h2 h3
              by_cases h4 : (recs.length : Int) > 32
              · rw [decide_eq_true h4, if_pos rfl]; simp; omega
              · rw [decide_eq_false h4, if_neg (by decide)]
                have := rr_l0 recs hl 34 0 0 0 false 0 0 [] recs.length 0 (k + 1) (by omega) (by omega)
                rw [show stolonref05_Right.l0 (k + 1) 0 34 0 0 0 false 0 0 [] recs = _ from this]
                simp; omega
            · rw [if_neg h3, t]; simp [h3]
          · rw [if_neg h2, t]; simp [h2]
        · rw [if_neg h1, t]; simp [h1]
      · rw [if_neg hb, t]
        have hb' : ¬ (quiet = false ∧ rob = 0 ∧ every = 0 ∧ srcs = []) := fun h => hb (hB.2 h)
        have : ¬ ((⟨34, ver, code, grp, quiet, rob, every, srcs, recs⟩ : Msg) = ⟨34, 0, 0, 0, false, 0, 0, [], recs⟩) := fun h => by
          injection h with _ _ _ _ a b c d
          exact hb' ⟨a, b, c, d⟩
        rw [decide_eq_false this]; simp
    · rw [if_neg h34]
      by_cases hr : (recs.length : Int) > 0
      · rw [if_pos hr]
        have hne : recs ≠ [] := fun h => by rw [h] at hr; simp at hr
        by_cases h17 : kd = 17
        · rw [if_pos h17]
          unfold queryB
          dsimp only
          simp [hne]
        · rw [if_neg h17]
          by_cases hp : kd = 18 ∨ kd = 22 ∨ kd = 23
          · rw [if_pos hp]; simp [hne]
          · rw [if_neg hp, if_neg h34]
      · rw [if_neg hr]
        obtain rfl : recs = [] := List.length_eq_zero_iff.1 (by omega)
        have j3 : ∀ P : Bool, (P = true ↔ (kd = 18 ∨ kd = 22 ∨ kd = 23)) → stolonref05_Right.j3 (k + 2) B (askB grp) P kd ver code grp quiet rob every srcs [] = some (rightB ⟨kd, ver, code, grp, quiet, rob, every, srcs, []⟩) := by
          intro P hP
          rw [stolonref05_Right.j3]
          unfold rightB
          dsimp only
          by_cases hp : P = true
          · have hp' := hP.1 hp
            rw [if_pos hp, if_neg (show ¬ kd = 17 by omega), if_pos hp']
            by_cases hb : B = true
            · rw [if_pos hb]
              obtain ⟨rfl, rfl, rfl, rfl⟩ := hB.1 hb
              by_cases h1 : ver = 0
              · rw [if_pos h1]
                by_cases h2 : code = 0
                · rw [if_pos h2]; simp [h1, h2]
                · rw [if_neg h2]; simp [h2]
              · rw [if_neg h1]; simp [h1]
            · rw [if_neg hb]
              have hb' : ¬ (quiet = false ∧ rob = 0 ∧ every = 0 ∧ srcs = []) := fun h => hb (hB.2 h)
              have : ¬ ((⟨kd, ver, code, grp, quiet, rob, every, srcs, []⟩ : Msg) = ⟨kd, 0, 0, grp, false, 0, 0, [], []⟩) := fun h => by
                injection h with _ _ _ _ a b c d
                exact hb' ⟨a, b, c, d⟩
              rw [decide_eq_false this]; simp
          · rw [if_neg hp, if_neg (fun h => hp (hP.2 h))]
            by_cases h17 : kd = 17
            · rw [if_pos h17, if_pos h17]
              subst h17
              unfold queryB
              dsimp only
              by_cases v1 : ver = 1
              · rw [if_pos v1, if_pos v1]
                by_cases hb : B = true
                · rw [if_pos hb]
                  obtain ⟨rfl, rfl, rfl, rfl⟩ := hB.1 hb
                  by_cases h2 : code = 0
                  · rw [if_pos h2]; subst v1 h2; by_cases hg : grp = 0 <;> simp [hg]
                  · rw [if_neg h2]; simp [h2]
                · rw [if_neg hb]
                  have hb' : ¬ (quiet = false ∧ rob = 0 ∧ every = 0 ∧ srcs = []) := fun h => hb (hB.2 h)
                  have : ¬ ((⟨17, ver, code, grp, quiet, rob, every, srcs, []⟩ : Msg) = ⟨17, 1, 0, 0, false, 0, 0, [], []⟩) := fun h => by
                    injection h with _ _ _ _ a b c d
                    exact hb' ⟨a, b, c, d⟩
                  rw [decide_eq_false this]
              rw [if_neg v1, if_neg v1]
              by_cases v2 : ver = 2
              · rw [if_pos v2, if_pos v2]
                subst v2
                by_cases hb : B = true
                · rw [if_pos hb]
                  obtain ⟨rfl, rfl, rfl, rfl⟩ := hB.1 hb
                  by_cases h2 : code > 0
                  · rw [if_pos h2]
                    unfold grpB
                    by_cases h3 : grp = 0
                    · rw [if_pos h3]; simp [h3]; omega
                    · rw [if_neg h3, if_neg h3]; simp; omega
                  · rw [if_neg h2]; simp [h2]
                · rw [if_neg hb]
                  have hb' : ¬ (quiet = false ∧ rob = 0 ∧ every = 0 ∧ srcs = []) := fun h => hb (hB.2 h)
                  have : ¬ ((⟨17, 2, code, grp, quiet, rob, every, srcs, []⟩ : Msg) = ⟨17, 2, code, grp, false, 0, 0, [], []⟩) := fun h => by
                    injection h with _ _ _ _ a b c d
                    exact hb' ⟨a, b, c, d⟩
                  rw [decide_eq_false this]; simp
              rw [if_neg v2, if_neg v2]
              by_cases v3 : ver = 3
              · rw [if_pos v3, if_pos v3]
                by_cases h8 : rob < 8
                · rw [if_pos h8, decide_eq_true (show rob ≤ 7 by omega)]
                  by_cases h64 : (srcs.length : Int) ≤ 64
                  · rw [if_pos h64, decide_eq_true (show srcs.length ≤ 64 by omega)]
                    unfold grpB
                    cases ha : askB grp
                    · rw [if_neg (by decide)]
                      by_cases h3 : grp = 0
                      · rw [if_pos h3, if_pos h3]; simp only [h3]; cases srcs <;> simp; omega
                      · rw [if_neg h3, if_neg h3]; simp
                    · rw [if_pos rfl]
                      by_cases h3 : grp = 0
                      · rw [h3] at ha; exact absurd ha (by decide)
                      · rw [if_neg h3]; simp [h3]
                  · rw [if_neg h64, decide_eq_false (show ¬ srcs.length ≤ 64 by omega)]; simp
                · rw [if_neg h8, decide_eq_false (show ¬ rob ≤ 7 by omega)]; simp
              · rw [if_neg v3, if_neg v3]
            · rw [if_neg h17, if_neg h17]; simp [h34]
        unfold rightB at j3
        dsimp only at j3
        by_cases h18 : kd = 18
        · rw [if_pos h18, j3 true (by simp [h18])]
        · rw [if_neg h18]
          by_cases h22 : kd = 22
          · rw [if_pos h22, j3 true (by simp [h22])]
          · rw [if_neg h22, j3 (kd == 23) (by simp [h18, h22])]
  unfold stolonref05_Right.f
  cases quiet
  · rw [if_neg (by decide)]
    by_cases h5 : rob = 0
    · rw [if_pos h5]
      by_cases h6 : every = 0
      · rw [if_pos h6]; exact main _ (by simp [h5, h6])
      · rw [if_neg h6]; exact main _ (by simp [h6])
    · rw [if_neg h5]; exact main _ (by simp [h5])
  · rw [if_pos rfl]; exact main _ (by simp)
end Go.Proofs.Ytmmjmncchckbbaa
/-
  Contracts over messages: right by the document.
-/
namespace Go.Proofs.Ytmmjmncchckbbaa
open Go.RowKit Go.Proofs.YtmmjmncchckbbaaW.PrintWords Go.Proofs.YtmmjmncchckbbaaW.PrintLast Go.Proofs.YtmmjmncchckbbaaW.PrintMore Go.Proofs.Ytmmjmncchckbbaa.PIg
set_option linter.unusedVariables false
set_option linter.unusedSimpArgs false
theorem rright_w {m : Msg} {b : Bool} (hb : rightB m = b) (hl : m.recs.length ≤ 1000000) (A_s : Option Addr) (c_s : Nat) (A_r : Option Addr) (c_r : Nat) (w : World) (hss : Kd.C (Kd.int .u32) w A_s m.srcs.length m.srcs) (hscs : m.srcs.length ≤ c_s) (hrr : Kd.C k44 w A_r m.recs.length m.recs) (hrcr : m.recs.length ≤ c_r) : Calls Try.prog 16 #[.agg #[.int .u8 m.k, .int .i64 m.ver, .int .u8 m.code, .int .u32 m.grp, .bool m.quiet, .int .u8 m.rob, .int .u8 m.every, .slice A_s m.srcs.length c_s, .slice A_r m.recs.length c_r]] w fun e w' => e = .returned (.bool b) ∧ Below w.heap.size w w' :=
  stolonref05_Right.calls (m.recs.length + 4) m.k m.ver m.code m.grp m.quiet m.rob m.every A_s c_s m.srcs A_r c_r m.recs b w hss hscs hrr hrcr (by rw [refRight_some m hl (Nat.lt_succ_self _), hb])
end Go.Proofs.Ytmmjmncchckbbaa
/-
  IgmpLong, walked.
-/
namespace Go.Proofs.Ytmmjmncchckbbaa
open Go.RowKit Go.Proofs.YtmmjmncchckbbaaW.PrintWords Go.Proofs.YtmmjmncchckbbaaW.PrintLast Go.Proofs.YtmmjmncchckbbaaW.PrintMore Go.Proofs.Ytmmjmncchckbbaa.PIg
set_option linter.unusedVariables false
set_option linter.unusedSimpArgs false
set_option maxHeartbeats 8000000 in
set_option maxRecDepth 100000 in
theorem long_few {m : Msg} (l1 : m.srcs.length ≤ 140737488351232) (l2 : m.recs.length ≤ 140737488351232) (l3 : ∀ r ∈ m.recs, r.f2.length ≤ 140737488351232) (hf : fewB m = false) (A_s : Option Addr) (c_s : Nat) (A_r : Option Addr) (c_r : Nat) (w : World) (hss : Kd.C (Kd.int .u32) w A_s m.srcs.length m.srcs) (hscs : m.srcs.length ≤ c_s) (hrr : Kd.C k44 w A_r m.recs.length m.recs) (hrcr : m.recs.length ≤ c_r) :
    Calls Try.prog 7 #[.agg #[.int .u8 m.k, .int .i64 m.ver, .int .u8 m.code, .int .u32 m.grp, .bool m.quiet, .int .u8 m.rob, .int .u8 m.every, .slice A_s m.srcs.length c_s, .slice A_r m.recs.length c_r]] w fun e w' => e = .returned (.bool true) ∧ Below w.heap.size w w' := by
  have hu27 := Try.underlying27
  have HB := Aside0.mk (Below.refl w.heap.size w)
  have HC_s := Aside0.mk hss
  have HK_s := Aside0.mk hscs
  have HC_r := Aside0.mk hrr
  have HK_r := Aside0.mk hrcr
  clear hss hscs hrr hrcr
  have HF := Aside0.mk hf
  clear hf
  have L1 := Aside0.mk l1
  have L2 := Aside0.mk l2
  have L3 := Aside0.mk l3
  clear l1 l2 l3
  go_enter Try.func7, Try.ntmps7
  go_wp2_with (first | ((with_reducible refine gate_dst (N := 1) rfl ?_); (try (refine gate_guard (by rfl) ?_; dsimp only)); refine box_event ?hg (N := 1) ?hd (cs := #[.int .u8 m.k, .int .i64 m.ver, .int .u8 m.code, .int .u32 m.grp, .bool m.quiet, .int .u8 m.rob, .int .u8 m.every, .slice A_s m.srcs.length c_s, .slice A_r m.recs.length c_r]) (t := 27) ?hr ?_; (case hd => rfl); (case hg => rfl); (case hr => first | (go_simp; done) | (go_simp; rfl)); intro gm hg w1_ hbox hB; have HBo := Aside0.mk HB.out; have nHB := Aside0.mk (HB.out.trans (hB.mono HB.out.size)); clear HB; have HB := nHB; clear nHB; have BK_gm := Aside0.mk hbox; have GE_gm := Aside0.mk (show w.heap.size ≤ gm by rw [hg]; exact HBo.out.size); clear hg hbox hB; have hc_gm_0 : w1_.cell? ⟨gm, 0, none⟩ = some (.int .u8 m.k) := (blk_cell BK_gm.out 0).trans rfl; have hf_gm_0 := blk_frozen BK_gm.out 0; have hc_gm_1 : w1_.cell? ⟨gm, 1, none⟩ = some (.int .i64 m.ver) := (blk_cell BK_gm.out 1).trans rfl; have hf_gm_1 := blk_frozen BK_gm.out 1; have hc_gm_2 : w1_.cell? ⟨gm, 2, none⟩ = some (.int .u8 m.code) := (blk_cell BK_gm.out 2).trans rfl; have hf_gm_2 := blk_frozen BK_gm.out 2; have hc_gm_3 : w1_.cell? ⟨gm, 3, none⟩ = some (.int .u32 m.grp) := (blk_cell BK_gm.out 3).trans rfl; have hf_gm_3 := blk_frozen BK_gm.out 3; have hc_gm_4 : w1_.cell? ⟨gm, 4, none⟩ = some (.bool m.quiet) := (blk_cell BK_gm.out 4).trans rfl; have hf_gm_4 := blk_frozen BK_gm.out 4; have hc_gm_5 : w1_.cell? ⟨gm, 5, none⟩ = some (.int .u8 m.rob) := (blk_cell BK_gm.out 5).trans rfl; have hf_gm_5 := blk_frozen BK_gm.out 5; have hc_gm_6 : w1_.cell? ⟨gm, 6, none⟩ = some (.int .u8 m.every) := (blk_cell BK_gm.out 6).trans rfl; have hf_gm_6 := blk_frozen BK_gm.out 6; have hc_gm_7 : w1_.cell? ⟨gm, 7, none⟩ = some (.slice A_s m.srcs.length c_s) := (blk_cell BK_gm.out 7).trans rfl; have hf_gm_7 := blk_frozen BK_gm.out 7; have hc_gm_8 : w1_.cell? ⟨gm, 8, none⟩ = some (.slice A_r m.recs.length c_r) := (blk_cell BK_gm.out 8).trans rfl; have hf_gm_8 := blk_frozen BK_gm.out 8; clear HBo) | (go_at_call 11; with_reducible refine (shown_calls _).mono ?_; rintro e w2_ ⟨rfl, hB⟩; have nHB := Aside0.mk (HB.out.trans (hB.mono HB.out.size)); clear HB; have HB := nHB; clear nHB; clear hc_gm_0 hf_gm_0 hc_gm_1 hf_gm_1 hc_gm_2 hf_gm_2 hc_gm_3 hf_gm_3 hc_gm_4 hf_gm_4 hc_gm_5 hf_gm_5 hc_gm_6 hf_gm_6 hc_gm_7 hf_gm_7 hc_gm_8 hf_gm_8; have nBK := Aside0.mk (blk_below (g := gm) (o := .cells #[.int .u8 m.k, .int .i64 m.ver, .int .u8 m.code, .int .u32 m.grp, .bool m.quiet, .int .u8 m.rob, .int .u8 m.every, .slice A_s m.srcs.length c_s, .slice A_r m.recs.length c_r] 27 (0, 0)) BK_gm.out hB); clear BK_gm; have BK_gm := nBK; clear nBK; have hc_gm_0 : w2_.cell? ⟨gm, 0, none⟩ = some (.int .u8 m.k) := (blk_cell BK_gm.out 0).trans rfl; have hf_gm_0 := blk_frozen BK_gm.out 0; have hc_gm_1 : w2_.cell? ⟨gm, 1, none⟩ = some (.int .i64 m.ver) := (blk_cell BK_gm.out 1).trans rfl; have hf_gm_1 := blk_frozen BK_gm.out 1; have hc_gm_2 : w2_.cell? ⟨gm, 2, none⟩ = some (.int .u8 m.code) := (blk_cell BK_gm.out 2).trans rfl; have hf_gm_2 := blk_frozen BK_gm.out 2; have hc_gm_3 : w2_.cell? ⟨gm, 3, none⟩ = some (.int .u32 m.grp) := (blk_cell BK_gm.out 3).trans rfl; have hf_gm_3 := blk_frozen BK_gm.out 3; have hc_gm_4 : w2_.cell? ⟨gm, 4, none⟩ = some (.bool m.quiet) := (blk_cell BK_gm.out 4).trans rfl; have hf_gm_4 := blk_frozen BK_gm.out 4; have hc_gm_5 : w2_.cell? ⟨gm, 5, none⟩ = some (.int .u8 m.rob) := (blk_cell BK_gm.out 5).trans rfl; have hf_gm_5 := blk_frozen BK_gm.out 5; have hc_gm_6 : w2_.cell? ⟨gm, 6, none⟩ = some (.int .u8 m.every) := (blk_cell BK_gm.out 6).trans rfl; have hf_gm_6 := blk_frozen BK_gm.out 6; have hc_gm_7 : w2_.cell? ⟨gm, 7, none⟩ = some (.slice A_s m.srcs.length c_s) := (blk_cell BK_gm.out 7).trans rfl; have hf_gm_7 := blk_frozen BK_gm.out 7; have hc_gm_8 : w2_.cell? ⟨gm, 8, none⟩ = some (.slice A_r m.recs.length c_r) := (blk_cell BK_gm.out 8).trans rfl; have hf_gm_8 := blk_frozen BK_gm.out 8; clear hB) | (go_at_call 12; with_reducible refine (few_w HF.out L1.out L2.out L3.out _ _ _ _ _ (Kd.C_below HC_s.out HB.out) HK_s.out (Kd.C_below HC_r.out HB.out) HK_r.out).mono ?_; rintro e w3_ ⟨rfl, hB⟩; have nHB := Aside0.mk (HB.out.trans (hB.mono HB.out.size)); clear HB; have HB := nHB; clear nHB; clear hc_gm_0 hf_gm_0 hc_gm_1 hf_gm_1 hc_gm_2 hf_gm_2 hc_gm_3 hf_gm_3 hc_gm_4 hf_gm_4 hc_gm_5 hf_gm_5 hc_gm_6 hf_gm_6 hc_gm_7 hf_gm_7 hc_gm_8 hf_gm_8; have nBK := Aside0.mk (blk_below (g := gm) (o := .cells #[.int .u8 m.k, .int .i64 m.ver, .int .u8 m.code, .int .u32 m.grp, .bool m.quiet, .int .u8 m.rob, .int .u8 m.every, .slice A_s m.srcs.length c_s, .slice A_r m.recs.length c_r] 27 (0, 0)) BK_gm.out hB); clear BK_gm; have BK_gm := nBK; clear nBK; have hc_gm_0 : w3_.cell? ⟨gm, 0, none⟩ = some (.int .u8 m.k) := (blk_cell BK_gm.out 0).trans rfl; have hf_gm_0 := blk_frozen BK_gm.out 0; have hc_gm_1 : w3_.cell? ⟨gm, 1, none⟩ = some (.int .i64 m.ver) := (blk_cell BK_gm.out 1).trans rfl; have hf_gm_1 := blk_frozen BK_gm.out 1; have hc_gm_2 : w3_.cell? ⟨gm, 2, none⟩ = some (.int .u8 m.code) := (blk_cell BK_gm.out 2).trans rfl; have hf_gm_2 := blk_frozen BK_gm.out 2; have hc_gm_3 : w3_.cell? ⟨gm, 3, none⟩ = some (.int .u32 m.grp) := (blk_cell BK_gm.out 3).trans rfl; have hf_gm_3 := blk_frozen BK_gm.out 3; have hc_gm_4 : w3_.cell? ⟨gm, 4, none⟩ = some (.bool m.quiet) := (blk_cell BK_gm.out 4).trans rfl; have hf_gm_4 := blk_frozen BK_gm.out 4; have hc_gm_5 : w3_.cell? ⟨gm, 5, none⟩ = some (.int .u8 m.rob) := (blk_cell BK_gm.out 5).trans rfl; have hf_gm_5 := blk_frozen BK_gm.out 5; have hc_gm_6 : w3_.cell? ⟨gm, 6, none⟩ = some (.int .u8 m.every) := (blk_cell BK_gm.out 6).trans rfl; have hf_gm_6 := blk_frozen BK_gm.out 6; have hc_gm_7 : w3_.cell? ⟨gm, 7, none⟩ = some (.slice A_s m.srcs.length c_s) := (blk_cell BK_gm.out 7).trans rfl; have hf_gm_7 := blk_frozen BK_gm.out 7; have hc_gm_8 : w3_.cell? ⟨gm, 8, none⟩ = some (.slice A_r m.recs.length c_r) := (blk_cell BK_gm.out 8).trans rfl; have hf_gm_8 := blk_frozen BK_gm.out 8; clear hB))
  go_ret
  exact ⟨rfl, HB.out⟩
set_option maxHeartbeats 8000000 in
set_option maxRecDepth 100000 in
theorem long_wrong {m : Msg} (l1 : m.srcs.length ≤ 140737488351232) (l2 : m.recs.length ≤ 140737488351232) (l3 : ∀ r ∈ m.recs, r.f2.length ≤ 140737488351232) (hf : fewB m = true) (hb : rightB m = false) (hl : m.recs.length ≤ 1000000) (A_s : Option Addr) (c_s : Nat) (A_r : Option Addr) (c_r : Nat) (w : World) (hss : Kd.C (Kd.int .u32) w A_s m.srcs.length m.srcs) (hscs : m.srcs.length ≤ c_s) (hrr : Kd.C k44 w A_r m.recs.length m.recs) (hrcr : m.recs.length ≤ c_r) :
    Calls Try.prog 7 #[.agg #[.int .u8 m.k, .int .i64 m.ver, .int .u8 m.code, .int .u32 m.grp, .bool m.quiet, .int .u8 m.rob, .int .u8 m.every, .slice A_s m.srcs.length c_s, .slice A_r m.recs.length c_r]] w fun e w' => e = .returned (.bool true) ∧ Below w.heap.size w w' := by
  have hu27 := Try.underlying27
  have HB := Aside0.mk (Below.refl w.heap.size w)
  have HC_s := Aside0.mk hss
  have HK_s := Aside0.mk hscs
  have HC_r := Aside0.mk hrr
  have HK_r := Aside0.mk hrcr
  clear hss hscs hrr hrcr
  have HF := Aside0.mk hf
  have HG := Aside0.mk hb
  have HL := Aside0.mk hl
  clear hf hb hl
  have L1 := Aside0.mk l1
  have L2 := Aside0.mk l2
  have L3 := Aside0.mk l3
  clear l1 l2 l3
  go_enter Try.func7, Try.ntmps7
  go_wp2_with (first | ((with_reducible refine gate_dst (N := 1) rfl ?_); (try (refine gate_guard (by rfl) ?_; dsimp only)); refine box_event ?hg (N := 1) ?hd (cs := #[.int .u8 m.k, .int .i64 m.ver, .int .u8 m.code, .int .u32 m.grp, .bool m.quiet, .int .u8 m.rob, .int .u8 m.every, .slice A_s m.srcs.length c_s, .slice A_r m.recs.length c_r]) (t := 27) ?hr ?_; (case hd => rfl); (case hg => rfl); (case hr => first | (go_simp; done) | (go_simp; rfl)); intro gm hg w1_ hbox hB; have HBo := Aside0.mk HB.out; have nHB := Aside0.mk (HB.out.trans (hB.mono HB.out.size)); clear HB; have HB := nHB; clear nHB; have BK_gm := Aside0.mk hbox; have GE_gm := Aside0.mk (show w.heap.size ≤ gm by rw [hg]; exact HBo.out.size); clear hg hbox hB; have hc_gm_0 : w1_.cell? ⟨gm, 0, none⟩ = some (.int .u8 m.k) := (blk_cell BK_gm.out 0).trans rfl; have hf_gm_0 := blk_frozen BK_gm.out 0; have hc_gm_1 : w1_.cell? ⟨gm, 1, none⟩ = some (.int .i64 m.ver) := (blk_cell BK_gm.out 1).trans rfl; have hf_gm_1 := blk_frozen BK_gm.out 1; have hc_gm_2 : w1_.cell? ⟨gm, 2, none⟩ = some (.int .u8 m.code) := (blk_cell BK_gm.out 2).trans rfl; have hf_gm_2 := blk_frozen BK_gm.out 2; have hc_gm_3 : w1_.cell? ⟨gm, 3, none⟩ = some (.int .u32 m.grp) := (blk_cell BK_gm.out 3).trans rfl; have hf_gm_3 := blk_frozen BK_gm.out 3; have hc_gm_4 : w1_.cell? ⟨gm, 4, none⟩ = some (.bool m.quiet) := (blk_cell BK_gm.out 4).trans rfl; have hf_gm_4 := blk_frozen BK_gm.out 4; have hc_gm_5 : w1_.cell? ⟨gm, 5, none⟩ = some (.int .u8 m.rob) := (blk_cell BK_gm.out 5).trans rfl; have hf_gm_5 := blk_frozen BK_gm.out 5; have hc_gm_6 : w1_.cell? ⟨gm, 6, none⟩ = some (.int .u8 m.every) := (blk_cell BK_gm.out 6).trans rfl; have hf_gm_6 := blk_frozen BK_gm.out 6; have hc_gm_7 : w1_.cell? ⟨gm, 7, none⟩ = some (.slice A_s m.srcs.length c_s) := (blk_cell BK_gm.out 7).trans rfl; have hf_gm_7 := blk_frozen BK_gm.out 7; have hc_gm_8 : w1_.cell? ⟨gm, 8, none⟩ = some (.slice A_r m.recs.length c_r) := (blk_cell BK_gm.out 8).trans rfl; have hf_gm_8 := blk_frozen BK_gm.out 8; clear HBo) | (go_at_call 11; with_reducible refine (shown_calls _).mono ?_; rintro e w2_ ⟨rfl, hB⟩; have nHB := Aside0.mk (HB.out.trans (hB.mono HB.out.size)); clear HB; have HB := nHB; clear nHB; clear hc_gm_0 hf_gm_0 hc_gm_1 hf_gm_1 hc_gm_2 hf_gm_2 hc_gm_3 hf_gm_3 hc_gm_4 hf_gm_4 hc_gm_5 hf_gm_5 hc_gm_6 hf_gm_6 hc_gm_7 hf_gm_7 hc_gm_8 hf_gm_8; have nBK := Aside0.mk (blk_below (g := gm) (o := .cells #[.int .u8 m.k, .int .i64 m.ver, .int .u8 m.code, .int .u32 m.grp, .bool m.quiet, .int .u8 m.rob, .int .u8 m.every, .slice A_s m.srcs.length c_s, .slice A_r m.recs.length c_r] 27 (0, 0)) BK_gm.out hB); clear BK_gm; have BK_gm := nBK; clear nBK; have hc_gm_0 : w2_.cell? ⟨gm, 0, none⟩ = some (.int .u8 m.k) := (blk_cell BK_gm.out 0).trans rfl; have hf_gm_0 := blk_frozen BK_gm.out 0; have hc_gm_1 : w2_.cell? ⟨gm, 1, none⟩ = some (.int .i64 m.ver) := (blk_cell BK_gm.out 1).trans rfl; have hf_gm_1 := blk_frozen BK_gm.out 1; have hc_gm_2 : w2_.cell? ⟨gm, 2, none⟩ = some (.int .u8 m.code) := (blk_cell BK_gm.out 2).trans rfl; have hf_gm_2 := blk_frozen BK_gm.out 2; have hc_gm_3 : w2_.cell? ⟨gm, 3, none⟩ = some (.int .u32 m.grp) := (blk_cell BK_gm.out 3).trans rfl; have hf_gm_3 := blk_frozen BK_gm.out 3; have hc_gm_4 : w2_.cell? ⟨gm, 4, none⟩ = some (.bool m.quiet) := (blk_cell BK_gm.out 4).trans rfl; have hf_gm_4 := blk_frozen BK_gm.out 4; have hc_gm_5 : w2_.cell? ⟨gm, 5, none⟩ = some (.int .u8 m.rob) := (blk_cell BK_gm.out 5).trans rfl; have hf_gm_5 := blk_frozen BK_gm.out 5; have hc_gm_6 : w2_.cell? ⟨gm, 6, none⟩ = some (.int .u8 m.every) := (blk_cell BK_gm.out 6).trans rfl; have hf_gm_6 := blk_frozen BK_gm.out 6; have hc_gm_7 : w2_.cell? ⟨gm, 7, none⟩ = some (.slice A_s m.srcs.length c_s) := (blk_cell BK_gm.out 7).trans rfl; have hf_gm_7 := blk_frozen BK_gm.out 7; have hc_gm_8 : w2_.cell? ⟨gm, 8, none⟩ = some (.slice A_r m.recs.length c_r) := (blk_cell BK_gm.out 8).trans rfl; have hf_gm_8 := blk_frozen BK_gm.out 8; clear hB) | (go_at_call 12; with_reducible refine (few_w HF.out L1.out L2.out L3.out _ _ _ _ _ (Kd.C_below HC_s.out HB.out) HK_s.out (Kd.C_below HC_r.out HB.out) HK_r.out).mono ?_; rintro e w3_ ⟨rfl, hB⟩; have nHB := Aside0.mk (HB.out.trans (hB.mono HB.out.size)); clear HB; have HB := nHB; clear nHB; clear hc_gm_0 hf_gm_0 hc_gm_1 hf_gm_1 hc_gm_2 hf_gm_2 hc_gm_3 hf_gm_3 hc_gm_4 hf_gm_4 hc_gm_5 hf_gm_5 hc_gm_6 hf_gm_6 hc_gm_7 hf_gm_7 hc_gm_8 hf_gm_8; have nBK := Aside0.mk (blk_below (g := gm) (o := .cells #[.int .u8 m.k, .int .i64 m.ver, .int .u8 m.code, .int .u32 m.grp, .bool m.quiet, .int .u8 m.rob, .int .u8 m.every, .slice A_s m.srcs.length c_s, .slice A_r m.recs.length c_r] 27 (0, 0)) BK_gm.out hB); clear BK_gm; have BK_gm := nBK; clear nBK; have hc_gm_0 : w3_.cell? ⟨gm, 0, none⟩ = some (.int .u8 m.k) := (blk_cell BK_gm.out 0).trans rfl; have hf_gm_0 := blk_frozen BK_gm.out 0; have hc_gm_1 : w3_.cell? ⟨gm, 1, none⟩ = some (.int .i64 m.ver) := (blk_cell BK_gm.out 1).trans rfl; have hf_gm_1 := blk_frozen BK_gm.out 1; have hc_gm_2 : w3_.cell? ⟨gm, 2, none⟩ = some (.int .u8 m.code) := (blk_cell BK_gm.out 2).trans rfl; have hf_gm_2 := blk_frozen BK_gm.out 2; have hc_gm_3 : w3_.cell? ⟨gm, 3, none⟩ = some (.int .u32 m.grp) := (blk_cell BK_gm.out 3).trans rfl; have hf_gm_3 := blk_frozen BK_gm.out 3; have hc_gm_4 : w3_.cell? ⟨gm, 4, none⟩ = some (.bool m.quiet) := (blk_cell BK_gm.out 4).trans rfl; have hf_gm_4 := blk_frozen BK_gm.out 4; have hc_gm_5 : w3_.cell? ⟨gm, 5, none⟩ = some (.int .u8 m.rob) := (blk_cell BK_gm.out 5).trans rfl; have hf_gm_5 := blk_frozen BK_gm.out 5; have hc_gm_6 : w3_.cell? ⟨gm, 6, none⟩ = some (.int .u8 m.every) := (blk_cell BK_gm.out 6).trans rfl; have hf_gm_6 := blk_frozen BK_gm.out 6; have hc_gm_7 : w3_.cell? ⟨gm, 7, none⟩ = some (.slice A_s m.srcs.length c_s) := (blk_cell BK_gm.out 7).trans rfl; have hf_gm_7 := blk_frozen BK_gm.out 7; have hc_gm_8 : w3_.cell? ⟨gm, 8, none⟩ = some (.slice A_r m.recs.length c_r) := (blk_cell BK_gm.out 8).trans rfl; have hf_gm_8 := blk_frozen BK_gm.out 8; clear hB) | (go_at_call 16; with_reducible refine (rright_w HG.out HL.out _ _ _ _ _ (Kd.C_below HC_s.out HB.out) HK_s.out (Kd.C_below HC_r.out HB.out) HK_r.out).mono ?_; rintro e w4_ ⟨rfl, hB⟩; have nHB := Aside0.mk (HB.out.trans (hB.mono HB.out.size)); clear HB; have HB := nHB; clear nHB; clear hc_gm_0 hf_gm_0 hc_gm_1 hf_gm_1 hc_gm_2 hf_gm_2 hc_gm_3 hf_gm_3 hc_gm_4 hf_gm_4 hc_gm_5 hf_gm_5 hc_gm_6 hf_gm_6 hc_gm_7 hf_gm_7 hc_gm_8 hf_gm_8; have nBK := Aside0.mk (blk_below (g := gm) (o := .cells #[.int .u8 m.k, .int .i64 m.ver, .int .u8 m.code, .int .u32 m.grp, .bool m.quiet, .int .u8 m.rob, .int .u8 m.every, .slice A_s m.srcs.length c_s, .slice A_r m.recs.length c_r] 27 (0, 0)) BK_gm.out hB); clear BK_gm; have BK_gm := nBK; clear nBK; have hc_gm_0 : w4_.cell? ⟨gm, 0, none⟩ = some (.int .u8 m.k) := (blk_cell BK_gm.out 0).trans rfl; have hf_gm_0 := blk_frozen BK_gm.out 0; have hc_gm_1 : w4_.cell? ⟨gm, 1, none⟩ = some (.int .i64 m.ver) := (blk_cell BK_gm.out 1).trans rfl; have hf_gm_1 := blk_frozen BK_gm.out 1; have hc_gm_2 : w4_.cell? ⟨gm, 2, none⟩ = some (.int .u8 m.code) := (blk_cell BK_gm.out 2).trans rfl; have hf_gm_2 := blk_frozen BK_gm.out 2; have hc_gm_3 : w4_.cell? ⟨gm, 3, none⟩ = some (.int .u32 m.grp) := (blk_cell BK_gm.out 3).trans rfl; have hf_gm_3 := blk_frozen BK_gm.out 3; have hc_gm_4 : w4_.cell? ⟨gm, 4, none⟩ = some (.bool m.quiet) := (blk_cell BK_gm.out 4).trans rfl; have hf_gm_4 := blk_frozen BK_gm.out 4; have hc_gm_5 : w4_.cell? ⟨gm, 5, none⟩ = some (.int .u8 m.rob) := (blk_cell BK_gm.out 5).trans rfl; have hf_gm_5 := blk_frozen BK_gm.out 5; have hc_gm_6 : w4_.cell? ⟨gm, 6, none⟩ = some (.int .u8 m.every) := (blk_cell BK_gm.out 6).trans rfl; have hf_gm_6 := blk_frozen BK_gm.out 6; have hc_gm_7 : w4_.cell? ⟨gm, 7, none⟩ = some (.slice A_s m.srcs.length c_s) := (blk_cell BK_gm.out 7).trans rfl; have hf_gm_7 := blk_frozen BK_gm.out 7; have hc_gm_8 : w4_.cell? ⟨gm, 8, none⟩ = some (.slice A_r m.recs.length c_r) := (blk_cell BK_gm.out 8).trans rfl; have hf_gm_8 := blk_frozen BK_gm.out 8; clear hB))
  go_ret
  exact ⟨rfl, HB.out⟩
def ntrue (m : Msg) : Int := 12 + 4 * (m.srcs.length : Int)
set_option maxHeartbeats 8000000 in
set_option maxRecDepth 100000 in
theorem long_true {m : Msg} (l1 : m.srcs.length ≤ 140737488351232) (l2 : m.recs.length ≤ 140737488351232) (l3 : ∀ r ∈ m.recs, r.f2.length ≤ 140737488351232) (ho : m.Ok) (hf : fewB m = true) (hb : rightB m = true) (hv : (m.ver == 3) = true) (hl : m.recs.length ≤ 1000000) (hsl : m.srcs.length ≤ 1000000) {x : List Int} (hx : enc m = x) (hxl : (x.length : Int) = ntrue m + ((m.recs.flatMap rrow).length : Nat)) (hx8 : 8 ≤ x.length) (hx0 : rd x 0 = m.k) (hx1 : rd x 1 = m.code) (hfl : (m.recs.flatMap rrow).length ≤ 10000) (A_s : Option Addr) (c_s : Nat) (A_r : Option Addr) (c_r : Nat) (w : World) (hss : Kd.C (Kd.int .u32) w A_s m.srcs.length m.srcs) (hscs : m.srcs.length ≤ c_s) (hrr : Kd.C k44 w A_r m.recs.length m.recs) (hrcr : m.recs.length ≤ c_r) :
    Calls Try.prog 7 #[.agg #[.int .u8 m.k, .int .i64 m.ver, .int .u8 m.code, .int .u32 m.grp, .bool m.quiet, .int .u8 m.rob, .int .u8 m.every, .slice A_s m.srcs.length c_s, .slice A_r m.recs.length c_r]] w fun e w' => e = .returned (.bool true) ∧ Below w.heap.size w w' := by
  have hu27 := Try.underlying27
  have HB := Aside0.mk (Below.refl w.heap.size w)
  have HC_s := Aside0.mk hss
  have HK_s := Aside0.mk hscs
  have HC_r := Aside0.mk hrr
  have HK_r := Aside0.mk hrcr
  clear hss hscs hrr hrcr
  have HF := Aside0.mk hf
  have HG := Aside0.mk hb
  have HL := Aside0.mk hl
  have HO := Aside0.mk ho
  have HX := Aside0.mk hx
  have HXL := Aside0.mk hxl
  have HX8 := Aside0.mk hx8
  have HX0 := Aside0.mk hx0
  have HX1 := Aside0.mk hx1
  have HSL := Aside0.mk hsl
  have HFL := Aside0.mk hfl
  clear hf hb hl ho hx hxl hx8 hx0 hx1 hsl hfl
  have L1 := Aside0.mk l1
  have L2 := Aside0.mk l2
  have L3 := Aside0.mk l3
  clear l1 l2 l3
  go_enter Try.func7, Try.ntmps7
  have hsl := HSL.out
  go_upto_region 7 with (first | ((with_reducible refine gate_dst (N := 1) rfl ?_); (try (refine gate_guard (by rfl) ?_; dsimp only)); refine box_event ?hg (N := 1) ?hd (cs := #[.int .u8 m.k, .int .i64 m.ver, .int .u8 m.code, .int .u32 m.grp, .bool m.quiet, .int .u8 m.rob, .int .u8 m.every, .slice A_s m.srcs.length c_s, .slice A_r m.recs.length c_r]) (t := 27) ?hr ?_; (case hd => rfl); (case hg => rfl); (case hr => first | (go_simp; done) | (go_simp; rfl)); intro gm hg w1_ hbox hB; have HBo := Aside0.mk HB.out; have nHB := Aside0.mk (HB.out.trans (hB.mono HB.out.size)); clear HB; have HB := nHB; clear nHB; have BK_gm := Aside0.mk hbox; have GE_gm := Aside0.mk (show w.heap.size ≤ gm by rw [hg]; exact HBo.out.size); clear hg hbox hB; have hc_gm_0 : w1_.cell? ⟨gm, 0, none⟩ = some (.int .u8 m.k) := (blk_cell BK_gm.out 0).trans rfl; have hf_gm_0 := blk_frozen BK_gm.out 0; have hc_gm_1 : w1_.cell? ⟨gm, 1, none⟩ = some (.int .i64 m.ver) := (blk_cell BK_gm.out 1).trans rfl; have hf_gm_1 := blk_frozen BK_gm.out 1; have hc_gm_2 : w1_.cell? ⟨gm, 2, none⟩ = some (.int .u8 m.code) := (blk_cell BK_gm.out 2).trans rfl; have hf_gm_2 := blk_frozen BK_gm.out 2; have hc_gm_3 : w1_.cell? ⟨gm, 3, none⟩ = some (.int .u32 m.grp) := (blk_cell BK_gm.out 3).trans rfl; have hf_gm_3 := blk_frozen BK_gm.out 3; have hc_gm_4 : w1_.cell? ⟨gm, 4, none⟩ = some (.bool m.quiet) := (blk_cell BK_gm.out 4).trans rfl; have hf_gm_4 := blk_frozen BK_gm.out 4; have hc_gm_5 : w1_.cell? ⟨gm, 5, none⟩ = some (.int .u8 m.rob) := (blk_cell BK_gm.out 5).trans rfl; have hf_gm_5 := blk_frozen BK_gm.out 5; have hc_gm_6 : w1_.cell? ⟨gm, 6, none⟩ = some (.int .u8 m.every) := (blk_cell BK_gm.out 6).trans rfl; have hf_gm_6 := blk_frozen BK_gm.out 6; have hc_gm_7 : w1_.cell? ⟨gm, 7, none⟩ = some (.slice A_s m.srcs.length c_s) := (blk_cell BK_gm.out 7).trans rfl; have hf_gm_7 := blk_frozen BK_gm.out 7; have hc_gm_8 : w1_.cell? ⟨gm, 8, none⟩ = some (.slice A_r m.recs.length c_r) := (blk_cell BK_gm.out 8).trans rfl; have hf_gm_8 := blk_frozen BK_gm.out 8; clear HBo) | (go_at_call 11; with_reducible refine (shown_calls _).mono ?_; rintro e w2_ ⟨rfl, hB⟩; have nHB := Aside0.mk (HB.out.trans (hB.mono HB.out.size)); clear HB; have HB := nHB; clear nHB; clear hc_gm_0 hf_gm_0 hc_gm_1 hf_gm_1 hc_gm_2 hf_gm_2 hc_gm_3 hf_gm_3 hc_gm_4 hf_gm_4 hc_gm_5 hf_gm_5 hc_gm_6 hf_gm_6 hc_gm_7 hf_gm_7 hc_gm_8 hf_gm_8; have nBK := Aside0.mk (blk_below (g := gm) (o := .cells #[.int .u8 m.k, .int .i64 m.ver, .int .u8 m.code, .int .u32 m.grp, .bool m.quiet, .int .u8 m.rob, .int .u8 m.every, .slice A_s m.srcs.length c_s, .slice A_r m.recs.length c_r] 27 (0, 0)) BK_gm.out hB); clear BK_gm; have BK_gm := nBK; clear nBK; have hc_gm_0 : w2_.cell? ⟨gm, 0, none⟩ = some (.int .u8 m.k) := (blk_cell BK_gm.out 0).trans rfl; have hf_gm_0 := blk_frozen BK_gm.out 0; have hc_gm_1 : w2_.cell? ⟨gm, 1, none⟩ = some (.int .i64 m.ver) := (blk_cell BK_gm.out 1).trans rfl; have hf_gm_1 := blk_frozen BK_gm.out 1; have hc_gm_2 : w2_.cell? ⟨gm, 2, none⟩ = some (.int .u8 m.code) := (blk_cell BK_gm.out 2).trans rfl; have hf_gm_2 := blk_frozen BK_gm.out 2; have hc_gm_3 : w2_.cell? ⟨gm, 3, none⟩ = some (.int .u32 m.grp) := (blk_cell BK_gm.out 3).trans rfl; have hf_gm_3 := blk_frozen BK_gm.out 3; have hc_gm_4 : w2_.cell? ⟨gm, 4, none⟩ = some (.bool m.quiet) := (blk_cell BK_gm.out 4).trans rfl; have hf_gm_4 := blk_frozen BK_gm.out 4; have hc_gm_5 : w2_.cell? ⟨gm, 5, none⟩ = some (.int .u8 m.rob) := (blk_cell BK_gm.out 5).trans rfl; have hf_gm_5 := blk_frozen BK_gm.out 5; have hc_gm_6 : w2_.cell? ⟨gm, 6, none⟩ = some (.int .u8 m.every) := (blk_cell BK_gm.out 6).trans rfl; have hf_gm_6 := blk_frozen BK_gm.out 6; have hc_gm_7 : w2_.cell? ⟨gm, 7, none⟩ = some (.slice A_s m.srcs.length c_s) := (blk_cell BK_gm.out 7).trans rfl; have hf_gm_7 := blk_frozen BK_gm.out 7; have hc_gm_8 : w2_.cell? ⟨gm, 8, none⟩ = some (.slice A_r m.recs.length c_r) := (blk_cell BK_gm.out 8).trans rfl; have hf_gm_8 := blk_frozen BK_gm.out 8; clear hB) | (go_at_call 12; with_reducible refine (few_w HF.out L1.out L2.out L3.out _ _ _ _ _ (Kd.C_below HC_s.out HB.out) HK_s.out (Kd.C_below HC_r.out HB.out) HK_r.out).mono ?_; rintro e w3_ ⟨rfl, hB⟩; have nHB := Aside0.mk (HB.out.trans (hB.mono HB.out.size)); clear HB; have HB := nHB; clear nHB; clear hc_gm_0 hf_gm_0 hc_gm_1 hf_gm_1 hc_gm_2 hf_gm_2 hc_gm_3 hf_gm_3 hc_gm_4 hf_gm_4 hc_gm_5 hf_gm_5 hc_gm_6 hf_gm_6 hc_gm_7 hf_gm_7 hc_gm_8 hf_gm_8; have nBK := Aside0.mk (blk_below (g := gm) (o := .cells #[.int .u8 m.k, .int .i64 m.ver, .int .u8 m.code, .int .u32 m.grp, .bool m.quiet, .int .u8 m.rob, .int .u8 m.every, .slice A_s m.srcs.length c_s, .slice A_r m.recs.length c_r] 27 (0, 0)) BK_gm.out hB); clear BK_gm; have BK_gm := nBK; clear nBK; have hc_gm_0 : w3_.cell? ⟨gm, 0, none⟩ = some (.int .u8 m.k) := (blk_cell BK_gm.out 0).trans rfl; have hf_gm_0 := blk_frozen BK_gm.out 0; have hc_gm_1 : w3_.cell? ⟨gm, 1, none⟩ = some (.int .i64 m.ver) := (blk_cell BK_gm.out 1).trans rfl; have hf_gm_1 := blk_frozen BK_gm.out 1; have hc_gm_2 : w3_.cell? ⟨gm, 2, none⟩ = some (.int .u8 m.code) := (blk_cell BK_gm.out 2).trans rfl; have hf_gm_2 := blk_frozen BK_gm.out 2; have hc_gm_3 : w3_.cell? ⟨gm, 3, none⟩ = some (.int .u32 m.grp) := (blk_cell BK_gm.out 3).trans rfl; have hf_gm_3 := blk_frozen BK_gm.out 3; have hc_gm_4 : w3_.cell? ⟨gm, 4, none⟩ = some (.bool m.quiet) := (blk_cell BK_gm.out 4).trans rfl; have hf_gm_4 := blk_frozen BK_gm.out 4; have hc_gm_5 : w3_.cell? ⟨gm, 5, none⟩ = some (.int .u8 m.rob) := (blk_cell BK_gm.out 5).trans rfl; have hf_gm_5 := blk_frozen BK_gm.out 5; have hc_gm_6 : w3_.cell? ⟨gm, 6, none⟩ = some (.int .u8 m.every) := (blk_cell BK_gm.out 6).trans rfl; have hf_gm_6 := blk_frozen BK_gm.out 6; have hc_gm_7 : w3_.cell? ⟨gm, 7, none⟩ = some (.slice A_s m.srcs.length c_s) := (blk_cell BK_gm.out 7).trans rfl; have hf_gm_7 := blk_frozen BK_gm.out 7; have hc_gm_8 : w3_.cell? ⟨gm, 8, none⟩ = some (.slice A_r m.recs.length c_r) := (blk_cell BK_gm.out 8).trans rfl; have hf_gm_8 := blk_frozen BK_gm.out 8; clear hB) | (go_at_call 16; with_reducible refine (rright_w HG.out HL.out _ _ _ _ _ (Kd.C_below HC_s.out HB.out) HK_s.out (Kd.C_below HC_r.out HB.out) HK_r.out).mono ?_; rintro e w4_ ⟨rfl, hB⟩; have nHB := Aside0.mk (HB.out.trans (hB.mono HB.out.size)); clear HB; have HB := nHB; clear nHB; clear hc_gm_0 hf_gm_0 hc_gm_1 hf_gm_1 hc_gm_2 hf_gm_2 hc_gm_3 hf_gm_3 hc_gm_4 hf_gm_4 hc_gm_5 hf_gm_5 hc_gm_6 hf_gm_6 hc_gm_7 hf_gm_7 hc_gm_8 hf_gm_8; have nBK := Aside0.mk (blk_below (g := gm) (o := .cells #[.int .u8 m.k, .int .i64 m.ver, .int .u8 m.code, .int .u32 m.grp, .bool m.quiet, .int .u8 m.rob, .int .u8 m.every, .slice A_s m.srcs.length c_s, .slice A_r m.recs.length c_r] 27 (0, 0)) BK_gm.out hB); clear BK_gm; have BK_gm := nBK; clear nBK; have hc_gm_0 : w4_.cell? ⟨gm, 0, none⟩ = some (.int .u8 m.k) := (blk_cell BK_gm.out 0).trans rfl; have hf_gm_0 := blk_frozen BK_gm.out 0; have hc_gm_1 : w4_.cell? ⟨gm, 1, none⟩ = some (.int .i64 m.ver) := (blk_cell BK_gm.out 1).trans rfl; have hf_gm_1 := blk_frozen BK_gm.out 1; have hc_gm_2 : w4_.cell? ⟨gm, 2, none⟩ = some (.int .u8 m.code) := (blk_cell BK_gm.out 2).trans rfl; have hf_gm_2 := blk_frozen BK_gm.out 2; have hc_gm_3 : w4_.cell? ⟨gm, 3, none⟩ = some (.int .u32 m.grp) := (blk_cell BK_gm.out 3).trans rfl; have hf_gm_3 := blk_frozen BK_gm.out 3; have hc_gm_4 : w4_.cell? ⟨gm, 4, none⟩ = some (.bool m.quiet) := (blk_cell BK_gm.out 4).trans rfl; have hf_gm_4 := blk_frozen BK_gm.out 4; have hc_gm_5 : w4_.cell? ⟨gm, 5, none⟩ = some (.int .u8 m.rob) := (blk_cell BK_gm.out 5).trans rfl; have hf_gm_5 := blk_frozen BK_gm.out 5; have hc_gm_6 : w4_.cell? ⟨gm, 6, none⟩ = some (.int .u8 m.every) := (blk_cell BK_gm.out 6).trans rfl; have hf_gm_6 := blk_frozen BK_gm.out 6; have hc_gm_7 : w4_.cell? ⟨gm, 7, none⟩ = some (.slice A_s m.srcs.length c_s) := (blk_cell BK_gm.out 7).trans rfl; have hf_gm_7 := blk_frozen BK_gm.out 7; have hc_gm_8 : w4_.cell? ⟨gm, 8, none⟩ = some (.slice A_r m.recs.length c_r) := (blk_cell BK_gm.out 8).trans rfl; have hf_gm_8 := blk_frozen BK_gm.out 8; clear hB))
  clear hv
  clear hsl
  go_wp2
  go_loop [4, 5] (fun n i => ∃ (k : Nat) (s : Int), k ≤ m.recs.length ∧ i = .int .i64 k ∧ n = .int .i64 s ∧ Aside0 (s = ntrue m + (((m.recs.take k).flatMap rrow).length : Nat))) (fun _ i => m.recs.length - (intOf i).toNat)
  case atStart => exact ⟨0, _, Nat.zero_le _, rfl, rfl, ⟨by rw [List.take_zero]; unfold ntrue; simp⟩⟩
  case round =>
    obtain ⟨k, s, hk, rfl, rfl, HS⟩ := hrel
    have hmon : ((m.recs.take k).flatMap rrow).length ≤ 10000 := by
      have h1 : ((m.recs.take k).flatMap rrow).length + ((m.recs.drop k).flatMap rrow).length = (m.recs.flatMap rrow).length := by rw [← List.length_append, ← List.flatMap_append, List.take_append_drop]
      have := HFL.out
      omega
    have hs0 : 0 ≤ s := by rw [HS.out]; unfold ntrue; omega
    have hs1 : s ≤ 100000000 := by
      have := HSL.out
      rw [HS.out]; unfold ntrue; omega
    clear hmon
    by_cases hlt : k < m.recs.length
    · have hrl := HL.out
      have hc5 : decide ((k : Int) < (m.recs.length : Int)) = true := decide_eq_true (by omega)
      have p1 : (0 : Int) ≤ (k : Int) := by omega
      have p2 : (k : Int) < (m.recs.length : Int) := by omega
      obtain ⟨ad, A2, c2, e, hx0, hx1, hx2, hl2, hi2⟩ := at_T44 (Kd.C_below HC_r.out HB.out) (k : Int) p1 p2
      subst e
      rw [Int.toNat_natCast] at hx0 hx1 hx2
      have hrk : rd_T44 m.recs (k : Int) = m.recs[k] := rd44_get hlt
      have hql : (rd_T44 m.recs (k : Int)).f2.length ≤ 10000 := by
        have h1 := flat_take_len (recs := m.recs) k hlt
        rw [rrow_long] at h1
        have := HFL.out
        rw [hrk]
        omega
      have HT := Aside0.mk (show ((m.recs.take (k + 1)).flatMap rrow).length = ((m.recs.take k).flatMap rrow).length + (8 + 4 * (rd_T44 m.recs (k : Int)).f2.length) by
        rw [List.take_succ_eq_append_getElem hlt, List.flatMap_append, List.length_append, hrk]
        simp only [List.flatMap_cons, List.flatMap_nil, List.append_nil, rrow_long])
      clear hrk hi2 hl2
      generalize (rd_T44 m.recs (k : Int)).f2.length = q at hx2 hql HT
      replace p1 := eq_true p1
      replace p2 := eq_true p2
      go_wp2
      go_round
      case rel => exact ⟨k + 1, s + 8 + 4 * (q : Int), by omega, by go_num, by go_num, ⟨by rw [HT.out, HS.out]; push_cast; omega⟩⟩
      case measure => simp [intOf]; omega
    · have hke : k = m.recs.length := by omega
      obtain rfl : s = (x.length : Int) := by rw [HS.out, HXL.out, hke, List.take_length]
      clear hke hk HS hs0 hs1
      go_wp2_with (first | (go_at_call 13; with_reducible refine (encok_w HO.out HG.out HX.out _ _ _ _ _ (Kd.C_below HC_s.out HB.out) HK_s.out (Kd.C_below HC_r.out HB.out) HK_r.out).mono ?_; rintro e w5_ ⟨v_x, rfl, hR, hB⟩; obtain ⟨A_x, c_x, rfl⟩ := Kd.R_slice hR; have hsz := HB.out.size; have nHB := Aside0.mk (HB.out.trans (hB.mono HB.out.size)); clear HB; have HB := nHB; clear nHB; clear hc_gm_0 hf_gm_0 hc_gm_1 hf_gm_1 hc_gm_2 hf_gm_2 hc_gm_3 hf_gm_3 hc_gm_4 hf_gm_4 hc_gm_5 hf_gm_5 hc_gm_6 hf_gm_6 hc_gm_7 hf_gm_7 hc_gm_8 hf_gm_8; have nBK := Aside0.mk (blk_below (g := gm) (o := .cells #[.int .u8 m.k, .int .i64 m.ver, .int .u8 m.code, .int .u32 m.grp, .bool m.quiet, .int .u8 m.rob, .int .u8 m.every, .slice A_s m.srcs.length c_s, .slice A_r m.recs.length c_r] 27 (0, 0)) BK_gm.out hB); clear BK_gm; have BK_gm := nBK; clear nBK; have hc_gm_0 : w5_.cell? ⟨gm, 0, none⟩ = some (.int .u8 m.k) := (blk_cell BK_gm.out 0).trans rfl; have hf_gm_0 := blk_frozen BK_gm.out 0; have hc_gm_1 : w5_.cell? ⟨gm, 1, none⟩ = some (.int .i64 m.ver) := (blk_cell BK_gm.out 1).trans rfl; have hf_gm_1 := blk_frozen BK_gm.out 1; have hc_gm_2 : w5_.cell? ⟨gm, 2, none⟩ = some (.int .u8 m.code) := (blk_cell BK_gm.out 2).trans rfl; have hf_gm_2 := blk_frozen BK_gm.out 2; have hc_gm_3 : w5_.cell? ⟨gm, 3, none⟩ = some (.int .u32 m.grp) := (blk_cell BK_gm.out 3).trans rfl; have hf_gm_3 := blk_frozen BK_gm.out 3; have hc_gm_4 : w5_.cell? ⟨gm, 4, none⟩ = some (.bool m.quiet) := (blk_cell BK_gm.out 4).trans rfl; have hf_gm_4 := blk_frozen BK_gm.out 4; have hc_gm_5 : w5_.cell? ⟨gm, 5, none⟩ = some (.int .u8 m.rob) := (blk_cell BK_gm.out 5).trans rfl; have hf_gm_5 := blk_frozen BK_gm.out 5; have hc_gm_6 : w5_.cell? ⟨gm, 6, none⟩ = some (.int .u8 m.every) := (blk_cell BK_gm.out 6).trans rfl; have hf_gm_6 := blk_frozen BK_gm.out 6; have hc_gm_7 : w5_.cell? ⟨gm, 7, none⟩ = some (.slice A_s m.srcs.length c_s) := (blk_cell BK_gm.out 7).trans rfl; have hf_gm_7 := blk_frozen BK_gm.out 7; have hc_gm_8 : w5_.cell? ⟨gm, 8, none⟩ = some (.slice A_r m.recs.length c_r) := (blk_cell BK_gm.out 8).trans rfl; have hf_gm_8 := blk_frozen BK_gm.out 8; have HR_x := Aside0.mk (Kd.R_mono (Kd.R_lower hR hsz) (fun _ _ => trivial : ∀ k, _ → (fun _ => True) k)); clear hR hsz; clear hB))
      obtain ⟨ad, rfl⟩ : ∃ ad, A_x = some ad := by
        have := HX8.out
        obtain ⟨ad, _, h, _⟩ := Kd.C_get (Kd.R_reads' HR_x.out).2.2 (0 : Int) 0 (by omega) (by omega)
        exact ⟨ad, h⟩
      have hx0 := idx_cell0 (Kd.R_reads' HR_x.out).2.2 (by have := HX8.out; omega)
      have hx1 := idx_cell (Kd.R_reads' HR_x.out).2.2 1 (by decide) (by have := HX8.out; omega)
      rw [HX0.out] at hx0
      rw [show rd x ((1 : Nat) : Int) = m.code from HX1.out] at hx1
      have h80 : 0 < x.length := by have := HX8.out; omega
      have h81 : 1 < x.length := by have := HX8.out; omega
      go_quiet (fail)
      go_wp2
      go_ret
      exact ⟨rfl, pw_below_drewN HB.out _⟩
def nfalse (m : Msg) : Int := 8
set_option maxHeartbeats 8000000 in
set_option maxRecDepth 100000 in
theorem long_false {m : Msg} (l1 : m.srcs.length ≤ 140737488351232) (l2 : m.recs.length ≤ 140737488351232) (l3 : ∀ r ∈ m.recs, r.f2.length ≤ 140737488351232) (ho : m.Ok) (hf : fewB m = true) (hb : rightB m = true) (hv : (m.ver == 3) = false) (hl : m.recs.length ≤ 1000000) (hsl : m.srcs.length ≤ 1000000) {x : List Int} (hx : enc m = x) (hxl : (x.length : Int) = nfalse m + ((m.recs.flatMap rrow).length : Nat)) (hx8 : 8 ≤ x.length) (hx0 : rd x 0 = m.k) (hx1 : rd x 1 = m.code) (hfl : (m.recs.flatMap rrow).length ≤ 10000) (A_s : Option Addr) (c_s : Nat) (A_r : Option Addr) (c_r : Nat) (w : World) (hss : Kd.C (Kd.int .u32) w A_s m.srcs.length m.srcs) (hscs : m.srcs.length ≤ c_s) (hrr : Kd.C k44 w A_r m.recs.length m.recs) (hrcr : m.recs.length ≤ c_r) :
    Calls Try.prog 7 #[.agg #[.int .u8 m.k, .int .i64 m.ver, .int .u8 m.code, .int .u32 m.grp, .bool m.quiet, .int .u8 m.rob, .int .u8 m.every, .slice A_s m.srcs.length c_s, .slice A_r m.recs.length c_r]] w fun e w' => e = .returned (.bool true) ∧ Below w.heap.size w w' := by
  have hu27 := Try.underlying27
  have HB := Aside0.mk (Below.refl w.heap.size w)
  have HC_s := Aside0.mk hss
  have HK_s := Aside0.mk hscs
  have HC_r := Aside0.mk hrr
  have HK_r := Aside0.mk hrcr
  clear hss hscs hrr hrcr
  have HF := Aside0.mk hf
  have HG := Aside0.mk hb
  have HL := Aside0.mk hl
  have HO := Aside0.mk ho
  have HX := Aside0.mk hx
  have HXL := Aside0.mk hxl
  have HX8 := Aside0.mk hx8
  have HX0 := Aside0.mk hx0
  have HX1 := Aside0.mk hx1
  have HSL := Aside0.mk hsl
  have HFL := Aside0.mk hfl
  clear hf hb hl ho hx hxl hx8 hx0 hx1 hsl hfl
  have L1 := Aside0.mk l1
  have L2 := Aside0.mk l2
  have L3 := Aside0.mk l3
  clear l1 l2 l3
  go_enter Try.func7, Try.ntmps7
  go_upto_region 7 with (first | ((with_reducible refine gate_dst (N := 1) rfl ?_); (try (refine gate_guard (by rfl) ?_; dsimp only)); refine box_event ?hg (N := 1) ?hd (cs := #[.int .u8 m.k, .int .i64 m.ver, .int .u8 m.code, .int .u32 m.grp, .bool m.quiet, .int .u8 m.rob, .int .u8 m.every, .slice A_s m.srcs.length c_s, .slice A_r m.recs.length c_r]) (t := 27) ?hr ?_; (case hd => rfl); (case hg => rfl); (case hr => first | (go_simp; done) | (go_simp; rfl)); intro gm hg w1_ hbox hB; have HBo := Aside0.mk HB.out; have nHB := Aside0.mk (HB.out.trans (hB.mono HB.out.size)); clear HB; have HB := nHB; clear nHB; have BK_gm := Aside0.mk hbox; have GE_gm := Aside0.mk (show w.heap.size ≤ gm by rw [hg]; exact HBo.out.size); clear hg hbox hB; have hc_gm_0 : w1_.cell? ⟨gm, 0, none⟩ = some (.int .u8 m.k) := (blk_cell BK_gm.out 0).trans rfl; have hf_gm_0 := blk_frozen BK_gm.out 0; have hc_gm_1 : w1_.cell? ⟨gm, 1, none⟩ = some (.int .i64 m.ver) := (blk_cell BK_gm.out 1).trans rfl; have hf_gm_1 := blk_frozen BK_gm.out 1; have hc_gm_2 : w1_.cell? ⟨gm, 2, none⟩ = some (.int .u8 m.code) := (blk_cell BK_gm.out 2).trans rfl; have hf_gm_2 := blk_frozen BK_gm.out 2; have hc_gm_3 : w1_.cell? ⟨gm, 3, none⟩ = some (.int .u32 m.grp) := (blk_cell BK_gm.out 3).trans rfl; have hf_gm_3 := blk_frozen BK_gm.out 3; have hc_gm_4 : w1_.cell? ⟨gm, 4, none⟩ = some (.bool m.quiet) := (blk_cell BK_gm.out 4).trans rfl; have hf_gm_4 := blk_frozen BK_gm.out 4; have hc_gm_5 : w1_.cell? ⟨gm, 5, none⟩ = some (.int .u8 m.rob) := (blk_cell BK_gm.out 5).trans rfl; have hf_gm_5 := blk_frozen BK_gm.out 5; have hc_gm_6 : w1_.cell? ⟨gm, 6, none⟩ = some (.int .u8 m.every) := (blk_cell BK_gm.out 6).trans rfl; have hf_gm_6 := blk_frozen BK_gm.out 6; have hc_gm_7 : w1_.cell? ⟨gm, 7, none⟩ = some (.slice A_s m.srcs.length c_s) := (blk_cell BK_gm.out 7).trans rfl; have hf_gm_7 := blk_frozen BK_gm.out 7; have hc_gm_8 : w1_.cell? ⟨gm, 8, none⟩ = some (.slice A_r m.recs.length c_r) := (blk_cell BK_gm.out 8).trans rfl; have hf_gm_8 := blk_frozen BK_gm.out 8; clear HBo) | (go_at_call 11; with_reducible refine (shown_calls _).mono ?_; rintro e w2_ ⟨rfl, hB⟩; have nHB := Aside0.mk (HB.out.trans (hB.mono HB.out.size)); clear HB; have HB := nHB; clear nHB; clear hc_gm_0 hf_gm_0 hc_gm_1 hf_gm_1 hc_gm_2 hf_gm_2 hc_gm_3 hf_gm_3 hc_gm_4 hf_gm_4 hc_gm_5 hf_gm_5 hc_gm_6 hf_gm_6 hc_gm_7 hf_gm_7 hc_gm_8 hf_gm_8; have nBK := Aside0.mk (blk_below (g := gm) (o := .cells #[.int .u8 m.k, .int .i64 m.ver, .int .u8 m.code, .int .u32 m.grp, .bool m.quiet, .int .u8 m.rob, .int .u8 m.every, .slice A_s m.srcs.length c_s, .slice A_r m.recs.length c_r] 27 (0, 0)) BK_gm.out hB); clear BK_gm; have BK_gm := nBK; clear nBK; have hc_gm_0 : w2_.cell? ⟨gm, 0, none⟩ = some (.int .u8 m.k) := (blk_cell BK_gm.out 0).trans rfl; have hf_gm_0 := blk_frozen BK_gm.out 0; have hc_gm_1 : w2_.cell? ⟨gm, 1, none⟩ = some (.int .i64 m.ver) := (blk_cell BK_gm.out 1).trans rfl; have hf_gm_1 := blk_frozen BK_gm.out 1; have hc_gm_2 : w2_.cell? ⟨gm, 2, none⟩ = some (.int .u8 m.code) := (blk_cell BK_gm.out 2).trans rfl; have hf_gm_2 := blk_frozen BK_gm.out 2; have hc_gm_3 : w2_.cell? ⟨gm, 3, none⟩ = some (.int .u32 m.grp) := (blk_cell BK_gm.out 3).trans rfl; have hf_gm_3 := blk_frozen BK_gm.out 3; have hc_gm_4 : w2_.cell? ⟨gm, 4, none⟩ = some (.bool m.quiet) := (blk_cell BK_gm.out 4).trans rfl; have hf_gm_4 := blk_frozen BK_gm.out 4; have hc_gm_5 : w2_.cell? ⟨gm, 5, none⟩ = some (.int .u8 m.rob) := (blk_cell BK_gm.out 5).trans rfl; have hf_gm_5 := blk_frozen BK_gm.out 5; have hc_gm_6 : w2_.cell? ⟨gm, 6, none⟩ = some (.int .u8 m.every) := (blk_cell BK_gm.out 6).trans rfl; have hf_gm_6 := blk_frozen BK_gm.out 6; have hc_gm_7 : w2_.cell? ⟨gm, 7, none⟩ = some (.slice A_s m.srcs.length c_s) := (blk_cell BK_gm.out 7).trans rfl; have hf_gm_7 := blk_frozen BK_gm.out 7; have hc_gm_8 : w2_.cell? ⟨gm, 8, none⟩ = some (.slice A_r m.recs.length c_r) := (blk_cell BK_gm.out 8).trans rfl; have hf_gm_8 := blk_frozen BK_gm.out 8; clear hB) | (go_at_call 12; with_reducible refine (few_w HF.out L1.out L2.out L3.out _ _ _ _ _ (Kd.C_below HC_s.out HB.out) HK_s.out (Kd.C_below HC_r.out HB.out) HK_r.out).mono ?_; rintro e w3_ ⟨rfl, hB⟩; have nHB := Aside0.mk (HB.out.trans (hB.mono HB.out.size)); clear HB; have HB := nHB; clear nHB; clear hc_gm_0 hf_gm_0 hc_gm_1 hf_gm_1 hc_gm_2 hf_gm_2 hc_gm_3 hf_gm_3 hc_gm_4 hf_gm_4 hc_gm_5 hf_gm_5 hc_gm_6 hf_gm_6 hc_gm_7 hf_gm_7 hc_gm_8 hf_gm_8; have nBK := Aside0.mk (blk_below (g := gm) (o := .cells #[.int .u8 m.k, .int .i64 m.ver, .int .u8 m.code, .int .u32 m.grp, .bool m.quiet, .int .u8 m.rob, .int .u8 m.every, .slice A_s m.srcs.length c_s, .slice A_r m.recs.length c_r] 27 (0, 0)) BK_gm.out hB); clear BK_gm; have BK_gm := nBK; clear nBK; have hc_gm_0 : w3_.cell? ⟨gm, 0, none⟩ = some (.int .u8 m.k) := (blk_cell BK_gm.out 0).trans rfl; have hf_gm_0 := blk_frozen BK_gm.out 0; have hc_gm_1 : w3_.cell? ⟨gm, 1, none⟩ = some (.int .i64 m.ver) := (blk_cell BK_gm.out 1).trans rfl; have hf_gm_1 := blk_frozen BK_gm.out 1; have hc_gm_2 : w3_.cell? ⟨gm, 2, none⟩ = some (.int .u8 m.code) := (blk_cell BK_gm.out 2).trans rfl; have hf_gm_2 := blk_frozen BK_gm.out 2; have hc_gm_3 : w3_.cell? ⟨gm, 3, none⟩ = some (.int .u32 m.grp) := (blk_cell BK_gm.out 3).trans rfl; have hf_gm_3 := blk_frozen BK_gm.out 3; have hc_gm_4 : w3_.cell? ⟨gm, 4, none⟩ = some (.bool m.quiet) := (blk_cell BK_gm.out 4).trans rfl; have hf_gm_4 := blk_frozen BK_gm.out 4; have hc_gm_5 : w3_.cell? ⟨gm, 5, none⟩ = some (.int .u8 m.rob) := (blk_cell BK_gm.out 5).trans rfl; have hf_gm_5 := blk_frozen BK_gm.out 5; have hc_gm_6 : w3_.cell? ⟨gm, 6, none⟩ = some (.int .u8 m.every) := (blk_cell BK_gm.out 6).trans rfl; have hf_gm_6 := blk_frozen BK_gm.out 6; have hc_gm_7 : w3_.cell? ⟨gm, 7, none⟩ = some (.slice A_s m.srcs.length c_s) := (blk_cell BK_gm.out 7).trans rfl; have hf_gm_7 := blk_frozen BK_gm.out 7; have hc_gm_8 : w3_.cell? ⟨gm, 8, none⟩ = some (.slice A_r m.recs.length c_r) := (blk_cell BK_gm.out 8).trans rfl; have hf_gm_8 := blk_frozen BK_gm.out 8; clear hB) | (go_at_call 16; with_reducible refine (rright_w HG.out HL.out _ _ _ _ _ (Kd.C_below HC_s.out HB.out) HK_s.out (Kd.C_below HC_r.out HB.out) HK_r.out).mono ?_; rintro e w4_ ⟨rfl, hB⟩; have nHB := Aside0.mk (HB.out.trans (hB.mono HB.out.size)); clear HB; have HB := nHB; clear nHB; clear hc_gm_0 hf_gm_0 hc_gm_1 hf_gm_1 hc_gm_2 hf_gm_2 hc_gm_3 hf_gm_3 hc_gm_4 hf_gm_4 hc_gm_5 hf_gm_5 hc_gm_6 hf_gm_6 hc_gm_7 hf_gm_7 hc_gm_8 hf_gm_8; have nBK := Aside0.mk (blk_below (g := gm) (o := .cells #[.int .u8 m.k, .int .i64 m.ver, .int .u8 m.code, .int .u32 m.grp, .bool m.quiet, .int .u8 m.rob, .int .u8 m.every, .slice A_s m.srcs.length c_s, .slice A_r m.recs.length c_r] 27 (0, 0)) BK_gm.out hB); clear BK_gm; have BK_gm := nBK; clear nBK; have hc_gm_0 : w4_.cell? ⟨gm, 0, none⟩ = some (.int .u8 m.k) := (blk_cell BK_gm.out 0).trans rfl; have hf_gm_0 := blk_frozen BK_gm.out 0; have hc_gm_1 : w4_.cell? ⟨gm, 1, none⟩ = some (.int .i64 m.ver) := (blk_cell BK_gm.out 1).trans rfl; have hf_gm_1 := blk_frozen BK_gm.out 1; have hc_gm_2 : w4_.cell? ⟨gm, 2, none⟩ = some (.int .u8 m.code) := (blk_cell BK_gm.out 2).trans rfl; have hf_gm_2 := blk_frozen BK_gm.out 2; have hc_gm_3 : w4_.cell? ⟨gm, 3, none⟩ = some (.int .u32 m.grp) := (blk_cell BK_gm.out 3).trans rfl; have hf_gm_3 := blk_frozen BK_gm.out 3; have hc_gm_4 : w4_.cell? ⟨gm, 4, none⟩ = some (.bool m.quiet) := (blk_cell BK_gm.out 4).trans rfl; have hf_gm_4 := blk_frozen BK_gm.out 4; have hc_gm_5 : w4_.cell? ⟨gm, 5, none⟩ = some (.int .u8 m.rob) := (blk_cell BK_gm.out 5).trans rfl; have hf_gm_5 := blk_frozen BK_gm.out 5; have hc_gm_6 : w4_.cell? ⟨gm, 6, none⟩ = some (.int .u8 m.every) := (blk_cell BK_gm.out 6).trans rfl; have hf_gm_6 := blk_frozen BK_gm.out 6; have hc_gm_7 : w4_.cell? ⟨gm, 7, none⟩ = some (.slice A_s m.srcs.length c_s) := (blk_cell BK_gm.out 7).trans rfl; have hf_gm_7 := blk_frozen BK_gm.out 7; have hc_gm_8 : w4_.cell? ⟨gm, 8, none⟩ = some (.slice A_r m.recs.length c_r) := (blk_cell BK_gm.out 8).trans rfl; have hf_gm_8 := blk_frozen BK_gm.out 8; clear hB))
  clear hv
  go_wp2
  go_loop [4, 5] (fun n i => ∃ (k : Nat) (s : Int), k ≤ m.recs.length ∧ i = .int .i64 k ∧ n = .int .i64 s ∧ Aside0 (s = nfalse m + (((m.recs.take k).flatMap rrow).length : Nat))) (fun _ i => m.recs.length - (intOf i).toNat)
  case atStart => exact ⟨0, _, Nat.zero_le _, rfl, rfl, ⟨by rw [List.take_zero]; unfold nfalse; simp⟩⟩
  case round =>
    obtain ⟨k, s, hk, rfl, rfl, HS⟩ := hrel
    have hmon : ((m.recs.take k).flatMap rrow).length ≤ 10000 := by
      have h1 : ((m.recs.take k).flatMap rrow).length + ((m.recs.drop k).flatMap rrow).length = (m.recs.flatMap rrow).length := by rw [← List.length_append, ← List.flatMap_append, List.take_append_drop]
      have := HFL.out
      omega
    have hs0 : 0 ≤ s := by rw [HS.out]; unfold nfalse; omega
    have hs1 : s ≤ 100000000 := by
      have := HSL.out
      rw [HS.out]; unfold nfalse; omega
    clear hmon
    by_cases hlt : k < m.recs.length
    · have hrl := HL.out
      have hc5 : decide ((k : Int) < (m.recs.length : Int)) = true := decide_eq_true (by omega)
      have p1 : (0 : Int) ≤ (k : Int) := by omega
      have p2 : (k : Int) < (m.recs.length : Int) := by omega
      obtain ⟨ad, A2, c2, e, hx0, hx1, hx2, hl2, hi2⟩ := at_T44 (Kd.C_below HC_r.out HB.out) (k : Int) p1 p2
      subst e
      rw [Int.toNat_natCast] at hx0 hx1 hx2
      have hrk : rd_T44 m.recs (k : Int) = m.recs[k] := rd44_get hlt
      have hql : (rd_T44 m.recs (k : Int)).f2.length ≤ 10000 := by
        have h1 := flat_take_len (recs := m.recs) k hlt
        rw [rrow_long] at h1
        have := HFL.out
        rw [hrk]
        omega
      have HT := Aside0.mk (show ((m.recs.take (k + 1)).flatMap rrow).length = ((m.recs.take k).flatMap rrow).length + (8 + 4 * (rd_T44 m.recs (k : Int)).f2.length) by
        rw [List.take_succ_eq_append_getElem hlt, List.flatMap_append, List.length_append, hrk]
        simp only [List.flatMap_cons, List.flatMap_nil, List.append_nil, rrow_long])
      clear hrk hi2 hl2
      generalize (rd_T44 m.recs (k : Int)).f2.length = q at hx2 hql HT
      replace p1 := eq_true p1
      replace p2 := eq_true p2
      go_wp2
      go_round
      case rel => exact ⟨k + 1, s + 8 + 4 * (q : Int), by omega, by go_num, by go_num, ⟨by rw [HT.out, HS.out]; push_cast; omega⟩⟩
      case measure => simp [intOf]; omega
    · have hke : k = m.recs.length := by omega
      obtain rfl : s = (x.length : Int) := by rw [HS.out, HXL.out, hke, List.take_length]
      clear hke hk HS hs0 hs1
      go_wp2_with (first | (go_at_call 13; with_reducible refine (encok_w HO.out HG.out HX.out _ _ _ _ _ (Kd.C_below HC_s.out HB.out) HK_s.out (Kd.C_below HC_r.out HB.out) HK_r.out).mono ?_; rintro e w5_ ⟨v_x, rfl, hR, hB⟩; obtain ⟨A_x, c_x, rfl⟩ := Kd.R_slice hR; have hsz := HB.out.size; have nHB := Aside0.mk (HB.out.trans (hB.mono HB.out.size)); clear HB; have HB := nHB; clear nHB; clear hc_gm_0 hf_gm_0 hc_gm_1 hf_gm_1 hc_gm_2 hf_gm_2 hc_gm_3 hf_gm_3 hc_gm_4 hf_gm_4 hc_gm_5 hf_gm_5 hc_gm_6 hf_gm_6 hc_gm_7 hf_gm_7 hc_gm_8 hf_gm_8; have nBK := Aside0.mk (blk_below (g := gm) (o := .cells #[.int .u8 m.k, .int .i64 m.ver, .int .u8 m.code, .int .u32 m.grp, .bool m.quiet, .int .u8 m.rob, .int .u8 m.every, .slice A_s m.srcs.length c_s, .slice A_r m.recs.length c_r] 27 (0, 0)) BK_gm.out hB); clear BK_gm; have BK_gm := nBK; clear nBK; have hc_gm_0 : w5_.cell? ⟨gm, 0, none⟩ = some (.int .u8 m.k) := (blk_cell BK_gm.out 0).trans rfl; have hf_gm_0 := blk_frozen BK_gm.out 0; have hc_gm_1 : w5_.cell? ⟨gm, 1, none⟩ = some (.int .i64 m.ver) := (blk_cell BK_gm.out 1).trans rfl; have hf_gm_1 := blk_frozen BK_gm.out 1; have hc_gm_2 : w5_.cell? ⟨gm, 2, none⟩ = some (.int .u8 m.code) := (blk_cell BK_gm.out 2).trans rfl; have hf_gm_2 := blk_frozen BK_gm.out 2; have hc_gm_3 : w5_.cell? ⟨gm, 3, none⟩ = some (.int .u32 m.grp) := (blk_cell BK_gm.out 3).trans rfl; have hf_gm_3 := blk_frozen BK_gm.out 3; have hc_gm_4 : w5_.cell? ⟨gm, 4, none⟩ = some (.bool m.quiet) := (blk_cell BK_gm.out 4).trans rfl; have hf_gm_4 := blk_frozen BK_gm.out 4; have hc_gm_5 : w5_.cell? ⟨gm, 5, none⟩ = some (.int .u8 m.rob) := (blk_cell BK_gm.out 5).trans rfl; have hf_gm_5 := blk_frozen BK_gm.out 5; have hc_gm_6 : w5_.cell? ⟨gm, 6, none⟩ = some (.int .u8 m.every) := (blk_cell BK_gm.out 6).trans rfl; have hf_gm_6 := blk_frozen BK_gm.out 6; have hc_gm_7 : w5_.cell? ⟨gm, 7, none⟩ = some (.slice A_s m.srcs.length c_s) := (blk_cell BK_gm.out 7).trans rfl; have hf_gm_7 := blk_frozen BK_gm.out 7; have hc_gm_8 : w5_.cell? ⟨gm, 8, none⟩ = some (.slice A_r m.recs.length c_r) := (blk_cell BK_gm.out 8).trans rfl; have hf_gm_8 := blk_frozen BK_gm.out 8; have HR_x := Aside0.mk (Kd.R_mono (Kd.R_lower hR hsz) (fun _ _ => trivial : ∀ k, _ → (fun _ => True) k)); clear hR hsz; clear hB))
      obtain ⟨ad, rfl⟩ : ∃ ad, A_x = some ad := by
        have := HX8.out
        obtain ⟨ad, _, h, _⟩ := Kd.C_get (Kd.R_reads' HR_x.out).2.2 (0 : Int) 0 (by omega) (by omega)
        exact ⟨ad, h⟩
      have hx0 := idx_cell0 (Kd.R_reads' HR_x.out).2.2 (by have := HX8.out; omega)
      have hx1 := idx_cell (Kd.R_reads' HR_x.out).2.2 1 (by decide) (by have := HX8.out; omega)
      rw [HX0.out] at hx0
      rw [show rd x ((1 : Nat) : Int) = m.code from HX1.out] at hx1
      have h80 : 0 < x.length := by have := HX8.out; omega
      have h81 : 1 < x.length := by have := HX8.out; omega
      go_quiet (fail)
      go_wp2
      go_ret
      exact ⟨rfl, pw_below_drewN HB.out _⟩
theorem rd0_enc {m : Msg} : rd (enc m) 0 = m.k := by
  obtain ⟨x, y, e⟩ := mb_put m
  rw [show enc m = _ from e]; rfl
theorem rd1_enc {m : Msg} : rd (enc m) 1 = m.code := by
  obtain ⟨x, y, e⟩ := mb_put m
  rw [show enc m = _ from e]; rfl
theorem igmpLong_call {m : Msg} (ho : m.Ok) (l1 : m.srcs.length ≤ 140737488351232) (l2 : m.recs.length ≤ 140737488351232) (l3 : ∀ r ∈ m.recs, r.f2.length ≤ 140737488351232) (A_s : Option Addr) (c_s : Nat) (A_r : Option Addr) (c_r : Nat) (w : World) (hss : Kd.C (Kd.int .u32) w A_s m.srcs.length m.srcs) (hscs : m.srcs.length ≤ c_s) (hrr : Kd.C k44 w A_r m.recs.length m.recs) (hrcr : m.recs.length ≤ c_r) : Calls Try.prog 7 #[.agg #[.int .u8 m.k, .int .i64 m.ver, .int .u8 m.code, .int .u32 m.grp, .bool m.quiet, .int .u8 m.rob, .int .u8 m.every, .slice A_s m.srcs.length c_s, .slice A_r m.recs.length c_r]] w fun e w' => e = .returned (.bool true) ∧ Below w.heap.size w w' := by
  cases hf : fewB m
  · exact long_few l1 l2 l3 hf A_s c_s A_r c_r w hss hscs hrr hrcr
  have hz := few_size hf
  have hz1 : m.recs.length ≤ 1000000 := by unfold Msg.size recK at hz; omega
  have hz2 : m.srcs.length ≤ 1000000 := by unfold Msg.size at hz; omega
  cases hb : rightB m
  · exact long_wrong l1 l2 l3 hf hb hz1 A_s c_s A_r c_r w hss hscs hrr hrcr
  have hv := right_view hb
  have h1 := mb_len hv
  have h2 := mb_max hv
  have h8 := mb_8 hv
  by_cases v : m.ver = 3
  · rw [if_pos v] at h1
    exact long_true l1 l2 l3 ho hf hb (by simp [v]) hz1 hz2 rfl (by rw [enc_len, h1]; unfold ntrue; push_cast; omega) (by rw [enc_len]; exact h8) rd0_enc rd1_enc (by omega) A_s c_s A_r c_r w hss hscs hrr hrcr
  · rw [if_neg v] at h1
    exact long_false l1 l2 l3 ho hf hb (by simp [v]) hz1 hz2 rfl (by rw [enc_len, h1]; unfold nfalse; push_cast; omega) (by rw [enc_len]; exact h8) rd0_enc rd1_enc (by omega) A_s c_s A_r c_r w hss hscs hrr hrcr
end Go.Proofs.Ytmmjmncchckbbaa
