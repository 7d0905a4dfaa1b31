/-
  Which messages are right by the document's answer: in plain words.
-/
import Derived.Test.YtmmjmncchckbbaaIgX
import Derived.Test.YtmmjmncchckbbaaPIgx5
import Derived.Test.YtmmjmncchckbbaaIgC
namespace Go.Proofs.Ytmmjmncchckbbaa
open Go.RowKit Go.Proofs.YtmmjmncchckbbaaW.PrintWords Go.Proofs.Ytmmjmncchckbbaa.PIg
set_option linter.unusedVariables false
set_option linter.unusedSimpArgs false
theorem rr_l0 (x : List S44) (hx : x.length ≤ 1000000) (a b c e : Int) (q : Bool) (f g : Int) (s : List Int) : ∀ (d i k : Nat), i + d = x.length → d < k → stolonref05_Right.l0 k (i : Int) a b c e q f g s x = some ((x.drop i).all recB)
  | 0, i, k + 1, h, _ => by
    unfold stolonref05_Right.l0
    rw [if_neg (by omega), List.drop_eq_nil_of_le (by omega)]; rfl
  | d + 1, i, k + 1, h, hk => by
    have hi : i < x.length := by omega
    unfold stolonref05_Right.l0
    rw [if_pos (by omega), if_pos (by omega), rd44_get hi, refAsked_some, List.drop_eq_getElem_cons hi, List.all_cons]
    simp only [Option.bind_some]
    unfold recB
    by_cases h1 : x[i].f0 < 1
    · rw [if_pos h1, decide_eq_false (show ¬ 1 ≤ x[i].f0 by omega)]; simp
    rw [if_neg h1, decide_eq_true (show 1 ≤ x[i].f0 by omega)]
    by_cases h6 : x[i].f0 > 6
    · rw [if_pos h6, decide_eq_false (show ¬ x[i].f0 ≤ 6 by omega)]; simp
    rw [if_neg h6, decide_eq_true (show x[i].f0 ≤ 6 by omega)]
    cases ha : askB x[i].f1
    · simp
    rw [if_pos rfl]
    by_cases hl : (x[i].f2.length : Int) > 64
    · rw [if_pos hl, decide_eq_false (show ¬ x[i].f2.length ≤ 64 by omega)]; simp
    rw [if_neg hl, decide_eq_true (show x[i].f2.length ≤ 64 by omega), wr1 (by omega), rr_l0 x hx a b c e q f g s d (i + 1) k (by omega) (by omega)]
    simp only [Bool.true_and]; rfl
theorem refRight_some {k : Nat} (m : Msg) (hl : m.recs.length ≤ 1000000) (hk : m.recs.length + 3 < k) :
    stolonref05_Right.f k m.k m.ver m.code m.grp m.quiet m.rob m.every m.srcs m.recs = some (rightB m) := by
  obtain ⟨k, rfl⟩ : ∃ k', k = k' + 3 := ⟨k - 3, by omega⟩
  obtain ⟨kd, ver, code, grp, quiet, rob, every, srcs, recs⟩ := m
  simp only at hl hk ⊢
  have main : ∀ B : Bool, (B = true ↔ quiet = false ∧ rob = 0 ∧ every = 0 ∧ srcs = []) → stolonref05_Right.j0 (k + 3) B kd ver code grp quiet rob every srcs recs = some (rightB ⟨kd, ver, code, grp, quiet, rob, every, srcs, recs⟩) := by
    intro B hB
    have hB' : B = decide (quiet = false ∧ rob = 0 ∧ every = 0 ∧ srcs = []) := by
      cases B
      · simp only [Bool.false_eq_true, false_iff] at hB; simp only [hB, decide_false]
      · simp only [true_iff] at hB; simp only [hB, and_self, decide_true]
    rw [stolonref05_Right.j0, refAsked_some]
    simp only [Option.bind_some]
    unfold rightB
    dsimp only
    by_cases h34 : kd = 34
    · subst h34
      rw [if_pos (rfl : (34 : Int) = 34), if_neg (show ¬ (34 : Int) = 17 by decide), if_neg (show ¬ ((34 : Int) = 18 ∨ (34 : Int) = 22 ∨ (34 : Int) = 23) by decide), if_pos (rfl : (34 : Int) = 34)]
      have t : stolonref05_Right.j1 (k + 2) true 34 ver code grp quiet rob every srcs recs = some false := by rw [stolonref05_Right.j1]; rfl
      by_cases hb : B = true
      · rw [if_pos hb]
        obtain ⟨rfl, rfl, rfl, rfl⟩ := hB.1 hb
        by_cases h1 : ver = 0
        · rw [if_pos h1]
          by_cases h2 : code = 0
          · rw [if_pos h2]
            by_cases h3 : grp = 0
            · rw [if_pos h3, stolonref05_Right.j1]
              subst h1 h2 h3
              by_cases h4 : (recs.length : Int) > 32
              · rw [decide_eq_true h4, if_pos rfl]; simp; omega
              · rw [decide_eq_false h4, if_neg (by decide)]
                have := rr_l0 recs hl 34 0 0 0 false 0 0 [] recs.length 0 (k + 1) (by omega) (by omega)
                rw [show stolonref05_Right.l0 (k + 1) 0 34 0 0 0 false 0 0 [] recs = _ from this]
                simp; omega
            · rw [if_neg h3, t]; simp [h3]
          · rw [if_neg h2, t]; simp [h2]
        · rw [if_neg h1, t]; simp [h1]
      · rw [if_neg hb, t]
        have hb' : ¬ (quiet = false ∧ rob = 0 ∧ every = 0 ∧ srcs = []) := fun h => hb (hB.2 h)
        have : ¬ ((⟨34, ver, code, grp, quiet, rob, every, srcs, recs⟩ : Msg) = ⟨34, 0, 0, 0, false, 0, 0, [], recs⟩) := fun h => by
          injection h with _ _ _ _ a b c d
          exact hb' ⟨a, b, c, d⟩
        rw [decide_eq_false this]; simp
    · rw [if_neg h34]
      by_cases hr : (recs.length : Int) > 0
      · rw [if_pos hr]
        have hne : recs ≠ [] := fun h => by rw [h] at hr; simp at hr
        by_cases h17 : kd = 17
        · rw [if_pos h17]
          unfold queryB
          dsimp only
          simp [hne]
        · rw [if_neg h17]
          by_cases hp : kd = 18 ∨ kd = 22 ∨ kd = 23
          · rw [if_pos hp]; simp [hne]
          · rw [if_neg hp, if_neg h34]
      · rw [if_neg hr]
        obtain rfl : recs = [] := List.length_eq_zero_iff.1 (by omega)
        have j3 : ∀ P : Bool, (P = true ↔ (kd = 18 ∨ kd = 22 ∨ kd = 23)) → stolonref05_Right.j3 (k + 2) B (askB grp) P kd ver code grp quiet rob every srcs [] = some (rightB ⟨kd, ver, code, grp, quiet, rob, every, srcs, []⟩) := by
          intro P hP
          rw [stolonref05_Right.j3]
          unfold rightB
          dsimp only
          by_cases hp : P = true
          · have hp' := hP.1 hp
            rw [if_pos hp, if_neg (show ¬ kd = 17 by omega), if_pos hp']
            by_cases hb : B = true
            · rw [if_pos hb]
              obtain ⟨rfl, rfl, rfl, rfl⟩ := hB.1 hb
              by_cases h1 : ver = 0
              · rw [if_pos h1]
                by_cases h2 : code = 0
                · rw [if_pos h2]; simp [h1, h2]
                · rw [if_neg h2]; simp [h2]
              · rw [if_neg h1]; simp [h1]
            · rw [if_neg hb]
              have hb' : ¬ (quiet = false ∧ rob = 0 ∧ every = 0 ∧ srcs = []) := fun h => hb (hB.2 h)
              have : ¬ ((⟨kd, ver, code, grp, quiet, rob, every, srcs, []⟩ : Msg) = ⟨kd, 0, 0, grp, false, 0, 0, [], []⟩) := fun h => by
                injection h with _ _ _ _ a b c d
                exact hb' ⟨a, b, c, d⟩
              rw [decide_eq_false this]; simp
          · rw [if_neg hp, if_neg (fun h => hp (hP.2 h))]
            by_cases h17 : kd = 17
            · rw [if_pos h17, if_pos h17]
              subst h17
              unfold queryB
              dsimp only
              by_cases v1 : ver = 1
              · rw [if_pos v1, if_pos v1]
                by_cases hb : B = true
                · rw [if_pos hb]
                  obtain ⟨rfl, rfl, rfl, rfl⟩ := hB.1 hb
                  by_cases h2 : code = 0
                  · rw [if_pos h2]; subst v1 h2; by_cases hg : grp = 0 <;> simp [hg]
                  · rw [if_neg h2]; simp [h2]
                · rw [if_neg hb]
                  have hb' : ¬ (quiet = false ∧ rob = 0 ∧ every = 0 ∧ srcs = []) := fun h => hb (hB.2 h)
                  have : ¬ ((⟨17, ver, code, grp, quiet, rob, every, srcs, []⟩ : Msg) = ⟨17, 1, 0, 0, false, 0, 0, [], []⟩) := fun h => by
                    injection h with _ _ _ _ a b c d
                    exact hb' ⟨a, b, c, d⟩
                  rw [decide_eq_false this]
              rw [if_neg v1, if_neg v1]
              by_cases v2 : ver = 2
              · rw [if_pos v2, if_pos v2]
                subst v2
                by_cases hb : B = true
                · rw [if_pos hb]
                  obtain ⟨rfl, rfl, rfl, rfl⟩ := hB.1 hb
                  by_cases h2 : code > 0
                  · rw [if_pos h2]
                    unfold grpB
                    by_cases h3 : grp = 0
                    · rw [if_pos h3]; simp [h3]; omega
                    · rw [if_neg h3, if_neg h3]; simp; omega
                  · rw [if_neg h2]; simp [h2]
                · rw [if_neg hb]
                  have hb' : ¬ (quiet = false ∧ rob = 0 ∧ every = 0 ∧ srcs = []) := fun h => hb (hB.2 h)
                  have : ¬ ((⟨17, 2, code, grp, quiet, rob, every, srcs, []⟩ : Msg) = ⟨17, 2, code, grp, false, 0, 0, [], []⟩) := fun h => by
                    injection h with _ _ _ _ a b c d
                    exact hb' ⟨a, b, c, d⟩
                  rw [decide_eq_false this]; simp
              rw [if_neg v2, if_neg v2]
              by_cases v3 : ver = 3
              · rw [if_pos v3, if_pos v3]
                by_cases h8 : rob < 8
                · rw [if_pos h8, decide_eq_true (show rob ≤ 7 by omega)]
                  by_cases h64 : (srcs.length : Int) ≤ 64
                  · rw [if_pos h64, decide_eq_true (show srcs.length ≤ 64 by omega)]
                    unfold grpB
                    cases ha : askB grp
                    · rw [if_neg (by decide)]
                      by_cases h3 : grp = 0
                      · rw [if_pos h3, if_pos h3]; simp only [h3]; cases srcs <;> simp; omega
                      · rw [if_neg h3, if_neg h3]; simp
                    · rw [if_pos rfl]
                      by_cases h3 : grp = 0
                      · rw [h3] at ha; exact absurd ha (by decide)
                      · rw [if_neg h3]; simp [h3]
                  · rw [if_neg h64, decide_eq_false (show ¬ srcs.length ≤ 64 by omega)]; simp
                · rw [if_neg h8, decide_eq_false (show ¬ rob ≤ 7 by omega)]; simp
              · rw [if_neg v3, if_neg v3]
            · rw [if_neg h17, if_neg h17]; simp [h34]
        unfold rightB at j3
        dsimp only at j3
        by_cases h18 : kd = 18
        · rw [if_pos h18, j3 true (by simp [h18])]
        · rw [if_neg h18]
          by_cases h22 : kd = 22
          · rw [if_pos h22, j3 true (by simp [h22])]
          · rw [if_neg h22, j3 (kd == 23) (by simp [h18, h22])]
  unfold stolonref05_Right.f
  cases quiet
  · rw [if_neg (by decide)]
    by_cases h5 : rob = 0
    · rw [if_pos h5]
      by_cases h6 : every = 0
      · rw [if_pos h6]; exact main _ (by simp [h5, h6])
      · rw [if_neg h6]; exact main _ (by simp [h6])
    · rw [if_neg h5]; exact main _ (by simp [h5])
  · rw [if_pos rfl]; exact main _ (by simp)
end Go.Proofs.Ytmmjmncchckbbaa
/-
  Contracts over messages: right by the document.
-/
namespace Go.Proofs.Ytmmjmncchckbbaa
open Go.RowKit Go.Proofs.YtmmjmncchckbbaaW.PrintWords Go.Proofs.YtmmjmncchckbbaaW.PrintLast Go.Proofs.YtmmjmncchckbbaaW.PrintMore Go.Proofs.Ytmmjmncchckbbaa.PIg
set_option linter.unusedVariables false
set_option linter.unusedSimpArgs false
theorem rright_w {m : Msg} {b : Bool} (hb : rightB m = b) (hl : m.recs.length ≤ 1000000) (A_s : Option Addr) (c_s : Nat) (A_r : Option Addr) (c_r : Nat) (w : World) (hss : Kd.C (Kd.int .u32) w A_s m.srcs.length m.srcs) (hscs : m.srcs.length ≤ c_s) (hrr : Kd.C k44 w A_r m.recs.length m.recs) (hrcr : m.recs.length ≤ c_r) : Calls Try.prog 16 #[.agg #[.int .u8 m.k, .int .i64 m.ver, .int .u8 m.code, .int .u32 m.grp, .bool m.quiet, .int .u8 m.rob, .int .u8 m.every, .slice A_s m.srcs.length c_s, .slice A_r m.recs.length c_r]] w fun e w' => e = .returned (.bool b) ∧ Below w.heap.size w w' :=
  stolonref05_Right.calls (m.recs.length + 4) m.k m.ver m.code m.grp m.quiet m.rob m.every A_s c_s m.srcs A_r c_r m.recs b w hss hscs hrr hrcr (by rw [refRight_some m hl (Nat.lt_succ_self _), hb])
end Go.Proofs.Ytmmjmncchckbbaa
