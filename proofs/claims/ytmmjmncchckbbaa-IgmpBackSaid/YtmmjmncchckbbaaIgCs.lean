/-
  Which messages are the same by the document's answer: in plain words.
-/
import Derived.Test.YtmmjmncchckbbaaIgX
import Derived.Test.YtmmjmncchckbbaaPIgx7
import Derived.Test.YtmmjmncchckbbaaIgC
namespace Go.Proofs.Ytmmjmncchckbbaa
open Go.RowKit Go.Proofs.YtmmjmncchckbbaaW.PrintWords Go.Proofs.Ytmmjmncchckbbaa.PIg
set_option linter.unusedVariables false
set_option linter.unusedSimpArgs false
theorem rows_l0 (x y : List Int) (hxy : x.length = y.length) (hm : x.length ≤ 1000000) : ∀ (d i k : Nat), i + d = x.length → d < k → stolonref01_Rows.l0 k x y (i : Int) = some (decide (x.drop i = y.drop i))
  | 0, i, k + 1, h, _ => by
    unfold stolonref01_Rows.l0
    rw [if_neg (by omega), List.drop_eq_nil_of_le (by omega), List.drop_eq_nil_of_le (by omega)]; rfl
  | d + 1, i, k + 1, h, hk => by
    unfold stolonref01_Rows.l0
    rw [if_pos (by omega), if_pos (by omega), if_pos (by omega), rd_get (by omega), rd_get (by omega : i < y.length), wr1 (by omega), rows_l0 x y hxy hm d (i + 1) k (by omega) (by omega),
      List.drop_eq_getElem_cons (by omega : i < x.length), List.drop_eq_getElem_cons (by omega : i < y.length)]
    by_cases he : x[i]'(by omega) = y[i]'(by omega)
    · rw [if_pos he]; exact congrArg some (decide_eq_decide.2 ⟨fun h => by rw [he, h], fun h => (List.cons.inj h).2⟩)
    · rw [if_neg he, decide_eq_false (fun h => he (List.cons.inj h).1)]
theorem rows_some {k : Nat} {x y : List Int} (hm : x.length ≤ 1000000) (hk : x.length < k) : stolonref01_Rows.f k x y = some (decide (x = y)) := by
  unfold stolonref01_Rows.f
  by_cases h : x.length = y.length
  · rw [if_pos (by omega)]
    have := rows_l0 x y h hm x.length 0 k (by omega) hk
    simpa using this
  · rw [if_neg (by omega), decide_eq_false (fun e => h (by rw [e]))]
theorem rec1_some {k : Nat} {a b : S44} (hm : a.f2.length ≤ 1000000) (hk : a.f2.length < k) : stolonref05_Rec.f k a.f0 a.f1 a.f2 b.f0 b.f1 b.f2 = some (decide (a = b)) := by
  obtain ⟨a0, a1, a2⟩ := a
  obtain ⟨b0, b1, b2⟩ := b
  unfold stolonref05_Rec.f
  rw [rows_some hm hk]
  by_cases h0 : a0 = b0
  · by_cases h1 : a1 = b1
    · simp [h0, h1]
    · simp [h0, h1]
  · simp [h0]
theorem recs_l0 (x y : List S44) (hxy : x.length = y.length) (hm : recK x ≤ 1000000) : ∀ (d i k : Nat), i + d = x.length → d + recK x < k → stolonref05_Recs.l0 k x y (i : Int) = some (decide (x.drop i = y.drop i))
  | 0, i, k + 1, h, _ => by
    unfold stolonref05_Recs.l0
    rw [if_neg (by omega), List.drop_eq_nil_of_le (by omega), List.drop_eq_nil_of_le (by omega)]; rfl
  | d + 1, i, k + 1, h, hk => by
    have hi : i < x.length := by omega
    have hr := recK_mem (List.getElem_mem hi)
    unfold stolonref05_Recs.l0
    rw [if_pos (by omega), if_pos (by omega), if_pos (by omega), rd44_get hi, rd44_get (by omega : i < y.length), rec1_some (by omega) (by omega)]
    simp only [Option.bind_some]
    rw [wr1 (by have : x.length ≤ recK x := by unfold recK; omega
                omega), recs_l0 x y hxy hm d (i + 1) k (by omega) (by omega),
      List.drop_eq_getElem_cons hi, List.drop_eq_getElem_cons (by omega : i < y.length)]
    by_cases he : x[i]'hi = y[i]'(by omega)
    · rw [decide_eq_true he, if_pos rfl]; exact congrArg some (decide_eq_decide.2 ⟨fun h => by rw [he, h], fun h => (List.cons.inj h).2⟩)
    · rw [decide_eq_false he, if_neg (by decide), decide_eq_false (fun h => he (List.cons.inj h).1)]
theorem recs_some {k : Nat} {x y : List S44} (hm : recK x ≤ 1000000) (hk : x.length + recK x < k) : stolonref05_Recs.f k x y = some (decide (x = y)) := by
  unfold stolonref05_Recs.f
  by_cases h : x.length = y.length
  · rw [if_pos (by omega)]
    have := recs_l0 x y h hm x.length 0 k (by omega) hk
    simpa using this
  · rw [if_neg (by omega), decide_eq_false (fun e => h (by rw [e]))]
theorem refSame_some {K : Nat} (m n : Msg) (hm : m.size ≤ 1000000) (hk : m.size < K) :
    stolonref05_Same.f K m.k m.ver m.code m.grp m.quiet m.rob m.every m.srcs m.recs n.k n.ver n.code n.grp n.quiet n.rob n.every n.srcs n.recs = some (decide (m = n)) := by
  have hrl : m.recs.length ≤ recK m.recs := by unfold recK; omega
  have hsz : m.size = m.srcs.length + 2 * recK m.recs := rfl
  obtain ⟨a0, a1, a2, a3, a4, a5, a6, a7, a8⟩ := m
  obtain ⟨b0, b1, b2, b3, b4, b5, b6, b7, b8⟩ := n
  simp only at *
  unfold stolonref05_Same.f
  rw [rows_some (by omega) (by omega), recs_some (by omega) (by omega)]
  simp only [Msg.mk.injEq]
  by_cases h0 : a0 = b0
  · by_cases h1 : a1 = b1
    · by_cases h2 : a2 = b2
      · by_cases h3 : a3 = b3
        · by_cases h4 : a4 = b4
          · by_cases h5 : a5 = b5
            · by_cases h6 : a6 = b6
              · by_cases h7 : a7 = b7 <;> simp [*]
              · simp [*]
            · simp [*]
          · have : (a4 == b4) = false := by simp [h4]
            simp [*]
        · simp [*]
      · simp [*]
    · simp [*]
  · simp [*]
end Go.Proofs.Ytmmjmncchckbbaa
/-
  Contracts over messages: the same by the document.
-/
namespace Go.Proofs.Ytmmjmncchckbbaa
open Go.RowKit Go.Proofs.YtmmjmncchckbbaaW.PrintWords Go.Proofs.YtmmjmncchckbbaaW.PrintLast Go.Proofs.YtmmjmncchckbbaaW.PrintMore Go.Proofs.Ytmmjmncchckbbaa.PIg
set_option linter.unusedVariables false
set_option linter.unusedSimpArgs false
theorem rsame_w {m n : Msg} {b : Bool} (hb : decide (m = n) = b) (hl : m.size ≤ 1000000) (A_s : Option Addr) (c_s : Nat) (A_r : Option Addr) (c_r : Nat) (B_s : Option Addr) (d_s : Nat) (B_r : Option Addr) (d_r : Nat) (w : World) (hss : Kd.C (Kd.int .u32) w A_s m.srcs.length m.srcs) (hscs : m.srcs.length ≤ c_s) (hrr : Kd.C k44 w A_r m.recs.length m.recs) (hrcr : m.recs.length ≤ c_r) (hss2 : Kd.C (Kd.int .u32) w B_s n.srcs.length n.srcs) (hscs2 : n.srcs.length ≤ d_s) (hrr2 : Kd.C k44 w B_r n.recs.length n.recs) (hrcr2 : n.recs.length ≤ d_r) : Calls Try.prog 19 #[.agg #[.int .u8 m.k, .int .i64 m.ver, .int .u8 m.code, .int .u32 m.grp, .bool m.quiet, .int .u8 m.rob, .int .u8 m.every, .slice A_s m.srcs.length c_s, .slice A_r m.recs.length c_r], .agg #[.int .u8 n.k, .int .i64 n.ver, .int .u8 n.code, .int .u32 n.grp, .bool n.quiet, .int .u8 n.rob, .int .u8 n.every, .slice B_s n.srcs.length d_s, .slice B_r n.recs.length d_r]] w fun e w' => e = .returned (.bool b) ∧ Below w.heap.size w w' :=
  stolonref05_Same.calls (m.size + 1) m.k m.ver m.code m.grp m.quiet m.rob m.every A_s c_s m.srcs A_r c_r m.recs n.k n.ver n.code n.grp n.quiet n.rob n.every B_s d_s n.srcs B_r d_r n.recs b w hss hscs hrr hrcr hss2 hscs2 hrr2 hrcr2 (by rw [refSame_some m n hl (Nat.lt_succ_self _), hb])
theorem rself_w {m : Msg} (hl : m.size ≤ 1000000) (A_s : Option Addr) (c_s : Nat) (A_r : Option Addr) (c_r : Nat) (B_s : Option Addr) (d_s : Nat) (B_r : Option Addr) (d_r : Nat) (w : World) (hss : Kd.C (Kd.int .u32) w A_s m.srcs.length m.srcs) (hscs : m.srcs.length ≤ c_s) (hrr : Kd.C k44 w A_r m.recs.length m.recs) (hrcr : m.recs.length ≤ c_r) (hss2 : Kd.C (Kd.int .u32) w B_s m.srcs.length m.srcs) (hscs2 : m.srcs.length ≤ d_s) (hrr2 : Kd.C k44 w B_r m.recs.length m.recs) (hrcr2 : m.recs.length ≤ d_r) : Calls Try.prog 19 #[.agg #[.int .u8 m.k, .int .i64 m.ver, .int .u8 m.code, .int .u32 m.grp, .bool m.quiet, .int .u8 m.rob, .int .u8 m.every, .slice A_s m.srcs.length c_s, .slice A_r m.recs.length c_r], .agg #[.int .u8 m.k, .int .i64 m.ver, .int .u8 m.code, .int .u32 m.grp, .bool m.quiet, .int .u8 m.rob, .int .u8 m.every, .slice B_s m.srcs.length d_s, .slice B_r m.recs.length d_r]] w fun e w' => e = .returned (.bool true) ∧ Below w.heap.size w w' :=
  rsame_w (m := m) (n := m) (b := true) (by simp) hl A_s c_s A_r c_r B_s d_s B_r d_r w hss hscs hrr hrcr hss2 hscs2 hrr2 hrcr2
end Go.Proofs.Ytmmjmncchckbbaa
