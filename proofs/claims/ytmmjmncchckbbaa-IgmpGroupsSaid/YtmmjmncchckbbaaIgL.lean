/-
  Which messages are right, which are the same: in plain words.
-/
import Derived.Test.YtmmjmncchckbbaaIgU
import Derived.Test.YtmmjmncchckbbaaPIgx4
namespace Go.Proofs.Ytmmjmncchckbbaa
open Go.RowKit Go.Proofs.YtmmjmncchckbbaaW.PrintWords Go.Proofs.Ytmmjmncchckbbaa.PIg
set_option linter.unusedVariables false
set_option linter.unusedSimpArgs false
deriving instance DecidableEq for S44
deriving instance DecidableEq for Msg
theorem rd_get {x : List Int} {i : Nat} (h : i < x.length) : rd x (i : Int) = x[i] := by
  rw [rd, Int.toNat_natCast, List.getD_eq_getElem?_getD, List.getElem?_eq_getElem h]; rfl
theorem rd44_get {x : List S44} {i : Nat} (h : i < x.length) : rd_T44 x (i : Int) = x[i] := by
  rw [rd_T44, Int.toNat_natCast, List.getD_eq_getElem?_getD, List.getElem?_eq_getElem h]; rfl
theorem wr1 {i : Nat} (h : i < 1000000000) : wrap64 ((i : Int) + 1) = ((i + 1 : Nat) : Int) := by
  rw [rw64 (by omega) (by omega)]; rfl
theorem addr_l0 (x y : List Int) (hxy : x.length = y.length) (hm : x.length ≤ 1000000) : ∀ (d i k : Nat), i + d = x.length → d < k → api_Addr.l0 k x y (x.length : Int) (i : Int) = some (decide (x.drop i = y.drop i))
  | 0, i, k + 1, h, _ => by
    unfold api_Addr.l0
    rw [if_neg (by omega), List.drop_eq_nil_of_le (by omega), List.drop_eq_nil_of_le (by omega)]; rfl
  | d + 1, i, k + 1, h, hk => by
    unfold api_Addr.l0
    rw [if_pos (by omega), if_pos (by omega), if_pos (by omega), if_pos (by omega), rd_get (by omega), rd_get (by omega : i < y.length), wr1 (by omega), addr_l0 x y hxy hm d (i + 1) k (by omega) (by omega),
      List.drop_eq_getElem_cons (by omega : i < x.length), List.drop_eq_getElem_cons (by omega : i < y.length)]
    by_cases he : x[i]'(by omega) = y[i]'(by omega)
    · rw [if_pos he]; exact congrArg some (decide_eq_decide.2 ⟨fun h => by rw [he, h], fun h => (List.cons.inj h).2⟩)
    · rw [if_neg he, decide_eq_false (fun h => he (List.cons.inj h).1)]
theorem addr_some {k : Nat} {x y : List Int} (hm : x.length ≤ 1000000) (hk : x.length < k) : api_Addr.f k x y = some (decide (x = y)) := by
  unfold api_Addr.f
  by_cases h : x.length = y.length
  · rw [if_pos (by omega)]
    have := addr_l0 x y h hm x.length 0 k (by omega) hk
    simpa using this
  · rw [if_neg (by omega), decide_eq_false (fun e => h (by rw [e]))]
theorem sameRec_some {k : Nat} {a b : S44} (hm : a.f2.length ≤ 1000000) (hk : a.f2.length < k) : igmp_sameRec.f k a.f0 a.f1 a.f2 b.f0 b.f1 b.f2 = some (decide (a = b)) := by
  obtain ⟨a0, a1, a2⟩ := a
  obtain ⟨b0, b1, b2⟩ := b
  unfold igmp_sameRec.f
  rw [addr_some hm hk]
  by_cases h0 : a0 = b0
  · by_cases h1 : a1 = b1
    · simp [h0, h1]
    · simp [h0, h1]
  · simp [h0]
/-- What a row of records needs. -/
def recK (l : List S44) : Nat := (l.map fun r => r.f2.length).sum + l.length
theorem recK_mem {l : List S44} {r : S44} (h : r ∈ l) : r.f2.length + 1 ≤ recK l := by
  induction l with
  | nil => simp at h
  | cons a l ih =>
    simp only [recK, List.map_cons, List.sum_cons, List.length_cons] at *
    rcases List.mem_cons.1 h with rfl | h
    · omega
    · have := ih h; omega
theorem rec_l0 (x y : List S44) (hxy : y.length = x.length) (hm : recK y ≤ 1000000) : ∀ (d i k : Nat), i + d = y.length → d + recK y < k → api_Record_36.l0 k x y (y.length : Int) (i : Int) = some (decide (y.drop i = x.drop i))
  | 0, i, k + 1, h, _ => by
    unfold api_Record_36.l0
    rw [if_neg (by omega), List.drop_eq_nil_of_le (by omega), List.drop_eq_nil_of_le (by omega)]; rfl
  | d + 1, i, k + 1, h, hk => by
    have hi : i < y.length := by omega
    have hr := recK_mem (List.getElem_mem hi)
    unfold api_Record_36.l0
    rw [if_pos (by omega), if_pos (by omega), if_pos (by omega), if_pos (by omega), rd44_get hi, rd44_get (by omega : i < x.length), sameRec_some (by omega) (by omega)]
    simp only [Option.bind_some]
    rw [wr1 (by have : y.length ≤ recK y := by unfold recK; omega
                omega), rec_l0 x y hxy hm d (i + 1) k (by omega) (by omega),
      List.drop_eq_getElem_cons hi, List.drop_eq_getElem_cons (by omega : i < x.length)]
    by_cases he : y[i]'hi = x[i]'(by omega)
    · rw [decide_eq_true he, if_pos rfl]; exact congrArg some (decide_eq_decide.2 ⟨fun h => by rw [he, h], fun h => (List.cons.inj h).2⟩)
    · rw [decide_eq_false he, if_neg (by decide), decide_eq_false (fun h => he (List.cons.inj h).1)]
theorem rec_some {k : Nat} {x y : List S44} (hm : recK x ≤ 1000000) (hk : x.length + recK x < k) : api_Record_36.f k x y 0 = some (decide (x = y)) := by
  unfold api_Record_36.f
  by_cases h : x.length = y.length
  · rw [if_pos (by omega)]
    have := rec_l0 y x h hm x.length 0 k (by omega) hk
    simpa using this
  · rw [if_neg (by omega), decide_eq_false (fun e => h (by rw [e]))]
/-- How much a message is. -/
def Msg.size (m : Msg) : Nat := m.srcs.length + 2 * recK m.recs
theorem same_some {K : Nat} (m n : Msg) (hm : m.size ≤ 1000000) (hk : m.size < K) :
    igmp_Same.f K m.k m.ver m.code m.grp m.quiet m.rob m.every m.srcs m.recs n.k n.ver n.code n.grp n.quiet n.rob n.every n.srcs n.recs = some (decide (m = n)) := by
  have hrl : m.recs.length ≤ recK m.recs := by unfold recK; omega
  have hsz : m.size = m.srcs.length + 2 * recK m.recs := rfl
  obtain ⟨a0, a1, a2, a3, a4, a5, a6, a7, a8⟩ := m
  obtain ⟨b0, b1, b2, b3, b4, b5, b6, b7, b8⟩ := n
  simp only at *
  unfold igmp_Same.f
  rw [addr_some (by omega) (by omega), rec_some (by omega) (by omega)]
  simp only [Msg.mk.injEq]
  by_cases h0 : a0 = b0
  · by_cases h1 : a1 = b1
    · by_cases h2 : a2 = b2
      · by_cases h3 : a3 = b3
        · by_cases h4 : a4 = b4
          · by_cases h5 : a5 = b5
            · by_cases h6 : a6 = b6
              · by_cases h7 : a7 = b7 <;> simp [*]
              · simp [*]
            · simp [*]
          · have : (a4 == b4) = false := by simp [h4]
            simp [*]
        · simp [*]
      · simp [*]
    · simp [*]
  · simp [*]
def askB (a : Int) : Bool := decide (3758096640 ≤ a ∧ a ≤ 4026531839)
theorem asked_some {a : Int} (h0 : 0 ≤ a) (h1 : a < 4294967296) : addr_IsAsked.f a = some (askB a) := by
  unfold addr_IsAsked.f addr_IsGroup.f addr_IsLocal.f
  simp only [Option.bind_some]
  by_cases hg : a / 268435456 = 14
  · rw [if_pos (by simp [hg])]
    simp only [askB, Option.some.injEq]
    by_cases hl : a / 256 = 14680064
    · rw [show (a / 256 == 14680064) = true from by simp [hl], decide_eq_false (by omega)]; rfl
    · rw [show (a / 256 == 14680064) = false from by simp [hl], decide_eq_true (by omega)]; rfl
  · rw [if_neg (by simp [hg]), askB, decide_eq_false (by omega)]
theorem refAsked_some (a : Int) : stolonref01_Asked.f a = some (askB a) := by
  unfold stolonref01_Asked.f askB
  by_cases h : a ≥ 3758096640
  · rw [if_pos h]; simp [h, show 3758096640 ≤ a from h]
  · rw [if_neg h, decide_eq_false (by omega)]
def recB (r : S44) : Bool := decide (1 ≤ r.f0) && decide (r.f0 ≤ 6) && askB r.f1 && decide (r.f2.length ≤ 64)
theorem record_some {r : S44} (h0 : 0 ≤ r.f1) (h1 : r.f1 < 4294967296) : igmp_record.f r.f0 r.f1 r.f2 = some (recB r) := by
  unfold igmp_record.f
  rw [asked_some h0 h1]
  by_cases a : r.f0 ≥ 1
  · by_cases b : r.f0 ≤ 6
    · rw [if_pos a, if_pos b]
      cases hk : askB r.f1
      · simp [recB, hk]
      · simp [recB, hk, a, b, show 1 ≤ r.f0 from a]; omega
    · rw [if_pos a, if_neg b]; simp [recB, b]
  · rw [if_neg a]; simp [recB, show ¬ 1 ≤ r.f0 from a]
theorem odd_l0 (x : List S44) (hr : ∀ r ∈ x, 0 ≤ r.f1 ∧ r.f1 < 4294967296) (hm : x.length ≤ 1000000) : ∀ (d i k : Nat), i + d = x.length → d < k → ∃ j : Int, api_Record_53.l0 k x (x.length : Int) (i : Int) = some j ∧ decide (j ≥ 0) = !(x.drop i).all recB
  | 0, i, k + 1, h, _ => by
    refine ⟨-1, ?_, ?_⟩
    · unfold api_Record_53.l0
      rw [if_neg (by omega)]
    · rw [List.drop_eq_nil_of_le (by omega)]; rfl
  | d + 1, i, k + 1, h, hk => by
    have hi : i < x.length := by omega
    have h2 := hr _ (List.getElem_mem hi)
    obtain ⟨j, hj, hj2⟩ := odd_l0 x hr hm d (i + 1) k (by omega) (by omega)
    unfold api_Record_53.l0 igmp_Right_1.f
    rw [if_pos (by omega), if_pos (by omega), if_pos (by omega), rd44_get hi, record_some h2.1 h2.2, wr1 (by omega), hj, List.drop_eq_getElem_cons hi]
    simp only [Option.bind_some, List.all_cons]
    cases hb : recB x[i]
    · exact ⟨i, by simp, by simp⟩
    · exact ⟨j, by simp, by simpa using hj2⟩
theorem odd_some {k : Nat} {x : List S44} (hr : ∀ r ∈ x, 0 ≤ r.f1 ∧ r.f1 < 4294967296) (hm : x.length ≤ 1000000) (hk : x.length < k) : api_Record_34.f k x 0 = some (!x.all recB) := by
  unfold api_Record_34.f api_Record_53.f
  obtain ⟨j, hj, hj2⟩ := odd_l0 x hr hm x.length 0 k (by omega) hk
  rw [show api_Record_53.l0 k x (x.length : Int) 0 = some j from hj]
  simp only [Option.bind_some, Option.some.injEq]
  simpa using hj2
def grpB (a : Int) : Bool := if a = 0 then true else askB a
/-- Is a query right? -/
def queryB (m : Msg) : Bool :=
  if m.ver = 1 then decide (m = ⟨17, 1, 0, 0, false, 0, 0, [], []⟩)
  else if m.ver = 2 then grpB m.grp && decide (m.code > 0) && decide (m = ⟨17, 2, m.code, m.grp, false, 0, 0, [], []⟩)
  else if m.ver = 3 then grpB m.grp && decide (m.rob ≤ 7) && decide (m.recs.length = 0) && decide (m.srcs.length ≤ 64) && (decide (m.grp ≠ 0) || decide (m.srcs.length = 0))
  else false
/-- Is a message right? -/
def rightB (m : Msg) : Bool :=
  if m.k = 17 then queryB m
  else if m.k = 18 ∨ m.k = 22 ∨ m.k = 23 then askB m.grp && decide (m = ⟨m.k, 0, 0, m.grp, false, 0, 0, [], []⟩)
  else if m.k = 34 then decide (m.recs.length ≤ 32) && m.recs.all recB && decide (m = ⟨m.k, 0, 0, 0, false, 0, 0, [], m.recs⟩)
  else false
theorem query_j {K : Nat} (m : Msg) (b : Bool) (hm : m.size ≤ 1000000) (hk : m.size < K) (hb : grpB m.grp = b) :
    igmp_query.j0 (K + 1) b m.k m.ver m.code m.grp m.quiet m.rob m.every m.srcs m.recs = some (queryB m) := by
  rw [igmp_query.j0, queryB]
  rw [hb]
  by_cases h1 : m.ver = 1
  · rw [if_pos h1, if_pos h1]
    have := same_some m ⟨17, 1, 0, 0, false, 0, 0, [], []⟩ hm hk
    simp only at this
    rw [this]; rfl
  · rw [if_neg h1, if_neg h1]
    by_cases h2 : m.ver = 2
    · rw [if_pos h2, if_pos h2]
      cases b
      · rfl
      · rw [if_pos rfl]
        by_cases hc : m.code > 0
        · rw [if_pos hc]
          have := same_some m ⟨17, 2, m.code, m.grp, false, 0, 0, [], []⟩ hm hk
          simp only at this
          rw [this]; simp [hc]
        · rw [if_neg hc]; simp [hc]
    · rw [if_neg h2, if_neg h2]
      by_cases h3 : m.ver = 3
      · rw [if_pos h3, if_pos h3]
        cases b
        · simp
        · rw [if_pos rfl]
          by_cases hr : m.rob ≤ 7
          · rw [if_pos hr]
            by_cases hl : m.recs.length = 0
            · rw [if_pos (by omega)]
              by_cases hs : m.srcs.length ≤ 64
              · rw [if_pos (by omega)]
                by_cases hg : m.grp = 0
                · rw [if_pos hg]
                  simp only [Option.some.injEq]
                  by_cases hz : m.srcs.length = 0
                  · simp [hr, hl, hs, hg, hz]
                  · simp [hr, hl, hs, hg, hz]
                · rw [if_neg hg]; simp [hr, hl, hs, hg]
              · rw [if_neg (by omega)]; simp [hs]
            · rw [if_neg (by omega)]; simp [hl]
          · rw [if_neg hr]; simp [hr]
      · rw [if_neg h3, if_neg h3]
theorem right_some {K : Nat} (m : Msg) (hg : 0 ≤ m.grp ∧ m.grp < 4294967296) (hr : ∀ r ∈ m.recs, 0 ≤ r.f1 ∧ r.f1 < 4294967296) (hm : m.size ≤ 1000000) (hk : m.size + 1 < K) :
    igmp_Right.f K m.k m.ver m.code m.grp m.quiet m.rob m.every m.srcs m.recs = some (rightB m) := by
  obtain ⟨K, rfl⟩ : ∃ K', K = K' + 1 := ⟨K - 1, by omega⟩
  have hrl : m.recs.length ≤ recK m.recs := by unfold recK; omega
  have hsz : m.size = m.srcs.length + 2 * recK m.recs := rfl
  unfold igmp_Right.f rightB
  by_cases h1 : m.k = 17
  · rw [if_pos h1, if_pos h1]
    unfold igmp_query.f
    by_cases h0 : m.grp = 0
    · rw [if_pos h0, query_j m true hm (by omega) (by rw [grpB, if_pos h0])]; rfl
    · rw [if_neg h0, asked_some hg.1 hg.2]
      simp only [Option.bind_some]
      rw [query_j m _ hm (by omega) (by rw [grpB, if_neg h0])]; rfl
  · rw [if_neg h1, if_neg h1]
    have hS := same_some (K := K) m ⟨m.k, 0, 0, m.grp, false, 0, 0, [], []⟩ hm (by omega)
    have hT := same_some (K := K) m ⟨m.k, 0, 0, 0, false, 0, 0, [], m.recs⟩ hm (by omega)
    simp only at hS hT
    have hj : ∀ b, (b = true ↔ (m.k = 18 ∨ m.k = 22 ∨ m.k = 23)) → igmp_Right.j0 (K + 1) m.k b m.k m.ver m.code m.grp m.quiet m.rob m.every m.srcs m.recs = some (if m.k = 18 ∨ m.k = 22 ∨ m.k = 23 then askB m.grp && decide (m = ⟨m.k, 0, 0, m.grp, false, 0, 0, [], []⟩)
        else if m.k = 34 then decide (m.recs.length ≤ 32) && m.recs.all recB && decide (m = ⟨m.k, 0, 0, 0, false, 0, 0, [], m.recs⟩) else false) := by
      intro b hb
      rw [igmp_Right.j0]
      by_cases h2 : m.k = 18 ∨ m.k = 22 ∨ m.k = 23
      · rw [if_pos h2, if_pos (hb.2 h2), asked_some hg.1 hg.2]
        simp only [Option.bind_some]
        cases ha : askB m.grp
        · simp
        · rw [if_pos rfl, hS]; simp
      · rw [if_neg h2, if_neg (fun h => h2 (hb.1 h))]
        by_cases h3 : m.k = 34
        · rw [if_pos h3, if_pos h3]
          by_cases h4 : m.recs.length ≤ 32
          · rw [if_pos (by omega), odd_some hr (by omega) (by omega), hT]
            simp only [Option.bind_some]
            cases ha : m.recs.all recB
            · simp
            · simp [h4]
          · rw [if_neg (by omega)]; simp [h4]
        · rw [if_neg h3, if_neg h3]
    by_cases h18 : m.k = 18
    · rw [if_pos h18, hj _ (by simp [h18])]
    · rw [if_neg h18]
      by_cases h22 : m.k = 22
      · rw [if_pos h22, hj _ (by simp [h22])]
      · rw [if_neg h22, hj _ (by simp [h18, h22])]
end Go.Proofs.Ytmmjmncchckbbaa
