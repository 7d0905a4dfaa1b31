/- Texts of a claim. -/
import Derived.Test.YtmmjmncchckbbaaPIgx0
import Derived.Test.YtmmjmncchckbbaaIgA
import Derived.Test.YtmmjmncchckbbaaPIgx3
import Derived.Test.YtmmjmncchckbbaaIgD
import Derived.Test.YtmmjmncchckbbaaPIgx7
import Derived.Test.YtmmjmncchckbbaaPIgx8
-- written by a program of this session (hprint.py), over the kit's printer
namespace Go.Proofs.Ytmmjmncchckbbaa.PIg
open Go.RowKit Go.Proofs.YtmmjmncchckbbaaW.PrintWords Go.Proofs.YtmmjmncchckbbaaW.PrintLast Go.Proofs.YtmmjmncchckbbaaW.PrintMore
attribute [local go_sem] max2_int min2_int max_two min_two max_three min_three max_four min_four   -- for this text's walks alone
set_option linter.unusedVariables false
set_option linter.unusedSimpArgs false

/-! ### stolonref01_Asked: function 22 -/
def stolonref01_Asked.f (a0 : Int) : Option (Bool) := if a0 ≥ 3758096640 then (some (decide (a0 ≤ 4026531839))) else (some false)
set_option maxHeartbeats 8000000 in
set_option maxRecDepth 100000 in
theorem stolonref01_Asked.calls (a0 : Int) (r : Bool) (w : World) (h : stolonref01_Asked.f a0 = some r) :
    Calls Try.prog 22 #[.int .u32 a0] w fun e w' => e = .returned (.bool r) ∧ Drawn0 w w' := by
  have H : (if a0 ≥ 3758096640 then (some (decide (a0 ≤ 4026531839))) else (some false)) = some r := h
  clear h
  by_cases c2 : a0 ≥ 3758096640
  · rw [if_pos c2] at H
    have c2b0 : decide (3758096640 ≤ a0) = true := decide_eq_true c2
    clear c2
    obtain rfl := Option.some.inj H
    go_enter Try.func22, Try.ntmps22
    go_wp2
    go_ret
    exact ⟨by first | rfl | (simp; done) | (simp [*]; done), by repeat (first | exact Drawn0.refl _ | apply Drawn0.step)⟩
  · rw [if_neg c2] at H
    have c2b0 : decide (3758096640 ≤ a0) = false := decide_eq_false c2
    clear c2
    obtain rfl := Option.some.inj H
    go_enter Try.func22, Try.ntmps22
    go_wp2
    go_ret
    exact ⟨by first | rfl | (simp; done) | (simp [*]; done), by repeat (first | exact Drawn0.refl _ | apply Drawn0.step)⟩

end Go.Proofs.Ytmmjmncchckbbaa.PIg
/-
  Which messages are right, which are the same: in plain words.
-/
namespace Go.Proofs.Ytmmjmncchckbbaa
open Go.RowKit Go.Proofs.YtmmjmncchckbbaaW.PrintWords Go.Proofs.Ytmmjmncchckbbaa.PIg
set_option linter.unusedVariables false
set_option linter.unusedSimpArgs false
deriving instance DecidableEq for S44
deriving instance DecidableEq for Msg
theorem rd_get {x : List Int} {i : Nat} (h : i < x.length) : rd x (i : Int) = x[i] := by
  rw [rd, Int.toNat_natCast, List.getD_eq_getElem?_getD, List.getElem?_eq_getElem h]; rfl
theorem rd44_get {x : List S44} {i : Nat} (h : i < x.length) : rd_T44 x (i : Int) = x[i] := by
  rw [rd_T44, Int.toNat_natCast, List.getD_eq_getElem?_getD, List.getElem?_eq_getElem h]; rfl
theorem wr1 {i : Nat} (h : i < 1000000000) : wrap64 ((i : Int) + 1) = ((i + 1 : Nat) : Int) := by
  rw [rw64 (by omega) (by omega)]; rfl
theorem addr_l0 (x y : List Int) (hxy : x.length = y.length) (hm : x.length ≤ 1000000) : ∀ (d i k : Nat), i + d = x.length → d < k → api_Addr.l0 k x y (x.length : Int) (i : Int) = some (decide (x.drop i = y.drop i))
  | 0, i, k + 1, h, _ => by
    unfold api_Addr.l0
    rw [if_neg (by omega), List.drop_eq_nil_of_le (by omega), List.drop_eq_nil_of_le (by omega)]; rfl
  | d + 1, i, k + 1, h, hk => by
    unfold api_Addr.l0
    rw [if_pos (by omega), if_pos (by omega), if_pos (by omega), if_pos (by omega), rd_get (by omega), rd_get (by omega : i < y.length), wr1 (by omega), addr_l0 x y hxy hm d (i + 1) k (by omega) (by omega),
      List.drop_eq_getElem_cons (by omega : i < x.length), List.drop_eq_getElem_cons (by omega : i < y.length)]
    by_cases he : x[i]'(by omega) = y[i]'(by omega)
    · rw [if_pos he]; exact congrArg some (decide_eq_decide.2 ⟨fun h => by rw [he, h], fun h => (List.cons.inj h).2⟩)
    · rw [if_neg he, decide_eq_false (fun h => he (List.cons.inj h).1)]
theorem addr_some {k : Nat} {x y : List Int} (hm : x.length ≤ 1000000) (hk : x.length < k) : api_Addr.f k x y = some (decide (x = y)) := by
  unfold api_Addr.f
  by_cases h : x.length = y.length
  · rw [if_pos (by omega)]
    have := addr_l0 x y h hm x.length 0 k (by omega) hk
    simpa using this
  · rw [if_neg (by omega), decide_eq_false (fun e => h (by rw [e]))]
theorem sameRec_some {k : Nat} {a b : S44} (hm : a.f2.length ≤ 1000000) (hk : a.f2.length < k) : igmp_sameRec.f k a.f0 a.f1 a.f2 b.f0 b.f1 b.f2 = some (decide (a = b)) := by
  obtain ⟨a0, a1, a2⟩ := a
  obtain ⟨b0, b1, b2⟩ := b
  unfold igmp_sameRec.f
  rw [addr_some hm hk]
  by_cases h0 : a0 = b0
  · by_cases h1 : a1 = b1
    · simp [h0, h1]
    · simp [h0, h1]
  · simp [h0]
/-- What a row of records needs. -/
def recK (l : List S44) : Nat := (l.map fun r => r.f2.length).sum + l.length
theorem recK_mem {l : List S44} {r : S44} (h : r ∈ l) : r.f2.length + 1 ≤ recK l := by
  induction l with
  | nil => simp at h
  | cons a l ih =>
    simp only [recK, List.map_cons, List.sum_cons, List.length_cons] at *
    rcases List.mem_cons.1 h with rfl | h
    · omega
    · have := ih h; omega
theorem rec_l0 (x y : List S44) (hxy : y.length = x.length) (hm : recK y ≤ 1000000) : ∀ (d i k : Nat), i + d = y.length → d + recK y < k → api_Record_36.l0 k x y (y.length : Int) (i : Int) = some (decide (y.drop i = x.drop i))
  | 0, i, k + 1, h, _ => by
    unfold api_Record_36.l0
    rw [if_neg (by omega), List.drop_eq_nil_of_le (by omega), List.drop_eq_nil_of_le (by omega)]; rfl
  | d + 1, i, k + 1, h, hk => by
    have hi : i < y.length := by omega
    have hr := recK_mem (List.getElem_mem hi)
    unfold api_Record_36.l0
    rw [if_pos (by omega), if_pos (by omega), if_pos (by omega), if_pos (by omega), rd44_get hi, rd44_get (by omega : i < x.length), sameRec_some (by omega) (by omega)]
    simp only [Option.bind_some]
    rw [wr1 (by have : y.length ≤ recK y := by unfold recK; omega
                omega), rec_l0 x y hxy hm d (i + 1) k (by omega) (by omega),
      List.drop_eq_getElem_cons hi, List.drop_eq_getElem_cons (by omega : i < x.length)]
    by_cases he : y[i]'hi = x[i]'(by omega)
    · rw [decide_eq_true he, if_pos rfl]; exact congrArg some (decide_eq_decide.2 ⟨fun h => by rw [he, h], fun h => (List.cons.inj h).2⟩)
    · rw [decide_eq_false he, if_neg (by decide), decide_eq_false (fun h => he (List.cons.inj h).1)]
theorem rec_some {k : Nat} {x y : List S44} (hm : recK x ≤ 1000000) (hk : x.length + recK x < k) : api_Record_36.f k x y 0 = some (decide (x = y)) := by
  unfold api_Record_36.f
  by_cases h : x.length = y.length
  · rw [if_pos (by omega)]
    have := rec_l0 y x h hm x.length 0 k (by omega) hk
    simpa using this
  · rw [if_neg (by omega), decide_eq_false (fun e => h (by rw [e]))]
/-- How much a message is. -/
def Msg.size (m : Msg) : Nat := m.srcs.length + 2 * recK m.recs
theorem same_some {K : Nat} (m n : Msg) (hm : m.size ≤ 1000000) (hk : m.size < K) :
    igmp_Same.f K m.k m.ver m.code m.grp m.quiet m.rob m.every m.srcs m.recs n.k n.ver n.code n.grp n.quiet n.rob n.every n.srcs n.recs = some (decide (m = n)) := by
  have hrl : m.recs.length ≤ recK m.recs := by unfold recK; omega
  have hsz : m.size = m.srcs.length + 2 * recK m.recs := rfl
  obtain ⟨a0, a1, a2, a3, a4, a5, a6, a7, a8⟩ := m
  obtain ⟨b0, b1, b2, b3, b4, b5, b6, b7, b8⟩ := n
  simp only at *
  unfold igmp_Same.f
  rw [addr_some (by omega) (by omega), rec_some (by omega) (by omega)]
  simp only [Msg.mk.injEq]
  by_cases h0 : a0 = b0
  · by_cases h1 : a1 = b1
    · by_cases h2 : a2 = b2
      · by_cases h3 : a3 = b3
        · by_cases h4 : a4 = b4
          · by_cases h5 : a5 = b5
            · by_cases h6 : a6 = b6
              · by_cases h7 : a7 = b7 <;> simp [*]
              · simp [*]
            · simp [*]
          · have : (a4 == b4) = false := by simp [h4]
            simp [*]
        · simp [*]
      · simp [*]
    · simp [*]
  · simp [*]
def askB (a : Int) : Bool := decide (3758096640 ≤ a ∧ a ≤ 4026531839)
theorem asked_some {a : Int} (h0 : 0 ≤ a) (h1 : a < 4294967296) : addr_IsAsked.f a = some (askB a) := by
  unfold addr_IsAsked.f addr_IsGroup.f addr_IsLocal.f
  simp only [Option.bind_some]
  by_cases hg : a / 268435456 = 14
  · rw [if_pos (by simp [hg])]
    simp only [askB, Option.some.injEq]
    by_cases hl : a / 256 = 14680064
    · rw [show (a / 256 == 14680064) = true from by simp [hl], decide_eq_false (by omega)]; rfl
    · rw [show (a / 256 == 14680064) = false from by simp [hl], decide_eq_true (by omega)]; rfl
  · rw [if_neg (by simp [hg]), askB, decide_eq_false (by omega)]
theorem refAsked_some (a : Int) : stolonref01_Asked.f a = some (askB a) := by
  unfold stolonref01_Asked.f askB
  by_cases h : a ≥ 3758096640
  · rw [if_pos h]; simp [h, show 3758096640 ≤ a from h]
  · rw [if_neg h, decide_eq_false (by omega)]
def recB (r : S44) : Bool := decide (1 ≤ r.f0) && decide (r.f0 ≤ 6) && askB r.f1 && decide (r.f2.length ≤ 64)
theorem record_some {r : S44} (h0 : 0 ≤ r.f1) (h1 : r.f1 < 4294967296) : igmp_record.f r.f0 r.f1 r.f2 = some (recB r) := by
  unfold igmp_record.f
  rw [asked_some h0 h1]
  by_cases a : r.f0 ≥ 1
  · by_cases b : r.f0 ≤ 6
    · rw [if_pos a, if_pos b]
      cases hk : askB r.f1
      · simp [recB, hk]
      · simp [recB, hk, a, b, show 1 ≤ r.f0 from a]; omega
    · rw [if_pos a, if_neg b]; simp [recB, b]
  · rw [if_neg a]; simp [recB, show ¬ 1 ≤ r.f0 from a]
theorem odd_l0 (x : List S44) (hr : ∀ r ∈ x, 0 ≤ r.f1 ∧ r.f1 < 4294967296) (hm : x.length ≤ 1000000) : ∀ (d i k : Nat), i + d = x.length → d < k → ∃ j : Int, api_Record_53.l0 k x (x.length : Int) (i : Int) = some j ∧ decide (j ≥ 0) = !(x.drop i).all recB
  | 0, i, k + 1, h, _ => by
    refine ⟨-1, ?_, ?_⟩
    · unfold api_Record_53.l0
      rw [if_neg (by omega)]
    · rw [List.drop_eq_nil_of_le (by omega)]; rfl
  | d + 1, i, k + 1, h, hk => by
    have hi : i < x.length := by omega
    have h2 := hr _ (List.getElem_mem hi)
    obtain ⟨j, hj, hj2⟩ := odd_l0 x hr hm d (i + 1) k (by omega) (by omega)
    unfold api_Record_53.l0 igmp_Right_1.f
    rw [if_pos (by omega), if_pos (by omega), if_pos (by omega), rd44_get hi, record_some h2.1 h2.2, wr1 (by omega), hj, List.drop_eq_getElem_cons hi]
    simp only [Option.bind_some, List.all_cons]
    cases hb : recB x[i]
    · exact ⟨i, by simp, by simp⟩
    · exact ⟨j, by simp, by simpa using hj2⟩
theorem odd_some {k : Nat} {x : List S44} (hr : ∀ r ∈ x, 0 ≤ r.f1 ∧ r.f1 < 4294967296) (hm : x.length ≤ 1000000) (hk : x.length < k) : api_Record_34.f k x 0 = some (!x.all recB) := by
  unfold api_Record_34.f api_Record_53.f
  obtain ⟨j, hj, hj2⟩ := odd_l0 x hr hm x.length 0 k (by omega) hk
  rw [show api_Record_53.l0 k x (x.length : Int) 0 = some j from hj]
  simp only [Option.bind_some, Option.some.injEq]
  simpa using hj2
def grpB (a : Int) : Bool := if a = 0 then true else askB a
/-- Is a query right? -/
def queryB (m : Msg) : Bool :=
  if m.ver = 1 then decide (m = ⟨17, 1, 0, 0, false, 0, 0, [], []⟩)
  else if m.ver = 2 then grpB m.grp && decide (m.code > 0) && decide (m = ⟨17, 2, m.code, m.grp, false, 0, 0, [], []⟩)
  else if m.ver = 3 then grpB m.grp && decide (m.rob ≤ 7) && decide (m.recs.length = 0) && decide (m.srcs.length ≤ 64) && (decide (m.grp ≠ 0) || decide (m.srcs.length = 0))
  else false
/-- Is a message right? -/
def rightB (m : Msg) : Bool :=
  if m.k = 17 then queryB m
  else if m.k = 18 ∨ m.k = 22 ∨ m.k = 23 then askB m.grp && decide (m = ⟨m.k, 0, 0, m.grp, false, 0, 0, [], []⟩)
  else if m.k = 34 then decide (m.recs.length ≤ 32) && m.recs.all recB && decide (m = ⟨m.k, 0, 0, 0, false, 0, 0, [], m.recs⟩)
  else false
theorem query_j {K : Nat} (m : Msg) (b : Bool) (hm : m.size ≤ 1000000) (hk : m.size < K) (hb : grpB m.grp = b) :
    igmp_query.j0 (K + 1) b m.k m.ver m.code m.grp m.quiet m.rob m.every m.srcs m.recs = some (queryB m) := by
  rw [igmp_query.j0, queryB]
  rw [hb]
  by_cases h1 : m.ver = 1
  · rw [if_pos h1, if_pos h1]
    have := same_some m ⟨17, 1, 0, 0, false, 0, 0, [], []⟩ hm hk
    simp only at this
    rw [this]; rfl
  · rw [if_neg h1, if_neg h1]
    by_cases h2 : m.ver = 2
    · rw [if_pos h2, if_pos h2]
      cases b
      · rfl
      · rw [if_pos rfl]
        by_cases hc : m.code > 0
        · rw [if_pos hc]
          have := same_some m ⟨17, 2, m.code, m.grp, false, 0, 0, [], []⟩ hm hk
          simp only at this
          rw [this]; simp [hc]
        · rw [if_neg hc]; simp [hc]
    · rw [if_neg h2, if_neg h2]
      by_cases h3 : m.ver = 3
      · rw [if_pos h3, if_pos h3]
        cases b
        · simp
        · rw [if_pos rfl]
          by_cases hr : m.rob ≤ 7
          · rw [if_pos hr]
            by_cases hl : m.recs.length = 0
            · rw [if_pos (by omega)]
              by_cases hs : m.srcs.length ≤ 64
              · rw [if_pos (by omega)]
                by_cases hg : m.grp = 0
                · rw [if_pos hg]
                  simp only [Option.some.injEq]
                  by_cases hz : m.srcs.length = 0
                  · simp [hr, hl, hs, hg, hz]
                  · simp [hr, hl, hs, hg, hz]
                · rw [if_neg hg]; simp [hr, hl, hs, hg]
              · rw [if_neg (by omega)]; simp [hs]
            · rw [if_neg (by omega)]; simp [hl]
          · rw [if_neg hr]; simp [hr]
      · rw [if_neg h3, if_neg h3]
theorem right_some {K : Nat} (m : Msg) (hg : 0 ≤ m.grp ∧ m.grp < 4294967296) (hr : ∀ r ∈ m.recs, 0 ≤ r.f1 ∧ r.f1 < 4294967296) (hm : m.size ≤ 1000000) (hk : m.size + 1 < K) :
    igmp_Right.f K m.k m.ver m.code m.grp m.quiet m.rob m.every m.srcs m.recs = some (rightB m) := by
  obtain ⟨K, rfl⟩ : ∃ K', K = K' + 1 := ⟨K - 1, by omega⟩
  have hrl : m.recs.length ≤ recK m.recs := by unfold recK; omega
  have hsz : m.size = m.srcs.length + 2 * recK m.recs := rfl
  unfold igmp_Right.f rightB
  by_cases h1 : m.k = 17
  · rw [if_pos h1, if_pos h1]
    unfold igmp_query.f
    by_cases h0 : m.grp = 0
    · rw [if_pos h0, query_j m true hm (by omega) (by rw [grpB, if_pos h0])]; rfl
    · rw [if_neg h0, asked_some hg.1 hg.2]
      simp only [Option.bind_some]
      rw [query_j m _ hm (by omega) (by rw [grpB, if_neg h0])]; rfl
  · rw [if_neg h1, if_neg h1]
    have hS := same_some (K := K) m ⟨m.k, 0, 0, m.grp, false, 0, 0, [], []⟩ hm (by omega)
    have hT := same_some (K := K) m ⟨m.k, 0, 0, 0, false, 0, 0, [], m.recs⟩ hm (by omega)
    simp only at hS hT
    have hj : ∀ b, (b = true ↔ (m.k = 18 ∨ m.k = 22 ∨ m.k = 23)) → igmp_Right.j0 (K + 1) m.k b m.k m.ver m.code m.grp m.quiet m.rob m.every m.srcs m.recs = some (if m.k = 18 ∨ m.k = 22 ∨ m.k = 23 then askB m.grp && decide (m = ⟨m.k, 0, 0, m.grp, false, 0, 0, [], []⟩)
        else if m.k = 34 then decide (m.recs.length ≤ 32) && m.recs.all recB && decide (m = ⟨m.k, 0, 0, 0, false, 0, 0, [], m.recs⟩) else false) := by
      intro b hb
      rw [igmp_Right.j0]
      by_cases h2 : m.k = 18 ∨ m.k = 22 ∨ m.k = 23
      · rw [if_pos h2, if_pos (hb.2 h2), asked_some hg.1 hg.2]
        simp only [Option.bind_some]
        cases ha : askB m.grp
        · simp
        · rw [if_pos rfl, hS]; simp
      · rw [if_neg h2, if_neg (fun h => h2 (hb.1 h))]
        by_cases h3 : m.k = 34
        · rw [if_pos h3, if_pos h3]
          by_cases h4 : m.recs.length ≤ 32
          · rw [if_pos (by omega), odd_some hr (by omega) (by omega), hT]
            simp only [Option.bind_some]
            cases ha : m.recs.all recB
            · simp
            · simp [h4]
          · rw [if_neg (by omega)]; simp [h4]
        · rw [if_neg h3, if_neg h3]
    by_cases h18 : m.k = 18
    · rw [if_pos h18, hj _ (by simp [h18])]
    · rw [if_neg h18]
      by_cases h22 : m.k = 22
      · rw [if_pos h22, hj _ (by simp [h22])]
      · rw [if_neg h22, hj _ (by simp [h18, h22])]
end Go.Proofs.Ytmmjmncchckbbaa
/-
  Sums, in plain numbers.
-/
namespace Go.Proofs.Ytmmjmncchckbbaa
open Go.RowKit Go.Proofs.YtmmjmncchckbbaaW.PrintWords Go.Proofs.Ytmmjmncchckbbaa.PIg

theorem of_some {l : List Int} (hz : ∀ z ∈ l, 0 ≤ z ∧ z < 256) (hl : l.length ≤ 140737488351232) : sum_Of.f l = some (sumOf l) := by
  unfold sum_Of.f
  rw [if_pos ((bytesOk_iff l).2 ⟨hz, hl⟩)]
theorem whole_some {l : List Int} (hz : ∀ z ∈ l, 0 ≤ z ∧ z < 256) (hl : l.length ≤ 140737488351232) : sum_Whole.f l = some (sumOf l == 0) := by
  unfold sum_Whole.f
  rw [of_some hz hl]
  rfl
theorem putOf_len (l : List Int) (m : Nat) : (putOf l m).length = l.length := by simp [putOf, zeroed]
theorem wr64 {i : Int} (h0 : -9223372036854775808 ≤ i) (h1 : i ≤ 9223372036854775807) : wrap64 i = i := by unfold wrap64; omega
theorem rd_eq (l : List Int) (i : Int) : rd l i = l.getD i.toNat 0 := rfl

theorem get_byte {l : List Int} (hb : ∀ z ∈ l, 0 ≤ z ∧ z < 256) (i : Nat) : 0 ≤ l.getD i 0 ∧ l.getD i 0 < 256 := by
  rcases Nat.lt_or_ge i l.length with h | h
  · rw [List.getD_eq_getElem?_getD, List.getElem?_eq_getElem h]; exact hb _ (List.getElem_mem _)
  · rw [List.getD_eq_getElem?_getD, List.getElem?_eq_none h]; simp


end Go.Proofs.Ytmmjmncchckbbaa
/-
  Messages, written and read, in plain words.
-/
namespace Go.Proofs.Ytmmjmncchckbbaa
open Go.RowKit Go.Proofs.YtmmjmncchckbbaaW.PrintWords Go.Proofs.YtmmjmncchckbbaaW.PrintLast Go.Proofs.YtmmjmncchckbbaaW.PrintMore Go.Proofs.Ytmmjmncchckbbaa.PIg
set_option linter.unusedVariables false
set_option linter.unusedSimpArgs false
def U32 (a : Int) : Prop := 0 ≤ a ∧ a < 4294967296
def U8 (a : Int) : Prop := 0 ≤ a ∧ a < 256
/-- The numbers of a record are of their kinds. -/
def RecOk (r : S44) : Prop := U8 r.f0 ∧ U32 r.f1 ∧ ∀ a ∈ r.f2, U32 a
/-- The numbers of a message are of their kinds. -/
structure Msg.Ok (m : Msg) : Prop where
  k : U8 m.k
  code : U8 m.code
  grp : U32 m.grp
  rob : U8 m.rob
  every : U8 m.every
  srcs : ∀ a ∈ m.srcs, U32 a
  recs : ∀ r ∈ m.recs, RecOk r
/-! what is taken off -/
theorem tk_ok {m : Nat} {bs : List Int} (h : tks m bs false = false) : m ≤ bs.length ∧ tkx m bs false = bs.take m ∧ tkb m bs false = bs.drop m := by
  unfold tks at h
  have h' : ¬ bs.length < m := by simpa using h
  have h2 : ¬ (false = true ∨ bs.length < m) := by simp; omega
  exact ⟨by omega, by unfold tkx; rw [if_neg h2], by unfold tkb; rw [if_neg h2]⟩
theorem tks_of {m : Nat} {bs : List Int} {sh : Bool} (h : tks m bs sh = false) : sh = false := by cases sh <;> simp_all [tks]
theorem ads_of {n : Nat} {bs : List Int} {sh : Bool} (h : (ads n bs sh).2.2 = false) : sh = false := by
  cases sh
  · rfl
  · rw [ads_sh] at h; cases h
theorem ads_ok : ∀ (n : Nat) (bs : List Int), (ads n bs false).2.2 = false → 4 * n ≤ bs.length ∧ (ads n bs false).2.1 = bs.drop (4 * n) ∧ (ads n bs false).1.length = n
  | 0, bs, _ => ⟨by omega, rfl, rfl⟩
  | n + 1, bs, h => by
    have e : ads (n + 1) bs false = (av (tkx 4 bs false) :: (ads n (tkb 4 bs false) (tks 4 bs false)).1, (ads n (tkb 4 bs false) (tks 4 bs false)).2) := rfl
    rw [e] at h ⊢
    have hs := ads_of (show (ads n (tkb 4 bs false) (tks 4 bs false)).2.2 = false from h)
    obtain ⟨h1, _, h3⟩ := tk_ok hs
    rw [hs, h3] at h ⊢
    obtain ⟨i1, i2, i3⟩ := ads_ok n (bs.drop 4) h
    rw [List.length_drop] at i1
    refine ⟨by omega, ?_, by simpa using i3⟩
    show (ads n (bs.drop 4) false).2.1 = _
    rw [i2, List.drop_drop]
    congr 1; omega
theorem ads_rng : ∀ (n : Nat) (bs : List Int) (sh : Bool), Byt bs → ∀ a ∈ (ads n bs sh).1, U32 a
  | 0, bs, sh, _ => by simp [ads]
  | n + 1, bs, true, _ => by rw [ads_sh]; simp
  | n + 1, bs, false, h => by
    intro a ha
    have e : (ads (n + 1) bs false).1 = av (tkx 4 bs false) :: (ads n (tkb 4 bs false) (tks 4 bs false)).1 := rfl
    rw [e] at ha
    rcases List.mem_cons.1 ha with rfl | ha
    · exact av_range (tkx_byt h)
    · exact ads_rng n _ _ (tkb_byt h) a ha
theorem ab_len (a : Int) : (ab a).length = 4 := rfl
theorem ra_ok {bs : List Int} (h : (ra bs false).2.2 = false) : (rrow (rrec bs false)).length + (ra bs false).2.1.length = bs.length := by
  have s3 : rs3 bs false = false := ads_of h
  have s2 : rs2 bs false = false := tks_of s3
  have s1 : rs bs false = false := tks_of s2
  obtain ⟨a1, _, a3⟩ := tk_ok (show tks 2 bs false = false from s1)
  have b2 : tks 2 (rb bs false) false = false := by have h2 := s2; unfold rs2 at h2; rwa [s1] at h2
  obtain ⟨a4, _, a6⟩ := tk_ok b2
  have b3 : tks 4 (rb2 bs false) false = false := by have h3 := s3; unfold rs3 at h3; rwa [s2] at h3
  obtain ⟨a7, _, a9⟩ := tk_ok b3
  have e1 : rb bs false = bs.drop 2 := a3
  have e2 : rb2 bs false = (rb bs false).drop 2 := by unfold rb2; rw [s1]; exact a6
  have e3 : rb3 bs false = (rb2 bs false).drop 4 := by unfold rb3; rw [s2]; exact a9
  have ha : ra bs false = ads (rn bs false) (rb3 bs false) false := by unfold ra; rw [s3]
  rw [rrow_long]
  show 8 + 4 * (ra bs false).1.length + (ra bs false).2.1.length = bs.length
  rw [ha] at h ⊢
  obtain ⟨i1, i2, i3⟩ := ads_ok _ _ h
  rw [i3, i2, List.length_drop]
  rw [e3, List.length_drop, e2, List.length_drop, e1, List.length_drop] at i1 ⊢
  rw [e2, List.length_drop, e1, List.length_drop] at a7
  rw [e1, List.length_drop] at a4
  omega
theorem rcs_of {n : Nat} {bs : List Int} {sh : Bool} (h : (rcs n bs sh).2.2 = false) : sh = false := by
  cases sh
  · rfl
  · rw [rcs_sh] at h; cases h
theorem rcs_ok : ∀ (n : Nat) (bs : List Int), (rcs n bs false).2.2 = false → (rcs n bs false).1.length = n ∧ ((rcs n bs false).1.flatMap rrow).length + (rcs n bs false).2.1.length = bs.length
  | 0, bs, _ => ⟨rfl, by show (([] : List S44).flatMap rrow).length + bs.length = bs.length; simp⟩
  | n + 1, bs, h => by
    have e : rcs (n + 1) bs false = (rrec bs false :: (rcs n (ra bs false).2.1 (ra bs false).2.2).1, (rcs n (ra bs false).2.1 (ra bs false).2.2).2) := rfl
    rw [e] at h ⊢
    have hs := rcs_of (show (rcs n (ra bs false).2.1 (ra bs false).2.2).2.2 = false from h)
    have h1 := ra_ok hs
    rw [hs] at h ⊢
    obtain ⟨i1, i2⟩ := rcs_ok n (ra bs false).2.1 h
    refine ⟨by simpa using i1, ?_⟩
    show ((rrec bs false :: (rcs n (ra bs false).2.1 false).1).flatMap rrow).length + (rcs n (ra bs false).2.1 false).2.1.length = _
    rw [List.flatMap_cons, List.length_append]
    omega
theorem rrec_ok {bs : List Int} (h : Byt bs) : RecOk (rrec bs false) :=
  ⟨(tkx_byt h).rd 0, av_range (tkx_byt (rb2_byt h)), ads_rng _ _ _ (rb3_byt h)⟩
theorem rcs_rng : ∀ (n : Nat) (bs : List Int) (sh : Bool), Byt bs → ∀ r ∈ (rcs n bs sh).1, RecOk r
  | 0, bs, sh, _ => by simp [rcs]
  | n + 1, bs, true, _ => by rw [rcs_sh]; simp
  | n + 1, bs, false, h => by
    intro a ha
    have e : (rcs (n + 1) bs false).1 = rrec bs false :: (rcs n (ra bs false).2.1 (ra bs false).2.2).1 := rfl
    rw [e] at ha
    rcases List.mem_cons.1 ha with rfl | ha
    · exact rrec_ok h
    · exact rcs_rng n _ _ (ra_byt h) a ha
/-! Decode, in plain words -/
def readK (l : List Int) : Option (Msg × List Int × Bool) :=
  if rd l 0 = 17 then some (rdQuery (rd l 0) (rd l 1) (l.drop 4))
  else if rd l 0 = 18 ∨ rd l 0 = 22 ∨ rd l 0 = 23 then some (rdPlain (rd l 0) (rd l 1) (l.drop 4))
  else if rd l 0 = 34 then some (rdReport (rd l 0) (rd l 1) (l.drop 4))
  else none
def dcmK (r : Msg × List Int × Bool) : Msg × Int :=
  if r.2.2 = true then (msg0, 3) else if 0 < r.2.1.length then (msg0, 2) else if rightB r.1 = true then (r.1, 0) else (msg0, 2)
def dcm (l : List Int) : Msg × Int :=
  if l.length < 8 then (msg0, 3) else if sumOf l = 0 then (match readK l with | none => (msg0, 2) | some r => dcmK r) else (msg0, 4)
theorem recK_flat (L : List S44) : recK L ≤ (L.flatMap rrow).length := by
  induction L with
  | nil => simp [recK]
  | cons r L ih =>
    rw [List.flatMap_cons, List.length_append, rrow_long]
    have : recK (r :: L) = recK L + r.f2.length + 1 := by simp only [recK, List.map_cons, List.sum_cons, List.length_cons]; omega
    omega
theorem z44_ok : RecOk z44 := ⟨by simp [z44, U8], by simp [z44, U32], by simp [z44]⟩
theorem and8_all : ∀ n : Fin 256, Go.bits .and .u8 (n.val : Int) 8 = if n.val / 8 % 2 = 1 then 8 else 0 := by decide +kernel
theorem and7_all : ∀ n : Fin 256, Go.bits .and .u8 (n.val : Int) 7 = (n.val % 8 : Nat) := by decide +kernel
theorem and8 {x : Int} (h : U8 x) : Go.bits .and .u8 x 8 = if x / 8 % 2 = 1 then 8 else 0 := by
  obtain ⟨h0, h1⟩ := h
  obtain ⟨n, rfl⟩ := Int.eq_ofNat_of_zero_le h0
  rw [and8_all ⟨n, by omega⟩]
  by_cases h : n / 8 % 2 = 1
  · rw [if_pos h, if_pos (by omega)]
  · rw [if_neg h, if_neg (by omega)]
theorem and7 {x : Int} (h : U8 x) : Go.bits .and .u8 x 7 = x % 8 := by
  obtain ⟨h0, h1⟩ := h
  obtain ⟨n, rfl⟩ := Int.eq_ofNat_of_zero_le h0
  refine (and7_all ⟨n, by omega⟩).trans ?_
  show ((n % 8 : Nat) : Int) = _
  omega
/-- What was read, not too short, is of its kinds, and not longer than the bytes. -/
theorem plain_fine {k code : Int} {bs : List Int} (hk : U8 k) (hc : U8 code) (hb : Byt bs) : (rdPlain k code bs).1.Ok ∧ (rdPlain k code bs).1.size ≤ bs.length :=
  ⟨⟨hk, hc, av_range (tkx_byt hb), by simp [rdPlain, U8], by simp [rdPlain, U8], by simp [rdPlain], by simp [rdPlain]⟩, by simp [rdPlain, Msg.size, recK]⟩
theorem qa_len {bs : List Int} (h : (qa bs false).2.2 = false) : 8 + 4 * (qa bs false).1.length + (qa bs false).2.1.length = bs.length := by
  have s3 : tks 2 (qb bs false) (qs bs false) = false := ads_of h
  have s2 : qs bs false = false := tks_of s3
  have s1 : tks 4 bs false = false := tks_of s2
  obtain ⟨a1, _, a3⟩ := tk_ok s1
  have b2 : tks 2 (tkb 4 bs false) false = false := by have h2 := s2; unfold qs at h2; rwa [s1] at h2
  obtain ⟨a4, _, a6⟩ := tk_ok b2
  have b3 : tks 2 (qb bs false) false = false := by have h3 := s3; rwa [s2] at h3
  obtain ⟨a7, _, a9⟩ := tk_ok b3
  have e2 : qb bs false = (tkb 4 bs false).drop 2 := by unfold qb; rw [s1]; exact a6
  have ha : qa bs false = ads (qn bs false) ((qb bs false).drop 2) false := by unfold qa; rw [s3, s2, a9]
  rw [ha] at h ⊢
  obtain ⟨i1, i2, i3⟩ := ads_ok _ _ h
  rw [i3, i2, List.length_drop]
  rw [List.length_drop, e2, List.length_drop, a3, List.length_drop] at i1 ⊢
  rw [e2, List.length_drop, a3, List.length_drop] at a7
  rw [a3, List.length_drop] at a4
  omega
theorem query_fine {k code : Int} {bs : List Int} (hk : U8 k) (hc : U8 code) (hb : Byt bs) (h : (rdQuery k code bs).2.2 = false) : (rdQuery k code bs).1.Ok ∧ (rdQuery k code bs).1.size ≤ bs.length := by
  have hg : U32 (av (tkx 4 bs false)) := av_range (tkx_byt (m := 4) (sh := false) hb)
  unfold rdQuery at h ⊢
  by_cases h4 : 4 < bs.length
  · rw [if_pos h4] at h ⊢
    have hx : Byt (qx bs false) := tkx_byt (tkb_byt hb)
    have hq : Byt (tkb 2 (qb bs false) (qs bs false)) := tkb_byt (tkb_byt (tkb_byt hb))
    have b0 : U8 (rd (qx bs false) 0) := hx.rd 0
    have hl := qa_len h
    refine ⟨⟨hk, hc, hg, ?_, hx.rd 1, ads_rng _ _ _ hq, by simp⟩, ?_⟩
    · show U8 (Go.bits .and .u8 (rd (qx bs false) 0) 7)
      rw [and7 b0]
      unfold U8; omega
    · show (qa bs false).1.length + 2 * recK [] ≤ bs.length
      simp only [recK, List.map_nil, List.sum_nil, List.length_nil]
      omega
  · rw [if_neg h4]
    by_cases hz : (code == 0) = true
    · rw [if_pos hz]
      exact ⟨⟨hk, hc, by simp [U32], by simp [U8], by simp [U8], by simp, by simp⟩, by simp [Msg.size, recK]⟩
    · rw [if_neg hz]
      exact ⟨⟨hk, hc, hg, by simp [U8], by simp [U8], by simp, by simp⟩, by simp [Msg.size, recK]⟩
theorem rep_len {bs : List Int} (h : (rcs (rn bs false) (rb2 bs false) (rs2 bs false)).2.2 = false) : 4 + ((rcs (rn bs false) (rb2 bs false) (rs2 bs false)).1.flatMap rrow).length + (rcs (rn bs false) (rb2 bs false) (rs2 bs false)).2.1.length = bs.length := by
  have s2 : rs2 bs false = false := rcs_of h
  have s1 : rs bs false = false := tks_of s2
  obtain ⟨a1, _, a3⟩ := tk_ok (show tks 2 bs false = false from s1)
  have b2 : tks 2 (rb bs false) false = false := by have h2 := s2; unfold rs2 at h2; rwa [s1] at h2
  obtain ⟨a4, _, a6⟩ := tk_ok b2
  have e1 : rb bs false = bs.drop 2 := a3
  have e2 : rb2 bs false = (rb bs false).drop 2 := by unfold rb2; rw [s1]; exact a6
  rw [s2] at h ⊢
  obtain ⟨i1, i2⟩ := rcs_ok _ _ h
  rw [e1, List.length_drop] at a4
  rw [Nat.add_assoc, i2, e2, List.length_drop, e1, List.length_drop]
  omega
theorem report_fine {k code : Int} {bs : List Int} (hk : U8 k) (hc : U8 code) (hb : Byt bs) (h : (rdReport k code bs).2.2 = false) : (rdReport k code bs).1.Ok ∧ (rdReport k code bs).1.size ≤ 2 * bs.length + 66 := by
  have hl := rep_len h
  refine ⟨⟨hk, hc, by simp [rdReport, U32], by simp [rdReport, U8], by simp [rdReport, U8], by simp [rdReport], ?_⟩, ?_⟩
  · show ∀ r ∈ (if be2 (rx bs false) = 0 then (rcs (rn bs false) (rb2 bs false) (rs2 bs false)).1 else List.replicate 33 z44), RecOk r
    by_cases hz : be2 (rx bs false) = 0
    · rw [if_pos hz]; exact rcs_rng _ _ _ (rb2_byt hb)
    · rw [if_neg hz]
      intro r hr
      rw [(List.mem_replicate.1 hr).2]; exact z44_ok
  · show 0 + 2 * recK (if be2 (rx bs false) = 0 then (rcs (rn bs false) (rb2 bs false) (rs2 bs false)).1 else List.replicate 33 z44) ≤ _
    by_cases hz : be2 (rx bs false) = 0
    · rw [if_pos hz]
      have := recK_flat (rcs (rn bs false) (rb2 bs false) (rs2 bs false)).1
      omega
    · rw [if_neg hz]
      have : recK (List.replicate 33 z44) = 33 := by decide
      omega
theorem readK_fine {l : List Int} (hb : Byt l) {r : Msg × List Int × Bool} (h : readK l = some r) (hs : r.2.2 = false) : r.1.Ok ∧ r.1.size ≤ 2 * l.length + 66 := by
  have b0 : U8 (rd l 0) := hb.rd 0
  have b1 : U8 (rd l 1) := hb.rd 1
  have hd : Byt (l.drop 4) := fun z hz => hb z (List.mem_of_mem_drop hz)
  have hn : (l.drop 4).length ≤ l.length := by rw [List.length_drop]; omega
  unfold readK at h
  by_cases h1 : rd l 0 = 17
  · rw [if_pos h1] at h
    cases h
    have := query_fine b0 b1 hd hs
    exact ⟨this.1, by omega⟩
  · rw [if_neg h1] at h
    by_cases h2 : rd l 0 = 18 ∨ rd l 0 = 22 ∨ rd l 0 = 23
    · rw [if_pos h2] at h
      cases h
      have := plain_fine b0 b1 hd
      exact ⟨this.1, by omega⟩
    · rw [if_neg h2] at h
      by_cases h3 : rd l 0 = 34
      · rw [if_pos h3] at h
        cases h
        have := report_fine b0 b1 hd hs
        exact ⟨this.1, by omega⟩
      · rw [if_neg h3] at h
        cases h
theorem right_m {m : Msg} (h : m.Ok) (hs : m.size ≤ 1000000) : ∃ K, igmp_Right.f K m.k m.ver m.code m.grp m.quiet m.rob m.every m.srcs m.recs = some (rightB m) :=
  ⟨m.size + 2, right_some m h.grp (fun r hr => (h.recs r hr).2.1) hs (by omega)⟩
theorem find_no {k : Int} (h1 : k ≠ 17) (h2 : ¬ (k = 18 ∨ k = 22 ∨ k = 23)) (h3 : k ≠ 34) (p : Value) : Instr.findNow (.int .u8) (.int .u8 k) (es6 p).toList 0 = some none := by
  have e : ∀ c : Int, k ≠ c → Instr.sameNow (.int .u8) (.int .u8 k) (.int .u8 c) = some false := by
    intro c hc
    simp [Instr.sameNow, hc]
  have n2 : k ≠ 18 ∧ k ≠ 22 ∧ k ≠ 23 := ⟨fun h => h2 (.inl h), fun h => h2 (.inr (.inl h)), fun h => h2 (.inr (.inr h))⟩
  simp [es6, Instr.findNow, e _ h1, e _ n2.1, e _ n2.2.1, e _ n2.2.2, e _ h3]
/-- Decode, called. -/
theorem dec_calls {l : List Int} (hb : Byt l) (hl : l.length ≤ 400000) (A : Option Addr) (c : Nat) (w : World) (hr : Kd.C (Kd.int .u8) w A l.length l) (hc : l.length ≤ c) :
    Calls Try.prog 20 #[.slice A l.length c] w (DecP w (dcm l).1 (dcm l).2) := by
  unfold dcm
  by_cases h8 : l.length < 8
  · rw [if_pos h8]; exact dec_few h8 A c w hr hc
  rw [if_neg h8]
  have hw := whole_some hb (by omega)
  by_cases hz : sumOf l = 0
  · rw [if_pos hz]
    rw [hz] at hw
    have hw' : sum_Whole.f l = some true := hw
    have hd : Byt (l.drop 4) := fun z hz => hb z (List.mem_of_mem_drop hz)
    have main : ∀ {fid j : Nat} {fn : Func} (hf : Try.prog.funcs[fid]? = some fn) (hnm : (fn.name == "runtime.NumGoroutine") = false) (hbd : fn.body.isSome = true) (hfd : ∀ p, Instr.findNow (.int .u8) (.int .u8 (rd l 0)) (es6 p).toList 0 = some (some (j, .func (.func fid) #[p] #[]))) (r : Msg × List Int × Bool), readK l = some r → ReadsTo fid (rd l 0) (rd l 1) (l.drop 4) r → Calls Try.prog 20 #[.slice A l.length c] w (DecP w (dcmK r).1 (dcmK r).2) := by
      intro fid j fn hf hnm hbd hfd r hk hrd
      obtain ⟨m, rest, sh⟩ := r
      unfold dcmK
      cases sh
      · rw [if_neg (show ¬ (false = true) by decide)]
        by_cases hrs : 0 < rest.length
        · rw [if_pos hrs]; exact dec_rest (K := 0) (by omega) hw' hf hnm hbd hfd hrd hrs A c w hr hc
        · rw [if_neg hrs]
          obtain ⟨ho, hsz⟩ := readK_fine hb hk rfl
          obtain ⟨K, hK⟩ := right_m ho (by omega)
          cases hq : rightB m
          · rw [if_neg (by decide)]
            rw [show rightB (m, rest, false).1 = false from hq] at hK
            exact dec_wrong (K := K) (by omega) hw' hf hnm hbd hfd hrd (by omega) hK A c w hr hc
          · rw [if_pos rfl]
            rw [show rightB (m, rest, false).1 = true from hq] at hK
            exact dec_right (K := K) (by omega) hw' hf hnm hbd hfd hrd (by omega) hK A c w hr hc
      · rw [if_pos rfl]; exact dec_short (K := 0) (by omega) hw' hf hnm hbd hfd hrd A c w hr hc
    by_cases h1 : rd l 0 = 17
    · have e : readK l = some (rdQuery (rd l 0) (rd l 1) (l.drop 4)) := by unfold readK; rw [if_pos h1]
      rw [e]
      exact main (fid := 41) (j := 0) Try.func41 (by kernel_rfl) (by kernel_rfl) (fun p => by rw [h1]; rfl) _ e (query_reads _ _ hd)
    by_cases h2 : rd l 0 = 18 ∨ rd l 0 = 22 ∨ rd l 0 = 23
    · have e : readK l = some (rdPlain (rd l 0) (rd l 1) (l.drop 4)) := by unfold readK; rw [if_neg h1, if_pos h2]
      rw [e]
      rcases h2 with h | h | h
      · exact main (fid := 42) (j := 1) Try.func42 (by kernel_rfl) (by kernel_rfl) (fun p => by rw [h]; rfl) _ e (plain_reads _ _ hd)
      · exact main (fid := 42) (j := 2) Try.func42 (by kernel_rfl) (by kernel_rfl) (fun p => by rw [h]; rfl) _ e (plain_reads _ _ hd)
      · exact main (fid := 42) (j := 3) Try.func42 (by kernel_rfl) (by kernel_rfl) (fun p => by rw [h]; rfl) _ e (plain_reads _ _ hd)
    by_cases h3 : rd l 0 = 34
    · have e : readK l = some (rdReport (rd l 0) (rd l 1) (l.drop 4)) := by unfold readK; rw [if_neg h1, if_neg h2, if_pos h3]
      rw [e]
      exact main (fid := 43) (j := 4) Try.func43 (by kernel_rfl) (by kernel_rfl) (fun p => by rw [h3]; rfl) _ e (report_reads _ _ hd)
    · have e : readK l = none := by unfold readK; rw [if_neg h1, if_neg h2, if_neg h3]
      rw [e]
      exact dec_form (by omega) hw' (find_no h1 h2 h3) A c w hr hc
  · rw [if_neg hz]
    have hw' : sum_Whole.f l = some false := by rw [hw, show (sumOf l == 0) = false by simp [hz]]
    exact dec_torn (by omega) hw' A c w hr hc
end Go.Proofs.Ytmmjmncchckbbaa
/-
  What is written is read; what is read is right, and as long as what is written of it.
-/
namespace Go.Proofs.Ytmmjmncchckbbaa
open Go.RowKit Go.Proofs.YtmmjmncchckbbaaW.PrintWords Go.Proofs.YtmmjmncchckbbaaW.PrintLast Go.Proofs.YtmmjmncchckbbaaW.PrintMore Go.Proofs.Ytmmjmncchckbbaa.PIg
set_option linter.unusedVariables false
set_option linter.unusedSimpArgs false
def Msg.tail (m : Msg) : List Int := (if m.k = 34 then [0, 0, 0, (m.recs.length : Int) % 256] ++ m.recs.flatMap rrow else ab m.grp) ++ (if m.ver = 3 then [if m.quiet then Go.bits .or .u8 m.rob 8 else m.rob, m.every] ++ wrow [] m.srcs else [])
def mb (m : Msg) : List Int := mbody m.k m.ver m.code m.grp m.quiet m.rob m.every m.srcs m.recs
theorem mb_eq (m : Msg) : mb m = m.k :: m.code :: 0 :: 0 :: m.tail := by
  simp only [mb, mbody, Msg.tail, List.cons_append, List.nil_append, List.append_assoc]
/-- The kinds of right messages. -/
inductive RightV : Msg → Prop
  | q1 : RightV ⟨17, 1, 0, 0, false, 0, 0, [], []⟩
  | q2 (code grp : Int) (h : 0 < code) : RightV ⟨17, 2, code, grp, false, 0, 0, [], []⟩
  | q3 (code grp : Int) (quiet : Bool) (rob every : Int) (srcs : List Int) (hr : rob ≤ 7) (hs : srcs.length ≤ 64) : RightV ⟨17, 3, code, grp, quiet, rob, every, srcs, []⟩
  | pl (k grp : Int) (hk : k = 18 ∨ k = 22 ∨ k = 23) : RightV ⟨k, 0, 0, grp, false, 0, 0, [], []⟩
  | r3 (recs : List S44) (hl : recs.length ≤ 32) (ha : ∀ r ∈ recs, r.f2.length ≤ 64) : RightV ⟨34, 0, 0, 0, false, 0, 0, [], recs⟩
theorem right_view {m : Msg} (h : rightB m = true) : RightV m := by
  unfold rightB at h
  by_cases h1 : m.k = 17
  · rw [if_pos h1] at h
    unfold queryB at h
    by_cases v1 : m.ver = 1
    · rw [if_pos v1] at h
      rw [of_decide_eq_true h]; exact .q1
    rw [if_neg v1] at h
    by_cases v2 : m.ver = 2
    · rw [if_pos v2] at h
      simp only [Bool.and_eq_true, decide_eq_true_eq] at h
      rw [h.2]; exact .q2 _ _ (by have := h.1.2; omega)
    rw [if_neg v2] at h
    by_cases v3 : m.ver = 3
    · rw [if_pos v3] at h
      simp only [Bool.and_eq_true, decide_eq_true_eq] at h
      obtain ⟨k, ver, code, grp, quiet, rob, every, srcs, recs⟩ := m
      obtain rfl : k = 17 := h1
      obtain rfl : ver = 3 := v3
      obtain rfl : recs = [] := List.length_eq_zero_iff.1 h.1.1.2
      exact .q3 _ _ _ _ _ _ h.1.1.1.2 h.1.2
    rw [if_neg v3] at h; cases h
  rw [if_neg h1] at h
  by_cases h2 : m.k = 18 ∨ m.k = 22 ∨ m.k = 23
  · rw [if_pos h2] at h
    simp only [Bool.and_eq_true, decide_eq_true_eq] at h
    rw [h.2]; exact .pl _ _ h2
  rw [if_neg h2] at h
  by_cases h3 : m.k = 34
  · rw [if_pos h3] at h
    simp only [Bool.and_eq_true, decide_eq_true_eq] at h
    rw [h.2, h3]
    refine .r3 _ h.1.1 fun r hr => ?_
    have := List.all_eq_true.1 h.1.2 r hr
    unfold recB at this
    simp only [Bool.and_eq_true, decide_eq_true_eq] at this
    exact this.2
  rw [if_neg h3] at h; cases h
theorem tail_len {m : Msg} (h : RightV m) : m.tail.length + 4 = (if m.ver = 3 then 12 + 4 * m.srcs.length else 8) + (m.recs.flatMap rrow).length := by
  cases h with
  | q1 => rfl
  | q2 => rfl
  | q3 code grp quiet rob every srcs hr hs =>
    show (ab grp ++ ([_, _] ++ ([_, _] ++ [] ++ srcs.flatMap ab))).length + 4 = 12 + 4 * srcs.length + 0
    simp only [List.length_append, List.length_cons, List.length_nil, flat_len, ab_len]; omega
  | pl k grp hk =>
    have : ¬ k = 34 := by omega
    simp [Msg.tail, this, ab_len]
  | r3 recs hl ha =>
    show ([0, 0, 0, _] ++ recs.flatMap rrow ++ []).length + 4 = 8 + _
    simp only [List.length_append, List.length_cons, List.length_nil]; omega
theorem mb_len {m : Msg} (h : RightV m) : (mb m).length = (if m.ver = 3 then 12 + 4 * m.srcs.length else 8) + (m.recs.flatMap rrow).length := by
  rw [mb_eq, ← tail_len h]; simp only [List.length_cons]
def enc (m : Msg) : List Int := putOf (mb m) 2
theorem enc_len {m : Msg} : (enc m).length = (mb m).length := putOf_len _ _
theorem dcm_else {l : List Int} (h : (dcm l).2 ≠ 0) : (dcm l).1 = msg0 := by
  unfold dcm at h ⊢
  by_cases h8 : l.length < 8
  · rw [if_pos h8]
  rw [if_neg h8] at h ⊢
  by_cases hz : sumOf l = 0
  · rw [if_pos hz] at h ⊢
    cases hk : readK l with
    | none => rfl
    | some r =>
      rw [hk] at h
      show (dcmK r).1 = msg0
      replace h : (dcmK r).2 ≠ 0 := h
      unfold dcmK at h ⊢
      by_cases h1 : r.2.2 = true
      · rw [if_pos h1]
      rw [if_neg h1] at h ⊢
      by_cases h2 : 0 < r.2.1.length
      · rw [if_pos h2]
      rw [if_neg h2] at h ⊢
      by_cases h3 : rightB r.1 = true
      · rw [if_pos h3] at h; exact absurd rfl h
      · rw [if_neg h3]
  · rw [if_neg hz]
theorem readK_len {l : List Int} (h8 : 8 ≤ l.length) {r : Msg × List Int × Bool} (h : readK l = some r) (hs : r.2.2 = false) (h0 : r.2.1.length = 0) (hr : rightB r.1 = true) : (mb r.1).length = l.length := by
  have hv := right_view hr
  rw [mb_len hv]
  have hn : (l.drop 4).length + 4 = l.length := by rw [List.length_drop]; omega
  unfold readK at h
  by_cases h1 : rd l 0 = 17
  · rw [if_pos h1] at h
    cases h
    unfold rdQuery at hs h0 ⊢
    by_cases h4 : 4 < (l.drop 4).length
    · rw [if_pos h4] at hs h0 ⊢
      have := qa_len hs
      replace h0 : (qa (l.drop 4) false).2.1.length = 0 := h0
      show (12 + 4 * (qa (l.drop 4) false).1.length) + 0 = l.length
      omega
    · rw [if_neg h4]
      by_cases hz : (rd l 1 == 0) = true
      · rw [if_pos hz]; show 8 + 0 = l.length; omega
      · rw [if_neg hz]; show 8 + 0 = l.length; omega
  rw [if_neg h1] at h
  by_cases h2 : rd l 0 = 18 ∨ rd l 0 = 22 ∨ rd l 0 = 23
  · rw [if_pos h2] at h
    cases h
    obtain ⟨_, _, e⟩ := tk_ok (show tks 4 (l.drop 4) false = false from hs)
    replace h0 : (tkb 4 (l.drop 4) false).length = 0 := h0
    rw [e, List.length_drop] at h0
    show 8 + 0 = l.length; omega
  rw [if_neg h2] at h
  by_cases h3 : rd l 0 = 34
  · rw [if_pos h3] at h
    cases h
    have hl := rep_len (bs := l.drop 4) hs
    have hz : be2 (rx (l.drop 4) false) = 0 := by
      refine Classical.byContradiction fun hz => ?_
      have e : (rdReport (rd l 0) (rd l 1) (l.drop 4)).1.recs = List.replicate 33 z44 := by unfold rdReport; exact if_neg hz
      have e2 : (rdReport (rd l 0) (rd l 1) (l.drop 4)).1.k = 34 := h3
      generalize (rdReport (rd l 0) (rd l 1) (l.drop 4)).1 = m at hv e e2
      cases hv with
      | r3 recs hl' ha =>
        have : recs.length = 33 := by rw [show recs = _ from e]; exact List.length_replicate
        omega
      | pl k grp hk => replace e2 : k = 34 := e2; omega
      | q1 => cases e2
      | q2 => cases e2
      | q3 => cases e2
    have e : (rdReport (rd l 0) (rd l 1) (l.drop 4)).1.recs = (rcs (rn (l.drop 4) false) (rb2 (l.drop 4) false) (rs2 (l.drop 4) false)).1 := by unfold rdReport; exact if_pos hz
    rw [e]
    replace h0 : (rcs (rn (l.drop 4) false) (rb2 (l.drop 4) false) (rs2 (l.drop 4) false)).2.1.length = 0 := h0
    show 8 + _ = l.length
    omega
  · rw [if_neg h3] at h; cases h
theorem dcm_ok {l : List Int} (hb : Byt l) (h : (dcm l).2 = 0) : (dcm l).1.Ok ∧ rightB (dcm l).1 = true ∧ (enc (dcm l).1).length = l.length := by
  unfold dcm at h ⊢
  by_cases h8 : l.length < 8
  · rw [if_pos h8] at h; cases h
  rw [if_neg h8] at h ⊢
  by_cases hz : sumOf l = 0
  · rw [if_pos hz] at h ⊢
    cases hk : readK l with
    | none => rw [hk] at h; cases h
    | some r =>
      rw [hk] at h
      replace h : (dcmK r).2 = 0 := h
      show (dcmK r).1.Ok ∧ rightB (dcmK r).1 = true ∧ (enc (dcmK r).1).length = l.length
      unfold dcmK at h ⊢
      by_cases h1 : r.2.2 = true
      · rw [if_pos h1] at h; cases h
      rw [if_neg h1] at h ⊢
      by_cases h2 : 0 < r.2.1.length
      · rw [if_pos h2] at h; cases h
      rw [if_neg h2] at h ⊢
      by_cases h3 : rightB r.1 = true
      · rw [if_pos h3]
        have hs : r.2.2 = false := by simpa using h1
        exact ⟨(readK_fine hb hk hs).1, h3, by rw [enc_len]; exact readK_len (by omega) hk hs (by omega) h3⟩
      · rw [if_neg h3] at h; cases h
  · rw [if_neg hz] at h; cases h
end Go.Proofs.Ytmmjmncchckbbaa
/-
  The document's sums and rows of bytes, in plain numbers.
-/
namespace Go.Proofs.Ytmmjmncchckbbaa
open Go.RowKit Go.Proofs.YtmmjmncchckbbaaW.PrintWords Go.Proofs.YtmmjmncchckbbaaW.PrintLast Go.Proofs.Ytmmjmncchckbbaa.PIg
set_option linter.unusedVariables false
set_option linter.unusedSimpArgs false
theorem refJoin_some {x y : Int} (h0 : 0 ≤ x) (h1 : x < 65536) (h2 : 0 ≤ y) (h3 : y < 65536) : stolonref02_Join.f x y = some (joinW x y) := by
  unfold stolonref02_Join.f joinW
  rw [wr64 (i := x) (by omega) (by omega), wr64 (i := y) (by omega) (by omega), wr64 (i := x + y) (by omega) (by omega), wr64 (i := x + y - 65536) (by omega) (by omega), wr64 (by omega) (by omega)]
  by_cases c : x + y ≥ 65536
  · rw [if_pos c, if_neg (by omega), wraps_u16 _ (by omega) (by omega)]; congr 1; omega
  · rw [if_neg c, if_pos (by omega), wraps_u16 _ (by omega) (by omega)]

theorem refOf_loop (l : List Int) (hb : ∀ z ∈ l, 0 ≤ z ∧ z < 256) (hl : l.length ≤ 1000000) : ∀ (d k j : Nat) (s : Int), 0 ≤ s → s < 65536 → (l.length + 1) / 2 - j = d → d < k →
    stolonref02_Of.l0 k l s ((2 * j : Nat) : Int) = some (65535 - ((List.range ((l.length + 1) / 2)).drop j).foldl (fun s k => joinW s (wordAt l k)) s) := by
  intro d
  induction d with
  | zero =>
    intro k j s h0 h1 hd hk
    obtain ⟨k, rfl⟩ : ∃ m, k = m + 1 := ⟨k - 1, by omega⟩
    rw [stolonref02_Of.l0, if_neg (by omega), List.drop_of_length_le (by simp; omega), List.foldl_nil, wraps_u16 _ (by omega) (by omega)]
  | succ d ih =>
    intro k j s h0 h1 hd hk
    obtain ⟨k, rfl⟩ : ∃ m, k = m + 1 := ⟨k - 1, by omega⟩
    have g0 := get_byte hb (2 * j)
    have g1 := get_byte hb (2 * j + 1)
    have hw := wordAt_range l hb j
    have hj := joinW_range h0 h1 hw.1 hw.2
    have e := ih k (j + 1) (joinW s (wordAt l j)) hj.1 hj.2 (by omega) (by omega)
    rw [List.drop_eq_getElem_cons (by simp; omega), List.foldl_cons, List.getElem_range, ← e]
    have i1 : wrap64 (((2 * j : Nat) : Int) + 1) = ((2 * j + 1 : Nat) : Int) := by rw [wr64 (by omega) (by omega)]; omega
    have i2 : wrap64 (((2 * j : Nat) : Int) + 2) = ((2 * (j + 1) : Nat) : Int) := by rw [wr64 (by omega) (by omega)]; omega
    rw [stolonref02_Of.l0, if_pos (by omega), if_pos (by omega), i1, i2, rd_eq, rd_eq, Int.toNat_natCast, Int.toNat_natCast]
    rw [wr64 (i := l.getD (2 * j) 0) (by omega) (by omega), wr64 (i := l.getD (2 * j + 1) 0) (by omega) (by omega), wr64 (i := l.getD (2 * j) 0 * 256) (by omega) (by omega), wr64 (by omega) (by omega)]
    by_cases c : 2 * j + 1 < l.length
    · have hwe : wordAt l j = l.getD (2 * j) 0 * 256 + l.getD (2 * j + 1) 0 := by unfold wordAt; rw [if_pos c]
      rw [if_pos (by omega), if_pos (by omega), ← hwe, wraps_u16 _ hw.1 hw.2, refJoin_some h0 h1 hw.1 hw.2]
      rfl
    · have hwe : wordAt l j = l.getD (2 * j) 0 * 256 := by unfold wordAt; rw [if_neg c]; omega
      rw [if_neg (by omega), ← hwe, wraps_u16 _ hw.1 hw.2, refJoin_some h0 h1 hw.1 hw.2]
      rfl

theorem refOf_some (l : List Int) (hb : ∀ z ∈ l, 0 ≤ z ∧ z < 256) (hl : l.length ≤ 1000000) (k : Nat) (hk : l.length < k) : stolonref02_Of.f k l = some (sumOf l) := by
  unfold stolonref02_Of.f
  exact refOf_loop l hb hl ((l.length + 1) / 2) k 0 0 (by omega) (by omega) (by omega) (by omega)

end Go.Proofs.Ytmmjmncchckbbaa
/-
  What the document's reader of messages tells, in plain words.
-/
namespace Go.Proofs.Ytmmjmncchckbbaa
open Go.RowKit Go.Proofs.YtmmjmncchckbbaaW.PrintWords Go.Proofs.YtmmjmncchckbbaaW.PrintLast Go.Proofs.Ytmmjmncchckbbaa.PIg
set_option linter.unusedVariables false
set_option linter.unusedSimpArgs false
theorem rd_drop (l : List Int) (i j : Nat) : rd (l.drop i) (j : Int) = rd l ((i + j : Nat) : Int) := by
  rw [rd_eq, rd_eq, Int.toNat_natCast, Int.toNat_natCast, List.getD_eq_getElem?_getD, List.getD_eq_getElem?_getD, List.getElem?_drop]
theorem rd_take {l : List Int} {n j : Nat} (h : j < n) : rd (l.take n) (j : Int) = rd l (j : Int) := by
  rw [rd_eq, rd_eq, Int.toNat_natCast, List.getD_eq_getElem?_getD, List.getD_eq_getElem?_getD, List.getElem?_take_of_lt h]
theorem rd_b {l : List Int} (hb : Byt l) (i : Nat) : 0 ≤ rd l (i : Int) ∧ rd l (i : Int) < 256 := by
  rw [rd_eq, Int.toNat_natCast, List.getD_eq_getElem?_getD]
  cases h : l[i]? with
  | none => simp
  | some a => exact hb a (List.mem_of_getElem? h)
theorem be2_drop (l : List Int) (i : Nat) : be2 (l.drop i) = rd l ((i : Nat) : Int) * 256 + rd l ((i + 1 : Nat) : Int) := by
  unfold be2
  have h0 := rd_drop l i 0
  have h1 := rd_drop l i 1
  rw [show ((0 : Nat) : Int) = 0 from rfl] at h0
  rw [show ((1 : Nat) : Int) = 1 from rfl] at h1
  rw [h0, h1, Nat.add_zero]
theorem av_drop (l : List Int) (i : Nat) : av (l.drop i) = rd l ((i : Nat) : Int) * 16777216 + rd l ((i + 1 : Nat) : Int) * 65536 + rd l ((i + 2 : Nat) : Int) * 256 + rd l ((i + 3 : Nat) : Int) := by
  unfold av
  have h0 := rd_drop l i 0
  have h1 := rd_drop l i 1
  have h2 := rd_drop l i 2
  have h3 := rd_drop l i 3
  rw [show ((0 : Nat) : Int) = 0 from rfl] at h0
  rw [show ((1 : Nat) : Int) = 1 from rfl] at h1
  rw [show ((2 : Nat) : Int) = 2 from rfl] at h2
  rw [show ((3 : Nat) : Int) = 3 from rfl] at h3
  rw [h0, h1, h2, h3, Nat.add_zero]
theorem av_take (l : List Int) : av (l.take 4) = av l := by
  unfold av
  have h0 := rd_take (l := l) (n := 4) (j := 0) (by omega)
  have h1 := rd_take (l := l) (n := 4) (j := 1) (by omega)
  have h2 := rd_take (l := l) (n := 4) (j := 2) (by omega)
  have h3 := rd_take (l := l) (n := 4) (j := 3) (by omega)
  rw [show ((0 : Nat) : Int) = 0 from rfl] at h0
  rw [show ((1 : Nat) : Int) = 1 from rfl] at h1
  rw [show ((2 : Nat) : Int) = 2 from rfl] at h2
  rw [show ((3 : Nat) : Int) = 3 from rfl] at h3
  rw [h0, h1, h2, h3]
theorem be2_take (l : List Int) : be2 (l.take 2) = be2 l := by
  unfold be2
  have h0 := rd_take (l := l) (n := 2) (j := 0) (by omega)
  have h1 := rd_take (l := l) (n := 2) (j := 1) (by omega)
  rw [show ((0 : Nat) : Int) = 0 from rfl] at h0
  rw [show ((1 : Nat) : Int) = 1 from rfl] at h1
  rw [h0, h1]
theorem rtwo_some {l : List Int} (hb : Byt l) {i : Nat} (h : i + 2 ≤ l.length) (hl : l.length ≤ 1000000) : stolonref05_two.f l (i : Int) = some (be2 (l.drop i)) := by
  have g0 := rd_b hb i
  have g1 := rd_b hb (i + 1)
  have e1 : wrap64 ((i : Int) + 1) = ((i + 1 : Nat) : Int) := by rw [wr64 (by omega) (by omega)]; omega
  unfold stolonref05_two.f
  rw [be2_drop, e1, if_pos (by omega), if_pos (by omega), if_pos (by omega), if_pos (by omega)]
  rw [wr64 (i := rd l (i : Int)) (by omega) (by omega), wr64 (i := rd l ((i + 1 : Nat) : Int)) (by omega) (by omega), wr64 (i := rd l (i : Int) * 256) (by omega) (by omega), wr64 (by omega) (by omega)]
theorem rat_some {l : List Int} (hb : Byt l) {i : Nat} (h : i + 4 ≤ l.length) (hl : l.length ≤ 1000000) : stolonref05_at.f l (i : Int) = some (av (l.drop i)) := by
  have g0 := rd_b hb i
  have g1 := rd_b hb (i + 1)
  have g2 := rd_b hb (i + 2)
  have g3 := rd_b hb (i + 3)
  have e4 : wrap64 ((i : Int) + 4) = ((i + 4 : Nat) : Int) := by rw [wr64 (by omega) (by omega)]; omega
  unfold stolonref05_at.f
  rw [e4, if_pos (by omega), if_pos (by omega), if_pos (by omega), Int.toNat_natCast, Int.toNat_natCast]
  have hlen : ((l.take (i + 4)).drop i).length = 4 := by rw [List.length_drop, List.length_take]; omega
  have r : ∀ j : Nat, j < 4 → rd ((l.take (i + 4)).drop i) (j : Int) = rd l ((i + j : Nat) : Int) := fun j hj => by rw [rd_drop, rd_take (by omega)]
  have r0 : rd ((l.take (i + 4)).drop i) 0 = rd l (i : Int) := r 0 (by omega)
  have r1 : rd ((l.take (i + 4)).drop i) 1 = rd l ((i + 1 : Nat) : Int) := r 1 (by omega)
  have r2 : rd ((l.take (i + 4)).drop i) 2 = rd l ((i + 2 : Nat) : Int) := r 2 (by omega)
  have r3 : rd ((l.take (i + 4)).drop i) 3 = rd l ((i + 3 : Nat) : Int) := r 3 (by omega)
  unfold stolonref01_Of.f
  rw [hlen, if_neg (by omega), if_neg (by omega), if_pos (by omega), if_pos (by omega), if_pos (by omega), if_pos (by omega), Option.bind_some, r0, r1, r2, r3, av_drop]
  congr 1
  omega
theorem ads_step {bs : List Int} (h : 4 ≤ bs.length) (n : Nat) : ads (n + 1) bs false = (av bs :: (ads n (bs.drop 4) false).1, (ads n (bs.drop 4) false).2) := by
  have hs : tks 4 bs false = false := by unfold tks; simp; omega
  obtain ⟨_, h2, h3⟩ := tk_ok hs
  have e : ads (n + 1) bs false = (av (tkx 4 bs false) :: (ads n (tkb 4 bs false) (tks 4 bs false)).1, (ads n (tkb 4 bs false) (tks 4 bs false)).2) := rfl
  rw [e, hs, h2, h3, av_take]
theorem ads_long : ∀ (n : Nat) (bs : List Int), 4 * n ≤ bs.length → (ads n bs false).2.2 = false
  | 0, bs, _ => rfl
  | n + 1, bs, h => by
    rw [ads_step (by omega)]
    exact ads_long n (bs.drop 4) (by rw [List.length_drop]; omega)
theorem many_l0 {l : List Int} (hb : Byt l) (hl : l.length ≤ 1000000) (i n : Nat) (hin : i + 4 * n ≤ l.length) : ∀ (d k j : Nat) (x : List Int), j + d = n → d < k → x.length = j → stolonref05_many.l0 k l (i : Int) (n : Int) x (j : Int) = some (x ++ (ads d (l.drop (i + 4 * j)) false).1, true)
  | 0, k, j, x, hj, hk, hx => by
    obtain ⟨k, rfl⟩ : ∃ m, k = m + 1 := ⟨k - 1, by omega⟩
    rw [stolonref05_many.l0, if_neg (by omega)]
    simp [ads]
  | d + 1, k, j, x, hj, hk, hx => by
    obtain ⟨k, rfl⟩ : ∃ m, k = m + 1 := ⟨k - 1, by omega⟩
    have e1 : wrap64 ((i : Int) + wrap64 (4 * (j : Int))) = ((i + 4 * j : Nat) : Int) := by rw [wr64 (i := 4 * (j : Int)) (by omega) (by omega), wr64 (by omega) (by omega)]; omega
    have e2 : wrap64 ((j : Int) + 1) = ((j + 1 : Nat) : Int) := by rw [wr64 (by omega) (by omega)]; omega
    rw [stolonref05_many.l0, if_pos (by omega), e1, rat_some hb (by omega) hl, Option.bind_some, if_pos (by omega), e2]
    rw [many_l0 hb hl i n hin d k (j + 1) (x ++ [av (l.drop (i + 4 * j))]) (by omega) (by omega) (by simp; omega)]
    rw [ads_step (by rw [List.length_drop]; omega), List.drop_drop, List.append_assoc]
    rfl
theorem rmany_some {k : Nat} {l : List Int} (hb : Byt l) (hl : l.length ≤ 1000000) {i n : Nat} (hi : i ≤ 1000000) (hn : n ≤ 1000000) (hk : n < k) :
    stolonref05_many.f k l (i : Int) (n : Int) = some (if l.length < i + 4 * n then ([], false) else ((ads n (l.drop i) false).1, true)) := by
  have e1 : wrap64 ((i : Int) + wrap64 (4 * (n : Int))) = ((i + 4 * n : Nat) : Int) := by rw [wr64 (i := 4 * (n : Int)) (by omega) (by omega), wr64 (by omega) (by omega)]; omega
  unfold stolonref05_many.f
  rw [e1]
  by_cases h : l.length < i + 4 * n
  · rw [if_pos (by omega), if_pos h]
  · rw [if_neg (by omega), if_neg h]
    have := many_l0 hb hl i n (by omega) n k 0 [] (by omega) hk rfl
    simpa using this
theorem ra_8 {bs : List Int} (hb : Byt bs) (h : 8 ≤ bs.length) : ra bs false = ads (be2 (bs.drop 2)).toNat (bs.drop 8) false ∧ rrec bs false = ⟨rd bs 0, av (bs.drop 4), (ads (be2 (bs.drop 2)).toNat (bs.drop 8) false).1⟩ := by
  have s1 : tks 2 bs false = false := by unfold tks; simp; omega
  obtain ⟨_, a2, a3⟩ := tk_ok s1
  have f1 : rs bs false = false := s1
  have f2 : rb bs false = bs.drop 2 := a3
  have s2 : tks 2 (bs.drop 2) false = false := by unfold tks; simp; omega
  obtain ⟨_, b2, b3⟩ := tk_ok s2
  have f3 : rs2 bs false = false := by unfold rs2; rw [f1, f2]; exact s2
  have f4 : rb2 bs false = bs.drop 4 := by unfold rb2; rw [f1, f2, b3, List.drop_drop]
  have s3 : tks 4 (bs.drop 4) false = false := by unfold tks; simp; omega
  obtain ⟨_, c2, c3⟩ := tk_ok s3
  have f5 : rs3 bs false = false := by unfold rs3; rw [f3, f4]; exact s3
  have f6 : rb3 bs false = bs.drop 8 := by unfold rb3; rw [f3, f4, c3, List.drop_drop]
  have f7 : rn bs false = (be2 (bs.drop 2)).toNat := by unfold rn; rw [f1, f2, b2, be2_take]
  have f8 : rg bs false = av (bs.drop 4) := by unfold rg; rw [f3, f4, c2, av_take]
  have f9 : ra bs false = ads (be2 (bs.drop 2)).toNat (bs.drop 8) false := by unfold ra; rw [f5, f6, f7]
  refine ⟨f9, ?_⟩
  unfold rrec
  rw [f8, f9]
  have hx : rx bs false = bs.take 2 := a2
  have h0 := rd_take (l := bs) (n := 2) (j := 0) (by omega)
  rw [show ((0 : Nat) : Int) = 0 from rfl] at h0
  rw [hx, h0]
theorem be2_le {l : List Int} (hb : Byt l) (i : Nat) : 0 ≤ be2 (l.drop i) ∧ be2 (l.drop i) ≤ 65535 := by
  have g0 := rd_b hb i
  have g1 := rd_b hb (i + 1)
  rw [be2_drop]
  omega
theorem rcs_short {d : Nat} {bs : List Int} (h : (ra bs false).2.2 = true) : (rcs (d + 1) bs false).2.2 = true := by
  have e : rcs (d + 1) bs false = (rrec bs false :: (rcs d (ra bs false).2.1 (ra bs false).2.2).1, (rcs d (ra bs false).2.1 (ra bs false).2.2).2) := rfl
  rw [e, h, rcs_sh]
theorem rcs_long {d : Nat} {bs : List Int} (h : (ra bs false).2.2 = false) : rcs (d + 1) bs false = (rrec bs false :: (rcs d (ra bs false).2.1 false).1, (rcs d (ra bs false).2.1 false).2) := by
  have e : rcs (d + 1) bs false = (rrec bs false :: (rcs d (ra bs false).2.1 (ra bs false).2.2).1, (rcs d (ra bs false).2.1 (ra bs false).2.2).2) := rfl
  rw [e, h]
theorem wa1 {p : Nat} (h : p ≤ 2000000) : wrap64 ((p : Int) + 1) = ((p + 1 : Nat) : Int) := by rw [wr64 (by omega) (by omega)]; omega
theorem wa2 {p : Nat} (h : p ≤ 2000000) : wrap64 ((p : Int) + 2) = ((p + 2 : Nat) : Int) := by rw [wr64 (by omega) (by omega)]; omega
theorem wa4 {p : Nat} (h : p ≤ 2000000) : wrap64 ((p : Int) + 4) = ((p + 4 : Nat) : Int) := by rw [wr64 (by omega) (by omega)]; omega
theorem wa8 {p : Nat} (h : p ≤ 2000000) : wrap64 ((p : Int) + 8) = ((p + 8 : Nat) : Int) := by rw [wr64 (by omega) (by omega)]; omega
def recR (l : List Int) (x : List S44) (r : List S44 × List Int × Bool) : List S44 × Int × Bool := if r.2.2 = true then ([], 0, false) else (x ++ r.1, (l.length : Int) - (r.2.1.length : Int), true)
theorem records_l0 {l : List Int} (hb : Byt l) (hl : l.length ≤ 1000000) (h8 : 8 ≤ l.length) {n M : Nat} (hM : 65537 ≤ M) (hn : be2 (l.drop 6) = (n : Int)) : ∀ (d k j p : Nat) (x : List S44), j + d = n → d + M < k → x.length = j → p ≤ l.length →
    stolonref05_records.l0 k l x (p : Int) (j : Int) = some (recR l x (rcs d (l.drop p) false)) := by
  intro d
  induction d with
  | zero =>
    intro k j p x hj hk hx hp
    obtain ⟨k, rfl⟩ : ∃ m, k = m + 1 := ⟨k - 1, by omega⟩
    have e6 := rtwo_some hb (i := 6) (by omega) hl
    rw [show ((6 : Nat) : Int) = 6 from rfl] at e6
    rw [stolonref05_records.l0, e6, Option.bind_some, hn, if_neg (by omega)]
    simp only [recR, rcs, Bool.false_eq_true, if_false, List.append_nil, List.length_drop]
    congr 3
    omega
  | succ d ih =>
    intro k j p x hj hk hx hp
    obtain ⟨k, rfl⟩ : ∃ m, k = m + 1 := ⟨k - 1, by omega⟩
    have q1 : (j : Int) < (n : Int) := by omega
    have hn3 : n ≤ 65535 := by have h2 := (be2_le hb 6).2; rw [hn] at h2; exact Int.ofNat_le.1 h2
    have hj2 : j ≤ 2000000 := Nat.le_trans (Nat.le_add_right j (d + 1)) (by rw [hj]; exact Nat.le_trans hn3 (by decide))
    have e6 := rtwo_some hb (i := 6) (by omega) hl
    rw [show ((6 : Nat) : Int) = 6 from rfl] at e6
    have hbd : Byt (l.drop p) := fun z hz => hb z (List.mem_of_mem_drop hz)
    have hlen : (l.drop p).length = l.length - p := List.length_drop
    have hp2 : p ≤ 2000000 := by omega
    have e8 : wrap64 ((p : Int) + 8) = ((p + 8 : Nat) : Int) := wa8 hp2
    have e2 : wrap64 ((p : Int) + 2) = ((p + 2 : Nat) : Int) := wa2 hp2
    have e4 : wrap64 ((p : Int) + 4) = ((p + 4 : Nat) : Int) := wa4 hp2
    have ej : wrap64 ((j : Int) + 1) = ((j + 1 : Nat) : Int) := wa1 hj2
    rw [stolonref05_records.l0, e6, Option.bind_some, hn, if_pos q1, e8, e2, e4, ej]
    clear e6 q1 e8 e2 e4 ej
    by_cases c8 : p + 8 ≤ l.length
    case neg =>
      have q2 : ((p + 8 : Nat) : Int) > (l.length : Int) := by omega
      rw [if_pos q2]
      have hs : (rcs (d + 1) (l.drop p) false).2.2 = true := by
        refine rcs_short ?_
        cases h : (ra (l.drop p) false).2.2
        · exfalso
          have := ra_ok h
          rw [rrow_long, hlen] at this
          omega
        · rfl
      unfold recR
      rw [if_pos hs]
    have q2 : ¬ ((p + 8 : Nat) : Int) > (l.length : Int) := by omega
    have q3 : (0 : Int) ≤ (p : Int) := by omega
    have q4 : (p : Int) < (l.length : Int) := by omega
    have q5 : x.length < 4398046511104 := by omega
    have q6 : j + 1 + d = n := by omega
    have q7 : d + M < k := by omega
    have hq2 := be2_le hb (p + 2)
    obtain ⟨q, hq⟩ : ∃ q : Nat, be2 (l.drop (p + 2)) = (q : Int) := ⟨(be2 (l.drop (p + 2))).toNat, (Int.toNat_of_nonneg hq2.1).symm⟩
    rw [hq] at hq2
    have q8 : q < k := by omega
    have q9 : q ≤ 1000000 := by omega
    have q10 : p + 8 ≤ 1000000 := by omega
    rw [if_neg q2, rtwo_some hb (by omega) hl, Option.bind_some]
    rw [hq, rmany_some hb hl q10 q9 q8, Option.bind_some]
    obtain ⟨f1, f2⟩ := ra_8 hbd (by rw [hlen]; omega)
    rw [List.drop_drop, List.drop_drop, hq, Int.toNat_natCast] at f1
    rw [List.drop_drop, List.drop_drop, List.drop_drop, hq, Int.toNat_natCast] at f2
    have hlen8 : (l.drop (p + 8)).length = l.length - (p + 8) := List.length_drop
    by_cases c4 : l.length < p + 8 + 4 * q
    · rw [if_pos c4, if_neg (by decide)]
      have hs : (rcs (d + 1) (l.drop p) false).2.2 = true := by
        refine rcs_short ?_
        rw [f1]
        cases h : (ads q (l.drop (p + 8)) false).2.2
        · exfalso
          have := (ads_ok _ _ h).1
          rw [hlen8] at this
          omega
        · rfl
      unfold recR
      rw [if_pos hs]
    · have q11 : p + 4 + 4 ≤ l.length := by omega
      have q12 : p + 8 + 4 * q ≤ l.length := by omega
      have q13 : 4 * q ≤ (l.drop (p + 8)).length := by rw [hlen8]; omega
      rw [if_neg c4, if_pos rfl, if_pos q3, if_pos q4, rat_some hb q11 hl, Option.bind_some, if_pos q5]
      have hs : (ads q (l.drop (p + 8)) false).2.2 = false := ads_long q _ q13
      have ha := (ads_ok _ _ hs).2.1
      rw [List.drop_drop] at ha
      have e5 : wrap64 (((p + 8 : Nat) : Int) + wrap64 (4 * (q : Int))) = ((p + 8 + 4 * q : Nat) : Int) := by
        rw [wr64 (i := 4 * (q : Int)) (by omega) (by omega), wr64 (by omega) (by omega)]; omega
      have r0 : rd (l.drop p) 0 = rd l ((p : Nat) : Int) := rd_drop l p 0
      rw [rcs_long (by rw [f1]; exact hs), f1, ha, f2, r0, e5, ih k (j + 1) (p + 8 + 4 * q) _ q6 q7 (by simp; omega) q12]
      simp only [recR, List.append_assoc, List.singleton_append]
theorem rrecords_some {l : List Int} (hb : Byt l) (hl : l.length ≤ 1000000) (h8 : 8 ≤ l.length) : stolonref05_records.f 200000 l = some (recR l [] (rcs (be2 (l.drop 6)).toNat (l.drop 8) false)) := by
  have h2 := be2_le hb 6
  obtain ⟨n, hn⟩ : ∃ n : Nat, be2 (l.drop 6) = (n : Int) := ⟨(be2 (l.drop 6)).toNat, by omega⟩
  unfold stolonref05_records.f
  rw [hn, Int.toNat_natCast]
  exact records_l0 hb hl h8 (M := 65537) (by omega) hn n 200000 0 8 [] (by omega) (by omega) rfl h8
end Go.Proofs.Ytmmjmncchckbbaa
/-
  Which messages are short, in plain words.
-/
namespace Go.Proofs.Ytmmjmncchckbbaa
open Go.RowKit Go.Proofs.YtmmjmncchckbbaaW.PrintWords Go.Proofs.Ytmmjmncchckbbaa.PIg
set_option linter.unusedVariables false
set_option linter.unusedSimpArgs false
end Go.Proofs.Ytmmjmncchckbbaa
