/- Texts of a claim. -/
import Derived.Test.YtmmjmncchckbbaaPIgx0
import Derived.Test.YtmmjmncchckbbaaIgA
import Derived.Test.YtmmjmncchckbbaaPIgx3
import Derived.Test.YtmmjmncchckbbaaIgD
-- written by a program of this session (hprint.py), over the kit's printer
namespace Go.Proofs.Ytmmjmncchckbbaa.PIg
open Go.RowKit Go.Proofs.YtmmjmncchckbbaaW.PrintWords Go.Proofs.YtmmjmncchckbbaaW.PrintLast Go.Proofs.YtmmjmncchckbbaaW.PrintMore
attribute [local go_sem] max2_int min2_int max_two min_two max_three min_three max_four min_four   -- for this text's walks alone
set_option linter.unusedVariables false
set_option linter.unusedSimpArgs false

/-! ### stolonref01_Asked: function 22 -/
def stolonref01_Asked.f (a0 : Int) : Option (Bool) := if a0 ≥ 3758096640 then (some (decide (a0 ≤ 4026531839))) else (some false)
set_option maxHeartbeats 8000000 in
set_option maxRecDepth 100000 in
theorem stolonref01_Asked.calls (a0 : Int) (r : Bool) (w : World) (h : stolonref01_Asked.f a0 = some r) :
    Calls Try.prog 22 #[.int .u32 a0] w fun e w' => e = .returned (.bool r) ∧ Drawn0 w w' := by
  have H : (if a0 ≥ 3758096640 then (some (decide (a0 ≤ 4026531839))) else (some false)) = some r := h
  clear h
  by_cases c2 : a0 ≥ 3758096640
  · rw [if_pos c2] at H
    have c2b0 : decide (3758096640 ≤ a0) = true := decide_eq_true c2
    clear c2
    obtain rfl := Option.some.inj H
    go_enter Try.func22, Try.ntmps22
    go_wp2
    go_ret
    exact ⟨by first | rfl | (simp; done) | (simp [*]; done), by repeat (first | exact Drawn0.refl _ | apply Drawn0.step)⟩
  · rw [if_neg c2] at H
    have c2b0 : decide (3758096640 ≤ a0) = false := decide_eq_false c2
    clear c2
    obtain rfl := Option.some.inj H
    go_enter Try.func22, Try.ntmps22
    go_wp2
    go_ret
    exact ⟨by first | rfl | (simp; done) | (simp [*]; done), by repeat (first | exact Drawn0.refl _ | apply Drawn0.step)⟩

end Go.Proofs.Ytmmjmncchckbbaa.PIg
/-
  Which messages are right, which are the same: in plain words.
-/
namespace Go.Proofs.Ytmmjmncchckbbaa
open Go.RowKit Go.Proofs.YtmmjmncchckbbaaW.PrintWords Go.Proofs.Ytmmjmncchckbbaa.PIg
set_option linter.unusedVariables false
set_option linter.unusedSimpArgs false
deriving instance DecidableEq for S44
deriving instance DecidableEq for Msg
theorem rd_get {x : List Int} {i : Nat} (h : i < x.length) : rd x (i : Int) = x[i] := by
  rw [rd, Int.toNat_natCast, List.getD_eq_getElem?_getD, List.getElem?_eq_getElem h]; rfl
theorem rd44_get {x : List S44} {i : Nat} (h : i < x.length) : rd_T44 x (i : Int) = x[i] := by
  rw [rd_T44, Int.toNat_natCast, List.getD_eq_getElem?_getD, List.getElem?_eq_getElem h]; rfl
theorem wr1 {i : Nat} (h : i < 1000000000) : wrap64 ((i : Int) + 1) = ((i + 1 : Nat) : Int) := by
  rw [rw64 (by omega) (by omega)]; rfl
theorem addr_l0 (x y : List Int) (hxy : x.length = y.length) (hm : x.length ≤ 1000000) : ∀ (d i k : Nat), i + d = x.length → d < k → api_Addr.l0 k x y (x.length : Int) (i : Int) = some (decide (x.drop i = y.drop i))
  | 0, i, k + 1, h, _ => by
    unfold api_Addr.l0
    rw [if_neg (by omega), List.drop_eq_nil_of_le (by omega), List.drop_eq_nil_of_le (by omega)]; rfl
  | d + 1, i, k + 1, h, hk => by
    unfold api_Addr.l0
    rw [if_pos (by omega), if_pos (by omega), if_pos (by omega), if_pos (by omega), rd_get (by omega), rd_get (by omega : i < y.length), wr1 (by omega), addr_l0 x y hxy hm d (i + 1) k (by omega) (by omega),
      List.drop_eq_getElem_cons (by omega : i < x.length), List.drop_eq_getElem_cons (by omega : i < y.length)]
    by_cases he : x[i]'(by omega) = y[i]'(by omega)
    · rw [if_pos he]; exact congrArg some (decide_eq_decide.2 ⟨fun h => by rw [he, h], fun h => (List.cons.inj h).2⟩)
    · rw [if_neg he, decide_eq_false (fun h => he (List.cons.inj h).1)]
theorem addr_some {k : Nat} {x y : List Int} (hm : x.length ≤ 1000000) (hk : x.length < k) : api_Addr.f k x y = some (decide (x = y)) := by
  unfold api_Addr.f
  by_cases h : x.length = y.length
  · rw [if_pos (by omega)]
    have := addr_l0 x y h hm x.length 0 k (by omega) hk
    simpa using this
  · rw [if_neg (by omega), decide_eq_false (fun e => h (by rw [e]))]
theorem sameRec_some {k : Nat} {a b : S44} (hm : a.f2.length ≤ 1000000) (hk : a.f2.length < k) : igmp_sameRec.f k a.f0 a.f1 a.f2 b.f0 b.f1 b.f2 = some (decide (a = b)) := by
  obtain ⟨a0, a1, a2⟩ := a
  obtain ⟨b0, b1, b2⟩ := b
  unfold igmp_sameRec.f
  rw [addr_some hm hk]
  by_cases h0 : a0 = b0
  · by_cases h1 : a1 = b1
    · simp [h0, h1]
    · simp [h0, h1]
  · simp [h0]
/-- What a row of records needs. -/
def recK (l : List S44) : Nat := (l.map fun r => r.f2.length).sum + l.length
theorem recK_mem {l : List S44} {r : S44} (h : r ∈ l) : r.f2.length + 1 ≤ recK l := by
  induction l with
  | nil => simp at h
  | cons a l ih =>
    simp only [recK, List.map_cons, List.sum_cons, List.length_cons] at *
    rcases List.mem_cons.1 h with rfl | h
    · omega
    · have := ih h; omega
theorem rec_l0 (x y : List S44) (hxy : y.length = x.length) (hm : recK y ≤ 1000000) : ∀ (d i k : Nat), i + d = y.length → d + recK y < k → api_Record_36.l0 k x y (y.length : Int) (i : Int) = some (decide (y.drop i = x.drop i))
  | 0, i, k + 1, h, _ => by
    unfold api_Record_36.l0
    rw [if_neg (by omega), List.drop_eq_nil_of_le (by omega), List.drop_eq_nil_of_le (by omega)]; rfl
  | d + 1, i, k + 1, h, hk => by
    have hi : i < y.length := by omega
    have hr := recK_mem (List.getElem_mem hi)
    unfold api_Record_36.l0
    rw [if_pos (by omega), if_pos (by omega), if_pos (by omega), if_pos (by omega), rd44_get hi, rd44_get (by omega : i < x.length), sameRec_some (by omega) (by omega)]
    simp only [Option.bind_some]
    rw [wr1 (by have : y.length ≤ recK y := by unfold recK; omega
                omega), rec_l0 x y hxy hm d (i + 1) k (by omega) (by omega),
      List.drop_eq_getElem_cons hi, List.drop_eq_getElem_cons (by omega : i < x.length)]
    by_cases he : y[i]'hi = x[i]'(by omega)
    · rw [decide_eq_true he, if_pos rfl]; exact congrArg some (decide_eq_decide.2 ⟨fun h => by rw [he, h], fun h => (List.cons.inj h).2⟩)
    · rw [decide_eq_false he, if_neg (by decide), decide_eq_false (fun h => he (List.cons.inj h).1)]
theorem rec_some {k : Nat} {x y : List S44} (hm : recK x ≤ 1000000) (hk : x.length + recK x < k) : api_Record_36.f k x y 0 = some (decide (x = y)) := by
  unfold api_Record_36.f
  by_cases h : x.length = y.length
  · rw [if_pos (by omega)]
    have := rec_l0 y x h hm x.length 0 k (by omega) hk
    simpa using this
  · rw [if_neg (by omega), decide_eq_false (fun e => h (by rw [e]))]
/-- How much a message is. -/
def Msg.size (m : Msg) : Nat := m.srcs.length + 2 * recK m.recs
theorem same_some {K : Nat} (m n : Msg) (hm : m.size ≤ 1000000) (hk : m.size < K) :
    igmp_Same.f K m.k m.ver m.code m.grp m.quiet m.rob m.every m.srcs m.recs n.k n.ver n.code n.grp n.quiet n.rob n.every n.srcs n.recs = some (decide (m = n)) := by
  have hrl : m.recs.length ≤ recK m.recs := by unfold recK; omega
  have hsz : m.size = m.srcs.length + 2 * recK m.recs := rfl
  obtain ⟨a0, a1, a2, a3, a4, a5, a6, a7, a8⟩ := m
  obtain ⟨b0, b1, b2, b3, b4, b5, b6, b7, b8⟩ := n
  simp only at *
  unfold igmp_Same.f
  rw [addr_some (by omega) (by omega), rec_some (by omega) (by omega)]
  simp only [Msg.mk.injEq]
  by_cases h0 : a0 = b0
  · by_cases h1 : a1 = b1
    · by_cases h2 : a2 = b2
      · by_cases h3 : a3 = b3
        · by_cases h4 : a4 = b4
          · by_cases h5 : a5 = b5
            · by_cases h6 : a6 = b6
              · by_cases h7 : a7 = b7 <;> simp [*]
              · simp [*]
            · simp [*]
          · have : (a4 == b4) = false := by simp [h4]
            simp [*]
        · simp [*]
      · simp [*]
    · simp [*]
  · simp [*]
def askB (a : Int) : Bool := decide (3758096640 ≤ a ∧ a ≤ 4026531839)
theorem asked_some {a : Int} (h0 : 0 ≤ a) (h1 : a < 4294967296) : addr_IsAsked.f a = some (askB a) := by
  unfold addr_IsAsked.f addr_IsGroup.f addr_IsLocal.f
  simp only [Option.bind_some]
  by_cases hg : a / 268435456 = 14
  · rw [if_pos (by simp [hg])]
    simp only [askB, Option.some.injEq]
    by_cases hl : a / 256 = 14680064
    · rw [show (a / 256 == 14680064) = true from by simp [hl], decide_eq_false (by omega)]; rfl
    · rw [show (a / 256 == 14680064) = false from by simp [hl], decide_eq_true (by omega)]; rfl
  · rw [if_neg (by simp [hg]), askB, decide_eq_false (by omega)]
def recB (r : S44) : Bool := decide (1 ≤ r.f0) && decide (r.f0 ≤ 6) && askB r.f1 && decide (r.f2.length ≤ 64)
theorem record_some {r : S44} (h0 : 0 ≤ r.f1) (h1 : r.f1 < 4294967296) : igmp_record.f r.f0 r.f1 r.f2 = some (recB r) := by
  unfold igmp_record.f
  rw [asked_some h0 h1]
  by_cases a : r.f0 ≥ 1
  · by_cases b : r.f0 ≤ 6
    · rw [if_pos a, if_pos b]
      cases hk : askB r.f1
      · simp [recB, hk]
      · simp [recB, hk, a, b, show 1 ≤ r.f0 from a]; omega
    · rw [if_pos a, if_neg b]; simp [recB, b]
  · rw [if_neg a]; simp [recB, show ¬ 1 ≤ r.f0 from a]
theorem odd_l0 (x : List S44) (hr : ∀ r ∈ x, 0 ≤ r.f1 ∧ r.f1 < 4294967296) (hm : x.length ≤ 1000000) : ∀ (d i k : Nat), i + d = x.length → d < k → ∃ j : Int, api_Record_53.l0 k x (x.length : Int) (i : Int) = some j ∧ decide (j ≥ 0) = !(x.drop i).all recB
  | 0, i, k + 1, h, _ => by
    refine ⟨-1, ?_, ?_⟩
    · unfold api_Record_53.l0
      rw [if_neg (by omega)]
    · rw [List.drop_eq_nil_of_le (by omega)]; rfl
  | d + 1, i, k + 1, h, hk => by
    have hi : i < x.length := by omega
    have h2 := hr _ (List.getElem_mem hi)
    obtain ⟨j, hj, hj2⟩ := odd_l0 x hr hm d (i + 1) k (by omega) (by omega)
    unfold api_Record_53.l0 igmp_Right_1.f
    rw [if_pos (by omega), if_pos (by omega), if_pos (by omega), rd44_get hi, record_some h2.1 h2.2, wr1 (by omega), hj, List.drop_eq_getElem_cons hi]
    simp only [Option.bind_some, List.all_cons]
    cases hb : recB x[i]
    · exact ⟨i, by simp, by simp⟩
    · exact ⟨j, by simp, by simpa using hj2⟩
theorem odd_some {k : Nat} {x : List S44} (hr : ∀ r ∈ x, 0 ≤ r.f1 ∧ r.f1 < 4294967296) (hm : x.length ≤ 1000000) (hk : x.length < k) : api_Record_34.f k x 0 = some (!x.all recB) := by
  unfold api_Record_34.f api_Record_53.f
  obtain ⟨j, hj, hj2⟩ := odd_l0 x hr hm x.length 0 k (by omega) hk
  rw [show api_Record_53.l0 k x (x.length : Int) 0 = some j from hj]
  simp only [Option.bind_some, Option.some.injEq]
  simpa using hj2
def grpB (a : Int) : Bool := if a = 0 then true else askB a
/-- Is a query right? -/
def queryB (m : Msg) : Bool :=
  if m.ver = 1 then decide (m = ⟨17, 1, 0, 0, false, 0, 0, [], []⟩)
  else if m.ver = 2 then grpB m.grp && decide (m.code > 0) && decide (m = ⟨17, 2, m.code, m.grp, false, 0, 0, [], []⟩)
  else if m.ver = 3 then grpB m.grp && decide (m.rob ≤ 7) && decide (m.recs.length = 0) && decide (m.srcs.length ≤ 64) && (decide (m.grp ≠ 0) || decide (m.srcs.length = 0))
  else false
/-- Is a message right? -/
def rightB (m : Msg) : Bool :=
  if m.k = 17 then queryB m
  else if m.k = 18 ∨ m.k = 22 ∨ m.k = 23 then askB m.grp && decide (m = ⟨m.k, 0, 0, m.grp, false, 0, 0, [], []⟩)
  else if m.k = 34 then decide (m.recs.length ≤ 32) && m.recs.all recB && decide (m = ⟨m.k, 0, 0, 0, false, 0, 0, [], m.recs⟩)
  else false
theorem query_j {K : Nat} (m : Msg) (b : Bool) (hm : m.size ≤ 1000000) (hk : m.size < K) (hb : grpB m.grp = b) :
    igmp_query.j0 (K + 1) b m.k m.ver m.code m.grp m.quiet m.rob m.every m.srcs m.recs = some (queryB m) := by
  rw [igmp_query.j0, queryB]
  rw [hb]
  by_cases h1 : m.ver = 1
  · rw [if_pos h1, if_pos h1]
    have := same_some m ⟨17, 1, 0, 0, false, 0, 0, [], []⟩ hm hk
    simp only at this
    rw [this]; rfl
  · rw [if_neg h1, if_neg h1]
    by_cases h2 : m.ver = 2
    · rw [if_pos h2, if_pos h2]
      cases b
      · rfl
      · rw [if_pos rfl]
        by_cases hc : m.code > 0
        · rw [if_pos hc]
          have := same_some m ⟨17, 2, m.code, m.grp, false, 0, 0, [], []⟩ hm hk
          simp only at this
          rw [this]; simp [hc]
        · rw [if_neg hc]; simp [hc]
    · rw [if_neg h2, if_neg h2]
      by_cases h3 : m.ver = 3
      · rw [if_pos h3, if_pos h3]
        cases b
        · simp
        · rw [if_pos rfl]
          by_cases hr : m.rob ≤ 7
          · rw [if_pos hr]
            by_cases hl : m.recs.length = 0
            · rw [if_pos (by omega)]
              by_cases hs : m.srcs.length ≤ 64
              · rw [if_pos (by omega)]
                by_cases hg : m.grp = 0
                · rw [if_pos hg]
                  simp only [Option.some.injEq]
                  by_cases hz : m.srcs.length = 0
                  · simp [hr, hl, hs, hg, hz]
                  · simp [hr, hl, hs, hg, hz]
                · rw [if_neg hg]; simp [hr, hl, hs, hg]
              · rw [if_neg (by omega)]; simp [hs]
            · rw [if_neg (by omega)]; simp [hl]
          · rw [if_neg hr]; simp [hr]
      · rw [if_neg h3, if_neg h3]
theorem right_some {K : Nat} (m : Msg) (hg : 0 ≤ m.grp ∧ m.grp < 4294967296) (hr : ∀ r ∈ m.recs, 0 ≤ r.f1 ∧ r.f1 < 4294967296) (hm : m.size ≤ 1000000) (hk : m.size + 1 < K) :
    igmp_Right.f K m.k m.ver m.code m.grp m.quiet m.rob m.every m.srcs m.recs = some (rightB m) := by
  obtain ⟨K, rfl⟩ : ∃ K', K = K' + 1 := ⟨K - 1, by omega⟩
  have hrl : m.recs.length ≤ recK m.recs := by unfold recK; omega
  have hsz : m.size = m.srcs.length + 2 * recK m.recs := rfl
  unfold igmp_Right.f rightB
  by_cases h1 : m.k = 17
  · rw [if_pos h1, if_pos h1]
    unfold igmp_query.f
    by_cases h0 : m.grp = 0
    · rw [if_pos h0, query_j m true hm (by omega) (by rw [grpB, if_pos h0])]; rfl
    · rw [if_neg h0, asked_some hg.1 hg.2]
      simp only [Option.bind_some]
      rw [query_j m _ hm (by omega) (by rw [grpB, if_neg h0])]; rfl
  · rw [if_neg h1, if_neg h1]
    have hS := same_some (K := K) m ⟨m.k, 0, 0, m.grp, false, 0, 0, [], []⟩ hm (by omega)
    have hT := same_some (K := K) m ⟨m.k, 0, 0, 0, false, 0, 0, [], m.recs⟩ hm (by omega)
    simp only at hS hT
    have hj : ∀ b, (b = true ↔ (m.k = 18 ∨ m.k = 22 ∨ m.k = 23)) → igmp_Right.j0 (K + 1) m.k b m.k m.ver m.code m.grp m.quiet m.rob m.every m.srcs m.recs = some (if m.k = 18 ∨ m.k = 22 ∨ m.k = 23 then askB m.grp && decide (m = ⟨m.k, 0, 0, m.grp, false, 0, 0, [], []⟩)
        else if m.k = 34 then decide (m.recs.length ≤ 32) && m.recs.all recB && decide (m = ⟨m.k, 0, 0, 0, false, 0, 0, [], m.recs⟩) else false) := by
      intro b hb
      rw [igmp_Right.j0]
      by_cases h2 : m.k = 18 ∨ m.k = 22 ∨ m.k = 23
      · rw [if_pos h2, if_pos (hb.2 h2), asked_some hg.1 hg.2]
        simp only [Option.bind_some]
        cases ha : askB m.grp
        · simp
        · rw [if_pos rfl, hS]; simp
      · rw [if_neg h2, if_neg (fun h => h2 (hb.1 h))]
        by_cases h3 : m.k = 34
        · rw [if_pos h3, if_pos h3]
          by_cases h4 : m.recs.length ≤ 32
          · rw [if_pos (by omega), odd_some hr (by omega) (by omega), hT]
            simp only [Option.bind_some]
            cases ha : m.recs.all recB
            · simp
            · simp [h4]
          · rw [if_neg (by omega)]; simp [h4]
        · rw [if_neg h3, if_neg h3]
    by_cases h18 : m.k = 18
    · rw [if_pos h18, hj _ (by simp [h18])]
    · rw [if_neg h18]
      by_cases h22 : m.k = 22
      · rw [if_pos h22, hj _ (by simp [h22])]
      · rw [if_neg h22, hj _ (by simp [h18, h22])]
end Go.Proofs.Ytmmjmncchckbbaa
/-
  Sums, in plain numbers.
-/
namespace Go.Proofs.Ytmmjmncchckbbaa
open Go.RowKit Go.Proofs.YtmmjmncchckbbaaW.PrintWords Go.Proofs.Ytmmjmncchckbbaa.PIg

/-- The word that a sum of words is joined to. -/
def repW (t : Int) : Int := if t = 0 then 0 else (t - 1) % 65535 + 1
/-- The weight of a byte: 256 or 1. -/
def wt (p : Nat) : Int := if p % 2 = 0 then 256 else 1
/-- The sum of bytes' words. -/
def tot : Nat → List Int → Int
  | _, [] => 0
  | p, a :: t => wt p * a + tot (p + 1) t

theorem joinW_rep {x y : Int} (h0 : 0 ≤ x) (h1 : x < 65536) (h2 : 0 ≤ y) (h3 : y < 65536) : joinW x y = repW (x + y) := by
  unfold joinW repW
  split <;> split <;> omega
theorem repW_add {a b : Int} (h : 0 ≤ a) (h' : 0 ≤ b) : repW (repW a + b) = repW (a + b) := by
  unfold repW
  by_cases h1 : a = 0
  · simp [h1]
  · rw [if_neg h1, if_neg (by omega), if_neg (by omega)]
    omega

theorem tot_nonneg (l : List Int) : ∀ p, (∀ z ∈ l, 0 ≤ z ∧ z < 256) → 0 ≤ tot p l := by
  induction l with
  | nil => intro p _; simp [tot]
  | cons a t ih =>
    intro p h
    have h1 := h a (by simp)
    have h2 := ih (p + 1) (fun z hz => h z (by simp [hz]))
    unfold tot wt
    split <;> omega
theorem tot_set (l : List Int) : ∀ p i v, i < l.length → tot p (l.set i v) = tot p l + wt (p + i) * (v - l.getD i 0) := by
  induction l with
  | nil => intro p i v h; simp at h
  | cons a t ih =>
    intro p i v h
    cases i with
    | zero => simp [tot, Int.mul_sub]; omega
    | succ i =>
      have := ih (p + 1) i v (by simpa using h)
      simp only [List.set_cons_succ, tot, this]
      rw [show p + 1 + i = p + (i + 1) from by omega]
      simp
      omega
theorem tot_par (l : List Int) : ∀ p q, p % 2 = q % 2 → tot p l = tot q l := by
  induction l with
  | nil => intro p q _; simp [tot]
  | cons a t ih => intro p q h; simp only [tot]; rw [ih (p + 1) (q + 1) (by omega)]; unfold wt; rw [h]

theorem wordAt_cons (a b : Int) (t : List Int) (k : Nat) : wordAt (a :: b :: t) (k + 1) = wordAt t k := by
  unfold wordAt
  rw [show 2 * (k + 1) = 2 * k + 1 + 1 from by omega]
  simp only [List.getD_cons_succ, List.length_cons]
  by_cases h : 2 * k + 1 < t.length
  · rw [if_pos h, if_pos (by omega)]
  · rw [if_neg h, if_neg (by omega)]

theorem fold_rep (zs : List Int) (hz : ∀ z ∈ zs, 0 ≤ z ∧ z < 256) (l : List Nat) : ∀ s, 0 ≤ s → s < 65536 →
    l.foldl (fun s k => joinW s (wordAt zs k)) s = if l = [] then s else repW (s + (l.map (wordAt zs)).sum) := by
  induction l with
  | nil => intro s _ _; simp
  | cons k l ih =>
    intro s h0 h1
    have hw := wordAt_range zs hz k
    have hj := joinW_range h0 h1 hw.1 hw.2
    have hsum : 0 ≤ (l.map (wordAt zs)).sum := by
      clear ih
      induction l with
      | nil => simp
      | cons j l ih => have := (wordAt_range zs hz j).1; simp only [List.map_cons, List.sum_cons]; omega
    rw [List.foldl_cons, ih _ hj.1 hj.2, joinW_rep h0 h1 hw.1 hw.2]
    simp only [List.map_cons, List.sum_cons, reduceCtorEq, if_false]
    split
    · rename_i h; subst h; simp
    · rw [repW_add (by omega) hsum, Int.add_assoc]

theorem words_tot : ∀ (n : Nat) (zs : List Int), zs.length ≤ n → ((List.range ((zs.length + 1) / 2)).map (wordAt zs)).sum = tot 0 zs
  | _, [], _ => by simp [tot]
  | n, [a], h => by simp [tot, wordAt, wt, List.range_succ]; omega
  | 0, a :: b :: t, h => by simp at h
  | n + 1, a :: b :: t, h => by
    have ih := words_tot n t (by simp at h; omega)
    rw [show ((a :: b :: t).length + 1) / 2 = (t.length + 1) / 2 + 1 from by simp; omega, List.range_succ_eq_map, List.map_cons, List.sum_cons, List.map_map]
    rw [show (wordAt (a :: b :: t) ∘ Nat.succ) = wordAt t from funext (fun k => wordAt_cons a b t k), ih]
    simp only [tot]
    rw [tot_par t (0 + 1 + 1) 0 (by omega)]
    simp [wordAt, wt]
    omega

theorem sumOf_rep (zs : List Int) (hz : ∀ z ∈ zs, 0 ≤ z ∧ z < 256) : sumOf zs = 65535 - repW (tot 0 zs) := by
  unfold sumOf
  rw [fold_rep zs hz _ 0 (by omega) (by omega), words_tot _ zs (Nat.le_refl _)]
  split
  · rename_i h
    have : zs = [] := by
      have h1 : ((zs.length + 1) / 2) = 0 := by simpa using h
      exact List.eq_nil_of_length_eq_zero (by omega)
    subst this
    simp [tot, repW]
  · simp

theorem of_some {l : List Int} (hz : ∀ z ∈ l, 0 ≤ z ∧ z < 256) (hl : l.length ≤ 140737488351232) : sum_Of.f l = some (sumOf l) := by
  unfold sum_Of.f
  rw [if_pos ((bytesOk_iff l).2 ⟨hz, hl⟩)]
theorem whole_some {l : List Int} (hz : ∀ z ∈ l, 0 ≤ z ∧ z < 256) (hl : l.length ≤ 140737488351232) : sum_Whole.f l = some (sumOf l == 0) := by
  unfold sum_Whole.f
  rw [of_some hz hl]
  rfl
theorem putOf_len (l : List Int) (m : Nat) : (putOf l m).length = l.length := by simp [putOf, zeroed]
theorem putOf_byte (l : List Int) (m : Nat) (hz : ∀ z ∈ l, 0 ≤ z ∧ z < 256) : ∀ z ∈ putOf l m, 0 ≤ z ∧ z < 256 := by
  intro z h
  have hb := zeroed_byte l m hz
  have hr := sumOf_range _ hb
  unfold putOf at h
  rcases List.mem_or_eq_of_mem_set h with h | rfl
  · rcases List.mem_or_eq_of_mem_set h with h | rfl
    · exact hb z h
    · omega
  · omega
theorem putOf_tot (l : List Int) (m : Nat) (hm : m % 2 = 0) (hl : m + 2 ≤ l.length) : tot 0 (putOf l m) = tot 0 (zeroed l m) + sumOf (zeroed l m) := by
  unfold putOf
  rw [tot_set _ _ _ _ (by simp [zeroed]; omega), tot_set _ _ _ _ (by simp [zeroed]; omega)]
  have w0 : wt (0 + m) = 256 := by unfold wt; rw [if_pos (by omega)]
  have w1 : wt (0 + (m + 1)) = 1 := by unfold wt; rw [if_neg (by omega)]
  have g0 : (zeroed l m).getD m 0 = 0 := by
    unfold zeroed
    rw [List.getD_eq_getElem?_getD, List.getElem?_set_ne (by omega), List.getElem?_set_self (by omega)]
    rfl
  have g1 : ((zeroed l m).set m (sumOf (zeroed l m) / 256)).getD (m + 1) 0 = 0 := by
    rw [List.getD_eq_getElem?_getD, List.getElem?_set_ne (by omega)]
    unfold zeroed
    rw [List.getElem?_set_self (by simp; omega)]
    rfl
  rw [w0, w1, g0, g1]
  omega
theorem putOf_whole (l : List Int) (m : Nat) (hz : ∀ z ∈ l, 0 ≤ z ∧ z < 256) (hm : m % 2 = 0) (hl : m + 2 ≤ l.length) : sumOf (putOf l m) = 0 := by
  rw [sumOf_rep _ (putOf_byte l m hz), putOf_tot l m hm hl, sumOf_rep _ (zeroed_byte l m hz)]
  have := tot_nonneg _ 0 (zeroed_byte l m hz)
  unfold repW
  split <;> split <;> omega
end Go.Proofs.Ytmmjmncchckbbaa
/-
  Messages, written and read, in plain words.
-/
namespace Go.Proofs.Ytmmjmncchckbbaa
open Go.RowKit Go.Proofs.YtmmjmncchckbbaaW.PrintWords Go.Proofs.YtmmjmncchckbbaaW.PrintLast Go.Proofs.YtmmjmncchckbbaaW.PrintMore Go.Proofs.Ytmmjmncchckbbaa.PIg
set_option linter.unusedVariables false
set_option linter.unusedSimpArgs false
def U32 (a : Int) : Prop := 0 ≤ a ∧ a < 4294967296
def U8 (a : Int) : Prop := 0 ≤ a ∧ a < 256
/-- The numbers of a record are of their kinds. -/
def RecOk (r : S44) : Prop := U8 r.f0 ∧ U32 r.f1 ∧ ∀ a ∈ r.f2, U32 a
/-- The numbers of a message are of their kinds. -/
structure Msg.Ok (m : Msg) : Prop where
  k : U8 m.k
  code : U8 m.code
  grp : U32 m.grp
  rob : U8 m.rob
  every : U8 m.every
  srcs : ∀ a ∈ m.srcs, U32 a
  recs : ∀ r ∈ m.recs, RecOk r
/-! what is taken off -/
theorem tk_ok {m : Nat} {bs : List Int} (h : tks m bs false = false) : m ≤ bs.length ∧ tkx m bs false = bs.take m ∧ tkb m bs false = bs.drop m := by
  unfold tks at h
  have h' : ¬ bs.length < m := by simpa using h
  have h2 : ¬ (false = true ∨ bs.length < m) := by simp; omega
  exact ⟨by omega, by unfold tkx; rw [if_neg h2], by unfold tkb; rw [if_neg h2]⟩
theorem tk_app (a bs : List Int) (n : Nat) (hn : a.length = n) : tkx n (a ++ bs) false = a ∧ tkb n (a ++ bs) false = bs ∧ tks n (a ++ bs) false = false := by
  subst hn
  have h : tks a.length (a ++ bs) false = false := by unfold tks; simp
  obtain ⟨_, h1, h2⟩ := tk_ok h
  exact ⟨by rw [h1]; simp, by rw [h2]; simp, h⟩
theorem tks_of {m : Nat} {bs : List Int} {sh : Bool} (h : tks m bs sh = false) : sh = false := by cases sh <;> simp_all [tks]
theorem ads_of {n : Nat} {bs : List Int} {sh : Bool} (h : (ads n bs sh).2.2 = false) : sh = false := by
  cases sh
  · rfl
  · rw [ads_sh] at h; cases h
theorem ads_ok : ∀ (n : Nat) (bs : List Int), (ads n bs false).2.2 = false → 4 * n ≤ bs.length ∧ (ads n bs false).2.1 = bs.drop (4 * n) ∧ (ads n bs false).1.length = n
  | 0, bs, _ => ⟨by omega, rfl, rfl⟩
  | n + 1, bs, h => by
    have e : ads (n + 1) bs false = (av (tkx 4 bs false) :: (ads n (tkb 4 bs false) (tks 4 bs false)).1, (ads n (tkb 4 bs false) (tks 4 bs false)).2) := rfl
    rw [e] at h ⊢
    have hs := ads_of (show (ads n (tkb 4 bs false) (tks 4 bs false)).2.2 = false from h)
    obtain ⟨h1, _, h3⟩ := tk_ok hs
    rw [hs, h3] at h ⊢
    obtain ⟨i1, i2, i3⟩ := ads_ok n (bs.drop 4) h
    rw [List.length_drop] at i1
    refine ⟨by omega, ?_, by simpa using i3⟩
    show (ads n (bs.drop 4) false).2.1 = _
    rw [i2, List.drop_drop]
    congr 1; omega
theorem ads_rng : ∀ (n : Nat) (bs : List Int) (sh : Bool), Byt bs → ∀ a ∈ (ads n bs sh).1, U32 a
  | 0, bs, sh, _ => by simp [ads]
  | n + 1, bs, true, _ => by rw [ads_sh]; simp
  | n + 1, bs, false, h => by
    intro a ha
    have e : (ads (n + 1) bs false).1 = av (tkx 4 bs false) :: (ads n (tkb 4 bs false) (tks 4 bs false)).1 := rfl
    rw [e] at ha
    rcases List.mem_cons.1 ha with rfl | ha
    · exact av_range (tkx_byt h)
    · exact ads_rng n _ _ (tkb_byt h) a ha
theorem ab_byt (a : Int) : Byt (ab a) := by
  intro z hz
  simp only [ab, List.mem_cons, List.not_mem_nil, or_false] at hz
  rcases hz with rfl | rfl | rfl | rfl <;> omega
theorem ab_len (a : Int) : (ab a).length = 4 := rfl
theorem av_ab {a : Int} (h : U32 a) : av (ab a) = a := by
  obtain ⟨h0, h1⟩ := h
  show a / 16777216 % 256 * 16777216 + a / 65536 % 256 * 65536 + a / 256 % 256 * 256 + a % 256 = a
  omega
theorem ads_ab : ∀ (L rest : List Int), (∀ a ∈ L, U32 a) → ads L.length (L.flatMap ab ++ rest) false = (L, rest, false)
  | [], rest, _ => rfl
  | a :: L, rest, h => by
    obtain ⟨h1, h2, h3⟩ := tk_app (ab a) (L.flatMap ab ++ rest) 4 rfl
    have e : ads (L.length + 1) ((a :: L).flatMap ab ++ rest) false = (av (tkx 4 ((a :: L).flatMap ab ++ rest) false) :: (ads L.length (tkb 4 ((a :: L).flatMap ab ++ rest) false) (tks 4 ((a :: L).flatMap ab ++ rest) false)).1, (ads L.length (tkb 4 ((a :: L).flatMap ab ++ rest) false) (tks 4 ((a :: L).flatMap ab ++ rest) false)).2) := rfl
    rw [List.length_cons, e, List.flatMap_cons, List.append_assoc, h1, h2, h3, ads_ab L rest (fun x hx => h x (List.mem_cons_of_mem _ hx)), av_ab (h a List.mem_cons_self)]
theorem ra_ok {bs : List Int} (h : (ra bs false).2.2 = false) : (rrow (rrec bs false)).length + (ra bs false).2.1.length = bs.length := by
  have s3 : rs3 bs false = false := ads_of h
  have s2 : rs2 bs false = false := tks_of s3
  have s1 : rs bs false = false := tks_of s2
  obtain ⟨a1, _, a3⟩ := tk_ok (show tks 2 bs false = false from s1)
  have b2 : tks 2 (rb bs false) false = false := by have h2 := s2; unfold rs2 at h2; rwa [s1] at h2
  obtain ⟨a4, _, a6⟩ := tk_ok b2
  have b3 : tks 4 (rb2 bs false) false = false := by have h3 := s3; unfold rs3 at h3; rwa [s2] at h3
  obtain ⟨a7, _, a9⟩ := tk_ok b3
  have e1 : rb bs false = bs.drop 2 := a3
  have e2 : rb2 bs false = (rb bs false).drop 2 := by unfold rb2; rw [s1]; exact a6
  have e3 : rb3 bs false = (rb2 bs false).drop 4 := by unfold rb3; rw [s2]; exact a9
  have ha : ra bs false = ads (rn bs false) (rb3 bs false) false := by unfold ra; rw [s3]
  rw [rrow_long]
  show 8 + 4 * (ra bs false).1.length + (ra bs false).2.1.length = bs.length
  rw [ha] at h ⊢
  obtain ⟨i1, i2, i3⟩ := ads_ok _ _ h
  rw [i3, i2, List.length_drop]
  rw [e3, List.length_drop, e2, List.length_drop, e1, List.length_drop] at i1 ⊢
  rw [e2, List.length_drop, e1, List.length_drop] at a7
  rw [e1, List.length_drop] at a4
  omega
theorem rcs_of {n : Nat} {bs : List Int} {sh : Bool} (h : (rcs n bs sh).2.2 = false) : sh = false := by
  cases sh
  · rfl
  · rw [rcs_sh] at h; cases h
theorem rcs_ok : ∀ (n : Nat) (bs : List Int), (rcs n bs false).2.2 = false → (rcs n bs false).1.length = n ∧ ((rcs n bs false).1.flatMap rrow).length + (rcs n bs false).2.1.length = bs.length
  | 0, bs, _ => ⟨rfl, by show (([] : List S44).flatMap rrow).length + bs.length = bs.length; simp⟩
  | n + 1, bs, h => by
    have e : rcs (n + 1) bs false = (rrec bs false :: (rcs n (ra bs false).2.1 (ra bs false).2.2).1, (rcs n (ra bs false).2.1 (ra bs false).2.2).2) := rfl
    rw [e] at h ⊢
    have hs := rcs_of (show (rcs n (ra bs false).2.1 (ra bs false).2.2).2.2 = false from h)
    have h1 := ra_ok hs
    rw [hs] at h ⊢
    obtain ⟨i1, i2⟩ := rcs_ok n (ra bs false).2.1 h
    refine ⟨by simpa using i1, ?_⟩
    show ((rrec bs false :: (rcs n (ra bs false).2.1 false).1).flatMap rrow).length + (rcs n (ra bs false).2.1 false).2.1.length = _
    rw [List.flatMap_cons, List.length_append]
    omega
theorem rrec_ok {bs : List Int} (h : Byt bs) : RecOk (rrec bs false) :=
  ⟨(tkx_byt h).rd 0, av_range (tkx_byt (rb2_byt h)), ads_rng _ _ _ (rb3_byt h)⟩
theorem rcs_rng : ∀ (n : Nat) (bs : List Int) (sh : Bool), Byt bs → ∀ r ∈ (rcs n bs sh).1, RecOk r
  | 0, bs, sh, _ => by simp [rcs]
  | n + 1, bs, true, _ => by rw [rcs_sh]; simp
  | n + 1, bs, false, h => by
    intro a ha
    have e : (rcs (n + 1) bs false).1 = rrec bs false :: (rcs n (ra bs false).2.1 (ra bs false).2.2).1 := rfl
    rw [e] at ha
    rcases List.mem_cons.1 ha with rfl | ha
    · exact rrec_ok h
    · exact rcs_rng n _ _ (ra_byt h) a ha
theorem cnt_back {n : Nat} (h : n < 65536) : (be2 [(n : Int) / 256 % 256, (n : Int) % 256]).toNat = n := by
  show ((n : Int) / 256 % 256 * 256 + (n : Int) % 256).toNat = n
  omega
theorem ra_rrow {r : S44} {rest : List Int} (hr : RecOk r) (hl : r.f2.length < 65536) : rrec (rrow r ++ rest) false = r ∧ (ra (rrow r ++ rest) false).2 = (rest, false) := by
  have e0 : rrow r ++ rest = [r.f0, 0] ++ ([(r.f2.length : Int) / 256 % 256, (r.f2.length : Int) % 256] ++ (ab r.f1 ++ (r.f2.flatMap ab ++ rest))) := by simp [rrow, wrow]
  obtain ⟨a1, a2, a3⟩ := tk_app [r.f0, 0] ([(r.f2.length : Int) / 256 % 256, (r.f2.length : Int) % 256] ++ (ab r.f1 ++ (r.f2.flatMap ab ++ rest))) 2 rfl
  obtain ⟨b1, b2, b3⟩ := tk_app [(r.f2.length : Int) / 256 % 256, (r.f2.length : Int) % 256] (ab r.f1 ++ (r.f2.flatMap ab ++ rest)) 2 rfl
  obtain ⟨c1, c2, c3⟩ := tk_app (ab r.f1) (r.f2.flatMap ab ++ rest) 4 rfl
  have f1 : rs (rrow r ++ rest) false = false := by unfold rs; rw [e0]; exact a3
  have f2 : rb (rrow r ++ rest) false = [(r.f2.length : Int) / 256 % 256, (r.f2.length : Int) % 256] ++ (ab r.f1 ++ (r.f2.flatMap ab ++ rest)) := by unfold rb; rw [e0]; exact a2
  have f3 : rs2 (rrow r ++ rest) false = false := by unfold rs2; rw [f1, f2]; exact b3
  have f4 : rb2 (rrow r ++ rest) false = ab r.f1 ++ (r.f2.flatMap ab ++ rest) := by unfold rb2; rw [f1, f2]; exact b2
  have f5 : rn (rrow r ++ rest) false = r.f2.length := by unfold rn; rw [f1, f2, b1]; exact cnt_back hl
  have f6 : rs3 (rrow r ++ rest) false = false := by unfold rs3; rw [f3, f4]; exact c3
  have f7 : rb3 (rrow r ++ rest) false = r.f2.flatMap ab ++ rest := by unfold rb3; rw [f3, f4]; exact c2
  have f8 : rg (rrow r ++ rest) false = r.f1 := by unfold rg; rw [f3, f4, c1]; exact av_ab hr.2.1
  have f9 : ra (rrow r ++ rest) false = (r.f2, rest, false) := by unfold ra; rw [f5, f6, f7]; exact ads_ab _ _ hr.2.2
  have f10 : rx (rrow r ++ rest) false = [r.f0, 0] := by unfold rx; rw [e0]; exact a1
  exact ⟨by unfold rrec; rw [f10, f8, f9]; rfl, by rw [f9]⟩
theorem rcs_rrow : ∀ (L : List S44) (rest : List Int), (∀ r ∈ L, RecOk r ∧ r.f2.length < 65536) → rcs L.length (L.flatMap rrow ++ rest) false = (L, rest, false)
  | [], rest, _ => rfl
  | r :: L, rest, h => by
    obtain ⟨h1, h2⟩ := ra_rrow (rest := L.flatMap rrow ++ rest) (h r List.mem_cons_self).1 (h r List.mem_cons_self).2
    have e : ∀ bs, rcs (L.length + 1) bs false = (rrec bs false :: (rcs L.length (ra bs false).2.1 (ra bs false).2.2).1, (rcs L.length (ra bs false).2.1 (ra bs false).2.2).2) := fun _ => rfl
    rw [List.length_cons, e, List.flatMap_cons, List.append_assoc, h1, h2]
    show (r :: (rcs L.length (L.flatMap rrow ++ rest) false).1, (rcs L.length (L.flatMap rrow ++ rest) false).2) = _
    rw [rcs_rrow L rest (fun x hx => h x (List.mem_cons_of_mem _ hx))]
/-! Decode, in plain words -/
def readK (l : List Int) : Option (Msg × List Int × Bool) :=
  if rd l 0 = 17 then some (rdQuery (rd l 0) (rd l 1) (l.drop 4))
  else if rd l 0 = 18 ∨ rd l 0 = 22 ∨ rd l 0 = 23 then some (rdPlain (rd l 0) (rd l 1) (l.drop 4))
  else if rd l 0 = 34 then some (rdReport (rd l 0) (rd l 1) (l.drop 4))
  else none
def dcmK (r : Msg × List Int × Bool) : Msg × Int :=
  if r.2.2 = true then (msg0, 3) else if 0 < r.2.1.length then (msg0, 2) else if rightB r.1 = true then (r.1, 0) else (msg0, 2)
def dcm (l : List Int) : Msg × Int :=
  if l.length < 8 then (msg0, 3) else if sumOf l = 0 then (match readK l with | none => (msg0, 2) | some r => dcmK r) else (msg0, 4)
theorem recK_flat (L : List S44) : recK L ≤ (L.flatMap rrow).length := by
  induction L with
  | nil => simp [recK]
  | cons r L ih =>
    rw [List.flatMap_cons, List.length_append, rrow_long]
    have : recK (r :: L) = recK L + r.f2.length + 1 := by simp only [recK, List.map_cons, List.sum_cons, List.length_cons]; omega
    omega
theorem z44_ok : RecOk z44 := ⟨by simp [z44, U8], by simp [z44, U32], by simp [z44]⟩
theorem and8_all : ∀ n : Fin 256, Go.bits .and .u8 (n.val : Int) 8 = if n.val / 8 % 2 = 1 then 8 else 0 := by decide +kernel
theorem and7_all : ∀ n : Fin 256, Go.bits .and .u8 (n.val : Int) 7 = (n.val % 8 : Nat) := by decide +kernel
theorem or8_all : ∀ n : Fin 256, U8 (Go.bits .or .u8 (n.val : Int) 8) ∧ (n.val < 8 → Go.bits .or .u8 (n.val : Int) 8 = (n.val + 8 : Nat)) := by unfold U8; decide +kernel
theorem and8 {x : Int} (h : U8 x) : Go.bits .and .u8 x 8 = if x / 8 % 2 = 1 then 8 else 0 := by
  obtain ⟨h0, h1⟩ := h
  obtain ⟨n, rfl⟩ := Int.eq_ofNat_of_zero_le h0
  rw [and8_all ⟨n, by omega⟩]
  by_cases h : n / 8 % 2 = 1
  · rw [if_pos h, if_pos (by omega)]
  · rw [if_neg h, if_neg (by omega)]
theorem and7 {x : Int} (h : U8 x) : Go.bits .and .u8 x 7 = x % 8 := by
  obtain ⟨h0, h1⟩ := h
  obtain ⟨n, rfl⟩ := Int.eq_ofNat_of_zero_le h0
  refine (and7_all ⟨n, by omega⟩).trans ?_
  show ((n % 8 : Nat) : Int) = _
  omega
theorem or8_u8 {x : Int} (h : U8 x) : U8 (Go.bits .or .u8 x 8) := by
  obtain ⟨h0, h1⟩ := h
  obtain ⟨n, rfl⟩ := Int.eq_ofNat_of_zero_le h0
  exact (or8_all ⟨n, by omega⟩).1
theorem or8 {x : Int} (h0 : 0 ≤ x) (h1 : x ≤ 7) : Go.bits .or .u8 x 8 = x + 8 := by
  obtain ⟨n, rfl⟩ := Int.eq_ofNat_of_zero_le h0
  refine ((or8_all ⟨n, by omega⟩).2 (by show n < 8; omega)).trans ?_
  show ((n + 8 : Nat) : Int) = _
  omega
/-- What was read, not too short, is of its kinds, and not longer than the bytes. -/
theorem plain_fine {k code : Int} {bs : List Int} (hk : U8 k) (hc : U8 code) (hb : Byt bs) : (rdPlain k code bs).1.Ok ∧ (rdPlain k code bs).1.size ≤ bs.length :=
  ⟨⟨hk, hc, av_range (tkx_byt hb), by simp [rdPlain, U8], by simp [rdPlain, U8], by simp [rdPlain], by simp [rdPlain]⟩, by simp [rdPlain, Msg.size, recK]⟩
theorem qa_len {bs : List Int} (h : (qa bs false).2.2 = false) : 8 + 4 * (qa bs false).1.length + (qa bs false).2.1.length = bs.length := by
  have s3 : tks 2 (qb bs false) (qs bs false) = false := ads_of h
  have s2 : qs bs false = false := tks_of s3
  have s1 : tks 4 bs false = false := tks_of s2
  obtain ⟨a1, _, a3⟩ := tk_ok s1
  have b2 : tks 2 (tkb 4 bs false) false = false := by have h2 := s2; unfold qs at h2; rwa [s1] at h2
  obtain ⟨a4, _, a6⟩ := tk_ok b2
  have b3 : tks 2 (qb bs false) false = false := by have h3 := s3; rwa [s2] at h3
  obtain ⟨a7, _, a9⟩ := tk_ok b3
  have e2 : qb bs false = (tkb 4 bs false).drop 2 := by unfold qb; rw [s1]; exact a6
  have ha : qa bs false = ads (qn bs false) ((qb bs false).drop 2) false := by unfold qa; rw [s3, s2, a9]
  rw [ha] at h ⊢
  obtain ⟨i1, i2, i3⟩ := ads_ok _ _ h
  rw [i3, i2, List.length_drop]
  rw [List.length_drop, e2, List.length_drop, a3, List.length_drop] at i1 ⊢
  rw [e2, List.length_drop, a3, List.length_drop] at a7
  rw [a3, List.length_drop] at a4
  omega
theorem query_fine {k code : Int} {bs : List Int} (hk : U8 k) (hc : U8 code) (hb : Byt bs) (h : (rdQuery k code bs).2.2 = false) : (rdQuery k code bs).1.Ok ∧ (rdQuery k code bs).1.size ≤ bs.length := by
  have hg : U32 (av (tkx 4 bs false)) := av_range (tkx_byt (m := 4) (sh := false) hb)
  unfold rdQuery at h ⊢
  by_cases h4 : 4 < bs.length
  · rw [if_pos h4] at h ⊢
    have hx : Byt (qx bs false) := tkx_byt (tkb_byt hb)
    have hq : Byt (tkb 2 (qb bs false) (qs bs false)) := tkb_byt (tkb_byt (tkb_byt hb))
    have b0 : U8 (rd (qx bs false) 0) := hx.rd 0
    have hl := qa_len h
    refine ⟨⟨hk, hc, hg, ?_, hx.rd 1, ads_rng _ _ _ hq, by simp⟩, ?_⟩
    · show U8 (Go.bits .and .u8 (rd (qx bs false) 0) 7)
      rw [and7 b0]
      unfold U8; omega
    · show (qa bs false).1.length + 2 * recK [] ≤ bs.length
      simp only [recK, List.map_nil, List.sum_nil, List.length_nil]
      omega
  · rw [if_neg h4]
    by_cases hz : (code == 0) = true
    · rw [if_pos hz]
      exact ⟨⟨hk, hc, by simp [U32], by simp [U8], by simp [U8], by simp, by simp⟩, by simp [Msg.size, recK]⟩
    · rw [if_neg hz]
      exact ⟨⟨hk, hc, hg, by simp [U8], by simp [U8], by simp, by simp⟩, by simp [Msg.size, recK]⟩
theorem rep_len {bs : List Int} (h : (rcs (rn bs false) (rb2 bs false) (rs2 bs false)).2.2 = false) : 4 + ((rcs (rn bs false) (rb2 bs false) (rs2 bs false)).1.flatMap rrow).length + (rcs (rn bs false) (rb2 bs false) (rs2 bs false)).2.1.length = bs.length := by
  have s2 : rs2 bs false = false := rcs_of h
  have s1 : rs bs false = false := tks_of s2
  obtain ⟨a1, _, a3⟩ := tk_ok (show tks 2 bs false = false from s1)
  have b2 : tks 2 (rb bs false) false = false := by have h2 := s2; unfold rs2 at h2; rwa [s1] at h2
  obtain ⟨a4, _, a6⟩ := tk_ok b2
  have e1 : rb bs false = bs.drop 2 := a3
  have e2 : rb2 bs false = (rb bs false).drop 2 := by unfold rb2; rw [s1]; exact a6
  rw [s2] at h ⊢
  obtain ⟨i1, i2⟩ := rcs_ok _ _ h
  rw [e1, List.length_drop] at a4
  rw [Nat.add_assoc, i2, e2, List.length_drop, e1, List.length_drop]
  omega
theorem report_fine {k code : Int} {bs : List Int} (hk : U8 k) (hc : U8 code) (hb : Byt bs) (h : (rdReport k code bs).2.2 = false) : (rdReport k code bs).1.Ok ∧ (rdReport k code bs).1.size ≤ 2 * bs.length + 66 := by
  have hl := rep_len h
  refine ⟨⟨hk, hc, by simp [rdReport, U32], by simp [rdReport, U8], by simp [rdReport, U8], by simp [rdReport], ?_⟩, ?_⟩
  · show ∀ r ∈ (if be2 (rx bs false) = 0 then (rcs (rn bs false) (rb2 bs false) (rs2 bs false)).1 else List.replicate 33 z44), RecOk r
    by_cases hz : be2 (rx bs false) = 0
    · rw [if_pos hz]; exact rcs_rng _ _ _ (rb2_byt hb)
    · rw [if_neg hz]
      intro r hr
      rw [(List.mem_replicate.1 hr).2]; exact z44_ok
  · show 0 + 2 * recK (if be2 (rx bs false) = 0 then (rcs (rn bs false) (rb2 bs false) (rs2 bs false)).1 else List.replicate 33 z44) ≤ _
    by_cases hz : be2 (rx bs false) = 0
    · rw [if_pos hz]
      have := recK_flat (rcs (rn bs false) (rb2 bs false) (rs2 bs false)).1
      omega
    · rw [if_neg hz]
      have : recK (List.replicate 33 z44) = 33 := by decide
      omega
theorem readK_fine {l : List Int} (hb : Byt l) {r : Msg × List Int × Bool} (h : readK l = some r) (hs : r.2.2 = false) : r.1.Ok ∧ r.1.size ≤ 2 * l.length + 66 := by
  have b0 : U8 (rd l 0) := hb.rd 0
  have b1 : U8 (rd l 1) := hb.rd 1
  have hd : Byt (l.drop 4) := fun z hz => hb z (List.mem_of_mem_drop hz)
  have hn : (l.drop 4).length ≤ l.length := by rw [List.length_drop]; omega
  unfold readK at h
  by_cases h1 : rd l 0 = 17
  · rw [if_pos h1] at h
    cases h
    have := query_fine b0 b1 hd hs
    exact ⟨this.1, by omega⟩
  · rw [if_neg h1] at h
    by_cases h2 : rd l 0 = 18 ∨ rd l 0 = 22 ∨ rd l 0 = 23
    · rw [if_pos h2] at h
      cases h
      have := plain_fine b0 b1 hd
      exact ⟨this.1, by omega⟩
    · rw [if_neg h2] at h
      by_cases h3 : rd l 0 = 34
      · rw [if_pos h3] at h
        cases h
        have := report_fine b0 b1 hd hs
        exact ⟨this.1, by omega⟩
      · rw [if_neg h3] at h
        cases h
theorem right_m {m : Msg} (h : m.Ok) (hs : m.size ≤ 1000000) : ∃ K, igmp_Right.f K m.k m.ver m.code m.grp m.quiet m.rob m.every m.srcs m.recs = some (rightB m) :=
  ⟨m.size + 2, right_some m h.grp (fun r hr => (h.recs r hr).2.1) hs (by omega)⟩
theorem find_no {k : Int} (h1 : k ≠ 17) (h2 : ¬ (k = 18 ∨ k = 22 ∨ k = 23)) (h3 : k ≠ 34) (p : Value) : Instr.findNow (.int .u8) (.int .u8 k) (es6 p).toList 0 = some none := by
  have e : ∀ c : Int, k ≠ c → Instr.sameNow (.int .u8) (.int .u8 k) (.int .u8 c) = some false := by
    intro c hc
    simp [Instr.sameNow, hc]
  have n2 : k ≠ 18 ∧ k ≠ 22 ∧ k ≠ 23 := ⟨fun h => h2 (.inl h), fun h => h2 (.inr (.inl h)), fun h => h2 (.inr (.inr h))⟩
  simp [es6, Instr.findNow, e _ h1, e _ n2.1, e _ n2.2.1, e _ n2.2.2, e _ h3]
/-- Decode, called. -/
theorem dec_calls {l : List Int} (hb : Byt l) (hl : l.length ≤ 400000) (A : Option Addr) (c : Nat) (w : World) (hr : Kd.C (Kd.int .u8) w A l.length l) (hc : l.length ≤ c) :
    Calls Try.prog 20 #[.slice A l.length c] w (DecP w (dcm l).1 (dcm l).2) := by
  unfold dcm
  by_cases h8 : l.length < 8
  · rw [if_pos h8]; exact dec_few h8 A c w hr hc
  rw [if_neg h8]
  have hw := whole_some hb (by omega)
  by_cases hz : sumOf l = 0
  · rw [if_pos hz]
    rw [hz] at hw
    have hw' : sum_Whole.f l = some true := hw
    have hd : Byt (l.drop 4) := fun z hz => hb z (List.mem_of_mem_drop hz)
    have main : ∀ {fid j : Nat} {fn : Func} (hf : Try.prog.funcs[fid]? = some fn) (hnm : (fn.name == "runtime.NumGoroutine") = false) (hbd : fn.body.isSome = true) (hfd : ∀ p, Instr.findNow (.int .u8) (.int .u8 (rd l 0)) (es6 p).toList 0 = some (some (j, .func (.func fid) #[p] #[]))) (r : Msg × List Int × Bool), readK l = some r → ReadsTo fid (rd l 0) (rd l 1) (l.drop 4) r → Calls Try.prog 20 #[.slice A l.length c] w (DecP w (dcmK r).1 (dcmK r).2) := by
      intro fid j fn hf hnm hbd hfd r hk hrd
      obtain ⟨m, rest, sh⟩ := r
      unfold dcmK
      cases sh
      · rw [if_neg (show ¬ (false = true) by decide)]
        by_cases hrs : 0 < rest.length
        · rw [if_pos hrs]; exact dec_rest (K := 0) (by omega) hw' hf hnm hbd hfd hrd hrs A c w hr hc
        · rw [if_neg hrs]
          obtain ⟨ho, hsz⟩ := readK_fine hb hk rfl
          obtain ⟨K, hK⟩ := right_m ho (by omega)
          cases hq : rightB m
          · rw [if_neg (by decide)]
            rw [show rightB (m, rest, false).1 = false from hq] at hK
            exact dec_wrong (K := K) (by omega) hw' hf hnm hbd hfd hrd (by omega) hK A c w hr hc
          · rw [if_pos rfl]
            rw [show rightB (m, rest, false).1 = true from hq] at hK
            exact dec_right (K := K) (by omega) hw' hf hnm hbd hfd hrd (by omega) hK A c w hr hc
      · rw [if_pos rfl]; exact dec_short (K := 0) (by omega) hw' hf hnm hbd hfd hrd A c w hr hc
    by_cases h1 : rd l 0 = 17
    · have e : readK l = some (rdQuery (rd l 0) (rd l 1) (l.drop 4)) := by unfold readK; rw [if_pos h1]
      rw [e]
      exact main (fid := 41) (j := 0) Try.func41 (by kernel_rfl) (by kernel_rfl) (fun p => by rw [h1]; rfl) _ e (query_reads _ _ hd)
    by_cases h2 : rd l 0 = 18 ∨ rd l 0 = 22 ∨ rd l 0 = 23
    · have e : readK l = some (rdPlain (rd l 0) (rd l 1) (l.drop 4)) := by unfold readK; rw [if_neg h1, if_pos h2]
      rw [e]
      rcases h2 with h | h | h
      · exact main (fid := 42) (j := 1) Try.func42 (by kernel_rfl) (by kernel_rfl) (fun p => by rw [h]; rfl) _ e (plain_reads _ _ hd)
      · exact main (fid := 42) (j := 2) Try.func42 (by kernel_rfl) (by kernel_rfl) (fun p => by rw [h]; rfl) _ e (plain_reads _ _ hd)
      · exact main (fid := 42) (j := 3) Try.func42 (by kernel_rfl) (by kernel_rfl) (fun p => by rw [h]; rfl) _ e (plain_reads _ _ hd)
    by_cases h3 : rd l 0 = 34
    · have e : readK l = some (rdReport (rd l 0) (rd l 1) (l.drop 4)) := by unfold readK; rw [if_neg h1, if_neg h2, if_pos h3]
      rw [e]
      exact main (fid := 43) (j := 4) Try.func43 (by kernel_rfl) (by kernel_rfl) (fun p => by rw [h3]; rfl) _ e (report_reads _ _ hd)
    · have e : readK l = none := by unfold readK; rw [if_neg h1, if_neg h2, if_neg h3]
      rw [e]
      exact dec_form (by omega) hw' (find_no h1 h2 h3) A c w hr hc
  · rw [if_neg hz]
    have hw' : sum_Whole.f l = some false := by rw [hw, show (sumOf l == 0) = false by simp [hz]]
    exact dec_torn (by omega) hw' A c w hr hc
end Go.Proofs.Ytmmjmncchckbbaa
/-
  What is written is read; what is read is right, and as long as what is written of it.
-/
namespace Go.Proofs.Ytmmjmncchckbbaa
open Go.RowKit Go.Proofs.YtmmjmncchckbbaaW.PrintWords Go.Proofs.YtmmjmncchckbbaaW.PrintLast Go.Proofs.YtmmjmncchckbbaaW.PrintMore Go.Proofs.Ytmmjmncchckbbaa.PIg
set_option linter.unusedVariables false
set_option linter.unusedSimpArgs false
def Msg.tail (m : Msg) : List Int := (if m.k = 34 then [0, 0, 0, (m.recs.length : Int) % 256] ++ m.recs.flatMap rrow else ab m.grp) ++ (if m.ver = 3 then [if m.quiet then Go.bits .or .u8 m.rob 8 else m.rob, m.every] ++ wrow [] m.srcs else [])
def mb (m : Msg) : List Int := mbody m.k m.ver m.code m.grp m.quiet m.rob m.every m.srcs m.recs
theorem mb_eq (m : Msg) : mb m = m.k :: m.code :: 0 :: 0 :: m.tail := by
  simp only [mb, mbody, Msg.tail, List.cons_append, List.nil_append, List.append_assoc]
theorem mb_put (m : Msg) : ∃ x y, putOf (mb m) 2 = m.k :: m.code :: x :: y :: m.tail := by
  rw [mb_eq]
  exact ⟨_, _, rfl⟩
theorem byt_app {a b : List Int} (ha : Byt a) (hb : Byt b) : Byt (a ++ b) := fun z hz => (List.mem_append.1 hz).elim (ha z) (hb z)
theorem byt_cons {a : Int} {b : List Int} (ha : U8 a) (hb : Byt b) : Byt (a :: b) := fun z hz => by
  rcases List.mem_cons.1 hz with rfl | h
  · exact ha
  · exact hb z h
theorem byt_nil : Byt [] := fun z hz => by cases hz
theorem byt_flat {α : Type} {f : α → List Int} {l : List α} (h : ∀ a ∈ l, Byt (f a)) : Byt (l.flatMap f) := fun z hz => by
  obtain ⟨a, ha, hz⟩ := List.mem_flatMap.1 hz
  exact h a ha z hz
theorem u8_0 : U8 0 := by unfold U8; omega
theorem u8_mod (a : Int) : U8 (a % 256) := by unfold U8; omega
theorem wrow_byt {G L : List Int} (hG : Byt G) : Byt (wrow G L) :=
  byt_app (byt_app (byt_cons (u8_mod _) (byt_cons (u8_mod _) byt_nil)) hG) (byt_flat fun a _ => ab_byt a)
theorem mb_byt {m : Msg} (h : m.Ok) : Byt (mb m) := by
  rw [mb_eq]
  refine byt_cons h.k (byt_cons h.code (byt_cons u8_0 (byt_cons u8_0 (byt_app ?_ ?_))))
  · split
    · exact byt_app (byt_cons u8_0 (byt_cons u8_0 (byt_cons u8_0 (byt_cons (u8_mod _) byt_nil)))) (byt_flat fun r hr => byt_app (byt_cons (h.recs r hr).1 (byt_cons u8_0 byt_nil)) (wrow_byt (ab_byt _)))
    · exact ab_byt _
  · split
    · refine byt_cons ?_ (byt_cons h.every (wrow_byt byt_nil))
      split
      · exact or8_u8 h.rob
      · exact h.rob
    · exact byt_nil
/-- The kinds of right messages. -/
inductive RightV : Msg → Prop
  | q1 : RightV ⟨17, 1, 0, 0, false, 0, 0, [], []⟩
  | q2 (code grp : Int) (h : 0 < code) : RightV ⟨17, 2, code, grp, false, 0, 0, [], []⟩
  | q3 (code grp : Int) (quiet : Bool) (rob every : Int) (srcs : List Int) (hr : rob ≤ 7) (hs : srcs.length ≤ 64) : RightV ⟨17, 3, code, grp, quiet, rob, every, srcs, []⟩
  | pl (k grp : Int) (hk : k = 18 ∨ k = 22 ∨ k = 23) : RightV ⟨k, 0, 0, grp, false, 0, 0, [], []⟩
  | r3 (recs : List S44) (hl : recs.length ≤ 32) (ha : ∀ r ∈ recs, r.f2.length ≤ 64) : RightV ⟨34, 0, 0, 0, false, 0, 0, [], recs⟩
theorem right_view {m : Msg} (h : rightB m = true) : RightV m := by
  unfold rightB at h
  by_cases h1 : m.k = 17
  · rw [if_pos h1] at h
    unfold queryB at h
    by_cases v1 : m.ver = 1
    · rw [if_pos v1] at h
      rw [of_decide_eq_true h]; exact .q1
    rw [if_neg v1] at h
    by_cases v2 : m.ver = 2
    · rw [if_pos v2] at h
      simp only [Bool.and_eq_true, decide_eq_true_eq] at h
      rw [h.2]; exact .q2 _ _ (by have := h.1.2; omega)
    rw [if_neg v2] at h
    by_cases v3 : m.ver = 3
    · rw [if_pos v3] at h
      simp only [Bool.and_eq_true, decide_eq_true_eq] at h
      obtain ⟨k, ver, code, grp, quiet, rob, every, srcs, recs⟩ := m
      obtain rfl : k = 17 := h1
      obtain rfl : ver = 3 := v3
      obtain rfl : recs = [] := List.length_eq_zero_iff.1 h.1.1.2
      exact .q3 _ _ _ _ _ _ h.1.1.1.2 h.1.2
    rw [if_neg v3] at h; cases h
  rw [if_neg h1] at h
  by_cases h2 : m.k = 18 ∨ m.k = 22 ∨ m.k = 23
  · rw [if_pos h2] at h
    simp only [Bool.and_eq_true, decide_eq_true_eq] at h
    rw [h.2]; exact .pl _ _ h2
  rw [if_neg h2] at h
  by_cases h3 : m.k = 34
  · rw [if_pos h3] at h
    simp only [Bool.and_eq_true, decide_eq_true_eq] at h
    rw [h.2, h3]
    refine .r3 _ h.1.1 fun r hr => ?_
    have := List.all_eq_true.1 h.1.2 r hr
    unfold recB at this
    simp only [Bool.and_eq_true, decide_eq_true_eq] at this
    exact this.2
  rw [if_neg h3] at h; cases h
theorem tail_len {m : Msg} (h : RightV m) : m.tail.length + 4 = (if m.ver = 3 then 12 + 4 * m.srcs.length else 8) + (m.recs.flatMap rrow).length := by
  cases h with
  | q1 => rfl
  | q2 => rfl
  | q3 code grp quiet rob every srcs hr hs =>
    show (ab grp ++ ([_, _] ++ ([_, _] ++ [] ++ srcs.flatMap ab))).length + 4 = 12 + 4 * srcs.length + 0
    simp only [List.length_append, List.length_cons, List.length_nil, flat_len, ab_len]; omega
  | pl k grp hk =>
    have : ¬ k = 34 := by omega
    simp [Msg.tail, this, ab_len]
  | r3 recs hl ha =>
    show ([0, 0, 0, _] ++ recs.flatMap rrow ++ []).length + 4 = 8 + _
    simp only [List.length_append, List.length_cons, List.length_nil]; omega
theorem mb_len {m : Msg} (h : RightV m) : (mb m).length = (if m.ver = 3 then 12 + 4 * m.srcs.length else 8) + (m.recs.flatMap rrow).length := by
  rw [mb_eq, ← tail_len h]; simp only [List.length_cons]
theorem mb_8 {m : Msg} (h : RightV m) : 8 ≤ (mb m).length := by rw [mb_len h]; split <;> omega
theorem mb_max {m : Msg} (h : RightV m) : (mb m).length ≤ 10000 := by
  rw [mb_len h]
  cases h with
  | q1 => show 8 + 0 ≤ 10000; omega
  | q2 => show 8 + 0 ≤ 10000; omega
  | q3 code grp quiet rob every srcs hr hs => simp; omega
  | pl k grp hk => simp
  | r3 recs hl ha =>
    have : (recs.flatMap rrow).length ≤ recs.length * 264 := by
      clear hl
      induction recs with
      | nil => simp
      | cons r L ih =>
        rw [List.flatMap_cons, List.length_append, rrow_long, List.length_cons]
        have := ih fun x hx => ha x (List.mem_cons_of_mem _ hx)
        have := ha r List.mem_cons_self
        omega
    show 8 + (recs.flatMap rrow).length ≤ 10000; omega
theorem flags_back {quiet : Bool} {rob : Int} (h0 : 0 ≤ rob) (h1 : rob ≤ 7) : (Go.bits .and .u8 (if quiet then Go.bits .or .u8 rob 8 else rob) 8 != 0) = quiet ∧ Go.bits .and .u8 (if quiet then Go.bits .or .u8 rob 8 else rob) 7 = rob := by
  cases quiet
  · simp only [Bool.false_eq_true, if_false]
    rw [and8 ⟨h0, by omega⟩, and7 ⟨h0, by omega⟩, if_neg (by omega)]
    exact ⟨rfl, by omega⟩
  · simp only [if_true]
    rw [or8 h0 h1, and8 ⟨by omega, by omega⟩, and7 ⟨by omega, by omega⟩, if_pos (by omega)]
    exact ⟨rfl, by omega⟩
theorem q3_read {code grp : Int} {quiet : Bool} {rob every : Int} {srcs t : List Int} (hg : U32 grp) (h0 : 0 ≤ rob) (h1 : rob ≤ 7) (hs : srcs.length ≤ 64) (ha : ∀ a ∈ srcs, U32 a) :
    rdQuery 17 code (ab grp ++ ([if quiet then Go.bits .or .u8 rob 8 else rob, every] ++ ([(srcs.length : Int) / 256 % 256, (srcs.length : Int) % 256] ++ (srcs.flatMap ab ++ t)))) = (⟨17, 3, code, grp, quiet, rob, every, srcs, []⟩, t, false) := by
  obtain ⟨a1, a2, a3⟩ := tk_app (ab grp) ([if quiet then Go.bits .or .u8 rob 8 else rob, every] ++ ([(srcs.length : Int) / 256 % 256, (srcs.length : Int) % 256] ++ (srcs.flatMap ab ++ t))) 4 rfl
  obtain ⟨b1, b2, b3⟩ := tk_app [if quiet then Go.bits .or .u8 rob 8 else rob, every] ([(srcs.length : Int) / 256 % 256, (srcs.length : Int) % 256] ++ (srcs.flatMap ab ++ t)) 2 rfl
  obtain ⟨c1, c2, c3⟩ := tk_app [(srcs.length : Int) / 256 % 256, (srcs.length : Int) % 256] (srcs.flatMap ab ++ t) 2 rfl
  unfold rdQuery
  rw [if_pos (by simp only [List.length_append, List.length_cons, List.length_nil, ab_len]; omega)]
  obtain ⟨f1, f2⟩ := flags_back (quiet := quiet) h0 h1
  have e1 : qx (ab grp ++ ([if quiet then Go.bits .or .u8 rob 8 else rob, every] ++ ([(srcs.length : Int) / 256 % 256, (srcs.length : Int) % 256] ++ (srcs.flatMap ab ++ t)))) false = [if quiet then Go.bits .or .u8 rob 8 else rob, every] := by unfold qx; rw [a2, a3, b1]
  have e2 : qa (ab grp ++ ([if quiet then Go.bits .or .u8 rob 8 else rob, every] ++ ([(srcs.length : Int) / 256 % 256, (srcs.length : Int) % 256] ++ (srcs.flatMap ab ++ t)))) false = (srcs, t, false) := by
    unfold qa qn qb qs
    rw [a2, a3, b2, b3, c1, c2, c3, cnt_back (by omega), ads_ab _ _ ha]
  rw [e1, e2, a1, av_ab hg]
  show ((⟨17, 3, code, grp, Go.bits .and .u8 (if quiet then Go.bits .or .u8 rob 8 else rob) 8 != 0, Go.bits .and .u8 (if quiet then Go.bits .or .u8 rob 8 else rob) 7, every, srcs, []⟩ : Msg), t, false) = _
  rw [f1, f2]
theorem back_read {m : Msg} (ho : m.Ok) (h : RightV m) (x y : Int) : readK (m.k :: m.code :: x :: y :: m.tail) = some (m, [], false) := by
  have r0 : rd (m.k :: m.code :: x :: y :: m.tail) 0 = m.k := rfl
  have r1 : rd (m.k :: m.code :: x :: y :: m.tail) 1 = m.code := rfl
  have r4 : (m.k :: m.code :: x :: y :: m.tail).drop 4 = m.tail := rfl
  unfold readK
  rw [r0, r1, r4]
  cases h with
  | q1 => rfl
  | q2 code grp h =>
    rw [if_pos rfl]
    obtain ⟨a1, a2, a3⟩ := tk_app (ab grp) [] 4 rfl
    show some (rdQuery 17 code (ab grp ++ [])) = _
    unfold rdQuery
    rw [if_neg (by simp [ab_len]), if_neg (by simp; omega), a1, a2, a3, av_ab ho.grp]
  | q3 code grp quiet rob every srcs hr hs =>
    rw [if_pos rfl]
    have := q3_read (code := code) (quiet := quiet) (every := every) (t := []) ho.grp ho.rob.1 hr hs ho.srcs
    have e : (Msg.tail ⟨17, 3, code, grp, quiet, rob, every, srcs, []⟩) = ab grp ++ ([if quiet then Go.bits .or .u8 rob 8 else rob, every] ++ ([(srcs.length : Int) / 256 % 256, (srcs.length : Int) % 256] ++ (srcs.flatMap ab ++ []))) := by simp [Msg.tail, wrow]
    rw [e]; exact congrArg some this
  | pl k grp hk =>
    have n1 : ¬ k = 17 := by omega
    have n2 : ¬ k = 34 := by omega
    rw [if_neg n1, if_pos hk]
    obtain ⟨a1, a2, a3⟩ := tk_app (ab grp) [] 4 rfl
    have e : (Msg.tail ⟨k, 0, 0, grp, false, 0, 0, [], []⟩) = ab grp ++ [] := by simp [Msg.tail, n2]
    rw [e]
    unfold rdPlain
    rw [a1, a2, a3, av_ab ho.grp]
  | r3 recs hl ha =>
    rw [if_neg (by show ¬ (34 : Int) = 17; decide), if_neg (by show ¬ ((34 : Int) = 18 ∨ (34 : Int) = 22 ∨ (34 : Int) = 23); decide), if_pos rfl]
    have e : (Msg.tail ⟨34, 0, 0, 0, false, 0, 0, [], recs⟩) = [0, 0] ++ ([0, (recs.length : Int) % 256] ++ (recs.flatMap rrow ++ [])) := by simp [Msg.tail]
    rw [e]
    obtain ⟨a1, a2, a3⟩ := tk_app [0, 0] ([0, (recs.length : Int) % 256] ++ (recs.flatMap rrow ++ [])) 2 rfl
    obtain ⟨b1, b2, b3⟩ := tk_app [0, (recs.length : Int) % 256] (recs.flatMap rrow ++ []) 2 rfl
    have f1 : rx ([0, 0] ++ ([0, (recs.length : Int) % 256] ++ (recs.flatMap rrow ++ []))) false = [0, 0] := a1
    have f2 : rs2 ([0, 0] ++ ([0, (recs.length : Int) % 256] ++ (recs.flatMap rrow ++ []))) false = false := by unfold rs2 rb rs; rw [a2, a3]; exact b3
    have f3 : rb2 ([0, 0] ++ ([0, (recs.length : Int) % 256] ++ (recs.flatMap rrow ++ []))) false = recs.flatMap rrow ++ [] := by unfold rb2 rb rs; rw [a2, a3]; exact b2
    have f4 : rn ([0, 0] ++ ([0, (recs.length : Int) % 256] ++ (recs.flatMap rrow ++ []))) false = recs.length := by
      unfold rn rb rs; rw [a2, a3, b1]
      show ((0 : Int) * 256 + (recs.length : Int) % 256).toNat = recs.length
      omega
    unfold rdReport
    rw [f1, f2, f3, f4, rcs_rrow recs [] fun r hr => ⟨ho.recs r hr, by have := ha r hr; omega⟩, if_pos (show be2 [0, 0] = 0 from rfl)]
def enc (m : Msg) : List Int := putOf (mb m) 2
theorem enc_len {m : Msg} : (enc m).length = (mb m).length := putOf_len _ _
theorem enc_byt {m : Msg} (h : m.Ok) : Byt (enc m) := putOf_byte _ _ (mb_byt h)
theorem enc_sum {m : Msg} (ho : m.Ok) (h : RightV m) : sumOf (enc m) = 0 := putOf_whole _ _ (mb_byt ho) (by decide) (by have := mb_8 h; omega)
theorem dcm_enc {m : Msg} (ho : m.Ok) (h : rightB m = true) : dcm (enc m) = (m, 0) := by
  have hv := right_view h
  unfold dcm
  rw [if_neg (by rw [enc_len]; have := mb_8 hv; omega), if_pos (enc_sum ho hv)]
  obtain ⟨x, y, e⟩ := mb_put m
  rw [show enc m = _ from e, back_read ho hv]
  show dcmK (m, [], false) = _
  unfold dcmK
  rw [if_neg (show ¬ (false = true) by decide), if_neg (show ¬ (0 < (([] : List Int)).length) by decide), if_pos (show rightB (m, ([] : List Int), false).1 = true from h)]
theorem dcm_else {l : List Int} (h : (dcm l).2 ≠ 0) : (dcm l).1 = msg0 := by
  unfold dcm at h ⊢
  by_cases h8 : l.length < 8
  · rw [if_pos h8]
  rw [if_neg h8] at h ⊢
  by_cases hz : sumOf l = 0
  · rw [if_pos hz] at h ⊢
    cases hk : readK l with
    | none => rfl
    | some r =>
      rw [hk] at h
      show (dcmK r).1 = msg0
      replace h : (dcmK r).2 ≠ 0 := h
      unfold dcmK at h ⊢
      by_cases h1 : r.2.2 = true
      · rw [if_pos h1]
      rw [if_neg h1] at h ⊢
      by_cases h2 : 0 < r.2.1.length
      · rw [if_pos h2]
      rw [if_neg h2] at h ⊢
      by_cases h3 : rightB r.1 = true
      · rw [if_pos h3] at h; exact absurd rfl h
      · rw [if_neg h3]
  · rw [if_neg hz]
theorem readK_len {l : List Int} (h8 : 8 ≤ l.length) {r : Msg × List Int × Bool} (h : readK l = some r) (hs : r.2.2 = false) (h0 : r.2.1.length = 0) (hr : rightB r.1 = true) : (mb r.1).length = l.length := by
  have hv := right_view hr
  rw [mb_len hv]
  have hn : (l.drop 4).length + 4 = l.length := by rw [List.length_drop]; omega
  unfold readK at h
  by_cases h1 : rd l 0 = 17
  · rw [if_pos h1] at h
    cases h
    unfold rdQuery at hs h0 ⊢
    by_cases h4 : 4 < (l.drop 4).length
    · rw [if_pos h4] at hs h0 ⊢
      have := qa_len hs
      replace h0 : (qa (l.drop 4) false).2.1.length = 0 := h0
      show (12 + 4 * (qa (l.drop 4) false).1.length) + 0 = l.length
      omega
    · rw [if_neg h4]
      by_cases hz : (rd l 1 == 0) = true
      · rw [if_pos hz]; show 8 + 0 = l.length; omega
      · rw [if_neg hz]; show 8 + 0 = l.length; omega
  rw [if_neg h1] at h
  by_cases h2 : rd l 0 = 18 ∨ rd l 0 = 22 ∨ rd l 0 = 23
  · rw [if_pos h2] at h
    cases h
    obtain ⟨_, _, e⟩ := tk_ok (show tks 4 (l.drop 4) false = false from hs)
    replace h0 : (tkb 4 (l.drop 4) false).length = 0 := h0
    rw [e, List.length_drop] at h0
    show 8 + 0 = l.length; omega
  rw [if_neg h2] at h
  by_cases h3 : rd l 0 = 34
  · rw [if_pos h3] at h
    cases h
    have hl := rep_len (bs := l.drop 4) hs
    have hz : be2 (rx (l.drop 4) false) = 0 := by
      refine Classical.byContradiction fun hz => ?_
      have e : (rdReport (rd l 0) (rd l 1) (l.drop 4)).1.recs = List.replicate 33 z44 := by unfold rdReport; exact if_neg hz
      have e2 : (rdReport (rd l 0) (rd l 1) (l.drop 4)).1.k = 34 := h3
      generalize (rdReport (rd l 0) (rd l 1) (l.drop 4)).1 = m at hv e e2
      cases hv with
      | r3 recs hl' ha =>
        have : recs.length = 33 := by rw [show recs = _ from e]; exact List.length_replicate
        omega
      | pl k grp hk => replace e2 : k = 34 := e2; omega
      | q1 => cases e2
      | q2 => cases e2
      | q3 => cases e2
    have e : (rdReport (rd l 0) (rd l 1) (l.drop 4)).1.recs = (rcs (rn (l.drop 4) false) (rb2 (l.drop 4) false) (rs2 (l.drop 4) false)).1 := by unfold rdReport; exact if_pos hz
    rw [e]
    replace h0 : (rcs (rn (l.drop 4) false) (rb2 (l.drop 4) false) (rs2 (l.drop 4) false)).2.1.length = 0 := h0
    show 8 + _ = l.length
    omega
  · rw [if_neg h3] at h; cases h
theorem dcm_ok {l : List Int} (hb : Byt l) (h : (dcm l).2 = 0) : (dcm l).1.Ok ∧ rightB (dcm l).1 = true ∧ (enc (dcm l).1).length = l.length := by
  unfold dcm at h ⊢
  by_cases h8 : l.length < 8
  · rw [if_pos h8] at h; cases h
  rw [if_neg h8] at h ⊢
  by_cases hz : sumOf l = 0
  · rw [if_pos hz] at h ⊢
    cases hk : readK l with
    | none => rw [hk] at h; cases h
    | some r =>
      rw [hk] at h
      replace h : (dcmK r).2 = 0 := h
      show (dcmK r).1.Ok ∧ rightB (dcmK r).1 = true ∧ (enc (dcmK r).1).length = l.length
      unfold dcmK at h ⊢
      by_cases h1 : r.2.2 = true
      · rw [if_pos h1] at h; cases h
      rw [if_neg h1] at h ⊢
      by_cases h2 : 0 < r.2.1.length
      · rw [if_pos h2] at h; cases h
      rw [if_neg h2] at h ⊢
      by_cases h3 : rightB r.1 = true
      · rw [if_pos h3]
        have hs : r.2.2 = false := by simpa using h1
        exact ⟨(readK_fine hb hk hs).1, h3, by rw [enc_len]; exact readK_len (by omega) hk hs (by omega) h3⟩
      · rw [if_neg h3] at h; cases h
  · rw [if_neg hz] at h; cases h
end Go.Proofs.Ytmmjmncchckbbaa
/-
  Which messages are short, in plain words.
-/
namespace Go.Proofs.Ytmmjmncchckbbaa
open Go.RowKit Go.Proofs.YtmmjmncchckbbaaW.PrintWords Go.Proofs.Ytmmjmncchckbbaa.PIg
set_option linter.unusedVariables false
set_option linter.unusedSimpArgs false
end Go.Proofs.Ytmmjmncchckbbaa
