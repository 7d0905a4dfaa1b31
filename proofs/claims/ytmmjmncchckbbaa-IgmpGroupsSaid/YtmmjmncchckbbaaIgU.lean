/-
  What each kind of message is read as.
-/
import Derived.Test.YtmmjmncchckbbaaIgM
namespace Go.Proofs.Ytmmjmncchckbbaa
open Go.RowKit Go.Proofs.YtmmjmncchckbbaaW.PrintWords Go.Proofs.YtmmjmncchckbbaaW.PrintLast Go.Proofs.YtmmjmncchckbbaaW.PrintMore Go.Proofs.Ytmmjmncchckbbaa.PIg
set_option linter.unusedVariables false
set_option linter.unusedSimpArgs false
/-- A message. -/
structure Msg where
  k : Int
  ver : Int
  code : Int
  grp : Int
  quiet : Bool
  rob : Int
  every : Int
  srcs : List Int
  recs : List S44
def msg0 : Msg := ⟨0, 0, 0, 0, false, 0, 0, [], []⟩
def Msg.vals (m : Msg) (vS vR : Value) : Array Value := #[.int .u8 m.k, .int .i64 m.ver, .int .u8 m.code, .int .u32 m.grp, .bool m.quiet, .int .u8 m.rob, .int .u8 m.every, vS, vR]
/-- The function f, called on a new reader of these bytes, leaves this message. -/
def ReadsTo (f : Nat) (k code : Int) (bs : List Int) (r : Msg × List Int × Bool) : Prop :=
  ∀ (w0 w : World) (g : Nat) (A : Option Addr) (c : Nat), Below w0.heap.size w0 w → w0.heap.size ≤ g → w.heap[g]? = some (.cells #[.slice A bs.length c, .int .u8 k, .int .i64 0, .int .u8 code, .int .u32 0, .bool false, .int .u8 0, .int .u8 0, .slice none 0 0, .slice none 0 0, .bool false] 66 (0, 0)) → Kd.C (Kd.int .u8) w0 A bs.length bs → bs.length ≤ c →
    Calls Try.prog f #[.pointer (some ⟨g, 0, none⟩)] w fun e w' => ∃ vS vR A2 c2, e = .returned (.tuple #[]) ∧ Kd.R (Kd.int .u32) 23 w' w.heap.size (fun k => k ≠ g) vS r.1.srcs ∧ Kd.N k44 44 w' w.heap.size (fun k => k ≠ g ∧ w.heap.size ≤ k) vR r.1.recs ∧ w'.heap[g]? = some (.cells #[.slice A2 r.2.1.length c2, .int .u8 r.1.k, .int .i64 r.1.ver, .int .u8 r.1.code, .int .u32 r.1.grp, .bool r.1.quiet, .int .u8 r.1.rob, .int .u8 r.1.every, vS, vR, .bool r.2.2] 66 (0, 0)) ∧ RM w w' g
def rdPlain (k code : Int) (bs : List Int) : Msg × List Int × Bool := (⟨k, 0, code, av (tkx 4 bs false), false, 0, 0, [], []⟩, tkb 4 bs false, tks 4 bs false)
def rdQuery (k code : Int) (bs : List Int) : Msg × List Int × Bool :=
  if 4 < bs.length then (⟨k, 3, code, av (tkx 4 bs false), Go.bits .and .u8 (rd (qx bs false) 0) 8 != 0, Go.bits .and .u8 (rd (qx bs false) 0) 7, rd (qx bs false) 1, (qa bs false).1, []⟩, (qa bs false).2.1, (qa bs false).2.2)
  else if (code == 0) = true then (⟨k, 1, code, 0, false, 0, 0, [], []⟩, tkb 4 bs false, tks 4 bs false)
  else (⟨k, 2, code, av (tkx 4 bs false), false, 0, 0, [], []⟩, tkb 4 bs false, tks 4 bs false)
def rdReport (k code : Int) (bs : List Int) : Msg × List Int × Bool :=
  (⟨k, 0, code, 0, false, 0, 0, [], if be2 (rx bs false) = 0 then (rcs (rn bs false) (rb2 bs false) (rs2 bs false)).1 else List.replicate 33 z44⟩, (rcs (rn bs false) (rb2 bs false) (rs2 bs false)).2.1, (rcs (rn bs false) (rb2 bs false) (rs2 bs false)).2.2)
theorem plain_reads (k code : Int) {bs : List Int} (hby : Byt bs) : ReadsTo 42 k code bs (rdPlain k code bs) := by
  intro w0 w g A c hB hg h hC hc
  refine (plain_w hB hg h hC hc hby).mono ?_
  rintro e w' ⟨A2, c2, rfl, hb, _, _, hR⟩
  exact ⟨.slice none 0 0, .slice none 0 0, A2, c2, rfl, Kd.R_nil _ _ _ _ _, Kd.N_nil _ _ _ _ _, hb, hR⟩
theorem query_reads (k code : Int) {bs : List Int} (hby : Byt bs) : ReadsTo 41 k code bs (rdQuery k code bs) := by
  intro w0 w g A c hB hg h hC hc
  unfold rdQuery
  by_cases hn : 4 < bs.length
  · rw [if_pos hn]
    cases hz : code == 0
    · refine (query_l0 hB hg h hC hc hby hz hn).mono ?_
      rintro e w' ⟨v, A2, c2, rfl, hv, hb, _, _, hR⟩
      exact ⟨v, .slice none 0 0, A2, c2, rfl, hv, Kd.N_nil _ _ _ _ _, hb, hR⟩
    · refine (query_l1 hB hg h hC hc hby hz hn).mono ?_
      rintro e w' ⟨v, A2, c2, rfl, hv, hb, _, _, hR⟩
      exact ⟨v, .slice none 0 0, A2, c2, rfl, hv, Kd.N_nil _ _ _ _ _, hb, hR⟩
  · rw [if_neg hn]
    cases hz : code == 0
    · rw [if_neg (by decide)]
      refine (query_s0 hB hg h hC hc hby hz hn).mono ?_
      rintro e w' ⟨A2, c2, rfl, hb, _, _, hR⟩
      exact ⟨.slice none 0 0, .slice none 0 0, A2, c2, rfl, Kd.R_nil _ _ _ _ _, Kd.N_nil _ _ _ _ _, hb, hR⟩
    · rw [if_pos rfl]
      refine (query_s1 hB hg h hC hc hby hz hn).mono ?_
      rintro e w' ⟨A2, c2, rfl, hb, _, _, hR⟩
      exact ⟨.slice none 0 0, .slice none 0 0, A2, c2, rfl, Kd.R_nil _ _ _ _ _, Kd.N_nil _ _ _ _ _, hb, hR⟩
theorem report_reads (k code : Int) {bs : List Int} (hby : Byt bs) : ReadsTo 43 k code bs (rdReport k code bs) := by
  intro w0 w g A c hB hg h hC hc
  refine (report_w (vR := .slice none 0 0) hB hg h hC hc hby).mono ?_
  rintro e w' ⟨v, A2, c2, rfl, hv, hb, _, _, hR⟩
  exact ⟨.slice none 0 0, v, A2, c2, rfl, Kd.R_nil _ _ _ _ _, hv, hb, hR⟩
end Go.Proofs.Ytmmjmncchckbbaa
