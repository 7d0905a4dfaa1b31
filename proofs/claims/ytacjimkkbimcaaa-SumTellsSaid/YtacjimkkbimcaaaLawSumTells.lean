/-
  The row of SumTells: written by a program of this session (grow.py), after the printer's rows.
-/
import Derived.Test.YtacjimkkbimcaaaRows
import Derived.Test.YtacjimkkbimcaaaPSumx2
import Derived.Test.YtacjimkkbimcaaaPureSumTells
import Derived.WalkKit
import Derived.ProofKit
import Derived.OpenShut
import Derived.ShutString
import Derived.ChangeOld
import Derived.Below
import Derived.SizedLaws
import Derived.Test.YtacjimkkbimcaaaOpens
namespace Go.Proofs.Ytacjimkkbimcaaa.sumTells
open Go.ChangeShapes Go.WideShapes Go.ChangeAt Go.RowKit Go.Proofs.Ytacjimkkbimcaaa Go.Proofs.YtacjimkkbimcaaaW.PrintWords
open Go.ChangeMaps (open_string shut_string)
set_option linter.unusedVariables false
theorem own : ownKnob Try.prog.godebug = none := by kernel_rfl
theorem laidOut : laidOutB Try.prog = true := by kernel_rfl
theorem opens0 (H : Type) : Opens H Try.prog 25 (Kd.pair (Kd.slice 5 (Kd.int .u8)) (Kd.pair (Kd.int .i64) (Kd.pair (Kd.int .u16) (Kd.int .u16)))) (fun x => (x.1.length ≤ maxLen ∧ x.1.length * Try.prog.bytesOf 5 ≤ reachBytes ∧ ∀ a ∈ x.1, (Lit.int .u8 a).wf = true) ∧ (Lit.int .i64 x.2.1).wf = true ∧ (Lit.int .u16 x.2.2.1).wf = true ∧ (Lit.int .u16 x.2.2.2).wf = true) := opens_struct Try.underlying25 (by kernel_rfl) (opens_cons rfl (by kernel_rfl) (opens_slice Try.underlying22 (by kernel_rfl) (opens_int Try.underlying5)) (opens_cons rfl (by kernel_rfl) (opens_int Try.underlying3) (opens_cons rfl (by kernel_rfl) (opens_int Try.underlying23) (opens_last rfl (by kernel_rfl) (opens_int Try.underlying23)))))
set_option maxRecDepth 100000 in
theorem lifted (os : Os) (started : os.Started) (H : Type) (enc : TypeId × Value → H) :
    ReturnsInHanded {} Try.checked os 3 .any (Rows.sumTellsSpec.pre6 enc Try.prog Try.f3 Rows.sumTellsRow.domain false) (Rows.sumTellsSpec.post enc Try.prog Try.f3 false true false false) := by
  refine returnsInHanded_of_change_sized (C := Try.checked) own started (by kernel_rfl) Try.func3
    (ChangeSpec.witness6 (enc := enc) (C := Try.checked) false ⟨#[], #[.agg #[.slice none 0 0, .int .i64 0, .int .u16 0, .int .u16 0]], []⟩ 8 (by kernel_rfl) (by kernel_rfl) (by kernel_rfl) (by kernel_rfl)) ?_
  intro W base args ds gs before hval0 hW hcnd hsz0 _
  have hsz : (DataW.weightsEach Try.prog (Try.f3.params.toList ++ Rows.sumTellsSpec.plain.varTypes Try.prog) (ds ++ gs)).all (· ≤ reachBytes) = true := hsz0
  have hval : ∀ (j : Nat) t v, Try.f3.params[j]? = some t → args[j]? = some v → Value.okWide Try.prog W .any base t v := hval0
  have hW' := hW
  obtain ⟨p, q, hA0, hV, rfl, hfz, hnd⟩ := hW
  have hA : DataW.TrodAll enc Try.prog W 0 (fun _ => true) true Try.f3.params.toList args.toList ds p := hA0
  rw [Try.params3] at hA hval hsz
  obtain ⟨v0, vs0, d0, ds0, p0, q0, hargs, rfl, rfl, h0, r0⟩ := trodAll_cons hA
  obtain ⟨rfl, rfl, rfl⟩ := trodAll_nil r0
  obtain rfl : args = #[v0] := by cases args; simp_all
  obtain ⟨rfl, rfl⟩ := trodVars_none hV
  have k0 := h0
  have lt0 : ∀ x ∈ p0, x.block < W.heap.size := by obtain ⟨m, hm⟩ := k0; exact DataW.trod_lt m _ _ _ hm
  obtain ⟨cs0, rfl, hz0⟩ := okWide_struct Try.underlying25 (hval 0 25 v0 rfl rfl)
  obtain ⟨x0, hK0, wf0⟩ := Opens.row (opens0 H) hsz (j := 0) (t := 25) rfl rfl h0
  obtain ⟨_, _, e0, ⟨A0, c0, rfl, hc0, hr0⟩, ⟨_, _, rfl, rfl, ⟨_, _, rfl, rfl, rfl⟩⟩⟩ := hK0
  obtain rfl : cs0 = #[.slice A0 x0.1.length c0, .int .i64 x0.2.1, .int .u16 x0.2.2.1, .int .u16 x0.2.2.2] := by apply Array.toList_inj.1; simpa [Value.cells] using e0
  obtain ⟨⟨_, y0, z0⟩, z1, z2, z3⟩ := wf0
  clear hA0 hval0 hsz0 hsz
  rw [show Try.prog.bytesOf 5 = 1 from by kernel_rfl] at y0
  obtain ⟨k, hk⟩ := Pure.sumTells x0.1 x0.2.1 x0.2.2.1 x0.2.2.2 y0 (fun z hz => wf_u8 (z0 z hz)) (wf_i64 z1) (wf_u16 z2) (wf_u16 z3)
  refine (PSum.stolonlaw02_SumTells.calls k A0 c0 x0.1 x0.2.1 x0.2.2.1 x0.2.2.2 true W hr0 hc0 hk).mono fun e W' ⟨he, bel⟩ => ?_
  subst he
  exact ⟨_, rfl, _, _, _, [], _, [], hW', trodAll_mk1 (shut_bool Try.underlying4 _), (trodAll_cons_mk (Below.trod laidOut (by kernel_rfl) (of_decide_eq_true (by kernel_rfl)) k0 bel lt0) trodAll_mk0), rfl, bel.frame _, fun h => by cases h⟩
theorem over : Rows.sumTellsRow.holds Try.pinned (OpenSpec.ofChange Rows.sumTellsSpec) :=
  OpenClaim.holds_of_wide 3 Try.f3 rfl rfl rfl rfl rfl rfl rfl ⟨rfl, rfl, rfl, rfl, rfl⟩ rfl rfl rfl rfl rfl (by kernel_rfl) Try.func3 (by kernel_rfl)
    (of_decide_eq_true (by kernel_rfl)) (by unfold Func.isWrapper; first | (rw [if_pos (by decide +kernel)]; kernel_rfl) | (rw [if_neg (by decide +kernel)]; exact ⟨rfl, rfl⟩))
    (fun os started H enc _ => lifted os started H enc)
theorem proved : Rows.SumTellsSaid := over
#print axioms proved
end Go.Proofs.Ytacjimkkbimcaaa.sumTells
namespace Go.Proofs.Ytacjimkkbimcaaa
/-- The row, under a short name, for the claim. -/
theorem sumTells_holds : Rows.SumTellsSaid := sumTells.proved
end Go.Proofs.Ytacjimkkbimcaaa
