/-
  The row of SetFilters: written by a program of this session (grow.py), after the printer's rows.
-/
import Derived.Test.YtkhljamellgcfaaRows
import Derived.Test.YtkhljamellgcfaaPSetx6
import Derived.Test.YtkhljamellgcfaaSetV
import Derived.WalkKit
import Derived.ProofKit
import Derived.OpenShut
import Derived.ShutString
import Derived.ChangeOld
import Derived.Below
import Derived.SizedLaws
import Derived.Test.YtkhljamellgcfaaOpens
namespace Go.Proofs.Ytkhljamellgcfaa.setFilters
open Go.ChangeShapes Go.WideShapes Go.ChangeAt Go.RowKit Go.Proofs.Ytkhljamellgcfaa Go.Proofs.YtkhljamellgcfaaW.PrintWords
open Go.ChangeMaps (open_string shut_string)
set_option linter.unusedVariables false
theorem own : ownKnob Try.prog.godebug = none := by kernel_rfl
theorem laidOut : laidOutB Try.prog = true := by kernel_rfl
theorem opens0 (H : Type) : Opens H Try.prog 22 (Kd.slice 29 PSet.k29) (fun xs => xs.length ≤ maxLen ∧ xs.length * Try.prog.bytesOf 29 ≤ reachBytes ∧ ∀ f ∈ xs, True ∧ (f.f1.length ≤ maxLen ∧ f.f1.length * Try.prog.bytesOf 24 ≤ reachBytes ∧ ∀ a ∈ f.f1, (Lit.int .u32 a).wf = true)) := opens_slice Try.underlying22 (by kernel_rfl) (opens_iso (fun x => ⟨x.1, x.2⟩) (fun _ => rfl) (opens_struct Try.underlying29 (by kernel_rfl) (opens_cons rfl (by kernel_rfl) (opens_bool Try.underlying4) (opens_last rfl (by kernel_rfl) (opens_slice Try.underlying27 (by kernel_rfl) (opens_int Try.underlying24))))))
set_option maxRecDepth 100000 in
theorem lifted (os : Os) (started : os.Started) (H : Type) (enc : TypeId × Value → H) :
    ReturnsInHanded {} Try.checked os 3 .any (Rows.setFiltersSpec.pre6 enc Try.prog Try.f3 Rows.setFiltersRow.domain false) (Rows.setFiltersSpec.post enc Try.prog Try.f3 false true false false) := by
  refine returnsInHanded_of_change_sized (C := Try.checked) own started (by kernel_rfl) Try.func3
    (ChangeSpec.witness6 (enc := enc) (C := Try.checked) false ⟨#[], #[.slice none 0 0, .int .u32 0], []⟩ 8 (by kernel_rfl) (by kernel_rfl) (by kernel_rfl) (by kernel_rfl)) ?_
  intro W base args ds gs before hval0 hW hcnd hsz0 _
  have hsz : (DataW.weightsEach Try.prog (Try.f3.params.toList ++ Rows.setFiltersSpec.plain.varTypes Try.prog) (ds ++ gs)).all (· ≤ reachBytes) = true := hsz0
  have hval : ∀ (j : Nat) t v, Try.f3.params[j]? = some t → args[j]? = some v → Value.okWide Try.prog W .any base t v := hval0
  have hW' := hW
  obtain ⟨p, q, hA0, hV, rfl, hfz, hnd⟩ := hW
  have hA : DataW.TrodAll enc Try.prog W 0 (fun _ => true) true Try.f3.params.toList args.toList ds p := hA0
  rw [Try.params3] at hA hval hsz
  obtain ⟨v0, vs0, d0, ds0, p0, q0, hargs, rfl, rfl, h0, r0⟩ := trodAll_cons hA
  obtain ⟨v1, vs1, d1, ds1, p1, q1, rfl, rfl, rfl, h1, r1⟩ := trodAll_cons r0
  obtain ⟨rfl, rfl, rfl⟩ := trodAll_nil r1
  obtain rfl : args = #[v0, v1] := by cases args; simp_all
  obtain ⟨rfl, rfl⟩ := trodVars_none hV
  have k0 := h0
  have lt0 : ∀ x ∈ p0, x.block < W.heap.size := by obtain ⟨m, hm⟩ := k0; exact DataW.trod_lt m _ _ _ hm
  obtain ⟨a0, len0, cap0, rfl⟩ := okWide_slice Try.underlying22 (hval 0 22 v0 rfl rfl)
  obtain ⟨x0, hK0, wf0⟩ := Opens.row (opens0 H) hsz (j := 0) (t := 22) rfl rfl h0
  obtain ⟨A0, c0, e0, hc0, hr0⟩ := hK0
  simp [Value.cells] at e0
  obtain ⟨rfl, rfl, rfl⟩ := e0
  obtain ⟨_, y0, z0⟩ := wf0
  have k1 := h1
  have lt1 : ∀ x ∈ p1, x.block < W.heap.size := by obtain ⟨m, hm⟩ := k1; exact DataW.trod_lt m _ _ _ hm
  obtain ⟨a1, rfl, rfl, rfl, w1⟩ := open_int Try.underlying24 (hval 1 24 v1 rfl rfl) h1
  clear hA0 hval0 hsz0 hsz
  rw [show Try.prog.bytesOf 29 = 32 from by kernel_rfl] at y0
  replace y0 : x0.length * 32 ≤ 140737488351232 := y0
  have z0' : ∀ f ∈ x0, f.f1.length ≤ 1000000000000000 := fun f hf => by have h := (z0 f hf).2.2.1; rw [show Try.prog.bytesOf 24 = 4 from by kernel_rfl] at h; replace h : f.f1.length * 4 ≤ 140737488351232 := h; omega
  obtain ⟨k, hk⟩ := setFilters_pure x0 a1 (by omega) z0'
  refine (PSet.stolonlaw06_SetFilters.calls k a0 cap0 x0 a1 true W hr0 hc0 hk).mono fun e W' ⟨he, bel⟩ => ?_
  subst he
  exact ⟨_, rfl, _, _, _, [], _, [], hW', trodAll_mk1 (shut_bool Try.underlying4 _), (trodAll_cons_mk (Below.trod laidOut (by kernel_rfl) (of_decide_eq_true (by kernel_rfl)) k0 bel lt0) (trodAll_cons_mk (Below.trod laidOut (by kernel_rfl) (of_decide_eq_true (by kernel_rfl)) k1 bel lt1) trodAll_mk0)), rfl, bel.frame _, fun h => by cases h⟩
theorem over : Rows.setFiltersRow.holds Try.pinned (OpenSpec.ofChange Rows.setFiltersSpec) :=
  OpenClaim.holds_of_wide 3 Try.f3 rfl rfl rfl rfl rfl rfl rfl ⟨rfl, rfl, rfl, rfl, rfl⟩ rfl rfl rfl rfl rfl (by kernel_rfl) Try.func3 (by kernel_rfl)
    (of_decide_eq_true (by kernel_rfl)) (by unfold Func.isWrapper; first | (rw [if_pos (by decide +kernel)]; kernel_rfl) | (rw [if_neg (by decide +kernel)]; exact ⟨rfl, rfl⟩))
    (fun os started H enc _ => lifted os started H enc)
theorem proved : Rows.SetFiltersSaid := over
#print axioms proved
end Go.Proofs.Ytkhljamellgcfaa.setFilters
namespace Go.Proofs.Ytkhljamellgcfaa
/-- The row, under a short name, for the claim. -/
theorem setFilters_holds : Rows.SetFiltersSaid := setFilters.proved
end Go.Proofs.Ytkhljamellgcfaa
