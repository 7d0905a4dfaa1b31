/-
  The row of HostSays: written by a program of this session (grow.py), after the printer's rows.
-/
import Derived.Test.YtjncmiclpaodhaaRows
import Derived.Test.YtjncmiclpaodhaaOpens
import Derived.WalkKit
import Derived.ProofKit
import Derived.OpenShut
import Derived.ShutString
import Derived.ChangeOld
import Derived.Below
import Derived.SizedLaws
namespace Go.Proofs.Ytjncmiclpaodhaa.hostSays
open Go.ChangeShapes Go.WideShapes Go.ChangeAt Go.RowKit Go.Proofs.Ytjncmiclpaodhaa Go.Proofs.YtjncmiclpaodhaaW.PrintWords
open Go.ChangeMaps (open_string shut_string)
set_option linter.unusedVariables false
theorem own : ownKnob Try.prog.godebug = none := by kernel_rfl
theorem laidOut : laidOutB Try.prog = true := by kernel_rfl
theorem opens0 (H : Type) : Opens H Try.prog 28 (Kd.pair (Kd.int .u32) (Kd.pair (Kd.pair Kd.bool (Kd.slice 23 (Kd.int .u32))) (Kd.pair (Kd.pair Kd.bool (Kd.slice 23 (Kd.int .u32))) (Kd.int .u32)))) (fun x => (Lit.int .u32 x.1).wf = true ∧ (True ∧ (x.2.1.2.length ≤ maxLen ∧ x.2.1.2.length * Try.prog.bytesOf 23 ≤ reachBytes ∧ ∀ a ∈ x.2.1.2, (Lit.int .u32 a).wf = true)) ∧ (True ∧ (x.2.2.1.2.length ≤ maxLen ∧ x.2.2.1.2.length * Try.prog.bytesOf 23 ≤ reachBytes ∧ ∀ a ∈ x.2.2.1.2, (Lit.int .u32 a).wf = true)) ∧ (Lit.int .u32 x.2.2.2).wf = true) := opens_struct Try.underlying28 (by kernel_rfl) (opens_cons rfl (by kernel_rfl) (opens_int Try.underlying23) (opens_cons rfl (by kernel_rfl) (opens_struct Try.underlying26 (by kernel_rfl) (opens_cons rfl (by kernel_rfl) (opens_bool Try.underlying4) (opens_last rfl (by kernel_rfl) (opens_slice Try.underlying24 (by kernel_rfl) (opens_int Try.underlying23))))) (opens_cons rfl (by kernel_rfl) (opens_struct Try.underlying26 (by kernel_rfl) (opens_cons rfl (by kernel_rfl) (opens_bool Try.underlying4) (opens_last rfl (by kernel_rfl) (opens_slice Try.underlying24 (by kernel_rfl) (opens_int Try.underlying23))))) (opens_last rfl (by kernel_rfl) (opens_int Try.underlying23)))))
set_option maxHeartbeats 4000000 in
set_option maxRecDepth 100000 in
theorem lifted (os : Os) (started : os.Started) (H : Type) (enc : TypeId × Value → H) :
    ReturnsInHanded {} Try.checked os 3 .any (Rows.hostSaysSpec.pre6 enc Try.prog Try.f3 Rows.hostSaysRow.domain false) (Rows.hostSaysSpec.post enc Try.prog Try.f3 false true false false) := by
  refine returnsInHanded_of_change_sized (C := Try.checked) own started (by kernel_rfl) Try.func3
    (ChangeSpec.witness6 (enc := enc) (C := Try.checked) false ⟨#[], #[.agg #[.int .u32 0, .bool false, .slice none 0 0, .bool false, .slice none 0 0, .int .u32 0]], []⟩ 8 (by kernel_rfl) (by kernel_rfl) (by kernel_rfl) (by kernel_rfl)) ?_
  intro W base args ds gs before hval0 hW hcnd hsz0 _
  have hsz : (DataW.weightsEach Try.prog (Try.f3.params.toList ++ Rows.hostSaysSpec.plain.varTypes Try.prog) (ds ++ gs)).all (· ≤ reachBytes) = true := hsz0
  have hval : ∀ (j : Nat) t v, Try.f3.params[j]? = some t → args[j]? = some v → Value.okWide Try.prog W .any base t v := hval0
  have hW' := hW
  obtain ⟨p, q, hA0, hV, rfl, hfz, hnd⟩ := hW
  have hA : DataW.TrodAll enc Try.prog W 0 (fun _ => true) true Try.f3.params.toList args.toList ds p := hA0
  rw [Try.params3] at hA hval hsz
  obtain ⟨v0, vs0, d0, ds0, p0, q0, hargs, rfl, rfl, h0, r0⟩ := trodAll_cons hA
  obtain ⟨rfl, rfl, rfl⟩ := trodAll_nil r0
  obtain rfl : args = #[v0] := by cases args; simp_all
  obtain ⟨rfl, rfl⟩ := trodVars_none hV
  have k0 := h0
  have lt0 : ∀ x ∈ p0, x.block < W.heap.size := by obtain ⟨m, hm⟩ := k0; exact DataW.trod_lt m _ _ _ hm
  obtain ⟨cs0, rfl, hz0⟩ := okWide_struct Try.underlying28 (hval 0 28 v0 rfl rfl)
  obtain ⟨x0, hK0, wf0⟩ := Opens.row (opens0 H) hsz (j := 0) (t := 28) rfl rfl h0
  obtain ⟨_, _, e0, rfl, ⟨_, _, rfl, ⟨_, _, rfl, rfl, ⟨As0, cs0s, rfl, hcs0, hrs0⟩⟩, ⟨_, _, rfl, ⟨_, _, rfl, rfl, ⟨Ar0, cr0, rfl, hcr0, hrr0⟩⟩, rfl⟩⟩⟩ := hK0
  obtain rfl : cs0 = #[.int .u32 x0.1, .bool x0.2.1.1, .slice As0 x0.2.1.2.length cs0s, .bool x0.2.2.1.1, .slice Ar0 x0.2.2.1.2.length cr0, .int .u32 x0.2.2.2] := by apply Array.toList_inj.1; simpa [Value.cells] using e0
  obtain ⟨_, ⟨_, _, y0, _⟩, ⟨_, _, z0, _⟩, _⟩ := wf0
  clear hA0 hval0 hsz0 hsz
  rw [show Try.prog.bytesOf 23 = 4 from by kernel_rfl] at y0 z0
  replace y0 : x0.2.1.2.length * 4 ≤ 140737488351232 := y0
  replace z0 : x0.2.2.1.2.length * 4 ≤ 140737488351232 := z0
  obtain ⟨k, hk⟩ := hostSays_pure x0.1 x0.2.1.1 x0.2.1.2 x0.2.2.1.1 x0.2.2.1.2 x0.2.2.2 (by omega) (by omega)
  refine (PHo.stolonlaw07_HostSays.calls k x0.1 x0.2.1.1 As0 cs0s x0.2.1.2 x0.2.2.1.1 Ar0 cr0 x0.2.2.1.2 x0.2.2.2 true W hrs0 hcs0 hrr0 hcr0 hk).mono fun e W' ⟨he, bel⟩ => ?_
  subst he
  exact ⟨_, rfl, _, _, _, [], _, [], hW', trodAll_mk1 (shut_bool Try.underlying4 _), (trodAll_cons_mk (Below.trod laidOut (by kernel_rfl) (of_decide_eq_true (by kernel_rfl)) k0 bel lt0) trodAll_mk0), rfl, bel.frame _, fun h => by cases h⟩
theorem over : Rows.hostSaysRow.holds Try.pinned (OpenSpec.ofChange Rows.hostSaysSpec) :=
  OpenClaim.holds_of_wide 3 Try.f3 rfl rfl rfl rfl rfl rfl rfl ⟨rfl, rfl, rfl, rfl, rfl⟩ rfl rfl rfl rfl rfl (by kernel_rfl) Try.func3 (by kernel_rfl)
    (of_decide_eq_true (by kernel_rfl)) (by unfold Func.isWrapper; first | (rw [if_pos (by decide +kernel)]; kernel_rfl) | (rw [if_neg (by decide +kernel)]; exact ⟨rfl, rfl⟩))
    (fun os started H enc _ => lifted os started H enc)
theorem proved : Rows.HostSaysSaid := over
#print axioms proved
end Go.Proofs.Ytjncmiclpaodhaa.hostSays
namespace Go.Proofs.Ytjncmiclpaodhaa
/-- The row, under a short name, for the claim. -/
theorem hostSays_holds : Rows.HostSaysSaid := hostSays.proved
end Go.Proofs.Ytjncmiclpaodhaa
