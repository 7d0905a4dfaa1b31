/-
  The row of SetMore: written by a program of this session (grow.py), after the printer's rows.
-/
import Derived.Test.YtkhljamellgcfaaRows
import Derived.Test.YtkhljamellgcfaaSetY
import Derived.WalkKit
import Derived.ProofKit
import Derived.OpenShut
import Derived.ShutString
import Derived.ChangeOld
import Derived.Below
import Derived.SizedLaws
import Derived.Test.YtkhljamellgcfaaOpens
namespace Go.Proofs.Ytkhljamellgcfaa.setMore
open Go.ChangeShapes Go.WideShapes Go.ChangeAt Go.RowKit Go.Proofs.Ytkhljamellgcfaa Go.Proofs.YtkhljamellgcfaaW.PrintWords
open Go.ChangeMaps (open_string shut_string)
set_option linter.unusedVariables false
theorem own : ownKnob Try.prog.godebug = none := by kernel_rfl
theorem laidOut : laidOutB Try.prog = true := by kernel_rfl
theorem opens0 (H : Type) : Opens H Try.prog 22 (Kd.slice 29 PSet.k29) (fun xs => xs.length ≤ maxLen ∧ xs.length * Try.prog.bytesOf 29 ≤ reachBytes ∧ ∀ f ∈ xs, True ∧ (f.f1.length ≤ maxLen ∧ f.f1.length * Try.prog.bytesOf 24 ≤ reachBytes ∧ ∀ a ∈ f.f1, (Lit.int .u32 a).wf = true)) := opens_slice Try.underlying22 (by kernel_rfl) (opens_iso (fun x => ⟨x.1, x.2⟩) (fun _ => rfl) (opens_struct Try.underlying29 (by kernel_rfl) (opens_cons rfl (by kernel_rfl) (opens_bool Try.underlying4) (opens_last rfl (by kernel_rfl) (opens_slice Try.underlying27 (by kernel_rfl) (opens_int Try.underlying24))))))
theorem opens1 (H : Type) : Opens H Try.prog 29 (Kd.pair Kd.bool (Kd.slice 24 (Kd.int .u32))) (fun x => True ∧ (x.2.length ≤ maxLen ∧ x.2.length * Try.prog.bytesOf 24 ≤ reachBytes ∧ ∀ a ∈ x.2, (Lit.int .u32 a).wf = true)) := opens_struct Try.underlying29 (by kernel_rfl) (opens_cons rfl (by kernel_rfl) (opens_bool Try.underlying4) (opens_last rfl (by kernel_rfl) (opens_slice Try.underlying27 (by kernel_rfl) (opens_int Try.underlying24))))
set_option maxHeartbeats 4000000 in
set_option maxRecDepth 100000 in
theorem lifted (os : Os) (started : os.Started) (H : Type) (enc : TypeId × Value → H) :
    ReturnsInHanded {} Try.checked os 7 .any (Rows.setMoreSpec.pre6 enc Try.prog Try.f7 Rows.setMoreRow.domain false) (Rows.setMoreSpec.post enc Try.prog Try.f7 false true false false) := by
  refine returnsInHanded_of_change_sized (C := Try.checked) own started (by kernel_rfl) Try.func7
    (ChangeSpec.witness6 (enc := enc) (C := Try.checked) false ⟨#[], #[.slice none 0 0, .agg #[.bool false, .slice none 0 0], .int .u32 0], []⟩ 8 (by kernel_rfl) (by kernel_rfl) (by kernel_rfl) (by kernel_rfl)) ?_
  intro W base args ds gs before hval0 hW hcnd hsz0 _
  have hsz : (DataW.weightsEach Try.prog (Try.f7.params.toList ++ Rows.setMoreSpec.plain.varTypes Try.prog) (ds ++ gs)).all (· ≤ reachBytes) = true := hsz0
  have hval : ∀ (j : Nat) t v, Try.f7.params[j]? = some t → args[j]? = some v → Value.okWide Try.prog W .any base t v := hval0
  have hW' := hW
  obtain ⟨p, q, hA0, hV, rfl, hfz, hnd⟩ := hW
  have hA : DataW.TrodAll enc Try.prog W 0 (fun _ => true) true Try.f7.params.toList args.toList ds p := hA0
  rw [Try.params7] at hA hval hsz
  obtain ⟨v0, vs0, d0, ds0, p0, q0, hargs, rfl, rfl, h0, r0⟩ := trodAll_cons hA
  obtain ⟨v1, vs1, d1, ds1, p1, q1, rfl, rfl, rfl, h1, r1⟩ := trodAll_cons r0
  obtain ⟨v2, vs2, d2, ds2, p2, q2, rfl, rfl, rfl, h2, r2⟩ := trodAll_cons r1
  obtain ⟨rfl, rfl, rfl⟩ := trodAll_nil r2
  obtain rfl : args = #[v0, v1, v2] := by cases args; simp_all
  obtain ⟨rfl, rfl⟩ := trodVars_none hV
  have k0 := h0
  have lt0 : ∀ x ∈ p0, x.block < W.heap.size := by obtain ⟨m, hm⟩ := k0; exact DataW.trod_lt m _ _ _ hm
  obtain ⟨a0, len0, cap0, rfl⟩ := okWide_slice Try.underlying22 (hval 0 22 v0 rfl rfl)
  obtain ⟨x0, hK0, wf0⟩ := Opens.row (opens0 H) hsz (j := 0) (t := 22) rfl rfl h0
  obtain ⟨A0, c0, e0, hc0, hr0⟩ := hK0
  simp [Value.cells] at e0
  obtain ⟨rfl, rfl, rfl⟩ := e0
  obtain ⟨_, y0, z0⟩ := wf0
  have k1 := h1
  have lt1 : ∀ x ∈ p1, x.block < W.heap.size := by obtain ⟨m, hm⟩ := k1; exact DataW.trod_lt m _ _ _ hm
  obtain ⟨cs1, rfl, hz1⟩ := okWide_struct Try.underlying29 (hval 1 29 v1 rfl rfl)
  obtain ⟨x1, hK1, wf1⟩ := Opens.row (opens1 H) hsz (j := 1) (t := 29) rfl rfl h1
  obtain ⟨_, _, e1, rfl, ⟨A1, c1, rfl, hc1, hr1⟩⟩ := hK1
  obtain rfl : cs1 = #[.bool x1.1, .slice A1 x1.2.length c1] := by apply Array.toList_inj.1; simpa [Value.cells] using e1
  obtain ⟨_, ⟨_, y1, z1⟩⟩ := wf1
  have k2 := h2
  have lt2 : ∀ x ∈ p2, x.block < W.heap.size := by obtain ⟨m, hm⟩ := k2; exact DataW.trod_lt m _ _ _ hm
  obtain ⟨a2, rfl, rfl, rfl, w2⟩ := open_int Try.underlying24 (hval 2 24 v2 rfl rfl) h2
  clear hA0 hval0 hsz0 hsz
  rw [show Try.prog.bytesOf 29 = 32 from by kernel_rfl] at y0
  replace y0 : x0.length * 32 ≤ 140737488351232 := y0
  have z0' : ∀ f ∈ x0, f.f1.length ≤ 1000000000000000 := fun f hf => by have h := (z0 f hf).2.2.1; rw [show Try.prog.bytesOf 24 = 4 from by kernel_rfl] at h; replace h : f.f1.length * 4 ≤ 140737488351232 := h; omega
  rw [show Try.prog.bytesOf 24 = 4 from by kernel_rfl] at y1
  replace y1 : x1.2.length * 4 ≤ 140737488351232 := y1
  refine (more_call x0 x1.1 x1.2 a2 (by omega) z0' (by omega) a0 cap0 A1 c1 W hr0 hc0 hr1 hc1).mono fun e W' ⟨he, bel⟩ => ?_
  subst he
  exact ⟨_, rfl, _, _, _, [], _, [], hW', trodAll_mk1 (shut_bool Try.underlying4 _), (trodAll_cons_mk (Below.trod laidOut (by kernel_rfl) (of_decide_eq_true (by kernel_rfl)) k0 bel lt0) (trodAll_cons_mk (Below.trod laidOut (by kernel_rfl) (of_decide_eq_true (by kernel_rfl)) k1 bel lt1) (trodAll_cons_mk (Below.trod laidOut (by kernel_rfl) (of_decide_eq_true (by kernel_rfl)) k2 bel lt2) trodAll_mk0))), rfl, bel.frame _, fun h => by cases h⟩
theorem over : Rows.setMoreRow.holds Try.pinned (OpenSpec.ofChange Rows.setMoreSpec) :=
  OpenClaim.holds_of_wide 7 Try.f7 rfl rfl rfl rfl rfl rfl rfl ⟨rfl, rfl, rfl, rfl, rfl⟩ rfl rfl rfl rfl rfl (by kernel_rfl) Try.func7 (by kernel_rfl)
    (of_decide_eq_true (by kernel_rfl)) (by unfold Func.isWrapper; first | (rw [if_pos (by decide +kernel)]; kernel_rfl) | (rw [if_neg (by decide +kernel)]; exact ⟨rfl, rfl⟩))
    (fun os started H enc _ => lifted os started H enc)
theorem proved : Rows.SetMoreSaid := over
#print axioms proved
end Go.Proofs.Ytkhljamellgcfaa.setMore
namespace Go.Proofs.Ytkhljamellgcfaa
/-- The row, under a short name, for the claim. -/
theorem setMore_holds : Rows.SetMoreSaid := setMore.proved
end Go.Proofs.Ytkhljamellgcfaa
