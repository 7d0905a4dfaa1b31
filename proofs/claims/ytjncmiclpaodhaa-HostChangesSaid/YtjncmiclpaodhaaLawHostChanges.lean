/-
  The row of HostChanges: written by a program of this session (grow.py), after the printer's rows.
-/
import Derived.Test.YtjncmiclpaodhaaRows
import Derived.Test.YtjncmiclpaodhaaHoHp
import Derived.WalkKit
import Derived.ProofKit
import Derived.OpenShut
import Derived.ShutString
import Derived.ChangeOld
import Derived.Below
import Derived.SizedLaws
import Derived.Test.YtjncmiclpaodhaaOpens
namespace Go.Proofs.Ytjncmiclpaodhaa.hostChanges
open Go.ChangeShapes Go.WideShapes Go.ChangeAt Go.RowKit Go.Proofs.Ytjncmiclpaodhaa Go.Proofs.YtjncmiclpaodhaaW.PrintWords
open Go.ChangeMaps (open_string shut_string)
set_option linter.unusedVariables false
theorem own : ownKnob Try.prog.godebug = none := by kernel_rfl
theorem laidOut : laidOutB Try.prog = true := by kernel_rfl
theorem opens0 (H : Type) : Opens H Try.prog 52 (Kd.pair (Kd.slice 42 PHo.k42) (Kd.pair (Kd.pair (Kd.int .i64) (Kd.pair (Kd.int .u32) (Kd.pair Kd.bool (Kd.slice 23 (Kd.int .u32))))) (Kd.pair (Kd.int .i64) (Kd.pair Kd.bool (Kd.slice 23 (Kd.int .u32)))))) (fun x => (x.1.length ≤ maxLen ∧ x.1.length * Try.prog.bytesOf 42 ≤ reachBytes ∧ ∀ s ∈ x.1, (Lit.int .i64 s.f0).wf = true ∧ (Lit.int .u32 s.f1).wf = true ∧ (True ∧ (s.f2.f1.length ≤ maxLen ∧ s.f2.f1.length * Try.prog.bytesOf 23 ≤ reachBytes ∧ ∀ a ∈ s.f2.f1, (Lit.int .u32 a).wf = true))) ∧ ((Lit.int .i64 x.2.1.1).wf = true ∧ (Lit.int .u32 x.2.1.2.1).wf = true ∧ (True ∧ (x.2.1.2.2.2.length ≤ maxLen ∧ x.2.1.2.2.2.length * Try.prog.bytesOf 23 ≤ reachBytes ∧ ∀ a ∈ x.2.1.2.2.2, (Lit.int .u32 a).wf = true))) ∧ (Lit.int .i64 x.2.2.1).wf = true ∧ (True ∧ (x.2.2.2.2.length ≤ maxLen ∧ x.2.2.2.2.length * Try.prog.bytesOf 23 ≤ reachBytes ∧ ∀ a ∈ x.2.2.2.2, (Lit.int .u32 a).wf = true))) := opens_struct Try.underlying52 (by kernel_rfl) (opens_cons rfl (by kernel_rfl) (opens_struct Try.underlying40 (by kernel_rfl) (opens_last rfl (by kernel_rfl) (opens_slice Try.underlying38 (by kernel_rfl) (opens_iso (fun x => ⟨x.1, x.2.1, x.2.2⟩) (fun _ => rfl) (opens_struct Try.underlying42 (by kernel_rfl) (opens_cons rfl (by kernel_rfl) (opens_int Try.underlying3) (opens_cons rfl (by kernel_rfl) (opens_int Try.underlying23) (opens_last rfl (by kernel_rfl) (opens_iso (fun x => ⟨x.1, x.2⟩) (fun _ => rfl) (opens_struct Try.underlying26 (by kernel_rfl) (opens_cons rfl (by kernel_rfl) (opens_bool Try.underlying4) (opens_last rfl (by kernel_rfl) (opens_slice Try.underlying24 (by kernel_rfl) (opens_int Try.underlying23)))))))))))))) (opens_cons rfl (by kernel_rfl) (opens_struct Try.underlying42 (by kernel_rfl) (opens_cons rfl (by kernel_rfl) (opens_int Try.underlying3) (opens_cons rfl (by kernel_rfl) (opens_int Try.underlying23) (opens_last rfl (by kernel_rfl) (opens_struct Try.underlying26 (by kernel_rfl) (opens_cons rfl (by kernel_rfl) (opens_bool Try.underlying4) (opens_last rfl (by kernel_rfl) (opens_slice Try.underlying24 (by kernel_rfl) (opens_int Try.underlying23))))))))) (opens_cons rfl (by kernel_rfl) (opens_int Try.underlying3) (opens_last rfl (by kernel_rfl) (opens_struct Try.underlying26 (by kernel_rfl) (opens_cons rfl (by kernel_rfl) (opens_bool Try.underlying4) (opens_last rfl (by kernel_rfl) (opens_slice Try.underlying24 (by kernel_rfl) (opens_int Try.underlying23)))))))))
set_option maxHeartbeats 4000000 in
set_option maxRecDepth 100000 in
theorem lifted (os : Os) (started : os.Started) (H : Type) (enc : TypeId × Value → H) :
    ReturnsInHanded {} Try.checked os 5 .any (Rows.hostChangesSpec.pre6 enc Try.prog Try.f5 Rows.hostChangesRow.domain false) (Rows.hostChangesSpec.post enc Try.prog Try.f5 false true false false) := by
  refine returnsInHanded_of_change_sized (C := Try.checked) own started (by kernel_rfl) Try.func5
    (ChangeSpec.witness6 (enc := enc) (C := Try.checked) false ⟨#[], #[.agg #[.slice none 0 0, .int .i64 0, .int .u32 0, .bool false, .slice none 0 0, .int .i64 0, .bool false, .slice none 0 0]], []⟩ 8 (by kernel_rfl) (by kernel_rfl) (by kernel_rfl) (by kernel_rfl)) ?_
  intro W base args ds gs before hval0 hW hcnd hsz0 _
  have hsz : (DataW.weightsEach Try.prog (Try.f5.params.toList ++ Rows.hostChangesSpec.plain.varTypes Try.prog) (ds ++ gs)).all (· ≤ reachBytes) = true := hsz0
  have hval : ∀ (j : Nat) t v, Try.f5.params[j]? = some t → args[j]? = some v → Value.okWide Try.prog W .any base t v := hval0
  have hW' := hW
  obtain ⟨p, q, hA0, hV, rfl, hfz, hnd⟩ := hW
  have hA : DataW.TrodAll enc Try.prog W 0 (fun _ => true) true Try.f5.params.toList args.toList ds p := hA0
  rw [Try.params5] at hA hval hsz
  obtain ⟨v0, vs0, d0, ds0, p0, q0, hargs, rfl, rfl, h0, r0⟩ := trodAll_cons hA
  obtain ⟨rfl, rfl, rfl⟩ := trodAll_nil r0
  obtain rfl : args = #[v0] := by cases args; simp_all
  obtain ⟨rfl, rfl⟩ := trodVars_none hV
  have k0 := h0
  have lt0 : ∀ x ∈ p0, x.block < W.heap.size := by obtain ⟨m, hm⟩ := k0; exact DataW.trod_lt m _ _ _ hm
  obtain ⟨cs0, rfl, hz0⟩ := okWide_struct Try.underlying52 (hval 0 52 v0 rfl rfl)
  obtain ⟨x0, hK0, wf0⟩ := Opens.row (opens0 H) hsz (j := 0) (t := 52) rfl rfl h0
  obtain ⟨_, _, e0, ⟨A0, c0, rfl, hc0, hr0⟩, ⟨_, _, rfl, ⟨_, _, rfl, rfl, ⟨_, _, rfl, rfl, ⟨_, _, rfl, rfl, ⟨B0, b0, rfl, hb0, hs0⟩⟩⟩⟩, ⟨_, _, rfl, rfl, ⟨_, _, rfl, rfl, ⟨C0, f0, rfl, hf0, ht0⟩⟩⟩⟩⟩ := hK0
  obtain rfl : cs0 = #[.slice A0 x0.1.length c0, .int .i64 x0.2.1.1, .int .u32 x0.2.1.2.1, .bool x0.2.1.2.2.1, .slice B0 x0.2.1.2.2.2.length b0, .int .i64 x0.2.2.1, .bool x0.2.2.2.1, .slice C0 x0.2.2.2.2.length f0] := by apply Array.toList_inj.1; simpa [Value.cells] using e0
  obtain ⟨⟨_, y0, z0⟩, ⟨_, _, _, _, u0, _⟩, _, ⟨_, _, t0, _⟩⟩ := wf0
  clear hA0 hval0 hsz0 hsz
  rw [show Try.prog.bytesOf 42 = 48 from by kernel_rfl] at y0
  replace y0 : x0.1.length * 48 ≤ 140737488351232 := y0
  have z0' : ∀ s ∈ x0.1, s.f2.f1.length ≤ 140737488351232 := fun s hs => by have h := (z0 s hs).2.2.2.2.1; rw [show Try.prog.bytesOf 23 = 4 from by kernel_rfl] at h; replace h : s.f2.f1.length * 4 ≤ 140737488351232 := h; omega
  rw [show Try.prog.bytesOf 23 = 4 from by kernel_rfl] at u0 t0
  replace u0 : x0.2.1.2.2.2.length * 4 ≤ 140737488351232 := u0
  replace t0 : x0.2.2.2.2.length * 4 ≤ 140737488351232 := t0
  refine (hostChanges_call (by omega) z0' ⟨x0.2.1.1, x0.2.1.2.1, ⟨x0.2.1.2.2.1, x0.2.1.2.2.2⟩⟩ x0.2.2.2.2 (show x0.2.1.2.2.2.length ≤ _ by omega) (by omega) A0 c0 B0 b0 x0.2.2.1 x0.2.2.2.1 C0 f0 W hr0 hc0 hs0 hb0 ht0 hf0).mono fun e W' ⟨he, bel⟩ => ?_
  subst he
  exact ⟨_, rfl, _, _, _, [], _, [], hW', trodAll_mk1 (shut_bool Try.underlying4 _), (trodAll_cons_mk (Below.trod laidOut (by kernel_rfl) (of_decide_eq_true (by kernel_rfl)) k0 bel lt0) trodAll_mk0), rfl, bel.frame _, fun h => by cases h⟩
theorem over : Rows.hostChangesRow.holds Try.pinned (OpenSpec.ofChange Rows.hostChangesSpec) :=
  OpenClaim.holds_of_wide 5 Try.f5 rfl rfl rfl rfl rfl rfl rfl ⟨rfl, rfl, rfl, rfl, rfl⟩ rfl rfl rfl rfl rfl (by kernel_rfl) Try.func5 (by kernel_rfl)
    (of_decide_eq_true (by kernel_rfl)) (by unfold Func.isWrapper; first | (rw [if_pos (by decide +kernel)]; kernel_rfl) | (rw [if_neg (by decide +kernel)]; exact ⟨rfl, rfl⟩))
    (fun os started H enc _ => lifted os started H enc)
theorem proved : Rows.HostChangesSaid := over
#print axioms proved
end Go.Proofs.Ytjncmiclpaodhaa.hostChanges
namespace Go.Proofs.Ytjncmiclpaodhaa
/-- The row, under a short name, for the claim. -/
theorem hostChanges_holds : Rows.HostChangesSaid := hostChanges.proved
end Go.Proofs.Ytjncmiclpaodhaa
