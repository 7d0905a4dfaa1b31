/-
  The row of HostStays: written by a program of this session (grow.py), after the printer's rows.
-/
import Derived.Test.YtjncmiclpaodhaaRows
import Derived.Test.YtjncmiclpaodhaaOpens
import Derived.WalkKit
import Derived.ProofKit
import Derived.OpenShut
import Derived.ShutString
import Derived.ChangeOld
import Derived.Below
import Derived.SizedLaws
namespace Go.Proofs.Ytjncmiclpaodhaa.hostStays
open Go.ChangeShapes Go.WideShapes Go.ChangeAt Go.RowKit Go.Proofs.Ytjncmiclpaodhaa Go.Proofs.YtjncmiclpaodhaaW.PrintWords
open Go.ChangeMaps (open_string shut_string)
set_option linter.unusedVariables false
theorem own : ownKnob Try.prog.godebug = none := by kernel_rfl
theorem laidOut : laidOutB Try.prog = true := by kernel_rfl
theorem opens0 (H : Type) : Opens H Try.prog 40 (Kd.slice 42 PHo.k42) (fun xs => xs.length ≤ maxLen ∧ xs.length * Try.prog.bytesOf 42 ≤ reachBytes ∧ ∀ s ∈ xs, (Lit.int .i64 s.f0).wf = true ∧ (Lit.int .u32 s.f1).wf = true ∧ (True ∧ (s.f2.f1.length ≤ maxLen ∧ s.f2.f1.length * Try.prog.bytesOf 23 ≤ reachBytes ∧ ∀ a ∈ s.f2.f1, (Lit.int .u32 a).wf = true))) := opens_struct Try.underlying40 (by kernel_rfl) (opens_last rfl (by kernel_rfl) (opens_slice Try.underlying38 (by kernel_rfl) (opens_iso (fun x => ⟨x.1, x.2.1, x.2.2⟩) (fun _ => rfl) (opens_struct Try.underlying42 (by kernel_rfl) (opens_cons rfl (by kernel_rfl) (opens_int Try.underlying3) (opens_cons rfl (by kernel_rfl) (opens_int Try.underlying23) (opens_last rfl (by kernel_rfl) (opens_iso (fun x => ⟨x.1, x.2⟩) (fun _ => rfl) (opens_struct Try.underlying26 (by kernel_rfl) (opens_cons rfl (by kernel_rfl) (opens_bool Try.underlying4) (opens_last rfl (by kernel_rfl) (opens_slice Try.underlying24 (by kernel_rfl) (opens_int Try.underlying23)))))))))))))
theorem opens1 (H : Type) : Opens H Try.prog 42 (Kd.pair (Kd.int .i64) (Kd.pair (Kd.int .u32) (Kd.pair Kd.bool (Kd.slice 23 (Kd.int .u32))))) (fun x => (Lit.int .i64 x.1).wf = true ∧ (Lit.int .u32 x.2.1).wf = true ∧ (True ∧ (x.2.2.2.length ≤ maxLen ∧ x.2.2.2.length * Try.prog.bytesOf 23 ≤ reachBytes ∧ ∀ a ∈ x.2.2.2, (Lit.int .u32 a).wf = true))) := opens_struct Try.underlying42 (by kernel_rfl) (opens_cons rfl (by kernel_rfl) (opens_int Try.underlying3) (opens_cons rfl (by kernel_rfl) (opens_int Try.underlying23) (opens_last rfl (by kernel_rfl) (opens_struct Try.underlying26 (by kernel_rfl) (opens_cons rfl (by kernel_rfl) (opens_bool Try.underlying4) (opens_last rfl (by kernel_rfl) (opens_slice Try.underlying24 (by kernel_rfl) (opens_int Try.underlying23))))))))
set_option maxHeartbeats 4000000 in
set_option maxRecDepth 100000 in
theorem lifted (os : Os) (started : os.Started) (H : Type) (enc : TypeId × Value → H) :
    ReturnsInHanded {} Try.checked os 6 .any (Rows.hostStaysSpec.pre6 enc Try.prog Try.f6 Rows.hostStaysRow.domain false) (Rows.hostStaysSpec.post enc Try.prog Try.f6 false true false false) := by
  refine returnsInHanded_of_change_sized (C := Try.checked) own started (by kernel_rfl) Try.func6
    (ChangeSpec.witness6 (enc := enc) (C := Try.checked) false ⟨#[], #[.agg #[.slice none 0 0], .agg #[.int .i64 0, .int .u32 0, .bool false, .slice none 0 0]], []⟩ 8 (by kernel_rfl) (by kernel_rfl) (by kernel_rfl) (by kernel_rfl)) ?_
  intro W base args ds gs before hval0 hW hcnd hsz0 _
  have hsz : (DataW.weightsEach Try.prog (Try.f6.params.toList ++ Rows.hostStaysSpec.plain.varTypes Try.prog) (ds ++ gs)).all (· ≤ reachBytes) = true := hsz0
  have hval : ∀ (j : Nat) t v, Try.f6.params[j]? = some t → args[j]? = some v → Value.okWide Try.prog W .any base t v := hval0
  have hW' := hW
  obtain ⟨p, q, hA0, hV, rfl, hfz, hnd⟩ := hW
  have hA : DataW.TrodAll enc Try.prog W 0 (fun _ => true) true Try.f6.params.toList args.toList ds p := hA0
  rw [Try.params6] at hA hval hsz
  obtain ⟨v0, vs0, d0, ds0, p0, q0, hargs, rfl, rfl, h0, r0⟩ := trodAll_cons hA
  obtain ⟨v1, vs1, d1, ds1, p1, q1, rfl, rfl, rfl, h1, r1⟩ := trodAll_cons r0
  obtain ⟨rfl, rfl, rfl⟩ := trodAll_nil r1
  obtain rfl : args = #[v0, v1] := by cases args; simp_all
  obtain ⟨rfl, rfl⟩ := trodVars_none hV
  have k0 := h0
  have lt0 : ∀ x ∈ p0, x.block < W.heap.size := by obtain ⟨m, hm⟩ := k0; exact DataW.trod_lt m _ _ _ hm
  obtain ⟨cs0, rfl, hz0⟩ := okWide_struct Try.underlying40 (hval 0 40 v0 rfl rfl)
  obtain ⟨x0, hK0, wf0⟩ := Opens.row (opens0 H) hsz (j := 0) (t := 40) rfl rfl h0
  obtain ⟨A0, c0, e0, hc0, hr0⟩ := hK0
  obtain rfl : cs0 = #[.slice A0 x0.length c0] := by apply Array.toList_inj.1; simpa [Value.cells] using e0
  obtain ⟨_, y0, z0⟩ := wf0
  have k1 := h1
  have lt1 : ∀ x ∈ p1, x.block < W.heap.size := by obtain ⟨m, hm⟩ := k1; exact DataW.trod_lt m _ _ _ hm
  obtain ⟨cs1, rfl, hz1⟩ := okWide_struct Try.underlying42 (hval 1 42 v1 rfl rfl)
  obtain ⟨x1, hK1, wf1⟩ := Opens.row (opens1 H) hsz (j := 1) (t := 42) rfl rfl h1
  obtain ⟨_, _, e1, rfl, ⟨_, _, rfl, rfl, ⟨_, _, rfl, rfl, ⟨A1, c1, rfl, hc1, hr1⟩⟩⟩⟩ := hK1
  obtain rfl : cs1 = #[.int .i64 x1.1, .int .u32 x1.2.1, .bool x1.2.2.1, .slice A1 x1.2.2.2.length c1] := by apply Array.toList_inj.1; simpa [Value.cells] using e1
  obtain ⟨_, _, _, _, y1, z1⟩ := wf1
  clear hA0 hval0 hsz0 hsz
  rw [show Try.prog.bytesOf 42 = 48 from by kernel_rfl] at y0
  replace y0 : x0.length * 48 ≤ 140737488351232 := y0
  have z0' : ∀ s ∈ x0, s.f2.f1.length ≤ 140737488351232 := fun s hs => by have h := (z0 s hs).2.2.2.2.1; rw [show Try.prog.bytesOf 23 = 4 from by kernel_rfl] at h; replace h : s.f2.f1.length * 4 ≤ 140737488351232 := h; omega
  refine (hostStays_call (by omega) z0' ⟨x1.1, x1.2.1, ⟨x1.2.2.1, x1.2.2.2⟩⟩ A0 c0 A1 c1 W hr0 hc0 hr1 hc1).mono fun e W' ⟨he, bel⟩ => ?_
  subst he
  exact ⟨_, rfl, _, _, _, [], _, [], hW', trodAll_mk1 (shut_bool Try.underlying4 _), (trodAll_cons_mk (Below.trod laidOut (by kernel_rfl) (of_decide_eq_true (by kernel_rfl)) k0 bel lt0) (trodAll_cons_mk (Below.trod laidOut (by kernel_rfl) (of_decide_eq_true (by kernel_rfl)) k1 bel lt1) trodAll_mk0)), rfl, bel.frame _, fun h => by cases h⟩
theorem over : Rows.hostStaysRow.holds Try.pinned (OpenSpec.ofChange Rows.hostStaysSpec) :=
  OpenClaim.holds_of_wide 6 Try.f6 rfl rfl rfl rfl rfl rfl rfl ⟨rfl, rfl, rfl, rfl, rfl⟩ rfl rfl rfl rfl rfl (by kernel_rfl) Try.func6 (by kernel_rfl)
    (of_decide_eq_true (by kernel_rfl)) (by unfold Func.isWrapper; first | (rw [if_pos (by decide +kernel)]; kernel_rfl) | (rw [if_neg (by decide +kernel)]; exact ⟨rfl, rfl⟩))
    (fun os started H enc _ => lifted os started H enc)
theorem proved : Rows.HostStaysSaid := over
#print axioms proved
end Go.Proofs.Ytjncmiclpaodhaa.hostStays
namespace Go.Proofs.Ytjncmiclpaodhaa
/-- The row, under a short name, for the claim. -/
theorem hostStays_holds : Rows.HostStaysSaid := hostStays.proved
end Go.Proofs.Ytjncmiclpaodhaa
