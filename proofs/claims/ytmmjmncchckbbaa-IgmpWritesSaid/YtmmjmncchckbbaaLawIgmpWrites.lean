/-
  The row of IgmpWrites: written by a program of this session (grow.py), after the printer's rows.
-/
import Derived.Test.YtmmjmncchckbbaaRows
import Derived.Test.YtmmjmncchckbbaaIgWw
import Derived.Test.YtmmjmncchckbbaaIgO
import Derived.WalkKit
import Derived.ProofKit
import Derived.OpenShut
import Derived.ShutString
import Derived.ChangeOld
import Derived.Below
import Derived.SizedLaws
namespace Go.Proofs.Ytmmjmncchckbbaa.igmpWrites
open Go.ChangeShapes Go.WideShapes Go.ChangeAt Go.RowKit Go.Proofs.Ytmmjmncchckbbaa Go.Proofs.YtmmjmncchckbbaaW.PrintWords
open Go.ChangeMaps (open_string shut_string)
set_option linter.unusedVariables false
theorem own : ownKnob Try.prog.godebug = none := by kernel_rfl
theorem laidOut : laidOutB Try.prog = true := by kernel_rfl
theorem opens0 (H : Type) : Opens H Try.prog 27 (Kd.pair (Kd.int .u8) (Kd.pair (Kd.int .i64) (Kd.pair (Kd.int .u8) (Kd.pair (Kd.int .u32) (Kd.pair Kd.bool (Kd.pair (Kd.int .u8) (Kd.pair (Kd.int .u8) (Kd.pair (Kd.slice 23 (Kd.int .u32)) (Kd.slice 44 PIg.k44))))))))) (fun x => (Lit.int .u8 x.1).wf = true ∧ (Lit.int .i64 x.2.1).wf = true ∧ (Lit.int .u8 x.2.2.1).wf = true ∧ (Lit.int .u32 x.2.2.2.1).wf = true ∧ True ∧ (Lit.int .u8 x.2.2.2.2.2.1).wf = true ∧ (Lit.int .u8 x.2.2.2.2.2.2.1).wf = true ∧ (x.2.2.2.2.2.2.2.1.length ≤ maxLen ∧ x.2.2.2.2.2.2.2.1.length * Try.prog.bytesOf 23 ≤ reachBytes ∧ ∀ a ∈ x.2.2.2.2.2.2.2.1, (Lit.int .u32 a).wf = true) ∧ (x.2.2.2.2.2.2.2.2.length ≤ maxLen ∧ x.2.2.2.2.2.2.2.2.length * Try.prog.bytesOf 44 ≤ reachBytes ∧ ∀ r ∈ x.2.2.2.2.2.2.2.2, (Lit.int .u8 r.f0).wf = true ∧ (Lit.int .u32 r.f1).wf = true ∧ (r.f2.length ≤ maxLen ∧ r.f2.length * Try.prog.bytesOf 23 ≤ reachBytes ∧ ∀ a ∈ r.f2, (Lit.int .u32 a).wf = true))) := opens_struct Try.underlying27 (by kernel_rfl) (opens_cons rfl (by kernel_rfl) (opens_int Try.underlying5) (opens_cons rfl (by kernel_rfl) (opens_int Try.underlying3) (opens_cons rfl (by kernel_rfl) (opens_int Try.underlying5) (opens_cons rfl (by kernel_rfl) (opens_int Try.underlying23) (opens_cons rfl (by kernel_rfl) (opens_bool Try.underlying4) (opens_cons rfl (by kernel_rfl) (opens_int Try.underlying5) (opens_cons rfl (by kernel_rfl) (opens_int Try.underlying5) (opens_cons rfl (by kernel_rfl) (opens_slice Try.underlying24 (by kernel_rfl) (opens_int Try.underlying23)) (opens_last rfl (by kernel_rfl) (opens_slice Try.underlying25 (by kernel_rfl) (opens_iso (fun x => ⟨x.1, x.2.1, x.2.2⟩) (fun _ => rfl) (opens_struct Try.underlying44 (by kernel_rfl) (opens_cons rfl (by kernel_rfl) (opens_int Try.underlying5) (opens_cons rfl (by kernel_rfl) (opens_int Try.underlying23) (opens_last rfl (by kernel_rfl) (opens_slice Try.underlying24 (by kernel_rfl) (opens_int Try.underlying23)))))))))))))))))
theorem opens1 (H : Type) : Opens H Try.prog 27 (Kd.pair (Kd.int .u8) (Kd.pair (Kd.int .i64) (Kd.pair (Kd.int .u8) (Kd.pair (Kd.int .u32) (Kd.pair Kd.bool (Kd.pair (Kd.int .u8) (Kd.pair (Kd.int .u8) (Kd.pair (Kd.slice 23 (Kd.int .u32)) (Kd.slice 44 PIg.k44))))))))) (fun x => (Lit.int .u8 x.1).wf = true ∧ (Lit.int .i64 x.2.1).wf = true ∧ (Lit.int .u8 x.2.2.1).wf = true ∧ (Lit.int .u32 x.2.2.2.1).wf = true ∧ True ∧ (Lit.int .u8 x.2.2.2.2.2.1).wf = true ∧ (Lit.int .u8 x.2.2.2.2.2.2.1).wf = true ∧ (x.2.2.2.2.2.2.2.1.length ≤ maxLen ∧ x.2.2.2.2.2.2.2.1.length * Try.prog.bytesOf 23 ≤ reachBytes ∧ ∀ a ∈ x.2.2.2.2.2.2.2.1, (Lit.int .u32 a).wf = true) ∧ (x.2.2.2.2.2.2.2.2.length ≤ maxLen ∧ x.2.2.2.2.2.2.2.2.length * Try.prog.bytesOf 44 ≤ reachBytes ∧ ∀ r ∈ x.2.2.2.2.2.2.2.2, (Lit.int .u8 r.f0).wf = true ∧ (Lit.int .u32 r.f1).wf = true ∧ (r.f2.length ≤ maxLen ∧ r.f2.length * Try.prog.bytesOf 23 ≤ reachBytes ∧ ∀ a ∈ r.f2, (Lit.int .u32 a).wf = true))) := opens_struct Try.underlying27 (by kernel_rfl) (opens_cons rfl (by kernel_rfl) (opens_int Try.underlying5) (opens_cons rfl (by kernel_rfl) (opens_int Try.underlying3) (opens_cons rfl (by kernel_rfl) (opens_int Try.underlying5) (opens_cons rfl (by kernel_rfl) (opens_int Try.underlying23) (opens_cons rfl (by kernel_rfl) (opens_bool Try.underlying4) (opens_cons rfl (by kernel_rfl) (opens_int Try.underlying5) (opens_cons rfl (by kernel_rfl) (opens_int Try.underlying5) (opens_cons rfl (by kernel_rfl) (opens_slice Try.underlying24 (by kernel_rfl) (opens_int Try.underlying23)) (opens_last rfl (by kernel_rfl) (opens_slice Try.underlying25 (by kernel_rfl) (opens_iso (fun x => ⟨x.1, x.2.1, x.2.2⟩) (fun _ => rfl) (opens_struct Try.underlying44 (by kernel_rfl) (opens_cons rfl (by kernel_rfl) (opens_int Try.underlying5) (opens_cons rfl (by kernel_rfl) (opens_int Try.underlying23) (opens_last rfl (by kernel_rfl) (opens_slice Try.underlying24 (by kernel_rfl) (opens_int Try.underlying23)))))))))))))))))
set_option maxHeartbeats 4000000 in
set_option maxRecDepth 100000 in
theorem lifted (os : Os) (started : os.Started) (H : Type) (enc : TypeId × Value → H) :
    ReturnsInHanded {} Try.checked os 3 .any (Rows.igmpWritesSpec.pre6 enc Try.prog Try.f3 Rows.igmpWritesRow.domain false) (Rows.igmpWritesSpec.post enc Try.prog Try.f3 false true false false) := by
  refine returnsInHanded_of_change_sized (C := Try.checked) own started (by kernel_rfl) Try.func3
    (ChangeSpec.witness6 (enc := enc) (C := Try.checked) false ⟨#[], #[.agg #[.int .u8 0, .int .i64 0, .int .u8 0, .int .u32 0, .bool false, .int .u8 0, .int .u8 0, .slice none 0 0, .slice none 0 0], .agg #[.int .u8 0, .int .i64 0, .int .u8 0, .int .u32 0, .bool false, .int .u8 0, .int .u8 0, .slice none 0 0, .slice none 0 0]], []⟩ 8 (by kernel_rfl) (by kernel_rfl) (by kernel_rfl) (by kernel_rfl)) ?_
  intro W base args ds gs before hval0 hW hcnd hsz0 _
  have hsz : (DataW.weightsEach Try.prog (Try.f3.params.toList ++ Rows.igmpWritesSpec.plain.varTypes Try.prog) (ds ++ gs)).all (· ≤ reachBytes) = true := hsz0
  have hval : ∀ (j : Nat) t v, Try.f3.params[j]? = some t → args[j]? = some v → Value.okWide Try.prog W .any base t v := hval0
  have hW' := hW
  obtain ⟨p, q, hA0, hV, rfl, hfz, hnd⟩ := hW
  have hA : DataW.TrodAll enc Try.prog W 0 (fun _ => true) true Try.f3.params.toList args.toList ds p := hA0
  rw [Try.params3] at hA hval hsz
  obtain ⟨v0, vs0, d0, ds0, p0, q0, hargs, rfl, rfl, h0, r0⟩ := trodAll_cons hA
  obtain ⟨v1, vs1, d1, ds1, p1, q1, rfl, rfl, rfl, h1, r1⟩ := trodAll_cons r0
  obtain ⟨rfl, rfl, rfl⟩ := trodAll_nil r1
  obtain rfl : args = #[v0, v1] := by cases args; simp_all
  obtain ⟨rfl, rfl⟩ := trodVars_none hV
  have k0 := h0
  have lt0 : ∀ x ∈ p0, x.block < W.heap.size := by obtain ⟨m, hm⟩ := k0; exact DataW.trod_lt m _ _ _ hm
  obtain ⟨cs0, rfl, hz0⟩ := okWide_struct Try.underlying27 (hval 0 27 v0 rfl rfl)
  obtain ⟨x0, hK0, wf0⟩ := Opens.row (opens0 H) hsz (j := 0) (t := 27) rfl rfl h0
  obtain ⟨_, _, e0, rfl, ⟨_, _, rfl, rfl, ⟨_, _, rfl, rfl, ⟨_, _, rfl, rfl, ⟨_, _, rfl, rfl, ⟨_, _, rfl, rfl, ⟨_, _, rfl, rfl, ⟨_, _, rfl, ⟨As0, cs0s, rfl, hcs0, hrs0⟩, ⟨Ar0, cr0, rfl, hcr0, hrr0⟩⟩⟩⟩⟩⟩⟩⟩⟩ := hK0
  obtain rfl : cs0 = #[.int .u8 x0.1, .int .i64 x0.2.1, .int .u8 x0.2.2.1, .int .u32 x0.2.2.2.1, .bool x0.2.2.2.2.1, .int .u8 x0.2.2.2.2.2.1, .int .u8 x0.2.2.2.2.2.2.1, .slice As0 x0.2.2.2.2.2.2.2.1.length cs0s, .slice Ar0 x0.2.2.2.2.2.2.2.2.length cr0] := by apply Array.toList_inj.1; simpa [Value.cells] using e0
  obtain ⟨ok0, la0, lb0, lc0, _⟩ := msg_wf wf0
  have k1 := h1
  have lt1 : ∀ x ∈ p1, x.block < W.heap.size := by obtain ⟨m, hm⟩ := k1; exact DataW.trod_lt m _ _ _ hm
  obtain ⟨cs1, rfl, hz1⟩ := okWide_struct Try.underlying27 (hval 1 27 v1 rfl rfl)
  obtain ⟨x1, hK1, wf1⟩ := Opens.row (opens1 H) hsz (j := 1) (t := 27) rfl rfl h1
  obtain ⟨_, _, e1, rfl, ⟨_, _, rfl, rfl, ⟨_, _, rfl, rfl, ⟨_, _, rfl, rfl, ⟨_, _, rfl, rfl, ⟨_, _, rfl, rfl, ⟨_, _, rfl, rfl, ⟨_, _, rfl, ⟨As1, cs1s, rfl, hcs1, hrs1⟩, ⟨Ar1, cr1, rfl, hcr1, hrr1⟩⟩⟩⟩⟩⟩⟩⟩⟩ := hK1
  obtain rfl : cs1 = #[.int .u8 x1.1, .int .i64 x1.2.1, .int .u8 x1.2.2.1, .int .u32 x1.2.2.2.1, .bool x1.2.2.2.2.1, .int .u8 x1.2.2.2.2.2.1, .int .u8 x1.2.2.2.2.2.2.1, .slice As1 x1.2.2.2.2.2.2.2.1.length cs1s, .slice Ar1 x1.2.2.2.2.2.2.2.2.length cr1] := by apply Array.toList_inj.1; simpa [Value.cells] using e1
  obtain ⟨ok1, la1, lb1, lc1, _⟩ := msg_wf wf1
  clear hA0 hval0 hsz0 hsz
  refine (igmpWrites_call ok0 la0 lb0 lc0 la1 lb1 lc1 As0 cs0s Ar0 cr0 W hrs0 hcs0 hrr0 hcr0 As1 cs1s Ar1 cr1 hrs1 hcs1 hrr1 hcr1).mono fun e W' ⟨he, bel⟩ => ?_
  subst he
  exact ⟨_, rfl, _, _, _, [], _, [], hW', trodAll_mk1 (shut_bool Try.underlying4 _), (trodAll_cons_mk (Below.trod laidOut (by kernel_rfl) (of_decide_eq_true (by kernel_rfl)) k0 bel lt0) (trodAll_cons_mk (Below.trod laidOut (by kernel_rfl) (of_decide_eq_true (by kernel_rfl)) k1 bel lt1) trodAll_mk0)), rfl, bel.frame _, fun h => by cases h⟩
theorem over : Rows.igmpWritesRow.holds Try.pinned (OpenSpec.ofChange Rows.igmpWritesSpec) :=
  OpenClaim.holds_of_wide 3 Try.f3 rfl rfl rfl rfl rfl rfl rfl ⟨rfl, rfl, rfl, rfl, rfl⟩ rfl rfl rfl rfl rfl (by kernel_rfl) Try.func3 (by kernel_rfl)
    (of_decide_eq_true (by kernel_rfl)) (by unfold Func.isWrapper; first | (rw [if_pos (by decide +kernel)]; kernel_rfl) | (rw [if_neg (by decide +kernel)]; exact ⟨rfl, rfl⟩))
    (fun os started H enc _ => lifted os started H enc)
theorem proved : Rows.IgmpWritesSaid := over
#print axioms proved
end Go.Proofs.Ytmmjmncchckbbaa.igmpWrites
namespace Go.Proofs.Ytmmjmncchckbbaa
/-- The row, under a short name, for the claim. -/
theorem igmpWrites_holds : Rows.IgmpWritesSaid := igmpWrites.proved
end Go.Proofs.Ytmmjmncchckbbaa
