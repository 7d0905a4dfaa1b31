/-
  The row of MembHears: written by a program of this session (grow.py), after the printer's rows.
-/
import Derived.Test.YtbllchfgjginoaaRows
import Derived.Test.YtbllchfgjginoaaMeUh
import Derived.Test.YtbllchfgjginoaaMeOp
import Derived.WalkKit
import Derived.ProofKit
import Derived.OpenShut
import Derived.ShutString
import Derived.ChangeOld
import Derived.Below
import Derived.SizedLaws
namespace Go.Proofs.Ytbllchfgjginoaa.membHears
open Go.ChangeShapes Go.WideShapes Go.ChangeAt Go.RowKit Go.Proofs.Ytbllchfgjginoaa Go.Proofs.YtbllchfgjginoaaW.PrintWords
open Go.ChangeMaps (open_string shut_string)
set_option linter.unusedVariables false
theorem own : ownKnob Try.prog.godebug = none := by kernel_rfl
theorem laidOut : laidOutB Try.prog = true := by kernel_rfl
open Go.Proofs.Ytbllchfgjginoaa.PMe
theorem opens0 (H : Type) : Opens H Try.prog 31 (Kd.pair k23 (Kd.pair k28 (Kd.pair (Kd.int .u8) (Kd.slice 25 (Kd.int .u32))))) (fun _ => True) := opens_mono (opens_struct Try.underlying31 (by kernel_rfl) (opens_cons rfl (by kernel_rfl) (o23 H) (opens_cons rfl (by kernel_rfl) (o28 H) (opens_cons rfl (by kernel_rfl) (opens_int Try.underlying5) (opens_last rfl (by kernel_rfl) (o29 H)))))) (fun _ _ => trivial)
set_option maxHeartbeats 4000000 in
set_option maxRecDepth 100000 in
theorem lifted (os : Os) (started : os.Started) (H : Type) (enc : TypeId × Value → H) :
    ReturnsInHanded {} Try.checked os 3 .any (Rows.membHearsSpec.pre6 enc Try.prog Try.f3 Rows.membHearsRow.domain false) (Rows.membHearsSpec.post enc Try.prog Try.f3 false true false false) := by
  refine returnsInHanded_of_change_sized (C := Try.checked) own started (by kernel_rfl) Try.func3
    (ChangeSpec.witness6 (enc := enc) (C := Try.checked) false ⟨#[], #[.agg #[.int .i64 0, .int .i64 0, .int .u32 0, .bool false, .int .i64 0, .slice none 0 0, .int .u8 0, .slice none 0 0]], []⟩ 8 (by kernel_rfl) (by kernel_rfl) (by kernel_rfl) (by kernel_rfl)) ?_
  intro W base args ds gs before hval0 hW hcnd hsz0 _
  have hsz : (DataW.weightsEach Try.prog (Try.f3.params.toList ++ Rows.membHearsSpec.plain.varTypes Try.prog) (ds ++ gs)).all (· ≤ reachBytes) = true := hsz0
  have hval : ∀ (j : Nat) t v, Try.f3.params[j]? = some t → args[j]? = some v → Value.okWide Try.prog W .any base t v := hval0
  have hW' := hW
  obtain ⟨p, q, hA0, hV, rfl, hfz, hnd⟩ := hW
  have hA : DataW.TrodAll enc Try.prog W 0 (fun _ => true) true Try.f3.params.toList args.toList ds p := hA0
  rw [Try.params3] at hA hval hsz
  obtain ⟨v0, vs0, d0, ds0, p0, q0, hargs, rfl, rfl, h0, r0⟩ := trodAll_cons hA
  obtain ⟨rfl, rfl, rfl⟩ := trodAll_nil r0
  obtain rfl : args = #[v0] := by cases args; simp_all
  obtain ⟨rfl, rfl⟩ := trodVars_none hV
  have k0 := h0
  have lt0 : ∀ x ∈ p0, x.block < W.heap.size := by obtain ⟨m, hm⟩ := k0; exact DataW.trod_lt m _ _ _ hm
  obtain ⟨cs0, rfl, hz0⟩ := okWide_struct Try.underlying31 (hval 0 31 v0 rfl rfl)
  obtain ⟨x0, hK0, wf0⟩ := Opens.row (opens0 H) hsz (j := 0) (t := 31) rfl rfl h0
  obtain ⟨_, _, e0, ⟨_, _, rfl, rfl, rfl⟩, ⟨_, _, rfl, ⟨_, _, rfl, rfl, ⟨_, _, rfl, rfl, ⟨_, _, rfl, rfl, ⟨A0, c0, rfl, hc0, hr0⟩⟩⟩⟩, ⟨_, _, rfl, rfl, ⟨B0, b0, rfl, hb0, hs0⟩⟩⟩⟩ := hK0
  obtain rfl : cs0 = #[.int .i64 x0.1.f0, .int .i64 x0.1.f1, .int .u32 x0.2.1.f0, .bool x0.2.1.f1, .int .i64 x0.2.1.f2, .slice A0 x0.2.1.f3.length c0, .int .u8 x0.2.2.1, .slice B0 x0.2.2.2.length b0] := by apply Array.toList_inj.1; simpa [Value.cells] using e0
  clear hA0 hval0 hsz0 hsz
  refine (membHears_call A0 c0 B0 b0 W hr0 hc0 hs0 hb0).mono fun e W' ⟨he, bel⟩ => ?_
  subst he
  exact ⟨_, rfl, _, _, _, [], _, [], hW', trodAll_mk1 (shut_bool Try.underlying4 _), (trodAll_cons_mk (Below.trod laidOut (by kernel_rfl) (of_decide_eq_true (by kernel_rfl)) k0 bel lt0) trodAll_mk0), rfl, bel.frame _, fun h => by cases h⟩
theorem over : Rows.membHearsRow.holds Try.pinned (OpenSpec.ofChange Rows.membHearsSpec) :=
  OpenClaim.holds_of_wide 3 Try.f3 rfl rfl rfl rfl rfl rfl rfl ⟨rfl, rfl, rfl, rfl, rfl⟩ rfl rfl rfl rfl rfl (by kernel_rfl) Try.func3 (by kernel_rfl)
    (of_decide_eq_true (by kernel_rfl)) (by unfold Func.isWrapper; first | (rw [if_pos (by decide +kernel)]; kernel_rfl) | (rw [if_neg (by decide +kernel)]; exact ⟨rfl, rfl⟩))
    (fun os started H enc _ => lifted os started H enc)
theorem proved : Rows.MembHearsSaid := over
#print axioms proved
end Go.Proofs.Ytbllchfgjginoaa.membHears
namespace Go.Proofs.Ytbllchfgjginoaa
/-- The row, under a short name, for the claim. -/
theorem membHears_holds : Rows.MembHearsSaid := membHears.proved
end Go.Proofs.Ytbllchfgjginoaa
