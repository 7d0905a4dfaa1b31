/-
  The row of IpOne: written by a program of this session (grow.py), after the printer's rows.
-/
import Derived.Test.YtlaanmkangikbaaRows
import Derived.Test.YtlaanmkangikbaaIpQ
import Derived.WalkKit
import Derived.ProofKit
import Derived.OpenShut
import Derived.ShutString
import Derived.ChangeOld
import Derived.Below
import Derived.SizedLaws
import Derived.Test.YtlaanmkangikbaaOpens
namespace Go.Proofs.Ytlaanmkangikbaa.ipOne
open Go.ChangeShapes Go.WideShapes Go.ChangeAt Go.RowKit Go.Proofs.Ytlaanmkangikbaa Go.Proofs.YtlaanmkangikbaaW.PrintWords
open Go.ChangeMaps (open_string shut_string)
set_option linter.unusedVariables false
theorem own : ownKnob Try.prog.godebug = none := by kernel_rfl
theorem laidOut : laidOutB Try.prog = true := by kernel_rfl
theorem opens0 (H : Type) : Opens H Try.prog 38 (Kd.pair (Kd.pair (Kd.int .u32) (Kd.pair (Kd.int .u32) (Kd.pair (Kd.int .u8) (Kd.pair (Kd.int .u8) (Kd.pair (Kd.int .u16) Kd.bool))))) (Kd.pair (Kd.slice 5 (Kd.int .u8)) (Kd.pair (Kd.int .i64) (Kd.int .u8)))) (fun y => (fun x => (Lit.int .u32 x.1).wf = true ∧ (Lit.int .u32 x.2.1).wf = true ∧ (Lit.int .u8 x.2.2.1).wf = true ∧ (Lit.int .u8 x.2.2.2.1).wf = true ∧ (Lit.int .u16 x.2.2.2.2.1).wf = true ∧ True) y.1 ∧ (fun xs => xs.length ≤ maxLen ∧ xs.length * Try.prog.bytesOf 5 ≤ reachBytes ∧ ∀ a ∈ xs, (Lit.int .u8 a).wf = true) y.2.1 ∧ (Lit.int .i64 y.2.2.1).wf = true ∧ (Lit.int .u8 y.2.2.2).wf = true) := opens_struct Try.underlying38 (by kernel_rfl) (opens_cons rfl (by kernel_rfl) (opens_struct Try.underlying26 (by kernel_rfl) (opens_cons rfl (by kernel_rfl) (opens_int Try.underlying23) (opens_cons rfl (by kernel_rfl) (opens_int Try.underlying23) (opens_cons rfl (by kernel_rfl) (opens_int Try.underlying5) (opens_cons rfl (by kernel_rfl) (opens_int Try.underlying5) (opens_cons rfl (by kernel_rfl) (opens_int Try.underlying24) (opens_last rfl (by kernel_rfl) (opens_bool Try.underlying4)))))))) (opens_cons rfl (by kernel_rfl) (opens_slice Try.underlying27 (by kernel_rfl) (opens_int Try.underlying5)) (opens_cons rfl (by kernel_rfl) (opens_int Try.underlying3) (opens_last rfl (by kernel_rfl) (opens_int Try.underlying5)))))
set_option maxHeartbeats 4000000 in
set_option maxRecDepth 100000 in
theorem lifted (os : Os) (started : os.Started) (H : Type) (enc : TypeId × Value → H) :
    ReturnsInHanded {} Try.checked os 5 .any (Rows.ipOneSpec.pre6 enc Try.prog Try.f5 Rows.ipOneRow.domain false) (Rows.ipOneSpec.post enc Try.prog Try.f5 false true false false) := by
  refine returnsInHanded_of_change_sized (C := Try.checked) own started (by kernel_rfl) Try.func5
    (ChangeSpec.witness6 (enc := enc) (C := Try.checked) false ⟨#[], #[.agg #[.int .u32 0, .int .u32 0, .int .u8 0, .int .u8 0, .int .u16 0, .bool false, .slice none 0 0, .int .i64 0, .int .u8 0]], []⟩ 8 (by kernel_rfl) (by kernel_rfl) (by kernel_rfl) (by kernel_rfl)) ?_
  intro W base args ds gs before hval0 hW hcnd hsz0 _
  have hsz : (DataW.weightsEach Try.prog (Try.f5.params.toList ++ Rows.ipOneSpec.plain.varTypes Try.prog) (ds ++ gs)).all (· ≤ reachBytes) = true := hsz0
  have hval : ∀ (j : Nat) t v, Try.f5.params[j]? = some t → args[j]? = some v → Value.okWide Try.prog W .any base t v := hval0
  have hW' := hW
  obtain ⟨p, q, hA0, hV, rfl, hfz, hnd⟩ := hW
  have hA : DataW.TrodAll enc Try.prog W 0 (fun _ => true) true Try.f5.params.toList args.toList ds p := hA0
  rw [Try.params5] at hA hval hsz
  obtain ⟨v0, vs0, d0, ds0, p0, q0, hargs, rfl, rfl, h0, r0⟩ := trodAll_cons hA
  obtain ⟨rfl, rfl, rfl⟩ := trodAll_nil r0
  obtain rfl : args = #[v0] := by cases args; simp_all
  obtain ⟨rfl, rfl⟩ := trodVars_none hV
  have k0 := h0
  have lt0 : ∀ x ∈ p0, x.block < W.heap.size := by obtain ⟨m, hm⟩ := k0; exact DataW.trod_lt m _ _ _ hm
  obtain ⟨cs0, rfl, hz0⟩ := okWide_struct Try.underlying38 (hval 0 38 v0 rfl rfl)
  obtain ⟨x0, hK0, wf0⟩ := Opens.row (opens0 H) hsz (j := 0) (t := 38) rfl rfl h0
  obtain ⟨_, _, e0, ⟨_, _, rfl, rfl, ⟨_, _, rfl, rfl, ⟨_, _, rfl, rfl, ⟨_, _, rfl, rfl, ⟨_, _, rfl, rfl, rfl⟩⟩⟩⟩⟩, ⟨_, _, rfl, ⟨A0, c0, rfl, hc0, hr0⟩, ⟨_, _, rfl, rfl, rfl⟩⟩⟩ := hK0
  obtain rfl : cs0 = #[.int .u32 x0.1.1, .int .u32 x0.1.2.1, .int .u8 x0.1.2.2.1, .int .u8 x0.1.2.2.2.1, .int .u16 x0.1.2.2.2.2.1, .bool x0.1.2.2.2.2.2, .slice A0 x0.2.1.length c0, .int .i64 x0.2.2.1, .int .u8 x0.2.2.2] := by apply Array.toList_inj.1; simpa [Value.cells] using e0
  obtain ⟨⟨za0, zb0, zc0, zd0, ze0, _⟩, ⟨_, y0, z0⟩, wa0, wb0⟩ := wf0
  have ok0 : HOk x0.1.1 x0.1.2.1 x0.1.2.2.1 x0.1.2.2.2.1 x0.1.2.2.2.2.1 := hok_wf za0 zb0 zc0 zd0 ze0
  rw [show Try.prog.bytesOf 5 = 1 from by kernel_rfl] at y0
  have l0 : x0.2.1.length ≤ 140737488351232 := by replace y0 : x0.2.1.length * 1 ≤ 140737488351232 := y0; omega
  have b0 : Byt x0.2.1 := fun z hz => wf_u8 (z0 z hz)
  clear hA0 hval0 hsz0 hsz
  refine (ipOne_call ok0 b0 l0 x0.2.2.1 (wf_u8 wb0) A0 c0 W hr0 hc0).mono fun e W' ⟨he, bel⟩ => ?_
  subst he
  exact ⟨_, rfl, _, _, _, [], _, [], hW', trodAll_mk1 (shut_bool Try.underlying4 _), (trodAll_cons_mk (Below.trod laidOut (by kernel_rfl) (of_decide_eq_true (by kernel_rfl)) k0 bel lt0) trodAll_mk0), rfl, bel.frame _, fun h => by cases h⟩
theorem over : Rows.ipOneRow.holds Try.pinned (OpenSpec.ofChange Rows.ipOneSpec) :=
  OpenClaim.holds_of_wide 5 Try.f5 rfl rfl rfl rfl rfl rfl rfl ⟨rfl, rfl, rfl, rfl, rfl⟩ rfl rfl rfl rfl rfl (by kernel_rfl) Try.func5 (by kernel_rfl)
    (of_decide_eq_true (by kernel_rfl)) (by unfold Func.isWrapper; first | (rw [if_pos (by decide +kernel)]; kernel_rfl) | (rw [if_neg (by decide +kernel)]; exact ⟨rfl, rfl⟩))
    (fun os started H enc _ => lifted os started H enc)
theorem proved : Rows.IpOneSaid := over
#print axioms proved
end Go.Proofs.Ytlaanmkangikbaa.ipOne
namespace Go.Proofs.Ytlaanmkangikbaa
/-- The row, under a short name, for the claim. -/
theorem ipOne_holds : Rows.IpOneSaid := ipOne.proved
end Go.Proofs.Ytlaanmkangikbaa
