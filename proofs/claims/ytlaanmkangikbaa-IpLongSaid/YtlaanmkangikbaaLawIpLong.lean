/-
  The row of IpLong: written by a program of this session (grow.py), after the printer's rows.
-/
import Derived.Test.YtlaanmkangikbaaRows
import Derived.Test.YtlaanmkangikbaaPureIpLong
import Derived.WalkKit
import Derived.ProofKit
import Derived.OpenShut
import Derived.ShutString
import Derived.ChangeOld
import Derived.Below
import Derived.SizedLaws
import Derived.Test.YtlaanmkangikbaaOpens
namespace Go.Proofs.Ytlaanmkangikbaa.ipLong
open Go.ChangeShapes Go.WideShapes Go.ChangeAt Go.RowKit Go.Proofs.Ytlaanmkangikbaa Go.Proofs.YtlaanmkangikbaaW.PrintWords
open Go.ChangeMaps (open_string shut_string)
set_option linter.unusedVariables false
theorem own : ownKnob Try.prog.godebug = none := by kernel_rfl
theorem laidOut : laidOutB Try.prog = true := by kernel_rfl
theorem opens0 (H : Type) : Opens H Try.prog 26 (Kd.pair (Kd.int .u32) (Kd.pair (Kd.int .u32) (Kd.pair (Kd.int .u8) (Kd.pair (Kd.int .u8) (Kd.pair (Kd.int .u16) Kd.bool))))) (fun x => (Lit.int .u32 x.1).wf = true ∧ (Lit.int .u32 x.2.1).wf = true ∧ (Lit.int .u8 x.2.2.1).wf = true ∧ (Lit.int .u8 x.2.2.2.1).wf = true ∧ (Lit.int .u16 x.2.2.2.2.1).wf = true ∧ True) := opens_struct Try.underlying26 (by kernel_rfl) (opens_cons rfl (by kernel_rfl) (opens_int Try.underlying23) (opens_cons rfl (by kernel_rfl) (opens_int Try.underlying23) (opens_cons rfl (by kernel_rfl) (opens_int Try.underlying5) (opens_cons rfl (by kernel_rfl) (opens_int Try.underlying5) (opens_cons rfl (by kernel_rfl) (opens_int Try.underlying24) (opens_last rfl (by kernel_rfl) (opens_bool Try.underlying4)))))))
set_option maxHeartbeats 4000000 in
set_option maxRecDepth 100000 in
theorem lifted (os : Os) (started : os.Started) (H : Type) (enc : TypeId × Value → H) :
    ReturnsInHanded {} Try.checked os 6 .any (Rows.ipLongSpec.pre6 enc Try.prog Try.f6 Rows.ipLongRow.domain false) (Rows.ipLongSpec.post enc Try.prog Try.f6 false true false false) := by
  refine returnsInHanded_of_change_sized (C := Try.checked) own started (by kernel_rfl) Try.func6
    (ChangeSpec.witness6 (enc := enc) (C := Try.checked) false ⟨#[], #[.agg #[.int .u32 0, .int .u32 0, .int .u8 0, .int .u8 0, .int .u16 0, .bool false], .int .u16 0], []⟩ 8 (by kernel_rfl) (by kernel_rfl) (by kernel_rfl) (by kernel_rfl)) ?_
  intro W base args ds gs before hval0 hW hcnd hsz0 _
  have hsz : (DataW.weightsEach Try.prog (Try.f6.params.toList ++ Rows.ipLongSpec.plain.varTypes Try.prog) (ds ++ gs)).all (· ≤ reachBytes) = true := hsz0
  have hval : ∀ (j : Nat) t v, Try.f6.params[j]? = some t → args[j]? = some v → Value.okWide Try.prog W .any base t v := hval0
  have hW' := hW
  obtain ⟨p, q, hA0, hV, rfl, hfz, hnd⟩ := hW
  have hA : DataW.TrodAll enc Try.prog W 0 (fun _ => true) true Try.f6.params.toList args.toList ds p := hA0
  rw [Try.params6] at hA hval hsz
  obtain ⟨v0, vs0, d0, ds0, p0, q0, hargs, rfl, rfl, h0, r0⟩ := trodAll_cons hA
  obtain ⟨v1, vs1, d1, ds1, p1, q1, rfl, rfl, rfl, h1, r1⟩ := trodAll_cons r0
  obtain ⟨rfl, rfl, rfl⟩ := trodAll_nil r1
  obtain rfl : args = #[v0, v1] := by cases args; simp_all
  obtain ⟨rfl, rfl⟩ := trodVars_none hV
  have k0 := h0
  have lt0 : ∀ x ∈ p0, x.block < W.heap.size := by obtain ⟨m, hm⟩ := k0; exact DataW.trod_lt m _ _ _ hm
  obtain ⟨cs0, rfl, hz0⟩ := okWide_struct Try.underlying26 (hval 0 26 v0 rfl rfl)
  obtain ⟨x0, hK0, wf0⟩ := Opens.row (opens0 H) hsz (j := 0) (t := 26) rfl rfl h0
  obtain ⟨_, _, e0, rfl, ⟨_, _, rfl, rfl, ⟨_, _, rfl, rfl, ⟨_, _, rfl, rfl, ⟨_, _, rfl, rfl, rfl⟩⟩⟩⟩⟩ := hK0
  obtain rfl : cs0 = #[.int .u32 x0.1, .int .u32 x0.2.1, .int .u8 x0.2.2.1, .int .u8 x0.2.2.2.1, .int .u16 x0.2.2.2.2.1, .bool x0.2.2.2.2.2] := by apply Array.toList_inj.1; simpa [Value.cells] using e0
  obtain ⟨za0, zb0, zc0, zd0, ze0, _⟩ := wf0
  have ok0 : HOk x0.1 x0.2.1 x0.2.2.1 x0.2.2.2.1 x0.2.2.2.2.1 := hok_wf za0 zb0 zc0 zd0 ze0
  have k1 := h1
  have lt1 : ∀ x ∈ p1, x.block < W.heap.size := by obtain ⟨m, hm⟩ := k1; exact DataW.trod_lt m _ _ _ hm
  obtain ⟨a1, rfl, rfl, rfl, w1⟩ := open_int Try.underlying24 (hval 1 24 v1 rfl rfl) h1
  clear hA0 hval0 hsz0 hsz
  obtain ⟨k, hk⟩ := ipLong_pure ok0 x0.2.2.2.2.2 (wf_u16 w1)
  refine (PIp.stolonlaw04_IpLong.calls k x0.1 x0.2.1 x0.2.2.1 x0.2.2.2.1 x0.2.2.2.2.1 x0.2.2.2.2.2 a1 true W hk).mono fun e W' ⟨he, bel⟩ => ?_
  subst he
  exact ⟨_, rfl, _, _, _, [], _, [], hW', trodAll_mk1 (shut_bool Try.underlying4 _), (trodAll_cons_mk (Below.trod laidOut (by kernel_rfl) (of_decide_eq_true (by kernel_rfl)) k0 bel lt0) (trodAll_cons_mk (Below.trod laidOut (by kernel_rfl) (of_decide_eq_true (by kernel_rfl)) k1 bel lt1) trodAll_mk0)), rfl, bel.frame _, fun h => by cases h⟩
theorem over : Rows.ipLongRow.holds Try.pinned (OpenSpec.ofChange Rows.ipLongSpec) :=
  OpenClaim.holds_of_wide 6 Try.f6 rfl rfl rfl rfl rfl rfl rfl ⟨rfl, rfl, rfl, rfl, rfl⟩ rfl rfl rfl rfl rfl (by kernel_rfl) Try.func6 (by kernel_rfl)
    (of_decide_eq_true (by kernel_rfl)) (by unfold Func.isWrapper; first | (rw [if_pos (by decide +kernel)]; kernel_rfl) | (rw [if_neg (by decide +kernel)]; exact ⟨rfl, rfl⟩))
    (fun os started H enc _ => lifted os started H enc)
theorem proved : Rows.IpLongSaid := over
#print axioms proved
end Go.Proofs.Ytlaanmkangikbaa.ipLong
namespace Go.Proofs.Ytlaanmkangikbaa
/-- The row, under a short name, for the claim. -/
theorem ipLong_holds : Rows.IpLongSaid := ipLong.proved
end Go.Proofs.Ytlaanmkangikbaa
