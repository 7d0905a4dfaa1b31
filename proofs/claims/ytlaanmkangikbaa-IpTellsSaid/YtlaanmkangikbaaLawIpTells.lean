/-
  The row of IpTells: written by a program of this session (grow.py), after the printer's rows.
-/
import Derived.Test.YtlaanmkangikbaaRows
import Derived.Test.YtlaanmkangikbaaIpTel
import Derived.WalkKit
import Derived.ProofKit
import Derived.OpenShut
import Derived.ShutString
import Derived.ChangeOld
import Derived.Below
import Derived.SizedLaws
import Derived.Test.YtlaanmkangikbaaOpens
namespace Go.Proofs.Ytlaanmkangikbaa.ipTells
open Go.ChangeShapes Go.WideShapes Go.ChangeAt Go.RowKit Go.Proofs.Ytlaanmkangikbaa Go.Proofs.YtlaanmkangikbaaW.PrintWords
open Go.ChangeMaps (open_string shut_string)
set_option linter.unusedVariables false
theorem own : ownKnob Try.prog.godebug = none := by kernel_rfl
theorem laidOut : laidOutB Try.prog = true := by kernel_rfl
theorem opens0 (H : Type) : Opens H Try.prog 26 (Kd.pair (Kd.int .u32) (Kd.pair (Kd.int .u32) (Kd.pair (Kd.int .u8) (Kd.pair (Kd.int .u8) (Kd.pair (Kd.int .u16) Kd.bool))))) (fun x => (Lit.int .u32 x.1).wf = true ∧ (Lit.int .u32 x.2.1).wf = true ∧ (Lit.int .u8 x.2.2.1).wf = true ∧ (Lit.int .u8 x.2.2.2.1).wf = true ∧ (Lit.int .u16 x.2.2.2.2.1).wf = true ∧ True) := opens_struct Try.underlying26 (by kernel_rfl) (opens_cons rfl (by kernel_rfl) (opens_int Try.underlying23) (opens_cons rfl (by kernel_rfl) (opens_int Try.underlying23) (opens_cons rfl (by kernel_rfl) (opens_int Try.underlying5) (opens_cons rfl (by kernel_rfl) (opens_int Try.underlying5) (opens_cons rfl (by kernel_rfl) (opens_int Try.underlying24) (opens_last rfl (by kernel_rfl) (opens_bool Try.underlying4)))))))
theorem opens1 (H : Type) : Opens H Try.prog 27 (Kd.slice 5 (Kd.int .u8)) (fun xs => xs.length ≤ maxLen ∧ xs.length * Try.prog.bytesOf 5 ≤ reachBytes ∧ ∀ a ∈ xs, (Lit.int .u8 a).wf = true) := opens_slice Try.underlying27 (by kernel_rfl) (opens_int Try.underlying5)
theorem opens2 (H : Type) : Opens H Try.prog 27 (Kd.slice 5 (Kd.int .u8)) (fun xs => xs.length ≤ maxLen ∧ xs.length * Try.prog.bytesOf 5 ≤ reachBytes ∧ ∀ a ∈ xs, (Lit.int .u8 a).wf = true) := opens_slice Try.underlying27 (by kernel_rfl) (opens_int Try.underlying5)
set_option maxHeartbeats 4000000 in
set_option maxRecDepth 100000 in
theorem lifted (os : Os) (started : os.Started) (H : Type) (enc : TypeId × Value → H) :
    ReturnsInHanded {} Try.checked os 7 .any (Rows.ipTellsSpec.pre6 enc Try.prog Try.f7 Rows.ipTellsRow.domain false) (Rows.ipTellsSpec.post enc Try.prog Try.f7 false true false false) := by
  refine returnsInHanded_of_change_sized (C := Try.checked) own started (by kernel_rfl) Try.func7
    (ChangeSpec.witness6 (enc := enc) (C := Try.checked) false ⟨#[], #[.agg #[.int .u32 0, .int .u32 0, .int .u8 0, .int .u8 0, .int .u16 0, .bool false], .slice none 0 0, .slice none 0 0], []⟩ 8 (by kernel_rfl) (by kernel_rfl) (by kernel_rfl) (by kernel_rfl)) ?_
  intro W base args ds gs before hval0 hW hcnd hsz0 _
  have hsz : (DataW.weightsEach Try.prog (Try.f7.params.toList ++ Rows.ipTellsSpec.plain.varTypes Try.prog) (ds ++ gs)).all (· ≤ reachBytes) = true := hsz0
  have hval : ∀ (j : Nat) t v, Try.f7.params[j]? = some t → args[j]? = some v → Value.okWide Try.prog W .any base t v := hval0
  have hW' := hW
  obtain ⟨p, q, hA0, hV, rfl, hfz, hnd⟩ := hW
  have hA : DataW.TrodAll enc Try.prog W 0 (fun _ => true) true Try.f7.params.toList args.toList ds p := hA0
  rw [Try.params7] at hA hval hsz
  obtain ⟨v0, vs0, d0, ds0, p0, q0, hargs, rfl, rfl, h0, r0⟩ := trodAll_cons hA
  obtain ⟨v1, vs1, d1, ds1, p1, q1, rfl, rfl, rfl, h1, r1⟩ := trodAll_cons r0
  obtain ⟨v2, vs2, d2, ds2, p2, q2, rfl, rfl, rfl, h2, r2⟩ := trodAll_cons r1
  obtain ⟨rfl, rfl, rfl⟩ := trodAll_nil r2
  obtain rfl : args = #[v0, v1, v2] := by cases args; simp_all
  obtain ⟨rfl, rfl⟩ := trodVars_none hV
  have k0 := h0
  have lt0 : ∀ x ∈ p0, x.block < W.heap.size := by obtain ⟨m, hm⟩ := k0; exact DataW.trod_lt m _ _ _ hm
  obtain ⟨cs0, rfl, hz0⟩ := okWide_struct Try.underlying26 (hval 0 26 v0 rfl rfl)
  obtain ⟨x0, hK0, wf0⟩ := Opens.row (opens0 H) hsz (j := 0) (t := 26) rfl rfl h0
  obtain ⟨_, _, e0, rfl, ⟨_, _, rfl, rfl, ⟨_, _, rfl, rfl, ⟨_, _, rfl, rfl, ⟨_, _, rfl, rfl, rfl⟩⟩⟩⟩⟩ := hK0
  obtain rfl : cs0 = #[.int .u32 x0.1, .int .u32 x0.2.1, .int .u8 x0.2.2.1, .int .u8 x0.2.2.2.1, .int .u16 x0.2.2.2.2.1, .bool x0.2.2.2.2.2] := by apply Array.toList_inj.1; simpa [Value.cells] using e0
  obtain ⟨za0, zb0, zc0, zd0, ze0, _⟩ := wf0
  have ok0 : HOk x0.1 x0.2.1 x0.2.2.1 x0.2.2.2.1 x0.2.2.2.2.1 := hok_wf za0 zb0 zc0 zd0 ze0
  have k1 := h1
  have lt1 : ∀ x ∈ p1, x.block < W.heap.size := by obtain ⟨m, hm⟩ := k1; exact DataW.trod_lt m _ _ _ hm
  obtain ⟨a1, len1, cap1, rfl⟩ := okWide_slice Try.underlying27 (hval 1 27 v1 rfl rfl)
  obtain ⟨x1, hK1, wf1⟩ := Opens.row (opens1 H) hsz (j := 1) (t := 27) rfl rfl h1
  obtain ⟨A1, c1, e1, hc1, hr1⟩ := hK1
  simp [Value.cells] at e1
  obtain ⟨rfl, rfl, rfl⟩ := e1
  obtain ⟨_, y1, z1⟩ := wf1
  rw [show Try.prog.bytesOf 5 = 1 from by kernel_rfl] at y1
  have l1 : x1.length ≤ 140737488351232 := by replace y1 : x1.length * 1 ≤ 140737488351232 := y1; omega
  have b1 : Byt x1 := fun z hz => wf_u8 (z1 z hz)
  have k2 := h2
  have lt2 : ∀ x ∈ p2, x.block < W.heap.size := by obtain ⟨m, hm⟩ := k2; exact DataW.trod_lt m _ _ _ hm
  obtain ⟨a2, len2, cap2, rfl⟩ := okWide_slice Try.underlying27 (hval 2 27 v2 rfl rfl)
  obtain ⟨x2, hK2, wf2⟩ := Opens.row (opens2 H) hsz (j := 2) (t := 27) rfl rfl h2
  obtain ⟨A2, c2, e2, hc2, hr2⟩ := hK2
  simp [Value.cells] at e2
  obtain ⟨rfl, rfl, rfl⟩ := e2
  obtain ⟨_, y2, z2⟩ := wf2
  rw [show Try.prog.bytesOf 5 = 1 from by kernel_rfl] at y2
  have l2 : x2.length ≤ 140737488351232 := by replace y2 : x2.length * 1 ≤ 140737488351232 := y2; omega
  have b2 : Byt x2 := fun z hz => wf_u8 (z2 z hz)
  clear hA0 hval0 hsz0 hsz
  refine (ipTells_call ok0 b1 b2 a1 cap1 a2 cap2 W hr1 hc1 hr2 hc2).mono fun e W' ⟨he, bel⟩ => ?_
  subst he
  exact ⟨_, rfl, _, _, _, [], _, [], hW', trodAll_mk1 (shut_bool Try.underlying4 _), (trodAll_cons_mk (Below.trod laidOut (by kernel_rfl) (of_decide_eq_true (by kernel_rfl)) k0 bel lt0) (trodAll_cons_mk (Below.trod laidOut (by kernel_rfl) (of_decide_eq_true (by kernel_rfl)) k1 bel lt1) (trodAll_cons_mk (Below.trod laidOut (by kernel_rfl) (of_decide_eq_true (by kernel_rfl)) k2 bel lt2) trodAll_mk0))), rfl, bel.frame _, fun h => by cases h⟩
theorem over : Rows.ipTellsRow.holds Try.pinned (OpenSpec.ofChange Rows.ipTellsSpec) :=
  OpenClaim.holds_of_wide 7 Try.f7 rfl rfl rfl rfl rfl rfl rfl ⟨rfl, rfl, rfl, rfl, rfl⟩ rfl rfl rfl rfl rfl (by kernel_rfl) Try.func7 (by kernel_rfl)
    (of_decide_eq_true (by kernel_rfl)) (by unfold Func.isWrapper; first | (rw [if_pos (by decide +kernel)]; kernel_rfl) | (rw [if_neg (by decide +kernel)]; exact ⟨rfl, rfl⟩))
    (fun os started H enc _ => lifted os started H enc)
theorem proved : Rows.IpTellsSaid := over
#print axioms proved
end Go.Proofs.Ytlaanmkangikbaa.ipTells
namespace Go.Proofs.Ytlaanmkangikbaa
/-- The row, under a short name, for the claim. -/
theorem ipTells_holds : Rows.IpTellsSaid := ipTells.proved
end Go.Proofs.Ytlaanmkangikbaa
