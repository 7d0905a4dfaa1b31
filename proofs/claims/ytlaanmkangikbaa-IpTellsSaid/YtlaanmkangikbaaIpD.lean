/-
  Package slices, at bytes: Clone, in the printer's form.
-/
import Derived.Test.YtlaanmkangikbaaIpC
import Derived.Lib.SliceRun
namespace Go.Proofs.Ytlaanmkangikbaa
open Go.RowKit Go.Shelf Go.Proofs.YtlaanmkangikbaaW.PrintWords
attribute [local go_sem] Oper.semAt_some

def slices_Clone.f (l0 : List Int) : Option (List Int) := if l0.length ≤ 1000000000 then some l0 else none
theorem slices_Clone.calls (A0 : Option Addr) (c0 : Nat) (l0 : List Int) (r : List Int) (w : World) (hr0 : Kd.C (Kd.int .u8) w A0 l0.length l0) (_hc0 : l0.length ≤ c0) (h : slices_Clone.f l0 = some r) :
    Calls Try.prog 25 #[.slice A0 l0.length c0] w fun e w' => ∃ v0_ : Value, e = .returned (v0_) ∧ Kd.R (Kd.int .u8) 5 w' w.heap.size (fun _ => True) v0_ r ∧ Below w.heap.size w w' := by
  unfold slices_Clone.f at h
  split at h
  next hl =>
    cases h
    have hrd : ReadsInt w .u8 A0 l0.length l0 := Kd.reads_of_C (enc := Value.int .u8) (d := (0 : Int)) (h1 := fun _ => rfl) hr0
    have HD := Lib.hid hrd
    have HBD := Lib.hid (show (0 + l0.length) * 1 ≤ 140737488355328 by omega)
    have q27 : ∀ (w : World) (a : Option Addr) (n c n' c' : Nat), (binOp .eql 27 (.slice a n c) (.slice none n' c')).run Try.prog w = .ok (.bool a.isNone) w := fun w a n c n' c' => Lib.run_eql_slice_nil w _ _ a n c n' c' Try.underlying27
    cases A0 with
    | none =>
      have h0 : l0 = [] := by
        rcases Nat.eq_zero_or_pos l0.length with h | h
        · exact List.eq_nil_of_length_eq_zero h
        · obtain ⟨_, e, _⟩ := hrd.2.2 h
          cases e
      subst h0
      clear hrd HD HBD hr0
      go_enter Try.func25, Try.ntmps25
      go_wp2
      go_ret
      exact ⟨_, rfl, Kd.R_nil _ _ _ _ _, Below.refl _ _⟩
    | some ad =>
      clear hrd hr0 hl
      go_enter Try.func25, Try.ntmps25
      go_wp2_with (refine print_append_row (w0 := w) w.heap.size rfl (.tmp 5) (.tmp 6) 27 5 .u8 1 rfl rfl Try.info5 (by decide) _ [] l0 (some ad) l0.length c0 rfl rfl (World.ownsRow_lit (size := 1) w #[] 0 (Nat.le_refl _) (by simp [maxLen]) rfl) (HD.out.allocS _) ((Below.refl _ w).alloc (Nat.le_refl _) _) (by simp) HBD.out ?_; intro v1 w4 hown4 hB4 _ _)
      go_ret
      exact ⟨_, rfl, Kd.R_of_own (by have h := hown4; simp only [List.nil_append] at h; exact h) (fun _ _ => trivial), hB4⟩
  next => cases h
end Go.Proofs.Ytlaanmkangikbaa
