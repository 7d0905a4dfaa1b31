/-
  Package slices, at bytes: Clone; package ip: joined: in the printer's form.
-/
import Derived.Test.YtlaanmkangikbaaIpB
namespace Go.Proofs.Ytlaanmkangikbaa
open Go.RowKit Go.Shelf Go.Proofs.YtlaanmkangikbaaW.PrintWords
attribute [local go_sem] Oper.semAt_some

def ip_joined.f (l0 : List (List Int)) : Option (List Int) := if l0.length ≤ 1000 ∧ l0.flatten.length ≤ 1000000 then some l0.flatten else none
theorem ip_joined.calls (A0 : Option Addr) (c0 : Nat) (l0 : List (List Int)) (r : List Int) (w : World) (hr0 : Kd.C (Kd.slice 5 (Kd.int .u8)) w A0 l0.length l0) (hc0 : l0.length ≤ c0) (h : ip_joined.f l0 = some r) :
    Calls Try.prog 18 #[.slice A0 l0.length c0] w fun e w' => ∃ v0_ : Value, e = .returned (v0_) ∧ Kd.R (Kd.int .u8) 5 w' w.heap.size (fun _ => True) v0_ r ∧ Below w.heap.size w w' := by
  unfold ip_joined.f at h
  split at h
  next hl =>
    cases h
    obtain ⟨h1, h2⟩ := hl
    go_enter Try.func18, Try.ntmps18
    go_wp2_with (go_at_call 30; refine (concat_calls A0 c0 l0 _ hr0 hc0 h1 h2).mono ?_; rintro e w' ⟨v, rfl, hrow, hB⟩)
    go_ret
    exact ⟨v, rfl, Kd.R_of_own hrow (fun _ _ => trivial), hB⟩
  next => cases h
end Go.Proofs.Ytlaanmkangikbaa
