/-
  Package sum: contracts in the printer's form.
-/
import Derived.Test.YtmmjmncchckbbaaSumC
namespace Go.Proofs.Ytmmjmncchckbbaa
open Go.RowKit Go.Shelf Go.Proofs.YtmmjmncchckbbaaW.PrintWords

/-- Are these bytes, and not too many? -/
def bytesOk (l : List Int) : Bool := l.all (fun z => decide (0 ≤ z) && decide (z < 256)) && decide (l.length ≤ 140737488351232)
theorem bytesOk_iff (l : List Int) : bytesOk l = true ↔ (∀ z ∈ l, 0 ≤ z ∧ z < 256) ∧ l.length ≤ 140737488351232 := by
  simp [bytesOk]

def sum_Of.f (l0 : List Int) : Option Int := if bytesOk l0 = true then some (sumOf l0) else none
theorem sum_Of.calls (A0 : Option Addr) (c0 : Nat) (l0 : List Int) (r : Int) (w : World) (hr0 : Kd.C (Kd.int .u8) w A0 l0.length l0) (hc0 : l0.length ≤ c0) (h : sum_Of.f l0 = some r) :
    Calls Try.prog 50 #[.slice A0 l0.length c0] w fun e w' => e = .returned (.int .u16 r) ∧ Below w.heap.size w w' := by
  unfold sum_Of.f at h
  split at h
  · rename_i hb
    obtain ⟨h1, h2⟩ := (bytesOk_iff _).1 hb
    cases h
    exact of_calls A0 c0 l0 w h2 hc0 h1 (Kd.reads_of_C (enc := Value.int .u8) (d := (0 : Int)) (h1 := fun _ => rfl) hr0)
  · cases h

def sum_Put.f (l0 : List Int) (a1 : Int) : Option (List Int × Int) :=
  if bytesOk l0 = true ∧ -9223372036854775808 ≤ a1 ∧ a1 ≤ 9223372036854775807 then
    some (if a1 < 0 ∨ a1 % 2 ≠ 0 ∨ (l0.length : Int) - 2 < a1 then ([], 1) else (putOf l0 a1.toNat, 0))
  else none
theorem sum_Put.calls (A0 : Option Addr) (c0 : Nat) (l0 : List Int) (a1 : Int) (r1 : List Int) (r2 : Int) (w : World) (hr0 : Kd.C (Kd.int .u8) w A0 l0.length l0) (hc0 : l0.length ≤ c0) (h : sum_Put.f l0 a1 = some (r1, r2)) :
    Calls Try.prog 26 #[.slice A0 l0.length c0, .int .i64 a1] w fun e w' => ∃ v0_ : Value, e = .returned (.tuple #[v0_, .int .i64 r2]) ∧ Kd.R (Kd.int .u8) 5 w' w.heap.size (fun _ => True) v0_ r1 ∧ Below w.heap.size w w' := by
  unfold sum_Put.f at h
  split at h
  · rename_i hb
    obtain ⟨hb, h3⟩ := hb
    obtain ⟨h1, h2⟩ := (bytesOk_iff _).1 hb
    split at h
    · rename_i hn
      cases h
      refine (put_no A0 c0 l0 a1 w h2 h3 (by omega)).mono ?_
      rintro e w' ⟨rfl, rfl⟩
      exact ⟨_, rfl, Kd.R_nil _ _ _ _ _, Below.refl _ _⟩
    · rename_i hn
      cases h
      obtain ⟨m, rfl⟩ := Int.eq_ofNat_of_zero_le (show 0 ≤ a1 by omega)
      rw [Int.toNat_natCast]
      exact put_yes A0 c0 l0 m w h2 hc0 h1 hr0 (by omega) (by omega)
  · cases h
end Go.Proofs.Ytmmjmncchckbbaa
