/-
  The example, in the printer's form.
-/
import Derived.Test.YtlaanmkangikbaaIpW
namespace Go.Proofs.Ytlaanmkangikbaa.PIp
open Go.RowKit Go.Proofs.YtlaanmkangikbaaW.PrintWords Go.Proofs.YtlaanmkangikbaaW.PrintLast Go.Proofs.YtlaanmkangikbaaW.PrintMore
def stolonlaw04_shown.f (_k : Nat) : Option Bool := some true
theorem stolonlaw04_shown.mono (k : Nat) : LeO (stolonlaw04_shown.f k) (stolonlaw04_shown.f (k + 1)) := LeO.refl _
theorem stolonlaw04_shown.calls (k : Nat) (r : Bool) (w : World) (h : stolonlaw04_shown.f k = some r) :
    Calls Try.prog 9 #[] w fun e w' => e = .returned (.bool r) ∧ Below w.heap.size w w' := by
  cases h
  exact shown_calls w
end Go.Proofs.Ytlaanmkangikbaa.PIp
