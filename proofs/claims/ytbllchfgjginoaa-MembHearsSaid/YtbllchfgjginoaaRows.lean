/-
  No cell of these rows narrows 'for every input' (looked for: loops, veiled, ifaces, maps, wideKeys, modest, calm, conditions, laid).
  DERIVED. THE GIVEN ROWS OF THIS SEAT. 6 by the template 'for every input the law returns true; each argument reads behind the call as it read before'; 0 by the template 'total and deterministic' (their statements: YtbllchfgjginoaaTotals.lean).
  GIVEN WITH THE SEED: the statements are not yours to turn. If you find one false, say at which input.
  Laid BY PROGRAM, IN A SANDBOX (cutbox-rows.mjs): the forced cells as the released guide's own fill.sh prints them over the translation 5cc75173c6427829… (all of the seat's roots in one cut). By AI agents, Wed Nov 11 2026. No macro, syntax, notation, axiom, sorry.
-/
import Derived.Test.YtbllchfgjginoaaChecked
import GoSem.Claim
import GoSem.ClaimJoined
import GoSem.ClaimMapViews
import Derived.JoinedTies
import Derived.KernelRfl
namespace Go.Proofs.Ytbllchfgjginoaa
/- THE CELL 'sum', in the pinned program and in every row, IS THE sha256 OF THE DUMP (.gsa) THAT YtbllchfgjginoaaProg.lean LOADS. Nothing in Lean hashes anything: it is a label: what it is worth is what the hold of that sum in a sandbox is worth. -/
noncomputable def Try.pinned : Pinned := { name := "ytbllchfgjginoaa", sum := "5cc75173c6427829afc00fba8c2b23e49a9a781cca28d31b40d1f978cf2acba0", checked := Try.checked }
namespace Rows
def none {H : Type} : Left H := { results := [], args := [] }

/-- 'stolonlaw08.MembHears': WHATEVER THE INPUT: true; the input reads as it did. -/
def membHearsSpec : ChangeSpec := { name := "membHears", fn := fun _ => fun
  | [d] => { results := [.lit (.bool true)], args := [d] }
  | _ => none }
def membHearsRow : OpenClaim := { program := "ytbllchfgjginoaa", sum := "5cc75173c6427829afc00fba8c2b23e49a9a781cca28d31b40d1f978cf2acba0", func := "stolon/stolonlaw08.MembHears", spec := "membHears", inPlace := ["slices.overlaps[stolon/api.Held]"], unfollowed := true, recurses := true, apart := false }
def MembHearsSaid : Prop := membHearsRow.holds Try.pinned (OpenSpec.ofChange membHearsSpec)

/-- ITS FALSE NEIGHBOUR: 'it returns false'. Refute it at one input. -/
def membHearsWrong : ChangeSpec := { name := "membHears", fn := fun _ => fun
  | [d] => { results := [.lit (.bool false)], args := [d] }
  | _ => none }
def MembHearsWrongFalsely : Prop := membHearsRow.holds Try.pinned (OpenSpec.ofChange membHearsWrong)

/-- 'stolonlaw08.MembAsks': WHATEVER THE INPUT: true; the input reads as it did. -/
def membAsksSpec : ChangeSpec := { name := "membAsks", fn := fun _ => fun
  | [d] => { results := [.lit (.bool true)], args := [d] }
  | _ => none }
def membAsksRow : OpenClaim := { program := "ytbllchfgjginoaa", sum := "5cc75173c6427829afc00fba8c2b23e49a9a781cca28d31b40d1f978cf2acba0", func := "stolon/stolonlaw08.MembAsks", spec := "membAsks", inPlace := ["slices.overlaps[stolon/api.Held]"], unfollowed := true, recurses := true, apart := false }
def MembAsksSaid : Prop := membAsksRow.holds Try.pinned (OpenSpec.ofChange membAsksSpec)

/-- ITS FALSE NEIGHBOUR: 'it returns false'. Refute it at one input. -/
def membAsksWrong : ChangeSpec := { name := "membAsks", fn := fun _ => fun
  | [d] => { results := [.lit (.bool false)], args := [d] }
  | _ => none }
def MembAsksWrongFalsely : Prop := membAsksRow.holds Try.pinned (OpenSpec.ofChange membAsksWrong)

/-- 'stolonlaw08.MembStays': WHATEVER THE INPUT: true; the input reads as it did. -/
def membStaysSpec : ChangeSpec := { name := "membStays", fn := fun _ => fun
  | [d] => { results := [.lit (.bool true)], args := [d] }
  | _ => none }
def membStaysRow : OpenClaim := { program := "ytbllchfgjginoaa", sum := "5cc75173c6427829afc00fba8c2b23e49a9a781cca28d31b40d1f978cf2acba0", func := "stolon/stolonlaw08.MembStays", spec := "membStays", inPlace := ["slices.overlaps[stolon/api.Held]"], unfollowed := true, recurses := true, apart := false }
def MembStaysSaid : Prop := membStaysRow.holds Try.pinned (OpenSpec.ofChange membStaysSpec)

/-- ITS FALSE NEIGHBOUR: 'it returns false'. Refute it at one input. -/
def membStaysWrong : ChangeSpec := { name := "membStays", fn := fun _ => fun
  | [d] => { results := [.lit (.bool false)], args := [d] }
  | _ => none }
def MembStaysWrongFalsely : Prop := membStaysRow.holds Try.pinned (OpenSpec.ofChange membStaysWrong)

/-- 'stolonlaw08.MembKeeps': WHATEVER THE INPUT: true; the input reads as it did. -/
def membKeepsSpec : ChangeSpec := { name := "membKeeps", fn := fun _ => fun
  | [d] => { results := [.lit (.bool true)], args := [d] }
  | _ => none }
def membKeepsRow : OpenClaim := { program := "ytbllchfgjginoaa", sum := "5cc75173c6427829afc00fba8c2b23e49a9a781cca28d31b40d1f978cf2acba0", func := "stolon/stolonlaw08.MembKeeps", spec := "membKeeps", inPlace := ["slices.overlaps[stolon/api.Held]"], unfollowed := true, recurses := true, apart := false }
def MembKeepsSaid : Prop := membKeepsRow.holds Try.pinned (OpenSpec.ofChange membKeepsSpec)

/-- ITS FALSE NEIGHBOUR: 'it returns false'. Refute it at one input. -/
def membKeepsWrong : ChangeSpec := { name := "membKeeps", fn := fun _ => fun
  | [d] => { results := [.lit (.bool false)], args := [d] }
  | _ => none }
def MembKeepsWrongFalsely : Prop := membKeepsRow.holds Try.pinned (OpenSpec.ofChange membKeepsWrong)

/-- 'stolonlaw08.MembAdds': WHATEVER THE INPUT: true; the input reads as it did. -/
def membAddsSpec : ChangeSpec := { name := "membAdds", fn := fun _ => fun
  | [d] => { results := [.lit (.bool true)], args := [d] }
  | _ => none }
def membAddsRow : OpenClaim := { program := "ytbllchfgjginoaa", sum := "5cc75173c6427829afc00fba8c2b23e49a9a781cca28d31b40d1f978cf2acba0", func := "stolon/stolonlaw08.MembAdds", spec := "membAdds", inPlace := ["slices.overlaps[stolon/api.Held]"], unfollowed := true, recurses := true, apart := false }
def MembAddsSaid : Prop := membAddsRow.holds Try.pinned (OpenSpec.ofChange membAddsSpec)

/-- ITS FALSE NEIGHBOUR: 'it returns false'. Refute it at one input. -/
def membAddsWrong : ChangeSpec := { name := "membAdds", fn := fun _ => fun
  | [d] => { results := [.lit (.bool false)], args := [d] }
  | _ => none }
def MembAddsWrongFalsely : Prop := membAddsRow.holds Try.pinned (OpenSpec.ofChange membAddsWrong)

/-- 'stolonlaw08.MembTurns': WHATEVER THE INPUT: true; the input reads as it did. -/
def membTurnsSpec : ChangeSpec := { name := "membTurns", fn := fun _ => fun
  | [d] => { results := [.lit (.bool true)], args := [d] }
  | _ => none }
def membTurnsRow : OpenClaim := { program := "ytbllchfgjginoaa", sum := "5cc75173c6427829afc00fba8c2b23e49a9a781cca28d31b40d1f978cf2acba0", func := "stolon/stolonlaw08.MembTurns", spec := "membTurns", inPlace := ["slices.overlaps[stolon/api.Held]"], unfollowed := true, recurses := true, apart := false }
def MembTurnsSaid : Prop := membTurnsRow.holds Try.pinned (OpenSpec.ofChange membTurnsSpec)

/-- ITS FALSE NEIGHBOUR: 'it returns false'. Refute it at one input. -/
def membTurnsWrong : ChangeSpec := { name := "membTurns", fn := fun _ => fun
  | [d] => { results := [.lit (.bool false)], args := [d] }
  | _ => none }
def MembTurnsWrongFalsely : Prop := membTurnsRow.holds Try.pinned (OpenSpec.ofChange membTurnsWrong)

/- THE SECOND FORM. 'bulk': how many values and letters a reading holds, each counted each time it is reached (what is shared counts as often as it is met; a slice's spare places count too). A statement '..UptoSaid' is the law's where the arguments, and the package variables that the reading takes, are together of bulk at most 1048576: NARROWER than '..Said'. Prove '..Said' where nothing that the law and all that it calls make is longer than what came in: it says more and counts as full. Else prove '..UptoSaid'. A law counts once. -/
mutual
def uptoBulk {H : Type} : DataW H → Nat
  | .lit (.string bytes) => bytes.length + 1
  | .lit _ => 1
  | .nil => 1
  | .ptr d => uptoBulk d + 1
  | .slice elems spare => uptoBulkAll elems + uptoBulkAll spare + 1
  | .agg parts => uptoBulkAll parts + 1
  | .iface _ d => uptoBulk d + 1
  | .map entries => uptoBulkEntries entries + 1
  | .held _ => 1
def uptoBulkAll {H : Type} : List (DataW H) → Nat
  | [] => 0
  | d :: r => uptoBulk d + uptoBulkAll r
def uptoBulkEntries {H : Type} : List (Lit × DataW H) → Nat
  | [] => 0
  | x :: r => uptoBulkEntry x + uptoBulkEntries r
def uptoBulkEntry {H : Type} : Lit × DataW H → Nat
  | (.string bytes, d) => bytes.length + uptoBulk d + 1
  | (_, d) => uptoBulk d + 1
 end
def uptoSmall : (H : Type) → List (DataW H) → Bool := fun _ ds => decide (uptoBulkAll ds ≤ 1048576)
def OpenSpec.upto (s : _root_.Go.ChangeSpec) : _root_.Go.OpenSpec := { _root_.Go.OpenSpec.ofChange s with cond := some uptoSmall }

/-- 'stolonlaw08.MembHears', WHERE WHAT IT READS IS OF BULK AT MOST 1048576: true; the input reads as it did. -/
def membHearsUptoRow : OpenClaim := { program := "ytbllchfgjginoaa", sum := "5cc75173c6427829afc00fba8c2b23e49a9a781cca28d31b40d1f978cf2acba0", func := "stolon/stolonlaw08.MembHears", spec := "membHears", inPlace := ["slices.overlaps[stolon/api.Held]"], unfollowed := true, recurses := true, apart := false, narrowed := true }
def MembHearsUptoSaid : Prop := membHearsUptoRow.holds Try.pinned (OpenSpec.upto membHearsSpec)

/-- 'stolonlaw08.MembAsks', WHERE WHAT IT READS IS OF BULK AT MOST 1048576: true; the input reads as it did. -/
def membAsksUptoRow : OpenClaim := { program := "ytbllchfgjginoaa", sum := "5cc75173c6427829afc00fba8c2b23e49a9a781cca28d31b40d1f978cf2acba0", func := "stolon/stolonlaw08.MembAsks", spec := "membAsks", inPlace := ["slices.overlaps[stolon/api.Held]"], unfollowed := true, recurses := true, apart := false, narrowed := true }
def MembAsksUptoSaid : Prop := membAsksUptoRow.holds Try.pinned (OpenSpec.upto membAsksSpec)

/-- 'stolonlaw08.MembStays', WHERE WHAT IT READS IS OF BULK AT MOST 1048576: true; the input reads as it did. -/
def membStaysUptoRow : OpenClaim := { program := "ytbllchfgjginoaa", sum := "5cc75173c6427829afc00fba8c2b23e49a9a781cca28d31b40d1f978cf2acba0", func := "stolon/stolonlaw08.MembStays", spec := "membStays", inPlace := ["slices.overlaps[stolon/api.Held]"], unfollowed := true, recurses := true, apart := false, narrowed := true }
def MembStaysUptoSaid : Prop := membStaysUptoRow.holds Try.pinned (OpenSpec.upto membStaysSpec)

/-- 'stolonlaw08.MembKeeps', WHERE WHAT IT READS IS OF BULK AT MOST 1048576: true; the input reads as it did. -/
def membKeepsUptoRow : OpenClaim := { program := "ytbllchfgjginoaa", sum := "5cc75173c6427829afc00fba8c2b23e49a9a781cca28d31b40d1f978cf2acba0", func := "stolon/stolonlaw08.MembKeeps", spec := "membKeeps", inPlace := ["slices.overlaps[stolon/api.Held]"], unfollowed := true, recurses := true, apart := false, narrowed := true }
def MembKeepsUptoSaid : Prop := membKeepsUptoRow.holds Try.pinned (OpenSpec.upto membKeepsSpec)

/-- 'stolonlaw08.MembAdds', WHERE WHAT IT READS IS OF BULK AT MOST 1048576: true; the input reads as it did. -/
def membAddsUptoRow : OpenClaim := { program := "ytbllchfgjginoaa", sum := "5cc75173c6427829afc00fba8c2b23e49a9a781cca28d31b40d1f978cf2acba0", func := "stolon/stolonlaw08.MembAdds", spec := "membAdds", inPlace := ["slices.overlaps[stolon/api.Held]"], unfollowed := true, recurses := true, apart := false, narrowed := true }
def MembAddsUptoSaid : Prop := membAddsUptoRow.holds Try.pinned (OpenSpec.upto membAddsSpec)

/-- 'stolonlaw08.MembTurns', WHERE WHAT IT READS IS OF BULK AT MOST 1048576: true; the input reads as it did. -/
def membTurnsUptoRow : OpenClaim := { program := "ytbllchfgjginoaa", sum := "5cc75173c6427829afc00fba8c2b23e49a9a781cca28d31b40d1f978cf2acba0", func := "stolon/stolonlaw08.MembTurns", spec := "membTurns", inPlace := ["slices.overlaps[stolon/api.Held]"], unfollowed := true, recurses := true, apart := false, narrowed := true }
def MembTurnsUptoSaid : Prop := membTurnsUptoRow.holds Try.pinned (OpenSpec.upto membTurnsSpec)

end Rows
end Go.Proofs.Ytbllchfgjginoaa
