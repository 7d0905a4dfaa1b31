/-
  No cell of these rows narrows 'for every input' (looked for: loops, veiled, ifaces, maps, wideKeys, modest, calm, conditions, laid).
  DERIVED. THE GIVEN ROWS OF THIS SEAT. 5 by the template 'for every input the law returns true; each argument reads behind the call as it read before'; 0 by the template 'total and deterministic' (their statements: YtjncmiclpaodhaaTotals.lean).
  GIVEN WITH THE SEED: the statements are not yours to turn. If you find one false, say at which input.
  Laid BY PROGRAM, IN A SANDBOX (cutbox-rows.mjs): the forced cells as the released guide's own fill.sh prints them over the translation 760572986c6afdbd… (all of the seat's roots in one cut). By AI agents, Wed Nov 11 2026. No macro, syntax, notation, axiom, sorry.
-/
import Derived.Test.YtjncmiclpaodhaaChecked
import GoSem.Claim
import GoSem.ClaimJoined
import GoSem.ClaimMapViews
import Derived.JoinedTies
import Derived.KernelRfl
namespace Go.Proofs.Ytjncmiclpaodhaa
/- THE CELL 'sum', in the pinned program and in every row, IS THE sha256 OF THE DUMP (.gsa) THAT YtjncmiclpaodhaaProg.lean LOADS. Nothing in Lean hashes anything: it is a label: what it is worth is what the hold of that sum in a sandbox is worth. -/
noncomputable def Try.pinned : Pinned := { name := "ytjncmiclpaodhaa", sum := "760572986c6afdbd4a36eb391f8afbb555fa5256efff1b26d5ab8b3c77b6f1c8", checked := Try.checked }
namespace Rows
def none {H : Type} : Left H := { results := [], args := [] }

/-- 'stolonlaw07.HostSays': WHATEVER THE INPUT: true; the input reads as it did. -/
def hostSaysSpec : ChangeSpec := { name := "hostSays", fn := fun _ => fun
  | [d] => { results := [.lit (.bool true)], args := [d] }
  | _ => none }
def hostSaysRow : OpenClaim := { program := "ytjncmiclpaodhaa", sum := "760572986c6afdbd4a36eb391f8afbb555fa5256efff1b26d5ab8b3c77b6f1c8", func := "stolon/stolonlaw07.HostSays", spec := "hostSays", inPlace := ["slices.overlaps[stolon/api.Socket]"], unfollowed := true, recurses := true, plainKeys := false, apart := false }
def HostSaysSaid : Prop := hostSaysRow.holds Try.pinned (OpenSpec.ofChange hostSaysSpec)

/-- ITS FALSE NEIGHBOUR: 'it returns false'. Refute it at one input. -/
def hostSaysWrong : ChangeSpec := { name := "hostSays", fn := fun _ => fun
  | [d] => { results := [.lit (.bool false)], args := [d] }
  | _ => none }
def HostSaysWrongFalsely : Prop := hostSaysRow.holds Try.pinned (OpenSpec.ofChange hostSaysWrong)

/-- 'stolonlaw07.HostTwo': WHATEVER THE INPUT: true; the input reads as it did. -/
def hostTwoSpec : ChangeSpec := { name := "hostTwo", fn := fun _ => fun
  | [d1, d2, d3] => { results := [.lit (.bool true)], args := [d1, d2, d3] }
  | _ => none }
def hostTwoRow : OpenClaim := { program := "ytjncmiclpaodhaa", sum := "760572986c6afdbd4a36eb391f8afbb555fa5256efff1b26d5ab8b3c77b6f1c8", func := "stolon/stolonlaw07.HostTwo", spec := "hostTwo", inPlace := ["slices.overlaps[stolon/api.Socket]"], unfollowed := true, recurses := true, plainKeys := false, apart := false }
def HostTwoSaid : Prop := hostTwoRow.holds Try.pinned (OpenSpec.ofChange hostTwoSpec)

/-- ITS FALSE NEIGHBOUR: 'it returns false'. Refute it at one input. -/
def hostTwoWrong : ChangeSpec := { name := "hostTwo", fn := fun _ => fun
  | [d1, d2, d3] => { results := [.lit (.bool false)], args := [d1, d2, d3] }
  | _ => none }
def HostTwoWrongFalsely : Prop := hostTwoRow.holds Try.pinned (OpenSpec.ofChange hostTwoWrong)

/-- 'stolonlaw07.HostChanges': WHATEVER THE INPUT: true; the input reads as it did. -/
def hostChangesSpec : ChangeSpec := { name := "hostChanges", fn := fun _ => fun
  | [d] => { results := [.lit (.bool true)], args := [d] }
  | _ => none }
def hostChangesRow : OpenClaim := { program := "ytjncmiclpaodhaa", sum := "760572986c6afdbd4a36eb391f8afbb555fa5256efff1b26d5ab8b3c77b6f1c8", func := "stolon/stolonlaw07.HostChanges", spec := "hostChanges", inPlace := ["slices.overlaps[stolon/api.Socket]"], unfollowed := true, recurses := true, plainKeys := false, apart := false }
def HostChangesSaid : Prop := hostChangesRow.holds Try.pinned (OpenSpec.ofChange hostChangesSpec)

/-- ITS FALSE NEIGHBOUR: 'it returns false'. Refute it at one input. -/
def hostChangesWrong : ChangeSpec := { name := "hostChanges", fn := fun _ => fun
  | [d] => { results := [.lit (.bool false)], args := [d] }
  | _ => none }
def HostChangesWrongFalsely : Prop := hostChangesRow.holds Try.pinned (OpenSpec.ofChange hostChangesWrong)

/-- 'stolonlaw07.HostStays': WHATEVER THE INPUT: true; the input reads as it did. -/
def hostStaysSpec : ChangeSpec := { name := "hostStays", fn := fun _ => fun
  | [d1, d2] => { results := [.lit (.bool true)], args := [d1, d2] }
  | _ => none }
def hostStaysRow : OpenClaim := { program := "ytjncmiclpaodhaa", sum := "760572986c6afdbd4a36eb391f8afbb555fa5256efff1b26d5ab8b3c77b6f1c8", func := "stolon/stolonlaw07.HostStays", spec := "hostStays", inPlace := ["slices.overlaps[stolon/api.Socket]"], unfollowed := true, recurses := true, plainKeys := false, apart := false }
def HostStaysSaid : Prop := hostStaysRow.holds Try.pinned (OpenSpec.ofChange hostStaysSpec)

/-- ITS FALSE NEIGHBOUR: 'it returns false'. Refute it at one input. -/
def hostStaysWrong : ChangeSpec := { name := "hostStays", fn := fun _ => fun
  | [d1, d2] => { results := [.lit (.bool false)], args := [d1, d2] }
  | _ => none }
def HostStaysWrongFalsely : Prop := hostStaysRow.holds Try.pinned (OpenSpec.ofChange hostStaysWrong)

/-- 'stolonlaw07.HostGroups': WHATEVER THE INPUT: true; the input reads as it did. -/
def hostGroupsSpec : ChangeSpec := { name := "hostGroups", fn := fun _ => fun
  | [d1, d2] => { results := [.lit (.bool true)], args := [d1, d2] }
  | _ => none }
def hostGroupsRow : OpenClaim := { program := "ytjncmiclpaodhaa", sum := "760572986c6afdbd4a36eb391f8afbb555fa5256efff1b26d5ab8b3c77b6f1c8", func := "stolon/stolonlaw07.HostGroups", spec := "hostGroups", inPlace := ["slices.overlaps[stolon/api.Socket]"], unfollowed := true, recurses := true, plainKeys := false, apart := false }
def HostGroupsSaid : Prop := hostGroupsRow.holds Try.pinned (OpenSpec.ofChange hostGroupsSpec)

/-- ITS FALSE NEIGHBOUR: 'it returns false'. Refute it at one input. -/
def hostGroupsWrong : ChangeSpec := { name := "hostGroups", fn := fun _ => fun
  | [d1, d2] => { results := [.lit (.bool false)], args := [d1, d2] }
  | _ => none }
def HostGroupsWrongFalsely : Prop := hostGroupsRow.holds Try.pinned (OpenSpec.ofChange hostGroupsWrong)

/- THE SECOND FORM. 'bulk': how many values and letters a reading holds, each counted each time it is reached (what is shared counts as often as it is met; a slice's spare places count too). A statement '..UptoSaid' is the law's where the arguments, and the package variables that the reading takes, are together of bulk at most 1048576: NARROWER than '..Said'. Prove '..Said' where nothing that the law and all that it calls make is longer than what came in: it says more and counts as full. Else prove '..UptoSaid'. A law counts once. -/
mutual
def uptoBulk {H : Type} : DataW H → Nat
  | .lit (.string bytes) => bytes.length + 1
  | .lit _ => 1
  | .nil => 1
  | .ptr d => uptoBulk d + 1
  | .slice elems spare => uptoBulkAll elems + uptoBulkAll spare + 1
  | .agg parts => uptoBulkAll parts + 1
  | .iface _ d => uptoBulk d + 1
  | .map entries => uptoBulkEntries entries + 1
  | .held _ => 1
def uptoBulkAll {H : Type} : List (DataW H) → Nat
  | [] => 0
  | d :: r => uptoBulk d + uptoBulkAll r
def uptoBulkEntries {H : Type} : List (Lit × DataW H) → Nat
  | [] => 0
  | x :: r => uptoBulkEntry x + uptoBulkEntries r
def uptoBulkEntry {H : Type} : Lit × DataW H → Nat
  | (.string bytes, d) => bytes.length + uptoBulk d + 1
  | (_, d) => uptoBulk d + 1
 end
def uptoSmall : (H : Type) → List (DataW H) → Bool := fun _ ds => decide (uptoBulkAll ds ≤ 1048576)
def OpenSpec.upto (s : _root_.Go.ChangeSpec) : _root_.Go.OpenSpec := { _root_.Go.OpenSpec.ofChange s with cond := some uptoSmall }

/-- 'stolonlaw07.HostSays', WHERE WHAT IT READS IS OF BULK AT MOST 1048576: true; the input reads as it did. -/
def hostSaysUptoRow : OpenClaim := { program := "ytjncmiclpaodhaa", sum := "760572986c6afdbd4a36eb391f8afbb555fa5256efff1b26d5ab8b3c77b6f1c8", func := "stolon/stolonlaw07.HostSays", spec := "hostSays", inPlace := ["slices.overlaps[stolon/api.Socket]"], unfollowed := true, recurses := true, plainKeys := false, apart := false, narrowed := true }
def HostSaysUptoSaid : Prop := hostSaysUptoRow.holds Try.pinned (OpenSpec.upto hostSaysSpec)

/-- 'stolonlaw07.HostTwo', WHERE WHAT IT READS IS OF BULK AT MOST 1048576: true; the input reads as it did. -/
def hostTwoUptoRow : OpenClaim := { program := "ytjncmiclpaodhaa", sum := "760572986c6afdbd4a36eb391f8afbb555fa5256efff1b26d5ab8b3c77b6f1c8", func := "stolon/stolonlaw07.HostTwo", spec := "hostTwo", inPlace := ["slices.overlaps[stolon/api.Socket]"], unfollowed := true, recurses := true, plainKeys := false, apart := false, narrowed := true }
def HostTwoUptoSaid : Prop := hostTwoUptoRow.holds Try.pinned (OpenSpec.upto hostTwoSpec)

/-- 'stolonlaw07.HostChanges', WHERE WHAT IT READS IS OF BULK AT MOST 1048576: true; the input reads as it did. -/
def hostChangesUptoRow : OpenClaim := { program := "ytjncmiclpaodhaa", sum := "760572986c6afdbd4a36eb391f8afbb555fa5256efff1b26d5ab8b3c77b6f1c8", func := "stolon/stolonlaw07.HostChanges", spec := "hostChanges", inPlace := ["slices.overlaps[stolon/api.Socket]"], unfollowed := true, recurses := true, plainKeys := false, apart := false, narrowed := true }
def HostChangesUptoSaid : Prop := hostChangesUptoRow.holds Try.pinned (OpenSpec.upto hostChangesSpec)

/-- 'stolonlaw07.HostStays', WHERE WHAT IT READS IS OF BULK AT MOST 1048576: true; the input reads as it did. -/
def hostStaysUptoRow : OpenClaim := { program := "ytjncmiclpaodhaa", sum := "760572986c6afdbd4a36eb391f8afbb555fa5256efff1b26d5ab8b3c77b6f1c8", func := "stolon/stolonlaw07.HostStays", spec := "hostStays", inPlace := ["slices.overlaps[stolon/api.Socket]"], unfollowed := true, recurses := true, plainKeys := false, apart := false, narrowed := true }
def HostStaysUptoSaid : Prop := hostStaysUptoRow.holds Try.pinned (OpenSpec.upto hostStaysSpec)

/-- 'stolonlaw07.HostGroups', WHERE WHAT IT READS IS OF BULK AT MOST 1048576: true; the input reads as it did. -/
def hostGroupsUptoRow : OpenClaim := { program := "ytjncmiclpaodhaa", sum := "760572986c6afdbd4a36eb391f8afbb555fa5256efff1b26d5ab8b3c77b6f1c8", func := "stolon/stolonlaw07.HostGroups", spec := "hostGroups", inPlace := ["slices.overlaps[stolon/api.Socket]"], unfollowed := true, recurses := true, plainKeys := false, apart := false, narrowed := true }
def HostGroupsUptoSaid : Prop := hostGroupsUptoRow.holds Try.pinned (OpenSpec.upto hostGroupsSpec)

end Rows
end Go.Proofs.Ytjncmiclpaodhaa
