/-
  No cell of these rows narrows 'for every input' (looked for: loops, veiled, ifaces, maps, wideKeys, modest, calm, conditions, laid).
  DERIVED. THE GIVEN ROWS OF THIS SEAT. 8 by the template 'for every input the law returns true; each argument reads behind the call as it read before'; 0 by the template 'total and deterministic' (their statements: YtmmjmncchckbbaaTotals.lean).
  GIVEN WITH THE SEED: the statements are not yours to turn. If you find one false, say at which input.
  Laid BY PROGRAM, IN A SANDBOX (cutbox-rows.mjs): the forced cells as the released guide's own fill.sh prints them over the translation 0f5a55b84ab567b5… (all of the seat's roots in one cut). By AI agents, Wed Nov 11 2026. No macro, syntax, notation, axiom, sorry.
-/
import Derived.Test.YtmmjmncchckbbaaChecked
import GoSem.Claim
import GoSem.ClaimJoined
import GoSem.ClaimMapViews
import Derived.JoinedTies
import Derived.KernelRfl
namespace Go.Proofs.Ytmmjmncchckbbaa
/- THE CELL 'sum', in the pinned program and in every row, IS THE sha256 OF THE DUMP (.gsa) THAT YtmmjmncchckbbaaProg.lean LOADS. Nothing in Lean hashes anything: it is a label: what it is worth is what the hold of that sum in a sandbox is worth. -/
noncomputable def Try.pinned : Pinned := { name := "ytmmjmncchckbbaa", sum := "0f5a55b84ab567b53ea0d67f114fd6d3b36c0c4b4b1c1d9e58d11061a758b179", checked := Try.checked }
namespace Rows
def none {H : Type} : Left H := { results := [], args := [] }

/-- 'stolonlaw05.IgmpWrites': WHATEVER THE INPUT: true; the input reads as it did. -/
def igmpWritesSpec : ChangeSpec := { name := "igmpWrites", fn := fun _ => fun
  | [d1, d2] => { results := [.lit (.bool true)], args := [d1, d2] }
  | _ => none }
def igmpWritesRow : OpenClaim := { program := "ytmmjmncchckbbaa", sum := "0f5a55b84ab567b53ea0d67f114fd6d3b36c0c4b4b1c1d9e58d11061a758b179", func := "stolon/stolonlaw05.IgmpWrites", spec := "igmpWrites", unfollowed := true, recurses := true, apart := false }
def IgmpWritesSaid : Prop := igmpWritesRow.holds Try.pinned (OpenSpec.ofChange igmpWritesSpec)

/-- ITS FALSE NEIGHBOUR: 'it returns false'. Refute it at one input. -/
def igmpWritesWrong : ChangeSpec := { name := "igmpWrites", fn := fun _ => fun
  | [d1, d2] => { results := [.lit (.bool false)], args := [d1, d2] }
  | _ => none }
def IgmpWritesWrongFalsely : Prop := igmpWritesRow.holds Try.pinned (OpenSpec.ofChange igmpWritesWrong)

/-- 'stolonlaw05.IgmpReads': WHATEVER THE INPUT: true; the input reads as it did. -/
def igmpReadsSpec : ChangeSpec := { name := "igmpReads", fn := fun _ => fun
  | [d] => { results := [.lit (.bool true)], args := [d] }
  | _ => none }
def igmpReadsRow : OpenClaim := { program := "ytmmjmncchckbbaa", sum := "0f5a55b84ab567b53ea0d67f114fd6d3b36c0c4b4b1c1d9e58d11061a758b179", func := "stolon/stolonlaw05.IgmpReads", spec := "igmpReads", unfollowed := true, recurses := true, apart := false }
def IgmpReadsSaid : Prop := igmpReadsRow.holds Try.pinned (OpenSpec.ofChange igmpReadsSpec)

/-- ITS FALSE NEIGHBOUR: 'it returns false'. Refute it at one input. -/
def igmpReadsWrong : ChangeSpec := { name := "igmpReads", fn := fun _ => fun
  | [d] => { results := [.lit (.bool false)], args := [d] }
  | _ => none }
def IgmpReadsWrongFalsely : Prop := igmpReadsRow.holds Try.pinned (OpenSpec.ofChange igmpReadsWrong)

/-- 'stolonlaw05.IgmpBack': WHATEVER THE INPUT: true; the input reads as it did. -/
def igmpBackSpec : ChangeSpec := { name := "igmpBack", fn := fun _ => fun
  | [d] => { results := [.lit (.bool true)], args := [d] }
  | _ => none }
def igmpBackRow : OpenClaim := { program := "ytmmjmncchckbbaa", sum := "0f5a55b84ab567b53ea0d67f114fd6d3b36c0c4b4b1c1d9e58d11061a758b179", func := "stolon/stolonlaw05.IgmpBack", spec := "igmpBack", unfollowed := true, recurses := true, apart := false }
def IgmpBackSaid : Prop := igmpBackRow.holds Try.pinned (OpenSpec.ofChange igmpBackSpec)

/-- ITS FALSE NEIGHBOUR: 'it returns false'. Refute it at one input. -/
def igmpBackWrong : ChangeSpec := { name := "igmpBack", fn := fun _ => fun
  | [d] => { results := [.lit (.bool false)], args := [d] }
  | _ => none }
def IgmpBackWrongFalsely : Prop := igmpBackRow.holds Try.pinned (OpenSpec.ofChange igmpBackWrong)

/-- 'stolonlaw05.IgmpOnly': WHATEVER THE INPUT: true; the input reads as it did. -/
def igmpOnlySpec : ChangeSpec := { name := "igmpOnly", fn := fun _ => fun
  | [d] => { results := [.lit (.bool true)], args := [d] }
  | _ => none }
def igmpOnlyRow : OpenClaim := { program := "ytmmjmncchckbbaa", sum := "0f5a55b84ab567b53ea0d67f114fd6d3b36c0c4b4b1c1d9e58d11061a758b179", func := "stolon/stolonlaw05.IgmpOnly", spec := "igmpOnly", unfollowed := true, recurses := true, apart := false }
def IgmpOnlySaid : Prop := igmpOnlyRow.holds Try.pinned (OpenSpec.ofChange igmpOnlySpec)

/-- ITS FALSE NEIGHBOUR: 'it returns false'. Refute it at one input. -/
def igmpOnlyWrong : ChangeSpec := { name := "igmpOnly", fn := fun _ => fun
  | [d] => { results := [.lit (.bool false)], args := [d] }
  | _ => none }
def IgmpOnlyWrongFalsely : Prop := igmpOnlyRow.holds Try.pinned (OpenSpec.ofChange igmpOnlyWrong)

/-- 'stolonlaw05.IgmpLong': WHATEVER THE INPUT: true; the input reads as it did. -/
def igmpLongSpec : ChangeSpec := { name := "igmpLong", fn := fun _ => fun
  | [d] => { results := [.lit (.bool true)], args := [d] }
  | _ => none }
def igmpLongRow : OpenClaim := { program := "ytmmjmncchckbbaa", sum := "0f5a55b84ab567b53ea0d67f114fd6d3b36c0c4b4b1c1d9e58d11061a758b179", func := "stolon/stolonlaw05.IgmpLong", spec := "igmpLong", unfollowed := true, recurses := true, apart := false }
def IgmpLongSaid : Prop := igmpLongRow.holds Try.pinned (OpenSpec.ofChange igmpLongSpec)

/-- ITS FALSE NEIGHBOUR: 'it returns false'. Refute it at one input. -/
def igmpLongWrong : ChangeSpec := { name := "igmpLong", fn := fun _ => fun
  | [d] => { results := [.lit (.bool false)], args := [d] }
  | _ => none }
def IgmpLongWrongFalsely : Prop := igmpLongRow.holds Try.pinned (OpenSpec.ofChange igmpLongWrong)

/-- 'stolonlaw05.IgmpVersions': WHATEVER THE INPUT: true; the input reads as it did. -/
def igmpVersionsSpec : ChangeSpec := { name := "igmpVersions", fn := fun _ => fun
  | [d1, d2, d3] => { results := [.lit (.bool true)], args := [d1, d2, d3] }
  | _ => none }
def igmpVersionsRow : OpenClaim := { program := "ytmmjmncchckbbaa", sum := "0f5a55b84ab567b53ea0d67f114fd6d3b36c0c4b4b1c1d9e58d11061a758b179", func := "stolon/stolonlaw05.IgmpVersions", spec := "igmpVersions", unfollowed := true, recurses := true, apart := false }
def IgmpVersionsSaid : Prop := igmpVersionsRow.holds Try.pinned (OpenSpec.ofChange igmpVersionsSpec)

/-- ITS FALSE NEIGHBOUR: 'it returns false'. Refute it at one input. -/
def igmpVersionsWrong : ChangeSpec := { name := "igmpVersions", fn := fun _ => fun
  | [d1, d2, d3] => { results := [.lit (.bool false)], args := [d1, d2, d3] }
  | _ => none }
def IgmpVersionsWrongFalsely : Prop := igmpVersionsRow.holds Try.pinned (OpenSpec.ofChange igmpVersionsWrong)

/-- 'stolonlaw05.IgmpGroups': WHATEVER THE INPUT: true; the input reads as it did. -/
def igmpGroupsSpec : ChangeSpec := { name := "igmpGroups", fn := fun _ => fun
  | [d1, d2] => { results := [.lit (.bool true)], args := [d1, d2] }
  | _ => none }
def igmpGroupsRow : OpenClaim := { program := "ytmmjmncchckbbaa", sum := "0f5a55b84ab567b53ea0d67f114fd6d3b36c0c4b4b1c1d9e58d11061a758b179", func := "stolon/stolonlaw05.IgmpGroups", spec := "igmpGroups", unfollowed := true, recurses := true, apart := false }
def IgmpGroupsSaid : Prop := igmpGroupsRow.holds Try.pinned (OpenSpec.ofChange igmpGroupsSpec)

/-- ITS FALSE NEIGHBOUR: 'it returns false'. Refute it at one input. -/
def igmpGroupsWrong : ChangeSpec := { name := "igmpGroups", fn := fun _ => fun
  | [d1, d2] => { results := [.lit (.bool false)], args := [d1, d2] }
  | _ => none }
def IgmpGroupsWrongFalsely : Prop := igmpGroupsRow.holds Try.pinned (OpenSpec.ofChange igmpGroupsWrong)

/-- 'stolonlaw05.IgmpOneOff': WHATEVER THE INPUT: true; the input reads as it did. -/
def igmpOneOffSpec : ChangeSpec := { name := "igmpOneOff", fn := fun _ => fun
  | [d1, d2, d3] => { results := [.lit (.bool true)], args := [d1, d2, d3] }
  | _ => none }
def igmpOneOffRow : OpenClaim := { program := "ytmmjmncchckbbaa", sum := "0f5a55b84ab567b53ea0d67f114fd6d3b36c0c4b4b1c1d9e58d11061a758b179", func := "stolon/stolonlaw05.IgmpOneOff", spec := "igmpOneOff", unfollowed := true, recurses := true, apart := false }
def IgmpOneOffSaid : Prop := igmpOneOffRow.holds Try.pinned (OpenSpec.ofChange igmpOneOffSpec)

/-- ITS FALSE NEIGHBOUR: 'it returns false'. Refute it at one input. -/
def igmpOneOffWrong : ChangeSpec := { name := "igmpOneOff", fn := fun _ => fun
  | [d1, d2, d3] => { results := [.lit (.bool false)], args := [d1, d2, d3] }
  | _ => none }
def IgmpOneOffWrongFalsely : Prop := igmpOneOffRow.holds Try.pinned (OpenSpec.ofChange igmpOneOffWrong)

/- THE SECOND FORM. 'bulk': how many values and letters a reading holds, each counted each time it is reached (what is shared counts as often as it is met; a slice's spare places count too). A statement '..UptoSaid' is the law's where the arguments, and the package variables that the reading takes, are together of bulk at most 1048576: NARROWER than '..Said'. Prove '..Said' where nothing that the law and all that it calls make is longer than what came in: it says more and counts as full. Else prove '..UptoSaid'. A law counts once. -/
mutual
def uptoBulk {H : Type} : DataW H → Nat
  | .lit (.string bytes) => bytes.length + 1
  | .lit _ => 1
  | .nil => 1
  | .ptr d => uptoBulk d + 1
  | .slice elems spare => uptoBulkAll elems + uptoBulkAll spare + 1
  | .agg parts => uptoBulkAll parts + 1
  | .iface _ d => uptoBulk d + 1
  | .map entries => uptoBulkEntries entries + 1
  | .held _ => 1
def uptoBulkAll {H : Type} : List (DataW H) → Nat
  | [] => 0
  | d :: r => uptoBulk d + uptoBulkAll r
def uptoBulkEntries {H : Type} : List (Lit × DataW H) → Nat
  | [] => 0
  | x :: r => uptoBulkEntry x + uptoBulkEntries r
def uptoBulkEntry {H : Type} : Lit × DataW H → Nat
  | (.string bytes, d) => bytes.length + uptoBulk d + 1
  | (_, d) => uptoBulk d + 1
 end
def uptoSmall : (H : Type) → List (DataW H) → Bool := fun _ ds => decide (uptoBulkAll ds ≤ 1048576)
def OpenSpec.upto (s : _root_.Go.ChangeSpec) : _root_.Go.OpenSpec := { _root_.Go.OpenSpec.ofChange s with cond := some uptoSmall }

/-- 'stolonlaw05.IgmpWrites', WHERE WHAT IT READS IS OF BULK AT MOST 1048576: true; the input reads as it did. -/
def igmpWritesUptoRow : OpenClaim := { program := "ytmmjmncchckbbaa", sum := "0f5a55b84ab567b53ea0d67f114fd6d3b36c0c4b4b1c1d9e58d11061a758b179", func := "stolon/stolonlaw05.IgmpWrites", spec := "igmpWrites", unfollowed := true, recurses := true, apart := false, narrowed := true }
def IgmpWritesUptoSaid : Prop := igmpWritesUptoRow.holds Try.pinned (OpenSpec.upto igmpWritesSpec)

/-- 'stolonlaw05.IgmpReads', WHERE WHAT IT READS IS OF BULK AT MOST 1048576: true; the input reads as it did. -/
def igmpReadsUptoRow : OpenClaim := { program := "ytmmjmncchckbbaa", sum := "0f5a55b84ab567b53ea0d67f114fd6d3b36c0c4b4b1c1d9e58d11061a758b179", func := "stolon/stolonlaw05.IgmpReads", spec := "igmpReads", unfollowed := true, recurses := true, apart := false, narrowed := true }
def IgmpReadsUptoSaid : Prop := igmpReadsUptoRow.holds Try.pinned (OpenSpec.upto igmpReadsSpec)

/-- 'stolonlaw05.IgmpBack', WHERE WHAT IT READS IS OF BULK AT MOST 1048576: true; the input reads as it did. -/
def igmpBackUptoRow : OpenClaim := { program := "ytmmjmncchckbbaa", sum := "0f5a55b84ab567b53ea0d67f114fd6d3b36c0c4b4b1c1d9e58d11061a758b179", func := "stolon/stolonlaw05.IgmpBack", spec := "igmpBack", unfollowed := true, recurses := true, apart := false, narrowed := true }
def IgmpBackUptoSaid : Prop := igmpBackUptoRow.holds Try.pinned (OpenSpec.upto igmpBackSpec)

/-- 'stolonlaw05.IgmpOnly', WHERE WHAT IT READS IS OF BULK AT MOST 1048576: true; the input reads as it did. -/
def igmpOnlyUptoRow : OpenClaim := { program := "ytmmjmncchckbbaa", sum := "0f5a55b84ab567b53ea0d67f114fd6d3b36c0c4b4b1c1d9e58d11061a758b179", func := "stolon/stolonlaw05.IgmpOnly", spec := "igmpOnly", unfollowed := true, recurses := true, apart := false, narrowed := true }
def IgmpOnlyUptoSaid : Prop := igmpOnlyUptoRow.holds Try.pinned (OpenSpec.upto igmpOnlySpec)

/-- 'stolonlaw05.IgmpLong', WHERE WHAT IT READS IS OF BULK AT MOST 1048576: true; the input reads as it did. -/
def igmpLongUptoRow : OpenClaim := { program := "ytmmjmncchckbbaa", sum := "0f5a55b84ab567b53ea0d67f114fd6d3b36c0c4b4b1c1d9e58d11061a758b179", func := "stolon/stolonlaw05.IgmpLong", spec := "igmpLong", unfollowed := true, recurses := true, apart := false, narrowed := true }
def IgmpLongUptoSaid : Prop := igmpLongUptoRow.holds Try.pinned (OpenSpec.upto igmpLongSpec)

/-- 'stolonlaw05.IgmpVersions', WHERE WHAT IT READS IS OF BULK AT MOST 1048576: true; the input reads as it did. -/
def igmpVersionsUptoRow : OpenClaim := { program := "ytmmjmncchckbbaa", sum := "0f5a55b84ab567b53ea0d67f114fd6d3b36c0c4b4b1c1d9e58d11061a758b179", func := "stolon/stolonlaw05.IgmpVersions", spec := "igmpVersions", unfollowed := true, recurses := true, apart := false, narrowed := true }
def IgmpVersionsUptoSaid : Prop := igmpVersionsUptoRow.holds Try.pinned (OpenSpec.upto igmpVersionsSpec)

/-- 'stolonlaw05.IgmpGroups', WHERE WHAT IT READS IS OF BULK AT MOST 1048576: true; the input reads as it did. -/
def igmpGroupsUptoRow : OpenClaim := { program := "ytmmjmncchckbbaa", sum := "0f5a55b84ab567b53ea0d67f114fd6d3b36c0c4b4b1c1d9e58d11061a758b179", func := "stolon/stolonlaw05.IgmpGroups", spec := "igmpGroups", unfollowed := true, recurses := true, apart := false, narrowed := true }
def IgmpGroupsUptoSaid : Prop := igmpGroupsUptoRow.holds Try.pinned (OpenSpec.upto igmpGroupsSpec)

/-- 'stolonlaw05.IgmpOneOff', WHERE WHAT IT READS IS OF BULK AT MOST 1048576: true; the input reads as it did. -/
def igmpOneOffUptoRow : OpenClaim := { program := "ytmmjmncchckbbaa", sum := "0f5a55b84ab567b53ea0d67f114fd6d3b36c0c4b4b1c1d9e58d11061a758b179", func := "stolon/stolonlaw05.IgmpOneOff", spec := "igmpOneOff", unfollowed := true, recurses := true, apart := false, narrowed := true }
def IgmpOneOffUptoSaid : Prop := igmpOneOffUptoRow.holds Try.pinned (OpenSpec.upto igmpOneOffSpec)

end Rows
end Go.Proofs.Ytmmjmncchckbbaa
