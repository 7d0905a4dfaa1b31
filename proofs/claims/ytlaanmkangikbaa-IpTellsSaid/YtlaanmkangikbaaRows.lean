/-
  No cell of these rows narrows 'for every input' (looked for: loops, veiled, ifaces, maps, wideKeys, modest, calm, conditions, laid).
  DERIVED. THE GIVEN ROWS OF THIS SEAT. 6 by the template 'for every input the law returns true; each argument reads behind the call as it read before'; 0 by the template 'total and deterministic' (their statements: YtlaanmkangikbaaTotals.lean).
  GIVEN WITH THE SEED: the statements are not yours to turn. If you find one false, say at which input.
  Laid BY PROGRAM, IN A SANDBOX (cutbox-rows.mjs): the forced cells as the released guide's own fill.sh prints them over the translation 3149b38e5c55beea… (all of the seat's roots in one cut). By AI agents, Wed Nov 11 2026. No macro, syntax, notation, axiom, sorry.
-/
import Derived.Test.YtlaanmkangikbaaChecked
import GoSem.Claim
import GoSem.ClaimJoined
import GoSem.ClaimMapViews
import Derived.JoinedTies
import Derived.KernelRfl
namespace Go.Proofs.Ytlaanmkangikbaa
/- THE CELL 'sum', in the pinned program and in every row, IS THE sha256 OF THE DUMP (.gsa) THAT YtlaanmkangikbaaProg.lean LOADS. Nothing in Lean hashes anything: it is a label: what it is worth is what the hold of that sum in a sandbox is worth. -/
noncomputable def Try.pinned : Pinned := { name := "ytlaanmkangikbaa", sum := "3149b38e5c55beea902a28e7cc335ef7e939a5291619989c3167e3ffb5ad2d60", checked := Try.checked }
namespace Rows
def none {H : Type} : Left H := { results := [], args := [] }

/-- 'stolonlaw04.IpBack': WHATEVER THE INPUT: true; the input reads as it did. -/
def ipBackSpec : ChangeSpec := { name := "ipBack", fn := fun _ => fun
  | [d1, d2, d3] => { results := [.lit (.bool true)], args := [d1, d2, d3] }
  | _ => none }
def ipBackRow : OpenClaim := { program := "ytlaanmkangikbaa", sum := "3149b38e5c55beea902a28e7cc335ef7e939a5291619989c3167e3ffb5ad2d60", func := "stolon/stolonlaw04.IpBack", spec := "ipBack", unfollowed := true, recurses := true, apart := false }
def IpBackSaid : Prop := ipBackRow.holds Try.pinned (OpenSpec.ofChange ipBackSpec)

/-- ITS FALSE NEIGHBOUR: 'it returns false'. Refute it at one input. -/
def ipBackWrong : ChangeSpec := { name := "ipBack", fn := fun _ => fun
  | [d1, d2, d3] => { results := [.lit (.bool false)], args := [d1, d2, d3] }
  | _ => none }
def IpBackWrongFalsely : Prop := ipBackRow.holds Try.pinned (OpenSpec.ofChange ipBackWrong)

/-- 'stolonlaw04.IpCuts': WHATEVER THE INPUT: true; the input reads as it did. -/
def ipCutsSpec : ChangeSpec := { name := "ipCuts", fn := fun _ => fun
  | [d1, d2, d3] => { results := [.lit (.bool true)], args := [d1, d2, d3] }
  | _ => none }
def ipCutsRow : OpenClaim := { program := "ytlaanmkangikbaa", sum := "3149b38e5c55beea902a28e7cc335ef7e939a5291619989c3167e3ffb5ad2d60", func := "stolon/stolonlaw04.IpCuts", spec := "ipCuts", unfollowed := true, recurses := true, apart := false }
def IpCutsSaid : Prop := ipCutsRow.holds Try.pinned (OpenSpec.ofChange ipCutsSpec)

/-- ITS FALSE NEIGHBOUR: 'it returns false'. Refute it at one input. -/
def ipCutsWrong : ChangeSpec := { name := "ipCuts", fn := fun _ => fun
  | [d1, d2, d3] => { results := [.lit (.bool false)], args := [d1, d2, d3] }
  | _ => none }
def IpCutsWrongFalsely : Prop := ipCutsRow.holds Try.pinned (OpenSpec.ofChange ipCutsWrong)

/-- 'stolonlaw04.IpOne': WHATEVER THE INPUT: true; the input reads as it did. -/
def ipOneSpec : ChangeSpec := { name := "ipOne", fn := fun _ => fun
  | [d] => { results := [.lit (.bool true)], args := [d] }
  | _ => none }
def ipOneRow : OpenClaim := { program := "ytlaanmkangikbaa", sum := "3149b38e5c55beea902a28e7cc335ef7e939a5291619989c3167e3ffb5ad2d60", func := "stolon/stolonlaw04.IpOne", spec := "ipOne", unfollowed := true, recurses := true, apart := false }
def IpOneSaid : Prop := ipOneRow.holds Try.pinned (OpenSpec.ofChange ipOneSpec)

/-- ITS FALSE NEIGHBOUR: 'it returns false'. Refute it at one input. -/
def ipOneWrong : ChangeSpec := { name := "ipOne", fn := fun _ => fun
  | [d] => { results := [.lit (.bool false)], args := [d] }
  | _ => none }
def IpOneWrongFalsely : Prop := ipOneRow.holds Try.pinned (OpenSpec.ofChange ipOneWrong)

/-- 'stolonlaw04.IpLong': WHATEVER THE INPUT: true; the input reads as it did. -/
def ipLongSpec : ChangeSpec := { name := "ipLong", fn := fun _ => fun
  | [d1, d2] => { results := [.lit (.bool true)], args := [d1, d2] }
  | _ => none }
def ipLongRow : OpenClaim := { program := "ytlaanmkangikbaa", sum := "3149b38e5c55beea902a28e7cc335ef7e939a5291619989c3167e3ffb5ad2d60", func := "stolon/stolonlaw04.IpLong", spec := "ipLong", unfollowed := true, recurses := true, apart := false }
def IpLongSaid : Prop := ipLongRow.holds Try.pinned (OpenSpec.ofChange ipLongSpec)

/-- ITS FALSE NEIGHBOUR: 'it returns false'. Refute it at one input. -/
def ipLongWrong : ChangeSpec := { name := "ipLong", fn := fun _ => fun
  | [d1, d2] => { results := [.lit (.bool false)], args := [d1, d2] }
  | _ => none }
def IpLongWrongFalsely : Prop := ipLongRow.holds Try.pinned (OpenSpec.ofChange ipLongWrong)

/-- 'stolonlaw04.IpTells': WHATEVER THE INPUT: true; the input reads as it did. -/
def ipTellsSpec : ChangeSpec := { name := "ipTells", fn := fun _ => fun
  | [d1, d2, d3] => { results := [.lit (.bool true)], args := [d1, d2, d3] }
  | _ => none }
def ipTellsRow : OpenClaim := { program := "ytlaanmkangikbaa", sum := "3149b38e5c55beea902a28e7cc335ef7e939a5291619989c3167e3ffb5ad2d60", func := "stolon/stolonlaw04.IpTells", spec := "ipTells", unfollowed := true, recurses := true, apart := false }
def IpTellsSaid : Prop := ipTellsRow.holds Try.pinned (OpenSpec.ofChange ipTellsSpec)

/-- ITS FALSE NEIGHBOUR: 'it returns false'. Refute it at one input. -/
def ipTellsWrong : ChangeSpec := { name := "ipTells", fn := fun _ => fun
  | [d1, d2, d3] => { results := [.lit (.bool false)], args := [d1, d2, d3] }
  | _ => none }
def IpTellsWrongFalsely : Prop := ipTellsRow.holds Try.pinned (OpenSpec.ofChange ipTellsWrong)

/-- 'stolonlaw04.IpPasses': WHATEVER THE INPUT: true; the input reads as it did. -/
def ipPassesSpec : ChangeSpec := { name := "ipPasses", fn := fun _ => fun
  | [d1, d2] => { results := [.lit (.bool true)], args := [d1, d2] }
  | _ => none }
def ipPassesRow : OpenClaim := { program := "ytlaanmkangikbaa", sum := "3149b38e5c55beea902a28e7cc335ef7e939a5291619989c3167e3ffb5ad2d60", func := "stolon/stolonlaw04.IpPasses", spec := "ipPasses", unfollowed := true, recurses := true, apart := false }
def IpPassesSaid : Prop := ipPassesRow.holds Try.pinned (OpenSpec.ofChange ipPassesSpec)

/-- ITS FALSE NEIGHBOUR: 'it returns false'. Refute it at one input. -/
def ipPassesWrong : ChangeSpec := { name := "ipPasses", fn := fun _ => fun
  | [d1, d2] => { results := [.lit (.bool false)], args := [d1, d2] }
  | _ => none }
def IpPassesWrongFalsely : Prop := ipPassesRow.holds Try.pinned (OpenSpec.ofChange ipPassesWrong)

/- THE SECOND FORM. 'bulk': how many values and letters a reading holds, each counted each time it is reached (what is shared counts as often as it is met; a slice's spare places count too). A statement '..UptoSaid' is the law's where the arguments, and the package variables that the reading takes, are together of bulk at most 1048576: NARROWER than '..Said'. Prove '..Said' where nothing that the law and all that it calls make is longer than what came in: it says more and counts as full. Else prove '..UptoSaid'. A law counts once. -/
mutual
def uptoBulk {H : Type} : DataW H → Nat
  | .lit (.string bytes) => bytes.length + 1
  | .lit _ => 1
  | .nil => 1
  | .ptr d => uptoBulk d + 1
  | .slice elems spare => uptoBulkAll elems + uptoBulkAll spare + 1
  | .agg parts => uptoBulkAll parts + 1
  | .iface _ d => uptoBulk d + 1
  | .map entries => uptoBulkEntries entries + 1
  | .held _ => 1
def uptoBulkAll {H : Type} : List (DataW H) → Nat
  | [] => 0
  | d :: r => uptoBulk d + uptoBulkAll r
def uptoBulkEntries {H : Type} : List (Lit × DataW H) → Nat
  | [] => 0
  | x :: r => uptoBulkEntry x + uptoBulkEntries r
def uptoBulkEntry {H : Type} : Lit × DataW H → Nat
  | (.string bytes, d) => bytes.length + uptoBulk d + 1
  | (_, d) => uptoBulk d + 1
 end
def uptoSmall : (H : Type) → List (DataW H) → Bool := fun _ ds => decide (uptoBulkAll ds ≤ 1048576)
def OpenSpec.upto (s : _root_.Go.ChangeSpec) : _root_.Go.OpenSpec := { _root_.Go.OpenSpec.ofChange s with cond := some uptoSmall }

/-- 'stolonlaw04.IpBack', WHERE WHAT IT READS IS OF BULK AT MOST 1048576: true; the input reads as it did. -/
def ipBackUptoRow : OpenClaim := { program := "ytlaanmkangikbaa", sum := "3149b38e5c55beea902a28e7cc335ef7e939a5291619989c3167e3ffb5ad2d60", func := "stolon/stolonlaw04.IpBack", spec := "ipBack", unfollowed := true, recurses := true, apart := false, narrowed := true }
def IpBackUptoSaid : Prop := ipBackUptoRow.holds Try.pinned (OpenSpec.upto ipBackSpec)

/-- 'stolonlaw04.IpCuts', WHERE WHAT IT READS IS OF BULK AT MOST 1048576: true; the input reads as it did. -/
def ipCutsUptoRow : OpenClaim := { program := "ytlaanmkangikbaa", sum := "3149b38e5c55beea902a28e7cc335ef7e939a5291619989c3167e3ffb5ad2d60", func := "stolon/stolonlaw04.IpCuts", spec := "ipCuts", unfollowed := true, recurses := true, apart := false, narrowed := true }
def IpCutsUptoSaid : Prop := ipCutsUptoRow.holds Try.pinned (OpenSpec.upto ipCutsSpec)

/-- 'stolonlaw04.IpOne', WHERE WHAT IT READS IS OF BULK AT MOST 1048576: true; the input reads as it did. -/
def ipOneUptoRow : OpenClaim := { program := "ytlaanmkangikbaa", sum := "3149b38e5c55beea902a28e7cc335ef7e939a5291619989c3167e3ffb5ad2d60", func := "stolon/stolonlaw04.IpOne", spec := "ipOne", unfollowed := true, recurses := true, apart := false, narrowed := true }
def IpOneUptoSaid : Prop := ipOneUptoRow.holds Try.pinned (OpenSpec.upto ipOneSpec)

/-- 'stolonlaw04.IpLong', WHERE WHAT IT READS IS OF BULK AT MOST 1048576: true; the input reads as it did. -/
def ipLongUptoRow : OpenClaim := { program := "ytlaanmkangikbaa", sum := "3149b38e5c55beea902a28e7cc335ef7e939a5291619989c3167e3ffb5ad2d60", func := "stolon/stolonlaw04.IpLong", spec := "ipLong", unfollowed := true, recurses := true, apart := false, narrowed := true }
def IpLongUptoSaid : Prop := ipLongUptoRow.holds Try.pinned (OpenSpec.upto ipLongSpec)

/-- 'stolonlaw04.IpTells', WHERE WHAT IT READS IS OF BULK AT MOST 1048576: true; the input reads as it did. -/
def ipTellsUptoRow : OpenClaim := { program := "ytlaanmkangikbaa", sum := "3149b38e5c55beea902a28e7cc335ef7e939a5291619989c3167e3ffb5ad2d60", func := "stolon/stolonlaw04.IpTells", spec := "ipTells", unfollowed := true, recurses := true, apart := false, narrowed := true }
def IpTellsUptoSaid : Prop := ipTellsUptoRow.holds Try.pinned (OpenSpec.upto ipTellsSpec)

/-- 'stolonlaw04.IpPasses', WHERE WHAT IT READS IS OF BULK AT MOST 1048576: true; the input reads as it did. -/
def ipPassesUptoRow : OpenClaim := { program := "ytlaanmkangikbaa", sum := "3149b38e5c55beea902a28e7cc335ef7e939a5291619989c3167e3ffb5ad2d60", func := "stolon/stolonlaw04.IpPasses", spec := "ipPasses", unfollowed := true, recurses := true, apart := false, narrowed := true }
def IpPassesUptoSaid : Prop := ipPassesUptoRow.holds Try.pinned (OpenSpec.upto ipPassesSpec)

end Rows
end Go.Proofs.Ytlaanmkangikbaa
