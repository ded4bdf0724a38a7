/-
  No cell of these rows narrows 'for every input' (looked for: loops, veiled, ifaces, maps, wideKeys, modest, calm, conditions, laid).
  DERIVED. THE GIVEN ROWS OF THIS SEAT. 5 by the template 'for every input the law returns true; each argument reads behind the call as it read before'; 0 by the template 'total and deterministic' (their statements: YtldlaojcbgckjaaTotals.lean).
  GIVEN WITH THE SEED: the statements are not yours to turn. If you find one false, say at which input.
  Laid BY PROGRAM, IN A SANDBOX (cutbox-rows.mjs): the forced cells as the released guide's own fill.sh prints them over the translation cbd6abacfb27e1b3… (all of the seat's roots in one cut). By AI agents, Wed Nov 11 2026. No macro, syntax, notation, axiom, sorry.
-/
import Derived.Test.YtldlaojcbgckjaaChecked
import GoSem.Claim
import GoSem.ClaimJoined
import GoSem.ClaimMapViews
import Derived.JoinedTies
import Derived.KernelRfl
namespace Go.Proofs.Ytldlaojcbgckjaa
/- THE CELL 'sum', in the pinned program and in every row, IS THE sha256 OF THE DUMP (.gsa) THAT YtldlaojcbgckjaaProg.lean LOADS. Nothing in Lean hashes anything: it is a label: what it is worth is what the hold of that sum in a sandbox is worth. -/
noncomputable def Try.pinned : Pinned := { name := "ytldlaojcbgckjaa", sum := "cbd6abacfb27e1b33a825e9664c96ca9120842b05fc015133f30756415099721", checked := Try.checked }
namespace Rows
def none {H : Type} : Left H := { results := [], args := [] }

/-- 'merestonelaw18.VersionAsOf': WHATEVER THE INPUT: true; the input reads as it did. -/
def versionAsOfSpec : ChangeSpec := { name := "versionAsOf", fn := fun _ => fun
  | [d1, d2] => { results := [.lit (.bool true)], args := [d1, d2] }
  | _ => none }
def versionAsOfRow : OpenClaim := { program := "ytldlaojcbgckjaa", sum := "cbd6abacfb27e1b33a825e9664c96ca9120842b05fc015133f30756415099721", func := "merestone/merestonelaw18.VersionAsOf", spec := "versionAsOf", unfollowed := true, recurses := true, apart := false }
def VersionAsOfSaid : Prop := versionAsOfRow.holds Try.pinned (OpenSpec.ofChange versionAsOfSpec)

/-- ITS FALSE NEIGHBOUR: 'it returns false'. Refute it at one input. -/
def versionAsOfWrong : ChangeSpec := { name := "versionAsOf", fn := fun _ => fun
  | [d1, d2] => { results := [.lit (.bool false)], args := [d1, d2] }
  | _ => none }
def VersionAsOfWrongFalsely : Prop := versionAsOfRow.holds Try.pinned (OpenSpec.ofChange versionAsOfWrong)

/-- 'merestonelaw18.VersionOrder': WHATEVER THE INPUT: true; the input reads as it did. -/
def versionOrderSpec : ChangeSpec := { name := "versionOrder", fn := fun _ => fun
  | [d1, d2, d3] => { results := [.lit (.bool true)], args := [d1, d2, d3] }
  | _ => none }
def versionOrderRow : OpenClaim := { program := "ytldlaojcbgckjaa", sum := "cbd6abacfb27e1b33a825e9664c96ca9120842b05fc015133f30756415099721", func := "merestone/merestonelaw18.VersionOrder", spec := "versionOrder", unfollowed := true, recurses := true, apart := false }
def VersionOrderSaid : Prop := versionOrderRow.holds Try.pinned (OpenSpec.ofChange versionOrderSpec)

/-- ITS FALSE NEIGHBOUR: 'it returns false'. Refute it at one input. -/
def versionOrderWrong : ChangeSpec := { name := "versionOrder", fn := fun _ => fun
  | [d1, d2, d3] => { results := [.lit (.bool false)], args := [d1, d2, d3] }
  | _ => none }
def VersionOrderWrongFalsely : Prop := versionOrderRow.holds Try.pinned (OpenSpec.ofChange versionOrderWrong)

/-- 'merestonelaw18.VersionPrunes': WHATEVER THE INPUT: true; the input reads as it did. -/
def versionPrunesSpec : ChangeSpec := { name := "versionPrunes", fn := fun _ => fun
  | [d1, d2, d3] => { results := [.lit (.bool true)], args := [d1, d2, d3] }
  | _ => none }
def versionPrunesRow : OpenClaim := { program := "ytldlaojcbgckjaa", sum := "cbd6abacfb27e1b33a825e9664c96ca9120842b05fc015133f30756415099721", func := "merestone/merestonelaw18.VersionPrunes", spec := "versionPrunes", unfollowed := true, recurses := true, apart := false }
def VersionPrunesSaid : Prop := versionPrunesRow.holds Try.pinned (OpenSpec.ofChange versionPrunesSpec)

/-- ITS FALSE NEIGHBOUR: 'it returns false'. Refute it at one input. -/
def versionPrunesWrong : ChangeSpec := { name := "versionPrunes", fn := fun _ => fun
  | [d1, d2, d3] => { results := [.lit (.bool false)], args := [d1, d2, d3] }
  | _ => none }
def VersionPrunesWrongFalsely : Prop := versionPrunesRow.holds Try.pinned (OpenSpec.ofChange versionPrunesWrong)

/-- 'merestonelaw18.VersionChecks': WHATEVER THE INPUT: true; the input reads as it did. -/
def versionChecksSpec : ChangeSpec := { name := "versionChecks", fn := fun _ => fun
  | [d1, d2] => { results := [.lit (.bool true)], args := [d1, d2] }
  | _ => none }
def versionChecksRow : OpenClaim := { program := "ytldlaojcbgckjaa", sum := "cbd6abacfb27e1b33a825e9664c96ca9120842b05fc015133f30756415099721", func := "merestone/merestonelaw18.VersionChecks", spec := "versionChecks", unfollowed := true, recurses := true, apart := false }
def VersionChecksSaid : Prop := versionChecksRow.holds Try.pinned (OpenSpec.ofChange versionChecksSpec)

/-- ITS FALSE NEIGHBOUR: 'it returns false'. Refute it at one input. -/
def versionChecksWrong : ChangeSpec := { name := "versionChecks", fn := fun _ => fun
  | [d1, d2] => { results := [.lit (.bool false)], args := [d1, d2] }
  | _ => none }
def VersionChecksWrongFalsely : Prop := versionChecksRow.holds Try.pinned (OpenSpec.ofChange versionChecksWrong)

/-- 'merestonelaw18.VersionGrows': WHATEVER THE INPUT: true; the input reads as it did. -/
def versionGrowsSpec : ChangeSpec := { name := "versionGrows", fn := fun _ => fun
  | [d1, d2] => { results := [.lit (.bool true)], args := [d1, d2] }
  | _ => none }
def versionGrowsRow : OpenClaim := { program := "ytldlaojcbgckjaa", sum := "cbd6abacfb27e1b33a825e9664c96ca9120842b05fc015133f30756415099721", func := "merestone/merestonelaw18.VersionGrows", spec := "versionGrows", unfollowed := true, recurses := true, apart := false }
def VersionGrowsSaid : Prop := versionGrowsRow.holds Try.pinned (OpenSpec.ofChange versionGrowsSpec)

/-- ITS FALSE NEIGHBOUR: 'it returns false'. Refute it at one input. -/
def versionGrowsWrong : ChangeSpec := { name := "versionGrows", fn := fun _ => fun
  | [d1, d2] => { results := [.lit (.bool false)], args := [d1, d2] }
  | _ => none }
def VersionGrowsWrongFalsely : Prop := versionGrowsRow.holds Try.pinned (OpenSpec.ofChange versionGrowsWrong)

/- THE SECOND FORM. 'bulk': how many values and letters a reading holds, each counted each time it is reached (what is shared counts as often as it is met; a slice's spare places count too). A statement '..UptoSaid' is the law's where the arguments, and the package variables that the reading takes, are together of bulk at most 1048576: NARROWER than '..Said'. Prove '..Said' where nothing that the law and all that it calls make is longer than what came in: it says more and counts as full. Else prove '..UptoSaid'. A law counts once. -/
mutual
def uptoBulk {H : Type} : DataW H → Nat
  | .lit (.string bytes) => bytes.length + 1
  | .lit _ => 1
  | .nil => 1
  | .ptr d => uptoBulk d + 1
  | .slice elems spare => uptoBulkAll elems + uptoBulkAll spare + 1
  | .agg parts => uptoBulkAll parts + 1
  | .iface _ d => uptoBulk d + 1
  | .map entries => uptoBulkEntries entries + 1
  | .held _ => 1
def uptoBulkAll {H : Type} : List (DataW H) → Nat
  | [] => 0
  | d :: r => uptoBulk d + uptoBulkAll r
def uptoBulkEntries {H : Type} : List (Lit × DataW H) → Nat
  | [] => 0
  | x :: r => uptoBulkEntry x + uptoBulkEntries r
def uptoBulkEntry {H : Type} : Lit × DataW H → Nat
  | (.string bytes, d) => bytes.length + uptoBulk d + 1
  | (_, d) => uptoBulk d + 1
 end
def uptoSmall : (H : Type) → List (DataW H) → Bool := fun _ ds => decide (uptoBulkAll ds ≤ 1048576)
def OpenSpec.upto (s : _root_.Go.ChangeSpec) : _root_.Go.OpenSpec := { _root_.Go.OpenSpec.ofChange s with cond := some uptoSmall }

/-- 'merestonelaw18.VersionAsOf', WHERE WHAT IT READS IS OF BULK AT MOST 1048576: true; the input reads as it did. -/
def versionAsOfUptoRow : OpenClaim := { program := "ytldlaojcbgckjaa", sum := "cbd6abacfb27e1b33a825e9664c96ca9120842b05fc015133f30756415099721", func := "merestone/merestonelaw18.VersionAsOf", spec := "versionAsOf", unfollowed := true, recurses := true, apart := false, narrowed := true }
def VersionAsOfUptoSaid : Prop := versionAsOfUptoRow.holds Try.pinned (OpenSpec.upto versionAsOfSpec)

/-- 'merestonelaw18.VersionOrder', WHERE WHAT IT READS IS OF BULK AT MOST 1048576: true; the input reads as it did. -/
def versionOrderUptoRow : OpenClaim := { program := "ytldlaojcbgckjaa", sum := "cbd6abacfb27e1b33a825e9664c96ca9120842b05fc015133f30756415099721", func := "merestone/merestonelaw18.VersionOrder", spec := "versionOrder", unfollowed := true, recurses := true, apart := false, narrowed := true }
def VersionOrderUptoSaid : Prop := versionOrderUptoRow.holds Try.pinned (OpenSpec.upto versionOrderSpec)

/-- 'merestonelaw18.VersionPrunes', WHERE WHAT IT READS IS OF BULK AT MOST 1048576: true; the input reads as it did. -/
def versionPrunesUptoRow : OpenClaim := { program := "ytldlaojcbgckjaa", sum := "cbd6abacfb27e1b33a825e9664c96ca9120842b05fc015133f30756415099721", func := "merestone/merestonelaw18.VersionPrunes", spec := "versionPrunes", unfollowed := true, recurses := true, apart := false, narrowed := true }
def VersionPrunesUptoSaid : Prop := versionPrunesUptoRow.holds Try.pinned (OpenSpec.upto versionPrunesSpec)

/-- 'merestonelaw18.VersionChecks', WHERE WHAT IT READS IS OF BULK AT MOST 1048576: true; the input reads as it did. -/
def versionChecksUptoRow : OpenClaim := { program := "ytldlaojcbgckjaa", sum := "cbd6abacfb27e1b33a825e9664c96ca9120842b05fc015133f30756415099721", func := "merestone/merestonelaw18.VersionChecks", spec := "versionChecks", unfollowed := true, recurses := true, apart := false, narrowed := true }
def VersionChecksUptoSaid : Prop := versionChecksUptoRow.holds Try.pinned (OpenSpec.upto versionChecksSpec)

/-- 'merestonelaw18.VersionGrows', WHERE WHAT IT READS IS OF BULK AT MOST 1048576: true; the input reads as it did. -/
def versionGrowsUptoRow : OpenClaim := { program := "ytldlaojcbgckjaa", sum := "cbd6abacfb27e1b33a825e9664c96ca9120842b05fc015133f30756415099721", func := "merestone/merestonelaw18.VersionGrows", spec := "versionGrows", unfollowed := true, recurses := true, apart := false, narrowed := true }
def VersionGrowsUptoSaid : Prop := versionGrowsUptoRow.holds Try.pinned (OpenSpec.upto versionGrowsSpec)

end Rows
end Go.Proofs.Ytldlaojcbgckjaa
