/-
  No cell of these rows narrows 'for every input' (looked for: loops, veiled, ifaces, maps, wideKeys, modest, calm, conditions, laid).
  DERIVED. THE GIVEN ROWS OF THIS SEAT. 6 by the template 'for every input the law returns true; each argument reads behind the call as it read before'; 0 by the template 'total and deterministic' (their statements: YticmoijngfpeeaaTotals.lean).
  GIVEN WITH THE SEED: the statements are not yours to turn. If you find one false, say at which input.
  Laid BY PROGRAM, IN A SANDBOX (cutbox-rows.mjs): the forced cells as the released guide's own fill.sh prints them over the translation fed357197eedfc6f… (all of the seat's roots in one cut). By AI agents, Wed Nov 11 2026. No macro, syntax, notation, axiom, sorry.
-/
import Derived.Test.YticmoijngfpeeaaChecked
import GoSem.Claim
import GoSem.ClaimJoined
import GoSem.ClaimMapViews
import Derived.JoinedTies
import Derived.KernelRfl
namespace Go.Proofs.Yticmoijngfpeeaa
/- THE CELL 'sum', in the pinned program and in every row, IS THE sha256 OF THE DUMP (.gsa) THAT YticmoijngfpeeaaProg.lean LOADS. Nothing in Lean hashes anything: it is a label: what it is worth is what the hold of that sum in a sandbox is worth. -/
noncomputable def Try.pinned : Pinned := { name := "yticmoijngfpeeaa", sum := "fed357197eedfc6f44b42b3a11c02c5a28760bdd78702f44580416986c9a539a", checked := Try.checked }
namespace Rows
def none {H : Type} : Left H := { results := [], args := [] }

/-- 'merestonelaw02.GeoMeets': WHATEVER THE INPUT: true; the input reads as it did. -/
def geoMeetsSpec : ChangeSpec := { name := "geoMeets", fn := fun _ => fun
  | [d1, d2, d3, d4] => { results := [.lit (.bool true)], args := [d1, d2, d3, d4] }
  | _ => none }
def geoMeetsRow : OpenClaim := { program := "yticmoijngfpeeaa", sum := "fed357197eedfc6f44b42b3a11c02c5a28760bdd78702f44580416986c9a539a", func := "merestone/merestonelaw02.GeoMeets", spec := "geoMeets", apart := false }
def GeoMeetsSaid : Prop := geoMeetsRow.holds Try.pinned (OpenSpec.ofChange geoMeetsSpec)

/-- ITS FALSE NEIGHBOUR: 'it returns false'. Refute it at one input. -/
def geoMeetsWrong : ChangeSpec := { name := "geoMeets", fn := fun _ => fun
  | [d1, d2, d3, d4] => { results := [.lit (.bool false)], args := [d1, d2, d3, d4] }
  | _ => none }
def GeoMeetsWrongFalsely : Prop := geoMeetsRow.holds Try.pinned (OpenSpec.ofChange geoMeetsWrong)

/-- 'merestonelaw02.GeoParts': WHATEVER THE INPUT: true; the input reads as it did. -/
def geoPartsSpec : ChangeSpec := { name := "geoParts", fn := fun _ => fun
  | [d1, d2, d3, d4, d5] => { results := [.lit (.bool true)], args := [d1, d2, d3, d4, d5] }
  | _ => none }
def geoPartsRow : OpenClaim := { program := "yticmoijngfpeeaa", sum := "fed357197eedfc6f44b42b3a11c02c5a28760bdd78702f44580416986c9a539a", func := "merestone/merestonelaw02.GeoParts", spec := "geoParts", apart := false }
def GeoPartsSaid : Prop := geoPartsRow.holds Try.pinned (OpenSpec.ofChange geoPartsSpec)

/-- ITS FALSE NEIGHBOUR: 'it returns false'. Refute it at one input. -/
def geoPartsWrong : ChangeSpec := { name := "geoParts", fn := fun _ => fun
  | [d1, d2, d3, d4, d5] => { results := [.lit (.bool false)], args := [d1, d2, d3, d4, d5] }
  | _ => none }
def GeoPartsWrongFalsely : Prop := geoPartsRow.holds Try.pinned (OpenSpec.ofChange geoPartsWrong)

/-- 'merestonelaw02.GeoRound': WHATEVER THE INPUT: true; the input reads as it did. -/
def geoRoundSpec : ChangeSpec := { name := "geoRound", fn := fun _ => fun
  | [d1, d2, d3, d4] => { results := [.lit (.bool true)], args := [d1, d2, d3, d4] }
  | _ => none }
def geoRoundRow : OpenClaim := { program := "yticmoijngfpeeaa", sum := "fed357197eedfc6f44b42b3a11c02c5a28760bdd78702f44580416986c9a539a", func := "merestone/merestonelaw02.GeoRound", spec := "geoRound", apart := false }
def GeoRoundSaid : Prop := geoRoundRow.holds Try.pinned (OpenSpec.ofChange geoRoundSpec)

/-- ITS FALSE NEIGHBOUR: 'it returns false'. Refute it at one input. -/
def geoRoundWrong : ChangeSpec := { name := "geoRound", fn := fun _ => fun
  | [d1, d2, d3, d4] => { results := [.lit (.bool false)], args := [d1, d2, d3, d4] }
  | _ => none }
def GeoRoundWrongFalsely : Prop := geoRoundRow.holds Try.pinned (OpenSpec.ofChange geoRoundWrong)

/-- 'merestonelaw02.GeoTurns': WHATEVER THE INPUT: true; the input reads as it did. -/
def geoTurnsSpec : ChangeSpec := { name := "geoTurns", fn := fun _ => fun
  | [d1, d2, d3] => { results := [.lit (.bool true)], args := [d1, d2, d3] }
  | _ => none }
def geoTurnsRow : OpenClaim := { program := "yticmoijngfpeeaa", sum := "fed357197eedfc6f44b42b3a11c02c5a28760bdd78702f44580416986c9a539a", func := "merestone/merestonelaw02.GeoTurns", spec := "geoTurns", apart := false }
def GeoTurnsSaid : Prop := geoTurnsRow.holds Try.pinned (OpenSpec.ofChange geoTurnsSpec)

/-- ITS FALSE NEIGHBOUR: 'it returns false'. Refute it at one input. -/
def geoTurnsWrong : ChangeSpec := { name := "geoTurns", fn := fun _ => fun
  | [d1, d2, d3] => { results := [.lit (.bool false)], args := [d1, d2, d3] }
  | _ => none }
def GeoTurnsWrongFalsely : Prop := geoTurnsRow.holds Try.pinned (OpenSpec.ofChange geoTurnsWrong)

/-- 'merestonelaw02.GeoOn': WHATEVER THE INPUT: true; the input reads as it did. -/
def geoOnSpec : ChangeSpec := { name := "geoOn", fn := fun _ => fun
  | [d1, d2, d3] => { results := [.lit (.bool true)], args := [d1, d2, d3] }
  | _ => none }
def geoOnRow : OpenClaim := { program := "yticmoijngfpeeaa", sum := "fed357197eedfc6f44b42b3a11c02c5a28760bdd78702f44580416986c9a539a", func := "merestone/merestonelaw02.GeoOn", spec := "geoOn", inPlace := ["math/bits.Sub64", "math/bits.Add64"], apart := false }
def GeoOnSaid : Prop := geoOnRow.holds Try.pinned (OpenSpec.ofChange geoOnSpec)

/-- ITS FALSE NEIGHBOUR: 'it returns false'. Refute it at one input. -/
def geoOnWrong : ChangeSpec := { name := "geoOn", fn := fun _ => fun
  | [d1, d2, d3] => { results := [.lit (.bool false)], args := [d1, d2, d3] }
  | _ => none }
def GeoOnWrongFalsely : Prop := geoOnRow.holds Try.pinned (OpenSpec.ofChange geoOnWrong)

/-- 'merestonelaw02.GeoAreas': WHATEVER THE INPUT: true; the input reads as it did. -/
def geoAreasSpec : ChangeSpec := { name := "geoAreas", fn := fun _ => fun
  | [d1, d2, d3, d4] => { results := [.lit (.bool true)], args := [d1, d2, d3, d4] }
  | _ => none }
def geoAreasRow : OpenClaim := { program := "yticmoijngfpeeaa", sum := "fed357197eedfc6f44b42b3a11c02c5a28760bdd78702f44580416986c9a539a", func := "merestone/merestonelaw02.GeoAreas", spec := "geoAreas", inPlace := ["math/bits.Add64", "math/bits.Sub64"], apart := false }
def GeoAreasSaid : Prop := geoAreasRow.holds Try.pinned (OpenSpec.ofChange geoAreasSpec)

/-- ITS FALSE NEIGHBOUR: 'it returns false'. Refute it at one input. -/
def geoAreasWrong : ChangeSpec := { name := "geoAreas", fn := fun _ => fun
  | [d1, d2, d3, d4] => { results := [.lit (.bool false)], args := [d1, d2, d3, d4] }
  | _ => none }
def GeoAreasWrongFalsely : Prop := geoAreasRow.holds Try.pinned (OpenSpec.ofChange geoAreasWrong)

/- THE SECOND FORM. 'bulk': how many values and letters a reading holds, each counted each time it is reached (what is shared counts as often as it is met; a slice's spare places count too). A statement '..UptoSaid' is the law's where the arguments, and the package variables that the reading takes, are together of bulk at most 1048576: NARROWER than '..Said'. Prove '..Said' where nothing that the law and all that it calls make is longer than what came in: it says more and counts as full. Else prove '..UptoSaid'. A law counts once. -/
mutual
def uptoBulk {H : Type} : DataW H → Nat
  | .lit (.string bytes) => bytes.length + 1
  | .lit _ => 1
  | .nil => 1
  | .ptr d => uptoBulk d + 1
  | .slice elems spare => uptoBulkAll elems + uptoBulkAll spare + 1
  | .agg parts => uptoBulkAll parts + 1
  | .iface _ d => uptoBulk d + 1
  | .map entries => uptoBulkEntries entries + 1
  | .held _ => 1
def uptoBulkAll {H : Type} : List (DataW H) → Nat
  | [] => 0
  | d :: r => uptoBulk d + uptoBulkAll r
def uptoBulkEntries {H : Type} : List (Lit × DataW H) → Nat
  | [] => 0
  | x :: r => uptoBulkEntry x + uptoBulkEntries r
def uptoBulkEntry {H : Type} : Lit × DataW H → Nat
  | (.string bytes, d) => bytes.length + uptoBulk d + 1
  | (_, d) => uptoBulk d + 1
 end
def uptoSmall : (H : Type) → List (DataW H) → Bool := fun _ ds => decide (uptoBulkAll ds ≤ 1048576)
def OpenSpec.upto (s : _root_.Go.ChangeSpec) : _root_.Go.OpenSpec := { _root_.Go.OpenSpec.ofChange s with cond := some uptoSmall }

/-- 'merestonelaw02.GeoMeets', WHERE WHAT IT READS IS OF BULK AT MOST 1048576: true; the input reads as it did. -/
def geoMeetsUptoRow : OpenClaim := { program := "yticmoijngfpeeaa", sum := "fed357197eedfc6f44b42b3a11c02c5a28760bdd78702f44580416986c9a539a", func := "merestone/merestonelaw02.GeoMeets", spec := "geoMeets", apart := false, narrowed := true }
def GeoMeetsUptoSaid : Prop := geoMeetsUptoRow.holds Try.pinned (OpenSpec.upto geoMeetsSpec)

/-- 'merestonelaw02.GeoParts', WHERE WHAT IT READS IS OF BULK AT MOST 1048576: true; the input reads as it did. -/
def geoPartsUptoRow : OpenClaim := { program := "yticmoijngfpeeaa", sum := "fed357197eedfc6f44b42b3a11c02c5a28760bdd78702f44580416986c9a539a", func := "merestone/merestonelaw02.GeoParts", spec := "geoParts", apart := false, narrowed := true }
def GeoPartsUptoSaid : Prop := geoPartsUptoRow.holds Try.pinned (OpenSpec.upto geoPartsSpec)

/-- 'merestonelaw02.GeoRound', WHERE WHAT IT READS IS OF BULK AT MOST 1048576: true; the input reads as it did. -/
def geoRoundUptoRow : OpenClaim := { program := "yticmoijngfpeeaa", sum := "fed357197eedfc6f44b42b3a11c02c5a28760bdd78702f44580416986c9a539a", func := "merestone/merestonelaw02.GeoRound", spec := "geoRound", apart := false, narrowed := true }
def GeoRoundUptoSaid : Prop := geoRoundUptoRow.holds Try.pinned (OpenSpec.upto geoRoundSpec)

/-- 'merestonelaw02.GeoTurns', WHERE WHAT IT READS IS OF BULK AT MOST 1048576: true; the input reads as it did. -/
def geoTurnsUptoRow : OpenClaim := { program := "yticmoijngfpeeaa", sum := "fed357197eedfc6f44b42b3a11c02c5a28760bdd78702f44580416986c9a539a", func := "merestone/merestonelaw02.GeoTurns", spec := "geoTurns", apart := false, narrowed := true }
def GeoTurnsUptoSaid : Prop := geoTurnsUptoRow.holds Try.pinned (OpenSpec.upto geoTurnsSpec)

/-- 'merestonelaw02.GeoOn', WHERE WHAT IT READS IS OF BULK AT MOST 1048576: true; the input reads as it did. -/
def geoOnUptoRow : OpenClaim := { program := "yticmoijngfpeeaa", sum := "fed357197eedfc6f44b42b3a11c02c5a28760bdd78702f44580416986c9a539a", func := "merestone/merestonelaw02.GeoOn", spec := "geoOn", inPlace := ["math/bits.Sub64", "math/bits.Add64"], apart := false, narrowed := true }
def GeoOnUptoSaid : Prop := geoOnUptoRow.holds Try.pinned (OpenSpec.upto geoOnSpec)

/-- 'merestonelaw02.GeoAreas', WHERE WHAT IT READS IS OF BULK AT MOST 1048576: true; the input reads as it did. -/
def geoAreasUptoRow : OpenClaim := { program := "yticmoijngfpeeaa", sum := "fed357197eedfc6f44b42b3a11c02c5a28760bdd78702f44580416986c9a539a", func := "merestone/merestonelaw02.GeoAreas", spec := "geoAreas", inPlace := ["math/bits.Add64", "math/bits.Sub64"], apart := false, narrowed := true }
def GeoAreasUptoSaid : Prop := geoAreasUptoRow.holds Try.pinned (OpenSpec.upto geoAreasSpec)

end Rows
end Go.Proofs.Yticmoijngfpeeaa
