/-
  No cell of these rows narrows 'for every input' (looked for: loops, veiled, ifaces, maps, wideKeys, modest, calm, conditions, laid).
  DERIVED. THE GIVEN ROWS OF THIS SEAT. 5 by the template 'for every input the law returns true; each argument reads behind the call as it read before'; 0 by the template 'total and deterministic' (their statements: YthlgkhnkcjihiaaTotals.lean).
  GIVEN WITH THE SEED: the statements are not yours to turn. If you find one false, say at which input.
  Laid BY PROGRAM, IN A SANDBOX (cutbox-rows.mjs): the forced cells as the released guide's own fill.sh prints them over the translation 021b288fee0fda37… (all of the seat's roots in one cut). By AI agents, Wed Nov 11 2026. No macro, syntax, notation, axiom, sorry.
-/
import Derived.Test.YthlgkhnkcjihiaaChecked
import GoSem.Claim
import GoSem.ClaimJoined
import GoSem.ClaimMapViews
import Derived.JoinedTies
import Derived.KernelRfl
namespace Go.Proofs.Ythlgkhnkcjihiaa
/- THE CELL 'sum', in the pinned program and in every row, IS THE sha256 OF THE DUMP (.gsa) THAT YthlgkhnkcjihiaaProg.lean LOADS. Nothing in Lean hashes anything: it is a label: what it is worth is what the hold of that sum in a sandbox is worth. -/
noncomputable def Try.pinned : Pinned := { name := "ythlgkhnkcjihiaa", sum := "021b288fee0fda37eb0c8cac21cdc0b74d3282765a0d24f6db3d4674efa5f3d8", checked := Try.checked }
namespace Rows
def none {H : Type} : Left H := { results := [], args := [] }

/-- 'merestonelaw15.SectorWhole': WHATEVER THE INPUT: true; the input reads as it did. -/
def sectorWholeSpec : ChangeSpec := { name := "sectorWhole", fn := fun _ => fun
  | [d1, d2] => { results := [.lit (.bool true)], args := [d1, d2] }
  | _ => none }
def sectorWholeRow : OpenClaim := { program := "ythlgkhnkcjihiaa", sum := "021b288fee0fda37eb0c8cac21cdc0b74d3282765a0d24f6db3d4674efa5f3d8", func := "merestone/merestonelaw15.SectorWhole", spec := "sectorWhole", unfollowed := true, recurses := true, apart := false }
def SectorWholeSaid : Prop := sectorWholeRow.holds Try.pinned (OpenSpec.ofChange sectorWholeSpec)

/-- ITS FALSE NEIGHBOUR: 'it returns false'. Refute it at one input. -/
def sectorWholeWrong : ChangeSpec := { name := "sectorWhole", fn := fun _ => fun
  | [d1, d2] => { results := [.lit (.bool false)], args := [d1, d2] }
  | _ => none }
def SectorWholeWrongFalsely : Prop := sectorWholeRow.holds Try.pinned (OpenSpec.ofChange sectorWholeWrong)

/-- 'merestonelaw15.SectorLimits': WHATEVER THE INPUT: true; the input reads as it did. -/
def sectorLimitsSpec : ChangeSpec := { name := "sectorLimits", fn := fun _ => fun
  | [d1, d2] => { results := [.lit (.bool true)], args := [d1, d2] }
  | _ => none }
def sectorLimitsRow : OpenClaim := { program := "ythlgkhnkcjihiaa", sum := "021b288fee0fda37eb0c8cac21cdc0b74d3282765a0d24f6db3d4674efa5f3d8", func := "merestone/merestonelaw15.SectorLimits", spec := "sectorLimits", unfollowed := true, recurses := true, apart := false }
def SectorLimitsSaid : Prop := sectorLimitsRow.holds Try.pinned (OpenSpec.ofChange sectorLimitsSpec)

/-- ITS FALSE NEIGHBOUR: 'it returns false'. Refute it at one input. -/
def sectorLimitsWrong : ChangeSpec := { name := "sectorLimits", fn := fun _ => fun
  | [d1, d2] => { results := [.lit (.bool false)], args := [d1, d2] }
  | _ => none }
def SectorLimitsWrongFalsely : Prop := sectorLimitsRow.holds Try.pinned (OpenSpec.ofChange sectorLimitsWrong)

/-- 'merestonelaw15.SectorSure': WHATEVER THE INPUT: true; the input reads as it did. -/
def sectorSureSpec : ChangeSpec := { name := "sectorSure", fn := fun _ => fun
  | [d1, d2, d3, d4] => { results := [.lit (.bool true)], args := [d1, d2, d3, d4] }
  | _ => none }
def sectorSureRow : OpenClaim := { program := "ythlgkhnkcjihiaa", sum := "021b288fee0fda37eb0c8cac21cdc0b74d3282765a0d24f6db3d4674efa5f3d8", func := "merestone/merestonelaw15.SectorSure", spec := "sectorSure", unfollowed := true, recurses := true, apart := false }
def SectorSureSaid : Prop := sectorSureRow.holds Try.pinned (OpenSpec.ofChange sectorSureSpec)

/-- ITS FALSE NEIGHBOUR: 'it returns false'. Refute it at one input. -/
def sectorSureWrong : ChangeSpec := { name := "sectorSure", fn := fun _ => fun
  | [d1, d2, d3, d4] => { results := [.lit (.bool false)], args := [d1, d2, d3, d4] }
  | _ => none }
def SectorSureWrongFalsely : Prop := sectorSureRow.holds Try.pinned (OpenSpec.ofChange sectorSureWrong)

/-- 'merestonelaw15.SectorActs': WHATEVER THE INPUT: true; the input reads as it did. -/
def sectorActsSpec : ChangeSpec := { name := "sectorActs", fn := fun _ => fun
  | [d1, d2] => { results := [.lit (.bool true)], args := [d1, d2] }
  | _ => none }
def sectorActsRow : OpenClaim := { program := "ythlgkhnkcjihiaa", sum := "021b288fee0fda37eb0c8cac21cdc0b74d3282765a0d24f6db3d4674efa5f3d8", func := "merestone/merestonelaw15.SectorActs", spec := "sectorActs", inPlace := ["maps.clone"], unfollowed := true, recurses := true, apart := false }
def SectorActsSaid : Prop := sectorActsRow.holds Try.pinned (OpenSpec.ofChange sectorActsSpec)

/-- ITS FALSE NEIGHBOUR: 'it returns false'. Refute it at one input. -/
def sectorActsWrong : ChangeSpec := { name := "sectorActs", fn := fun _ => fun
  | [d1, d2] => { results := [.lit (.bool false)], args := [d1, d2] }
  | _ => none }
def SectorActsWrongFalsely : Prop := sectorActsRow.holds Try.pinned (OpenSpec.ofChange sectorActsWrong)

/-- 'merestonelaw15.SectorApart': WHATEVER THE INPUT: true; the input reads as it did. -/
def sectorApartSpec : ChangeSpec := { name := "sectorApart", fn := fun _ => fun
  | [d1, d2, d3] => { results := [.lit (.bool true)], args := [d1, d2, d3] }
  | _ => none }
def sectorApartRow : OpenClaim := { program := "ythlgkhnkcjihiaa", sum := "021b288fee0fda37eb0c8cac21cdc0b74d3282765a0d24f6db3d4674efa5f3d8", func := "merestone/merestonelaw15.SectorApart", spec := "sectorApart", inPlace := ["maps.clone"], unfollowed := true, recurses := true, apart := false }
def SectorApartSaid : Prop := sectorApartRow.holds Try.pinned (OpenSpec.ofChange sectorApartSpec)

/-- ITS FALSE NEIGHBOUR: 'it returns false'. Refute it at one input. -/
def sectorApartWrong : ChangeSpec := { name := "sectorApart", fn := fun _ => fun
  | [d1, d2, d3] => { results := [.lit (.bool false)], args := [d1, d2, d3] }
  | _ => none }
def SectorApartWrongFalsely : Prop := sectorApartRow.holds Try.pinned (OpenSpec.ofChange sectorApartWrong)

/- THE SECOND FORM. 'bulk': how many values and letters a reading holds, each counted each time it is reached (what is shared counts as often as it is met; a slice's spare places count too). A statement '..UptoSaid' is the law's where the arguments, and the package variables that the reading takes, are together of bulk at most 1048576: NARROWER than '..Said'. Prove '..Said' where nothing that the law and all that it calls make is longer than what came in: it says more and counts as full. Else prove '..UptoSaid'. A law counts once. -/
mutual
def uptoBulk {H : Type} : DataW H → Nat
  | .lit (.string bytes) => bytes.length + 1
  | .lit _ => 1
  | .nil => 1
  | .ptr d => uptoBulk d + 1
  | .slice elems spare => uptoBulkAll elems + uptoBulkAll spare + 1
  | .agg parts => uptoBulkAll parts + 1
  | .iface _ d => uptoBulk d + 1
  | .map entries => uptoBulkEntries entries + 1
  | .held _ => 1
def uptoBulkAll {H : Type} : List (DataW H) → Nat
  | [] => 0
  | d :: r => uptoBulk d + uptoBulkAll r
def uptoBulkEntries {H : Type} : List (Lit × DataW H) → Nat
  | [] => 0
  | x :: r => uptoBulkEntry x + uptoBulkEntries r
def uptoBulkEntry {H : Type} : Lit × DataW H → Nat
  | (.string bytes, d) => bytes.length + uptoBulk d + 1
  | (_, d) => uptoBulk d + 1
 end
def uptoSmall : (H : Type) → List (DataW H) → Bool := fun _ ds => decide (uptoBulkAll ds ≤ 1048576)
def OpenSpec.upto (s : _root_.Go.ChangeSpec) : _root_.Go.OpenSpec := { _root_.Go.OpenSpec.ofChange s with cond := some uptoSmall }

/-- 'merestonelaw15.SectorWhole', WHERE WHAT IT READS IS OF BULK AT MOST 1048576: true; the input reads as it did. -/
def sectorWholeUptoRow : OpenClaim := { program := "ythlgkhnkcjihiaa", sum := "021b288fee0fda37eb0c8cac21cdc0b74d3282765a0d24f6db3d4674efa5f3d8", func := "merestone/merestonelaw15.SectorWhole", spec := "sectorWhole", unfollowed := true, recurses := true, apart := false, narrowed := true }
def SectorWholeUptoSaid : Prop := sectorWholeUptoRow.holds Try.pinned (OpenSpec.upto sectorWholeSpec)

/-- 'merestonelaw15.SectorLimits', WHERE WHAT IT READS IS OF BULK AT MOST 1048576: true; the input reads as it did. -/
def sectorLimitsUptoRow : OpenClaim := { program := "ythlgkhnkcjihiaa", sum := "021b288fee0fda37eb0c8cac21cdc0b74d3282765a0d24f6db3d4674efa5f3d8", func := "merestone/merestonelaw15.SectorLimits", spec := "sectorLimits", unfollowed := true, recurses := true, apart := false, narrowed := true }
def SectorLimitsUptoSaid : Prop := sectorLimitsUptoRow.holds Try.pinned (OpenSpec.upto sectorLimitsSpec)

/-- 'merestonelaw15.SectorSure', WHERE WHAT IT READS IS OF BULK AT MOST 1048576: true; the input reads as it did. -/
def sectorSureUptoRow : OpenClaim := { program := "ythlgkhnkcjihiaa", sum := "021b288fee0fda37eb0c8cac21cdc0b74d3282765a0d24f6db3d4674efa5f3d8", func := "merestone/merestonelaw15.SectorSure", spec := "sectorSure", unfollowed := true, recurses := true, apart := false, narrowed := true }
def SectorSureUptoSaid : Prop := sectorSureUptoRow.holds Try.pinned (OpenSpec.upto sectorSureSpec)

/-- 'merestonelaw15.SectorActs', WHERE WHAT IT READS IS OF BULK AT MOST 1048576: true; the input reads as it did. -/
def sectorActsUptoRow : OpenClaim := { program := "ythlgkhnkcjihiaa", sum := "021b288fee0fda37eb0c8cac21cdc0b74d3282765a0d24f6db3d4674efa5f3d8", func := "merestone/merestonelaw15.SectorActs", spec := "sectorActs", inPlace := ["maps.clone"], unfollowed := true, recurses := true, apart := false, narrowed := true }
def SectorActsUptoSaid : Prop := sectorActsUptoRow.holds Try.pinned (OpenSpec.upto sectorActsSpec)

/-- 'merestonelaw15.SectorApart', WHERE WHAT IT READS IS OF BULK AT MOST 1048576: true; the input reads as it did. -/
def sectorApartUptoRow : OpenClaim := { program := "ythlgkhnkcjihiaa", sum := "021b288fee0fda37eb0c8cac21cdc0b74d3282765a0d24f6db3d4674efa5f3d8", func := "merestone/merestonelaw15.SectorApart", spec := "sectorApart", inPlace := ["maps.clone"], unfollowed := true, recurses := true, apart := false, narrowed := true }
def SectorApartUptoSaid : Prop := sectorApartUptoRow.holds Try.pinned (OpenSpec.upto sectorApartSpec)

end Rows
end Go.Proofs.Ythlgkhnkcjihiaa
