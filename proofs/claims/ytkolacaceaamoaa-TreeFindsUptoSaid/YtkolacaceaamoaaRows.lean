/-
  No cell of these rows narrows 'for every input' (looked for: loops, veiled, ifaces, maps, wideKeys, modest, calm, conditions, laid).
  DERIVED. THE GIVEN ROWS OF THIS SEAT. 4 by the template 'for every input the law returns true; each argument reads behind the call as it read before'; 0 by the template 'total and deterministic' (their statements: YtkolacaceaamoaaTotals.lean).
  GIVEN WITH THE SEED: the statements are not yours to turn. If you find one false, say at which input.
  Laid BY PROGRAM, IN A SANDBOX (cutbox-rows.mjs): the forced cells as the released guide's own fill.sh prints them over the translation 1d903bbd0edd908d… (all of the seat's roots in one cut). By AI agents, Wed Nov 11 2026. No macro, syntax, notation, axiom, sorry.
-/
import Derived.Test.YtkolacaceaamoaaChecked
import GoSem.Claim
import GoSem.ClaimJoined
import GoSem.ClaimMapViews
import Derived.JoinedTies
import Derived.KernelRfl
namespace Go.Proofs.Ytkolacaceaamoaa
/- THE CELL 'sum', in the pinned program and in every row, IS THE sha256 OF THE DUMP (.gsa) THAT YtkolacaceaamoaaProg.lean LOADS. Nothing in Lean hashes anything: it is a label: what it is worth is what the hold of that sum in a sandbox is worth. -/
noncomputable def Try.pinned : Pinned := { name := "ytkolacaceaamoaa", sum := "1d903bbd0edd908da9973e970a43511c8c741a32476f36cb9d2f08c796218117", checked := Try.checked }
namespace Rows
def none {H : Type} : Left H := { results := [], args := [] }

/-- 'merestonelaw17.TreePuts': WHATEVER THE INPUT: true; the input reads as it did. -/
def treePutsSpec : ChangeSpec := { name := "treePuts", fn := fun _ => fun
  | [d] => { results := [.lit (.bool true)], args := [d] }
  | _ => none }
def treePutsRow : OpenClaim := { program := "ytkolacaceaamoaa", sum := "1d903bbd0edd908da9973e970a43511c8c741a32476f36cb9d2f08c796218117", func := "merestone/merestonelaw17.TreePuts", spec := "treePuts", inPlace := ["internal/bytealg.Compare"], unfollowed := true, recurses := true, apart := false }
def TreePutsSaid : Prop := treePutsRow.holds Try.pinned (OpenSpec.ofChange treePutsSpec)

/-- ITS FALSE NEIGHBOUR: 'it returns false'. Refute it at one input. -/
def treePutsWrong : ChangeSpec := { name := "treePuts", fn := fun _ => fun
  | [d] => { results := [.lit (.bool false)], args := [d] }
  | _ => none }
def TreePutsWrongFalsely : Prop := treePutsRow.holds Try.pinned (OpenSpec.ofChange treePutsWrong)

/-- 'merestonelaw17.TreeFinds': WHATEVER THE INPUT: true; the input reads as it did. -/
def treeFindsSpec : ChangeSpec := { name := "treeFinds", fn := fun _ => fun
  | [d1, d2, d3, d4, d5] => { results := [.lit (.bool true)], args := [d1, d2, d3, d4, d5] }
  | _ => none }
def treeFindsRow : OpenClaim := { program := "ytkolacaceaamoaa", sum := "1d903bbd0edd908da9973e970a43511c8c741a32476f36cb9d2f08c796218117", func := "merestone/merestonelaw17.TreeFinds", spec := "treeFinds", inPlace := ["internal/bytealg.Compare"], unfollowed := true, recurses := true, apart := false }
def TreeFindsSaid : Prop := treeFindsRow.holds Try.pinned (OpenSpec.ofChange treeFindsSpec)

/-- ITS FALSE NEIGHBOUR: 'it returns false'. Refute it at one input. -/
def treeFindsWrong : ChangeSpec := { name := "treeFinds", fn := fun _ => fun
  | [d1, d2, d3, d4, d5] => { results := [.lit (.bool false)], args := [d1, d2, d3, d4, d5] }
  | _ => none }
def TreeFindsWrongFalsely : Prop := treeFindsRow.holds Try.pinned (OpenSpec.ofChange treeFindsWrong)

/-- 'merestonelaw17.TreeSame': WHATEVER THE INPUT: true; the input reads as it did. -/
def treeSameSpec : ChangeSpec := { name := "treeSame", fn := fun _ => fun
  | [d1, d2] => { results := [.lit (.bool true)], args := [d1, d2] }
  | _ => none }
def treeSameRow : OpenClaim := { program := "ytkolacaceaamoaa", sum := "1d903bbd0edd908da9973e970a43511c8c741a32476f36cb9d2f08c796218117", func := "merestone/merestonelaw17.TreeSame", spec := "treeSame", inPlace := ["internal/bytealg.Compare"], unfollowed := true, recurses := true, apart := false }
def TreeSameSaid : Prop := treeSameRow.holds Try.pinned (OpenSpec.ofChange treeSameSpec)

/-- ITS FALSE NEIGHBOUR: 'it returns false'. Refute it at one input. -/
def treeSameWrong : ChangeSpec := { name := "treeSame", fn := fun _ => fun
  | [d1, d2] => { results := [.lit (.bool false)], args := [d1, d2] }
  | _ => none }
def TreeSameWrongFalsely : Prop := treeSameRow.holds Try.pinned (OpenSpec.ofChange treeSameWrong)

/-- 'merestonelaw17.TreeNil': WHATEVER THE INPUT: true; the input reads as it did. -/
def treeNilSpec : ChangeSpec := { name := "treeNil", fn := fun _ => fun
  | [d] => { results := [.lit (.bool true)], args := [d] }
  | _ => none }
def treeNilRow : OpenClaim := { program := "ytkolacaceaamoaa", sum := "1d903bbd0edd908da9973e970a43511c8c741a32476f36cb9d2f08c796218117", func := "merestone/merestonelaw17.TreeNil", spec := "treeNil", inPlace := ["internal/bytealg.Compare"], unfollowed := true, recurses := true, apart := false }
def TreeNilSaid : Prop := treeNilRow.holds Try.pinned (OpenSpec.ofChange treeNilSpec)

/-- ITS FALSE NEIGHBOUR: 'it returns false'. Refute it at one input. -/
def treeNilWrong : ChangeSpec := { name := "treeNil", fn := fun _ => fun
  | [d] => { results := [.lit (.bool false)], args := [d] }
  | _ => none }
def TreeNilWrongFalsely : Prop := treeNilRow.holds Try.pinned (OpenSpec.ofChange treeNilWrong)

/- THE SECOND FORM. 'bulk': how many values and letters a reading holds, each counted each time it is reached (what is shared counts as often as it is met; a slice's spare places count too). A statement '..UptoSaid' is the law's where the arguments, and the package variables that the reading takes, are together of bulk at most 1048576: NARROWER than '..Said'. Prove '..Said' where nothing that the law and all that it calls make is longer than what came in: it says more and counts as full. Else prove '..UptoSaid'. A law counts once. -/
mutual
def uptoBulk {H : Type} : DataW H → Nat
  | .lit (.string bytes) => bytes.length + 1
  | .lit _ => 1
  | .nil => 1
  | .ptr d => uptoBulk d + 1
  | .slice elems spare => uptoBulkAll elems + uptoBulkAll spare + 1
  | .agg parts => uptoBulkAll parts + 1
  | .iface _ d => uptoBulk d + 1
  | .map entries => uptoBulkEntries entries + 1
  | .held _ => 1
def uptoBulkAll {H : Type} : List (DataW H) → Nat
  | [] => 0
  | d :: r => uptoBulk d + uptoBulkAll r
def uptoBulkEntries {H : Type} : List (Lit × DataW H) → Nat
  | [] => 0
  | x :: r => uptoBulkEntry x + uptoBulkEntries r
def uptoBulkEntry {H : Type} : Lit × DataW H → Nat
  | (.string bytes, d) => bytes.length + uptoBulk d + 1
  | (_, d) => uptoBulk d + 1
 end
def uptoSmall : (H : Type) → List (DataW H) → Bool := fun _ ds => decide (uptoBulkAll ds ≤ 1048576)
def OpenSpec.upto (s : _root_.Go.ChangeSpec) : _root_.Go.OpenSpec := { _root_.Go.OpenSpec.ofChange s with cond := some uptoSmall }

/-- 'merestonelaw17.TreePuts', WHERE WHAT IT READS IS OF BULK AT MOST 1048576: true; the input reads as it did. -/
def treePutsUptoRow : OpenClaim := { program := "ytkolacaceaamoaa", sum := "1d903bbd0edd908da9973e970a43511c8c741a32476f36cb9d2f08c796218117", func := "merestone/merestonelaw17.TreePuts", spec := "treePuts", inPlace := ["internal/bytealg.Compare"], unfollowed := true, recurses := true, apart := false, narrowed := true }
def TreePutsUptoSaid : Prop := treePutsUptoRow.holds Try.pinned (OpenSpec.upto treePutsSpec)

/-- 'merestonelaw17.TreeFinds', WHERE WHAT IT READS IS OF BULK AT MOST 1048576: true; the input reads as it did. -/
def treeFindsUptoRow : OpenClaim := { program := "ytkolacaceaamoaa", sum := "1d903bbd0edd908da9973e970a43511c8c741a32476f36cb9d2f08c796218117", func := "merestone/merestonelaw17.TreeFinds", spec := "treeFinds", inPlace := ["internal/bytealg.Compare"], unfollowed := true, recurses := true, apart := false, narrowed := true }
def TreeFindsUptoSaid : Prop := treeFindsUptoRow.holds Try.pinned (OpenSpec.upto treeFindsSpec)

/-- 'merestonelaw17.TreeSame', WHERE WHAT IT READS IS OF BULK AT MOST 1048576: true; the input reads as it did. -/
def treeSameUptoRow : OpenClaim := { program := "ytkolacaceaamoaa", sum := "1d903bbd0edd908da9973e970a43511c8c741a32476f36cb9d2f08c796218117", func := "merestone/merestonelaw17.TreeSame", spec := "treeSame", inPlace := ["internal/bytealg.Compare"], unfollowed := true, recurses := true, apart := false, narrowed := true }
def TreeSameUptoSaid : Prop := treeSameUptoRow.holds Try.pinned (OpenSpec.upto treeSameSpec)

/-- 'merestonelaw17.TreeNil', WHERE WHAT IT READS IS OF BULK AT MOST 1048576: true; the input reads as it did. -/
def treeNilUptoRow : OpenClaim := { program := "ytkolacaceaamoaa", sum := "1d903bbd0edd908da9973e970a43511c8c741a32476f36cb9d2f08c796218117", func := "merestone/merestonelaw17.TreeNil", spec := "treeNil", inPlace := ["internal/bytealg.Compare"], unfollowed := true, recurses := true, apart := false, narrowed := true }
def TreeNilUptoSaid : Prop := treeNilUptoRow.holds Try.pinned (OpenSpec.upto treeNilSpec)

end Rows
end Go.Proofs.Ytkolacaceaamoaa
