/-
  No cell of these rows narrows 'for every input' (looked for: loops, veiled, ifaces, maps, wideKeys, modest, calm, conditions, laid).
  DERIVED. THE GIVEN ROWS OF THIS SEAT. 4 by the template 'for every input the law returns true; each argument reads behind the call as it read before'; 0 by the template 'total and deterministic' (their statements: YtddcmockdomonaaTotals.lean).
  GIVEN WITH THE SEED: the statements are not yours to turn. If you find one false, say at which input.
  Laid BY PROGRAM, IN A SANDBOX (cutbox-rows.mjs): the forced cells as the released guide's own fill.sh prints them over the translation 97e87ca3d934cd50… (all of the seat's roots in one cut). By AI agents, Wed Nov 11 2026. No macro, syntax, notation, axiom, sorry.
-/
import Derived.Test.YtddcmockdomonaaChecked
import GoSem.Claim
import GoSem.ClaimJoined
import GoSem.ClaimMapViews
import Derived.JoinedTies
import Derived.KernelRfl
namespace Go.Proofs.Ytddcmockdomonaa
/- THE CELL 'sum', in the pinned program and in every row, IS THE sha256 OF THE DUMP (.gsa) THAT YtddcmockdomonaaProg.lean LOADS. Nothing in Lean hashes anything: it is a label: what it is worth is what the hold of that sum in a sandbox is worth. -/
noncomputable def Try.pinned : Pinned := { name := "ytddcmockdomonaa", sum := "97e87ca3d934cd50bd1f20db64db7ce53cd5b6039f2a3492e93b49735e050035", checked := Try.checked }
namespace Rows
def none {H : Type} : Left H := { results := [], args := [] }

/-- 'merestonelaw16.PagerRoots': WHATEVER THE INPUT: true; the input reads as it did. -/
def pagerRootsSpec : ChangeSpec := { name := "pagerRoots", fn := fun _ => fun
  | [d1, d2] => { results := [.lit (.bool true)], args := [d1, d2] }
  | _ => none }
def pagerRootsRow : OpenClaim := { program := "ytddcmockdomonaa", sum := "97e87ca3d934cd50bd1f20db64db7ce53cd5b6039f2a3492e93b49735e050035", func := "merestone/merestonelaw16.PagerRoots", spec := "pagerRoots", unfollowed := true, recurses := true, apart := false }
def PagerRootsSaid : Prop := pagerRootsRow.holds Try.pinned (OpenSpec.ofChange pagerRootsSpec)

/-- ITS FALSE NEIGHBOUR: 'it returns false'. Refute it at one input. -/
def pagerRootsWrong : ChangeSpec := { name := "pagerRoots", fn := fun _ => fun
  | [d1, d2] => { results := [.lit (.bool false)], args := [d1, d2] }
  | _ => none }
def PagerRootsWrongFalsely : Prop := pagerRootsRow.holds Try.pinned (OpenSpec.ofChange pagerRootsWrong)

/-- 'merestonelaw16.PagerRoom': WHATEVER THE INPUT: true; the input reads as it did. -/
def pagerRoomSpec : ChangeSpec := { name := "pagerRoom", fn := fun _ => fun
  | [d1, d2] => { results := [.lit (.bool true)], args := [d1, d2] }
  | _ => none }
def pagerRoomRow : OpenClaim := { program := "ytddcmockdomonaa", sum := "97e87ca3d934cd50bd1f20db64db7ce53cd5b6039f2a3492e93b49735e050035", func := "merestone/merestonelaw16.PagerRoom", spec := "pagerRoom", unfollowed := true, recurses := true, apart := false }
def PagerRoomSaid : Prop := pagerRoomRow.holds Try.pinned (OpenSpec.ofChange pagerRoomSpec)

/-- ITS FALSE NEIGHBOUR: 'it returns false'. Refute it at one input. -/
def pagerRoomWrong : ChangeSpec := { name := "pagerRoom", fn := fun _ => fun
  | [d1, d2] => { results := [.lit (.bool false)], args := [d1, d2] }
  | _ => none }
def PagerRoomWrongFalsely : Prop := pagerRoomRow.holds Try.pinned (OpenSpec.ofChange pagerRoomWrong)

/-- 'merestonelaw16.PagerRefuses': WHATEVER THE INPUT: true; the input reads as it did. -/
def pagerRefusesSpec : ChangeSpec := { name := "pagerRefuses", fn := fun _ => fun
  | [d1, d2] => { results := [.lit (.bool true)], args := [d1, d2] }
  | _ => none }
def pagerRefusesRow : OpenClaim := { program := "ytddcmockdomonaa", sum := "97e87ca3d934cd50bd1f20db64db7ce53cd5b6039f2a3492e93b49735e050035", func := "merestone/merestonelaw16.PagerRefuses", spec := "pagerRefuses", unfollowed := true, recurses := true, apart := false }
def PagerRefusesSaid : Prop := pagerRefusesRow.holds Try.pinned (OpenSpec.ofChange pagerRefusesSpec)

/-- ITS FALSE NEIGHBOUR: 'it returns false'. Refute it at one input. -/
def pagerRefusesWrong : ChangeSpec := { name := "pagerRefuses", fn := fun _ => fun
  | [d1, d2] => { results := [.lit (.bool false)], args := [d1, d2] }
  | _ => none }
def PagerRefusesWrongFalsely : Prop := pagerRefusesRow.holds Try.pinned (OpenSpec.ofChange pagerRefusesWrong)

/-- 'merestonelaw16.PagerActs': WHATEVER THE INPUT: true; the input reads as it did. -/
def pagerActsSpec : ChangeSpec := { name := "pagerActs", fn := fun _ => fun
  | [d1, d2] => { results := [.lit (.bool true)], args := [d1, d2] }
  | _ => none }
def pagerActsRow : OpenClaim := { program := "ytddcmockdomonaa", sum := "97e87ca3d934cd50bd1f20db64db7ce53cd5b6039f2a3492e93b49735e050035", func := "merestone/merestonelaw16.PagerActs", spec := "pagerActs", unfollowed := true, recurses := true, apart := false }
def PagerActsSaid : Prop := pagerActsRow.holds Try.pinned (OpenSpec.ofChange pagerActsSpec)

/-- ITS FALSE NEIGHBOUR: 'it returns false'. Refute it at one input. -/
def pagerActsWrong : ChangeSpec := { name := "pagerActs", fn := fun _ => fun
  | [d1, d2] => { results := [.lit (.bool false)], args := [d1, d2] }
  | _ => none }
def PagerActsWrongFalsely : Prop := pagerActsRow.holds Try.pinned (OpenSpec.ofChange pagerActsWrong)

/- THE SECOND FORM. 'bulk': how many values and letters a reading holds, each counted each time it is reached (what is shared counts as often as it is met; a slice's spare places count too). A statement '..UptoSaid' is the law's where the arguments, and the package variables that the reading takes, are together of bulk at most 1048576: NARROWER than '..Said'. Prove '..Said' where nothing that the law and all that it calls make is longer than what came in: it says more and counts as full. Else prove '..UptoSaid'. A law counts once. -/
mutual
def uptoBulk {H : Type} : DataW H → Nat
  | .lit (.string bytes) => bytes.length + 1
  | .lit _ => 1
  | .nil => 1
  | .ptr d => uptoBulk d + 1
  | .slice elems spare => uptoBulkAll elems + uptoBulkAll spare + 1
  | .agg parts => uptoBulkAll parts + 1
  | .iface _ d => uptoBulk d + 1
  | .map entries => uptoBulkEntries entries + 1
  | .held _ => 1
def uptoBulkAll {H : Type} : List (DataW H) → Nat
  | [] => 0
  | d :: r => uptoBulk d + uptoBulkAll r
def uptoBulkEntries {H : Type} : List (Lit × DataW H) → Nat
  | [] => 0
  | x :: r => uptoBulkEntry x + uptoBulkEntries r
def uptoBulkEntry {H : Type} : Lit × DataW H → Nat
  | (.string bytes, d) => bytes.length + uptoBulk d + 1
  | (_, d) => uptoBulk d + 1
 end
def uptoSmall : (H : Type) → List (DataW H) → Bool := fun _ ds => decide (uptoBulkAll ds ≤ 1048576)
def OpenSpec.upto (s : _root_.Go.ChangeSpec) : _root_.Go.OpenSpec := { _root_.Go.OpenSpec.ofChange s with cond := some uptoSmall }

/-- 'merestonelaw16.PagerRoots', WHERE WHAT IT READS IS OF BULK AT MOST 1048576: true; the input reads as it did. -/
def pagerRootsUptoRow : OpenClaim := { program := "ytddcmockdomonaa", sum := "97e87ca3d934cd50bd1f20db64db7ce53cd5b6039f2a3492e93b49735e050035", func := "merestone/merestonelaw16.PagerRoots", spec := "pagerRoots", unfollowed := true, recurses := true, apart := false, narrowed := true }
def PagerRootsUptoSaid : Prop := pagerRootsUptoRow.holds Try.pinned (OpenSpec.upto pagerRootsSpec)

/-- 'merestonelaw16.PagerRoom', WHERE WHAT IT READS IS OF BULK AT MOST 1048576: true; the input reads as it did. -/
def pagerRoomUptoRow : OpenClaim := { program := "ytddcmockdomonaa", sum := "97e87ca3d934cd50bd1f20db64db7ce53cd5b6039f2a3492e93b49735e050035", func := "merestone/merestonelaw16.PagerRoom", spec := "pagerRoom", unfollowed := true, recurses := true, apart := false, narrowed := true }
def PagerRoomUptoSaid : Prop := pagerRoomUptoRow.holds Try.pinned (OpenSpec.upto pagerRoomSpec)

/-- 'merestonelaw16.PagerRefuses', WHERE WHAT IT READS IS OF BULK AT MOST 1048576: true; the input reads as it did. -/
def pagerRefusesUptoRow : OpenClaim := { program := "ytddcmockdomonaa", sum := "97e87ca3d934cd50bd1f20db64db7ce53cd5b6039f2a3492e93b49735e050035", func := "merestone/merestonelaw16.PagerRefuses", spec := "pagerRefuses", unfollowed := true, recurses := true, apart := false, narrowed := true }
def PagerRefusesUptoSaid : Prop := pagerRefusesUptoRow.holds Try.pinned (OpenSpec.upto pagerRefusesSpec)

/-- 'merestonelaw16.PagerActs', WHERE WHAT IT READS IS OF BULK AT MOST 1048576: true; the input reads as it did. -/
def pagerActsUptoRow : OpenClaim := { program := "ytddcmockdomonaa", sum := "97e87ca3d934cd50bd1f20db64db7ce53cd5b6039f2a3492e93b49735e050035", func := "merestone/merestonelaw16.PagerActs", spec := "pagerActs", unfollowed := true, recurses := true, apart := false, narrowed := true }
def PagerActsUptoSaid : Prop := pagerActsUptoRow.holds Try.pinned (OpenSpec.upto pagerActsSpec)

end Rows
end Go.Proofs.Ytddcmockdomonaa
