/- Blocks of noughts. -/
import Derived.Test.YtddcmockdomonaaPgA
import Derived.Deep.CutRange
import Derived.Deep.OwnRows
namespace Go.Proofs.Ytddcmockdomonaa
set_option linter.unusedSimpArgs false
set_option linter.unusedVariables false
open Go.RowKit
def fillA (c : Int) (k n : Nat) : Array Value := ((List.range n).map fun i => Value.int .u8 (if i < k then c else 0)).toArray
theorem fillA_0 (c : Int) (n : Nat) : madeCells #[Value.int .u8 0] n = fillA c 0 n := by
  apply Array.ext'
  rw [toList_madeCells_one]
  unfold fillA
  simp [List.map_const']
theorem fillA_at (c : Int) {k n j : Nat} (h : j < n) : (fillA c k n)[j]? = some (.int .u8 (if j < k then c else 0)) := by
  unfold fillA
  simp [h]
theorem fillA_set (c : Int) {k n : Nat} : (fillA c k n).setIfInBounds k (.int .u8 c) = fillA c (k + 1) n := by
  unfold fillA
  apply Array.ext'
  apply List.ext_getElem?
  intro i
  simp [List.getElem?_set]
  by_cases e : k = i
  · subst e
    by_cases h : k < n <;> simp [h]
  · by_cases h : i < n
    · simp [e, h, show (i < k + 1) = (i < k) by simp; omega]
    · simp [e, h]
theorem u8_info : (Try.prog.info? 5).map (fun i => (i.zero, i.size, i.bytes)) = some (some (.int .u8 0), 1, 1) := by kernel_rfl
def dataN (c : Int) (odd : Bool) : Nat := if odd then 511 + (c % 3 * 2).toNat else 512
end Go.Proofs.Ytddcmockdomonaa
