/- The sectors' disk: New, Down, Limit. -/
import Derived.Test.YtddcmockdomonaaPgA
import Derived.Maps.OwnSet
namespace Go.Proofs.Ytddcmockdomonaa
set_option linter.unusedSimpArgs false
set_option linter.unusedVariables false
open Go.RowKit
/-- How an element of the disk's map stands in the ghost datum: as itself. -/
def heldR (v : Value) : Option (DataW Value × List MemPlace) := some (.held v, [])
abbrev DMap (w : World) (b n : Nat) (D : DataW Value) : Prop := w.ownsMap Try.prog 3 heldR b n D
set_option maxHeartbeats 1000000 in
theorem down_any (b : Nat) (out : Bool) (left size : Int) (m : Option Nat) (u : Value) (w : World) (h : Blk w b 65 (dk out left size m u)) :
    Calls Try.prog 24 #[.pointer (some ⟨b, 0, none⟩)] w fun e w' => e = .returned (.bool out) ∧ Below w.heap.size w w' := by
  have kx := h.cell; have qx := h.frozen; have zx := h.lt
  unfold dk at kx
  clear h
  go_enter Try.func24, Try.ntmps24
  go_wp2_with fail
  go_ret
  exact ⟨rfl, by (repeat (first | exact Below.refl _ _ | refine Below.drew ?_ | refine Below.setCell ?_ (by simp; try omega) _ | refine bal ?_ _))⟩
set_option maxHeartbeats 1000000 in
theorem limit_any (b : Nat) (out : Bool) (left size n : Int) (m : Option Nat) (u : Value) (w : World) (h : Blk w b 65 (dk out left size m u)) (hn : 0 ≤ n) :
    Calls Try.prog 20 #[.pointer (some ⟨b, 0, none⟩), .int .i64 n] w fun e w' => e = .returned (.int .i64 0) ∧ Blk w' b 65 (dk out n size m u) ∧ w.grownBy w' (some b) := by
  have HB := hide h
  have kx := h.cell; have qx := h.frozen; have zx := h.lt
  unfold dk at kx
  clear h
  have d : decide (n < 0) = false := by simpa using hn
  clear hn
  go_enter Try.func20, Try.ntmps20
  go_wp2_with fail
  go_ret
  exact ⟨rfl, HB.out.set_ 1 (.int .i64 n), gby_set _ _ _ _⟩
set_option maxHeartbeats 1000000 in
theorem new_any (n : Int) (w : World) (hn : 1 ≤ n ∧ n ≤ 65536) :
    Calls Try.prog 7 #[.int .i64 n] w fun e w' => e = .returned (.tuple #[.pointer (some ⟨w.heap.size + 1, 0, none⟩), .int .i64 0]) ∧ DMap w' w.heap.size 0 (.map []) ∧ Blk w' (w.heap.size + 1) 65 (dk false 0 n (some w.heap.size) (.slice none 0 0)) ∧ Below w.heap.size w w' := by
  have hmm := @run_makeMap Try.prog
  have HM := hide (World.ownsMap_made w Try.prog 3 heldR)
  have d1 : decide (n < 1) = false := by simp; omega
  have d2 : decide (65536 < n) = false := by simp; omega
  clear hn
  go_enter Try.func7, Try.ntmps7
  go_wp2_with fail
  refine bodyPost_ret (v := .tuple #[.pointer (some ⟨w.heap.size + 1, 0, none⟩), .int .i64 0]) (by simp [results, Try.results7, go_sem]) rfl ⟨rfl, HM.out.alloc _, ?_, by (repeat (first | exact Below.refl _ _ | refine Below.drew ?_ | refine Below.setCell ?_ (by simp; try omega) _ | refine bal ?_ _))⟩
  have := Blk.new (w.alloc (.map #[] 0)) 65 (dk false 0 n (some w.heap.size) (.slice none 0 0))
  simpa [dk] using this
end Go.Proofs.Ytddcmockdomonaa
