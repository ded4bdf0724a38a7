/- The sectors' disk: what the small functions do. -/
import Derived.Test.YtddcmockdomonaaEnv
import Derived.BigRegion
namespace Go.Proofs.Ytddcmockdomonaa
set_option linter.unusedSimpArgs false
set_option linter.unusedVariables false
open Go.RowKit
/-- A disk's block. -/
def dk (out : Bool) (left size : Int) (m : Option Nat) (u : Value) : Array Value := #[.bool out, .int .i64 left, .int .i64 size, .map m, u]
def burnO (out : Bool) (left : Int) : Bool := if 0 < left then left - 1 == 0 else out
def burnL (left : Int) : Int := if 0 < left then left - 1 else left
theorem gby_set (W : World) (b i : Nat) (v : Value) : W.grownBy (W.setCell ⟨b, i, none⟩ v) (some b) := by
  refine ⟨rfl, rfl, rfl, by simp, fun j hj hne => Below.heap_setCell _ _ _ _ (fun e => hne (by rw [e]))⟩
set_option maxHeartbeats 1000000 in
theorem burn_any (b : Nat) (out : Bool) (left size : Int) (m : Option Nat) (u : Value) (w : World) (h : Blk w b 65 (dk out left size m u)) (hl : 0 ≤ left ∧ left < 9223372036854775808) :
    Calls Try.prog 45 #[.pointer (some ⟨b, 0, none⟩)] w fun e w' => e = .returned (.bool (burnO out left)) ∧ Blk w' b 65 (dk (burnO out left) (burnL left) size m u) ∧ w.grownBy w' (some b) := by
  have HB := hide h
  have kx := h.cell; have qx := h.frozen; have zx := h.lt
  unfold dk at kx
  obtain ⟨l1, l2⟩ := hl
  unfold burnO burnL
  cases d : decide (0 < left)
  · have d' : ¬ 0 < left := by simpa using d
    rw [if_neg d', if_neg d']
    clear d'
    go_enter Try.func45, Try.ntmps45
    go_wp2_with fail
    go_ret
    exact ⟨rfl, HB.out, World.grownBy.refl _ _⟩
  · have d' : 0 < left := by simpa using d
    rw [if_pos d', if_pos d']
    clear d'
    go_enter Try.func45, Try.ntmps45
    go_wp2_with fail
    go_ret
    exact ⟨rfl, (HB.out.set_ 1 (.int .i64 (left - 1))).set_ 0 (.bool (left - 1 == 0)), (gby_set _ _ _ _).trans (gby_set _ _ _ _)⟩
def faultE (out : Bool) (size at_ : Int) : Int := if out then 15 else if at_ < 0 then 1 else if size ≤ at_ then 1 else 0
set_option maxHeartbeats 1000000 in
theorem fault_any (b : Nat) (out : Bool) (left size at_ : Int) (m : Option Nat) (u : Value) (w : World) (h : Blk w b 65 (dk out left size m u)) :
    Calls Try.prog 40 #[.pointer (some ⟨b, 0, none⟩), .int .i64 at_] w fun e w' => e = .returned (.int .i64 (faultE out size at_)) ∧ Below w.heap.size w w' := by
  have kx := h.cell; have qx := h.frozen; have zx := h.lt
  unfold dk at kx
  clear h
  unfold faultE
  cases out
  · cases d : decide (at_ < 0)
    · have d0 : ¬ at_ < 0 := by simpa using d
      cases d2 : decide (size ≤ at_)
      · have d3 : ¬ size ≤ at_ := by simpa using d2
        simp only [if_neg d0, if_neg d3, Bool.false_eq_true, if_false]
        clear d0 d3
        go_enter Try.func40, Try.ntmps40
        go_wp2_with fail
        go_ret
        exact ⟨rfl, by (repeat (first | exact Below.refl _ _ | refine Below.drew ?_ | refine Below.setCell ?_ (by simp; try omega) _ | refine bal ?_ _))⟩
      · have d3 : size ≤ at_ := by simpa using d2
        simp only [if_neg d0, if_pos d3, Bool.false_eq_true, if_false]
        clear d0 d3
        go_enter Try.func40, Try.ntmps40
        go_wp2_with fail
        go_ret
        exact ⟨rfl, by (repeat (first | exact Below.refl _ _ | refine Below.drew ?_ | refine Below.setCell ?_ (by simp; try omega) _ | refine bal ?_ _))⟩
    · have d0 : at_ < 0 := by simpa using d
      simp only [if_pos d0, Bool.false_eq_true, if_false]
      clear d0
      go_enter Try.func40, Try.ntmps40
      go_wp2_with fail
      go_ret
      exact ⟨rfl, by (repeat (first | exact Below.refl _ _ | refine Below.drew ?_ | refine Below.setCell ?_ (by simp; try omega) _ | refine bal ?_ _))⟩
  · simp only [if_true]
    go_enter Try.func40, Try.ntmps40
    go_wp2_with fail
    go_ret
    exact ⟨rfl, by (repeat (first | exact Below.refl _ _ | refine Below.drew ?_ | refine Below.setCell ?_ (by simp; try omega) _ | refine bal ?_ _))⟩
end Go.Proofs.Ytddcmockdomonaa
