/- cmp.Or at ints; what comparing is. -/
import Derived.Test.YtmfilhmcgagjcaaLib
namespace Go.Proofs.Ytmfilhmcgagjcaa
set_option linter.unusedSimpArgs false
set_option linter.unusedVariables false
open Go.RowKit
def cmpOf (a b : Int) : Int := if a < b then -1 else if b < a then 1 else 0
def orOf (x y : Int) : Int := if x = 0 then y else x
set_option maxHeartbeats 400000 in
theorem or_any (x y : Int) (g : Nat) (w : World) (c0 : w.cell? ⟨g, 0, none⟩ = some (.int .i64 x)) (c1 : w.cell? ⟨g, 1, none⟩ = some (.int .i64 y)) :
    Calls Try.prog 38 #[.slice (some ⟨g, 0, none⟩) 2 2] w fun e w' => e = .returned (.int .i64 (orOf x y)) ∧ w = w' := by
  go_enter Try.func38, Try.ntmps38
  go_wp2
  go_loop [8] (fun i => i = .int .i64 0 ∨ (i = .int .i64 1 ∧ x = 0) ∨ (i = .int .i64 2 ∧ x = 0 ∧ y = 0)) (fun i => 2 - (intOf i).toNat)
  case atStart => exact .inl rfl
  case round =>
    rcases hrel with rfl | ⟨rfl, hx⟩ | ⟨rfl, hx, hy⟩
    · by_cases hx : x = 0
      · have hx1 : (x != 0) = false := by simp [hx]
        have HX := hide hx
        clear hx
        go_wp2
        go_round
        case rel => exact .inr (.inl ⟨rfl, HX.out⟩)
        case measure => simp [intOf]
      · have hx1 : (x != 0) = true := by simp [hx]
        go_wp2
        go_ret
        exact ⟨ret_int (by unfold orOf; rw [if_neg hx]), rfl⟩
    · have HX := hide hx
      clear hx
      by_cases hy : y = 0
      · have hy1 : (y != 0) = false := by simp [hy]
        have HY := hide hy
        clear hy
        go_wp2
        go_round
        case rel => exact .inr (.inr ⟨rfl, HX.out, HY.out⟩)
        case measure => simp [intOf]
      · have hy1 : (y != 0) = true := by simp [hy]
        go_wp2
        go_ret
        exact ⟨ret_int (by unfold orOf; rw [if_pos HX.out]), rfl⟩
    · have HX := hide hx
      have HY := hide hy
      clear hx hy
      go_wp2
      go_ret
      exact ⟨ret_int (by unfold orOf; rw [if_pos HX.out, HY.out]), rfl⟩
end Go.Proofs.Ytmfilhmcgagjcaa
