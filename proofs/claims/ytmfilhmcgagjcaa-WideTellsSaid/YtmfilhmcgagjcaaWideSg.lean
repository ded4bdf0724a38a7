/- wide.Sign. -/
import Derived.Test.YtmfilhmcgagjcaaWideA
import Derived.Test.YtmfilhmcgagjcaaCmp0
namespace Go.Proofs.Ytmfilhmcgagjcaa
set_option linter.unusedSimpArgs false
set_option linter.unusedVariables false
open Go.RowKit
theorem sign_num (x : I2) (hx : x.ok) : cmpOf x.num 0 = if x.hi < 0 then -1 else if x.hi = 0 ∧ x.lo = 0 then 0 else 1 := by
  unfold I2.ok at hx; unfold cmpOf I2.num
  by_cases h1 : x.hi < 0
  · rw [if_pos h1, if_pos (by omega)]
  · rw [if_neg h1, if_neg (by omega)]
    by_cases h2 : x.hi = 0 ∧ x.lo = 0
    · rw [if_pos h2, if_neg (by omega)]
    · rw [if_neg h2, if_pos (by omega)]
theorem zero_ways (x : I2) : ((x.hi == 0) = true ∧ (x.lo == 0) = true) ∨ ((x.hi == 0) = false) ∨ ((x.hi == 0) = true ∧ (x.lo == 0) = false) := by
  cases h1 : (x.hi == 0) <;> cases h2 : (x.lo == 0) <;> simp
set_option maxHeartbeats 400000 in
theorem sign_any (x : I2) (w : World) (hx : x.ok) :
    Calls Try.prog 22 #[.agg #[.int .i64 x.hi, .int .u64 x.lo]] w fun e w' => e = .returned (.int .i64 (cmpOf x.num 0)) ∧ Below w.heap.size w w' := by
  have HS := hide (sign_num x hx)
  clear hx
  cases d0 : decide (x.hi < 0)
  · rcases zero_ways x with ⟨z1, z2⟩ | z1 | ⟨z1, z2⟩
    · have HV : Hid (cmpOf x.num 0 = 0) := hide (by rw [HS.out, if_neg (by simpa using d0), if_pos (by simp at z1 z2; exact ⟨z1, z2⟩)])
      go_enter Try.func22, Try.ntmps22
      go_wp2
      go_ret
      exact ⟨ret_int HV.out.symm, by (repeat (first | exact Below.refl _ _ | refine Below.drew ?_ | refine Below.setCell ?_ (by simp; try omega) _ | refine bal ?_ _))⟩
    · have HV : Hid (cmpOf x.num 0 = 1) := hide (by rw [HS.out, if_neg (by simpa using d0), if_neg (by simp at z1; omega)])
      go_enter Try.func22, Try.ntmps22
      go_wp2
      go_ret
      exact ⟨ret_int HV.out.symm, by (repeat (first | exact Below.refl _ _ | refine Below.drew ?_ | refine Below.setCell ?_ (by simp; try omega) _ | refine bal ?_ _))⟩
    · have HV : Hid (cmpOf x.num 0 = 1) := hide (by rw [HS.out, if_neg (by simpa using d0), if_neg (by simp at z2; omega)])
      go_enter Try.func22, Try.ntmps22
      go_wp2
      go_ret
      exact ⟨ret_int HV.out.symm, by (repeat (first | exact Below.refl _ _ | refine Below.drew ?_ | refine Below.setCell ?_ (by simp; try omega) _ | refine bal ?_ _))⟩
  · have HV : Hid (cmpOf x.num 0 = -1) := hide (by rw [HS.out, if_pos (by simpa using d0)])
    go_enter Try.func22, Try.ntmps22
    go_wp2
    go_ret
    exact ⟨ret_int HV.out.symm, by (repeat (first | exact Below.refl _ _ | refine Below.drew ?_ | refine Below.setCell ?_ (by simp; try omega) _ | refine bal ?_ _))⟩
end Go.Proofs.Ytmfilhmcgagjcaa
