/- The reference's numbers: Sign, Compare. -/
import Derived.Test.YtmfilhmcgagjcaaWideS
import Derived.Test.YtmfilhmcgagjcaaWideE
namespace Go.Proofs.Ytmfilhmcgagjcaa
set_option linter.unusedSimpArgs false
set_option linter.unusedVariables false
open Go.RowKit
set_option maxHeartbeats 400000 in
theorem rsign_any (x : I2) (w : World) (hx : x.ok) :
    Calls Try.prog 23 #[.agg #[.int .i64 x.hi, .int .u64 x.lo]] w fun e w' => e = .returned (.int .i64 (cmpOf x.num 0)) ∧ Below w.heap.size w w' := by
  have HS := hide (sign_num x hx)
  clear hx
  cases d0 : decide (x.hi < 0)
  · rcases zero_ways x with ⟨z1, z2⟩ | z1 | ⟨z1, z2⟩
    · have HV : Hid (cmpOf x.num 0 = 0) := hide (by rw [HS.out, if_neg (by simpa using d0), if_pos (by simp at z1 z2; exact ⟨z1, z2⟩)])
      go_enter Try.func23, Try.ntmps23
      go_wp2
      go_ret
      exact ⟨ret_int HV.out.symm, by (repeat (first | exact Below.refl _ _ | refine Below.drew ?_ | refine Below.setCell ?_ (by simp; try omega) _ | refine bal ?_ _))⟩
    · have HV : Hid (cmpOf x.num 0 = 1) := hide (by rw [HS.out, if_neg (by simpa using d0), if_neg (by simp at z1; omega)])
      go_enter Try.func23, Try.ntmps23
      go_wp2
      go_ret
      exact ⟨ret_int HV.out.symm, by (repeat (first | exact Below.refl _ _ | refine Below.drew ?_ | refine Below.setCell ?_ (by simp; try omega) _ | refine bal ?_ _))⟩
    · have HV : Hid (cmpOf x.num 0 = 1) := hide (by rw [HS.out, if_neg (by simpa using d0), if_neg (by simp at z2; omega)])
      go_enter Try.func23, Try.ntmps23
      go_wp2
      go_ret
      exact ⟨ret_int HV.out.symm, by (repeat (first | exact Below.refl _ _ | refine Below.drew ?_ | refine Below.setCell ?_ (by simp; try omega) _ | refine bal ?_ _))⟩
  · have HV : Hid (cmpOf x.num 0 = -1) := hide (by rw [HS.out, if_pos (by simpa using d0)])
    go_enter Try.func23, Try.ntmps23
    go_wp2
    go_ret
    exact ⟨ret_int HV.out.symm, by (repeat (first | exact Below.refl _ _ | refine Below.drew ?_ | refine Below.setCell ?_ (by simp; try omega) _ | refine bal ?_ _))⟩
theorem rcmp_ways {x y : I2} (hx : x.ok) (hy : y.ok) :
    (decide (x.hi < y.hi) = true ∧ cmpOf x.num y.num = -1) ∨
    (decide (x.hi < y.hi) = false ∧ (x.hi == y.hi) = true ∧ decide (x.lo < y.lo) = true ∧ cmpOf x.num y.num = -1) ∨
    (decide (x.hi < y.hi) = false ∧ (x.hi == y.hi) = true ∧ decide (x.lo < y.lo) = false ∧ (x.lo == y.lo) = true ∧ cmpOf x.num y.num = 0) ∨
    (decide (x.hi < y.hi) = false ∧ (x.hi == y.hi) = true ∧ decide (x.lo < y.lo) = false ∧ (x.lo == y.lo) = false ∧ cmpOf x.num y.num = 1) ∨
    (decide (x.hi < y.hi) = false ∧ (x.hi == y.hi) = false ∧ cmpOf x.num y.num = 1) := by
  unfold I2.ok at hx hy
  have e1 : x.num = x.hi * 18446744073709551616 + x.lo := rfl
  have e2 : y.num = y.hi * 18446744073709551616 + y.lo := rfl
  simp only [decide_eq_true_iff, decide_eq_false_iff_not, beq_iff_eq, beq_eq_false_iff_ne]
  rcases Int.lt_trichotomy x.hi y.hi with h | h | h
  · exact .inl ⟨h, cmpOf_lt (by omega)⟩
  · rcases Int.lt_trichotomy x.lo y.lo with k | k | k
    · exact .inr (.inl ⟨by omega, h, k, cmpOf_lt (by omega)⟩)
    · exact .inr (.inr (.inl ⟨by omega, h, by omega, k, cmpOf_eq (by omega)⟩))
    · exact .inr (.inr (.inr (.inl ⟨by omega, h, by omega, by omega, cmpOf_gt (by omega)⟩)))
  · exact .inr (.inr (.inr (.inr ⟨by omega, by omega, cmpOf_gt (by omega)⟩)))
set_option maxHeartbeats 1000000 in
theorem rcmp_any (x y : I2) (w : World) (hx : x.ok) (hy : y.ok) :
    Calls Try.prog 25 #[.agg #[.int .i64 x.hi, .int .u64 x.lo], .agg #[.int .i64 y.hi, .int .u64 y.lo]] w fun e w' => e = .returned (.int .i64 (cmpOf x.num y.num)) ∧ Below w.heap.size w w' := by
  rcases rcmp_ways hx hy with ⟨d1, hv⟩ | ⟨d1, d2, d3, hv⟩ | ⟨d1, d2, d3, d4, hv⟩ | ⟨d1, d2, d3, d4, hv⟩ | ⟨d1, d2, hv⟩
  all_goals
    have HV := hide hv
    clear hv hx hy
    go_enter Try.func25, Try.ntmps25
    go_wp2
    go_ret
    exact ⟨ret_int HV.out.symm, by (repeat (first | exact Below.refl _ _ | refine Below.drew ?_ | refine Below.setCell ?_ (by simp; try omega) _ | refine bal ?_ _))⟩
end Go.Proofs.Ytmfilhmcgagjcaa
