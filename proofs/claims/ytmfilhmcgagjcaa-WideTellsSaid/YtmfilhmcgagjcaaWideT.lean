/- The law's answers. -/
import Derived.Test.YtmfilhmcgagjcaaWideS
import Derived.Test.YtmfilhmcgagjcaaWideTot
import Derived.Test.YtmfilhmcgagjcaaText
namespace Go.Proofs.Ytmfilhmcgagjcaa
set_option linter.unusedSimpArgs false
set_option linter.unusedVariables false
open Go.RowKit
theorem ans_txt : txt (-12) = [45, 49, 50] := by
  unfold txt dec
  rw [if_pos (by decide), show (-12 : Int).natAbs = 12 by decide, rd_hi (by decide), rd_lo (by decide)]
  decide
set_option maxHeartbeats 400000 in
theorem wanswers_any (w : World) : Calls Try.prog 10 #[] w fun e w' => e = .returned (.bool true) ∧ Below w.heap.size w w' := by
  have HX := hide (two_ok (n := -12) (by decide))
  go_enter Try.func10, Try.ntmps10
  go_wp2_with fail
  refine (wmul_any (-3) 4 _ (by unfold i64ok; decide) (by unfold i64ok; decide)).mono ?_
  rintro e w1 ⟨rfl, hb1⟩
  rw [show (-3 : Int) * 4 = -12 by decide]
  have HB1 := hide hb1
  clear hb1
  go_wp2_with fail
  refine (text_any (two (-12)) _ HX.out).mono ?_
  rintro e w2 ⟨rfl, hb2⟩
  have HB2 := hide (btr HB1.out hb2)
  rw [two_num, ans_txt]
  clear hb2
  go_wp2_with fail
  go_ret
  exact ⟨rfl, HB2.out⟩
end Go.Proofs.Ytmfilhmcgagjcaa
