/- The law WideOne, walked. -/
import Derived.Test.YtmfilhmcgagjcaaWideT
import Derived.Test.YtmfilhmcgagjcaaWideM
namespace Go.Proofs.Ytmfilhmcgagjcaa
set_option linter.unusedSimpArgs false
set_option linter.unusedVariables false
open Go.RowKit
set_option maxRecDepth 100000 in
set_option maxHeartbeats 2000000 in
theorem lawOne (a b : Int) (w : World) (ha : i64ok a) (hb : i64ok b) :
    Calls Try.prog 3 #[.int .i64 a, .int .i64 b] w fun e w' => e = .returned (.bool true) ∧ Below w.heap.size w w' := by
  have HA := hide ha; have HB := hide hb
  have HB0 := hide (Below.refl w.heap.size w)
  clear ha hb
  go_enter Try.func3, Try.ntmps3
  go_wp2_with fail
  refine (wanswers_any _).mono ?_
  rintro e w1 ⟨rfl, hb⟩
  have HB1 := hide (btr HB0.out hb)
  clear hb
  go_wp2_with fail
  refine (wof_any a _ HA.out).mono ?_
  rintro e w2 ⟨rfl, hb⟩
  have HB2 := hide (btr HB1.out hb)
  clear hb
  go_wp2_with fail
  refine (rof_any a _ HA.out).mono ?_
  rintro e w3 ⟨rfl, hb⟩
  have HB3 := hide (btr HB2.out hb)
  clear hb
  go_wp2_with fail
  refine (wmul_any a b _ HA.out HB.out).mono ?_
  rintro e w4 ⟨rfl, hb⟩
  have HB4 := hide (btr HB3.out hb)
  clear hb
  go_wp2_with fail
  refine (rmul_any a b _ HA.out HB.out).mono ?_
  rintro e w5 ⟨rfl, hb⟩
  have HB5 := hide (btr HB4.out hb)
  clear hb
  go_wp2_with fail
  go_ret
  exact ⟨rfl, HB5.out⟩
end Go.Proofs.Ytmfilhmcgagjcaa
