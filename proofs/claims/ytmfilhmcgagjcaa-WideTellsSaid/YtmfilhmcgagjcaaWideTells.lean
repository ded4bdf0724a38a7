/- The law WideTells, walked. -/
import Derived.Test.YtmfilhmcgagjcaaWideTx
import Derived.Test.YtmfilhmcgagjcaaWideTe
import Derived.Test.YtmfilhmcgagjcaaWideOrder
import Derived.Test.YtmfilhmcgagjcaaWideT
import Derived.Test.YtmfilhmcgagjcaaText
namespace Go.Proofs.Ytmfilhmcgagjcaa
set_option linter.unusedSimpArgs false
set_option linter.unusedVariables false
open Go.RowKit
set_option maxRecDepth 100000 in
set_option maxHeartbeats 4000000 in
theorem lawTells (a b : I2) (w : World) (ha : a.ok) (hb : b.ok) :
    Calls Try.prog 8 #[.agg #[.int .i64 a.hi, .int .u64 a.lo], .agg #[.int .i64 b.hi, .int .u64 b.lo]] w fun e w' => e = .returned (.bool true) ∧ Below w.heap.size w w' := by
  have S1 := hide (fun w => sign_any a w ha)
  have S2 := hide (fun w => rsign_any a w ha)
  have C1 := hide (fun w => wcmp_any a b w ha hb)
  have C2 := hide (fun w => rcmp_any a b w ha hb)
  have T1 := hide (fun w => text_any a w ha)
  have T2 := hide (fun w => rtext_any a w ha)
  obtain ⟨s, hs⟩ : ∃ s, cmpOf a.num 0 = s := ⟨_, rfl⟩
  obtain ⟨c, hc⟩ : ∃ c, cmpOf a.num b.num = c := ⟨_, rfl⟩
  obtain ⟨t, ht⟩ : ∃ t : ByteArray, ⟨(txt a.num).toArray⟩ = t := ⟨_, rfl⟩
  rw [hs] at S1 S2
  rw [hc] at C1 C2
  rw [ht] at T1 T2
  clear ha hb hs hc ht
  have HB0 : Hid (Below w.heap.size w ((w.alloc (Obj.cells #[.int .i64 a.hi, .int .u64 a.lo] 25)).alloc (Obj.cells #[.int .i64 b.hi, .int .u64 b.lo] 25))) := hide (by (repeat (first | exact Below.refl _ _ | refine Below.drew ?_ | refine Below.setCell ?_ (by simp; try omega) _ | refine bal ?_ _)))
  go_enter Try.func8, Try.ntmps8
  go_wp2_with fail
  refine wp_region_later (by kernel_rfl) (by kernel_rfl) ?_
  repeat (first | go_big_quiet_step ((first | (go_at_call 10; exact Calls.later (wanswers_any _)) | (go_at_call 22; exact Calls.later (S1.out _)) | (go_at_call 23; exact Calls.later (S2.out _)) | (go_at_call 24; exact Calls.later (C1.out _)) | (go_at_call 25; exact Calls.later (C2.out _)) | (go_at_call 21; exact Calls.later (T1.out _)) | (go_at_call 26; exact Calls.later (T2.out _)))) | quiet_step ((first | (go_at_call 10; exact Calls.later (wanswers_any _)) | (go_at_call 22; exact Calls.later (S1.out _)) | (go_at_call 23; exact Calls.later (S2.out _)) | (go_at_call 24; exact Calls.later (C1.out _)) | (go_at_call 25; exact Calls.later (C2.out _)) | (go_at_call 21; exact Calls.later (T1.out _)) | (go_at_call 26; exact Calls.later (T2.out _)))))
  refine wpQuiet_nil ?_; intro _ hw'; obtain ⟨L, hL⟩ := hw'; subst hL
  go_wp2_with fail
  go_ret
  exact ⟨rfl, btr HB0.out L.h⟩
end Go.Proofs.Ytmfilhmcgagjcaa
