/- The sectors' disk: calls on a nil one. -/
import Derived.Test.YthlgkhnkcjihiaaSecY
namespace Go.Proofs.Ythlgkhnkcjihiaa
set_option linter.unusedSimpArgs false
set_option linter.unusedVariables false
open Go.RowKit
set_option maxHeartbeats 1000000 in
theorem nil_fault (at_ : Int) (w : World) : Calls Try.prog 27 #[.pointer none, .int .i64 at_] w fun e w' => e = .returned (.int .i64 1) ∧ Below w.heap.size w w' := by
  go_enter Try.func27, Try.ntmps27
  go_wp2_with fail
  go_ret
  exact ⟨rfl, by (repeat (first | exact Below.refl _ _ | refine Below.drew ?_ | refine Below.setCell ?_ (by simp; try omega) _ | refine bal ?_ _))⟩
set_option maxHeartbeats 1000000 in
theorem nil_write (at_ : Int) (w : World) : Calls Try.prog 16 #[.pointer none, .int .i64 at_, .slice none 0 0] w fun e w' => e = .returned (.int .i64 1) ∧ Below w.heap.size w w' := by
  go_enter Try.func16, Try.ntmps16
  go_wp2_with (go_at_call 27; (refine (nil_fault at_ w).mono ?_); rintro e w1 ⟨rfl, hb1⟩; have HB1 := hide hb1; clear hb1)
  go_ret
  exact ⟨rfl, HB1.out⟩
set_option maxHeartbeats 1000000 in
theorem nil_barrier (w : World) : Calls Try.prog 18 #[.pointer none] w fun e w' => e = .returned (.int .i64 1) ∧ Below w.heap.size w w' := by
  go_enter Try.func18, Try.ntmps18
  go_wp2_with (go_at_call 27; (refine (nil_fault 0 w).mono ?_); rintro e w1 ⟨rfl, hb1⟩; have HB1 := hide hb1; clear hb1)
  go_ret
  exact ⟨rfl, HB1.out⟩
set_option maxHeartbeats 1000000 in
theorem nil_limit (n : Int) (w : World) : Calls Try.prog 15 #[.pointer none, .int .i64 n] w fun e w' => e = .returned (.int .i64 1) ∧ Below w.heap.size w w' := by
  go_enter Try.func15, Try.ntmps15
  go_wp2_with fail
  go_ret
  exact ⟨rfl, by (repeat (first | exact Below.refl _ _ | refine Below.drew ?_ | refine Below.setCell ?_ (by simp; try omega) _ | refine bal ?_ _))⟩
set_option maxHeartbeats 1000000 in
theorem nil_crash (m : Int) (w : World) : Calls Try.prog 10 #[.pointer none, .int .u64 m] w fun e w' => e = .returned (.int .i64 1) ∧ Below w.heap.size w w' := by
  go_enter Try.func10, Try.ntmps10
  go_wp2_with fail
  go_ret
  exact ⟨rfl, by (repeat (first | exact Below.refl _ _ | refine Below.drew ?_ | refine Below.setCell ?_ (by simp; try omega) _ | refine bal ?_ _))⟩
set_option maxHeartbeats 1000000 in
theorem nil_len (w : World) : Calls Try.prog 24 #[.pointer none] w fun e w' => e = .returned (.int .i64 0) ∧ Below w.heap.size w w' := by
  go_enter Try.func24, Try.ntmps24
  go_wp2_with fail
  go_ret
  exact ⟨rfl, by (repeat (first | exact Below.refl _ _ | refine Below.drew ?_ | refine Below.setCell ?_ (by simp; try omega) _ | refine bal ?_ _))⟩
set_option maxHeartbeats 1000000 in
theorem nil_down (w : World) : Calls Try.prog 11 #[.pointer none] w fun e w' => e = .returned (.bool true) ∧ Below w.heap.size w w' := by
  go_enter Try.func11, Try.ntmps11
  go_wp2_with fail
  go_ret
  exact ⟨rfl, by (repeat (first | exact Below.refl _ _ | refine Below.drew ?_ | refine Below.setCell ?_ (by simp; try omega) _ | refine bal ?_ _))⟩
set_option maxHeartbeats 1000000 in
theorem nil_unsure (w : World) : Calls Try.prog 21 #[.pointer none] w fun e w' => e = .returned (.slice none 0 0) ∧ Below w.heap.size w w' := by
  go_enter Try.func21, Try.ntmps21
  go_wp2_with fail
  go_ret
  exact ⟨rfl, by (repeat (first | exact Below.refl _ _ | refine Below.drew ?_ | refine Below.setCell ?_ (by simp; try omega) _ | refine bal ?_ _))⟩
set_option maxHeartbeats 1000000 in
theorem nil_copy (w : World) : Calls Try.prog 22 #[.pointer none] w fun e w' => e = .returned (.pointer none) ∧ Below w.heap.size w w' := by
  go_enter Try.func22, Try.ntmps22
  go_wp2_with fail
  go_ret
  exact ⟨rfl, by (repeat (first | exact Below.refl _ _ | refine Below.drew ?_ | refine Below.setCell ?_ (by simp; try omega) _ | refine bal ?_ _))⟩
set_option maxRecDepth 100000 in
set_option maxHeartbeats 1000000 in
theorem nil_read (at_ : Int) (w : World) : Calls Try.prog 12 #[.pointer none, .int .i64 at_] w fun e w' => e = .returned (.tuple #[.slice none 0 0, .int .i64 1]) ∧ Below w.heap.size w w' := by
  obtain ⟨WA, hWA⟩ : ∃ WA, ((w.alloc (.cells #[.int .i64 at_] 3)).alloc (.cells #[.slice none 0 0] 31)).alloc (.cells #[.int .i64 0] 29) = WA := ⟨_, rfl⟩
  have hB : Below w.heap.size w WA := by rw [← hWA]; (repeat (first | exact Below.refl _ _ | refine Below.drew ?_ | refine Below.setCell ?_ (by simp; try omega) _ | refine bal ?_ _))
  have HB := hide hB
  have b0 : Blk WA w.heap.size 3 #[.int .i64 at_] := by rw [← hWA]; exact ((Blk.new w _ _).alloc _).alloc _
  have b1 : Blk WA (w.heap.size + 1) 31 #[.slice none 0 0] := by rw [← hWA]; have := (Blk.new (w.alloc (.cells #[.int .i64 at_] 3)) 31 #[.slice none 0 0]).alloc (.cells #[.int .i64 0] 29); simpa using this
  have b2 : Blk WA (w.heap.size + 2) 29 #[.int .i64 0] := by rw [← hWA]; have := (Blk.new ((w.alloc (.cells #[.int .i64 at_] 3)).alloc (.cells #[.slice none 0 0] 31)) 29 #[.int .i64 0]); simpa using this
  have B0 := hide b0
  have B1 := hide b1
  have B2 := hide b2
  have cA := b0.cell 0
  simp at cA
  clear b0 b1 b2 hB
  go_enter Try.func12, Try.ntmps12
  go_wp2_with (go_at_call 27; (refine (nil_fault at_ WA).mono ?_); rintro e w1 ⟨rfl, hb1⟩; have k1 := B1.out.below hb1 B1.out.lt; have k2 := B2.out.below hb1 B2.out.lt; have c1 := k1.cell 0; have c2 := k2.cell 0; have q1 := k1.frozen 0; have q2 := k2.frozen 0; have z1 := k1.lt; have z2 := k2.lt; have HB1 := hide (HB.out.trans (hb1.mono HB.out.size)); clear hb1; simp at c1 c2)
  refine bodyPost_ret (v := .tuple #[.slice none 0 0, .int .i64 1]) (by simp [results, Try.results12, go_sem, c1, c2, q1, q2, z1, z2]) rfl ⟨rfl, ?_⟩
  exact (HB1.out.setCell (by simp) _).setCell (by simp; omega) _
end Go.Proofs.Ythlgkhnkcjihiaa
