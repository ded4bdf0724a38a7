/- The law GeoAreas, walked. -/
import Derived.Test.YticmoijngfpeeaaGeoG
namespace Go.Proofs.Yticmoijngfpeeaa
set_option linter.unusedSimpArgs false
set_option linter.unusedVariables false
open Go.RowKit
theorem cross_sum (a b c d : Pt) : crossV d a b + crossV d b c + crossV d c a = crossV a b c := by unfold crossV; grind
theorem areas_tot {a b c d : Pt} (ha : a.good) (hb : b.good) (hc : c.good) (hd : d.good) : tot 0 [two (crossV d a b), two (crossV d b c), two (crossV d c a)] = some (crossV a b c) := by
  have h1 := cross_bound hd ha hb
  have h2 := cross_bound hd hb hc
  have h3 := cross_bound hd hc ha
  have e := cross_sum a b c d
  unfold tot; rw [if_pos (by rw [two_num]; unfold inr; omega)]
  unfold tot; rw [if_pos (by rw [two_num, two_num]; unfold inr; omega)]
  unfold tot; rw [if_pos (by rw [two_num, two_num, two_num]; unfold inr; omega)]
  unfold tot; rw [two_num, two_num, two_num, Int.zero_add, e]
theorem sqV_comm (a b : Pt) : sqV a b = sqV b a := by unfold sqV; grind
theorem sq_zero {x : Int} (h : x * x = 0) : x = 0 := by
  rcases Int.mul_eq_zero.1 h with h | h <;> exact h
theorem sqV_zero {a b : Pt} (h : sqV a b = 0) : a.x = b.x ∧ a.y = b.y := by
  unfold sqV at h
  have h1 := sq_nn (b.x - a.x)
  have h2 := sq_nn (b.y - a.y)
  have h3 := sq_zero (show (b.x - a.x) * (b.x - a.x) = 0 by omega)
  have h4 := sq_zero (show (b.y - a.y) * (b.y - a.y) = 0 by omega)
  omega
theorem sq_ways {a b : Pt} {K : Int} (hK : cmpOf (sqV a b) 0 = K) : decide (0 ≤ K) = true ∧ (((a.x == b.x) = true ∧ (a.y == b.y) = true ∧ (K == 0) = true) ∨ ((a.x == b.x) = false ∧ (K == 0) = false) ∨ ((a.x == b.x) = true ∧ (a.y == b.y) = false ∧ (K == 0) = false)) := by
  have h0 : 0 ≤ sqV a b := by unfold sqV; have := sq_nn (b.x - a.x); have := sq_nn (b.y - a.y); omega
  by_cases hz : sqV a b = 0
  · obtain ⟨h1, h2⟩ := sqV_zero hz
    have : K = 0 := by rw [← hK, hz]; rfl
    subst this
    exact ⟨by decide, .inl ⟨by simpa using h1, by simpa using h2, by decide⟩⟩
  · have : K = 1 := by rw [← hK]; unfold cmpOf; rw [if_neg (by omega), if_pos (by omega)]
    subst this
    refine ⟨by decide, .inr ?_⟩
    by_cases h1 : a.x = b.x
    · refine .inr ⟨by simpa using h1, ?_, by decide⟩
      have : ¬ a.y = b.y := fun h2 => hz (by unfold sqV; rw [h1, h2]; simp)
      simpa using this
    · exact .inl ⟨by simpa using h1, by decide⟩
def cs6i (x y z : I2) : Array Value := #[Value.int IntKind.i64 x.hi, Value.int IntKind.u64 x.lo, Value.int IntKind.i64 y.hi, Value.int IntKind.u64 y.lo, Value.int IntKind.i64 z.hi, Value.int IntKind.u64 z.lo]
theorem ir3 {W : World} {g : Nat} {t : TypeId} {x y z : I2} (h : Blk W g t (cs6i x y z)) : IR W W.heap.size (some ⟨g, 0, none⟩) 3 [x, y, z] := Sl.of_blk h rfl rfl rfl
theorem crossA_ok {a b c : Pt} (ha : a.good) (hb : b.good) (hc : c.good) : crossA a b c = two (crossV a b c) ∧ errA [a, b, c] = 0 := by
  unfold crossA errA; rw [good3_iff.2 ⟨ha, hb, hc⟩]; exact ⟨rfl, rfl⟩
theorem squareA_ok {a b : Pt} (ha : a.good) (hb : b.good) : squareA a b = two (sqV a b) ∧ errA [a, b] = 0 := by
  unfold squareA errA; rw [good2_iff.2 ⟨ha, hb⟩]; exact ⟨rfl, rfl⟩
theorem sqV_inr {a b : Pt} (ha : a.good) (hb : b.good) : inr (sqV a b) := by
  unfold Pt.good at ha hb
  have h1 := sq_bound (x := b.x - a.x) (by omega) (by omega)
  have h2 := sq_bound (x := b.y - a.y) (by omega) (by omega)
  unfold sqV inr; omega
set_option maxRecDepth 100000 in
set_option maxHeartbeats 4000000 in
theorem lawAreas (a b c d : Pt) (w : World) :
    Calls Try.prog 8 #[.agg #[.int .i64 a.x, .int .i64 a.y], .agg #[.int .i64 b.x, .int .i64 b.y], .agg #[.int .i64 c.x, .int .i64 c.y], .agg #[.int .i64 d.x, .int .i64 d.y]] w fun e w' => e = .returned (.bool true) ∧ Below w.heap.size w w' := by
  have HB0 := hide (bel4 w a b c d)
  have HI0 := hide (((((Bs.nil w).al (pcells a) 23).al (pcells b) 23).al (pcells c) 23).al (pcells d) 23)
  simp only [heap_al] at HI0
  go_enter Try.func8, Try.ntmps8
  go_wp2_with fail
  refine (gcross_any a b c _).mono ?_
  rintro e w1 ⟨rfl, hb⟩
  have HB1 := hide (btr HB0.out hb)
  have HI1 := hide ((HI0.out).later hb)
  clear hb
  obtain ⟨k1, q1, z1⟩ := (HI1.out).get w.heap.size 23 (pcells a) (by simp)
  obtain ⟨k2, q2, z2⟩ := (HI1.out).get (w.heap.size + 1) 23 (pcells b) (by simp)
  obtain ⟨k3, q3, z3⟩ := (HI1.out).get (w.heap.size + 1 + 1) 23 (pcells c) (by simp)
  obtain ⟨k4, q4, z4⟩ := (HI1.out).get (w.heap.size + 1 + 1 + 1) 23 (pcells d) (by simp)
  go_wp2_with fail
  refine (gcross_any d a b _).mono ?_
  rintro e w2 ⟨rfl, hb⟩
  have HB2 := hide (btr (bal HB1.out _) hb)
  have HI2 := hide (((HI1.out.al (icells (crossA a b c)) 37)).later hb)
  clear hb
  clear k1 q1 z1 k2 q2 z2 k3 q3 z3 k4 q4 z4
  obtain ⟨k1, q1, z1⟩ := (HI2.out).get w.heap.size 23 (pcells a) (by simp)
  obtain ⟨k2, q2, z2⟩ := (HI2.out).get (w.heap.size + 1) 23 (pcells b) (by simp)
  obtain ⟨k3, q3, z3⟩ := (HI2.out).get (w.heap.size + 1 + 1) 23 (pcells c) (by simp)
  obtain ⟨k4, q4, z4⟩ := (HI2.out).get (w.heap.size + 1 + 1 + 1) 23 (pcells d) (by simp)
  go_wp2_with fail
  refine (gcross_any d b c _).mono ?_
  rintro e w3 ⟨rfl, hb⟩
  have HB3 := hide (btr (bal HB2.out _) hb)
  have HI3 := hide (((HI2.out.al (icells (crossA d a b)) 37)).later hb)
  clear hb
  clear k1 q1 z1 k2 q2 z2 k3 q3 z3 k4 q4 z4
  obtain ⟨k1, q1, z1⟩ := (HI3.out).get w.heap.size 23 (pcells a) (by simp)
  obtain ⟨k2, q2, z2⟩ := (HI3.out).get (w.heap.size + 1) 23 (pcells b) (by simp)
  obtain ⟨k3, q3, z3⟩ := (HI3.out).get (w.heap.size + 1 + 1) 23 (pcells c) (by simp)
  obtain ⟨k4, q4, z4⟩ := (HI3.out).get (w.heap.size + 1 + 1 + 1) 23 (pcells d) (by simp)
  go_wp2_with fail
  refine (gcross_any d c a _).mono ?_
  rintro e w4 ⟨rfl, hb⟩
  have HB4 := hide (btr (bal HB3.out _) hb)
  have HI4 := hide (((HI3.out.al (icells (crossA d b c)) 37)).later hb)
  clear hb
  clear k1 q1 z1 k2 q2 z2 k3 q3 z3 k4 q4 z4
  go_wp2_with fail
  refine (ganswers_any _).mono ?_
  rintro e w5 ⟨rfl, hb⟩
  have HB5 := hide (btr (bal HB4.out _) hb)
  have HI5 := hide (((HI4.out.al (icells (crossA d c a)) 37)).later hb)
  clear hb
  obtain ⟨k1, q1, z1⟩ := (HI5.out).get w.heap.size 23 (pcells a) (by simp)
  obtain ⟨k2, q2, z2⟩ := (HI5.out).get (w.heap.size + 1) 23 (pcells b) (by simp)
  obtain ⟨k3, q3, z3⟩ := (HI5.out).get (w.heap.size + 1 + 1) 23 (pcells c) (by simp)
  obtain ⟨k4, q4, z4⟩ := (HI5.out).get (w.heap.size + 1 + 1 + 1) 23 (pcells d) (by simp)
  go_wp2_with fail
  refine (rgood_any [a, b, c, d] _ 4 4 _ (pr4 (Blk.new w5 _ (cs8 a b c d))) (by omega)).mono ?_
  rintro e w6 ⟨rfl, hb⟩
  have HB6 := hide (btr (bal HB5.out _) hb)
  have HI6 := hide (((HI5.out.keep _)).later hb)
  clear hb
  clear k1 q1 z1 k2 q2 z2 k3 q3 z3 k4 q4 z4
  clear HB0 HB1 HB2 HB3 HB4 HB5 HI0 HI1 HI2 HI3 HI4 HI5
  cases hg : goodAll [a, b, c, d]
  · go_wp2_with fail
    refine (ganswers_any _).mono ?_
    rintro e w7 ⟨rfl, hb⟩
    have HB7 := hide (btr HB6.out hb)
    have HI7 := hide ((HI6.out).later hb)
    clear hb
    go_wp2_with fail
    go_ret
    exact ⟨rfl, HB7.out⟩
  · obtain ⟨ga, gb, gc, gd⟩ := good4_iff.1 hg
    have HT := hide (areas_tot ga gb gc gd)
    have HOK : Hid (okAll [two (crossV d a b), two (crossV d b c), two (crossV d c a)]) := hide (fun i hi => by
      match i, hi with
      | 0, _ => exact two_ok (by have := cross_bound gd ga gb; unfold inr; omega)
      | 1, _ => exact two_ok (by have := cross_bound gd gb gc; unfold inr; omega)
      | 2, _ => exact two_ok (by have := cross_bound gd gc ga; unfold inr; omega))
    obtain ⟨K, hK⟩ : ∃ K, cmpOf (sqV a b) 0 = K := ⟨_, rfl⟩
    have HW := hide (sq_ways hK)
    have MS := hide (fun (w : World) => sign_any (two (sqV a b)) w (two_ok (sqV_inr ga gb)))
    rw [two_num, hK] at MS
    have e1 := crossA_ok ga gb gc
    have e2 := crossA_ok gd ga gb
    have e3 := crossA_ok gd gb gc
    have e4 := crossA_ok gd gc ga
    have HS1 := hide (squareA_ok ga gb)
    have HS2 : Hid (squareA b a = two (sqV a b) ∧ errA [b, a] = 0) := hide (by rw [sqV_comm a b]; exact squareA_ok gb ga)
    rw [e1.1, e2.1, e3.1, e4.1] at HI6
    rw [e1.1, e1.2, e2.1, e2.2, e3.1, e3.2, e4.1, e4.2]
    clear e1 e2 e3 e4 hg ga gb gc gd hK
    obtain ⟨k5, q5, z5⟩ := HI6.out.get w2.heap.size 37 (icells (two (crossV d a b))) (by simp)
    obtain ⟨k6, q6, z6⟩ := HI6.out.get w3.heap.size 37 (icells (two (crossV d b c))) (by simp)
    obtain ⟨k7, q7, z7⟩ := HI6.out.get w4.heap.size 37 (icells (two (crossV d c a))) (by simp)
    go_wp2_with fail
    refine (total_any [two (crossV d a b), two (crossV d b c), two (crossV d c a)] _ 3 3 _ (ir3 (Blk.new _ _ (cs6i (two (crossV d a b)) (two (crossV d b c)) (two (crossV d c a))))) HOK.out (by omega)).mono ?_
    rintro e w7 ⟨rfl, hb⟩
    have HB7 := hide (btr (bal HB6.out _) hb)
    have HI7 := hide (((HI6.out.keep _)).later hb)
    clear hb
    rw [HT.out]
    simp only [optI, optE]
    clear k5 q5 z5 k6 q6 z6 k7 q7 z7
    obtain ⟨k1, q1, z1⟩ := (HI7.out).get w.heap.size 23 (pcells a) (by simp)
    obtain ⟨k2, q2, z2⟩ := (HI7.out).get (w.heap.size + 1) 23 (pcells b) (by simp)
    obtain ⟨k3, q3, z3⟩ := (HI7.out).get (w.heap.size + 1 + 1) 23 (pcells c) (by simp)
    obtain ⟨k4, q4, z4⟩ := (HI7.out).get (w.heap.size + 1 + 1 + 1) 23 (pcells d) (by simp)
    go_wp2_with fail
    refine (square_any a b _).mono ?_
    rintro e w8 ⟨rfl, hb⟩
    have HB8 := hide (btr (bal HB7.out _) hb)
    have HI8 := hide (((HI7.out.al (icells (two (crossV a b c))) 37)).later hb)
    clear hb
    rw [HS1.out.1, HS1.out.2]
    clear k1 q1 z1 k2 q2 z2 k3 q3 z3 k4 q4 z4
    obtain ⟨k1, q1, z1⟩ := (HI8.out).get w.heap.size 23 (pcells a) (by simp)
    obtain ⟨k2, q2, z2⟩ := (HI8.out).get (w.heap.size + 1) 23 (pcells b) (by simp)
    obtain ⟨k3, q3, z3⟩ := (HI8.out).get (w.heap.size + 1 + 1) 23 (pcells c) (by simp)
    obtain ⟨k4, q4, z4⟩ := (HI8.out).get (w.heap.size + 1 + 1 + 1) 23 (pcells d) (by simp)
    go_wp2_with fail
    refine (square_any b a _).mono ?_
    rintro e w9 ⟨rfl, hb⟩
    have HB9 := hide (btr (bal HB8.out _) hb)
    have HI9 := hide (((HI8.out.al (icells (two (sqV a b))) 37)).later hb)
    clear hb
    rw [HS2.out.1, HS2.out.2]
    clear k1 q1 z1 k2 q2 z2 k3 q3 z3 k4 q4 z4
    obtain ⟨k1, q1, z1⟩ := (HI9.out).get w.heap.size 23 (pcells a) (by simp)
    obtain ⟨k2, q2, z2⟩ := (HI9.out).get (w.heap.size + 1) 23 (pcells b) (by simp)
    obtain ⟨k3, q3, z3⟩ := (HI9.out).get (w.heap.size + 1 + 1) 23 (pcells c) (by simp)
    obtain ⟨k4, q4, z4⟩ := (HI9.out).get (w.heap.size + 1 + 1 + 1) 23 (pcells d) (by simp)
    obtain ⟨k5, q5, z5⟩ := HI9.out.get w1.heap.size 37 (icells (two (crossV a b c))) (by simp)
    obtain ⟨k6, q6, z6⟩ := HI9.out.get w7.heap.size 37 (icells (two (crossV a b c))) (by simp)
    obtain ⟨k7, q7, z7⟩ := HI9.out.get w8.heap.size 37 (icells (two (sqV a b))) (by simp)
    clear HB6 HB7 HB8 HI6 HI7 HI8 k3 q3 z3 k4 q4 z4
    obtain ⟨hp, HW2⟩ := HW.out
    go_wp2_with fail
    rcases HW2 with ⟨h1, h2, h3⟩ | ⟨h1, h3⟩ | ⟨h1, h2, h3⟩
    all_goals
      refine wp_region_later (by kernel_rfl) (by kernel_rfl) ?_
      repeat (first | go_big_quiet_step ((go_at_call 24; exact Calls.later (MS.out _))) | quiet_step ((go_at_call 24; exact Calls.later (MS.out _))))
      refine wpQuiet_nil ?_; intro _ hw'; obtain ⟨L, hL⟩ := hw'; subst hL
      go_wp2_with fail
      go_ret
      exact ⟨rfl, btr (bal HB9.out _) L.h⟩
end Go.Proofs.Yticmoijngfpeeaa
