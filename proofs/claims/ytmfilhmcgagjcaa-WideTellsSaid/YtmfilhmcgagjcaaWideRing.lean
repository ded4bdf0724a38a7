/- The law WideRing, walked. -/
import Derived.Test.YtmfilhmcgagjcaaWideT
import Derived.Test.YtmfilhmcgagjcaaWideSub
namespace Go.Proofs.Ytmfilhmcgagjcaa
set_option linter.unusedSimpArgs false
set_option linter.unusedVariables false
open Go.RowKit
/-- Blocks that hold numbers. -/
def Is (W : World) (L : List (Nat × I2)) : Prop := ∀ p ∈ L, Blk W p.1 25 #[.int .i64 p.2.hi, .int .u64 p.2.lo]
theorem Is.nil (W : World) : Is W [] := fun _ h => by cases h
theorem Is.later {W W' : World} {L : List (Nat × I2)} (h : Is W L) (hb : Below W.heap.size W W') : Is W' L := fun p hp => (h p hp).below hb (h p hp).lt
theorem Is.al {W : World} {L : List (Nat × I2)} (h : Is W L) (x : I2) : Is (W.alloc (Obj.cells #[.int .i64 x.hi, .int .u64 x.lo] 25)) ((W.heap.size, x) :: L) := fun p hp => by
  rcases List.mem_cons.1 hp with rfl | hp
  · exact Blk.new _ _ _
  · exact (h p hp).alloc _
theorem Is.get {W : World} {L : List (Nat × I2)} (h : Is W L) (g : Nat) (x : I2) (hm : (g, x) ∈ L) : (∀ i, W.cell? ⟨g, i, none⟩ = (#[.int .i64 x.hi, .int .u64 x.lo] : Array Value)[i]?) ∧ (∀ i, W.frozen? ⟨g, i, none⟩ = false) ∧ g < W.heap.size := ⟨(h _ hm).cell, (h _ hm).frozen, (h _ hm).lt⟩
theorem ring_sub {x y : I2} (hx : x.ok) (hy : y.ok) (h : inr (x.num + y.num)) : clampI ((two (x.num + y.num)).num - y.num) = x ∧ clampE ((two (x.num + y.num)).num - y.num) = 0 := by
  have e : (two (x.num + y.num)).num - y.num = x.num := by rw [two_num]; omega
  rw [e, (clamp_yes (num_in hx)).1, (clamp_yes (num_in hx)).2, num_two hx]
  exact ⟨rfl, rfl⟩
theorem ring_wrap {b c n : Int} (hb : i64ok b) (hc : i64ok c) (hn : IntKind.i64.wrap (b + c) = n) (h : (decide (b < n) == decide (0 < c)) = true) : n = b + c := by
  rw [IntKind.wrap_i64] at hn
  unfold i64ok at hb hc
  simp only [beq_iff_eq, decide_eq_decide] at h
  omega
theorem wrap_ok {b c n : Int} (hn : IntKind.i64.wrap (b + c) = n) : i64ok n := by
  rw [IntKind.wrap_i64] at hn
  unfold i64ok; omega
theorem ring_ways (b c n p : Int) : (clampE p = 3 ∧ clampI p = ⟨0, 0⟩) ∨ ((clampE p = 0 ∧ clampI p = two p) ∧ (decide (b < n) == decide (0 < c)) = false) ∨ ((clampE p = 0 ∧ clampI p = two p) ∧ (decide (b < n) == decide (0 < c)) = true) := by
  by_cases h : inr p
  · rw [(clamp_yes h).1, (clamp_yes h).2]
    cases (decide (b < n) == decide (0 < c)) <;> simp
  · rw [(clamp_no h).1, (clamp_no h).2]; simp
theorem mul_i64 {a b : Int} (ha : i64ok a) (hb : i64ok b) : inr (a * b) := by
  have h1 := abs_bound ha hb
  have h2 : (a * b).natAbs = a.natAbs * b.natAbs := Int.natAbs_mul a b
  unfold inr
  omega
set_option maxRecDepth 100000 in
set_option maxHeartbeats 4000000 in
theorem lawRing (a b c : Int) (x y : I2) (w : World) (ha : i64ok a) (hb : i64ok b) (hc : i64ok c) (hx : x.ok) (hy : y.ok) :
    Calls Try.prog 6 #[.int .i64 a, .int .i64 b, .int .i64 c, .agg #[.int .i64 x.hi, .int .u64 x.lo], .agg #[.int .i64 y.hi, .int .u64 y.lo]] w fun e w' => e = .returned (.bool true) ∧ Below w.heap.size w w' := by
  have HA := hide ha; have HB := hide hb; have HC := hide hc; have HX := hide hx; have HY := hide hy
  have HPab := hide (two_ok (mul_i64 ha hb)); have HPac := hide (two_ok (mul_i64 ha hc))
  clear ha hb hc hx hy
  obtain ⟨n, hn⟩ : ∃ n, IntKind.i64.wrap (b + c) = n := ⟨_, rfl⟩
  have HN := hide hn
  have HB0 : Hid (Below w.heap.size w ((w.alloc (Obj.cells #[.int .i64 x.hi, .int .u64 x.lo] 25)).alloc (Obj.cells #[.int .i64 y.hi, .int .u64 y.lo] 25))) := hide (by (repeat (first | exact Below.refl _ _ | refine Below.drew ?_ | refine Below.setCell ?_ (by simp; try omega) _ | refine bal ?_ _)))
  have HI0 := hide (((Is.nil w).al x).al y)
  rw [show (w.alloc (Obj.cells #[.int .i64 x.hi, .int .u64 x.lo] 25)).heap.size = w.heap.size + 1 by simp] at HI0
  go_enter Try.func6, Try.ntmps6
  go_wp2_with fail
  refine (wmul_any a b _ HA.out HB.out).mono ?_
  rintro e w1 ⟨rfl, hb⟩
  have HB1 := hide (btr HB0.out hb)
  have HI1 := hide ((HI0.out).later hb)
  clear hb
  go_wp2_with fail
  refine (wmul_any a c _ HA.out HC.out).mono ?_
  rintro e w2 ⟨rfl, hb⟩
  have HB2 := hide (btr HB1.out hb)
  have HI2 := hide ((HI1.out).later hb)
  clear hb
  go_wp2_with fail
  refine (wadd_any (two (a * b)) (two (a * c)) _ HPab.out HPac.out).mono ?_
  rintro e w3 ⟨rfl, hb⟩
  have HB3 := hide (btr HB2.out hb)
  have HI3 := hide ((HI2.out).later hb)
  clear hb
  rw [two_num, two_num]
  obtain ⟨k1, q1, z1⟩ := HI3.out.get w.heap.size x (by simp)
  obtain ⟨k2, q2, z2⟩ := HI3.out.get (w.heap.size + 1) y (by simp)
  go_wp2_with fail
  refine (wadd_any x y _ HX.out HY.out).mono ?_
  rintro e w4 ⟨rfl, hb⟩
  have HB4 := hide (btr (bal HB3.out _) hb)
  have HI4 := hide ((HI3.out.al _).later hb)
  clear hb
  clear k1 q1 z1 k2 q2 z2
  obtain ⟨k1, q1, z1⟩ := HI4.out.get w.heap.size x (by simp)
  obtain ⟨k2, q2, z2⟩ := HI4.out.get (w.heap.size + 1) y (by simp)
  go_wp2_with fail
  refine (wadd_any y x _ HY.out HX.out).mono ?_
  rintro e w5 ⟨rfl, hb⟩
  have HB5 := hide (btr (bal HB4.out _) hb)
  have HI5 := hide ((HI4.out.al _).later hb)
  clear hb
  rw [Int.add_comm y.num x.num]
  clear k1 q1 z1 k2 q2 z2
  go_wp2_with fail
  refine (wanswers_any _).mono ?_
  rintro e w6 ⟨rfl, hb⟩
  have HB6 := hide (btr (bal HB5.out _) hb)
  have HI6 := hide ((HI5.out.al _).later hb)
  clear hb
  obtain ⟨k1, q1, z1⟩ := HI6.out.get w4.heap.size (clampI (x.num + y.num)) (by simp)
  obtain ⟨k2, q2, z2⟩ := HI6.out.get w5.heap.size (clampI (x.num + y.num)) (by simp)
  go_wp2_with fail
  refine (wmul_any a b _ HA.out HB.out).mono ?_
  rintro e w7 ⟨rfl, hb⟩
  have HB7 := hide (btr HB6.out hb)
  have HI7 := hide ((HI6.out).later hb)
  clear hb
  go_wp2_with fail
  refine (wmul_any b a _ HB.out HA.out).mono ?_
  rintro e w8 ⟨rfl, hb⟩
  have HB8 := hide (btr HB7.out hb)
  have HI8 := hide ((HI7.out).later hb)
  clear hb
  rw [Int.mul_comm b a]
  clear k1 q1 z1 k2 q2 z2
  by_cases hf : inr (x.num + y.num)
  · obtain ⟨k1, q1, z1⟩ := HI8.out.get w4.heap.size (clampI (x.num + y.num)) (by simp)
    obtain ⟨k2, q2, z2⟩ := HI8.out.get (w.heap.size + 1) y (by simp)
    have HS := hide (ring_sub HX.out HY.out hf)
    have HQ := hide (two_ok hf)
    rw [(clamp_yes hf).1] at k1 ⊢
    rw [(clamp_yes hf).2]
    clear hf
    go_wp2_with fail
    refine (wsub_any (two (x.num + y.num)) y _ HQ.out HY.out).mono ?_
    rintro e w9 ⟨rfl, hb⟩
    have HB9 := hide (btr HB8.out hb)
    have HI9 := hide ((HI8.out).later hb)
    clear hb
    rw [HS.out.1, HS.out.2]
    clear k1 q1 z1 k2 q2 z2
    obtain ⟨k2, q2, z2⟩ := HI9.out.get w.heap.size x (by simp)
    rcases ring_ways b c n (a * b + a * c) with ⟨he, hi⟩ | ⟨⟨he, hi⟩, d⟩ | ⟨⟨he, hi⟩, d⟩
    · rw [he]
      clear he hi
      go_wp2_with fail
      refine wp_region_later (by kernel_rfl) (by kernel_rfl) ?_
      repeat (first | go_big_quiet_step ((fail)) | quiet_step ((fail)))
      refine wpQuiet_nil ?_; intro _ hw'; obtain ⟨L, hL⟩ := hw'; subst hL
      go_wp2_with fail
      go_ret
      exact ⟨rfl, btr (bal HB9.out _) L.h⟩
    · rw [he]
      clear he hi
      go_wp2_with fail
      refine wp_region_later (by kernel_rfl) (by kernel_rfl) ?_
      repeat (first | go_big_quiet_step ((fail)) | quiet_step ((fail)))
      refine wpQuiet_nil ?_; intro _ hw'; obtain ⟨L, hL⟩ := hw'; subst hL
      go_wp2_with fail
      go_ret
      exact ⟨rfl, btr (bal HB9.out _) L.h⟩
    · have hne := ring_wrap HB.out HC.out HN.out d
      have HM := hide (wmul_any a n · HA.out (wrap_ok HN.out))
      rw [show a * n = a * b + a * c by rw [hne, Int.mul_add]] at HM
      obtain ⟨k1, q1, z1⟩ := (HI9.out).get w3.heap.size (clampI (a * b + a * c)) (by simp)
      rw [hi] at k1
      rw [he]
      clear he hi hne
      go_wp2_with fail
      refine wp_region_later (by kernel_rfl) (by kernel_rfl) ?_
      repeat (first | go_big_quiet_step ((go_at_call 13; exact Calls.later (HM.out _))) | quiet_step ((go_at_call 13; exact Calls.later (HM.out _))))
      refine wpQuiet_nil ?_; intro _ hw'; obtain ⟨L, hL⟩ := hw'; subst hL
      go_wp2_with fail
      go_ret
      exact ⟨rfl, btr (bal HB9.out _) L.h⟩
  · rw [(clamp_no hf).2]
    clear hf
    rcases ring_ways b c n (a * b + a * c) with ⟨he, hi⟩ | ⟨⟨he, hi⟩, d⟩ | ⟨⟨he, hi⟩, d⟩
    · rw [he]
      clear he hi
      go_wp2_with fail
      refine wp_region_later (by kernel_rfl) (by kernel_rfl) ?_
      repeat (first | go_big_quiet_step ((fail)) | quiet_step ((fail)))
      refine wpQuiet_nil ?_; intro _ hw'; obtain ⟨L, hL⟩ := hw'; subst hL
      go_wp2_with fail
      go_ret
      exact ⟨rfl, btr HB8.out L.h⟩
    · rw [he]
      clear he hi
      go_wp2_with fail
      refine wp_region_later (by kernel_rfl) (by kernel_rfl) ?_
      repeat (first | go_big_quiet_step ((fail)) | quiet_step ((fail)))
      refine wpQuiet_nil ?_; intro _ hw'; obtain ⟨L, hL⟩ := hw'; subst hL
      go_wp2_with fail
      go_ret
      exact ⟨rfl, btr HB8.out L.h⟩
    · have hne := ring_wrap HB.out HC.out HN.out d
      have HM := hide (wmul_any a n · HA.out (wrap_ok HN.out))
      rw [show a * n = a * b + a * c by rw [hne, Int.mul_add]] at HM
      obtain ⟨k1, q1, z1⟩ := (HI8.out).get w3.heap.size (clampI (a * b + a * c)) (by simp)
      rw [hi] at k1
      rw [he]
      clear he hi hne
      go_wp2_with fail
      refine wp_region_later (by kernel_rfl) (by kernel_rfl) ?_
      repeat (first | go_big_quiet_step ((go_at_call 13; exact Calls.later (HM.out _))) | quiet_step ((go_at_call 13; exact Calls.later (HM.out _))))
      refine wpQuiet_nil ?_; intro _ hw'; obtain ⟨L, hL⟩ := hw'; subst hL
      go_wp2_with fail
      go_ret
      exact ⟨rfl, btr HB8.out L.h⟩
end Go.Proofs.Ytmfilhmcgagjcaa
