/- The law WideOrder, walked. -/
import Derived.Test.YtmfilhmcgagjcaaWideRing
import Derived.Deep.CutRange
namespace Go.Proofs.Ytmfilhmcgagjcaa
set_option linter.unusedSimpArgs false
set_option linter.unusedVariables false
open Go.RowKit
theorem cmpOf_rng (a b : Int) : -1 ≤ cmpOf a b ∧ cmpOf a b ≤ 1 := by unfold cmpOf; split <;> (try split) <;> omega
theorem cmpOf_neg (a b : Int) : cmpOf b a = - cmpOf a b := by
  rcases Int.lt_trichotomy a b with h | h | h
  · rw [cmpOf_lt h, cmpOf_gt h]; rfl
  · rw [cmpOf_eq h, cmpOf_eq h.symm]; rfl
  · rw [cmpOf_gt h, cmpOf_lt h]
theorem cmpOf_sub (a b : Int) : cmpOf (a - b) 0 = cmpOf a b := by
  rcases Int.lt_trichotomy a b with h | h | h
  · rw [cmpOf_lt h, cmpOf_lt (by omega)]
  · rw [cmpOf_eq h, cmpOf_eq (by omega)]
  · rw [cmpOf_gt h, cmpOf_gt (by omega)]
theorem cmpOf_add (a b c : Int) : cmpOf (a + c) (b + c) = cmpOf a b := by
  rcases Int.lt_trichotomy a b with h | h | h
  · rw [cmpOf_lt h, cmpOf_lt (by omega)]
  · rw [cmpOf_eq h, cmpOf_eq (by omega)]
  · rw [cmpOf_gt h, cmpOf_gt (by omega)]
theorem cmpOf_zero {x y : I2} (hx : x.ok) (hy : y.ok) : (cmpOf x.num y.num == 0) = (x.hi == y.hi && x.lo == y.lo) := by
  rw [Bool.eq_iff_iff]
  simp only [beq_iff_eq, Bool.and_eq_true]
  constructor
  · intro h
    have : x.num = y.num := by
      rcases Int.lt_trichotomy x.num y.num with h1 | h1 | h1
      · rw [cmpOf_lt h1] at h; cases h
      · exact h1
      · rw [cmpOf_gt h1] at h; cases h
    have e : x = y := by rw [← num_two hx, ← num_two hy, this]
    rw [e]; exact ⟨rfl, rfl⟩
  · rintro ⟨h1, h2⟩
    exact cmpOf_eq (by unfold I2.num; rw [h1, h2])
theorem eq_ways {x y : I2} {p : Int} (h : (p == 0) = (x.hi == y.hi && x.lo == y.lo)) : ((x.hi == y.hi) = true ∧ (x.lo == y.lo) = true ∧ (p == 0) = true) ∨ ((x.hi == y.hi) = false ∧ (p == 0) = false) ∨ ((x.hi == y.hi) = true ∧ (x.lo == y.lo) = false ∧ (p == 0) = false) := by
  cases h1 : (x.hi == y.hi) <;> cases h2 : (x.lo == y.lo) <;> simp [h1, h2] at h ⊢ <;> exact h
theorem cmp_ways {x y z : Int} {p q r : Int} (hp : cmpOf x y = p) (hq : cmpOf y z = q) (hr : cmpOf x z = r) :
    decide (p ≤ 0) = false ∨ (decide (p ≤ 0) = true ∧ decide (q ≤ 0) = false) ∨ (decide (p ≤ 0) = true ∧ decide (q ≤ 0) = true ∧ decide (0 < r) = false) := by
  subst hp hq hr
  simp only [decide_eq_true_iff, decide_eq_false_iff_not]
  rcases Int.lt_trichotomy x y with h | h | h
  · rcases Int.lt_trichotomy y z with k | k | k
    · rw [cmpOf_lt h, cmpOf_lt k, cmpOf_lt (show x < z by omega)]; omega
    · rw [cmpOf_lt h, cmpOf_eq k, cmpOf_lt (show x < z by omega)]; omega
    · rw [cmpOf_lt h, cmpOf_gt k]; omega
  · rcases Int.lt_trichotomy y z with k | k | k
    · rw [cmpOf_eq h, cmpOf_lt k, cmpOf_lt (show x < z by omega)]; omega
    · rw [cmpOf_eq h, cmpOf_eq k, cmpOf_eq (show x = z by omega)]; omega
    · rw [cmpOf_eq h, cmpOf_gt k]; omega
  · rw [cmpOf_gt h]; omega
theorem heap_al (w : World) (o : Obj) : (w.alloc o).heap.size = w.heap.size + 1 := by simp
abbrev CmpIs (x y : I2) (k : Int) : Prop := ∀ w, Calls Try.prog 24 #[.agg #[.int .i64 x.hi, .int .u64 x.lo], .agg #[.int .i64 y.hi, .int .u64 y.lo]] w fun e w' => e = .returned (.int .i64 k) ∧ Below w.heap.size w w'
abbrev SignIs (x : I2) (k : Int) : Prop := ∀ w, Calls Try.prog 22 #[.agg #[.int .i64 x.hi, .int .u64 x.lo]] w fun e w' => e = .returned (.int .i64 k) ∧ Below w.heap.size w w'
theorem cmpIs {x y : I2} (hx : x.ok) (hy : y.ok) {k : Int} (h : cmpOf x.num y.num = k) : CmpIs x y k := fun w => by rw [← h]; exact wcmp_any x y w hx hy
theorem signIs {x : I2} (hx : x.ok) {k : Int} (h : cmpOf x.num 0 = k) : SignIs x k := fun w => by rw [← h]; exact sign_any x w hx
set_option maxRecDepth 100000 in
set_option maxHeartbeats 4000000 in
theorem lawOrder (a b c : I2) (w : World) (ha : a.ok) (hb : b.ok) (hc : c.ok) :
    Calls Try.prog 9 #[.agg #[.int .i64 a.hi, .int .u64 a.lo], .agg #[.int .i64 b.hi, .int .u64 b.lo], .agg #[.int .i64 c.hi, .int .u64 c.lo]] w fun e w' => e = .returned (.bool true) ∧ Below w.heap.size w w' := by
  obtain ⟨p, hp⟩ : ∃ p, cmpOf a.num b.num = p := ⟨_, rfl⟩
  obtain ⟨q, hq⟩ : ∃ q, cmpOf b.num c.num = q := ⟨_, rfl⟩
  obtain ⟨r, hr⟩ : ∃ r, cmpOf a.num c.num = r := ⟨_, rfl⟩
  have heq := cmpOf_zero ha hb
  rw [hp] at heq
  have HE := hide (eq_ways heq)
  clear heq
  obtain ⟨p0, p1⟩ := cmpOf_rng a.num b.num
  rw [hp] at p0 p1
  have HW := hide (cmp_ways hp hq hr)
  have M1 := hide (cmpIs ha hb hp); have M2 := hide (cmpIs hb hc hq); have M3 := hide (cmpIs ha hc hr)
  have M0 := hide (cmpIs hb ha (k := -p) (by rw [cmpOf_neg, hp]))
  have HP := hide hp
  have HA := hide ha; have HB := hide hb; have HC := hide hc
  clear ha hb hc hp hq hr
  have HB0 : Hid (Below w.heap.size w (((w.alloc (Obj.cells #[.int .i64 a.hi, .int .u64 a.lo] 25)).alloc (Obj.cells #[.int .i64 b.hi, .int .u64 b.lo] 25)).alloc (Obj.cells #[.int .i64 c.hi, .int .u64 c.lo] 25))) := hide (by (repeat (first | exact Below.refl _ _ | refine Below.drew ?_ | refine Below.setCell ?_ (by simp; try omega) _ | refine bal ?_ _)))
  have HI0 := hide ((((Is.nil w).al a).al b).al c)
  rw [heap_al, heap_al] at HI0
  go_enter Try.func9, Try.ntmps9
  go_upto_region 1 with (fail)
  go_cut [34] from 13 (fun v W => v = .bool false ∧ Hid (Below w.heap.size w W ∧ Is W [(w.heap.size + 1 + 1, c), (w.heap.size + 1, b), (w.heap.size, a)]))
  case first =>
    rcases HE.out with ⟨h1, h2, h3⟩ | ⟨h1, h3⟩ | ⟨h1, h2, h3⟩
    all_goals
      refine wp_region_later (by kernel_rfl) (by kernel_rfl) ?_
      repeat (first | go_big_quiet_step ((first | (go_at_call 10; exact Calls.later (wanswers_any _)) | (go_at_call 24; first | (with_reducible exact Calls.later (M1.out _)) | (with_reducible exact Calls.later (M0.out _))))) | quiet_step ((first | (go_at_call 10; exact Calls.later (wanswers_any _)) | (go_at_call 24; first | (with_reducible exact Calls.later (M1.out _)) | (with_reducible exact Calls.later (M0.out _))))))
      refine wpQuiet_nil ?_; intro _ hw'; obtain ⟨L, hL⟩ := hw'; subst hL
      go_wp2
      go_meet
      case rel => exact ⟨rfl, hide ⟨btr HB0.out L.h, HI0.out.later L.h⟩⟩
  case rest =>
    obtain ⟨rfl, HH⟩ := hcut
    have HBc := hide HH.out.1
    have HIc := hide HH.out.2
    clear HB0 HI0 HH HE M0
    obtain ⟨k1, q1, z1⟩ := (HIc.out).get w.heap.size a (by simp)
    obtain ⟨k2, q2, z2⟩ := (HIc.out).get (w.heap.size + 1) b (by simp)
    obtain ⟨k3, q3, z3⟩ := (HIc.out).get (w.heap.size + 1 + 1) c (by simp)
    go_upto_region 3 with (fail)
    go_cut [50] from 35 (fun v W => v = .bool false ∧ Hid (Below w.heap.size w W ∧ Is W [(w.heap.size + 1 + 1, c), (w.heap.size + 1, b), (w.heap.size, a)]))
    case first =>
      rcases HW.out with h1 | ⟨h1, h2⟩ | ⟨h1, h2, h3⟩
      · go_wp2_with fail
        refine (M1.out _).mono ?_
        rintro e w1 ⟨rfl, hb⟩
        have HB1 := hide (btr HBc.out hb)
        have HI1 := hide ((HIc.out).later hb)
        clear hb
        clear k1 q1 z1 k2 q2 z2 k3 q3 z3
        go_wp2
        go_meet
        case rel => exact ⟨rfl, hide ⟨HB1.out, HI1.out⟩⟩
      · go_wp2_with fail
        refine (M1.out _).mono ?_
        rintro e w1 ⟨rfl, hb⟩
        have HB1 := hide (btr HBc.out hb)
        have HI1 := hide ((HIc.out).later hb)
        clear hb
        clear k1 q1 z1 k2 q2 z2 k3 q3 z3
        obtain ⟨k1, q1, z1⟩ := (HI1.out).get w.heap.size a (by simp)
        obtain ⟨k2, q2, z2⟩ := (HI1.out).get (w.heap.size + 1) b (by simp)
        obtain ⟨k3, q3, z3⟩ := (HI1.out).get (w.heap.size + 1 + 1) c (by simp)
        go_wp2_with fail
        refine (M2.out _).mono ?_
        rintro e w2 ⟨rfl, hb⟩
        have HB2 := hide (btr HB1.out hb)
        have HI2 := hide ((HI1.out).later hb)
        clear hb
        clear k1 q1 z1 k2 q2 z2 k3 q3 z3
        go_wp2
        go_meet
        case rel => exact ⟨rfl, hide ⟨HB2.out, HI2.out⟩⟩
      · go_wp2_with fail
        refine (M1.out _).mono ?_
        rintro e w1 ⟨rfl, hb⟩
        have HB1 := hide (btr HBc.out hb)
        have HI1 := hide ((HIc.out).later hb)
        clear hb
        clear k1 q1 z1 k2 q2 z2 k3 q3 z3
        obtain ⟨k1, q1, z1⟩ := (HI1.out).get w.heap.size a (by simp)
        obtain ⟨k2, q2, z2⟩ := (HI1.out).get (w.heap.size + 1) b (by simp)
        obtain ⟨k3, q3, z3⟩ := (HI1.out).get (w.heap.size + 1 + 1) c (by simp)
        go_wp2_with fail
        refine (M2.out _).mono ?_
        rintro e w2 ⟨rfl, hb⟩
        have HB2 := hide (btr HB1.out hb)
        have HI2 := hide ((HI1.out).later hb)
        clear hb
        clear k1 q1 z1 k2 q2 z2 k3 q3 z3
        obtain ⟨k1, q1, z1⟩ := (HI2.out).get w.heap.size a (by simp)
        obtain ⟨k2, q2, z2⟩ := (HI2.out).get (w.heap.size + 1) b (by simp)
        obtain ⟨k3, q3, z3⟩ := (HI2.out).get (w.heap.size + 1 + 1) c (by simp)
        go_wp2_with fail
        refine (M3.out _).mono ?_
        rintro e w3 ⟨rfl, hb⟩
        have HB3 := hide (btr HB2.out hb)
        have HI3 := hide ((HI2.out).later hb)
        clear hb
        clear k1 q1 z1 k2 q2 z2 k3 q3 z3
        go_wp2
        go_meet
        case rel => exact ⟨rfl, hide ⟨HB3.out, HI3.out⟩⟩
    case rest =>
      obtain ⟨rfl, HH⟩ := hcut
      clear k1 q1 z1 k2 q2 z2 k3 q3 z3
      have HBd := hide HH.out.1
      have HId := hide HH.out.2
      clear HBc HIc HH HW M2 M3
      obtain ⟨k1, q1, z1⟩ := (HId.out).get w.heap.size a (by simp)
      obtain ⟨k2, q2, z2⟩ := (HId.out).get (w.heap.size + 1) b (by simp)
      obtain ⟨k3, q3, z3⟩ := (HId.out).get (w.heap.size + 1 + 1) c (by simp)
      go_wp2_with fail
      refine (wsub_any a b _ HA.out HB.out).mono ?_
      rintro e w4 ⟨rfl, hb⟩
      have HB4 := hide (btr HBd.out hb)
      have HI4 := hide ((HId.out).later hb)
      clear hb
      have HB4a := hide (bal HB4.out (Obj.cells #[.int .i64 (clampI (a.num - b.num)).hi, .int .u64 (clampI (a.num - b.num)).lo] 25))
      have HI4a := hide (HI4.out.al (clampI (a.num - b.num)))
      clear k1 q1 z1 k2 q2 z2 k3 q3 z3
      obtain ⟨k1, q1, z1⟩ := (HI4.out).get w.heap.size a (by simp)
      obtain ⟨k2, q2, z2⟩ := (HI4.out).get (w.heap.size + 1) b (by simp)
      obtain ⟨k3, q3, z3⟩ := (HI4.out).get (w.heap.size + 1 + 1) c (by simp)
      go_upto_region 6 with (fail)
      go_cut [66] from 57 (fun v W => v = .bool false ∧ Hid (Below w.heap.size w W ∧ Is W [(w.heap.size + 1 + 1, c), (w.heap.size + 1, b), (w.heap.size, a)]))
      case first =>
        have HL : Hid (∀ x ∈ [(w.heap.size + 1 + 1, c), (w.heap.size + 1, b), (w.heap.size, a)], x ∈ (w4.heap.size, clampI (a.num - b.num)) :: [(w.heap.size + 1 + 1, c), (w.heap.size + 1, b), (w.heap.size, a)]) := hide fun x hx => List.mem_cons_of_mem _ hx
        by_cases hf : inr (a.num - b.num)
        · have MS := hide (show SignIs (clampI (a.num - b.num)) p by rw [(clamp_yes hf).1]; exact signIs (two_ok hf) (by rw [two_num, cmpOf_sub]; exact HP.out))
          have he : (clampE (a.num - b.num) == 0) = true := by rw [(clamp_yes hf).2]; rfl
          clear hf
          refine wp_region_later (by kernel_rfl) (by kernel_rfl) ?_
          repeat (first | go_big_quiet_step ((first | (go_at_call 22; exact Calls.later (MS.out _)) | (go_at_call 24; exact Calls.later (M1.out _)))) | quiet_step ((first | (go_at_call 22; exact Calls.later (MS.out _)) | (go_at_call 24; exact Calls.later (M1.out _)))))
          refine wpQuiet_nil ?_; intro _ hw'; obtain ⟨L, hL⟩ := hw'; subst hL
          go_wp2
          go_meet
          case rel => exact ⟨rfl, hide ⟨btr (bal HB4.out _) L.h, fun x hx => (((HI4.out.al _).later L.h) x (List.mem_cons_of_mem _ hx))⟩⟩
        · have he : (clampE (a.num - b.num) == 0) = false := by rw [(clamp_no hf).2]; rfl
          clear hf
          refine wp_region_later (by kernel_rfl) (by kernel_rfl) ?_
          repeat (first | go_big_quiet_step ((fail)) | quiet_step ((fail)))
          refine wpQuiet_nil ?_; intro _ hw'; obtain ⟨L, hL⟩ := hw'; subst hL
          go_wp2
          go_meet
          case rel => exact ⟨rfl, hide ⟨btr (bal HB4.out _) L.h, fun x hx => (((HI4.out.al _).later L.h) x (List.mem_cons_of_mem _ hx))⟩⟩
      case rest =>
        obtain ⟨rfl, HH⟩ := hcut
        clear k1 q1 z1 k2 q2 z2 k3 q3 z3
        have HBe := hide HH.out.1
        have HIe := hide HH.out.2
        clear HBd HId HH HB4 HI4 HB4a HI4a
        obtain ⟨k1, q1, z1⟩ := (HIe.out).get w.heap.size a (by simp)
        obtain ⟨k2, q2, z2⟩ := (HIe.out).get (w.heap.size + 1) b (by simp)
        obtain ⟨k3, q3, z3⟩ := (HIe.out).get (w.heap.size + 1 + 1) c (by simp)
        go_wp2_with fail
        refine (wadd_any a c _ HA.out HC.out).mono ?_
        rintro e w5 ⟨rfl, hb⟩
        have HB5 := hide (btr HBe.out hb)
        have HI5 := hide ((HIe.out).later hb)
        clear hb
        clear k1 q1 z1 k2 q2 z2 k3 q3 z3
        obtain ⟨k1, q1, z1⟩ := (HI5.out).get w.heap.size a (by simp)
        obtain ⟨k2, q2, z2⟩ := (HI5.out).get (w.heap.size + 1) b (by simp)
        obtain ⟨k3, q3, z3⟩ := (HI5.out).get (w.heap.size + 1 + 1) c (by simp)
        go_wp2_with fail
        refine (wadd_any b c _ HB.out HC.out).mono ?_
        rintro e w6 ⟨rfl, hb⟩
        have HB6 := hide (btr (bal HB5.out _) hb)
        have HI6 := hide (((HI5.out.al (clampI (a.num + c.num)))).later hb)
        clear hb
        clear k1 q1 z1 k2 q2 z2 k3 q3 z3
        obtain ⟨k1, q1, z1⟩ := (HI6.out).get w.heap.size a (by simp)
        obtain ⟨k2, q2, z2⟩ := (HI6.out).get (w.heap.size + 1) b (by simp)
        obtain ⟨k3, q3, z3⟩ := (HI6.out).get (w.heap.size + 1 + 1) c (by simp)
        obtain ⟨k4, q4, z4⟩ := HI6.out.get w5.heap.size (clampI (a.num + c.num)) (by simp)
        by_cases hf : inr (a.num + c.num)
        · by_cases hg : inr (b.num + c.num)
          · have MS := hide (cmpIs (two_ok hf) (two_ok hg) (k := p) (by rw [two_num, two_num, cmpOf_add]; exact HP.out))
            rw [(clamp_yes hf).1] at k4 ⊢
            rw [(clamp_yes hf).2, (clamp_yes hg).1, (clamp_yes hg).2]
            clear hf hg
            go_wp2_with fail
            refine wp_region_later (by kernel_rfl) (by kernel_rfl) ?_
            repeat (first | go_big_quiet_step ((go_at_call 24; first | (with_reducible exact Calls.later (MS.out _)) | (with_reducible exact Calls.later (M1.out _)))) | quiet_step ((go_at_call 24; first | (with_reducible exact Calls.later (MS.out _)) | (with_reducible exact Calls.later (M1.out _)))))
            refine wpQuiet_nil ?_; intro _ hw'; obtain ⟨L, hL⟩ := hw'; subst hL
            go_wp2
            go_ret
            exact ⟨rfl, btr (bal HB6.out _) L.h⟩
          · rw [(clamp_yes hf).2, (clamp_no hg).2]
            clear hf hg
            go_wp2_with fail
            refine wp_region_later (by kernel_rfl) (by kernel_rfl) ?_
            repeat (first | go_big_quiet_step ((fail)) | quiet_step ((fail)))
            refine wpQuiet_nil ?_; intro _ hw'; obtain ⟨L, hL⟩ := hw'; subst hL
            go_wp2
            go_ret
            exact ⟨rfl, btr (bal HB6.out _) L.h⟩
        · rw [(clamp_no hf).2]
          clear hf
          go_wp2_with fail
          refine wp_region_later (by kernel_rfl) (by kernel_rfl) ?_
          repeat (first | go_big_quiet_step ((fail)) | quiet_step ((fail)))
          refine wpQuiet_nil ?_; intro _ hw'; obtain ⟨L, hL⟩ := hw'; subst hL
          go_wp2
          go_ret
          exact ⟨rfl, btr (bal HB6.out _) L.h⟩
end Go.Proofs.Ytmfilhmcgagjcaa
