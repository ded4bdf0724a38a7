/- Whole numbers of 128 bits: size, neg, Mul. -/
import Derived.Test.YtmfilhmcgagjcaaWideA
namespace Go.Proofs.Ytmfilhmcgagjcaa
set_option linter.unusedSimpArgs false
set_option linter.unusedVariables false
open Go.RowKit Go.Shelf
def i64ok (n : Int) : Prop := -9223372036854775808 ≤ n ∧ n < 9223372036854775808
theorem ret_u64 {a b : Int} (h : a = b) : Ending.returned (Value.int IntKind.u64 a) = Ending.returned (Value.int IntKind.u64 b) := by rw [h]
set_option maxHeartbeats 400000 in
theorem size_any (n : Int) (w : World) (h : i64ok n) :
    Calls Try.prog 28 #[.int .i64 n] w fun e w' => e = .returned (.int .u64 (n.natAbs : Int)) ∧ w = w' := by
  have HU := hide (IntKind.wrap_u64 n)
  have H := hide h
  obtain ⟨u, hu⟩ : ∃ u, IntKind.u64.wrap n = u := ⟨_, rfl⟩
  have HX := hide (hu.symm.trans (IntKind.wrap_u64 n))
  have HY := hide (IntKind.wrap_u64 (-u))
  obtain ⟨v, hv⟩ : ∃ v, IntKind.u64.wrap (-u) = v := ⟨_, rfl⟩
  have HZ := hide (hv.symm.trans (IntKind.wrap_u64 (-u)))
  clear h
  cases d1 : decide (n < 0)
  all_goals
    have E1 := hide (of_dec d1)
    go_enter Try.func28, Try.ntmps28
    go_wp2_with fail
    go_ret
    refine ⟨ret_u64 ?_, rfl⟩
    have e1 := E1.out
    have e2 := HX.out
    have e3 := HZ.out
    have e4 := H.out
    unfold i64ok at e4
    simp only [if_true, if_false, Bool.false_eq_true] at e1
    omega
def negW (n : Int) : Int := if n = -170141183460469231731687303715884105728 then n else -n
theorem neg_law {x : I2} (hx : x.ok) {p t : Int} (hp : IntKind.u64.wrap x.hi = p) (ht : IntKind.i64.wrap ((-p - bor 0 x.lo) % 18446744073709551616) = t) :
    (two (negW x.num)).hi = t ∧ (two (negW x.num)).lo = (0 - x.lo) % 18446744073709551616 := by
  rw [IntKind.wrap_u64] at hp
  rw [IntKind.wrap_i64] at ht
  unfold I2.ok at hx
  unfold negW two I2.num
  unfold bor at ht
  simp only
  split at ht <;> split <;> omega
set_option maxRecDepth 100000 in
set_option maxHeartbeats 400000 in
theorem neg_any (x : I2) (w : World) (hx : x.ok) :
    Calls Try.prog 29 #[.agg #[.int .i64 x.hi, .int .u64 x.lo]] w fun e w' => e = .returned (.agg #[.int .i64 (two (negW x.num)).hi, .int .u64 (two (negW x.num)).lo]) ∧ Below w.heap.size w w' := by
  obtain ⟨p, hp⟩ : ∃ p, IntKind.u64.wrap x.hi = p := ⟨_, rfl⟩
  obtain ⟨t, ht⟩ : ∃ t, IntKind.i64.wrap ((-p - bor 0 x.lo) % 18446744073709551616) = t := ⟨_, rfl⟩
  have HL := hide (neg_law hx hp ht)
  have p0 : 0 ≤ p := by rw [IntKind.wrap_u64] at hp; omega
  have p1 : p < 18446744073709551616 := by rw [IntKind.wrap_u64] at hp; omega
  have x0 : 0 ≤ x.lo := hx.2.1
  have x1 : x.lo < 18446744073709551616 := hx.2.2
  obtain ⟨k0, k1⟩ := bor_01 0 x.lo
  go_enter Try.func29, Try.ntmps29
  go_wp2_with (first | simp only [sub64_0 0 x.lo (Int.le_refl 0) x0 x1] | simp only [sub64 0 p _ (Int.le_refl 0) p0 p1 k0 k1])
  refine bodyPost_ret (v := .agg #[.int .i64 t, .int .u64 ((0 - x.lo) % 18446744073709551616)]) (by simp [results, Try.results29, go_sem]; done) rfl ⟨ret_i2 HL.out.1 HL.out.2, by (repeat (first | exact Below.refl _ _ | refine Below.drew ?_ | refine Below.setCell ?_ (by simp; try omega) _ | refine bal ?_ _))⟩
theorem prod_abs (a b : Int) : (¬ (a < 0 ↔ b < 0) → a * b = -((a.natAbs * b.natAbs : Nat) : Int)) ∧ ((a < 0 ↔ b < 0) → a * b = ((a.natAbs * b.natAbs : Nat) : Int)) := by
  rw [Int.natCast_mul]
  rcases Int.lt_or_le a 0 with ha | ha <;> rcases Int.lt_or_le b 0 with hb | hb
  · rw [show (a.natAbs : Int) = -a by omega, show (b.natAbs : Int) = -b by omega, Int.neg_mul_neg]
    exact ⟨fun h => absurd (by omega) h, fun _ => rfl⟩
  · rw [show (a.natAbs : Int) = -a by omega, show (b.natAbs : Int) = b by omega, Int.neg_mul]
    exact ⟨fun _ => by omega, fun h => absurd h (by omega)⟩
  · rw [show (a.natAbs : Int) = a by omega, show (b.natAbs : Int) = -b by omega, Int.mul_neg]
    exact ⟨fun _ => by omega, fun h => absurd h (by omega)⟩
  · rw [show (a.natAbs : Int) = a by omega, show (b.natAbs : Int) = b by omega]
    exact ⟨fun h => absurd (by omega) h, fun _ => rfl⟩
theorem abs_bound {a b : Int} (ha : i64ok a) (hb : i64ok b) : a.natAbs * b.natAbs ≤ 85070591730234615865843651857942052864 := by
  unfold i64ok at ha hb
  exact Nat.le_trans (Nat.mul_le_mul (show a.natAbs ≤ 9223372036854775808 by omega) (show b.natAbs ≤ 9223372036854775808 by omega)) (by decide)
theorem mul_same {a b t : Int} {P : Nat} (e : a * b = (P : Int)) (hP : P ≤ 85070591730234615865843651857942052864) (ht : t = ((P : Int) / 18446744073709551616 + 9223372036854775808) % 18446744073709551616 - 9223372036854775808) :
    (two (a * b)).hi = t ∧ (two (a * b)).lo = (P : Int) % 18446744073709551616 := by
  have h1 : (P : Int) / 18446744073709551616 ≤ 4611686018427387904 := by omega
  have h2 : 0 ≤ (P : Int) / 18446744073709551616 := by omega
  have h3 : t = (P : Int) / 18446744073709551616 := by omega
  rw [e]; unfold two; simp only
  exact ⟨h3.symm, trivial⟩
theorem mul_num {t : Int} {P : Nat} (hP : P ≤ 85070591730234615865843651857942052864) (ht : t = ((P : Int) / 18446744073709551616 + 9223372036854775808) % 18446744073709551616 - 9223372036854775808) :
    I2.ok ⟨t, (P : Int) % 18446744073709551616⟩ ∧ I2.num ⟨t, (P : Int) % 18446744073709551616⟩ = P := by
  have h1 : (P : Int) / 18446744073709551616 ≤ 4611686018427387904 := by omega
  have h2 : 0 ≤ (P : Int) / 18446744073709551616 := by omega
  have h3 : t = (P : Int) / 18446744073709551616 := by omega
  subst h3
  unfold I2.ok I2.num; simp only
  exact ⟨⟨⟨by omega, by omega⟩, by omega, by omega⟩, by omega⟩
theorem mul_diff {a b : Int} {P : Nat} (e : a * b = -(P : Int)) (hP : P ≤ 85070591730234615865843651857942052864) : negW (P : Int) = a * b := by
  rw [e]; unfold negW; split <;> omega
theorem sgn_ways {a b : Int} {P : Nat} (hm : (¬ (a < 0 ↔ b < 0) → a * b = -(P : Int)) ∧ ((a < 0 ↔ b < 0) → a * b = (P : Int))) :
    (((decide (a < 0) = false ∧ decide (b < 0) = false) ∨ (decide (a < 0) = true ∧ decide (b < 0) = true)) ∧ Hid (a * b = (P : Int))) ∨
    (((decide (a < 0) = false ∧ decide (b < 0) = true) ∨ (decide (a < 0) = true ∧ decide (b < 0) = false)) ∧ Hid (a * b = -(P : Int))) := by
  simp only [decide_eq_true_iff, decide_eq_false_iff_not]
  by_cases h : (a < 0 ↔ b < 0)
  · exact .inl ⟨by omega, hide (hm.2 h)⟩
  · exact .inr ⟨by omega, hide (hm.1 h)⟩
theorem Blk.one (w : World) (cs ds : Array Value) (t u : TypeId) : Blk ((w.alloc (Obj.cells cs t)).alloc (Obj.cells ds u)) w.heap.size t cs := (Blk.new w t cs).alloc _
theorem Blk.two (w : World) (cs ds : Array Value) (t u : TypeId) : Blk ((w.alloc (Obj.cells cs t)).alloc (Obj.cells ds u)) (w.heap.size + 1) u ds := by
  have := Blk.new (w.alloc (Obj.cells cs t)) u ds
  simpa using this
set_option maxRecDepth 100000 in
set_option maxHeartbeats 400000 in
theorem wmul_any (a b : Int) (w : World) (ha : i64ok a) (hb : i64ok b) :
    Calls Try.prog 13 #[.int .i64 a, .int .i64 b] w fun e w' => e = .returned (.agg #[.int .i64 (two (a * b)).hi, .int .u64 (two (a * b)).lo]) ∧ Below w.heap.size w w' := by
  have HA := hide ha
  have HB := hide hb
  have hP := abs_bound ha hb
  obtain ⟨P, hP1⟩ : ∃ P, a.natAbs * b.natAbs = P := ⟨_, rfl⟩
  have HM := hide (prod_abs a b)
  rw [hP1] at hP HM
  have hu : i64ok a ∧ i64ok b := ⟨ha, hb⟩
  unfold i64ok at hu
  have HN1 : Hid (a.natAbs < 18446744073709551616) := hide (by omega)
  have HN2 : Hid (b.natAbs < 18446744073709551616) := hide (by omega)
  have HP := hide hP
  have HP1 := hide hP1
  clear hP1 hP hu ha hb
  obtain ⟨t, ht⟩ : ∃ t, IntKind.i64.wrap ((P : Int) / 18446744073709551616) = t := ⟨_, rfl⟩
  have HT := hide (ht.symm.trans (IntKind.wrap_i64 _))
  rcases sgn_ways HM.out with ⟨⟨d1, d2⟩ | ⟨d1, d2⟩, HE⟩ | ⟨⟨d1, d2⟩ | ⟨d1, d2⟩, HE⟩
  all_goals
    go_enter Try.func13, Try.ntmps13
    go_wp2_with fail
    refine (size_any a _ HA.out).mono ?_
    rintro e w1 ⟨rfl, rfl⟩
    go_wp2_with fail
    refine (size_any b _ HB.out).mono ?_
    rintro e w1 ⟨rfl, rfl⟩
    go_wp2_with fail
    refine (mul64 a.natAbs b.natAbs HN1.out HN2.out _).mono ?_
    rintro e w1 ⟨rfl, rfl⟩
    rw [HP1.out]
    go_wp2_with fail
    first
      | refine bodyPost_ret (v := .agg #[.int .i64 t, .int .u64 ((P : Int) % 18446744073709551616)]) (by simp [results, Try.results13, go_sem]; done) rfl ⟨ret_i2 ?_ ?_, by (repeat (first | exact Below.refl _ _ | refine Below.drew ?_ | refine Below.setCell ?_ (by simp; try omega) _ | refine bal ?_ _))⟩
        · exact (mul_same HE.out HP.out HT.out).1
        · exact (mul_same HE.out HP.out HT.out).2
      | refine (neg_any ⟨t, (P : Int) % 18446744073709551616⟩ _ (mul_num HP.out HT.out).1).mono ?_
        rintro e w1 ⟨rfl, hb⟩
        rw [show two (negW (I2.num ⟨t, (P : Int) % 18446744073709551616⟩)) = two (a * b) by rw [(mul_num HP.out HT.out).2, mul_diff HE.out HP.out]]
        have HB2 : Hid (Below w.heap.size w w1) := hide (btr (a := w) (by (repeat (first | exact Below.refl _ _ | refine Below.drew ?_ | refine Below.setCell ?_ (by simp; try omega) _ | refine bal ?_ _))) hb)
        have KB := hide (Blk.below (Blk.two w _ _ _ _) hb (by simp))
        have KA := hide (Blk.below (Blk.one w _ _ _ _) hb (by simp; omega))
        clear hb
        have k1 := KB.out.cell
        have q1 := KB.out.frozen
        have z1 := KB.out.lt
        have k2 := KA.out.cell
        have q2 := KA.out.frozen
        have z2 := KA.out.lt
        go_wp2_with fail
        refine bodyPost_ret (v := .agg #[.int .i64 (two (a * b)).hi, .int .u64 (two (a * b)).lo]) (by simp [results, Try.results13, go_sem, k2]; done) rfl ⟨rfl, ?_⟩
        exact (((HB2.out.setCell (by simp; try omega) _).setCell (by simp; try omega) _).setCell (by simp; try omega) _).setCell (by simp; try omega) _
end Go.Proofs.Ytmfilhmcgagjcaa
