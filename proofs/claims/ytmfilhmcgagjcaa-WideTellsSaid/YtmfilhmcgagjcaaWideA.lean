/- Whole numbers of 128 bits: math/bits laid; Of, Add. -/
import Derived.Test.YtmfilhmcgagjcaaRegion
import Derived.IntWalk
import Derived.Test.YtmfilhmcgagjcaaShelf
import Derived.Shelf.Spec.BitsCarry
namespace Go.Proofs.Ytmfilhmcgagjcaa
set_option linter.unusedSimpArgs false
set_option linter.unusedVariables false
open Go.RowKit Go.Shelf
theorem mul64 (x y : Nat) (hx : x < 18446744073709551616) (hy : y < 18446744073709551616) (w : World) :
    Calls Try.prog 27 #[.int .u64 x, .int .u64 y] w fun e w' => e = .returned (.tuple #[.int .u64 ((x * y / 18446744073709551616 : Nat) : Int), .int .u64 ((x * y % 18446744073709551616 : Nat) : Int)]) ∧ w' = w := Any.bits_Mul64 Try.lays264 x y hx hy w
theorem add64 (x y c : Int) (hx : 0 ≤ x) (hy : 0 ≤ y) (hc0 : 0 ≤ c) (hc : c ≤ 1) (w : World) : (callFunc 34 #[.int .u64 x, .int .u64 y, .int .u64 c]).run Try.prog w =
    .ok (.value (.tuple #[.int .u64 ((x + y + c) % 18446744073709551616), .int .u64 ((x + y + c) / 18446744073709551616)])) w := by
  rw [run_callFunc_extern Try.func34 (by kernel_rfl) (by kernel_rfl) (by kernel_rfl) (e := add64Entry) (by kernel_rfl), run_add64 x y c hx hy hc0 hc]
  rfl
def bor (x y : Int) : Int := if x < y then 1 else 0
theorem bor_01 (x y : Int) : 0 ≤ bor x y ∧ bor x y ≤ 1 := by unfold bor; split <;> omega
theorem sub64 (x y b : Int) (hx : 0 ≤ x) (hy : 0 ≤ y) (hy' : y < 18446744073709551616) (hb0 : 0 ≤ b) (hb : b ≤ 1) (w : World) : (callFunc 35 #[.int .u64 x, .int .u64 y, .int .u64 b]).run Try.prog w =
    .ok (.value (.tuple #[.int .u64 ((x - y - b) % 18446744073709551616), .int .u64 (bor x (y + b))])) w := by
  obtain ⟨x, rfl⟩ := Int.eq_ofNat_of_zero_le hx
  obtain ⟨y, rfl⟩ := Int.eq_ofNat_of_zero_le hy
  obtain ⟨b, rfl⟩ := Int.eq_ofNat_of_zero_le hb0
  have e1 : (((x + 18446744073709551616 - y - b) % 18446744073709551616 : Nat) : Int) = ((x : Int) - y - b) % 18446744073709551616 := by omega
  have e2 : ((if x < y + b then 1 else 0 : Nat) : Int) = bor x (y + b) := by unfold bor; split <;> split <;> omega
  rw [← e1, ← e2]
  rw [run_callFunc_extern Try.func35 (by kernel_rfl) (by kernel_rfl) (by kernel_rfl) (e := sub64Entry) (by kernel_rfl), run_sub64 x y b (by omega) w]
  rfl
theorem add64_0 (x y : Int) (hx : 0 ≤ x) (hy : 0 ≤ y) (w : World) : (callFunc 34 #[.int .u64 x, .int .u64 y, .int .u64 0]).run Try.prog w =
    .ok (.value (.tuple #[.int .u64 ((x + y) % 18446744073709551616), .int .u64 ((x + y) / 18446744073709551616)])) w := by
  simpa using add64 x y 0 hx hy (Int.le_refl 0) (by decide) w
theorem sub64_0 (x y : Int) (hx : 0 ≤ x) (hy : 0 ≤ y) (hy' : y < 18446744073709551616) (w : World) : (callFunc 35 #[.int .u64 x, .int .u64 y, .int .u64 0]).run Try.prog w =
    .ok (.value (.tuple #[.int .u64 ((x - y) % 18446744073709551616), .int .u64 (bor x y)])) w := by
  simpa using sub64 x y 0 hx hy hy' (Int.le_refl 0) (by decide) w
/-- A number of 128 bits, as its two words have it. -/
structure I2 where
  hi : Int
  lo : Int
def I2.ok (x : I2) : Prop := (-9223372036854775808 ≤ x.hi ∧ x.hi < 9223372036854775808) ∧ 0 ≤ x.lo ∧ x.lo < 18446744073709551616
def I2.num (x : I2) : Int := x.hi * 18446744073709551616 + x.lo
def two (n : Int) : I2 := ⟨n / 18446744073709551616, n % 18446744073709551616⟩
def inr (n : Int) : Prop := -170141183460469231731687303715884105728 ≤ n ∧ n < 170141183460469231731687303715884105728
instance (n : Int) : Decidable (inr n) := inferInstanceAs (Decidable (_ ∧ _))
theorem two_ok {n : Int} (h : inr n) : (two n).ok := by unfold inr at h; unfold I2.ok two; simp only; omega
theorem two_num (n : Int) : (two n).num = n := by unfold two I2.num; simp only; omega
theorem num_in {x : I2} (h : x.ok) : inr x.num := by unfold I2.ok at h; unfold inr I2.num; omega
theorem num_two {x : I2} (h : x.ok) : two x.num = x := by
  obtain ⟨hi, lo⟩ := x
  unfold I2.ok at h; unfold two I2.num; simp only at *
  rw [I2.mk.injEq]; omega
abbrev iblk (x : I2) : Obj := Obj.cells #[Value.int IntKind.i64 x.hi, Value.int IntKind.u64 x.lo] 25
theorem of_dec {p : Prop} [Decidable p] {b : Bool} (h : decide p = b) : if b = true then p else ¬ p := by
  cases b
  · simpa using h
  · simpa using h
theorem ret_i2 {a b c d : Int} (h1 : c = a) (h2 : d = b) : Ending.returned (Value.agg #[Value.int IntKind.i64 a, Value.int IntKind.u64 b]) = Ending.returned (Value.agg #[Value.int IntKind.i64 c, Value.int IntKind.u64 d]) := by rw [h1, h2]
set_option maxHeartbeats 400000 in
theorem wof_any (n : Int) (w : World) (h : -9223372036854775808 ≤ n ∧ n < 9223372036854775808) :
    Calls Try.prog 11 #[.int .i64 n] w fun e w' => e = .returned (.agg #[.int .i64 (two n).hi, .int .u64 (two n).lo]) ∧ Below w.heap.size w w' := by
  have HB0 := hide (bal (Below.refl w.heap.size w) (iblk ⟨0, 0⟩))
  obtain ⟨h1, h2⟩ := h
  go_enter Try.func11, Try.ntmps11
  go_wp2_with fail
  refine bodyPost_ret (v := .agg #[.int .i64 (n / 9223372036854775808), .int .u64 (IntKind.u64.wrap n)]) (by simp [results, Try.results11, go_sem]) rfl ⟨ret_i2 ?_ ?_, bal (Below.refl _ _) _⟩
  · unfold two; simp only; omega
  · unfold two; simp only; rw [IntKind.wrap_u64]
/-! Sums and differences -/
def clampI (n : Int) : I2 := if inr n then two n else ⟨0, 0⟩
def clampE (n : Int) : Int := if inr n then 0 else 3
theorem clamp_yes {n : Int} (h : inr n) : clampI n = two n ∧ clampE n = 0 := by unfold clampI clampE; rw [if_pos h, if_pos h]; exact ⟨rfl, rfl⟩
theorem clamp_no {n : Int} (h : ¬ inr n) : clampI n = ⟨0, 0⟩ ∧ clampE n = 3 := by unfold clampI clampE; rw [if_neg h, if_neg h]; exact ⟨rfl, rfl⟩
theorem add_law {x y : I2} (hx : x.ok) (hy : y.ok) {p q t : Int} (hp : IntKind.u64.wrap x.hi = p) (hq : IntKind.u64.wrap y.hi = q) (ht : IntKind.i64.wrap ((p + q + (x.lo + y.lo) / 18446744073709551616) % 18446744073709551616) = t) :
    (((x.hi < 0 ↔ y.hi < 0) ∧ ¬ (t < 0 ↔ x.hi < 0)) ∧ ¬ inr (x.num + y.num)) ∨ (¬ ((x.hi < 0 ↔ y.hi < 0) ∧ ¬ (t < 0 ↔ x.hi < 0)) ∧ inr (x.num + y.num) ∧ (two (x.num + y.num)).hi = t ∧ (two (x.num + y.num)).lo = (x.lo + y.lo) % 18446744073709551616) := by
  rw [IntKind.wrap_u64] at hp hq
  rw [IntKind.wrap_i64] at ht
  unfold I2.ok at hx hy
  unfold two inr I2.num
  simp only
  omega
def IB2 (W : World) (g : Nat) (a b : I2) : Prop := Blk W g 25 #[Value.int IntKind.i64 a.hi, Value.int IntKind.u64 a.lo] ∧ Blk W (g + 1) 25 #[Value.int IntKind.i64 b.hi, Value.int IntKind.u64 b.lo]
set_option maxRecDepth 100000 in
set_option maxHeartbeats 1000000 in
theorem wadd_any (x y : I2) (w : World) (hx : x.ok) (hy : y.ok) :
    Calls Try.prog 17 #[.agg #[.int .i64 x.hi, .int .u64 x.lo], .agg #[.int .i64 y.hi, .int .u64 y.lo]] w fun e w' =>
      e = .returned (.tuple #[.agg #[.int .i64 (clampI (x.num + y.num)).hi, .int .u64 (clampI (x.num + y.num)).lo], .int .i64 (clampE (x.num + y.num))]) ∧ Below w.heap.size w w' := by
  obtain ⟨p, hp⟩ : ∃ p, IntKind.u64.wrap x.hi = p := ⟨_, rfl⟩
  obtain ⟨q, hq⟩ : ∃ q, IntKind.u64.wrap y.hi = q := ⟨_, rfl⟩
  obtain ⟨t, ht⟩ : ∃ t, IntKind.i64.wrap ((p + q + (x.lo + y.lo) / 18446744073709551616) % 18446744073709551616) = t := ⟨_, rfl⟩
  have HL := hide (add_law hx hy hp hq ht)
  have p0 : 0 ≤ p := by rw [IntKind.wrap_u64] at hp; omega
  have q0 : 0 ≤ q := by rw [IntKind.wrap_u64] at hq; omega
  have x0 : 0 ≤ x.lo := hx.2.1
  have y0 : 0 ≤ y.lo := hy.2.1
  have k0 : 0 ≤ (x.lo + y.lo) / 18446744073709551616 := by omega
  have k1 : (x.lo + y.lo) / 18446744073709551616 ≤ 1 := by have := hx.2.2; have := hy.2.2; omega
  cases d1 : decide (x.hi < 0) <;> cases d2 : decide (y.hi < 0) <;> cases d3 : decide (t < 0)
  all_goals
    have E1 := hide (of_dec d1); have E2 := hide (of_dec d2); have E3 := hide (of_dec d3)
    go_enter Try.func17, Try.ntmps17
    go_wp2_with (first | simp only [add64_0 x.lo y.lo x0 y0] | simp only [add64 p q _ p0 q0 k0 k1])
    have e1 := E1.out
    have e2 := E2.out
    have e3 := E3.out
    simp only [if_true, if_false, Bool.false_eq_true] at e1 e2 e3
    first
      | refine bodyPost_ret (v := .tuple #[.agg #[.int .i64 0, .int .u64 0], .int .i64 3]) (by simp [results, Try.results17, go_sem]; done) rfl ⟨?_, by (repeat (first | exact Below.refl _ _ | refine Below.drew ?_ | refine Below.setCell ?_ (by simp; try omega) _ | refine bal ?_ _))⟩
        have hn : ¬ inr (x.num + y.num) := by
          rcases HL.out with h | h
          · exact h.2
          · exact absurd (by omega) h.1
        rw [(clamp_no hn).1, (clamp_no hn).2]
      | refine bodyPost_ret (v := .tuple #[.agg #[.int .i64 t, .int .u64 ((x.lo + y.lo) % 18446744073709551616)], .int .i64 0]) (by simp [results, Try.results17, go_sem]; done) rfl ⟨?_, by (repeat (first | exact Below.refl _ _ | refine Below.drew ?_ | refine Below.setCell ?_ (by simp; try omega) _ | refine bal ?_ _))⟩
        have hn : inr (x.num + y.num) ∧ (two (x.num + y.num)).hi = t ∧ (two (x.num + y.num)).lo = (x.lo + y.lo) % 18446744073709551616 := by
          rcases HL.out with h | h
          · exfalso; have := h.1; omega
          · exact h.2
        rw [(clamp_yes hn.1).1, (clamp_yes hn.1).2, hn.2.1, hn.2.2]
end Go.Proofs.Ytmfilhmcgagjcaa
