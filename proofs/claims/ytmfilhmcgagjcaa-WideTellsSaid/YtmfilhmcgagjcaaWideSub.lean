/- wide.Sub. -/
import Derived.Test.YtmfilhmcgagjcaaWideA
namespace Go.Proofs.Ytmfilhmcgagjcaa
set_option linter.unusedSimpArgs false
set_option linter.unusedVariables false
open Go.RowKit Go.Shelf
theorem sub_law {x y : I2} (hx : x.ok) (hy : y.ok) {p q t : Int} (hp : IntKind.u64.wrap x.hi = p) (hq : IntKind.u64.wrap y.hi = q) (ht : IntKind.i64.wrap ((p - q - bor x.lo y.lo) % 18446744073709551616) = t) :
    ((¬ (x.hi < 0 ↔ y.hi < 0) ∧ ¬ (t < 0 ↔ x.hi < 0)) ∧ ¬ inr (x.num - y.num)) ∨ (¬ (¬ (x.hi < 0 ↔ y.hi < 0) ∧ ¬ (t < 0 ↔ x.hi < 0)) ∧ inr (x.num - y.num) ∧ (two (x.num - y.num)).hi = t ∧ (two (x.num - y.num)).lo = (x.lo - y.lo) % 18446744073709551616) := by
  rw [IntKind.wrap_u64] at hp hq
  rw [IntKind.wrap_i64] at ht
  unfold I2.ok at hx hy
  unfold two inr I2.num
  unfold bor at ht
  simp only
  split at ht <;> omega
set_option maxRecDepth 100000 in
set_option maxHeartbeats 1000000 in
theorem wsub_any (x y : I2) (w : World) (hx : x.ok) (hy : y.ok) :
    Calls Try.prog 19 #[.agg #[.int .i64 x.hi, .int .u64 x.lo], .agg #[.int .i64 y.hi, .int .u64 y.lo]] w fun e w' =>
      e = .returned (.tuple #[.agg #[.int .i64 (clampI (x.num - y.num)).hi, .int .u64 (clampI (x.num - y.num)).lo], .int .i64 (clampE (x.num - y.num))]) ∧ Below w.heap.size w w' := by
  obtain ⟨p, hp⟩ : ∃ p, IntKind.u64.wrap x.hi = p := ⟨_, rfl⟩
  obtain ⟨q, hq⟩ : ∃ q, IntKind.u64.wrap y.hi = q := ⟨_, rfl⟩
  obtain ⟨t, ht⟩ : ∃ t, IntKind.i64.wrap ((p - q - bor x.lo y.lo) % 18446744073709551616) = t := ⟨_, rfl⟩
  have HL := hide (sub_law hx hy hp hq ht)
  have p0 : 0 ≤ p := by rw [IntKind.wrap_u64] at hp; omega
  have q0 : 0 ≤ q := by rw [IntKind.wrap_u64] at hq; omega
  have q1 : q < 18446744073709551616 := by rw [IntKind.wrap_u64] at hq; omega
  have x0 : 0 ≤ x.lo := hx.2.1
  have y0 : 0 ≤ y.lo := hy.2.1
  have y1 : y.lo < 18446744073709551616 := hy.2.2
  obtain ⟨k0, k1⟩ := bor_01 x.lo y.lo
  cases d1 : decide (x.hi < 0) <;> cases d2 : decide (y.hi < 0) <;> cases d3 : decide (t < 0)
  all_goals
    have E1 := hide (of_dec d1); have E2 := hide (of_dec d2); have E3 := hide (of_dec d3)
    go_enter Try.func19, Try.ntmps19
    go_wp2_with (first | simp only [sub64_0 x.lo y.lo x0 y0 y1] | simp only [sub64 p q _ p0 q0 q1 k0 k1])
    have e1 := E1.out
    have e2 := E2.out
    have e3 := E3.out
    simp only [if_true, if_false, Bool.false_eq_true] at e1 e2 e3
    first
      | refine bodyPost_ret (v := .tuple #[.agg #[.int .i64 0, .int .u64 0], .int .i64 3]) (by simp [results, Try.results19, go_sem]; done) rfl ⟨?_, by (repeat (first | exact Below.refl _ _ | refine Below.drew ?_ | refine Below.setCell ?_ (by simp; try omega) _ | refine bal ?_ _))⟩
        have hn : ¬ inr (x.num - y.num) := by
          rcases HL.out with h | h
          · exact h.2
          · exact absurd (by omega) h.1
        rw [(clamp_no hn).1, (clamp_no hn).2]
      | refine bodyPost_ret (v := .tuple #[.agg #[.int .i64 t, .int .u64 ((x.lo - y.lo) % 18446744073709551616)], .int .i64 0]) (by simp [results, Try.results19, go_sem]; done) rfl ⟨?_, by (repeat (first | exact Below.refl _ _ | refine Below.drew ?_ | refine Below.setCell ?_ (by simp; try omega) _ | refine bal ?_ _))⟩
        have hn : inr (x.num - y.num) ∧ (two (x.num - y.num)).hi = t ∧ (two (x.num - y.num)).lo = (x.lo - y.lo) % 18446744073709551616 := by
          rcases HL.out with h | h
          · exfalso; have := h.1; omega
          · exact h.2
        rw [(clamp_yes hn.1).1, (clamp_yes hn.1).2, hn.2.1, hn.2.2]
end Go.Proofs.Ytmfilhmcgagjcaa
