/- The reference's numbers: whole, Add, Sub. -/
import Derived.Test.YtmfilhmcgagjcaaWideE
import Derived.Test.YtmfilhmcgagjcaaEnv
import Derived.Deep.RegionHeld3
import Derived.Outline
import Derived.Laws.Bits64b
namespace Go.Proofs.Ytmfilhmcgagjcaa
set_option linter.unusedSimpArgs false
set_option linter.unusedVariables false
open Go.RowKit Go.Shelf
theorem or_add {a b : Nat} (ha : a < 4294967296) (hb : b < 4294967296) : a * 4294967296 ||| b = a * 4294967296 + b := by
  have := Nat.two_pow_add_eq_or_of_lt (i := 32) (show b < 2 ^ 32 by omega) a
  rw [show 2 ^ 32 * a = a * 4294967296 by rw [Nat.mul_comm]] at this
  exact this.symm
theorem or_u64 {a b : Int} (a0 : 0 ≤ a) (a1 : a < 4294967296) (b0 : 0 ≤ b) (b1 : b < 4294967296) : bits BinOp.or IntKind.u64 (a * 4294967296) b = a * 4294967296 + b := by
  obtain ⟨m, rfl⟩ := Int.eq_ofNat_of_zero_le a0
  obtain ⟨n, rfl⟩ := Int.eq_ofNat_of_zero_le b0
  have hm : m < 4294967296 := by omega
  have hn : n < 4294967296 := by omega
  rw [show (m : Int) * 4294967296 = ((m * 4294967296 : Nat) : Int) by omega, bits_or_u64_nat _ _ (by omega) (by omega), or_add hm hn]
  omega
/-- The two words of a number, beyond 128 bits cut off. -/
def wv (n : Int) : I2 := ⟨(n / 18446744073709551616 + 9223372036854775808) % 18446744073709551616 - 9223372036854775808, n % 18446744073709551616⟩
theorem wv_two {n : Int} (h : inr n) : wv n = two n := by
  unfold inr at h; unfold wv two; rw [I2.mk.injEq]; omega
theorem quo_bd {n : Int} (h : -730750818665451459101842416358141509827966271488 ≤ n ∧ n < 730750818665451459101842416358141509827966271488) :
    (-9223372036854775808 ≤ quo n 3 ∧ quo n 3 < 9223372036854775808) ∧ (inr n ↔ -2147483648 ≤ quo n 3 ∧ quo n 3 < 2147483648) := by
  simp only [quo]
  unfold inr
  have e : n / 4294967296 / 4294967296 / 4294967296 = n / 79228162514264337593543950336 := by omega
  rw [e]
  omega
theorem whole_law {n : Int} (h : -730750818665451459101842416358141509827966271488 ≤ n ∧ n < 730750818665451459101842416358141509827966271488) :
    (2147483648 ≤ dg n 3 ∧ (dg n 4 = 4294967295 ↔ inr n)) ∨ (¬ 2147483648 ≤ dg n 3 ∧ (dg n 4 = 0 ↔ inr n)) := by
  obtain ⟨h1, h2⟩ := quo_bd h
  rw [h2]
  unfold dg
  have e : quo n 4 = quo n 3 / 4294967296 := rfl
  rw [e]
  omega
theorem wv_law (n : Int) {H : Int} (hH : IntKind.i64.wrap (dg n 3 * 4294967296 + dg n 2) = H) : (wv n).hi = H ∧ (wv n).lo = dg n 1 * 4294967296 + dg n 0 := by
  rw [IntKind.wrap_i64] at hH
  unfold wv
  unfold dg at *
  have e0 : quo n 0 = n := rfl
  have e1 : quo n 1 = n / 4294967296 := rfl
  have e2 : quo n 2 = n / 4294967296 / 4294967296 := rfl
  have e3 : quo n 3 = n / 4294967296 / 4294967296 / 4294967296 := rfl
  rw [e0, e1]
  rw [e2, e3] at hH
  have e4 : n / 18446744073709551616 = n / 4294967296 / 4294967296 := by omega
  simp only
  rw [e4]
  omega
theorem top_ways {a n : Int} {t : Int} (h : a = t ↔ inr n) : (a == t) = decide (inr n) := by rw [Bool.eq_iff_iff, beq_iff_eq, decide_eq_true_iff]; exact h
set_option maxRecDepth 100000 in
set_option maxHeartbeats 1000000 in
theorem whole_any (n : Int) (w : World) (h : -730750818665451459101842416358141509827966271488 ≤ n ∧ n < 730750818665451459101842416358141509827966271488) :
    Calls Try.prog 33 #[.agg (cs5 (dg n))] w fun e w' => e = .returned (.tuple #[.agg #[.int .i64 (wv n).hi, .int .u64 (wv n).lo], .bool (decide (inr n))]) ∧ Below w.heap.size w w' := by
  obtain ⟨H, hH⟩ : ∃ H, IntKind.i64.wrap (dg n 3 * 4294967296 + dg n 2) = H := ⟨_, rfl⟩
  have HV := hide (wv_law n hH)
  have HW := whole_law h
  have r0 := dg_part n 0; have r1 := dg_part n 1; have r2 := dg_part n 2; have r3 := dg_part n 3; have r4 := dg_part n 4
  unfold cs5
  obtain ⟨a0, h0⟩ : ∃ a, dg n 0 = a := ⟨_, rfl⟩
  obtain ⟨a1, h1⟩ : ∃ a, dg n 1 = a := ⟨_, rfl⟩
  obtain ⟨a2, h2⟩ : ∃ a, dg n 2 = a := ⟨_, rfl⟩
  obtain ⟨a3, h3⟩ : ∃ a, dg n 3 = a := ⟨_, rfl⟩
  obtain ⟨a4, h4⟩ : ∃ a, dg n 4 = a := ⟨_, rfl⟩
  rw [h0] at r0; rw [h1] at r1; rw [h2] at r2; rw [h3] at r3; rw [h4] at r4
  rw [h0, h1, h2, h3, h4]
  rw [h3, h2] at hH
  rw [h1, h0] at HV
  rw [h3, h4] at HW
  clear h0 h1 h2 h3 h4
  have HI0 := hide (((Bs.nil w).al #[.int .u32 a0, .int .u32 a1, .int .u32 a2, .int .u32 a3, .int .u32 a4] 54).al #[Value.int IntKind.i64 0, Value.int IntKind.u64 0] 25)
  simp only [heap_al] at HI0
  have e1 := or_u64 r3.1 r3.2 r2.1 r2.2
  have e2 := or_u64 r1.1 r1.2 r0.1 r0.2
  obtain ⟨r00, r01⟩ := r0; obtain ⟨r10, r11⟩ := r1; obtain ⟨r20, r21⟩ := r2; obtain ⟨r30, r31⟩ := r3; obtain ⟨r40, r41⟩ := r4
  have s1 : IntKind.u64.wrap (a3 * 4294967296) = a3 * 4294967296 := by rw [IntKind.wrap_u64]; omega
  have s2 : IntKind.u64.wrap (a1 * 4294967296) = a1 * 4294967296 := by rw [IntKind.wrap_u64]; omega
  have u0 : IntKind.u64.wrap a0 = a0 := by rw [IntKind.wrap_u64]; omega
  have u1 : IntKind.u64.wrap a1 = a1 := by rw [IntKind.wrap_u64]; omega
  have u2 : IntKind.u64.wrap a2 = a2 := by rw [IntKind.wrap_u64]; omega
  have u3 : IntKind.u64.wrap a3 = a3 := by rw [IntKind.wrap_u64]; omega
  rcases HW with ⟨d, hd⟩ | ⟨d, hd⟩
  · have HT := hide (top_ways hd)
    have d1 : decide (2147483648 ≤ a3) = true := by simpa using d
    clear hd d
    go_enter Try.func33, Try.ntmps33
    go_wp2_with fail
    obtain ⟨W, hW, HB, HI⟩ : ∃ W, ((w.alloc (Obj.cells #[.int .u32 a0, .int .u32 a1, .int .u32 a2, .int .u32 a3, .int .u32 a4] 54)).alloc (Obj.cells #[Value.int IntKind.i64 0, Value.int IntKind.u64 0] 25)) = W ∧ Hid (Below w.heap.size w W) ∧ Hid (Bs W [(w.heap.size + 1, 25, #[Value.int IntKind.i64 0, Value.int IntKind.u64 0]), (w.heap.size, 54, #[.int .u32 a0, .int .u32 a1, .int .u32 a2, .int .u32 a3, .int .u32 a4])]) := ⟨_, rfl, hide (by (repeat (first | exact Below.refl _ _ | refine Below.drew ?_ | refine Below.setCell ?_ (by simp; try omega) _ | refine bal ?_ _))), HI0⟩
    rw [hW]
    clear hW HI0
    obtain ⟨k1, q1, z1⟩ := HI.out.get w.heap.size 54 #[.int .u32 a0, .int .u32 a1, .int .u32 a2, .int .u32 a3, .int .u32 a4] (by simp)
    obtain ⟨k2, q2, z2⟩ := HI.out.get (w.heap.size + 1) 25 #[Value.int IntKind.i64 0, Value.int IntKind.u64 0] (by simp)
    have c0 := k1 0; have c1 := k1 1; have c2 := k1 2; have c3 := k1 3; have c4 := k1 4
    simp at c0 c1 c2 c3 c4
    clear k1 q1
    go_region_held3 (fun w' => w'.cell? ⟨w.heap.size, 0, none⟩ = some (.int .u32 a0) ∧ w'.cell? ⟨w.heap.size, 1, none⟩ = some (.int .u32 a1) ∧ w'.cell? ⟨w.heap.size, 2, none⟩ = some (.int .u32 a2) ∧ w'.cell? ⟨w.heap.size, 3, none⟩ = some (.int .u32 a3) ∧ w'.cell? ⟨w.heap.size, 4, none⟩ = some (.int .u32 a4))
      (first | go_keep)
      (first | fail)
    go_wp2
    refine bodyPost_ret (v := .tuple #[.agg #[.int .i64 H, .int .u64 (a1 * 4294967296 + a0)], .bool (a4 == 4294967295)]) (by simp (maxDischargeDepth := 9) [results, Try.results33, go_sem, k2]; done) rfl ⟨?_, (by repeat (first | exact HB.out | refine Below.drew ?_ | refine Below.setCell ?_ (by simp; try omega) _ | refine bal ?_ _))⟩
    rw [HV.out.1, HV.out.2, HT.out]
  · have HT := hide (top_ways hd)
    have d1 : decide (2147483648 ≤ a3) = false := by simpa using d
    clear hd d
    go_enter Try.func33, Try.ntmps33
    go_wp2_with fail
    obtain ⟨W, hW, HB, HI⟩ : ∃ W, ((w.alloc (Obj.cells #[.int .u32 a0, .int .u32 a1, .int .u32 a2, .int .u32 a3, .int .u32 a4] 54)).alloc (Obj.cells #[Value.int IntKind.i64 0, Value.int IntKind.u64 0] 25)) = W ∧ Hid (Below w.heap.size w W) ∧ Hid (Bs W [(w.heap.size + 1, 25, #[Value.int IntKind.i64 0, Value.int IntKind.u64 0]), (w.heap.size, 54, #[.int .u32 a0, .int .u32 a1, .int .u32 a2, .int .u32 a3, .int .u32 a4])]) := ⟨_, rfl, hide (by (repeat (first | exact Below.refl _ _ | refine Below.drew ?_ | refine Below.setCell ?_ (by simp; try omega) _ | refine bal ?_ _))), HI0⟩
    rw [hW]
    clear hW HI0
    obtain ⟨k1, q1, z1⟩ := HI.out.get w.heap.size 54 #[.int .u32 a0, .int .u32 a1, .int .u32 a2, .int .u32 a3, .int .u32 a4] (by simp)
    obtain ⟨k2, q2, z2⟩ := HI.out.get (w.heap.size + 1) 25 #[Value.int IntKind.i64 0, Value.int IntKind.u64 0] (by simp)
    have c0 := k1 0; have c1 := k1 1; have c2 := k1 2; have c3 := k1 3; have c4 := k1 4
    simp at c0 c1 c2 c3 c4
    clear k1 q1
    go_region_held3 (fun w' => w'.cell? ⟨w.heap.size, 0, none⟩ = some (.int .u32 a0) ∧ w'.cell? ⟨w.heap.size, 1, none⟩ = some (.int .u32 a1) ∧ w'.cell? ⟨w.heap.size, 2, none⟩ = some (.int .u32 a2) ∧ w'.cell? ⟨w.heap.size, 3, none⟩ = some (.int .u32 a3) ∧ w'.cell? ⟨w.heap.size, 4, none⟩ = some (.int .u32 a4))
      (first | go_keep)
      (first | fail)
    go_wp2
    refine bodyPost_ret (v := .tuple #[.agg #[.int .i64 H, .int .u64 (a1 * 4294967296 + a0)], .bool (a4 == 0)]) (by simp (maxDischargeDepth := 9) [results, Try.results33, go_sem, k2]; done) rfl ⟨?_, (by repeat (first | exact HB.out | refine Below.drew ?_ | refine Below.setCell ?_ (by simp; try omega) _ | refine bal ?_ _))⟩
    rw [HV.out.1, HV.out.2, HT.out]
end Go.Proofs.Ytmfilhmcgagjcaa
