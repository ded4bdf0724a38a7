/- math/bits.Div64 at a divisor of 10. -/
import Derived.Test.YtmfilhmcgagjcaaRegion
import Derived.Test.YtmfilhmcgagjcaaShelf
import Derived.IntWalk
import Derived.Outline
import Derived.Laws.Bits64b
namespace Go.Proofs.Ytmfilhmcgagjcaa
set_option linter.unusedSimpArgs false
set_option linter.unusedVariables false
open Go.RowKit Go.Shelf
theorem lz10 : (64 : Int) - (Lib.bitLen (10 : Int).toNat : Int) = 60 := by decide +kernel
theorem and10 : bits BinOp.and IntKind.u64 11529215046068469760 4294967295 = 0 := by decide +kernel
theorem or60 {a b : Int} (a0 : 0 ≤ a) (a1 : a < 16) (b0 : 0 ≤ b) (b1 : b < 1152921504606846976) : bits BinOp.or IntKind.u64 (a * 1152921504606846976) b = a * 1152921504606846976 + b := by
  obtain ⟨m, rfl⟩ := Int.eq_ofNat_of_zero_le a0
  obtain ⟨n, rfl⟩ := Int.eq_ofNat_of_zero_le b0
  have hm : m < 16 := by omega
  have hn : n < 1152921504606846976 := by omega
  have h := Nat.two_pow_add_eq_or_of_lt (i := 60) (show n < 2 ^ 60 by omega) m
  rw [show 2 ^ 60 * m = m * 1152921504606846976 by rw [Nat.mul_comm]] at h
  rw [show (m : Int) * 1152921504606846976 = ((m * 1152921504606846976 : Nat) : Int) by omega, bits_or_u64_nat _ _ (by omega) (by omega), ← h]
  omega
theorem and60 {k : Int} (h0 : 0 ≤ k) (h1 : k < 16) : bits BinOp.and IntKind.u64 (k * 1152921504606846976) 4294967295 = 0 := by
  obtain ⟨n, rfl⟩ := Int.eq_ofNat_of_zero_le h0
  have hn : n < 16 := by omega
  match n, hn with
  | 0, _ => decide +kernel
  | 1, _ => decide +kernel
  | 2, _ => decide +kernel
  | 3, _ => decide +kernel
  | 4, _ => decide +kernel
  | 5, _ => decide +kernel
  | 6, _ => decide +kernel
  | 7, _ => decide +kernel
  | 8, _ => decide +kernel
  | 9, _ => decide +kernel
  | 10, _ => decide +kernel
  | 11, _ => decide +kernel
  | 12, _ => decide +kernel
  | 13, _ => decide +kernel
  | 14, _ => decide +kernel
  | 15, _ => decide +kernel
theorem below_drewN {B : Nat} {a w : World} (h : Below B a w) (n : Nat) : Below B a (w.drewN n) := h.trans ⟨rfl, rfl, rfl, Nat.le_refl _, fun _ _ => rfl⟩
theorem ret_u2 {a b c d : Int} (h1 : c = a) (h2 : d = b) : Ending.returned (Value.tuple #[Value.int IntKind.u64 c, Value.int IntKind.u64 d]) = Ending.returned (Value.tuple #[Value.int IntKind.u64 a, Value.int IntKind.u64 b]) := by rw [h1, h2]
theorem shl60 {lo : Int} (h0 : 0 ≤ lo) : IntKind.u64.wrap (lo * 1152921504606846976) = (lo % 16) * 1152921504606846976 := by
  rw [IntKind.wrap_u64]; omega
set_option maxHeartbeats 1000000 in
set_option maxRecDepth 100000 in
theorem div_lead (r lo : Int) (w : World) (hr0 : 1 ≤ r) (hr : r < 10) (hl0 : 0 ≤ lo) (hl : lo < 18446744073709551616) :
    Calls Try.prog 36 #[.int .u64 r, .int .u64 lo, .int .u64 10] w fun e w' => e = .returned (.tuple #[.int .u64 ((r * 18446744073709551616 + lo) / 10), .int .u64 ((r * 18446744073709551616 + lo) % 10)]) ∧ w = w' := by
  have hd1 : decide ((10 : Int) ≤ r) = false := by simp; omega
  have hd2 : (r == 0) = false := by simp; omega
  have c10 := and10
  have cor := or60 (a := r) (b := lo / 16) (by omega) (by omega) (by omega) (by omega)
  obtain ⟨U, hU⟩ : ∃ U, r * 1152921504606846976 + lo / 16 = U := ⟨_, rfl⟩
  have HU := hide hU
  rw [hU] at cor
  have u0 : 0 ≤ U := by omega
  have u1 : U < 11529215046068469760 := by omega
  have hL := shl60 hl0
  obtain ⟨k, hk⟩ : ∃ k, lo % 16 = k := ⟨_, rfl⟩
  have HK := hide hk
  rw [hk] at hL
  have k0 : 0 ≤ k := by omega
  have k1 : k < 16 := by omega
  have cand := and60 k0 k1
  obtain ⟨L, hL2⟩ : ∃ L, k * 1152921504606846976 = L := ⟨_, rfl⟩
  have HL := hide hL2
  rw [hL2] at cand hL
  obtain ⟨M, hM⟩ : ∃ M, L / 4294967296 = M := ⟨_, rfl⟩
  have HM := hide hM
  have M0 : 0 ≤ M := by omega
  have M1 : M < 4294967296 := by omega
  obtain ⟨q, hq⟩ : ∃ q, U / 2684354560 = q := ⟨_, rfl⟩
  have HQ := hide hq
  have q0 : 0 ≤ q := by omega
  have q1 : q < 4294967296 := by omega
  obtain ⟨R, hR⟩ : ∃ R, U - q * 2684354560 = R := ⟨_, rfl⟩
  have HR := hide hR
  have R0 : 0 ≤ R := by omega
  have R1 : R < 2684354560 := by omega
  have hd3 : decide ((4294967296 : Int) ≤ q) = false := by simp; omega
  have hd4 : decide (4294967296 * R + M < 0) = false := by simp; omega
  obtain ⟨V, hV⟩ : ∃ V, IntKind.u64.wrap (IntKind.u64.wrap (IntKind.u64.wrap (U * 4294967296) + M) - IntKind.u64.wrap (q * 11529215046068469760)) = V := ⟨_, rfl⟩
  have HV := hide (show V = R * 4294967296 + M by rw [← hV]; simp only [IntKind.wrap_u64]; omega)
  have V0 : 0 ≤ V := by have := HV.out; omega
  have V1 : V < 11529215046068469760 := by have := HV.out; omega
  obtain ⟨p, hp⟩ : ∃ p, V / 2684354560 = p := ⟨_, rfl⟩
  have HP := hide hp
  have p0 : 0 ≤ p := by omega
  have p1 : p < 4294967296 := by omega
  obtain ⟨S, hS⟩ : ∃ S, V - p * 2684354560 = S := ⟨_, rfl⟩
  have HS := hide hS
  have S0 : 0 ≤ S := by omega
  have S1 : S < 2684354560 := by omega
  obtain ⟨T, hT⟩ : ∃ T, IntKind.u64.wrap (IntKind.u64.wrap (IntKind.u64.wrap (V * 4294967296)) - IntKind.u64.wrap (p * 11529215046068469760)) = T := ⟨_, rfl⟩
  have HT := hide (show T = S * 4294967296 by rw [← hT]; simp only [IntKind.wrap_u64]; omega)
  have hd5 : decide ((4294967296 : Int) ≤ p) = false := by simp; omega
  have hd6 : decide (4294967296 * S < 0) = false := by simp; omega
  clear hU hk hL2
  go_enter Try.func36, Try.ntmps36
  go_wp2_with fail
  refine (Try.bits_LeadingZeros64 10 _ (by decide) (by decide)).mono ?_
  rintro e w1 ⟨rfl, rfl⟩
  rw [lz10]
  go_wp2_with fail
  refine wp_loop_rounds 1 ?_
  rw [rounds_succ]
  go_wp2_with fail
  refine wp_loop_rounds 1 ?_
  rw [rounds_succ]
  go_wp2_with fail
  refine bodyPost_ret (v := .tuple #[.int .u64 (q * 4294967296 + p), .int .u64 (T / 1152921504606846976)]) (by simp [results, Try.results36, go_sem]; done) rfl ⟨ret_u2 ?_ ?_, rfl⟩
  · have := HU.out; have := HK.out; have := HL.out; have := HM.out; have := HQ.out; have := HR.out; have := HV.out; have := HP.out; have := HS.out
    clear hd1 hd2 hd3 hd4 hd5 hd6
    omega
  · have := HU.out; have := HK.out; have := HL.out; have := HM.out; have := HQ.out; have := HR.out; have := HV.out; have := HP.out; have := HS.out; have := HT.out
    clear hd1 hd2 hd3 hd4 hd5 hd6
    omega
set_option maxHeartbeats 1000000 in
set_option maxRecDepth 100000 in
theorem div_low (lo : Int) (w : World) (hl0 : 0 ≤ lo) (hl : lo < 18446744073709551616) :
    Calls Try.prog 36 #[.int .u64 0, .int .u64 lo, .int .u64 10] w fun e w' => e = .returned (.tuple #[.int .u64 (lo / 10), .int .u64 (lo % 10)]) ∧ Below w.heap.size w w' := by
  go_enter Try.func36, Try.ntmps36
  go_wp2_with fail
  go_quiet (fail)
  go_wp2_with fail
  refine bodyPost_ret (v := .tuple #[.int .u64 (lo / 10), .int .u64 (lo % 10)]) (by simp [results, Try.results36, go_sem]; done) rfl ⟨rfl, below_drewN (Below.refl _ _) _⟩
theorem div10 (r lo : Int) (w : World) (hr0 : 0 ≤ r) (hr : r < 10) (hl0 : 0 ≤ lo) (hl : lo < 18446744073709551616) :
    Calls Try.prog 36 #[.int .u64 r, .int .u64 lo, .int .u64 10] w fun e w' => e = .returned (.tuple #[.int .u64 ((r * 18446744073709551616 + lo) / 10), .int .u64 ((r * 18446744073709551616 + lo) % 10)]) ∧ Below w.heap.size w w' := by
  rcases Int.lt_or_le 0 r with h | h
  · refine (div_lead r lo w (by omega) hr hl0 hl).mono ?_
    rintro e w' ⟨he, rfl⟩
    exact ⟨he, Below.refl _ _⟩
  · obtain rfl : r = 0 := by omega
    refine (div_low lo w hl0 hl).mono ?_
    rintro e w' ⟨he, hb⟩
    exact ⟨by rw [he]; simp, hb⟩
end Go.Proofs.Ytmfilhmcgagjcaa
