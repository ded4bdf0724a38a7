/- Decimal digits: plain arithmetic. -/
import Derived.Test.YtmfilhmcgagjcaaLib
namespace Go.Proofs.Ytmfilhmcgagjcaa
set_option linter.unusedSimpArgs false
set_option linter.unusedVariables false
def digit (n : Nat) : UInt8 := UInt8.ofNat (48 + n)
theorem digit_nat {n : Nat} (h : n < 10) : (digit n).toNat = 48 + n := by unfold digit; rw [UInt8.toNat_ofNat']; omega
/-- A number's digits, the last one first. -/
def rd (n : Nat) : List UInt8 := if n < 10 then [digit n] else digit (n % 10) :: rd (n / 10)
termination_by n
decreasing_by omega
theorem rd_lo {n : Nat} (h : n < 10) : rd n = [digit n] := by rw [rd, if_pos h]
theorem rd_hi {n : Nat} (h : ¬ n < 10) : rd n = digit (n % 10) :: rd (n / 10) := by rw [rd, if_neg h]
def dec (n : Nat) : List UInt8 := (rd n).reverse
/-- A number's text. -/
def txt (n : Int) : List UInt8 := if n < 0 then 45 :: dec n.natAbs else dec n.natAbs
/-- What comes of l, where v is still to be told. -/
def left (v : Nat) (l : List UInt8) : List UInt8 := if v = 0 ∧ l ≠ [] then l else l ++ rd v
theorem left_end {v : Nat} {l : List UInt8} (h1 : v = 0) (h2 : l ≠ []) : left v l = l := by unfold left; rw [if_pos ⟨h1, h2⟩]
theorem left_first (v : Nat) : left v [] = rd v := by unfold left; rw [if_neg (by simp)]; rfl
theorem left_step {v : Nat} {l : List UInt8} (h : v = 0 → l = []) : left (v / 10) (l ++ [digit (v % 10)]) = left v l := by
  have h0 : left v l = l ++ rd v := by
    unfold left; rw [if_neg (fun ⟨a, b⟩ => b (h a))]
  rw [h0]
  unfold left
  by_cases hv : v < 10
  · rw [if_pos ⟨by omega, by simp⟩, rd_lo hv, Nat.mod_eq_of_lt hv]
  · rw [if_neg (by omega), rd_hi hv, List.append_assoc]; rfl
theorem rd_len (k : Nat) : ∀ n, n < 10 ^ (k + 1) → (rd n).length ≤ k + 1 := by
  induction k with
  | zero => intro n h; rw [rd_lo (by simpa using h)]; simp
  | succ k ih =>
    intro n h
    by_cases hn : n < 10
    · rw [rd_lo hn]; simp
    · rw [rd_hi hn, List.length_cons]
      have := ih (n / 10) (by rw [Nat.pow_succ] at h; omega)
      omega
theorem dec_len {n : Nat} (h : n < 1000000000000000000000000000000000000000) : (dec n).length ≤ 39 := by
  unfold dec; rw [List.length_reverse]; exact rd_len 38 n (by simpa using h)
end Go.Proofs.Ytmfilhmcgagjcaa
