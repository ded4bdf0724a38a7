/- The frame's plain laws: what was sealed opens; noughts do not. -/
import Derived.Test.YtddcmockdomonaaPgQ
namespace Go.Proofs.Ytddcmockdomonaa
set_option linter.unusedSimpArgs false
set_option linter.unusedVariables false
open Go.RowKit
theorem evN_append (a : Cn) (x : UInt8) : evN (a ++ [x]) = evN a * 256 + x.toNat := by
  unfold evN; rw [List.foldl_append]; rfl
theorem evN_be (n size : Nat) (hn : n < 2 ^ (8 * size)) : ∀ k, k ≤ size → evN (beN n size k) = n / 2 ^ (8 * (size - k))
  | 0, _ => by
    rw [show size - 0 = size by omega, Nat.div_eq_of_lt hn]; rfl
  | k + 1, h => by
    rw [beN_succ, evN_append, evN_be n size hn k (by omega)]
    have e1 : 2 ^ (8 * (size - k)) = 2 ^ (8 * (size - (k + 1))) * 256 := by
      rw [show 8 * (size - k) = 8 * (size - (k + 1)) + 8 by omega, Nat.pow_add]
    rw [e1, ← Nat.div_div_eq_div_mul, show size - 1 - k = size - (k + 1) by omega]
    have e2 : (UInt8.ofNat (n / 2 ^ (8 * (size - (k + 1))))).toNat = n / 2 ^ (8 * (size - (k + 1))) % 256 := by simp
    rw [e2]
    omega
theorem evN_beN {n size : Nat} (hn : n < 2 ^ (8 * size)) : evN (beN n size size) = n := by
  rw [evN_be n size hn size (Nat.le_refl _)]; simp
section
variable {kind : Nat} {l : Cn} (hl : l.length ≤ 505)
theorem seal_drop4 : (sealC kind l).drop 4 = restC kind l := by
  unfold sealC
  rw [List.drop_append_of_le_length (by rw [beN_len]; omega), List.drop_of_length_le (by rw [beN_len]; omega)]
  rfl
theorem seal_drop5 : (sealC kind l).drop 5 = beN l.length 2 2 ++ l ++ List.replicate (505 - l.length) 0 := by
  rw [show (5 : Nat) = 4 + 1 by rfl, ← List.drop_drop, seal_drop4]
  rfl
theorem seal_drop7 : (sealC kind l).drop 7 = l ++ List.replicate (505 - l.length) 0 := by
  rw [show (7 : Nat) = 5 + 2 by rfl, ← List.drop_drop, seal_drop5, List.append_assoc, List.drop_append_of_le_length (by rw [beN_len]; omega), List.drop_of_length_le (by rw [beN_len]; omega)]
  rfl
theorem seal_opS : opS (sealC kind l) = true := by
  unfold opS
  rw [seal_drop4, List.drop_zero]
  unfold sealC
  rw [List.take_append_of_le_length (by rw [beN_len]; omega), List.take_of_length_le (by rw [beN_len]; omega), evN_beN (by have := sumF_lt (restC kind l); omega)]
  exact BEq.rfl
theorem seal_four : (sealC kind l).getD 4 0 = UInt8.ofNat kind := by
  have h : (sealC kind l)[4]? = ((sealC kind l).drop 4)[0]? := by rw [List.getElem?_drop]
  rw [List.getD_eq_getElem?_getD, h, seal_drop4]
  rfl
theorem seal_opK (hk : 1 ≤ kind ∧ kind ≤ 255) : opK (sealC kind l) = kind := by
  unfold opK
  rw [seal_four]
  simp; omega
include hl
theorem seal_opN : opN (sealC kind l) = l.length := by
  unfold opN
  rw [seal_drop5, List.append_assoc, List.take_append_of_le_length (by rw [beN_len]; omega), List.take_of_length_le (by rw [beN_len]; omega)]
  exact evN_beN (by omega)
theorem seal_opT (hk : 1 ≤ kind ∧ kind ≤ 255) : opT (sealC kind l) = false := by
  unfold opT
  rw [seal_four, seal_opN hl]
  have h1 : (UInt8.ofNat kind == 0) = false := by
    have : UInt8.ofNat kind ≠ 0 := fun e => by
      have := congrArg UInt8.toNat e
      simp at this
      omega
    simpa using this
  have h2 : anyP ((sealC kind l).drop (7 + l.length)) = false := by
    rw [← List.drop_drop, seal_drop7, List.drop_append_of_le_length (Nat.le_refl _), List.drop_of_length_le (Nat.le_refl _)]
    unfold anyP
    rw [List.nil_append, List.any_eq_false]
    intro x hx
    rw [(List.mem_replicate.1 hx).2]
    simp
  rw [h1, h2]
  simp; omega
theorem seal_opD : opD (sealC kind l) = l := by
  unfold opD
  rw [seal_opN hl, seal_drop7, List.take_append_of_le_length (Nat.le_refl _), List.take_of_length_le (Nat.le_refl _)]
end
theorem zero_opT (h : opS zC = true) : opT zC = true := by
  unfold opT
  have : zC.getD 4 0 = 0 := by decide
  rw [this]
  rfl
end Go.Proofs.Ytddcmockdomonaa
