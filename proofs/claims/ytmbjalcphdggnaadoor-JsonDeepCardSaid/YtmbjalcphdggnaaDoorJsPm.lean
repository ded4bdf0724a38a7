/- Brackets within one another: what they are as text and as a value. -/
import Derived.Test.YtmbjalcphdggnaaDoorJsPl
namespace Go.Proofs.YtmbjalcphdggnaaDoor
set_option linter.unusedSimpArgs false
set_option linter.unusedVariables false
open Go.RowKit
def preS (o : Bool) : L8 := if o then [123, 34, 97, 34, 58] else [91]
def repS (s : L8) : Nat → L8
  | 0 => []
  | n + 1 => repS s n ++ s
theorem repS_comm (s : L8) : ∀ n, s ++ repS s n = repS s n ++ s
  | 0 => by simp [repS]
  | n + 1 => by
    unfold repS
    rw [← List.append_assoc, repS_comm s n]
theorem repS_len (s : L8) : ∀ n, (repS s n).length = n * s.length
  | 0 => by simp [repS]
  | n + 1 => by
    unfold repS
    rw [List.length_append, repS_len s n, Nat.succ_mul]
/-- Brackets within one another, m beside the innermost. -/
def nestJ (o : Bool) : Nat → JV
  | 0 => .mk 6 [] [] []
  | m + 1 => if o then .mk 7 [] [[97]] [nestJ o m] else .mk 6 [] [] [nestJ o m]
def nestT (o : Bool) (m : Nat) : L8 := repS (preS o) m ++ ([91, 93] ++ repS [clsO o] m)
theorem prJ_nest (o : Bool) : ∀ m, prJ (nestJ o m) = nestT o m
  | 0 => by simp [nestJ, nestT, repS, prJ, itT, prL]
  | m + 1 => by
    have ih := prJ_nest o m
    have e : nestT o (m + 1) = preS o ++ (nestT o m ++ [clsO o]) := by
      unfold nestT
      show repS (preS o) m ++ preS o ++ ([91, 93] ++ (repS [clsO o] m ++ [clsO o])) = _
      rw [← repS_comm (preS o) m]
      simp only [List.append_assoc]
    rw [e, ← ih]
    cases o
    · simp [nestJ, prJ, prL, itT, preS, clsO]
    · have q : quoteL [97] = [34, 97, 34] := by decide +kernel
      simp [nestJ, prJ, prL, itT, preS, clsO, q]
theorem dpJ_nest (o : Bool) : ∀ m left, dpJ left (nestJ o m) = decide (m < left)
  | 0, left => by simp [nestJ, dpJ, dpL]
  | m + 1, left => by
    have q : Lib.validD [97] = true := by decide +kernel
    have ih := dpJ_nest o m (left - 1)
    cases o
    · rw [Bool.eq_iff_iff]
      simp [nestJ, dpJ, dpL, ih]
      omega
    · rw [Bool.eq_iff_iff]
      simp [nestJ, dpJ, dpL, ih, q]
      omega
theorem smJ_nest (o : Bool) : ∀ m, smJ (nestJ o m)
  | 0 => by unfold nestJ smJ smL; simp
  | m + 1 => by
    have ih := smJ_nest o m
    cases o
    · unfold nestJ
      simp [smJ, smL, ih]
    · unfold nestJ
      simp [smJ, smL, ih]
      decide
theorem bdJ_nest (o : Bool) : ∀ m, bdJ (nestJ o m)
  | 0 => by unfold nestJ bdJ bdL; simp
  | m + 1 => by
    have ih := bdJ_nest o m
    cases o
    · unfold nestJ
      simp [bdJ, bdL, ih]
    · unfold nestJ
      simp [bdJ, bdL, ih]
theorem nestT_len (o : Bool) (m : Nat) : (nestT o m).length = m * (preS o).length + 2 + m := by
  unfold nestT
  rw [List.length_append, List.length_append, repS_len, repS_len]
  simp
  omega
theorem prE_nest (o : Bool) (m : Nat) (hm : m < 1000) : prE (nestJ o m) = if m < 32 then 0 else 2 := by
  unfold prE
  rw [dpJ_nest, prJ_nest, nestT_len]
  have : (preS o).length ≤ 5 := by cases o <;> decide
  have h2 : m * (preS o).length ≤ m * 5 := Nat.mul_le_mul_left m this
  by_cases h : m < 32
  · rw [if_pos (by simpa using h), if_pos (by omega), if_pos h]
  · rw [if_neg (by simpa using h), if_neg h]
theorem parse_nest {o : Bool} {m : Nat} (hm : m < 32) : parseS (nestT o m) = .ok (nestJ o m) := by
  rw [← prJ_nest]
  refine parse_pr (by rw [dpJ_nest]; simpa using hm) ?_
  rw [prJ_nest, nestT_len]
  have : (preS o).length ≤ 5 := by cases o <;> decide
  have h2 : m * (preS o).length ≤ m * 5 := Nat.mul_le_mul_left m this
  omega
def isBad (g : Got JV) (n e : Nat) : Bool := match g with
  | .bad p e' => decide (p.length = n) && decide (e' = e)
  | .ok _ => false
def chk (o : Bool) (m : Nat) : Bool := isBad (parseS (nestT o m)) ((nestT o m).length - 32 * (preS o).length) 12
set_option maxRecDepth 100000 in
theorem chk_all : ∀ (o : Bool) (m : Fin 70), 32 ≤ m.val → chk o m.val = true := by decide +kernel
theorem parse_deep {o : Bool} {m : Nat} (h : 32 ≤ m) (h2 : m < 70) : ∃ p, parseS (nestT o m) = .bad p 12 ∧ p.length = (nestT o m).length - 32 * (preS o).length := by
  have := chk_all o ⟨m, h2⟩ h
  unfold chk isBad at this
  split at this
  · next p e' hp =>
    simp only [Bool.and_eq_true, decide_eq_true_eq] at this
    exact ⟨p, by rw [hp, this.2], this.1⟩
  · cases this
end Go.Proofs.YtmbjalcphdggnaaDoor
