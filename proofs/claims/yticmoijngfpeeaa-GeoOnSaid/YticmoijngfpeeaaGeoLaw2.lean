/- Points: the program's Meet is the document's. -/
import Derived.Test.YticmoijngfpeeaaGeoLaw
namespace Go.Proofs.Yticmoijngfpeeaa
set_option linter.unusedSimpArgs false
set_option linter.unusedVariables false
def endsL (a b c d : Pt) : List Pt := (if ronV c d a then [a] else []) ++ ((if ronV c d b then [b] else []) ++ ((if ronV a b c then [c] else []) ++ (if ronV a b d then [d] else [])))
def manyV (l : List Pt) : Bool := l.any fun x => l.any fun y => decide (x ≠ y)
def crossP (a b c d : Pt) : Bool := decide (turnV a b c * turnV a b d < 0) && decide (turnV c d a * turnV c d b < 0)
def rmeetV (a b c d : Pt) : Int := if manyV (endsL a b c d) then 3 else if (endsL a b c d).isEmpty = false then 1 else if crossP a b c d then 2 else 0
theorem mem_ends {a b c d x : Pt} : x ∈ endsL a b c d ↔ (x = a ∧ ronV c d a = true) ∨ (x = b ∧ ronV c d b = true) ∨ (x = c ∧ ronV a b c = true) ∨ (x = d ∧ ronV a b d = true) := by
  unfold endsL
  cases ronV c d a <;> cases ronV c d b <;> cases ronV a b c <;> cases ronV a b d <;> simp
theorem many_iff (l : List Pt) : manyV l = true ↔ ∃ x ∈ l, ∃ y ∈ l, x ≠ y := by
  unfold manyV; simp
theorem empty_iff (l : List Pt) : l.isEmpty = false ↔ ∃ x, x ∈ l := by
  cases l <;> simp
theorem rmeet_3 {a b c d : Pt} (h : ∃ x ∈ endsL a b c d, ∃ y ∈ endsL a b c d, x ≠ y) : rmeetV a b c d = 3 := by
  unfold rmeetV; rw [if_pos ((many_iff _).2 h)]
theorem rmeet_1 {a b c d : Pt} (h : ∃ x, x ∈ endsL a b c d) (k : ∀ x ∈ endsL a b c d, ∀ y ∈ endsL a b c d, x = y) : rmeetV a b c d = 1 := by
  unfold rmeetV; rw [if_neg (fun e => by obtain ⟨x, hx, y, hy, hn⟩ := (many_iff _).1 e; exact hn (k x hx y hy)), if_pos ((empty_iff _).2 h)]
theorem rmeet_no {a b c d : Pt} (h : ∀ x, x ∉ endsL a b c d) : rmeetV a b c d = if crossP a b c d then 2 else 0 := by
  unfold rmeetV; rw [if_neg (fun e => by obtain ⟨x, hx, _⟩ := (many_iff _).1 e; exact h x hx), if_neg (fun e => by obtain ⟨x, hx⟩ := (empty_iff _).1 e; exact h x hx)]
theorem no_ends {a b c d : Pt} (h1 : ronV c d a = false) (h2 : ronV c d b = false) (h3 : ronV a b c = false) (h4 : ronV a b d = false) : ∀ x, x ∉ endsL a b c d := by
  intro x hx; rw [mem_ends, h1, h2, h3, h4] at hx; simp at hx
theorem prod_neg (a b c d e f : Pt) : turnV a b c * turnV d e f < 0 ↔ (crossV a b c < 0 ∧ 0 < crossV d e f) ∨ (0 < crossV a b c ∧ crossV d e f < 0) := by
  rcases turn_cases a b c with ⟨h1, h2⟩ | ⟨h1, h2⟩ | ⟨h1, h2⟩ <;> rcases turn_cases d e f with ⟨h3, h4⟩ | ⟨h3, h4⟩ | ⟨h3, h4⟩ <;> rw [h1, h3] <;> omega
theorem cross_iff (a b c d : Pt) : crossP a b c d = true ↔ ((crossV a b c < 0 ∧ 0 < crossV a b d) ∨ (0 < crossV a b c ∧ crossV a b d < 0)) ∧ ((crossV c d a < 0 ∧ 0 < crossV c d b) ∨ (0 < crossV c d a ∧ crossV c d b < 0)) := by
  unfold crossP; rw [Bool.and_eq_true, decide_eq_true_iff, decide_eq_true_iff, prod_neg, prod_neg]
/-! Stretches whose boxes are apart -/
theorem apart_le {m n α β γ δ ax bx cx dx : Int} (h : α * bx - β * ax = δ * cx - γ * dx) (hs : α - β = δ - γ) (hα : 0 < α) (hβ : β < 0) (hδ : 0 < δ) (hγ : γ < 0) (h1 : ax ≤ m) (h2 : bx ≤ m) (h3 : n ≤ cx) (h4 : n ≤ dx) : n ≤ m := by
  rcases Int.lt_or_le m n with hlt | hle
  · have a1 := Int.mul_le_mul_of_nonneg_left h2 (Int.le_of_lt hα)
    have a2 := Int.mul_le_mul_of_nonneg_left h1 (show 0 ≤ -β by omega)
    have a3 := Int.mul_le_mul_of_nonneg_left h3 (Int.le_of_lt hδ)
    have a4 := Int.mul_le_mul_of_nonneg_left h4 (show 0 ≤ -γ by omega)
    rw [Int.neg_mul, Int.neg_mul] at a2 a4
    have a5 : (α - β) * n ≤ (α - β) * m := by
      have e1 : (α - β) * n = δ * n - γ * n := by rw [hs, Int.sub_mul]
      have e2 : (α - β) * m = α * m - β * m := by rw [Int.sub_mul]
      omega
    have := Int.le_of_mul_le_mul_left a5 (by omega)
    exact this
  · exact hle
theorem cross_x (a b c d : Pt) : crossV c d a * b.x - crossV c d b * a.x = crossV a b d * c.x - crossV a b c * d.x := by unfold crossV; grind
theorem cross_y (a b c d : Pt) : crossV c d a * b.y - crossV c d b * a.y = crossV a b d * c.y - crossV a b c * d.y := by unfold crossV; grind
theorem cross_s (a b c d : Pt) : crossV c d a - crossV c d b = crossV a b d - crossV a b c := by unfold crossV; grind
/-- Two that cross have boxes that meet: one coordinate, told as linear. -/
theorem cross_meets {a b c d : Pt} (h : crossP a b c d = true) : ∃ α β γ δ : Int, 0 < α ∧ β < 0 ∧ 0 < δ ∧ γ < 0 ∧ α - β = δ - γ ∧ α * b.x - β * a.x = δ * c.x - γ * d.x ∧ α * b.y - β * a.y = δ * c.y - γ * d.y := by
  rw [cross_iff] at h
  have hs := cross_s a b c d
  have hx := cross_x a b c d
  have hy := cross_y a b c d
  rcases h with ⟨h1 | h1, h2 | h2⟩
  · omega
  · exact ⟨crossV c d a, crossV c d b, crossV a b c, crossV a b d, by omega, by omega, by omega, by omega, by omega, hx, hy⟩
  · refine ⟨-crossV c d a, -crossV c d b, -crossV a b c, -crossV a b d, by omega, by omega, by omega, by omega, by omega, ?_, ?_⟩
    · simp only [Int.neg_mul]; omega
    · simp only [Int.neg_mul]; omega
  · omega
end Go.Proofs.Yticmoijngfpeeaa
