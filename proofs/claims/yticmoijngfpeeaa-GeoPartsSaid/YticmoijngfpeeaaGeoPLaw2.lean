/- Points: the parts of a stretch and what they meet. -/
import Derived.Test.YticmoijngfpeeaaGeoPLaw
namespace Go.Proofs.Yticmoijngfpeeaa
set_option linter.unusedSimpArgs false
set_option linter.unusedVariables false
theorem neg_of {u x : Int} (hu : 0 ≤ u) (h : u * x < 0) : x < 0 := by
  rcases Int.lt_or_le x 0 with k | k
  · exact k
  · have := Int.mul_nonneg hu k; omega
theorem pos_of {u x : Int} (hu : 0 ≤ u) (h : 0 < u * x) : 0 < x := by
  rcases Int.lt_or_le 0 x with k | k
  · exact k
  · have := Int.mul_nonneg hu (show 0 ≤ -x by omega); rw [Int.mul_neg] at this; omega
theorem mul_np {u x : Int} (hu : 0 ≤ u) (h : x ≤ 0) : u * x ≤ 0 := by
  have := Int.mul_nonneg hu (show 0 ≤ -x by omega); rw [Int.mul_neg] at this; omega
theorem crossP_flip (a b c d : Pt) : crossP b a c d = crossP a b c d := by
  rw [Bool.eq_iff_iff, cross_iff, cross_iff, cross_swap a b, cross_swap a b]; omega
/-- A part that crosses: the whole crosses. -/
theorem part_cross {a b c d p : Pt} (h : ronV a b p = true) (k : crossP a p c d = true) : crossP a b c d = true := by
  obtain ⟨L, t, hP⟩ := on_par h
  rw [cross_iff] at k ⊢
  have gc := par_one hP c
  have gd := par_one hP d
  have f := par_cross hP c d
  obtain ⟨h1, h2, h3, _, _⟩ := hP
  have pn : ∀ {x : Int}, x < 0 → L * x < 0 := fun hx => Int.mul_neg_of_pos_of_neg h1 hx
  have pp : ∀ {x : Int}, 0 < x → 0 < L * x := fun hx => Int.mul_pos h1 hx
  obtain ⟨k1, k2⟩ := k
  refine ⟨?_, ?_⟩
  · rcases k1 with ⟨k1, k3⟩ | ⟨k1, k3⟩
    · exact .inl ⟨neg_of h2 (by have := pn k1; omega), pos_of h2 (by have := pp k3; omega)⟩
    · exact .inr ⟨pos_of h2 (by have := pp k1; omega), neg_of h2 (by have := pn k3; omega)⟩
  · rcases k2 with ⟨k1, k3⟩ | ⟨k1, k3⟩
    · have := mul_np (show 0 ≤ L - t by omega) (Int.le_of_lt k1)
      exact .inl ⟨k1, pos_of h2 (by have := pp k3; omega)⟩
    · have := Int.mul_nonneg (show 0 ≤ L - t by omega) (Int.le_of_lt k1)
      exact .inr ⟨k1, neg_of h2 (by have := pn k3; omega)⟩
/-- The whole crosses, and the point is beyond: the part crosses. -/
theorem cross_part {a b c d p : Pt} (h : ronV a b p = true) (k : crossP a b c d = true) (hs : (crossV c d a < 0 ∧ 0 < crossV c d p) ∨ (0 < crossV c d a ∧ crossV c d p < 0)) : crossP a p c d = true := by
  obtain ⟨L, t, hP⟩ := on_par h
  rw [cross_iff] at k ⊢
  have gc := par_one hP c
  have gd := par_one hP d
  have f := par_cross hP c d
  obtain ⟨h1, h2, h3, _, _⟩ := hP
  have pn : ∀ {x : Int}, x < 0 → L * x < 0 := fun hx => Int.mul_neg_of_pos_of_neg h1 hx
  have pp : ∀ {x : Int}, 0 < x → 0 < L * x := fun hx => Int.mul_pos h1 hx
  obtain ⟨k1, k2⟩ := k
  refine ⟨?_, hs⟩
  have ht : 0 < t := by
    rcases Int.lt_or_le 0 t with ht | ht
    · exact ht
    · have : t = 0 := by omega
      subst this
      rw [Int.zero_mul, Int.add_zero, Int.sub_zero] at f
      have e : crossV c d p = crossV c d a := Int.eq_of_mul_eq_mul_left (by omega) f
      omega
  have hL : (0 : Int) ≤ L := by omega
  rcases k1 with ⟨k1, k3⟩ | ⟨k1, k3⟩
  · have a1 := Int.mul_neg_of_pos_of_neg ht k1
    have a2 := Int.mul_pos ht k3
    exact .inl ⟨neg_of hL (by omega), pos_of hL (by omega)⟩
  · have a1 := Int.mul_pos ht k1
    have a2 := Int.mul_neg_of_pos_of_neg ht k3
    exact .inr ⟨pos_of hL (by omega), neg_of hL (by omega)⟩
/-- The whole crosses at the very point. -/
theorem cross_at {a b c d p : Pt} (h : ronV a b p = true) (k : crossP a b c d = true) (hz : crossV c d p = 0) : ronV c d p = true := by
  obtain ⟨L, t, hP⟩ := on_par h
  have f := par_cross hP c d
  have hx := cross_x a b c d
  have hy := cross_y a b c d
  have hs := cross_s a b c d
  rw [cross_iff] at k
  obtain ⟨h1, h2, h3, e1, e2⟩ := hP
  rw [hz, Int.mul_zero] at f
  generalize crossV c d a = α at *
  generalize crossV c d b = β at *
  generalize crossV a b c = γ at *
  generalize crossV a b d = δ at *
  have p1 : (α - β) * p.x = α * b.x - β * a.x := by
    refine Int.eq_of_mul_eq_mul_left (a := L) (by omega) ?_
    grind
  have p2 : (α - β) * p.y = α * b.y - β * a.y := by
    refine Int.eq_of_mul_eq_mul_left (a := L) (by omega) ?_
    grind
  obtain ⟨k1, k2⟩ := k
  rcases k1 with ⟨k1, k3⟩ | ⟨k1, k3⟩
  · exact par_on (L := δ - γ) (t := -γ) ⟨by omega, by omega, by omega, by grind, by grind⟩
  · exact par_on (L := γ - δ) (t := γ) ⟨by omega, by omega, by omega, by grind, by grind⟩
theorem part_meets {a b c d p : Pt} (ha : a.good) (hb : b.good) (hc : c.good) (hd : d.good) (hp : p.good) (h : ronV a b p = true) (k : 0 < rmeetV a p c d) : 0 < rmeetV a b c d := by
  rcases (rmeet_pos _ _ _ _).1 k with (k | k | k | k) | k
  · exact (rmeet_pos _ _ _ _).2 (.inl (.inl k))
  · exact meets_of ha hb hc hd hp h k
  · exact (rmeet_pos _ _ _ _).2 (.inl (.inr (.inr (.inl (on_trans h k)))))
  · exact (rmeet_pos _ _ _ _).2 (.inl (.inr (.inr (.inr (on_trans h k)))))
  · exact (rmeet_pos _ _ _ _).2 (.inr (part_cross h k))
theorem parts_meet {a b c d p : Pt} (ha : a.good) (hb : b.good) (hc : c.good) (hd : d.good) (hp : p.good) (h : ronV a b p = true) : 0 < rmeetV a b c d ↔ 0 < rmeetV a p c d ∨ 0 < rmeetV p b c d := by
  have h' : ronV b a p = true := by rw [ron_swap]; exact h
  constructor
  · intro k
    rcases (rmeet_pos _ _ _ _).1 k with (k | k | k | k) | k
    · exact .inl ((rmeet_pos _ _ _ _).2 (.inl (.inl k)))
    · exact .inr ((rmeet_pos _ _ _ _).2 (.inl (.inr (.inl k))))
    · rcases on_split h k with k | k
      · exact .inl ((rmeet_pos _ _ _ _).2 (.inl (.inr (.inr (.inl k)))))
      · exact .inr ((rmeet_pos _ _ _ _).2 (.inl (.inr (.inr (.inl k)))))
    · rcases on_split h k with k | k
      · exact .inl ((rmeet_pos _ _ _ _).2 (.inl (.inr (.inr (.inr k)))))
      · exact .inr ((rmeet_pos _ _ _ _).2 (.inl (.inr (.inr (.inr k)))))
    · have ks := ((cross_iff _ _ _ _).1 k).2
      by_cases hz : crossV c d p = 0
      · exact .inl ((rmeet_pos _ _ _ _).2 (.inl (.inr (.inl (cross_at h k hz)))))
      · by_cases hs : (crossV c d a < 0 ∧ 0 < crossV c d p) ∨ (0 < crossV c d a ∧ crossV c d p < 0)
        · exact .inl ((rmeet_pos _ _ _ _).2 (.inr (cross_part h k hs)))
        · right
          rw [← rmeet_flip]
          exact (rmeet_pos _ _ _ _).2 (.inr (cross_part h' (by rw [crossP_flip]; exact k) (by omega)))
  · rintro (k | k)
    · exact part_meets ha hb hc hd hp h k
    · rw [← rmeet_flip]; rw [← rmeet_flip] at k
      exact part_meets hb ha hc hd hp h' k
theorem part_three {a b c d p : Pt} (ha : a.good) (hb : b.good) (hc : c.good) (hd : d.good) (hp : p.good) (h : ronV a b p = true) (k : rmeetV a p c d = 3) : rmeetV a b c d = 3 := by
  obtain ⟨x, hx, y, hy, hn⟩ := rmeet_is3 k
  obtain ⟨x1, x2, x3⟩ := ends_common hx
  obtain ⟨y1, y2, y3⟩ := ends_common hy
  have gx : x.good := by rcases x3 with rfl | rfl | rfl | rfl <;> assumption
  have gy : y.good := by rcases y3 with rfl | rfl | rfl | rfl <;> assumption
  have x1 := on_trans h x1
  have y1 := on_trans h y1
  have l1 := one_line ((ron_iff _ _ _).1 x1) ((ron_iff _ _ _).1 y1) hn
  have l2 := one_line ((ron_iff _ _ _).1 x2) ((ron_iff _ _ _).1 y2) hn
  exact (line_common ha hb hc hd (three_on hn l1.1 l1.2 l2.1) (three_on hn l1.1 l1.2 l2.2) (three_on hn l2.1 l2.2 l1.1) (three_on hn l2.1 l2.2 l1.2) gx gy x1 x2 y1 y2).2 hn
theorem parts_three {a b c d p : Pt} (ha : a.good) (hb : b.good) (hc : c.good) (hd : d.good) (hp : p.good) (h : ronV a b p = true) (k : rmeetV p b c d = 3) : rmeetV a b c d = 3 := by
  rw [← rmeet_flip]; rw [← rmeet_flip] at k
  exact part_three hb ha hc hd hp (by rw [ron_swap]; exact h) k
theorem parts_both {a b p : Pt} (h : ronV a b p = true) : rmeetV a p p b = 1 := by
  obtain ⟨_, b1, b2⟩ := (ron_iff _ _ _).1 h
  have all : ∀ x, x ∈ endsL a p p b → x = p := by
    intro x hx
    rcases mem_ends.1 hx with ⟨rfl, k⟩ | ⟨rfl, k⟩ | ⟨rfl, k⟩ | ⟨rfl, k⟩
    · obtain ⟨_, k1, k2⟩ := (ron_iff _ _ _).1 k; exact Pt.ext_ (by omega) (by omega)
    · rfl
    · rfl
    · obtain ⟨_, k1, k2⟩ := (ron_iff _ _ _).1 k; exact Pt.ext_ (by omega) (by omega)
  exact rmeet_1 ⟨p, mem_ends.2 (.inr (.inl ⟨rfl, ron_left _ _⟩))⟩ fun x hx y hy => (all x hx).trans (all y hy).symm
theorem rmeet_range (a b c d : Pt) : 0 ≤ rmeetV a b c d ∧ rmeetV a b c d ≤ 3 := by
  unfold rmeetV; repeat' split
  all_goals omega
end Go.Proofs.Yticmoijngfpeeaa
