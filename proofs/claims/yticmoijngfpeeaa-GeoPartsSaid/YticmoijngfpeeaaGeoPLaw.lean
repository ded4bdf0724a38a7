/- Points: a point of a stretch cuts it into two: plain geometry. -/
import Derived.Test.YticmoijngfpeeaaGeoRound
namespace Go.Proofs.Yticmoijngfpeeaa
set_option linter.unusedSimpArgs false
set_option linter.unusedVariables false
def Par (a b p : Pt) (L t : Int) : Prop := 0 < L ∧ 0 ≤ t ∧ t ≤ L ∧ L * (p.x - a.x) = t * (b.x - a.x) ∧ L * (p.y - a.y) = t * (b.y - a.y)
theorem on_par {a b p : Pt} (h : ronV a b p = true) : ∃ L t, Par a b p L t := by
  obtain ⟨hc, h1, h2⟩ := (ron_iff a b p).1 h
  unfold crossV at hc
  rcases Int.lt_trichotomy a.x b.x with hx | hx | hx
  · exact ⟨b.x - a.x, p.x - a.x, by omega, by omega, by omega, Int.mul_comm _ _, by grind⟩
  · rcases Int.lt_trichotomy a.y b.y with hy | hy | hy
    · exact ⟨b.y - a.y, p.y - a.y, by omega, by omega, by omega, by grind, Int.mul_comm _ _⟩
    · exact ⟨1, 0, by omega, by omega, by omega, by omega, by omega⟩
    · exact ⟨a.y - b.y, a.y - p.y, by omega, by omega, by omega, by grind, by grind⟩
  · exact ⟨a.x - b.x, a.x - p.x, by omega, by omega, by omega, by grind, by grind⟩
theorem par_on {a b p : Pt} {L t : Int} (h : Par a b p L t) : ronV a b p = true := by
  obtain ⟨h1, h2, h3, h4, h5⟩ := h
  rw [ron_iff]
  refine ⟨?_, ?_⟩
  · refine mul_zero_of (L := L) ?_ (by omega)
    unfold crossV; grind
  · have b1 := box_mid_one (L := L) (D := b.x - a.x) (t := t) (u := p.x - a.x) (by rw [h4, Int.mul_comm]) h1 h2 h3
    have b2 := box_mid_one (L := L) (D := b.y - a.y) (t := t) (u := p.y - a.y) (by rw [h5, Int.mul_comm]) h1 h2 h3
    unfold box; omega
theorem par_swap {a b p : Pt} {L t : Int} (h : Par a b p L t) : Par b a p L (L - t) := by
  obtain ⟨h1, h2, h3, h4, h5⟩ := h
  exact ⟨h1, by omega, by omega, by grind, by grind⟩
theorem par_trans {a b p x : Pt} {L t M s : Int} (h : Par a b p L t) (k : Par a p x M s) : Par a b x (M * L) (s * t) := by
  obtain ⟨h1, h2, h3, h4, h5⟩ := h
  obtain ⟨k1, k2, k3, k4, k5⟩ := k
  refine ⟨Int.mul_pos k1 h1, Int.mul_nonneg k2 h2, ?_, by grind, by grind⟩
  exact Int.le_trans (Int.mul_le_mul_of_nonneg_right k3 h2) (Int.mul_le_mul_of_nonneg_left h3 (Int.le_of_lt k1))
theorem on_trans {a b p x : Pt} (h : ronV a b p = true) (k : ronV a p x = true) : ronV a b x = true := by
  obtain ⟨L, t, h⟩ := on_par h
  obtain ⟨M, s, k⟩ := on_par k
  exact par_on (par_trans h k)
theorem on_trans2 {a b p x : Pt} (h : ronV a b p = true) (k : ronV p b x = true) : ronV a b x = true := by
  rw [← ron_swap]; rw [← ron_swap] at h k; exact on_trans h k
theorem par_low {a b p c : Pt} {L t M s : Int} (h : Par a b p L t) (k : Par a b c M s) (hle : s * L ≤ t * M) : ronV a p c = true := by
  obtain ⟨h1, h2, h3, h4, h5⟩ := h
  obtain ⟨k1, k2, k3, k4, k5⟩ := k
  by_cases ht : t = 0
  · subst ht
    rw [Int.zero_mul] at hle h4 h5
    have e1 : p.x - a.x = 0 := mul_zero_of h4 (by omega)
    have e2 : p.y - a.y = 0 := mul_zero_of h5 (by omega)
    have hs : s = 0 := by
      rcases Int.lt_or_le 0 s with h | h
      · have := Int.mul_pos h h1; omega
      · omega
    subst hs
    rw [Int.zero_mul] at k4 k5
    have e3 : c.x - a.x = 0 := mul_zero_of k4 (by omega)
    have e4 : c.y - a.y = 0 := mul_zero_of k5 (by omega)
    exact par_on (L := 1) (t := 0) ⟨by omega, by omega, by omega, by omega, by omega⟩
  · exact par_on (L := t * M) (t := s * L) ⟨Int.mul_pos (by omega) k1, Int.mul_nonneg k2 (Int.le_of_lt h1), hle, by grind, by grind⟩
theorem on_split {a b p c : Pt} (h : ronV a b p = true) (k : ronV a b c = true) : ronV a p c = true ∨ ronV p b c = true := by
  obtain ⟨L, t, h⟩ := on_par h
  obtain ⟨M, s, k⟩ := on_par k
  rcases Int.le_total (s * L) (t * M) with hle | hle
  · exact .inl (par_low h k hle)
  · right
    rw [← ron_swap]
    refine par_low (par_swap h) (par_swap k) ?_
    rw [Int.sub_mul, Int.sub_mul, Int.mul_comm L M]; omega
theorem ron_left (a b : Pt) : ronV a b a = true := par_on (L := 1) (t := 0) ⟨by omega, by omega, by omega, by omega, by omega⟩
theorem ron_right (a b : Pt) : ronV a b b = true := par_on (L := 1) (t := 1) ⟨by omega, by omega, by omega, by omega, by omega⟩
theorem par_cross {a b p : Pt} {L t : Int} (h : Par a b p L t) (c d : Pt) : L * crossV c d p = (L - t) * crossV c d a + t * crossV c d b := by
  obtain ⟨h1, h2, h3, h4, h5⟩ := h
  unfold crossV; grind
theorem par_one {a b p : Pt} {L t : Int} (h : Par a b p L t) (x : Pt) : L * crossV a p x = t * crossV a b x := by
  obtain ⟨h1, h2, h3, h4, h5⟩ := h
  unfold crossV; grind
theorem par_two {a b p : Pt} {L t : Int} (h : Par a b p L t) (x : Pt) : L * crossV p b x = (L - t) * crossV a b x := by
  obtain ⟨h1, h2, h3, h4, h5⟩ := h
  unfold crossV; grind
theorem par_zero {a b p : Pt} {L : Int} (h : Par a b p L 0) : p = a := by
  obtain ⟨h1, h2, h3, h4, h5⟩ := h
  rw [Int.zero_mul] at h4 h5
  have e1 : p.x - a.x = 0 := mul_zero_of h4 (by omega)
  have e2 : p.y - a.y = 0 := mul_zero_of h5 (by omega)
  exact Pt.ext_ (by omega) (by omega)
theorem par_full {a b p : Pt} {L : Int} (h : Par a b p L L) : p = b := by
  have := par_swap h; rw [Int.sub_self] at this; exact par_zero this
/-! What the document's Meet says, as facts of points -/
def Ends (a b c d : Pt) : Prop := ronV c d a = true ∨ ronV c d b = true ∨ ronV a b c = true ∨ ronV a b d = true
theorem ends_ex {a b c d : Pt} : (∃ x, x ∈ endsL a b c d) ↔ Ends a b c d := by
  unfold Ends
  constructor
  · rintro ⟨x, hx⟩
    rcases mem_ends.1 hx with ⟨rfl, h⟩ | ⟨rfl, h⟩ | ⟨rfl, h⟩ | ⟨rfl, h⟩ <;> simp [h]
  · rintro (h | h | h | h)
    · exact ⟨a, mem_ends.2 (.inl ⟨rfl, h⟩)⟩
    · exact ⟨b, mem_ends.2 (.inr (.inl ⟨rfl, h⟩))⟩
    · exact ⟨c, mem_ends.2 (.inr (.inr (.inl ⟨rfl, h⟩)))⟩
    · exact ⟨d, mem_ends.2 (.inr (.inr (.inr ⟨rfl, h⟩)))⟩
theorem rmeet_pos (a b c d : Pt) : 0 < rmeetV a b c d ↔ Ends a b c d ∨ crossP a b c d = true := by
  unfold rmeetV
  rw [← ends_ex, ← empty_iff]
  cases hm : manyV (endsL a b c d) <;> cases he : (endsL a b c d).isEmpty <;> cases crossP a b c d <;> simp
  · obtain ⟨x, hx, _⟩ := (many_iff _).1 hm; rw [List.isEmpty_iff] at he; rw [he] at hx; cases hx
theorem rmeet_is3 {a b c d : Pt} (h : rmeetV a b c d = 3) : ∃ x ∈ endsL a b c d, ∃ y ∈ endsL a b c d, x ≠ y := by
  rw [← many_iff]
  unfold rmeetV at h
  cases hm : manyV (endsL a b c d)
  · rw [hm] at h; revert h; simp only [Bool.false_eq_true, if_false]; repeat' split
    all_goals omega
  · rfl
theorem ends_common {a b c d x : Pt} (h : x ∈ endsL a b c d) : ronV a b x = true ∧ ronV c d x = true ∧ (x = a ∨ x = b ∨ x = c ∨ x = d) := by
  rcases mem_ends.1 h with ⟨rfl, h⟩ | ⟨rfl, h⟩ | ⟨rfl, h⟩ | ⟨rfl, h⟩
  · exact ⟨ron_left _ _, h, by simp⟩
  · exact ⟨ron_right _ _, h, by simp⟩
  · exact ⟨h, ron_left _ _, by simp⟩
  · exact ⟨h, ron_right _ _, by simp⟩
theorem three_on {x y a b c : Pt} (h : x ≠ y) (h1 : crossV x y a = 0) (h2 : crossV x y b = 0) (h3 : crossV x y c = 0) : crossV a b c = 0 := by
  rw [cross_four x a b c, coll h h1 h2, coll h h1 h3, coll h h2 h3]; rfl
theorem line_common {a b c d : Pt} (ha : a.good) (hb : b.good) (hc : c.good) (hd : d.good) (h1 : crossV a b c = 0) (h2 : crossV a b d = 0) (h3 : crossV c d a = 0) (h4 : crossV c d b = 0)
    {x y : Pt} (gx : x.good) (gy : y.good) (x1 : ronV a b x = true) (x2 : ronV c d x = true) (y1 : ronV a b y = true) (y2 : ronV c d y = true) : 0 < rmeetV a b c d ∧ (x ≠ y → rmeetV a b c d = 3) := by
  rw [← meet_line ha hb hc hd h1 h2 h3 h4]
  have m1 := (mid_box ha hb gx ((ron_iff _ _ _).1 x1).1).2 ((ron_iff _ _ _).1 x1).2
  have m2 := (mid_box hc hd gx ((ron_iff _ _ _).1 x2).1).2 ((ron_iff _ _ _).1 x2).2
  have m3 := (mid_box ha hb gy ((ron_iff _ _ _).1 y1).1).2 ((ron_iff _ _ _).1 y1).2
  have m4 := (mid_box hc hd gy ((ron_iff _ _ _).1 y2).1).2 ((ron_iff _ _ _).1 y2).2
  unfold mid at m1 m2 m3 m4
  obtain ⟨e1, e2⟩ := ends_good ha hb
  obtain ⟨e3, e4⟩ := ends_good hc hd
  obtain ⟨f, t, hf, ht, l1, l2, l3, l4, hl⟩ := line_key e1 e2 e3 e4 _ _ _ _ rfl rfl rfl rfl
  unfold lineV
  rw [hl]
  have k1 := ends_key ha hb
  have k2 := ends_key hc hd
  have hk : x ≠ y → key x ≠ key y := fun h e => h (key_inj gx gy e)
  generalize key (endsV a b).1 = A at *
  generalize key (endsV a b).2 = B at *
  generalize key (endsV c d).1 = C at *
  generalize key (endsV c d).2 = D at *
  constructor
  · repeat' split
    all_goals omega
  · intro h
    have h := hk h
    repeat' split
    all_goals omega
/-- A point of both stretches: they meet. -/
theorem meets_of {a b c d p : Pt} (ha : a.good) (hb : b.good) (hc : c.good) (hd : d.good) (hp : p.good) (h : ronV a b p = true) (k : ronV c d p = true) : 0 < rmeetV a b c d := by
  obtain ⟨L, t, hP⟩ := on_par h
  obtain ⟨M, s, kP⟩ := on_par k
  have f0 := par_cross hP c d
  have g0 := par_cross kP a b
  rw [((ron_iff _ _ _).1 k).1, Int.mul_zero] at f0
  rw [((ron_iff _ _ _).1 h).1, Int.mul_zero] at g0
  have line : crossV a b c = 0 → crossV a b d = 0 → crossV c d a = 0 → crossV c d b = 0 → 0 < rmeetV a b c d := fun h1 h2 h3 h4 => (line_common ha hb hc hd h1 h2 h3 h4 hp hp h k h k).1
  rcases Int.lt_trichotomy t 0 with ht | ht | ht
  · exact absurd hP.2.1 (by omega)
  · subst ht; rw [par_zero hP] at k; exact (rmeet_pos _ _ _ _).2 (.inl (.inl k))
  rcases Int.lt_trichotomy t L with ht2 | ht2 | ht2
  rotate_left
  · subst ht2; rw [par_full hP] at k; exact (rmeet_pos _ _ _ _).2 (.inl (.inr (.inl k)))
  · exact absurd hP.2.2.1 (by omega)
  rcases Int.lt_trichotomy s 0 with hs | hs | hs
  · exact absurd kP.2.1 (by omega)
  · subst hs; rw [par_zero kP] at h; exact (rmeet_pos _ _ _ _).2 (.inl (.inr (.inr (.inl h))))
  rcases Int.lt_trichotomy s M with hs2 | hs2 | hs2
  rotate_left
  · subst hs2; rw [par_full kP] at h; exact (rmeet_pos _ _ _ _).2 (.inl (.inr (.inr (.inr h))))
  · exact absurd kP.2.2.1 (by omega)
  have sg : ∀ {u v A B : Int}, 0 < u → 0 < v → 0 = u * A + v * B → (A = 0 ∧ B = 0) ∨ (A < 0 ∧ 0 < B) ∨ (0 < A ∧ B < 0) := by
    intro u v A B hu hv e
    rcases Int.lt_trichotomy A 0 with hA | hA | hA
    · have := Int.mul_neg_of_pos_of_neg hu hA
      rcases Int.lt_or_le 0 B with hB | hB
      · exact .inr (.inl ⟨hA, hB⟩)
      · have := Int.mul_nonneg (Int.le_of_lt hv) (show 0 ≤ -B by omega); rw [Int.mul_neg] at this; omega
    · subst hA; rw [Int.mul_zero, Int.zero_add] at e
      exact .inl ⟨rfl, mul_zero_of e.symm (by omega)⟩
    · have := Int.mul_pos hu hA
      rcases Int.lt_or_le B 0 with hB | hB
      · exact .inr (.inr ⟨hA, hB⟩)
      · have := Int.mul_nonneg (Int.le_of_lt hv) hB; omega
  have sf := sg (by omega) ht f0
  have sgg := sg (by omega) hs g0
  rcases sf with ⟨f1, f2⟩ | sf
  · by_cases hcd : c = d
    · subst hcd
      have : p = c := by obtain ⟨_, b1, b2⟩ := (ron_iff _ _ _).1 k; exact Pt.ext_ (by omega) (by omega)
      subst this
      exact (rmeet_pos _ _ _ _).2 (.inl (.inr (.inr (.inl h))))
    · have e1 := coll hcd f1 f2
      have e2 := coll (fun e => hcd e.symm) (show crossV d c a = 0 by rw [cross_swap, f1]; rfl) (show crossV d c b = 0 by rw [cross_swap, f2]; rfl)
      exact line (by rw [cross_rot c a b]; exact e1) (by rw [cross_rot d a b]; exact e2) f1 f2
  · rcases sgg with ⟨g1, g2⟩ | sgg
    · by_cases hab : a = b
      · subst hab
        have : p = a := by obtain ⟨_, b1, b2⟩ := (ron_iff _ _ _).1 h; exact Pt.ext_ (by omega) (by omega)
        subst this
        exact (rmeet_pos _ _ _ _).2 (.inl (.inl k))
      · have e1 := coll hab g1 g2
        have e2 := coll (fun e => hab e.symm) (show crossV b a c = 0 by rw [cross_swap, g1]; rfl) (show crossV b a d = 0 by rw [cross_swap, g2]; rfl)
        exact line g1 g2 (by rw [cross_rot a c d]; exact e1) (by rw [cross_rot b c d]; exact e2)
    · exact (rmeet_pos _ _ _ _).2 (.inr ((cross_iff _ _ _ _).2 ⟨sgg, sf⟩))
end Go.Proofs.Yticmoijngfpeeaa
