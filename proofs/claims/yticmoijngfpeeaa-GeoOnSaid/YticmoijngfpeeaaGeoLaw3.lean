/- Points: the program's Meet is the document's: the cases. -/
import Derived.Test.YticmoijngfpeeaaGeoLaw2
import Derived.Test.YticmoijngfpeeaaGeoD
namespace Go.Proofs.Yticmoijngfpeeaa
set_option linter.unusedSimpArgs false
set_option linter.unusedVariables false
theorem hi_le (x y : Int) : x ≤ hi x y ∧ y ≤ hi x y := by unfold hi; split <;> omega
theorem lo_le (x y : Int) : lo x y ≤ x ∧ lo x y ≤ y := by unfold lo; split <;> omega
theorem apart_iff (a b c d : Pt) : apartV a b c d = true ↔ hi a.x b.x < lo c.x d.x ∨ hi c.x d.x < lo a.x b.x ∨ hi a.y b.y < lo c.y d.y ∨ hi c.y d.y < lo a.y b.y := by
  unfold apartV; simp only [Bool.or_eq_true, decide_eq_true_iff]
theorem apart_on {a b c d p : Pt} (h : apartV a b c d = true) (h1 : ronV a b p = true) (h2 : p = c ∨ p = d) : False := by
  rw [apart_iff] at h
  obtain ⟨_, h3, h4⟩ := (ron_iff a b p).1 h1
  have k1 := hi_le a.x b.x; have k2 := hi_le a.y b.y; have k3 := hi_le c.x d.x; have k4 := hi_le c.y d.y
  have k5 := lo_le a.x b.x; have k6 := lo_le a.y b.y; have k7 := lo_le c.x d.x; have k8 := lo_le c.y d.y
  rcases h2 with rfl | rfl <;> omega
theorem apart_swap {a b c d : Pt} (h : apartV a b c d = true) : apartV c d a b = true := by
  rw [apart_iff] at h ⊢; omega
theorem apart_cross {a b c d : Pt} (h : apartV a b c d = true) : crossP a b c d = false := by
  rcases hc : crossP a b c d with _ | _
  · rfl
  · rw [apart_iff] at h
    obtain ⟨α, β, γ, δ, h1, h2, h3, h4, hs, hx, hy⟩ := cross_meets hc
    have k1 := hi_le a.x b.x; have k2 := hi_le a.y b.y; have k3 := hi_le c.x d.x; have k4 := hi_le c.y d.y
    have k5 := lo_le a.x b.x; have k6 := lo_le a.y b.y; have k7 := lo_le c.x d.x; have k8 := lo_le c.y d.y
    have b1 := apart_le hx hs h1 h2 h3 h4 k1.1 k1.2 k7.1 k7.2
    have b2 := apart_le hx.symm hs.symm h3 h4 h1 h2 k3.2 k3.1 k5.2 k5.1
    have b3 := apart_le hy hs h1 h2 h3 h4 k2.1 k2.2 k8.1 k8.2
    have b4 := apart_le hy.symm hs.symm h3 h4 h1 h2 k4.2 k4.1 k6.2 k6.1
    omega
theorem false_of {b : Bool} (h : b = true → False) : b = false := by cases b <;> simp_all
theorem meet_apart {a b c d : Pt} (h : apartV a b c d = true) : rmeetV a b c d = 0 := by
  have k := apart_swap h
  rw [rmeet_no (no_ends (false_of fun e => apart_on k e (.inl rfl)) (false_of fun e => apart_on k e (.inr rfl)) (false_of fun e => apart_on h e (.inl rfl)) (false_of fun e => apart_on h e (.inr rfl))), apart_cross h]
  rfl
theorem line_key {a b c d : Pt} (ha : a.good) (hb : b.good) (hc : c.good) (hd : d.good) (A B C D : Int) (eA : key a = A) (eB : key b = B) (eC : key c = C) (eD : key d = D) :
    ∃ f t, (f = A ∨ f = C) ∧ (t = B ∨ t = D) ∧ A ≤ f ∧ C ≤ f ∧ t ≤ B ∧ t ≤ D ∧ lineQ a b c d = if t < f then 0 else if f = t then 1 else 3 := by
  unfold lineQ
  simp only [order_pos ha hc, order_neg hd hb]
  have h1 : (if key c < key a then a else c).good := by split <;> assumption
  have h2 : (if key d < key b then d else b).good := by split <;> assumption
  simp only [order_pos h1 h2, order_zero h1 h2]
  refine ⟨key (if key c < key a then a else c), key (if key d < key b then d else b), ?_, ?_, ?_, ?_, ?_, ?_, rfl⟩
  all_goals split <;> omega
theorem meet_line {a b c d : Pt} (ha : a.good) (hb : b.good) (hc : c.good) (hd : d.good) (h1 : crossV a b c = 0) (h2 : crossV a b d = 0) (h3 : crossV c d a = 0) (h4 : crossV c d b = 0) :
    lineV a b c d = rmeetV a b c d := by
  have r1 := (ron_iff a b c).trans ((and_congr_right fun h => (mid_box ha hb hc h).symm).trans (and_iff_right h1))
  have r2 := (ron_iff a b d).trans ((and_congr_right fun h => (mid_box ha hb hd h).symm).trans (and_iff_right h2))
  have r3 := (ron_iff c d a).trans ((and_congr_right fun h => (mid_box hc hd ha h).symm).trans (and_iff_right h3))
  have r4 := (ron_iff c d b).trans ((and_congr_right fun h => (mid_box hc hd hb h).symm).trans (and_iff_right h4))
  unfold mid at r1 r2 r3 r4
  have m : ∀ x, x ∈ endsL a b c d ↔ _ := fun x => mem_ends.trans (or_congr (and_congr_right fun _ => r3) (or_congr (and_congr_right fun _ => r4) (or_congr (and_congr_right fun _ => r1) (and_congr_right fun _ => r2))))
  have hcr : crossP a b c d = false := false_of fun e => by have := (cross_iff a b c d).1 e; omega
  obtain ⟨e1, e2⟩ := ends_good ha hb
  obtain ⟨e3, e4⟩ := ends_good hc hd
  obtain ⟨f, t, hf, ht, l1, l2, l3, l4, hl⟩ := line_key e1 e2 e3 e4 _ _ _ _ rfl rfl rfl rfl
  unfold lineV
  rw [hl]
  have k1 := ends_key ha hb
  have k2 := ends_key hc hd
  generalize key (endsV a b).1 = A at *
  generalize key (endsV a b).2 = B at *
  generalize key (endsV c d).1 = C at *
  generalize key (endsV c d).2 = D at *
  have hgood : ∀ x, x ∈ endsL a b c d → x.good := fun x hx => by
    rcases (m x).1 hx with ⟨rfl, _⟩ | ⟨rfl, _⟩ | ⟨rfl, _⟩ | ⟨rfl, _⟩ <;> assumption
  split
  · rename_i hlt
    rw [rmeet_no, hcr]; rfl
    intro x hx
    rcases (m x).1 hx with ⟨rfl, h⟩ | ⟨rfl, h⟩ | ⟨rfl, h⟩ | ⟨rfl, h⟩ <;> omega
  · rename_i hlt
    have ef : ∃ x, x ∈ endsL a b c d ∧ key x = f := by
      have w : (key a = f ∧ ((key c ≤ key a ∧ key a ≤ key d) ∨ (key d ≤ key a ∧ key a ≤ key c))) ∨ (key b = f ∧ ((key c ≤ key b ∧ key b ≤ key d) ∨ (key d ≤ key b ∧ key b ≤ key c))) ∨ (key c = f ∧ ((key a ≤ key c ∧ key c ≤ key b) ∨ (key b ≤ key c ∧ key c ≤ key a))) ∨ (key d = f ∧ ((key a ≤ key d ∧ key d ≤ key b) ∨ (key b ≤ key d ∧ key d ≤ key a))) := by omega
      rcases w with ⟨e, h⟩ | ⟨e, h⟩ | ⟨e, h⟩ | ⟨e, h⟩
      · exact ⟨a, (m a).2 (.inl ⟨rfl, h⟩), e⟩
      · exact ⟨b, (m b).2 (.inr (.inl ⟨rfl, h⟩)), e⟩
      · exact ⟨c, (m c).2 (.inr (.inr (.inl ⟨rfl, h⟩))), e⟩
      · exact ⟨d, (m d).2 (.inr (.inr (.inr ⟨rfl, h⟩))), e⟩
    split
    · rename_i heq
      refine (rmeet_1 ⟨ef.choose, ef.choose_spec.1⟩ fun x hx y hy => key_inj (hgood x hx) (hgood y hy) ?_).symm
      have all : ∀ x, x ∈ endsL a b c d → key x = f := fun x hx => by
        rcases (m x).1 hx with ⟨rfl, h⟩ | ⟨rfl, h⟩ | ⟨rfl, h⟩ | ⟨rfl, h⟩ <;> omega
      rw [all x hx, all y hy]
    · rename_i hne
      have et : ∃ x, x ∈ endsL a b c d ∧ key x = t := by
        have w : (key a = t ∧ ((key c ≤ key a ∧ key a ≤ key d) ∨ (key d ≤ key a ∧ key a ≤ key c))) ∨ (key b = t ∧ ((key c ≤ key b ∧ key b ≤ key d) ∨ (key d ≤ key b ∧ key b ≤ key c))) ∨ (key c = t ∧ ((key a ≤ key c ∧ key c ≤ key b) ∨ (key b ≤ key c ∧ key c ≤ key a))) ∨ (key d = t ∧ ((key a ≤ key d ∧ key d ≤ key b) ∨ (key b ≤ key d ∧ key d ≤ key a))) := by omega
        rcases w with ⟨e, h⟩ | ⟨e, h⟩ | ⟨e, h⟩ | ⟨e, h⟩
        · exact ⟨a, (m a).2 (.inl ⟨rfl, h⟩), e⟩
        · exact ⟨b, (m b).2 (.inr (.inl ⟨rfl, h⟩)), e⟩
        · exact ⟨c, (m c).2 (.inr (.inr (.inl ⟨rfl, h⟩))), e⟩
        · exact ⟨d, (m d).2 (.inr (.inr (.inr ⟨rfl, h⟩))), e⟩
      obtain ⟨x, hx, ex⟩ := ef
      obtain ⟨y, hy, ey⟩ := et
      exact (rmeet_3 ⟨x, hx, y, hy, fun e => hne (by rw [← ex, ← ey, e])⟩).symm
theorem mix {p q r s : Pt} (hpq : p ≠ q) (h1 : crossV p r q = 0) (h2 : crossV q s p = 0) : crossV p r s = 0 ∧ crossV q s r = 0 := by
  have a1 := cross_swap p q r; have a2 := cross_rot p q r; have a3 := cross_rot q r p; have a4 := cross_swap q r p; have a5 := cross_swap r p q; have a0 := cross_rot r p q
  have b1 := cross_swap p q s; have b2 := cross_rot p q s; have b3 := cross_rot q s p; have b4 := cross_swap q s p; have b5 := cross_swap s p q; have b0 := cross_rot s p q
  have c2 := cross_rot p r q; have c3 := cross_rot q s p
  exact ⟨coll hpq (by omega) (by omega), coll (fun e => hpq e.symm) (by omega) (by omega)⟩
theorem one_line {c d x y : Pt} (h1 : crossV c d x = 0 ∧ box c d x) (h2 : crossV c d y = 0 ∧ box c d y) (hn : x ≠ y) : crossV x y c = 0 ∧ crossV x y d = 0 := by
  have hcd : c ≠ d := fun e => hn (by
    subst e; obtain ⟨_, b1, b2⟩ := h1; obtain ⟨_, b3, b4⟩ := h2
    exact Pt.ext_ (by omega) (by omega))
  have k1 := coll hcd h1.1 h2.1
  have k2 := coll (fun e => hcd e.symm) (show crossV d c x = 0 by rw [cross_swap, h1.1]; rfl) (show crossV d c y = 0 by rw [cross_swap, h2.1]; rfl)
  exact ⟨by rw [cross_rot c x y]; exact k1, by rw [cross_rot d x y]; exact k2⟩
/-- Two unlike ends in common: the four are of one line. -/
theorem two_ends {a b c d x y : Pt} (hx : x ∈ endsL a b c d) (hy : y ∈ endsL a b c d) (hn : x ≠ y) : crossV a b c = 0 ∧ crossV a b d = 0 ∧ crossV c d a = 0 ∧ crossV c d b = 0 := by
  have sw : ∀ p q r : Pt, crossV p q r = 0 → crossV q p r = 0 := fun p q r h => by rw [cross_swap, h]; rfl
  simp only [mem_ends, ron_iff] at hx hy
  have ab : ∀ (_ : crossV c d a = 0 ∧ box c d a) (_ : crossV c d b = 0 ∧ box c d b) (_ : a ≠ b), crossV a b c = 0 ∧ crossV a b d = 0 ∧ crossV c d a = 0 ∧ crossV c d b = 0 := fun h1 h2 h => by
    have := one_line h1 h2 h; exact ⟨this.1, this.2, h1.1, h2.1⟩
  have cd : ∀ (_ : crossV a b c = 0 ∧ box a b c) (_ : crossV a b d = 0 ∧ box a b d) (_ : c ≠ d), crossV a b c = 0 ∧ crossV a b d = 0 ∧ crossV c d a = 0 ∧ crossV c d b = 0 := fun h1 h2 h => by
    have := one_line h1 h2 h; exact ⟨h1.1, h2.1, this.1, this.2⟩
  have ac : ∀ (_ : crossV c d a = 0) (_ : crossV a b c = 0) (_ : a ≠ c), crossV a b c = 0 ∧ crossV a b d = 0 ∧ crossV c d a = 0 ∧ crossV c d b = 0 := fun h1 h2 h => by
    have := mix h h2 h1; exact ⟨h2, this.1, h1, this.2⟩
  have ad : ∀ (_ : crossV c d a = 0) (_ : crossV a b d = 0) (_ : a ≠ d), crossV a b c = 0 ∧ crossV a b d = 0 ∧ crossV c d a = 0 ∧ crossV c d b = 0 := fun h1 h2 h => by
    have := mix h h2 (sw _ _ _ h1); exact ⟨this.1, h2, h1, sw _ _ _ this.2⟩
  have bc : ∀ (_ : crossV c d b = 0) (_ : crossV a b c = 0) (_ : b ≠ c), crossV a b c = 0 ∧ crossV a b d = 0 ∧ crossV c d a = 0 ∧ crossV c d b = 0 := fun h1 h2 h => by
    have := mix h (sw _ _ _ h2) h1; exact ⟨h2, sw _ _ _ this.1, this.2, h1⟩
  have bd : ∀ (_ : crossV c d b = 0) (_ : crossV a b d = 0) (_ : b ≠ d), crossV a b c = 0 ∧ crossV a b d = 0 ∧ crossV c d a = 0 ∧ crossV c d b = 0 := fun h1 h2 h => by
    have := mix h (sw _ _ _ h2) (sw _ _ _ h1); exact ⟨sw _ _ _ this.1, h2, sw _ _ _ this.2, h1⟩
  rcases hx with ⟨rfl, h1⟩ | ⟨rfl, h1⟩ | ⟨rfl, h1⟩ | ⟨rfl, h1⟩ <;> rcases hy with ⟨rfl, h2⟩ | ⟨rfl, h2⟩ | ⟨rfl, h2⟩ | ⟨rfl, h2⟩
  · exact absurd rfl hn
  · exact ab h1 h2 hn
  · exact ac h1.1 h2.1 hn
  · exact ad h1.1 h2.1 hn
  · exact ab h2 h1 (fun e => hn e.symm)
  · exact absurd rfl hn
  · exact bc h1.1 h2.1 hn
  · exact bd h1.1 h2.1 hn
  · exact ac h2.1 h1.1 (fun e => hn e.symm)
  · exact bc h2.1 h1.1 (fun e => hn e.symm)
  · exact absurd rfl hn
  · exact cd h1 h2 hn
  · exact ad h2.1 h1.1 (fun e => hn e.symm)
  · exact bd h2.1 h1.1 (fun e => hn e.symm)
  · exact cd h2 h1 (fun e => hn e.symm)
  · exact absurd rfl hn
theorem meet_eq {a b c d : Pt} (ha : a.good) (hb : b.good) (hc : c.good) (hd : d.good) : meetV a b c d = rmeetV a b c d := by
  unfold meetV meetB
  rw [on_eq ha hb hc, on_eq ha hb hd, on_eq hc hd ha, on_eq hc hd hb]
  split
  · rename_i h; exact (meet_apart h).symm
  · split
    · rename_i h
      simp only [Bool.and_eq_true, beq_iff_eq, turn_zero] at h
      exact meet_line ha hb hc hd h.1 h.2.1 h.2.2.1 h.2.2.2
    · rename_i hnz
      simp only [Bool.and_eq_true, beq_iff_eq, turn_zero] at hnz
      split
      · rename_i h
        have hcr : crossP a b c d = true := h
        have h := (cross_iff a b c d).1 hcr
        rw [rmeet_no, hcr]; rfl
        refine no_ends (false_of fun e => ?_) (false_of fun e => ?_) (false_of fun e => ?_) (false_of fun e => ?_)
        all_goals (have := ((ron_iff _ _ _).1 e).1; omega)
      · rename_i hcr
        have hcr : crossP a b c d = false := by unfold crossP; simpa using hcr
        split
        · rename_i h
          refine (rmeet_1 ?_ fun x hx y hy => ?_).symm
          · simp only [Bool.or_eq_true] at h
            rcases h with h | h | h | h
            · exact ⟨c, mem_ends.2 (.inr (.inr (.inl ⟨rfl, h⟩)))⟩
            · exact ⟨d, mem_ends.2 (.inr (.inr (.inr ⟨rfl, h⟩)))⟩
            · exact ⟨a, mem_ends.2 (.inl ⟨rfl, h⟩)⟩
            · exact ⟨b, mem_ends.2 (.inr (.inl ⟨rfl, h⟩))⟩
          · by_cases hn : x = y
            · exact hn
            · exact absurd (two_ends hx hy hn) hnz
        · rename_i h
          simp only [Bool.or_eq_true, not_or, Bool.not_eq_true] at h
          rw [rmeet_no (no_ends h.2.2.1 h.2.2.2 h.1 h.2.1), hcr]; rfl
end Go.Proofs.Yticmoijngfpeeaa
