/- A value is read as it is, whatever stands behind it; blanks change nothing. -/
import Derived.Test.YtmbjalcphdggnaaDoorJsW
namespace Go.Proofs.YtmbjalcphdggnaaDoor
set_option linter.unusedSimpArgs false
set_option linter.unusedVariables false
open Go.RowKit
/-- The same token, with more behind it. -/
def Ext (x : L8) (T T' : Tk) : Prop := (T.k ≠ 0 ∧ T' = ⟨T.k, T.t, T.ts ++ x, T.s ++ x⟩) ∨ (T.k = 0 ∧ nextS x = .ok T')
theorem next_ext {u x : L8} (hx : dl x) (hR : ∃ Tr, nextS x = .ok Tr) {T : Tk} (h : nextS u = .ok T) : ∃ T', nextS (u ++ x) = .ok T' ∧ Ext x T T' := by
  rcases next_app hx h with ⟨h1, h2⟩ | ⟨h1, h2⟩
  · exact ⟨_, h2, .inl ⟨h1, rfl⟩⟩
  · obtain ⟨Tr, hr⟩ := hR
    exact ⟨Tr, h2.trans hr, .inr ⟨h1, hr⟩⟩
theorem want_ext {sign : Nat} {x : L8} (hx : dl x) (hR : ∃ Tr, nextS x = .ok Tr) (h0 : sign ≠ 0) {T T' T1 : Tk} (hT : Ext x T T') (h : wantS sign T = .ok T1) : ∃ T1', wantS sign T' = .ok T1' ∧ Ext x T1 T1' := by
  unfold wantS at h
  split at h
  · next hk =>
    rcases hT with ⟨_, rfl⟩ | ⟨e, _⟩
    · obtain ⟨T1', h1, h2⟩ := next_ext hx hR h
      exact ⟨T1', by unfold wantS; rw [if_pos hk]; exact h1, h2⟩
    · omega
  · cases h
section
variable {x : L8} (hx : dl x) (hR : ∃ Tr, nextS x = .ok Tr) (δ : Nat)
def OkO (x : L8) (δ : Nat) (J : JV) (T1 : Tk) (g : Got (JV × Tk)) : Prop := (∃ T1', g = .ok (J, T1') ∧ Ext x T1 T1') ∨ (0 < δ ∧ ∃ p, g = .bad p 12)
include hx hR in
mutual
theorem valF_ext : ∀ (f dp : Nat) (T T' : Tk) (J : JV) (T1 : Tk), Ext x T T' → valF f dp T = .ok (J, T1) → OkO x δ J T1 (valF f (dp + δ) T')
  | 0, _, _, _, _, _, _, h => by simp [valF] at h
  | f + 1, dp, T, T', J, T1, hT, h => by
    unfold valF at h
    rcases hT with ⟨hk0, rfl⟩ | ⟨e, _⟩
    · unfold valF
      dsimp only
      by_cases a1 : 1 ≤ T.k ∧ T.k ≤ 5
      · rw [if_pos a1] at h ⊢
        obtain ⟨T2, h1, h2⟩ := Got.bind_ok h
        injection h2 with h2
        injection h2 with e1 e2
        subst e1 e2
        obtain ⟨T2', h3, h4⟩ := next_ext hx hR h1
        rw [h3]
        exact .inl ⟨T2', rfl, h4⟩
      rw [if_neg a1] at h ⊢
      by_cases a2 : T.k = 91
      · rw [if_pos a2] at h ⊢
        have := manyF_ext f 6 93 (dp + 1) T.t T _ J T1 (by omega) hk0 (.inl ⟨hk0, rfl⟩) h
        rw [show dp + δ + 1 = dp + 1 + δ by omega]
        exact this
      rw [if_neg a2] at h ⊢
      by_cases a3 : T.k = 123
      · rw [if_pos a3] at h ⊢
        have := manyF_ext f 7 125 (dp + 1) T.t T _ J T1 (by omega) hk0 (.inl ⟨hk0, rfl⟩) h
        rw [show dp + δ + 1 = dp + 1 + δ by omega]
        exact this
      · rw [if_neg a3] at h; cases h
    · rw [if_neg (by omega), if_neg (by omega), if_neg (by omega)] at h
      cases h
theorem manyF_ext : ∀ (f kind shut dp : Nat) (t : L8) (T T' : Tk) (J : JV) (T1 : Tk), shut ≠ 0 → T.k ≠ 0 → Ext x T T' → manyF f kind shut dp t T = .ok (J, T1) → OkO x δ J T1 (manyF f kind shut (dp + δ) t T')
  | 0, _, _, _, _, _, _, _, _, _, _, _, h => by simp [manyF] at h
  | f + 1, kind, shut, dp, t, T, T', J, T1, hs0, hk, hT, h => by
    rcases hT with ⟨_, rfl⟩ | ⟨e, _⟩
    · unfold manyF at h ⊢
      split at h
      · cases h
      · next hd =>
        obtain ⟨T2, h1, h2⟩ := Got.bind_ok h
        by_cases hd' : 32 < dp + δ
        · rw [if_pos hd']
          exact .inr ⟨by omega, _, rfl⟩
        · rw [if_neg hd']
          obtain ⟨T2', h3, h4⟩ := next_ext hx hR h1
          dsimp only
          rw [h3]
          exact loopF_ext f kind shut dp T2 T2' true t [] [] J T1 hs0 h4 h2
    · exact absurd e hk
theorem loopF_ext : ∀ (f kind shut dp : Nat) (T T' : Tk) (first : Bool) (t : L8) (ks : List L8) (vs : List JV) (J : JV) (T1 : Tk), shut ≠ 0 → Ext x T T' → loopF f kind shut dp T first t ks vs = .ok (J, T1) → OkO x δ J T1 (loopF f kind shut (dp + δ) T' first t ks vs)
  | 0, _, _, _, _, _, _, _, _, _, _, _, _, _, h => by simp [loopF] at h
  | f + 1, kind, shut, dp, T, T', first, t, ks, vs, J, T1, hs0, hT, h => by
    unfold loopF at h
    by_cases a1 : T.k = shut
    · rw [if_pos a1] at h
      rcases hT with ⟨_, rfl⟩ | ⟨e, _⟩
      · obtain ⟨T2, h1, h2⟩ := Got.bind_ok h
        injection h2 with h2
        injection h2 with e1 e2
        subst e1 e2
        obtain ⟨T2', h3, h4⟩ := next_ext hx hR h1
        unfold loopF
        rw [if_pos (by exact a1)]
        dsimp only
        rw [h3]
        exact .inl ⟨T2', rfl, h4⟩
      · omega
    rw [if_neg a1] at h
    obtain ⟨T2, h1, h2⟩ := Got.bind_ok h
    -- the token behind the comma
    have hstep : T.k ≠ 0 → ∃ T2', T'.k ≠ shut ∧ (if first then Got.ok T' else wantS 44 T') = .ok T2' ∧ Ext x T2 T2' := fun hk => by
      have hT' := hT
      rcases hT' with ⟨_, rfl⟩ | ⟨e, _⟩
      · cases first
        · obtain ⟨T2', g1, g2⟩ := want_ext hx hR (by decide) hT h1
          exact ⟨T2', a1, g1, g2⟩
        · injection h1 with h1
          subst h1
          exact ⟨_, a1, rfl, hT⟩
      · exact absurd e hk
    by_cases hk : T.k = 0
    · -- the end: nothing is read
      exfalso
      cases first
      · have h1' : wantS 44 T = .ok T2 := h1
        unfold wantS at h1'
        rw [if_neg (by omega)] at h1'
        cases h1'
      · injection h1 with h1
        subst h1
        split at h2
        · obtain ⟨T3, h3, h2⟩ := Got.bind_ok h2
          unfold wantS at h3
          rw [if_neg (by omega)] at h3
          cases h3
        · obtain ⟨v, h5, h2⟩ := Got.bind_ok h2
          cases f with
          | zero => simp [valF] at h5
          | succ f =>
            unfold valF at h5
            rw [if_neg (by omega), if_neg (by omega), if_neg (by omega)] at h5
            cases h5
    · obtain ⟨T2', g0, g1, g2⟩ := hstep hk
      have key : ∀ (T4 T4' : Tk) (ks' : List L8) (r : JV × Tk), Ext x T4 T4' → valF f dp T4 = .ok r → loopF f kind shut dp r.2 false t ks' (vs ++ [r.1]) = .ok (J, T1) →
          OkO x δ J T1 ((valF f (dp + δ) T4').bind fun r => loopF f kind shut (dp + δ) r.2 false t ks' (vs ++ [r.1])) := fun T4 T4' ks' r q1 q2 q3 => by
        obtain ⟨Jv, Tv⟩ := r
        rcases valF_ext f dp T4 T4' Jv Tv q1 q2 with ⟨Tv', z1, z2⟩ | ⟨z0, p, z1⟩
        · rw [z1]
          exact loopF_ext f kind shut dp Tv Tv' false t ks' _ J T1 hs0 z2 q3
        · rw [z1]
          exact .inr ⟨z0, p, rfl⟩
      have kk : T2'.t = T2.t ∨ kind ≠ 7 := by
        rcases g2 with ⟨_, rfl⟩ | ⟨e, _⟩
        · exact .inl rfl
        · by_cases h7 : kind = 7
          · rw [if_pos h7] at h2
            obtain ⟨T3, h3, h2⟩ := Got.bind_ok h2
            unfold wantS at h3
            rw [if_neg (by omega)] at h3
            cases h3
          · exact .inr h7
      unfold loopF
      rw [if_neg g0, g1]
      simp only [Got.bind]
      by_cases h7 : kind = 7
      · rw [if_pos h7] at h2 ⊢
        obtain ⟨T3, h3, h2⟩ := Got.bind_ok h2
        obtain ⟨T4, h4, h2⟩ := Got.bind_ok h2
        obtain ⟨v, h5, h2⟩ := Got.bind_ok h2
        obtain ⟨T3', g3, e3⟩ := want_ext hx hR (by decide) g2 h3
        obtain ⟨T4', g4, e4⟩ := want_ext hx hR (by decide) e3 h4
        rw [g3]
        simp only [Got.bind]
        rw [g4]
        rcases kk with kk | kk
        · rw [kk]
          exact key T4 T4' _ v e4 h5 h2
        · exact absurd h7 kk
      · rw [if_neg h7] at h2 ⊢
        obtain ⟨v, h5, h2⟩ := Got.bind_ok h2
        exact key T2 T2' _ v g2 h5 h2
end
end
theorem Got.bind_bad {α β : Type} {g : Got α} {f : α → Got β} {p : L8} {e : Nat} (h : g.bind f = .bad p e) : g = .bad p e ∨ ∃ x, g = .ok x ∧ f x = .bad p e := by
  cases g with
  | ok x => exact .inr ⟨x, rfl, h⟩
  | bad q d =>
    have h' : (Got.bad q d : Got β) = .bad p e := h
    injection h' with a b
    exact .inl (by rw [a, b])
section
variable {x : L8} (hx : blk_ x)
theorem blk_next {x : L8} (hx : blk_ x) : nextS x = .ok ⟨0, [], [], []⟩ := by
  have := next_bl x hx []
  rw [List.append_nil] at this
  rw [this]
  rfl
include hx in
theorem want_bad {sign : Nat} (h0 : sign ≠ 0) {T T' : Tk} {p : L8} {e : Nat} (hT : Ext x T T') (h : wantS sign T = .bad p e) : ∃ p', wantS sign T' = .bad p' e := by
  unfold wantS at h
  rcases hT with ⟨hk, rfl⟩ | ⟨hk, hT'⟩
  · split at h
    · next q =>
      obtain ⟨p', h1⟩ := next_bad hx h
      exact ⟨p', by unfold wantS; rw [if_pos q]; exact h1⟩
    · next q =>
      injection h with _ he
      subst he
      exact ⟨_, by unfold wantS; rw [if_neg q]⟩
  · rw [if_neg (by omega)] at h
    injection h with _ he
    subst he
    rw [blk_next hx] at hT'
    injection hT' with hT'
    subst hT'
    exact ⟨_, by unfold wantS; rw [if_neg (by show ¬ 0 = sign; omega)]⟩
include hx in
mutual
theorem valF_bad : ∀ (f dp : Nat) (T T' : Tk) (p : L8) (e : Nat), e ≠ 0 → Ext x T T' → valF f dp T = .bad p e → ∃ p', valF f dp T' = .bad p' e
  | 0, _, _, _, _, _, he, _, h => by simp [valF] at h; omega
  | f + 1, dp, T, T', p, e, he, hT, h => by
    unfold valF at h
    rcases hT with ⟨hk0, rfl⟩ | ⟨hk, hT'⟩
    · unfold valF
      dsimp only
      by_cases a1 : 1 ≤ T.k ∧ T.k ≤ 5
      · rw [if_pos a1] at h ⊢
        rcases Got.bind_bad h with h1 | ⟨T2, _, h2⟩
        · obtain ⟨p', h3⟩ := next_bad hx h1
          exact ⟨p', by rw [h3]; rfl⟩
        · cases h2
      rw [if_neg a1] at h ⊢
      by_cases a2 : T.k = 91
      · rw [if_pos a2] at h ⊢
        exact manyF_bad f 6 93 (dp + 1) T.t T _ p e he (by omega) hk0 (.inl ⟨hk0, rfl⟩) h
      rw [if_neg a2] at h ⊢
      by_cases a3 : T.k = 123
      · rw [if_pos a3] at h ⊢
        exact manyF_bad f 7 125 (dp + 1) T.t T _ p e he (by omega) hk0 (.inl ⟨hk0, rfl⟩) h
      · rw [if_neg a3] at h ⊢
        injection h with _ h
        subst h
        exact ⟨_, rfl⟩
    · rw [if_neg (by omega), if_neg (by omega), if_neg (by omega)] at h
      injection h with _ h
      subst h
      rw [blk_next hx] at hT'
      injection hT' with hT'
      subst hT'
      exact ⟨[], by simp [valF]⟩
theorem manyF_bad : ∀ (f kind shut dp : Nat) (t : L8) (T T' : Tk) (p : L8) (e : Nat), e ≠ 0 → shut ≠ 0 → T.k ≠ 0 → Ext x T T' → manyF f kind shut dp t T = .bad p e → ∃ p', manyF f kind shut dp t T' = .bad p' e
  | 0, _, _, _, _, _, _, _, _, he, _, _, _, h => by simp [manyF] at h; omega
  | f + 1, kind, shut, dp, t, T, T', p, e, he, hs0, hk, hT, h => by
    rcases hT with ⟨_, rfl⟩ | ⟨q, _⟩
    · unfold manyF at h ⊢
      split at h
      · next hd =>
        rw [if_pos hd]
        injection h with _ h
        subst h
        exact ⟨_, rfl⟩
      · next hd =>
        rw [if_neg hd]
        dsimp only
        rcases Got.bind_bad h with h1 | ⟨T2, h1, h2⟩
        · obtain ⟨p', h3⟩ := next_bad hx h1
          exact ⟨p', by rw [h3]; rfl⟩
        · obtain ⟨T2', h3, h4⟩ := next_ext (blk_dl hx) ⟨_, blk_next hx⟩ h1
          rw [h3]
          exact loopF_bad f kind shut dp T2 T2' true t [] [] p e he hs0 h4 h2
    · exact absurd q hk
theorem loopF_bad : ∀ (f kind shut dp : Nat) (T T' : Tk) (first : Bool) (t : L8) (ks : List L8) (vs : List JV) (p : L8) (e : Nat), e ≠ 0 → shut ≠ 0 → Ext x T T' → loopF f kind shut dp T first t ks vs = .bad p e → ∃ p', loopF f kind shut dp T' first t ks vs = .bad p' e
  | 0, _, _, _, _, _, _, _, _, _, _, _, he, _, _, h => by simp [loopF] at h; omega
  | f + 1, kind, shut, dp, T, T', first, t, ks, vs, p, e, he, hs0, hT, h => by
    unfold loopF at h
    have hkk : T'.k = T.k := by
      rcases hT with ⟨_, rfl⟩ | ⟨q, hT'⟩
      · rfl
      · rw [blk_next hx] at hT'
        injection hT' with hT'
        subst hT'
        exact q.symm
    by_cases a1 : T.k = shut
    · rw [if_pos a1] at h
      rcases hT with ⟨_, rfl⟩ | ⟨q, _⟩
      · rcases Got.bind_bad h with h1 | ⟨T2, _, h2⟩
        · obtain ⟨p', h3⟩ := next_bad hx h1
          exact ⟨p', by unfold loopF; rw [if_pos (by exact a1)]; dsimp only; rw [h3]; rfl⟩
        · cases h2
      · omega
    rw [if_neg a1] at h
    unfold loopF
    rw [if_neg (by rw [hkk]; exact a1)]
    rcases Got.bind_bad h with h1 | ⟨T2, h1, h2⟩
    · cases first
      · obtain ⟨p', h3⟩ := want_bad hx (by decide) hT h1
        exact ⟨p', by rw [show (if false = true then Got.ok T' else wantS 44 T') = wantS 44 T' from rfl, h3]; rfl⟩
      · cases h1
    · have hg : ∃ T2', (if first then Got.ok T' else wantS 44 T') = .ok T2' ∧ Ext x T2 T2' := by
        cases first
        · exact want_ext (blk_dl hx) ⟨_, blk_next hx⟩ (by decide) hT h1
        · injection h1 with h1
          subst h1
          exact ⟨T', rfl, hT⟩
      obtain ⟨T2', g1, g2⟩ := hg
      have key : ∀ (T4 T4' : Tk) (ks' : List L8), Ext x T4 T4' → ((valF f dp T4).bind fun r => loopF f kind shut dp r.2 false t ks' (vs ++ [r.1])) = .bad p e →
          ∃ p', ((valF f dp T4').bind fun r => loopF f kind shut dp r.2 false t ks' (vs ++ [r.1])) = .bad p' e := fun T4 T4' ks' q1 q2 => by
        rcases Got.bind_bad q2 with q3 | ⟨⟨Jv, Tv⟩, q3, q4⟩
        · obtain ⟨p', z⟩ := valF_bad f dp T4 T4' p e he q1 q3
          exact ⟨p', by rw [z]; rfl⟩
        · rcases valF_ext (blk_dl hx) ⟨_, blk_next hx⟩ 0 f dp T4 T4' Jv Tv q1 q3 with ⟨Tv', z1, z2⟩ | ⟨z0, _⟩
          · rw [Nat.add_zero] at z1
            rw [z1]
            exact loopF_bad f kind shut dp Tv Tv' false t ks' _ p e he hs0 z2 q4
          · omega
      rw [g1]
      simp only [Got.bind]
      by_cases h7 : kind = 7
      · rw [if_pos h7] at h2 ⊢
        rcases Got.bind_bad h2 with h3 | ⟨T3, h3, h2⟩
        · obtain ⟨p', z⟩ := want_bad hx (by decide) g2 h3
          exact ⟨p', by rw [z]⟩
        · obtain ⟨T3', g3, e3⟩ := want_ext (blk_dl hx) ⟨_, blk_next hx⟩ (by decide) g2 h3
          have kk : T2'.t = T2.t := by
            rcases g2 with ⟨_, rfl⟩ | ⟨q, _⟩
            · rfl
            · unfold wantS at h3; rw [if_neg (by omega)] at h3; cases h3
          rw [g3, kk]
          simp only [Got.bind]
          rcases Got.bind_bad h2 with h4 | ⟨T4, h4, h2⟩
          · obtain ⟨p', z⟩ := want_bad hx (by decide) e3 h4
            exact ⟨p', by rw [z]⟩
          · obtain ⟨T4', g4, e4⟩ := want_ext (blk_dl hx) ⟨_, blk_next hx⟩ (by decide) e3 h4
            rw [g4]
            exact key T4 T4' _ e4 h2
      · rw [if_neg h7] at h2 ⊢
        exact key T2 T2' _ g2 h2
end
end
mutual
theorem valF_mono : ∀ (f f' dp : Nat) (T : Tk), (valF f dp T).In → f ≤ f' → valF f' dp T = valF f dp T
  | 0, _, _, _, h, _ => (h [] (by simp [valF])).elim
  | f + 1, f', dp, T, h, hf => by
    obtain ⟨g, rfl⟩ : ∃ g, f' = g + 1 := ⟨f' - 1, by omega⟩
    unfold valF at h ⊢
    by_cases a1 : 1 ≤ T.k ∧ T.k ≤ 5
    · rw [if_pos a1, if_pos a1]
    rw [if_neg a1] at h
    rw [if_neg a1, if_neg a1]
    by_cases a2 : T.k = 91
    · rw [if_pos a2] at h
      rw [if_pos a2, if_pos a2]
      exact manyF_mono f g 6 93 (dp + 1) T.t T h (by omega)
    rw [if_neg a2] at h
    rw [if_neg a2, if_neg a2]
    by_cases a3 : T.k = 123
    · rw [if_pos a3] at h
      rw [if_pos a3, if_pos a3]
      exact manyF_mono f g 7 125 (dp + 1) T.t T h (by omega)
    · rw [if_neg a3, if_neg a3]
theorem manyF_mono : ∀ (f f' kind shut dp : Nat) (t : L8) (T : Tk), (manyF f kind shut dp t T).In → f ≤ f' → manyF f' kind shut dp t T = manyF f kind shut dp t T
  | 0, _, _, _, _, _, _, h, _ => (h [] (by simp [manyF])).elim
  | f + 1, f', kind, shut, dp, t, T, h, hf => by
    obtain ⟨g, rfl⟩ : ∃ g, f' = g + 1 := ⟨f' - 1, by omega⟩
    unfold manyF at h ⊢
    split
    · rfl
    · next hd =>
      rw [if_neg hd] at h
      cases hn : nextS T.s with
      | bad p e => rfl
      | ok T1 =>
        rw [hn] at h
        exact loopF_mono f g kind shut dp T1 true t [] [] h (by omega)
theorem loopF_mono : ∀ (f f' kind shut dp : Nat) (T : Tk) (first : Bool) (t : L8) (ks : List L8) (vs : List JV), (loopF f kind shut dp T first t ks vs).In → f ≤ f' → loopF f' kind shut dp T first t ks vs = loopF f kind shut dp T first t ks vs
  | 0, _, _, _, _, _, _, _, _, _, h, _ => (h [] (by simp [loopF])).elim
  | f + 1, f', kind, shut, dp, T, first, t, ks, vs, h, hf => by
    obtain ⟨g, rfl⟩ : ∃ g, f' = g + 1 := ⟨f' - 1, by omega⟩
    unfold loopF at h ⊢
    by_cases a1 : T.k = shut
    · rw [if_pos a1, if_pos a1]
    rw [if_neg a1] at h
    rw [if_neg a1, if_neg a1]
    have key : ∀ (T4 : Tk) (ks' : List L8), ((valF f dp T4).bind fun r => loopF f kind shut dp r.2 false t ks' (vs ++ [r.1])).In →
        ((valF g dp T4).bind fun r => loopF g kind shut dp r.2 false t ks' (vs ++ [r.1])) = ((valF f dp T4).bind fun r => loopF f kind shut dp r.2 false t ks' (vs ++ [r.1])) := fun T4 ks' q => by
      rw [valF_mono f g dp T4 q.of_bind (by omega)]
      cases hv : valF f dp T4 with
      | bad p e => rfl
      | ok r =>
        rw [hv] at q
        exact loopF_mono f g kind shut dp r.2 false t ks' _ q (by omega)
    cases hg : (if first then Got.ok T else wantS 44 T) with
    | bad p e => rfl
    | ok T2 =>
      rw [hg] at h
      simp only [Got.bind] at h ⊢
      by_cases h7 : kind = 7
      · rw [if_pos h7] at h
        rw [if_pos h7, if_pos h7]
        cases h3 : wantS 5 T2 with
        | bad p e => rfl
        | ok T3 =>
          rw [h3] at h
          simp only [Got.bind] at h ⊢
          cases h4 : wantS 58 T3 with
          | bad p e => rfl
          | ok T4 =>
            rw [h4] at h
            exact key T4 _ h
      · rw [if_neg h7] at h
        rw [if_neg h7, if_neg h7]
        exact key T2 _ h
end
end Go.Proofs.YtmbjalcphdggnaaDoor
