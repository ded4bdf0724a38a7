/- What stands behind a token changes it not. -/
import Derived.Test.YtmbjalcphdggnaaDoorJsT
import Derived.Lib.TrimUEq
import Derived.Lib.MapLaws
namespace Go.Proofs.YtmbjalcphdggnaaDoor
set_option linter.unusedSimpArgs false
set_option linter.unusedVariables false
open Go.RowKit
theorem decN_up {n n' b0 b1 b2 b3 c1 c2 c3 : Nat} (hn : n ≤ n') (h1 : 1 < n → c1 = b1) (h2 : 2 < n → c2 = b2) (h3 : 3 < n → c3 = b3) (h : Lib.decodeN n b0 b1 b2 b3 ≠ (65533, 1)) : Lib.decodeN n' b0 c1 c2 c3 = Lib.decodeN n b0 b1 b2 b3 := by
  unfold Lib.decodeN at h ⊢
  by_cases a0 : b0 < 128
  · rw [if_pos a0, if_pos a0]
  rw [if_neg a0] at h ⊢
  rw [if_neg a0]
  by_cases a1 : b0 / 32 = 6 ∧ (1 < n ∧ b1 / 64 = 2)
  · rw [if_pos a1, if_pos ⟨a1.1, by omega, by rw [h1 a1.2.1]; exact a1.2.2⟩, h1 a1.2.1]
  rw [if_neg a1] at h ⊢
  by_cases a2 : b0 / 16 = 14 ∧ (1 < n ∧ b1 / 64 = 2) ∧ (2 < n ∧ b2 / 64 = 2)
  · rw [if_pos a2, if_neg (by omega), if_pos ⟨a2.1, ⟨by omega, by rw [h1 a2.2.1.1]; exact a2.2.1.2⟩, by omega, by rw [h2 a2.2.2.1]; exact a2.2.2.2⟩, h1 a2.2.1.1, h2 a2.2.2.1]
  rw [if_neg a2] at h ⊢
  by_cases a3 : b0 / 8 = 30 ∧ (1 < n ∧ b1 / 64 = 2) ∧ (2 < n ∧ b2 / 64 = 2) ∧ (3 < n ∧ b3 / 64 = 2)
  · rw [if_pos a3, if_neg (by omega), if_neg (by omega), if_pos ⟨a3.1, ⟨by omega, by rw [h1 a3.2.1.1]; exact a3.2.1.2⟩, ⟨by omega, by rw [h2 a3.2.2.1.1]; exact a3.2.2.1.2⟩, by omega, by rw [h3 a3.2.2.2.1]; exact a3.2.2.2.2⟩, h1 a3.2.1.1, h2 a3.2.2.1.1, h3 a3.2.2.2.1]
  · rw [if_neg a3] at h
    exact absurd rfl h
theorem decN_down {n n' b0 b1 b2 b3 c1 c2 c3 : Nat} (hn : n ≤ n') (h1 : 1 < n → c1 = b1) (h2 : 2 < n → c2 = b2) (h3 : 3 < n → c3 = b3) (g1 : ¬ 1 < n → c1 < 128) (g2 : ¬ 2 < n → c2 < 128) (g3 : ¬ 3 < n → c3 < 128) (h : Lib.decodeN n' b0 c1 c2 c3 ≠ (65533, 1)) : Lib.decodeN n b0 b1 b2 b3 = Lib.decodeN n' b0 c1 c2 c3 := by
  refine (decN_up hn h1 h2 h3 ?_).symm
  intro e
  apply h
  unfold Lib.decodeN at e ⊢
  by_cases a0 : b0 < 128
  · rw [if_pos a0] at e ⊢; exact e
  rw [if_neg a0] at e ⊢
  by_cases a1 : b0 / 32 = 6 ∧ (1 < n' ∧ c1 / 64 = 2)
  · have q1 : 1 < n := by
      rcases Nat.lt_or_ge 1 n with x | x
      · exact x
      · have := g1 (by omega); omega
    rw [if_pos ⟨a1.1, q1, by rw [← h1 q1]; exact a1.2.2⟩] at e
    rw [if_pos a1, h1 q1]; exact e
  by_cases a2 : b0 / 16 = 14 ∧ (1 < n' ∧ c1 / 64 = 2) ∧ (2 < n' ∧ c2 / 64 = 2)
  · have q2 : 2 < n := by
      rcases Nat.lt_or_ge 2 n with x | x
      · exact x
      · have := g2 (by omega); omega
    rw [if_neg (by omega), if_pos ⟨a2.1, ⟨by omega, by rw [← h1 (by omega)]; exact a2.2.1.2⟩, q2, by rw [← h2 q2]; exact a2.2.2.2⟩] at e
    rw [if_neg a1, if_pos a2, h1 (by omega), h2 q2]; exact e
  by_cases a3 : b0 / 8 = 30 ∧ (1 < n' ∧ c1 / 64 = 2) ∧ (2 < n' ∧ c2 / 64 = 2) ∧ (3 < n' ∧ c3 / 64 = 2)
  · have q3 : 3 < n := by
      rcases Nat.lt_or_ge 3 n with x | x
      · exact x
      · have := g3 (by omega); omega
    rw [if_neg (by omega), if_neg (by omega), if_pos ⟨a3.1, ⟨by omega, by rw [← h1 (by omega)]; exact a3.2.1.2⟩, ⟨by omega, by rw [← h2 (by omega)]; exact a3.2.2.1.2⟩, q3, by rw [← h3 q3]; exact a3.2.2.2.2⟩] at e
    rw [if_neg a1, if_neg a2, if_pos a3, h1 (by omega), h2 (by omega), h3 q3]; exact e
  · rw [if_neg a1, if_neg a2, if_neg a3]
theorem chW_zero (s : L8) : chW s = 0 ↔ Lib.decodeL s = (65533, 1) := by
  unfold chW
  have := (decodeL_max s).1
  constructor
  · intro h
    split at h
    · next e => exact Prod.ext e.1 e.2
    · omega
  · intro h
    rw [h]; rfl
theorem chW_of {s s' : L8} (h : Lib.decodeL s = Lib.decodeL s') : chW s = chW s' := by unfold chW; rw [h]
theorem getD_app {u x : L8} {i : Nat} (h : i < u.length) : (u ++ x).getD i 0 = u.getD i 0 := by
  rw [List.getD_eq_getElem?_getD, List.getD_eq_getElem?_getD, List.getElem?_append_left h]
/-- No byte of them is one of UTF-8's behind the first. -/
def low (x : L8) : Prop := ∀ c ∈ x, c.toNat < 128
theorem getD_low {u x : L8} {i : Nat} (hx : low x) (h : ¬ i < u.length) : ((u ++ x).getD i 0).toNat < 128 := by
  rw [List.getD_eq_getElem?_getD, List.getElem?_append_right (by omega)]
  cases e : x[i - u.length]? with
  | none => simp
  | some c => exact hx c (List.mem_of_getElem? e)
theorem chW_app {u : L8} (x : L8) (hu : u ≠ []) (h : chW u ≠ 0) : chW (u ++ x) = chW u := by
  have hl : 0 < u.length := List.length_pos_iff.2 hu
  apply chW_of
  rw [Lib.decodeL_N, Lib.decodeL_N, getD_app hl]
  rw [Ne, chW_zero, Lib.decodeL_N] at h
  exact decN_up (by simp) (fun q => by rw [getD_app q]) (fun q => by rw [getD_app q]) (fun q => by rw [getD_app q]) h
theorem chW_back {u x : L8} (hx : low x) (hu : u ≠ []) (h : chW (u ++ x) ≠ 0) : chW u = chW (u ++ x) := by
  have hl : 0 < u.length := List.length_pos_iff.2 hu
  apply chW_of
  rw [Lib.decodeL_N, Lib.decodeL_N, getD_app hl]
  rw [Ne, chW_zero, Lib.decodeL_N, getD_app hl] at h
  exact decN_down (by simp) (fun q => by rw [getD_app q]) (fun q => by rw [getD_app q]) (fun q => by rw [getD_app q]) (getD_low hx) (getD_low hx) (getD_low hx) h
theorem chW_le {u : L8} (hu : u ≠ []) : chW u ≤ u.length := by
  have := Lib.decodeL_le u hu
  unfold chW
  split <;> omega
theorem isS_app {u : L8} (x cs : L8) (hu : u ≠ []) : isS (u ++ x) cs = isS u cs := by
  cases u with
  | nil => exact absurd rfl hu
  | cons c t => rfl
theorem drop_app {u : L8} (x : L8) {k : Nat} (h : k ≤ u.length) : (u ++ x).drop k = u.drop k ++ x := List.drop_append_of_le_length h
theorem fourS_app (x : L8) : ∀ (f : Nat) (u : L8) (m v : Nat), fourS f u m = some v → f ≤ u.length ∧ fourS f (u ++ x) m = some v
  | 0, u, m, v, h => ⟨Nat.zero_le _, by simpa [fourS] using h⟩
  | f + 1, [], m, v, h => by simp [fourS] at h
  | f + 1, c :: u, m, v, h => by
    unfold fourS at h
    cases hc : hexV c with
    | none => rw [hc] at h; cases h
    | some d =>
      rw [hc] at h
      obtain ⟨a, b⟩ := fourS_app x f u _ v h
      refine ⟨by simpa using a, ?_⟩
      show (match hexV c with | none => none | some d => fourS f (u ++ x) (m * 16 + d)) = some v
      rw [hc]
      exact b
def blk_ (x : L8) : Prop := ∀ c ∈ x, blL.contains c = true
theorem bl_c {c : UInt8} (h : blL.contains c = true) : c = 32 ∨ c = 9 ∨ c = 10 ∨ c = 13 := by
  have := List.contains_iff_mem.1 h
  unfold blL at this
  simpa using this
theorem blk_low {x : L8} (h : blk_ x) : low x := fun c hc => by rcases bl_c (h c hc) with rfl | rfl | rfl | rfl <;> decide
theorem blk_is {x cs : L8} (h : blk_ x) (hc : cs.contains 32 = false ∧ cs.contains 9 = false ∧ cs.contains 10 = false ∧ cs.contains 13 = false) : isS x cs = false := by
  cases x with
  | nil => rfl
  | cons c t =>
    obtain ⟨a, b, d, e⟩ := hc
    rcases bl_c (h c (List.mem_cons_self ..)) with rfl | rfl | rfl | rfl <;> assumption
theorem fourS_back {x : L8} (hx : blk_ x) : ∀ (f : Nat) (u : L8) (m v : Nat), fourS f (u ++ x) m = some v → fourS f u m = some v
  | 0, u, m, v, h => by simpa [fourS] using h
  | f + 1, [], m, v, h => by
    cases x with
    | nil => exact h
    | cons c t =>
      have h' : (match hexV c with | none => none | some d => fourS f t (m * 16 + d)) = some v := h
      have : hexV c = none := by rcases bl_c (hx c (List.mem_cons_self ..)) with rfl | rfl | rfl | rfl <;> decide
      rw [this] at h'
      cases h'
  | f + 1, c :: u, m, v, h => by
    have h' : (match hexV c with | none => none | some d => fourS f (u ++ x) (m * 16 + d)) = some v := h
    show (match hexV c with | none => none | some d => fourS f u (m * 16 + d)) = some v
    cases hc : hexV c with
    | none => rw [hc] at h'; cases h'
    | some d => rw [hc] at h'; exact fourS_back hx f u _ v h'
theorem isS_ne {u cs : L8} (h : isS u cs = true) : u ≠ [] := by rintro rfl; cases h
theorem escS_app {u y : L8} {d : Nat} (x : L8) (h : escS u = some (y, d)) : d ≤ u.length ∧ escS (u ++ x) = some (y, d) := by
  have hu : u ≠ [] := by rintro rfl; simp [escS, isS] at h
  cases u with
  | nil => exact absurd rfl hu
  | cons c t =>
    unfold escS at h ⊢
    rw [isS_app x _ hu, isS_app x _ hu]
    by_cases a1 : isS (c :: t) escFrom = true
    · rw [if_pos a1] at h ⊢
      simp at h
      exact ⟨by simp; omega, by simpa using h⟩
    rw [if_neg a1] at h ⊢
    by_cases a2 : isS (c :: t) [117] = true
    · rw [if_pos a2] at h ⊢
      have e1 : (c :: t).drop 1 = t := rfl
      have e2 : (c :: t ++ x).drop 1 = t ++ x := rfl
      rw [e1] at h
      rw [e2]
      cases hf : fourS 4 t 0 with
      | none => rw [hf] at h; cases h
      | some v =>
        rw [hf] at h
        obtain ⟨l4, f4⟩ := fourS_app x 4 t 0 v hf
        rw [f4]
        simp only at h ⊢
        have l5 : 5 ≤ (c :: t).length := by simp; omega
        by_cases a3 : (isHi v && isS ((c :: t).drop 5) [92] && isS ((c :: t).drop 6) [117]) = true
        · have a3' := a3
          simp only [Bool.and_eq_true] at a3'
          have n5 := isS_ne a3'.1.2
          have n6 := isS_ne a3'.2
          have l6 : 6 < (c :: t).length := by
            rcases Nat.lt_or_ge 6 (c :: t).length with q | q
            · exact q
            · exact absurd (List.drop_of_length_le q) n6
          have b3 : (isHi v && isS ((c :: t ++ x).drop 5) [92] && isS ((c :: t ++ x).drop 6) [117]) = true := by
            rw [drop_app x (by omega), drop_app x (by omega), isS_app x _ n5, isS_app x _ n6]
            exact a3
          rw [if_pos a3] at h
          rw [if_pos b3]
          cases hf2 : fourS 4 ((c :: t).drop 7) 0 with
          | none => rw [hf2] at h; cases h
          | some lw =>
            rw [hf2] at h
            obtain ⟨l7, f7⟩ := fourS_app x 4 _ 0 lw hf2
            rw [List.length_drop] at l7
            rw [drop_app x (by omega), f7]
            simp only at h ⊢
            split at h
            · next q => rw [if_pos q]; simp at h; exact ⟨by omega, by simpa using h⟩
            · cases h
        · rw [if_neg a3] at h
          split at h
          · cases h
          · next q =>
            have hh : isHi v = false := by
              unfold isSur at q
              unfold isHi
              simp only [Bool.and_eq_true, decide_eq_true_eq, not_and] at q
              rw [Bool.and_eq_false_iff]
              rcases Nat.lt_or_ge v 55296 with z | z
              · exact .inl (by simpa using z)
              · have := q z; exact .inr (by simp; omega)
            rw [if_neg (by rw [hh]; simp), if_neg q]
            simp at h
            exact ⟨by omega, by simpa using h⟩
    · rw [if_neg a2] at h
      cases h
theorem escS_back {u x y : L8} {d : Nat} (hx : blk_ x) (h : escS (u ++ x) = some (y, d)) : escS u = some (y, d) := by
  have hu : u ≠ [] := by
    rintro rfl
    rw [List.nil_append] at h
    unfold escS at h
    rw [blk_is hx (by decide), blk_is hx (by decide)] at h
    simp at h
  cases u with
  | nil => exact absurd rfl hu
  | cons c t =>
    unfold escS at h ⊢
    rw [isS_app x _ hu, isS_app x _ hu] at h
    by_cases a1 : isS (c :: t) escFrom = true
    · rw [if_pos a1] at h ⊢
      simpa using h
    rw [if_neg a1] at h ⊢
    by_cases a2 : isS (c :: t) [117] = true
    · rw [if_pos a2] at h ⊢
      have e1 : (c :: t).drop 1 = t := rfl
      have e2 : (c :: t ++ x).drop 1 = t ++ x := rfl
      rw [e2] at h
      rw [e1]
      cases hf : fourS 4 (t ++ x) 0 with
      | none => rw [hf] at h; cases h
      | some v =>
        rw [hf] at h
        have f4 := fourS_back hx 4 t 0 v hf
        rw [f4]
        simp only at h ⊢
        have l4 := (fourS_app [] 4 t 0 v f4).1
        have q5 : isS ((c :: t ++ x).drop 5) [92] = isS ((c :: t).drop 5) [92] := by
          rw [drop_app x (by simp; omega)]
          by_cases q : (c :: t).drop 5 = []
          · rw [q, List.nil_append, blk_is hx (by decide)]; rfl
          · rw [isS_app x _ q]
        by_cases s5 : isS ((c :: t).drop 5) [92] = true
        · have l6 : 6 ≤ (c :: t).length := by
            rcases Nat.lt_or_ge 5 (c :: t).length with q | q
            · exact q
            · exact absurd (List.drop_of_length_le q) (isS_ne s5)
          have q6 : isS ((c :: t ++ x).drop 6) [117] = isS ((c :: t).drop 6) [117] := by
            rw [drop_app x l6]
            by_cases q : (c :: t).drop 6 = []
            · rw [q, List.nil_append, blk_is hx (by decide)]; rfl
            · rw [isS_app x _ q]
          rw [q5, q6] at h
          by_cases a3 : (isHi v && isS ((c :: t).drop 5) [92] && isS ((c :: t).drop 6) [117]) = true
          · rw [if_pos a3] at h ⊢
            have l7 : 7 ≤ (c :: t).length := by
              simp only [Bool.and_eq_true] at a3
              rcases Nat.lt_or_ge 6 (c :: t).length with q | q
              · exact q
              · exact absurd (List.drop_of_length_le q) (isS_ne a3.2)
            rw [drop_app x l7] at h
            cases hf2 : fourS 4 ((c :: t).drop 7 ++ x) 0 with
            | none => rw [hf2] at h; cases h
            | some lw =>
              rw [hf2] at h
              rw [fourS_back hx 4 _ 0 lw hf2]
              exact h
          · rw [if_neg a3] at h ⊢
            exact h
        · rw [q5] at h
          have s5' := Bool.eq_false_iff.2 s5
          rw [s5'] at h ⊢
          simpa using h
    · rw [if_neg a2] at h
      cases h
end Go.Proofs.YtmbjalcphdggnaaDoor
