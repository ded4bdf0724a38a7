/- What stands behind a token changes it not: strings, numbers, words, tokens. -/
import Derived.Test.YtmbjalcphdggnaaDoorJsV
namespace Go.Proofs.YtmbjalcphdggnaaDoor
set_option linter.unusedSimpArgs false
set_option linter.unusedVariables false
open Go.RowKit
theorem strF_app (x : L8) : ∀ (f : Nat) (u o : L8) (d : Nat) (r : L8 × Nat), strF f u o d = some r → ∀ f', f ≤ f' → strF f' (u ++ x) o d = some r
  | 0, u, o, d, r, h, f', hf => by simp [strF] at h
  | f + 1, [], o, d, r, h, f', hf => by simp [strF] at h
  | f + 1, c :: t, o, d, r, h, f', hf => by
    obtain ⟨g, rfl⟩ : ∃ g, f' = g + 1 := ⟨f' - 1, by omega⟩
    simp only [strF, List.cons_append] at h ⊢
    by_cases a1 : c.toNat = 34
    · rw [if_pos a1] at h ⊢; exact h
    rw [if_neg a1] at h ⊢
    by_cases a2 : c.toNat = 92
    · rw [if_pos a2] at h ⊢
      cases he : escS t with
      | none => rw [he] at h; cases h
      | some yd =>
        obtain ⟨y, e⟩ := yd
        rw [he] at h
        obtain ⟨l1, h1⟩ := escS_app x he
        rw [h1]
        simp only at h ⊢
        rw [drop_app x l1]
        exact strF_app x f _ _ _ r h g (by omega)
    rw [if_neg a2] at h ⊢
    by_cases a3 : c.toNat < 32
    · rw [if_pos a3] at h; cases h
    rw [if_neg a3] at h ⊢
    by_cases a4 : chW (c :: t) = 0
    · rw [if_pos a4] at h; cases h
    rw [if_neg a4] at h
    have e : chW (c :: (t ++ x)) = chW (c :: t) := chW_app (u := c :: t) x (by simp) a4
    have l : chW (c :: t) ≤ (c :: t).length := chW_le (by simp)
    rw [e, if_neg a4, show c :: (t ++ x) = (c :: t) ++ x from rfl, drop_app x l, List.take_append_of_le_length l]
    exact strF_app x f _ _ _ r h g (by omega)
theorem strF_blk {x : L8} (hx : blk_ x) : ∀ (f : Nat) (u o : L8) (d : Nat), blk_ u → strF f u o d = none
  | 0, u, o, d, _ => rfl
  | f + 1, [], o, d, _ => rfl
  | f + 1, c :: t, o, d, h => by
    simp only [strF]
    have hc := bl_c (h c (List.mem_cons_self ..))
    have a1 : ¬ c.toNat = 34 := by rcases hc with rfl | rfl | rfl | rfl <;> decide
    have a2 : ¬ c.toNat = 92 := by rcases hc with rfl | rfl | rfl | rfl <;> decide
    rw [if_neg a1, if_neg a2]
    split
    · rfl
    · split
      · rfl
      · exact strF_blk hx f _ _ _ (fun q hq => h q (List.mem_of_mem_drop hq))
theorem strF_back {x : L8} (hx : blk_ x) : ∀ (f : Nat) (u o : L8) (d : Nat) (r : L8 × Nat), strF f (u ++ x) o d = some r → ∀ f', u.length < f' → strF f' u o d = some r
  | 0, u, o, d, r, h, f', hf => by simp [strF] at h
  | f + 1, [], o, d, r, h, f', hf => by
    rw [List.nil_append, strF_blk hx _ _ _ _ hx] at h
    cases h
  | f + 1, c :: t, o, d, r, h, f', hf => by
    obtain ⟨g, rfl⟩ : ∃ g, f' = g + 1 := ⟨f' - 1, by omega⟩
    simp only [strF, List.cons_append] at h ⊢
    by_cases a1 : c.toNat = 34
    · rw [if_pos a1] at h ⊢; exact h
    rw [if_neg a1] at h ⊢
    by_cases a2 : c.toNat = 92
    · rw [if_pos a2] at h ⊢
      cases he : escS (t ++ x) with
      | none => rw [he] at h; cases h
      | some yd =>
        obtain ⟨y, e⟩ := yd
        rw [he] at h
        have h1 := escS_back hx he
        obtain ⟨l1, _⟩ := escS_app [] h1
        rw [h1]
        simp only at h ⊢
        rw [drop_app x l1] at h
        exact strF_back hx f _ _ _ r h g (by rw [List.length_drop]; simp at hf; omega)
    rw [if_neg a2] at h ⊢
    by_cases a3 : c.toNat < 32
    · rw [if_pos a3] at h; cases h
    rw [if_neg a3] at h ⊢
    by_cases a4 : chW (c :: (t ++ x)) = 0
    · rw [if_pos a4] at h; cases h
    rw [if_neg a4] at h
    have e : chW (c :: t) = chW (c :: (t ++ x)) := chW_back (u := c :: t) (blk_low hx) (by simp) a4
    have l : chW (c :: t) ≤ (c :: t).length := chW_le (by simp)
    rw [← e] at h a4
    rw [if_neg a4]
    rw [show c :: (t ++ x) = (c :: t) ++ x from rfl, drop_app x l, List.take_append_of_le_length l] at h
    exact strF_back hx f _ _ _ r h g (by rw [List.length_drop]; simp at hf ⊢; omega)
theorem strF_len : ∀ (f : Nat) (u o : L8) (d : Nat) (r : L8 × Nat), strF f u o d = some r → r.2 ≤ d + u.length
  | 0, u, o, d, r, h => by simp [strF] at h
  | f + 1, [], o, d, r, h => by simp [strF] at h
  | f + 1, c :: t, o, d, r, h => by
    simp only [strF] at h
    split at h
    · injection h with h; subst h; simp
    · split at h
      · cases he : escS t with
        | none => rw [he] at h; cases h
        | some yd =>
          obtain ⟨y, e⟩ := yd
          rw [he] at h
          obtain ⟨l1, _⟩ := escS_app [] he
          have := strF_len f _ _ _ r h
          rw [List.length_drop] at this
          simp
          omega
      · split at h
        · cases h
        · split at h
          · cases h
          · have l : chW (c :: t) ≤ (c :: t).length := chW_le (by simp)
            have := strF_len f _ _ _ r h
            rw [List.length_drop] at this
            omega
theorem strS_app {u : L8} (x : L8) {r : L8 × Nat} (h : strS u = some r) : strS (u ++ x) = some r := strF_app x _ _ _ _ r h _ (by simp)
theorem strS_back {u x : L8} (hx : blk_ x) {r : L8 × Nat} (h : strS (u ++ x) = some r) : strS u = some r := strF_back hx _ _ _ _ r h _ (by omega)
theorem strS_len {u : L8} {r : L8 × Nat} (h : strS u = some r) : r.2 ≤ u.length := by have := strF_len _ _ _ _ r h; omega
/-- What may stand behind a token. -/
def dl (x : L8) : Prop := x = [] ∨ ∃ c t, x = c :: t ∧ (blL.contains c = true ∨ c = 44 ∨ c = 93)
theorem dl_c {c : UInt8} (h : blL.contains c = true ∨ c = 44 ∨ c = 93) : c = 32 ∨ c = 9 ∨ c = 10 ∨ c = 13 ∨ c = 44 ∨ c = 93 := by
  rcases h with h | h | h
  · rcases bl_c h with h | h | h | h <;> simp [h]
  · simp [h]
  · simp [h]
theorem blk_dl {x : L8} (h : blk_ x) : dl x := by
  cases x with
  | nil => exact .inl rfl
  | cons c t => exact .inr ⟨c, t, rfl, .inl (h c (List.mem_cons_self ..))⟩
theorem dl_is {x cs : L8} (h : dl x) (hc : ∀ c : UInt8, (c = 32 ∨ c = 9 ∨ c = 10 ∨ c = 13 ∨ c = 44 ∨ c = 93) → cs.contains c = false) : isS x cs = false := by
  rcases h with rfl | ⟨c, t, rfl, h⟩
  · rfl
  · exact hc c (dl_c h)
theorem dl_dig {x : L8} (h : dl x) : digS x = false := by
  rcases h with rfl | ⟨c, t, rfl, h⟩
  · rfl
  · show isDg c = false
    rcases dl_c h with rfl | rfl | rfl | rfl | rfl | rfl <;> decide
theorem isS_dl {x cs : L8} (h : dl x) (u : L8) (hc : ∀ c : UInt8, (c = 32 ∨ c = 9 ∨ c = 10 ∨ c = 13 ∨ c = 44 ∨ c = 93) → cs.contains c = false) : isS (u ++ x) cs = isS u cs := by
  cases u with
  | nil => rw [List.nil_append, dl_is h hc]; rfl
  | cons c t => rfl
theorem digS_dl {x : L8} (h : dl x) (u : L8) : digS (u ++ x) = digS u := by
  cases u with
  | nil => rw [List.nil_append, dl_dig h]; rfl
  | cons c t => rfl
theorem runDg_dl {x : L8} (h : dl x) : ∀ u : L8, runDg (u ++ x) = runDg u
  | [] => by rw [List.nil_append, run_zero (dl_dig h)]; rfl
  | c :: t => by
    rw [List.cons_append, runDg_cons, runDg_cons, runDg_dl h t]
theorem runLo_dl {x : L8} (h : dl x) : ∀ u : L8, runLo (u ++ x) = runLo u
  | [] => by
    rcases h with rfl | ⟨c, t, rfl, h⟩
    · rfl
    · unfold runLo
      rw [List.nil_append, List.takeWhile_cons]
      have : isLo c = false := by rcases dl_c h with rfl | rfl | rfl | rfl | rfl | rfl <;> decide
      rw [this]
      rfl
  | c :: t => by
    have ih := runLo_dl h t
    unfold runLo at ih ⊢
    rw [List.cons_append, List.takeWhile_cons, List.takeWhile_cons]
    split
    · simp [ih]
    · rfl
theorem numL_dl {x : L8} (h : dl x) (u : L8) : numL (u ++ x) = numL u := by
  have cI : ∀ v : L8, isS (v ++ x) [45] = isS v [45] := fun v => isS_dl h v (by rintro c (rfl | rfl | rfl | rfl | rfl | rfl) <;> decide)
  have c0 : ∀ v : L8, isS (v ++ x) [48] = isS v [48] := fun v => isS_dl h v (by rintro c (rfl | rfl | rfl | rfl | rfl | rfl) <;> decide)
  have cF : ∀ v : L8, isS (v ++ x) [46] = isS v [46] := fun v => isS_dl h v (by rintro c (rfl | rfl | rfl | rfl | rfl | rfl) <;> decide)
  have cE : ∀ v : L8, isS (v ++ x) [101, 69] = isS v [101, 69] := fun v => isS_dl h v (by rintro c (rfl | rfl | rfl | rfl | rfl | rfl) <;> decide)
  have cS : ∀ v : L8, isS (v ++ x) [43, 45] = isS v [43, 45] := fun v => isS_dl h v (by rintro c (rfl | rfl | rfl | rfl | rfl | rfl) <;> decide)
  have cX : ∀ v : L8, isS (v ++ x) [43, 45, 46, 101, 69] = isS v [43, 45, 46, 101, 69] := fun v => isS_dl h v (by rintro c (rfl | rfl | rfl | rfl | rfl | rfl) <;> decide)
  have eI : nI (u ++ x) = nI u := by unfold nI; rw [cI]
  have eD : ∀ v : L8, nD (v ++ x) = nD v := fun v => by unfold nD; rw [c0, digS_dl h, runDg_dl h]
  have eF : ∀ v : L8, nF (v ++ x) = nF v := fun v => by
    unfold nF
    rw [cF]
    by_cases q : isS v [46] = true
    · rw [if_pos q, if_pos q, drop_app x (isS_le q), digS_dl h, runDg_dl h]
    · rw [if_neg q, if_neg q]
  have eS : ∀ v : L8, nS (v ++ x) = nS v := fun v => by unfold nS; rw [cS]
  have eE : ∀ v : L8, nE (v ++ x) = nE v := fun v => by
    unfold nE
    rw [cE]
    by_cases q : isS v [101, 69] = true
    · have l1 := isS_le q
      rw [if_pos q, if_pos q, drop_app x l1, eS]
      have l2 : 1 + nS (v.drop 1) ≤ v.length := by
        unfold nS
        split
        · next q2 => have := isS_le q2; rw [List.length_drop] at this; omega
        · omega
      rw [drop_app x l2, digS_dl h, runDg_dl h]
    · rw [if_neg q, if_neg q]
  have eX : ∀ v : L8, nX (v ++ x) = nX v := fun v => by unfold nX; rw [digS_dl h, cX]
  have l0 := nI_le u
  unfold numL
  rw [eI, drop_app x l0, eD]
  cases hD : nD (u.drop (nI u)) with
  | none => rfl
  | some d =>
    have l1 := nD_le hD
    rw [List.length_drop] at l1
    simp only
    rw [drop_app x (by omega), eF]
    cases hF : nF (u.drop (nI u + d)) with
    | none => rfl
    | some f =>
      have l2 := nF_le hF
      rw [List.length_drop] at l2
      simp only
      rw [drop_app x (by omega), eE]
      cases hE : nE (u.drop (nI u + d + f)) with
      | none => rfl
      | some e =>
        have l3 := nE_le hE
        rw [List.length_drop] at l3
        simp only
        rw [drop_app x (by omega), eX]
/-- A token is read as it is, whatever may stand behind it. -/
theorem lexS_app {u x : L8} (hx : dl x) (hu : u ≠ []) {r : Nat × L8 × Nat} (h : lexS u = some r) : lexS (u ++ x) = some r ∧ r.2.2 ≤ u.length ∧ r.1 ≠ 0 := by
  cases u with
  | nil => exact absurd rfl hu
  | cons c t =>
    simp only [lexS, List.cons_append] at h ⊢
    by_cases a1 : sgL.contains c = true
    · rw [if_pos a1] at h ⊢
      injection h with h
      subst h
      refine ⟨rfl, by simp, ?_⟩
      have := List.contains_iff_mem.1 a1
      unfold sgL at this
      simp at this
      rcases this with rfl | rfl | rfl | rfl | rfl | rfl <;> decide
    rw [if_neg a1] at h ⊢
    by_cases a2 : c.toNat = 34
    · rw [if_pos a2] at h ⊢
      cases hs : strS t with
      | none => rw [hs] at h; cases h
      | some q =>
        rw [hs] at h
        rw [strS_app x hs]
        injection h with h
        subst h
        have := strS_len hs
        exact ⟨rfl, by simp; omega, by simp⟩
    rw [if_neg a2] at h ⊢
    by_cases a3 : (isDg c || decide (c.toNat = 45)) = true
    · rw [if_pos a3] at h ⊢
      rw [show c :: (t ++ x) = (c :: t) ++ x from rfl, numL_dl hx]
      cases hm : numL (c :: t) with
      | none => rw [hm] at h; cases h
      | some m =>
        rw [hm] at h
        have l := (numL_le hm).2
        injection h with h
        subst h
        refine ⟨by simp only; rw [List.take_append_of_le_length l], l, by simp⟩
    rw [if_neg a3] at h ⊢
    by_cases a4 : isLo c = true
    · rw [if_pos a4] at h ⊢
      have l := runLo_le (c :: t)
      rw [show c :: (t ++ x) = (c :: t) ++ x from rfl, runLo_dl hx, List.take_append_of_le_length l]
      split at h
      · cases h
      · next q =>
        rw [if_neg q]
        injection h with h
        subst h
        exact ⟨rfl, l, q⟩
    · rw [if_neg a4] at h; cases h
theorem lexS_back {u x : L8} (hx : blk_ x) (hu : u ≠ []) (h : lexS u = none) : lexS (u ++ x) = none := by
  have hd := blk_dl hx
  cases u with
  | nil => exact absurd rfl hu
  | cons c t =>
    simp only [lexS, List.cons_append] at h ⊢
    by_cases a1 : sgL.contains c = true
    · rw [if_pos a1] at h; cases h
    rw [if_neg a1] at h ⊢
    by_cases a2 : c.toNat = 34
    · rw [if_pos a2] at h ⊢
      cases hs : strS (t ++ x) with
      | none => rfl
      | some q => rw [strS_back hx hs] at h; cases h
    rw [if_neg a2] at h ⊢
    by_cases a3 : (isDg c || decide (c.toNat = 45)) = true
    · rw [if_pos a3] at h ⊢
      rw [show c :: (t ++ x) = (c :: t) ++ x from rfl, numL_dl hd]
      cases hm : numL (c :: t) with
      | none => rfl
      | some m => rw [hm] at h; cases h
    rw [if_neg a3] at h ⊢
    by_cases a4 : isLo c = true
    · rw [if_pos a4] at h ⊢
      have l := runLo_le (c :: t)
      rw [show c :: (t ++ x) = (c :: t) ++ x from rfl, runLo_dl hd, List.take_append_of_le_length l]
      exact h
    · rw [if_neg a4]
theorem blS_app (s : L8) (h : blk_ s) (u : L8) : blS (s ++ u) = s.length + blS u := by
  induction s with
  | nil => simp
  | cons c t ih =>
    have hc := h c (List.mem_cons_self ..)
    have := ih (fun q hq => h q (List.mem_cons_of_mem _ hq))
    unfold blS at this ⊢
    rw [List.cons_append, List.takeWhile_cons, hc]
    simp
    omega
theorem blS_split (u : L8) : u = u.take (blS u) ++ u.drop (blS u) ∧ blk_ (u.take (blS u)) ∧ (u.drop (blS u) = [] ∨ ∃ c t, u.drop (blS u) = c :: t ∧ blL.contains c = false) := by
  induction u with
  | nil => exact ⟨rfl, (fun c hc => by simp at hc), .inl rfl⟩
  | cons c t ih =>
    by_cases hc : blL.contains c = true
    · have e : blS (c :: t) = blS t + 1 := by unfold blS; rw [List.takeWhile_cons, hc]; simp
      rw [e]
      refine ⟨by rw [List.take_succ_cons, List.drop_succ_cons, List.cons_append, ← ih.1], fun q hq => ?_, by rw [List.drop_succ_cons]; exact ih.2.2⟩
      rw [List.take_succ_cons] at hq
      rcases List.mem_cons.1 hq with rfl | hq
      · exact hc
      · exact ih.2.1 q hq
    · have e : blS (c :: t) = 0 := by unfold blS; rw [List.takeWhile_cons, if_neg hc]; rfl
      rw [e]
      exact ⟨rfl, (fun q hq => by simp at hq), .inr ⟨c, t, rfl, by simpa using hc⟩⟩
/-- Blanks in front of a token. -/
theorem next_bl (s : L8) (h : blk_ s) (u : L8) : nextS (s ++ u) = nextS u := by
  unfold nextS
  rw [blS_app s h, show (s ++ u).drop (s.length + blS u) = u.drop (blS u) by rw [← List.drop_drop, List.drop_left]]
theorem blS_no {c : UInt8} {t : L8} (h : blL.contains c = false) : blS (c :: t) = 0 := by unfold blS; rw [List.takeWhile_cons, h]; rfl
/-- The next token of a text with something behind it. -/
theorem next_app {u x : L8} (hx : dl x) {T : Tk} (h : nextS u = .ok T) : (T.k ≠ 0 ∧ nextS (u ++ x) = .ok ⟨T.k, T.t, T.ts ++ x, T.s ++ x⟩) ∨ (T.k = 0 ∧ nextS (u ++ x) = nextS x) := by
  obtain ⟨e1, e2, e3⟩ := blS_split u
  have hs : nextS (u ++ x) = nextS (u.drop (blS u) ++ x) := by
    conv => lhs; rw [e1, List.append_assoc]
    exact next_bl _ e2 _
  unfold nextS at h
  rcases e3 with e3 | ⟨c, t, e3, hc⟩
  · rw [e3] at h hs
    have : T = ⟨0, [], [], []⟩ := by simpa [lexS] using h.symm
    exact .inr ⟨by rw [this], by rw [hs, List.nil_append]⟩
  · rw [e3] at h hs
    rw [hs]
    cases hl : lexS (c :: t) with
    | none => rw [hl] at h; cases h
    | some r =>
      obtain ⟨k, tx, d⟩ := r
      rw [hl] at h
      injection h with h
      subst h
      obtain ⟨h1, h2, h3⟩ := lexS_app hx (by simp) hl
      refine .inl ⟨h3, ?_⟩
      unfold nextS
      rw [List.cons_append, blS_no hc, List.drop_zero, ← List.cons_append, h1]
      simp only
      rw [drop_app x h2]
theorem next_bad {u x : L8} (hx : blk_ x) {p : L8} {e : Nat} (h : nextS u = .bad p e) : ∃ p', nextS (u ++ x) = .bad p' e := by
  obtain ⟨e1, e2, e3⟩ := blS_split u
  have hs : nextS (u ++ x) = nextS (u.drop (blS u) ++ x) := by
    conv => lhs; rw [e1, List.append_assoc]
    exact next_bl _ e2 _
  unfold nextS at h
  rcases e3 with e3 | ⟨c, t, e3, hc⟩
  · rw [e3] at h; simp [lexS] at h
  · rw [e3] at h hs
    rw [hs]
    cases hl : lexS (c :: t) with
    | some r => rw [hl] at h; cases h
    | none =>
      rw [hl] at h
      injection h with _ he
      subst he
      refine ⟨c :: t ++ x, ?_⟩
      unfold nextS
      rw [List.cons_append, blS_no hc, List.drop_zero, ← List.cons_append, lexS_back hx (by simp) hl]
end Go.Proofs.YtmbjalcphdggnaaDoor
