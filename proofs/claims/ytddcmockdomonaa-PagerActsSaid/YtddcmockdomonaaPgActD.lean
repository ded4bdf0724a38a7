/- PagerActs: what the acts are. The plain laws. -/
import Derived.Test.YtddcmockdomonaaPgActC
namespace Go.Proofs.Ytddcmockdomonaa
set_option linter.unusedSimpArgs false
set_option linter.unusedVariables false
open Go.RowKit
theorem now_snoc (S : Int → Cn) (L : List (Int × Cn)) (a : Int) (c : Cn) (x : Int) : nowC S (L ++ [(a, c)]) x = if a = x then c else nowC S L x := by
  unfold nowC
  rw [List.reverse_append]
  simp only [List.reverse_singleton, List.cons_append, List.nil_append, List.find?_cons]
  by_cases h : a = x
  · simp [h]
  · have e : (a == x) = false := by simpa using h
    simp [e, h]
theorem now_far {S : Int → Cn} {L : List (Int × Cn)} {a : Int} (h : ∀ x ∈ L, x.1 ≠ a) : nowC S L a = S a := by
  unfold nowC
  have : L.reverse.find? (fun p => p.1 == a) = none := by
    rw [List.find?_eq_none]
    intro x hx
    have := h x (List.mem_reverse.1 hx)
    simpa using this
  rw [this]
theorem last_now (S : Int → Cn) (L : List (Int × Cn)) : lastS allT S L = nowC S L := by
  have : ∀ k, k ≤ L.length → lastS allT S (L.take k) = nowC S (L.take k) := by
    intro k
    induction k with
    | zero => intro _; rfl
    | succ k ih =>
      intro hk
      rw [lastS_succ allT S L (show k < L.length by omega), ih (by omega), List.take_succ_eq_append_getElem (show k < L.length by omega)]
      funext x
      rw [now_snoc, if_pos (show allT k = true from rfl)]
      unfold upd
      by_cases h : x = L[k].1
      · rw [if_pos h, if_pos h.symm]
      · rw [if_neg h, if_neg (fun e => h e.symm)]
  have h := this L.length (Nat.le_refl _)
  rwa [List.take_length] at h
theorem last_far {τ : Nat → Bool} {S : Int → Cn} {L : List (Int × Cn)} {a : Int} (h : ∀ x ∈ L, x.1 ≠ a) : lastS τ S L a = S a := by
  have : ∀ k, k ≤ L.length → lastS τ S (L.take k) a = S a := by
    intro k
    induction k with
    | zero => intro _; rfl
    | succ k ih =>
      intro hk
      rw [lastS_succ τ S L (show k < L.length by omega)]
      split
      · unfold upd
        rw [if_neg (fun e => h _ (List.getElem_mem (show k < L.length by omega)) e.symm), ih (by omega)]
      · exact ih (by omega)
  have h := this L.length (Nat.le_refl _)
  rwa [List.take_length] at h
def stv (M P : PgL) (a : Nat) : UInt8 := if hasP M a then (if hasP P a then 2 else 1) else if hasP P a then 3 else 0
/-- What the pager's state, the disk, and the lists of a script's acts have to do with one another. -/
structure AcI (n : Nat) (S : Int → Cn) (L : List (Int × Cn)) (q r : Nat) (st : Cn) (M R P : PgL) : Prop where
  ri : RI n S q r
  l2 : ∀ x ∈ L, 2 ≤ x.1
  m : ∀ p ∈ M, pgB n (p.1 : Int) = true ∧ p.2.length ≤ 505 ∧ nowC S L (p.1 : Int) = sealC 2 p.2
  nm : (M.map Prod.fst).Nodup
  p : ∀ p ∈ P, (pgB n (p.1 : Int) = true ∧ p.2.length ≤ 505 ∧ S (p.1 : Int) = sealC 2 p.2) ∧ ∀ x ∈ L, x.1 ≠ (p.1 : Int)
  np : (P.map Prod.fst).Nodup
  st : ∀ a, 2 ≤ a → a < n → st.getD a 0 = stv M P a
  r : ∀ p ∈ R, hasP P p.1 = true ∧ hasP M p.1 = false
theorem pg_iff {n : Nat} {a : Nat} : pgB n (a : Int) = true ↔ 2 ≤ a ∧ a < n := by
  unfold pgB
  simp
  omega
theorem has_false {l : PgL} {a : Nat} : hasP l a = false ↔ ∀ p ∈ l, p.1 ≠ a := by
  unfold hasP
  rw [List.any_eq_false]
  simp
theorem has_snoc (l : PgL) (p : Nat × Cn) (a : Nat) : hasP (l ++ [p]) a = (hasP l a || p.1 == a) := by
  unfold hasP
  simp
section
variable {n : Nat} {S : Int → Cn} {L : List (Int × Cn)} {q r : Nat} {st : Cn} {M R P : PgL}
theorem free_get {a : Nat} (h : isFree st a) : st.getD a 0 = 0 := by
  obtain ⟨hl, h0⟩ := h
  rw [List.getD_eq_getElem?_getD, List.getElem?_eq_getElem hl]
  exact UInt8.toNat_inj.1 h0
theorem AcI.free_of (h : AcI n S L q r st M R P) {a : Nat} (h2 : 2 ≤ a) (hn : a < n) (hf : isFree st a) : hasP M a = false ∧ hasP P a = false ∧ hasP R a = false := by
  have h0 := h.st a h2 hn
  rw [free_get hf] at h0
  unfold stv at h0
  have h1 : hasP M a = false ∧ hasP P a = false := by
    cases e1 : hasP M a <;> cases e2 : hasP P a <;> rw [e1, e2] at h0 <;> simp at h0 ⊢
    all_goals exact absurd h0 (by decide)
  refine ⟨h1.1, h1.2, ?_⟩
  rw [has_false]
  intro p hp e
  have := (h.r p hp).1
  rw [e, h1.2] at this
  cases this
theorem AcI.new (h : AcI n S L q r st M R P) {a : Nat} {d : Cn} (h2 : 2 ≤ a) (hn : a < n) (hl : st.length = n) (hf : isFree st a) (hd : d.length ≤ 505) : AcI n S (L ++ [((a : Int), sealC 2 d)]) q r (st.set a 1) (M ++ [(a, d)]) R P := by
  obtain ⟨hM, hP, hR⟩ := h.free_of h2 hn hf
  refine ⟨h.ri, ?_, ?_, ?_, ?_, h.np, ?_, ?_⟩
  · intro x hx
    rcases List.mem_append.1 hx with hx | hx
    · exact h.l2 x hx
    · rw [List.mem_singleton] at hx; subst hx; simp only; omega
  · intro p hp
    rcases List.mem_append.1 hp with hp | hp
    · have := h.m p hp
      refine ⟨this.1, this.2.1, ?_⟩
      rw [now_snoc, if_neg (fun e => (has_false.1 hM) p hp (by omega))]
      exact this.2.2
    · rw [List.mem_singleton] at hp; subst hp
      refine ⟨pg_iff.2 ⟨h2, hn⟩, hd, ?_⟩
      rw [now_snoc, if_pos rfl]
  · rw [List.map_append, List.nodup_append]
    refine ⟨h.nm, by simp, fun x hx y hy => ?_⟩
    obtain ⟨p, hp, rfl⟩ := List.mem_map.1 hx
    simp at hy
    subst hy
    exact (has_false.1 hM) p hp
  · intro p hp
    refine ⟨(h.p p hp).1, fun x hx => ?_⟩
    rcases List.mem_append.1 hx with hx | hx
    · exact (h.p p hp).2 x hx
    · rw [List.mem_singleton] at hx; subst hx
      have := (has_false.1 hP) p hp
      simp only; omega
  · intro b hb2 hbn
    unfold stv
    rw [has_snoc]
    by_cases e : a = b
    · subst e
      rw [set_getD st a 1 (by omega), hP]
      simp
    · have e' : (a == b) = false := by simpa using e
      rw [e', Bool.or_false, List.getD_eq_getElem?_getD, List.getElem?_set_ne e, ← List.getD_eq_getElem?_getD]
      exact h.st b hb2 hbn
  · intro p hp
    have := h.r p hp
    refine ⟨this.1, ?_⟩
    rw [has_snoc, this.2, Bool.false_or]
    have := (has_false.1 hR) p hp
    simp; omega
theorem nodup_erase {l : List Nat} (h : l.Nodup) {k : Nat} (hk : k < l.length) (a : Nat) : a ∈ l.eraseIdx k ↔ a ∈ l ∧ a ≠ l[k] := by
  induction l generalizing k with
  | nil => simp at hk
  | cons x l ih =>
    have hn := List.nodup_cons.1 h
    cases k with
    | zero =>
      simp only [List.eraseIdx_zero, List.tail_cons, List.getElem_cons_zero, List.mem_cons]
      constructor
      · exact fun h => ⟨.inr h, fun e => hn.1 (e ▸ h)⟩
      · rintro ⟨h | h, hne⟩
        · exact absurd h hne
        · exact h
    | succ k =>
      have hk' : k < l.length := by simpa using hk
      simp only [List.eraseIdx_cons_succ, List.getElem_cons_succ, List.mem_cons]
      rw [ih hn.2 hk']
      constructor
      · rintro (rfl | ⟨h1, h2⟩)
        · exact ⟨.inl rfl, fun e => hn.1 (by rw [e]; exact List.getElem_mem hk')⟩
        · exact ⟨.inr h1, h2⟩
      · rintro ⟨rfl | h1, h2⟩
        · exact .inl rfl
        · exact .inr ⟨h1, h2⟩
theorem erase_map (l : PgL) (k : Nat) : (l.eraseIdx k).map Prod.fst = (l.map Prod.fst).eraseIdx k := by
  rw [List.eraseIdx_eq_take_drop_succ, List.eraseIdx_eq_take_drop_succ, List.map_append, List.map_take, List.map_drop]
theorem has_erase (hn : (M.map Prod.fst).Nodup) {k : Nat} (hk : k < M.length) (a : Nat) : hasP (M.eraseIdx k) a = (hasP M a && !(M[k].1 == a)) := by
  have h := nodup_erase hn (k := k) (by rw [List.length_map]; exact hk) a
  rw [← erase_map, List.getElem_map] at h
  rw [Bool.eq_iff_iff, has_iff, h, Bool.and_eq_true, has_iff]
  refine and_congr_right (fun _ => ?_)
  simp
  exact ⟨fun h e => h e.symm, fun h e => h e.symm⟩
theorem upd_get (u : UInt8 → UInt8) (st : Cn) (a b : Nat) (h : a < st.length) : (updN u st (a : Int)).getD b 0 = if a = b then u (st.getD a 0) else st.getD b 0 := by
  unfold updN
  rw [Int.toNat_natCast]
  by_cases e : a = b
  · subst e
    rw [set_getD st a _ h, if_pos rfl]
  · rw [if_neg e, List.getD_eq_getElem?_getD, List.getElem?_set_ne e, ← List.getD_eq_getElem?_getD]
theorem AcI.got (h : AcI n S L q r st M R P) {k : Nat} (hk : k < M.length) : 2 ≤ M[k].1 ∧ M[k].1 < n ∧ hasP M M[k].1 = true ∧ st.getD M[k].1 0 = if hasP P M[k].1 then 2 else 1 := by
  have hm := List.getElem_mem hk
  have := pg_iff.1 (h.m _ hm).1
  have hh : hasP M M[k].1 = true := (has_iff _ _).2 (List.mem_map.2 ⟨_, hm, rfl⟩)
  refine ⟨this.1, this.2, hh, ?_⟩
  rw [h.st _ this.1 this.2]
  unfold stv
  rw [hh]
  rfl
theorem AcI.free (h : AcI n S L q r st M R P) (hl : st.length = n) {k : Nat} (hk : k < M.length) :
    AcI n S L q r (updN freeU st (M[k].1 : Int)) (M.eraseIdx k) (if hasP P M[k].1 then R ++ [M[k]] else R) P ∧ roomN (updN freeU st (M[k].1 : Int)) = roomN st + (if hasP P M[k].1 then 0 else 1) := by
  obtain ⟨h2, hn, hh, hs⟩ := h.got hk
  have he := has_erase h.nm hk
  constructor
  · refine ⟨h.ri, h.l2, fun p hp => h.m p (List.mem_of_mem_eraseIdx hp), ?_, h.p, h.np, ?_, ?_⟩
    · rw [erase_map]
      exact (List.eraseIdx_sublist _ _).nodup h.nm
    · intro b hb2 hbn
      rw [upd_get _ _ _ _ (by omega)]
      unfold stv
      rw [he]
      by_cases e : M[k].1 = b
      · rw [if_pos e, hs, ← e]
        simp only [hh]
        cases hasP P M[k].1 <;> simp <;> decide
      · have e' : (M[k].1 == b) = false := by simpa using e
        rw [if_neg e, e', h.st b hb2 hbn]
        simp [stv]
    · intro p hp
      have key : ∀ p ∈ R, hasP P p.1 = true ∧ hasP (M.eraseIdx k) p.1 = false := fun p hp => by
        have := h.r p hp
        exact ⟨this.1, by rw [he, this.2]; rfl⟩
      cases hP : hasP P M[k].1
      · rw [hP] at hp
        exact key p hp
      · rw [hP] at hp
        simp only [if_true] at hp
        rcases List.mem_append.1 hp with hp | hp
        · exact key p hp
        · rw [List.mem_singleton] at hp
          subst hp
          refine ⟨hP, ?_⟩
          rw [he]
          simp
  · have := cnt_set (fun x => x.toNat == 0) st M[k].1 (freeU (st.getD M[k].1 0)) h2 (by omega)
    unfold updN
    rw [Int.toNat_natCast, cnt_room, cnt_room]
    rw [hs] at this ⊢
    cases hP : hasP P M[k].1 <;> rw [hP] at this <;> simp only [if_true, Bool.false_eq_true, if_false] at this ⊢
    · rw [if_neg (by decide), if_pos (by decide)] at this
      omega
    · rw [if_neg (by decide), if_neg (by decide)] at this
      omega
theorem AcI.use (h : AcI n S L q r st M R P) (hl : st.length = n) {k : Nat} (hk : k < M.length) : updN useU st (M[k].1 : Int) = st := by
  obtain ⟨h2, hn, hh, hs⟩ := h.got hk
  have e : useU (st.getD M[k].1 0) = st.getD M[k].1 0 := by
    rw [hs]
    cases hasP P M[k].1 <;> decide
  unfold updN
  rw [Int.toNat_natCast, e]
  exact set_same st _
theorem AcI.rootOk (h : AcI n S L q r st M R P) {k : Nat} (hk : k < M.length) : rootOk n st M[k].1 = true := by
  obtain ⟨h2, hn, hh, hs⟩ := h.got hk
  unfold Go.Proofs.Ytddcmockdomonaa.rootOk
  rw [hs, pg_iff.2 ⟨h2, hn⟩]
  cases hasP P M[k].1 <;> simp
theorem AcI.flip (h : AcI n S L q r st M R P) (hl : st.length = n) (hq : q + 1 < 4000000000) {r' : Nat} (hr : r' < 4294967296) (hp : r' = 0 ∨ pgB n (r' : Int) = true) : AcI n (upd (lastS allT S L) ((q + 1) % 2 : Nat) (rootC (q + 1) r')) [] (q + 1) r' (st.map flipU) M [] M := by
  have hfar : ∀ x : Int, 2 ≤ x → upd (lastS allT S L) ((q + 1) % 2 : Nat) (rootC (q + 1) r') x = nowC S L x := fun x hx => by
    rw [upd_far (by omega), last_now]
  have hm : ∀ p ∈ M, pgB n (p.1 : Int) = true ∧ p.2.length ≤ 505 ∧ upd (lastS allT S L) ((q + 1) % 2 : Nat) (rootC (q + 1) r') (p.1 : Int) = sealC 2 p.2 := fun p hp => by
    have := h.m p hp
    refine ⟨this.1, this.2.1, ?_⟩
    rw [hfar _ (by have := pg_iff.1 this.1; omega)]
    exact this.2.2
  refine ⟨?_, (fun x hx => by cases hx), (fun p hp => by rw [now_nil]; exact hm p hp), h.nm, (fun p hp => ⟨hm p hp, fun x hx => by cases hx⟩), h.nm, ?_, (fun p hp => by cases hp)⟩
  · refine RI.flip (h.ri.same ?_ ?_) hq hr hp
    · exact last_far (fun x hx => by have := h.l2 x hx; omega)
    · exact last_far (fun x hx => by have := h.l2 x hx; omega)
  · intro a h2 hn
    have h0 := h.st a h2 hn
    have hal : a < st.length := by omega
    rw [List.getD_eq_getElem?_getD, List.getElem?_eq_getElem hal] at h0
    simp only [Option.getD_some] at h0
    rw [List.getD_eq_getElem?_getD, List.getElem?_map, List.getElem?_eq_getElem hal]
    simp only [Option.map_some, Option.getD_some]
    rw [h0]
    unfold stv
    cases hasP M a <;> cases hasP P a <;> decide
/-- Behind a crash, whatever it forgets, the sure state is there. -/
theorem AcI.crash (h : AcI n S L q r st M R P) (τ : Nat → Bool) : RI n (lastS τ S L) q r ∧ ∀ p ∈ P, pgB n (p.1 : Int) = true ∧ p.2.length ≤ 505 ∧ lastS τ S L (p.1 : Int) = sealC 2 p.2 := by
  refine ⟨h.ri.same (last_far (fun x hx => by have := h.l2 x hx; omega)) (last_far (fun x hx => by have := h.l2 x hx; omega)), fun p hp => ?_⟩
  have := h.p p hp
  exact ⟨this.1.1, this.1.2.1, (last_far this.2).trans this.1.2.2⟩
theorem fold_get (u : UInt8 → UInt8) (a : Nat) : ∀ (xs : List Nat) (st : Cn), xs.Nodup → (∀ x ∈ xs, x < st.length) → ((xs.map (fun (x : Nat) => (x : Int))).foldl (updN u) st).getD a 0 = if a ∈ xs then u (st.getD a 0) else st.getD a 0
  | [], st, _, _ => by simp
  | x :: xs, st, hn, hl => by
    have hn' := List.nodup_cons.1 hn
    rw [List.map_cons, List.foldl_cons, fold_get u a xs _ hn'.2 (fun y hy => by rw [updN_len]; exact hl y (List.mem_cons_of_mem _ hy)), upd_get u st x a (hl x List.mem_cons_self)]
    by_cases e : x = a
    · subst e
      rw [if_neg hn'.1, if_pos rfl, if_pos List.mem_cons_self]
    · rw [if_neg e]
      have : a ∈ x :: xs ↔ a ∈ xs := by
        rw [List.mem_cons]
        exact ⟨fun h => h.elim (fun h => absurd h.symm e) id, .inr⟩
      by_cases ha : a ∈ xs
      · rw [if_pos ha, if_pos (this.2 ha)]
      · rw [if_neg ha, if_neg (fun h => ha (this.1 h))]
theorem AcI.fresh {Z : PgL} (hr : RI n S q r) (hz : ∀ p ∈ Z, pgB n (p.1 : Int) = true ∧ p.2.length ≤ 505 ∧ S (p.1 : Int) = sealC 2 p.2) (hn : (Z.map Prod.fst).Nodup) : AcI n S [] q r (usedSt n Z) Z [] Z := by
  refine ⟨hr, (fun x hx => by cases hx), (fun p hp => by rw [now_nil]; exact hz p hp), hn, (fun p hp => ⟨hz p hp, fun x hx => by cases hx⟩), hn, ?_, (fun p hp => by cases hp)⟩
  intro a h2 hlt
  have := fold_get useU a (Z.map Prod.fst) (zeroSt n) hn (fun x hx => by
    obtain ⟨p, hp, rfl⟩ := List.mem_map.1 hx
    have := pg_iff.1 (hz p hp).1
    unfold zeroSt
    rw [List.length_replicate]
    exact this.2)
  rw [List.map_map, zero_at hlt] at this
  unfold usedSt
  refine this.trans ?_
  unfold stv
  cases hh : hasP Z a
  · rw [if_neg (fun h => by rw [(has_iff _ _).2 h] at hh; cases hh)]
    rfl
  · rw [if_pos ((has_iff _ _).1 hh)]
    decide
theorem last_nil (τ : Nat → Bool) (S : Int → Cn) : lastS τ S [] = S := rfl
theorem last_single (τ : Nat → Bool) (S : Int → Cn) (a : Int) (c : Cn) : lastS τ S [(a, c)] = if τ 0 then upd S a c else S := rfl
/-- Behind a flip that was cut off and a crash: the old state or the new one. -/
theorem AcI.cut (h : AcI n S L q r st M R P) (hl : st.length = n) (hq : q + 1 < 4000000000) {r' : Nat} (hr : r' < 4294967296) (hp : r' = 0 ∨ pgB n (r' : Int) = true) (τ : Nat → Bool) {S' : Int → Cn} {L' : List (Int × Cn)}
    (hc : (S' = S ∧ L' = L) ∨ (S' = lastS allT S L ∧ (L' = [] ∨ L' = [((((q + 1) % 2 : Nat) : Int), rootC (q + 1) r')]))) :
    (RI n (lastS τ S' L') q r ∧ ∀ p ∈ P, pgB n (p.1 : Int) = true ∧ p.2.length ≤ 505 ∧ lastS τ S' L' (p.1 : Int) = sealC 2 p.2) ∨
    (RI n (lastS τ S' L') (q + 1) r' ∧ ∀ p ∈ M, pgB n (p.1 : Int) = true ∧ p.2.length ≤ 505 ∧ lastS τ S' L' (p.1 : Int) = sealC 2 p.2) := by
  rcases hc with ⟨rfl, rfl⟩ | ⟨rfl, rfl | rfl⟩
  · exact .inl (h.crash τ)
  · exact .inl (h.crash allT)
  · rw [last_single]
    cases τ 0
    · exact .inl (h.crash allT)
    · have := h.flip hl hq hr hp
      exact .inr ⟨this.ri, fun p hp => (this.p p hp).1⟩
end
end Go.Proofs.Ytddcmockdomonaa
