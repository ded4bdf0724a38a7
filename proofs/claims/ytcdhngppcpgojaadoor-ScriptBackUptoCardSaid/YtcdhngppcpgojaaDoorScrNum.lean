/- Plain: numbers as words, words of a line. -/
import Derived.Test.YtcdhngppcpgojaaDoorScrRd
import Derived.Lib.Split
namespace Go.Proofs.YtcdhngppcpgojaaDoor
set_option linter.unusedSimpArgs false
set_option linter.unusedVariables false
open Go.RowKit
def isD (c : UInt8) : Bool := decide (48 ≤ c.toNat) && decide (c.toNat ≤ 57)
def decV : Nat → List UInt8 → Option Nat
  | acc, [] => some acc
  | acc, c :: r => if isD c = true then decV (acc * 10 + (c.toNat - 48)) r else none
theorem decV_append : ∀ (l r : List UInt8) (acc : Nat), decV acc (l ++ r) = (decV acc l).bind (fun a => decV a r)
  | [], r, acc => rfl
  | c :: l, r, acc => by
    rw [List.cons_append, decV, decV]
    split
    · exact decV_append l r _
    · rfl
theorem decV_mono : ∀ (l : List UInt8) (acc v : Nat), decV acc l = some v → acc ≤ v
  | [], acc, v, h => by injection h with h; omega
  | c :: l, acc, v, h => by
    rw [decV] at h
    split at h
    · have := decV_mono l _ v h; omega
    · cases h
theorem isD_dig (d : Nat) (h : d < 10) : isD (UInt8.ofNat (48 + d)) = true ∧ (UInt8.ofNat (48 + d)).toNat - 48 = d := by
  have e : (UInt8.ofNat (48 + d)).toNat = 48 + d := by rw [UInt8.toNat_ofNat']; omega
  unfold isD
  rw [e]
  refine ⟨?_, by omega⟩
  simp; omega
theorem decV_one (acc d : Nat) (h : d < 10) : decV acc [UInt8.ofNat (48 + d)] = some (acc * 10 + d) := by
  obtain ⟨h1, h2⟩ := isD_dig d h
  rw [decV, if_pos h1, h2, decV]
theorem decV_dec (n : Nat) : decV 0 (Lib.decDigits n) = some n := by
  induction n using Nat.strongRecOn with
  | _ n ih =>
    rw [Lib.decDigits]
    split
    · rename_i h
      rw [decV_one 0 n h]; simp
    · rename_i h
      rw [decV_append, ih (n / 10) (by omega), Option.bind_some, decV_one _ _ (by omega)]
      congr 1; omega
/-- Written as it should be. -/
def canon (l : List UInt8) : Bool := (l == [48]) || (!l.isEmpty && !(l.head? == some 48))
theorem dig_of (c : UInt8) (h : isD c = true) : UInt8.ofNat (48 + (c.toNat - 48)) = c := by
  unfold isD at h
  simp at h
  rw [show 48 + (c.toNat - 48) = c.toNat by omega]
  simp
theorem dec_head : ∀ (n : Nat), 0 < n → ∃ c r, Lib.decDigits n = c :: r ∧ c ≠ 48 := by
  intro n
  induction n using Nat.strongRecOn with
  | _ n ih =>
    intro hn
    rw [Lib.decDigits]
    split
    · rename_i h
      refine ⟨_, _, rfl, fun e => ?_⟩
      have := congrArg UInt8.toNat e
      rw [UInt8.toNat_ofNat'] at this
      simp at this; omega
    · obtain ⟨c, r, h1, h2⟩ := ih (n / 10) (by omega) (by omega)
      exact ⟨c, r ++ [_], by rw [h1]; rfl, h2⟩
theorem canon_dec (n : Nat) : canon (Lib.decDigits n) = true := by
  by_cases h : n = 0
  · subst h; rw [Lib.decDigits]; decide
  · obtain ⟨c, r, h1, h2⟩ := dec_head n (by omega)
    rw [h1]
    unfold canon
    simp [h2]
theorem dec_canon (l : List UInt8) : ∀ (k : Nat) (l : List UInt8) (v : Nat), l.length = k → decV 0 l = some v → canon l = true → Lib.decDigits v = l := by
  intro k
  induction k with
  | zero =>
    intro l v hk h hc
    have : l = [] := List.eq_nil_of_length_eq_zero hk
    subst this
    cases hc
  | succ k ih =>
    intro l v hk h hc
    obtain ⟨l', c, rfl⟩ : ∃ l' c, l = l' ++ [c] := ⟨l.dropLast, l.getLast (by intro e; subst e; simp at hk), (List.dropLast_concat_getLast _).symm⟩
    rw [decV_append] at h
    cases hv : decV 0 l' with
    | none => rw [hv] at h; cases h
    | some v' =>
      rw [hv, Option.bind_some, decV] at h
      split at h
      · rename_i hd
        rw [decV] at h
        injection h with h
        have hdb : c.toNat - 48 < 10 := by unfold isD at hd; simp at hd; omega
        cases l' with
        | nil =>
          rw [decV] at hv
          injection hv with hv
          rw [Lib.decDigits, dif_pos (by omega), ← h, ← hv]
          simp only [Nat.zero_mul, Nat.zero_add, List.nil_append]
          rw [dig_of c hd]
        | cons a r =>
          have hc' : canon (a :: r) = true := by
            unfold canon at hc ⊢
            simp at hc ⊢
            exact .inr hc
          have ha : a ≠ 48 := by
            unfold canon at hc
            simp at hc
            exact hc
          have hi := ih (a :: r) v' (by simp at hk ⊢; exact hk) hv hc'
          have hp : 0 < v' := by
            rcases Nat.eq_zero_or_pos v' with e | e
            · subst e
              rw [Lib.decDigits] at hi
              simp at hi
              exact absurd hi.1.symm ha
            · exact e
          rw [Lib.decDigits, dif_neg (by omega), show v / 10 = v' by omega, hi, show v % 10 = c.toNat - 48 by omega, dig_of c hd]
      · cases h
theorem parse10 : ∀ (l : List UInt8) (acc v : Nat), acc < 18446744073709551616 → (Lib.parseUint10 acc l = .ok v ↔ decV acc l = some v ∧ v < 18446744073709551616)
  | [], acc, v, ha => by
    rw [Lib.parseUint10, decV]
    constructor
    · intro h; injection h with h; subst h; exact ⟨rfl, ha⟩
    · rintro ⟨h, _⟩; injection h with h; rw [h]
  | c :: r, acc, v, ha => by
    rw [Lib.parseUint10, decV]
    by_cases hd : isD c = true
    · rw [if_pos hd]
      have hd2 := hd
      unfold isD at hd2
      simp at hd2
      rw [if_pos hd2]
      by_cases h1 : 1844674407370955162 ≤ acc
      · rw [if_pos h1]
        constructor
        · intro h; cases h
        · rintro ⟨h2, h3⟩
          have := decV_mono _ _ _ h2
          omega
      · rw [if_neg h1]
        by_cases h4 : 18446744073709551616 ≤ acc * 10 + (c.toNat - 48)
        · rw [if_pos h4]
          constructor
          · intro h; cases h
          · rintro ⟨h2, h3⟩
            have := decV_mono _ _ _ h2
            omega
        · rw [if_neg h4]
          exact parse10 r _ v (by omega)
    · rw [if_neg hd]
      have hd2 := hd
      unfold isD at hd2
      simp at hd2
      rw [if_neg (by omega)]
      constructor
      · intro h; cases h
      · rintro ⟨h, _⟩; cases h
theorem mag_iff (l : List UInt8) (v : Nat) : Lib.parseUintB 64 l = .ok v ↔ l ≠ [] ∧ decV 0 l = some v ∧ v < 18446744073709551616 := by
  rw [Lib.parseUintB_64]
  unfold Lib.parseMag
  by_cases h : l = []
  · rw [if_pos h]
    constructor
    · intro h; cases h
    · rintro ⟨h1, _⟩; exact absurd h h1
  · rw [if_neg h, parse10 l 0 v (by omega)]
    exact ⟨fun h1 => ⟨h, h1⟩, fun h1 => h1.2⟩
/-- A number without a sign, as it should be written. -/
theorem numU_iff (x : List UInt8) (v : Nat) : numU x = some v ↔ decV 0 x = some v ∧ v < 18446744073709551616 ∧ canon x = true := by
  unfold numU
  constructor
  · intro h
    rcases hu : Lib.parseUintB 64 x with u | _ | _
    · skip
      rw [hu] at h
      simp only at h
      split at h
      · rename_i hx
        injection h with h
        subst h
        obtain ⟨_, h1, h2⟩ := (mag_iff x u).1 hu
        exact ⟨h1, h2, by rw [← hx]; exact canon_dec u⟩
      · cases h
    · rw [hu] at h; cases h
    · rw [hu] at h; cases h
  · rintro ⟨h1, h2, h3⟩
    have hne : x ≠ [] := by intro e; subst e; cases h3
    rw [(mag_iff x v).2 ⟨hne, h1, h2⟩]
    simp only
    rw [if_pos (dec_canon x _ x v rfl h1 h3)]
theorem numU_dec (n : Nat) (h : n < 18446744073709551616) : numU (Lib.decDigits n) = some n := (numU_iff _ n).2 ⟨decV_dec n, h, canon_dec n⟩
theorem numU_eq {x : List UInt8} {n : Nat} (h : numU x = some n) : Lib.decDigits n = x ∧ n < 18446744073709551616 := by
  obtain ⟨h1, h2, h3⟩ := (numU_iff x n).1 h
  exact ⟨dec_canon x _ x n rfl h1 h3, h2⟩
theorem isD_45 : isD 45 = false := by decide
theorem numU_45 (r : List UInt8) : numU (45 :: r) = none := by
  cases h : numU (45 :: r) with
  | none => rfl
  | some n =>
    obtain ⟨h1, _⟩ := (numU_iff _ n).1 h
    rw [decV, isD_45] at h1
    cases h1
/-- A number with a sign, as it should be written. -/
def sgn (x : List UInt8) : Option Int := match x with
  | 45 :: r => match numU r with
    | some n => if 0 < n ∧ n ≤ 9223372036854775808 then some (-(n : Int)) else none
    | none => none
  | x => match numU x with
    | some n => if n ≤ 9223372036854775807 then some (n : Int) else none
    | none => none
theorem itoa_canon (v : Int) (h : in64 v) : Lib.atoiAll (Lib.itoa v) = .ok v := by
  obtain ⟨h1, h2⟩ := h
  unfold Lib.itoa
  split
  · rename_i hn
    rw [Lib.atoiAll_minus, ← Lib.parseUintB_64, (mag_iff _ v.natAbs).2 ⟨by obtain ⟨c, r, h, _⟩ := dec_head v.natAbs (by omega); rw [h]; simp, decV_dec _, by omega⟩]
    unfold Lib.signed
    simp only
    rw [if_neg (by omega)]
    congr 1; omega
  · rename_i hn
    have hd := decV_dec v.toNat
    have hc := canon_dec v.toNat
    obtain ⟨c, r, hcr⟩ : ∃ c r, Lib.decDigits v.toNat = c :: r := by
      cases h : Lib.decDigits v.toNat with
      | nil => rw [h] at hc; cases hc
      | cons c r => exact ⟨c, r, rfl⟩
    have hcd : isD c = true := by
      rw [hcr, decV] at hd
      split at hd
      · assumption
      · cases hd
    unfold isD at hcd
    simp at hcd
    rw [hcr, Lib.atoiAll_plain c r (by omega) (by omega), ← hcr, ← Lib.parseUintB_64, (mag_iff _ v.toNat).2 ⟨by rw [hcr]; simp, decV_dec _, by omega⟩]
    unfold Lib.signless
    simp only
    rw [if_neg (by omega)]
    congr 1; omega
theorem numI_itoa (v : Int) (h : in64 v) : numI (Lib.itoa v) = some v := by
  unfold numI
  rw [itoa_canon v h]
  simp
theorem numI_iff (x : List UInt8) (v : Int) : numI x = some v ↔ x = Lib.itoa v ∧ in64 v := by
  constructor
  · intro h
    unfold numI at h
    rcases hu : Lib.atoiAll x with u | _ | _
    · skip
      rw [hu] at h
      simp only at h
      split at h
      · rename_i hx
        injection h with h
        subst h
        exact ⟨hx.symm, Lib.atoiAll_bounds hu⟩
      · cases h
    · rw [hu] at h; cases h
    · rw [hu] at h; cases h
  · rintro ⟨rfl, h⟩
    exact numI_itoa v h
theorem sgn_iff (x : List UInt8) (v : Int) : sgn x = some v ↔ x = Lib.itoa v ∧ in64 v := by
  constructor
  · intro h
    unfold sgn at h
    split at h
    · rename_i r
      cases hn : numU r with
      | none => rw [hn] at h; cases h
      | some n =>
        rw [hn] at h
        simp only at h
        split at h
        · rename_i hb
          injection h with h
          subst h
          obtain ⟨h1, h2⟩ := numU_eq hn
          refine ⟨?_, by unfold in64; omega⟩
          unfold Lib.itoa
          rw [if_pos (by omega), show (-(n : Int)).natAbs = n by omega, h1]
        · cases h
    · cases hn : numU x with
      | none => rw [hn] at h; cases h
      | some n =>
        rw [hn] at h
        simp only at h
        split at h
        · rename_i hb
          injection h with h
          subst h
          obtain ⟨h1, h2⟩ := numU_eq hn
          refine ⟨?_, by unfold in64; omega⟩
          unfold Lib.itoa
          rw [if_neg (by omega), show (n : Int).toNat = n by omega, h1]
        · cases h
  · rintro ⟨rfl, h1, h2⟩
    unfold Lib.itoa
    split
    · rename_i hn
      unfold sgn
      simp only
      rw [numU_dec _ (by omega)]
      simp only
      rw [if_pos (by omega)]
      congr 1; omega
    · rename_i hn
      have hu := numU_dec v.toNat (by omega)
      unfold sgn
      split
      · rename_i r he
        rw [he, numU_45] at hu
        cases hu
      · rename_i he
        rw [hu]
        simp only
        rw [if_pos (by omega)]
        congr 1; omega
theorem numI_sgn (x : List UInt8) : numI x = sgn x := by
  cases h : sgn x with
  | some v => exact (numI_iff x v).2 ((sgn_iff x v).1 h)
  | none =>
    cases h2 : numI x with
    | none => rfl
    | some v => rw [(sgn_iff x v).2 ((numI_iff x v).1 h2)] at h; cases h
/-- A line's words. -/
def wordsL : List UInt8 → List (List UInt8)
  | [] => [[]]
  | c :: r => if c = 32 then [] :: wordsL r else match wordsL r with
    | x :: t => (c :: x) :: t
    | [] => [[c]]
theorem wordsL_none : ∀ (s : List UInt8), (∀ c ∈ s, c ≠ 32) → wordsL s = [s]
  | [], _ => rfl
  | c :: r, h => by
    rw [wordsL, if_neg (h c (List.mem_cons_self ..)), wordsL_none r (fun d hd => h d (List.mem_cons_of_mem _ hd))]
theorem wordsL_hit : ∀ (a r : List UInt8), (∀ c ∈ a, c ≠ 32) → wordsL (a ++ 32 :: r) = a :: wordsL r
  | [], r, _ => by rw [List.nil_append, wordsL, if_pos rfl]
  | c :: a, r, h => by
    rw [List.cons_append, wordsL, if_neg (h c (List.mem_cons_self ..)), wordsL_hit a r (fun d hd => h d (List.mem_cons_of_mem _ hd))]
theorem wordsL_ne (s : List UInt8) : wordsL s ≠ [] := by
  cases s with
  | nil => simp [wordsL]
  | cons c r =>
    rw [wordsL]
    split
    · simp
    · split <;> simp
theorem wordsL_len : ∀ (s : List UInt8), ∀ x ∈ wordsL s, x.length ≤ s.length
  | [], x, h => by simp [wordsL] at h; subst h; simp
  | c :: r, x, h => by
    rw [wordsL] at h
    split at h
    · rcases List.mem_cons.1 h with h | h
      · subst h; simp
      · have := wordsL_len r x h; simp; omega
    · split at h
      · rename_i y t hy
        rcases List.mem_cons.1 h with h | h
        · subst h
          have := wordsL_len r y (by rw [hy]; exact List.mem_cons_self ..)
          simp; omega
        · have := wordsL_len r x (by rw [hy]; exact List.mem_cons_of_mem _ h)
          simp; omega
      · simp at h; subst h; simp
theorem idx1 (d : UInt8) : ∀ s : List UInt8, (Lib.index s [d] = -1 ∧ ∀ c ∈ s, c ≠ d) ∨ ∃ a r, s = a ++ d :: r ∧ (∀ c ∈ a, c ≠ d) ∧ Lib.index s [d] = (a.length : Int)
  | [] => .inl ⟨rfl, fun c h => by cases h⟩
  | b :: l => by
    rw [Lib.index]
    by_cases h : b = d
    · subst h
      refine .inr ⟨[], l, rfl, (fun c h => by cases h), ?_⟩
      simp [List.isPrefixOf]
    · have hp : ¬ ([d].isPrefixOf (b :: l) = true) := by simp [List.isPrefixOf]; exact fun e => h e.symm
      rw [if_neg hp]
      rcases idx1 d l with ⟨h1, h2⟩ | ⟨a, r, h1, h2, h3⟩
      · refine .inl ⟨by rw [h1]; rfl, fun c hc => ?_⟩
        rcases List.mem_cons.1 hc with e | e
        · rw [e]; exact h
        · exact h2 c e
      · refine .inr ⟨b :: a, r, by rw [h1]; rfl, fun c hc => ?_, ?_⟩
        · rcases List.mem_cons.1 hc with e | e
          · rw [e]; exact h
          · exact h2 c e
        · rw [h3, if_neg (by simp), List.length_cons]; omega
theorem split_words : ∀ (n : Nat) (s : List UInt8), s.length = n → Lib.splitK [32] 0 (Lib.count s [32]) s = wordsL s := by
  intro n
  induction n using Nat.strongRecOn with
  | _ n ih =>
    intro s hn
    rcases idx1 32 s with ⟨h1, h2⟩ | ⟨a, r, h1, h2, h3⟩
    · rw [Lib.count_miss h1, wordsL_none s h2]; rfl
    · rw [Lib.count_hit (by simp) h3, Nat.add_comm 1, Lib.splitK, if_neg (by rw [h3]; simp), h3, h1, wordsL_hit a r h2]
      have e1 : (a ++ 32 :: r).take ((a.length : Int).toNat + 0) = a := by simp
      have e2 : (a ++ 32 :: r).drop ((a.length : Int).toNat + [(32 : UInt8)].length) = r := by simp
      have e3 : (a ++ 32 :: r).drop (a.length + [(32 : UInt8)].length) = r := by simp
      rw [e1, e2, e3, ih r.length (by subst h1; simp at hn; omega) r rfl]
theorem splitB_words (s : List UInt8) : (Lib.splitB ⟨#[32]⟩ 0 (Lib.countB ⟨s.toArray⟩ ⟨#[32]⟩) ⟨s.toArray⟩).map Value.string = (wordsL s).map str := by
  have h := Lib.splitB_data ⟨#[32]⟩ 0 (Lib.countB ⟨s.toArray⟩ ⟨#[32]⟩) ⟨s.toArray⟩
  have hc : Lib.countB ⟨s.toArray⟩ ⟨#[32]⟩ = Lib.count s [32] := by unfold Lib.countB; simp
  have h2 := split_words _ s rfl
  rw [hc] at h ⊢
  rw [show (⟨s.toArray⟩ : ByteArray).data.toList = s by simp, show (⟨#[32]⟩ : ByteArray).data.toList = [32] from rfl, h2] at h
  rw [← h, List.map_map]
  refine List.map_congr_left fun x _ => ?_
  show Value.string x = Value.string ⟨x.data.toList.toArray⟩
  simp
theorem splitB_len (s : List UInt8) : Lib.countB ⟨s.toArray⟩ ⟨#[32]⟩ + 1 = (wordsL s).length := by
  have hc : Lib.countB ⟨s.toArray⟩ ⟨#[32]⟩ = Lib.count s [32] := by unfold Lib.countB; simp
  rw [hc]
  generalize hn : s.length = n
  induction n using Nat.strongRecOn generalizing s with
  | _ n ih =>
    rcases idx1 32 s with ⟨h1, h2⟩ | ⟨a, r, h1, h2, h3⟩
    · rw [Lib.count_miss h1, wordsL_none s h2]; rfl
    · have e3 : (a ++ 32 :: r).drop (a.length + [(32 : UInt8)].length) = r := by simp
      rw [Lib.count_hit (by simp) h3, h1, e3, wordsL_hit a r h2, List.length_cons, ← ih r.length (by subst h1; simp at hn; omega) r (by unfold Lib.countB; simp) rfl]
      omega
end Go.Proofs.YtcdhngppcpgojaaDoor
