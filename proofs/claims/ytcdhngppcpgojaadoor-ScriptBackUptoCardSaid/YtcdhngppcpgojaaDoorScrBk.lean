/- A line that was written is read as it was: plain. -/
import Derived.Test.YtcdhngppcpgojaaDoorScrReads
namespace Go.Proofs.YtcdhngppcpgojaaDoor
set_option linter.unusedSimpArgs false
set_option linter.unusedVariables false
open Go.RowKit
theorem wordsL_join : ∀ (ws : List (List UInt8)), ws ≠ [] → (∀ x ∈ ws, ∀ c ∈ x, c ≠ 32) → wordsL (Lib.join ws [32]) = ws
  | [], h, _ => absurd rfl h
  | [x], _, h => by
    rw [Lib.join_one, wordsL_none x (h x (List.mem_cons_self ..))]
  | x :: y :: r, _, h => by
    have e : Lib.join (x :: y :: r) [32] = x ++ 32 :: Lib.join (y :: r) [32] := by
      unfold Lib.join; simp [List.intercalate]
    rw [e, wordsL_hit _ _ (h x (List.mem_cons_self ..)), wordsL_join (y :: r) (by simp) (fun z hz => h z (List.mem_cons_of_mem _ hz))]
theorem dec_free : ∀ (n : Nat), ∀ c ∈ Lib.decDigits n, c ≠ 32 := by
  intro n
  induction n using Nat.strongRecOn with
  | _ n ih =>
    intro c hc
    rw [Lib.decDigits] at hc
    split at hc
    · rw [List.mem_singleton] at hc
      subst hc
      intro e
      have := congrArg UInt8.toNat e
      rw [UInt8.toNat_ofNat'] at this
      have h32 : UInt8.toNat 32 = 32 := rfl
      omega
    · rcases List.mem_append.1 hc with h | h
      · exact ih (n / 10) (by omega) c h
      · rw [List.mem_singleton] at h
        subst h
        intro e
        have := congrArg UInt8.toNat e
        rw [UInt8.toNat_ofNat'] at this
        have h32 : UInt8.toNat 32 = 32 := rfl
        omega
theorem itoa_free (v : Int) : ∀ c ∈ Lib.itoa v, c ≠ 32 := by
  intro c hc
  unfold Lib.itoa at hc
  split at hc
  · rcases List.mem_cons.1 hc with e | e
    · subst e; decide
    · exact dec_free _ c e
  · exact dec_free _ c hc
theorem hx_free : ∀ n : Fin 16, hx n.val ≠ 32 := by decide
theorem hx_back : ∀ n : Fin 256, ok2 (hx (n.val / 16)) (hx (n.val % 16)) = true ∧ (bOf (hx (n.val / 16)) (hx (n.val % 16))).toNat = n.val := by decide +kernel
theorem hex_free (l : List UInt8) : ∀ c ∈ hex l, c ≠ 32 := by
  intro c hc
  unfold hex at hc
  rcases List.mem_cons.1 hc with e | e
  · subst e; decide
  · unfold hexs at e
    obtain ⟨b, _, hb⟩ := List.mem_flatMap.1 e
    simp at hb
    have hlt := b.toNat_lt
    rcases hb with e | e
    · subst e; exact hx_free ⟨b.toNat / 16, by omega⟩
    · subst e; exact hx_free ⟨b.toNat % 16, by omega⟩
theorem un2_hexs : ∀ l : List UInt8, un2 (hexs l) = (l, true)
  | [] => rfl
  | c :: l => by
    have e : hexs (c :: l) = hx (c.toNat / 16) :: hx (c.toNat % 16) :: hexs l := by unfold hexs; simp
    obtain ⟨h1, h2⟩ := hx_back ⟨c.toNat, c.toNat_lt⟩
    simp only at h1 h2
    rw [e, un2, un2_hexs l, h1]
    simp only [Bool.true_and]
    rw [show bOf (hx (c.toNat / 16)) (hx (c.toNat % 16)) = c from UInt8.toNat_inj.1 h2]
theorem hexs_even (l : List UInt8) : (hexs l).length % 2 = 0 := by rw [hexs_len]; omega
theorem unhex_hex (l : List UInt8) : unhexO (hex l) = some l := by
  unfold hex
  rw [unhex_x _ (hexs_even l), un2_hexs]
  rfl
theorem pts_words : ∀ (l : List (Int × Int)), (∀ p ∈ l, in64 p.1 ∧ in64 p.2) → pts l.length (pairWords l) = some (l, [])
  | [], _ => rfl
  | q :: l, h => by
    have e : pairWords (q :: l) = Lib.itoa q.1 :: Lib.itoa q.2 :: pairWords l := by unfold pairWords; simp [itos]
    obtain ⟨h1, h2⟩ := h q (List.mem_cons_self ..)
    rw [e, List.length_cons, pts, numI_itoa _ h1, numI_itoa _ h2, pts_words l (fun p hp => h p (List.mem_cons_of_mem _ hp))]
theorem words_free (x : Ac) (h : x.good) : ∀ y ∈ x.words, ∀ c ∈ y, c ≠ 32 := by
  intro y hy c hc
  unfold Ac.words at hy
  simp only [List.mem_append, itos, List.mem_map, List.mem_cons, List.not_mem_nil, or_false] at hy
  have hk : ∀ k : Fin 15, ∀ c ∈ kw k.val, c ≠ 32 := by decide
  rcases hy with ((((((e | ⟨v, _, e⟩) | e) | e) | ⟨v, _, e⟩) | e) | ⟨v, _, e⟩) | e
  · subst e; exact hk ⟨x.kind.toNat, by have := h.1; have := h.2.1; omega⟩ c hc
  · subst e; exact itoa_free v c hc
  · subst e; exact dec_free _ c hc
  · subst e; exact hex_free _ c hc
  · subst e; exact itoa_free v c hc
  · subst e; exact hex_free _ c hc
  · subst e; exact itoa_free v c hc
  · unfold pairWords at e
    obtain ⟨p, _, hp⟩ := List.mem_flatMap.1 e
    simp [itos] at hp
    rcases hp with e | e
    · subst e; exact itoa_free _ c hc
    · subst e; exact itoa_free _ c hc
theorem words_lit (x : Ac) : x.words = kw x.kind.toNat :: Lib.itoa x.s :: Lib.itoa x.n :: Lib.decDigits x.mask :: hex x.text :: Lib.itoa x.okind :: Lib.itoa x.a :: Lib.itoa x.b :: hex x.owner :: Lib.itoa (x.p : Int) :: pairWords x.path := by
  unfold Ac.words itos
  simp
theorem parse_line (x : Ac) {w : World} {B : Nat} (h : x.good) (ho : x.Ok w B) : Parse (wordsL x.line) x := by
  unfold Ac.line
  rw [wordsL_join _ (by rw [words_lit]; simp) (words_free x h), words_lit]
  obtain ⟨g1, g2, g3, g4⟩ := h
  have hpl : x.path.length = x.p := ho.sl.1
  refine ⟨?_, by omega, numI_itoa _ ho.h1, numI_itoa _ ho.h2, numU_dec _ ho.h3, unhex_hex _, numI_itoa _ ho.h4, numI_itoa _ ho.h5, numI_itoa _ ho.h6, unhex_hex _, g4, ?_, hpl.symm⟩
  · have := kix_inj ⟨x.kind.toNat - 1, by omega⟩
    simp only at this
    rw [show x.kind.toNat - 1 + 1 = x.kind.toNat by omega] at this
    show kix (kw x.kind.toNat) = x.kind
    rw [this]; omega
  · show pathO (Lib.itoa (x.p : Int) :: pairWords x.path) = _
    rw [pathO_some _ (numI_itoa _ (by unfold in64; omega)), if_pos (by omega), ← hpl]
    simp only [Int.toNat_natCast]
    exact pts_words _ ho.hp
theorem line_bare {x y : Ac} (h : x.bare = y.bare) : x.line = y.line := by
  have e : ∀ z : Ac, z.line = z.bare.line := fun z => rfl
  rw [e x, e y, h]
theorem line_inj {x y : Ac} {w w' : World} {B B' : Nat} (hx : x.good) (hy : y.good) (ox : x.Ok w B) (oy : y.Ok w' B') (h : x.line = y.line) : x.bare = y.bare := by
  have h1 := parse_line x hx ox
  rw [h] at h1
  exact h1.same (parse_line y hy oy)
end Go.Proofs.YtcdhngppcpgojaaDoor
