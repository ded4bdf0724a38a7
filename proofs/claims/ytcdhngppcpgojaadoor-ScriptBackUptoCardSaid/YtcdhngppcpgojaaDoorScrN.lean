/- A script's text: script.Script. -/
import Derived.Test.YtcdhngppcpgojaaDoorScrM
namespace Go.Proofs.YtcdhngppcpgojaaDoor
set_option linter.unusedSimpArgs false
set_option linter.unusedVariables false
open Go.RowKit
def Ac.enc (x : Ac) : List Value := x.cells.toList
theorem Ac.enc_len (x : Ac) : x.enc.length = 10 := rfl
theorem Ac.Ok.below {x : Ac} {w w' : World} {B : Nat} (h : x.Ok w B) (hb : Below B w w') : x.Ok w' B := ⟨h.h0, h.h1, h.h2, h.h3, h.h4, h.h5, h.h6, h.sl.below hb, h.hp⟩
theorem Ac.Ok.more {x : Ac} {w : World} {B B' : Nat} (h : x.Ok w B) (hB : B ≤ B') : x.Ok w B' := ⟨h.h0, h.h1, h.h2, h.h3, h.h4, h.h5, h.h6, h.sl.more hB, h.hp⟩
/-- A list of acts. -/
structure AL (w : World) (B : Nat) (A : Option Addr) (n : Nat) (l : List Ac) : Prop where
  sl : Sl 10 Ac.enc w B A n l
  ok : ∀ x ∈ l, x.Ok w B
  sz : ∀ x ∈ l, x.p ≤ 1048576 ∧ x.owner.length ≤ 1048576 ∧ x.text.length ≤ 1048576
theorem AL.below {w w' : World} {B n : Nat} {A : Option Addr} {l : List Ac} (h : AL w B A n l) (hb : Below B w w') : AL w' B A n l := ⟨h.sl.below hb, fun x hx => (h.ok x hx).below hb, h.sz⟩
theorem AL.more {w : World} {B B' n : Nat} {A : Option Addr} {l : List Ac} (h : AL w B A n l) (hB : B ≤ B') : AL w B' A n l := ⟨h.sl.more hB, fun x hx => (h.ok x hx).more hB, h.sz⟩
def outs (l : List Ac) : List UInt8 := l.flatMap (fun x => x.line ++ [10])
instance (x : Ac) : Decidable x.good := inferInstanceAs (Decidable (_ ∧ _ ∧ _ ∧ _))
/-- Which text acts are, or why they are none. -/
def SV (l : List Ac) : List UInt8 × Int := if ∀ x ∈ l, x.good then (if 262144 < (outs l).length ∨ 4096 < l.length then ([], 12) else (outs l, 0)) else ([], 2)
theorem line_len {x : Ac} {w : World} {B : Nat} (h : x.Ok w B) (hg : x.good) (ht : x.text.length ≤ 1048576) : x.line.length ≤ 600000000 := by
  obtain ⟨g1, g2, g3, g4⟩ := hg
  have hb : ∀ y ∈ x.words, y.length ≤ 2097153 := by
    intro y hy
    have hi : ∀ {ns : List Int}, inInt ns → y ∈ itos ns → y.length ≤ 2097153 := fun hn hm => by have := short_itos hn y hm; omega
    unfold Ac.words at hy
    simp only [List.mem_append] at hy
    rcases hy with ((((((hy | hy) | hy) | hy) | hy) | hy) | hy) | hy
    · simp at hy; subst hy; have := kw_len x.kind.toNat; omega
    · exact hi (in_two h.h1 h.h2) hy
    · simp at hy; subst hy; have := dec_len64 h.h3; omega
    · simp at hy; subst hy; rw [hex_len]; omega
    · exact hi (in_three h.h4 h.h5 h.h6) hy
    · simp at hy; subst hy; rw [hex_len]; omega
    · exact hi (in_one (by omega)) hy
    · have := short_pw h.hp y hy; omega
  have hn : x.words.length ≤ 266 := by
    unfold Ac.words
    simp only [List.length_append, itos_len, pw_len, List.length_singleton, List.length_cons, List.length_nil]
    have := h.sl.len
    omega
  have := jn_len 2097153 x.words hb
  have e : x.line = jn x.words := rfl
  rw [e]
  have h2 : (2097153 + 1) * x.words.length ≤ (2097153 + 1) * 266 := Nat.mul_le_mul_left _ hn
  omega
theorem outs_len (L : Nat) : ∀ (l : List Ac), (∀ x ∈ l, x.line.length ≤ L) → (outs l).length ≤ l.length * (L + 1)
  | [], _ => by simp [outs]
  | x :: l, h => by
    have := outs_len L l (fun y hy => h y (List.mem_cons_of_mem _ hy))
    have h1 := h x (List.mem_cons_self ..)
    unfold outs at this ⊢
    rw [List.flatMap_cons, List.length_append, List.length_append, List.length_singleton, List.length_cons, Nat.succ_mul]
    omega
theorem outs_take (l : List Ac) (k : Nat) (hk : k < l.length) : outs (l.take (k + 1)) = outs (l.take k) ++ (l[k].line ++ [10]) := by
  unfold outs
  rw [List.take_succ_eq_append_getElem hk, List.flatMap_append]
  simp
theorem good_take {l : List Ac} {k : Nat} (hk : k < l.length) (h : ∀ x ∈ l.take k, x.good) (hg : l[k].good) : ∀ x ∈ l.take (k + 1), x.good := by
  rw [List.take_succ_eq_append_getElem hk]
  intro x hx
  rcases List.mem_append.1 hx with h1 | h1
  · exact h x h1
  · simp at h1; subst h1; exact hg
theorem join_nil (xs : List (List UInt8)) : Lib.join xs [] = xs.flatten := by
  have : ∀ ys : List (List UInt8), (ys.intersperse []).flatten = ys.flatten := by
    intro ys
    induction ys with
    | nil => rfl
    | cons x ys ih =>
      cases ys with
      | nil => rfl
      | cons y ys =>
        rw [List.intersperse_cons_cons, List.flatten_cons, List.flatten_cons, ih]
        simp
  exact this xs
theorem join_row {w : World} {base : Nat} {xs : List (List UInt8)} {v : Value} (h : w.ownsRow base TStr 1 v xs.length (xs.map str)) (hn : xs.length ≤ 4000000) (hl : xs.flatten.length ≤ 140737488355328) :
    Calls Tryd.prog 28 #[v, .string ⟨#[]⟩] w fun e w' => e = .returned (str xs.flatten) ∧ Below w.heap.size w w' := by
  cases xs with
  | nil =>
    obtain ⟨A, c, rfl⟩ := row_form h
    refine (Tryd.strings_Join_none A c ⟨#[]⟩ w).mono ?_
    rintro e w' ⟨rfl, rfl⟩
    exact ⟨rfl, Below.refl _ _⟩
  | cons x0 xs0 =>
    obtain ⟨xs, hxs⟩ : ∃ xs, x0 :: xs0 = xs := ⟨_, rfl⟩
    have h0 : 0 < xs.length := by rw [← hxs]; simp
    rw [hxs] at h hn hl ⊢
    obtain ⟨g, cap, rfl, hgb, hgl⟩ := h.form h0
    have hcap : xs.length ≤ cap := by
      rcases h.2 with ⟨e, _⟩ | ⟨g', cap', cur, e, _, _, hc, _⟩
      · cases e
      · injection e with _ _ e3
        rw [e3]; exact hc
    have hcells : ∀ (j : Nat) x, (xs.map (fun l => (⟨l.toArray⟩ : ByteArray)))[j]? = some x → w.cell? ⟨g, 0 + j, none⟩ = some (.string x) := by
      intro j x hx
      rw [List.getElem?_map] at hx
      obtain ⟨l, hl, rfl⟩ := Option.map_eq_some_iff.1 hx
      have := h.cells (g := g) rfl j (str l) (by rw [List.getElem?_map, hl]; rfl)
      rw [show (⟨g, 0, none⟩ : Addr).add j = ⟨g, j, none⟩ by unfold Addr.add; split <;> simp_all] at this
      rw [Nat.zero_add]
      exact this
    have hj := Tryd.strings_Join g 0 cap (xs.map (fun l => (⟨l.toArray⟩ : ByteArray))) ⟨#[]⟩ w hcells hgl (by rw [List.length_map]; omega) (by rw [List.length_map]; exact hcap) (by rw [show (⟨#[]⟩ : ByteArray).data.toList = [] from rfl, join_nil]; simpa [Function.comp_def] using hl)
    rw [List.length_map, show (xs.map (fun l => (⟨l.toArray⟩ : ByteArray))).map (fun x => x.data.toList) = xs by simp [Function.comp_def], show (⟨#[]⟩ : ByteArray).data.toList = [] from rfl, join_nil] at hj
    exact hj
end Go.Proofs.YtcdhngppcpgojaaDoor
