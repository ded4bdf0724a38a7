/- The document's act of a line: what its steps leave; laws. -/
import Derived.Test.YtcdhngppcpgojaaDoorScrRi
import Derived.Test.YtcdhngppcpgojaaDoorScrTa
namespace Go.Proofs.YtcdhngppcpgojaaDoor
set_option linter.unusedSimpArgs false
set_option linter.unusedVariables false
open Go.RowKit
/-- The words, the act, and the result lie where they lay. -/
structure RS (w0 : World) (ws : List (List UInt8)) (gw g : Nat) (cs : Array Value) (w : World) : Prop where
  wd : ∀ j, j < ws.length → w.cell? ⟨gw, j, none⟩ = some (str (wat ws j))
  wl : gw < w.heap.size
  a : Blk w g TAct cs
  z : Blk w w0.heap.size TAct zact
  b : Below w0.heap.size w0 w
  n1 : gw ≠ g
  n2 : w0.heap.size ≠ g
  g0 : w0.heap.size ≤ g
theorem RS.below {w0 w w' : World} {ws : List (List UInt8)} {gw g : Nat} {cs : Array Value} (h : RS w0 ws gw g cs w) (hb : Below w.heap.size w w') : RS w0 ws gw g cs w' :=
  ⟨fun j hj => (hb.cell h.wl).trans (h.wd j hj), Nat.lt_of_lt_of_le h.wl hb.size, h.a.below hb h.a.lt, h.z.below hb h.z.lt, h.b.trans (hb.mono h.b.size), h.n1, h.n2, h.g0⟩
theorem RS.set {w0 w : World} {ws : List (List UInt8)} {gw g : Nat} {cs : Array Value} (h : RS w0 ws gw g cs w) (i : Nat) (v : Value) : RS w0 ws gw g (cs.setIfInBounds i v) (w.setCell ⟨g, i, none⟩ v) :=
  ⟨fun j hj => (World.cell?_setCell_other _ _ _ _ (fun e => h.n1 (by injection e with e; exact e.symm))).trans (h.wd j hj), by simpa using h.wl, h.a.set_ i v, h.z.far h.n2 v, h.b.setCell h.g0 v, h.n1, h.n2, h.g0⟩
theorem RS.grown {w0 w w' : World} {ws : List (List UInt8)} {gw g : Nat} {cs : Array Value} {o : Option Nat} (h : RS w0 ws gw g cs w) (hg : w.grownBy w' o) (hne : ∀ j, o = some j → j ≠ gw ∧ j ≠ g ∧ w0.heap.size < j) : RS w0 ws gw g cs w' :=
  ⟨fun j hj => (World.cell?_of_block (hg.block gw h.wl (fun e => (hne gw e.symm).1 rfl))).trans (h.wd j hj), Nat.lt_of_lt_of_le h.wl hg.size, h.a.grown hg (fun e => (hne g e.symm).2.1 rfl), h.z.grown hg (fun e => by have := (hne _ e.symm).2.2; omega), h.b.grown hg h.b.size (fun k hk => by have := (hne k hk).2.2; omega), h.n1, h.n2, h.g0⟩
theorem row_open {w : World} {base n c : Nat} {A : Option Addr} {xs : List Value} (h : w.ownsRow base TStr 1 (.slice A n c) n xs) (hn : 0 < n) : ∃ g, A = some ⟨g, 0, none⟩ ∧ base ≤ g ∧ g < w.heap.size ∧ ∀ j u, xs[j]? = some u → w.cell? ⟨g, j, none⟩ = some u := by
  have hl := h.1
  rcases h.2 with ⟨hv, h0⟩ | ⟨g, cap, cur, hv, hb, hg, _, _, hs, ht⟩
  · omega
  · injection hv with h1 h2 h3
    subst h3
    have hblk : Blk w g TStr cur := hg
    refine ⟨g, h1, hb, hblk.lt, fun j u hu => ?_⟩
    rw [hblk.cell, ← Array.getElem?_toList]
    rw [← ht, List.getElem?_take] at hu
    split at hu
    · exact hu
    · cases hu
theorem kix_inj : ∀ k : Fin 14, kix (kw (k.val + 1)) = (k.val : Int) + 1 := by decide
theorem kix_top2 (x : List UInt8) : kix x ≤ 14 ∧ (0 < kix x → kw (kix x).toNat = x) := by
  by_cases h : ∃ k : Fin 14, kw (k.val + 1) = x
  · obtain ⟨k, rfl⟩ := h
    rw [kix_inj k]
    refine ⟨by have := k.2; omega, fun _ => ?_⟩
    congr 1
  · have : kix x = 0 := by
      unfold kix
      have hm : ∀ j, j < KS.length → KS.getD j ByteArray.empty ≠ ⟨x.toArray⟩ := by
        intro j hj e
        have hj : j < 14 := hj
        apply h
        refine ⟨⟨j, hj⟩, ?_⟩
        have e2 : ∀ j : Fin 14, KS.getD j.val ByteArray.empty = ⟨(kw (j.val + 1)).toArray⟩ := by decide
        have e3 := e2 ⟨j, hj⟩
        simp only at e3
        rw [e3] at e
        have := congrArg (fun b : ByteArray => b.data.toList) e
        simpa using this
      have := Lib.idxOfS_miss KS KS.length ⟨x.toArray⟩ hm
      rw [List.take_length] at this
      omega
    rw [this]
    exact ⟨by omega, fun h => by omega⟩
theorem kix_eq (x : List UInt8) (k : Nat) (h1 : 1 ≤ k) (h2 : k ≤ 14) : kw k = x ↔ kix x = (k : Int) := by
  constructor
  · intro e
    subst e
    have := kix_inj ⟨k - 1, by omega⟩
    simp only at this
    rw [show k - 1 + 1 = k by omega] at this
    rw [this]; omega
  · intro e
    have := (kix_top2 x).2 (by omega)
    rw [e] at this
    simpa using this
/-- The kind so far. -/
def kfar (x : List UInt8) (k : Nat) : Int := if kix x < k then kix x else 0
theorem kfar_one (x : List UInt8) : kfar x 1 = 0 := by
  unfold kfar
  have := kix_range x
  split <;> omega
theorem kfar_end (x : List UInt8) : kfar x 15 = kix x := by
  unfold kfar
  have := (kix_top2 x).1
  rw [if_pos (by omega)]
theorem kfar_hit (x : List UInt8) (k : Nat) (h1 : 1 ≤ k) (h2 : k ≤ 14) (h : kw k = x) : kfar x (k + 1) = k := by
  have := (kix_eq x k h1 h2).1 h
  unfold kfar
  rw [if_pos (by omega)]; exact this
theorem kfar_pass (x : List UInt8) (k : Nat) (h1 : 1 ≤ k) (h2 : k ≤ 14) (h : kw k ≠ x) : kfar x (k + 1) = kfar x k := by
  have : kix x ≠ k := fun e => h ((kix_eq x k h1 h2).2 e)
  unfold kfar
  by_cases h3 : kix x < k
  · rw [if_pos (by omega), if_pos h3]
  · rw [if_neg (by omega), if_neg h3]
theorem pts_len : ∀ (k : Nat) (ws : List (List UInt8)) (l : List (Int × Int)) (r : List (List UInt8)), pts k ws = some (l, r) → ws.length = 2 * k + r.length ∧ l.length = k
  | 0, ws, l, r, h => by
    rw [pts] at h
    injection h with h
    injection h with h1 h2
    subst h1 h2
    simp
  | k + 1, x :: y :: ws, l, r, h => by
    rw [pts] at h
    cases h1 : numI x with
    | none => rw [h1] at h; cases h
    | some a =>
      cases h2 : numI y with
      | none => rw [h1, h2] at h; cases h
      | some b =>
        cases h3 : pts k ws with
        | none => rw [h1, h2, h3] at h; cases h
        | some p =>
          obtain ⟨l', r'⟩ := p
          rw [h1, h2, h3] at h
          simp only at h
          injection h with h
          injection h with h4 h5
          subst h4 h5
          have := pts_len k ws l' r' h3
          simp only [List.length_cons]
          omega
  | k + 1, [], l, r, h => by cases h
  | k + 1, [x], l, r, h => by cases h
theorem numI_nil : numI [] = none := rfl
theorem wat_nil {ws : List (List UInt8)} {n : Nat} (h : ws.length ≤ n) : wat ws n = [] := by
  unfold wat
  rw [List.drop_eq_nil_of_le h]; rfl
theorem drop_wat {ws : List (List UInt8)} {n : Nat} (h : n < ws.length) : ws.drop n = wat ws n :: ws.drop (n + 1) := by
  unfold wat
  rw [List.drop_eq_getElem_cons h]; rfl
theorem path_law {ws : List (List UInt8)} {l : List (Int × Int)} (h : pathO (ws.drop 9) = some (l, [])) : ∃ n : Nat, numI (wat ws 9) = some (n : Int) ∧ n ≤ 128 ∧ ws.length = 10 + 2 * n ∧ pts n (ws.drop 10) = some (l, []) := by
  by_cases hl : 9 < ws.length
  · rw [drop_wat hl] at h
    cases hn : numI (wat ws 9) with
    | none => rw [pathO_none _ hn] at h; cases h
    | some n =>
      rw [pathO_some _ hn] at h
      split at h
      · rename_i hr
        have := pts_len _ _ _ _ h
        rw [List.length_drop] at this
        refine ⟨n.toNat, by congr 1; omega, by omega, ?_, h⟩
        simp at this
        omega
      · cases h
  · rw [List.drop_eq_nil_of_le (by omega)] at h; cases h
theorem path_back {ws : List (List UInt8)} {n : Nat} (h1 : numI (wat ws 9) = some (n : Int)) (h2 : n ≤ 128) (h3 : 9 < ws.length) : pathO (ws.drop 9) = pts n (ws.drop 10) := by
  rw [drop_wat h3, pathO_some _ h1, if_pos (by omega)]
  simp
end Go.Proofs.YtcdhngppcpgojaaDoor
