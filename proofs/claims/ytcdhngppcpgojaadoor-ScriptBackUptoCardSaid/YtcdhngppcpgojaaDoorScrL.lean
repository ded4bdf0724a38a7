/- The document's line of an act. Printed by gen_scrl.py. -/
import Derived.Test.YtcdhngppcpgojaaDoorScrK
namespace Go.Proofs.YtcdhngppcpgojaaDoor
set_option linter.unusedSimpArgs false
set_option linter.unusedVariables false
open Go.RowKit
theorem kw_len (k : Nat) : (kw k).length ≤ 20 := by
  rcases Nat.lt_or_ge k 15 with h | h
  · have h2 : ∀ j : Fin 15, (kw j.val).length ≤ 20 := by decide
    exact h2 ⟨k, h⟩
  · unfold kw; rw [List.getD_eq_getElem?_getD, List.getElem?_eq_none (show kws.length ≤ k from h)]; simp
theorem word_good {k : Int} (h : 1 ≤ k ∧ k < 15) : wordOf k = kw k.toNat ∧ wordOf k ≠ [] := by
  have e : wordOf k = kw k.toNat := by unfold wordOf; rw [if_pos (by omega)]
  refine ⟨e, ?_⟩
  rw [e]
  have h2 : ∀ j : Fin 15, 1 ≤ j.val → kw j.val ≠ [] := by decide
  exact h2 ⟨k.toNat, by omega⟩ (by simp only; omega)
theorem word_bad {k : Int} (h : k < 1 ∨ 15 ≤ k) : wordOf k = [] := by unfold wordOf; rw [if_neg (by omega)]
/-- The text so far. -/
structure RA (w : World) (r : Ac) (xs : List (List UInt8)) (S : List UInt8) (N : Nat) (wr : World) : Prop where
  b : Below w.heap.size w wr
  k : Blk wr w.heap.size TAct r.cells
  s : S = jn xs
  n : xs ≠ []
  l : S.length ≤ N
theorem RA.add {w wr w' : World} {r : Ac} {xs : List (List UInt8)} {S : List UInt8} {N : Nat} (h : RA w r xs S N wr) (hb : Below wr.heap.size wr w') (x : List UInt8) (hx : x.length ≤ 20) : RA w r (xs ++ [x]) (S ++ [32] ++ x) (N + 21) w' :=
  ⟨h.b.trans (hb.mono h.b.size), h.k.below hb h.k.lt, by rw [jn_snoc xs x h.n, h.s], by simp, by have := h.l; rw [List.length_append, List.length_append, List.length_singleton]; omega⟩
theorem hex_len (t : List UInt8) : (hex t).length = 1 + 2 * t.length := by unfold hex; rw [List.length_cons, hexs_len]; omega
set_option maxRecDepth 100000 in
set_option maxHeartbeats 8000000 in
theorem ract_any (r : Ac) (w : World) (h : r.Ok w w.heap.size) (hgd : r.good) (htx : r.text.length ≤ 2000000) :
    Calls Tryd.prog 16 #[.agg r.cells] w fun e w' => e = .returned (.tuple #[str r.line, .bool true]) ∧ Below w.heap.size w w' := by
  have H := hide h
  clear h
  have hl2 := H.out.sl.len
  obtain ⟨g1, g2, g3, g4⟩ := hgd
  obtain ⟨W0, hW0, hb0, hk0⟩ : ∃ W0, w.alloc (Obj.cells r.cells TAct) = W0 ∧ Below w.heap.size w W0 ∧ Blk W0 w.heap.size TAct r.cells := ⟨_, rfl, (Below.refl _ _).alloc (Nat.le_refl _) _, Blk.new _ _ _⟩
  obtain ⟨kind, s, n, mask, okind, a, b, A, p, c, path, owner, text⟩ := r
  unfold Ac.cells at hW0 ⊢
  simp only at htx hW0 hl2 g1 g2 g3 g4
  have hwg := word_good ⟨g1, g2⟩
  have gp : (p : Int) ≤ 128 := by omega
  have go' : (owner.length : Int) ≤ 32 := by omega
  have zn : p ≤ 140737488351232 := by omega
  obtain ⟨X0, hX0⟩ : ∃ X0, wordOf kind = X0 := ⟨_, rfl⟩
  obtain ⟨X1, hX1⟩ : ∃ X1, Lib.itoa s = X1 := ⟨_, rfl⟩
  obtain ⟨X2, hX2⟩ : ∃ X2, Lib.itoa n = X2 := ⟨_, rfl⟩
  obtain ⟨X3, hX3⟩ : ∃ X3, Lib.decDigits mask = X3 := ⟨_, rfl⟩
  obtain ⟨X4, hX4⟩ : ∃ X4, hex text = X4 := ⟨_, rfl⟩
  obtain ⟨X5, hX5⟩ : ∃ X5, Lib.itoa okind = X5 := ⟨_, rfl⟩
  obtain ⟨X6, hX6⟩ : ∃ X6, Lib.itoa a = X6 := ⟨_, rfl⟩
  obtain ⟨X7, hX7⟩ : ∃ X7, Lib.itoa b = X7 := ⟨_, rfl⟩
  obtain ⟨X8, hX8⟩ : ∃ X8, hex owner = X8 := ⟨_, rfl⟩
  obtain ⟨X9, hX9⟩ : ∃ X9, Lib.itoa (p : Int) = X9 := ⟨_, rfl⟩
  have hx0 : X0.length ≤ 20 := by rw [← hX0, hwg.1]; exact kw_len _
  have hx1 : X1.length ≤ 20 := by rw [← hX1]; exact itoa_len H.out.h1
  have hx2 : X2.length ≤ 20 := by rw [← hX2]; exact itoa_len H.out.h2
  have hx3 : X3.length ≤ 20 := by rw [← hX3]; exact dec_len64 H.out.h3
  have hx4 : X4.length ≤ 4000001 := by rw [← hX4, hex_len]; omega
  have hx5 : X5.length ≤ 20 := by rw [← hX5]; exact itoa_len H.out.h4
  have hx6 : X6.length ≤ 20 := by rw [← hX6]; exact itoa_len H.out.h5
  have hx7 : X7.length ≤ 20 := by rw [← hX7]; exact itoa_len H.out.h6
  have hx8 : X8.length ≤ 65 := by rw [← hX8, hex_len]; omega
  have hx9 : X9.length ≤ 20 := by rw [← hX9]; exact itoa_len (by omega)
  have hne : X0.isEmpty = false := by have h := hwg.2; rw [hX0] at h; cases X0 with | nil => exact absurd rfl h | cons => rfl
  have hw0 : kw kind.toNat = X0 := hwg.1.symm.trans hX0
  obtain ⟨D0, hD0⟩ : ∃ D0, X0 ++ [32] = D0 := ⟨_, rfl⟩
  have hd0 : D0.length ≤ 21 := by rw [← hD0, List.length_append, List.length_singleton]; omega
  obtain ⟨C1, hC1⟩ : ∃ C1, D0 ++ X1 = C1 := ⟨_, rfl⟩
  have hc1 : C1.length ≤ 41 := by rw [← hC1, List.length_append]; omega
  obtain ⟨D1, hD1⟩ : ∃ D1, C1 ++ [32] = D1 := ⟨_, rfl⟩
  have hd1 : D1.length ≤ 42 := by rw [← hD1, List.length_append, List.length_singleton]; omega
  obtain ⟨C2, hC2⟩ : ∃ C2, D1 ++ X2 = C2 := ⟨_, rfl⟩
  have hc2 : C2.length ≤ 62 := by rw [← hC2, List.length_append]; omega
  obtain ⟨D2, hD2⟩ : ∃ D2, C2 ++ [32] = D2 := ⟨_, rfl⟩
  have hd2 : D2.length ≤ 63 := by rw [← hD2, List.length_append, List.length_singleton]; omega
  obtain ⟨C3, hC3⟩ : ∃ C3, D2 ++ X3 = C3 := ⟨_, rfl⟩
  have hc3 : C3.length ≤ 83 := by rw [← hC3, List.length_append]; omega
  obtain ⟨D3, hD3⟩ : ∃ D3, C3 ++ [32] = D3 := ⟨_, rfl⟩
  have hd3 : D3.length ≤ 84 := by rw [← hD3, List.length_append, List.length_singleton]; omega
  obtain ⟨C4, hC4⟩ : ∃ C4, D3 ++ X4 = C4 := ⟨_, rfl⟩
  have hc4 : C4.length ≤ 4000085 := by rw [← hC4, List.length_append]; omega
  obtain ⟨D4, hD4⟩ : ∃ D4, C4 ++ [32] = D4 := ⟨_, rfl⟩
  have hd4 : D4.length ≤ 4000086 := by rw [← hD4, List.length_append, List.length_singleton]; omega
  obtain ⟨C5, hC5⟩ : ∃ C5, D4 ++ X5 = C5 := ⟨_, rfl⟩
  have hc5 : C5.length ≤ 4000106 := by rw [← hC5, List.length_append]; omega
  obtain ⟨D5, hD5⟩ : ∃ D5, C5 ++ [32] = D5 := ⟨_, rfl⟩
  have hd5 : D5.length ≤ 4000107 := by rw [← hD5, List.length_append, List.length_singleton]; omega
  obtain ⟨C6, hC6⟩ : ∃ C6, D5 ++ X6 = C6 := ⟨_, rfl⟩
  have hc6 : C6.length ≤ 4000127 := by rw [← hC6, List.length_append]; omega
  obtain ⟨D6, hD6⟩ : ∃ D6, C6 ++ [32] = D6 := ⟨_, rfl⟩
  have hd6 : D6.length ≤ 4000128 := by rw [← hD6, List.length_append, List.length_singleton]; omega
  obtain ⟨C7, hC7⟩ : ∃ C7, D6 ++ X7 = C7 := ⟨_, rfl⟩
  have hc7 : C7.length ≤ 4000148 := by rw [← hC7, List.length_append]; omega
  obtain ⟨D7, hD7⟩ : ∃ D7, C7 ++ [32] = D7 := ⟨_, rfl⟩
  have hd7 : D7.length ≤ 4000149 := by rw [← hD7, List.length_append, List.length_singleton]; omega
  obtain ⟨C8, hC8⟩ : ∃ C8, D7 ++ X8 = C8 := ⟨_, rfl⟩
  have hc8 : C8.length ≤ 4000214 := by rw [← hC8, List.length_append]; omega
  obtain ⟨D8, hD8⟩ : ∃ D8, C8 ++ [32] = D8 := ⟨_, rfl⟩
  have hd8 : D8.length ≤ 4000215 := by rw [← hD8, List.length_append, List.length_singleton]; omega
  obtain ⟨C9, hC9⟩ : ∃ C9, D8 ++ X9 = C9 := ⟨_, rfl⟩
  have hc9 : C9.length ≤ 4000235 := by rw [← hC9, List.length_append]; omega
  have j0 : jn [X0] = X0 := jn_one _
  have j1 : jn [X0, X1] = C1 := by rw [show [X0, X1] = [X0] ++ [X1] from rfl, jn_snoc _ _ (by simp), j0, hD0, hC1]
  have j2 : jn [X0, X1, X2] = C2 := by rw [show [X0, X1, X2] = [X0, X1] ++ [X2] from rfl, jn_snoc _ _ (by simp), j1, hD1, hC2]
  have j3 : jn [X0, X1, X2, X3] = C3 := by rw [show [X0, X1, X2, X3] = [X0, X1, X2] ++ [X3] from rfl, jn_snoc _ _ (by simp), j2, hD2, hC3]
  have j4 : jn [X0, X1, X2, X3, X4] = C4 := by rw [show [X0, X1, X2, X3, X4] = [X0, X1, X2, X3] ++ [X4] from rfl, jn_snoc _ _ (by simp), j3, hD3, hC4]
  have j5 : jn [X0, X1, X2, X3, X4, X5] = C5 := by rw [show [X0, X1, X2, X3, X4, X5] = [X0, X1, X2, X3, X4] ++ [X5] from rfl, jn_snoc _ _ (by simp), j4, hD4, hC5]
  have j6 : jn [X0, X1, X2, X3, X4, X5, X6] = C6 := by rw [show [X0, X1, X2, X3, X4, X5, X6] = [X0, X1, X2, X3, X4, X5] ++ [X6] from rfl, jn_snoc _ _ (by simp), j5, hD5, hC6]
  have j7 : jn [X0, X1, X2, X3, X4, X5, X6, X7] = C7 := by rw [show [X0, X1, X2, X3, X4, X5, X6, X7] = [X0, X1, X2, X3, X4, X5, X6] ++ [X7] from rfl, jn_snoc _ _ (by simp), j6, hD6, hC7]
  have j8 : jn [X0, X1, X2, X3, X4, X5, X6, X7, X8] = C8 := by rw [show [X0, X1, X2, X3, X4, X5, X6, X7, X8] = [X0, X1, X2, X3, X4, X5, X6, X7] ++ [X8] from rfl, jn_snoc _ _ (by simp), j7, hD7, hC8]
  have j9 : jn [X0, X1, X2, X3, X4, X5, X6, X7, X8, X9] = C9 := by rw [show [X0, X1, X2, X3, X4, X5, X6, X7, X8, X9] = [X0, X1, X2, X3, X4, X5, X6, X7, X8] ++ [X9] from rfl, jn_snoc _ _ (by simp), j8, hD8, hC9]
  have HJ := hide j9
  clear j0 j1 j2 j3 j4 j5 j6 j7 j8 j9
  have hww : Ac.words ⟨kind, s, n, mask, okind, a, b, A, p, c, path, owner, text⟩ = [X0, X1, X2, X3, X4, X5, X6, X7, X8, X9] ++ pairWords path := by
    unfold Ac.words itos
    simp only [List.map_cons, List.map_nil]
    rw [hw0, hX1, hX2, hX3, hX4, hX5, hX6, hX7, hX8, hX9]
    rfl
  have HWW := hide hww
  clear hww hwg hw0
  have HX0 := hide hX0
  have HX1 := hide hX1
  have HX2 := hide hX2
  have HX3 := hide hX3
  have HX4 := hide hX4
  have HX5 := hide hX5
  have HX6 := hide hX6
  have HX7 := hide hX7
  have HX8 := hide hX8
  have HX9 := hide hX9
  have HD0 := hide hD0
  have HD1 := hide hD1
  have HD2 := hide hD2
  have HD3 := hide hD3
  have HD4 := hide hD4
  have HD5 := hide hD5
  have HD6 := hide hD6
  have HD7 := hide hD7
  have HD8 := hide hD8
  have HC1 := hide hC1
  have HC2 := hide hC2
  have HC3 := hide hC3
  have HC4 := hide hC4
  have HC5 := hide hC5
  have HC6 := hide hC6
  have HC7 := hide hC7
  have HC8 := hide hC8
  have HC9 := hide hC9
  clear hX0 hX1 hX2 hX3 hX4 hX5 hX6 hX7 hX8 hX9 hD0 hD1 hD2 hD3 hD4 hD5 hD6 hD7 hD8 hC1 hC2 hC3 hC4 hC5 hC6 hC7 hC8 hC9
  have HK0 := hide hk0
  have HB0 := hide hb0
  have HCW := hide (word_any kind W0)
  rw [HX0.out] at HCW
  have kx := hk0.cell; have zx := hk0.lt
  unfold Ac.cells at kx
  simp only at kx
  clear hk0 hb0
  go_enter Tryd.func16, Tryd.ntmps16
  go_upto_region 1 with fail
  clear hW0
  go_upto_region 3 with (go_at_call 31; (refine HCW.out.mono ?_); rintro e2 w1 ⟨rfl, hb1⟩; have ky := (HK0.out.below hb1 HK0.out.lt).cell; have zy := (HK0.out.below hb1 HK0.out.lt).lt; have HK1 := hide (HK0.out.below hb1 HK0.out.lt); have HB1 := hide (HB0.out.trans (hb1.mono HB0.out.size)); unfold Ac.cells at ky; simp only at ky; clear hb1 kx zx)
  clear HK0 ky zy
  have HK0 := HK1
  obtain ⟨W1, hW1⟩ : ∃ W1, w1 = W1 := ⟨_, rfl⟩
  subst hW1
  refine wp_region_stageW (by kernel_rfl) (by kernel_rfl) 108 10
    [⟨some 24, false, 0, 0, fun _ v _ => v = .pointer (some ⟨w.heap.size, 0, none⟩)⟩,
     ⟨some 25, false, 0, 0, fun _ v _ => v = .int .i64 kind⟩,
     ⟨some 26, true, 0, 0, fun _ v _ => v = str X0⟩,
     ⟨some 27, false, 1, 10, fun _ v _ => v = str D0⟩,
     ⟨some 28, false, 0, 1, fun _ v _ => v = .pointer (some ⟨w.heap.size, 1, none⟩)⟩,
     ⟨some 29, false, 0, 1, fun _ v _ => v = .int .i64 s⟩,
     ⟨some 30, true, 1, 1, fun _ v _ => v = str X1⟩,
     ⟨some 31, false, 2, 10, fun _ v _ => v = str C1⟩,
     ⟨some 32, false, 2, 10, fun _ v _ => v = str D1⟩,
     ⟨some 33, false, 0, 2, fun _ v _ => v = .pointer (some ⟨w.heap.size, 2, none⟩)⟩,
     ⟨some 34, false, 0, 2, fun _ v _ => v = .int .i64 n⟩,
     ⟨some 35, true, 2, 2, fun _ v _ => v = str X2⟩,
     ⟨some 36, false, 3, 10, fun _ v _ => v = str C2⟩,
     ⟨some 37, false, 3, 10, fun _ v _ => v = str D2⟩,
     ⟨some 38, false, 0, 3, fun _ v _ => v = .pointer (some ⟨w.heap.size, 3, none⟩)⟩,
     ⟨some 39, false, 0, 3, fun _ v _ => v = .int .u64 mask⟩,
     ⟨some 40, true, 3, 3, fun _ v _ => v = str X3⟩,
     ⟨some 41, false, 4, 10, fun _ v _ => v = str C3⟩,
     ⟨some 42, false, 4, 10, fun _ v _ => v = str D3⟩,
     ⟨some 43, false, 0, 4, fun _ v _ => v = .pointer (some ⟨w.heap.size, 9, none⟩)⟩,
     ⟨some 44, false, 0, 4, fun _ v _ => v = str text⟩,
     ⟨some 45, true, 4, 4, fun _ v _ => v = str X4⟩,
     ⟨some 46, false, 5, 10, fun _ v _ => v = str C4⟩,
     ⟨some 47, false, 5, 10, fun _ v _ => v = str D4⟩,
     ⟨some 48, false, 0, 5, fun _ v _ => v = .pointer (some ⟨w.heap.size, 4, none⟩)⟩,
     ⟨some 49, false, 0, 5, fun _ v _ => v = .pointer (some ⟨w.heap.size, 4, none⟩)⟩,
     ⟨some 50, false, 0, 5, fun _ v _ => v = .int .i64 okind⟩,
     ⟨some 51, true, 5, 5, fun _ v _ => v = str X5⟩,
     ⟨some 52, false, 6, 10, fun _ v _ => v = str C5⟩,
     ⟨some 53, false, 6, 10, fun _ v _ => v = str D5⟩,
     ⟨some 54, false, 0, 6, fun _ v _ => v = .pointer (some ⟨w.heap.size, 4, none⟩)⟩,
     ⟨some 55, false, 0, 6, fun _ v _ => v = .pointer (some ⟨w.heap.size, 5, none⟩)⟩,
     ⟨some 56, false, 0, 6, fun _ v _ => v = .int .i64 a⟩,
     ⟨some 57, true, 6, 6, fun _ v _ => v = str X6⟩,
     ⟨some 58, false, 7, 10, fun _ v _ => v = str C6⟩,
     ⟨some 59, false, 7, 10, fun _ v _ => v = str D6⟩,
     ⟨some 60, false, 0, 7, fun _ v _ => v = .pointer (some ⟨w.heap.size, 4, none⟩)⟩,
     ⟨some 61, false, 0, 7, fun _ v _ => v = .pointer (some ⟨w.heap.size, 6, none⟩)⟩,
     ⟨some 62, false, 0, 7, fun _ v _ => v = .int .i64 b⟩,
     ⟨some 63, true, 7, 7, fun _ v _ => v = str X7⟩,
     ⟨some 64, false, 8, 10, fun _ v _ => v = str C7⟩,
     ⟨some 65, false, 8, 10, fun _ v _ => v = str D7⟩,
     ⟨some 66, false, 0, 8, fun _ v _ => v = .pointer (some ⟨w.heap.size, 4, none⟩)⟩,
     ⟨some 67, false, 0, 8, fun _ v _ => v = .pointer (some ⟨w.heap.size, 8, none⟩)⟩,
     ⟨some 68, false, 0, 8, fun _ v _ => v = str owner⟩,
     ⟨some 69, true, 8, 8, fun _ v _ => v = str X8⟩,
     ⟨some 70, false, 9, 10, fun _ v _ => v = str C8⟩,
     ⟨some 71, false, 9, 10, fun _ v _ => v = str D8⟩,
     ⟨some 72, false, 0, 9, fun _ v _ => v = .pointer (some ⟨w.heap.size, 4, none⟩)⟩,
     ⟨some 73, false, 0, 9, fun _ v _ => v = .pointer (some ⟨w.heap.size, 7, none⟩)⟩,
     ⟨some 74, false, 0, 9, fun _ v _ => v = .slice A p c⟩,
     ⟨some 75, false, 0, 9, fun _ v _ => v = .int .i64 p⟩,
     ⟨some 76, true, 9, 9, fun _ v _ => v = str X9⟩,
     ⟨some 77, false, 10, 10, fun _ v _ => v = str C9⟩,
     ⟨some 4, false, 10, 10, fun _ v _ => v = str C9⟩] (fun _ w' => Below w1.heap.size w1 w') (fun _ w w' => True) [24, 25, 26, 27, 28, 29, 30, 31, 32, 33, 34, 35, 36, 37, 38, 39, 40, 41, 42, 43, 44, 45, 46, 47, 48, 49, 50, 51, 52, 53, 54, 55, 56, 57, 58, 59, 60, 61, 62, 63, 64, 65, 66, 67, 68, 69, 70, 71, 72, 73, 74, 75, 76, 77, 4] rfl (by kernel_rfl) rfl ?g0 ?keep ?steps ?fin
  case keep =>
    intro e he s v w w' hm hlo hsM ht hv
    simp only [List.mem_cons, List.not_mem_nil, or_false] at he
    rcases he with rfl | rfl | rfl | rfl | rfl | rfl | rfl | rfl | rfl | rfl | rfl | rfl | rfl | rfl | rfl | rfl | rfl | rfl | rfl | rfl | rfl | rfl | rfl | rfl | rfl | rfl | rfl | rfl | rfl | rfl | rfl | rfl | rfl | rfl | rfl | rfl | rfl | rfl | rfl | rfl | rfl | rfl | rfl | rfl | rfl | rfl | rfl | rfl | rfl | rfl | rfl | rfl | rfl | rfl | rfl
    all_goals first | exact hv | (exfalso; dsimp only at hlo; omega) | (intro h3; exfalso; have := hm rfl; dsimp only at this; omega)
  case steps =>
    refine ⟨?_, ?_, ?_, ?_, ?_, ?_, ?_, ?_, ?_, ?_, ?_, ?_, ?_, ?_, ?_, ?_, ?_, ?_, ?_, ?_, ?_, ?_, ?_, ?_, ?_, ?_, ?_, ?_, ?_, ?_, ?_, ?_, ?_, ?_, ?_, ?_, ?_, ?_, ?_, ?_, ?_, ?_, ?_, ?_, ?_, ?_, ?_, ?_, ?_, ?_, ?_, ?_, ?_, ?_, ?_, trivial⟩
    · intro st hlo hhi ac w3 hg hG hd ho K hK
      dsimp only at hlo hhi hG hK
      rw [if_pos (by rfl)]
      have k1 := hg.kp 1 (by simp)
      (try simp [Act.eval] at k1)
      go_simp
      exact hK _ rfl
    · intro st hlo hhi ac w3 hg hG hd ho K hK
      dsimp only at hlo hhi hG hK
      rw [if_pos (by rfl)]
      have kk := HK0.out.below hG HK0.out.lt
      have k0 := kk.cell 0
      have zz := kk.lt
      simp [Ac.cells] at k0
      clear kk
      have f0 := hd ⟨0, .data⟩ (by simp) rfl _ rfl _ rfl
      (try simp [Act.eval] at f0)
      go_simp
      exact hK _ rfl
    · intro ac w3 hg hG hd ho K hK
      dsimp only [Nat.zero_add, Nat.reduceAdd] at hG hK
      rw [if_pos (by rfl)]
      have f1 : ac.eval (.tmp 25) = .int .i64 kind := hd ⟨1, .data⟩ (by simp) rfl _ rfl _ rfl
      simp [Act.eval] at f1
      go_simp
      (refine (word_any kind w3).mono ?_)
      rintro e2 w4 ⟨rfl, hb4⟩
      rw [HX0.out]
      exact hK (str X0) w4 trivial (hG.trans (hb4.mono hG.size)) rfl
    · intro st hlo hhi ac w3 hg hG hd ho K hK
      dsimp only at hlo hhi hG hK
      rw [if_pos (by rfl)]
      have f0 : ac.eval (.tmp 26) = str X0 := hd ⟨2, .data⟩ (by simp) rfl _ rfl _ rfl
      simp [Act.eval] at f0
      go_simp
      (try rw [if_neg (by omega)])
      (try go_simp)
      exact hK _ (by rw [← HD0.out]; exact congrArg Value.string (cat1 X0))
    · intro st hlo hhi ac w3 hg hG hd ho K hK
      dsimp only at hlo hhi hG hK
      rw [if_pos (by rfl)]
      have k1 := hg.kp 1 (by simp)
      (try simp [Act.eval] at k1)
      go_simp
      exact hK _ rfl
    · intro st hlo hhi ac w3 hg hG hd ho K hK
      dsimp only at hlo hhi hG hK
      rw [if_pos (by rfl)]
      have kk := HK0.out.below hG HK0.out.lt
      have k0 := kk.cell 1
      have zz := kk.lt
      simp [Ac.cells] at k0
      clear kk
      have f4 := hd ⟨4, .data⟩ (by simp) rfl _ rfl _ rfl
      (try simp [Act.eval] at f4)
      go_simp
      exact hK _ rfl
    · intro ac w3 hg hG hd ho K hK
      dsimp only [Nat.zero_add, Nat.reduceAdd] at hG hK
      rw [if_pos (by rfl)]
      have f1 : ac.eval (.tmp 29) = .int .i64 s := hd ⟨5, .data⟩ (by simp) rfl _ rfl _ rfl
      simp [Act.eval] at f1
      go_simp
      (refine (rint_any s w3 H.out.h1).mono ?_)
      rintro e2 w4 ⟨rfl, hb4⟩
      rw [HX1.out]
      exact hK (str X1) w4 trivial (hG.trans (hb4.mono hG.size)) rfl
    · intro st hlo hhi ac w3 hg hG hd ho K hK
      dsimp only at hlo hhi hG hK
      rw [if_pos (by rfl)]
      have f0 : ac.eval (.tmp 27) = str D0 := hd ⟨3, .data⟩ (by simp) rfl _ rfl _ rfl
      have f1 : ac.eval (.tmp 30) = str X1 := hd ⟨6, .data⟩ (by simp) rfl _ rfl _ rfl
      simp [Act.eval] at f0 f1
      go_simp
      (try rw [if_neg (by omega)])
      (try go_simp)
      exact hK _ (by rw [← HC1.out]; exact congrArg Value.string (str_cat D0 X1))
    · intro st hlo hhi ac w3 hg hG hd ho K hK
      dsimp only at hlo hhi hG hK
      rw [if_pos (by rfl)]
      have f0 : ac.eval (.tmp 31) = str C1 := hd ⟨7, .data⟩ (by simp) rfl _ rfl _ rfl
      simp [Act.eval] at f0
      go_simp
      (try rw [if_neg (by omega)])
      (try go_simp)
      exact hK _ (by rw [← HD1.out]; exact congrArg Value.string (cat1 C1))
    · intro st hlo hhi ac w3 hg hG hd ho K hK
      dsimp only at hlo hhi hG hK
      rw [if_pos (by rfl)]
      have k1 := hg.kp 1 (by simp)
      (try simp [Act.eval] at k1)
      go_simp
      exact hK _ rfl
    · intro st hlo hhi ac w3 hg hG hd ho K hK
      dsimp only at hlo hhi hG hK
      rw [if_pos (by rfl)]
      have kk := HK0.out.below hG HK0.out.lt
      have k0 := kk.cell 2
      have zz := kk.lt
      simp [Ac.cells] at k0
      clear kk
      have f9 := hd ⟨9, .data⟩ (by simp) rfl _ rfl _ rfl
      (try simp [Act.eval] at f9)
      go_simp
      exact hK _ rfl
    · intro ac w3 hg hG hd ho K hK
      dsimp only [Nat.zero_add, Nat.reduceAdd] at hG hK
      rw [if_pos (by rfl)]
      have f1 : ac.eval (.tmp 34) = .int .i64 n := hd ⟨10, .data⟩ (by simp) rfl _ rfl _ rfl
      simp [Act.eval] at f1
      go_simp
      (refine (rint_any n w3 H.out.h2).mono ?_)
      rintro e2 w4 ⟨rfl, hb4⟩
      rw [HX2.out]
      exact hK (str X2) w4 trivial (hG.trans (hb4.mono hG.size)) rfl
    · intro st hlo hhi ac w3 hg hG hd ho K hK
      dsimp only at hlo hhi hG hK
      rw [if_pos (by rfl)]
      have f0 : ac.eval (.tmp 32) = str D1 := hd ⟨8, .data⟩ (by simp) rfl _ rfl _ rfl
      have f1 : ac.eval (.tmp 35) = str X2 := hd ⟨11, .data⟩ (by simp) rfl _ rfl _ rfl
      simp [Act.eval] at f0 f1
      go_simp
      (try rw [if_neg (by omega)])
      (try go_simp)
      exact hK _ (by rw [← HC2.out]; exact congrArg Value.string (str_cat D1 X2))
    · intro st hlo hhi ac w3 hg hG hd ho K hK
      dsimp only at hlo hhi hG hK
      rw [if_pos (by rfl)]
      have f0 : ac.eval (.tmp 36) = str C2 := hd ⟨12, .data⟩ (by simp) rfl _ rfl _ rfl
      simp [Act.eval] at f0
      go_simp
      (try rw [if_neg (by omega)])
      (try go_simp)
      exact hK _ (by rw [← HD2.out]; exact congrArg Value.string (cat1 C2))
    · intro st hlo hhi ac w3 hg hG hd ho K hK
      dsimp only at hlo hhi hG hK
      rw [if_pos (by rfl)]
      have k1 := hg.kp 1 (by simp)
      (try simp [Act.eval] at k1)
      go_simp
      exact hK _ rfl
    · intro st hlo hhi ac w3 hg hG hd ho K hK
      dsimp only at hlo hhi hG hK
      rw [if_pos (by rfl)]
      have kk := HK0.out.below hG HK0.out.lt
      have k0 := kk.cell 3
      have zz := kk.lt
      simp [Ac.cells] at k0
      clear kk
      have f14 := hd ⟨14, .data⟩ (by simp) rfl _ rfl _ rfl
      (try simp [Act.eval] at f14)
      go_simp
      exact hK _ rfl
    · intro ac w3 hg hG hd ho K hK
      dsimp only [Nat.zero_add, Nat.reduceAdd] at hG hK
      rw [if_pos (by rfl)]
      have f1 : ac.eval (.tmp 39) = .int .u64 mask := hd ⟨15, .data⟩ (by simp) rfl _ rfl _ rfl
      simp [Act.eval] at f1
      go_simp
      (refine (rdec_any mask w3 H.out.h3).mono ?_)
      rintro e2 w4 ⟨rfl, hb4⟩
      rw [HX3.out]
      exact hK (str X3) w4 trivial (hG.trans (hb4.mono hG.size)) rfl
    · intro st hlo hhi ac w3 hg hG hd ho K hK
      dsimp only at hlo hhi hG hK
      rw [if_pos (by rfl)]
      have f0 : ac.eval (.tmp 37) = str D2 := hd ⟨13, .data⟩ (by simp) rfl _ rfl _ rfl
      have f1 : ac.eval (.tmp 40) = str X3 := hd ⟨16, .data⟩ (by simp) rfl _ rfl _ rfl
      simp [Act.eval] at f0 f1
      go_simp
      (try rw [if_neg (by omega)])
      (try go_simp)
      exact hK _ (by rw [← HC3.out]; exact congrArg Value.string (str_cat D2 X3))
    · intro st hlo hhi ac w3 hg hG hd ho K hK
      dsimp only at hlo hhi hG hK
      rw [if_pos (by rfl)]
      have f0 : ac.eval (.tmp 41) = str C3 := hd ⟨17, .data⟩ (by simp) rfl _ rfl _ rfl
      simp [Act.eval] at f0
      go_simp
      (try rw [if_neg (by omega)])
      (try go_simp)
      exact hK _ (by rw [← HD3.out]; exact congrArg Value.string (cat1 C3))
    · intro st hlo hhi ac w3 hg hG hd ho K hK
      dsimp only at hlo hhi hG hK
      rw [if_pos (by rfl)]
      have k1 := hg.kp 1 (by simp)
      (try simp [Act.eval] at k1)
      go_simp
      exact hK _ rfl
    · intro st hlo hhi ac w3 hg hG hd ho K hK
      dsimp only at hlo hhi hG hK
      rw [if_pos (by rfl)]
      have kk := HK0.out.below hG HK0.out.lt
      have k0 := kk.cell 9
      have zz := kk.lt
      simp [Ac.cells] at k0
      clear kk
      have f19 := hd ⟨19, .data⟩ (by simp) rfl _ rfl _ rfl
      (try simp [Act.eval] at f19)
      go_simp
      exact hK _ rfl
    · intro ac w3 hg hG hd ho K hK
      dsimp only [Nat.zero_add, Nat.reduceAdd] at hG hK
      rw [if_pos (by rfl)]
      have f1 : ac.eval (.tmp 44) = str text := hd ⟨20, .data⟩ (by simp) rfl _ rfl _ rfl
      simp [Act.eval] at f1
      go_simp
      (refine (rhex_any text (by omega) w3).mono ?_)
      rintro e2 w4 ⟨rfl, hb4⟩
      rw [HX4.out]
      exact hK (str X4) w4 trivial (hG.trans (hb4.mono hG.size)) rfl
    · intro st hlo hhi ac w3 hg hG hd ho K hK
      dsimp only at hlo hhi hG hK
      rw [if_pos (by rfl)]
      have f0 : ac.eval (.tmp 42) = str D3 := hd ⟨18, .data⟩ (by simp) rfl _ rfl _ rfl
      have f1 : ac.eval (.tmp 45) = str X4 := hd ⟨21, .data⟩ (by simp) rfl _ rfl _ rfl
      simp [Act.eval] at f0 f1
      go_simp
      (try rw [if_neg (by omega)])
      (try go_simp)
      exact hK _ (by rw [← HC4.out]; exact congrArg Value.string (str_cat D3 X4))
    · intro st hlo hhi ac w3 hg hG hd ho K hK
      dsimp only at hlo hhi hG hK
      rw [if_pos (by rfl)]
      have f0 : ac.eval (.tmp 46) = str C4 := hd ⟨22, .data⟩ (by simp) rfl _ rfl _ rfl
      simp [Act.eval] at f0
      go_simp
      (try rw [if_neg (by omega)])
      (try go_simp)
      exact hK _ (by rw [← HD4.out]; exact congrArg Value.string (cat1 C4))
    · intro st hlo hhi ac w3 hg hG hd ho K hK
      dsimp only at hlo hhi hG hK
      rw [if_pos (by rfl)]
      have k1 := hg.kp 1 (by simp)
      (try simp [Act.eval] at k1)
      go_simp
      exact hK _ rfl
    · intro st hlo hhi ac w3 hg hG hd ho K hK
      dsimp only at hlo hhi hG hK
      rw [if_pos (by rfl)]
      have f24 := hd ⟨24, .data⟩ (by simp) rfl _ rfl _ rfl
      (try simp [Act.eval] at f24)
      go_simp
      exact hK _ rfl
    · intro st hlo hhi ac w3 hg hG hd ho K hK
      dsimp only at hlo hhi hG hK
      rw [if_pos (by rfl)]
      have kk := HK0.out.below hG HK0.out.lt
      have k0 := kk.cell 4
      have zz := kk.lt
      simp [Ac.cells] at k0
      clear kk
      have f25 := hd ⟨25, .data⟩ (by simp) rfl _ rfl _ rfl
      (try simp [Act.eval] at f25)
      go_simp
      exact hK _ rfl
    · intro ac w3 hg hG hd ho K hK
      dsimp only [Nat.zero_add, Nat.reduceAdd] at hG hK
      rw [if_pos (by rfl)]
      have f1 : ac.eval (.tmp 50) = .int .i64 okind := hd ⟨26, .data⟩ (by simp) rfl _ rfl _ rfl
      simp [Act.eval] at f1
      go_simp
      (refine (rint_any okind w3 H.out.h4).mono ?_)
      rintro e2 w4 ⟨rfl, hb4⟩
      rw [HX5.out]
      exact hK (str X5) w4 trivial (hG.trans (hb4.mono hG.size)) rfl
    · intro st hlo hhi ac w3 hg hG hd ho K hK
      dsimp only at hlo hhi hG hK
      rw [if_pos (by rfl)]
      have f0 : ac.eval (.tmp 47) = str D4 := hd ⟨23, .data⟩ (by simp) rfl _ rfl _ rfl
      have f1 : ac.eval (.tmp 51) = str X5 := hd ⟨27, .data⟩ (by simp) rfl _ rfl _ rfl
      simp [Act.eval] at f0 f1
      go_simp
      (try rw [if_neg (by omega)])
      (try go_simp)
      exact hK _ (by rw [← HC5.out]; exact congrArg Value.string (str_cat D4 X5))
    · intro st hlo hhi ac w3 hg hG hd ho K hK
      dsimp only at hlo hhi hG hK
      rw [if_pos (by rfl)]
      have f0 : ac.eval (.tmp 52) = str C5 := hd ⟨28, .data⟩ (by simp) rfl _ rfl _ rfl
      simp [Act.eval] at f0
      go_simp
      (try rw [if_neg (by omega)])
      (try go_simp)
      exact hK _ (by rw [← HD5.out]; exact congrArg Value.string (cat1 C5))
    · intro st hlo hhi ac w3 hg hG hd ho K hK
      dsimp only at hlo hhi hG hK
      rw [if_pos (by rfl)]
      have k1 := hg.kp 1 (by simp)
      (try simp [Act.eval] at k1)
      go_simp
      exact hK _ rfl
    · intro st hlo hhi ac w3 hg hG hd ho K hK
      dsimp only at hlo hhi hG hK
      rw [if_pos (by rfl)]
      have f30 := hd ⟨30, .data⟩ (by simp) rfl _ rfl _ rfl
      (try simp [Act.eval] at f30)
      go_simp
      exact hK _ rfl
    · intro st hlo hhi ac w3 hg hG hd ho K hK
      dsimp only at hlo hhi hG hK
      rw [if_pos (by rfl)]
      have kk := HK0.out.below hG HK0.out.lt
      have k0 := kk.cell 5
      have zz := kk.lt
      simp [Ac.cells] at k0
      clear kk
      have f31 := hd ⟨31, .data⟩ (by simp) rfl _ rfl _ rfl
      (try simp [Act.eval] at f31)
      go_simp
      exact hK _ rfl
    · intro ac w3 hg hG hd ho K hK
      dsimp only [Nat.zero_add, Nat.reduceAdd] at hG hK
      rw [if_pos (by rfl)]
      have f1 : ac.eval (.tmp 56) = .int .i64 a := hd ⟨32, .data⟩ (by simp) rfl _ rfl _ rfl
      simp [Act.eval] at f1
      go_simp
      (refine (rint_any a w3 H.out.h5).mono ?_)
      rintro e2 w4 ⟨rfl, hb4⟩
      rw [HX6.out]
      exact hK (str X6) w4 trivial (hG.trans (hb4.mono hG.size)) rfl
    · intro st hlo hhi ac w3 hg hG hd ho K hK
      dsimp only at hlo hhi hG hK
      rw [if_pos (by rfl)]
      have f0 : ac.eval (.tmp 53) = str D5 := hd ⟨29, .data⟩ (by simp) rfl _ rfl _ rfl
      have f1 : ac.eval (.tmp 57) = str X6 := hd ⟨33, .data⟩ (by simp) rfl _ rfl _ rfl
      simp [Act.eval] at f0 f1
      go_simp
      (try rw [if_neg (by omega)])
      (try go_simp)
      exact hK _ (by rw [← HC6.out]; exact congrArg Value.string (str_cat D5 X6))
    · intro st hlo hhi ac w3 hg hG hd ho K hK
      dsimp only at hlo hhi hG hK
      rw [if_pos (by rfl)]
      have f0 : ac.eval (.tmp 58) = str C6 := hd ⟨34, .data⟩ (by simp) rfl _ rfl _ rfl
      simp [Act.eval] at f0
      go_simp
      (try rw [if_neg (by omega)])
      (try go_simp)
      exact hK _ (by rw [← HD6.out]; exact congrArg Value.string (cat1 C6))
    · intro st hlo hhi ac w3 hg hG hd ho K hK
      dsimp only at hlo hhi hG hK
      rw [if_pos (by rfl)]
      have k1 := hg.kp 1 (by simp)
      (try simp [Act.eval] at k1)
      go_simp
      exact hK _ rfl
    · intro st hlo hhi ac w3 hg hG hd ho K hK
      dsimp only at hlo hhi hG hK
      rw [if_pos (by rfl)]
      have f36 := hd ⟨36, .data⟩ (by simp) rfl _ rfl _ rfl
      (try simp [Act.eval] at f36)
      go_simp
      exact hK _ rfl
    · intro st hlo hhi ac w3 hg hG hd ho K hK
      dsimp only at hlo hhi hG hK
      rw [if_pos (by rfl)]
      have kk := HK0.out.below hG HK0.out.lt
      have k0 := kk.cell 6
      have zz := kk.lt
      simp [Ac.cells] at k0
      clear kk
      have f37 := hd ⟨37, .data⟩ (by simp) rfl _ rfl _ rfl
      (try simp [Act.eval] at f37)
      go_simp
      exact hK _ rfl
    · intro ac w3 hg hG hd ho K hK
      dsimp only [Nat.zero_add, Nat.reduceAdd] at hG hK
      rw [if_pos (by rfl)]
      have f1 : ac.eval (.tmp 62) = .int .i64 b := hd ⟨38, .data⟩ (by simp) rfl _ rfl _ rfl
      simp [Act.eval] at f1
      go_simp
      (refine (rint_any b w3 H.out.h6).mono ?_)
      rintro e2 w4 ⟨rfl, hb4⟩
      rw [HX7.out]
      exact hK (str X7) w4 trivial (hG.trans (hb4.mono hG.size)) rfl
    · intro st hlo hhi ac w3 hg hG hd ho K hK
      dsimp only at hlo hhi hG hK
      rw [if_pos (by rfl)]
      have f0 : ac.eval (.tmp 59) = str D6 := hd ⟨35, .data⟩ (by simp) rfl _ rfl _ rfl
      have f1 : ac.eval (.tmp 63) = str X7 := hd ⟨39, .data⟩ (by simp) rfl _ rfl _ rfl
      simp [Act.eval] at f0 f1
      go_simp
      (try rw [if_neg (by omega)])
      (try go_simp)
      exact hK _ (by rw [← HC7.out]; exact congrArg Value.string (str_cat D6 X7))
    · intro st hlo hhi ac w3 hg hG hd ho K hK
      dsimp only at hlo hhi hG hK
      rw [if_pos (by rfl)]
      have f0 : ac.eval (.tmp 64) = str C7 := hd ⟨40, .data⟩ (by simp) rfl _ rfl _ rfl
      simp [Act.eval] at f0
      go_simp
      (try rw [if_neg (by omega)])
      (try go_simp)
      exact hK _ (by rw [← HD7.out]; exact congrArg Value.string (cat1 C7))
    · intro st hlo hhi ac w3 hg hG hd ho K hK
      dsimp only at hlo hhi hG hK
      rw [if_pos (by rfl)]
      have k1 := hg.kp 1 (by simp)
      (try simp [Act.eval] at k1)
      go_simp
      exact hK _ rfl
    · intro st hlo hhi ac w3 hg hG hd ho K hK
      dsimp only at hlo hhi hG hK
      rw [if_pos (by rfl)]
      have f42 := hd ⟨42, .data⟩ (by simp) rfl _ rfl _ rfl
      (try simp [Act.eval] at f42)
      go_simp
      exact hK _ rfl
    · intro st hlo hhi ac w3 hg hG hd ho K hK
      dsimp only at hlo hhi hG hK
      rw [if_pos (by rfl)]
      have kk := HK0.out.below hG HK0.out.lt
      have k0 := kk.cell 8
      have zz := kk.lt
      simp [Ac.cells] at k0
      clear kk
      have f43 := hd ⟨43, .data⟩ (by simp) rfl _ rfl _ rfl
      (try simp [Act.eval] at f43)
      go_simp
      exact hK _ rfl
    · intro ac w3 hg hG hd ho K hK
      dsimp only [Nat.zero_add, Nat.reduceAdd] at hG hK
      rw [if_pos (by rfl)]
      have f1 : ac.eval (.tmp 68) = str owner := hd ⟨44, .data⟩ (by simp) rfl _ rfl _ rfl
      simp [Act.eval] at f1
      go_simp
      (refine (rhex_any owner (by omega) w3).mono ?_)
      rintro e2 w4 ⟨rfl, hb4⟩
      rw [HX8.out]
      exact hK (str X8) w4 trivial (hG.trans (hb4.mono hG.size)) rfl
    · intro st hlo hhi ac w3 hg hG hd ho K hK
      dsimp only at hlo hhi hG hK
      rw [if_pos (by rfl)]
      have f0 : ac.eval (.tmp 65) = str D7 := hd ⟨41, .data⟩ (by simp) rfl _ rfl _ rfl
      have f1 : ac.eval (.tmp 69) = str X8 := hd ⟨45, .data⟩ (by simp) rfl _ rfl _ rfl
      simp [Act.eval] at f0 f1
      go_simp
      (try rw [if_neg (by omega)])
      (try go_simp)
      exact hK _ (by rw [← HC8.out]; exact congrArg Value.string (str_cat D7 X8))
    · intro st hlo hhi ac w3 hg hG hd ho K hK
      dsimp only at hlo hhi hG hK
      rw [if_pos (by rfl)]
      have f0 : ac.eval (.tmp 70) = str C8 := hd ⟨46, .data⟩ (by simp) rfl _ rfl _ rfl
      simp [Act.eval] at f0
      go_simp
      (try rw [if_neg (by omega)])
      (try go_simp)
      exact hK _ (by rw [← HD8.out]; exact congrArg Value.string (cat1 C8))
    · intro st hlo hhi ac w3 hg hG hd ho K hK
      dsimp only at hlo hhi hG hK
      rw [if_pos (by rfl)]
      have k1 := hg.kp 1 (by simp)
      (try simp [Act.eval] at k1)
      go_simp
      exact hK _ rfl
    · intro st hlo hhi ac w3 hg hG hd ho K hK
      dsimp only at hlo hhi hG hK
      rw [if_pos (by rfl)]
      have f48 := hd ⟨48, .data⟩ (by simp) rfl _ rfl _ rfl
      (try simp [Act.eval] at f48)
      go_simp
      exact hK _ rfl
    · intro st hlo hhi ac w3 hg hG hd ho K hK
      dsimp only at hlo hhi hG hK
      rw [if_pos (by rfl)]
      have kk := HK0.out.below hG HK0.out.lt
      have k0 := kk.cell 7
      have zz := kk.lt
      simp [Ac.cells] at k0
      clear kk
      have f49 := hd ⟨49, .data⟩ (by simp) rfl _ rfl _ rfl
      (try simp [Act.eval] at f49)
      go_simp
      exact hK _ rfl
    · intro st hlo hhi ac w3 hg hG hd ho K hK
      dsimp only at hlo hhi hG hK
      rw [if_pos (by rfl)]
      have f50 := hd ⟨50, .data⟩ (by simp) rfl _ rfl _ rfl
      (try simp [Act.eval] at f50)
      go_simp
      exact hK _ rfl
    · intro ac w3 hg hG hd ho K hK
      dsimp only [Nat.zero_add, Nat.reduceAdd] at hG hK
      rw [if_pos (by rfl)]
      have f1 : ac.eval (.tmp 75) = .int .i64 p := hd ⟨51, .data⟩ (by simp) rfl _ rfl _ rfl
      simp [Act.eval] at f1
      go_simp
      (refine (rint_any p w3 (by omega)).mono ?_)
      rintro e2 w4 ⟨rfl, hb4⟩
      rw [HX9.out]
      exact hK (str X9) w4 trivial (hG.trans (hb4.mono hG.size)) rfl
    · intro st hlo hhi ac w3 hg hG hd ho K hK
      dsimp only at hlo hhi hG hK
      rw [if_pos (by rfl)]
      have f0 : ac.eval (.tmp 71) = str D8 := hd ⟨47, .data⟩ (by simp) rfl _ rfl _ rfl
      have f1 : ac.eval (.tmp 76) = str X9 := hd ⟨52, .data⟩ (by simp) rfl _ rfl _ rfl
      simp [Act.eval] at f0 f1
      go_simp
      (try rw [if_neg (by omega)])
      (try go_simp)
      exact hK _ (by rw [← HC9.out]; exact congrArg Value.string (str_cat D8 X9))
    · intro st hlo hhi ac w3 hg hG hd ho K hK
      dsimp only at hlo hhi hG hK
      rw [if_pos (by rfl)]
      exact op_assign _ rfl (hK _ (hd ⟨53, .data⟩ (by simp) rfl _ rfl _ rfl))
  case g0 => exact (Below.refl _ _).drew
  case fin =>
    intro f w2 hG hall
    have h4 := hall _ (List.mem_of_getElem? (i := 54) rfl) 4 rfl
    clear hall
    simp only [fillF, List.map_cons, List.map_nil, List.foldl_cons, List.foldl_nil, Act.put, List.setIfInBounds_toArray, List.set_cons_zero, List.set_cons_succ]
    rw [show f 4 = str C9 from h4]
    have HR1 := hide (show RA w ⟨kind, s, n, mask, okind, a, b, A, p, c, path, owner, text⟩ [X0, X1, X2, X3, X4, X5, X6, X7, X8, X9] C9 4100000 w2 from ⟨HB1.out.trans (hG.mono HB1.out.size), HK0.out.below hG HK0.out.lt, HJ.out.symm, by simp, by omega⟩)
    clear h4 hG
    go_wp2
    go_loopw [4, 5] (fun o i wr => ∃ (k : Nat) (S : List UInt8), k ≤ p ∧ i = .int .i64 k ∧ o = str S ∧ Hid (RA w ⟨kind, s, n, mask, okind, a, b, A, p, c, path, owner, text⟩ ([X0, X1, X2, X3, X4, X5, X6, X7, X8, X9] ++ pairWords (path.take k)) S (4100000 + 42 * k) wr)) (fun _ i _ => p - (intOf i).toNat)
    case atStart => exact ⟨0, C9, by omega, rfl, rfl, hide (by simpa [pairWords] using HR1.out)⟩
    case round =>
      obtain ⟨k, S, hk, rfl, rfl, HI⟩ := hrel
      have kx := HI.out.k.cell
      have zx := HI.out.k.lt
      unfold Ac.cells at kx
      simp only at kx
      have hSl : S.length ≤ 4110000 := by have := HI.out.l; omega
      by_cases hlt : k < p
      · obtain ⟨bg, o, rfl, hbg, hc⟩ := Sl.at (H.out.sl.below HI.out.b) (fun _ => rfl) (by omega) (by simp only; omega)
        obtain ⟨q, hp⟩ : ∃ q, path[k]'(by omega) = q := ⟨_, rfl⟩
        have c0 := hc k (by simp only; omega) 0 _ rfl
        have c1' := hc k (by simp only; omega) 1 _ rfl
        simp only [Nat.add_zero] at c0 c1' hp
        have hpi := H.out.hp q (by simp only; rw [← hp]; exact List.getElem_mem _)
        have htk := pw_take path k (by omega)
        rw [hp] at c0 c1' htk
        obtain ⟨pa, pb⟩ := q
        simp only at c0 c1' htk hpi
        obtain ⟨Xa, hXa⟩ : ∃ Xa, Lib.itoa pa = Xa := ⟨_, rfl⟩
        obtain ⟨Xb, hXb⟩ : ∃ Xb, Lib.itoa pb = Xb := ⟨_, rfl⟩
        have hla := itoa_len hpi.1
        have hlb := itoa_len hpi.2
        have htk2 : pairWords (path.take (k + 1)) = pairWords (path.take k) ++ [Xa] ++ [Xb] := by
          rw [htk, ← hXa, ← hXb]; unfold itos; simp
        rw [hXa] at hla
        rw [hXb] at hlb
        have HXA := hide hXa
        have HXB := hide hXb
        have HPI := hide hpi
        have HTK := hide htk2
        have HQ0 := hide c0
        have HQ1 := hide c1'
        have hltI : (k : Int) < p := by omega
        have hb4 : (S ++ [32]).length ≤ 4110001 := by rw [List.length_append]; simp; omega
        have hb5 : (S ++ [32] ++ Xa).length ≤ 4110021 := by rw [List.length_append]; omega
        have hb6 : (S ++ [32] ++ Xa ++ [32]).length ≤ 4110022 := by rw [List.length_append]; simp only [List.length_singleton]; omega
        obtain ⟨T1, hT1⟩ : ∃ T1, S ++ [32] = T1 := ⟨_, rfl⟩
        rw [hT1] at hb4 hb5 hb6
        obtain ⟨T2, hT2⟩ : ∃ T2, T1 ++ Xa = T2 := ⟨_, rfl⟩
        rw [hT2] at hb5 hb6
        obtain ⟨T3, hT3⟩ : ∃ T3, T2 ++ [32] = T3 := ⟨_, rfl⟩
        rw [hT3] at hb6
        obtain ⟨T4, hT4⟩ : ∃ T4, T3 ++ Xb = T4 := ⟨_, rfl⟩
        have HT1 := hide hT1
        have HT2 := hide hT2
        have HT3 := hide hT3
        have HT4 := hide hT4
        have HKK := hide HI.out.k
        have zgi : bg < wr.heap.size := Nat.lt_of_lt_of_le hbg HI.out.b.size
        have HZ := hide zgi
        clear hc hp hpi htk htk2 c0 c1' hXa hXb hT1 hT2 hT3 hT4 zgi hbg
        go_upto_region 7 with fail
        clear kx zx
        refine wp_region_stageW (by kernel_rfl) (by kernel_rfl) 108 2
          [⟨some 86, false, 0, 2, fun _ v _ => v = str S⟩,
           ⟨some 87, false, 0, 2, fun _ v _ => v = str T1⟩,
           ⟨some 88, false, 0, 0, fun _ v _ => v = .pointer (some ⟨w.heap.size, 4, none⟩)⟩,
           ⟨some 89, false, 0, 0, fun _ v _ => v = .pointer (some ⟨w.heap.size, 7, none⟩)⟩,
           ⟨some 90, false, 0, 0, fun _ v _ => v = .slice (some ⟨bg, o, none⟩) p c⟩,
           ⟨some 91, false, 0, 0, fun _ v _ => v = .int .i64 k⟩,
           ⟨some 92, false, 0, 0, fun _ v _ => v = .pointer (some ⟨bg, o + k * 2, none⟩)⟩,
           ⟨some 93, false, 0, 0, fun _ v _ => v = .pointer (some ⟨bg, o + k * 2, none⟩)⟩,
           ⟨some 94, false, 0, 0, fun _ v _ => v = .int .i64 pa⟩,
           ⟨some 95, true, 0, 0, fun _ v _ => v = str Xa⟩,
           ⟨some 96, false, 1, 2, fun _ v _ => v = str T2⟩,
           ⟨some 97, false, 1, 2, fun _ v _ => v = str T3⟩,
           ⟨some 98, false, 0, 1, fun _ v _ => v = .pointer (some ⟨w.heap.size, 4, none⟩)⟩,
           ⟨some 99, false, 0, 1, fun _ v _ => v = .pointer (some ⟨w.heap.size, 7, none⟩)⟩,
           ⟨some 100, false, 0, 1, fun _ v _ => v = .slice (some ⟨bg, o, none⟩) p c⟩,
           ⟨some 101, false, 0, 1, fun _ v _ => v = .int .i64 k⟩,
           ⟨some 102, false, 0, 1, fun _ v _ => v = .pointer (some ⟨bg, o + k * 2, none⟩)⟩,
           ⟨some 103, false, 0, 1, fun _ v _ => v = .pointer (some ⟨bg, o + k * 2 + 1, none⟩)⟩,
           ⟨some 104, false, 0, 1, fun _ v _ => v = .int .i64 pb⟩,
           ⟨some 105, true, 1, 1, fun _ v _ => v = str Xb⟩,
           ⟨some 106, false, 2, 2, fun _ v _ => v = str T4⟩,
           ⟨some 4, false, 2, 2, fun _ v _ => v = str T4⟩] (fun _ w' => Below wr.heap.size wr w') (fun _ w w' => True) [86, 87, 88, 89, 90, 91, 92, 93, 94, 95, 96, 97, 98, 99, 100, 101, 102, 103, 104, 105, 106, 4] rfl (by kernel_rfl) rfl ?g0 ?keep ?steps ?fin
        case keep =>
          intro e he s v w w' hm hlo hsM ht hv
          simp only [List.mem_cons, List.not_mem_nil, or_false] at he
          rcases he with rfl | rfl | rfl | rfl | rfl | rfl | rfl | rfl | rfl | rfl | rfl | rfl | rfl | rfl | rfl | rfl | rfl | rfl | rfl | rfl | rfl | rfl
          all_goals first | exact hv | (exfalso; dsimp only at hlo; omega) | (intro h3; exfalso; have := hm rfl; dsimp only at this; omega)
        case steps =>
          refine ⟨?_, ?_, ?_, ?_, ?_, ?_, ?_, ?_, ?_, ?_, ?_, ?_, ?_, ?_, ?_, ?_, ?_, ?_, ?_, ?_, ?_, ?_, trivial⟩
          · intro st hlo hhi ac w3 hg hG hd ho K hK
            dsimp only at hlo hhi hG hK
            rw [if_pos (by rfl)]
            exact op_move _ rfl (hK _ (ho 21 4 (by decide) rfl (by kernel_rfl)))
          · intro st hlo hhi ac w3 hg hG hd ho K hK
            dsimp only at hlo hhi hG hK
            rw [if_pos (by rfl)]
            have f0 : ac.eval (.tmp 86) = str S := hd ⟨0, .data⟩ (by simp) rfl _ rfl _ rfl
            simp [Act.eval] at f0
            go_simp
            (try rw [if_neg (by omega)])
            (try go_simp)
            exact hK _ (by rw [← HT1.out]; exact congrArg Value.string (cat1 S))
          · intro st hlo hhi ac w3 hg hG hd ho K hK
            dsimp only at hlo hhi hG hK
            rw [if_pos (by rfl)]
            have k1 := hg.kp 1 (by simp)
            (try simp [Act.eval] at k1)
            go_simp
            exact hK _ rfl
          · intro st hlo hhi ac w3 hg hG hd ho K hK
            dsimp only at hlo hhi hG hK
            rw [if_pos (by rfl)]
            have f2 := hd ⟨2, .data⟩ (by simp) rfl _ rfl _ rfl
            (try simp [Act.eval] at f2)
            go_simp
            exact hK _ rfl
          · intro st hlo hhi ac w3 hg hG hd ho K hK
            dsimp only at hlo hhi hG hK
            rw [if_pos (by rfl)]
            have kk := HKK.out.below hG HKK.out.lt
            have k0 := kk.cell 7
            have zz := kk.lt
            simp [Ac.cells] at k0
            clear kk
            have f3 := hd ⟨3, .data⟩ (by simp) rfl _ rfl _ rfl
            (try simp [Act.eval] at f3)
            go_simp
            exact hK _ rfl
          · intro st hlo hhi ac w3 hg hG hd ho K hK
            dsimp only at hlo hhi hG hK
            rw [if_pos (by rfl)]
            exact op_move _ rfl (hK _ (hg.kp 5 (by simp)))
          · intro st hlo hhi ac w3 hg hG hd ho K hK
            dsimp only at hlo hhi hG hK
            rw [if_pos (by rfl)]
            have f4 := hd ⟨4, .data⟩ (by simp) rfl _ rfl _ rfl
            have f5 := hd ⟨5, .data⟩ (by simp) rfl _ rfl _ rfl
            (try simp [Act.eval] at f4)
            (try simp [Act.eval] at f5)
            go_simp
            exact hK _ rfl
          · intro st hlo hhi ac w3 hg hG hd ho K hK
            dsimp only at hlo hhi hG hK
            rw [if_pos (by rfl)]
            have f6 := hd ⟨6, .data⟩ (by simp) rfl _ rfl _ rfl
            (try simp [Act.eval] at f6)
            go_simp
            exact hK _ rfl
          · intro st hlo hhi ac w3 hg hG hd ho K hK
            dsimp only at hlo hhi hG hK
            rw [if_pos (by rfl)]
            have k0 := (hG.cell (p := ⟨bg, o + k * 2, none⟩) HZ.out).trans HQ0.out
            have zz := Nat.lt_of_lt_of_le HZ.out hG.size
            have f7 := hd ⟨7, .data⟩ (by simp) rfl _ rfl _ rfl
            (try simp [Act.eval] at f7)
            go_simp
            exact hK _ rfl
          · intro ac w3 hg hG hd ho K hK
            dsimp only [Nat.zero_add, Nat.reduceAdd] at hG hK
            rw [if_pos (by rfl)]
            have f1 := hd ⟨8, .data⟩ (by simp) rfl _ rfl _ rfl
            simp [Act.eval] at f1
            go_simp
            (refine (rint_any pa w3 HPI.out.1).mono ?_)
            rintro e2 w4 ⟨rfl, hb4⟩
            rw [HXA.out]
            exact hK (str Xa) w4 trivial (hG.trans (hb4.mono hG.size)) rfl
          · intro st hlo hhi ac w3 hg hG hd ho K hK
            dsimp only at hlo hhi hG hK
            rw [if_pos (by rfl)]
            have f0 : ac.eval (.tmp 87) = str T1 := hd ⟨1, .data⟩ (by simp) rfl _ rfl _ rfl
            have f1 : ac.eval (.tmp 95) = str Xa := hd ⟨9, .data⟩ (by simp) rfl _ rfl _ rfl
            simp [Act.eval] at f0 f1
            go_simp
            (try rw [if_neg (by omega)])
            (try go_simp)
            exact hK _ (by rw [← HT2.out]; exact congrArg Value.string (str_cat T1 Xa))
          · intro st hlo hhi ac w3 hg hG hd ho K hK
            dsimp only at hlo hhi hG hK
            rw [if_pos (by rfl)]
            have f0 : ac.eval (.tmp 96) = str T2 := hd ⟨10, .data⟩ (by simp) rfl _ rfl _ rfl
            simp [Act.eval] at f0
            go_simp
            (try rw [if_neg (by omega)])
            (try go_simp)
            exact hK _ (by rw [← HT3.out]; exact congrArg Value.string (cat1 T2))
          · intro st hlo hhi ac w3 hg hG hd ho K hK
            dsimp only at hlo hhi hG hK
            rw [if_pos (by rfl)]
            have k1 := hg.kp 1 (by simp)
            (try simp [Act.eval] at k1)
            go_simp
            exact hK _ rfl
          · intro st hlo hhi ac w3 hg hG hd ho K hK
            dsimp only at hlo hhi hG hK
            rw [if_pos (by rfl)]
            have f12 := hd ⟨12, .data⟩ (by simp) rfl _ rfl _ rfl
            (try simp [Act.eval] at f12)
            go_simp
            exact hK _ rfl
          · intro st hlo hhi ac w3 hg hG hd ho K hK
            dsimp only at hlo hhi hG hK
            rw [if_pos (by rfl)]
            have kk := HKK.out.below hG HKK.out.lt
            have k0 := kk.cell 7
            have zz := kk.lt
            simp [Ac.cells] at k0
            clear kk
            have f13 := hd ⟨13, .data⟩ (by simp) rfl _ rfl _ rfl
            (try simp [Act.eval] at f13)
            go_simp
            exact hK _ rfl
          · intro st hlo hhi ac w3 hg hG hd ho K hK
            dsimp only at hlo hhi hG hK
            rw [if_pos (by rfl)]
            exact op_move _ rfl (hK _ (hg.kp 5 (by simp)))
          · intro st hlo hhi ac w3 hg hG hd ho K hK
            dsimp only at hlo hhi hG hK
            rw [if_pos (by rfl)]
            have f14 := hd ⟨14, .data⟩ (by simp) rfl _ rfl _ rfl
            have f15 := hd ⟨15, .data⟩ (by simp) rfl _ rfl _ rfl
            (try simp [Act.eval] at f14)
            (try simp [Act.eval] at f15)
            go_simp
            exact hK _ rfl
          · intro st hlo hhi ac w3 hg hG hd ho K hK
            dsimp only at hlo hhi hG hK
            rw [if_pos (by rfl)]
            have f16 := hd ⟨16, .data⟩ (by simp) rfl _ rfl _ rfl
            (try simp [Act.eval] at f16)
            go_simp
            exact hK _ rfl
          · intro st hlo hhi ac w3 hg hG hd ho K hK
            dsimp only at hlo hhi hG hK
            rw [if_pos (by rfl)]
            have k0 := (hG.cell (p := ⟨bg, o + k * 2 + 1, none⟩) HZ.out).trans HQ1.out
            have zz := Nat.lt_of_lt_of_le HZ.out hG.size
            have f17 := hd ⟨17, .data⟩ (by simp) rfl _ rfl _ rfl
            (try simp [Act.eval] at f17)
            go_simp
            exact hK _ rfl
          · intro ac w3 hg hG hd ho K hK
            dsimp only [Nat.zero_add, Nat.reduceAdd] at hG hK
            rw [if_pos (by rfl)]
            have f1 := hd ⟨18, .data⟩ (by simp) rfl _ rfl _ rfl
            simp [Act.eval] at f1
            go_simp
            (refine (rint_any pb w3 HPI.out.2).mono ?_)
            rintro e2 w4 ⟨rfl, hb4⟩
            rw [HXB.out]
            exact hK (str Xb) w4 trivial (hG.trans (hb4.mono hG.size)) rfl
          · intro st hlo hhi ac w3 hg hG hd ho K hK
            dsimp only at hlo hhi hG hK
            rw [if_pos (by rfl)]
            have f0 : ac.eval (.tmp 97) = str T3 := hd ⟨11, .data⟩ (by simp) rfl _ rfl _ rfl
            have f1 : ac.eval (.tmp 105) = str Xb := hd ⟨19, .data⟩ (by simp) rfl _ rfl _ rfl
            simp [Act.eval] at f0 f1
            go_simp
            (try rw [if_neg (by omega)])
            (try go_simp)
            exact hK _ (by rw [← HT4.out]; exact congrArg Value.string (str_cat T3 Xb))
          · intro st hlo hhi ac w3 hg hG hd ho K hK
            dsimp only at hlo hhi hG hK
            rw [if_pos (by rfl)]
            exact op_assign _ rfl (hK _ (hd ⟨20, .data⟩ (by simp) rfl _ rfl _ rfl))
        case g0 => exact (Below.refl _ _).drew
        case fin =>
          intro f w5 hG hall
          have h3 := hall _ (List.mem_of_getElem? (i := 21) rfl) 4 rfl
          clear hall
          simp only [fillF, List.map_cons, List.map_nil, List.foldl_cons, List.foldl_nil, Act.put, List.setIfInBounds_toArray, List.set_cons_zero, List.set_cons_succ]
          rw [show f 4 = str T4 from h3]
          have HR9 := hide ((HI.out.add hG Xa hla).add (Below.refl _ _) Xb hlb)
          rw [HT1.out, HT2.out, HT3.out, HT4.out] at HR9
          clear h3 hG
          go_wp2
          go_roundw
          case rel => exact ⟨k + 1, T4, by omega, by go_num, rfl, hide (by rw [HTK.out, ← List.append_assoc, ← List.append_assoc, show 4100000 + 42 * (k + 1) = 4100000 + 42 * k + 21 + 21 by omega]; exact HR9.out)⟩
          case measure => simp [intOf]; omega
      · have hkn : k = p := by omega
        have HR2 := hide (show RA w ⟨kind, s, n, mask, okind, a, b, A, p, c, path, owner, text⟩ ([X0, X1, X2, X3, X4, X5, X6, X7, X8, X9] ++ pairWords path) S (4100000 + 42 * k) wr by
          have := HI.out
          rw [List.take_of_length_le (by omega)] at this
          exact this)
        clear HI hkn
        go_wp2
        have hfin : Ac.line ⟨kind, s, n, mask, okind, a, b, A, p, c, path, owner, text⟩ = S := by
          rw [HR2.out.s]
          unfold Ac.line
          rw [HWW.out]
          rfl
        rw [hfin]
        refine bodyPost_ret (v := .tuple #[str S, .bool true]) (by simp [results, Tryd.results16, go_sem]) rfl ⟨rfl, HR2.out.b⟩
end Go.Proofs.YtcdhngppcpgojaaDoor
