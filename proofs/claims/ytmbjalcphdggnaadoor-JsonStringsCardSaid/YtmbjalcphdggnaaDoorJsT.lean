/- The document's Same: equality of values. -/
import Derived.Test.YtmbjalcphdggnaaDoorJsR
namespace Go.Proofs.YtmbjalcphdggnaaDoor
set_option linter.unusedSimpArgs false
set_option linter.unusedVariables false
open Go.RowKit
mutual
def eqJ : JV → JV → Bool
  | .mk k t ks vs, .mk k' t' ks' vs' => decide (k = k') && decide (t = t') && decide (ks = ks') && eqL vs vs'
def eqL : List JV → List JV → Bool
  | [], [] => true
  | a :: az, b :: bs => eqJ a b && eqL az bs
  | _, _ => false
end
mutual
theorem eqJ_iff : ∀ (a b : JV), eqJ a b = true ↔ a = b
  | .mk k t ks vs, .mk k' t' ks' vs' => by
    unfold eqJ
    simp only [Bool.and_eq_true, decide_eq_true_eq, JV.mk.injEq]
    rw [eqL_iff vs vs']
    exact ⟨fun h => ⟨h.1.1.1, h.1.1.2, h.1.2, h.2⟩, fun h => ⟨⟨⟨h.1, h.2.1⟩, h.2.2.1⟩, h.2.2.2⟩⟩
theorem eqL_iff : ∀ (az bs : List JV), eqL az bs = true ↔ az = bs
  | [], [] => by simp [eqL]
  | a :: az, b :: bs => by
    unfold eqL
    rw [Bool.and_eq_true, eqJ_iff a b, eqL_iff az bs]
    simp
  | [], b :: bs => by simp [eqL]
  | a :: az, [] => by simp [eqL]
end
theorem eqJ_refl (a : JV) : eqJ a a = true := (eqJ_iff a a).2 rfl
theorem eqJ_ne {a b : JV} (h : a ≠ b) : eqJ a b = false := by
  rw [Bool.eq_false_iff]
  intro e
  exact h ((eqJ_iff a b).1 e)
mutual
def szJ : JV → Nat
  | .mk _ _ _ vs => szL vs + 1
def szL : List JV → Nat
  | [] => 0
  | a :: az => szJ a + szL az
end
theorem szL_at : ∀ (l : List JV) (i : Nat) (h : i < l.length), szJ l[i] ≤ szL l
  | a :: az, 0, _ => by simp only [List.getElem_cons_zero]; unfold szL; omega
  | a :: az, i + 1, h => by
    have := szL_at az i (by simpa using h)
    simp only [List.getElem_cons_succ]
    unfold szL
    omega
/-- The i-th of the values in a row. -/
theorem VRdL.at_ {w : World} {F : Nat → Prop} : ∀ (js : List JV) (xs : List Value), VRdL w F js xs → ∀ (i : Nat) (h : i < js.length), ∃ cs, VRd w F js[i] cs ∧ ∀ j, j < 4 → xs[i * 4 + j]? = cs[j]?
  | j0 :: js, xs, h, i, hi => by
    unfold VRdL at h
    obtain ⟨cs, rest, rfl, h2, h3⟩ := h
    have hl : cs.length = 4 := by obtain ⟨k, t, A, n, c, A', n', c', rfl⟩ := h2.four; rfl
    cases i with
    | zero =>
      refine ⟨cs, h2, fun j hj => ?_⟩
      rw [Nat.zero_mul, Nat.zero_add, List.getElem?_append_left (by omega)]
    | succ i =>
      obtain ⟨cs', g1, g2⟩ := VRdL.at_ js rest h3 i (by simpa using hi)
      refine ⟨cs', by simpa using g1, fun j hj => ?_⟩
      rw [List.getElem?_append_right (by omega), hl, show (i + 1) * 4 + j - 4 = i * 4 + j by omega]
      exact g2 j hj
theorem VRd.below {w w' : World} {F : Nat → Prop} {J : JV} {cs : List Value} (h : VRd w F J cs) (hF : ∀ j, F j → j < w.heap.size) (hb : Below w.heap.size w w') : VRd w' F J cs := VRd.keep (fun j hj => hb.block j (hF j hj)) (fun _ h => h) _ _ h
theorem VRd.all {w : World} {F : Nat → Prop} {J : JV} {cs : List Value} (h : VRd w F J cs) : VRd w (fun j => j < w.heap.size) J cs := VRd.keep (fun _ _ => rfl) (fun j hj => hj.2) _ _ h.lt
theorem VRd.later {w w' : World} {J : JV} {cs : List Value} (h : VRd w (fun j => j < w.heap.size) J cs) (hb : Below w.heap.size w w') : VRd w' (fun j => j < w'.heap.size) J cs := VRd.keep (fun j hj => hb.block j hj) (fun j hj => Nat.lt_of_lt_of_le hj hb.size) _ _ h
theorem VRdL.later {w w' : World} {js : List JV} {xs : List Value} (h : VRdL w (fun j => j < w.heap.size) js xs) (hb : Below w.heap.size w w') : VRdL w' (fun j => j < w'.heap.size) js xs := VRdL.keep (fun j hj => hb.block j hj) (fun j hj => Nat.lt_of_lt_of_le hj hb.size) _ _ h
theorem ReadsF.later {w w' : World} {k n : Nat} {A : Option Addr} {xs : List Value} (h : ReadsF w (fun j => j < w.heap.size) k A n xs) (hb : Below w.heap.size w w') : ReadsF w' (fun j => j < w'.heap.size) k A n xs := h.keep (fun j hj => hb.block j hj) (fun j hj => Nat.lt_of_lt_of_le hj hb.size)
theorem sc_at {ks : List L8} {i : Nat} (h : i < ks.length) : (sc ks)[i]? = some (bstr ks[i]) := by unfold sc; rw [List.getElem?_map, List.getElem?_eq_getElem h]; rfl
end Go.Proofs.YtmbjalcphdggnaaDoor
