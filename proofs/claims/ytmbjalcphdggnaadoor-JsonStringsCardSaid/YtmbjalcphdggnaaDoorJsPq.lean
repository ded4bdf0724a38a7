/- A string that is escaped in any way is read as it was. -/
import Derived.Test.YtmbjalcphdggnaaDoorJsPp
namespace Go.Proofs.YtmbjalcphdggnaaDoor
set_option linter.unusedSimpArgs false
set_option linter.unusedVariables false
open Go.RowKit
def hexUD : L8 := [48, 49, 50, 51, 52, 53, 54, 55, 56, 57, 65, 66, 67, 68, 69, 70]
def pcU (c : UInt8) : L8 := [92, 117, 48, 48, hexUD.getD (c.toNat / 16) 0, hexUD.getD (c.toNat % 16) 0]
/-- How the law writes a byte. -/
def EU (c : UInt8) (q : L8) : Prop := (q = [c] ∧ (128 ≤ c.toNat ∨ (32 ≤ c.toNat ∧ c.toNat ≠ 34 ∧ c.toNat ≠ 92))) ∨ (c.toNat < 128 ∧ q = pcU c)
theorem pcU_four : ∀ c : UInt8, c.toNat < 128 → fourS 4 [48, 48, hexUD.getD (c.toNat / 16) 0, hexUD.getD (c.toNat % 16) 0] 0 = some c.toNat := fun c =>
  u8_all (fun c => c.toNat < 128 → fourS 4 [48, 48, hexUD.getD (c.toNat / 16) 0, hexUD.getD (c.toNat % 16) 0] 0 = some c.toNat) (by decide +kernel) c
theorem EU_esc {c : UInt8} {q : L8} (h : EU c q) : (c.toNat < 128 → Esc c q) ∧ (128 ≤ c.toNat → q = [c]) := by
  rcases h with ⟨rfl, h⟩ | ⟨h, rfl⟩
  · exact ⟨fun hc => .inl ⟨rfl, by omega, by omega, by omega⟩, fun _ => rfl⟩
  · exact ⟨fun hc => esc_u hc (pcU_four c hc), fun hc => absurd h (by omega)⟩
theorem EU_len {c : UInt8} {q : L8} (h : EU c q) : q.length ≤ 6 := by
  rcases h with ⟨rfl, _⟩ | ⟨_, rfl⟩
  · simp
  · simp [pcU]
/-- What the law writes of a text's first bytes. -/
def Wrt (s : L8) (qs : List L8) : Prop := qs.length ≤ s.length ∧ ∀ (i : Nat) (c : UInt8) (q : L8), s[i]? = some c → qs[i]? = some q → EU c q
theorem Wrt.nil (s : L8) : Wrt s [] := ⟨by simp, by simp⟩
theorem Wrt.snoc {s : L8} {qs : List L8} {x : UInt8} {q : L8} (h : Wrt s qs) (hl : qs.length < s.length) (hx : s[qs.length] = x) (hq : EU x q) : Wrt s (qs ++ [q]) := by
  refine ⟨by rw [List.length_append]; simp; omega, fun i c q' h1 h2 => ?_⟩
  rcases Nat.lt_or_ge i qs.length with g | g
  · rw [List.getElem?_append_left g] at h2
    exact h.2 i c q' h1 h2
  · rw [List.getElem?_append_right g] at h2
    have hi : i = qs.length := by
      have := (List.getElem?_eq_some_iff.1 h2).1
      simp at this
      omega
    subst hi
    simp at h2
    subst h2
    rw [List.getElem?_eq_getElem hl, hx] at h1
    injection h1 with h1
    exact h1 ▸ hq
theorem Wrt.len {s : L8} : ∀ {qs : List L8}, (∀ q ∈ qs, q.length ≤ 6) → qs.flatten.length ≤ 6 * qs.length
  | [], _ => by simp
  | q :: qs, h => by
    rw [List.flatten_cons, List.length_append, List.length_cons]
    have h1 := h q (by simp)
    have h2 := Wrt.len (s := s) (qs := qs) (fun q' hq => h q' (by simp [hq]))
    omega
theorem Wrt.flat {s : L8} {qs : List L8} (h : Wrt s qs) : qs.flatten.length ≤ 6 * s.length := by
  have h1 : ∀ q ∈ qs, q.length ≤ 6 := fun q hq => by
    obtain ⟨i, hi, rfl⟩ := List.getElem_of_mem hq
    have hs : i < s.length := Nat.lt_of_lt_of_le hi h.1
    exact EU_len (h.2 i s[i] qs[i] (List.getElem?_eq_getElem hs) (List.getElem?_eq_getElem hi))
  have := Wrt.len (s := s) h1
  have := h.1
  omega
theorem parse_wrt {s : L8} {qs : List L8} (h : Wrt s qs) (hl : qs.length = s.length) (hv : Lib.validD s = true) (hn : s.length ≤ 2000) : parseS (34 :: qs.flatten ++ [34]) = .ok (.mk 5 s [] []) := by
  have hs : strS (qs.flatten ++ [34]) = some (s, qs.flatten.length + 1) := by
    unfold strS
    have := strF_esc [] EU (fun c q e => EU_esc e) s.length s qs (Nat.le_refl _) hl h.2 hv ((qs.flatten ++ [34]).length + 1) [] 0 (by rw [List.length_append]; omega)
    rw [this, List.nil_append, Nat.zero_add]
  have hx : lexS (34 :: (qs.flatten ++ [34])) = some (5, s, (34 :: (qs.flatten ++ [34])).length) := by
    simp only [lexS]
    rw [if_neg (by decide), if_pos (by decide), hs]
    simp
  have hnx : nextS (34 :: (qs.flatten ++ [34])) = .ok ⟨5, s, 34 :: (qs.flatten ++ [34]), []⟩ := by
    rw [nb_next (by decide) hx, List.drop_of_length_le (Nat.le_refl _)]
  have hf := h.flat
  rw [List.cons_append, parse_top (by simp only [List.length_cons, List.length_append, List.length_nil]; omega)]
  unfold topS
  rw [hnx]
  obtain ⟨F, hF⟩ : ∃ F, 3 * (34 :: (qs.flatten ++ [34])).length + 4 = F + 1 := ⟨_, rfl⟩
  rw [hF]
  show (valF (F + 1) 0 ⟨5, s, 34 :: (qs.flatten ++ [34]), []⟩).bind _ = _
  unfold valF
  rw [if_pos (by simp)]
  rfl
theorem qB_len (c : UInt8) : (qB c).length ≤ 6 := u8_all (fun c => (qB c).length ≤ 6) (by decide +kernel) c
theorem quote_len : ∀ s : L8, (s.flatMap qB).length ≤ 6 * s.length
  | [] => by simp
  | c :: t => by
    rw [List.flatMap_cons, List.length_append, List.length_cons]
    have h1 := qB_len c
    have h2 := quote_len t
    omega
theorem prE_str {s : L8} (hn : s.length ≤ 2000) : prE (.mk 5 s [] []) = if Lib.validD s then 0 else 2 := by
  have hd : dpJ 32 (.mk 5 s [] []) = Lib.validD s := by unfold dpJ; simp
  have hp : prJ (.mk 5 s [] []) = quoteL s := by simp [prJ]
  unfold prE
  rw [hd, hp]
  have hl : (quoteL s).length ≤ 262144 := by
    have := quote_len s
    unfold quoteL
    simp only [List.length_cons, List.length_append, List.length_nil]
    omega
  rw [if_pos hl]
end Go.Proofs.YtmbjalcphdggnaaDoor
