/- A printed string is read as it was. -/
import Derived.Test.YtmbjalcphdggnaaDoorJsPe
namespace Go.Proofs.YtmbjalcphdggnaaDoor
set_option linter.unusedSimpArgs false
set_option linter.unusedVariables false
open Go.RowKit
/-- What may stand behind a token. -/
def dm (x : L8) : Prop := x = [] ∨ ∃ c t, x = c :: t ∧ (blL.contains c = true ∨ c = 44 ∨ c = 93 ∨ c = 125)
theorem dm_c {c : UInt8} (h : blL.contains c = true ∨ c = 44 ∨ c = 93 ∨ c = 125) : c = 32 ∨ c = 9 ∨ c = 10 ∨ c = 13 ∨ c = 44 ∨ c = 93 ∨ c = 125 := by
  rcases h with h | h | h | h
  · rcases bl_c h with h | h | h | h <;> simp [h]
  · simp [h]
  · simp [h]
  · simp [h]
theorem dm_is {x cs : L8} (h : dm x) (hc : ∀ c : UInt8, (c = 32 ∨ c = 9 ∨ c = 10 ∨ c = 13 ∨ c = 44 ∨ c = 93 ∨ c = 125) → cs.contains c = false) : isS x cs = false := by
  rcases h with rfl | ⟨c, t, rfl, h⟩
  · rfl
  · exact hc c (dm_c h)
theorem dm_dig {x : L8} (h : dm x) : digS x = false := by
  rcases h with rfl | ⟨c, t, rfl, h⟩
  · rfl
  · show isDg c = false
    rcases dm_c h with rfl | rfl | rfl | rfl | rfl | rfl | rfl <;> decide
theorem isS_dm {x cs : L8} (h : dm x) (u : L8) (hc : ∀ c : UInt8, (c = 32 ∨ c = 9 ∨ c = 10 ∨ c = 13 ∨ c = 44 ∨ c = 93 ∨ c = 125) → cs.contains c = false) : isS (u ++ x) cs = isS u cs := by
  cases u with
  | nil => rw [List.nil_append, dm_is h hc]; rfl
  | cons c t => rfl
theorem digS_dm {x : L8} (h : dm x) (u : L8) : digS (u ++ x) = digS u := by
  cases u with
  | nil => rw [List.nil_append, dm_dig h]; rfl
  | cons c t => rfl
theorem runDg_dm {x : L8} (h : dm x) : ∀ u : L8, runDg (u ++ x) = runDg u
  | [] => by rw [List.nil_append, run_zero (dm_dig h)]; rfl
  | c :: t => by
    rw [List.cons_append, runDg_cons, runDg_cons, runDg_dm h t]
theorem runLo_dm {x : L8} (h : dm x) : ∀ u : L8, runLo (u ++ x) = runLo u
  | [] => by
    rcases h with rfl | ⟨c, t, rfl, h⟩
    · rfl
    · unfold runLo
      rw [List.nil_append, List.takeWhile_cons]
      have : isLo c = false := by rcases dm_c h with rfl | rfl | rfl | rfl | rfl | rfl | rfl <;> decide
      rw [this]
      rfl
  | c :: t => by
    have ih := runLo_dm h t
    unfold runLo at ih ⊢
    rw [List.cons_append, List.takeWhile_cons, List.takeWhile_cons]
    split
    · simp [ih]
    · rfl
theorem numL_dm {x : L8} (h : dm x) (u : L8) : numL (u ++ x) = numL u := by
  have cI : ∀ v : L8, isS (v ++ x) [45] = isS v [45] := fun v => isS_dm h v (by rintro c (rfl | rfl | rfl | rfl | rfl | rfl | rfl) <;> decide)
  have c0 : ∀ v : L8, isS (v ++ x) [48] = isS v [48] := fun v => isS_dm h v (by rintro c (rfl | rfl | rfl | rfl | rfl | rfl | rfl) <;> decide)
  have cF : ∀ v : L8, isS (v ++ x) [46] = isS v [46] := fun v => isS_dm h v (by rintro c (rfl | rfl | rfl | rfl | rfl | rfl | rfl) <;> decide)
  have cE : ∀ v : L8, isS (v ++ x) [101, 69] = isS v [101, 69] := fun v => isS_dm h v (by rintro c (rfl | rfl | rfl | rfl | rfl | rfl | rfl) <;> decide)
  have cS : ∀ v : L8, isS (v ++ x) [43, 45] = isS v [43, 45] := fun v => isS_dm h v (by rintro c (rfl | rfl | rfl | rfl | rfl | rfl | rfl) <;> decide)
  have cX : ∀ v : L8, isS (v ++ x) [43, 45, 46, 101, 69] = isS v [43, 45, 46, 101, 69] := fun v => isS_dm h v (by rintro c (rfl | rfl | rfl | rfl | rfl | rfl | rfl) <;> decide)
  have eI : nI (u ++ x) = nI u := by unfold nI; rw [cI]
  have eD : ∀ v : L8, nD (v ++ x) = nD v := fun v => by unfold nD; rw [c0, digS_dm h, runDg_dm h]
  have eF : ∀ v : L8, nF (v ++ x) = nF v := fun v => by
    unfold nF
    rw [cF]
    by_cases q : isS v [46] = true
    · rw [if_pos q, if_pos q, drop_app x (isS_le q), digS_dm h, runDg_dm h]
    · rw [if_neg q, if_neg q]
  have eS : ∀ v : L8, nS (v ++ x) = nS v := fun v => by unfold nS; rw [cS]
  have eE : ∀ v : L8, nE (v ++ x) = nE v := fun v => by
    unfold nE
    rw [cE]
    by_cases q : isS v [101, 69] = true
    · have l1 := isS_le q
      rw [if_pos q, if_pos q, drop_app x l1, eS]
      have l2 : 1 + nS (v.drop 1) ≤ v.length := by
        unfold nS
        split
        · next q2 => have := isS_le q2; rw [List.length_drop] at this; omega
        · omega
      rw [drop_app x l2, digS_dm h, runDg_dm h]
    · rw [if_neg q, if_neg q]
  have eX : ∀ v : L8, nX (v ++ x) = nX v := fun v => by unfold nX; rw [digS_dm h, cX]
  have l0 := nI_le u
  unfold numL
  rw [eI, drop_app x l0, eD]
  cases hD : nD (u.drop (nI u)) with
  | none => rfl
  | some d =>
    have l1 := nD_le hD
    rw [List.length_drop] at l1
    simp only
    rw [drop_app x (by omega), eF]
    cases hF : nF (u.drop (nI u + d)) with
    | none => rfl
    | some f =>
      have l2 := nF_le hF
      rw [List.length_drop] at l2
      simp only
      rw [drop_app x (by omega), eE]
      cases hE : nE (u.drop (nI u + d + f)) with
      | none => rfl
      | some e =>
        have l3 := nE_le hE
        rw [List.length_drop] at l3
        simp only
        rw [drop_app x (by omega), eX]
/-- A token is read as it is, whatever may stand behind it. -/
theorem lexS_dm {u x : L8} (hx : dm x) (hu : u ≠ []) {r : Nat × L8 × Nat} (h : lexS u = some r) : lexS (u ++ x) = some r ∧ r.2.2 ≤ u.length ∧ r.1 ≠ 0 := by
  cases u with
  | nil => exact absurd rfl hu
  | cons c t =>
    simp only [lexS, List.cons_append] at h ⊢
    by_cases a1 : sgL.contains c = true
    · rw [if_pos a1] at h ⊢
      injection h with h
      subst h
      refine ⟨rfl, by simp, ?_⟩
      have := List.contains_iff_mem.1 a1
      unfold sgL at this
      simp at this
      rcases this with rfl | rfl | rfl | rfl | rfl | rfl <;> decide
    rw [if_neg a1] at h ⊢
    by_cases a2 : c.toNat = 34
    · rw [if_pos a2] at h ⊢
      cases hs : strS t with
      | none => rw [hs] at h; cases h
      | some q =>
        rw [hs] at h
        rw [strS_app x hs]
        injection h with h
        subst h
        have := strS_len hs
        exact ⟨rfl, by simp; omega, by simp⟩
    rw [if_neg a2] at h ⊢
    by_cases a3 : (isDg c || decide (c.toNat = 45)) = true
    · rw [if_pos a3] at h ⊢
      rw [show c :: (t ++ x) = (c :: t) ++ x from rfl, numL_dm hx]
      cases hm : numL (c :: t) with
      | none => rw [hm] at h; cases h
      | some m =>
        rw [hm] at h
        have l := (numL_le hm).2
        injection h with h
        subst h
        refine ⟨by simp only; rw [List.take_append_of_le_length l], l, by simp⟩
    rw [if_neg a3] at h ⊢
    by_cases a4 : isLo c = true
    · rw [if_pos a4] at h ⊢
      have l := runLo_le (c :: t)
      rw [show c :: (t ++ x) = (c :: t) ++ x from rfl, runLo_dm hx, List.take_append_of_le_length l]
      split at h
      · cases h
      · next q =>
        rw [if_neg q]
        injection h with h
        subst h
        exact ⟨rfl, l, q⟩
    · rw [if_neg a4] at h; cases h
theorem bN (x : UInt8) : x.toNat < 256 := x.toNat_lt
set_option maxHeartbeats 1000000 in
/-- A character of UTF-8 alone is as it is with others behind it. -/
theorem cut_char {u : L8} (hu : u ≠ []) (h : chW u ≠ 0) (h0 : 128 ≤ (u.getD 0 0).toNat) : chW (u.take (chW u)) = chW u ∧ ∀ b ∈ u.take (chW u), 128 ≤ b.toNat := by
  have hd := h
  rw [Ne, chW_zero, Lib.decodeL_N] at hd
  have hw : chW u = (Lib.decodeL u).2 := by
    unfold chW at h ⊢
    split at h
    · exact absurd rfl h
    · next q => rw [if_neg q]
  have hle := chW_le hu
  rw [Lib.decodeL_N] at hw
  rcases Lib.decodeN_shape u.length (u.getD 0 0).toNat (u.getD 1 0).toNat (u.getD 2 0).toNat (u.getD 3 0).toNat with q | q | q | q | q
  · omega
  · obtain ⟨q0, q1, q2, q3, q4⟩ := q
    rw [q4] at hw hd
    have e : chW u = 2 := hw
    rw [e, Lib.takeB u q1]
    constructor
    · have : Lib.decodeL [u.getD 0 0, u.getD 1 0] = ((u.getD 0 0).toNat % 32 * 64 + (u.getD 1 0).toNat % 64, 2) := by
        rw [Lib.decodeL_N]
        show Lib.decodeN 2 (u.getD 0 0).toNat (u.getD 1 0).toNat 0 0 = _
        unfold Lib.decodeN
        rw [if_neg (by omega), if_pos ⟨q0, by omega, q2⟩, if_pos q3]
      unfold chW
      rw [this]
      simp
    · intro b hb
      simp only [List.mem_cons, List.not_mem_nil, or_false] at hb
      rcases hb with rfl | rfl <;> omega
  · obtain ⟨q0, q1, q2, q3, q4, q5, q6⟩ := q
    rw [q6] at hw hd
    have e : chW u = 3 := hw
    rw [e, Lib.takeC u q1]
    constructor
    · have : Lib.decodeL [u.getD 0 0, u.getD 1 0, u.getD 2 0] = ((u.getD 0 0).toNat % 16 * 4096 + (u.getD 1 0).toNat % 64 * 64 + (u.getD 2 0).toNat % 64, 3) := by
        rw [Lib.decodeL_N]
        show Lib.decodeN 3 (u.getD 0 0).toNat (u.getD 1 0).toNat (u.getD 2 0).toNat 0 = _
        unfold Lib.decodeN
        rw [if_neg (by omega), if_neg (by omega), if_pos ⟨q0, ⟨by omega, q2⟩, by omega, q3⟩, if_pos (by omega)]
      unfold chW
      rw [this]
      simp
    · intro b hb
      simp only [List.mem_cons, List.not_mem_nil, or_false] at hb
      rcases hb with rfl | rfl | rfl <;> omega
  · obtain ⟨q0, q1, q2, q3, q4, q5, q6, q7⟩ := q
    rw [q7] at hw hd
    have e : chW u = 4 := hw
    rw [e, Lib.takeD u q1]
    constructor
    · have : Lib.decodeL [u.getD 0 0, u.getD 1 0, u.getD 2 0, u.getD 3 0] = ((u.getD 0 0).toNat % 8 * 262144 + (u.getD 1 0).toNat % 64 * 4096 + (u.getD 2 0).toNat % 64 * 64 + (u.getD 3 0).toNat % 64, 4) := by
        rw [Lib.decodeL_N]
        show Lib.decodeN 4 (u.getD 0 0).toNat (u.getD 1 0).toNat (u.getD 2 0).toNat (u.getD 3 0).toNat = _
        unfold Lib.decodeN
        rw [if_neg (by omega), if_neg (by omega), if_neg (by omega), if_pos ⟨q0, ⟨by omega, q2⟩, ⟨by omega, q3⟩, by omega, q4⟩, if_pos (by omega)]
      unfold chW
      rw [this]
      simp
    · intro b hb
      simp only [List.mem_cons, List.not_mem_nil, or_false] at hb
      rcases hb with rfl | rfl | rfl | rfl <;> omega
  · exact absurd q hd
theorem valid_ch {u : L8} (hu : u ≠ []) (h : Lib.validD u = true) : chW u ≠ 0 ∧ Lib.validD (u.drop (chW u)) = true := by
  rw [Lib.validD_step u hu] at h
  split at h
  · cases h
  · next q =>
    have hw : chW u = (Lib.decodeL u).2 := by unfold chW; rw [if_neg q]
    have := Lib.decodeL_width u
    rw [hw]
    exact ⟨by omega, h⟩
theorem flat_take : ∀ (w : Nat) (s : L8) (qs : List L8), w ≤ s.length → qs.length = s.length → (∀ (i : Nat) (c : UInt8) (q : L8), i < w → s[i]? = some c → qs[i]? = some q → q = [c]) → (qs.take w).flatten = s.take w
  | 0, _, _, _, _, _ => by simp
  | w + 1, [], _, h, _, _ => by simp at h
  | w + 1, c :: t, [], _, h, _ => by simp at h
  | w + 1, c :: t, q :: qs, h, hl, hq => by
    rw [List.take_succ_cons, List.take_succ_cons, List.flatten_cons, hq 0 c q (by omega) rfl rfl, flat_take w t qs (by simpa using h) (by simpa using hl) (fun i c q hi h1 h2 => hq (i + 1) c q (by omega) (by simpa using h1) (by simpa using h2))]
    rfl
theorem valid_low {c : UInt8} {t : L8} (hc : c.toNat < 128) (h : Lib.validD (c :: t) = true) : Lib.validD t = true := by rwa [Lib.validD_cons c t hc] at h
/-- A way to write a byte in a string: what it is, and what the reader makes of it. -/
def Esc (c : UInt8) (q : L8) : Prop := (q = [c] ∧ 32 ≤ c.toNat ∧ c.toNat ≠ 34 ∧ c.toNat ≠ 92) ∨ ∃ r, q = 92 :: r ∧ r ≠ [] ∧ ∀ x, escS (r ++ x) = some ([c], r.length)
theorem chW_one {c : UInt8} (t : L8) (h : c.toNat < 128) : chW (c :: t) = 1 := by
  unfold chW
  rw [Lib.decodeL_ascii c t h]
  simp
  omega
/-- A text whose bytes below 128 are written so or so is read as it was. -/
theorem strF_esc (x : L8) (E : UInt8 → L8 → Prop) (hE : ∀ c q, E c q → (c.toNat < 128 → Esc c q) ∧ (128 ≤ c.toNat → q = [c])) :
    ∀ (n : Nat) (s : L8) (qs : List L8), s.length ≤ n → qs.length = s.length → (∀ (i : Nat) (c : UInt8) (q : L8), s[i]? = some c → qs[i]? = some q → E c q) → Lib.validD s = true →
      ∀ (f : Nat) (out : L8) (i : Nat), qs.flatten.length < f → strF f (qs.flatten ++ 34 :: x) out i = some (out ++ s, i + qs.flatten.length + 1)
  | n, [], qs, _, hl, _, _, f, out, i, hf => by
    have : qs = [] := List.eq_nil_of_length_eq_zero hl
    subst this
    cases f with
    | zero => simp at hf
    | succ f => simp [strF]
  | 0, c :: t, _, hn, _, _, _, _, _, _, _ => by simp at hn
  | n + 1, c :: t, [], _, hl, _, _, _, _, _, _ => by simp at hl
  | n + 1, c :: t, q :: qs, hn, hl, hq, hv, f, out, i, hf => by
    have hc := hE c q (hq 0 c q rfl rfl)
    have hq' : ∀ (i : Nat) (c : UInt8) (q : L8), t[i]? = some c → qs[i]? = some q → E c q := fun i c q h1 h2 => hq (i + 1) c q (by simpa using h1) (by simpa using h2)
    have hlt : qs.length = t.length := by simpa using hl
    have hnt : t.length ≤ n := by simpa using hn
    cases f with
    | zero => simp at hf
    | succ f =>
    by_cases h128 : c.toNat < 128
    · have hvt := valid_low h128 hv
      rcases hc.1 h128 with ⟨rfl, g1, g2, g3⟩ | ⟨r, rfl, hr, g⟩
      · have ih := strF_esc x E hE n t qs hnt hlt hq' hvt f (out ++ [c]) (i + 1) (by rw [List.flatten_cons, List.length_append] at hf; simp only [List.length_cons, List.length_nil] at hf; omega)
        rw [List.flatten_cons, List.singleton_append, List.cons_append]
        unfold strF
        rw [if_neg g2, if_neg g3, if_neg (by omega), chW_one _ h128, if_neg (by decide)]
        show strF f (qs.flatten ++ 34 :: x) (out ++ [c]) (i + 1) = _
        rw [ih]
        simp
        omega
      · have ih := strF_esc x E hE n t qs hnt hlt hq' hvt f (out ++ [c]) (i + 1 + r.length) (by rw [List.flatten_cons, List.length_append] at hf; simp only [List.length_cons] at hf; omega)
        rw [List.flatten_cons, List.cons_append, List.cons_append, List.append_assoc]
        unfold strF
        rw [if_neg (by decide), if_pos (by decide), g]
        simp only
        rw [List.drop_left, ih]
        simp
        omega
    · have hne : (c :: t) ≠ [] := by simp
      obtain ⟨w1, w2⟩ := valid_ch hne hv
      obtain ⟨w3, w4⟩ := cut_char hne w1 (show 128 ≤ c.toNat by omega)
      have wl := chW_le hne
      obtain ⟨w, hw⟩ : ∃ w, chW (c :: t) = w := ⟨_, rfl⟩
      rw [hw] at w1 w2 w3 w4 wl
      have hqw : ∀ (i : Nat) (c' : UInt8) (q' : L8), i < w → (c :: t)[i]? = some c' → (q :: qs)[i]? = some q' → q' = [c'] := fun i c' q' hi h1 h2 => (hE c' q' (hq i c' q' h1 h2)).2 (w4 c' (List.mem_of_getElem? (i := i) (by rw [List.getElem?_take_of_lt hi]; exact h1)))
      have hft := flat_take w (c :: t) (q :: qs) wl hl hqw
      have hsp : (q :: qs).flatten = (c :: t).take w ++ ((q :: qs).drop w).flatten := by
        rw [← hft, ← List.flatten_append, List.take_append_drop]
      have htl : ((c :: t).take w).length = w := by rw [List.length_take]; omega
      have ih := strF_esc x E hE n ((c :: t).drop w) ((q :: qs).drop w) (by rw [List.length_drop]; simp at hn ⊢; omega) (by rw [List.length_drop, List.length_drop, hl])
        (fun j c' q' h1 h2 => hq (w + j) c' q' (by rwa [List.getElem?_drop] at h1) (by rwa [List.getElem?_drop] at h2)) w2 f (out ++ (c :: t).take w) (i + w) (by rw [hsp, List.length_append, htl] at hf; omega)
      have hne2 : (c :: t).take w ≠ [] := by intro e; rw [e] at htl; simp at htl; omega
      have hch : chW ((c :: t).take w ++ (((q :: qs).drop w).flatten ++ 34 :: x)) = w := by
        rw [chW_app _ hne2 (by rw [w3]; exact w1), w3]
      rw [hsp, List.append_assoc]
      have hcons : (c :: t).take w ++ (((q :: qs).drop w).flatten ++ 34 :: x) = c :: (t.take (w - 1) ++ (((q :: qs).drop w).flatten ++ 34 :: x)) := by
        obtain ⟨v, rfl⟩ : ∃ v, w = v + 1 := ⟨w - 1, by omega⟩
        rfl
      rw [hcons]
      unfold strF
      rw [if_neg (by omega), if_neg (by omega), if_neg (by omega), ← hcons, hch, if_neg w1]
      rw [List.drop_append_of_le_length (by omega), List.take_append_of_le_length (by omega), List.drop_of_length_le (by omega), List.take_of_length_le (by omega), List.nil_append, ih]
      rw [List.append_assoc, List.take_append_drop]
      simp [htl]
      omega
theorem qB_is : ∀ c : UInt8, (c.toNat < 128 → (qB c = [c] ∧ 32 ≤ c.toNat ∧ c.toNat ≠ 34 ∧ c.toNat ≠ 92) ∨ (qB c = [92, (qB c).getD 1 0] ∧ escFrom.contains ((qB c).getD 1 0) = true ∧ escOf ((qB c).getD 1 0) = c) ∨ (qB c = [92, 117, 48, 48, (qB c).getD 4 0, (qB c).getD 5 0] ∧ fourS 4 [48, 48, (qB c).getD 4 0, (qB c).getD 5 0] 0 = some c.toNat ∧ Lib.encodeRune (c.toNat : Int) = [c])) ∧ (128 ≤ c.toNat → qB c = [c]) := fun c =>
  u8_all (fun c => (c.toNat < 128 → (qB c = [c] ∧ 32 ≤ c.toNat ∧ c.toNat ≠ 34 ∧ c.toNat ≠ 92) ∨ (qB c = [92, (qB c).getD 1 0] ∧ escFrom.contains ((qB c).getD 1 0) = true ∧ escOf ((qB c).getD 1 0) = c) ∨ (qB c = [92, 117, 48, 48, (qB c).getD 4 0, (qB c).getD 5 0] ∧ fourS 4 [48, 48, (qB c).getD 4 0, (qB c).getD 5 0] 0 = some c.toNat ∧ Lib.encodeRune (c.toNat : Int) = [c])) ∧ (128 ≤ c.toNat → qB c = [c])) (by decide +kernel) c
theorem low_rune : ∀ c : UInt8, c.toNat < 128 → Lib.encodeRune (c.toNat : Int) = [c] := fun c => u8_all (fun c => c.toNat < 128 → Lib.encodeRune (c.toNat : Int) = [c]) (by decide +kernel) c
theorem esc_u {c a b : UInt8} (hc : c.toNat < 128) (h : fourS 4 [48, 48, a, b] 0 = some c.toNat) : Esc c [92, 117, 48, 48, a, b] := by
  refine .inr ⟨[117, 48, 48, a, b], rfl, by simp, fun x => ?_⟩
  unfold escS
  rw [if_neg (show ¬ isS ([117, 48, 48, a, b] ++ x) escFrom = true by show ¬ escFrom.contains 117 = true; decide), if_pos (show isS ([117, 48, 48, a, b] ++ x) [117] = true from rfl)]
  have h4 := (fourS_app x 4 _ _ _ h).2
  rw [show ([117, 48, 48, a, b] ++ x).drop 1 = [48, 48, a, b] ++ x from rfl, h4]
  simp only
  have e1 : isHi c.toNat = false := by unfold isHi; simp; omega
  have e2 : isSur c.toNat = false := by unfold isSur; simp; omega
  rw [e1, e2, low_rune c hc]
  rfl
theorem qB_esc (c : UInt8) : (c.toNat < 128 → Esc c (qB c)) ∧ (128 ≤ c.toNat → qB c = [c]) := by
  obtain ⟨h1, h2⟩ := qB_is c
  refine ⟨fun hc => ?_, h2⟩
  rcases h1 hc with h | ⟨e, g1, g2⟩ | ⟨e, g1, g2⟩
  · exact .inl h
  · rw [e]
    refine .inr ⟨[(qB c).getD 1 0], rfl, by simp, fun x => ?_⟩
    unfold escS
    rw [if_pos (show isS ([(qB c).getD 1 0] ++ x) escFrom = true from g1)]
    show some ([escOf ((qB c).getD 1 0)], 1) = _
    rw [g2]
    rfl
  · rw [e]
    exact esc_u hc g1
theorem flatMap_flat (s : L8) : s.flatMap qB = (s.map qB).flatten := by rw [List.flatMap]
/-- A text of UTF-8, quoted, is read as it was. -/
theorem strS_quote {s : L8} (h : Lib.validD s = true) (x : L8) : strS (s.flatMap qB ++ 34 :: x) = some (s, (s.flatMap qB).length + 1) := by
  unfold strS
  rw [flatMap_flat]
  have := strF_esc x (fun c q => q = qB c) (fun c q e => by subst e; exact qB_esc c) s.length s (s.map qB) (Nat.le_refl _) (by simp) (fun i c q h1 h2 => by rw [List.getElem?_map, h1] at h2; injection h2 with h2; exact h2.symm) h (((s.map qB).flatten ++ 34 :: x).length + 1) [] 0 (by rw [List.length_append]; omega)
  rw [this, List.nil_append, Nat.zero_add]
theorem lex_quote {s : L8} (h : Lib.validD s = true) (x : L8) : lexS (quoteL s ++ x) = some (5, s, (quoteL s).length) := by
  unfold quoteL
  show lexS (34 :: (s.flatMap qB ++ [34] ++ x)) = _
  simp only [lexS]
  rw [if_neg (by decide), if_pos (by decide), List.append_assoc, List.singleton_append, strS_quote h x]
  simp
theorem nb_next {c : UInt8} {t : L8} (hc : blL.contains c = false) {k d : Nat} {tx : L8} (h : lexS (c :: t) = some (k, tx, d)) : nextS (c :: t) = .ok ⟨k, tx, c :: t, (c :: t).drop d⟩ := by
  unfold nextS
  rw [blS_no hc, List.drop_zero, h]
theorem next_quote {s : L8} (h : Lib.validD s = true) (x : L8) : nextS (quoteL s ++ x) = .ok ⟨5, s, quoteL s ++ x, x⟩ := by
  have e := lex_quote h x
  have h1 : quoteL s ++ x = 34 :: (s.flatMap qB ++ [34] ++ x) := rfl
  rw [h1] at e ⊢
  rw [nb_next (by decide) e]
  rw [← h1, List.drop_left]
end Go.Proofs.YtmbjalcphdggnaaDoor
