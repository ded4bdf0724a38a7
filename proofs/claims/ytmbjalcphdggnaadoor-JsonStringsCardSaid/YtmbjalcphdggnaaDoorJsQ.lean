/- Numbers: the reader's are the document's. -/
import Derived.Test.YtmbjalcphdggnaaDoorJsP
namespace Go.Proofs.YtmbjalcphdggnaaDoor
set_option linter.unusedSimpArgs false
set_option linter.unusedVariables false
open Go.RowKit
/-- What a number may have. -/
def isN (c : UInt8) : Bool := isDg c || ([43, 45, 46, 101, 69] : L8).contains c
theorem nX_all {s : L8} (h : ∀ c ∈ s, isN c = true) : nX s = !s.isEmpty := by
  cases s with
  | nil => rfl
  | cons c t => exact h c (List.mem_cons_self ..)
theorem dig_not {s cs : L8} (h : digS s = true) (hc : ∀ c : UInt8, isDg c = true → cs.contains c = false) : isS s cs = false := by
  cases s with
  | nil => rfl
  | cons c t => exact hc c h
theorem dg_c {c : UInt8} (h : isDg c = true) : 48 ≤ c.toNat ∧ c.toNat ≤ 57 := by
  unfold isDg at h
  simpa using h
theorem not_has {c : UInt8} {cs : L8} (h : ∀ x ∈ cs, x.toNat ≠ c.toNat) : cs.contains c = false := by
  rw [Bool.eq_false_iff]
  intro e
  have := List.contains_iff_mem.1 e
  exact h c this rfl
theorem dig_dot {s : L8} (h : digS s = true) : isS s [46] = false := dig_not h (fun c hc => not_has (fun x hx => by have := dg_c hc; simp at hx; subst hx; simp; omega))
theorem dig_exp {s : L8} (h : digS s = true) : isS s [101, 69] = false := dig_not h (fun c hc => not_has (fun x hx => by have := dg_c hc; simp at hx; rcases hx with rfl | rfl <;> simp <;> omega))
theorem zero_dig {s : L8} (h : isS s [48] = true) : digS s = true := by
  cases s with
  | nil => cases h
  | cons c t =>
    have : c = 48 := by simpa [isS] using h
    subst this
    rfl
theorem mem_drop {s : L8} {k : Nat} (h : ∀ c ∈ s, isN c = true) : ∀ c ∈ s.drop k, isN c = true := fun c hc => h c (List.mem_of_mem_drop hc)
theorem num_law (l : L8) (h : ∀ c ∈ l, isN c = true) : numL l = if numR l then some l.length else none := by
  have fin : ∀ m, m ≤ l.length → (if nX (l.drop m) then (none : Option Nat) else some m) = if decide (m = l.length) then some l.length else none := fun m hm => by
    rw [nX_all (mem_drop h)]
    by_cases e : m = l.length
    · subst e; simp
    · have : (l.drop m).isEmpty = false := by
        rw [List.isEmpty_eq_false_iff]
        intro e2
        have := congrArg List.length e2
        rw [List.length_drop] at this
        simp at this
        omega
      simp [this, e]
  have hi := nI_le l
  obtain ⟨i, hI⟩ : ∃ i, nI l = i := ⟨_, rfl⟩
  rw [hI] at hi
  have hrun := run_le (l.drop i)
  rw [List.length_drop] at hrun
  have hR : numR l = if runDg (l.drop i) = 0 ∨ (isS (l.drop i) [48] = true ∧ 1 < runDg (l.drop i)) then false else numT l (i + runDg (l.drop i)) := by rw [numR_eq, hI]
  have hL : numL l = match nD (l.drop i) with
    | none => none
    | some d => match nF (l.drop (i + d)) with
      | none => none
      | some f => match nE (l.drop (i + d + f)) with
        | none => none
        | some e => if nX (l.drop (i + d + f + e)) then none else some (i + d + f + e) := by unfold numL; rw [hI]; rfl
  rw [hR, hL]
  by_cases h0 : runDg (l.drop i) = 0
  · have hd : digS (l.drop i) = false := by rw [digS_run, h0]; rfl
    have hz : isS (l.drop i) [48] = false := by
      cases e : isS (l.drop i) [48]
      · rfl
      · rw [zero_dig e] at hd; cases hd
    have e1 : nD (l.drop i) = none := by unfold nD; rw [hz, hd]; rfl
    rw [if_pos (show runDg (l.drop i) = 0 ∨ (isS (l.drop i) [48] = true ∧ 1 < runDg (l.drop i)) from .inl h0), e1]
    rfl
  · have hd : digS (l.drop i) = true := by rw [digS_run]; simp; omega
    by_cases hz : isS (l.drop i) [48] = true ∧ 1 < runDg (l.drop i)
    · rw [if_pos (show runDg (l.drop i) = 0 ∨ (isS (l.drop i) [48] = true ∧ 1 < runDg (l.drop i)) from .inr hz)]
      have e1 : nD (l.drop i) = some 1 := by unfold nD; rw [if_pos hz.1]
      have hil : i < l.length := by omega
      have e2 : digS (l.drop (i + 1)) = true := by
        have := hz.2
        rw [runDg_at i hil] at this
        split at this
        · rw [digS_run]; simp; omega
        · omega
      have e3 : nF (l.drop (i + 1)) = some 0 := by unfold nF; rw [dig_dot e2]; rfl
      have e4 : nE (l.drop (i + 1)) = some 0 := by unfold nE; rw [dig_exp e2]; rfl
      have e5 : nX (l.drop (i + 1)) = true := by unfold nX; rw [e2]; rfl
      simp [e1, e3, e4, e5]
    · rw [if_neg (show ¬ (runDg (l.drop i) = 0 ∨ (isS (l.drop i) [48] = true ∧ 1 < runDg (l.drop i))) by rintro (e | e); exact h0 e; exact hz e)]
      have e1 : nD (l.drop i) = some (runDg (l.drop i)) := by
        unfold nD
        by_cases e : isS (l.drop i) [48] = true
        · rw [if_pos e]
          congr 1
          have : ¬ 1 < runDg (l.drop i) := fun h => hz ⟨e, h⟩
          omega
        · rw [if_neg e, if_pos hd]
      have hT : numT l (i + runDg (l.drop i)) = match nF (l.drop (i + runDg (l.drop i))) with
        | none => false
        | some f => match nE (l.drop (i + runDg (l.drop i) + f)) with
          | none => false
          | some e => decide (i + runDg (l.drop i) + f + e = l.length) := rfl
      rw [hT, e1]
      clear hT hR hL
      simp only
      have hkl : i + runDg (l.drop i) ≤ l.length := by omega
      generalize i + runDg (l.drop i) = k at *
      cases hF : nF (l.drop k) with
      | none => simp
      | some f =>
        have hf := nF_le hF
        rw [List.length_drop] at hf
        simp only
        obtain ⟨x, hE⟩ : ∃ x, nE (l.drop (k + f)) = x := ⟨_, rfl⟩
        cases x with
        | none => simp [hE]
        | some e =>
          simp only [hE]
          have he := nE_le hE
          rw [List.length_drop] at he
          exact fin _ (by omega)
theorem run_zero {s : L8} (h : digS s = false) : runDg s = 0 := by rw [digS_run] at h; simp at h; exact h
theorem word_e (t : L8) : kindW ((101 :: t).take (runLo (101 :: t))) = 0 := by
  cases e : (101 :: t : L8).take (runLo (101 :: t)) with
  | nil => rfl
  | cons c u =>
    have : c = 101 := by
      cases hr : runLo (101 :: t) with
      | zero => rw [hr] at e; cases e
      | succ k => rw [hr] at e; injection e with e1 _; exact e1.symm
    subst this
    rfl
theorem isN_cases {c : UInt8} (h : isN c = true) : (isDg c = true ∨ c.toNat = 45) ∨ (c.toNat = 43 ∨ c.toNat = 46 ∨ c.toNat = 69 ∨ c.toNat = 101) := by
  unfold isN at h
  rw [Bool.or_eq_true, List.contains_iff_mem] at h
  rcases h with h | h
  · exact .inl (.inl h)
  · simp at h
    rcases h with rfl | rfl | rfl | rfl | rfl
    · exact .inr (.inl rfl)
    · exact .inl (.inr rfl)
    · exact .inr (.inr (.inl rfl))
    · exact .inr (.inr (.inr (.inr rfl)))
    · exact .inr (.inr (.inr (.inl rfl)))
theorem next_num (l : L8) (h : ∀ c ∈ l, isN c = true) (hl : l ≠ []) : nextS l = if numR l then .ok ⟨4, l, l, []⟩ else .bad l 11 := by
  have hlaw := num_law l h
  cases l with
  | nil => exact absurd rfl hl
  | cons c t =>
    have hc := isN_cases (h c (List.mem_cons_self ..))
    have hb : blS (c :: t) = 0 := by
      unfold blS
      rw [List.takeWhile_cons]
      have : blL.contains c = false := not_has (fun x hx => by
        unfold blL at hx
        simp at hx
        rcases hc with (hc | hc) | hc
        · have := dg_c hc
          rcases hx with rfl | rfl | rfl | rfl <;> simp <;> omega
        · rcases hx with rfl | rfl | rfl | rfl <;> simp <;> omega
        · rcases hx with rfl | rfl | rfl | rfl <;> simp <;> omega)
      rw [this]
      rfl
    have hs : sgL.contains c = false := not_has (fun x hx => by
      unfold sgL at hx
      simp at hx
      rcases hc with (hc | hc) | hc
      · have := dg_c hc
        rcases hx with rfl | rfl | rfl | rfl | rfl | rfl <;> simp <;> omega
      · rcases hx with rfl | rfl | rfl | rfl | rfl | rfl <;> simp <;> omega
      · rcases hx with rfl | rfl | rfl | rfl | rfl | rfl <;> simp <;> omega)
    have hq : ¬ c.toNat = 34 := by
      rcases hc with (hc | hc) | hc
      · have := dg_c hc; omega
      · omega
      · omega
    unfold nextS
    rw [hb, List.drop_zero]
    simp only [lexS]
    rw [if_neg (by rw [hs]; simp), if_neg hq]
    rcases hc with hc | hc
    · have hd : (isDg c || decide (c.toNat = 45)) = true := by
        rcases hc with hc | hc
        · rw [hc]; rfl
        · rw [hc]; simp
      rw [if_pos hd, hlaw]
      cases numR (c :: t)
      · rfl
      · simp only [if_true]
        rw [List.take_of_length_le (Nat.le_refl _), List.drop_of_length_le (Nat.le_refl _)]
    · have hnd : isDg c = false := by
        cases e : isDg c
        · rfl
        · have := dg_c e; omega
      have hd : (isDg c || decide (c.toNat = 45)) = false := by rw [hnd]; simp; omega
      have hn : numR (c :: t) = false := by
        have hI : nI (c :: t) = 0 := by
          unfold nI
          rw [if_neg]
          intro e
          have : c = 45 := by simpa [isS] using e
          rw [this] at hc
          simp at hc
        unfold numR
        rw [hI, List.drop_zero, if_pos (.inl (run_zero (by show isDg c = false; exact hnd)))]
      rw [hn, if_neg (by rw [hd]; simp)]
      by_cases he : c.toNat = 101
      · have : c = 101 := by rw [← byte_back c, he]; rfl
        subst this
        rw [word_e]
        rfl
      · have hlo : isLo c = false := by unfold isLo; simp; omega
        rw [hlo]
        rfl
theorem parse_num (l : L8) (hl : l.length ≤ 2000) (h : ∀ c ∈ l, isN c = true) : parseS l = if numR l then .ok (.mk 4 l [] []) else .bad l 11 := by
  unfold parseS
  rw [if_neg (by omega)]
  obtain ⟨F, hF⟩ : ∃ F, 3 * l.length + 3 = F := ⟨_, rfl⟩
  rw [show 3 * l.length + 4 = F + 1 by omega]
  clear hF
  cases l with
  | nil =>
    have e1 : nextS [] = .ok ⟨0, [], [], []⟩ := rfl
    have e2 : numR [] = false := rfl
    rw [e1, e2]
    simp [Got.bind, valF]
  | cons c t =>
    rw [next_num _ h (by simp)]
    have e1 : nextS [] = .ok ⟨0, [], [], []⟩ := rfl
    cases numR (c :: t)
    · rfl
    · simp [Got.bind, valF, e1]
theorem answers_law : parseS [91, 49, 44, 34, 97, 34, 93] = .ok (.mk 6 [] [] [.mk 4 [49] [] [], .mk 5 [97] [] []]) := by
  have n1 : nextS [91, 49, 44, 34, 97, 34, 93] = .ok ⟨91, [], [91, 49, 44, 34, 97, 34, 93], [49, 44, 34, 97, 34, 93]⟩ := by kernel_rfl
  have n2 : nextS [49, 44, 34, 97, 34, 93] = .ok ⟨4, [49], [49, 44, 34, 97, 34, 93], [44, 34, 97, 34, 93]⟩ := by kernel_rfl
  have n3 : nextS [44, 34, 97, 34, 93] = .ok ⟨44, [], [44, 34, 97, 34, 93], [34, 97, 34, 93]⟩ := by kernel_rfl
  have n4 : nextS [34, 97, 34, 93] = .ok ⟨5, [97], [34, 97, 34, 93], [93]⟩ := by kernel_rfl
  have n5 : nextS [93] = .ok ⟨93, [], [93], []⟩ := by kernel_rfl
  have n6 : nextS [] = .ok ⟨0, [], [], []⟩ := rfl
  simp [parseS, n1, Got.bind, valF, manyF, loopF, n2, n3, n4, n5, n6, wantS]
theorem VRd.mk' {w : World} {F : Nat → Prop} {k : Int} {t : L8} {ks : List L8} {vs : List JV} {cs : List Value} (h : VRd w F (.mk k t ks vs) cs) : ∃ A c A' c' xs, cs = [.int .i64 k, .string ⟨t.toArray⟩, .slice A ks.length c, .slice A' vs.length c'] ∧ (ks.length ≤ c ∧ c ≤ maxLen) ∧ ReadsF w F 1 A ks.length (sc ks) ∧ (vs.length ≤ c' ∧ c' ≤ maxLen) ∧ ReadsF w F 4 A' vs.length xs ∧ VRdL w F vs xs := by
  unfold VRd at h
  obtain ⟨A, n, c, A', n', c', xs, h1, rfl, h3, h4, rfl, h6, h7, h8⟩ := h
  exact ⟨A, c, A', c', xs, h1, h3, h4, h6, h7, h8⟩
/-- parse_any with the length as it stands. -/
theorem parse_to {w : World} {A : Option Addr} {n c : Nat} {l : L8} (hr : RB w w.heap.size A n l) (hc : n ≤ c) (hT : Tabs w) (hA : ∀ ad, A = some ad → ad.block < w.heap.size) :
    Calls Tryd.prog 10 #[.slice A n c] w fun e w' => ParseP w n l e w' := parse_any w A n c l hr hc hT hA
end Go.Proofs.YtmbjalcphdggnaaDoor
