/- The JSON reader: tokens by what is left of the text; what a value is. -/
import Derived.Test.YtmbjalcphdggnaaDoorJsI
namespace Go.Proofs.YtmbjalcphdggnaaDoor
set_option linter.unusedSimpArgs false
set_option linter.unusedVariables false
open Go.RowKit
/-- A token: its kind, its text, what is left from it on, what is left behind it. -/
structure Tk where
  k : Nat
  t : L8
  ts : L8
  s : L8
/-- What is read, or what is left where it is at fault, and how. -/
inductive Got (α : Type) where
  | ok (x : α)
  | bad (p : L8) (e : Nat)
def Got.bind {α β : Type} (g : Got α) (f : α → Got β) : Got β := match g with
  | .ok x => f x
  | .bad p e => .bad p e
def nextS (s : L8) : Got Tk := match lexS (s.drop (blS s)) with
  | none => .bad (s.drop (blS s)) 11
  | some (k, t, d) => .ok ⟨k, t, s.drop (blS s), (s.drop (blS s)).drop d⟩
def wantS (sign : Nat) (T : Tk) : Got Tk := if T.k = sign then nextS T.s else .bad T.ts 11
inductive JV where
  | mk (k : Int) (t : L8) (ks : List L8) (vs : List JV)
mutual
def valF : Nat → Nat → Tk → Got (JV × Tk)
  | 0, _, _ => .bad [] 0
  | f + 1, dp, T =>
    if 1 ≤ T.k ∧ T.k ≤ 5 then (nextS T.s).bind fun T' => .ok (.mk T.k T.t [] [], T')
    else if T.k = 91 then manyF f 6 93 (dp + 1) T.t T
    else if T.k = 123 then manyF f 7 125 (dp + 1) T.t T
    else .bad T.ts 11
def manyF : Nat → Nat → Nat → Nat → L8 → Tk → Got (JV × Tk)
  | 0, _, _, _, _, _ => .bad [] 0
  | f + 1, kind, shut, dp, t, T =>
    if 32 < dp then .bad T.ts 12
    else (nextS T.s).bind fun T1 => loopF f kind shut dp T1 true t [] []
def loopF : Nat → Nat → Nat → Nat → Tk → Bool → L8 → List L8 → List JV → Got (JV × Tk)
  | 0, _, _, _, _, _, _, _, _ => .bad [] 0
  | f + 1, kind, shut, dp, T, first, t, ks, vs =>
    if T.k = shut then (nextS T.s).bind fun T' => .ok (.mk kind t ks vs, T')
    else (if first then .ok T else wantS 44 T).bind fun T2 =>
      if kind = 7 then
        (wantS 5 T2).bind fun T3 => (wantS 58 T3).bind fun T4 => (valF f dp T4).bind fun r => loopF f kind shut dp r.2 false t (ks ++ [T2.t]) (vs ++ [r.1])
      else (valF f dp T2).bind fun r => loopF f kind shut dp r.2 false t ks (vs ++ [r.1])
end
def Tk.W (T : Tk) : Nat := if T.k = 0 then 0 else T.s.length + 1
theorem Got.bind_ok {α β : Type} {g : Got α} {f : α → Got β} {y : β} (h : g.bind f = .ok y) : ∃ x, g = .ok x ∧ f x = .ok y := by
  cases g with
  | ok x => exact ⟨x, rfl, h⟩
  | bad p e => cases h
theorem nextS_W {s : L8} {T : Tk} (h : nextS s = .ok T) : T.W ≤ s.length := by
  unfold nextS at h
  split at h
  · cases h
  · next k t d hl =>
    injection h with h
    subst h
    unfold Tk.W
    dsimp only
    split
    · omega
    · next hk =>
      have hd : 1 ≤ d ∧ 1 ≤ (s.drop (blS s)).length := by
        cases hs : s.drop (blS s) with
        | nil => rw [hs] at hl; simp [lexS] at hl; omega
        | cons c u =>
          rw [hs] at hl
          refine ⟨?_, by simp⟩
          simp only [lexS] at hl
          split at hl
          · simp at hl; omega
          · split at hl
            · split at hl
              · cases hl
              · simp at hl; omega
            · split at hl
              · split at hl
                · cases hl
                · next m hm => simp at hl; have := (numL_le hm).1; omega
              · split at hl
                · next hlo =>
                  split at hl
                  · cases hl
                  · simp at hl
                    have : runLo (c :: u) = runLo u + 1 := by
                      unfold runLo
                      rw [List.takeWhile_cons, if_pos hlo]
                      rfl
                    omega
                · cases hl
      rw [List.length_drop, List.length_drop] at *
      omega
theorem wantS_W {sign : Nat} {T T' : Tk} (h0 : sign ≠ 0) (h : wantS sign T = .ok T') : T'.W < T.W := by
  unfold wantS at h
  split at h
  · next hk =>
    have := nextS_W h
    have e : T.W = T.s.length + 1 := by unfold Tk.W; rw [if_neg (by omega)]
    omega
  · cases h
theorem W_of {T : Tk} (h : T.k ≠ 0) : T.W = T.s.length + 1 := by unfold Tk.W; rw [if_neg h]
mutual
theorem valF_W : ∀ (f dp : Nat) (T : Tk) (r : JV × Tk), valF f dp T = .ok r → r.2.W < T.W
  | 0, _, _, _, h => by simp [valF] at h
  | f + 1, dp, T, r, h => by
    unfold valF at h
    split at h
    · next hk =>
      obtain ⟨T', h1, h2⟩ := Got.bind_ok h
      injection h2 with h2
      subst h2
      have := nextS_W h1
      rw [W_of (T := T) (by omega)]
      dsimp only
      omega
    · split at h
      · next hk => exact manyF_W f 6 93 (dp + 1) T.t T r (by omega) (by omega) h
      · split at h
        · next hk => exact manyF_W f 7 125 (dp + 1) T.t T r (by omega) (by omega) h
        · cases h
theorem manyF_W : ∀ (f kind shut dp : Nat) (t : L8) (T : Tk) (r : JV × Tk), shut ≠ 0 → T.k ≠ 0 → manyF f kind shut dp t T = .ok r → r.2.W < T.W
  | 0, _, _, _, _, _, _, _, _, h => by simp [manyF] at h
  | f + 1, kind, shut, dp, t, T, r, h0, hk, h => by
    unfold manyF at h
    split at h
    · cases h
    · obtain ⟨T1, h1, h2⟩ := Got.bind_ok h
      have a := nextS_W h1
      have b := loopF_W f kind shut dp T1 true t [] [] r h0 h2
      rw [W_of hk]
      omega
theorem loopF_W : ∀ (f kind shut dp : Nat) (T : Tk) (first : Bool) (t : L8) (ks : List L8) (vs : List JV) (r : JV × Tk), shut ≠ 0 → loopF f kind shut dp T first t ks vs = .ok r → r.2.W < T.W
  | 0, _, _, _, _, _, _, _, _, _, _, h => by simp [loopF] at h
  | f + 1, kind, shut, dp, T, first, t, ks, vs, r, h0, h => by
    unfold loopF at h
    split at h
    · next hk =>
      obtain ⟨T', h1, h2⟩ := Got.bind_ok h
      injection h2 with h2
      subst h2
      have := nextS_W h1
      rw [W_of (T := T) (by omega)]
      dsimp only
      omega
    · obtain ⟨T2, h1, h2⟩ := Got.bind_ok h
      have a : T2.W ≤ T.W := by
        cases first
        · exact Nat.le_of_lt (wantS_W (by decide) h1)
        · injection h1 with h1; subst h1; exact Nat.le_refl _
      split at h2
      · obtain ⟨T3, h3, h2⟩ := Got.bind_ok h2
        obtain ⟨T4, h4, h2⟩ := Got.bind_ok h2
        obtain ⟨v, h5, h2⟩ := Got.bind_ok h2
        have b3 := wantS_W (by decide) h3
        have b4 := wantS_W (by decide) h4
        have b5 := valF_W f dp T4 v h5
        have b6 := loopF_W f kind shut dp v.2 false t _ _ r h0 h2
        omega
      · obtain ⟨v, h5, h2⟩ := Got.bind_ok h2
        have b5 := valF_W f dp T2 v h5
        have b6 := loopF_W f kind shut dp v.2 false t _ _ r h0 h2
        omega
end
section
variable {w w' w0 : World} {rb : Nat} {A : Option Addr} {n c : Nat} {b l : L8} {at_ k ta bb : Nat} {tx : L8}
theorem suf_drop {s b : L8} (h : s <:+ b) : b.drop (b.length - s.length) = s := (List.suffix_iff_eq_drop.1 h).symm
/-- A reader that stands at a token. -/
structure RdT (w : World) (rb : Nat) (A : Option Addr) (n c : Nat) (b : L8) (T : Tk) : Prop where
  hs : T.s <:+ b
  hts : T.ts <:+ b
  rd : Rd w rb A n c b (n - T.s.length) T.k (n - T.ts.length) T.t
  hA : ∀ ad, A = some ad → ad.block < w.heap.size
theorem RdT.below {T : Tk} (h : RdT w rb A n c b T) (hb : Below w.heap.size w w') : RdT w' rb A n c b T := { h with rd := h.rd.below hb, hA := fun ad e => Nat.lt_of_lt_of_le (h.hA ad e) hb.size }
theorem RdT.fr {F : Nat → Prop} {T : Tk} (h : RdT w rb A n c b T) (hf : Fr F w w') (hr : ¬ F rb) (hA : ∀ ad, A = some ad → ¬ F ad.block) : RdT w' rb A n c b T := { h with rd := h.rd.fr hf hr hA, hA := fun ad e => Nat.lt_of_lt_of_le (h.hA ad e) hf.size }
theorem next_tk {T : Tk} (h : RdT w rb A n c b T) (hT : Tabs w) (hr2 : 2 ≤ rb) :
    Calls Tryd.prog 18 #[.pointer (some ⟨rb, 0, none⟩)] w fun e w' =>
      (∃ T', nextS T.s = .ok T' ∧ e = .returned (.tuple #[]) ∧ RdT w' rb A n c b T' ∧ w.grownBy w' (some rb)) ∨
      (∃ p, nextS T.s = .bad p 11 ∧ e = .panicked (flt (n - p.length) 11) ∧ w.grownBy w' (some rb)) := by
  have hl := h.rd.len
  have hsl : T.s.length ≤ n := by rw [← hl]; exact h.hs.length_le
  have hd : b.drop (n - T.s.length) = T.s := by rw [← hl]; exact suf_drop h.hs
  have hbl : blS T.s ≤ T.s.length := (List.takeWhile_sublist _).length_le
  have hp : b.drop (n - T.s.length + blS T.s) = T.s.drop (blS T.s) := by rw [← List.drop_drop, hd]
  have hpn : n - T.s.length + blS T.s = n - (T.s.drop (blS T.s)).length := by rw [List.length_drop]; omega
  refine (next_any h.rd hT hr2).mono ?_
  rw [hd, hp, hpn]
  rintro e w' (⟨k', t, d, h1, rfl, h2, h3⟩ | ⟨h1, rfl, h3⟩)
  · refine .inl ⟨⟨k', t, T.s.drop (blS T.s), (T.s.drop (blS T.s)).drop d⟩, by unfold nextS; rw [h1], rfl, ⟨((List.drop_suffix _ _).trans (List.drop_suffix _ _)).trans h.hs, (List.drop_suffix _ _).trans h.hs, ?_, fun ad e => Nat.lt_of_lt_of_le (h.hA ad e) h3.size⟩, h3⟩
    have ha := h2.ha
    dsimp only
    have hn2 : (T.s.drop (blS T.s)).length ≤ n := by rw [List.length_drop]; omega
    have e : n - ((T.s.drop (blS T.s)).drop d).length = n - (T.s.drop (blS T.s)).length + d := by
      rw [List.length_drop (l := T.s.drop (blS T.s))]
      omega
    rw [e]
    exact h2
  · exact .inr ⟨_, by unfold nextS; rw [h1], rfl, h3⟩
theorem fail_tk {T : Tk} (e0 : Nat) (h : RdT w rb A n c b T) :
    Calls Tryd.prog 20 #[.pointer (some ⟨rb, 0, none⟩), .int .i64 (e0 : Int)] w fun e w' => e = .panicked (flt (n - T.ts.length) e0) ∧ w.grownBy w' (some rb) := by
  refine (fail_any e0 h.rd).mono ?_
  rintro e w' ⟨rfl, hb⟩
  exact ⟨rfl, gb_below hb⟩
set_option maxRecDepth 100000 in
theorem want_tk {T : Tk} (sign : Nat) (h : RdT w rb A n c b T) (hT : Tabs w) (hr2 : 2 ≤ rb) :
    Calls Tryd.prog 47 #[.pointer (some ⟨rb, 0, none⟩), .int .i64 (sign : Int)] w fun e w' =>
      (∃ T', wantS sign T = .ok T' ∧ e = .returned (.tuple #[]) ∧ RdT w' rb A n c b T' ∧ w.grownBy w' (some rb)) ∨
      (∃ p, wantS sign T = .bad p 11 ∧ e = .panicked (flt (n - p.length) 11) ∧ w.grownBy w' (some rb)) := by
  have H := hide h
  have HT := hide hT
  have kr := h.rd.blk.cell; have fr := h.rd.blk.frozen; have zr := h.rd.blk.lt
  clear h hT
  by_cases hk : T.k = sign
  · have HE := hide (show wantS sign T = nextS T.s by unfold wantS; rw [if_pos hk])
    have hk' : decide ((T.k : Int) = (sign : Int)) = true := by simp; omega
    go_enter Tryd.func47, Tryd.ntmps47
    go_wp2_with (go_at_call 18; (refine (next_tk H.out HT.out hr2).mono ?_); rw [← HE.out]; rintro e w1 (⟨T', h1, rfl, h2, h3⟩ | ⟨p, h1, rfl, h3⟩))
    · go_wp2_with fail
      exact ⟨rfl, .tuple #[], results_none rfl _ _ _, .inl ⟨T', h1, rfl, h2, h3⟩⟩
    · exact ⟨rfl, .inr ⟨p, h1, rfl, h3⟩⟩
  · have HE := hide (show wantS sign T = .bad T.ts 11 by unfold wantS; rw [if_neg hk])
    have hk' : decide ((T.k : Int) = (sign : Int)) = false := by simp; omega
    go_enter Tryd.func47, Tryd.ntmps47
    go_wp2_with (go_at_call 20; (refine (fail_tk 11 H.out).mono ?_); rintro e w1 ⟨rfl, hg⟩)
    exact ⟨rfl, .inr ⟨T.ts, HE.out, rfl, hg⟩⟩
end
end Go.Proofs.YtmbjalcphdggnaaDoor
