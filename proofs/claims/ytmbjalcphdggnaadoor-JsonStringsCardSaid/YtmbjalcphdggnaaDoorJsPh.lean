/- A printed value is read as it was. -/
import Derived.Test.YtmbjalcphdggnaaDoorJsPg
namespace Go.Proofs.YtmbjalcphdggnaaDoor
set_option linter.unusedSimpArgs false
set_option linter.unusedVariables false
open Go.RowKit
theorem tok_dm {c : UInt8} {t x : L8} {k : Nat} {tx : L8} (hc : blL.contains c = false) (hx : dm x) (h : lexS (c :: t) = some (k, tx, (c :: t).length)) : nextS ((c :: t) ++ x) = .ok ⟨k, tx, (c :: t) ++ x, x⟩ := by
  have h2 := (lexS_dm hx (by simp) h).1
  rw [List.cons_append] at h2 ⊢
  rw [nb_next hc h2]
  rw [← List.cons_append, List.drop_left]
theorem loop_kind : ∀ (f kind shut dp : Nat) (T : Tk) (first : Bool) (t : L8) (ks : List L8) (vs : List JV) (k : Int) (t' : L8) (ks' : List L8) (vs' : List JV) (T' : Tk), loopF f kind shut dp T first t ks vs = .ok (.mk k t' ks' vs', T') → k = kind
  | 0, _, _, _, _, _, _, _, _, _, _, _, _, _, h => by simp [loopF] at h
  | f + 1, kind, shut, dp, T, first, t, ks, vs, k, t', ks', vs', T', h => by
    unfold loopF at h
    split at h
    · obtain ⟨_, _, q⟩ := Got.bind_ok h
      injection q with q
      injection q with q _
      injection q with q _ _ _
      exact q.symm
    · obtain ⟨T2, _, q⟩ := Got.bind_ok h
      split at q
      · obtain ⟨T3, _, q⟩ := Got.bind_ok q
        obtain ⟨T4, _, q⟩ := Got.bind_ok q
        obtain ⟨r, _, q⟩ := Got.bind_ok q
        exact loop_kind f kind shut dp _ _ _ _ _ _ _ _ _ _ q
      · obtain ⟨r, _, q⟩ := Got.bind_ok q
        exact loop_kind f kind shut dp _ _ _ _ _ _ _ _ _ _ q
theorem many_kind {f kind shut dp : Nat} {t : L8} {T : Tk} {k : Int} {t' : L8} {ks' : List L8} {vs' : List JV} {T' : Tk} (h : manyF f kind shut dp t T = .ok (.mk k t' ks' vs', T')) : k = kind := by
  cases f with
  | zero => simp [manyF] at h
  | succ f =>
    unfold manyF at h
    split at h
    · cases h
    · obtain ⟨T1, _, q⟩ := Got.bind_ok h
      exact loop_kind f kind shut dp _ _ _ _ _ _ _ _ _ _ q
theorem num_lex {t : L8} (h : numOk t = true) : ∃ c r, t = c :: r ∧ blL.contains c = false ∧ lexS t = some (4, t, t.length) := by
  unfold numOk at h
  simp only [Bool.and_eq_true, decide_eq_true_eq] at h
  have hp := gotE_zero h.1
  have hl := numOk_len (t := t) (by unfold numOk; simp [h.1, h.2])
  obtain ⟨J, hJ⟩ : ∃ J, gotJ (parseS t) = J := ⟨_, rfl⟩
  rw [hJ] at hp h
  obtain ⟨k, t', ks, vs⟩ := J
  have h2 := h.2
  simp only [numIs, Bool.and_eq_true, decide_eq_true_eq] at h2
  obtain ⟨rfl, rfl⟩ := h2
  rw [parse_top hl] at hp
  obtain ⟨T0, T1, h0, h1, hk⟩ := top_ok hp
  have hv : T0.k = 4 ∧ T0.t = t' := by
    have hF : ∃ f, 3 * t'.length + 4 = f + 1 := ⟨_, rfl⟩
    obtain ⟨f, hF⟩ := hF
    rw [hF] at h1
    unfold valF at h1
    split at h1
    · obtain ⟨T', _, q⟩ := Got.bind_ok h1
      injection q with q
      injection q with q _
      injection q with q1 q2 _ _
      exact ⟨by omega, q2⟩
    · split at h1
      · exfalso
        have := many_kind h1
        omega
      · split at h1
        · exfalso
          have := many_kind h1
          omega
        · cases h1
  unfold nextS at h0
  cases hx : lexS (t'.drop (blS t')) with
  | none => rw [hx] at h0; cases h0
  | some r =>
    obtain ⟨k2, tx, d⟩ := r
    rw [hx] at h0
    injection h0 with h0
    subst h0
    simp only at hv
    obtain ⟨hk4, hte⟩ := hv
    rw [hk4, hte] at hx
    clear hk hk4 hte h1
    have hd : lexS (t'.drop (blS t')) = some (4, t', d) := hx
    have hl4 : d ≤ (t'.drop (blS t')).length ∧ t'.length ≤ d ∧ ∃ c r, t'.drop (blS t') = c :: r ∧ blL.contains c = false := by
      obtain ⟨_, _, hsp⟩ := blS_split t'
      rcases hsp with e | ⟨c, r, e, hc⟩
      · rw [e] at hd; simp [lexS] at hd
      · rw [e] at hd ⊢
        simp only [lexS] at hd
        split at hd
        · next hs =>
          injection hd with hd
          have := List.contains_iff_mem.1 hs
          unfold sgL at this
          simp at this
          rcases this with rfl | rfl | rfl | rfl | rfl | rfl <;> simp at hd
        · split at hd
          · split at hd
            · cases hd
            · simp at hd
          · split at hd
            · split at hd
              · cases hd
              · next m hm =>
                have := numL_le hm
                simp only [Option.some.injEq, Prod.mk.injEq, true_and] at hd
                obtain ⟨h1, rfl⟩ := hd
                have h3 := congrArg List.length h1
                rw [List.length_take] at h3
                exact ⟨this.2, by omega, c, r, rfl, hc⟩
            · split at hd
              · split at hd
                · cases hd
                · simp only [Option.some.injEq, Prod.mk.injEq] at hd
                  exfalso
                  rw [← hd.2.1] at e
                  simp at e
              · cases hd
    obtain ⟨l1, l2, c, r, hc1, hc2⟩ := hl4
    rw [List.length_drop] at l1
    have hb : blS t' = 0 ∨ t'.length = 0 := by omega
    rcases hb with hb | hb
    · rw [hb, List.drop_zero] at hc1 hd
      exact ⟨c, r, hc1, hc2, by rw [hd, show d = t'.length by omega]⟩
    · have : t' = [] := List.eq_nil_of_length_eq_zero hb
      rw [this] at hc1
      simp at hc1
def kndO (o : Bool) : Nat := if o then 7 else 6
def shtO (o : Bool) : Nat := if o then 125 else 93
def clsO (o : Bool) : UInt8 := if o then 125 else 93
theorem cls_dm (o : Bool) (y : L8) : dm (clsO o :: y) := .inr ⟨_, y, rfl, by cases o <;> simp [clsO]⟩
theorem cls_next (o : Bool) (y : L8) : nextS (clsO o :: y) = .ok ⟨shtO o, [], clsO o :: y, y⟩ := by cases o <;> exact sign_next _ _ (by decide)
theorem rest_dm (o : Bool) (ks ts : List L8) (y : L8) : dm (itT o false ks ts ++ clsO o :: y) := by
  cases ts with
  | nil => exact cls_dm o y
  | cons t ts => exact .inr ⟨44, _, rfl, .inr (.inl rfl)⟩
theorem sign_n {n : Nat} (c : UInt8) (t : L8) (h : sgL.contains c = true) (hn : c.toNat = n) : nextS (c :: t) = .ok ⟨n, [], c :: t, t⟩ := hn ▸ sign_next c t h
theorem wantS_eq {sign : Nat} {T : Tk} (h : T.k = sign) : wantS sign T = nextS T.s := if_pos h
mutual
theorem val_pr : ∀ (J : JV) (left dp : Nat) (x : L8) (Tr : Tk), dpJ left J = true → dp + left ≤ 32 → dm x → nextS x = .ok Tr → ∃ f0 T0, nextS (prJ J ++ x) = .ok T0 ∧ ∀ f, f0 ≤ f → valF f dp T0 = .ok (J, Tr)
  | .mk k t ks vs, left, dp, x, Tr, hd, hl, hx, hr => by
    have leaf : ∀ (n : Nat) (u : L8), 1 ≤ n → n ≤ 5 → (n : Int) = k → ks = [] → vs = [] → nextS (u ++ x) = .ok ⟨n, t, u ++ x, x⟩ → prJ (.mk k t ks vs) = u → ∃ f0 T0, nextS (prJ (.mk k t ks vs) ++ x) = .ok T0 ∧ ∀ f, f0 ≤ f → valF f dp T0 = .ok (.mk k t ks vs, Tr) := by
      intro n u h1 h2 h3 h4 h5 h6 h7
      subst h3 h4 h5
      refine ⟨1, _, by rw [h7]; exact h6, fun f hf => ?_⟩
      obtain ⟨g, rfl⟩ : ∃ g, f = g + 1 := ⟨f - 1, by omega⟩
      unfold valF
      rw [if_pos ⟨h1, h2⟩]
      show (nextS x).bind _ = _
      rw [hr]
      rfl
    unfold dpJ at hd
    by_cases k123 : k = 1 ∨ k = 2 ∨ k = 3
    · rw [if_pos k123] at hd
      simp only [Bool.and_eq_true, decide_eq_true_eq] at hd
      obtain ⟨rfl, h1, h2⟩ := hd
      have h1 := List.eq_nil_of_length_eq_zero h1
      have h2 := List.eq_nil_of_length_eq_zero h2
      rcases k123 with rfl | rfl | rfl
      · exact leaf 1 [110, 117, 108, 108] (by decide) (by decide) rfl h1 h2 (tok_dm (by decide) hx (by decide +kernel)) (by simp [prJ])
      · exact leaf 2 [102, 97, 108, 115, 101] (by decide) (by decide) rfl h1 h2 (tok_dm (by decide) hx (by decide +kernel)) (by simp [prJ])
      · exact leaf 3 [116, 114, 117, 101] (by decide) (by decide) rfl h1 h2 (tok_dm (by decide) hx (by decide +kernel)) (by simp [prJ])
    rw [if_neg k123] at hd
    by_cases k4 : k = 4
    · rw [if_pos k4] at hd
      simp only [Bool.and_eq_true, decide_eq_true_eq] at hd
      obtain ⟨hn, h1, h2⟩ := hd
      have h1 := List.eq_nil_of_length_eq_zero h1
      have h2 := List.eq_nil_of_length_eq_zero h2
      subst k4
      obtain ⟨c, r, e, hc, hx4⟩ := num_lex hn
      refine leaf 4 t (by decide) (by decide) rfl h1 h2 ?_ (by simp [prJ])
      rw [e] at hx4 ⊢
      exact tok_dm hc hx hx4
    rw [if_neg k4] at hd
    by_cases k5 : k = 5
    · rw [if_pos k5] at hd
      simp only [Bool.and_eq_true, decide_eq_true_eq] at hd
      obtain ⟨hn, h1, h2⟩ := hd
      have h1 := List.eq_nil_of_length_eq_zero h1
      have h2 := List.eq_nil_of_length_eq_zero h2
      subst k5
      exact leaf 5 (quoteL t) (by decide) (by decide) rfl h1 h2 (next_quote hn x) (by simp [prJ])
    rw [if_neg k5] at hd
    have list : ∀ (o : Bool) (op : UInt8), op = (if o then 123 else 91) → k = kndO o → t = [] → 0 < left → dpL (left - 1) vs = true → ks.all Lib.validD = true → (o = true → ks.length = vs.length) → (o = false → ks = []) →
        prJ (.mk k t ks vs) = op :: (itT o true ks (prL vs) ++ [clsO o]) → ∃ f0 T0, nextS (prJ (.mk k t ks vs) ++ x) = .ok T0 ∧ ∀ f, f0 ≤ f → valF f dp T0 = .ok (.mk k t ks vs, Tr) := by
      intro o op hop hko ht h0 hdl hka hkl hkn hpr
      obtain ⟨f0, T1, g1, g2⟩ := items_pr vs o (left - 1) (dp + 1) ks x Tr true t [] [] hdl hkl hka (by omega) hr
      refine ⟨f0 + 2, ⟨op.toNat, [], op :: (itT o true ks (prL vs) ++ clsO o :: x), itT o true ks (prL vs) ++ clsO o :: x⟩, ?_, fun f hf => ?_⟩
      · rw [hpr, List.cons_append, List.append_assoc, List.singleton_append]
        exact sign_next _ _ (by subst hop; cases o <;> decide)
      · obtain ⟨g, rfl⟩ : ∃ g, f = g + 2 := ⟨f - 2, by omega⟩
        have h2 := g2 g (by omega)
        have hm : manyF (g + 1) (kndO o) (shtO o) (dp + 1) [] ⟨op.toNat, [], op :: (itT o true ks (prL vs) ++ clsO o :: x), itT o true ks (prL vs) ++ clsO o :: x⟩ = .ok (.mk k t ks vs, Tr) := by
          unfold manyF
          rw [if_neg (by omega)]
          show (nextS (itT o true ks (prL vs) ++ clsO o :: x)).bind _ = _
          rw [g1]
          show loopF g (kndO o) (shtO o) (dp + 1) T1 true [] [] [] = _
          rw [ht] at h2
          rw [h2, hko, ht]
          simp only [List.nil_append]
          cases o
          · rw [hkn rfl]; rfl
          · rfl
        unfold valF
        subst hop
        cases o
        · rw [if_neg (by simp), if_pos (by rfl)]
          exact hm
        · rw [if_neg (by simp), if_neg (by show ¬ (123 : UInt8).toNat = 91; decide), if_pos (by rfl)]
          exact hm
    by_cases k6 : k = 6
    · rw [if_pos k6] at hd
      simp only [Bool.and_eq_true, decide_eq_true_eq] at hd
      obtain ⟨⟨⟨⟨h1, h2⟩, h3⟩, h4⟩, h5⟩ := hd
      have h3 := List.eq_nil_of_length_eq_zero h3
      exact list false 91 rfl k6 h1 h2 h5 h4 (fun h => by cases h) (fun _ => h3) (by subst k6; simp [prJ, clsO])
    rw [if_neg k6] at hd
    by_cases k7 : k = 7
    · rw [if_pos k7] at hd
      simp only [Bool.and_eq_true, decide_eq_true_eq] at hd
      obtain ⟨⟨⟨⟨h1, h2⟩, h3⟩, h4⟩, h5⟩ := hd
      exact list true 123 rfl k7 h1 h2 h5 h4 (fun _ => h3) (fun h => by cases h) (by subst k7; simp [prJ, clsO])
    · rw [if_neg k7] at hd
      cases hd
theorem items_pr : ∀ (vs : List JV) (o : Bool) (left dp : Nat) (ks : List L8) (y : L8) (Tr : Tk) (first : Bool) (t : L8) (ks0 : List L8) (vs0 : List JV), dpL left vs = true → (o = true → ks.length = vs.length) → ks.all Lib.validD = true → dp + left ≤ 32 → nextS y = .ok Tr →
    ∃ f0 T, nextS (itT o first ks (prL vs) ++ clsO o :: y) = .ok T ∧ ∀ f, f0 ≤ f → loopF f (kndO o) (shtO o) dp T first t ks0 vs0 = .ok (.mk (kndO o) t (ks0 ++ (if o then ks else [])) (vs0 ++ vs), Tr)
  | [], o, left, dp, ks, y, Tr, first, t, ks0, vs0, hd, hk, ha, hl, hr => by
    refine ⟨1, _, cls_next o y, fun f hf => ?_⟩
    obtain ⟨g, rfl⟩ : ∃ g, f = g + 1 := ⟨f - 1, by omega⟩
    rw [loop_end (T := ⟨shtO o, [], clsO o :: y, y⟩) (shut := shtO o) rfl]
    show (nextS y).bind _ = _
    rw [hr]
    have : (if o then ks else []) = [] := by
      cases o
      · rfl
      · exact List.eq_nil_of_length_eq_zero (hk rfl)
    rw [this]
    simp [Got.bind]
  | v :: vs, o, left, dp, ks, y, Tr, first, t, ks0, vs0, hd, hk, ha, hl, hr => by
    have hda : dpJ left v = true ∧ dpL left vs = true := by
      unfold dpL at hd
      simpa [Bool.and_eq_true] using hd
    have hat : ks.tail.all Lib.validD = true := by
      cases ks with
      | nil => rfl
      | cons k ks => simp only [List.all_cons, Bool.and_eq_true] at ha; exact ha.2
    obtain ⟨f1, T5, g1, g2⟩ := items_pr vs o left dp ks.tail y Tr false t (ks0 ++ (if o then [ks.headD []] else [])) (vs0 ++ [v]) hda.2 (fun h => by rw [List.length_tail, hk h]; simp) hat hl hr
    obtain ⟨Z, hZ⟩ : ∃ Z, itT o false ks.tail (prL vs) ++ clsO o :: y = Z := ⟨_, rfl⟩
    have hdm : dm Z := hZ ▸ rest_dm o ks.tail (prL vs) y
    rw [hZ] at g1
    obtain ⟨f2, T4, h1, h2⟩ := val_pr v left dp Z T5 hda.1 hl hdm g1
    have hS : itT o first ks (prL (v :: vs)) ++ clsO o :: y = (if first then [] else [44]) ++ ((if o then quoteL (ks.headD []) ++ [58] else []) ++ (prJ v ++ Z)) := by
      rw [← hZ]
      show itT o first ks (prJ v :: prL vs) ++ clsO o :: y = _
      rw [itT_cons]
      simp only [List.append_assoc]
    rw [hS]
    have key : ∃ T2, nextS ((if o then quoteL (ks.headD []) ++ [58] else []) ++ (prJ v ++ Z)) = .ok T2 ∧ T2.k ≠ shtO o ∧ ∀ g, f1 + f2 ≤ g →
        (if kndO o = 7 then (wantS 5 T2).bind fun T3 => (wantS 58 T3).bind fun T4 => (valF g dp T4).bind fun r => loopF g (kndO o) (shtO o) dp r.2 false t (ks0 ++ [T2.t]) (vs0 ++ [r.1])
          else (valF g dp T2).bind fun r => loopF g (kndO o) (shtO o) dp r.2 false t ks0 (vs0 ++ [r.1])) = .ok (.mk (kndO o) t (ks0 ++ (if o then ks else [])) (vs0 ++ v :: vs), Tr) := by
      cases o
      · refine ⟨T4, by simpa using h1, ?_, fun g hg => ?_⟩
        · exact (val_k (h2 f2 (Nat.le_refl _))).2
        · rw [if_neg (by decide), h2 g (by omega)]
          have := g2 g (by omega)
          simp only [Got.bind]
          simpa using this
      · obtain ⟨hd0, tl, rfl⟩ : ∃ a b, ks = a :: b := by
          cases ks with
          | nil => have := hk rfl; simp at this
          | cons k ks => exact ⟨k, ks, rfl⟩
        have hv : Lib.validD hd0 = true := by simp only [List.all_cons, Bool.and_eq_true] at ha; exact ha.1
        have e1 := next_quote hv (58 :: (prJ v ++ Z))
        refine ⟨⟨5, hd0, quoteL hd0 ++ 58 :: (prJ v ++ Z), 58 :: (prJ v ++ Z)⟩, ?_, (show (5 : Nat) ≠ 125 by decide), fun g hg => ?_⟩
        · show nextS ((quoteL hd0 ++ [58]) ++ (prJ v ++ Z)) = _
          rw [List.append_assoc]
          exact e1
        rw [if_pos (by rfl)]
        rw [(wantS_eq (T := ⟨5, hd0, quoteL hd0 ++ 58 :: (prJ v ++ Z), 58 :: (prJ v ++ Z)⟩) rfl).trans (sign_n (n := 58) 58 (prJ v ++ Z) (by decide) (by decide))]
        simp only [Got.bind]
        rw [(wantS_eq (sign := 58) (T := ⟨58, [], 58 :: (prJ v ++ Z), prJ v ++ Z⟩) rfl).trans h1]
        simp only
        rw [h2 g (by omega)]
        simp only
        have := g2 g (by omega)
        simp only [if_true, List.headD_cons, List.tail_cons, List.append_assoc, List.singleton_append] at this ⊢
        exact this
    obtain ⟨K, hK⟩ : ∃ K, (if o then quoteL (ks.headD []) ++ [58] else []) ++ (prJ v ++ Z) = K := ⟨_, rfl⟩
    rw [hK] at key ⊢
    obtain ⟨T2, e1, e2, e3⟩ := key
    clear hK hS
    cases first
    · refine ⟨f1 + f2 + 1, ⟨44, [], 44 :: K, K⟩, sign_n 44 K (by decide) (by decide), fun f hf => ?_⟩
      obtain ⟨g, rfl⟩ : ∃ g, f = g + 1 := ⟨f - 1, by omega⟩
      have hs : ¬ (44 : Nat) = shtO o := by cases o <;> decide
      have w : wantS 44 ⟨44, [], 44 :: K, K⟩ = .ok T2 := (wantS_eq (T := ⟨44, [], 44 :: K, K⟩) rfl).trans e1
      unfold loopF
      rw [if_neg (show ¬ (⟨44, [], 44 :: K, K⟩ : Tk).k = shtO o from hs)]
      simp only [Bool.false_eq_true, if_false]
      rw [w]
      exact e3 g (by omega)
    · refine ⟨f1 + f2 + 1, T2, e1, fun f hf => ?_⟩
      obtain ⟨g, rfl⟩ : ∃ g, f = g + 1 := ⟨f - 1, by omega⟩
      unfold loopF
      rw [if_neg e2]
      simp only [if_true]
      exact e3 g (by omega)
end
/-- A sound value's text is read as it. -/
theorem parse_pr {J : JV} (h : dpJ 32 J = true) (hl : (prJ J).length ≤ 262144) : parseS (prJ J) = .ok J := by
  obtain ⟨f0, T0, h1, h2⟩ := val_pr J 32 0 [] ⟨0, [], [], []⟩ h (by omega) (.inl rfl) rfl
  rw [List.append_nil] at h1
  rw [parse_top hl]
  unfold topS
  rw [h1]
  show (valF _ 0 T0).bind _ = _
  have hW := nextS_W h1
  have hi := valF_In (3 * (prJ J).length + 4) 0 T0 (by omega)
  rw [← valF_mono _ (max f0 (3 * (prJ J).length + 4)) 0 T0 hi (Nat.le_max_right _ _), h2 _ (Nat.le_max_left _ _)]
  rfl
end Go.Proofs.YtmbjalcphdggnaaDoor
