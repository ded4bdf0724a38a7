/- What is read is sound. -/
import Derived.Test.YtmbjalcphdggnaaDoorJsPh
namespace Go.Proofs.YtmbjalcphdggnaaDoor
set_option linter.unusedSimpArgs false
set_option linter.unusedVariables false
open Go.RowKit
theorem valid_of_ch {u : L8} (hu : u ≠ []) (h0 : chW u ≠ 0) (h : Lib.validD (u.drop (chW u)) = true) : Lib.validD u = true := by
  have hn : ¬ ((Lib.decodeL u).1 = 65533 ∧ (Lib.decodeL u).2 = 1) := by
    intro q
    apply h0
    unfold chW
    rw [if_pos q]
  have hw : chW u = (Lib.decodeL u).2 := by unfold chW; rw [if_neg hn]
  rw [Lib.validD_step u hu, if_neg hn, ← hw]
  exact h
theorem valid_app (b : L8) (hb : Lib.validD b = true) : ∀ (n : Nat) (a : L8), a.length ≤ n → Lib.validD a = true → Lib.validD (a ++ b) = true
  | _, [], _, _ => by simpa using hb
  | 0, c :: t, h, _ => by simp at h
  | n + 1, c :: t, h, ha => by
    have hne : (c :: t) ≠ [] := by simp
    obtain ⟨h1, h2⟩ := valid_ch hne ha
    have hle := chW_le hne
    have e := chW_app b hne h1
    refine valid_of_ch (by simp) (by rw [e]; exact h1) ?_
    rw [e, drop_app b hle]
    exact valid_app b hb n _ (by rw [List.length_drop]; simp at h ⊢; omega) h2
theorem valid_whole {l : L8} (hl : l ≠ []) (h : chW l = l.length) : Lib.validD l = true := by
  have : l.length ≠ 0 := fun e => hl (List.eq_nil_of_length_eq_zero e)
  refine valid_of_ch hl (by omega) ?_
  rw [h, List.drop_of_length_le (Nat.le_refl _)]
  rfl
theorem u8_nat {n : Nat} (h : n < 256) : (n.toUInt8).toNat = n := by simp; omega
theorem chW_dec {l : L8} {v w : Nat} (h : Lib.decodeN l.length (l.getD 0 0).toNat (l.getD 1 0).toNat (l.getD 2 0).toNat (l.getD 3 0).toNat = (v, w)) (hw : v ≠ 65533 ∨ w ≠ 1) : chW l = w := by
  unfold chW
  rw [Lib.decodeL_N, h]
  rw [if_neg (by rintro ⟨h1, h2⟩; rcases hw with q | q <;> contradiction)]
theorem valid_rune (r : Int) : Lib.validD (Lib.encodeRune r) = true := by
  by_cases h1 : 0 ≤ r ∧ r ≤ 127
  · have : Lib.encodeRune r = [r.toNat.toUInt8] := by unfold Lib.encodeRune; rw [Lib.encodeRuneZ_one h1.1 h1.2]; rfl
    rw [this, Lib.validD_cons _ _ (by rw [u8_nat (by omega)]; omega)]
    rfl
  by_cases h2 : 128 ≤ r ∧ r ≤ 2047
  · have : Lib.encodeRune r = [(192 + r / 64).toNat.toUInt8, (128 + r % 64).toNat.toUInt8] := by unfold Lib.encodeRune; rw [Lib.encodeRuneZ_two h2.1 h2.2]; rfl
    rw [this]
    refine valid_whole (by simp) ?_
    refine chW_dec (v := (192 + r / 64).toNat % 32 * 64 + (128 + r % 64).toNat % 64) ?_ (.inr (show 2 ≠ 1 by decide))
    show Lib.decodeN 2 _ _ 0 0 = _
    simp only [List.getD_cons_zero, List.getD_cons_succ]
    rw [u8_nat (show (192 + r / 64).toNat < 256 by omega), u8_nat (show (128 + r % 64).toNat < 256 by omega)]
    unfold Lib.decodeN
    rw [if_neg (by omega), if_pos ⟨by omega, by omega, by omega⟩, if_pos (by omega)]
    rfl
  by_cases h3 : (2048 ≤ r ∧ r < 55296) ∨ (57343 < r ∧ r ≤ 65535)
  · have : Lib.encodeRune r = [(224 + r / 4096).toNat.toUInt8, (128 + r / 64 % 64).toNat.toUInt8, (128 + r % 64).toNat.toUInt8] := by unfold Lib.encodeRune; rw [Lib.encodeRuneZ_three h3]; rfl
    rw [this]
    refine valid_whole (by simp) ?_
    refine chW_dec (v := (224 + r / 4096).toNat % 16 * 4096 + (128 + r / 64 % 64).toNat % 64 * 64 + (128 + r % 64).toNat % 64) ?_ (.inr (show 3 ≠ 1 by decide))
    show Lib.decodeN 3 _ _ _ 0 = _
    simp only [List.getD_cons_zero, List.getD_cons_succ]
    rw [u8_nat (show (224 + r / 4096).toNat < 256 by omega), u8_nat (show (128 + r / 64 % 64).toNat < 256 by omega), u8_nat (show (128 + r % 64).toNat < 256 by omega)]
    unfold Lib.decodeN
    rw [if_neg (by omega), if_neg (by omega), if_pos ⟨by omega, ⟨by omega, by omega⟩, by omega, by omega⟩, if_pos (by omega)]
    rfl
  by_cases h4 : 65536 ≤ r ∧ r ≤ 1114111
  · have : Lib.encodeRune r = [(240 + r / 262144).toNat.toUInt8, (128 + r / 4096 % 64).toNat.toUInt8, (128 + r / 64 % 64).toNat.toUInt8, (128 + r % 64).toNat.toUInt8] := by unfold Lib.encodeRune; rw [Lib.encodeRuneZ_four h4.1 h4.2]; rfl
    rw [this]
    refine valid_whole (by simp) ?_
    refine chW_dec (v := (240 + r / 262144).toNat % 8 * 262144 + (128 + r / 4096 % 64).toNat % 64 * 4096 + (128 + r / 64 % 64).toNat % 64 * 64 + (128 + r % 64).toNat % 64) ?_ (.inr (show 4 ≠ 1 by decide))
    show Lib.decodeN 4 _ _ _ _ = _
    simp only [List.getD_cons_zero, List.getD_cons_succ]
    rw [u8_nat (show (240 + r / 262144).toNat < 256 by omega), u8_nat (show (128 + r / 4096 % 64).toNat < 256 by omega), u8_nat (show (128 + r / 64 % 64).toNat < 256 by omega), u8_nat (show (128 + r % 64).toNat < 256 by omega)]
    unfold Lib.decodeN
    rw [if_neg (by omega), if_neg (by omega), if_neg (by omega), if_pos ⟨by omega, ⟨by omega, by omega⟩, ⟨by omega, by omega⟩, by omega, by omega⟩, if_pos (by omega)]
    rfl
  · have : Lib.encodeRune r = [239, 191, 189] := by
      unfold Lib.encodeRune Lib.encodeRuneZ
      rw [if_neg h1, if_neg h2, if_neg h3, if_neg h4]
      rfl
    rw [this]
    decide +kernel
theorem escOf_low (c : UInt8) : (escOf c).toNat < 128 := u8_all (fun c => (escOf c).toNat < 128) (by decide +kernel) c
theorem escOf_valid (c : UInt8) : Lib.validD [escOf c] = true := by rw [Lib.validD_cons _ _ (escOf_low _)]; rfl
theorem escS_valid {u x : L8} {d : Nat} (h : escS u = some (x, d)) : Lib.validD x = true := by
  unfold escS at h
  split at h
  · obtain ⟨h1, _⟩ := Prod.mk.inj (Option.some.inj h)
    exact h1 ▸ escOf_valid _
  · split at h
    · split at h
      · cases h
      · split at h
        · split at h
          · cases h
          · split at h
            · obtain ⟨h1, _⟩ := Prod.mk.inj (Option.some.inj h)
              exact h1 ▸ valid_rune _
            · cases h
        · split at h
          · cases h
          · obtain ⟨h1, _⟩ := Prod.mk.inj (Option.some.inj h)
            exact h1 ▸ valid_rune _
    · cases h
theorem take_valid {u : L8} (hu : u ≠ []) (h : chW u ≠ 0) : Lib.validD (u.take (chW u)) = true := by
  have hn : ¬ ((Lib.decodeL u).1 = 65533 ∧ (Lib.decodeL u).2 = 1) := by
    intro q
    apply h
    unfold chW
    rw [if_pos q]
  rw [(chW_ok hu hn).2]
  exact valid_rune _
theorem strF_valid : ∀ (f : Nat) (u o : L8) (d : Nat) (r : L8 × Nat), strF f u o d = some r → Lib.validD o = true → Lib.validD r.1 = true ∧ r.1.length ≤ o.length + 4 * u.length
  | 0, _, _, _, _, h, _ => by simp [strF] at h
  | f + 1, [], _, _, _, h, _ => by simp [strF] at h
  | f + 1, c :: t, o, d, r, h, ho => by
    unfold strF at h
    split at h
    · injection h with h
      subst h
      exact ⟨ho, by simp⟩
    · split at h
      · split at h
        · cases h
        · next x k hx =>
          have hl := escS_len hx
          have he := (escS_app (u := t) [] hx).1
          have ih := strF_valid f _ _ _ _ h (valid_app x (escS_valid hx) _ o (Nat.le_refl _) ho)
          refine ⟨ih.1, ?_⟩
          have h2 := ih.2
          rw [List.length_append, List.length_drop] at h2
          simp only [List.length_cons]
          omega
      · split at h
        · cases h
        · split at h
          · cases h
          · next hc =>
            have hne : (c :: t) ≠ [] := by simp
            have hle := chW_le hne
            have ih := strF_valid f _ _ _ _ h (valid_app _ (take_valid hne hc) _ o (Nat.le_refl _) ho)
            refine ⟨ih.1, ?_⟩
            have h2 := ih.2
            rw [List.length_append, List.length_drop, List.length_take] at h2
            omega
/-- What does not go on a number. -/
def nx (y : L8) : Prop := digS y = false ∧ isS y [43, 45, 46, 101, 69] = false
theorem nx_is {y : L8} (h : nx y) (u cs : L8) (hc : ∀ c ∈ cs, c = 43 ∨ c = 45 ∨ c = 46 ∨ c = 101 ∨ c = 69 ∨ c = 48) : isS (u ++ y) cs = isS u cs := by
  cases u with
  | nil =>
    rw [List.nil_append]
    cases y with
    | nil => rfl
    | cons a y =>
      show cs.contains a = false
      rw [← Bool.not_eq_true, List.contains_iff_mem]
      intro hm
      have h1 : isDg a = false := h.1
      have h2 : ([43, 45, 46, 101, 69] : L8).contains a = false := h.2
      rcases hc a hm with rfl | rfl | rfl | rfl | rfl | rfl <;> first | exact absurd h1 (by decide) | exact absurd h2 (by decide)
  | cons c t => rfl
theorem nx_dig {y : L8} (h : nx y) (u : L8) : digS (u ++ y) = digS u := by
  cases u with
  | nil => rw [List.nil_append, h.1]; rfl
  | cons c t => rfl
theorem nx_run {y : L8} (h : nx y) : ∀ u : L8, runDg (u ++ y) = runDg u
  | [] => by rw [List.nil_append, run_zero h.1]; rfl
  | c :: t => by
    rw [List.cons_append, runDg_cons, runDg_cons, nx_run h t]
theorem numL_nx {x : L8} (h : nx x) (u : L8) : numL (u ++ x) = numL u := by
  have cI : ∀ v : L8, isS (v ++ x) [45] = isS v [45] := fun v => nx_is h v _ (by simp)
  have c0 : ∀ v : L8, isS (v ++ x) [48] = isS v [48] := fun v => nx_is h v _ (by simp)
  have cF : ∀ v : L8, isS (v ++ x) [46] = isS v [46] := fun v => nx_is h v _ (by simp)
  have cE : ∀ v : L8, isS (v ++ x) [101, 69] = isS v [101, 69] := fun v => nx_is h v _ (by simp)
  have cS : ∀ v : L8, isS (v ++ x) [43, 45] = isS v [43, 45] := fun v => nx_is h v _ (by simp)
  have cX : ∀ v : L8, isS (v ++ x) [43, 45, 46, 101, 69] = isS v [43, 45, 46, 101, 69] := fun v => nx_is h v _ (by simp)
  have eI : nI (u ++ x) = nI u := by unfold nI; rw [cI]
  have eD : ∀ v : L8, nD (v ++ x) = nD v := fun v => by unfold nD; rw [c0, nx_dig h, nx_run h]
  have eF : ∀ v : L8, nF (v ++ x) = nF v := fun v => by
    unfold nF
    rw [cF]
    by_cases q : isS v [46] = true
    · rw [if_pos q, if_pos q, drop_app x (isS_le q), nx_dig h, nx_run h]
    · rw [if_neg q, if_neg q]
  have eS : ∀ v : L8, nS (v ++ x) = nS v := fun v => by unfold nS; rw [cS]
  have eE : ∀ v : L8, nE (v ++ x) = nE v := fun v => by
    unfold nE
    rw [cE]
    by_cases q : isS v [101, 69] = true
    · have l1 := isS_le q
      rw [if_pos q, if_pos q, drop_app x l1, eS]
      have l2 : 1 + nS (v.drop 1) ≤ v.length := by
        unfold nS
        split
        · next q2 => have := isS_le q2; rw [List.length_drop] at this; omega
        · omega
      rw [drop_app x l2, nx_dig h, nx_run h]
    · rw [if_neg q, if_neg q]
  have eX : ∀ v : L8, nX (v ++ x) = nX v := fun v => by unfold nX; rw [nx_dig h, cX]
  have l0 := nI_le u
  unfold numL
  rw [eI, drop_app x l0, eD]
  cases hD : nD (u.drop (nI u)) with
  | none => rfl
  | some d =>
    have l1 := nD_le hD
    rw [List.length_drop] at l1
    simp only
    rw [drop_app x (by omega), eF]
    cases hF : nF (u.drop (nI u + d)) with
    | none => rfl
    | some f =>
      have l2 := nF_le hF
      rw [List.length_drop] at l2
      simp only
      rw [drop_app x (by omega), eE]
      cases hE : nE (u.drop (nI u + d + f)) with
      | none => rfl
      | some e =>
        have l3 := nE_le hE
        rw [List.length_drop] at l3
        simp only
        rw [drop_app x (by omega), eX]
theorem numL_end {u : L8} {m : Nat} (h : numL u = some m) : nx (u.drop m) := by
  unfold numL at h
  split at h
  · cases h
  · split at h
    · cases h
    · split at h
      · cases h
      · split at h
        · cases h
        · next hx =>
          injection h with h
          subst h
          unfold nX at hx
          simp only [Bool.or_eq_true, not_or, Bool.not_eq_true] at hx
          exact hx
theorem numL_take {u : L8} {m : Nat} (h : numL u = some m) : numL (u.take m) = some m := by
  have := numL_nx (numL_end h) (u.take m)
  rw [List.take_append_drop] at this
  rw [← this, h]
theorem num_ok {c : UInt8} {t : L8} {m : Nat} (hs : sgL.contains c = false) (h34 : c.toNat ≠ 34) (hc : (isDg c || decide (c.toNat = 45)) = true) (h : numL (c :: t) = some m) (hl : t.length < 262144) : numOk ((c :: t).take m) = true := by
  have hle := numL_le h
  obtain ⟨m', rfl⟩ : ∃ m', m = m' + 1 := ⟨m - 1, by omega⟩
  have ht := numL_take h
  rw [List.take_succ_cons] at ht ⊢
  have hlen : (t.take m').length = m' := by rw [List.length_take]; simp at hle; omega
  obtain ⟨v, hv⟩ : ∃ v, t.take m' = v := ⟨_, rfl⟩
  rw [hv] at ht hlen ⊢
  have hx : lexS (c :: v) = some (4, c :: v, (c :: v).length) := by
    simp only [lexS]
    rw [if_neg (by rw [hs]; decide), if_neg h34, if_pos hc, ht]
    simp only
    rw [List.take_of_length_le (by simp; omega)]
    simp
    omega
  have hb : blL.contains c = false := by
    have : ∀ c : UInt8, (isDg c || decide (c.toNat = 45)) = true → blL.contains c = false := fun c => u8_all (fun c => (isDg c || decide (c.toNat = 45)) = true → blL.contains c = false) (by decide +kernel) c
    exact this c hc
  have hn : nextS (c :: v) = .ok ⟨4, c :: v, c :: v, []⟩ := by
    rw [nb_next hb hx, List.drop_of_length_le (Nat.le_refl _)]
  have hp : parseS (c :: v) = .ok (.mk 4 (c :: v) [] []) := by
    rw [parse_top (by simp; simp at hle; omega)]
    unfold topS
    rw [hn]
    obtain ⟨F, hF⟩ : ∃ F, 3 * (c :: v).length + 4 = F + 1 := ⟨_, rfl⟩
    rw [hF]
    show (valF (F + 1) 0 ⟨4, c :: v, c :: v, []⟩).bind _ = _
    unfold valF
    rw [if_pos (by simp)]
    rfl
  unfold numOk
  rw [hp]
  simp [gotE, gotJ, numIs]
/-- A token that is sound. -/
def tkOk (T : Tk) : Prop := (T.k = 4 → numOk T.t = true) ∧ (T.k = 5 → Lib.validD T.t = true) ∧ (T.k ≠ 4 → T.k ≠ 5 → T.t = []) ∧ T.t.length ≤ 1048576 ∧ T.s.length ≤ 262144
theorem next_tkOk {s : L8} {T : Tk} (h : nextS s = .ok T) (hl : s.length ≤ 262144) : tkOk T := by
  unfold nextS at h
  split at h
  · cases h
  · next k t d hx =>
    injection h with h
    subst h
    obtain ⟨u, hu⟩ : ∃ u, s.drop (blS s) = u := ⟨_, rfl⟩
    have hul : u.length ≤ 262144 := by rw [← hu, List.length_drop]; omega
    rw [hu] at hx ⊢
    have hs : (u.drop d).length ≤ 262144 := by rw [List.length_drop]; omega
    have q : ∀ (h4 : k = 4 → numOk t = true) (h5 : k = 5 → Lib.validD t = true) (h6 : k ≠ 4 → k ≠ 5 → t = []) (h7 : t.length ≤ 1048576), tkOk ⟨k, t, u, u.drop d⟩ := fun h4 h5 h6 h7 => ⟨h4, h5, h6, h7, hs⟩
    cases u with
    | nil =>
      simp only [lexS, Option.some.injEq, Prod.mk.injEq] at hx
      obtain ⟨rfl, rfl, rfl⟩ := hx
      exact q (fun h => by cases h) (fun h => by cases h) (fun _ _ => rfl) (by simp)
    | cons c t0 =>
      simp only [lexS] at hx
      split at hx
      · next hsg =>
        simp only [Option.some.injEq, Prod.mk.injEq] at hx
        obtain ⟨rfl, rfl, rfl⟩ := hx
        have := List.contains_iff_mem.1 hsg
        unfold sgL at this
        simp at this
        refine q (fun h => ?_) (fun h => ?_) (fun _ _ => rfl) (by simp)
        · exfalso; rcases this with rfl | rfl | rfl | rfl | rfl | rfl <;> simp at h
        · exfalso; rcases this with rfl | rfl | rfl | rfl | rfl | rfl <;> simp at h
      · next hsg =>
        split at hx
        · split at hx
          · cases hx
          · next tx d' hst =>
            simp only [Option.some.injEq, Prod.mk.injEq] at hx
            obtain ⟨rfl, rfl, rfl⟩ := hx
            have hv := strF_valid _ _ _ _ _ hst rfl
            refine q (fun h => by cases h) (fun _ => hv.1) (fun _ h => absurd rfl h) ?_
            have := hv.2
            simp only [List.length_cons, List.length_nil] at this hul ⊢
            omega
        · next h34 =>
          split at hx
          · next hnum =>
            split at hx
            · cases hx
            · next m hm =>
              simp only [Option.some.injEq, Prod.mk.injEq] at hx
              obtain ⟨rfl, rfl, rfl⟩ := hx
              refine q (fun _ => num_ok (by simpa using hsg) h34 hnum hm (by simp at hul; omega)) (fun h => by cases h) (fun h => absurd rfl h) ?_
              rw [List.length_take]
              omega
          · split at hx
            · split at hx
              · cases hx
              · simp only [Option.some.injEq, Prod.mk.injEq] at hx
                obtain ⟨rfl, rfl, rfl⟩ := hx
                have hk : ∀ l : L8, kindW l ≤ 3 := fun l => by unfold kindW; split <;> (try split) <;> (try split) <;> omega
                refine q (fun h => ?_) (fun h => ?_) (fun _ _ => rfl) (by simp)
                · have := hk ((c :: t0).take (runLo (c :: t0))); omega
                · have := hk ((c :: t0).take (runLo (c :: t0))); omega
            · cases hx
theorem want_tkOk {k : Nat} {T T' : Tk} (h : wantS k T = .ok T') (hT : tkOk T) : tkOk T' := by
  unfold wantS at h
  split at h
  · exact next_tkOk h hT.2.2.2.2
  · cases h
theorem smL_snoc {a : JV} : ∀ {l : List JV}, smL l → smJ a → smL (l ++ [a])
  | [], _, h => by unfold smL; exact ⟨h, by unfold smL; trivial⟩
  | b :: l, h, ha => by
    unfold smL at h
    rw [List.cons_append]
    unfold smL
    exact ⟨h.1, smL_snoc h.2 ha⟩
theorem smJ_mk {k : Int} {t : L8} {ks : List L8} {vs : List JV} (h1 : t.length ≤ 1048576) (h2 : ∀ s ∈ ks, s.length ≤ 1048576) (h3 : smL vs) : smJ (.mk k t ks vs) := by
  unfold smJ
  exact ⟨Nat.le_trans h1 (by decide), fun s hs => Nat.le_trans (h2 s hs) (by decide), h3⟩
mutual
theorem valF_dp : ∀ (f dp : Nat) (T : Tk) (J : JV) (T1 : Tk), valF f dp T = .ok (J, T1) → tkOk T → dp ≤ 32 → (dpJ (32 - dp) J = true ∧ smJ J) ∧ tkOk T1
  | 0, _, _, _, _, h, _, _ => by simp [valF] at h
  | f + 1, dp, T, J, T1, h, hT, hdp => by
    unfold valF at h
    split at h
    · next hk =>
      obtain ⟨T', h1, h2⟩ := Got.bind_ok h
      injection h2 with h2
      injection h2 with h2 h3
      subst h2 h3
      refine ⟨⟨?_, smJ_mk hT.2.2.2.1 (by simp) (by unfold smL; trivial)⟩, next_tkOk h1 hT.2.2.2.2⟩
      unfold dpJ
      by_cases k123 : (T.k : Int) = 1 ∨ (T.k : Int) = 2 ∨ (T.k : Int) = 3
      · rw [if_pos k123, hT.2.2.1 (by omega) (by omega)]
        rfl
      · rw [if_neg k123]
        by_cases k4 : (T.k : Int) = 4
        · rw [if_pos k4, hT.1 (by omega)]
          rfl
        · rw [if_neg k4, if_pos (by omega), hT.2.1 (by omega)]
          rfl
    · split at h
      · next hk =>
        exact manyF_dp f 6 93 (dp + 1) T.t T J T1 h hT (hT.2.2.1 (by omega) (by omega)) (.inl rfl) (by omega)
      · split at h
        · next hk =>
          exact manyF_dp f 7 125 (dp + 1) T.t T J T1 h hT (hT.2.2.1 (by omega) (by omega)) (.inr rfl) (by omega)
        · cases h
theorem manyF_dp : ∀ (f kind shut dp : Nat) (t : L8) (T : Tk) (J : JV) (T1 : Tk), manyF f kind shut dp t T = .ok (J, T1) → tkOk T → t = [] → (kind = 6 ∨ kind = 7) → 1 ≤ dp → (dpJ (32 - (dp - 1)) J = true ∧ smJ J) ∧ tkOk T1
  | 0, _, _, _, _, _, _, _, h, _, _, _, _ => by simp [manyF] at h
  | f + 1, kind, shut, dp, t, T, J, T1, h, hT, ht, hk, h1 => by
    unfold manyF at h
    split at h
    · cases h
    · next hdp =>
      obtain ⟨T2, h2, h3⟩ := Got.bind_ok h
      exact loopF_dp f kind shut dp T2 true t [] [] J T1 h3 (next_tkOk h2 hT.2.2.2.2) ht hk h1 (by omega) (by simp) (by simp) (by simp) (by unfold dpL; rfl) (by unfold smL; trivial)
theorem loopF_dp : ∀ (f kind shut dp : Nat) (T : Tk) (first : Bool) (t : L8) (ks : List L8) (vs : List JV) (J : JV) (T1 : Tk), loopF f kind shut dp T first t ks vs = .ok (J, T1) → tkOk T → t = [] → (kind = 6 ∨ kind = 7) → 1 ≤ dp → dp ≤ 32 →
    (kind = 6 → ks = []) → (kind = 7 → ks.length = vs.length) → (ks.all Lib.validD = true ∧ ∀ s ∈ ks, s.length ≤ 1048576) → dpL (32 - dp) vs = true → smL vs → (dpJ (32 - (dp - 1)) J = true ∧ smJ J) ∧ tkOk T1
  | 0, _, _, _, _, _, _, _, _, _, _, h, _, _, _, _, _, _, _, _, _, _ => by simp [loopF] at h
  | f + 1, kind, shut, dp, T, first, t, ks, vs, J, T1, h, hT, ht, hk, h1, hdp, hk6, hk7, hks, hvs, hsv => by
    unfold loopF at h
    split at h
    · obtain ⟨T', h2, h3⟩ := Got.bind_ok h
      injection h3 with h3
      injection h3 with h3 h4
      subst h3 h4
      refine ⟨⟨?_, smJ_mk (by rw [ht]; simp) hks.2 hsv⟩, next_tkOk h2 hT.2.2.2.2⟩
      unfold dpJ
      rw [ht, show 32 - (dp - 1) - 1 = 32 - dp by omega, hvs, hks.1]
      rcases hk with rfl | rfl
      · rw [hk6 rfl]
        simp
        omega
      · simp [hk7 rfl]
        omega
    · obtain ⟨T2, h2, h3⟩ := Got.bind_ok h
      have hT2 : tkOk T2 := by
        split at h2
        · injection h2 with h2
          exact h2 ▸ hT
        · exact want_tkOk h2 hT
      split at h3
      · next h7 =>
        obtain ⟨T3, g1, h3⟩ := Got.bind_ok h3
        obtain ⟨T4, g2, h3⟩ := Got.bind_ok h3
        obtain ⟨⟨J5, T5⟩, g3, h3⟩ := Got.bind_ok h3
        have hT3 := want_tkOk g1 hT2
        have hT4 := want_tkOk g2 hT3
        have hk5 : T2.k = 5 := by
          unfold wantS at g1
          split at g1
          · next q => exact q
          · cases g1
        have hv := valF_dp f dp T4 J5 T5 g3 hT4 hdp
        refine loopF_dp f kind shut dp T5 false t (ks ++ [T2.t]) (vs ++ [J5]) J T1 h3 hv.2 ht hk h1 hdp (fun h => by omega) (fun h => by simp [hk7 h]) ⟨?_, fun s hs => ?_⟩ ?_ (smL_snoc hsv hv.1.2)
        · rw [List.all_append, hks.1]
          simp [hT2.2.1 hk5]
        · rcases List.mem_append.1 hs with hs | hs
          · exact hks.2 s hs
          · rw [List.mem_singleton.1 hs]
            exact hT2.2.2.2.1
        · rw [dpL_snoc, hvs, hv.1.1]
          rfl
      · next h7 =>
        obtain ⟨⟨J5, T5⟩, g3, h3⟩ := Got.bind_ok h3
        have hv := valF_dp f dp T2 J5 T5 g3 hT2 hdp
        refine loopF_dp f kind shut dp T5 false t ks (vs ++ [J5]) J T1 h3 hv.2 ht hk h1 hdp hk6 (fun h => absurd h h7) hks ?_ (smL_snoc hsv hv.1.2)
        rw [dpL_snoc, hvs, hv.1.1]
        rfl
end
/-- What is read is sound. -/
theorem parse_sound {s : L8} {J : JV} (h : parseS s = .ok J) : dpJ 32 J = true ∧ smJ J := by
  have hl : s.length ≤ 262144 := by
    rcases Nat.lt_or_ge 262144 s.length with q | q
    · unfold parseS at h
      rw [if_pos (by omega)] at h
      cases h
    · exact q
  rw [parse_top hl] at h
  obtain ⟨T0, T1, h0, h1, _⟩ := top_ok h
  exact (valF_dp _ 0 T0 J T1 h1 (next_tkOk h0 hl) (by omega)).1
/-- Printed and read again it is the same. -/
theorem parse_again {s : L8} {J : JV} (h : parseS s = .ok J) (hl : (prJ J).length ≤ 262144) : parseS (prJ J) = .ok J := parse_pr (parse_sound h).1 hl
end Go.Proofs.YtmbjalcphdggnaaDoor
