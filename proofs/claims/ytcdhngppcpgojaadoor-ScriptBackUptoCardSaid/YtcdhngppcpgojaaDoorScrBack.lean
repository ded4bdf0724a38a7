/- What was written is read; cut off it is none's: plain; the law ScriptBack returns true. -/
import Derived.Test.YtcdhngppcpgojaaDoorScrTexts
namespace Go.Proofs.YtcdhngppcpgojaaDoor
set_option linter.unusedSimpArgs false
set_option linter.unusedVariables false
open Go.RowKit
theorem lns_append : ∀ (u v : List UInt8), lnsL (u ++ v) = ((lnsL u).1 ++ (lnsL ((lnsL u).2 ++ v)).1, (lnsL ((lnsL u).2 ++ v)).2)
  | [], v => by simp [lnsL]
  | c :: u, v => by
    have ih := lns_append u v
    rw [List.cons_append, lnsL, lnsL]
    by_cases hc : c = 10
    · rw [if_pos hc, if_pos hc, ih]; rfl
    · rw [if_neg hc, if_neg hc]
      rcases h : lnsL u with ⟨_ | ⟨x, ls⟩, t⟩
      · rw [h] at ih
        simp only [List.nil_append] at ih ⊢
        have e2 : lnsL (u ++ v) = lnsL (t ++ v) := ih
        rw [e2, List.cons_append, lnsL, if_neg hc]
      · rw [h] at ih
        rw [ih]
        simp
theorem lns_free : ∀ (u : List UInt8), ∀ c ∈ (lnsL u).2, c ≠ 10
  | [], c, h => by cases h
  | d :: u, c, h => by
    have ih := lns_free u
    rw [lnsL] at h
    by_cases hd : d = 10
    · rw [if_pos hd] at h
      exact ih c h
    · rw [if_neg hd] at h
      rcases e : lnsL u with ⟨_ | ⟨x, ls⟩, t⟩
      · rw [e] at h ih
        simp only at h ih
        rcases List.mem_cons.1 h with h | h
        · rw [h]; exact hd
        · exact ih c h
      · rw [e] at h ih
        exact ih c h
theorem lns_last (p : List UInt8) (c : UInt8) : (lnsL (p ++ [c])).2 = [] ↔ c = 10 := by
  rw [lns_append]
  by_cases hc : c = 10
  · subst hc
    have := lns_hit _ [] (lns_free p)
    rw [this]
    simp [lnsL]
  · rw [lns_none ((lnsL p).2 ++ [c]) (fun d hd => by
      rcases List.mem_append.1 hd with h | h
      · exact lns_free p d h
      · rw [List.mem_singleton] at h; rw [h]; exact hc)]
    simp [hc]
theorem lns_prefix (s : List UInt8) (k : Nat) : ∃ j, j ≤ (lnsL s).1.length ∧ (lnsL (s.take k)).1 = (lnsL s).1.take j := by
  have h := lns_append (s.take k) (s.drop k)
  rw [List.take_append_drop] at h
  refine ⟨(lnsL (s.take k)).1.length, ?_, ?_⟩
  · rw [h]; simp
  · rw [h]; simp
theorem dec_big (n : Nat) : ∀ c ∈ Lib.decDigits n, 32 < c.toNat := by
  induction n using Nat.strongRecOn with
  | _ n ih =>
    intro c hc
    rw [Lib.decDigits] at hc
    split at hc
    · rw [List.mem_singleton] at hc
      subst hc
      rw [UInt8.toNat_ofNat']; omega
    · rcases List.mem_append.1 hc with h | h
      · exact ih (n / 10) (by omega) c h
      · rw [List.mem_singleton] at h
        subst h
        rw [UInt8.toNat_ofNat']; omega
theorem itoa_big (v : Int) : ∀ c ∈ Lib.itoa v, 32 < c.toNat := by
  intro c hc
  unfold Lib.itoa at hc
  split at hc
  · rcases List.mem_cons.1 hc with e | e
    · subst e; decide
    · exact dec_big _ c e
  · exact dec_big _ c hc
theorem hx_big : ∀ n : Fin 16, 32 < (hx n.val).toNat := by decide
theorem hex_big (l : List UInt8) : ∀ c ∈ hex l, 32 < c.toNat := by
  intro c hc
  unfold hex at hc
  rcases List.mem_cons.1 hc with e | e
  · subst e; decide
  · unfold hexs at e
    obtain ⟨b, _, hb⟩ := List.mem_flatMap.1 e
    simp at hb
    have hlt := b.toNat_lt
    rcases hb with e | e
    · subst e; exact hx_big ⟨b.toNat / 16, by omega⟩
    · subst e; exact hx_big ⟨b.toNat % 16, by omega⟩
theorem words_big (x : Ac) (h : x.good) : ∀ y ∈ x.words, ∀ c ∈ y, 32 < c.toNat := by
  intro y hy c hc
  unfold Ac.words at hy
  simp only [List.mem_append, itos, List.mem_map, List.mem_cons, List.not_mem_nil, or_false] at hy
  have hk : ∀ k : Fin 15, ∀ c ∈ kw k.val, 32 < c.toNat := by decide
  rcases hy with ((((((e | ⟨v, _, e⟩) | e) | e) | ⟨v, _, e⟩) | e) | ⟨v, _, e⟩) | e
  · subst e; exact hk ⟨x.kind.toNat, by have := h.1; have := h.2.1; omega⟩ c hc
  · subst e; exact itoa_big v c hc
  · subst e; exact dec_big _ c hc
  · subst e; exact hex_big _ c hc
  · subst e; exact itoa_big v c hc
  · subst e; exact hex_big _ c hc
  · subst e; exact itoa_big v c hc
  · unfold pairWords at e
    obtain ⟨p, _, hp⟩ := List.mem_flatMap.1 e
    simp [itos] at hp
    rcases hp with e | e
    · subst e; exact itoa_big _ c hc
    · subst e; exact itoa_big _ c hc
theorem join_mem : ∀ (ws : List (List UInt8)), ∀ c ∈ Lib.join ws [32], c = 32 ∨ ∃ y ∈ ws, c ∈ y
  | [], c, h => by simp [Lib.join_nil] at h
  | [x], c, h => by rw [Lib.join_one] at h; exact .inr ⟨x, List.mem_cons_self .., h⟩
  | x :: y :: r, c, h => by
    have e : Lib.join (x :: y :: r) [32] = x ++ 32 :: Lib.join (y :: r) [32] := by unfold Lib.join; simp [List.intercalate]
    rw [e] at h
    rcases List.mem_append.1 h with h | h
    · exact .inr ⟨x, List.mem_cons_self .., h⟩
    · rcases List.mem_cons.1 h with h | h
      · exact .inl h
      · rcases join_mem (y :: r) c h with h | ⟨z, hz, h⟩
        · exact .inl h
        · exact .inr ⟨z, List.mem_cons_of_mem _ hz, h⟩
theorem line_free (x : Ac) (h : x.good) : ∀ c ∈ x.line, c ≠ 10 := by
  intro c hc e
  subst e
  rcases join_mem x.words 10 hc with e | ⟨y, hy, e⟩
  · cases e
  · have := words_big x h y hy 10 e
    exact absurd this (by decide)
theorem lns_outs : ∀ (l : List Ac) (r : List UInt8), (∀ x ∈ l, x.good) → lnsL (outs l ++ r) = (l.map Ac.line ++ (lnsL r).1, (lnsL r).2)
  | [], r, _ => by simp [outs]
  | x :: l, r, h => by
    have e : outs (x :: l) ++ r = x.line ++ 10 :: (outs l ++ r) := by unfold outs; simp
    rw [e, lns_hit _ _ (line_free x (h x (List.mem_cons_self ..))), lns_outs l r (fun y hy => h y (List.mem_cons_of_mem _ hy))]
    simp
theorem ts_good {w : World} {s : List UInt8} {e : Ending} {w' : World} (h : TsP w s e w') (xs : List Ac) (hx : ∀ x ∈ xs, Parse (wordsL x.line) x) (hl : lnsL s = (xs.map Ac.line, [])) (hn : xs.length ≤ 4096) (hs : s.length ≤ 262144) :
    ∃ (A : Option Addr) (c : Nat) (ys : List Ac), e = .returned (.tuple #[.slice A xs.length c, .int .i64 0, .int .i64 0]) ∧ SLs w' A xs.length ys ∧ ∀ i (h1 : i < ys.length) (h2 : i < xs.length), (ys[i]).bare = (xs[i]).bare := by
  have hg : AllGood s := by
    refine ⟨by rw [hl], fun i hi => ?_⟩
    rw [hl] at hi ⊢
    simp only [List.length_map] at hi
    rw [List.getD_eq_getElem?_getD, List.getElem?_map, List.getElem?_eq_getElem hi]
    exact ⟨_, hx _ (List.getElem_mem hi)⟩
  have hlen : (lnsL s).1.length = xs.length := by rw [hl]; simp
  rcases h with ⟨a1, _⟩ | ⟨_, ⟨j, a1, _⟩ | ⟨_, a5, _⟩ | ⟨_, _, A, c, ys, a2, a3⟩⟩
  · omega
  · exact (a1.not hg).elim
  · omega
  · refine ⟨A, c, ys, by rw [← hlen]; exact a2, by rw [← hlen]; exact a3.sls a3.f.1.symm, fun i h1 h2 => ?_⟩
    obtain ⟨z, hz, e2⟩ := a3.f.2 i h1
    rw [hl, List.getD_eq_getElem?_getD, List.getElem?_map, List.getElem?_eq_getElem h2] at hz
    rw [e2]
    exact hz.same (hx _ (List.getElem_mem h2))
theorem ts_cut {w : World} {s : List UInt8} {e : Ending} {w' : World} (h : TsP w s e w') (ht : (lnsL s).2 ≠ []) (hs : s.length ≤ 262144) : ∃ j : Nat, e = .returned (.tuple #[.slice none 0 0, .int .i64 ((j : Int) + 1), .int .i64 11]) := by
  rcases h with ⟨a1, _⟩ | ⟨_, ⟨j, a1, a2⟩ | ⟨a1, _⟩ | ⟨a1, _⟩⟩
  · omega
  · exact ⟨j, a2⟩
  · exact absurd a1.1 ht
  · exact absurd a1.1 ht
theorem SV_ok {l : List Ac} (h : (SV l).2 = 0) : (∀ x ∈ l, x.good) ∧ (SV l).1 = outs l := by
  unfold SV at h ⊢
  by_cases hg : ∀ x ∈ l, x.good
  · rw [if_pos hg] at h ⊢
    split at h
    · cases h
    · rename_i hb
      rw [if_neg hb]
      exact ⟨hg, rfl⟩
  · rw [if_neg hg] at h; cases h
theorem al_parse {w : World} {B n : Nat} {A : Option Addr} {l : List Ac} (h : AL w B A n l) (hg : ∀ x ∈ l, x.good) : ∀ x ∈ l, Parse (wordsL x.line) x := fun x hx => parse_line x (hg x hx) (h.ok x hx)
theorem al_sls {w w' : World} {B n : Nat} {A : Option Addr} {l : List Ac} (h : AL w B A n l) (hb : Below B w w') (hB : B ≤ w'.heap.size) : SLs w' A n l :=
  ⟨(h.sl.below hb).more hB, fun y hy => ⟨((h.ok y hy).sl.below hb).more hB, by have := (h.sz y hy).1; omega⟩⟩
/-- The first of these acts. -/
theorem SLs.take {w : World} {A : Option Addr} {n : Nat} {l : List Ac} (h : SLs w A n l) (j : Nat) (hj : j ≤ n) : SLs w A j (l.take j) := by
  refine ⟨⟨by rw [List.length_take]; have := h.sl.1; omega, ?_, fun hp => ?_⟩, fun y hy => h.ok y (List.mem_of_mem_take hy)⟩
  · rw [flat_len Ac.enc_len, List.length_take]; have := h.sl.1; rw [Nat.min_eq_left (by omega)]
  · obtain ⟨ad, hA, hB, hc⟩ := h.sl.2.2 (by omega)
    refine ⟨ad, hA, hB, fun i u hu => hc i u ?_⟩
    have e : l.flatMap Ac.enc = (l.take j).flatMap Ac.enc ++ (l.drop j).flatMap Ac.enc := by rw [← List.flatMap_append, List.take_append_drop]
    rw [e, List.getElem?_append_left (List.getElem?_eq_some_iff.1 hu).1]
    exact hu
theorem flat_one (l : List Ac) : ∀ u ∈ l.flatMap Ac.enc, u.oneCell' = true := by
  intro u hu
  obtain ⟨x, _, hx⟩ := List.mem_flatMap.1 hu
  exact enc_one x u hx
theorem cat_str (a b : List UInt8) : (⟨a.toArray⟩ : ByteArray) ++ ⟨b.toArray⟩ = ⟨(a ++ b).toArray⟩ := by
  apply ByteArray.ext
  rw [ByteArray.data_append]
  apply Array.ext'
  simp
theorem ts_goodN {w : World} {s : List UInt8} {e : Ending} {w' : World} (h : TsP w s e w') (xs : List Ac) (N : Nat) (hN : xs.length = N) (hx : ∀ x ∈ xs, Parse (wordsL x.line) x) (hl : lnsL s = (xs.map Ac.line, [])) (hn : N ≤ 4096) (hs : s.length ≤ 262144) :
    ∃ (A : Option Addr) (c : Nat) (ys : List Ac), e = .returned (.tuple #[.slice A N c, .int .i64 0, .int .i64 0]) ∧ SLs w' A N ys ∧ ∀ i (h1 : i < ys.length) (h2 : i < xs.length), (ys[i]).bare = (xs[i]).bare := by
  subst hN
  exact ts_good h xs hx hl hn hs
theorem take_last (S : List UInt8) (q : Nat) (h : q - 1 < S.length) (h0 : 0 < q) : S.take q = S.take (q - 1) ++ [S[q - 1]] := by
  obtain ⟨m, rfl⟩ : ∃ m, q = m + 1 := ⟨q - 1, by omega⟩
  simp only [Nat.add_sub_cancel] at h ⊢
  exact List.take_succ_eq_append_getElem h
theorem sls_cat {w w' : World} {A A' A8 : Option Addr} {n n' c8 base : Nat} {la lb : List Ac} (ha : AL w w.heap.size A n la) (hb : AL w w.heap.size A' n' lb) (h : Below w.heap.size w w') (ho : w'.ownsRow base TAct 10 (.slice A8 (n + n') c8) (n + n') (la.flatMap Ac.enc ++ lb.flatMap Ac.enc)) : SLs w' A8 (n + n') (la ++ lb) := by
  refine ⟨⟨by rw [List.length_append, ha.sl.1, hb.sl.1], ?_⟩, fun y hy => ?_⟩
  · rw [List.flatMap_append]
    exact Reads.of_own ho
  · rcases List.mem_append.1 hy with e | e
    · exact ⟨((ha.ok y e).sl.below h).more h.size, by have := (ha.sz y e).1; omega⟩
    · exact ⟨((hb.ok y e).sl.below h).more h.size, by have := (hb.sz y e).1; omega⟩
set_option maxRecDepth 100000 in
set_option maxHeartbeats 4000000 in
theorem back_any (la lb : List Ac) (A A' : Option Addr) (n n' c c' : Nat) (u : Int) (w : World) (ht : Wt w.heap.size w) (ha : AL w w.heap.size A n la) (hb : AL w w.heap.size A' n' lb) (hna : n ≤ 1048576) (hnb : n' ≤ 1048576) (hnc : n ≤ c) (hu : 0 ≤ u ∧ u < 65536) :
    Calls Tryd.prog 8 #[.slice A n c, .slice A' n' c', .int .u16 u] w fun e w' => e = .returned (.bool true) ∧ Below w.heap.size w w' := by
  have HC1 := hide (sscript_any la A n c w ha ht.wd hna)
  have HC2 := hide (fun (w1 : World) (h : Below w.heap.size w w1) => sscript_any lb A' n' c' w1 ((hb.below h).more h.size) (ht.below h).wd hnb)
  have HA := hide (fun (w1 : World) (h : Below w.heap.size w w1) => answers_any w1 (ht.below h).wd)
  have HTS := hide (fun (w1 : World) (h : Below w.heap.size w w1) x => toscript_any x w1 (ht.below h).topT)
  have HLA := hide ha
  have HLB := hide hb
  have HNA := hide ha.sl.1
  have HNB := hide hb.sl.1
  have HU := hide hu
  obtain ⟨i0, hi0, hz0, hz1, hz2⟩ := info_parts act_info
  have HI0 := hide hi0
  have HZ0 := hide hz0
  clear ht ha hb hi0 hz0
  have hs1 : (SV la).2 = 0 → (∀ x ∈ la, x.good) ∧ (SV la).1 = outs la := SV_ok
  have hs2 : (SV lb).2 = 0 → (∀ x ∈ lb, x.good) ∧ (SV lb).1 = outs lb := SV_ok
  unfold SP at HC1 HC2
  obtain ⟨⟨S, E⟩, hS⟩ : ∃ S, SV la = S := ⟨_, rfl⟩
  obtain ⟨⟨T, F⟩, hT⟩ : ∃ S, SV lb = S := ⟨_, rfl⟩
  rw [hS] at HC1 hs1
  rw [hT] at HC2 hs2
  simp only at HC1 HC2 hs1 hs2
  have HS1 := hide hs1
  have HS2 := hide hs2
  clear hS hT hs1 hs2
  go_enter Tryd.func8, Tryd.ntmps8
  go_upto_region 2 with (go_at_call 13; (refine HC1.out.mono ?_); rintro e w1 ⟨rfl, hb⟩; have HB := hide hb; have HC3 := hide (HC2.out w1 hb); clear hb)
  clear HC1 HC2
  go_upto_region 3 with (go_at_call 13; (refine HC3.out.mono ?_); rintro e w2 ⟨rfl, hb⟩; have HB2 := hide (HB.out.trans (hb.mono HB.out.size)); clear hb)
  clear HC3 HB
  have HA1 := hide (HA.out w2 HB2.out)
  by_cases hgo : E = 0 ∧ F = 0 ∧ n + n' ≤ 1000 ∧ S.length ≤ 100000 ∧ T.length ≤ 100000
  · obtain ⟨rfl, rfl, g1, g2, g3⟩ := hgo
    obtain ⟨hga, hSe⟩ := HS1.out rfl
    obtain ⟨hgb, hTe⟩ := HS2.out rfl
    have d1 : ¬ (1000 : Int) < (n : Int) + n' := by omega
    have d2 : ¬ (100000 : Int) < S.length := by omega
    have d3 : ¬ (100000 : Int) < T.length := by omega
    have HGA := hide (al_parse HLA.out hga)
    have HGB := hide (al_parse HLB.out hgb)
    have HGD := hide hga
    have HLN := hide (show lnsL (S ++ T) = ((la ++ lb).map Ac.line, []) by
      rw [hSe, hTe, lns_outs la _ hga]
      have := lns_outs lb [] hgb
      rw [List.append_nil] at this
      rw [this]
      simp [lnsL])
    have HLS := hide (show (lnsL S).1 = la.map Ac.line by
      rw [hSe]
      have := lns_outs la [] hga
      rw [List.append_nil] at this
      rw [this]
      simp [lnsL])
    clear hga hgb hSe hTe HS1 HS2
    go_upto_region 5 with (go_at_call 9; (refine HA1.out.mono ?_); rintro e w3 ⟨rfl, hb⟩; have HB3 := hide (HB2.out.trans (hb.mono HB2.out.size)); clear hb)
    clear d1 d2 d3 HA1
    have HT1 := hide (HTS.out w3 HB3.out (S ++ T))
    have hcat := cat_str S T
    have hlen : (S ++ T).length ≤ 262144 := by rw [List.length_append]; omega
    have hxs : ∀ x ∈ la ++ lb, Parse (wordsL x.line) x := fun x hx => by
      rcases List.mem_append.1 hx with h | h
      · exact HGA.out x h
      · exact HGB.out x h
    have hnn : (la ++ lb).length = n + n' := by rw [List.length_append, HNA.out, HNB.out]
    have HG := hide (fun e w' (h : TsP w3 (S ++ T) e w') => ts_goodN h (la ++ lb) (n + n') hnn hxs HLN.out (by omega) hlen)
    clear hlen hxs hnn
    go_upto_region 6 with (go_at_call 20; (refine HT1.out.mono ?_); rintro e w4 ⟨hT, hb⟩; obtain ⟨A5, c5, ys, rfl, hs5, he5⟩ := HG.out e w4 hT; have HS5 := hide hs5; have HE5 := hide he5; have HB4 := hide (HB3.out.trans (hb.mono HB3.out.size)); clear hT hs5 he5 hb)
    clear HT1 HG hcat
    have hb5 : Below w4.heap.size w4 (w4.alloc (Obj.cells #[] TAct)) := (Below.refl _ _).alloc (Nat.le_refl _) _
    have HO5 := hide (World.ownsRow_made (base := w4.heap.size) (e := TAct) (size := 10) w4 #[] 0 (Nat.le_refl _) (Nat.zero_le _) rfl)
    have HB5 := hide hb5
    have HR5 := hide (HLA.out.sl.below (HB4.out.trans (hb5.mono HB4.out.size))).2
    clear hb5
    go_upto_region 8 with (first | (at_builtin; refine wpList_step (fun K hK => ?_); rw [if_pos (by rfl)]; (refine wp_append_any w7 (.tmp 71) (.tmp 72) _ rfl w4.heap.size TAct i0 _ 10 112 Tryd.underlying30 HI0.out HZ0.out hz1 hz2 rfl (by omega) (.slice A7 n c7) n (la.flatMap Ac.enc) rfl HO7.out w.heap.size A' n' c' (lb.flatMap Ac.enc) rfl HR7.out (flat_one lb) (by unfold maxLen; omega) (by omega) HB7.out.size ?_); intro v8 w8 ho hgr _; obtain ⟨A8, c8, rfl⟩ := row_form ho; have HB8 := hide (HB7.out.grown hgr HB7.out.size (fun g hg => (HO7.out.lt g hg).1)); have HO8 := hide ho; clear ho hgr; refine hK _ _ ?_) | (at_builtin; refine wpList_step (fun K hK => ?_); rw [if_pos (by rfl)]; (refine wp_append_any _ (.tmp 69) (.tmp 70) _ rfl w4.heap.size TAct i0 _ 10 112 Tryd.underlying30 HI0.out HZ0.out hz1 hz2 rfl (by omega) (.slice (some ⟨w4.heap.size, 0, none⟩) 0 0) 0 [] rfl HO5.out w.heap.size A n c (la.flatMap Ac.enc) rfl HR5.out (flat_one la) (by unfold maxLen; omega) (by omega) HB5.out.size ?_); intro v7 w7 ho hgr _; rw [Nat.zero_add, List.nil_append] at ho; obtain ⟨A7, c7, rfl⟩ := row_form ho; have HB7 := hide (HB5.out.grown hgr HB5.out.size (fun g hg => (HO5.out.lt g hg).1)); have HO7 := hide ho; have HR7 := hide (HLB.out.sl.below (HB4.out.trans (HB7.out.mono HB4.out.size))).2; clear ho hgr; refine hK _ _ ?_) | (go_at_call 22; have HM := hide (samel_any ys (la ++ lb) A5 A8 (n + n') c5 c8 w8 (HS5.out.below HB8.out) (sls_cat HLA.out HLB.out (HB4.out.trans (HB8.out.mono HB4.out.size)) HO8.out) HE5.out (by omega)); (refine HM.out.mono ?_); rintro e w9 ⟨rfl, hb⟩; have HB9 := hide (HB4.out.trans ((HB8.out.trans (hb.mono HB8.out.size)).mono HB4.out.size)); clear hb))
    clear HB5 HO5 HR5 HB7 HO7 HR7 HB8 HO8 HM
    obtain ⟨u0, u1⟩ := HU.out
    have hwu : IntKind.i64.wrap u = u := IntWalk.i64_in _ (by omega)
    have hwu2 : wrap64 u = u := by unfold wrap64; omega
    have hnz : ¬ ((S.length : Int) + 1 = 0) := by omega
    obtain ⟨q, hq, hqS⟩ : ∃ q : Nat, u.tmod ((S.length : Int) + 1) = (q : Int) ∧ q ≤ S.length := by
      rw [Int.tmod_eq_emod_of_nonneg u0]
      have h1 := Int.emod_nonneg u (show (S.length : Int) + 1 ≠ 0 by omega)
      have h2 := Int.emod_lt_of_pos u (show 0 < (S.length : Int) + 1 by omega)
      exact ⟨(u % ((S.length : Int) + 1)).toNat, by omega, by omega⟩
    go_upto_region 9 with fail
    clear hq hwu hwu2 hnz
    have hex := extr S 0 q
    rw [List.drop_zero, Nat.sub_zero] at hex
    have HT2 := hide (HTS.out w9 HB9.out (S.take q))
    have hqI : (q : Int) ≤ S.length := by omega
    obtain ⟨j, hj1, hj2⟩ := lns_prefix S q
    rw [HLS.out, List.length_map, HNA.out] at hj1
    rw [HLS.out, ← List.map_take] at hj2
    have HJ := hide hj2
    have hsq : (S.take q).length ≤ 262144 := by rw [List.length_take]; omega
    have HSQ := hide hsq
    have hends : (q = 0 ∨ ∃ h : q - 1 < S.length, 0 < q ∧ S[q - 1] = 10) → (lnsL (S.take q)).2 = [] := by
      rintro (rfl | ⟨h, h0, e⟩)
      · rfl
      · rw [take_last S q h h0, lns_last]
        exact e
    have hopen : (∃ h : q - 1 < S.length, 0 < q ∧ S[q - 1] ≠ 10) → (lnsL (S.take q)).2 ≠ [] := by
      rintro ⟨h, h0, e⟩ e3
      rw [take_last S q h h0, lns_last] at e3
      exact e e3
    have HEN := hide hends
    have HOP := hide hopen
    have hjl : (la.take j).length = j := by rw [List.length_take, HNA.out]; omega
    have HGO := hide (fun e w' (h : TsP w9 (S.take q) e w') (ht : (lnsL (S.take q)).2 = []) => ts_goodN h (la.take j) j hjl (fun x hx => HGA.out x (List.mem_of_mem_take hx)) (Prod.ext HJ.out ht) (by omega) HSQ.out)
    have HGC := hide (fun e w' (h : TsP w9 (S.take q) e w') (ht : (lnsL (S.take q)).2 ≠ []) => ts_cut h ht HSQ.out)
    clear hj2 hsq hends hopen hjl HLN HGA HGB HE5 HS5
    by_cases hcase : q = 0 ∨ ∃ h : q - 1 < S.length, 0 < q ∧ S[q - 1] = 10
    · have HE := hide (HEN.out hcase)
      go_upto_region 10 with (go_at_call 20; (refine HT2.out.mono ?_); rintro e w10 ⟨hT, hb⟩; obtain ⟨A9, c9, zs, rfl, hs9, he9⟩ := HGO.out e w10 hT HE.out; have HS9 := hide hs9; have HE9 := hide he9; have HB10 := hide (HB9.out.trans (hb.mono HB9.out.size)); clear hT hs9 he9 hb)
      clear HT2 HGO HGC hex
      have HM2 := hide (fun A0 (h : A0 = A) => samel_any zs (la.take j) A9 A0 j c9 c w10 HS9.out (by rw [h]; exact (al_sls HLA.out HB10.out HB10.out.size).take j hj1) HE9.out (by omega))
      have hjI : (j : Int) ≤ n := by omega
      have hjc : (j : Int) ≤ c := by omega
      rcases hcase with hq0 | ⟨hq1, hq0, hq10⟩
      · have hqz : ((q : Int) == 0) = true := by simp; omega
        clear hq0
        go_wp2_with (go_at_call 22; (refine (HM2.out A rfl).mono ?_); rintro e w11 ⟨rfl, hb⟩; have HB11 := hide (HB10.out.trans (hb.mono HB10.out.size)); clear hb)
        go_ret
        exact ⟨by simp, HB11.out⟩
      · obtain ⟨r, hr, hrs, hr10⟩ : ∃ r, q = r + 1 ∧ ∃ h : r < S.length, S[r] = 10 := ⟨q - 1, by omega, hq1, hq10⟩
        have hsz : r < (⟨S.toArray⟩ : ByteArray).size := by rw [str_size]; exact hrs
        have hcb : ((⟨S.toArray⟩ : ByteArray)[r]'hsz).toNat = 10 := by
          show S[r].toNat = 10
          rw [hr10]; rfl
        have hqz : ((q : Int) == 0) = false := by simp; omega
        have hqm : (q : Int) - 1 = (r : Int) := by omega
        have hrI : (r : Int) < S.length := by omega
        clear hq0 hq1 hq10 hr hr10
        go_wp2_with (go_at_call 22; (refine (HM2.out A rfl).mono ?_); rintro e w11 ⟨rfl, hb⟩; have HB11 := hide (HB10.out.trans (hb.mono HB10.out.size)); clear hb)
        go_ret
        exact ⟨by simp, HB11.out⟩
    · have hne : ∃ h : q - 1 < S.length, 0 < q ∧ S[q - 1] ≠ 10 := by
        have h0 : q ≠ 0 := fun e => hcase (.inl e)
        exact ⟨by omega, by omega, fun e => hcase (.inr ⟨by omega, by omega, e⟩)⟩
      have HE := hide (HOP.out hne)
      go_upto_region 10 with (go_at_call 20; (refine HT2.out.mono ?_); rintro e w10 ⟨hT, hb⟩; obtain ⟨i, rfl⟩ := HGC.out e w10 hT HE.out; have HB10 := hide (HB9.out.trans (hb.mono HB9.out.size)); clear hT hb)
      clear HT2 HGO HGC hex hcase
      obtain ⟨hq1, hq0, hq10⟩ := hne
      obtain ⟨r, hr, hrs, hr10⟩ : ∃ r, q = r + 1 ∧ ∃ h : r < S.length, S[r] ≠ 10 := ⟨q - 1, by omega, hq1, hq10⟩
      have hsz : r < (⟨S.toArray⟩ : ByteArray).size := by rw [str_size]; exact hrs
      obtain ⟨ch, hch⟩ : ∃ ch, S[r].toNat = ch := ⟨_, rfl⟩
      have hcb : ((⟨S.toArray⟩ : ByteArray)[r]'hsz).toNat = ch := hch
      have hc10 : ¬ (ch : Int) = 10 := fun e => hr10 (UInt8.toNat_inj.1 (show S[r].toNat = 10 by omega))
      have hqz : ((q : Int) == 0) = false := by simp; omega
      have hqm : (q : Int) - 1 = (r : Int) := by omega
      have hrI : (r : Int) < S.length := by omega
      have hi1 : (1 : Int) ≤ (i : Int) + 1 := by omega
      clear hq0 hq1 hq10 hr hr10 hch
      go_wp2_with fail
      go_ret
      exact ⟨by simp, HB10.out⟩
  · have hcs : (¬ E = 0 ∧ (E != 0) = true ∧ (E == 0) = false) ∨ (E = 0 ∧ ¬ F = 0 ∧ (F != 0) = true ∧ (F == 0) = false) ∨ (E = 0 ∧ F = 0 ∧ (1000 : Int) < (n : Int) + n') ∨ (E = 0 ∧ F = 0 ∧ ¬ (1000 : Int) < (n : Int) + n' ∧ (100000 : Int) < S.length) ∨ (E = 0 ∧ F = 0 ∧ ¬ (1000 : Int) < (n : Int) + n' ∧ ¬ (100000 : Int) < S.length ∧ (100000 : Int) < T.length) := by
      by_cases h1 : E = 0
      · by_cases h2 : F = 0
        · by_cases h3 : n + n' ≤ 1000
          · by_cases h4 : S.length ≤ 100000
            · by_cases h5 : T.length ≤ 100000
              · exact absurd ⟨h1, h2, h3, h4, h5⟩ hgo
              · exact .inr (.inr (.inr (.inr ⟨h1, h2, by omega, by omega, by omega⟩)))
            · exact .inr (.inr (.inr (.inl ⟨h1, h2, by omega, by omega⟩)))
          · exact .inr (.inr (.inl ⟨h1, h2, by omega⟩))
        · exact .inr (.inl ⟨h1, h2, by simpa using h2, by simpa using h2⟩)
      · exact .inl ⟨h1, by simpa using h1, by simpa using h1⟩
    clear hgo HS1 HS2 HTS
    rcases hcs with ⟨d1, d2, d3⟩ | ⟨rfl, d1, d2, d3⟩ | ⟨rfl, rfl, d1⟩ | ⟨rfl, rfl, d1, d2⟩ | ⟨rfl, rfl, d1, d2, d3⟩
    all_goals
      go_upto_region 4 with (go_at_call 9; (refine HA1.out.mono ?_); rintro e w3 ⟨rfl, hb⟩; have HB3 := hide (HB2.out.trans (hb.mono HB2.out.size)); clear hb)
      have HA2 := hide (HA.out w3 HB3.out)
      go_wp2_with (go_at_call 9; (refine HA2.out.mono ?_); rintro e w5 ⟨rfl, hb⟩; have HB5 := hide (HB3.out.trans (hb.mono HB3.out.size)); clear hb)
      go_ret
      exact ⟨rfl, HB5.out⟩
end Go.Proofs.YtcdhngppcpgojaaDoor
