/- The reference's Add. -/
import Derived.Test.YtldlaojcbgckjaaVerAdd
namespace Go.Proofs.Ytldlaojcbgckjaa
set_option linter.unusedSimpArgs false
set_option linter.unusedVariables false
open Go.RowKit
structure RAddInv (A : Option Addr) (n c : Nat) (l : List Ver) (v : Ver) (W : World) (g0 : Nat) (D : Nat → Bool) (a : Act) (w : World) : Prop where
  sz : a.tmps.size = 51
  df : a.defers = []
  e0 : a.eval (.tmp 0) = .slice A n c
  e3 : a.eval (.tmp 3) = .pointer (some ⟨g0, 0, none⟩)
  hb : Below W.heap.size W w
  i0 : D 0 = true → D 5 = false → ∃ g, a.eval (.tmp 45) = .slice (some ⟨g, 0, none⟩) 0 0 ∧ w.ownsRow W.heap.size 24 3 (.slice (some ⟨g, 0, none⟩) 0 0) 0 []
  i1 : D 1 = true → a.eval (.tmp 46) = .slice A n c
  i2 : D 2 = true → D 5 = false → w.ownsRow W.heap.size 24 3 (a.eval (.tmp 47)) n (l.flatMap Ver.enc)
  i3 : D 3 = true → a.eval (.tmp 48) = .agg #[.int .i64 v.s, .int .i64 v.t, .int .i64 v.r]
  i4 : D 4 = true → D 5 = false → ∃ g, a.eval (.tmp 49) = .slice (some ⟨g, 0, none⟩) 1 1 ∧ Reads w w.heap.size 3 (some ⟨g, 0, none⟩) 1 v.enc
  i5 : D 5 = true → D 2 = true ∧ D 4 = true ∧ D 0 = true ∧ w.ownsRow W.heap.size 24 3 (a.eval (.tmp 50)) (n + 1) ((l ++ [v]).flatMap Ver.enc)
  i6 : D 6 = true → D 5 = true ∧ a.eval (.tmp 4) = a.eval (.tmp 50)
  i7 : D 7 = true → a.eval (.tmp 5) = .int .i64 0
  k2 : D 2 = true → D 0 = true

theorem RAddInv.kept {A : Option Addr} {n c : Nat} {l : List Ver} {v : Ver} {W : World} {g0 : Nat} {D : Nat → Bool} {a : Act} {w w' : World} (h : RAddInv A n c l v W g0 D a w) (hb : Below w.heap.size w w') (i d : Nat) (x : Value)
    (hi : (i = 0 ∧ d = 45) ∨ (i = 1 ∧ d = 46) ∨ (i = 2 ∧ d = 47) ∨ (i = 3 ∧ d = 48) ∨ (i = 4 ∧ d = 49) ∨ (i = 6 ∧ d = 4) ∨ (i = 7 ∧ d = 5)) (hDi : D i = false)
    (f0 : i = 0 → ∃ g, x = .slice (some ⟨g, 0, none⟩) 0 0 ∧ w'.ownsRow W.heap.size 24 3 (.slice (some ⟨g, 0, none⟩) 0 0) 0 [])
    (f1 : i = 1 → x = .slice A n c)
    (f2 : i = 2 → D 0 = true ∧ w'.ownsRow W.heap.size 24 3 x n (l.flatMap Ver.enc))
    (f3 : i = 3 → x = .agg #[.int .i64 v.s, .int .i64 v.t, .int .i64 v.r])
    (f4 : i = 4 → ∃ g, x = .slice (some ⟨g, 0, none⟩) 1 1 ∧ Reads w' w'.heap.size 3 (some ⟨g, 0, none⟩) 1 v.enc)
    (f6 : i = 6 → D 5 = true ∧ x = a.eval (.tmp 50)) (f7 : i = 7 → x = .int .i64 0) : RAddInv A n c l v W g0 (seen D i) (a.put (some d) x) w' := by
  obtain ⟨sz, df, e0, e3, hbW, i0, i1, i2, i3, i4, i5, i6, i7, k2⟩ := h
  have hdl : d < a.tmps.size := by rw [sz]; omega
  have hs : ∀ j, seen D i j = true → j = i ∨ D j = true := fun j hj => by
    unfold seen at hj; rw [Bool.or_eq_true] at hj; rcases hj with h | h
    · exact .inl (by simpa using h)
    · exact .inr h
  have hs5 : ∀ j, seen D i j = false → D j = false := fun j hj => by unfold seen at hj; rw [Bool.or_eq_false_iff] at hj; exact hj.2
  have hse : ∀ j, D j = true → seen D i j = true := fun j hj => by simp [seen, hj]
  obtain ⟨n0, n3, n50, n5⟩ : 0 ≠ d ∧ 3 ≠ d ∧ 50 ≠ d ∧ 5 ≠ i := by omega
  obtain ⟨p0, p1, p2, p3, p4, p6, p7⟩ : (0 = i → d = 45) ∧ (1 = i → d = 46) ∧ (2 = i → d = 47) ∧ (3 = i → d = 48) ∧ (4 = i → d = 49) ∧ (6 = i → d = 4) ∧ (7 = i → d = 5) := by
    rcases hi with ⟨rfl, rfl⟩ | ⟨rfl, rfl⟩ | ⟨rfl, rfl⟩ | ⟨rfl, rfl⟩ | ⟨rfl, rfl⟩ | ⟨rfl, rfl⟩ | ⟨rfl, rfl⟩ <;> simp
  obtain ⟨r0, r1, r2, r3, r4, r6, r7⟩ : (45 = d → i = 0) ∧ (46 = d → i = 1) ∧ (47 = d → i = 2) ∧ (48 = d → i = 3) ∧ (49 = d → i = 4) ∧ (4 = d → i = 6) ∧ (5 = d → i = 7) := by
    rcases hi with ⟨rfl, rfl⟩ | ⟨rfl, rfl⟩ | ⟨rfl, rfl⟩ | ⟨rfl, rfl⟩ | ⟨rfl, rfl⟩ | ⟨rfl, rfl⟩ | ⟨rfl, rfl⟩ <;> simp
  clear hi
  refine ⟨by rw [act_size]; exact sz, by rw [act_defers]; exact df, by rw [act_ne n0]; exact e0, by rw [act_ne n3]; exact e3, hbW.trans (hb.mono hbW.size), ?_, ?_, ?_, ?_, ?_, ?_, ?_, ?_, ?_⟩
  · intro hj h5
    rcases hs 0 hj with he | he
    · obtain rfl := p0 he
      rw [act_same hdl]; exact f0 he.symm
    · rw [act_ne (by intro hh; have := r0 hh
                     subst this; rw [hDi] at he; cases he)]
      obtain ⟨g, h1, h2⟩ := i0 he (hs5 5 h5)
      exact ⟨g, h1, own_later h2 hb⟩
  · intro hj
    rcases hs 1 hj with he | he
    · obtain rfl := p1 he
      rw [act_same hdl]; exact f1 he.symm
    · rw [act_ne (by intro hh; have := r1 hh
                     subst this; rw [hDi] at he; cases he)]
      exact i1 he
  · intro hj h5
    rcases hs 2 hj with he | he
    · obtain rfl := p2 he
      rw [act_same hdl]; exact (f2 he.symm).2
    · rw [act_ne (by intro hh; have := r2 hh
                     subst this; rw [hDi] at he; cases he)]
      exact own_later (i2 he (hs5 5 h5)) hb
  · intro hj
    rcases hs 3 hj with he | he
    · obtain rfl := p3 he
      rw [act_same hdl]; exact f3 he.symm
    · rw [act_ne (by intro hh; have := r3 hh
                     subst this; rw [hDi] at he; cases he)]
      exact i3 he
  · intro hj h5
    rcases hs 4 hj with he | he
    · obtain rfl := p4 he
      rw [act_same hdl]; exact f4 he.symm
    · rw [act_ne (by intro hh; have := r4 hh
                     subst this; rw [hDi] at he; cases he)]
      obtain ⟨g, h1, h2⟩ := i4 he (hs5 5 h5)
      exact ⟨g, h1, (h2.below hb).more hb.size⟩
  · intro hj
    rcases hs 5 hj with he | he
    · exact absurd he n5
    · rw [act_ne n50]
      obtain ⟨h1, h2, h3, h4⟩ := i5 he
      exact ⟨hse _ h1, hse _ h2, hse _ h3, own_later h4 hb⟩
  · intro hj
    rw [act_ne (e := 50) n50]
    rcases hs 6 hj with he | he
    · obtain rfl := p6 he
      rw [act_same hdl]; exact ⟨hse _ (f6 he.symm).1, (f6 he.symm).2⟩
    · rw [act_ne (by intro hh; have := r6 hh
                     subst this; rw [hDi] at he; cases he)]
      exact ⟨hse _ (i6 he).1, (i6 he).2⟩
  · intro hj
    rcases hs 7 hj with he | he
    · obtain rfl := p7 he
      rw [act_same hdl]; exact f7 he.symm
    · rw [act_ne (by intro hh; have := r7 hh
                     subst this; rw [hDi] at he; cases he)]
      exact i7 he
  · intro hj
    rcases hs 2 hj with he | he
    · exact hse _ (f2 he.symm).1
    · exact hse _ (k2 he)

set_option maxRecDepth 100000 in
set_option maxHeartbeats 2000000 in
theorem radd_any (l : List Ver) (v : Ver) (A : Option Addr) (n c : Nat) (w : World) (hr : VR w w.heap.size A n l) (hn : n * 24 ≤ 140737488351232) :
    Calls Try.prog 17 #[.slice A n c, .agg #[.int .i64 v.s, .int .i64 v.t, .int .i64 v.r]] w fun e w' => ∃ A' m c', e = .returned (.tuple #[.slice A' m c', .int .i64 (addCode l v)]) ∧ m ≤ c' ∧ VR w' w'.heap.size A' m (addList l v) ∧ Below w.heap.size w w' := by
  have B0 : Below w.heap.size w (w.alloc (vblk v.s v.t v.r)) := (Below.refl _ _).alloc (Nat.le_refl _) _
  have K0 : Blk (w.alloc (vblk v.s v.t v.r)) w.heap.size 24 #[Value.int IntKind.i64 v.s, Value.int IntKind.i64 v.t, Value.int IntKind.i64 v.r] := Blk.new _ _ _
  obtain ⟨i0, hi0, hz0, hz1, hz2⟩ := info_parts ver_info
  have hl := hr.len
  cases hch : checkV l
  · have HA := hide (show addCode l v = 2 by unfold addCode; rw [if_pos (.inl hch)])
    have HCH := hide hch
    clear hch
    go_enter Try.func17, Try.ntmps17
    go_wp2_with fail
    refine (rcheck_b l A n c _ (hr.later B0) (by omega) HCH.out).mono ?_
    rintro e w1 ⟨rfl, hb⟩
    have HB1 := hide (B0.trans (hb.mono B0.size))
    clear hb
    go_wp2
    go_ret2
    exact ⟨none, 0, 0, by rw [HA.out]; rfl, Nat.le_refl _, by unfold addList; rw [HA.out]; exact Sl.nil _, HB1.out⟩
  · have HCH := hide hch
    clear hch
    cases hsv : soundV v
    · have HA := hide (show addCode l v = 2 by unfold addCode; rw [if_pos (.inr hsv)])
      have HSV := hide hsv
      clear hsv
      go_enter Try.func17, Try.ntmps17
      go_wp2_with fail
      refine (rcheck_b l A n c _ (hr.later B0) (by omega) HCH.out).mono ?_
      rintro e w1 ⟨rfl, hb⟩
      have HB1 := hide (B0.trans (hb.mono B0.size))
      have K1 := K0.below hb K0.lt
      have kc1 := K1.cell
      clear hb
      go_wp2_with fail
      refine (okV_any v _).mono ?_
      rintro e w2 ⟨rfl, hb⟩
      rw [HSV.out]
      have HB2 := hide (HB1.out.trans (hb.mono HB1.out.size))
      clear hb kc1
      go_wp2
      go_ret2
      exact ⟨none, 0, 0, by rw [HA.out]; rfl, Nat.le_refl _, by unfold addList; rw [HA.out]; exact Sl.nil _, HB2.out⟩
    · have HSV := hide hsv
      clear hsv
      go_enter Try.func17, Try.ntmps17
      go_wp2_with fail
      refine (rcheck_b l A n c _ (hr.later B0) (by omega) HCH.out).mono ?_
      rintro e w1 ⟨rfl, hb⟩
      have HB1 := hide (B0.trans (hb.mono B0.size))
      have HK1 := hide (K0.below hb K0.lt)
      have kc1 := HK1.out.cell
      clear hb K0 B0
      go_wp2_with fail
      refine (okV_any v _).mono ?_
      rintro e w2 ⟨rfl, hb⟩
      rw [HSV.out]
      have HB2 := hide (HB1.out.trans (hb.mono HB1.out.size))
      have HK2 := hide (HK1.out.below hb HK1.out.lt)
      have kc2 := HK2.out.cell
      have kz2 := HK2.out.lt
      clear hb kc1
      rcases Nat.eq_zero_or_pos n with hn0 | hn0
      · have hn1 : decide (0 < n) = false := by simp; omega
        have hd3 : decide ((64 : Int) ≤ (n : Int)) = false := by simp; omega
        have HA := hide (show addCode l v = 0 by
          unfold addCode
          rw [if_neg (by rw [HCH.out, HSV.out]; simp), dif_neg (by omega)])
        clear hn0
        go_wp2
        refine wp_region_later (by kernel_rfl) (by kernel_rfl) ?_
        repeat (first | go_big_quiet_step (fail) | quiet_step (fail))
        refine wpQuiet_nil ?_; intro _ hw'; obtain ⟨L1, hLw⟩ := hw'; subst hLw
        go_wp2
        refine wp_region_later (by kernel_rfl) (by kernel_rfl) ?_
        repeat (first | go_big_quiet_step (fail) | quiet_step (fail))
        refine wpQuiet_nil ?_; intro _ hw'; obtain ⟨L2, hLw⟩ := hw'; subst hLw
        go_wp2
        have HBW := hide (HB2.out.trans ((L1.h.trans (L2.h.mono L1.h.size)).mono HB2.out.size))
        have HKW := hide ((HK2.out.below L1.h kz2).below L2.h (Nat.lt_of_lt_of_le kz2 L1.h.size))
        generalize L2.v = W3 at *
        have kzW := HKW.out.lt
        clear kc2 kz2 hn1 hd3
        refine wp_region_inv (by kernel_rfl) (by kernel_rfl) (RAddInv A n c l v W3 w.heap.size) ?_ ?_ ?_
        · exact ⟨rfl, rfl, rfl, rfl, (Below.refl _ _).drew, by simp, by simp, by simp, by simp, by simp, by simp, by simp, by simp, by simp⟩
        · refine ⟨?_, ?_, ?_, ?_, ?_, ?_, ?_, ?_, trivial⟩
          · intro D a w4 hI hD hdep K hK
            rw [if_pos (by simp [Region.wanted])]
            go_simp
            refine hK (a.put (some 45) _) _ (hI.kept ((Below.refl _ _).alloc (Nat.le_refl _) _) 0 45 _ (by simp) hD (fun _ => ⟨_, rfl, World.ownsRow_made w4 #[] 0 hI.hb.size (Nat.zero_le _) rfl⟩) ?_ ?_ ?_ ?_ ?_ ?_) <;> simp
          · intro D a w4 hI hD hdep K hK
            rw [if_pos (by simp [Region.wanted])]
            refine op_move _ rfl (hK _ _ (hI.kept (Below.refl _ _) 1 46 _ (by simp) hD ?_ (fun _ => hI.e0) ?_ ?_ ?_ ?_ ?_)) <;> simp
          · intro D a w4 hI hD hdep K hK
            rw [if_pos (by simp [Region.wanted])]
            have d0 := hdep ⟨0, .data⟩ (by simp) rfl
            have d1 := hdep ⟨1, .data⟩ (by simp) rfl
            have h5 : D 5 = false := by
              cases h : D 5
              · rfl
              · rw [(hI.i5 h).1] at hD; cases hD
            obtain ⟨g, h1, h2⟩ := hI.i0 d0 h5
            refine wp_append_empty w4 (.tmp 45) (.tmp 46) _ rfl W3.heap.size 24 i0 _ 3 24 Try.underlying22 hi0 hz0 hz1 hz2 rfl (by omega) g h1 h2 w4.heap.size A n c (l.flatMap Ver.enc) (hI.i1 d1) (hr.later (HBW.out.trans (hI.hb.mono HBW.out.size))).2 (ver_one l) (by unfold maxLen; omega) (by omega) hI.hb.size ?_
            intro x w5 hx hb
            refine hK _ _ (hI.kept hb 2 47 _ (by simp) hD ?_ ?_ (fun _ => ⟨d0, hx⟩) ?_ ?_ ?_ ?_) <;> simp
          · intro D a w4 hI hD hdep K hK
            rw [if_pos (by simp [Region.wanted])]
            have e3 := hI.e3
            simp [Act.eval] at e3
            have kc3 := (HKW.out.below hI.hb kzW).cell
            go_simp
            refine hK (a.put (some 48) _) _ (hI.kept (Below.refl _ _) 3 48 _ (by simp) hD ?_ ?_ ?_ (fun _ => rfl) ?_ ?_ ?_) <;> simp
          · intro D a w4 hI hD hdep K hK
            rw [if_pos (by simp [Region.wanted])]
            have d3 := hdep ⟨3, .data⟩ (by simp) rfl
            have e48 := hI.i3 d3
            simp [Act.eval] at e48
            go_simp
            refine hK (a.put (some 49) _) _ (hI.kept ((Below.refl _ _).alloc (Nat.le_refl _) _) 4 49 _ (by simp) hD ?_ ?_ ?_ ?_ (fun _ => ⟨_, rfl, ?_⟩) ?_ ?_) <;> (try simp; done)
            have := (Sl.of_blk (k := 3) (enc := Ver.enc) (l := [v]) (n := 1) (Blk.new w4 24 #[Value.int IntKind.i64 v.s, Value.int IntKind.i64 v.t, Value.int IntKind.i64 v.r]) rfl rfl rfl).2
            simpa using this
          · intro D a w4 hI hD hdep K hK
            rw [if_pos (by simp [Region.wanted])]
            have d2 := hdep ⟨2, .data⟩ (by simp) rfl
            have d4 := hdep ⟨4, .data⟩ (by simp) rfl
            have h1 := hI.i2 d2 hD
            obtain ⟨g, h2, h3⟩ := hI.i4 d4 hD
            refine wp_append_any w4 (.tmp 47) (.tmp 49) _ rfl W3.heap.size 24 i0 _ 3 24 Try.underlying22 hi0 hz0 hz1 hz2 rfl (by omega) _ n _ rfl h1 w4.heap.size (some ⟨g, 0, none⟩) 1 1 v.enc h2 h3 (by simpa using ver_one [v]) (by unfold maxLen; omega) (by omega) hI.hb.size ?_
            intro v' w5 hown hg _
            refine hK _ _ ?_
            obtain ⟨sz, df, e0, e3, hbW, i0, i1, i2, i3, i4, i5, i6, i7, k2⟩ := hI
            refine ⟨by rw [act_size]; exact sz, by rw [act_defers]; exact df, by rw [act_ne (by decide)]; exact e0, by rw [act_ne (by decide)]; exact e3, hbW.grown hg hbW.size (own_block h1), ?_, ?_, ?_, ?_, ?_, ?_, ?_, ?_, ?_⟩
            · simp [seen]
            · simpa [seen, act_ne] using i1
            · simp [seen]
            · simpa [seen, act_ne] using i3
            · simp [seen]
            · intro _
              refine ⟨by simp [seen, d2], by simp [seen, d4], by simp [seen, k2 d2], ?_⟩
              rw [act_same (by omega), List.flatMap_append]; simpa using hown
            · intro hs
              have hs' : D 6 = true := by simpa [seen] using hs
              rw [(i6 hs').1] at hD; cases hD
            · simpa [seen, act_ne] using i7
            · intro _; simp [seen, k2 d2]
          · intro D a w4 hI hD hdep K hK
            rw [if_pos (by simp [Region.wanted])]
            have d5 := hdep ⟨5, .data⟩ (by simp) rfl
            refine op_assign _ rfl (hK _ _ (hI.kept (Below.refl _ _) 6 4 _ (by simp) hD ?_ ?_ ?_ ?_ ?_ (fun _ => ⟨d5, rfl⟩) ?_)) <;> simp
          · intro D a w4 hI hD hdep K hK
            rw [if_pos (by simp [Region.wanted])]
            refine op_assign _ rfl (hK _ _ (hI.kept (Below.refl _ _) 7 5 _ (by simp) hD ?_ ?_ ?_ ?_ ?_ ?_ (fun _ => rfl))) <;> simp
        · intro D a w4 hI hall
          obtain ⟨_, _, _, h4⟩ := hI.i5 (hall 5 (by simp))
          have h5 := (hI.i6 (hall 6 (by simp))).2
          have h6 := hI.i7 (hall 7 (by simp))
          have hdf := hI.df
          go_wp2
          refine bodyPost_ret (results_tmp2 rfl _ _ _) hdf ?_
          obtain ⟨A', c', hv, hc, _, hs⟩ := Sl.of_owns (n := n + 1) (l := l ++ [v]) (enc := Ver.enc) h4 rfl (by simp [hl]) rfl
          refine ⟨A', n + 1, c', ?_, hc, ?_, HBW.out.trans (hI.hb.mono HBW.out.size)⟩
          · show Ending.returned (.tuple #[a.eval (.tmp 4), a.eval (.tmp 5)]) = _
            rw [h5, h6, hv, HA.out]
          · unfold addList; rw [HA.out]; exact hs
      · obtain ⟨q, hq⟩ : ∃ q, q = n - 1 := ⟨_, rfl⟩
        have ei : ((n : Int) - 1).toNat = q := by omega
        have q1 : (1 : Int) ≤ n := by omega
        have q2 : (n : Int) - 1 < n := by omega
        obtain ⟨bb, o, rfl, hbl, hc⟩ := VR.at (hr.below HB2.out) (by omega)
        have hql : q < l.length := by omega
        obtain ⟨c0, c1, c2⟩ := hc q hql
        have hqe : ∀ (h : l.length - 1 < l.length), l[l.length - 1] = l[q] := fun h => by congr 1; omega
        have hbl2 : bb < w2.heap.size := by have := HB2.out.size; omega
        have hne : bb ≠ w.heap.size := by omega
        have HAD := hide (show addCode l v = (if v.t < l[q].t then 20 else if v.s ≤ l[q].s then 6 else if 64 ≤ n then 12 else 0) by
          unfold addCode
          rw [if_neg (by rw [HCH.out, HSV.out]; simp), dif_pos (by omega), hqe, hl])
        have HC := hide (⟨c0, c1, c2⟩ : _ ∧ _ ∧ _)
        clear hc hqe hq c0 c1 c2
        have hn1 : decide (0 < n) = true := by simp; omega
        clear hn0
        by_cases ht : v.t < l[q].t
        · have hd1 : decide (v.t < l[q].t) = true := by simp [ht]
          have HA := hide (show addCode l v = 20 by rw [HAD.out, if_pos ht])
          obtain ⟨c0, c1, c2⟩ := HC.out
          clear ht HC
          go_wp2
          refine wp_region_later (by kernel_rfl) (by kernel_rfl) ?_
          repeat (first | go_big_quiet_step (fail) | quiet_step (fail))
          refine wpQuiet_nil ?_; intro _ hw'; obtain ⟨L1, hLw⟩ := hw'; subst hLw
          go_wp2
          go_ret2
          exact ⟨none, 0, 0, by rw [HA.out]; rfl, Nat.le_refl _, by unfold addList; rw [HA.out]; exact Sl.nil _, HB2.out.trans (L1.h.mono HB2.out.size)⟩
        · have hd1 : decide (v.t < l[q].t) = false := by simp; omega
          by_cases hs : v.s ≤ l[q].s
          · have hd2 : decide (v.s ≤ l[q].s) = true := by simp [hs]
            have HA := hide (show addCode l v = 6 by rw [HAD.out, if_neg ht, if_pos hs])
            obtain ⟨c0, c1, c2⟩ := HC.out
            clear ht hs HC
            go_wp2
            refine wp_region_later (by kernel_rfl) (by kernel_rfl) ?_
            repeat (first | go_big_quiet_step (fail) | quiet_step (fail))
            refine wpQuiet_nil ?_; intro _ hw'; obtain ⟨L1, hLw⟩ := hw'; subst hLw
            have e0 := (L1.h.cell (p := ⟨bb, o + q * 3, none⟩) hbl2).trans c0
            have hbl3 : bb < L1.v.heap.size := Nat.lt_of_lt_of_le hbl2 L1.h.size
            have kz3 := Nat.lt_of_lt_of_le kz2 L1.h.size
            have kc3 := (HK2.out.below L1.h kz2).cell
            go_wp2
            refine wp_region_later (by kernel_rfl) (by kernel_rfl) ?_
            repeat (first | go_big_quiet_step (fail) | quiet_step (fail))
            refine wpQuiet_nil ?_; intro _ hw'; obtain ⟨L2, hLw⟩ := hw'; subst hLw
            go_wp2
            go_ret2
            exact ⟨none, 0, 0, by rw [HA.out]; rfl, Nat.le_refl _, by unfold addList; rw [HA.out]; exact Sl.nil _, HB2.out.trans ((L1.h.trans (L2.h.mono L1.h.size)).mono HB2.out.size)⟩
          · have hd2 : decide (v.s ≤ l[q].s) = false := by simp; omega
            by_cases h64 : 64 ≤ n
            · have hd3 : decide ((64 : Int) ≤ (n : Int)) = true := by simp; omega
              have HA := hide (show addCode l v = 12 by rw [HAD.out, if_neg ht, if_neg hs, if_pos h64])
              obtain ⟨c0, c1, c2⟩ := HC.out
              clear ht hs h64 HC
              go_wp2
              refine wp_region_later (by kernel_rfl) (by kernel_rfl) ?_
              repeat (first | go_big_quiet_step (fail) | quiet_step (fail))
              refine wpQuiet_nil ?_; intro _ hw'; obtain ⟨L1, hLw⟩ := hw'; subst hLw
              have e0 := (L1.h.cell (p := ⟨bb, o + q * 3, none⟩) hbl2).trans c0
              have hbl3 : bb < L1.v.heap.size := Nat.lt_of_lt_of_le hbl2 L1.h.size
              have kz3 := Nat.lt_of_lt_of_le kz2 L1.h.size
              have kc3 := (HK2.out.below L1.h kz2).cell
              go_wp2
              refine wp_region_later (by kernel_rfl) (by kernel_rfl) ?_
              repeat (first | go_big_quiet_step (fail) | quiet_step (fail))
              refine wpQuiet_nil ?_; intro _ hw'; obtain ⟨L2, hLw⟩ := hw'; subst hLw
              go_wp2
              go_ret2
              exact ⟨none, 0, 0, by rw [HA.out]; rfl, Nat.le_refl _, by unfold addList; rw [HA.out]; exact Sl.nil _, HB2.out.trans ((L1.h.trans (L2.h.mono L1.h.size)).mono HB2.out.size)⟩
            · have hd3 : decide ((64 : Int) ≤ (n : Int)) = false := by simp; omega
              have HA := hide (show addCode l v = 0 by rw [HAD.out, if_neg ht, if_neg hs, if_neg h64])
              obtain ⟨c0, c1, c2⟩ := HC.out
              clear ht hs h64 HC
              go_wp2
              refine wp_region_later (by kernel_rfl) (by kernel_rfl) ?_
              repeat (first | go_big_quiet_step (fail) | quiet_step (fail))
              refine wpQuiet_nil ?_; intro _ hw'; obtain ⟨L1, hLw⟩ := hw'; subst hLw
              have e0 := (L1.h.cell (p := ⟨bb, o + q * 3, none⟩) hbl2).trans c0
              have hbl3 : bb < L1.v.heap.size := Nat.lt_of_lt_of_le hbl2 L1.h.size
              have kz3 := Nat.lt_of_lt_of_le kz2 L1.h.size
              have kc3 := (HK2.out.below L1.h kz2).cell
              go_wp2
              refine wp_region_later (by kernel_rfl) (by kernel_rfl) ?_
              repeat (first | go_big_quiet_step (fail) | quiet_step (fail))
              refine wpQuiet_nil ?_; intro _ hw'; obtain ⟨L2, hLw⟩ := hw'; subst hLw
              clear e0 c0 c1 c2 kc3 kz3 hbl3
              go_wp2
              have HBW := hide (HB2.out.trans ((L1.h.trans (L2.h.mono L1.h.size)).mono HB2.out.size))
              have HKW := hide ((HK2.out.below L1.h kz2).below L2.h (Nat.lt_of_lt_of_le kz2 L1.h.size))
              generalize L2.v = W3 at *
              have kzW := HKW.out.lt
              clear kc2 kz2 hn1 hd1 hd2 hd3
              refine wp_region_inv (by kernel_rfl) (by kernel_rfl) (RAddInv (some ⟨bb, o, none⟩) n c l v W3 w.heap.size) ?_ ?_ ?_
              · exact ⟨rfl, rfl, rfl, rfl, (Below.refl _ _).drew, by simp, by simp, by simp, by simp, by simp, by simp, by simp, by simp, by simp⟩
              · refine ⟨?_, ?_, ?_, ?_, ?_, ?_, ?_, ?_, trivial⟩
                · intro D a w4 hI hD hdep K hK
                  rw [if_pos (by simp [Region.wanted])]
                  go_simp
                  refine hK (a.put (some 45) _) _ (hI.kept ((Below.refl _ _).alloc (Nat.le_refl _) _) 0 45 _ (by simp) hD (fun _ => ⟨_, rfl, World.ownsRow_made w4 #[] 0 hI.hb.size (Nat.zero_le _) rfl⟩) ?_ ?_ ?_ ?_ ?_ ?_) <;> simp
                · intro D a w4 hI hD hdep K hK
                  rw [if_pos (by simp [Region.wanted])]
                  refine op_move _ rfl (hK _ _ (hI.kept (Below.refl _ _) 1 46 _ (by simp) hD ?_ (fun _ => hI.e0) ?_ ?_ ?_ ?_ ?_)) <;> simp
                · intro D a w4 hI hD hdep K hK
                  rw [if_pos (by simp [Region.wanted])]
                  have d0 := hdep ⟨0, .data⟩ (by simp) rfl
                  have d1 := hdep ⟨1, .data⟩ (by simp) rfl
                  have h5 : D 5 = false := by
                    cases h : D 5
                    · rfl
                    · rw [(hI.i5 h).1] at hD; cases hD
                  obtain ⟨g, h1, h2⟩ := hI.i0 d0 h5
                  refine wp_append_empty w4 (.tmp 45) (.tmp 46) _ rfl W3.heap.size 24 i0 _ 3 24 Try.underlying22 hi0 hz0 hz1 hz2 rfl (by omega) g h1 h2 w4.heap.size (some ⟨bb, o, none⟩) n c (l.flatMap Ver.enc) (hI.i1 d1) (hr.later (HBW.out.trans (hI.hb.mono HBW.out.size))).2 (ver_one l) (by unfold maxLen; omega) (by omega) hI.hb.size ?_
                  intro x w5 hx hb
                  refine hK _ _ (hI.kept hb 2 47 _ (by simp) hD ?_ ?_ (fun _ => ⟨d0, hx⟩) ?_ ?_ ?_ ?_) <;> simp
                · intro D a w4 hI hD hdep K hK
                  rw [if_pos (by simp [Region.wanted])]
                  have e3 := hI.e3
                  simp [Act.eval] at e3
                  have kc3 := (HKW.out.below hI.hb kzW).cell
                  go_simp
                  refine hK (a.put (some 48) _) _ (hI.kept (Below.refl _ _) 3 48 _ (by simp) hD ?_ ?_ ?_ (fun _ => rfl) ?_ ?_ ?_) <;> simp
                · intro D a w4 hI hD hdep K hK
                  rw [if_pos (by simp [Region.wanted])]
                  have d3 := hdep ⟨3, .data⟩ (by simp) rfl
                  have e48 := hI.i3 d3
                  simp [Act.eval] at e48
                  go_simp
                  refine hK (a.put (some 49) _) _ (hI.kept ((Below.refl _ _).alloc (Nat.le_refl _) _) 4 49 _ (by simp) hD ?_ ?_ ?_ ?_ (fun _ => ⟨_, rfl, ?_⟩) ?_ ?_) <;> (try simp; done)
                  have := (Sl.of_blk (k := 3) (enc := Ver.enc) (l := [v]) (n := 1) (Blk.new w4 24 #[Value.int IntKind.i64 v.s, Value.int IntKind.i64 v.t, Value.int IntKind.i64 v.r]) rfl rfl rfl).2
                  simpa using this
                · intro D a w4 hI hD hdep K hK
                  rw [if_pos (by simp [Region.wanted])]
                  have d2 := hdep ⟨2, .data⟩ (by simp) rfl
                  have d4 := hdep ⟨4, .data⟩ (by simp) rfl
                  have h1 := hI.i2 d2 hD
                  obtain ⟨g, h2, h3⟩ := hI.i4 d4 hD
                  refine wp_append_any w4 (.tmp 47) (.tmp 49) _ rfl W3.heap.size 24 i0 _ 3 24 Try.underlying22 hi0 hz0 hz1 hz2 rfl (by omega) _ n _ rfl h1 w4.heap.size (some ⟨g, 0, none⟩) 1 1 v.enc h2 h3 (by simpa using ver_one [v]) (by unfold maxLen; omega) (by omega) hI.hb.size ?_
                  intro v' w5 hown hg _
                  refine hK _ _ ?_
                  obtain ⟨sz, df, e0, e3, hbW, i0, i1, i2, i3, i4, i5, i6, i7, k2⟩ := hI
                  refine ⟨by rw [act_size]; exact sz, by rw [act_defers]; exact df, by rw [act_ne (by decide)]; exact e0, by rw [act_ne (by decide)]; exact e3, hbW.grown hg hbW.size (own_block h1), ?_, ?_, ?_, ?_, ?_, ?_, ?_, ?_, ?_⟩
                  · simp [seen]
                  · simpa [seen, act_ne] using i1
                  · simp [seen]
                  · simpa [seen, act_ne] using i3
                  · simp [seen]
                  · intro _
                    refine ⟨by simp [seen, d2], by simp [seen, d4], by simp [seen, k2 d2], ?_⟩
                    rw [act_same (by omega), List.flatMap_append]; simpa using hown
                  · intro hs
                    have hs' : D 6 = true := by simpa [seen] using hs
                    rw [(i6 hs').1] at hD; cases hD
                  · simpa [seen, act_ne] using i7
                  · intro _; simp [seen, k2 d2]
                · intro D a w4 hI hD hdep K hK
                  rw [if_pos (by simp [Region.wanted])]
                  have d5 := hdep ⟨5, .data⟩ (by simp) rfl
                  refine op_assign _ rfl (hK _ _ (hI.kept (Below.refl _ _) 6 4 _ (by simp) hD ?_ ?_ ?_ ?_ ?_ (fun _ => ⟨d5, rfl⟩) ?_)) <;> simp
                · intro D a w4 hI hD hdep K hK
                  rw [if_pos (by simp [Region.wanted])]
                  refine op_assign _ rfl (hK _ _ (hI.kept (Below.refl _ _) 7 5 _ (by simp) hD ?_ ?_ ?_ ?_ ?_ ?_ (fun _ => rfl))) <;> simp
              · intro D a w4 hI hall
                obtain ⟨_, _, _, h4⟩ := hI.i5 (hall 5 (by simp))
                have h5 := (hI.i6 (hall 6 (by simp))).2
                have h6 := hI.i7 (hall 7 (by simp))
                have hdf := hI.df
                go_wp2
                refine bodyPost_ret (results_tmp2 rfl _ _ _) hdf ?_
                obtain ⟨A', c', hv, hc, _, hs⟩ := Sl.of_owns (n := n + 1) (l := l ++ [v]) (enc := Ver.enc) h4 rfl (by simp [hl]) rfl
                refine ⟨A', n + 1, c', ?_, hc, ?_, HBW.out.trans (hI.hb.mono HBW.out.size)⟩
                · show Ending.returned (.tuple #[a.eval (.tmp 4), a.eval (.tmp 5)]) = _
                  rw [h5, h6, hv, HA.out]
                · unfold addList; rw [HA.out]; exact hs
end Go.Proofs.Ytldlaojcbgckjaa
