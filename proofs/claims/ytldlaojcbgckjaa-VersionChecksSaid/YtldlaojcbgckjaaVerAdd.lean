/- Versions: Add and the reference's Add. -/
import Derived.Test.YtldlaojcbgckjaaVerOrder
import Derived.Test.YtldlaojcbgckjaaRegion
namespace Go.Proofs.Ytldlaojcbgckjaa
set_option linter.unusedSimpArgs false
set_option linter.unusedVariables false
open Go.RowKit
/-- What comes of a version more: an error's number, or 0. -/
def addCode (l : List Ver) (v : Ver) : Int :=
  if checkV l = false ∨ soundV v = false then 2
  else if h : 0 < l.length then
    (if v.t < (l[l.length - 1]'(by omega)).t then 20 else if v.s ≤ (l[l.length - 1]'(by omega)).s then 6 else if 64 ≤ l.length then 12 else 0)
  else 0
def addList (l : List Ver) (v : Ver) : List Ver := if addCode l v = 0 then l ++ [v] else []

/-- The last statement's state, in whatever order its operations come up. -/
structure AddInv (A : Option Addr) (n c : Nat) (l : List Ver) (v : Ver) (W : World) (g0 : Nat) (D : Nat → Bool) (a : Act) (w : World) : Prop where
  sz : a.tmps.size = 45
  df : a.defers = []
  e0 : a.eval (.tmp 0) = .slice A n c
  e3 : a.eval (.tmp 3) = .pointer (some ⟨g0, 0, none⟩)
  hb : Below W.heap.size W w
  i0 : D 0 = true → a.eval (.tmp 40) = .slice A n c
  i1 : D 1 = true → D 4 = false → w.ownsRow W.heap.size 24 3 (a.eval (.tmp 41)) n (l.flatMap Ver.enc)
  i2 : D 2 = true → a.eval (.tmp 42) = .agg #[.int .i64 v.s, .int .i64 v.t, .int .i64 v.r]
  i3 : D 3 = true → D 4 = false → ∃ g, a.eval (.tmp 43) = .slice (some ⟨g, 0, none⟩) 1 1 ∧ Reads w w.heap.size 3 (some ⟨g, 0, none⟩) 1 v.enc
  i4 : D 4 = true → w.ownsRow W.heap.size 24 3 (a.eval (.tmp 44)) (n + 1) ((l ++ [v]).flatMap Ver.enc)
  i5 : D 5 = true → D 4 = true ∧ a.eval (.tmp 4) = a.eval (.tmp 44)
  i6 : D 6 = true → a.eval (.tmp 5) = .int .i64 0

theorem AddInv.kept {A : Option Addr} {n c : Nat} {l : List Ver} {v : Ver} {W : World} {g0 : Nat} {D : Nat → Bool} {a : Act} {w w' : World} (h : AddInv A n c l v W g0 D a w) (hb : Below w.heap.size w w') (i d : Nat) (x : Value)
    (hd0 : d ≠ 0) (hd3 : d ≠ 3)
    (f0 : (i = 0 → x = .slice A n c) ∧ (i ≠ 0 → d ≠ 40)) (f1 : (i = 1 → w'.ownsRow W.heap.size 24 3 x n (l.flatMap Ver.enc)) ∧ (i ≠ 1 → d ≠ 41)) (f2 : (i = 2 → x = .agg #[.int .i64 v.s, .int .i64 v.t, .int .i64 v.r]) ∧ (i ≠ 2 → d ≠ 42))
    (f3 : (i = 3 → ∃ g, x = .slice (some ⟨g, 0, none⟩) 1 1 ∧ Reads w' w'.heap.size 3 (some ⟨g, 0, none⟩) 1 v.enc) ∧ (i ≠ 3 → d ≠ 43)) (f4 : i ≠ 4 ∧ d ≠ 44) (f5 : (i = 5 → D 4 = true ∧ x = a.eval (.tmp 44)) ∧ (i ≠ 5 → d ≠ 4)) (f6 : (i = 6 → x = .int .i64 0) ∧ (i ≠ 6 → d ≠ 5))
    (hi : (i = 0 ∧ d = 40) ∨ (i = 1 ∧ d = 41) ∨ (i = 2 ∧ d = 42) ∨ (i = 3 ∧ d = 43) ∨ (i = 5 ∧ d = 4) ∨ (i = 6 ∧ d = 5)) : AddInv A n c l v W g0 (seen D i) (a.put (some d) x) w' := by
  obtain ⟨sz, df, e0, e3, hbW, i0, i1, i2, i3, i4, i5, i6⟩ := h
  have hdl : d < a.tmps.size := by rw [sz]; omega
  refine ⟨by rw [act_size]; exact sz, by rw [act_defers]; exact df, by rw [act_ne (Ne.symm hd0)]; exact e0, by rw [act_ne (Ne.symm hd3)]; exact e3, hbW.trans (hb.mono hbW.size), ?_, ?_, ?_, ?_, ?_, ?_, ?_⟩
  · intro hs
    by_cases he : i = 0
    · obtain rfl : d = 40 := by omega
      rw [act_same hdl]; exact f0.1 he
    · rw [act_ne (Ne.symm (f0.2 he))]; exact i0 (by simpa [seen, Ne.symm he] using hs)
  · intro hs h4
    have h4' : D 4 = false := by simp [seen] at h4; exact h4.2
    by_cases he : i = 1
    · obtain rfl : d = 41 := by omega
      rw [act_same hdl]; exact f1.1 he
    · rw [act_ne (Ne.symm (f1.2 he))]; exact own_later (i1 (by simpa [seen, Ne.symm he] using hs) h4') hb
  · intro hs
    by_cases he : i = 2
    · obtain rfl : d = 42 := by omega
      rw [act_same hdl]; exact f2.1 he
    · rw [act_ne (Ne.symm (f2.2 he))]; exact i2 (by simpa [seen, Ne.symm he] using hs)
  · intro hs h4
    have h4' : D 4 = false := by simp [seen] at h4; exact h4.2
    by_cases he : i = 3
    · obtain rfl : d = 43 := by omega
      rw [act_same hdl]; exact f3.1 he
    · rw [act_ne (Ne.symm (f3.2 he))]
      obtain ⟨g, h1, h2⟩ := i3 (by simpa [seen, Ne.symm he] using hs) h4'
      exact ⟨g, h1, (h2.below hb).more hb.size⟩
  · intro hs
    rw [act_ne (Ne.symm f4.2)]
    exact own_later (i4 (by simpa [seen, Ne.symm f4.1] using hs)) hb
  · intro hs
    rw [act_ne (e := 44) (Ne.symm f4.2)]
    by_cases he : i = 5
    · obtain rfl : d = 4 := by omega
      rw [act_same hdl]; exact ⟨by simp [seen, (f5.1 he).1], (f5.1 he).2⟩
    · rw [act_ne (Ne.symm (f5.2 he))]
      have := i5 (by simpa [seen, Ne.symm he] using hs)
      exact ⟨by simp [seen, this.1], this.2⟩
  · intro hs
    by_cases he : i = 6
    · obtain rfl : d = 5 := by omega
      rw [act_same hdl]; exact f6.1 he
    · rw [act_ne (Ne.symm (f6.2 he))]; exact i6 (by simpa [seen, Ne.symm he] using hs)
set_option maxRecDepth 100000 in
set_option maxHeartbeats 2000000 in
theorem add_any (l : List Ver) (v : Ver) (A : Option Addr) (n c : Nat) (w : World) (hr : VR w w.heap.size A n l) (hn : n * 24 ≤ 140737488351232) :
    Calls Try.prog 16 #[.slice A n c, .agg #[.int .i64 v.s, .int .i64 v.t, .int .i64 v.r]] w fun e w' => ∃ A' m c', e = .returned (.tuple #[.slice A' m c', .int .i64 (addCode l v)]) ∧ m ≤ c' ∧ VR w' w'.heap.size A' m (addList l v) ∧ Below w.heap.size w w' := by
  have B0 : Below w.heap.size w (w.alloc (vblk v.s v.t v.r)) := (Below.refl _ _).alloc (Nat.le_refl _) _
  have K0 : Blk (w.alloc (vblk v.s v.t v.r)) w.heap.size 24 #[Value.int IntKind.i64 v.s, Value.int IntKind.i64 v.t, Value.int IntKind.i64 v.r] := Blk.new _ _ _
  obtain ⟨i0, hi0, hz0, hz1, hz2⟩ := info_parts ver_info
  have hl := hr.len
  cases hch : checkV l
  · have hk : chkRes l = 2 := by unfold chkRes; rw [hch]; rfl
    have HA := hide (show addCode l v = 2 by unfold addCode; rw [if_pos (.inl hch)])
    clear hch
    go_enter Try.func16, Try.ntmps16
    go_wp2_with fail
    refine (check_any l A n c _ (hr.later B0) (by omega)).mono ?_
    rintro e w1 ⟨rfl, hb⟩
    have HB1 := hide (B0.trans (hb.mono B0.size))
    clear hb
    go_wp2
    go_ret2
    exact ⟨none, 0, 0, by rw [HA.out]; rfl, Nat.le_refl _, by unfold addList; rw [HA.out]; exact Sl.nil _, HB1.out⟩
  · have hk : chkRes l = 0 := by unfold chkRes; rw [hch]; rfl
    have HCH := hide hch
    clear hch
    cases hsv : soundV v
    · have HA := hide (show addCode l v = 2 by unfold addCode; rw [if_pos (.inr hsv)])
      have HSV := hide hsv
      clear hsv
      go_enter Try.func16, Try.ntmps16
      go_wp2_with fail
      refine (check_any l A n c _ (hr.later B0) (by omega)).mono ?_
      rintro e w1 ⟨rfl, hb⟩
      have HB1 := hide (B0.trans (hb.mono B0.size))
      have K1 := K0.below hb K0.lt
      have kc1 := K1.cell
      clear hb
      go_wp2_with fail
      refine (sound_later v _).mono ?_
      rintro e w2 ⟨rfl, hb⟩
      rw [HSV.out]
      have HB2 := hide (HB1.out.trans (hb.mono HB1.out.size))
      clear hb kc1
      go_wp2
      go_ret2
      exact ⟨none, 0, 0, by rw [HA.out]; rfl, Nat.le_refl _, by unfold addList; rw [HA.out]; exact Sl.nil _, HB2.out⟩
    · have HSV := hide hsv
      clear hsv
      go_enter Try.func16, Try.ntmps16
      go_wp2_with fail
      refine (check_any l A n c _ (hr.later B0) (by omega)).mono ?_
      rintro e w1 ⟨rfl, hb⟩
      have HB1 := hide (B0.trans (hb.mono B0.size))
      have HK1 := hide (K0.below hb K0.lt)
      have kc1 := HK1.out.cell
      clear hb K0 B0
      go_wp2_with fail
      refine (sound_later v _).mono ?_
      rintro e w2 ⟨rfl, hb⟩
      rw [HSV.out]
      have HB2 := hide (HB1.out.trans (hb.mono HB1.out.size))
      have HK2 := hide (HK1.out.below hb HK1.out.lt)
      have kc2 := HK2.out.cell
      have kz2 := HK2.out.lt
      clear hb kc1
      rcases Nat.eq_zero_or_pos n with hn0 | hn0
      · have hn1 : decide (0 < n) = false := by simp; omega
        have HA := hide (show addCode l v = 0 by
          unfold addCode
          rw [if_neg (by rw [HCH.out, HSV.out]; simp), dif_neg (by omega)])
        clear hn0
        go_wp2
        refine wp_region_inv (by kernel_rfl) (by kernel_rfl) (AddInv A n c l v w2 w.heap.size) ?_ ?_ ?_
        · exact ⟨rfl, rfl, rfl, rfl, (Below.refl _ _).drew, by simp, by simp, by simp, by simp, by simp, by simp, by simp⟩
        · refine ⟨?_, ?_, ?_, ?_, ?_, ?_, ?_, trivial⟩
          · intro D a w3 hI hD hdep K hK
            rw [if_pos (by simp [Region.wanted])]
            refine op_move _ rfl (hK _ _ (hI.kept (Below.refl _ _) 0 40 _ ?_ ?_ ?_ ?_ ?_ ?_ ?_ ?_ ?_ ?_)) <;> simp
            exact hI.e0
          · intro D a w3 hI hD hdep K hK
            rw [if_pos (by simp [Region.wanted])]
            have d0 := hdep ⟨0, .data⟩ (by simp) rfl
            have e40 := hI.i0 d0
            simp [Act.eval] at e40
            go_simp
            refine (clone_row l A n c w3 (hr.later (HB2.out.trans (hI.hb.mono HB2.out.size))) hn).mono ?_
            rintro e w4 ⟨x, rfl, hx, hb⟩
            refine hK (a.put (some 41) x) w4 (hI.kept hb 1 41 _ ?_ ?_ ?_ ?_ ?_ ?_ ?_ ?_ ?_ ?_) <;> simp
            exact own_base hx hI.hb.size
          · intro D a w3 hI hD hdep K hK
            rw [if_pos (by simp [Region.wanted])]
            have e3 := hI.e3
            simp [Act.eval] at e3
            have kc3 := (HK2.out.below hI.hb kz2).cell
            go_simp
            refine hK (a.put (some 42) _) _ (hI.kept (Below.refl _ _) 2 42 _ ?_ ?_ ?_ ?_ ?_ ?_ ?_ ?_ ?_ ?_) <;> simp
          · intro D a w3 hI hD hdep K hK
            rw [if_pos (by simp [Region.wanted])]
            have d2 := hdep ⟨2, .data⟩ (by simp) rfl
            have e42 := hI.i2 d2
            simp [Act.eval] at e42
            go_simp
            refine hK (a.put (some 43) _) _ (hI.kept ((Below.refl _ _).alloc (Nat.le_refl _) _) 3 43 _ ?_ ?_ ?_ ?_ ?_ ?_ ?_ ?_ ?_ ?_) <;> simp
            have := (Sl.of_blk (k := 3) (enc := Ver.enc) (l := [v]) (n := 1) (Blk.new w3 24 #[Value.int IntKind.i64 v.s, Value.int IntKind.i64 v.t, Value.int IntKind.i64 v.r]) rfl rfl rfl).2
            simpa using this
          · intro D a w3 hI hD hdep K hK
            rw [if_pos (by simp [Region.wanted])]
            have d1 := hdep ⟨1, .data⟩ (by simp) rfl
            have d3 := hdep ⟨3, .data⟩ (by simp) rfl
            have h1 := hI.i1 d1 hD
            obtain ⟨g, h2, h3⟩ := hI.i3 d3 hD
            refine wp_append_any w3 (.tmp 41) (.tmp 43) _ rfl w2.heap.size 24 i0 _ 3 24 Try.underlying22 hi0 hz0 hz1 hz2 rfl (by omega) _ n _ rfl h1 w3.heap.size (some ⟨g, 0, none⟩) 1 1 v.enc h2 h3 (by simpa using ver_one [v]) (by unfold maxLen; omega) (by omega) hI.hb.size ?_
            intro v' w4 hown hg _
            refine hK _ _ ?_
            obtain ⟨sz, df, e0, e3, hbW, i0, i1, i2, i3, i4, i5, i6⟩ := hI
            refine ⟨by rw [act_size]; exact sz, by rw [act_defers]; exact df, by rw [act_ne (by decide)]; exact e0, by rw [act_ne (by decide)]; exact e3, hbW.grown hg hbW.size (own_block h1), ?_, ?_, ?_, ?_, ?_, ?_, ?_⟩
            · simpa [seen, act_ne] using i0
            · simp [seen]
            · simpa [seen, act_ne] using i2
            · simp [seen]
            · intro _; rw [act_same (by omega), List.flatMap_append]; simpa using hown
            · intro hs
              have hs' : D 5 = true := by simpa [seen] using hs
              rw [(i5 hs').1] at hD; cases hD
            · simpa [seen, act_ne] using i6
          · intro D a w3 hI hD hdep K hK
            rw [if_pos (by simp [Region.wanted])]
            have d4 := hdep ⟨4, .data⟩ (by simp) rfl
            refine op_assign _ rfl (hK _ _ (hI.kept (Below.refl _ _) 5 4 _ ?_ ?_ ?_ ?_ ?_ ?_ ?_ ?_ ?_ ?_)) <;> simp [d4]
          · intro D a w3 hI hD hdep K hK
            rw [if_pos (by simp [Region.wanted])]
            refine op_assign _ rfl (hK _ _ (hI.kept (Below.refl _ _) 6 5 _ ?_ ?_ ?_ ?_ ?_ ?_ ?_ ?_ ?_ ?_)) <;> simp
            rfl
        · intro D a w3 hI hall
          have d4 := hall 4 (by simp)
          have h4 := hI.i4 d4
          have h5 := (hI.i5 (hall 5 (by simp))).2
          have h6 := hI.i6 (hall 6 (by simp))
          have hdf := hI.df
          go_wp2
          refine bodyPost_ret (results_tmp2 rfl _ _ _) hdf ?_
          obtain ⟨A', c', hv, hc, _, hs⟩ := Sl.of_owns (n := n + 1) (l := l ++ [v]) (enc := Ver.enc) h4 rfl (by simp [hl]) rfl
          refine ⟨A', n + 1, c', ?_, hc, ?_, HB2.out.trans (hI.hb.mono HB2.out.size)⟩
          · show Ending.returned (.tuple #[a.eval (.tmp 4), a.eval (.tmp 5)]) = _
            rw [h5, h6, hv, HA.out]
          · unfold addList; rw [HA.out]; exact hs
      · obtain ⟨q, hq⟩ : ∃ q, q = n - 1 := ⟨_, rfl⟩
        have ei : ((n : Int) - 1).toNat = q := by omega
        have q1 : (1 : Int) ≤ n := by omega
        have q2 : (n : Int) - 1 < n := by omega
        obtain ⟨bb, o, rfl, hbl, hc⟩ := VR.at (hr.below HB2.out) (by omega)
        have hql : q < l.length := by omega
        obtain ⟨c0, c1, c2⟩ := hc q hql
        have hq1 : l.length - 1 = q := by omega
        have hqe : ∀ (h : l.length - 1 < l.length), l[l.length - 1] = l[q] := fun h => by congr 1
        have hbl2 : bb < w2.heap.size := by have := HB2.out.size; omega
        have hne : bb ≠ w.heap.size := by omega
        have HAD := hide (show addCode l v = (if v.t < l[q].t then 20 else if v.s ≤ l[q].s then 6 else if 64 ≤ n then 12 else 0) by
          unfold addCode
          rw [if_neg (by rw [HCH.out, HSV.out]; simp), dif_pos (by omega), hqe, hl])
        clear hc hqe hq1 hq
        by_cases ht : v.t < l[q].t
        · have hd1 : decide (v.t < l[q].t) = true := by simp [ht]
          have HA := hide (show addCode l v = 20 by rw [HAD.out, if_pos ht])
          clear ht
          go_wp2
          go_ret2
          exact ⟨none, 0, 0, by rw [HA.out]; rfl, Nat.le_refl _, by unfold addList; rw [HA.out]; exact Sl.nil _, HB2.out.alloc HB2.out.size _⟩
        · have hd1 : decide (v.t < l[q].t) = false := by simp; omega
          by_cases hs : v.s ≤ l[q].s
          · have hd2 : decide (v.s ≤ l[q].s) = true := by simp [hs]
            have HA := hide (show addCode l v = 6 by rw [HAD.out, if_neg ht, if_pos hs])
            clear ht hs
            go_wp2
            go_ret2
            exact ⟨none, 0, 0, by rw [HA.out]; rfl, Nat.le_refl _, by unfold addList; rw [HA.out]; exact Sl.nil _, HB2.out.alloc HB2.out.size _⟩
          · have hd2 : decide (v.s ≤ l[q].s) = false := by simp; omega
            by_cases h64 : 64 ≤ n
            · have hd3 : decide ((64 : Int) ≤ (n : Int)) = true := by simp; omega
              have HA := hide (show addCode l v = 12 by rw [HAD.out, if_neg ht, if_neg hs, if_pos h64])
              clear ht hs h64
              go_wp2
              go_ret2
              exact ⟨none, 0, 0, by rw [HA.out]; rfl, Nat.le_refl _, by unfold addList; rw [HA.out]; exact Sl.nil _, HB2.out.alloc HB2.out.size _⟩
            · have hd3 : decide ((64 : Int) ≤ (n : Int)) = false := by simp; omega
              have HA := hide (show addCode l v = 0 by rw [HAD.out, if_neg ht, if_neg hs, if_neg h64])
              have HBW := hide (HB2.out.alloc HB2.out.size (vblk l[q].s l[q].t l[q].r))
              have HKW := hide (HK2.out.alloc (vblk l[q].s l[q].t l[q].r))
              clear ht hs h64
              go_wp2
              obtain ⟨W3, hW3, HBW, HKW⟩ : ∃ W3, w2.alloc (Obj.cells #[Value.int IntKind.i64 l[q].s, Value.int IntKind.i64 l[q].t, Value.int IntKind.i64 l[q].r] 24) = W3 ∧ Hid (Below w.heap.size w W3) ∧ Hid (Blk W3 w.heap.size 24 #[Value.int IntKind.i64 v.s, Value.int IntKind.i64 v.t, Value.int IntKind.i64 v.r]) := ⟨_, rfl, HBW, HKW⟩
              have kzW := HKW.out.lt
              rw [hW3]
              clear hW3 c0 c1 c2 kc2 kz2 hd1 hd2 hd3 hbl2 hne
              refine wp_region_inv (by kernel_rfl) (by kernel_rfl) (AddInv (some ⟨bb, o, none⟩) n c l v W3 w.heap.size) ?_ ?_ ?_
              · exact ⟨rfl, rfl, rfl, rfl, (Below.refl _ _).drew, by simp, by simp, by simp, by simp, by simp, by simp, by simp⟩
              · refine ⟨?_, ?_, ?_, ?_, ?_, ?_, ?_, trivial⟩
                · intro D a w3 hI hD hdep K hK
                  rw [if_pos (by simp [Region.wanted])]
                  refine op_move _ rfl (hK _ _ (hI.kept (Below.refl _ _) 0 40 _ ?_ ?_ ?_ ?_ ?_ ?_ ?_ ?_ ?_ ?_)) <;> simp
                  exact hI.e0
                · intro D a w3 hI hD hdep K hK
                  rw [if_pos (by simp [Region.wanted])]
                  have d0 := hdep ⟨0, .data⟩ (by simp) rfl
                  have e40 := hI.i0 d0
                  simp [Act.eval] at e40
                  go_simp
                  refine (clone_row l (some ⟨bb, o, none⟩) n c w3 (hr.later (HBW.out.trans (hI.hb.mono HBW.out.size))) hn).mono ?_
                  rintro e w4 ⟨x, rfl, hx, hb⟩
                  refine hK (a.put (some 41) x) w4 (hI.kept hb 1 41 _ ?_ ?_ ?_ ?_ ?_ ?_ ?_ ?_ ?_ ?_) <;> simp
                  exact own_base hx hI.hb.size
                · intro D a w3 hI hD hdep K hK
                  rw [if_pos (by simp [Region.wanted])]
                  have e3 := hI.e3
                  simp [Act.eval] at e3
                  have kc3 := (HKW.out.below hI.hb kzW).cell
                  go_simp
                  refine hK (a.put (some 42) _) _ (hI.kept (Below.refl _ _) 2 42 _ ?_ ?_ ?_ ?_ ?_ ?_ ?_ ?_ ?_ ?_) <;> simp
                · intro D a w3 hI hD hdep K hK
                  rw [if_pos (by simp [Region.wanted])]
                  have d2 := hdep ⟨2, .data⟩ (by simp) rfl
                  have e42 := hI.i2 d2
                  simp [Act.eval] at e42
                  go_simp
                  refine hK (a.put (some 43) _) _ (hI.kept ((Below.refl _ _).alloc (Nat.le_refl _) _) 3 43 _ ?_ ?_ ?_ ?_ ?_ ?_ ?_ ?_ ?_ ?_) <;> simp
                  have := (Sl.of_blk (k := 3) (enc := Ver.enc) (l := [v]) (n := 1) (Blk.new w3 24 #[Value.int IntKind.i64 v.s, Value.int IntKind.i64 v.t, Value.int IntKind.i64 v.r]) rfl rfl rfl).2
                  simpa using this
                · intro D a w3 hI hD hdep K hK
                  rw [if_pos (by simp [Region.wanted])]
                  have d1 := hdep ⟨1, .data⟩ (by simp) rfl
                  have d3 := hdep ⟨3, .data⟩ (by simp) rfl
                  have h1 := hI.i1 d1 hD
                  obtain ⟨g, h2, h3⟩ := hI.i3 d3 hD
                  refine wp_append_any w3 (.tmp 41) (.tmp 43) _ rfl W3.heap.size 24 i0 _ 3 24 Try.underlying22 hi0 hz0 hz1 hz2 rfl (by omega) _ n _ rfl h1 w3.heap.size (some ⟨g, 0, none⟩) 1 1 v.enc h2 h3 (by simpa using ver_one [v]) (by unfold maxLen; omega) (by omega) hI.hb.size ?_
                  intro v' w4 hown hg _
                  refine hK _ _ ?_
                  obtain ⟨sz, df, e0, e3, hbW, i0, i1, i2, i3, i4, i5, i6⟩ := hI
                  refine ⟨by rw [act_size]; exact sz, by rw [act_defers]; exact df, by rw [act_ne (by decide)]; exact e0, by rw [act_ne (by decide)]; exact e3, hbW.grown hg hbW.size (own_block h1), ?_, ?_, ?_, ?_, ?_, ?_, ?_⟩
                  · simpa [seen, act_ne] using i0
                  · simp [seen]
                  · simpa [seen, act_ne] using i2
                  · simp [seen]
                  · intro _; rw [act_same (by omega), List.flatMap_append]; simpa using hown
                  · intro hs
                    have hs' : D 5 = true := by simpa [seen] using hs
                    rw [(i5 hs').1] at hD; cases hD
                  · simpa [seen, act_ne] using i6
                · intro D a w3 hI hD hdep K hK
                  rw [if_pos (by simp [Region.wanted])]
                  have d4 := hdep ⟨4, .data⟩ (by simp) rfl
                  refine op_assign _ rfl (hK _ _ (hI.kept (Below.refl _ _) 5 4 _ ?_ ?_ ?_ ?_ ?_ ?_ ?_ ?_ ?_ ?_)) <;> simp [d4]
                · intro D a w3 hI hD hdep K hK
                  rw [if_pos (by simp [Region.wanted])]
                  refine op_assign _ rfl (hK _ _ (hI.kept (Below.refl _ _) 6 5 _ ?_ ?_ ?_ ?_ ?_ ?_ ?_ ?_ ?_ ?_)) <;> simp
                  rfl
              · intro D a w3 hI hall
                have d4 := hall 4 (by simp)
                have h4 := hI.i4 d4
                have h5 := (hI.i5 (hall 5 (by simp))).2
                have h6 := hI.i6 (hall 6 (by simp))
                have hdf := hI.df
                go_wp2
                refine bodyPost_ret (results_tmp2 rfl _ _ _) hdf ?_
                obtain ⟨A', c', hv, hc, _, hs⟩ := Sl.of_owns (n := n + 1) (l := l ++ [v]) (enc := Ver.enc) h4 rfl (by simp [hl]) rfl
                refine ⟨A', n + 1, c', ?_, hc, ?_, HBW.out.trans (hI.hb.mono HBW.out.size)⟩
                · show Ending.returned (.tuple #[a.eval (.tmp 4), a.eval (.tmp 5)]) = _
                  rw [h5, h6, hv, HA.out]
                · unfold addList; rw [HA.out]; exact hs
end Go.Proofs.Ytldlaojcbgckjaa
