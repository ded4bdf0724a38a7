/- The law VersionPrunes returns true: its walk. -/
import Derived.Test.YtldlaojcbgckjaaVerPrunes
namespace Go.Proofs.Ytldlaojcbgckjaa
set_option linter.unusedSimpArgs false
set_option linter.unusedVariables false
open Go.RowKit
theorem isVR.some_ {n : Nat} {l : List Ver} {v : Value} {w : World} (h : isVR n l v w) : ∃ A c, v = .slice A n c ∧ n ≤ c ∧ VR w w.heap.size A n l := h
theorem asof_ans (l : List Ver) (A : Option Addr) (n c : Nat) (t : Int) (w : World) (hr : VR w w.heap.size A n l) (hn : n ≤ 4611686018427387904) :
    Calls Try.prog 8 #[.slice A n c, .int .i64 t] w fun e w' => ∃ s tt r code, e = .returned (.tuple #[.agg #[.int .i64 s, .int .i64 tt, .int .i64 r], .int .i64 code]) ∧ AsOfAns l t (.tuple #[.agg #[.int .i64 s, .int .i64 tt, .int .i64 r], .int .i64 code]) ∧ Below w.heap.size w w' :=
  (asof_any l A n c t w hr hn).mono fun e w' ⟨x, he, hx, hb⟩ => by
    have : ∃ s tt r code, x = .tuple #[.agg #[.int .i64 s, .int .i64 tt, .int .i64 r], .int .i64 code] := by
      rcases hx with ⟨_, h⟩ | ⟨_, _, h⟩ | ⟨q, hq, _, _, h⟩
      · exact ⟨0, 0, 0, 2, h⟩
      · exact ⟨0, 0, 0, 20, h⟩
      · exact ⟨_, _, _, 0, h⟩
    obtain ⟨s, tt, r, code, rfl⟩ := this
    exact ⟨s, tt, r, code, he, hx, hb⟩

theorem rasof_cut {l : List Ver} {t k : Int} {r : Nat} (h : CutAt l t r) (hk : RAsOf l t k) : k = (r : Int) - 1 := by
  rcases Nat.eq_zero_or_pos r with h0 | h0
  · subst h0; rw [rasof_none h hk]; rfl
  · obtain ⟨q, rfl⟩ : ∃ q, r = q + 1 := ⟨r - 1, by omega⟩
    rw [rasof_some (q := q) (by have := h.1; omega) h hk]; omega
set_option maxRecDepth 100000 in
set_option maxHeartbeats 2000000 in
theorem lawPrunes_any (l : List Ver) (A : Option Addr) (n c : Nat) (hz t : Int) (w : World) (hr : VR w w.heap.size A n l) (hn : n * 24 ≤ 140737488351232) :
    Calls Try.prog 5 #[.slice A n c, .int .i64 hz, .int .i64 t] w fun e w' => e = .returned (.bool true) ∧ Below w.heap.size w w' := by
  obtain ⟨i0, hi0, hz0, hz1, hz2⟩ := info_parts ver_info
  have hn' : n ≤ 9223372036854775807 := by omega
  have hn2 : n ≤ 4611686018427387904 := by omega
  have hl := hr.len
  go_enter Try.func5, Try.ntmps5
  go_wp2_with fail
  refine (own_any l A n c _ hr hn).mono ?_
  rintro e w1 ⟨A1, c1, rfl, hc1, hr1, hb1⟩
  have HB1 := hide hb1
  clear hb1
  go_wp2_with fail
  refine (prune_any l A1 n c1 hz _ hr1 hn hc1).mono ?_
  rintro e w2 ⟨v1, v2, L, G, code, rfl, hans, hv1, hv2, hb2⟩
  have HB2 := hide (HB1.out.trans (hb2.mono HB1.out.size))
  clear hb2 hr1
  rcases hans with ⟨hch, rfl, rfl, rfl⟩ | ⟨hch, rfl, r, hcut, rfl, rfl⟩
  · obtain ⟨A3, c3, rfl, _, _⟩ := hv1
    obtain ⟨A4, c4, rfl, _, _⟩ := hv2
    have HCH := hide hch
    clear hch
    go_wp2_with fail
    refine (rcheck_b l A n c _ (hr.later HB2.out) hn' HCH.out).mono ?_
    rintro e w3 ⟨rfl, hb3⟩
    have HB3 := hide (HB2.out.trans (hb3.mono HB2.out.size))
    clear hb3
    go_wp2_with fail
    refine (answers_any _).mono ?_
    rintro e w4 ⟨rfl, hb4⟩
    have HB4 := hide (HB3.out.trans (hb4.mono HB3.out.size))
    clear hb4
    go_wp2
    go_ret
    exact ⟨rfl, HB4.out⟩
  · have hLl : (l.drop (r - 1)).length = n - (r - 1) := by simp [hl]
    have hrn : r ≤ n := by have := hcut.1; omega
    have hGl : (l.take (r - 1)).length = r - 1 := by simp [hl]; omega
    rw [hLl] at hv1
    rw [hGl] at hv2
    have hk1 : r - 1 ≤ n := by omega
    have hk2 : 0 < n → r - 1 < n := by omega
    generalize hkr : r - 1 = k at *
    have HKR := hide hkr
    have HK2 := hide hk2
    clear hkr hk2
    obtain ⟨A3, c3, rfl, hc3, hr3⟩ := hv1
    obtain ⟨A4, c4, rfl, hc4, hr4⟩ := hv2
    have HCH := hide hch
    have HCUT := hide hcut
    have HR3 := hide hr3
    have HR4 := hide hr4
    have HL := hide hl
    clear hch hcut hr3 hr4 hLl hGl hl
    go_wp2_with fail
    refine (rcheck_b l A n c _ (hr.later HB2.out) hn' HCH.out).mono ?_
    rintro e w3 ⟨rfl, hb3⟩
    have HB3 := hide (HB2.out.trans (hb3.mono HB2.out.size))
    have HR3b := hide (HR3.out.later hb3)
    have HR4b := hide (HR4.out.later hb3)
    clear hb3
    go_wp2_with fail
    refine (answers_any _).mono ?_
    rintro e w4 ⟨rfl, hb4⟩
    have HB4 := hide (HB3.out.trans (hb4.mono HB3.out.size))
    have HR3c := hide (HR3b.out.later hb4)
    have HR4c := hide (HR4b.out.later hb4)
    clear hb4
    go_wp2_with fail
    refine (own_row (l.take k) A4 k c4 _ HR4c.out (by omega)).mono ?_
    rintro e w5 ⟨v5, rfl, hown5, hb5⟩
    have HB5 := hide (HB4.out.trans (hb5.mono HB4.out.size))
    have HR3d := hide (HR3c.out.later hb5)
    have HO5 := hide hown5
    have HB45 := hide hb5
    have HSZ5 := hb5.size
    clear hb5 hown5
    go_wp2_with (at_builtin; refine wpList_step (fun K hK => ?_); rw [if_pos (by rfl)]; refine wp_append_any w5 (.tmp 49) (.tmp 50) _ rfl w4.heap.size 24 i0 _ 3 24 Try.underlying22 hi0 hz0 hz1 hz2 rfl (by omega) v5 k _ rfl HO5.out w5.heap.size A3 (n - k) c3 ((l.drop k).flatMap Ver.enc) rfl HR3d.out.2 (ver_one _) (by unfold maxLen; omega) (by omega) HSZ5 ?_; intro v6 w6 hown6 hg6 _)
    have HB46 := hide ((HB45.out).grown hg6 HB45.out.size (own_block HO5.out))
    have HB6 := hide (HB4.out.trans (HB46.out.mono HB4.out.size))
    have HR3e := hide (HR3c.out.later HB46.out)
    obtain ⟨A6, c6, rfl, hc6, _, hr6⟩ := Sl.of_owns (n := n) (l := l) (enc := Ver.enc) hown6 (by omega) HL.out (by rw [← List.flatMap_append, List.take_append_drop])
    have HR6 := hide hr6
    have hnn : decide (0 < n) = true → (((n - k : Nat) : Int) == 0) = false := fun h => by simp at h; have := HK2.out h; simp; omega
    have HNN := hide hnn
    clear hown6 hg6 hr6 hnn
    go_wp2_with fail
    refine (same_any l l A6 A n n c6 c _ HR6.out (hr.later HB6.out) hn' hn' rfl).mono ?_
    rintro e w7 ⟨rfl, hb7⟩
    have HB7 := hide (HB6.out.trans (hb7.mono HB6.out.size))
    have HR3f := hide (HR3e.out.later hb7)
    clear hb7
    have hcase : (decide (0 < n) = false) ∨ (decide (0 < n) = true ∧ (((n - k : Nat) : Int) == 0) = false) := by
      cases h : decide (0 < n)
      · exact .inl rfl
      · exact .inr ⟨rfl, HNN.out h⟩
    have hcase2 : (r = 0 ∧ k = 0) ∨ (1 ≤ r) := by have := HKR.out; omega
    rcases hcase with h1 | ⟨h1, h2⟩ <;> rcases hcase2 with ⟨h3, h3'⟩ | h3
    all_goals
      have hkk : ∀ kk : Int, kk = (r : Int) - 1 → (kk = -1 ∧ decide (0 < k) = false) ∨ kk = k := fun kk h => by have := HKR.out; simp only [decide_eq_false_iff_not]; omega
      have HKK := hide hkk
      clear hkk
      (try have H3' := hide h3')
      (try clear h3')
      have H3 := hide h3
      clear h3
      go_wp2_with fail
      refine (rasof_any l A n c hz _ (hr.later HB7.out) hn').mono ?_
      rintro e w8 ⟨kk, rfl, hk, rfl⟩
      have hk' := HKK.out kk (rasof_cut HCUT.out hk)
      clear hk
      have ht : decide (t < hz) = true ∨ (decide (t < hz) = false ∧ hz ≤ t) := by
        by_cases h : t < hz
        · exact .inl (by simp [h])
        · exact .inr ⟨by simp; omega, by omega⟩
      rcases hk' with ⟨rfl, hk0⟩ | rfl <;> rcases ht with ht | ⟨ht, htt⟩
      all_goals first
        | (go_wp2_with fail
           go_ret
           exact ⟨rfl, HB7.out⟩)
        | (have HTT := hide htt
           clear htt
           go_wp2_with fail
           refine (own_any l A n c _ (hr.later HB7.out) hn).mono ?_
           rintro e w9 ⟨A9, c9, rfl, _, hr9, hb9⟩
           have HB9 := hide (HB7.out.trans (hb9.mono HB7.out.size))
           have HR3g := hide (HR3f.out.later hb9)
           clear hb9
           go_wp2_with fail
           refine (asof_ans l A9 n c9 t _ hr9 hn2).mono ?_
           rintro e w10 ⟨s1, t1, r1, code1, rfl, hx, hb10⟩
           have HB10 := hide (HB9.out.trans (hb10.mono HB9.out.size))
           have HR3h := hide (HR3g.out.later hb10)
           have HX := hide hx
           clear hb10 hx hr9
           have B11 := (Below.refl w10.heap.size w10).alloc (Nat.le_refl _) (vblk s1 t1 r1)
           have HB11 := hide (HB10.out.trans (B11.mono HB10.out.size))
           have HK11 := hide (show Blk (w10.alloc (vblk s1 t1 r1)) w10.heap.size 24 #[Value.int IntKind.i64 s1, Value.int IntKind.i64 t1, Value.int IntKind.i64 r1] from Blk.new _ _ _)
           have HR3i := hide (HR3h.out.later B11)
           clear B11
           go_wp2_with fail
           refine (asof_ans (l.drop k) A3 (n - k) c3 t _ HR3i.out (by omega)).mono ?_
           rintro e w12 ⟨s2, t2, r2, code2, rfl, hy, hb12⟩
           have hxy := asof_drop HCH.out HCUT.out HTT.out HX.out (by rw [HKR.out]; exact hy)
           simp only [Value.tuple.injEq, Array.mk.injEq, List.cons.injEq, Value.agg.injEq, Value.int.injEq, and_true, true_and] at hxy
           obtain ⟨⟨rfl, rfl, rfl⟩, rfl⟩ := hxy
           have HB12 := hide (HB11.out.trans (hb12.mono HB11.out.size))
           have kc := (HK11.out.below hb12 HK11.out.lt).cell
           have kz := (HK11.out.below hb12 HK11.out.lt).lt
           clear hb12 hy
           go_wp2
           go_ret
           exact ⟨rfl, HB12.out.alloc HB12.out.size _⟩)
end Go.Proofs.Ytldlaojcbgckjaa
