/- The law on what is printed and read, walked. -/
import Derived.Test.YtmbjalcphdggnaaDoorJsPi
import Derived.Test.YtmbjalcphdggnaaDoorJsPj
namespace Go.Proofs.YtmbjalcphdggnaaDoor
set_option linter.unusedSimpArgs false
set_option linter.unusedVariables false
open Go.RowKit
theorem prE_cases (J : JV) : (prE J = 0 ∧ dpJ 32 J = true ∧ (prJ J).length ≤ 262144 ∧ prR J = prJ J) ∨ (prE J = 12 ∧ dpJ 32 J = true) ∨ (prE J = 2 ∧ dpJ 32 J = false) := by
  unfold prR prE
  by_cases h : dpJ 32 J = true
  · rw [if_pos h]
    by_cases h2 : (prJ J).length ≤ 262144
    · rw [if_pos h2]
      exact .inl ⟨rfl, h, h2, rfl⟩
    · rw [if_neg h2]
      exact .inr (.inl ⟨rfl, h⟩)
  · rw [if_neg h]
    exact .inr (.inr ⟨rfl, by simpa using h⟩)
theorem pr_back {J : JV} (h : prE J = 0) : gotE (parseS (prR J)) = 0 ∧ gotJ (parseS (prR J)) = J := by
  rcases prE_cases J with ⟨_, h1, h2, h3⟩ | ⟨h1, _⟩ | ⟨h1, _⟩
  · rw [h3, parse_pr h1 h2]
    exact ⟨rfl, rfl⟩
  · omega
  · omega
set_option maxRecDepth 100000 in
set_option maxHeartbeats 600000 in
theorem back_any (w : World) (J : JV) (cs : List Value) (A : Option Addr) (n c : Nat) (l : L8) (hT : Tabs w) (hJ : VRd w (fun j => j < w.heap.size) J cs) (hs : smJ J) (hb : bdJ J) (h1 : RB w w.heap.size A n l) (hc1 : n ≤ c) (hn : n ≤ 140737488355328) :
    Calls Tryd.prog 6 #[.agg cs.toArray, .slice A n c] w fun e w' => e = .returned (.bool true) ∧ Below w.heap.size w w' := by
  obtain ⟨k, t, A1, n1, c1, A2, n2, c2, rfl⟩ := hJ.four
  obtain ⟨w1, hw1⟩ : ∃ y, w.alloc (.cells #[.int .i64 k, .string t, .slice A1 n1 c1, .slice A2 n2 c2] TV) = y := ⟨_, rfl⟩
  have HB1 := hide (show Below w.heap.size w w1 from hw1 ▸ al_below w _)
  have HV := hide (show Blk w1 w.heap.size TV #[.int .i64 k, .string t, .slice A1 n1 c1, .slice A2 n2 c2] from hw1 ▸ Blk.new _ _ _)
  have HT := hide hT
  have HJ1 := hide (hJ.all.later HB1.out)
  have HW1 := hide hw1
  have HSM := hide hs
  have HBD := hide hb
  have HL := hide h1
  clear hw1 hJ hT hs hb h1
  obtain ⟨i0, hi0, hz0, hz1, hz2⟩ := u8_inf
  have HI0 := hide hi0
  have HZ0 := hide hz0
  clear hi0 hz0
  go_enter Tryd.func6, Tryd.ntmps6
  go_upto_region 1 with fail
  rw [HW1.out]
  clear HW1
  have kv := HV.out.cell; have fv := HV.out.frozen; have zv := HV.out.lt
  go_upto_region 2 with (first | (go_at_call 13; (refine (print_any HSM.out HT2.out HJ2.out).mono ?_); rintro e w3 ⟨hb, A3, n3, c3, rfl, hc3, hA3, hr3⟩; have HB3 := hide (HB2.out.trans (hb.mono HB2.out.size)); have HR3 := hide hr3; have HA3 := hide hA3; have HV3 := hide (HV2.out.below hb HV2.out.lt); have HJ3 := hide (HJO.out.later hb); clear hb hr3 hA3) | (go_at_call 14; (refine (own_any HBD.out HJ1.out).mono ?_); rintro e w2 ⟨cs2, rfl, hv, hb⟩; have HB2 := hide (HB1.out.trans (hb.mono HB1.out.size)); have HT2 := hide (HT.out.below HB2.out); have HV2 := hide (HV.out.below hb HV.out.lt); have HJ2 := hide hv; have HJO := hide (HJ1.out.later hb); clear hb hv))
  clear kv fv zv HV HJ1 HV2 HJ2 HJO HT2
  have HT3 := hide (HT.out.below HB3.out)
  obtain ⟨pe, hpe⟩ : ∃ x, prE J = x := ⟨_, rfl⟩
  have HPE := hide hpe
  rw [hpe]
  clear hpe
  by_cases h0 : pe = 0
  · subst h0
    have HPB := hide (pr_back HPE.out)
    go_upto_region 5 with (go_at_call 9; (refine (answers_any w3 HT3.out).mono ?_); rintro e w4 ⟨rfl, hb⟩; have HB4 := hide (HB3.out.trans (hb.mono HB3.out.size)); have HT4 := hide (HT.out.below HB4.out); have HR4 := hide ((HR3.out.below hb).more hb.size); have HA4 := hide (show ∀ ad, A3 = some ad → ad.block < w4.heap.size from fun ad e => Nat.lt_of_lt_of_le (HA3.out ad e) hb.size); have HV4 := hide (HV3.out.below hb HV3.out.lt); have HJ4 := hide (HJ3.out.later hb); clear hb)
    clear HT3 HR3 HA3 HV3 HJ3
    go_upto_region 6 with (go_at_call 10; (refine (parse_uni HR4.out hc3 HT4.out HA4.out).mono ?_); rintro e w5 ⟨hb, kw, tw, A1w, n1w, c1w, A2w, n2w, c2w, atw, rfl, hv⟩; (rw [HPB.out.1]); (rw [HPB.out.2] at hv); have HB5 := hide (HB4.out.trans (hb.mono HB4.out.size)); have HV5 := hide (HV4.out.below hb HV4.out.lt); have HJ5 := hide (HJ4.out.later hb); have HVw := hide hv; clear hb hv)
    obtain ⟨w6, hw6⟩ : ∃ x, w5.alloc (.cells #[.int .i64 kw, .string tw, .slice A1w n1w c1w, .slice A2w n2w c2w] TV) = x := ⟨_, rfl⟩
    have HB6 := hide (show Below w.heap.size w w6 from hw6 ▸ bal HB5.out _)
    have HN6 := hide (show Below w5.heap.size w5 w6 from hw6 ▸ al_below w5 _)
    have HV6 := hide (HV5.out.below HN6.out HV5.out.lt)
    have HCw := hide (show Blk w6 w5.heap.size TV #[.int .i64 kw, .string tw, .slice A1w n1w c1w, .slice A2w n2w c2w] from hw6 ▸ Blk.new _ _ _)
    have HJ6 := hide (HJ5.out.later HN6.out)
    have HVw6 := hide (HVw.out.later HN6.out)
    rw [hw6]
    clear hw6 HN6 HV4 HV5 HJ4 HJ5 HVw HR4 HA4
    have kv := HV6.out.cell; have fv := HV6.out.frozen; have zv := HV6.out.lt
    have kw := HCw.out.cell; have fw := HCw.out.frozen; have zw := HCw.out.lt
    go_upto_region 8 with (go_at_call 11; (refine (same_any HJ6.out HVw6.out).mono ?_); rintro e w7 ⟨rfl, hb⟩; (rw [eqJ_refl]); have HB7 := hide (HB6.out.trans (hb.mono HB6.out.size)); clear hb)
    clear kv fv zv kw fw zw
    obtain ⟨u2, hu2⟩ : ∃ x, w7.alloc (.cells #[] T8) = x := ⟨_, rfl⟩
    have HBu2 := hide (show Below w.heap.size w u2 from hu2 ▸ bal HB7.out _)
    have HOu2 := hide (show u2.ownsRow w7.heap.size T8 1 (.slice (some ⟨w7.heap.size, 0, none⟩) 0 0) 0 [] from hu2 ▸ World.ownsRow_lit w7 #[] 0 (Nat.le_refl _) (by decide) rfl)
    have HGu2 := hide (show Below w7.heap.size w7 u2 from hu2 ▸ al_below w7 _)
    have HWu2 := hide hu2
    clear hu2
    go_upto_region 9 with (first | (go_at_call 10; (refine (parse_uni (own_rb' HOu3.out) hcu3 HTu3.out HAu3.out).mono ?_); rintro e u4 ⟨hb, kx, tx, A1x, n1x, c1x, A2x, n2x, c2x, atx, rfl, hv⟩; have HBu4 := hide (HBu3.out.trans (hb.mono HBu3.out.size)); have HVu4 := hide hv; clear hb hv) | (at_builtin; (rw [HWu2.out]); refine wpList_append_any _ rfl (.tmp 43) (.tmp 44) _ rfl w7.heap.size T8 i0 _ 1 1 Tryd.underlying22 HI0.out HZ0.out hz1 hz2 rfl (by omega) (.slice (some ⟨w7.heap.size, 0, none⟩) 0 0) 0 [] rfl HOu2.out w.heap.size A n c (cs8 l) rfl (HL.out.below HBu2.out) (cs8_one _) (by unfold maxLen; omega) (by omega) HGu2.out.size ?_; intro v' u3 ho hgb hoo; (rw [Nat.zero_add, List.nil_append] at ho); (obtain ⟨Au3, cu3, rfl, hcu3⟩ := own_slice ho); have HOu3 := hide ho; have HGu3 := hide (HGu2.out.grown hgb HGu2.out.size (fun k e => own_block HOu2.out k e)); have HBu3 := hide (HB7.out.trans (HGu3.out.mono HB7.out.size)); have HTu3 := hide (HT.out.below HBu3.out); have HAu3 := hide (show ∀ ad, Au3 = some ad → ad.block < u3.heap.size from fun ad e => own_lt HOu3.out _ (by rw [e]; rfl)); clear ho hgb hoo))
    obtain ⟨u5, hu5⟩ : ∃ x, u4.alloc (.cells #[.int .i64 kx, .string tx, .slice A1x n1x c1x, .slice A2x n2x c2x] TV) = x := ⟨_, rfl⟩
    have HBu5 := hide (show Below w.heap.size w u5 from hu5 ▸ bal HBu4.out _)
    have HNu5 := hide (show Below u4.heap.size u4 u5 from hu5 ▸ al_below u4 _)
    have HCx := hide (show Blk u5 u4.heap.size TV #[.int .i64 kx, .string tx, .slice A1x n1x c1x, .slice A2x n2x c2x] from hu5 ▸ Blk.new _ _ _)
    have HVx := hide (HVu4.out.later HNu5.out)
    rw [hu5]
    clear hu5 HVu4 HNu5 HGu2 HGu3 HOu2 HOu3 HWu2 HBu2 HBu3 HTu3 HAu3 hcu3
    obtain ⟨gx, hgx⟩ : ∃ x, gotE (parseS l) = x := ⟨_, rfl⟩
    have HGX := hide hgx
    rw [hgx]
    clear hgx
    by_cases hg0 : gx = 0
    · subst hg0
      obtain ⟨X, hX⟩ : ∃ X, gotJ (parseS l) = X := ⟨_, rfl⟩
      have HX := hide (show parseS l = .ok X from hX ▸ gotE_zero HGX.out)
      rw [hX] at HVx
      obtain ⟨hdX, hsX⟩ := parse_sound HX.out
      have HSX := hide hsX
      have HDX := hide hdX
      have HTu5 := hide (HT.out.below HBu5.out)
      clear hX hdX hsX HGX
      have kx1 := HCx.out.cell; have fx1 := HCx.out.frozen; have zx1 := HCx.out.lt
      go_upto_region 12 with (go_at_call 13; (refine (print_any HSX.out HTu5.out HVx.out).mono ?_); rintro e u6 ⟨hb, A6, n6, c6, rfl, hc6, hA6, hr6⟩; have HBu6 := hide (HBu5.out.trans (hb.mono HBu5.out.size)); have HTu6 := hide (HT.out.below HBu6.out); have HR6 := hide hr6; have HA6 := hide hA6; have HC6 := hide (HCx.out.below hb HCx.out.lt); have HV6 := hide (HVx.out.later hb); clear hb hr6 hA6)
      clear kx1 fx1 zx1
      obtain ⟨pe, hpe⟩ : ∃ x, prE X = x := ⟨_, rfl⟩
      have HPE := hide hpe
      rw [hpe]
      clear hpe
      rcases prE_cases X with ⟨h1, _⟩ | ⟨h1, _⟩ | ⟨_, h1⟩
      · obtain rfl : pe = 0 := HPE.out.symm.trans h1
        clear h1
        have HPB := hide (pr_back HPE.out)
        go_upto_region 15 with (go_at_call 10; (refine (parse_uni HR6.out hc6 HTu6.out HA6.out).mono ?_); rintro e u7 ⟨hb, ky, ty, A1y, n1y, c1y, A2y, n2y, c2y, aty, rfl, hv⟩; (rw [HPB.out.1]); (rw [HPB.out.2] at hv); have HBu7 := hide (HBu6.out.trans (hb.mono HBu6.out.size)); have HC7 := hide (HC6.out.below hb HC6.out.lt); have HV7 := hide (HV6.out.later hb); have HVy := hide hv; clear hb hv)
        obtain ⟨u8, hu8⟩ : ∃ x, u7.alloc (.cells #[.int .i64 ky, .string ty, .slice A1y n1y c1y, .slice A2y n2y c2y] TV) = x := ⟨_, rfl⟩
        have HBu8 := hide (show Below w.heap.size w u8 from hu8 ▸ bal HBu7.out _)
        have HNu8 := hide (show Below u7.heap.size u7 u8 from hu8 ▸ al_below u7 _)
        have HC8 := hide (HC7.out.below HNu8.out HC7.out.lt)
        have HCy := hide (show Blk u8 u7.heap.size TV #[.int .i64 ky, .string ty, .slice A1y n1y c1y, .slice A2y n2y c2y] from hu8 ▸ Blk.new _ _ _)
        have HV8 := hide (HV7.out.later HNu8.out)
        have HVy8 := hide (HVy.out.later HNu8.out)
        rw [hu8]
        clear hu8 HNu8 HC6 HC7 HV6 HV7 HVy HCx HVx HR6 HA6
        have kx1 := HC8.out.cell; have fx1 := HC8.out.frozen; have zx1 := HC8.out.lt
        have ky1 := HCy.out.cell; have fy1 := HCy.out.frozen; have zy1 := HCy.out.lt
        go_wp2_with (go_at_call 11; (refine (same_any HV8.out HVy8.out).mono ?_); rintro e u9 ⟨rfl, hb⟩; (rw [eqJ_refl]); have HBu9 := hide (HBu8.out.trans (hb.mono HBu8.out.size)); clear hb)
        go_ret
        exact ⟨rfl, HBu9.out⟩
      · obtain rfl : pe = 12 := HPE.out.symm.trans h1
        clear h1
        go_wp2_with fail
        go_ret
        exact ⟨rfl, HBu6.out⟩
      · exact absurd h1 (by rw [HDX.out]; decide)
    · have e0 : ((gx : Int) != 0) = true := by simp; omega
      clear hg0
      go_wp2_with fail
      go_ret
      exact ⟨rfl, HBu5.out⟩
  · have e0 : ((pe : Int) == 0) = false := by simp; omega
    clear h0
    go_upto_region 8 with (go_at_call 9; (refine (answers_any w3 HT3.out).mono ?_); rintro e w4 ⟨rfl, hb⟩; have HB4 := hide (HB3.out.trans (hb.mono HB3.out.size)); clear hb)
    obtain ⟨u2, hu2⟩ : ∃ x, w4.alloc (.cells #[] T8) = x := ⟨_, rfl⟩
    have HBu2 := hide (show Below w.heap.size w u2 from hu2 ▸ bal HB4.out _)
    have HOu2 := hide (show u2.ownsRow w4.heap.size T8 1 (.slice (some ⟨w4.heap.size, 0, none⟩) 0 0) 0 [] from hu2 ▸ World.ownsRow_lit w4 #[] 0 (Nat.le_refl _) (by decide) rfl)
    have HGu2 := hide (show Below w4.heap.size w4 u2 from hu2 ▸ al_below w4 _)
    have HWu2 := hide hu2
    clear hu2
    go_upto_region 9 with (first | (go_at_call 10; (refine (parse_uni (own_rb' HOu3.out) hcu3 HTu3.out HAu3.out).mono ?_); rintro e u4 ⟨hb, kx, tx, A1x, n1x, c1x, A2x, n2x, c2x, atx, rfl, hv⟩; have HBu4 := hide (HBu3.out.trans (hb.mono HBu3.out.size)); have HVu4 := hide hv; clear hb hv) | (at_builtin; (rw [HWu2.out]); refine wpList_append_any _ rfl (.tmp 43) (.tmp 44) _ rfl w4.heap.size T8 i0 _ 1 1 Tryd.underlying22 HI0.out HZ0.out hz1 hz2 rfl (by omega) (.slice (some ⟨w4.heap.size, 0, none⟩) 0 0) 0 [] rfl HOu2.out w.heap.size A n c (cs8 l) rfl (HL.out.below HBu2.out) (cs8_one _) (by unfold maxLen; omega) (by omega) HGu2.out.size ?_; intro v' u3 ho hgb hoo; (rw [Nat.zero_add, List.nil_append] at ho); (obtain ⟨Au3, cu3, rfl, hcu3⟩ := own_slice ho); have HOu3 := hide ho; have HGu3 := hide (HGu2.out.grown hgb HGu2.out.size (fun k e => own_block HOu2.out k e)); have HBu3 := hide (HB4.out.trans (HGu3.out.mono HB4.out.size)); have HTu3 := hide (HT.out.below HBu3.out); have HAu3 := hide (show ∀ ad, Au3 = some ad → ad.block < u3.heap.size from fun ad e => own_lt HOu3.out _ (by rw [e]; rfl)); clear ho hgb hoo))
    obtain ⟨u5, hu5⟩ : ∃ x, u4.alloc (.cells #[.int .i64 kx, .string tx, .slice A1x n1x c1x, .slice A2x n2x c2x] TV) = x := ⟨_, rfl⟩
    have HBu5 := hide (show Below w.heap.size w u5 from hu5 ▸ bal HBu4.out _)
    have HNu5 := hide (show Below u4.heap.size u4 u5 from hu5 ▸ al_below u4 _)
    have HCx := hide (show Blk u5 u4.heap.size TV #[.int .i64 kx, .string tx, .slice A1x n1x c1x, .slice A2x n2x c2x] from hu5 ▸ Blk.new _ _ _)
    have HVx := hide (HVu4.out.later HNu5.out)
    rw [hu5]
    clear hu5 HVu4 HNu5 HGu2 HGu3 HOu2 HOu3 HWu2 HBu2 HBu3 HTu3 HAu3 hcu3
    obtain ⟨gx, hgx⟩ : ∃ x, gotE (parseS l) = x := ⟨_, rfl⟩
    have HGX := hide hgx
    rw [hgx]
    clear hgx
    by_cases hg0 : gx = 0
    · subst hg0
      obtain ⟨X, hX⟩ : ∃ X, gotJ (parseS l) = X := ⟨_, rfl⟩
      have HX := hide (show parseS l = .ok X from hX ▸ gotE_zero HGX.out)
      rw [hX] at HVx
      obtain ⟨hdX, hsX⟩ := parse_sound HX.out
      have HSX := hide hsX
      have HDX := hide hdX
      have HTu5 := hide (HT.out.below HBu5.out)
      clear hX hdX hsX HGX
      have kx1 := HCx.out.cell; have fx1 := HCx.out.frozen; have zx1 := HCx.out.lt
      go_upto_region 12 with (go_at_call 13; (refine (print_any HSX.out HTu5.out HVx.out).mono ?_); rintro e u6 ⟨hb, A6, n6, c6, rfl, hc6, hA6, hr6⟩; have HBu6 := hide (HBu5.out.trans (hb.mono HBu5.out.size)); have HTu6 := hide (HT.out.below HBu6.out); have HR6 := hide hr6; have HA6 := hide hA6; have HC6 := hide (HCx.out.below hb HCx.out.lt); have HV6 := hide (HVx.out.later hb); clear hb hr6 hA6)
      clear kx1 fx1 zx1
      obtain ⟨pe, hpe⟩ : ∃ x, prE X = x := ⟨_, rfl⟩
      have HPE := hide hpe
      rw [hpe]
      clear hpe
      rcases prE_cases X with ⟨h1, _⟩ | ⟨h1, _⟩ | ⟨_, h1⟩
      · obtain rfl : pe = 0 := HPE.out.symm.trans h1
        clear h1
        have HPB := hide (pr_back HPE.out)
        go_upto_region 15 with (go_at_call 10; (refine (parse_uni HR6.out hc6 HTu6.out HA6.out).mono ?_); rintro e u7 ⟨hb, ky, ty, A1y, n1y, c1y, A2y, n2y, c2y, aty, rfl, hv⟩; (rw [HPB.out.1]); (rw [HPB.out.2] at hv); have HBu7 := hide (HBu6.out.trans (hb.mono HBu6.out.size)); have HC7 := hide (HC6.out.below hb HC6.out.lt); have HV7 := hide (HV6.out.later hb); have HVy := hide hv; clear hb hv)
        obtain ⟨u8, hu8⟩ : ∃ x, u7.alloc (.cells #[.int .i64 ky, .string ty, .slice A1y n1y c1y, .slice A2y n2y c2y] TV) = x := ⟨_, rfl⟩
        have HBu8 := hide (show Below w.heap.size w u8 from hu8 ▸ bal HBu7.out _)
        have HNu8 := hide (show Below u7.heap.size u7 u8 from hu8 ▸ al_below u7 _)
        have HC8 := hide (HC7.out.below HNu8.out HC7.out.lt)
        have HCy := hide (show Blk u8 u7.heap.size TV #[.int .i64 ky, .string ty, .slice A1y n1y c1y, .slice A2y n2y c2y] from hu8 ▸ Blk.new _ _ _)
        have HV8 := hide (HV7.out.later HNu8.out)
        have HVy8 := hide (HVy.out.later HNu8.out)
        rw [hu8]
        clear hu8 HNu8 HC6 HC7 HV6 HV7 HVy HCx HVx HR6 HA6
        have kx1 := HC8.out.cell; have fx1 := HC8.out.frozen; have zx1 := HC8.out.lt
        have ky1 := HCy.out.cell; have fy1 := HCy.out.frozen; have zy1 := HCy.out.lt
        go_wp2_with (go_at_call 11; (refine (same_any HV8.out HVy8.out).mono ?_); rintro e u9 ⟨rfl, hb⟩; (rw [eqJ_refl]); have HBu9 := hide (HBu8.out.trans (hb.mono HBu8.out.size)); clear hb)
        go_ret
        exact ⟨rfl, HBu9.out⟩
      · obtain rfl : pe = 12 := HPE.out.symm.trans h1
        clear h1
        go_wp2_with fail
        go_ret
        exact ⟨rfl, HBu6.out⟩
      · exact absurd h1 (by rw [HDX.out]; decide)
    · have e0 : ((gx : Int) != 0) = true := by simp; omega
      clear hg0
      go_wp2_with fail
      go_ret
      exact ⟨rfl, HBu5.out⟩
end Go.Proofs.YtmbjalcphdggnaaDoor
