/- The law VersionGrows returns true, whatever list and time. -/
import Derived.Test.YtldlaojcbgckjaaVerAdd
import Derived.Test.YtldlaojcbgckjaaVerPruneLaw
namespace Go.Proofs.Ytldlaojcbgckjaa
set_option linter.unusedSimpArgs false
set_option linter.unusedVariables false
open Go.RowKit
theorem addCode_zero {l : List Ver} {v : Ver} (h : addCode l v = 0) : checkV (l ++ [v]) = true ∧ l.length + 1 ≤ 64 := by
  unfold addCode at h
  split at h
  · omega
  · rename_i h0
    have hc : checkV l = true := by cases hh : checkV l; exact absurd (.inl hh) h0; rfl
    have hs : soundV v = true := by cases hh : soundV v; exact absurd (.inr hh) h0; rfl
    obtain ⟨h1, h2⟩ := check_okTo hc
    have hlen : l.length + 1 ≤ 64 := by
      split at h
      · split at h
        · omega
        · split at h
          · omega
          · split at h <;> omega
      · omega
    refine ⟨checkV_yes (fun i hi => ?_) (by simp; omega), hlen⟩
    simp only [List.length_append, List.length_cons, List.length_nil] at hi
    rw [okAt_eq (by simp; omega)]
    rcases Nat.lt_or_ge i l.length with h3 | h3
    · have h4 := h1 i h3
      rw [okAt_eq h3] at h4
      rw [List.getElem_append_left h3, List.getElem?_append_left (by omega)]
      exact h4
    · obtain rfl : i = l.length := by omega
      simp only [List.getElem_append_right (Nat.le_refl _), Nat.sub_self, List.getElem_singleton, hs, Bool.true_and]
      split at h
      · rename_i hp
        rw [List.getElem?_append_left (by omega), List.getElem?_eq_getElem (by omega)]
        split at h
        · omega
        · rename_i ha
          split at h
          · omega
          · rename_i hb
            simp
            right
            omega
      · have : l.length = 0 := by omega
        simp [this]
theorem cut_last {l : List Ver} {t : Int} (hc : checkV l = true) (hp : 0 < l.length) (ht : (l[l.length - 1]'(by omega)).t ≤ t) : CutAt l t l.length := by
  have hr := rising_of_check hc
  refine ⟨Nat.le_refl _, fun i hi _ => ?_, fun i hi hh => by omega⟩
  have := hr i (l.length - 1) (by omega) (by omega)
  omega
def isAdd (L : List Ver) (x : Ver) (v : Value) (w : World) : Prop := ∃ A m c, v = .tuple #[.slice A m c, .int .i64 (addCode L x)] ∧ m ≤ c ∧ VR w w.heap.size A m (addList L x)
theorem isAdd.mono {L : List Ver} {x : Ver} {v : Value} {w w' : World} (h : isAdd L x v w) (hb : Below w.heap.size w w') : isAdd L x v w' := by
  obtain ⟨A, m, c, h1, h2, h3⟩ := h; exact ⟨A, m, c, h1, h2, h3.later hb⟩
def isList (L : List Ver) (v : Value) (w : World) : Prop := ∃ A m c, v = .slice A m c ∧ m ≤ c ∧ VR w w.heap.size A m L
theorem isList.mono {L : List Ver} {v : Value} {w w' : World} (h : isList L v w) (hb : Below w.heap.size w w') : isList L v w' := by
  obtain ⟨A, m, c, h1, h2, h3⟩ := h; exact ⟨A, m, c, h1, h2, h3.later hb⟩

set_option maxRecDepth 100000 in
set_option maxHeartbeats 2000000 in
theorem lawGrows_any (l : List Ver) (A : Option Addr) (n c : Nat) (t : Int) (w : World) (hr : VR w w.heap.size A n l) (hn : n * 24 ≤ 140737488351232) :
    Calls Try.prog 7 #[.slice A n c, .int .i64 t] w fun e w' => e = .returned (.bool true) ∧ Below w.heap.size w w' := by
  have hn' : n ≤ 9223372036854775807 := by omega
  go_enter Try.func7, Try.ntmps7
  go_wp2
  go_loopw [5, 6] (fun v i wr => ∃ (k m : Nat) (L : List Ver) (A5 : Option Addr) (c5 : Nat), k ≤ n ∧ k ≤ 100 ∧ i = .int .i64 k ∧ v = .slice A5 m c5 ∧ m ≤ c5 ∧ checkV L = true ∧ m ≤ 64 ∧ VR wr wr.heap.size A5 m L ∧ Below w.heap.size w wr) (fun _ i _ => n - (intOf i).toNat)
  case atStart => exact ⟨0, 0, [], none, 0, by omega, by omega, rfl, rfl, by omega, rfl, by omega, Sl.nil _, Below.refl _ _⟩
  case round =>
    obtain ⟨k, m, L, A5, c5, hkn, hk100, rfl, rfl, hmc, hL, hm64, hr5, hb⟩ := hrel
    have HB := hide hb
    have HL := hide hL
    have HR5 := hide hr5
    have hsz := hb.size
    clear hb hL hr5
    by_cases hlt : k < n ∧ k < 100
    · obtain ⟨hlt, h100⟩ := hlt
      have h100' : decide ((k : Int) < 100) = true := by simp; omega
      have hl := hr.len
      obtain ⟨bb, o, rfl, hbl, hc⟩ := VR.at (hr.below HB.out) (by omega)
      have hkl : k < l.length := by omega
      have HC := hide (hc k hkl)
      clear hc hl
      go_wp2_with fail
      refine wp_region_facts (by kernel_rfl) (by kernel_rfl) 80
        [⟨22, fun v _ => v = .slice A5 m c5⟩, ⟨23, isVR m L⟩, ⟨24, fun v _ => v = .slice (some ⟨bb, o, none⟩) n c⟩, ⟨25, fun v _ => v = .int .i64 k⟩, ⟨26, fun v _ => v = .pointer (some ⟨bb, o + k * 3, none⟩)⟩, ⟨27, fun v _ => v = l[k].val⟩,
         ⟨28, isAdd L l[k]⟩, ⟨21, isAdd L l[k]⟩, ⟨29, isList (addList L l[k])⟩, ⟨30, fun v _ => v = .int .i64 (addCode L l[k])⟩, ⟨7, isList (addList L l[k])⟩, ⟨8, fun v _ => v = .int .i64 (addCode L l[k])⟩] (by kernel_rfl) rfl rfl ?_ ?_ ?_
      · intro e he v w w' _ hb hv
        simp only [List.mem_cons, List.not_mem_nil, or_false] at he
        rcases he with rfl | rfl | rfl | rfl | rfl | rfl | rfl | rfl | rfl | rfl | rfl | rfl
        all_goals first | exact hv | exact isVR.mono hv hb | exact isAdd.mono hv hb | exact isList.mono hv hb
      · refine ⟨?_, ?_, ?_, ?_, ?_, ?_, ?_, ?_, ?_, ?_, ?_, ?_, trivial⟩
        · intro a w3 hg hd K hK
          exact op_move _ rfl (hK _ _ (Below.refl _ _) (hg.kp 5 (by simp)))
        · intro a w3 hg hd K hK
          have e22 := hd ⟨0, .data⟩ (by simp) rfl _ rfl
          simp [Act.eval] at e22
          go_simp
          refine (own_any L A5 m c5 w3 (HR5.out.later hg.hb) (by omega)).mono ?_
          rintro e w4 ⟨A', c', rfl, hc', hr', hb'⟩
          exact hK (.slice A' m c') w4 hb' ⟨A', c', rfl, hc', hr'⟩
        · intro a w3 hg hd K hK
          exact op_move _ rfl (hK _ _ (Below.refl _ _) (hg.kp 0 (by simp)))
        · intro a w3 hg hd K hK
          exact op_move _ rfl (hK _ _ (Below.refl _ _) (hg.kp 6 (by simp)))
        · intro a w3 hg hd K hK
          have e24 := hd ⟨2, .data⟩ (by simp) rfl _ rfl
          have e25 := hd ⟨3, .data⟩ (by simp) rfl _ rfl
          simp [Act.eval] at e24 e25
          go_simp
          exact hK _ _ (Below.refl _ _) rfl
        · intro a w3 hg hd K hK
          have e26 := hd ⟨4, .data⟩ (by simp) rfl _ rfl
          simp [Act.eval] at e26
          obtain ⟨c0, c1, c2⟩ := HC.out
          have d0 := (hg.hb.cell (p := ⟨bb, o + k * 3, none⟩) (by show bb < _; omega)).trans c0
          have d1 := (hg.hb.cell (p := ⟨bb, o + k * 3 + 1, none⟩) (by show bb < _; omega)).trans c1
          have d2 := (hg.hb.cell (p := ⟨bb, o + k * 3 + 2, none⟩) (by show bb < _; omega)).trans c2
          clear c0 c1 c2
          go_simp
          exact hK _ _ (Below.refl _ _) rfl
        · intro a w3 hg hd K hK
          obtain ⟨A', c', e23, hc', hr'⟩ := hd ⟨1, .data⟩ (by simp) rfl _ rfl
          have e27 := hd ⟨5, .data⟩ (by simp) rfl _ rfl
          simp [Act.eval] at e23 e27
          unfold Ver.val at e27
          go_simp
          refine (add_any L l[k] A' m c' w3 hr' (by omega)).mono ?_
          rintro e w4 ⟨A2, m2, c2, rfl, hm2, hr2, hb2⟩
          exact hK _ w4 hb2 ⟨A2, m2, c2, rfl, hm2, hr2⟩
        · intro a w3 hg hd K hK
          exact op_move _ rfl (hK _ _ (Below.refl _ _) (hd ⟨6, .data⟩ (by simp) rfl _ rfl))
        · intro a w3 hg hd K hK
          obtain ⟨A2, m2, c2, e21, hm2, hr2⟩ := hd ⟨7, .data⟩ (by simp) rfl _ rfl
          simp [Act.eval] at e21
          go_simp
          exact hK _ _ (Below.refl _ _) ⟨A2, m2, c2, rfl, hm2, hr2⟩
        · intro a w3 hg hd K hK
          obtain ⟨A2, m2, c2, e21, hm2, hr2⟩ := hd ⟨7, .data⟩ (by simp) rfl _ rfl
          simp [Act.eval] at e21
          go_simp
          exact hK _ _ (Below.refl _ _) rfl
        · intro a w3 hg hd K hK
          exact op_assign _ rfl (hK _ _ (Below.refl _ _) (hd ⟨8, .data⟩ (by simp) rfl _ rfl))
        · intro a w3 hg hd K hK
          exact op_assign _ rfl (hK _ _ (Below.refl _ _) (hd ⟨9, .data⟩ (by simp) rfl _ rfl))
      · intro f w3 hb3 hall
        obtain ⟨A7, m7, c7, h7, hm7, hr7⟩ := hall ⟨7, isList (addList L l[k])⟩ (by simp)
        have h8 : f 8 = .int .i64 (addCode L l[k]) := hall ⟨8, fun v _ => v = .int .i64 (addCode L l[k])⟩ (by simp)
        simp only [fillF, List.map_cons, List.map_nil, List.foldl_cons, List.foldl_nil, Act.put, List.setIfInBounds_toArray, List.set_cons_zero, List.set_cons_succ]
        simp only at h7
        rw [h7, h8]
        have HB3 := hide (HB.out.trans (hb3.mono hsz))
        have HR7 := hide hr7
        have HR5' := hide (HR5.out.later hb3)
        clear h7 h8 hall hb3 hr7
        by_cases hz : addCode L l[k] = 0
        · have hz1 : (addCode L l[k] == 0) = true := by simp [hz]
          have HZ := hide hz
          clear hz
          go_wp2
          go_roundw
          case rel =>
            obtain ⟨h1, h2⟩ := addCode_zero HZ.out
            have hr8 := HR7.out
            unfold addList at hr8
            rw [if_pos HZ.out] at hr8
            have hm8 := hr8.len
            refine ⟨k + 1, m7, L ++ [l[k]], A7, c7, by omega, by omega, by go_num, rfl, hm7, h1, ?_, hr8, HB3.out⟩
            simp at hm8; omega
          case measure => simp [intOf]; omega
        · have hz1 : (addCode L l[k] == 0) = false := by simp [hz]
          have HZ := hide hz
          clear hz
          go_wp2
          go_roundw
          case rel => exact ⟨k + 1, m, L, A5, c5, by omega, by omega, by go_num, rfl, hmc, HL.out, hm64, HR5'.out, HB3.out⟩
          case measure => simp [intOf]; omega
    · have hk0 : (k < n ∧ (k : Int) < 100) → False := by omega
      have htest : decide (k < n) = false ∨ (decide (k < n) = true ∧ decide ((k : Int) < 100) = false) := by
        by_cases h : k < n
        · exact .inr ⟨by simp [h], by simp; omega⟩
        · exact .inl (by simp [h])
      have hL5 := HR5.out.len
      clear hlt hk0
      have hm0 : (m = 0) ∨ (0 < m) := by omega
      have hck : chkRes L = 0 := by unfold chkRes; rw [HL.out]; rfl
      rcases htest with h1 | ⟨h1, h2⟩
      all_goals
        go_wp2_with fail
        refine (answers_any _).mono ?_
        rintro e w1 ⟨rfl, hb1⟩
        have HB1 := hide (HB.out.trans (hb1.mono hsz))
        have HRa := hide (HR5.out.later hb1)
        clear hb1
        go_wp2_with fail
        refine (own_any L A5 m c5 _ HRa.out (by omega)).mono ?_
        rintro e w2 ⟨A2, c2, rfl, _, hr2, hb2⟩
        have HB2 := hide (HB1.out.trans (hb2.mono HB1.out.size))
        have HRb := hide (HRa.out.later hb2)
        clear hb2
        go_wp2_with fail
        refine (check_any L A2 m c2 _ hr2 (by omega)).mono ?_
        rintro e w3 ⟨rfl, hb3⟩
        have HB3 := hide (HB2.out.trans (hb3.mono HB2.out.size))
        have HRc := hide (HRb.out.later hb3)
        clear hb3 hr2
        rcases hm0 with hm0 | hm0
        · have hm1 : ((m : Int) == 0) = true := by simp [hm0]
          have hm2 : decide ((64 : Int) < m) = false := by simp; omega
          clear hm0
          go_wp2
          go_ret
          exact ⟨rfl, HB3.out⟩
        · have hm1 : ((m : Int) == 0) = false := by simp; omega
          have hm2 : decide ((64 : Int) < m) = false := by simp; omega
          obtain ⟨b3, o3, rfl, hb3', hc3⟩ := VR.at HRc.out hm0
          obtain ⟨q, hq⟩ : ∃ q, q = m - 1 := ⟨_, rfl⟩
          have ei : ((m : Int) - 1).toNat = q := by omega
          have q1 : (1 : Int) ≤ m := by omega
          have q2 : (m : Int) - 1 < m := by omega
          have hqL : q < L.length := by omega
          obtain ⟨c0, c1, c2'⟩ := hc3 q hqL
          have hqe : ∀ (h : L.length - 1 < L.length), L[L.length - 1] = L[q] := fun h => by congr 1; omega
          have HQE := hide hqe
          have hLp : 0 < L.length := by omega
          have HLP := hide hLp
          clear hq hc3 hqe hLp
          by_cases htt : t < L[q].t
          · have ht1 : decide (t < L[q].t) = true := by simp [htt]
            clear htt
            go_wp2
            go_ret
            exact ⟨rfl, HB3.out⟩
          · have ht1 : decide (t < L[q].t) = false := by simp; omega
            have HTT := hide (show L[q].t ≤ t by omega)
            clear htt
            go_wp2_with fail
            refine (own_any L _ m c5 _ HRc.out (by omega)).mono ?_
            rintro e w4 ⟨A4, c4, rfl, _, hr4, hb4⟩
            have HB4 := hide (HB3.out.trans (hb4.mono HB3.out.size))
            have HRd := hide (HRc.out.later hb4)
            clear hb4
            go_wp2_with fail
            refine (asof_yes L A4 m c4 t _ hr4 (by omega) HL.out).mono ?_
            rintro e w5 ⟨x, rfl, hx, hb5⟩
            have HB5 := hide (HB4.out.trans (hb5.mono HB4.out.size))
            have HRe := hide (HRd.out.later hb5)
            clear hb5 hr4
            have hcl := cut_last HL.out HLP.out (by rw [HQE.out]; exact HTT.out)
            have hx' : x = .tuple #[L[q].val, .int .i64 0] := by
              rcases hx with ⟨h, _⟩ | ⟨r, hr, h, rfl⟩
              · have := cut_uniq h hcl; have := HLP.out; omega
              · have := cut_uniq h hcl
                rw [← HQE.out (by omega)]
                congr 3
                have : r = L.length - 1 := by omega
                simp only [this]
            subst hx'
            clear hx hcl
            unfold Ver.val
            have HB6 := hide (HB5.out.alloc HB5.out.size (vblk L[q].s L[q].t L[q].r))
            have kz := HRe.out
            obtain ⟨b6, o6, h6, hb6, hc6⟩ := VR.at HRe.out hm0
            simp only [Option.some.injEq, Addr.mk.injEq, and_true] at h6
            obtain ⟨rfl, rfl⟩ := h6
            obtain ⟨d0, d1, d2⟩ := hc6 q hqL
            clear hc6 c0 c1 c2' kz
            have hb6' : b3 < w5.heap.size + 1 := by omega
            go_wp2
            refine wp_region_later (by kernel_rfl) (by kernel_rfl) ?_
            repeat (first | go_big_quiet_step (fail) | quiet_step (fail))
            refine wpQuiet_nil ?_; intro _ hw'; obtain ⟨Lw, hLw⟩ := hw'; subst hLw
            go_wp2
            go_ret
            exact ⟨rfl, HB6.out.trans (Lw.h.mono HB6.out.size)⟩
end Go.Proofs.Ytldlaojcbgckjaa
