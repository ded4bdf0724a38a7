/- The law VersionPrunes returns true, whatever list and times. -/
import Derived.Test.YtldlaojcbgckjaaVerOrder
import Derived.Test.YtldlaojcbgckjaaRegion
namespace Go.Proofs.Ytldlaojcbgckjaa
set_option linter.unusedSimpArgs false
set_option linter.unusedVariables false
open Go.RowKit
/-- What Prune answers: the list's two parts, and the error's number. -/
def PruneAns (l : List Ver) (h : Int) (L G : List Ver) (code : Int) : Prop :=
  (checkV l = false ∧ L = [] ∧ G = [] ∧ code = 2) ∨ (checkV l = true ∧ code = 0 ∧ ∃ r, CutAt l h r ∧ L = l.drop (r - 1) ∧ G = l.take (r - 1))
def isVR (n : Nat) (l : List Ver) (v : Value) (w : World) : Prop := ∃ A c, v = .slice A n c ∧ n ≤ c ∧ VR w w.heap.size A n l
theorem isVR.mono {n : Nat} {l : List Ver} {v : Value} {w w' : World} (h : isVR n l v w) (hb : Below w.heap.size w w') : isVR n l v w' := by
  obtain ⟨A, c, h1, h2, h3⟩ := h; exact ⟨A, c, h1, h2, h3.later hb⟩

set_option maxRecDepth 100000 in
set_option maxHeartbeats 2000000 in
theorem prune_any (l : List Ver) (A : Option Addr) (n c : Nat) (hz : Int) (w : World) (hr : VR w w.heap.size A n l) (hn : n * 24 ≤ 140737488351232) (hnc : n ≤ c) :
    Calls Try.prog 13 #[.slice A n c, .int .i64 hz] w fun e w' => ∃ v1 v2 L G code, e = .returned (.tuple #[v1, v2, .int .i64 code]) ∧ PruneAns l hz L G code ∧ isVR L.length L v1 w' ∧ isVR G.length G v2 w' ∧ Below w.heap.size w w' := by
  have hn2 : n ≤ 4611686018427387904 := by omega
  cases hch : checkV l
  · have hk : chkRes l = 2 := by unfold chkRes; rw [hch]; rfl
    have HCH := hide hch
    clear hch
    go_enter Try.func13, Try.ntmps13
    go_wp2_with fail
    refine (check_any l A n c _ hr (by omega)).mono ?_
    rintro e w1 ⟨rfl, hb⟩
    have HB := hide hb
    clear hb
    go_wp2
    go_ret3
    exact ⟨.slice none 0 0, .slice none 0 0, [], [], 2, rfl, .inl ⟨HCH.out, rfl, rfl, rfl⟩, ⟨none, 0, rfl, Nat.le_refl _, Sl.nil _⟩, ⟨none, 0, rfl, Nat.le_refl _, Sl.nil _⟩, HB.out⟩
  · have hk : chkRes l = 0 := by unfold chkRes; rw [hch]; rfl
    have HCH := hide hch
    have hri := rising_of_check hch
    have hl := hr.len
    clear hch
    go_enter Try.func13, Try.ntmps13
    go_wp2_with fail
    refine (check_any l A n c _ hr (by omega)).mono ?_
    rintro e w1 ⟨rfl, hb⟩
    have HB := hide hb
    clear hb
    go_wp2_with fail
    refine (behind_any l A n c hz _ (hr.later HB.out) hn2 hri).mono ?_
    rintro e w2 ⟨r, rfl, hcut, hb⟩
    have HB2 := hide (HB.out.trans (hb.mono HB.out.size))
    have HC := hide hcut
    have hrn : r ≤ n := by have := hcut.1; omega
    clear hcut hb
    go_wp2_with fail
    · have hkk : (0 : Int) = ((r - 1 : Nat) : Int) := by omega
      refine wp_region_facts (by kernel_rfl) (by kernel_rfl) 27
        [⟨19, fun v _ => v = .slice A n c⟩, ⟨20, fun v _ => v = .int .i64 0⟩, ⟨21, isVR (n - (r - 1)) (l.drop (r - 1))⟩, ⟨22, isVR (n - (r - 1)) (l.drop (r - 1))⟩,
         ⟨23, fun v _ => v = .slice A n c⟩, ⟨24, fun v _ => v = .int .i64 0⟩, ⟨25, isVR (r - 1) (l.take (r - 1))⟩, ⟨26, isVR (r - 1) (l.take (r - 1))⟩,
         ⟨4, isVR (n - (r - 1)) (l.drop (r - 1))⟩, ⟨5, isVR (r - 1) (l.take (r - 1))⟩, ⟨6, fun v _ => v = .int .i64 0⟩] (by kernel_rfl) rfl rfl ?_ ?_ ?_
      · intro e he v w w' _ hb hv
        simp only [List.mem_cons, List.not_mem_nil, or_false] at he
        rcases he with rfl | rfl | rfl | rfl | rfl | rfl | rfl | rfl | rfl | rfl | rfl
        all_goals first | exact hv | exact isVR.mono hv hb
      · refine ⟨?_, ?_, ?_, ?_, ?_, ?_, ?_, ?_, ?_, ?_, ?_, trivial⟩
        · intro a w3 hg hd K hK
          exact op_move _ rfl (hK _ _ (Below.refl _ _) (hg.kp 0 (by simp)))
        · intro a w3 hg hd K hK
          exact op_move _ rfl (hK _ _ (Below.refl _ _) (hg.kp 8 (by simp)))
        · intro a w3 hg hd K hK
          have e19 := hd ⟨0, .data⟩ (by simp) rfl _ rfl
          have e20 := hd ⟨1, .data⟩ (by simp) rfl _ rfl
          simp [Act.eval] at e19 e20
          have hr1 : r ≤ n + 1 := by omega
          have HS := hide ((hr.later (HB2.out.trans (hg.hb.mono HB2.out.size))).cut Ver.enc_len (i := r - 1) (cap := c) (by omega) hnc)
          go_simp
          exact hK _ _ (Below.refl _ _) ⟨_, _, rfl, by omega, HS.out⟩
        · intro a w3 hg hd K hK
          obtain ⟨A2, c2, e21, hc2, hs2⟩ := hd ⟨2, .data⟩ (by simp) rfl _ rfl
          simp [Act.eval] at e21
          go_simp
          refine (clone_any _ A2 _ c2 w3 hs2 (by omega)).mono ?_
          rintro e w4 ⟨A3, c3, rfl, hc3, hs3, hb⟩
          exact hK (.slice A3 (n - (r - 1)) c3) w4 hb ⟨A3, c3, rfl, hc3, hs3⟩
        · intro a w3 hg hd K hK
          exact op_move _ rfl (hK _ _ (Below.refl _ _) (hg.kp 0 (by simp)))
        · intro a w3 hg hd K hK
          exact op_move _ rfl (hK _ _ (Below.refl _ _) (hg.kp 8 (by simp)))
        · intro a w3 hg hd K hK
          have e23 := hd ⟨4, .data⟩ (by simp) rfl _ rfl
          have e24 := hd ⟨5, .data⟩ (by simp) rfl _ rfl
          simp [Act.eval] at e23 e24
          have hr1 : r ≤ c + 1 := by omega
          have HS := hide ((hr.later (HB2.out.trans (hg.hb.mono HB2.out.size))).take Ver.enc_len (i := r - 1) (by omega))
          go_simp
          exact hK _ _ (Below.refl _ _) ⟨_, _, rfl, by omega, HS.out⟩
        · intro a w3 hg hd K hK
          obtain ⟨A2, c2, e25, hc2, hs2⟩ := hd ⟨6, .data⟩ (by simp) rfl _ rfl
          simp [Act.eval] at e25
          go_simp
          refine (clone_any _ A2 _ c2 w3 hs2 (by omega)).mono ?_
          rintro e w4 ⟨A3, c3, rfl, hc3, hs3, hb⟩
          exact hK (.slice A3 (r - 1) c3) w4 hb ⟨A3, c3, rfl, hc3, hs3⟩
        · intro a w3 hg hd K hK
          exact op_assign _ rfl (hK _ _ (Below.refl _ _) (hd ⟨3, .data⟩ (by simp) rfl _ rfl))
        · intro a w3 hg hd K hK
          exact op_assign _ rfl (hK _ _ (Below.refl _ _) (hd ⟨7, .data⟩ (by simp) rfl _ rfl))
        · intro a w3 hg hd K hK
          exact op_assign _ rfl (hK _ _ (Below.refl _ _) rfl)
      · intro f w3 hb3 hall
        have h4 := hall ⟨4, isVR (n - (r - 1)) (l.drop (r - 1))⟩ (by simp)
        have h5 := hall ⟨5, isVR (r - 1) (l.take (r - 1))⟩ (by simp)
        have h6 : f 6 = .int .i64 0 := hall ⟨6, fun v _ => v = .int .i64 0⟩ (by simp)
        simp only [fillF, List.map_cons, List.map_nil, List.foldl_cons, List.foldl_nil, Act.put, List.setIfInBounds_toArray, List.set_cons_zero, List.set_cons_succ]
        have H4 := hide h4
        have H5 := hide h5
        have HB3 := hide hb3
        have H6 := hide h6
        clear h4 h5 h6 hall hb3 hkk
        go_wp2
        go_ret3
        refine ⟨f 4, f 5, l.drop (r - 1), l.take (r - 1), 0, by rw [← H6.out]; rfl, .inr ⟨HCH.out, rfl, r, HC.out, rfl, rfl⟩, ?_, ?_, HB2.out.trans (HB3.out.mono HB2.out.size)⟩
        · rw [show (l.drop (r - 1)).length = n - (r - 1) by simp [hl]]; exact H4.out
        · rw [show (l.take (r - 1)).length = r - 1 by simp [hl]; omega]; exact H5.out
    · have hkk : (r : Int) - 1 = ((r - 1 : Nat) : Int) := by omega
      refine wp_region_facts (by kernel_rfl) (by kernel_rfl) 27
        [⟨19, fun v _ => v = .slice A n c⟩, ⟨20, fun v _ => v = .int .i64 ((r : Int) - 1)⟩, ⟨21, isVR (n - (r - 1)) (l.drop (r - 1))⟩, ⟨22, isVR (n - (r - 1)) (l.drop (r - 1))⟩,
         ⟨23, fun v _ => v = .slice A n c⟩, ⟨24, fun v _ => v = .int .i64 ((r : Int) - 1)⟩, ⟨25, isVR (r - 1) (l.take (r - 1))⟩, ⟨26, isVR (r - 1) (l.take (r - 1))⟩,
         ⟨4, isVR (n - (r - 1)) (l.drop (r - 1))⟩, ⟨5, isVR (r - 1) (l.take (r - 1))⟩, ⟨6, fun v _ => v = .int .i64 0⟩] (by kernel_rfl) rfl rfl ?_ ?_ ?_
      · intro e he v w w' _ hb hv
        simp only [List.mem_cons, List.not_mem_nil, or_false] at he
        rcases he with rfl | rfl | rfl | rfl | rfl | rfl | rfl | rfl | rfl | rfl | rfl
        all_goals first | exact hv | exact isVR.mono hv hb
      · refine ⟨?_, ?_, ?_, ?_, ?_, ?_, ?_, ?_, ?_, ?_, ?_, trivial⟩
        · intro a w3 hg hd K hK
          exact op_move _ rfl (hK _ _ (Below.refl _ _) (hg.kp 0 (by simp)))
        · intro a w3 hg hd K hK
          exact op_move _ rfl (hK _ _ (Below.refl _ _) (hg.kp 8 (by simp)))
        · intro a w3 hg hd K hK
          have e19 := hd ⟨0, .data⟩ (by simp) rfl _ rfl
          have e20 := hd ⟨1, .data⟩ (by simp) rfl _ rfl
          simp [Act.eval] at e19 e20
          have hr1 : r ≤ n + 1 := by omega
          have HS := hide ((hr.later (HB2.out.trans (hg.hb.mono HB2.out.size))).cut Ver.enc_len (i := r - 1) (cap := c) (by omega) hnc)
          go_simp
          exact hK _ _ (Below.refl _ _) ⟨_, _, rfl, by omega, HS.out⟩
        · intro a w3 hg hd K hK
          obtain ⟨A2, c2, e21, hc2, hs2⟩ := hd ⟨2, .data⟩ (by simp) rfl _ rfl
          simp [Act.eval] at e21
          go_simp
          refine (clone_any _ A2 _ c2 w3 hs2 (by omega)).mono ?_
          rintro e w4 ⟨A3, c3, rfl, hc3, hs3, hb⟩
          exact hK (.slice A3 (n - (r - 1)) c3) w4 hb ⟨A3, c3, rfl, hc3, hs3⟩
        · intro a w3 hg hd K hK
          exact op_move _ rfl (hK _ _ (Below.refl _ _) (hg.kp 0 (by simp)))
        · intro a w3 hg hd K hK
          exact op_move _ rfl (hK _ _ (Below.refl _ _) (hg.kp 8 (by simp)))
        · intro a w3 hg hd K hK
          have e23 := hd ⟨4, .data⟩ (by simp) rfl _ rfl
          have e24 := hd ⟨5, .data⟩ (by simp) rfl _ rfl
          simp [Act.eval] at e23 e24
          have hr1 : r ≤ c + 1 := by omega
          have HS := hide ((hr.later (HB2.out.trans (hg.hb.mono HB2.out.size))).take Ver.enc_len (i := r - 1) (by omega))
          go_simp
          exact hK _ _ (Below.refl _ _) ⟨_, _, rfl, by omega, HS.out⟩
        · intro a w3 hg hd K hK
          obtain ⟨A2, c2, e25, hc2, hs2⟩ := hd ⟨6, .data⟩ (by simp) rfl _ rfl
          simp [Act.eval] at e25
          go_simp
          refine (clone_any _ A2 _ c2 w3 hs2 (by omega)).mono ?_
          rintro e w4 ⟨A3, c3, rfl, hc3, hs3, hb⟩
          exact hK (.slice A3 (r - 1) c3) w4 hb ⟨A3, c3, rfl, hc3, hs3⟩
        · intro a w3 hg hd K hK
          exact op_assign _ rfl (hK _ _ (Below.refl _ _) (hd ⟨3, .data⟩ (by simp) rfl _ rfl))
        · intro a w3 hg hd K hK
          exact op_assign _ rfl (hK _ _ (Below.refl _ _) (hd ⟨7, .data⟩ (by simp) rfl _ rfl))
        · intro a w3 hg hd K hK
          exact op_assign _ rfl (hK _ _ (Below.refl _ _) rfl)
      · intro f w3 hb3 hall
        have h4 := hall ⟨4, isVR (n - (r - 1)) (l.drop (r - 1))⟩ (by simp)
        have h5 := hall ⟨5, isVR (r - 1) (l.take (r - 1))⟩ (by simp)
        have h6 : f 6 = .int .i64 0 := hall ⟨6, fun v _ => v = .int .i64 0⟩ (by simp)
        simp only [fillF, List.map_cons, List.map_nil, List.foldl_cons, List.foldl_nil, Act.put, List.setIfInBounds_toArray, List.set_cons_zero, List.set_cons_succ]
        have H4 := hide h4
        have H5 := hide h5
        have HB3 := hide hb3
        have H6 := hide h6
        clear h4 h5 h6 hall hb3 hkk
        go_wp2
        go_ret3
        refine ⟨f 4, f 5, l.drop (r - 1), l.take (r - 1), 0, by rw [← H6.out]; rfl, .inr ⟨HCH.out, rfl, r, HC.out, rfl, rfl⟩, ?_, ?_, HB2.out.trans (HB3.out.mono HB2.out.size)⟩
        · rw [show (l.drop (r - 1)).length = n - (r - 1) by simp [hl]]; exact H4.out
        · rw [show (l.take (r - 1)).length = r - 1 by simp [hl]; omega]; exact H5.out

/-! The plain law -/
theorem cut_uniq {l : List Ver} {t : Int} {a b : Nat} (ha : CutAt l t a) (hb : CutAt l t b) : a = b := by
  rcases Nat.lt_trichotomy a b with h | h | h
  · have hl : a < l.length := by have := hb.1; omega
    have := ha.2.2 a hl (by omega); have := hb.2.1 a hl h; omega
  · exact h
  · have hl : b < l.length := by have := ha.1; omega
    have := hb.2.2 b hl (by omega); have := ha.2.1 b hl h; omega
theorem cut_drop {l : List Ver} {t : Int} {a k : Nat} (ha : CutAt l t a) (hk : k ≤ a) : CutAt (l.drop k) t (a - k) := by
  obtain ⟨h1, h2, h3⟩ := ha
  refine ⟨by simp; omega, fun i hi hia => ?_, fun i hi hia => ?_⟩
  · simp only [List.length_drop] at hi
    rw [List.getElem_drop]; exact h2 (k + i) (by omega) (by omega)
  · simp only [List.length_drop] at hi
    rw [List.getElem_drop]; exact h3 (k + i) (by omega) (by omega)
theorem check_okTo {l : List Ver} (h : checkV l = true) : okTo l l.length ∧ l.length ≤ 64 := by
  unfold checkV at h
  simp only [Bool.and_eq_true, List.all_eq_true, List.mem_range, decide_eq_true_eq] at h
  exact h
theorem check_drop {l : List Ver} (h : checkV l = true) (k : Nat) : checkV (l.drop k) = true := by
  obtain ⟨h1, h2⟩ := check_okTo h
  refine checkV_yes (fun i hi => ?_) (by simp; omega)
  simp only [List.length_drop] at hi
  have h3 := h1 (k + i) (by omega)
  rw [okAt_eq (by omega)] at h3
  rw [okAt_eq (by simp; omega)]
  simp only [List.getElem_drop]
  rw [Bool.and_eq_true] at h3 ⊢
  refine ⟨h3.1, ?_⟩
  by_cases hi0 : i = 0
  · simp [hi0]
  · have h4 := h3.2
    have hki : k + i ≠ 0 := by omega
    simp only [hki, decide_false, Bool.false_or] at h4
    rw [Bool.or_eq_true]
    right
    rw [List.getElem?_drop, show k + (i - 1) = k + i - 1 by omega]
    exact h4
theorem asof_drop {l : List Ver} {hz t : Int} {r : Nat} {x y : Value} (hch : checkV l = true) (hr : CutAt l hz r) (ht : hz ≤ t) (hx : AsOfAns l t x) (hy : AsOfAns (l.drop (r - 1)) t y) : x = y := by
  have hcd := check_drop hch (r - 1)
  rcases hx with ⟨h, _⟩ | ⟨_, hc, rfl⟩ | ⟨q, hq, _, hc, rfl⟩
  · rw [hch] at h; cases h
  · have hr0 : r = 0 := by
      rcases Nat.eq_zero_or_pos r with h | h
      · exact h
      · have hl : 0 < l.length := by have := hr.1; omega
        have := hc.2.2 0 hl (by omega); have := hr.2.1 0 hl h; omega
    subst hr0
    simp only [Nat.zero_sub, List.drop_zero] at hy
    rcases hy with ⟨h, _⟩ | ⟨_, _, rfl⟩ | ⟨q, hq, _, hc', rfl⟩
    · rw [hch] at h; cases h
    · rfl
    · have := cut_uniq hc hc'; omega
  · have hrq : r ≤ q + 1 := by
      rcases Nat.lt_or_ge (q + 1) r with h | h
      · have hl : q + 1 < l.length := by have := hr.1; omega
        have := hc.2.2 (q + 1) hl (by omega); have := hr.2.1 (q + 1) hl h; omega
      · exact h
    have hcq := cut_drop (k := r - 1) hc (by omega)
    rcases hy with ⟨h, _⟩ | ⟨_, hc', rfl⟩ | ⟨q', hq', _, hc', rfl⟩
    · rw [hcd] at h; cases h
    · have := cut_uniq hcq hc'; omega
    · have hqq := cut_uniq hcq hc'
      rw [List.getElem_drop]
      congr 3
      have : r - 1 + q' = q := by omega
      simp only [this]
end Go.Proofs.Ytldlaojcbgckjaa
