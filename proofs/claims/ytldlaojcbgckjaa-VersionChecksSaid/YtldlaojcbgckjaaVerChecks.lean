/- The law VersionChecks returns true, whatever list and version. -/
import Derived.Test.YtldlaojcbgckjaaVerRAdd
import Derived.Test.YtldlaojcbgckjaaVerGrows
namespace Go.Proofs.Ytldlaojcbgckjaa
set_option linter.unusedSimpArgs false
set_option linter.unusedVariables false
open Go.RowKit
set_option maxRecDepth 100000 in
set_option maxHeartbeats 2000000 in
theorem lawChecks_any (l : List Ver) (A : Option Addr) (n c : Nat) (v : Ver) (w : World) (hr : VR w w.heap.size A n l) (hn : n * 24 ≤ 140737488351232) :
    Calls Try.prog 6 #[.slice A n c, .agg #[.int .i64 v.s, .int .i64 v.t, .int .i64 v.r]] w fun e w' => e = .returned (.bool true) ∧ Below w.heap.size w w' := by
  have hn' : n ≤ 9223372036854775807 := by omega
  have B0 : Below w.heap.size w (w.alloc (vblk v.s v.t v.r)) := (Below.refl _ _).alloc (Nat.le_refl _) _
  have K0 : Blk (w.alloc (vblk v.s v.t v.r)) w.heap.size 24 #[Value.int IntKind.i64 v.s, Value.int IntKind.i64 v.t, Value.int IntKind.i64 v.r] := Blk.new _ _ _
  have HR0 := hide (hr.later B0)
  go_enter Try.func6, Try.ntmps6
  go_wp2_with fail
  refine (own_any l A n c _ HR0.out hn).mono ?_
  rintro e w1 ⟨A1, c1, rfl, _, hr1, hb1⟩
  have HB1 := hide (B0.trans (hb1.mono B0.size))
  have HK1 := hide (K0.below hb1 K0.lt)
  clear hb1 B0 K0
  go_wp2_with fail
  refine (check_any l A1 n c1 _ hr1 hn').mono ?_
  rintro e w2 ⟨rfl, hb2⟩
  have HB2 := hide (HB1.out.trans (hb2.mono HB1.out.size))
  have HK2 := hide (HK1.out.below hb2 HK1.out.lt)
  have HR2 := hide (hr.later HB2.out)
  have kz2 := HK2.out.lt
  clear hb2 hr1
  go_wp2_with fail
  refine wp_region_facts (by kernel_rfl) (by kernel_rfl) 52
    [⟨14, fun x _ => x = .slice A n c⟩, ⟨15, isVR n l⟩, ⟨16, fun x _ => x = v.val⟩, ⟨17, isAdd l v⟩, ⟨13, isAdd l v⟩, ⟨18, isList (addList l v)⟩, ⟨19, fun x _ => x = .int .i64 (addCode l v)⟩, ⟨6, isList (addList l v)⟩, ⟨7, fun x _ => x = .int .i64 (addCode l v)⟩] (by kernel_rfl) rfl rfl ?_ ?_ ?_
  · intro e he v w w' _ hb hv
    simp only [List.mem_cons, List.not_mem_nil, or_false] at he
    rcases he with rfl | rfl | rfl | rfl | rfl | rfl | rfl | rfl | rfl
    all_goals first | exact hv | exact isVR.mono hv hb | exact isAdd.mono hv hb | exact isList.mono hv hb
  · refine ⟨?_, ?_, ?_, ?_, ?_, ?_, ?_, ?_, ?_, trivial⟩
    · intro a w3 hg hd K hK
      exact op_move _ rfl (hK _ _ (Below.refl _ _) (hg.kp 0 (by simp)))
    · intro a w3 hg hd K hK
      have e14 := hd ⟨0, .data⟩ (by simp) rfl _ rfl
      simp [Act.eval] at e14
      go_simp
      refine (own_any l A n c w3 (HR2.out.later hg.hb) hn).mono ?_
      rintro e w4 ⟨A', c', rfl, hc', hr', hb'⟩
      exact hK (.slice A' n c') w4 hb' ⟨A', c', rfl, hc', hr'⟩
    · intro a w3 hg hd K hK
      have e3 := hg.kp 3 (by simp)
      simp [Act.eval] at e3
      have kc3 := (HK2.out.below hg.hb kz2).cell
      go_simp
      exact hK _ _ (Below.refl _ _) rfl
    · intro a w3 hg hd K hK
      obtain ⟨A', c', e15, hc', hr'⟩ := hd ⟨1, .data⟩ (by simp) rfl _ rfl
      have e16 := hd ⟨2, .data⟩ (by simp) rfl _ rfl
      simp [Act.eval] at e15 e16
      unfold Ver.val at e16
      go_simp
      refine (add_any l v A' n c' w3 hr' hn).mono ?_
      rintro e w4 ⟨A2, m2, c2, rfl, hm2, hr2, hb2⟩
      exact hK _ w4 hb2 ⟨A2, m2, c2, rfl, hm2, hr2⟩
    · intro a w3 hg hd K hK
      exact op_move _ rfl (hK _ _ (Below.refl _ _) (hd ⟨3, .data⟩ (by simp) rfl _ rfl))
    · intro a w3 hg hd K hK
      obtain ⟨A2, m2, c2, e13, hm2, hr2⟩ := hd ⟨4, .data⟩ (by simp) rfl _ rfl
      simp [Act.eval] at e13
      go_simp
      exact hK _ _ (Below.refl _ _) ⟨A2, m2, c2, rfl, hm2, hr2⟩
    · intro a w3 hg hd K hK
      obtain ⟨A2, m2, c2, e13, hm2, hr2⟩ := hd ⟨4, .data⟩ (by simp) rfl _ rfl
      simp [Act.eval] at e13
      go_simp
      exact hK _ _ (Below.refl _ _) rfl
    · intro a w3 hg hd K hK
      exact op_assign _ rfl (hK _ _ (Below.refl _ _) (hd ⟨5, .data⟩ (by simp) rfl _ rfl))
    · intro a w3 hg hd K hK
      exact op_assign _ rfl (hK _ _ (Below.refl _ _) (hd ⟨6, .data⟩ (by simp) rfl _ rfl))
  · intro f w3 hb3 hall
    obtain ⟨A6, m6, c6, h6, hm6, hr6⟩ := hall ⟨6, isList (addList l v)⟩ (by simp)
    have h7 : f 7 = .int .i64 (addCode l v) := hall ⟨7, fun x _ => x = .int .i64 (addCode l v)⟩ (by simp)
    simp only [fillF, List.map_cons, List.map_nil, List.foldl_cons, List.foldl_nil, Act.put, List.setIfInBounds_toArray, List.set_cons_zero, List.set_cons_succ]
    simp only at h6
    rw [h6, h7]
    have HB3 := hide (HB2.out.trans (hb3.mono HB2.out.size))
    have HK3 := hide (HK2.out.below hb3 kz2)
    have HR6 := hide hr6
    have kc3 := HK3.out.cell
    clear h6 h7 hall hb3 hr6
    go_wp2_with fail
    refine (radd_any l v A n c _ (hr.later HB3.out) hn).mono ?_
    rintro e w4 ⟨A8, m8, c8, rfl, hm8, hr8, hb4⟩
    have HB4 := hide (HB3.out.trans (hb4.mono HB3.out.size))
    have HR6b := hide (HR6.out.later hb4)
    have HR8 := hide hr8
    clear hb4 hr8 kc3
    have hm6b : m6 ≤ 9223372036854775807 := by
      have := HR6.out.len
      unfold addList at this
      have hl := hr.len
      split at this <;> simp at this <;> omega
    have hm8b : m8 ≤ 9223372036854775807 := by have := HR6.out.len; have := HR8.out.len; omega
    go_wp2_with fail
    refine (answers_any _).mono ?_
    rintro e w5 ⟨rfl, hb5⟩
    have HB5 := hide (HB4.out.trans (hb5.mono HB4.out.size))
    have HR6c := hide (HR6b.out.later hb5)
    have HR8c := hide (HR8.out.later hb5)
    clear hb5
    cases hch : checkV l
    all_goals
      have hk : chkRes l = (if checkV l then 0 else 2) := rfl
      rw [hch] at hk
      simp at hk
      have HCH := hide hch
      clear hch
      go_wp2_with fail
      refine (rcheck_b l A n c _ (hr.later HB5.out) hn' HCH.out).mono ?_
      rintro e w6 ⟨rfl, hb6⟩
      have HB6 := hide (HB5.out.trans (hb6.mono HB5.out.size))
      have HR6d := hide (HR6c.out.later hb6)
      have HR8d := hide (HR8c.out.later hb6)
      clear hb6
      go_wp2_with fail
      refine (same_any _ _ A6 A8 m6 m8 c6 c8 _ HR6d.out HR8d.out hm6b hm8b rfl).mono ?_
      rintro e w7 ⟨rfl, hb7⟩
      have HB7 := hide (HB6.out.trans (hb7.mono HB6.out.size))
      clear hb7
      go_wp2
      go_ret
      exact ⟨rfl, HB7.out⟩
end Go.Proofs.Ytldlaojcbgckjaa
