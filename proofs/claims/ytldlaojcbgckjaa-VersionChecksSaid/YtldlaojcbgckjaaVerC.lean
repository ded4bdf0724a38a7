/- Versions: AsOf, the reference's AsOf and Same, answers. -/
import Derived.Test.YtldlaojcbgckjaaVerB
namespace Go.Proofs.Ytldlaojcbgckjaa
set_option linter.unusedSimpArgs false
set_option linter.unusedVariables false
open Go.RowKit
def Ver.val (v : Ver) : Value := .agg #[.int .i64 v.s, .int .i64 v.t, .int .i64 v.r]
def zeroV : Value := .agg #[.int .i64 0, .int .i64 0, .int .i64 0]
/-- What AsOf answers. -/
def AsOfAns (l : List Ver) (t : Int) (x : Value) : Prop :=
  (checkV l = false ∧ x = .tuple #[zeroV, .int .i64 2]) ∨ (checkV l = true ∧ CutAt l t 0 ∧ x = .tuple #[zeroV, .int .i64 20]) ∨
  ∃ r, ∃ h : r < l.length, checkV l = true ∧ CutAt l t (r + 1) ∧ x = .tuple #[l[r].val, .int .i64 0]
set_option maxHeartbeats 400000 in
theorem asof_any (l : List Ver) (A : Option Addr) (n c : Nat) (t : Int) (w : World) (hr : VR w w.heap.size A n l) (hn : n ≤ 4611686018427387904) :
    Calls Try.prog 8 #[.slice A n c, .int .i64 t] w fun e w' => ∃ x, e = .returned x ∧ AsOfAns l t x ∧ Below w.heap.size w w' := by
  have B0 : Below w.heap.size w (w.alloc (Obj.cells #[Value.int IntKind.i64 0, Value.int IntKind.i64 0, Value.int IntKind.i64 0] 24)) := (Below.refl _ _).alloc (Nat.le_refl _) _
  have K0 : Blk (w.alloc (Obj.cells #[Value.int IntKind.i64 0, Value.int IntKind.i64 0, Value.int IntKind.i64 0] 24)) w.heap.size 24 #[Value.int IntKind.i64 0, Value.int IntKind.i64 0, Value.int IntKind.i64 0] := Blk.new _ _ _
  cases hch : checkV l
  · have hk : chkRes l = 2 := by unfold chkRes; rw [hch]; rfl
    have HCH := hide hch
    clear hch
    go_enter Try.func8, Try.ntmps8
    go_wp2_with (go_at_call 15; refine (check_any l A n c _ (hr.later B0) (by omega)).mono ?_; rintro e w1 ⟨rfl, hb⟩; have hB1 := hide (B0.trans (hb.mono B0.size)); have K1 := K0.below hb (by simp); have kc := K1.cell; have kf := K1.frozen; have kz := K1.lt; clear hb)
    refine bodyPost_ret (v := .tuple #[zeroV, .int .i64 2]) (by simp [results, Try.results8, go_sem, zeroV, kc]) rfl ⟨_, rfl, .inl ⟨HCH.out, rfl⟩, ?_⟩
    exact ((hB1.out.setCell (Nat.le_refl _) _).setCell (Nat.le_refl _) _).setCell (Nat.le_refl _) _
  · have hk : chkRes l = 0 := by unfold chkRes; rw [hch]; rfl
    have HCH := hide hch
    have hri := rising_of_check hch
    have hl := hr.len
    clear hch
    go_enter Try.func8, Try.ntmps8
    go_wp2_with (go_at_call 15; refine (check_any l A n c _ (hr.later B0) (by omega)).mono ?_; rintro e w1 ⟨rfl, hb⟩; have hB1 := hide (B0.trans (hb.mono B0.size)); have K1 := hide (K0.below hb (by simp)); clear hb)
    refine (behind_any l A n c t _ (hr.later hB1.out) hn hri).mono ?_
    rintro e w2 ⟨r, rfl, hcut, hb⟩
    have hB2 := hide (hB1.out.trans (hb.mono hB1.out.size))
    have K2 := K1.out.below hb K1.out.lt
    have kc := K2.cell; have kf := K2.frozen; have kz := K2.lt
    rcases Nat.eq_zero_or_pos r with hr0 | hr0
    · subst hr0
      have HC := hide hcut
      clear hcut hb
      go_wp2
      refine bodyPost_ret (v := .tuple #[zeroV, .int .i64 20]) (by simp [results, Try.results8, go_sem, zeroV, kc]) rfl ⟨_, rfl, .inr (.inl ⟨HCH.out, HC.out, rfl⟩), ?_⟩
      exact ((hB2.out.setCell (Nat.le_refl _) _).setCell (Nat.le_refl _) _).setCell (Nat.le_refl _) _
    · have hrn : r ≤ n := by have := hcut.1; omega
      obtain ⟨q, rfl⟩ : ∃ q, r = q + 1 := ⟨r - 1, by omega⟩
      obtain ⟨bb, o, rfl, hbl, hc⟩ := VR.at (hr.below hB2.out) (by omega)
      obtain ⟨c0, c1, c2⟩ := hc q (by omega)
      have hql : q < l.length := by omega
      have hne : bb ≠ w.heap.size := by omega
      have hbl2 : bb < w2.heap.size := by omega
      have HC := hide hcut
      clear hcut hb hc
      go_wp2
      refine bodyPost_ret (v := .tuple #[l[q].val, .int .i64 0]) (by simp [results, Try.results8, go_sem, Ver.val, kc]) rfl ⟨_, rfl, .inr (.inr ⟨q, hql, HCH.out, HC.out, rfl⟩), ?_⟩
      exact ((hB2.out.setCell (Nat.le_refl _) _).setCell (Nat.le_refl _) _).setCell (Nat.le_refl _) _
/-- What the reference's AsOf answers. -/
def RAsOf (l : List Ver) (t r : Int) : Prop := (r = -1 ∧ (∀ i (h : i < l.length), t < l[i].t)) ∨ ∃ k : Nat, r = k ∧ ∃ h : k < l.length, l[k].t ≤ t ∧ ∀ i (h : i < l.length), k < i → t < l[i].t
set_option maxRecDepth 100000 in
set_option maxHeartbeats 400000 in
theorem rasof_any (l : List Ver) (A : Option Addr) (n c : Nat) (t : Int) (w : World) (hr : VR w w.heap.size A n l) (hn : n ≤ 9223372036854775807) :
    Calls Try.prog 12 #[.slice A n c, .int .i64 t] w fun e w' => ∃ r : Int, e = .returned (.int .i64 r) ∧ RAsOf l t r ∧ w = w' := by
  go_enter Try.func12, Try.ntmps12
  go_wp2
  go_loop [5, 6] (fun r i => ∃ a : Nat, ∃ q : Int, a ≤ n ∧ i = .int .i64 a ∧ r = .int .i64 q ∧ (q = -1 ∧ (∀ i (h : i < l.length), i < a → t < l[i].t) ∨ ∃ k : Nat, q = k ∧ k < a ∧ ∃ h : k < l.length, l[k].t ≤ t ∧ ∀ i (h : i < l.length), k < i → i < a → t < l[i].t)) (fun _ i => n - (intOf i).toNat)
  case atStart => exact ⟨0, -1, by omega, rfl, rfl, .inl ⟨rfl, fun i h hi => by omega⟩⟩
  case round =>
    obtain ⟨a, q, han, rfl, rfl, hq⟩ := hrel
    have hl := hr.len
    have HQ := hide hq
    clear hq
    by_cases hlt : a < n
    · obtain ⟨bb, o, rfl, hbl, hc⟩ := VR.at hr (by omega)
      have hal : a < l.length := by omega
      obtain ⟨c0, c1, c2⟩ := hc a (by omega)
      by_cases ht : l[a].t ≤ t
      · go_wp2
        go_round
        case rel => exact ⟨a + 1, a, by omega, by go_num, rfl, .inr ⟨a, rfl, by omega, hal, ht, fun i h hi hj => by omega⟩⟩
        case measure => simp [intOf]; omega
      · go_wp2
        go_round
        case rel =>
          refine ⟨a + 1, q, by omega, by go_num, rfl, ?_⟩
          rcases HQ.out with ⟨rfl, h⟩ | ⟨k, rfl, hk, hkl, hkt, h⟩
          · refine .inl ⟨rfl, fun i h1 hi => ?_⟩
            rcases Nat.lt_succ_iff_lt_or_eq.1 hi with h2 | rfl
            · exact h i h1 h2
            · omega
          · refine .inr ⟨k, rfl, by omega, hkl, hkt, fun i h1 hi hj => ?_⟩
            rcases Nat.lt_succ_iff_lt_or_eq.1 hj with h2 | rfl
            · exact h i h1 hi h2
            · omega
        case measure => simp [intOf]; omega
    · go_wp2
      go_ret
      refine ⟨q, rfl, ?_, rfl⟩
      rcases HQ.out with ⟨rfl, h⟩ | ⟨k, rfl, hk, hkl, hkt, h⟩
      · exact .inl ⟨rfl, fun i h1 => h i h1 (by omega)⟩
      · exact .inr ⟨k, rfl, hkl, hkt, fun i h1 hi => h i h1 hi (by omega)⟩

set_option maxRecDepth 100000 in
set_option maxHeartbeats 400000 in
theorem answers_any (w : World) :
    Calls Try.prog 11 #[] w fun e w' => e = .returned (.bool true) ∧ Below w.heap.size w w' := by
  go_enter Try.func11, Try.ntmps11
  have K0 : Blk (w.alloc (Obj.cells #[Value.int IntKind.i64 1, Value.int IntKind.i64 5, Value.int IntKind.i64 2] 24)) w.heap.size 24 #[Value.int IntKind.i64 1, Value.int IntKind.i64 5, Value.int IntKind.i64 2] := Blk.new _ _ _
  have B0 : Below w.heap.size w (w.alloc (Obj.cells #[Value.int IntKind.i64 1, Value.int IntKind.i64 5, Value.int IntKind.i64 2] 24)) := (Below.refl _ _).alloc (Nat.le_refl _) _
  go_wp2_with fail
  refine (asof_any [⟨1, 5, 2⟩] _ 1 1 7 _ (Sl.of_blk K0 rfl rfl rfl) (by omega)).mono ?_
  rintro e w1 ⟨x, rfl, hx, hb⟩
  have hx1 : x = .tuple #[.agg #[.int .i64 1, .int .i64 5, .int .i64 2], .int .i64 0] := by
    rcases hx with ⟨h, _⟩ | ⟨_, h, _⟩ | ⟨r, hr, _, _, h⟩
    · exact absurd h (by decide)
    · have := h.2.2 0 (by simp) (by omega)
      simp at this
    · have : r = 0 := by simp at hr; omega
      subst this
      exact h
  subst hx1
  have hB1 := hide (B0.trans (hb.mono B0.size))
  have hz := hb.size
  simp at hz
  clear hx hb
  go_wp2
  go_ret
  exact ⟨rfl, hB1.out.alloc hB1.out.size _⟩

set_option maxRecDepth 100000 in
set_option maxHeartbeats 400000 in
theorem same_any (l m : List Ver) (A B : Option Addr) (n k c d : Nat) (w : World) (hr : VR w w.heap.size A n l) (hs : VR w w.heap.size B k m) (hn : n ≤ 9223372036854775807) (hk : k ≤ 9223372036854775807) (hlm : l = m) :
    Calls Try.prog 14 #[.slice A n c, .slice B k d] w fun e w' => e = .returned (.bool true) ∧ Below w.heap.size w w' := by
  subst hlm
  have hnk : n = k := hr.1.symm.trans hs.1
  subst hnk
  go_enter Try.func14, Try.ntmps14
  go_wp2
  go_loopw [5] (fun i wr => ∃ a : Nat, a ≤ n ∧ i = .int .i64 a ∧ Below w.heap.size w wr) (fun i _ => n - (intOf i).toNat)
  case atStart => exact ⟨0, by omega, rfl, Below.refl _ _⟩
  case round =>
    obtain ⟨a, han, rfl, hb⟩ := hrel
    have hl := hr.len
    have HB := hide hb
    by_cases hlt : a < n
    · obtain ⟨b1, o1, rfl, hbl1, hc1⟩ := VR.at (hr.below hb) (by omega)
      obtain ⟨b2, o2, rfl, hbl2, hc2⟩ := VR.at (hs.below hb) (by omega)
      obtain ⟨c0, c1, c2⟩ := hc1 a (by omega)
      obtain ⟨d0, d1, d2⟩ := hc2 a (by omega)
      have hb1 : b1 < wr.heap.size := by have := hb.size; omega
      have hb2 : b2 < wr.heap.size := by have := hb.size; omega
      clear hc1 hc2 hb
      go_wp2
      refine wp_region_later (by kernel_rfl) (by kernel_rfl) ?_
      repeat (first | go_big_quiet_step (fail) | quiet_step (fail))
      refine wpQuiet_nil ?_; intro _ hw'; obtain ⟨L, hL⟩ := hw'; subst hL
      go_wp2
      go_roundw
      case rel => exact ⟨a + 1, by omega, by go_num, HB.out.trans (L.h.mono HB.out.size)⟩
      case measure => simp [intOf]; omega
    · clear hb
      go_wp2
      go_ret
      exact ⟨rfl, HB.out⟩
end Go.Proofs.Ytldlaojcbgckjaa
