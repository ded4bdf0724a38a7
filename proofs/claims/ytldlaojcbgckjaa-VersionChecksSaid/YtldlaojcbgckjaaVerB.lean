/- Versions: own, slices.Clone, the search, AsOf. -/
import Derived.Test.YtldlaojcbgckjaaVerA
import Derived.Lib.LazyBuf
namespace Go.Proofs.Ytldlaojcbgckjaa
set_option linter.unusedSimpArgs false
set_option linter.unusedVariables false
open Go.RowKit
theorem ver_info : (Try.prog.info? 24).map (fun i => (i.zero, i.size, i.bytes)) = some (some (.agg #[.int .i64 0, .int .i64 0, .int .i64 0]), 3, 24) := by kernel_rfl
theorem ver_one (l : List Ver) : ∀ u ∈ l.flatMap Ver.enc, u.oneCell' = true := by
  intro u hu
  obtain ⟨v, _, hv⟩ := List.mem_flatMap.1 hu
  simp [Ver.enc] at hv
  rcases hv with rfl | rfl | rfl <;> rfl

set_option maxHeartbeats 400000 in
theorem own_row (l : List Ver) (A : Option Addr) (n c : Nat) (w : World) (hr : VR w w.heap.size A n l) (hn : n * 24 ≤ 140737488351232) :
    Calls Try.prog 9 #[.slice A n c] w fun e w' => ∃ v, e = .returned v ∧ w'.ownsRow w.heap.size 24 3 v n (l.flatMap Ver.enc) ∧ Below w.heap.size w w' := by
  obtain ⟨i0, hi0, hz0, hz1, hz2⟩ := info_parts ver_info
  go_enter Try.func9, Try.ntmps9
  go_wp2_with (at_builtin; refine wpList_append_any _ rfl (.tmp 3) (.tmp 4) _ rfl w.heap.size 24 i0 _ 3 24 Try.underlying22 hi0 hz0 hz1 hz2 rfl (by omega) (.slice (some ⟨w.heap.size, 0, none⟩) 0 0) 0 [] rfl (World.ownsRow_made w #[] 0 (Nat.le_refl _) (Nat.zero_le _) rfl) w.heap.size A n c (l.flatMap Ver.enc) rfl (hr.2.alloc (Nat.le_refl _) _) (ver_one l) (by unfold maxLen; omega) (by omega) (by simp) ?_; intro v1 w1 hown1 hg1 hat1)
  go_ret
  exact ⟨v1, rfl, by simpa using hown1, ((Below.refl _ _).alloc (Nat.le_refl _) _).grown hg1 (by simp) (fun k hk => by simp [Value.ownBlock] at hk; omega)⟩
theorem own_any (l : List Ver) (A : Option Addr) (n c : Nat) (w : World) (hr : VR w w.heap.size A n l) (hn : n * 24 ≤ 140737488351232) :
    Calls Try.prog 9 #[.slice A n c] w fun e w' => ∃ A' c', e = .returned (.slice A' n c') ∧ n ≤ c' ∧ VR w' w'.heap.size A' n l ∧ Below w.heap.size w w' :=
  (own_row l A n c w hr hn).mono fun e w' ⟨v, he, ho, hb⟩ => by
    obtain ⟨A', c', rfl, hc, _, hs⟩ := Sl.of_owns (n := n) (l := l) (enc := Ver.enc) ho rfl hr.1 rfl
    exact ⟨A', c', he, hc, hs, hb⟩

set_option maxHeartbeats 400000 in
theorem clone_row (l : List Ver) (A : Option Addr) (n c : Nat) (w : World) (hr : VR w w.heap.size A n l) (hn : n * 24 ≤ 140737488351232) :
    Calls Try.prog 20 #[.slice A n c] w fun e w' => ∃ v, e = .returned v ∧ w'.ownsRow w.heap.size 24 3 v n (l.flatMap Ver.enc) ∧ Below w.heap.size w w' := by
  obtain ⟨i0, hi0, hz0, hz1, hz2⟩ := info_parts ver_info
  have heq := fun w a l c => Lib.run_eql_slice_nil (P := Try.prog) w 22 24 a l c 0 0 Try.underlying22
  rcases A with _ | ad
  · have hn0 : n = 0 := by
      rcases Nat.eq_zero_or_pos n with h | h
      · exact h
      · obtain ⟨_, h, _⟩ := hr.2.2 h; cases h
    subst hn0
    have hl : l = [] := List.eq_nil_of_length_eq_zero hr.1
    subst hl
    go_enter Try.func20, Try.ntmps20
    go_wp2
    go_ret
    exact ⟨_, rfl, World.ownsRow_nil _ _ _ _, Below.refl _ _⟩
  · go_enter Try.func20, Try.ntmps20
    go_wp2_with (at_builtin; refine wpList_append_any _ rfl (.tmp 5) (.tmp 6) _ rfl w.heap.size 24 i0 _ 3 24 Try.underlying22 hi0 hz0 hz1 hz2 rfl (by omega) (.slice (some ⟨w.heap.size, 0, none⟩) 0 0) 0 [] rfl (World.ownsRow_made w #[] 0 (Nat.le_refl _) (Nat.zero_le _) rfl) w.heap.size (some ad) n c (l.flatMap Ver.enc) rfl (hr.2.alloc (Nat.le_refl _) _) (ver_one l) (by unfold maxLen; omega) (by omega) (by simp) ?_; intro v1 w1 hown1 hg1 hat1)
    go_ret
    exact ⟨v1, rfl, by simpa using hown1, ((Below.refl _ _).alloc (Nat.le_refl _) _).grown hg1 (by simp) (fun k hk => by simp [Value.ownBlock] at hk; omega)⟩
theorem clone_any (l : List Ver) (A : Option Addr) (n c : Nat) (w : World) (hr : VR w w.heap.size A n l) (hn : n * 24 ≤ 140737488351232) :
    Calls Try.prog 20 #[.slice A n c] w fun e w' => ∃ A' c', e = .returned (.slice A' n c') ∧ n ≤ c' ∧ VR w' w'.heap.size A' n l ∧ Below w.heap.size w w' :=
  (clone_row l A n c w hr hn).mono fun e w' ⟨v, he, ho, hb⟩ => by
    obtain ⟨A', c', rfl, hc, _, hs⟩ := Sl.of_owns (n := n) (l := l) (enc := Ver.enc) ho rfl hr.1 rfl
    exact ⟨A', c', he, hc, hs, hb⟩

/-! The search -/
def cmpOf (a b : Int) : Int := if a < b then -1 else if b < a then 1 else 0
def cmpNear (a b : Int) : Int := if a ≤ b then -1 else 1
set_option maxHeartbeats 400000 in
theorem cmpc_any (a b : Int) (w : World) :
    Calls Try.prog 25 #[.int .i64 a, .int .i64 b] w fun e w' => e = .returned (.int .i64 (cmpOf a b)) ∧ w = w' := by
  go_enter Try.func25, Try.ntmps25
  go_wp2
  all_goals go_ret
  all_goals exact ⟨ret_int (by unfold cmpOf; (repeat' split) <;> omega), rfl⟩

def orOf (x y : Int) : Int := if x = 0 then y else x
set_option maxHeartbeats 400000 in
theorem or_any (x y : Int) (g : Nat) (w : World) (c0 : w.cell? ⟨g, 0, none⟩ = some (.int .i64 x)) (c1 : w.cell? ⟨g, 1, none⟩ = some (.int .i64 y)) :
    Calls Try.prog 24 #[.slice (some ⟨g, 0, none⟩) 2 2] w fun e w' => e = .returned (.int .i64 (orOf x y)) ∧ w = w' := by
  go_enter Try.func24, Try.ntmps24
  go_wp2
  go_loop [8] (fun i => i = .int .i64 0 ∨ (i = .int .i64 1 ∧ x = 0) ∨ (i = .int .i64 2 ∧ x = 0 ∧ y = 0)) (fun i => 2 - (intOf i).toNat)
  case atStart => exact .inl rfl
  case round =>
    rcases hrel with rfl | ⟨rfl, hx⟩ | ⟨rfl, hx, hy⟩
    · by_cases hx : x = 0
      · have hx1 : (x != 0) = false := by simp [hx]
        have HX := hide hx
        clear hx
        go_wp2
        go_round
        case rel => exact .inr (.inl ⟨rfl, HX.out⟩)
        case measure => simp [intOf]
      · have hx1 : (x != 0) = true := by simp [hx]
        go_wp2
        go_ret
        exact ⟨ret_int (by unfold orOf; rw [if_neg hx]), rfl⟩
    · have HX := hide hx
      clear hx
      by_cases hy : y = 0
      · have hy1 : (y != 0) = false := by simp [hy]
        have HY := hide hy
        clear hy
        go_wp2
        go_round
        case rel => exact .inr (.inr ⟨rfl, HX.out, HY.out⟩)
        case measure => simp [intOf]
      · have hy1 : (y != 0) = true := by simp [hy]
        go_wp2
        go_ret
        exact ⟨ret_int (by unfold orOf; rw [if_pos HX.out]), rfl⟩
    · have HX := hide hx
      have HY := hide hy
      clear hx hy
      go_wp2
      go_ret
      exact ⟨ret_int (by unfold orOf; rw [if_pos HX.out, HY.out]), rfl⟩

set_option maxHeartbeats 400000 in
theorem near_any (v : Ver) (t : Int) (w : World) :
    Calls Try.prog 23 #[.agg #[.int .i64 v.s, .int .i64 v.t, .int .i64 v.r], .int .i64 t] w fun e w' => e = .returned (.int .i64 (cmpNear v.t t)) ∧ Below w.heap.size w w' := by
  go_enter Try.func23, Try.ntmps23
  go_wp2_with (go_at_call 25; refine (cmpc_any _ _ _).mono ?_; rintro e w' ⟨rfl, rfl⟩)
  refine (or_any (cmpOf v.t t) (-1) (w.heap.size + 1) _ (by simp) (by simp)).mono ?_
  rintro e w' ⟨rfl, rfl⟩
  go_wp2
  go_ret
  exact ⟨ret_int (by unfold orOf cmpOf cmpNear; (repeat' split) <;> omega), ((Below.refl _ _).alloc (Nat.le_refl _) _).alloc (by simp) _⟩

/-- r cuts l by time: those ahead of r are not later than t, the others are. -/
def CutAt (l : List Ver) (t : Int) (r : Nat) : Prop := r ≤ l.length ∧ (∀ i (h : i < l.length), i < r → l[i].t ≤ t) ∧ (∀ i (h : i < l.length), r ≤ i → t < l[i].t)
def Rising (l : List Ver) : Prop := ∀ i j (h : j < l.length) (hij : i ≤ j), (l[i]'(by omega)).t ≤ l[j].t

set_option maxRecDepth 100000 in
set_option maxHeartbeats 1000000 in
theorem search_any (l : List Ver) (A : Option Addr) (n c : Nat) (t : Int) (w : World) (hr : VR w w.heap.size A n l) (hn : n ≤ 4611686018427387904) (hs : Rising l) :
    Calls Try.prog 22 #[.slice A n c, .int .i64 t, .func (.func 23) #[] #[]] w fun e w' => ∃ (r : Nat) (f : Bool), e = .returned (.tuple #[.int .i64 r, .bool f]) ∧ CutAt l t r ∧ Below w.heap.size w w' := by
  go_enter Try.func22, Try.ntmps22
  go_wp2
  go_loopw [9, 10] (fun i j wr => ∃ a b : Nat, a ≤ b ∧ b ≤ n ∧ i = .int .i64 a ∧ j = .int .i64 b ∧ (∀ i (h : i < l.length), i < a → l[i].t ≤ t) ∧ (∀ i (h : i < l.length), b ≤ i → t < l[i].t) ∧ Below w.heap.size w wr) (fun i j _ => (intOf j).toNat - (intOf i).toNat)
  case atStart => exact ⟨0, n, by omega, by omega, rfl, rfl, fun i h hi => by omega, fun i h hi => by have := hr.len; omega, Below.refl _ _⟩
  case round =>
    obtain ⟨a, b, hab, hbn, rfl, rfl, h1, h2, hb⟩ := hrel
    have hl := hr.len
    by_cases hlt : a < b
    · obtain ⟨bb, o, rfl, hbl, hc⟩ := VR.at (hr.below hb) (by omega)
      obtain ⟨c0, c1, c2⟩ := hc ((a + b) / 2) (by omega)
      have H1 := hide h1
      have H2 := hide h2
      have HB := hide hb
      have hsz := hb.size
      have hm : (a + b) / 2 < l.length := by omega
      clear h1 h2 hb hc
      by_cases ht : l[(a + b) / 2].t ≤ t
      · have hd : decide (cmpNear l[(a + b) / 2].t t < 0) = true := by simp [cmpNear, ht]
        have HT := hide ht
        clear ht
        go_wp2_with fail
        refine (near_any l[(a + b) / 2] t _).mono ?_
        rintro e w1 ⟨rfl, hb1⟩
        go_wp2
        go_roundw
        case rel =>
          refine ⟨(a + b) / 2 + 1, b, by omega, by omega, by go_num, rfl, fun i h hi => ?_, H2.out, HB.out.trans (hb1.mono hsz)⟩
          exact Int.le_trans (hs i ((a + b) / 2) hm (by omega)) HT.out
        case measure => simp [intOf]; omega
      · have hd : decide (cmpNear l[(a + b) / 2].t t < 0) = false := by simp [cmpNear, ht]
        have HT := hide ht
        clear ht
        go_wp2_with fail
        refine (near_any l[(a + b) / 2] t _).mono ?_
        rintro e w1 ⟨rfl, hb1⟩
        go_wp2
        go_roundw
        case rel =>
          refine ⟨a, (a + b) / 2, by omega, by omega, rfl, by go_num, H1.out, fun i h hi => ?_, HB.out.trans (hb1.mono hsz)⟩
          exact Int.lt_of_lt_of_le HT.out (hs ((a + b) / 2) i h (by omega))
        case measure => simp [intOf]; omega
    · have hab' : a = b := by omega
      have HC := hide (show CutAt l t a from ⟨by omega, h1, fun i h hi => h2 i h (by omega)⟩)
      have HB := hide hb
      by_cases han : a < n
      · obtain ⟨bb, o, rfl, hbl, hc⟩ := VR.at (hr.below hb) (by omega)
        obtain ⟨c0, c1, c2⟩ := hc a (by omega)
        have hsz := hb.size
        clear h1 h2 hb hc hab'
        go_wp2_with fail
        refine (near_any l[a] t _).mono ?_
        rintro e w1 ⟨rfl, hb1⟩
        go_wp2
        all_goals go_ret2
        all_goals exact ⟨a, _, rfl, HC.out, HB.out.trans (hb1.mono hsz)⟩
      · clear h1 h2 hb hab'
        go_wp2
        go_ret2
        exact ⟨a, _, rfl, HC.out, HB.out⟩

set_option maxHeartbeats 400000 in
theorem behind_any (l : List Ver) (A : Option Addr) (n c : Nat) (t : Int) (w : World) (hr : VR w w.heap.size A n l) (hn : n ≤ 4611686018427387904) (hs : Rising l) :
    Calls Try.prog 18 #[.slice A n c, .int .i64 t] w fun e w' => ∃ r : Nat, e = .returned (.int .i64 r) ∧ CutAt l t r ∧ Below w.heap.size w w' := by
  go_enter Try.func18, Try.ntmps18
  go_wp2_with (go_at_call 22; refine (search_any l A n c t _ hr hn hs).mono ?_; rintro e w1 ⟨r, f, rfl, hc, hb⟩)
  go_ret
  exact ⟨r, rfl, hc, hb⟩

theorem rising_of {l : List Ver} (h : okTo l l.length) : Rising l := by
  intro i j hj hij
  induction j with
  | zero => have : i = 0 := by omega
            subst this; exact Int.le_refl _
  | succ j ih =>
    rcases Nat.lt_or_ge j i with h1 | h1
    · have : i = j + 1 := by omega
      subst this; exact Int.le_refl _
    · have h2 := h (j + 1) hj
      rw [okAt_eq hj] at h2
      have hj' : j < l.length := by omega
      simp [List.getElem?_eq_getElem hj'] at h2
      exact Int.le_trans (ih hj' h1) h2.2.2
theorem rising_of_check {l : List Ver} (h : checkV l = true) : Rising l := by
  apply rising_of
  unfold checkV at h
  simp only [Bool.and_eq_true, List.all_eq_true, List.mem_range] at h
  exact h.1
end Go.Proofs.Ytldlaojcbgckjaa
