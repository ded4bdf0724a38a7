/- cmp.Compare at words of 64 bits, cmp.Or at ints; wide.Sign, wide.Compare. -/
import Derived.Test.YtmfilhmcgagjcaaWideB
import Derived.Test.YtmfilhmcgagjcaaWideSg
import Derived.BigRegion
import Derived.Outline
namespace Go.Proofs.Ytmfilhmcgagjcaa
set_option linter.unusedSimpArgs false
set_option linter.unusedVariables false
open Go.RowKit
set_option maxHeartbeats 400000 in
theorem cmps_any (a b : Int) (w : World) :
    Calls Try.prog 39 #[.int .i64 a, .int .i64 b] w fun e w' => e = .returned (.int .i64 (cmpOf a b)) ∧ w = w' := by
  go_enter Try.func39, Try.ntmps39
  go_wp2
  all_goals go_ret
  all_goals exact ⟨ret_int (by unfold cmpOf; (repeat' split) <;> omega), rfl⟩
set_option maxHeartbeats 400000 in
theorem cmpu_any (a b : Int) (w : World) :
    Calls Try.prog 40 #[.int .u64 a, .int .u64 b] w fun e w' => e = .returned (.int .i64 (cmpOf a b)) ∧ w = w' := by
  go_enter Try.func40, Try.ntmps40
  go_wp2
  all_goals go_ret
  all_goals exact ⟨ret_int (by unfold cmpOf; (repeat' split) <;> omega), rfl⟩
def isTwo (x y : Int) (v : Value) (w : World) : Prop := ∃ g, v = .slice (some ⟨g, 0, none⟩) 2 2 ∧ g < w.heap.size ∧ w.cell? ⟨g, 0, none⟩ = some (.int .i64 x) ∧ w.cell? ⟨g, 1, none⟩ = some (.int .i64 y)
theorem isTwo.mono {x y : Int} {v : Value} {w w' : World} (h : isTwo x y v w) (hb : Below w.heap.size w w') : isTwo x y v w' := by
  obtain ⟨g, h1, h2, h3, h4⟩ := h
  exact ⟨g, h1, Nat.lt_of_lt_of_le h2 hb.size, (hb.cell (p := ⟨g, 0, none⟩) h2).trans h3, (hb.cell (p := ⟨g, 1, none⟩) h2).trans h4⟩
theorem cmpOf_lt {a b : Int} (h : a < b) : cmpOf a b = -1 := by unfold cmpOf; rw [if_pos h]
theorem cmpOf_eq {a b : Int} (h : a = b) : cmpOf a b = 0 := by unfold cmpOf; rw [if_neg (by omega), if_neg (by omega)]
theorem cmpOf_gt {a b : Int} (h : b < a) : cmpOf a b = 1 := by unfold cmpOf; rw [if_neg (by omega), if_pos h]
theorem cmp_num (x y : I2) (hx : x.ok) (hy : y.ok) : orOf (cmpOf x.hi y.hi) (cmpOf x.lo y.lo) = cmpOf x.num y.num := by
  unfold I2.ok at hx hy
  have e1 : x.num = x.hi * 18446744073709551616 + x.lo := rfl
  have e2 : y.num = y.hi * 18446744073709551616 + y.lo := rfl
  rcases Int.lt_trichotomy x.hi y.hi with h | h | h
  · rw [cmpOf_lt h, cmpOf_lt (a := x.num) (by omega)]; rfl
  · rw [cmpOf_eq h]
    rcases Int.lt_trichotomy x.lo y.lo with k | k | k
    · rw [cmpOf_lt k, cmpOf_lt (a := x.num) (by omega)]; rfl
    · rw [cmpOf_eq k, cmpOf_eq (a := x.num) (by omega)]; rfl
    · rw [cmpOf_gt k, cmpOf_gt (a := x.num) (by omega)]; rfl
  · rw [cmpOf_gt h, cmpOf_gt (a := x.num) (by omega)]; rfl
abbrev ib (x : I2) : Array Value := #[Value.int IntKind.i64 x.hi, Value.int IntKind.u64 x.lo]
set_option maxRecDepth 100000 in
set_option maxHeartbeats 400000 in
theorem wcmp_any (x y : I2) (w : World) (hx : x.ok) (hy : y.ok) :
    Calls Try.prog 24 #[.agg #[.int .i64 x.hi, .int .u64 x.lo], .agg #[.int .i64 y.hi, .int .u64 y.lo]] w fun e w' => e = .returned (.int .i64 (cmpOf x.num y.num)) ∧ Below w.heap.size w w' := by
  have K2 := hide (Blk.one w (ib x) (ib y) 25 25)
  have K3 := hide (Blk.two w (ib x) (ib y) 25 25)
  have HV := hide (cmp_num x y hx hy)
  clear hx hy
  go_enter Try.func24, Try.ntmps24
  go_wp2_with fail
  obtain ⟨W, hW, HBW, HK2, HK3⟩ : ∃ W, (w.alloc (Obj.cells (ib x) 25)).alloc (Obj.cells (ib y) 25) = W ∧ Hid (Below w.heap.size w W) ∧ Hid (Blk W w.heap.size 25 (ib x)) ∧ Hid (Blk W (w.heap.size + 1) 25 (ib y)) := ⟨_, rfl, hide (by (repeat (first | exact Below.refl _ _ | refine Below.drew ?_ | refine Below.setCell ?_ (by simp; try omega) _ | refine bal ?_ _))), K2, K3⟩
  rw [hW]
  clear hW K2 K3
  refine wp_region_facts (by kernel_rfl) (by kernel_rfl) 17
    [⟨5, fun v _ => v = .pointer (some ⟨w.heap.size, 0, none⟩)⟩,
     ⟨6, fun v _ => v = .int .i64 x.hi⟩,
     ⟨7, fun v _ => v = .pointer (some ⟨w.heap.size + 1, 0, none⟩)⟩,
     ⟨8, fun v _ => v = .int .i64 y.hi⟩,
     ⟨9, fun v _ => v = .int .i64 (cmpOf x.hi y.hi)⟩,
     ⟨10, fun v _ => v = .pointer (some ⟨w.heap.size, 1, none⟩)⟩,
     ⟨11, fun v _ => v = .int .u64 x.lo⟩,
     ⟨12, fun v _ => v = .pointer (some ⟨w.heap.size + 1, 1, none⟩)⟩,
     ⟨13, fun v _ => v = .int .u64 y.lo⟩,
     ⟨14, fun v _ => v = .int .i64 (cmpOf x.lo y.lo)⟩,
     ⟨15, isTwo (cmpOf x.hi y.hi) (cmpOf x.lo y.lo)⟩,
     ⟨16, fun v _ => v = .int .i64 (cmpOf x.num y.num)⟩,
     ⟨4, fun v _ => v = .int .i64 (cmpOf x.num y.num)⟩] (by kernel_rfl) rfl rfl ?_ ?_ ?_
  · intro e he v w w' _ hb hv
    simp only [List.mem_cons, List.not_mem_nil, or_false] at he
    rcases he with rfl | rfl | rfl | rfl | rfl | rfl | rfl | rfl | rfl | rfl | rfl | rfl | rfl
    all_goals first | exact hv | exact isTwo.mono hv hb
  · refine ⟨?_, ?_, ?_, ?_, ?_, ?_, ?_, ?_, ?_, ?_, ?_, ?_, ?_, trivial⟩
    · intro ac w3 hg hd K hK
      have k2 := hg.kp 2 (by simp)
      (try simp [Act.eval] at k2)
      go_simp
      exact hK _ _ (Below.refl _ _) rfl
    · intro ac w3 hg hd K hK
      have kc := (HK2.out.below hg.hb HK2.out.lt).cell
      have f0 := hd ⟨0, .data⟩ (by simp) rfl _ rfl
      (try simp [Act.eval] at f0)
      go_simp
      exact hK _ _ (Below.refl _ _) rfl
    · intro ac w3 hg hd K hK
      have k3 := hg.kp 3 (by simp)
      (try simp [Act.eval] at k3)
      go_simp
      exact hK _ _ (Below.refl _ _) rfl
    · intro ac w3 hg hd K hK
      have kc := (HK3.out.below hg.hb HK3.out.lt).cell
      have f2 := hd ⟨2, .data⟩ (by simp) rfl _ rfl
      (try simp [Act.eval] at f2)
      go_simp
      exact hK _ _ (Below.refl _ _) rfl
    · intro ac w3 hg hd K hK
      have f1 := hd ⟨1, .data⟩ (by simp) rfl _ rfl
      have f3 := hd ⟨3, .data⟩ (by simp) rfl _ rfl
      simp [Act.eval] at f1 f3
      go_simp
      refine (cmps_any _ _ _).mono ?_
      rintro e w4 ⟨rfl, rfl⟩
      exact hK (.int .i64 (cmpOf x.hi y.hi)) _ (Below.refl _ _) rfl
    · intro ac w3 hg hd K hK
      have k2 := hg.kp 2 (by simp)
      (try simp [Act.eval] at k2)
      go_simp
      exact hK _ _ (Below.refl _ _) rfl
    · intro ac w3 hg hd K hK
      have kc := (HK2.out.below hg.hb HK2.out.lt).cell
      have f5 := hd ⟨5, .data⟩ (by simp) rfl _ rfl
      (try simp [Act.eval] at f5)
      go_simp
      exact hK _ _ (Below.refl _ _) rfl
    · intro ac w3 hg hd K hK
      have k3 := hg.kp 3 (by simp)
      (try simp [Act.eval] at k3)
      go_simp
      exact hK _ _ (Below.refl _ _) rfl
    · intro ac w3 hg hd K hK
      have kc := (HK3.out.below hg.hb HK3.out.lt).cell
      have f7 := hd ⟨7, .data⟩ (by simp) rfl _ rfl
      (try simp [Act.eval] at f7)
      go_simp
      exact hK _ _ (Below.refl _ _) rfl
    · intro ac w3 hg hd K hK
      have f1 := hd ⟨6, .data⟩ (by simp) rfl _ rfl
      have f3 := hd ⟨8, .data⟩ (by simp) rfl _ rfl
      simp [Act.eval] at f1 f3
      go_simp
      refine (cmpu_any _ _ _).mono ?_
      rintro e w4 ⟨rfl, rfl⟩
      exact hK (.int .i64 (cmpOf x.lo y.lo)) _ (Below.refl _ _) rfl
    · intro ac w3 hg hd K hK
      have f1 := hd ⟨4, .data⟩ (by simp) rfl _ rfl
      have f3 := hd ⟨9, .data⟩ (by simp) rfl _ rfl
      simp [Act.eval] at f1 f3
      go_simp
      exact hK (.slice (some ⟨w3.heap.size, 0, none⟩) 2 2) _ (bal (Below.refl _ _) _) ⟨_, rfl, by simp, by simp, by simp⟩
    · intro ac w3 hg hd K hK
      obtain ⟨g, f1, f2, f3, f4⟩ := hd ⟨10, .data⟩ (by simp) rfl _ rfl
      simp [Act.eval] at f1
      go_simp
      refine (or_any _ _ g _ f3 f4).mono ?_
      rintro e w4 ⟨rfl, rfl⟩
      rw [HV.out]
      exact hK (.int .i64 (cmpOf x.num y.num)) _ (Below.refl _ _) rfl
    · intro ac w3 hg hd K hK
      exact op_assign _ rfl (hK _ _ (Below.refl _ _) (hd ⟨11, .data⟩ (by simp) rfl _ rfl))
  · intro f w3 hb3 hall
    have h4 : f 4 = .int .i64 (cmpOf x.num y.num) := hall ⟨4, fun v _ => v = .int .i64 (cmpOf x.num y.num)⟩ (by simp)
    simp only [fillF, List.map_cons, List.map_nil, List.foldl_cons, List.foldl_nil, Act.put, List.setIfInBounds_toArray, List.set_cons_zero, List.set_cons_succ]
    rw [h4]
    have HB3 := hide (btr HBW.out hb3)
    clear h4 hall hb3
    go_wp2
    go_ret
    exact ⟨rfl, HB3.out⟩
end Go.Proofs.Ytmfilhmcgagjcaa
