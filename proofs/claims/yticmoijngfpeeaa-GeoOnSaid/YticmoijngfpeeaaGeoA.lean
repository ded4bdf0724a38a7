/- Points: the program's cross, turn, Order, ends, on, Good. -/
import Derived.Test.YticmoijngfpeeaaCmp
import Derived.Test.YticmoijngfpeeaaRegion
import Derived.IntWalk
namespace Go.Proofs.Yticmoijngfpeeaa
set_option linter.unusedSimpArgs false
set_option linter.unusedVariables false
open Go.RowKit
structure Pt where
  x : Int
  y : Int
def Pt.val (p : Pt) : Value := .agg #[.int .i64 p.x, .int .i64 p.y]
def Pt.enc (p : Pt) : List Value := [.int .i64 p.x, .int .i64 p.y]
theorem Pt.enc_len (p : Pt) : p.enc.length = 2 := rfl
def Pt.good (p : Pt) : Prop := (-1073741824 ≤ p.x ∧ p.x ≤ 1073741824) ∧ -1073741824 ≤ p.y ∧ p.y ≤ 1073741824
instance (p : Pt) : Decidable p.good := inferInstanceAs (Decidable (_ ∧ _))
abbrev pblk (x y : Int) : Obj := Obj.cells #[Value.int IntKind.i64 x, Value.int IntKind.i64 y] 23
def crossV (a b c : Pt) : Int := (b.x - a.x) * (c.y - a.y) - (b.y - a.y) * (c.x - a.x)
theorem mul_le_sq {u v L : Int} (hu : -L ≤ u) (hu' : u ≤ L) (hv : -L ≤ v) (hv' : v ≤ L) : -(L * L) ≤ u * v ∧ u * v ≤ L * L := by
  have h : (u * v).natAbs ≤ (L * L).natAbs := by
    rw [Int.natAbs_mul, Int.natAbs_mul]
    exact Nat.mul_le_mul (by omega) (by omega)
  have hL : 0 ≤ L * L := Int.mul_nonneg (by omega) (by omega)
  omega
/-- Twice a triangle's area is at most the square that holds it. -/
theorem cross_le {u v s t L : Int} (hu : -L ≤ u) (hu' : u ≤ L) (hv : -L ≤ v) (hv' : v ≤ L) (hs : -L ≤ s) (hs' : s ≤ L) (ht : -L ≤ t) (ht' : t ≤ L)
    (h1 : -L ≤ u - t) (h1' : u - t ≤ L) (h2 : -L ≤ s - v) (h2' : s - v ≤ L) : u * v - s * t ≤ L * L := by
  have hL : 0 ≤ L := by omega
  have huv := (mul_le_sq hu hu' hv hv').2
  rcases Int.le_total 0 s with s0 | s0 <;> rcases Int.le_total 0 t with t0 | t0
  · have := Int.mul_nonneg s0 t0; omega
  · -- s ≥ 0, t ≤ 0: -s t = s * (-t)
    rcases Int.le_total 0 u with u0 | u0
    · -- u ≤ L + t
      have a1 : u * v ≤ u * L := Int.mul_le_mul_of_nonneg_left hv' u0
      have a2 : u * L ≤ (L + t) * L := Int.mul_le_mul_of_nonneg_right (by omega) hL
      have a3 : s * (-t) ≤ L * (-t) := Int.mul_le_mul_of_nonneg_right hs' (by omega)
      have e1 : (L + t) * L = L * L + t * L := by rw [Int.add_mul]
      have e2 : s * (-t) = -(s * t) := by rw [Int.mul_neg]
      have e3 : L * (-t) = -(t * L) := by rw [Int.mul_neg, Int.mul_comm]
      omega
    · rcases Int.le_total 0 v with v0 | v0
      · have a0 : u * v ≤ 0 := by have := Int.mul_nonneg (show 0 ≤ -u by omega) v0; rw [Int.neg_mul] at this; omega
        have a3 := (mul_le_sq (L := L) hs hs' (show -L ≤ -t by omega) (by omega)).2
        have e2 : s * (-t) = -(s * t) := by rw [Int.mul_neg]
        omega
      · -- v ≤ 0: -v ≤ L - s
        have a1 : (-u) * (-v) ≤ L * (-v) := Int.mul_le_mul_of_nonneg_right (by omega) (by omega)
        have a2 : L * (-v) ≤ L * (L - s) := Int.mul_le_mul_of_nonneg_left (by omega) hL
        have a3 : s * (-t) ≤ s * L := Int.mul_le_mul_of_nonneg_left (by omega) s0
        have e0 : (-u) * (-v) = u * v := by rw [Int.neg_mul_neg]
        have e1 : L * (L - s) = L * L - L * s := by rw [Int.mul_sub]
        have e2 : s * (-t) = -(s * t) := by rw [Int.mul_neg]
        have e3 : s * L = L * s := Int.mul_comm _ _
        omega
  · -- s ≤ 0, t ≥ 0
    rcases Int.le_total 0 v with v0 | v0
    · rcases Int.le_total 0 u with u0 | u0
      · -- v ≤ L + s
        have a1 : u * v ≤ L * v := Int.mul_le_mul_of_nonneg_right hu' v0
        have a2 : L * v ≤ L * (L + s) := Int.mul_le_mul_of_nonneg_left (by omega) hL
        have a3 : (-s) * t ≤ (-s) * L := Int.mul_le_mul_of_nonneg_left ht' (by omega)
        have e1 : L * (L + s) = L * L + L * s := by rw [Int.mul_add]
        have e2 : (-s) * t = -(s * t) := by rw [Int.neg_mul]
        have e3 : (-s) * L = -(L * s) := by rw [Int.neg_mul, Int.mul_comm]
        omega
      · have a0 : u * v ≤ 0 := by have := Int.mul_nonneg (show 0 ≤ -u by omega) v0; rw [Int.neg_mul] at this; omega
        have a3 := (mul_le_sq (L := L) (show -L ≤ -s by omega) (by omega) ht ht').2
        have e2 : (-s) * t = -(s * t) := by rw [Int.neg_mul]
        omega
    · rcases Int.le_total 0 u with u0 | u0
      · have a0 : u * v ≤ 0 := by have := Int.mul_nonneg u0 (show 0 ≤ -v by omega); rw [Int.mul_neg] at this; omega
        have a3 := (mul_le_sq (L := L) (show -L ≤ -s by omega) (by omega) ht ht').2
        have e2 : (-s) * t = -(s * t) := by rw [Int.neg_mul]
        omega
      · -- u ≤ 0: t ≤ L + u
        have a1 : (-u) * (-v) ≤ (-u) * L := Int.mul_le_mul_of_nonneg_left (by omega) (by omega)
        have a3 : (-s) * t ≤ L * t := Int.mul_le_mul_of_nonneg_right (by omega) t0
        have a4 : L * t ≤ L * (L + u) := Int.mul_le_mul_of_nonneg_left (by omega) hL
        have e0 : (-u) * (-v) = u * v := by rw [Int.neg_mul_neg]
        have e1 : L * (L + u) = L * L + L * u := by rw [Int.mul_add]
        have e2 : (-s) * t = -(s * t) := by rw [Int.neg_mul]
        have e3 : (-u) * L = -(L * u) := by rw [Int.neg_mul, Int.mul_comm]
        omega
  · have := Int.mul_nonneg (show 0 ≤ -s by omega) (show 0 ≤ -t by omega)
    rw [Int.neg_mul_neg] at this; omega
theorem cross_bound {a b c : Pt} (ha : a.good) (hb : b.good) (hc : c.good) : -4611686018427387904 ≤ crossV a b c ∧ crossV a b c ≤ 4611686018427387904 := by
  obtain ⟨⟨a1, a2⟩, a3, a4⟩ := ha
  obtain ⟨⟨b1, b2⟩, b3, b4⟩ := hb
  obtain ⟨⟨c1, c2⟩, c3, c4⟩ := hc
  unfold crossV
  have h1 := cross_le (u := b.x - a.x) (v := c.y - a.y) (s := b.y - a.y) (t := c.x - a.x) (L := 2147483648) (by omega) (by omega) (by omega) (by omega) (by omega) (by omega) (by omega) (by omega) (by omega) (by omega) (by omega) (by omega)
  have h2 := cross_le (u := b.y - a.y) (v := c.x - a.x) (s := b.x - a.x) (t := c.y - a.y) (L := 2147483648) (by omega) (by omega) (by omega) (by omega) (by omega) (by omega) (by omega) (by omega) (by omega) (by omega) (by omega) (by omega)
  omega
theorem prod_bound {a b c : Pt} (ha : a.good) (hb : b.good) (hc : c.good) : (-4611686018427387904 ≤ (b.x - a.x) * (c.y - a.y) ∧ (b.x - a.x) * (c.y - a.y) ≤ 4611686018427387904) ∧ -4611686018427387904 ≤ (b.y - a.y) * (c.x - a.x) ∧ (b.y - a.y) * (c.x - a.x) ≤ 4611686018427387904 := by
  obtain ⟨⟨a1, a2⟩, a3, a4⟩ := ha
  obtain ⟨⟨b1, b2⟩, b3, b4⟩ := hb
  obtain ⟨⟨c1, c2⟩, c3, c4⟩ := hc
  have h1 := mul_le_sq (u := b.x - a.x) (v := c.y - a.y) (L := 2147483648) (by omega) (by omega) (by omega) (by omega)
  have h2 := mul_le_sq (u := b.y - a.y) (v := c.x - a.x) (L := 2147483648) (by omega) (by omega) (by omega) (by omega)
  omega

set_option maxHeartbeats 400000 in
theorem cross_any (a b c : Pt) (w : World) (ha : a.good) (hb : b.good) (hc : c.good) :
    Calls Try.prog 31 #[.agg #[.int .i64 a.x, .int .i64 a.y], .agg #[.int .i64 b.x, .int .i64 b.y], .agg #[.int .i64 c.x, .int .i64 c.y]] w fun e w' => e = .returned (.int .i64 (crossV a b c)) ∧ Below w.heap.size w w' := by
  have h1 := cross_bound ha hb hc
  obtain ⟨⟨p1, p2⟩, p3, p4⟩ := prod_bound ha hb hc
  unfold crossV at h1
  obtain ⟨⟨a1, a2⟩, a3, a4⟩ := ha
  obtain ⟨⟨b1, b2⟩, b3, b4⟩ := hb
  obtain ⟨⟨c1, c2⟩, c3, c4⟩ := hc
  obtain ⟨q1, q2⟩ := h1
  go_enter Try.func31, Try.ntmps31
  go_wp2
  go_ret
  exact ⟨rfl, bal (bal (bal (Below.refl _ _) _) _) _⟩

def turnV (a b c : Pt) : Int := cmpOf (crossV a b c) 0
set_option maxHeartbeats 400000 in
theorem turn_any (a b c : Pt) (w : World) (ha : a.good) (hb : b.good) (hc : c.good) :
    Calls Try.prog 25 #[.agg #[.int .i64 a.x, .int .i64 a.y], .agg #[.int .i64 b.x, .int .i64 b.y], .agg #[.int .i64 c.x, .int .i64 c.y]] w fun e w' => e = .returned (.int .i64 (turnV a b c)) ∧ Below w.heap.size w w' := by
  go_enter Try.func25, Try.ntmps25
  go_wp2_with fail
  refine (cross_any a b c _ ha hb hc).mono ?_
  rintro e w1 ⟨rfl, hb1⟩
  have HB1 := hide (btr (bal (bal (bal (Below.refl w.heap.size w) (pblk a.x a.y)) (pblk b.x b.y)) (pblk c.x c.y)) hb1)
  clear hb1
  go_wp2_with fail
  refine (cmpc_any _ _ _).mono ?_
  rintro e w2 ⟨rfl, rfl⟩
  go_wp2
  go_ret
  exact ⟨rfl, HB1.out⟩

def orderV (a b : Pt) : Int := orOf (cmpOf a.x b.x) (cmpOf a.y b.y)
def isTwo (x y : Int) (v : Value) (w : World) : Prop := ∃ g, v = .slice (some ⟨g, 0, none⟩) 2 2 ∧ g < w.heap.size ∧ w.cell? ⟨g, 0, none⟩ = some (.int .i64 x) ∧ w.cell? ⟨g, 1, none⟩ = some (.int .i64 y)
theorem isTwo.mono {x y : Int} {v : Value} {w w' : World} (h : isTwo x y v w) (hb : Below w.heap.size w w') : isTwo x y v w' := by
  obtain ⟨g, h1, h2, h3, h4⟩ := h
  exact ⟨g, h1, Nat.lt_of_lt_of_le h2 hb.size, (hb.cell (p := ⟨g, 0, none⟩) h2).trans h3, (hb.cell (p := ⟨g, 1, none⟩) h2).trans h4⟩
set_option maxRecDepth 100000 in
set_option maxHeartbeats 400000 in
theorem order_any (a b : Pt) (w : World) :
    Calls Try.prog 42 #[.agg #[.int .i64 a.x, .int .i64 a.y], .agg #[.int .i64 b.x, .int .i64 b.y]] w fun e w' => e = .returned (.int .i64 (orderV a b)) ∧ Below w.heap.size w w' := by
  have K2 : Blk ((w.alloc (pblk a.x a.y)).alloc (pblk b.x b.y)) w.heap.size 23 #[Value.int IntKind.i64 a.x, Value.int IntKind.i64 a.y] := (Blk.new w _ _).alloc _
  have K3 : Blk ((w.alloc (pblk a.x a.y)).alloc (pblk b.x b.y)) (w.heap.size + 1) 23 #[Value.int IntKind.i64 b.x, Value.int IntKind.i64 b.y] := by
    have := Blk.new (w.alloc (pblk a.x a.y)) 23 #[Value.int IntKind.i64 b.x, Value.int IntKind.i64 b.y]
    simpa using this
  have HB := hide (bal (bal (Below.refl w.heap.size w) (pblk a.x a.y)) (pblk b.x b.y))
  go_enter Try.func42, Try.ntmps42
  go_wp2_with fail
  obtain ⟨W, hW, HBW, HK2, HK3⟩ : ∃ W, (w.alloc (Obj.cells #[Value.int IntKind.i64 a.x, Value.int IntKind.i64 a.y] 23)).alloc (Obj.cells #[Value.int IntKind.i64 b.x, Value.int IntKind.i64 b.y] 23) = W ∧ Hid (Below w.heap.size w W) ∧ Hid (Blk W w.heap.size 23 #[Value.int IntKind.i64 a.x, Value.int IntKind.i64 a.y]) ∧ Hid (Blk W (w.heap.size + 1) 23 #[Value.int IntKind.i64 b.x, Value.int IntKind.i64 b.y]) := ⟨_, rfl, HB, K2, K3⟩
  rw [hW]
  clear hW K2 K3 HB
  refine wp_region_facts (by kernel_rfl) (by kernel_rfl) 17
    [⟨5, fun v _ => v = .pointer (some ⟨w.heap.size, 0, none⟩)⟩,
     ⟨6, fun v _ => v = .int .i64 a.x⟩,
     ⟨7, fun v _ => v = .pointer (some ⟨w.heap.size + 1, 0, none⟩)⟩,
     ⟨8, fun v _ => v = .int .i64 b.x⟩,
     ⟨9, fun v _ => v = .int .i64 (cmpOf a.x b.x)⟩,
     ⟨10, fun v _ => v = .pointer (some ⟨w.heap.size, 1, none⟩)⟩,
     ⟨11, fun v _ => v = .int .i64 a.y⟩,
     ⟨12, fun v _ => v = .pointer (some ⟨w.heap.size + 1, 1, none⟩)⟩,
     ⟨13, fun v _ => v = .int .i64 b.y⟩,
     ⟨14, fun v _ => v = .int .i64 (cmpOf a.y b.y)⟩,
     ⟨15, isTwo (cmpOf a.x b.x) (cmpOf a.y b.y)⟩,
     ⟨16, fun v _ => v = .int .i64 (orderV a b)⟩,
     ⟨4, fun v _ => v = .int .i64 (orderV a b)⟩] (by kernel_rfl) rfl rfl ?_ ?_ ?_
  · intro e he v w w' _ hb hv
    simp only [List.mem_cons, List.not_mem_nil, or_false] at he
    rcases he with rfl | rfl | rfl | rfl | rfl | rfl | rfl | rfl | rfl | rfl | rfl | rfl | rfl
    all_goals first | exact hv | exact isTwo.mono hv hb
  · refine ⟨?_, ?_, ?_, ?_, ?_, ?_, ?_, ?_, ?_, ?_, ?_, ?_, ?_, trivial⟩
    · intro ac w3 hg hd K hK
      have k2 := hg.kp 2 (by simp)
      (try simp [Act.eval] at k2)
      go_simp
      exact hK _ _ (Below.refl _ _) rfl
    · intro ac w3 hg hd K hK
      have kc := (HK2.out.below hg.hb HK2.out.lt).cell
      have f0 := hd ⟨0, .data⟩ (by simp) rfl _ rfl
      (try simp [Act.eval] at f0)
      go_simp
      exact hK _ _ (Below.refl _ _) rfl
    · intro ac w3 hg hd K hK
      have k3 := hg.kp 3 (by simp)
      (try simp [Act.eval] at k3)
      go_simp
      exact hK _ _ (Below.refl _ _) rfl
    · intro ac w3 hg hd K hK
      have kc := (HK3.out.below hg.hb HK3.out.lt).cell
      have f2 := hd ⟨2, .data⟩ (by simp) rfl _ rfl
      (try simp [Act.eval] at f2)
      go_simp
      exact hK _ _ (Below.refl _ _) rfl
    · intro ac w3 hg hd K hK
      have f1 := hd ⟨1, .data⟩ (by simp) rfl _ rfl
      have f3 := hd ⟨3, .data⟩ (by simp) rfl _ rfl
      simp [Act.eval] at f1 f3
      go_simp
      refine (cmpc_any _ _ _).mono ?_
      rintro e w4 ⟨rfl, rfl⟩
      exact hK (.int .i64 (cmpOf a.x b.x)) _ (Below.refl _ _) rfl
    · intro ac w3 hg hd K hK
      have k2 := hg.kp 2 (by simp)
      (try simp [Act.eval] at k2)
      go_simp
      exact hK _ _ (Below.refl _ _) rfl
    · intro ac w3 hg hd K hK
      have kc := (HK2.out.below hg.hb HK2.out.lt).cell
      have f5 := hd ⟨5, .data⟩ (by simp) rfl _ rfl
      (try simp [Act.eval] at f5)
      go_simp
      exact hK _ _ (Below.refl _ _) rfl
    · intro ac w3 hg hd K hK
      have k3 := hg.kp 3 (by simp)
      (try simp [Act.eval] at k3)
      go_simp
      exact hK _ _ (Below.refl _ _) rfl
    · intro ac w3 hg hd K hK
      have kc := (HK3.out.below hg.hb HK3.out.lt).cell
      have f7 := hd ⟨7, .data⟩ (by simp) rfl _ rfl
      (try simp [Act.eval] at f7)
      go_simp
      exact hK _ _ (Below.refl _ _) rfl
    · intro ac w3 hg hd K hK
      have f1 := hd ⟨6, .data⟩ (by simp) rfl _ rfl
      have f3 := hd ⟨8, .data⟩ (by simp) rfl _ rfl
      simp [Act.eval] at f1 f3
      go_simp
      refine (cmpc_any _ _ _).mono ?_
      rintro e w4 ⟨rfl, rfl⟩
      exact hK (.int .i64 (cmpOf a.y b.y)) _ (Below.refl _ _) rfl
    · intro ac w3 hg hd K hK
      have f1 := hd ⟨4, .data⟩ (by simp) rfl _ rfl
      have f3 := hd ⟨9, .data⟩ (by simp) rfl _ rfl
      simp [Act.eval] at f1 f3
      go_simp
      exact hK (.slice (some ⟨w3.heap.size, 0, none⟩) 2 2) _ (bal (Below.refl _ _) _) ⟨_, rfl, by simp, by simp, by simp⟩
    · intro ac w3 hg hd K hK
      obtain ⟨g, f1, f2, f3, f4⟩ := hd ⟨10, .data⟩ (by simp) rfl _ rfl
      simp [Act.eval] at f1
      go_simp
      refine (or_any _ _ g _ f3 f4).mono ?_
      rintro e w4 ⟨rfl, rfl⟩
      exact hK (.int .i64 (orderV a b)) _ (Below.refl _ _) rfl
    · intro ac w3 hg hd K hK
      exact op_assign _ rfl (hK _ _ (Below.refl _ _) (hd ⟨11, .data⟩ (by simp) rfl _ rfl))
  · intro f w3 hb3 hall
    have h4 : f 4 = .int .i64 (orderV a b) := hall ⟨4, fun v _ => v = .int .i64 (orderV a b)⟩ (by simp)
    simp only [fillF, List.map_cons, List.map_nil, List.foldl_cons, List.foldl_nil, Act.put, List.setIfInBounds_toArray, List.set_cons_zero, List.set_cons_succ]
    rw [h4]
    have HB3 := hide (btr HBW.out hb3)
    clear h4 hall hb3
    go_wp2
    go_ret
    exact ⟨rfl, HB3.out⟩

def endsV (a b : Pt) : Pt × Pt := if 0 < orderV a b then (b, a) else (a, b)
set_option maxRecDepth 100000 in
set_option maxHeartbeats 400000 in
theorem ends_any (a b : Pt) (w : World) :
    Calls Try.prog 41 #[.agg #[.int .i64 a.x, .int .i64 a.y], .agg #[.int .i64 b.x, .int .i64 b.y]] w fun e w' => e = .returned (.tuple #[.agg #[.int .i64 (endsV a b).1.x, .int .i64 (endsV a b).1.y], .agg #[.int .i64 (endsV a b).2.x, .int .i64 (endsV a b).2.y]]) ∧ Below w.heap.size w w' := by
  have HB0 := hide (bal (bal (bal (bal (Below.refl w.heap.size w) (pblk a.x a.y)) (pblk b.x b.y)) (pblk 0 0)) (pblk 0 0))
  have K2 : Blk ((((w.alloc (pblk a.x a.y)).alloc (pblk b.x b.y)).alloc (pblk 0 0)).alloc (pblk 0 0)) w.heap.size 23 #[Value.int IntKind.i64 a.x, Value.int IntKind.i64 a.y] := (((Blk.new w _ _).alloc _).alloc _).alloc _
  have K3 : Blk ((((w.alloc (pblk a.x a.y)).alloc (pblk b.x b.y)).alloc (pblk 0 0)).alloc (pblk 0 0)) (w.heap.size + 1) 23 #[Value.int IntKind.i64 b.x, Value.int IntKind.i64 b.y] := by
    have := ((Blk.new (w.alloc (pblk a.x a.y)) 23 #[Value.int IntKind.i64 b.x, Value.int IntKind.i64 b.y]).alloc (pblk 0 0)).alloc (pblk 0 0)
    simpa using this
  have K4 : Blk ((((w.alloc (pblk a.x a.y)).alloc (pblk b.x b.y)).alloc (pblk 0 0)).alloc (pblk 0 0)) (w.heap.size + 1 + 1) 23 #[Value.int IntKind.i64 0, Value.int IntKind.i64 0] := by
    have := (Blk.new ((w.alloc (pblk a.x a.y)).alloc (pblk b.x b.y)) 23 #[Value.int IntKind.i64 0, Value.int IntKind.i64 0]).alloc (pblk 0 0)
    simpa using this
  have K5 : Blk ((((w.alloc (pblk a.x a.y)).alloc (pblk b.x b.y)).alloc (pblk 0 0)).alloc (pblk 0 0)) (w.heap.size + 1 + 1 + 1) 23 #[Value.int IntKind.i64 0, Value.int IntKind.i64 0] := by
    have := Blk.new (((w.alloc (pblk a.x a.y)).alloc (pblk b.x b.y)).alloc (pblk 0 0)) 23 #[Value.int IntKind.i64 0, Value.int IntKind.i64 0]
    simpa using this
  by_cases ho : 0 < orderV a b
  · have ho1 : decide (0 < orderV a b) = true := by simp [ho]
    have he : endsV a b = (b, a) := by unfold endsV; rw [if_pos ho]
    rw [he]
    clear ho he
    go_enter Try.func41, Try.ntmps41
    go_wp2_with fail
    refine (order_any a b _).mono ?_
    rintro e w1 ⟨rfl, hb1⟩
    have HB1 := hide (btr HB0.out hb1)
    have k2 := (K2.below hb1 K2.lt).cell
    have k3 := (K3.below hb1 K3.lt).cell
    have k4 := (K4.below hb1 K4.lt).cell
    have k5 := (K5.below hb1 K5.lt).cell
    have q4 := (K4.below hb1 K4.lt).frozen
    have q5 := (K5.below hb1 K5.lt).frozen
    have z5 := (K5.below hb1 K5.lt).lt
    clear hb1 K2 K3 K4 K5
    go_wp2_with fail
    go_region
    all_goals
      go_wp2
      refine bodyPost_ret (v := .tuple #[.agg #[.int .i64 b.x, .int .i64 b.y], .agg #[.int .i64 a.x, .int .i64 a.y]]) (by simp [results, Try.results41, go_sem, k4, k5]) rfl ⟨rfl, ?_⟩
      exact ((((HB1.out.setCell (by simp; omega) _).setCell (by simp; omega) _).setCell (by simp; omega) _).setCell (by simp; omega) _).drew
  · have ho1 : decide (0 < orderV a b) = false := by simp [ho]
    have he : endsV a b = (a, b) := by unfold endsV; rw [if_neg ho]
    rw [he]
    clear ho he
    go_enter Try.func41, Try.ntmps41
    go_wp2_with fail
    refine (order_any a b _).mono ?_
    rintro e w1 ⟨rfl, hb1⟩
    have HB1 := hide (btr HB0.out hb1)
    have k2 := (K2.below hb1 K2.lt).cell
    have k3 := (K3.below hb1 K3.lt).cell
    have k4 := (K4.below hb1 K4.lt).cell
    have k5 := (K5.below hb1 K5.lt).cell
    have q4 := (K4.below hb1 K4.lt).frozen
    have q5 := (K5.below hb1 K5.lt).frozen
    have z5 := (K5.below hb1 K5.lt).lt
    clear hb1 K2 K3 K4 K5
    go_wp2_with fail
    go_region
    all_goals
      go_wp2
      refine bodyPost_ret (v := .tuple #[.agg #[.int .i64 a.x, .int .i64 a.y], .agg #[.int .i64 b.x, .int .i64 b.y]]) (by simp [results, Try.results41, go_sem, k4, k5]) rfl ⟨rfl, ?_⟩
      exact ((((HB1.out.setCell (by simp; omega) _).setCell (by simp; omega) _).setCell (by simp; omega) _).setCell (by simp; omega) _).drew

/-! Boxes: the parameters' own variables -/
def pcs (a : Pt) : Array Value := #[Value.int IntKind.i64 a.x, Value.int IntKind.i64 a.y]
abbrev PB (W : World) (g : Nat) (a : Pt) : Prop := Blk W g 23 #[Value.int IntKind.i64 a.x, Value.int IntKind.i64 a.y]
def Box2 (W : World) (g : Nat) (a b : Pt) : Prop := PB W g a ∧ PB W (g + 1) b
def Box3 (W : World) (g : Nat) (a b c : Pt) : Prop := PB W g a ∧ PB W (g + 1) b ∧ PB W (g + 1 + 1) c
def Box4 (W : World) (g : Nat) (a b c d : Pt) : Prop := PB W g a ∧ PB W (g + 1) b ∧ PB W (g + 1 + 1) c ∧ PB W (g + 1 + 1 + 1) d
theorem PB.later {W W' : World} {g : Nat} {a : Pt} (h : PB W g a) (hb : Below W.heap.size W W') : PB W' g a := Blk.below h hb (Blk.lt h)
theorem Box2.later {W W' : World} {g : Nat} {a b : Pt} (h : Box2 W g a b) (hb : Below W.heap.size W W') : Box2 W' g a b := ⟨h.1.later hb, h.2.later hb⟩
theorem Box3.later {W W' : World} {g : Nat} {a b c : Pt} (h : Box3 W g a b c) (hb : Below W.heap.size W W') : Box3 W' g a b c := ⟨h.1.later hb, h.2.1.later hb, h.2.2.later hb⟩
theorem Box4.later {W W' : World} {g : Nat} {a b c d : Pt} (h : Box4 W g a b c d) (hb : Below W.heap.size W W') : Box4 W' g a b c d := ⟨h.1.later hb, h.2.1.later hb, h.2.2.1.later hb, h.2.2.2.later hb⟩
theorem PB.new (w : World) (a : Pt) : PB (w.alloc (pblk a.x a.y)) w.heap.size a := Blk.new _ _ _
theorem PB.al {W : World} {g : Nat} {a : Pt} (h : PB W g a) (o : Obj) : PB (W.alloc o) g a := Blk.alloc h o
theorem Box2.new (w : World) (a b : Pt) : Box2 ((w.alloc (pblk a.x a.y)).alloc (pblk b.x b.y)) w.heap.size a b :=
  ⟨(PB.new w a).al _, by have := PB.new (w.alloc (pblk a.x a.y)) b; simpa using this⟩
theorem Box3.new (w : World) (a b c : Pt) : Box3 (((w.alloc (pblk a.x a.y)).alloc (pblk b.x b.y)).alloc (pblk c.x c.y)) w.heap.size a b c :=
  ⟨(Box2.new w a b).1.al _, (Box2.new w a b).2.al _, by have := PB.new ((w.alloc (pblk a.x a.y)).alloc (pblk b.x b.y)) c; simpa using this⟩
theorem Box4.new (w : World) (a b c d : Pt) : Box4 ((((w.alloc (pblk a.x a.y)).alloc (pblk b.x b.y)).alloc (pblk c.x c.y)).alloc (pblk d.x d.y)) w.heap.size a b c d :=
  ⟨(Box3.new w a b c).1.al _, (Box3.new w a b c).2.1.al _, (Box3.new w a b c).2.2.al _, by have := PB.new (((w.alloc (pblk a.x a.y)).alloc (pblk b.x b.y)).alloc (pblk c.x c.y)) d; simpa using this⟩
theorem bel2 (w : World) (a b : Pt) : Below w.heap.size w ((w.alloc (pblk a.x a.y)).alloc (pblk b.x b.y)) := bal (bal (Below.refl _ _) _) _
theorem bel3 (w : World) (a b c : Pt) : Below w.heap.size w (((w.alloc (pblk a.x a.y)).alloc (pblk b.x b.y)).alloc (pblk c.x c.y)) := bal (bel2 _ _ _) _
theorem bel4 (w : World) (a b c d : Pt) : Below w.heap.size w ((((w.alloc (pblk a.x a.y)).alloc (pblk b.x b.y)).alloc (pblk c.x c.y)).alloc (pblk d.x d.y)) := bal (bel3 _ _ _ _) _

theorem Box3.lts {W : World} {g : Nat} {a b c : Pt} (h : Box3 W g a b c) : (g < W.heap.size ∧ g + 1 < W.heap.size ∧ g + 1 + 1 < W.heap.size) ∧ g < W.heap.size + 1 ∧ g + 1 < W.heap.size + 1 ∧ g + 1 + 1 < W.heap.size + 1 := by
  have := Blk.lt h.2.2; omega
theorem Box4.lts {W : World} {g : Nat} {a b c d : Pt} (h : Box4 W g a b c d) : (g < W.heap.size ∧ g + 1 < W.heap.size ∧ g + 1 + 1 < W.heap.size ∧ g + 1 + 1 + 1 < W.heap.size) ∧ g < W.heap.size + 1 ∧ g + 1 < W.heap.size + 1 ∧ g + 1 + 1 < W.heap.size + 1 ∧ g + 1 + 1 + 1 < W.heap.size + 1 := by
  have := Blk.lt h.2.2.2; omega
def onV (a b p : Pt) : Bool := (turnV a b p == 0) && (decide (orderV (endsV a b).1 p ≤ 0) && decide (orderV p (endsV a b).2 ≤ 0))
set_option maxRecDepth 100000 in
set_option maxHeartbeats 1000000 in
theorem on_any (a b p : Pt) (w : World) (ha : a.good) (hb : b.good) (hp : p.good) :
    Calls Try.prog 27 #[.agg #[.int .i64 a.x, .int .i64 a.y], .agg #[.int .i64 b.x, .int .i64 b.y], .agg #[.int .i64 p.x, .int .i64 p.y]] w fun e w' => e = .returned (.bool (onV a b p)) ∧ Below w.heap.size w w' := by
  have HB0 := hide (bel3 w a b p)
  have HX0 := hide (Box3.new w a b p)
  generalize hlh : endsV a b = lh
  obtain ⟨lo, hi⟩ := lh
  have HV : Hid (∀ t1 t2 t3 : Bool, (turnV a b p == 0) = t1 → decide (orderV lo p ≤ 0) = t2 → decide (orderV p hi ≤ 0) = t3 → onV a b p = (t1 && (t2 && t3))) := fun t1 t2 t3 h1 h2 h3 => by unfold onV; rw [hlh, h1, h2, h3]
  go_enter Try.func27, Try.ntmps27
  go_wp2_with fail
  refine (ends_any a b _).mono ?_
  rintro e w1 ⟨rfl, hb1⟩
  rw [hlh]
  simp only
  have HB1 := hide (btr HB0.out hb1)
  have HX1 := hide (HX0.out.later hb1)
  have HB2 := hide (btr HB1.out (bel2 w1 lo hi))
  have HX2 := hide (HX1.out.later (bel2 w1 lo hi))
  have HL2 := hide (Box2.new w1 lo hi)
  clear hb1 hlh
  obtain ⟨x3, x4, x5⟩ := HX1.out
  have k3 := x3.cell; have k4 := x4.cell; have k5 := x5.cell
  obtain ⟨⟨z1, z2, z3⟩, z4, z5, z6⟩ := HX1.out.lts
  clear x3 x4 x5
  go_wp2_with fail
  refine (turn_any a b p _ ha hb hp).mono ?_
  rintro e w3 ⟨rfl, hb3⟩
  have HB3 := hide (btr HB2.out hb3)
  have HX3 := hide (HX2.out.later hb3)
  have HL3 := hide (HL2.out.later hb3)
  clear hb3 k3 k4 k5 z1 z2 z3 z4 z5 z6
  cases h1 : (turnV a b p == 0)
  · have HQ := hide (HV.out _ (decide (orderV lo p ≤ 0)) (decide (orderV p hi ≤ 0)) h1 rfl rfl)
    go_wp2
    go_ret
    exact ⟨ret_bool (by rw [HQ.out]; rfl), HB3.out⟩
  · have H1 := hide h1
    obtain ⟨x3, x4, x5⟩ := HX3.out
    obtain ⟨y6, y7⟩ := HL3.out
    have k5 := x5.cell; have k6 := y6.cell
    clear x3 x4 x5 y6 y7
    go_wp2_with fail
    refine (order_any lo p _).mono ?_
    rintro e w4 ⟨rfl, hb4⟩
    have HB4 := hide (btr HB3.out hb4)
    have HX4 := hide (HX3.out.later hb4)
    have HL4 := hide (HL3.out.later hb4)
    clear hb4 k5 k6
    cases h2 : decide (orderV lo p ≤ 0)
    · have HQ := hide (HV.out _ _ (decide (orderV p hi ≤ 0)) H1.out h2 rfl)
      go_wp2
      go_ret
      exact ⟨ret_bool (by rw [HQ.out]; rfl), HB4.out⟩
    · have H2 := hide h2
      obtain ⟨x3, x4, x5⟩ := HX4.out
      obtain ⟨y6, y7⟩ := HL4.out
      have k5 := x5.cell; have k7 := y7.cell
      clear x3 x4 x5 y6 y7
      go_wp2_with fail
      refine (order_any p hi _).mono ?_
      rintro e w5 ⟨rfl, hb5⟩
      have HB5 := hide (btr HB4.out hb5)
      have HQ := hide (HV.out _ _ _ H1.out H2.out rfl)
      clear hb5 k5 k7
      go_wp2
      go_ret
      exact ⟨ret_bool (by rw [HQ.out]; rfl), HB5.out⟩
end Go.Proofs.Yticmoijngfpeeaa
