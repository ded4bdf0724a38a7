/- Points: geo.Cross, geo.Square. -/
import Derived.Test.YticmoijngfpeeaaGeoF
import Derived.Test.YticmoijngfpeeaaEnv
import Derived.Test.YticmoijngfpeeaaWideTot
import Derived.Test.YticmoijngfpeeaaWideSg
import Derived.Deep.RegionHeld3
import Derived.Outline
namespace Go.Proofs.Yticmoijngfpeeaa
set_option linter.unusedSimpArgs false
set_option linter.unusedVariables false
open Go.RowKit
def crossA (a b c : Pt) : I2 := if goodAll [a, b, c] then two (crossV a b c) else ⟨0, 0⟩
theorem cross_i64 {a b c : Pt} (ha : a.good) (hb : b.good) (hc : c.good) : i64ok (crossV a b c) := by
  have := cross_bound ha hb hc; unfold i64ok; omega
abbrev pcells (a : Pt) : Array Value := #[Value.int IntKind.i64 a.x, Value.int IntKind.i64 a.y]
abbrev icells (x : I2) : Array Value := #[Value.int IntKind.i64 x.hi, Value.int IntKind.u64 x.lo]
set_option maxRecDepth 100000 in
set_option maxHeartbeats 1000000 in
theorem gcross_any (a b c : Pt) (w : World) :
    Calls Try.prog 15 #[.agg #[.int .i64 a.x, .int .i64 a.y], .agg #[.int .i64 b.x, .int .i64 b.y], .agg #[.int .i64 c.x, .int .i64 c.y]] w fun e w' => e = .returned (.tuple #[.agg #[.int .i64 (crossA a b c).hi, .int .u64 (crossA a b c).lo], .int .i64 (errA [a, b, c])]) ∧ Below w.heap.size w w' := by
  have HB0 : Hid (Below w.heap.size w ((((w.alloc (pblk a.x a.y)).alloc (pblk b.x b.y)).alloc (pblk c.x c.y)).alloc (iblk ⟨0, 0⟩))) := hide (by (repeat (first | exact Below.refl _ _ | refine Below.drew ?_ | refine Below.setCell ?_ (by simp; try omega) _ | refine bal ?_ _)))
  have HI0 := hide (((((Bs.nil w).al (pcells a) 23).al (pcells b) 23).al (pcells c) 23).al (icells ⟨0, 0⟩) 37)
  have HN0 := hide (HI0.out.al (cs6 a b c) 23 (_, _, _) (List.mem_cons_self))
  simp only [heap_al] at HI0 HN0
  unfold crossA errA
  cases h : goodAll [a, b, c]
  · have HG := hide h
    clear h
    go_enter Try.func15, Try.ntmps15
    go_wp2_with fail
    refine (good_any [a, b, c] _ 3 3 _ (pr3 HN0.out) (by omega)).mono ?_
    rintro e w1 ⟨rfl, hb1⟩
    rw [HG.out]
    have HB1 := hide (btr (bal HB0.out _) hb1)
    have HI1 := hide ((HI0.out.keep _).later hb1)
    clear hb1
    obtain ⟨k1, q1, z1⟩ := HI1.out.get (w.heap.size + 1 + 1 + 1) 37 (icells ⟨0, 0⟩) (by simp)
    go_wp2_with fail
    refine bodyPost_ret (v := .tuple #[.agg #[.int .i64 0, .int .u64 0], .int .i64 3]) (by simp (maxDischargeDepth := 9) [results, Try.results15, go_sem, k1]) rfl ⟨rfl, ?_⟩
    exact (by repeat (first | exact HB1.out | refine Below.drew ?_ | refine Below.setCell ?_ (by simp; try omega) _ | refine bal ?_ _))
  · obtain ⟨ga, gb, gc⟩ := good3_iff.1 h
    have HG := hide h
    have HC := hide (cross_i64 ga gb gc)
    clear h
    go_enter Try.func15, Try.ntmps15
    go_wp2_with fail
    refine (good_any [a, b, c] _ 3 3 _ (pr3 HN0.out) (by omega)).mono ?_
    rintro e w1 ⟨rfl, hb1⟩
    rw [HG.out]
    have HB1 := hide (btr (bal HB0.out _) hb1)
    have HI1 := hide ((HI0.out.keep _).later hb1)
    clear hb1
    obtain ⟨k1, q1, z1⟩ := HI1.out.get w.heap.size 23 (pcells a) (by simp)
    obtain ⟨k2, q2, z2⟩ := HI1.out.get (w.heap.size + 1) 23 (pcells b) (by simp)
    obtain ⟨k3, q3, z3⟩ := HI1.out.get (w.heap.size + 1 + 1) 23 (pcells c) (by simp)
    go_wp2_with fail
    refine (cross_any a b c _ ga gb gc).mono ?_
    rintro e w2 ⟨rfl, hb2⟩
    have HB2 := hide (btr HB1.out hb2)
    have HI2 := hide (HI1.out.later hb2)
    clear hb2 k1 q1 z1 k2 q2 z2 k3 q3 z3
    go_wp2_with fail
    refine (wof_any (crossV a b c) _ HC.out).mono ?_
    rintro e w3 ⟨rfl, hb3⟩
    have HB3 := hide (btr HB2.out hb3)
    have HI3 := hide (HI2.out.later hb3)
    clear hb3
    obtain ⟨k1, q1, z1⟩ := HI3.out.get (w.heap.size + 1 + 1 + 1) 37 (icells ⟨0, 0⟩) (by simp)
    go_wp2_with fail
    refine bodyPost_ret (v := .tuple #[.agg #[.int .i64 (two (crossV a b c)).hi, .int .u64 (two (crossV a b c)).lo], .int .i64 0]) (by simp (maxDischargeDepth := 9) [results, Try.results15, go_sem, k1]) rfl ⟨rfl, ?_⟩
    exact (by repeat (first | exact HB3.out | refine Below.drew ?_ | refine Below.setCell ?_ (by simp; try omega) _ | refine bal ?_ _))
theorem bcell {W w1 : World} (hb : Below W.heap.size W w1) : (∀ b o, b < W.heap.size → w1.cell? ⟨b, o, none⟩ = W.cell? ⟨b, o, none⟩) ∧ (∀ b o, b < W.heap.size → w1.frozen? ⟨b, o, none⟩ = W.frozen? ⟨b, o, none⟩) :=
  ⟨fun b o h => hb.cell (p := ⟨b, o, none⟩) h, fun b o h => hb.frozen (p := ⟨b, o, none⟩) h⟩
abbrev SqS (w : World) (a b : Pt) (w' : World) : Prop := w'.cell? ⟨w.heap.size, 0, none⟩ = some (.int .i64 a.x) ∧ w'.cell? ⟨w.heap.size, 1, none⟩ = some (.int .i64 a.y) ∧ w'.cell? ⟨w.heap.size + 1, 0, none⟩ = some (.int .i64 b.x) ∧ w'.cell? ⟨w.heap.size + 1, 1, none⟩ = some (.int .i64 b.y)
theorem SqS.set {w W : World} {a b : Pt} (h : SqS w a b W) (u v : Value) : SqS w a b ((W.setCell ⟨w.heap.size + 1 + 1, 0, none⟩ u).setCell ⟨w.heap.size + 1 + 1, 1, none⟩ v) := by
  obtain ⟨h1, h2, h3, h4⟩ := h
  refine ⟨?_, ?_, ?_, ?_⟩
  all_goals
    rw [World.cell?_setCell_other _ _ _ _ (fun e => by injection e; omega), World.cell?_setCell_other _ _ _ _ (fun e => by injection e; omega)]
    assumption
structure SqE (w : World) (a b : Pt) (W : World) : Prop where
  s : SqS w a b W
  z : w.heap.size + 1 + 1 < W.heap.size
  bel : Below w.heap.size w W
  blk : Blk W (w.heap.size + 1 + 1) 37 (icells ⟨0, 0⟩)
theorem SqE.later {w W W' : World} {a b : Pt} (h : SqE w a b W) (hb : Below W.heap.size W W') : SqE w a b W' :=
  have hz := h.z
  ⟨⟨(hb.cell (p := ⟨w.heap.size, 0, none⟩) (show w.heap.size < _ by omega)).trans h.s.1, (hb.cell (p := ⟨w.heap.size, 1, none⟩) (show w.heap.size < _ by omega)).trans h.s.2.1,
    (hb.cell (p := ⟨w.heap.size + 1, 0, none⟩) (show w.heap.size + 1 < _ by omega)).trans h.s.2.2.1, (hb.cell (p := ⟨w.heap.size + 1, 1, none⟩) (show w.heap.size + 1 < _ by omega)).trans h.s.2.2.2⟩, Nat.lt_of_lt_of_le hz hb.size, btr h.bel hb, h.blk.below hb hz⟩
theorem SqE.drew {w W : World} {a b : Pt} (h : SqE w a b W) : SqE w a b W.drew := h.later ((Below.refl _ _).drew)
def sqV (a b : Pt) : Int := (b.x - a.x) * (b.x - a.x) + (b.y - a.y) * (b.y - a.y)
def squareA (a b : Pt) : I2 := if goodAll [a, b] then two (sqV a b) else ⟨0, 0⟩
theorem good2_iff {a b : Pt} : goodAll [a, b] = true ↔ a.good ∧ b.good := by unfold goodAll; simp
theorem sq_nn (x : Int) : 0 ≤ x * x := by
  rcases Int.le_total 0 x with h | h
  · exact Int.mul_nonneg h h
  · rw [← Int.neg_mul_neg]; exact Int.mul_nonneg (by omega) (by omega)
theorem sq_bound {x : Int} (h0 : -2147483648 ≤ x) (h1 : x ≤ 2147483648) : 0 ≤ x * x ∧ x * x ≤ 4611686018427387904 :=
  ⟨sq_nn x, (mul_le_sq (L := 2147483648) h0 h1 h0 h1).2⟩
theorem sq_tot {u v : Int} (hu : 0 ≤ u ∧ u ≤ 4611686018427387904) (hv : 0 ≤ v ∧ v ≤ 4611686018427387904) : tot 0 [two u, two v] = some (u + v) := by
  have h1 : inr (0 + (two u).num) := by rw [two_num]; unfold inr; omega
  have h2 : inr (0 + (two u).num + (two v).num) := by rw [two_num, two_num]; unfold inr; omega
  unfold tot; rw [if_pos h1]
  unfold tot; rw [if_pos h2]
  unfold tot; rw [two_num, two_num, Int.zero_add]
def cs4 (a b : Pt) : Array Value := #[Value.int IntKind.i64 a.x, Value.int IntKind.i64 a.y, Value.int IntKind.i64 b.x, Value.int IntKind.i64 b.y]
theorem pr2 {W : World} {g : Nat} {t : TypeId} {a b : Pt} (h : Blk W g t (cs4 a b)) : PR W W.heap.size (some ⟨g, 0, none⟩) 2 [a, b] := Sl.of_blk h rfl rfl rfl
def ds4 (x y : I2) : Array Value := #[Value.int IntKind.i64 x.hi, Value.int IntKind.u64 x.lo, Value.int IntKind.i64 y.hi, Value.int IntKind.u64 y.lo]
theorem ir2 {W : World} {g : Nat} {t : TypeId} {x y : I2} (h : Blk W g t (ds4 x y)) : IR W W.heap.size (some ⟨g, 0, none⟩) 2 [x, y] := Sl.of_blk h rfl rfl rfl
set_option maxRecDepth 100000 in
set_option maxHeartbeats 2000000 in
theorem square_any (a b : Pt) (w : World) :
    Calls Try.prog 21 #[.agg #[.int .i64 a.x, .int .i64 a.y], .agg #[.int .i64 b.x, .int .i64 b.y]] w fun e w' => e = .returned (.tuple #[.agg #[.int .i64 (squareA a b).hi, .int .u64 (squareA a b).lo], .int .i64 (errA [a, b])]) ∧ Below w.heap.size w w' := by
  have HB0 : Hid (Below w.heap.size w (((w.alloc (pblk a.x a.y)).alloc (pblk b.x b.y)).alloc (iblk ⟨0, 0⟩))) := hide (by (repeat (first | exact Below.refl _ _ | refine Below.drew ?_ | refine Below.setCell ?_ (by simp; try omega) _ | refine bal ?_ _)))
  have HI0 := hide ((((Bs.nil w).al (pcells a) 23).al (pcells b) 23).al (icells ⟨0, 0⟩) 37)
  have HN0 := hide (HI0.out.al (cs4 a b) 23 (_, _, _) (List.mem_cons_self))
  simp only [heap_al] at HI0 HN0
  unfold squareA errA
  cases h : goodAll [a, b]
  · have HG := hide h
    clear h
    go_enter Try.func21, Try.ntmps21
    go_wp2_with fail
    refine (good_any [a, b] _ 2 2 _ (pr2 HN0.out) (by omega)).mono ?_
    rintro e w1 ⟨rfl, hb1⟩
    rw [HG.out]
    have HB1 := hide (btr (bal HB0.out _) hb1)
    have HI1 := hide ((HI0.out.keep _).later hb1)
    clear hb1
    obtain ⟨k1, q1, z1⟩ := HI1.out.get (w.heap.size + 1 + 1) 37 (icells ⟨0, 0⟩) (by simp)
    go_wp2_with fail
    refine bodyPost_ret (v := .tuple #[.agg #[.int .i64 0, .int .u64 0], .int .i64 3]) (by simp (maxDischargeDepth := 9) [results, Try.results21, go_sem, k1]) rfl ⟨rfl, ?_⟩
    exact (by repeat (first | exact HB1.out | refine Below.drew ?_ | refine Below.setCell ?_ (by simp; try omega) _ | refine bal ?_ _))
  · obtain ⟨ga, gb⟩ := good2_iff.1 h
    have HG := hide h
    obtain ⟨⟨a1, a2⟩, a3, a4⟩ := ga
    obtain ⟨⟨b1, b2⟩, b3, b4⟩ := gb
    obtain ⟨p, hp⟩ : ∃ p, b.x - a.x = p := ⟨_, rfl⟩
    obtain ⟨q, hq⟩ : ∃ q, b.y - a.y = q := ⟨_, rfl⟩
    have hpb : -2147483648 ≤ p ∧ p ≤ 2147483648 := by omega
    have hqb : -2147483648 ≤ q ∧ q ≤ 2147483648 := by omega
    have HT := hide (sq_tot (sq_bound hpb.1 hpb.2) (sq_bound hqb.1 hqb.2))
    have HP : Hid (i64ok p) := hide (by unfold i64ok; omega)
    have HQ : Hid (i64ok q) := hide (by unfold i64ok; omega)
    have HOK : Hid (okAll [two (p * p), two (q * q)]) := hide (by
      have e1 := sq_bound hpb.1 hpb.2
      have e2 := sq_bound hqb.1 hqb.2
      intro i hi
      match i, hi with
      | 0, _ => exact two_ok (by unfold inr; omega)
      | 1, _ => exact two_ok (by unfold inr; omega))
    have ep : IntKind.i64.wrap p = p := by rw [IntKind.wrap_i64]; omega
    have eq : IntKind.i64.wrap q = q := by rw [IntKind.wrap_i64]; omega
    have HV : Hid (sqV a b = p * p + q * q) := hide (by unfold sqV; rw [hp, hq])
    clear h hpb hqb
    go_enter Try.func21, Try.ntmps21
    go_wp2_with fail
    refine (good_any [a, b] _ 2 2 _ (pr2 HN0.out) (by omega)).mono ?_
    rintro e w1 ⟨rfl, hb1⟩
    rw [HG.out]
    have HB1 := hide (btr (bal HB0.out _) hb1)
    have HI1 := hide ((HI0.out.keep _).later hb1)
    clear hb1
    obtain ⟨k1, q1, z1⟩ := HI1.out.get w.heap.size 23 (pcells a) (by simp)
    obtain ⟨k2, q2, z2⟩ := HI1.out.get (w.heap.size + 1) 23 (pcells b) (by simp)
    obtain ⟨k3, q3, z3⟩ := HI1.out.get (w.heap.size + 1 + 1) 37 (icells ⟨0, 0⟩) (by simp)
    have c1 := k1 0; have c2 := k1 1; have c3 := k2 0; have c4 := k2 1
    simp at c1 c2 c3 c4
    have hE := SqE.drew ⟨⟨c1, c2, c3, c4⟩, z3, HB1.out, HI1.out (w.heap.size + 1 + 1, 37, icells ⟨0, 0⟩) (by simp)⟩
    clear k1 k2 k3 q1 q2 q3 HI1 HB1 HN0 HI0 HB0
    go_wp2_with fail
    go_region_held3 (fun w' => w'.cell? ⟨w.heap.size, 0, none⟩ = some (.int .i64 a.x) ∧ w'.cell? ⟨w.heap.size, 1, none⟩ = some (.int .i64 a.y) ∧ w'.cell? ⟨w.heap.size + 1, 0, none⟩ = some (.int .i64 b.x) ∧ w'.cell? ⟨w.heap.size + 1, 1, none⟩ = some (.int .i64 b.y))
      (first | (with_reducible exact hE.s) | (with_reducible exact SqS.set hE.s _ _) | go_keep)
      (first
        | (go_at_call 37; (with_reducible refine (wmul_any p p _ HP.out HP.out).mono ?_); rintro e w2 ⟨rfl, hb2⟩; have hE := hE.later hb2)
        | (go_at_call 37; (with_reducible refine (wmul_any q q _ HQ.out HQ.out).mono ?_); rintro e w2 ⟨rfl, hb2⟩; have hE := hE.later hb2)
        | (go_at_call 23; (refine (total_any [two (p * p), two (q * q)] _ 2 2 _ (ir2 (Blk.new _ _ (ds4 (two (p * p)) (two (q * q))))) HOK.out (by omega)).mono ?_); rintro e w2 ⟨rfl, hb2⟩; have hE := (hE.later (bal (Below.refl _ _) _)).later hb2; have k5 := hE.blk.cell; have q5 := hE.blk.frozen; have z5 := hE.z; rw [HT.out]; simp only [optI, optE]))
    all_goals
      go_wp2_with fail
      refine bodyPost_ret (v := .tuple #[.agg #[.int .i64 (two (p * p + q * q)).hi, .int .u64 (two (p * p + q * q)).lo], .int .i64 0]) (by simp (maxDischargeDepth := 9) [results, Try.results21, go_sem, k5]; done) rfl ⟨?_, ?_⟩
      · rw [HV.out]
      · exact (by repeat (first | exact hE.bel | refine Below.drew ?_ | refine Below.setCell ?_ (by simp; try omega) _ | refine bal ?_ _))
end Go.Proofs.Yticmoijngfpeeaa
