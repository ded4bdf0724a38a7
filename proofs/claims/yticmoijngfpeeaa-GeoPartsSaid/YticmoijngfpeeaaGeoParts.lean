/- Points: the law GeoParts. -/
import Derived.Test.YticmoijngfpeeaaGeoPLaw2
namespace Go.Proofs.Yticmoijngfpeeaa
set_option linter.unusedSimpArgs false
set_option linter.unusedVariables false
open Go.RowKit
def Box5 (W : World) (g : Nat) (a b c d p : Pt) : Prop := Box4 W g a b c d ∧ PB W (g + 1 + 1 + 1 + 1) p
theorem Box5.later {W W' : World} {g : Nat} {a b c d p : Pt} (h : Box5 W g a b c d p) (hb : Below W.heap.size W W') : Box5 W' g a b c d p := ⟨h.1.later hb, h.2.later hb⟩
theorem Box5.al {W : World} {g : Nat} {a b c d p : Pt} (h : Box5 W g a b c d p) (o : Obj) : Box5 (W.alloc o) g a b c d p := ⟨h.1.al o, h.2.al o⟩
theorem Box5.new (w : World) (a b c d p : Pt) : Box5 (((((w.alloc (pblk a.x a.y)).alloc (pblk b.x b.y)).alloc (pblk c.x c.y)).alloc (pblk d.x d.y)).alloc (pblk p.x p.y)) w.heap.size a b c d p :=
  ⟨(Box4.new w a b c d).al _, by have := PB.new ((((w.alloc (pblk a.x a.y)).alloc (pblk b.x b.y)).alloc (pblk c.x c.y)).alloc (pblk d.x d.y)) p; simpa using this⟩
theorem bel5 (w : World) (a b c d p : Pt) : Below w.heap.size w (((((w.alloc (pblk a.x a.y)).alloc (pblk b.x b.y)).alloc (pblk c.x c.y)).alloc (pblk d.x d.y)).alloc (pblk p.x p.y)) := bal (bel4 _ _ _ _ _) _
theorem Box5.all {W : World} {g : Nat} {a b c d p : Pt} (h : Box5 W g a b c d p) :
    (∀ i, W.cell? ⟨g, i, none⟩ = #[Value.int IntKind.i64 a.x, Value.int IntKind.i64 a.y][i]?) ∧ (∀ i, W.cell? ⟨g + 1, i, none⟩ = #[Value.int IntKind.i64 b.x, Value.int IntKind.i64 b.y][i]?) ∧
      (∀ i, W.cell? ⟨g + 1 + 1, i, none⟩ = #[Value.int IntKind.i64 c.x, Value.int IntKind.i64 c.y][i]?) ∧ (∀ i, W.cell? ⟨g + 1 + 1 + 1, i, none⟩ = #[Value.int IntKind.i64 d.x, Value.int IntKind.i64 d.y][i]?) ∧
      ∀ i, W.cell? ⟨g + 1 + 1 + 1 + 1, i, none⟩ = #[Value.int IntKind.i64 p.x, Value.int IntKind.i64 p.y][i]? :=
  ⟨h.1.all.1.1, h.1.all.1.2.1, h.1.all.1.2.2.1, h.1.all.1.2.2.2, Blk.cell h.2⟩
def cs10 (a b c d p : Pt) : Array Value := #[Value.int IntKind.i64 a.x, Value.int IntKind.i64 a.y, Value.int IntKind.i64 b.x, Value.int IntKind.i64 b.y, Value.int IntKind.i64 c.x, Value.int IntKind.i64 c.y, Value.int IntKind.i64 d.x, Value.int IntKind.i64 d.y, Value.int IntKind.i64 p.x, Value.int IntKind.i64 p.y]
theorem pr5 {W : World} {g : Nat} {t : TypeId} {a b c d p : Pt} (h : Blk W g t (cs10 a b c d p)) : PR W W.heap.size (some ⟨g, 0, none⟩) 5 [a, b, c, d, p] :=
  Sl.of_blk h rfl rfl rfl
theorem good5_iff {a b c d p : Pt} : goodAll [a, b, c, d, p] = true ↔ a.good ∧ b.good ∧ c.good ∧ d.good ∧ p.good := by unfold goodAll; simp
theorem meet_of {a b c d : Pt} (ha : a.good) (hb : b.good) (hc : c.good) (hd : d.good) : meetA a b c d = rmeetV a b c d ∧ errA [a, b, c, d] = 0 := by
  have h := good4_iff.2 ⟨ha, hb, hc, hd⟩
  unfold meetA errA; rw [h]
  exact ⟨meet_eq ha hb hc hd, rfl⟩
theorem parts_ways {W U V : Int} (h : 0 < W ↔ 0 < U ∨ 0 < V) (hu : U = 3 → W = 3) (hv : V = 3 → W = 3) (hU : U ≤ 3) (hV : V ≤ 3) :
    ((decide (0 < W) = true ∧ decide (0 < U) = true) ∨ (decide (0 < W) = true ∧ decide (0 < U) = false ∧ decide (0 < V) = true) ∨ (decide (0 < W) = false ∧ decide (0 < U) = false ∧ decide (0 < V) = false)) ∧
    ((W == 3) = true ∨ ((W == 3) = false ∧ decide (U < 3) = true ∧ decide (V < 3) = true)) := by
  simp only [decide_eq_true_iff, decide_eq_false_iff_not, beq_iff_eq, beq_eq_false_iff_ne]
  omega
set_option maxRecDepth 100000 in
set_option maxHeartbeats 1000000 in
theorem lawParts (a b c d p : Pt) (w : World) :
    Calls Try.prog 4 #[.agg #[.int .i64 a.x, .int .i64 a.y], .agg #[.int .i64 b.x, .int .i64 b.y], .agg #[.int .i64 c.x, .int .i64 c.y], .agg #[.int .i64 d.x, .int .i64 d.y], .agg #[.int .i64 p.x, .int .i64 p.y]] w fun e w' => e = .returned (.bool true) ∧ Below w.heap.size w w' := by
  have HB0 := hide (bel5 w a b c d p)
  have HX0 := hide (Box5.new w a b c d p)
  go_enter Try.func4, Try.ntmps4
  go_wp2_with fail
  refine (ganswers_any _).mono ?_
  rintro e w1 ⟨rfl, hb1⟩
  have HB1 := hide (btr HB0.out hb1)
  have HX1 := hide (HX0.out.later hb1)
  clear hb1 HB0 HX0
  obtain ⟨k1, k2, k3, k4, k5⟩ := HX1.out.all
  go_wp2_with fail
  refine (rgood_any [a, b, c, d, p] _ 5 5 _ (pr5 (Blk.new w1 _ (cs10 a b c d p))) (by omega)).mono ?_
  rintro e w2 ⟨rfl, hb2⟩
  have HB2 := hide (btr (bal HB1.out _) hb2)
  have HX2 := hide ((HX1.out.al _).later hb2)
  clear hb2 HB1 HX1 k1 k2 k3 k4 k5
  obtain ⟨k1, k2, k3, k4, k5⟩ := HX2.out.all
  cases hg : goodAll [a, b, c, d, p]
  · clear hg
    go_wp2_with fail
    refine (ganswers_any _).mono ?_
    rintro e w3 ⟨rfl, hb3⟩
    have HB3 := hide (btr HB2.out hb3)
    clear hb3
    go_wp2
    go_ret
    exact ⟨rfl, HB3.out⟩
  · obtain ⟨ga, gb, gc, gd, gp⟩ := good5_iff.1 hg
    clear hg
    go_wp2_with fail
    refine (ron_any a b p _ ga gb gp).mono ?_
    rintro e w3 ⟨rfl, hb3⟩
    have HB3 := hide (btr HB2.out hb3)
    have HX3 := hide (HX2.out.later hb3)
    clear hb3 HB2 HX2 k1 k2 k3 k4 k5
    cases ho : ronV a b p
    · clear ho
      go_wp2_with fail
      refine (ganswers_any _).mono ?_
      rintro e w4 ⟨rfl, hb4⟩
      have HB4 := hide (btr HB3.out hb4)
      clear hb4
      go_wp2
      go_ret
      exact ⟨rfl, HB4.out⟩
    · have hw := parts_ways (parts_meet ga gb gc gd gp ho) (part_three ga gb gc gd gp ho) (parts_three ga gb gc gd gp ho) (rmeet_range a p c d).2 (rmeet_range p b c d).2
      obtain ⟨r1, s1⟩ := meet_of ga gb gc gd
      obtain ⟨r2, s2⟩ := meet_of ga gp gc gd
      obtain ⟨r3, s3⟩ := meet_of gp gb gc gd
      obtain ⟨r4, s4⟩ := meet_of ga gp gp gb
      rw [parts_both ho] at r4
      generalize rmeetV a b c d = R1 at hw r1
      generalize rmeetV a p c d = R2 at hw r2
      generalize rmeetV p b c d = R3 at hw r3
      have P1 := hide r1; have P2 := hide r2; have P3 := hide r3; have P4 := hide r4
      have S1 := hide s1; have S2 := hide s2; have S3 := hide s3; have S4 := hide s4
      have HW := hide hw
      clear hw r1 r2 r3 r4 s1 s2 s3 s4 ho
      obtain ⟨k1, k2, k3, k4, k5⟩ := HX3.out.all
      go_wp2_with fail
      refine (meet_any a b c d _).mono ?_
      rintro e w4 ⟨rfl, hb4⟩
      rw [P1.out, S1.out]
      have HB4 := hide (btr HB3.out hb4)
      have HX4 := hide (HX3.out.later hb4)
      clear hb4 HB3 HX3 k1 k2 k3 k4 k5
      obtain ⟨k1, k2, k3, k4, k5⟩ := HX4.out.all
      go_wp2_with fail
      refine (meet_any a p c d _).mono ?_
      rintro e w5 ⟨rfl, hb5⟩
      rw [P2.out, S2.out]
      have HB5 := hide (btr HB4.out hb5)
      have HX5 := hide (HX4.out.later hb5)
      clear hb5 HB4 HX4 k1 k2 k3 k4 k5
      obtain ⟨k1, k2, k3, k4, k5⟩ := HX5.out.all
      go_wp2_with fail
      refine (meet_any p b c d _).mono ?_
      rintro e w6 ⟨rfl, hb6⟩
      rw [P3.out, S3.out]
      have HB6 := hide (btr HB5.out hb6)
      have HX6 := hide (HX5.out.later hb6)
      clear hb6 HB5 HX5 k1 k2 k3 k4 k5
      obtain ⟨k1, k2, k3, k4, k5⟩ := HX6.out.all
      go_wp2_with fail
      refine (meet_any a p p b _).mono ?_
      rintro e w7 ⟨rfl, hb7⟩
      rw [P4.out, S4.out]
      have HB7 := hide (btr HB6.out hb7)
      clear hb7 HB6 HX6 k1 k2 k3 k4 k5
      rcases HW.out with ⟨⟨h1, h2⟩ | ⟨h1, h2, h3⟩ | ⟨h1, h2, h3⟩, q1 | ⟨q1, q2, q3⟩⟩
      all_goals
        go_wp2
        go_ret
        exact ⟨rfl, HB7.out⟩
end Go.Proofs.Yticmoijngfpeeaa
