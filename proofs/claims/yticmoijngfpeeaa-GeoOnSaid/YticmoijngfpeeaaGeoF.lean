/- Points: geo.Meet, geo.Turn, answers; the laws GeoMeets, GeoRound. -/
import Derived.Test.YticmoijngfpeeaaGeoLaw3
import Derived.Test.YticmoijngfpeeaaGeoE
namespace Go.Proofs.Yticmoijngfpeeaa
set_option linter.unusedSimpArgs false
set_option linter.unusedVariables false
open Go.RowKit
def errA (l : List Pt) : Int := if goodAll l then 0 else 3
def meetA (a b c d : Pt) : Int := if goodAll [a, b, c, d] then meetV a b c d else 0
def turnA (a b c : Pt) : Int := if goodAll [a, b, c] then turnV a b c else 0
theorem good4_iff {a b c d : Pt} : goodAll [a, b, c, d] = true ↔ a.good ∧ b.good ∧ c.good ∧ d.good := by unfold goodAll; simp
theorem good3_iff {a b c : Pt} : goodAll [a, b, c] = true ↔ a.good ∧ b.good ∧ c.good := by unfold goodAll; simp
set_option maxRecDepth 100000 in
set_option maxHeartbeats 1000000 in
theorem meet_bad (a b c d : Pt) (w : World) (hg : goodAll [a, b, c, d] = false) :
    Calls Try.prog 9 #[.agg #[.int .i64 a.x, .int .i64 a.y], .agg #[.int .i64 b.x, .int .i64 b.y], .agg #[.int .i64 c.x, .int .i64 c.y], .agg #[.int .i64 d.x, .int .i64 d.y]] w fun e w' => e = .returned (.tuple #[.int .i64 0, .int .i64 3]) ∧ Below w.heap.size w w' := by
  have HB0 := hide (bel4 w a b c d)
  have HG := hide hg
  clear hg
  go_enter Try.func9, Try.ntmps9
  go_wp2_with fail
  refine (good_any [a, b, c, d] _ 4 4 _ (pr4 (new5 w a b c d (cs8 a b c d) _)) (by omega)).mono ?_
  rintro e w1 ⟨rfl, hb1⟩
  rw [HG.out]
  have HB1 := hide (btr (bal HB0.out _) hb1)
  clear hb1 HB0
  go_wp2_with fail
  exact bodyPost_ret (v := .tuple #[.int .i64 0, .int .i64 3]) (by simp [results, Try.results9, go_sem]) rfl ⟨rfl, HB1.out⟩
theorem meet_any (a b c d : Pt) (w : World) :
    Calls Try.prog 9 #[.agg #[.int .i64 a.x, .int .i64 a.y], .agg #[.int .i64 b.x, .int .i64 b.y], .agg #[.int .i64 c.x, .int .i64 c.y], .agg #[.int .i64 d.x, .int .i64 d.y]] w fun e w' => e = .returned (.tuple #[.int .i64 (meetA a b c d), .int .i64 (errA [a, b, c, d])]) ∧ Below w.heap.size w w' := by
  unfold meetA errA
  cases h : goodAll [a, b, c, d]
  · exact meet_bad a b c d w h
  · exact meet_good a b c d w (good4_iff.1 h)
def cs6 (a b c : Pt) : Array Value := #[Value.int IntKind.i64 a.x, Value.int IntKind.i64 a.y, Value.int IntKind.i64 b.x, Value.int IntKind.i64 b.y, Value.int IntKind.i64 c.x, Value.int IntKind.i64 c.y]
theorem pr3 {W : World} {g : Nat} {t : TypeId} {a b c : Pt} (h : Blk W g t (cs6 a b c)) : PR W W.heap.size (some ⟨g, 0, none⟩) 3 [a, b, c] :=
  Sl.of_blk h rfl rfl rfl
theorem new4 (w : World) (a b c : Pt) (cs : Array Value) (t : TypeId) : Blk ((((w.alloc (pblk a.x a.y)).alloc (pblk b.x b.y)).alloc (pblk c.x c.y)).alloc (Obj.cells cs t)) (w.heap.size + 1 + 1 + 1) t cs := by
  have := Blk.new (((w.alloc (pblk a.x a.y)).alloc (pblk b.x b.y)).alloc (pblk c.x c.y)) t cs
  simpa using this
theorem Box3.al {W : World} {g : Nat} {a b c : Pt} (h : Box3 W g a b c) (o : Obj) : Box3 (W.alloc o) g a b c := ⟨h.1.al o, h.2.1.al o, h.2.2.al o⟩
set_option maxRecDepth 100000 in
set_option maxHeartbeats 1000000 in
theorem gturn_any (a b c : Pt) (w : World) :
    Calls Try.prog 14 #[.agg #[.int .i64 a.x, .int .i64 a.y], .agg #[.int .i64 b.x, .int .i64 b.y], .agg #[.int .i64 c.x, .int .i64 c.y]] w fun e w' => e = .returned (.tuple #[.int .i64 (turnA a b c), .int .i64 (errA [a, b, c])]) ∧ Below w.heap.size w w' := by
  have HB0 := hide (bel3 w a b c)
  have HX0 := hide (Box3.new w a b c)
  unfold turnA errA
  cases h : goodAll [a, b, c]
  · have HG := hide h
    clear h
    go_enter Try.func14, Try.ntmps14
    go_wp2_with fail
    refine (good_any [a, b, c] _ 3 3 _ (pr3 (new4 w a b c (cs6 a b c) _)) (by omega)).mono ?_
    rintro e w1 ⟨rfl, hb1⟩
    rw [HG.out]
    have HB1 := hide (btr (bal HB0.out _) hb1)
    clear hb1 HB0 HX0
    go_wp2_with fail
    exact bodyPost_ret (v := .tuple #[.int .i64 0, .int .i64 3]) (by simp [results, Try.results14, go_sem]) rfl ⟨rfl, HB1.out⟩
  · obtain ⟨ga, gb, gc⟩ := good3_iff.1 h
    have HG := hide h
    clear h
    go_enter Try.func14, Try.ntmps14
    go_wp2_with fail
    refine (good_any [a, b, c] _ 3 3 _ (pr3 (new4 w a b c (cs6 a b c) _)) (by omega)).mono ?_
    rintro e w1 ⟨rfl, hb1⟩
    rw [HG.out]
    have HB1 := hide (btr (bal HB0.out _) hb1)
    have HX1 := hide ((HX0.out.al _).later hb1)
    clear hb1 HB0 HX0
    obtain ⟨x3, x4, x5⟩ := HX1.out
    have k3 := x3.cell; have k4 := x4.cell; have k5 := x5.cell
    clear x3 x4 x5
    go_wp2_with fail
    refine (turn_any a b c _ ga gb gc).mono ?_
    rintro e w2 ⟨rfl, hb2⟩
    have HB2 := hide (btr HB1.out hb2)
    clear hb2
    go_wp2_with fail
    exact bodyPost_ret (v := .tuple #[.int .i64 (turnV a b c), .int .i64 0]) (by simp [results, Try.results14, go_sem]) rfl ⟨rfl, HB2.out⟩
theorem meet_ans : meetA ⟨0, 0⟩ ⟨4, 4⟩ ⟨0, 4⟩ ⟨4, 0⟩ = 2 ∧ errA [⟨0, 0⟩, ⟨4, 4⟩, ⟨0, 4⟩, ⟨4, 0⟩] = 0 := by decide +kernel
set_option maxRecDepth 100000 in
set_option maxHeartbeats 400000 in
theorem ganswers_any (w : World) :
    Calls Try.prog 10 #[] w fun e w' => e = .returned (.bool true) ∧ Below w.heap.size w w' := by
  go_enter Try.func10, Try.ntmps10
  go_wp2_with fail
  refine (meet_any ⟨0, 0⟩ ⟨4, 4⟩ ⟨0, 4⟩ ⟨4, 0⟩ _).mono ?_
  rintro e w1 ⟨rfl, hb⟩
  rw [meet_ans.1, meet_ans.2]
  have HB := hide hb
  clear hb
  go_wp2
  go_ret
  exact ⟨rfl, HB.out⟩
set_option maxRecDepth 100000 in
set_option maxHeartbeats 1000000 in
theorem lawMeets (a b c d : Pt) (w : World) :
    Calls Try.prog 3 #[.agg #[.int .i64 a.x, .int .i64 a.y], .agg #[.int .i64 b.x, .int .i64 b.y], .agg #[.int .i64 c.x, .int .i64 c.y], .agg #[.int .i64 d.x, .int .i64 d.y]] w fun e w' => e = .returned (.bool true) ∧ Below w.heap.size w w' := by
  have HB0 := hide (bel4 w a b c d)
  have HX0 := hide (Box4.new w a b c d)
  go_enter Try.func3, Try.ntmps3
  go_wp2_with fail
  refine (meet_any a b c d _).mono ?_
  rintro e w1 ⟨rfl, hb1⟩
  have HB1 := hide (btr HB0.out hb1)
  have HX1 := hide (HX0.out.later hb1)
  clear hb1 HB0 HX0
  obtain ⟨⟨k1, k2, k3, k4⟩, q1, q2, q3, q4⟩ := HX1.out.all
  clear q1 q2 q3 q4 k1 k2 k3 k4
  go_wp2_with fail
  refine (ganswers_any _).mono ?_
  rintro e w2 ⟨rfl, hb2⟩
  have HB2 := hide (btr HB1.out hb2)
  have HX2 := hide (HX1.out.later hb2)
  clear hb2 HB1 HX1
  obtain ⟨⟨k1, k2, k3, k4⟩, q1, q2, q3, q4⟩ := HX2.out.all
  clear q1 q2 q3 q4
  go_wp2_with fail
  refine (rgood_any [a, b, c, d] _ 4 4 _ (pr4 (Blk.new w2 _ (cs8 a b c d))) (by omega)).mono ?_
  rintro e w3 ⟨rfl, hb3⟩
  have HB3 := hide (btr (bal HB2.out _) hb3)
  have HX3 := hide ((HX2.out.al _).later hb3)
  clear hb3 HB2 HX2 k1 k2 k3 k4
  obtain ⟨⟨k1, k2, k3, k4⟩, q1, q2, q3, q4⟩ := HX3.out.all
  clear q1 q2 q3 q4
  cases hg : goodAll [a, b, c, d]
  · rw [show meetA a b c d = 0 by unfold meetA; rw [hg]; rfl, show errA [a, b, c, d] = 3 by unfold errA; rw [hg]; rfl]
    clear hg
    go_wp2
    go_ret
    exact ⟨rfl, HB3.out⟩
  · obtain ⟨ga, gb, gc, gd⟩ := good4_iff.1 hg
    rw [show meetA a b c d = rmeetV a b c d by unfold meetA; rw [hg, if_pos rfl]; exact meet_eq ga gb gc gd, show errA [a, b, c, d] = 0 by unfold errA; rw [hg]; rfl]
    clear hg
    go_wp2_with fail
    refine (rmeet_any a b c d _ ga gb gc gd).mono ?_
    rintro e w4 ⟨rfl, hb4⟩
    have HB4 := hide (btr HB3.out hb4)
    clear hb4
    go_wp2
    go_ret
    exact ⟨rfl, HB4.out⟩
end Go.Proofs.Yticmoijngfpeeaa
