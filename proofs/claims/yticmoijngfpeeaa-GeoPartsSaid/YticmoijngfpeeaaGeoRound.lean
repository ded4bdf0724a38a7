/- Points: the law GeoRound. -/
import Derived.Test.YticmoijngfpeeaaGeoF
namespace Go.Proofs.Yticmoijngfpeeaa
set_option linter.unusedSimpArgs false
set_option linter.unusedVariables false
open Go.RowKit
theorem good_perm {l m : List Pt} (h : ∀ x, x ∈ l ↔ x ∈ m) : goodAll l = goodAll m := by
  rw [Bool.eq_iff_iff]; unfold goodAll
  simp only [List.all_eq_true]
  exact ⟨fun k x hx => k x ((h x).2 hx), fun k x hx => k x ((h x).1 hx)⟩
theorem turn_rot (a b c : Pt) : turnV b c a = turnV a b c := by unfold turnV; rw [cross_rot]
theorem turn_swap (a b c : Pt) : turnV b a c = - turnV a b c := by
  unfold turnV; rw [cross_swap]; unfold cmpOf; repeat' split <;> omega
theorem g3a (a b c : Pt) : goodAll [b, c, a] = goodAll [a, b, c] := good_perm (fun x => by simp only [List.mem_cons, List.not_mem_nil, or_false]; constructor <;> (intro h; rcases h with h | h | h <;> simp [h]))
theorem g3b (a b c : Pt) : goodAll [b, a, c] = goodAll [a, b, c] := good_perm (fun x => by simp only [List.mem_cons, List.not_mem_nil, or_false]; constructor <;> (intro h; rcases h with h | h | h <;> simp [h]))
theorem g4a (a b c d : Pt) : goodAll [d, c, a, b] = goodAll [a, b, c, d] := good_perm (fun x => by simp only [List.mem_cons, List.not_mem_nil, or_false]; constructor <;> (intro h; rcases h with h | h | h | h <;> simp [h]))
theorem g4b (a b c d : Pt) : goodAll [b, a, c, d] = goodAll [a, b, c, d] := good_perm (fun x => by simp only [List.mem_cons, List.not_mem_nil, or_false]; constructor <;> (intro h; rcases h with h | h | h | h <;> simp [h]))
theorem ron_swap (a b p : Pt) : ronV b a p = ronV a b p := by
  rw [Bool.eq_iff_iff, ron_iff, ron_iff, cross_swap]; unfold box; constructor <;> rintro ⟨h1, h2, h3⟩ <;> exact ⟨by omega, by omega, by omega⟩
theorem rmeet_of {a b c d a' b' c' d' : Pt} (h : ∀ x, x ∈ endsL a b c d ↔ x ∈ endsL a' b' c' d') (hc : crossP a b c d = crossP a' b' c' d') : rmeetV a b c d = rmeetV a' b' c' d' := by
  have hm : manyV (endsL a b c d) = manyV (endsL a' b' c' d') := by rw [Bool.eq_iff_iff, many_iff, many_iff]; simp only [h]
  have he : ((endsL a b c d).isEmpty = false) ↔ (endsL a' b' c' d').isEmpty = false := by rw [empty_iff, empty_iff]; simp only [h]
  unfold rmeetV
  rw [hm, hc]
  by_cases k : (endsL a b c d).isEmpty = false
  · rw [if_pos k, if_pos (he.1 k)]
  · rw [if_neg k, if_neg (fun e => k (he.2 e))]
theorem rmeet_turn (a b c d : Pt) : rmeetV d c a b = rmeetV a b c d := by
  refine rmeet_of (fun x => ?_) ?_
  · rw [mem_ends, mem_ends, ron_swap c d, ron_swap c d]
    constructor <;> (intro h; rcases h with h | h | h | h <;> simp [h])
  · rw [Bool.eq_iff_iff, cross_iff, cross_iff, cross_swap c d, cross_swap c d]; omega
theorem rmeet_flip (a b c d : Pt) : rmeetV b a c d = rmeetV a b c d := by
  refine rmeet_of (fun x => ?_) ?_
  · rw [mem_ends, mem_ends, ron_swap a b, ron_swap a b]
    constructor <;> (intro h; rcases h with h | h | h | h <;> simp [h])
  · rw [Bool.eq_iff_iff, cross_iff, cross_iff, cross_swap a b, cross_swap a b]; omega
theorem turnA_rot (a b c : Pt) : turnA b c a = turnA a b c := by unfold turnA; rw [g3a, turn_rot]
theorem turnA_swap (a b c : Pt) : turnA a b c = - turnA b a c := by unfold turnA; rw [g3b, turn_swap a b]; split <;> omega
theorem meetA_turn (a b c d : Pt) : meetA d c a b = meetA a b c d := by
  unfold meetA; rw [g4a]
  cases h : goodAll [a, b, c, d]
  · rfl
  · obtain ⟨ga, gb, gc, gd⟩ := good4_iff.1 h
    simp only [if_true]
    rw [meet_eq gd gc ga gb, meet_eq ga gb gc gd, rmeet_turn]
theorem meetA_flip (a b c d : Pt) : meetA b a c d = meetA a b c d := by
  unfold meetA; rw [g4b]
  cases h : goodAll [a, b, c, d]
  · rfl
  · obtain ⟨ga, gb, gc, gd⟩ := good4_iff.1 h
    simp only [if_true]
    rw [meet_eq gb ga gc gd, meet_eq ga gb gc gd, rmeet_flip]
theorem turnA_small (a b c : Pt) : -1 ≤ turnA a b c ∧ turnA a b c ≤ 1 := by
  unfold turnA turnV cmpOf; repeat' split <;> omega
set_option maxRecDepth 100000 in
set_option maxHeartbeats 1000000 in
theorem lawRound (a b c d : Pt) (w : World) :
    Calls Try.prog 5 #[.agg #[.int .i64 a.x, .int .i64 a.y], .agg #[.int .i64 b.x, .int .i64 b.y], .agg #[.int .i64 c.x, .int .i64 c.y], .agg #[.int .i64 d.x, .int .i64 d.y]] w fun e w' => e = .returned (.bool true) ∧ Below w.heap.size w w' := by
  have HB0 := hide (bel4 w a b c d)
  have HX0 := hide (Box4.new w a b c d)
  obtain ⟨E, hE⟩ : ∃ E, errA [a, b, c] = E := ⟨_, rfl⟩
  obtain ⟨F, hF⟩ : ∃ F, errA [a, b, c, d] = F := ⟨_, rfl⟩
  obtain ⟨X, hX⟩ : ∃ X, meetA a b c d = X := ⟨_, rfl⟩
  obtain ⟨T, hT⟩ : ∃ T, turnA b a c = T := ⟨_, rfl⟩
  have hs := turnA_small b a c
  rw [hT] at hs
  obtain ⟨s1, s2⟩ := hs
  have P1 := hide (show turnA a b c = -T by rw [turnA_swap, hT])
  have P2 := hide (show turnA b c a = -T by rw [turnA_rot, turnA_swap, hT])
  have P3 := hide hT
  have P4 := hide hE
  have P5 := hide (show errA [b, c, a] = E by rw [← hE]; unfold errA; rw [g3a])
  have P6 := hide (show errA [b, a, c] = E by rw [← hE]; unfold errA; rw [g3b])
  have P7 := hide hF
  have P8 := hide (show errA [d, c, a, b] = F by rw [← hF]; unfold errA; rw [g4a])
  have P9 := hide (show errA [b, a, c, d] = F by rw [← hF]; unfold errA; rw [g4b])
  have Q1 := hide hX
  have Q2 := hide (show meetA d c a b = X by rw [meetA_turn, hX])
  have Q3 := hide (show meetA b a c d = X by rw [meetA_flip, hX])
  clear hE hF hX hT
  go_enter Try.func5, Try.ntmps5
  go_wp2_with fail
  refine (gturn_any a b c _).mono ?_
  rintro e w1 ⟨rfl, hb1⟩
  rw [P1.out, P4.out]
  have HB1 := hide (btr HB0.out hb1)
  have HX1 := hide (HX0.out.later hb1)
  clear hb1 HB0 HX0
  obtain ⟨⟨k1, k2, k3, k4⟩, _⟩ := HX1.out.all
  go_wp2_with fail
  refine (gturn_any b c a _).mono ?_
  rintro e w2 ⟨rfl, hb2⟩
  rw [P2.out, P5.out]
  have HB2 := hide (btr HB1.out hb2)
  have HX2 := hide (HX1.out.later hb2)
  clear hb2 HB1 HX1 k1 k2 k3 k4
  obtain ⟨⟨k1, k2, k3, k4⟩, _⟩ := HX2.out.all
  go_wp2_with fail
  refine (gturn_any b a c _).mono ?_
  rintro e w3 ⟨rfl, hb3⟩
  rw [P3.out, P6.out]
  have HB3 := hide (btr HB2.out hb3)
  have HX3 := hide (HX2.out.later hb3)
  clear hb3 HB2 HX2 k1 k2 k3 k4
  obtain ⟨⟨k1, k2, k3, k4⟩, _⟩ := HX3.out.all
  go_wp2_with fail
  refine (meet_any a b c d _).mono ?_
  rintro e w4 ⟨rfl, hb4⟩
  rw [Q1.out, P7.out]
  have HB4 := hide (btr HB3.out hb4)
  have HX4 := hide (HX3.out.later hb4)
  clear hb4 HB3 HX3 k1 k2 k3 k4
  obtain ⟨⟨k1, k2, k3, k4⟩, _⟩ := HX4.out.all
  go_wp2_with fail
  refine (meet_any d c a b _).mono ?_
  rintro e w5 ⟨rfl, hb5⟩
  rw [Q2.out, P8.out]
  have HB5 := hide (btr HB4.out hb5)
  have HX5 := hide (HX4.out.later hb5)
  clear hb5 HB4 HX4 k1 k2 k3 k4
  obtain ⟨⟨k1, k2, k3, k4⟩, _⟩ := HX5.out.all
  go_wp2_with fail
  refine (meet_any b a c d _).mono ?_
  rintro e w6 ⟨rfl, hb6⟩
  rw [Q3.out, P9.out]
  have HB6 := hide (btr HB5.out hb6)
  clear hb6 HB5 HX5 k1 k2 k3 k4
  go_wp2_with fail
  refine (ganswers_any _).mono ?_
  rintro e w7 ⟨rfl, hb7⟩
  have HB7 := hide (btr HB6.out hb7)
  clear hb7 HB6
  go_wp2
  go_ret
  exact ⟨rfl, HB7.out⟩
end Go.Proofs.Yticmoijngfpeeaa
