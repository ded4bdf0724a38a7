/- The law GeoTurns, walked. -/
import Derived.Test.YticmoijngfpeeaaGeoAreas
import Derived.Test.YticmoijngfpeeaaWideG
import Derived.Test.YticmoijngfpeeaaWideM
import Derived.Test.YticmoijngfpeeaaRegion3
namespace Go.Proofs.Yticmoijngfpeeaa
set_option linter.unusedSimpArgs false
set_option linter.unusedVariables false
open Go.RowKit
set_option maxHeartbeats 400000 in
theorem rsign_any (x : I2) (w : World) (hx : x.ok) :
    Calls Try.prog 19 #[.agg #[.int .i64 x.hi, .int .u64 x.lo]] w fun e w' => e = .returned (.int .i64 (cmpOf x.num 0)) ∧ Below w.heap.size w w' := by
  have HS := hide (sign_num x hx)
  clear hx
  cases d0 : decide (x.hi < 0)
  · rcases zero_ways x with ⟨z1, z2⟩ | z1 | ⟨z1, z2⟩
    · have HV : Hid (cmpOf x.num 0 = 0) := hide (by rw [HS.out, if_neg (by simpa using d0), if_pos (by simp at z1 z2; exact ⟨z1, z2⟩)])
      go_enter Try.func19, Try.ntmps19
      go_wp2
      go_ret
      exact ⟨ret_int HV.out.symm, by (repeat (first | exact Below.refl _ _ | refine Below.drew ?_ | refine Below.setCell ?_ (by simp; try omega) _ | refine bal ?_ _))⟩
    · have HV : Hid (cmpOf x.num 0 = 1) := hide (by rw [HS.out, if_neg (by simpa using d0), if_neg (by simp at z1; omega)])
      go_enter Try.func19, Try.ntmps19
      go_wp2
      go_ret
      exact ⟨ret_int HV.out.symm, by (repeat (first | exact Below.refl _ _ | refine Below.drew ?_ | refine Below.setCell ?_ (by simp; try omega) _ | refine bal ?_ _))⟩
    · have HV : Hid (cmpOf x.num 0 = 1) := hide (by rw [HS.out, if_neg (by simpa using d0), if_neg (by simp at z2; omega)])
      go_enter Try.func19, Try.ntmps19
      go_wp2
      go_ret
      exact ⟨ret_int HV.out.symm, by (repeat (first | exact Below.refl _ _ | refine Below.drew ?_ | refine Below.setCell ?_ (by simp; try omega) _ | refine bal ?_ _))⟩
  · have HV : Hid (cmpOf x.num 0 = -1) := hide (by rw [HS.out, if_pos (by simpa using d0)])
    go_enter Try.func19, Try.ntmps19
    go_wp2
    go_ret
    exact ⟨ret_int HV.out.symm, by (repeat (first | exact Below.refl _ _ | refine Below.drew ?_ | refine Below.setCell ?_ (by simp; try omega) _ | refine bal ?_ _))⟩
abbrev S6 (w : World) (a b c : Pt) (w' : World) : Prop := w'.cell? ⟨w.heap.size, 0, none⟩ = some (.int .i64 a.x) ∧ w'.cell? ⟨w.heap.size, 1, none⟩ = some (.int .i64 a.y) ∧ w'.cell? ⟨w.heap.size + 1, 0, none⟩ = some (.int .i64 b.x) ∧ w'.cell? ⟨w.heap.size + 1, 1, none⟩ = some (.int .i64 b.y) ∧
  w'.cell? ⟨w.heap.size + 1 + 1, 0, none⟩ = some (.int .i64 c.x) ∧ w'.cell? ⟨w.heap.size + 1 + 1, 1, none⟩ = some (.int .i64 c.y)
theorem S6.mono {w W W' : World} {a b c : Pt} (h : S6 w a b c W) (z : w.heap.size + 1 + 1 < W.heap.size) (hb : Below W.heap.size W W') : S6 w a b c W' :=
  ⟨(hb.cell (p := ⟨w.heap.size, 0, none⟩) (show w.heap.size < _ by omega)).trans h.1, (hb.cell (p := ⟨w.heap.size, 1, none⟩) (show w.heap.size < _ by omega)).trans h.2.1,
   (hb.cell (p := ⟨w.heap.size + 1, 0, none⟩) (show w.heap.size + 1 < _ by omega)).trans h.2.2.1, (hb.cell (p := ⟨w.heap.size + 1, 1, none⟩) (show w.heap.size + 1 < _ by omega)).trans h.2.2.2.1,
   (hb.cell (p := ⟨w.heap.size + 1 + 1, 0, none⟩) (show w.heap.size + 1 + 1 < _ by omega)).trans h.2.2.2.2.1, (hb.cell (p := ⟨w.heap.size + 1 + 1, 1, none⟩) (show w.heap.size + 1 + 1 < _ by omega)).trans h.2.2.2.2.2⟩
theorem S6.set {w W : World} {a b c : Pt} (h : S6 w a b c W) {g : Nat} (hg : w.heap.size + 1 + 1 < g) (u v : Value) : S6 w a b c ((W.setCell ⟨g, 0, none⟩ u).setCell ⟨g, 1, none⟩ v) := by
  obtain ⟨h1, h2, h3, h4, h5, h6⟩ := h
  refine ⟨?_, ?_, ?_, ?_, ?_, ?_⟩
  all_goals
    rw [World.cell?_setCell_other _ _ _ _ (fun e => by injection e; omega), World.cell?_setCell_other _ _ _ _ (fun e => by injection e; omega)]
    assumption
theorem i64_of {x : Int} (h : -2147483648 ≤ x ∧ x ≤ 2147483648) : i64ok x := by unfold i64ok; omega
theorem wrap_id {x : Int} (h : -2147483648 ≤ x ∧ x ≤ 2147483648) : IntKind.i64.wrap x = x := by rw [IntKind.wrap_i64]; omega
theorem errA3 {a b c : Pt} (h : goodAll [a, b, c] = false) : errA [a, b, c] = 3 ∧ turnA a b c = 0 ∧ crossA a b c = ⟨0, 0⟩ := by
  unfold errA turnA crossA; rw [h]; exact ⟨rfl, rfl, rfl⟩
theorem errA3' {a b c : Pt} (h : goodAll [a, b, c] = true) : errA [a, b, c] = 0 ∧ turnA a b c = turnV a b c ∧ crossA a b c = two (crossV a b c) := by
  unfold errA turnA crossA; rw [h]; exact ⟨rfl, rfl, rfl⟩
set_option maxRecDepth 100000 in
set_option maxHeartbeats 8000000 in
theorem lawTurns (a b c : Pt) (w : World) :
    Calls Try.prog 6 #[.agg #[.int .i64 a.x, .int .i64 a.y], .agg #[.int .i64 b.x, .int .i64 b.y], .agg #[.int .i64 c.x, .int .i64 c.y]] w fun e w' => e = .returned (.bool true) ∧ Below w.heap.size w w' := by
  have HB0 := hide (bel3 w a b c)
  have HI0 := hide ((((Bs.nil w).al (pcells a) 23).al (pcells b) 23).al (pcells c) 23)
  simp only [heap_al] at HI0
  go_enter Try.func6, Try.ntmps6
  go_wp2_with fail
  refine (gturn_any a b c _).mono ?_
  rintro e w1 ⟨rfl, hb⟩
  have HB1 := hide (btr HB0.out hb)
  have HI1 := hide ((HI0.out).later hb)
  clear hb
  obtain ⟨k1, q1, z1⟩ := (HI1.out).get w.heap.size 23 (pcells a) (by simp)
  obtain ⟨k2, q2, z2⟩ := (HI1.out).get (w.heap.size + 1) 23 (pcells b) (by simp)
  obtain ⟨k3, q3, z3⟩ := (HI1.out).get (w.heap.size + 1 + 1) 23 (pcells c) (by simp)
  go_wp2_with fail
  refine (gcross_any a b c _).mono ?_
  rintro e w2 ⟨rfl, hb⟩
  have HB2 := hide (btr HB1.out hb)
  have HI2 := hide ((HI1.out).later hb)
  clear hb
  clear k1 q1 z1 k2 q2 z2 k3 q3 z3
  obtain ⟨k1, q1, z1⟩ := (HI2.out).get w.heap.size 23 (pcells a) (by simp)
  obtain ⟨k2, q2, z2⟩ := (HI2.out).get (w.heap.size + 1) 23 (pcells b) (by simp)
  obtain ⟨k3, q3, z3⟩ := (HI2.out).get (w.heap.size + 1 + 1) 23 (pcells c) (by simp)
  have HN3 : Hid (Blk ((w2.alloc (Obj.cells (icells (crossA a b c)) 37)).alloc (Obj.cells (cs6 a b c) 23)) (w2.heap.size + 1) 23 (cs6 a b c)) := hide (Blk.two w2 _ _ _ _)
  go_wp2_with fail
  refine (rgood_any [a, b, c] _ 3 3 _ (pr3 HN3.out) (by omega)).mono ?_
  rintro e w3 ⟨rfl, hb⟩
  have HB3 := hide (btr (bal (bal HB2.out _) _) hb)
  have HI3 := hide ((((HI2.out.al (icells (crossA a b c)) 37).keep _)).later hb)
  clear hb
  clear k1 q1 z1 k2 q2 z2 k3 q3 z3
  go_wp2_with fail
  refine (ganswers_any _).mono ?_
  rintro e w4 ⟨rfl, hb⟩
  have HB4 := hide (btr HB3.out hb)
  have HI4 := hide ((HI3.out).later hb)
  clear hb
  obtain ⟨k1, q1, z1⟩ := (HI4.out).get w.heap.size 23 (pcells a) (by simp)
  obtain ⟨k2, q2, z2⟩ := (HI4.out).get (w.heap.size + 1) 23 (pcells b) (by simp)
  obtain ⟨k3, q3, z3⟩ := (HI4.out).get (w.heap.size + 1 + 1) 23 (pcells c) (by simp)
  go_wp2_with fail
  refine (good_any [a, b, c] _ 3 3 _ (pr3 (Blk.new w4 _ (cs6 a b c))) (by omega)).mono ?_
  rintro e w5 ⟨rfl, hb⟩
  have HB5 := hide (btr (bal HB4.out _) hb)
  have HI5 := hide (((HI4.out.keep _)).later hb)
  clear hb
  clear k1 q1 z1 k2 q2 z2 k3 q3 z3
  clear HB0 HB1 HB2 HB3 HB4 HI0 HI1 HI2 HI3 HI4
  cases hg : goodAll [a, b, c]
  · obtain ⟨e1, e2, e3⟩ := errA3 hg
    rw [e3] at HI5
    rw [e1, e2]
    clear e1 e2 e3 hg
    obtain ⟨k1, q1, z1⟩ := HI5.out.get w2.heap.size 37 (icells ⟨0, 0⟩) (by simp)
    go_wp2_with fail
    go_ret
    exact ⟨rfl, HB5.out⟩
  · obtain ⟨e1, e2, e3⟩ := errA3' hg
    obtain ⟨ga, gb, gc⟩ := good3_iff.1 hg
    rw [e3] at HI5
    rw [e1, e2]
    clear e1 e2 e3 hg
    have hcb := cross_bound ga gb gc
    have hcv : crossV a b c = (b.x - a.x) * (c.y - a.y) - (b.y - a.y) * (c.x - a.x) := rfl
    obtain ⟨⟨a1, a2⟩, a3, a4⟩ := ga
    obtain ⟨⟨b1, b2⟩, b3, b4⟩ := gb
    obtain ⟨⟨c1, c2⟩, c3, c4⟩ := gc
    obtain ⟨p, hp⟩ : ∃ p, b.x - a.x = p := ⟨_, rfl⟩
    obtain ⟨q, hq⟩ : ∃ q, c.y - a.y = q := ⟨_, rfl⟩
    obtain ⟨r, hr⟩ : ∃ r, b.y - a.y = r := ⟨_, rfl⟩
    obtain ⟨s, hs⟩ : ∃ s, c.x - a.x = s := ⟨_, rfl⟩
    rw [hp, hq, hr, hs] at hcv
    have hpb : -2147483648 ≤ p ∧ p ≤ 2147483648 := by omega
    have hqb : -2147483648 ≤ q ∧ q ≤ 2147483648 := by omega
    have hrb : -2147483648 ≤ r ∧ r ≤ 2147483648 := by omega
    have hsb : -2147483648 ≤ s ∧ s ≤ 2147483648 := by omega
    have P := hide (i64_of hpb); have Q := hide (i64_of hqb); have R := hide (i64_of hrb); have S := hide (i64_of hsb)
    have ep := wrap_id hpb; have eq := wrap_id hqb; have er := wrap_id hrb; have es := wrap_id hsb
    have M1 := hide (two_ok (n := p * q) (by have := mul_le_sq (L := 2147483648) hpb.1 hpb.2 hqb.1 hqb.2; unfold inr; omega))
    have M2 := hide (two_ok (n := r * s) (by have := mul_le_sq (L := 2147483648) hrb.1 hrb.2 hsb.1 hsb.2; unfold inr; omega))
    have HCL : Hid (clampI ((two (p * q)).num - (two (r * s)).num) = two (crossV a b c) ∧ clampE ((two (p * q)).num - (two (r * s)).num) = 0) := hide (by
      rw [two_num, two_num, ← hcv]; exact clamp_yes (by unfold inr; omega))
    have HSG := hide (fun (w : World) => rsign_any (two (crossV a b c)) w (two_ok (by unfold inr; omega)))
    rw [two_num] at HSG
    have HTV : Hid (turnV a b c = cmpOf (crossV a b c) 0) := hide rfl
    clear hcb hcv hpb hqb hrb hsb a1 a2 a3 a4 b1 b2 b3 b4 c1 c2 c3 c4
    have KA := hide (HI5.out (w.heap.size, 23, pcells a) (by simp))
    have KB := hide (HI5.out (w.heap.size + 1, 23, pcells b) (by simp))
    have KC := hide (HI5.out (w.heap.size + 1 + 1, 23, pcells c) (by simp))
    simp only [] at KA KB KC
    go_wp2_with fail
    refine wp_region_store (by kernel_rfl) (by kernel_rfl) 101 27
      [⟨0, 63, fun v _ => v = .pointer (some ⟨w.heap.size + 1, 0, none⟩), fun v _ => v = .pointer (some ⟨w.heap.size + 1, 0, none⟩)⟩,
       ⟨0, 64, fun v _ => v = .int .i64 b.x, fun v _ => v = .int .i64 b.x⟩,
       ⟨0, 65, fun v _ => v = .pointer (some ⟨w.heap.size, 0, none⟩), fun v _ => v = .pointer (some ⟨w.heap.size, 0, none⟩)⟩,
       ⟨0, 66, fun v _ => v = .int .i64 a.x, fun v _ => v = .int .i64 a.x⟩,
       ⟨0, 67, fun v _ => v = .int .i64 p, fun v _ => v = .int .i64 p⟩,
       ⟨0, 68, fun v _ => v = .pointer (some ⟨w.heap.size + 1 + 1, 1, none⟩), fun v _ => v = .pointer (some ⟨w.heap.size + 1 + 1, 1, none⟩)⟩,
       ⟨0, 69, fun v _ => v = .int .i64 c.y, fun v _ => v = .int .i64 c.y⟩,
       ⟨0, 70, fun v _ => v = .pointer (some ⟨w.heap.size, 1, none⟩), fun v _ => v = .pointer (some ⟨w.heap.size, 1, none⟩)⟩,
       ⟨0, 71, fun v _ => v = .int .i64 a.y, fun v _ => v = .int .i64 a.y⟩,
       ⟨0, 72, fun v _ => v = .int .i64 q, fun v _ => v = .int .i64 q⟩,
       ⟨0, 73, fun v _ => v = .agg #[.int .i64 (two (p * q)).hi, .int .u64 (two (p * q)).lo], fun v _ => v = .agg #[.int .i64 (two (p * q)).hi, .int .u64 (two (p * q)).lo]⟩,
       ⟨0, 74, fun v _ => v = .pointer (some ⟨w.heap.size + 1, 1, none⟩), fun v _ => v = .pointer (some ⟨w.heap.size + 1, 1, none⟩)⟩,
       ⟨0, 75, fun v _ => v = .int .i64 b.y, fun v _ => v = .int .i64 b.y⟩,
       ⟨0, 76, fun v _ => v = .pointer (some ⟨w.heap.size, 1, none⟩), fun v _ => v = .pointer (some ⟨w.heap.size, 1, none⟩)⟩,
       ⟨0, 77, fun v _ => v = .int .i64 a.y, fun v _ => v = .int .i64 a.y⟩,
       ⟨0, 78, fun v _ => v = .int .i64 r, fun v _ => v = .int .i64 r⟩,
       ⟨0, 79, fun v _ => v = .pointer (some ⟨w.heap.size + 1 + 1, 0, none⟩), fun v _ => v = .pointer (some ⟨w.heap.size + 1 + 1, 0, none⟩)⟩,
       ⟨0, 80, fun v _ => v = .int .i64 c.x, fun v _ => v = .int .i64 c.x⟩,
       ⟨0, 81, fun v _ => v = .pointer (some ⟨w.heap.size, 0, none⟩), fun v _ => v = .pointer (some ⟨w.heap.size, 0, none⟩)⟩,
       ⟨0, 82, fun v _ => v = .int .i64 a.x, fun v _ => v = .int .i64 a.x⟩,
       ⟨0, 83, fun v _ => v = .int .i64 s, fun v _ => v = .int .i64 s⟩,
       ⟨0, 84, fun v _ => v = .agg #[.int .i64 (two (r * s)).hi, .int .u64 (two (r * s)).lo], fun v _ => v = .agg #[.int .i64 (two (r * s)).hi, .int .u64 (two (r * s)).lo]⟩,
       ⟨0, 85, fun v _ => v = .tuple #[.agg #[.int .i64 (two (crossV a b c)).hi, .int .u64 (two (crossV a b c)).lo], .int .i64 0], fun v _ => v = .tuple #[.agg #[.int .i64 (two (crossV a b c)).hi, .int .u64 (two (crossV a b c)).lo], .int .i64 0]⟩,
       ⟨0, 62, fun v _ => v = .tuple #[.agg #[.int .i64 (two (crossV a b c)).hi, .int .u64 (two (crossV a b c)).lo], .int .i64 0], fun v _ => v = .tuple #[.agg #[.int .i64 (two (crossV a b c)).hi, .int .u64 (two (crossV a b c)).lo], .int .i64 0]⟩,
       ⟨0, 86, fun v _ => v = .agg #[.int .i64 (two (crossV a b c)).hi, .int .u64 (two (crossV a b c)).lo], fun v _ => v = .agg #[.int .i64 (two (crossV a b c)).hi, .int .u64 (two (crossV a b c)).lo]⟩,
       ⟨1, 87, fun v _ => v = .int .i64 0, fun v _ => v = .int .i64 0⟩,
       ⟨0, 12, FreshC w5 (37) #[.int .i64 0, .int .u64 0], FreshC w5 (37) #[.int .i64 (two (crossV a b c)).hi, .int .u64 (two (crossV a b c)).lo]⟩,
       ⟨2, 0, fun _ _ => True, fun _ _ => True⟩,
       ⟨1, 13, fun v _ => v = .int .i64 0, fun v _ => v = .int .i64 0⟩] (St2 12 (.int .i64 (two (crossV a b c)).hi) (.int .u64 (two (crossV a b c)).lo)) [63, 64, 65, 66, 67, 68, 69, 70, 71, 72, 73, 74, 75, 76, 77, 78, 79, 80, 81, 82, 83, 84, 85, 62, 86, 87, 12, 13] rfl (by kernel_rfl) rfl rfl ?_ ?_ ?_ ?_
    · intro e he hk v w w' _ hb hv
      simp only [List.mem_cons, List.not_mem_nil, or_false] at he
      rcases he with rfl | rfl | rfl | rfl | rfl | rfl | rfl | rfl | rfl | rfl | rfl | rfl | rfl | rfl | rfl | rfl | rfl | rfl | rfl | rfl | rfl | rfl | rfl | rfl | rfl | rfl | rfl | rfl | rfl
      all_goals first | exact hv | exact FreshC.mono hv hb | exact absurd hk (by decide)
    · intro e he hk a w w' hst hv
      simp only [List.mem_cons, List.not_mem_nil, or_false] at he
      rcases he with rfl | rfl | rfl | rfl | rfl | rfl | rfl | rfl | rfl | rfl | rfl | rfl | rfl | rfl | rfl | rfl | rfl | rfl | rfl | rfl | rfl | rfl | rfl | rfl | rfl | rfl | rfl | rfl | rfl
      all_goals first | exact hv | exact FreshC.put2 hst hv | exact trivial | exact absurd hk (by decide)
    · refine ⟨?_, ?_, ?_, ?_, ?_, ?_, ?_, ?_, ?_, ?_, ?_, ?_, ?_, ?_, ?_, ?_, ?_, ?_, ?_, ?_, ?_, ?_, ?_, ?_, ?_, ?_, ?_, ?_, ?_, trivial⟩
      · intro ac w3 hg hb3 hd K hK
        have k4 := hg.kp 4 (by simp)
        (try simp [Act.eval] at k4)
        go_simp
        exact hK _ _ (Below.refl _ _) rfl
      · intro ac w3 hg hb3 hd K hK
        have kc := (KB.out.below hb3 KB.out.lt).cell
        have f0 := hd ⟨0, .data⟩ (by simp) rfl _ rfl rfl
        (try simp [Act.eval] at f0)
        go_simp
        exact hK _ _ (Below.refl _ _) rfl
      · intro ac w3 hg hb3 hd K hK
        have k3 := hg.kp 3 (by simp)
        (try simp [Act.eval] at k3)
        go_simp
        exact hK _ _ (Below.refl _ _) rfl
      · intro ac w3 hg hb3 hd K hK
        have kc := (KA.out.below hb3 KA.out.lt).cell
        have f2 := hd ⟨2, .data⟩ (by simp) rfl _ rfl rfl
        (try simp [Act.eval] at f2)
        go_simp
        exact hK _ _ (Below.refl _ _) rfl
      · intro ac w3 hg hb3 hd K hK
        have f1 := hd ⟨1, .data⟩ (by simp) rfl _ rfl rfl
        have f3 := hd ⟨3, .data⟩ (by simp) rfl _ rfl rfl
        (try simp [Act.eval] at f1)
        (try simp [Act.eval] at f3)
        go_simp
        exact hK _ _ (Below.refl _ _) rfl
      · intro ac w3 hg hb3 hd K hK
        have k5 := hg.kp 5 (by simp)
        (try simp [Act.eval] at k5)
        go_simp
        exact hK _ _ (Below.refl _ _) rfl
      · intro ac w3 hg hb3 hd K hK
        have kc := (KC.out.below hb3 KC.out.lt).cell
        have f5 := hd ⟨5, .data⟩ (by simp) rfl _ rfl rfl
        (try simp [Act.eval] at f5)
        go_simp
        exact hK _ _ (Below.refl _ _) rfl
      · intro ac w3 hg hb3 hd K hK
        have k3 := hg.kp 3 (by simp)
        (try simp [Act.eval] at k3)
        go_simp
        exact hK _ _ (Below.refl _ _) rfl
      · intro ac w3 hg hb3 hd K hK
        have kc := (KA.out.below hb3 KA.out.lt).cell
        have f7 := hd ⟨7, .data⟩ (by simp) rfl _ rfl rfl
        (try simp [Act.eval] at f7)
        go_simp
        exact hK _ _ (Below.refl _ _) rfl
      · intro ac w3 hg hb3 hd K hK
        have f6 := hd ⟨6, .data⟩ (by simp) rfl _ rfl rfl
        have f8 := hd ⟨8, .data⟩ (by simp) rfl _ rfl rfl
        (try simp [Act.eval] at f6)
        (try simp [Act.eval] at f8)
        go_simp
        exact hK _ _ (Below.refl _ _) rfl
      · intro ac w3 hg hb3 hd K hK
        have f1 := hd ⟨4, .data⟩ (by simp) rfl _ rfl rfl
        have f3 := hd ⟨9, .data⟩ (by simp) rfl _ rfl rfl
        simp [Act.eval] at f1 f3
        go_simp
        refine (rmul_any p q _ P.out Q.out).mono ?_
        rintro e v4 ⟨rfl, hb4⟩
        exact hK _ _ hb4 rfl
      · intro ac w3 hg hb3 hd K hK
        have k4 := hg.kp 4 (by simp)
        (try simp [Act.eval] at k4)
        go_simp
        exact hK _ _ (Below.refl _ _) rfl
      · intro ac w3 hg hb3 hd K hK
        have kc := (KB.out.below hb3 KB.out.lt).cell
        have f11 := hd ⟨11, .data⟩ (by simp) rfl _ rfl rfl
        (try simp [Act.eval] at f11)
        go_simp
        exact hK _ _ (Below.refl _ _) rfl
      · intro ac w3 hg hb3 hd K hK
        have k3 := hg.kp 3 (by simp)
        (try simp [Act.eval] at k3)
        go_simp
        exact hK _ _ (Below.refl _ _) rfl
      · intro ac w3 hg hb3 hd K hK
        have kc := (KA.out.below hb3 KA.out.lt).cell
        have f13 := hd ⟨13, .data⟩ (by simp) rfl _ rfl rfl
        (try simp [Act.eval] at f13)
        go_simp
        exact hK _ _ (Below.refl _ _) rfl
      · intro ac w3 hg hb3 hd K hK
        have f12 := hd ⟨12, .data⟩ (by simp) rfl _ rfl rfl
        have f14 := hd ⟨14, .data⟩ (by simp) rfl _ rfl rfl
        (try simp [Act.eval] at f12)
        (try simp [Act.eval] at f14)
        go_simp
        exact hK _ _ (Below.refl _ _) rfl
      · intro ac w3 hg hb3 hd K hK
        have k5 := hg.kp 5 (by simp)
        (try simp [Act.eval] at k5)
        go_simp
        exact hK _ _ (Below.refl _ _) rfl
      · intro ac w3 hg hb3 hd K hK
        have kc := (KC.out.below hb3 KC.out.lt).cell
        have f16 := hd ⟨16, .data⟩ (by simp) rfl _ rfl rfl
        (try simp [Act.eval] at f16)
        go_simp
        exact hK _ _ (Below.refl _ _) rfl
      · intro ac w3 hg hb3 hd K hK
        have k3 := hg.kp 3 (by simp)
        (try simp [Act.eval] at k3)
        go_simp
        exact hK _ _ (Below.refl _ _) rfl
      · intro ac w3 hg hb3 hd K hK
        have kc := (KA.out.below hb3 KA.out.lt).cell
        have f18 := hd ⟨18, .data⟩ (by simp) rfl _ rfl rfl
        (try simp [Act.eval] at f18)
        go_simp
        exact hK _ _ (Below.refl _ _) rfl
      · intro ac w3 hg hb3 hd K hK
        have f17 := hd ⟨17, .data⟩ (by simp) rfl _ rfl rfl
        have f19 := hd ⟨19, .data⟩ (by simp) rfl _ rfl rfl
        (try simp [Act.eval] at f17)
        (try simp [Act.eval] at f19)
        go_simp
        exact hK _ _ (Below.refl _ _) rfl
      · intro ac w3 hg hb3 hd K hK
        have f1 := hd ⟨15, .data⟩ (by simp) rfl _ rfl rfl
        have f3 := hd ⟨20, .data⟩ (by simp) rfl _ rfl rfl
        simp [Act.eval] at f1 f3
        go_simp
        refine (rmul_any r s _ R.out S.out).mono ?_
        rintro e v4 ⟨rfl, hb4⟩
        exact hK _ _ hb4 rfl
      · intro ac w3 hg hb3 hd K hK
        have f1 := hd ⟨10, .data⟩ (by simp) rfl _ rfl rfl
        have f3 := hd ⟨21, .data⟩ (by simp) rfl _ rfl rfl
        simp [Act.eval] at f1 f3
        go_simp
        refine (rsub_any (two (p * q)) (two (r * s)) _ M1.out M2.out).mono ?_
        rintro e v4 ⟨rfl, hb4⟩
        rw [HCL.out.1, HCL.out.2]
        exact hK _ _ hb4 rfl
      · intro ac w3 hg hb3 hd K hK
        exact op_move _ rfl (hK _ _ (Below.refl _ _) (hd ⟨22, .data⟩ (by simp) rfl _ rfl rfl))
      · intro ac w3 hg hb3 hd K hK
        have f23 := hd ⟨23, .data⟩ (by simp) rfl _ rfl rfl
        (try simp [Act.eval] at f23)
        go_simp
        exact hK _ _ (Below.refl _ _) rfl
      · constructor
        · intro ac w3 hg hb3 hd K hK
          have f23 := hd ⟨23, .data⟩ (by simp) rfl _ rfl rfl
          (try simp [Act.eval] at f23)
          go_simp
          exact hK _ _ (Below.refl _ _) rfl
        · intro ac w3 hg hd K hK
          have f23 := hd ⟨23, .data⟩ (by simp) rfl _ rfl rfl
          (try simp [Act.eval] at f23)
          go_simp
          exact hK _ rfl
      · intro ac w3 hg hb3 hd K hK
        go_simp
        exact hK (.pointer (some ⟨w3.heap.size, 0, none⟩)) _ (bal (Below.refl _ _) _) (FreshC.new hb3)
      · intro ac w3 hg hb3 hd K hK
        obtain ⟨_, g, f1, f2, f3⟩ := hd ⟨26, .data⟩ (by simp) rfl _ rfl rfl
        have fv := hd ⟨24, .data⟩ (by simp) rfl _ rfl rfl
        have f0 := f1
        (try simp [Act.eval] at f1)
        (try simp [Act.eval] at fv)
        have kc := f3.cell
        have qc := f3.frozen
        have zc := f3.lt
        clear f2 f3
        have F0 := hide f0
        clear f0
        go_simp
        exact hK _ ⟨g, F0.out, rfl⟩
      · constructor
        · intro ac w3 hg hb3 hd K hK
          exact op_assign _ rfl (hK _ _ (Below.refl _ _) (hd ⟨25, .data⟩ (by simp) rfl _ rfl rfl))
        · intro ac w3 hg hd K hK
          exact op_assign _ rfl (hK _ (hd ⟨25, .data⟩ (by simp) rfl _ rfl rfl))
    · intro f wz hall
      obtain ⟨hbz, g, hp12, hg0, hkz⟩ : FreshC w5 (37) #[.int .i64 (two (crossV a b c)).hi, .int .u64 (two (crossV a b c)).lo] (f 12) wz := hall _ (List.mem_of_getElem? (i := 26) rfl) (show (0 : Nat) < 2 by decide)
      simp only [fillF, List.foldl_cons, List.foldl_nil, Act.put, List.setIfInBounds_toArray, List.set_cons_zero, List.set_cons_succ]
      rw [hp12]
      have HBz := hide (btr HB5.out (hbz.mono (Nat.le_refl _)))
      have KX := hide ((HI5.out (w2.heap.size, 37, icells (two (crossV a b c))) (by simp)).below hbz (HI5.out (w2.heap.size, 37, icells (two (crossV a b c))) (by simp)).lt)
      have kx := KX.out.cell; have zx := KX.out.lt
      have kg := hkz.cell; have zg := hkz.lt
      clear hall hp12 hkz hbz hg0
      go_wp2_with fail
      refine (HSG.out _).mono ?_
      rintro e v5 ⟨rfl, hb5⟩
      have HB6 := hide (btr HBz.out hb5)
      clear hb5
      rw [HTV.out]
      go_wp2_with fail
      go_ret
      exact ⟨rfl, HB6.out⟩
end Go.Proofs.Yticmoijngfpeeaa
