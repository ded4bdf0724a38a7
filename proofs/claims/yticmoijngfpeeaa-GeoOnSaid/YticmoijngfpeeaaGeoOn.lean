/- The law GeoOn, walked. -/
import Derived.Test.YticmoijngfpeeaaGeoTurns
namespace Go.Proofs.Yticmoijngfpeeaa
set_option linter.unusedSimpArgs false
set_option linter.unusedVariables false
open Go.RowKit
set_option maxRecDepth 100000 in
set_option maxHeartbeats 4000000 in
theorem rsquare_any (a b : Pt) (w : World) (ga : a.good) (gb : b.good) :
    Calls Try.prog 22 #[.agg #[.int .i64 a.x, .int .i64 a.y], .agg #[.int .i64 b.x, .int .i64 b.y]] w fun e w' => e = .returned (.agg #[.int .i64 (two (sqV a b)).hi, .int .u64 (two (sqV a b)).lo]) ∧ Below w.heap.size w w' := by
  have HI0 := hide ((((Bs.nil w).al (pcells a) 23).al (pcells b) 23).al (icells ⟨0, 0⟩) 37)
  simp only [heap_al] at HI0
  obtain ⟨⟨a1, a2⟩, a3, a4⟩ := ga
  obtain ⟨⟨b1, b2⟩, b3, b4⟩ := gb
  obtain ⟨p, hp⟩ : ∃ p, b.x - a.x = p := ⟨_, rfl⟩
  obtain ⟨q, hq⟩ : ∃ q, b.y - a.y = q := ⟨_, rfl⟩
  have hpb : -2147483648 ≤ p ∧ p ≤ 2147483648 := by omega
  have hqb : -2147483648 ≤ q ∧ q ≤ 2147483648 := by omega
  have HP := hide (i64_of hpb); have HQ := hide (i64_of hqb)
  have ep := wrap_id hpb; have eq := wrap_id hqb
  have e1 := sq_bound hpb.1 hpb.2
  have e2 := sq_bound hqb.1 hqb.2
  have M1 := hide (two_ok (n := p * p) (by unfold inr; omega))
  have M2 := hide (two_ok (n := q * q) (by unfold inr; omega))
  have HCL : Hid (clampI ((two (p * p)).num + (two (q * q)).num) = two (p * p + q * q) ∧ clampE ((two (p * p)).num + (two (q * q)).num) = 0) := hide (by
    rw [two_num, two_num]; exact clamp_yes (by unfold inr; omega))
  have HV : Hid (sqV a b = p * p + q * q) := hide (by unfold sqV; rw [hp, hq])
  clear hpb hqb a1 a2 a3 a4 b1 b2 b3 b4 e1 e2
  go_enter Try.func22, Try.ntmps22
  go_wp2_with fail
  obtain ⟨W, hW, HBW, HI⟩ : ∃ W, (((w.alloc (pblk a.x a.y)).alloc (pblk b.x b.y)).alloc (iblk ⟨0, 0⟩)) = W ∧ Hid (Below w.heap.size w W) ∧ Hid (Bs W [(w.heap.size + 1 + 1, 37, icells ⟨0, 0⟩), (w.heap.size + 1, 23, pcells b), (w.heap.size, 23, pcells a)]) := ⟨_, rfl, hide (by (repeat (first | exact Below.refl _ _ | refine Below.drew ?_ | refine Below.setCell ?_ (by simp; try omega) _ | refine bal ?_ _))), HI0⟩
  rw [hW]
  clear hW HI0
  have KA := hide (HI.out (w.heap.size, 23, pcells a) (by simp))
  have KB := hide (HI.out (w.heap.size + 1, 23, pcells b) (by simp))
  simp only [] at KA KB
  refine wp_region_store (by kernel_rfl) (by kernel_rfl) 34 27
    [⟨0, 8, fun v _ => v = .pointer (some ⟨w.heap.size + 1, 0, none⟩), fun v _ => v = .pointer (some ⟨w.heap.size + 1, 0, none⟩)⟩,
     ⟨0, 9, fun v _ => v = .int .i64 b.x, fun v _ => v = .int .i64 b.x⟩,
     ⟨0, 10, fun v _ => v = .pointer (some ⟨w.heap.size, 0, none⟩), fun v _ => v = .pointer (some ⟨w.heap.size, 0, none⟩)⟩,
     ⟨0, 11, fun v _ => v = .int .i64 a.x, fun v _ => v = .int .i64 a.x⟩,
     ⟨0, 12, fun v _ => v = .int .i64 p, fun v _ => v = .int .i64 p⟩,
     ⟨0, 13, fun v _ => v = .pointer (some ⟨w.heap.size + 1, 0, none⟩), fun v _ => v = .pointer (some ⟨w.heap.size + 1, 0, none⟩)⟩,
     ⟨0, 14, fun v _ => v = .int .i64 b.x, fun v _ => v = .int .i64 b.x⟩,
     ⟨0, 15, fun v _ => v = .pointer (some ⟨w.heap.size, 0, none⟩), fun v _ => v = .pointer (some ⟨w.heap.size, 0, none⟩)⟩,
     ⟨0, 16, fun v _ => v = .int .i64 a.x, fun v _ => v = .int .i64 a.x⟩,
     ⟨0, 17, fun v _ => v = .int .i64 p, fun v _ => v = .int .i64 p⟩,
     ⟨0, 18, fun v _ => v = .agg #[.int .i64 (two (p * p)).hi, .int .u64 (two (p * p)).lo], fun v _ => v = .agg #[.int .i64 (two (p * p)).hi, .int .u64 (two (p * p)).lo]⟩,
     ⟨0, 19, fun v _ => v = .pointer (some ⟨w.heap.size + 1, 1, none⟩), fun v _ => v = .pointer (some ⟨w.heap.size + 1, 1, none⟩)⟩,
     ⟨0, 20, fun v _ => v = .int .i64 b.y, fun v _ => v = .int .i64 b.y⟩,
     ⟨0, 21, fun v _ => v = .pointer (some ⟨w.heap.size, 1, none⟩), fun v _ => v = .pointer (some ⟨w.heap.size, 1, none⟩)⟩,
     ⟨0, 22, fun v _ => v = .int .i64 a.y, fun v _ => v = .int .i64 a.y⟩,
     ⟨0, 23, fun v _ => v = .int .i64 q, fun v _ => v = .int .i64 q⟩,
     ⟨0, 24, fun v _ => v = .pointer (some ⟨w.heap.size + 1, 1, none⟩), fun v _ => v = .pointer (some ⟨w.heap.size + 1, 1, none⟩)⟩,
     ⟨0, 25, fun v _ => v = .int .i64 b.y, fun v _ => v = .int .i64 b.y⟩,
     ⟨0, 26, fun v _ => v = .pointer (some ⟨w.heap.size, 1, none⟩), fun v _ => v = .pointer (some ⟨w.heap.size, 1, none⟩)⟩,
     ⟨0, 27, fun v _ => v = .int .i64 a.y, fun v _ => v = .int .i64 a.y⟩,
     ⟨0, 28, fun v _ => v = .int .i64 q, fun v _ => v = .int .i64 q⟩,
     ⟨0, 29, fun v _ => v = .agg #[.int .i64 (two (q * q)).hi, .int .u64 (two (q * q)).lo], fun v _ => v = .agg #[.int .i64 (two (q * q)).hi, .int .u64 (two (q * q)).lo]⟩,
     ⟨0, 30, fun v _ => v = .tuple #[.agg #[.int .i64 (two (p * p + q * q)).hi, .int .u64 (two (p * p + q * q)).lo], .int .i64 0], fun v _ => v = .tuple #[.agg #[.int .i64 (two (p * p + q * q)).hi, .int .u64 (two (p * p + q * q)).lo], .int .i64 0]⟩,
     ⟨0, 7, fun v _ => v = .tuple #[.agg #[.int .i64 (two (p * p + q * q)).hi, .int .u64 (two (p * p + q * q)).lo], .int .i64 0], fun v _ => v = .tuple #[.agg #[.int .i64 (two (p * p + q * q)).hi, .int .u64 (two (p * p + q * q)).lo], .int .i64 0]⟩,
     ⟨0, 31, fun v _ => v = .agg #[.int .i64 (two (p * p + q * q)).hi, .int .u64 (two (p * p + q * q)).lo], fun v _ => v = .agg #[.int .i64 (two (p * p + q * q)).hi, .int .u64 (two (p * p + q * q)).lo]⟩,
     ⟨1, 32, fun v _ => v = .int .i64 0, fun v _ => v = .int .i64 0⟩,
     ⟨0, 5, FreshC W (37) #[.int .i64 0, .int .u64 0], FreshC W (37) #[.int .i64 (two (p * p + q * q)).hi, .int .u64 (two (p * p + q * q)).lo]⟩,
     ⟨2, 0, fun _ _ => True, fun _ _ => True⟩,
     ⟨1, 6, fun v _ => v = .int .i64 0, fun v _ => v = .int .i64 0⟩] (St2 5 (.int .i64 (two (p * p + q * q)).hi) (.int .u64 (two (p * p + q * q)).lo)) [8, 9, 10, 11, 12, 13, 14, 15, 16, 17, 18, 19, 20, 21, 22, 23, 24, 25, 26, 27, 28, 29, 30, 7, 31, 32, 5, 6] rfl (by kernel_rfl) rfl rfl ?_ ?_ ?_ ?_
  · intro e he hk v w w' _ hb hv
    simp only [List.mem_cons, List.not_mem_nil, or_false] at he
    rcases he with rfl | rfl | rfl | rfl | rfl | rfl | rfl | rfl | rfl | rfl | rfl | rfl | rfl | rfl | rfl | rfl | rfl | rfl | rfl | rfl | rfl | rfl | rfl | rfl | rfl | rfl | rfl | rfl | rfl
    all_goals first | exact hv | exact FreshC.mono hv hb | exact absurd hk (by decide)
  · intro e he hk a w w' hst hv
    simp only [List.mem_cons, List.not_mem_nil, or_false] at he
    rcases he with rfl | rfl | rfl | rfl | rfl | rfl | rfl | rfl | rfl | rfl | rfl | rfl | rfl | rfl | rfl | rfl | rfl | rfl | rfl | rfl | rfl | rfl | rfl | rfl | rfl | rfl | rfl | rfl | rfl
    all_goals first | exact hv | exact FreshC.put2 hst hv | exact trivial | exact absurd hk (by decide)
  · refine ⟨?_, ?_, ?_, ?_, ?_, ?_, ?_, ?_, ?_, ?_, ?_, ?_, ?_, ?_, ?_, ?_, ?_, ?_, ?_, ?_, ?_, ?_, ?_, ?_, ?_, ?_, ?_, ?_, ?_, trivial⟩
    · intro ac w3 hg hb3 hd K hK
      have k3 := hg.kp 3 (by simp)
      (try simp [Act.eval] at k3)
      go_simp
      exact hK _ _ (Below.refl _ _) rfl
    · intro ac w3 hg hb3 hd K hK
      have kc := (KB.out.below hb3 KB.out.lt).cell
      have f0 := hd ⟨0, .data⟩ (by simp) rfl _ rfl rfl
      (try simp [Act.eval] at f0)
      go_simp
      exact hK _ _ (Below.refl _ _) rfl
    · intro ac w3 hg hb3 hd K hK
      have k2 := hg.kp 2 (by simp)
      (try simp [Act.eval] at k2)
      go_simp
      exact hK _ _ (Below.refl _ _) rfl
    · intro ac w3 hg hb3 hd K hK
      have kc := (KA.out.below hb3 KA.out.lt).cell
      have f2 := hd ⟨2, .data⟩ (by simp) rfl _ rfl rfl
      (try simp [Act.eval] at f2)
      go_simp
      exact hK _ _ (Below.refl _ _) rfl
    · intro ac w3 hg hb3 hd K hK
      have f1 := hd ⟨1, .data⟩ (by simp) rfl _ rfl rfl
      have f3 := hd ⟨3, .data⟩ (by simp) rfl _ rfl rfl
      (try simp [Act.eval] at f1)
      (try simp [Act.eval] at f3)
      go_simp
      exact hK _ _ (Below.refl _ _) rfl
    · intro ac w3 hg hb3 hd K hK
      have k3 := hg.kp 3 (by simp)
      (try simp [Act.eval] at k3)
      go_simp
      exact hK _ _ (Below.refl _ _) rfl
    · intro ac w3 hg hb3 hd K hK
      have kc := (KB.out.below hb3 KB.out.lt).cell
      have f5 := hd ⟨5, .data⟩ (by simp) rfl _ rfl rfl
      (try simp [Act.eval] at f5)
      go_simp
      exact hK _ _ (Below.refl _ _) rfl
    · intro ac w3 hg hb3 hd K hK
      have k2 := hg.kp 2 (by simp)
      (try simp [Act.eval] at k2)
      go_simp
      exact hK _ _ (Below.refl _ _) rfl
    · intro ac w3 hg hb3 hd K hK
      have kc := (KA.out.below hb3 KA.out.lt).cell
      have f7 := hd ⟨7, .data⟩ (by simp) rfl _ rfl rfl
      (try simp [Act.eval] at f7)
      go_simp
      exact hK _ _ (Below.refl _ _) rfl
    · intro ac w3 hg hb3 hd K hK
      have f6 := hd ⟨6, .data⟩ (by simp) rfl _ rfl rfl
      have f8 := hd ⟨8, .data⟩ (by simp) rfl _ rfl rfl
      (try simp [Act.eval] at f6)
      (try simp [Act.eval] at f8)
      go_simp
      exact hK _ _ (Below.refl _ _) rfl
    · intro ac w3 hg hb3 hd K hK
      have f1 := hd ⟨4, .data⟩ (by simp) rfl _ rfl rfl
      have f3 := hd ⟨9, .data⟩ (by simp) rfl _ rfl rfl
      simp [Act.eval] at f1 f3
      go_simp
      refine (rmul_any p p _ HP.out HP.out).mono ?_
      rintro e v4 ⟨rfl, hb4⟩
      exact hK _ _ hb4 rfl
    · intro ac w3 hg hb3 hd K hK
      have k3 := hg.kp 3 (by simp)
      (try simp [Act.eval] at k3)
      go_simp
      exact hK _ _ (Below.refl _ _) rfl
    · intro ac w3 hg hb3 hd K hK
      have kc := (KB.out.below hb3 KB.out.lt).cell
      have f11 := hd ⟨11, .data⟩ (by simp) rfl _ rfl rfl
      (try simp [Act.eval] at f11)
      go_simp
      exact hK _ _ (Below.refl _ _) rfl
    · intro ac w3 hg hb3 hd K hK
      have k2 := hg.kp 2 (by simp)
      (try simp [Act.eval] at k2)
      go_simp
      exact hK _ _ (Below.refl _ _) rfl
    · intro ac w3 hg hb3 hd K hK
      have kc := (KA.out.below hb3 KA.out.lt).cell
      have f13 := hd ⟨13, .data⟩ (by simp) rfl _ rfl rfl
      (try simp [Act.eval] at f13)
      go_simp
      exact hK _ _ (Below.refl _ _) rfl
    · intro ac w3 hg hb3 hd K hK
      have f12 := hd ⟨12, .data⟩ (by simp) rfl _ rfl rfl
      have f14 := hd ⟨14, .data⟩ (by simp) rfl _ rfl rfl
      (try simp [Act.eval] at f12)
      (try simp [Act.eval] at f14)
      go_simp
      exact hK _ _ (Below.refl _ _) rfl
    · intro ac w3 hg hb3 hd K hK
      have k3 := hg.kp 3 (by simp)
      (try simp [Act.eval] at k3)
      go_simp
      exact hK _ _ (Below.refl _ _) rfl
    · intro ac w3 hg hb3 hd K hK
      have kc := (KB.out.below hb3 KB.out.lt).cell
      have f16 := hd ⟨16, .data⟩ (by simp) rfl _ rfl rfl
      (try simp [Act.eval] at f16)
      go_simp
      exact hK _ _ (Below.refl _ _) rfl
    · intro ac w3 hg hb3 hd K hK
      have k2 := hg.kp 2 (by simp)
      (try simp [Act.eval] at k2)
      go_simp
      exact hK _ _ (Below.refl _ _) rfl
    · intro ac w3 hg hb3 hd K hK
      have kc := (KA.out.below hb3 KA.out.lt).cell
      have f18 := hd ⟨18, .data⟩ (by simp) rfl _ rfl rfl
      (try simp [Act.eval] at f18)
      go_simp
      exact hK _ _ (Below.refl _ _) rfl
    · intro ac w3 hg hb3 hd K hK
      have f17 := hd ⟨17, .data⟩ (by simp) rfl _ rfl rfl
      have f19 := hd ⟨19, .data⟩ (by simp) rfl _ rfl rfl
      (try simp [Act.eval] at f17)
      (try simp [Act.eval] at f19)
      go_simp
      exact hK _ _ (Below.refl _ _) rfl
    · intro ac w3 hg hb3 hd K hK
      have f1 := hd ⟨15, .data⟩ (by simp) rfl _ rfl rfl
      have f3 := hd ⟨20, .data⟩ (by simp) rfl _ rfl rfl
      simp [Act.eval] at f1 f3
      go_simp
      refine (rmul_any q q _ HQ.out HQ.out).mono ?_
      rintro e v4 ⟨rfl, hb4⟩
      exact hK _ _ hb4 rfl
    · intro ac w3 hg hb3 hd K hK
      have f1 := hd ⟨10, .data⟩ (by simp) rfl _ rfl rfl
      have f3 := hd ⟨21, .data⟩ (by simp) rfl _ rfl rfl
      simp [Act.eval] at f1 f3
      go_simp
      refine (radd_any (two (p * p)) (two (q * q)) _ M1.out M2.out).mono ?_
      rintro e v4 ⟨rfl, hb4⟩
      rw [HCL.out.1, HCL.out.2]
      exact hK _ _ hb4 rfl
    · intro ac w3 hg hb3 hd K hK
      exact op_move _ rfl (hK _ _ (Below.refl _ _) (hd ⟨22, .data⟩ (by simp) rfl _ rfl rfl))
    · intro ac w3 hg hb3 hd K hK
      have f23 := hd ⟨23, .data⟩ (by simp) rfl _ rfl rfl
      (try simp [Act.eval] at f23)
      go_simp
      exact hK _ _ (Below.refl _ _) rfl
    · constructor
      · intro ac w3 hg hb3 hd K hK
        have f23 := hd ⟨23, .data⟩ (by simp) rfl _ rfl rfl
        (try simp [Act.eval] at f23)
        go_simp
        exact hK _ _ (Below.refl _ _) rfl
      · intro ac w3 hg hd K hK
        have f23 := hd ⟨23, .data⟩ (by simp) rfl _ rfl rfl
        (try simp [Act.eval] at f23)
        go_simp
        exact hK _ rfl
    · intro ac w3 hg hb3 hd K hK
      go_simp
      exact hK (.pointer (some ⟨w3.heap.size, 0, none⟩)) _ (bal (Below.refl _ _) _) (FreshC.new hb3)
    · intro ac w3 hg hb3 hd K hK
      obtain ⟨_, g, f1, f2, f3⟩ := hd ⟨26, .data⟩ (by simp) rfl _ rfl rfl
      have fv := hd ⟨24, .data⟩ (by simp) rfl _ rfl rfl
      have f0 := f1
      (try simp [Act.eval] at f1)
      (try simp [Act.eval] at fv)
      have kc := f3.cell
      have qc := f3.frozen
      have zc := f3.lt
      clear f2 f3
      have F0 := hide f0
      clear f0
      go_simp
      exact hK _ ⟨g, F0.out, rfl⟩
    · constructor
      · intro ac w3 hg hb3 hd K hK
        exact op_assign _ rfl (hK _ _ (Below.refl _ _) (hd ⟨25, .data⟩ (by simp) rfl _ rfl rfl))
      · intro ac w3 hg hd K hK
        exact op_assign _ rfl (hK _ (hd ⟨25, .data⟩ (by simp) rfl _ rfl rfl))
  · intro f wz hall
    obtain ⟨hbz, g, hp5, hg0, hkz⟩ : FreshC W (37) #[.int .i64 (two (p * p + q * q)).hi, .int .u64 (two (p * p + q * q)).lo] (f 5) wz := hall _ (List.mem_of_getElem? (i := 26) rfl) (show (0 : Nat) < 2 by decide)
    simp only [fillF, List.foldl_cons, List.foldl_nil, Act.put, List.setIfInBounds_toArray, List.set_cons_zero, List.set_cons_succ]
    rw [hp5]
    have HBz := hide (btr HBW.out hbz)
    have KR := HI.out (w.heap.size + 1 + 1, 37, icells ⟨0, 0⟩) (by simp)
    have KZ := hide (KR.below hbz KR.lt)
    have kx := KZ.out.cell; have qx := KZ.out.frozen; have zx := KZ.out.lt
    have kg := hkz.cell; have zg := hkz.lt
    clear hall hp5 hkz hbz hg0 KR
    go_wp2_with fail
    refine bodyPost_ret (v := .agg #[.int .i64 (two (p * p + q * q)).hi, .int .u64 (two (p * p + q * q)).lo]) (by simp (maxDischargeDepth := 9) [results, Try.results22, go_sem, kx, zx]; done) rfl ⟨?_, (by repeat (first | exact HBz.out | refine Below.drew ?_ | refine Below.setCell ?_ (by simp; try omega) _ | refine bal ?_ _))⟩
    rw [HV.out]
def onA (a b p : Pt) : Bool := if goodAll [a, b, p] then onV a b p else false
set_option maxRecDepth 100000 in
set_option maxHeartbeats 1000000 in
theorem gon_any (a b c : Pt) (w : World) :
    Calls Try.prog 20 #[.agg #[.int .i64 a.x, .int .i64 a.y], .agg #[.int .i64 b.x, .int .i64 b.y], .agg #[.int .i64 c.x, .int .i64 c.y]] w fun e w' => e = .returned (.tuple #[.bool (onA a b c), .int .i64 (errA [a, b, c])]) ∧ Below w.heap.size w w' := by
  have HB0 := hide (bel3 w a b c)
  have HX0 := hide (Box3.new w a b c)
  unfold onA errA
  cases h : goodAll [a, b, c]
  · have HG := hide h
    clear h
    go_enter Try.func20, Try.ntmps20
    go_wp2_with fail
    refine (good_any [a, b, c] _ 3 3 _ (pr3 (new4 w a b c (cs6 a b c) _)) (by omega)).mono ?_
    rintro e w1 ⟨rfl, hb1⟩
    rw [HG.out]
    have HB1 := hide (btr (bal HB0.out _) hb1)
    clear hb1 HB0 HX0
    go_wp2_with fail
    exact bodyPost_ret (v := .tuple #[.bool false, .int .i64 3]) (by simp [results, Try.results20, go_sem]) rfl ⟨rfl, HB1.out⟩
  · obtain ⟨ga, gb, gc⟩ := good3_iff.1 h
    have HG := hide h
    clear h
    go_enter Try.func20, Try.ntmps20
    go_wp2_with fail
    refine (good_any [a, b, c] _ 3 3 _ (pr3 (new4 w a b c (cs6 a b c) _)) (by omega)).mono ?_
    rintro e w1 ⟨rfl, hb1⟩
    rw [HG.out]
    have HB1 := hide (btr (bal HB0.out _) hb1)
    have HX1 := hide ((HX0.out.al _).later hb1)
    clear hb1 HB0 HX0
    obtain ⟨x3, x4, x5⟩ := HX1.out
    have k3 := x3.cell; have k4 := x4.cell; have k5 := x5.cell
    clear x3 x4 x5
    go_wp2_with fail
    refine (on_any a b c _ ga gb gc).mono ?_
    rintro e w2 ⟨rfl, hb2⟩
    have HB2 := hide (btr HB1.out hb2)
    clear hb2
    go_wp2_with fail
    exact bodyPost_ret (v := .tuple #[.bool (onV a b c), .int .i64 0]) (by simp [results, Try.results20, go_sem]) rfl ⟨rfl, HB2.out⟩
theorem pr1b {W : World} {g : Nat} {t : TypeId} {a : Pt} (h : Blk W g t (pcells a)) : PR W W.heap.size (some ⟨g, 0, none⟩) 1 [a] := Sl.of_blk h rfl rfl rfl
theorem good1_iff {a : Pt} : goodAll [a] = true ↔ a.good := by unfold goodAll; simp
theorem on_bad2 {a b c : Pt} (h : goodAll [a, b] = false) : errA [a, b, c] = 3 ∧ onA a b c = false ∧ errA [a, b] = 3 ∧ squareA a b = ⟨0, 0⟩ := by
  have h3 : goodAll [a, b, c] = false := by
    rw [Bool.eq_false_iff] at h ⊢
    intro h3
    obtain ⟨x, y, _⟩ := good3_iff.1 h3
    exact h (good2_iff.2 ⟨x, y⟩)
  unfold errA onA squareA; rw [h, h3]; exact ⟨rfl, rfl, rfl, rfl⟩
theorem on_bad1 {a b c : Pt} (h : goodAll [a, b] = true) (hc : goodAll [c] = false) : errA [a, b, c] = 3 ∧ onA a b c = false ∧ errA [a, b] = 0 := by
  have h3 : goodAll [a, b, c] = false := by
    rw [Bool.eq_false_iff] at hc ⊢
    intro h3
    obtain ⟨_, _, z⟩ := good3_iff.1 h3
    exact hc (good1_iff.2 z)
  unfold errA onA; rw [h, h3]; exact ⟨rfl, rfl, rfl⟩
theorem on_good {a b c : Pt} (ga : a.good) (gb : b.good) (gc : c.good) : errA [a, b, c] = 0 ∧ onA a b c = ronV a b c ∧ errA [a, b] = 0 ∧ squareA a b = two (sqV a b) := by
  unfold errA onA squareA
  rw [good3_iff.2 ⟨ga, gb, gc⟩, good2_iff.2 ⟨ga, gb⟩]
  exact ⟨rfl, on_eq ga gb gc, rfl, rfl⟩
set_option maxRecDepth 100000 in
set_option maxHeartbeats 4000000 in
theorem lawOn (a b c : Pt) (w : World) :
    Calls Try.prog 7 #[.agg #[.int .i64 a.x, .int .i64 a.y], .agg #[.int .i64 b.x, .int .i64 b.y], .agg #[.int .i64 c.x, .int .i64 c.y]] w fun e w' => e = .returned (.bool true) ∧ Below w.heap.size w w' := by
  have HB0 := hide (bel3 w a b c)
  have HI0 := hide ((((Bs.nil w).al (pcells a) 23).al (pcells b) 23).al (pcells c) 23)
  simp only [heap_al] at HI0
  go_enter Try.func7, Try.ntmps7
  go_wp2_with fail
  refine (gon_any a b c _).mono ?_
  rintro e w1 ⟨rfl, hb⟩
  have HB1 := hide (btr HB0.out hb)
  have HI1 := hide ((HI0.out).later hb)
  clear hb
  obtain ⟨k1, q1, z1⟩ := (HI1.out).get w.heap.size 23 (pcells a) (by simp)
  obtain ⟨k2, q2, z2⟩ := (HI1.out).get (w.heap.size + 1) 23 (pcells b) (by simp)
  obtain ⟨k3, q3, z3⟩ := (HI1.out).get (w.heap.size + 1 + 1) 23 (pcells c) (by simp)
  go_wp2_with fail
  refine (square_any a b _).mono ?_
  rintro e w2 ⟨rfl, hb⟩
  have HB2 := hide (btr HB1.out hb)
  have HI2 := hide ((HI1.out).later hb)
  clear hb
  clear k1 q1 z1 k2 q2 z2 k3 q3 z3
  go_wp2_with fail
  refine (ganswers_any _).mono ?_
  rintro e w3 ⟨rfl, hb⟩
  have HB3 := hide (btr (bal HB2.out _) hb)
  have HI3 := hide (((HI2.out.al (icells (squareA a b)) 37)).later hb)
  clear hb
  obtain ⟨k1, q1, z1⟩ := (HI3.out).get w.heap.size 23 (pcells a) (by simp)
  obtain ⟨k2, q2, z2⟩ := (HI3.out).get (w.heap.size + 1) 23 (pcells b) (by simp)
  obtain ⟨k3, q3, z3⟩ := (HI3.out).get (w.heap.size + 1 + 1) 23 (pcells c) (by simp)
  go_wp2_with fail
  refine (rgood_any [a, b] _ 2 2 _ (pr2 (Blk.new w3 _ (cs4 a b))) (by omega)).mono ?_
  rintro e w4 ⟨rfl, hb⟩
  have HB4 := hide (btr (bal HB3.out _) hb)
  have HI4 := hide (((HI3.out.keep _)).later hb)
  clear hb
  clear k1 q1 z1 k2 q2 z2 k3 q3 z3
  clear HB0 HB1 HB2 HB3 HI0 HI1 HI2 HI3
  cases hg : goodAll [a, b]
  · obtain ⟨e1, e2, e3, e4⟩ := on_bad2 (c := c) hg
    rw [e4] at HI4
    rw [e1, e2, e3]
    clear e1 e2 e3 e4 hg
    obtain ⟨k1, q1, z1⟩ := HI4.out.get w2.heap.size 37 (icells ⟨0, 0⟩) (by simp)
    go_wp2_with fail
    go_ret
    exact ⟨rfl, HB4.out⟩
  · have HG := hide hg
    clear hg
    obtain ⟨k1, q1, z1⟩ := (HI4.out).get w.heap.size 23 (pcells a) (by simp)
    obtain ⟨k2, q2, z2⟩ := (HI4.out).get (w.heap.size + 1) 23 (pcells b) (by simp)
    obtain ⟨k3, q3, z3⟩ := (HI4.out).get (w.heap.size + 1 + 1) 23 (pcells c) (by simp)
    go_wp2_with fail
    refine (rgood_any [c] _ 1 1 _ (pr1b (Blk.new w4 _ (pcells c))) (by omega)).mono ?_
    rintro e w5 ⟨rfl, hb⟩
    have HB5 := hide (btr (bal HB4.out _) hb)
    have HI5 := hide (((HI4.out.keep _)).later hb)
    clear hb
    clear k1 q1 z1 k2 q2 z2 k3 q3 z3
    cases hc : goodAll [c]
    · obtain ⟨e1, e2, e3⟩ := on_bad1 HG.out hc
      rw [e1, e2, e3]
      clear e1 e2 e3 hc
      go_wp2_with fail
      go_ret
      exact ⟨rfl, HB5.out⟩
    · obtain ⟨ga, gb⟩ := good2_iff.1 HG.out
      have gc := good1_iff.1 hc
      obtain ⟨e1, e2, e3, e4⟩ := on_good ga gb gc
      rw [e4] at HI5
      rw [e1, e2, e3]
      have HR := hide (fun (w : World) => ron_any a b c w ga gb gc)
      have HS := hide (fun (w : World) => rsquare_any a b w ga gb)
      clear e1 e2 e3 e4 hc ga gb gc
      obtain ⟨k1, q1, z1⟩ := (HI5.out).get w.heap.size 23 (pcells a) (by simp)
      obtain ⟨k2, q2, z2⟩ := (HI5.out).get (w.heap.size + 1) 23 (pcells b) (by simp)
      obtain ⟨k3, q3, z3⟩ := (HI5.out).get (w.heap.size + 1 + 1) 23 (pcells c) (by simp)
      obtain ⟨k4, q4, z4⟩ := HI5.out.get w2.heap.size 37 (icells (two (sqV a b))) (by simp)
      go_wp2_with fail
      refine wp_region_later (by kernel_rfl) (by kernel_rfl) ?_
      repeat (first | go_big_quiet_step ((first | (go_at_call 13; exact Calls.later (HR.out _)) | (go_at_call 22; exact Calls.later (HS.out _)))) | quiet_step ((first | (go_at_call 13; exact Calls.later (HR.out _)) | (go_at_call 22; exact Calls.later (HS.out _)))))
      refine wpQuiet_nil ?_; intro _ hw'; obtain ⟨L, hL⟩ := hw'; subst hL
      go_wp2_with fail
      go_ret
      exact ⟨rfl, btr HB5.out L.h⟩
end Go.Proofs.Yticmoijngfpeeaa
