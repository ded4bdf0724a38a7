/- The reference's Total; the law WideTotal. -/
import Derived.Test.YtmfilhmcgagjcaaWideT
import Derived.Test.YtmfilhmcgagjcaaWideG
import Derived.Test.YtmfilhmcgagjcaaRegion3
namespace Go.Proofs.Ytmfilhmcgagjcaa
set_option linter.unusedSimpArgs false
set_option linter.unusedVariables false
open Go.RowKit
structure RTot (w W : World) (l : List I2) (k : Nat) (s : Int) : Prop where
  rng : inr s
  same : tot s (l.drop k) = tot 0 l
  bel : Below w.heap.size w W
  res : Blk W w.heap.size 25 #[.int .i64 0, .int .u64 0]
  blk : Blk W (w.heap.size + 1) 25 #[.int .i64 (two s).hi, .int .u64 (two s).lo]
theorem RTot.first (w : World) (l : List I2) : RTot w ((w.alloc (Obj.cells #[Value.int IntKind.i64 0, Value.int IntKind.u64 0] 25)).alloc (Obj.cells #[Value.int IntKind.i64 0, Value.int IntKind.u64 0] 25)) l 0 0 :=
  ⟨by unfold inr; omega, rfl, by (repeat (first | exact Below.refl _ _ | refine Below.drew ?_ | refine Below.setCell ?_ (by simp; try omega) _ | refine bal ?_ _)), Blk.one _ _ _ _ _, Blk.two _ _ _ _ _⟩
set_option maxRecDepth 100000 in
set_option maxHeartbeats 4000000 in
theorem rtotal_any (l : List I2) (A : Option Addr) (n c : Nat) (w : World) (hr : IR w w.heap.size A n l) (hok : okAll l) (hn : n ≤ 4611686018427387904) :
    Calls Try.prog 16 #[.slice A n c] w fun e w' => e = .returned (.tuple #[.agg #[.int .i64 (optI (tot 0 l)).hi, .int .u64 (optI (tot 0 l)).lo], .int .i64 (optE (tot 0 l))]) ∧ Below w.heap.size w w' := by
  have HI0 := hide (RTot.first w l)
  have HR := hide hr
  have HOK := hide hok
  have HL := hide hr.len
  clear hr hok
  go_enter Try.func16, Try.ntmps16
  go_wp2
  go_loopw [3, 5] (fun e i wr => ∃ (k : Nat) (s : Int), k ≤ n ∧ i = .int .i64 k ∧ e = .int .i64 0 ∧ Hid (RTot w wr l k s)) (fun e i _ => n - (intOf i).toNat)
  case atStart => exact ⟨0, 0, Nat.zero_le _, rfl, rfl, HI0⟩
  case round =>
    obtain ⟨k, s, hk, rfl, rfl, HI⟩ := hrel
    clear HI0
    by_cases hlt : k < n
    · obtain ⟨b, o, rfl, hbl, hc⟩ := IR.at (HR.out.below HI.out.bel) (by omega)
      have hkl : k < l.length := by have := HL.out; omega
      obtain ⟨c0, c1⟩ := hc k hkl
      have HX := hide (HOK.out k hkl)
      have HT := hide (tot_drop hkl s)
      have hbl2 : b < wr.heap.size := by have := HI.out.bel.size; omega
      obtain ⟨x, hx⟩ : ∃ x, l[k] = x := ⟨_, rfl⟩
      rw [hx] at c0 c1 HX HT
      have z1 := HI.out.blk.lt
      have z0 := HI.out.res.lt
      have d0 : wr.cell? ⟨w.heap.size + 1, 0, none⟩ = some (.int .i64 (two s).hi) := HI.out.blk.cell 0
      have d1 : wr.cell? ⟨w.heap.size + 1, 1, none⟩ = some (.int .u64 (two s).lo) := HI.out.blk.cell 1
      clear hc hx
      go_wp2_with fail
      obtain ⟨C, hC⟩ : ∃ C, clampI (s + x.num) = C := ⟨_, rfl⟩
      obtain ⟨E, hE⟩ : ∃ E, clampE (s + x.num) = E := ⟨_, rfl⟩
      have HCE := hide (And.intro hC hE)
      have KB := hide HI.out.blk
      have D0 := hide c0; have D1 := hide c1
      clear hC hE c0 c1 d0 d1
      refine wp_region_store (by kernel_rfl) (by kernel_rfl) 30 10
        [⟨0, 16, fun v _ => v = .agg #[.int .i64 (two s).hi, .int .u64 (two s).lo], fun v _ => v = .agg #[.int .i64 (two s).hi, .int .u64 (two s).lo]⟩,
         ⟨0, 17, fun v _ => v = .slice (some ⟨b, o, none⟩) n c, fun v _ => v = .slice (some ⟨b, o, none⟩) n c⟩,
         ⟨0, 18, fun v _ => v = .int .i64 k, fun v _ => v = .int .i64 k⟩,
         ⟨0, 19, fun v _ => v = .pointer (some ⟨b, o + k * 2, none⟩), fun v _ => v = .pointer (some ⟨b, o + k * 2, none⟩)⟩,
         ⟨0, 20, fun v _ => v = .agg #[.int .i64 x.hi, .int .u64 x.lo], fun v _ => v = .agg #[.int .i64 x.hi, .int .u64 x.lo]⟩,
         ⟨0, 21, fun v _ => v = .tuple #[.agg #[.int .i64 C.hi, .int .u64 C.lo], .int .i64 E], fun v _ => v = .tuple #[.agg #[.int .i64 C.hi, .int .u64 C.lo], .int .i64 E]⟩,
         ⟨0, 15, fun v _ => v = .tuple #[.agg #[.int .i64 C.hi, .int .u64 C.lo], .int .i64 E], fun v _ => v = .tuple #[.agg #[.int .i64 C.hi, .int .u64 C.lo], .int .i64 E]⟩,
         ⟨0, 22, fun v _ => v = .agg #[.int .i64 C.hi, .int .u64 C.lo], fun v _ => v = .agg #[.int .i64 C.hi, .int .u64 C.lo]⟩,
         ⟨1, 23, fun v _ => v = .int .i64 E, fun v _ => v = .int .i64 E⟩,
         ⟨0, 6, FreshC wr (25) #[.int .i64 0, .int .u64 0], FreshC wr (25) #[.int .i64 C.hi, .int .u64 C.lo]⟩,
         ⟨2, 0, fun _ _ => True, fun _ _ => True⟩,
         ⟨1, 7, fun v _ => v = .int .i64 E, fun v _ => v = .int .i64 E⟩] (St2 6 (.int .i64 C.hi) (.int .u64 C.lo)) [16, 17, 18, 19, 20, 21, 15, 22, 23, 6, 7] rfl (by kernel_rfl) rfl rfl ?_ ?_ ?_ ?_
      · intro e he hk v w w' _ hb hv
        simp only [List.mem_cons, List.not_mem_nil, or_false] at he
        rcases he with rfl | rfl | rfl | rfl | rfl | rfl | rfl | rfl | rfl | rfl | rfl | rfl
        all_goals first | exact hv | exact FreshC.mono hv hb | exact absurd hk (by decide)
      · intro e he hk a w w' hst hv
        simp only [List.mem_cons, List.not_mem_nil, or_false] at he
        rcases he with rfl | rfl | rfl | rfl | rfl | rfl | rfl | rfl | rfl | rfl | rfl | rfl
        all_goals first | exact hv | exact FreshC.put2 hst hv | exact trivial | exact absurd hk (by decide)
      · refine ⟨?_, ?_, ?_, ?_, ?_, ?_, ?_, ?_, ?_, ?_, ?_, ?_, trivial⟩
        · intro ac w3 hg hb3 hd K hK
          have kc := (KB.out.below hb3 KB.out.lt).cell
          have k4 := hg.kp 4 (by simp)
          (try simp [Act.eval] at k4)
          go_simp
          exact hK _ _ (Below.refl _ _) rfl
        · intro ac w3 hg hb3 hd K hK
          exact op_move _ rfl (hK _ _ (Below.refl _ _) (hg.kp 0 (by simp)))
        · intro ac w3 hg hb3 hd K hK
          exact op_move _ rfl (hK _ _ (Below.refl _ _) (hg.kp 5 (by simp)))
        · intro ac w3 hg hb3 hd K hK
          have f1 := hd ⟨1, .data⟩ (by simp) rfl _ rfl rfl
          have f2 := hd ⟨2, .data⟩ (by simp) rfl _ rfl rfl
          (try simp [Act.eval] at f1)
          (try simp [Act.eval] at f2)
          go_simp
          exact hK _ _ (Below.refl _ _) rfl
        · intro ac w3 hg hb3 hd K hK
          have e0 := (hb3.cell (p := ⟨b, o + k * 2, none⟩) hbl2).trans D0.out
          have e1 := (hb3.cell (p := ⟨b, o + k * 2 + 1, none⟩) hbl2).trans D1.out
          have f3 := hd ⟨3, .data⟩ (by simp) rfl _ rfl rfl
          (try simp [Act.eval] at f3)
          go_simp
          exact hK _ _ (Below.refl _ _) rfl
        · intro ac w3 hg hb3 hd K hK
          have f1 := hd ⟨0, .data⟩ (by simp) rfl _ rfl rfl
          have f3 := hd ⟨4, .data⟩ (by simp) rfl _ rfl rfl
          simp [Act.eval] at f1 f3
          go_simp
          refine (radd_any (two s) x _ (two_ok HI.out.rng) HX.out).mono ?_
          rintro e v4 ⟨rfl, hb4⟩
          rw [two_num, HCE.out.1, HCE.out.2]
          exact hK _ _ hb4 rfl
        · intro ac w3 hg hb3 hd K hK
          exact op_move _ rfl (hK _ _ (Below.refl _ _) (hd ⟨5, .data⟩ (by simp) rfl _ rfl rfl))
        · intro ac w3 hg hb3 hd K hK
          have f6 := hd ⟨6, .data⟩ (by simp) rfl _ rfl rfl
          (try simp [Act.eval] at f6)
          go_simp
          exact hK _ _ (Below.refl _ _) rfl
        · constructor
          · intro ac w3 hg hb3 hd K hK
            have f6 := hd ⟨6, .data⟩ (by simp) rfl _ rfl rfl
            (try simp [Act.eval] at f6)
            go_simp
            exact hK _ _ (Below.refl _ _) rfl
          · intro ac w3 hg hd K hK
            have f6 := hd ⟨6, .data⟩ (by simp) rfl _ rfl rfl
            (try simp [Act.eval] at f6)
            go_simp
            exact hK _ rfl
        · intro ac w3 hg hb3 hd K hK
          go_simp
          exact hK (.pointer (some ⟨w3.heap.size, 0, none⟩)) _ (bal (Below.refl _ _) _) (FreshC.new hb3)
        · intro ac w3 hg hb3 hd K hK
          obtain ⟨_, g, f1, f2, f3⟩ := hd ⟨9, .data⟩ (by simp) rfl _ rfl rfl
          have fv := hd ⟨7, .data⟩ (by simp) rfl _ rfl rfl
          have f0 := f1
          (try simp [Act.eval] at f1)
          (try simp [Act.eval] at fv)
          have kc := f3.cell
          have qc := f3.frozen
          have zc := f3.lt
          clear f2 f3
          have F0 := hide f0
          clear f0
          go_simp
          exact hK _ ⟨g, F0.out, rfl⟩
        · constructor
          · intro ac w3 hg hb3 hd K hK
            exact op_assign _ rfl (hK _ _ (Below.refl _ _) (hd ⟨8, .data⟩ (by simp) rfl _ rfl rfl))
          · intro ac w3 hg hd K hK
            exact op_assign _ rfl (hK _ (hd ⟨8, .data⟩ (by simp) rfl _ rfl rfl))
      · intro f wz hall
        obtain ⟨hbz, g, hp6, hg0, hkz⟩ : FreshC wr (25) #[.int .i64 C.hi, .int .u64 C.lo] (f 6) wz := hall _ (List.mem_of_getElem? (i := 9) rfl) (show (0 : Nat) < 2 by decide)
        have h7 : f 7 = .int .i64 E := hall _ (List.mem_of_getElem? (i := 11) rfl) (show (1 : Nat) < 2 by decide)
        simp only [fillF, List.foldl_cons, List.foldl_nil, Act.put, List.setIfInBounds_toArray, List.set_cons_zero, List.set_cons_succ]
        rw [hp6, h7]
        have HK1 := hide (HI.out.blk.below hbz z1)
        have HK0 := hide (HI.out.res.below hbz z0)
        have HG := hide hkz
        have k0 := HK0.out.cell; have q0 := HK0.out.frozen; have y0 := HK0.out.lt
        have k1 := HK1.out.cell; have q1 := HK1.out.frozen; have y1 := HK1.out.lt
        have kg := hkz.cell; have yg := hkz.lt
        have HBE : Hid (Below w.heap.size w wz) := hide (btr HI.out.bel hbz)
        clear hall hp6 h7 hkz hbz
        by_cases hin : inr (s + x.num)
        · have hC := HCE.out.1; have hE := HCE.out.2
          rw [(clamp_yes hin).1] at hC; rw [(clamp_yes hin).2] at hE
          subst hC hE
          have HIN := hide hin
          clear hin
          go_wp2_with fail
          go_roundw
          case rel =>
            refine ⟨k + 1, s + x.num, by omega, by go_num, rfl, hide ⟨HIN.out, ?_, (by repeat (first | exact HBE.out | refine Below.drew ?_ | refine Below.setCell ?_ (by simp; try omega) _ | refine bal ?_ _)), ?_, ?_⟩⟩
            · rw [← HI.out.same, HT.out, if_pos HIN.out]
            · exact (HK0.out.far (p := ⟨w.heap.size + 1, 0, none⟩) (by simp) _).far (p := ⟨w.heap.size + 1, 1, none⟩) (by simp) _
            · exact (HK1.out.set_ 0 _).set_ 1 _
          case measure => simp [intOf]; omega
        · have hC := HCE.out.1; have hE := HCE.out.2
          rw [(clamp_no hin).1] at hC; rw [(clamp_no hin).2] at hE
          subst hC hE
          have HIN := hide hin
          have HF : Hid (tot 0 l = none) := hide (by rw [← HI.out.same, HT.out, if_neg HIN.out])
          clear hin
          go_wp2_with fail
          refine bodyPost_ret (v := .tuple #[.agg #[.int .i64 0, .int .u64 0], .int .i64 3]) (by simp (maxDischargeDepth := 9) [results, Try.results16, go_sem, k0, y0]; done) rfl ⟨?_, (by repeat (first | exact HBE.out | refine Below.drew ?_ | refine Below.setCell ?_ (by simp; try omega) _ | refine bal ?_ _))⟩
          rw [HF.out]; rfl
    · have k1 := HI.out.blk.cell
      have k0 := HI.out.res.cell
      have q0 := HI.out.res.frozen
      have z0 := HI.out.res.lt
      have HF : Hid (tot 0 l = some s) := hide (by rw [← HI.out.same, List.drop_of_length_le (by have := HL.out; omega)]; rfl)
      go_wp2_with fail
      refine bodyPost_ret (v := .tuple #[.agg #[.int .i64 (two s).hi, .int .u64 (two s).lo], .int .i64 0]) (by simp (maxDischargeDepth := 9) [results, Try.results16, go_sem, k0]; done) rfl ⟨?_, (by repeat (first | exact HI.out.bel | refine Below.drew ?_ | refine Below.setCell ?_ (by simp; try omega) _ | refine bal ?_ _))⟩
      rw [HF.out]; rfl
end Go.Proofs.Ytmfilhmcgagjcaa
