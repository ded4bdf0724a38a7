/- Points: the reference's Meet. -/
import Derived.Test.YticmoijngfpeeaaGeoLaw2
import Derived.Deep.CutRange
import Derived.Lib.LazyBuf
namespace Go.Proofs.Yticmoijngfpeeaa
set_option linter.unusedSimpArgs false
set_option linter.unusedVariables false
open Go.RowKit
theorem pt_info : (Try.prog.info? 23).map (fun i => (i.zero, i.size, i.bytes)) = some (some (.agg #[.int .i64 0, .int .i64 0]), 2, 16) := by kernel_rfl
theorem pt_one (l : List Pt) : ∀ u ∈ l.flatMap Pt.enc, u.oneCell' = true := by
  intro u hu
  obtain ⟨v, _, hv⟩ := List.mem_flatMap.1 hu
  simp [Pt.enc] at hv
  rcases hv with rfl | rfl <;> rfl
/-- The list of ends so far, in memory of its own; the boxes are as they were. -/
def St (W0 W : World) (v : Value) (l : List Pt) : Prop := Below W0.heap.size W0 W ∧ W.ownsRow W0.heap.size 23 2 v l.length (l.flatMap Pt.enc)
theorem St.later {W0 W W' : World} {v : Value} {l : List Pt} (h : St W0 W v l) (hb : Below W.heap.size W W') : St W0 W' v l := ⟨btr h.1 hb, own_later h.2 hb⟩
theorem St.grown {W0 W W' : World} {v v' : Value} {l m : List Pt} (h : St W0 W v l) (hg : W.grownBy W' v.ownBlock) (ho : W'.ownsRow W0.heap.size 23 2 v' (l.length + 1) (m.flatMap Pt.enc)) (hm : m.length = l.length + 1) : St W0 W' v' m :=
  ⟨h.1.grown hg h.1.size (own_block h.2), by rw [hm]; exact ho⟩
theorem PB.newb (w : World) (p : Pt) : Below w.heap.size w (w.alloc (Obj.cells #[Value.int IntKind.i64 p.x, Value.int IntKind.i64 p.y] 23)) := bal (Below.refl _ _) _
theorem pr1 (w : World) (p : Pt) : PR (w.alloc (Obj.cells #[Value.int IntKind.i64 p.x, Value.int IntKind.i64 p.y] 23)) (w.alloc (Obj.cells #[Value.int IntKind.i64 p.x, Value.int IntKind.i64 p.y] 23)).heap.size (some ⟨w.heap.size, 0, none⟩) 1 [p] :=
  Sl.of_blk (Blk.new w _ #[Value.int IntKind.i64 p.x, Value.int IntKind.i64 p.y]) rfl rfl rfl
theorem pt_one1 (p : Pt) : ∀ u ∈ p.enc, u.oneCell' = true := by simpa using pt_one [p]
theorem len_small {n : Nat} (h : n ≤ 3) : n + 1 ≤ maxLen ∧ (n + 1) * 16 ≤ 140737488355328 := by unfold maxLen; omega
theorem all_one {l : List Pt} : ∀ j (hj : j < l.length) (h0 : 0 < l.length), j < 1 → l[j] = l[0] := fun j hj h0 h => by
  have : j = 0 := by omega
  subst this; rfl
theorem all_next {l : List Pt} {k : Nat} (h : ∀ j (hj : j < l.length) (h0 : 0 < l.length), j < k → l[j] = l[0]) (hk : k < l.length) (h0 : 0 < l.length) (hq : l[k] = l[0]) :
    ∀ j (hj : j < l.length) (h0 : 0 < l.length), j < k + 1 → l[j] = l[0] := fun j hj h0 hlt => by
  rcases Nat.lt_succ_iff_lt_or_eq.1 hlt with h1 | rfl
  · exact h j hj h0 h1
  · exact hq
theorem many_of {l : List Pt} {k : Nat} (hk : k < l.length) (h0 : 0 < l.length) (hq : ¬ l[k] = l[0]) : manyV l = true :=
  (many_iff l).2 ⟨l[k], List.getElem_mem hk, l[0], List.getElem_mem h0, hq⟩
theorem not_many {l : List Pt} {n k : Nat} (hn : n = l.length) (hk : n ≤ k) (h : ∀ j (hj : j < l.length) (h0 : 0 < l.length), j < k → l[j] = l[0]) : manyV l = false := by
  rw [Bool.eq_false_iff]; intro e
  obtain ⟨x, hx, y, hy, hxy⟩ := (many_iff l).1 e
  obtain ⟨i, hi, rfl⟩ := List.getElem_of_mem hx
  obtain ⟨j, hj, rfl⟩ := List.getElem_of_mem hy
  exact hxy ((h i hi (by omega) (by omega)).trans (h j hj (by omega) (by omega)).symm)
theorem pt_ne {a b : Pt} (h : ¬ a = b) : (a.x == b.x) = false ∨ ((a.x == b.x) = true ∧ (a.y == b.y) = false) := by
  by_cases hx : a.x = b.x
  · right; refine ⟨by simpa using hx, ?_⟩
    rw [beq_eq_false_iff_ne]; exact fun hy => h (Pt.ext_ hx hy)
  · left; rw [beq_eq_false_iff_ne]; exact hx
theorem empty_of {l : List Pt} {n : Nat} (hn : n = l.length) (h : n = 0) : l.isEmpty = true := by
  subst h; cases l <;> simp_all
theorem full_of {l : List Pt} {n : Nat} (hn : n = l.length) (h : ¬ n = 0) : l.isEmpty = false := by
  cases l <;> simp_all
theorem cross_of1 {a b c d : Pt} (h : decide (turnV a b c * turnV a b d < 0) = false) : crossP a b c d = false := by unfold crossP; rw [h]; rfl
theorem cross_of2 {a b c d : Pt} {x : Bool} (h : decide (turnV a b c * turnV a b d < 0) = true) (k : decide (turnV c d a * turnV c d b < 0) = x) : crossP a b c d = x := by unfold crossP; rw [h, k]; rfl
theorem tprod (a b c d e f : Pt) : -9223372036854775808 ≤ turnV a b c * turnV d e f ∧ turnV a b c * turnV d e f ≤ 9223372036854775807 := by
  have h : ∀ a b c : Pt, -1 ≤ turnV a b c ∧ turnV a b c ≤ 1 := fun a b c => by unfold turnV cmpOf; repeat' split <;> omega
  have := mul_le_sq (h a b c).1 (h a b c).2 (h d e f).1 (h d e f).2
  omega
def E1 (a b c d : Pt) : List Pt := if ronV c d a then [a] else []
def E2 (a b c d : Pt) : List Pt := E1 a b c d ++ (if ronV c d b then [b] else [])
def E3 (a b c d : Pt) : List Pt := E2 a b c d ++ (if ronV a b c then [c] else [])
def E4 (a b c d : Pt) : List Pt := E3 a b c d ++ (if ronV a b d then [d] else [])
theorem E4_ends (a b c d : Pt) : E4 a b c d = endsL a b c d := by unfold E4 E3 E2 E1 endsL; simp
theorem E_len (a b c d : Pt) : (E1 a b c d).length ≤ 1 ∧ (E2 a b c d).length ≤ 2 ∧ (E3 a b c d).length ≤ 3 ∧ (E4 a b c d).length ≤ 4 := by
  have h1 : (E1 a b c d).length ≤ 1 := by unfold E1; split <;> simp
  have h2 : (E2 a b c d).length ≤ 2 := by unfold E2; rw [List.length_append]; split <;> simp <;> omega
  have h3 : (E3 a b c d).length ≤ 3 := by unfold E3; rw [List.length_append]; split <;> simp <;> omega
  have h4 : (E4 a b c d).length ≤ 4 := by unfold E4; rw [List.length_append]; split <;> simp <;> omega
  exact ⟨h1, h2, h3, h4⟩
set_option maxRecDepth 100000 in
set_option maxHeartbeats 4000000 in
theorem rmeet_any (a b c d : Pt) (w : World) (ga : a.good) (gb : b.good) (gc : c.good) (gd : d.good) :
    Calls Try.prog 12 #[.agg #[.int .i64 a.x, .int .i64 a.y], .agg #[.int .i64 b.x, .int .i64 b.y], .agg #[.int .i64 c.x, .int .i64 c.y], .agg #[.int .i64 d.x, .int .i64 d.y]] w fun e w' => e = .returned (.int .i64 (rmeetV a b c d)) ∧ Below w.heap.size w w' := by
  obtain ⟨i0, hi0, hz0, hz1, hz2⟩ := info_parts pt_info
  have HI := hide hi0
  have HZ0 := hide hz0
  have HZ1 := hide hz1
  have HZ2 := hide hz2
  clear hi0 hz0 hz1 hz2
  have HB0 := hide (bel4 w a b c d)
  have HX0 := hide (Box4.new w a b c d)
  go_enter Try.func12, Try.ntmps12
  obtain ⟨W0, hW0, HB, HX⟩ : ∃ W, ((((w.alloc (pblk a.x a.y)).alloc (pblk b.x b.y)).alloc (pblk c.x c.y)).alloc (pblk d.x d.y)) = W ∧ Hid (Below w.heap.size w W) ∧ Hid (Box4 W w.heap.size a b c d) := ⟨_, rfl, HB0, HX0⟩
  clear HB0 HX0
  have HW0 := hide hW0
  clear hW0
  go_wp2_with fail
  rw [HW0.out]
  have HS0 : Hid (St W0 W0 (.slice none 0 0) []) := hide ⟨Below.refl _ _, World.ownsRow_nil _ _ _ _⟩
  refine (ron_any c d a _ gc gd ga).mono ?_
  rintro e w1 ⟨rfl, hb1⟩
  have HS1 := hide (HS0.out.later hb1)
  clear hb1 HS0
  go_upto_if 14 with fail
  go_cut [9] from 11 (fun v W => Hid (St W0 W v (E1 a b c d)))
  case first =>
    cases h1 : ronV c d a
    · go_wp2_with fail
      go_meet
      case rel => exact hide (by unfold E1; rw [h1]; simpa using HS1.out)
    · have HX1 := hide (HX.out.later HS1.out.1)
      obtain ⟨⟨k1, k2, k3, k4⟩, q1, q2, q3, q4⟩ := HX1.out.all
      clear q1 q2 q3 q4
      have HA := hide (HS1.out.later (PB.newb w1 a))
      go_wp2_with (at_builtin; refine wpList_append_any _ rfl (.tmp 15) (.tmp 17) _ rfl W0.heap.size 23 i0 _ 2 16 Try.underlying29 HI.out HZ0.out HZ1.out HZ2.out rfl (by omega) (.slice none 0 0) ([] : List Pt).length (([] : List Pt).flatMap Pt.enc) rfl HA.out.2 _ (some ⟨w1.heap.size, 0, none⟩) 1 1 a.enc rfl (pr1 w1 a).2 (pt_one1 a) (len_small (by have := E_len a b c d; first | (simp; done) | omega)).1 (len_small (by have := E_len a b c d; first | (simp; done) | omega)).2 HA.out.1.size ?_; intro v1 x1 hown1 hg1 hat1)
      go_meet
      case rel => exact hide (HA.out.grown hg1 (by unfold E1; rw [h1]; simpa using hown1) (by unfold E1; rw [h1]; simp))
  case rest =>
    have HX20 := hide (HX.out.later hcut.out.1)
    obtain ⟨⟨k1, k2, k3, k4⟩, q1, q2, q3, q4⟩ := HX20.out.all
    clear q1 q2 q3 q4
    go_wp2_with fail
    refine (ron_any c d b _ gc gd gb).mono ?_
    rintro e w2 ⟨rfl, hb2⟩
    have HS2 := hide (hcut.out.later hb2)
    clear hb2 hcut k1 k2 k3 k4 HX20
    go_upto_if 22 with fail
    go_cut [9] from 11 (fun v W => Hid (St W0 W v (E2 a b c d)))
    case first =>
      cases h1 : ronV c d b
      · go_wp2_with fail
        go_meet
        case rel => exact hide (by unfold E2; rw [h1]; simpa using HS2.out)
      · have HX2 := hide (HX.out.later HS2.out.1)
        obtain ⟨⟨k1, k2, k3, k4⟩, q1, q2, q3, q4⟩ := HX2.out.all
        clear q1 q2 q3 q4
        have HA := hide (HS2.out.later (PB.newb w2 b))
        go_wp2_with (at_builtin; refine wpList_append_any _ rfl (.tmp 23) (.tmp 25) _ rfl W0.heap.size 23 i0 _ 2 16 Try.underlying29 HI.out HZ0.out HZ1.out HZ2.out rfl (by omega) u9 (E1 a b c d).length ((E1 a b c d).flatMap Pt.enc) rfl HA.out.2 _ (some ⟨w2.heap.size, 0, none⟩) 1 1 b.enc rfl (pr1 w2 b).2 (pt_one1 b) (len_small (by have := E_len a b c d; first | (simp; done) | omega)).1 (len_small (by have := E_len a b c d; first | (simp; done) | omega)).2 HA.out.1.size ?_; intro v1 x1 hown1 hg1 hat1)
        go_meet
        case rel => exact hide (HA.out.grown hg1 (by unfold E2; rw [h1]; simpa using hown1) (by unfold E2; rw [h1]; simp))
    case rest =>
      have HX30 := hide (HX.out.later hcut.out.1)
      obtain ⟨⟨k1, k2, k3, k4⟩, q1, q2, q3, q4⟩ := HX30.out.all
      clear q1 q2 q3 q4
      go_wp2_with fail
      refine (ron_any a b c _ ga gb gc).mono ?_
      rintro e w3 ⟨rfl, hb3⟩
      have HS3 := hide (hcut.out.later hb3)
      clear hb3 hcut k1 k2 k3 k4 HX30
      go_upto_if 30 with fail
      go_cut [9] from 11 (fun v W => Hid (St W0 W v (E3 a b c d)))
      case first =>
        cases h1 : ronV a b c
        · go_wp2_with fail
          go_meet
          case rel => exact hide (by unfold E3; rw [h1]; simpa using HS3.out)
        · have HX3 := hide (HX.out.later HS3.out.1)
          obtain ⟨⟨k1, k2, k3, k4⟩, q1, q2, q3, q4⟩ := HX3.out.all
          clear q1 q2 q3 q4
          have HA := hide (HS3.out.later (PB.newb w3 c))
          go_wp2_with (at_builtin; refine wpList_append_any _ rfl (.tmp 31) (.tmp 33) _ rfl W0.heap.size 23 i0 _ 2 16 Try.underlying29 HI.out HZ0.out HZ1.out HZ2.out rfl (by omega) u9 (E2 a b c d).length ((E2 a b c d).flatMap Pt.enc) rfl HA.out.2 _ (some ⟨w3.heap.size, 0, none⟩) 1 1 c.enc rfl (pr1 w3 c).2 (pt_one1 c) (len_small (by have := E_len a b c d; first | (simp; done) | omega)).1 (len_small (by have := E_len a b c d; first | (simp; done) | omega)).2 HA.out.1.size ?_; intro v1 x1 hown1 hg1 hat1)
          go_meet
          case rel => exact hide (HA.out.grown hg1 (by unfold E3; rw [h1]; simpa using hown1) (by unfold E3; rw [h1]; simp))
      case rest =>
        have HX40 := hide (HX.out.later hcut.out.1)
        obtain ⟨⟨k1, k2, k3, k4⟩, q1, q2, q3, q4⟩ := HX40.out.all
        clear q1 q2 q3 q4
        go_wp2_with fail
        refine (ron_any a b d _ ga gb gd).mono ?_
        rintro e w4 ⟨rfl, hb4⟩
        have HS4 := hide (hcut.out.later hb4)
        clear hb4 hcut k1 k2 k3 k4 HX40
        go_upto_if 38 with fail
        go_cut [9] from 11 (fun v W => Hid (St W0 W v (E4 a b c d)))
        case first =>
          cases h1 : ronV a b d
          · go_wp2_with fail
            go_meet
            case rel => exact hide (by unfold E4; rw [h1]; simpa using HS4.out)
          · have HX4 := hide (HX.out.later HS4.out.1)
            obtain ⟨⟨k1, k2, k3, k4⟩, q1, q2, q3, q4⟩ := HX4.out.all
            clear q1 q2 q3 q4
            have HA := hide (HS4.out.later (PB.newb w4 d))
            go_wp2_with (at_builtin; refine wpList_append_any _ rfl (.tmp 39) (.tmp 41) _ rfl W0.heap.size 23 i0 _ 2 16 Try.underlying29 HI.out HZ0.out HZ1.out HZ2.out rfl (by omega) u9 (E3 a b c d).length ((E3 a b c d).flatMap Pt.enc) rfl HA.out.2 _ (some ⟨w4.heap.size, 0, none⟩) 1 1 d.enc rfl (pr1 w4 d).2 (pt_one1 d) (len_small (by have := E_len a b c d; first | (simp; done) | omega)).1 (len_small (by have := E_len a b c d; first | (simp; done) | omega)).2 HA.out.1.size ?_; intro v1 x1 hown1 hg1 hat1)
            go_meet
            case rel => exact hide (HA.out.grown hg1 (by unfold E4; rw [h1]; simpa using hown1) (by unfold E4; rw [h1]; simp))
        case rest =>
          obtain ⟨A, c', rfl, hnc, hcm, hr⟩ := Sl.of_owns (n := (E4 a b c d).length) (l := E4 a b c d) (enc := Pt.enc) hcut.out.2 rfl rfl rfl
          have HS4 := hide hcut.out.1
          have HE : Hid (rmeetV a b c d = if manyV (E4 a b c d) then 3 else if (E4 a b c d).isEmpty = false then 1 else if crossP a b c d then 2 else 0) := hide (by rw [E4_ends]; rfl)
          have hl4 := (E_len a b c d).2.2.2
          have HBw := hide (btr HB.out HS4.out)
          clear hcut
          clear hcm
          generalize E4 a b c d = l at *
          obtain ⟨n, hn⟩ : ∃ n, n = l.length := ⟨_, rfl⟩
          rw [← hn] at hl4 hr hnc ⊢
          have HN := hide hn
          clear hn
          have hn4 : n ≤ 4 := hl4
          clear hl4
          go_wp2
          go_loopw [10] (fun i wr => ∃ k : Nat, 1 ≤ k ∧ (k ≤ n ∨ k = 1) ∧ i = .int .i64 k ∧ Hid (∀ j (hj : j < l.length) (h0 : 0 < l.length), j < k → l[j] = l[0]) ∧ Below wc.heap.size wc wr) (fun i _ => n - (intOf i).toNat)
          case atStart => exact ⟨1, by omega, .inr rfl, rfl, hide all_one, Below.refl _ _⟩
          case round =>
            obtain ⟨k, hk1, hk, rfl, HBK0, hb⟩ := hrel
            have HBK := hide hb
            by_cases hlt : k < n
            · obtain ⟨bb, o, rfl, hbl, hc⟩ := PR.at (hr.below hb) (by omega)
              have hkl : k < l.length := by have := HN.out; omega
              have h0l : 0 < l.length := by omega
              obtain ⟨c0, c1⟩ := hc k hkl
              obtain ⟨d0, d1⟩ := hc 0 h0l
              rw [Nat.zero_mul, Nat.add_zero] at d0 d1
              have hbl2 : bb < wr.heap.size := by have := hb.size; omega
              clear hc hb
              by_cases hq : l[k] = l[0]
              · rw [hq] at c0 c1
                have HOK := hide (all_next HBK0.out hkl h0l hq)
                go_wp2
                refine wp_region_later (by kernel_rfl) (by kernel_rfl) ?_
                repeat (first | go_big_quiet_step (fail) | quiet_step (fail))
                refine wpQuiet_nil ?_; intro _ hw'; obtain ⟨L, hL⟩ := hw'; subst hL
                go_wp2
                go_roundw
                case rel => exact ⟨k + 1, by omega, .inl (by omega), by go_num, HOK.out, HBK.out.trans (L.h.mono HBK.out.size)⟩
                case measure => simp [intOf]; omega
              · have HQ := hide (many_of hkl h0l hq)
                have HNE := hide (pt_ne hq)
                clear hq
                rcases HNE.out with hx | ⟨hx, hy⟩
                all_goals
                  go_wp2
                  refine wp_region_later (by kernel_rfl) (by kernel_rfl) ?_
                  repeat (first | go_big_quiet_step (fail) | quiet_step (fail))
                  refine wpQuiet_nil ?_; intro _ hw'; obtain ⟨L, hL⟩ := hw'; subst hL
                  go_wp2
                  go_ret
                  exact ⟨ret_int (by rw [HE.out, HQ.out]; rfl), btr HBw.out (HBK.out.trans (L.h.mono HBK.out.size))⟩
            · clear hb
              have HA := hide (not_many HN.out (by omega) HBK0.out)
              by_cases hn0 : n = 0
              · have HZ := hide (empty_of HN.out hn0)
                have HXw := hide (HX.out.later (btr HS4.out HBK.out))
                obtain ⟨⟨k1, k2, k3, k4⟩, q1, q2, q3, q4⟩ := HXw.out.all
                clear q1 q2 q3 q4
                obtain ⟨⟨z1, z2, z3, z4⟩, z5, z6, z7, z8⟩ := HXw.out.lts
                clear z5 z6 z7 z8
                obtain ⟨m1, m2⟩ := tprod a b c a b d
                obtain ⟨m3, m4⟩ := tprod c d a c d b
                have hk1' : k = 1 := by omega
                subst hn0
                cases d1 : decide (turnV a b c * turnV a b d < 0)
                · have HF := hide (cross_of1 d1)
                  go_wp2
                  refine wp_region_later (by kernel_rfl) (by kernel_rfl) ?_
                  repeat (first | go_big_quiet_step ((go_at_call 28; exact Calls.later (rturn_any _ _ _ _ (by assumption) (by assumption) (by assumption)))) | quiet_step ((go_at_call 28; exact Calls.later (rturn_any _ _ _ _ (by assumption) (by assumption) (by assumption)))))
                  refine wpQuiet_nil ?_; intro _ hw'; obtain ⟨L, hL⟩ := hw'; subst hL
                  go_wp2
                  go_ret
                  exact ⟨ret_int (by rw [HE.out, HA.out, HZ.out, HF.out]; rfl), btr HBw.out (HBK.out.trans (L.h.mono HBK.out.size))⟩
                · cases d2 : decide (turnV c d a * turnV c d b < 0)
                  all_goals
                    have HF := hide (cross_of2 d1 d2)
                    go_wp2
                    refine wp_region_later (by kernel_rfl) (by kernel_rfl) ?_
                    repeat (first | go_big_quiet_step ((go_at_call 28; exact Calls.later (rturn_any _ _ _ _ (by assumption) (by assumption) (by assumption)))) | quiet_step ((go_at_call 28; exact Calls.later (rturn_any _ _ _ _ (by assumption) (by assumption) (by assumption)))))
                    refine wpQuiet_nil ?_; intro _ hw'; obtain ⟨L, hL⟩ := hw'; subst hL
                    go_wp2
                    go_ret
                    exact ⟨ret_int (by rw [HE.out, HA.out, HZ.out, HF.out]; rfl), btr HBw.out (HBK.out.trans (L.h.mono HBK.out.size))⟩
              · have HZ := hide (full_of HN.out hn0)
                have hpos : 0 < n := by omega
                go_wp2
                go_ret
                exact ⟨ret_int (by rw [HE.out, HA.out, HZ.out]; rfl), btr HBw.out HBK.out⟩
end Go.Proofs.Yticmoijngfpeeaa
