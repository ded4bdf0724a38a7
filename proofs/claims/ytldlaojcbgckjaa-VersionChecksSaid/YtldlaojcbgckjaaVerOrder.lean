/- The law VersionOrder returns true, whatever list and times. -/
import Derived.Test.YtldlaojcbgckjaaVerAsOf
namespace Go.Proofs.Ytldlaojcbgckjaa
set_option linter.unusedSimpArgs false
set_option linter.unusedVariables false
open Go.RowKit
theorem seq_of {l : List Ver} (h : checkV l = true) : ∀ i j (hj : j < l.length) (hij : i ≤ j), (l[i]'(by omega)).s ≤ l[j].s := by
  have h : okTo l l.length := by
    unfold checkV at h
    simp only [Bool.and_eq_true, List.all_eq_true, List.mem_range] at h
    exact h.1
  intro i j hj hij
  induction j with
  | zero => have : i = 0 := by omega
            subst this; exact Int.le_refl _
  | succ j ih =>
    rcases Nat.lt_or_ge j i with h1 | h1
    · have : i = j + 1 := by omega
      subst this; exact Int.le_refl _
    · have h2 := h (j + 1) hj
      rw [okAt_eq hj] at h2
      have hj' : j < l.length := by omega
      simp [List.getElem?_eq_getElem hj'] at h2
      have := ih hj' h1
      omega
theorem rcheck_b (l : List Ver) (A : Option Addr) (n c : Nat) (w : World) (hr : VR w w.heap.size A n l) (hn : n ≤ 9223372036854775807) {b : Bool} (hb : checkV l = b) :
    Calls Try.prog 10 #[.slice A n c] w fun e w' => e = .returned (.bool b) ∧ Below w.heap.size w w' := by
  subst hb; exact rcheck_any l A n c w hr hn
theorem asof_yes (l : List Ver) (A : Option Addr) (n c : Nat) (t : Int) (w : World) (hr : VR w w.heap.size A n l) (hn : n ≤ 4611686018427387904) (hch : checkV l = true) :
    Calls Try.prog 8 #[.slice A n c, .int .i64 t] w fun e w' => ∃ x, e = .returned x ∧ ((CutAt l t 0 ∧ x = .tuple #[zeroV, .int .i64 20]) ∨ ∃ r, ∃ h : r < l.length, CutAt l t (r + 1) ∧ x = .tuple #[l[r].val, .int .i64 0]) ∧ Below w.heap.size w w' :=
  (asof_any l A n c t w hr hn).mono fun e w' ⟨x, he, hx, hb⟩ => ⟨x, he, by
    rcases hx with ⟨h, _⟩ | ⟨_, h1, h2⟩ | ⟨r, h, _, h1, h2⟩
    · rw [hch] at h; cases h
    · exact .inl ⟨h1, h2⟩
    · exact .inr ⟨r, h, h1, h2⟩, hb⟩
theorem order_ways {l : List Ver} (hch : checkV l = true) {a b : Int} {q p i : Nat} (hq : q < l.length) (hp : p < l.length) (ha : CutAt l a (q + 1)) (hb : CutAt l b (p + 1)) (hi : i < l.length) :
    (decide (l[i].t ≤ a) = true ∧ decide (l[q].s < l[i].s) = false ∧ decide (a < l[i].t) = false) ∨
    (decide (l[i].t ≤ a) = false ∧ decide (a < l[i].t) = true ∧ decide (l[i].t ≤ b) = true ∧ decide (l[p].s < l[i].s) = false) ∨
    (decide (l[i].t ≤ a) = false ∧ decide (a < l[i].t) = true ∧ decide (l[i].t ≤ b) = false) := by
  by_cases h1 : l[i].t ≤ a
  · refine .inl ⟨by simp [h1], ?_, by simp; omega⟩
    have : i ≤ q := by
      rcases Nat.lt_or_ge q i with h | h
      · have := ha.2.2 i hi (by omega); omega
      · exact h
    have := seq_of hch i q hq this
    simp; omega
  · by_cases h2 : l[i].t ≤ b
    · refine .inr (.inl ⟨by simp; omega, by simp; omega, by simp [h2], ?_⟩)
      have : i ≤ p := by
        rcases Nat.lt_or_ge p i with h | h
        · have := hb.2.2 i hi (by omega); omega
        · exact h
      have := seq_of hch i p hp this
      simp; omega
    · exact .inr (.inr ⟨by simp; omega, by simp; omega, by simp; omega⟩)

set_option maxRecDepth 100000 in
set_option maxHeartbeats 2000000 in
theorem lawOrder_any (l : List Ver) (A : Option Addr) (n c : Nat) (a b : Int) (w : World) (hr : VR w w.heap.size A n l) (hn : n * 24 ≤ 140737488351232) :
    Calls Try.prog 4 #[.slice A n c, .int .i64 a, .int .i64 b] w fun e w' => e = .returned (.bool true) ∧ Below w.heap.size w w' := by
  have hn' : n ≤ 9223372036854775807 := by omega
  have hn2 : n ≤ 4611686018427387904 := by omega
  cases hch : checkV l
  · have HCH := hide hch
    clear hch
    go_enter Try.func4, Try.ntmps4
    go_wp2_with fail
    refine (answers_any _).mono ?_
    rintro e w1 ⟨rfl, hb1⟩
    have HB1 := hide hb1
    clear hb1
    go_wp2_with fail
    refine (rcheck_b l A n c _ (hr.later HB1.out) hn' HCH.out).mono ?_
    rintro e w2 ⟨rfl, hb2⟩
    have HB2 := hide (HB1.out.trans (hb2.mono HB1.out.size))
    clear hb2
    go_wp2_with fail
    refine (answers_any _).mono ?_
    rintro e w3 ⟨rfl, hb3⟩
    have HB3 := hide (HB2.out.trans (hb3.mono HB2.out.size))
    clear hb3
    go_wp2
    go_ret
    exact ⟨rfl, HB3.out⟩
  · have HCH := hide hch
    clear hch
    by_cases hab : a ≤ b
    · have hab1 : decide (b < a) = false := by simp; exact hab
      go_enter Try.func4, Try.ntmps4
      go_wp2_with fail
      refine (answers_any _).mono ?_
      rintro e w1 ⟨rfl, hb1⟩
      have HB1 := hide hb1
      clear hb1
      go_wp2_with fail
      refine (rcheck_b l A n c _ (hr.later HB1.out) hn' HCH.out).mono ?_
      rintro e w2 ⟨rfl, hb2⟩
      have HB2 := hide (HB1.out.trans (hb2.mono HB1.out.size))
      clear hb2
      go_wp2_with fail
      refine (own_any l A n c _ (hr.later HB2.out) hn).mono ?_
      rintro e w3 ⟨A1, c1, rfl, _, hr1, hb3⟩
      have HB3 := hide (HB2.out.trans (hb3.mono HB2.out.size))
      clear hb3
      go_wp2_with fail
      refine (asof_yes l A1 n c1 a _ hr1 hn2 HCH.out).mono ?_
      rintro e w4 ⟨x, rfl, hx, hb4⟩
      have HB4 := hide (HB3.out.trans (hb4.mono HB3.out.size))
      clear hb4 hr1
      rcases hx with ⟨hca, rfl⟩ | ⟨q, hq, hca, rfl⟩
      · have HCA := hide hca
        clear hca
        unfold zeroV
        have B5 := HB4.out.alloc HB4.out.size (vblk 0 0 0)
        have HR5 := hide (hr.later B5)
        have HB5 := hide B5
        clear B5
        go_wp2_with fail
        refine (own_any l A n c _ HR5.out hn).mono ?_
        rintro e w6 ⟨A2, c2, rfl, _, hr2, hb6⟩
        have HB6 := hide (HB5.out.trans (hb6.mono HB5.out.size))
        clear hb6
        go_wp2_with fail
        refine (asof_yes l A2 n c2 b _ hr2 hn2 HCH.out).mono ?_
        rintro e w7 ⟨y, rfl, hy, hb7⟩
        have HB7 := hide (HB6.out.trans (hb7.mono HB6.out.size))
        clear hb7 hr2
        rcases hy with ⟨hcb, rfl⟩ | ⟨p, hp, hcb, rfl⟩
        · unfold zeroV
          clear hcb
          go_wp2
          go_ret
          exact ⟨rfl, HB7.out.alloc HB7.out.size _⟩
        · have hpa : a < l[p].t := HCA.out.2.2 p hp (by omega)
          unfold Ver.val
          clear hcb
          go_wp2
          go_ret
          exact ⟨rfl, HB7.out.alloc HB7.out.size _⟩
      · have HCA := hide hca
        clear hca
        unfold Ver.val
        have B5 := HB4.out.alloc HB4.out.size (vblk l[q].s l[q].t l[q].r)
        have K5 : Blk (w4.alloc (vblk l[q].s l[q].t l[q].r)) w4.heap.size 24 #[Value.int IntKind.i64 l[q].s, Value.int IntKind.i64 l[q].t, Value.int IntKind.i64 l[q].r] := Blk.new _ _ _
        have HR5 := hide (hr.later B5)
        have HB5 := hide B5
        clear B5
        have HK5 := hide K5
        clear K5
        go_wp2_with fail
        refine (own_any l A n c _ HR5.out hn).mono ?_
        rintro e w6 ⟨A2, c2, rfl, _, hr2, hb6⟩
        have HB6 := hide (HB5.out.trans (hb6.mono HB5.out.size))
        have HK6 := hide (HK5.out.below hb6 HK5.out.lt)
        clear hb6
        go_wp2_with fail
        refine (asof_yes l A2 n c2 b _ hr2 hn2 HCH.out).mono ?_
        rintro e w7 ⟨y, rfl, hy, hb7⟩
        have HB7 := hide (HB6.out.trans (hb7.mono HB6.out.size))
        have HK7 := hide (HK6.out.below hb7 HK6.out.lt)
        clear hb7 hr2
        rcases hy with ⟨hcb, rfl⟩ | ⟨p, hp, hcb, rfl⟩
        · have h1 := hcb.2.2 q hq (by omega)
          have h2 := HCA.out.2.1 q hq (by omega)
          exfalso; omega
        · have hqp : q ≤ p := by
            rcases Nat.lt_or_ge p q with h | h
            · have h1 := hcb.2.2 q hq (by omega)
              have h2 := HCA.out.2.1 q hq (by omega)
              exfalso; omega
            · exact h
          have hsq : decide (l[p].s < l[q].s) = false := by have := seq_of HCH.out q p hp hqp; simp; omega
          have HCB := hide hcb
          clear hcb
          unfold Ver.val
          have B8 := HB7.out.alloc HB7.out.size (vblk l[p].s l[p].t l[p].r)
          have K8 : Blk (w7.alloc (vblk l[p].s l[p].t l[p].r)) w7.heap.size 24 #[Value.int IntKind.i64 l[p].s, Value.int IntKind.i64 l[p].t, Value.int IntKind.i64 l[p].r] := Blk.new _ _ _
          have K5 := HK7.out.alloc (vblk l[p].s l[p].t l[p].r)
          have kc5 := K5.cell
          have hgt := HK7.out.lt
          have HB8 := hide B8
          have HK8 := hide K8
          have HK5' := hide K5
          clear B8 K8 K5
          go_wp2
          go_loopw [11] (fun i wr => ∃ k : Nat, k ≤ n ∧ i = .int .i64 k ∧ Below (w7.alloc (vblk l[p].s l[p].t l[p].r)).heap.size (w7.alloc (vblk l[p].s l[p].t l[p].r)) wr) (fun i _ => n - (intOf i).toNat)
          case atStart => exact ⟨0, by omega, rfl, Below.refl _ _⟩
          case round =>
            obtain ⟨k, hk, rfl, hbr⟩ := hrel
            have HBR := hide hbr
            have HB9 := hide (HB8.out.trans (hbr.mono HB8.out.size))
            have K9 := HK8.out.below hbr HK8.out.lt
            have K9' := HK5'.out.below hbr HK5'.out.lt
            by_cases hlt : k < n
            · obtain ⟨bb, o, rfl, hbl, hc⟩ := VR.at (hr.below HB9.out) (by omega)
              have hl := hr.len
              obtain ⟨c0, c1, c2⟩ := hc k (by omega)
              have kc8 := K9.cell
              have kc5' := K9'.cell
              have kz := K9.lt
              have kz' := K9'.lt
              have hbl2 : bb < wr.heap.size := by have := HB9.out.size; omega
              have hkl : k < l.length := by omega
              have HW := order_ways HCH.out hq hp HCA.out HCB.out hkl
              clear hc hbr kc5 K9 K9' hab1 hsq
              rcases HW with ⟨h1, h2, h3⟩ | ⟨h1, h2, h3, h4⟩ | ⟨h1, h2, h3⟩
              all_goals
                go_wp2
                refine wp_region_later (by kernel_rfl) (by kernel_rfl) ?_
                repeat (first | go_big_quiet_step (fail) | quiet_step (fail))
                refine wpQuiet_nil ?_; intro _ hw'; obtain ⟨L, hL⟩ := hw'; subst hL
                go_wp2
                go_roundw
                case rel => exact ⟨k + 1, by omega, by go_num, HBR.out.trans (L.h.mono HBR.out.size)⟩
                case measure => simp [intOf]; omega
            · clear hbr kc5 K9 K9' hab1 hsq
              go_wp2
              go_ret
              exact ⟨rfl, HB9.out⟩
    · have hab1 : decide (b < a) = true := by simp; omega
      go_enter Try.func4, Try.ntmps4
      go_wp2_with fail
      refine (answers_any _).mono ?_
      rintro e w1 ⟨rfl, hb1⟩
      have HB1 := hide hb1
      clear hb1
      go_wp2_with fail
      refine (rcheck_b l A n c _ (hr.later HB1.out) hn' HCH.out).mono ?_
      rintro e w2 ⟨rfl, hb2⟩
      have HB2 := hide (HB1.out.trans (hb2.mono HB1.out.size))
      clear hb2
      go_wp2_with fail
      refine (answers_any _).mono ?_
      rintro e w3 ⟨rfl, hb3⟩
      have HB3 := hide (HB2.out.trans (hb3.mono HB2.out.size))
      clear hb3
      go_wp2
      go_ret
      exact ⟨rfl, HB3.out⟩
end Go.Proofs.Ytldlaojcbgckjaa
