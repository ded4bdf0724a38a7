/- The document's Same: the same acts? -/
import Derived.Test.YtcdhngppcpgojaaDoorScrRq
namespace Go.Proofs.YtcdhngppcpgojaaDoor
set_option linter.unusedSimpArgs false
set_option linter.unusedVariables false
open Go.RowKit
theorem eq_pt (a b c d : Int) (w : World) : (Op.equalIn 10000 TPt (.agg #[.int .i64 a, .int .i64 b]) (.agg #[.int .i64 c, .int .i64 d])).run Tryd.prog w = .ok (a == c && b == d) w := by
  have hS : Tryd.prog.underlying TPt = some (.struct (Tryd.prog.fieldsOf TPt)) := by kernel_rfl
  rw [show (10000 : Nat) = 9999 + 1 from rfl, run_equalIn_agg w 9999 TPt _ _ hS (by kernel_rfl)]
  simp only [Program.fieldsOf, Tryd.underlying74]
  go_simp
  by_cases h1 : a = c <;> by_cases h2 : b = d <;> simp [h1, h2]
set_option maxRecDepth 1000000 in
set_option maxHeartbeats 4000000 in
theorem same_any (x y : Ac) (w : World) (hx : Sl 2 pEnc w w.heap.size x.A x.p x.path) (hy : Sl 2 pEnc w w.heap.size y.A y.p y.path) (hb : x.p ≤ 4000000 ∧ y.p ≤ 4000000) :
    Calls Tryd.prog 18 #[.agg x.cells, .agg y.cells] w fun e w' => SmP x y e ∧ Below w.heap.size w w' := by
  obtain ⟨kind, s, n, mask, okind, a, b, A, p, c, path, owner, text⟩ := x
  obtain ⟨kind', s', n', mask', okind', a', b', A', p', c', path', owner', text'⟩ := y
  unfold Ac.cells
  simp only at hx hy hb ⊢
  obtain ⟨W0, hW0, hk1, hk2, hb0⟩ : ∃ W0, (w.alloc (Obj.cells #[.int .i64 kind, .int .i64 s, .int .i64 n, .int .u64 mask, .int .i64 okind, .int .i64 a, .int .i64 b, .slice A p c, str owner, str text] TAct)).alloc (Obj.cells #[.int .i64 kind', .int .i64 s', .int .i64 n', .int .u64 mask', .int .i64 okind', .int .i64 a', .int .i64 b', .slice A' p' c', str owner', str text'] TAct) = W0 ∧ Blk W0 w.heap.size TAct #[.int .i64 kind, .int .i64 s, .int .i64 n, .int .u64 mask, .int .i64 okind, .int .i64 a, .int .i64 b, .slice A p c, str owner, str text] ∧ Blk W0 (w.heap.size + 1) TAct #[.int .i64 kind', .int .i64 s', .int .i64 n', .int .u64 mask', .int .i64 okind', .int .i64 a', .int .i64 b', .slice A' p' c', str owner', str text'] ∧ Below w.heap.size w W0 :=
    ⟨_, rfl, (Blk.new _ _ _).alloc _, by have := Blk.new (w.alloc (Obj.cells #[.int .i64 kind, .int .i64 s, .int .i64 n, .int .u64 mask, .int .i64 okind, .int .i64 a, .int .i64 b, .slice A p c, str owner, str text] TAct)) TAct #[.int .i64 kind', .int .i64 s', .int .i64 n', .int .u64 mask', .int .i64 okind', .int .i64 a', .int .i64 b', .slice A' p' c', str owner', str text']; simpa using this, ((Below.refl _ _).alloc (Nat.le_refl _) _).alloc (by simp) _⟩
  have HW0 := hide hW0
  have HX := hide (hx.below hb0)
  have HY := hide (hy.below hb0)
  have HB0 := hide hb0
  have hxl := hx.1
  have hyl := hy.1
  have HXL := hide hxl
  have HYL := hide hyl
  have HK1 := hide hk1
  have HK2 := hide hk2
  clear hx hy hW0 hb0 hk1 hk2 hxl hyl
  go_enter Tryd.func18, Tryd.ntmps18
  refine Code.wp_mono (Q := QS w ⟨kind, s, n, mask, okind, a, b, A, p, c, path, owner, text⟩ ⟨kind', s', n', mask', okind', a', b', A', p', c', path', owner', text'⟩) (fun _ _ _ h => h) ?_
  refine id (show Code.wp Tryd.prog (tlS 0) _ _ _ from ?_)
  rw [show tlS 0 = Code.seq (cmpS 0) (Code.seq (cmpS 1) (tlS 2)) from rfl]
  conv => arg 2; arg 1; whnf
  conv => arg 2; arg 2; arg 1; whnf
  go_upto_region 1 with fail
  rw [HW0.out]
  go_upto_region 2 with fail
  go_loopw [5] (fun i wr => ∃ k : Nat, (k ≤ p ∧ k ≤ p') ∧ i = .int .i64 k ∧ Hid (Below W0.heap.size W0 wr ∧ ∀ j (h1 : j < path.length) (h2 : j < path'.length), j < k → path[j] = path'[j])) (fun i _ => p - (intOf i).toNat)
  case atStart => exact ⟨0, by omega, rfl, hide ⟨Below.refl _ _, fun j _ _ h => absurd h (Nat.not_lt_zero _)⟩⟩
  case round =>
    obtain ⟨k, ⟨hk1, hk2⟩, rfl, HI⟩ := hrel
    have b1 := HK1.out.below HI.out.1 HK1.out.lt
    have b2 := HK2.out.below HI.out.1 HK2.out.lt
    have k1 := b1.cell; have z1 := b1.lt
    have k2 := b2.cell; have z2 := b2.lt
    clear b1 b2
    by_cases hlt : k < p ∧ k < p'
    · obtain ⟨h1, h2⟩ := hlt
      have h1I : (k : Int) < p := by omega
      have h2I : (k : Int) < p' := by omega
      obtain ⟨g1, o1, rfl, hg1, hc1⟩ := (HX.out.below (HI.out.1.mono HB0.out.size)).at (fun _ => rfl) (by omega) (by omega)
      obtain ⟨g2, o2, rfl, hg2, hc2⟩ := (HY.out.below (HI.out.1.mono HB0.out.size)).at (fun _ => rfl) (by omega) (by omega)
      have hp1 : k < path.length := by rw [HXL.out]; exact h1
      have hp2 : k < path'.length := by rw [HYL.out]; exact h2
      have r0 := hc1 k hp1 0 _ rfl
      have r1 := hc1 k hp1 1 _ rfl
      have s0 := hc2 k hp2 0 _ rfl
      have s1 := hc2 k hp2 1 _ rfl
      obtain ⟨q1, hq1⟩ : ∃ q, path[k] = q := ⟨_, rfl⟩
      obtain ⟨q2, hq2⟩ : ∃ q, path'[k] = q := ⟨_, rfl⟩
      rw [hq1] at r0 r1
      rw [hq2] at s0 s1
      have HQ1 := hide hq1
      have HQ2 := hide hq2
      obtain ⟨xa, xb⟩ := q1
      obtain ⟨ya, yb⟩ := q2
      simp only [Nat.add_zero] at r0 r1 s0 s1
      have zg1 : g1 < wr.heap.size := by have := HI.out.1.size; have := HB0.out.size; omega
      have zg2 : g2 < wr.heap.size := by have := HI.out.1.size; have := HB0.out.size; omega
      clear hc1 hc2 hq1 hq2 hg1 hg2
      have hgt : Tryd.prog.eqGuardType Tryd.prog.depth TPt = false := by kernel_rfl
      have heq := fun w1 => eq_pt xa xb ya yb w1
      obtain ⟨t, ht⟩ : ∃ t, (xa == ya && xb == yb) = t := ⟨_, rfl⟩
      rw [ht] at heq
      have HT := hide ht
      clear ht
      go_upto_region 4 with fail
      go_quiet (fail)
      have hnext : t = true → ∀ j (h1 : j < path.length) (h2 : j < path'.length), j < k + 1 → path[j] = path'[j] := by
        intro he j g1 g2 hj
        rcases Nat.lt_or_ge j k with h | h
        · exact HI.out.2 j g1 g2 h
        · have : j = k := by omega
          subst this
          have ht := HT.out
          rw [he] at ht
          simp at ht
          rw [HQ1.out, HQ2.out, ht.1, ht.2]
      have hno : t = false → (⟨kind, s, n, mask, okind, a, b, some ⟨g1, o1, none⟩, p, c, path, owner, text⟩ : Ac).bare ≠ (⟨kind', s', n', mask', okind', a', b', some ⟨g2, o2, none⟩, p', c', path', owner', text'⟩ : Ac).bare := by
        intro he e
        have hpp : path = path' := congrArg Ac.path e
        subst hpp
        have h3 := HQ1.out.symm.trans HQ2.out
        injection h3 with h4 h5
        have ht := HT.out
        rw [he, h4, h5] at ht
        simp at ht
      have HNX := hide hnext
      have HNO := hide hno
      clear hnext hno
      cases t
      · have HR := hide (SmP.no (HNO.out rfl))
        have HBB := hide ((HB0.out.trans (HI.out.1.mono HB0.out.size)).trans ((bdn wr nq).mono (by have := HB0.out.size; have := HI.out.1.size; omega)))
        go_wp2_with fail
        refine bodyPost_ret (v := .bool false) (by simp [results, Tryd.results18, go_sem]) rfl ⟨HR.out, HBB.out⟩
      · have HE := hide (HNX.out rfl)
        have HBB := hide (HI.out.1.trans ((bdn wr nq).mono HI.out.1.size))
        go_wp2_with fail
        go_roundw
        case rel => exact ⟨k + 1, by omega, by go_num, hide ⟨HBB.out, HE.out⟩⟩
        case measure => simp [intOf]; omega
    · have HBB := hide (HB0.out.trans (HI.out.1.mono HB0.out.size))
      have HPE := hide (show p = p' → path = path' from fun e => path_eq (by rw [HXL.out, HYL.out, e]) (fun j g1 g2 => HI.out.2 j g1 g2 (by have := HXL.out; have := HYL.out; omega)))
      have HB1 := hide (HK1.out.below HI.out.1 HK1.out.lt)
      have HB2 := hide (HK2.out.below HI.out.1 HK2.out.lt)
      by_cases h1 : k < p
      · have h1I : (k : Int) < p := by omega
        have h2I : ¬ (k : Int) < p' := by omega
        go_wp2_with fail
        exact same_end w wr kind s n mask okind a b A p c path owner text kind' s' n' mask' okind' a' b' A' p' c' path' owner' text' _ _ _ _ _ _ _ _ _ _ _ _ _ _ _ _ _ _ _ _ _ _ _ _ _ _ _ _ _ _ _ _ _ _ _ _ _ _ _ _ _ _ _ _ _ _ _ _ _ _ _ _ _ _ _ _ _ _ _ _ _ _ _ _ _ _ _ _ _ _ _ _ _ _ _ _ _ _ _ _ _ _ _ _ _ _ _ _ _ _ _ _ _ _ _ _ _ _ _ _ _ _ _ _ _ _ _ _ _ _ _ HB1.out HB2.out HPE.out HBB.out
      · have h1I : ¬ (k : Int) < p := by omega
        go_wp2_with fail
        exact same_end w wr kind s n mask okind a b A p c path owner text kind' s' n' mask' okind' a' b' A' p' c' path' owner' text' _ _ _ _ _ _ _ _ _ _ _ _ _ _ _ _ _ _ _ _ _ _ _ _ _ _ _ _ _ _ _ _ _ _ _ _ _ _ _ _ _ _ _ _ _ _ _ _ _ _ _ _ _ _ _ _ _ _ _ _ _ _ _ _ _ _ _ _ _ _ _ _ _ _ _ _ _ _ _ _ _ _ _ _ _ _ _ _ _ _ _ _ _ _ _ _ _ _ _ _ _ _ _ _ _ _ _ _ _ _ _ HB1.out HB2.out HPE.out HBB.out
end Go.Proofs.YtcdhngppcpgojaaDoor
