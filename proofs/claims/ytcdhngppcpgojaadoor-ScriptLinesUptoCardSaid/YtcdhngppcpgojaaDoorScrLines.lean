/- The law ScriptLines returns true. -/
import Derived.Test.YtcdhngppcpgojaaDoorScrBk
namespace Go.Proofs.YtcdhngppcpgojaaDoor
set_option linter.unusedSimpArgs false
set_option linter.unusedVariables false
open Go.RowKit
/-- What line an act has, or why it has none. -/
def LE (x : Ac) : List UInt8 × Int := if x.good then (x.line, 0) else ([], 2)
theorem act_one (x : Ac) (w : World) (h : x.Ok w w.heap.size) (hw : Wd w) (hp : x.p ≤ 1048576) (ho : x.owner.length ≤ 1048576) (ht : x.text.length ≤ 1048576) :
    Calls Tryd.prog 15 #[.agg x.cells] w fun e w' => e = .returned (.tuple #[str (LE x).1, .int .i64 (LE x).2]) ∧ Below w.heap.size w w' := by
  unfold LE
  by_cases hg : x.good
  · rw [if_pos hg]
    exact act_ok x w h hg hw.t hw.k hw.g (by omega) (by have := line_len h hg ht; omega)
  · rw [if_neg hg]
    exact act_bad x w hg (by omega) (by omega)
theorem ract_one (x : Ac) (w : World) (h : x.Ok w w.heap.size) (hp : x.p ≤ 1048576) (ho : x.owner.length ≤ 1048576) (ht : x.text.length ≤ 1048576) :
    Calls Tryd.prog 16 #[.agg x.cells] w fun e w' => e = .returned (.tuple #[str (LE x).1, .bool (decide x.good)]) ∧ Below w.heap.size w w' := by
  unfold LE
  by_cases hg : x.good
  · rw [if_pos hg, decide_eq_true hg]
    exact ract_any x w h hg (by omega)
  · rw [if_neg hg, decide_eq_false hg]
    exact ract_bad x w hg (by omega) (by omega)
theorem Ac.Ok.at_ {x : Ac} {w w' : World} {B base : Nat} {A : Option Addr} {c : Nat} (h : x.Ok w B) (hp : Pth w' base (x.at_ A c)) : (x.at_ A c).Ok w' w'.heap.size := by
  obtain ⟨A2, c2, e, _, _, hs⟩ := Sl.of_owns (l := x.path) (n := x.p) (enc := pEnc) hp rfl h.sl.1 rfl
  injection e with e1 _ _
  refine ⟨h.h0, h.h1, h.h2, h.h3, h.h4, h.h5, h.h6, ?_, h.hp⟩
  show Sl 2 pEnc w' w'.heap.size A x.p x.path
  rw [show A = A2 from e1]
  exact hs
theorem LE_at (x : Ac) (A : Option Addr) (c : Nat) : LE (x.at_ A c) = LE x := rfl
structure LiS (w : World) (x y : Ac) (wr : World) : Prop where
  b : Below w.heap.size w wr
  k1 : Blk wr w.heap.size TAct x.cells
  k2 : Blk wr (w.heap.size + 1) TAct y.cells
theorem LiS.later {w wr w' : World} {x y : Ac} (h : LiS w x y wr) (hb : Below wr.heap.size wr w') : LiS w x y w' := ⟨h.b.trans (hb.mono h.b.size), h.k1.below hb h.k1.lt, h.k2.below hb h.k2.lt⟩
theorem Wt.top {base : Nat} {w : World} (h : Wt base w) : Wt w.heap.size w := ⟨h.t, h.k, h.e1, h.e2, h.m, Nat.le_trans h.b9 h.bw, Nat.le_refl _⟩
set_option maxRecDepth 100000 in
set_option maxHeartbeats 4000000 in
theorem lines_any (x y : Ac) (w : World) (ht : Wt w.heap.size w) (hx : x.Ok w w.heap.size) (hy : y.Ok w w.heap.size) (x1 : x.p ≤ 1048576) (x2 : x.owner.length ≤ 1048576) (x3 : x.text.length ≤ 1048576) (y1 : y.p ≤ 1048576) (y2 : y.owner.length ≤ 1048576) (y3 : y.text.length ≤ 1048576) :
    Calls Tryd.prog 5 #[.agg x.cells, .agg y.cells] w fun e w' => e = .returned (.bool true) ∧ Below w.heap.size w w' := by
  obtain ⟨W0, hW0, hk1, hk2, hb0⟩ : ∃ W0, (w.alloc (Obj.cells x.cells TAct)).alloc (Obj.cells y.cells TAct) = W0 ∧ Blk W0 w.heap.size TAct x.cells ∧ Blk W0 (w.heap.size + 1) TAct y.cells ∧ Below w.heap.size w W0 :=
    ⟨_, rfl, (Blk.new _ _ _).alloc _, by have := Blk.new (w.alloc (Obj.cells x.cells TAct)) TAct y.cells; simpa using this, ((Below.refl _ _).alloc (Nat.le_refl _) _).alloc (by simp) _⟩
  have HX := hide hx
  have HY := hide hy
  have HT := hide ht
  have HSX := hide (show x.p ≤ 1048576 ∧ x.owner.length ≤ 1048576 ∧ x.text.length ≤ 1048576 from ⟨x1, x2, x3⟩)
  have HSY := hide (show y.p ≤ 1048576 ∧ y.owner.length ≤ 1048576 ∧ y.text.length ≤ 1048576 from ⟨y1, y2, y3⟩)
  have HBW := hide (show LiS w x y W0 from ⟨hb0, hk1, hk2⟩)
  have HW0 := hide hW0
  have hwd : ∀ W, Below w.heap.size w W → Wd W := fun W h => (ht.below h).wd
  have HWD := hide hwd
  obtain ⟨X, hX⟩ : ∃ X, x.cells = X := ⟨_, rfl⟩
  obtain ⟨Y, hY⟩ : ∃ Y, y.cells = Y := ⟨_, rfl⟩
  clear hx hy ht x1 x2 x3 y1 y2 y3 hk1 hk2 hb0 hW0 hwd hX hY X Y
  obtain ⟨kind, s, n, mask, okind, a, b, A, p, c, path, owner, text⟩ := x
  obtain ⟨kind', s', n', mask', okind', a', b', A', p', c', path', owner', text'⟩ := y
  unfold Ac.cells at HW0 ⊢
  simp only at HW0 ⊢
  go_enter Tryd.func5, Tryd.ntmps5
  obtain ⟨L1, hL1⟩ : ∃ L, LE ⟨kind, s, n, mask, okind, a, b, A, p, c, path, owner, text⟩ = L := ⟨_, rfl⟩
  obtain ⟨L2, hL2⟩ : ∃ L, LE ⟨kind', s', n', mask', okind', a', b', A', p', c', path', owner', text'⟩ = L := ⟨_, rfl⟩
  have HE1 := hide hL1
  have HE2 := hide hL2
  clear hL1 hL2
  go_upto_region 1 with fail
  rw [HW0.out]
  clear HW0
  have k1 := HBW.out.k1.cell; have z1 := HBW.out.k1.lt
  unfold Ac.cells at k1
  simp only at k1
  go_upto_region 2 with (first | (go_at_call 12; (refine (own_any ⟨kind, s, n, mask, okind, a, b, A, p, c, path, owner, text⟩ _ ((HX.out.below HBW.out.b).more HBW.out.b.size) HSX.out.1).mono ?_); rintro e w7 ⟨⟨A2, c2, rfl, hp7⟩, hb7⟩; simp only [Ac.cells, Ac.at_]; have HOK := hide (HX.out.at_ hp7); have HBW := hide (HBW.out.later hb7); clear hp7 hb7) | (go_at_call 15; (refine (act_one (Ac.at_ ⟨kind, s, n, mask, okind, a, b, A, p, c, path, owner, text⟩ A2 c2) _ HOK.out (HWD.out _ HBW.out.b) HSX.out.1 HSX.out.2.1 HSX.out.2.2).mono ?_); rintro e w8 ⟨rfl, hb8⟩; rw [LE_at, HE1.out]; have HBW := hide (HBW.out.later hb8); clear hb8))
  clear k1 z1
  have k1 := HBW.out.k2.cell; have z1 := HBW.out.k2.lt
  unfold Ac.cells at k1
  simp only at k1
  go_upto_region 3 with (first | (go_at_call 12; (refine (own_any ⟨kind', s', n', mask', okind', a', b', A', p', c', path', owner', text'⟩ _ ((HY.out.below HBW.out.b).more HBW.out.b.size) HSY.out.1).mono ?_); rintro e w7 ⟨⟨A2, c2, rfl, hp7⟩, hb7⟩; simp only [Ac.cells, Ac.at_]; have HOK := hide (HY.out.at_ hp7); have HBW := hide (HBW.out.later hb7); clear hp7 hb7) | (go_at_call 15; (refine (act_one (Ac.at_ ⟨kind', s', n', mask', okind', a', b', A', p', c', path', owner', text'⟩ A2 c2) _ HOK.out (HWD.out _ HBW.out.b) HSY.out.1 HSY.out.2.1 HSY.out.2.2).mono ?_); rintro e w8 ⟨rfl, hb8⟩; rw [LE_at, HE2.out]; have HBW := hide (HBW.out.later hb8); clear hb8))
  clear k1 z1
  have k1 := HBW.out.k1.cell; have z1 := HBW.out.k1.lt
  unfold Ac.cells at k1
  simp only at k1
  go_upto_region 4 with (go_at_call 16; (refine (ract_one ⟨kind, s, n, mask, okind, a, b, A, p, c, path, owner, text⟩ _ ((HX.out.below HBW.out.b).more HBW.out.b.size) HSX.out.1 HSX.out.2.1 HSX.out.2.2).mono ?_); rintro e w9 ⟨rfl, hb8⟩; rw [HE1.out]; have HBW := hide (HBW.out.later hb8); clear hb8)
  clear k1 z1
  have k1 := HBW.out.k2.cell; have z1 := HBW.out.k2.lt
  unfold Ac.cells at k1
  simp only at k1
  go_upto_region 5 with (go_at_call 16; (refine (ract_one ⟨kind', s', n', mask', okind', a', b', A', p', c', path', owner', text'⟩ _ ((HY.out.below HBW.out.b).more HBW.out.b.size) HSY.out.1 HSY.out.2.1 HSY.out.2.2).mono ?_); rintro e w9 ⟨rfl, hb8⟩; rw [HE2.out]; have HBW := hide (HBW.out.later hb8); clear hb8)
  clear k1 z1
  obtain ⟨g1, hg1⟩ : ∃ g, decide (Ac.good ⟨kind, s, n, mask, okind, a, b, A, p, c, path, owner, text⟩) = g := ⟨_, rfl⟩
  obtain ⟨g2, hg2⟩ : ∃ g, decide (Ac.good ⟨kind', s', n', mask', okind', a', b', A', p', c', path', owner', text'⟩) = g := ⟨_, rfl⟩
  rw [hg1, hg2]
  have HG1 := hide hg1
  have HG2 := hide hg2
  obtain ⟨l1, e1⟩ := L1
  obtain ⟨l2, e2⟩ := L2
  have hv1 : g1 = true → l1 = Ac.line ⟨kind, s, n, mask, okind, a, b, A, p, c, path, owner, text⟩ ∧ e1 = 0 := by
    intro h
    have := HE1.out
    unfold LE at this
    rw [if_pos (of_decide_eq_true (hg1.trans h))] at this
    injection this with a1 a2
    exact ⟨a1.symm, a2.symm⟩
  have hv2 : g2 = true → l2 = Ac.line ⟨kind', s', n', mask', okind', a', b', A', p', c', path', owner', text'⟩ ∧ e2 = 0 := by
    intro h
    have := HE2.out
    unfold LE at this
    rw [if_pos (of_decide_eq_true (hg2.trans h))] at this
    injection this with a1 a2
    exact ⟨a1.symm, a2.symm⟩
  have hn1 : g1 = false → e1 = 2 := by
    intro h
    have := HE1.out
    unfold LE at this
    rw [if_neg (of_decide_eq_false (hg1.trans h))] at this
    injection this with a1 a2
    exact a2.symm
  have hn2 : g2 = false → e2 = 2 := by
    intro h
    have := HE2.out
    unfold LE at this
    rw [if_neg (of_decide_eq_false (hg2.trans h))] at this
    injection this with a1 a2
    exact a2.symm
  have HV1 := hide hv1
  have HV2 := hide hv2
  have HA := hide (answers_any _ (HWD.out _ HBW.out.b))
  clear hg1 hg2 hv1 hv2
  simp only
  cases g1
  · obtain rfl := hn1 rfl
    clear hn1
    cases g2
    · obtain rfl := hn2 rfl
      clear hn2
      go_wp2_with (go_at_call 9; (refine HA.out.mono ?_); rintro e w10 ⟨rfl, hb⟩; have HBW := hide (HBW.out.later hb); clear hb)
      go_ret
      exact ⟨rfl, HBW.out.b⟩
    · obtain ⟨hl2, rfl⟩ := HV2.out rfl
      have HL2 := hide hl2
      clear hn2 hl2
      go_wp2_with (go_at_call 9; (refine HA.out.mono ?_); rintro e w10 ⟨rfl, hb⟩; have HBW := hide (HBW.out.later hb); clear hb)
      go_ret
      exact ⟨rfl, HBW.out.b⟩
  · obtain ⟨hl1, rfl⟩ := HV1.out rfl
    have HL1 := hide hl1
    clear hn1 hl1
    cases g2
    · obtain rfl := hn2 rfl
      clear hn2
      go_wp2_with (go_at_call 9; (refine HA.out.mono ?_); rintro e w10 ⟨rfl, hb⟩; have HBW := hide (HBW.out.later hb); clear hb)
      go_ret
      exact ⟨rfl, HBW.out.b⟩
    · obtain ⟨hl2, rfl⟩ := HV2.out rfl
      have HL2 := hide hl2
      clear hn2 hl2
      have HGX := hide (of_decide_eq_true HG1.out)
      have HGY := hide (of_decide_eq_true HG2.out)
      have hll : l1.length ≤ 600000000 := by rw [HL1.out]; exact line_len HX.out HGX.out HSX.out.2.2
      have HLL := hide hll
      clear hll
      go_upto_region 9 with (go_at_call 9; (refine HA.out.mono ?_); rintro e w10 ⟨rfl, hb⟩; have HBW := hide (HBW.out.later hb); clear hb)
      have k1 := HBW.out.k1.cell; have z1 := HBW.out.k1.lt
      have k2 := HBW.out.k2.cell; have z2 := HBW.out.k2.lt
      unfold Ac.cells at k1 k2
      simp only at k1 k2
      have HTA := hide (toact_any l1 _ ((HT.out.below HBW.out.b).top) HLL.out)
      clear k1 z1 k2 z2
      go_upto_region 10 with (go_at_call 17; (refine HTA.out.mono ?_); rintro e w11 ⟨hT, hb⟩; obtain ⟨y0, ok, rfl, hF⟩ := hT.form; have HF := hide hF; have HBW := hide (HBW.out.later hb); clear hT hF hb; obtain ⟨kind0, s0, n0, mask0, okind0, a0, b0, A0, p0, c0, path0, owner0, text0⟩ := y0; simp only [Ac.cells])
      have hps := parse_line ⟨kind, s, n, mask, okind, a, b, A, p, c, path, owner, text⟩ HGX.out HX.out
      rw [← HL1.out] at hps
      cases ok
      · exact absurd hps ((HF.out.no rfl).2 _)
      · obtain ⟨z, hz, hbz⟩ := HF.out.yes rfl
        have HBE := hide (hbz.trans (hz.same hps))
        clear hz hbz hps
        obtain ⟨g0, hg0⟩ : ∃ g, w11.heap.size = g := ⟨_, rfl⟩
        obtain ⟨W5, hW5, hk0, hbW, hbF⟩ : ∃ W5, w11.alloc (Obj.cells #[.int .i64 kind0, .int .i64 s0, .int .i64 n0, .int .u64 mask0, .int .i64 okind0, .int .i64 a0, .int .i64 b0, .slice A0 p0 c0, str owner0, str text0] TAct) = W5 ∧ Blk W5 g0 TAct #[.int .i64 kind0, .int .i64 s0, .int .i64 n0, .int .u64 mask0, .int .i64 okind0, .int .i64 a0, .int .i64 b0, .slice A0 p0 c0, str owner0, str text0] ∧ LiS w ⟨kind, s, n, mask, okind, a, b, A, p, c, path, owner, text⟩ ⟨kind', s', n', mask', okind', a', b', A', p', c', path', owner', text'⟩ W5 ∧ Below w11.heap.size w11 W5 :=
          ⟨_, rfl, by rw [← hg0]; exact Blk.new _ _ _, HBW.out.later ((Below.refl _ _).alloc (Nat.le_refl _) _), (Below.refl _ _).alloc (Nat.le_refl _) _⟩
        rw [hW5, hg0]
        have HBW := hide hbW
        have HK0 := hide hk0
        have k0 := hk0.cell; have z0 := hk0.lt
        have k1 := hbW.k1.cell; have z1 := hbW.k1.lt
        have k2 := hbW.k2.cell; have z2 := hbW.k2.lt
        unfold Ac.cells at k1 k2
        simp only at k1 k2
        have HM1 := hide (same_any ⟨kind0, s0, n0, mask0, okind0, a0, b0, A0, p0, c0, path0, owner0, text0⟩ ⟨kind, s, n, mask, okind, a, b, A, p, c, path, owner, text⟩ W5 (HF.out.sl hbF) ((HX.out.sl.below hbW.b).more hbW.b.size) ⟨by have : p0 ≤ 128 := HF.out.b; show p0 ≤ 4000000; omega, by have : p ≤ 1048576 := HSX.out.1; show p ≤ 4000000; omega⟩)
        unfold Ac.cells at HM1
        have hlq : ∃ t : Bool, (l1 == l2) = t ∧ (t = true ↔ Ac.bare ⟨kind, s, n, mask, okind, a, b, A, p, c, path, owner, text⟩ = Ac.bare ⟨kind', s', n', mask', okind', a', b', A', p', c', path', owner', text'⟩) := by
          refine ⟨_, rfl, ?_⟩
          rw [HL1.out, HL2.out]
          simp only [beq_iff_eq]
          exact ⟨fun h => line_inj HGX.out HGY.out HX.out HY.out h, fun h => line_bare h⟩
        obtain ⟨t, htq, hti⟩ := hlq
        have HTI := hide hti
        clear hg0 hW5 hk0 hbW hbF hti
        go_wp2_with (first | (go_at_call 18; (refine HM2.out.mono ?_); rintro e w13 ⟨⟨t2, rfl, ht2⟩, hb⟩; obtain rfl : t2 = t := Bool.eq_iff_iff.2 (ht2.trans HTI.out.symm); have HBW := hide (HBW.out.later hb); clear ht2 hb) | (go_at_call 18; (refine HM1.out.mono ?_); rintro e w12 ⟨⟨t1, rfl, ht1⟩, hb⟩; obtain rfl := ht1.2 HBE.out; have HBW := hide (HBW.out.later hb); have HM2 := hide (same_any ⟨kind, s, n, mask, okind, a, b, A, p, c, path, owner, text⟩ ⟨kind', s', n', mask', okind', a', b', A', p', c', path', owner', text'⟩ w12 ((HX.out.sl.below HBW.out.b).more HBW.out.b.size) ((HY.out.sl.below HBW.out.b).more HBW.out.b.size) ⟨by have : p ≤ 1048576 := HSX.out.1; show p ≤ 4000000; omega, by have : p' ≤ 1048576 := HSY.out.1; show p' ≤ 4000000; omega⟩); unfold Ac.cells at HM2; clear ht1 hb k0 z0 k1 z1 k2 z2; have k1 := HBW.out.k1.cell; have z1 := HBW.out.k1.lt; have k2 := HBW.out.k2.cell; have z2 := HBW.out.k2.lt; unfold Ac.cells at k1 k2; simp only at k1 k2))
        go_ret
        exact ⟨by simp, HBW.out.b⟩
end Go.Proofs.YtcdhngppcpgojaaDoor
