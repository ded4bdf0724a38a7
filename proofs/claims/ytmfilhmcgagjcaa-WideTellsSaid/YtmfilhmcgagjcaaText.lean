/- wide.Text: a number's decimal digits. -/
import Derived.Test.YtmfilhmcgagjcaaWideB
import Derived.Test.YtmfilhmcgagjcaaDiv
import Derived.Test.YtmfilhmcgagjcaaRev
import Derived.Test.YtmfilhmcgagjcaaTens
namespace Go.Proofs.Ytmfilhmcgagjcaa
set_option linter.unusedSimpArgs false
set_option linter.unusedVariables false
open Go.RowKit Go.Shelf
theorem div10v {v R : Nat} {H L : Int} (w : World) (hH : H = (v : Int) / 18446744073709551616) (hL : L = (v : Int) % 18446744073709551616) (hR : v % 10 = R) :
    Calls Try.prog 36 #[.int .u64 (H % 10), .int .u64 L, .int .u64 10] w fun e w' => e = .returned (.tuple #[.int .u64 (((v / 10 : Nat) : Int) % 18446744073709551616), .int .u64 (R : Int)]) ∧ Below w.heap.size w w' := by
  refine (div10 (H % 10) L w (by omega) (by omega) (by omega) (by omega)).mono ?_
  rintro e w' ⟨rfl, hb⟩
  refine ⟨ret_u2 ?_ ?_, hb⟩ <;> omega
theorem abs_words {x : I2} (hx : x.ok) {u v : Int} (h0 : ¬ x.hi < 0) (hu : IntKind.u64.wrap x.hi = u) :
    u = (x.num.natAbs : Int) / 18446744073709551616 ∧ x.lo = (x.num.natAbs : Int) % 18446744073709551616 := by
  rw [IntKind.wrap_u64] at hu
  unfold I2.ok at hx
  unfold I2.num
  omega
theorem neg_words {x : I2} (hx : x.ok) {u v : Int} (h0 : x.hi < 0) (hu : IntKind.u64.wrap (two (negW x.num)).hi = u) :
    u = (x.num.natAbs : Int) / 18446744073709551616 ∧ (two (negW x.num)).lo = (x.num.natAbs : Int) % 18446744073709551616 := by
  rw [IntKind.wrap_u64] at hu
  unfold I2.ok at hx
  unfold negW two I2.num at *
  simp only at *
  split at hu <;> (rename_i h; simp only [h, if_true, if_false]; omega)
structure TI (w W : World) (N v k : Nat) (H L : Int) (l : List UInt8) (out : Value) : Prop where
  len : l.length = k
  hH : H = (v : Int) / 18446744073709551616
  hL : L = (v : Int) % 18446744073709551616
  k39 : k ≤ 39
  lt : v < 10 ^ (39 - k)
  lf : left v l = rd N
  own : W.ownsRow w.heap.size 5 1 out k (bc l)
  bel : Below w.heap.size w W
  lim : v < 340282366920938463463374607431768211456
def slLen : Value → Nat
  | .slice _ n _ => n
  | _ => 0
theorem TI.first {w W : World} {N : Nat} {H L : Int} (hb : Below w.heap.size w W) (hN : N < 340282366920938463463374607431768211456) (h : H = (N : Int) / 18446744073709551616 ∧ L = (N : Int) % 18446744073709551616) : TI w W N N 0 H L [] (.slice none 0 0) :=
  ⟨rfl, h.1, h.2, by omega, by omega, left_first N, World.ownsRow_nil _ _ _ _, hb, hN⟩
theorem TI.nx {w W w1 w2 : World} {N v k R : Nat} {H L : Int} {l : List UInt8} {out out' : Value} (h : TI w W N v k H L l out) (hc : v = 0 → k = 0) (hR : v % 10 = R) (hb : Below W.heap.size W w1)
    (hg : (w1.alloc (.cells #[.int .u8 ((digit R).toNat : Int)] 5)).grownBy w2 out.ownBlock) (ho : w2.ownsRow w.heap.size 5 1 out' (k + 1) (bc (l ++ [digit R]))) :
    k < 39 ∧ TI w w2 N (v / 10) (k + 1) (H / 10) (((v / 10 : Nat) : Int) % 18446744073709551616) (l ++ [digit R]) out' := by
  have hk : k < 39 := by
    rcases Nat.lt_or_ge k 39 with h1 | h1
    · exact h1
    · have h2 := h.lt
      rw [show 39 - k = 0 by omega] at h2
      have := hc (by omega); omega
  have h1 := h.hH
  refine ⟨hk, by simp [h.len], by omega, rfl, by omega, ?_, ?_, ho, ?_, by have := h.lim; omega⟩
  · have h2 := h.lt
    rw [show 39 - k = (39 - (k + 1)) + 1 by omega, Nat.pow_succ] at h2
    omega
  · subst hR
    rw [left_step (fun e => List.eq_nil_of_length_eq_zero (by rw [h.len]; exact hc e))]
    exact h.lf
  · have hb2 : Below w.heap.size w (w1.alloc (.cells #[.int .u8 ((digit R).toNat : Int)] 5)) := bal (btr h.bel hb) _
    refine hb2.trans ⟨hg.os, hg.tape, hg.output, hg.size, fun j hj => hg.block j ?_ ?_⟩
    · have := hb2.size; omega
    · intro e
      have := own_block h.own j e.symm
      omega
theorem TI.out_ {w W : World} {N v k : Nat} {H L : Int} {l : List UInt8} {out : Value} (h : TI w W N v k H L l out) (hv : v = 0) (hk : k ≠ 0) : l = rd N := by
  rw [← h.lf, left_end hv (fun e => hk (by rw [← h.len, e]; rfl))]
theorem ti_ways {v k : Nat} {H L : Int} (hH : H = (v : Int) / 18446744073709551616) (hL : L = (v : Int) % 18446744073709551616) :
    ((decide (0 < H) = true ∨ (decide (0 < H) = false ∧ decide (0 < L) = true) ∨ (decide (0 < H) = false ∧ decide (0 < L) = false ∧ ((k : Int) == 0) = true)) ∧ (v = 0 → k = 0)) ∨ (decide (0 < H) = false ∧ decide (0 < L) = false ∧ ((k : Int) == 0) = false ∧ v = 0 ∧ k ≠ 0) := by
  simp only [decide_eq_true_iff, decide_eq_false_iff_not, beq_iff_eq, beq_eq_false_iff_ne]
  omega
theorem sl_of_own {w : World} {base n : Nat} {v : Value} {l : List Value} {E : TypeId} (h : w.ownsRow base E 1 v n l) : ∃ A c, v = .slice A n c := by
  rcases h.2 with ⟨rfl, rfl⟩ | ⟨g, cap, cur, rfl, _⟩
  · exact ⟨_, _, rfl⟩
  · exact ⟨_, _, rfl⟩
theorem TI.bounds {w W : World} {N v k : Nat} {H L : Int} {l : List UInt8} {out : Value} (h : TI w W N v k H L l out) : (0 ≤ H ∧ H < 18446744073709551616) ∧ 0 ≤ L ∧ L < 18446744073709551616 := by
  have h1 := h.hH; have h2 := h.hL
  have h3 := h.lim
  omega
theorem own_some {w : World} {base n c : Nat} {A : Option Addr} {l : List Value} {E : TypeId} (h : w.ownsRow base E 1 (.slice A n c) n l) (hn : n ≠ 0) : ∃ g, A = some ⟨g, 0, none⟩ ∧ base ≤ g ∧ w.ownsRow g E 1 (.slice A n c) n l := by
  rcases h.2 with ⟨_, h0⟩ | ⟨g, cap, cur, hv, hb, r⟩
  · exact absurd h0 hn
  · have hA : A = some ⟨g, 0, none⟩ := by injection hv
    exact ⟨g, hA, hb, h.1, .inr ⟨g, cap, cur, hv, Nat.le_refl _, r⟩⟩
theorem below_row {a w w' : World} {g : Nat} (h : Below a.heap.size a w) (hg : w.grownBy w' (some g)) (hb : a.heap.size ≤ g) : Below a.heap.size a w' :=
  h.trans ⟨hg.os, hg.tape, hg.output, hg.size, fun j hj => hg.block j (by have := h.size; omega) (by intro e; cases e; omega)⟩
theorem abs_lim {x : I2} (hx : x.ok) : x.num.natAbs < 340282366920938463463374607431768211456 := by
  unfold I2.ok at hx; unfold I2.num; omega
set_option maxHeartbeats 1000000 in
set_option maxRecDepth 100000 in
theorem text_pos (x : I2) (w : World) (hx : x.ok) (h0 : ¬ x.hi < 0) :
    Calls Try.prog 21 #[.agg #[.int .i64 x.hi, .int .u64 x.lo]] w fun e w' => e = .returned (.string ⟨(dec x.num.natAbs).toArray⟩) ∧ Below w.heap.size w w' := by
  obtain ⟨u, hu⟩ : ∃ u, IntKind.u64.wrap x.hi = u := ⟨_, rfl⟩
  have HW := hide (abs_words (v := 0) hx h0 hu)
  have HX := hide (abs_lim hx)
  have d0 : decide (x.hi < 0) = false := by simpa using h0
  clear hx
  go_enter Try.func21, Try.ntmps21
  go_wp2_with fail
  go_region
  go_wp2_with fail
  go_region
  go_wp2_with fail
  obtain ⟨W, hW, HB⟩ : ∃ W, ((w.alloc (Obj.cells #[Value.int IntKind.i64 x.hi, Value.int IntKind.u64 x.lo] 25)).alloc (Obj.cells #[Value.int IntKind.i64 x.hi, Value.int IntKind.u64 x.lo] 50)).drew.drew = W ∧ Hid (Below w.heap.size w W) := ⟨_, rfl, hide (by (repeat (first | exact Below.refl _ _ | refine Below.drew ?_ | refine Below.setCell ?_ (by simp; try omega) _ | refine bal ?_ _)))⟩
  rw [hW]
  clear hW
  go_loopw [5, 6, 7, 8] (fun hi lo out r wr => ∃ (v k : Nat) (H L : Int) (l : List UInt8) (A : Option Addr) (c : Nat), hi = .int .u64 H ∧ lo = .int .u64 L ∧ out = .slice A k c ∧ Hid (TI w wr x.num.natAbs v k H L l (.slice A k c))) (fun hi lo out r wr => 40 - slLen out)
  case atStart => exact ⟨_, 0, _, _, [], none, 0, rfl, rfl, rfl, hide (TI.first HB.out HX.out HW.out)⟩
  case round =>
    obtain ⟨v, k, H, L, l, A, c, rfl, rfl, rfl, HI⟩ := hrel
    obtain ⟨⟨H0, H1⟩, L0, L1⟩ := HI.out.bounds
    obtain ⟨R, hR⟩ : ∃ R, v % 10 = R := ⟨_, rfl⟩
    have HR := hide hR
    have R1 : R < 10 := by omega
    have hD := digit_nat R1
    have HD := hide (show ((digit R).toNat : Int) = 48 + (R : Int) by omega)
    clear hR hD
    rcases ti_ways (k := k) HI.out.hH HI.out.hL with ⟨d | ⟨d, d'⟩ | ⟨d, d', d''⟩, hc⟩ | ⟨d, d', d'', hv, hk⟩
    case inr =>
      have HF := hide (HI.out.out_ hv hk)
      have HL := hide HI.out.len
      obtain ⟨g, rfl, hgb, ho⟩ := own_some HI.out.own hk
      have HGB := hide hgb
      have HO := hide ho
      have k39 := HI.out.k39
      clear hv hk hgb ho
      go_wp2_with fail
      refine (rev_any g k c l _ HL.out (by omega) HO.out).mono ?_
      rintro e w3 ⟨rfl, hg3, ho3⟩
      have HB3 := hide (below_row HI.out.bel hg3 HGB.out)
      have hs := own_string ho3
      clear hg3 ho3
      go_wp2_with fail
      go_ret
      exact ⟨by rw [HF.out]; rfl, HB3.out⟩
    all_goals
      have HC := hide hc
      clear hc
      go_wp2_with fail
      refine (div10v _ HI.out.hH HI.out.hL HR.out).mono ?_
      rintro e w1 ⟨rfl, hb1⟩
      have HB1 := hide hb1
      have HO1 := hide (own_later HI.out.own hb1)
      have HZ := hide (Nat.le_trans HI.out.bel.size hb1.size)
      have hk := HI.out.k39
      clear hb1
      obtain ⟨L', hL'⟩ : ∃ L' : Int, ((v / 10 : Nat) : Int) % 18446744073709551616 = L' := ⟨_, rfl⟩
      have HL' := hide hL'
      rw [hL']
      clear hL'
      go_wp2_with (at_builtin; refine wpList_append_byte rfl (.tmp 45) (.tmp 49) rfl w.heap.size (.slice A k c) k l rfl (HO1.out.alloc _) w1.heap.size 1 (digit R) rfl (by rw [HD.out]; exact Blk.new _ _ _) (by omega) (by simp; exact Nat.le_succ_of_le HZ.out) ?_; intro v' w2 ho hg _)
      obtain ⟨A', c', rfl⟩ := sl_of_own ho
      rw [← HD.out] at hg
      have HN := hide (HI.out.nx HC.out HR.out HB1.out hg ho)
      rw [HL'.out] at HN
      clear hg ho hk
      go_wp2
      go_roundw
      case rel => exact ⟨_, _, _, _, _, _, _, rfl, rfl, rfl, hide HN.out.2⟩
      case measure => have := HN.out.1; simp [slLen]; omega
set_option maxHeartbeats 1000000 in
set_option maxRecDepth 100000 in
theorem text_neg (x : I2) (w : World) (hx : x.ok) (h0 : x.hi < 0) :
    Calls Try.prog 21 #[.agg #[.int .i64 x.hi, .int .u64 x.lo]] w fun e w' => e = .returned (.string ⟨(45 :: dec x.num.natAbs).toArray⟩) ∧ Below w.heap.size w w' := by
  have HE := hide hx
  obtain ⟨p, hp⟩ : ∃ p, (two (negW x.num)).hi = p := ⟨_, rfl⟩
  obtain ⟨q, hq⟩ : ∃ q, (two (negW x.num)).lo = q := ⟨_, rfl⟩
  obtain ⟨u, hu⟩ : ∃ u, IntKind.u64.wrap p = u := ⟨_, rfl⟩
  have HW := neg_words (v := 0) hx h0 (hp ▸ hu)
  rw [hq] at HW
  replace HW := hide HW
  have HP := hide hp
  have HQ := hide hq
  have HX := hide (abs_lim hx)
  have d0 : decide (x.hi < 0) = true := by simpa using h0
  have K2 := hide (Blk.two w #[Value.int IntKind.i64 x.hi, Value.int IntKind.u64 x.lo] #[Value.int IntKind.i64 x.hi, Value.int IntKind.u64 x.lo] 25 50)
  clear hx hp hq
  go_enter Try.func21, Try.ntmps21
  go_wp2_with fail
  go_region
  go_wp2_with fail
  refine (neg_any x _ HE.out).mono ?_
  rintro e w1 ⟨rfl, hb1⟩
  rw [HP.out, HQ.out]
  have HB1 : Hid (Below w.heap.size w w1) := hide (btr (a := w) (by (repeat (first | exact Below.refl _ _ | refine Below.drew ?_ | refine Below.setCell ?_ (by simp; try omega) _ | refine bal ?_ _))) hb1)
  have HK := hide (K2.out.drew.below hb1 (by simp))
  have k2 := HK.out.cell
  have q2 := HK.out.frozen
  have z2 := HK.out.lt
  clear hb1
  go_wp2_with fail
  go_region
  go_wp2_with fail
  obtain ⟨W, hW, HB⟩ : ∃ W, ((w1.setCell ⟨w.heap.size + 1, 0, none⟩ (Value.int IntKind.i64 p)).setCell ⟨w.heap.size + 1, 1, none⟩ (Value.int IntKind.u64 q)).drew = W ∧ Hid (Below w.heap.size w W) := ⟨_, rfl, hide (((HB1.out.setCell (by simp) _).setCell (by simp) _).drew)⟩
  rw [hW]
  clear hW k2 q2 z2
  go_loopw [5, 6, 7, 8] (fun hi lo out r wr => ∃ (v k : Nat) (H L : Int) (l : List UInt8) (A : Option Addr) (c : Nat), hi = .int .u64 H ∧ lo = .int .u64 L ∧ out = .slice A k c ∧ Hid (TI w wr x.num.natAbs v k H L l (.slice A k c))) (fun hi lo out r wr => 40 - slLen out)
  case atStart => exact ⟨_, 0, _, _, [], none, 0, rfl, rfl, rfl, hide (TI.first HB.out HX.out HW.out)⟩
  case round =>
    obtain ⟨v, k, H, L, l, A, c, rfl, rfl, rfl, HI⟩ := hrel
    obtain ⟨⟨H0, H1⟩, L0, L1⟩ := HI.out.bounds
    obtain ⟨R, hR⟩ : ∃ R, v % 10 = R := ⟨_, rfl⟩
    have HR := hide hR
    have R1 : R < 10 := by omega
    have hD := digit_nat R1
    have HD := hide (show ((digit R).toNat : Int) = 48 + (R : Int) by omega)
    clear hR hD
    rcases ti_ways (k := k) HI.out.hH HI.out.hL with ⟨d | ⟨d, d'⟩ | ⟨d, d', d''⟩, hc⟩ | ⟨d, d', d'', hv, hk⟩
    case inr =>
      have HF := hide (HI.out.out_ hv hk)
      have HL := hide HI.out.len
      have HO := hide HI.out.own
      have HZ := hide HI.out.bel.size
      have k39 := HI.out.k39
      clear hv hk
      go_wp2_with (at_builtin; refine wpList_append_byte rfl (.tmp 52) (.tmp 53) rfl w.heap.size (.slice A k c) k l rfl (HO.out.alloc _) wr.heap.size 1 45 rfl (Blk.new _ _ _) (by omega) (by simp; exact Nat.le_succ_of_le HZ.out) ?_; intro v' w2 ho hg _)
      obtain ⟨A', c', rfl⟩ := sl_of_own ho
      have HB2 : Hid (Below w.heap.size w w2) := hide (by
        have hb2 := bal HI.out.bel (Obj.cells #[Value.int IntKind.u8 45] 5)
        refine hb2.trans ⟨hg.os, hg.tape, hg.output, hg.size, fun j hj => hg.block j ?_ ?_⟩
        · have := hb2.size; omega
        · intro e; have := own_block HO.out j e.symm; omega)
      obtain ⟨g, rfl, hgb, ho2⟩ := own_some ho (by omega)
      have HGB := hide hgb
      have HO2 := hide ho2
      clear hgb ho2 ho hg
      go_wp2_with fail
      refine (rev_any g (k + 1) c' (l ++ [45]) _ (by simp [HL.out]) (by omega) HO2.out).mono ?_
      rintro e w3 ⟨rfl, hg3, ho3⟩
      have HB3 := hide (below_row HB2.out hg3 HGB.out)
      have hs := own_string ho3
      clear hg3 ho3
      go_wp2_with fail
      go_ret
      exact ⟨by rw [HF.out]; simp [dec], HB3.out⟩
    all_goals
      have HC := hide hc
      clear hc
      go_wp2_with fail
      refine (div10v _ HI.out.hH HI.out.hL HR.out).mono ?_
      rintro e w1 ⟨rfl, hb1⟩
      have HB1 := hide hb1
      have HO1 := hide (own_later HI.out.own hb1)
      have HZ := hide (Nat.le_trans HI.out.bel.size hb1.size)
      have hk := HI.out.k39
      clear hb1
      obtain ⟨L', hL'⟩ : ∃ L' : Int, ((v / 10 : Nat) : Int) % 18446744073709551616 = L' := ⟨_, rfl⟩
      have HL' := hide hL'
      rw [hL']
      clear hL'
      go_wp2_with (at_builtin; refine wpList_append_byte rfl (.tmp 45) (.tmp 49) rfl w.heap.size (.slice A k c) k l rfl (HO1.out.alloc _) w1.heap.size 1 (digit R) rfl (by rw [HD.out]; exact Blk.new _ _ _) (by omega) (by simp; exact Nat.le_succ_of_le HZ.out) ?_; intro v' w2 ho hg _)
      obtain ⟨A', c', rfl⟩ := sl_of_own ho
      rw [← HD.out] at hg
      have HN := hide (HI.out.nx HC.out HR.out HB1.out hg ho)
      rw [HL'.out] at HN
      clear hg ho hk
      go_wp2
      go_roundw
      case rel => exact ⟨_, _, _, _, _, _, _, rfl, rfl, rfl, hide HN.out.2⟩
      case measure => have := HN.out.1; simp [slLen]; omega
theorem text_any (x : I2) (w : World) (hx : x.ok) :
    Calls Try.prog 21 #[.agg #[.int .i64 x.hi, .int .u64 x.lo]] w fun e w' => e = .returned (.string ⟨(txt x.num).toArray⟩) ∧ Below w.heap.size w w' := by
  by_cases h0 : x.hi < 0
  · have hn : x.num < 0 := by unfold I2.ok at hx; unfold I2.num; omega
    have := text_neg x w hx h0
    unfold txt; rw [if_pos hn]; exact this
  · have hn : ¬ x.num < 0 := by unfold I2.ok at hx; unfold I2.num; omega
    have := text_pos x w hx h0
    unfold txt; rw [if_neg hn]; exact this
end Go.Proofs.Ytmfilhmcgagjcaa
