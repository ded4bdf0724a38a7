/- The reference's Text. -/
import Derived.Test.YtmfilhmcgagjcaaWideTe
import Derived.Test.YtmfilhmcgagjcaaTens
import Derived.Test.YtmfilhmcgagjcaaEnv
import Derived.Test.YtmfilhmcgagjcaaText
import Derived.Test.YtmfilhmcgagjcaaWideF
import Derived.Deep.CutRange
import Derived.Outline
import Derived.ChangeKeysEq
namespace Go.Proofs.Ytmfilhmcgagjcaa
set_option linter.unusedSimpArgs false
set_option linter.unusedVariables false
open Go.RowKit Go.Shelf
theorem quo_div (v : Int) : ∀ k, quo (v / 10) k = quo v k / 10
  | 0 => rfl
  | k + 1 => by simp only [quo]; rw [quo_div v k]; omega
theorem limb_div (v : Int) (m : Nat) : ((quo v (m + 1) % 10) * 4294967296 + dg v m) / 10 = dg (v / 10) m ∧ ((quo v (m + 1) % 10) * 4294967296 + dg v m) % 10 = quo v m % 10 := by
  unfold dg
  rw [quo_div]
  have e : quo v (m + 1) = quo v m / 4294967296 := rfl
  rw [e]
  omega
def half (v : Int) (j t : Nat) : Int := if j ≤ t then dg (v / 10) t else dg v t
theorem half_0 (v : Int) : cs5 (half v 0) = cs5 (dg (v / 10)) := cs5_congr fun i _ => by unfold half; rw [if_pos (by omega)]
theorem half_5 (v : Int) : cs5 (half v 5) = cs5 (dg v) := cs5_congr fun i hi => by unfold half; rw [if_neg (by omega)]
theorem half_step (v : Int) {m : Nat} (hm : m < 5) : (cs5 (half v (m + 1))).setIfInBounds m (.int .u32 (dg (v / 10) m)) = cs5 (half v m) := by
  rw [cs5_set _ hm]
  refine cs5_congr fun i _ => ?_
  unfold half
  by_cases h : i = m
  · subst h; simp
  · by_cases h2 : m + 1 ≤ i
    · simp [h, h2, show m ≤ i by omega]
    · simp [h, h2, show ¬ m ≤ i by omega]
theorem half_at (v : Int) (m : Nat) : half v (m + 1) m = dg v m := by unfold half; rw [if_neg (by omega)]
theorem zero_limbs {v : Nat} (hv : v < 340282366920938463463374607431768211456) :
    (v ≠ 0 ∧ ((dg v 0 == 0) = false ∨ ((dg v 0 == 0) = true ∧ (dg v 1 == 0) = false) ∨ ((dg v 0 == 0) = true ∧ (dg v 1 == 0) = true ∧ (dg v 2 == 0) = false) ∨ ((dg v 0 == 0) = true ∧ (dg v 1 == 0) = true ∧ (dg v 2 == 0) = true ∧ (dg v 3 == 0) = false))) ∨
    (v = 0 ∧ (dg v 0 == 0) = true ∧ (dg v 1 == 0) = true ∧ (dg v 2 == 0) = true ∧ (dg v 3 == 0) = true ∧ (dg v 4 == 0) = true) := by
  simp only [beq_iff_eq, beq_eq_false_iff_ne]
  unfold dg
  simp only [quo]
  omega
structure TX (w W : World) (g : Nat) (x : I2) (N v k : Nat) (l : List UInt8) : Prop where
  len : l.length = k
  k39 : k ≤ 39
  lt : v < 10 ^ (39 - k)
  lf : left v l = rd N
  bel : Below w.heap.size w W
  gw : w.heap.size < g
  bx : Blk W w.heap.size 25 #[.int .i64 x.hi, .int .u64 x.lo]
  blk : Blk W g 54 (cs5 (dg v))
  lim : v < 340282366920938463463374607431768211456
structure INR (w W : World) (g : Nat) (x : I2) (v j : Nat) : Prop where
  bel : Below w.heap.size w W
  gw : w.heap.size < g
  bx : Blk W w.heap.size 25 #[.int .i64 x.hi, .int .u64 x.lo]
  blk : Blk W g 54 (cs5 (half v j))
theorem INR.step {w W : World} {g v m : Nat} {x : I2} (h : INR w W g x v (m + 1)) (hm : m < 5) {y : Int} (hy : y = dg ((v : Int) / 10) m) : INR w (W.setCell ⟨g, m, none⟩ (.int .u32 y)) g x v m := by
  have h1 := h.gw
  refine ⟨h.bel.setCell (by simp; omega) _, h1, h.bx.far (p := ⟨g, m, none⟩) (by simp; omega) _, ?_⟩
  subst hy
  have := h.blk.set_ m (.int .u32 (dg ((v : Int) / 10) m))
  rw [half_step v hm] at this
  exact this
theorem INR.first {w W : World} {g v k N : Nat} {x : I2} {l : List UInt8} (h : TX w W g x N v k l) : INR w W g x v 5 :=
  ⟨h.bel, h.gw, h.bx, by rw [half_5]; exact h.blk⟩
theorem rest_5 {v : Nat} (hv : v < 340282366920938463463374607431768211456) : (0 : Int) = quo (v : Int) 5 % 10 := by simp only [quo]; omega
def stLen : Value → Nat
  | .string s => s.size
  | _ => 0
theorem eq5 (f : Nat → Int) (w : World) : (Op.equalIn 10000 54 (.agg #[.int .u32 (f 0), .int .u32 (f 1), .int .u32 (f 2), .int .u32 (f 3), .int .u32 (f 4)]) (.agg #[.int .u32 0, .int .u32 0, .int .u32 0, .int .u32 0, .int .u32 0])).run Try.prog w =
    .ok (f 0 == 0 && (f 1 == 0 && (f 2 == 0 && (f 3 == 0 && f 4 == 0)))) w := by
  cases hi : Try.prog.info? 52 with
  | none =>
    have hs : (Try.prog.info? 52).isSome = true := by kernel_rfl
    rw [hi] at hs; cases hs
  | some i0 =>
    rw [run_equalIn_array w 9999 _ _ Try.underlying54 hi]
    have hc : Try.prog.cellsOf 52 = 1 := by kernel_rfl
    rw [hc]
    cases h0 : (f 0 == 0) <;> cases h1 : (f 1 == 0) <;> cases h2 : (f 2 == 0) <;> cases h3 : (f 3 == 0) <;> cases h4 : (f 4 == 0) <;>
      simp [List.range, List.range.loop, Op.eqItems, go_sem, h0, h1, h2, h3, h4]
def L5 (v : Nat) : Value := .agg #[.int .u32 (dg v 0), .int .u32 (dg v 1), .int .u32 (dg v 2), .int .u32 (dg v 3), .int .u32 (dg v 4)]
theorem eqz {v : Nat} (hv : v < 340282366920938463463374607431768211456) {z : Bool} (hz : decide (v = 0) = z) (w : World) : (Op.equalIn 10000 54 (.agg #[.int .u32 (dg v 0), .int .u32 (dg v 1), .int .u32 (dg v 2), .int .u32 (dg v 3), .int .u32 (dg v 4)]) (.agg #[.int .u32 0, .int .u32 0, .int .u32 0, .int .u32 0, .int .u32 0])).run Try.prog w = .ok z w := by
  rw [eq5 (dg v) w]
  congr 1
  rw [← hz, Bool.eq_iff_iff]
  simp only [Bool.and_eq_true, beq_iff_eq, decide_eq_true_iff]
  unfold dg
  simp only [quo]
  omega
theorem empty_of {k : Nat} {l : List UInt8} {S : ByteArray} (hl : l.length = k) (hS : S = ⟨l.reverse.toArray⟩) : S.toList.isEmpty = decide (k = 0) := by
  have hSl : S.toList = l.reverse := by rw [hS, ByteArray.toList_eq]
  rw [hSl]
  cases l with
  | nil => simp at hl; subst hl; rfl
  | cons a l => rw [decide_eq_false (by simp at hl; omega)]; simp
theorem dig_str {W : World} {b : UInt8} {c : Int} (hc : c = (b.toNat : Int)) : (convert 61 9 (.slice (some ⟨W.heap.size, 0, none⟩) 1 1)).run Try.prog (W.alloc (Obj.cells #[.int .u8 c] 5)) = .ok (.string ⟨#[b]⟩) (W.alloc (Obj.cells #[.int .u8 c] 5)) := by
  subst hc
  exact own_string (base := 0) (l := [b]) (World.ownsRow_lit W #[.int .u8 (b.toNat : Int)] 1 (Nat.zero_le _) (by unfold maxLen; omega) rfl)
theorem set5 {W : World} {g : Nat} {A f : Nat → Int} (h : Blk W g 54 (cs5 A)) :
    Blk (((((W.setCell ⟨g, 0, none⟩ (.int .u32 (f 0))).setCell ⟨g, 1, none⟩ (.int .u32 (f 1))).setCell ⟨g, 2, none⟩ (.int .u32 (f 2))).setCell ⟨g, 3, none⟩ (.int .u32 (f 3))).setCell ⟨g, 4, none⟩ (.int .u32 (f 4))) g 54 (cs5 f) := by
  have h5 := ((((h.set_ 0 (.int .u32 (f 0))).set_ 1 (.int .u32 (f 1))).set_ 2 (.int .u32 (f 2))).set_ 3 (.int .u32 (f 3))).set_ 4 (.int .u32 (f 4))
  rw [cs5_set _ (by omega), cs5_set _ (by omega), cs5_set _ (by omega), cs5_set _ (by omega), cs5_set _ (by omega)] at h5
  rw [cs5_congr (g := f)] at h5
  · exact h5
  · intro i hi
    match i, hi with
    | 0, _ => rfl
    | 1, _ => rfl
    | 2, _ => rfl
    | 3, _ => rfl
    | 4, _ => rfl
theorem far5 {W : World} {g b : Nat} {t : TypeId} {cs : Array Value} {f : Nat → Int} (h : Blk W b t cs) (hne : b < g) :
    Blk (((((W.setCell ⟨g, 0, none⟩ (.int .u32 (f 0))).setCell ⟨g, 1, none⟩ (.int .u32 (f 1))).setCell ⟨g, 2, none⟩ (.int .u32 (f 2))).setCell ⟨g, 3, none⟩ (.int .u32 (f 3))).setCell ⟨g, 4, none⟩ (.int .u32 (f 4))) b t cs :=
  ((((h.far (p := ⟨g, 0, none⟩) (by simp; omega) _).far (p := ⟨g, 1, none⟩) (by simp; omega) _).far (p := ⟨g, 2, none⟩) (by simp; omega) _).far (p := ⟨g, 3, none⟩) (by simp; omega) _).far (p := ⟨g, 4, none⟩) (by simp; omega) _
theorem bel5 {w W : World} {g : Nat} {f : Nat → Int} (h : Below w.heap.size w W) (hne : w.heap.size < g) :
    Below w.heap.size w (((((W.setCell ⟨g, 0, none⟩ (.int .u32 (f 0))).setCell ⟨g, 1, none⟩ (.int .u32 (f 1))).setCell ⟨g, 2, none⟩ (.int .u32 (f 2))).setCell ⟨g, 3, none⟩ (.int .u32 (f 3))).setCell ⟨g, 4, none⟩ (.int .u32 (f 4))) :=
  ((((h.setCell (by simp; omega) _).setCell (by simp; omega) _).setCell (by simp; omega) _).setCell (by simp; omega) _).setCell (by simp; omega) _
theorem one_more {l : List UInt8} {S : ByteArray} {d : UInt8} (hS : S = ⟨l.reverse.toArray⟩) : (⟨#[d]⟩ ++ S : ByteArray) = ⟨(l ++ [d]).reverse.toArray⟩ := by
  subst hS
  rw [ByteArray.mk_append_mk]
  simp
theorem one_size {l : List UInt8} {S : ByteArray} {k : Nat} (hS : S = ⟨l.reverse.toArray⟩) (hl : l.length = k) (d : UInt8) : S.size = k ∧ (⟨#[d]⟩ ++ S : ByteArray).size = k + 1 := by
  rw [one_more hS]
  subst hS hl
  exact ⟨by simp [ByteArray.size], by simp [ByteArray.size]⟩
theorem TX.nx {w W W' : World} {g N v k : Nat} {x : I2} {l : List UInt8} (h : TX w W g x N v k l) (hlt : k < 39) (hc : v = 0 → k = 0) (hJ : INR w W' g x v 0) : TX w W' g x N (v / 10) (k + 1) (l ++ [digit (v % 10)]) := by
  refine ⟨by simp [h.len], by omega, ?_, ?_, hJ.bel, hJ.gw, hJ.bx, ?_, by have := h.lim; omega⟩
  · have h2 := h.lt
    rw [show 39 - k = (39 - (k + 1)) + 1 by omega, Nat.pow_succ] at h2
    omega
  · rw [left_step (fun e => List.eq_nil_of_length_eq_zero (by rw [h.len]; exact hc e))]
    exact h.lf
  · have := hJ.blk
    rw [half_0] at this
    exact this
theorem TX.alloc {w W : World} {g N v k : Nat} {x : I2} {l : List UInt8} (h : TX w W g x N v k l) (c : Obj) : TX w (W.alloc c) g x N v k l :=
  ⟨h.len, h.k39, h.lt, h.lf, bal h.bel c, h.gw, h.bx.alloc _, h.blk.alloc _, h.lim⟩
set_option maxRecDepth 100000 in
set_option maxHeartbeats 4000000 in
theorem rtext_any (x : I2) (w : World) (hx : x.ok) :
    Calls Try.prog 26 #[.agg #[.int .i64 x.hi, .int .u64 x.lo]] w fun e w' => e = .returned (.string ⟨(txt x.num).toArray⟩) ∧ Below w.heap.size w w' := by
  have HX := hide hx
  clear hx
  cases d0 : decide (x.hi < 0)
  · go_enter Try.func26, Try.ntmps26
    go_wp2_with fail
    refine (limbs_any x _ HX.out).mono ?_
    rintro e w1 ⟨rfl, hb1⟩
    have HB1 : Hid (Below w.heap.size w w1) := hide (btr (a := w) (by (repeat (first | exact Below.refl _ _ | refine Below.drew ?_ | refine Below.setCell ?_ (by simp; try omega) _ | refine bal ?_ _))) hb1)
    have HK1 := hide ((Blk.new w 25 #[.int .i64 x.hi, .int .u64 x.lo]).below hb1 (by simp))
    have k1 := HK1.out.cell
    have z1 := HK1.out.lt
    have hsz1 := hb1.size
    clear hb1
    have HT0 : Hid (TX w (w1.alloc (Obj.cells (cs5 (dg x.num)) 54)) w1.heap.size x x.num.natAbs x.num.natAbs 0 []) := hide
      ⟨rfl, by omega, by have := abs_lim HX.out; simp only [Nat.sub_zero]; omega, left_first _, bal HB1.out _, Nat.lt_of_lt_of_le (by simp) hsz1, HK1.out.alloc _, by
        have e : ((x.num.natAbs : Nat) : Int) = x.num := by have := HX.out; unfold I2.ok at this; simp at d0; unfold I2.num; omega
        rw [e]; exact Blk.new w1 _ (cs5 (dg x.num)), abs_lim HX.out⟩
    have HT : Hid (txt x.num = dec x.num.natAbs) := hide (by
      have := HX.out; unfold I2.ok at this; simp at d0
      unfold txt; rw [if_neg (by unfold I2.num; omega)])
    unfold cs5 at HT0 ⊢
    go_wp2_with fail
    go_loopw [4, 5, 6, 7] (fun o r i n wr => ∃ (v k : Nat) (l : List UInt8) (S : ByteArray), o = .string S ∧ Hid (S = ⟨l.reverse.toArray⟩) ∧ Hid (TX w wr w1.heap.size x x.num.natAbs v k l)) (fun o r i n _ => 40 - stLen o)
    case atStart => exact ⟨_, 0, [], _, rfl, hide rfl, HT0⟩
    case round =>
      obtain ⟨v, k, l, S, rfl, HS, HI⟩ := hrel
      clear HT0
      have k5 := HI.out.blk.cell
      have z5 := HI.out.blk.lt
      unfold cs5 at k5
      have hS1 : S.size < 40 := by have h1 := (one_size HS.out HI.out.len 0).1; have := HI.out.k39; omega
      have kx := HI.out.bx.cell
      have zx := HI.out.bx.lt
      have hem := empty_of HI.out.len HS.out
      by_cases hx : v = 0 ∧ k ≠ 0
      · have hz := eqz HI.out.lim (z := true) (by simpa using hx.1)
        rw [decide_eq_false hx.2] at hem
        have HF : Hid (l = rd x.num.natAbs) := hide (by rw [← HI.out.lf, left_end hx.1 (fun e => hx.2 (by rw [← HI.out.len, e]; rfl))])
        clear hx
        go_wp2_with fail
        go_ret
        exact ⟨by rw [HT.out]; unfold dec; rw [← HF.out, HS.out]; first | rfl | exact congrArg Value.string (ByteArray.mk_append_mk [45] l.reverse), HI.out.bel⟩
      · have HC : Hid (v = 0 → k = 0) := hide (fun h => by omega)
        have hlt : k < 39 := by
          have h1 := HI.out.lt; have h2 := HI.out.k39
          rcases Nat.lt_or_ge k 39 with h | h
          · exact h
          · rw [show 39 - k = 0 by omega] at h1; omega
        go_upto_region 5 with (fail)
        go_cut [21] from 15 to 21 (fun t W => t = .bool true ∧ Hid (TX w W w1.heap.size x x.num.natAbs v k l))
        case first =>
          by_cases hv : v = 0
          · have hz := eqz HI.out.lim (z := true) (by simpa using hv)
            rw [decide_eq_true (HC.out hv)] at hem
            clear hx hv
            go_wp2_with fail
            go_meet
            case rel => exact ⟨rfl, HI⟩
          · have hz := eqz HI.out.lim (z := false) (by simpa using hv)
            clear hx hv hem
            go_wp2_with fail
            go_meet
            case rel => exact ⟨rfl, HI⟩
        case rest =>
          obtain ⟨rfl, HI⟩ := hcut
          clear k5 z5 kx zx hem hx
          go_wp2_with fail
          go_loopw [5, 6, 7] (fun r i n wr => ∃ j : Nat, j ≤ 5 ∧ r = .int .u64 (quo (v : Int) j % 10) ∧ i = .int .i64 ((j : Int) - 1) ∧ Hid (INR w wr w1.heap.size x v j)) (fun r i n _ => (intOf i + 1).toNat)
          case atStart => exact ⟨5, by omega, by rw [← rest_5 HI.out.lim], rfl, hide (INR.first HI.out)⟩
          case round =>
            obtain ⟨j, hj, rfl, rfl, HJ⟩ := hrel
            rcases j with _ | m
            · clear hj
              obtain ⟨r, hr⟩ : ∃ r, quo (v : Int) 0 % 10 = r := ⟨_, rfl⟩
              have HR := hide (show ((v % 10 : Nat) : Int) = r by rw [← hr]; simp only [quo]; omega)
              have r1 : 0 ≤ r ∧ r < 10 := by omega
              rw [hr]
              clear hr
              obtain ⟨r1, r2⟩ := r1
              have hs := dig_str (W := wr) (b := digit (v % 10)) (c := 48 + r) (by rw [digit_nat (by omega)]; have := HR.out; omega)
              go_wp2_with fail
              go_roundw
              case rel => exact ⟨_, _, _, _, rfl, hide (one_more HS.out), hide ((TX.nx HI.out hlt HC.out HJ.out).alloc _)⟩
              case measure => have := one_size HS.out HI.out.len (digit (v % 10)); simp only [stLen]; omega
            · have hm : m < 5 := by omega
              have c0 := (HJ.out.blk).at5 hm
              rw [half_at] at c0
              have z0 := HJ.out.blk.lt
              have HL := hide (limb_div (v : Int) m)
              obtain ⟨r, hr⟩ : ∃ r, quo (v : Int) (m + 1) % 10 = r := ⟨_, rfl⟩
              obtain ⟨d, hd⟩ : ∃ d, dg (v : Int) m = d := ⟨_, rfl⟩
              have d1 := dg_part (v : Int) m
              have r1 : 0 ≤ r ∧ r < 10 := by omega
              rw [hr, hd] at HL
              rw [hd] at c0 d1
              rw [hr]
              clear hr hd hj
              obtain ⟨d1, d2⟩ := d1; obtain ⟨r1, r2⟩ := r1
              have e1 : ((m + 1 : Nat) : Int) - 1 = m := by omega
              rw [e1]
              have q0 := HJ.out.blk.frozen
              obtain ⟨b, hb⟩ : ∃ b, bits BinOp.or IntKind.u64 (r * 4294967296) d = b := ⟨_, rfl⟩
              have HB := hide (show b = r * 4294967296 + d by rw [← hb]; exact or_u64 r1 (by omega) d1 d2)
              have b1 : 0 ≤ b ∧ b < 42949672960 := by have := HB.out; omega
              obtain ⟨b1, b2⟩ := b1
              clear e1
              go_wp2_with fail
              go_roundw
              case rel => exact ⟨m, by omega, by have := HB.out; have := HL.out.2; go_num, by go_num, hide (HJ.out.step hm (by have := HB.out; have := HL.out.1; omega))⟩
              case measure => simp [intOf]
  · go_enter Try.func26, Try.ntmps26
    go_wp2_with fail
    refine (limbs_any x _ HX.out).mono ?_
    rintro e w1 ⟨rfl, hb1⟩
    have HB1 : Hid (Below w.heap.size w w1) := hide (btr (a := w) (by (repeat (first | exact Below.refl _ _ | refine Below.drew ?_ | refine Below.setCell ?_ (by simp; try omega) _ | refine bal ?_ _))) hb1)
    have HK1 := hide ((Blk.new w 25 #[.int .i64 x.hi, .int .u64 x.lo]).below hb1 (by simp))
    have k1 := HK1.out.cell
    have z1 := HK1.out.lt
    have HD0 := hide (Blk.new w1 54 (cs5 (dg x.num)))
    have kd := HD0.out.cell
    have zd := HD0.out.lt
    have hsz1 := hb1.size
    clear hb1
    unfold cs5 at kd ⊢
    go_wp2_with fail
    refine (minus_any x.num _).mono ?_
    rintro e w2 ⟨rfl, hb2⟩
    have HD2 := hide (HD0.out.below hb2 HD0.out.lt)
    have HX2 := hide ((HK1.out.alloc (Obj.cells (cs5 (dg x.num)) 54)).below hb2 (by simp; omega))
    have HB2 := hide (btr (bal HB1.out (Obj.cells (cs5 (dg x.num)) 54)) hb2)
    have HZ : Hid (w.heap.size < w1.heap.size) := hide z1
    have k2 := HD2.out.cell
    have z2 := HD2.out.lt
    have q2 := HD2.out.frozen
    have k3 := HX2.out.cell
    have z3 := HX2.out.lt
    clear hb2 kd zd hsz1 k1 z1
    unfold cs5 at k2 ⊢
    have HT : Hid (txt x.num = 45 :: dec x.num.natAbs) := hide (by
      have := HX.out; unfold I2.ok at this; simp at d0
      unfold txt; rw [if_pos (by unfold I2.num; omega)])
    have HT0 : Hid (TX w (((((w2.setCell ⟨w1.heap.size, 0, none⟩ (.int .u32 (dg (-x.num) 0))).setCell ⟨w1.heap.size, 1, none⟩ (.int .u32 (dg (-x.num) 1))).setCell ⟨w1.heap.size, 2, none⟩ (.int .u32 (dg (-x.num) 2))).setCell ⟨w1.heap.size, 3, none⟩ (.int .u32 (dg (-x.num) 3))).setCell ⟨w1.heap.size, 4, none⟩ (.int .u32 (dg (-x.num) 4))) w1.heap.size x x.num.natAbs x.num.natAbs 0 []) := hide
      ⟨rfl, by omega, by have := abs_lim HX.out; simp only [Nat.sub_zero]; omega, left_first _, bel5 HB2.out HZ.out, HZ.out, far5 HX2.out HZ.out, by
        have e : ((x.num.natAbs : Nat) : Int) = -x.num := by have := HX.out; unfold I2.ok at this; simp at d0; unfold I2.num; omega
        rw [e]; exact set5 HD2.out, abs_lim HX.out⟩
    go_wp2_with fail
    clear k2 q2 z2 k3 z3
    go_loopw [4, 5, 6, 7] (fun o r i n wr => ∃ (v k : Nat) (l : List UInt8) (S : ByteArray), o = .string S ∧ Hid (S = ⟨l.reverse.toArray⟩) ∧ Hid (TX w wr w1.heap.size x x.num.natAbs v k l)) (fun o r i n _ => 40 - stLen o)
    case atStart => exact ⟨_, 0, [], _, rfl, hide rfl, HT0⟩
    case round =>
      obtain ⟨v, k, l, S, rfl, HS, HI⟩ := hrel
      clear HT0
      have k5 := HI.out.blk.cell
      have z5 := HI.out.blk.lt
      unfold cs5 at k5
      have hS1 : S.size < 40 := by have h1 := (one_size HS.out HI.out.len 0).1; have := HI.out.k39; omega
      have kx := HI.out.bx.cell
      have zx := HI.out.bx.lt
      have hem := empty_of HI.out.len HS.out
      by_cases hx : v = 0 ∧ k ≠ 0
      · have hz := eqz HI.out.lim (z := true) (by simpa using hx.1)
        rw [decide_eq_false hx.2] at hem
        have HF : Hid (l = rd x.num.natAbs) := hide (by rw [← HI.out.lf, left_end hx.1 (fun e => hx.2 (by rw [← HI.out.len, e]; rfl))])
        clear hx
        go_wp2_with fail
        go_ret
        exact ⟨by rw [HT.out]; unfold dec; rw [← HF.out, HS.out]; first | rfl | exact congrArg Value.string (ByteArray.mk_append_mk [45] l.reverse), HI.out.bel⟩
      · have HC : Hid (v = 0 → k = 0) := hide (fun h => by omega)
        have hlt : k < 39 := by
          have h1 := HI.out.lt; have h2 := HI.out.k39
          rcases Nat.lt_or_ge k 39 with h | h
          · exact h
          · rw [show 39 - k = 0 by omega] at h1; omega
        go_upto_region 5 with (fail)
        go_cut [21] from 15 to 21 (fun t W => t = .bool true ∧ Hid (TX w W w1.heap.size x x.num.natAbs v k l))
        case first =>
          by_cases hv : v = 0
          · have hz := eqz HI.out.lim (z := true) (by simpa using hv)
            rw [decide_eq_true (HC.out hv)] at hem
            clear hx hv
            go_wp2_with fail
            go_meet
            case rel => exact ⟨rfl, HI⟩
          · have hz := eqz HI.out.lim (z := false) (by simpa using hv)
            clear hx hv hem
            go_wp2_with fail
            go_meet
            case rel => exact ⟨rfl, HI⟩
        case rest =>
          obtain ⟨rfl, HI⟩ := hcut
          clear k5 z5 kx zx hem hx
          go_wp2_with fail
          go_loopw [5, 6, 7] (fun r i n wr => ∃ j : Nat, j ≤ 5 ∧ r = .int .u64 (quo (v : Int) j % 10) ∧ i = .int .i64 ((j : Int) - 1) ∧ Hid (INR w wr w1.heap.size x v j)) (fun r i n _ => (intOf i + 1).toNat)
          case atStart => exact ⟨5, by omega, by rw [← rest_5 HI.out.lim], rfl, hide (INR.first HI.out)⟩
          case round =>
            obtain ⟨j, hj, rfl, rfl, HJ⟩ := hrel
            rcases j with _ | m
            · clear hj
              obtain ⟨r, hr⟩ : ∃ r, quo (v : Int) 0 % 10 = r := ⟨_, rfl⟩
              have HR := hide (show ((v % 10 : Nat) : Int) = r by rw [← hr]; simp only [quo]; omega)
              have r1 : 0 ≤ r ∧ r < 10 := by omega
              rw [hr]
              clear hr
              obtain ⟨r1, r2⟩ := r1
              have hs := dig_str (W := wr) (b := digit (v % 10)) (c := 48 + r) (by rw [digit_nat (by omega)]; have := HR.out; omega)
              go_wp2_with fail
              go_roundw
              case rel => exact ⟨_, _, _, _, rfl, hide (one_more HS.out), hide ((TX.nx HI.out hlt HC.out HJ.out).alloc _)⟩
              case measure => have := one_size HS.out HI.out.len (digit (v % 10)); simp only [stLen]; omega
            · have hm : m < 5 := by omega
              have c0 := (HJ.out.blk).at5 hm
              rw [half_at] at c0
              have z0 := HJ.out.blk.lt
              have HL := hide (limb_div (v : Int) m)
              obtain ⟨r, hr⟩ : ∃ r, quo (v : Int) (m + 1) % 10 = r := ⟨_, rfl⟩
              obtain ⟨d, hd⟩ : ∃ d, dg (v : Int) m = d := ⟨_, rfl⟩
              have d1 := dg_part (v : Int) m
              have r1 : 0 ≤ r ∧ r < 10 := by omega
              rw [hr, hd] at HL
              rw [hd] at c0 d1
              rw [hr]
              clear hr hd hj
              obtain ⟨d1, d2⟩ := d1; obtain ⟨r1, r2⟩ := r1
              have e1 : ((m + 1 : Nat) : Int) - 1 = m := by omega
              rw [e1]
              have q0 := HJ.out.blk.frozen
              obtain ⟨b, hb⟩ : ∃ b, bits BinOp.or IntKind.u64 (r * 4294967296) d = b := ⟨_, rfl⟩
              have HB := hide (show b = r * 4294967296 + d by rw [← hb]; exact or_u64 r1 (by omega) d1 d2)
              have b1 : 0 ≤ b ∧ b < 42949672960 := by have := HB.out; omega
              obtain ⟨b1, b2⟩ := b1
              clear e1
              go_wp2_with fail
              go_roundw
              case rel => exact ⟨m, by omega, by have := HB.out; have := HL.out.2; go_num, by go_num, hide (HJ.out.step hm (by have := HB.out; have := HL.out.1; omega))⟩
              case measure => simp [intOf]
end Go.Proofs.Ytmfilhmcgagjcaa
