/- The JSON writer: Print. -/
import Derived.Test.YtmbjalcphdggnaaDoorJsPe
namespace Go.Proofs.YtmbjalcphdggnaaDoor
set_option linter.unusedSimpArgs false
set_option linter.unusedVariables false
open Go.RowKit
def prE (J : JV) : Nat := if dpJ 32 J = true then (if (prJ J).length ≤ 262144 then 0 else 12) else 2
def prR (J : JV) : L8 := if prE J = 0 then prJ J else []
theorem rb_none (w : World) (B : Nat) : RB w B none 0 [] := ⟨rfl, fun h => absurd h (by decide)⟩
set_option maxRecDepth 100000 in
set_option maxHeartbeats 600000 in
theorem print_any {W : World} {F : Nat → Prop} {J : JV} {cs : List Value} (hs : smJ J) (hT : Tabs W) (hJ : VRd W F J cs) :
    Calls Tryd.prog 13 #[.agg cs.toArray] W fun e W' => Below W.heap.size W W' ∧ ∃ A n c, e = .returned (.tuple #[.slice A n c, .int .i64 (prE J : Int)]) ∧ n ≤ c ∧ (∀ ad, A = some ad → ad.block < W'.heap.size) ∧ RB W' W'.heap.size A n (prR J) := by
  obtain ⟨k, t, A1, n1, c1, A2, n2, c2, rfl⟩ := hJ.four
  obtain ⟨w1, hw1⟩ : ∃ y, W.alloc (.cells #[.int .i64 k, .string t, .slice A1 n1 c1, .slice A2 n2 c2] TV) = y := ⟨_, rfl⟩
  have HB1 := hide (show Below W.heap.size W w1 from hw1 ▸ al_below W _)
  have HV := hide (show Blk w1 W.heap.size TV #[.int .i64 k, .string t, .slice A1 n1 c1, .slice A2 n2 c2] from hw1 ▸ Blk.new _ _ _)
  have HT1 := hide (hT.below HB1.out)
  have HJ1 := hide (hJ.all.later HB1.out)
  have HW1 := hide hw1
  clear hw1 hJ hT
  go_enter Tryd.func13, Tryd.ntmps13
  go_upto_region 1 with fail
  rw [HW1.out]
  clear HW1
  have kv := HV.out.cell; have fv := HV.out.frozen; have zv := HV.out.lt
  cases hd : dpJ 32 J
  · have HD := hide hd
    have HE := hide (show prE J = 2 by unfold prE; rw [hd]; rfl)
    have HR := hide (show prR J = [] by unfold prR; rw [HE.out]; rfl)
    clear hd
    go_wp2_with (go_at_call 23; (refine (deep_all _ w1 J _ 32 32 rfl (by decide) (Nat.le_refl _) hs HT1.out HJ1.out).mono ?_); (rw [HD.out]); rintro e w2 ⟨rfl, hb⟩; have HB2 := hide (HB1.out.trans (hb.mono HB1.out.size)); clear hb)
    refine bodyPost_ret (v := .tuple #[.slice none 0 0, .int .i64 2]) (by simp (maxDischargeDepth := 9) [results, Tryd.results13, go_sem]; done) rfl ?_
    refine ⟨HB2.out, none, 0, 0, by rw [HE.out]; rfl, Nat.le_refl _, (fun ad e => by cases e), by rw [HR.out]; exact rb_none _ _⟩
  · have HD := hide hd
    clear hd
    go_upto_region 3 with (go_at_call 23; (refine (deep_all _ w1 J _ 32 32 rfl (by decide) (Nat.le_refl _) hs HT1.out HJ1.out).mono ?_); (rw [HD.out]); rintro e w2 ⟨rfl, hb⟩; have HB2 := hide (HB1.out.trans (hb.mono HB1.out.size)); have HV2 := hide (HV.out.below hb HV.out.lt); have HJ2 := hide (HJ1.out.later hb); clear hb)
    clear kv fv zv
    go_upto_region 4 with fail
    obtain ⟨w3, hw3⟩ : ∃ y, w2.alloc (.cells #[.slice none 0 0, .bool false] TWr) = y := ⟨_, rfl⟩
    have hbel : Below w2.heap.size w2 w3 := hw3 ▸ al_below w2 _
    have HB3 := hide (HB2.out.trans (hbel.mono HB2.out.size))
    have HX3 := hide (show WrX w2.heap.size w2.heap.size (some []) w3 from ⟨[], .slice none 0 0, hw3 ▸ Blk.new _ _ _, World.ownsRow_nil _ _ _ _, by simp, (fun o' e => by injection e with e; exact e.symm), Nat.le_refl _, (fun h => by cases h)⟩)
    have HV3 := hide (HV2.out.below hbel HV2.out.lt)
    have HJ3 := hide (show VRd w3 (fun j => j < w2.heap.size) J _ from VRd.keep (fun j hj => hbel.block j hj) (fun _ h => h) _ _ HJ2.out)
    have hs3 : w2.heap.size ≤ w3.heap.size := hbel.size
    rw [hw3]
    clear hw3 hbel
    have kv := HV3.out.cell; have fv := HV3.out.frozen; have zv := HV3.out.lt
    go_upto_region 5 with (go_at_call 24; (refine (wvalue_any hs HD.out HX3.out hs3 HJ3.out).mono ?_); rintro e w4 ⟨rfl, hx, hbl, hkt⟩; have HX4 := hide hx; have HB4 := hide (HB3.out.trans (hbl.mono HB2.out.size)); clear hx hbl hkt)
    clear kv fv zv
    obtain ⟨o, bv, hwr⟩ := HX4.out
    have kw := hwr.blk.cell; have fw := hwr.blk.frozen; have zw := hwr.blk.lt
    have HWR := hide hwr
    clear hwr
    by_cases hl : (prJ J).length ≤ 262144
    · have hp : putO (some []) (prJ J) = some (prJ J) := by unfold putO; simp [hl]
      have HE := hide (show prE J = 0 by unfold prE; rw [HD.out, if_pos rfl, if_pos hl])
      have HR := hide (show prR J = prJ J by unfold prR; rw [HE.out]; rfl)
      obtain rfl := HWR.out.eq _ hp
      obtain ⟨A, c, rfl, hc⟩ := own_slice HWR.out.row
      rw [hp] at kw
      simp only [Option.isNone_some] at kw
      clear hp hl
      go_wp2_with fail
      refine bodyPost_ret (v := .tuple #[.slice A (prJ J).length c, .int .i64 0]) (by simp (maxDischargeDepth := 9) [results, Tryd.results13, go_sem]; done) rfl ?_
      refine ⟨HB4.out, A, (prJ J).length, c, by rw [HE.out]; rfl, hc, fun ad e => own_lt HWR.out.row _ (by rw [e]; rfl), by rw [HR.out]; exact own_rb' HWR.out.row⟩
    · have hp : putO (some []) (prJ J) = none := by unfold putO; simp; omega
      have HE := hide (show prE J = 12 by unfold prE; rw [HD.out, if_pos rfl, if_neg hl])
      have HR := hide (show prR J = [] by unfold prR; rw [HE.out]; rfl)
      rw [hp] at kw
      simp only [Option.isNone_none] at kw
      clear hp hl
      go_wp2_with fail
      refine bodyPost_ret (v := .tuple #[.slice none 0 0, .int .i64 12]) (by simp (maxDischargeDepth := 9) [results, Tryd.results13, go_sem]; done) rfl ?_
      refine ⟨HB4.out, none, 0, 0, by rw [HE.out]; rfl, Nat.le_refl _, (fun ad e => by cases e), by rw [HR.out]; exact rb_none _ _⟩
end Go.Proofs.YtmbjalcphdggnaaDoor
