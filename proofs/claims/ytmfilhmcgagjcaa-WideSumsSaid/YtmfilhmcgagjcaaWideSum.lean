/- The law WideSums, walked. -/
import Derived.Test.YtmfilhmcgagjcaaWideT
import Derived.Test.YtmfilhmcgagjcaaWideSub
import Derived.Test.YtmfilhmcgagjcaaWideG
namespace Go.Proofs.Ytmfilhmcgagjcaa
set_option linter.unusedSimpArgs false
set_option linter.unusedVariables false
open Go.RowKit
abbrev ics (x : I2) : Array Value := #[Value.int IntKind.i64 x.hi, Value.int IntKind.u64 x.lo]
def pr6 (a b c : I2) : Array Value := #[.int .i64 a.hi, .int .u64 a.lo, .int .i64 b.hi, .int .u64 b.lo, .int .i64 b.hi, .int .u64 b.lo, .int .i64 c.hi, .int .u64 c.lo, .int .i64 c.hi, .int .u64 c.lo, .int .i64 a.hi, .int .u64 a.lo]
def pOf (a b c : I2) (k : Nat) : I2 := if k = 0 then a else if k = 1 then b else c
def qOf (a b c : I2) (k : Nat) : I2 := if k = 0 then b else if k = 1 then c else a
theorem pr6_at (a b c : I2) {k : Nat} (hk : k < 3) : (pr6 a b c)[k * 4]? = some (.int .i64 (pOf a b c k).hi) ∧ (pr6 a b c)[k * 4 + 1]? = some (.int .u64 (pOf a b c k).lo) ∧ (pr6 a b c)[k * 4 + 2]? = some (.int .i64 (qOf a b c k).hi) ∧ (pr6 a b c)[k * 4 + 2 + 1]? = some (.int .u64 (qOf a b c k).lo) := by
  match k, hk with
  | 0, _ => exact ⟨rfl, rfl, rfl, rfl⟩
  | 1, _ => exact ⟨rfl, rfl, rfl, rfl⟩
  | 2, _ => exact ⟨rfl, rfl, rfl, rfl⟩
theorem pOf_ok {a b c : I2} (ha : a.ok) (hb : b.ok) (hc : c.ok) (k : Nat) : (pOf a b c k).ok ∧ (qOf a b c k).ok := by
  unfold pOf qOf
  split
  · exact ⟨ha, hb⟩
  · split
    · exact ⟨hb, hc⟩
    · exact ⟨hc, ha⟩
set_option maxRecDepth 100000 in
set_option maxHeartbeats 2000000 in
theorem lawSums (a b c : I2) (w : World) (ha : a.ok) (hb : b.ok) (hc : c.ok) :
    Calls Try.prog 5 #[.agg #[.int .i64 a.hi, .int .u64 a.lo], .agg #[.int .i64 b.hi, .int .u64 b.lo], .agg #[.int .i64 c.hi, .int .u64 c.lo]] w fun e w' => e = .returned (.bool true) ∧ Below w.heap.size w w' := by
  have HA := hide ha; have HB := hide hb; have HC := hide hc
  clear ha hb hc
  go_enter Try.func5, Try.ntmps5
  go_wp2_with fail
  obtain ⟨W, hW, HB0, HK0⟩ : ∃ W, ((((w.alloc (Obj.cells (ics a) 25)).alloc (Obj.cells (ics b) 25)).alloc (Obj.cells (ics c) 25)).alloc (Obj.cells (pr6 a b c) 35)) = W ∧ Hid (Below w.heap.size w W) ∧ Hid (Blk W (w.heap.size + 1 + 1 + 1) 35 (pr6 a b c)) := ⟨_, rfl, hide (by (repeat (first | exact Below.refl _ _ | refine Below.drew ?_ | refine Below.setCell ?_ (by simp; try omega) _ | refine bal ?_ _))), hide (by have := Blk.new (((w.alloc (Obj.cells (ics a) 25)).alloc (Obj.cells (ics b) 25)).alloc (Obj.cells (ics c) 25)) 35 (pr6 a b c); simpa using this)⟩
  unfold ics pr6 at hW
  rw [hW]
  clear hW
  go_loopw [8] (fun i wr => ∃ k : Nat, k ≤ 3 ∧ i = .int .i64 k ∧ Hid (Below w.heap.size w wr ∧ Blk wr (w.heap.size + 1 + 1 + 1) 35 (pr6 a b c))) (fun i _ => 3 - (intOf i).toNat)
  case atStart => exact ⟨0, by omega, rfl, hide ⟨HB0.out, HK0.out⟩⟩
  case round =>
    obtain ⟨k, hk, rfl, HI⟩ := hrel
    clear HB0 HK0
    by_cases hlt : k < 3
    · obtain ⟨HP, HQ⟩ := pOf_ok HA.out HB.out HC.out k
      obtain ⟨c0, c1, c2, c3⟩ := pr6_at a b c hlt
      rw [← HI.out.2.cell] at c0 c1 c2 c3
      have z1 := HI.out.2.lt
      have z2 : w.heap.size + 1 + 1 + 1 < wr.heap.size + 1 := by omega
      generalize pOf a b c k = p at *
      generalize qOf a b c k = q at *
      replace HP := hide HP; replace HQ := hide HQ
      go_wp2_with fail
      go_region
      · have HJ := hide ((((Bs.nil wr).al (ics p) 25).al (ics q) 25).drew)
        simp only [heap_al] at HJ
        clear c0 c1 c2 c3
        go_wp2_with fail
        refine (wadd_any p q _ HP.out HQ.out).mono ?_
        rintro e w1 ⟨rfl, hb⟩
        have HB1 := hide (btr (a := wr) (by (repeat (first | exact Below.refl _ _ | refine Below.drew ?_ | refine Below.setCell ?_ (by simp; try omega) _ | refine bal ?_ _))) hb)
        have HI1 := hide ((HJ.out).later hb)
        clear hb
        obtain ⟨k1, q1, y1⟩ := HI1.out.get wr.heap.size 25 (ics p) (by simp)
        obtain ⟨k2, q2, y2⟩ := HI1.out.get (wr.heap.size + 1) 25 (ics q) (by simp)
        go_wp2_with fail
        refine (radd_any p q _ HP.out HQ.out).mono ?_
        rintro e w2 ⟨rfl, hb⟩
        have HB2 := hide (btr (a := wr) (bal HB1.out _) hb)
        have HI2 := hide (((HI1.out.al (ics (clampI (p.num + q.num))) 25)).later hb)
        clear hb
        clear k1 q1 y1 k2 q2 y2
        obtain ⟨k1, q1, y1⟩ := HI2.out.get wr.heap.size 25 (ics p) (by simp)
        obtain ⟨k2, q2, y2⟩ := HI2.out.get (wr.heap.size + 1) 25 (ics q) (by simp)
        go_wp2_with fail
        refine (wsub_any p q _ HP.out HQ.out).mono ?_
        rintro e w3 ⟨rfl, hb⟩
        have HB3 := hide (btr (a := wr) (bal HB2.out _) hb)
        have HI3 := hide (((HI2.out.al (ics (clampI (p.num + q.num))) 25)).later hb)
        clear hb
        clear k1 q1 y1 k2 q2 y2
        obtain ⟨k1, q1, y1⟩ := HI3.out.get wr.heap.size 25 (ics p) (by simp)
        obtain ⟨k2, q2, y2⟩ := HI3.out.get (wr.heap.size + 1) 25 (ics q) (by simp)
        go_wp2_with fail
        refine (rsub_any p q _ HP.out HQ.out).mono ?_
        rintro e w4 ⟨rfl, hb⟩
        have HB4 := hide (btr (a := wr) (bal HB3.out _) hb)
        have HI4 := hide (((HI3.out.al (ics (clampI (p.num - q.num))) 25)).later hb)
        clear hb
        clear k1 q1 y1 k2 q2 y2
        obtain ⟨k1, q1, y1⟩ := HI4.out.get w1.heap.size 25 (ics (clampI (p.num + q.num))) (by simp)
        obtain ⟨k2, q2, y2⟩ := HI4.out.get w2.heap.size 25 (ics (clampI (p.num + q.num))) (by simp)
        obtain ⟨k3, q3, y3⟩ := HI4.out.get w3.heap.size 25 (ics (clampI (p.num - q.num))) (by simp)
        go_wp2_with fail
        go_roundw
        case rel =>
          have HE : Below wr.heap.size wr (w4.alloc (Obj.cells (ics (clampI (p.num - q.num))) 25)) := bal HB4.out _
          exact ⟨k + 1, by omega, by go_num, hide ⟨btr HI.out.1 HE, HI.out.2.below HE HI.out.2.lt⟩⟩
        case measure => simp [intOf]; omega
      · have HJ := hide ((((Bs.nil wr).al (ics q) 25).al (ics p) 25).drew)
        simp only [heap_al] at HJ
        clear c0 c1 c2 c3
        go_wp2_with fail
        refine (wadd_any p q _ HP.out HQ.out).mono ?_
        rintro e w1 ⟨rfl, hb⟩
        have HB1 := hide (btr (a := wr) (by (repeat (first | exact Below.refl _ _ | refine Below.drew ?_ | refine Below.setCell ?_ (by simp; try omega) _ | refine bal ?_ _))) hb)
        have HI1 := hide ((HJ.out).later hb)
        clear hb
        obtain ⟨k1, q1, y1⟩ := HI1.out.get (wr.heap.size + 1) 25 (ics p) (by simp)
        obtain ⟨k2, q2, y2⟩ := HI1.out.get wr.heap.size 25 (ics q) (by simp)
        go_wp2_with fail
        refine (radd_any p q _ HP.out HQ.out).mono ?_
        rintro e w2 ⟨rfl, hb⟩
        have HB2 := hide (btr (a := wr) (bal HB1.out _) hb)
        have HI2 := hide (((HI1.out.al (ics (clampI (p.num + q.num))) 25)).later hb)
        clear hb
        clear k1 q1 y1 k2 q2 y2
        obtain ⟨k1, q1, y1⟩ := HI2.out.get (wr.heap.size + 1) 25 (ics p) (by simp)
        obtain ⟨k2, q2, y2⟩ := HI2.out.get wr.heap.size 25 (ics q) (by simp)
        go_wp2_with fail
        refine (wsub_any p q _ HP.out HQ.out).mono ?_
        rintro e w3 ⟨rfl, hb⟩
        have HB3 := hide (btr (a := wr) (bal HB2.out _) hb)
        have HI3 := hide (((HI2.out.al (ics (clampI (p.num + q.num))) 25)).later hb)
        clear hb
        clear k1 q1 y1 k2 q2 y2
        obtain ⟨k1, q1, y1⟩ := HI3.out.get (wr.heap.size + 1) 25 (ics p) (by simp)
        obtain ⟨k2, q2, y2⟩ := HI3.out.get wr.heap.size 25 (ics q) (by simp)
        go_wp2_with fail
        refine (rsub_any p q _ HP.out HQ.out).mono ?_
        rintro e w4 ⟨rfl, hb⟩
        have HB4 := hide (btr (a := wr) (bal HB3.out _) hb)
        have HI4 := hide (((HI3.out.al (ics (clampI (p.num - q.num))) 25)).later hb)
        clear hb
        clear k1 q1 y1 k2 q2 y2
        obtain ⟨k1, q1, y1⟩ := HI4.out.get w1.heap.size 25 (ics (clampI (p.num + q.num))) (by simp)
        obtain ⟨k2, q2, y2⟩ := HI4.out.get w2.heap.size 25 (ics (clampI (p.num + q.num))) (by simp)
        obtain ⟨k3, q3, y3⟩ := HI4.out.get w3.heap.size 25 (ics (clampI (p.num - q.num))) (by simp)
        go_wp2_with fail
        go_roundw
        case rel =>
          have HE : Below wr.heap.size wr (w4.alloc (Obj.cells (ics (clampI (p.num - q.num))) 25)) := bal HB4.out _
          exact ⟨k + 1, by omega, by go_num, hide ⟨btr HI.out.1 HE, HI.out.2.below HE HI.out.2.lt⟩⟩
        case measure => simp [intOf]; omega
    · go_wp2_with fail
      refine (wanswers_any _).mono ?_
      rintro e w1 ⟨rfl, hb⟩
      have HB1 := hide (btr HI.out.1 hb)
      clear hb
      go_wp2_with fail
      go_ret
      exact ⟨rfl, HB1.out⟩
end Go.Proofs.Ytmfilhmcgagjcaa
