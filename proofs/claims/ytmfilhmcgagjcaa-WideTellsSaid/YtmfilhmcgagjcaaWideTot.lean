/- wide.Total. -/
import Derived.Test.YtmfilhmcgagjcaaWideB
import Derived.BigRegion
namespace Go.Proofs.Ytmfilhmcgagjcaa
set_option linter.unusedSimpArgs false
set_option linter.unusedVariables false
open Go.RowKit
def I2.enc (x : I2) : List Value := [.int .i64 x.hi, .int .u64 x.lo]
theorem I2.enc_len (x : I2) : x.enc.length = 2 := rfl
abbrev IR (w : World) (B : Nat) (A : Option Addr) (n : Nat) (l : List I2) : Prop := Sl 2 I2.enc w B A n l
theorem IR.at {w : World} {B : Nat} {A : Option Addr} {n : Nat} {l : List I2} (h : IR w B A n l) (hn : 0 < n) :
    ∃ b o, A = some ⟨b, o, none⟩ ∧ b < B ∧ ∀ j (hj : j < l.length), w.cell? ⟨b, o + j * 2, none⟩ = some (.int .i64 l[j].hi) ∧ w.cell? ⟨b, o + j * 2 + 1, none⟩ = some (.int .u64 l[j].lo) := by
  obtain ⟨b, o, hA, hB, hc⟩ := Sl.at h I2.enc_len (by omega) hn
  exact ⟨b, o, hA, hB, fun j hj => ⟨hc j hj 0 _ rfl, hc j hj 1 _ rfl⟩⟩
/-- The sum of many, one after the other. -/
def tot : Int → List I2 → Option Int
  | s, [] => some s
  | s, x :: l => if inr (s + x.num) then tot (s + x.num) l else none
def optI : Option Int → I2
  | some s => two s
  | none => ⟨0, 0⟩
def optE : Option Int → Int
  | some _ => 0
  | none => 3
def okAll (l : List I2) : Prop := ∀ i (hi : i < l.length), l[i].ok
structure TotI (w W : World) (l : List I2) (k : Nat) (s : Int) : Prop where
  rng : inr s
  same : tot s (l.drop k) = tot 0 l
  bel : Below w.heap.size w W
  blk : Blk W w.heap.size 25 #[.int .i64 (two s).hi, .int .u64 (two s).lo]
theorem TotI.first (w : World) (l : List I2) : TotI w (w.alloc (Obj.cells #[Value.int IntKind.i64 0, Value.int IntKind.u64 0] 25)) l 0 0 :=
  ⟨by unfold inr; omega, rfl, bal (Below.refl _ _) _, Blk.new _ _ _⟩
theorem tot_drop {l : List I2} {k : Nat} (hk : k < l.length) (s : Int) : tot s (l.drop k) = if inr (s + l[k].num) then tot (s + l[k].num) (l.drop (k + 1)) else none := by
  rw [List.drop_eq_getElem_cons hk]; rfl
theorem ret_opt {v : Option Int} {I : I2} {e : Int} (h1 : I = optI v) (h2 : e = optE v) : Ending.returned (.tuple #[.agg #[.int .i64 I.hi, .int .u64 I.lo], .int .i64 e]) = Ending.returned (.tuple #[.agg #[.int .i64 (optI v).hi, .int .u64 (optI v).lo], .int .i64 (optE v)]) := by rw [h1, h2]
set_option maxRecDepth 100000 in
set_option maxHeartbeats 1000000 in
theorem total_any (l : List I2) (A : Option Addr) (n c : Nat) (w : World) (hr : IR w w.heap.size A n l) (hok : okAll l) (hn : n ≤ 4611686018427387904) :
    Calls Try.prog 15 #[.slice A n c] w fun e w' => e = .returned (.tuple #[.agg #[.int .i64 (optI (tot 0 l)).hi, .int .u64 (optI (tot 0 l)).lo], .int .i64 (optE (tot 0 l))]) ∧ Below w.heap.size w w' := by
  have HI0 := hide (TotI.first w l)
  have HR := hide hr
  have HOK := hide hok
  have HL := hide hr.len
  clear hr hok
  go_enter Try.func15, Try.ntmps15
  go_wp2
  go_loopw [3, 8] (fun e i wr => ∃ (k : Nat) (s : Int), k ≤ n ∧ i = .int .i64 k ∧ e = .int .i64 0 ∧ Hid (TotI w wr l k s)) (fun e i _ => n - (intOf i).toNat)
  case atStart => exact ⟨0, 0, Nat.zero_le _, rfl, rfl, HI0⟩
  case round =>
    obtain ⟨k, s, hk, rfl, rfl, HI⟩ := hrel
    by_cases hlt : k < n
    · obtain ⟨b, o, rfl, hbl, hc⟩ := IR.at (HR.out.below HI.out.bel) (by omega)
      have hkl : k < l.length := by have := HL.out; omega
      obtain ⟨c0, c1⟩ := hc k hkl
      have HX := hide (HOK.out k hkl)
      have HT := hide (tot_drop hkl s)
      have hbl2 : b < wr.heap.size := by have := HI.out.bel.size; omega
      obtain ⟨x, hx⟩ : ∃ x, l[k] = x := ⟨_, rfl⟩
      rw [hx] at c0 c1 HX HT
      have k1 := HI.out.blk.cell
      have q1 := HI.out.blk.frozen
      have z1 := HI.out.blk.lt
      clear hc hx
      go_wp2_with fail
      refine (wadd_any (two s) x _ (two_ok HI.out.rng) HX.out).mono ?_
      rintro e w1 ⟨rfl, hb1⟩
      rw [two_num]
      have HB1 : Hid (Below w.heap.size w w1) := hide (btr (bal HI.out.bel _) hb1)
      have HK1 := hide ((HI.out.blk.alloc _).below hb1 (by simp; omega))
      clear hb1 k1 q1 z1 c0 c1
      have k1 := HK1.out.cell
      have q1 := HK1.out.frozen
      have z1 := HK1.out.lt
      by_cases hin : inr (s + x.num)
      · have HIN := hide hin
        rw [(clamp_yes hin).1, (clamp_yes hin).2]
        clear hin
        go_wp2_with fail
        go_roundw
        case rel =>
          refine ⟨k + 1, s + x.num, by omega, by go_num, rfl, hide ⟨HIN.out, ?_, ?_, ?_⟩⟩
          · rw [← HI.out.same, HT.out, if_pos HIN.out]
          · exact (HB1.out.setCell (by simp) _).setCell (by simp) _
          · exact (HK1.out.set_ 0 _).set_ 1 _
        case measure => simp [intOf]; omega
      · have HIN := hide hin
        rw [(clamp_no hin).1, (clamp_no hin).2]
        have k10 : w1.cell? ⟨w.heap.size, 0, none⟩ = some (.int .i64 (two s).hi) := k1 0
        have k11 : w1.cell? ⟨w.heap.size, 1, none⟩ = some (.int .u64 (two s).lo) := k1 1
        have HF : Hid (tot 0 l = none) := hide (by rw [← HI.out.same, HT.out, if_neg HIN.out])
        clear hin
        go_wp2_with fail
        refine bodyPost_ret (v := .tuple #[.agg #[.int .i64 0, .int .u64 0], .int .i64 3]) (by simp (maxDischargeDepth := 9) [results, Try.results15, go_sem, k10, k11]; done) rfl ⟨?_, ?_⟩
        · rw [HF.out]; rfl
        · exact (((HB1.out.setCell (by simp) _).setCell (by simp) _).setCell (by simp) _).setCell (by simp) _
    · have k1 := HI.out.blk.cell
      have q1 := HI.out.blk.frozen
      have z1 := HI.out.blk.lt
      have HF : Hid (tot 0 l = some s) := hide (by rw [← HI.out.same, List.drop_of_length_le (by have := HL.out; omega)]; rfl)
      go_wp2_with fail
      refine bodyPost_ret (v := .tuple #[.agg #[.int .i64 (two s).hi, .int .u64 (two s).lo], .int .i64 0]) (by simp [results, Try.results15, go_sem, k1]; done) rfl ⟨?_, ?_⟩
      · rw [HF.out]; rfl
      · exact (HI.out.bel.setCell (by simp) _).setCell (by simp) _
end Go.Proofs.Ytmfilhmcgagjcaa
