/- The reference's numbers: minus, whole, Add, Sub. -/
import Derived.Test.YtmfilhmcgagjcaaWideD
namespace Go.Proofs.Ytmfilhmcgagjcaa
set_option linter.unusedSimpArgs false
set_option linter.unusedVariables false
open Go.RowKit Go.Shelf
theorem not_nat {a : Nat} (ha : a < 4294967296) : 4294967295 ^^^ a = 4294967295 - a := by
  apply Nat.eq_of_testBit_eq
  intro i
  rw [Nat.testBit_xor, show 4294967295 - a = 2 ^ 32 - (a + 1) by omega, Nat.testBit_two_pow_sub_succ (show a < 2 ^ 32 by omega), show 4294967295 = 2 ^ 32 - 1 by rfl, Nat.testBit_two_pow_sub_one]
  by_cases h : i < 32
  · simp [h]
  · have : a.testBit i = false := Nat.testBit_lt_two_pow (Nat.lt_of_lt_of_le ha (by rw [show 4294967296 = 2 ^ 32 by rfl]; exact Nat.pow_le_pow_right (by omega) (by omega)))
    simp [h, this]
theorem not_u32 {a : Int} (h0 : 0 ≤ a) (h1 : a < 4294967296) : bits BinOp.xor IntKind.u32 (if IntKind.u32.signed = true then -1 else IntKind.u32.max) a = 4294967295 - a := by
  obtain ⟨n, rfl⟩ := Int.eq_ofNat_of_zero_le h0
  have hn : n < 4294967296 := by omega
  have e := not_nat hn
  have h1 : (BitVec.ofInt 32 (4294967295 : Int)).toNat = 4294967295 := by decide
  have h2 : (BitVec.ofInt 32 (n : Int)).toNat = n := by
    rw [BitVec.ofInt_natCast, BitVec.toNat_ofNat]; exact Nat.mod_eq_of_lt (by omega)
  show IntKind.u32.wrap ((BitVec.ofInt 32 (4294967295 : Int) ^^^ BitVec.ofInt 32 (n : Int)).toNat : Int) = _
  rw [BitVec.toNat_xor, h1, h2, e, IntKind.wrap_u32]
  omega
def notP (A : Nat → Int) (i : Nat) : Int := 4294967295 - A i
def oneP (i : Nat) : Int := if i = 0 then 1 else 0
theorem cs5_one : cs5 oneP = cs5 (dg 1) := cs5_congr fun i hi => by
  match i, hi with
  | 0, _ => rfl
  | 1, _ => rfl
  | 2, _ => rfl
  | 3, _ => rfl
  | 4, _ => rfl
def MinI (w W : World) (A : Nat → Int) (k : Nat) : Prop := Below w.heap.size w W ∧ Blk W w.heap.size 54 (cs5 (fun i => if i < k then notP A i else A i)) ∧
  Blk W (w.heap.size + 1) 54 (cs5 (fun _ => 0))
theorem MinI.first (w : World) (A : Nat → Int) : MinI w ((w.alloc (lblk A)).alloc (lblk (fun _ => 0))) A 0 := by
  refine ⟨by (repeat (first | exact Below.refl _ _ | refine Below.drew ?_ | refine Below.setCell ?_ (by simp; try omega) _ | refine bal ?_ _)), (Blk.new w _ (cs5 A)).alloc _, ?_⟩
  have := Blk.new (w.alloc (lblk A)) 54 (cs5 (fun _ => 0)); simpa using this
theorem MinI.step {w W : World} {A : Nat → Int} {k : Nat} (h : MinI w W A k) (hk : k < 5) {v : Int} (hv : v = notP A k) : MinI w (W.setCell ⟨w.heap.size, k, none⟩ (.int .u32 v)) A (k + 1) := by
  obtain ⟨h1, h2, h3⟩ := h
  refine ⟨h1.setCell (by simp) _, ?_, h3.far (p := ⟨w.heap.size, k, none⟩) (by simp) _⟩
  have := h2.set_ k (.int .u32 v)
  rw [cs5_set _ hk] at this
  rw [cs5_congr (g := fun i => if i < k + 1 then notP A i else A i)] at this
  · exact this
  · intro i _
    by_cases e : i = k
    · subst e; simp [hv]
    · by_cases l : i < k
      · simp [e, l, show i < k + 1 by omega]
      · simp [e, l, show ¬ i < k + 1 by omega]
set_option maxRecDepth 100000 in
set_option maxHeartbeats 1000000 in
theorem minus_any (n : Int) (w : World) :
    Calls Try.prog 32 #[.agg (cs5 (dg n))] w fun e w' => e = .returned (.agg (cs5 (dg (-n)))) ∧ Below w.heap.size w w' := by
  have HI0 := hide (MinI.first w (dg n))
  have HE := hide (show cs5 (sumP (dg (-n - 1)) (dg 1)) = cs5 (dg (-n)) from cs5_congr fun i _ => by rw [sum_dg]; congr 1; omega)
  have HA := hide (dg_part n)
  unfold cs5
  go_enter Try.func32, Try.ntmps32
  go_wp2
  go_loopw [3] (fun i wr => ∃ k : Nat, k ≤ 5 ∧ i = .int .i64 k ∧ Hid (MinI w wr (dg n) k)) (fun i _ => 5 - (intOf i).toNat)
  case atStart => exact ⟨0, by omega, rfl, HI0⟩
  case round =>
    obtain ⟨k, hk, rfl, HI⟩ := hrel
    by_cases hlt : k < 5
    · have c0 := (HI.out.2.1).at5 hlt
      simp only [Nat.lt_irrefl, if_false] at c0
      have z1 := HI.out.2.1.lt
      have q1 := HI.out.2.1.frozen
      obtain ⟨a, ha⟩ : ∃ a, dg n k = a := ⟨_, rfl⟩
      have a1 := HA.out k
      have HN := hide (show notP (dg n) k = 4294967295 - a by rw [← ha]; rfl)
      rw [ha] at c0 a1
      obtain ⟨a1, a2⟩ := a1
      have HB := hide (not_u32 a1 a2)
      clear ha hk
      go_wp2
      go_roundw
      case rel => exact ⟨k + 1, by omega, by go_num, hide (HI.out.step hlt (HB.out.trans HN.out.symm))⟩
      case measure => simp [intOf]; omega
    · have hk5 : k = 5 := by omega
      subst hk5
      have HF := hide (show Blk wr w.heap.size 54 (cs5 (dg (-n - 1))) by
        have := HI.out.2.1
        rw [cs5_congr (g := dg (-n - 1)) (fun i hi => by simp only [hi, if_true]; rw [dg_not]; rfl)] at this
        exact this)
      have k4 := HF.out.cell
      have k3 := HI.out.2.2.cell
      have q3 := HI.out.2.2.frozen
      have z3 := HI.out.2.2.lt
      unfold cs5 at k4 k3
      go_wp2_with fail
      refine (plus_any (dg (-n - 1)) (dg 1) _ (dg_part _) (dg_part _)).mono ?_
      rintro e w2 ⟨rfl, hb2⟩
      rw [HE.out]
      have KB := hide (HI.out.2.2.below hb2 HI.out.2.2.lt)
      have HB2 := hide (btr HI.out.1 hb2)
      clear hb2 k3 k4 q3 z3
      have k3 := KB.out.cell
      have q3 := KB.out.frozen
      have z3 := KB.out.lt
      unfold cs5 at k3 ⊢
      go_wp2_with fail
      refine bodyPost_ret (v := .agg (cs5 (dg (-n)))) (by simp [results, Try.results32, go_sem, k3, cs5]; done) rfl ⟨rfl, ?_⟩
      exact ((((HB2.out.setCell (by simp; try omega) _).setCell (by simp; try omega) _).setCell (by simp; try omega) _).setCell (by simp; try omega) _).setCell (by simp; try omega) _
end Go.Proofs.Ytmfilhmcgagjcaa
