/- The law's data: a block of one byte. -/
import Derived.Test.YthlgkhnkcjihiaaSecA
import Derived.Deep.CutRange
import Derived.Deep.OwnRows
namespace Go.Proofs.Ythlgkhnkcjihiaa
set_option linter.unusedSimpArgs false
set_option linter.unusedVariables false
open Go.RowKit
def fillA (c : Int) (k n : Nat) : Array Value := ((List.range n).map fun i => Value.int .u8 (if i < k then c else 0)).toArray
theorem fillA_0 (c : Int) (n : Nat) : madeCells #[Value.int .u8 0] n = fillA c 0 n := by
  apply Array.ext'
  rw [toList_madeCells_one]
  unfold fillA
  simp [List.map_const']
theorem fillA_at (c : Int) {k n j : Nat} (h : j < n) : (fillA c k n)[j]? = some (.int .u8 (if j < k then c else 0)) := by
  unfold fillA
  simp [h]
theorem fillA_set (c : Int) {k n : Nat} : (fillA c k n).setIfInBounds k (.int .u8 c) = fillA c (k + 1) n := by
  unfold fillA
  apply Array.ext'
  apply List.ext_getElem?
  intro i
  simp [List.getElem?_set]
  by_cases e : k = i
  · subst e
    by_cases h : k < n <;> simp [h]
  · by_cases h : i < n
    · simp [e, h, show (i < k + 1) = (i < k) by simp; omega]
    · simp [e, h]
theorem u8_info : (Try.prog.info? 5).map (fun i => (i.zero, i.size, i.bytes)) = some (some (.int .u8 0), 1, 1) := by kernel_rfl
def dataN (c : Int) (odd : Bool) : Nat := if odd then 511 + (c % 3 * 2).toNat else 512
set_option maxRecDepth 100000 in
set_option maxHeartbeats 1000000 in
theorem data_any (c : Int) (odd : Bool) (w : World) (hc : 0 ≤ c ∧ c < 256) :
    Calls Try.prog 17 #[.int .u8 c, .bool odd] w fun e w' => e = .returned (.slice (some ⟨w.heap.size, 0, none⟩) (dataN c odd) (dataN c odd)) ∧ Blk w' w.heap.size 5 (fillA c (dataN c odd) (dataN c odd)) ∧ Below w.heap.size w w' := by
  obtain ⟨c1, c2⟩ := hc
  obtain ⟨n, hn⟩ : ∃ n, dataN c odd = n := ⟨_, rfl⟩
  rw [hn]
  unfold dataN at hn
  cases odd
  · simp only [Bool.false_eq_true, if_false] at hn
    have hn' : (512 : Int) = n := by omega
    have hb : n ≤ 600 := by omega
    clear hn
    go_enter Try.func17, Try.ntmps17
    go_upto_region 4 with (fail)
    try rw [hn']
    clear hn'
    have hmk := run_make_row' (P := Try.prog) 31 5 (.int .u8 0) 1 Try.underlying31 u8_info rfl .i64 .i64 n (by omega) (by omega)
    have HF := hide (fillA_0 c n)
    go_wp2_with fail
    rw [HF.out]
    go_loopw [7] (fun i wr => ∃ k : Nat, k ≤ n ∧ i = .int .i64 k ∧ Hid (Below w.heap.size w wr ∧ Blk wr w.heap.size 5 (fillA c k n))) (fun i _ => n - (intOf i).toNat)
    case atStart => exact ⟨0, by omega, rfl, hide ⟨by (repeat (first | exact Below.refl _ _ | refine Below.drew ?_ | refine Below.setCell ?_ (by simp; try omega) _ | refine bal ?_ _)), Blk.new w _ _⟩⟩
    case round =>
      obtain ⟨k, hk, rfl, HI⟩ := hrel
      clear hmk
      by_cases hlt : k < n
      · have c0 := HI.out.2.cell k
        rw [fillA_at c hlt] at c0
        have z0 := HI.out.2.lt
        have q0 := HI.out.2.frozen
        go_wp2_with fail
        go_roundw
        case rel => exact ⟨k + 1, by omega, by go_num, hide ⟨HI.out.1.setCell (by simp) _, by have := HI.out.2.set_ k (.int .u8 c); rw [fillA_set] at this; exact this⟩⟩
        case measure => simp [intOf]; omega
      · have e : k = n := by omega
        subst e
        go_wp2_with fail
        go_ret
        exact ⟨rfl, HI.out.2, HI.out.1⟩
  · simp only [if_true] at hn
    have hn' : (511 : Int) + c % 3 * 2 = n := by omega
    have hb : n ≤ 600 := by omega
    clear hn
    go_enter Try.func17, Try.ntmps17
    go_upto_region 4 with (fail)
    try rw [hn']
    clear hn'
    have hmk := run_make_row' (P := Try.prog) 31 5 (.int .u8 0) 1 Try.underlying31 u8_info rfl .i64 .i64 n (by omega) (by omega)
    have HF := hide (fillA_0 c n)
    go_wp2_with fail
    rw [HF.out]
    go_loopw [7] (fun i wr => ∃ k : Nat, k ≤ n ∧ i = .int .i64 k ∧ Hid (Below w.heap.size w wr ∧ Blk wr w.heap.size 5 (fillA c k n))) (fun i _ => n - (intOf i).toNat)
    case atStart => exact ⟨0, by omega, rfl, hide ⟨by (repeat (first | exact Below.refl _ _ | refine Below.drew ?_ | refine Below.setCell ?_ (by simp; try omega) _ | refine bal ?_ _)), Blk.new w _ _⟩⟩
    case round =>
      obtain ⟨k, hk, rfl, HI⟩ := hrel
      clear hmk
      by_cases hlt : k < n
      · have c0 := HI.out.2.cell k
        rw [fillA_at c hlt] at c0
        have z0 := HI.out.2.lt
        have q0 := HI.out.2.frozen
        go_wp2_with fail
        go_roundw
        case rel => exact ⟨k + 1, by omega, by go_num, hide ⟨HI.out.1.setCell (by simp) _, by have := HI.out.2.set_ k (.int .u8 c); rw [fillA_set] at this; exact this⟩⟩
        case measure => simp [intOf]; omega
      · have e : k = n := by omega
        subst e
        go_wp2_with fail
        go_ret
        exact ⟨rfl, HI.out.2, HI.out.1⟩
end Go.Proofs.Ythlgkhnkcjihiaa
