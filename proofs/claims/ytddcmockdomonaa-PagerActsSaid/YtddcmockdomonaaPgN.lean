/- The frame's PutNum: bytes of a number behind bytes. -/
import Derived.Test.YtddcmockdomonaaPgM
namespace Go.Proofs.Ytddcmockdomonaa
set_option linter.unusedSimpArgs false
set_option linter.unusedVariables false
open Go.RowKit
set_option maxHeartbeats 1000000 in
theorem clone_all (A : Option Addr) (n c : Nat) (l : Cn) (w : World) (hr : RB w w.heap.size A n l) (hn : n ≤ 600) :
    Calls Try.prog 42 #[.slice A n c] w fun e w' => ∃ v, e = .returned v ∧ w'.ownsRow w.heap.size T8 1 v n (cs8 l) ∧ Below w.heap.size w w' := by
  rcases A with _ | ad
  · have hn0 : n = 0 := by
      rcases Nat.eq_zero_or_pos n with h | h
      · exact h
      · obtain ⟨_, h, _⟩ := hr.2 h; cases h
    subst hn0
    have hl : l = [] := List.eq_nil_of_length_eq_zero (RB.len hr)
    subst hl
    have heq := fun w a l c => Lib.run_eql_slice_nil (P := Try.prog) w 33 5 a l c 0 0 Try.underlying33
    go_enter Try.func42, Try.ntmps42
    go_wp2
    go_ret
    exact ⟨_, rfl, World.ownsRow_nil _ _ _ _, Below.refl _ _⟩
  · exact clone_any ad n c (cs8 l) w hr (cs8_one l) hn
theorem reads_one (w : World) (x : UInt8) : Reads (w.alloc (Obj.cells #[.int .u8 (x.toNat : Int)] T8)) (w.heap.size + 1) 1 (some ⟨w.heap.size, 0, none⟩) 1 (cs8 [x]) := by
  refine ⟨rfl, fun _ => ⟨_, rfl, Nat.lt_succ_self _, fun j u hj => ?_⟩⟩
  match j, hj with
  | 0, hj =>
    rw [show (⟨w.heap.size, 0, none⟩ : Addr).add 0 = ⟨w.heap.size, 0, none⟩ by rfl, World.cell?_alloc_new]
    simpa [cs8, u8v] using hj
/-- A row of the call's own that grows: what stood ahead of the call stays. -/
theorem own_grow {w wr w2 : World} {v : Value} {n : Nat} {xs : List Value} {o : Obj} (h : wr.ownsRow w.heap.size T8 1 v n xs) (hb : Below w.heap.size w wr) (hg : (wr.alloc o).grownBy w2 v.ownBlock) : Below w.heap.size w w2 :=
  (hb.alloc hb.size o).grown hg (by have := hb.size; simp; omega) (fun k hk => (h.lt k hk).1)
/-- The first k bytes of a number in so many. -/
def beN (n size k : Nat) : Cn := (List.range k).map fun j => UInt8.ofNat (n / 2 ^ (8 * (size - 1 - j)))
theorem beN_len (n size k : Nat) : (beN n size k).length = k := by simp [beN]
theorem beN_succ (n size k : Nat) : beN n size (k + 1) = beN n size k ++ [UInt8.ofNat (n / 2 ^ (8 * (size - 1 - k)))] := by simp [beN, List.range_succ]
set_option maxRecDepth 100000 in
set_option maxHeartbeats 1000000 in
theorem put_any (A : Option Addr) (m c : Nat) (l : Cn) (n size : Nat) (w : World) (hr : RB w w.heap.size A m l) (hm : m ≤ 600) (hs : 1 ≤ size ∧ size ≤ 7) (hn : n < 2 ^ (8 * size)) :
    Calls Try.prog 32 #[.slice A m c, .int .i64 n, .int .i64 size] w fun e w' => ∃ v, e = .returned v ∧ w'.ownsRow w.heap.size T8 1 v (m + size) (cs8 (l ++ beN n size size)) ∧ Below w.heap.size w w' := by
  obtain ⟨i0, hi0, hz0, hz1, hz2⟩ := info_parts u8_info
  have HR := hide hr
  have hdv : n / 2 ^ (8 * size) = 0 := Nat.div_eq_of_lt hn
  have hn63 : n < 9223372036854775808 := Nat.lt_of_lt_of_le hn (by have := Nat.pow_le_pow_right (n := 2) (by omega) (show 8 * size ≤ 63 by omega); simpa using this)
  have HDV := hide hdv
  clear hr hn hdv
  obtain ⟨s1, s2⟩ := hs
  go_enter Try.func32, Try.ntmps32
  go_upto_region 2 with (go_at_call 42; (refine (clone_all A m c l w HR.out hm).mono ?_); rintro e w1 ⟨v, rfl, ho, hb⟩; have HO := hide ho; have HB := hide hb; clear ho hb)
  have d0 : (n : Int) / 2 ^ (8 * size) = 0 := by have := HDV.out; exact_mod_cast this
  have d1 : decide ((n : Int) < 0) = false := by simp
  have d2 : decide ((size : Int) < 1) = false := by simp; omega
  have d3 : decide ((8 : Int) < (size : Int)) = false := by simp; omega
  have d4 : decide ((size : Int) < 8) = true := by simp; omega
  go_upto_region 5 with fail
  clear d0 d1 d2 d3 d4
  go_loopw [7, 8] (fun vv kk wr => ∃ (j : Nat) (V : Value), V = vv ∧ j ≤ size ∧ kk = .int .i64 ((size : Int) - 1 - j) ∧ Hid (wr.ownsRow w.heap.size T8 1 V (m + j) (cs8 (l ++ beN n size j)) ∧ Below w.heap.size w wr)) (fun _ kk _ => (intOf kk + 1).toNat)
  case atStart => exact ⟨0, _, rfl, by omega, by go_num, hide ⟨by simpa [beN] using HO.out, HB.out⟩⟩
  case round =>
    obtain ⟨j, vv, rfl, hj, rfl, HI⟩ := hrel
    by_cases hlt : j < size
    · obtain ⟨q, hq⟩ : ∃ q : Nat, (size : Int) - 1 - j = (q : Int) := ⟨size - 1 - j, by omega⟩
      have hq7 : q ≤ 6 := by omega
      obtain ⟨x, hx⟩ : ∃ x, UInt8.ofNat (n / 2 ^ (8 * q)) = x := ⟨_, rfl⟩
      have HX := hide (show beN n size (j + 1) = beN n size j ++ [x] by rw [beN_succ, ← hx, show size - 1 - j = q by omega])
      have HXV := hide (show (n : Int) / 2 ^ (8 * q) % 256 = (x.toNat : Int) by rw [← hx]; simp)
      rw [hq]
      have HQ := hide hq
      clear hq hx
      go_upto_region 6 with (at_builtin; rw [HXV.out]; (refine wpList_append_any _ rfl (.tmp 39) (.tmp 45) _ rfl w.heap.size T8 i0 _ 1 1 Try.underlying33 hi0 hz0 hz1 hz2 rfl (by omega) vv (m + j) (cs8 (l ++ beN n size j)) rfl (own_later HI.out.1 ((Below.refl _ _).alloc (Nat.le_refl _) _)) (wr.heap.size + 1) (some ⟨wr.heap.size, 0, none⟩) 1 1 (cs8 [x]) rfl (reads_one wr x) (cs8_one _) (by unfold maxLen; omega) (by omega) (by have := HI.out.2.size; simp; omega) ?_); intro v' w2 ho hg _; have HO2 := hide ho; have HG2 := hide (own_grow HI.out.1 HI.out.2 hg); clear ho hg)
      go_wp2_with fail
      go_roundw
      case rel => exact ⟨j + 1, _, rfl, by omega, by have := HQ.out; go_num, hide ⟨by have := HO2.out; rw [HX.out, ← List.append_assoc]; simpa [cs8, Nat.add_assoc] using this, HG2.out⟩⟩
      case measure => simp [intOf]
    · have e : j = size := by omega
      subst e
      have d1 : decide (0 ≤ (j : Int) - 1 - (j : Int)) = false := by simp; omega
      go_wp2
      go_ret
      exact ⟨_, rfl, HI.out⟩
end Go.Proofs.Ytddcmockdomonaa
