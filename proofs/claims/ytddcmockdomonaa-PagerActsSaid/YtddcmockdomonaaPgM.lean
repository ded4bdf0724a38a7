/- The frame's Sum: a number of 32 bits that the bytes alone fix. -/
import Derived.Test.YtddcmockdomonaaPgL
import Derived.BigRegion
import Derived.Laws.BitsAllLaws
import Derived.Lib.EndianBits
namespace Go.Proofs.Ytddcmockdomonaa
set_option linter.unusedSimpArgs false
set_option linter.unusedVariables false
open Go.RowKit
/-- A slice of bytes that can be read. -/
abbrev RB (w : World) (B : Nat) (A : Option Addr) (n : Nat) (l : Cn) : Prop := Reads w B 1 A n (cs8 l)
theorem RB.len {w : World} {B : Nat} {A : Option Addr} {n : Nat} {l : Cn} (h : RB w B A n l) : l.length = n := by have := h.1; rw [cs8_len] at this; omega
theorem RB.at_ {w : World} {B : Nat} {A : Option Addr} {n : Nat} {l : Cn} (h : RB w B A n l) {k : Nat} (hk : k < n) (hl : k < l.length) : ∃ ad, A = some ad ∧ ad.block < B ∧ w.cell? (ad.add k) = some (.int .u8 (l[k].toNat : Int)) := by
  obtain ⟨ad, u, e, hb, hu, hc⟩ := Reads.at_ h hk
  rw [cs8_get, List.getElem?_eq_getElem hl] at hu
  injection hu with hu
  exact ⟨ad, e, hb, by rw [hc, ← hu]; rfl⟩
def crcT : List Nat := [0, 498536548, 997073096, 651767980, 1994146192, 1802195444, 1303535960, 1342533948, 3988292384, 4027552580, 3604390888, 3412177804, 2607071920, 2262029012, 2685067896, 3183342108]
theorem crcT_len : crcT.length = 16 := rfl
theorem crcT_lt : ∀ x ∈ crcT, x < 4294967296 := by decide
def crcN (c : Nat) : Nat := (c / 16) ^^^ (crcT[c % 16]'(by rw [crcT_len]; omega))
theorem crcN_lt {c : Nat} (h : c < 4294967296) : crcN c < 4294967296 := by
  have := crcT_lt _ (List.getElem_mem (l := crcT) (n := c % 16) (by rw [crcT_len]; omega))
  exact Nat.xor_lt_two_pow (n := 32) (by omega) this
def crcB (c : Nat) (x : UInt8) : Nat := crcN (crcN (c ^^^ x.toNat))
theorem crcB_lt {c : Nat} {x : UInt8} (h : c < 4294967296) : crcB c x < 4294967296 :=
  crcN_lt (crcN_lt (Nat.xor_lt_two_pow (n := 32) h (by have := x.toNat_lt; omega)))
def crcL (l : Cn) : Nat := l.foldl crcB 4294967295
theorem crcF_lt : ∀ (l : Cn) (c : Nat), c < 4294967296 → l.foldl crcB c < 4294967296
  | [], c, h => h
  | x :: l, c, h => crcF_lt l _ (crcB_lt h)
theorem crcL_lt (l : Cn) : crcL l < 4294967296 := crcF_lt l _ (by omega)
theorem crcL_succ (l : Cn) {k : Nat} (h : k < l.length) : crcL (l.take (k + 1)) = crcB (crcL (l.take k)) l[k] := by
  unfold crcL
  rw [List.take_succ_eq_append_getElem h, List.foldl_append]
  rfl
/-- The sum of bytes. -/
def sumF (l : Cn) : Nat := 4294967295 ^^^ crcL l
theorem sumF_lt (l : Cn) : sumF l < 4294967296 := Nat.xor_lt_two_pow (n := 32) (by omega) (crcL_lt l)
def crcA : Array Value := (crcT.map fun (x : Nat) => Value.int .u32 ((x : Nat) : Int)).toArray
theorem crcA_at {k : Nat} (h : k < 16) : crcA[k]? = some (.int .u32 ((crcT[k]'(by rw [crcT_len]; exact h) : Nat) : Int)) := by
  unfold crcA
  rw [List.getElem?_toArray, List.getElem?_map, List.getElem?_eq_getElem (by rw [crcT_len]; exact h)]
  rfl
theorem crc_step {W : World} {B : Nat} {T : TypeId} (hb : Blk W B T crcA) {c1 : Nat} (hl : c1 < 4294967296) : ∃ (c2 m : Nat), ∃ t : Nat, ∃ _ : W.cell? ⟨B, m, none⟩ = some (.int .u32 (t : Int)), bits .xor .u32 ((c1 : Int) / 16) (t : Int) = (c2 : Int) ∧ bits .and .u32 (c1 : Int) 15 = (m : Int) ∧ m < 16 ∧ c2 < 4294967296 ∧ Hid (crcN c1 = c2) := by
  have ht := crcT_lt _ (List.getElem_mem (l := crcT) (n := c1 % 16) (by rw [crcT_len]; omega))
  refine ⟨crcN c1, c1 % 16, crcT[c1 % 16]'(by rw [crcT_len]; omega), ?_, ?_, ?_, by omega, crcN_lt hl, rfl⟩
  · rw [hb.cell, crcA_at (by omega)]
  · rw [show (c1 : Int) / 16 = ((c1 / 16 : Nat) : Int) by omega]
    exact u32_xor_nat _ _ (by omega) ht
  · have := u32_and_nat c1 15 hl (by omega)
    rw [show (15 : Int) = ((15 : Nat) : Int) by rfl, this, show c1 &&& 15 = c1 % 16 from Nat.and_two_pow_sub_one_eq_mod c1 4]
set_option maxRecDepth 100000 in
set_option maxHeartbeats 1000000 in
theorem sum_any (A : Option Addr) (n c : Nat) (l : Cn) (w : World) (hr : RB w w.heap.size A n l) (hn : n ≤ 9223372036854775807) :
    Calls Try.prog 44 #[.slice A n c] w fun e w' => e = .returned (.int .u32 (sumF l : Int)) ∧ Below w.heap.size w w' := by
  have HR := hide hr
  have HN := hide (RB.len hr)
  clear hr
  go_enter Try.func44, Try.ntmps44
  go_wp2_with fail
  go_loopw [4, 10] (fun cv i wr => ∃ k : Nat, k ≤ n ∧ i = .int .i64 k ∧ Hid (cv = .int .u32 (crcL (l.take k) : Int)) ∧ Hid (Below w.heap.size w wr ∧ Blk wr w.heap.size 95 crcA)) (fun _ i _ => n - (intOf i).toNat)
  case atStart => exact ⟨0, by omega, rfl, rfl, hide ⟨by (repeat (first | exact Below.refl _ _ | refine Below.drew ?_ | refine Below.setCell ?_ (by simp; try omega) _ | refine bal ?_ _)), Blk.new w _ _⟩⟩
  case round =>
    obtain ⟨k, hk, rfl, HC, HI⟩ := hrel
    by_cases hlt : k < n
    · obtain ⟨ad, rfl, hab, hac⟩ := RB.at_ (HR.out.below HI.out.1) hlt (by rw [HN.out]; exact hlt)
      obtain ⟨x, hx⟩ : ∃ x, l[k]'(by rw [HN.out]; exact hlt) = x := ⟨_, rfl⟩
      rw [hx] at hac
      have HX := hide hx
      obtain ⟨c0, hc0⟩ : ∃ c0, crcL (l.take k) = c0 := ⟨_, rfl⟩
      rw [hc0] at HC
      have hcl : c0 < 4294967296 := by rw [← hc0]; exact crcL_lt _
      have HC0 := hide hc0
      clear hx hc0
      obtain rfl := HC.out
      obtain ⟨c1, h1, hl1, HC1⟩ : ∃ c1 : Nat, bits .xor .u32 (c0 : Int) ((x.toNat : Int) % 4294967296) = (c1 : Int) ∧ c1 < 4294967296 ∧ Hid (c0 ^^^ x.toNat = c1) := by
        have hx := x.toNat_lt
        refine ⟨_, ?_, ?_, rfl⟩
        · rw [show (x.toNat : Int) % 4294967296 = ((x.toNat : Nat) : Int) by omega]
          exact u32_xor_nat c0 x.toNat hcl (by omega)
        · exact Nat.xor_lt_two_pow (n := 32) hcl (by omega)
      obtain ⟨c2, m1, t1, k1, h2, a1, g1, hl2, HC2⟩ := crc_step HI.out.2 hl1
      obtain ⟨c3, m2, t2, k2, h3, a2, g2, hl3, HC3⟩ := crc_step HI.out.2 hl2
      have z1 := HI.out.2.lt
      go_upto_region 9 with fail
      go_wp2
      go_roundw
      case rel => exact ⟨k + 1, by omega, by go_num, hide (by rw [crcL_succ l (by rw [HN.out]; exact hlt), HC0.out, HX.out]; unfold crcB; rw [HC1.out, HC2.out, HC3.out]), HI⟩
      case measure => simp [intOf]; omega
    · have e : k = n := by omega
      subst e
      obtain rfl := HC.out
      go_wp2
      refine bodyPost_ret (v := .int .u32 (sumF l : Int)) ?_ rfl ⟨rfl, HI.out.1⟩
      have h := u32_xor_nat 4294967295 (crcL l) (by omega) (crcL_lt l)
      simp [results, Try.results44, go_sem]
      rw [List.take_of_length_le (by rw [HN.out]; exact Nat.le_refl _)]
      exact h
end Go.Proofs.Ytddcmockdomonaa
