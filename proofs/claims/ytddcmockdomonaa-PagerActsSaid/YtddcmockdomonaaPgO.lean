/- The frame's Num: the number at a place. -/
import Derived.Test.YtddcmockdomonaaPgN
namespace Go.Proofs.Ytddcmockdomonaa
set_option linter.unusedSimpArgs false
set_option linter.unusedVariables false
open Go.RowKit
def evS (n : Nat) (x : UInt8) : Nat := n * 256 + x.toNat
/-- The number that bytes are. -/
def evN (l : Cn) : Nat := l.foldl evS 0
theorem evN_succ (l : Cn) {k : Nat} (h : k < l.length) : evN (l.take (k + 1)) = evN (l.take k) * 256 + l[k].toNat := by
  unfold evN
  rw [List.take_succ_eq_append_getElem h, List.foldl_append]
  rfl
theorem evN_lt (l : Cn) : ∀ k, k ≤ l.length → evN (l.take k) < 2 ^ (8 * k)
  | 0, _ => by simp [evN]
  | k + 1, h => by
    rw [evN_succ l (by omega)]
    have h1 := evN_lt l k (by omega)
    have h2 := l[k].toNat_lt
    have h3 : 2 ^ (8 * (k + 1)) = 2 ^ (8 * k) * 256 := by rw [show 8 * (k + 1) = 8 * k + 8 by omega, Nat.pow_add]
    omega
theorem RB.sub {w : World} {B : Nat} {A : Option Addr} {n : Nat} {l : Cn} (h : RB w B A n l) {i k cap : Nat} (hk : i + k ≤ n) (h0 : 0 < k) (hc : n ≤ cap) : ∃ ad, A = some ad ∧ ad.block < B ∧ RB w B (some (ad.add i)) k ((l.drop i).take k) := by
  obtain ⟨ad, e, hb, hcell⟩ := h.2 (by omega)
  have hl := RB.len h
  refine ⟨ad, e, hb, by rw [cs8_len, List.length_take, List.length_drop]; omega, fun _ => ⟨_, rfl, by rw [block_of_add]; exact hb, fun j u hu => ?_⟩⟩
  rw [add_of_add]
  refine hcell _ u ?_
  rw [cs8_get] at hu ⊢
  rw [List.getElem?_take] at hu
  split at hu
  · rw [List.getElem?_drop] at hu; exact hu
  · cases hu
set_option maxRecDepth 100000 in
set_option maxHeartbeats 1000000 in
theorem num_any (A : Option Addr) (n c : Nat) (l : Cn) (i k : Nat) (w : World) (hr : RB w w.heap.size A n l) (hc : n ≤ c) (hn : n ≤ 600) (hk : 1 ≤ k ∧ k ≤ 7) (hi : i + k ≤ n) :
    Calls Try.prog 43 #[.slice A n c, .int .i64 i, .int .i64 k] w fun e w' => e = .returned (.tuple #[.int .i64 (evN ((l.drop i).take k) : Int), .int .i64 0]) ∧ Below w.heap.size w w' := by
  obtain ⟨ad, rfl, hab, hs⟩ := RB.sub hr hi hk.1 hc
  obtain ⟨M, hM⟩ : ∃ M, (l.drop i).take k = M := ⟨_, rfl⟩
  rw [hM] at hs ⊢
  have HS := hide hs
  have HL := hide (RB.len hs)
  clear hs hr hM
  obtain ⟨k1, k2⟩ := hk
  have d1 : decide ((k : Int) < 1) = false := by simp; omega
  have d2 : decide ((7 : Int) < k) = false := by simp; omega
  have d3 : decide ((i : Int) < 0) = false := by simp
  have d4 : decide ((n : Int) < i) = false := by simp; omega
  have d5 : decide ((n : Int) - i < k) = false := by simp; omega
  have n1 : ¬ c = i := by omega
  go_enter Try.func43, Try.ntmps43
  go_upto_region 7 with fail
  have e1 : i + k - i = k := by omega
  simp only [e1]
  clear d1 d2 d3 d4 d5 n1 e1
  go_loopw [8, 40] (fun nv kk wr => ∃ j : Nat, j ≤ k ∧ kk = .int .i64 j ∧ Hid (nv = .int .i64 (evN (M.take j) : Int)) ∧ wr = w) (fun _ kk _ => k - (intOf kk).toNat)
  case atStart => exact ⟨0, by omega, rfl, rfl, rfl⟩
  case round =>
    obtain ⟨j, hj, rfl, HV, rfl⟩ := hrel
    by_cases hlt : j < k
    · obtain ⟨ad', e', hab', hac⟩ := RB.at_ HS.out hlt (by rw [HL.out]; exact hlt)
      injection e' with e'
      subst e'
      obtain ⟨x, hx⟩ : ∃ x, M[j]'(by rw [HL.out]; exact hlt) = x := ⟨_, rfl⟩
      rw [hx] at hac
      obtain ⟨c0, hc0⟩ : ∃ c0, evN (M.take j) = c0 := ⟨_, rfl⟩
      rw [hc0] at HV
      have hcl : c0 < 281474976710656 := by
        have h1 := evN_lt M j (by rw [HL.out]; exact hj)
        have h2 : 2 ^ (8 * j) ≤ 2 ^ 48 := Nat.pow_le_pow_right (by omega) (by omega)
        rw [hc0] at h1
        omega
      have HC1 := hide (show evN (M.take (j + 1)) = c0 * 256 + x.toNat by rw [evN_succ M (by rw [HL.out]; exact hlt), hc0, hx])
      have hxl := x.toNat_lt
      have h1 : bits .or .i64 ((c0 : Int) * 256) (x.toNat : Int) = (c0 : Int) * 256 + (x.toNat : Int) :=
        bits_join .i64 63 (by decide) (fun n h0 h1 => by rw [show IntKind.i64.wrap n = n from ?_]; simp [IntKind.wrap, IntKind.bits, IntKind.signed]; omega) 8 _ _ (by omega) (by omega) (by omega) (by omega) (by omega) (by omega)
      clear hx hc0
      obtain rfl := HV.out
      go_upto_region 10 with fail
      go_wp2
      go_roundw
      case rel => exact ⟨j + 1, by omega, by go_num, hide (by rw [HC1.out]; go_num), trivial⟩
      case measure => simp [intOf]; omega
    · have e : j = k := by omega
      subst e
      obtain rfl := HV.out
      go_wp2
      refine bodyPost_ret (v := .tuple #[.int .i64 (evN M : Int), .int .i64 0]) ?_ rfl ⟨rfl, Below.refl _ _⟩
      simp [results, Try.results43, go_sem]
      rw [List.take_of_length_le (by rw [HL.out]; exact Nat.le_refl _)]
theorem pos_any (x : UInt8) (w : World) : Calls Try.prog 48 #[.int .u8 (x.toNat : Int)] w fun e w' => e = .returned (.bool (decide (0 < x.toNat))) ∧ Below w.heap.size w w' := by
  have h : decide ((0 : Int) < (x.toNat : Int)) = decide (0 < x.toNat) := by simp
  go_enter Try.func48, Try.ntmps48
  go_wp2_with fail
  go_ret
  exact ⟨ret_bool (by first | exact h | simp), Below.refl _ _⟩
def anyP (l : Cn) : Bool := l.any fun x => decide (0 < x.toNat)
set_option maxRecDepth 100000 in
set_option maxHeartbeats 1000000 in
theorem index_any (A : Option Addr) (n c : Nat) (l : Cn) (w : World) (hr : RB w w.heap.size A n l) (hn : n ≤ 600) :
    Calls Try.prog 50 #[.slice A n c, .func (.func 48) #[] #[]] w fun e w' => (∃ r : Int, e = .returned (.int .i64 r) ∧ decide (0 ≤ r) = anyP l) ∧ Below w.heap.size w w' := by
  have HR := hide hr
  have HN := hide (RB.len hr)
  clear hr
  go_enter Try.func50, Try.ntmps50
  go_wp2_with fail
  go_loopw [8] (fun kk wr => ∃ j : Nat, j ≤ n ∧ kk = .int .i64 j ∧ Hid (anyP (l.take j) = false ∧ Below w.heap.size w wr)) (fun kk _ => n - (intOf kk).toNat)
  case atStart => exact ⟨0, by omega, rfl, hide ⟨rfl, Below.refl _ _⟩⟩
  case round =>
    obtain ⟨j, hj, rfl, HI⟩ := hrel
    by_cases hlt : j < n
    · have hjl : j < l.length := by rw [HN.out]; exact hlt
      obtain ⟨ad, rfl, hab, hac⟩ := RB.at_ (HR.out.below HI.out.2) hlt hjl
      obtain ⟨x, hx⟩ : ∃ x, l[j]'hjl = x := ⟨_, rfl⟩
      rw [hx] at hac
      have HC := hide (show anyP (l.take (j + 1)) = decide (0 < x.toNat) by
        have h1 := HI.out.1
        unfold anyP at h1 ⊢
        rw [List.take_succ_eq_append_getElem hjl, List.any_append, h1, hx]; simp)
      clear hx
      cases hd : decide (0 < x.toNat)
      · rw [hd] at HC
        go_wp2_with (go_at_call 48; (refine (pos_any x _).mono ?_); rintro e w1 ⟨rfl, hb⟩; rw [hd]; have HB := hide (HI.out.2.trans (hb.mono HI.out.2.size)); clear hb)
        go_roundw
        case rel => exact ⟨j + 1, by omega, by go_num, hide ⟨HC.out, HB.out⟩⟩
        case measure => simp [intOf]; omega
      · rw [hd] at HC
        go_wp2_with (go_at_call 48; (refine (pos_any x _).mono ?_); rintro e w1 ⟨rfl, hb⟩; rw [hd]; have HB := hide (HI.out.2.trans (hb.mono HI.out.2.size)); clear hb)
        go_ret
        refine ⟨⟨_, rfl, ?_⟩, HB.out⟩
        have h1 := HC.out
        have h2 : anyP l = true := by
          unfold anyP at h1 ⊢
          rw [← List.take_append_drop (j + 1) l, List.any_append, h1]; rfl
        rw [h2]; simp
    · have e : j = n := by omega
      subst e
      go_wp2
      go_ret
      refine ⟨⟨_, rfl, ?_⟩, HI.out.2⟩
      have h1 := HI.out.1
      rw [List.take_of_length_le (by rw [HN.out]; exact Nat.le_refl _)] at h1
      rw [h1]; simp
theorem contains_any (A : Option Addr) (n c : Nat) (l : Cn) (w : World) (hr : RB w w.heap.size A n l) (hn : n ≤ 600) :
    Calls Try.prog 47 #[.slice A n c, .func (.func 48) #[] #[]] w fun e w' => e = .returned (.bool (anyP l)) ∧ Below w.heap.size w w' := by
  have HR := hide hr
  clear hr
  go_enter Try.func47, Try.ntmps47
  go_wp2_with (go_at_call 50; (refine (index_any A n c l w HR.out hn).mono ?_); rintro e w1 ⟨⟨r, rfl, h⟩, hb⟩; have HB := hide hb; clear hb)
  go_ret
  exact ⟨rfl, HB.out⟩
end Go.Proofs.Ytddcmockdomonaa
