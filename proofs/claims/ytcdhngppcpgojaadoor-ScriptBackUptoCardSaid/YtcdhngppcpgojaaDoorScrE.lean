/- The document's numbers: Dec, Int. -/
import Derived.Test.YtcdhngppcpgojaaDoorScrD
import Derived.IntWalk
namespace Go.Proofs.YtcdhngppcpgojaaDoor
set_option linter.unusedSimpArgs false
set_option linter.unusedVariables false
open Go.RowKit
theorem str_cat (a b : List UInt8) : (⟨a.toArray⟩ ++ ⟨b.toArray⟩ : ByteArray) = ⟨(a ++ b).toArray⟩ := by
  rw [ByteArray.mk_append_mk]
theorem str_size (a : List UInt8) : (⟨a.toArray⟩ : ByteArray).size = a.length := by simp [ByteArray.size]
theorem dec_len (k : Nat) : ∀ n, n < 10 ^ (k + 1) → (Lib.decDigits n).length ≤ k + 1 := by
  induction k with
  | zero => intro n h; rw [Lib.decDigits, dif_pos (by simpa using h)]; simp
  | succ k ih =>
    intro n h
    by_cases hn : n < 10
    · rw [Lib.decDigits, dif_pos hn]; simp
    · rw [Lib.decDigits, dif_neg hn, List.length_append]
      have := ih (n / 10) (by rw [Nat.pow_succ] at h; omega)
      simp; omega
theorem dec_len64 {n : Nat} (h : n < 18446744073709551616) : (Lib.decDigits n).length ≤ 20 := dec_len 19 n (by omega)
theorem byte_nat {d : Nat} (h : d < 256) : ((UInt8.ofNat d).toNat : Int) = d := by rw [UInt8.toNat_ofNat']; omega
theorem one_string (w : World) (d : UInt8) : (convert 69 9 (.slice (some ⟨w.heap.size, 0, none⟩) 1 1)).run Tryd.prog (w.alloc (.cells #[.int .u8 d.toNat] T8)) = .ok (str [d]) (w.alloc (.cells #[.int .u8 d.toNat] T8)) :=
  run_convert_bytes_back _ 69 9 5 ⟨w.heap.size, 0, none⟩ 1 [d] Tryd.underlying69 Tryd.underlying5 Tryd.underlying9 (fun j hj => by
    have : j = 0 := by simpa using hj
    subst this
    rw [show (⟨w.heap.size, 0, none⟩ : Addr).add 0 = ⟨w.heap.size, 0, none⟩ by unfold Addr.add; simp, (Blk.new w T8 #[.int .u8 d.toNat]).cell]
    rfl)
theorem blk_string {w : World} {g : Nat} {d : UInt8} (h : Blk w g T8 #[.int .u8 d.toNat]) : (convert 69 9 (.slice (some ⟨g, 0, none⟩) 1 1)).run Tryd.prog w = .ok (str [d]) w :=
  run_convert_bytes_back _ 69 9 5 ⟨g, 0, none⟩ 1 [d] Tryd.underlying69 Tryd.underlying5 Tryd.underlying9 (fun j hj => by
    have : j = 0 := by simpa using hj
    subst this
    rw [show (⟨g, 0, none⟩ : Addr).add 0 = ⟨g, 0, none⟩ by unfold Addr.add; simp, h.cell]
    rfl)
def isB (d : UInt8) (v : Value) (w : World) : Prop := ∃ g, v = .slice (some ⟨g, 0, none⟩) 1 1 ∧ Blk w g T8 #[.int .u8 d.toNat]
theorem isB.mono {d : UInt8} {v : Value} {w w' : World} (h : isB d v w) (hb : Below w.heap.size w w') : isB d v w' := by
  obtain ⟨g, e, hk⟩ := h
  exact ⟨g, e, hk.below hb hk.lt⟩
set_option maxRecDepth 100000 in
set_option maxHeartbeats 1000000 in
theorem rdec_any (n : Nat) : ∀ w : World, n < 18446744073709551616 → Calls Tryd.prog 32 #[.int .u64 n] w fun e w' => e = .returned (str (Lib.decDigits n)) ∧ Below w.heap.size w w' := by
  induction n using Nat.strongRecOn with
  | _ n ih =>
    intro w hn
    have HIH := hide ih
    clear ih
    by_cases h10 : n < 10
    · have e1 : Lib.decDigits n = [UInt8.ofNat (48 + n)] := by rw [Lib.decDigits, dif_pos h10]
      have hs := one_string w (UInt8.ofNat (48 + n))
      rw [byte_nat (by omega)] at hs
      rw [e1]
      have hcast : ((48 + n : Nat) : Int) = 48 + (n : Int) := by omega
      rw [hcast] at hs
      have h10' : (n : Int) < 10 := by omega
      obtain ⟨d, hd⟩ : ∃ d, UInt8.ofNat (48 + n) = d := ⟨_, rfl⟩
      rw [hd] at hs ⊢
      clear e1 hcast hd
      go_enter Tryd.func32, Tryd.ntmps32
      go_wp2_with fail
      go_ret
      exact ⟨rfl, (Below.refl _ _).alloc (Nat.le_refl _) _⟩
    · have e1 : Lib.decDigits n = Lib.decDigits (n / 10) ++ [UInt8.ofNat (48 + n % 10)] := by
        conv => lhs; rw [Lib.decDigits, dif_neg h10]
      rw [e1]
      have h10' : ¬ (n : Int) < 10 := by omega
      have hlen := dec_len64 (n := n / 10) (by omega)
      obtain ⟨D, hD⟩ : ∃ D, Lib.decDigits (n / 10) = D := ⟨_, rfl⟩
      obtain ⟨d, hd⟩ : ∃ d, UInt8.ofNat (48 + n % 10) = d := ⟨_, rfl⟩
      have hdn : (d.toNat : Int) = 48 + ((n % 10 : Nat) : Int) := by rw [← hd, byte_nat (by omega)]; omega
      rw [hD, hd]
      rw [hD] at hlen
      have HD := hide hD
      have HDN := hide hdn
      have HLEN := hide hlen
      clear hD hd e1 hdn hlen
      go_enter Tryd.func32, Tryd.ntmps32
      go_wp2
      refine wp_region_facts (by kernel_rfl) (by kernel_rfl) 20
        [⟨10, fun v _ => v = .int .u64 n⟩,
         ⟨11, fun v _ => v = .int .u64 ((n / 10 : Nat) : Int)⟩,
         ⟨12, fun v _ => v = str D⟩,
         ⟨13, fun v _ => v = .int .u64 n⟩,
         ⟨14, fun v _ => v = .int .u64 ((n % 10 : Nat) : Int)⟩,
         ⟨15, fun v _ => v = .int .u64 (48 + ((n % 10 : Nat) : Int))⟩,
         ⟨16, fun v _ => v = .int .u8 d.toNat⟩,
         ⟨17, isB d⟩,
         ⟨18, fun v _ => v = str [d]⟩,
         ⟨19, fun v _ => v = str (D ++ [d])⟩,
         ⟨2, fun v _ => v = str (D ++ [d])⟩] (by kernel_rfl) rfl rfl ?_ ?_ ?_
      · intro e he v w w' _ hb hv
        simp only [List.mem_cons, List.not_mem_nil, or_false] at he
        rcases he with rfl | rfl | rfl | rfl | rfl | rfl | rfl | rfl | rfl | rfl | rfl
        all_goals first | exact hv | exact isB.mono hv hb
      · refine ⟨?_, ?_, ?_, ?_, ?_, ?_, ?_, ?_, ?_, ?_, ?_, trivial⟩
        · intro ac w3 hg hd K hK
          exact op_move _ rfl (hK _ _ (Below.refl _ _) (hg.kp 0 (by simp)))
        · intro ac w3 hg hd K hK
          have f0 := hd ⟨0, .data⟩ (by simp) rfl _ rfl
          simp [Act.eval] at f0
          go_simp
          exact hK _ _ (Below.refl _ _) (congrArg (Value.int .u64) (by first | rfl | (rw [IntWalk.u64_in _ (by omega)]; omega) | omega))
        · intro ac w3 hg hd K hK
          have f1 := hd ⟨1, .data⟩ (by simp) rfl _ rfl
          simp only [] at f1
          have f1' : ac.eval (.tmp 11) = .int .u64 ((n / 10 : Nat) : Int) := f1
          simp [Act.eval] at f1'
          go_simp
          (refine (HIH.out (n / 10) (by omega) w3 (by omega)).mono ?_)
          rintro e w4 ⟨rfl, hb4⟩
          rw [HD.out]
          exact hK (str D) w4 hb4 rfl
        · intro ac w3 hg hd K hK
          exact op_move _ rfl (hK _ _ (Below.refl _ _) (hg.kp 0 (by simp)))
        · intro ac w3 hg hd K hK
          have f0 := hd ⟨3, .data⟩ (by simp) rfl _ rfl
          simp [Act.eval] at f0
          go_simp
          exact hK _ _ (Below.refl _ _) (congrArg (Value.int .u64) (by first | rfl | omega | (rw [IntWalk.u64_in _ (by omega)]; omega)))
        · intro ac w3 hg hd K hK
          have f0 : ac.eval (.tmp 14) = .int .u64 ((n % 10 : Nat) : Int) := hd ⟨4, .data⟩ (by simp) rfl _ rfl
          simp [Act.eval] at f0
          go_simp
          exact hK _ _ (Below.refl _ _) (congrArg (Value.int .u64) (by first | rfl | (rw [IntWalk.u64_in _ (by omega)]; omega) | omega))
        · intro ac w3 hg hd K hK
          have f0 : ac.eval (.tmp 15) = .int .u64 (48 + ((n % 10 : Nat) : Int)) := hd ⟨5, .data⟩ (by simp) rfl _ rfl
          simp [Act.eval] at f0
          go_simp
          exact hK _ _ (Below.refl _ _) (congrArg (Value.int .u8) (by rw [HDN.out]; first | rfl | (rw [IntWalk.u8_in _ (by omega)]; omega) | omega))
        · intro ac w3 hg hd K hK
          have f0 : ac.eval (.tmp 16) = .int .u8 d.toNat := hd ⟨6, .data⟩ (by simp) rfl _ rfl
          simp [Act.eval] at f0
          go_simp
          exact hK (.slice (some ⟨w3.heap.size, 0, none⟩) 1 1) _ (bal (Below.refl _ _) _) ⟨_, rfl, Blk.new _ _ _⟩
        · intro ac w3 hg hd K hK
          obtain ⟨g, f0, hk⟩ := hd ⟨7, .data⟩ (by simp) rfl _ rfl
          have hs := blk_string hk
          simp [Act.eval] at f0
          go_simp
          exact hK _ _ (Below.refl _ _) rfl
        · intro ac w3 hg hd K hK
          have f0 : ac.eval (.tmp 12) = str D := hd ⟨2, .data⟩ (by simp) rfl _ rfl
          have f1 : ac.eval (.tmp 18) = str [d] := hd ⟨8, .data⟩ (by simp) rfl _ rfl
          simp [Act.eval] at f0 f1
          have hlen := HLEN.out
          go_simp
          rw [if_neg (by omega)]
          go_simp
          exact hK _ _ (Below.refl _ _) (congrArg Value.string (str_cat D [d]))
        · intro ac w3 hg hd K hK
          exact op_assign _ rfl (hK _ _ (Below.refl _ _) (hd ⟨9, .data⟩ (by simp) rfl _ rfl))
      · intro f w3 hb3 hall
        have h2 : f 2 = str (D ++ [d]) := hall ⟨2, fun v _ => v = str (D ++ [d])⟩ (by simp)
        simp only [fillF, List.map_cons, List.map_nil, List.foldl_cons, List.foldl_nil, Act.put, List.setIfInBounds_toArray, List.set_cons_zero, List.set_cons_succ]
        rw [h2]
        have HB3 := hide hb3
        clear h2 hall hb3
        go_wp2
        go_ret
        exact ⟨rfl, HB3.out⟩
set_option maxRecDepth 100000 in
set_option maxHeartbeats 1000000 in
theorem rint_any (n : Int) (w : World) (hn : -9223372036854775808 ≤ n ∧ n ≤ 9223372036854775807) : Calls Tryd.prog 26 #[.int .i64 n] w fun e w' => e = .returned (str (Lib.itoa n)) ∧ Below w.heap.size w w' := by
  obtain ⟨h1, h2⟩ := hn
  by_cases h0 : n < 0
  · obtain ⟨m, hm⟩ : ∃ m : Nat, n = -(m : Int) := ⟨n.natAbs, by omega⟩
    have e1 : Lib.itoa n = 45 :: Lib.decDigits m := by
      unfold Lib.itoa; rw [if_pos h0, show n.natAbs = m by omega]
    rw [e1]
    have hlen := dec_len64 (n := m) (by omega)
    have hz := str_size (Lib.decDigits m)
    have hc := str_cat [45] (Lib.decDigits m)
    have HCL := hide (rdec_any m w (by omega))
    have HC := hide hc
    obtain ⟨D, hD⟩ : ∃ D, Lib.decDigits m = D := ⟨_, rfl⟩
    rw [hD] at HCL HC hlen hz ⊢
    subst hm
    have hm0 : 0 < m := by omega
    have hw1 : IntKind.u64.wrap (-(m : Int)) = 18446744073709551616 - m := by rw [IntKind.wrap_u64]; omega
    have hw2 : IntKind.u64.wrap (-(18446744073709551616 - (m : Int))) = m := by rw [IntKind.wrap_u64]; omega
    have hw3 : IntKind.u64.wrap ((m : Int) - 18446744073709551616) = m := by rw [IntKind.wrap_u64]; omega
    clear e1 hc hD
    go_enter Tryd.func26, Tryd.ntmps26
    go_wp2_with (go_at_call 32; (refine HCL.out.mono ?_); rintro e w1 ⟨rfl, hb1⟩; have HB1 := hide hb1; clear hb1)
    go_ret
    exact ⟨congrArg (fun s => Ending.returned (Value.string s)) HC.out, HB1.out⟩
  · obtain ⟨m, rfl⟩ : ∃ m : Nat, n = (m : Int) := ⟨n.toNat, by omega⟩
    have e1 : Lib.itoa (m : Int) = Lib.decDigits m := by
      unfold Lib.itoa; rw [if_neg h0, Int.toNat_natCast]
    rw [e1]
    have HCL := hide (rdec_any m w (by omega))
    clear e1
    go_enter Tryd.func26, Tryd.ntmps26
    go_wp2_with (go_at_call 32; (refine HCL.out.mono ?_); rintro e w1 ⟨rfl, hb1⟩; have HB1 := hide hb1; clear hb1)
    go_ret
    exact ⟨rfl, HB1.out⟩
end Go.Proofs.YtcdhngppcpgojaaDoor
