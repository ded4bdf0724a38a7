/- FormatUint at base 10. -/
import Derived.Test.YtcdhngppcpgojaaDoorScrG
namespace Go.Proofs.YtcdhngppcpgojaaDoor
set_option linter.unusedSimpArgs false
set_option linter.unusedVariables false
open Go.RowKit
open Go.Sort (putRow Holds)
theorem holds0 (w : World) (T : TypeId) (nd : Nat) (hs : nd ≤ 24) : Holds (fun (b : UInt8) => Value.int .u8 (b.toNat : Int)) (w.alloc (.cells Lib.zeros24 T)) w.heap.size 0 (Array.replicate nd (0 : UInt8)) := fun j hj => by
  have hj' : j < nd := by simpa using hj
  refine ⟨?_, World.frozen?_alloc_new _ _ _ _⟩
  rw [World.cell?_alloc_new, Lib.zeros24_at _ (by omega), getElem!_pos _ j hj]
  simp
theorem fin0 (w : World) (o : Obj) (dk : Array UInt8) (k : Nat) : Below w.heap.size w ((putRow (fun (b : UInt8) => Value.int .u8 (b.toNat : Int)) (w.alloc o) w.heap.size 0 dk).drewN k) := by
  rw [Sort.alloc_eq_grow]
  obtain ⟨os', _, e⟩ := Sort.putRow_grow_new (fun (b : UInt8) => Value.int .u8 (b.toNat : Int)) w #[o] w.heap.size 0 dk (Nat.le_refl _)
  rw [e]
  exact below_drewN (Lib.below_grow w.heap.size w (Nat.le_refl _) 0 os') k
theorem fmt_conv (w : World) (u k v' : Nat) (dk : Array UInt8) (hF : Lib.FmtInv (Lib.nDigits u) u 0 v' dk) (hH0 : Holds (fun (b : UInt8) => Value.int .u8 (b.toNat : Int)) (w.alloc (.cells Lib.zeros24 110)) w.heap.size 0 (Array.replicate (Lib.nDigits u) (0 : UInt8))) :
    (convert 69 9 (.slice (some ⟨w.heap.size, 0, none⟩) (Lib.nDigits u) 24)).run Tryd.prog ((putRow (fun (b : UInt8) => Value.int .u8 (b.toNat : Int)) (w.alloc (.cells Lib.zeros24 110)) w.heap.size 0 dk).drewN k) = .ok (str (Lib.decDigits u)) ((putRow (fun (b : UInt8) => Value.int .u8 (b.toNat : Int)) (w.alloc (.cells Lib.zeros24 110)) w.heap.size 0 dk).drewN k) := by
  have h := run_convert_bytes_back (P := Tryd.prog) ((putRow (fun (b : UInt8) => Value.int .u8 (b.toNat : Int)) (w.alloc (.cells Lib.zeros24 110)) w.heap.size 0 dk).drewN k) 69 9 5 ⟨w.heap.size, 0, none⟩ 24 (Lib.decDigits u) Tryd.underlying69 Tryd.underlying5 Tryd.underlying9 (fun j hj => by
    rw [Lib.row_is_numeral hF j hj, Lib.add_plain, World.cell?_drewN]
    exact Sort.cell?_putRow (fun (b : UInt8) => Value.int .u8 (b.toNat : Int)) _ w.heap.size 0 _ dk hH0 (by rw [hF.size, Array.size_replicate]) j (by rw [hF.size]; rw [Lib.decDigits_length] at hj; exact hj))
  rw [Lib.decDigits_length] at h
  exact h
set_option maxRecDepth 100000 in
set_option maxHeartbeats 2000000 in
theorem ifmtu_any (u : Nat) (w : World) (hu64 : u < 18446744073709551616) (ht : Tab w) :
    Calls Tryd.prog 49 #[.int .u64 u, .int .i64 10] w fun e w' => e = .returned (str (Lib.decDigits u)) ∧ Below w.heap.size w w' := by
  by_cases hs : u < 100
  · have hsI : (u : Int) < 100 := by omega
    go_enter Tryd.func49, Tryd.ntmps49
    go_wp2_with (go_at_call 64; (refine (Tryd.internal_strconv_small u hs w).mono ?_); rintro e w' ⟨rfl, rfl⟩)
    go_ret
    exact ⟨rfl, Below.refl _ _⟩
  · have hu1 : 1 ≤ u := by omega
    have hsI : ¬ (u : Int) < 100 := by omega
    have hnd20 : Lib.nDigits u ≤ 20 := by have := Lib.numDigits_eq u hu1 hu64; split at this <;> omega
    have hal : Tryd.prog.arrayLen 110 = 24 := by kernel_rfl
    have hsl : ∀ W, (Instr.sliceAt 110 (.pointer (some ⟨w.heap.size, 0, none⟩)) none (some (.int .i64 (Lib.nDigits u : Int))) none).run Tryd.prog W = .ok (.slice (some ⟨w.heap.size, 0, none⟩) (Lib.nDigits u) 24) W := fun W => by
      rw [run_sliceAt_array_h W 110 ⟨w.heap.size, 0, none⟩ (by kernel_rfl) .i64 (Lib.nDigits u : Int) (by omega) (by rw [hal]; omega)]
      go_simp
      try omega
    have hH0 := holds0 w 110 (Lib.nDigits u) (by omega)
    have hfmt := Tryd.internal_strconv_formatBase10 w.heap.size 0 24 u (Array.replicate (Lib.nDigits u) 0) (w.alloc (.cells Lib.zeros24 110)) hH0 (by rw [Array.size_replicate]; exact Lib.lt_pow_nDigits u) hu64 (by rw [Array.size_replicate]; omega)
    rw [Array.size_replicate] at hfmt
    have HH0 := hide hH0
    have HFMT := hide hfmt
    have HND := hide (Tryd.internal_strconv_numDigits u hu1 hu64 (w.alloc (.cells Lib.zeros24 110)) (ht.below ((Below.refl _ _).alloc (Nat.le_refl _) _)))
    clear hH0 hal hfmt ht
    go_enter Tryd.func49, Tryd.ntmps49
    go_wp2_with (first | (go_at_call 65; (refine HND.out.mono ?_); rintro e w' ⟨rfl, rfl⟩) | (go_at_call 66; (refine HFMT.out.mono ?_); rintro e w' ⟨rfl, k, v', dk, rfl, hF⟩; have hcv := fmt_conv w u k v' dk hF HH0.out; clear hF))
    go_ret
    exact ⟨rfl, fin0 _ _ _ _⟩
set_option maxHeartbeats 1000000 in
theorem fmtu_any (u : Nat) (w : World) (hu64 : u < 18446744073709551616) (ht : Tab w) :
    Calls Tryd.prog 30 #[.int .u64 u, .int .i64 10] w fun e w' => e = .returned (str (Lib.decDigits u)) ∧ Below w.heap.size w w' := by
  have HC := hide (ifmtu_any u w hu64 ht)
  clear ht
  go_enter Tryd.func30, Tryd.ntmps30
  go_wp2_with (go_at_call 49; (refine HC.out.mono ?_); rintro e w1 ⟨rfl, hb1⟩; have HB1 := hide hb1; clear hb1)
  go_ret
  exact ⟨rfl, HB1.out⟩
end Go.Proofs.YtcdhngppcpgojaaDoor
