/- The law WideTimes, walked. -/
import Derived.Test.YtmfilhmcgagjcaaWideTimA
import Derived.Deep.CutRange
import Derived.Laws.Strings
namespace Go.Proofs.Ytmfilhmcgagjcaa
set_option linter.unusedSimpArgs false
set_option linter.unusedVariables false
open Go.RowKit
def repI (x : Int) (k : Nat) : List I2 := List.replicate k (two x)
theorem rep_snoc (x : Int) (k : Nat) : repI x k ++ [two x] = repI x (k + 1) := by unfold repI; rw [List.replicate_succ']
def okB (l : List UInt8) : Bool := decide (0 < l.length) && (decide (l.length < 18) && (decide (l = [48]) || decide (l.head? ≠ some 48)))
theorem bsz (s : ByteArray) : s.size = s.data.toList.length := by rw [Array.length_toList]; rfl
theorem ten_le {k m : Nat} (h : k ≤ m) : (10 : Int) ^ k ≤ 10 ^ m := by
  have h1 := Nat.pow_le_pow_right (n := 10) (by omega) h
  have e : ∀ n : Nat, (10 : Int) ^ n = ((10 ^ n : Nat) : Int) := fun n => by rw [Int.natCast_pow]; rfl
  rw [e, e]; exact Int.ofNat_le.2 h1
theorem str_ways (s : ByteArray) : (okB s.data.toList = false ∧ decide (0 < s.size) = false) ∨ (okB s.data.toList = false ∧ decide (0 < s.size) = true ∧ decide ((s.size : Int) < 18) = false) ∨
    (okB s.data.toList = true ∧ decide (0 < s.size) = true ∧ decide ((s.size : Int) < 18) = true ∧ (s.toList == [48]) = true) ∨
    (∃ h : 0 < s.size, okB s.data.toList = decide (s[0].toNat ≠ 48) ∧ decide (0 < s.size) = true ∧ decide ((s.size : Int) < 18) = true ∧ (s.toList == [48]) = false ∧ ((s[0].toNat : Int) != 48) = decide (s[0].toNat ≠ 48)) := by
  have hsz := bsz s
  rw [ByteArray.toList_eq]
  by_cases h0 : 0 < s.size
  · by_cases h1 : s.size < 18
    · by_cases h2 : s.data.toList = [48]
      · exact .inr (.inr (.inl ⟨by unfold okB; rw [h2]; decide, by simpa using h0, by simp; omega, by simpa using h2⟩))
      · refine .inr (.inr (.inr ⟨h0, ?_, by simpa using h0, by simp; omega, by simpa using h2, ?_⟩))
        · have e : s.data.toList.head? = some s[0] := by
            rw [List.head?_eq_getElem?, List.getElem?_eq_getElem (by omega)]; rfl
          unfold okB
          rw [e]
          have e1 : decide (0 < s.data.toList.length) = true := by simp only [decide_eq_true_iff]; omega
          have e2 : decide (s.data.toList.length < 18) = true := by simp only [decide_eq_true_iff]; omega
          rw [e1, e2, decide_eq_false h2]
          simp only [Bool.true_and, Bool.false_or, ne_eq, Option.some.injEq, decide_not, ← UInt8.toNat_inj]
          rfl
        · rw [Bool.eq_iff_iff]
          simp only [bne_iff_ne, decide_eq_true_iff, ne_eq]
          omega
    · exact .inr (.inl ⟨by unfold okB; rw [decide_eq_false (show ¬ s.data.toList.length < 18 by omega)]; simp, by simpa using h0, by simp; omega⟩)
  · exact .inl ⟨by unfold okB; rw [decide_eq_false (show ¬ 0 < s.data.toList.length by omega)]; rfl, by simpa using h0⟩
theorem okB_size {l : List UInt8} (h : okB l = true) : l.length < 18 := by unfold okB at h; simp at h; omega
theorem okB_form {l : List UInt8} (h : okB l = true) : l = [48] ∨ ∃ c, l.head? = some c ∧ c ≠ 48 := by
  unfold okB at h
  simp only [Bool.and_eq_true, Bool.or_eq_true, decide_eq_true_iff] at h
  rcases h.2.2 with h1 | h1
  · exact .inl h1
  · cases l with
    | nil => simp at h
    | cons c l => exact .inr ⟨c, rfl, fun e => h1 (by rw [e]; rfl)⟩
structure DigI (w W : World) (s : ByteArray) (j : Nat) (N : Int) (o : Bool) : Prop where
  bel : Below w.heap.size w W
  yes : o = true → okB s.data.toList = true ∧ (∀ c ∈ s.data.toList.take j, isD c) ∧ N = val (s.data.toList.take j)
theorem DigI.bnd {w W : World} {s : ByteArray} {j : Nat} {N : Int} (h : DigI w W s j N true) (hj : j < s.size) : 0 ≤ N ∧ N < 100000000000000000 := by
  obtain ⟨h1, h2, rfl⟩ := h.yes rfl
  have hsz := bsz s
  have h3 := okB_size h1
  have := val_rng _ _ rfl h2
  have h4 : (s.data.toList.take j).length ≤ 16 := by rw [List.length_take]; omega
  have h5 : (10 : Int) ^ (s.data.toList.take j).length ≤ 10 ^ 16 := ten_le h4
  omega
theorem DigI.next {w W : World} {s : ByteArray} {j : Nat} {N : Int} {c : UInt8} {p q : Bool} (h : DigI w W s j N true) (hj : j < s.size) (hc : s[j] = c) (hp : decide ((48 : Int) ≤ (c.toNat : Int)) = p) (hq : decide ((c.toNat : Int) ≤ 57) = q) :
    DigI w W s (j + 1) (N * 10 + (c.toNat : Int) - 48) (p && q) := by
  refine ⟨h.bel, fun e => ?_⟩
  obtain ⟨h1, h2, h3⟩ := h.yes rfl
  have ht : s.data.toList.take (j + 1) = s.data.toList.take j ++ [c] := by
    rw [List.take_succ_eq_append_getElem (by rw [← bsz]; exact hj), ← hc]; rfl
  refine ⟨h1, fun d hd => ?_, by rw [ht, val_snoc, h3]⟩
  rw [ht] at hd
  rcases List.mem_append.1 hd with hd | hd
  · exact h2 d hd
  · obtain rfl : d = c := by simpa using hd
    subst hp hq
    simp only [Bool.and_eq_true, decide_eq_true_iff] at e
    unfold isD; omega
theorem DigI.done {w W : World} {s : ByteArray} {j : Nat} {N : Int} (h : DigI w W s j N true) (hj : ¬ j < s.size) : i64ok N ∧ (⟨(txt N).toArray⟩ : ByteArray) = s := by
  obtain ⟨h1, h2, h3⟩ := h.yes rfl
  rw [List.take_of_length_le (by rw [← bsz]; omega)] at h2 h3
  have := val_rng _ _ rfl h2
  have h5 : (10 : Int) ^ s.data.toList.length ≤ 10 ^ 17 := ten_le (by have := okB_size h1; omega)
  refine ⟨by unfold i64ok; omega, ?_⟩
  unfold txt
  rw [if_neg (by omega), h3, dec_val _ h2 (okB_form h1)]
theorem sl2_of_own {w : World} {base n : Nat} {v : Value} {l : List Value} {E : TypeId} {k : Nat} (h : w.ownsRow base E k v n l) : ∃ A c, v = .slice A n c := by
  rcases h.2 with ⟨rfl, rfl⟩ | ⟨g, cap, cur, rfl, _⟩
  · exact ⟨_, _, rfl⟩
  · exact ⟨_, _, rfl⟩
theorem below_own {a w w' : World} {base n : Nat} {v : Value} {l : List Value} {E : TypeId} {k : Nat} (hb : Below a.heap.size a w) (ho : w.ownsRow a.heap.size E k v n l) (hg : w.grownBy w' v.ownBlock) : Below a.heap.size a w' :=
  hb.trans ⟨hg.os, hg.tape, hg.output, hg.size, fun j hj => hg.block j (by have := hb.size; omega) (by intro e; have := own_block ho j e.symm; omega)⟩
set_option maxRecDepth 100000 in
set_option maxHeartbeats 4000000 in
theorem lawTimes (x t : Int) (s : ByteArray) (w : World) (hx : i64ok x) (ht : 0 ≤ t ∧ t < 256) (hs : s.size ≤ maxLen) :
    Calls Try.prog 7 #[.int .i64 x, .int .u8 t, .string s] w fun e w' => e = .returned (.bool true) ∧ Below w.heap.size w w' := by
  obtain ⟨T, rfl⟩ := Int.eq_ofNat_of_zero_le ht.1
  have hT : T < 256 := by omega
  have HX := hide hx
  have HTR := hide (tot_rep hx T 0 (by omega))
  clear ht hx
  unfold maxLen at hs
  go_enter Try.func7, Try.ntmps7
  go_wp2_with fail
  go_loopw [7, 8] (fun v i wr => ∃ (k : Nat) (A : Option Addr) (c : Nat), k ≤ T ∧ i = .int .i64 k ∧ v = .slice A k c ∧ Hid (Below w.heap.size w wr ∧ wr.ownsRow w.heap.size 25 2 (.slice A k c) k ((repI x k).flatMap I2.enc))) (fun v i _ => T - (intOf i).toNat)
  case atStart => exact ⟨0, none, 0, by omega, rfl, rfl, hide ⟨Below.refl _ _, World.ownsRow_nil _ _ _ _⟩⟩
  case round =>
    obtain ⟨k, A, c, hk, rfl, rfl, HI⟩ := hrel
    by_cases hlt : k < T
    · go_wp2_with fail
      refine (wof_any x _ HX.out).mono ?_
      rintro e w1 ⟨rfl, hb1⟩
      have HO1 := hide (own_later HI.out.2 hb1)
      have HZ := hide (Nat.le_trans HI.out.1.size hb1.size)
      have HB1 := hide (bal (btr HI.out.1 hb1) (Obj.cells #[Value.int IntKind.i64 (two x).hi, Value.int IntKind.u64 (two x).lo] 25))
      clear hb1
      go_wp2_with (at_builtin; refine wpList_append_i2 rfl (.tmp 20) (.tmp 23) rfl w.heap.size (.slice A k c) k (repI x k) rfl (HO1.out.alloc _) w1.heap.size 1 (two x) rfl (Blk.new _ _ _) (by omega) (by simp; exact Nat.le_succ_of_le HZ.out) ?_; intro v' w2 ho hg _)
      obtain ⟨A', c', rfl⟩ := sl2_of_own ho
      rw [rep_snoc] at ho
      have HN := hide (And.intro (below_own (base := 0) HB1.out (HO1.out.alloc _) hg) ho)
      clear hg ho
      go_wp2
      go_roundw
      case rel => exact ⟨k + 1, A', c', by omega, by go_num, rfl, HN⟩
      case measure => simp [intOf]; omega
    · have hkT : k = T := by omega
      subst hkT
      have HR := hide (Sl.own (enc := I2.enc) (l := repI x k) (n := k) (by simp [repI]) rfl rfl HI.out.2)
      have HK : Hid (okAll (repI x k)) := hide (fun i hi => by simp only [repI, List.getElem_replicate]; exact two_ok (by have := HX.out; unfold i64ok at this; unfold inr; omega))
      have HM := hide (wmul_any x (k : Int) · HX.out (by unfold i64ok; omega))
      rw [Int.mul_comm x k] at HM
      go_wp2_with fail
      refine (total_any (repI x k) A k c _ HR.out HK.out (by omega)).mono ?_
      rintro e w1 ⟨rfl, hb1⟩
      rw [show tot 0 (repI x k) = some (((0 + k : Nat) : Int) * x) by have := HTR.out; simpa [repI] using this]
      rw [Nat.zero_add]
      have HB1 := hide (btr HI.out.1 hb1)
      clear hb1 hk hlt
      simp only [optI, optE]
      go_wp2_with fail
      refine wp_region_later (by kernel_rfl) (by kernel_rfl) ?_
      repeat (first | go_big_quiet_step ((first | (go_at_call 10; exact Calls.later (wanswers_any _)) | (go_at_call 13; exact Calls.later (HM.out _)))) | quiet_step ((first | (go_at_call 10; exact Calls.later (wanswers_any _)) | (go_at_call 13; exact Calls.later (HM.out _)))))
      refine wpQuiet_nil ?_; intro _ hw'; obtain ⟨L, hL⟩ := hw'; subst hL
      have HB2 := hide (btr (bal HB1.out _) L.h)
      generalize L.v = w2 at *
      go_upto_region 9 with (fail)
      go_cut [11, 12] from 44 (fun n ok W => n = .int .i64 0 ∧ ∃ b : Bool, ok = .bool b ∧ Hid (okB s.data.toList = b ∧ Below w.heap.size w W))
      case first =>
        have HS := str_ways s
        rcases HS with ⟨hk, h1⟩ | ⟨hk, h1, h2⟩ | ⟨hk, h1, h2, h3⟩ | ⟨hz, hk, h1, h2, h3, h4⟩
        case inr.inr.inr =>
          obtain ⟨b, hb⟩ : ∃ b, decide (s[0].toNat ≠ 48) = b := ⟨_, rfl⟩
          rw [hb] at hk h4
          clear hb
          have HK2 := hide hk
          clear hk
          cases b
          all_goals
            refine wp_region_later (by kernel_rfl) (by kernel_rfl) ?_
            repeat (first | go_big_quiet_step ((fail)) | quiet_step ((fail)))
            refine wpQuiet_nil ?_; intro _ hw'; obtain ⟨L, hL⟩ := hw'; subst hL
            go_wp2
            go_meet
            case rel => exact ⟨rfl, _, rfl, hide ⟨HK2.out, btr HB2.out L.h⟩⟩
        all_goals
          have HK2 := hide hk
          clear hk
          refine wp_region_later (by kernel_rfl) (by kernel_rfl) ?_
          repeat (first | go_big_quiet_step ((fail)) | quiet_step ((fail)))
          refine wpQuiet_nil ?_; intro _ hw'; obtain ⟨L, hL⟩ := hw'; subst hL
          go_wp2
          go_meet
          case rel => exact ⟨rfl, _, rfl, hide ⟨HK2.out, btr HB2.out L.h⟩⟩
      case rest =>
        obtain ⟨rfl, b, rfl, HH⟩ := hcut
        have HD : Hid (DigI w wc s 0 0 b) := hide ⟨HH.out.2, fun e => ⟨by rw [HH.out.1, e], by simp, rfl⟩⟩
        clear HH HB2 HB1 HR HK HM HTR HI
        go_wp2_with fail
        go_loopw [11, 12, 13] (fun n o i wr => ∃ (j : Nat) (N : Int) (b : Bool), j ≤ s.size ∧ i = .int .i64 j ∧ n = .int .i64 N ∧ o = .bool b ∧ Hid (DigI w wr s j N b)) (fun n o i _ => s.size - (intOf i).toNat)
        case atStart => exact ⟨0, 0, b, by omega, rfl, rfl, rfl, HD⟩
        case round =>
          obtain ⟨j, N, b, hj, rfl, rfl, rfl, HI⟩ := hrel
          clear HD
          cases b
          · by_cases hlt : j < s.size
            all_goals
              go_wp2_with fail
              go_ret
              exact ⟨rfl, HI.out.bel⟩
          · by_cases hlt : j < s.size
            · obtain ⟨N0, N1⟩ := HI.out.bnd hlt
              obtain ⟨c, hc⟩ : ∃ c, s[j] = c := ⟨_, rfl⟩
              have c1 : (c.toNat : Int) < 256 := by have := c.toNat_lt; omega
              have HC := hide hc
              cases hp : decide ((48 : Int) ≤ (c.toNat : Int)) <;> cases hq : decide ((c.toNat : Int) ≤ 57)
              all_goals
                have HN := hide (HI.out.next hlt hc hp hq)
                simp only [Bool.and_true, Bool.and_false, Bool.true_and] at HN
                go_wp2_with fail
                go_roundw
                case rel => exact ⟨j + 1, _, _, by omega, by go_num, rfl, rfl, HN⟩
                case measure => simp [intOf]; omega
            · have HF := hide (HI.out.done hlt)
              go_wp2_with fail
              refine (wof_any N _ HF.out.1).mono ?_
              rintro e w3 ⟨rfl, hb3⟩
              have HB3 := hide (btr HI.out.bel hb3)
              have HT2 := hide (text_any (two N) · (two_ok (by have := HF.out.1; unfold i64ok at this; unfold inr; omega)))
              rw [two_num, HF.out.2] at HT2
              clear hb3
              go_wp2_with fail
              refine (HT2.out _).mono ?_
              rintro e w4 ⟨rfl, hb4⟩
              have HB4 := hide (btr HB3.out hb4)
              clear hb4
              go_wp2_with fail
              go_ret
              exact ⟨rfl, HB4.out⟩
end Go.Proofs.Ytmfilhmcgagjcaa
