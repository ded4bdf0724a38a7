/- The JSON reader: what stands behind a backslash. -/
import Derived.Test.YtmbjalcphdggnaaDoorJsE
namespace Go.Proofs.YtmbjalcphdggnaaDoor
set_option linter.unusedSimpArgs false
set_option linter.unusedVariables false
open Go.RowKit
def hexV (c : UInt8) : Option Nat :=
  if isDg c then some (c.toNat - 48) else if 97 ≤ c.toNat ∧ c.toNat ≤ 102 then some (c.toNat - 87) else if 65 ≤ c.toNat ∧ c.toNat ≤ 70 then some (c.toNat - 55) else none
def fourS : Nat → L8 → Nat → Option Nat
  | 0, _, m => some m
  | _ + 1, [], _ => none
  | f + 1, c :: s, m => match hexV c with
    | none => none
    | some d => fourS f s (m * 16 + d)
def hexLo : L8 := [97, 98, 99, 100, 101, 102]
def hexUp : L8 := [65, 66, 67, 68, 69, 70]
theorem u8_all (p : UInt8 → Prop) [DecidablePred p] (h : ∀ k : Fin 256, p (UInt8.ofNat k.val)) (c : UInt8) : p c := by
  have := h ⟨c.toNat, c.toNat_lt⟩
  simpa using this
theorem lo_is (c : UInt8) : hexLo.contains c = (decide (97 ≤ c.toNat) && decide (c.toNat ≤ 102)) := u8_all (fun c => hexLo.contains c = (decide (97 ≤ c.toNat) && decide (c.toNat ≤ 102))) (by decide +kernel) c
theorem up_is (c : UInt8) : hexUp.contains c = (decide (65 ≤ c.toNat) && decide (c.toNat ≤ 70)) := u8_all (fun c => hexUp.contains c = (decide (65 ≤ c.toNat) && decide (c.toNat ≤ 70))) (by decide +kernel) c
theorem hexV_lt {c : UInt8} {d : Nat} (h : hexV c = some d) : d < 16 := by
  unfold hexV isDg at h
  split at h
  · rename_i h1; simp at h1; injection h; omega
  · split at h
    · injection h; omega
    · split at h
      · injection h; omega
      · cases h
theorem fourS_lt : ∀ (f : Nat) (s : L8) (m k : Nat), fourS f s m = some k → k < (m + 1) * 16 ^ f
  | 0, _, m, k, h => by simp [fourS] at h; omega
  | f + 1, [], m, k, h => by simp [fourS] at h
  | f + 1, c :: s, m, k, h => by
    unfold fourS at h
    cases hc : hexV c with
    | none => rw [hc] at h; cases h
    | some d =>
      rw [hc] at h
      have := fourS_lt f s _ k h
      have hd := hexV_lt hc
      calc k < (m * 16 + d + 1) * 16 ^ f := this
        _ ≤ (16 * (m + 1)) * 16 ^ f := Nat.mul_le_mul_right _ (by omega)
        _ = (m + 1) * 16 ^ (f + 1) := by rw [Nat.pow_succ, Nat.mul_comm 16 (m + 1), Nat.mul_assoc, Nat.mul_comm 16 (16 ^ f)]
section
variable {w w' : World} {rb : Nat} {A : Option Addr} {n c : Nat} {b : L8} {at_ k ta : Nat} {tx : L8}
theorem fourS_at (f i m : Nat) (h : i < b.length) : fourS (f + 1) (b.drop i) m = match hexV b[i] with | none => none | some d => fourS f (b.drop (i + 1)) (m * 16 + d) := by rw [drop_cons h]; rfl
theorem wrap_i32 {x : Int} (h1 : -2147483648 ≤ x) (h2 : x < 2147483648) : IntKind.i32.wrap x = x := by
  simp only [IntKind.wrap, IntKind.bits, IntKind.signed]
  simp
  omega
theorem hex_dg {x : UInt8} (h : isDg x = true) : 48 ≤ x.toNat ∧ x.toNat ≤ 57 ∧ hexV x = some (x.toNat - 48) := by
  have h' := h
  unfold isDg at h'
  simp at h'
  exact ⟨h'.1, h'.2, by unfold hexV; rw [if_pos h]⟩
theorem hex_lo {x : UInt8} (h0 : isDg x = false) (h : hexLo.contains x = true) : 97 ≤ x.toNat ∧ x.toNat ≤ 102 ∧ hexV x = some (x.toNat - 87) := by
  rw [lo_is] at h
  simp at h
  exact ⟨h.1, h.2, by unfold hexV; rw [if_neg (by rw [h0]; decide), if_pos h]⟩
theorem hex_up {x : UInt8} (h0 : isDg x = false) (h1 : hexLo.contains x = false) (h : hexUp.contains x = true) : 65 ≤ x.toNat ∧ x.toNat ≤ 70 ∧ hexV x = some (x.toNat - 55) := by
  rw [up_is] at h
  simp at h
  exact ⟨h.1, h.2, by unfold hexV; rw [if_neg (by rw [h0]; decide), if_neg (by omega), if_pos h]⟩
theorem hex_no {x : UInt8} (h0 : isDg x = false) (h1 : hexLo.contains x = false) (h : hexUp.contains x = false) : hexV x = none := by
  rw [up_is] at h
  rw [lo_is] at h1
  unfold hexV
  rw [if_neg (by rw [h0]; decide), if_neg (by intro ⟨a, b⟩; simp [a] at h1; omega), if_neg (by intro ⟨a, b⟩; simp [a] at h; omega)]
set_option maxRecDepth 100000 in
set_option maxHeartbeats 2000000 in
theorem four_any (at0 : Nat) (x0 : Int) (hx0 : x0 = (at0 : Int)) (ha0 : at0 ≤ 1048576) (h : Rd w rb A n c b at_ k ta tx) :
    Calls Tryd.prog 51 #[.pointer (some ⟨rb, 0, none⟩), .int .i64 x0] w fun e w' =>
      (∃ m, fourS 4 (b.drop at0) 0 = some m ∧ e = .returned (.int .i32 (m : Int)) ∧ Below w.heap.size w w') ∨ (fourS 4 (b.drop at0) 0 = none ∧ e = .panicked (flt ta 11) ∧ Below w.heap.size w w') := by
  subst hx0
  have H := hide h
  have HL := hide h.len
  have hn := h.hn
  have HX := hide (show ∀ i, i < n → ∀ hl : i < b.length, ∃ ad, A = some ad ∧ ad.block < w.heap.size ∧ w.cell? (ad.add i) = some (.int .u8 (b[i].toNat : Int)) from fun i hi hl => RB.at_ h.rd hi hl)
  clear h
  go_enter Tryd.func51, Tryd.ntmps51
  go_wp2_with fail
  go_loopw [5, 6] (fun nv iv wr => ∃ i m : Nat, at0 ≤ i ∧ i ≤ at0 + 4 ∧ m < 16 ^ (i - at0) ∧ nv = .int .i32 (m : Int) ∧ iv = .int .i64 (i : Int) ∧ Hid (Below w.heap.size w wr) ∧ Hid (fourS (at0 + 4 - i) (b.drop i) m = fourS 4 (b.drop at0) 0)) (fun _ iv _ => at0 + 4 - (intOf iv).toNat)
  case atStart => exact ⟨at0, 0, by omega, by omega, by rw [Nat.sub_self]; decide, rfl, rfl, hide (Below.refl _ _), hide (by rw [Nat.add_sub_cancel_left])⟩
  case round =>
    obtain ⟨i, m, hi, hi4, hm, rfl, rfl, HB, HR⟩ := hrel
    have kr := (H.out.below HB.out).blk.cell; have fr := (H.out.below HB.out).blk.frozen; have zr := (H.out.below HB.out).blk.lt
    by_cases h4 : i < at0 + 4
    · have hm2 : m < 4096 := Nat.lt_of_lt_of_le hm (Nat.le_trans (Nat.pow_le_pow_right (by omega) (show i - at0 ≤ 3 by omega)) (by decide))
      have HM := hide (show ∀ d, d < 16 → m * 16 + d < 16 ^ (i + 1 - at0) by
        intro d hd
        rw [show i + 1 - at0 = (i - at0) + 1 by omega, Nat.pow_succ]
        omega)
      clear hm
      obtain ⟨f, hf⟩ : ∃ f, at0 + 4 - i = f + 1 := ⟨at0 + 3 - i, by omega⟩
      rw [hf] at HR
      have HFF := hide (show at0 + 4 - (i + 1) = f by omega)
      clear hf
      by_cases hin : i < n
      · have hib : i < b.length := by rw [HL.out]; exact hin
        obtain ⟨ad, hA, hab, hcell⟩ := HX.out i hin hib
        subst hA
        obtain ⟨x, hx⟩ : ∃ x, b[i] = x := ⟨_, rfl⟩
        rw [hx] at hcell
        have HDG := hide (show digS (b.drop i) = isDg x by rw [digS_at hib, hx])
        have HLO := hide (show isS (b.drop i) hexLo = hexLo.contains x by rw [isS_at hib, hx])
        have HUP := hide (show isS (b.drop i) hexUp = hexUp.contains x by rw [isS_at hib, hx])
        have HFS := hide (show fourS (f + 1) (b.drop i) m = match hexV x with | none => none | some d => fourS f (b.drop (i + 1)) (m * 16 + d) by rw [fourS_at f i m hib, hx])
        have HC := hide (show ∀ w2, Below w.heap.size w w2 → w2.cell? (ad.add i) = some (.int .u8 (x.toNat : Int)) from fun w2 hb => (hb.cell (by rw [block_of_add]; exact hab)).trans hcell)
        have zx : ad.block < w.heap.size := hab
        clear hcell hx hib hab
        cases hd : isDg x
        · rw [hd] at HDG
          cases hl : hexLo.contains x
          · rw [hl] at HLO
            cases hu : hexUp.contains x
            · rw [hu] at HUP
              have HNO := hide (show fourS 4 (b.drop at0) 0 = none by rw [← HR.out, HFS.out, hex_no hd hl hu])
              clear hd hl hu HR HFS
              go_wp2_with (first | (go_at_call 20; (refine (fail_any 11 (H.out.below HB3.out)).mono ?_); rintro e w5 ⟨rfl, hb⟩; have HB5 := hide (HB3.out.trans (hb.mono HB3.out.size)); clear hb) | (go_at_call 30; (refine (digit_any i (H.out.below HB.out)).mono ?_); rw [HDG.out]; rintro e w2 ⟨rfl, hb⟩; have HB1 := hide (HB.out.trans (hb.mono HB.out.size)); clear hb; have kr1 := (H.out.below HB1.out).blk.cell; have fr1 := (H.out.below HB1.out).blk.frozen; have zr1 := (H.out.below HB1.out).blk.lt; have cx1 := HC.out _ HB1.out) | (go_at_call 28; (refine (is_any hexUp i (H.out.below HB2.out)).mono ?_); rw [HUP.out]; rintro e w4 ⟨rfl, hb⟩; have HB3 := hide (HB2.out.trans (hb.mono HB2.out.size)); clear hb; have kr3 := (H.out.below HB3.out).blk.cell; have fr3 := (H.out.below HB3.out).blk.frozen; have zr3 := (H.out.below HB3.out).blk.lt; have cx3 := HC.out _ HB3.out) | (go_at_call 28; (refine (is_any hexLo i (H.out.below HB1.out)).mono ?_); rw [HLO.out]; rintro e w3 ⟨rfl, hb⟩; have HB2 := hide (HB1.out.trans (hb.mono HB1.out.size)); clear hb; have kr2 := (H.out.below HB2.out).blk.cell; have fr2 := (H.out.below HB2.out).blk.frozen; have zr2 := (H.out.below HB2.out).blk.lt; have cx2 := HC.out _ HB2.out))
              exact ⟨rfl, .inr ⟨HNO.out, rfl, HB5.out⟩⟩
            · rw [hu] at HUP
              obtain ⟨u1, u2, u3⟩ := hex_up hd hl hu
              clear hl hu
              have HRN := hide (show fourS f (b.drop (i + 1)) (m * 16 + (x.toNat - 55)) = fourS 4 (b.drop at0) 0 by rw [← HR.out, HFS.out, u3])
              clear hd u3 HFS HR
              go_wp2_with (first | (go_at_call 20; (refine (fail_any 11 (H.out.below HB3.out)).mono ?_); rintro e w5 ⟨rfl, hb⟩; have HB5 := hide (HB3.out.trans (hb.mono HB3.out.size)); clear hb) | (go_at_call 30; (refine (digit_any i (H.out.below HB.out)).mono ?_); rw [HDG.out]; rintro e w2 ⟨rfl, hb⟩; have HB1 := hide (HB.out.trans (hb.mono HB.out.size)); clear hb; have kr1 := (H.out.below HB1.out).blk.cell; have fr1 := (H.out.below HB1.out).blk.frozen; have zr1 := (H.out.below HB1.out).blk.lt; have cx1 := HC.out _ HB1.out) | (go_at_call 28; (refine (is_any hexUp i (H.out.below HB2.out)).mono ?_); rw [HUP.out]; rintro e w4 ⟨rfl, hb⟩; have HB3 := hide (HB2.out.trans (hb.mono HB2.out.size)); clear hb; have kr3 := (H.out.below HB3.out).blk.cell; have fr3 := (H.out.below HB3.out).blk.frozen; have zr3 := (H.out.below HB3.out).blk.lt; have cx3 := HC.out _ HB3.out) | (go_at_call 28; (refine (is_any hexLo i (H.out.below HB1.out)).mono ?_); rw [HLO.out]; rintro e w3 ⟨rfl, hb⟩; have HB2 := hide (HB1.out.trans (hb.mono HB1.out.size)); clear hb; have kr2 := (H.out.below HB2.out).blk.cell; have fr2 := (H.out.below HB2.out).blk.frozen; have zr2 := (H.out.below HB2.out).blk.lt; have cx2 := HC.out _ HB2.out))
              go_roundw
              case rel => exact ⟨i + 1, m * 16 + (x.toNat - 55), by omega, by omega, HM.out _ (by omega), by go_num, by go_num, HB3, hide (by rw [HFF.out]; exact HRN.out)⟩
              case measure => simp [intOf]; omega
          · rw [hl] at HLO
            obtain ⟨u1, u2, u3⟩ := hex_lo hd hl
            clear hl
            have HRN := hide (show fourS f (b.drop (i + 1)) (m * 16 + (x.toNat - 87)) = fourS 4 (b.drop at0) 0 by rw [← HR.out, HFS.out, u3])
            clear hd u3 HFS HR
            go_wp2_with (first | (go_at_call 20; (refine (fail_any 11 (H.out.below HB3.out)).mono ?_); rintro e w5 ⟨rfl, hb⟩; have HB5 := hide (HB3.out.trans (hb.mono HB3.out.size)); clear hb) | (go_at_call 30; (refine (digit_any i (H.out.below HB.out)).mono ?_); rw [HDG.out]; rintro e w2 ⟨rfl, hb⟩; have HB1 := hide (HB.out.trans (hb.mono HB.out.size)); clear hb; have kr1 := (H.out.below HB1.out).blk.cell; have fr1 := (H.out.below HB1.out).blk.frozen; have zr1 := (H.out.below HB1.out).blk.lt; have cx1 := HC.out _ HB1.out) | (go_at_call 28; (refine (is_any hexUp i (H.out.below HB2.out)).mono ?_); rw [HUP.out]; rintro e w4 ⟨rfl, hb⟩; have HB3 := hide (HB2.out.trans (hb.mono HB2.out.size)); clear hb; have kr3 := (H.out.below HB3.out).blk.cell; have fr3 := (H.out.below HB3.out).blk.frozen; have zr3 := (H.out.below HB3.out).blk.lt; have cx3 := HC.out _ HB3.out) | (go_at_call 28; (refine (is_any hexLo i (H.out.below HB1.out)).mono ?_); rw [HLO.out]; rintro e w3 ⟨rfl, hb⟩; have HB2 := hide (HB1.out.trans (hb.mono HB1.out.size)); clear hb; have kr2 := (H.out.below HB2.out).blk.cell; have fr2 := (H.out.below HB2.out).blk.frozen; have zr2 := (H.out.below HB2.out).blk.lt; have cx2 := HC.out _ HB2.out))
            go_roundw
            case rel => exact ⟨i + 1, m * 16 + (x.toNat - 87), by omega, by omega, HM.out _ (by omega), by go_num, by go_num, HB2, hide (by rw [HFF.out]; exact HRN.out)⟩
            case measure => simp [intOf]; omega
        · rw [hd] at HDG
          obtain ⟨u1, u2, u3⟩ := hex_dg hd
          have HRN := hide (show fourS f (b.drop (i + 1)) (m * 16 + (x.toNat - 48)) = fourS 4 (b.drop at0) 0 by rw [← HR.out, HFS.out, u3])
          clear hd u3 HFS HR
          go_wp2_with (first | (go_at_call 20; (refine (fail_any 11 (H.out.below HB3.out)).mono ?_); rintro e w5 ⟨rfl, hb⟩; have HB5 := hide (HB3.out.trans (hb.mono HB3.out.size)); clear hb) | (go_at_call 30; (refine (digit_any i (H.out.below HB.out)).mono ?_); rw [HDG.out]; rintro e w2 ⟨rfl, hb⟩; have HB1 := hide (HB.out.trans (hb.mono HB.out.size)); clear hb; have kr1 := (H.out.below HB1.out).blk.cell; have fr1 := (H.out.below HB1.out).blk.frozen; have zr1 := (H.out.below HB1.out).blk.lt; have cx1 := HC.out _ HB1.out) | (go_at_call 28; (refine (is_any hexUp i (H.out.below HB2.out)).mono ?_); rw [HUP.out]; rintro e w4 ⟨rfl, hb⟩; have HB3 := hide (HB2.out.trans (hb.mono HB2.out.size)); clear hb; have kr3 := (H.out.below HB3.out).blk.cell; have fr3 := (H.out.below HB3.out).blk.frozen; have zr3 := (H.out.below HB3.out).blk.lt; have cx3 := HC.out _ HB3.out) | (go_at_call 28; (refine (is_any hexLo i (H.out.below HB1.out)).mono ?_); rw [HLO.out]; rintro e w3 ⟨rfl, hb⟩; have HB2 := hide (HB1.out.trans (hb.mono HB1.out.size)); clear hb; have kr2 := (H.out.below HB2.out).blk.cell; have fr2 := (H.out.below HB2.out).blk.frozen; have zr2 := (H.out.below HB2.out).blk.lt; have cx2 := HC.out _ HB2.out))
          go_roundw
          case rel => exact ⟨i + 1, m * 16 + (x.toNat - 48), by omega, by omega, HM.out _ (by omega), by go_num, by go_num, HB1, hide (by rw [HFF.out]; exact HRN.out)⟩
          case measure => simp [intOf]; omega
      · have hib : b.length ≤ i := by rw [HL.out]; omega
        have HDG := hide (show digS (b.drop i) = false from digS_end hib)
        have HLO := hide (show isS (b.drop i) hexLo = false from isS_end hib)
        have HUP := hide (show isS (b.drop i) hexUp = false from isS_end hib)
        have HNO := hide (show fourS 4 (b.drop at0) 0 = none by rw [← HR.out, List.drop_of_length_le hib]; rfl)
        clear hib HR HM
        go_wp2_with (first | (go_at_call 20; (refine (fail_any 11 (H.out.below HB3.out)).mono ?_); rintro e w5 ⟨rfl, hb⟩; have HB5 := hide (HB3.out.trans (hb.mono HB3.out.size)); clear hb) | (go_at_call 30; (refine (digit_any i (H.out.below HB.out)).mono ?_); rw [HDG.out]; rintro e w2 ⟨rfl, hb⟩; have HB1 := hide (HB.out.trans (hb.mono HB.out.size)); clear hb) | (go_at_call 28; (refine (is_any hexUp i (H.out.below HB2.out)).mono ?_); rw [HUP.out]; rintro e w4 ⟨rfl, hb⟩; have HB3 := hide (HB2.out.trans (hb.mono HB2.out.size)); clear hb) | (go_at_call 28; (refine (is_any hexLo i (H.out.below HB1.out)).mono ?_); rw [HLO.out]; rintro e w3 ⟨rfl, hb⟩; have HB2 := hide (HB1.out.trans (hb.mono HB1.out.size)); clear hb))
        exact ⟨rfl, .inr ⟨HNO.out, rfl, HB5.out⟩⟩
    · have h5 : at0 + 4 - i = 0 := by omega
      rw [h5] at HR
      have HS := hide (show fourS 4 (b.drop at0) 0 = some m from HR.out.symm)
      clear HR HX
      go_wp2_with fail
      go_ret
      exact .inl ⟨m, HS.out, rfl, HB.out⟩
end
end Go.Proofs.YtmbjalcphdggnaaDoor
