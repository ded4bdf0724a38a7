/- The document's numbers. -/
import Derived.Test.YtmbjalcphdggnaaDoorJsO
namespace Go.Proofs.YtmbjalcphdggnaaDoor
set_option linter.unusedSimpArgs false
set_option linter.unusedVariables false
open Go.RowKit
section
variable {w : World} {A : Option Addr} {n c : Nat} {l : L8}
theorem ris_any (i : Nat) (k : UInt8) (ii ki : Int) (hi : ii = (i : Int)) (hk : ki = (k.toNat : Int)) (h : RB w w.heap.size A n l) (hc : n ≤ c) :
    Calls Tryd.prog 21 #[.slice A n c, .int .i64 ii, .int .u8 ki] w fun e w' => e = .returned (.bool (isS (l.drop i) [k])) ∧ w' = w := by
  have hl := h.len
  subst hi hk
  by_cases hi : i < n
  · obtain ⟨ad, rfl, had, hcc⟩ := RB.at_ h hi (by rw [hl]; exact hi)
    have HI := hide (isS_at (cs := [k]) (show i < l.length by rw [hl]; exact hi))
    obtain ⟨x, hx⟩ : ∃ x, l[i]'(by rw [hl]; exact hi) = x := ⟨_, rfl⟩
    rw [hx] at hcc HI
    clear h hx
    go_enter Tryd.func21, Tryd.ntmps21
    go_wp2_with fail
    go_ret
    rw [HI.out]
    simp only [List.contains_cons, List.contains_nil, Bool.or_false]
    by_cases hxk : x = k
    · subst hxk; simp
    · have : ¬ x.toNat = k.toNat := fun e => hxk (UInt8.toNat_inj.1 e)
      have hxk' : ¬ k = x := fun e => hxk e.symm
      have e1 : ((x.toNat : Int) == (k.toNat : Int)) = false := by simp; omega
      have e2 : (x == k) = false := by simpa using hxk
      rw [e1, e2]
      simp
  · have HI := hide (isS_end (cs := [k]) (show l.length ≤ i by rw [hl]; omega))
    clear h
    go_enter Tryd.func21, Tryd.ntmps21
    go_wp2_with fail
    go_ret
    rw [HI.out]
    exact ⟨rfl, rfl⟩
theorem rdigit_any (i : Nat) (h : RB w w.heap.size A n l) (hc : n ≤ c) :
    Calls Tryd.prog 34 #[.slice A n c, .int .i64 (i : Int)] w fun e w' => e = .returned (.bool (digS (l.drop i))) ∧ w' = w := by
  have hl := h.len
  by_cases hi : i < n
  · obtain ⟨ad, rfl, had, hcc⟩ := RB.at_ h hi (by rw [hl]; exact hi)
    have HI := hide (digS_at (show i < l.length by rw [hl]; exact hi))
    obtain ⟨x, hx⟩ : ∃ x, l[i]'(by rw [hl]; exact hi) = x := ⟨_, rfl⟩
    rw [hx] at hcc HI
    clear h hx
    by_cases h1 : 48 ≤ x.toNat
    · have d1 : decide ((48 : Int) ≤ (x.toNat : Int)) = true := by simp; omega
      go_enter Tryd.func34, Tryd.ntmps34
      go_wp2_with fail
      go_ret
      rw [HI.out]
      unfold isDg
      have d2 : decide (48 ≤ x.toNat) = true := by simpa using h1
      rw [d2]
      simp
      omega
    · have d1 : decide ((48 : Int) ≤ (x.toNat : Int)) = false := by simp; omega
      go_enter Tryd.func34, Tryd.ntmps34
      go_wp2_with fail
      go_ret
      rw [HI.out]
      unfold isDg
      have d2 : decide (48 ≤ x.toNat) = false := by simpa using h1
      rw [d2]
      simp
  · have HI := hide (digS_end (show l.length ≤ i by rw [hl]; omega))
    clear h
    go_enter Tryd.func34, Tryd.ntmps34
    go_wp2_with fail
    go_ret
    rw [HI.out]
    exact ⟨rfl, rfl⟩
set_option maxRecDepth 100000 in
theorem rdigits_any (i : Nat) (ii : Int) (hi : ii = (i : Int)) (h : RB w w.heap.size A n l) (hc : n ≤ c) (hn : n ≤ 4000000) (hin : i ≤ n + 2) :
    Calls Tryd.prog 22 #[.slice A n c, .int .i64 ii] w fun e w' => e = .returned (.int .i64 ((i + runDg (l.drop i) : Nat) : Int)) ∧ w' = w := by
  have H := hide h
  have HL := hide h.len
  subst hi
  clear h
  go_enter Tryd.func22, Tryd.ntmps22
  go_wp2_with fail
  go_loopw [1] (fun iv wr => ∃ j : Nat, i ≤ j ∧ j ≤ n + 2 ∧ iv = .int .i64 (j : Int) ∧ wr = w ∧ Hid (j + runDg (l.drop j) = i + runDg (l.drop i))) (fun iv _ => n - (intOf iv).toNat)
  case atStart => exact ⟨i, by omega, by omega, rfl, rfl, hide rfl⟩
  case round =>
    obtain ⟨j, hij, hj, rfl, hwr, HR⟩ := hrel
    have H := hide (show RB wr wr.heap.size A n l from hwr ▸ H.out)
    have HWR := hide hwr
    clear hwr
    cases hd : digS (l.drop j)
    · have HDJ := hide hd
      have he : runDg (l.drop j) = 0 := by
        rcases Nat.lt_or_ge j l.length with h1 | h1
        · rw [runDg_at j h1]
          rw [digS_at h1] at hd
          rw [hd]
          rfl
        · rw [List.drop_of_length_le h1]; rfl
      have HJE := hide (show j = i + runDg (l.drop i) by have := HR.out; omega)
      clear hd he
      go_wp2_with (go_at_call 34; (refine (rdigit_any j H.out hc).mono ?_); rw [HDJ.out]; rintro e w2 ⟨rfl, hw⟩; (obtain rfl : wr = w2 := hw.symm))
      go_ret
      rw [← HJE.out]; exact ⟨rfl, HWR.out⟩
    · have HDJ := hide hd
      have hjn : j < n := by
        rcases Nat.lt_or_ge j n with h1 | h1
        · exact h1
        · rw [digS_end (by rw [HL.out]; exact h1)] at hd; cases hd
      have hjb : j < l.length := by rw [HL.out]; exact hjn
      have he : runDg (l.drop j) = runDg (l.drop (j + 1)) + 1 := by
        rw [runDg_at j hjb]
        rw [digS_at hjb] at hd
        rw [hd]
        rfl
      have HRN := hide (show j + 1 + runDg (l.drop (j + 1)) = i + runDg (l.drop i) by have := HR.out; omega)
      clear hd he hjb
      go_wp2_with (go_at_call 34; (refine (rdigit_any j H.out hc).mono ?_); rw [HDJ.out]; rintro e w2 ⟨rfl, hw⟩; (obtain rfl : wr = w2 := hw.symm))
      go_roundw
      case rel => exact ⟨j + 1, by omega, by omega, by go_num, HWR.out, HRN⟩
      case measure => simp [intOf]; omega
end
/-- The document's: is a text a number? -/
def numR (l : L8) : Bool :=
  if runDg (l.drop (nI l)) = 0 ∨ (isS (l.drop (nI l)) [48] = true ∧ 1 < runDg (l.drop (nI l))) then false
  else match nF (l.drop (nI l + runDg (l.drop (nI l)))) with
    | none => false
    | some f => match nE (l.drop (nI l + runDg (l.drop (nI l)) + f)) with
      | none => false
      | some e => decide (nI l + runDg (l.drop (nI l)) + f + e = l.length)
theorem digS_run (s : L8) : digS s = decide (0 < runDg s) := by
  cases s with
  | nil => rfl
  | cons x s =>
    rw [runDg_cons]
    show isDg x = _
    cases isDg x <;> simp
theorem rdigits_to {w : World} {A : Option Addr} {n c : Nat} {l : L8} (i j : Nat) (ii : Int) (hi : ii = (i : Int)) (hj : i + runDg (l.drop i) = j) (h : RB w w.heap.size A n l) (hc : n ≤ c) (hn : n ≤ 4000000) (hin : i ≤ n + 2) :
    Calls Tryd.prog 22 #[.slice A n c, .int .i64 ii] w fun e w' => e = .returned (.int .i64 (j : Int)) ∧ w' = w := by
  subst hj
  exact rdigits_any i ii hi h hc hn hin
theorem isS_two (s : L8) (a b : UInt8) : isS s [a, b] = (isS s [a] || isS s [b]) := by
  cases s with
  | nil => rfl
  | cons x t => simp [isS]
/-- Behind the digits in front. -/
def numT (l : L8) (k : Nat) : Bool := match nF (l.drop k) with
  | none => false
  | some f => match nE (l.drop (k + f)) with
    | none => false
    | some e => decide (k + f + e = l.length)
def numE (l : L8) (k : Nat) : Bool := match nE (l.drop k) with
  | none => false
  | some e => decide (k + e = l.length)
theorem numR_eq (l : L8) : numR l = if runDg (l.drop (nI l)) = 0 ∨ (isS (l.drop (nI l)) [48] = true ∧ 1 < runDg (l.drop (nI l))) then false else numT l (nI l + runDg (l.drop (nI l))) := rfl
theorem numT_eq (l : L8) (k : Nat) : numT l k = if isS (l.drop k) [46] then (if runDg (l.drop (k + 1)) = 0 then false else numE l (k + 1 + runDg (l.drop (k + 1)))) else numE l k := by
  unfold numT nF numE
  rw [List.drop_drop, digS_run]
  cases isS (l.drop k) [46]
  · simp
  · simp only [if_true]
    by_cases h : runDg (l.drop (k + 1)) = 0
    · rw [if_pos h, h]; rfl
    · rw [if_neg h, if_pos (by simp; omega)]
      simp only [← Nat.add_assoc]
theorem numE_eq (l : L8) (k : Nat) : numE l k = if isS (l.drop k) [101, 69] then (if runDg (l.drop (k + 1 + nS (l.drop (k + 1)))) = 0 then false else decide (k + 1 + nS (l.drop (k + 1)) + runDg (l.drop (k + 1 + nS (l.drop (k + 1)))) = l.length)) else decide (k = l.length) := by
  unfold numE nE
  rw [List.drop_drop, List.drop_drop, digS_run, ← Nat.add_assoc]
  cases isS (l.drop k) [101, 69]
  · simp
  · simp only [if_true]
    by_cases h : runDg (l.drop (k + 1 + nS (l.drop (k + 1)))) = 0
    · rw [if_pos h, h]; rfl
    · rw [if_neg h, if_pos (by simp; omega)]
      simp only [← Nat.add_assoc]
theorem ret_num (a b : Nat) : Ending.returned (.bool ((a : Int) == (b : Int))) = .returned (.bool (decide (a = b))) := by
  by_cases h : a = b
  · subst h; simp
  · have : ¬ (a : Int) = (b : Int) := by omega
    simp [h, this]
set_option maxRecDepth 100000 in
set_option maxHeartbeats 2000000 in
theorem rnumber_any {w : World} {A : Option Addr} {n c : Nat} {l : L8} (h : RB w w.heap.size A n l) (hc : n ≤ c) (hn : n ≤ 4000000) :
    Calls Tryd.prog 12 #[.slice A n c] w fun e w' => e = .returned (.bool (numR l)) ∧ w' = w := by
  have H := hide h
  have HL := hide h.len
  have hIL : nI l ≤ l.length := nI_le l
  have hrl : ∀ i, i ≤ n → i + runDg (l.drop i) ≤ n := fun i hi => by have := run_le (l.drop i); rw [List.length_drop, HL.out] at this; omega
  have HRL := hide hrl
  obtain ⟨i0, hi0⟩ : ∃ i, nI l = i := ⟨_, rfl⟩
  have HR := hide (numR_eq l)
  rw [hi0] at HR
  have HI0 := hide hi0
  have hin : i0 ≤ n := by rw [← hi0, ← HL.out]; exact hIL
  have hi1 : i0 ≤ 1 := by rw [← hi0]; unfold nI; split <;> omega
  obtain ⟨k1, hk1⟩ : ∃ k, i0 + runDg (l.drop i0) = k := ⟨_, rfl⟩
  have hkl : k1 ≤ n := by rw [← hk1]; exact hrl i0 hin
  rw [hk1] at HR
  have hrd : runDg (l.drop i0) = k1 - i0 := by omega
  rw [hrd] at HR
  have HK1 := hide hk1
  have hik : i0 ≤ k1 := by omega
  have HX := hide (show ∀ i, i < n → ∀ hl : i < l.length, ∃ ad, A = some ad ∧ ad.block < w.heap.size ∧ w.cell? (ad.add i) = some (.int .u8 (l[i].toNat : Int)) from fun i hi hl => RB.at_ h hi hl)
  clear h hi0 hIL hk1 hrd hrl
  go_enter Tryd.func12, Tryd.ntmps12
  go_upto_if 6 with (go_at_call 21; (refine (ris_any 0 45 _ _ (by omega) rfl H.out hc).mono ?_); rintro e wn ⟨rfl, hw⟩; (obtain rfl : w = wn := hw.symm))
  go_cut [3] from 4 (fun v W => Hid (v = .int .i64 (i0 : Int)) ∧ W = w)
  case first =>
    have hh := HI0.out
    unfold nI at hh
    cases h0 : isS l [45]
    · rw [h0] at hh
      have ej : 0 = i0 := by simpa using hh
      subst ej
      have hX0 : isS (List.drop 0 l) [45] = false := by simpa using h0
      clear h0 hh HR HX
      go_wp2_with fail
      go_meet
      case rel => exact ⟨rfl, rfl⟩
    · rw [h0] at hh
      have ej : 1 = i0 := by simpa using hh
      subst ej
      have hX0 : isS (List.drop 0 l) [45] = true := by simpa using h0
      clear h0 hh HR HX
      go_wp2_with fail
      go_meet
      case rel => exact ⟨rfl, rfl⟩
  case rest =>
    clear HI0
    obtain ⟨hv, hW⟩ := hcut
    rw [show u3 = _ from hv]
    clear hv
    obtain ⟨w2, hwc⟩ : ∃ x, x = wc := ⟨_, rfl⟩
    subst hwc
    (obtain rfl : w = w2 := hW.symm)
    clear hW
    by_cases h0 : k1 = i0
    · have HE := hide (show numR l = false by rw [HR.out, if_pos (.inl (by omega))])
      have hk : ((k1 : Int) == (i0 : Int)) = true := by simp; omega
      clear HR
      go_wp2_with (go_at_call 22; (refine (rdigits_to i0 k1 _ (by omega) HK1.out H.out hc hn (by omega)).mono ?_); rintro e wn ⟨rfl, hw⟩; (obtain rfl : w = wn := hw.symm))
      go_ret
      exact ⟨by rw [HE.out]; rfl, rfl⟩
    · have hk : ((k1 : Int) == (i0 : Int)) = false := by simp; omega
      have hi0n : i0 < n := by omega
      obtain ⟨ad, hA, hab, hcell⟩ := HX.out i0 hi0n (by rw [HL.out]; exact hi0n)
      subst hA
      have HI48 := hide (isS_at (cs := [48]) (show i0 < l.length by rw [HL.out]; exact hi0n))
      obtain ⟨x, hx⟩ : ∃ x, l[i0]'(by rw [HL.out]; exact hi0n) = x := ⟨_, rfl⟩
      rw [hx] at hcell HI48
      clear HX hx
      by_cases hz : x.toNat = 48 ∧ i0 + 1 < k1
      · have d1 : ((x.toNat : Int) == 48) = true := by simp; omega
        have d2 : decide ((i0 : Int) + 1 < (k1 : Int)) = true := by simp; omega
        have HE := hide (show numR l = false by rw [HR.out, if_pos (.inr ⟨by rw [HI48.out]; simpa using UInt8.toNat_inj.1 hz.1, by omega⟩)])
        clear HR hz
        go_wp2_with (go_at_call 22; (refine (rdigits_to i0 k1 _ (by omega) HK1.out H.out hc hn (by omega)).mono ?_); rintro e wn ⟨rfl, hw⟩; (obtain rfl : w = wn := hw.symm))
        go_ret
        exact ⟨by rw [HE.out]; rfl, rfl⟩
      · have HR2 := hide (show numR l = numT l k1 by
            rw [HR.out, if_neg]
            rintro (h | ⟨h1, h2⟩)
            · omega
            · refine hz ⟨?_, by omega⟩
              rw [HI48.out] at h1
              have : x = 48 := by simpa using h1
              rw [this]; rfl)
        rw [numT_eq] at HR2
        clear HR HI48
        have dd : (((x.toNat : Int) == 48) && decide ((i0 : Int) + 1 < (k1 : Int))) = false := by
          rw [Bool.and_eq_false_iff]
          rcases Classical.not_and_iff_not_or_not.1 hz with h | h
          · exact .inl (by simp; omega)
          · exact .inr (by simp; omega)
        by_cases hx48 : (x.toNat : Int) = 48
        · have dx : ((x.toNat : Int) == 48) = true := by simp; omega
          have dl : decide ((i0 : Int) + 1 < (k1 : Int)) = false := by rw [dx] at dd; simpa using dd
          go_upto_if 29 with (first | (go_at_call 21; (refine (ris_any (k1) 46 _ _ (by omega) (by rfl) H.out hc).mono ?_); rintro e wn ⟨rfl, hw⟩; (obtain rfl : w = wn := hw.symm)) | (go_at_call 22; (refine (rdigits_to (i0) k1 _ (by omega) HK1.out H.out hc hn (by omega)).mono ?_); rintro e wn ⟨rfl, hw⟩; (obtain rfl : w = wn := hw.symm)))
          go_cut [3] from 4 (fun v W => ∃ k3 : Nat, Hid (v = .int .i64 (k3 : Int)) ∧ W = w ∧ k3 ≤ n ∧ Hid (numR l = numE l k3))
          case first =>
            cases hI46 : isS (l.drop k1) [46]
            · have HE := hide (show numR l = numE l k1 by rw [HR2.out, hI46]; rfl)
              clear HR2
              go_wp2_with fail
              go_meet
              case rel => exact ⟨k1, rfl, rfl, hkl, HE⟩
            · obtain ⟨k2, hk2⟩ : ∃ k, k1 + 1 + runDg (l.drop (k1 + 1)) = k := ⟨_, rfl⟩
              have hk1n : k1 + 1 ≤ n := by
                rcases Nat.lt_or_ge k1 n with h | h
                · exact h
                · rw [isS_end (by rw [HL.out]; exact h)] at hI46; cases hI46
              have hk2n : k2 ≤ n := by rw [← hk2]; exact HRL.out _ hk1n
              have HR3 := hide (show numR l = if runDg (l.drop (k1 + 1)) = 0 then false else numE l k2 by rw [HR2.out, hI46, hk2]; rfl)
              have HK2 := hide hk2
              clear HR2
              by_cases hr0 : runDg (l.drop (k1 + 1)) = 0
              · have HE := hide (show numR l = false by rw [HR3.out, if_pos hr0])
                have dk : ((k2 : Int) == (k1 : Int) + 1) = true := by simp; omega
                clear HR3 hk2 hr0
                go_wp2_with (go_at_call 22; (refine (rdigits_to (k1 + 1) k2 _ (by omega) HK2.out H.out hc hn (by omega)).mono ?_); rintro e wn ⟨rfl, hw⟩; (obtain rfl : w = wn := hw.symm))
                go_ret
                exact ⟨by rw [HE.out]; rfl, rfl⟩
              · have HE := hide (show numR l = numE l k2 by rw [HR3.out, if_neg hr0])
                have dk : ((k2 : Int) == (k1 : Int) + 1) = false := by simp; omega
                clear HR3 hk2 hr0
                go_wp2_with (go_at_call 22; (refine (rdigits_to (k1 + 1) k2 _ (by omega) HK2.out H.out hc hn (by omega)).mono ?_); rintro e wn ⟨rfl, hw⟩; (obtain rfl : w = wn := hw.symm))
                go_meet
                case rel => exact ⟨k2, rfl, rfl, hk2n, HE⟩
          case rest =>
            clear HR2
            obtain ⟨k3, hv, hW, hk3, HE3⟩ := hcut
            rw [show u3 = _ from hv]
            clear hv
            obtain ⟨w2, hwc⟩ : ∃ x, x = wc := ⟨_, rfl⟩
            subst hwc
            (obtain rfl : w = w2 := hW.symm)
            clear hW dd hk
            cases he1 : isS (l.drop k3) [101]
            · cases he2 : isS (l.drop k3) [69]
              · have HEF := hide (show numR l = decide (k3 = l.length) by rw [HE3.out, numE_eq, isS_two, he1, he2]; rfl)
                clear HE3
                go_wp2_with (first | (go_at_call 21; (refine (ris_any (k3) 101 _ _ (by omega) (by rfl) H.out hc).mono ?_); rintro e wn ⟨rfl, hw⟩; (obtain rfl : w = wn := hw.symm)) | (go_at_call 21; (refine (ris_any (k3) 69 _ _ (by omega) (by rfl) H.out hc).mono ?_); rintro e wn ⟨rfl, hw⟩; (obtain rfl : w = wn := hw.symm)))
                go_ret
                exact ⟨by rw [HEF.out, HL.out]; exact ret_num k3 n, rfl⟩
              · have HEE := hide (show numR l = if runDg (l.drop (k3 + 1 + nS (l.drop (k3 + 1)))) = 0 then false else decide (k3 + 1 + nS (l.drop (k3 + 1)) + runDg (l.drop (k3 + 1 + nS (l.drop (k3 + 1)))) = l.length) by rw [HE3.out, numE_eq, isS_two, he1, he2]; rfl)
                cases hs1 : isS (l.drop (k3 + 1)) [43]
                · cases hs2 : isS (l.drop (k3 + 1)) [45]
                  · have hns : nS (l.drop (k3 + 1)) = 0 := by unfold nS; rw [isS_two, hs1, hs2]; rfl
                    rw [hns] at HEE
                    obtain ⟨k4, hk4⟩ : ∃ k, k3 + 1 + 0 = k := ⟨_, rfl⟩
                    obtain ⟨k5, hk5⟩ : ∃ k, k4 + runDg (l.drop k4) = k := ⟨_, rfl⟩
                    rw [hk4] at HEE
                    have HK5 := hide hk5
                    have hk4n : k4 ≤ n + 2 := by omega
                    have HK4 := hide hk4
                    by_cases hr0 : runDg (l.drop k4) = 0
                    · have HEF := hide (show numR l = false by rw [HEE.out, if_pos hr0])
                      have dk : ((k5 : Int) == (k4 : Int)) = true := by simp; omega
                      have dk2 : ((k5 : Int) == ((k3 : Int) + 1)) = true := by simp; omega
                      clear hk4
                      clear HEE hk5 hr0
                      go_wp2_with (first | (go_at_call 21; (refine (ris_any (k3) 101 _ _ (by omega) (by rfl) H.out hc).mono ?_); rintro e wn ⟨rfl, hw⟩; (obtain rfl : w = wn := hw.symm)) | (go_at_call 21; (refine (ris_any (k3) 69 _ _ (by omega) (by rfl) H.out hc).mono ?_); rintro e wn ⟨rfl, hw⟩; (obtain rfl : w = wn := hw.symm)) | (go_at_call 21; (refine (ris_any (k3 + 1) 43 _ _ (by omega) (by rfl) H.out hc).mono ?_); rintro e wn ⟨rfl, hw⟩; (obtain rfl : w = wn := hw.symm)) | (go_at_call 21; (refine (ris_any (k3 + 1) 45 _ _ (by omega) (by rfl) H.out hc).mono ?_); rintro e wn ⟨rfl, hw⟩; (obtain rfl : w = wn := hw.symm)) | (go_at_call 22; (refine (rdigits_to (k4) k5 _ (by have := HK4.out; omega) HK5.out H.out hc hn (by omega)).mono ?_); rintro e wn ⟨rfl, hw⟩; (obtain rfl : w = wn := hw.symm)))
                      go_ret
                      exact ⟨by rw [HEF.out]; rfl, rfl⟩
                    · have HEF := hide (show numR l = decide (k5 = l.length) by rw [HEE.out, if_neg hr0, hk5])
                      have dk : ((k5 : Int) == (k4 : Int)) = false := by simp; omega
                      have dk2 : ((k5 : Int) == ((k3 : Int) + 1)) = false := by simp; omega
                      clear hk4
                      clear HEE hk5 hr0
                      go_wp2_with (first | (go_at_call 21; (refine (ris_any (k3) 101 _ _ (by omega) (by rfl) H.out hc).mono ?_); rintro e wn ⟨rfl, hw⟩; (obtain rfl : w = wn := hw.symm)) | (go_at_call 21; (refine (ris_any (k3) 69 _ _ (by omega) (by rfl) H.out hc).mono ?_); rintro e wn ⟨rfl, hw⟩; (obtain rfl : w = wn := hw.symm)) | (go_at_call 21; (refine (ris_any (k3 + 1) 43 _ _ (by omega) (by rfl) H.out hc).mono ?_); rintro e wn ⟨rfl, hw⟩; (obtain rfl : w = wn := hw.symm)) | (go_at_call 21; (refine (ris_any (k3 + 1) 45 _ _ (by omega) (by rfl) H.out hc).mono ?_); rintro e wn ⟨rfl, hw⟩; (obtain rfl : w = wn := hw.symm)) | (go_at_call 22; (refine (rdigits_to (k4) k5 _ (by have := HK4.out; omega) HK5.out H.out hc hn (by omega)).mono ?_); rintro e wn ⟨rfl, hw⟩; (obtain rfl : w = wn := hw.symm)))
                      go_ret
                      exact ⟨by rw [HEF.out, HL.out]; exact ret_num k5 n, rfl⟩
                  · have hns : nS (l.drop (k3 + 1)) = 1 := by unfold nS; rw [isS_two, hs1, hs2]; rfl
                    rw [hns] at HEE
                    obtain ⟨k4, hk4⟩ : ∃ k, k3 + 1 + 1 = k := ⟨_, rfl⟩
                    obtain ⟨k5, hk5⟩ : ∃ k, k4 + runDg (l.drop k4) = k := ⟨_, rfl⟩
                    rw [hk4] at HEE
                    have HK5 := hide hk5
                    have hk4n : k4 ≤ n + 2 := by omega
                    have HK4 := hide hk4
                    by_cases hr0 : runDg (l.drop k4) = 0
                    · have HEF := hide (show numR l = false by rw [HEE.out, if_pos hr0])
                      have dk : ((k5 : Int) == (k4 : Int)) = true := by simp; omega
                      have dk2 : ((k5 : Int) == ((k3 : Int) + 1 + 1)) = true := by simp; omega
                      clear hk4
                      clear HEE hk5 hr0
                      go_wp2_with (first | (go_at_call 21; (refine (ris_any (k3) 101 _ _ (by omega) (by rfl) H.out hc).mono ?_); rintro e wn ⟨rfl, hw⟩; (obtain rfl : w = wn := hw.symm)) | (go_at_call 21; (refine (ris_any (k3) 69 _ _ (by omega) (by rfl) H.out hc).mono ?_); rintro e wn ⟨rfl, hw⟩; (obtain rfl : w = wn := hw.symm)) | (go_at_call 21; (refine (ris_any (k3 + 1) 43 _ _ (by omega) (by rfl) H.out hc).mono ?_); rintro e wn ⟨rfl, hw⟩; (obtain rfl : w = wn := hw.symm)) | (go_at_call 21; (refine (ris_any (k3 + 1) 45 _ _ (by omega) (by rfl) H.out hc).mono ?_); rintro e wn ⟨rfl, hw⟩; (obtain rfl : w = wn := hw.symm)) | (go_at_call 22; (refine (rdigits_to (k4) k5 _ (by have := HK4.out; omega) HK5.out H.out hc hn (by omega)).mono ?_); rintro e wn ⟨rfl, hw⟩; (obtain rfl : w = wn := hw.symm)))
                      go_ret
                      exact ⟨by rw [HEF.out]; rfl, rfl⟩
                    · have HEF := hide (show numR l = decide (k5 = l.length) by rw [HEE.out, if_neg hr0, hk5])
                      have dk : ((k5 : Int) == (k4 : Int)) = false := by simp; omega
                      have dk2 : ((k5 : Int) == ((k3 : Int) + 1 + 1)) = false := by simp; omega
                      clear hk4
                      clear HEE hk5 hr0
                      go_wp2_with (first | (go_at_call 21; (refine (ris_any (k3) 101 _ _ (by omega) (by rfl) H.out hc).mono ?_); rintro e wn ⟨rfl, hw⟩; (obtain rfl : w = wn := hw.symm)) | (go_at_call 21; (refine (ris_any (k3) 69 _ _ (by omega) (by rfl) H.out hc).mono ?_); rintro e wn ⟨rfl, hw⟩; (obtain rfl : w = wn := hw.symm)) | (go_at_call 21; (refine (ris_any (k3 + 1) 43 _ _ (by omega) (by rfl) H.out hc).mono ?_); rintro e wn ⟨rfl, hw⟩; (obtain rfl : w = wn := hw.symm)) | (go_at_call 21; (refine (ris_any (k3 + 1) 45 _ _ (by omega) (by rfl) H.out hc).mono ?_); rintro e wn ⟨rfl, hw⟩; (obtain rfl : w = wn := hw.symm)) | (go_at_call 22; (refine (rdigits_to (k4) k5 _ (by have := HK4.out; omega) HK5.out H.out hc hn (by omega)).mono ?_); rintro e wn ⟨rfl, hw⟩; (obtain rfl : w = wn := hw.symm)))
                      go_ret
                      exact ⟨by rw [HEF.out, HL.out]; exact ret_num k5 n, rfl⟩
                · have hns : nS (l.drop (k3 + 1)) = 1 := by unfold nS; rw [isS_two, hs1]; rfl
                  rw [hns] at HEE
                  obtain ⟨k4, hk4⟩ : ∃ k, k3 + 1 + 1 = k := ⟨_, rfl⟩
                  obtain ⟨k5, hk5⟩ : ∃ k, k4 + runDg (l.drop k4) = k := ⟨_, rfl⟩
                  rw [hk4] at HEE
                  have HK5 := hide hk5
                  have hk4n : k4 ≤ n + 2 := by omega
                  have HK4 := hide hk4
                  by_cases hr0 : runDg (l.drop k4) = 0
                  · have HEF := hide (show numR l = false by rw [HEE.out, if_pos hr0])
                    have dk : ((k5 : Int) == (k4 : Int)) = true := by simp; omega
                    have dk2 : ((k5 : Int) == ((k3 : Int) + 1 + 1)) = true := by simp; omega
                    clear hk4
                    clear HEE hk5 hr0
                    go_wp2_with (first | (go_at_call 21; (refine (ris_any (k3) 101 _ _ (by omega) (by rfl) H.out hc).mono ?_); rintro e wn ⟨rfl, hw⟩; (obtain rfl : w = wn := hw.symm)) | (go_at_call 21; (refine (ris_any (k3) 69 _ _ (by omega) (by rfl) H.out hc).mono ?_); rintro e wn ⟨rfl, hw⟩; (obtain rfl : w = wn := hw.symm)) | (go_at_call 21; (refine (ris_any (k3 + 1) 43 _ _ (by omega) (by rfl) H.out hc).mono ?_); rintro e wn ⟨rfl, hw⟩; (obtain rfl : w = wn := hw.symm)) | (go_at_call 21; (refine (ris_any (k3 + 1) 45 _ _ (by omega) (by rfl) H.out hc).mono ?_); rintro e wn ⟨rfl, hw⟩; (obtain rfl : w = wn := hw.symm)) | (go_at_call 22; (refine (rdigits_to (k4) k5 _ (by have := HK4.out; omega) HK5.out H.out hc hn (by omega)).mono ?_); rintro e wn ⟨rfl, hw⟩; (obtain rfl : w = wn := hw.symm)))
                    go_ret
                    exact ⟨by rw [HEF.out]; rfl, rfl⟩
                  · have HEF := hide (show numR l = decide (k5 = l.length) by rw [HEE.out, if_neg hr0, hk5])
                    have dk : ((k5 : Int) == (k4 : Int)) = false := by simp; omega
                    have dk2 : ((k5 : Int) == ((k3 : Int) + 1 + 1)) = false := by simp; omega
                    clear hk4
                    clear HEE hk5 hr0
                    go_wp2_with (first | (go_at_call 21; (refine (ris_any (k3) 101 _ _ (by omega) (by rfl) H.out hc).mono ?_); rintro e wn ⟨rfl, hw⟩; (obtain rfl : w = wn := hw.symm)) | (go_at_call 21; (refine (ris_any (k3) 69 _ _ (by omega) (by rfl) H.out hc).mono ?_); rintro e wn ⟨rfl, hw⟩; (obtain rfl : w = wn := hw.symm)) | (go_at_call 21; (refine (ris_any (k3 + 1) 43 _ _ (by omega) (by rfl) H.out hc).mono ?_); rintro e wn ⟨rfl, hw⟩; (obtain rfl : w = wn := hw.symm)) | (go_at_call 21; (refine (ris_any (k3 + 1) 45 _ _ (by omega) (by rfl) H.out hc).mono ?_); rintro e wn ⟨rfl, hw⟩; (obtain rfl : w = wn := hw.symm)) | (go_at_call 22; (refine (rdigits_to (k4) k5 _ (by have := HK4.out; omega) HK5.out H.out hc hn (by omega)).mono ?_); rintro e wn ⟨rfl, hw⟩; (obtain rfl : w = wn := hw.symm)))
                    go_ret
                    exact ⟨by rw [HEF.out, HL.out]; exact ret_num k5 n, rfl⟩
            · have HEE := hide (show numR l = if runDg (l.drop (k3 + 1 + nS (l.drop (k3 + 1)))) = 0 then false else decide (k3 + 1 + nS (l.drop (k3 + 1)) + runDg (l.drop (k3 + 1 + nS (l.drop (k3 + 1)))) = l.length) by rw [HE3.out, numE_eq, isS_two, he1]; rfl)
              cases hs1 : isS (l.drop (k3 + 1)) [43]
              · cases hs2 : isS (l.drop (k3 + 1)) [45]
                · have hns : nS (l.drop (k3 + 1)) = 0 := by unfold nS; rw [isS_two, hs1, hs2]; rfl
                  rw [hns] at HEE
                  obtain ⟨k4, hk4⟩ : ∃ k, k3 + 1 + 0 = k := ⟨_, rfl⟩
                  obtain ⟨k5, hk5⟩ : ∃ k, k4 + runDg (l.drop k4) = k := ⟨_, rfl⟩
                  rw [hk4] at HEE
                  have HK5 := hide hk5
                  have hk4n : k4 ≤ n + 2 := by omega
                  have HK4 := hide hk4
                  by_cases hr0 : runDg (l.drop k4) = 0
                  · have HEF := hide (show numR l = false by rw [HEE.out, if_pos hr0])
                    have dk : ((k5 : Int) == (k4 : Int)) = true := by simp; omega
                    have dk2 : ((k5 : Int) == ((k3 : Int) + 1)) = true := by simp; omega
                    clear hk4
                    clear HEE hk5 hr0
                    go_wp2_with (first | (go_at_call 21; (refine (ris_any (k3) 101 _ _ (by omega) (by rfl) H.out hc).mono ?_); rintro e wn ⟨rfl, hw⟩; (obtain rfl : w = wn := hw.symm)) | (go_at_call 21; (refine (ris_any (k3) 69 _ _ (by omega) (by rfl) H.out hc).mono ?_); rintro e wn ⟨rfl, hw⟩; (obtain rfl : w = wn := hw.symm)) | (go_at_call 21; (refine (ris_any (k3 + 1) 43 _ _ (by omega) (by rfl) H.out hc).mono ?_); rintro e wn ⟨rfl, hw⟩; (obtain rfl : w = wn := hw.symm)) | (go_at_call 21; (refine (ris_any (k3 + 1) 45 _ _ (by omega) (by rfl) H.out hc).mono ?_); rintro e wn ⟨rfl, hw⟩; (obtain rfl : w = wn := hw.symm)) | (go_at_call 22; (refine (rdigits_to (k4) k5 _ (by have := HK4.out; omega) HK5.out H.out hc hn (by omega)).mono ?_); rintro e wn ⟨rfl, hw⟩; (obtain rfl : w = wn := hw.symm)))
                    go_ret
                    exact ⟨by rw [HEF.out]; rfl, rfl⟩
                  · have HEF := hide (show numR l = decide (k5 = l.length) by rw [HEE.out, if_neg hr0, hk5])
                    have dk : ((k5 : Int) == (k4 : Int)) = false := by simp; omega
                    have dk2 : ((k5 : Int) == ((k3 : Int) + 1)) = false := by simp; omega
                    clear hk4
                    clear HEE hk5 hr0
                    go_wp2_with (first | (go_at_call 21; (refine (ris_any (k3) 101 _ _ (by omega) (by rfl) H.out hc).mono ?_); rintro e wn ⟨rfl, hw⟩; (obtain rfl : w = wn := hw.symm)) | (go_at_call 21; (refine (ris_any (k3) 69 _ _ (by omega) (by rfl) H.out hc).mono ?_); rintro e wn ⟨rfl, hw⟩; (obtain rfl : w = wn := hw.symm)) | (go_at_call 21; (refine (ris_any (k3 + 1) 43 _ _ (by omega) (by rfl) H.out hc).mono ?_); rintro e wn ⟨rfl, hw⟩; (obtain rfl : w = wn := hw.symm)) | (go_at_call 21; (refine (ris_any (k3 + 1) 45 _ _ (by omega) (by rfl) H.out hc).mono ?_); rintro e wn ⟨rfl, hw⟩; (obtain rfl : w = wn := hw.symm)) | (go_at_call 22; (refine (rdigits_to (k4) k5 _ (by have := HK4.out; omega) HK5.out H.out hc hn (by omega)).mono ?_); rintro e wn ⟨rfl, hw⟩; (obtain rfl : w = wn := hw.symm)))
                    go_ret
                    exact ⟨by rw [HEF.out, HL.out]; exact ret_num k5 n, rfl⟩
                · have hns : nS (l.drop (k3 + 1)) = 1 := by unfold nS; rw [isS_two, hs1, hs2]; rfl
                  rw [hns] at HEE
                  obtain ⟨k4, hk4⟩ : ∃ k, k3 + 1 + 1 = k := ⟨_, rfl⟩
                  obtain ⟨k5, hk5⟩ : ∃ k, k4 + runDg (l.drop k4) = k := ⟨_, rfl⟩
                  rw [hk4] at HEE
                  have HK5 := hide hk5
                  have hk4n : k4 ≤ n + 2 := by omega
                  have HK4 := hide hk4
                  by_cases hr0 : runDg (l.drop k4) = 0
                  · have HEF := hide (show numR l = false by rw [HEE.out, if_pos hr0])
                    have dk : ((k5 : Int) == (k4 : Int)) = true := by simp; omega
                    have dk2 : ((k5 : Int) == ((k3 : Int) + 1 + 1)) = true := by simp; omega
                    clear hk4
                    clear HEE hk5 hr0
                    go_wp2_with (first | (go_at_call 21; (refine (ris_any (k3) 101 _ _ (by omega) (by rfl) H.out hc).mono ?_); rintro e wn ⟨rfl, hw⟩; (obtain rfl : w = wn := hw.symm)) | (go_at_call 21; (refine (ris_any (k3) 69 _ _ (by omega) (by rfl) H.out hc).mono ?_); rintro e wn ⟨rfl, hw⟩; (obtain rfl : w = wn := hw.symm)) | (go_at_call 21; (refine (ris_any (k3 + 1) 43 _ _ (by omega) (by rfl) H.out hc).mono ?_); rintro e wn ⟨rfl, hw⟩; (obtain rfl : w = wn := hw.symm)) | (go_at_call 21; (refine (ris_any (k3 + 1) 45 _ _ (by omega) (by rfl) H.out hc).mono ?_); rintro e wn ⟨rfl, hw⟩; (obtain rfl : w = wn := hw.symm)) | (go_at_call 22; (refine (rdigits_to (k4) k5 _ (by have := HK4.out; omega) HK5.out H.out hc hn (by omega)).mono ?_); rintro e wn ⟨rfl, hw⟩; (obtain rfl : w = wn := hw.symm)))
                    go_ret
                    exact ⟨by rw [HEF.out]; rfl, rfl⟩
                  · have HEF := hide (show numR l = decide (k5 = l.length) by rw [HEE.out, if_neg hr0, hk5])
                    have dk : ((k5 : Int) == (k4 : Int)) = false := by simp; omega
                    have dk2 : ((k5 : Int) == ((k3 : Int) + 1 + 1)) = false := by simp; omega
                    clear hk4
                    clear HEE hk5 hr0
                    go_wp2_with (first | (go_at_call 21; (refine (ris_any (k3) 101 _ _ (by omega) (by rfl) H.out hc).mono ?_); rintro e wn ⟨rfl, hw⟩; (obtain rfl : w = wn := hw.symm)) | (go_at_call 21; (refine (ris_any (k3) 69 _ _ (by omega) (by rfl) H.out hc).mono ?_); rintro e wn ⟨rfl, hw⟩; (obtain rfl : w = wn := hw.symm)) | (go_at_call 21; (refine (ris_any (k3 + 1) 43 _ _ (by omega) (by rfl) H.out hc).mono ?_); rintro e wn ⟨rfl, hw⟩; (obtain rfl : w = wn := hw.symm)) | (go_at_call 21; (refine (ris_any (k3 + 1) 45 _ _ (by omega) (by rfl) H.out hc).mono ?_); rintro e wn ⟨rfl, hw⟩; (obtain rfl : w = wn := hw.symm)) | (go_at_call 22; (refine (rdigits_to (k4) k5 _ (by have := HK4.out; omega) HK5.out H.out hc hn (by omega)).mono ?_); rintro e wn ⟨rfl, hw⟩; (obtain rfl : w = wn := hw.symm)))
                    go_ret
                    exact ⟨by rw [HEF.out, HL.out]; exact ret_num k5 n, rfl⟩
              · have hns : nS (l.drop (k3 + 1)) = 1 := by unfold nS; rw [isS_two, hs1]; rfl
                rw [hns] at HEE
                obtain ⟨k4, hk4⟩ : ∃ k, k3 + 1 + 1 = k := ⟨_, rfl⟩
                obtain ⟨k5, hk5⟩ : ∃ k, k4 + runDg (l.drop k4) = k := ⟨_, rfl⟩
                rw [hk4] at HEE
                have HK5 := hide hk5
                have hk4n : k4 ≤ n + 2 := by omega
                have HK4 := hide hk4
                by_cases hr0 : runDg (l.drop k4) = 0
                · have HEF := hide (show numR l = false by rw [HEE.out, if_pos hr0])
                  have dk : ((k5 : Int) == (k4 : Int)) = true := by simp; omega
                  have dk2 : ((k5 : Int) == ((k3 : Int) + 1 + 1)) = true := by simp; omega
                  clear hk4
                  clear HEE hk5 hr0
                  go_wp2_with (first | (go_at_call 21; (refine (ris_any (k3) 101 _ _ (by omega) (by rfl) H.out hc).mono ?_); rintro e wn ⟨rfl, hw⟩; (obtain rfl : w = wn := hw.symm)) | (go_at_call 21; (refine (ris_any (k3) 69 _ _ (by omega) (by rfl) H.out hc).mono ?_); rintro e wn ⟨rfl, hw⟩; (obtain rfl : w = wn := hw.symm)) | (go_at_call 21; (refine (ris_any (k3 + 1) 43 _ _ (by omega) (by rfl) H.out hc).mono ?_); rintro e wn ⟨rfl, hw⟩; (obtain rfl : w = wn := hw.symm)) | (go_at_call 21; (refine (ris_any (k3 + 1) 45 _ _ (by omega) (by rfl) H.out hc).mono ?_); rintro e wn ⟨rfl, hw⟩; (obtain rfl : w = wn := hw.symm)) | (go_at_call 22; (refine (rdigits_to (k4) k5 _ (by have := HK4.out; omega) HK5.out H.out hc hn (by omega)).mono ?_); rintro e wn ⟨rfl, hw⟩; (obtain rfl : w = wn := hw.symm)))
                  go_ret
                  exact ⟨by rw [HEF.out]; rfl, rfl⟩
                · have HEF := hide (show numR l = decide (k5 = l.length) by rw [HEE.out, if_neg hr0, hk5])
                  have dk : ((k5 : Int) == (k4 : Int)) = false := by simp; omega
                  have dk2 : ((k5 : Int) == ((k3 : Int) + 1 + 1)) = false := by simp; omega
                  clear hk4
                  clear HEE hk5 hr0
                  go_wp2_with (first | (go_at_call 21; (refine (ris_any (k3) 101 _ _ (by omega) (by rfl) H.out hc).mono ?_); rintro e wn ⟨rfl, hw⟩; (obtain rfl : w = wn := hw.symm)) | (go_at_call 21; (refine (ris_any (k3) 69 _ _ (by omega) (by rfl) H.out hc).mono ?_); rintro e wn ⟨rfl, hw⟩; (obtain rfl : w = wn := hw.symm)) | (go_at_call 21; (refine (ris_any (k3 + 1) 43 _ _ (by omega) (by rfl) H.out hc).mono ?_); rintro e wn ⟨rfl, hw⟩; (obtain rfl : w = wn := hw.symm)) | (go_at_call 21; (refine (ris_any (k3 + 1) 45 _ _ (by omega) (by rfl) H.out hc).mono ?_); rintro e wn ⟨rfl, hw⟩; (obtain rfl : w = wn := hw.symm)) | (go_at_call 22; (refine (rdigits_to (k4) k5 _ (by have := HK4.out; omega) HK5.out H.out hc hn (by omega)).mono ?_); rintro e wn ⟨rfl, hw⟩; (obtain rfl : w = wn := hw.symm)))
                  go_ret
                  exact ⟨by rw [HEF.out, HL.out]; exact ret_num k5 n, rfl⟩
        · have dx : ((x.toNat : Int) == 48) = false := by simp; omega
          go_upto_if 29 with (first | (go_at_call 21; (refine (ris_any (k1) 46 _ _ (by omega) (by rfl) H.out hc).mono ?_); rintro e wn ⟨rfl, hw⟩; (obtain rfl : w = wn := hw.symm)) | (go_at_call 22; (refine (rdigits_to (i0) k1 _ (by omega) HK1.out H.out hc hn (by omega)).mono ?_); rintro e wn ⟨rfl, hw⟩; (obtain rfl : w = wn := hw.symm)))
          go_cut [3] from 4 (fun v W => ∃ k3 : Nat, Hid (v = .int .i64 (k3 : Int)) ∧ W = w ∧ k3 ≤ n ∧ Hid (numR l = numE l k3))
          case first =>
            cases hI46 : isS (l.drop k1) [46]
            · have HE := hide (show numR l = numE l k1 by rw [HR2.out, hI46]; rfl)
              clear HR2
              go_wp2_with fail
              go_meet
              case rel => exact ⟨k1, rfl, rfl, hkl, HE⟩
            · obtain ⟨k2, hk2⟩ : ∃ k, k1 + 1 + runDg (l.drop (k1 + 1)) = k := ⟨_, rfl⟩
              have hk1n : k1 + 1 ≤ n := by
                rcases Nat.lt_or_ge k1 n with h | h
                · exact h
                · rw [isS_end (by rw [HL.out]; exact h)] at hI46; cases hI46
              have hk2n : k2 ≤ n := by rw [← hk2]; exact HRL.out _ hk1n
              have HR3 := hide (show numR l = if runDg (l.drop (k1 + 1)) = 0 then false else numE l k2 by rw [HR2.out, hI46, hk2]; rfl)
              have HK2 := hide hk2
              clear HR2
              by_cases hr0 : runDg (l.drop (k1 + 1)) = 0
              · have HE := hide (show numR l = false by rw [HR3.out, if_pos hr0])
                have dk : ((k2 : Int) == (k1 : Int) + 1) = true := by simp; omega
                clear HR3 hk2 hr0
                go_wp2_with (go_at_call 22; (refine (rdigits_to (k1 + 1) k2 _ (by omega) HK2.out H.out hc hn (by omega)).mono ?_); rintro e wn ⟨rfl, hw⟩; (obtain rfl : w = wn := hw.symm))
                go_ret
                exact ⟨by rw [HE.out]; rfl, rfl⟩
              · have HE := hide (show numR l = numE l k2 by rw [HR3.out, if_neg hr0])
                have dk : ((k2 : Int) == (k1 : Int) + 1) = false := by simp; omega
                clear HR3 hk2 hr0
                go_wp2_with (go_at_call 22; (refine (rdigits_to (k1 + 1) k2 _ (by omega) HK2.out H.out hc hn (by omega)).mono ?_); rintro e wn ⟨rfl, hw⟩; (obtain rfl : w = wn := hw.symm))
                go_meet
                case rel => exact ⟨k2, rfl, rfl, hk2n, HE⟩
          case rest =>
            clear HR2
            obtain ⟨k3, hv, hW, hk3, HE3⟩ := hcut
            rw [show u3 = _ from hv]
            clear hv
            obtain ⟨w2, hwc⟩ : ∃ x, x = wc := ⟨_, rfl⟩
            subst hwc
            (obtain rfl : w = w2 := hW.symm)
            clear hW dd hk
            cases he1 : isS (l.drop k3) [101]
            · cases he2 : isS (l.drop k3) [69]
              · have HEF := hide (show numR l = decide (k3 = l.length) by rw [HE3.out, numE_eq, isS_two, he1, he2]; rfl)
                clear HE3
                go_wp2_with (first | (go_at_call 21; (refine (ris_any (k3) 101 _ _ (by omega) (by rfl) H.out hc).mono ?_); rintro e wn ⟨rfl, hw⟩; (obtain rfl : w = wn := hw.symm)) | (go_at_call 21; (refine (ris_any (k3) 69 _ _ (by omega) (by rfl) H.out hc).mono ?_); rintro e wn ⟨rfl, hw⟩; (obtain rfl : w = wn := hw.symm)))
                go_ret
                exact ⟨by rw [HEF.out, HL.out]; exact ret_num k3 n, rfl⟩
              · have HEE := hide (show numR l = if runDg (l.drop (k3 + 1 + nS (l.drop (k3 + 1)))) = 0 then false else decide (k3 + 1 + nS (l.drop (k3 + 1)) + runDg (l.drop (k3 + 1 + nS (l.drop (k3 + 1)))) = l.length) by rw [HE3.out, numE_eq, isS_two, he1, he2]; rfl)
                cases hs1 : isS (l.drop (k3 + 1)) [43]
                · cases hs2 : isS (l.drop (k3 + 1)) [45]
                  · have hns : nS (l.drop (k3 + 1)) = 0 := by unfold nS; rw [isS_two, hs1, hs2]; rfl
                    rw [hns] at HEE
                    obtain ⟨k4, hk4⟩ : ∃ k, k3 + 1 + 0 = k := ⟨_, rfl⟩
                    obtain ⟨k5, hk5⟩ : ∃ k, k4 + runDg (l.drop k4) = k := ⟨_, rfl⟩
                    rw [hk4] at HEE
                    have HK5 := hide hk5
                    have hk4n : k4 ≤ n + 2 := by omega
                    have HK4 := hide hk4
                    by_cases hr0 : runDg (l.drop k4) = 0
                    · have HEF := hide (show numR l = false by rw [HEE.out, if_pos hr0])
                      have dk : ((k5 : Int) == (k4 : Int)) = true := by simp; omega
                      have dk2 : ((k5 : Int) == ((k3 : Int) + 1)) = true := by simp; omega
                      clear hk4
                      clear HEE hk5 hr0
                      go_wp2_with (first | (go_at_call 21; (refine (ris_any (k3) 101 _ _ (by omega) (by rfl) H.out hc).mono ?_); rintro e wn ⟨rfl, hw⟩; (obtain rfl : w = wn := hw.symm)) | (go_at_call 21; (refine (ris_any (k3) 69 _ _ (by omega) (by rfl) H.out hc).mono ?_); rintro e wn ⟨rfl, hw⟩; (obtain rfl : w = wn := hw.symm)) | (go_at_call 21; (refine (ris_any (k3 + 1) 43 _ _ (by omega) (by rfl) H.out hc).mono ?_); rintro e wn ⟨rfl, hw⟩; (obtain rfl : w = wn := hw.symm)) | (go_at_call 21; (refine (ris_any (k3 + 1) 45 _ _ (by omega) (by rfl) H.out hc).mono ?_); rintro e wn ⟨rfl, hw⟩; (obtain rfl : w = wn := hw.symm)) | (go_at_call 22; (refine (rdigits_to (k4) k5 _ (by have := HK4.out; omega) HK5.out H.out hc hn (by omega)).mono ?_); rintro e wn ⟨rfl, hw⟩; (obtain rfl : w = wn := hw.symm)))
                      go_ret
                      exact ⟨by rw [HEF.out]; rfl, rfl⟩
                    · have HEF := hide (show numR l = decide (k5 = l.length) by rw [HEE.out, if_neg hr0, hk5])
                      have dk : ((k5 : Int) == (k4 : Int)) = false := by simp; omega
                      have dk2 : ((k5 : Int) == ((k3 : Int) + 1)) = false := by simp; omega
                      clear hk4
                      clear HEE hk5 hr0
                      go_wp2_with (first | (go_at_call 21; (refine (ris_any (k3) 101 _ _ (by omega) (by rfl) H.out hc).mono ?_); rintro e wn ⟨rfl, hw⟩; (obtain rfl : w = wn := hw.symm)) | (go_at_call 21; (refine (ris_any (k3) 69 _ _ (by omega) (by rfl) H.out hc).mono ?_); rintro e wn ⟨rfl, hw⟩; (obtain rfl : w = wn := hw.symm)) | (go_at_call 21; (refine (ris_any (k3 + 1) 43 _ _ (by omega) (by rfl) H.out hc).mono ?_); rintro e wn ⟨rfl, hw⟩; (obtain rfl : w = wn := hw.symm)) | (go_at_call 21; (refine (ris_any (k3 + 1) 45 _ _ (by omega) (by rfl) H.out hc).mono ?_); rintro e wn ⟨rfl, hw⟩; (obtain rfl : w = wn := hw.symm)) | (go_at_call 22; (refine (rdigits_to (k4) k5 _ (by have := HK4.out; omega) HK5.out H.out hc hn (by omega)).mono ?_); rintro e wn ⟨rfl, hw⟩; (obtain rfl : w = wn := hw.symm)))
                      go_ret
                      exact ⟨by rw [HEF.out, HL.out]; exact ret_num k5 n, rfl⟩
                  · have hns : nS (l.drop (k3 + 1)) = 1 := by unfold nS; rw [isS_two, hs1, hs2]; rfl
                    rw [hns] at HEE
                    obtain ⟨k4, hk4⟩ : ∃ k, k3 + 1 + 1 = k := ⟨_, rfl⟩
                    obtain ⟨k5, hk5⟩ : ∃ k, k4 + runDg (l.drop k4) = k := ⟨_, rfl⟩
                    rw [hk4] at HEE
                    have HK5 := hide hk5
                    have hk4n : k4 ≤ n + 2 := by omega
                    have HK4 := hide hk4
                    by_cases hr0 : runDg (l.drop k4) = 0
                    · have HEF := hide (show numR l = false by rw [HEE.out, if_pos hr0])
                      have dk : ((k5 : Int) == (k4 : Int)) = true := by simp; omega
                      have dk2 : ((k5 : Int) == ((k3 : Int) + 1 + 1)) = true := by simp; omega
                      clear hk4
                      clear HEE hk5 hr0
                      go_wp2_with (first | (go_at_call 21; (refine (ris_any (k3) 101 _ _ (by omega) (by rfl) H.out hc).mono ?_); rintro e wn ⟨rfl, hw⟩; (obtain rfl : w = wn := hw.symm)) | (go_at_call 21; (refine (ris_any (k3) 69 _ _ (by omega) (by rfl) H.out hc).mono ?_); rintro e wn ⟨rfl, hw⟩; (obtain rfl : w = wn := hw.symm)) | (go_at_call 21; (refine (ris_any (k3 + 1) 43 _ _ (by omega) (by rfl) H.out hc).mono ?_); rintro e wn ⟨rfl, hw⟩; (obtain rfl : w = wn := hw.symm)) | (go_at_call 21; (refine (ris_any (k3 + 1) 45 _ _ (by omega) (by rfl) H.out hc).mono ?_); rintro e wn ⟨rfl, hw⟩; (obtain rfl : w = wn := hw.symm)) | (go_at_call 22; (refine (rdigits_to (k4) k5 _ (by have := HK4.out; omega) HK5.out H.out hc hn (by omega)).mono ?_); rintro e wn ⟨rfl, hw⟩; (obtain rfl : w = wn := hw.symm)))
                      go_ret
                      exact ⟨by rw [HEF.out]; rfl, rfl⟩
                    · have HEF := hide (show numR l = decide (k5 = l.length) by rw [HEE.out, if_neg hr0, hk5])
                      have dk : ((k5 : Int) == (k4 : Int)) = false := by simp; omega
                      have dk2 : ((k5 : Int) == ((k3 : Int) + 1 + 1)) = false := by simp; omega
                      clear hk4
                      clear HEE hk5 hr0
                      go_wp2_with (first | (go_at_call 21; (refine (ris_any (k3) 101 _ _ (by omega) (by rfl) H.out hc).mono ?_); rintro e wn ⟨rfl, hw⟩; (obtain rfl : w = wn := hw.symm)) | (go_at_call 21; (refine (ris_any (k3) 69 _ _ (by omega) (by rfl) H.out hc).mono ?_); rintro e wn ⟨rfl, hw⟩; (obtain rfl : w = wn := hw.symm)) | (go_at_call 21; (refine (ris_any (k3 + 1) 43 _ _ (by omega) (by rfl) H.out hc).mono ?_); rintro e wn ⟨rfl, hw⟩; (obtain rfl : w = wn := hw.symm)) | (go_at_call 21; (refine (ris_any (k3 + 1) 45 _ _ (by omega) (by rfl) H.out hc).mono ?_); rintro e wn ⟨rfl, hw⟩; (obtain rfl : w = wn := hw.symm)) | (go_at_call 22; (refine (rdigits_to (k4) k5 _ (by have := HK4.out; omega) HK5.out H.out hc hn (by omega)).mono ?_); rintro e wn ⟨rfl, hw⟩; (obtain rfl : w = wn := hw.symm)))
                      go_ret
                      exact ⟨by rw [HEF.out, HL.out]; exact ret_num k5 n, rfl⟩
                · have hns : nS (l.drop (k3 + 1)) = 1 := by unfold nS; rw [isS_two, hs1]; rfl
                  rw [hns] at HEE
                  obtain ⟨k4, hk4⟩ : ∃ k, k3 + 1 + 1 = k := ⟨_, rfl⟩
                  obtain ⟨k5, hk5⟩ : ∃ k, k4 + runDg (l.drop k4) = k := ⟨_, rfl⟩
                  rw [hk4] at HEE
                  have HK5 := hide hk5
                  have hk4n : k4 ≤ n + 2 := by omega
                  have HK4 := hide hk4
                  by_cases hr0 : runDg (l.drop k4) = 0
                  · have HEF := hide (show numR l = false by rw [HEE.out, if_pos hr0])
                    have dk : ((k5 : Int) == (k4 : Int)) = true := by simp; omega
                    have dk2 : ((k5 : Int) == ((k3 : Int) + 1 + 1)) = true := by simp; omega
                    clear hk4
                    clear HEE hk5 hr0
                    go_wp2_with (first | (go_at_call 21; (refine (ris_any (k3) 101 _ _ (by omega) (by rfl) H.out hc).mono ?_); rintro e wn ⟨rfl, hw⟩; (obtain rfl : w = wn := hw.symm)) | (go_at_call 21; (refine (ris_any (k3) 69 _ _ (by omega) (by rfl) H.out hc).mono ?_); rintro e wn ⟨rfl, hw⟩; (obtain rfl : w = wn := hw.symm)) | (go_at_call 21; (refine (ris_any (k3 + 1) 43 _ _ (by omega) (by rfl) H.out hc).mono ?_); rintro e wn ⟨rfl, hw⟩; (obtain rfl : w = wn := hw.symm)) | (go_at_call 21; (refine (ris_any (k3 + 1) 45 _ _ (by omega) (by rfl) H.out hc).mono ?_); rintro e wn ⟨rfl, hw⟩; (obtain rfl : w = wn := hw.symm)) | (go_at_call 22; (refine (rdigits_to (k4) k5 _ (by have := HK4.out; omega) HK5.out H.out hc hn (by omega)).mono ?_); rintro e wn ⟨rfl, hw⟩; (obtain rfl : w = wn := hw.symm)))
                    go_ret
                    exact ⟨by rw [HEF.out]; rfl, rfl⟩
                  · have HEF := hide (show numR l = decide (k5 = l.length) by rw [HEE.out, if_neg hr0, hk5])
                    have dk : ((k5 : Int) == (k4 : Int)) = false := by simp; omega
                    have dk2 : ((k5 : Int) == ((k3 : Int) + 1 + 1)) = false := by simp; omega
                    clear hk4
                    clear HEE hk5 hr0
                    go_wp2_with (first | (go_at_call 21; (refine (ris_any (k3) 101 _ _ (by omega) (by rfl) H.out hc).mono ?_); rintro e wn ⟨rfl, hw⟩; (obtain rfl : w = wn := hw.symm)) | (go_at_call 21; (refine (ris_any (k3) 69 _ _ (by omega) (by rfl) H.out hc).mono ?_); rintro e wn ⟨rfl, hw⟩; (obtain rfl : w = wn := hw.symm)) | (go_at_call 21; (refine (ris_any (k3 + 1) 43 _ _ (by omega) (by rfl) H.out hc).mono ?_); rintro e wn ⟨rfl, hw⟩; (obtain rfl : w = wn := hw.symm)) | (go_at_call 21; (refine (ris_any (k3 + 1) 45 _ _ (by omega) (by rfl) H.out hc).mono ?_); rintro e wn ⟨rfl, hw⟩; (obtain rfl : w = wn := hw.symm)) | (go_at_call 22; (refine (rdigits_to (k4) k5 _ (by have := HK4.out; omega) HK5.out H.out hc hn (by omega)).mono ?_); rintro e wn ⟨rfl, hw⟩; (obtain rfl : w = wn := hw.symm)))
                    go_ret
                    exact ⟨by rw [HEF.out, HL.out]; exact ret_num k5 n, rfl⟩
            · have HEE := hide (show numR l = if runDg (l.drop (k3 + 1 + nS (l.drop (k3 + 1)))) = 0 then false else decide (k3 + 1 + nS (l.drop (k3 + 1)) + runDg (l.drop (k3 + 1 + nS (l.drop (k3 + 1)))) = l.length) by rw [HE3.out, numE_eq, isS_two, he1]; rfl)
              cases hs1 : isS (l.drop (k3 + 1)) [43]
              · cases hs2 : isS (l.drop (k3 + 1)) [45]
                · have hns : nS (l.drop (k3 + 1)) = 0 := by unfold nS; rw [isS_two, hs1, hs2]; rfl
                  rw [hns] at HEE
                  obtain ⟨k4, hk4⟩ : ∃ k, k3 + 1 + 0 = k := ⟨_, rfl⟩
                  obtain ⟨k5, hk5⟩ : ∃ k, k4 + runDg (l.drop k4) = k := ⟨_, rfl⟩
                  rw [hk4] at HEE
                  have HK5 := hide hk5
                  have hk4n : k4 ≤ n + 2 := by omega
                  have HK4 := hide hk4
                  by_cases hr0 : runDg (l.drop k4) = 0
                  · have HEF := hide (show numR l = false by rw [HEE.out, if_pos hr0])
                    have dk : ((k5 : Int) == (k4 : Int)) = true := by simp; omega
                    have dk2 : ((k5 : Int) == ((k3 : Int) + 1)) = true := by simp; omega
                    clear hk4
                    clear HEE hk5 hr0
                    go_wp2_with (first | (go_at_call 21; (refine (ris_any (k3) 101 _ _ (by omega) (by rfl) H.out hc).mono ?_); rintro e wn ⟨rfl, hw⟩; (obtain rfl : w = wn := hw.symm)) | (go_at_call 21; (refine (ris_any (k3) 69 _ _ (by omega) (by rfl) H.out hc).mono ?_); rintro e wn ⟨rfl, hw⟩; (obtain rfl : w = wn := hw.symm)) | (go_at_call 21; (refine (ris_any (k3 + 1) 43 _ _ (by omega) (by rfl) H.out hc).mono ?_); rintro e wn ⟨rfl, hw⟩; (obtain rfl : w = wn := hw.symm)) | (go_at_call 21; (refine (ris_any (k3 + 1) 45 _ _ (by omega) (by rfl) H.out hc).mono ?_); rintro e wn ⟨rfl, hw⟩; (obtain rfl : w = wn := hw.symm)) | (go_at_call 22; (refine (rdigits_to (k4) k5 _ (by have := HK4.out; omega) HK5.out H.out hc hn (by omega)).mono ?_); rintro e wn ⟨rfl, hw⟩; (obtain rfl : w = wn := hw.symm)))
                    go_ret
                    exact ⟨by rw [HEF.out]; rfl, rfl⟩
                  · have HEF := hide (show numR l = decide (k5 = l.length) by rw [HEE.out, if_neg hr0, hk5])
                    have dk : ((k5 : Int) == (k4 : Int)) = false := by simp; omega
                    have dk2 : ((k5 : Int) == ((k3 : Int) + 1)) = false := by simp; omega
                    clear hk4
                    clear HEE hk5 hr0
                    go_wp2_with (first | (go_at_call 21; (refine (ris_any (k3) 101 _ _ (by omega) (by rfl) H.out hc).mono ?_); rintro e wn ⟨rfl, hw⟩; (obtain rfl : w = wn := hw.symm)) | (go_at_call 21; (refine (ris_any (k3) 69 _ _ (by omega) (by rfl) H.out hc).mono ?_); rintro e wn ⟨rfl, hw⟩; (obtain rfl : w = wn := hw.symm)) | (go_at_call 21; (refine (ris_any (k3 + 1) 43 _ _ (by omega) (by rfl) H.out hc).mono ?_); rintro e wn ⟨rfl, hw⟩; (obtain rfl : w = wn := hw.symm)) | (go_at_call 21; (refine (ris_any (k3 + 1) 45 _ _ (by omega) (by rfl) H.out hc).mono ?_); rintro e wn ⟨rfl, hw⟩; (obtain rfl : w = wn := hw.symm)) | (go_at_call 22; (refine (rdigits_to (k4) k5 _ (by have := HK4.out; omega) HK5.out H.out hc hn (by omega)).mono ?_); rintro e wn ⟨rfl, hw⟩; (obtain rfl : w = wn := hw.symm)))
                    go_ret
                    exact ⟨by rw [HEF.out, HL.out]; exact ret_num k5 n, rfl⟩
                · have hns : nS (l.drop (k3 + 1)) = 1 := by unfold nS; rw [isS_two, hs1, hs2]; rfl
                  rw [hns] at HEE
                  obtain ⟨k4, hk4⟩ : ∃ k, k3 + 1 + 1 = k := ⟨_, rfl⟩
                  obtain ⟨k5, hk5⟩ : ∃ k, k4 + runDg (l.drop k4) = k := ⟨_, rfl⟩
                  rw [hk4] at HEE
                  have HK5 := hide hk5
                  have hk4n : k4 ≤ n + 2 := by omega
                  have HK4 := hide hk4
                  by_cases hr0 : runDg (l.drop k4) = 0
                  · have HEF := hide (show numR l = false by rw [HEE.out, if_pos hr0])
                    have dk : ((k5 : Int) == (k4 : Int)) = true := by simp; omega
                    have dk2 : ((k5 : Int) == ((k3 : Int) + 1 + 1)) = true := by simp; omega
                    clear hk4
                    clear HEE hk5 hr0
                    go_wp2_with (first | (go_at_call 21; (refine (ris_any (k3) 101 _ _ (by omega) (by rfl) H.out hc).mono ?_); rintro e wn ⟨rfl, hw⟩; (obtain rfl : w = wn := hw.symm)) | (go_at_call 21; (refine (ris_any (k3) 69 _ _ (by omega) (by rfl) H.out hc).mono ?_); rintro e wn ⟨rfl, hw⟩; (obtain rfl : w = wn := hw.symm)) | (go_at_call 21; (refine (ris_any (k3 + 1) 43 _ _ (by omega) (by rfl) H.out hc).mono ?_); rintro e wn ⟨rfl, hw⟩; (obtain rfl : w = wn := hw.symm)) | (go_at_call 21; (refine (ris_any (k3 + 1) 45 _ _ (by omega) (by rfl) H.out hc).mono ?_); rintro e wn ⟨rfl, hw⟩; (obtain rfl : w = wn := hw.symm)) | (go_at_call 22; (refine (rdigits_to (k4) k5 _ (by have := HK4.out; omega) HK5.out H.out hc hn (by omega)).mono ?_); rintro e wn ⟨rfl, hw⟩; (obtain rfl : w = wn := hw.symm)))
                    go_ret
                    exact ⟨by rw [HEF.out]; rfl, rfl⟩
                  · have HEF := hide (show numR l = decide (k5 = l.length) by rw [HEE.out, if_neg hr0, hk5])
                    have dk : ((k5 : Int) == (k4 : Int)) = false := by simp; omega
                    have dk2 : ((k5 : Int) == ((k3 : Int) + 1 + 1)) = false := by simp; omega
                    clear hk4
                    clear HEE hk5 hr0
                    go_wp2_with (first | (go_at_call 21; (refine (ris_any (k3) 101 _ _ (by omega) (by rfl) H.out hc).mono ?_); rintro e wn ⟨rfl, hw⟩; (obtain rfl : w = wn := hw.symm)) | (go_at_call 21; (refine (ris_any (k3) 69 _ _ (by omega) (by rfl) H.out hc).mono ?_); rintro e wn ⟨rfl, hw⟩; (obtain rfl : w = wn := hw.symm)) | (go_at_call 21; (refine (ris_any (k3 + 1) 43 _ _ (by omega) (by rfl) H.out hc).mono ?_); rintro e wn ⟨rfl, hw⟩; (obtain rfl : w = wn := hw.symm)) | (go_at_call 21; (refine (ris_any (k3 + 1) 45 _ _ (by omega) (by rfl) H.out hc).mono ?_); rintro e wn ⟨rfl, hw⟩; (obtain rfl : w = wn := hw.symm)) | (go_at_call 22; (refine (rdigits_to (k4) k5 _ (by have := HK4.out; omega) HK5.out H.out hc hn (by omega)).mono ?_); rintro e wn ⟨rfl, hw⟩; (obtain rfl : w = wn := hw.symm)))
                    go_ret
                    exact ⟨by rw [HEF.out, HL.out]; exact ret_num k5 n, rfl⟩
              · have hns : nS (l.drop (k3 + 1)) = 1 := by unfold nS; rw [isS_two, hs1]; rfl
                rw [hns] at HEE
                obtain ⟨k4, hk4⟩ : ∃ k, k3 + 1 + 1 = k := ⟨_, rfl⟩
                obtain ⟨k5, hk5⟩ : ∃ k, k4 + runDg (l.drop k4) = k := ⟨_, rfl⟩
                rw [hk4] at HEE
                have HK5 := hide hk5
                have hk4n : k4 ≤ n + 2 := by omega
                have HK4 := hide hk4
                by_cases hr0 : runDg (l.drop k4) = 0
                · have HEF := hide (show numR l = false by rw [HEE.out, if_pos hr0])
                  have dk : ((k5 : Int) == (k4 : Int)) = true := by simp; omega
                  have dk2 : ((k5 : Int) == ((k3 : Int) + 1 + 1)) = true := by simp; omega
                  clear hk4
                  clear HEE hk5 hr0
                  go_wp2_with (first | (go_at_call 21; (refine (ris_any (k3) 101 _ _ (by omega) (by rfl) H.out hc).mono ?_); rintro e wn ⟨rfl, hw⟩; (obtain rfl : w = wn := hw.symm)) | (go_at_call 21; (refine (ris_any (k3) 69 _ _ (by omega) (by rfl) H.out hc).mono ?_); rintro e wn ⟨rfl, hw⟩; (obtain rfl : w = wn := hw.symm)) | (go_at_call 21; (refine (ris_any (k3 + 1) 43 _ _ (by omega) (by rfl) H.out hc).mono ?_); rintro e wn ⟨rfl, hw⟩; (obtain rfl : w = wn := hw.symm)) | (go_at_call 21; (refine (ris_any (k3 + 1) 45 _ _ (by omega) (by rfl) H.out hc).mono ?_); rintro e wn ⟨rfl, hw⟩; (obtain rfl : w = wn := hw.symm)) | (go_at_call 22; (refine (rdigits_to (k4) k5 _ (by have := HK4.out; omega) HK5.out H.out hc hn (by omega)).mono ?_); rintro e wn ⟨rfl, hw⟩; (obtain rfl : w = wn := hw.symm)))
                  go_ret
                  exact ⟨by rw [HEF.out]; rfl, rfl⟩
                · have HEF := hide (show numR l = decide (k5 = l.length) by rw [HEE.out, if_neg hr0, hk5])
                  have dk : ((k5 : Int) == (k4 : Int)) = false := by simp; omega
                  have dk2 : ((k5 : Int) == ((k3 : Int) + 1 + 1)) = false := by simp; omega
                  clear hk4
                  clear HEE hk5 hr0
                  go_wp2_with (first | (go_at_call 21; (refine (ris_any (k3) 101 _ _ (by omega) (by rfl) H.out hc).mono ?_); rintro e wn ⟨rfl, hw⟩; (obtain rfl : w = wn := hw.symm)) | (go_at_call 21; (refine (ris_any (k3) 69 _ _ (by omega) (by rfl) H.out hc).mono ?_); rintro e wn ⟨rfl, hw⟩; (obtain rfl : w = wn := hw.symm)) | (go_at_call 21; (refine (ris_any (k3 + 1) 43 _ _ (by omega) (by rfl) H.out hc).mono ?_); rintro e wn ⟨rfl, hw⟩; (obtain rfl : w = wn := hw.symm)) | (go_at_call 21; (refine (ris_any (k3 + 1) 45 _ _ (by omega) (by rfl) H.out hc).mono ?_); rintro e wn ⟨rfl, hw⟩; (obtain rfl : w = wn := hw.symm)) | (go_at_call 22; (refine (rdigits_to (k4) k5 _ (by have := HK4.out; omega) HK5.out H.out hc hn (by omega)).mono ?_); rintro e wn ⟨rfl, hw⟩; (obtain rfl : w = wn := hw.symm)))
                  go_ret
                  exact ⟨by rw [HEF.out, HL.out]; exact ret_num k5 n, rfl⟩
end Go.Proofs.YtmbjalcphdggnaaDoor
