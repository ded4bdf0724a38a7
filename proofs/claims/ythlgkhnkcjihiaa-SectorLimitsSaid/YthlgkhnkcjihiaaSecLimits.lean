/- The law SectorLimits returns true, whatever limit and calls. -/
import Derived.Test.YthlgkhnkcjihiaaSecL
import Derived.Test.YthlgkhnkcjihiaaSecAct
namespace Go.Proofs.Ythlgkhnkcjihiaa
set_option linter.unusedSimpArgs false
set_option linter.unusedVariables false
open Go.RowKit
theorem ba_eq (out : Bool) (left : Int) : baE out left = if baOut out left then 15 else 0 := by
  unfold baE baOut; cases out <;> simp
theorem wr_ba (out : Bool) (left size at_ : Int) (h : 0 ≤ at_ ∧ at_ < size) : wrE out left size at_ 512 = baE out left ∧ wrOut out left size at_ 512 = baOut out left ∧ wrLeft out left size at_ 512 = baLeft out left := by
  have hf : faultE out size at_ = if out then 15 else 0 := by
    unfold faultE
    cases out
    · rw [if_neg (by simp), if_neg (by omega), if_neg (by omega)]; rfl
    · rfl
  unfold wrE wrOut wrLeft wrDo baE baOut baLeft
  rw [hf]
  cases out <;> simp
def limO (k j : Nat) : Bool := decide (0 < k) && decide (k ≤ j)
def limL (k j : Nat) : Int := ((k - j : Nat) : Int)
theorem lim_step (k j : Nat) : baOut (limO k j) (limL k j) = limO k (j + 1) ∧ baLeft (limO k j) (limL k j) = limL k (j + 1) := by
  unfold baOut baLeft burnO burnL limO limL
  by_cases h0 : k = 0
  · subst h0; simp
  · by_cases h1 : k ≤ j
    · simp [show 0 < k by omega, h1, show k ≤ j + 1 by omega, show k - j = 0 by omega, show k - (j + 1) = 0 by omega]
    · by_cases h2 : k ≤ j + 1
      · have e : k - j = 1 := by omega
        simp [show 0 < k by omega, h1, h2, e, show k - (j + 1) = 0 by omega]
      · have e : ((k - j : Nat) : Int) - 1 = ((k - (j + 1) : Nat) : Int) := by omega
        have e2 : (0 : Int) < ((k - j : Nat) : Int) := by omega
        simp only [show 0 < k by omega, h1, h2, decide_true, decide_false, Bool.and_false, Bool.false_eq_true, if_false, if_pos e2, e]
        refine ⟨?_, trivial⟩
        simp; omega
theorem lim0 (k : Nat) : limO k 0 = false ∧ limL k 0 = (k : Int) := by
  unfold limO limL
  refine ⟨?_, rfl⟩
  cases k <;> simp
def LimAt (w : World) (b k : Nat) (wr : World) (j : Nat) : Prop := ∃ F S L, Sec wr F b (limO k j) (limL k j) 8 S L j ∧ (∀ x, F x → w.heap.size ≤ x) ∧ Below w.heap.size w wr
set_option maxRecDepth 100000 in
set_option maxHeartbeats 2000000 in
theorem limits_any (a0 : Int) (l : List Bool) (A : Option Addr) (n c : Nat) (w : World) (ha : 0 ≤ a0 ∧ a0 < 256) (hr : BR w w.heap.size A n l) (hn : n ≤ 140737488351232) :
    Calls Try.prog 4 #[.int .u8 a0, .slice A n c] w fun e w' => e = .returned (.bool true) ∧ Below w.heap.size w w' := by
  obtain ⟨k, hk, hk2⟩ : ∃ k : Nat, a0 % 30 = (k : Int) ∧ k < 30 := ⟨(a0 % 30).toNat, by omega, by omega⟩
  have HR := hide hr
  clear hr
  go_enter Try.func4, Try.ntmps4
  go_wp2_with (first | (go_at_call 14; (refine (sec_new 8 w (by omega)).mono ?_); rintro e w1 ⟨rfl, h1, hb1⟩; have H1 := hide h1; have HB1 := hide hb1; clear h1 hb1) | (go_at_call 9; (refine (answers_any w1).mono ?_); rintro e w2 ⟨rfl, hb2⟩; have H2 := hide (H1.out.below hb2); have HB2 := hide (HB1.out.trans (hb2.mono HB1.out.size)); clear hb2) | (go_at_call 15; (refine (sec_limit H2.out k (by omega)).mono ?_); rintro e w3 ⟨rfl, h3, hf3⟩; have HL := hide (show LimAt w (w.heap.size + 1) k w3 0 from ⟨_, _, _, (lim0 k).1.symm ▸ (lim0 k).2.symm ▸ h3, fun x hx => hx.1, HB2.out.trans (hf3.below HB2.out.size (fun j hj => hj.1))⟩); clear h3 hf3))
  go_loopw [8] (fun i wr => ∃ j : Nat, j ≤ n ∧ j ≤ 60 ∧ i = .int .i64 j ∧ Hid (LimAt w (w.heap.size + 1) k wr j)) (fun i _ => n - (intOf i).toNat)
  case atStart => exact ⟨0, by omega, by omega, rfl, HL⟩
  case round =>
    obtain ⟨j, hj, hj6, rfl, HI⟩ := hrel
    by_cases hlt : j < n ∧ j < 60
    · obtain ⟨hlt, hlt6⟩ := hlt
      obtain ⟨F, S, L, hs, hF, hb⟩ := HI.out
      obtain ⟨bg, o, rfl, hbg, hc⟩ := Sl.at (HR.out.below hb) (fun _ => rfl) (by omega) (by omega : 0 < n)
      have hll := HR.out.len
      have c0 : wr.cell? ⟨bg, o + j, none⟩ = some (.bool l[j]) := by
        have := hc j (by omega) 0 _ rfl
        simpa using this
      have z0 : bg < wr.heap.size := Nat.lt_of_lt_of_le hbg hb.size
      obtain ⟨bv, hbv⟩ : ∃ bv, l[j] = bv := ⟨_, rfl⟩
      rw [hbv] at c0
      have HS := hide hs
      have HFF := hide hF
      have HB := hide hb
      obtain ⟨hst1, hst2⟩ := lim_step k j
      have hba := ba_eq (limO k j) (limL k j)
      rw [hst1] at hba
      have HS1 := hide hst1
      have HS2 := hide hst2
      have i60 : (j : Int) < 60 := by omega
      have m60 : (j : Int) % 256 = j := by omega
      clear hs hF hb hc HI hbv hst1 hst2 hll
      have hm8 : (0 : Int) ≤ (j : Int) % 8 ∧ (j : Int) % 8 < 8 := by omega
      have HWR := hide (wr_ba (limO k j) (limL k j) 8 ((j : Int) % 8) hm8)
      rcases (show k = 0 ∨ (0 < k ∧ j < k - 1) ∨ (0 < k ∧ k - 1 ≤ j) by omega) with hcs | hcs | hcs
      · have hO : limO k (j + 1) = false := by unfold limO; simp; omega
        have HE := hide (show baE (limO k j) (limL k j) = 0 by rw [hba, hO]; rfl)
        have HOO := hide hO
        have d1 : ¬ (0 : Int) < k := by omega
        clear hba hO hcs
        cases bv
        · go_wp2_with (first | (go_at_call 18; (refine (sec_barrier HS.out (by omega)).mono ?_); rintro e w5 ⟨rfl, h5, hf5⟩; rw [HE.out]; rw [HS1.out, HS2.out] at h5; have H5 := hide h5; have HB5 := hide (HB.out.trans (hf5.below HB.out.size HFF.out)); clear h5 hf5) | (go_at_call 11; (refine (sec_down H5.out).mono ?_); rintro e w6 ⟨rfl, hb6⟩; have HB6 := hide (HB5.out.trans (hb6.mono HB5.out.size)); have H6 := hide (H5.out.below hb6); clear hb6; rw [HOO.out]))
          go_roundw
          case rel => exact ⟨j + 1, by omega, by omega, by go_num, hide ⟨F, _, _, H6.out.more (by omega) (by omega), HFF.out, HB6.out⟩⟩
          case measure => simp [intOf]; omega
        · go_wp2_with (first | (go_at_call 17; (refine (data_any j false wr (by omega)).mono ?_); rintro e w4 ⟨rfl, h4, hb4⟩; have HF4 := hide (fil_data h4 (by omega)); have H4 := hide (HS.out.below hb4); have HB4 := hide (HB.out.trans (hb4.mono HB.out.size)); clear h4 hb4) | (go_at_call 16; (refine (sec_write H4.out ((j : Int) % 8) j _ 512 512 _ (fun _ => HF4.out) (by omega)).mono ?_); rintro e w5 ⟨rfl, ⟨F5, h5, hF5⟩, hf5⟩; rw [HWR.out.1, HE.out]; rw [HWR.out.2.1, HWR.out.2.2, HS1.out, HS2.out] at h5; have H5 := hide h5; have HB5 := hide (HB4.out.trans (hf5.below HB4.out.size HFF.out)); have HF5 := hide hF5; clear h5 hf5 hF5) | (go_at_call 11; (refine (sec_down H5.out).mono ?_); rintro e w6 ⟨rfl, hb6⟩; have HB6 := hide (HB5.out.trans (hb6.mono HB5.out.size)); have H6 := hide (H5.out.below hb6); clear hb6; rw [HOO.out]))
          go_roundw
          case rel => exact ⟨j + 1, by omega, by omega, by go_num, hide ⟨F5, _, _, H6.out, fun x hx => (HF5.out x hx).elim (HFF.out x) (fun h => Nat.le_trans HB4.out.size h), HB6.out⟩⟩
          case measure => simp [intOf]; omega
      · have hO : limO k (j + 1) = false := by unfold limO; simp; omega
        have HE := hide (show baE (limO k j) (limL k j) = 0 by rw [hba, hO]; rfl)
        have HOO := hide hO
        have d1 : (0 : Int) < k := by omega
        have d2 : ¬ (k : Int) - 1 ≤ j := by omega
        clear hba hO hcs
        cases bv
        · go_wp2_with (first | (go_at_call 18; (refine (sec_barrier HS.out (by omega)).mono ?_); rintro e w5 ⟨rfl, h5, hf5⟩; rw [HE.out]; rw [HS1.out, HS2.out] at h5; have H5 := hide h5; have HB5 := hide (HB.out.trans (hf5.below HB.out.size HFF.out)); clear h5 hf5) | (go_at_call 11; (refine (sec_down H5.out).mono ?_); rintro e w6 ⟨rfl, hb6⟩; have HB6 := hide (HB5.out.trans (hb6.mono HB5.out.size)); have H6 := hide (H5.out.below hb6); clear hb6; rw [HOO.out]))
          go_roundw
          case rel => exact ⟨j + 1, by omega, by omega, by go_num, hide ⟨F, _, _, H6.out.more (by omega) (by omega), HFF.out, HB6.out⟩⟩
          case measure => simp [intOf]; omega
        · go_wp2_with (first | (go_at_call 17; (refine (data_any j false wr (by omega)).mono ?_); rintro e w4 ⟨rfl, h4, hb4⟩; have HF4 := hide (fil_data h4 (by omega)); have H4 := hide (HS.out.below hb4); have HB4 := hide (HB.out.trans (hb4.mono HB.out.size)); clear h4 hb4) | (go_at_call 16; (refine (sec_write H4.out ((j : Int) % 8) j _ 512 512 _ (fun _ => HF4.out) (by omega)).mono ?_); rintro e w5 ⟨rfl, ⟨F5, h5, hF5⟩, hf5⟩; rw [HWR.out.1, HE.out]; rw [HWR.out.2.1, HWR.out.2.2, HS1.out, HS2.out] at h5; have H5 := hide h5; have HB5 := hide (HB4.out.trans (hf5.below HB4.out.size HFF.out)); have HF5 := hide hF5; clear h5 hf5 hF5) | (go_at_call 11; (refine (sec_down H5.out).mono ?_); rintro e w6 ⟨rfl, hb6⟩; have HB6 := hide (HB5.out.trans (hb6.mono HB5.out.size)); have H6 := hide (H5.out.below hb6); clear hb6; rw [HOO.out]))
          go_roundw
          case rel => exact ⟨j + 1, by omega, by omega, by go_num, hide ⟨F5, _, _, H6.out, fun x hx => (HF5.out x hx).elim (HFF.out x) (fun h => Nat.le_trans HB4.out.size h), HB6.out⟩⟩
          case measure => simp [intOf]; omega
      · have hO : limO k (j + 1) = true := by unfold limO; simp; omega
        have HE := hide (show baE (limO k j) (limL k j) = 15 by rw [hba, hO]; rfl)
        have HOO := hide hO
        have d1 : (0 : Int) < k := by omega
        have d2 : (k : Int) - 1 ≤ j := by omega
        clear hba hO hcs
        cases bv
        · go_wp2_with (first | (go_at_call 18; (refine (sec_barrier HS.out (by omega)).mono ?_); rintro e w5 ⟨rfl, h5, hf5⟩; rw [HE.out]; rw [HS1.out, HS2.out] at h5; have H5 := hide h5; have HB5 := hide (HB.out.trans (hf5.below HB.out.size HFF.out)); clear h5 hf5) | (go_at_call 11; (refine (sec_down H5.out).mono ?_); rintro e w6 ⟨rfl, hb6⟩; have HB6 := hide (HB5.out.trans (hb6.mono HB5.out.size)); have H6 := hide (H5.out.below hb6); clear hb6; rw [HOO.out]))
          go_roundw
          case rel => exact ⟨j + 1, by omega, by omega, by go_num, hide ⟨F, _, _, H6.out.more (by omega) (by omega), HFF.out, HB6.out⟩⟩
          case measure => simp [intOf]; omega
        · go_wp2_with (first | (go_at_call 17; (refine (data_any j false wr (by omega)).mono ?_); rintro e w4 ⟨rfl, h4, hb4⟩; have HF4 := hide (fil_data h4 (by omega)); have H4 := hide (HS.out.below hb4); have HB4 := hide (HB.out.trans (hb4.mono HB.out.size)); clear h4 hb4) | (go_at_call 16; (refine (sec_write H4.out ((j : Int) % 8) j _ 512 512 _ (fun _ => HF4.out) (by omega)).mono ?_); rintro e w5 ⟨rfl, ⟨F5, h5, hF5⟩, hf5⟩; rw [HWR.out.1, HE.out]; rw [HWR.out.2.1, HWR.out.2.2, HS1.out, HS2.out] at h5; have H5 := hide h5; have HB5 := hide (HB4.out.trans (hf5.below HB4.out.size HFF.out)); have HF5 := hide hF5; clear h5 hf5 hF5) | (go_at_call 11; (refine (sec_down H5.out).mono ?_); rintro e w6 ⟨rfl, hb6⟩; have HB6 := hide (HB5.out.trans (hb6.mono HB5.out.size)); have H6 := hide (H5.out.below hb6); clear hb6; rw [HOO.out]))
          go_roundw
          case rel => exact ⟨j + 1, by omega, by omega, by go_num, hide ⟨F5, _, _, H6.out, fun x hx => (HF5.out x hx).elim (HFF.out x) (fun h => Nat.le_trans HB4.out.size h), HB6.out⟩⟩
          case measure => simp [intOf]; omega
    · obtain ⟨F, S, L, hs, hF, hb⟩ := HI.out
      have HS := hide hs
      have HFF := hide hF
      have HB := hide hb
      clear hs hF hb HI
      by_cases hlt2 : j < n
      · have i60 : ¬ (j : Int) < 60 := by omega
        go_wp2_with (first | (go_at_call 10; (refine (sec_crash HS.out 0 (by omega) (by omega)).mono ?_); rintro e w5 ⟨rfl, h5, hf5⟩; have H5 := hide h5; have HB5 := hide (HB.out.trans (hf5.below HB.out.size HFF.out)); clear h5 hf5) | (go_at_call 11; (refine (sec_down H5.out).mono ?_); rintro e w6 ⟨rfl, hb6⟩; have HB6 := hide (HB5.out.trans (hb6.mono HB5.out.size)); have H6 := hide (H5.out.below hb6); clear hb6) | (go_at_call 18; (refine (sec_barrier H6.out (by omega)).mono ?_); rintro e w7 ⟨rfl, h7, hf7⟩; rw [show baE false 0 = 0 from rfl]; have HB7 := hide (HB6.out.trans (hf7.below HB6.out.size HFF.out)); clear h7 hf7))
        go_ret
        exact ⟨rfl, HB7.out⟩
      · go_wp2_with (first | (go_at_call 10; (refine (sec_crash HS.out 0 (by omega) (by omega)).mono ?_); rintro e w5 ⟨rfl, h5, hf5⟩; have H5 := hide h5; have HB5 := hide (HB.out.trans (hf5.below HB.out.size HFF.out)); clear h5 hf5) | (go_at_call 11; (refine (sec_down H5.out).mono ?_); rintro e w6 ⟨rfl, hb6⟩; have HB6 := hide (HB5.out.trans (hb6.mono HB5.out.size)); have H6 := hide (H5.out.below hb6); clear hb6) | (go_at_call 18; (refine (sec_barrier H6.out (by omega)).mono ?_); rintro e w7 ⟨rfl, h7, hf7⟩; rw [show baE false 0 = 0 from rfl]; have HB7 := hide (HB6.out.trans (hf7.below HB6.out.size HFF.out)); clear h7 hf7))
        go_ret
        exact ⟨rfl, HB7.out⟩
end Go.Proofs.Ythlgkhnkcjihiaa
