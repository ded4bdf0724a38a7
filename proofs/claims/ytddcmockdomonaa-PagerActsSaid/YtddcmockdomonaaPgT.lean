/- The pager: super. -/
import Derived.Test.YtddcmockdomonaaPgS
namespace Go.Proofs.Ytddcmockdomonaa
set_option linter.unusedSimpArgs false
set_option linter.unusedVariables false
open Go.RowKit
/-- Does a root stand in a sector? Its number, and the root. -/
def supC (c : Cn) : Bool := opS c && !opT c && opK c == 1 && opN c == 11
def supS (c : Cn) : Nat := evN (((opD c).drop 0).take 7)
def supR (c : Cn) : Nat := evN (((opD c).drop 7).take 4)
theorem Fil.rb {w : World} {F : Nat → Prop} {v : Value} {c : Cn} (h : Fil w F v c) : ∃ g cap, v = .slice (some ⟨g, 0, none⟩) 512 cap ∧ 512 ≤ cap ∧ F g ∧ RB w w.heap.size (some ⟨g, 0, none⟩) 512 c := by
  obtain ⟨_, A, c', e', hc⟩ := h.1
  obtain ⟨g, cap, e, hg, hr⟩ := h.reads
  rw [e] at e'
  injection e' with _ _ e3
  exact ⟨g, cap, e, by omega, hg, hr⟩
theorem own_reads' {w : World} {base : Nat} {v : Value} {n : Nat} {l : Cn} (h : w.ownsRow base T8 1 v n (cs8 l)) : ∃ A c, v = .slice A n c ∧ RB w w.heap.size A n l ∧ n ≤ c := by
  rcases h.2 with ⟨e, h0⟩ | ⟨g, cap, cur, e, _, _, hc, _⟩
  · subst e
    subst h0
    exact ⟨none, 0, rfl, Reads.of_own h, Nat.le_refl _⟩
  · subst e
    exact ⟨_, cap, rfl, Reads.of_own h, hc⟩
set_option maxRecDepth 100000 in
set_option maxHeartbeats 1000000 in
theorem super_no {w : World} {F : Nat → Prop} {v : Value} {c : Cn} (h : Fil w F v c) (hs : supC c = false) :
    Calls Try.prog 26 #[v] w fun e w' => e = .returned (.tuple #[.int .i64 0, .int .i64 0, .bool false]) ∧ Below w.heap.size w w' := by
  obtain ⟨g, cap, rfl, hcap, _, hr⟩ := h.rb
  unfold supC at hs
  have HR := hide hr
  clear h hr
  cases hS : opS c
  · have HS := hide hS
    clear hS hs
    go_enter Try.func26, Try.ntmps26
    go_wp2_with (go_at_call 39; (refine (open_sum g cap c w HR.out hcap HS.out).mono ?_); rintro e w1 ⟨rfl, hb⟩; have HB := hide hb; clear hb)
    refine bodyPost_ret (v := .tuple #[.int .i64 0, .int .i64 0, .bool false]) (by simp [results, Try.results26, go_sem]) rfl ⟨rfl, HB.out⟩
  · have HS := hide hS
    cases hT : opT c
    · have HT := hide hT
      rw [hS, hT] at hs
      clear hS hT
      obtain ⟨K, hK⟩ : ∃ K, opK c = K := ⟨_, rfl⟩
      obtain ⟨NN, hNN⟩ : ∃ NN, opN c = NN := ⟨_, rfl⟩
      rw [hK, hNN] at hs
      have HC := hide (open_ok g cap c w HR.out hcap HS.out HT.out)
      rw [hK, hNN] at HC
      clear hK hNN
      by_cases h1 : K = 1
      · subst h1
        have hN : NN ≠ 11 := by simpa using hs
        have d2 : ((NN : Int) == 11) = false := by simp; omega
        clear hs
        go_enter Try.func26, Try.ntmps26
        go_wp2_with (go_at_call 39; (refine HC.out.mono ?_); rintro e w1 ⟨v1, rfl, ho, hb⟩; obtain ⟨A1, c1, rfl, hr1⟩ := own_reads ho; have HB := hide hb; clear hb ho hr1)
        refine bodyPost_ret (v := .tuple #[.int .i64 0, .int .i64 0, .bool false]) (by simp [results, Try.results26, go_sem]) rfl ⟨rfl, HB.out⟩
      · have d1 : ((K : Int) == 1) = false := by simp; omega
        clear hs h1
        go_enter Try.func26, Try.ntmps26
        go_wp2_with (go_at_call 39; (refine HC.out.mono ?_); rintro e w1 ⟨v1, rfl, ho, hb⟩; obtain ⟨A1, c1, rfl, hr1⟩ := own_reads ho; have HB := hide hb; clear hb ho hr1)
        refine bodyPost_ret (v := .tuple #[.int .i64 0, .int .i64 0, .bool false]) (by simp [results, Try.results26, go_sem]) rfl ⟨rfl, HB.out⟩
    · have HT := hide hT
      clear hS hT hs
      go_enter Try.func26, Try.ntmps26
      go_wp2_with (go_at_call 39; (refine (open_text g cap c w HR.out hcap HS.out HT.out).mono ?_); rintro e w1 ⟨rfl, hb⟩; have HB := hide hb; clear hb)
      refine bodyPost_ret (v := .tuple #[.int .i64 0, .int .i64 0, .bool false]) (by simp [results, Try.results26, go_sem]) rfl ⟨rfl, HB.out⟩
set_option maxRecDepth 100000 in
set_option maxHeartbeats 1000000 in
theorem super_yes {w : World} {F : Nat → Prop} {v : Value} {c : Cn} (h : Fil w F v c) (hs : supC c = true) :
    Calls Try.prog 26 #[v] w fun e w' => e = .returned (.tuple #[.int .i64 (supS c : Int), .int .i64 (supR c : Int), .bool true]) ∧ Below w.heap.size w w' := by
  obtain ⟨g, cap, rfl, hcap, _, hr⟩ := h.rb
  unfold supC at hs
  simp only [Bool.and_eq_true, Bool.not_eq_true', beq_iff_eq] at hs
  obtain ⟨⟨⟨hS, hT⟩, hK⟩, hN⟩ := hs
  have HC := hide (open_ok g cap c w hr hcap hS hT)
  rw [hK, hN] at HC
  obtain ⟨D, hD⟩ : ∃ D, opD c = D := ⟨_, rfl⟩
  rw [hD] at HC
  have HS := hide (show supS c = evN ((D.drop 0).take 7) by unfold supS; rw [hD])
  have HRR := hide (show supR c = evN ((D.drop 7).take 4) by unfold supR; rw [hD])
  clear h hr hS hT hK hN hD
  go_enter Try.func26, Try.ntmps26
  go_wp2_with (first | (go_at_call 43; (refine (num_any A1 11 c1 D 7 4 w2 ((HR1.out.below HB2.out).more HB2.out.size) hc11 (by omega) (by omega) (by omega)).mono ?_); rintro e w3 ⟨rfl, hb⟩; rw [← HRR.out]; have HB3 := hide (HB1.out.trans ((HB2.out.mono HB1.out.size).trans (hb.mono (Nat.le_trans HB1.out.size HB2.out.size)))); clear hb) | (go_at_call 43; (refine (num_any A1 11 c1 D 0 7 w1 HR1.out hc11 (by omega) (by omega) (by omega)).mono ?_); rintro e w2 ⟨rfl, hb⟩; rw [← HS.out]; have HB2 := hide hb; clear hb) | (go_at_call 39; (refine HC.out.mono ?_); rintro e w1 ⟨v1, rfl, ho, hb⟩; obtain ⟨A1, c1, rfl, hr1, hc11⟩ := own_reads' ho; have HB1 := hide hb; have HR1 := hide hr1; clear hb ho hr1))
  refine bodyPost_ret (v := .tuple #[.int .i64 (supS c : Int), .int .i64 (supR c : Int), .bool true]) (by simp [results, Try.results26, go_sem]) rfl ⟨rfl, HB3.out⟩
/-- A root's sector. -/
def rootC (seq root : Nat) : Cn := sealC 1 (beN seq 7 7 ++ beN root 4 4)
theorem rootC_len (seq root : Nat) : (beN seq 7 7 ++ beN root 4 4).length = 11 := by rw [List.length_append, beN_len, beN_len]
theorem root_sup {seq root : Nat} (h1 : seq < 72057594037927936) (h2 : root < 4294967296) : supC (rootC seq root) = true ∧ supS (rootC seq root) = seq ∧ supR (rootC seq root) = root := by
  have hl := rootC_len seq root
  unfold rootC supC supS supR
  rw [seal_opS, seal_opT (by omega) (by omega), seal_opK (by omega), seal_opN (by omega), seal_opD (by omega), hl]
  refine ⟨rfl, ?_, ?_⟩
  · rw [List.drop_zero, List.take_append_of_le_length (by rw [beN_len]; omega), List.take_of_length_le (by rw [beN_len]; omega)]
    exact evN_beN (by omega)
  · rw [List.drop_append_of_le_length (by rw [beN_len]; omega), List.drop_of_length_le (by rw [beN_len]; omega), List.nil_append, List.take_of_length_le (by rw [beN_len]; omega)]
    exact evN_beN (by omega)
theorem zero_sup : supC zC = false := by
  unfold supC
  cases h : opS zC
  · rfl
  · rw [zero_opT h]; rfl
end Go.Proofs.Ytddcmockdomonaa
