/- The document's UTF-8: a character, a text. -/
import Derived.Test.YtmbjalcphdggnaaDoorJsPl
import Derived.BigQuiet
namespace Go.Proofs.YtmbjalcphdggnaaDoor
set_option linter.unusedSimpArgs false
set_option linter.unusedVariables false
open Go.RowKit
def chN (c : Nat) : Nat := if c < 194 then 0 else if c < 224 then 2 else if c < 240 then 3 else if c < 245 then 4 else 0
def chLo (c : Nat) : Nat := if c = 224 then 160 else if c = 240 then 144 else 128
def chHi (c : Nat) : Nat := if c = 237 then 159 else if c = 244 then 143 else 191
/-- How many bytes a character has, by the document. -/
def chD (n b0 b1 b2 b3 : Nat) : Nat :=
  if b0 < 128 then 1
  else if chN b0 = 0 ∨ n < chN b0 ∨ b1 < chLo b0 ∨ chHi b0 < b1 then 0
  else if 2 < chN b0 ∧ (b2 < 128 ∨ 191 < b2) then 0
  else if 3 < chN b0 ∧ (b3 < 128 ∨ 191 < b3) then 0
  else chN b0
theorem chN_is (b0 : Nat) : (chN b0 = 0 ∧ (b0 < 194 ∨ 245 ≤ b0)) ∨ (chN b0 = 2 ∧ 194 ≤ b0 ∧ b0 < 224) ∨ (chN b0 = 3 ∧ 224 ≤ b0 ∧ b0 < 240) ∨ (chN b0 = 4 ∧ 240 ≤ b0 ∧ b0 < 245) := by
  unfold chN
  repeat' split
  all_goals omega
theorem chLo_is (b0 : Nat) : (b0 = 224 ∧ chLo b0 = 160) ∨ (b0 = 240 ∧ chLo b0 = 144) ∨ (b0 ≠ 224 ∧ b0 ≠ 240 ∧ chLo b0 = 128) := by
  unfold chLo
  repeat' split
  all_goals omega
theorem chHi_is (b0 : Nat) : (b0 = 237 ∧ chHi b0 = 159) ∨ (b0 = 244 ∧ chHi b0 = 143) ∨ (b0 ≠ 237 ∧ b0 ≠ 244 ∧ chHi b0 = 191) := by
  unfold chHi
  repeat' split
  all_goals omega
set_option maxHeartbeats 4000000 in
theorem chD_dec (n b0 b1 b2 b3 : Nat) (h0 : b0 < 256) (h1 : b1 < 256) (h2 : b2 < 256) (h3 : b3 < 256) : chD n b0 b1 b2 b3 = if (Lib.decodeN n b0 b1 b2 b3).1 = 65533 ∧ (Lib.decodeN n b0 b1 b2 b3).2 = 1 then 0 else (Lib.decodeN n b0 b1 b2 b3).2 := by
  have hN := chN_is b0
  have hL := chLo_is b0
  have hH := chHi_is b0
  have good : ∀ v w, Lib.decodeN n b0 b1 b2 b3 = (v, w) → (v ≠ 65533 ∨ w ≠ 1) → (if (Lib.decodeN n b0 b1 b2 b3).1 = 65533 ∧ (Lib.decodeN n b0 b1 b2 b3).2 = 1 then 0 else (Lib.decodeN n b0 b1 b2 b3).2) = w := by
    intro v w h hw
    rw [h, if_neg (by rintro ⟨e1, e2⟩; rcases hw with q | q <;> contradiction)]
  have bad : (0 : Nat) = 0 → (128 ≤ b0) → (∀ v w, Lib.decodeN n b0 b1 b2 b3 = (v, w) → v = 65533 ∧ w = 1) → (if (Lib.decodeN n b0 b1 b2 b3).1 = 65533 ∧ (Lib.decodeN n b0 b1 b2 b3).2 = 1 then 0 else (Lib.decodeN n b0 b1 b2 b3).2) = 0 := by
    intro _ _ h
    obtain ⟨h1, h2⟩ := h _ _ rfl
    rw [if_pos ⟨h1, h2⟩]
  unfold chD
  by_cases c0 : b0 < 128
  · rw [if_pos c0, good b0 1 (by unfold Lib.decodeN; rw [if_pos c0]) (.inl (by omega))]
  rw [if_neg c0]
  by_cases c1 : chN b0 = 0 ∨ n < chN b0 ∨ b1 < chLo b0 ∨ chHi b0 < b1
  · rw [if_pos c1, bad rfl (by omega)]
    intro v w e
    rcases Lib.decodeN_shape n b0 b1 b2 b3 with q | ⟨q1, q2, q3, q4, q5⟩ | ⟨q1, q2, q3, q4, q5, q6, q7⟩ | ⟨q1, q2, q3, q4, q5, q6, q7, q8⟩ | q
    · exfalso; omega
    · exfalso; rcases hN with a | a | a | a <;> rcases c1 with b | b | b | b <;> omega
    · exfalso; rcases hN with a | a | a | a <;> rcases c1 with b | b | b | b <;> omega
    · exfalso; rcases hN with a | a | a | a <;> rcases c1 with b | b | b | b <;> omega
    · rw [q] at e; injection e with e1 e2; exact ⟨e1.symm, e2.symm⟩
  rw [if_neg c1]
  by_cases c2 : 2 < chN b0 ∧ (b2 < 128 ∨ 191 < b2)
  · rw [if_pos c2, bad rfl (by omega)]
    intro v w e
    rcases Lib.decodeN_shape n b0 b1 b2 b3 with q | ⟨q1, q2, q3, q4, q5⟩ | ⟨q1, q2, q3, q4, q5, q6, q7⟩ | ⟨q1, q2, q3, q4, q5, q6, q7, q8⟩ | q
    · exfalso; omega
    · exfalso; omega
    · exfalso; omega
    · exfalso; omega
    · rw [q] at e; injection e with e1 e2; exact ⟨e1.symm, e2.symm⟩
  rw [if_neg c2]
  by_cases c3 : 3 < chN b0 ∧ (b3 < 128 ∨ 191 < b3)
  · rw [if_pos c3, bad rfl (by omega)]
    intro v w e
    rcases Lib.decodeN_shape n b0 b1 b2 b3 with q | ⟨q1, q2, q3, q4, q5⟩ | ⟨q1, q2, q3, q4, q5, q6, q7⟩ | ⟨q1, q2, q3, q4, q5, q6, q7, q8⟩ | q
    · exfalso; omega
    · exfalso; omega
    · exfalso; omega
    · exfalso; omega
    · rw [q] at e; injection e with e1 e2; exact ⟨e1.symm, e2.symm⟩
  rw [if_neg c3]
  rcases hN with a | a | a | a
  · exfalso; omega
  · rw [a.1, good _ 2 (by unfold Lib.decodeN; rw [if_neg c0, if_pos ⟨by omega, by omega, by omega⟩, if_pos (by omega)]) (.inr (by decide))]
  · rw [a.1, good _ 3 (by unfold Lib.decodeN; rw [if_neg c0, if_neg (by omega), if_pos ⟨by omega, ⟨by omega, by omega⟩, by omega, by omega⟩, if_pos (by omega)]) (.inr (by decide))]
  · rw [a.1, good _ 4 (by unfold Lib.decodeN; rw [if_neg c0, if_neg (by omega), if_neg (by omega), if_pos ⟨by omega, ⟨by omega, by omega⟩, ⟨by omega, by omega⟩, by omega, by omega⟩, if_pos (by omega)]) (.inr (by decide))]

theorem chW_D {s : L8} : chW s = chD s.length (s.getD 0 0).toNat (s.getD 1 0).toNat (s.getD 2 0).toNat (s.getD 3 0).toNat := by
  unfold chW
  rw [Lib.decodeL_N]
  exact (chD_dec _ _ _ _ _ (bN _) (bN _) (bN _) (bN _)).symm
def dropC : Nat → Code → Code
  | 0, c => c
  | n + 1, .seq _ b => dropC n b
  | _, c => c
noncomputable def ctl (n : Nat) : Code := dropC n ((Tryd.f27.body).getD .skip)
noncomputable def ccmp (n : Nat) : Code := match ctl n with
  | .seq a _ => a
  | c => c
def CQ (w : World) (r : Nat) : Exit → Act → World → Prop := bodyPost Tryd.prog Tryd.f27 (fun e w' => e = .returned (.int .i64 (r : Int)) ∧ w' = w)
set_option maxRecDepth 100000 in
set_option maxHeartbeats 2000000 in
theorem ch_rest {w : World} {ad : Addr} {n c : Nat} {l : L8} {i N LO HI b1 b2 b3 : Nat} {x : UInt8} (hc : n ≤ c) (hn : n ≤ 2000) (hi : i < n) (hab : ad.block < w.heap.size)
    (k1 : i + 1 < n → w.cell? ⟨ad.block, ad.off + (i + 1), none⟩ = some (.int .u8 (b1 : Int))) (k2 : i + 2 < n → w.cell? ⟨ad.block, ad.off + (i + 2), none⟩ = some (.int .u8 (b2 : Int))) (k3 : i + 3 < n → w.cell? ⟨ad.block, ad.off + (i + 3), none⟩ = some (.int .u8 (b3 : Int)))
    (hD : chW (l.drop i) = chD (n - i) x.toNat b1 b2 b3) (h128 : ¬ x.toNat < 128) (hNN : chN x.toNat = N ∧ chLo x.toNat = LO ∧ chHi x.toNat = HI) (hN4 : N = 0 ∨ N = 2 ∨ N = 3 ∨ N = 4) (u9 u10 u11 u12 u13 u14 u15 u16 u17 u18 u19 u20 u21 u22 u23 u24 u25 u26 u27 u28 u29 u30 u31 u32 u33 u34 u35 u36 u37 u38 u39 u40 u41 u42 u43 u44 u45 u46 u47 u48 u49 u50 u51 u52 u53 u54 u55 u56 u57 u58 u59 u60 u61 u62 u63 u64 u65 u66 u67 u68 u69 u70 u71 u72 u73 u74 u75 u76 u77 u78 u79 u80 u81 u82 u83 u84 u85 u86 u87 u88 u89 u90 u91 : Value) :
    Code.wp Tryd.prog (ctl 13) (CQ w (chW (l.drop i))) { tmps := #[.slice (some ad) n c, .int .i64 (i : Int), undef, undef, .int .i64 0, .int .u8 (x.toNat : Int), .int .i64 (N : Int), .int .u8 (LO : Int), .int .u8 (HI : Int), u9, u10, u11, u12, u13, u14, u15, u16, u17, u18, u19, u20, u21, u22, u23, u24, u25, u26, u27, u28, u29, u30, u31, u32, u33, u34, u35, u36, u37, u38, u39, u40, u41, u42, u43, u44, u45, u46, u47, u48, u49, u50, u51, u52, u53, u54, u55, u56, u57, u58, u59, u60, u61, u62, u63, u64, u65, u66, u67, u68, u69, u70, u71, u72, u73, u74, u75, u76, u77, u78, u79, u80, u81, u82, u83, u84, u85, u86, u87, u88, u89, u90, u91], defers := [] } w := by
  have HC1 := hide k1
  have HC2 := hide k2
  have HC3 := hide k3
  have HCH := hide hD
  have HNN := hide hNN
  clear k1 k2 k3 hD hNN
  rw [show ctl 13 = Code.seq (ccmp 13) (Code.seq (ccmp 14) (Code.seq (ccmp 15) (ctl 16))) from rfl]
  conv => arg 2; arg 1; whnf
  conv => arg 2; arg 2; arg 1; whnf
  conv => arg 2; arg 2; arg 2; arg 1; whnf
  conv => arg 2; arg 2; arg 2; arg 2; whnf
  by_cases hN0 : N = 0
  · have e0 : ((N : Int) == 0) = true := by simp; omega
    have HE := hide (show chW (l.drop i) = 0 from by rw [HCH.out]; unfold chD; rw [if_neg (by omega), if_pos (by have := HNN.out; omega)])
    go_wp2_with fail
    unfold CQ
    refine bodyPost_ret (v := .int .i64 0) (by simp (maxDischargeDepth := 9) [results, Tryd.results27, go_sem]; done) rfl ⟨by rw [HE.out]; rfl, rfl⟩
  have e0 : ((N : Int) == 0) = false := by simp; omega
  by_cases hr : n - i < N
  · have e1 : decide ((n : Int) - (i : Int) < (N : Int)) = true := by simp; omega
    have HE := hide (show chW (l.drop i) = 0 from by rw [HCH.out]; unfold chD; rw [if_neg (by omega), if_pos (by have := HNN.out; omega)])
    go_wp2_with fail
    unfold CQ
    refine bodyPost_ret (v := .int .i64 0) (by simp (maxDischargeDepth := 9) [results, Tryd.results27, go_sem]; done) rfl ⟨by rw [HE.out]; rfl, rfl⟩
  have e1 : decide ((n : Int) - (i : Int) < (N : Int)) = false := by simp; omega
  have hl1 : i + 1 < n := by omega
  have hc1 : i + 1 < c := by omega
  have k1 := HC1.out hl1
  by_cases hlo : b1 < LO
  · have e2 : decide ((b1 : Int) < (LO : Int)) = true := by simp; omega
    have HE := hide (show chW (l.drop i) = 0 from by rw [HCH.out]; unfold chD; rw [if_neg (by omega), if_pos (by have := HNN.out; omega)])
    go_wp2_with fail
    unfold CQ
    refine bodyPost_ret (v := .int .i64 0) (by simp (maxDischargeDepth := 9) [results, Tryd.results27, go_sem]; done) rfl ⟨by rw [HE.out]; rfl, rfl⟩
  have e2 : decide ((b1 : Int) < (LO : Int)) = false := by simp; omega
  by_cases hhi : HI < b1
  · have e3 : decide ((HI : Int) < (b1 : Int)) = true := by simp; omega
    have HE := hide (show chW (l.drop i) = 0 from by rw [HCH.out]; unfold chD; rw [if_neg (by omega), if_pos (by have := HNN.out; omega)])
    go_wp2_with fail
    unfold CQ
    refine bodyPost_ret (v := .int .i64 0) (by simp (maxDischargeDepth := 9) [results, Tryd.results27, go_sem]; done) rfl ⟨by rw [HE.out]; rfl, rfl⟩
  have e3 : decide ((HI : Int) < (b1 : Int)) = false := by simp; omega
  go_wp2_with fail
  clear e0 e1 e2 e3 k1
  go_loopw [9] (fun iv wr => ∃ k : Nat, iv = .int .i64 (k : Int) ∧ 2 ≤ k ∧ k ≤ N ∧ wr = w ∧ (2 < k → 128 ≤ b2 ∧ b2 ≤ 191) ∧ (3 < k → 128 ≤ b3 ∧ b3 ≤ 191)) (fun iv _ => N - (intOf iv).toNat)
  case atStart => exact ⟨2, by go_num, by omega, by omega, rfl, by omega, by omega⟩
  case round =>
    obtain ⟨k, rfl, hk2, hkn, rfl, hb2, hb3⟩ := hrel
    by_cases hlt : k < N
    · have hk4 : k = 2 ∨ k = 3 := by omega
      rcases hk4 with rfl | rfl
      · have cc : i + 2 < c := by omega
        have kk := HC2.out (show i + 2 < n by omega)
        by_cases lo : b2 < 128
        · have t1 : decide ((b2 : Int) < 128) = true := by simp; omega
          have HE := hide (show chW (l.drop i) = 0 from by rw [HCH.out]; unfold chD; rw [if_neg (by omega), if_neg (by have := HNN.out; omega)]; rw [if_pos (by have := HNN.out; omega)])
          go_wp2_with fail
          unfold CQ
          refine bodyPost_ret (v := .int .i64 0) (by simp (maxDischargeDepth := 9) [results, Tryd.results27, go_sem]; done) rfl ⟨by rw [HE.out]; rfl, rfl⟩
        have t1 : decide ((b2 : Int) < 128) = false := by simp; omega
        by_cases hi : 191 < b2
        · have t2 : decide ((191 : Int) < (b2 : Int)) = true := by simp; omega
          have HE := hide (show chW (l.drop i) = 0 from by rw [HCH.out]; unfold chD; rw [if_neg (by omega), if_neg (by have := HNN.out; omega)]; rw [if_pos (by have := HNN.out; omega)])
          go_wp2_with fail
          unfold CQ
          refine bodyPost_ret (v := .int .i64 0) (by simp (maxDischargeDepth := 9) [results, Tryd.results27, go_sem]; done) rfl ⟨by rw [HE.out]; rfl, rfl⟩
        have t2 : decide ((191 : Int) < (b2 : Int)) = false := by simp; omega
        go_wp2_with fail
        go_roundw
        case rel => exact ⟨2 + 1, by go_num, by omega, by omega, by trivial, by omega, by omega⟩
        case measure => simp [intOf]; omega
      · have cc : i + 3 < c := by omega
        have kk := HC3.out (show i + 3 < n by omega)
        by_cases lo : b3 < 128
        · have t1 : decide ((b3 : Int) < 128) = true := by simp; omega
          have HE := hide (show chW (l.drop i) = 0 from by rw [HCH.out]; unfold chD; rw [if_neg (by omega), if_neg (by have := HNN.out; omega)]; rw [if_neg (by have := HNN.out; omega), if_pos (by have := HNN.out; omega)])
          go_wp2_with fail
          unfold CQ
          refine bodyPost_ret (v := .int .i64 0) (by simp (maxDischargeDepth := 9) [results, Tryd.results27, go_sem]; done) rfl ⟨by rw [HE.out]; rfl, rfl⟩
        have t1 : decide ((b3 : Int) < 128) = false := by simp; omega
        by_cases hi : 191 < b3
        · have t2 : decide ((191 : Int) < (b3 : Int)) = true := by simp; omega
          have HE := hide (show chW (l.drop i) = 0 from by rw [HCH.out]; unfold chD; rw [if_neg (by omega), if_neg (by have := HNN.out; omega)]; rw [if_neg (by have := HNN.out; omega), if_pos (by have := HNN.out; omega)])
          go_wp2_with fail
          unfold CQ
          refine bodyPost_ret (v := .int .i64 0) (by simp (maxDischargeDepth := 9) [results, Tryd.results27, go_sem]; done) rfl ⟨by rw [HE.out]; rfl, rfl⟩
        have t2 : decide ((191 : Int) < (b3 : Int)) = false := by simp; omega
        go_wp2_with fail
        go_roundw
        case rel => exact ⟨3 + 1, by go_num, by omega, by omega, by trivial, by omega, by omega⟩
        case measure => simp [intOf]; omega
    · have HE := hide (show chW (l.drop i) = N from by rw [HCH.out]; unfold chD; rw [if_neg (by omega), if_neg (by have := HNN.out; omega), if_neg (by have := HNN.out; omega), if_neg (by have := HNN.out; omega)]; exact HNN.out.1)
      go_wp2_with fail
      unfold CQ
      refine bodyPost_ret (v := .int .i64 (N : Int)) (by simp (maxDischargeDepth := 9) [results, Tryd.results27, go_sem]; done) rfl ⟨by rw [HE.out], rfl⟩
set_option maxRecDepth 100000 in
set_option maxHeartbeats 2000000 in
theorem char_any (w : World) (A : Option Addr) (n c : Nat) (l : L8) (i : Nat) (h : RB w w.heap.size A n l) (hc : n ≤ c) (hn : n ≤ 2000) (hi : i < n) :
    Calls Tryd.prog 27 #[.slice A n c, .int .i64 (i : Int)] w fun e w' => e = .returned (.int .i64 (chW (l.drop i) : Int)) ∧ w' = w := by
  have hl := h.len
  obtain ⟨ad, hA, hab, k0⟩ := h.at_ hi (by omega)
  subst hA
  obtain ⟨x, hx⟩ : ∃ x, l[i]'(by omega) = x := ⟨_, rfl⟩
  rw [hx] at k0
  have hget : ∀ j, 0 < j → i + j < n → w.cell? ⟨ad.block, ad.off + (i + j), none⟩ = some (.int .u8 (((l.drop i).getD j 0).toNat : Int)) := fun j h0 hj => by
    obtain ⟨ad', e, _, k⟩ := h.at_ hj (by omega)
    injection e with e
    subst e
    rw [show (⟨ad.block, ad.off + (i + j), none⟩ : Addr) = ad.add (i + j) by unfold Addr.add; rw [if_neg (by omega)], k, List.getD_eq_getElem?_getD, List.getElem?_drop, List.getElem?_eq_getElem (by omega)]
    rfl
  have h0 : (l.drop i).getD 0 0 = x := by rw [List.getD_eq_getElem?_getD, List.getElem?_drop, Nat.add_zero, List.getElem?_eq_getElem (by omega), hx]; rfl
  have hW := chW_D (s := l.drop i)
  rw [h0, List.length_drop, hl] at hW
  obtain ⟨b1, hb1⟩ : ∃ b, ((l.drop i).getD 1 0).toNat = b := ⟨_, rfl⟩
  obtain ⟨b2, hb2⟩ : ∃ b, ((l.drop i).getD 2 0).toNat = b := ⟨_, rfl⟩
  obtain ⟨b3, hb3⟩ : ∃ b, ((l.drop i).getD 3 0).toNat = b := ⟨_, rfl⟩
  have HC1 := hide (show i + 1 < n → w.cell? ⟨ad.block, ad.off + (i + 1), none⟩ = some (.int .u8 (b1 : Int)) from fun h => hb1 ▸ hget 1 (by decide) h)
  have HC2 := hide (show i + 2 < n → w.cell? ⟨ad.block, ad.off + (i + 2), none⟩ = some (.int .u8 (b2 : Int)) from fun h => hb2 ▸ hget 2 (by decide) h)
  have HC3 := hide (show i + 3 < n → w.cell? ⟨ad.block, ad.off + (i + 3), none⟩ = some (.int .u8 (b3 : Int)) from fun h => hb3 ▸ hget 3 (by decide) h)
  rw [hb1, hb2, hb3] at hW
  have HCH := hide hW
  have hc0 : i ≤ c := by omega
  have hc1 : i < c := by omega
  have hx256 : x.toNat < 256 := x.toNat_lt
  clear hget hx h0 hW hb1 hb2 hb3 h hl
  go_enter Tryd.func27, Tryd.ntmps27
  refine Code.wp_mono (Q := CQ w (chW (l.drop i))) (fun _ _ _ h => h) ?_
  refine id (show Code.wp Tryd.prog (ctl 0) _ _ _ from ?_)
  rw [show ctl 0 = Code.seq (ccmp 0) (Code.seq (ccmp 1) (Code.seq (ccmp 2) (Code.seq (ccmp 3) (Code.seq (ccmp 4) (Code.seq (ccmp 5) (Code.seq (ccmp 6) (Code.seq (ccmp 7) (Code.seq (ccmp 8) (Code.seq (ccmp 9) (Code.seq (ccmp 10) (Code.seq (ccmp 11) (Code.seq (ccmp 12) (ctl 13))))))))))))) from rfl]
  conv => arg 2; arg 1; whnf
  conv => arg 2; arg 2; arg 1; whnf
  conv => arg 2; arg 2; arg 2; arg 1; whnf
  conv => arg 2; arg 2; arg 2; arg 2; arg 1; whnf
  conv => arg 2; arg 2; arg 2; arg 2; arg 2; arg 1; whnf
  conv => arg 2; arg 2; arg 2; arg 2; arg 2; arg 2; arg 1; whnf
  conv => arg 2; arg 2; arg 2; arg 2; arg 2; arg 2; arg 2; arg 1; whnf
  conv => arg 2; arg 2; arg 2; arg 2; arg 2; arg 2; arg 2; arg 2; arg 1; whnf
  conv => arg 2; arg 2; arg 2; arg 2; arg 2; arg 2; arg 2; arg 2; arg 2; arg 1; whnf
  conv => arg 2; arg 2; arg 2; arg 2; arg 2; arg 2; arg 2; arg 2; arg 2; arg 2; arg 1; whnf
  conv => arg 2; arg 2; arg 2; arg 2; arg 2; arg 2; arg 2; arg 2; arg 2; arg 2; arg 2; arg 1; whnf
  conv => arg 2; arg 2; arg 2; arg 2; arg 2; arg 2; arg 2; arg 2; arg 2; arg 2; arg 2; arg 2; arg 1; whnf
  conv => arg 2; arg 2; arg 2; arg 2; arg 2; arg 2; arg 2; arg 2; arg 2; arg 2; arg 2; arg 2; arg 2; arg 1; whnf
  go_upto_region 5 with fail
  clear k0
  by_cases h128 : x.toNat < 128
  · have d1 : decide ((x.toNat : Int) < 128) = true := by simp; omega
    have HE := hide (show chW (l.drop i) = 1 from by rw [HCH.out]; unfold chD; rw [if_pos h128])
    go_wp2_with fail
    unfold CQ
    refine bodyPost_ret (v := .int .i64 1) (by simp (maxDischargeDepth := 9) [results, Tryd.results27, go_sem]; done) rfl ⟨by rw [HE.out]; rfl, rfl⟩
  have d1 : decide ((x.toNat : Int) < 128) = false := by simp; omega
  go_upto_region 7 with fail
  clear d1
  by_cases q1 : x.toNat < 194
  · have d2 : decide ((194 : Int) ≤ (x.toNat : Int)) = false := by simp; omega
    have d3 : decide ((x.toNat : Int) ≤ 223) = true := by simp; omega
    have d4 : decide ((224 : Int) ≤ (x.toNat : Int)) = false := by simp; omega
    have d5 : decide ((x.toNat : Int) ≤ 239) = true := by simp; omega
    have d6 : decide ((240 : Int) ≤ (x.toNat : Int)) = false := by simp; omega
    have d7 : decide ((x.toNat : Int) ≤ 244) = true := by simp; omega
    have d8 : ((x.toNat : Int) == 224) = false := by simp; omega
    have d9 : ((x.toNat : Int) == 237) = false := by simp; omega
    have d10 : ((x.toNat : Int) == 240) = false := by simp; omega
    have d11 : ((x.toNat : Int) == 244) = false := by simp; omega
    go_wp2_with fail
    exact ch_rest (N := 0) (LO := 128) (HI := 191) hc hn hi hab HC1.out HC2.out HC3.out HCH.out h128 (by unfold chN chLo chHi; refine ⟨?_, ?_, ?_⟩ <;> (repeat' split) <;> omega) (by decide) _ _ _ _ _ _ _ _ _ _ _ _ _ _ _ _ _ _ _ _ _ _ _ _ _ _ _ _ _ _ _ _ _ _ _ _ _ _ _ _ _ _ _ _ _ _ _ _ _ _ _ _ _ _ _ _ _ _ _ _ _ _ _ _ _ _ _ _ _ _ _ _ _ _ _ _ _ _ _ _ _ _ _
  by_cases q2 : x.toNat < 224
  · have d2 : decide ((194 : Int) ≤ (x.toNat : Int)) = true := by simp; omega
    have d3 : decide ((x.toNat : Int) ≤ 223) = true := by simp; omega
    have d4 : decide ((224 : Int) ≤ (x.toNat : Int)) = false := by simp; omega
    have d5 : decide ((x.toNat : Int) ≤ 239) = true := by simp; omega
    have d6 : decide ((240 : Int) ≤ (x.toNat : Int)) = false := by simp; omega
    have d7 : decide ((x.toNat : Int) ≤ 244) = true := by simp; omega
    have d8 : ((x.toNat : Int) == 224) = false := by simp; omega
    have d9 : ((x.toNat : Int) == 237) = false := by simp; omega
    have d10 : ((x.toNat : Int) == 240) = false := by simp; omega
    have d11 : ((x.toNat : Int) == 244) = false := by simp; omega
    go_wp2_with fail
    exact ch_rest (N := 2) (LO := 128) (HI := 191) hc hn hi hab HC1.out HC2.out HC3.out HCH.out h128 (by unfold chN chLo chHi; refine ⟨?_, ?_, ?_⟩ <;> (repeat' split) <;> omega) (by decide) _ _ _ _ _ _ _ _ _ _ _ _ _ _ _ _ _ _ _ _ _ _ _ _ _ _ _ _ _ _ _ _ _ _ _ _ _ _ _ _ _ _ _ _ _ _ _ _ _ _ _ _ _ _ _ _ _ _ _ _ _ _ _ _ _ _ _ _ _ _ _ _ _ _ _ _ _ _ _ _ _ _ _
  by_cases q3 : x.toNat < 240
  · by_cases q4 : x.toNat = 224
    · have d2 : decide ((194 : Int) ≤ (x.toNat : Int)) = true := by simp; omega
      have d3 : decide ((x.toNat : Int) ≤ 223) = false := by simp; omega
      have d4 : decide ((224 : Int) ≤ (x.toNat : Int)) = true := by simp; omega
      have d5 : decide ((x.toNat : Int) ≤ 239) = true := by simp; omega
      have d6 : decide ((240 : Int) ≤ (x.toNat : Int)) = false := by simp; omega
      have d7 : decide ((x.toNat : Int) ≤ 244) = true := by simp; omega
      have d8 : ((x.toNat : Int) == 224) = true := by simp; omega
      have d9 : ((x.toNat : Int) == 237) = false := by simp; omega
      have d10 : ((x.toNat : Int) == 240) = false := by simp; omega
      have d11 : ((x.toNat : Int) == 244) = false := by simp; omega
      go_wp2_with fail
      exact ch_rest (N := 3) (LO := 160) (HI := 191) hc hn hi hab HC1.out HC2.out HC3.out HCH.out h128 (by unfold chN chLo chHi; refine ⟨?_, ?_, ?_⟩ <;> (repeat' split) <;> omega) (by decide) _ _ _ _ _ _ _ _ _ _ _ _ _ _ _ _ _ _ _ _ _ _ _ _ _ _ _ _ _ _ _ _ _ _ _ _ _ _ _ _ _ _ _ _ _ _ _ _ _ _ _ _ _ _ _ _ _ _ _ _ _ _ _ _ _ _ _ _ _ _ _ _ _ _ _ _ _ _ _ _ _ _ _
    by_cases q5 : x.toNat = 237
    · have d2 : decide ((194 : Int) ≤ (x.toNat : Int)) = true := by simp; omega
      have d3 : decide ((x.toNat : Int) ≤ 223) = false := by simp; omega
      have d4 : decide ((224 : Int) ≤ (x.toNat : Int)) = true := by simp; omega
      have d5 : decide ((x.toNat : Int) ≤ 239) = true := by simp; omega
      have d6 : decide ((240 : Int) ≤ (x.toNat : Int)) = false := by simp; omega
      have d7 : decide ((x.toNat : Int) ≤ 244) = true := by simp; omega
      have d8 : ((x.toNat : Int) == 224) = false := by simp; omega
      have d9 : ((x.toNat : Int) == 237) = true := by simp; omega
      have d10 : ((x.toNat : Int) == 240) = false := by simp; omega
      have d11 : ((x.toNat : Int) == 244) = false := by simp; omega
      go_wp2_with fail
      exact ch_rest (N := 3) (LO := 128) (HI := 159) hc hn hi hab HC1.out HC2.out HC3.out HCH.out h128 (by unfold chN chLo chHi; refine ⟨?_, ?_, ?_⟩ <;> (repeat' split) <;> omega) (by decide) _ _ _ _ _ _ _ _ _ _ _ _ _ _ _ _ _ _ _ _ _ _ _ _ _ _ _ _ _ _ _ _ _ _ _ _ _ _ _ _ _ _ _ _ _ _ _ _ _ _ _ _ _ _ _ _ _ _ _ _ _ _ _ _ _ _ _ _ _ _ _ _ _ _ _ _ _ _ _ _ _ _ _
    have d2 : decide ((194 : Int) ≤ (x.toNat : Int)) = true := by simp; omega
    have d3 : decide ((x.toNat : Int) ≤ 223) = false := by simp; omega
    have d4 : decide ((224 : Int) ≤ (x.toNat : Int)) = true := by simp; omega
    have d5 : decide ((x.toNat : Int) ≤ 239) = true := by simp; omega
    have d6 : decide ((240 : Int) ≤ (x.toNat : Int)) = false := by simp; omega
    have d7 : decide ((x.toNat : Int) ≤ 244) = true := by simp; omega
    have d8 : ((x.toNat : Int) == 224) = false := by simp; omega
    have d9 : ((x.toNat : Int) == 237) = false := by simp; omega
    have d10 : ((x.toNat : Int) == 240) = false := by simp; omega
    have d11 : ((x.toNat : Int) == 244) = false := by simp; omega
    go_wp2_with fail
    exact ch_rest (N := 3) (LO := 128) (HI := 191) hc hn hi hab HC1.out HC2.out HC3.out HCH.out h128 (by unfold chN chLo chHi; refine ⟨?_, ?_, ?_⟩ <;> (repeat' split) <;> omega) (by decide) _ _ _ _ _ _ _ _ _ _ _ _ _ _ _ _ _ _ _ _ _ _ _ _ _ _ _ _ _ _ _ _ _ _ _ _ _ _ _ _ _ _ _ _ _ _ _ _ _ _ _ _ _ _ _ _ _ _ _ _ _ _ _ _ _ _ _ _ _ _ _ _ _ _ _ _ _ _ _ _ _ _ _
  by_cases q4 : x.toNat < 245
  · by_cases q5 : x.toNat = 240
    · have d2 : decide ((194 : Int) ≤ (x.toNat : Int)) = true := by simp; omega
      have d3 : decide ((x.toNat : Int) ≤ 223) = false := by simp; omega
      have d4 : decide ((224 : Int) ≤ (x.toNat : Int)) = true := by simp; omega
      have d5 : decide ((x.toNat : Int) ≤ 239) = false := by simp; omega
      have d6 : decide ((240 : Int) ≤ (x.toNat : Int)) = true := by simp; omega
      have d7 : decide ((x.toNat : Int) ≤ 244) = true := by simp; omega
      have d8 : ((x.toNat : Int) == 224) = false := by simp; omega
      have d9 : ((x.toNat : Int) == 237) = false := by simp; omega
      have d10 : ((x.toNat : Int) == 240) = true := by simp; omega
      have d11 : ((x.toNat : Int) == 244) = false := by simp; omega
      go_wp2_with fail
      exact ch_rest (N := 4) (LO := 144) (HI := 191) hc hn hi hab HC1.out HC2.out HC3.out HCH.out h128 (by unfold chN chLo chHi; refine ⟨?_, ?_, ?_⟩ <;> (repeat' split) <;> omega) (by decide) _ _ _ _ _ _ _ _ _ _ _ _ _ _ _ _ _ _ _ _ _ _ _ _ _ _ _ _ _ _ _ _ _ _ _ _ _ _ _ _ _ _ _ _ _ _ _ _ _ _ _ _ _ _ _ _ _ _ _ _ _ _ _ _ _ _ _ _ _ _ _ _ _ _ _ _ _ _ _ _ _ _ _
    by_cases q6 : x.toNat = 244
    · have d2 : decide ((194 : Int) ≤ (x.toNat : Int)) = true := by simp; omega
      have d3 : decide ((x.toNat : Int) ≤ 223) = false := by simp; omega
      have d4 : decide ((224 : Int) ≤ (x.toNat : Int)) = true := by simp; omega
      have d5 : decide ((x.toNat : Int) ≤ 239) = false := by simp; omega
      have d6 : decide ((240 : Int) ≤ (x.toNat : Int)) = true := by simp; omega
      have d7 : decide ((x.toNat : Int) ≤ 244) = true := by simp; omega
      have d8 : ((x.toNat : Int) == 224) = false := by simp; omega
      have d9 : ((x.toNat : Int) == 237) = false := by simp; omega
      have d10 : ((x.toNat : Int) == 240) = false := by simp; omega
      have d11 : ((x.toNat : Int) == 244) = true := by simp; omega
      go_wp2_with fail
      exact ch_rest (N := 4) (LO := 128) (HI := 143) hc hn hi hab HC1.out HC2.out HC3.out HCH.out h128 (by unfold chN chLo chHi; refine ⟨?_, ?_, ?_⟩ <;> (repeat' split) <;> omega) (by decide) _ _ _ _ _ _ _ _ _ _ _ _ _ _ _ _ _ _ _ _ _ _ _ _ _ _ _ _ _ _ _ _ _ _ _ _ _ _ _ _ _ _ _ _ _ _ _ _ _ _ _ _ _ _ _ _ _ _ _ _ _ _ _ _ _ _ _ _ _ _ _ _ _ _ _ _ _ _ _ _ _ _ _
    have d2 : decide ((194 : Int) ≤ (x.toNat : Int)) = true := by simp; omega
    have d3 : decide ((x.toNat : Int) ≤ 223) = false := by simp; omega
    have d4 : decide ((224 : Int) ≤ (x.toNat : Int)) = true := by simp; omega
    have d5 : decide ((x.toNat : Int) ≤ 239) = false := by simp; omega
    have d6 : decide ((240 : Int) ≤ (x.toNat : Int)) = true := by simp; omega
    have d7 : decide ((x.toNat : Int) ≤ 244) = true := by simp; omega
    have d8 : ((x.toNat : Int) == 224) = false := by simp; omega
    have d9 : ((x.toNat : Int) == 237) = false := by simp; omega
    have d10 : ((x.toNat : Int) == 240) = false := by simp; omega
    have d11 : ((x.toNat : Int) == 244) = false := by simp; omega
    go_wp2_with fail
    exact ch_rest (N := 4) (LO := 128) (HI := 191) hc hn hi hab HC1.out HC2.out HC3.out HCH.out h128 (by unfold chN chLo chHi; refine ⟨?_, ?_, ?_⟩ <;> (repeat' split) <;> omega) (by decide) _ _ _ _ _ _ _ _ _ _ _ _ _ _ _ _ _ _ _ _ _ _ _ _ _ _ _ _ _ _ _ _ _ _ _ _ _ _ _ _ _ _ _ _ _ _ _ _ _ _ _ _ _ _ _ _ _ _ _ _ _ _ _ _ _ _ _ _ _ _ _ _ _ _ _ _ _ _ _ _ _ _ _
  have d2 : decide ((194 : Int) ≤ (x.toNat : Int)) = true := by simp; omega
  have d3 : decide ((x.toNat : Int) ≤ 223) = false := by simp; omega
  have d4 : decide ((224 : Int) ≤ (x.toNat : Int)) = true := by simp; omega
  have d5 : decide ((x.toNat : Int) ≤ 239) = false := by simp; omega
  have d6 : decide ((240 : Int) ≤ (x.toNat : Int)) = true := by simp; omega
  have d7 : decide ((x.toNat : Int) ≤ 244) = false := by simp; omega
  have d8 : ((x.toNat : Int) == 224) = false := by simp; omega
  have d9 : ((x.toNat : Int) == 237) = false := by simp; omega
  have d10 : ((x.toNat : Int) == 240) = false := by simp; omega
  have d11 : ((x.toNat : Int) == 244) = false := by simp; omega
  go_wp2_with fail
  exact ch_rest (N := 0) (LO := 128) (HI := 191) hc hn hi hab HC1.out HC2.out HC3.out HCH.out h128 (by unfold chN chLo chHi; refine ⟨?_, ?_, ?_⟩ <;> (repeat' split) <;> omega) (by decide) _ _ _ _ _ _ _ _ _ _ _ _ _ _ _ _ _ _ _ _ _ _ _ _ _ _ _ _ _ _ _ _ _ _ _ _ _ _ _ _ _ _ _ _ _ _ _ _ _ _ _ _ _ _ _ _ _ _ _ _ _ _ _ _ _ _ _ _ _ _ _ _ _ _ _ _ _ _ _ _ _ _ _
end Go.Proofs.YtmbjalcphdggnaaDoor
