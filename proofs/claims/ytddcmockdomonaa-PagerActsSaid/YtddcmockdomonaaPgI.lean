/- The sectors' disk: Barrier, Crash, Limit, Down, Len on the disk as a whole. -/
import Derived.Test.YtddcmockdomonaaPgH
namespace Go.Proofs.Ytddcmockdomonaa
set_option linter.unusedSimpArgs false
set_option linter.unusedVariables false
open Go.RowKit
section
variable {w : World} {F : Nat → Prop} {b : Nat} {out : Bool} {left size : Int} {S : Int → Cn} {L : List (Int × Cn)} {N : Nat}
def baE (out : Bool) (left : Int) : Int := if out then 15 else if burnO out left then 15 else 0
def baOut (out : Bool) (left : Int) : Bool := if out then true else burnO out left
def baLeft (out : Bool) (left : Int) : Int := if out then left else burnL left
def baS (out : Bool) (left : Int) (S : Int → Cn) (L : List (Int × Cn)) : Int → Cn := if baOut out left then S else lastS allT S L
def baL (out : Bool) (left : Int) (L : List (Int × Cn)) : List (Int × Cn) := if baOut out left then L else []
set_option maxRecDepth 100000 in
set_option maxHeartbeats 1000000 in
theorem sec_barrier (h : Sec w F b out left size S L N) (hN : N ≤ 100000) :
    Calls Try.prog 33 #[.pointer (some ⟨b, 0, none⟩)] w fun e w' => e = .returned (.int .i64 (baE out left)) ∧ Sec w' F b (baOut out left) (baLeft out left) size (baS out left S L) (baL out left L) N ∧ Fr F w w' := by
  obtain ⟨m, u, n, D, us, h⟩ := h
  have H := hide h
  have hf : faultE out size 0 = if out then 15 else 0 := by
    have := h.hs
    unfold faultE
    cases out
    · simp; omega
    · rfl
  have HF := hide hf
  clear h hf
  unfold baS baL baE baOut baLeft
  cases out
  · simp only [Bool.false_eq_true, if_false] at HF ⊢
    cases hbo : burnO false left
    · simp only [Bool.false_eq_true, if_false]
      have HB := hide hbo
      clear hbo
      go_enter Try.func33, Try.ntmps33
      go_wp2_with (first | (go_at_call 40; (refine (sec_fault 0 H.out).mono ?_); rintro e w1 ⟨rfl, h1, hb1⟩; rw [HF.out]; have H1 := hide h1; have HB1 := hide hb1; clear h1 hb1) | (go_at_call 45; (refine (sec_burn H1.out).mono ?_); rintro e w2 ⟨rfl, h2, hf2⟩; rw [HB.out] at h2 ⊢; have H2 := hide h2; have HF2 := hide hf2; clear h2 hf2) | (go_at_call 34; (refine (sec_lasts_all H2.out hN).mono ?_); rintro e w3 ⟨rfl, h3, hf3⟩; have H3 := hide h3; have HF3 := hide hf3; clear h3 hf3))
      go_ret
      exact ⟨rfl, H3.out, ((Fr.of_below (F := F) HB1.out).trans (Fr.of_grown (F := F) HF2.out (fun k hk => by injection hk with hk; subst hk; exact H.out.fb)) (fun _ _ h => h)).trans HF3.out (fun _ _ h => h)⟩
    · simp only [if_true]
      have HB := hide hbo
      clear hbo
      go_enter Try.func33, Try.ntmps33
      go_wp2_with (first | (go_at_call 40; (refine (sec_fault 0 H.out).mono ?_); rintro e w1 ⟨rfl, h1, hb1⟩; rw [HF.out]; have H1 := hide h1; have HB1 := hide hb1; clear h1 hb1) | (go_at_call 45; (refine (sec_burn H1.out).mono ?_); rintro e w2 ⟨rfl, h2, hf2⟩; rw [HB.out] at h2 ⊢; have H2 := hide h2; have HF2 := hide hf2; clear h2 hf2))
      go_ret
      exact ⟨rfl, ⟨m, u, n, D, us, H2.out⟩, (Fr.of_below (F := F) HB1.out).trans (Fr.of_grown (F := F) HF2.out (fun k hk => by injection hk with hk; subst hk; exact H.out.fb)) (fun _ _ h => h)⟩
  · simp only [if_true] at HF ⊢
    go_enter Try.func33, Try.ntmps33
    go_wp2_with (first | (go_at_call 40; (refine (sec_fault 0 H.out).mono ?_); rintro e w1 ⟨rfl, h1, hb1⟩; rw [HF.out]; have H1 := hide h1; have HB1 := hide hb1; clear h1 hb1))
    go_ret
    exact ⟨rfl, ⟨m, u, n, D, us, H1.out⟩, Fr.of_below HB1.out⟩
set_option maxRecDepth 100000 in
set_option maxHeartbeats 1000000 in
theorem sec_crash (h : Sec w F b out left size S L N) (mask : Int) (hm : 0 ≤ mask ∧ mask < 18446744073709551616) (hN : N ≤ 100000) :
    Calls Try.prog 13 #[.pointer (some ⟨b, 0, none⟩), .int .u64 mask] w fun e w' => e = .returned (.int .i64 0) ∧ Sec w' F b false 0 size (lastS (maskT mask) S L) [] N ∧ Fr F w w' := by
  obtain ⟨m, u, n, D, us, h⟩ := h
  have H := hide h
  have HM := hide hm
  have HA := hide (h.below ((Below.refl w.heap.size w).alloc (Nat.le_refl _) (Obj.cells #[Value.int .u64 mask] 22)))
  have HNF := hide (show ¬ F w.heap.size from fun hf => absurd (h.flt _ hf) (by omega))
  clear h hm
  go_enter Try.func13, Try.ntmps13
  go_wp2_with (first | (go_at_call 34; (refine (sec_lasts_mask HA.out hN w.heap.size mask (Blk.new w _ _) HNF.out HM.out).mono ?_); rintro e w3 ⟨rfl, ⟨m3, u3, n3, D3, us3, h3⟩, hf3⟩; have kb := h3.blk.cell; have qb := h3.blk.frozen; have zb := h3.blk.lt; unfold dk at kb; have H3 := hide h3; have HF3 := hide hf3; clear h3 hf3))
  go_ret
  have g1 := (gby_set w3 b 0 (.bool false)).trans (gby_set (w3.setCell ⟨b, 0, none⟩ (.bool false)) b 1 (.int .i64 0))
  refine ⟨rfl, ⟨m3, u3, n3, D3, us3, H3.out.own g1 ?_ (by omega)⟩, ?_⟩
  · exact ((H3.out.blk.set_ 0 (.bool false)).set_ 1 (.int .i64 0))
  · exact ((Fr.of_below (F := F) ((Below.refl w.heap.size w).alloc (Nat.le_refl _) _)).trans HF3.out (fun _ _ h => h)).trans (Fr.of_grown (F := F) g1 (fun k hk => by injection hk with hk; subst hk; exact H.out.fb)) (fun _ _ h => h)
theorem sec_limit (h : Sec w F b out left size S L N) (k : Int) (hk : 0 ≤ k ∧ k < 9223372036854775808) :
    Calls Try.prog 20 #[.pointer (some ⟨b, 0, none⟩), .int .i64 k] w fun e w' => e = .returned (.int .i64 0) ∧ Sec w' F b out k size S L N ∧ Fr F w w' := by
  obtain ⟨m, u, n, D, us, h⟩ := h
  refine (limit_any b out left size k (some m) u w h.blk hk.1).mono ?_
  rintro e w' ⟨rfl, hb, hg⟩
  exact ⟨rfl, ⟨m, u, n, D, us, h.own hg hb hk⟩, Fr.of_grown hg (fun k hk => by injection hk with hk; subst hk; exact h.fb)⟩
theorem sec_down (h : Sec w F b out left size S L N) : Calls Try.prog 24 #[.pointer (some ⟨b, 0, none⟩)] w fun e w' => e = .returned (.bool out) ∧ Below w.heap.size w w' := by
  obtain ⟨m, u, n, D, us, h⟩ := h
  exact down_any b out left size (some m) u w h.blk
set_option maxHeartbeats 1000000 in
theorem limit_neg (b : Nat) (n : Int) (w : World) (hn : n < 0) :
    Calls Try.prog 20 #[.pointer (some ⟨b, 0, none⟩), .int .i64 n] w fun e w' => e = .returned (.int .i64 1) ∧ Below w.heap.size w w' := by
  have d : decide (n < 0) = true := by simpa using hn
  clear hn
  go_enter Try.func20, Try.ntmps20
  go_wp2_with fail
  go_ret
  exact ⟨rfl, by (repeat (first | exact Below.refl _ _ | refine Below.drew ?_ | refine Below.setCell ?_ (by simp; try omega) _ | refine bal ?_ _))⟩
set_option maxHeartbeats 1000000 in
theorem sec_len (h : Sec w F b out left size S L N) : Calls Try.prog 23 #[.pointer (some ⟨b, 0, none⟩)] w fun e w' => e = .returned (.int .i64 size) ∧ Below w.heap.size w w' := by
  obtain ⟨m, u, n, D, us, h⟩ := h
  have kx := h.blk.cell; have qx := h.blk.frozen; have zx := h.blk.lt
  unfold dk at kx
  clear h
  go_enter Try.func23, Try.ntmps23
  go_wp2_with fail
  go_ret
  exact ⟨rfl, by (repeat (first | exact Below.refl _ _ | refine Below.drew ?_ | refine Below.setCell ?_ (by simp; try omega) _ | refine bal ?_ _))⟩
theorem sec_new (n : Int) (w : World) (hn : 1 ≤ n ∧ n ≤ 65536) :
    Calls Try.prog 7 #[.int .i64 n] w fun e w' => e = .returned (.tuple #[.pointer (some ⟨w.heap.size + 1, 0, none⟩), .int .i64 0]) ∧ Sec w' (fun j => w.heap.size ≤ j ∧ j < w'.heap.size) (w.heap.size + 1) false 0 n (fun _ => zC) [] 0 ∧ Below w.heap.size w w' := by
  refine (new_any n w hn).mono ?_
  rintro e w' ⟨rfl, hm, hb, hw⟩
  have h1 := hb.lt
  refine ⟨rfl, ⟨w.heap.size, .slice none 0 0, 0, .map [], [], { blk := hb, fb := ⟨by omega, h1⟩, fm := ⟨Nat.le_refl _, by omega⟩, map := hm, row := ⟨rfl, .inl ⟨rfl, rfl⟩⟩, fu := fun g hg => by simp [Value.ownBlock] at hg, fil := fun x hx => by simp at hx, hL := rfl, sure := fun k _ _ => ⟨fun hh => by simp [Maps.has] at hh, fun _ => rfl⟩, hn := Nat.le_refl _, hN := by omega, hs := hn, hl := by omega, flt := fun j hj => hj.2, dom := fun k hh => by simp [Maps.has] at hh }⟩, hw⟩
set_option maxHeartbeats 1000000 in
theorem new_bad (n : Int) (w : World) (hn : n < 1 ∨ 65536 < n) :
    Calls Try.prog 7 #[.int .i64 n] w fun e w' => e = .returned (.tuple #[.pointer none, .int .i64 1]) ∧ Below w.heap.size w w' := by
  rcases hn with hn | hn
  · have d1 : decide (n < 1) = true := by simpa using hn
    clear hn
    go_enter Try.func7, Try.ntmps7
    go_wp2_with fail
    refine bodyPost_ret (v := .tuple #[.pointer none, .int .i64 1]) (by simp [results, Try.results7, go_sem]) rfl ⟨rfl, by (repeat (first | exact Below.refl _ _ | refine Below.drew ?_ | refine Below.setCell ?_ (by simp; try omega) _ | refine bal ?_ _))⟩
  · have d1 : decide (n < 1) = false := by simp; omega
    have d2 : decide (65536 < n) = true := by simpa using hn
    clear hn
    go_enter Try.func7, Try.ntmps7
    go_wp2_with fail
    refine bodyPost_ret (v := .tuple #[.pointer none, .int .i64 1]) (by simp [results, Try.results7, go_sem]) rfl ⟨rfl, by (repeat (first | exact Below.refl _ _ | refine Below.drew ?_ | refine Below.setCell ?_ (by simp; try omega) _ | refine bal ?_ _))⟩
end
end Go.Proofs.Ytddcmockdomonaa
