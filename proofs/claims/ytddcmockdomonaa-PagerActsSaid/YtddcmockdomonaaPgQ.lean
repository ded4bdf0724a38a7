/- The frame's Open. -/
import Derived.Test.YtddcmockdomonaaPgP
import Derived.Test.YtddcmockdomonaaRegion
namespace Go.Proofs.Ytddcmockdomonaa
set_option linter.unusedSimpArgs false
set_option linter.unusedVariables false
open Go.RowKit
/-- How many bytes of data a sector says it has. -/
def opN (c : Cn) : Nat := evN ((c.drop 5).take 2)
def opS (c : Cn) : Bool := evN ((c.drop 0).take 4) == sumF (c.drop 4)
def opT (c : Cn) : Bool := (c.getD 4 0 == 0) || decide (505 < opN c) || anyP (c.drop (7 + opN c))
/-- What Open answers. -/
def opE (c : Cn) : Int := if opS c then (if opT c then 11 else 0) else 13
def opK (c : Cn) : Nat := (c.getD 4 0).toNat
def opD (c : Cn) : Cn := (c.drop 7).take (opN c)
theorem rb_four {w : World} {B : Nat} {ad : Addr} {c : Cn} (h : RB w B (some ad) 512 c) : RB w B (some (ad.add 4)) 508 (c.drop 4) := by
  have hl := RB.len h
  obtain ⟨ad', e, hb, hr⟩ := RB.sub (i := 4) (k := 508) (cap := 512) h (by omega) (by omega) (by omega)
  injection e with e
  subst e
  rw [List.take_of_length_le (by rw [List.length_drop]; omega)] at hr
  exact hr
theorem rb_tail {w : World} {B : Nat} {ad : Addr} {c : Cn} (h : RB w B (some ad) 512 c) {n : Nat} (hn : n ≤ 505) (A : Option Addr) (hA : n < 505 → A = some (ad.add (7 + n))) : RB w B A (512 - (7 + n)) (c.drop (7 + n)) := by
  have hl := RB.len h
  by_cases h5 : n < 505
  · obtain ⟨ad', e, hb, hr⟩ := RB.sub (i := 7 + n) (k := 512 - (7 + n)) (cap := 512) h (by omega) (by omega) (by omega)
    injection e with e
    subst e
    rw [List.take_of_length_le (by rw [List.length_drop]; omega)] at hr
    rw [hA h5]; exact hr
  · refine ⟨by rw [cs8_len, List.length_drop]; omega, fun h => by omega⟩
theorem rb_four' {w : World} {B : Nat} {gb : Nat} {c : Cn} (h : RB w B (some ⟨gb, 0, none⟩) 512 c) : RB w B (some ⟨gb, 4, none⟩) 508 (c.drop 4) := rb_four h
theorem add_z (g j : Nat) : (⟨g, 0, none⟩ : Addr).add j = ⟨g, j, none⟩ := by unfold Addr.add; split <;> simp_all
theorem rb_tail' {w : World} {B : Nat} {gb : Nat} {c : Cn} (h : RB w B (some ⟨gb, 0, none⟩) 512 c) {n : Nat} (hn : n ≤ 505) (A : Option Addr) (hA : n < 505 → A = some ⟨gb, 7 + n, none⟩) : RB w B A (512 - (7 + n)) (c.drop (7 + n)) :=
  rb_tail h hn A (fun h5 => by rw [add_z]; exact hA h5)
theorem rb_data {w : World} {B : Nat} {gb : Nat} {c : Cn} (h : RB w B (some ⟨gb, 0, none⟩) 512 c) {n : Nat} (hn : n ≤ 505) : RB w B (some ⟨gb, 7, none⟩) n ((c.drop 7).take n) := by
  have hl := RB.len h
  by_cases h5 : 0 < n
  · obtain ⟨ad', e, hb, hr⟩ := RB.sub (i := 7) (k := n) (cap := 512) h (by omega) (by omega) (by omega)
    injection e with e
    subst e
    exact hr
  · refine ⟨by rw [cs8_len, List.length_take, List.length_drop]; omega, fun h => by omega⟩
set_option maxRecDepth 100000 in
set_option maxHeartbeats 1000000 in
theorem open_sum (gb : Nat) (cap : Nat) (c : Cn) (w : World) (hr : RB w w.heap.size (some ⟨gb, 0, none⟩) 512 c) (hcap : 512 ≤ cap) (h : opS c = false) :
    Calls Try.prog 39 #[.slice (some ⟨gb, 0, none⟩) 512 cap] w fun e w' => e = .returned (.tuple #[.int .i64 0, .slice none 0 0, .int .i64 13]) ∧ Below w.heap.size w w' := by
  have HR := hide hr
  clear hr
  have n1 : ¬ cap = 4 := by omega
  unfold opS at h
  obtain ⟨N4, hN4⟩ : ∃ N4, evN ((c.drop 0).take 4) = N4 := ⟨_, rfl⟩
  obtain ⟨S4, hS4⟩ : ∃ S4, sumF (c.drop 4) = S4 := ⟨_, rfl⟩
  have hl4 := sumF_lt (c.drop 4)
  rw [hN4, hS4] at h
  rw [hS4] at hl4
  have d1 : ((N4 : Int) == (S4 : Int)) = false := by simp at h ⊢; omega
  have e8 : IntKind.i64.wrap (S4 : Int) = (S4 : Int) := by rw [IntKind.wrap_i64]; omega
  have HN4 := hide hN4
  have HS4 := hide hS4
  clear h hN4 hS4
  go_enter Try.func39, Try.ntmps39
  go_wp2_with (first | (go_at_call 43; (refine (num_any (some ⟨gb, 0, none⟩) 512 cap c 0 4 w HR.out hcap (by omega) (by omega) (by omega)).mono ?_); rintro e w1 ⟨rfl, hb⟩; rw [HN4.out]; have HB1 := hide hb; clear hb) | (go_at_call 44; (refine (sum_any (some ⟨gb, 4, none⟩) 508 _ (c.drop 4) w1 (rb_four' ((HR.out.below HB1.out).more HB1.out.size)) (by omega)).mono ?_); rintro e w2 ⟨rfl, hb⟩; rw [HS4.out]; have HB2 := hide (HB1.out.trans (hb.mono HB1.out.size)); clear hb))
  refine bodyPost_ret (v := .tuple #[.int .i64 0, .slice none 0 0, .int .i64 13]) (by simp [results, Try.results39, go_sem]) rfl ⟨rfl, HB2.out⟩
set_option maxRecDepth 100000 in
set_option maxHeartbeats 1000000 in
theorem open_text (gb : Nat) (cap : Nat) (c : Cn) (w : World) (hr : RB w w.heap.size (some ⟨gb, 0, none⟩) 512 c) (hcap : 512 ≤ cap) (h : opS c = true) (ht : opT c = true) :
    Calls Try.prog 39 #[.slice (some ⟨gb, 0, none⟩) 512 cap] w fun e w' => e = .returned (.tuple #[.int .i64 0, .slice none 0 0, .int .i64 11]) ∧ Below w.heap.size w w' := by
  have HR := hide hr
  have hcl := RB.len hr
  clear hr
  have n1 : ¬ cap = 4 := by omega
  have n2 : ¬ cap = 7 := by omega
  unfold opS at h
  obtain ⟨N4, hN4⟩ : ∃ N4, evN ((c.drop 0).take 4) = N4 := ⟨_, rfl⟩
  obtain ⟨S4, hS4⟩ : ∃ S4, sumF (c.drop 4) = S4 := ⟨_, rfl⟩
  have hl4 := sumF_lt (c.drop 4)
  rw [hN4, hS4] at h
  rw [hS4] at hl4
  have d1 : ((N4 : Int) == (S4 : Int)) = true := by simp at h ⊢; omega
  have e8 : IntKind.i64.wrap (S4 : Int) = (S4 : Int) := by rw [IntKind.wrap_i64]; omega
  have HN4 := hide hN4
  have HS4 := hide hS4
  obtain ⟨NN, hNN⟩ : ∃ NN, opN c = NN := ⟨_, rfl⟩
  have HNN := hide (show evN ((c.drop 5).take 2) = NN from hNN)
  obtain ⟨X, hX⟩ : ∃ X, c.getD 4 0 = X := ⟨_, rfl⟩
  have hX4 : c[4]'(by omega) = X := by rw [← hX, List.getD_eq_getElem?_getD, List.getElem?_eq_getElem (by omega)]; rfl
  have HC4 := hide (show ∀ W, Below w.heap.size w W → W.cell? ⟨gb, 4, none⟩ = some (.int .u8 (X.toNat : Int)) from fun W hW => by
    obtain ⟨ad', e, hb, hc⟩ := RB.at_ (HR.out.below hW) (k := 4) (by omega) (by omega)
    injection e with e
    subst e
    rw [hX4] at hc
    exact hc)
  clear h hN4 hS4
  unfold opT at ht
  rw [hNN, hX] at ht
  clear hNN hX hX4
  by_cases hx : X = 0
  · subst hx
    clear ht
    go_enter Try.func39, Try.ntmps39
    go_wp2_with (first | (go_at_call 43; (refine (num_any (some ⟨gb, 0, none⟩) 512 cap c 5 2 w2 ((HR.out.below HB2.out).more HB2.out.size) hcap (by omega) (by omega) (by omega)).mono ?_); rintro e w3 ⟨rfl, hb⟩; rw [HNN.out]; have HB3 := hide (HB2.out.trans (hb.mono HB2.out.size)); have kc4 := HC4.out w3 HB3.out; clear hb) | (go_at_call 43; (refine (num_any (some ⟨gb, 0, none⟩) 512 cap c 0 4 w HR.out hcap (by omega) (by omega) (by omega)).mono ?_); rintro e w1 ⟨rfl, hb⟩; rw [HN4.out]; have HB1 := hide hb; clear hb) | (go_at_call 44; (refine (sum_any (some ⟨gb, 4, none⟩) 508 _ (c.drop 4) w1 (rb_four' ((HR.out.below HB1.out).more HB1.out.size)) (by omega)).mono ?_); rintro e w2 ⟨rfl, hb⟩; rw [HS4.out]; have HB2 := hide (HB1.out.trans (hb.mono HB1.out.size)); clear hb) )
    refine bodyPost_ret (v := .tuple #[.int .i64 0, .slice none 0 0, .int .i64 11]) (by simp [results, Try.results39, go_sem]) rfl ⟨rfl, HB3.out⟩
  · have hx0 : X.toNat ≠ 0 := fun h => hx (UInt8.toNat_inj.1 (by simpa using h))
    have x0 : ((X.toNat : Int) == 0) = false := by simp; omega
    have hxb : (X == 0) = false := by simpa using hx
    rw [hxb] at ht
    clear hx hxb
    by_cases h5 : 505 < NN
    · have d5 : decide ((505 : Int) < (NN : Int)) = true := by simp; omega
      clear ht
      go_enter Try.func39, Try.ntmps39
      go_wp2_with (first | (go_at_call 43; (refine (num_any (some ⟨gb, 0, none⟩) 512 cap c 5 2 w2 ((HR.out.below HB2.out).more HB2.out.size) hcap (by omega) (by omega) (by omega)).mono ?_); rintro e w3 ⟨rfl, hb⟩; rw [HNN.out]; have HB3 := hide (HB2.out.trans (hb.mono HB2.out.size)); have kc4 := HC4.out w3 HB3.out; clear hb) | (go_at_call 43; (refine (num_any (some ⟨gb, 0, none⟩) 512 cap c 0 4 w HR.out hcap (by omega) (by omega) (by omega)).mono ?_); rintro e w1 ⟨rfl, hb⟩; rw [HN4.out]; have HB1 := hide hb; clear hb) | (go_at_call 44; (refine (sum_any (some ⟨gb, 4, none⟩) 508 _ (c.drop 4) w1 (rb_four' ((HR.out.below HB1.out).more HB1.out.size)) (by omega)).mono ?_); rintro e w2 ⟨rfl, hb⟩; rw [HS4.out]; have HB2 := hide (HB1.out.trans (hb.mono HB1.out.size)); clear hb) )
      refine bodyPost_ret (v := .tuple #[.int .i64 0, .slice none 0 0, .int .i64 11]) (by simp [results, Try.results39, go_sem]) rfl ⟨rfl, HB3.out⟩
    · have d5 : decide ((505 : Int) < (NN : Int)) = false := by simp; omega
      have hp : anyP (c.drop (7 + NN)) = true := by simpa [h5] using ht
      have HP := hide hp
      have hNle : NN ≤ 505 := by omega
      clear ht hp h5
      go_enter Try.func39, Try.ntmps39
      go_wp2_with (first | (go_at_call 43; (refine (num_any (some ⟨gb, 0, none⟩) 512 cap c 5 2 w2 ((HR.out.below HB2.out).more HB2.out.size) hcap (by omega) (by omega) (by omega)).mono ?_); rintro e w3 ⟨rfl, hb⟩; rw [HNN.out]; have HB3 := hide (HB2.out.trans (hb.mono HB2.out.size)); have kc4 := HC4.out w3 HB3.out; clear hb) | (go_at_call 43; (refine (num_any (some ⟨gb, 0, none⟩) 512 cap c 0 4 w HR.out hcap (by omega) (by omega) (by omega)).mono ?_); rintro e w1 ⟨rfl, hb⟩; rw [HN4.out]; have HB1 := hide hb; clear hb) | (go_at_call 44; (refine (sum_any (some ⟨gb, 4, none⟩) 508 _ (c.drop 4) w1 (rb_four' ((HR.out.below HB1.out).more HB1.out.size)) (by omega)).mono ?_); rintro e w2 ⟨rfl, hb⟩; rw [HS4.out]; have HB2 := hide (HB1.out.trans (hb.mono HB1.out.size)); clear hb) | (go_at_call 47; (refine (contains_any _ (512 - (7 + NN)) _ (c.drop (7 + NN)) w3 (rb_tail' ((HR.out.below HB3.out).more HB3.out.size) hNle _ (fun h => by first | rfl | omega)) (by omega)).mono ?_); rintro e w4 ⟨rfl, hb⟩; rw [HP.out]; have HB4 := hide (HB3.out.trans (hb.mono HB3.out.size)); clear hb))
      all_goals refine bodyPost_ret (v := .tuple #[.int .i64 0, .slice none 0 0, .int .i64 11]) (by simp [results, Try.results39, go_sem]) rfl ⟨rfl, HB4.out⟩
set_option maxRecDepth 100000 in
set_option maxHeartbeats 1000000 in
theorem open_ok (gb : Nat) (cap : Nat) (c : Cn) (w : World) (hr : RB w w.heap.size (some ⟨gb, 0, none⟩) 512 c) (hcap : 512 ≤ cap) (h : opS c = true) (ht : opT c = false) :
    Calls Try.prog 39 #[.slice (some ⟨gb, 0, none⟩) 512 cap] w fun e w' => ∃ v, e = .returned (.tuple #[.int .i64 (opK c : Int), v, .int .i64 0]) ∧ w'.ownsRow w.heap.size T8 1 v (opN c) (cs8 (opD c)) ∧ Below w.heap.size w w' := by
  have HR := hide hr
  have hcl := RB.len hr
  clear hr
  have n1 : ¬ cap = 4 := by omega
  have n2 : ¬ cap = 7 := by omega
  unfold opS at h
  obtain ⟨N4, hN4⟩ : ∃ N4, evN ((c.drop 0).take 4) = N4 := ⟨_, rfl⟩
  obtain ⟨S4, hS4⟩ : ∃ S4, sumF (c.drop 4) = S4 := ⟨_, rfl⟩
  have hl4 := sumF_lt (c.drop 4)
  rw [hN4, hS4] at h
  rw [hS4] at hl4
  have d1 : ((N4 : Int) == (S4 : Int)) = true := by simp at h ⊢; omega
  have e8 : IntKind.i64.wrap (S4 : Int) = (S4 : Int) := by rw [IntKind.wrap_i64]; omega
  have HN4 := hide hN4
  have HS4 := hide hS4
  obtain ⟨NN, hNN⟩ : ∃ NN, opN c = NN := ⟨_, rfl⟩
  have HNN := hide (show evN ((c.drop 5).take 2) = NN from hNN)
  obtain ⟨X, hX⟩ : ∃ X, c.getD 4 0 = X := ⟨_, rfl⟩
  have hX4 : c[4]'(by omega) = X := by rw [← hX, List.getD_eq_getElem?_getD, List.getElem?_eq_getElem (by omega)]; rfl
  have HC4 := hide (show ∀ W, Below w.heap.size w W → W.cell? ⟨gb, 4, none⟩ = some (.int .u8 (X.toNat : Int)) from fun W hW => by
    obtain ⟨ad', e, hb, hc⟩ := RB.at_ (HR.out.below hW) (k := 4) (by omega) (by omega)
    injection e with e
    subst e
    rw [hX4] at hc
    exact hc)
  clear h hN4 hS4
  unfold opT at ht
  unfold opK opD
  rw [hNN, hX] at ht ⊢
  clear hNN hX hX4
  simp only [Bool.or_eq_false_iff] at ht
  obtain ⟨⟨hx, h5⟩, hp⟩ := ht
  have hx0 : X.toNat ≠ 0 := fun h => by simp at hx; exact hx (UInt8.toNat_inj.1 (by simpa using h))
  have x0 : ((X.toNat : Int) == 0) = false := by simp; omega
  have hNle : NN ≤ 505 := by simpa using h5
  have d5 : decide ((505 : Int) < (NN : Int)) = false := by simp; omega
  have HP := hide hp
  have hxl := X.toNat_lt
  clear hx h5 hp
  go_enter Try.func39, Try.ntmps39
  go_wp2_with (first | (go_at_call 43; (refine (num_any (some ⟨gb, 0, none⟩) 512 cap c 5 2 w2 ((HR.out.below HB2.out).more HB2.out.size) hcap (by omega) (by omega) (by omega)).mono ?_); rintro e w3 ⟨rfl, hb⟩; rw [HNN.out]; have HB3 := hide (HB2.out.trans (hb.mono HB2.out.size)); have kc4 := HC4.out w3 HB3.out; clear hb) | (go_at_call 43; (refine (num_any (some ⟨gb, 0, none⟩) 512 cap c 0 4 w HR.out hcap (by omega) (by omega) (by omega)).mono ?_); rintro e w1 ⟨rfl, hb⟩; rw [HN4.out]; have HB1 := hide hb; clear hb) | (go_at_call 44; (refine (sum_any (some ⟨gb, 4, none⟩) 508 _ (c.drop 4) w1 (rb_four' ((HR.out.below HB1.out).more HB1.out.size)) (by omega)).mono ?_); rintro e w2 ⟨rfl, hb⟩; rw [HS4.out]; have HB2 := hide (HB1.out.trans (hb.mono HB1.out.size)); clear hb) | (go_at_call 47; (refine (contains_any _ (512 - (7 + NN)) _ (c.drop (7 + NN)) w3 (rb_tail' ((HR.out.below HB3.out).more HB3.out.size) hNle _ (fun h => by first | rfl | omega)) (by omega)).mono ?_); rintro e w4 ⟨rfl, hb⟩; rw [HP.out]; have HB4 := hide (HB3.out.trans (hb.mono HB3.out.size)); clear hb))
  · clear d1 d5 x0 kc4
    have HE9 := hide (show IntKind.i64.wrap (X.toNat : Int) = (X.toNat : Int) by rw [IntKind.wrap_i64]; omega)
    have HE10 := hide (show IntKind.i64.wrap (7 + (NN : Int)) = 7 + (NN : Int) by rw [IntKind.wrap_i64]; omega)
    refine wp_region_facts (by kernel_rfl) (by kernel_rfl) 52
      [⟨43, fun v _ => v = .slice (some ⟨gb, 0, none⟩) 512 (7 + NN)⟩,
       ⟨44, fun v _ => v = .pointer (some ⟨gb, 4, none⟩)⟩,
       ⟨45, fun v _ => v = .int .u8 (X.toNat : Int)⟩,
       ⟨46, fun v _ => v = .int .i64 (X.toNat : Int)⟩,
       ⟨47, fun v _ => v = .slice (some ⟨gb, 0, none⟩) 512 (7 + NN)⟩,
       ⟨48, fun v _ => v = .int .i64 (NN : Int)⟩,
       ⟨49, fun v _ => v = .int .i64 (7 + (NN : Int))⟩,
       ⟨50, fun v _ => v = .slice (some ⟨gb, 7, none⟩) NN ((7 + NN) - 7)⟩,
       ⟨51, fun v w' => w'.ownsRow w4.heap.size T8 1 v NN (cs8 ((c.drop 7).take NN))⟩,
       ⟨2, fun v _ => v = .int .i64 (X.toNat : Int)⟩,
       ⟨3, fun v w' => w'.ownsRow w4.heap.size T8 1 v NN (cs8 ((c.drop 7).take NN))⟩,
       ⟨4, fun v _ => v = .int .i64 0⟩] (by kernel_rfl) rfl rfl ?_ ?_ ?_
    · intro e he v w w' _ hb hv
      simp only [List.mem_cons, List.not_mem_nil, or_false] at he
      rcases he with rfl | rfl | rfl | rfl | rfl | rfl | rfl | rfl | rfl | rfl | rfl | rfl
      all_goals first | exact hv | exact own_later hv hb
    · refine ⟨?_, ?_, ?_, ?_, ?_, ?_, ?_, ?_, ?_, ?_, ?_, ?_, trivial⟩
      · intro ac w3 hg hd K hK
        exact op_move _ rfl (hK _ _ (Below.refl _ _) (hg.kp 0 (by simp)))
      · intro ac w3 hg hd K hK
        have f0 := hd ⟨0, .data⟩ (by simp) rfl _ rfl
        (try simp [Act.eval] at f0)
        go_simp
        exact hK _ _ (Below.refl _ _) rfl
      · intro ac w3 hg hd K hK
        have kc := HC4.out w3 (HB4.out.trans (hg.hb.mono HB4.out.size))
        have f1 := hd ⟨1, .data⟩ (by simp) rfl _ rfl
        (try simp [Act.eval] at f1)
        go_simp
        exact hK _ _ (Below.refl _ _) rfl
      · intro ac w3 hg hd K hK
        have kc := HE9.out
        have f2 := hd ⟨2, .data⟩ (by simp) rfl _ rfl
        (try simp [Act.eval] at f2)
        go_simp
        exact hK _ _ (Below.refl _ _) rfl
      · intro ac w3 hg hd K hK
        exact op_move _ rfl (hK _ _ (Below.refl _ _) (hg.kp 0 (by simp)))
      · intro ac w3 hg hd K hK
        exact op_move _ rfl (hK _ _ (Below.refl _ _) (hg.kp 7 (by simp)))
      · intro ac w3 hg hd K hK
        have kc := HE10.out
        have f5 := hd ⟨5, .data⟩ (by simp) rfl _ rfl
        (try simp [Act.eval] at f5)
        go_simp
        exact hK _ _ (Below.refl _ _) rfl
      · intro ac w3 hg hd K hK
        have f4 := hd ⟨4, .data⟩ (by simp) rfl _ rfl
        have f6 := hd ⟨6, .data⟩ (by simp) rfl _ rfl
        simp [Act.eval] at f4 f6
        go_simp
        rw [if_pos (by omega), if_pos (by omega), show (7 + (NN : Int)).toNat - 7 = NN by omega]
        try rw [if_neg (show ¬ NN = 0 by omega)]
        have e7 : 7 + NN - 7 = NN := by omega
        try rw [e7] at hK
        try rw [e7]
        first | exact hK (.slice (some ⟨gb, 7, none⟩) NN NN) _ (Below.refl _ _) rfl | exact hK (.slice (some ⟨gb, 7, none⟩) NN ((7 + NN) - 7)) _ (Below.refl _ _) rfl
      · intro ac w3 hg hd K hK
        have f7 := hd ⟨7, .data⟩ (by simp) rfl _ rfl
        simp [Act.eval] at f7
        go_simp
        have hB := HB4.out.trans (hg.hb.mono HB4.out.size)
        refine (clone_all (some ⟨gb, 7, none⟩) NN _ ((c.drop 7).take NN) w3 (rb_data ((HR.out.below hB).more hB.size) hNle) (by omega)).mono ?_
        rintro e w5 ⟨v5, rfl, ho, hb⟩
        exact hK v5 w5 hb (own_base ho hg.hb.size)
      · intro ac w3 hg hd K hK
        exact op_assign _ rfl (hK _ _ (Below.refl _ _) (hd ⟨3, .data⟩ (by simp) rfl _ rfl))
      · intro ac w3 hg hd K hK
        exact op_assign _ rfl (hK _ _ (Below.refl _ _) (hd ⟨8, .data⟩ (by simp) rfl _ rfl))
      · intro ac w3 hg hd K hK
        exact op_assign _ rfl (hK _ _ (Below.refl _ _) rfl)
    · intro f w5 hb5 hall
      have h2 : f 2 = .int .i64 (X.toNat : Int) := hall ⟨2, fun v _ => v = .int .i64 (X.toNat : Int)⟩ (by simp)
      have h3 := hall ⟨3, fun v w' => w'.ownsRow w4.heap.size T8 1 v NN (cs8 ((c.drop 7).take NN))⟩ (by simp)
      have h4 : f 4 = .int .i64 0 := hall ⟨4, fun v _ => v = .int .i64 0⟩ (by simp)
      simp only [fillF, List.map_cons, List.map_nil, List.foldl_cons, List.foldl_nil, Act.put, List.setIfInBounds_toArray, List.set_cons_zero, List.set_cons_succ]
      rw [h2, h4]
      obtain ⟨V, hV⟩ : ∃ V, f 3 = V := ⟨_, rfl⟩
      rw [hV] at h3 ⊢
      have HB5 := hide (HB4.out.trans (hb5.mono HB4.out.size))
      have HV := hide (own_base h3 HB4.out.size)
      clear h2 h3 h4 hall hb5 hV
      go_wp2
      refine bodyPost_ret (v := .tuple #[.int .i64 (X.toNat : Int), V, .int .i64 0]) (by simp [results, Try.results39, go_sem]) rfl ⟨V, rfl, HV.out, HB5.out⟩
  · clear d1 d5 x0 kc4
    have HE9 := hide (show IntKind.i64.wrap (X.toNat : Int) = (X.toNat : Int) by rw [IntKind.wrap_i64]; omega)
    have HE10 := hide (show IntKind.i64.wrap (7 + (NN : Int)) = 7 + (NN : Int) by rw [IntKind.wrap_i64]; omega)
    refine wp_region_facts (by kernel_rfl) (by kernel_rfl) 52
      [⟨43, fun v _ => v = .slice (some ⟨gb, 0, none⟩) 512 cap⟩,
       ⟨44, fun v _ => v = .pointer (some ⟨gb, 4, none⟩)⟩,
       ⟨45, fun v _ => v = .int .u8 (X.toNat : Int)⟩,
       ⟨46, fun v _ => v = .int .i64 (X.toNat : Int)⟩,
       ⟨47, fun v _ => v = .slice (some ⟨gb, 0, none⟩) 512 cap⟩,
       ⟨48, fun v _ => v = .int .i64 (NN : Int)⟩,
       ⟨49, fun v _ => v = .int .i64 (7 + (NN : Int))⟩,
       ⟨50, fun v _ => v = .slice (some ⟨gb, 7, none⟩) NN (cap - 7)⟩,
       ⟨51, fun v w' => w'.ownsRow w4.heap.size T8 1 v NN (cs8 ((c.drop 7).take NN))⟩,
       ⟨2, fun v _ => v = .int .i64 (X.toNat : Int)⟩,
       ⟨3, fun v w' => w'.ownsRow w4.heap.size T8 1 v NN (cs8 ((c.drop 7).take NN))⟩,
       ⟨4, fun v _ => v = .int .i64 0⟩] (by kernel_rfl) rfl rfl ?_ ?_ ?_
    · intro e he v w w' _ hb hv
      simp only [List.mem_cons, List.not_mem_nil, or_false] at he
      rcases he with rfl | rfl | rfl | rfl | rfl | rfl | rfl | rfl | rfl | rfl | rfl | rfl
      all_goals first | exact hv | exact own_later hv hb
    · refine ⟨?_, ?_, ?_, ?_, ?_, ?_, ?_, ?_, ?_, ?_, ?_, ?_, trivial⟩
      · intro ac w3 hg hd K hK
        exact op_move _ rfl (hK _ _ (Below.refl _ _) (hg.kp 0 (by simp)))
      · intro ac w3 hg hd K hK
        have f0 := hd ⟨0, .data⟩ (by simp) rfl _ rfl
        (try simp [Act.eval] at f0)
        go_simp
        exact hK _ _ (Below.refl _ _) rfl
      · intro ac w3 hg hd K hK
        have kc := HC4.out w3 (HB4.out.trans (hg.hb.mono HB4.out.size))
        have f1 := hd ⟨1, .data⟩ (by simp) rfl _ rfl
        (try simp [Act.eval] at f1)
        go_simp
        exact hK _ _ (Below.refl _ _) rfl
      · intro ac w3 hg hd K hK
        have kc := HE9.out
        have f2 := hd ⟨2, .data⟩ (by simp) rfl _ rfl
        (try simp [Act.eval] at f2)
        go_simp
        exact hK _ _ (Below.refl _ _) rfl
      · intro ac w3 hg hd K hK
        exact op_move _ rfl (hK _ _ (Below.refl _ _) (hg.kp 0 (by simp)))
      · intro ac w3 hg hd K hK
        exact op_move _ rfl (hK _ _ (Below.refl _ _) (hg.kp 7 (by simp)))
      · intro ac w3 hg hd K hK
        have kc := HE10.out
        have f5 := hd ⟨5, .data⟩ (by simp) rfl _ rfl
        (try simp [Act.eval] at f5)
        go_simp
        exact hK _ _ (Below.refl _ _) rfl
      · intro ac w3 hg hd K hK
        have f4 := hd ⟨4, .data⟩ (by simp) rfl _ rfl
        have f6 := hd ⟨6, .data⟩ (by simp) rfl _ rfl
        simp [Act.eval] at f4 f6
        go_simp
        rw [if_pos (by omega), if_pos (by omega), show (7 + (NN : Int)).toNat - 7 = NN by omega]
        try rw [if_neg (show ¬ NN = 0 by omega)]
        have e7 : 7 + NN - 7 = NN := by omega
        try rw [e7] at hK
        try rw [e7]
        first | exact hK (.slice (some ⟨gb, 7, none⟩) NN NN) _ (Below.refl _ _) rfl | exact hK (.slice (some ⟨gb, 7, none⟩) NN (cap - 7)) _ (Below.refl _ _) rfl
      · intro ac w3 hg hd K hK
        have f7 := hd ⟨7, .data⟩ (by simp) rfl _ rfl
        simp [Act.eval] at f7
        go_simp
        have hB := HB4.out.trans (hg.hb.mono HB4.out.size)
        refine (clone_all (some ⟨gb, 7, none⟩) NN _ ((c.drop 7).take NN) w3 (rb_data ((HR.out.below hB).more hB.size) hNle) (by omega)).mono ?_
        rintro e w5 ⟨v5, rfl, ho, hb⟩
        exact hK v5 w5 hb (own_base ho hg.hb.size)
      · intro ac w3 hg hd K hK
        exact op_assign _ rfl (hK _ _ (Below.refl _ _) (hd ⟨3, .data⟩ (by simp) rfl _ rfl))
      · intro ac w3 hg hd K hK
        exact op_assign _ rfl (hK _ _ (Below.refl _ _) (hd ⟨8, .data⟩ (by simp) rfl _ rfl))
      · intro ac w3 hg hd K hK
        exact op_assign _ rfl (hK _ _ (Below.refl _ _) rfl)
    · intro f w5 hb5 hall
      have h2 : f 2 = .int .i64 (X.toNat : Int) := hall ⟨2, fun v _ => v = .int .i64 (X.toNat : Int)⟩ (by simp)
      have h3 := hall ⟨3, fun v w' => w'.ownsRow w4.heap.size T8 1 v NN (cs8 ((c.drop 7).take NN))⟩ (by simp)
      have h4 : f 4 = .int .i64 0 := hall ⟨4, fun v _ => v = .int .i64 0⟩ (by simp)
      simp only [fillF, List.map_cons, List.map_nil, List.foldl_cons, List.foldl_nil, Act.put, List.setIfInBounds_toArray, List.set_cons_zero, List.set_cons_succ]
      rw [h2, h4]
      obtain ⟨V, hV⟩ : ∃ V, f 3 = V := ⟨_, rfl⟩
      rw [hV] at h3 ⊢
      have HB5 := hide (HB4.out.trans (hb5.mono HB4.out.size))
      have HV := hide (own_base h3 HB4.out.size)
      clear h2 h3 h4 hall hb5 hV
      go_wp2
      refine bodyPost_ret (v := .tuple #[.int .i64 (X.toNat : Int), V, .int .i64 0]) (by simp [results, Try.results39, go_sem]) rfl ⟨V, rfl, HV.out, HB5.out⟩
end Go.Proofs.Ytddcmockdomonaa
