/- The pager: Flip. -/
import Derived.Test.YtddcmockdomonaaPgZ
namespace Go.Proofs.Ytddcmockdomonaa
set_option linter.unusedSimpArgs false
set_option linter.unusedVariables false
open Go.RowKit
section
variable {w w' : World} {F : Nat → Prop} {pb sb db n q : Nat} {left : Int} {S : Int → Cn} {L : List (Int × Cn)} {N : Nat} {root frm : Int} {st : Cn}
theorem rb_none (w : World) (B : Nat) : RB w B none 0 [] := Reads.none_
/-- Behind the write of a root. -/
def WrS (w0 w' : World) (F : Nat → Prop) (db n : Nat) (b : Bool) (left : Int) (S : Int → Cn) (a : Int) (c : Cn) (N : Nat) : Prop :=
  Fr F w0 w' ∧ ∃ F', Sec w' F' db b (burnL left) (n : Int) S (if b then [] else [(a, c)]) (N + 1) ∧ Grw F w0 F'
def WrD (w0 w' : World) (F : Nat → Prop) (pb sb db n : Nat) (b : Bool) (left : Int) (S : Int → Cn) (a : Int) (c : Cn) (N : Nat) (seq root frm : Int) : Prop :=
  ∃ w8, WrS w0 w8 F db n b left S a c N ∧ Blk w' pb TP (pk db sb n seq root frm b) ∧ w8.grownBy w' (some pb)
theorem Fil.later {w w' : World} {F G : Nat → Prop} {v : Value} {c : Cn} {k pb : Nat} (h : Fil w (fun j => k ≤ j) v c) (hf : Fr F w w') (hd : ∀ j, F j → j < k) : Fil w' (fun j => k ≤ j) v c := h.fr hf (fun j h1 h2 => by have := hd j h2; omega)
theorem wr_root {w0 : World} {F : Nat → Prop} {pb sb db n : Nat} {left : Int} {S : Int → Cn} {N : Nat} {seq root frm : Int} {st : Cn} {b : Bool} (h : Pg w0 F pb sb db n left S [] N seq root frm st) (a : Int) (c : Cn) (v : Value) (k : Nat) (hv : Fil w0 (fun j => k ≤ j) v c) (ha : 0 ≤ a ∧ a < (n : Int)) (hN : N < 100000) (hb : burnO false left = b) :
    Calls Try.prog 31 #[.pointer (some ⟨db, 0, none⟩), .int .i64 a, v] w0.drew fun e w' => e = .returned (.int .i64 (if b then 15 else 0)) ∧ WrS w0 w' F db n b left S a c N := by
  refine (sec_wr (h.below (Below.refl _ _).drew).sec a c v _ hv ha hN).mono ?_
  rw [hb]
  rintro e w' ⟨rfl, ⟨F', hs, hF⟩, hf⟩
  refine ⟨rfl, ⟨hf.os, hf.tape, hf.output, hf.size, hf.block⟩, F', ?_, hF⟩
  cases b <;> exact hs
theorem did_root {w0 w8 : World} {F : Nat → Prop} {pb sb db n : Nat} {left : Int} {S : Int → Cn} {N : Nat} {seq root frm : Int} {st : Cn} {b : Bool} {a : Int} {c : Cn} (h : Pg w0 F pb sb db n left S [] N seq root frm st) (hw : WrS w0 w8 F db n b left S a c N) (e0 : Int) (he : (e0 == 15) = b) :
    Calls Try.prog 30 #[.pointer (some ⟨pb, 0, none⟩), .int .i64 e0] w8 fun e w' => e = .returned (.int .i64 e0) ∧ WrD w0 w' F pb sb db n b left S a c N seq root frm := by
  refine (did_any pb db sb n seq root frm e0 w8 (hw.1.blk h.blk h.np)).mono ?_
  rintro e w' ⟨rfl, h1, h2⟩
  exact ⟨rfl, w8, hw, he ▸ h1, h2⟩
theorem put_seq (q : Nat) (hq : q + 1 < 4000000000) (w : World) :
    Calls Try.prog 32 #[.slice none 0 0, .int .i64 ((q : Int) + 1), .int .i64 7] w fun e w' => ∃ A c, e = .returned (.slice A 7 c) ∧ RB w' w'.heap.size A 7 (beN (q + 1) 7 7) ∧ Below w.heap.size w w' := by
  have h := put_any none 0 0 [] (q + 1) 7 w (rb_none _ _) (by omega) (by omega) (by omega)
  refine h.mono ?_
  rintro e w' ⟨v, rfl, ho, hb⟩
  rw [List.nil_append] at ho
  obtain ⟨A, c, rfl, hr, _⟩ := own_reads' ho
  exact ⟨A, c, rfl, hr, hb⟩
theorem put_root (q r : Nat) (hr : r < 65536) (A : Option Addr) (c : Nat) (w : World) (h : RB w w.heap.size A 7 (beN (q + 1) 7 7)) :
    Calls Try.prog 32 #[.slice A 7 c, .int .i64 r, .int .i64 4] w fun e w' => ∃ A c, e = .returned (.slice A 11 c) ∧ RB w' w'.heap.size A 11 (beN (q + 1) 7 7 ++ beN r 4 4) ∧ Below w.heap.size w w' := by
  have h := put_any A 7 c (beN (q + 1) 7 7) r 4 w h (by omega) (by omega) (by omega)
  refine h.mono ?_
  rintro e w' ⟨v, rfl, ho, hb⟩
  obtain ⟨A, c, rfl, hr, _⟩ := own_reads' ho
  exact ⟨A, c, rfl, hr, hb⟩
theorem put_root0 (q r : Nat) (h0 : r = 0) (A : Option Addr) (c : Nat) (w : World) (h : RB w w.heap.size A 7 (beN (q + 1) 7 7)) :
    Calls Try.prog 32 #[.slice A 7 c, .int .i64 0, .int .i64 4] w fun e w' => ∃ A c, e = .returned (.slice A 11 c) ∧ RB w' w'.heap.size A 11 (beN (q + 1) 7 7 ++ beN r 4 4) ∧ Below w.heap.size w w' := by
  subst h0
  exact put_root q 0 (by omega) A c w h
theorem seal_root (q r : Nat) (A : Option Addr) (c : Nat) (w : World) (h : RB w w.heap.size A 11 (beN (q + 1) 7 7 ++ beN r 4 4)) :
    Calls Try.prog 29 #[.int .i64 1, .slice A 11 c] w fun e w' => ∃ v, e = .returned (.tuple #[v, .int .i64 0]) ∧ Fil w' (fun j => w.heap.size ≤ j) v (rootC (q + 1) r) ∧ Below w.heap.size w w' := by
  refine (seal_ok A 11 c (beN (q + 1) 7 7 ++ beN r 4 4) 1 w h (by omega) (by omega)).mono ?_
  rintro e w' ⟨v, rfl, ho, hb⟩
  exact ⟨v, rfl, Fil.of_row ho (sealC_len 1 (by rw [rootC_len]; omega)) (fun _ h _ => h), hb⟩
set_option maxRecDepth 100000 in
set_option maxHeartbeats 400000 in
theorem flip_zero (h : Pg w F pb sb db n left S L N ((q : Nat) : Int) root frm st) (hN : N < 100000) (hq : q + 1 < 4000000000) (r : Nat) (h0 : r = 0) :
    Calls Try.prog 11 #[.pointer (some ⟨pb, 0, none⟩), .int .i64 r] w fun e w' => FlipR w F pb sb db n left S L N q frm st r e w' ∧ Fr (PF F pb sb) w w' := by
  have HP := hide h
  have HN := hide hN
  have hn := h.hn
  have h4 := h.h4
  have hrn : r < n := by omega
  have hww : IntKind.i64.wrap ((q : Int) + 1) = (q : Int) + 1 := by simp only [IntKind.wrap, IntKind.bits, IntKind.signed]; simp; omega
  have hwq : wrap64 ((q : Int) + 1) = (q : Int) + 1 := by unfold wrap64; omega
  have e0 : (r : Int) = 0 := by omega
  have HZ := hide h0
  have E0R := hide e0
  clear h hN h0
  go_enter Try.func11, Try.ntmps11
  cases hb1 : burnO false left
  · have HB1 := hide hb1
    clear hb1
    go_wp2_with (first | (go_at_call 30; (refine (did_any pb db sb n q root frm 0 w6 HP6.out.blk).mono ?_); rintro e w7 ⟨rfl, hk, hg⟩; have HP7 := hide (HP6.out.self hg hk HP6.out.hsq HP6.out.hrt HP6.out.hfr); have HG7 := hide hg; have k7 := HP7.out.blk.cell; have q7 := HP7.out.blk.frozen; have z7 := HP7.out.blk.lt; unfold pk at k7; clear hk hg k5 q5 z5) | (go_at_call 33; (refine (sec_bar HP5.out.sec (Nat.le_of_lt HN.out) HB1.out).mono ?_); rintro e w6 ⟨rfl, hs, hf⟩; have HP6 := hide (HP5.out.disk hs hf (Grw.refl _ _)); have HF6 := hide hf; clear hs hf) | (go_at_call 32; (refine (put_root0 q r HZ.out A3 c3 w3 HR3.out).mono ?_); rintro e w4 ⟨A4, c4, rfl, hr4, hb⟩; have HR4 := hide hr4; have HB4 := hide (HB3.out.trans (hb.mono HB3.out.size)); clear hb hr4) | (go_at_call 28; (refine (alive_ok HP.out.sec HP.out.blk).mono ?_); rintro e w2 ⟨rfl, hb⟩; have HB2 := hide hb; have k2 := (HP.out.below HB2.out).blk.cell; have q2 := (HP.out.below HB2.out).blk.frozen; have z2 := (HP.out.below HB2.out).blk.lt; unfold pk at k2; clear hb) | (go_at_call 29; (refine (seal_root q r A4 c4 w4 HR4.out).mono ?_); rintro e w5 ⟨v5, rfl, hf, hb⟩; have HF5 := hide hf; have HB5 := hide (HB4.out.trans (hb.mono HB4.out.size)); have HP5 := hide (HP.out.below HB5.out); have k5 := HP5.out.blk.cell; have q5 := HP5.out.blk.frozen; have z5 := HP5.out.blk.lt; unfold pk at k5; clear hb hf k2 q2 z2) | (go_at_call 32; (refine (put_seq q hq w2).mono ?_); rintro e w3 ⟨A3, c3, rfl, hr3, hb⟩; have HR3 := hide hr3; have HB3 := hide (HB2.out.trans (hb.mono HB2.out.size)); clear hb hr3))
    have HR7 := hide (show Fr (PF F pb sb) w w7 from (Fr.low HB5.out).trans ((HF6.out.up (fun _ h => .inl h)).trans (Fr.of_pb HG7.out) (fun _ _ h => h)) (fun _ _ h => h))
    cases hb2 : burnO false (burnL left)
    · have HB2b := hide hb2
      clear hb2
      have HF7 := hide ((HF5.out.fr HF6.out (fun j h1 h2 => by have := HP.out.sec.lt j h2; have := HB4.out.size; omega)).fr (Fr.of_grown (F := fun j => j = pb) HG7.out (fun k e => by injection e with e; exact e.symm)) (fun j h1 h2 => by have := HP.out.blk.lt; have := HB4.out.size; omega))
      obtain ⟨qq, hqq⟩ : ∃ qq : Nat, (q + 1) % 2 = qq := ⟨_, rfl⟩
      have hqm : ((q : Int) + 1).tmod 2 = (qq : Int) := by rw [show ((q : Int) + 1) = ((q + 1 : Nat) : Int) by omega]; exact (Int.ofNat_tmod (q + 1) 2).symm.trans (congrArg _ hqq)
      have hqa : 0 ≤ (qq : Int) ∧ (qq : Int) < (n : Int) := by omega
      have HQQ := hide hqq
      clear hqq
      refine wp_region_stage (by kernel_rfl) (by kernel_rfl) 131 2
        [⟨some 65, false, 0, 1, fun _ v _ => v = .pointer (some ⟨pb, 0, none⟩)⟩,
         ⟨some 66, false, 0, 0, fun _ v _ => v = .pointer (some ⟨pb, 0, none⟩)⟩,
         ⟨some 67, false, 0, 0, fun _ v _ => v = .pointer (some ⟨pb, 0, none⟩)⟩,
         ⟨some 68, false, 0, 0, fun _ v _ => v = .pointer (some ⟨pb, 0, none⟩)⟩,
         ⟨some 69, false, 0, 0, fun _ v _ => v = .pointer (some ⟨db, 0, none⟩)⟩,
         ⟨some 70, false, 0, 0, fun _ v _ => v = .pointer (some ⟨pb, 0, none⟩)⟩,
         ⟨some 71, false, 0, 0, fun _ v _ => v = .pointer (some ⟨pb, 0, none⟩)⟩,
         ⟨some 72, false, 0, 0, fun _ v _ => v = .pointer (some ⟨pb, 2, none⟩)⟩,
         ⟨some 73, false, 0, 0, fun _ v _ => v = .int .i64 (q : Int)⟩,
         ⟨some 74, false, 0, 0, fun _ v _ => v = .int .i64 ((q : Int) + 1)⟩,
         ⟨some 75, false, 0, 0, fun _ v _ => v = .int .i64 (qq : Int)⟩,
         ⟨some 76, false, 0, 0, fun _ v _ => v = v5⟩,
         ⟨some 77, true, 0, 0, fun _ v _ => v = .int .i64 0⟩,
         ⟨some 78, true, 1, 1, fun _ v _ => v = .int .i64 0⟩,
         ⟨some 8, false, 2, 2, fun _ v _ => v = .int .i64 0⟩] (fun s w' => (s = 0 → w' = w7.drew) ∧ (s = 1 → WrS w7 w' F db n false (burnL left) (lastS allT S L) qq (rootC (q + 1) r) N) ∧ (s = 2 → WrD w7 w' F pb sb db n false (burnL left) (lastS allT S L) qq (rootC (q + 1) r) N q root frm)) (fun _ _ _ => True) [65, 66, 67, 68, 69, 70, 71, 72, 73, 74, 75, 76, 77, 78, 8] rfl (by kernel_rfl) rfl ?g0 ?keep ?steps ?fin
      case keep =>
        intro e he s v w w' hm hsM ht hv
        simp only [List.mem_cons, List.not_mem_nil, or_false] at he
        rcases he with rfl | rfl | rfl | rfl | rfl | rfl | rfl | rfl | rfl | rfl | rfl | rfl | rfl | rfl | rfl
        all_goals first | exact hv
      case steps =>
        refine ⟨?_, ?_, ?_, ?_, ?_, ?_, ?_, ?_, ?_, ?_, ?_, ?_, ?_, ?_, ?_, trivial⟩
        · intro st hlo hhi ac w3 hg hG hd K hK
          dsimp only at hlo hhi hG hK
          exact op_move _ rfl (hK _ (hg.kp 0 (by simp)))
        · intro st hlo hhi ac w3 hg hG hd K hK
          dsimp only at hlo hhi hG hK
          exact op_move _ rfl (hK _ (hg.kp 0 (by simp)))
        · intro st hlo hhi ac w3 hg hG hd K hK
          dsimp only at hlo hhi hG hK
          have f1 := hd ⟨1, .data⟩ (by simp) rfl _ rfl _ rfl
          (try simp [Act.eval] at f1)
          go_simp
          exact hK _ rfl
        · intro st hlo hhi ac w3 hg hG hd K hK
          dsimp only at hlo hhi hG hK
          have f2 := hd ⟨2, .data⟩ (by simp) rfl _ rfl _ rfl
          (try simp [Act.eval] at f2)
          go_simp
          exact hK _ rfl
        · intro st hlo hhi ac w3 hg hG hd K hK
          dsimp only at hlo hhi hG hK
          obtain rfl : st = 0 := by omega
          obtain rfl := hG.1 rfl
          have kk := k7 0
          simp at kk
          have f3 := hd ⟨3, .data⟩ (by simp) rfl _ rfl _ rfl
          (try simp [Act.eval] at f3)
          go_simp
          exact hK _ rfl
        · intro st hlo hhi ac w3 hg hG hd K hK
          dsimp only at hlo hhi hG hK
          exact op_move _ rfl (hK _ (hg.kp 0 (by simp)))
        · intro st hlo hhi ac w3 hg hG hd K hK
          dsimp only at hlo hhi hG hK
          have f5 := hd ⟨5, .data⟩ (by simp) rfl _ rfl _ rfl
          (try simp [Act.eval] at f5)
          go_simp
          exact hK _ rfl
        · intro st hlo hhi ac w3 hg hG hd K hK
          dsimp only at hlo hhi hG hK
          have f6 := hd ⟨6, .data⟩ (by simp) rfl _ rfl _ rfl
          (try simp [Act.eval] at f6)
          go_simp
          exact hK _ rfl
        · intro st hlo hhi ac w3 hg hG hd K hK
          dsimp only at hlo hhi hG hK
          obtain rfl : st = 0 := by omega
          obtain rfl := hG.1 rfl
          have kk := k7 2
          simp at kk
          have f7 := hd ⟨7, .data⟩ (by simp) rfl _ rfl _ rfl
          (try simp [Act.eval] at f7)
          go_simp
          exact hK _ rfl
        · intro st hlo hhi ac w3 hg hG hd K hK
          dsimp only at hlo hhi hG hK
          have f8 := hd ⟨8, .data⟩ (by simp) rfl _ rfl _ rfl
          (try simp [Act.eval] at f8)
          go_simp
          exact hK _ rfl
        · intro st hlo hhi ac w3 hg hG hd K hK
          dsimp only at hlo hhi hG hK
          have f9 := hd ⟨9, .data⟩ (by simp) rfl _ rfl _ rfl
          (try simp [Act.eval] at f9)
          go_simp
          exact hK _ rfl
        · intro st hlo hhi ac w3 hg hG hd K hK
          dsimp only at hlo hhi hG hK
          exact op_move _ rfl (hK _ (hg.kp 6 (by simp)))
        · intro ac w3 hg hG hd K hK
          dsimp only [Nat.zero_add, Nat.reduceAdd] at hG hK
          have f4 := hd ⟨4, .data⟩ (by simp) rfl _ rfl _ rfl
          have f10 := hd ⟨10, .data⟩ (by simp) rfl _ rfl _ rfl
          have f11 := hd ⟨11, .data⟩ (by simp) rfl _ rfl _ rfl
          simp [Act.eval] at f4 f10 f11
          obtain rfl := hG.1 rfl
          go_simp
          (refine (wr_root HP7.out (qq : Int) (rootC (q + 1) r) v5 _ HF7.out hqa HN.out HB2b.out).mono ?_)
          rintro e w4 ⟨rfl, hw4⟩
          exact hK (.int .i64 0) w4 trivial (And.intro (fun h => absurd h (by decide)) (And.intro (fun _ => hw4) (fun h => absurd h (by decide)))) rfl
        · intro ac w3 hg hG hd K hK
          dsimp only [Nat.zero_add, Nat.reduceAdd] at hG hK
          have f0 := hd ⟨0, .data⟩ (by simp) rfl _ rfl _ rfl
          have f12 := hd ⟨12, .data⟩ (by simp) rfl _ rfl _ rfl
          have HW1 := hide (hG.2.1 rfl)
          clear hG
          simp [Act.eval] at f0 f12
          go_simp
          (refine (did_root HP7.out HW1.out 0 rfl).mono ?_)
          rintro e w4 ⟨rfl, hw4⟩
          exact hK (.int .i64 0) w4 trivial (And.intro (fun h => absurd h (by decide)) (And.intro (fun h => absurd h (by decide)) (fun _ => hw4))) rfl
        · intro st hlo hhi ac w3 hg hG hd K hK
          dsimp only at hlo hhi hG hK
          exact op_assign _ rfl (hK _ (hd ⟨13, .data⟩ (by simp) rfl _ rfl _ rfl))
      case g0 => exact And.intro (fun _ => rfl) (And.intro (fun h => absurd h (by decide)) (fun h => absurd h (by decide)))
      case fin =>
        intro f w9 hG hall
        have h8 := hall _ (List.mem_of_getElem? (i := 14) rfl) 8 rfl
        obtain ⟨w8, ⟨hf8, F', hs8, hg8⟩, hk9, hg9⟩ := hG.2.2 rfl
        have HP9 := hide ((HP7.out.disk hs8 hf8 hg8).self hg9 hk9 HP7.out.hsq HP7.out.hrt HP7.out.hfr)
        have HR9 := hide (show Fr (PF F pb sb) w w9 from HR7.out.trans ((hf8.up (fun _ h => .inl h)).trans (Fr.of_pb hg9) (fun _ _ h => h)) (fun _ _ h => h))
        have HGW := hide (show Grw F w F' from fun j hj => (hg8 j hj).imp id (fun h => Nat.le_trans HR7.out.size h))
        have k9 := HP9.out.blk.cell
        have q9 := HP9.out.blk.frozen
        have z9 := HP9.out.blk.lt
        unfold pk at k9
        clear hG hall hf8 hs8 hg8 hk9 hg9 k7 q7 z7
        simp only [fillF, List.map_cons, List.map_nil, List.foldl_cons, List.foldl_nil, Act.put, List.setIfInBounds_toArray, List.set_cons_zero, List.set_cons_succ]
        rw [h8]
        clear h8
        cases hb3 : burnO false (burnL (burnL left))
        · have HB3b := hide hb3
          clear hb3
          go_wp2_with (first | (go_at_call 30; (refine (did_any pb db sb n q root frm 0 w10 HP10.out.blk).mono ?_); rintro e w11 ⟨rfl, hk, hg⟩; have HP11 := hide (HP10.out.self hg hk HP10.out.hsq HP10.out.hrt HP10.out.hfr); have HR11 := hide (show Fr (PF F pb sb) w w11 from HR10.out.trans (Fr.of_pb hg) (fun _ _ h => h)); have k11 := HP11.out.blk.cell; have q11 := HP11.out.blk.frozen; have z11 := HP11.out.blk.lt; have HB12 := hide (HP11.out.blk.set_ 2 (.int .i64 ((q : Int) + 1))); have k12 := HB12.out.cell; have q12 := HB12.out.frozen; have z12 := HB12.out.lt; have HB13 := hide (HB12.out.set_ 3 (.int .i64 0)); have k13 := HB13.out.cell; have q13 := HB13.out.frozen; have z13 := HB13.out.lt; unfold pk at k11 k12 k13; clear hk hg k9 q9 z9) | (go_at_call 33; (refine (sec_bar HP9.out.sec HN.out HB3b.out).mono ?_); rintro e w10 ⟨rfl, hs, hf⟩; have HP10 := hide (HP9.out.disk hs hf (Grw.refl _ _)); have HR10 := hide (show Fr (PF F pb sb) w w10 from HR9.out.trans (F' := PF F' pb sb) (hf.up (fun _ h => .inl h)) (fun j hj h => h.imp (fun h => (HGW.out j h).elim id (fun h => by omega)) id)); clear hs hf))
          obtain ⟨W, hW⟩ : ∃ W, ((w11.setCell ⟨pb, 2, none⟩ (.int .i64 ((q : Int) + 1))).setCell ⟨pb, 3, none⟩ (.int .i64 0)) = W := ⟨_, rfl⟩
          have HPW := hide (show Pg W F' pb sb db n (burnL (burnL (burnL left))) (lastS allT (lastS allT S L) [((qq : Int), rootC (q + 1) r)]) [] (N + 1) ((q : Int) + 1) (r : Int) frm st from by
            have hg : w11.grownBy W (some pb) := by
              rw [← hW]
              exact ⟨rfl, rfl, rfl, by simp, fun j hj hne => (Below.heap_setCell _ _ _ _ (fun e => hne (by rw [e]))).trans (Below.heap_setCell _ _ _ _ (fun e => hne (by rw [e])))⟩
            refine HP11.out.self hg ?_ (by omega) (by omega) HP11.out.hfr
            have hB := HB13.out
            rw [hW] at hB
            have ep : pk db sb n ((q : Int) + 1) 0 frm false = pk db sb n ((q : Int) + 1) (r : Int) frm false := by first | rfl | rw [E0R.out]
            rw [← ep]
            exact hB)
          have HRW := hide (show Fr (PF F pb sb) w W from by
            rw [← hW]
            exact HR11.out.trans ((Fr.of_pb (gby_set _ _ _ _)).trans (Fr.of_pb (gby_set _ _ _ _)) (fun _ _ h => h)) (fun _ _ h => h))
          rw [hW]
          clear hW k11 q11 z11 k12 q12 z12 k13 q13 z13 HB12 HB13
          obtain ⟨LL, hLL⟩ : ∃ LL, burnL (burnL (burnL left)) = LL := ⟨_, rfl⟩
          obtain ⟨SS, hSS⟩ : ∃ SS, lastS allT (lastS allT S L) [((qq : Int), rootC (q + 1) r)] = SS := ⟨_, rfl⟩
          rw [hLL, hSS] at HPW
          have HLS := hide (And.intro hLL hSS)
          have HSL := hide HPW.out.len
          have HI0 := hide (show Pg W F' pb sb db n LL SS [] (N + 1) ((q : Int) + 1) (r : Int) frm (mixF st 0) ∧ Fr (fun j => j = sb) W W from ⟨by rw [mix_zero]; exact HPW.out, Fr.refl _ _⟩)
          clear hLL hSS HPW HP11 HP10 HR11 HR10 HP9 HR9
          go_loopw [108] (fun i wr => ∃ k : Nat, k ≤ n ∧ i = .int .i64 k ∧ Hid (Pg wr F' pb sb db n LL SS [] (N + 1) ((q : Int) + 1) (r : Int) frm (mixF st k) ∧ Fr (fun j => j = sb) W wr)) (fun i _ => n - (intOf i).toNat)
          case atStart => exact ⟨0, by omega, rfl, HI0⟩
          case round =>
            obtain ⟨k, hk, rfl, HI⟩ := hrel
            by_cases hlt : k < n
            · have hks : k < st.length := by rw [HSL.out]; exact hlt
              have kp := HI.out.1.blk.cell
              have qp := HI.out.1.blk.frozen
              have zp := HI.out.1.blk.lt
              have ks := HI.out.1.cell k hlt
              have qs := HI.out.1.sblk.frozen
              have zs := HI.out.1.sblk.lt
              rw [mix_at st hks] at ks
              have HMS := hide (mix_succ st hks)
              have HMA := hide (mix_at st hks)
              obtain ⟨x, hx⟩ : ∃ x, st[k]'hks = x := ⟨_, rfl⟩
              rw [hx] at ks HMS HMA
              unfold pk at kp
              clear hx
              cases hd : (x.toNat == 1)
              · have d1 : ((x.toNat : Int) == 1) = false := by simp at hd ⊢; omega
                have HD := hide hd
                clear hd
                cases hd : (x.toNat == 3)
                · have d2 : ((x.toNat : Int) == 3) = false := by simp at hd ⊢; omega
                  have HD2 := hide hd
                  clear hd
                  go_wp2
                  go_roundw
                  case rel => exact ⟨k + 1, by omega, by go_num, hide ⟨by
                    rw [HMS.out, show flipU x = x by unfold flipU; rw [HD.out, HD2.out]; rfl, ← HMA.out, set_same]
                    exact HI.out.1, HI.out.2⟩⟩
                  case measure => simp [intOf]; omega
                · have d2 : ((x.toNat : Int) == 3) = true := by simp at hd ⊢; omega
                  have HD2 := hide hd
                  clear hd
                  go_wp2
                  go_roundw
                  case rel => exact ⟨k + 1, by omega, by go_num, hide ⟨by
                    rw [HMS.out, show flipU x = 0 by unfold flipU; rw [HD.out, HD2.out]; rfl]
                    exact HI.out.1.stored k 0, HI.out.2.trans (Fr.of_grown (F := fun j => j = sb) (gby_set _ sb _ _) (fun k e => by injection e with e; exact e.symm)) (fun _ _ h => h)⟩⟩
                  case measure => simp [intOf]; omega
              · have d1 : ((x.toNat : Int) == 1) = true := by simp at hd ⊢; omega
                have HD := hide hd
                clear hd
                go_wp2
                go_roundw
                case rel => exact ⟨k + 1, by omega, by go_num, hide ⟨by
                  rw [HMS.out, show flipU x = 2 by unfold flipU; rw [HD.out]; rfl]
                  exact HI.out.1.stored k 2, HI.out.2.trans (Fr.of_grown (F := fun j => j = sb) (gby_set _ sb _ _) (fun k e => by injection e with e; exact e.symm)) (fun _ _ h => h)⟩⟩
                case measure => simp [intOf]; omega
            · have e : k = n := by omega
              subst e
              go_wp2
              go_ret
              refine ⟨.inr ⟨rfl, F', ?_, HGW.out⟩, HRW.out.trans (HI.out.2.up (fun _ h => .inr (.inr h))) (fun _ _ h => h)⟩
              have := HI.out.1
              rw [mix_all st (by rw [HSL.out]; exact Nat.le_refl _), ← HLS.out.1, ← HLS.out.2, ← HQQ.out] at this
              exact this
        · have HB3b := hide hb3
          clear hb3
          go_wp2_with (first | (go_at_call 30; (refine (did_any pb db sb n q root frm 15 w10 HB10.out.1).mono ?_); rintro e w11 ⟨rfl, hk, hg⟩; have HS11 := hide (HB10.out.2.1.set_off hg HP9.out.np); have HR11 := hide (show Fr (PF F pb sb) w w11 from HB10.out.2.2.trans (Fr.of_pb hg) (fun _ _ h => h)); clear hk hg k9 q9 z9) | (go_at_call 33; (refine (sec_bar_burn HP9.out.sec HN.out HB3b.out).mono ?_); rintro e w10 ⟨rfl, hs, hf⟩; have HB10 := hide (And.intro (hf.blk HP9.out.blk HP9.out.np) (And.intro hs (show Fr (PF F pb sb) w w10 from HR9.out.trans (F' := PF F' pb sb) (hf.up (fun _ h => .inl h)) (fun j hj h => h.imp (fun h => (HGW.out j h).elim id (fun h => by omega)) id)))); clear hs hf))
          go_ret
          refine ⟨.inl ⟨burnL_pos (burnL_pos (burnO_pos HB3b.out)), rfl, F', _, _, _, HS11.out, HGW.out, .inr ⟨rfl, .inr ?_⟩⟩, HR11.out⟩
          rw [HQQ.out]
          rfl
    · have HB2b := hide hb2
      clear hb2
      have HF7 := hide ((HF5.out.fr HF6.out (fun j h1 h2 => by have := HP.out.sec.lt j h2; have := HB4.out.size; omega)).fr (Fr.of_grown (F := fun j => j = pb) HG7.out (fun k e => by injection e with e; exact e.symm)) (fun j h1 h2 => by have := HP.out.blk.lt; have := HB4.out.size; omega))
      obtain ⟨qq, hqq⟩ : ∃ qq : Nat, (q + 1) % 2 = qq := ⟨_, rfl⟩
      have hqm : ((q : Int) + 1).tmod 2 = (qq : Int) := by rw [show ((q : Int) + 1) = ((q + 1 : Nat) : Int) by omega]; exact (Int.ofNat_tmod (q + 1) 2).symm.trans (congrArg _ hqq)
      have hqa : 0 ≤ (qq : Int) ∧ (qq : Int) < (n : Int) := by omega
      have HQQ := hide hqq
      clear hqq
      refine wp_region_stage (by kernel_rfl) (by kernel_rfl) 131 2
        [⟨some 65, false, 0, 1, fun _ v _ => v = .pointer (some ⟨pb, 0, none⟩)⟩,
         ⟨some 66, false, 0, 0, fun _ v _ => v = .pointer (some ⟨pb, 0, none⟩)⟩,
         ⟨some 67, false, 0, 0, fun _ v _ => v = .pointer (some ⟨pb, 0, none⟩)⟩,
         ⟨some 68, false, 0, 0, fun _ v _ => v = .pointer (some ⟨pb, 0, none⟩)⟩,
         ⟨some 69, false, 0, 0, fun _ v _ => v = .pointer (some ⟨db, 0, none⟩)⟩,
         ⟨some 70, false, 0, 0, fun _ v _ => v = .pointer (some ⟨pb, 0, none⟩)⟩,
         ⟨some 71, false, 0, 0, fun _ v _ => v = .pointer (some ⟨pb, 0, none⟩)⟩,
         ⟨some 72, false, 0, 0, fun _ v _ => v = .pointer (some ⟨pb, 2, none⟩)⟩,
         ⟨some 73, false, 0, 0, fun _ v _ => v = .int .i64 (q : Int)⟩,
         ⟨some 74, false, 0, 0, fun _ v _ => v = .int .i64 ((q : Int) + 1)⟩,
         ⟨some 75, false, 0, 0, fun _ v _ => v = .int .i64 (qq : Int)⟩,
         ⟨some 76, false, 0, 0, fun _ v _ => v = v5⟩,
         ⟨some 77, true, 0, 0, fun _ v _ => v = .int .i64 15⟩,
         ⟨some 78, true, 1, 1, fun _ v _ => v = .int .i64 15⟩,
         ⟨some 8, false, 2, 2, fun _ v _ => v = .int .i64 15⟩] (fun s w' => (s = 0 → w' = w7.drew) ∧ (s = 1 → WrS w7 w' F db n true (burnL left) (lastS allT S L) qq (rootC (q + 1) r) N) ∧ (s = 2 → WrD w7 w' F pb sb db n true (burnL left) (lastS allT S L) qq (rootC (q + 1) r) N q root frm)) (fun _ _ _ => True) [65, 66, 67, 68, 69, 70, 71, 72, 73, 74, 75, 76, 77, 78, 8] rfl (by kernel_rfl) rfl ?g0 ?keep ?steps ?fin
      case keep =>
        intro e he s v w w' hm hsM ht hv
        simp only [List.mem_cons, List.not_mem_nil, or_false] at he
        rcases he with rfl | rfl | rfl | rfl | rfl | rfl | rfl | rfl | rfl | rfl | rfl | rfl | rfl | rfl | rfl
        all_goals first | exact hv
      case steps =>
        refine ⟨?_, ?_, ?_, ?_, ?_, ?_, ?_, ?_, ?_, ?_, ?_, ?_, ?_, ?_, ?_, trivial⟩
        · intro st hlo hhi ac w3 hg hG hd K hK
          dsimp only at hlo hhi hG hK
          exact op_move _ rfl (hK _ (hg.kp 0 (by simp)))
        · intro st hlo hhi ac w3 hg hG hd K hK
          dsimp only at hlo hhi hG hK
          exact op_move _ rfl (hK _ (hg.kp 0 (by simp)))
        · intro st hlo hhi ac w3 hg hG hd K hK
          dsimp only at hlo hhi hG hK
          have f1 := hd ⟨1, .data⟩ (by simp) rfl _ rfl _ rfl
          (try simp [Act.eval] at f1)
          go_simp
          exact hK _ rfl
        · intro st hlo hhi ac w3 hg hG hd K hK
          dsimp only at hlo hhi hG hK
          have f2 := hd ⟨2, .data⟩ (by simp) rfl _ rfl _ rfl
          (try simp [Act.eval] at f2)
          go_simp
          exact hK _ rfl
        · intro st hlo hhi ac w3 hg hG hd K hK
          dsimp only at hlo hhi hG hK
          obtain rfl : st = 0 := by omega
          obtain rfl := hG.1 rfl
          have kk := k7 0
          simp at kk
          have f3 := hd ⟨3, .data⟩ (by simp) rfl _ rfl _ rfl
          (try simp [Act.eval] at f3)
          go_simp
          exact hK _ rfl
        · intro st hlo hhi ac w3 hg hG hd K hK
          dsimp only at hlo hhi hG hK
          exact op_move _ rfl (hK _ (hg.kp 0 (by simp)))
        · intro st hlo hhi ac w3 hg hG hd K hK
          dsimp only at hlo hhi hG hK
          have f5 := hd ⟨5, .data⟩ (by simp) rfl _ rfl _ rfl
          (try simp [Act.eval] at f5)
          go_simp
          exact hK _ rfl
        · intro st hlo hhi ac w3 hg hG hd K hK
          dsimp only at hlo hhi hG hK
          have f6 := hd ⟨6, .data⟩ (by simp) rfl _ rfl _ rfl
          (try simp [Act.eval] at f6)
          go_simp
          exact hK _ rfl
        · intro st hlo hhi ac w3 hg hG hd K hK
          dsimp only at hlo hhi hG hK
          obtain rfl : st = 0 := by omega
          obtain rfl := hG.1 rfl
          have kk := k7 2
          simp at kk
          have f7 := hd ⟨7, .data⟩ (by simp) rfl _ rfl _ rfl
          (try simp [Act.eval] at f7)
          go_simp
          exact hK _ rfl
        · intro st hlo hhi ac w3 hg hG hd K hK
          dsimp only at hlo hhi hG hK
          have f8 := hd ⟨8, .data⟩ (by simp) rfl _ rfl _ rfl
          (try simp [Act.eval] at f8)
          go_simp
          exact hK _ rfl
        · intro st hlo hhi ac w3 hg hG hd K hK
          dsimp only at hlo hhi hG hK
          have f9 := hd ⟨9, .data⟩ (by simp) rfl _ rfl _ rfl
          (try simp [Act.eval] at f9)
          go_simp
          exact hK _ rfl
        · intro st hlo hhi ac w3 hg hG hd K hK
          dsimp only at hlo hhi hG hK
          exact op_move _ rfl (hK _ (hg.kp 6 (by simp)))
        · intro ac w3 hg hG hd K hK
          dsimp only [Nat.zero_add, Nat.reduceAdd] at hG hK
          have f4 := hd ⟨4, .data⟩ (by simp) rfl _ rfl _ rfl
          have f10 := hd ⟨10, .data⟩ (by simp) rfl _ rfl _ rfl
          have f11 := hd ⟨11, .data⟩ (by simp) rfl _ rfl _ rfl
          simp [Act.eval] at f4 f10 f11
          obtain rfl := hG.1 rfl
          go_simp
          (refine (wr_root HP7.out (qq : Int) (rootC (q + 1) r) v5 _ HF7.out hqa HN.out HB2b.out).mono ?_)
          rintro e w4 ⟨rfl, hw4⟩
          exact hK (.int .i64 15) w4 trivial (And.intro (fun h => absurd h (by decide)) (And.intro (fun _ => hw4) (fun h => absurd h (by decide)))) rfl
        · intro ac w3 hg hG hd K hK
          dsimp only [Nat.zero_add, Nat.reduceAdd] at hG hK
          have f0 := hd ⟨0, .data⟩ (by simp) rfl _ rfl _ rfl
          have f12 := hd ⟨12, .data⟩ (by simp) rfl _ rfl _ rfl
          have HW1 := hide (hG.2.1 rfl)
          clear hG
          simp [Act.eval] at f0 f12
          go_simp
          (refine (did_root HP7.out HW1.out 15 rfl).mono ?_)
          rintro e w4 ⟨rfl, hw4⟩
          exact hK (.int .i64 15) w4 trivial (And.intro (fun h => absurd h (by decide)) (And.intro (fun h => absurd h (by decide)) (fun _ => hw4))) rfl
        · intro st hlo hhi ac w3 hg hG hd K hK
          dsimp only at hlo hhi hG hK
          exact op_assign _ rfl (hK _ (hd ⟨13, .data⟩ (by simp) rfl _ rfl _ rfl))
      case g0 => exact And.intro (fun _ => rfl) (And.intro (fun h => absurd h (by decide)) (fun h => absurd h (by decide)))
      case fin =>
        intro f w9 hG hall
        have h8 := hall _ (List.mem_of_getElem? (i := 14) rfl) 8 rfl
        obtain ⟨w8, ⟨hf8, F', hs8, hg8⟩, hk9, hg9⟩ := hG.2.2 rfl
        have hnp : ¬ F' pb := fun h => (hg8 pb h).elim HP.out.np (fun h => by have := HP.out.blk.lt; have := HR7.out.size; omega)
        have HS9 := hide (hs8.set_off hg9 hnp)
        have HR9 := hide (show Fr (PF F pb sb) w w9 from HR7.out.trans ((hf8.up (fun _ h => .inl h)).trans (Fr.of_pb hg9) (fun _ _ h => h)) (fun _ _ h => h))
        have HGW := hide (show Grw F w F' from fun j hj => (hg8 j hj).imp id (fun h => Nat.le_trans HR7.out.size h))
        clear hG hall hf8 hs8 hg8 hk9 hg9 k7 q7 z7 hnp
        simp only [fillF, List.map_cons, List.map_nil, List.foldl_cons, List.foldl_nil, Act.put, List.setIfInBounds_toArray, List.set_cons_zero, List.set_cons_succ]
        rw [h8]
        clear h8
        go_wp2
        go_ret
        exact ⟨.inl ⟨burnL_pos (burnO_pos HB2b.out), rfl, F', _, _, _, HS9.out, HGW.out, .inr ⟨rfl, .inl rfl⟩⟩, HR9.out⟩
  · have HB1 := hide hb1
    clear hb1
    go_wp2_with (first | (go_at_call 30; (refine (did_any pb db sb n q root frm 15 w6 HB6.out.1).mono ?_); rintro e w7 ⟨rfl, hk, hg⟩; have HS7 := hide (HB6.out.2.1.set_off hg HP5.out.np); have HR7 := hide (show Fr (PF F pb sb) w w7 from HB6.out.2.2.trans (Fr.of_pb hg) (fun _ _ h => h)); clear hk hg k5 q5 z5) | (go_at_call 33; (refine (sec_bar_burn HP5.out.sec (Nat.le_of_lt HN.out) HB1.out).mono ?_); rintro e w6 ⟨rfl, hs, hf⟩; have HB6 := hide (And.intro (hf.blk HP5.out.blk HP5.out.np) (And.intro hs (show Fr (PF F pb sb) w w6 from (Fr.low HB5.out).trans (hf.up (fun _ h => .inl h)) (fun _ _ h => h)))); clear hs hf) | (go_at_call 32; (refine (put_root0 q r HZ.out A3 c3 w3 HR3.out).mono ?_); rintro e w4 ⟨A4, c4, rfl, hr4, hb⟩; have HR4 := hide hr4; have HB4 := hide (HB3.out.trans (hb.mono HB3.out.size)); clear hb hr4) | (go_at_call 28; (refine (alive_ok HP.out.sec HP.out.blk).mono ?_); rintro e w2 ⟨rfl, hb⟩; have HB2 := hide hb; have k2 := (HP.out.below HB2.out).blk.cell; have q2 := (HP.out.below HB2.out).blk.frozen; have z2 := (HP.out.below HB2.out).blk.lt; unfold pk at k2; clear hb) | (go_at_call 29; (refine (seal_root q r A4 c4 w4 HR4.out).mono ?_); rintro e w5 ⟨v5, rfl, hf, hb⟩; have HF5 := hide hf; have HB5 := hide (HB4.out.trans (hb.mono HB4.out.size)); have HP5 := hide (HP.out.below HB5.out); have k5 := HP5.out.blk.cell; have q5 := HP5.out.blk.frozen; have z5 := HP5.out.blk.lt; unfold pk at k5; clear hb hf k2 q2 z2) | (go_at_call 32; (refine (put_seq q hq w2).mono ?_); rintro e w3 ⟨A3, c3, rfl, hr3, hb⟩; have HR3 := hide hr3; have HB3 := hide (HB2.out.trans (hb.mono HB2.out.size)); clear hb hr3))
    go_ret
    exact ⟨.inl ⟨burnO_pos HB1.out, rfl, F, _, _, _, HS7.out.more (Nat.le_succ _) HN.out, Grw.refl _ _, .inl ⟨rfl, rfl⟩⟩, HR7.out⟩
set_option maxRecDepth 100000 in
set_option maxHeartbeats 2000000 in
theorem flip_page (h : Pg w F pb sb db n left S L N ((q : Nat) : Int) root frm st) (hN : N < 100000) (hq : q + 1 < 4000000000) (r : Nat) (hr : pgB n r = true) (h0 : (st.getD r 0).toNat ≠ 0) (h3 : (st.getD r 0).toNat ≠ 3) :
    Calls Try.prog 11 #[.pointer (some ⟨pb, 0, none⟩), .int .i64 r] w fun e w' => FlipR w F pb sb db n left S L N q frm st r e w' ∧ Fr (PF F pb sb) w w' := by
  have HP := hide h
  have HN := hide hN
  have HPB := hide hr
  have hn := h.hn
  have h4 := h.h4
  have hr2 : 2 ≤ r ∧ r < n := by unfold pgB at hr; simp at hr; omega
  have hrn : r < n := hr2.2
  have hww : IntKind.i64.wrap ((q : Int) + 1) = (q : Int) + 1 := by simp only [IntKind.wrap, IntKind.bits, IntKind.signed]; simp; omega
  have hwq : wrap64 ((q : Int) + 1) = (q : Int) + 1 := by unfold wrap64; omega
  have e0 : ¬ (r : Int) = 0 := by omega
  have e1 : ¬ r = 0 := by omega
  have ef : ((r : Int) == 0) = false := by simp; omega
  have E0R := hide (show (r : Int) = r from rfl)
  have KS := hide (h.cell r hrn)
  obtain ⟨x, hx⟩ : ∃ x, st.getD r 0 = x := ⟨_, rfl⟩
  rw [hx] at KS h0 h3
  have dx0 : ((x.toNat : Int) == 0) = false := by simp; omega
  have dx3 : ((x.toNat : Int) == 3) = false := by simp; omega
  have fx0 : ¬ (x.toNat : Int) = 0 := by omega
  have fx3 : ¬ (x.toNat : Int) = 3 := by omega
  clear h hN hr hx
  go_enter Try.func11, Try.ntmps11
  cases hb1 : burnO false left
  · have HB1 := hide hb1
    clear hb1
    go_wp2_with (first | (go_at_call 30; (refine (did_any pb db sb n q root frm 0 w6 HP6.out.blk).mono ?_); rintro e w7 ⟨rfl, hk, hg⟩; have HP7 := hide (HP6.out.self hg hk HP6.out.hsq HP6.out.hrt HP6.out.hfr); have HG7 := hide hg; have k7 := HP7.out.blk.cell; have q7 := HP7.out.blk.frozen; have z7 := HP7.out.blk.lt; unfold pk at k7; clear hk hg k5 q5 z5) | (go_at_call 33; (refine (sec_bar HP5.out.sec (Nat.le_of_lt HN.out) HB1.out).mono ?_); rintro e w6 ⟨rfl, hs, hf⟩; have HP6 := hide (HP5.out.disk hs hf (Grw.refl _ _)); have HF6 := hide hf; clear hs hf) | (go_at_call 32; (refine (put_root q r (by omega) A3 c3 w3 HR3.out).mono ?_); rintro e w4 ⟨A4, c4, rfl, hr4, hb⟩; have HR4 := hide hr4; have HB4 := hide (HB3.out.trans (hb.mono HB3.out.size)); clear hb hr4) | (go_at_call 27; (refine (page_any pb db sb n q root frm false (r : Int) w1 (HP.out.below HB1a.out).blk).mono ?_); rintro e w2 ⟨rfl, hb⟩; rw [HPB.out]; have HB2 := hide (HB1a.out.trans (hb.mono HB1a.out.size)); have k2 := (HP.out.below HB2.out).blk.cell; have q2 := (HP.out.below HB2.out).blk.frozen; have z2 := (HP.out.below HB2.out).blk.lt; have s2 := (HB2.out.cell (p := ⟨sb, r, none⟩) HP.out.sblk.lt).trans KS.out; have qs2 := (HP.out.below HB2.out).sblk.frozen; have zs2 := (HP.out.below HB2.out).sblk.lt; unfold pk at k2; clear hb) | (go_at_call 28; (refine (alive_ok HP.out.sec HP.out.blk).mono ?_); rintro e w1 ⟨rfl, hb⟩; have HB1a := hide hb; clear hb) | (go_at_call 29; (refine (seal_root q r A4 c4 w4 HR4.out).mono ?_); rintro e w5 ⟨v5, rfl, hf, hb⟩; have HF5 := hide hf; have HB5 := hide (HB4.out.trans (hb.mono HB4.out.size)); have HP5 := hide (HP.out.below HB5.out); have k5 := HP5.out.blk.cell; have q5 := HP5.out.blk.frozen; have z5 := HP5.out.blk.lt; unfold pk at k5; clear hb hf k2 q2 z2 s2 qs2 zs2) | (go_at_call 32; (refine (put_seq q hq w2).mono ?_); rintro e w3 ⟨A3, c3, rfl, hr3, hb⟩; have HR3 := hide hr3; have HB3 := hide (HB2.out.trans (hb.mono HB2.out.size)); clear hb hr3))
    have HR7 := hide (show Fr (PF F pb sb) w w7 from (Fr.low HB5.out).trans ((HF6.out.up (fun _ h => .inl h)).trans (Fr.of_pb HG7.out) (fun _ _ h => h)) (fun _ _ h => h))
    cases hb2 : burnO false (burnL left)
    · have HB2b := hide hb2
      clear hb2
      have HF7 := hide ((HF5.out.fr HF6.out (fun j h1 h2 => by have := HP.out.sec.lt j h2; have := HB4.out.size; omega)).fr (Fr.of_grown (F := fun j => j = pb) HG7.out (fun k e => by injection e with e; exact e.symm)) (fun j h1 h2 => by have := HP.out.blk.lt; have := HB4.out.size; omega))
      obtain ⟨qq, hqq⟩ : ∃ qq : Nat, (q + 1) % 2 = qq := ⟨_, rfl⟩
      have hqm : ((q : Int) + 1).tmod 2 = (qq : Int) := by rw [show ((q : Int) + 1) = ((q + 1 : Nat) : Int) by omega]; exact (Int.ofNat_tmod (q + 1) 2).symm.trans (congrArg _ hqq)
      have hqa : 0 ≤ (qq : Int) ∧ (qq : Int) < (n : Int) := by omega
      have HQQ := hide hqq
      clear hqq
      refine wp_region_stage (by kernel_rfl) (by kernel_rfl) 131 2
        [⟨some 65, false, 0, 1, fun _ v _ => v = .pointer (some ⟨pb, 0, none⟩)⟩,
         ⟨some 66, false, 0, 0, fun _ v _ => v = .pointer (some ⟨pb, 0, none⟩)⟩,
         ⟨some 67, false, 0, 0, fun _ v _ => v = .pointer (some ⟨pb, 0, none⟩)⟩,
         ⟨some 68, false, 0, 0, fun _ v _ => v = .pointer (some ⟨pb, 0, none⟩)⟩,
         ⟨some 69, false, 0, 0, fun _ v _ => v = .pointer (some ⟨db, 0, none⟩)⟩,
         ⟨some 70, false, 0, 0, fun _ v _ => v = .pointer (some ⟨pb, 0, none⟩)⟩,
         ⟨some 71, false, 0, 0, fun _ v _ => v = .pointer (some ⟨pb, 0, none⟩)⟩,
         ⟨some 72, false, 0, 0, fun _ v _ => v = .pointer (some ⟨pb, 2, none⟩)⟩,
         ⟨some 73, false, 0, 0, fun _ v _ => v = .int .i64 (q : Int)⟩,
         ⟨some 74, false, 0, 0, fun _ v _ => v = .int .i64 ((q : Int) + 1)⟩,
         ⟨some 75, false, 0, 0, fun _ v _ => v = .int .i64 (qq : Int)⟩,
         ⟨some 76, false, 0, 0, fun _ v _ => v = v5⟩,
         ⟨some 77, true, 0, 0, fun _ v _ => v = .int .i64 0⟩,
         ⟨some 78, true, 1, 1, fun _ v _ => v = .int .i64 0⟩,
         ⟨some 8, false, 2, 2, fun _ v _ => v = .int .i64 0⟩] (fun s w' => (s = 0 → w' = w7.drew) ∧ (s = 1 → WrS w7 w' F db n false (burnL left) (lastS allT S L) qq (rootC (q + 1) r) N) ∧ (s = 2 → WrD w7 w' F pb sb db n false (burnL left) (lastS allT S L) qq (rootC (q + 1) r) N q root frm)) (fun _ _ _ => True) [65, 66, 67, 68, 69, 70, 71, 72, 73, 74, 75, 76, 77, 78, 8] rfl (by kernel_rfl) rfl ?g0 ?keep ?steps ?fin
      case keep =>
        intro e he s v w w' hm hsM ht hv
        simp only [List.mem_cons, List.not_mem_nil, or_false] at he
        rcases he with rfl | rfl | rfl | rfl | rfl | rfl | rfl | rfl | rfl | rfl | rfl | rfl | rfl | rfl | rfl
        all_goals first | exact hv
      case steps =>
        refine ⟨?_, ?_, ?_, ?_, ?_, ?_, ?_, ?_, ?_, ?_, ?_, ?_, ?_, ?_, ?_, trivial⟩
        · intro st hlo hhi ac w3 hg hG hd K hK
          dsimp only at hlo hhi hG hK
          exact op_move _ rfl (hK _ (hg.kp 0 (by simp)))
        · intro st hlo hhi ac w3 hg hG hd K hK
          dsimp only at hlo hhi hG hK
          exact op_move _ rfl (hK _ (hg.kp 0 (by simp)))
        · intro st hlo hhi ac w3 hg hG hd K hK
          dsimp only at hlo hhi hG hK
          have f1 := hd ⟨1, .data⟩ (by simp) rfl _ rfl _ rfl
          (try simp [Act.eval] at f1)
          go_simp
          exact hK _ rfl
        · intro st hlo hhi ac w3 hg hG hd K hK
          dsimp only at hlo hhi hG hK
          have f2 := hd ⟨2, .data⟩ (by simp) rfl _ rfl _ rfl
          (try simp [Act.eval] at f2)
          go_simp
          exact hK _ rfl
        · intro st hlo hhi ac w3 hg hG hd K hK
          dsimp only at hlo hhi hG hK
          obtain rfl : st = 0 := by omega
          obtain rfl := hG.1 rfl
          have kk := k7 0
          simp at kk
          have f3 := hd ⟨3, .data⟩ (by simp) rfl _ rfl _ rfl
          (try simp [Act.eval] at f3)
          go_simp
          exact hK _ rfl
        · intro st hlo hhi ac w3 hg hG hd K hK
          dsimp only at hlo hhi hG hK
          exact op_move _ rfl (hK _ (hg.kp 0 (by simp)))
        · intro st hlo hhi ac w3 hg hG hd K hK
          dsimp only at hlo hhi hG hK
          have f5 := hd ⟨5, .data⟩ (by simp) rfl _ rfl _ rfl
          (try simp [Act.eval] at f5)
          go_simp
          exact hK _ rfl
        · intro st hlo hhi ac w3 hg hG hd K hK
          dsimp only at hlo hhi hG hK
          have f6 := hd ⟨6, .data⟩ (by simp) rfl _ rfl _ rfl
          (try simp [Act.eval] at f6)
          go_simp
          exact hK _ rfl
        · intro st hlo hhi ac w3 hg hG hd K hK
          dsimp only at hlo hhi hG hK
          obtain rfl : st = 0 := by omega
          obtain rfl := hG.1 rfl
          have kk := k7 2
          simp at kk
          have f7 := hd ⟨7, .data⟩ (by simp) rfl _ rfl _ rfl
          (try simp [Act.eval] at f7)
          go_simp
          exact hK _ rfl
        · intro st hlo hhi ac w3 hg hG hd K hK
          dsimp only at hlo hhi hG hK
          have f8 := hd ⟨8, .data⟩ (by simp) rfl _ rfl _ rfl
          (try simp [Act.eval] at f8)
          go_simp
          exact hK _ rfl
        · intro st hlo hhi ac w3 hg hG hd K hK
          dsimp only at hlo hhi hG hK
          have f9 := hd ⟨9, .data⟩ (by simp) rfl _ rfl _ rfl
          (try simp [Act.eval] at f9)
          go_simp
          exact hK _ rfl
        · intro st hlo hhi ac w3 hg hG hd K hK
          dsimp only at hlo hhi hG hK
          exact op_move _ rfl (hK _ (hg.kp 6 (by simp)))
        · intro ac w3 hg hG hd K hK
          dsimp only [Nat.zero_add, Nat.reduceAdd] at hG hK
          have f4 := hd ⟨4, .data⟩ (by simp) rfl _ rfl _ rfl
          have f10 := hd ⟨10, .data⟩ (by simp) rfl _ rfl _ rfl
          have f11 := hd ⟨11, .data⟩ (by simp) rfl _ rfl _ rfl
          simp [Act.eval] at f4 f10 f11
          obtain rfl := hG.1 rfl
          go_simp
          (refine (wr_root HP7.out (qq : Int) (rootC (q + 1) r) v5 _ HF7.out hqa HN.out HB2b.out).mono ?_)
          rintro e w4 ⟨rfl, hw4⟩
          exact hK (.int .i64 0) w4 trivial (And.intro (fun h => absurd h (by decide)) (And.intro (fun _ => hw4) (fun h => absurd h (by decide)))) rfl
        · intro ac w3 hg hG hd K hK
          dsimp only [Nat.zero_add, Nat.reduceAdd] at hG hK
          have f0 := hd ⟨0, .data⟩ (by simp) rfl _ rfl _ rfl
          have f12 := hd ⟨12, .data⟩ (by simp) rfl _ rfl _ rfl
          have HW1 := hide (hG.2.1 rfl)
          clear hG
          simp [Act.eval] at f0 f12
          go_simp
          (refine (did_root HP7.out HW1.out 0 rfl).mono ?_)
          rintro e w4 ⟨rfl, hw4⟩
          exact hK (.int .i64 0) w4 trivial (And.intro (fun h => absurd h (by decide)) (And.intro (fun h => absurd h (by decide)) (fun _ => hw4))) rfl
        · intro st hlo hhi ac w3 hg hG hd K hK
          dsimp only at hlo hhi hG hK
          exact op_assign _ rfl (hK _ (hd ⟨13, .data⟩ (by simp) rfl _ rfl _ rfl))
      case g0 => exact And.intro (fun _ => rfl) (And.intro (fun h => absurd h (by decide)) (fun h => absurd h (by decide)))
      case fin =>
        intro f w9 hG hall
        have h8 := hall _ (List.mem_of_getElem? (i := 14) rfl) 8 rfl
        obtain ⟨w8, ⟨hf8, F', hs8, hg8⟩, hk9, hg9⟩ := hG.2.2 rfl
        have HP9 := hide ((HP7.out.disk hs8 hf8 hg8).self hg9 hk9 HP7.out.hsq HP7.out.hrt HP7.out.hfr)
        have HR9 := hide (show Fr (PF F pb sb) w w9 from HR7.out.trans ((hf8.up (fun _ h => .inl h)).trans (Fr.of_pb hg9) (fun _ _ h => h)) (fun _ _ h => h))
        have HGW := hide (show Grw F w F' from fun j hj => (hg8 j hj).imp id (fun h => Nat.le_trans HR7.out.size h))
        have k9 := HP9.out.blk.cell
        have q9 := HP9.out.blk.frozen
        have z9 := HP9.out.blk.lt
        unfold pk at k9
        clear hG hall hf8 hs8 hg8 hk9 hg9 k7 q7 z7
        simp only [fillF, List.map_cons, List.map_nil, List.foldl_cons, List.foldl_nil, Act.put, List.setIfInBounds_toArray, List.set_cons_zero, List.set_cons_succ]
        rw [h8]
        clear h8
        cases hb3 : burnO false (burnL (burnL left))
        · have HB3b := hide hb3
          clear hb3
          go_wp2_with (first | (go_at_call 30; (refine (did_any pb db sb n q root frm 0 w10 HP10.out.blk).mono ?_); rintro e w11 ⟨rfl, hk, hg⟩; have HP11 := hide (HP10.out.self hg hk HP10.out.hsq HP10.out.hrt HP10.out.hfr); have HR11 := hide (show Fr (PF F pb sb) w w11 from HR10.out.trans (Fr.of_pb hg) (fun _ _ h => h)); have k11 := HP11.out.blk.cell; have q11 := HP11.out.blk.frozen; have z11 := HP11.out.blk.lt; have HB12 := hide (HP11.out.blk.set_ 2 (.int .i64 ((q : Int) + 1))); have k12 := HB12.out.cell; have q12 := HB12.out.frozen; have z12 := HB12.out.lt; have HB13 := hide (HB12.out.set_ 3 (.int .i64 (r : Int))); have k13 := HB13.out.cell; have q13 := HB13.out.frozen; have z13 := HB13.out.lt; unfold pk at k11 k12 k13; clear hk hg k9 q9 z9) | (go_at_call 33; (refine (sec_bar HP9.out.sec HN.out HB3b.out).mono ?_); rintro e w10 ⟨rfl, hs, hf⟩; have HP10 := hide (HP9.out.disk hs hf (Grw.refl _ _)); have HR10 := hide (show Fr (PF F pb sb) w w10 from HR9.out.trans (F' := PF F' pb sb) (hf.up (fun _ h => .inl h)) (fun j hj h => h.imp (fun h => (HGW.out j h).elim id (fun h => by omega)) id)); clear hs hf))
          obtain ⟨W, hW⟩ : ∃ W, ((w11.setCell ⟨pb, 2, none⟩ (.int .i64 ((q : Int) + 1))).setCell ⟨pb, 3, none⟩ (.int .i64 (r : Int))) = W := ⟨_, rfl⟩
          have HPW := hide (show Pg W F' pb sb db n (burnL (burnL (burnL left))) (lastS allT (lastS allT S L) [((qq : Int), rootC (q + 1) r)]) [] (N + 1) ((q : Int) + 1) (r : Int) frm st from by
            have hg : w11.grownBy W (some pb) := by
              rw [← hW]
              exact ⟨rfl, rfl, rfl, by simp, fun j hj hne => (Below.heap_setCell _ _ _ _ (fun e => hne (by rw [e]))).trans (Below.heap_setCell _ _ _ _ (fun e => hne (by rw [e])))⟩
            refine HP11.out.self hg ?_ (by omega) (by omega) HP11.out.hfr
            have hB := HB13.out
            rw [hW] at hB
            have ep : pk db sb n ((q : Int) + 1) (r : Int) frm false = pk db sb n ((q : Int) + 1) (r : Int) frm false := by first | rfl | rw [E0R.out]
            rw [← ep]
            exact hB)
          have HRW := hide (show Fr (PF F pb sb) w W from by
            rw [← hW]
            exact HR11.out.trans ((Fr.of_pb (gby_set _ _ _ _)).trans (Fr.of_pb (gby_set _ _ _ _)) (fun _ _ h => h)) (fun _ _ h => h))
          rw [hW]
          clear hW k11 q11 z11 k12 q12 z12 k13 q13 z13 HB12 HB13
          obtain ⟨LL, hLL⟩ : ∃ LL, burnL (burnL (burnL left)) = LL := ⟨_, rfl⟩
          obtain ⟨SS, hSS⟩ : ∃ SS, lastS allT (lastS allT S L) [((qq : Int), rootC (q + 1) r)] = SS := ⟨_, rfl⟩
          rw [hLL, hSS] at HPW
          have HLS := hide (And.intro hLL hSS)
          have HSL := hide HPW.out.len
          have HI0 := hide (show Pg W F' pb sb db n LL SS [] (N + 1) ((q : Int) + 1) (r : Int) frm (mixF st 0) ∧ Fr (fun j => j = sb) W W from ⟨by rw [mix_zero]; exact HPW.out, Fr.refl _ _⟩)
          clear hLL hSS HPW HP11 HP10 HR11 HR10 HP9 HR9
          go_loopw [108] (fun i wr => ∃ k : Nat, k ≤ n ∧ i = .int .i64 k ∧ Hid (Pg wr F' pb sb db n LL SS [] (N + 1) ((q : Int) + 1) (r : Int) frm (mixF st k) ∧ Fr (fun j => j = sb) W wr)) (fun i _ => n - (intOf i).toNat)
          case atStart => exact ⟨0, by omega, rfl, HI0⟩
          case round =>
            obtain ⟨k, hk, rfl, HI⟩ := hrel
            by_cases hlt : k < n
            · have hks : k < st.length := by rw [HSL.out]; exact hlt
              have kp := HI.out.1.blk.cell
              have qp := HI.out.1.blk.frozen
              have zp := HI.out.1.blk.lt
              have ks := HI.out.1.cell k hlt
              have qs := HI.out.1.sblk.frozen
              have zs := HI.out.1.sblk.lt
              rw [mix_at st hks] at ks
              have HMS := hide (mix_succ st hks)
              have HMA := hide (mix_at st hks)
              obtain ⟨x, hx⟩ : ∃ x, st[k]'hks = x := ⟨_, rfl⟩
              rw [hx] at ks HMS HMA
              unfold pk at kp
              clear hx
              cases hd : (x.toNat == 1)
              · have d1 : ((x.toNat : Int) == 1) = false := by simp at hd ⊢; omega
                have HD := hide hd
                clear hd
                cases hd : (x.toNat == 3)
                · have d2 : ((x.toNat : Int) == 3) = false := by simp at hd ⊢; omega
                  have HD2 := hide hd
                  clear hd
                  go_wp2
                  go_roundw
                  case rel => exact ⟨k + 1, by omega, by go_num, hide ⟨by
                    rw [HMS.out, show flipU x = x by unfold flipU; rw [HD.out, HD2.out]; rfl, ← HMA.out, set_same]
                    exact HI.out.1, HI.out.2⟩⟩
                  case measure => simp [intOf]; omega
                · have d2 : ((x.toNat : Int) == 3) = true := by simp at hd ⊢; omega
                  have HD2 := hide hd
                  clear hd
                  go_wp2
                  go_roundw
                  case rel => exact ⟨k + 1, by omega, by go_num, hide ⟨by
                    rw [HMS.out, show flipU x = 0 by unfold flipU; rw [HD.out, HD2.out]; rfl]
                    exact HI.out.1.stored k 0, HI.out.2.trans (Fr.of_grown (F := fun j => j = sb) (gby_set _ sb _ _) (fun k e => by injection e with e; exact e.symm)) (fun _ _ h => h)⟩⟩
                  case measure => simp [intOf]; omega
              · have d1 : ((x.toNat : Int) == 1) = true := by simp at hd ⊢; omega
                have HD := hide hd
                clear hd
                go_wp2
                go_roundw
                case rel => exact ⟨k + 1, by omega, by go_num, hide ⟨by
                  rw [HMS.out, show flipU x = 2 by unfold flipU; rw [HD.out]; rfl]
                  exact HI.out.1.stored k 2, HI.out.2.trans (Fr.of_grown (F := fun j => j = sb) (gby_set _ sb _ _) (fun k e => by injection e with e; exact e.symm)) (fun _ _ h => h)⟩⟩
                case measure => simp [intOf]; omega
            · have e : k = n := by omega
              subst e
              go_wp2
              go_ret
              refine ⟨.inr ⟨rfl, F', ?_, HGW.out⟩, HRW.out.trans (HI.out.2.up (fun _ h => .inr (.inr h))) (fun _ _ h => h)⟩
              have := HI.out.1
              rw [mix_all st (by rw [HSL.out]; exact Nat.le_refl _), ← HLS.out.1, ← HLS.out.2, ← HQQ.out] at this
              exact this
        · have HB3b := hide hb3
          clear hb3
          go_wp2_with (first | (go_at_call 30; (refine (did_any pb db sb n q root frm 15 w10 HB10.out.1).mono ?_); rintro e w11 ⟨rfl, hk, hg⟩; have HS11 := hide (HB10.out.2.1.set_off hg HP9.out.np); have HR11 := hide (show Fr (PF F pb sb) w w11 from HB10.out.2.2.trans (Fr.of_pb hg) (fun _ _ h => h)); clear hk hg k9 q9 z9) | (go_at_call 33; (refine (sec_bar_burn HP9.out.sec HN.out HB3b.out).mono ?_); rintro e w10 ⟨rfl, hs, hf⟩; have HB10 := hide (And.intro (hf.blk HP9.out.blk HP9.out.np) (And.intro hs (show Fr (PF F pb sb) w w10 from HR9.out.trans (F' := PF F' pb sb) (hf.up (fun _ h => .inl h)) (fun j hj h => h.imp (fun h => (HGW.out j h).elim id (fun h => by omega)) id)))); clear hs hf))
          go_ret
          refine ⟨.inl ⟨burnL_pos (burnL_pos (burnO_pos HB3b.out)), rfl, F', _, _, _, HS11.out, HGW.out, .inr ⟨rfl, .inr ?_⟩⟩, HR11.out⟩
          rw [HQQ.out]
          rfl
    · have HB2b := hide hb2
      clear hb2
      have HF7 := hide ((HF5.out.fr HF6.out (fun j h1 h2 => by have := HP.out.sec.lt j h2; have := HB4.out.size; omega)).fr (Fr.of_grown (F := fun j => j = pb) HG7.out (fun k e => by injection e with e; exact e.symm)) (fun j h1 h2 => by have := HP.out.blk.lt; have := HB4.out.size; omega))
      obtain ⟨qq, hqq⟩ : ∃ qq : Nat, (q + 1) % 2 = qq := ⟨_, rfl⟩
      have hqm : ((q : Int) + 1).tmod 2 = (qq : Int) := by rw [show ((q : Int) + 1) = ((q + 1 : Nat) : Int) by omega]; exact (Int.ofNat_tmod (q + 1) 2).symm.trans (congrArg _ hqq)
      have hqa : 0 ≤ (qq : Int) ∧ (qq : Int) < (n : Int) := by omega
      have HQQ := hide hqq
      clear hqq
      refine wp_region_stage (by kernel_rfl) (by kernel_rfl) 131 2
        [⟨some 65, false, 0, 1, fun _ v _ => v = .pointer (some ⟨pb, 0, none⟩)⟩,
         ⟨some 66, false, 0, 0, fun _ v _ => v = .pointer (some ⟨pb, 0, none⟩)⟩,
         ⟨some 67, false, 0, 0, fun _ v _ => v = .pointer (some ⟨pb, 0, none⟩)⟩,
         ⟨some 68, false, 0, 0, fun _ v _ => v = .pointer (some ⟨pb, 0, none⟩)⟩,
         ⟨some 69, false, 0, 0, fun _ v _ => v = .pointer (some ⟨db, 0, none⟩)⟩,
         ⟨some 70, false, 0, 0, fun _ v _ => v = .pointer (some ⟨pb, 0, none⟩)⟩,
         ⟨some 71, false, 0, 0, fun _ v _ => v = .pointer (some ⟨pb, 0, none⟩)⟩,
         ⟨some 72, false, 0, 0, fun _ v _ => v = .pointer (some ⟨pb, 2, none⟩)⟩,
         ⟨some 73, false, 0, 0, fun _ v _ => v = .int .i64 (q : Int)⟩,
         ⟨some 74, false, 0, 0, fun _ v _ => v = .int .i64 ((q : Int) + 1)⟩,
         ⟨some 75, false, 0, 0, fun _ v _ => v = .int .i64 (qq : Int)⟩,
         ⟨some 76, false, 0, 0, fun _ v _ => v = v5⟩,
         ⟨some 77, true, 0, 0, fun _ v _ => v = .int .i64 15⟩,
         ⟨some 78, true, 1, 1, fun _ v _ => v = .int .i64 15⟩,
         ⟨some 8, false, 2, 2, fun _ v _ => v = .int .i64 15⟩] (fun s w' => (s = 0 → w' = w7.drew) ∧ (s = 1 → WrS w7 w' F db n true (burnL left) (lastS allT S L) qq (rootC (q + 1) r) N) ∧ (s = 2 → WrD w7 w' F pb sb db n true (burnL left) (lastS allT S L) qq (rootC (q + 1) r) N q root frm)) (fun _ _ _ => True) [65, 66, 67, 68, 69, 70, 71, 72, 73, 74, 75, 76, 77, 78, 8] rfl (by kernel_rfl) rfl ?g0 ?keep ?steps ?fin
      case keep =>
        intro e he s v w w' hm hsM ht hv
        simp only [List.mem_cons, List.not_mem_nil, or_false] at he
        rcases he with rfl | rfl | rfl | rfl | rfl | rfl | rfl | rfl | rfl | rfl | rfl | rfl | rfl | rfl | rfl
        all_goals first | exact hv
      case steps =>
        refine ⟨?_, ?_, ?_, ?_, ?_, ?_, ?_, ?_, ?_, ?_, ?_, ?_, ?_, ?_, ?_, trivial⟩
        · intro st hlo hhi ac w3 hg hG hd K hK
          dsimp only at hlo hhi hG hK
          exact op_move _ rfl (hK _ (hg.kp 0 (by simp)))
        · intro st hlo hhi ac w3 hg hG hd K hK
          dsimp only at hlo hhi hG hK
          exact op_move _ rfl (hK _ (hg.kp 0 (by simp)))
        · intro st hlo hhi ac w3 hg hG hd K hK
          dsimp only at hlo hhi hG hK
          have f1 := hd ⟨1, .data⟩ (by simp) rfl _ rfl _ rfl
          (try simp [Act.eval] at f1)
          go_simp
          exact hK _ rfl
        · intro st hlo hhi ac w3 hg hG hd K hK
          dsimp only at hlo hhi hG hK
          have f2 := hd ⟨2, .data⟩ (by simp) rfl _ rfl _ rfl
          (try simp [Act.eval] at f2)
          go_simp
          exact hK _ rfl
        · intro st hlo hhi ac w3 hg hG hd K hK
          dsimp only at hlo hhi hG hK
          obtain rfl : st = 0 := by omega
          obtain rfl := hG.1 rfl
          have kk := k7 0
          simp at kk
          have f3 := hd ⟨3, .data⟩ (by simp) rfl _ rfl _ rfl
          (try simp [Act.eval] at f3)
          go_simp
          exact hK _ rfl
        · intro st hlo hhi ac w3 hg hG hd K hK
          dsimp only at hlo hhi hG hK
          exact op_move _ rfl (hK _ (hg.kp 0 (by simp)))
        · intro st hlo hhi ac w3 hg hG hd K hK
          dsimp only at hlo hhi hG hK
          have f5 := hd ⟨5, .data⟩ (by simp) rfl _ rfl _ rfl
          (try simp [Act.eval] at f5)
          go_simp
          exact hK _ rfl
        · intro st hlo hhi ac w3 hg hG hd K hK
          dsimp only at hlo hhi hG hK
          have f6 := hd ⟨6, .data⟩ (by simp) rfl _ rfl _ rfl
          (try simp [Act.eval] at f6)
          go_simp
          exact hK _ rfl
        · intro st hlo hhi ac w3 hg hG hd K hK
          dsimp only at hlo hhi hG hK
          obtain rfl : st = 0 := by omega
          obtain rfl := hG.1 rfl
          have kk := k7 2
          simp at kk
          have f7 := hd ⟨7, .data⟩ (by simp) rfl _ rfl _ rfl
          (try simp [Act.eval] at f7)
          go_simp
          exact hK _ rfl
        · intro st hlo hhi ac w3 hg hG hd K hK
          dsimp only at hlo hhi hG hK
          have f8 := hd ⟨8, .data⟩ (by simp) rfl _ rfl _ rfl
          (try simp [Act.eval] at f8)
          go_simp
          exact hK _ rfl
        · intro st hlo hhi ac w3 hg hG hd K hK
          dsimp only at hlo hhi hG hK
          have f9 := hd ⟨9, .data⟩ (by simp) rfl _ rfl _ rfl
          (try simp [Act.eval] at f9)
          go_simp
          exact hK _ rfl
        · intro st hlo hhi ac w3 hg hG hd K hK
          dsimp only at hlo hhi hG hK
          exact op_move _ rfl (hK _ (hg.kp 6 (by simp)))
        · intro ac w3 hg hG hd K hK
          dsimp only [Nat.zero_add, Nat.reduceAdd] at hG hK
          have f4 := hd ⟨4, .data⟩ (by simp) rfl _ rfl _ rfl
          have f10 := hd ⟨10, .data⟩ (by simp) rfl _ rfl _ rfl
          have f11 := hd ⟨11, .data⟩ (by simp) rfl _ rfl _ rfl
          simp [Act.eval] at f4 f10 f11
          obtain rfl := hG.1 rfl
          go_simp
          (refine (wr_root HP7.out (qq : Int) (rootC (q + 1) r) v5 _ HF7.out hqa HN.out HB2b.out).mono ?_)
          rintro e w4 ⟨rfl, hw4⟩
          exact hK (.int .i64 15) w4 trivial (And.intro (fun h => absurd h (by decide)) (And.intro (fun _ => hw4) (fun h => absurd h (by decide)))) rfl
        · intro ac w3 hg hG hd K hK
          dsimp only [Nat.zero_add, Nat.reduceAdd] at hG hK
          have f0 := hd ⟨0, .data⟩ (by simp) rfl _ rfl _ rfl
          have f12 := hd ⟨12, .data⟩ (by simp) rfl _ rfl _ rfl
          have HW1 := hide (hG.2.1 rfl)
          clear hG
          simp [Act.eval] at f0 f12
          go_simp
          (refine (did_root HP7.out HW1.out 15 rfl).mono ?_)
          rintro e w4 ⟨rfl, hw4⟩
          exact hK (.int .i64 15) w4 trivial (And.intro (fun h => absurd h (by decide)) (And.intro (fun h => absurd h (by decide)) (fun _ => hw4))) rfl
        · intro st hlo hhi ac w3 hg hG hd K hK
          dsimp only at hlo hhi hG hK
          exact op_assign _ rfl (hK _ (hd ⟨13, .data⟩ (by simp) rfl _ rfl _ rfl))
      case g0 => exact And.intro (fun _ => rfl) (And.intro (fun h => absurd h (by decide)) (fun h => absurd h (by decide)))
      case fin =>
        intro f w9 hG hall
        have h8 := hall _ (List.mem_of_getElem? (i := 14) rfl) 8 rfl
        obtain ⟨w8, ⟨hf8, F', hs8, hg8⟩, hk9, hg9⟩ := hG.2.2 rfl
        have hnp : ¬ F' pb := fun h => (hg8 pb h).elim HP.out.np (fun h => by have := HP.out.blk.lt; have := HR7.out.size; omega)
        have HS9 := hide (hs8.set_off hg9 hnp)
        have HR9 := hide (show Fr (PF F pb sb) w w9 from HR7.out.trans ((hf8.up (fun _ h => .inl h)).trans (Fr.of_pb hg9) (fun _ _ h => h)) (fun _ _ h => h))
        have HGW := hide (show Grw F w F' from fun j hj => (hg8 j hj).imp id (fun h => Nat.le_trans HR7.out.size h))
        clear hG hall hf8 hs8 hg8 hk9 hg9 k7 q7 z7 hnp
        simp only [fillF, List.map_cons, List.map_nil, List.foldl_cons, List.foldl_nil, Act.put, List.setIfInBounds_toArray, List.set_cons_zero, List.set_cons_succ]
        rw [h8]
        clear h8
        go_wp2
        go_ret
        exact ⟨.inl ⟨burnL_pos (burnO_pos HB2b.out), rfl, F', _, _, _, HS9.out, HGW.out, .inr ⟨rfl, .inl rfl⟩⟩, HR9.out⟩
  · have HB1 := hide hb1
    clear hb1
    go_wp2_with (first | (go_at_call 30; (refine (did_any pb db sb n q root frm 15 w6 HB6.out.1).mono ?_); rintro e w7 ⟨rfl, hk, hg⟩; have HS7 := hide (HB6.out.2.1.set_off hg HP5.out.np); have HR7 := hide (show Fr (PF F pb sb) w w7 from HB6.out.2.2.trans (Fr.of_pb hg) (fun _ _ h => h)); clear hk hg k5 q5 z5) | (go_at_call 33; (refine (sec_bar_burn HP5.out.sec (Nat.le_of_lt HN.out) HB1.out).mono ?_); rintro e w6 ⟨rfl, hs, hf⟩; have HB6 := hide (And.intro (hf.blk HP5.out.blk HP5.out.np) (And.intro hs (show Fr (PF F pb sb) w w6 from (Fr.low HB5.out).trans (hf.up (fun _ h => .inl h)) (fun _ _ h => h)))); clear hs hf) | (go_at_call 32; (refine (put_root q r (by omega) A3 c3 w3 HR3.out).mono ?_); rintro e w4 ⟨A4, c4, rfl, hr4, hb⟩; have HR4 := hide hr4; have HB4 := hide (HB3.out.trans (hb.mono HB3.out.size)); clear hb hr4) | (go_at_call 27; (refine (page_any pb db sb n q root frm false (r : Int) w1 (HP.out.below HB1a.out).blk).mono ?_); rintro e w2 ⟨rfl, hb⟩; rw [HPB.out]; have HB2 := hide (HB1a.out.trans (hb.mono HB1a.out.size)); have k2 := (HP.out.below HB2.out).blk.cell; have q2 := (HP.out.below HB2.out).blk.frozen; have z2 := (HP.out.below HB2.out).blk.lt; have s2 := (HB2.out.cell (p := ⟨sb, r, none⟩) HP.out.sblk.lt).trans KS.out; have qs2 := (HP.out.below HB2.out).sblk.frozen; have zs2 := (HP.out.below HB2.out).sblk.lt; unfold pk at k2; clear hb) | (go_at_call 28; (refine (alive_ok HP.out.sec HP.out.blk).mono ?_); rintro e w1 ⟨rfl, hb⟩; have HB1a := hide hb; clear hb) | (go_at_call 29; (refine (seal_root q r A4 c4 w4 HR4.out).mono ?_); rintro e w5 ⟨v5, rfl, hf, hb⟩; have HF5 := hide hf; have HB5 := hide (HB4.out.trans (hb.mono HB4.out.size)); have HP5 := hide (HP.out.below HB5.out); have k5 := HP5.out.blk.cell; have q5 := HP5.out.blk.frozen; have z5 := HP5.out.blk.lt; unfold pk at k5; clear hb hf k2 q2 z2 s2 qs2 zs2) | (go_at_call 32; (refine (put_seq q hq w2).mono ?_); rintro e w3 ⟨A3, c3, rfl, hr3, hb⟩; have HR3 := hide hr3; have HB3 := hide (HB2.out.trans (hb.mono HB2.out.size)); clear hb hr3))
    go_ret
    exact ⟨.inl ⟨burnO_pos HB1.out, rfl, F, _, _, _, HS7.out.more (Nat.le_succ _) HN.out, Grw.refl _ _, .inl ⟨rfl, rfl⟩⟩, HR7.out⟩
theorem pflip_any (h : Pg w F pb sb db n left S L N ((q : Nat) : Int) root frm st) (hN : N < 100000) (hq : q + 1 < 4000000000) (r : Nat) (hok : rootOk n st r = true) :
    Calls Try.prog 11 #[.pointer (some ⟨pb, 0, none⟩), .int .i64 r] w fun e w' => FlipR w F pb sb db n left S L N q frm st r e w' ∧ Fr (PF F pb sb) w w' := by
  by_cases h0 : r = 0
  · exact flip_zero h hN hq r h0
  · unfold rootOk at hok
    have e : (r == 0) = false := by simpa using h0
    rw [e] at hok
    simp only [Bool.false_or, Bool.and_eq_true, Bool.not_eq_true', beq_eq_false_iff_ne] at hok
    exact flip_page h hN hq r hok.1.1 hok.1.2 hok.2
end
end Go.Proofs.Ytddcmockdomonaa
