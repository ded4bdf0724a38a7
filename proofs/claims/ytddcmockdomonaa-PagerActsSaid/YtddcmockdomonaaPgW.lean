/- The pager: New. -/
import Derived.Test.YtddcmockdomonaaPgV
namespace Go.Proofs.Ytddcmockdomonaa
set_option linter.unusedSimpArgs false
set_option linter.unusedVariables false
open Go.RowKit
section
variable {w w' : World} {F : Nat → Prop} {pb sb db n : Nat} {left : Int} {S : Int → Cn} {L : List (Int × Cn)} {N : Nat} {seq root frm : Int} {st : Cn}
theorem sec_wr {size : Int} {b : Nat} (h : Sec w F b false left size S L N) (at_ : Int) (c : Cn) (v : Value) (G : Nat → Prop) (hv : Fil w G v c) (ha : 0 ≤ at_ ∧ at_ < size) (hN : N < 100000) :
    Calls Try.prog 31 #[.pointer (some ⟨b, 0, none⟩), .int .i64 at_, v] w fun e w' => e = .returned (.int .i64 (if burnO false left then 15 else 0)) ∧
      (∃ F', Sec w' F' b (burnO false left) (burnL left) size S (if burnO false left then L else L ++ [(at_, c)]) (N + 1) ∧ ∀ j, F' j → F j ∨ w.heap.size ≤ j) ∧ Fr F w w' := by
  obtain ⟨_, g, cap, cs, rfl, _⟩ := id hv
  refine (sec_write h at_ c g 512 cap G (fun _ => hv) hN).mono ?_
  have hf : faultE false size at_ = 0 := by unfold faultE; simp; omega
  rintro e w' ⟨rfl, ⟨F', h1, h2⟩, h3⟩
  unfold wrE
  unfold wrOut wrLeft wrL wrDo at h1
  rw [hf] at *
  cases hb : burnO false left <;> rw [hb] at h1 <;> exact ⟨rfl, ⟨F', h1, h2⟩, h3⟩
theorem Sec.wlt {size : Int} {b : Nat} {out : Bool} (h : Sec w F b out left size S L N) : b < w.heap.size := h.lt _ h.fb
/-- Where the pager looks at its k-th look. -/
def atN (n : Nat) (frm : Int) (k : Nat) : Nat := 2 + (frm.toNat + k) % (n - 2)
def isFree (st : Cn) (a : Nat) : Prop := ∃ h : a < st.length, st[a].toNat = 0
/-- What a disk holds is what it held, or new. -/
def Grw (F : Nat → Prop) (w : World) (F' : Nat → Prop) : Prop := ∀ j, F' j → F j ∨ w.heap.size ≤ j
/-- What New does. -/
def NewR (w : World) (F : Nat → Prop) (pb sb db n : Nat) (left : Int) (S : Int → Cn) (L : List (Int × Cn)) (N : Nat) (seq root frm : Int) (st : Cn) (d : Cn) (e : Ending) (w' : World) : Prop :=
  (e = .returned (.tuple #[.int .i64 0, .int .i64 16]) ∧ (∀ a, 2 ≤ a → ¬ isFree st a) ∧ Pg w' F pb sb db n left S L N seq root frm st) ∨
  ∃ a : Nat, 2 ≤ a ∧ a < n ∧ isFree st a ∧
    ((burnO false left = true ∧ e = .returned (.tuple #[.int .i64 0, .int .i64 15]) ∧ ∃ F', Sec w' F' db true (burnL left) (n : Int) S L (N + 1) ∧ Grw F w F') ∨
     (burnO false left = false ∧ e = .returned (.tuple #[.int .i64 a, .int .i64 0]) ∧ ∃ F', Pg w' F' pb sb db n (burnL left) S (L ++ [((a : Int), sealC 2 d)]) (N + 1) seq root ((a : Int) - 1) (st.set a 1) ∧ Grw F w F'))
theorem at_all {n : Nat} {frm : Int} {st : Cn} (hn : 4 ≤ n) (hl : st.length = n) (h : ∀ k, k < n - 2 → ¬ isFree st (atN n frm k)) (a : Nat) (ha : 2 ≤ a) : ¬ isFree st a := by
  intro hf
  have h1 : a < n := by obtain ⟨h, _⟩ := hf; omega
  obtain ⟨m, hm⟩ : ∃ m, n - 2 = m := ⟨_, rfl⟩
  obtain ⟨f, hf'⟩ : ∃ f, frm.toNat = f := ⟨_, rfl⟩
  have hm0 : 0 < m := by omega
  refine h ((a - 2 + (m - f % m)) % m) (by rw [hm]; exact Nat.mod_lt _ hm0) ?_
  have : atN n frm ((a - 2 + (m - f % m)) % m) = a := by
    unfold atN
    rw [hm, hf', Nat.add_mod, Nat.mod_mod, ← Nat.add_mod]
    have h2 := Nat.mod_add_div f m
    have h3 := Nat.mod_lt f hm0
    obtain ⟨q, hq⟩ : ∃ q, m * (f / m) = m * q := ⟨_, rfl⟩
    have : f + (a - 2 + (m - f % m)) = (a - 2) + m * (q + 1) := by rw [Nat.mul_add, ← hq]; omega
    rw [this, Nat.add_mul_mod_self_left, Nat.mod_eq_of_lt (by omega)]
    omega
  rw [this]
  exact hf
theorem pnew_large (h : Pg w F pb sb db n left S L N seq root frm st) (A : Option Addr) (m c : Nat) (hm : 505 < m) :
    Calls Try.prog 10 #[.pointer (some ⟨pb, 0, none⟩), .slice A m c] w fun e w' => e = .returned (.tuple #[.int .i64 0, .int .i64 12]) ∧ Below w.heap.size w w' := by
  have HP := hide h
  clear h
  go_enter Try.func10, Try.ntmps10
  go_wp2_with (first | (go_at_call 29; (refine (seal_large A m c 2 w1 hm (by omega)).mono ?_); rintro e w2 ⟨rfl, hb⟩; have HB2 := hide (HB1.out.trans (hb.mono HB1.out.size)); clear hb) | (go_at_call 28; (refine (alive_ok HP.out.sec HP.out.blk).mono ?_); rintro e w1 ⟨rfl, hb⟩; have HB1 := hide hb; clear hb))
  refine bodyPost_ret (v := .tuple #[.int .i64 0, .int .i64 12]) (by simp [results, Try.results10, go_sem]) rfl ⟨rfl, HB2.out⟩
theorem pnew_nil (w : World) (v : Value) :
    Calls Try.prog 10 #[.pointer none, v] w fun e w' => e = .returned (.tuple #[.int .i64 0, .int .i64 1]) ∧ Below w.heap.size w w' := by
  go_enter Try.func10, Try.ntmps10
  go_wp2_with (go_at_call 28; (refine (alive_nil w).mono ?_); rintro e w1 ⟨rfl, hb⟩; have HB1 := hide hb; clear hb)
  refine bodyPost_ret (v := .tuple #[.int .i64 0, .int .i64 1]) (by simp [results, Try.results10, go_sem]) rfl ⟨rfl, HB1.out⟩
theorem Fr.up {F F' : Nat → Prop} {w w' : World} (h : Fr F w w') (hF : ∀ j, F j → F' j) : Fr F' w w' := ⟨h.os, h.tape, h.output, h.size, fun j hj hn => h.block j hj (fun h => hn (hF j h))⟩
theorem cs8_set (l : Cn) (i : Nat) (x : UInt8) : (cs8 l).toArray.setIfInBounds i (u8v x) = (cs8 (l.set i x)).toArray := by
  apply Array.ext'
  rw [Array.toList_setIfInBounds]
  unfold cs8
  simp [List.map_set]
theorem Fr.blk {F : Nat → Prop} {w w' : World} {g : Nat} {t : TypeId} {cs : Array Value} (h : Fr F w w') (hb : Blk w g t cs) (hn : ¬ F g) : Blk w' g t cs := (h.block g hb.lt hn).trans hb
set_option maxRecDepth 100000 in
set_option maxHeartbeats 1000000 in
theorem pnew_any (h : Pg w F pb sb db n left S L N seq root frm st) (A : Option Addr) (m c : Nat) (d : Cn) (hr : RB w w.heap.size A m d) (hm : m ≤ 505) (hN : N < 100000) :
    Calls Try.prog 10 #[.pointer (some ⟨pb, 0, none⟩), .slice A m c] w fun e w' => NewR w F pb sb db n left S L N seq root frm st d e w' ∧ Fr (PF F pb sb) w w' := by
  have HP := hide h
  have HR := hide hr
  have HNN := hide hN
  have HDL := hide (show d.length ≤ 505 by rw [hr.len]; exact hm)
  have HH := hide h.hn
  have HH4 := hide h.h4
  have hfr := h.hfr
  obtain ⟨f, hf⟩ : ∃ f : Nat, frm = f := ⟨frm.toNat, by omega⟩
  subst hf
  have hf1 : f < 65536 := by have := h.hn; omega
  have hn2 := h.hn
  have hn4 := h.h4
  clear h hr hN hfr
  go_enter Try.func10, Try.ntmps10
  go_wp2_with (first | (go_at_call 29; (refine (seal_ok A m c d 2 w1 ((HR.out.below HB1.out).more HB1.out.size) hm (by omega)).mono ?_); rintro e w2 ⟨v2, rfl, ho, hb⟩; have HB2 := hide (HB1.out.trans (hb.mono HB1.out.size)); have HF2 := hide (Fil.of_row (F := fun j => w1.heap.size ≤ j) ho (sealC_len 2 HDL.out) (fun _ h _ => h)); have k2 := (HP.out.below HB2.out).blk.cell; have q2 := (HP.out.below HB2.out).blk.frozen; have z2 := (HP.out.below HB2.out).blk.lt; unfold pk at k2; clear hb ho) | (go_at_call 28; (refine (alive_ok HP.out.sec HP.out.blk).mono ?_); rintro e w1 ⟨rfl, hb⟩; have HB1 := hide hb; clear hb))
  have HI0 := hide (And.intro (HP.out.below HB2.out) (And.intro HF2.out HB2.out))
  clear k2 q2 z2
  go_loopw [33] (fun i wr => ∃ k : Nat, k ≤ n - 2 ∧ i = .int .i64 k ∧ Hid (Pg wr F pb sb db n left S L N seq root f st ∧ Fil wr (fun j => w1.heap.size ≤ j) v2 (sealC 2 d) ∧ Below w.heap.size w wr) ∧ Hid (∀ k', k' < k → ¬ isFree st (atN n f k'))) (fun i _ => n - 2 - (intOf i).toNat)
  case atStart => exact ⟨0, by omega, rfl, HI0, hide (fun k' h => by omega)⟩
  case round =>
    obtain ⟨k, hk, rfl, HI, HA⟩ := hrel
    by_cases hlt : k < n - 2
    · have kx := HI.out.1.blk.cell
      have qx := HI.out.1.blk.frozen
      have zx := HI.out.1.blk.lt
      unfold pk at kx
      obtain ⟨a, ha⟩ : ∃ a, atN n f k = a := ⟨_, rfl⟩
      have ha2 : 2 ≤ a ∧ a < n := by
        rw [← ha]; unfold atN
        have := Nat.mod_lt ((f : Int).toNat + k) (show 0 < n - 2 by omega)
        omega
      have hw : wrap64 (2 + ((f : Int) + (k : Int)) % ((n : Int) - 2)) = (a : Int) := by
        have h1 : ((n : Int) - 2) = ((n - 2 : Nat) : Int) := by omega
        have h2 : (2 + ((f : Int) + (k : Int)) % ((n : Int) - 2)) = (a : Int) := by
          rw [← ha, h1]; unfold atN; simp
        rw [h2]
        unfold wrap64; omega
      have hal : a < st.length := by rw [HI.out.1.len]; omega
      obtain ⟨x, hx⟩ : ∃ x, st[a]'hal = x := ⟨_, rfl⟩
      have hcs : wr.cell? ⟨sb, a, none⟩ = some (.int .u8 (x.toNat : Int)) := by
        rw [HI.out.1.sblk.cell, List.getElem?_toArray, cs8_get, List.getElem?_eq_getElem hal, hx]
        rfl
      have qxs := HI.out.1.sblk.frozen
      have zxs := HI.out.1.sblk.lt
      have HATN := hide ha
      cases hd : (x.toNat == 0)
      · have d1 : ((x.toNat : Int) == 0) = false := by simp at hd ⊢; omega
        have hnf := hide (show ¬ isFree st a from fun ⟨_, h0⟩ => by rw [hx] at h0; simp [h0] at hd)
        clear ha hx hd
        go_wp2
        go_roundw
        case rel => exact ⟨k + 1, by omega, by go_num, HI, hide (fun k' hk' => by
          rcases Nat.lt_succ_iff_lt_or_eq.1 hk' with h | rfl
          · exact HA.out k' h
          · rw [HATN.out]; exact hnf.out)⟩
        case measure => simp [intOf]; omega
      · have d1 : ((x.toNat : Int) == 0) = true := by simp at hd ⊢; omega
        have hfree := hide (show isFree st a from ⟨hal, by rw [hx]; simpa using hd⟩)
        clear ha hx hd
        cases hbo : burnO false left
        · have HBO := hide hbo
          clear hbo
          go_wp2_with (first | (go_at_call 30; (refine (did_any pb db sb n seq root f 0 w3 (HW3.out.2.blk HI.out.1.blk HI.out.1.np)).mono ?_); rintro e w4 ⟨rfl, hk, hg⟩; have HK4 := hide hk; have HG4 := hide hg; have HS4 := hide (hg.block sb (HW3.out.2.blk HI.out.1.sblk HI.out.1.ns).lt (fun e => HI.out.1.ne (by injection e with e; exact e.symm)) |>.trans (HW3.out.2.blk HI.out.1.sblk HI.out.1.ns)); have k4 := hk.cell; have q4 := hk.frozen; have z4 := hk.lt; have zs4 := Blk.lt HS4.out; have qs4 := Blk.frozen HS4.out; have kc4 : w4.cell? ⟨sb, a, none⟩ = some (.int .u8 (x.toNat : Int)) := (Blk.cell HS4.out a).trans ((HI.out.1.sblk.cell a).symm.trans hcs); have HB5 := hide (Blk.far hk (p := ⟨sb, a, none⟩) HI.out.1.ne (.int .u8 1)); have k5 := HB5.out.cell; have q5 := HB5.out.frozen; have z5 := HB5.out.lt; unfold pk at k4 k5; clear hk hg kx qx zx hcs qxs zxs) | (go_at_call 31; (refine (sec_wr HI.out.1.sec (a : Int) (sealC 2 d) v2 _ HI.out.2.1 (by omega) HNN.out).mono ?_); rw [HBO.out]; rintro e w3 ⟨rfl, ⟨F', hs, hF⟩, hfr⟩; have HW3 := hide (And.intro (And.intro hs hF) hfr); clear hs hF hfr))
          refine bodyPost_ret (v := .tuple #[.int .i64 a, .int .i64 0]) (by simp [results, Try.results10, go_sem]) rfl ?_
          have hs4 := HW3.out.1.1.set_off HG4.out (fun h => (HW3.out.1.2 pb h).elim HI.out.1.np (fun h => by have := HI.out.1.blk.lt; omega))
          have hnf : ∀ g, g < wr.heap.size → ¬ F g → ¬ F' g := fun g hg hn h => (HW3.out.1.2 g h).elim hn (by omega)
          have hpl := HI.out.1.blk.lt
          have hsl := HI.out.1.sblk.lt
          refine ⟨.inr ⟨a, ha2.1, ha2.2, hfree.out, .inr ⟨HBO.out, rfl, F', ?_, fun j h => (HW3.out.1.2 j h).imp id (fun h => Nat.le_trans HI.out.2.2.size h)⟩⟩, ?_⟩
          · exact {
              sec := (hs4.set_off (gby_set _ _ _ _) (hnf sb hsl HI.out.1.ns)).set_off (gby_set _ _ _ _) (hnf pb hpl HI.out.1.np)
              blk := HB5.out.set_ 4 _
              sblk := by
                have := Blk.far (Blk.set_ HS4.out a (.int .u8 1)) (p := ⟨pb, 4, none⟩) (fun e => HI.out.1.ne e.symm) (.int .i64 ((a : Int) - 1))
                rw [show (Value.int .u8 1) = u8v 1 from rfl, cs8_set] at this
                exact this
              len := by rw [List.length_set]; exact HI.out.1.len
              h4 := HI.out.1.h4
              np := hnf pb hpl HI.out.1.np
              ns := hnf sb hsl HI.out.1.ns
              hsq := HI.out.1.hsq
              hrt := HI.out.1.hrt
              hfr := by omega }
          · exact (Fr.low HI.out.2.2).trans (((HW3.out.2.up (fun _ h => .inl h)).trans ((Fr.of_pb HG4.out).trans ((Fr.of_grown (F := PF F pb sb) (gby_set _ sb _ _) (fun k e => by injection e with e; exact .inr (.inr e.symm))).trans (Fr.of_pb (gby_set _ pb _ _)) (fun _ _ h => h)) (fun _ _ h => h)) (fun j _ h => h)).trans (Fr.refl _ _) (fun _ _ h => h)) (fun _ _ h => h)
        · have HBO := hide hbo
          clear hbo
          go_wp2_with (first | (go_at_call 30; (refine (did_any pb db sb n seq root f 15 w3 (HW3.out.2.blk HI.out.1.blk HI.out.1.np)).mono ?_); rintro e w4 ⟨rfl, hk, hg⟩; have HK4 := hide hk; have HG4 := hide hg; have HS4 := hide (hg.block sb (HW3.out.2.blk HI.out.1.sblk HI.out.1.ns).lt (fun e => HI.out.1.ne (by injection e with e; exact e.symm)) |>.trans (HW3.out.2.blk HI.out.1.sblk HI.out.1.ns)); have k4 := hk.cell; have q4 := hk.frozen; have z4 := hk.lt; have zs4 := Blk.lt HS4.out; have qs4 := Blk.frozen HS4.out; have kc4 : w4.cell? ⟨sb, a, none⟩ = some (.int .u8 (x.toNat : Int)) := (Blk.cell HS4.out a).trans ((HI.out.1.sblk.cell a).symm.trans hcs); have HB5 := hide (Blk.far hk (p := ⟨sb, a, none⟩) HI.out.1.ne (.int .u8 1)); have k5 := HB5.out.cell; have q5 := HB5.out.frozen; have z5 := HB5.out.lt; unfold pk at k4 k5; clear hk hg kx qx zx hcs qxs zxs) | (go_at_call 31; (refine (sec_wr HI.out.1.sec (a : Int) (sealC 2 d) v2 _ HI.out.2.1 (by omega) HNN.out).mono ?_); rw [HBO.out]; rintro e w3 ⟨rfl, ⟨F', hs, hF⟩, hfr⟩; have HW3 := hide (And.intro (And.intro hs hF) hfr); clear hs hF hfr))
          refine bodyPost_ret (v := .tuple #[.int .i64 0, .int .i64 15]) (by simp [results, Try.results10, go_sem]) rfl ?_
          have hs4 := HW3.out.1.1.set_off HG4.out (fun h => (HW3.out.1.2 pb h).elim HI.out.1.np (fun h => by have := HI.out.1.blk.lt; omega))
          refine ⟨.inr ⟨a, ha2.1, ha2.2, hfree.out, .inl ⟨HBO.out, rfl, F', hs4, fun j h => (HW3.out.1.2 j h).imp id (fun h => Nat.le_trans HI.out.2.2.size h)⟩⟩, ?_⟩
          exact (Fr.low HI.out.2.2).trans ((HW3.out.2.up (fun _ h => .inl h)).trans (Fr.of_pb HG4.out) (fun _ _ h => h)) (fun _ _ h => h)
    · have e : k = n - 2 := by omega
      subst e
      go_wp2
      refine bodyPost_ret (v := .tuple #[.int .i64 0, .int .i64 16]) (by simp [results, Try.results10, go_sem]) rfl ⟨.inl ⟨rfl, at_all HH4.out HI.out.1.len HA.out, HI.out.1⟩, Fr.low HI.out.2.2⟩
end
end Go.Proofs.Ytddcmockdomonaa
