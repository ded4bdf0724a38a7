/- PagerRoots. -/
import Derived.Test.YtddcmockdomonaaPgZd
namespace Go.Proofs.Ytddcmockdomonaa
set_option linter.unusedSimpArgs false
set_option linter.unusedVariables false
open Go.RowKit
/-- The state of PagerRoots behind k flips. -/
def RtI (w wr : World) (pb sb db : Nat) (k r : Nat) : Prop :=
  ∃ (F : Nat → Prop) (S : Int → Cn) (frm : Int) (st : Cn), Pg wr F pb sb db 64 0 S [] (2 * k) (k : Int) (r : Int) frm st ∧ RI 64 S k r ∧ 62 ≤ roomN st + k ∧ Below w.heap.size w wr ∧ ∀ j, F j → w.heap.size ≤ j
/-- A round of PagerRoots: a new page. -/
theorem roots_new {w wr : World} {pb sb db k r : Nat} (h : RtI w wr pb sb db k r) (hk : k < 40) (hpb : w.heap.size ≤ pb) (hsb : w.heap.size ≤ sb) :
    Calls Try.prog 10 #[.pointer (some ⟨pb, 0, none⟩), .slice (some ⟨wr.heap.size, 0, none⟩) 1 1] (wr.alloc (.cells #[.int .u8 (k : Int)] T8)) fun e w' =>
      ∃ a : Nat, e = .returned (.tuple #[.int .i64 a, .int .i64 0]) ∧ 2 ≤ a ∧ a < 64 ∧ ∃ (F : Nat → Prop) (S : Int → Cn) (frm : Int) (st : Cn) (c : Cn), Pg w' F pb sb db 64 0 S [((a : Int), c)] (2 * k + 1) (k : Int) (r : Int) frm (st.set a 1) ∧ RI 64 S k r ∧ isFree st a ∧ 62 ≤ roomN st + k ∧ Below w.heap.size w w' ∧ ∀ j, F j → w.heap.size ≤ j := by
  obtain ⟨F, S, frm, st, hp, hr, hroom, hb, hF⟩ := h
  have hb1 := hb.trans ((al_below wr (.cells #[.int .u8 (k : Int)] T8)).mono hb.size)
  have hrb : RB (wr.alloc (.cells #[.int .u8 (k : Int)] T8)) (wr.alloc (.cells #[.int .u8 (k : Int)] T8)).heap.size (some ⟨wr.heap.size, 0, none⟩) 1 [UInt8.ofNat k] := by
    refine RB.of_blk (l := [UInt8.ofNat k]) ?_ (by simp)
    rw [cs8_one_k k (by omega)]
    exact Blk.new _ _ _
  refine (pnew_free (hp.below (al_below _ _)) _ 1 1 [UInt8.ofNat k] hrb (by decide) (by omega) (by omega)).mono ?_
  rintro e w' ⟨⟨a, F', rfl, h2, h64, hf, hp', hg⟩, hfr⟩
  exact ⟨a, rfl, h2, h64, F', S, _, st, _, hp', hr, hf, hroom, hb1.trans (PF.below hfr hb1.size hF hpb hsb), hg.low hb1.size hF⟩
/-- A round of PagerRoots: the flip. -/
theorem roots_flip {w w1 : World} {F : Nat → Prop} {S : Int → Cn} {frm : Int} {st : Cn} {c : Cn} {pb sb db k r a : Nat} (h : Pg w1 F pb sb db 64 0 S [((a : Int), c)] (2 * k + 1) (k : Int) (r : Int) frm (st.set a 1)) (hr : RI 64 S k r) (hf : isFree st a) (hroom : 62 ≤ roomN st + k) (hb : Below w.heap.size w w1) (hF : ∀ j, F j → w.heap.size ≤ j) (ha : 2 ≤ a ∧ a < 64) (hk : k < 40) (hpb : w.heap.size ≤ pb) (hsb : w.heap.size ≤ sb) :
    Calls Try.prog 11 #[.pointer (some ⟨pb, 0, none⟩), .int .i64 a] w1 fun e w' => e = .returned (.int .i64 0) ∧ RtI w w' pb sb db (k + 1) a := by
  refine (pflip_any h (by omega) (by omega) a (root_ok_new ha.1 ha.2 hf)).mono ?_
  rintro e w' ⟨hR, hfr⟩
  obtain ⟨rfl, F', hp, hg⟩ := flip_no_limit hR
  refine ⟨rfl, F', _, _, _, hp, ?_, ?_, hb.trans (PF.below hfr hb.size hF hpb hsb), hg.low hb.size hF⟩
  · rw [last_one]
    refine (hr.same (upd_far (by omega)) (upd_far (by omega))).flip (by omega) (by omega) (.inr ?_)
    unfold pgB
    simp; omega
  · have h1 := room_flip (st.set a 1)
    have h2 := room_take st a ha.1 hf
    omega
/-- A disk whose writes are all sure is opened, whether it crashed or not. -/
theorem roots_open {w w1 : World} {F : Nat → Prop} {S : Int → Cn} {db k r N : Nat} (h : Sec w1 F db false 0 64 S [] N) (hr : RI 64 S k r) (hk : k < 100) (hb : Below w.heap.size w w1) :
    Calls Try.prog 8 #[.pointer (some ⟨db, 0, none⟩)] w1 fun e w' => (∃ pb sb st, e = .returned (.tuple #[.pointer (some ⟨pb, 0, none⟩), .int .i64 0]) ∧ Pg w' F pb sb db 64 0 S [] N (k : Int) (r : Int) 0 st) ∧ Below w.heap.size w w' := by
  have ho := RI.opn (S := S) (L := []) (n := 64) hr
  have := popen_pg (n := 64) h (by decide) (by rw [ho]; simp; omega)
  rw [ho] at this
  refine this.mono ?_
  rintro e w' ⟨⟨pb, sb, rfl, _, _, hp⟩, hb'⟩
  exact ⟨⟨pb, sb, _, rfl, hp⟩, hb.trans (hb'.mono hb.size)⟩
set_option maxRecDepth 100000 in
set_option maxHeartbeats 2000000 in
theorem roots_any (t mask : Int) (w : World) (ht : 0 ≤ t ∧ t < 256) (hm : 0 ≤ mask ∧ mask < 18446744073709551616) : Calls Try.prog 3 #[.int .u8 t, .int .u64 mask] w fun e w' => e = .returned (.bool true) ∧ Below w.heap.size w w' := by
  obtain ⟨T, hT⟩ : ∃ T : Nat, t % 40 = T := ⟨(t % 40).toNat, by omega⟩
  have hT40 : T < 40 := by omega
  have htm : t.tmod 40 = (T : Int) := by rw [Int.tmod_eq_emod_of_nonneg ht.1]; exact hT
  have HM := hide hm
  clear hm
  go_enter Try.func3, Try.ntmps3
  go_wp2_with (first | (go_at_call 9; (refine (answers_any w2).mono ?_); rintro e w3 ⟨rfl, hb⟩; have HP3 := hide (HP2.out.below hb); have HB3 := hide (HB2.out.trans (hb.mono HB2.out.size)); clear hb) | (go_at_call 8; (refine (popen_new (n := 64) HS1.out (by decide)).mono ?_); rintro e w2 ⟨⟨pb, sb, rfl, hpb, hsb, hp⟩, hb⟩; have HP2 := hide hp; have HB2 := hide (HB1.out.trans (hb.mono HB1.out.size)); have HPB := hide (Nat.le_trans HB1.out.size hpb); have HSB := hide (Nat.le_trans HB1.out.size hsb); clear hp hb hpb hsb) | (go_at_call 7; (refine (sec_new 64 w (by decide)).mono ?_); rintro e w1 ⟨rfl, hs, hb⟩; have HS1 := hide hs; have HB1 := hide hb; clear hs hb))
  have HI0 := hide (show RtI w w3 pb sb (w.heap.size + 1) 0 0 from ⟨_, _, _, _, HP3.out, RI.zero 64, by rw [zero_room]; decide, HB3.out, fun j h => h.1⟩)
  clear HP2 HP3 HB1 HB2 HB3 HS1
  go_loopw [9, 10] (fun lv iv wr => ∃ k r : Nat, k ≤ T ∧ iv = .int .i64 k ∧ lv = .int .i64 r ∧ Hid (RtI w wr pb sb (w.heap.size + 1) k r)) (fun _ i _ => T - (intOf i).toNat)
  case atStart => exact ⟨0, 0, by omega, rfl, rfl, HI0⟩
  case round =>
    obtain ⟨k, r, hk, rfl, rfl, HI⟩ := hrel
    by_cases hlt : k < T
    · have hw8 : IntKind.u8.wrap (k : Int) = (k : Int) := by simp only [IntKind.wrap, IntKind.bits, IntKind.signed]; simp; omega
      have hk40 : k < 40 := by omega
      go_wp2_with (first | (go_at_call 11; (refine (roots_flip HQ.out.1 HQ.out.2.1 HQ.out.2.2.1 HQ.out.2.2.2.1 HQ.out.2.2.2.2.1 HQ.out.2.2.2.2.2 (by omega) hk40 HPB.out HSB.out).mono ?_); rintro e w6 ⟨rfl, hi⟩; have HI6 := hide hi; clear hi) | (go_at_call 10; (refine (roots_new HI.out hk40 HPB.out HSB.out).mono ?_); rintro e w5 ⟨a, rfl, ha2, ha64, F5, S5, f5, st5, c5, hq⟩; have HQ := hide hq; clear hq))
      go_roundw
      case rel => exact ⟨k + 1, a, by omega, by go_num, rfl, HI6⟩
      case measure => simp [intOf]; omega
    · have e : k = T := by omega
      subst e
      obtain ⟨F, S, frm, st, hp, hr, hroom, hb, hF⟩ := HI.out
      have HP := hide hp
      have HR := hide hr
      have HB := hide hb
      clear hp hr hroom hb HI
      go_wp2_with (first
        | (go_at_call 12; (refine (proot HP9.out).mono ?_); rintro e w10 ⟨rfl, hb⟩; have HB10 := hide (HB9.out.trans (hb.mono HB9.out.size)); clear hb)
        | (go_at_call 8; (refine (roots_open HS8.out HR.out (by omega) HB8.out).mono ?_); rintro e w9 ⟨⟨pb3, sb3, st3, rfl, hp⟩, hb⟩; have HP9 := hide hp; have HB9 := hide hb; clear hp hb)
        | (go_at_call 13; (refine (sec_crash HP7.out.sec mask HM.out (by omega)).mono ?_); rintro e w8 ⟨rfl, hs, hf⟩; have HS8 := hide hs; have HB8 := hide (HB7.out.trans (hf.below HB7.out.size hF)); clear hs hf)
        | (go_at_call 12; (refine (proot HP6.out).mono ?_); rintro e w7 ⟨rfl, hb⟩; have HP7 := hide (HP6.out.below hb); have HB7 := hide (HB6.out.trans (hb.mono HB6.out.size)); clear hb)
        | (go_at_call 8; (refine (roots_open HP5.out.sec HR.out (by omega) HB5.out).mono ?_); rintro e w6 ⟨⟨pb2, sb2, st2, rfl, hp⟩, hb⟩; have HP6 := hide hp; have HB6 := hide hb; clear hp hb)
        | (go_at_call 12; (refine (proot HP.out).mono ?_); rintro e w5 ⟨rfl, hb⟩; have HP5 := hide (HP.out.below hb); have HB5 := hide (HB.out.trans (hb.mono HB.out.size)); clear hb))
      go_ret
      exact ⟨rfl, HB10.out⟩
end Go.Proofs.Ytddcmockdomonaa
