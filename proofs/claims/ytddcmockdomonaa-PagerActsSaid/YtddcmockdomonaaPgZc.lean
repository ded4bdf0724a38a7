/- The pager's statements: what each asks first (answers). -/
import Derived.Test.YtddcmockdomonaaPgZb
namespace Go.Proofs.Ytddcmockdomonaa
set_option linter.unusedSimpArgs false
set_option linter.unusedVariables false
open Go.RowKit
theorem now_one (S : Int → Cn) (a : Int) (c : Cn) : nowC S [(a, c)] a = c := by
  unfold nowC
  simp
theorem room_take (st : Cn) (a : Nat) (h2 : 2 ≤ a) (hf : isFree st a) : roomN (st.set a 1) + 1 = roomN st := by
  obtain ⟨hl, h0⟩ := hf
  have := room_set st a 1 h2 hl
  rw [if_pos (by simp [h0]), if_neg (by decide)] at this
  omega
/-- All that a call of the pager turned stands above B. -/
theorem PF.below {F : Nat → Prop} {pb sb B : Nat} {w w' : World} (h : Fr (PF F pb sb) w w') (hB : B ≤ w.heap.size) (hF : ∀ j, F j → B ≤ j) (hp : B ≤ pb) (hs : B ≤ sb) : Below B w w' :=
  h.below hB (fun j hj => hj.elim (hF j) (fun h => h.elim (fun h => h ▸ hp) (fun h => h ▸ hs)))
theorem Grw.low {F F' : Nat → Prop} {w : World} {B : Nat} (h : Grw F w F') (hB : B ≤ w.heap.size) (hF : ∀ j, F j → B ≤ j) : ∀ j, F' j → B ≤ j := fun j hj => (h j hj).elim (hF j) (fun h => Nat.le_trans hB h)
section
variable {w w' : World} {F : Nat → Prop} {pb sb db n : Nat} {left : Int} {S : Int → Cn} {L : List (Int × Cn)} {N : Nat} {seq root frm : Int} {st : Cn}
theorem proom (h : Pg w F pb sb db n left S L N seq root frm st) : Calls Try.prog 14 #[.pointer (some ⟨pb, 0, none⟩)] w fun e w' => e = .returned (.int .i64 (roomN st : Int)) ∧ Below w.heap.size w w' :=
  room_any pb db sb n seq root frm false st w h.blk h.sblk h.len ⟨h.h4, h.hn⟩
theorem proot (h : Pg w F pb sb db n left S L N seq root frm st) : Calls Try.prog 12 #[.pointer (some ⟨pb, 0, none⟩)] w fun e w' => e = .returned (.tuple #[.int .i64 seq, .int .i64 root]) ∧ Below w.heap.size w w' :=
  root_any pb db sb n seq root frm false w h.blk
end
theorem own_str7 {w : World} {base : Nat} {v : Value} (h : w.ownsRow base T8 1 v 1 (cs8 [7])) : (convert 33 9 v).run Try.prog w = .ok (.string ⟨#[7]⟩) w := own_str h rfl
set_option maxRecDepth 100000 in
set_option maxHeartbeats 2000000 in
theorem answers_any (w : World) : Calls Try.prog 9 #[] w fun e w' => e = .returned (.bool true) ∧ Below w.heap.size w w' := by
  go_enter Try.func9, Try.ntmps9
  go_wp2_with (first | (go_at_call 14; (refine (proom HP4.out).mono ?_); rw [HRM.out]; rintro e w5 ⟨rfl, hb⟩; have HB5 := hide (HB4.out.trans (hb.mono HB4.out.size)); clear hb) | (go_at_call 17; (refine (pread_ok HP3.out a (by unfold pgB; simp; omega) [7] (by decide) (now_one _ _ _)).mono ?_); rintro e w4 ⟨⟨v4, rfl, ho⟩, hp, hf⟩; have hc4 := own_str7 ho; have HP4 := hide hp; have HB4 := hide (HB3.out.trans (PF.below hf HB3.out.size HF3.out HPB.out HSB.out)); clear ho hp hf) | (go_at_call 10; (refine (pnew_free (HP2.out.below ((Below.refl w2.heap.size w2).alloc (Nat.le_refl _) _)) (some ⟨w2.heap.size, 0, none⟩) 1 1 [7] (RB.of_blk (Blk.new _ _ _) (by simp)) (by decide) (by decide) (by rw [zero_room]; decide)).mono ?_); rintro e w3 ⟨⟨a, F', rfl, ha2, ha8, hfree, hp, hg⟩, hf⟩; have HA2 := hide (HB2.out.trans ((Below.refl w2.heap.size w2).alloc (Nat.le_refl _) (.cells #[.int .u8 7] T8) |>.mono HB2.out.size)); have HP3 := hide hp; have HB3 := hide (HA2.out.trans (PF.below hf HA2.out.size (fun j h => h.1) HPB.out HSB.out)); have HF3 := hide (Grw.low hg HA2.out.size (fun j h => h.1)); have HRM := hide (show roomN ((zeroSt 8).set a 1) = 5 by have := room_take (zeroSt 8) a ha2 hfree; rw [zero_room] at this; omega); clear hp hg hf hfree) | (go_at_call 8; (refine (popen_new (n := 8) HS1.out (by decide)).mono ?_); rintro e w2 ⟨⟨pb, sb, rfl, hpb, hsb, hp⟩, hb⟩; have HP2 := hide hp; have HB2 := hide (HB1.out.trans (hb.mono HB1.out.size)); have HPB := hide (Nat.le_trans HB1.out.size hpb); have HSB := hide (Nat.le_trans HB1.out.size hsb); clear hp hb hpb hsb) | (go_at_call 7; (refine (sec_new 8 w (by decide)).mono ?_); rintro e w1 ⟨rfl, hs, hb⟩; have HS1 := hide hs; have HB1 := hide hb; clear hs hb))
  go_ret
  exact ⟨rfl, HB5.out⟩
end Go.Proofs.Ytddcmockdomonaa
