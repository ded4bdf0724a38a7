/- The law WideTotal, walked. -/
import Derived.Test.YtmfilhmcgagjcaaWideTt
import Derived.Test.YtmfilhmcgagjcaaWideTimA
import Derived.Outline
namespace Go.Proofs.Ytmfilhmcgagjcaa
set_option linter.unusedSimpArgs false
set_option linter.unusedVariables false
open Go.RowKit
theorem sl_of_own2 {w : World} {base n : Nat} {v : Value} {l : List Value} {E : TypeId} {k : Nat} (h : w.ownsRow base E k v n l) : ∃ A c, v = .slice A n c := by
  rcases h.2 with ⟨rfl, rfl⟩ | ⟨g, cap, cur, rfl, _⟩
  · exact ⟨_, _, rfl⟩
  · exact ⟨_, _, rfl⟩
set_option maxRecDepth 100000 in
set_option maxHeartbeats 2000000 in
theorem lawTotal (l : List I2) (A : Option Addr) (n c : Nat) (w : World) (hr : IR w w.heap.size A n l) (hok : okAll l) (hn : n * 16 ≤ 140737488351232) :
    Calls Try.prog 4 #[.slice A n c] w fun e w' => e = .returned (.bool true) ∧ Below w.heap.size w w' := by
  have HR := hide hr
  have HOK := hide hok
  clear hr hok
  have hi := i2_info
  cases hi0 : Try.prog.info? 25 with
  | none => rw [hi0] at hi; cases hi
  | some i0 =>
  rw [hi0] at hi
  simp only [Option.map_some, Option.some.injEq, Prod.mk.injEq] at hi
  have J0 := hide hi0; have J1 := hide hi.1; have J2 := hide hi.2.1; have J3 := hide hi.2.2
  clear hi hi0
  have H0 := hide (World.ownsRow_made (base := w.heap.size) (e := 25) (size := 2) w #[] 0 (Nat.le_refl _) (Nat.zero_le _) rfl)
  go_enter Try.func4, Try.ntmps4
  go_wp2_with (at_builtin; refine wpList_append_any _ rfl (.tmp 8) (.tmp 9) _ rfl w.heap.size 25 i0 _ 2 16 Try.underlying29 J0.out J1.out J2.out J3.out rfl (by omega) (.slice (some ⟨w.heap.size, 0, none⟩) 0 0) 0 [] rfl H0.out w.heap.size A n c (l.flatMap I2.enc) rfl (HR.out.2.alloc (Nat.le_refl _) _) (i2_one l) (by unfold maxLen; omega) (by omega) (by simp) ?_; intro v1 w1 ho hg _)
  obtain ⟨A1, c1, rfl⟩ := sl_of_own2 ho
  have HB1 : Hid (Below w.heap.size w w1) := hide (by
    have h0 := bal (Below.refl w.heap.size w) (Obj.cells #[] 25)
    refine h0.trans ⟨hg.os, hg.tape, hg.output, hg.size, fun j hj => hg.block j (by have := h0.size; omega) (by intro e; have := own_block H0.out j e.symm; omega)⟩)
  rw [Nat.zero_add] at ho ⊢
  have HO := hide (Sl.own (enc := I2.enc) (l := l) (n := n) HR.out.len rfl (by simp) ho)
  have HR1 := hide (HR.out.later HB1.out)
  clear ho hg
  refine (total_any l A1 n c1 _ HO.out HOK.out (by omega)).mono ?_
  rintro e w2 ⟨rfl, hb2⟩
  have HB2 := hide (btr HB1.out hb2)
  have HR2 := hide ((HR1.out.later hb2).later (bal (Below.refl _ _) (Obj.cells #[.int .i64 (optI (tot 0 l)).hi, .int .u64 (optI (tot 0 l)).lo] 25)))
  clear hb2
  go_wp2_with fail
  refine (rtotal_any l A n c _ HR2.out HOK.out (by omega)).mono ?_
  rintro e w3 ⟨rfl, hb3⟩
  have HK3 := hide ((Blk.new w2 25 #[.int .i64 (optI (tot 0 l)).hi, .int .u64 (optI (tot 0 l)).lo]).below hb3 (by simp))
  have HB3 := hide (btr (bal HB2.out _) hb3)
  clear hb3
  go_wp2_with fail
  refine (wanswers_any _).mono ?_
  rintro e w4 ⟨rfl, hb4⟩
  have HK4 := hide ((HK3.out.alloc _).below hb4 (by have := HK3.out.lt; simp; omega))
  have HK5 := hide ((Blk.new w3 25 #[.int .i64 (optI (tot 0 l)).hi, .int .u64 (optI (tot 0 l)).lo]).below hb4 (by simp))
  have HB4 := hide (btr (bal HB3.out _) hb4)
  clear hb4
  have k4 := HK4.out.cell; have k5 := HK5.out.cell
  have z4 := HK4.out.lt; have z5 := HK5.out.lt
  go_wp2_with fail
  go_ret
  exact ⟨rfl, HB4.out⟩
end Go.Proofs.Ytmfilhmcgagjcaa
