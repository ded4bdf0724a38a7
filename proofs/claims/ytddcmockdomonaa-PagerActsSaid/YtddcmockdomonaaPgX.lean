/- The pager: Use and Free. -/
import Derived.Test.YtddcmockdomonaaPgW
namespace Go.Proofs.Ytddcmockdomonaa
set_option linter.unusedSimpArgs false
set_option linter.unusedVariables false
open Go.RowKit
def useU (x : UInt8) : UInt8 := if x.toNat == 1 then x else 2
def freeU (x : UInt8) : UInt8 := if x.toNat == 1 then 0 else if x.toNat == 2 then 3 else x
def updN (u : UInt8 → UInt8) (st : Cn) (x : Int) : Cn := st.set x.toNat (u (st.getD x.toNat 0))
theorem updN_len (u : UInt8 → UInt8) (st : Cn) (x : Int) : (updN u st x).length = st.length := List.length_set ..
abbrev TPP : TypeId := 27
section
variable {w w' : World} {F : Nat → Prop} {pb sb db n : Nat} {left : Int} {S : Int → Cn} {L : List (Int × Cn)} {N : Nat} {seq root frm : Int} {st : Cn}
theorem Pg.state (h : Pg w F pb sb db n left S L N seq root frm st) {st' : Cn} (hg : w.grownBy w' (some sb)) (hB : Blk w' sb T8 (cs8 st').toArray) (hl : st'.length = st.length) : Pg w' F pb sb db n left S L N seq root frm st' :=
  { h with sec := h.sec.set_off hg h.ns, blk := h.blk.grown hg (fun e => h.ne (by injection e with e)), sblk := hB, len := hl.trans h.len }
theorem Pg.cell (h : Pg w F pb sb db n left S L N seq root frm st) (a : Nat) (ha : a < n) : w.cell? ⟨sb, a, none⟩ = some (.int .u8 ((st.getD a 0).toNat : Int)) := by
  have hl : a < st.length := by rw [h.len]; exact ha
  rw [h.sblk.cell, List.getElem?_toArray, cs8_get, List.getElem?_eq_getElem hl, List.getD_eq_getElem?_getD, List.getElem?_eq_getElem hl]
  rfl
theorem Pg.stored (h : Pg w F pb sb db n left S L N seq root frm st) (a : Nat) (x : UInt8) : Pg (w.setCell ⟨sb, a, none⟩ (u8v x)) F pb sb db n left S L N seq root frm (st.set a x) :=
  h.state (gby_set _ _ _ _) (by rw [← cs8_set]; exact h.sblk.set_ a _) (List.length_set ..)
theorem set_same (st : Cn) (a : Nat) : st.set a (st.getD a 0) = st := by
  apply List.ext_getElem?
  intro i
  rw [List.getElem?_set]
  split
  · next h =>
    subst h
    split
    · next h => rw [List.getD_eq_getElem?_getD, List.getElem?_eq_getElem h]; rfl
    · next h => rw [List.getElem?_eq_none (by omega)]
  · rfl
theorem gby_refl (w : World) (r : Option Nat) : w.grownBy w r := ⟨rfl, rfl, rfl, Nat.le_refl _, fun _ _ _ => rfl⟩
set_option maxHeartbeats 1000000 in
theorem use_one (h : Pg w F pb sb db n left S L N seq root frm st) (a : Nat) (ha : a < n) (bx : Nat) (hb : Blk w bx TPP #[.pointer (some ⟨pb, 0, none⟩)]) :
    Calls Try.prog 38 #[.int .i64 a, .pointer (some ⟨bx, 0, none⟩)] w fun e w' => e = .returned (.tuple #[]) ∧ Pg w' F pb sb db n left S L N seq root frm (updN useU st a) ∧ w.grownBy w' (some sb) := by
  have HP := hide h
  have HBX := hide hb
  have kp := h.blk.cell; have qp := h.blk.frozen; have zp := h.blk.lt
  have kb := hb.cell; have qb := hb.frozen; have zb := hb.lt
  have ks := h.cell a ha; have qs := h.sblk.frozen; have zs := h.sblk.lt
  have hn := h.hn
  unfold pk at kp
  obtain ⟨x, hx⟩ : ∃ x, st.getD a 0 = x := ⟨_, rfl⟩
  have HU := hide (show ∀ u : UInt8 → UInt8, updN u st (a : Int) = st.set a (u x) from fun u => by unfold updN; rw [Int.toNat_natCast, hx])
  have HSM := hide (show st.set a x = st by rw [← hx]; exact set_same st a)
  rw [hx] at ks
  clear hx h hb
  cases hd : (x.toNat == 1)
  · have HD := hide hd
    have d1 : ((x.toNat : Int) == 1) = false := by simp at hd ⊢; omega
    clear hd
    go_enter Try.func38, Try.ntmps38
    go_wp2_with fail
    go_end0
    exact ⟨rfl, by rw [HU.out, show useU x = 2 by unfold useU; rw [HD.out]; rfl]; exact HP.out.stored a 2, gby_set _ _ _ _⟩
  · have HD := hide hd
    have d1 : ((x.toNat : Int) == 1) = true := by simp at hd ⊢; omega
    clear hd
    go_enter Try.func38, Try.ntmps38
    go_wp2_with fail
    go_end0
    exact ⟨rfl, by rw [HU.out, show useU x = x by unfold useU; rw [HD.out]; rfl, HSM.out]; exact HP.out, gby_refl _ _⟩
set_option maxHeartbeats 1000000 in
theorem free_one (h : Pg w F pb sb db n left S L N seq root frm st) (a : Nat) (ha : a < n) (bx : Nat) (hb : Blk w bx TPP #[.pointer (some ⟨pb, 0, none⟩)]) :
    Calls Try.prog 37 #[.int .i64 a, .pointer (some ⟨bx, 0, none⟩)] w fun e w' => e = .returned (.tuple #[]) ∧ Pg w' F pb sb db n left S L N seq root frm (updN freeU st a) ∧ w.grownBy w' (some sb) := by
  have HP := hide h
  have HBX := hide hb
  have kp := h.blk.cell; have qp := h.blk.frozen; have zp := h.blk.lt
  have kb := hb.cell; have qb := hb.frozen; have zb := hb.lt
  have ks := h.cell a ha; have qs := h.sblk.frozen; have zs := h.sblk.lt
  have hn := h.hn
  unfold pk at kp
  obtain ⟨x, hx⟩ : ∃ x, st.getD a 0 = x := ⟨_, rfl⟩
  have HU := hide (show ∀ u : UInt8 → UInt8, updN u st (a : Int) = st.set a (u x) from fun u => by unfold updN; rw [Int.toNat_natCast, hx])
  have HSM := hide (show st.set a x = st by rw [← hx]; exact set_same st a)
  rw [hx] at ks
  clear hx h hb
  cases hd : (x.toNat == 1)
  · have HD := hide hd
    have d1 : ((x.toNat : Int) == 1) = false := by simp at hd ⊢; omega
    clear hd
    cases hd : (x.toNat == 2)
    · have HD2 := hide hd
      have d2 : ((x.toNat : Int) == 2) = false := by simp at hd ⊢; omega
      clear hd
      go_enter Try.func37, Try.ntmps37
      go_wp2_with fail
      go_end0
      exact ⟨rfl, by rw [HU.out, show freeU x = x by unfold freeU; rw [HD.out, HD2.out]; rfl, HSM.out]; exact HP.out, gby_refl _ _⟩
    · have HD2 := hide hd
      have d2 : ((x.toNat : Int) == 2) = true := by simp at hd ⊢; omega
      clear hd
      go_enter Try.func37, Try.ntmps37
      go_wp2_with fail
      go_end0
      exact ⟨rfl, by rw [HU.out, show freeU x = 3 by unfold freeU; rw [HD.out, HD2.out]; rfl]; exact HP.out.stored a 3, gby_set _ _ _ _⟩
  · have HD := hide hd
    have d1 : ((x.toNat : Int) == 1) = true := by simp at hd ⊢; omega
    clear hd
    go_enter Try.func37, Try.ntmps37
    go_wp2_with fail
    go_end0
    exact ⟨rfl, by rw [HU.out, show freeU x = 0 by unfold freeU; rw [HD.out]; rfl]; exact HP.out.stored a 0, gby_set _ _ _ _⟩
end
end Go.Proofs.Ytddcmockdomonaa
