/- The pager: what Flip rests on. -/
import Derived.Test.YtddcmockdomonaaPgY
namespace Go.Proofs.Ytddcmockdomonaa
set_option linter.unusedSimpArgs false
set_option linter.unusedVariables false
open Go.RowKit
def flipU (x : UInt8) : UInt8 := if x.toNat == 1 then 2 else if x.toNat == 3 then 0 else x
/-- The states, the first k of them turned. -/
def mixF (st : Cn) (k : Nat) : Cn := (st.take k).map flipU ++ st.drop k
theorem mix_len (st : Cn) (k : Nat) : (mixF st k).length = st.length := by
  unfold mixF
  rw [List.length_append, List.length_map, List.length_take, List.length_drop]
  omega
theorem mix_zero (st : Cn) : mixF st 0 = st := by unfold mixF; simp
theorem mix_all (st : Cn) {k : Nat} (h : st.length ≤ k) : mixF st k = st.map flipU := by unfold mixF; rw [List.take_of_length_le h, List.drop_of_length_le h, List.append_nil]
theorem mix_at (st : Cn) {k : Nat} (h : k < st.length) : (mixF st k).getD k 0 = st[k] := by
  unfold mixF
  rw [List.getD_eq_getElem?_getD, List.getElem?_append_right (by rw [List.length_map, List.length_take]; omega), List.length_map, List.length_take, Nat.min_eq_left (by omega), Nat.sub_self, List.getElem?_drop, Nat.add_zero, List.getElem?_eq_getElem h]
  rfl
theorem mix_succ (st : Cn) {k : Nat} (h : k < st.length) : mixF st (k + 1) = (mixF st k).set k (flipU st[k]) := by
  unfold mixF
  rw [List.take_succ_eq_append_getElem h, List.map_append, List.append_assoc, List.set_append_right k _ (by rw [List.length_map, List.length_take]; omega), List.length_map, List.length_take, Nat.min_eq_left (by omega), Nat.sub_self, List.drop_eq_getElem_cons h]
  rfl
theorem burnO_pos {left : Int} (h : burnO false left = true) : 0 < left := by
  unfold burnO at h
  split at h
  · assumption
  · cases h
theorem burnL_pos {left : Int} (h : 0 < burnL left) : 0 < left := by
  unfold burnL at h
  split at h <;> omega
theorem Fil.fr {w w' : World} {F G : Nat → Prop} {v : Value} {c : Cn} (h : Fil w G v c) (hf : Fr F w w') (hd : ∀ j, G j → ¬ F j) : Fil w' G v c := by
  obtain ⟨hc, g, cap, cs, e, hg, hb, hcs⟩ := h
  exact ⟨hc, g, cap, cs, e, hg, hf.blk hb (hd g hg), hcs⟩
section
variable {w w' : World} {F : Nat → Prop} {pb sb db n : Nat} {left : Int} {S : Int → Cn} {L : List (Int × Cn)} {N : Nat} {seq root frm : Int} {st : Cn}
theorem sec_bar {size : Int} {b : Nat} (h : Sec w F b false left size S L N) (hN : N ≤ 100000) (hb : burnO false left = false) :
    Calls Try.prog 33 #[.pointer (some ⟨b, 0, none⟩)] w fun e w' => e = .returned (.int .i64 0) ∧ Sec w' F b false (burnL left) size (lastS allT S L) [] N ∧ Fr F w w' := by
  refine (sec_barrier h hN).mono ?_
  rintro e w' ⟨rfl, h1, h2⟩
  unfold baE
  unfold baOut baLeft baS baL baOut at h1
  rw [hb] at h1 ⊢
  exact ⟨rfl, h1, h2⟩
theorem sec_bar_burn {size : Int} {b : Nat} (h : Sec w F b false left size S L N) (hN : N ≤ 100000) (hb : burnO false left = true) :
    Calls Try.prog 33 #[.pointer (some ⟨b, 0, none⟩)] w fun e w' => e = .returned (.int .i64 15) ∧ Sec w' F b true (burnL left) size S L N ∧ Fr F w w' := by
  refine (sec_barrier h hN).mono ?_
  rintro e w' ⟨rfl, h1, h2⟩
  unfold baE
  unfold baOut baLeft baS baL baOut at h1
  rw [hb] at h1 ⊢
  exact ⟨rfl, h1, h2⟩
/-- The disk turned, the pager's own blocks did not. -/
theorem Pg.disk {F' : Nat → Prop} {left' : Int} {S' : Int → Cn} {L' : List (Int × Cn)} {N' : Nat} (h : Pg w F pb sb db n left S L N seq root frm st) (hs : Sec w' F' db false left' (n : Int) S' L' N') (hf : Fr F w w') (hg : Grw F w F') : Pg w' F' pb sb db n left' S' L' N' seq root frm st :=
  { h with
    sec := hs
    blk := hf.blk h.blk h.np
    sblk := hf.blk h.sblk h.ns
    np := fun e => (hg pb e).elim h.np (fun k => by have := h.blk.lt; omega)
    ns := fun e => (hg sb e).elim h.ns (fun k => by have := h.sblk.lt; omega) }
theorem Grw.refl (F : Nat → Prop) (w : World) : Grw F w F := fun _ h => .inl h
theorem Grw.trans {F F' F'' : Nat → Prop} {w w' : World} (h : Grw F w F') (k : Grw F' w' F'') (hw : w.heap.size ≤ w'.heap.size) : Grw F w F'' := fun j hj => (k j hj).elim (h j) (fun e => .inr (Nat.le_trans hw e))
/-- May a root be r? -/
def rootOk (n : Nat) (st : Cn) (r : Nat) : Bool := r == 0 || (pgB n r && !((st.getD r 0).toNat == 0) && !((st.getD r 0).toNat == 3))
/-- What Flip does. -/
def FlipR (w : World) (F : Nat → Prop) (pb sb db n : Nat) (left : Int) (S : Int → Cn) (L : List (Int × Cn)) (N : Nat) (q : Nat) (frm : Int) (st : Cn) (r : Nat) (e : Ending) (w' : World) : Prop :=
  (0 < left ∧ e = .returned (.int .i64 15) ∧ ∃ F' left' S' L', Sec w' F' db true left' (n : Int) S' L' (N + 1) ∧ Grw F w F' ∧
    ((S' = S ∧ L' = L) ∨ (S' = lastS allT S L ∧ (L' = [] ∨ L' = [((((q + 1) % 2 : Nat) : Int), rootC (q + 1) r)])))) ∨
  (e = .returned (.int .i64 0) ∧ ∃ F', Pg w' F' pb sb db n (burnL (burnL (burnL left))) (upd (lastS allT S L) ((q + 1) % 2 : Nat) (rootC (q + 1) r)) [] (N + 1) ((q + 1 : Nat) : Int) r frm (st.map flipU) ∧ Grw F w F')
theorem last_one (S : Int → Cn) (a : Int) (c : Cn) : lastS allT S [(a, c)] = upd S a c := rfl
set_option maxRecDepth 100000 in
theorem pflip_nil (w : World) (v : Value) :
    Calls Try.prog 11 #[.pointer none, v] w fun e w' => e = .returned (.int .i64 1) ∧ Below w.heap.size w w' := by
  go_enter Try.func11, Try.ntmps11
  go_wp2_with (go_at_call 28; (refine (alive_nil w).mono ?_); rintro e w1 ⟨rfl, hb⟩; have HB1 := hide hb; clear hb)
  go_ret
  exact ⟨rfl, HB1.out⟩
set_option maxRecDepth 100000 in
set_option maxHeartbeats 1000000 in
theorem pflip_far (h : Pg w F pb sb db n left S L N seq root frm st) (x : Int) (h0 : x ≠ 0) (hx : pgB n x = false) :
    Calls Try.prog 11 #[.pointer (some ⟨pb, 0, none⟩), .int .i64 x] w fun e w' => e = .returned (.int .i64 1) ∧ Below w.heap.size w w' := by
  have HP := hide h
  have HPB := hide hx
  have d0 : (x == 0) = false := by simpa using h0
  have e0 : ¬ x = 0 := h0
  clear h hx h0
  go_enter Try.func11, Try.ntmps11
  go_wp2_with (first | (go_at_call 27; (refine (page_any pb db sb n seq root frm false x w1 (HP.out.below HB1.out).blk).mono ?_); rintro e w2 ⟨rfl, hb⟩; rw [HPB.out]; have HB2 := hide (HB1.out.trans (hb.mono HB1.out.size)); clear hb) | (go_at_call 28; (refine (alive_ok HP.out.sec HP.out.blk).mono ?_); rintro e w1 ⟨rfl, hb⟩; have HB1 := hide hb; clear hb))
  go_ret
  exact ⟨rfl, HB2.out⟩
set_option maxRecDepth 100000 in
set_option maxHeartbeats 1000000 in
theorem pflip_free (h : Pg w F pb sb db n left S L N seq root frm st) (r : Nat) (hr : pgB n r = true) (hst : (st.getD r 0).toNat = 0 ∨ (st.getD r 0).toNat = 3) :
    Calls Try.prog 11 #[.pointer (some ⟨pb, 0, none⟩), .int .i64 r] w fun e w' => e = .returned (.int .i64 1) ∧ Below w.heap.size w w' := by
  have HP := hide h
  have HPB := hide hr
  have hrn : 2 ≤ r ∧ r < n := by unfold pgB at hr; simp at hr; omega
  have hn := h.hn
  have d0 : ((r : Int) == 0) = false := by simp; omega
  have e0 : ¬ (r : Int) = 0 := by omega
  have e1 : ¬ r = 0 := by omega
  have ks := h.cell r hrn.2
  obtain ⟨x, hx⟩ : ∃ x, (st.getD r 0).toNat = x := ⟨_, rfl⟩
  rw [hx] at ks hst
  have KS := hide ks
  clear h hr hx ks
  rcases hst with rfl | rfl
  · go_enter Try.func11, Try.ntmps11
    go_wp2_with (first | (go_at_call 27; (refine (page_any pb db sb n seq root frm false (r : Int) w1 (HP.out.below HB1.out).blk).mono ?_); rintro e w2 ⟨rfl, hb⟩; rw [HPB.out]; have HB2 := hide (HB1.out.trans (hb.mono HB1.out.size)); have k2 := (HP.out.below HB2.out).blk.cell; have q2 := (HP.out.below HB2.out).blk.frozen; have z2 := (HP.out.below HB2.out).blk.lt; have s2 := (HB2.out.cell (p := ⟨sb, r, none⟩) HP.out.sblk.lt).trans KS.out; have qs2 := (HP.out.below HB2.out).sblk.frozen; have zs2 := (HP.out.below HB2.out).sblk.lt; unfold pk at k2; clear hb) | (go_at_call 28; (refine (alive_ok HP.out.sec HP.out.blk).mono ?_); rintro e w1 ⟨rfl, hb⟩; have HB1 := hide hb; clear hb))
    go_ret
    exact ⟨rfl, HB2.out⟩
  · go_enter Try.func11, Try.ntmps11
    go_wp2_with (first | (go_at_call 27; (refine (page_any pb db sb n seq root frm false (r : Int) w1 (HP.out.below HB1.out).blk).mono ?_); rintro e w2 ⟨rfl, hb⟩; rw [HPB.out]; have HB2 := hide (HB1.out.trans (hb.mono HB1.out.size)); have k2 := (HP.out.below HB2.out).blk.cell; have q2 := (HP.out.below HB2.out).blk.frozen; have z2 := (HP.out.below HB2.out).blk.lt; have s2 := (HB2.out.cell (p := ⟨sb, r, none⟩) HP.out.sblk.lt).trans KS.out; have qs2 := (HP.out.below HB2.out).sblk.frozen; have zs2 := (HP.out.below HB2.out).sblk.lt; unfold pk at k2; clear hb) | (go_at_call 28; (refine (alive_ok HP.out.sec HP.out.blk).mono ?_); rintro e w1 ⟨rfl, hb⟩; have HB1 := hide hb; clear hb))
    go_ret
    exact ⟨rfl, HB2.out⟩
end
end Go.Proofs.Ytddcmockdomonaa
