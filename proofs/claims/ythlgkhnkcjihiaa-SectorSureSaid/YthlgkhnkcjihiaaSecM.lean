/- The document's disk: in memory; fault, burns, Now, Read. -/
import Derived.Test.YthlgkhnkcjihiaaSecL
namespace Go.Proofs.Ythlgkhnkcjihiaa
set_option linter.unusedSimpArgs false
set_option linter.unusedVariables false
open Go.RowKit
abbrev TR : TypeId := 36
/-- A reference disk's block. -/
def rk (size : Int) (u : Value) (sure : Nat) (left : Int) (out : Bool) : Array Value := #[.int .i64 size, u, .int .i64 sure, .int .i64 left, .bool out]
structure RefG (w : World) (F : Nat → Prop) (b : Nat) (size : Int) (LG : List (Int × Int)) (sure : Nat) (left : Int) (out : Bool) (N : Nat) (u : Value) (us : List UW) : Prop where
  blk : Blk w b TR (rk size u sure left out)
  fb : F b
  row : w.ownsRow 0 TW 2 u us.length (us.flatMap UW.enc)
  fu : ∀ g, u.ownBlock = some g → F g
  fil : ∀ x ∈ us, Fil w F x.v x.c
  hL : us.map (fun x => (x.at_, x.c)) = LG
  hn : us.length ≤ N
  hN : N ≤ 200000
  hl : 0 ≤ left ∧ left < 9223372036854775808
  hsu : sure ≤ LG.length
  flt : ∀ j, F j → j < w.heap.size
def Ref (w : World) (F : Nat → Prop) (b : Nat) (size : Int) (LG : List (Int × Int)) (sure : Nat) (left : Int) (out : Bool) (N : Nat) : Prop := ∃ u us, RefG w F b size LG sure left out N u us
section
variable {w w' : World} {F F' : Nat → Prop} {b : Nat} {size : Int} {LG : List (Int × Int)} {sure : Nat} {left : Int} {out : Bool} {N : Nat} {u : Value} {us : List UW}
theorem RefG.keep (h : RefG w F b size LG sure left out N u us) (hk : ∀ j, F j → w'.heap[j]? = w.heap[j]?) (hF : ∀ j, F j → F' j) (hlt : ∀ j, F' j → j < w'.heap.size) : RefG w' F' b size LG sure left out N u us where
  blk := (hk b h.fb).trans h.blk
  fb := hF b h.fb
  row := row_keep h.row fun g hg => hk g (h.fu g hg)
  fu := fun g hg => hF g (h.fu g hg)
  fil := fun x hx => (h.fil x hx).keep hk hF
  hL := h.hL
  hn := h.hn
  hN := h.hN
  hl := h.hl
  hsu := h.hsu
  flt := hlt
theorem RefG.below (h : RefG w F b size LG sure left out N u us) (hb : Below w.heap.size w w') : RefG w' F b size LG sure left out N u us :=
  h.keep (fun j hj => hb.block j (h.flt j hj)) (fun _ hj => hj) (fun j hj => Nat.lt_of_lt_of_le (h.flt j hj) hb.size)
theorem Ref.below (h : Ref w F b size LG sure left out N) (hb : Below w.heap.size w w') : Ref w' F b size LG sure left out N := by
  obtain ⟨u, us, h⟩ := h
  exact ⟨u, us, h.below hb⟩
theorem Ref.apart {G : Nat → Prop} (h : Ref w F b size LG sure left out N) (hb : Fr G w w') (hd : ∀ j, F j → ¬ G j) : Ref w' F b size LG sure left out N := by
  obtain ⟨u, us, h⟩ := h
  exact ⟨u, us, h.keep (fun j hj => hb.block j (h.flt j hj) (hd j hj)) (fun _ hj => hj) (fun j hj => Nat.lt_of_lt_of_le (h.flt j hj) hb.size)⟩
theorem Ref.lt (h : Ref w F b size LG sure left out N) : ∀ j, F j → j < w.heap.size := by
  obtain ⟨u, us, h⟩ := h
  exact h.flt
theorem Ref.fb (h : Ref w F b size LG sure left out N) : F b := by
  obtain ⟨u, us, h⟩ := h
  exact h.fb
theorem Ref.more {N' : Nat} (h : Ref w F b size LG sure left out N) (h1 : N ≤ N') (h2 : N' ≤ 200000) : Ref w F b size LG sure left out N' := by
  obtain ⟨u, us, h⟩ := h
  exact ⟨u, us, { h with hn := Nat.le_trans h.hn h1, hN := h2 }⟩
/-- The disk's own block is written. -/
theorem RefG.own {sure' : Nat} {left' : Int} {out' : Bool} (h : RefG w F b size LG sure left out N u us) (hb : w.grownBy w' (some b)) (hB : Blk w' b TR (rk size u sure' left' out')) (hl' : 0 ≤ left' ∧ left' < 9223372036854775808) (hs' : sure' ≤ LG.length) :
    RefG w' F b size LG sure' left' out' N u us where
  blk := hB
  fb := h.fb
  row := row_keep h.row fun g hg => hb.block g (h.flt g (h.fu g hg)) (fun e => by injection e with e; subst e; exact own_blk_ne h.row h.blk (by decide) hg)
  fu := h.fu
  fil := fun x hx => (h.fil x hx).turn h.blk (by decide) hb (fun _ h => h)
  hL := h.hL
  hn := h.hn
  hN := h.hN
  hl := hl'
  hsu := hs'
  flt := fun j hj => Nat.lt_of_lt_of_le (h.flt j hj) hb.size
end
set_option maxHeartbeats 1000000 in
theorem rfault_any (b : Nat) (out : Bool) (left size at_ : Int) (sure : Nat) (u : Value) (w : World) (h : Blk w b TR (rk size u sure left out)) :
    Calls Try.prog 39 #[.pointer (some ⟨b, 0, none⟩), .int .i64 at_] w fun e w' => e = .returned (.int .i64 (faultE out size at_)) ∧ Below w.heap.size w w' := by
  have kx := h.cell; have qx := h.frozen; have zx := h.lt
  unfold rk at kx
  clear h
  unfold faultE
  cases out
  · cases d : decide (at_ < 0)
    · have d0 : ¬ at_ < 0 := by simpa using d
      cases d2 : decide (size ≤ at_)
      · have d3 : ¬ size ≤ at_ := by simpa using d2
        simp only [if_neg d0, if_neg d3, Bool.false_eq_true, if_false]
        clear d0 d3
        go_enter Try.func39, Try.ntmps39
        go_wp2_with fail
        go_ret
        exact ⟨rfl, by (repeat (first | exact Below.refl _ _ | refine Below.drew ?_ | refine Below.setCell ?_ (by simp; try omega) _ | refine bal ?_ _))⟩
      · have d3 : size ≤ at_ := by simpa using d2
        simp only [if_neg d0, if_pos d3, Bool.false_eq_true, if_false]
        clear d0 d3
        go_enter Try.func39, Try.ntmps39
        go_wp2_with fail
        go_ret
        exact ⟨rfl, by (repeat (first | exact Below.refl _ _ | refine Below.drew ?_ | refine Below.setCell ?_ (by simp; try omega) _ | refine bal ?_ _))⟩
    · have d0 : at_ < 0 := by simpa using d
      simp only [if_pos d0, Bool.false_eq_true, if_false]
      clear d0
      go_enter Try.func39, Try.ntmps39
      go_wp2_with fail
      go_ret
      exact ⟨rfl, by (repeat (first | exact Below.refl _ _ | refine Below.drew ?_ | refine Below.setCell ?_ (by simp; try omega) _ | refine bal ?_ _))⟩
  · simp only [if_true]
    go_enter Try.func39, Try.ntmps39
    go_wp2_with fail
    go_ret
    exact ⟨rfl, by (repeat (first | exact Below.refl _ _ | refine Below.drew ?_ | refine Below.setCell ?_ (by simp; try omega) _ | refine bal ?_ _))⟩
set_option maxHeartbeats 1000000 in
theorem rburns_any (b : Nat) (left size : Int) (sure : Nat) (u : Value) (w : World) (h : Blk w b TR (rk size u sure left false)) (hl : 0 ≤ left ∧ left < 9223372036854775808) :
    Calls Try.prog 32 #[.pointer (some ⟨b, 0, none⟩)] w fun e w' => e = .returned (.bool (burnO false left)) ∧ Blk w' b TR (rk size u sure (burnL left) (burnO false left)) ∧ w.grownBy w' (some b) := by
  have HB := hide h
  have kx := h.cell; have qx := h.frozen; have zx := h.lt
  unfold rk at kx
  obtain ⟨l1, l2⟩ := hl
  unfold burnO burnL
  cases d : decide (0 < left)
  · have d' : ¬ 0 < left := by simpa using d
    rw [if_neg d', if_neg d']
    clear d' h
    go_enter Try.func32, Try.ntmps32
    go_wp2_with fail
    go_ret
    exact ⟨rfl, HB.out, World.grownBy.refl _ _⟩
  · have d' : 0 < left := by simpa using d
    rw [if_pos d', if_pos d']
    clear d' h
    cases d2 : (left - 1 == 0)
    · go_enter Try.func32, Try.ntmps32
      go_wp2_with fail
      go_ret
      exact ⟨rfl, HB.out.set_ 3 (.int .i64 (left - 1)), gby_set _ _ _ _⟩
    · go_enter Try.func32, Try.ntmps32
      go_wp2_with fail
      go_ret
      exact ⟨rfl, (HB.out.set_ 3 (.int .i64 (left - 1))).set_ 4 (.bool true), (gby_set _ _ _ _).trans (gby_set _ _ _ _)⟩
theorem now_at (us : List UW) (S : Int → Int) (at_ : Int) :
    (∀ p (hp : p < us.length), us[p].at_ = at_ → (∀ k (hk : k < us.length), p < k → us[k].at_ ≠ at_) → nowC S (us.map (fun x => (x.at_, x.c))) at_ = us[p].c) ∧
    ((∀ k (hk : k < us.length), us[k].at_ ≠ at_) → nowC S (us.map (fun x => (x.at_, x.c))) at_ = S at_) := by
  have hm := now_map (fun x : UW => (x.at_, x.c)) us.reverse S (us.map (fun x => (x.at_, x.c))) (by rw [List.map_reverse]) at_
  constructor
  · intro p hp h1 h2
    refine hm.1 (us.drop (p + 1)).reverse us[p] (us.take p).reverse ?_ (fun x hx => ?_) h1
    · have : us = us.take p ++ us[p] :: us.drop (p + 1) := by rw [← List.drop_eq_getElem_cons hp, List.take_append_drop]
      calc us.reverse = (us.take p ++ us[p] :: us.drop (p + 1)).reverse := by rw [← this]
        _ = _ := by simp
    · rw [List.mem_reverse] at hx
      obtain ⟨i, hi, rfl⟩ := List.mem_iff_getElem.1 hx
      rw [List.getElem_drop]
      exact h2 _ _ (by omega)
  · intro h
    refine hm.2 (fun x hx => ?_)
    rw [List.mem_reverse] at hx
    obtain ⟨i, hi, rfl⟩ := List.mem_iff_getElem.1 hx
    exact h i hi
theorem fresh_grown {w w2 : World} (o : Obj) (h : (w.alloc o).grownBy w2 (some w.heap.size)) : Below w.heap.size w w2 :=
  ((Below.refl _ _).alloc (Nat.le_refl _) o).trans ⟨h.os, h.tape, h.output, h.size, fun j hj => h.block j (by simp; omega) (by intro e; cases e; omega)⟩
set_option maxRecDepth 100000 in
set_option maxHeartbeats 1000000 in
theorem rnow_any (b : Nat) (size : Int) (A : Option Addr) (n cap sure : Nat) (left : Int) (out : Bool) (us : List UW) (at_ : Int) (w : World) (h : Blk w b TR (rk size (.slice A n cap) sure left out))
    (hr : Sl 2 UW.enc w w.heap.size A n us) (hf : ∀ x ∈ us, ∃ F, Fil w F x.v x.c) (hn : n ≤ 200000) :
    Calls Try.prog 13 #[.pointer (some ⟨b, 0, none⟩), .int .i64 at_] w fun e w' => ∃ v, e = .returned v ∧ Fil w' (fun j => w.heap.size ≤ j) v (nowC (fun _ => 0) (us.map (fun x => (x.at_, x.c))) at_) ∧ Below w.heap.size w w' := by
  have HB := hide h
  have HR := hide hr
  have HF := hide hf
  have kx := h.cell; have qx := h.frozen; have zx := h.lt
  unfold rk at kx
  clear h hr hf
  obtain ⟨i0, hi0, hz0, hz1, hz2⟩ := info_parts u8_info
  go_enter Try.func13, Try.ntmps13
  go_wp2_with fail
  go_loopw [5] (fun i wr => ∃ q : Nat, q ≤ n ∧ i = .int .i64 ((q : Int) - 1) ∧ Hid (Below w.heap.size w wr ∧ ∀ k (hk : k < us.length), q ≤ k → us[k].at_ ≠ at_)) (fun i _ => (intOf i + 1).toNat)
  case atStart => exact ⟨n, Nat.le_refl _, rfl, hide ⟨Below.refl _ _, fun k hk h => absurd hk (by have := HR.out.len; omega)⟩⟩
  case round =>
    clear kx qx zx
    obtain ⟨q, hq, rfl, HI⟩ := hrel
    have hl := HR.out.len
    have kb := HB.out.below HI.out.1 HB.out.lt
    have kx := kb.cell; have qx := kb.frozen; have zx := kb.lt
    unfold rk at kx
    clear kb
    cases q with
    | zero =>
      have hmk := run_make_row' (P := Try.prog) 31 5 (.int .u8 0) 1 Try.underlying31 u8_info rfl .i64 .i64 512 (by omega) (by omega)
      have hM0 : ∀ j, j < 512 → (madeCells #[Value.int .u8 0] 512)[j]? = some (.int .u8 0) := fun j hj => by rw [fillA_0 0 512, fillA_at 0 hj]; simp
      obtain ⟨M, hM⟩ : ∃ M, madeCells #[Value.int .u8 0] 512 = M := ⟨_, rfl⟩
      rw [hM] at hmk hM0
      clear hM
      simp only [Int.cast_ofNat_Int] at hmk
      have HM0 := hide hM0
      clear hM0 hl
      go_wp2
      go_ret
      refine ⟨_, rfl, ?_, HI.out.1.alloc HI.out.1.size _⟩
      rw [(now_at us (fun _ => 0) at_).2 (fun k hk => HI.out.2 k hk (Nat.zero_le _))]
      exact ⟨by omega, wr.heap.size, 512, M, rfl, HI.out.1.size, Blk.new _ _ _, HM0.out⟩
    | succ p =>
      have hp : p < us.length := by omega
      obtain ⟨bg, o, rfl, hbg, hc⟩ := Sl.at (HR.out.below HI.out.1) (fun _ => rfl) (by omega) (by omega : 0 < n)
      obtain ⟨F, hF⟩ := HF.out us[p] (List.getElem_mem hp)
      have hF' := hF.below HI.out.1 (fun _ h => h)
      obtain ⟨gd, cd, ev, _, hrd⟩ := hF'.reads
      have c0 := hc p hp 0 _ rfl
      have c1 := hc p hp 1 _ rfl
      rw [ev] at c1
      obtain ⟨xa, hxa⟩ : ∃ xa, us[p].at_ = xa := ⟨_, rfl⟩
      rw [hxa] at c0
      simp only [Nat.add_zero] at c0
      have zg : bg < wr.heap.size := Nat.lt_of_lt_of_le hbg HI.out.1.size
      have HXA := hide hxa
      have HRD := hide hrd
      have HFC := hide hF.1
      clear hc hF hF' ev hrd hxa hl
      rw [show (((p + 1 : Nat) : Int) - 1) = (p : Int) by omega]
      have hpn : (p : Int) < n := by omega
      by_cases hx : xa = at_
      · subst hx
        go_wp2_with (at_builtin; (refine wpList_append_any _ rfl (.tmp 26) (.tmp 34) _ rfl wr.heap.size 5 i0 _ 1 1 Try.underlying31 hi0 hz0 hz1 hz2 rfl (by omega) _ 0 [] rfl (World.ownsRow_lit wr #[] 0 (Nat.le_refl _) (by unfold maxLen; omega) rfl) wr.heap.size (some ⟨gd, 0, none⟩) 512 cd (cs8 us[p].c) rfl (Reads.al (Nat.le_refl _) HRD.out _) (cs8_one _) (by unfold maxLen; omega) (by omega) (by simp) ?_); intro v' w2 ho hg _; have HO := hide ho; have HG := hide hg; clear ho hg)
        go_ret
        have ho := HO.out
        simp only [List.nil_append, Nat.zero_add] at ho
        have hbw := fresh_grown _ HG.out
        refine ⟨_, rfl, ?_, HI.out.1.trans (hbw.mono HI.out.1.size)⟩
        rw [(now_at us (fun _ => 0) xa).1 p hp HXA.out (fun k hk h => HI.out.2 k hk (by omega))]
        exact Fil.of_row ho HFC.out (fun g h1 _ => Nat.le_trans HI.out.1.size h1)
      · have d : (xa == at_) = false := by simpa using hx
        go_wp2
        go_roundw
        case rel => exact ⟨p, by omega, by go_num, hide ⟨HI.out.1, fun k hk h => by
          rcases Nat.lt_or_ge p k with h1 | h1
          · exact HI.out.2 k hk h1
          · have : k = p := by omega
            subst this
            rw [HXA.out]; exact hx⟩⟩
        case measure => simp [intOf]
theorem Ref.forms {w : World} {F : Nat → Prop} {b : Nat} {size : Int} {LG : List (Int × Int)} {sure : Nat} {left : Int} {out : Bool} {N : Nat} {u : Value} {us : List UW} (h : RefG w F b size LG sure left out N u us) :
    ∃ A cap, u = .slice A us.length cap ∧ us.length ≤ cap ∧ Sl 2 UW.enc w w.heap.size A us.length us := by
  obtain ⟨A, c, hv, h1, _, h2⟩ := Sl.of_owns (l := us) (n := us.length) (enc := UW.enc) h.row rfl rfl rfl
  exact ⟨A, c, hv, h1, h2⟩
set_option maxRecDepth 100000 in
set_option maxHeartbeats 1000000 in
theorem ref_read {w : World} {F : Nat → Prop} {b : Nat} {size : Int} {LG : List (Int × Int)} {sure : Nat} {left : Int} {out : Bool} {N : Nat} (h : Ref w F b size LG sure left out N) (at_ : Int) :
    Calls Try.prog 33 #[.pointer (some ⟨b, 0, none⟩), .int .i64 at_] w fun e w' => ∃ v, e = .returned (.tuple #[v, .int .i64 (faultE out size at_)]) ∧
      (faultE out size at_ = 0 → Fil w' (fun j => w.heap.size ≤ j) v (nowC (fun _ => 0) LG at_)) ∧ (faultE out size at_ ≠ 0 → v = .slice none 0 0) ∧ Below w.heap.size w w' := by
  obtain ⟨u, us, h⟩ := h
  obtain ⟨A, cap, rfl, _, hs⟩ := Ref.forms h
  have H := hide h
  have HS := hide hs
  have HL := hide h.hL
  have hul : us.length ≤ 200000 := by have := h.hn; have := h.hN; omega
  obtain ⟨E, hE⟩ : ∃ E, faultE out size at_ = E := ⟨_, rfl⟩
  have HE := hide hE
  rw [hE]
  clear h hs hE
  cases d : (E == 0)
  · go_enter Try.func33, Try.ntmps33
    go_wp2_with (go_at_call 39; (refine (rfault_any b out left size at_ sure _ w H.out.blk).mono ?_); rintro e w1 ⟨rfl, hb1⟩; rw [HE.out]; have HB1 := hide hb1; clear hb1)
    have d' : E ≠ 0 := by simpa using d
    refine bodyPost_ret (v := .tuple #[.slice none 0 0, .int .i64 E]) (by simp [results, Try.results33, go_sem]) rfl ⟨_, rfl, fun h => absurd h d', fun _ => rfl, HB1.out⟩
  · have d' : E = 0 := by simpa using d
    subst d'
    clear d
    go_enter Try.func33, Try.ntmps33
    go_wp2_with (first | (go_at_call 39; (refine (rfault_any b out left size at_ sure _ w H.out.blk).mono ?_); rintro e w1 ⟨rfl, hb1⟩; rw [HE.out]; have HB1 := hide hb1; clear hb1) | (go_at_call 13; (refine (rnow_any b size A us.length cap sure left out us at_ w1 (H.out.below HB1.out).blk (HS.out.later HB1.out) (fun x hx => ⟨F, (H.out.below HB1.out).fil x hx⟩) hul).mono ?_); rintro e w2 ⟨v, rfl, hf2, hb2⟩; have HF2 := hide hf2; have HB2 := hide hb2; clear hf2 hb2))
    refine bodyPost_ret (v := .tuple #[v, .int .i64 0]) (by simp [results, Try.results33, go_sem]) rfl ⟨_, rfl, fun _ => ?_, fun h => absurd rfl h, HB1.out.trans (HB2.out.mono HB1.out.size)⟩
    have := HF2.out
    rw [HL.out] at this
    obtain ⟨hc, g, cap, cs, e, hf, hb, hcs⟩ := this
    exact ⟨hc, g, cap, cs, e, Nat.le_trans HB1.out.size hf, hb, hcs⟩
end Go.Proofs.Ythlgkhnkcjihiaa
