/- The sectors' disk: Write. -/
import Derived.Test.YtddcmockdomonaaPgE
namespace Go.Proofs.Ytddcmockdomonaa
set_option linter.unusedSimpArgs false
set_option linter.unusedVariables false
open Go.RowKit
/-- The blocks from B on stay. -/
def Kp (B : Nat) (w w' : World) : Prop := ∀ j, B ≤ j → j < w.heap.size → w'.heap[j]? = w.heap[j]?
theorem row_kp {B : Nat} {w w' : World} {e : TypeId} {size : Nat} {v : Value} {n : Nat} {xs : List Value} (h : w.ownsRow B e size v n xs) (hk : Kp B w w') : w'.ownsRow B e size v n xs :=
  row_keep h fun g hg => hk g (h.lt g hg).1 (h.lt g hg).2
theorem write_info : (Try.prog.info? TW).map (fun i => (i.zero, i.size, i.bytes)) = some (some (.agg #[.int .i64 0, .slice none 0 0]), 2, 32) := by kernel_rfl
theorem grown_of_below {w w' w'' : World} {r : Option Nat} (h : Below w.heap.size w w') (g : w'.grownBy w'' r) : w.grownBy w'' r :=
  ⟨g.os.trans h.os, g.tape.trans h.tape, g.output.trans h.output, Nat.le_trans h.size g.size, fun k hk hr => (g.block k (Nat.lt_of_lt_of_le hk h.size) hr).trans (h.block k hk)⟩
theorem sec_append {w2 w3 : World} {F : Nat → Prop} {b : Nat} {out : Bool} {left size : Int} {S : Int → Cn} {L : List (Int × Cn)} {N m : Nat} {u : Value} {n : Nat} {D : DataW Value} {us : List UW} (h : SecG w2 F b out left size S L N m u n D us)
    {at_ : Int} {c : Cn} {x V : Value} (hG : w2.grownBy w3 u.ownBlock) (ho : w3.ownsRow 0 TW 2 V (us.length + 1) (us.flatMap UW.enc ++ [.int .i64 at_, x])) (hx : w3.ownsRow w2.heap.size T8 1 x 512 (cs8 c))
    (hor : V.ownBlock = u.ownBlock ∨ ∃ g, V.ownBlock = some g ∧ w2.heap.size ≤ g) (hat : 0 ≤ at_ ∧ at_ < size) (hc : okC c) (hN : N < 100000) :
    (∃ F', Sec (w3.setCell ⟨b, 4, none⟩ V) F' b out left size S (L ++ [(at_, c)]) (N + 1) ∧ ∀ j, F' j → F j ∨ w2.heap.size ≤ j) ∧ Fr F w2 (w3.setCell ⟨b, 4, none⟩ V) := by
  have hb3 : Blk w3 b TD (dk out left size (some m) u) := h.blk.grown hG (fun e => own_blk_ne h.row h.blk (by decide) e.symm)
  have g2 : w3.grownBy (w3.setCell ⟨b, 4, none⟩ V) (some b) := gby_set _ _ _ _
  have hb5 : Blk (w3.setCell ⟨b, 4, none⟩ V) b TD (dk out left size (some m) V) := by
    have := hb3.set_ 4 V
    simpa [dk] using this
  have hsz : (w3.setCell ⟨b, 4, none⟩ V).heap.size = w3.heap.size := by simp
  have hm3 : DMap w3 m n D := h.map.kept hG (fun e => map_ne_row h.map h.row e.symm)
  refine ⟨⟨fun j => F j ∨ (w2.heap.size ≤ j ∧ j < w3.heap.size), ⟨m, V, n, D, us ++ [⟨at_, x, c⟩], ?_⟩, fun j hj => hj.imp id And.left⟩, ?_⟩
  · refine { blk := hb5, fb := .inl h.fb, fm := .inl h.fm, map := ?_, row := ?_, fu := ?_, fil := ?_, hL := ?_, sure := ?_, hn := ?_, hN := by omega, hs := h.hs, hl := h.hl, flt := ?_, dom := h.dom }
    · exact hm3.kept g2 (fun e => by injection e with e; exact map_ne hm3 hb3 e)
    · have := row_keep ho fun g hg => g2.block g (ho.lt g hg).2 (fun e => by injection e with e; subst e; exact own_blk_ne ho hb3 (by decide) hg)
      simpa [UW.enc] using this
    · intro g hg
      rcases hor with e | ⟨g', e, hg'⟩
      · exact .inl (h.fu g (e ▸ hg))
      · have := (ho.lt g hg).2
        rw [e] at hg
        injection hg with hg
        subst hg
        exact .inr ⟨hg', this⟩
    · intro y hy
      rcases List.mem_append.1 hy with hy | hy
      · exact ⟨((h.fil y hy).1.grown_row h.row hG (fun _ h => .inl h)).turn hb3 (by decide) g2 (fun _ h => h), (h.fil y hy).2⟩
      · have : y = ⟨at_, x, c⟩ := by simpa using hy
        subst this
        refine ⟨(Fil.of_row (F := fun j => F j ∨ (w2.heap.size ≤ j ∧ j < w3.heap.size)) hx hc (fun g h1 h2 => .inr ⟨h1, h2⟩)).turn hb3 (by decide) g2 (fun _ h => h), hat⟩
    · simp [h.hL]
    · intro k h0 h1
      refine ⟨fun hh => ?_, (h.sure k h0 h1).2⟩
      obtain ⟨v, hv, hf⟩ := (h.sure k h0 h1).1 hh
      exact ⟨v, hv, (hf.grown_row h.row hG (fun _ h => .inl h)).turn hb3 (by decide) g2 (fun _ h => h)⟩
    · have := h.hn
      simp; omega
    · intro j hj
      rw [hsz]
      rcases hj with hj | hj
      · exact Nat.lt_of_lt_of_le (h.flt j hj) hG.size
      · exact hj.2
  · refine (Fr.of_grown (F := F) hG (fun k hk => h.fu k hk)).trans (Fr.of_grown (F := F) g2 (fun k hk => by injection hk with hk; subst hk; exact h.fb)) (fun _ _ h => h)
set_option maxRecDepth 100000 in
set_option maxHeartbeats 1000000 in
theorem sec_write_ok {w : World} {F : Nat → Prop} {b : Nat} {out : Bool} {left size : Int} {S : Int → Cn} {L : List (Int × Cn)} {N m : Nat} {u : Value} {n : Nat} {D : DataW Value} {us : List UW} (h : SecG w F b out left size S L N m u n D us)
    (at_ : Int) (c : Cn) (v : Value) (G : Nat → Prop) (hv : Fil w G v c) (ha : faultE out size at_ = 0) (hb : burnO out left = false) (hN : N < 100000) :
    Calls Try.prog 31 #[.pointer (some ⟨b, 0, none⟩), .int .i64 at_, v] w fun e w' => e = .returned (.int .i64 0) ∧
      (∃ F', Sec w' F' b false (burnL left) size S (L ++ [(at_, c)]) (N + 1) ∧ ∀ j, F' j → F j ∨ w.heap.size ≤ j) ∧ Fr F w w' := by
  obtain ⟨g, cap, rfl, hGg, hr⟩ := hv.reads
  have HR := hide hr
  have H := hide h
  have HV := hide hv
  have hat : 0 ≤ at_ ∧ at_ < size := by unfold faultE at ha; split at ha <;> (try split at ha) <;> (try split at ha) <;> omega
  have HAT := hide hat
  clear h hr hv hat
  have HF := hide ha
  have HB := hide hb
  clear ha hb
  go_enter Try.func31, Try.ntmps31
  go_wp2_with (go_at_call 40; (refine (sec_fault at_ H.out).mono ?_); rintro e w1 ⟨rfl, h1, hb1⟩; rw [HF.out]; have H1 := hide h1; have HB1 := hide hb1; clear h1 hb1)
  refine (sec_burn H1.out).mono ?_
  rintro e w2 ⟨rfl, h2, hf2⟩
  have hv2 := (HV.out.below HB1.out (fun _ h => h)).turn H1.out.blk (by decide) hf2 (fun _ h => h)
  have HR2 : ∀ w3 : World, Below w2.heap.size w2 w3 → Reads w3 w3.heap.size 1 (some ⟨g, 0, none⟩) 512 (cs8 c) := fun w3 hb3 => by
    obtain ⟨g', cap', e', _, hr'⟩ := (hv2.below hb3 (fun _ h => h)).reads
    injection e' with e1 e2 e3
    injection e1 with e1
    injection e1 with e1
    subst e1
    exact hr'
  have HR2 := hide HR2
  have HV2 := hide hv2
  clear hv2
  rw [HB.out] at h2 ⊢
  have H2 := hide h2
  have HF2 := hide hf2
  have ku := h2.blk.cell 4
  have HKU' : ∀ w3 : World, Below w2.heap.size w2 w3 → w3.cell? ⟨b, 4, none⟩ = some u := fun w3 hb3 => (hb3.cell h2.blk.lt).trans ku
  have HKU := hide HKU'
  clear h2 hf2 ku HKU'
  obtain ⟨i0, hi0, hz0, hz1, hz2⟩ := info_parts write_info
  go_wp2
  refine wp_region_stage (by kernel_rfl) (by kernel_rfl) 34 4
    [⟨some 21, false, 0, 3, fun _ v _ => v = .pointer (some ⟨b, 0, none⟩)⟩,
     ⟨some 22, false, 0, 2, fun _ v _ => v = .pointer (some ⟨b, 0, none⟩)⟩,
     ⟨some 23, false, 0, 2, fun _ v _ => v = .pointer (some ⟨b, 0, none⟩)⟩,
     ⟨some 24, false, 0, 2, fun _ v _ => v = .pointer (some ⟨b, 4, none⟩)⟩,
     ⟨some 25, false, 0, 2, fun _ v _ => v = u⟩,
     ⟨some 26, false, 0, 1, fun _ v _ => v = .int .i64 at_⟩,
     ⟨some 27, false, 0, 0, fun _ v _ => v = .slice (some ⟨g, 0, none⟩) 512 cap⟩,
     ⟨some 28, true, 0, 0, fun _ v w' => w'.ownsRow w2.heap.size T8 1 v 512 (cs8 c)⟩,
     ⟨some 29, false, 1, 1, fun _ v w' => ∃ x, v = .agg #[.int .i64 at_, x] ∧ w'.ownsRow w2.heap.size T8 1 x 512 (cs8 c)⟩,
     ⟨some 30, true, 1, 1, fun _ v w' => ∃ g x, v = .slice (some ⟨g, 0, none⟩) 1 1 ∧ w2.heap.size ≤ g ∧ Blk w' g TW #[.int .i64 at_, x] ∧ w'.ownsRow w2.heap.size T8 1 x 512 (cs8 c)⟩,
     ⟨some 31, true, 2, 2, fun s v w' => s = 3 → ∃ x, w'.ownsRow 0 TW 2 v (us.length + 1) (us.flatMap UW.enc ++ [.int .i64 at_, x]) ∧ w'.ownsRow w2.heap.size T8 1 x 512 (cs8 c) ∧ (v.ownBlock = u.ownBlock ∨ ∃ g, v.ownBlock = some g ∧ w2.heap.size ≤ g)⟩,
     ⟨some 32, false, 0, 3, fun _ v _ => v = .pointer (some ⟨b, 0, none⟩)⟩,
     ⟨some 33, false, 0, 3, fun _ v _ => v = .pointer (some ⟨b, 4, none⟩)⟩,
     ⟨none, true, 3, 3, fun _ _ _ => True⟩] (fun s w' => (s ≤ 2 → Below w2.heap.size w2 w') ∧ (s = 3 → w2.grownBy w' u.ownBlock) ∧ (s = 4 → (∃ F', Sec w' F' b false (burnL left) size S (L ++ [(at_, c)]) (N + 1) ∧ ∀ j, F' j → F j ∨ w2.heap.size ≤ j) ∧ Fr F w2 w')) (fun _ w w' => Kp w2.heap.size w w') [21, 22, 23, 24, 25, 26, 27, 28, 29, 30, 31, 32, 33] rfl (by kernel_rfl) rfl ?g0 ?keep ?steps ?fin
  case keep =>
    intro e he s v w w' hm hsM ht hv
    simp only [List.mem_cons, List.not_mem_nil, or_false] at he
    rcases he with rfl | rfl | rfl | rfl | rfl | rfl | rfl | rfl | rfl | rfl | rfl | rfl | rfl | rfl
    all_goals first | exact hv | exact row_kp hv ht | (obtain ⟨x, e, hx⟩ := hv; exact ⟨x, e, row_kp hx ht⟩) | (obtain ⟨g, x, e, hg, hb, hx⟩ := hv; exact ⟨g, x, e, hg, (ht g hg hb.lt).trans hb, row_kp hx ht⟩) | (intro h3; have := hm rfl; simp only [] at this; omega)
  case steps =>
    refine ⟨?_, ?_, ?_, ?_, ?_, ?_, ?_, ?_, ?_, ?_, ?_, ?_, ?_, ?_, trivial⟩
    · intro st hlo hhi ac w3 hg hG hd K hK
      dsimp only at hlo hhi hG hK
      exact op_move _ rfl (hK _ (hg.kp 0 (by simp)))
    · intro st hlo hhi ac w3 hg hG hd K hK
      dsimp only at hlo hhi hG hK
      exact op_move _ rfl (hK _ (hg.kp 0 (by simp)))
    · intro st hlo hhi ac w3 hg hG hd K hK
      dsimp only at hlo hhi hG hK
      have f1 := hd ⟨1, .data⟩ (by simp) rfl _ rfl _ rfl
      (try simp [Act.eval] at f1)
      go_simp
      exact hK _ rfl
    · intro st hlo hhi ac w3 hg hG hd K hK
      dsimp only at hlo hhi hG hK
      have f2 := hd ⟨2, .data⟩ (by simp) rfl _ rfl _ rfl
      (try simp [Act.eval] at f2)
      go_simp
      exact hK _ rfl
    · intro st hlo hhi ac w3 hg hG hd K hK
      dsimp only at hlo hhi hG hK
      have kc := HKU.out w3 (hG.1 hhi)
      have f3 := hd ⟨3, .data⟩ (by simp) rfl _ rfl _ rfl
      (try simp [Act.eval] at f3)
      go_simp
      exact hK _ rfl
    · intro st hlo hhi ac w3 hg hG hd K hK
      dsimp only at hlo hhi hG hK
      exact op_move _ rfl (hK _ (hg.kp 1 (by simp)))
    · intro st hlo hhi ac w3 hg hG hd K hK
      dsimp only at hlo hhi hG hK
      exact op_move _ rfl (hK _ (hg.kp 2 (by simp)))
    · intro ac w3 hg hG hd K hK
      dsimp only [Nat.zero_add, Nat.reduceAdd] at hG hK
      have f6 := hd ⟨6, .data⟩ (by simp) rfl _ rfl _ rfl
      simp [Act.eval] at f6
      go_simp
      refine (clone_any ⟨g, 0, none⟩ 512 cap (cs8 c) w3 (HR2.out w3 (hG.1 (by decide))) (cs8_one c) (by omega)).mono ?_
      rintro e w4 ⟨v4, rfl, ho4, hb4⟩
      have hb24 := (hG.1 (by decide)).trans (hb4.mono (hG.1 (by decide)).size)
      exact hK v4 w4 (fun j _ hj => hb4.block j hj) (And.intro (fun _ => hb24) (And.intro (fun h => absurd h (by decide)) (fun h => absurd h (by decide)))) (own_base ho4 (hG.1 (by decide)).size)
    · intro st hlo hhi ac w3 hg hG hd K hK
      dsimp only at hlo hhi hG hK
      have f5 := hd ⟨5, .data⟩ (by simp) rfl _ rfl _ rfl
      have f7 := hd ⟨7, .data⟩ (by simp) rfl _ rfl _ rfl
      obtain ⟨g7, c7, e7, _, _⟩ := f7.form (by omega)
      rw [e7] at f7
      have F7 := hide f7
      clear f7
      simp [Act.eval] at f5 e7
      go_simp
      exact hK _ ⟨_, rfl, F7.out⟩
    · intro ac w3 hg hG hd K hK
      dsimp only [Nat.zero_add, Nat.reduceAdd] at hG hK
      obtain ⟨x, f8, hx⟩ := hd ⟨8, .data⟩ (by simp) rfl _ rfl _ rfl
      obtain ⟨g7, c7, e7, _, _⟩ := hx.form (by omega)
      subst e7
      have F7 := hide hx
      clear hx
      simp [Act.eval] at f8
      go_simp
      have hb2 := hG.1 (by decide)
      exact hK (.slice (some ⟨w3.heap.size, 0, none⟩) 1 1) _ (fun j _ hj => Below.heap_alloc w3 _ j hj) (And.intro (fun _ => hb2.alloc hb2.size _) (And.intro (fun h => absurd h (by decide)) (fun h => absurd h (by decide)))) ⟨_, _, rfl, hb2.size, Blk.new w3 _ _, row_kp F7.out (fun j _ hj => Below.heap_alloc w3 _ j hj)⟩
    · intro ac w3 hg hG hd K hK
      dsimp only [Nat.zero_add, Nat.reduceAdd] at hG hK
      have f4 := hd ⟨4, .data⟩ (by simp) rfl _ rfl _ rfl
      obtain ⟨gx, x, f9, hgx, hbx, hx⟩ := hd ⟨9, .data⟩ (by simp) rfl _ rfl _ rfl
      have hb2 := hG.1 (by decide)
      have hrow := own_later H2.out.row hb2
      have hul := H2.out.hn
      have hul2 := H2.out.hN
      refine wp_append_any w3 (.tmp 25) (.tmp 30) 63 rfl 0 TW i0 _ 2 32 Try.underlying63 hi0 hz0 hz1 hz2 rfl (by omega) u us.length (us.flatMap UW.enc) f4 hrow w3.heap.size (some ⟨gx, 0, none⟩) 1 1 [.int .i64 at_, x] f9 ⟨rfl, fun _ => ⟨_, rfl, hbx.lt, fun j y hy => ?_⟩⟩ ?_ (by unfold maxLen; omega) (by omega) (Nat.zero_le _) ?_
      · (rw [show (⟨gx, 0, none⟩ : Addr).add j = ⟨gx, j, none⟩ by unfold Addr.add; split <;> simp_all, hbx.cell, ← Array.getElem?_toList]; exact hy)
      · (intro y hy; simp at hy; obtain ⟨g7, c7, e7, _, _⟩ := hx.form (by omega); subst e7; rcases hy with rfl | rfl <;> rfl)
      intro v' w4 ho hg4 hor
      refine hK v' w4 (fun j h1 h2 => hg4.block j h2 (fun e => ?_)) (And.intro (fun h => absurd h (by decide)) (And.intro (fun _ => grown_of_below hb2 hg4) (fun h => absurd h (by decide)))) (fun _ => ⟨x, ho, row_kp hx (fun j h1 h2 => hg4.block j h2 (fun e => ?_)), hor.imp id (fun e => ⟨_, e, hb2.size⟩)⟩)
      · have := (H2.out.row.lt j e.symm).2; omega
      · have := (H2.out.row.lt j e.symm).2; omega
    · intro st hlo hhi ac w3 hg hG hd K hK
      dsimp only at hlo hhi hG hK
      have f0 := hd ⟨0, .data⟩ (by simp) rfl _ rfl _ rfl
      (try simp [Act.eval] at f0)
      go_simp
      exact hK _ rfl
    · intro st hlo hhi ac w3 hg hG hd K hK
      dsimp only at hlo hhi hG hK
      have f11 := hd ⟨11, .data⟩ (by simp) rfl _ rfl _ rfl
      (try simp [Act.eval] at f11)
      go_simp
      exact hK _ rfl
    · intro ac w3 hg hG hd K hK
      dsimp only [Nat.zero_add, Nat.reduceAdd] at hG hK
      obtain ⟨x, ho, hx, hor⟩ := hd ⟨10, .data⟩ (by simp) rfl _ rfl _ rfl rfl
      have f12 := hd ⟨12, .data⟩ (by simp) rfl _ rfl _ rfl
      have f10 := ho.form (by omega)
      obtain ⟨gv, cv, f10, _, _⟩ := f10
      have hg3 := hG.2.1 rfl
      have hb3 : Blk w3 b TD (dk false (burnL left) size (some m) u) := H2.out.blk.grown hg3 (fun e => own_blk_ne H2.out.row H2.out.blk (by decide) e.symm)
      have kb := hb3.cell 4
      have qb := hb3.frozen 4
      have zb := hb3.lt
      have FIN := hide (sec_append H2.out hg3 ho hx hor HAT.out HV.out.1.1 hN)
      rw [f10] at FIN
      clear ho hx hor hb3 hg3
      simp [Act.eval] at f10 f12
      simp [dk] at kb
      go_simp
      refine hK undef _ (fun j h1 h2 => (gby_set w3 b 4 _).block j h2 (fun e => ?_)) (And.intro (fun h => absurd h (by decide)) (And.intro (fun h => absurd h (by decide)) (fun _ => FIN.out))) trivial
      injection e with e
      have := H2.out.blk.lt
      omega
  case g0 => exact And.intro (fun _ => (Below.refl _ _).drew) (And.intro (fun h => absurd h (by decide)) (fun h => absurd h (by decide)))
  case fin =>
    intro f w5 hG hall
    have HG := hide (hG.2.2 rfl)
    have HS := hide (Nat.le_trans HB1.out.size HF2.out.size)
    have HFR := hide ((Fr.of_below (F := F) HB1.out).trans ((Fr.of_grown (F := F) HF2.out (fun k hk => by injection hk with hk; subst hk; exact H.out.fb)).trans HG.out.2 (fun _ _ h => h)) (fun _ _ h => h))
    clear hG hall
    simp only [fillF, List.map_cons, List.map_nil, List.foldl_cons, List.foldl_nil, Act.put, List.setIfInBounds_toArray, List.set_cons_zero, List.set_cons_succ]
    go_wp2
    go_ret
    refine ⟨rfl, ?_, HFR.out⟩
    obtain ⟨F', h1, h2⟩ := HG.out.1
    exact ⟨F', h1, fun j hj => (h2 j hj).imp id (fun h => Nat.le_trans HS.out h)⟩
end Go.Proofs.Ytddcmockdomonaa
