/- The document's disk: Write. -/
import Derived.Test.YthlgkhnkcjihiaaSecM
namespace Go.Proofs.Ythlgkhnkcjihiaa
set_option linter.unusedSimpArgs false
set_option linter.unusedVariables false
open Go.RowKit
theorem ref_append {w2 w3 : World} {F : Nat → Prop} {b : Nat} {size : Int} {LG : List (Int × Int)} {sure : Nat} {left : Int} {out : Bool} {N : Nat} {u : Value} {us : List UW} (h : RefG w2 F b size LG sure left out N u us)
    {at_ c : Int} {x V : Value} (hG : w2.grownBy w3 u.ownBlock) (ho : w3.ownsRow 0 TW 2 V (us.length + 1) (us.flatMap UW.enc ++ [.int .i64 at_, x])) (hx : w3.ownsRow w2.heap.size T8 1 x 512 (cs8 c))
    (hor : V.ownBlock = u.ownBlock ∨ ∃ g, V.ownBlock = some g ∧ w2.heap.size ≤ g) (hc : 0 ≤ c ∧ c < 256) (hN : N < 200000) :
    (∃ F', Ref (w3.setCell ⟨b, 1, none⟩ V) F' b size (LG ++ [(at_, c)]) sure left out (N + 1) ∧ ∀ j, F' j → F j ∨ w2.heap.size ≤ j) ∧ Fr F w2 (w3.setCell ⟨b, 1, none⟩ V) := by
  have hb3 : Blk w3 b TR (rk size u sure left out) := h.blk.grown hG (fun e => own_blk_ne h.row h.blk (by decide) e.symm)
  have g2 : w3.grownBy (w3.setCell ⟨b, 1, none⟩ V) (some b) := gby_set _ _ _ _
  have hb5 : Blk (w3.setCell ⟨b, 1, none⟩ V) b TR (rk size V sure left out) := by
    have := hb3.set_ 1 V
    simpa [rk] using this
  have hsz : (w3.setCell ⟨b, 1, none⟩ V).heap.size = w3.heap.size := by simp
  refine ⟨⟨fun j => F j ∨ (w2.heap.size ≤ j ∧ j < w3.heap.size), ⟨V, us ++ [⟨at_, x, c⟩], ?_⟩, fun j hj => hj.imp id And.left⟩, ?_⟩
  · refine { blk := hb5, fb := .inl h.fb, row := ?_, fu := ?_, fil := ?_, hL := by simp [h.hL], hn := by have := h.hn; simp; omega, hN := by omega, hl := h.hl, hsu := by have := h.hsu; simp; omega, flt := ?_ }
    · have := row_keep ho fun g hg => g2.block g (ho.lt g hg).2 (fun e => by injection e with e; subst e; exact own_blk_ne ho hb3 (by decide) hg)
      simpa [UW.enc] using this
    · intro g hg
      rcases hor with e | ⟨g', e, hg'⟩
      · exact .inl (h.fu g (e ▸ hg))
      · have := (ho.lt g hg).2
        rw [e] at hg
        injection hg with hg
        subst hg
        exact .inr ⟨hg', this⟩
    · intro y hy
      rcases List.mem_append.1 hy with hy | hy
      · exact ((h.fil y hy).grown_row h.row hG (fun _ h => .inl h)).turn hb3 (by decide) g2 (fun _ h => h)
      · have : y = ⟨at_, x, c⟩ := by simpa using hy
        subst this
        exact (Fil.of_row (F := fun j => F j ∨ (w2.heap.size ≤ j ∧ j < w3.heap.size)) hx hc (fun g h1 h2 => .inr ⟨h1, h2⟩)).turn hb3 (by decide) g2 (fun _ h => h)
    · intro j hj
      rw [hsz]
      rcases hj with hj | hj
      · exact Nat.lt_of_lt_of_le (h.flt j hj) hG.size
      · exact hj.2
  · refine (Fr.of_grown (F := F) hG (fun k hk => h.fu k hk)).trans (Fr.of_grown (F := F) g2 (fun k hk => by injection hk with hk; subst hk; exact h.fb)) (fun _ _ h => h)
set_option maxRecDepth 100000 in
set_option maxHeartbeats 1000000 in
theorem ref_write_ok {w : World} {F : Nat → Prop} {b : Nat} {size : Int} {LG : List (Int × Int)} {sure : Nat} {left : Int} {N : Nat} {u : Value} {us : List UW} (h : RefG w F b size LG sure left false N u us)
    (at_ c : Int) (v : Value) (G : Nat → Prop) (hv : Fil w G v c) (ha : faultE false size at_ = 0) (hb : burnO false left = false) (hN : N < 200000) :
    Calls Try.prog 34 #[.pointer (some ⟨b, 0, none⟩), .int .i64 at_, v] w fun e w' => e = .returned (.int .i64 0) ∧
      (∃ F', Ref w' F' b size (LG ++ [(at_, c)]) sure (burnL left) false (N + 1) ∧ ∀ j, F' j → F j ∨ w.heap.size ≤ j) ∧ Fr F w w' := by
  obtain ⟨g, cap, rfl, hGg, hr⟩ := hv.reads
  have H := hide h
  have HV := hide hv
  clear h hr hv
  have HF := hide ha
  have HB := hide hb
  clear ha hb
  go_enter Try.func34, Try.ntmps34
  go_wp2_with (first | (go_at_call 39; (refine (rfault_any b false left size at_ sure u w H.out.blk).mono ?_); rintro e w1 ⟨rfl, hb1⟩; rw [HF.out]; have H1 := hide (H.out.below hb1); have HB1 := hide hb1; clear hb1) | (go_at_call 32; (refine (rburns_any b left size sure u w1 H1.out.blk H1.out.hl).mono ?_); rintro e w2 ⟨rfl, h2, hf2⟩; rw [HB.out] at h2 ⊢; have hv2 := (HV.out.below HB1.out (fun _ h => h)).turn H1.out.blk (by decide) hf2 (fun _ h => h); have h2 := H1.out.own hf2 h2 (burnL_ok H1.out.hl) H1.out.hsu; have H2 := hide h2; have HF2 := hide hf2; clear h2 hf2))
  have HR2 : ∀ w3 : World, Below w2.heap.size w2 w3 → Reads w3 w3.heap.size 1 (some ⟨g, 0, none⟩) 512 (cs8 c) := fun w3 hb3 => by
    obtain ⟨g', cap', e', _, hr'⟩ := (hv2.below hb3 (fun _ h => h)).reads
    injection e' with e1 e2 e3
    injection e1 with e1
    injection e1 with e1
    subst e1
    exact hr'
  have HR2 := hide HR2
  have HV2 := hide hv2
  clear hv2
  have ku := H2.out.blk.cell 1
  have HKU' : ∀ w3 : World, Below w2.heap.size w2 w3 → w3.cell? ⟨b, 1, none⟩ = some u := fun w3 hb3 => (hb3.cell H2.out.blk.lt).trans ku
  have HKU := hide HKU'
  clear ku HKU'
  obtain ⟨i0, hi0, hz0, hz1, hz2⟩ := info_parts write_info
  obtain ⟨i8, hi8, hy0, hy1, hy2⟩ := info_parts u8_info
  go_wp2
  refine wp_region_stage (by kernel_rfl) (by kernel_rfl) 33 5
    [⟨some 19, false, 0, 4, fun _ v _ => v = .pointer (some ⟨b, 0, none⟩)⟩,
     ⟨some 20, false, 0, 3, fun _ v _ => v = .pointer (some ⟨b, 0, none⟩)⟩,
     ⟨some 21, false, 0, 3, fun _ v _ => v = .pointer (some ⟨b, 0, none⟩)⟩,
     ⟨some 22, false, 0, 3, fun _ v _ => v = .pointer (some ⟨b, 1, none⟩)⟩,
     ⟨some 23, false, 0, 3, fun _ v _ => v = u⟩,
     ⟨some 24, false, 0, 2, fun _ v _ => v = .int .i64 at_⟩,
     ⟨some 25, true, 0, 0, fun _ v w' => ∃ g5, v = .slice (some ⟨g5, 0, none⟩) 0 0 ∧ w'.ownsRow w2.heap.size T8 1 v 0 []⟩,
     ⟨some 26, false, 0, 1, fun _ v _ => v = .slice (some ⟨g, 0, none⟩) 512 cap⟩,
     ⟨some 27, true, 1, 1, fun _ v w' => w'.ownsRow w2.heap.size T8 1 v 512 (cs8 c)⟩,
     ⟨some 28, false, 2, 2, fun _ v w' => ∃ x, v = .agg #[.int .i64 at_, x] ∧ w'.ownsRow w2.heap.size T8 1 x 512 (cs8 c)⟩,
     ⟨some 29, true, 2, 2, fun _ v w' => ∃ g x, v = .slice (some ⟨g, 0, none⟩) 1 1 ∧ w2.heap.size ≤ g ∧ Blk w' g TW #[.int .i64 at_, x] ∧ w'.ownsRow w2.heap.size T8 1 x 512 (cs8 c)⟩,
     ⟨some 30, true, 3, 3, fun s v w' => s = 4 → ∃ x, w'.ownsRow 0 TW 2 v (us.length + 1) (us.flatMap UW.enc ++ [.int .i64 at_, x]) ∧ w'.ownsRow w2.heap.size T8 1 x 512 (cs8 c) ∧ (v.ownBlock = u.ownBlock ∨ ∃ g, v.ownBlock = some g ∧ w2.heap.size ≤ g)⟩,
     ⟨some 31, false, 0, 4, fun _ v _ => v = .pointer (some ⟨b, 0, none⟩)⟩,
     ⟨some 32, false, 0, 4, fun _ v _ => v = .pointer (some ⟨b, 1, none⟩)⟩,
     ⟨none, true, 4, 4, fun _ _ _ => True⟩] (fun s w' => (s ≤ 3 → Below w2.heap.size w2 w') ∧ (s = 4 → w2.grownBy w' u.ownBlock) ∧ (s = 5 → (∃ F', Ref w' F' b size (LG ++ [(at_, c)]) sure (burnL left) false (N + 1) ∧ ∀ j, F' j → F j ∨ w2.heap.size ≤ j) ∧ Fr F w2 w')) (fun _ w w' => Kp w2.heap.size w w') [19, 20, 21, 22, 23, 24, 25, 26, 27, 28, 29, 30, 31, 32] rfl (by kernel_rfl) rfl ?g0 ?keep ?steps ?fin
  case keep =>
    intro e he s v w w' hm hsM ht hv
    simp only [List.mem_cons, List.not_mem_nil, or_false] at he
    rcases he with rfl | rfl | rfl | rfl | rfl | rfl | rfl | rfl | rfl | rfl | rfl | rfl | rfl | rfl | rfl
    all_goals first | exact hv | exact row_kp hv ht | (obtain ⟨x, e, hx⟩ := hv; exact ⟨x, e, row_kp hx ht⟩) | (obtain ⟨g, x, e, hg, hb, hx⟩ := hv; exact ⟨g, x, e, hg, (ht g hg hb.lt).trans hb, row_kp hx ht⟩) | (intro h3; have := hm rfl; simp only [] at this; omega)
  case steps =>
    refine ⟨?_, ?_, ?_, ?_, ?_, ?_, ?_, ?_, ?_, ?_, ?_, ?_, ?_, ?_, ?_, trivial⟩
    · intro st hlo hhi ac w3 hg hG hd K hK
      dsimp only at hlo hhi hG hK
      exact op_move _ rfl (hK _ (hg.kp 0 (by simp)))
    · intro st hlo hhi ac w3 hg hG hd K hK
      dsimp only at hlo hhi hG hK
      exact op_move _ rfl (hK _ (hg.kp 0 (by simp)))
    · intro st hlo hhi ac w3 hg hG hd K hK
      dsimp only at hlo hhi hG hK
      have f1 := hd ⟨1, .data⟩ (by simp) rfl _ rfl _ rfl
      (try simp [Act.eval] at f1)
      go_simp
      exact hK _ rfl
    · intro st hlo hhi ac w3 hg hG hd K hK
      dsimp only at hlo hhi hG hK
      have f2 := hd ⟨2, .data⟩ (by simp) rfl _ rfl _ rfl
      (try simp [Act.eval] at f2)
      go_simp
      exact hK _ rfl
    · intro st hlo hhi ac w3 hg hG hd K hK
      dsimp only at hlo hhi hG hK
      have kc := HKU.out w3 (hG.1 hhi)
      have f3 := hd ⟨3, .data⟩ (by simp) rfl _ rfl _ rfl
      (try simp [Act.eval] at f3)
      go_simp
      exact hK _ rfl
    · intro st hlo hhi ac w3 hg hG hd K hK
      dsimp only at hlo hhi hG hK
      exact op_move _ rfl (hK _ (hg.kp 1 (by simp)))
    · intro ac w3 hg hG hd K hK
      dsimp only [Nat.zero_add, Nat.reduceAdd] at hG hK
      go_simp
      have hb2 := hG.1 (by decide)
      exact hK (.slice (some ⟨w3.heap.size, 0, none⟩) 0 0) _ (fun j _ hj => Below.heap_alloc w3 _ j hj) (And.intro (fun _ => hb2.alloc hb2.size _) (And.intro (fun h => absurd h (by decide)) (fun h => absurd h (by decide)))) ⟨_, rfl, World.ownsRow_lit w3 #[] 0 hb2.size (by unfold maxLen; omega) rfl⟩
    · intro st hlo hhi ac w3 hg hG hd K hK
      dsimp only at hlo hhi hG hK
      exact op_move _ rfl (hK _ (hg.kp 2 (by simp)))
    · intro ac w3 hg hG hd K hK
      dsimp only [Nat.zero_add, Nat.reduceAdd] at hG hK
      obtain ⟨g5, f6, h6⟩ := hd ⟨6, .data⟩ (by simp) rfl _ rfl _ rfl
      have f7 := hd ⟨7, .data⟩ (by simp) rfl _ rfl _ rfl
      have hb2 := hG.1 (by decide)
      rw [f6] at h6
      refine wp_append_empty w3 (.tmp 25) (.tmp 26) 31 rfl w2.heap.size T8 i8 _ 1 1 Try.underlying31 hi8 hy0 hy1 hy2 rfl (by omega) g5 f6 h6 w3.heap.size (some ⟨g, 0, none⟩) 512 cap (cs8 c) f7 (HR2.out w3 hb2) (cs8_one c) (by unfold maxLen; omega) (by omega) hb2.size ?_
      intro v' w4 ho hb4
      exact hK v' w4 (fun j _ hj => hb4.block j hj) (And.intro (fun _ => hb2.trans (hb4.mono hb2.size)) (And.intro (fun h => absurd h (by decide)) (fun h => absurd h (by decide)))) ho
    · intro st hlo hhi ac w3 hg hG hd K hK
      dsimp only at hlo hhi hG hK
      have f5 := hd ⟨5, .data⟩ (by simp) rfl _ rfl _ rfl
      have f7 := hd ⟨8, .data⟩ (by simp) rfl _ rfl _ rfl
      obtain ⟨g7, c7, e7, _, _⟩ := f7.form (by omega)
      rw [e7] at f7
      have F7 := hide f7
      clear f7
      simp [Act.eval] at f5 e7
      go_simp
      exact hK _ ⟨_, rfl, F7.out⟩
    · intro ac w3 hg hG hd K hK
      dsimp only [Nat.zero_add, Nat.reduceAdd] at hG hK
      obtain ⟨x, f8, hx⟩ := hd ⟨9, .data⟩ (by simp) rfl _ rfl _ rfl
      obtain ⟨g7, c7, e7, _, _⟩ := hx.form (by omega)
      subst e7
      have F7 := hide hx
      clear hx
      simp [Act.eval] at f8
      go_simp
      have hb2 := hG.1 (by decide)
      exact hK (.slice (some ⟨w3.heap.size, 0, none⟩) 1 1) _ (fun j _ hj => Below.heap_alloc w3 _ j hj) (And.intro (fun _ => hb2.alloc hb2.size _) (And.intro (fun h => absurd h (by decide)) (fun h => absurd h (by decide)))) ⟨_, _, rfl, hb2.size, Blk.new w3 _ _, row_kp F7.out (fun j _ hj => Below.heap_alloc w3 _ j hj)⟩
    · intro ac w3 hg hG hd K hK
      dsimp only [Nat.zero_add, Nat.reduceAdd] at hG hK
      have f4 := hd ⟨4, .data⟩ (by simp) rfl _ rfl _ rfl
      obtain ⟨gx, x, f9, hgx, hbx, hx⟩ := hd ⟨10, .data⟩ (by simp) rfl _ rfl _ rfl
      have hb2 := hG.1 (by decide)
      have hrow := own_later H2.out.row hb2
      have hul := H2.out.hn
      have hul2 := H2.out.hN
      refine wp_append_any w3 (.tmp 23) (.tmp 29) 34 rfl 0 TW i0 _ 2 32 Try.underlying34 hi0 hz0 hz1 hz2 rfl (by omega) u us.length (us.flatMap UW.enc) f4 hrow w3.heap.size (some ⟨gx, 0, none⟩) 1 1 [.int .i64 at_, x] f9 ⟨rfl, fun _ => ⟨_, rfl, hbx.lt, fun j y hy => ?_⟩⟩ ?_ (by unfold maxLen; omega) (by omega) (Nat.zero_le _) ?_
      · (rw [show (⟨gx, 0, none⟩ : Addr).add j = ⟨gx, j, none⟩ by unfold Addr.add; split <;> simp_all, hbx.cell, ← Array.getElem?_toList]; exact hy)
      · (intro y hy; simp at hy; obtain ⟨g7, c7, e7, _, _⟩ := hx.form (by omega); subst e7; rcases hy with rfl | rfl <;> rfl)
      intro v' w4 ho hg4 hor
      refine hK v' w4 (fun j h1 h2 => hg4.block j h2 (fun e => ?_)) (And.intro (fun h => absurd h (by decide)) (And.intro (fun _ => grown_of_below hb2 hg4) (fun h => absurd h (by decide)))) (fun _ => ⟨x, ho, row_kp hx (fun j h1 h2 => hg4.block j h2 (fun e => ?_)), hor.imp id (fun e => ⟨_, e, hb2.size⟩)⟩)
      · have := (H2.out.row.lt j e.symm).2; omega
      · have := (H2.out.row.lt j e.symm).2; omega
    · intro st hlo hhi ac w3 hg hG hd K hK
      dsimp only at hlo hhi hG hK
      have f0 := hd ⟨0, .data⟩ (by simp) rfl _ rfl _ rfl
      (try simp [Act.eval] at f0)
      go_simp
      exact hK _ rfl
    · intro st hlo hhi ac w3 hg hG hd K hK
      dsimp only at hlo hhi hG hK
      have f12 := hd ⟨12, .data⟩ (by simp) rfl _ rfl _ rfl
      (try simp [Act.eval] at f12)
      go_simp
      exact hK _ rfl
    · intro ac w3 hg hG hd K hK
      dsimp only [Nat.zero_add, Nat.reduceAdd] at hG hK
      obtain ⟨x, ho, hx, hor⟩ := hd ⟨11, .data⟩ (by simp) rfl _ rfl _ rfl rfl
      have f12 := hd ⟨13, .data⟩ (by simp) rfl _ rfl _ rfl
      have f10 := ho.form (by omega)
      obtain ⟨gv, cv, f10, _, _⟩ := f10
      have hg3 := hG.2.1 rfl
      have hb3 : Blk w3 b TR (rk size u sure (burnL left) false) := H2.out.blk.grown hg3 (fun e => own_blk_ne H2.out.row H2.out.blk (by decide) e.symm)
      have kb := hb3.cell 1
      have qb := hb3.frozen 1
      have zb := hb3.lt
      have FIN := hide (ref_append H2.out hg3 ho hx hor HV.out.1 hN)
      rw [f10] at FIN
      clear ho hx hor hb3 hg3
      simp [Act.eval] at f10 f12
      simp [rk] at kb
      go_simp
      refine hK undef _ (fun j h1 h2 => (gby_set w3 b 1 _).block j h2 (fun e => ?_)) (And.intro (fun h => absurd h (by decide)) (And.intro (fun h => absurd h (by decide)) (fun _ => FIN.out))) trivial
      injection e with e
      have := H2.out.blk.lt
      omega
  case g0 => exact And.intro (fun _ => (Below.refl _ _).drew) (And.intro (fun h => absurd h (by decide)) (fun h => absurd h (by decide)))
  case fin =>
    intro f w5 hG hall
    have HG := hide (hG.2.2 rfl)
    have HS := hide (Nat.le_trans HB1.out.size HF2.out.size)
    have HFR := hide ((Fr.of_below (F := F) HB1.out).trans ((Fr.of_grown (F := F) HF2.out (fun k hk => by injection hk with hk; subst hk; exact H.out.fb)).trans HG.out.2 (fun _ _ h => h)) (fun _ _ h => h))
    clear hG hall
    simp only [fillF, List.map_cons, List.map_nil, List.foldl_cons, List.foldl_nil, Act.put, List.setIfInBounds_toArray, List.set_cons_zero, List.set_cons_succ]
    go_wp2
    go_ret
    refine ⟨rfl, ?_, HFR.out⟩
    obtain ⟨F', h1, h2⟩ := HG.out.1
    exact ⟨F', h1, fun j hj => (h2 j hj).imp id (fun h => Nat.le_trans HS.out h)⟩
end Go.Proofs.Ythlgkhnkcjihiaa
