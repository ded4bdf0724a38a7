/- The scripts' reader: an act of a line. -/
import Derived.Test.YtcdhngppcpgojaaDoorScrSplit
import Derived.BigRegion
namespace Go.Proofs.YtcdhngppcpgojaaDoor
set_option linter.unusedSimpArgs false
set_option linter.unusedVariables false
open Go.RowKit
abbrev zact : Array Value := #[.int .i64 0, .int .i64 0, .int .i64 0, .int .u64 0, .int .i64 0, .int .i64 0, .int .i64 0, .slice none 0 0, .string ⟨#[]⟩, .string ⟨#[]⟩]
theorem words_rd (w : World) (s : List UInt8) : ∃ W2 : World, ((w.alloc (Obj.cells zact TAct)).alloc (Obj.cells ((wordsL s).map str).toArray TStr)).alloc (Obj.cells #[.slice (some ⟨w.heap.size + 1, 0, none⟩) (wordsL s).length (wordsL s).length, .bool false] TRd) = W2 ∧
    Blk W2 w.heap.size TAct zact ∧ Rd W2 (w.heap.size + 2) (wordsL s) false ∧ Below w.heap.size w W2 ∧ W2.heap.size = w.heap.size + 3 := by
  obtain ⟨V, hV, hs, hk1, hk2⟩ : ∃ V, (w.alloc (Obj.cells zact TAct)).alloc (Obj.cells ((wordsL s).map str).toArray TStr) = V ∧ V.heap.size = w.heap.size + 2 ∧ Blk V w.heap.size TAct zact ∧ Blk V (w.heap.size + 1) TStr ((wordsL s).map str).toArray :=
    ⟨_, rfl, by simp, (Blk.new _ _ _).alloc _, by have := Blk.new (w.alloc (Obj.cells zact TAct)) TStr ((wordsL s).map str).toArray; simpa using this⟩
  rw [hV]
  refine ⟨_, rfl, hk1.alloc _, ⟨some ⟨w.heap.size + 1, 0, none⟩, (wordsL s).length, ?_, ?_, Nat.le_refl _⟩, ?_, by simp [hs]⟩
  · have := Blk.new V TRd #[.slice (some ⟨w.heap.size + 1, 0, none⟩) (wordsL s).length (wordsL s).length, .bool false]
    rw [hs] at this
    exact this
  · have hk3 := hk2.alloc (Obj.cells #[.slice (some ⟨w.heap.size + 1, 0, none⟩) (wordsL s).length (wordsL s).length, .bool false] TRd)
    have := reads_shut (w := V.alloc (Obj.cells #[.slice (some ⟨w.heap.size + 1, 0, none⟩) (wordsL s).length (wordsL s).length, .bool false] TRd)) (B := w.heap.size + 2) (g := w.heap.size + 1) (o := 0) (xs := (wordsL s).map str) (by omega) (fun j u hu => by
      rw [hk3.cell, Nat.zero_add, ← Array.getElem?_toList]; exact hu)
    rw [List.length_map] at this
    exact this
  · rw [← hV]
    exact (((Below.refl _ _).alloc (Nat.le_refl _) _).alloc (by simp) _).alloc (by simp; omega) _
theorem split_call (s : List UInt8) (w : World) (hl : s.length ≤ 600000000) (hm : ∃ m, w.cell? ⟨2, 0, none⟩ = some (.int .i64 m)) :
    Calls Tryd.prog 33 #[str s, .string ⟨#[32]⟩] w fun e w' => e = .returned (.slice (some ⟨w.heap.size, 0, none⟩) (wordsL s).length (wordsL s).length) ∧ w' = w.alloc (Obj.cells ((wordsL s).map str).toArray TStr) := by
  obtain ⟨m, hm⟩ := hm
  have := Tryd.strings_Split ⟨s.toArray⟩ ⟨#[32]⟩ m w (by rw [str_size]; omega) hm (by decide)
  rw [splitB_len, splitB_words] at this
  exact this
theorem idx_call (x : List UInt8) (w : World) (hk : Kn w) :
    Calls Tryd.prog 34 #[.slice (some ⟨0, 1, none⟩) 14 14, str x] w fun e w' => e = .returned (.int .i64 (kix x - 1)) ∧ w' = w := by
  have := Tryd.slices_Index_string 0 1 14 14 KS ⟨x.toArray⟩ w (by decide) (by decide) (fun j hj => by
    have hj : j < 14 := hj
    rw [hk.2 (1 + j) (by omega)]
    have : ∀ j : Fin 14, (⟨(kw (1 + j.val)).toArray⟩ : ByteArray) = KS.getD j.val ByteArray.empty := by decide
    exact congrArg (fun b => some (Value.string b)) (this ⟨j, hj⟩))
  rw [show KS.take 14 = KS from rfl] at this
  unfold kix
  rw [Int.add_sub_cancel]
  exact this
theorem kix_top (x : List UInt8) : kix x ≤ 15 := by
  unfold kix
  by_cases h : 0 ≤ Lib.idxOfS KS ⟨x.toArray⟩
  · rw [Lib.idxOfS_nonneg_iff] at h
    obtain ⟨k, hk, e⟩ := List.getElem_of_mem h
    have : ∀ k : Fin 14, Lib.idxOfS KS (KS[k.val]'(by have := k.2; simp [KS, kws])) ≤ 14 := by decide
    have hk2 : k < 14 := hk
    have := this ⟨k, hk2⟩
    simp only at this
    rw [e] at this
    omega
  · omega
theorem NxP.cell {w w1 : World} {b : Nat} {ws : List (List UInt8)} {bad : Bool} (h : NxP w b ws bad w1) (hb : b < w.heap.size) {g : Nat} (hg : w.heap.size ≤ g) (i : Nat) (v : Value) : NxP w b ws bad (w1.setCell ⟨g, i, none⟩ v) := by
  obtain ⟨A, c, hr⟩ := h.1
  refine ⟨⟨A, c, hr.k.far (by simp only; omega) _, hr.r.keep (fun p hp => World.cell?_setCell_other _ _ _ _ (fun e => by rw [← e] at hp; simp only at hp; omega)), hr.c⟩, ⟨h.2.os, h.2.tape, h.2.output, by simpa using h.2.size, fun j hj hj2 => (Below.heap_setCell _ _ _ _ (by simp only; omega)).trans (h.2.block j hj hj2)⟩⟩
theorem some_of {α : Type} {o : Option α} (h : o.isNone = false) : ∃ v, o = some v := by
  cases o with
  | none => cases h
  | some v => exact ⟨v, rfl⟩
theorem wat_drop (ws : List (List UInt8)) (n : Nat) : wat ws n = (ws.drop n).headD [] := rfl
set_option maxRecDepth 100000 in
set_option maxHeartbeats 4000000 in
theorem toact_any (s : List UInt8) (w : World) (ht : Wt w.heap.size w) (hl : s.length ≤ 600000000) :
    Calls Tryd.prog 17 #[str s] w fun e w' => ToP w.heap.size (wordsL s) (.int .i64 0) (.int .i64 11) e w' ∧ Below w.heap.size w w' := by
  obtain ⟨W2, hW2, hz, hr, hb2, hs2⟩ := words_rd w s
  have hls : lens (wordsL s) := fun x hx => Nat.le_trans (wordsL_len s x hx) hl
  have hem : (wordsL s).isEmpty = false := by
    have := wordsL_ne s
    cases h : wordsL s with
    | nil => exact absurd h this
    | cons => rfl
  have HCS := hide (fun w1 hm => split_call s w1 hl hm)
  obtain ⟨ws, hws⟩ : ∃ ws, wordsL s = ws := ⟨_, rfl⟩
  rw [hws] at hW2 hr hls hem HCS ⊢
  have HM := hide (show ∃ m, (w.alloc (Obj.cells zact TAct)).cell? ⟨2, 0, none⟩ = some (.int .i64 m) by
    obtain ⟨m, hm⟩ := ht.m
    exact ⟨m, (((Below.refl w.heap.size w).alloc (Nat.le_refl _) (Obj.cells zact TAct)).cell (by simp; have := ht.b9; omega)).trans hm⟩)
  have HT := hide (ht.below hb2)
  have HW2 := hide hW2
  have HZ := hide hz
  have HB2 := hide hb2
  have HS2 := hide hs2
  have HL := hide hls
  have HEM := hide hem
  have HN := hide (show NxP W2 (w.heap.size + 2) (ws.drop 0) false W2 from ⟨hr, gb_refl _ _⟩)
  clear ht hW2 hz hb2 hs2 hr hls hem hws
  go_enter Tryd.func17, Tryd.ntmps17
  go_upto_region 2 with (go_at_call 33; (refine (HCS.out _ HM.out).mono ?_); rintro e w1 ⟨rfl, rfl⟩)
  rw [show w.heap.size + 1 + 1 = w.heap.size + 2 by omega, HW2.out]
  clear HCS HM HW2
  obtain ⟨kx, hkx⟩ : ∃ kx, kix (wat ws 0) = kx := ⟨_, rfl⟩
  have HKX := hide hkx
  have HKR := hide (show 0 ≤ kx ∧ kx ≤ 15 by rw [← hkx]; exact ⟨kix_range _, kix_top _⟩)
  clear hkx
  have hbb : w.heap.size ≤ w.heap.size + 2 := by omega
  refine wp_region_stage (by kernel_rfl) (by kernel_rfl) 65 1
    [⟨some 11, false, 0, 1, fun _ v _ => v = .slice (some ⟨0, 1, none⟩) 14 14⟩,
     ⟨some 12, false, 0, 0, fun _ v _ => v = .pointer (some ⟨w.heap.size + 2, 0, none⟩)⟩,
     ⟨some 13, true, 0, 0, fun _ v _ => v = str (wat ws 0)⟩,
     ⟨some 14, false, 1, 1, fun _ v _ => v = .int .i64 (kx - 1)⟩,
     ⟨some 15, false, 1, 1, fun _ v _ => v = .int .i64 kx⟩,
     ⟨some 5, false, 1, 1, fun _ v _ => v = .int .i64 kx⟩] (fun st w' => (st = 0 → Below W2.heap.size W2 w') ∧ (st = 1 → NxP W2 (w.heap.size + 2) (ws.drop 1) false w')) (fun _ w w' => True) [11, 12, 13, 14, 15, 5] rfl (by kernel_rfl) rfl ?g0 ?keep ?steps ?fin
  case keep =>
    intro e he s v w w' hm hsM ht hv
    simp only [List.mem_cons, List.not_mem_nil, or_false] at he
    rcases he with rfl | rfl | rfl | rfl | rfl | rfl
    all_goals first | exact hv
  case steps =>
    refine ⟨?_, ?_, ?_, ?_, ?_, ?_, trivial⟩
    · intro st hlo hhi ac w3 hg hG hd K hK
      dsimp only at hlo hhi hG hK
      go_simp
      exact hK _ rfl
    · intro st hlo hhi ac w3 hg hG hd K hK
      dsimp only at hlo hhi hG hK
      exact op_move _ rfl (hK _ (hg.kp 4 (by simp)))
    · intro ac w3 hg hG hd K hK
      dsimp only [Nat.zero_add, Nat.reduceAdd] at hG hK
      have f1 := hd ⟨1, .data⟩ (by simp) rfl _ rfl _ rfl
      have HG0 := hide (hG.1 rfl)
      clear hG
      simp [Act.eval] at f1
      go_simp
      (refine (next_at w3 (w.heap.size + 2) 0 ws false (HN.out.below HG0.out).1).mono ?_)
      rintro e w4 ⟨rfl, hn⟩
      exact hK _ w4 trivial ⟨fun h => absurd h (by decide), fun _ => by have := (HN.out.below HG0.out).next hn.2 hn.1; rw [List.drop_zero, HEM.out] at this; exact this⟩ rfl
    · intro st hlo hhi ac w3 hg hG hd K hK
      dsimp only at hlo hhi hG hK
      have f0 := hd ⟨0, .data⟩ (by simp) rfl _ rfl _ rfl
      have f2 := hd ⟨2, .data⟩ (by simp) rfl _ rfl _ rfl
      have HG0 := hide (hG.2 (by omega))
      clear hG
      simp [Act.eval] at f0 f2
      go_simp
      (refine (idx_call (wat ws 0) w3 (HT.out.below (gb_base HG0.out.2 hbb HT.out.bw)).k).mono ?_)
      rintro e w4 ⟨rfl, rfl⟩
      rw [HKX.out]
      exact hK _ rfl
    · intro st hlo hhi ac w3 hg hG hd K hK
      dsimp only at hlo hhi hG hK
      have f3 := hd ⟨3, .data⟩ (by simp) rfl _ rfl _ rfl
      simp [Act.eval] at f3
      have hkr := HKR.out
      go_simp
      exact hK _ (congrArg (Value.int .i64) (by first | rfl | omega | (rw [IntWalk.i64_in _ (by omega)]; omega) | (rw [IntWalk.i64_in _ (by omega)])))
    · intro st hlo hhi ac w3 hg hG hd K hK
      dsimp only at hlo hhi hG hK
      exact op_assign _ rfl (hK _ (hd ⟨4, .data⟩ (by simp) rfl _ rfl _ rfl))
  case g0 => exact ⟨fun _ => (Below.refl _ _).drew, fun h => absurd h (by decide)⟩
  case fin =>
    intro f w5 hG hall
    have h5 := hall _ (List.mem_of_getElem? (i := 5) rfl) 5 rfl
    have HN1 := hide (hG.2 rfl)
    clear hall hG
    simp only [fillF, List.map_cons, List.map_nil, List.foldl_cons, List.foldl_nil, Act.put, List.setIfInBounds_toArray, List.set_cons_zero, List.set_cons_succ]
    rw [show f 5 = .int .i64 kx from h5]
    clear h5
    clear HEM HN
    go_upto_region 4 with (first | (go_at_call 36; (refine (int_at _ w.heap.size (w.heap.size + 2) _ ws _ HN1.out.1 (HT.out.below (gb_base HN1.out.2 hbb HT.out.bw)) hbb HL.out).mono ?_); rintro e w6 ⟨rfl, hn⟩; have HN1 := hide (HN1.out.next hn.2 hn.1); clear hn) | (go_at_call 37; (refine (mask_at _ w.heap.size (w.heap.size + 2) _ ws _ HN1.out.1 (HT.out.below (gb_base HN1.out.2 hbb HT.out.bw)) hbb HL.out).mono ?_); rintro e w6 ⟨rfl, hn⟩; have HN1 := hide (HN1.out.next hn.2 hn.1); clear hn) | (go_at_call 38; (refine (text_at _ w.heap.size (w.heap.size + 2) _ ws _ HN1.out.1 (HT.out.below (gb_base HN1.out.2 hbb HT.out.bw)) hbb HL.out).mono ?_); rintro e w7 ⟨S, rfl, hs, hn⟩; have HS := hide hs; have HN2 := hide (HN1.out.next hn.2 hn.1); clear hn hs))
    obtain ⟨V1, hV1⟩ : ∃ V, valI (wat ws 1) = V := ⟨_, rfl⟩
    obtain ⟨V2, hV2⟩ : ∃ V, valI (wat ws 2) = V := ⟨_, rfl⟩
    obtain ⟨V3, hV3⟩ : ∃ V, valU (wat ws 3) = V := ⟨_, rfl⟩
    rw [hV1, hV2, hV3]
    have HV1 := hide hV1
    have HV2 := hide hV2
    have HV3 := hide hV3
    clear hV1 hV2 hV3
    obtain ⟨F4, hF4⟩ : ∃ F, (false || (numI (wat ws 1)).isNone || (numI (wat ws 2)).isNone || (numU (wat ws 3)).isNone) = F := ⟨_, rfl⟩
    have HF4 := hide hF4
    have HS4 := hide (show ∀ l, unhexO (wat ws 4) = some l → F4 = false → S = l by rw [← hF4]; exact HS.out)
    obtain ⟨g, hg⟩ : ∃ g, w7.heap.size = g := ⟨_, rfl⟩
    obtain ⟨W8, hW8, hg8, hn8, hg0⟩ : ∃ W8, w7.alloc (Obj.cells #[.int .i64 kx, .int .i64 V1, .int .i64 V2, .int .u64 V3, .int .i64 0, .int .i64 0, .int .i64 0, .slice none 0 0, .string ⟨#[]⟩, str S] TAct) = W8 ∧ Blk W8 g TAct #[.int .i64 kx, .int .i64 V1, .int .i64 V2, .int .u64 V3, .int .i64 0, .int .i64 0, .int .i64 0, .slice none 0 0, .string ⟨#[]⟩, str S] ∧ NxP W2 (w.heap.size + 2) (ws.drop 5) (F4 || (unhexO (wat ws 4)).isNone) W8 ∧ w.heap.size + 3 ≤ g :=
      ⟨_, rfl, by rw [← hg]; exact Blk.new _ _ _, by rw [← hF4]; exact HN2.out.below ((Below.refl _ _).alloc (Nat.le_refl _) _), by rw [← hg]; have := HN2.out.2.size; have := HS2.out; omega⟩
    rw [hg, hW8]
    clear HS hF4 hg hW8 HN1 HN2
    have HG := hide hg8
    have HN1 := hide hn8
    have hgb : w.heap.size + 2 ≠ g := by omega
    clear hg8 hn8
    go_upto_region 5 with (first | (go_at_call 36; (refine (int_at _ w.heap.size (w.heap.size + 2) _ ws _ HN1.out.1 (HT.out.below (gb_base HN1.out.2 hbb HT.out.bw)) hbb HL.out).mono ?_); rintro e w6 ⟨rfl, hn⟩; have HN1 := hide (HN1.out.next hn.2 hn.1); have HG := hide (HG.out.grown hn.2 (fun e => hgb (Option.some.inj e).symm)); clear hn) | (go_at_call 38; (refine (text_at _ w.heap.size (w.heap.size + 2) _ ws _ HN1.out.1 (HT.out.below (gb_base HN1.out.2 hbb HT.out.bw)) hbb HL.out).mono ?_); rintro e w9 ⟨S2, rfl, hs, hn⟩; have HSB := hide hs; have HN2 := hide (HN1.out.next hn.2 hn.1); have hg2 := HG.out.grown hn.2 (fun e => hgb (Option.some.inj e).symm); have HG2 := hide hg2; have kg := hg2.cell; have qg := hg2.frozen; have zg := hg2.lt; clear hn hs hg2))
    obtain ⟨V5, hV5⟩ : ∃ V, valI (wat ws 5) = V := ⟨_, rfl⟩
    obtain ⟨V6, hV6⟩ : ∃ V, valI (wat ws 6) = V := ⟨_, rfl⟩
    obtain ⟨V7, hV7⟩ : ∃ V, valI (wat ws 7) = V := ⟨_, rfl⟩
    rw [hV5, hV6, hV7]
    have HV5 := hide hV5
    have HV6 := hide hV6
    have HV7 := hide hV7
    clear hV5 hV6 hV7
    obtain ⟨F7, hF7⟩ : ∃ F, (F4 || (unhexO (wat ws 4)).isNone || (numI (wat ws 5)).isNone || (numI (wat ws 6)).isNone || (numI (wat ws 7)).isNone) = F := ⟨_, rfl⟩
    obtain ⟨F8, hF8⟩ : ∃ F, (F7 || (unhexO (wat ws 8)).isNone) = F := ⟨_, rfl⟩
    have HF7 := hide hF7
    have HF8 := hide hF8
    have HS8 := hide (show ∀ l, unhexO (wat ws 8) = some l → F7 = false → S2 = l by rw [← hF7]; exact HSB.out)
    obtain ⟨W9, hW9, hg9, hn9⟩ : ∃ W9, ((((w9.setCell ⟨g, 4, none⟩ (.int .i64 V5)).setCell ⟨g, 5, none⟩ (.int .i64 V6)).setCell ⟨g, 6, none⟩ (.int .i64 V7)).setCell ⟨g, 7, none⟩ (.slice none 0 0)).setCell ⟨g, 8, none⟩ (str S2) = W9 ∧ Blk W9 g TAct #[.int .i64 kx, .int .i64 V1, .int .i64 V2, .int .u64 V3, .int .i64 V5, .int .i64 V6, .int .i64 V7, .slice none 0 0, str S2, str S] ∧ NxP W2 (w.heap.size + 2) (ws.drop 9) F8 W9 := by
      refine ⟨_, rfl, ((((HG2.out.set_ 4 _).set_ 5 _).set_ 6 _).set_ 7 _).set_ 8 _, ?_⟩
      have h2 := HS2.out
      have hh : NxP W2 (w.heap.size + 2) (ws.drop 9) F8 w9 := by rw [← hF8, ← hF7]; exact HN2.out
      exact ((((hh.cell (by omega) (by omega) 4 _).cell (by omega) (by omega) 5 _).cell (by omega) (by omega) 6 _).cell (by omega) (by omega) 7 _).cell (by omega) (by omega) 8 _
    rw [hW9]
    clear HSB hF7 hF8 hW9 HN1 HN2 kg qg zg HG HG2
    have HG := hide hg9
    have HN1 := hide hn9
    obtain ⟨P, hP⟩ : ∃ P, pathO (ws.drop 9) = P := ⟨_, rfl⟩
    have hpc := path_read W9 w.heap.size (w.heap.size + 2) (ws.drop 9) F8 hn9.1 (HT.out.below (gb_base hn9.2 hbb HT.out.bw)) hbb (HL.out.drop 9)
    rw [hP] at hpc
    have HPC := hide hpc
    have HP := hide hP
    clear hg9 hn9 hpc hP
    go_upto_region 6 with (go_at_call 39; (refine HPC.out.mono ?_); rintro e w10 ⟨A, n, c, rfl, hpp⟩; have HPP := hide hpp; obtain ⟨ws', bad', hn, _, _, _⟩ := hpp; have hg2 := HG.out.grown hn.2 (fun e => hgb (Option.some.inj e).symm); have HG2 := hide hg2; have kg := hg2.cell; have qg := hg2.frozen; have zg := hg2.lt; clear hn hg2)
    obtain ⟨ws', bad', hn, hls, hbad, hres⟩ := HPP.out
    have h2s := HS2.out
    have hgs : g < W9.heap.size := HG.out.lt
    obtain ⟨W10, hW10, hgA, hnA, hkeep⟩ : ∃ W10, w10.setCell ⟨g, 7, none⟩ (.slice A n c) = W10 ∧ Blk W10 g TAct #[.int .i64 kx, .int .i64 V1, .int .i64 V2, .int .u64 V3, .int .i64 V5, .int .i64 V6, .int .i64 V7, .slice A n c, str S2, str S] ∧ NxP W2 (w.heap.size + 2) ws' bad' W10 ∧ ∀ j, g ≠ j → W10.heap[j]? = w10.heap[j]? :=
      ⟨_, rfl, HG2.out.set_ 7 _, (HN1.out.next hn.2 hn.1).cell (by omega) (by omega) 7 _, fun j hj => Below.heap_setCell _ _ _ _ (fun e => hj e.symm)⟩
    rw [hW10]
    clear hW10 kg qg zg
    have hno : ∀ y, Parse ws y → kx ≠ 0 ∧ bad' = false ∧ ws' = [] ∧ S2.length ≤ 32 := by
      intro y hy
      have hkx := hy.k
      rw [HKX.out] at hkx
      have hk0 := hy.k0
      have f4 : F4 = false := by rw [← HF4.out, hy.s, hy.n, hy.m]; rfl
      have f7 : F7 = false := by rw [← HF7.out, f4, hy.t, hy.ok, hy.a, hy.b]; rfl
      have f8 : F8 = false := by rw [← HF8.out, f7, hy.o]; rfl
      have hp := HP.out
      rw [hy.p] at hp
      obtain ⟨r1, r2⟩ := hres f8
      have hb' : bad' = false := by
        cases hbb' : bad'
        · rfl
        · rw [r1 hbb'] at hp; cases hp
      obtain ⟨l, r3, _⟩ := r2 hb'
      rw [← hp] at r3
      injection r3 with r3
      injection r3 with r4 r5
      refine ⟨by omega, hb', r5.symm, ?_⟩
      rw [HS8.out _ hy.o f7]; exact hy.ol
    have hyes : 0 < kx → bad' = false → ws' = [] → S2.length ≤ 32 → ∃ y : Ac, (y.at_ A c).cells = #[.int .i64 kx, .int .i64 V1, .int .i64 V2, .int .u64 V3, .int .i64 V5, .int .i64 V6, .int .i64 V7, .slice A n c, str S2, str S] ∧ Parse ws y ∧ w10.ownsRow W9.heap.size TPt 2 (.slice A n c) n (y.path.flatMap pEnc) ∧ y.p = n ∧ ∀ p ∈ y.path, in64 p.1 ∧ in64 p.2 := by
      intro h1 h2 h3 h4
      have f8 : F8 = false := by
        cases h : F8
        · rfl
        · have := hbad h; rw [h2] at this; cases this
      have e8 := HF8.out
      rw [f8, Bool.or_eq_false_iff] at e8
      have e7 := HF7.out
      rw [e8.1] at e7
      simp only [Bool.or_eq_false_iff] at e7
      have e4 := HF4.out
      rw [e7.1.1.1.1] at e4
      simp only [Bool.or_eq_false_iff] at e4
      obtain ⟨l, r3, r4, r5, r6⟩ := (hres f8).2 h2
      obtain ⟨v1, g1⟩ := some_of e4.1.1.2
      obtain ⟨v2, g2⟩ := some_of e4.1.2
      obtain ⟨v3, g3⟩ := some_of e4.2
      obtain ⟨v4, g4⟩ := some_of e7.1.1.1.2
      obtain ⟨v5, g5⟩ := some_of e7.1.1.2
      obtain ⟨v6, g6⟩ := some_of e7.1.2
      obtain ⟨v7, g7⟩ := some_of e7.2
      obtain ⟨v8, g8⟩ := some_of e8.2
      have hs8 := HS8.out _ g8 e8.1
      have hs4 := HS4.out _ g4 e7.1.1.1.1
      have q1 := numI_val g1
      have q2 := numI_val g2
      have q3 := numU_val g3
      have q5 := numI_val g5
      have q6 := numI_val g6
      have q7 := numI_val g7
      rw [HV1.out] at q1
      rw [HV2.out] at q2
      rw [HV3.out] at q3
      rw [HV5.out] at q5
      rw [HV6.out] at q6
      rw [HV7.out] at q7
      subst q1 q2 q3 q5 q6 q7 hs8 hs4
      refine ⟨⟨kx, V1, V2, V3, V5, V6, V7, none, n, 0, l, S2, S⟩, rfl, ⟨HKX.out, h1, g1, g2, g3, g4, g5, g6, g7, g8, h4, ?_, r4.symm⟩, r5, rfl, r6⟩
      rw [HP.out, r3, h3]
    have HNO := hide hno
    have HK0 := hide (show 0 ≤ kx from HKR.out.1)
    have HYES := hide hyes
    have hz2 := HZ.out.grown hnA.2 (fun e => by injection e with e; omega)
    have HZ2 := hide hz2
    have HGA := hide hgA
    have HNA := hide hnA
    have HKP := hide hkeep
    have HGS := hide hgs
    have HBW := hide (HB2.out.trans ⟨hnA.2.os, hnA.2.tape, hnA.2.output, Nat.le_trans (by omega) hnA.2.size, fun j hj => hnA.2.block j (by omega) (fun e => by injection e with e; omega)⟩ : Below w.heap.size w W10)
    have kz := hz2.cell; have qz := hz2.frozen; have zz := hz2.lt
    have kg := hgA.cell; have qg := hgA.frozen; have zg := hgA.lt
    obtain ⟨A3, c3, k3, q3, z3⟩ := hnA.cells
    have hgw : g ≠ w.heap.size := by omega
    clear hno hyes hz2 hgA hnA hkeep hn hls hbad hres HPP HG HG2 HN1 HPC HV1 HV2 HV3 HV5 HV6 HV7 HF4 HF7 HF8 HS4 HS8 HP HKX HL HT HKR
    by_cases hgo : 0 < kx ∧ bad' = false ∧ ws' = [] ∧ S2.length ≤ 32
    · obtain ⟨g1, rfl, rfl, g4⟩ := hgo
      have HY := hide (HYES.out g1 rfl rfl g4)
      have d1 : (kx == 0) = false := by simp; omega
      have d2 : ¬ (32 : Int) < S2.length := by omega
      go_wp2_with fail
      obtain ⟨W6, hW6, hx6⟩ := set10 HZ2.out (.int .i64 kx) (.int .i64 V1) (.int .i64 V2) (.int .u64 V3) (.int .i64 V5) (.int .i64 V6) (.int .i64 V7) (.slice A n c) (str S2) (str S)
      rw [hW6]
      have k6 := hx6.k.cell; have z6 := hx6.k.lt
      obtain ⟨y, hy, hpy, hro, hyn, hin⟩ := HY.out
      refine bodyPost_ret (v := .tuple #[.agg #[.int .i64 kx, .int .i64 V1, .int .i64 V2, .int .u64 V3, .int .i64 V5, .int .i64 V6, .int .i64 V7, .slice A n c, str S2, str S], .int .i64 0]) (by simp [results, Tryd.results17, go_sem, k6, z6]) rfl ⟨.inl ⟨y, A, c, by rw [hy], hpy, ?_, hin⟩, (HBW.out).trans (hx6.b.mono (Nat.le_refl _))⟩
      have hgs := HGS.out
      unfold Pth
      show W6.ownsRow w.heap.size TPt 2 (.slice A y.p c) y.p _
      rw [hyn]
      refine own_base (row_keep hro (fun j hj => ?_)) (show w.heap.size ≤ W9.heap.size by omega)
      have hj2 := (hro.lt j hj).1
      exact (hx6.o j (by omega)).trans (HKP.out j (by omega))
    · have hcs : kx = 0 ∨ ((kx == 0) = false ∧ bad' = true) ∨ ((kx == 0) = false ∧ bad' = false ∧ ¬ ws' = [] ∧ 0 < ws'.length) ∨ ((kx == 0) = false ∧ bad' = false ∧ ws' = [] ∧ (32 : Int) < S2.length) := by
        rcases Int.lt_or_le 0 kx with h | h
        · have h1 : (kx == 0) = false := by simp; omega
          cases hb : bad'
          · cases hw : ws' with
            | nil =>
              rcases Nat.lt_or_ge 32 S2.length with h4 | h4
              · exact .inr (.inr (.inr ⟨h1, rfl, rfl, by omega⟩))
              · exact absurd ⟨h, hb, hw, h4⟩ hgo
            | cons x l => exact .inr (.inr (.inl ⟨h1, rfl, (fun e => by cases e), by simp⟩))
          · exact .inr (.inl ⟨h1, rfl⟩)
        · exact .inl (by have := HK0.out; omega)
      have hnn : ∀ y, ¬ Parse ws y := fun y hy => by
        obtain ⟨h1, h2, h3, h4⟩ := HNO.out y hy
        exact hgo ⟨by have := HK0.out; omega, h2, h3, h4⟩
      have HNN := hide hnn
      clear hgo hnn
      rcases hcs with rfl | ⟨d1, rfl⟩ | ⟨d1, rfl, d2, d3⟩ | ⟨d1, rfl, rfl, d2⟩
      all_goals
        go_wp2_with fail
        obtain ⟨W6, hW6, hx6⟩ := set10 HZ2.out (.int .i64 0) (.int .i64 0) (.int .i64 0) (.int .u64 0) (.int .i64 0) (.int .i64 0) (.int .i64 0) (.slice none 0 0) (.string ⟨#[]⟩) (.string ⟨#[]⟩)
        rw [hW6]
        have k6 := hx6.k.cell; have z6 := hx6.k.lt
        refine bodyPost_ret (v := .tuple #[.agg zact, .int .i64 11]) (by simp [results, Tryd.results17, go_sem, k6, z6]) rfl ⟨.inr ⟨rfl, HNN.out⟩, (HBW.out).trans (hx6.b.mono (Nat.le_refl _))⟩
end Go.Proofs.YtcdhngppcpgojaaDoor
