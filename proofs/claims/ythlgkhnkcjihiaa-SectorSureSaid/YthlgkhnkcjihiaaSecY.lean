/- The sectors' laws: alike. -/
import Derived.Test.YthlgkhnkcjihiaaSecX
import Derived.Test.YthlgkhnkcjihiaaRegW
import Derived.WalkSmall
import Derived.BigRegion
import Derived.BigQuiet
import Derived.Deep.QuietTactic
namespace Go.Proofs.Ythlgkhnkcjihiaa
set_option linter.unusedSimpArgs false
set_option linter.unusedVariables false
open Go.RowKit
set_option maxRecDepth 100000 in
set_option maxHeartbeats 2000000 in
theorem alike_any {w : World} {b bw : Nat} {F G : Nat → Prop} {size : Int} {r : RS} {N : Nat} (h : Two w b bw F G size r.ss r N) :
    Calls Try.prog 23 #[.pointer (some ⟨b, 0, none⟩), .pointer (some ⟨bw, 0, none⟩)] w fun e w' => e = .returned (.bool true) ∧ Below w.heap.size w w' := by
  obtain ⟨LG, su, left, out⟩ := r
  have h1 : Sec w F b out left size (sS LG su) (sL LG su) N := h.sec
  have h2 : Ref w G bw size LG su left out N := h.ref
  obtain ⟨u, usR, h2⟩ := h2
  obtain ⟨AR, capR, rfl, hcR, hsl⟩ := Ref.forms h2
  have H1 := hide h1
  have H2 := hide h2
  have HSL := hide hsl
  have hll : usR.length = LG.length := by rw [← h2.hL]; simp
  have hsu : su ≤ usR.length := by have := h2.hsu; omega
  have hnr : usR.length ≤ 200000 := by have := h2.hn; have := h2.hN; omega
  have hsz : 1 ≤ size ∧ size ≤ 65536 := by obtain ⟨_, _, _, _, _, h1⟩ := h1; exact h1.hs
  clear h h1 h2 hsl
  go_enter Try.func23, Try.ntmps23
  go_wp2_with (go_at_call 21; (refine (sec_unsure H1.out).mono ?_); rintro e w1 ⟨v, us, us', rfl, hc, hL, -, hb1⟩; obtain ⟨A1, c1, rfl⟩ := row_form hc.row; have HC := hide hc; have HUL := hide hL; have HB1 := hide hb1; have hlen : us'.length = us.length := by { have := congrArg List.length hc.same; simpa using this }; have hlen2 : us.length = LG.length - su := by { have := congrArg List.length hL; simpa [sL] using this }; have HLEN := hide hlen; have HLEN2 := hide hlen2; clear hc hL hb1 hlen hlen2)
  obtain ⟨nl, hnl⟩ : ∃ nl, us'.length = nl := ⟨_, rfl⟩
  obtain ⟨nr, hnr'⟩ : ∃ nr, usR.length = nr := ⟨_, rfl⟩
  have HNL := hide hnl
  have HNR := hide hnr'
  have hlen := HLEN.out
  have hlen2 := HLEN2.out
  rw [hnl] at hlen ⊢
  rw [hnr'] at hll hsu hnr H2 hcR
  have hdiff : (nr : Int) - su = nl := by omega
  have hnl2 : nl ≤ 200000 := by omega
  have hnlr : su + nl = nr := by omega
  clear hnl hnr' hll hlen hlen2 HLEN HLEN2
  refine wp_region_stageW (by kernel_rfl) (by kernel_rfl) 118 2
    [⟨some 13, false, 0, 0, fun _ v _ => v = .pointer (some ⟨b, 0, none⟩)⟩,
     ⟨some 14, true, 0, 0, fun _ v _ => v = .int .i64 size⟩,
     ⟨some 15, false, 0, 1, fun _ v _ => v = .pointer (some ⟨bw, 0, none⟩)⟩,
     ⟨some 16, false, 0, 1, fun _ v _ => v = .pointer (some ⟨bw, 0, none⟩)⟩,
     ⟨some 17, false, 0, 1, fun _ v _ => v = .pointer (some ⟨bw, 0, none⟩)⟩,
     ⟨some 18, false, 0, 1, fun _ v _ => v = .int .i64 size⟩,
     ⟨some 19, false, 1, 1, fun _ v _ => v = .bool false⟩,
     ⟨some 20, false, 1, 1, fun _ v _ => v = .bool false⟩,
     ⟨some 21, false, 1, 1, fun _ v _ => v = .pointer (some ⟨b, 0, none⟩)⟩,
     ⟨some 22, true, 1, 1, fun _ v _ => v = .bool out⟩,
     ⟨some 23, false, 1, 2, fun _ v _ => v = .pointer (some ⟨bw, 0, none⟩)⟩,
     ⟨some 24, false, 1, 2, fun _ v _ => v = .pointer (some ⟨bw, 0, none⟩)⟩,
     ⟨some 25, false, 1, 2, fun _ v _ => v = .pointer (some ⟨bw, 4, none⟩)⟩,
     ⟨some 26, false, 1, 2, fun _ v _ => v = .bool out⟩,
     ⟨some 27, false, 2, 2, fun _ v _ => v = .bool false⟩,
     ⟨some 28, false, 2, 2, fun _ v _ => v = .bool false⟩,
     ⟨some 29, false, 2, 2, fun _ v _ => v = .bool false⟩,
     ⟨some 30, false, 2, 2, fun _ v _ => v = .slice A1 nl c1⟩,
     ⟨some 31, false, 2, 2, fun _ v _ => v = .int .i64 nl⟩,
     ⟨some 32, false, 2, 2, fun _ v _ => v = .pointer (some ⟨bw, 0, none⟩)⟩,
     ⟨some 33, false, 2, 2, fun _ v _ => v = .pointer (some ⟨bw, 0, none⟩)⟩,
     ⟨some 34, false, 2, 2, fun _ v _ => v = .pointer (some ⟨bw, 1, none⟩)⟩,
     ⟨some 35, false, 2, 2, fun _ v _ => v = .slice AR nr capR⟩,
     ⟨some 36, false, 2, 2, fun _ v _ => v = .int .i64 nr⟩,
     ⟨some 37, false, 2, 2, fun _ v _ => v = .pointer (some ⟨bw, 0, none⟩)⟩,
     ⟨some 38, false, 2, 2, fun _ v _ => v = .pointer (some ⟨bw, 0, none⟩)⟩,
     ⟨some 39, false, 2, 2, fun _ v _ => v = .pointer (some ⟨bw, 2, none⟩)⟩,
     ⟨some 40, false, 2, 2, fun _ v _ => v = .int .i64 su⟩,
     ⟨some 41, false, 2, 2, fun _ v _ => v = .int .i64 nl⟩,
     ⟨some 42, false, 2, 2, fun _ v _ => v = .bool false⟩,
     ⟨some 43, false, 2, 2, fun _ v _ => v = .bool false⟩] (fun _ w' => Below w1.heap.size w1 w') (fun _ w w' => Below w.heap.size w w') [13, 14, 15, 16, 17, 18, 19, 20, 21, 22, 23, 24, 25, 26, 27, 28, 29, 30, 31, 32, 33, 34, 35, 36, 37, 38, 39, 40, 41, 42, 43] rfl (by kernel_rfl) rfl ?g0 ?keep ?steps ?fin
  case keep =>
    intro e he s v w w' hm hsM ht hv
    simp only [List.mem_cons, List.not_mem_nil, or_false] at he
    rcases he with rfl | rfl | rfl | rfl | rfl | rfl | rfl | rfl | rfl | rfl | rfl | rfl | rfl | rfl | rfl | rfl | rfl | rfl | rfl | rfl | rfl | rfl | rfl | rfl | rfl | rfl | rfl | rfl | rfl | rfl | rfl
    all_goals first | exact hv
  case steps =>
    refine ⟨?_, ?_, ?_, ?_, ?_, ?_, ?_, ?_, ?_, ?_, ?_, ?_, ?_, ?_, ?_, ?_, ?_, ?_, ?_, ?_, ?_, ?_, ?_, ?_, ?_, ?_, ?_, ?_, ?_, ?_, ?_, trivial⟩
    · intro st hlo hhi ac w3 hg hG hd K hK
      dsimp only at hlo hhi hG hK
      rw [if_pos (by rfl)]
      exact op_move _ rfl (hK _ (hg.kp 0 (by simp)))
    · intro ac w3 hg hG hd K hK
      dsimp only [Nat.zero_add, Nat.reduceAdd] at hG hK
      rw [if_pos (by rfl)]
      have f0 := hd ⟨0, .data⟩ (by simp) rfl _ rfl _ rfl
      simp [Act.eval] at f0
      go_simp
      (refine (sec_len ((H1.out.below HB1.out).below hG)).mono ?_)
      rintro e w4 ⟨rfl, hb4⟩
      exact hK (.int .i64 size) w4 hb4 (hG.trans (hb4.mono hG.size)) rfl
    · intro st hlo hhi ac w3 hg hG hd K hK
      dsimp only at hlo hhi hG hK
      rw [if_pos (by rfl)]
      exact op_move _ rfl (hK _ (hg.kp 1 (by simp)))
    · intro st hlo hhi ac w3 hg hG hd K hK
      dsimp only at hlo hhi hG hK
      rw [if_pos (by rfl)]
      have f2 := hd ⟨2, .data⟩ (by simp) rfl _ rfl _ rfl
      (try simp [Act.eval] at f2)
      go_simp
      exact hK _ rfl
    · intro st hlo hhi ac w3 hg hG hd K hK
      dsimp only at hlo hhi hG hK
      rw [if_pos (by rfl)]
      have f3 := hd ⟨3, .data⟩ (by simp) rfl _ rfl _ rfl
      (try simp [Act.eval] at f3)
      go_simp
      exact hK _ rfl
    · intro st hlo hhi ac w3 hg hG hd K hK
      dsimp only at hlo hhi hG hK
      rw [if_pos (by rfl)]
      have kk := ((H2.out.below HB1.out).below hG).blk
      have k0 := kk.cell 0
      have zz := kk.lt
      simp [rk] at k0
      clear kk
      have f4 := hd ⟨4, .data⟩ (by simp) rfl _ rfl _ rfl
      (try simp [Act.eval] at f4)
      go_simp
      exact hK _ rfl
    · intro st hlo hhi ac w3 hg hG hd K hK
      dsimp only at hlo hhi hG hK
      rw [if_pos (by rfl)]
      have f1 := hd ⟨1, .data⟩ (by simp) rfl _ rfl _ rfl
      have f5 := hd ⟨5, .data⟩ (by simp) rfl _ rfl _ rfl
      (try simp [Act.eval] at f1)
      (try simp [Act.eval] at f5)
      go_simp
      exact hK _ rfl
    · intro st hlo hhi ac w3 hg hG hd K hK
      dsimp only at hlo hhi hG hK
      rw [if_pos (by rfl)]
      exact op_move _ rfl (hK _ (hd ⟨6, .data⟩ (by simp) rfl _ rfl _ rfl))
    · intro st hlo hhi ac w3 hg hG hd K hK
      dsimp only at hlo hhi hG hK
      rw [if_pos (wanted_of rfl rfl rfl (hd ⟨7, .guard⟩ (by simp) rfl _ rfl _ rfl))]
      exact op_move _ rfl (hK _ (hg.kp 0 (by simp)))
    · intro ac w3 hg hG hd K hK
      dsimp only [Nat.zero_add, Nat.reduceAdd] at hG hK
      rw [if_pos (wanted_of rfl rfl rfl (hd ⟨7, .guard⟩ (by simp) rfl _ rfl _ rfl))]
      have f8 := hd ⟨8, .data⟩ (by simp) rfl _ rfl _ rfl
      simp [Act.eval] at f8
      go_simp
      (refine (sec_down ((H1.out.below HB1.out).below hG)).mono ?_)
      rintro e w4 ⟨rfl, hb4⟩
      exact hK (.bool out) w4 hb4 (hG.trans (hb4.mono hG.size)) rfl
    · intro st hlo hhi ac w3 hg hG hd K hK
      dsimp only at hlo hhi hG hK
      rw [if_pos (wanted_of rfl rfl rfl (hd ⟨7, .guard⟩ (by simp) rfl _ rfl _ rfl))]
      exact op_move _ rfl (hK _ (hg.kp 1 (by simp)))
    · intro st hlo hhi ac w3 hg hG hd K hK
      dsimp only at hlo hhi hG hK
      rw [if_pos (wanted_of rfl rfl rfl (hd ⟨7, .guard⟩ (by simp) rfl _ rfl _ rfl))]
      have f10 := hd ⟨10, .data⟩ (by simp) rfl _ rfl _ rfl
      (try simp [Act.eval] at f10)
      go_simp
      exact hK _ rfl
    · intro st hlo hhi ac w3 hg hG hd K hK
      dsimp only at hlo hhi hG hK
      rw [if_pos (wanted_of rfl rfl rfl (hd ⟨7, .guard⟩ (by simp) rfl _ rfl _ rfl))]
      have f11 := hd ⟨11, .data⟩ (by simp) rfl _ rfl _ rfl
      (try simp [Act.eval] at f11)
      go_simp
      exact hK _ rfl
    · intro st hlo hhi ac w3 hg hG hd K hK
      dsimp only at hlo hhi hG hK
      rw [if_pos (wanted_of rfl rfl rfl (hd ⟨7, .guard⟩ (by simp) rfl _ rfl _ rfl))]
      have kk := ((H2.out.below HB1.out).below hG).blk
      have k0 := kk.cell 4
      have zz := kk.lt
      simp [rk] at k0
      clear kk
      have f12 := hd ⟨12, .data⟩ (by simp) rfl _ rfl _ rfl
      (try simp [Act.eval] at f12)
      go_simp
      exact hK _ rfl
    · intro st hlo hhi ac w3 hg hG hd K hK
      dsimp only at hlo hhi hG hK
      rw [if_pos (wanted_of rfl rfl rfl (hd ⟨7, .guard⟩ (by simp) rfl _ rfl _ rfl))]
      have f9 := hd ⟨9, .data⟩ (by simp) rfl _ rfl _ rfl
      have f13 := hd ⟨13, .data⟩ (by simp) rfl _ rfl _ rfl
      (try simp [Act.eval] at f9)
      (try simp [Act.eval] at f13)
      go_simp
      exact hK _ rfl
    · intro st hlo hhi ac w3 hg hG hd K hK
      dsimp only at hlo hhi hG hK
      rw [if_pos (by rfl)]
      have f7 := hd ⟨7, .data⟩ (by simp) rfl _ rfl _ rfl
      have f14 := hd ⟨14, .data⟩ (by simp) rfl _ rfl _ rfl
      (try simp [Act.eval] at f7)
      (try simp [Act.eval] at f14)
      go_simp
      exact hK _ rfl
    · intro st hlo hhi ac w3 hg hG hd K hK
      dsimp only at hlo hhi hG hK
      rw [if_pos (by rfl)]
      exact op_move _ rfl (hK _ (hd ⟨15, .data⟩ (by simp) rfl _ rfl _ rfl))
    · intro st hlo hhi ac w3 hg hG hd K hK
      dsimp only at hlo hhi hG hK
      rw [if_pos (wanted_of rfl rfl rfl (hd ⟨16, .guard⟩ (by simp) rfl _ rfl _ rfl))]
      exact op_move _ rfl (hK _ (hg.kp 5 (by simp)))
    · intro st hlo hhi ac w3 hg hG hd K hK
      dsimp only at hlo hhi hG hK
      rw [if_pos (wanted_of rfl rfl rfl (hd ⟨16, .guard⟩ (by simp) rfl _ rfl _ rfl))]
      have f17 := hd ⟨17, .data⟩ (by simp) rfl _ rfl _ rfl
      (try simp [Act.eval] at f17)
      go_simp
      exact hK _ rfl
    · intro st hlo hhi ac w3 hg hG hd K hK
      dsimp only at hlo hhi hG hK
      rw [if_pos (wanted_of rfl rfl rfl (hd ⟨16, .guard⟩ (by simp) rfl _ rfl _ rfl))]
      exact op_move _ rfl (hK _ (hg.kp 1 (by simp)))
    · intro st hlo hhi ac w3 hg hG hd K hK
      dsimp only at hlo hhi hG hK
      rw [if_pos (wanted_of rfl rfl rfl (hd ⟨16, .guard⟩ (by simp) rfl _ rfl _ rfl))]
      have f19 := hd ⟨19, .data⟩ (by simp) rfl _ rfl _ rfl
      (try simp [Act.eval] at f19)
      go_simp
      exact hK _ rfl
    · intro st hlo hhi ac w3 hg hG hd K hK
      dsimp only at hlo hhi hG hK
      rw [if_pos (wanted_of rfl rfl rfl (hd ⟨16, .guard⟩ (by simp) rfl _ rfl _ rfl))]
      have f20 := hd ⟨20, .data⟩ (by simp) rfl _ rfl _ rfl
      (try simp [Act.eval] at f20)
      go_simp
      exact hK _ rfl
    · intro st hlo hhi ac w3 hg hG hd K hK
      dsimp only at hlo hhi hG hK
      rw [if_pos (wanted_of rfl rfl rfl (hd ⟨16, .guard⟩ (by simp) rfl _ rfl _ rfl))]
      have kk := ((H2.out.below HB1.out).below hG).blk
      have k0 := kk.cell 1
      have zz := kk.lt
      simp [rk] at k0
      clear kk
      have f21 := hd ⟨21, .data⟩ (by simp) rfl _ rfl _ rfl
      (try simp [Act.eval] at f21)
      go_simp
      exact hK _ rfl
    · intro st hlo hhi ac w3 hg hG hd K hK
      dsimp only at hlo hhi hG hK
      rw [if_pos (wanted_of rfl rfl rfl (hd ⟨16, .guard⟩ (by simp) rfl _ rfl _ rfl))]
      have f22 := hd ⟨22, .data⟩ (by simp) rfl _ rfl _ rfl
      (try simp [Act.eval] at f22)
      go_simp
      exact hK _ rfl
    · intro st hlo hhi ac w3 hg hG hd K hK
      dsimp only at hlo hhi hG hK
      rw [if_pos (wanted_of rfl rfl rfl (hd ⟨16, .guard⟩ (by simp) rfl _ rfl _ rfl))]
      exact op_move _ rfl (hK _ (hg.kp 1 (by simp)))
    · intro st hlo hhi ac w3 hg hG hd K hK
      dsimp only at hlo hhi hG hK
      rw [if_pos (wanted_of rfl rfl rfl (hd ⟨16, .guard⟩ (by simp) rfl _ rfl _ rfl))]
      have f24 := hd ⟨24, .data⟩ (by simp) rfl _ rfl _ rfl
      (try simp [Act.eval] at f24)
      go_simp
      exact hK _ rfl
    · intro st hlo hhi ac w3 hg hG hd K hK
      dsimp only at hlo hhi hG hK
      rw [if_pos (wanted_of rfl rfl rfl (hd ⟨16, .guard⟩ (by simp) rfl _ rfl _ rfl))]
      have f25 := hd ⟨25, .data⟩ (by simp) rfl _ rfl _ rfl
      (try simp [Act.eval] at f25)
      go_simp
      exact hK _ rfl
    · intro st hlo hhi ac w3 hg hG hd K hK
      dsimp only at hlo hhi hG hK
      rw [if_pos (wanted_of rfl rfl rfl (hd ⟨16, .guard⟩ (by simp) rfl _ rfl _ rfl))]
      have kk := ((H2.out.below HB1.out).below hG).blk
      have k0 := kk.cell 2
      have zz := kk.lt
      simp [rk] at k0
      clear kk
      have f26 := hd ⟨26, .data⟩ (by simp) rfl _ rfl _ rfl
      (try simp [Act.eval] at f26)
      go_simp
      exact hK _ rfl
    · intro st hlo hhi ac w3 hg hG hd K hK
      dsimp only at hlo hhi hG hK
      rw [if_pos (wanted_of rfl rfl rfl (hd ⟨16, .guard⟩ (by simp) rfl _ rfl _ rfl))]
      have hw : IntKind.i64.wrap (nl : Int) = nl := IntWalk.i64_in _ (by omega)
      have f23 := hd ⟨23, .data⟩ (by simp) rfl _ rfl _ rfl
      have f27 := hd ⟨27, .data⟩ (by simp) rfl _ rfl _ rfl
      (try simp [Act.eval] at f23)
      (try simp [Act.eval] at f27)
      go_simp
      exact hK _ rfl
    · intro st hlo hhi ac w3 hg hG hd K hK
      dsimp only at hlo hhi hG hK
      rw [if_pos (wanted_of rfl rfl rfl (hd ⟨16, .guard⟩ (by simp) rfl _ rfl _ rfl))]
      have f18 := hd ⟨18, .data⟩ (by simp) rfl _ rfl _ rfl
      have f28 := hd ⟨28, .data⟩ (by simp) rfl _ rfl _ rfl
      (try simp [Act.eval] at f18)
      (try simp [Act.eval] at f28)
      go_simp
      exact hK _ rfl
    · intro st hlo hhi ac w3 hg hG hd K hK
      dsimp only at hlo hhi hG hK
      rw [if_pos (by rfl)]
      have f16 := hd ⟨16, .data⟩ (by simp) rfl _ rfl _ rfl
      have f29 := hd ⟨29, .data⟩ (by simp) rfl _ rfl _ rfl
      (try simp [Act.eval] at f16)
      (try simp [Act.eval] at f29)
      go_simp
      exact hK _ rfl
  case g0 => exact (Below.refl _ _).drew
  case fin =>
    intro f w5 hG hall
    have h43 := hall _ (List.mem_of_getElem? (i := 30) rfl) 43 rfl
    clear hall
    simp only [fillF, List.map_cons, List.map_nil, List.foldl_cons, List.foldl_nil, Act.put, List.setIfInBounds_toArray, List.set_cons_zero, List.set_cons_succ]
    rw [show f 43 = .bool false from h43]
    clear h43
    have HB5 := hide (HB1.out.trans (hG.mono HB1.out.size))
    have HC5 := hide (HC.out.later hG)
    clear hG HC
    go_wp2
    go_loopw [6] (fun i wr => ∃ q : Nat, q ≤ nl ∧ i = .int .i64 q ∧ Hid (Below w5.heap.size w5 wr)) (fun i _ => nl - (intOf i).toNat)
    case atStart => exact ⟨0, by omega, rfl, hide (Below.refl _ _)⟩
    case round =>
      obtain ⟨q, hq, rfl, HI⟩ := hrel
      have HBr := hide (HB5.out.trans (HI.out.mono HB5.out.size))
      by_cases hlt : q < nl
      · obtain ⟨bgR, oR, rfl, hbgR, hcR'⟩ := Sl.at (HSL.out.below HBr.out) (fun _ => rfl) (by omega) (by rw [HNR.out]; omega : 0 < usR.length)
        obtain ⟨A2, c2, e2, _, _, hsl2⟩ := Sl.of_owns (l := us') (n := us'.length) (enc := UW.enc) (HC5.out.later HI.out).row rfl rfl rfl
        obtain ⟨bg1, o1, e1, hbg1, hc1⟩ := Sl.at hsl2 (fun _ => rfl) (by omega) (by rw [HNL.out]; omega : 0 < us'.length)
        obtain rfl : A1 = some ⟨bg1, o1, none⟩ := by
          injection e2 with e2 _ _
          rw [e2]; exact e1
        clear e2 e1
        have hqR : su + q < usR.length := by rw [HNR.out]; omega
        have hq1 : q < us'.length := by rw [HNL.out]; omega
        have r0 := hcR' (su + q) hqR 0 _ rfl
        have r1 := hcR' (su + q) hqR 1 _ rfl
        have s0 := hc1 q hq1 0 _ rfl
        have s1 := hc1 q hq1 1 _ rfl
        have hfR := (H2.out.below HBr.out).fil usR[su + q] (List.getElem_mem hqR)
        have hf1 := (HC5.out.later HI.out).fil us'[q] (List.getElem_mem hq1)
        have hsame : ac us'[q] = ac usR[su + q] := by
          have h1 : (us'.map ac)[q]? = some (ac us'[q]) := by rw [List.getElem?_map, List.getElem?_eq_getElem hq1]; rfl
          have h2 : (us'.map ac)[q]? = some (ac usR[su + q]) := by
            rw [HC5.out.same, HUL.out]
            unfold sL
            rw [← H2.out.hL, List.getElem?_drop, List.getElem?_map, List.getElem?_eq_getElem hqR]; rfl
          rw [h1] at h2
          injection h2
        obtain ⟨x, hx⟩ : ∃ x, us'[q] = x := ⟨_, rfl⟩
        obtain ⟨y, hy⟩ : ∃ y, usR[su + q] = y := ⟨_, rfl⟩
        rw [hx] at s0 s1 hf1 hsame
        rw [hy] at r0 r1 hfR hsame
        obtain ⟨xa, xv, xc⟩ := x
        obtain ⟨ya, yv, yc⟩ := y
        unfold ac at hsame
        injection hsame with e1 e2
        simp only at e1 e2
        subst e1 e2
        simp only [Nat.add_zero] at r0 r1 s0 s1 hfR hf1
        obtain ⟨gx, cx, ex, _, _⟩ := hf1.reads
        obtain ⟨gy, cy, ey, _, _⟩ := hfR.reads
        subst ex ey
        have HFX := hide hf1
        have HFY := hide hfR
        have zR : bgR < wr.heap.size := Nat.lt_of_lt_of_le hbgR HBr.out.size
        have kk := (H2.out.below HBr.out).blk
        have kx := kk.cell; have qx := kk.frozen; have zx := kk.lt
        unfold rk at kx
        have hix : (su : Int) + q < nr := by omega
        clear hcR' hc1 hsl2 hqR hq1 hx hy hf1 hfR kk
        go_wp2
        go_region
        obtain ⟨W8, hW8, hB8, hK8⟩ : ∃ W8, (wr.alloc (Obj.cells #[Value.int IntKind.i64 xa, Value.slice (some ⟨gy, 0, none⟩) 512 cy] TW)).drew = W8 ∧ Below wr.heap.size wr W8 ∧ Blk W8 wr.heap.size TW #[Value.int IntKind.i64 xa, Value.slice (some ⟨gy, 0, none⟩) 512 cy] := ⟨_, rfl, ((Below.refl _ _).alloc (Nat.le_refl _) _).drew, (Blk.new _ _ _).drew⟩
        rw [show (wr.alloc (Obj.cells #[Value.int IntKind.i64 xa, Value.slice (some ⟨gy, 0, none⟩) 512 cy] 39)).drew = W8 from hW8]
        rw [← hB8.cell hbg1] at s0 s1
        have zz1 : bg1 < W8.heap.size := Nat.lt_of_lt_of_le hbg1 hB8.size
        have v1 := fun N => fil_string (w := W8.drewN N) (HFX.out.below (below_drewN hB8 N) (fun _ h => h))
        have v2 := fun N => fil_string (w := W8.drewN N) (HFY.out.below (below_drewN hB8 N) (fun _ h => h))
        have HB8 := hide (HI.out.trans (hB8.mono HI.out.size))
        have ky := hK8.cell; have qy := hK8.frozen; have zy := hK8.lt
        clear hW8 hB8 hK8 r0 r1 kx qx zx zR hbg1
        go_wp2
        go_quiet (fail)
        go_wp2
        go_roundw
        case rel => exact ⟨q + 1, by omega, by go_num, hide (below_drewN HB8.out _)⟩
        case measure => simp [intOf]; omega
      · obtain rfl : q = nl := by omega
        clear HI
        obtain ⟨W9, hW9⟩ : ∃ W9, wr = W9 := ⟨_, rfl⟩
        rw [hW9] at HBr ⊢
        clear hW9
        go_wp2
        go_loopw [8] (fun i wr => ∃ p : Nat, (p : Int) ≤ size ∧ i = .int .i64 p ∧ Hid (Below W9.heap.size W9 wr)) (fun i _ => size.toNat - (intOf i).toNat)
        case atStart => exact ⟨0, by omega, rfl, hide (Below.refl _ _)⟩
        case round =>
          obtain ⟨p, hp, rfl, HI⟩ := hrel
          have HBp := hide (HBr.out.trans (HI.out.mono HBr.out.size))
          have kk := (H2.out.below HBp.out).blk
          have kx := kk.cell; have qx := kk.frozen; have zx := kk.lt
          unfold rk at kx
          clear kk
          by_cases hpl : (p : Int) < size ∧ p < 12
          · obtain ⟨hpl, hp12⟩ := hpl
            have hp12' : (p : Int) < 12 := by omega
            cases out
            · have HRS := hide (sec_read (H1.out.below HBp.out) p)
              obtain ⟨cN, hcN⟩ : ∃ cN, nowC (fun _ => 0) LG p = cN := ⟨_, rfl⟩
              rw [show nowC (sS LG su) (sL LG su) p = cN by rw [sS_now]; exact hcN, show faultE false size p = 0 by unfold faultE; rw [if_neg (by simp), if_neg (by omega), if_neg (by omega)]] at HRS
              have HCN := hide hcN
              clear hcN
              go_wp2_with (go_at_call 12; (refine HRS.out.mono ?_); rintro e w6 ⟨v6, rfl, h60, -, hb6⟩; obtain ⟨hc6, g6, cap6, cs6, rfl, hg6, hk6, hcs6⟩ := h60 rfl; have HF6 := hide (show Fil w6 (fun _ => True) (.slice (some ⟨g6, 0, none⟩) 512 cap6) cN from ⟨hc6, g6, cap6, cs6, rfl, trivial, hk6, hcs6⟩); have HB6 := hide (HI.out.trans (hb6.mono HI.out.size)); clear h60 hc6 hg6 hk6 hcs6 hb6)
              have HSL' := hide (show Sl 2 UW.enc w w.heap.size AR nr usR by have := HSL.out; rw [HNR.out] at this; exact this)
              refine wp_region_stageW (by kernel_rfl) (by kernel_rfl) 118 1
                [⟨some 107, false, 0, 0, fun _ v _ => v = .int .i64 0⟩,
                 ⟨some 108, false, 0, 0, fun _ v _ => v = .bool false⟩,
                 ⟨some 109, false, 0, 0, fun _ v _ => v = .bool false⟩,
                 ⟨some 110, false, 0, 1, fun _ v _ => v = .slice (some ⟨g6, 0, none⟩) 512 cap6⟩,
                 ⟨some 111, false, 0, 1, fun _ v _ => v = .string (strC cN)⟩,
                 ⟨some 112, false, 0, 0, fun _ v _ => v = .pointer (some ⟨bw, 0, none⟩)⟩,
                 ⟨some 113, false, 0, 0, fun _ v _ => v = .int .i64 p⟩,
                 ⟨some 114, true, 0, 0, fun _ v w' => Fil w' (fun _ => True) v cN⟩,
                 ⟨some 115, false, 1, 1, fun _ v _ => v = .string (strC cN)⟩,
                 ⟨some 116, false, 1, 1, fun _ v _ => v = .bool false⟩,
                 ⟨some 117, false, 1, 1, fun _ v _ => v = .bool false⟩] (fun _ w' => Below w6.heap.size w6 w') (fun _ w w' => Below w.heap.size w w') [107, 108, 109, 110, 111, 112, 113, 114, 115, 116, 117] rfl (by kernel_rfl) rfl ?g0 ?keep ?steps ?fin
              case keep =>
                intro e he s v w w' hm hsM ht hv
                simp only [List.mem_cons, List.not_mem_nil, or_false] at he
                rcases he with rfl | rfl | rfl | rfl | rfl | rfl | rfl | rfl | rfl | rfl | rfl
                all_goals first | exact hv | exact hv.below ht (fun _ h => h)
              case steps =>
                refine ⟨?_, ?_, ?_, ?_, ?_, ?_, ?_, ?_, ?_, ?_, ?_, trivial⟩
                · intro st hlo hhi ac w3 hg hG hd K hK
                  dsimp only at hlo hhi hG hK
                  rw [if_pos (by rfl)]
                  exact op_move _ rfl (hK _ (hg.kp 10 (by simp)))
                · intro st hlo hhi ac w3 hg hG hd K hK
                  dsimp only at hlo hhi hG hK
                  rw [if_pos (by rfl)]
                  have f0 := hd ⟨0, .data⟩ (by simp) rfl _ rfl _ rfl
                  (try simp [Act.eval] at f0)
                  go_simp
                  exact hK _ rfl
                · intro st hlo hhi ac w3 hg hG hd K hK
                  dsimp only at hlo hhi hG hK
                  rw [if_pos (by rfl)]
                  exact op_move _ rfl (hK _ (hd ⟨1, .data⟩ (by simp) rfl _ rfl _ rfl))
                · intro st hlo hhi ac w3 hg hG hd K hK
                  dsimp only at hlo hhi hG hK
                  rw [if_pos (wanted_of rfl rfl rfl (hd ⟨2, .guard⟩ (by simp) rfl _ rfl _ rfl))]
                  exact op_move _ rfl (hK _ (hg.kp 9 (by simp)))
                · intro st hlo hhi ac w3 hg hG hd K hK
                  dsimp only at hlo hhi hG hK
                  rw [if_pos (wanted_of rfl rfl rfl (hd ⟨2, .guard⟩ (by simp) rfl _ rfl _ rfl))]
                  have s1 := fil_string (HF6.out.below hG (fun _ h => h))
                  have f3 := hd ⟨3, .data⟩ (by simp) rfl _ rfl _ rfl
                  (try simp [Act.eval] at f3)
                  go_simp
                  exact hK _ rfl
                · intro st hlo hhi ac w3 hg hG hd K hK
                  dsimp only at hlo hhi hG hK
                  rw [if_pos (wanted_of rfl rfl rfl (hd ⟨2, .guard⟩ (by simp) rfl _ rfl _ rfl))]
                  exact op_move _ rfl (hK _ (hg.kp 1 (by simp)))
                · intro st hlo hhi ac w3 hg hG hd K hK
                  dsimp only at hlo hhi hG hK
                  rw [if_pos (wanted_of rfl rfl rfl (hd ⟨2, .guard⟩ (by simp) rfl _ rfl _ rfl))]
                  exact op_move _ rfl (hK _ (hg.kp 8 (by simp)))
                · intro ac w3 hg hG hd K hK
                  dsimp only [Nat.zero_add, Nat.reduceAdd] at hG hK
                  rw [if_pos (wanted_of rfl rfl rfl (hd ⟨2, .guard⟩ (by simp) rfl _ rfl _ rfl))]
                  have f2 := hd ⟨5, .data⟩ (by simp) rfl _ rfl _ rfl
                  have f3 := hd ⟨6, .data⟩ (by simp) rfl _ rfl _ rfl
                  simp [Act.eval] at f2 f3
                  go_simp
                  have hB46 := HBr.out.trans ((HB6.out.trans (hG.mono HB6.out.size)).mono HBr.out.size)
                  (refine (rnow_any bw size AR nr capR su left false usR p w3 (H2.out.below hB46).blk (HSL'.out.later hB46) (fun x hx => ⟨G, (H2.out.below hB46).fil x hx⟩) (by omega)).mono ?_)
                  rintro e w7 ⟨v, rfl, h7, hb7⟩
                  rw [show usR.map (fun x => (x.at_, x.c)) = LG from H2.out.hL, HCN.out] at h7
                  exact hK v w7 hb7 (hG.trans (hb7.mono hG.size)) (h7.keep (fun _ _ => rfl) (fun _ _ => trivial))
                · intro st hlo hhi ac w3 hg hG hd K hK
                  dsimp only at hlo hhi hG hK
                  rw [if_pos (wanted_of rfl rfl rfl (hd ⟨2, .guard⟩ (by simp) rfl _ rfl _ rfl))]
                  have f4 := hd ⟨7, .data⟩ (by simp) rfl _ rfl _ rfl
                  have s2 := fil_string f4
                  obtain ⟨hc2, g2, cap2, cs2, e2, -⟩ := f4
                  rw [e2] at s2
                  simp [Act.eval] at e2
                  go_simp
                  exact hK _ rfl
                · intro st hlo hhi ac w3 hg hG hd K hK
                  dsimp only at hlo hhi hG hK
                  rw [if_pos (wanted_of rfl rfl rfl (hd ⟨2, .guard⟩ (by simp) rfl _ rfl _ rfl))]
                  have f4 := hd ⟨4, .data⟩ (by simp) rfl _ rfl _ rfl
                  have f8 := hd ⟨8, .data⟩ (by simp) rfl _ rfl _ rfl
                  (try simp [Act.eval] at f4)
                  (try simp [Act.eval] at f8)
                  go_simp
                  exact hK _ rfl
                · intro st hlo hhi ac w3 hg hG hd K hK
                  dsimp only at hlo hhi hG hK
                  rw [if_pos (by rfl)]
                  have f2 := hd ⟨2, .data⟩ (by simp) rfl _ rfl _ rfl
                  have f9 := hd ⟨9, .data⟩ (by simp) rfl _ rfl _ rfl
                  (try simp [Act.eval] at f2)
                  (try simp [Act.eval] at f9)
                  go_simp
                  exact hK _ rfl
              case g0 => exact (Below.refl _ _).drew
              case fin =>
                intro f2 w7 hG7 hall
                have h117 := hall _ (List.mem_of_getElem? (i := 10) rfl) 117 rfl
                clear hall
                simp only [fillF, List.map_cons, List.map_nil, List.foldl_cons, List.foldl_nil, Act.put, List.setIfInBounds_toArray, List.set_cons_zero, List.set_cons_succ]
                rw [show f2 117 = .bool false from h117]
                clear h117
                have HB7 := hide (HB6.out.trans (hG7.mono HB6.out.size))
                clear hG7
                go_wp2
                go_roundw
                case rel => exact ⟨p + 1, by omega, by go_num, HB7⟩
                case measure => simp [intOf]; omega
            · go_wp2
              go_ret
              exact ⟨rfl, HBp.out⟩
          · by_cases hpl2 : (p : Int) < size
            · have hp12' : ¬ (p : Int) < 12 := by omega
              go_wp2
              go_ret
              exact ⟨rfl, HBp.out⟩
            · go_wp2
              go_ret
              exact ⟨rfl, HBp.out⟩
end Go.Proofs.Ythlgkhnkcjihiaa
