/- The law SectorWhole: the parts. -/
import Derived.Test.YthlgkhnkcjihiaaSecU
import Derived.BigRegion
import Derived.Deep.QuietTactic
import Derived.BigQuiet
namespace Go.Proofs.Ythlgkhnkcjihiaa
set_option linter.unusedSimpArgs false
set_option linter.unusedVariables false
open Go.RowKit
theorem nowC_or (S : Int → Int) (L : List (Int × Int)) (x : Int) : nowC S L x = S x ∨ (x, nowC S L x) ∈ L := by
  unfold nowC
  cases h : L.reverse.find? (fun p => p.1 == x) with
  | none => exact .inl rfl
  | some p =>
    have h1 := List.find?_some h
    have h2 := List.mem_of_find?_eq_some h
    simp at h1 h2
    obtain ⟨a, b⟩ := p
    simp at h1
    subst h1
    exact .inr h2
/-- Behind a crash a sector is as it was sure, or as a write since made it. -/
theorem whole_law (LG : List (Int × Int)) (sure : Nat) (mask x : Int) :
    lastS (maskT mask) (sS LG sure) (sL LG sure) x = sS LG sure x ∨ ∃ k, sure ≤ k ∧ LG[k]? = some (x, lastS (maskT mask) (sS LG sure) (sL LG sure) x) := by
  rw [lastS_eq]
  rcases nowC_or (sS LG sure) (crashG (maskT mask) (sL LG sure)) x with h | h
  · exact .inl h
  · have := crashG_mem _ _ _ h
    unfold sL at this
    obtain ⟨i, hi, e⟩ := List.mem_iff_getElem.1 this
    rw [List.getElem_drop] at e
    refine .inr ⟨sure + i, by omega, ?_⟩
    rw [List.getElem?_eq_getElem (by simp at hi; omega), e]
    rfl
theorem Sl.take_ {α : Type} {k : Nat} {enc : α → List Value} {w : World} {B n m : Nat} {A : Option Addr} {l : List α} (h : Sl k enc w B A n l) (henc : ∀ x, (enc x).length = k) (hm : m ≤ n) : Sl k enc w B A m (l.take m) := by
  have hl : (l.take m).length = m := by rw [List.length_take, h.len]; omega
  have hp : (l.take m).flatMap enc = (l.flatMap enc).take (m * k) := by
    have e : l.flatMap enc = (l.take m).flatMap enc ++ (l.drop m).flatMap enc := by rw [← List.flatMap_append, List.take_append_drop]
    have hle : ((l.take m).flatMap enc).length = m * k := by rw [flat_len henc, hl]
    rw [e, ← hle, List.take_left]
  refine ⟨hl, by rw [flat_len henc, hl], fun h0 => ?_⟩
  obtain ⟨ad, e, hb, hc⟩ := h.2.2 (by omega)
  refine ⟨ad, e, hb, fun j u hu => hc j u ?_⟩
  rw [hp, List.getElem?_take] at hu
  split at hu
  · exact hu
  · cases hu
theorem strC_ne {a b : Int} (h : ((strC a).toList == (strC b).toList) = false) : a ≠ b := by
  rintro rfl
  simp at h
set_option maxRecDepth 100000 in
set_option maxHeartbeats 1000000 in
theorem whole_any (acts : List ActV) (A : Option Addr) (n c : Nat) (mask : Int) (w : World) (hr : AR w w.heap.size A n acts) (ho : okActs acts) (hn : n ≤ 140737488351232) (hm : 0 ≤ mask ∧ mask < 18446744073709551616) :
    Calls Try.prog 3 #[.slice A n c, .int .u64 mask] w fun e w' => e = .returned (.bool true) ∧ Below w.heap.size w w' := by
  have HM := hide hm
  have HR := hide hr
  have HO := hide ho
  clear hr ho hm
  go_enter Try.func3, Try.ntmps3
  go_wp2_with (first | (go_at_call 8; (refine (grown_any acts A n c w HR.out HO.out hn).mono ?_); rintro e w1 ⟨b, bw, rfl, F, G, r, h1, hF, hG, hb1⟩; have H1 := hide h1; have HF := hide hF; have HG := hide hG; have HB1 := hide hb1; clear h1 hF hG hb1) | (go_at_call 9; (refine (answers_any w1).mono ?_); rintro e w2 ⟨rfl, hb2⟩; have H2 := hide (H1.out.below hb2); have HB2 := hide (HB1.out.trans (hb2.mono HB1.out.size)); clear hb2) | (go_at_call 10; (refine (sec_crash H2.out.sec mask HM.out (by omega)).mono ?_); rintro e w3 ⟨rfl, h3, hf3⟩; have H3 := hide (H2.out.left h3 hf3 (fun j hj => .inl hj) (Nat.le_refl _) (by omega)); have HB3 := hide (HB2.out.trans (hf3.below HB2.out.size HF.out)); clear h3 hf3) | (go_at_call 11; (refine (sec_down H3.out.sec).mono ?_); rintro e w4 ⟨rfl, hb4⟩; have HB4 := hide (HB3.out.trans (hb4.mono HB3.out.size)); have H4 := hide (H3.out.below hb4); clear hb4))
  obtain ⟨u, us, hr4⟩ := H4.out.ref
  obtain ⟨A4, cap4, rfl, hcap, hsl⟩ := Ref.forms hr4
  have hlen : us.length = r.LG.length := by rw [← hr4.hL]; simp
  have hus : us.length ≤ 200 := hr4.hn
  have hsu : r.sure ≤ us.length := by have := hr4.hsu; omega
  have HR4 := hide hr4
  have HSL := hide hsl
  have HLEN := hide hlen
  obtain ⟨ksu, hks⟩ : ∃ ksu : Nat, r.sure = ksu := ⟨_, rfl⟩
  have HKS := hide hks
  rw [hks] at hsu
  clear hr4 hsl hlen hks
  go_loopw [7] (fun i wr => ∃ j : Nat, j ≤ 6 ∧ i = .int .i64 j ∧ Hid (Below w4.heap.size w4 wr)) (fun i _ => 6 - (intOf i).toNat)
  case atStart => exact ⟨0, by omega, rfl, hide (Below.refl _ _)⟩
  case round =>
    obtain ⟨j, hj, rfl, HI⟩ := hrel
    by_cases hlt : j < 6
    · have i6 : (j : Int) < 6 := by omega
      have hrd := HR4.out.below HI.out
      have kx := hrd.blk.cell; have qx := hrd.blk.frozen; have zx := hrd.blk.lt
      unfold rk at kx
      rw [HKS.out] at kx
      clear hrd
      go_wp2_with (go_at_call 12; (refine (sec_read (H4.out.below HI.out).sec j).mono ?_); rintro e w5 ⟨v5, rfl, h50, -, hb5⟩; rw [show faultE false 6 j = 0 by unfold faultE; simp; omega] at h50 ⊢; obtain ⟨hc5, g5, cap5, cs5, rfl, hg5, hk5, hcs5⟩ := h50 rfl; have HC5 := hide hc5; have HG5 := hide hg5; have HK5 := hide hk5; have HCS5 := hide hcs5; have HB5 := hide (HI.out.trans (hb5.mono HI.out.size)); have k5 := (HR4.out.below HB5.out).blk.cell; have q5 := (HR4.out.below HB5.out).blk.frozen; have z5 := (HR4.out.below HB5.out).blk.lt; unfold rk at k5; rw [HKS.out] at k5; clear h50 hc5 hg5 hk5 hcs5 hb5)
      go_region
      obtain ⟨W6, hW6, hB6, hK6⟩ : ∃ W6, (w5.alloc (Obj.cells #[Value.int IntKind.i64 6, Value.slice A4 ksu cap4, Value.int IntKind.i64 0, Value.int IntKind.i64 0, Value.bool false] TR)).drew = W6 ∧ Below w5.heap.size w5 W6 ∧ Blk W6 w5.heap.size TR (rk 6 (.slice A4 ksu cap4) 0 0 false) := ⟨_, rfl, ((Below.refl _ _).alloc (Nat.le_refl _) _).drew, (Blk.new _ _ _).drew⟩
      rw [show (w5.alloc (Obj.cells #[Value.int IntKind.i64 6, Value.slice A4 ksu cap4, Value.int IntKind.i64 0, Value.int IntKind.i64 0, Value.bool false] 36)).drew = W6 from hW6]
      clear hW6 k5 q5 z5 kx qx zx
      obtain ⟨bq, hbq⟩ : ∃ bq, w5.heap.size = bq := ⟨_, rfl⟩
      rw [hbq] at hK6
      simp only [hbq]
      have HB6 := hide (HB5.out.trans (hB6.mono HB5.out.size))
      have HK6 := hide hK6
      have HF6 := hide (show Fil W6 (fun _ => True) (.slice (some ⟨g5, 0, none⟩) 512 cap5) (lastS (maskT mask) r.ss.S r.ss.L j) from ⟨HC5.out, g5, cap5, cs5, rfl, trivial, HK5.out.below hB6 HK5.out.lt, HCS5.out⟩)
      clear HK5 HCS5 HC5 HG5 hB6 hK6 hbq
      obtain ⟨cN, hcN⟩ : ∃ cN, lastS (maskT mask) r.ss.S r.ss.L j = cN := ⟨_, rfl⟩
      obtain ⟨cS, hcS⟩ : ∃ cS, sS r.LG r.sure j = cS := ⟨_, rfl⟩
      have hlaw := whole_law r.LG r.sure mask j
      rw [show lastS (maskT mask) (sS r.LG r.sure) (sL r.LG r.sure) j = cN from hcN, hcS, HKS.out] at hlaw
      have HLAW := hide hlaw
      have HCS := hide hcS
      rw [hcN] at HF6
      clear hlaw hcS hcN
      obtain ⟨β0, hβ⟩ : ∃ β0, ((strC cN).toList == (strC cS).toList) = β0 := ⟨_, rfl⟩
      go_wp2
      refine wp_region_stage (by kernel_rfl) (by kernel_rfl) 109 1
        [⟨some 60, false, 0, 1, fun _ v _ => v = .slice (some ⟨g5, 0, none⟩) 512 cap5⟩,
         ⟨some 61, false, 0, 1, fun _ v _ => v = .string (strC cN)⟩,
         ⟨some 62, false, 0, 0, fun _ v _ => v = .pointer (some ⟨bq, 0, none⟩)⟩,
         ⟨some 63, false, 0, 0, fun _ v _ => v = .int .i64 j⟩,
         ⟨some 64, true, 0, 0, fun _ v w' => Fil w' (fun _ => True) v cS⟩,
         ⟨some 65, false, 1, 1, fun _ v _ => v = .string (strC cS)⟩,
         ⟨some 66, false, 1, 1, fun _ v _ => v = .bool β0⟩,
         ⟨some 11, false, 1, 1, fun _ v _ => v = .bool β0⟩] (fun _ w' => Below W6.heap.size W6 w') (fun _ w w' => Below w.heap.size w w') [60, 61, 62, 63, 64, 65, 66, 11] rfl (by kernel_rfl) rfl ?g0 ?keep ?steps ?fin
      case keep =>
        intro e he s v w w' hm hsM ht hv
        simp only [List.mem_cons, List.not_mem_nil, or_false] at he
        rcases he with rfl | rfl | rfl | rfl | rfl | rfl | rfl | rfl
        all_goals first | exact hv | exact hv.below ht (fun _ h => h)
      case steps =>
        refine ⟨?_, ?_, ?_, ?_, ?_, ?_, ?_, ?_, trivial⟩
        · intro st hlo hhi ac w3 hg hG hd K hK
          dsimp only at hlo hhi hG hK
          exact op_move _ rfl (hK _ (hg.kp 8 (by simp)))
        · intro st hlo hhi ac w3 hg hG hd K hK
          dsimp only at hlo hhi hG hK
          have s1 := fil_string (HF6.out.below hG (fun _ h => h))
          have f0 := hd ⟨0, .data⟩ (by simp) rfl _ rfl _ rfl
          (try simp [Act.eval] at f0)
          go_simp
          exact hK _ rfl
        · intro st hlo hhi ac w3 hg hG hd K hK
          dsimp only at hlo hhi hG hK
          exact op_move _ rfl (hK _ (hg.kp 10 (by simp)))
        · intro st hlo hhi ac w3 hg hG hd K hK
          dsimp only at hlo hhi hG hK
          exact op_move _ rfl (hK _ (hg.kp 7 (by simp)))
        · intro ac w3 hg hG hd K hK
          dsimp only [Nat.zero_add, Nat.reduceAdd] at hG hK
          have f2 := hd ⟨2, .data⟩ (by simp) rfl _ rfl _ rfl
          have f3 := hd ⟨3, .data⟩ (by simp) rfl _ rfl _ rfl
          simp [Act.eval] at f2 f3
          go_simp
          have hB46 := HB6.out.trans (hG.mono HB6.out.size)
          (refine (rnow_any bq 6 A4 ksu cap4 0 0 false (us.take ksu) j w3 (HK6.out.below hG HK6.out.lt) ((HSL.out.take_ (fun _ => rfl) hsu).later hB46) (fun x hx => ⟨G, (HR4.out.fil x (List.mem_of_mem_take hx)).below hB46 (fun _ h => h)⟩) (by omega)).mono ?_)
          rintro e w7 ⟨v, rfl, h7, hb7⟩
          rw [show nowC (fun _ => 0) ((us.take ksu).map (fun x => (x.at_, x.c))) j = cS by rw [List.map_take, HR4.out.hL, ← HKS.out]; exact HCS.out] at h7
          exact hK v w7 hb7 (hG.trans (hb7.mono hG.size)) (h7.keep (fun _ _ => rfl) (fun _ _ => trivial))
        · intro st hlo hhi ac w3 hg hG hd K hK
          dsimp only at hlo hhi hG hK
          have f4 := hd ⟨4, .data⟩ (by simp) rfl _ rfl _ rfl
          have s2 := fil_string f4
          obtain ⟨hc2, g2, cap2, cs2, e2, -⟩ := f4
          rw [e2] at s2
          simp [Act.eval] at e2
          go_simp
          exact hK _ rfl
        · intro st hlo hhi ac w3 hg hG hd K hK
          dsimp only at hlo hhi hG hK
          have f1 := hd ⟨1, .data⟩ (by simp) rfl _ rfl _ rfl
          have f5 := hd ⟨5, .data⟩ (by simp) rfl _ rfl _ rfl
          (try simp [Act.eval] at f1)
          (try simp [Act.eval] at f5)
          go_simp
          exact hK _ rfl
        · intro st hlo hhi ac w3 hg hG hd K hK
          dsimp only at hlo hhi hG hK
          exact op_assign _ rfl (hK _ (hd ⟨6, .data⟩ (by simp) rfl _ rfl _ rfl))
      case g0 => exact (Below.refl _ _).drew
      case fin =>
        intro f w7 hG7 hall
        have h11 := hall _ (List.mem_of_getElem? (i := 7) rfl) 11 rfl
        clear hall
        simp only [fillF, List.map_cons, List.map_nil, List.foldl_cons, List.foldl_nil, Act.put, List.setIfInBounds_toArray, List.set_cons_zero, List.set_cons_succ]
        rw [show f 11 = .bool β0 from h11]
        clear h11
        have HB7 := hide (HB6.out.trans (hG7.mono HB6.out.size))
        have k7 := (HR4.out.below HB7.out).blk.cell; have q7 := (HR4.out.below HB7.out).blk.frozen; have z7 := (HR4.out.below HB7.out).blk.lt
        unfold rk at k7
        rw [HKS.out] at k7
        have HF7 := hide (HF6.out.below hG7 (fun _ h => h))
        clear hG7
        go_wp2
        go_loopw [11, 12] (fun o i wr2 => ∃ (q : Nat) (β : Bool), ksu ≤ q ∧ q ≤ us.length ∧ i = .int .i64 q ∧ o = .bool β ∧ Hid (Below w7.heap.size w7 wr2 ∧ (β = false → cN ≠ cS ∧ ∀ k, ksu ≤ k → k < q → r.LG[k]? ≠ some ((j : Int), cN)))) (fun _ i _ => us.length - (intOf i).toNat)
        case atStart => exact ⟨ksu, β0, Nat.le_refl _, hsu, rfl, rfl, hide ⟨Below.refl _ _, fun e => ⟨strC_ne (hβ.trans e), fun k h1 h2 => absurd h1 (by omega)⟩⟩⟩
        case round =>
          obtain ⟨q, β, hq0, hq, rfl, rfl, HJ⟩ := hrel
          have HBr := hide (HB7.out.trans (HJ.out.1.mono HB7.out.size))
          have kr := (HR4.out.below HBr.out).blk.cell; have qr := (HR4.out.below HBr.out).blk.frozen; have zr := (HR4.out.below HBr.out).blk.lt
          unfold rk at kr
          rw [HKS.out] at kr
          clear k7 q7 z7 hβ
          by_cases hlq : q < us.length
          · obtain ⟨bg, o, rfl, hbg, hc⟩ := Sl.at (HSL.out.below HBr.out) (fun _ => rfl) (by omega) (by omega : 0 < us.length)
            have c0 := hc q hlq 0 _ rfl
            have c1 := hc q hlq 1 _ rfl
            have hfq := (HR4.out.below HBr.out).fil us[q] (List.getElem_mem hlq)
            have hLq : r.LG[q]? = some (us[q].at_, us[q].c) := by rw [← HR4.out.hL, List.getElem?_map, List.getElem?_eq_getElem hlq]; rfl
            obtain ⟨x, hx⟩ : ∃ x, us[q] = x := ⟨_, rfl⟩
            rw [hx] at c0 c1 hfq hLq
            have s2 := fun N => fil_string (w := wr.drewN N) hfq
            obtain ⟨hcx, gx, capx, csx, ex, hgx, hkx, -⟩ := hfq
            rw [ex] at c1 s2
            have HLQ := hide hLq
            have zg : bg < wr.heap.size := Nat.lt_of_lt_of_le hbg HBr.out.size
            have hf1 := (HF7.out.below HJ.out.1 (fun _ h => h))
            have s1 := fun N => fil_string (w := wr.drewN N) hf1
            clear hf1
            simp only [Nat.add_zero] at c0
            clear hc hx hLq ex hgx hkx hcx
            cases β
            case true =>
              go_wp2
              go_region
              go_wp2
              go_roundw
              case rel => exact ⟨q + 1, true, by omega, by omega, by go_num, rfl, hide ⟨HJ.out.1.drew, fun e => by cases e⟩⟩
              case measure => simp [intOf]; omega
            case false =>
              by_cases hxa : x.at_ = j
              · have d1 : (x.at_ == (j : Int)) = true := by simpa using hxa
                cases d2 : ((strC cN).toList == (strC x.c).toList)
                · have hno := strC_ne d2
                  have HNO := hide hno
                  clear hno hxa
                  go_wp2
                  go_quiet (fail)
                  go_wp2
                  go_roundw
                  case rel => exact ⟨q + 1, false, by omega, by omega, by go_num, rfl, hide ⟨(show Below w7.heap.size w7 (wr.drewN _) from ⟨HJ.out.1.os, HJ.out.1.tape, HJ.out.1.output, HJ.out.1.size, HJ.out.1.block⟩), fun _ => ⟨(HJ.out.2 (by trivial)).1, fun k h1 h2 => by
                    rcases Nat.lt_or_ge k q with h | h
                    · exact (HJ.out.2 (by trivial)).2 k h1 h
                    · obtain rfl : k = q := by omega
                      rw [HLQ.out]
                      intro e
                      injection e with e
                      injection e with e1 e2
                      exact HNO.out e2.symm⟩⟩⟩
                  case measure => simp [intOf]; omega
                · clear hxa
                  go_wp2
                  go_quiet (fail)
                  go_wp2
                  go_roundw
                  case rel => exact ⟨q + 1, true, by omega, by omega, by go_num, rfl, hide ⟨(show Below w7.heap.size w7 (wr.drewN _) from ⟨HJ.out.1.os, HJ.out.1.tape, HJ.out.1.output, HJ.out.1.size, HJ.out.1.block⟩), fun e => by cases e⟩⟩
                  case measure => simp [intOf]; omega
              · have d1 : (x.at_ == (j : Int)) = false := by simpa using hxa
                have HXA := hide hxa
                clear hxa
                go_wp2
                go_quiet (fail)
                go_wp2
                go_roundw
                case rel => exact ⟨q + 1, false, by omega, by omega, by go_num, rfl, hide ⟨(show Below w7.heap.size w7 (wr.drewN _) from ⟨HJ.out.1.os, HJ.out.1.tape, HJ.out.1.output, HJ.out.1.size, HJ.out.1.block⟩), fun _ => ⟨(HJ.out.2 (by trivial)).1, fun k h1 h2 => by
                  rcases Nat.lt_or_ge k q with h | h
                  · exact (HJ.out.2 (by trivial)).2 k h1 h
                  · obtain rfl : k = q := by omega
                    rw [HLQ.out]
                    intro e
                    injection e with e
                    injection e with e1 e2
                    exact HXA.out e1⟩⟩⟩
                case measure => simp [intOf]; omega
          · obtain rfl : q = us.length := by omega
            have hβ : β = true := by
              cases β
              · obtain ⟨h1, h2⟩ := HJ.out.2 rfl
                rcases HLAW.out with h | ⟨k, hk, h⟩
                · exact absurd h h1
                · exact absurd h (h2 k hk (by have := (List.getElem?_eq_some_iff.1 h).1; have := HLEN.out; omega))
              · rfl
            subst hβ
            go_wp2
            go_roundw
            case rel => exact ⟨j + 1, by omega, by go_num, HBr⟩
            case measure => simp [intOf]; omega
    · have i6 : ¬ (j : Int) < 6 := by omega
      go_wp2
      go_ret
      exact ⟨rfl, HB4.out.trans (HI.out.mono HB4.out.size)⟩
end Go.Proofs.Ythlgkhnkcjihiaa
