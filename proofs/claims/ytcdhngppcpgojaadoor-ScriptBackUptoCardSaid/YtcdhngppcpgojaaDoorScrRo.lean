/- The document's act of a line: all of it. -/
import Derived.Test.YtcdhngppcpgojaaDoorScrRn
namespace Go.Proofs.YtcdhngppcpgojaaDoor
set_option linter.unusedSimpArgs false
set_option linter.unusedVariables false
open Go.RowKit
set_option maxRecDepth 1000000 in
set_option maxHeartbeats 4000000 in
theorem rtoact_any (s : List UInt8) (w : World) (hl : s.length ≤ 600000000) :
    Calls Tryd.prog 19 #[str s] w fun e w' => ToP w.heap.size (wordsL s) (.bool true) (.bool false) e w' ∧ Below w.heap.size w w' := by
  have hls : lens (wordsL s) := fun x hx => Nat.le_trans (wordsL_len s x hx) hl
  obtain ⟨W0, hW0, hz0, hb0, hs0⟩ : ∃ W0, w.alloc (Obj.cells zact TAct) = W0 ∧ Blk W0 w.heap.size TAct zact ∧ Below w.heap.size w W0 ∧ W0.heap.size = w.heap.size + 1 := ⟨_, rfl, Blk.new _ _ _, (Below.refl _ _).alloc (Nat.le_refl _) _, by simp⟩
  have hwl : 0 < (wordsL s).length := List.length_pos_iff.2 (wordsL_ne s)
  have HCW := hide (rwords_any s W0 hl)
  unfold WoP at HCW
  have hlb := wordsL_count s
  obtain ⟨ws, hws⟩ : ∃ ws, wordsL s = ws := ⟨_, rfl⟩
  rw [hws] at hls hwl HCW hlb ⊢
  have HL := hide hls
  have HLB := hide hlb
  have HW0 := hide hW0
  have HZ0 := hide hz0
  have HB0 := hide hb0
  have HS0 := hide hs0
  have HWL := hide hwl
  have HLL := hide hl
  clear hl hls hW0 hz0 hb0 hs0 hws hwl hlb
  go_enter Tryd.func19, Tryd.ntmps19
  refine Code.wp_mono (Q := QQ w ws) (fun _ _ _ h => h) ?_
  refine id (show Code.wp Tryd.prog (tl 0) _ _ _ from ?_)
  rw [show tl 0 = Code.seq (cmp 0) (Code.seq (cmp 1) (Code.seq (cmp 2) (Code.seq (cmp 3) (Code.seq (cmp 4) (Code.seq (cmp 5) (Code.seq (cmp 6) (tl 7))))))) from rfl]
  conv => arg 2; arg 1; whnf
  conv => arg 2; arg 2; arg 1; whnf
  conv => arg 2; arg 2; arg 2; arg 1; whnf
  conv => arg 2; arg 2; arg 2; arg 2; arg 1; whnf
  conv => arg 2; arg 2; arg 2; arg 2; arg 2; arg 1; whnf
  conv => arg 2; arg 2; arg 2; arg 2; arg 2; arg 2; arg 1; whnf
  conv => arg 2; arg 2; arg 2; arg 2; arg 2; arg 2; arg 2; arg 1; whnf
  unfold QQ
  go_upto_region 1 with fail
  rw [HW0.out]
  clear HW0
  go_upto_region 3 with (go_at_call 40; (refine HCW.out.mono ?_); rintro e w1 ⟨⟨A, c, rfl, hro⟩, hb1⟩; have HRO := hide hro; have HB1 := hide hb1; clear hro hb1)
  obtain ⟨gw, rfl, hgb, hgl, hcl⟩ := row_open HRO.out HWL.out
  obtain ⟨g, hg⟩ : ∃ g, w1.heap.size = g := ⟨_, rfl⟩
  obtain ⟨W1, hW1, hrs⟩ : ∃ W1, w1.alloc (Obj.cells zact TAct) = W1 ∧ RS w ws gw g zact W1 := by
    have hs := HS0.out
    have hb := HB1.out.size
    have hb7 : Below w1.heap.size w1 (w1.alloc (Obj.cells zact TAct)) := (Below.refl _ _).alloc (Nat.le_refl _) _
    refine ⟨_, rfl, fun j hj => ?_, by simp; omega, by rw [← hg]; exact Blk.new _ _ _, (HZ0.out.below HB1.out HZ0.out.lt).alloc _, (HB0.out.trans (HB1.out.mono HB0.out.size)).alloc (by omega) _, by omega, by omega, by omega⟩
    refine (hb7.cell hgl).trans (hcl j _ ?_)
    rw [List.getElem?_map, List.getElem?_eq_getElem hj]
    show some (str ws[j]) = some (str (wat ws j))
    rw [show wat ws j = ws[j] from by unfold wat; rw [List.drop_eq_getElem_cons hj]; rfl]
  rw [hg, hW1]
  have HS := hide hrs
  clear hg hW1 HRO HB1 HZ0 HB0 HS0 HWL HCW hgb hgl hcl hrs
  obtain ⟨n, hn⟩ : ∃ n, ws.length = n := ⟨_, rfl⟩
  have HN := hide hn
  rw [hn]
  clear hn
  by_cases hsh : n < 10
  · have HNP := hide (not_parse_short (ws := ws) (by rw [HN.out]; exact hsh))
    have hI : (n : Int) < 10 := by omega
    have kg := HS.out.a.cell; have qg := HS.out.a.frozen; have zg := HS.out.a.lt
    have kz := HS.out.z.cell; have qz := HS.out.z.frozen; have zz := HS.out.z.lt
    clear hsh
    go_wp2_with fail
    obtain ⟨W6, hW6, hx6⟩ := set10 HS.out.z (.int .i64 0) (.int .i64 0) (.int .i64 0) (.int .u64 0) (.int .i64 0) (.int .i64 0) (.int .i64 0) (.slice none 0 0) (.string ⟨#[]⟩) (.string ⟨#[]⟩)
    rw [hW6]
    have k6 := hx6.k.cell; have z6 := hx6.k.lt
    refine bodyPost_ret (v := .tuple #[.agg zact, .bool false]) (by simp [results, Tryd.results19, go_sem, k6, z6]) rfl ⟨.inr ⟨rfl, HNP.out⟩, (HS.out.b).trans (hx6.b.mono (Nat.le_refl _))⟩
  · have hI : ¬ (n : Int) < 10 := by omega
    have h10 : 10 ≤ n := by omega
    clear hsh
    obtain ⟨x0, hx0⟩ : ∃ x, wat ws 0 = x := ⟨_, rfl⟩
    have HX0 := hide hx0
    clear hx0
    go_upto_region 8 with fail
    go_loopw [8] (fun i wr => ∃ k : Nat, (1 ≤ k ∧ k ≤ 15) ∧ i = .int .i64 k ∧ Hid (RS w ws gw g #[.int .i64 (kfar x0 k), .int .i64 0, .int .i64 0, .int .u64 0, .int .i64 0, .int .i64 0, .int .i64 0, .slice none 0 0, .string ⟨#[]⟩, .string ⟨#[]⟩] wr)) (fun i _ => 15 - (intOf i).toNat)
    case atStart => exact ⟨1, by omega, rfl, by rw [kfar_one]; exact HS⟩
    case round =>
      obtain ⟨k, ⟨hk1, hk2⟩, rfl, HI⟩ := hrel
      by_cases hlt : k ≤ 14
      · have hltI : (k : Int) ≤ 14 := by omega
        have HCK := hide (fun w1 => word_any (k : Int) w1)
        rw [show wordOf (k : Int) = kw k from (word_good (k := (k : Int)) (by omega)).1.trans (by simp)] at HCK
        obtain ⟨K, hK⟩ : ∃ K, kw k = K := ⟨_, rfl⟩
        rw [hK] at HCK
        have HKK := hide hK
        clear hK
        go_upto_region 10 with fail
        refine wp_region_stage (by kernel_rfl) (by kernel_rfl) 230 1
          [⟨some 26, false, 0, 0, fun _ v _ => v = .int .i64 k⟩,
           ⟨some 27, true, 0, 0, fun _ v _ => v = str K⟩,
           ⟨some 28, false, 0, 1, fun _ v _ => v = .slice (some ⟨gw, 0, none⟩) n c⟩,
           ⟨some 29, false, 0, 1, fun _ v _ => v = .pointer (some ⟨gw, 0, none⟩)⟩,
           ⟨some 30, false, 0, 1, fun _ v _ => v = str x0⟩,
           ⟨some 31, false, 1, 1, fun _ v _ => v = .bool (K == x0)⟩] (fun _ w' => Below wr.heap.size wr w') (fun _ w w' => True) [26, 27, 28, 29, 30, 31] rfl (by kernel_rfl) rfl ?g0 ?keep ?steps ?fin
        case keep =>
          intro e he s v w w' hm hsM ht hv
          simp only [List.mem_cons, List.not_mem_nil, or_false] at he
          rcases he with rfl | rfl | rfl | rfl | rfl | rfl
          all_goals first | exact hv
        case steps =>
          refine ⟨?_, ?_, ?_, ?_, ?_, ?_, trivial⟩
          · intro st hlo hhi ac w3 hg hG hd K hK
            dsimp only at hlo hhi hG hK
            exact op_move _ rfl (hK _ (hg.kp 8 (by simp)))
          · intro ac w3 hg hG hd K hK
            dsimp only [Nat.zero_add, Nat.reduceAdd] at hG hK
            have f0 := hd ⟨0, .data⟩ (by simp) rfl _ rfl _ rfl
            have HG0 := hide hG
            clear hG
            simp [Act.eval] at f0
            go_simp
            (refine (HCK.out w3).mono ?_)
            rintro e w4 ⟨rfl, hb⟩
            exact hK _ w4 trivial (HG0.out.trans (hb.mono HG0.out.size)) rfl
          · intro st hlo hhi ac w3 hg hG hd K hK
            dsimp only at hlo hhi hG hK
            exact op_move _ rfl (hK _ (hg.kp 4 (by simp)))
          · intro st hlo hhi ac w3 hg hG hd K hK
            dsimp only at hlo hhi hG hK
            have f2 := hd ⟨2, .data⟩ (by simp) rfl _ rfl _ rfl
            simp [Act.eval] at f2
            clear hG
            have h1 : 0 < n := by omega
            go_simp
            exact hK _ rfl
          · intro st hlo hhi ac w3 hg hG hd K hK
            dsimp only at hlo hhi hG hK
            have f3 := hd ⟨3, .data⟩ (by simp) rfl _ rfl _ rfl
            simp [Act.eval] at f3
            have hc := (HI.out.below hG).wd 0 (by rw [HN.out]; omega)
            rw [HX0.out] at hc
            have hl := (HI.out.below hG).wl
            clear hG
            go_simp
            exact hK _ rfl
          · intro st hlo hhi ac w3 hg hG hd K hK
            dsimp only at hlo hhi hG hK
            have f1 := hd ⟨1, .data⟩ (by simp) rfl _ rfl _ rfl
            have f4 := hd ⟨4, .data⟩ (by simp) rfl _ rfl _ rfl
            simp [Act.eval] at f1 f4
            clear hG
            go_simp
            exact hK _ rfl
        case g0 => exact (Below.refl _ _).drew
        case fin =>
          intro f w5 hG hall
          have h5 := hall _ (List.mem_of_getElem? (i := 5) rfl) 31 rfl
          have HI2 := hide (HI.out.below hG)
          clear hall hG
          simp only [fillF, List.map_cons, List.map_nil, List.foldl_cons, List.foldl_nil, Act.put, List.setIfInBounds_toArray, List.set_cons_zero, List.set_cons_succ]
          rw [show f 31 = .bool (K == x0) from h5]
          clear h5
          have kg := HI2.out.a.cell; have qg := HI2.out.a.frozen; have zg := HI2.out.a.lt
          obtain ⟨t, ht⟩ : ∃ t, (K == x0) = t := ⟨_, rfl⟩
          rw [ht]
          cases t
          · have HE := hide (kfar_pass x0 k hk1 hlt (fun e => by rw [← HKK.out, e] at ht; simp at ht))
            clear ht
            go_wp2_with fail
            go_roundw
            case rel => exact ⟨k + 1, by omega, by go_num, by rw [HE.out]; exact HI2⟩
            case measure => simp [intOf]; omega
          · have HE := hide (kfar_hit x0 k hk1 hlt (by rw [HKK.out]; simpa using ht))
            clear ht
            go_wp2_with fail
            go_roundw
            case rel => exact ⟨k + 1, by omega, by go_num, by rw [HE.out]; exact hide (HI2.out.set 0 _)⟩
            case measure => simp [intOf]; omega
      · have hk15 : k = 15 := by omega
        subst hk15
        rw [kfar_end] at HI
        obtain ⟨kx, hkx⟩ : ∃ kx, kix x0 = kx := ⟨_, rfl⟩
        rw [hkx] at HI
        have HKX := hide hkx
        have HS := HI
        have hltI : ¬ ((15 : Nat) : Int) ≤ 14 := by omega
        have HNX := hide (rfields w s ws gw g n c true kx (HX0.out ▸ HKX.out) HL.out HN.out h10 (by rw [← HN.out]; have := HLB.out; have := HLL.out; omega))
        clear hkx HI hk1 hk2 hlt
        go_wp2_with fail
        exact HNX.out _ _ _ _ _ _ _ _ _ _ _ _ _ _ _ _ _ _ _ _ _ _ _ _ _ _ _ _ _ _ _ _ _ _ _ _ _ _ _ _ _ _ _ _ _ _ _ _ _ _ _ _ _ _ _ _ _ _ _ _ _ _ _ _ _ _ _ _ _ _ _ _ _ _ _ _ _ _ _ _ _ _ _ _ _ _ _ _ _ _ _ _ _ _ _ _ _ _ _ _ _ _ _ _ _ _ _ _ _ _ _ _ _ _ _ _ _ _ _ _ _ _ _ _ _ _ _ _ _ _ _ _ _ _ _ _ _ _ _ _ _ _ _ _ _ _ _ _ _ _ _ _ _ _ _ _ _ _ _ _ _ _ _ _ _ _ _ _ _ _ _ _ _ _ _ _ _ _ _ _ _ _ _ _ _ _ _ _ _ _ _ _ _ _ _ _ _ _ _ _ _ _ _ _ _ _ _ _ _ _ _ _ _ _ _ _ _ _ _ _ _ _ HS.out
end Go.Proofs.YtcdhngppcpgojaaDoor
