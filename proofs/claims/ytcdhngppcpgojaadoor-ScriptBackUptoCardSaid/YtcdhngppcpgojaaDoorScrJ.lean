/- The law ScriptReplies returns true. -/
import Derived.Test.YtcdhngppcpgojaaDoorScrI
namespace Go.Proofs.YtcdhngppcpgojaaDoor
set_option linter.unusedSimpArgs false
set_option linter.unusedVariables false
open Go.RowKit
/-- What the walks need of the world: the tables. -/
structure Wd (w : World) : Prop where
  t : Tab w
  k : Kn w
  g : ∃ g, Tryd.prog.globalNamed "internal/strconv.uint64pow10" = some g ∧ g < w.heap.size
theorem Wd.below {w w' : World} (h : Wd w) (hb : Below w.heap.size w w') : Wd w' :=
  ⟨h.t.below hb, h.k.below hb h.k.1, by obtain ⟨g, e, hl⟩ := h.g; exact ⟨g, e, Nat.lt_of_lt_of_le hl hb.size⟩⟩
def tick : Ac := ⟨6, 0, 5, 0, 0, 0, 0, none, 0, 0, [], [], []⟩
theorem dec_small {n : Nat} (h : n < 10) : Lib.decDigits n = [UInt8.ofNat (48 + n)] := by rw [Lib.decDigits, dif_pos h]
theorem tick_line : tick.line = [116, 105, 99, 107, 32, 48, 32, 53, 32, 48, 32, 120, 32, 48, 32, 48, 32, 48, 32, 120, 32, 48] := by
  have e0 : Lib.itoa 0 = [48] := by unfold Lib.itoa; rw [if_neg (by omega), show (0 : Int).toNat = 0 from rfl, dec_small (by omega)]; rfl
  have e5 : Lib.itoa 5 = [53] := by unfold Lib.itoa; rw [if_neg (by omega), show (5 : Int).toNat = 5 from rfl, dec_small (by omega)]; rfl
  have d0 : Lib.decDigits 0 = [48] := by rw [dec_small (by omega)]; rfl
  unfold Ac.line Ac.words tick
  simp only [itos, List.map_cons, List.map_nil, pairWords, List.flatMap_nil, Int.cast_ofNat_Int]
  rw [e0, e5, d0]
  rfl
set_option maxRecDepth 100000 in
theorem act_tick (w : World) (h : Wd w) : Calls Tryd.prog 15 #[.agg #[.int .i64 6, .int .i64 0, .int .i64 5, .int .u64 0, .int .i64 0, .int .i64 0, .int .i64 0, .slice none 0 0, .string ⟨#[]⟩, .string ⟨#[]⟩]] w fun e w' => e = .returned (.tuple #[.string ⟨#[116, 105, 99, 107, 32, 48, 32, 53, 32, 48, 32, 120, 32, 48, 32, 48, 32, 48, 32, 120, 32, 48]⟩, .int .i64 0]) ∧ Below w.heap.size w w' := by
  have z64 : ∀ x : Int, 0 ≤ x → x ≤ 5 → in64 x := fun x h0 h5 => by unfold in64; omega
  have hok : tick.Ok w w.heap.size := ⟨by unfold in64; exact ⟨by decide, by decide⟩, z64 0 (by decide) (by decide), z64 5 (by decide) (by decide), by show (0:Nat) < 18446744073709551616; decide, z64 0 (by decide) (by decide), z64 0 (by decide) (by decide), z64 0 (by decide) (by decide), Sl.nil _, fun p hp => by cases hp⟩
  have := act_ok tick w hok ⟨by show (1 : Int) ≤ 6; decide, by show (6 : Int) < 15; decide, by show 0 ≤ 128; decide, by show (0:Nat) ≤ 32; decide⟩ h.t h.k h.g (by show (0:Nat) ≤ 2000000; decide) (by rw [tick_line]; simp)
  rw [tick_line] at this
  exact this
set_option maxRecDepth 100000 in
set_option maxHeartbeats 1000000 in
theorem answers_any (w : World) (h : Wd w) : Calls Tryd.prog 9 #[] w fun e w' => e = .returned (.bool true) ∧ Below w.heap.size w w' := by
  have HC := hide (act_tick w h)
  clear h
  go_enter Tryd.func9, Tryd.ntmps9
  go_wp2_with (go_at_call 15; (refine HC.out.mono ?_); rintro e w1 ⟨rfl, hb1⟩; have HB1 := hide hb1; clear hb1)
  go_ret
  exact ⟨rfl, HB1.out⟩
theorem rep_len (r : Rep) (w : World) (B : Nat) (h : r.Ok w B) (hn1 : r.n1 ≤ 400) (hn2 : r.n2 ≤ 400) (htx : r.text.length ≤ 20000) : r.line.length ≤ 1000000 := by
  have hs : short (itos [r.e, (r.n1 : Int)] ++ itos r.ids ++ itos [(r.n2 : Int)] ++ pairWords r.pairs) := short_app (short_app (short_app (short_itos (in_two h.he (by omega))) (short_itos h.i1)) (short_itos (in_one (by omega)))) (short_pw h.i2)
  have e : r.line = jn (itos [r.e, (r.n1 : Int)] ++ itos r.ids ++ itos [(r.n2 : Int)] ++ pairWords r.pairs ++ [hex r.text]) := rfl
  have hl := jn_short hs
  have hl1 := h.s1.len
  have hl2 := h.s2.len
  rw [e, jn_snoc _ _ (by simp [itos])]
  rw [List.length_append, List.length_append, List.length_append, itos_len, itos_len, itos_len, pw_len] at hl
  simp only [List.length_cons, List.length_nil] at hl
  rw [List.length_append, List.length_append]
  have hh : (hex r.text).length = 1 + 2 * r.text.length := by unfold hex; rw [List.length_cons, hexs_len]; omega
  simp only [List.length_singleton]
  omega
set_option maxRecDepth 100000 in
set_option maxHeartbeats 4000000 in
theorem replies_any (r s : Rep) (w : World) (h : Wd w) (hr : r.Ok w w.heap.size) (hs : s.Ok w w.heap.size) (b1 : r.n1 ≤ 140737488351232) (b2 : r.n2 ≤ 140737488351232) (b3 : s.n1 ≤ 140737488351232) (b4 : s.n2 ≤ 140737488351232) (b5 : r.text.length ≤ 140737488355328) (b6 : s.text.length ≤ 140737488355328) :
    Calls Tryd.prog 3 #[.agg r.cells, .agg s.cells] w fun e w' => e = .returned (.bool true) ∧ Below w.heap.size w w' := by
  have H := hide h
  have HR := hide hr
  have HS := hide hs
  clear h hr hs
  obtain ⟨W1, hW1, hb1, hk1, hk2⟩ : ∃ W1, (w.alloc (Obj.cells r.cells TRep)).alloc (Obj.cells s.cells TRep) = W1 ∧ Below w.heap.size w W1 ∧ Blk W1 w.heap.size TRep r.cells ∧ Blk W1 (w.heap.size + 1) TRep s.cells :=
    ⟨_, rfl, ((Below.refl _ _).alloc (Nat.le_refl _) _).alloc (by simp) _, (Blk.new _ _ _).alloc _, by have := Blk.new (w.alloc (Obj.cells r.cells TRep)) TRep s.cells; simpa using this⟩
  have HB1 := hide hb1
  have HK1 := hide hk1
  have HK2 := hide hk2
  have HA1 := hide (answers_any W1 (H.out.below hb1))
  clear hb1 hk1 hk2
  unfold Rep.cells at hW1 ⊢
  go_enter Tryd.func3, Tryd.ntmps3
  go_upto_region 1 with fail
  clear hW1
  by_cases hc : 400 < r.n1 + s.n1 + r.n2 + s.n2
  · have hcI : (400 : Int) < (r.n1 : Int) + s.n1 + r.n2 + s.n2 := by omega
    go_upto_region 2 with (go_at_call 9; (refine HA1.out.mono ?_); rintro e w2 ⟨rfl, hb2⟩; have kr := (HK1.out.below hb2 HK1.out.lt); have k1 := kr.cell; have z1 := kr.lt; have ks := (HK2.out.below hb2 HK2.out.lt); have k2 := ks.cell; have z2 := ks.lt; have HB2 := hide hb2; have HA2 := hide (answers_any w2 ((H.out.below HB1.out).below hb2)); unfold Rep.cells at k1 k2; clear hb2 kr ks)
    go_wp2_with (go_at_call 9; (refine HA2.out.mono ?_); rintro e w3 ⟨rfl, hb3⟩; have HB3 := hide (HB1.out.trans ((HB2.out.trans (hb3.mono HB2.out.size)).mono HB1.out.size)); clear hb3)
    go_ret
    exact ⟨rfl, HB3.out⟩
  · have hcI : ¬ ((400 : Int) < (r.n1 : Int) + s.n1 + r.n2 + s.n2) := by omega
    by_cases hd : 20000 < r.text.length + s.text.length
    · have hdI : (20000 : Int) < (r.text.length : Int) + s.text.length := by omega
      go_upto_region 2 with (go_at_call 9; (refine HA1.out.mono ?_); rintro e w2 ⟨rfl, hb2⟩; have kr := (HK1.out.below hb2 HK1.out.lt); have k1 := kr.cell; have z1 := kr.lt; have ks := (HK2.out.below hb2 HK2.out.lt); have k2 := ks.cell; have z2 := ks.lt; have HB2 := hide hb2; have HA2 := hide (answers_any w2 ((H.out.below HB1.out).below hb2)); unfold Rep.cells at k1 k2; clear hb2 kr ks)
      go_wp2_with (go_at_call 9; (refine HA2.out.mono ?_); rintro e w3 ⟨rfl, hb3⟩; have HB3 := hide (HB1.out.trans ((HB2.out.trans (hb3.mono HB2.out.size)).mono HB1.out.size)); clear hb3)
      go_ret
      exact ⟨rfl, HB3.out⟩
    · have hdI : ¬ ((20000 : Int) < (r.text.length : Int) + s.text.length) := by omega
      go_upto_region 3 with (go_at_call 9; (refine HA1.out.mono ?_); rintro e w2 ⟨rfl, hb2⟩; have kr := (HK1.out.below hb2 HK1.out.lt); have k1 := kr.cell; have z1 := kr.lt; have ks := (HK2.out.below hb2 HK2.out.lt); have k2 := ks.cell; have z2 := ks.lt; have HB2 := hide hb2; unfold Rep.cells at k1 k2; clear hb2 kr ks)
      obtain ⟨W, hW⟩ : ∃ W, w2 = W := ⟨_, rfl⟩
      subst hW
      have HR2 := hide ((HR.out.below (HB1.out.trans (HB2.out.mono HB1.out.size))).more (Nat.le_trans HB1.out.size HB2.out.size))
      have HS2 := hide ((HS.out.below (HB1.out.trans (HB2.out.mono HB1.out.size))).more (Nat.le_trans HB1.out.size HB2.out.size))
      have HW2 := hide ((H.out.below HB1.out).below HB2.out)
      have HQ1 := hide (HK1.out.below HB2.out HK1.out.lt)
      have HQ2 := hide (HK2.out.below HB2.out HK2.out.lt)
      have LR := hide (rep_len r w _ HR.out (by omega) (by omega) (by omega))
      have LS := hide (rep_len s w _ HS.out (by omega) (by omega) (by omega))
      have HB := hide (HB1.out.trans (HB2.out.mono HB1.out.size))
      clear k1 k2 z1 z2 HB2
      refine wp_region_stageW (by kernel_rfl) (by kernel_rfl) 56 2
        [⟨some 40, false, 0, 0, fun _ v _ => v = .agg r.cells⟩,
         ⟨some 41, true, 0, 0, fun _ v _ => v = str r.line⟩,
         ⟨some 42, false, 0, 1, fun _ v _ => v = .agg s.cells⟩,
         ⟨some 43, true, 1, 1, fun _ v _ => v = str s.line⟩,
         ⟨some 5, false, 1, 2, fun _ v _ => v = str r.line⟩,
         ⟨some 6, false, 2, 2, fun _ v _ => v = str s.line⟩] (fun _ w' => Below w2.heap.size w2 w') (fun _ w w' => True) [40, 41, 42, 43, 5, 6] rfl (by kernel_rfl) rfl ?g0 ?keep ?steps ?fin
      case keep =>
        intro e he s v w w' hm hlo hsM ht hv
        simp only [List.mem_cons, List.not_mem_nil, or_false] at he
        rcases he with rfl | rfl | rfl | rfl | rfl | rfl
        all_goals first | exact hv | (exfalso; dsimp only at hlo; omega) | (intro h3; exfalso; have := hm rfl; dsimp only at this; omega)
      case steps =>
        refine ⟨?_, ?_, ?_, ?_, ?_, ?_, trivial⟩
        · intro st hlo hhi ac w3 hg hG hd ho K hK
          dsimp only at hlo hhi hG hK
          rw [if_pos (by rfl)]
          have kk := (HQ1.out.below hG HQ1.out.lt)
          have k0 := kk.cell
          have zz := kk.lt
          unfold Rep.cells at k0
          clear kk
          have k2 := hg.kp 2 (by simp)
          (try simp [Act.eval] at k2)
          go_simp
          exact hK _ rfl
        · intro ac w3 hg hG hd ho K hK
          dsimp only [Nat.zero_add, Nat.reduceAdd] at hG hK
          rw [if_pos (by rfl)]
          have f1 : ac.eval (.tmp 40) = .agg r.cells := hd ⟨0, .data⟩ (by simp) rfl _ rfl _ rfl
          simp [Act.eval] at f1
          go_simp
          (refine (reply_any r w3 ((HR2.out.below hG).more hG.size) (HW2.out.below hG).t (HW2.out.below hG).g (by omega) (by omega) (by omega) LR.out).mono ?_)
          rintro e2 w4 ⟨rfl, hb4⟩
          exact hK (str r.line) w4 trivial (hG.trans (hb4.mono hG.size)) rfl
        · intro st hlo hhi ac w3 hg hG hd ho K hK
          dsimp only at hlo hhi hG hK
          rw [if_pos (by rfl)]
          have kk := (HQ2.out.below hG HQ2.out.lt)
          have k0 := kk.cell
          have zz := kk.lt
          unfold Rep.cells at k0
          clear kk
          have k3 := hg.kp 3 (by simp)
          (try simp [Act.eval] at k3)
          go_simp
          exact hK _ rfl
        · intro ac w3 hg hG hd ho K hK
          dsimp only [Nat.zero_add, Nat.reduceAdd] at hG hK
          rw [if_pos (by rfl)]
          have f1 : ac.eval (.tmp 42) = .agg s.cells := hd ⟨2, .data⟩ (by simp) rfl _ rfl _ rfl
          simp [Act.eval] at f1
          go_simp
          (refine (reply_any s w3 ((HS2.out.below hG).more hG.size) (HW2.out.below hG).t (HW2.out.below hG).g (by omega) (by omega) (by omega) LS.out).mono ?_)
          rintro e2 w4 ⟨rfl, hb4⟩
          exact hK (str s.line) w4 trivial (hG.trans (hb4.mono hG.size)) rfl
        · intro st hlo hhi ac w3 hg hG hd ho K hK
          dsimp only at hlo hhi hG hK
          rw [if_pos (by rfl)]
          exact op_assign _ rfl (hK _ (hd ⟨1, .data⟩ (by simp) rfl _ rfl _ rfl))
        · intro st hlo hhi ac w3 hg hG hd ho K hK
          dsimp only at hlo hhi hG hK
          rw [if_pos (by rfl)]
          exact op_assign _ rfl (hK _ (hd ⟨3, .data⟩ (by simp) rfl _ rfl _ rfl))
      case g0 => exact (Below.refl _ _).drew
      case fin =>
        intro f w5 hG hall
        have h5 := hall _ (List.mem_of_getElem? (i := 4) rfl) 5 rfl
        have h6 := hall _ (List.mem_of_getElem? (i := 5) rfl) 6 rfl
        clear hall
        simp only [fillF, List.map_cons, List.map_nil, List.foldl_cons, List.foldl_nil, Act.put, List.setIfInBounds_toArray, List.set_cons_zero, List.set_cons_succ]
        rw [show f 5 = str r.line from h5, show f 6 = str s.line from h6]
        obtain ⟨V5, hV5⟩ : ∃ V5, w5 = V5 := ⟨_, rfl⟩
        have HG5 := hide hG
        have HQ3 := hide (HQ1.out.below hG HQ1.out.lt)
        have HQ4 := hide (HQ2.out.below hG HQ2.out.lt)
        clear h5 h6 hG hV5
        go_upto_region 4 with fail
        refine wp_region_stageW (by kernel_rfl) (by kernel_rfl) 56 2
          [⟨some 44, false, 0, 0, fun _ v _ => v = .agg r.cells⟩,
           ⟨some 45, true, 0, 0, fun _ v _ => v = str r.line⟩,
           ⟨some 46, false, 0, 1, fun _ v _ => v = .agg s.cells⟩,
           ⟨some 47, true, 1, 1, fun _ v _ => v = str s.line⟩,
           ⟨some 7, false, 1, 2, fun _ v _ => v = str r.line⟩,
           ⟨some 8, false, 2, 2, fun _ v _ => v = str s.line⟩] (fun _ w' => Below w5.heap.size w5 w') (fun _ w w' => True) [44, 45, 46, 47, 7, 8] rfl (by kernel_rfl) rfl ?g0 ?keep ?steps ?fin
        case keep =>
          intro e he s v w w' hm hlo hsM ht hv
          simp only [List.mem_cons, List.not_mem_nil, or_false] at he
          rcases he with rfl | rfl | rfl | rfl | rfl | rfl
          all_goals first | exact hv | (exfalso; dsimp only at hlo; omega) | (intro h3; exfalso; have := hm rfl; dsimp only at this; omega)
        case steps =>
          refine ⟨?_, ?_, ?_, ?_, ?_, ?_, trivial⟩
          · intro st hlo hhi ac w3 hg hG hd ho K hK
            dsimp only at hlo hhi hG hK
            rw [if_pos (by rfl)]
            have kk := (HQ3.out.below hG HQ3.out.lt)
            have k0 := kk.cell
            have zz := kk.lt
            unfold Rep.cells at k0
            clear kk
            have k2 := hg.kp 2 (by simp)
            (try simp [Act.eval] at k2)
            go_simp
            exact hK _ rfl
          · intro ac w3 hg hG hd ho K hK
            dsimp only [Nat.zero_add, Nat.reduceAdd] at hG hK
            rw [if_pos (by rfl)]
            have f1 : ac.eval (.tmp 44) = .agg r.cells := hd ⟨0, .data⟩ (by simp) rfl _ rfl _ rfl
            simp [Act.eval] at f1
            go_simp
            (refine (rreply_any r w3 (((HR2.out.below HG5.out).more HG5.out.size |>.below hG).more hG.size) (by omega) (by omega) (by omega)).mono ?_)
            rintro e2 w4 ⟨rfl, hb4⟩
            exact hK (str r.line) w4 trivial (hG.trans (hb4.mono hG.size)) rfl
          · intro st hlo hhi ac w3 hg hG hd ho K hK
            dsimp only at hlo hhi hG hK
            rw [if_pos (by rfl)]
            have kk := (HQ4.out.below hG HQ4.out.lt)
            have k0 := kk.cell
            have zz := kk.lt
            unfold Rep.cells at k0
            clear kk
            have k3 := hg.kp 3 (by simp)
            (try simp [Act.eval] at k3)
            go_simp
            exact hK _ rfl
          · intro ac w3 hg hG hd ho K hK
            dsimp only [Nat.zero_add, Nat.reduceAdd] at hG hK
            rw [if_pos (by rfl)]
            have f1 : ac.eval (.tmp 46) = .agg s.cells := hd ⟨2, .data⟩ (by simp) rfl _ rfl _ rfl
            simp [Act.eval] at f1
            go_simp
            (refine (rreply_any s w3 (((HS2.out.below HG5.out).more HG5.out.size |>.below hG).more hG.size) (by omega) (by omega) (by omega)).mono ?_)
            rintro e2 w4 ⟨rfl, hb4⟩
            exact hK (str s.line) w4 trivial (hG.trans (hb4.mono hG.size)) rfl
          · intro st hlo hhi ac w3 hg hG hd ho K hK
            dsimp only at hlo hhi hG hK
            rw [if_pos (by rfl)]
            exact op_assign _ rfl (hK _ (hd ⟨1, .data⟩ (by simp) rfl _ rfl _ rfl))
          · intro st hlo hhi ac w3 hg hG hd ho K hK
            dsimp only at hlo hhi hG hK
            rw [if_pos (by rfl)]
            exact op_assign _ rfl (hK _ (hd ⟨3, .data⟩ (by simp) rfl _ rfl _ rfl))
        case g0 => exact (Below.refl _ _).drew
        case fin =>
          intro f w6 hG hall
          have h5 := hall _ (List.mem_of_getElem? (i := 4) rfl) 7 rfl
          have h6 := hall _ (List.mem_of_getElem? (i := 5) rfl) 8 rfl
          clear hall
          simp only [fillF, List.map_cons, List.map_nil, List.foldl_cons, List.foldl_nil, Act.put, List.setIfInBounds_toArray, List.set_cons_zero, List.set_cons_succ]
          rw [show f 7 = str r.line from h5, show f 8 = str s.line from h6]
          have HB6 := hide (HB.out.trans ((HG5.out.trans (hG.mono HG5.out.size)).mono HB.out.size))
          clear h5 h6 hG
          go_wp2
          go_ret
          exact ⟨rfl, HB6.out⟩
end Go.Proofs.YtcdhngppcpgojaaDoor
