/- The document's Same, walked. -/
import Derived.Test.YtmbjalcphdggnaaDoorJsT
import Derived.Test.YtmbjalcphdggnaaDoorRegH
namespace Go.Proofs.YtmbjalcphdggnaaDoor
set_option linter.unusedSimpArgs false
set_option linter.unusedVariables false
open Go.RowKit
def SameC (n : Nat) : Prop := ∀ (w : World) (J J' : JV) (cs cs' : List Value), szJ J ≤ n → VRd w (fun j => j < w.heap.size) J cs → VRd w (fun j => j < w.heap.size) J' cs' →
  Calls Tryd.prog 11 #[.agg cs.toArray, .agg cs'.toArray] w fun e w' => e = .returned (.bool (eqJ J J')) ∧ Below w.heap.size w w'
theorem str_ne {t t' : L8} (h : t ≠ t') : ((⟨t.toArray⟩ : ByteArray) == ⟨t'.toArray⟩) = false := by
  rw [Bool.eq_false_iff]
  intro e
  have e2 : t.toArray = t'.toArray := eq_of_beq (show (t.toArray == t'.toArray) = true from e)
  exact h (by simpa using congrArg Array.toList e2)
theorem four_cells {w : World} {ad : Addr} {o : Nat} {v0 v1 v2 v3 : Value} (h0 : w.cell? (ad.add o) = some v0) (h1 : w.cell? (ad.add (o + 1)) = some v1) (h2 : w.cell? (ad.add (o + 2)) = some v2) (h3 : w.cell? (ad.add (o + 3)) = some v3) :
    w.cell? (ad.add o) = some v0 ∧ w.cell? ⟨(ad.add o).block, (ad.add o).off + 1, none⟩ = some v1 ∧ w.cell? ⟨(ad.add o).block, (ad.add o).off + 2, none⟩ = some v2 ∧ w.cell? ⟨(ad.add o).block, (ad.add o).off + 3, none⟩ = some v3 := by
  have hs := spot_none h0
  rw [add_plain _ 1 hs, add_plain _ 2 hs, add_plain _ 3 hs, add_of_add, add_of_add, add_of_add]
  exact ⟨h0, h1, h2, h3⟩
theorem ext_to {α : Type} {a b : List α} (hl : a.length = b.length) (h : ∀ i, i < a.length → a[i]? = b[i]?) : a = b := by
  apply List.ext_getElem?
  intro i
  rcases Nat.lt_or_ge i a.length with q | q
  · exact h i q
  · rw [List.getElem?_eq_none q, List.getElem?_eq_none (by omega)]
set_option maxRecDepth 100000 in
set_option maxHeartbeats 4000000 in
theorem same_step (n : Nat) (ih : SameC n) : SameC (n + 1) := by
  intro w J J' cs cs' hsz h h'
  obtain ⟨k, t, ks, vs⟩ := J
  obtain ⟨k', t', ks', vs'⟩ := J'
  obtain ⟨A1, c1, A2, c2, xs, rfl, hc1, hr1, hc2, hr2, hl⟩ := h.mk'
  obtain ⟨A1', c1', A2', c2', xs', rfl, hc1', hr1', hc2', hr2', hl'⟩ := h'.mk'
  have IH := hide ih
  clear h h' ih
  obtain ⟨w2, hw2⟩ : ∃ w2, (w.alloc (.cells #[.int .i64 k, .string ⟨t.toArray⟩, .slice A1 ks.length c1, .slice A2 vs.length c2] TV)).alloc (.cells #[.int .i64 k', .string ⟨t'.toArray⟩, .slice A1' ks'.length c1', .slice A2' vs'.length c2'] TV) = w2 := ⟨_, rfl⟩
  have HB2 := hide (show Below w.heap.size w w2 from hw2 ▸ bal (al_below w _) _)
  have HV1 := hide (show Blk w2 w.heap.size TV #[.int .i64 k, .string ⟨t.toArray⟩, .slice A1 ks.length c1, .slice A2 vs.length c2] from hw2 ▸ (Blk.new _ _ _).alloc _)
  have HV2 := hide (show Blk w2 (w.heap.size + 1) TV #[.int .i64 k', .string ⟨t'.toArray⟩, .slice A1' ks'.length c1', .slice A2' vs'.length c2'] from by
    rw [← hw2, show w.heap.size + 1 = (w.alloc (.cells #[.int .i64 k, .string ⟨t.toArray⟩, .slice A1 ks.length c1, .slice A2 vs.length c2] TV)).heap.size by simp]
    exact Blk.new _ _ _)
  have HW2 := hide hw2
  clear hw2
  have HR1 := hide (hr1.later HB2.out)
  have HR1' := hide (hr1'.later HB2.out)
  have HR2 := hide (hr2.later HB2.out)
  have HR2' := hide (hr2'.later HB2.out)
  have HL := hide (hl.later HB2.out)
  have HL' := hide (hl'.later HB2.out)
  clear hr1 hr1' hr2 hr2' hl hl'
  have hM : maxLen = 9223372036854775807 := rfl
  go_enter Tryd.func11, Tryd.ntmps11
  go_upto_region 1 with fail
  refine id (show Code.wp _ _ _ _ ((w.alloc (.cells #[.int .i64 k, .string ⟨t.toArray⟩, .slice A1 ks.length c1, .slice A2 vs.length c2] TV)).alloc (.cells #[.int .i64 k', .string ⟨t'.toArray⟩, .slice A1' ks'.length c1', .slice A2' vs'.length c2'] TV)) from ?_)
  rw [HW2.out]
  have kv1 := HV1.out.cell; have fv1 := HV1.out.frozen; have zv1 := HV1.out.lt
  have kv2 := HV2.out.cell; have fv2 := HV2.out.frozen; have zv2 := HV2.out.lt
  by_cases hk : k = k'
  · subst hk
    by_cases ht : t = t'
    · subst ht
      by_cases hn1 : ks.length = ks'.length
      · by_cases hn2 : vs.length = vs'.length
        · have e1 : ((ks.length : Int) != (ks'.length : Int)) = false := by simp; omega
          have e2 : ((vs.length : Int) != (vs'.length : Int)) = false := by simp; omega
          have HN1 := hide hn1
          have HN2 := hide hn2
          clear hn1 hn2
          go_wp2_with fail
          clear kv1 fv1 zv1 kv2 fv2 zv2
          go_loopw [5] (fun iv wr => ∃ j : Nat, iv = .int .i64 (j : Int) ∧ j ≤ ks.length ∧ Hid (Below w2.heap.size w2 wr) ∧ Hid (∀ i, i < j → ks[i]? = ks'[i]?)) (fun iv _ => ks.length - (intOf iv).toNat)
          case atStart => exact ⟨0, by go_num, by omega, Below.refl _ _, hide (fun i hi => by omega)⟩
          case round =>
            obtain ⟨j, rfl, hj, HB, HE⟩ := hrel
            have HVa := hide (HV1.out.below HB.out HV1.out.lt)
            have HVb := hide (HV2.out.below HB.out HV2.out.lt)
            have kv1 := HVa.out.cell; have fv1 := HVa.out.frozen; have zv1 := HVa.out.lt
            have kv2 := HVb.out.cell; have fv2 := HVb.out.frozen; have zv2 := HVb.out.lt
            by_cases hlt : j < ks.length
            · have hlt' : j < ks'.length := by have := HN1.out; omega
              obtain ⟨ad, hA, had, hc⟩ := HR1.out.2 (by omega)
              obtain ⟨ad', hA', had', hc'⟩ := HR1'.out.2 (by omega)
              subst hA hA'
              have cx := (HB.out.cell (show (ad.add j).block < w2.heap.size by rw [block_of_add]; exact had)).trans (hc j _ (sc_at hlt))
              have cy := (HB.out.cell (show (ad'.add j).block < w2.heap.size by rw [block_of_add]; exact had')).trans (hc' j _ (sc_at hlt'))
              obtain ⟨x, hx⟩ : ∃ x, ks[j] = x := ⟨_, rfl⟩
              obtain ⟨y, hy⟩ : ∃ y, ks'[j] = y := ⟨_, rfl⟩
              have zx : ad.block < wr.heap.size := Nat.lt_of_lt_of_le had HB.out.size
              have zy : ad'.block < wr.heap.size := Nat.lt_of_lt_of_le had' HB.out.size
              rw [hx] at cx
              rw [hy] at cy
              unfold bstr at cx cy
              have HX := hide hx
              have HY := hide hy
              clear hc hc' hx hy
              have hcj : j ≤ c1 := by omega
              have hcj' : j ≤ c1' := by omega
              go_upto_region 6 with fail
              go_quiet (fail)
              obtain ⟨w3, hw3⟩ : ∃ w3, wr.drewN nq = w3 := ⟨_, rfl⟩
              have HB3 := hide (show Below w2.heap.size w2 w3 from hw3 ▸ HB.out.trans ((below_drewN wr nq).mono HB.out.size))
              have HK := hide (show ∀ u, x = u → y = u → ∀ i, i < j + 1 → ks[i]? = ks'[i]? from fun u h1 h2 i hi => by
                rcases Nat.lt_or_ge i j with q | q
                · exact HE.out i q
                · have : i = j := by omega
                  subst this
                  rw [List.getElem?_eq_getElem hlt, List.getElem?_eq_getElem hlt', HX.out, HY.out, h1, h2])
              rw [hw3]
              clear hw3
              by_cases hxy : x = y
              · subst hxy
                have e3 : (!(@BEq.beq (List UInt8) List.instBEq x x)) = false := by simp
                rw [e3]
                clear HX HY
                go_wp2_with fail
                go_roundw
                case rel => exact ⟨j + 1, by go_num, by omega, HB3, hide (HK.out x rfl rfl)⟩
                case measure => simp [intOf]; omega
              · have e3 : (!(@BEq.beq (List UInt8) List.instBEq x y)) = true := by simpa using hxy
                rw [e3]
                have HF := hide (show eqJ (.mk k t ks vs) (.mk k t ks' vs') = false from eqJ_ne (by
                  rintro ⟨⟩
                  exact hxy (HX.out.symm.trans HY.out)))
                clear HX HY HK hxy
                go_wp2_with fail
                go_ret
                exact ⟨by rw [HF.out]; rfl, HB2.out.trans (HB3.out.mono HB2.out.size)⟩
            · have HKS := hide (show ks = ks' from ext_to HN1.out (fun i hi => HE.out i (by omega)))
              clear HE
              go_wp2_with fail
              go_loopw [6] (fun iv wr => ∃ j : Nat, iv = .int .i64 (j : Int) ∧ j ≤ vs.length ∧ Hid (Below w2.heap.size w2 wr) ∧ Hid (∀ i, i < j → vs[i]? = vs'[i]?)) (fun iv _ => vs.length - (intOf iv).toNat)
              case atStart => exact ⟨0, by go_num, by omega, HB, hide (fun i hi => by omega)⟩
              case round =>
                clear kv1 fv1 zv1 kv2 fv2 zv2 HVa HVb HB
                obtain ⟨m, rfl, hm, HB, HE⟩ := hrel
                have HVa := hide (HV1.out.below HB.out HV1.out.lt)
                have HVb := hide (HV2.out.below HB.out HV2.out.lt)
                have kv1 := HVa.out.cell; have fv1 := HVa.out.frozen; have zv1 := HVa.out.lt
                have kv2 := HVb.out.cell; have fv2 := HVb.out.frozen; have zv2 := HVb.out.lt
                by_cases hlt2 : m < vs.length
                · have hlt2' : m < vs'.length := by have := HN2.out; omega
                  obtain ⟨ad, hA, had, hc⟩ := HR2.out.2 (by omega)
                  obtain ⟨ad', hA', had', hc'⟩ := HR2'.out.2 (by omega)
                  subst hA hA'
                  obtain ⟨cs, hv, hcs⟩ := VRdL.at_ vs xs HL.out m hlt2
                  obtain ⟨cs', hv', hcs'⟩ := VRdL.at_ vs' xs' HL'.out m hlt2'
                  obtain ⟨a1, a2, a3, a4, a5, a6, a7, a8, rfl⟩ := hv.four
                  obtain ⟨b1, b2, b3, b4, b5, b6, b7, b8, rfl⟩ := hv'.four
                  have HC := hide (show ∀ w', Below w2.heap.size w2 w' → w'.cell? (ad.add (m * 4)) = some (.int .i64 a1) ∧ w'.cell? (ad.add (m * 4 + 1)) = some (.string a2) ∧ w'.cell? (ad.add (m * 4 + 2)) = some (.slice a3 a4 a5) ∧ w'.cell? (ad.add (m * 4 + 3)) = some (.slice a6 a7 a8) from fun w' hb =>
                    have q : ∀ i u, xs[m * 4 + i]? = some u → w'.cell? (ad.add (m * 4 + i)) = some u := fun i u hu => (hb.cell (by rw [block_of_add]; exact had)).trans (hc _ u hu)
                    ⟨q 0 _ (hcs 0 (by omega)), q 1 _ (hcs 1 (by omega)), q 2 _ (hcs 2 (by omega)), q 3 _ (hcs 3 (by omega))⟩)
                  have HC' := hide (show ∀ w', Below w2.heap.size w2 w' → w'.cell? (ad'.add (m * 4)) = some (.int .i64 b1) ∧ w'.cell? (ad'.add (m * 4 + 1)) = some (.string b2) ∧ w'.cell? (ad'.add (m * 4 + 2)) = some (.slice b3 b4 b5) ∧ w'.cell? (ad'.add (m * 4 + 3)) = some (.slice b6 b7 b8) from fun w' hb =>
                    have q : ∀ i u, xs'[m * 4 + i]? = some u → w'.cell? (ad'.add (m * 4 + i)) = some u := fun i u hu => (hb.cell (by rw [block_of_add]; exact had')).trans (hc' _ u hu)
                    ⟨q 0 _ (hcs' 0 (by omega)), q 1 _ (hcs' 1 (by omega)), q 2 _ (hcs' 2 (by omega)), q 3 _ (hcs' 3 (by omega))⟩)
                  have HVm := hide hv
                  have HVm' := hide hv'
                  have hszm : szJ vs[m] ≤ n := by have := szL_at vs m hlt2; have : szJ (.mk k t ks vs) = szL vs + 1 := by simp [szJ]
                                                  omega
                  have hc2m : m ≤ c2 := by omega
                  have hc2m' : m ≤ c2' := by omega
                  clear hc hc' hcs hcs' hv hv'
                  go_upto_region 11 with fail
                  clear kv1 fv1 zv1 kv2 fv2 zv2
                  refine wp_region_dag (by kernel_rfl) (by kernel_rfl) 74 0
                    [⟨some 62, [0], [], [], [], [], fun _ _ v _ => v = .pointer (some ⟨w.heap.size, 3, none⟩)⟩,
                     ⟨some 63, [0], [], [], [0], [], fun _ _ v _ => v = .slice (some ad) vs.length c2⟩,
                     ⟨some 64, [0], [], [], [], [], fun _ _ v _ => v = .int .i64 (m : Int)⟩,
                     ⟨some 65, [0], [], [], [1, 2], [], fun _ _ v _ => v = .pointer (some (ad.add (m * 4)))⟩,
                     ⟨some 66, [0], [], [], [3], [], fun _ _ v _ => v = .agg #[.int .i64 a1, .string a2, .slice a3 a4 a5, .slice a6 a7 a8]⟩,
                     ⟨some 67, [0], [], [], [], [], fun _ _ v _ => v = .pointer (some ⟨w.heap.size + 1, 3, none⟩)⟩,
                     ⟨some 68, [0], [], [], [5], [], fun _ _ v _ => v = .slice (some ad') vs'.length c2'⟩,
                     ⟨some 69, [0], [], [], [], [], fun _ _ v _ => v = .int .i64 (m : Int)⟩,
                     ⟨some 70, [0], [], [], [6, 7], [], fun _ _ v _ => v = .pointer (some (ad'.add (m * 4)))⟩,
                     ⟨some 71, [0], [], [], [8], [], fun _ _ v _ => v = .agg #[.int .i64 b1, .string b2, .slice b3 b4 b5, .slice b6 b7 b8]⟩,
                     ⟨some 72, [0], [], [], [4, 9], [], fun _ _ v _ => v = .bool (eqJ vs[m] vs'[m])⟩,
                     ⟨some 73, [0], [], [], [10], [], fun _ _ v _ => v = .bool (!eqJ vs[m] vs'[m])⟩] (fun _ w' => Below w2.heap.size w2 w') (fun _ _ _ _ _ => True) (fun _ w w' => Below w.heap.size w w') ?gu ?ru ?put [62, 63, 64, 65, 66, 67, 68, 69, 70, 71, 72, 73] rfl (by kernel_rfl) rfl ?g0 ?keep ?steps ?fin
                  case ru =>
                    intro e he s a v w w' hu hv
                    simp only [List.mem_cons, List.not_mem_nil, or_false] at he
                    rcases he with rfl | rfl | rfl | rfl | rfl | rfl | rfl | rfl | rfl | rfl | rfl | rfl
                    all_goals first | exact hv
                  case put =>
                    intro e he s a d u v w hnd hv
                    simp only [List.mem_cons, List.not_mem_nil, or_false] at he
                    rcases he with rfl | rfl | rfl | rfl | rfl | rfl | rfl | rfl | rfl | rfl | rfl | rfl
                    all_goals first | exact hv
                  case keep =>
                    intro e he s s' a v w w' hsl hm ht hv
                    simp only [List.mem_cons, List.not_mem_nil, or_false] at he
                    rcases he with rfl | rfl | rfl | rfl | rfl | rfl | rfl | rfl | rfl | rfl | rfl | rfl
                    all_goals first | exact hv
                  case steps =>
                    refine ⟨?_, ?_, ?_, ?_, ?_, ?_, ?_, ?_, ?_, ?_, ?_, ?_, trivial⟩
                    · intro st hst ac w3 hg hG hd K hK
                      dsimp only at hst hG hK
                      have k2 := hg.kp 2 (by simp)
                      (try simp [Act.eval] at k2)
                      go_simp
                      exact hK _ _ (Below.refl _ _) rfl
                    · intro st hst ac w3 hg hG hd K hK
                      dsimp only at hst hG hK
                      have kk := (HV1.out.below hG HV1.out.lt).cell 3
                      have zz := (HV1.out.below hG HV1.out.lt).lt
                      simp at kk
                      clear hG
                      have f0 := hd 0 (by simp) _ rfl _ rfl
                      (try simp [Act.eval] at f0)
                      go_simp
                      exact hK _ _ (Below.refl _ _) rfl
                    · intro st hst ac w3 hg hG hd K hK
                      dsimp only at hst hG hK
                      exact op_move _ rfl (hK _ _ (Below.refl _ _) (hg.kp 6 (by simp)))
                    · intro st hst ac w3 hg hG hd K hK
                      dsimp only at hst hG hK
                      have f1 := hd 1 (by simp) _ rfl _ rfl
                      have f2 := hd 2 (by simp) _ rfl _ rfl
                      (try simp [Act.eval] at f1)
                      (try simp [Act.eval] at f2)
                      go_simp
                      exact hK _ _ (Below.refl _ _) rfl
                    · intro st hst ac w3 hg hG hd K hK
                      dsimp only at hst hG hK
                      obtain ⟨k0, k1, k2, k3⟩ := HC.out _ hG
                      obtain ⟨k0, k1, k2, k3⟩ := four_cells k0 k1 k2 k3
                      have zz : ad.block < w3.heap.size := Nat.lt_of_lt_of_le had hG.size
                      clear hG
                      have f3 := hd 3 (by simp) _ rfl _ rfl
                      (try simp [Act.eval] at f3)
                      go_simp
                      exact hK _ _ (Below.refl _ _) rfl
                    · intro st hst ac w3 hg hG hd K hK
                      dsimp only at hst hG hK
                      have k3 := hg.kp 3 (by simp)
                      (try simp [Act.eval] at k3)
                      go_simp
                      exact hK _ _ (Below.refl _ _) rfl
                    · intro st hst ac w3 hg hG hd K hK
                      dsimp only at hst hG hK
                      have kk := (HV2.out.below hG HV2.out.lt).cell 3
                      have zz := (HV2.out.below hG HV2.out.lt).lt
                      simp at kk
                      clear hG
                      have f5 := hd 5 (by simp) _ rfl _ rfl
                      (try simp [Act.eval] at f5)
                      go_simp
                      exact hK _ _ (Below.refl _ _) rfl
                    · intro st hst ac w3 hg hG hd K hK
                      dsimp only at hst hG hK
                      exact op_move _ rfl (hK _ _ (Below.refl _ _) (hg.kp 6 (by simp)))
                    · intro st hst ac w3 hg hG hd K hK
                      dsimp only at hst hG hK
                      have f6 := hd 6 (by simp) _ rfl _ rfl
                      have f7 := hd 7 (by simp) _ rfl _ rfl
                      (try simp [Act.eval] at f6)
                      (try simp [Act.eval] at f7)
                      go_simp
                      exact hK _ _ (Below.refl _ _) rfl
                    · intro st hst ac w3 hg hG hd K hK
                      dsimp only at hst hG hK
                      obtain ⟨k0, k1, k2, k3⟩ := HC'.out _ hG
                      obtain ⟨k0, k1, k2, k3⟩ := four_cells k0 k1 k2 k3
                      have zz : ad'.block < w3.heap.size := Nat.lt_of_lt_of_le had' hG.size
                      clear hG
                      have f8 := hd 8 (by simp) _ rfl _ rfl
                      (try simp [Act.eval] at f8)
                      go_simp
                      exact hK _ _ (Below.refl _ _) rfl
                    · intro st hst ac w3 hg hG hd K hK
                      dsimp only at hst hG hK
                      have f4 := hd 4 (by simp) _ rfl _ rfl
                      have f9 := hd 9 (by simp) _ rfl _ rfl
                      have HG := hide hG
                      clear hG
                      simp [Act.eval] at f4 f9
                      go_simp
                      (refine (IH.out w3 vs[m] vs'[m] _ _ hszm (HVm.out.later HG.out) (HVm'.out.later HG.out)).mono ?_)
                      rintro e w8 ⟨rfl, hb⟩
                      exact hK _ _ hb rfl
                    · intro st hst ac w3 hg hG hd K hK
                      dsimp only at hst hG hK
                      have f10 := hd 10 (by simp) _ rfl _ rfl
                      (try simp [Act.eval] at f10)
                      go_simp
                      exact hK _ _ (Below.refl _ _) rfl
                  case gu => intro s a b hG hu; exact hG.trans (hu.mono hG.size)
                  case g0 => exact HB.out.trans (((Below.refl _ _).drew).mono HB.out.size)
                  case fin =>
                    intro f9 w9 hG hall
                    have HB9 := hide hG
                    have hr := hall _ (List.mem_of_getElem? (i := 11) rfl) 73 rfl
                    clear hall hG
                    simp only [fillF, List.map_cons, List.map_nil, List.foldl_cons, List.foldl_nil, Act.put, List.setIfInBounds_toArray, List.set_cons_zero, List.set_cons_succ]
                    rw [hr]
                    cases hq : eqJ vs[m] vs'[m]
                    · have HF := hide (show eqJ (.mk k t ks vs) (.mk k t ks' vs') = false from eqJ_ne (by
                        rintro ⟨⟩
                        rw [eqJ_refl] at hq
                        cases hq))
                      clear hq
                      go_wp2_with fail
                      go_ret
                      exact ⟨by rw [HF.out]; rfl, HB2.out.trans (HB9.out.mono HB2.out.size)⟩
                    · have HQ := hide ((eqJ_iff _ _).1 hq)
                      clear hq
                      go_wp2_with fail
                      go_roundw
                      case rel => exact ⟨m + 1, by go_num, by omega, HB9, hide (fun i hi => by
                        rcases Nat.lt_or_ge i m with q | q
                        · exact HE.out i q
                        · have : i = m := by omega
                          subst this
                          rw [List.getElem?_eq_getElem hlt2, List.getElem?_eq_getElem hlt2', HQ.out])⟩
                      case measure => simp [intOf]; omega
                · have HVS := hide (show vs = vs' from ext_to HN2.out (fun i hi => HE.out i (by omega)))
                  have HT := hide (show eqJ (.mk k t ks vs) (.mk k t ks' vs') = true from (eqJ_iff _ _).2 (by rw [HKS.out, HVS.out]))
                  clear HE
                  go_wp2_with fail
                  go_ret
                  exact ⟨by rw [HT.out]; rfl, HB2.out.trans (HB.out.mono HB2.out.size)⟩
        · have HE := hide (show eqJ (.mk k t ks vs) (.mk k t ks' vs') = false from eqJ_ne (by rintro ⟨⟩; exact hn2 rfl))
          have e1 : ((ks.length : Int) != (ks'.length : Int)) = false := by simp; omega
          have e2 : ((vs.length : Int) != (vs'.length : Int)) = true := by simp; omega
          go_wp2_with fail
          go_ret
          exact ⟨by rw [HE.out]; rfl, HB2.out⟩
      · have HE := hide (show eqJ (.mk k t ks vs) (.mk k t ks' vs') = false from eqJ_ne (by rintro ⟨⟩; exact hn1 rfl))
        have e1 : ((ks.length : Int) != (ks'.length : Int)) = true := by simp; omega
        go_wp2_with fail
        go_ret
        exact ⟨by rw [HE.out]; rfl, HB2.out⟩
    · have HE := hide (show eqJ (.mk k t ks vs) (.mk k t' ks' vs') = false from eqJ_ne (by rintro ⟨⟩; exact ht rfl))
      have e1 := str_ne ht
      go_wp2_with fail
      go_ret
      exact ⟨by rw [HE.out]; rfl, HB2.out⟩
  · have HE := hide (show eqJ (.mk k t ks vs) (.mk k' t' ks' vs') = false from eqJ_ne (by rintro ⟨⟩; exact hk rfl))
    have e1 : (k != k') = true := by simp; omega
    go_wp2_with fail
    go_ret
    exact ⟨by rw [HE.out]; rfl, HB2.out⟩
theorem same_all : ∀ n, SameC n
  | 0 => fun w J J' cs cs' hsz _ _ => by
    obtain ⟨k, t, ks, vs⟩ := J
    simp [szJ] at hsz
  | n + 1 => same_step n (same_all n)
theorem same_any {w : World} {F F' : Nat → Prop} {J J' : JV} {cs cs' : List Value} (h : VRd w F J cs) (h' : VRd w F' J' cs') :
    Calls Tryd.prog 11 #[.agg cs.toArray, .agg cs'.toArray] w fun e w' => e = .returned (.bool (eqJ J J')) ∧ Below w.heap.size w w' :=
  same_all (szJ J) w J J' cs cs' (Nat.le_refl _) h.all h'.all
end Go.Proofs.YtmbjalcphdggnaaDoor
