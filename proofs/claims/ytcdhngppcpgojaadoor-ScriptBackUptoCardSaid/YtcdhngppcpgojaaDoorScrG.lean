/- The document's line of a reply. -/
import Derived.Test.YtcdhngppcpgojaaDoorScrF
namespace Go.Proofs.YtcdhngppcpgojaaDoor
set_option linter.unusedSimpArgs false
set_option linter.unusedVariables false
open Go.RowKit
theorem cat3 (a b : List UInt8) : (⟨a.toArray⟩ ++ ⟨#[32]⟩ ++ ⟨b.toArray⟩ : ByteArray) = ⟨(a ++ [32] ++ b).toArray⟩ := by
  rw [show (⟨#[32]⟩ : ByteArray) = ⟨[32].toArray⟩ from rfl, str_cat, str_cat]
theorem cat1 (a : List UInt8) : (⟨a.toArray⟩ ++ ⟨#[32]⟩ : ByteArray) = ⟨(a ++ [32]).toArray⟩ := by
  rw [show (⟨#[32]⟩ : ByteArray) = ⟨[32].toArray⟩ from rfl, str_cat]
def short (xs : List (List UInt8)) : Prop := ∀ x ∈ xs, x.length ≤ 20
theorem short_itos {ns : List Int} (h : inInt ns) : short (itos ns) := fun x hx => by
  obtain ⟨n, hn, rfl⟩ := List.mem_map.1 hx
  exact itoa_len (h n hn)
theorem short_app {a b : List (List UInt8)} (h : short a) (k : short b) : short (a ++ b) := fun x hx => (List.mem_append.1 hx).elim (h x) (k x)
theorem in_take {ns : List Int} (h : inInt ns) (k : Nat) : inInt (ns.take k) := fun x hx => h x (List.mem_of_mem_take hx)
theorem short_pw {l : List (Int × Int)} (h : ∀ p ∈ l, (-9223372036854775808 ≤ p.1 ∧ p.1 ≤ 9223372036854775807) ∧ (-9223372036854775808 ≤ p.2 ∧ p.2 ≤ 9223372036854775807)) : short (pairWords l) := fun x hx => by
  unfold pairWords at hx
  obtain ⟨p, hp, hx⟩ := List.mem_flatMap.1 hx
  exact short_itos (in_two (h p hp).1 (h p hp).2) x hx
theorem jn_short {xs : List (List UInt8)} (h : short xs) : (jn xs).length ≤ 21 * xs.length := jn_len 20 xs h
/-- The text so far. -/
structure RR (w : World) (r : Rep) (xs : List (List UInt8)) (S : List UInt8) (wr : World) : Prop where
  b : Below w.heap.size w wr
  k : Blk wr w.heap.size TRep r.cells
  s : S = jn xs
  h : short xs
  n : xs ≠ []
theorem RR.later {w wr w' : World} {r : Rep} {xs : List (List UInt8)} {S : List UInt8} (h : RR w r xs S wr) (hb : Below wr.heap.size wr w') : RR w r xs S w' := ⟨h.b.trans (hb.mono h.b.size), h.k.below hb h.k.lt, h.s, h.h, h.n⟩
theorem RR.add {w wr w' : World} {r : Rep} {xs : List (List UInt8)} {S : List UInt8} (h : RR w r xs S wr) (hb : Below wr.heap.size wr w') (x : List UInt8) (hx : x.length ≤ 20) : RR w r (xs ++ [x]) (S ++ [32] ++ x) w' :=
  ⟨h.b.trans (hb.mono h.b.size), h.k.below hb h.k.lt, by rw [jn_snoc xs x h.n, h.s], short_app h.h (fun y hy => by simp at hy; subst hy; exact hx), by simp⟩
set_option maxRecDepth 100000 in
set_option maxHeartbeats 2000000 in
theorem rreply_any (r : Rep) (w : World) (h : r.Ok w w.heap.size) (hn1 : r.n1 ≤ 400) (hn2 : r.n2 ≤ 400) (htx : r.text.length ≤ 20000) :
    Calls Tryd.prog 11 #[.agg r.cells] w fun e w' => e = .returned (str r.line) ∧ Below w.heap.size w w' := by
  have H := hide h
  clear h
  have hl1 := H.out.s1.len
  have hl2 := H.out.s2.len
  obtain ⟨W0, hW0, hb0, hk0⟩ : ∃ W0, w.alloc (Obj.cells r.cells TRep) = W0 ∧ Below w.heap.size w W0 ∧ Blk W0 w.heap.size TRep r.cells := ⟨_, rfl, (Below.refl _ _).alloc (Nat.le_refl _) _, Blk.new _ _ _⟩
  obtain ⟨e, A1, n1, c1, ids, A2, n2, c2, pairs, text⟩ := r
  unfold Rep.cells at hW0 ⊢
  simp only at hn1 hn2 htx hW0 hl1 hl2
  obtain ⟨X0, hX0⟩ : ∃ X0, Lib.itoa e = X0 := ⟨_, rfl⟩
  obtain ⟨X1, hX1⟩ : ∃ X1, Lib.itoa (n1 : Int) = X1 := ⟨_, rfl⟩
  have hx0 : X0.length ≤ 20 := by rw [← hX0]; exact itoa_len H.out.he
  have hx1 : X1.length ≤ 20 := by rw [← hX1]; exact itoa_len (by omega)
  have HX0 := hide hX0
  have HX1 := hide hX1
  have HK0 := hide hk0
  have HB0 := hide hb0
  clear hk0 hb0 hX0 hX1
  go_enter Tryd.func11, Tryd.ntmps11
  go_wp2
  clear hW0
  refine wp_region_stageW (by kernel_rfl) (by kernel_rfl) 70 2
    [⟨some 6, false, 0, 0, fun _ v _ => v = .pointer (some ⟨w.heap.size, 0, none⟩)⟩,
     ⟨some 7, false, 0, 0, fun _ v _ => v = .int .i64 e⟩,
     ⟨some 8, true, 0, 0, fun _ v _ => v = str X0⟩,
     ⟨some 9, false, 1, 2, fun _ v _ => v = str (X0 ++ [32])⟩,
     ⟨some 10, false, 0, 1, fun _ v _ => v = .pointer (some ⟨w.heap.size, 1, none⟩)⟩,
     ⟨some 11, false, 0, 1, fun _ v _ => v = .slice A1 n1 c1⟩,
     ⟨some 12, false, 0, 1, fun _ v _ => v = .int .i64 n1⟩,
     ⟨some 13, true, 1, 1, fun _ v _ => v = str X1⟩,
     ⟨some 14, false, 2, 2, fun _ v _ => v = str (X0 ++ [32] ++ X1)⟩,
     ⟨some 3, false, 2, 2, fun _ v _ => v = str (X0 ++ [32] ++ X1)⟩] (fun _ w' => Below W0.heap.size W0 w') (fun _ w w' => True) [6, 7, 8, 9, 10, 11, 12, 13, 14, 3] rfl (by kernel_rfl) rfl ?g0 ?keep ?steps ?fin
  case keep =>
    intro e he s v w w' hm hlo hsM ht hv
    simp only [List.mem_cons, List.not_mem_nil, or_false] at he
    rcases he with rfl | rfl | rfl | rfl | rfl | rfl | rfl | rfl | rfl | rfl
    all_goals first | exact hv | (exfalso; dsimp only at hlo; omega) | (intro h3; exfalso; have := hm rfl; dsimp only at this; omega)
  case steps =>
    refine ⟨?_, ?_, ?_, ?_, ?_, ?_, ?_, ?_, ?_, ?_, trivial⟩
    · intro st hlo hhi ac w3 hg hG hd ho K hK
      dsimp only at hlo hhi hG hK
      rw [if_pos (by rfl)]
      have k1 := hg.kp 1 (by simp)
      (try simp [Act.eval] at k1)
      go_simp
      exact hK _ rfl
    · intro st hlo hhi ac w3 hg hG hd ho K hK
      dsimp only at hlo hhi hG hK
      rw [if_pos (by rfl)]
      have kk := HK0.out.below hG HK0.out.lt
      have k0 := kk.cell 0
      have zz := kk.lt
      simp [Rep.cells] at k0
      clear kk
      have f0 := hd ⟨0, .data⟩ (by simp) rfl _ rfl _ rfl
      (try simp [Act.eval] at f0)
      go_simp
      exact hK _ rfl
    · intro ac w3 hg hG hd ho K hK
      dsimp only [Nat.zero_add, Nat.reduceAdd] at hG hK
      rw [if_pos (by rfl)]
      have f1 := hd ⟨1, .data⟩ (by simp) rfl _ rfl _ rfl
      simp [Act.eval] at f1
      go_simp
      (refine (rint_any e w3 H.out.he).mono ?_)
      rintro e2 w4 ⟨rfl, hb4⟩
      rw [HX0.out]
      exact hK (str X0) w4 trivial (hG.trans (hb4.mono hG.size)) rfl
    · intro st hlo hhi ac w3 hg hG hd ho K hK
      dsimp only at hlo hhi hG hK
      rw [if_pos (by rfl)]
      have f2 := hd ⟨2, .data⟩ (by simp) rfl _ rfl _ rfl
      simp [Act.eval] at f2
      go_simp
      (try rw [if_neg (by omega)])
      (try go_simp)
      exact hK _ (congrArg Value.string (cat1 X0))
    · intro st hlo hhi ac w3 hg hG hd ho K hK
      dsimp only at hlo hhi hG hK
      rw [if_pos (by rfl)]
      have k1 := hg.kp 1 (by simp)
      (try simp [Act.eval] at k1)
      go_simp
      exact hK _ rfl
    · intro st hlo hhi ac w3 hg hG hd ho K hK
      dsimp only at hlo hhi hG hK
      rw [if_pos (by rfl)]
      have kk := HK0.out.below hG HK0.out.lt
      have k0 := kk.cell 1
      have zz := kk.lt
      simp [Rep.cells] at k0
      clear kk
      have f4 := hd ⟨4, .data⟩ (by simp) rfl _ rfl _ rfl
      (try simp [Act.eval] at f4)
      go_simp
      exact hK _ rfl
    · intro st hlo hhi ac w3 hg hG hd ho K hK
      dsimp only at hlo hhi hG hK
      rw [if_pos (by rfl)]
      have f5 := hd ⟨5, .data⟩ (by simp) rfl _ rfl _ rfl
      (try simp [Act.eval] at f5)
      go_simp
      exact hK _ rfl
    · intro ac w3 hg hG hd ho K hK
      dsimp only [Nat.zero_add, Nat.reduceAdd] at hG hK
      rw [if_pos (by rfl)]
      have f1 := hd ⟨6, .data⟩ (by simp) rfl _ rfl _ rfl
      simp [Act.eval] at f1
      go_simp
      (refine (rint_any n1 w3 (by omega)).mono ?_)
      rintro e2 w4 ⟨rfl, hb4⟩
      rw [HX1.out]
      exact hK (str X1) w4 trivial (hG.trans (hb4.mono hG.size)) rfl
    · intro st hlo hhi ac w3 hg hG hd ho K hK
      dsimp only at hlo hhi hG hK
      rw [if_pos (by rfl)]
      have f2 : ac.eval (.tmp 9) = str (X0 ++ [32]) := hd ⟨3, .data⟩ (by simp) rfl _ rfl _ rfl
      have f3 : ac.eval (.tmp 13) = str X1 := hd ⟨7, .data⟩ (by simp) rfl _ rfl _ rfl
      obtain ⟨Y, hY⟩ : ∃ Y, X0 ++ [32] = Y := ⟨_, rfl⟩
      have hy : Y.length ≤ 21 := (by rw [← hY, List.length_append]; simp; omega)
      have HY := hide hY
      rw [hY] at f2
      simp [Act.eval] at f2 f3
      clear hY
      go_simp
      (try rw [if_neg (by omega)])
      (try go_simp)
      exact hK _ (by rw [HY.out]; exact congrArg Value.string (str_cat Y X1))
    · intro st hlo hhi ac w3 hg hG hd ho K hK
      dsimp only at hlo hhi hG hK
      rw [if_pos (by rfl)]
      exact op_assign _ rfl (hK _ (hd ⟨8, .data⟩ (by simp) rfl _ rfl _ rfl))
  case g0 => exact (Below.refl _ _).drew
  case fin =>
    intro f w1 hG hall
    have h3 := hall _ (List.mem_of_getElem? (i := 9) rfl) 3 rfl
    clear hall
    simp only [fillF, List.map_cons, List.map_nil, List.foldl_cons, List.foldl_nil, Act.put, List.setIfInBounds_toArray, List.set_cons_zero, List.set_cons_succ]
    obtain ⟨S1, hS1⟩ : ∃ S1, X0 ++ [32] ++ X1 = S1 := ⟨_, rfl⟩
    rw [show f 3 = str S1 from hS1 ▸ h3]
    have HR1 := hide (show RR w ⟨e, A1, n1, c1, ids, A2, n2, c2, pairs, text⟩ (itos [e, (n1 : Int)]) S1 w1 from ⟨HB0.out.trans (hG.mono HB0.out.size), HK0.out.below hG HK0.out.lt, by
      rw [← hS1, ← HX0.out, ← HX1.out]
      unfold itos
      rw [List.map_cons, List.map_cons, List.map_nil, show [Lib.itoa e, Lib.itoa (n1 : Int)] = [Lib.itoa e] ++ [Lib.itoa (n1 : Int)] from rfl, jn_snoc _ _ (by simp), jn_one], short_itos (in_two H.out.he (by omega)), by simp [itos]⟩)
    clear h3 hG hS1
    go_wp2
    go_loopw [3, 4] (fun o i wr => ∃ (k : Nat) (S : List UInt8), k ≤ n1 ∧ i = .int .i64 k ∧ o = str S ∧ Hid (RR w ⟨e, A1, n1, c1, ids, A2, n2, c2, pairs, text⟩ (itos [e, (n1 : Int)] ++ itos (ids.take k)) S wr)) (fun _ i _ => n1 - (intOf i).toNat)
    case atStart => exact ⟨0, S1, by omega, rfl, rfl, hide (by simpa [itos] using HR1.out)⟩
    case round =>
      obtain ⟨k, S, hk, rfl, rfl, HI⟩ := hrel
      have kx := HI.out.k.cell
      have zx := HI.out.k.lt
      unfold Rep.cells at kx
      simp only at kx
      have hSl : S.length ≤ 20000 := by
        rw [HI.out.s]
        have := jn_short HI.out.h
        rw [List.length_append, itos_len, itos_len, List.length_take] at this
        simp only [List.length_cons, List.length_nil] at this
        omega
      by_cases hlt : k < n1
      · obtain ⟨bg, o, rfl, hbg, hc⟩ := Sl.at (H.out.s1.below HI.out.b) (fun _ => rfl) (by omega) (by simp only; omega)
        obtain ⟨x, hx⟩ : ∃ x, ids[k]'(by omega) = x := ⟨_, rfl⟩
        have c0 := hc k (by simp only; omega) 0 _ rfl
        simp only [Nat.add_zero, Nat.mul_one] at c0
        rw [hx] at c0
        have hxi := H.out.i1 x (by simp only; rw [← hx]; exact List.getElem_mem _)
        have htk : itos (ids.take (k + 1)) = itos (ids.take k) ++ [Lib.itoa x] := by
          unfold itos
          rw [List.take_succ_eq_append_getElem (by omega), List.map_append, hx]; rfl
        have hil := itoa_len hxi
        have HCL := hide (rint_any x wr hxi)
        obtain ⟨X, hX⟩ : ∃ X, Lib.itoa x = X := ⟨_, rfl⟩
        rw [hX] at htk hil HCL
        have HTK := hide htk
        have z0 : bg < wr.heap.size := Nat.lt_of_lt_of_le hbg HI.out.b.size
        clear hc hx hxi htk hX
        go_wp2_with (go_at_call 26; (refine HCL.out.mono ?_); rintro e2 w5 ⟨rfl, hb5⟩; have HR5 := hide (HI.out.add hb5 X hil); clear hb5)
        go_roundw
        case rel => exact ⟨k + 1, S ++ [32] ++ X, by omega, by go_num, congrArg Value.string (cat3 S X), hide (by rw [HTK.out, ← List.append_assoc]; exact HR5.out)⟩
        case measure => simp [intOf]; omega
      · have hkn : k = n1 := by omega
        have HR2 := hide (show RR w ⟨e, A1, n1, c1, ids, A2, n2, c2, pairs, text⟩ (itos [e, (n1 : Int)] ++ itos ids) S wr by
          have := HI.out
          rw [List.take_of_length_le (by omega)] at this
          exact this)
        have hn2i := itoa_len (n := (n2 : Int)) (by omega)
        have HCL := hide (rint_any n2 wr (by omega))
        obtain ⟨X, hX⟩ : ∃ X, Lib.itoa (n2 : Int) = X := ⟨_, rfl⟩
        have HX := hide hX
        rw [hX] at hn2i HCL
        clear HI hX hkn
        go_wp2_with (go_at_call 26; (refine HCL.out.mono ?_); rintro e2 w5 ⟨rfl, hb5⟩; have HR5 := hide (HR2.out.add hb5 X hn2i); clear hb5)
        rw [show (⟨S.toArray⟩ ++ ⟨#[32]⟩ ++ ⟨X.toArray⟩ : ByteArray) = ⟨(S ++ [32] ++ X).toArray⟩ from cat3 S X]
        obtain ⟨S2, hS2⟩ : ∃ S2, S ++ [32] ++ X = S2 := ⟨_, rfl⟩
        rw [hS2] at HR5 ⊢
        clear hS2 kx zx hSl
        go_loopw [3, 5] (fun o i wr => ∃ (k : Nat) (S : List UInt8), k ≤ n2 ∧ i = .int .i64 k ∧ o = str S ∧ Hid (RR w ⟨e, A1, n1, c1, ids, A2, n2, c2, pairs, text⟩ (itos [e, (n1 : Int)] ++ itos ids ++ [X] ++ pairWords (pairs.take k)) S wr)) (fun _ i _ => n2 - (intOf i).toNat)
        case atStart => exact ⟨0, S2, by omega, rfl, rfl, hide (by simpa [pairWords] using HR5.out)⟩
        case round =>
          obtain ⟨k, S, hk, rfl, rfl, HI⟩ := hrel
          have kx := HI.out.k.cell
          have zx := HI.out.k.lt
          unfold Rep.cells at kx
          simp only at kx
          have hSl : S.length ≤ 40000 := by
            rw [HI.out.s]
            have := jn_short HI.out.h
            rw [List.length_append, List.length_append, List.length_append, itos_len, itos_len, pw_len, List.length_take] at this
            simp only [List.length_cons, List.length_nil] at this
            omega
          by_cases hlt : k < n2
          · obtain ⟨bg, o, rfl, hbg, hc⟩ := Sl.at (H.out.s2.below HI.out.b) (fun _ => rfl) (by omega) (by simp only; omega)
            obtain ⟨p, hp⟩ : ∃ p, pairs[k]'(by omega) = p := ⟨_, rfl⟩
            have c0 := hc k (by simp only; omega) 0 _ rfl
            have c1' := hc k (by simp only; omega) 1 _ rfl
            simp only [Nat.add_zero] at c0 c1' hp
            have hpi := H.out.i2 p (by simp only; rw [← hp]; exact List.getElem_mem _)
            have htk := pw_take pairs k (by omega)
            rw [hp] at c0 c1' htk
            obtain ⟨pa, pb⟩ := p
            simp only at c0 c1' htk hpi
            obtain ⟨Xa, hXa⟩ : ∃ Xa, Lib.itoa pa = Xa := ⟨_, rfl⟩
            obtain ⟨Xb, hXb⟩ : ∃ Xb, Lib.itoa pb = Xb := ⟨_, rfl⟩
            have hla := itoa_len hpi.1
            have hlb := itoa_len hpi.2
            have htk2 : pairWords (pairs.take (k + 1)) = pairWords (pairs.take k) ++ [Xa] ++ [Xb] := by
              rw [htk, ← hXa, ← hXb]; unfold itos; simp
            rw [hXa] at hla
            rw [hXb] at hlb
            have HXA := hide hXa
            have HXB := hide hXb
            have HPI := hide hpi
            have HTK := hide htk2
            have HC0 := hide c0
            have HC1 := hide c1'
            have hltI : (k : Int) < n2 := by omega
            have hb4 : (S ++ [32]).length ≤ 40001 := by rw [List.length_append]; simp; omega
            have hb5 : (S ++ [32] ++ Xa).length ≤ 40021 := by rw [List.length_append]; omega
            have hb6 : (S ++ [32] ++ Xa ++ [32]).length ≤ 40022 := by rw [List.length_append]; simp only [List.length_singleton]; omega
            obtain ⟨T1, hT1⟩ : ∃ T1, S ++ [32] = T1 := ⟨_, rfl⟩
            rw [hT1] at hb4 hb5 hb6
            obtain ⟨T2, hT2⟩ : ∃ T2, T1 ++ Xa = T2 := ⟨_, rfl⟩
            rw [hT2] at hb5 hb6
            obtain ⟨T3, hT3⟩ : ∃ T3, T2 ++ [32] = T3 := ⟨_, rfl⟩
            rw [hT3] at hb6
            obtain ⟨T4, hT4⟩ : ∃ T4, T3 ++ Xb = T4 := ⟨_, rfl⟩
            have HT1 := hide hT1
            have HT2 := hide hT2
            have HT3 := hide hT3
            have HT4 := hide hT4
            have HKK := hide HI.out.k
            have zgi : bg < wr.heap.size := Nat.lt_of_lt_of_le hbg HI.out.b.size
            have HZ := hide zgi
            clear hc hp hpi htk htk2 c0 c1' hXa hXb hT1 hT2 hT3 hT4 zgi hbg
            go_wp2
            clear kx zx
            refine wp_region_stageW (by kernel_rfl) (by kernel_rfl) 70 2
              [⟨some 45, false, 0, 2, fun _ v _ => v = str S⟩,
               ⟨some 46, false, 0, 2, fun _ v _ => v = str T1⟩,
               ⟨some 47, false, 0, 0, fun _ v _ => v = .pointer (some ⟨w.heap.size, 2, none⟩)⟩,
               ⟨some 48, false, 0, 0, fun _ v _ => v = .slice (some ⟨bg, o, none⟩) n2 c2⟩,
               ⟨some 49, false, 0, 0, fun _ v _ => v = .int .i64 k⟩,
               ⟨some 50, false, 0, 0, fun _ v _ => v = .pointer (some ⟨bg, o + k * 2, none⟩)⟩,
               ⟨some 51, false, 0, 0, fun _ v _ => v = .pointer (some ⟨bg, o + k * 2, none⟩)⟩,
               ⟨some 52, false, 0, 0, fun _ v _ => v = .int .i64 pa⟩,
               ⟨some 53, true, 0, 0, fun _ v _ => v = str Xa⟩,
               ⟨some 54, false, 1, 2, fun _ v _ => v = str T2⟩,
               ⟨some 55, false, 1, 2, fun _ v _ => v = str T3⟩,
               ⟨some 56, false, 0, 1, fun _ v _ => v = .pointer (some ⟨w.heap.size, 2, none⟩)⟩,
               ⟨some 57, false, 0, 1, fun _ v _ => v = .slice (some ⟨bg, o, none⟩) n2 c2⟩,
               ⟨some 58, false, 0, 1, fun _ v _ => v = .int .i64 k⟩,
               ⟨some 59, false, 0, 1, fun _ v _ => v = .pointer (some ⟨bg, o + k * 2, none⟩)⟩,
               ⟨some 60, false, 0, 1, fun _ v _ => v = .pointer (some ⟨bg, o + k * 2 + 1, none⟩)⟩,
               ⟨some 61, false, 0, 1, fun _ v _ => v = .int .i64 pb⟩,
               ⟨some 62, true, 1, 1, fun _ v _ => v = str Xb⟩,
               ⟨some 63, false, 2, 2, fun _ v _ => v = str T4⟩,
               ⟨some 3, false, 2, 2, fun _ v _ => v = str T4⟩] (fun _ w' => Below wr.heap.size wr w') (fun _ w w' => True) [45, 46, 47, 48, 49, 50, 51, 52, 53, 54, 55, 56, 57, 58, 59, 60, 61, 62, 63, 3] rfl (by kernel_rfl) rfl ?g0 ?keep ?steps ?fin
            case keep =>
              intro e he s v w w' hm hlo hsM ht hv
              simp only [List.mem_cons, List.not_mem_nil, or_false] at he
              rcases he with rfl | rfl | rfl | rfl | rfl | rfl | rfl | rfl | rfl | rfl | rfl | rfl | rfl | rfl | rfl | rfl | rfl | rfl | rfl | rfl
              all_goals first | exact hv | (exfalso; dsimp only at hlo; omega) | (intro h3; exfalso; have := hm rfl; dsimp only at this; omega)
            case steps =>
              refine ⟨?_, ?_, ?_, ?_, ?_, ?_, ?_, ?_, ?_, ?_, ?_, ?_, ?_, ?_, ?_, ?_, ?_, ?_, ?_, ?_, trivial⟩
              · intro st hlo hhi ac w3 hg hG hd ho K hK
                dsimp only at hlo hhi hG hK
                rw [if_pos (by rfl)]
                exact op_move _ rfl (hK _ (ho 19 3 (by decide) rfl (by kernel_rfl)))
              · intro st hlo hhi ac w3 hg hG hd ho K hK
                dsimp only at hlo hhi hG hK
                rw [if_pos (by rfl)]
                have f0 : ac.eval (.tmp 45) = str S := hd ⟨0, .data⟩ (by simp) rfl _ rfl _ rfl
                simp [Act.eval] at f0
                go_simp
                (try rw [if_neg (by omega)])
                (try go_simp)
                exact hK _ (by rw [← HT1.out]; exact congrArg Value.string (cat1 S))
              · intro st hlo hhi ac w3 hg hG hd ho K hK
                dsimp only at hlo hhi hG hK
                rw [if_pos (by rfl)]
                have k1 := hg.kp 1 (by simp)
                (try simp [Act.eval] at k1)
                go_simp
                exact hK _ rfl
              · intro st hlo hhi ac w3 hg hG hd ho K hK
                dsimp only at hlo hhi hG hK
                rw [if_pos (by rfl)]
                have kk := HKK.out.below hG HKK.out.lt
                have k0 := kk.cell 2
                have zz := kk.lt
                simp [Rep.cells] at k0
                clear kk
                have f2 := hd ⟨2, .data⟩ (by simp) rfl _ rfl _ rfl
                (try simp [Act.eval] at f2)
                go_simp
                exact hK _ rfl
              · intro st hlo hhi ac w3 hg hG hd ho K hK
                dsimp only at hlo hhi hG hK
                rw [if_pos (by rfl)]
                exact op_move _ rfl (hK _ (hg.kp 5 (by simp)))
              · intro st hlo hhi ac w3 hg hG hd ho K hK
                dsimp only at hlo hhi hG hK
                rw [if_pos (by rfl)]
                have f3 := hd ⟨3, .data⟩ (by simp) rfl _ rfl _ rfl
                have f4 := hd ⟨4, .data⟩ (by simp) rfl _ rfl _ rfl
                (try simp [Act.eval] at f3)
                (try simp [Act.eval] at f4)
                go_simp
                exact hK _ rfl
              · intro st hlo hhi ac w3 hg hG hd ho K hK
                dsimp only at hlo hhi hG hK
                rw [if_pos (by rfl)]
                have f5 := hd ⟨5, .data⟩ (by simp) rfl _ rfl _ rfl
                (try simp [Act.eval] at f5)
                go_simp
                exact hK _ rfl
              · intro st hlo hhi ac w3 hg hG hd ho K hK
                dsimp only at hlo hhi hG hK
                rw [if_pos (by rfl)]
                have k0 := (hG.cell (p := ⟨bg, o + k * 2, none⟩) HZ.out).trans HC0.out
                have zz := Nat.lt_of_lt_of_le HZ.out hG.size
                have f6 := hd ⟨6, .data⟩ (by simp) rfl _ rfl _ rfl
                (try simp [Act.eval] at f6)
                go_simp
                exact hK _ rfl
              · intro ac w3 hg hG hd ho K hK
                dsimp only [Nat.zero_add, Nat.reduceAdd] at hG hK
                rw [if_pos (by rfl)]
                have f1 := hd ⟨7, .data⟩ (by simp) rfl _ rfl _ rfl
                simp [Act.eval] at f1
                go_simp
                (refine (rint_any pa w3 HPI.out.1).mono ?_)
                rintro e2 w4 ⟨rfl, hb4⟩
                rw [HXA.out]
                exact hK (str Xa) w4 trivial (hG.trans (hb4.mono hG.size)) rfl
              · intro st hlo hhi ac w3 hg hG hd ho K hK
                dsimp only at hlo hhi hG hK
                rw [if_pos (by rfl)]
                have f0 : ac.eval (.tmp 46) = str T1 := hd ⟨1, .data⟩ (by simp) rfl _ rfl _ rfl
                have f1 : ac.eval (.tmp 53) = str Xa := hd ⟨8, .data⟩ (by simp) rfl _ rfl _ rfl
                simp [Act.eval] at f0 f1
                go_simp
                (try rw [if_neg (by omega)])
                (try go_simp)
                exact hK _ (by rw [← HT2.out]; exact congrArg Value.string (str_cat T1 Xa))
              · intro st hlo hhi ac w3 hg hG hd ho K hK
                dsimp only at hlo hhi hG hK
                rw [if_pos (by rfl)]
                have f0 : ac.eval (.tmp 54) = str T2 := hd ⟨9, .data⟩ (by simp) rfl _ rfl _ rfl
                simp [Act.eval] at f0
                go_simp
                (try rw [if_neg (by omega)])
                (try go_simp)
                exact hK _ (by rw [← HT3.out]; exact congrArg Value.string (cat1 T2))
              · intro st hlo hhi ac w3 hg hG hd ho K hK
                dsimp only at hlo hhi hG hK
                rw [if_pos (by rfl)]
                have k1 := hg.kp 1 (by simp)
                (try simp [Act.eval] at k1)
                go_simp
                exact hK _ rfl
              · intro st hlo hhi ac w3 hg hG hd ho K hK
                dsimp only at hlo hhi hG hK
                rw [if_pos (by rfl)]
                have kk := HKK.out.below hG HKK.out.lt
                have k0 := kk.cell 2
                have zz := kk.lt
                simp [Rep.cells] at k0
                clear kk
                have f11 := hd ⟨11, .data⟩ (by simp) rfl _ rfl _ rfl
                (try simp [Act.eval] at f11)
                go_simp
                exact hK _ rfl
              · intro st hlo hhi ac w3 hg hG hd ho K hK
                dsimp only at hlo hhi hG hK
                rw [if_pos (by rfl)]
                exact op_move _ rfl (hK _ (hg.kp 5 (by simp)))
              · intro st hlo hhi ac w3 hg hG hd ho K hK
                dsimp only at hlo hhi hG hK
                rw [if_pos (by rfl)]
                have f12 := hd ⟨12, .data⟩ (by simp) rfl _ rfl _ rfl
                have f13 := hd ⟨13, .data⟩ (by simp) rfl _ rfl _ rfl
                (try simp [Act.eval] at f12)
                (try simp [Act.eval] at f13)
                go_simp
                exact hK _ rfl
              · intro st hlo hhi ac w3 hg hG hd ho K hK
                dsimp only at hlo hhi hG hK
                rw [if_pos (by rfl)]
                have f14 := hd ⟨14, .data⟩ (by simp) rfl _ rfl _ rfl
                (try simp [Act.eval] at f14)
                go_simp
                exact hK _ rfl
              · intro st hlo hhi ac w3 hg hG hd ho K hK
                dsimp only at hlo hhi hG hK
                rw [if_pos (by rfl)]
                have k0 := (hG.cell (p := ⟨bg, o + k * 2 + 1, none⟩) HZ.out).trans HC1.out
                have zz := Nat.lt_of_lt_of_le HZ.out hG.size
                have f15 := hd ⟨15, .data⟩ (by simp) rfl _ rfl _ rfl
                (try simp [Act.eval] at f15)
                go_simp
                exact hK _ rfl
              · intro ac w3 hg hG hd ho K hK
                dsimp only [Nat.zero_add, Nat.reduceAdd] at hG hK
                rw [if_pos (by rfl)]
                have f1 := hd ⟨16, .data⟩ (by simp) rfl _ rfl _ rfl
                simp [Act.eval] at f1
                go_simp
                (refine (rint_any pb w3 HPI.out.2).mono ?_)
                rintro e2 w4 ⟨rfl, hb4⟩
                rw [HXB.out]
                exact hK (str Xb) w4 trivial (hG.trans (hb4.mono hG.size)) rfl
              · intro st hlo hhi ac w3 hg hG hd ho K hK
                dsimp only at hlo hhi hG hK
                rw [if_pos (by rfl)]
                have f0 : ac.eval (.tmp 55) = str T3 := hd ⟨10, .data⟩ (by simp) rfl _ rfl _ rfl
                have f1 : ac.eval (.tmp 62) = str Xb := hd ⟨17, .data⟩ (by simp) rfl _ rfl _ rfl
                simp [Act.eval] at f0 f1
                go_simp
                (try rw [if_neg (by omega)])
                (try go_simp)
                exact hK _ (by rw [← HT4.out]; exact congrArg Value.string (str_cat T3 Xb))
              · intro st hlo hhi ac w3 hg hG hd ho K hK
                dsimp only at hlo hhi hG hK
                rw [if_pos (by rfl)]
                exact op_assign _ rfl (hK _ (hd ⟨18, .data⟩ (by simp) rfl _ rfl _ rfl))
            case g0 => exact (Below.refl _ _).drew
            case fin =>
              intro f w5 hG hall
              have h3 := hall _ (List.mem_of_getElem? (i := 19) rfl) 3 rfl
              clear hall
              simp only [fillF, List.map_cons, List.map_nil, List.foldl_cons, List.foldl_nil, Act.put, List.setIfInBounds_toArray, List.set_cons_zero, List.set_cons_succ]
              rw [show f 3 = str T4 from h3]
              have HR9 := hide ((HI.out.add hG Xa hla).add (Below.refl _ _) Xb hlb)
              rw [HT1.out, HT2.out, HT3.out, HT4.out] at HR9
              clear h3 hG
              go_wp2
              go_roundw
              case rel => exact ⟨k + 1, T4, by omega, by go_num, rfl, hide (by rw [HTK.out, ← List.append_assoc, ← List.append_assoc]; exact HR9.out)⟩
              case measure => simp [intOf]; omega
          · have HR3 := hide (show RR w ⟨e, A1, n1, c1, ids, A2, n2, c2, pairs, text⟩ (itos [e, (n1 : Int)] ++ itos ids ++ [X] ++ pairWords pairs) S wr by
              have := HI.out
              rw [List.take_of_length_le (by omega)] at this
              exact this)
            have HCL2 := hide (rhex_any text (by omega) wr)
            obtain ⟨XH, hXH⟩ : ∃ XH, hex text = XH := ⟨_, rfl⟩
            have hxl : XH.length ≤ 40001 := by rw [← hXH]; unfold hex; rw [List.length_cons, hexs_len]; omega
            have HXH := hide hXH
            rw [hXH] at HCL2
            clear HI hXH
            go_wp2_with (go_at_call 27; (refine HCL2.out.mono ?_); rintro e2 w6 ⟨rfl, hb6⟩; have HB6 := hide (HR3.out.b.trans (hb6.mono HR3.out.b.size)); clear hb6)
            go_ret
            refine ⟨?_, HB6.out⟩
            have hfin : Rep.line ⟨e, A1, n1, c1, ids, A2, n2, c2, pairs, text⟩ = S ++ [32] ++ XH := by
              unfold Rep.line Rep.words
              rw [show itos [(n2 : Int)] = [X] by rw [← HX.out]; rfl]
              rw [show Lib.join (itos [e, (n1 : Int)] ++ itos ids ++ [X] ++ pairWords pairs ++ [hex text]) [32] = jn (itos [e, (n1 : Int)] ++ itos ids ++ [X] ++ pairWords pairs ++ [hex text]) from rfl, jn_snoc _ _ HR3.out.n, ← HR3.out.s, HXH.out]
            rw [hfin]
            exact congrArg (fun s => Ending.returned (Value.string s)) (cat3 S XH)
end Go.Proofs.YtcdhngppcpgojaaDoor
