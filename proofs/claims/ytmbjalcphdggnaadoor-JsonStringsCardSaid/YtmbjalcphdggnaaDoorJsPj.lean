/- The law's own: a value of its own. -/
import Derived.Test.YtmbjalcphdggnaaDoorJsPf
namespace Go.Proofs.YtmbjalcphdggnaaDoor
set_option linter.unusedSimpArgs false
set_option linter.unusedVariables false
open Go.RowKit
mutual
/-- Lists that memory can hold once more. -/
def bdJ : JV → Prop
  | .mk _ _ ks vs => ks.length * 16 ≤ 140737488355328 ∧ vs.length * 72 ≤ 140737488355328 ∧ bdL vs
def bdL : List JV → Prop
  | [] => True
  | a :: az => bdJ a ∧ bdL az
end
theorem bdL_at : ∀ {l : List JV} (i : Nat) (h : i < l.length), bdL l → bdJ l[i]
  | a :: l, 0, _, h => by unfold bdL at h; exact h.1
  | a :: l, i + 1, hi, h => by
    unfold bdL at h
    exact bdL_at i (by simpa using hi) h.2
theorem bd_mk {k : Int} {t : L8} {ks : List L8} {vs : List JV} (h : bdJ (.mk k t ks vs)) : ks.length * 16 ≤ 140737488355328 ∧ vs.length * 72 ≤ 140737488355328 ∧ bdL vs := by
  unfold bdJ at h
  exact h
theorem set4o_gb (w : World) (g o : Nat) (a b c d : Value) : w.grownBy (set4o w g o a b c d) (some g) := gb_trans (gb_trans (gb_trans (gby_set w g o a) (gby_set _ g (o + 1) b)) (gby_set _ g (o + 2) c)) (gby_set _ g (o + 3) d)
theorem set4o_heap (w : World) {g j : Nat} (o : Nat) (h : j ≠ g) (a b c d : Value) : (set4o w g o a b c d).heap[j]? = w.heap[j]? := by
  unfold set4o
  rw [Below.heap_setCell _ _ _ _ h, Below.heap_setCell _ _ _ _ h, Below.heap_setCell _ _ _ _ h, Below.heap_setCell _ _ _ _ h]
theorem set4o_size (w : World) (g o : Nat) (a b c d : Value) : (set4o w g o a b c d).heap.size = w.heap.size := by simp [set4o]
theorem set4o_below {B : Nat} {w0 w : World} {g : Nat} (h : Below B w0 w) (o : Nat) (hg : B ≤ g) (a b c d : Value) : Below B w0 (set4o w g o a b c d) := (((h.setCell (p := ⟨g, o, none⟩) hg a).setCell (p := ⟨g, o + 1, none⟩) hg b).setCell (p := ⟨g, o + 2, none⟩) hg c).setCell (p := ⟨g, o + 3, none⟩) hg d
theorem set4_list (cur : List Value) (i n : Nat) (h : i < n) (ys rest : List Value) (o a b c d : Value) (o0 o1 o2 o3 : Value) (hy : ys.length = i * 4) (hc : cur.take (n * 4) = ys ++ ([o0, o1, o2, o3] ++ rest)) (hl : n * 4 ≤ cur.length) :
    ((((cur.set (i * 4) a).set (i * 4 + 1) b).set (i * 4 + 2) c).set (i * 4 + 3) d).take (n * 4) = ys ++ ([a, b, c, d] ++ rest) := by
  rw [List.take_set, List.take_set, List.take_set, List.take_set, hc]
  rw [← hy, List.set_append_right _ _ (by omega), List.set_append_right _ _ (by omega), List.set_append_right _ _ (by omega), List.set_append_right _ _ (by omega)]
  simp
theorem own_set4 {w : World} {base g n cap i : Nat} {ys rest : List Value} {o0 o1 o2 o3 : Value} (h : w.ownsRow base TV 4 (.slice (some ⟨g, 0, none⟩) n cap) n (ys ++ ([o0, o1, o2, o3] ++ rest))) (hy : ys.length = i * 4) (hi : i < n) (a b c d : Value) :
    (set4o w g (i * 4) a b c d).ownsRow base TV 4 (.slice (some ⟨g, 0, none⟩) n cap) n (ys ++ ([a, b, c, d] ++ rest)) := by
  refine ⟨?_, ?_⟩
  · have := h.1
    simp only [List.length_append, List.length_cons] at this ⊢
    exact this
  · rcases h.2 with ⟨_, h0⟩ | ⟨g', cap', cur, e, hb, hh, hc, hm, hs, ht⟩
    · omega
    · injection e with e _ e2
      injection e with e
      injection e with e _ _
      subst e e2
      have hB : Blk w g TV cur := hh
      have hB4 : Blk (set4o w g (i * 4) a b c d) g TV ((((cur.setIfInBounds (i * 4) a).setIfInBounds (i * 4 + 1) b).setIfInBounds (i * 4 + 2) c).setIfInBounds (i * 4 + 3) d) := (((hB.set_ (i * 4) a).set_ (i * 4 + 1) b).set_ (i * 4 + 2) c).set_ (i * 4 + 3) d
      refine .inr ⟨g, cap, _, rfl, hb, hB4, hc, hm, by simp [hs], ?_⟩
      simp only [Array.toList_setIfInBounds]
      exact set4_list _ i n hi ys rest a a b c d o0 o1 o2 o3 hy ht (by rw [Array.length_toList, hs]; exact Nat.mul_le_mul_right 4 hc)
theorem drop_four {w : World} {F : Nat → Prop} : ∀ (js : List JV) (xs : List Value), VRdL w F js xs → ∀ (i : Nat) (h : i < js.length), ∃ cs rest, xs.drop (i * 4) = cs ++ rest ∧ VRd w F js[i] cs ∧ cs.length = 4 ∧ rest = xs.drop ((i + 1) * 4)
  | j :: js, xs, h, 0, _ => by
    unfold VRdL at h
    obtain ⟨cs, rest, rfl, h2, h3⟩ := h
    have hl : cs.length = 4 := by obtain ⟨k, t, A, n, c, A', n', c', rfl⟩ := h2.four; rfl
    refine ⟨cs, rest, by simp, h2, hl, ?_⟩
    rw [List.drop_append_of_le_length (by omega), List.drop_of_length_le (by omega)]
    rfl
  | j :: js, xs, h, i + 1, hi => by
    unfold VRdL at h
    obtain ⟨cs, rest, rfl, h2, h3⟩ := h
    have hl : cs.length = 4 := by obtain ⟨k, t, A, n, c, A', n', c', rfl⟩ := h2.four; rfl
    obtain ⟨cs', rest', g1, g2, g3, g4⟩ := drop_four js rest h3 i (by simpa using hi)
    refine ⟨cs', rest', ?_, by simpa using g2, g3, ?_⟩
    · rw [show (i + 1) * 4 = cs.length + i * 4 by omega, ← List.drop_drop, List.drop_left]
      exact g1
    · rw [g4, show (i + 1 + 1) * 4 = cs.length + (i + 1) * 4 by omega, ← List.drop_drop, List.drop_left]
theorem take_snoc {js : List JV} {i : Nat} (h : i < js.length) : js.take (i + 1) = js.take i ++ [js[i]] := List.take_succ_eq_append_getElem h
/-- The state of own's loop. -/
structure LS (w wr : World) (z : Nat) (k : Int) (t : L8) (ks : List L8) (vs : List JV) (kv lv a2 : Value) (xs : List Value) (i : Nat) (ys : List Value) : Prop where
  bel : Below w.heap.size w wr
  bv : Blk wr w.heap.size TV #[.int .i64 k, .string ⟨t.toArray⟩, kv, a2]
  br : Blk wr (w.heap.size + 1) TV #[.int .i64 0, .string ⟨#[]⟩, .slice none 0 0, .slice none 0 0]
  ok : wr.ownsRow (w.heap.size + 2) TSt 1 kv ks.length (sc ks)
  ol : wr.ownsRow (w.heap.size + 2) TV 4 lv vs.length (ys ++ xs.drop (i * 4))
  yl : ys.length = i * 4
  vr : VRdL wr (fun j => z ≤ j) (vs.take i) ys
  lz : ∀ g, lv.ownBlock = some g → g < z
  le : w.heap.size + 2 ≤ z
  zl : z ≤ wr.heap.size
theorem LS.call {w wr w' : World} {z : Nat} {k : Int} {t : L8} {ks : List L8} {vs : List JV} {kv lv a2 : Value} {xs : List Value} {i : Nat} {ys : List Value} (h : LS w wr z k t ks vs kv lv a2 xs i ys) (hb : Below wr.heap.size wr w') : LS w w' z k t ks vs kv lv a2 xs i ys :=
  ⟨h.bel.trans (hb.mono h.bel.size), h.bv.below hb h.bv.lt, h.br.below hb h.br.lt, own_later h.ok hb, own_later h.ol hb, h.yl,
    VRdL.keep (F := fun j => z ≤ j ∧ j < wr.heap.size) (fun j hj => hb.block j hj.2) (fun j hj => hj.1) _ _ h.vr.lt, h.lz, h.le, Nat.le_trans h.zl hb.size⟩
theorem LS.slice {w wr : World} {z : Nat} {k : Int} {t : L8} {ks : List L8} {vs : List JV} {kv lv a2 : Value} {xs : List Value} {i : Nat} {ys : List Value} (h : LS w wr z k t ks vs kv lv a2 xs i ys) (hi : i < vs.length) : ∃ g c, lv = .slice (some ⟨g, 0, none⟩) vs.length c ∧ vs.length ≤ c ∧ c ≤ maxLen ∧ w.heap.size + 2 ≤ g ∧ g < wr.heap.size := by
  have hlt := h.ol.lt
  rcases h.ol.2 with ⟨_, h0⟩ | ⟨g, cap, cur, e, hb, hh, hc, hm, hs, ht⟩
  · omega
  · exact ⟨g, cap, e, hc, hm, hb, (hlt g (by rw [e]; rfl)).2⟩
theorem LS.store {w wr : World} {z g c : Nat} {k : Int} {t : L8} {ks : List L8} {vs : List JV} {kv a2 : Value} {xs : List Value} {i : Nat} {ys : List Value} (h : LS w wr z k t ks vs kv (.slice (some ⟨g, 0, none⟩) vs.length c) a2 xs i ys) (hi : i < vs.length) (hx : VRdL w (fun j => j < w.heap.size) vs xs)
    {v0 v1 v2 v3 : Value} (hv : VRd wr (fun j => z ≤ j) vs[i] [v0, v1, v2, v3]) : LS w (set4o wr g (i * 4) v0 v1 v2 v3) z k t ks vs kv (.slice (some ⟨g, 0, none⟩) vs.length c) a2 xs (i + 1) (ys ++ [v0, v1, v2, v3]) := by
  obtain ⟨cs, rest, e1, e2, e3, e4⟩ := drop_four vs xs hx i hi
  obtain ⟨o0, o1, o2, o3, o4, o5, o6, o7, rfl⟩ := e2.four
  have hol := h.ol
  rw [e1] at hol
  have hg : w.heap.size + 2 ≤ g := own_block hol g rfl
  have hgz : g < z := h.lz g rfl
  have hk : ∀ j, j ≠ g → (set4o wr g (i * 4) v0 v1 v2 v3).heap[j]? = wr.heap[j]? := fun j hj => set4o_heap wr _ hj _ _ _ _
  have hgl : g < wr.heap.size := (hol.lt g rfl).2
  obtain ⟨cur, hcur⟩ : ∃ cur, Blk wr g TV cur := by
    rcases hol.2 with ⟨e, _⟩ | ⟨g', cap', cur, e, _, hh, _⟩
    · cases e
    · injection e with e _ _
      injection e with e
      injection e with e _ _
      exact ⟨cur, e ▸ hh⟩
  refine ⟨set4o_below h.bel _ (by omega) _ _ _ _, (hk _ (by omega)).trans h.bv, (hk _ (by omega)).trans h.br, row_keep h.ok (fun j hj => hk j (fun e => ?_)), ?_, ?_, ?_, h.lz, h.le, by rw [set4o_size]; exact h.zl⟩
  · subst e
    exact own_blk_ne h.ok hcur (by decide) hj
  · have := own_set4 hol h.yl hi v0 v1 v2 v3
    rw [e4] at this
    rw [List.append_assoc]
    exact this
  · rw [List.length_append, h.yl]
    simp
    omega
  · rw [take_snoc hi]
    have hkeep : ∀ j, z ≤ j → (set4o wr g (i * 4) v0 v1 v2 v3).heap[j]? = wr.heap[j]? := fun j hj => hk j (by omega)
    exact VRdL.snoc (VRd.keep hkeep (fun _ h => h) _ _ hv) _ _ (VRdL.keep hkeep (fun _ h => h) _ _ h.vr)
theorem LS.cells {w wr : World} {z g c : Nat} {k : Int} {t : L8} {ks : List L8} {vs : List JV} {kv a2 : Value} {xs : List Value} {i : Nat} {ys rest : List Value} {o0 o1 o2 o3 : Value} (h : LS w wr z k t ks vs kv (.slice (some ⟨g, 0, none⟩) vs.length c) a2 xs i ys) (e1 : xs.drop (i * 4) = [o0, o1, o2, o3] ++ rest) :
    ∃ cur, Blk wr g TV cur ∧ cur[i * 4]? = some o0 ∧ cur[i * 4 + 1]? = some o1 ∧ cur[i * 4 + 2]? = some o2 ∧ cur[i * 4 + 3]? = some o3 := by
  have hol := h.ol
  rw [e1] at hol
  rcases hol.2 with ⟨e, _⟩ | ⟨g', cap', cur, e, _, hh, _, _, _, ht⟩
  · cases e
  · injection e with e _ _
    injection e with e
    injection e with e _ _
    subst e
    have q : ∀ (j : Nat) (u : Value), ([o0, o1, o2, o3] ++ rest)[j]? = some u → cur[i * 4 + j]? = some u := fun j u hu => by
      have h2 : (cur.toList.take (vs.length * 4))[i * 4 + j]? = some u := by
        rw [ht, ← h.yl, List.getElem?_append_right (by omega), Nat.add_sub_cancel_left]
        exact hu
      rw [List.getElem?_take] at h2
      split at h2
      · rw [Array.getElem?_toList] at h2
        exact h2
      · cases h2
    exact ⟨cur, hh, q 0 _ rfl, q 1 _ rfl, q 2 _ rfl, q 3 _ rfl⟩
theorem LS.ends {w wr : World} {z : Nat} {k : Int} {t : L8} {ks : List L8} {vs : List JV} {kv lv a2 : Value} {xs : List Value} {i : Nat} {ys : List Value} (h : LS w wr z k t ks vs kv lv a2 xs i ys) (hi : vs.length ≤ i) (hxl : xs.length = vs.length * 4) :
    VRd wr (fun j => w.heap.size + 2 ≤ j) (.mk k t ks vs) [.int .i64 k, .string ⟨t.toArray⟩, kv, lv] := by
  have hol := h.ol
  have hvr := h.vr
  rw [List.drop_of_length_le (by omega), List.append_nil] at hol
  rw [List.take_of_length_le hi] at hvr
  obtain ⟨A1, c1, rfl, hc1⟩ := own_slice2 h.ok
  obtain ⟨A2, c2, rfl, hc2⟩ := own_slice2 hol
  unfold VRd
  refine ⟨A1, _, c1, A2, _, c2, ys, rfl, rfl, hc1, ?_, rfl, hc2, ?_, VRdL.keep (fun _ _ => rfl) (fun j hj => Nat.le_trans h.le hj) _ _ hvr⟩
  · refine ⟨h.ok.1, fun h0 => ?_⟩
    obtain ⟨ad, e, hb, hcell⟩ := (Reads.of_own h.ok).2 h0
    exact ⟨ad, e, own_block h.ok _ (by rw [e]; rfl), hcell⟩
  · refine ⟨hol.1, fun h0 => ?_⟩
    obtain ⟨ad, e, hb, hcell⟩ := (Reads.of_own hol).2 h0
    exact ⟨ad, e, own_block hol _ (by rw [e]; rfl), hcell⟩
def OwnC (n : Nat) : Prop := ∀ (w : World) (J : JV) (cs : List Value), szJ J ≤ n → bdJ J → VRd w (fun j => j < w.heap.size) J cs →
  Calls Tryd.prog 14 #[.agg cs.toArray] w fun e w' => ∃ cs', e = .returned (.agg cs'.toArray) ∧ VRd w' (fun j => w.heap.size ≤ j) J cs' ∧ Below w.heap.size w w'
theorem ReadsF.reads {w : World} {B k n : Nat} {A : Option Addr} {xs : List Value} (h : ReadsF w (fun j => j < B) k A n xs) : Reads w B k A n xs := h
theorem sc_one (ks : List L8) : ∀ u ∈ sc ks, u.oneCell' = true := by
  intro u hu
  obtain ⟨x, _, rfl⟩ := List.mem_map.1 hu
  rfl
theorem VRdL.one {w : World} {F : Nat → Prop} : ∀ (js : List JV) (xs : List Value), VRdL w F js xs → ∀ u ∈ xs, u.oneCell' = true
  | [], xs, h => by
    unfold VRdL at h
    subst h
    simp
  | j :: js, xs, h => by
    unfold VRdL at h
    obtain ⟨cs, rest, rfl, h2, h3⟩ := h
    obtain ⟨k, t, A, n, c, A', n', c', rfl⟩ := h2.four
    intro u hu
    rcases List.mem_append.1 hu with hu | hu
    · simp at hu
      rcases hu with rfl | rfl | rfl | rfl <;> rfl
    · exact VRdL.one js rest h3 u hu
set_option maxRecDepth 100000 in
set_option maxHeartbeats 600000 in
theorem own_step (n : Nat) (ih : OwnC n) : OwnC (n + 1) := by
  intro w J cs hsz hbd h
  obtain ⟨k, t, ks, vs⟩ := J
  obtain ⟨A1, c1, A2, c2, xs, rfl, hc1, hr1, hc2, hr2, hl⟩ := h.mk'
  obtain ⟨hb1, hb2, hb3⟩ := bd_mk hbd
  have IH := hide ih
  have HB3 := hide hb3
  obtain ⟨w2, hw2⟩ : ∃ w2, (w.alloc (.cells #[.int .i64 k, .string ⟨t.toArray⟩, .slice A1 ks.length c1, .slice A2 vs.length c2] TV)).alloc (.cells #[.int .i64 0, .string ⟨#[]⟩, .slice none 0 0, .slice none 0 0] TV) = w2 := ⟨_, rfl⟩
  have HB2 := hide (show Below w.heap.size w w2 from hw2 ▸ bal (al_below w _) _)
  have HV2 := hide (show Blk w2 w.heap.size TV #[.int .i64 k, .string ⟨t.toArray⟩, .slice A1 ks.length c1, .slice A2 vs.length c2] from hw2 ▸ (Blk.new _ _ _).alloc _)
  have HR2 := hide (show Blk w2 (w.heap.size + 1) TV #[.int .i64 0, .string ⟨#[]⟩, .slice none 0 0, .slice none 0 0] from by
    rw [← hw2, show w.heap.size + 1 = (w.alloc (.cells #[.int .i64 k, .string ⟨t.toArray⟩, .slice A1 ks.length c1, .slice A2 vs.length c2] TV)).heap.size by simp]
    exact Blk.new _ _ _)
  have hs2 : w2.heap.size = w.heap.size + 2 := by rw [← hw2]; simp
  have HS2 := hide hs2
  have HW2 := hide hw2
  have HKS := hide hr1
  have HVS := hide hr2
  have HL := hide hl
  have HX1 := hide (VRdL.one vs xs hl)
  clear hw2 h ih hb3 hbd hr1 hr2 hl hs2
  have hM : maxLen = 9223372036854775807 := rfl
  obtain ⟨i0, hi0, hz0, hz1, hz2⟩ := st_inf
  obtain ⟨i1, hi1, hy0, hy1, hy2⟩ := tv_inf
  have HI0 := hide hi0
  have HZ0 := hide hz0
  have HI1 := hide hi1
  have HY0 := hide hy0
  clear hi0 hz0 hi1 hy0
  go_enter Tryd.func14, Tryd.ntmps14
  go_upto_region 1 with fail
  refine id (show Code.wp _ _ _ _ ((w.alloc (.cells #[.int .i64 k, .string ⟨t.toArray⟩, .slice A1 ks.length c1, .slice A2 vs.length c2] TV)).alloc (.cells #[.int .i64 0, .string ⟨#[]⟩, .slice none 0 0, .slice none 0 0] TV)) from ?_)
  rw [HW2.out]
  obtain ⟨w3, hw3⟩ : ∃ x, w2.alloc (.cells #[] TSt) = x := ⟨_, rfl⟩
  have HB3w := hide (show Below w.heap.size w w3 from hw3 ▸ bal HB2.out _)
  have HG3 := hide (show Below w2.heap.size w2 w3 from hw3 ▸ al_below w2 _)
  have HO3 := hide (show w3.ownsRow w2.heap.size TSt 1 (.slice (some ⟨w2.heap.size, 0, none⟩) 0 0) 0 [] from hw3 ▸ World.ownsRow_lit w2 #[] 0 (Nat.le_refl _) (by decide) rfl)
  have HV3 := hide (show Blk w3 w.heap.size TV #[.int .i64 k, .string ⟨t.toArray⟩, .slice A1 ks.length c1, .slice A2 vs.length c2] from HV2.out.below HG3.out HV2.out.lt)
  have HW3 := hide hw3
  clear hw3
  have kv := HV3.out.cell; have fv := HV3.out.frozen; have zv := HV3.out.lt
  rw [← HW3.out] at kv fv zv
  go_upto_region 2 with (at_builtin; (rw [HW3.out]); refine wpList_append_any _ rfl (.tmp 5) (.tmp 7) _ rfl w2.heap.size TSt i0 _ 1 16 Tryd.underlying24 HI0.out HZ0.out hz1 hz2 rfl (by omega) (.slice (some ⟨w2.heap.size, 0, none⟩) 0 0) 0 [] rfl HO3.out w.heap.size A1 ks.length c1 (sc ks) rfl (HKS.out.reads.below HB3w.out) (sc_one ks) (by unfold maxLen; omega) (by omega) HG3.out.size ?_; intro v' w4 ho hgb hoo; (rw [Nat.zero_add, List.nil_append] at ho); (obtain ⟨A4, c4, rfl, hc4⟩ := own_slice ho); have HO4 := hide ho; have HG4 := hide (HG3.out.grown hgb HG3.out.size (fun k e => own_block HO3.out k e)); have HV4 := hide (HV3.out.grown hgb (fun e => by have e : some w.heap.size = some w2.heap.size := e; injection e with e; have := HS2.out; omega)); clear ho hgb hoo; clear kv fv zv; have kv := HV4.out.cell; have fv := HV4.out.frozen; have zv := HV4.out.lt)
  clear kv fv zv
  obtain ⟨w5, hw5⟩ : ∃ x, w4.setCell ⟨w.heap.size, 2, none⟩ (.slice A4 ks.length c4) = x := ⟨_, rfl⟩
  have HV5 := hide (show Blk w5 w.heap.size TV #[.int .i64 k, .string ⟨t.toArray⟩, .slice A4 ks.length c4, .slice A2 vs.length c2] from hw5 ▸ HV4.out.set_ 2 _)
  have HB5 := hide (show Below w.heap.size w w5 from hw5 ▸ (HB2.out.trans (HG4.out.mono HB2.out.size)).setCell (p := ⟨w.heap.size, 2, none⟩) (Nat.le_refl _) _)
  have HO5 := hide (show w5.ownsRow (w.heap.size + 2) TSt 1 (.slice A4 ks.length c4) ks.length (sc ks) from by rw [← hw5, ← HS2.out]; exact row_keep HO4.out (fun g hg => Below.heap_setCell _ _ _ _ (by have := own_block HO4.out g hg; have := HS2.out; show g ≠ w.heap.size; omega)))
  have hs5 : w2.heap.size ≤ w5.heap.size := by rw [← hw5]; simpa using HG4.out.size
  have HR5 := hide (show Blk w5 (w.heap.size + 1) TV #[.int .i64 0, .string ⟨#[]⟩, .slice none 0 0, .slice none 0 0] from by rw [← hw5]; exact (HR2.out.below HG4.out HR2.out.lt).far (by show w.heap.size + 1 ≠ w.heap.size; omega) _)
  rw [hw5]
  clear hw5 HG4 HO4 HV4 HW3 HB3w HG3 HO3 HV3
  obtain ⟨w6, hw6⟩ : ∃ x, w5.alloc (.cells #[] TV) = x := ⟨_, rfl⟩
  have HG6 := hide (show Below w5.heap.size w5 w6 from hw6 ▸ al_below w5 _)
  have HB6 := hide (HB5.out.trans (HG6.out.mono HB5.out.size))
  have HO6 := hide (show w6.ownsRow w5.heap.size TV 4 (.slice (some ⟨w5.heap.size, 0, none⟩) 0 0) 0 [] from hw6 ▸ World.ownsRow_lit w5 #[] 0 (Nat.le_refl _) (by decide) rfl)
  have HV6 := hide (HV5.out.below HG6.out HV5.out.lt)
  have HW6 := hide hw6
  clear hw6
  have kv := HV6.out.cell; have fv := HV6.out.frozen; have zv := HV6.out.lt
  rw [← HW6.out] at kv fv zv
  go_upto_region 3 with (at_builtin; (rw [HW6.out]); refine wpList_append_any _ rfl (.tmp 10) (.tmp 12) _ rfl w5.heap.size TV i1 _ 4 72 Tryd.underlying25 HI1.out HY0.out hy1 hy2 rfl (by omega) (.slice (some ⟨w5.heap.size, 0, none⟩) 0 0) 0 [] rfl HO6.out w.heap.size A2 vs.length c2 xs rfl (HVS.out.reads.below HB6.out) HX1.out (by unfold maxLen; omega) (by omega) HG6.out.size ?_; intro v' w7 ho hgb hoo; (rw [Nat.zero_add, List.nil_append] at ho); (obtain ⟨A7, c7, rfl, hc7⟩ := own_slice ho); have HO7 := hide ho; have HG7 := hide (HG6.out.grown hgb HG6.out.size (fun k e => own_block HO6.out k e)); clear ho hgb hoo kv fv zv)
  have hs7 : w5.heap.size ≤ w7.heap.size := HG7.out.size
  obtain ⟨lv, hlv⟩ : ∃ lv, Value.slice A7 vs.length c7 = lv := ⟨_, rfl⟩
  have HLS := hide (show LS w w7 w7.heap.size k t ks vs (.slice A4 ks.length c4) lv (.slice A2 vs.length c2) xs 0 [] from
    ⟨HB5.out.trans (HG7.out.mono HB5.out.size), HV5.out.below HG7.out HV5.out.lt, HR5.out.below HG7.out HR5.out.lt, own_later HO5.out HG7.out, by
      rw [← hlv, Nat.zero_mul, List.drop_zero, List.nil_append]
      exact ⟨HO7.out.1, HO7.out.2.imp id (fun ⟨g, cap, cur, e, hb, r⟩ => ⟨g, cap, cur, e, by have := HS2.out; omega, r⟩)⟩, rfl, by unfold VRdL; rfl, fun g hg => (HO7.out.lt g (hlv ▸ hg)).2, by have := HS2.out; omega, Nat.le_refl _⟩)
  have HLV := hide hlv
  rw [hlv]
  obtain ⟨z, hz⟩ : ∃ z, w7.heap.size = z := ⟨_, rfl⟩
  rw [hz] at HLS
  clear hlv hz HO7 HG7 HG6 HB6 HO6 HV6 HW6 HB5 HV5 HR5 HO5
  go_wp2_with fail
  go_loopw [4] (fun iv wr => ∃ (i : Nat) (ys : List Value), iv = .int .i64 (i : Int) ∧ i ≤ vs.length ∧ Hid (LS w wr z k t ks vs (.slice A4 ks.length c4) lv (.slice A2 vs.length c2) xs i ys)) (fun iv _ => vs.length - (intOf iv).toNat)
  case atStart => exact ⟨0, [], by go_num, by omega, HLS⟩
  case round =>
    clear HLS
    obtain ⟨i, ys, rfl, hi, HLS⟩ := hrel
    rw [← HLV.out]
    by_cases hlt : i < vs.length
    · obtain ⟨g, c, e, hgc, hcm, hg2, hgl⟩ := HLS.out.slice hlt
      have e' := HLV.out.trans e
      injection e' with e' _ e''
      subst e' e'' e
      obtain ⟨cs, rest, e1, e2, e3, e4⟩ := drop_four vs xs HL.out i hlt
      obtain ⟨o0, o1, o2, o3, o4, o5, o6, o7, rfl⟩ := e2.four
      obtain ⟨cur, hcur, q0, q1, q2, q3⟩ := HLS.out.cells e1
      have kk : ∀ j, wr.cell? ⟨g, j, none⟩ = cur[j]? := hcur.cell
      have HVm := hide (e2.later HLS.out.bel)
      have HBD := hide (bdL_at i hlt HB3.out)
      have hszm : szJ vs[i] ≤ n := by have := szL_at vs i hlt; have : szJ (.mk k t ks vs) = szL vs + 1 := by simp [szJ]
                                      omega
      clear e1 e2 e3 e4
      have hZ : z ≤ wr.heap.size := HLS.out.zl
      have HCU := hide hcur
      clear hcur
      go_upto_region 5 with (go_at_call 14; (refine (IH.out wr vs[i] _ hszm HBD.out HVm.out).mono ?_); rintro e w8 ⟨cs', rfl, hv, hb⟩; (obtain ⟨v0, v1, v2, v3, v4, v5, v6, v7, rfl⟩ := hv.four); have HV8 := hide (VRd.keep (F' := fun j => z ≤ j) (fun _ _ => rfl) (fun j hj => Nat.le_trans hZ hj) _ _ hv); have HLS8 := hide (HLS.out.call hb); have HC8 := hide (HCU.out.below hb HCU.out.lt); clear hv hb kk; have kk := HC8.out.cell; have ff := HC8.out.frozen; have zz := HC8.out.lt)
      obtain ⟨w9, hw9⟩ : ∃ x, set4o w8 g (i * 4) (.int .i64 v0) (.string v1) (.slice v2 v3 v4) (.slice v5 v6 v7) = x := ⟨_, rfl⟩
      have HLS9 := hide (hw9 ▸ HLS8.out.store hlt HL.out HV8.out)
      refine id (show Code.wp _ _ _ _ (set4o w8 g (i * 4) (.int .i64 v0) (.string v1) (.slice v2 v3 v4) (.slice v5 v6 v7)) from ?_)
      rw [hw9]
      clear hw9 kk ff zz HLS HLS8 HC8 HCU q0 q1 q2 q3
      go_wp2_with fail
      go_roundw
      case rel => exact ⟨i + 1, _, by go_num, by omega, HLS9⟩
      case measure => simp [intOf]; omega
    · go_upto_region 7 with fail
      have kv := HLS.out.bv.cell; have fv := HLS.out.bv.frozen; have zv := HLS.out.bv.lt
      go_upto_region 8 with fail
      clear kv fv zv
      rw [HLV.out]
      obtain ⟨w9, hw9⟩ : ∃ x, wr.setCell ⟨w.heap.size, 3, none⟩ lv = x := ⟨_, rfl⟩
      have hxl := HVS.out.1
      have hsz9 : wr.heap.size = w9.heap.size := by rw [← hw9]; simp
      have hk9 : ∀ j, j ≠ w.heap.size → w9.heap[j]? = wr.heap[j]? := fun j hj => hw9 ▸ Below.heap_setCell _ _ _ _ hj
      have HV9 := hide (show Blk w9 w.heap.size TV #[.int .i64 k, .string ⟨t.toArray⟩, .slice A4 ks.length c4, lv] from hw9 ▸ HLS.out.bv.set_ 3 _)
      have HR9 := hide (show Blk w9 (w.heap.size + 1) TV #[.int .i64 0, .string ⟨#[]⟩, .slice none 0 0, .slice none 0 0] from (hk9 _ (by omega)).trans HLS.out.br)
      have HE9 := hide (VRd.keep (F' := fun j => w.heap.size + 2 ≤ j) (fun j hj => hk9 j (by have : w.heap.size + 2 ≤ j := hj; omega)) (fun _ h => h) _ _ (HLS.out.ends (Nat.le_of_not_lt hlt) hxl))
      have HB9 := hide (show Below w.heap.size w w9 from hw9 ▸ HLS.out.bel.setCell (p := ⟨w.heap.size, 3, none⟩) (Nat.le_refl _) _)
      rw [hw9]
      clear hw9 hxl HLS
      have hlvs := HLV.out.symm
      subst hlvs
      have kv := HV9.out.cell; have fv := HV9.out.frozen; have zv := HV9.out.lt
      have kr := HR9.out.cell; have fr := HR9.out.frozen; have zr := HR9.out.lt
      go_wp2_with fail
      refine ⟨rfl, .agg #[.int .i64 k, .string ⟨t.toArray⟩, .slice A4 ks.length c4, .slice A7 vs.length c7], results_cell_row rfl _ _ (w.heap.size + 1) TV _ (0, 0) _ rfl (set4_blk HR9.out (.int .i64 k) (.string ⟨t.toArray⟩) (.slice A4 ks.length c4) (.slice A7 vs.length c7)) Tryd.underlying27 rfl tv_info,
        [.int .i64 k, .string ⟨t.toArray⟩, .slice A4 ks.length c4, .slice A7 vs.length c7], rfl, ?_, set4_below HB9.out (by omega) _ _ _ _⟩
      exact VRd.keep (fun j hj => set4_heap w9 (by have : w.heap.size + 2 ≤ j := hj; omega) _ _ _ _) (fun j hj => by have : w.heap.size + 2 ≤ j := hj; show w.heap.size ≤ j; omega) _ _ HE9.out
theorem own_all : ∀ n, OwnC n
  | 0 => fun w J cs hsz => by
    obtain ⟨k, t, ks, vs⟩ := J
    simp [szJ] at hsz
  | n + 1 => own_step n (own_all n)
theorem own_any {w : World} {J : JV} {cs : List Value} (hb : bdJ J) (h : VRd w (fun j => j < w.heap.size) J cs) :
    Calls Tryd.prog 14 #[.agg cs.toArray] w fun e w' => ∃ cs', e = .returned (.agg cs'.toArray) ∧ VRd w' (fun j => j < w'.heap.size) J cs' ∧ Below w.heap.size w w' :=
  (own_all (szJ J) w J cs (Nat.le_refl _) hb h).mono fun e w' ⟨cs', h1, h2, h3⟩ => ⟨cs', h1, h2.all, h3⟩
end Go.Proofs.YtmbjalcphdggnaaDoor
