/- The law's own, once more: its row and what stands in it; two items that change places; what keys have (plain). -/
import Derived.Test.YtkolacaceaamoaaSj
import Derived.Test.YtkolacaceaamoaaSh
/- The law's own, once more: its row and what stands in it; two items that change places; what keys have (plain). -/
namespace Go.Proofs.Ytkolacaceaamoaa
set_option linter.unusedSimpArgs false
set_option linter.unusedVariables false
open Go.RowKit
open Go.Lib (compareBytes)
theorem cb_nil (k : Cn) : 0 ≤ compareBytes k [] := by
  cases k <;> simp [compareBytes]
theorem goL_all {most : Int} : ∀ (is o : List It), ((o.length + is.length : Nat) : Int) ≤ most → goL [] [] most o is = (true, o ++ is)
  | [], o, _ => by simp [goL]
  | x :: r, o, h => by
    rw [List.length_cons] at h
    have hst : stopB [] most o.length x = false := by
      unfold stopB
      simp
      omega
    rw [goL, if_pos (cb_nil x.k), hst]
    have := goL_all (most := most) r (o ++ [x]) (by rw [List.length_append, List.length_singleton]; omega)
    simp [this]
theorem valOf_iff {l : List It} (hn : (l.map It.k).Nodup) {key v : Cn} : valOf l key = some v ↔ (⟨key, v⟩ : It) ∈ l := by
  induction l with
  | nil => simp [valOf]
  | cons x r ih =>
    rw [List.map_cons, List.nodup_cons] at hn
    rw [valOf_cons, List.mem_cons]
    by_cases h : x.k = key
    · rw [if_pos h]
      constructor
      · intro e
        injection e with e
        refine .inl ?_
        cases x
        simp at h e
        rw [h, e]
      · rintro (e | e)
        · rw [← e]
        · exact absurd (by rw [h]; exact List.mem_map_of_mem (f := It.k) e) hn.1
    · rw [if_neg h, ih hn.2]
      constructor
      · exact .inr
      · rintro (e | e)
        · rw [← e] at h; exact absurd rfl h
        · exact e
theorem valOf_perm {a b : List It} (hp : a.Perm b) (hn : (a.map It.k).Nodup) (key : Cn) : valOf a key = valOf b key := by
  have hn2 : (b.map It.k).Nodup := (hp.map It.k).nodup_iff.1 hn
  cases h : valOf b key with
  | none =>
    cases h2 : valOf a key with
    | none => rfl
    | some v =>
      have := (valOf_iff hn).1 h2
      rw [(valOf_iff hn2).2 (hp.mem_iff.1 this)] at h
      cases h
  | some v => exact (valOf_iff hn).2 (hp.mem_iff.2 ((valOf_iff hn2).1 h))
theorem rise_nodup {l : List It} (h : RiseI l) : (l.map It.k).Nodup := by
  unfold List.Nodup
  rw [List.pairwise_map]
  exact h.imp fun {a b} h e => by rw [cb_zero.2 e] at h; omega
/-- Two rising lists that have the same are the same. -/
theorem rise_ext : ∀ {a b : List It}, RiseI a → RiseI b → (∀ key, valOf a key = valOf b key) → a = b
  | [], [], _, _, _ => rfl
  | [], y :: b, _, hb, h => by
    have := h y.k
    rw [valOf_cons, if_pos rfl] at this
    cases this
  | x :: a, [], ha, _, h => by
    have := h x.k
    rw [valOf_cons, if_pos rfl] at this
    cases this
  | x :: a, y :: b, ha, hb, h => by
    have ha' := List.pairwise_cons.1 ha
    have hb' := List.pairwise_cons.1 hb
    have hx : (x :: a).map It.k |>.Nodup := rise_nodup ha
    have hy : (y :: b).map It.k |>.Nodup := rise_nodup hb
    have m1 : x ∈ y :: b := by
      have := h x.k
      rw [valOf_cons, if_pos rfl] at this
      exact (valOf_iff hy).1 this.symm
    have m2 : y ∈ x :: a := by
      have := h y.k
      rw [valOf_cons y b, if_pos rfl] at this
      exact (valOf_iff hx).1 this
    have e : x = y := by
      rcases List.mem_cons.1 m1 with e | m1
      · exact e
      · rcases List.mem_cons.1 m2 with e | m2
        · exact e.symm
        · have h1 := hb'.1 x m1
          have h2 := ha'.1 y m2
          rw [cb_swap] at h2
          omega
    subst e
    rw [rise_ext ha'.2 hb'.2 fun key => ?_]
    have := h key
    rw [valOf_cons, valOf_cons] at this
    by_cases hk : x.k = key
    · have n1 : valOf a key = none := valOf_none fun i hi e => by
        rw [← hk] at e
        have := ha'.1 i hi
        rw [e, cb_zero.2 rfl] at this
        omega
      have n2 : valOf b key = none := valOf_none fun i hi e => by
        rw [← hk] at e
        have := hb'.1 i hi
        rw [e, cb_zero.2 rfl] at this
        omega
      rw [n1, n2]
    · rwa [if_neg hk, if_neg hk] at this
/-- A row of items, each with its cells. -/
abbrev ItC := It × Value × Value
def encI (e : ItC) : List Value := [e.2.1, e.2.2]
theorem lr_it {w : World} {F : Nat → Prop} : ∀ (l : List It) (xs : List Value), LR (ItR w F) l xs → ∃ d : List ItC, d.map Prod.fst = l ∧ xs = d.flatMap encI ∧ ∀ e ∈ d, ItR w F e.1 (encI e)
  | [], xs, h => ⟨[], rfl, h, fun e he => by cases he⟩
  | a :: l, xs, ⟨cs, rest, e, h1, h2⟩ => by
    obtain ⟨d, e1, e2, e3⟩ := lr_it l rest h2
    obtain ⟨v1, v2, e4, hk, hv⟩ := h1
    refine ⟨(a, v1, v2) :: d, by rw [List.map_cons, e1], by rw [List.flatMap_cons, e, e4, e2]; rfl, fun e he => ?_⟩
    rcases List.mem_cons.1 he with rfl | he
    · exact ⟨v1, v2, rfl, hk, hv⟩
    · exact e3 e he
theorem lr_ti {w : World} {F : Nat → Prop} : ∀ d : List ItC, (∀ e ∈ d, ItR w F e.1 (encI e)) → LR (ItR w F) (d.map Prod.fst) (d.flatMap encI)
  | [], _ => rfl
  | e :: d, h => ⟨encI e, _, by rw [List.flatMap_cons], h e List.mem_cons_self, lr_ti d (fun x hx => h x (List.mem_cons_of_mem _ hx))⟩
theorem encI_get : ∀ (d : List ItC) (j : Nat) (hj : j < d.length), (d.flatMap encI)[j * 2]? = some d[j].2.1 ∧ (d.flatMap encI)[j * 2 + 1]? = some d[j].2.2
  | e :: d, 0, _ => ⟨rfl, rfl⟩
  | e :: d, j + 1, hj => by
    obtain ⟨h1, h2⟩ := encI_get d j (by simpa using hj)
    have hl : (encI e).length = 2 := rfl
    rw [List.flatMap_cons, List.getElem?_append_right (by omega), List.getElem?_append_right (by omega), hl, show (j + 1) * 2 - 2 = j * 2 by omega, show (j + 1) * 2 + 1 - 2 = j * 2 + 1 by omega]
    exact ⟨h1, h2⟩
theorem encI_len : ∀ d : List ItC, (d.flatMap encI).length = d.length * 2
  | [] => rfl
  | e :: d => by rw [List.flatMap_cons, List.length_append, encI_len d, List.length_cons]; simp [encI]; omega
theorem encI_set : ∀ (d : List ItC) (j : Nat) (e : ItC), j < d.length → ((d.flatMap encI).set (j * 2) e.2.1).set (j * 2 + 1) e.2.2 = (d.set j e).flatMap encI
  | x :: d, 0, e, _ => rfl
  | x :: d, j + 1, e, hj => by
    rw [List.set_cons_succ, List.flatMap_cons, List.flatMap_cons, ← encI_set d j e (by simpa using hj)]
    have hl : (encI x).length = 2 := rfl
    rw [List.set_append_right _ _ (by omega), List.set_append_right _ _ (by omega), hl, show (j + 1) * 2 - 2 = j * 2 by omega, show (j + 1) * 2 + 1 - 2 = j * 2 + 1 by omega]
/-- The row that the law has of its own, in a world where items may change places. -/
structure AtS (w0 wr : World) (g n cap : Nat) (F : Nat → Prop) (d : List ItC) : Prop where
  row : wr.ownsRow w0.heap.size TIt 2 (.slice (some ⟨g, 0, none⟩) n cap) n (d.flatMap encI)
  len : d.length = n
  it : ∀ e ∈ d, ItR wr F e.1 (encI e)
  ng : ¬ F g
theorem AtS.at_ {w0 wr : World} {g n cap : Nat} {F : Nat → Prop} {d : List ItC} (h : AtS w0 wr g n cap F d) {j : Nat} (hj : j < n) : ∃ hj' : j < d.length, w0.heap.size ≤ g ∧ g < wr.heap.size ∧ n ≤ cap ∧ cap ≤ maxLen ∧ wr.cell? ⟨g, j * 2, none⟩ = some d[j].2.1 ∧ wr.cell? ⟨g, j * 2 + 1, none⟩ = some d[j].2.2 ∧ ∀ i, wr.frozen? ⟨g, i, none⟩ = false := by
  have hj' : j < d.length := by rw [h.len]; exact hj
  obtain ⟨h1, h2⟩ := encI_get d j hj'
  have hlt := h.row.lt g rfl
  refine ⟨hj', hlt.1, hlt.2, ?_, ?_, ?_, ?_, fun i => h.row.frozenAt i⟩
  · rcases h.row.2 with ⟨e, _⟩ | ⟨_, _, _, e, _, _, hc, _⟩
    · cases e
    · injection e with _ _ e3; omega
  · rcases h.row.2 with ⟨e, _⟩ | ⟨_, _, _, e, _, _, _, hm, _⟩
    · cases e
    · injection e with _ _ e3; omega
  · rw [h.row.cellAt _ (by omega), h1]
  · rw [h.row.cellAt _ (by omega), h2]
theorem row_set {w0 wr : World} {g n cap : Nat} {xs : List Value} {u : Value} {i : Nat} (h : wr.ownsRow w0.heap.size TIt 2 (.slice (some ⟨g, 0, none⟩) n cap) n xs) (hi : i < n * 2) : (wr.setCell ⟨g, i, none⟩ u).ownsRow w0.heap.size TIt 2 (.slice (some ⟨g, 0, none⟩) n cap) n (xs.set i u) := by
  rcases h.2 with ⟨e, _⟩ | ⟨g', cap', cur, e, hb, hh, hc, hm, hs, ht⟩
  · cases e
  · injection e with e1 _ e3
    injection e1 with e1
    injection e1 with e1
    subst e1 e3
    have hb2 : Blk wr g TIt cur := hh
    refine ⟨by rw [List.length_set]; exact h.1, .inr ⟨g, cap, cur.setIfInBounds i u, rfl, hb, hb2.set_ i u, hc, hm, by simpa using hs, ?_⟩⟩
    rw [← ht]
    simp [List.take_set]
theorem AtS.set_ {w0 wr : World} {g n cap : Nat} {F : Nat → Prop} {d : List ItC} (h : AtS w0 wr g n cap F d) {j : Nat} (hj : j < n) {e : ItC} (he : ItR wr F e.1 (encI e)) : AtS w0 ((wr.setCell ⟨g, j * 2, none⟩ e.2.1).setCell ⟨g, j * 2 + 1, none⟩ e.2.2) g n cap F (d.set j e) := by
  have hjd : j < d.length := by rw [h.len]; exact hj
  have hk : ∀ q, F q → ((wr.setCell ⟨g, j * 2, none⟩ e.2.1).setCell ⟨g, j * 2 + 1, none⟩ e.2.2).heap[q]? = wr.heap[q]? := fun q hq => by
    have hne : q ≠ g := fun e => h.ng (e ▸ hq)
    exact (Below.heap_setCell _ ⟨g, j * 2 + 1, none⟩ _ _ hne).trans (Below.heap_setCell _ ⟨g, j * 2, none⟩ _ _ hne)
  have hr := row_set (u := e.2.2) (i := j * 2 + 1) (row_set (u := e.2.1) (i := j * 2) h.row (by omega)) (by omega)
  rw [encI_set d j e hjd] at hr
  refine ⟨hr, by rw [List.length_set]; exact h.len, fun x hx => ?_, h.ng⟩
  rcases List.mem_or_eq_of_mem_set hx with hx | rfl
  · exact ItR.keep (fun q hq _ => hk q hq) (fun q hq _ => hq) _ _ (h.it x hx)
  · exact ItR.keep (fun q hq _ => hk q hq) (fun q hq _ => hq) _ _ he
theorem AtS.keep {w0 wr w' : World} {g n cap : Nat} {F F' : Nat → Prop} {d : List ItC} (h : AtS w0 wr g n cap F d) (hg : w'.heap[g]? = wr.heap[g]?) (hk : ∀ q, F q → q < wr.heap.size → w'.heap[q]? = wr.heap[q]?) (hF : ∀ q, F q → q < wr.heap.size → F' q) (hn : ¬ F' g) : AtS w0 w' g n cap F' d :=
  ⟨row_keep h.row (fun j hj => by
    have h1 : some g = some j := hj
    injection h1 with h1
    subst h1
    exact hg), h.len, fun e he => ItR.keep hk hF _ _ (h.it e he), hn⟩
theorem AtS.of {w0 wr : World} {v : Value} {l : List It} (h : GrN ItR TIt 2 (fun _ => False) w0 wr v l) (hl : 0 < l.length) : ∃ g cap d, v = .slice (some ⟨g, 0, none⟩) l.length cap ∧ d.map Prod.fst = l ∧ AtS w0 wr g l.length cap (fun j => w0.heap.size ≤ j ∧ j < wr.heap.size ∧ j ≠ g) d := by
  obtain ⟨xs, h1, h2⟩ := h.row
  obtain ⟨d, e1, e2, e3⟩ := lr_it l xs h2
  rcases h1.2 with ⟨e, hz⟩ | ⟨g, cap, cur, e, hb, hh, hc, hm, hs, ht⟩
  · omega
  · refine ⟨g, cap, d, e, e1, ?_, by rw [← e1, List.length_map], fun x hx => ItR.keep (fun _ _ _ => rfl) (fun q hq _ => ?_) _ _ (e3 x hx), fun hF => hF.2.2 rfl⟩
    · rw [← e2, ← e]; exact h1
    · refine ⟨hq.1.elim (fun h => h.elim) id, hq.2.1, fun e' => hq.2.2 ?_⟩
      rw [e, e']
      rfl
theorem AtS.slk {w0 wr : World} {g n cap : Nat} {F : Nat → Prop} {d : List ItC} (h : AtS w0 wr g n cap F d) {j : Nat} (hj : j < n) : ∃ hj' : j < d.length, SLk 2 ItR wr (fun q => F q ∨ q = g) (.slice (some ⟨g, j * 2, none⟩) 1 (cap - j)) [d[j].1] := by
  obtain ⟨hj', h1, h2, h3, h4, c1, c2, _⟩ := h.at_ hj
  refine ⟨hj', some ⟨g, j * 2, none⟩, cap - j, encI d[j], rfl, ⟨by simp; omega, by omega⟩, ⟨rfl, fun _ => ⟨_, rfl, .inr rfl, fun q u hu => ?_⟩⟩, ⟨encI d[j], [], by simp, ItR.keep (fun _ _ _ => rfl) (fun q hq _ => .inl hq) _ _ (h.it _ (List.getElem_mem hj')), rfl⟩⟩
  rw [← add_plain ⟨g, j * 2, none⟩ q rfl]
  match q, hu with
  | 0, hu => simp [encI] at hu; subst hu; simpa using c1
  | 1, hu => simp [encI] at hu; subst hu; simpa using c2
theorem swap_perm {α : Type} (l : List α) (j k : Nat) (hj : j < l.length) (hk : k < l.length) : ((l.set j l[k]).set k l[j]).Perm l := List.set_set_perm hj hk
set_option maxRecDepth 100000 in
set_option maxHeartbeats 8000000 in
theorem lown_gr {w : World} {F : Nat → Prop} {vp : Value} {put : List It} (h1 : SLk 2 ItR w F vp put) (hlen : put.length ≤ 100000000) (hp : ∀ x ∈ put, x.k.length ≤ 1073741824 ∧ x.v.length ≤ 1073741824) :
    Calls Try.prog 15 #[vp] w fun e w' => ∃ v, e = .returned v ∧ GrN ItR TIt 2 (fun _ => False) w w' v put := by
  obtain ⟨i0, hi0, hz0, hz1, hz2⟩ := tit_inf
  obtain ⟨i1, hi1, hy0, hy1, hy2⟩ := info_parts u8_info
  have HI0 := hide hi0
  have HZ0 := hide hz0
  have HI1 := hide hi1
  have HY0 := hide hy0
  have H1 := hide h1
  have HP := hide hp
  obtain ⟨A1, c1, xs1, rfl, hc1, _⟩ := h1
  clear hi0 hz0 hi1 hy0 hp
  obtain ⟨n1, hn1⟩ : ∃ n, put.length = n := ⟨_, rfl⟩
  have HN1 := hide hn1
  rw [hn1] at H1 hc1 hlen ⊢
  clear hn1
  go_enter Try.func15, Try.ntmps15
  go_wp2_with fail
  go_loopw [3, 4] (fun vl vi wr => ∃ (j c : Nat) (A : Option Addr), vl = .slice A j c ∧ vi = .int .i64 (j : Int) ∧ j ≤ n1 ∧ Hid (GrN ItR TIt 2 (fun _ => False) w wr (.slice A j c) (put.take j))) (fun _ vi _ => n1 - (intOf vi).toNat)
  case atStart => exact ⟨0, 0, none, rfl, rfl, by omega, hide ⟨Below.refl _ _, [], World.ownsRow_nil _ _ _ _, rfl⟩⟩
  case round =>
    obtain ⟨j, c, A, rfl, rfl, hj, HG⟩ := hrel
    by_cases hlt : j < n1
    · have hj' : j < put.length := by rw [HN1.out]; exact hlt
      obtain ⟨b, o, A0, c0, B0, d0, rfl, hb, hF, k0, k1, hit⟩ := H1.out.at_it hj'
      have hx := HP.out put[j] (List.getElem_mem hj')
      have hTK := List.take_succ_eq_append_getElem hj'
      obtain ⟨y, hy⟩ : ∃ y, put[j] = y := ⟨_, rfl⟩
      rw [hy] at k0 k1 hx hTK hit
      have HTK := hide hTK
      clear hy hTK
      obtain ⟨kl, hkl⟩ : ∃ kl, y.k.length = kl := ⟨_, rfl⟩
      obtain ⟨vl0, hvl⟩ : ∃ vl, y.v.length = vl := ⟨_, rfl⟩
      have HKL := hide hkl
      have HVL := hide hvl
      rw [hkl, hvl] at hx
      rw [hkl] at k0 hit
      rw [hvl] at k1 hit
      obtain ⟨hx1, hx2⟩ := hx
      obtain ⟨a, a', e, hik, hiv⟩ := hit
      injection e with e1 e
      injection e with e2 _
      subst e1 e2
      have HK0 := hide k0
      have HK1 := hide k1
      have HIK := hide hik.all
      have HIV := hide hiv.all
      clear hkl hvl hik hiv k0 k1
      have hjm : j + 1 ≤ 9223372036854775807 := by omega
      obtain ⟨xs, hxo, hxl⟩ := HG.out.row
      have hll : (put.take j).length = j := by rw [List.length_take]; omega
      rw [hll] at hxo
      have HXO := hide hxo
      have HXL := hide hxl
      have HLL := hide hll
      clear hxo hxl hll
      have hjc : j < c1 := by omega
      go_upto_region 5 with fail
      refine wp_region_dagO (by kernel_rfl) (by kernel_rfl) 30 1
        [⟨some 11, [0, 1], [], [], [], [], fun _ _ v _ => v = .slice A j c⟩,
         ⟨some 12, [0], [], [], [], [], fun st a v w' => st = 0 → ∃ g, v = .slice (some ⟨g, 0, none⟩) 0 0⟩,
         ⟨some 13, [0, 1], [], [], [], [], fun _ _ v _ => v = .slice (some ⟨b, o, none⟩) n1 c1⟩,
         ⟨some 14, [0, 1], [], [], [], [], fun _ _ v _ => v = .int .i64 (j : Int)⟩,
         ⟨some 15, [0, 1], [], [], [2, 3], [], fun _ _ v _ => v = .pointer (some ⟨b, o + j * 2, none⟩)⟩,
         ⟨some 16, [0, 1], [], [], [4], [], fun _ _ v _ => v = .pointer (some ⟨b, o + j * 2, none⟩)⟩,
         ⟨some 17, [0], [], [], [5], [], fun _ _ v _ => v = .slice A0 kl c0⟩,
         ⟨some 18, [0], [], [], [1, 6], [], fun st a v w' => st = 0 → BS w' (fun j => wr.heap.size ≤ j ∧ j < w'.heap.size) v y.k⟩,
         ⟨some 19, [0], [], [], [], [], fun st a v w' => st = 0 → ∃ g, v = .slice (some ⟨g, 0, none⟩) 0 0⟩,
         ⟨some 20, [0, 1], [], [], [], [], fun _ _ v _ => v = .slice (some ⟨b, o, none⟩) n1 c1⟩,
         ⟨some 21, [0, 1], [], [], [], [], fun _ _ v _ => v = .int .i64 (j : Int)⟩,
         ⟨some 22, [0, 1], [], [], [9, 10], [], fun _ _ v _ => v = .pointer (some ⟨b, o + j * 2, none⟩)⟩,
         ⟨some 23, [0, 1], [], [], [11], [], fun _ _ v _ => v = .pointer (some ⟨b, o + j * 2 + 1, none⟩)⟩,
         ⟨some 24, [0], [], [], [12], [], fun _ _ v _ => v = .slice B0 vl0 d0⟩,
         ⟨some 25, [0], [], [], [8, 13], [], fun st a v w' => st = 0 → BS w' (fun j => wr.heap.size ≤ j ∧ j < w'.heap.size) v y.v⟩,
         ⟨some 26, [0], [], [], [7, 14], [], fun st a v w' => st = 0 → ∃ vk vv, v = .agg #[vk, vv] ∧ ItR w' (fun j => wr.heap.size ≤ j ∧ j < w'.heap.size) y [vk, vv]⟩,
         ⟨some 27, [0], [], [], [15], [], fun st a v w' => st = 0 → ∃ g vk vv, v = .slice (some ⟨g, 0, none⟩) 1 1 ∧ Blk w' g TIt #[vk, vv] ∧ ItR w' (fun j => wr.heap.size ≤ j ∧ j < w'.heap.size) y [vk, vv]⟩,
         ⟨some 28, [0], [(0, 1)], [1], [0, 16], [], fun st a v w' => 1 ≤ st ∧ (∃ B d, v = .slice B (j + 1) d) ∧ GrN ItR TIt 2 (fun _ => False) w w' v (put.take j ++ [y])⟩,
         ⟨some 3, [1], [], [], [17], [], fun st a v w' => 1 ≤ st ∧ (∃ B d, v = .slice B (j + 1) d) ∧ GrN ItR TIt 2 (fun _ => False) w w' v (put.take j ++ [y])⟩] (G5 w wr) (fun s s' _ _ _ => s = 0 ∧ s' = 1) (fun _ w w' => Below w.heap.size w w') ?gu ?ru ?put [11, 12, 13, 14, 15, 16, 17, 18, 19, 20, 21, 22, 23, 24, 25, 26, 27, 28, 3] rfl (by kernel_rfl) rfl ?g0 ?keep ?steps ?fin
      case ru =>
        intro e he s a v w w' hu hv
        simp only [List.mem_cons, List.not_mem_nil, or_false] at he
        rcases he with rfl | rfl | rfl | rfl | rfl | rfl | rfl | rfl | rfl | rfl | rfl | rfl | rfl | rfl | rfl | rfl | rfl | rfl | rfl
        all_goals first | exact hv | (intro h0; exact hv h0) | (intro h0; exact (hv h0).fresh2 hu) | (intro h0; obtain ⟨a1, a2, e, h⟩ := hv h0; exact ⟨a1, a2, e, ItR.keep (fun j hj _ => hu.block j hj.2) (fun j hj _ => ⟨hj.1, by have := hu.size; omega⟩) _ _ h⟩) | (intro h0; obtain ⟨g, a1, a2, e, hb, h⟩ := hv h0; exact ⟨g, a1, a2, e, hb.below hu hb.lt, ItR.keep (fun j hj _ => hu.block j hj.2) (fun j hj _ => ⟨hj.1, by have := hu.size; omega⟩) _ _ h⟩) | (obtain ⟨h0, h1, h2⟩ := hv; exact ⟨h0, h1, h2.below @ItR.keep hu⟩)
      case put =>
        intro e he s a d u v w hnd hv
        simp only [List.mem_cons, List.not_mem_nil, or_false] at he
        rcases he with rfl | rfl | rfl | rfl | rfl | rfl | rfl | rfl | rfl | rfl | rfl | rfl | rfl | rfl | rfl | rfl | rfl | rfl | rfl
        all_goals first | exact hv
      case keep =>
        intro e he s s' a v w w' hsl hm ht hv
        simp only [List.mem_cons, List.not_mem_nil, or_false] at he
        rcases he with rfl | rfl | rfl | rfl | rfl | rfl | rfl | rfl | rfl | rfl | rfl | rfl | rfl | rfl | rfl | rfl | rfl | rfl | rfl
        all_goals first | exact hv | (intro h3; exfalso; have := ht.2; omega) | (exfalso; have := hv.1; have := ht.1; omega)
      case steps =>
        refine ⟨?_, ?_, ?_, ?_, ?_, ?_, ?_, ?_, ?_, ?_, ?_, ?_, ?_, ?_, ?_, ?_, ?_, ?_, ?_, trivial⟩
        · intro st hst ac w3 hg hG hd ho K hK
          dsimp only at hst hG hK
          exact op_move _ rfl (hK _ _ (Below.refl _ _) (ho 18 _ rfl (by decide) (by kernel_rfl) 3 rfl))
        · intro st hst ac w3 hg hG hd ho K hK
          dsimp only at hst hG hK
          clear hG
          go_simp
          exact hK _ _ (al_below w3 _) (fun _ => ⟨_, rfl⟩)
        · intro st hst ac w3 hg hG hd ho K hK
          dsimp only at hst hG hK
          exact op_move _ rfl (hK _ _ (Below.refl _ _) (hg.kp 0 (by simp)))
        · intro st hst ac w3 hg hG hd ho K hK
          dsimp only at hst hG hK
          exact op_move _ rfl (hK _ _ (Below.refl _ _) (hg.kp 4 (by simp)))
        · intro st hst ac w3 hg hG hd ho K hK
          dsimp only at hst hG hK
          have f2 := hd 2 (by simp) _ rfl _ rfl
          have f3 := hd 3 (by simp) _ rfl _ rfl
          (try simp [Act.eval] at f2)
          (try simp [Act.eval] at f3)
          go_simp
          exact hK _ _ (Below.refl _ _) rfl
        · intro st hst ac w3 hg hG hd ho K hK
          dsimp only at hst hG hK
          have f4 := hd 4 (by simp) _ rfl _ rfl
          (try simp [Act.eval] at f4)
          go_simp
          exact hK _ _ (Below.refl _ _) rfl
        · intro st hst ac w3 hg hG hd ho K hK
          dsimp only at hst hG hK
          simp only [List.mem_cons, List.not_mem_nil, or_false] at hst
          subst hst
          have kk := ((HG.out.bel.trans ((hG.2 rfl).mono HG.out.bel.size)).cell (p := ⟨b, o + j * 2, none⟩) hb).trans HK0.out
          have zz := Nat.lt_of_lt_of_le hb hG.1.size
          clear hG
          have f5 := hd 5 (by simp) _ rfl _ rfl
          (try simp [Act.eval] at f5)
          go_simp
          exact hK _ _ (Below.refl _ _) rfl
        · intro st hst ac w3 hg hG hd ho K hK
          dsimp only at hst hG hK
          simp only [List.mem_cons, List.not_mem_nil, or_false] at hst
          subst hst
          obtain ⟨g, f1⟩ := hd 1 (by simp) _ rfl _ rfl rfl
          have f6 := hd 6 (by simp) _ rfl _ rfl
          have hk := HIK.out.later (HG.out.bel.trans ((hG.2 rfl).mono HG.out.bel.size))
          obtain ⟨A9, c9, e9, _, hr9⟩ := hk
          injection e9 with e9 e10 e11
          subst e9 e11
          refine wp_append_lit w3 (.tmp 12) (.tmp 17) 38 rfl T8 i1 _ 1 1 Try.underlying38 HI1.out HY0.out hy1 hy2 rfl (by omega) ⟨g, 0, none⟩ f1 A0 kl c0 (cs8 y.k) f6 (HKL.out ▸ hr9.reads (fun _ h => h)) (cs8_one _) (by unfold maxLen; omega) (by omega) ?_
          intro v' w' ho hbw
          exact hK _ _ hbw (fun _ => (BS.lit (g := ⟨g, 0, none⟩) (HKL.out.symm ▸ ho)).fresh (hG.2 rfl).size)
        · intro st hst ac w3 hg hG hd ho K hK
          dsimp only at hst hG hK
          clear hG
          go_simp
          exact hK _ _ (al_below w3 _) (fun _ => ⟨_, rfl⟩)
        · intro st hst ac w3 hg hG hd ho K hK
          dsimp only at hst hG hK
          exact op_move _ rfl (hK _ _ (Below.refl _ _) (hg.kp 0 (by simp)))
        · intro st hst ac w3 hg hG hd ho K hK
          dsimp only at hst hG hK
          exact op_move _ rfl (hK _ _ (Below.refl _ _) (hg.kp 4 (by simp)))
        · intro st hst ac w3 hg hG hd ho K hK
          dsimp only at hst hG hK
          have f9 := hd 9 (by simp) _ rfl _ rfl
          have f10 := hd 10 (by simp) _ rfl _ rfl
          (try simp [Act.eval] at f9)
          (try simp [Act.eval] at f10)
          go_simp
          exact hK _ _ (Below.refl _ _) rfl
        · intro st hst ac w3 hg hG hd ho K hK
          dsimp only at hst hG hK
          have f11 := hd 11 (by simp) _ rfl _ rfl
          (try simp [Act.eval] at f11)
          go_simp
          exact hK _ _ (Below.refl _ _) rfl
        · intro st hst ac w3 hg hG hd ho K hK
          dsimp only at hst hG hK
          simp only [List.mem_cons, List.not_mem_nil, or_false] at hst
          subst hst
          have kk := ((HG.out.bel.trans ((hG.2 rfl).mono HG.out.bel.size)).cell (p := ⟨b, o + j * 2 + 1, none⟩) hb).trans HK1.out
          have zz := Nat.lt_of_lt_of_le hb hG.1.size
          clear hG
          have f12 := hd 12 (by simp) _ rfl _ rfl
          (try simp [Act.eval] at f12)
          go_simp
          exact hK _ _ (Below.refl _ _) rfl
        · intro st hst ac w3 hg hG hd ho K hK
          dsimp only at hst hG hK
          simp only [List.mem_cons, List.not_mem_nil, or_false] at hst
          subst hst
          obtain ⟨g, f8⟩ := hd 8 (by simp) _ rfl _ rfl rfl
          have f13 := hd 13 (by simp) _ rfl _ rfl
          have hk := HIV.out.later (HG.out.bel.trans ((hG.2 rfl).mono HG.out.bel.size))
          obtain ⟨A9, c9, e9, _, hr9⟩ := hk
          injection e9 with e9 e10 e11
          subst e9 e11
          refine wp_append_lit w3 (.tmp 19) (.tmp 24) 38 rfl T8 i1 _ 1 1 Try.underlying38 HI1.out HY0.out hy1 hy2 rfl (by omega) ⟨g, 0, none⟩ f8 B0 vl0 d0 (cs8 y.v) f13 (HVL.out ▸ hr9.reads (fun _ h => h)) (cs8_one _) (by unfold maxLen; omega) (by omega) ?_
          intro v' w' ho hbw
          exact hK _ _ hbw (fun _ => (BS.lit (g := ⟨g, 0, none⟩) (HVL.out.symm ▸ ho)).fresh (hG.2 rfl).size)
        · intro st hst ac w3 hg hG hd ho K hK
          dsimp only at hst hG hK
          simp only [List.mem_cons, List.not_mem_nil, or_false] at hst
          subst hst
          have g3 := hd 7 (by simp) _ rfl _ rfl rfl
          have g6 := hd 14 (by simp) _ rfl _ rfl rfl
          obtain ⟨v3, hv3⟩ : ∃ v3, ac.eval (.tmp 18) = v3 := ⟨_, rfl⟩
          obtain ⟨v6, hv6⟩ : ∃ v6, ac.eval (.tmp 25) = v6 := ⟨_, rfl⟩
          rw [hv3] at g3
          rw [hv6] at g6
          have HCH := hide (show ItR w3 (fun j => wr.heap.size ≤ j ∧ j < w3.heap.size) y [v3, v6] from ⟨v3, v6, rfl, g3, g6⟩)
          obtain ⟨A3, c3, rfl, _⟩ := g3
          obtain ⟨A6, c6, rfl, _⟩ := g6
          clear hG
          simp [Act.eval] at hv3 hv6
          go_simp
          exact hK _ _ (Below.refl _ _) (fun _ => ⟨_, _, rfl, HCH.out⟩)
        · intro st hst ac w3 hg hG hd ho K hK
          dsimp only at hst hG hK
          simp only [List.mem_cons, List.not_mem_nil, or_false] at hst
          subst hst
          obtain ⟨vk, vv, f8, hch⟩ := hd 15 (by simp) _ rfl _ rfl rfl
          have hch' := hch
          obtain ⟨_, _, e, ⟨A3, c3, e1, _⟩, ⟨A6, c6, e2, _⟩⟩ := hch'
          (injection e with e3 e; injection e with e4 _)
          subst e3 e4 e1 e2
          simp [Act.eval] at f8
          have HCH := hide hch
          clear hG hch
          go_simp
          exact hK _ _ (al_below w3 _) (fun _ => ⟨_, _, _, rfl, Blk.new _ _ _, ItR.keep (fun j hj _ => (al_below w3 _).block j hj.2) (fun j hj _ => ⟨hj.1, by simp; omega⟩) _ _ HCH.out⟩)
        · intro st st' hmv ac w3 hg hG hd ho K hK
          simp only [List.mem_cons, Prod.mk.injEq, List.not_mem_nil, or_false] at hmv
          obtain ⟨rfl, rfl⟩ := hmv
          dsimp only at hG hK
          have f0 := hd 0 (by simp) _ rfl _ rfl
          obtain ⟨gl, vk, vv, f9, hbl, hch⟩ := hd 16 (by simp) _ rfl _ rfl rfl
          refine wp_append_any w3 (.tmp 11) (.tmp 27) 32 rfl w.heap.size TIt i0 _ 2 48 Try.underlying32 HI0.out HZ0.out hz1 hz2 rfl (by omega) (.slice A j c) j xs f0 (own_later HXO.out (hG.2 rfl)) w3.heap.size (some ⟨gl, 0, none⟩) 1 1 [vk, vv] f9 (reads_blk hbl rfl rfl) (by obtain ⟨_, _, e, ⟨_, _, ea, _⟩, ⟨_, _, eb, _⟩⟩ := hch; injection e with e1 e; injection e with e2 _; intro u hu; simp at hu; rcases hu with rfl | rfl; (rw [e1, ea]; rfl); (rw [e2, eb]; rfl)) (by unfold maxLen; omega) (by omega) hG.1.size ?_
          intro v' w' ho hgb hoo
          exact hK _ _ ⟨rfl, rfl⟩ ⟨hG.1.grown hgb hG.1.size (fun k hk => (HXO.out.lt k hk).1), fun e => by omega⟩ ⟨Nat.le_refl _, by obtain ⟨B, d, e, _⟩ := own_slice ho; exact ⟨B, d, e⟩, GrN.push @ItR.keep (fun j hj => hj.elim) HG.out (hG.2 rfl) ⟨by rw [HLL.out]; exact HXO.out, HXL.out⟩ (ItR.keep (fun _ _ _ => rfl) (fun j hj _ => ⟨.inr hj.1, hj.2⟩) _ _ hch) (by rw [HLL.out]; exact ho) hgb hoo⟩
        · intro st hst ac w3 hg hG hd ho K hK
          dsimp only at hst hG hK
          exact op_assign _ rfl (hK _ _ (Below.refl _ _) (hd 17 (by simp) _ rfl _ rfl))
      case gu => intro s w1 w2 hG hu; exact ⟨hG.1.trans (hu.mono hG.1.size), fun e => (hG.2 e).trans (hu.mono (hG.2 e).size)⟩
      case g0 => exact ⟨HG.out.bel.drew, fun _ => (Below.refl _ _).drew⟩
      case fin =>
        intro f9 w9 hG hall
        obtain ⟨_, ⟨B9, d9, h9⟩, hch⟩ := hall _ (List.mem_of_getElem? (i := 18) rfl) 3 rfl
        clear hall hG
        simp only [fillF, List.map_cons, List.map_nil, List.foldl_cons, List.foldl_nil, Act.put, List.setIfInBounds_toArray, List.set_cons_zero, List.set_cons_succ]
        rw [h9] at hch ⊢
        have HCH := hide hch
        clear hch h9
        go_wp2_with fail
        refine ⟨⟨j + 1, d9, B9, rfl, by push_cast; rfl, by omega, hide (by rw [HTK.out]; exact HCH.out)⟩, ?_⟩
        simp [intOf]
        omega
    · obtain rfl : n1 = j := by omega
      have HG1 := hide (show GrN ItR TIt 2 (fun _ => False) w wr (.slice A n1 c) put from by have := HG.out; rwa [← HN1.out, List.take_length, HN1.out] at this)
      go_wp2_with fail
      go_ret
      exact ⟨_, rfl, HG1.out⟩
end Go.Proofs.Ytkolacaceaamoaa
/- The law TreeSame: what its walk is told by. -/
namespace Go.Proofs.Ytkolacaceaamoaa
set_option linter.unusedSimpArgs false
set_option linter.unusedVariables false
open Go.RowKit
open Go.Lib (compareBytes)
theorem NlS.put {w wr w' : World} {c : Pct} {tb : Nat} {m m' : Pst} (h : NlS w c tb m wr) (hp : PgS w' c m') (hf : Fr (PF m.F c.pb c.sb) wr w') (hn : ∀ j, PF m'.F c.pb c.sb j → PF m.F c.pb c.sb j ∨ wr.heap.size ≤ j) : NlS w c tb m' w' :=
  ⟨hp, hf.blk h.tr h.nt, fun e => (hn _ e).elim h.nt (fun q => by have := h.tr.lt; omega), fun j hj => (hn j hj).elim (h.pl j) (fun q => Nat.le_trans h.bel.size q), h.tl, h.bel.trans (hf.below h.bel.size h.pl)⟩
theorem FrT.nls {w w1 : World} {n tb : Nat} {c : Pct} {m : Pst} (h : FrT w n tb c m w1) : NlS w c tb m w1 := ⟨h.pg, h.tr, h.nt, h.pl, h.tl, h.bel⟩
/-- The row `at`. -/
def AtQ (w3 w4 wr : World) (A : Option Addr) (n cc : Nat) (put : List It) : Prop :=
  n = put.length ∧ (0 < n → ∃ g d, A = some ⟨g, 0, none⟩ ∧ (d.map Prod.fst).Perm put ∧ AtS w3 wr g n cc (fun j => w3.heap.size ≤ j ∧ j < w4.heap.size ∧ j ≠ g) d)
theorem AtQ.keep {w3 w4 wr w' : World} {A : Option Addr} {n cc : Nat} {put : List It} (h : AtQ w3 w4 wr A n cc put) (hk : ∀ q, w3.heap.size ≤ q → q < w4.heap.size → w'.heap[q]? = wr.heap[q]?) (hg : ∀ g, A = some ⟨g, 0, none⟩ → g < w4.heap.size) : AtQ w3 w4 w' A n cc put :=
  ⟨h.1, fun h0 => by
    obtain ⟨g, d, e, hp, hs⟩ := h.2 h0
    have := (hs.at_ h0).2.1
    exact ⟨g, d, e, hp, hs.keep (hk g this (hg g e)) (fun q hq _ => hk q hq.1 hq.2.1) (fun q hq _ => hq) hs.ng⟩⟩
theorem valOf_snoc {l : List It} {x : It} (h : ∀ i ∈ l, i.k ≠ x.k) (key : Cn) : valOf (l ++ [x]) key = if x.k = key then some x.v else valOf l key := by
  rw [valOf_append]
  by_cases hk : x.k = key
  · subst hk
    rw [if_pos rfl, valOf_none h]
    simp [valOf]
  · rw [if_neg hk]
    have : valOf [x] key = none := by
      rw [valOf_cons, if_neg hk]
      rfl
    rw [this]
    cases valOf l key <;> rfl
theorem ItR.form {w : World} {F : Nat → Prop} {x : It} {v1 v2 : Value} (h : ItR w F x [v1, v2]) : ∃ A1 c1 A2 c2, v1 = .slice A1 x.k.length c1 ∧ v2 = .slice A2 x.v.length c2 := by
  obtain ⟨a, b, e, ⟨A1, c1, e1, _⟩, ⟨A2, c2, e2, _⟩⟩ := h
  obtain ⟨q1, q2⟩ := List.cons.inj e
  obtain ⟨q2, _⟩ := List.cons.inj q2
  exact ⟨A1, c1, A2, c2, q1.trans e1, q2.trans e2⟩
theorem tmod_nat (i n : Nat) : Int.tmod (i : Int) (n : Int) = ((i % n : Nat) : Int) := by
  rw [Int.ofNat_tmod]
end Go.Proofs.Ytkolacaceaamoaa
/- The law TreeSame: its end. -/
namespace Go.Proofs.Ytkolacaceaamoaa
set_option linter.unusedSimpArgs false
set_option linter.unusedVariables false
open Go.RowKit
open Go.Lib (compareBytes)
/-- TreeSame, from its k-th statement on. -/
noncomputable def BT (k : Nat) : Code := dropS' k ((Try.f5.body).getD .skip)
noncomputable def CT (k : Nat) : Code := match BT k with
  | .seq a _ => a
  | c => c
theorem bs_nilv (w : World) (F : Nat → Prop) : BS w F (.slice none 0 0) [] := ⟨none, 0, rfl, ⟨Nat.le_refl _, Nat.zero_le _⟩, RF.nil _⟩
theorem TreH.sc {c : Pct} {m : Pst} {r a q0 : Nat} {is : List It} (h : TreH c m r is a q0) (ha : a ≤ 32) : ScT c m r is := by
  obtain ⟨h1, h2 | ⟨k, h2, h3⟩⟩ := h
  · exact ⟨h1, .inl h2⟩
  · exact ⟨h1, .inr ⟨k, by rcases h3 with h3 | h3 <;> omega, h2.trP⟩⟩
theorem eqIt_self (l : List It) : eqIt l l = true := (eqIt_iff l l).2 rfl
def ScE (w : World) (c : Pct) (tb ra : Nat) (ea : Int) (rb n : Nat) (wr : World) : Prop := ∃ m, NlS w c tb m wr ∧ (ea = 16 ∨ (ea = 0 ∧ ∃ l : List It, l.length = n ∧ ScT c m ra l ∧ ScT c m rb l))
section
variable {A1 : Option Addr} {n1 c1 tb ra rb : Nat} {ea : Int} {c : Pct} {w wr : World}
set_option maxRecDepth 100000 in
set_option maxHeartbeats 8000000 in
theorem same_end (hs : ScE w c tb ra ea rb n1 wr) (hn : n1 ≤ 80)
    (u1 u2 u3 u4 u6 u7 u8 u9 u10 u11 u15 u16 u17 u18 u19 u20 u21 u22 u23 u24 u25 u26 u27 u28 u29 u30 u31 u32 u33 u34 u35 u36 u37 u38 u39 u40 u41 u42 u43 u44 u45 u46 u47 u48 u49 u50 u51 u52 u53 u54 u55 u56 u57 u58 u59 u60 u61 u62 u63 u64 u65 u66 u67 u68 u69 u70 u71 u72 u73 u74 u75 u76 u77 u78 u79 u80 u81 u82 u83 u84 u85 u86 u87 u88 u89 u90 u91 u92 u93 u94 u95 u96 u97 u98 u99 u100 u101 u102 u103 u104 u105 u106 u107 u108 u109 u110 u111 u112 u113 u114 u115 u116 u117 u118 u119 u120 u121 u122 u123 u124 u125 u126 u127 u128 u129 u130 u131 u132 u133 u134 u135 u136 u137 u138 u139 u140 u141 u142 u143 u144 u145 u146 u147 u148 u149 u150 u151 u152 u153 : Value) : Code.wp Try.prog (BT 8) (bodyPost Try.prog Try.f5 fun e w' => e = .returned (.bool true) ∧ Below w.heap.size w w') { tmps := #[.slice A1 n1 c1, u1, u2, u3, u4, .pointer (some ⟨tb, 0, none⟩), u6, u7, u8, u9, u10, u11, .int .i64 (ra : Int), .int .i64 ea, .int .i64 (rb : Int), u15, u16, u17, u18, u19, u20, u21, u22, u23, u24, u25, u26, u27, u28, u29, u30, u31, u32, u33, u34, u35, u36, u37, u38, u39, u40, u41, u42, u43, u44, u45, u46, u47, u48, u49, u50, u51, u52, u53, u54, u55, u56, u57, u58, u59, u60, u61, u62, u63, u64, u65, u66, u67, u68, u69, u70, u71, u72, u73, u74, u75, u76, u77, u78, u79, u80, u81, u82, u83, u84, u85, u86, u87, u88, u89, u90, u91, u92, u93, u94, u95, u96, u97, u98, u99, u100, u101, u102, u103, u104, u105, u106, u107, u108, u109, u110, u111, u112, u113, u114, u115, u116, u117, u118, u119, u120, u121, u122, u123, u124, u125, u126, u127, u128, u129, u130, u131, u132, u133, u134, u135, u136, u137, u138, u139, u140, u141, u142, u143, u144, u145, u146, u147, u148, u149, u150, u151, u152, u153], defers := [] } wr := by
  obtain ⟨m, hN, rfl | ⟨rfl, l, hl, ha, hb⟩⟩ := hs
  · have HN := hide hN
    clear hN
    rw [show BT 8 = Code.seq (CT 8) (BT 9) from rfl]
    conv => arg 2; arg 1; whnf
    go_wp2_with fail
    go_ret
    exact ⟨rfl, HN.out.bel⟩
  · have HN := hide hN
    have HA := hide ha
    have HB := hide hb
    have HL := hide hl
    clear hN ha hb hl
    rw [show BT 8 = Code.seq (CT 8) (Code.seq (CT 9) (Code.seq (CT 10) (BT 11))) from rfl]
    conv => arg 2; arg 1; whnf
    conv => arg 2; arg 2; arg 1; whnf
    conv => arg 2; arg 2; arg 2; arg 1; whnf
    conv => arg 2; arg 2; arg 2; arg 2; whnf
    have h1 := tscan_ok (te := []) (fr := []) (most := 1000) HN.out.pg HN.out.tr HN.out.nt (bs_nilv _ _) (bs_nilv _ _) (by omega) HA.out (by rw [HL.out]; omega)
    rw [goL_all l [] (by rw [HL.out]; simp; omega)] at h1
    have HS1 := hide h1
    clear h1
    go_upto_region 24 with (go_at_call 10; (refine HS1.out.mono ?_); rintro e w2 ⟨A, cc, rfl, hla, hp, hf⟩; have HLA := hide hla; have HN2 := hide (HN.out.got hp hf); clear hla hp hf)
    simp only [List.nil_append, HL.out] at HLA ⊢
    have h2 := tscan_ok (te := []) (fr := []) (most := 1000) HN2.out.pg HN2.out.tr HN2.out.nt (bs_nilv _ _) (bs_nilv _ _) (by omega) HB.out (by rw [HL.out]; omega)
    rw [goL_all l [] (by rw [HL.out]; simp; omega)] at h2
    have HS2 := hide h2
    clear h2
    go_upto_region 25 with (go_at_call 10; (refine HS2.out.mono ?_); rintro e w3 ⟨B, cd, rfl, hlb, hp, hf⟩; have HLB := hide hlb; have HN3 := hide (HN2.out.got hp hf); have HF3 := hide hf; clear hlb hp hf)
    simp only [List.nil_append, HL.out] at HLB ⊢
    have hla2 : SLk 2 ItR w3 (fun j => j < w3.heap.size) (.slice A n1 cc) l := SLk.keep (by omega) @ItR.keep (fun j hj hlt => HF3.out.block j hlt hj.2) (fun j hj hlt => Nat.lt_of_lt_of_le hlt HF3.out.size) HLA.out
    have hlb2 : SLk 2 ItR w3 (fun j => j < w3.heap.size) (.slice B n1 cd) l := SLk.keep (by omega) @ItR.keep (fun j hj hlt => rfl) (fun j hj hlt => hlt) HLB.out
    have h3 := same17 hla2 hlb2 (by rw [HL.out]; omega) (by rw [HL.out]; omega)
    rw [eqIt_self] at h3
    have HS3 := hide h3
    clear h3 hla2 hlb2
    go_wp2_with (go_at_call 11; (refine HS3.out.mono ?_); rintro e w4 ⟨rfl, n, rfl⟩)
    go_ret
    refine ⟨rfl, HN3.out.bel.trans ⟨rfl, rfl, rfl, Nat.le_refl _, fun _ _ => rfl⟩⟩
end
end Go.Proofs.Ytkolacaceaamoaa
/- The law TreeSame: from its first Put on. -/
namespace Go.Proofs.Ytkolacaceaamoaa
set_option linter.unusedSimpArgs false
set_option linter.unusedVariables false
open Go.RowKit
open Go.Lib (compareBytes)
theorem chs_flat : ∀ put : List It, (put.map (fun x => (⟨x.k, x.v, false⟩ : Ch))).flatMap Ch.item = put
  | [] => rfl
  | x :: r => by
    rw [List.map_cons, List.flatMap_cons, chs_flat r]
    simp [Ch.item]
theorem merge_perm {put : List It} {l : List Ch} (hp : l.Perm (chs put [])) : (mergeC [] l).Perm put := by
  rw [mergeC_nil]
  have h := hp.flatMap_right Ch.item
  unfold chs at h
  rwa [List.map_nil, List.append_nil, chs_flat] at h
theorem one_list {x : It} {l : List Ch} (hp : l.Perm (chs [x] [])) : l = [⟨x.k, x.v, false⟩] := by
  unfold chs at hp
  simpa using hp
theorem fitsP.one {put : List It} (h : fitsP put []) {x : It} (hx : x ∈ put) : fitsP [x] [] := by
  refine ⟨fun y hy => ?_, fun k hk => h.2.1 k ?_, ?_⟩
  · rw [List.mem_singleton.1 hy]; exact h.1 x hx
  · unfold keysOf at hk ⊢
    rw [List.append_nil] at hk ⊢
    rw [List.map_cons, List.map_nil] at hk
    rw [List.mem_singleton.1 hk]
    exact List.mem_map_of_mem (f := It.k) hx
  · unfold keysOf
    simp
theorem fitsP.nodup {put : List It} (h : fitsP put []) : (put.map It.k).Nodup := by
  have := h.2.2
  unfold keysOf at this
  rwa [List.append_nil] at this
theorem chOf_one (c : Ch) (key : Cn) : chOf [c] key = if c.k = key then some c else none := by
  rw [chOf_cons]
  rfl
/-- One more item. -/
theorem merge_snoc {lb pt : List It} {x : It} (hr : RiseI lb) (h : ∀ key, valOf lb key = valOf pt key) (hx : ∀ i ∈ pt, i.k ≠ x.k) (key : Cn) : valOf (mergeC lb [⟨x.k, x.v, false⟩]) key = valOf (pt ++ [x]) key := by
  rw [(mergeC_law lb [⟨x.k, x.v, false⟩] hr (List.pairwise_singleton _ _)).2 key, valOf_snoc hx]
  unfold askC
  rw [chOf_one]
  by_cases hk : x.k = key
  · simp [hk]
  · simp [hk, h key]
def AtP (w3 w4 wr : World) (A : Option Addr) (n cc : Nat) (pl : List It) : Prop :=
  n = pl.length ∧ (0 < n → ∃ g d, A = some ⟨g, 0, none⟩ ∧ w3.heap.size ≤ g ∧ g < w4.heap.size ∧ d.map Prod.fst = pl ∧ AtS w3 wr g n cc (fun j => w3.heap.size ≤ j ∧ j < w4.heap.size ∧ j ≠ g) d)
theorem AtQ.p {w3 w4 wr : World} {A : Option Addr} {n cc : Nat} {put : List It} (h : AtQ w3 w4 wr A n cc put) (hg : ∀ g, A = some ⟨g, 0, none⟩ → w3.heap.size ≤ g ∧ g < w4.heap.size) : ∃ pl, pl.Perm put ∧ AtP w3 w4 wr A n cc pl := by
  by_cases h0 : 0 < n
  · obtain ⟨g, d, e, hp, hs⟩ := h.2 h0
    exact ⟨_, hp, by rw [List.length_map]; exact hs.len.symm, fun _ => ⟨g, d, e, (hg g e).1, (hg g e).2, rfl, hs⟩⟩
  · have : put = [] := List.length_eq_zero_iff.1 (by have := h.1; omega)
    exact ⟨put, List.Perm.refl _, h.1, fun q => absurd q h0⟩
theorem AtP.keep {w3 w4 wr w' : World} {A : Option Addr} {n cc : Nat} {pl : List It} (h : AtP w3 w4 wr A n cc pl) (hk : ∀ q, w3.heap.size ≤ q → q < w4.heap.size → w'.heap[q]? = wr.heap[q]?) : AtP w3 w4 w' A n cc pl :=
  ⟨h.1, fun h0 => by
    obtain ⟨g, d, e, h1, h2, hp, hs⟩ := h.2 h0
    exact ⟨g, d, e, h1, h2, hp, hs.keep (hk g h1 h2) (fun q hq _ => hk q hq.1 hq.2.1) (fun q hq _ => hq) hs.ng⟩⟩
structure SmB (w w3 w4 : World) (c : Pct) (tb : Nat) (A : Option Addr) (n cc : Nat) (pl : List It) (m : Pst) (wr : World) : Prop where
  nl : NlS w c tb m wr
  sz : w4.heap.size ≤ wr.heap.size
  pf : ∀ j, PF m.F c.pb c.sb j → j < w3.heap.size ∨ w4.heap.size ≤ j
  at_ : AtP w3 w4 wr A n cc pl
section
variable {w w3 w4 wr w' : World} {c : Pct} {tb : Nat} {A : Option Addr} {n cc : Nat} {pl : List It} {m m' : Pst}
theorem SmB.below (h : SmB w w3 w4 c tb A n cc pl m wr) (hb : Below wr.heap.size wr w') : SmB w w3 w4 c tb A n cc pl m w' :=
  ⟨h.nl.below hb, Nat.le_trans h.sz hb.size, h.pf, h.at_.keep fun q _ hq => hb.block q (Nat.lt_of_lt_of_le hq h.sz)⟩
theorem SmB.put (h : SmB w w3 w4 c tb A n cc pl m wr) (hp : PgS w' c m') (hf : Fr (PF m.F c.pb c.sb) wr w') (hn : ∀ j, PF m'.F c.pb c.sb j → PF m.F c.pb c.sb j ∨ wr.heap.size ≤ j) : SmB w w3 w4 c tb A n cc pl m' w' :=
  ⟨h.nl.put hp hf hn, Nat.le_trans h.sz hf.size, fun j hj => (hn j hj).elim (h.pf j) (fun q => .inr (Nat.le_trans h.sz q)), h.at_.keep fun q h1 h2 => hf.block q (Nat.lt_of_lt_of_le h2 h.sz) (fun q => by have := h.pf _ q; omega)⟩
end
def SmA (c : Pct) (n : Nat) (pl : List It) (ra : Nat) (ea : Int) (m : Pst) : Prop := ea = 16 ∨ (ea = 0 ∧ ∃ la, la.length = n ∧ TreH c m ra la 2 25 ∧ ∀ key, valOf la key = valOf pl key)
theorem SmA.keep {c : Pct} {n : Nat} {pl : List It} {ra : Nat} {ea : Int} {m m' : Pst} {T : List Nat} (h : SmA c n pl ra ea m) (hg : Grew c m m' T) : SmA c n pl ra ea m' := by
  rcases h with h | ⟨h, la, h1, h2, h3⟩
  · exact .inl h
  · exact .inr ⟨h, la, h1, h2.keep hg, h3⟩
def SmL (w w3 w4 : World) (c : Pct) (tb : Nat) (A : Option Addr) (n cc : Nat) (pl : List It) (ra : Nat) (ea : Int) (i rb : Nat) (wr : World) : Prop :=
  ∃ m, SmB w w3 w4 c tb A n cc pl m wr ∧ m.N ≤ 6000000 * (i + 1) ∧ SmA c n pl ra ea m ∧ ∃ lb, Tre1 c m i rb lb ∧ ∀ key, valOf lb key = valOf (pl.take i) key
theorem SmL.end_ {w w3 w4 wr : World} {c : Pct} {tb : Nat} {A : Option Addr} {n cc : Nat} {pl : List It} {ra : Nat} {ea : Int} {rb : Nat} (h : SmL w w3 w4 c tb A n cc pl ra ea n rb wr) (hn : n ≤ 80) : ScE w c tb ra ea rb n wr := by
  obtain ⟨m, hB, -, hA, lb, ⟨b, s, hbs, ht⟩, hv⟩ := h
  refine ⟨m, hB.nl, ?_⟩
  rcases hA with h | ⟨h, la, h1, h2, h3⟩
  · exact .inl h
  · have e : la = lb := rise_ext h2.1 ht.1 fun key => by rw [h3, hv, hB.at_.1, List.take_length]
    subst e
    exact .inr ⟨h, la, h1, h2.sc (by omega), ht.sc (by omega)⟩
end Go.Proofs.Ytkolacaceaamoaa
