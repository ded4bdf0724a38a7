/- The document's answer on an act that has no line; an act of its own. -/
import Derived.Test.YtcdhngppcpgojaaDoorScrL
namespace Go.Proofs.YtcdhngppcpgojaaDoor
set_option linter.unusedSimpArgs false
set_option linter.unusedVariables false
open Go.RowKit
set_option maxRecDepth 100000 in
set_option maxHeartbeats 2000000 in
theorem ract_bad (r : Ac) (w : World) (hgd : ¬ r.good) (hp : r.p ≤ 140737488351232) (ho : r.owner.length ≤ 140737488355328) :
    Calls Tryd.prog 16 #[.agg r.cells] w fun e w' => e = .returned (.tuple #[str [], .bool false]) ∧ Below w.heap.size w w' := by
  have hg := not_good hgd
  clear hgd
  obtain ⟨W0, hW0, hb0, hk0⟩ : ∃ W0, w.alloc (Obj.cells r.cells TAct) = W0 ∧ Below w.heap.size w W0 ∧ Blk W0 w.heap.size TAct r.cells := ⟨_, rfl, (Below.refl _ _).alloc (Nat.le_refl _) _, Blk.new _ _ _⟩
  obtain ⟨kind, s, n, mask, okind, a, b, A, p, c, path, owner, text⟩ := r
  unfold Ac.cells at hW0 ⊢
  simp only at hg hp ho hW0 ⊢
  have HK0 := hide hk0
  have HB0 := hide hb0
  have HCW := hide (word_any kind W0)
  obtain ⟨X0, hX0⟩ : ∃ X0, wordOf kind = X0 := ⟨_, rfl⟩
  rw [hX0] at HCW
  have hx : (X0.isEmpty = true) ∨ (X0.isEmpty = false ∧ (128 : Int) < p) ∨ (X0.isEmpty = false ∧ (p : Int) ≤ 128 ∧ (32 : Int) < owner.length) := by
    rcases hg with g | ⟨g1, g2⟩ | ⟨g1, g2, g3⟩ | ⟨g1, g2, g3, g4⟩
    · exact .inl (by rw [← hX0, word_bad (.inl g)]; rfl)
    · exact .inl (by rw [← hX0, word_bad (.inr g2)]; rfl)
    · have h := (word_good ⟨g1, g2⟩).2
      rw [hX0] at h
      exact .inr (.inl ⟨by cases X0 with | nil => exact absurd rfl h | cons => rfl, by omega⟩)
    · have h := (word_good ⟨g1, g2⟩).2
      rw [hX0] at h
      exact .inr (.inr ⟨by cases X0 with | nil => exact absurd rfl h | cons => rfl, by omega, by omega⟩)
  have kx := hk0.cell; have zx := hk0.lt
  unfold Ac.cells at kx
  simp only at kx
  clear hk0 hb0 hg hX0
  rcases hx with h1 | ⟨h1, h2⟩ | ⟨h1, h2, h3⟩
  all_goals
    go_enter Tryd.func16, Tryd.ntmps16
    go_upto_region 1 with fail
    clear hW0
    go_wp2_with (go_at_call 31; (refine HCW.out.mono ?_); rintro e2 w1 ⟨rfl, hb1⟩; have ky := (HK0.out.below hb1 HK0.out.lt).cell; have zy := (HK0.out.below hb1 HK0.out.lt).lt; have HB1 := hide (HB0.out.trans (hb1.mono HB0.out.size)); unfold Ac.cells at ky; simp only at ky; clear hb1 kx zx)
    refine bodyPost_ret (v := .tuple #[str [], .bool false]) (by simp [results, Tryd.results16, go_sem]) rfl ⟨rfl, HB1.out⟩
/-- The same act, its path in new memory. -/
def Ac.at_ (x : Ac) (A : Option Addr) (c : Nat) : Ac := { x with A := A, c := c }
theorem pt_info : (Tryd.prog.info? 74).map (fun i => (i.zero, i.size, i.bytes)) = some (some (.agg #[.int .i64 0, .int .i64 0]), 2, 16) := by kernel_rfl
theorem pEnc_one (l : List (Int × Int)) : ∀ u ∈ l.flatMap pEnc, u.oneCell' = true := by
  intro u hu
  obtain ⟨x, _, hx⟩ := List.mem_flatMap.1 hu
  simp [pEnc] at hx
  rcases hx with rfl | rfl <;> rfl
structure Fl (W : World) (g : Nat) (T : TypeId) (cs : Array Value) (W' : World) : Prop where
  k : Blk W' g T cs
  b : Below g W W'
  o : ∀ j, g ≠ j → W'.heap[j]? = W.heap[j]?
theorem Fl.step {W W' : World} {g : Nat} {T : TypeId} {cs : Array Value} (h : Fl W g T cs W') (i : Nat) (v : Value) : Fl W g T (cs.setIfInBounds i v) (W'.setCell ⟨g, i, none⟩ v) :=
  ⟨h.k.set_ i v, h.b.setCell (Nat.le_refl _) _, fun j hj => (Below.heap_setCell _ _ _ _ (fun e => hj e.symm)).trans (h.o j hj)⟩
theorem set10 {W : World} {g : Nat} {T : TypeId} {o0 o1 o2 o3 o4 o5 o6 o7 o8 o9 : Value} (h : Blk W g T #[o0, o1, o2, o3, o4, o5, o6, o7, o8, o9]) (v0 v1 v2 v3 v4 v5 v6 v7 v8 v9 : Value) :
    ∃ W6, ((((((((((W.setCell ⟨g, 0, none⟩ v0).setCell ⟨g, 1, none⟩ v1).setCell ⟨g, 2, none⟩ v2).setCell ⟨g, 3, none⟩ v3).setCell ⟨g, 4, none⟩ v4).setCell ⟨g, 5, none⟩ v5).setCell ⟨g, 6, none⟩ v6).setCell ⟨g, 7, none⟩ v7).setCell ⟨g, 8, none⟩ v8).setCell ⟨g, 9, none⟩ v9) = W6 ∧
      Fl W g T #[v0, v1, v2, v3, v4, v5, v6, v7, v8, v9] W6 := by
  have h0 : Fl W g T #[o0, o1, o2, o3, o4, o5, o6, o7, o8, o9] W := ⟨h, Below.refl _ _, fun _ _ => rfl⟩
  have h1 : Fl W g T #[v0, o1, o2, o3, o4, o5, o6, o7, o8, o9] _ := h0.step 0 v0
  have h2 : Fl W g T #[v0, v1, o2, o3, o4, o5, o6, o7, o8, o9] _ := h1.step 1 v1
  have h3 : Fl W g T #[v0, v1, v2, o3, o4, o5, o6, o7, o8, o9] _ := h2.step 2 v2
  have h4 : Fl W g T #[v0, v1, v2, v3, o4, o5, o6, o7, o8, o9] _ := h3.step 3 v3
  have h5 : Fl W g T #[v0, v1, v2, v3, v4, o5, o6, o7, o8, o9] _ := h4.step 4 v4
  have h6 : Fl W g T #[v0, v1, v2, v3, v4, v5, o6, o7, o8, o9] _ := h5.step 5 v5
  have h7 : Fl W g T #[v0, v1, v2, v3, v4, v5, v6, o7, o8, o9] _ := h6.step 6 v6
  have h8 : Fl W g T #[v0, v1, v2, v3, v4, v5, v6, v7, o8, o9] _ := h7.step 7 v7
  have h9 : Fl W g T #[v0, v1, v2, v3, v4, v5, v6, v7, v8, o9] _ := h8.step 8 v8
  exact ⟨_, rfl, h9.step 9 v9⟩
abbrev TPt : TypeId := 74
/-- The act's path is in memory of its own. -/
def Pth (w : World) (base : Nat) (y : Ac) : Prop := w.ownsRow base TPt 2 (.slice y.A y.p y.c) y.p (y.path.flatMap pEnc)
def OwnP (r : Ac) (w : World) (e : Ending) (w' : World) : Prop := (∃ A c, e = .returned (.agg (r.at_ A c).cells) ∧ Pth w' w.heap.size (r.at_ A c)) ∧ Below w.heap.size w w'
set_option maxRecDepth 100000 in
set_option maxHeartbeats 2000000 in
theorem own_any (r : Ac) (w : World) (h : r.Ok w w.heap.size) (hp : r.p ≤ 1048576) :
    Calls Tryd.prog 12 #[.agg r.cells] w fun e w' => OwnP r w e w' := by
  obtain ⟨i0, hi0, hz0, hz1, hz2⟩ := info_parts pt_info
  have H := hide h
  clear h
  have HI := hide hi0
  clear hi0
  obtain ⟨kind, s, n, mask, okind, a, b, A, p, c, path, owner, text⟩ := r
  obtain ⟨W3, hW3, hk1, hk2, hb3, ho3, hz3⟩ : ∃ W3, ((w.alloc (Obj.cells #[.int .i64 kind, .int .i64 s, .int .i64 n, .int .u64 mask, .int .i64 okind, .int .i64 a, .int .i64 b, .slice A p c, str owner, str text] TAct)).alloc (Obj.cells #[.int .i64 0, .int .i64 0, .int .i64 0, .int .u64 0, .int .i64 0, .int .i64 0, .int .i64 0, .slice none 0 0, .string ⟨#[]⟩, .string ⟨#[]⟩] TAct)).alloc (Obj.cells #[] 74) = W3 ∧ Blk W3 w.heap.size TAct #[.int .i64 kind, .int .i64 s, .int .i64 n, .int .u64 mask, .int .i64 okind, .int .i64 a, .int .i64 b, .slice A p c, str owner, str text] ∧ Blk W3 (w.heap.size + 1) TAct #[.int .i64 0, .int .i64 0, .int .i64 0, .int .u64 0, .int .i64 0, .int .i64 0, .int .i64 0, .slice none 0 0, .string ⟨#[]⟩, .string ⟨#[]⟩] ∧ Below w.heap.size w W3 ∧ W3.ownsRow w.heap.size 74 2 (.slice (some ⟨w.heap.size + 1 + 1, 0, none⟩) 0 0) 0 [] ∧ W3.heap.size = w.heap.size + 3 := by
    obtain ⟨V, hV, hs⟩ : ∃ V, (w.alloc (Obj.cells #[.int .i64 kind, .int .i64 s, .int .i64 n, .int .u64 mask, .int .i64 okind, .int .i64 a, .int .i64 b, .slice A p c, str owner, str text] TAct)).alloc (Obj.cells #[.int .i64 0, .int .i64 0, .int .i64 0, .int .u64 0, .int .i64 0, .int .i64 0, .int .i64 0, .slice none 0 0, .string ⟨#[]⟩, .string ⟨#[]⟩] TAct) = V ∧ V.heap.size = w.heap.size + 1 + 1 := ⟨_, rfl, by simp⟩
    refine ⟨_, rfl, ((Blk.new _ _ _).alloc _).alloc _, ?_, (((Below.refl _ _).alloc (Nat.le_refl _) _).alloc (by simp) _).alloc (by simp; omega) _, ?_, by simp⟩
    · have := (Blk.new (w.alloc (Obj.cells #[.int .i64 kind, .int .i64 s, .int .i64 n, .int .u64 mask, .int .i64 okind, .int .i64 a, .int .i64 b, .slice A p c, str owner, str text] TAct)) TAct #[.int .i64 0, .int .i64 0, .int .i64 0, .int .u64 0, .int .i64 0, .int .i64 0, .int .i64 0, .slice none 0 0, .string ⟨#[]⟩, .string ⟨#[]⟩]).alloc (Obj.cells #[] 74)
      simpa using this
    · rw [hV]
      have := World.ownsRow_made (w := V) (base := w.heap.size) (e := 74) (size := 2) #[] 0 (by omega) (by decide) rfl
      rw [hs] at this
      exact this
  have HK1 := hide hk1
  have HK2 := hide hk2
  have HB3 := hide hb3
  have HO3 := hide ho3
  have HZ3 := hide hz3
  have k1 := hk1.cell; have q1 := hk1.frozen; have z1 := hk1.lt
  have HSL := hide (H.out.sl.below hb3)
  clear hk1 hk2 hb3 ho3 hz3
  unfold Ac.cells
  simp only at hp HSL ⊢
  go_enter Tryd.func12, Tryd.ntmps12
  go_upto_region 2 with (at_builtin; (refine wpList_append_any _ rfl (.tmp 3) (.tmp 6) _ rfl w.heap.size 74 i0 _ 2 16 Tryd.underlying33 HI.out hz0 hz1 hz2 rfl (by omega) (.slice (some ⟨w.heap.size + 1 + 1, 0, none⟩) 0 0) 0 [] rfl HO3.out w.heap.size A p c (path.flatMap pEnc) rfl HSL.out.2 (pEnc_one path) (by unfold maxLen; omega) (by omega) (by have := HZ3.out; omega) ?_); intro v' w4 ho hg hv; obtain ⟨A2, c2, rfl⟩ := row_form ho; have hx1 := HK1.out.grown hg (by simp [Value.ownBlock]; omega); have hx2 := HK2.out.grown hg (by simp [Value.ownBlock]); have HX1 := hide hx1; have HX2 := hide hx2; have k4 := hx1.cell; have q4 := hx1.frozen; have z4 := hx1.lt; have l4 := hx2.cell; have r4 := hx2.frozen; have y4 := hx2.lt; have HO := hide ho; have HG := hide hg; have HV := hide hv; clear k1 q1 z1 ho hg hv hx1 hx2)
  obtain ⟨W5, hW5, hx1, hx2, hb5, hs5⟩ : ∃ W5, w4.setCell ⟨w.heap.size, 7, none⟩ (.slice A2 p c2) = W5 ∧ Blk W5 w.heap.size TAct #[.int .i64 kind, .int .i64 s, .int .i64 n, .int .u64 mask, .int .i64 okind, .int .i64 a, .int .i64 b, .slice A2 p c2, str owner, str text] ∧ Blk W5 (w.heap.size + 1) TAct #[.int .i64 0, .int .i64 0, .int .i64 0, .int .u64 0, .int .i64 0, .int .i64 0, .int .i64 0, .slice none 0 0, .string ⟨#[]⟩, .string ⟨#[]⟩] ∧ Below w.heap.size w4 W5 ∧ (∀ j, w.heap.size ≠ j → W5.heap[j]? = w4.heap[j]?) :=
    ⟨_, rfl, HX1.out.set_ 7 _, HX2.out.far (by simp) _, (Below.refl w.heap.size w4).setCell (p := ⟨w.heap.size, 7, none⟩) (Nat.le_refl w.heap.size) _, fun j hj => Below.heap_setCell _ _ _ _ (fun e => hj e.symm)⟩
  rw [hW5]
  clear hW5 k4 q4 z4 l4 r4 y4
  have k5 := hx1.cell; have z5 := hx1.lt; have r5 := hx2.frozen; have y5 := hx2.lt; have l5 := hx2.cell
  have HX5 := hide hx1
  have HX6 := hide hx2
  have HS5 := hide hs5
  have HB5 := hide hb5
  clear hx1 hx2 hs5 hb5
  go_wp2
  obtain ⟨W6, hW6, hx6, hb6, hs6⟩ := set10 HX6.out (.int .i64 kind) (.int .i64 s) (.int .i64 n) (.int .u64 mask) (.int .i64 okind) (.int .i64 a) (.int .i64 b) (.slice A2 p c2) (str owner) (str text)
  rw [hW6]
  have k6 := hx6.cell; have z6 := hx6.lt
  refine bodyPost_ret (v := .agg (Ac.at_ ⟨kind, s, n, mask, okind, a, b, A, p, c, path, owner, text⟩ A2 c2).cells) (by simp [results, Tryd.results12, go_sem, k6, z6, Ac.at_, Ac.cells]) rfl ⟨⟨A2, c2, rfl, ?_⟩, ?_⟩
  · have hz := HZ3.out
    have ho := row_keep HO.out (w' := W6) (fun g hg => by
      have hg1 : w.heap.size + 2 ≤ g := by
        rcases HV.out with e | e
        · rw [e] at hg; simp [Value.ownBlock] at hg; omega
        · rw [e] at hg; simp at hg; omega
      rw [hs6 g (by omega), HS5.out g (by omega)])
    rw [Nat.zero_add] at ho
    exact ho
  · have hz := HZ3.out
    have hg := HG.out
    have b4 : Below w.heap.size W3 w4 := ⟨hg.os, hg.tape, hg.output, hg.size, fun j hj => hg.block j (by omega) (by simp [Value.ownBlock]; omega)⟩
    exact ((HB3.out.trans b4).trans HB5.out).trans (hb6.mono (by omega))
end Go.Proofs.YtcdhngppcpgojaaDoor
