/- The JSON reader: many. -/
import Derived.Test.YtmbjalcphdggnaaDoorJsL
namespace Go.Proofs.YtmbjalcphdggnaaDoor
set_option linter.unusedSimpArgs false
set_option linter.unusedVariables false
open Go.RowKit
def G12 (w : World) (rb vb z : Nat) (A : Option Addr) (n c : Nat) (b t : L8) (kind : Nat) (V : Got (JV × Tk)) (T : Tk) (ks : List L8) (vs : List JV) (kv lv : Value) (xs : List Value) (s : Nat) (w' : World) : Prop :=
  (∃ T', (s = 0 → T' = T) ∧ (1 ≤ s → ∃ J, V = .ok (J, T')) ∧ RdT w' rb A n c b T') ∧ Fr (isRV rb vb) w w' ∧ z ≤ w'.heap.size ∧ w'.ownsRow w.heap.size TSt 1 kv ks.length (sc ks) ∧ VRdL w' (InM w z kv lv) vs xs ∧
  (s ≤ 3 → Blk w' vb TV #[.int .i64 (kind : Int), .string ⟨t.toArray⟩, kv, lv]) ∧ (s ≤ 1 → w'.ownsRow w.heap.size TV 4 lv vs.length xs)
/-- What append has made. -/
def R58 (w : World) (vb z kind : Nat) (t : L8) (V : Got (JV × Tk)) (m : Nat) (kv lv : Value) (xs : List Value) (st : Nat) (a : Act) (v : Value) (w' : World) : Prop :=
  ∃ g c J T' cs, v = .slice (some ⟨g, 0, none⟩) (m + 1) c ∧ V = .ok (J, T') ∧ a.eval (.tmp 55) = .agg cs.toArray ∧ (lv.ownBlock = some g ∨ z ≤ g) ∧ VRd w' (fun j => z ≤ j ∧ j ≠ g) J cs ∧
    (∃ ys, ys.length = 4 ∧ w'.ownsRow w.heap.size TV 4 v (m + 1) (xs ++ ys) ∧ ((st = 3 ∨ st = 5) → ys = cs)) ∧ (4 ≤ st → Blk w' vb TV #[.int .i64 (kind : Int), .string ⟨t.toArray⟩, kv, v])
/-- A whole element stored. -/
def set4o (w : World) (g o : Nat) (a b c d : Value) : World := (((w.setCell ⟨g, o, none⟩ a).setCell ⟨g, o + 1, none⟩ b).setCell ⟨g, o + 2, none⟩ c).setCell ⟨g, o + 3, none⟩ d
section
variable {w wr w' : World} {rb vb z n c kind s : Nat} {A : Option Addr} {b t : L8} {T T' : Tk} {ks : List L8} {vs : List JV} {kv lv : Value} {xs : List Value} {V : Got (JV × Tk)}
theorem set4o_row {base g m cap : Nat} {xs ys : List Value} {a b c d : Value} (h : w.ownsRow base TV 4 (.slice (some ⟨g, 0, none⟩) (m + 1) cap) (m + 1) (xs ++ ys)) (hl : ys.length = 4) :
    (set4o w g (m * 4) a b c d).ownsRow base TV 4 (.slice (some ⟨g, 0, none⟩) (m + 1) cap) (m + 1) (xs ++ [a, b, c, d]) ∧ w.grownBy (set4o w g (m * 4) a b c d) (some g) := by
  have hx : xs.length = m * 4 := by have := h.1; rw [List.length_append] at this; omega
  obtain ⟨y0, y1, y2, y3, rfl⟩ : ∃ y0 y1 y2 y3, ys = [y0, y1, y2, y3] := by
    match ys, hl with
    | [y0, y1, y2, y3], _ => exact ⟨y0, y1, y2, y3, rfl⟩
  have h1 := h.stored (m * 4) a
  have h2 := h1.1.stored (m * 4 + 1) b
  have h3 := h2.1.stored (m * 4 + 2) c
  have h4 := h3.1.stored (m * 4 + 3) d
  refine ⟨?_, gb_trans (gb_trans (gb_trans h1.2 h2.2) h3.2) h4.2⟩
  have e := h4.1
  rw [← hx] at e
  rw [List.set_append_right _ _ (Nat.le_refl _), List.set_append_right _ _ (Nat.le_add_right _ 1), List.set_append_right _ _ (Nat.le_add_right _ 2), List.set_append_right _ _ (Nat.le_add_right _ 3)] at e
  rw [← hx]
  simpa [set4o] using e
theorem elem_cells {base g m cap : Nat} {xs ys : List Value} (h : w.ownsRow base TV 4 (.slice (some ⟨g, 0, none⟩) (m + 1) cap) (m + 1) (xs ++ ys)) (hl : ys.length = 4) :
    (∃ y0 y1 y2 y3, w.cell? ⟨g, m * 4, none⟩ = some y0 ∧ w.cell? ⟨g, m * 4 + 1, none⟩ = some y1 ∧ w.cell? ⟨g, m * 4 + 2, none⟩ = some y2 ∧ w.cell? ⟨g, m * 4 + 3, none⟩ = some y3) ∧ (∀ i, w.frozen? ⟨g, i, none⟩ = false) ∧ g < w.heap.size := by
  have hx : xs.length = m * 4 := by have := h.1; rw [List.length_append] at this; omega
  obtain ⟨y0, y1, y2, y3, rfl⟩ : ∃ y0 y1 y2 y3, ys = [y0, y1, y2, y3] := by
    match ys, hl with
    | [y0, y1, y2, y3], _ => exact ⟨y0, y1, y2, y3, rfl⟩
  refine ⟨⟨y0, y1, y2, y3, ?_, ?_, ?_, ?_⟩, h.frozenAt, own_lt h g rfl⟩
  · rw [h.cellAt _ (by omega), List.getElem?_append_right (by omega)]; simp [hx]
  · rw [h.cellAt _ (by omega), List.getElem?_append_right (by omega)]; simp [hx]
  · rw [h.cellAt _ (by omega), List.getElem?_append_right (by omega)]; simp [hx]
  · rw [h.cellAt _ (by omega), List.getElem?_append_right (by omega)]; simp [hx]
theorem G12.of (h : MS w wr rb vb wr.heap.size A n c b t kind T ks vs kv lv xs) : G12 w rb vb wr.heap.size A n c b t kind V T ks vs kv lv xs 0 wr :=
  ⟨⟨T, fun _ => rfl, fun h => absurd h (by decide), h.tk⟩, h.fr, h.hz, h.ok, h.vr, fun _ => h.blk, fun _ => h.ol⟩
theorem G12.below (h : G12 w rb vb z A n c b t kind V T ks vs kv lv xs s wr) (hb : Below wr.heap.size wr w') : G12 w rb vb z A n c b t kind V T ks vs kv lv xs s w' := by
  obtain ⟨⟨T', e1, e2, h1⟩, h2, h3, h4, h5, h6, h7⟩ := h
  exact ⟨⟨T', e1, e2, h1.below hb⟩, h2.low hb, Nat.le_trans h3 hb.size, own_later h4 hb, VRdL.keep (fun j hj => hb.block j (Nat.lt_of_lt_of_le hj.2.1 h3)) (fun _ h => h) _ _ h5,
    fun h' => (h6 h').below hb (h6 h').lt, fun h' => own_later (h7 h') hb⟩
theorem G12.called {J : JV} (h : G12 w rb vb z A n c b t kind V T ks vs kv lv xs 0 wr) (hg : wr.grownBy w' (some rb)) (hV : V = .ok (J, T')) (hT : RdT w' rb A n c b T') (hrb : rb < w.heap.size) (hv : vb ≠ rb) : G12 w rb vb z A n c b t kind V T ks vs kv lv xs 1 w' := by
  obtain ⟨⟨T', e1, e2, h1⟩, h2, h3, h4, h5, h6, h7⟩ := h
  exact ⟨⟨_, fun h => absurd h (by decide), fun _ => ⟨J, hV⟩, hT⟩, h2.tr (Fr.of_grown hg (fun k e => .inl (by injection e with e; exact e.symm))), Nat.le_trans h3 hg.size,
    row_keep h4 (fun g hgb => hg.block g (own_lt h4 g hgb) (fun e => by injection e with e; have := own_block h4 g hgb; omega)),
    VRdL.keep (fun j hj => hg.block j (Nat.lt_of_lt_of_le hj.2.1 h3) (fun e => by injection e with e; have := hj.1; omega)) (fun _ h => h) _ _ h5,
    fun h' => blk_gb (h6 (by decide)) hg hv,
    fun h' => row_keep (h7 (by decide)) (fun g hgb => hg.block g (own_lt (h7 (by decide)) g hgb) (fun e => by injection e with e; have := own_block (h7 (by decide)) g hgb; omega))⟩
theorem rows_ne {w : World} {base k1 k2 n1 n2 : Nat} {e1 e2 : TypeId} {v1 v2 : Value} {x1 x2 : List Value} (h1 : w.ownsRow base e1 k1 v1 n1 x1) (h2 : w.ownsRow base e2 k2 v2 n2 x2) (he : e1 ≠ e2) : ∀ g, v2.ownBlock = some g → v1.ownBlock ≠ some g := fun g hg' => by
  rcases h2.2 with ⟨e, _⟩ | ⟨g', cap, cur, e, _, hh, _⟩
  · rw [e] at hg'; cases hg'
  · rw [e] at hg'
    have : g' = g := by simpa [Value.ownBlock] using hg'
    subst this
    exact own_blk_ne h1 hh he
/-- A change of the row's own block, or of a block behind. -/
theorem G12.append {m : Nat} (h : G12 w rb vb z A n c b t kind V T ks vs kv lv xs 1 wr) (hg : wr.grownBy w' lv.ownBlock) (hrb : rb < w.heap.size) (hvb : vb < w.heap.size) (hA : ∀ ad, A = some ad → ad.block < w.heap.size) : G12 w rb vb z A n c b t kind V T ks vs kv lv xs 2 w' := by
  obtain ⟨⟨T', e1, e2, h1⟩, h2, h3, h4, h5, h6, h7⟩ := h
  have hk := own_block (h7 (by decide))
  have hf : Fr (fun j => lv.ownBlock = some j) wr w' := Fr.of_grown hg (fun k e => e)
  have hne := rows_ne h4 (h7 (by decide)) (by decide)
  exact ⟨⟨T', fun h => absurd h (by decide), fun _ => e2 (by decide), h1.fr hf (fun e => by have := hk _ e; omega) (fun ad e e3 => by have := hA ad e; have := hk _ e3; omega)⟩, h2.trans hf (fun j hj e => by have := hk _ e; omega), Nat.le_trans h3 hg.size, row_fr h4 hf (fun g hg' e => hne g e hg'), VRdL.keep (fun j hj => hf.block j (Nat.lt_of_lt_of_le hj.2.1 h3) hj.2.2.2) (fun _ h => h) _ _ h5, fun _ => hf.blk (h6 (by decide)) (fun e => by have := hk _ e; omega), fun h => absurd h (by decide)⟩
/-- The element stored: from stage s (2, 4) to s + 1. -/
theorem G12.elem {g m cap : Nat} {ys : List Value} {x0 x1 x2 x3 : Value} (h : G12 w rb vb z A n c b t kind V T ks vs kv lv xs s wr) (hs : s = 2 ∨ s = 4) (hgz : lv.ownBlock = some g ∨ z ≤ g) (hr : wr.ownsRow w.heap.size TV 4 (.slice (some ⟨g, 0, none⟩) (m + 1) cap) (m + 1) (xs ++ ys)) (hl : ys.length = 4) (hrb : rb < w.heap.size) (hvb : vb < w.heap.size) (hA : ∀ ad, A = some ad → ad.block < w.heap.size) :
    G12 w rb vb z A n c b t kind V T ks vs kv lv xs (s + 1) (set4o wr g (m * 4) x0 x1 x2 x3) := by
  obtain ⟨⟨T', e1, e2, h1⟩, h2, h3, h4, h5, h6, h7⟩ := h
  have hk : w.heap.size ≤ g := own_block hr g rfl
  have hg := (set4o_row (a := x0) (b := x1) (c := x2) (d := x3) hr hl).2
  have hf : Fr (fun j => g = j) wr (set4o wr g (m * 4) x0 x1 x2 x3) := Fr.of_grown hg (fun k e => by injection e)
  have hne := rows_ne h4 hr (by decide)
  exact ⟨⟨T', fun h => by omega, fun _ => e2 (by omega), h1.fr hf (fun e => by omega) (fun ad e e3 => by have := hA ad e; omega)⟩, h2.trans hf (fun j hj e => by omega), Nat.le_trans h3 hg.size, row_fr h4 hf (fun g' hg' e => hne g rfl (by rw [e]; exact hg')), VRdL.keep (fun j hj => hf.block j (Nat.lt_of_lt_of_le hj.2.1 h3) (fun e => hgz.elim (fun h => hj.2.2.2 (by rw [h, e])) (fun h => by have := hj.2.1; omega))) (fun _ h => h) _ _ h5, fun h' => hf.blk (h6 (by omega)) (fun e => by omega), fun h => by omega⟩
/-- The slice stored: from stage s (2, 3) to s + 2. -/
theorem G12.slice {v : Value} (h : G12 w rb vb z A n c b t kind V T ks vs kv lv xs s wr) (hs : s = 2 ∨ s = 3) (hrv : vb ≠ rb) (hvb : vb < w.heap.size) (hA : ∀ ad, A = some ad → ad.block ≠ vb) :
    G12 w rb vb z A n c b t kind V T ks vs kv lv xs (s + 2) (wr.setCell ⟨vb, 3, none⟩ v) := by
  obtain ⟨⟨T', e1, e2, h1⟩, h2, h3, h4, h5, h6, h7⟩ := h
  have hf : Fr (fun j => j = vb) wr (wr.setCell ⟨vb, 3, none⟩ v) := Fr.of_grown (gby_set wr vb 3 v) (fun k e => by injection e with e; exact e.symm)
  exact ⟨⟨T', fun h => by omega, fun _ => e2 (by omega), h1.fr hf (fun e => hrv e.symm) hA⟩, h2.tr (hf.up (fun j e => .inr e)), Nat.le_trans h3 hf.size, row_fr h4 hf (fun g hg' e => by have := own_block h4 g hg'; omega), VRdL.keep (fun j hj => hf.block j (Nat.lt_of_lt_of_le hj.2.1 h3) (fun e => by have := hj.1; omega)) (fun _ h => h) _ _ h5, fun h => by omega, fun h => by omega⟩
/-- The stores keep what append has made. -/
def T12 (w : World) (vb z m kind : Nat) (t : L8) (kv : Value) (s s' : Nat) (a : Act) (wr w' : World) : Prop :=
  ((s, s') = (0, 1) ∧ ∃ rb, rb < w.heap.size ∧ wr.grownBy w' (some rb)) ∨ (s, s') = (1, 2) ∨
  (((s, s') = (2, 3) ∨ (s, s') = (4, 5)) ∧ ∃ g c x0 x1 x2 x3, a.eval (.tmp 58) = .slice (some ⟨g, 0, none⟩) (m + 1) c ∧ a.eval (.tmp 55) = .agg #[x0, x1, x2, x3] ∧ w' = set4o wr g (m * 4) x0 x1 x2 x3) ∨
  (((s, s') = (2, 4) ∨ (s, s') = (3, 5)) ∧ w' = wr.setCell ⟨vb, 3, none⟩ (a.eval (.tmp 58)) ∧ Blk w' vb TV #[.int .i64 (kind : Int), .string ⟨t.toArray⟩, kv, a.eval (.tmp 58)])
theorem R58.keep {m s' : Nat} {a : Act} {v : Value} (h : R58 w vb z kind t V m kv lv xs s a v wr) (hs : s ≠ 0 ∧ s ≠ 1) (hT : T12 w vb z m kind t kv s s' a wr w') (hv : v = a.eval (.tmp 58)) (hvb : vb < w.heap.size) (hz : w.heap.size ≤ z) : R58 w vb z kind t V m kv lv xs s' a v w' := by
  obtain ⟨g, c, J, T', cs, rfl, h2, h3, h4, h5, ⟨ys, h6, h7, h8⟩, h9⟩ := h
  rcases hT with ⟨e, _⟩ | e | ⟨e, g', c', x0, x1, x2, x3, e1, e2, rfl⟩ | ⟨e, rfl, hB⟩
  · simp at e; omega
  · simp at e; omega
  · rw [← hv] at e1
    injection e1 with e1 _ e3
    injection e1 with e1
    injection e1 with e1
    subst e1
    rw [h3] at e2
    injection e2 with e2
    obtain rfl : cs = [x0, x1, x2, x3] := by have := congrArg Array.toList e2; simpa using this
    obtain ⟨r1, r2⟩ := set4o_row (a := x0) (b := x1) (c := x2) (d := x3) h7 h6
    have hk : w.heap.size ≤ g := own_block h7 g rfl
    have hf : Fr (fun j => j = g) wr (set4o wr g (m * 4) x0 x1 x2 x3) := Fr.of_grown r2 (fun k e => by injection e with e; exact e.symm)
    refine ⟨g, c, J, T', _, rfl, h2, h3, h4, VRd.keep (F := fun j => (z ≤ j ∧ j ≠ g) ∧ j < wr.heap.size) (fun j hj => hf.block j hj.2 hj.1.2) (fun j hj => hj.1) _ _ (h5.lt), ⟨_, rfl, r1, fun _ => rfl⟩, fun h => hf.blk (h9 (by simp at e; omega)) (by omega)⟩
  · have hf : Fr (fun j => j = vb) wr (wr.setCell ⟨vb, 3, none⟩ (a.eval (.tmp 58))) := Fr.of_grown (gby_set wr vb 3 _) (fun k e => by injection e with e; exact e.symm)
    refine ⟨g, c, J, T', cs, rfl, h2, h3, h4, VRd.keep (F := fun j => (z ≤ j ∧ j ≠ g) ∧ j < wr.heap.size) (fun j hj => hf.block j hj.2 (fun e => by have := hj.1.1; omega)) (fun j hj => hj.1) _ _ (h5.lt), ⟨ys, h6, row_fr h7 hf (fun g' hg' e => by have := own_block h7 g' hg'; omega), fun h => h8 (by simp at e; omega)⟩, fun h => ?_⟩
    rw [hv]
    exact hB
theorem R58.put {m d : Nat} {a : Act} {u v : Value} (h : R58 w vb z kind t V m kv lv xs s a v wr) (hd : d ∉ [55]) : R58 w vb z kind t V m kv lv xs s (a.put (some d) u) v wr := by
  obtain ⟨g, c, J, T', cs, h1, h2, h3, h4⟩ := h
  exact ⟨g, c, J, T', cs, h1, h2, (act_ne (by simpa using fun e => hd (by simp [e]))).trans h3, h4⟩
theorem T12.one {m s' : Nat} {a : Act} (h : T12 w vb z m kind t kv s s' a wr w') (hs : s' ≤ 1) : s = 0 ∧ ∃ rb, rb < w.heap.size ∧ wr.grownBy w' (some rb) := by
  rcases h with ⟨e, h⟩ | e | ⟨e, h⟩ | ⟨e, h⟩
  · exact ⟨by simp at e; exact e.1, h⟩
  · simp at e; omega
  · simp at e; omega
  · simp at e; omega
theorem R58.made {J : JV} {cs ys : List Value} {a : Act} {v : Value} (hG : G12 w rb vb z A n c b t kind V T ks vs kv lv xs 1 wr) (hV : V = .ok (J, T')) (h55 : a.eval (.tmp 55) = .agg cs.toArray) (hv : VRd wr (fun j => z ≤ j) J cs) (hg : wr.grownBy w' lv.ownBlock)
    (ho : w'.ownsRow w.heap.size TV 4 v (vs.length + 1) (xs ++ ys)) (hl : ys.length = 4) (hoo : v.ownBlock = lv.ownBlock ∨ v.ownBlock = some wr.heap.size) (hlz : ∀ g, lv.ownBlock = some g → g < z) : R58 w vb z kind t V vs.length kv lv xs 2 a v w' := by
  obtain ⟨_, _, h3, _⟩ := hG
  rcases ho.2 with ⟨_, h0⟩ | ⟨g, cap, cur, rfl, _⟩
  · omega
  · have hoo' : lv.ownBlock = some g ∨ wr.heap.size = g := by
      rcases hoo with e | e
      · exact .inl e.symm
      · exact .inr (by simpa [Value.ownBlock] using e.symm)
    refine ⟨g, cap, J, T', cs, rfl, hV, h55, hoo'.imp id (fun e => by omega), VRd.keep (F := fun j => z ≤ j ∧ j < wr.heap.size) (fun j hj => hg.block j hj.2 (fun e => by have := hlz j e.symm; omega)) (fun j hj => ⟨hj.1, fun e => ?_⟩) _ _ hv.lt, ⟨ys, hl, ho, fun h => by omega⟩, fun h => absurd h (by decide)⟩
    subst e
    rcases hoo' with e | e
    · have := hlz j e; omega
    · omega
theorem R58.below {m : Nat} {a : Act} {v : Value} (h : R58 w vb z kind t V m kv lv xs s a v wr) (hb : Below wr.heap.size wr w') : R58 w vb z kind t V m kv lv xs s a v w' := by
  obtain ⟨g, c, J, T', cs, rfl, h2, h3, h4, h5, ⟨ys, h6, h7, h8⟩, h9⟩ := h
  exact ⟨g, c, J, T', cs, rfl, h2, h3, h4, VRd.keep (F := fun j => (z ≤ j ∧ j ≠ g) ∧ j < wr.heap.size) (fun j hj => hb.block j hj.2) (fun j hj => hj.1) _ _ (h5.lt), ⟨ys, h6, own_later h7 hb, h8⟩, fun h => (h9 h).below hb (h9 h).lt⟩
theorem G12.ms {a : Act} {v : Value} (h : G12 w rb vb z A n c b t kind V T ks vs kv lv xs 5 wr) (hr : R58 w vb z kind t V vs.length kv lv xs 5 a v wr) (hwz : w.heap.size ≤ z) (hkz : ∀ g, kv.ownBlock = some g → g < z) :
    ∃ J T' cs, V = .ok (J, T') ∧ MS w wr rb vb wr.heap.size A n c b t kind T' ks (vs ++ [J]) kv v (xs ++ cs) := by
  obtain ⟨⟨T1, e1, e2, h1⟩, h2, h3, h4, h5, h6, h7⟩ := h
  obtain ⟨g, cap, J, T', cs, rfl, r2, r3, r4, r5, ⟨ys, r6, r7, r8⟩, r9⟩ := hr
  obtain rfl := r8 (by decide)
  obtain ⟨J1, eJ⟩ := e2 (by decide)
  rw [r2] at eJ
  injection eJ with eJ
  injection eJ with eJ1 eJ2
  subst eJ2
  refine ⟨J, T', ys, r2, h1, h2, Nat.le_refl _, r9 (by decide), h4, by rw [List.length_append]; exact r7, VRdL.snoc (VRd.keep (fun _ _ => rfl) (fun j hj => ?_) _ _ r5.lt) _ _ (VRdL.keep (fun _ _ => rfl) (fun j hj => ?_) _ _ h5)⟩
  · exact ⟨by have := hj.1.1; omega, hj.2, fun e => by have := hkz j e; have := hj.1.1; omega, fun e => hj.1.2 (by simpa [Value.ownBlock] using e.symm)⟩
  · refine ⟨hj.1, Nat.lt_of_lt_of_le hj.2.1 h3, hj.2.2.1, fun e => ?_⟩
    have e' : g = j := by simpa [Value.ownBlock] using e
    subst e'
    rcases r4 with h | h
    · exact hj.2.2.2 h
    · have := hj.2.1; omega
end
end Go.Proofs.YtmbjalcphdggnaaDoor
