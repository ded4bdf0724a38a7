/- The JSON reader: many, in memory. -/
import Derived.Test.YtmbjalcphdggnaaDoorJsK
import Derived.Test.YtmbjalcphdggnaaDoorRegH
import Derived.Deep.CutRange
namespace Go.Proofs.YtmbjalcphdggnaaDoor
set_option linter.unusedSimpArgs false
set_option linter.unusedVariables false
open Go.RowKit
theorem st_inf : ∃ i, Tryd.prog.info? TSt = some i ∧ i.zero = some (.string ⟨#[]⟩) ∧ i.size = 1 ∧ i.bytes = 16 := by
  have h : (Tryd.prog.info? TSt).map (fun i => (i.zero, i.size, i.bytes)) = some (some (.string ⟨#[]⟩), 1, 16) := by kernel_rfl
  cases hi : Tryd.prog.info? TSt with
  | none => rw [hi] at h; cases h
  | some i => rw [hi] at h; simp only [Option.map_some, Option.some.injEq, Prod.mk.injEq] at h; exact ⟨i, rfl, h.1, h.2.1, h.2.2⟩
def zTV : Value := .agg #[.int .i64 0, .string ⟨#[]⟩, .slice none 0 0, .slice none 0 0]
theorem tv_inf : ∃ i, Tryd.prog.info? TV = some i ∧ i.zero = some zTV ∧ i.size = 4 ∧ i.bytes = 72 := by
  have h : (Tryd.prog.info? TV).map (fun i => (i.zero, i.size, i.bytes)) = some (some zTV, 4, 72) := by kernel_rfl
  cases hi : Tryd.prog.info? TV with
  | none => rw [hi] at h; cases h
  | some i => rw [hi] at h; simp only [Option.map_some, Option.some.injEq, Prod.mk.injEq] at h; exact ⟨i, rfl, h.1, h.2.1, h.2.2⟩
theorem ReadsF.lt {w : World} {F : Nat → Prop} {k : Nat} {A : Option Addr} {n : Nat} {xs : List Value} (h : ReadsF w F k A n xs) (hk : 0 < k) : ReadsF w (fun j => F j ∧ j < w.heap.size) k A n xs := by
  refine ⟨h.1, fun h0 => ?_⟩
  obtain ⟨ad, e, hb, hc⟩ := h.2 h0
  have hl : 0 < xs.length := by rw [h.1]; exact Nat.mul_pos h0 hk
  have := World.block_lt_of_cell? w _ (hc 0 xs[0] (List.getElem?_eq_getElem hl))
  rw [block_of_add] at this
  exact ⟨ad, e, ⟨hb, this⟩, hc⟩
mutual
theorem VRd.lt {w : World} {F : Nat → Prop} : ∀ (J : JV) (cs : List Value), VRd w F J cs → VRd w (fun j => F j ∧ j < w.heap.size) J cs
  | .mk k t ks vs, cs, h => by
    unfold VRd at h ⊢
    obtain ⟨A, n, c, A', n', c', xs, h1, h2, h3, h4, h5, h6, h7, h8⟩ := h
    exact ⟨A, n, c, A', n', c', xs, h1, h2, h3, h4.lt (by omega), h5, h6, h7.lt (by omega), VRdL.lt vs xs h8⟩
theorem VRdL.lt {w : World} {F : Nat → Prop} : ∀ (js : List JV) (xs : List Value), VRdL w F js xs → VRdL w (fun j => F j ∧ j < w.heap.size) js xs
  | [], xs, h => h
  | j :: js, xs, h => by
    unfold VRdL at h ⊢
    obtain ⟨cs, rest, h1, h2, h3⟩ := h
    exact ⟨cs, rest, h1, VRd.lt j cs h2, VRdL.lt js rest h3⟩
end
def InM (w : World) (z : Nat) (kv lv : Value) : Nat → Prop := fun j => w.heap.size ≤ j ∧ j < z ∧ kv.ownBlock ≠ some j ∧ lv.ownBlock ≠ some j
/-- The loop's state. -/
structure MS (w wr : World) (rb vb z : Nat) (A : Option Addr) (n c : Nat) (b t : L8) (kind : Nat) (T : Tk) (ks : List L8) (vs : List JV) (kv lv : Value) (xs : List Value) : Prop where
  tk : RdT wr rb A n c b T
  fr : Fr (isRV rb vb) w wr
  hz : z ≤ wr.heap.size
  blk : Blk wr vb TV #[.int .i64 (kind : Int), .string ⟨t.toArray⟩, kv, lv]
  ok : wr.ownsRow w.heap.size TSt 1 kv ks.length (sc ks)
  ol : wr.ownsRow w.heap.size TV 4 lv vs.length xs
  vr : VRdL wr (InM w z kv lv) vs xs
section
variable {w wr w' : World} {rb vb z n c kind : Nat} {A : Option Addr} {b t : L8} {T T' : Tk} {ks : List L8} {vs : List JV} {kv lv : Value} {xs : List Value}
theorem MS.call (h : MS w wr rb vb z A n c b t kind T ks vs kv lv xs) (hg : wr.grownBy w' (some rb)) (hT : RdT w' rb A n c b T') (hr : rb < w.heap.size) (hv : vb ≠ rb) : MS w w' rb vb z A n c b t kind T' ks vs kv lv xs where
  tk := hT
  fr := h.fr.tr (Fr.of_grown hg (fun k e => .inl (by injection e with e; exact e.symm)))
  hz := Nat.le_trans h.hz hg.size
  blk := blk_gb h.blk hg hv
  ok := row_keep h.ok (fun g hgb => hg.block g (own_lt h.ok g hgb) (fun e => by injection e with e; have := own_block h.ok g hgb; omega))
  ol := row_keep h.ol (fun g hgb => hg.block g (own_lt h.ol g hgb) (fun e => by injection e with e; have := own_block h.ol g hgb; omega))
  vr := VRdL.keep (fun j hj => hg.block j (Nat.lt_of_lt_of_le hj.2.1 h.hz) (fun e => by injection e with e; have := hj.1; omega)) (fun _ h => h) _ _ h.vr
theorem MS.below (h : MS w wr rb vb z A n c b t kind T ks vs kv lv xs) (hb : Below wr.heap.size wr w') : MS w w' rb vb z A n c b t kind T ks vs kv lv xs where
  tk := h.tk.below hb
  fr := h.fr.low hb
  hz := Nat.le_trans h.hz hb.size
  blk := h.blk.below hb h.blk.lt
  ok := own_later h.ok hb
  ol := own_later h.ol hb
  vr := VRdL.keep (fun j hj => hb.block j (Nat.lt_of_lt_of_le hj.2.1 h.hz)) (fun _ h => h) _ _ h.vr
theorem MS.full (h : MS w wr rb vb z A n c b t kind T ks vs kv lv xs) : MS w wr rb vb wr.heap.size A n c b t kind T ks vs kv lv xs :=
  { h with hz := Nat.le_refl _, vr := VRdL.keep (fun _ _ => rfl) (fun j hj => ⟨hj.1, Nat.lt_of_lt_of_le hj.2.1 h.hz, hj.2.2⟩) _ _ h.vr }
theorem Tabs.fr {F : Nat → Prop} (h : Tabs w) (hf : Fr F w w') (hF : ∀ j, F j → 2 ≤ j) : Tabs w' := h.keep fun p hp => (cell_heap (hf.block p.block (by have := h.size; omega) (fun e => by have := hF _ e; omega))).symm
/-- What is left to read, out of memory. -/
def mW (n rb : Nat) (w : World) : Nat := match w.cell? ⟨rb, 2, none⟩ with
  | some (.int _ k) => if k = 0 then 0 else match w.cell? ⟨rb, 1, none⟩ with
    | some (.int _ a) => n - a.toNat + 1
    | _ => 0
  | _ => 0
theorem mW_of (h : RdT w rb A n c b T) : mW n rb w = T.W := by
  have h2 := h.rd.blk.cell 2
  have h1 := h.rd.blk.cell 1
  have hl := h.rd.len
  have hsl : T.s.length ≤ n := by rw [← hl]; exact h.hs.length_le
  simp at h1 h2
  unfold mW Tk.W
  rw [h2, h1]
  dsimp only
  by_cases hk : T.k = 0
  · rw [if_pos (by omega), if_pos hk]
  · rw [if_neg (by omega), if_neg hk]
    omega
end
def G9 (w : World) (rb vb z : Nat) (A : Option Addr) (n c : Nat) (b t : L8) (kind : Nat) (T : Tk) (ks : List L8) (vs : List JV) (kv lv : Value) (xs : List Value) (s : Nat) (w' : World) : Prop :=
  RdT w' rb A n c b T ∧ Fr (isRV rb vb) w w' ∧ z ≤ w'.heap.size ∧ w'.ownsRow w.heap.size TV 4 lv vs.length xs ∧ VRdL w' (InM w z kv lv) vs xs ∧
  (s ≤ 1 → Blk w' vb TV #[.int .i64 (kind : Int), .string ⟨t.toArray⟩, kv, lv]) ∧ (s = 0 → w'.ownsRow w.heap.size TSt 1 kv ks.length (sc ks)) ∧
  (2 ≤ s → ∃ kv', Blk w' vb TV #[.int .i64 (kind : Int), .string ⟨t.toArray⟩, kv', lv] ∧ w'.ownsRow w.heap.size TSt 1 kv' (ks.length + 1) (sc ks ++ [bstr T.t]) ∧ (kv'.ownBlock = kv.ownBlock ∨ ∃ g, kv'.ownBlock = some g ∧ z ≤ g))
section
variable {w wr w' : World} {rb vb z n c kind s : Nat} {A : Option Addr} {b t : L8} {T T' : Tk} {ks : List L8} {vs : List JV} {kv lv : Value} {xs : List Value}
theorem G9.of (h : MS w wr rb vb z A n c b t kind T ks vs kv lv xs) : G9 w rb vb z A n c b t kind T ks vs kv lv xs 0 wr :=
  ⟨h.tk, h.fr, h.hz, h.ol, h.vr, fun _ => h.blk, fun _ => h.ok, fun h => absurd h (by decide)⟩
theorem G9.below (h : G9 w rb vb z A n c b t kind T ks vs kv lv xs s wr) (hb : Below wr.heap.size wr w') : G9 w rb vb z A n c b t kind T ks vs kv lv xs s w' :=
  ⟨h.1.below hb, h.2.1.low hb, Nat.le_trans h.2.2.1 hb.size, own_later h.2.2.2.1 hb, VRdL.keep (fun j hj => hb.block j (Nat.lt_of_lt_of_le hj.2.1 h.2.2.1)) (fun _ h => h) _ _ h.2.2.2.2.1,
    fun h' => (h.2.2.2.2.2.1 h').below hb (h.2.2.2.2.2.1 h').lt, fun h' => own_later (h.2.2.2.2.2.2.1 h') hb, fun h' => by
      obtain ⟨kv', h1, h2, h3⟩ := h.2.2.2.2.2.2.2 h'
      exact ⟨kv', h1.below hb h1.lt, own_later h2 hb, h3⟩⟩
theorem G9.append (h : G9 w rb vb z A n c b t kind T ks vs kv lv xs 0 wr) (hg : wr.grownBy w' kv.ownBlock) (hrb : rb < w.heap.size) (hvb : vb < w.heap.size) (hA : ∀ ad, A = some ad → ad.block < w.heap.size) : G9 w rb vb z A n c b t kind T ks vs kv lv xs 1 w' := by
  obtain ⟨h1, h2, h3, h4, h5, h6, h7, h8⟩ := h
  have hk := own_block (h7 rfl)
  have hf : Fr (fun j => kv.ownBlock = some j) wr w' := Fr.of_grown hg (fun k e => e)
  have hne : ∀ g, lv.ownBlock = some g → kv.ownBlock ≠ some g := fun g hg' => by
    rcases h4.2 with ⟨e, _⟩ | ⟨g', cap, cur, e, _, hh, _⟩
    · rw [e] at hg'; cases hg'
    · rw [e] at hg'
      have : g' = g := by simpa [Value.ownBlock] using hg'
      subst this
      exact own_blk_ne (h7 rfl) hh (by decide)
  refine ⟨h1.fr hf (fun e => by have := hk _ e; omega) (fun ad e e2 => by have := hA ad e; have := hk _ e2; omega), h2.trans hf (fun j hj e => by have := hk _ e; omega), Nat.le_trans h3 hg.size, row_fr h4 hf (fun g hg' => hne g hg'), VRdL.keep (fun j hj => hf.block j (Nat.lt_of_lt_of_le hj.2.1 h3) hj.2.2.1) (fun _ h => h) _ _ h5, fun _ => hf.blk (h6 (by decide)) (fun e => by have := hk _ e; omega), fun h => absurd h (by decide), fun h => absurd h (by decide)⟩
theorem G9.store (h : G9 w rb vb z A n c b t kind T ks vs kv lv xs 1 wr) (kv' : Value) (ho : wr.ownsRow w.heap.size TSt 1 kv' (ks.length + 1) (sc ks ++ [bstr T.t])) (hk : kv'.ownBlock = kv.ownBlock ∨ ∃ g, kv'.ownBlock = some g ∧ z ≤ g) (hrv : vb ≠ rb) (hvb : vb < w.heap.size) (hA : ∀ ad, A = some ad → ad.block ≠ vb) : G9 w rb vb z A n c b t kind T ks vs kv lv xs 2 (wr.setCell ⟨vb, 2, none⟩ kv') := by
  obtain ⟨h1, h2, h3, h4, h5, h6, h7, h8⟩ := h
  have hf : Fr (fun j => j = vb) wr (wr.setCell ⟨vb, 2, none⟩ kv') := Fr.of_grown (gby_set wr vb 2 kv') (fun k e => by injection e with e; exact e.symm)
  refine ⟨h1.fr hf (fun e => hrv e.symm) hA, h2.tr (hf.up (fun j e => .inr e)), Nat.le_trans h3 hf.size, row_fr h4 hf (fun g hg' e => by have := own_block h4 g hg'; omega), VRdL.keep (fun j hj => hf.block j (Nat.lt_of_lt_of_le hj.2.1 h3) (fun e => by have := hj.1; omega)) (fun _ h => h) _ _ h5, fun h => absurd h (by decide), fun h => absurd h (by decide), fun _ => ⟨kv', (h6 (by decide)).set_ 2 kv', row_fr ho hf (fun g hg' e => by have := own_block ho g hg'; omega), hk⟩⟩
theorem G9.ms (h : G9 w rb vb z A n c b t kind T ks vs kv lv xs 2 wr) : ∃ kv', MS w wr rb vb z A n c b t kind T (ks ++ [T.t]) vs kv' lv xs := by
  obtain ⟨h1, h2, h3, h4, h5, h6, h7, h8⟩ := h
  obtain ⟨kv', b1, b2, b3⟩ := h8 (by decide)
  refine ⟨kv', h1, h2, h3, b1, ?_, h4, VRdL.keep (fun _ _ => rfl) (fun j hj => ⟨hj.1, hj.2.1, ?_, hj.2.2.2⟩) _ _ h5⟩
  · rw [List.length_append]
    have : sc (ks ++ [T.t]) = sc ks ++ [bstr T.t] := by unfold sc; rw [List.map_append]; rfl
    rw [this]
    exact b2
  · rcases b3 with e | ⟨g, e, hg⟩
    · rw [e]; exact hj.2.2.1
    · rw [e]
      intro e2
      injection e2 with e2
      have := hj.2.1
      omega
end
end Go.Proofs.YtmbjalcphdggnaaDoor
