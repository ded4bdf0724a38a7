/- The scripts' writer: put. -/
import Derived.Test.YtcdhngppcpgojaaDoorLib
import Derived.Test.YtcdhngppcpgojaaDoorShelf
import Derived.Test.YtcdhngppcpgojaaDoorRegD
import Derived.Lib.AppendIntMem
import Derived.BigRegion
namespace Go.Proofs.YtcdhngppcpgojaaDoor
set_option linter.unusedSimpArgs false
set_option linter.unusedVariables false
open Go.RowKit
abbrev TStr : TypeId := 9
abbrev TWr : TypeId := 60
abbrev TInt : TypeId := 3
abbrev T8 : TypeId := 5
abbrev str (l : List UInt8) : Value := .string ⟨l.toArray⟩
/-- Blocks ahead of base, and those of no writer, stay. -/
structure Tn (base : Nat) (w w' : World) : Prop where
  os : w'.os = w.os
  tape : w'.tape = w.tape
  output : w'.output = w.output
  size : w.heap.size ≤ w'.heap.size
  block : ∀ j, j < w.heap.size → (j < base ∨ ∃ cs t, Blk w j t cs ∧ t ≠ TStr ∧ t ≠ TWr) → w'.heap[j]? = w.heap[j]?
theorem Tn.refl (base : Nat) (w : World) : Tn base w w := ⟨rfl, rfl, rfl, Nat.le_refl _, fun _ _ _ => rfl⟩
theorem Tn.trans {base : Nat} {a b c : World} (h : Tn base a b) (k : Tn base b c) : Tn base a c :=
  ⟨k.os.trans h.os, k.tape.trans h.tape, k.output.trans h.output, Nat.le_trans h.size k.size, fun j hj hk => by
    have e := h.block j hj hk
    refine (k.block j (Nat.lt_of_lt_of_le hj h.size) (hk.imp id fun ⟨cs, t, hb, h1, h2⟩ => ⟨cs, t, e.trans hb, h1, h2⟩)).trans e⟩
theorem Tn.of_below {base : Nat} {w w' : World} (h : Below w.heap.size w w') : Tn base w w' := ⟨h.os, h.tape, h.output, h.size, fun j hj _ => h.block j hj⟩
theorem Tn.below {base : Nat} {w w' : World} (h : Tn base w w') (hB : base ≤ w.heap.size) : Below base w w' := ⟨h.os, h.tape, h.output, h.size, fun j hj => h.block j (by omega) (.inl hj)⟩
theorem Tn.of_set {base b i : Nat} {w : World} {cs : Array Value} (h : Blk w b TWr cs) (hb : base ≤ b) (v : Value) : Tn base w (w.setCell ⟨b, i, none⟩ v) :=
  ⟨rfl, rfl, rfl, by simp, fun j hj hk => Below.heap_setCell _ _ _ _ (fun e => by
    subst e
    rcases hk with hk | ⟨cs', t, hk, _, h2⟩
    · omega
    · exact Blk.ne_ hk h h2 rfl)⟩
theorem Tn.of_row {base : Nat} {w w' : World} {v : Value} {n : Nat} {xs : List Value} (h : w.ownsRow base TStr 1 v n xs) (hg : w.grownBy w' v.ownBlock) : Tn base w w' :=
  ⟨hg.os, hg.tape, hg.output, hg.size, fun j hj hk => hg.block j hj (fun e => by
    rcases hk with hk | ⟨cs', t, hk, h1, _⟩
    · have := (h.lt j e.symm).1; omega
    · exact own_blk_ne h hk (fun e => h1 e.symm) e.symm)⟩
theorem Tn.blk {base : Nat} {w w' : World} {g : Nat} {t : TypeId} {cs : Array Value} (h : Tn base w w') (hb : Blk w g t cs) (h1 : t ≠ TStr) (h2 : t ≠ TWr) : Blk w' g t cs := (h.block g hb.lt (.inr ⟨cs, t, hb, h1, h2⟩)).trans hb
/-- A writer that holds words. -/
structure Wr (w : World) (base b : Nat) (xs : List (List UInt8)) (v : Value) : Prop where
  blk : Blk w b TWr #[v]
  row : w.ownsRow base TStr 1 v xs.length (xs.map str)
  hb : base ≤ b
theorem Wr.later {w w' : World} {base b : Nat} {xs : List (List UInt8)} {v : Value} (h : Wr w base b xs v) (hb : Below w.heap.size w w') : Wr w' base b xs v := ⟨h.blk.below hb h.blk.lt, own_later h.row hb, h.hb⟩
theorem str_one (xs : List (List UInt8)) : ∀ u ∈ xs.map str, u.oneCell' = true := by
  intro u hu
  obtain ⟨x, _, rfl⟩ := List.mem_map.1 hu
  rfl
theorem str_info : (Tryd.prog.info? TStr).map (fun i => (i.zero, i.size, i.bytes)) = some (some (.string ⟨#[]⟩), 1, 16) := by kernel_rfl
theorem gby_set (W : World) (b i : Nat) (v : Value) : W.grownBy (W.setCell ⟨b, i, none⟩ v) (some b) := by
  refine ⟨rfl, rfl, rfl, by simp, fun j hj hne => Below.heap_setCell _ _ _ _ (fun e => hne (by rw [e]))⟩
theorem row_form {w : World} {base : Nat} {e : TypeId} {size : Nat} {v : Value} {n : Nat} {xs : List Value} (h : w.ownsRow base e size v n xs) : ∃ A c, v = .slice A n c := by
  rcases h.2 with ⟨hv, h0⟩ | ⟨g, cap, cur, hv, _⟩
  · exact ⟨none, 0, by rw [hv, h0]⟩
  · exact ⟨_, cap, hv⟩
theorem row_keep {w w' : World} {base : Nat} {e : TypeId} {size : Nat} {v : Value} {n : Nat} {xs : List Value} (h : w.ownsRow base e size v n xs) (hk : ∀ g, v.ownBlock = some g → w'.heap[g]? = w.heap[g]?) : w'.ownsRow base e size v n xs := by
  refine ⟨h.1, ?_⟩
  rcases h.2 with hn | ⟨g, cap, cur, rfl, hbs, hgg, rest⟩
  · exact .inl hn
  · exact .inr ⟨g, cap, cur, rfl, hbs, (hk g rfl).trans hgg, rest⟩
set_option maxRecDepth 100000 in
set_option maxHeartbeats 1000000 in
theorem put_any {w : World} {base b : Nat} {xs ys : List (List UInt8)} {v : Value} (h : Wr w base b xs v) (A : Option Addr) (n c : Nat) (hr : Reads w w.heap.size 1 A n (ys.map str)) (hn : xs.length + n ≤ 4000000) (hbase : base ≤ w.heap.size) :
    Calls Tryd.prog 29 #[.pointer (some ⟨b, 0, none⟩), .slice A n c] w fun e w' => e = .returned (.tuple #[]) ∧ (∃ v', Wr w' base b (xs ++ ys) v') ∧ Tn base w w' := by
  obtain ⟨i0, hi0, hz0, hz1, hz2⟩ := info_parts str_info
  obtain ⟨A0, c0, rfl⟩ := row_form h.row
  have H := hide h
  have HR := hide hr
  have kx := h.blk.cell 0; have qx := h.blk.frozen 0; have zx := h.blk.lt
  simp at kx
  have hym : ys.length = n := by have := hr.1; simpa using this
  clear h hr
  go_enter Tryd.func29, Tryd.ntmps29
  go_wp2_with (at_builtin; (refine wpList_append_any _ rfl (.tmp 8) (.tmp 9) _ rfl base TStr i0 _ 1 16 Tryd.underlying58 hi0 hz0 hz1 hz2 rfl (by omega) _ xs.length _ rfl H.out.row w.heap.size A n c (ys.map str) rfl HR.out (str_one ys) (by unfold maxLen; omega) (by omega) hbase ?_); intro v' w2 ho hg _; have hbk : Blk w2 b TWr #[.slice A0 xs.length c0] := H.out.blk.grown hg (fun e => own_blk_ne H.out.row H.out.blk (by decide) e.symm); obtain ⟨A2, c2, rfl⟩ := row_form ho; have ky := hbk.cell 0; have qy := hbk.frozen 0; have zy := hbk.lt; simp at ky; have HO := hide ho; have HG := hide hg; have HBK := hide hbk; clear ho hg hbk kx qx zx)
  go_end0
  have hT := Tn.of_row H.out.row HG.out
  refine ⟨rfl, ⟨.slice A2 (xs.length + n) c2, HBK.out.set_ 0 _, ?_, H.out.hb⟩, hT.trans (Tn.of_set HBK.out H.out.hb _)⟩
  have h2 := row_keep HO.out (w' := w2.setCell ⟨b, 0, none⟩ (.slice A2 (xs.length + n) c2)) (fun g hg => (gby_set w2 b 0 _).block g (HO.out.lt g hg).2 (fun e => by injection e with e; subst e; exact own_blk_ne HO.out HBK.out (by decide) hg))
  rw [List.length_append, hym, List.map_append]
  exact h2
end Go.Proofs.YtcdhngppcpgojaaDoor
