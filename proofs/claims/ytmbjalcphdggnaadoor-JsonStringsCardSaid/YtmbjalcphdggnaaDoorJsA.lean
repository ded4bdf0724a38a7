/- The JSON reader: bytes and texts in memory. -/
import Derived.Test.YtmbjalcphdggnaaDoorEnv
import Derived.Test.YtmbjalcphdggnaaDoorShelf
import Derived.Test.YtmbjalcphdggnaaDoorRegW
import Derived.BigRegion
import Derived.Defers
import Derived.Recover
import Derived.Deep.QuietTactic
namespace Go.Proofs.YtmbjalcphdggnaaDoor
set_option linter.unusedSimpArgs false
set_option linter.unusedVariables false
open Go.RowKit
abbrev T8 : TypeId := 5
abbrev TI : TypeId := 3
abbrev TSt : TypeId := 9
abbrev L8 : Type := List UInt8
def u8v (x : UInt8) : Value := .int .u8 (x.toNat : Int)
def cs8 (c : L8) : List Value := c.map u8v
theorem cs8_len (c : L8) : (cs8 c).length = c.length := List.length_map _
theorem cs8_get (c : L8) (j : Nat) : (cs8 c)[j]? = c[j]?.map u8v := List.getElem?_map
theorem cs8_append (a b : L8) : cs8 (a ++ b) = cs8 a ++ cs8 b := List.map_append
theorem cs8_one (c : L8) : ∀ u ∈ cs8 c, u.oneCell' = true := by
  intro u hu
  obtain ⟨x, _, rfl⟩ := List.mem_map.1 hu; rfl
/-- A text. -/
def bstr (l : L8) : Value := .string ⟨l.toArray⟩
abbrev RB (w : World) (B : Nat) (A : Option Addr) (n : Nat) (l : L8) : Prop := Reads w B 1 A n (cs8 l)
theorem RB.len {w : World} {B : Nat} {A : Option Addr} {n : Nat} {l : L8} (h : RB w B A n l) : l.length = n := by have := h.1; rw [cs8_len] at this; omega
theorem RB.at_ {w : World} {B : Nat} {A : Option Addr} {n : Nat} {l : L8} (h : RB w B A n l) {k : Nat} (hk : k < n) (hl : k < l.length) : ∃ ad, A = some ad ∧ ad.block < B ∧ w.cell? (ad.add k) = some (.int .u8 (l[k].toNat : Int)) := by
  obtain ⟨ad, u, e, hb, hu, hc⟩ := Reads.at_ h hk
  rw [cs8_get, List.getElem?_eq_getElem hl] at hu
  injection hu with hu
  exact ⟨ad, e, hb, by rw [hc, ← hu]; rfl⟩
/-- From w to w' only the blocks of F and new ones have turned. -/
structure Fr (F : Nat → Prop) (w w' : World) : Prop where
  os : w'.os = w.os
  tape : w'.tape = w.tape
  output : w'.output = w.output
  size : w.heap.size ≤ w'.heap.size
  block : ∀ j, j < w.heap.size → ¬ F j → w'.heap[j]? = w.heap[j]?
theorem Fr.refl (F : Nat → Prop) (w : World) : Fr F w w := ⟨rfl, rfl, rfl, Nat.le_refl _, fun _ _ _ => rfl⟩
theorem Fr.trans {F F' : Nat → Prop} {a b c : World} (h : Fr F a b) (k : Fr F' b c) (hF : ∀ j, j < a.heap.size → F' j → F j) : Fr F a c :=
  ⟨k.os.trans h.os, k.tape.trans h.tape, k.output.trans h.output, Nat.le_trans h.size k.size, fun j hj hn => (k.block j (Nat.lt_of_lt_of_le hj h.size) (fun h2 => hn (hF j hj h2))).trans (h.block j hj hn)⟩
theorem Fr.tr {F : Nat → Prop} {a b c : World} (h : Fr F a b) (k : Fr F b c) : Fr F a c := h.trans k (fun _ _ h => h)
theorem Fr.of_below {F : Nat → Prop} {w w' : World} (h : Below w.heap.size w w') : Fr F w w' := ⟨h.os, h.tape, h.output, h.size, fun j hj _ => h.block j hj⟩
theorem Fr.low {F : Nat → Prop} {w w1 w' : World} (h : Fr F w w1) (k : Below w1.heap.size w1 w') : Fr F w w' := h.tr (Fr.of_below k)
theorem Fr.of_grown {F : Nat → Prop} {w w' : World} {r : Option Nat} (h : w.grownBy w' r) (hr : ∀ k, r = some k → F k) : Fr F w w' :=
  ⟨h.os, h.tape, h.output, h.size, fun j hj hn => h.block j hj (fun e => hn (hr j e.symm))⟩
theorem Fr.below {F : Nat → Prop} {w w' : World} (h : Fr F w w') {B : Nat} (hB : B ≤ w.heap.size) (hF : ∀ j, F j → B ≤ j) : Below B w w' :=
  ⟨h.os, h.tape, h.output, h.size, fun j hj => h.block j (by omega) (fun h2 => by have := hF j h2; omega)⟩
theorem Fr.up {F F' : Nat → Prop} {w w' : World} (h : Fr F w w') (hF : ∀ j, F j → F' j) : Fr F' w w' := ⟨h.os, h.tape, h.output, h.size, fun j hj hn => h.block j hj (fun h => hn (hF j h))⟩
theorem Fr.blk {F : Nat → Prop} {w w' : World} {g : Nat} {t : TypeId} {cs : Array Value} (h : Fr F w w') (hb : Blk w g t cs) (hn : ¬ F g) : Blk w' g t cs := (h.block g hb.lt hn).trans hb
theorem gby_set (W : World) (b i : Nat) (v : Value) : W.grownBy (W.setCell ⟨b, i, none⟩ v) (some b) := by
  refine ⟨rfl, rfl, rfl, by simp, fun j hj hne => Below.heap_setCell _ _ _ _ (fun e => hne (by rw [e]))⟩
theorem gb_trans {a b c : World} {o : Option Nat} (h : a.grownBy b o) (k : b.grownBy c o) : a.grownBy c o :=
  ⟨k.os.trans h.os, k.tape.trans h.tape, k.output.trans h.output, Nat.le_trans h.size k.size, fun j hj hne => (k.block j (Nat.lt_of_lt_of_le hj h.size) hne).trans (h.block j hj hne)⟩
theorem al_below (w : World) (o : Obj) : Below w.heap.size w (w.alloc o) := (Below.refl w.heap.size w).alloc (Nat.le_refl _) o
theorem below_drewN (w : World) (n : Nat) : Below w.heap.size w (w.drewN n) := ⟨rfl, rfl, rfl, Nat.le_refl _, fun _ _ => rfl⟩
theorem cell_heap {w w' : World} {p : Addr} (h : w'.heap[p.block]? = w.heap[p.block]?) : w'.cell? p = w.cell? p := by unfold World.cell?; rw [h]
theorem wrap_small {x : Int} (h1 : -9223372036854775808 ≤ x) (h2 : x < 9223372036854775808) : IntKind.i64.wrap x = x := by
  simp only [IntKind.wrap, IntKind.bits, IntKind.signed]
  simp
  omega
theorem Reads.far {w w' : World} {k : Nat} {G : Nat → Prop} {A : Option Addr} {n : Nat} {xs : List Value} {B : Nat} (h : Reads w B k A n xs) (hB : B ≤ w.heap.size) (hf : Fr G w w') (hA : ∀ ad, A = some ad → ¬ G ad.block) : Reads w' B k A n xs := by
  refine ⟨h.1, fun h0 => ?_⟩
  obtain ⟨ad, e, hb, hc⟩ := h.2 h0
  refine ⟨ad, e, hb, fun j u hu => ?_⟩
  have e' : (ad.add j).block = ad.block := block_of_add ad j
  exact (cell_heap (hf.block _ (by rw [e']; omega) (by rw [e']; exact hA ad e))).trans (hc j u hu)
theorem convert_any {w : World} {A : Option Addr} {n c : Nat} {l : L8} (h : RB w w.heap.size A n l) : (convert 22 9 (.slice A n c)).run Tryd.prog w = .ok (bstr l) w := by
  have hl := h.len
  rcases Nat.eq_zero_or_pos n with h0 | h0
  · subst h0
    have : l = [] := List.eq_nil_of_length_eq_zero hl
    subst this
    cases A with
    | none =>
      rw [run_convert_bytes_string w _ _ _ none 0 c Tryd.underlying22 Tryd.underlying5 Tryd.underlying9]
      simp [Conv.bytesToString]
      rfl
    | some a => exact run_convert_bytes_back w 22 9 5 a c [] Tryd.underlying22 Tryd.underlying5 Tryd.underlying9 (fun j hj => by simp at hj)
  · obtain ⟨ad, rfl, hb, hc⟩ := RB.at_ h h0 (by omega)
    subst hl
    refine run_convert_bytes_back w 22 9 5 ad c l Tryd.underlying22 Tryd.underlying5 Tryd.underlying9 (fun j hj => ?_)
    obtain ⟨ad', e, _, hc'⟩ := RB.at_ h hj hj
    injection e with e
    subst e
    exact hc'
theorem own_slice {w : World} {base n k : Nat} {e : TypeId} {v : Value} {xs : List Value} (h : w.ownsRow base e k v n xs) : ∃ A c, v = .slice A n c ∧ n ≤ c := by
  rcases h.2 with ⟨rfl, h0⟩ | ⟨g, cap, cur, rfl, _, _, hc, _⟩
  · exact ⟨none, 0, by rw [h0], by omega⟩
  · exact ⟨_, _, rfl, hc⟩
theorem own_lt {w : World} {base n k : Nat} {e : TypeId} {v : Value} {xs : List Value} (h : w.ownsRow base e k v n xs) : ∀ g, v.ownBlock = some g → g < w.heap.size := fun g hg => (h.lt g hg).2
theorem row_keep {w w' : World} {base : Nat} {e : TypeId} {size : Nat} {v : Value} {n : Nat} {xs : List Value} (h : w.ownsRow base e size v n xs) (hk : ∀ g, v.ownBlock = some g → w'.heap[g]? = w.heap[g]?) : w'.ownsRow base e size v n xs := by
  refine ⟨h.1, ?_⟩
  rcases h.2 with hn | ⟨g, cap, cur, rfl, hb, hh, r⟩
  · exact .inl hn
  · exact .inr ⟨g, cap, cur, rfl, hb, (hk g rfl).trans hh, r⟩
theorem row_fr {w w' : World} {F : Nat → Prop} {base : Nat} {e : TypeId} {size : Nat} {v : Value} {n : Nat} {xs : List Value} (h : w.ownsRow base e size v n xs) (hf : Fr F w w') (hv : ∀ g, v.ownBlock = some g → ¬ F g) : w'.ownsRow base e size v n xs :=
  row_keep h (fun g hg => hf.block g (own_lt h g hg) (hv g hg))
theorem below_lit {w w' : World} {o : Obj} (hg : (w.alloc o).grownBy w' (some w.heap.size)) : Below w.heap.size w w' :=
  ((Below.refl w.heap.size w).alloc (Nat.le_refl _) o).grown hg (by simp) (fun k hk => by injection hk with hk; omega)
theorem u8_info : (Tryd.prog.info? T8).map (fun i => (i.zero, i.size, i.bytes)) = some (some (.int .u8 0), 1, 1) := by kernel_rfl
end Go.Proofs.YtmbjalcphdggnaaDoor
