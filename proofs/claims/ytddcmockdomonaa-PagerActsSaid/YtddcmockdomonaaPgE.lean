/- The sectors' disk in memory: which blocks it holds, what stays as it is when others turn. -/
import Derived.Test.YtddcmockdomonaaPgC
import Derived.Test.YtddcmockdomonaaPgD
import Derived.Test.YtddcmockdomonaaRegD
namespace Go.Proofs.Ytddcmockdomonaa
set_option linter.unusedSimpArgs false
set_option linter.unusedVariables false
open Go.RowKit
/-- From w to w' only the blocks of F and new ones have turned. -/
structure Fr (F : Nat → Prop) (w w' : World) : Prop where
  os : w'.os = w.os
  tape : w'.tape = w.tape
  output : w'.output = w.output
  size : w.heap.size ≤ w'.heap.size
  block : ∀ j, j < w.heap.size → ¬ F j → w'.heap[j]? = w.heap[j]?
theorem Fr.refl (F : Nat → Prop) (w : World) : Fr F w w := ⟨rfl, rfl, rfl, Nat.le_refl _, fun _ _ _ => rfl⟩
theorem Fr.trans {F F' : Nat → Prop} {a b c : World} (h : Fr F a b) (k : Fr F' b c) (hF : ∀ j, j < a.heap.size → F' j → F j) : Fr F a c :=
  ⟨k.os.trans h.os, k.tape.trans h.tape, k.output.trans h.output, Nat.le_trans h.size k.size, fun j hj hn => (k.block j (Nat.lt_of_lt_of_le hj h.size) (fun h2 => hn (hF j hj h2))).trans (h.block j hj hn)⟩
theorem Fr.of_below {F : Nat → Prop} {w w' : World} (h : Below w.heap.size w w') : Fr F w w' := ⟨h.os, h.tape, h.output, h.size, fun j hj _ => h.block j hj⟩
theorem Fr.of_grown {F : Nat → Prop} {w w' : World} {r : Option Nat} (h : w.grownBy w' r) (hr : ∀ k, r = some k → F k) : Fr F w w' :=
  ⟨h.os, h.tape, h.output, h.size, fun j hj hn => h.block j hj (fun e => hn (hr j e.symm))⟩
theorem Fr.below {F : Nat → Prop} {w w' : World} (h : Fr F w w') {B : Nat} (hB : B ≤ w.heap.size) (hF : ∀ j, F j → B ≤ j) : Below B w w' :=
  ⟨h.os, h.tape, h.output, h.size, fun j hj => h.block j (by omega) (fun h2 => by have := hF j h2; omega)⟩
theorem Fr.drew {F : Nat → Prop} {w w' : World} (h : Fr F w w') : Fr F w w'.drew := ⟨h.os, h.tape, h.output, h.size, h.block⟩
abbrev T8 : TypeId := 5
abbrev TW : TypeId := 85
abbrev TD : TypeId := 65
/-- What is in a sector. -/
abbrev Cn : Type := List UInt8
def u8v (x : UInt8) : Value := .int .u8 (x.toNat : Int)
def okC (c : Cn) : Prop := c.length = 512
/-- A slice of 512 places that has them. -/
def CapOk (v : Value) : Prop := ∃ A c, v = .slice A 512 c ∧ 512 ≤ c
def zC : Cn := List.replicate 512 0
theorem okC_z : okC zC := List.length_replicate
def cs8 (c : Cn) : List Value := c.map u8v
theorem cs8_len (c : Cn) : (cs8 c).length = c.length := List.length_map _
theorem cs8_get (c : Cn) (j : Nat) : (cs8 c)[j]? = c[j]?.map u8v := List.getElem?_map
/-- v is a slice of 512 bytes, those of c, in a block of F. -/
def Fil (w : World) (F : Nat → Prop) (v : Value) (c : Cn) : Prop :=
  (okC c ∧ CapOk v) ∧ ∃ g cap cs, v = .slice (some ⟨g, 0, none⟩) 512 cap ∧ F g ∧ Blk w g T8 cs ∧ ∀ j, j < 512 → cs[j]? = (cs8 c)[j]?
theorem Fil.keep {w w' : World} {F F' : Nat → Prop} {v : Value} {c : Cn} (h : Fil w F v c) (hk : ∀ j, F j → w'.heap[j]? = w.heap[j]?) (hF : ∀ j, F j → F' j) : Fil w' F' v c := by
  obtain ⟨hc, g, cap, cs, e, hg, hb, hcs⟩ := h
  exact ⟨hc, g, cap, cs, e, hF g hg, (hk g hg).trans hb, hcs⟩
theorem Fil.turn {w w' : World} {F F' : Nat → Prop} {v : Value} {c : Cn} (h : Fil w F v c) {t : TypeId} {b : Nat} {cs : Array Value} (hB : Blk w b t cs) (ht : T8 ≠ t) (hg : w.grownBy w' (some b)) (hF : ∀ j, F j → F' j) : Fil w' F' v c := by
  obtain ⟨hc, g, cap, cs, e, hf, hb, hcs⟩ := h
  refine ⟨hc, g, cap, cs, e, hF g hf, hb.grown hg (fun h2 => ?_), hcs⟩
  injection h2 with h2
  exact Blk.ne_ hb hB ht h2
theorem Fil.below {w w' : World} {F F' : Nat → Prop} {v : Value} {c : Cn} (h : Fil w F v c) (hb : Below w.heap.size w w') (hF : ∀ j, F j → F' j) : Fil w' F' v c := by
  obtain ⟨hc, g, cap, cs, e, hg, hk, hcs⟩ := h
  exact ⟨hc, g, cap, cs, e, hF g hg, hk.below hb hk.lt, hcs⟩
theorem Fil.grown_row {w w' : World} {F F' : Nat → Prop} {v u : Value} {c : Cn} {base n : Nat} {xs : List Value} (h : Fil w F v c) (hr : w.ownsRow base TW 2 u n xs) (hg : w.grownBy w' u.ownBlock) (hF : ∀ j, F j → F' j) : Fil w' F' v c := by
  obtain ⟨hc, g, cap, cs, e, hf, hb, hcs⟩ := h
  exact ⟨hc, g, cap, cs, e, hF g hf, hb.grown hg (fun h2 => own_blk_ne hr hb (by decide) h2.symm), hcs⟩
theorem Fil.reads {w : World} {F : Nat → Prop} {v : Value} {c : Cn} (h : Fil w F v c) : ∃ g cap, v = .slice (some ⟨g, 0, none⟩) 512 cap ∧ F g ∧ Reads w w.heap.size 1 (some ⟨g, 0, none⟩) 512 (cs8 c) := by
  obtain ⟨hc, g, cap, cs, e, hf, hb, hcs⟩ := h
  refine ⟨g, cap, e, hf, by rw [cs8_len, hc.1], fun _ => ⟨_, rfl, hb.lt, fun j u hu => ?_⟩⟩
  have hj : j < 512 := by have := (List.getElem?_eq_some_iff.1 hu).1; rw [cs8_len, hc.1] at this; exact this
  rw [show (⟨g, 0, none⟩ : Addr).add j = ⟨g, j, none⟩ by unfold Addr.add; split <;> simp_all, hb.cell]
  exact (hcs j hj).trans hu
theorem Fil.of_row {w : World} {base : Nat} {v : Value} {c : Cn} {F : Nat → Prop} (h : w.ownsRow base T8 1 v 512 (cs8 c)) (hc : okC c) (hF : ∀ g, base ≤ g → g < w.heap.size → F g) : Fil w F v c := by
  obtain ⟨g, cap, hv, hg, hlt⟩ := h.form (by omega)
  subst hv
  have hcell := h.cells (g := g) rfl
  rcases h.2 with ⟨e, hn⟩ | ⟨g', cap', cur, e, _, hh, hle, _, hsz, htk⟩
  · cases e
  · injection e with e1 e2 e3
    injection e1 with e1
    injection e1 with e1
    subst e1
    refine ⟨⟨hc, _, _, rfl, by omega⟩, g, cap, cur, rfl, hF g hg hlt, hh, fun j hj => ?_⟩
    have h1 : (cur.toList.take (512 * 1))[j]? = (cs8 c)[j]? := by rw [htk]
    rw [List.getElem?_take, if_pos (by omega)] at h1
    rw [← Array.getElem?_toList, h1]
theorem cs8_one (c : Cn) : ∀ u ∈ cs8 c, u.oneCell' = true := by
  intro u hu
  obtain ⟨x, _, rfl⟩ := List.mem_map.1 hu; rfl
/-- A write that is not yet sure. -/
structure UW where
  at_ : Int
  v : Value
  c : Cn
def UW.enc (x : UW) : List Value := [.int .i64 x.at_, x.v]
abbrev Z0 : DataW Value := .held (.slice none 0 0)
abbrev kl (k : Int) : Lit := .int .i64 k
structure SecG (w : World) (F : Nat → Prop) (b : Nat) (out : Bool) (left size : Int) (S : Int → Cn) (L : List (Int × Cn)) (N : Nat) (m : Nat) (u : Value) (n : Nat) (D : DataW Value) (us : List UW) : Prop where
  blk : Blk w b TD (dk out left size (some m) u)
  fb : F b
  fm : F m
  map : DMap w m n D
  row : w.ownsRow 0 TW 2 u us.length (us.flatMap UW.enc)
  fu : ∀ g, u.ownBlock = some g → F g
  fil : ∀ x ∈ us, Fil w F x.v x.c ∧ 0 ≤ x.at_ ∧ x.at_ < size
  hL : us.map (fun x => (x.at_, x.c)) = L
  sure : ∀ k : Int, 0 ≤ k → k < size → (Maps.has D (kl k) = true → ∃ v, D.atKey (kl k) Z0 = .held v ∧ Fil w F v (S k)) ∧ (Maps.has D (kl k) = false → S k = zC)
  hn : n + us.length ≤ N
  hN : N ≤ 200000
  hs : 1 ≤ size ∧ size ≤ 65536
  hl : 0 ≤ left ∧ left < 9223372036854775808
  flt : ∀ j, F j → j < w.heap.size
  dom : ∀ k : Int, Maps.has D (kl k) = true → 0 ≤ k ∧ k < size
def Sec (w : World) (F : Nat → Prop) (b : Nat) (out : Bool) (left size : Int) (S : Int → Cn) (L : List (Int × Cn)) (N : Nat) : Prop :=
  ∃ m u n D us, SecG w F b out left size S L N m u n D us
theorem row_keep {w w' : World} {base : Nat} {e : TypeId} {size : Nat} {v : Value} {n : Nat} {xs : List Value} (h : w.ownsRow base e size v n xs) (hk : ∀ g, v.ownBlock = some g → w'.heap[g]? = w.heap[g]?) : w'.ownsRow base e size v n xs := by
  refine ⟨h.1, ?_⟩
  rcases h.2 with hn | ⟨g, cap, cur, rfl, hbs, hgg, rest⟩
  · exact .inl hn
  · exact .inr ⟨g, cap, cur, rfl, hbs, (hk g rfl).trans hgg, rest⟩
theorem map_keep {w w' : World} {b n : Nat} {D : DataW Value} (h : DMap w b n D) (hk : w'.heap[b]? = w.heap[b]?) : DMap w' b n D := by
  obtain ⟨es, clock, hb, r⟩ := h
  exact ⟨es, clock, hk.trans hb, r⟩
theorem map_ne {w : World} {b n g : Nat} {D : DataW Value} {t : TypeId} {cs : Array Value} (h : DMap w b n D) (hg : Blk w g t cs) : b ≠ g := by
  rintro rfl
  obtain ⟨es, clock, hb, r⟩ := h
  unfold Blk at hg
  rw [hb] at hg
  cases hg
theorem map_ne_row {w : World} {b n : Nat} {D : DataW Value} {base : Nat} {e : TypeId} {size k : Nat} {v : Value} {xs : List Value} (h : DMap w b n D) (hr : w.ownsRow base e size v k xs) : v.ownBlock ≠ some b := by
  rcases hr.2 with ⟨rfl, _⟩ | ⟨g', cap, cur, rfl, _, hh, _⟩
  · simp [Value.ownBlock]
  · intro he
    have : g' = b := by simpa [Value.ownBlock] using he
    subst this
    exact map_ne h (show Blk w g' e cur from hh) rfl
section
variable {w w' : World} {F F' : Nat → Prop} {b : Nat} {out : Bool} {left size : Int} {S : Int → Cn} {L : List (Int × Cn)} {N m : Nat} {u : Value} {n : Nat} {D : DataW Value} {us : List UW}
/-- The disk stays as it is while no block of its own turns. -/
theorem SecG.keep (h : SecG w F b out left size S L N m u n D us) (hk : ∀ j, F j → w'.heap[j]? = w.heap[j]?) (hF : ∀ j, F j → F' j) (hlt : ∀ j, F' j → j < w'.heap.size) : SecG w' F' b out left size S L N m u n D us where
  blk := (hk b h.fb).trans h.blk
  fb := hF b h.fb
  fm := hF m h.fm
  map := map_keep h.map (hk m h.fm)
  row := row_keep h.row fun g hg => hk g (h.fu g hg)
  fu := fun g hg => hF g (h.fu g hg)
  fil := fun x hx => ⟨(h.fil x hx).1.keep hk hF, (h.fil x hx).2⟩
  hL := h.hL
  sure := fun k h0 h1 => ⟨fun hh => by
    obtain ⟨v, hv, hf⟩ := (h.sure k h0 h1).1 hh
    exact ⟨v, hv, hf.keep hk hF⟩, (h.sure k h0 h1).2⟩
  hn := h.hn
  hN := h.hN
  hs := h.hs
  hl := h.hl
  flt := hlt
  dom := h.dom
theorem SecG.below (h : SecG w F b out left size S L N m u n D us) (hb : Below w.heap.size w w') : SecG w' F b out left size S L N m u n D us :=
  h.keep (fun j hj => hb.block j (h.flt j hj)) (fun _ hj => hj) (fun j hj => Nat.lt_of_lt_of_le (h.flt j hj) hb.size)
theorem Sec.below (h : Sec w F b out left size S L N) (hb : Below w.heap.size w w') : Sec w' F b out left size S L N := by
  obtain ⟨m, u, n, D, us, h⟩ := h
  exact ⟨m, u, n, D, us, h.below hb⟩
/-- .. and while another's blocks turn. -/
theorem Sec.apart {G : Nat → Prop} (h : Sec w F b out left size S L N) (hb : Fr G w w') (hd : ∀ j, F j → ¬ G j) : Sec w' F b out left size S L N := by
  obtain ⟨m, u, n, D, us, h⟩ := h
  exact ⟨m, u, n, D, us, h.keep (fun j hj => hb.block j (h.flt j hj) (hd j hj)) (fun _ hj => hj) (fun j hj => Nat.lt_of_lt_of_le (h.flt j hj) hb.size)⟩
theorem Sec.lt (h : Sec w F b out left size S L N) : ∀ j, F j → j < w.heap.size := by
  obtain ⟨m, u, n, D, us, h⟩ := h
  exact h.flt
theorem Sec.fb (h : Sec w F b out left size S L N) : F b := by
  obtain ⟨m, u, n, D, us, h⟩ := h
  exact h.fb
/-- The disk's own block is written: nothing else of it turns. -/
theorem SecG.own {out' : Bool} {left' : Int} (h : SecG w F b out left size S L N m u n D us) (hb : w.grownBy w' (some b)) (hB : Blk w' b TD (dk out' left' size (some m) u)) (hl' : 0 ≤ left' ∧ left' < 9223372036854775808) :
    SecG w' F b out' left' size S L N m u n D us where
  blk := hB
  fb := h.fb
  fm := h.fm
  map := h.map.kept hb (fun e => by injection e with e; exact map_ne h.map h.blk e)
  row := row_keep h.row fun g hg => hb.block g (h.flt g (h.fu g hg)) (fun e => by injection e with e; subst e; exact own_blk_ne h.row h.blk (by decide) hg)
  fu := h.fu
  fil := fun x hx => ⟨(h.fil x hx).1.turn h.blk (by decide) hb (fun _ h => h), (h.fil x hx).2⟩
  hL := h.hL
  sure := fun k h0 h1 => ⟨fun hh => by
    obtain ⟨v, hv, hf⟩ := (h.sure k h0 h1).1 hh
    exact ⟨v, hv, hf.turn h.blk (by decide) hb (fun _ h => h)⟩, (h.sure k h0 h1).2⟩
  hn := h.hn
  hN := h.hN
  hs := h.hs
  hl := hl'
  flt := fun j hj => Nat.lt_of_lt_of_le (h.flt j hj) hb.size
  dom := h.dom
end
theorem burnL_ok {left : Int} (h : 0 ≤ left ∧ left < 9223372036854775808) : 0 ≤ burnL left ∧ burnL left < 9223372036854775808 := by
  unfold burnL; split <;> omega
theorem sec_burn {w : World} {F : Nat → Prop} {b : Nat} {out : Bool} {left size : Int} {S : Int → Cn} {L : List (Int × Cn)} {N m : Nat} {u : Value} {n : Nat} {D : DataW Value} {us : List UW} (h : SecG w F b out left size S L N m u n D us) :
    Calls Try.prog 45 #[.pointer (some ⟨b, 0, none⟩)] w fun e w' => e = .returned (.bool (burnO out left)) ∧ SecG w' F b (burnO out left) (burnL left) size S L N m u n D us ∧ w.grownBy w' (some b) := by
  refine (burn_any b out left size (some m) u w h.blk h.hl).mono ?_
  rintro e w' ⟨rfl, hb, hg⟩
  exact ⟨rfl, h.own hg hb (burnL_ok h.hl), hg⟩
theorem sec_fault {w : World} {F : Nat → Prop} {b : Nat} {out : Bool} {left size : Int} {S : Int → Cn} {L : List (Int × Cn)} {N m : Nat} {u : Value} {n : Nat} {D : DataW Value} {us : List UW} (at_ : Int) (h : SecG w F b out left size S L N m u n D us) :
    Calls Try.prog 40 #[.pointer (some ⟨b, 0, none⟩), .int .i64 at_] w fun e w' => e = .returned (.int .i64 (faultE out size at_)) ∧ SecG w' F b out left size S L N m u n D us ∧ Below w.heap.size w w' := by
  refine (fault_any b out left size at_ (some m) u w h.blk).mono ?_
  rintro e w' ⟨rfl, hb⟩
  exact ⟨rfl, h.below hb, hb⟩
end Go.Proofs.Ytddcmockdomonaa
