/- The scripts' reader: next. -/
import Derived.Test.YtcdhngppcpgojaaDoorScrQ
import Derived.Test.YtcdhngppcpgojaaDoorShelfB
import Derived.Defers
namespace Go.Proofs.YtcdhngppcpgojaaDoor
set_option linter.unusedSimpArgs false
set_option linter.unusedVariables false
open Go.RowKit
abbrev TRd : TypeId := 79
/-- A reader that has words to read. -/
structure RdAt (w : World) (b : Nat) (A : Option Addr) (c : Nat) (ws : List (List UInt8)) (bad : Bool) : Prop where
  k : Blk w b TRd #[.slice A ws.length c, .bool bad]
  r : Reads w b 1 A ws.length (ws.map str)
  c : ws.length ≤ c
def Rd (w : World) (b : Nat) (ws : List (List UInt8)) (bad : Bool) : Prop := ∃ A c, RdAt w b A c ws bad
theorem gb_refl (w : World) (o : Option Nat) : w.grownBy w o := ⟨rfl, rfl, rfl, Nat.le_refl _, fun _ _ _ => rfl⟩
theorem gb_trans {a b c : World} {o : Option Nat} (h : a.grownBy b o) (k : b.grownBy c o) : a.grownBy c o :=
  ⟨k.os.trans h.os, k.tape.trans h.tape, k.output.trans h.output, Nat.le_trans h.size k.size, fun j hj hne => (k.block j (Nat.lt_of_lt_of_le hj h.size) hne).trans (h.block j hj hne)⟩
theorem gb_below {a b : World} {o : Option Nat} (h : Below a.heap.size a b) : a.grownBy b o := ⟨h.os, h.tape, h.output, h.size, fun j hj _ => h.block j hj⟩
theorem gb_set (w : World) (b i : Nat) (v : Value) : w.grownBy (w.setCell ⟨b, i, none⟩ v) (some b) := gby_set w b i v
theorem gb_base {a c : World} {base b : Nat} (h : a.grownBy c (some b)) (hb : base ≤ b) (hs : base ≤ a.heap.size) : Below base a c := ⟨h.os, h.tape, h.output, h.size, fun j hj => h.block j (by omega) (fun e => by injection e with e; omega)⟩
theorem RdAt.below {w w' : World} {b c : Nat} {A : Option Addr} {ws : List (List UInt8)} {bad : Bool} (h : RdAt w b A c ws bad) (hb : Below w.heap.size w w') : RdAt w' b A c ws bad :=
  ⟨h.k.below hb h.k.lt, h.r.keep (fun p hp => hb.cell (Nat.lt_trans hp h.k.lt)), h.c⟩
theorem Rd.below {w w' : World} {b : Nat} {ws : List (List UInt8)} {bad : Bool} (h : Rd w b ws bad) (hb : Below w.heap.size w w') : Rd w' b ws bad := by
  obtain ⟨A, c, h⟩ := h
  exact ⟨A, c, h.below hb⟩
theorem reads_open {w : World} {B n : Nat} {A : Option Addr} {xs : List Value} (h : Reads w B 1 A n xs) (hn : 0 < n) : ∃ g o, A = some ⟨g, o, none⟩ ∧ g < B ∧ ∀ j u, xs[j]? = some u → w.cell? ⟨g, o + j, none⟩ = some u := by
  have hs : Sl 1 (fun v : Value => [v]) w B A n xs := ⟨by have := h.1; omega, by rw [show xs.flatMap (fun v => [v]) = xs by simp]; exact h⟩
  obtain ⟨g, o, e, hg, hc⟩ := hs.at (fun _ => rfl) (by omega) hn
  refine ⟨g, o, e, hg, fun j u hu => ?_⟩
  obtain ⟨hj, rfl⟩ := List.getElem?_eq_some_iff.1 hu
  have := hc j hj 0 _ rfl
  simpa using this
theorem reads_shut {w : World} {B g o : Nat} {xs : List Value} (hg : g < B) (h : ∀ j u, xs[j]? = some u → w.cell? ⟨g, o + j, none⟩ = some u) : Reads w B 1 (some ⟨g, o, none⟩) xs.length xs :=
  ⟨by simp, fun _ => ⟨_, rfl, hg, fun j u hu => by rw [show (⟨g, o, none⟩ : Addr).add j = ⟨g, o + j, none⟩ by unfold Addr.add; split <;> simp_all]; exact h j u hu⟩⟩
/-- What the deferred closure leaves. -/
def NxP (w : World) (b : Nat) (ws : List (List UInt8)) (bad : Bool) (w' : World) : Prop := Rd w' b ws bad ∧ w.grownBy w' (some b)
theorem hmf : ∀ (fn : Fn) (first cap : Array Value) (w : World), (Instr.makeFunc fn first cap).run Tryd.prog w = .ok (.func fn first cap) w := fun _ _ _ _ => rfl
set_option maxRecDepth 100000 in
set_option maxHeartbeats 1000000 in
theorem next_deferred (w : World) (pb b : Nat) (x : List UInt8) (ws : List (List UInt8)) (bad : Bool) (u : FrameMode) (hp : w.cell? ⟨pb, 0, none⟩ = some (.pointer (some ⟨b, 0, none⟩))) (hpl : pb < w.heap.size) (h : Rd w b (x :: ws) bad) :
    CallsD Tryd.prog 51 #[.pointer (some ⟨pb, 0, none⟩)] u w fun e u' w' => u' = u ∧ e = .returned (.tuple #[]) ∧ NxP w b ws bad w' := by
  obtain ⟨A, c, h⟩ := h
  obtain ⟨g, o, rfl, hgb, hcs⟩ := reads_open h.r (by simp)
  have HCS := hide hcs
  have H := hide h
  clear hcs
  have kx := h.k.cell; have qx := h.k.frozen; have zx := h.k.lt
  have hc := h.c
  clear h
  go_enter_d Tryd.func51, Tryd.ntmps51
  go_wp2
  simp only [List.length_cons] at kx hc
  go_region
  go_end0
  refine ⟨rfl, ⟨_, _, H.out.k.set_ 0 _, ?_, by omega⟩, gb_trans (gb_set w b 0 _) (gb_below (Below.refl _ _).drew)⟩
  cases ws with
  | nil => exact ⟨rfl, fun h => absurd h (by simp)⟩
  | cons y ws =>
    rw [if_neg (by simp at hc; omega)]
    have := reads_shut (w := (w.setCell ⟨b, 0, none⟩ (.slice (some ⟨g, o + 1, none⟩) (y :: ws).length (c - 1))).drew) (o := o + 1) (xs := (y :: ws).map str) hgb (fun j u hu => by
      rw [show (w.setCell ⟨b, 0, none⟩ (.slice (some ⟨g, o + 1, none⟩) (y :: ws).length (c - 1))).drew.cell? ⟨g, o + 1 + j, none⟩ = w.cell? ⟨g, o + 1 + j, none⟩ from World.cell?_setCell_other w _ _ _ (fun e => by injection e with e1; omega)]
      have h2 := HCS.out (j + 1) u (by simpa using hu)
      rw [show o + (j + 1) = o + 1 + j by omega] at h2
      exact h2)
    rw [List.length_map] at this
    exact this
set_option maxRecDepth 100000 in
set_option maxHeartbeats 1000000 in
theorem next_any (w : World) (b : Nat) (ws : List (List UInt8)) (bad : Bool) (h : Rd w b ws bad) :
    Calls Tryd.prog 35 #[.pointer (some ⟨b, 0, none⟩)] w fun e w' => e = .returned (str (ws.headD [])) ∧ NxP w b ws.tail (bad || ws.isEmpty) w' := by
  have hm := hmf
  cases ws with
  | nil =>
    obtain ⟨A, c, h⟩ := h
    have H := hide h
    have kx := h.k.cell; have qx := h.k.frozen; have zx := h.k.lt
    simp only [List.length_nil] at kx
    clear h
    go_enter_defers Tryd.func35, Tryd.ntmps35
    go_wp2
    refine ⟨_, results_tmp rfl _ _ _, rfl, ⟨A, c, ?_⟩, gb_trans (gb_set w b 1 _) (gb_below ((Below.refl _ _).alloc (Nat.le_refl _) _))⟩
    have h1 : RdAt (w.setCell ⟨b, 1, none⟩ (.bool true)) b A c [] (bad || true) := ⟨by rw [Bool.or_true]; exact H.out.k.set_ 1 _, ⟨rfl, fun h => absurd h (by simp)⟩, H.out.c⟩
    exact h1.below ((Below.refl _ _).alloc (Nat.le_refl _) _)
  | cons x ws =>
    obtain ⟨A, c, h⟩ := h
    obtain ⟨g, o, rfl, hgb, hcs⟩ := reads_open h.r (by simp)
    have hx := hcs 0 (str x) rfl
    rw [Nat.add_zero] at hx
    have H := hide h
    have kx := h.k.cell; have qx := h.k.frozen; have zx := h.k.lt
    have hc := h.c
    have hzg : g < w.heap.size := Nat.lt_trans hgb zx
    simp only [List.length_cons] at kx hc
    clear h hcs
    go_enter_defers Tryd.func35, Tryd.ntmps35
    go_wp2
    have hb : Below w.heap.size w (w.alloc (Obj.cells #[.pointer (some ⟨b, 0, none⟩)] 76)) := (Below.refl _ _).alloc (Nat.le_refl _) _
    refine leaves_cons (f := 51) (args := #[.pointer (some ⟨w.heap.size, 0, none⟩)]) (by simp) (by simp [go_sem]) ?_
    refine (next_deferred _ w.heap.size b x ws bad .returning (by have := (Blk.new w 76 #[.pointer (some ⟨b, 0, none⟩)]).cell 0; simp)  (by simp) ⟨_, _, H.out.below hb⟩).mono ?_
    rintro e u' w' ⟨rfl, rfl, hN⟩
    refine ⟨_, results_tmp rfl _ _ _, rfl, ?_, gb_trans (gb_below hb) hN.2⟩
    have := hN.1
    simpa using this
end Go.Proofs.YtcdhngppcpgojaaDoor
