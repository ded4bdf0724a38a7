/- The scripts' reader: what a line's words are as an act; the reader at a place. -/
import Derived.Test.YtcdhngppcpgojaaDoorScrRe
import Derived.Test.YtcdhngppcpgojaaDoorScrNum
import Derived.Lib.SlicesS
namespace Go.Proofs.YtcdhngppcpgojaaDoor
set_option linter.unusedSimpArgs false
set_option linter.unusedVariables false
open Go.RowKit
/-- The n-th word. -/
def wat (ws : List (List UInt8)) (n : Nat) : List UInt8 := (ws.drop n).headD []
def KS : List ByteArray := (kws.drop 1).map fun l => ⟨l.toArray⟩
def kix (x : List UInt8) : Int := Lib.idxOfS KS ⟨x.toArray⟩ + 1
theorem lens.drop {ws : List (List UInt8)} (h : lens ws) (n : Nat) : lens (ws.drop n) := fun x hx => h x (List.mem_of_mem_drop hx)
theorem int_at (w : World) (base b n : Nat) (ws : List (List UInt8)) (bad : Bool) (h : Rd w b (ws.drop n) bad) (ht : Wt base w) (hb : base ≤ b) (hl : lens ws) :
    Calls Tryd.prog 36 #[.pointer (some ⟨b, 0, none⟩)] w fun e w' => e = .returned (.int .i64 (valI (wat ws n))) ∧ NxP w b (ws.drop (n + 1)) (bad || (numI (wat ws n)).isNone) w' := by
  have := int_any w base b (ws.drop n) bad h ht hb (hl.drop n).head
  rw [List.tail_drop] at this
  exact this
theorem mask_at (w : World) (base b n : Nat) (ws : List (List UInt8)) (bad : Bool) (h : Rd w b (ws.drop n) bad) (ht : Wt base w) (hb : base ≤ b) (hl : lens ws) :
    Calls Tryd.prog 37 #[.pointer (some ⟨b, 0, none⟩)] w fun e w' => e = .returned (.int .u64 (valU (wat ws n))) ∧ NxP w b (ws.drop (n + 1)) (bad || (numU (wat ws n)).isNone) w' := by
  have := mask_any w base b (ws.drop n) bad h ht hb (hl.drop n).head
  rw [List.tail_drop] at this
  exact this
theorem text_at (w : World) (base b n : Nat) (ws : List (List UInt8)) (bad : Bool) (h : Rd w b (ws.drop n) bad) (ht : Wt base w) (hb : base ≤ b) (hl : lens ws) :
    Calls Tryd.prog 38 #[.pointer (some ⟨b, 0, none⟩)] w fun e w' => ∃ S, e = .returned (str S) ∧ (∀ l, unhexO (wat ws n) = some l → bad = false → S = l) ∧ NxP w b (ws.drop (n + 1)) (bad || (unhexO (wat ws n)).isNone) w' := by
  have := text_read w base b (ws.drop n) bad h ht hb (hl.drop n).head
  rw [List.tail_drop] at this
  exact this
theorem next_at (w : World) (b n : Nat) (ws : List (List UInt8)) (bad : Bool) (h : Rd w b (ws.drop n) bad) :
    Calls Tryd.prog 35 #[.pointer (some ⟨b, 0, none⟩)] w fun e w' => e = .returned (str (wat ws n)) ∧ NxP w b (ws.drop (n + 1)) (bad || (ws.drop n).isEmpty) w' := by
  have := next_any w b (ws.drop n) bad h
  rw [List.tail_drop] at this
  exact this
/-- A line's words are the act's. -/
structure Parse (ws : List (List UInt8)) (y : Ac) : Prop where
  k : kix (wat ws 0) = y.kind
  k0 : 0 < y.kind
  s : numI (wat ws 1) = some y.s
  n : numI (wat ws 2) = some y.n
  m : numU (wat ws 3) = some y.mask
  t : unhexO (wat ws 4) = some y.text
  ok : numI (wat ws 5) = some y.okind
  a : numI (wat ws 6) = some y.a
  b : numI (wat ws 7) = some y.b
  o : unhexO (wat ws 8) = some y.owner
  ol : y.owner.length ≤ 32
  p : pathO (ws.drop 9) = some (y.path, [])
  pl : y.p = y.path.length
/-- No act. -/
def ac0 : Ac := ⟨0, 0, 0, 0, 0, 0, 0, none, 0, 0, [], [], []⟩
/-- What is answered: the act, or that it is none's. -/
def ToP (base : Nat) (ws : List (List UInt8)) (yes no : Value) (e : Ending) (w' : World) : Prop :=
  (∃ (y : Ac) (A : Option Addr) (c : Nat), e = .returned (.tuple #[.agg (y.at_ A c).cells, yes]) ∧ Parse ws y ∧ Pth w' base (y.at_ A c) ∧ (∀ p ∈ y.path, in64 p.1 ∧ in64 p.2)) ∨
  (e = .returned (.tuple #[.agg ac0.cells, no]) ∧ ∀ y, ¬ Parse ws y)
theorem kix_range (x : List UInt8) : 0 ≤ kix x := by
  unfold kix
  have h : -1 ≤ Lib.idxOfS KS ⟨x.toArray⟩ := by
    by_cases h : 0 ≤ Lib.idxOfS KS ⟨x.toArray⟩
    · omega
    · have h2 : ∀ j, j < KS.length → KS.getD j ByteArray.empty ≠ ⟨x.toArray⟩ := by
        intro j hj e
        apply h
        rw [Lib.idxOfS_nonneg_iff, ← e]
        rw [List.getD_eq_getElem?_getD, List.getElem?_eq_getElem hj]
        exact List.getElem_mem hj
      have := Lib.idxOfS_miss KS KS.length ⟨x.toArray⟩ h2
      rw [List.take_length] at this
      omega
  omega
end Go.Proofs.YtcdhngppcpgojaaDoor
