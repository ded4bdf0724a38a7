/- Blocks that are known whole, kept in a list. -/
import Derived.Test.YtmbjalcphdggnaaDoorLib
namespace Go.Proofs.YtmbjalcphdggnaaDoor
set_option linter.unusedSimpArgs false
set_option linter.unusedVariables false
open Go.RowKit
def Bs (W : World) (L : List (Nat × TypeId × Array Value)) : Prop := ∀ p ∈ L, Blk W p.1 p.2.1 p.2.2
theorem Bs.nil (W : World) : Bs W [] := fun _ h => by cases h
theorem Bs.later {W W' : World} {L : List (Nat × TypeId × Array Value)} (h : Bs W L) (hb : Below W.heap.size W W') : Bs W' L := fun p hp => (h p hp).below hb (h p hp).lt
theorem Bs.al {W : World} {L : List (Nat × TypeId × Array Value)} (h : Bs W L) (cs : Array Value) (t : TypeId) : Bs (W.alloc (Obj.cells cs t)) ((W.heap.size, t, cs) :: L) := fun p hp => by
  rcases List.mem_cons.1 hp with rfl | hp
  · exact Blk.new _ _ _
  · exact (h p hp).alloc _
theorem Bs.keep {W : World} {L : List (Nat × TypeId × Array Value)} (h : Bs W L) (o : Obj) : Bs (W.alloc o) L := fun p hp => (h p hp).alloc _
theorem Bs.drew {W : World} {L : List (Nat × TypeId × Array Value)} (h : Bs W L) : Bs W.drew L := h
theorem Bs.get {W : World} {L : List (Nat × TypeId × Array Value)} (h : Bs W L) (g : Nat) (t : TypeId) (cs : Array Value) (hm : (g, t, cs) ∈ L) : (∀ i, W.cell? ⟨g, i, none⟩ = cs[i]?) ∧ (∀ i, W.frozen? ⟨g, i, none⟩ = false) ∧ g < W.heap.size := ⟨(h _ hm).cell, (h _ hm).frozen, (h _ hm).lt⟩
theorem Bs.sub {W : World} {L M : List (Nat × TypeId × Array Value)} (h : Bs W L) (hs : ∀ p ∈ M, p ∈ L) : Bs W M := fun p hp => h p (hs p hp)
theorem heap_al (w : World) (o : Obj) : (w.alloc o).heap.size = w.heap.size + 1 := by simp
end Go.Proofs.YtmbjalcphdggnaaDoor
