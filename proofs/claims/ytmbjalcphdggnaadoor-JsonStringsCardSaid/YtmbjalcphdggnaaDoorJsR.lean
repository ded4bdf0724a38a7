/- The law on numbers. -/
import Derived.Test.YtmbjalcphdggnaaDoorJsQ
import Derived.Lib.ConvBytes
import Derived.Lib.SmallJoins
namespace Go.Proofs.YtmbjalcphdggnaaDoor
set_option linter.unusedSimpArgs false
set_option linter.unusedVariables false
open Go.RowKit
theorem conv_run (l : L8) (w : World) : (convert 9 22 (.string ⟨l.toArray⟩)).run Tryd.prog w = .ok (.slice (some ⟨w.heap.size, 0, none⟩) l.length (grownCap w l.length 0 T8)) (Lib.bytesWorld w T8 ⟨l.toArray⟩) := by
  have := Lib.run_convert_string_bytes w 9 22 5 ⟨l.toArray⟩ Tryd.underlying9 Tryd.underlying22 Tryd.underlying5
  exact this
theorem conv_below (l : L8) (w : World) : Below w.heap.size w (Lib.bytesWorld w T8 ⟨l.toArray⟩) :=
  ⟨rfl, rfl, rfl, by rw [Lib.bytesWorld_size]; omega, fun j hj => Lib.bytesWorld_at_old w T8 _ j hj⟩
theorem conv_rb (l : L8) (w : World) : RB (Lib.bytesWorld w T8 ⟨l.toArray⟩) (Lib.bytesWorld w T8 ⟨l.toArray⟩).heap.size (some ⟨w.heap.size, 0, none⟩) l.length l := by
  refine ⟨by rw [cs8_len, Nat.mul_one], fun _ => ⟨_, rfl, by rw [Lib.bytesWorld_size]; show w.heap.size < _; omega, fun j u hu => ?_⟩⟩
  rw [cs8_get] at hu
  have hj : j < l.length := by
    rcases Nat.lt_or_ge j l.length with h | h
    · exact h
    · rw [List.getElem?_eq_none h] at hu; cases hu
  rw [List.getElem?_eq_getElem hj] at hu
  injection hu with hu
  rw [show (⟨w.heap.size, 0, none⟩ : Addr).add j = ⟨w.heap.size, j, none⟩ by simp [Addr.add]; exact fun h => h.symm, Lib.bytesWorld_cell w T8 ⟨l.toArray⟩ j (by show j < l.toArray.size; simpa using hj), ← hu]
  simp [u8v, List.getD_eq_getElem?_getD, List.getElem?_eq_getElem hj]
theorem conv_lt (l : L8) (w : World) : ∀ ad : Addr, (some (⟨w.heap.size, 0, none⟩ : Addr)) = some ad → ad.block < (Lib.bytesWorld w T8 ⟨l.toArray⟩).heap.size := fun ad e => by
  injection e with e
  subst e
  rw [Lib.bytesWorld_size]
  show w.heap.size < _
  omega
theorem conv_cap (l : L8) (w : World) : l.length ≤ grownCap w l.length 0 T8 := grownCap_ge w _ 0 T8
theorem mark_rb (w : World) (l : L8) (fr : Nat × Nat) : RB (w.alloc (.cells (cs8 l).toArray T8 fr)) (w.alloc (.cells (cs8 l).toArray T8 fr)).heap.size (some ⟨w.heap.size, 0, none⟩) l.length l := by
  refine ⟨by rw [cs8_len, Nat.mul_one], fun _ => ⟨_, rfl, by simp, fun j u hu => ?_⟩⟩
  rw [show (⟨w.heap.size, 0, none⟩ : Addr).add j = ⟨w.heap.size, j, none⟩ by simp [Addr.add]; exact fun h => h.symm, World.cell?_alloc_mark w (cs8 l).toArray T8 fr j]
  simpa using hu
def ansL : L8 := [91, 49, 44, 34, 97, 34, 93]
theorem answers_any (w : World) (hT : Tabs w) : Calls Tryd.prog 9 #[] w fun e w' => e = .returned (.bool true) ∧ Below w.heap.size w w' := by
  have HT := hide hT
  clear hT
  have kc := fun (w : World) (C : Array Value) (n c : Nat) => Lib.run_convert_bytes_const (P := Tryd.prog) w 22 5 C n c Tryd.underlying22 Tryd.underlying5
  obtain ⟨w1, hw1⟩ : ∃ w1, w.alloc (.cells (cs8 ansL).toArray T8 (7, 8)) = w1 := ⟨_, rfl⟩
  have HB1 := hide (show Below w.heap.size w w1 from hw1 ▸ al_below w _)
  have hs1 : w1.heap.size = w.heap.size + 1 := by rw [← hw1]; simp
  have HR1 := hide (show RB w1 w1.heap.size (some ⟨w.heap.size, 0, none⟩) 7 ansL from hw1 ▸ mark_rb w ansL (7, 8))
  have HT1 := hide (HT.out.below HB1.out)
  have HA1 := hide (show ∀ ad : Addr, (some (⟨w.heap.size, 0, none⟩ : Addr)) = some ad → ad.block < w1.heap.size from fun ad e => by injection e with e; subst e; show w.heap.size < _; omega)
  have HW1 := hide hw1
  clear hw1
  go_enter Tryd.func9, Tryd.ntmps9
  go_wp2_with (go_at_call 10; (refine id (show Calls _ _ _ (w.alloc (.cells (cs8 ansL).toArray T8 (7, 8))) _ from ?_)); (rw [HW1.out]); (refine (parse_to HR1.out (by omega) HT1.out HA1.out).mono ?_); rintro e w2 ⟨hb, hr⟩; (rcases hr with ⟨J, cs, hp, rfl, hv⟩ | ⟨p, e0, hp, _⟩); rotate_left; (rw [show parseS ansL = _ from answers_law] at hp; cases hp); (rw [show parseS ansL = _ from answers_law] at hp); (injection hp with hp); subst hp; (obtain ⟨A1, c1, A2, c2, xs, rfl, _⟩ := hv.mk'); have HB2 := hide (HB1.out.trans (hb.mono HB1.out.size)); clear hb hv)
  trace_state
  go_ret
  exact ⟨rfl, bal HB2.out _⟩
end Go.Proofs.YtmbjalcphdggnaaDoor
