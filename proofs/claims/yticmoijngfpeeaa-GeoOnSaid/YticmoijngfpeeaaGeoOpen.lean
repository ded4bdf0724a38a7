/- A point that came in, opened. -/
import Derived.Test.YticmoijngfpeeaaGeoA
import Derived.Test.YticmoijngfpeeaaOpen
import Derived.Lib.SmallJoins
namespace Go.Proofs.Yticmoijngfpeeaa
set_option linter.unusedSimpArgs false
set_option linter.unusedVariables false
open Go.ChangeShapes Go.WideShapes Go.ChangeAt Go.RowKit Go.Deep
theorem pt_cells : Try.prog.cellsOf 23 = 2 := by kernel_rfl
/-- A point that came in, by value. -/
theorem open_pt {H : Type} {enc : TypeId × Value → H} {W : World} {r : Reach} {b0 : Nat} {v : Value} {d : DataW H} {p : List MemPlace} (hv : Value.okWide Try.prog W r b0 23 v)
    (h : DataW.Trod enc Try.prog W 0 (fun _ => true) true 23 v d p) : ∃ x : Pt, v = .agg #[.int .i64 x.x, .int .i64 x.y] := by
  obtain ⟨c0, c1, y0, y1, m, rfl, _, _, h0, h1⟩ := Joins.open_agg2 Try.underlying23 (by kernel_rfl) pt_cells hv h
  obtain ⟨s, e0, _, _⟩ := DataW.trod_int Try.underlying3 h0
  obtain ⟨t, e1, _, _⟩ := DataW.trod_int Try.underlying3 h1
  simp at e0 e1
  subst e0 e1
  exact ⟨⟨s, t⟩, rfl⟩
end Go.Proofs.Yticmoijngfpeeaa
