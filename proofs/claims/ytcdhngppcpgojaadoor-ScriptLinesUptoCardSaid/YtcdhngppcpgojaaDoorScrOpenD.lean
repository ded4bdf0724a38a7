/- An act that came in as an argument. -/
import Derived.Test.YtcdhngppcpgojaaDoorScrOpenC
import Derived.Test.YtcdhngppcpgojaaDoorScrLines
namespace Go.Proofs.YtcdhngppcpgojaaDoor
set_option linter.unusedSimpArgs false
set_option linter.unusedVariables false
open Go.ChangeShapes Go.WideShapes Go.ChangeAt Go.RowKit Go.Deep
set_option maxRecDepth 100000 in
theorem open_act1 {W : World} {H : Type} {enc : TypeId × Value → H} {r : Reach} {b0 : Nat} {v : Value} {d : DataW H} {p : List MemPlace} (hv : Value.okWide Tryd.prog W r b0 TAct v) (h : DataW.Trod enc Tryd.prog W 0 (fun _ => true) true TAct v d p) :
    ∃ x : Ac, v = .agg x.cells ∧ x.Ok W W.heap.size ∧ x.p ≤ Rows.uptoBulk d ∧ x.owner.length ≤ Rows.uptoBulk d ∧ x.text.length ≤ Rows.uptoBulk d := by
  obtain ⟨cs, rfl, _⟩ := okWide_struct Tryd.underlying37 hv
  obtain ⟨fuel, hf⟩ := h
  obtain ⟨x, hx, h1, h2, h3, h4⟩ := open_act hf
  refine ⟨x, ?_, h1, h2, h3, h4⟩
  have e : cs.toList = x.cells.toList := hx
  rw [Array.toList_inj.1 e]
theorem lines_row (x y : Ac) (w : World) (ht : Wt w.heap.size w) (hx : x.Ok w w.heap.size) (x1 : x.p ≤ 1048576) (x2 : x.owner.length ≤ 1048576) (x3 : x.text.length ≤ 1048576) (hy : y.Ok w w.heap.size) (y1 : y.p ≤ 1048576) (y2 : y.owner.length ≤ 1048576) (y3 : y.text.length ≤ 1048576) :
    Calls Tryd.prog 5 #[.agg x.cells, .agg y.cells] w fun e w' => e = .returned (.bool true) ∧ Below w.heap.size w w' := lines_any x y w ht hx hy x1 x2 x3 y1 y2 y3
end Go.Proofs.YtcdhngppcpgojaaDoor
