/- What the rows of this chapter lay: the tables of unicode/utf8; how strings and bytes come in. -/
import Derived.Test.YtmbjalcphdggnaaDoorJsH
import Derived.Test.YtmbjalcphdggnaaDoorOpen
import Derived.Test.YtmbjalcphdggnaaDoorCards
import Derived.Lib.LaidU8T
import Derived.ChangeMaps5
import Derived.Lay
import Derived.LaidSub
namespace Go.Proofs.YtmbjalcphdggnaaDoor
set_option linter.unusedSimpArgs false
set_option linter.unusedVariables false
open Go.ChangeShapes Go.WideShapes Go.ChangeAt Go.RowKit Go.Deep
def u8ren : Go.Shelf.Ren := ⟨fun n => n, fun | 5 => 5 | 119 => 86 | 138 => 88 | 139 => 89 | n => n, fun | 3 => 0 | 4 => 1 | n => n⟩
theorem u8types : U8Types Tryd.prog u8ren := ⟨Tryd.underlying5, Tryd.underlying86, Tryd.underlying88, Tryd.underlying89⟩
theorem u8extra : U8Extra Tryd.prog u8ren := ⟨by kernel_rfl, by kernel_rfl, by kernel_rfl, by kernel_rfl, by kernel_rfl, by kernel_rfl, by kernel_rfl⟩
theorem tabs_of_laid {W : World} {l : List (String × DataW Unit)} (h0 : laidMetH Tryd.prog l W) (hl : (l.all fun x => x.2.handleName?.isNone) = true) {i j : Nat} (h1 : l[i]? = some ("unicode/utf8.first", Lib.firstData)) (h2 : l[j]? = some ("unicode/utf8.acceptRanges", Lib.acceptData)) : Tabs W := by
  have h := (laidMetH_iff.1 h0).1
  rw [List.filter_eq_self.2 (fun x hx => List.all_eq_true.1 hl x hx)] at h
  exact utf8Tabs_of_readsT u8types u8extra (Lib.laidMet.reads h (List.mem_of_getElem? h1)) (Lib.laidMet.reads h (List.mem_of_getElem? h2))
end Go.Proofs.YtmbjalcphdggnaaDoor
