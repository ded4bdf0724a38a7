/- What the rows of this chapter lay: the tables of unicode/utf8; how strings and bytes come in. -/
import Derived.Test.YtmbjalcphdggnaaDoorJsH
import Derived.Test.YtmbjalcphdggnaaDoorOpen
import Derived.Test.YtmbjalcphdggnaaDoorCards
import Derived.Lib.LaidU8T
import Derived.ChangeMaps5
import Derived.Lay
import Derived.LaidSub
namespace Go.Proofs.YtmbjalcphdggnaaDoor
set_option linter.unusedSimpArgs false
set_option linter.unusedVariables false
open Go.ChangeShapes Go.WideShapes Go.ChangeAt Go.RowKit Go.Deep
def u8ren : Go.Shelf.Ren := ⟨fun n => n, fun | 5 => 5 | 119 => 86 | 138 => 88 | 139 => 89 | n => n, fun | 3 => 0 | 4 => 1 | n => n⟩
theorem u8types : U8Types Tryd.prog u8ren := ⟨Tryd.underlying5, Tryd.underlying86, Tryd.underlying88, Tryd.underlying89⟩
theorem u8extra : U8Extra Tryd.prog u8ren := ⟨by kernel_rfl, by kernel_rfl, by kernel_rfl, by kernel_rfl, by kernel_rfl, by kernel_rfl, by kernel_rfl⟩
theorem tabs_of_laid {W : World} {l : List (String × DataW Unit)} (h0 : laidMetH Tryd.prog l W) (hl : (l.all fun x => x.2.handleName?.isNone) = true) {i j : Nat} (h1 : l[i]? = some ("unicode/utf8.first", Lib.firstData)) (h2 : l[j]? = some ("unicode/utf8.acceptRanges", Lib.acceptData)) : Tabs W := by
  have h := (laidMetH_iff.1 h0).1
  rw [List.filter_eq_self.2 (fun x hx => List.all_eq_true.1 hl x hx)] at h
  exact utf8Tabs_of_readsT u8types u8extra (Lib.laidMet.reads h (List.mem_of_getElem? h1)) (Lib.laidMet.reads h (List.mem_of_getElem? h2))
theorem u8_wf2 {n : Int} (h : (Lit.int .u8 n).wf = true) : 0 ≤ n ∧ n < 256 := by
  have h1 : IntKind.u8.min ≤ n ∧ n ≤ IntKind.u8.max := by simpa [Lit.wf] using h
  have e1 : IntKind.u8.min = 0 := by decide
  have e2 : IntKind.u8.max = 255 := by decide
  omega
/-- Bytes that came in. -/
theorem open_bytes {H : Type} {enc : TypeId × Value → H} {W : World} {v : Value} {d : DataW H} {p : List MemPlace} (h : DataW.Trod enc Tryd.prog W 0 (fun _ => true) true 22 v d p) (hv : v.cells.toList = [v]) :
    ∃ A n c l, v = .slice A n c ∧ RB W W.heap.size A n l ∧ n ≤ c := by
  obtain ⟨fuel, hf⟩ := h
  rcases open_ints Tryd.underlying22 Tryd.underlying5 (by kernel_rfl) hf with ⟨hcs, _⟩ | ⟨a, len, cap, zs, hcs, _, hl, _, hzl, _, hc, hw⟩
  · rw [hv] at hcs
    injection hcs with hcs
    exact ⟨none, 0, 0, [], hcs, Reads.none_, Nat.le_refl _⟩
  · rw [hv] at hcs
    injection hcs with hcs
    rw [if_pos rfl] at hzl
    refine ⟨some a, len, cap, (zs.take len).map (fun z => UInt8.ofNat z.toNat), hcs, ⟨by rw [cs8_len, List.length_map, List.length_take]; omega, fun h0 => ⟨a, rfl, ?_, fun j u hu => ?_⟩⟩, hl⟩
    · have := World.block_lt_of_cell? W _ (hc 0 (by omega))
      rw [block_of_add] at this
      exact this
    · have hj := (List.getElem?_eq_some_iff.1 hu).1
      rw [cs8_len, List.length_map, List.length_take] at hj
      have hjz : j < zs.length := by omega
      rw [hc j hjz]
      rw [cs8_get, List.getElem?_map, List.getElem?_take, if_pos (by omega), List.getElem?_eq_getElem hjz] at hu
      injection hu with hu
      rw [← hu]
      have hb := u8_wf2 (hw zs[j] (List.getElem_mem hjz))
      unfold u8v
      rw [List.getD_eq_getElem?_getD, List.getElem?_eq_getElem hjz]
      have e1 : ((UInt8.ofNat (zs[j]).toNat).toNat : Int) = zs[j] := by
        rw [show (UInt8.ofNat (zs[j]).toNat).toNat = (zs[j]).toNat % 256 from rfl]
        omega
      simp only [Option.getD_some]
      rw [e1]
theorem open_bytes_ok {H : Type} {enc : TypeId × Value → H} {W : World} {r : Reach} {base : Nat} {v : Value} {d : DataW H} {p : List MemPlace} (hv : Value.okWide Tryd.prog W r base 22 v) (h : DataW.Trod enc Tryd.prog W 0 (fun _ => true) true 22 v d p) :
    ∃ A n c l, v = .slice A n c ∧ RB W W.heap.size A n l ∧ n ≤ c := by
  obtain ⟨a, len, cap, rfl⟩ := okWide_slice Tryd.underlying22 hv
  exact open_bytes h rfl
end Go.Proofs.YtmbjalcphdggnaaDoor
