/- What the parser's rows lay: the tables, the errors, the cell of MaxLen. -/
import Derived.Test.YtcdhngppcpgojaaDoorScrOpen
import Derived.Test.YtcdhngppcpgojaaDoorScrReads
import Derived.Stop.LaidErr
import Derived.ChangeMaps5
namespace Go.Proofs.YtcdhngppcpgojaaDoor
set_option linter.unusedSimpArgs false
set_option linter.unusedVariables false
open Go.ChangeShapes Go.WideShapes Go.ChangeAt Go.RowKit Go.Deep
theorem star_err : "*" ++ "errors.errorString" = "*errors.errorString" := by decide
theorem err_row (u : TypeId) (h : Tryd.prog.typeName? 3 u = some "*errors.errorString") : u = 152 :=
  typeName_ptr_named (nm := "errors.errorString") (by rw [star_err]; kernel_rfl) (by kernel_rfl) (by decide) u (by rw [star_err]; exact h)
theorem var_lt {W : World} {n : String} {g : Nat} {cs : Array Value} (e : Tryd.prog.globalNamed n = some g) (v : W.var? Tryd.prog n = some cs) : g < W.heap.size := by
  unfold World.var? at v
  rw [e] at v
  simp only [Option.bind_some] at v
  rcases Nat.lt_or_ge g W.heap.size with h1 | h1
  · exact h1
  · rw [Array.getElem?_eq_none h1] at v; simp at v
theorem wt_of_laid {W : World} (hL : laidMetH Tryd.prog Rows.scriptReadsUptoRow.laid W) (hS : W.ShapedOpen Tryd.prog) : Wt W.heap.size W := by
  have hwd : Wd W := wd_of_laid hL (by kernel_rfl) (i := 2) (j := 6) rfl rfl
  have hM : laidMet Tryd.prog Rows.scriptReadsUptoRow.laid W := by
    have h := (laidMetH_iff.1 hL).1
    have hl : (Rows.scriptReadsUptoRow.laid.all fun x => x.2.handleName?.isNone) = true := by kernel_rfl
    rw [List.filter_eq_self.2 (fun x hx => List.all_eq_true.1 hl x hx)] at h
    exact h
  obtain ⟨a1, s1, hv1, _⟩ := laid_sentinel (n := "strconv.ErrRange") hM.tail.tail.tail.tail g_rng (by kernel_rfl : (Tryd.prog.globals[4]?).map (·.type) = some 98) Tryd.underlying98 err_row Tryd.underlying152 Tryd.underlying154 rfl rfl Tryd.underlying9 (by kernel_rfl) (by kernel_rfl)
  obtain ⟨a2, s2, hv2, _⟩ := laid_sentinel (n := "strconv.ErrSyntax") hM.tail.tail.tail.tail.tail g_syn (by kernel_rfl : (Tryd.prog.globals[3]?).map (·.type) = some 98) Tryd.underlying98 err_row Tryd.underlying152 Tryd.underlying154 rfl rfl Tryd.underlying9 (by kernel_rfl) (by kernel_rfl)
  obtain ⟨g, t, cs, fuel, p, hg, _, hv, _⟩ := laid_reads (n := "unicode/utf8.acceptRanges") hM (List.mem_of_getElem? (i := 3) rfl)
  obtain rfl := Option.some.inj ((show Tryd.prog.globalNamed "unicode/utf8.acceptRanges" = some 8 by kernel_rfl).symm.trans hg)
  exact ⟨hwd.t, hwd.k, ⟨_, _, hv2⟩, ⟨_, _, hv1⟩, Tryd.laysM146.s1_3 W hS, var_lt hg hv, Nat.le_refl _⟩
set_option maxRecDepth 100000 in
theorem open_str {W : World} {base : Nat} {H : Type} {enc : TypeId × Value → H} {r : Reach} {b0 : Nat} {v : Value} {d : DataW H} {ps : List MemPlace} {sp : Nat → Bool} {held : Bool} (hval : Value.okWide Tryd.prog W r b0 9 v) (hd : DataW.Trod enc Tryd.prog W base sp held 9 v d ps) :
    ∃ s : List UInt8, v = str s ∧ s.length + 1 = Rows.uptoBulk d := by
  obtain ⟨s, rfl, rfl, _, _⟩ := ChangeMaps.open_string Tryd.underlying9 hval hd
  refine ⟨s.data.toList, by simp, by simp [Rows.uptoBulk]⟩
end Go.Proofs.YtcdhngppcpgojaaDoor
