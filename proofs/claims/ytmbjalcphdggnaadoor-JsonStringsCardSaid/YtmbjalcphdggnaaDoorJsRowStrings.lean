/- The statement of JsonStrings and its card. -/
import Derived.Test.YtmbjalcphdggnaaDoorJsPr
import Derived.Test.YtmbjalcphdggnaaDoorJsOpen
import Derived.Deep.Grids
import Derived.ChangeMaps5
import Derived.Test.YtmbjalcphdggnaaDoorTie
import Derived.Deep.DeepHandedRow
import Derived.Lay
namespace Go.Proofs.YtmbjalcphdggnaaDoor
set_option linter.unusedSimpArgs false
set_option linter.unusedVariables false
open Go.ChangeShapes Go.WideShapes Go.ChangeAt Go.RowKit Go.Deep Go.ChangeMaps
/-- Bools that came in. -/
theorem open_blsw {H : Type} {enc : TypeId × Value → H} {W : World} {a : Option Addr} {n c : Nat} {d : DataW H} {p : List MemPlace} (h : DataW.Trod enc Tryd.prog W 0 (fun _ => true) true 41 (.slice a n c) d p) :
    ∃ A m k lb, Value.slice a n c = .slice A m k ∧ RBo W W.heap.size A m lb ∧ m ≤ k := by
  obtain ⟨fuel, hf⟩ := h
  rcases open_bools Tryd.underlying41 Tryd.underlying4 (by kernel_rfl) hf with ⟨hcs, _⟩ | ⟨ad, len, m, Bx, hcs, _, hl, _, _, hi⟩
  · simp [Value.cells] at hcs
    obtain ⟨rfl, rfl, rfl⟩ := hcs
    exact ⟨none, 0, 0, [], rfl, Reads.none_, Nat.le_refl _⟩
  · simp [Value.cells] at hcs
    obtain ⟨rfl, rfl, rfl⟩ := hcs
    refine ⟨some ad, n, c, (List.range n).map Bx, rfl, ⟨by simp, fun h0 => ⟨ad, rfl, ?_, fun j u hu => ?_⟩⟩, hl⟩
    · have := cell_lt (hi 0 (by omega))
      rw [block_of_add] at this
      exact this
    · have hj : j < n := by
        have := (List.getElem?_eq_some_iff.1 hu).1
        simpa using this
      rw [hi j (by omega)]
      rw [List.getElem?_map, List.getElem?_map, List.getElem?_range hj] at hu
      simpa using hu
set_option maxRecDepth 100000 in
theorem jsonStrings_contract (H : Type) (enc : TypeId × Value → H) (W : World) (base : Nat) (args : Array Value) (ds gs : List (DataW H)) (before : List MemPlace)
    (hval : ∀ (j : Nat) t v, Tryd.f8.params[j]? = some t → args[j]? = some v → Value.okWide Tryd.prog W .any base t v)
    (hW : DataW.Whole enc Tryd.prog Tryd.f8.params.toList Rows.jsonStringsSpec.vars false W args.toList ds gs before)
    (hL : laidMetH Tryd.prog Rows.jsonStringsRow.laid W) :
    Calls Tryd.prog 8 args W fun e W' => ∃ v, e = .returned v ∧ Rows.jsonStringsSpec.post enc Tryd.prog Tryd.f8 false true false false W args v W' := by
  have hW' := hW
  obtain ⟨p, q, hA0, hV, rfl, hfz, hnd⟩ := hW
  have hA : DataW.TrodAll enc Tryd.prog W 0 (fun _ => true) true Tryd.f8.params.toList args.toList ds p := hA0
  rw [Tryd.params8] at hA hval
  obtain ⟨v0, vs0, d0, ds0, p0, q0, hargs, rfl, rfl, h0, r0⟩ := trodAll_cons hA
  obtain ⟨v1, vs1, d1, ds1, p1, q1, rfl, rfl, rfl, h1, r1⟩ := trodAll_cons r0
  obtain ⟨rfl, rfl, rfl⟩ := trodAll_nil r1
  obtain rfl : args = #[v0, v1] := by cases args; simp_all
  obtain ⟨rfl, rfl⟩ := trodVars_none hV
  obtain ⟨s0, rfl, rfl, rfl, w0⟩ := open_string Tryd.underlying9 (hval 0 9 v0 rfl rfl) h0
  have k1 := h1
  have lt1 : ∀ x ∈ p1, x.block < W.heap.size := by obtain ⟨m, hm⟩ := k1; exact DataW.trod_lt m _ _ _ hm
  obtain ⟨A, n, c, lb, rfl, hr, hc⟩ : ∃ A n c lb, v1 = .slice A n c ∧ RBo W W.heap.size A n lb ∧ n ≤ c := by
    obtain ⟨a, len, cap, rfl⟩ := okWide_slice Tryd.underlying41 (hval 1 41 v1 rfl rfl)
    exact open_blsw h1
  have hT : Tabs W := tabs_of_laid hL (by kernel_rfl) (i := 1) (j := 0) (by kernel_rfl) (by kernel_rfl)
  clear hA0
  obtain ⟨l0, rfl⟩ : ∃ l : L8, s0 = ⟨l.toArray⟩ := ⟨s0.data.toList, by cases s0; simp⟩
  refine (strings_any W l0 A n c lb (by have : l0.length ≤ maxLen := w0
                                        unfold maxLen at this; omega) hT hr hc).mono fun e W' ⟨he, bel⟩ => ?_
  subst he
  exact ⟨_, rfl, _, _, _, [], _, [], hW', trodAll_mk1 (shut_bool Tryd.underlying4 _), (trodAll_cons_mk (shut_string Tryd.underlying9 w0) (trodAll_cons_mk (Below.trod laid_out (by kernel_rfl) (of_decide_eq_true (by kernel_rfl)) k1 bel lt1) trodAll_mk0)), rfl, bel.frame _, fun h => by cases h⟩
theorem jsonStrings_reads (os : Os) {H : Type} (enc : TypeId × Value → H) : ∃ places, DataW.whole enc Tryd.prog ((World.laidAll Tryd.prog os Rows.jsonStringsRow.laid).forCall (fun _ _ => 0) ⟨#[], #[.string ⟨#[]⟩, .slice none 0 0], []⟩).memory Tryd.f8.params.toList Rows.jsonStringsSpec.vars false (#[.string ⟨#[]⟩, .slice none 0 0] : Array Value).toList 8 = some ([.lit (.string []), .nil], [], places) :=
  ⟨[], by kernel_rfl⟩
theorem jsonStrings_laid (os : Os) : laidMetH Tryd.prog Rows.jsonStringsRow.laid ((World.laidAll Tryd.prog os Rows.jsonStringsRow.laid).forCall (fun _ _ => 0) ⟨#[], #[.string ⟨#[]⟩, .slice none 0 0], []⟩).memory :=
  laidMet_laidAll #[.string ⟨#[]⟩, .slice none 0 0] (by kernel_rfl) (by kernel_rfl)
set_option maxRecDepth 100000 in
theorem jsonStrings_lifted (os : Os) (started : os.Started) (H : Type) (enc : TypeId × Value → H) (F : Stop.Interp) :
    ReturnsInHanded {} Tryd.checked os 8 .any ((OpenSpec.ofChange Rows.jsonStringsSpec).preRow enc Tryd.prog Tryd.f8 Rows.jsonStringsRow.domain false Rows.jsonStringsRow.laid) (((OpenSpec.ofChange Rows.jsonStringsSpec).at F).post enc Tryd.prog Tryd.f8 false true false false) := by
  obtain ⟨places, hx⟩ := jsonStrings_reads os enc
  refine returnsInHanded_of_row (C := Tryd.checked) (s := OpenSpec.ofChange Rows.jsonStringsSpec) own_knob started (by kernel_rfl) Tryd.func8
    (witness_row_at (enc := enc) (C := Tryd.checked) false (World.laidAll Tryd.prog os Rows.jsonStringsRow.laid) #[.string ⟨#[]⟩, .slice none 0 0] rfl (by kernel_rfl) (by kernel_rfl) (by kernel_rfl)
      (OpenSpec.preRow_of_cond 8 hx (by kernel_rfl) (fun k hk => by cases hk) (by kernel_rfl) (jsonStrings_laid os))) ?_
  intro W base args ds gs before hval hW _ _ hsz hL _ _
  exact jsonStrings_contract H enc W base args ds gs before hval hW hL
theorem jsonStrings_said : Rows.JsonStringsSaid :=
  OpenClaim.holds_of_cond 8 Tryd.f8 rfl rfl rfl rfl rfl rfl rfl ⟨rfl, rfl, rfl, rfl, rfl⟩ rfl rfl rfl rfl rfl (by kernel_rfl) Tryd.func8 (by kernel_rfl)
    (of_decide_eq_true (by kernel_rfl)) (by unfold Func.isWrapper; first | (rw [if_pos (by decide +kernel)]; kernel_rfl) | (rw [if_neg (by decide +kernel)]; exact ⟨rfl, rfl⟩))
    (fun os started H enc _ F => by rw [OpenClaim.pre_eq_preRow]; exact jsonStrings_lifted os started H enc F)
theorem jsonStrings_plain (f : FuncId) (fn : Func) (hf : Tryd.pinned.checked.prog.funcNamed "merestone/merestonelaw11.JsonStrings" = some f) (hfn : Tryd.pinned.checked.prog.funcs[f]? = some fn) :
    true = Tryd.pinned.checked.prog.looks [] ∧ ∀ (j : Nat) t, fn.params[j]? = some t → Tryd.pinned.checked.prog.wantsStandIn t = false := by
  obtain rfl : f = 8 := Option.some.inj ((show Tryd.prog.funcNamed "merestone/merestonelaw11.JsonStrings" = some 8 by kernel_rfl).symm.trans hf) |>.symm
  obtain rfl : fn = Tryd.f8 := (Option.some.inj (Tryd.func8.symm.trans hfn)).symm
  refine ⟨by kernel_rfl, fun j t ht => ?_⟩
  rw [Tryd.params8] at ht
  have ht : t = 9 ∨ t = 41 := by simpa using Array.mem_of_getElem? ht
  rcases ht with rfl | rfl
  · exact (show Tryd.prog.wantsStandIn 9 = false by kernel_rfl)
  · exact (show Tryd.prog.wantsStandIn 41 = false by kernel_rfl)
theorem jsonStrings_card : Rows.JsonStringsCardSaid :=
  Claim7.holds_tied_plain_at .later [] _ _ _ _ jsonStrings_said (fun _ h => by cases h) (by kernel_rfl) (fun _ h => by cases h) jsonStrings_row_tie rfl ⟨rfl, rfl⟩ (by kernel_rfl) rfl jsonStrings_plain (by kernel_rfl)
end Go.Proofs.YtmbjalcphdggnaaDoor
