/- The statement of ScriptReplies and its card. -/
import Derived.Test.YtcdhngppcpgojaaDoorScrJ
import Derived.Test.YtcdhngppcpgojaaDoorScrOpen
import Derived.Test.YtcdhngppcpgojaaDoorCards
import Derived.Test.YtcdhngppcpgojaaDoorTie
import Derived.Deep.DeepHandedRow
namespace Go.Proofs.YtcdhngppcpgojaaDoor
set_option linter.unusedSimpArgs false
set_option linter.unusedVariables false
open Go.ChangeShapes Go.WideShapes Go.ChangeAt Go.RowKit Go.Deep
abbrev rep0 : Value := .agg #[.int .i64 0, .slice none 0 0, .slice none 0 0, .string ⟨#[]⟩]
set_option maxRecDepth 100000 in
theorem scriptReplies_contract (H : Type) (enc : TypeId × Value → H) (W : World) (base : Nat) (args : Array Value) (ds gs : List (DataW H)) (before : List MemPlace)
    (hval : ∀ (j : Nat) t v, Tryd.f3.params[j]? = some t → args[j]? = some v → Value.okWide Tryd.prog W .any base t v)
    (hW : DataW.Whole enc Tryd.prog Tryd.f3.params.toList Rows.scriptRepliesSpec.vars false W args.toList ds gs before)
    (hsz : (DataW.weightsEach Tryd.prog (Tryd.f3.params.toList ++ Rows.scriptRepliesSpec.plain.varTypes Tryd.prog) (ds ++ gs)).all (· ≤ reachBytes) = true)
    (hL : laidMetH Tryd.prog Rows.scriptRepliesRow.laid W) :
    Calls Tryd.prog 3 args W fun e W' => ∃ v, e = .returned v ∧ Rows.scriptRepliesSpec.post enc Tryd.prog Tryd.f3 false true false false W args v W' := by
  have hW' := hW
  obtain ⟨p, q, hA0, hV, rfl, hfz, hnd⟩ := hW
  have hA : DataW.TrodAll enc Tryd.prog W 0 (fun _ => true) true Tryd.f3.params.toList args.toList ds p := hA0
  rw [Tryd.params3] at hA hval hsz
  obtain ⟨v0, vs0, d0, ds0, p0, q0, hargs, rfl, rfl, h0, r0⟩ := trodAll_cons hA
  obtain ⟨v1, vs1, d1, ds1, p1, q1, rfl, rfl, rfl, h1, r1⟩ := trodAll_cons r0
  obtain ⟨rfl, rfl, rfl⟩ := trodAll_nil r1
  obtain rfl : args = #[v0, v1] := by cases args; simp_all
  obtain ⟨rfl, rfl⟩ := trodVars_none hV
  have lt0 : ∀ x ∈ p0, x.block < W.heap.size := by obtain ⟨m, hm⟩ := h0; exact DataW.trod_lt m _ _ _ hm
  have lt1 : ∀ x ∈ p1, x.block < W.heap.size := by obtain ⟨m, hm⟩ := h1; exact DataW.trod_lt m _ _ _ hm
  have k0 := h0
  have k1 := h1
  obtain ⟨x0, rfl, o0, b01, b02, b03⟩ := open_rep hsz (j := 0) rfl rfl (hval 0 TRep v0 rfl rfl) h0
  obtain ⟨x1, rfl, o1, b11, b12, b13⟩ := open_rep hsz (j := 1) rfl rfl (hval 1 TRep v1 rfl rfl) h1
  have hwd : Wd W := wd_of_laid hL (by kernel_rfl) (i := 2) (j := 3) rfl rfl
  clear hA0
  refine (replies_any x0 x1 W hwd o0 o1 b01 b02 b11 b12 b03 b13).mono fun e W' ⟨he, bel⟩ => ?_
  subst he
  exact ⟨_, rfl, _, _, _, [], _, [], hW', trodAll_mk1 (shut_bool Tryd.underlying4 _), (trodAll_cons_mk (Below.trod laid_out (by kernel_rfl) (of_decide_eq_true (by kernel_rfl)) k0 bel lt0) (trodAll_cons_mk (Below.trod laid_out (by kernel_rfl) (of_decide_eq_true (by kernel_rfl)) k1 bel lt1) trodAll_mk0)), rfl, bel.frame _, fun h => by cases h⟩
theorem scriptReplies_reads (os : Os) {H : Type} (enc : TypeId × Value → H) : ∃ places, DataW.whole enc Tryd.prog ((World.laidAll Tryd.prog os Rows.scriptRepliesRow.laid).forCall (fun _ _ => 0) ⟨#[], #[rep0, rep0], []⟩).memory Tryd.f3.params.toList Rows.scriptRepliesSpec.vars false #[rep0, rep0].toList 8 = some ([.agg [.lit (.int .i64 0), .nil, .nil, .lit (.string [])], .agg [.lit (.int .i64 0), .nil, .nil, .lit (.string [])]], [], places) :=
  ⟨[], by kernel_rfl⟩
theorem scriptReplies_laid (os : Os) : laidMetH Tryd.prog Rows.scriptRepliesRow.laid ((World.laidAll Tryd.prog os Rows.scriptRepliesRow.laid).forCall (fun _ _ => 0) ⟨#[], #[rep0, rep0], []⟩).memory :=
  laidMet_laidAll #[rep0, rep0] (by kernel_rfl) (by kernel_rfl)
set_option maxRecDepth 100000 in
theorem scriptReplies_lifted (os : Os) (started : os.Started) (H : Type) (enc : TypeId × Value → H) (F : Stop.Interp) :
    ReturnsInHanded {} Tryd.checked os 3 .any ((OpenSpec.ofChange Rows.scriptRepliesSpec).preRow enc Tryd.prog Tryd.f3 Rows.scriptRepliesRow.domain false Rows.scriptRepliesRow.laid) (((OpenSpec.ofChange Rows.scriptRepliesSpec).at F).post enc Tryd.prog Tryd.f3 false true false false) := by
  obtain ⟨places, hx⟩ := scriptReplies_reads os enc
  refine returnsInHanded_of_row (C := Tryd.checked) (s := OpenSpec.ofChange Rows.scriptRepliesSpec) own_knob started (by kernel_rfl) Tryd.func3
    (witness_row_at (enc := enc) (C := Tryd.checked) false (World.laidAll Tryd.prog os Rows.scriptRepliesRow.laid) #[rep0, rep0] rfl (by kernel_rfl) (by kernel_rfl) (by kernel_rfl)
      (OpenSpec.preRow_of_cond 8 hx (by kernel_rfl) (fun k hk => by cases hk) (by kernel_rfl) (scriptReplies_laid os))) ?_
  intro W base args ds gs before hval hW _ _ hsz hL _ _
  exact scriptReplies_contract H enc W base args ds gs before hval hW hsz hL
theorem scriptReplies_said : Rows.ScriptRepliesSaid :=
  OpenClaim.holds_of_cond 3 Tryd.f3 rfl rfl rfl rfl rfl rfl rfl ⟨rfl, rfl, rfl, rfl, rfl⟩ rfl rfl rfl rfl rfl (by kernel_rfl) Tryd.func3 (by kernel_rfl)
    (of_decide_eq_true (by kernel_rfl)) (by unfold Func.isWrapper; first | (rw [if_pos (by decide +kernel)]; kernel_rfl) | (rw [if_neg (by decide +kernel)]; exact ⟨rfl, rfl⟩))
    (fun os started H enc _ F => by rw [OpenClaim.pre_eq_preRow]; exact scriptReplies_lifted os started H enc F)
theorem scriptReplies_plain (f : FuncId) (fn : Func) (hf : Tryd.pinned.checked.prog.funcNamed "merestone/merestonelaw22.ScriptReplies" = some f) (hfn : Tryd.pinned.checked.prog.funcs[f]? = some fn) :
    true = Tryd.pinned.checked.prog.looks [] ∧ ∀ (j : Nat) t, fn.params[j]? = some t → Tryd.pinned.checked.prog.wantsStandIn t = false := by
  obtain rfl : f = 3 := Option.some.inj ((show Tryd.prog.funcNamed "merestone/merestonelaw22.ScriptReplies" = some 3 by kernel_rfl).symm.trans hf) |>.symm
  obtain rfl : fn = Tryd.f3 := (Option.some.inj (Tryd.func3.symm.trans hfn)).symm
  refine ⟨by kernel_rfl, fun j t ht => ?_⟩
  rw [Tryd.params3] at ht
  obtain rfl : t = TRep := by simpa using Array.mem_of_getElem? ht
  exact (show Tryd.prog.wantsStandIn TRep = false by kernel_rfl)
theorem scriptReplies_card : Rows.ScriptRepliesCardSaid :=
  Claim7.holds_tied_plain_at .later [] _ _ _ _ scriptReplies_said (fun _ h => by cases h) (by kernel_rfl) (fun _ h => by cases h) scriptReplies_row_tie rfl ⟨rfl, rfl⟩ (by kernel_rfl) rfl scriptReplies_plain (by kernel_rfl)
end Go.Proofs.YtcdhngppcpgojaaDoor
