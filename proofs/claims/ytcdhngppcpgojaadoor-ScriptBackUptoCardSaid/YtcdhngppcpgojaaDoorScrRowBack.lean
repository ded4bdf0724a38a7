/- The second statement of ScriptBack and its card. -/
import Derived.Test.YtcdhngppcpgojaaDoorScrOpenB
import Derived.Test.YtcdhngppcpgojaaDoorScrOpenC
import Derived.Test.YtcdhngppcpgojaaDoorScrBack
import Derived.Test.YtcdhngppcpgojaaDoorCards
import Derived.Test.YtcdhngppcpgojaaDoorTie
import Derived.Deep.DeepHandedRow
namespace Go.Proofs.YtcdhngppcpgojaaDoor
set_option linter.unusedSimpArgs false
set_option linter.unusedVariables false
open Go.ChangeShapes Go.WideShapes Go.ChangeAt Go.RowKit Go.Deep
set_option maxRecDepth 100000 in
theorem acts_cap {W : World} {H : Type} {enc : TypeId × Value → H} {A : Option Addr} {n c : Nat} {d : DataW H} {p : List MemPlace} (h : DataW.Trod enc Tryd.prog W 0 (fun _ => true) true 30 (.slice A n c) d p) : n ≤ c := by
  obtain ⟨fuel, hf⟩ := h
  rcases open_slice Tryd.underlying30 hf with ⟨hcs, _⟩ | ⟨a, len, cap, m, k, D, Pl, hcs, _, hl, hm, hmm, hx, hi⟩
  · simp [Value.cells] at hcs
    obtain ⟨rfl, rfl, rfl⟩ := hcs
    omega
  · simp [Value.cells] at hcs
    obtain ⟨rfl, rfl, rfl⟩ := hcs
    exact hl
set_option maxRecDepth 100000 in
theorem open_u16 {W : World} {H : Type} {enc : TypeId × Value → H} {r : Reach} {b0 : Nat} {v : Value} {d : DataW H} {p : List MemPlace} (hv : Value.okWide Tryd.prog W r b0 55 v) (h : DataW.Trod enc Tryd.prog W 0 (fun _ => true) true 55 v d p) : ∃ u : Int, v = .int .u16 u ∧ 0 ≤ u ∧ u < 65536 := by
  obtain ⟨u, rfl⟩ := okWide_int Tryd.underlying55 hv
  obtain ⟨fuel, hf⟩ := h
  obtain ⟨e, e0, _, w0⟩ := DataW.trod_int Tryd.underlying55 hf
  simp [Value.cells] at e0
  subst e0
  have h1 : IntKind.u16.min ≤ u ∧ u ≤ IntKind.u16.max := by simpa [Lit.wf] using w0
  have e1 : IntKind.u16.min = 0 := by decide
  have e2 : IntKind.u16.max = 65535 := by decide
  exact ⟨u, rfl, by omega, by omega⟩
theorem back_row (la : List Ac) (A : Option Addr) (n c : Nat) (lb : List Ac) (A' : Option Addr) (n' c' : Nat) (u : Int) (w : World) (ht : Wt w.heap.size w) (ha : AL w w.heap.size A n la) (hna : n ≤ 1048576) (hnc : n ≤ c) (hb : AL w w.heap.size A' n' lb) (hnb : n' ≤ 1048576) (_ : n' ≤ c') (hu : 0 ≤ u ∧ u < 65536) :
    Calls Tryd.prog 8 #[.slice A n c, .slice A' n' c', .int .u16 u] w fun e w' => e = .returned (.bool true) ∧ Below w.heap.size w w' := back_any la lb A A' n n' c c' u w ht ha hb hna hnb hnc hu
set_option maxRecDepth 100000 in
theorem scriptBack_contract (H : Type) (enc : TypeId × Value → H) (W : World) (base : Nat) (args : Array Value) (ds gs : List (DataW H)) (before : List MemPlace)
    (hval : ∀ (j : Nat) t v, Tryd.f8.params[j]? = some t → args[j]? = some v → Value.okWide Tryd.prog W .any base t v)
    (hW : DataW.Whole enc Tryd.prog Tryd.f8.params.toList Rows.scriptBackSpec.vars false W args.toList ds gs before)
    (hk : Rows.uptoSmall H (ds ++ gs) = true)
    (hL : laidMetH Tryd.prog Rows.scriptBackUptoRow.laid W) (hS : W.ShapedOpen Tryd.prog) :
    Calls Tryd.prog 8 args W fun e W' => ∃ v, e = .returned v ∧ Rows.scriptBackSpec.post enc Tryd.prog Tryd.f8 false true false false W args v W' := by
  have hW' := hW
  obtain ⟨p, q, hA0, hV, rfl, hfz, hnd⟩ := hW
  have hA : DataW.TrodAll enc Tryd.prog W 0 (fun _ => true) true Tryd.f8.params.toList args.toList ds p := hA0
  rw [Tryd.params8] at hA hval
  obtain ⟨v0, vs0, d0, ds0, p0, q0, hargs0, rfl, rfl, h0, r0⟩ := trodAll_cons hA
  obtain ⟨v1, vs1, d1, ds1, p1, q1, hargs1, rfl, rfl, h1, r1⟩ := trodAll_cons r0
  obtain ⟨v2, vs2, d2, ds2, p2, q2, hargs2, rfl, rfl, h2, r2⟩ := trodAll_cons r1
  obtain ⟨rfl, rfl, rfl⟩ := trodAll_nil r2
  obtain rfl : args = #[v0, v1, v2] := by cases args; simp_all
  obtain ⟨rfl, rfl⟩ := trodVars_none hV
  have lt0 : ∀ x ∈ p0, x.block < W.heap.size := by obtain ⟨m, hm⟩ := h0; exact DataW.trod_lt m _ _ _ hm
  have k0 := h0
  have lt1 : ∀ x ∈ p1, x.block < W.heap.size := by obtain ⟨m, hm⟩ := h1; exact DataW.trod_lt m _ _ _ hm
  have k1 := h1
  have lt2 : ∀ x ∈ p2, x.block < W.heap.size := by obtain ⟨m, hm⟩ := h2; exact DataW.trod_lt m _ _ _ hm
  have k2 := h2
  have hb : Rows.uptoBulk d0 + Rows.uptoBulk d1 + Rows.uptoBulk d2 ≤ 1048576 := by
    have h : Rows.uptoBulkAll (H := H) ((d0 :: d1 :: d2 :: []) ++ []) ≤ 1048576 := of_decide_eq_true hk
    simp only [List.append_nil, Rows.uptoBulkAll] at h
    omega
  obtain ⟨a0, n0, c0, rfl⟩ := okWide_slice Tryd.underlying30 (hval 0 30 v0 rfl rfl)
  obtain ⟨l0, hl0, hn0⟩ := open_acts h0 (by omega)
  have hcap0 := acts_cap h0
  obtain ⟨a1, n1, c1, rfl⟩ := okWide_slice Tryd.underlying30 (hval 1 30 v1 rfl rfl)
  obtain ⟨l1, hl1, hn1⟩ := open_acts h1 (by omega)
  have hcap1 := acts_cap h1
  obtain ⟨u2, rfl, hu2⟩ := open_u16 (hval 2 55 v2 rfl rfl) h2
  have hwt : Wt W.heap.size W := wt_of_laid hL hS
  clear hA0
  refine (back_row l0 a0 n0 c0 l1 a1 n1 c1 u2 W hwt hl0 hn0 hcap0 hl1 hn1 hcap1 hu2).mono fun e W' ⟨he, bel⟩ => ?_
  subst he
  exact ⟨_, rfl, _, _, _, [], _, [], hW', trodAll_mk1 (shut_bool Tryd.underlying4 _), (trodAll_cons_mk (Below.trod laid_out (by kernel_rfl) (of_decide_eq_true (by kernel_rfl)) k0 bel lt0) (trodAll_cons_mk (Below.trod laid_out (by kernel_rfl) (of_decide_eq_true (by kernel_rfl)) k1 bel lt1) (trodAll_cons_mk (Below.trod laid_out (by kernel_rfl) (of_decide_eq_true (by kernel_rfl)) k2 bel lt2) trodAll_mk0))), rfl, bel.frame _, fun h => by cases h⟩
theorem scriptBack_reads (os : Os) {H : Type} (enc : TypeId × Value → H) : ∃ places, DataW.whole enc Tryd.prog ((World.laidAll Tryd.prog os Rows.scriptBackUptoRow.laid).forCall (fun _ _ => 0) ⟨#[], #[.slice none 0 0, .slice none 0 0, .int .u16 0], []⟩).memory Tryd.f8.params.toList Rows.scriptBackSpec.vars false #[Value.slice none 0 0, .slice none 0 0, .int .u16 0].toList 8 = some ([.nil, .nil, .lit (.int .u16 0)], [], places) :=
  ⟨[], by kernel_rfl⟩
theorem scriptBack_laid (os : Os) : laidMetH Tryd.prog Rows.scriptBackUptoRow.laid ((World.laidAll Tryd.prog os Rows.scriptBackUptoRow.laid).forCall (fun _ _ => 0) ⟨#[], #[.slice none 0 0, .slice none 0 0, .int .u16 0], []⟩).memory :=
  laidMet_laidAll #[.slice none 0 0, .slice none 0 0, .int .u16 0] (by kernel_rfl) (by kernel_rfl)
set_option maxRecDepth 100000 in
theorem scriptBack_lifted (os : Os) (started : os.Started) (H : Type) (enc : TypeId × Value → H) (F : Stop.Interp) :
    ReturnsInHanded {} Tryd.checked os 8 .any ((Rows.OpenSpec.upto Rows.scriptBackSpec).preRow enc Tryd.prog Tryd.f8 Rows.scriptBackUptoRow.domain false Rows.scriptBackUptoRow.laid) (((Rows.OpenSpec.upto Rows.scriptBackSpec).at F).post enc Tryd.prog Tryd.f8 false true false false) := by
  obtain ⟨places, hx⟩ := scriptBack_reads os enc
  refine returnsInHanded_of_row (C := Tryd.checked) (s := Rows.OpenSpec.upto Rows.scriptBackSpec) own_knob started (by kernel_rfl) Tryd.func8
    (witness_row_at (enc := enc) (C := Tryd.checked) false (World.laidAll Tryd.prog os Rows.scriptBackUptoRow.laid) #[.slice none 0 0, .slice none 0 0, .int .u16 0] rfl (by kernel_rfl) (by kernel_rfl) (by kernel_rfl)
      (OpenSpec.preRow_of_cond 8 hx (by kernel_rfl) (fun k hk => by cases hk; kernel_rfl) (by kernel_rfl) (scriptBack_laid os))) ?_
  intro W base args ds gs before hval hW _ hcond _ hL hS _
  exact scriptBack_contract H enc W base args ds gs before hval hW (hcond _ rfl) hL hS
theorem scriptBack_said : Rows.ScriptBackUptoSaid :=
  OpenClaim.holds_of_cond 8 Tryd.f8 rfl rfl rfl rfl rfl rfl rfl ⟨rfl, rfl, rfl, rfl, rfl⟩ rfl rfl rfl rfl rfl (by kernel_rfl) Tryd.func8 (by kernel_rfl)
    (of_decide_eq_true (by kernel_rfl)) (by unfold Func.isWrapper; first | (rw [if_pos (by decide +kernel)]; kernel_rfl) | (rw [if_neg (by decide +kernel)]; exact ⟨rfl, rfl⟩))
    (fun os started H enc _ F => by rw [OpenClaim.pre_eq_preRow]; exact scriptBack_lifted os started H enc F)
theorem scriptBack_plain (f : FuncId) (fn : Func) (hf : Tryd.pinned.checked.prog.funcNamed "merestone/merestonelaw22.ScriptBack" = some f) (hfn : Tryd.pinned.checked.prog.funcs[f]? = some fn) :
    true = Tryd.pinned.checked.prog.looks [] ∧ ∀ (j : Nat) t, fn.params[j]? = some t → Tryd.pinned.checked.prog.wantsStandIn t = false := by
  obtain rfl : f = 8 := Option.some.inj ((show Tryd.prog.funcNamed "merestone/merestonelaw22.ScriptBack" = some 8 by kernel_rfl).symm.trans hf) |>.symm
  obtain rfl : fn = Tryd.f8 := (Option.some.inj (Tryd.func8.symm.trans hfn)).symm
  refine ⟨by kernel_rfl, fun j t ht => ?_⟩
  rw [Tryd.params8] at ht
  have hm := Array.mem_of_getElem? ht
  simp at hm
  rcases hm with rfl | rfl
  · exact (show Tryd.prog.wantsStandIn 30 = false by kernel_rfl)
  · exact (show Tryd.prog.wantsStandIn 55 = false by kernel_rfl)
theorem scriptBack_card : Rows.ScriptBackUptoCardSaid :=
  Claim7.holds_tied_plain_at .later [] _ _ _ _ scriptBack_said (fun _ h => by cases h) (by kernel_rfl) (fun _ h => by cases h) scriptBackUpto_row_tie rfl ⟨rfl, rfl⟩ (by kernel_rfl) rfl scriptBack_plain (by kernel_rfl)
end Go.Proofs.YtcdhngppcpgojaaDoor
