/- The statement of JsonBack and its card. -/
import Derived.Test.YtmbjalcphdggnaaDoorJsPk
import Derived.Test.YtmbjalcphdggnaaDoorJsPl
import Derived.Lib.SmallJoins
import Derived.Test.YtmbjalcphdggnaaDoorTie
import Derived.Deep.DeepHandedRow
import Derived.Lay
namespace Go.Proofs.YtmbjalcphdggnaaDoor
set_option linter.unusedSimpArgs false
set_option linter.unusedVariables false
open Go.ChangeShapes Go.WideShapes Go.ChangeAt Go.RowKit Go.Deep
/-- Bytes that came in, with their bound. -/
theorem open_bytesw {H : Type} {enc : TypeId × Value → H} {W : World} {v : Value} {d : DataW H} {p : List MemPlace} (h : DataW.Trod enc Tryd.prog W 0 (fun _ => true) true 22 v d p) (hc : v.cells.toList = [v]) (hw : ∀ x ∈ d.weights Tryd.prog 22, x ≤ reachBytes) :
    ∃ A n c l, v = .slice A n c ∧ RB W W.heap.size A n l ∧ n ≤ c ∧ n ≤ 140737488355328 := by
  obtain ⟨A, n, c, l, rfl, hr, hnc⟩ := open_bytes h hc
  refine ⟨A, n, c, l, rfl, hr, hnc, ?_⟩
  obtain ⟨fuel, hf⟩ := h
  rw [hc] at hf
  rcases open_slice1 Tryd.underlying22 (by kernel_rfl) hf with ⟨hcs, _⟩ | ⟨a, len, cap, m, nn, V, D, Pl, hcs, _, hl, hm, hmm, hx, hi⟩
  · simp at hcs
    omega
  · simp at hcs
    simp only [if_pos] at hmm
    simp only [Prod.mk.injEq] at hx
    have := hw ((((List.range len).map D).length + ((List.range (m - len)).map fun j => D (len + j)).length) * Tryd.prog.bytesOf 5) (by rw [hx.1]; simp [DataW.weights, Tryd.underlying22])
    rw [show Tryd.prog.bytesOf 5 = 1 by kernel_rfl] at this
    simp [reachBytes] at this
    omega
theorem cells_val (k : Int) (t : ByteArray) (A : Option Addr) (n c : Nat) (A' : Option Addr) (n' c' : Nat) : (Value.agg #[.int .i64 k, .string t, .slice A n c, .slice A' n' c']).cells.toList = [.int .i64 k, .string t, .slice A n c, .slice A' n' c'] := by
  simp [Value.cells]
/-- A value that came in. -/
theorem open_value {H : Type} {enc : TypeId × Value → H} {W : World} {r : Reach} {b0 : Nat} {v : Value} {d : DataW H} {p : List MemPlace} (hv : Value.okWide Tryd.prog W r b0 TV v) (h : DataW.Trod enc Tryd.prog W 0 (fun _ => true) true TV v d p) (hw : ∀ x ∈ d.weights Tryd.prog TV, x ≤ reachBytes) :
    ∃ J cs, v = .agg cs.toArray ∧ VRd W (fun j => j < W.heap.size) J cs ∧ smJ J ∧ bdJ J := by
  obtain ⟨c0, c1, c2, c3, y0, y1, y2, y3, m, rfl, _, _, h0, h1, h2, h3⟩ := Joins.open_agg4 Tryd.underlying27 (by kernel_rfl) tv_cells hv h
  obtain ⟨k, e0, _, _⟩ := DataW.trod_int Tryd.underlying3 h0
  obtain ⟨t, e1, _, _⟩ := DataW.trod_string Tryd.underlying9 h1
  have e2 : ∃ A n c, c2 = .slice A n c := by
    rcases open_slice Tryd.underlying24 h2 with ⟨hcs, _⟩ | ⟨a, len, cap, m, n, D, Pl, hcs, _⟩
    · simp at hcs; exact ⟨_, _, _, hcs⟩
    · simp at hcs; exact ⟨_, _, _, hcs⟩
  have e3 : ∃ A n c, c3 = .slice A n c := by
    rcases open_slice Tryd.underlying25 h3 with ⟨hcs, _⟩ | ⟨a, len, cap, m, n, D, Pl, hcs, _⟩
    · simp at hcs; exact ⟨_, _, _, hcs⟩
    · simp at hcs; exact ⟨_, _, _, hcs⟩
  obtain ⟨A, n, c, rfl⟩ := e2
  obtain ⟨A', n', c', rfl⟩ := e3
  simp at e0 e1
  subst e0 e1
  obtain ⟨fuel, hf⟩ := h
  rw [cells_val] at hf
  obtain ⟨J, hJ, hs, hb⟩ := open_val fuel _ _ hf hw
  exact ⟨J, _, rfl, hJ, hs, hb⟩
set_option maxRecDepth 100000 in
theorem jsonBack_contract (H : Type) (enc : TypeId × Value → H) (W : World) (base : Nat) (args : Array Value) (ds gs : List (DataW H)) (before : List MemPlace)
    (hval : ∀ (j : Nat) t v, Tryd.f6.params[j]? = some t → args[j]? = some v → Value.okWide Tryd.prog W .any base t v)
    (hW : DataW.Whole enc Tryd.prog Tryd.f6.params.toList Rows.jsonBackSpec.vars false W args.toList ds gs before)
    (hsz : (DataW.weightsEach Tryd.prog (Tryd.f6.params.toList ++ Rows.jsonBackSpec.plain.varTypes Tryd.prog) (ds ++ gs)).all (· ≤ reachBytes) = true)
    (hL : laidMetH Tryd.prog Rows.jsonBackRow.laid W) :
    Calls Tryd.prog 6 args W fun e W' => ∃ v, e = .returned v ∧ Rows.jsonBackSpec.post enc Tryd.prog Tryd.f6 false true false false W args v W' := by
  have hW' := hW
  obtain ⟨p, q, hA0, hV, rfl, hfz, hnd⟩ := hW
  have hA : DataW.TrodAll enc Tryd.prog W 0 (fun _ => true) true Tryd.f6.params.toList args.toList ds p := hA0
  rw [Tryd.params6] at hA hval hsz
  obtain ⟨v0, vs0, d0, ds0, p0, q0, hargs, rfl, rfl, h0, r0⟩ := trodAll_cons hA
  obtain ⟨v1, vs1, d1, ds1, p1, q1, rfl, rfl, rfl, h1, r1⟩ := trodAll_cons r0
  obtain ⟨rfl, rfl, rfl⟩ := trodAll_nil r1
  obtain rfl : args = #[v0, v1] := by cases args; simp_all
  obtain ⟨rfl, rfl⟩ := trodVars_none hV
  have lt0 : ∀ x ∈ p0, x.block < W.heap.size := by obtain ⟨m, hm⟩ := h0; exact DataW.trod_lt m _ _ _ hm
  have lt1 : ∀ x ∈ p1, x.block < W.heap.size := by obtain ⟨m, hm⟩ := h1; exact DataW.trod_lt m _ _ _ hm
  have k0 := h0
  have k1 := h1
  obtain ⟨J, cs, rfl, hJ, hs, hb⟩ := open_value (hval 0 TV v0 rfl rfl) h0 (fun x hx => by simpa using List.all_eq_true.1 hsz x (DataW.weights_mem_each (j := 0) (t := TV) (d := d0) rfl rfl x hx))
  obtain ⟨A, n, c, l, rfl, hr1, hc1, hn1⟩ : ∃ A n c l, v1 = .slice A n c ∧ RB W W.heap.size A n l ∧ n ≤ c ∧ n ≤ 140737488355328 := by
    obtain ⟨a, len, cap, rfl⟩ := okWide_slice Tryd.underlying22 (hval 1 22 v1 rfl rfl)
    exact open_bytesw h1 rfl (fun x hx => by simpa using List.all_eq_true.1 hsz x (DataW.weights_mem_each (j := 1) (t := 22) (d := d1) rfl rfl x hx))
  have hT : Tabs W := tabs_of_laid hL (by kernel_rfl) (i := 1) (j := 0) (by kernel_rfl) (by kernel_rfl)
  clear hA0
  refine (back_any W J cs A n c l hT hJ hs hb hr1 hc1 hn1).mono fun e W' ⟨he, bel⟩ => ?_
  subst he
  exact ⟨_, rfl, _, _, _, [], _, [], hW', trodAll_mk1 (shut_bool Tryd.underlying4 _), (trodAll_cons_mk (Below.trod laid_out (by kernel_rfl) (of_decide_eq_true (by kernel_rfl)) k0 bel lt0) (trodAll_cons_mk (Below.trod laid_out (by kernel_rfl) (of_decide_eq_true (by kernel_rfl)) k1 bel lt1) trodAll_mk0)), rfl, bel.frame _, fun h => by cases h⟩
theorem jsonBack_reads (os : Os) {H : Type} (enc : TypeId × Value → H) : ∃ places, DataW.whole enc Tryd.prog ((World.laidAll Tryd.prog os Rows.jsonBackRow.laid).forCall (fun _ _ => 0) ⟨#[], #[.agg #[.int .i64 0, .string ⟨#[]⟩, .slice none 0 0, .slice none 0 0], .slice none 0 0], []⟩).memory Tryd.f6.params.toList Rows.jsonBackSpec.vars false (#[.agg #[.int .i64 0, .string ⟨#[]⟩, .slice none 0 0, .slice none 0 0], .slice none 0 0] : Array Value).toList 8 = some ([.agg [.lit (.int .i64 0), .lit (.string []), .nil, .nil], .nil], [], places) :=
  ⟨[], by kernel_rfl⟩
theorem jsonBack_laid (os : Os) : laidMetH Tryd.prog Rows.jsonBackRow.laid ((World.laidAll Tryd.prog os Rows.jsonBackRow.laid).forCall (fun _ _ => 0) ⟨#[], #[.agg #[.int .i64 0, .string ⟨#[]⟩, .slice none 0 0, .slice none 0 0], .slice none 0 0], []⟩).memory :=
  laidMet_laidAll #[.agg #[.int .i64 0, .string ⟨#[]⟩, .slice none 0 0, .slice none 0 0], .slice none 0 0] (by kernel_rfl) (by kernel_rfl)
set_option maxRecDepth 100000 in
theorem jsonBack_lifted (os : Os) (started : os.Started) (H : Type) (enc : TypeId × Value → H) (F : Stop.Interp) :
    ReturnsInHanded {} Tryd.checked os 6 .any ((OpenSpec.ofChange Rows.jsonBackSpec).preRow enc Tryd.prog Tryd.f6 Rows.jsonBackRow.domain false Rows.jsonBackRow.laid) (((OpenSpec.ofChange Rows.jsonBackSpec).at F).post enc Tryd.prog Tryd.f6 false true false false) := by
  obtain ⟨places, hx⟩ := jsonBack_reads os enc
  refine returnsInHanded_of_row (C := Tryd.checked) (s := OpenSpec.ofChange Rows.jsonBackSpec) own_knob started (by kernel_rfl) Tryd.func6
    (witness_row_at (enc := enc) (C := Tryd.checked) false (World.laidAll Tryd.prog os Rows.jsonBackRow.laid) #[.agg #[.int .i64 0, .string ⟨#[]⟩, .slice none 0 0, .slice none 0 0], .slice none 0 0] rfl (by kernel_rfl) (by kernel_rfl) (by kernel_rfl)
      (OpenSpec.preRow_of_cond 8 hx (by kernel_rfl) (fun k hk => by cases hk) (by kernel_rfl) (jsonBack_laid os))) ?_
  intro W base args ds gs before hval hW _ _ hsz hL _ _
  exact jsonBack_contract H enc W base args ds gs before hval hW hsz hL
theorem jsonBack_said : Rows.JsonBackSaid :=
  OpenClaim.holds_of_cond 6 Tryd.f6 rfl rfl rfl rfl rfl rfl rfl ⟨rfl, rfl, rfl, rfl, rfl⟩ rfl rfl rfl rfl rfl (by kernel_rfl) Tryd.func6 (by kernel_rfl)
    (of_decide_eq_true (by kernel_rfl)) (by unfold Func.isWrapper; first | (rw [if_pos (by decide +kernel)]; kernel_rfl) | (rw [if_neg (by decide +kernel)]; exact ⟨rfl, rfl⟩))
    (fun os started H enc _ F => by rw [OpenClaim.pre_eq_preRow]; exact jsonBack_lifted os started H enc F)
theorem jsonBack_plain (f : FuncId) (fn : Func) (hf : Tryd.pinned.checked.prog.funcNamed "merestone/merestonelaw11.JsonBack" = some f) (hfn : Tryd.pinned.checked.prog.funcs[f]? = some fn) :
    true = Tryd.pinned.checked.prog.looks [] ∧ ∀ (j : Nat) t, fn.params[j]? = some t → Tryd.pinned.checked.prog.wantsStandIn t = false := by
  obtain rfl : f = 6 := Option.some.inj ((show Tryd.prog.funcNamed "merestone/merestonelaw11.JsonBack" = some 6 by kernel_rfl).symm.trans hf) |>.symm
  obtain rfl : fn = Tryd.f6 := (Option.some.inj (Tryd.func6.symm.trans hfn)).symm
  refine ⟨by kernel_rfl, fun j t ht => ?_⟩
  rw [Tryd.params6] at ht
  have ht : t = TV ∨ t = 22 := by simpa using Array.mem_of_getElem? ht
  rcases ht with rfl | rfl
  · exact (show Tryd.prog.wantsStandIn TV = false by kernel_rfl)
  · exact (show Tryd.prog.wantsStandIn 22 = false by kernel_rfl)
theorem jsonBack_card : Rows.JsonBackCardSaid :=
  Claim7.holds_tied_plain_at .later [] _ _ _ _ jsonBack_said (fun _ h => by cases h) (by kernel_rfl) (fun _ h => by cases h) jsonBack_row_tie rfl ⟨rfl, rfl⟩ (by kernel_rfl) rfl jsonBack_plain (by kernel_rfl)
end Go.Proofs.YtmbjalcphdggnaaDoor
