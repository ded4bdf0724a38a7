/- The statement of VersionAsOf, over its law's walk. -/
import Derived.Test.YtldlaojcbgckjaaVerAsOf
import Derived.Test.YtldlaojcbgckjaaOpen
namespace Go.Proofs.Ytldlaojcbgckjaa
open Go.ChangeShapes Go.WideShapes Go.ChangeAt Go.RowKit Go.Deep
theorem ver_cells : Try.prog.cellsOf 24 = 3 := by kernel_rfl
theorem ver_bytes : Try.prog.bytesOf 24 = 24 := by kernel_rfl
/-- A list of versions that came in. -/
theorem open_vers {H : Type} {enc : TypeId × Value → H} {W : World} {A : Option Addr} {n c : Nat} {d : DataW H} {p : List MemPlace}
    (h : DataW.Trod enc Try.prog W 0 (fun _ => true) true 22 (.slice A n c) d p) :
    ∃ l : List Ver, VR W W.heap.size A n l ∧ ((A = none ∧ n = 0 ∧ c = 0) ∨ ∃ es sp, d = .slice es sp ∧ es.length + sp.length = c ∧ n ≤ c) := by
  obtain ⟨fuel, hf⟩ := h
  rcases open_slice_fields Try.underlying22 Try.underlying24 (by kernel_rfl) ver_cells hf with ⟨hcs, _⟩ | ⟨a, len, cap, m, D, Pl, hcs, _, hl, hm, hmm, hx, hi⟩
  · simp [Value.cells] at hcs
    obtain ⟨rfl, rfl, rfl⟩ := hcs
    exact ⟨[], Sl.nil _, .inl ⟨rfl, rfl, rfl⟩⟩
  · simp [Value.cells] at hcs
    obtain ⟨rfl, rfl, rfl⟩ := hcs
    simp only [if_pos] at hmm
    subst hmm
    simp only [Prod.mk.injEq] at hx
    obtain ⟨hd, hp⟩ := hx
    obtain ⟨l, hll, hlc⟩ := list_of_fn (P := fun i (v : Ver) => ∀ j u, v.enc[j]? = some u → W.cell? (a.add (i * 3 + j)) = some u) n (fun i hi' => by
      obtain ⟨ys, k, _, _, _, hf⟩ := hi i (by omega)
      obtain ⟨v0, y0, c0, _, t0⟩ := hf 0 _ rfl
      obtain ⟨v1, y1, c1, _, t1⟩ := hf 1 _ rfl
      obtain ⟨v2, y2, c2, _, t2⟩ := hf 2 _ rfl
      obtain ⟨s, e0, _, _⟩ := DataW.trod_int Try.underlying3 t0
      obtain ⟨t, e1, _, _⟩ := DataW.trod_int Try.underlying3 t1
      obtain ⟨r, e2, _, _⟩ := DataW.trod_int Try.underlying3 t2
      simp at e0 e1 e2
      subst e0 e1 e2
      refine ⟨⟨s, t, r⟩, fun j u hu => ?_⟩
      match j, hu with
      | 0, hu => simp [Ver.enc] at hu; subst hu; exact c0
      | 1, hu => simp [Ver.enc] at hu; subst hu; exact c1
      | 2, hu => simp [Ver.enc] at hu; subst hu; exact c2
      | j + 3, hu => simp [Ver.enc] at hu)
    refine ⟨l, ?_, .inr ⟨_, _, hd, by simp; omega, hl⟩⟩
    rcases Nat.eq_zero_or_pos n with h0 | h0
    · subst h0
      have : l = [] := List.eq_nil_of_length_eq_zero hll
      subst this
      exact Sl.nil _
    · refine Sl.mk Ver.enc_len (by omega) hll ?_ hlc
      have := cell_lt (hlc 0 (by omega) 0 _ rfl)
      rw [block_of_add] at this; exact this

set_option maxRecDepth 100000 in
theorem asof_lifted (os : Os) (started : os.Started) (H : Type) (enc : TypeId × Value → H) :
    ReturnsInHanded {} Try.checked os 3 .any (Rows.versionAsOfSpec.pre6 enc Try.prog Try.f3 Rows.versionAsOfRow.domain false) (Rows.versionAsOfSpec.post enc Try.prog Try.f3 false true false false) := by
  refine returnsInHanded_of_change_sized (C := Try.checked) own_knob started (by kernel_rfl) Try.func3
    (ChangeSpec.witness6 (enc := enc) (C := Try.checked) false ⟨#[], #[.slice none 0 0, .int .i64 0], []⟩ 8 (by kernel_rfl) (by kernel_rfl) (by kernel_rfl) (by kernel_rfl)) ?_
  intro W base args ds gs before hval0 hW hcnd hsz0 _
  have hval : ∀ (j : Nat) t v, Try.f3.params[j]? = some t → args[j]? = some v → Value.okWide Try.prog W .any base t v := hval0
  have hsz : (DataW.weightsEach Try.prog (Try.f3.params.toList ++ Rows.versionAsOfSpec.plain.varTypes Try.prog) (ds ++ gs)).all (· ≤ reachBytes) = true := hsz0
  have hW' := hW
  obtain ⟨p, q, hA0, hV, rfl, hfz, hnd⟩ := hW
  have hA : DataW.TrodAll enc Try.prog W 0 (fun _ => true) true Try.f3.params.toList args.toList ds p := hA0
  rw [Try.params3] at hA hval hsz
  obtain ⟨v0, vs0, d0, ds0, p0, q0, hargs, rfl, rfl, h0, r0⟩ := trodAll_cons hA
  obtain ⟨v1, vs1, d1, ds1, p1, q1, rfl, rfl, rfl, h1, r1⟩ := trodAll_cons r0
  obtain ⟨rfl, rfl, rfl⟩ := trodAll_nil r1
  obtain rfl : args = #[v0, v1] := by cases args; simp_all
  obtain ⟨rfl, rfl⟩ := trodVars_none hV
  obtain ⟨a0, n0, c0, rfl⟩ := okWide_slice Try.underlying22 (hval 0 22 v0 rfl rfl)
  have k0 := h0
  have lt0 : ∀ x ∈ p0, x.block < W.heap.size := by obtain ⟨m, hm⟩ := k0; exact DataW.trod_lt m _ _ _ hm
  obtain ⟨l, hl, hs⟩ := open_vers h0
  have hn : n0 * 24 ≤ 140737488355328 := by
    rcases hs with ⟨_, rfl, _⟩ | ⟨es, sp, rfl, hc, hle⟩
    · omega
    · have := sized_slice hsz (j := 0) (t := 22) (e := 24) rfl rfl Try.underlying22
      rw [ver_bytes] at this
      simp only [reachBytes] at this
      omega
  obtain ⟨a1, rfl, rfl, rfl, w1⟩ := open_int Try.underlying3 (hval 1 3 v1 rfl rfl) h1
  clear hA0 hval0
  refine (lawAsOf_any l a0 n0 c0 a1 W hl hn).mono fun e W' ⟨he, bel⟩ => ?_
  subst he
  exact ⟨_, rfl, _, _, _, [], _, [], hW', trodAll_mk1 (shut_bool Try.underlying4 _), (trodAll_cons_mk (Below.trod laid_out (by kernel_rfl) (of_decide_eq_true (by kernel_rfl)) k0 bel lt0) (trodAll_cons_mk (shut_int Try.underlying3 w1) trodAll_mk0)), rfl, bel.frame _, fun h => by cases h⟩

theorem asof_holds : Rows.VersionAsOfSaid :=
  OpenClaim.holds_of_wide 3 Try.f3 rfl rfl rfl rfl rfl rfl rfl ⟨rfl, rfl, rfl, rfl, rfl⟩ rfl rfl rfl rfl rfl (by kernel_rfl) Try.func3 (by kernel_rfl)
    (of_decide_eq_true (by kernel_rfl)) (by unfold Func.isWrapper; first | (rw [if_pos (by decide +kernel)]; kernel_rfl) | (rw [if_neg (by decide +kernel)]; exact ⟨rfl, rfl⟩))
    (fun os started H enc _ => asof_lifted os started H enc)
end Go.Proofs.Ytldlaojcbgckjaa
