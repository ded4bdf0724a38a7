/- A list of versions that came in, opened. -/
import Derived.Test.YtldlaojcbgckjaaVerA
import Derived.Test.YtldlaojcbgckjaaOpen
import Derived.Lib.SmallJoins
namespace Go.Proofs.Ytldlaojcbgckjaa
set_option linter.unusedSimpArgs false
set_option linter.unusedVariables false
open Go.ChangeShapes Go.WideShapes Go.ChangeAt Go.RowKit Go.Deep
theorem ver_cells : Try.prog.cellsOf 24 = 3 := by kernel_rfl
theorem ver_bytes : Try.prog.bytesOf 24 = 24 := by kernel_rfl
/-- A list of versions that came in. -/
theorem open_vers {H : Type} {enc : TypeId × Value → H} {W : World} {A : Option Addr} {n c : Nat} {d : DataW H} {p : List MemPlace}
    (h : DataW.Trod enc Try.prog W 0 (fun _ => true) true 22 (.slice A n c) d p) :
    ∃ l : List Ver, VR W W.heap.size A n l ∧ ((A = none ∧ n = 0 ∧ c = 0) ∨ ∃ es sp, d = .slice es sp ∧ es.length + sp.length = c ∧ n ≤ c) := by
  obtain ⟨fuel, hf⟩ := h
  rcases open_slice_fields Try.underlying22 Try.underlying24 (by kernel_rfl) ver_cells hf with ⟨hcs, _⟩ | ⟨a, len, cap, m, D, Pl, hcs, _, hl, hm, hmm, hx, hi⟩
  · simp [Value.cells] at hcs
    obtain ⟨rfl, rfl, rfl⟩ := hcs
    exact ⟨[], Sl.nil _, .inl ⟨rfl, rfl, rfl⟩⟩
  · simp [Value.cells] at hcs
    obtain ⟨rfl, rfl, rfl⟩ := hcs
    simp only [if_pos] at hmm
    subst hmm
    simp only [Prod.mk.injEq] at hx
    obtain ⟨hd, hp⟩ := hx
    obtain ⟨l, hll, hlc⟩ := list_of_fn (P := fun i (v : Ver) => ∀ j u, v.enc[j]? = some u → W.cell? (a.add (i * 3 + j)) = some u) n (fun i hi' => by
      obtain ⟨ys, k, _, _, _, hf⟩ := hi i (by omega)
      obtain ⟨v0, y0, c0, _, t0⟩ := hf 0 _ rfl
      obtain ⟨v1, y1, c1, _, t1⟩ := hf 1 _ rfl
      obtain ⟨v2, y2, c2, _, t2⟩ := hf 2 _ rfl
      obtain ⟨s, e0, _, _⟩ := DataW.trod_int Try.underlying3 t0
      obtain ⟨t, e1, _, _⟩ := DataW.trod_int Try.underlying3 t1
      obtain ⟨r, e2, _, _⟩ := DataW.trod_int Try.underlying3 t2
      simp at e0 e1 e2
      subst e0 e1 e2
      refine ⟨⟨s, t, r⟩, fun j u hu => ?_⟩
      match j, hu with
      | 0, hu => simp [Ver.enc] at hu; subst hu; exact c0
      | 1, hu => simp [Ver.enc] at hu; subst hu; exact c1
      | 2, hu => simp [Ver.enc] at hu; subst hu; exact c2
      | j + 3, hu => simp [Ver.enc] at hu)
    refine ⟨l, ?_, .inr ⟨_, _, hd, by simp; omega, hl⟩⟩
    rcases Nat.eq_zero_or_pos n with h0 | h0
    · subst h0
      have : l = [] := List.eq_nil_of_length_eq_zero hll
      subst this
      exact Sl.nil _
    · refine Sl.mk Ver.enc_len (by omega) hll ?_ hlc
      have := cell_lt (hlc 0 (by omega) 0 _ rfl)
      rw [block_of_add] at this; exact this

/-- A version that came in, by value. -/
theorem open_ver {H : Type} {enc : TypeId × Value → H} {W : World} {r : Reach} {b0 : Nat} {v : Value} {d : DataW H} {p : List MemPlace} (hv : Value.okWide Try.prog W r b0 24 v)
    (h : DataW.Trod enc Try.prog W 0 (fun _ => true) true 24 v d p) : ∃ x : Ver, v = .agg #[.int .i64 x.s, .int .i64 x.t, .int .i64 x.r] := by
  obtain ⟨c0, c1, c2, y0, y1, y2, m, rfl, _, _, h0, h1, h2⟩ := Joins.open_agg3 Try.underlying24 (by kernel_rfl) ver_cells hv h
  obtain ⟨s, e0, _, _⟩ := DataW.trod_int Try.underlying3 h0
  obtain ⟨t, e1, _, _⟩ := DataW.trod_int Try.underlying3 h1
  obtain ⟨q, e2, _, _⟩ := DataW.trod_int Try.underlying3 h2
  simp at e0 e1 e2
  subst e0 e1 e2
  exact ⟨⟨s, t, q⟩, rfl⟩
end Go.Proofs.Ytldlaojcbgckjaa
