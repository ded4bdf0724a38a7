/- Numbers of 128 bits that came in, opened. -/
import Derived.Test.YtmfilhmcgagjcaaWideT
import Derived.Test.YtmfilhmcgagjcaaOpen
import Derived.Lib.SmallJoins
namespace Go.Proofs.Ytmfilhmcgagjcaa
set_option linter.unusedSimpArgs false
set_option linter.unusedVariables false
open Go.ChangeShapes Go.WideShapes Go.ChangeAt Go.RowKit Go.Deep
theorem i2_cells : Try.prog.cellsOf 25 = 2 := by kernel_rfl
theorem i2_bytes : Try.prog.bytesOf 25 = 16 := by kernel_rfl
theorem i64_wf {n : Int} (h : (Lit.int .i64 n).wf = true) : i64ok n := by
  have h1 : IntKind.i64.min ≤ n ∧ n ≤ IntKind.i64.max := by simpa [Lit.wf] using h
  have e1 : IntKind.i64.min = -9223372036854775808 := by decide
  have e2 : IntKind.i64.max = 9223372036854775807 := by decide
  unfold i64ok; omega
theorem u64_wf {n : Int} (h : (Lit.int .u64 n).wf = true) : 0 ≤ n ∧ n < 18446744073709551616 := by
  have h1 : IntKind.u64.min ≤ n ∧ n ≤ IntKind.u64.max := by simpa [Lit.wf] using h
  have e1 : IntKind.u64.min = 0 := by decide
  have e2 : IntKind.u64.max = 18446744073709551615 := by decide
  omega
theorem u8_wf {n : Int} (h : (Lit.int .u8 n).wf = true) : 0 ≤ n ∧ n < 256 := by
  have h1 : IntKind.u8.min ≤ n ∧ n ≤ IntKind.u8.max := by simpa [Lit.wf] using h
  have e1 : IntKind.u8.min = 0 := by decide
  have e2 : IntKind.u8.max = 255 := by decide
  omega
/-- A number that came in, by value. -/
theorem open_i2 {H : Type} {enc : TypeId × Value → H} {W : World} {r : Reach} {b0 : Nat} {v : Value} {d : DataW H} {p : List MemPlace} (hv : Value.okWide Try.prog W r b0 25 v)
    (h : DataW.Trod enc Try.prog W 0 (fun _ => true) true 25 v d p) : ∃ x : I2, v = .agg #[.int .i64 x.hi, .int .u64 x.lo] ∧ x.ok := by
  obtain ⟨c0, c1, y0, y1, m, rfl, _, _, h0, h1⟩ := Joins.open_agg2 Try.underlying25 (by kernel_rfl) i2_cells hv h
  obtain ⟨s, e0, _, w0⟩ := DataW.trod_int Try.underlying2 h0
  obtain ⟨t, e1, _, w1⟩ := DataW.trod_int Try.underlying23 h1
  simp at e0 e1
  subst e0 e1
  exact ⟨⟨s, t⟩, rfl, i64_wf w0, u64_wf w1⟩
/-- A list of numbers that came in. -/
theorem open_i2s {H : Type} {enc : TypeId × Value → H} {W : World} {A : Option Addr} {n c : Nat} {d : DataW H} {p : List MemPlace}
    (h : DataW.Trod enc Try.prog W 0 (fun _ => true) true 29 (.slice A n c) d p) :
    ∃ l : List I2, IR W W.heap.size A n l ∧ okAll l ∧ ((A = none ∧ n = 0 ∧ c = 0) ∨ ∃ es sp, d = .slice es sp ∧ es.length + sp.length = c ∧ n ≤ c) := by
  obtain ⟨fuel, hf⟩ := h
  rcases open_slice_fields Try.underlying29 Try.underlying25 (by kernel_rfl) i2_cells hf with ⟨hcs, _⟩ | ⟨a, len, cap, m, D, Pl, hcs, _, hl, hm, hmm, hx, hi⟩
  · simp [Value.cells] at hcs
    obtain ⟨rfl, rfl, rfl⟩ := hcs
    exact ⟨[], Sl.nil _, fun i hi => by simp at hi, .inl ⟨rfl, rfl, rfl⟩⟩
  · simp [Value.cells] at hcs
    obtain ⟨rfl, rfl, rfl⟩ := hcs
    simp only [if_pos] at hmm
    subst hmm
    simp only [Prod.mk.injEq] at hx
    obtain ⟨hd, hp⟩ := hx
    obtain ⟨l, hll, hlc⟩ := list_of_fn (P := fun i (v : I2) => v.ok ∧ ∀ j u, v.enc[j]? = some u → W.cell? (a.add (i * 2 + j)) = some u) n (fun i hi' => by
      obtain ⟨ys, k, _, _, _, hf⟩ := hi i (by omega)
      obtain ⟨v0, y0, c0, _, t0⟩ := hf 0 _ rfl
      obtain ⟨v1, y1, c1, _, t1⟩ := hf 1 _ rfl
      obtain ⟨s, e0, _, w0⟩ := DataW.trod_int Try.underlying2 t0
      obtain ⟨t, e1, _, w1⟩ := DataW.trod_int Try.underlying23 t1
      simp at e0 e1
      subst e0 e1
      refine ⟨⟨s, t⟩, ⟨i64_wf w0, u64_wf w1⟩, fun j u hu => ?_⟩
      match j, hu with
      | 0, hu => simp [I2.enc] at hu; subst hu; exact c0
      | 1, hu => simp [I2.enc] at hu; subst hu; exact c1
      | j + 2, hu => simp [I2.enc] at hu)
    refine ⟨l, ?_, fun i hi => (hlc i hi).1, .inr ⟨_, _, hd, by simp; omega, hl⟩⟩
    rcases Nat.eq_zero_or_pos n with h0 | h0
    · subst h0
      have : l = [] := List.eq_nil_of_length_eq_zero hll
      subst this
      exact Sl.nil _
    · refine Sl.mk I2.enc_len (by omega) hll ?_ (fun i hi => (hlc i hi).2)
      have := cell_lt ((hlc 0 (by omega)).2 0 _ rfl)
      rw [block_of_add] at this; exact this
end Go.Proofs.Ytmfilhmcgagjcaa
