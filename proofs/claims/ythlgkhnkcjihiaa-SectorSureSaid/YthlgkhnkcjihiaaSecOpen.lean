/- The arguments of the sectors' laws, opened. -/
import Derived.Test.YthlgkhnkcjihiaaSecAct
import Derived.Test.YthlgkhnkcjihiaaOpen
namespace Go.Proofs.Ythlgkhnkcjihiaa
set_option linter.unusedSimpArgs false
set_option linter.unusedVariables false
open Go.ChangeShapes Go.WideShapes Go.ChangeAt Go.RowKit Go.Deep
theorem act_cells : Try.prog.cellsOf 51 = 5 := by kernel_rfl
theorem act_bytes : Try.prog.bytesOf 51 = 32 := by kernel_rfl
theorem bool_cells : Try.prog.cellsOf 4 = 1 := by kernel_rfl
theorem bool_bytes : Try.prog.bytesOf 4 = 1 := by kernel_rfl
theorem i64_wf2 {n : Int} (h : (Lit.int .i64 n).wf = true) : -9223372036854775808 ≤ n ∧ n < 9223372036854775808 := by
  have h1 : IntKind.i64.min ≤ n ∧ n ≤ IntKind.i64.max := by simpa [Lit.wf] using h
  have e1 : IntKind.i64.min = -9223372036854775808 := by decide
  have e2 : IntKind.i64.max = 9223372036854775807 := by decide
  omega
theorem u64_wf2 {n : Int} (h : (Lit.int .u64 n).wf = true) : 0 ≤ n ∧ n < 18446744073709551616 := by
  have h1 : IntKind.u64.min ≤ n ∧ n ≤ IntKind.u64.max := by simpa [Lit.wf] using h
  have e1 : IntKind.u64.min = 0 := by decide
  have e2 : IntKind.u64.max = 18446744073709551615 := by decide
  omega
theorem u8_wf2 {n : Int} (h : (Lit.int .u8 n).wf = true) : 0 ≤ n ∧ n < 256 := by
  have h1 : IntKind.u8.min ≤ n ∧ n ≤ IntKind.u8.max := by simpa [Lit.wf] using h
  have e1 : IntKind.u8.min = 0 := by decide
  have e2 : IntKind.u8.max = 255 := by decide
  omega
/-- A list of bools that came in. -/
theorem open_bls {H : Type} {enc : TypeId × Value → H} {W : World} {A : Option Addr} {n c : Nat} {d : DataW H} {p : List MemPlace}
    (h : DataW.Trod enc Try.prog W 0 (fun _ => true) true 41 (.slice A n c) d p) :
    ∃ l : List Bool, BR W W.heap.size A n l ∧ ((A = none ∧ n = 0 ∧ c = 0) ∨ ∃ es sp, d = .slice es sp ∧ es.length + sp.length = c ∧ n ≤ c) := by
  obtain ⟨fuel, hf⟩ := h
  rcases open_slice1 Try.underlying41 bool_cells hf with ⟨hcs, _⟩ | ⟨a, len, cap, m, nn, V, D, Pl, hcs, _, hl, hm, hmm, hx, hi⟩
  · simp [Value.cells] at hcs
    obtain ⟨rfl, rfl, rfl⟩ := hcs
    exact ⟨[], Sl.nil _, .inl ⟨rfl, rfl, rfl⟩⟩
  · simp [Value.cells] at hcs
    obtain ⟨rfl, rfl, rfl⟩ := hcs
    simp only [if_pos] at hmm
    subst hmm
    simp only [Prod.mk.injEq] at hx
    obtain ⟨hd, hp⟩ := hx
    obtain ⟨l, hll, hlc⟩ := list_of_fn (P := fun i (v : Bool) => ∀ j u, (bEnc v)[j]? = some u → W.cell? (a.add (i * 1 + j)) = some u) n (fun i hi' => by
      obtain ⟨c0, t0⟩ := hi i (by omega)
      obtain ⟨b, e0, _⟩ := DataW.trod_bool Try.underlying4 t0
      simp at e0
      rw [e0] at c0
      refine ⟨b, fun j u hu => ?_⟩
      match j, hu with
      | 0, hu => simp [bEnc] at hu; subst hu; simpa using c0
      | j + 1, hu => simp [bEnc] at hu)
    refine ⟨l, ?_, .inr ⟨_, _, hd, by simp; omega, hl⟩⟩
    rcases Nat.eq_zero_or_pos n with h0 | h0
    · subst h0
      have : l = [] := List.eq_nil_of_length_eq_zero hll
      subst this
      exact Sl.nil _
    · refine Sl.mk (fun _ => rfl) (by omega) hll ?_ hlc
      have := cell_lt (hlc 0 (by omega) 0 _ rfl)
      rw [block_of_add] at this; exact this
/-- A list of acts that came in. -/
theorem open_acts {H : Type} {enc : TypeId × Value → H} {W : World} {A : Option Addr} {n c : Nat} {d : DataW H} {p : List MemPlace}
    (h : DataW.Trod enc Try.prog W 0 (fun _ => true) true 22 (.slice A n c) d p) :
    ∃ l : List ActV, AR W W.heap.size A n l ∧ okActs l ∧ ((A = none ∧ n = 0 ∧ c = 0) ∨ ∃ es sp, d = .slice es sp ∧ es.length + sp.length = c ∧ n ≤ c) := by
  obtain ⟨fuel, hf⟩ := h
  rcases open_slice_fields Try.underlying22 Try.underlying51 (by kernel_rfl) act_cells hf with ⟨hcs, _⟩ | ⟨a, len, cap, m, D, Pl, hcs, _, hl, hm, hmm, hx, hi⟩
  · simp [Value.cells] at hcs
    obtain ⟨rfl, rfl, rfl⟩ := hcs
    exact ⟨[], Sl.nil _, fun i hi => by simp at hi, .inl ⟨rfl, rfl, rfl⟩⟩
  · simp [Value.cells] at hcs
    obtain ⟨rfl, rfl, rfl⟩ := hcs
    simp only [if_pos] at hmm
    subst hmm
    simp only [Prod.mk.injEq] at hx
    obtain ⟨hd, hp⟩ := hx
    obtain ⟨l, hll, hlc⟩ := list_of_fn (P := fun i (v : ActV) => v.ok ∧ ∀ j u, v.enc[j]? = some u → W.cell? (a.add (i * 5 + j)) = some u) n (fun i hi' => by
      obtain ⟨ys, k, _, _, _, hf⟩ := hi i (by omega)
      obtain ⟨v0, y0, c0, _, t0⟩ := hf 0 _ rfl
      obtain ⟨v1, y1, c1, _, t1⟩ := hf 1 _ rfl
      obtain ⟨v2, y2, c2, _, t2⟩ := hf 2 _ rfl
      obtain ⟨v3, y3, c3, _, t3⟩ := hf 3 _ rfl
      obtain ⟨v4, y4, c4, _, t4⟩ := hf 4 _ rfl
      obtain ⟨x0, e0, _, w0⟩ := DataW.trod_int Try.underlying3 t0
      obtain ⟨x1, e1, _, w1⟩ := DataW.trod_int Try.underlying3 t1
      obtain ⟨x2, e2, _, w2⟩ := DataW.trod_int Try.underlying5 t2
      obtain ⟨x3, e3, _⟩ := DataW.trod_bool Try.underlying4 t3
      obtain ⟨x4, e4, _, w4⟩ := DataW.trod_int Try.underlying23 t4
      simp at e0 e1 e2 e3 e4
      subst e0 e1 e2 e3 e4
      refine ⟨⟨x0, x1, x2, x3, x4⟩, ⟨i64_wf2 w0, i64_wf2 w1, u8_wf2 w2, u64_wf2 w4⟩, fun j u hu => ?_⟩
      match j, hu with
      | 0, hu => simp [ActV.enc] at hu; subst hu; exact c0
      | 1, hu => simp [ActV.enc] at hu; subst hu; exact c1
      | 2, hu => simp [ActV.enc] at hu; subst hu; exact c2
      | 3, hu => simp [ActV.enc] at hu; subst hu; exact c3
      | 4, hu => simp [ActV.enc] at hu; subst hu; exact c4
      | j + 5, hu => simp [ActV.enc] at hu)
    refine ⟨l, ?_, fun i hi' => (hlc i hi').1, .inr ⟨_, _, hd, by simp; omega, hl⟩⟩
    rcases Nat.eq_zero_or_pos n with h0 | h0
    · subst h0
      have : l = [] := List.eq_nil_of_length_eq_zero hll
      subst this
      exact Sl.nil _
    · refine Sl.mk ActV.enc_len (by omega) hll ?_ (fun i hi' => (hlc i hi').2)
      have := cell_lt ((hlc 0 (by omega)).2 0 _ rfl)
      rw [block_of_add] at this; exact this
end Go.Proofs.Ythlgkhnkcjihiaa
