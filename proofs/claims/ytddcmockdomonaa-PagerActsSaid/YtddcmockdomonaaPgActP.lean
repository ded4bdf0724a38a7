/- The acts of PagerActs that came in, opened; and the statement. -/
import Derived.Test.YtddcmockdomonaaPgActO
import Derived.Test.YtddcmockdomonaaPgOpen
namespace Go.Proofs.Ytddcmockdomonaa
set_option linter.unusedSimpArgs false
set_option linter.unusedVariables false
open Go.ChangeShapes Go.WideShapes Go.ChangeAt Go.RowKit Go.Deep
theorem act_cells : Try.prog.cellsOf 51 = 4 := by kernel_rfl
theorem act_bytes : Try.prog.bytesOf 51 = 48 := by kernel_rfl
theorem u8_cells : Try.prog.cellsOf 5 = 1 := by kernel_rfl
theorem u8_bytes : Try.prog.bytesOf 5 = 1 := by kernel_rfl
theorem weights_mem_all {H : Type} {P : Program} {e : TypeId} : ∀ {ds : List (DataW H)} {d : DataW H}, d ∈ ds → ∀ n ∈ d.weights P e, n ∈ DataW.weightsAll P e ds
  | x :: ds, d, hd, n, hn => by
    simp only [DataW.weightsAll, List.mem_append]
    rcases List.mem_cons.1 hd with rfl | hd
    · exact .inl hn
    · exact .inr (weights_mem_all hd n hn)
section
variable {H : Type} {enc : TypeId × Value → H} {W : World}
/-- Bytes that came in. -/
theorem open_bytes {v : Value} {fuel : Nat} {y : DataW H × List MemPlace} (h : DataW.trod enc Try.prog W 0 (fun _ => true) true fuel 33 [v] = some y) (hw : ∀ x ∈ y.1.weights Try.prog 33, x ≤ reachBytes) :
    ∃ A n c l, v = .slice A n c ∧ RB W W.heap.size A n l ∧ n ≤ 140737488351232 := by
  rcases open_slice1 Try.underlying33 u8_cells h with ⟨hcs, _⟩ | ⟨a, len, cap, m, nn, V, D, Pl, hcs, _, hl, hm, hmm, hx, hi⟩
  · simp at hcs
    exact ⟨none, 0, 0, [], hcs, Reads.none_, Nat.zero_le _⟩
  · simp at hcs
    simp only [if_pos] at hmm
    subst hmm
    obtain ⟨l, hll, hlc⟩ := list_of_fn (P := fun i (b : UInt8) => W.cell? (a.add i) = some (u8v b)) len (fun i hi' => by
      obtain ⟨c0, t0⟩ := hi i (by omega)
      obtain ⟨x0, e0, _, w0⟩ := DataW.trod_int Try.underlying5 t0
      simp at e0
      rw [e0] at c0
      have := u8_wf2 w0
      refine ⟨UInt8.ofNat x0.toNat, ?_⟩
      rw [c0]
      unfold u8v
      have e1 : ((UInt8.ofNat x0.toNat).toNat : Int) = x0 := by
        rw [show (UInt8.ofNat x0.toNat).toNat = x0.toNat % 256 from rfl]
        omega
      rw [e1])
    refine ⟨some a, len, m, l, hcs, ⟨by rw [cs8_len]; omega, fun h0 => ⟨a, rfl, ?_, fun j u hu => ?_⟩⟩, ?_⟩
    · have := cell_lt (hlc 0 (by omega))
      rw [block_of_add] at this
      exact this
    · have hj := (List.getElem?_eq_some_iff.1 hu).1
      rw [cs8_len] at hj
      rw [cs8_get, List.getElem?_eq_getElem hj] at hu
      injection hu with hu
      subst hu
      exact hlc j hj
    · have := hw ((((List.range len).map D).length + ((List.range (m - len)).map fun j => D (len + j)).length) * Try.prog.bytesOf 5) (by rw [hx]; simp [DataW.weights, Try.underlying33])
      rw [u8_bytes] at this
      simp [reachBytes] at this
      omega
theorem open_pacts {A : Option Addr} {n c : Nat} {d : DataW H} {p : List MemPlace} (h : DataW.Trod enc Try.prog W 0 (fun _ => true) true 46 (.slice A n c) d p) (hw : ∀ x ∈ d.weights Try.prog 46, x ≤ reachBytes) :
    ∃ l : List AcV, Sl 4 AcV.enc W W.heap.size A n l ∧ (∀ x ∈ l, x.ok W) ∧ n ≤ 140737488351232 := by
  obtain ⟨fuel, hf⟩ := h
  rcases open_slice_fields Try.underlying46 Try.underlying51 (by kernel_rfl) act_cells hf with ⟨hcs, _⟩ | ⟨a, len, cap, m, D, Pl, hcs, _, hl, hm, hmm, hx, hi⟩
  · simp [Value.cells] at hcs
    obtain ⟨rfl, rfl, rfl⟩ := hcs
    exact ⟨[], Sl.nil _, (fun i hi => by cases hi), by omega⟩
  · simp [Value.cells] at hcs
    obtain ⟨rfl, rfl, rfl⟩ := hcs
    simp only [if_pos] at hmm
    subst hmm
    simp only [Prod.mk.injEq] at hx
    obtain ⟨hd, hp⟩ := hx
    subst hd
    have hwn := hw ((((List.range n).map D).length + ((List.range (m - n)).map fun j => D (n + j)).length) * Try.prog.bytesOf 51) (by simp [DataW.weights, Try.underlying46])
    rw [act_bytes] at hwn
    simp [reachBytes] at hwn
    obtain ⟨l, hll, hlc⟩ := list_of_fn (P := fun i (v : AcV) => v.ok W ∧ ∀ j u, v.enc[j]? = some u → W.cell? (a.add (i * 4 + j)) = some u) n (fun i hi' => by
      obtain ⟨ys, k, hD, _, _, hf⟩ := hi i (by omega)
      obtain ⟨v0, y0, c0, _, t0⟩ := hf 0 _ rfl
      obtain ⟨v1, y1, c1, _, t1⟩ := hf 1 _ rfl
      obtain ⟨v2, y2, c2, g2, t2⟩ := hf 2 _ rfl
      obtain ⟨v3, y3, c3, _, t3⟩ := hf 3 _ rfl
      obtain ⟨x0, e0, _, w0⟩ := DataW.trod_int Try.underlying3 t0
      obtain ⟨x1, e1, _, w1⟩ := DataW.trod_int Try.underlying3 t1
      obtain ⟨A2, n2, c2', l2, e2, r2, b2⟩ := open_bytes t2 (fun x hx => hw x (by
        simp only [DataW.weights, Try.underlying46]
        refine List.mem_cons_of_mem _ (List.mem_append_left _ (weights_mem_all (d := D i) (List.mem_map.2 ⟨i, List.mem_range.2 hi', rfl⟩) x ?_))
        rw [hD]
        simp only [DataW.weights, Try.underlying51]
        refine DataW.weights_mem_each (j := 2) (t := 33) (d := y2.1) rfl ?_ x hx
        rw [List.getElem?_map, g2]
        rfl))
      obtain ⟨x3, e3, _, w3⟩ := DataW.trod_int Try.underlying22 t3
      simp at e0 e1 e3
      subst e0 e1 e2 e3
      refine ⟨⟨x0, x1, A2, n2, c2', l2, x3⟩, ⟨i64_wf2 w1, u64_wf2 w3, r2, b2⟩, fun j u hu => ?_⟩
      match j, hu with
      | 0, hu => simp [AcV.enc] at hu; subst hu; exact c0
      | 1, hu => simp [AcV.enc] at hu; subst hu; exact c1
      | 2, hu => simp [AcV.enc] at hu; subst hu; exact c2
      | 3, hu => simp [AcV.enc] at hu; subst hu; exact c3
      | j + 4, hu => simp [AcV.enc] at hu)
    refine ⟨l, ?_, (fun x hx => by obtain ⟨i, hi', rfl⟩ := List.getElem_of_mem hx; exact (hlc i hi').1), by omega⟩
    rcases Nat.eq_zero_or_pos n with h0 | h0
    · subst h0
      have : l = [] := List.eq_nil_of_length_eq_zero hll
      subst this
      exact Sl.nil _
    · refine Sl.mk AcV.enc_len (by omega) hll ?_ (fun i hi' => (hlc i hi').2)
      have := cell_lt ((hlc 0 (by omega)).2 0 _ rfl)
      rw [block_of_add] at this; exact this
end
end Go.Proofs.Ytddcmockdomonaa
