/- Acts that came in, opened; their bulk. -/
import Derived.Test.YtcdhngppcpgojaaDoorScrQ
import Derived.Test.YtcdhngppcpgojaaDoorScrOpen
namespace Go.Proofs.YtcdhngppcpgojaaDoor
set_option linter.unusedSimpArgs false
set_option linter.unusedVariables false
open Go.ChangeShapes Go.WideShapes Go.ChangeAt Go.RowKit Go.Deep
theorem bulk_one {H : Type} (d : DataW H) : 1 ≤ Rows.uptoBulk d := by
  cases d with
  | lit l => cases l <;> simp [Rows.uptoBulk]
  | _ => simp [Rows.uptoBulk]
theorem bulk_part {H : Type} {d : DataW H} {l : List (DataW H)} (h : d ∈ l) : Rows.uptoBulk d ≤ Rows.uptoBulkAll l := by
  induction l with
  | nil => cases h
  | cons x r ih =>
    simp only [Rows.uptoBulkAll]
    cases List.mem_cons.1 h with
    | inl e => subst e; omega
    | inr e => have := ih e; omega
theorem bulk_len {H : Type} (l : List (DataW H)) : l.length ≤ Rows.uptoBulkAll l := by
  induction l with
  | nil => simp [Rows.uptoBulkAll]
  | cons x r ih => have := bulk_one x; simp only [Rows.uptoBulkAll, List.length_cons]; omega
theorem bulk_slice {H : Type} (es sp : List (DataW H)) : es.length ≤ Rows.uptoBulk (.slice es sp) ∧ Rows.uptoBulkAll es ≤ Rows.uptoBulk (.slice es sp) := by
  have := bulk_len es
  simp only [Rows.uptoBulk, Rows.uptoBulkAll]
  omega
theorem ring_under : Tryd.prog.underlying 33 = some (.slice TPt) := Tryd.underlying33
theorem pt_cells : Tryd.prog.cellsOf TPt = 2 := by kernel_rfl
theorem u64_cells : Tryd.prog.cellsOf 31 = 1 := by kernel_rfl
theorem str_cells : Tryd.prog.cellsOf 9 = 1 := by kernel_rfl
theorem ring_cells : Tryd.prog.cellsOf 33 = 1 := by kernel_rfl
theorem op_cells : Tryd.prog.cellsOf 35 = 5 := by kernel_rfl
theorem act_cells : Tryd.prog.cellsOf TAct = 10 := by kernel_rfl
theorem u64_wf2 {n : Int} (h : (Lit.int .u64 n).wf = true) : 0 ≤ n ∧ n < 18446744073709551616 := by
  have h1 : IntKind.u64.min ≤ n ∧ n ≤ IntKind.u64.max := by simpa [Lit.wf] using h
  have e1 : IntKind.u64.min = 0 := by decide
  have e2 : IntKind.u64.max = 18446744073709551615 := by decide
  omega
section
variable {H : Type} {enc : TypeId × Value → H} {W : World}
/-- A ring that came in. -/
theorem open_ring {v : Value} {fuel : Nat} {y : DataW H × List MemPlace} (h : DataW.trod enc Tryd.prog W 0 (fun _ => true) true fuel 33 [v] = some y) :
    ∃ A n c l, v = .slice A n c ∧ Sl 2 pEnc W W.heap.size A n l ∧ (∀ p ∈ l, in64 p.1 ∧ in64 p.2) ∧ n ≤ Rows.uptoBulk y.1 := by
  rcases open_slice_fields ring_under Tryd.underlying74 (by kernel_rfl) pt_cells h with ⟨hcs, _⟩ | ⟨a, len, cap, m, D, Pl, hcs, _, hl, hm, hmm, hx, hi⟩
  · simp at hcs
    exact ⟨none, 0, 0, [], hcs, Sl.nil _, (fun x hx => by cases hx), Nat.zero_le _⟩
  · simp at hcs
    simp only [if_pos] at hmm
    subst hmm
    obtain ⟨l, hll, hlc⟩ := list_of_fn (P := fun i (p : Int × Int) => (in64 p.1 ∧ in64 p.2) ∧ ∀ j u, (pEnc p)[j]? = some u → W.cell? (a.add (i * 2 + j)) = some u) len (fun i hi' => by
      obtain ⟨ys, k, _, _, _, hf⟩ := hi i (by omega)
      obtain ⟨v0, y0, c0, _, t0⟩ := hf 0 _ rfl
      obtain ⟨v1, y1, c1, _, t1⟩ := hf 1 _ rfl
      obtain ⟨x0, e0, _, w0⟩ := DataW.trod_int Tryd.underlying3 t0
      obtain ⟨x1, e1, _, w1⟩ := DataW.trod_int Tryd.underlying3 t1
      simp at e0 e1
      subst e0 e1
      refine ⟨(x0, x1), ⟨i64_wf2 w0, i64_wf2 w1⟩, fun j u hu => ?_⟩
      match j, hu with
      | 0, hu => simp [pEnc] at hu; subst hu; exact c0
      | 1, hu => simp [pEnc] at hu; subst hu; exact c1
      | j + 2, hu => simp [pEnc] at hu)
    refine ⟨some a, len, m, l, hcs, ?_, (fun x hx => ?_), ?_⟩
    · rcases Nat.eq_zero_or_pos len with h0 | h0
      · subst h0
        have : l = [] := List.eq_nil_of_length_eq_zero hll
        subst this
        exact Sl.nil _
      · refine Sl.mk (fun _ => rfl) (by omega) hll ?_ (fun i hi' => (hlc i hi').2)
        have := cell_lt ((hlc 0 (by omega)).2 0 _ rfl)
        rw [block_of_add] at this; exact this
    · obtain ⟨i, hi', rfl⟩ := List.getElem_of_mem hx
      exact (hlc i hi').1
    · have := (bulk_slice ((List.range len).map D) ((List.range (m - len)).map fun j => D (len + j))).1
      rw [hx]
      simpa using this
theorem ten {α : Type} {cs : List α} (h : cs.length = 10) : ∃ c0 c1 c2 c3 c4 c5 c6 c7 c8 c9, cs = [c0, c1, c2, c3, c4, c5, c6, c7, c8, c9] := by
  match cs, h with
  | [c0, c1, c2, c3, c4, c5, c6, c7, c8, c9], _ => exact ⟨_, _, _, _, _, _, _, _, _, _, rfl⟩
theorem six {α : Type} {cs : List α} (h : cs.length = 6) : ∃ c0 c1 c2 c3 c4 c5, cs = [c0, c1, c2, c3, c4, c5] := by
  match cs, h with
  | [c0, c1, c2, c3, c4, c5], _ => exact ⟨_, _, _, _, _, _, rfl⟩
theorem five {α : Type} {cs : List α} (h : cs.length = 5) : ∃ c0 c1 c2 c3 c4, cs = [c0, c1, c2, c3, c4] := by
  match cs, h with
  | [c0, c1, c2, c3, c4], _ => exact ⟨_, _, _, _, _, rfl⟩
set_option maxRecDepth 100000 in
/-- An act that came in. -/
theorem open_act {fuel : Nat} {cs : List Value} {y : DataW H × List MemPlace} (h : DataW.trod enc Tryd.prog W 0 (fun _ => true) true fuel TAct cs = some y) :
    ∃ x : Ac, cs = x.enc ∧ x.Ok W W.heap.size ∧ x.p ≤ Rows.uptoBulk y.1 ∧ x.owner.length ≤ Rows.uptoBulk y.1 ∧ x.text.length ≤ Rows.uptoBulk y.1 := by
  obtain ⟨xs, n, rfl, hx, hl, hxl, hall⟩ := DataW.trod_struct Tryd.underlying37 h
  rw [show Tryd.prog.cellsOf 37 = 10 from act_cells] at hl
  obtain ⟨c0, c1, c2, c3, c4, c5, c6, c7, c8, c9, rfl⟩ := ten hl
  obtain ⟨x0, x1, x2, x3, x4, x5, rfl⟩ := six hxl
  have f0 := hall 0 _ rfl
  have f1 := hall 1 _ rfl
  have f2 := hall 2 _ rfl
  have f3 := hall 3 _ rfl
  have f4 := hall 4 _ rfl
  have f5 := hall 5 _ rfl
  change DataW.trod _ _ _ _ _ _ _ 3 (([c0, c1, c2, c3, c4, c5, c6, c7, c8, c9].drop 0).take (Tryd.prog.cellsOf 3)) = some x0 at f0
  change DataW.trod _ _ _ _ _ _ _ 3 (([c0, c1, c2, c3, c4, c5, c6, c7, c8, c9].drop 1).take (Tryd.prog.cellsOf 3)) = some x1 at f1
  change DataW.trod _ _ _ _ _ _ _ 3 (([c0, c1, c2, c3, c4, c5, c6, c7, c8, c9].drop 2).take (Tryd.prog.cellsOf 3)) = some x2 at f2
  change DataW.trod _ _ _ _ _ _ _ 31 (([c0, c1, c2, c3, c4, c5, c6, c7, c8, c9].drop 3).take (Tryd.prog.cellsOf 31)) = some x3 at f3
  change DataW.trod _ _ _ _ _ _ _ 35 (([c0, c1, c2, c3, c4, c5, c6, c7, c8, c9].drop 4).take (Tryd.prog.cellsOf 35)) = some x4 at f4
  change DataW.trod _ _ _ _ _ _ _ 9 (([c0, c1, c2, c3, c4, c5, c6, c7, c8, c9].drop 9).take (Tryd.prog.cellsOf 9)) = some x5 at f5
  rw [int_cells] at f0 f1 f2
  rw [u64_cells] at f3
  rw [op_cells] at f4
  rw [str_cells] at f5
  simp only [List.drop_succ_cons, List.drop_zero, List.take_succ_cons, List.take_zero] at f0 f1 f2 f3 f4 f5
  obtain ⟨zs, n2, rfl, hz, hzl, hzn, hall2⟩ := DataW.trod_struct Tryd.underlying35 f4
  obtain ⟨z0, z1, z2, z3, z4, rfl⟩ := five hzn
  have g0 := hall2 0 _ rfl
  have g1 := hall2 1 _ rfl
  have g2 := hall2 2 _ rfl
  have g3 := hall2 3 _ rfl
  have g4 := hall2 4 _ rfl
  change DataW.trod _ _ _ _ _ _ _ 3 (([c4, c5, c6, c7, c8].drop 0).take (Tryd.prog.cellsOf 3)) = some z0 at g0
  change DataW.trod _ _ _ _ _ _ _ 3 (([c4, c5, c6, c7, c8].drop 1).take (Tryd.prog.cellsOf 3)) = some z1 at g1
  change DataW.trod _ _ _ _ _ _ _ 3 (([c4, c5, c6, c7, c8].drop 2).take (Tryd.prog.cellsOf 3)) = some z2 at g2
  change DataW.trod _ _ _ _ _ _ _ 33 (([c4, c5, c6, c7, c8].drop 3).take (Tryd.prog.cellsOf 33)) = some z3 at g3
  change DataW.trod _ _ _ _ _ _ _ 9 (([c4, c5, c6, c7, c8].drop 4).take (Tryd.prog.cellsOf 9)) = some z4 at g4
  rw [int_cells] at g0 g1 g2
  rw [ring_cells] at g3
  rw [str_cells] at g4
  simp only [List.drop_succ_cons, List.drop_zero, List.take_succ_cons, List.take_zero] at g0 g1 g2 g3 g4
  obtain ⟨v0, e0, _, w0⟩ := DataW.trod_int Tryd.underlying3 f0
  obtain ⟨v1, e1, _, w1⟩ := DataW.trod_int Tryd.underlying3 f1
  obtain ⟨v2, e2, _, w2⟩ := DataW.trod_int Tryd.underlying3 f2
  obtain ⟨v3, e3, _, w3⟩ := DataW.trod_int Tryd.underlying31 f3
  obtain ⟨v4, e4, _, w4⟩ := DataW.trod_int Tryd.underlying3 g0
  obtain ⟨v5, e5, _, w5⟩ := DataW.trod_int Tryd.underlying3 g1
  obtain ⟨v6, e6, _, w6⟩ := DataW.trod_int Tryd.underlying3 g2
  obtain ⟨A, p, c, path, rfl, s7, i7, b7⟩ := open_ring g3
  obtain ⟨s8, e8, d8, _⟩ := DataW.trod_string Tryd.underlying9 g4
  obtain ⟨s9, e9, d9, _⟩ := DataW.trod_string Tryd.underlying9 f5
  simp at e0 e1 e2 e3 e4 e5 e6 e8 e9
  subst e0 e1 e2 e3 e4 e5 e6 e8 e9
  have hu := u64_wf2 w3
  have hb : Rows.uptoBulk y.1 = Rows.uptoBulk x0.1 + (Rows.uptoBulk x1.1 + (Rows.uptoBulk x2.1 + (Rows.uptoBulk x3.1 + (Rows.uptoBulk x4.1 + (Rows.uptoBulk x5.1 + 0))))) + 1 := by
    rw [hx]
    simp [Rows.uptoBulk, Rows.uptoBulkAll]
  have hb4 : Rows.uptoBulk x4.1 = Rows.uptoBulk z0.1 + (Rows.uptoBulk z1.1 + (Rows.uptoBulk z2.1 + (Rows.uptoBulk z3.1 + (Rows.uptoBulk z4.1 + 0)))) + 1 := by
    rw [hz]
    simp [Rows.uptoBulk, Rows.uptoBulkAll]
  have hb5 : Rows.uptoBulk x5.1 = s9.data.toList.length + 1 := by rw [d9]; simp [Rows.uptoBulk]
  have hb8 : Rows.uptoBulk z4.1 = s8.data.toList.length + 1 := by rw [d8]; simp [Rows.uptoBulk]
  refine ⟨⟨v0, v1, v2, v3.toNat, v4, v5, v6, A, p, c, path, s8.data.toList, s9.data.toList⟩, ?_, ⟨i64_wf2 w0, i64_wf2 w1, i64_wf2 w2, by simp only; omega, i64_wf2 w4, i64_wf2 w5, i64_wf2 w6, s7, i7⟩, by simp only; omega, by simp only; omega, by simp only; omega⟩
  have e3 : ((v3.toNat : Nat) : Int) = v3 := by omega
  simp [Ac.enc, Ac.cells, e3]
/-- A list of acts that came in. -/
theorem open_acts {A : Option Addr} {n c : Nat} {d : DataW H} {p : List MemPlace} (h : DataW.Trod enc Tryd.prog W 0 (fun _ => true) true 30 (.slice A n c) d p) (hb : Rows.uptoBulk d ≤ 1048576) :
    ∃ l : List Ac, AL W W.heap.size A n l ∧ n ≤ 1048576 := by
  obtain ⟨fuel, hf⟩ := h
  rcases open_slice Tryd.underlying30 hf with ⟨hcs, _⟩ | ⟨a, len, cap, m, k, D, Pl, hcs, _, hl, hm, hmm, hx, hi⟩
  · simp [Value.cells] at hcs
    obtain ⟨rfl, rfl, rfl⟩ := hcs
    exact ⟨[], ⟨Sl.nil _, (fun x hx => by cases hx), (fun x hx => by cases hx)⟩, by omega⟩
  · simp [Value.cells] at hcs
    obtain ⟨rfl, rfl, rfl⟩ := hcs
    simp only [if_pos] at hmm
    subst hmm
    simp only [Prod.mk.injEq] at hx
    obtain ⟨hd, hp⟩ := hx
    have hbs := bulk_slice ((List.range n).map D) ((List.range (m - n)).map fun j => D (n + j))
    rw [← hd] at hbs
    have hn : n ≤ 1048576 := by have := hbs.1; simp at this; omega
    obtain ⟨l, hll, hlc⟩ := list_of_fn (P := fun i (x : Ac) => (x.Ok W W.heap.size ∧ x.p ≤ 1048576 ∧ x.owner.length ≤ 1048576 ∧ x.text.length ≤ 1048576) ∧ ∀ j u, (Ac.enc x)[j]? = some u → W.cell? (a.add (i * 10 + j)) = some u) n (fun i hi' => by
      obtain ⟨cs', h1, h2⟩ := hi i (by omega)
      rw [show Tryd.prog.cellsOf 37 = 10 from act_cells] at h1
      obtain ⟨x, rfl, hok, b1, b2, b3⟩ := open_act h2
      obtain ⟨_, hcl, hat⟩ := World.cells?_some h1
      have hbd : Rows.uptoBulk (D i) ≤ 1048576 := by
        have := bulk_part (d := D i) (l := (List.range n).map D) (List.mem_map.2 ⟨i, List.mem_range.2 hi', rfl⟩)
        omega
      simp only at b1 b2 b3
      refine ⟨x, ⟨hok, by omega, by omega, by omega⟩, fun j u hu => ?_⟩
      have hj : j < 10 := by
        have := (List.getElem?_eq_some_iff.1 hu).1
        exact this
      rw [← Go.Deep.add_add, hat j hj, hu])
    refine ⟨l, ⟨?_, (fun x hx => ?_), (fun x hx => ?_)⟩, hn⟩
    · rcases Nat.eq_zero_or_pos n with h0 | h0
      · subst h0
        have : l = [] := List.eq_nil_of_length_eq_zero hll
        subst this
        exact Sl.nil _
      · refine Sl.mk Ac.enc_len (by omega) hll ?_ (fun i hi' => (hlc i hi').2)
        have := cell_lt ((hlc 0 (by omega)).2 0 _ rfl)
        rw [block_of_add] at this; exact this
    · obtain ⟨i, hi', rfl⟩ := List.getElem_of_mem hx
      exact (hlc i hi').1.1
    · obtain ⟨i, hi', rfl⟩ := List.getElem_of_mem hx
      exact (hlc i hi').1.2
end
end Go.Proofs.YtcdhngppcpgojaaDoor
