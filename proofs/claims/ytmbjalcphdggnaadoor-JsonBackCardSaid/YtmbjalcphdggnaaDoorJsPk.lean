/- A value that came in, opened. -/
import Derived.Test.YtmbjalcphdggnaaDoorJsPj
import Derived.Test.YtmbjalcphdggnaaDoorJsOpen
import Derived.Deep.Strs
namespace Go.Proofs.YtmbjalcphdggnaaDoor
set_option linter.unusedSimpArgs false
set_option linter.unusedVariables false
open Go.ChangeShapes Go.WideShapes Go.ChangeAt Go.RowKit Go.Deep
theorem tv_cells : Tryd.prog.cellsOf TV = 4 := by kernel_rfl
theorem tv_bytes : Tryd.prog.bytesOf TV = 72 := by kernel_rfl
theorem st_bytes : Tryd.prog.bytesOf TSt = 16 := by kernel_rfl
theorem in_cells : Tryd.prog.cellsOf 3 = 1 := by kernel_rfl
theorem ss_cells : Tryd.prog.cellsOf 24 = 1 := by kernel_rfl
theorem sv_cells : Tryd.prog.cellsOf 25 = 1 := by kernel_rfl
theorem st_cells : Tryd.prog.cellsOf TSt = 1 := by kernel_rfl
theorem weights_mem_all {H : Type} {P : Program} {e : TypeId} : ∀ {ds : List (DataW H)} {d : DataW H}, d ∈ ds → ∀ n ∈ d.weights P e, n ∈ DataW.weightsAll P e ds
  | x :: ds, d, hd, n, hn => by
    simp only [DataW.weightsAll, List.mem_append]
    rcases List.mem_cons.1 hd with rfl | hd
    · exact .inl hn
    · exact .inr (weights_mem_all hd n hn)
theorem vrdl_mk {w : World} {F : Nat → Prop} : ∀ (n : Nat) (C : Nat → List Value), (∀ i, i < n → ∃ J, VRd w F J (C i) ∧ smJ J ∧ bdJ J) → ∃ js, js.length = n ∧ VRdL w F js ((List.range n).flatMap C) ∧ smL js ∧ bdL js
  | 0, C, _ => ⟨[], rfl, by unfold VRdL; simp, by unfold smL; trivial, by unfold bdL; trivial⟩
  | n + 1, C, h => by
    obtain ⟨J, h1, h2, h3⟩ := h 0 (by omega)
    obtain ⟨js, g1, g2, g3, g4⟩ := vrdl_mk n (fun i => C (i + 1)) (fun i hi => h (i + 1) (by omega))
    refine ⟨J :: js, by simp [g1], ?_, by unfold smL; exact ⟨h2, g3⟩, by unfold bdL; exact ⟨h3, g4⟩⟩
    unfold VRdL
    refine ⟨C 0, _, ?_, h1, g2⟩
    rw [List.range_succ_eq_map, List.flatMap_cons, List.flatMap_map]
section
variable {H : Type} {enc : TypeId × Value → H} {W : World}
theorem open_val : ∀ (fuel : Nat) (cs : List Value) (y : DataW H × List MemPlace), DataW.trod enc Tryd.prog W 0 (fun _ => true) true fuel TV cs = some y → (∀ x ∈ y.1.weights Tryd.prog TV, x ≤ reachBytes) →
    ∃ J, VRd W (fun j => j < W.heap.size) J cs ∧ smJ J ∧ bdJ J := by
  intro fuel
  induction fuel using Nat.strongRecOn with
  | _ fuel ih =>
  intro cs y h hw
  obtain ⟨ys, n, hn, hy, hlen, hyl, hf⟩ := DataW.trod_struct Tryd.underlying27 h
  rw [tv_cells] at hlen
  match cs, hlen with
  | [v0, v1, v2, v3], _ =>
  match ys, hyl with
  | [y0, y1, y2, y3], _ =>
  have h0 : DataW.trod enc Tryd.prog W 0 (fun _ => true) true n 3 [v0] = some y0 := by simpa [in_cells] using hf 0 _ rfl
  have h1 : DataW.trod enc Tryd.prog W 0 (fun _ => true) true n 9 [v1] = some y1 := by simpa [st_cells] using hf 1 _ rfl
  have h2 : DataW.trod enc Tryd.prog W 0 (fun _ => true) true n 24 [v2] = some y2 := by simpa [ss_cells] using hf 2 _ rfl
  have h3 : DataW.trod enc Tryd.prog W 0 (fun _ => true) true n 25 [v3] = some y3 := by simpa [sv_cells] using hf 3 _ rfl
  obtain ⟨k, e0, _, _⟩ := DataW.trod_int Tryd.underlying3 h0
  obtain ⟨sx, e1, _, hs1⟩ := DataW.trod_string Tryd.underlying9 h1
  simp at e0 e1
  subst e0 e1
  have hK : ∃ A m c ks, v2 = .slice A m c ∧ ks.length = m ∧ (m ≤ c ∧ c ≤ maxLen) ∧ ReadsF W (fun j => j < W.heap.size) 1 A m (sc ks) ∧ (∀ s ∈ ks, s.length ≤ maxT) ∧ m * 16 ≤ 140737488355328 := by
    rcases open_strs Tryd.underlying24 Tryd.underlying9 st_cells h2 with ⟨hcs, _⟩ | ⟨a, len, cap, m, Sx, hcs, _, hl, hm, hmm, hx, hi⟩
    · simp at hcs
      exact ⟨none, 0, 0, [], hcs, rfl, ⟨Nat.le_refl _, Nat.zero_le _⟩, no_cells, by simp, by omega⟩
    · simp at hcs
      simp only [if_pos] at hmm
      subst hmm
      refine ⟨some a, len, m, (List.range len).map fun i => (Sx i).data.toList, hcs, by simp, ⟨hl, hm⟩, ⟨by simp [sc], fun hp => ⟨a, rfl, ?_, fun j u hu => ?_⟩⟩, ?_, ?_⟩
      · have := cell_lt (hi 0 (by omega)).1
        rw [block_of_add] at this
        exact this
      · have hj : j < len := by
          have := (List.getElem?_eq_some_iff.1 hu).1
          simpa [sc] using this
        have hc := (hi j (by omega)).1
        rw [hc]
        unfold sc at hu
        rw [List.getElem?_map, List.getElem?_map, List.getElem?_range hj] at hu
        simp [bstr] at hu
        rw [← hu]
      · intro s hs
        obtain ⟨i, hi', rfl⟩ := List.mem_map.1 hs
        exact (hi i (by have := List.mem_range.1 hi'; omega)).2
      · have hwm := hw ((((List.range len).map fun i => (DataW.lit (.string (Sx i).data.toList) : DataW H)).length + ((List.range (m - len)).map fun j => (DataW.lit (.string (Sx (len + j)).data.toList) : DataW H)).length) * Tryd.prog.bytesOf TSt) (by
          rw [hy]
          simp only [DataW.weights, Tryd.underlying27]
          refine DataW.weights_mem_each (j := 2) (t := 24) (d := y2.1) rfl rfl _ ?_
          rw [hx]
          simp [DataW.weights, Tryd.underlying24])
        rw [st_bytes] at hwm
        simp [reachBytes] at hwm
        omega
  have hV : ∃ A m c xs js, v3 = .slice A m c ∧ js.length = m ∧ (m ≤ c ∧ c ≤ maxLen) ∧ ReadsF W (fun j => j < W.heap.size) 4 A m xs ∧ VRdL W (fun j => j < W.heap.size) js xs ∧ smL js ∧ bdL js ∧ m * 72 ≤ 140737488355328 := by
    rcases DataW.trod_slice Tryd.underlying25 h3 with ⟨hcs, _⟩ | ⟨a, len, cap, elems, rest, n', hn', hcs, hx, _, hl, hm, hlen, hel, hsp, hns⟩
    · simp at hcs
      exact ⟨none, 0, 0, [], [], hcs, rfl, ⟨Nat.le_refl _, Nat.zero_le _⟩, no_cells, by unfold VRdL; rfl, by unfold smL; trivial, by unfold bdL; trivial, by omega⟩
    · simp at hcs
      have hwy : ∀ x ∈ y3.1.weights Tryd.prog 25, x ≤ reachBytes := fun x hx' => hw x (by
        rw [hy]
        simp only [DataW.weights, Tryd.underlying27]
        exact DataW.weights_mem_each (j := 3) (t := 25) (d := y3.1) rfl rfl _ hx')
      rw [hx] at hwy
      have hrest := (hsp rfl).1
      rw [tv_cells] at hel
      have key : ∀ i, i < len → ∃ cs', W.cells? 0 (a.add (i * 4)) 4 = some cs' ∧ ∃ J, VRd W (fun j => j < W.heap.size) J cs' ∧ smJ J ∧ bdJ J := fun i hi => by
        have hei := hel i hi
        have hil : i < elems.length := by omega
        rw [List.getElem?_eq_getElem hil] at hei
        cases hc : W.cells? 0 (a.add (i * 4)) 4 with
        | none => rw [hc] at hei; cases hei
        | some cs' =>
          rw [hc] at hei
          have hei : DataW.trod enc Tryd.prog W 0 (fun _ => true) true n' TV cs' = some elems[i] := hei
          refine ⟨cs', rfl, ih n' (by omega) cs' _ hei (fun x hx' => hwy x ?_)⟩
          simp only [DataW.weights, Tryd.underlying25]
          exact List.mem_cons_of_mem _ (List.mem_append_left _ (weights_mem_all (d := elems[i].1) (List.mem_map.2 ⟨elems[i], List.getElem_mem hil, rfl⟩) x hx'))
      let C : Nat → List Value := fun i => (W.cells? 0 (a.add (i * 4)) 4).getD [undef, undef, undef, undef]
      have hC : ∀ i, i < len → W.cells? 0 (a.add (i * 4)) 4 = some (C i) := fun i hi => by
        obtain ⟨cs', h1, _⟩ := key i hi
        show _ = some ((W.cells? 0 (a.add (i * 4)) 4).getD [undef, undef, undef, undef])
        rw [h1]
        rfl
      obtain ⟨js, j1, j2, j3, j4⟩ := vrdl_mk (w := W) (F := fun j => j < W.heap.size) len C (fun i hi => by
        obtain ⟨cs', h1, h2⟩ := key i hi
        rw [hC i hi] at h1
        injection h1 with h1
        rw [h1]
        exact h2)
      have hat : ∀ i, i < len → (C i).length = 4 ∧ ∀ j, j < 4 → W.cell? (a.add (i * 4 + j)) = (C i)[j]? := fun i hi => by
        obtain ⟨_, hcl, hca⟩ := World.cells?_some (hC i hi)
        refine ⟨hcl, fun j hj => ?_⟩
        rw [← Go.Deep.add_add]
        exact hca j hj
      have hC4 : ∀ i, (C i).length = 4 := fun i => by
        show ((W.cells? 0 (a.add (i * 4)) 4).getD [undef, undef, undef, undef]).length = 4
        cases hc : W.cells? 0 (a.add (i * 4)) 4 with
        | none => rfl
        | some cs' => exact (World.cells?_some hc).2.1
      refine ⟨some a, len, cap, (List.range len).flatMap C, js, hcs, j1, ⟨hl, hm⟩, ⟨?_, fun hp => ⟨a, rfl, ?_, fun j u hu => ?_⟩⟩, j2, j3, j4, ?_⟩
      · rw [flat_len hC4, List.length_range]
      · have h0 := (hat 0 hp).2 0 (by omega)
        rw [List.getElem?_eq_getElem (by have := (hat 0 hp).1; omega)] at h0
        have := cell_lt h0
        rw [block_of_add] at this
        exact this
      · have hj := (List.getElem?_eq_some_iff.1 hu).1
        rw [flat_len hC4, List.length_range] at hj
        have hi4 : j / 4 < len := by omega
        have e : j / 4 * 4 + j % 4 = j := Nat.div_add_mod' j 4
        have hg := flat_get hC4 (List.range len) (j / 4) (by rw [List.length_range]; exact hi4) (j % 4) (Nat.mod_lt _ (by decide))
        rw [e, hu, List.getElem_range] at hg
        rw [← e, (hat (j / 4) hi4).2 (j % 4) (Nat.mod_lt _ (by decide))]
        exact hg.symm
      · have hwm := hwy (((elems.map (·.1)).length + (rest.map (·.1)).length) * Tryd.prog.bytesOf TV) (by simp [DataW.weights, Tryd.underlying25])
        rw [tv_bytes] at hwm
        simp [reachBytes] at hwm
        omega
  obtain ⟨A1, m1, c1, ks, rfl, hk1, hk2, hk3, hk4, hk5⟩ := hK
  obtain ⟨A2, m2, c2, xs, js, rfl, hv1, hv2, hv3, hv4, hv5, hv6, hv7⟩ := hV
  refine ⟨.mk k sx.data.toList ks js, ?_, ?_, ?_⟩
  · unfold VRd
    exact ⟨A1, m1, c1, A2, m2, c2, xs, by simp, hk1, hk2, hk3, hv1, hv2, hv3, hv4⟩
  · unfold smJ
    refine ⟨?_, hk4, hv5⟩
    exact hs1
  · unfold bdJ
    exact ⟨by omega, by omega, hv6⟩
end
end Go.Proofs.YtmbjalcphdggnaaDoor
