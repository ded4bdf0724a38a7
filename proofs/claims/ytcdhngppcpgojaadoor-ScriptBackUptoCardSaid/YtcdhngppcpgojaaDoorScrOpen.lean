/- A reply that came in, opened; the tables that the row lists. -/
import Derived.Test.YtcdhngppcpgojaaDoorScrJ
import Derived.Test.YtcdhngppcpgojaaDoorOpen
import Derived.Lib.SmallJoins
import Derived.Lib.LaidTab
import Derived.Lay
import Derived.LaidSub
namespace Go.Proofs.YtcdhngppcpgojaaDoor
set_option linter.unusedSimpArgs false
set_option linter.unusedVariables false
open Go.ChangeShapes Go.WideShapes Go.ChangeAt Go.RowKit Go.Deep
theorem errno_cells : Tryd.prog.cellsOf 22 = 1 := by kernel_rfl
theorem int_cells : Tryd.prog.cellsOf 3 = 1 := by kernel_rfl
theorem int_bytes : Tryd.prog.bytesOf 3 = 8 := by kernel_rfl
theorem pair_cells : Tryd.prog.cellsOf 63 = 2 := by kernel_rfl
theorem pair_bytes : Tryd.prog.bytesOf 63 = 16 := by kernel_rfl
theorem rep_cells : Tryd.prog.cellsOf TRep = 4 := by kernel_rfl
theorem i64_wf2 {n : Int} (h : (Lit.int .i64 n).wf = true) : -9223372036854775808 ≤ n ∧ n ≤ 9223372036854775807 := by
  have h1 : IntKind.i64.min ≤ n ∧ n ≤ IntKind.i64.max := by simpa [Lit.wf] using h
  have e1 : IntKind.i64.min = -9223372036854775808 := by decide
  have e2 : IntKind.i64.max = 9223372036854775807 := by decide
  omega
section
variable {H : Type} {enc : TypeId × Value → H} {W : World}
/-- The sizes of a struct's parts. -/
theorem sized_agg {P : Program} {ts : List TypeId} {ds parts : List (DataW H)} {fs : Array Field} (h : (DataW.weightsEach P ts ds).all (· ≤ reachBytes) = true) {j : Nat} {t : TypeId} (ht : ts[j]? = some t) (hd : ds[j]? = some (.agg parts)) (hu : P.underlying t = some (.struct fs)) :
    (DataW.weightsEach P (fs.toList.map (·.type)) parts).all (· ≤ reachBytes) = true :=
  List.all_eq_true.2 fun x hx => List.all_eq_true.1 h x (DataW.weights_mem_each ht hd x (by simp only [DataW.weights, hu]; exact hx))
/-- A list of whole numbers that came in. -/
theorem open_ns {v : Value} {fuel : Nat} {y : DataW H × List MemPlace} (h : DataW.trod enc Tryd.prog W 0 (fun _ => true) true fuel 23 [v] = some y) :
    ∃ A n c l, v = .slice A n c ∧ Sl 1 iEnc W W.heap.size A n l ∧ inInt l ∧ ((A = none ∧ n = 0 ∧ c = 0) ∨ ∃ es sp, y.1 = .slice es sp ∧ es.length + sp.length = c ∧ n ≤ c) := by
  rcases open_slice1 Tryd.underlying23 int_cells h with ⟨hcs, _⟩ | ⟨a, len, cap, m, nn, V, D, Pl, hcs, _, hl, hm, hmm, hx, hi⟩
  · simp at hcs
    exact ⟨none, 0, 0, [], hcs, Sl.nil _, (fun x hx => by cases hx), .inl ⟨rfl, rfl, rfl⟩⟩
  · simp at hcs
    simp only [if_pos] at hmm
    subst hmm
    obtain ⟨l, hll, hlc⟩ := list_of_fn (P := fun i (x : Int) => (-9223372036854775808 ≤ x ∧ x ≤ 9223372036854775807) ∧ ∀ j u, (iEnc x)[j]? = some u → W.cell? (a.add (i * 1 + j)) = some u) len (fun i hi' => by
      obtain ⟨c0, t0⟩ := hi i (by omega)
      obtain ⟨b, e0, _, w0⟩ := DataW.trod_int Tryd.underlying3 t0
      simp at e0
      rw [e0] at c0
      refine ⟨b, i64_wf2 w0, fun j u hu => ?_⟩
      match j, hu with
      | 0, hu => simp [iEnc] at hu; subst hu; simpa using c0
      | j + 1, hu => simp [iEnc] at hu)
    refine ⟨some a, len, m, l, hcs, ?_, fun x hx => ?_, .inr ⟨(List.range len).map D, (List.range (m - len)).map fun j => D (len + j), by rw [hx], by simp; omega, hl⟩⟩
    · rcases Nat.eq_zero_or_pos len with h0 | h0
      · subst h0
        have : l = [] := List.eq_nil_of_length_eq_zero hll
        subst this
        exact Sl.nil _
      · refine Sl.mk (fun _ => rfl) (by omega) hll ?_ (fun i hi' => (hlc i hi').2)
        have := cell_lt ((hlc 0 (by omega)).2 0 _ rfl)
        rw [block_of_add] at this; exact this
    · obtain ⟨i, hi', rfl⟩ := List.getElem_of_mem hx
      exact (hlc i hi').1
/-- A list of pairs that came in. -/
theorem open_ps {v : Value} {fuel : Nat} {y : DataW H × List MemPlace} (h : DataW.trod enc Tryd.prog W 0 (fun _ => true) true fuel 24 [v] = some y) :
    ∃ A n c l, v = .slice A n c ∧ Sl 2 pEnc W W.heap.size A n l ∧ (∀ p ∈ l, (-9223372036854775808 ≤ p.1 ∧ p.1 ≤ 9223372036854775807) ∧ (-9223372036854775808 ≤ p.2 ∧ p.2 ≤ 9223372036854775807)) ∧ ((A = none ∧ n = 0 ∧ c = 0) ∨ ∃ es sp, y.1 = .slice es sp ∧ es.length + sp.length = c ∧ n ≤ c) := by
  rcases open_slice_fields Tryd.underlying24 Tryd.underlying63 (by kernel_rfl) pair_cells h with ⟨hcs, _⟩ | ⟨a, len, cap, m, D, Pl, hcs, _, hl, hm, hmm, hx, hi⟩
  · simp at hcs
    exact ⟨none, 0, 0, [], hcs, Sl.nil _, (fun x hx => by cases hx), .inl ⟨rfl, rfl, rfl⟩⟩
  · simp at hcs
    simp only [if_pos] at hmm
    subst hmm
    obtain ⟨l, hll, hlc⟩ := list_of_fn (P := fun i (p : Int × Int) => ((-9223372036854775808 ≤ p.1 ∧ p.1 ≤ 9223372036854775807) ∧ (-9223372036854775808 ≤ p.2 ∧ p.2 ≤ 9223372036854775807)) ∧ ∀ j u, (pEnc p)[j]? = some u → W.cell? (a.add (i * 2 + j)) = some u) len (fun i hi' => by
      obtain ⟨ys, k, _, _, _, hf⟩ := hi i (by omega)
      obtain ⟨v0, y0, c0, _, t0⟩ := hf 0 _ rfl
      obtain ⟨v1, y1, c1, _, t1⟩ := hf 1 _ rfl
      obtain ⟨x0, e0, _, w0⟩ := DataW.trod_int Tryd.underlying3 t0
      obtain ⟨x1, e1, _, w1⟩ := DataW.trod_int Tryd.underlying3 t1
      simp at e0 e1
      subst e0 e1
      refine ⟨(x0, x1), ⟨i64_wf2 w0, i64_wf2 w1⟩, fun j u hu => ?_⟩
      match j, hu with
      | 0, hu => simp [pEnc] at hu; subst hu; exact c0
      | 1, hu => simp [pEnc] at hu; subst hu; exact c1
      | j + 2, hu => simp [pEnc] at hu)
    refine ⟨some a, len, m, l, hcs, ?_, fun x hx => ?_, .inr ⟨(List.range len).map D, (List.range (m - len)).map fun j => D (len + j), by rw [hx], by simp; omega, hl⟩⟩
    · rcases Nat.eq_zero_or_pos len with h0 | h0
      · subst h0
        have : l = [] := List.eq_nil_of_length_eq_zero hll
        subst this
        exact Sl.nil _
      · refine Sl.mk (fun _ => rfl) (by omega) hll ?_ (fun i hi' => (hlc i hi').2)
        have := cell_lt ((hlc 0 (by omega)).2 0 _ rfl)
        rw [block_of_add] at this; exact this
    · obtain ⟨i, hi', rfl⟩ := List.getElem_of_mem hx
      exact (hlc i hi').1
set_option maxRecDepth 100000 in
/-- A reply that came in. -/
theorem open_rep {ts : List TypeId} {ds : List (DataW H)} {r : Reach} {b0 j : Nat} {v : Value} {d : DataW H} {p : List MemPlace} (hsz : (DataW.weightsEach Tryd.prog ts ds).all (· ≤ reachBytes) = true) (ht : ts[j]? = some TRep) (hd : ds[j]? = some d) (hv : Value.okWide Tryd.prog W r b0 TRep v) (h : DataW.Trod enc Tryd.prog W 0 (fun _ => true) true TRep v d p) :
    ∃ x : Rep, v = .agg x.cells ∧ x.Ok W W.heap.size ∧ x.n1 ≤ 140737488351232 ∧ x.n2 ≤ 140737488351232 ∧ x.text.length ≤ 140737488355328 := by
  obtain ⟨c0, c1, c2, c3, y0, y1, y2, y3, m, rfl, rfl, _, h0, h1, h2, h3⟩ := Joins.open_agg4 Tryd.underlying26 (by kernel_rfl) rep_cells hv h
  have hs := sized_agg hsz ht hd Tryd.underlying26
  obtain ⟨e, e0, _, w0⟩ := DataW.trod_int Tryd.underlying22 h0
  obtain ⟨A1, n1, k1, l1, rfl, s1, i1, z1⟩ := open_ns h1
  obtain ⟨A2, n2, k2, l2, rfl, s2, i2, z2⟩ := open_ps h2
  obtain ⟨s, e3, d3, _⟩ := DataW.trod_string Tryd.underlying9 h3
  simp at e0 e3
  subst e0 e3
  have b1 : n1 ≤ 140737488351232 := by
    rcases z1 with ⟨_, rfl, _⟩ | ⟨es, sp, hx, hc, hle⟩
    · omega
    · have := sized_slice hs (j := 1) (t := 23) (e := 3) rfl (by rw [show [y0.1, y1.1, y2.1, y3.1][1]? = some y1.1 from rfl, hx]) Tryd.underlying23
      rw [int_bytes] at this
      simp only [reachBytes] at this
      omega
  have b2 : n2 ≤ 140737488351232 := by
    rcases z2 with ⟨_, rfl, _⟩ | ⟨es, sp, hx, hc, hle⟩
    · omega
    · have := sized_slice hs (j := 2) (t := 24) (e := 63) rfl (by rw [show [y0.1, y1.1, y2.1, y3.1][2]? = some y2.1 from rfl, hx]) Tryd.underlying24
      rw [pair_bytes] at this
      simp only [reachBytes] at this
      omega
  have b3 : s.data.toList.length ≤ 140737488355328 := by
    have := sized_string hs (j := 3) (t := 9) (bytes := s.data.toList) rfl (by rw [show [y0.1, y1.1, y2.1, y3.1][3]? = some y3.1 from rfl, d3])
    simp only [reachBytes] at this
    omega
  refine ⟨⟨e, A1, n1, k1, l1, A2, n2, k2, l2, s.data.toList⟩, ?_, ⟨i64_wf2 w0, s1, s2, i1, i2⟩, b1, b2, b3⟩
  simp [Rep.cells]
end
theorem laid_vars {P : Program} {w : World} : ∀ {l : List (String × DataW Unit)} {ps : List MemPlace}, DataW.LaidVars P w l ps → ∀ {n : String} {d : DataW Unit}, (n, d) ∈ l →
    ∃ g t cs fuel p, P.globalNamed n = some g ∧ (P.globals[g]?).map (·.type) = some t ∧ w.var? P n = some cs ∧ DataW.trod (fun _ => ()) P w 0 (fun _ => true) false fuel t cs.toList = some (d, p)
  | [], _, _, _, _, hm => by cases hm
  | (n', d') :: r, ps, h, n, d, hm => by
    obtain ⟨g, t, cs, fuel, p, q, h1, h2, h3, h4, h5, _⟩ := h
    rcases List.mem_cons.1 hm with e | e
    · cases e
      exact ⟨g, t, cs, fuel, p, h1, h2, h3, h4⟩
    · exact laid_vars h5 e
/-- Where a listed variable stands. -/
theorem laid_reads {P : Program} {w : World} {l : List (String × DataW Unit)} (h : laidMet P l w) {n : String} {d : DataW Unit} (hm : (n, d) ∈ l) :
    ∃ g t cs fuel p, P.globalNamed n = some g ∧ (P.globals[g]?).map (·.type) = some t ∧ w.var? P n = some cs ∧ DataW.trod (fun _ => ()) P w 0 (fun _ => true) false fuel t cs.toList = some (d, p) := by
  obtain ⟨ps, hv, _⟩ := h
  exact laid_vars hv hm
/-- An array of strings that reads as these texts. -/
theorem cells_of_strs {P : Program} {w : World} {base : Nat} {sp : Nat → Bool} {held : Bool} {fuel : Nat} {t e : TypeId} {n : Nat} {cs : List Value} {zs : List (List UInt8)} {p : List MemPlace}
    (ht : P.underlying t = some (.array n e)) (he : P.underlying e = some .string) (hce : P.cellsOf e = 1) (hct : P.cellsOf t = n)
    (h : DataW.trod (fun _ => ()) P w base sp held fuel t cs = some (.agg (zs.map fun z => .lit (.string z)), p)) : cs = zs.map fun z => str z := by
  cases fuel with
  | zero => simp [DataW.trod] at h
  | succ fuel =>
    simp only [DataW.trod, ht, hce, hct, Nat.mul_one] at h
    split at h
    · rename_i hl
      obtain ⟨xs, hm, hx⟩ := Option.map_eq_some_iff.1 h
      have hxs : xs.map (·.1) = zs.map fun z => (DataW.lit (.string z) : DataW Unit) := by
        have := congrArg Prod.fst hx
        simpa using this
      have hxl : xs.length = n := by simpa using Lib.mapM_length hm
      have hzl : zs.length = n := by
        have := congrArg List.length hxs
        simp at this
        omega
      apply List.ext_getElem?
      intro i
      by_cases hi : i < n
      · obtain ⟨b, hb, hf⟩ := Lib.mapM_at hm i i (by simp [hi])
        obtain ⟨z, hc, rfl, _⟩ := DataW.trod_string he hf
        have h1 : cs[i]? = some (.string z) := by
          have := congrArg (·[0]?) hc
          simpa [List.getElem?_take, List.getElem?_drop] using this
        have h2 : (xs.map (·.1))[i]? = some (DataW.lit (.string z.data.toList) : DataW Unit) := by simp [hb]
        rw [hxs] at h2
        simp only [List.getElem?_map, Option.map_eq_some_iff, DataW.lit.injEq, Lit.string.injEq] at h2
        obtain ⟨z', hz', rfl⟩ := h2
        simp [h1, hz']
      · rw [List.getElem?_eq_none (by omega), List.getElem?_eq_none (by simp; omega)]
    · cases h
theorem wd_of_laid {W : World} {l : List (String × DataW Unit)} (h0 : laidMetH Tryd.prog l W) (hl : (l.all fun x => x.2.handleName?.isNone) = true) {i j : Nat} (h1 : l[i]? = some ("internal/strconv.uint64pow10", Lib.tabData .u64 Lib.pow10Tab)) (h2 : l[j]? = some ("merestone/script.kinds", .agg (kws.map fun z => .lit (.string z)))) : Wd W := by
  have h := (laidMetH_iff.1 h0).1
  rw [List.filter_eq_self.2 (fun x hx => List.all_eq_true.1 hl x hx)] at h
  obtain ⟨g, t, cs, fuel, p, hg, hty, hv, hd⟩ := laid_reads h (List.mem_of_getElem? h1)
  obtain ⟨g', t', cs', fuel', p', hg', hty', hv', hd'⟩ := laid_reads h (List.mem_of_getElem? h2)
  have hlt : ∀ {n : String} {g : Nat} {cs : Array Value}, Tryd.prog.globalNamed n = some g → W.var? Tryd.prog n = some cs → g < W.heap.size := fun {n g cs} e v => by
    unfold World.var? at v
    rw [e] at v
    simp only [Option.bind_some] at v
    rcases Nat.lt_or_ge g W.heap.size with h1 | h1
    · exact h1
    · rw [Array.getElem?_eq_none h1] at v; simp at v
  obtain rfl := Option.some.inj ((show Tryd.prog.globalNamed "internal/strconv.uint64pow10" = some 1 by kernel_rfl).symm.trans hg)
  obtain rfl := Option.some.inj ((show Tryd.prog.globalNamed "merestone/script.kinds" = some 0 by kernel_rfl).symm.trans hg')
  obtain rfl := Option.some.inj ((show (Tryd.prog.globals[1]?).map (·.type) = some 124 by kernel_rfl).symm.trans hty)
  obtain rfl := Option.some.inj ((show (Tryd.prog.globals[0]?).map (·.type) = some 71 by kernel_rfl).symm.trans hty')
  refine ⟨?_, ⟨hlt hg' hv', fun k hk => ?_⟩, 1, hg, hlt hg hv⟩
  · unfold Tab Lib.TabIs
    rw [hv, ← Lib.cells_of_tab Tryd.underlying124 Tryd.underlying31 (by kernel_rfl) (by kernel_rfl) hd]
  · rw [World.var?_cell hg' hv' k, ← Array.getElem?_toList, cells_of_strs Tryd.underlying71 Tryd.underlying9 (by kernel_rfl) (by kernel_rfl) hd', List.getElem?_map]
    unfold kw
    rw [List.getD_eq_getElem?_getD, List.getElem?_eq_getElem (show k < kws.length from hk)]
    rfl
end Go.Proofs.YtcdhngppcpgojaaDoor
