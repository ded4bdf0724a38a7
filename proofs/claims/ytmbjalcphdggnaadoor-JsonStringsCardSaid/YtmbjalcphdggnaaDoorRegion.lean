/- A region that draws its order, by an invariant over what has come up: one proof for each operation, whatever the order. -/
import Derived.Test.YtmbjalcphdggnaaDoorLib
import Derived.ArgAppend
namespace Go.Proofs.YtmbjalcphdggnaaDoor
set_option linter.unusedSimpArgs false
set_option linter.unusedVariables false
open Go.RowKit
section
variable {P : Program} {ops : Array Oper} {Q : Exit → Act → World → Prop} {md : Region.Mode}
/-- The operations that have come up, and i. -/
def seen (D : Nat → Bool) (i : Nat) : Nat → Bool := fun j => j == i || D j
theorem listed_of_none {listed : Array Bool} (hs : listed.size = ops.size) (hord : ∀ i o, ops[i]? = some o → ∀ e ∈ o.after, Region.binds md e = true → e.on < i)
    (h : Region.ready md ops listed = []) : ∀ i, i < ops.size → listed.getD i false = true := by
  intro i
  induction i using Nat.strongRecOn with
  | _ i ih =>
    intro hi
    by_cases hc : listed.getD i false = true
    · exact hc
    · exfalso
      have hm : i ∈ Region.ready md ops listed := by
        refine mem_ready.2 ⟨?_, ops[i], Array.getElem?_eq_getElem hi, fun e he hb => ?_⟩
        · have : i < listed.size := by omega
          simp [this] at hc ⊢
          exact hc
        · have hlt := hord i _ (Array.getElem?_eq_getElem hi) e he hb
          exact ih e.on hlt (by omega)
      rw [h] at hm; cases hm
theorem wpAny_inv (I : (Nat → Bool) → Act → World → Prop) (hord : ∀ i o, ops[i]? = some o → ∀ e ∈ o.after, Region.binds md e = true → e.on < i)
    (hstep : ∀ i o, ops[i]? = some o → ∀ D a w, I D a w → D i = false → (∀ e ∈ o.after, Region.binds md e = true → D e.on = true) → ∀ K : Act → World → Prop, (∀ a w, I (seen D i) a w → K a w) →
      if Region.wanted o (yielded ops a.tmps) then o.wp P a w K Q else K (a.put o.dst undef) w)
    (hend : ∀ D a w, I D a w → (∀ i, i < ops.size → D i = true) → Q .normal a w) :
    ∀ (fuel : Nat) (listed : Array Bool) (a : Act) (w : World), listed.size = ops.size → listed.toList.count false = fuel → I (fun j => listed.getD j false) a w → wpAny P md ops Q fuel listed a w
  | 0, listed, a, w, hs, hc, hI => by
    have hall : ∀ i, i < ops.size → listed.getD i false = true := fun i hi => by
      have h1 : ∀ b ∈ listed.toList, b = true := fun b hb => by
        cases b
        · exact absurd hc (by have := List.count_pos_iff.2 hb; omega)
        · rfl
      have hi' : i < listed.size := by omega
      simp [hi']
      exact h1 _ (by simp)
    refine ⟨?_, hend _ _ _ hI hall⟩
    rw [List.eq_nil_iff_forall_not_mem]
    intro j hj
    obtain ⟨h0, o, ho, _⟩ := mem_ready.1 hj
    have hjs := (Array.getElem?_eq_some_iff.1 ho).1
    have h1 := hall j hjs
    have hj' : j < listed.size := by omega
    simp [hj'] at h0 h1
    rw [h0] at h1; cases h1
  | fuel + 1, listed, a, w, hs, hc, hI => by
    refine ⟨fun h0 => hend _ _ _ hI (listed_of_none hs hord h0), fun i hi => ?_⟩
    obtain ⟨h0, o, ho, hall⟩ := mem_ready.1 hi
    have his := (Array.getElem?_eq_some_iff.1 ho).1
    have hi' : i < listed.size := by omega
    have hf : listed[i] = false := by simpa [hi'] using h0
    have hnext : ∀ a w, I (seen (fun j => listed.getD j false) i) a w → wpAny P md ops Q fuel (listed.setIfInBounds i true) a w := fun a w h => by
      refine wpAny_inv I hord hstep hend fuel _ a w (by simpa using hs) ?_ ?_
      · rw [Array.toList_setIfInBounds, List.count_set (by simpa using hi')]
        have hc' : Array.count false listed = fuel + 1 := by simpa using hc
        simp [hf]; omega
      · have : (fun j => (listed.setIfInBounds i true).getD j false) = seen (fun j => listed.getD j false) i := by
          funext j
          unfold seen
          by_cases hj : j = i
          · subst hj; simp [hi']
          · rw [getD_set_ne false (Ne.symm hj)]
            have : (j == i) = false := by simpa using hj
            rw [this]; rfl
        rw [this]; exact h
    have hst := hstep i o ho _ a w hI (by simp [hi', hf]) (fun e he hb => hall e he hb) _ hnext
    unfold wpOp
    simp only [ho]
    split
    · rename_i hw; rw [if_pos hw] at hst; exact .inl hst
    · rename_i hw; rw [if_neg hw] at hst; exact hst

/-- One obligation for each operation of a list. -/
def Steps1 (P : Program) (ops : Array Oper) (Q : Exit → Act → World → Prop) (I : (Nat → Bool) → Act → World → Prop) : List Oper → Nat → Prop
  | [], _ => True
  | o :: rest, i => (∀ D a w, I D a w → D i = false → (∀ e ∈ o.after, Region.binds .any e = true → D e.on = true) → ∀ K : Act → World → Prop, (∀ a w, I (seen D i) a w → K a w) →
      if Region.wanted o (yielded ops a.tmps) then o.wp P a w K Q else K (a.put o.dst undef) w) ∧ Steps1 P ops Q I rest (i + 1)
theorem Steps1.get {I : (Nat → Bool) → Act → World → Prop} : ∀ (l : List Oper) (k : Nat), Steps1 P ops Q I l k → ∀ j o, l[j]? = some o →
    ∀ D a w, I D a w → D (k + j) = false → (∀ e ∈ o.after, Region.binds .any e = true → D e.on = true) → ∀ K : Act → World → Prop, (∀ a w, I (seen D (k + j)) a w → K a w) →
      if Region.wanted o (yielded ops a.tmps) then o.wp P a w K Q else K (a.put o.dst undef) w
  | [], _, _, j, o, ho => by simp at ho
  | o' :: l, k, h, 0, o, ho => by simp at ho; subst ho; exact h.1
  | o' :: l, k, h, j + 1, o, ho => by
    have := Steps1.get l (k + 1) h.2 j o (by simpa using ho)
    rw [show k + 1 + j = k + (j + 1) by omega] at this
    exact this
/-- Do all edges lead back? -/
def edgesBack (l : List Oper) : Bool := l.zipIdx.all fun (o, i) => o.after.all fun e => !Region.binds .any e || decide (e.on < i)
theorem edgesBack_spec {l : List Oper} (h : edgesBack l = true) : ∀ i o, l.toArray[i]? = some o → ∀ e ∈ o.after, Region.binds .any e = true → e.on < i := by
  intro i o ho e he hb
  unfold edgesBack at h
  rw [List.all_eq_true] at h
  have h1 := h (o, i) (by
    rw [List.mem_zipIdx_iff_getElem?]
    simpa using ho)
  simp only [Array.all_eq_true'] at h1
  have := h1 e he
  simpa [hb] using this
/-- **A REGION THAT DRAWS ITS ORDER, BY AN INVARIANT.** -/
theorem wp_region_inv {id : Nat} {a : Act} {w : World} {l : List Oper} (hm : P.follows .mixedOrders = true) (hB : edgesBack l = true) (I : (Nat → Bool) → Act → World → Prop)
    (h0 : I (fun _ => false) a w.drew) (hs : Steps1 P l.toArray Q I l 0)
    (hend : ∀ D a w, I D a w → (∀ i, i < l.length → D i = true) → Q .normal a w) : (Code.region id l.toArray true).wp P Q a w := by
  refine wp_region_any hm (wpAny_inv I (edgesBack_spec hB) (fun i o ho => ?_) (fun D a w h1 h2 => hend D a w h1 (by simpa using h2)) _ _ _ _ (by simp) (by simp) ?_)
  · have := Steps1.get l 0 hs i o (by simpa using ho)
    simpa using this
  · have : (fun j => (Array.replicate l.toArray.size false).getD j false) = fun _ => false := by
      funext j
      by_cases hj : j < l.length <;> simp [Array.getElem?_replicate, hj]
    rw [this]; exact h0
end
/-! Single operations over a frame of which single slots are known -/
section
variable {P : Program} {Q : Exit → Act → World → Prop} {a : Act} {w : World} {K : Act → World → Prop} {o : Oper}
theorem act_same {d : Nat} {v : Value} (h : d < a.tmps.size) : (a.put (some d) v).eval (.tmp d) = v := by
  simp [Act.put, Act.eval, h]
theorem act_ne {d e : Nat} {v : Value} (h : e ≠ d) : (a.put (some d) v).eval (.tmp e) = a.eval (.tmp e) := by
  have h' : d ≠ e := fun x => h x.symm
  simp [Act.put, Act.eval, Array.getElem?_setIfInBounds, h']
theorem act_size {d : Option Tmp} {v : Value} : (a.put d v).tmps.size = a.tmps.size := by cases d <;> simp [Act.put]
theorem act_defers {d : Option Tmp} {v : Value} : (a.put d v).defers = a.defers := by cases d <;> simp [Act.put]
theorem op_move (x : Operand) (h : o.op = .move x) (hk : K (a.put o.dst (a.eval x)) w) : o.wp P a w K Q := by
  unfold Oper.wp; rw [BigFrame.run_move x h]; exact hk
theorem op_assign (x : Operand) (h : o.op = .assign x) (hk : K (a.put o.dst (a.eval x)) w) : o.wp P a w K Q := by
  unfold Oper.wp; rw [BigFrame.run_assign x h]; exact hk
end
/-! A region that draws its order, each operation with a fact on its own slot that every later world keeps -/
/-- Of one operation: the slot that it writes, and what is known of it. -/
structure Fact where
  d : Nat
  R : Value → World → Prop
section
variable {P : Program} {Q : Exit → Act → World → Prop}
/-- What every operation may lean on: the frame's size, the slots that the region leaves alone, the world. -/
structure Ground (N : Nat) (a0 : Act) (ds : List Nat) (w0 : World) (a : Act) (w : World) : Prop where
  sz : a.tmps.size = N
  df : a.defers = []
  kp : ∀ t, t ∉ ds → a.eval (.tmp t) = a0.eval (.tmp t)
  hb : Below w0.heap.size w0 w
structure FactsInv (N : Nat) (a0 : Act) (ds : List Nat) (w0 : World) (sp : List Fact) (D : Nat → Bool) (a : Act) (w : World) : Prop where
  g : Ground N a0 ds w0 a w
  f : ∀ (j : Nat) (e : Fact), sp[j]? = some e → D j = true → e.R (a.eval (.tmp e.d)) w
/-- One obligation for each operation. -/
def StepsF (P : Program) (Q : Exit → Act → World → Prop) (N : Nat) (a0 : Act) (ds : List Nat) (w0 : World) (sp : List Fact) : List Oper → List Fact → Prop
  | o :: ops, e :: es => (∀ a w, Ground N a0 ds w0 a w → (∀ x ∈ o.after, Region.binds .any x = true → ∀ e' : Fact, sp[x.on]? = some e' → e'.R (a.eval (.tmp e'.d)) w) →
      ∀ K : Act → World → Prop, (∀ v w', Below w.heap.size w w' → e.R v w' → K (a.put (some e.d) v) w') → o.wp P a w K Q) ∧ StepsF P Q N a0 ds w0 sp ops es
  | [], [] => True
  | _, _ => False
theorem StepsF.get {N : Nat} {a0 : Act} {ds : List Nat} {w0 : World} {sp : List Fact} : ∀ (ops : List Oper) (es : List Fact), StepsF P Q N a0 ds w0 sp ops es → ∀ (j : Nat) (o : Oper), ops[j]? = some o → ∃ e : Fact, es[j]? = some e ∧
    (∀ a w, Ground N a0 ds w0 a w → (∀ x ∈ o.after, Region.binds .any x = true → ∀ e' : Fact, sp[x.on]? = some e' → e'.R (a.eval (.tmp e'.d)) w) →
      ∀ K : Act → World → Prop, (∀ v w', Below w.heap.size w w' → e.R v w' → K (a.put (some e.d) v) w') → o.wp P a w K Q)
  | o' :: ops, e' :: es, h, 0, o, ho => by simp at ho; subst ho; exact ⟨e', rfl, h.1⟩
  | o' :: ops, e' :: es, h, j + 1, o, ho => by
    obtain ⟨e, h1, h2⟩ := StepsF.get ops es h.2 j o (by simpa using ho)
    exact ⟨e, by simpa using h1, h2⟩
  | [], [], _, j, o, ho => by simp at ho
  | _ :: _, [], h, _, _, _ => by simp [StepsF] at h
  | [], _ :: _, h, _, _, _ => by simp [StepsF] at h
/-- The slots are each written once and lie in the frame; no operation is guarded. -/
def factsOk (N : Nat) (ds : List Nat) (l : List Oper) : Bool :=
  ds.all (fun d => decide (d < N)) && (List.range ds.length).all (fun i => (List.range ds.length).all fun j => i == j || ds[i]? != ds[j]?) && l.all (fun o => o.guard.isNone) && decide (l.length = ds.length)
/-- The frame behind the region. -/
def fillF (a0 : Act) (ds : List Nat) (f : Nat → Value) : Act := ds.foldl (fun a d => a.put (some d) (f d)) a0
theorem fillF_size (f : Nat → Value) : ∀ (ds : List Nat) (a0 : Act), (fillF a0 ds f).tmps.size = a0.tmps.size
  | [], a0 => rfl
  | d :: ds, a0 => by
    show (fillF (a0.put (some d) (f d)) ds f).tmps.size = _
    rw [fillF_size f ds, act_size]
theorem fillF_defers (f : Nat → Value) : ∀ (ds : List Nat) (a0 : Act), (fillF a0 ds f).defers = a0.defers
  | [], a0 => rfl
  | d :: ds, a0 => by
    show (fillF (a0.put (some d) (f d)) ds f).defers = _
    rw [fillF_defers f ds, act_defers]
theorem fillF_eval (f : Nat → Value) : ∀ (ds : List Nat) (a0 : Act) (t : Nat), t < a0.tmps.size → (fillF a0 ds f).eval (.tmp t) = if t ∈ ds then f t else a0.eval (.tmp t)
  | [], a0, t, _ => by simp [fillF]
  | d :: ds, a0, t, ht => by
    show (fillF (a0.put (some d) (f d)) ds f).eval (.tmp t) = _
    rw [fillF_eval f ds _ t (by rw [act_size]; exact ht)]
    by_cases h1 : t ∈ ds
    · simp [h1]
    · by_cases h2 : t = d
      · subst h2; simp [h1, act_same ht]
      · simp [h1, h2, act_ne h2]
theorem act_ext {a b : Act} (hs : a.tmps.size = b.tmps.size) (hd : a.defers = b.defers) (he : ∀ t, t < a.tmps.size → a.eval (.tmp t) = b.eval (.tmp t)) : a = b := by
  obtain ⟨at_, ad⟩ := a
  obtain ⟨bt, bd⟩ := b
  simp only at hs hd
  subst hd
  congr 1
  refine Array.ext hs (fun i h1 h2 => ?_)
  have := he i h1
  simpa [Act.eval, h1, h2] using this
theorem Ground.fill {N : Nat} {a0 : Act} {ds : List Nat} {w0 : World} {a : Act} {w : World} (hN : a0.tmps.size = N) (hdf : a0.defers = []) (h : Ground N a0 ds w0 a w) : a = fillF a0 ds (fun d => a.eval (.tmp d)) := by
  refine act_ext (by rw [fillF_size, hN]; exact h.sz) (by rw [fillF_defers, hdf]; exact h.df) (fun t ht => ?_)
  rw [fillF_eval _ ds a0 t (by rw [hN, ← h.sz]; exact ht)]
  by_cases h1 : t ∈ ds
  · simp [h1]
  · simp [h1, h.kp t h1]
/-- **A REGION THAT DRAWS ITS ORDER, BY A FACT ON EACH SLOT.** -/
theorem wp_region_facts {id : Nat} {a0 : Act} {w0 : World} {l : List Oper} (hm : P.follows .mixedOrders = true) (hB : edgesBack l = true) (N : Nat) (sp : List Fact)
    (hok : factsOk N (sp.map (·.d)) l = true) (hN : a0.tmps.size = N) (hdf : a0.defers = [])
    (hmono : ∀ e ∈ sp, ∀ v w w', Below w0.heap.size w0 w → Below w.heap.size w w' → e.R v w → e.R v w')
    (hs : StepsF P Q N a0 (sp.map (·.d)) w0 sp l sp)
    (hend : ∀ (f : Nat → Value) w, Below w0.heap.size w0 w → (∀ e ∈ sp, e.R (f e.d) w) → Q .normal (fillF a0 (sp.map (·.d)) f) w) : (Code.region id l.toArray true).wp P Q a0 w0 := by
  unfold factsOk at hok
  simp only [Bool.and_eq_true, List.all_eq_true, decide_eq_true_eq, List.length_map, List.mem_map, forall_exists_index, and_imp, forall_apply_eq_imp_iff₂, List.mem_range] at hok
  obtain ⟨⟨⟨h1, h2⟩, h3⟩, h4⟩ := hok
  have hinj : ∀ (i j : Nat) (ei ej : Fact), sp[i]? = some ei → sp[j]? = some ej → i ≠ j → ei.d ≠ ej.d := fun i j ei ej hi hj hij => by
    have hi' := (List.getElem?_eq_some_iff.1 hi).1
    have hj' := (List.getElem?_eq_some_iff.1 hj).1
    have := h2 i hi' j hj'
    simp [hi, hj, hij] at this
    exact this
  refine wp_region_inv hm hB (FactsInv N a0 (sp.map (·.d)) w0 sp) ⟨⟨hN, hdf, fun _ _ => rfl, (Below.refl _ _).drew⟩, fun j e _ h => by cases h⟩ ?_ (fun D a w hI hall => ?_)
  · suffices ∀ (l' : List Oper) (k : Nat), (∀ (j : Nat) (o : Oper), l'[j]? = some o → l[k + j]? = some o) → Steps1 P l.toArray Q (FactsInv N a0 (sp.map (·.d)) w0 sp) l' k from this l 0 (fun j o h => by simpa using h)
    intro l'
    induction l' with
    | nil => intro k _; trivial
    | cons o l' ih =>
      intro k hk
      refine ⟨?_, ih (k + 1) (fun j o' h => by have := hk (j + 1) o' (by simpa using h); rw [show k + 1 + j = k + (j + 1) by omega]; exact this)⟩
      intro D a w hI hD hdep K hK
      have hko : l[k]? = some o := by simpa using hk 0 o rfl
      obtain ⟨e, he, hst⟩ := StepsF.get l sp hs k o hko
      have hmem : e ∈ sp := List.mem_of_getElem? he
      have hg : o.guard = none := by have := h3 o (List.mem_of_getElem? hko); simpa using this
      rw [if_pos (by simp [Region.wanted, hg])]
      refine hst a w hI.g (fun x hx hb e' he' => hI.f _ _ he' (hdep x hx hb)) K (fun v w' hb hv => hK _ _ ?_)
      have hsz : e.d < a.tmps.size := by rw [hI.g.sz]; exact h1 e hmem
      refine ⟨⟨by rw [act_size]; exact hI.g.sz, by rw [act_defers]; exact hI.g.df, fun t ht => ?_, hI.g.hb.trans (hb.mono hI.g.hb.size)⟩, fun j e' he' hs' => ?_⟩
      · rw [act_ne (fun h => ht (by rw [h]; exact List.mem_map.2 ⟨e, hmem, rfl⟩))]; exact hI.g.kp t ht
      · by_cases hj : j = k
        · subst hj
          rw [he] at he'; cases he'
          rw [act_same hsz]; exact hv
        · rw [act_ne (hinj j k e' e he' he hj)]
          have hDj : D j = true := by simpa [seen, hj] using hs'
          exact hmono e' (List.mem_of_getElem? he') _ w w' hI.g.hb hb (hI.f j e' he' hDj)
  · rw [hI.g.fill hN hdf]
    refine hend _ w hI.g.hb (fun e he => ?_)
    obtain ⟨j, hj⟩ := List.mem_iff_getElem?.1 he
    exact hI.f j e hj (hall j (by have := (List.getElem?_eq_some_iff.1 hj).1; omega))
end
/-- append onto a fresh empty slice: memory is made, nothing that was there turns. -/
theorem below_of_grown {w w' : World} (h : w.grownBy w' none) : Below w.heap.size w w' := ⟨h.os, h.tape, h.output, h.size, fun k hk => h.block k hk (by simp)⟩
theorem wp_append_empty {P : Program} {o : Oper} {a : Act} {K : Act → World → Prop} {Q : Exit → Act → World → Prop} (w : World) (s x : Operand) (t : TypeId)
    (ho : o.op = .call { callee := .builtin .append, args := #[s, x], argTypes := #[t, t] })
    (base : Nat) (e : TypeId) (i : TypeInfo) (z : Value) (size bytes : Nat) (ht : P.underlying t = some (.slice e)) (hi : P.info? e = some i) (hz : i.zero = some z)
    (hsize : i.size = size) (hby : i.bytes = bytes) (hzs : z.cells.size = size) (hsz : 0 < size)
    (g : Nat) (hs : a.eval s = .slice (some ⟨g, 0, none⟩) 0 0) (hown : w.ownsRow base e size (.slice (some ⟨g, 0, none⟩) 0 0) 0 [])
    (B : Nat) (A : Option Addr) (m c : Nat) (news : List Value) (hx : a.eval x = .slice A m c) (hr : Reads w B size A m news) (h1 : ∀ u ∈ news, u.oneCell' = true)
    (h63 : m ≤ maxLen) (hbytes : m * bytes ≤ 140737488355328) (hbase : base ≤ w.heap.size)
    (h : ∀ v' w', w'.ownsRow base e size v' m news → Below w.heap.size w w' → K (a.put o.dst v') w') : o.wp P a w K Q := by
  rcases Nat.eq_zero_or_pos m with h0 | h0
  · subst h0
    have hn : news = [] := List.eq_nil_of_length_eq_zero (by simpa using hr.1)
    subst hn
    cases A with
    | none =>
      have hrun := run_append_of_nil (P := P) w base t o.type e i size ht hi (.slice (some ⟨g, 0, none⟩) 0 0) 0 [] hown c
      unfold Oper.wp execOp
      simp only [ho, resolve, invoke, builtin, Sem.run_bind, Sem.run_pure, Result.andThen_ok, List.map_toArray, List.map_cons, List.map_nil, hs, hx, hrun]
      exact h _ w hown (Below.refl _ _)
    | some ad =>
      have hrun : (Builtin.append_ #[t, t] o.type #[.slice (some ⟨g, 0, none⟩) 0 0, .slice (some ad) 0 c]).run P w = .ok (.slice (some ⟨g, 0, none⟩) 0 0) w := by
        simp [Builtin.append_, run_underlying ht, sizeOf, typeInfo, hi, Builtin.lenOf, Builtin.firstCells, storeCells, loadCells, loadCellsFrom]
      unfold Oper.wp execOp
      simp only [ho, resolve, invoke, builtin, Sem.run_bind, Sem.run_pure, Result.andThen_ok, List.map_toArray, List.map_cons, List.map_nil, hs, hx, hrun]
      exact h _ w hown (Below.refl _ _)
  · obtain ⟨ad, rfl, _, hc⟩ := hr.2 h0
    obtain ⟨v', w', hrun, r1, r2⟩ := run_append_arg_grows (P := P) w t o.type e i z size bytes ht hi hz hsize hby hzs hsz ⟨g, 0, none⟩ 0 0 [] (by simp) (by simp) ad m c news hr.1 hc (by omega) (by omega) (by simpa using hbytes)
    unfold Oper.wp execOp
    simp only [ho, resolve, invoke, builtin, Sem.run_bind, Sem.run_pure, Result.andThen_ok, List.map_toArray, List.map_cons, List.map_nil, hs, hx, hrun]
    exact h _ _ (own_base (by simpa using r1) hbase) (below_of_grown r2)
end Go.Proofs.YtmbjalcphdggnaaDoor
