/- A region that draws its order, whose memory turns in stages that part and meet again. -/
import Derived.Test.YtmbjalcphdggnaaDoorRegD
namespace Go.Proofs.YtmbjalcphdggnaaDoor
set_option linter.unusedSimpArgs false
set_option linter.unusedVariables false
open Go.RowKit
/-- A row: its slot, the stages in which it may come up, (for what turns memory) its moves and the stages behind it, rows that stand ahead of it, slots of such rows that its fact looks at, its fact. -/
structure FactH where
  d : Option Nat
  st : List Nat
  mv : List (Nat × Nat)
  aft : List Nat
  an : List Nat
  dep : List Nat
  R : Nat → Act → Value → World → Prop
structure RowH where
  d : Option Nat
  st : List Nat
  mv : List (Nat × Nat)
  aft : List Nat
  an : List Nat
  dep : List Nat
def FactH.row (e : FactH) : RowH := ⟨e.d, e.st, e.mv, e.aft, e.an, e.dep⟩
def dsH (sp : List FactH) : List Nat := sp.filterMap (·.d)
def dagRow (N M : Nat) (rs : List RowH) (l : List Oper) (i : Nat) (r : RowH) : Bool :=
  (match r.d with | none => true | some d => decide (d < N) && (List.range rs.length).all fun j => i == j || (match rs[j]? with | some r' => r'.d != some d | none => true)) &&
  ((List.range (M + 1)).all (fun s => r.st.contains s || (List.range rs.length).any fun j => match rs[j]? with
    | some r' => !r'.mv.isEmpty && ((i != j && ((ancs l).getD i []).contains j && !r'.aft.contains s) || (((ancs l).getD j []).contains i && r'.aft.contains s))
    | none => false)) &&
  (r.mv.all (fun m => decide (m.2 ≤ M) && r.aft.contains m.2 && (List.range rs.length).all fun j => i == j || (match rs[j]? with | some r' => r'.mv.isEmpty || (r'.aft.contains m.2 == r'.aft.contains m.1) | none => true))) &&
  (r.mv.isEmpty || (!r.aft.contains 0 && r.st.all (fun s => r.mv.any (fun m => m.1 == s)))) &&
  (r.an.all (fun j => j != i && ((ancs l).getD i []).contains j)) &&
  (r.dep.all (fun d => r.an.any (fun j => match rs[j]? with | some r' => r'.d == some d | none => false)))
def dagOk (N M : Nat) (rs : List RowH) (l : List Oper) : Bool :=
  decide (l.length = rs.length) && l.all (fun o => o.guard.isNone) && (rs.zip l).all (fun x => x.1.d == x.2.dst) &&
  (List.range rs.length).all (fun i => match rs[i]? with | none => false | some r => dagRow N M rs l i r) &&
  (List.range M).all (fun s => (List.range rs.length).any fun j => match rs[j]? with | some r => !r.mv.isEmpty && !r.aft.contains s | none => false)
section
variable {P : Program} {Q : Exit → Act → World → Prop}
def DepH (sp : List FactH) (e : FactH) (s : Nat) (a : Act) (w : World) : Prop := ∀ j ∈ e.an, ∀ e' : FactH, sp[j]? = some e' → ∀ d, e'.d = some d → e'.R s a (a.eval (.tmp d)) w
def ObH (P : Program) (Q : Exit → Act → World → Prop) (N : Nat) (a0 : Act) (ds : List Nat) (G : Nat → World → Prop) (T : Nat → Nat → Act → World → World → Prop) (U : Nat → World → World → Prop) (sp : List FactH) (o : Oper) (e : FactH) : Prop :=
  match e.mv with
  | [] => ∀ s, s ∈ e.st → ∀ a w, GrD N a0 ds a → G s w → DepH sp e s a w → ∀ K : Act → World → Prop, (∀ v w', U s w w' → e.R s a v w' → K (a.put e.d v) w') → o.wp P a w K Q
  | _ :: _ => ∀ s s', (s, s') ∈ e.mv → ∀ a w, GrD N a0 ds a → G s w → DepH sp e s a w → ∀ K : Act → World → Prop, (∀ v w', T s s' a w w' → G s' w' → e.R s' a v w' → K (a.put e.d v) w') → o.wp P a w K Q
def ObsH (P : Program) (Q : Exit → Act → World → Prop) (N : Nat) (a0 : Act) (ds : List Nat) (G : Nat → World → Prop) (T : Nat → Nat → Act → World → World → Prop) (U : Nat → World → World → Prop) (sp : List FactH) : List Oper → List FactH → Prop
  | o :: os, e :: es => ObH P Q N a0 ds G T U sp o e ∧ ObsH P Q N a0 ds G T U sp os es
  | [], [] => True
  | _, _ => False
theorem ObsH.get {N : Nat} {a0 : Act} {ds : List Nat} {G : Nat → World → Prop} {T : Nat → Nat → Act → World → World → Prop} {U : Nat → World → World → Prop} {sp : List FactH} : ∀ (os : List Oper) (es : List FactH), ObsH P Q N a0 ds G T U sp os es → ∀ (j : Nat) (o : Oper), os[j]? = some o →
    ∃ e : FactH, es[j]? = some e ∧ ObH P Q N a0 ds G T U sp o e
  | o' :: os, e' :: es, h, 0, o, ho => by simp at ho; subst ho; exact ⟨e', rfl, h.1⟩
  | o' :: os, e' :: es, h, j + 1, o, ho => by
    obtain ⟨e, h1, h2⟩ := ObsH.get os es h.2 j o (by simpa using ho)
    exact ⟨e, by simpa using h1, h2⟩
  | [], [], _, j, o, ho => by simp at ho
  | _ :: _, [], h, _, _, _ => by simp [ObsH] at h
  | [], _ :: _, h, _, _, _ => by simp [ObsH] at h
structure InvH (N M : Nat) (a0 : Act) (G : Nat → World → Prop) (sp : List FactH) (l : List Oper) (D : Nat → Bool) (a : Act) (w : World) (s : Nat) : Prop where
  g : GrD N a0 (dsH sp) a
  hG : G s w
  hM : s ≤ M
  cl : closedD l D
  mem : ∀ (i : Nat) (e : FactH), sp[i]? = some e → e.mv.isEmpty = false → (D i = true ↔ s ∈ e.aft)
  f : ∀ (j : Nat) (e : FactH), sp[j]? = some e → D j = true → ∀ d, e.d = some d → e.R s a (a.eval (.tmp d)) w
/-- **A REGION THAT DRAWS ITS ORDER, WHOSE STAGES PART AND MEET.** -/
theorem wp_region_dag {id : Nat} {a0 : Act} {w0 : World} {l : List Oper} (hm : P.follows .mixedOrders = true) (hB : edgesBack l = true) (N M : Nat) (sp : List FactH) (G : Nat → World → Prop) (T : Nat → Nat → Act → World → World → Prop) (U : Nat → World → World → Prop)
    (hGU : ∀ s w w', G s w → U s w w' → G s w') (hRU : ∀ e ∈ sp, ∀ s a v w w', U s w w' → e.R s a v w → e.R s a v w')
    (hput : ∀ e ∈ sp, ∀ s a d u v w, d ∉ e.dep → e.R s a v w → e.R s (a.put (some d) u) v w)
    (ds : List Nat) (hds : dsH sp = ds) (hok : dagOk N M (sp.map FactH.row) l = true) (hN : a0.tmps.size = N)
    (h0 : G 0 w0.drew)
    (hkeep : ∀ e ∈ sp, ∀ s s' a v w w', (∀ d, e.d = some d → v = a.eval (.tmp d)) → (e.mv.isEmpty = false → s ∈ e.aft) → T s s' a w w' → e.R s a v w → e.R s' a v w')
    (hs : ObsH P Q N a0 ds G T U sp l sp)
    (hend : ∀ (f : Nat → Value) w, G M w → (∀ e ∈ sp, ∀ d, e.d = some d → e.R M (fillF a0 ds f) (f d) w) → Q .normal (fillF a0 ds f) w) : (Code.region id l.toArray true).wp P Q a0 w0 := by
  subst hds
  unfold dagOk at hok
  simp only [Bool.and_eq_true, List.all_eq_true, decide_eq_true_eq, List.length_map, List.mem_range] at hok
  obtain ⟨⟨⟨⟨h4, hgd⟩, hzip⟩, hks⟩, hfin⟩ := hok
  have hself : ∀ (D : Nat → Bool) (i : Nat), seen D i i = true := fun D i => by simp [seen]
  have hoth : ∀ (D : Nat → Bool) (i j : Nat), j ≠ i → seen D i j = D j := fun D i j h => by simp [seen, h]
  have hdst : ∀ (i : Nat) (e : FactH) (o : Oper), sp[i]? = some e → l[i]? = some o → e.d = o.dst := fun i e o he ho => by
    have := hzip (e.row, o) (by
      refine List.mem_of_getElem? (i := i) ?_
      rw [List.getElem?_zip_eq_some]
      exact ⟨by rw [List.getElem?_map, he]; rfl, ho⟩)
    simpa [FactH.row] using this
  have hrow : ∀ (i : Nat) (e : FactH), sp[i]? = some e →
      (∀ d, e.d = some d → d < N ∧ ∀ (j : Nat) (e' : FactH), sp[j]? = some e' → i ≠ j → e'.d ≠ some d) ∧
      (∀ s, s ≤ M → s ∈ e.st ∨ ∃ (j : Nat) (e' : FactH), sp[j]? = some e' ∧ e'.mv.isEmpty = false ∧ ((i ≠ j ∧ j ∈ (ancs l).getD i [] ∧ s ∉ e'.aft) ∨ (i ∈ (ancs l).getD j [] ∧ s ∈ e'.aft))) ∧
      (∀ m ∈ e.mv, m.2 ≤ M ∧ m.2 ∈ e.aft ∧ ∀ (j : Nat) (e' : FactH), sp[j]? = some e' → i ≠ j → e'.mv.isEmpty = false → (m.2 ∈ e'.aft ↔ m.1 ∈ e'.aft)) ∧
      (e.mv.isEmpty = false → 0 ∉ e.aft ∧ ∀ s ∈ e.st, ∃ m ∈ e.mv, m.1 = s) ∧
      (∀ j ∈ e.an, j ≠ i ∧ j ∈ (ancs l).getD i []) ∧
      (∀ d ∈ e.dep, ∃ j ∈ e.an, ∃ e' : FactH, sp[j]? = some e' ∧ e'.d = some d) := fun i e he => by
    have hi := (List.getElem?_eq_some_iff.1 he).1
    have h := hks i hi
    rw [List.getElem?_map, he] at h
    simp only [Option.map_some] at h
    unfold dagRow at h
    simp only [Bool.and_eq_true, Bool.or_eq_true, List.all_eq_true, List.length_map, List.mem_range] at h
    obtain ⟨⟨⟨⟨⟨g1, g2⟩, g3⟩, g4⟩, g7⟩, g8⟩ := h
    refine ⟨fun d hd => ?_, fun s hs => ?_, fun m hm' => ?_, fun hmm => ?_, fun j hj => ?_, fun d hd => ?_⟩
    · rw [show (e.row).d = some d from hd] at g1
      simp only [Bool.and_eq_true, decide_eq_true_eq, List.all_eq_true, List.mem_range] at g1
      refine ⟨g1.1, fun j e' he' hij hd' => ?_⟩
      have := g1.2 j (List.getElem?_eq_some_iff.1 he').1
      rw [List.getElem?_map, he'] at this
      simp [FactH.row, hd', hij] at this
    · rcases g2 s (by omega) with g | g
      · exact .inl (by simpa [FactH.row] using g)
      · rw [List.any_eq_true] at g
        obtain ⟨j, hj, g⟩ := g
        rw [List.mem_range] at hj
        rw [List.getElem?_map, List.getElem?_eq_getElem hj] at g
        simp only [Option.map_some, FactH.row, Bool.and_eq_true, Bool.or_eq_true, Bool.not_eq_true', bne_iff_ne, List.contains_iff_mem] at g
        refine .inr ⟨j, sp[j], List.getElem?_eq_getElem hj, g.1, ?_⟩
        rcases g.2 with ⟨⟨a1, a2⟩, a3⟩ | ⟨a1, a2⟩
        · exact .inl ⟨a1, a2, fun h => by rw [List.contains_iff_mem.2 h] at a3; cases a3⟩
        · exact .inr ⟨a1, a2⟩
    · have := g3 m hm'
      simp only [decide_eq_true_eq, FactH.row, List.contains_iff_mem] at this
      refine ⟨this.1.1, this.1.2, fun j e' he' hij hm2 => ?_⟩
      have h3 := this.2 j (List.getElem?_eq_some_iff.1 he').1
      rw [List.getElem?_map, he'] at h3
      simp only [Option.map_some, Bool.or_eq_true, beq_iff_eq] at h3
      rcases h3 with h3 | h3 | h3
      · exact absurd h3 hij
      · rw [show e'.row.mv = e'.mv from rfl, hm2] at h3; cases h3
      · rw [← List.contains_iff_mem, ← List.contains_iff_mem, show e'.aft = e'.row.aft from rfl, h3]
    · rcases g4 with g4 | g4
      · rw [show (e.row).mv = e.mv from rfl, hmm] at g4; cases g4
      · obtain ⟨g4, g5⟩ := g4
        refine ⟨fun h => (by rw [show e.row.aft = e.aft from rfl, List.contains_iff_mem.2 h] at g4; cases g4), fun s hs => ?_⟩
        have g6 := g5 s hs
        rw [List.any_eq_true] at g6
        obtain ⟨m, h1, h2⟩ := g6
        exact ⟨m, h1, by simpa using h2⟩
    · have := g7 j hj
      simp only [bne_iff_ne, List.contains_iff_mem] at this
      exact this
    · have := g8 d hd
      rw [List.any_eq_true] at this
      obtain ⟨j, hj, g⟩ := this
      cases hj' : sp[j]? with
      | none => rw [List.getElem?_map, hj'] at g; cases g
      | some e' =>
        rw [List.getElem?_map, hj'] at g
        simp only [Option.map_some, beq_iff_eq] at g
        exact ⟨j, hj, e', hj', g⟩
  have hanc : ∀ (D : Nat → Bool), closedD l D → ∀ i j, D i = true → j ∈ (ancs l).getD i [] → D j = true := fun D hc i j hi hj => by
    rw [List.getD_eq_getElem?_getD] at hj
    cases e : (ancs l)[i]? with
    | none => rw [e] at hj; simp at hj
    | some m => rw [e] at hj; exact ancs_ok hc i m e hi j (by simpa using hj)
  refine wp_region_inv hm hB (fun D a w => ∃ s, InvH N M a0 G sp l D a w s) ⟨0, ⟨hN, rfl, fun _ _ => rfl⟩, h0, Nat.zero_le _, fun _ _ _ h => (by cases h), fun i e he hm' => ⟨fun h => (by cases h), fun h => absurd h ((hrow i e he).2.2.2.1 hm').1⟩, fun _ _ _ h => (by cases h)⟩ ?_ (fun D a w hI hall => ?_)
  · suffices ∀ (l' : List Oper) (k : Nat), (∀ (j : Nat) (o : Oper), l'[j]? = some o → l[k + j]? = some o) → Steps1 P l.toArray Q (fun D a w => ∃ s, InvH N M a0 G sp l D a w s) l' k from this l 0 (fun j o h => by simpa using h)
    intro l'
    induction l' with
    | nil => intro k _; trivial
    | cons o l' ih =>
      intro k hk
      refine ⟨?_, ih (k + 1) (fun j o' h => by have := hk (j + 1) o' (by simpa using h); rw [show k + 1 + j = k + (j + 1) by omega]; exact this)⟩
      rintro D a w ⟨s, hI⟩ hD hdep K hK
      have hko : l[k]? = some o := by simpa using hk 0 o rfl
      obtain ⟨e, he, hob⟩ := ObsH.get l sp hs k o hko
      have hgo : o.guard = none := by have := hgd o (List.mem_of_getElem? hko); simpa using this
      rw [if_pos (by simp [Region.wanted, hgo])]
      obtain ⟨hd1, hlo, hmv, hmm, han, hdep'⟩ := hrow k e he
      have hmem : e ∈ sp := List.mem_of_getElem? he
      -- whatever stands ahead of k has come up
      have hup : ∀ j ∈ (ancs l).getD k [], j ≠ k → D j = true := fun j hj hjk => by
        have hcl' : closedD l (seen D k) := fun i o' ho' hi x hx hb => by
          by_cases hik : i = k
          · subst hik
            rw [hko] at ho'; cases ho'
            have := hdep x hx hb
            by_cases hxk : x.on = i
            · rw [hxk]; exact hself _ _
            · rw [hoth _ _ _ hxk]; exact this
          · rw [hoth _ _ _ hik] at hi
            have := hI.cl i o' ho' hi x hx hb
            by_cases hxk : x.on = k
            · rw [hxk]; exact hself _ _
            · rw [hoth _ _ _ hxk]; exact this
        have := hanc _ hcl' k j (hself _ _) hj
        rwa [hoth _ _ _ hjk] at this
      have hcl : closedD l (seen D k) := fun i o' ho' hi x hx hb => by
        by_cases hxk : x.on = k
        · rw [hxk]; exact hself _ _
        · rw [hoth _ _ _ hxk]
          by_cases hik : i = k
          · subst hik
            rw [hko] at ho'; cases ho'
            exact hdep x hx hb
          · rw [hoth _ _ _ hik] at hi
            exact hI.cl i o' ho' hi x hx hb
      have hst : s ∈ e.st := by
        rcases hlo s hI.hM with h | ⟨j, e', he', hm', ⟨h1, h2, h3⟩ | ⟨h1, h2⟩⟩
        · exact h
        · exact absurd ((hI.mem j e' he' hm').1 (hup j h2 (fun h => h1 h.symm))) h3
        · have := hanc _ hI.cl j k ((hI.mem j e' he' hm').2 h2) h1
          rw [hD] at this; cases this
      have hdp : DepH sp e s a w := fun j hj e' he' d hd => hI.f _ _ he' (hup j (han j hj).2 (han j hj).1) d hd
      have hnd : ∀ (j : Nat) (e' : FactH), sp[j]? = some e' → seen D k j = true → ∀ d, e.d = some d → d ∉ e'.dep := fun j e' he' hj d hd hm' => by
        obtain ⟨_, _, _, _, han', hde'⟩ := hrow j e' he'
        obtain ⟨i, hi, e2, he2, hd2⟩ := hde' d hm'
        obtain ⟨h1, h2⟩ := han' i hi
        have hik : i = k := Classical.byContradiction fun hne => (hd1 d hd).2 i e2 he2 (fun h => hne h.symm) hd2
        subst hik
        have hji : j ≠ i := fun h => h1 h.symm
        rw [hoth _ _ _ hji] at hj
        have := hanc _ hI.cl j i hj h2
        rw [hD] at this; cases this
      have hputg : ∀ (v : Value), GrD N a0 (dsH sp) (a.put e.d v) := fun v => by
        refine ⟨by rw [act_size]; exact hI.g.sz, by rw [act_defers]; exact hI.g.df, fun t ht => ?_⟩
        cases hd : e.d with
        | none => exact hI.g.kp t ht
        | some d => rw [act_ne (fun h => ht (by rw [h]; exact List.mem_filterMap.2 ⟨e, hmem, hd⟩))]; exact hI.g.kp t ht
      have hslot : ∀ (v : Value) (s' : Nat) (w' : World), (e.R s' a v w') → (∀ (j : Nat) (e' : FactH), sp[j]? = some e' → D j = true → ∀ d, e'.d = some d → e'.R s' a (a.eval (.tmp d)) w') →
          ∀ (j : Nat) (e' : FactH), sp[j]? = some e' → seen D k j = true → ∀ d, e'.d = some d → e'.R s' (a.put e.d v) ((a.put e.d v).eval (.tmp d)) w' := fun v s' w' hv hf j e' he' hj d hd => by
        have hpt : ∀ u, e'.R s' a u w' → e'.R s' (a.put e.d v) u w' := fun u hu => by
          cases hde : e.d with
          | none => exact hu
          | some d2 => exact hput e' (List.mem_of_getElem? he') s' a d2 v u w' (hnd j e' he' hj d2 hde) hu
        by_cases hjk : j = k
        · subst hjk
          rw [he] at he'; cases he'
          refine hpt _ ?_
          rw [hd, act_same (by rw [hI.g.sz]; exact (hd1 d hd).1)]; exact hv
        · refine hpt _ ?_
          rw [hoth _ _ _ hjk] at hj
          cases hde : e.d with
          | none => exact hf j e' he' hj d hd
          | some d2 =>
            rw [act_ne (fun h => (hd1 d2 hde).2 j e' he' (fun h2 => hjk h2.symm) (by rw [hd, h]))]
            exact hf j e' he' hj d hd
      have hdo : e.d = o.dst := hdst k e o he hko
      unfold ObH at hob
      cases hem : e.mv with
      | nil =>
        rw [hem] at hob
        refine hob s hst a w hI.g hI.hG hdp K (fun v w' hu hv => hK _ _ ⟨s, hputg v, hGU s w w' hI.hG hu, hI.hM, hcl, fun i e' he' hm' => ?_, hslot v s w' hv (fun j e' he' hj d hd => hRU e' (List.mem_of_getElem? he') s a _ w w' hu (hI.f j e' he' hj d hd))⟩)
        have hik : i ≠ k := fun h => by subst h; rw [he] at he'; cases he'; rw [hem] at hm'; cases hm'
        rw [hoth _ _ _ hik]
        exact hI.mem i e' he' hm'
      | cons m0 ms =>
        have hem' : e.mv.isEmpty = false := by rw [hem]; rfl
        rw [hem] at hob
        obtain ⟨m, hmm1, hmm2⟩ := (hmm hem').2 s hst
        obtain ⟨s1, s'⟩ := m
        dsimp only at hmm2
        subst hmm2
        obtain ⟨q1, q2, q3⟩ := hmv _ hmm1
        dsimp only at q1 q2 q3
        refine hob s1 s' (by rw [← hem]; exact hmm1) a w hI.g hI.hG hdp K (fun v w' ht hg' hv => hK _ _ ⟨s', hputg v, hg', q1, hcl, fun i e' he' hm' => ?_, hslot v _ w' hv (fun j e' he' hj d hd => hkeep e' (List.mem_of_getElem? he') _ _ a _ w w' (fun d' hd' => by rw [hd] at hd'; cases hd'; rfl) (fun hm' => (hI.mem j e' he' hm').1 hj) ht (hI.f j e' he' hj d hd))⟩)
        by_cases hik : i = k
        · subst hik
          rw [he] at he'; cases he'
          exact ⟨fun _ => q2, fun _ => hself _ _⟩
        · rw [hoth _ _ _ hik, hI.mem i e' he' hm']
          exact (q3 i e' he' (fun h => hik h.symm) hm').symm
  · obtain ⟨s, hI⟩ := hI
    have hsM : s = M ∨ s < M := by have := hI.hM; omega
    have hsM : s = M := by
      rcases hsM with h | h
      · exact h
      · exfalso
        have := hfin s h
        rw [List.any_eq_true] at this
        obtain ⟨j, hj, g⟩ := this
        rw [List.mem_range] at hj
        rw [List.getElem?_map, List.getElem?_eq_getElem hj] at g
        simp only [Option.map_some, FactH.row, Bool.and_eq_true, Bool.not_eq_true'] at g
        have h1 := (hI.mem j sp[j] (List.getElem?_eq_getElem hj) g.1).1 (hall j (by omega))
        rw [List.contains_iff_mem.2 h1] at g
        cases g.2
    subst hsM
    have hfill : a = fillF a0 (dsH sp) (fun d => a.eval (.tmp d)) := by
      refine act_ext (by rw [fillF_size, hN]; exact hI.g.sz) (by rw [fillF_defers]; exact hI.g.df) (fun t ht => ?_)
      rw [fillF_eval _ _ a0 t (by rw [hN, ← hI.g.sz]; exact ht)]
      by_cases h1 : t ∈ dsH sp
      · simp [h1]
      · simp [h1, hI.g.kp t h1]
    rw [hfill]
    refine hend _ w hI.hG (fun e he d hd => ?_)
    rw [← hfill]
    obtain ⟨j, hj⟩ := List.mem_iff_getElem?.1 he
    exact hI.f j e hj (hall j (by have := (List.getElem?_eq_some_iff.1 hj).1; omega)) d hd
end
end Go.Proofs.YtmbjalcphdggnaaDoor
