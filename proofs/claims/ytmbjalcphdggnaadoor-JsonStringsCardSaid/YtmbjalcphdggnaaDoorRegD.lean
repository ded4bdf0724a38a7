/- A region that draws its order and whose memory turns in stages: the operations that turn memory follow one another by the region's own edges; a fact for each operation's slot, stage by stage. -/
import Derived.Test.YtmbjalcphdggnaaDoorRegion3
namespace Go.Proofs.YtmbjalcphdggnaaDoor
set_option linter.unusedSimpArgs false
set_option linter.unusedVariables false
open Go.RowKit
/-- Of one operation: the slot that it writes (if any), does it turn memory, in which stages it may be carried out, what is known of its value in each stage. -/
structure FactG where
  d : Option Nat
  mem : Bool
  lo : Nat
  hi : Nat
  R : Nat → Value → World → Prop
section
variable {P : Program} {Q : Exit → Act → World → Prop}
def closedD (l : List Oper) (D : Nat → Bool) : Prop := ∀ j o, l[j]? = some o → D j = true → ∀ x ∈ o.after, Region.binds .any x = true → D x.on = true
/-- An operation and whatever stands ahead of it. -/
def ancNew (ms : List (List Nat)) (o : Oper) : List Nat := (o.after.toList.filter (fun x => Region.binds .any x)).foldl (fun m x => m ++ (ms.getD x.on []).filter (fun j => !m.contains j)) [ms.length]
def ancs (l : List Oper) : List (List Nat) := l.foldl (fun ms o => ms ++ [ancNew ms o]) []
def AncOk (D : Nat → Bool) (ms : List (List Nat)) : Prop := ∀ (i : Nat) (m : List Nat), ms[i]? = some m → D i = true → ∀ j ∈ m, D j = true
theorem ancFold_ok {D : Nat → Bool} {ms : List (List Nat)} (h : AncOk D ms) : ∀ (xs : List _) (m : List Nat), (∀ j ∈ m, D j = true) → (∀ x ∈ xs, D (x : Go.Edge).on = true) →
    ∀ j ∈ xs.foldl (fun m x => m ++ (ms.getD x.on []).filter (fun j => !m.contains j)) m, D j = true
  | [], m, hm, _ => hm
  | x :: xs, m, hm, hx => by
    refine ancFold_ok h xs _ (fun j hj => ?_) (fun y hy => hx y (List.mem_cons_of_mem _ hy))
    rcases List.mem_append.1 hj with hj | hj
    · exact hm j hj
    · have hj' := (List.mem_filter.1 hj).1
      rw [List.getD_eq_getElem?_getD] at hj'
      cases e : ms[x.on]? with
      | none => rw [e] at hj'; simp at hj'
      | some m' => rw [e] at hj'; exact h x.on m' e (hx x (by simp)) j (by simpa using hj')
theorem ancs_ok_aux {l : List Oper} {D : Nat → Bool} (hc : closedD l D) : ∀ (rest : List Oper) (ms : List (List Nat)), AncOk D ms → (∀ (j : Nat) (o : Oper), rest[j]? = some o → l[ms.length + j]? = some o) →
    AncOk D (rest.foldl (fun ms o => ms ++ [ancNew ms o]) ms)
  | [], ms, h, _ => h
  | o :: rest, ms, h, hl => by
    refine ancs_ok_aux hc rest _ (fun i m hi hD => ?_) (fun j o' hj => ?_)
    · by_cases hlt : i < ms.length
      · rw [List.getElem?_append_left hlt] at hi
        exact h i m hi hD
      · have hi' : i = ms.length := by
          have := (List.getElem?_eq_some_iff.1 hi).1
          simp at this; omega
        subst hi'
        simp at hi
        subst hi
        have ho : l[ms.length]? = some o := by simpa using hl 0 o rfl
        refine ancFold_ok h _ _ (fun j hj => ?_) (fun x hx => ?_)
        · simp at hj; subst hj; exact hD
        · have := List.mem_filter.1 hx
          exact hc _ o ho hD x (by simpa using this.1) this.2
    · have := hl (j + 1) o' (by simpa using hj)
      rw [List.length_append, List.length_singleton, show ms.length + 1 + j = ms.length + (j + 1) by omega]
      exact this
theorem ancs_ok {l : List Oper} {D : Nat → Bool} (hc : closedD l D) : AncOk D (ancs l) :=
  ancs_ok_aux hc l [] (fun i m h => by simp at h) (fun j o h => by simpa using h)
structure Row4 where
  d : Option Nat
  mem : Bool
  lo : Nat
  hi : Nat
def FactG.row (e : FactG) : Row4 := ⟨e.d, e.mem, e.lo, e.hi⟩
/-- Does each operation come up in its stages alone? -/
def stageOk (N M : Nat) (rs : List Row4) (l : List Oper) : Bool :=
  decide (l.length = rs.length) && l.all (fun o => o.guard.isNone) && (M == 0 || rs.any (fun r => r.mem && r.lo + 1 == M)) &&
  (rs.zip l).all (fun x => x.1.d == x.2.dst) &&
  (List.range rs.length).all (fun i => match rs[i]? with
    | none => false
    | some r =>
      (match r.d with | none => true | some d => decide (d < N) && (List.range rs.length).all fun j => i == j || (match rs[j]? with | some r' => r'.d != some d | none => true)) &&
      (r.lo == 0 || (List.range rs.length).any fun j => (match rs[j]? with | some r' => r'.mem && r'.lo + 1 == r.lo | none => false) && ((ancs l).getD i []).contains j) &&
      (r.hi == M || (List.range rs.length).any fun j => (match rs[j]? with | some r' => r'.mem && r'.lo == r.hi | none => false) && ((ancs l).getD j []).contains i) &&
      (!r.mem || (r.lo == r.hi && decide (r.hi < M) && (List.range rs.length).all fun j => i == j || (match rs[j]? with | some r' => !r'.mem || r'.lo != r.lo | none => true))))
structure GrD (N : Nat) (a0 : Act) (ds : List Nat) (a : Act) : Prop where
  sz : a.tmps.size = N
  df : a.defers = a0.defers
  kp : ∀ t, t ∉ ds → a.eval (.tmp t) = a0.eval (.tmp t)
def dsG (sp : List FactG) : List Nat := sp.filterMap (·.d)
def DepG (sp : List FactG) (o : Oper) (s : Nat) (a : Act) (w : World) : Prop := ∀ x ∈ o.after, Region.binds .any x = true → ∀ e' : FactG, sp[x.on]? = some e' → ∀ d, e'.d = some d → e'.R s (a.eval (.tmp d)) w
def ObG (P : Program) (Q : Exit → Act → World → Prop) (N : Nat) (a0 : Act) (ds : List Nat) (G : Nat → World → Prop) (T : Nat → World → World → Prop) (sp : List FactG) (o : Oper) (e : FactG) : Prop :=
  match e.mem with
  | false => ∀ s, e.lo ≤ s → s ≤ e.hi → ∀ a w, GrD N a0 ds a → G s w → DepG sp o s a w → ∀ K : Act → World → Prop, (∀ v, e.R s v w → K (a.put e.d v) w) → o.wp P a w K Q
  | true => ∀ a w, GrD N a0 ds a → G e.lo w → DepG sp o e.lo a w → ∀ K : Act → World → Prop, (∀ v w', T e.lo w w' → G (e.lo + 1) w' → e.R (e.lo + 1) v w' → K (a.put e.d v) w') → o.wp P a w K Q
def ObsG (P : Program) (Q : Exit → Act → World → Prop) (N : Nat) (a0 : Act) (ds : List Nat) (G : Nat → World → Prop) (T : Nat → World → World → Prop) (sp : List FactG) : List Oper → List FactG → Prop
  | o :: os, e :: es => ObG P Q N a0 ds G T sp o e ∧ ObsG P Q N a0 ds G T sp os es
  | [], [] => True
  | _, _ => False
theorem ObsG.get {N : Nat} {a0 : Act} {ds : List Nat} {G : Nat → World → Prop} {T : Nat → World → World → Prop} {sp : List FactG} : ∀ (os : List Oper) (es : List FactG), ObsG P Q N a0 ds G T sp os es → ∀ (j : Nat) (o : Oper), os[j]? = some o →
    ∃ e : FactG, es[j]? = some e ∧ ObG P Q N a0 ds G T sp o e
  | o' :: os, e' :: es, h, 0, o, ho => by simp at ho; subst ho; exact ⟨e', rfl, h.1⟩
  | o' :: os, e' :: es, h, j + 1, o, ho => by
    obtain ⟨e, h1, h2⟩ := ObsG.get os es h.2 j o (by simpa using ho)
    exact ⟨e, by simpa using h1, h2⟩
  | [], [], _, j, o, ho => by simp at ho
  | _ :: _, [], h, _, _, _ => by simp [ObsG] at h
  | [], _ :: _, h, _, _, _ => by simp [ObsG] at h
structure InvG (N M : Nat) (a0 : Act) (G : Nat → World → Prop) (sp : List FactG) (l : List Oper) (D : Nat → Bool) (a : Act) (w : World) (s : Nat) : Prop where
  g : GrD N a0 (dsG sp) a
  hG : G s w
  hM : s ≤ M
  cl : closedD l D
  mem : ∀ (i : Nat) (e : FactG), sp[i]? = some e → e.mem = true → (D i = true ↔ e.lo < s)
  f : ∀ (j : Nat) (e : FactG), sp[j]? = some e → D j = true → ∀ d, e.d = some d → e.R s (a.eval (.tmp d)) w
/-- **A REGION THAT DRAWS ITS ORDER, STAGE BY STAGE.** -/
theorem wp_region_stage {id : Nat} {a0 : Act} {w0 : World} {l : List Oper} (hm : P.follows .mixedOrders = true) (hB : edgesBack l = true) (N M : Nat) (sp : List FactG) (G : Nat → World → Prop) (T : Nat → World → World → Prop)
    (ds : List Nat) (hds : dsG sp = ds) (hok : stageOk N M (sp.map FactG.row) l = true) (hN : a0.tmps.size = N)
    (h0 : G 0 w0.drew)
    (hkeep : ∀ e ∈ sp, ∀ s v w w', (e.mem = true → e.lo < s) → s < M → T s w w' → e.R s v w → e.R (s + 1) v w')
    (hs : ObsG P Q N a0 ds G T sp l sp)
    (hend : ∀ (f : Nat → Value) w, G M w → (∀ e ∈ sp, ∀ d, e.d = some d → e.R M (f d) w) → Q .normal (fillF a0 ds f) w) : (Code.region id l.toArray true).wp P Q a0 w0 := by
  subst hds
  unfold stageOk at hok
  simp only [Bool.and_eq_true, List.all_eq_true, decide_eq_true_eq, List.length_map, List.mem_range] at hok
  obtain ⟨⟨⟨⟨h4, hgd⟩, hlast⟩, hzip⟩, hks⟩ := hok
  have hself : ∀ (D : Nat → Bool) (i : Nat), seen D i i = true := fun D i => by simp [seen]
  have hoth : ∀ (D : Nat → Bool) (i j : Nat), j ≠ i → seen D i j = D j := fun D i j h => by simp [seen, h]
  have hdst : ∀ (i : Nat) (e : FactG) (o : Oper), sp[i]? = some e → l[i]? = some o → e.d = o.dst := fun i e o he ho => by
    have := hzip (e.row, o) (by
      refine List.mem_of_getElem? (i := i) ?_
      rw [List.getElem?_zip_eq_some]
      exact ⟨by rw [List.getElem?_map, he]; rfl, ho⟩)
    simpa [FactG.row] using this
  have hrow : ∀ (i : Nat) (e : FactG), sp[i]? = some e →
      (∀ d, e.d = some d → d < N ∧ ∀ (j : Nat) (e' : FactG), sp[j]? = some e' → i ≠ j → e'.d ≠ some d) ∧
      (e.lo = 0 ∨ ∃ (j : Nat) (e' : FactG), sp[j]? = some e' ∧ e'.mem = true ∧ e'.lo + 1 = e.lo ∧ j ∈ (ancs l).getD i []) ∧
      (e.hi = M ∨ ∃ (j : Nat) (e' : FactG), sp[j]? = some e' ∧ e'.mem = true ∧ e'.lo = e.hi ∧ i ∈ (ancs l).getD j []) ∧
      (e.mem = true → e.lo = e.hi ∧ e.hi < M ∧ ∀ (j : Nat) (e' : FactG), sp[j]? = some e' → i ≠ j → e'.mem = true → e'.lo ≠ e.lo) := fun i e he => by
    have hi := (List.getElem?_eq_some_iff.1 he).1
    have h := hks i hi
    rw [List.getElem?_map, he] at h
    simp only [Option.map_some, Bool.and_eq_true, Bool.or_eq_true, beq_iff_eq, List.any_eq_true, List.mem_range, List.contains_iff_mem] at h
    obtain ⟨⟨⟨g1, g2⟩, g3⟩, g4⟩ := h
    refine ⟨fun d hd => ?_, ?_, ?_, fun hmm => ?_⟩
    · rw [show (e.row).d = some d from hd] at g1
      simp only [Bool.and_eq_true, decide_eq_true_eq, List.all_eq_true, List.mem_range] at g1
      refine ⟨g1.1, fun j e' he' hij hd' => ?_⟩
      have := g1.2 j (List.getElem?_eq_some_iff.1 he').1
      rw [List.getElem?_map, he'] at this
      simp [FactG.row, hd', hij] at this
    · rcases g2 with g2 | ⟨j, hj, g2, g2'⟩
      · exact .inl g2
      · rw [List.getElem?_map, List.getElem?_eq_getElem hj] at g2
        simp [FactG.row] at g2
        exact .inr ⟨j, sp[j], List.getElem?_eq_getElem hj, g2.1, g2.2, g2'⟩
    · rcases g3 with g3 | ⟨j, hj, g3, g3'⟩
      · exact .inl g3
      · rw [List.getElem?_map, List.getElem?_eq_getElem hj] at g3
        simp [FactG.row] at g3
        exact .inr ⟨j, sp[j], List.getElem?_eq_getElem hj, g3.1, g3.2, g3'⟩
    · simp only [FactG.row, hmm, Bool.not_true, Bool.false_eq_true, false_or, decide_eq_true_eq, List.all_eq_true, List.mem_range] at g4
      refine ⟨g4.1.1, g4.1.2, fun j e' he' hij hm' hlo => ?_⟩
      have := g4.2 j (List.getElem?_eq_some_iff.1 he').1
      rw [List.getElem?_map, he'] at this
      simp [FactG.row, hm', hlo, hij] at this
  have hanc : ∀ (D : Nat → Bool), closedD l D → ∀ i j, D i = true → j ∈ (ancs l).getD i [] → D j = true := fun D hc i j hi hj => by
    rw [List.getD_eq_getElem?_getD] at hj
    cases e : (ancs l)[i]? with
    | none => rw [e] at hj; simp at hj
    | some m => rw [e] at hj; exact ancs_ok hc i m e hi j (by simpa using hj)
  refine wp_region_inv hm hB (fun D a w => ∃ s, InvG N M a0 G sp l D a w s) ⟨0, ⟨hN, rfl, fun _ _ => rfl⟩, h0, Nat.zero_le _, fun _ _ _ h => (by cases h), fun _ _ _ _ => ⟨fun h => (by cases h), fun h => absurd h (Nat.not_lt_zero _)⟩, fun _ _ _ h => (by cases h)⟩ ?_ (fun D a w hI hall => ?_)
  · suffices ∀ (l' : List Oper) (k : Nat), (∀ (j : Nat) (o : Oper), l'[j]? = some o → l[k + j]? = some o) → Steps1 P l.toArray Q (fun D a w => ∃ s, InvG N M a0 G sp l D a w s) l' k from this l 0 (fun j o h => by simpa using h)
    intro l'
    induction l' with
    | nil => intro k _; trivial
    | cons o l' ih =>
      intro k hk
      refine ⟨?_, ih (k + 1) (fun j o' h => by have := hk (j + 1) o' (by simpa using h); rw [show k + 1 + j = k + (j + 1) by omega]; exact this)⟩
      rintro D a w ⟨s, hI⟩ hD hdep K hK
      have hko : l[k]? = some o := by simpa using hk 0 o rfl
      obtain ⟨e, he, hob⟩ := ObsG.get l sp hs k o hko
      have hgo : o.guard = none := by have := hgd o (List.mem_of_getElem? hko); simpa using this
      rw [if_pos (by simp [Region.wanted, hgo])]
      obtain ⟨hd1, hlo, hhi, hmm⟩ := hrow k e he
      have hmem : e ∈ sp := List.mem_of_getElem? he
      -- whatever stands ahead of k has come up
      have hup : ∀ j ∈ (ancs l).getD k [], j ≠ k → D j = true := fun j hj hjk => by
        have hcl' : closedD l (seen D k) := fun i o' ho' hi x hx hb => by
          by_cases hik : i = k
          · subst hik
            rw [hko] at ho'; cases ho'
            have := hdep x hx hb
            by_cases hxk : x.on = i
            · rw [hxk]; exact hself _ _
            · rw [hoth _ _ _ hxk]; exact this
          · rw [hoth _ _ _ hik] at hi
            have := hI.cl i o' ho' hi x hx hb
            by_cases hxk : x.on = k
            · rw [hxk]; exact hself _ _
            · rw [hoth _ _ _ hxk]; exact this
        have := hanc _ hcl' k j (hself _ _) hj
        rwa [hoth _ _ _ hjk] at this
      have hcl : closedD l (seen D k) := fun i o' ho' hi x hx hb => by
        by_cases hxk : x.on = k
        · rw [hxk]; exact hself _ _
        · rw [hoth _ _ _ hxk]
          by_cases hik : i = k
          · subst hik
            rw [hko] at ho'; cases ho'
            exact hdep x hx hb
          · rw [hoth _ _ _ hik] at hi
            exact hI.cl i o' ho' hi x hx hb
      have hsl : e.lo ≤ s := by
        rcases hlo with h | ⟨j, e', he', hm', hl', hj⟩
        · omega
        · have hjk : j ≠ k := fun h => by
            subst h; rw [he] at he'; cases he'; omega
          have := (hI.mem j e' he' hm').1 (hup j hj hjk)
          omega
      have hsh : s ≤ e.hi := by
        rcases hhi with h | ⟨j, e', he', hm', hl', hj⟩
        · rw [h]; exact hI.hM
        · have hjD : D j = false := by
            cases h : D j
            · rfl
            · have := hanc _ hI.cl j k h hj
              rw [hD] at this; cases this
          have : ¬ e'.lo < s := fun h => by rw [(hI.mem j e' he' hm').2 h] at hjD; cases hjD
          omega
      have hdp : DepG sp o s a w := fun x hx hb e' he' d hd => hI.f _ _ he' (hdep x hx hb) d hd
      have hput : ∀ (v : Value), GrD N a0 (dsG sp) (a.put e.d v) := fun v => by
        refine ⟨by rw [act_size]; exact hI.g.sz, by rw [act_defers]; exact hI.g.df, fun t ht => ?_⟩
        cases hd : e.d with
        | none => exact hI.g.kp t ht
        | some d => rw [act_ne (fun h => ht (by rw [h]; exact List.mem_filterMap.2 ⟨e, hmem, hd⟩))]; exact hI.g.kp t ht
      have hslot : ∀ (v : Value) (s' : Nat) (w' : World), (e.R s' v w') → (∀ (j : Nat) (e' : FactG), sp[j]? = some e' → D j = true → ∀ d, e'.d = some d → e'.R s' (a.eval (.tmp d)) w') →
          ∀ (j : Nat) (e' : FactG), sp[j]? = some e' → seen D k j = true → ∀ d, e'.d = some d → e'.R s' ((a.put e.d v).eval (.tmp d)) w' := fun v s' w' hv hf j e' he' hj d hd => by
        by_cases hjk : j = k
        · subst hjk
          rw [he] at he'; cases he'
          rw [hd, act_same (by rw [hI.g.sz]; exact (hd1 d hd).1)]; exact hv
        · rw [hoth _ _ _ hjk] at hj
          cases hde : e.d with
          | none => exact hf j e' he' hj d hd
          | some d2 =>
            rw [act_ne (fun h => (hd1 d2 hde).2 j e' he' (fun h2 => hjk h2.symm) (by rw [hd, h]))]
            exact hf j e' he' hj d hd
      have hdo : e.d = o.dst := hdst k e o he hko
      unfold ObG at hob
      cases hem : e.mem with
      | false =>
        rw [hem] at hob
        refine hob s hsl hsh a w hI.g hI.hG hdp K (fun v hv => hK _ _ ⟨s, hput v, hI.hG, hI.hM, hcl, fun i e' he' hm' => ?_, hslot v s w hv hI.f⟩)
        have hik : i ≠ k := fun h => by subst h; rw [he] at he'; cases he'; rw [hem] at hm'; cases hm'
        rw [hoth _ _ _ hik]
        exact hI.mem i e' he' hm'
      | true =>
        rw [hem] at hob
        obtain ⟨m1, m2, m3⟩ := hmm hem
        have hse : s = e.lo := by omega
        subst hse
        refine hob a w hI.g hI.hG hdp K (fun v w' ht hg' hv => hK _ _ ⟨e.lo + 1, hput v, hg', by omega, hcl, fun i e' he' hm' => ?_, hslot v _ w' hv (fun j e' he' hj d hd => hkeep e' (List.mem_of_getElem? he') _ _ w w' (fun hm' => (hI.mem j e' he' hm').1 hj) (by omega) ht (hI.f j e' he' hj d hd))⟩)
        by_cases hik : i = k
        · subst hik
          rw [he] at he'; cases he'
          exact ⟨fun _ => by omega, fun _ => hself _ _⟩
        · rw [hoth _ _ _ hik, hI.mem i e' he' hm']
          have := m3 i e' he' (fun h => hik h.symm) hm'
          omega
  · obtain ⟨s, hI⟩ := hI
    have hsM : s = M ∨ s < M := by have := hI.hM; omega
    have hsM : s = M := by
      rcases hsM with h | h
      · exact h
      · exfalso
        simp only [Bool.or_eq_true, beq_iff_eq, List.any_eq_true, Bool.and_eq_true, List.mem_map] at hlast
        rcases hlast with h2 | ⟨r, ⟨e, he, rfl⟩, hm', hl'⟩
        · omega
        · obtain ⟨j, hj⟩ := List.mem_iff_getElem?.1 he
          have hl2 : e.lo + 1 = M := hl'
          have := (hI.mem j e hj hm').1 (hall j (by have := (List.getElem?_eq_some_iff.1 hj).1; omega))
          omega
    subst hsM
    have hfill : a = fillF a0 (dsG sp) (fun d => a.eval (.tmp d)) := by
      refine act_ext (by rw [fillF_size, hN]; exact hI.g.sz) (by rw [fillF_defers]; exact hI.g.df) (fun t ht => ?_)
      rw [fillF_eval _ _ a0 t (by rw [hN, ← hI.g.sz]; exact ht)]
      by_cases h1 : t ∈ dsG sp
      · simp [h1]
      · simp [h1, hI.g.kp t h1]
    rw [hfill]
    refine hend _ w hI.hG (fun e he d hd => ?_)
    obtain ⟨j, hj⟩ := List.mem_iff_getElem?.1 he
    exact hI.f j e hj (hall j (by have := (List.getElem?_eq_some_iff.1 hj).1; omega)) d hd
end
end Go.Proofs.YtmbjalcphdggnaaDoor
