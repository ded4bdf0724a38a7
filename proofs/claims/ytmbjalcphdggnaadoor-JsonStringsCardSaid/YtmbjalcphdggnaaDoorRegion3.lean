/- A region that draws its order and ends with one store: a fact for each operation ahead of the store, and one behind it. -/
import Derived.Test.YtmbjalcphdggnaaDoorRegion
namespace Go.Proofs.YtmbjalcphdggnaaDoor
set_option linter.unusedSimpArgs false
set_option linter.unusedVariables false
open Go.RowKit
/-- Of one operation: its kind (0: ahead of the store; 1: ahead of it or behind; 2: the store), its slot, what is known of it ahead of the store, and behind. -/
structure Fact3 where
  k : Nat
  d : Nat
  R : Value → World → Prop
  R' : Value → World → Prop
section
variable {P : Program} {Q : Exit → Act → World → Prop}
structure Gr (N : Nat) (a0 : Act) (ds : List Nat) (a : Act) : Prop where
  sz : a.tmps.size = N
  df : a.defers = []
  kp : ∀ t, t ∉ ds → a.eval (.tmp t) = a0.eval (.tmp t)
def Dep (sp : List Fact3) (o : Oper) (a : Act) (w : World) : Prop := ∀ x ∈ o.after, Region.binds .any x = true → ∀ e' : Fact3, sp[x.on]? = some e' → decide (e'.k < 2) = true → e'.R (a.eval (.tmp e'.d)) w
def Dep' (sp : List Fact3) (o : Oper) (a : Act) (w : World) : Prop := ∀ x ∈ o.after, Region.binds .any x = true → ∀ e' : Fact3, sp[x.on]? = some e' → decide (e'.k < 2) = true → e'.R' (a.eval (.tmp e'.d)) w
def ObA (P : Program) (Q : Exit → Act → World → Prop) (N : Nat) (a0 : Act) (ds : List Nat) (w0 : World) (sp : List Fact3) (o : Oper) (e : Fact3) : Prop :=
  ∀ a w, Gr N a0 ds a → Below w0.heap.size w0 w → Dep sp o a w → ∀ K : Act → World → Prop, (∀ v w', Below w.heap.size w w' → e.R v w' → K (a.put (some e.d) v) w') → o.wp P a w K Q
def ObB (P : Program) (Q : Exit → Act → World → Prop) (N : Nat) (a0 : Act) (ds : List Nat) (sp : List Fact3) (o : Oper) (e : Fact3) : Prop :=
  ∀ a w, Gr N a0 ds a → Dep' sp o a w → ∀ K : Act → World → Prop, (∀ v, e.R' v w → K (a.put (some e.d) v) w) → o.wp P a w K Q
def ObC (P : Program) (Q : Exit → Act → World → Prop) (N : Nat) (a0 : Act) (ds : List Nat) (w0 : World) (sp : List Fact3) (St : Act → World → World → Prop) (o : Oper) : Prop :=
  ∀ a w, Gr N a0 ds a → Below w0.heap.size w0 w → Dep sp o a w → ∀ K : Act → World → Prop, (∀ w', St a w w' → K a w') → o.wp P a w K Q
def Ob (P : Program) (Q : Exit → Act → World → Prop) (N : Nat) (a0 : Act) (ds : List Nat) (w0 : World) (sp : List Fact3) (St : Act → World → World → Prop) (o : Oper) (e : Fact3) : Prop :=
  match e.k with
  | 0 => ObA P Q N a0 ds w0 sp o e
  | 1 => ObA P Q N a0 ds w0 sp o e ∧ ObB P Q N a0 ds sp o e
  | _ => ObC P Q N a0 ds w0 sp St o
def Obs (P : Program) (Q : Exit → Act → World → Prop) (N : Nat) (a0 : Act) (ds : List Nat) (w0 : World) (sp : List Fact3) (St : Act → World → World → Prop) : List Oper → List Fact3 → Prop
  | o :: os, e :: es => Ob P Q N a0 ds w0 sp St o e ∧ Obs P Q N a0 ds w0 sp St os es
  | [], [] => True
  | _, _ => False
theorem Obs.get {N : Nat} {a0 : Act} {ds : List Nat} {w0 : World} {sp : List Fact3} {St : Act → World → World → Prop} : ∀ (os : List Oper) (es : List Fact3), Obs P Q N a0 ds w0 sp St os es → ∀ (j : Nat) (o : Oper), os[j]? = some o → ∃ e : Fact3, es[j]? = some e ∧ Ob P Q N a0 ds w0 sp St o e
  | o' :: os, e' :: es, h, 0, o, ho => by simp at ho; subst ho; exact ⟨e', rfl, h.1⟩
  | o' :: os, e' :: es, h, j + 1, o, ho => by
    obtain ⟨e, h1, h2⟩ := Obs.get os es h.2 j o (by simpa using ho)
    exact ⟨e, by simpa using h1, h2⟩
  | [], [], _, j, o, ho => by simp at ho
  | _ :: _, [], h, _, _, _ => by simp [Obs] at h
  | [], _ :: _, h, _, _, _ => by simp [Obs] at h
/-- Kinds and slots: (kind, slot) in the operations' order. The store writes no slot; each other one its own; what is of kind 0 is bound ahead of the store. -/
def okS (N : Nat) (si : Nat) (ks : List (Nat × Nat)) (l : List Oper) : Bool :=
  decide (l.length = ks.length) && l.all (fun o => o.guard.isNone) &&
  (List.range ks.length).all (fun i => match ks[i]? with
    | some (k, d) => (i == si) == (decide (2 ≤ k)) && (i == si || decide (d < N)) && (k != 0 || (match l[si]? with | some os => os.after.any (fun x => x.on == i && Region.binds .any x) | none => false)) &&
      (List.range ks.length).all (fun j => i == j || i == si || j == si || (match ks[j]? with | some (_, d') => d != d' | none => true))
    | none => false) && decide (si < l.length)
def dsOf (sp : List Fact3) : List Nat := (sp.filter (fun e => decide (e.k < 2))).map (·.d)
structure InvS (N : Nat) (a0 : Act) (w0 : World) (sp : List Fact3) (l : List Oper) (si : Nat) (D : Nat → Bool) (a : Act) (w : World) : Prop where
  g : Gr N a0 (dsOf sp) a
  pre : D si = false → Below w0.heap.size w0 w ∧ ∀ (j : Nat) (e : Fact3), sp[j]? = some e → D j = true → j ≠ si → e.R (a.eval (.tmp e.d)) w
  post : D si = true → (∀ os, l[si]? = some os → ∀ x ∈ os.after, Region.binds .any x = true → D x.on = true) ∧ ∀ (j : Nat) (e : Fact3), sp[j]? = some e → D j = true → j ≠ si → e.R' (a.eval (.tmp e.d)) w
/-- **A REGION THAT DRAWS ITS ORDER, WITH ONE STORE.** -/
theorem wp_region_store {id : Nat} {a0 : Act} {w0 : World} {l : List Oper} (hm : P.follows .mixedOrders = true) (hB : edgesBack l = true) (N si : Nat) (sp : List Fact3) (St : Act → World → World → Prop)
    (ds : List Nat) (hds : dsOf sp = ds) (hok : okS N si (sp.map fun e => (e.k, e.d)) l = true) (hN : a0.tmps.size = N) (hdf : a0.defers = [])
    (hmono : ∀ e ∈ sp, e.k < 2 → ∀ v w w', Below w0.heap.size w0 w → Below w.heap.size w w' → e.R v w → e.R v w')
    (hturn : ∀ e ∈ sp, e.k < 2 → ∀ a w w', St a w w' → e.R (a.eval (.tmp e.d)) w → e.R' (a.eval (.tmp e.d)) w')
    (hs : Obs P Q N a0 ds w0 sp St l sp)
    (hend : ∀ (f : Nat → Value) w, (∀ e ∈ sp, e.k < 2 → e.R' (f e.d) w) → Q .normal (fillF a0 ds f) w) : (Code.region id l.toArray true).wp P Q a0 w0 := by
  subst hds
  unfold okS at hok
  simp only [Bool.and_eq_true, List.all_eq_true, decide_eq_true_eq, List.length_map, List.mem_range] at hok
  obtain ⟨⟨⟨h4, hgd⟩, hks⟩, hsi⟩ := hok
  have hkind : ∀ (i : Nat) (e : Fact3), sp[i]? = some e → (i = si ↔ 2 ≤ e.k) ∧ (i ≠ si → e.d < N) ∧ (e.k = 0 → ∀ os, l[si]? = some os → ∃ x ∈ os.after, x.on = i ∧ Region.binds .any x = true) ∧
      (∀ (j : Nat) (e' : Fact3), sp[j]? = some e' → i ≠ j → i ≠ si → j ≠ si → e.d ≠ e'.d) := fun i e he => by
    have hi := (List.getElem?_eq_some_iff.1 he).1
    have h := hks i hi
    rw [List.getElem?_map, he] at h
    simp only [Option.map_some, Bool.and_eq_true, List.all_eq_true, List.mem_range, Bool.or_eq_true, beq_iff_eq, bne_iff_ne, ne_eq, decide_eq_true_eq] at h
    obtain ⟨⟨⟨g1, g2⟩, g3⟩, g4⟩ := h
    refine ⟨?_, fun hne => g2.resolve_left hne, fun hk os hos => ?_, fun j e' he' hij his hjs => ?_⟩
    · rw [Bool.eq_iff_iff] at g1; simpa using g1
    · rcases g3 with g3 | g3
      · exact absurd hk g3
      · rw [hos] at g3
        simp only [Array.any_eq_true', Bool.and_eq_true, beq_iff_eq] at g3
        obtain ⟨x, hx, h1, h2⟩ := g3
        exact ⟨x, hx, h1, h2⟩
    · have hj := (List.getElem?_eq_some_iff.1 he').1
      have := g4 j hj
      rw [List.getElem?_map, he'] at this
      simp only [Option.map_some, bne_iff_ne, ne_eq] at this
      rcases this with ((h | h) | h) | h
      · exact absurd h hij
      · exact absurd h his
      · exact absurd h hjs
      · exact h
  have hmem : ∀ (i : Nat) (e : Fact3), sp[i]? = some e → i ≠ si → e.k < 2 ∧ e.d ∈ dsOf sp := fun i e he hne => by
    have hk : e.k < 2 := by have := (hkind i e he).1; omega
    exact ⟨hk, List.mem_map.2 ⟨e, List.mem_filter.2 ⟨List.mem_of_getElem? he, by simpa using hk⟩, rfl⟩⟩
  refine wp_region_inv hm hB (InvS N a0 w0 sp l si) ⟨⟨hN, hdf, fun _ _ => rfl⟩, fun _ => ⟨(Below.refl _ _).drew, (fun j e _ h => by cases h)⟩, (fun h => by cases h)⟩ ?_ (fun D a w hI hall => ?_)
  · suffices ∀ (l' : List Oper) (k : Nat), (∀ (j : Nat) (o : Oper), l'[j]? = some o → l[k + j]? = some o) → Steps1 P l.toArray Q (InvS N a0 w0 sp l si) l' k from this l 0 (fun j o h => by simpa using h)
    intro l'
    induction l' with
    | nil => intro k _; trivial
    | cons o l' ih =>
      intro k hk
      refine ⟨?_, ih (k + 1) (fun j o' h => by have := hk (j + 1) o' (by simpa using h); rw [show k + 1 + j = k + (j + 1) by omega]; exact this)⟩
      intro D a w hI hD hdep K hK
      have hko : l[k]? = some o := by simpa using hk 0 o rfl
      obtain ⟨e, he, hob⟩ := Obs.get l sp hs k o hko
      have hgo : o.guard = none := by have := hgd o (List.mem_of_getElem? hko); simpa using this
      rw [if_pos (by simp [Region.wanted, hgo])]
      have hself : ∀ (D : Nat → Bool) (i : Nat), seen D i i = true := fun D i => by simp [seen]
      have hoth : ∀ (D : Nat → Bool) (i j : Nat), j ≠ i → seen D i j = D j := fun D i j h => by simp [seen, h]
      by_cases hks' : k = si
      · -- the store
        subst hks'
        obtain ⟨hb0, hf⟩ := hI.pre hD
        have hk2 : 2 ≤ e.k := ((hkind k e he).1).1 rfl
        have hC : ObC P Q N a0 (dsOf sp) w0 sp St o := by
          unfold Ob at hob
          match hek : e.k, hob with
          | 0, _ => omega
          | 1, _ => omega
          | n + 2, hob => exact hob
        refine hC a w hI.g hb0 (fun x hx hb e' he' _ => hf x.on e' he' (hdep x hx hb) (fun hc => by have := hdep x hx hb; rw [hc, hD] at this; cases this)) K (fun w' hst' => hK _ _ ⟨hI.g, (fun h => by rw [hself] at h; cases h), fun _ => ⟨fun os hos x hx hb => ?_, fun j e' he' hj hne => ?_⟩⟩)
        · rw [hko] at hos; cases hos
          have h1 := hdep x hx hb
          by_cases hxk : x.on = k
          · rw [hxk]; exact hself _ _
          · rw [hoth _ _ _ hxk]; exact h1
        · rw [hoth _ _ _ hne] at hj
          exact hturn e' (List.mem_of_getElem? he') (hmem j e' he' hne).1 a w w' hst' (hf j e' he' hj hne)
      · obtain ⟨hk2, hdm⟩ := hmem k e he hks'
        have hsz : e.d < a.tmps.size := by rw [hI.g.sz]; exact (hkind k e he).2.1 hks'
        have hgr : ∀ v, Gr N a0 (dsOf sp) (a.put (some e.d) v) := fun v =>
          ⟨by rw [act_size]; exact hI.g.sz, by rw [act_defers]; exact hI.g.df, fun t ht => by rw [act_ne (fun h => ht (by rw [h]; exact hdm))]; exact hI.g.kp t ht⟩
        have hslot : ∀ v (j : Nat) (e' : Fact3), sp[j]? = some e' → j ≠ k → j ≠ si → (a.put (some e.d) v).eval (.tmp e'.d) = a.eval (.tmp e'.d) := fun v j e' he' hj hjs => act_ne ((hkind j e' he').2.2.2 k e he hj hjs hks')
        cases hDs : D si with
        | false =>
          obtain ⟨hb0, hf⟩ := hI.pre hDs
          have hA : ObA P Q N a0 (dsOf sp) w0 sp o e := by
            unfold Ob at hob
            match hek : e.k, hob with
            | 0, hob => exact hob
            | 1, hob => exact hob.1
            | n + 2, _ => omega
          refine hA a w hI.g hb0 (fun x hx hb e' he' _ => hf x.on e' he' (hdep x hx hb) (fun hc => by have := hdep x hx hb; rw [hc, hDs] at this; cases this)) K (fun v w' hb hv => hK _ _ ⟨hgr v, fun _ => ⟨hb0.trans (hb.mono hb0.size), fun j e' he' hj hne => ?_⟩, fun h => by rw [hoth _ _ _ (Ne.symm hks'), hDs] at h; cases h⟩)
          by_cases hjk : j = k
          · subst hjk
            rw [he] at he'; cases he'
            rw [act_same hsz]; exact hv
          · rw [hslot v j e' he' hjk hne]
            rw [hoth _ _ _ hjk] at hj
            exact hmono e' (List.mem_of_getElem? he') (hmem j e' he' hne).1 _ w w' hb0 hb (hf j e' he' hj hne)
        | true =>
          obtain ⟨hcl, hf⟩ := hI.post hDs
          obtain ⟨os, hos⟩ : ∃ os, l[si]? = some os := ⟨_, List.getElem?_eq_getElem hsi⟩
          have hB' : ObB P Q N a0 (dsOf sp) sp o e := by
            unfold Ob at hob
            match hek : e.k, hob with
            | 0, _ =>
              exfalso
              obtain ⟨x, hx, hxi, hxb⟩ := (hkind k e he).2.2.1 hek os hos
              have := hcl os hos x hx hxb
              rw [hxi, hD] at this; cases this
            | 1, hob => exact hob.2
            | n + 2, _ => omega
          refine hB' a w hI.g (fun x hx hb e' he' hk' => hf x.on e' he' (hdep x hx hb) (fun hc => by
              have := (hkind x.on e' he').1.1 hc
              simp only [decide_eq_true_eq] at hk'
              omega)) K (fun v hv => hK _ _ ⟨hgr v, (fun h => by rw [hoth _ _ _ (Ne.symm hks'), hDs] at h; cases h), fun _ => ⟨fun os hos x hx hb => ?_, fun j e' he' hj hne => ?_⟩⟩)
          · by_cases hxk : x.on = k
            · rw [hxk]; exact hself _ _
            · rw [hoth _ _ _ hxk]; exact hcl os hos x hx hb
          · by_cases hjk : j = k
            · subst hjk
              rw [he] at he'; cases he'
              rw [act_same hsz]; exact hv
            · rw [hslot v j e' he' hjk hne]
              rw [hoth _ _ _ hjk] at hj
              exact hf j e' he' hj hne
  · have hDs : D si = true := hall si hsi
    obtain ⟨_, hf⟩ := hI.post hDs
    have hfill : a = fillF a0 (dsOf sp) (fun d => a.eval (.tmp d)) := by
      refine act_ext (by rw [fillF_size, hN]; exact hI.g.sz) (by rw [fillF_defers, hdf]; exact hI.g.df) (fun t ht => ?_)
      rw [fillF_eval _ _ a0 t (by rw [hN, ← hI.g.sz]; exact ht)]
      by_cases h1 : t ∈ dsOf sp
      · simp [h1]
      · simp [h1, hI.g.kp t h1]
    rw [hfill]
    refine hend _ w (fun e he hk => ?_)
    obtain ⟨j, hj⟩ := List.mem_iff_getElem?.1 he
    have hne : j ≠ si := fun h => by have := (hkind j e hj).1.1 h; omega
    exact hf j e hj (hall j (by have := (List.getElem?_eq_some_iff.1 hj).1; omega)) hne
end
/-- A pointer to a block that the region made, with these cells. -/
def FreshC (w0 : World) (t : TypeId) (cs : Array Value) (v : Value) (w : World) : Prop := Below w0.heap.size w0 w ∧ ∃ g, v = .pointer (some ⟨g, 0, none⟩) ∧ w0.heap.size ≤ g ∧ Blk w g t cs
theorem FreshC.mono {w0 w w' : World} {t : TypeId} {cs : Array Value} {v : Value} (h : FreshC w0 t cs v w) (hb : Below w.heap.size w w') : FreshC w0 t cs v w' := by
  obtain ⟨h0, g, h1, h2, h3⟩ := h
  exact ⟨btr h0 hb, g, h1, h2, h3.below hb h3.lt⟩
theorem FreshC.new {w0 w : World} {t : TypeId} {cs : Array Value} (h : Below w0.heap.size w0 w) : FreshC w0 t cs (.pointer (some ⟨w.heap.size, 0, none⟩)) (w.alloc (.cells cs t)) := ⟨bal h _, _, rfl, h.size, Blk.new _ _ _⟩
/-- Two cells stored through a pointer. -/
def St2 (sa : Nat) (u v : Value) (a : Act) (w w' : World) : Prop := ∃ g, a.eval (.tmp sa) = .pointer (some ⟨g, 0, none⟩) ∧ w' = (w.setCell ⟨g, 0, none⟩ u).setCell ⟨g, 1, none⟩ v
theorem FreshC.put2 {w0 w w' : World} {t : TypeId} {x y u v : Value} {sa : Nat} {a : Act} (hs : St2 sa u v a w w') (h : FreshC w0 t #[x, y] (a.eval (.tmp sa)) w) : FreshC w0 t #[u, v] (a.eval (.tmp sa)) w' := by
  obtain ⟨h0, g, h1, h2, h3⟩ := h
  obtain ⟨g', h1', rfl⟩ := hs
  rw [h1] at h1'
  injection h1' with e
  injection e with e
  injection e with e
  subst e
  exact ⟨(h0.setCell h2 _).setCell h2 _, g, h1, h2, (h3.set_ 0 u).set_ 1 v⟩
end Go.Proofs.YtmbjalcphdggnaaDoor
