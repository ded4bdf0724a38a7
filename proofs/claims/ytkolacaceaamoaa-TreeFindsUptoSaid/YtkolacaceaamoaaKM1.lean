/- A region that draws its order, by an invariant over what has come up: one proof for each operation, whatever the order. -/
import Derived.Test.YtkolacaceaamoaaKM0
import Derived.ArgAppend
/- A region that draws its order, by an invariant over what has come up: one proof for each operation, whatever the order. -/
set_option linter.unusedSimpArgs false
set_option linter.unusedVariables false
namespace Go.Proofs.Ytkolacaceaamoaa
open Go.RowKit
section
variable {P:Program} {ops:Array Oper} {Q:Exit → Act → World → Prop} {md:Region.Mode}
/-- The operations that have come up, and i. -/
def seen (D:Nat → Bool) (i:Nat):Nat → Bool:=fun j=>j == i || D j
theorem listed_of_none {listed:Array Bool} (hs:listed.size = ops.size) (hord:∀ i o,ops[i]? = some o → ∀ e ∈ o.after,Region.binds md e = true → e.on < i)
  (h:Region.ready md ops listed = []):∀ i,i < ops.size → listed.getD i false = true:=by
 intro i
 induction i using Nat.strongRecOn with
 | _ i ih=>
  intro hi
  by_cases hc:listed.getD i false = true
  ·exact hc
  ·exfalso
   have hm:i ∈ Region.ready md ops listed:=by
    refine mem_ready.2 ⟨?_,ops[i],Array.getElem?_eq_getElem hi,fun e he hb=>?_⟩
    ·have:i < listed.size:=by omega
     simp [this] at hc ⊢
     exact hc
    ·have hlt:=hord i _ (Array.getElem?_eq_getElem hi) e he hb
     exact ih e.on hlt (by omega)
   rw [h] at hm; cases hm
theorem wpAny_inv (I:(Nat → Bool) → Act → World → Prop) (hord:∀ i o,ops[i]? = some o → ∀ e ∈ o.after,Region.binds md e = true → e.on < i)
  (hstep:∀ i o,ops[i]? = some o → ∀ D a w,I D a w → D i = false → (∀ e ∈ o.after,Region.binds md e = true → D e.on = true) → ∀ K:Act → World → Prop,(∀ a w,I (seen D i) a w → K a w) →
   if Region.wanted o (yielded ops a.tmps) then o.wp P a w K Q else K (a.put o.dst undef) w)
  (hend:∀ D a w,I D a w → (∀ i,i < ops.size → D i = true) → Q .normal a w) :
  ∀ (fuel:Nat) (listed:Array Bool) (a:Act) (w:World),listed.size = ops.size → listed.toList.count false = fuel → I (fun j=>listed.getD j false) a w → wpAny P md ops Q fuel listed a w
 | 0,listed,a,w,hs,hc,hI=>by
  have hall:∀ i,i < ops.size → listed.getD i false = true:=fun i hi=>by
   have h1:∀ b ∈ listed.toList,b = true:=fun b hb=>by
    cases b
    ·exact absurd hc (by have:=List.count_pos_iff.2 hb; omega)
    ·rfl
   have hi':i < listed.size:=by omega
   simp [hi']
   exact h1 _ (by simp)
  refine ⟨?_,hend _ _ _ hI hall⟩
  rw [List.eq_nil_iff_forall_not_mem]
  intro j hj
  obtain ⟨h0,o,ho,_⟩:=mem_ready.1 hj
  have hjs:=(Array.getElem?_eq_some_iff.1 ho).1
  have h1:=hall j hjs
  have hj':j < listed.size:=by omega
  simp [hj'] at h0 h1
  rw [h0] at h1; cases h1
 | fuel + 1,listed,a,w,hs,hc,hI=>by
  refine ⟨fun h0=>hend _ _ _ hI (listed_of_none hs hord h0),fun i hi=>?_⟩
  obtain ⟨h0,o,ho,hall⟩:=mem_ready.1 hi
  have his:=(Array.getElem?_eq_some_iff.1 ho).1
  have hi':i < listed.size:=by omega
  have hf:listed[i] = false:=by simpa [hi'] using h0
  have hnext:∀ a w,I (seen (fun j=>listed.getD j false) i) a w → wpAny P md ops Q fuel (listed.setIfInBounds i true) a w:=fun a w h=>by
   refine wpAny_inv I hord hstep hend fuel _ a w (by simpa using hs) ?_ ?_
   ·rw [Array.toList_setIfInBounds,List.count_set (by simpa using hi')]
    have hc':Array.count false listed = fuel + 1:=by simpa using hc
    simp [hf]; omega
   ·have:(fun j=>(listed.setIfInBounds i true).getD j false) = seen (fun j=>listed.getD j false) i:=by
     funext j
     unfold seen
     by_cases hj:j = i
     ·subst hj; simp [hi']
     ·rw [getD_set_ne false (Ne.symm hj)]
      have:(j == i) = false:=by simpa using hj
      rw [this]; rfl
    rw [this]; exact h
  have hst:=hstep i o ho _ a w hI (by simp [hi',hf]) (fun e he hb=>hall e he hb) _ hnext
  unfold wpOp
  simp only [ho]
  split
  ·rename_i hw; rw [if_pos hw] at hst; exact .inl hst
  ·rename_i hw; rw [if_neg hw] at hst; exact hst

/-- One obligation for each operation of a list. -/
def Steps1 (P:Program) (ops:Array Oper) (Q:Exit → Act → World → Prop) (I:(Nat → Bool) → Act → World → Prop):List Oper → Nat → Prop
 | [],_=>True
 | o :: rest,i=>(∀ D a w,I D a w → D i = false → (∀ e ∈ o.after,Region.binds .any e = true → D e.on = true) → ∀ K:Act → World → Prop,(∀ a w,I (seen D i) a w → K a w) →
   if Region.wanted o (yielded ops a.tmps) then o.wp P a w K Q else K (a.put o.dst undef) w) ∧ Steps1 P ops Q I rest (i + 1)
theorem Steps1.get {I:(Nat → Bool) → Act → World → Prop}:∀ (l:List Oper) (k:Nat),Steps1 P ops Q I l k → ∀ j o,l[j]? = some o →
  ∀ D a w,I D a w → D (k + j) = false → (∀ e ∈ o.after,Region.binds .any e = true → D e.on = true) → ∀ K:Act → World → Prop,(∀ a w,I (seen D (k + j)) a w → K a w) →
   if Region.wanted o (yielded ops a.tmps) then o.wp P a w K Q else K (a.put o.dst undef) w
 | [],_,_,j,o,ho=>by simp at ho
 | o' :: l,k,h,0,o,ho=>by simp at ho; subst ho; exact h.1
 | o' :: l,k,h,j + 1,o,ho=>by
  have:=Steps1.get l (k + 1) h.2 j o (by simpa using ho)
  rw [show k + 1 + j = k + (j + 1) by omega] at this
  exact this
/-- Do all edges lead back? -/
def edgesBack (l:List Oper):Bool:=l.zipIdx.all fun (o,i)=>o.after.all fun e=>!Region.binds .any e || decide (e.on < i)
theorem edgesBack_spec {l:List Oper} (h:edgesBack l = true):∀ i o,l.toArray[i]? = some o → ∀ e ∈ o.after,Region.binds .any e = true → e.on < i:=by
 intro i o ho e he hb
 unfold edgesBack at h
 rw [List.all_eq_true] at h
 have h1:=h (o,i) (by
  rw [List.mem_zipIdx_iff_getElem?]
  simpa using ho)
 simp only [Array.all_eq_true'] at h1
 have:=h1 e he
 simpa [hb] using this
/-- **A REGION THAT DRAWS ITS ORDER, BY AN INVARIANT.** -/
theorem wp_region_inv {id:Nat} {a:Act} {w:World} {l:List Oper} (hm:P.follows .mixedOrders = true) (hB:edgesBack l = true) (I:(Nat → Bool) → Act → World → Prop)
  (h0:I (fun _=>false) a w.drew) (hs:Steps1 P l.toArray Q I l 0)
  (hend:∀ D a w,I D a w → (∀ i,i < l.length → D i = true) → Q .normal a w):(Code.region id l.toArray true).wp P Q a w:=by
 refine wp_region_any hm (wpAny_inv I (edgesBack_spec hB) (fun i o ho=>?_) (fun D a w h1 h2=>hend D a w h1 (by simpa using h2)) _ _ _ _ (by simp) (by simp) ?_)
 ·have:=Steps1.get l 0 hs i o (by simpa using ho)
  simpa using this
 ·have:(fun j=>(Array.replicate l.toArray.size false).getD j false) = fun _=>false:=by
   funext j
   by_cases hj:j < l.length <;> simp [Array.getElem?_replicate,hj]
  rw [this]; exact h0
end
/-! Single operations over a frame of which single slots are known -/
section
variable {P:Program} {Q:Exit → Act → World → Prop} {a:Act} {w:World} {K:Act → World → Prop} {o:Oper}
theorem act_same {d:Nat} {v:Value} (h:d < a.tmps.size):(a.put (some d) v).eval (.tmp d) = v:=by
 simp [Act.put,Act.eval,h]
theorem act_ne {d e:Nat} {v:Value} (h:e ≠ d):(a.put (some d) v).eval (.tmp e) = a.eval (.tmp e):=by
 have h':d ≠ e:=fun x=>h x.symm
 simp [Act.put,Act.eval,Array.getElem?_setIfInBounds,h']
theorem act_size {d:Option Tmp} {v:Value}:(a.put d v).tmps.size = a.tmps.size:=by cases d <;> simp [Act.put]
theorem act_defers {d:Option Tmp} {v:Value}:(a.put d v).defers = a.defers:=by cases d <;> simp [Act.put]
theorem op_move (x:Operand) (h:o.op = .move x) (hk:K (a.put o.dst (a.eval x)) w):o.wp P a w K Q:=by
 unfold Oper.wp; rw [BigFrame.run_move x h]; exact hk
theorem op_assign (x:Operand) (h:o.op = .assign x) (hk:K (a.put o.dst (a.eval x)) w):o.wp P a w K Q:=by
 unfold Oper.wp; rw [BigFrame.run_assign x h]; exact hk
end
/-! A region that draws its order, each operation with a fact on its own slot that every later world keeps -/
/-- Of one operation: the slot that it writes, and what is known of it. -/
structure Fact where
 d:Nat
 R:Value → World → Prop
section
variable {P:Program} {Q:Exit → Act → World → Prop}
/-- What every operation may lean on: the frame's size, the slots that the region leaves alone, the world. -/
structure Ground (N:Nat) (a0:Act) (ds:List Nat) (w0:World) (a:Act) (w:World):Prop where
 sz:a.tmps.size = N
 df:a.defers = []
 kp:∀ t,t ∉ ds → a.eval (.tmp t) = a0.eval (.tmp t)
 hb:Below w0.heap.size w0 w
structure FactsInv (N:Nat) (a0:Act) (ds:List Nat) (w0:World) (sp:List Fact) (D:Nat → Bool) (a:Act) (w:World):Prop where
 g:Ground N a0 ds w0 a w
 f:∀ (j:Nat) (e:Fact),sp[j]? = some e → D j = true → e.R (a.eval (.tmp e.d)) w
/-- One obligation for each operation. -/
def StepsF (P:Program) (Q:Exit → Act → World → Prop) (N:Nat) (a0:Act) (ds:List Nat) (w0:World) (sp:List Fact):List Oper → List Fact → Prop
 | o :: ops,e :: es=>(∀ a w,Ground N a0 ds w0 a w → (∀ x ∈ o.after,Region.binds .any x = true → ∀ e':Fact,sp[x.on]? = some e' → e'.R (a.eval (.tmp e'.d)) w) →
   ∀ K:Act → World → Prop,(∀ v w',Below w.heap.size w w' → e.R v w' → K (a.put (some e.d) v) w') → o.wp P a w K Q) ∧ StepsF P Q N a0 ds w0 sp ops es
 | [],[]=>True
 | _,_=>False
theorem StepsF.get {N:Nat} {a0:Act} {ds:List Nat} {w0:World} {sp:List Fact}:∀ (ops:List Oper) (es:List Fact),StepsF P Q N a0 ds w0 sp ops es → ∀ (j:Nat) (o:Oper),ops[j]? = some o → ∃ e:Fact,es[j]? = some e ∧
  (∀ a w,Ground N a0 ds w0 a w → (∀ x ∈ o.after,Region.binds .any x = true → ∀ e':Fact,sp[x.on]? = some e' → e'.R (a.eval (.tmp e'.d)) w) →
   ∀ K:Act → World → Prop,(∀ v w',Below w.heap.size w w' → e.R v w' → K (a.put (some e.d) v) w') → o.wp P a w K Q)
 | o' :: ops,e' :: es,h,0,o,ho=>by simp at ho; subst ho; exact ⟨e',rfl,h.1⟩
 | o' :: ops,e' :: es,h,j + 1,o,ho=>by
  obtain ⟨e,h1,h2⟩:=StepsF.get ops es h.2 j o (by simpa using ho)
  exact ⟨e,by simpa using h1,h2⟩
 | [],[],_,j,o,ho=>by simp at ho
 | _ :: _,[],h,_,_,_=>by simp [StepsF] at h
 | [],_ :: _,h,_,_,_=>by simp [StepsF] at h
/-- The slots are each written once and lie in the frame; no operation is guarded. -/
def factsOk (N:Nat) (ds:List Nat) (l:List Oper):Bool:=
 ds.all (fun d=>decide (d < N)) && (List.range ds.length).all (fun i=>(List.range ds.length).all fun j=>i == j || ds[i]? != ds[j]?) && l.all (fun o=>o.guard.isNone) && decide (l.length = ds.length)
/-- The frame behind the region. -/
def fillF (a0:Act) (ds:List Nat) (f:Nat → Value):Act:=ds.foldl (fun a d=>a.put (some d) (f d)) a0
theorem fillF_size (f:Nat → Value):∀ (ds:List Nat) (a0:Act),(fillF a0 ds f).tmps.size = a0.tmps.size
 | [],a0=>rfl
 | d :: ds,a0=>by
  show (fillF (a0.put (some d) (f d)) ds f).tmps.size = _
  rw [fillF_size f ds,act_size]
theorem fillF_defers (f:Nat → Value):∀ (ds:List Nat) (a0:Act),(fillF a0 ds f).defers = a0.defers
 | [],a0=>rfl
 | d :: ds,a0=>by
  show (fillF (a0.put (some d) (f d)) ds f).defers = _
  rw [fillF_defers f ds,act_defers]
theorem fillF_eval (f:Nat → Value):∀ (ds:List Nat) (a0:Act) (t:Nat),t < a0.tmps.size → (fillF a0 ds f).eval (.tmp t) = if t ∈ ds then f t else a0.eval (.tmp t)
 | [],a0,t,_=>by simp [fillF]
 | d :: ds,a0,t,ht=>by
  show (fillF (a0.put (some d) (f d)) ds f).eval (.tmp t) = _
  rw [fillF_eval f ds _ t (by rw [act_size]; exact ht)]
  by_cases h1:t ∈ ds
  ·simp [h1]
  ·by_cases h2:t = d
   ·subst h2; simp [h1,act_same ht]
   ·simp [h1,h2,act_ne h2]
theorem act_ext {a b:Act} (hs:a.tmps.size = b.tmps.size) (hd:a.defers = b.defers) (he:∀ t,t < a.tmps.size → a.eval (.tmp t) = b.eval (.tmp t)):a = b:=by
 obtain ⟨at_,ad⟩:=a
 obtain ⟨bt,bd⟩:=b
 simp only at hs hd
 subst hd
 congr 1
 refine Array.ext hs (fun i h1 h2=>?_)
 have:=he i h1
 simpa [Act.eval,h1,h2] using this
theorem Ground.fill {N:Nat} {a0:Act} {ds:List Nat} {w0:World} {a:Act} {w:World} (hN:a0.tmps.size = N) (hdf:a0.defers = []) (h:Ground N a0 ds w0 a w):a = fillF a0 ds (fun d=>a.eval (.tmp d)):=by
 refine act_ext (by rw [fillF_size,hN]; exact h.sz) (by rw [fillF_defers,hdf]; exact h.df) (fun t ht=>?_)
 rw [fillF_eval _ ds a0 t (by rw [hN,← h.sz]; exact ht)]
 by_cases h1:t ∈ ds
 ·simp [h1]
 ·simp [h1,h.kp t h1]
/-- **A REGION THAT DRAWS ITS ORDER, BY A FACT ON EACH SLOT.** -/
theorem wp_region_facts {id:Nat} {a0:Act} {w0:World} {l:List Oper} (hm:P.follows .mixedOrders = true) (hB:edgesBack l = true) (N:Nat) (sp:List Fact)
  (hok:factsOk N (sp.map (·.d)) l = true) (hN:a0.tmps.size = N) (hdf:a0.defers = [])
  (hmono:∀ e ∈ sp,∀ v w w',Below w0.heap.size w0 w → Below w.heap.size w w' → e.R v w → e.R v w')
  (hs:StepsF P Q N a0 (sp.map (·.d)) w0 sp l sp)
  (hend:∀ (f:Nat → Value) w,Below w0.heap.size w0 w → (∀ e ∈ sp,e.R (f e.d) w) → Q .normal (fillF a0 (sp.map (·.d)) f) w):(Code.region id l.toArray true).wp P Q a0 w0:=by
 unfold factsOk at hok
 simp only [Bool.and_eq_true,List.all_eq_true,decide_eq_true_eq,List.length_map,List.mem_map,forall_exists_index,and_imp,forall_apply_eq_imp_iff₂,List.mem_range] at hok
 obtain ⟨⟨⟨h1,h2⟩,h3⟩,h4⟩:=hok
 have hinj:∀ (i j:Nat) (ei ej:Fact),sp[i]? = some ei → sp[j]? = some ej → i ≠ j → ei.d ≠ ej.d:=fun i j ei ej hi hj hij=>by
  have hi':=(List.getElem?_eq_some_iff.1 hi).1
  have hj':=(List.getElem?_eq_some_iff.1 hj).1
  have:=h2 i hi' j hj'
  simp [hi,hj,hij] at this
  exact this
 refine wp_region_inv hm hB (FactsInv N a0 (sp.map (·.d)) w0 sp) ⟨⟨hN,hdf,fun _ _=>rfl,(Below.refl _ _).drew⟩,fun j e _ h=>by cases h⟩ ?_ (fun D a w hI hall=>?_)
 ·suffices ∀ (l':List Oper) (k:Nat),(∀ (j:Nat) (o:Oper),l'[j]? = some o → l[k + j]? = some o) → Steps1 P l.toArray Q (FactsInv N a0 (sp.map (·.d)) w0 sp) l' k from this l 0 (fun j o h=>by simpa using h)
  intro l'
  induction l' with
  | nil=>intro k _; trivial
  | cons o l' ih=>
   intro k hk
   refine ⟨?_,ih (k + 1) (fun j o' h=>by have:=hk (j + 1) o' (by simpa using h); rw [show k + 1 + j = k + (j + 1) by omega]; exact this)⟩
   intro D a w hI hD hdep K hK
   have hko:l[k]? = some o:=by simpa using hk 0 o rfl
   obtain ⟨e,he,hst⟩:=StepsF.get l sp hs k o hko
   have hmem:e ∈ sp:=List.mem_of_getElem? he
   have hg:o.guard = none:=by have:=h3 o (List.mem_of_getElem? hko); simpa using this
   rw [if_pos (by simp [Region.wanted,hg])]
   refine hst a w hI.g (fun x hx hb e' he'=>hI.f _ _ he' (hdep x hx hb)) K (fun v w' hb hv=>hK _ _ ?_)
   have hsz:e.d < a.tmps.size:=by rw [hI.g.sz]; exact h1 e hmem
   refine ⟨⟨by rw [act_size]; exact hI.g.sz,by rw [act_defers]; exact hI.g.df,fun t ht=>?_,hI.g.hb.trans (hb.mono hI.g.hb.size)⟩,fun j e' he' hs'=>?_⟩
   ·rw [act_ne (fun h=>ht (by rw [h]; exact List.mem_map.2 ⟨e,hmem,rfl⟩))]; exact hI.g.kp t ht
   ·by_cases hj:j = k
    ·subst hj
     rw [he] at he'; cases he'
     rw [act_same hsz]; exact hv
    ·rw [act_ne (hinj j k e' e he' he hj)]
     have hDj:D j = true:=by simpa [seen,hj] using hs'
     exact hmono e' (List.mem_of_getElem? he') _ w w' hI.g.hb hb (hI.f j e' he' hDj)
 ·rw [hI.g.fill hN hdf]
  refine hend _ w hI.g.hb (fun e he=>?_)
  obtain ⟨j,hj⟩:=List.mem_iff_getElem?.1 he
  exact hI.f j e hj (hall j (by have:=(List.getElem?_eq_some_iff.1 hj).1; omega))
end
end Go.Proofs.Ytkolacaceaamoaa
/- A region that draws its order and ends with one store: a fact for each operation ahead of the store, and one behind it. -/
namespace Go.Proofs.Ytkolacaceaamoaa
open Go.RowKit
/-- Of one operation: its kind (0: ahead of the store; 1: ahead of it or behind; 2: the store), its slot, what is known of it ahead of the store, and behind. -/
structure Fact3 where
 k:Nat
 d:Nat
 R:Value → World → Prop
 R':Value → World → Prop
section
variable {P:Program} {Q:Exit → Act → World → Prop}
structure Gr (N:Nat) (a0:Act) (ds:List Nat) (a:Act):Prop where
 sz:a.tmps.size = N
 df:a.defers = []
 kp:∀ t,t ∉ ds → a.eval (.tmp t) = a0.eval (.tmp t)
def Dep (sp:List Fact3) (o:Oper) (a:Act) (w:World):Prop:=∀ x ∈ o.after,Region.binds .any x = true → ∀ e':Fact3,sp[x.on]? = some e' → decide (e'.k < 2) = true → e'.R (a.eval (.tmp e'.d)) w
def Dep' (sp:List Fact3) (o:Oper) (a:Act) (w:World):Prop:=∀ x ∈ o.after,Region.binds .any x = true → ∀ e':Fact3,sp[x.on]? = some e' → decide (e'.k < 2) = true → e'.R' (a.eval (.tmp e'.d)) w
def ObA (P:Program) (Q:Exit → Act → World → Prop) (N:Nat) (a0:Act) (ds:List Nat) (w0:World) (sp:List Fact3) (o:Oper) (e:Fact3):Prop:=
 ∀ a w,Gr N a0 ds a → Below w0.heap.size w0 w → Dep sp o a w → ∀ K:Act → World → Prop,(∀ v w',Below w.heap.size w w' → e.R v w' → K (a.put (some e.d) v) w') → o.wp P a w K Q
def ObB (P:Program) (Q:Exit → Act → World → Prop) (N:Nat) (a0:Act) (ds:List Nat) (sp:List Fact3) (o:Oper) (e:Fact3):Prop:=
 ∀ a w,Gr N a0 ds a → Dep' sp o a w → ∀ K:Act → World → Prop,(∀ v,e.R' v w → K (a.put (some e.d) v) w) → o.wp P a w K Q
def ObC (P:Program) (Q:Exit → Act → World → Prop) (N:Nat) (a0:Act) (ds:List Nat) (w0:World) (sp:List Fact3) (St:Act → World → World → Prop) (o:Oper):Prop:=
 ∀ a w,Gr N a0 ds a → Below w0.heap.size w0 w → Dep sp o a w → ∀ K:Act → World → Prop,(∀ w',St a w w' → K a w') → o.wp P a w K Q
def Ob (P:Program) (Q:Exit → Act → World → Prop) (N:Nat) (a0:Act) (ds:List Nat) (w0:World) (sp:List Fact3) (St:Act → World → World → Prop) (o:Oper) (e:Fact3):Prop:=
 match e.k with
 | 0=>ObA P Q N a0 ds w0 sp o e
 | 1=>ObA P Q N a0 ds w0 sp o e ∧ ObB P Q N a0 ds sp o e
 | _=>ObC P Q N a0 ds w0 sp St o
def Obs (P:Program) (Q:Exit → Act → World → Prop) (N:Nat) (a0:Act) (ds:List Nat) (w0:World) (sp:List Fact3) (St:Act → World → World → Prop):List Oper → List Fact3 → Prop
 | o :: os,e :: es=>Ob P Q N a0 ds w0 sp St o e ∧ Obs P Q N a0 ds w0 sp St os es
 | [],[]=>True
 | _,_=>False
/-- Kinds and slots: (kind, slot) in the operations' order. The store writes no slot; each other one its own; what is of kind 0 is bound ahead of the store. -/
def okS (N:Nat) (si:Nat) (ks:List (Nat × Nat)) (l:List Oper):Bool:=
 decide (l.length = ks.length) && l.all (fun o=>o.guard.isNone) &&
 (List.range ks.length).all (fun i=>match ks[i]? with
  | some (k,d)=>(i == si) == (decide (2 ≤ k)) && (i == si || decide (d < N)) && (k != 0 || (match l[si]? with | some os=>os.after.any (fun x=>x.on == i && Region.binds .any x) | none=>false)) &&
   (List.range ks.length).all (fun j=>i == j || i == si || j == si || (match ks[j]? with | some (_,d')=>d != d' | none=>true))
  | none=>false) && decide (si < l.length)
def dsOf (sp:List Fact3):List Nat:=(sp.filter (fun e=>decide (e.k < 2))).map (·.d)
structure InvS (N:Nat) (a0:Act) (w0:World) (sp:List Fact3) (l:List Oper) (si:Nat) (D:Nat → Bool) (a:Act) (w:World):Prop where
 g:Gr N a0 (dsOf sp) a
 pre:D si = false → Below w0.heap.size w0 w ∧ ∀ (j:Nat) (e:Fact3),sp[j]? = some e → D j = true → j ≠ si → e.R (a.eval (.tmp e.d)) w
 post:D si = true → (∀ os,l[si]? = some os → ∀ x ∈ os.after,Region.binds .any x = true → D x.on = true) ∧ ∀ (j:Nat) (e:Fact3),sp[j]? = some e → D j = true → j ≠ si → e.R' (a.eval (.tmp e.d)) w
end
/-- A pointer to a block that the region made, with these cells. -/
def FreshC (w0:World) (t:TypeId) (cs:Array Value) (v:Value) (w:World):Prop:=Below w0.heap.size w0 w ∧ ∃ g,v = .pointer (some ⟨g,0,none⟩) ∧ w0.heap.size ≤ g ∧ Blk w g t cs
/-- Two cells stored through a pointer. -/
def St2 (sa:Nat) (u v:Value) (a:Act) (w w':World):Prop:=∃ g,a.eval (.tmp sa) = .pointer (some ⟨g,0,none⟩) ∧ w' = (w.setCell ⟨g,0,none⟩ u).setCell ⟨g,1,none⟩ v
end Go.Proofs.Ytkolacaceaamoaa
/- A region that draws its order and whose memory turns in stages: the operations that turn memory follow one another by the region's own edges; a fact for each operation's slot, stage by stage. -/
namespace Go.Proofs.Ytkolacaceaamoaa
open Go.RowKit
/-- Of one operation: the slot that it writes (if any), does it turn memory, in which stages it may be carried out, what is known of its value in each stage. -/
structure FactG where
 d:Option Nat
 mem:Bool
 lo:Nat
 hi:Nat
 R:Nat → Value → World → Prop
section
variable {P:Program} {Q:Exit → Act → World → Prop}
def closedD (l:List Oper) (D:Nat → Bool):Prop:=∀ j o,l[j]? = some o → D j = true → ∀ x ∈ o.after,Region.binds .any x = true → D x.on = true
/-- An operation and whatever stands ahead of it. -/
def ancNew (ms:List (List Nat)) (o:Oper):List Nat:=(o.after.toList.filter (fun x=>Region.binds .any x)).foldl (fun m x=>m ++ (ms.getD x.on []).filter (fun j=>!m.contains j)) [ms.length]
def ancs (l:List Oper):List (List Nat):=l.foldl (fun ms o=>ms ++ [ancNew ms o]) []
def AncOk (D:Nat → Bool) (ms:List (List Nat)):Prop:=∀ (i:Nat) (m:List Nat),ms[i]? = some m → D i = true → ∀ j ∈ m,D j = true
theorem ancFold_ok {D:Nat → Bool} {ms:List (List Nat)} (h:AncOk D ms):∀ (xs:List _) (m:List Nat),(∀ j ∈ m,D j = true) → (∀ x ∈ xs,D (x:Go.Edge).on = true) →
  ∀ j ∈ xs.foldl (fun m x=>m ++ (ms.getD x.on []).filter (fun j=>!m.contains j)) m,D j = true
 | [],m,hm,_=>hm
 | x :: xs,m,hm,hx=>by
  refine ancFold_ok h xs _ (fun j hj=>?_) (fun y hy=>hx y (List.mem_cons_of_mem _ hy))
  rcases List.mem_append.1 hj with hj | hj
  ·exact hm j hj
  ·have hj':=(List.mem_filter.1 hj).1
   rw [List.getD_eq_getElem?_getD] at hj'
   cases e:ms[x.on]? with
   | none=>rw [e] at hj'; simp at hj'
   | some m'=>rw [e] at hj'; exact h x.on m' e (hx x (by simp)) j (by simpa using hj')
theorem ancs_ok_aux {l:List Oper} {D:Nat → Bool} (hc:closedD l D):∀ (rest:List Oper) (ms:List (List Nat)),AncOk D ms → (∀ (j:Nat) (o:Oper),rest[j]? = some o → l[ms.length + j]? = some o) →
  AncOk D (rest.foldl (fun ms o=>ms ++ [ancNew ms o]) ms)
 | [],ms,h,_=>h
 | o :: rest,ms,h,hl=>by
  refine ancs_ok_aux hc rest _ (fun i m hi hD=>?_) (fun j o' hj=>?_)
  ·by_cases hlt:i < ms.length
   ·rw [List.getElem?_append_left hlt] at hi
    exact h i m hi hD
   ·have hi':i = ms.length:=by
     have:=(List.getElem?_eq_some_iff.1 hi).1
     simp at this; omega
    subst hi'
    simp at hi
    subst hi
    have ho:l[ms.length]? = some o:=by simpa using hl 0 o rfl
    refine ancFold_ok h _ _ (fun j hj=>?_) (fun x hx=>?_)
    ·simp at hj; subst hj; exact hD
    ·have:=List.mem_filter.1 hx
     exact hc _ o ho hD x (by simpa using this.1) this.2
  ·have:=hl (j + 1) o' (by simpa using hj)
   rw [List.length_append,List.length_singleton,show ms.length + 1 + j = ms.length + (j + 1) by omega]
   exact this
theorem ancs_ok {l:List Oper} {D:Nat → Bool} (hc:closedD l D):AncOk D (ancs l):=
 ancs_ok_aux hc l [] (fun i m h=>by simp at h) (fun j o h=>by simpa using h)
structure Row4 where
 d:Option Nat
 mem:Bool
 lo:Nat
 hi:Nat
def FactG.row (e:FactG):Row4:=⟨e.d,e.mem,e.lo,e.hi⟩
/-- Does each operation come up in its stages alone? -/
def stageOk (N M:Nat) (rs:List Row4) (l:List Oper):Bool:=
 decide (l.length = rs.length) && l.all (fun o=>o.guard.isNone) && (M == 0 || rs.any (fun r=>r.mem && r.lo + 1 == M)) &&
 (rs.zip l).all (fun x=>x.1.d == x.2.dst) &&
 (List.range rs.length).all (fun i=>match rs[i]? with
  | none=>false
  | some r=>
   (match r.d with | none=>true | some d=>decide (d < N) && (List.range rs.length).all fun j=>i == j || (match rs[j]? with | some r'=>r'.d != some d | none=>true)) &&
   (r.lo == 0 || (List.range rs.length).any fun j=>(match rs[j]? with | some r'=>r'.mem && r'.lo + 1 == r.lo | none=>false) && ((ancs l).getD i []).contains j) &&
   (r.hi == M || (List.range rs.length).any fun j=>(match rs[j]? with | some r'=>r'.mem && r'.lo == r.hi | none=>false) && ((ancs l).getD j []).contains i) &&
   (!r.mem || (r.lo == r.hi && decide (r.hi < M) && (List.range rs.length).all fun j=>i == j || (match rs[j]? with | some r'=>!r'.mem || r'.lo != r.lo | none=>true))))
structure GrD (N:Nat) (a0:Act) (ds:List Nat) (a:Act):Prop where
 sz:a.tmps.size = N
 df:a.defers = a0.defers
 kp:∀ t,t ∉ ds → a.eval (.tmp t) = a0.eval (.tmp t)
def dsG (sp:List FactG):List Nat:=sp.filterMap (·.d)
def DepG (sp:List FactG) (o:Oper) (s:Nat) (a:Act) (w:World):Prop:=∀ x ∈ o.after,Region.binds .any x = true → ∀ e':FactG,sp[x.on]? = some e' → ∀ d,e'.d = some d → e'.R s (a.eval (.tmp d)) w
def ObG (P:Program) (Q:Exit → Act → World → Prop) (N:Nat) (a0:Act) (ds:List Nat) (G:Nat → World → Prop) (T:Nat → World → World → Prop) (sp:List FactG) (o:Oper) (e:FactG):Prop:=
 match e.mem with
 | false=>∀ s,e.lo ≤ s → s ≤ e.hi → ∀ a w,GrD N a0 ds a → G s w → DepG sp o s a w → ∀ K:Act → World → Prop,(∀ v,e.R s v w → K (a.put e.d v) w) → o.wp P a w K Q
 | true=>∀ a w,GrD N a0 ds a → G e.lo w → DepG sp o e.lo a w → ∀ K:Act → World → Prop,(∀ v w',T e.lo w w' → G (e.lo + 1) w' → e.R (e.lo + 1) v w' → K (a.put e.d v) w') → o.wp P a w K Q
def ObsG (P:Program) (Q:Exit → Act → World → Prop) (N:Nat) (a0:Act) (ds:List Nat) (G:Nat → World → Prop) (T:Nat → World → World → Prop) (sp:List FactG):List Oper → List FactG → Prop
 | o :: os,e :: es=>ObG P Q N a0 ds G T sp o e ∧ ObsG P Q N a0 ds G T sp os es
 | [],[]=>True
 | _,_=>False
theorem ObsG.get {N:Nat} {a0:Act} {ds:List Nat} {G:Nat → World → Prop} {T:Nat → World → World → Prop} {sp:List FactG}:∀ (os:List Oper) (es:List FactG),ObsG P Q N a0 ds G T sp os es → ∀ (j:Nat) (o:Oper),os[j]? = some o →
  ∃ e:FactG,es[j]? = some e ∧ ObG P Q N a0 ds G T sp o e
 | o' :: os,e' :: es,h,0,o,ho=>by simp at ho; subst ho; exact ⟨e',rfl,h.1⟩
 | o' :: os,e' :: es,h,j + 1,o,ho=>by
  obtain ⟨e,h1,h2⟩:=ObsG.get os es h.2 j o (by simpa using ho)
  exact ⟨e,by simpa using h1,h2⟩
 | [],[],_,j,o,ho=>by simp at ho
 | _ :: _,[],h,_,_,_=>by simp [ObsG] at h
 | [],_ :: _,h,_,_,_=>by simp [ObsG] at h
structure InvG (N M:Nat) (a0:Act) (G:Nat → World → Prop) (sp:List FactG) (l:List Oper) (D:Nat → Bool) (a:Act) (w:World) (s:Nat):Prop where
 g:GrD N a0 (dsG sp) a
 hG:G s w
 hM:s ≤ M
 cl:closedD l D
 mem:∀ (i:Nat) (e:FactG),sp[i]? = some e → e.mem = true → (D i = true ↔ e.lo < s)
 f:∀ (j:Nat) (e:FactG),sp[j]? = some e → D j = true → ∀ d,e.d = some d → e.R s (a.eval (.tmp d)) w
/-- **A REGION THAT DRAWS ITS ORDER, STAGE BY STAGE.** -/
theorem wp_region_stage {id:Nat} {a0:Act} {w0:World} {l:List Oper} (hm:P.follows .mixedOrders = true) (hB:edgesBack l = true) (N M:Nat) (sp:List FactG) (G:Nat → World → Prop) (T:Nat → World → World → Prop)
  (ds:List Nat) (hds:dsG sp = ds) (hok:stageOk N M (sp.map FactG.row) l = true) (hN:a0.tmps.size = N)
  (h0:G 0 w0.drew)
  (hkeep:∀ e ∈ sp,∀ s v w w',(e.mem = true → e.lo < s) → s < M → T s w w' → e.R s v w → e.R (s + 1) v w')
  (hs:ObsG P Q N a0 ds G T sp l sp)
  (hend:∀ (f:Nat → Value) w,G M w → (∀ e ∈ sp,∀ d,e.d = some d → e.R M (f d) w) → Q .normal (fillF a0 ds f) w):(Code.region id l.toArray true).wp P Q a0 w0:=by
 subst hds
 unfold stageOk at hok
 simp only [Bool.and_eq_true,List.all_eq_true,decide_eq_true_eq,List.length_map,List.mem_range] at hok
 obtain ⟨⟨⟨⟨h4,hgd⟩,hlast⟩,hzip⟩,hks⟩:=hok
 have hself:∀ (D:Nat → Bool) (i:Nat),seen D i i = true:=fun D i=>by simp [seen]
 have hoth:∀ (D:Nat → Bool) (i j:Nat),j ≠ i → seen D i j = D j:=fun D i j h=>by simp [seen,h]
 have hdst:∀ (i:Nat) (e:FactG) (o:Oper),sp[i]? = some e → l[i]? = some o → e.d = o.dst:=fun i e o he ho=>by
  have:=hzip (e.row,o) (by
   refine List.mem_of_getElem? (i:=i) ?_
   rw [List.getElem?_zip_eq_some]
   exact ⟨by rw [List.getElem?_map,he]; rfl,ho⟩)
  simpa [FactG.row] using this
 have hrow:∀ (i:Nat) (e:FactG),sp[i]? = some e →
   (∀ d,e.d = some d → d < N ∧ ∀ (j:Nat) (e':FactG),sp[j]? = some e' → i ≠ j → e'.d ≠ some d) ∧
   (e.lo = 0 ∨ ∃ (j:Nat) (e':FactG),sp[j]? = some e' ∧ e'.mem = true ∧ e'.lo + 1 = e.lo ∧ j ∈ (ancs l).getD i []) ∧
   (e.hi = M ∨ ∃ (j:Nat) (e':FactG),sp[j]? = some e' ∧ e'.mem = true ∧ e'.lo = e.hi ∧ i ∈ (ancs l).getD j []) ∧
   (e.mem = true → e.lo = e.hi ∧ e.hi < M ∧ ∀ (j:Nat) (e':FactG),sp[j]? = some e' → i ≠ j → e'.mem = true → e'.lo ≠ e.lo):=fun i e he=>by
  have hi:=(List.getElem?_eq_some_iff.1 he).1
  have h:=hks i hi
  rw [List.getElem?_map,he] at h
  simp only [Option.map_some,Bool.and_eq_true,Bool.or_eq_true,beq_iff_eq,List.any_eq_true,List.mem_range,List.contains_iff_mem] at h
  obtain ⟨⟨⟨g1,g2⟩,g3⟩,g4⟩:=h
  refine ⟨fun d hd=>?_,?_,?_,fun hmm=>?_⟩
  ·rw [show (e.row).d = some d from hd] at g1
   simp only [Bool.and_eq_true,decide_eq_true_eq,List.all_eq_true,List.mem_range] at g1
   refine ⟨g1.1,fun j e' he' hij hd'=>?_⟩
   have:=g1.2 j (List.getElem?_eq_some_iff.1 he').1
   rw [List.getElem?_map,he'] at this
   simp [FactG.row,hd',hij] at this
  ·rcases g2 with g2 | ⟨j,hj,g2,g2'⟩
   ·exact .inl g2
   ·rw [List.getElem?_map,List.getElem?_eq_getElem hj] at g2
    simp [FactG.row] at g2
    exact .inr ⟨j,sp[j],List.getElem?_eq_getElem hj,g2.1,g2.2,g2'⟩
  ·rcases g3 with g3 | ⟨j,hj,g3,g3'⟩
   ·exact .inl g3
   ·rw [List.getElem?_map,List.getElem?_eq_getElem hj] at g3
    simp [FactG.row] at g3
    exact .inr ⟨j,sp[j],List.getElem?_eq_getElem hj,g3.1,g3.2,g3'⟩
  ·simp only [FactG.row,hmm,Bool.not_true,Bool.false_eq_true,false_or,decide_eq_true_eq,List.all_eq_true,List.mem_range] at g4
   refine ⟨g4.1.1,g4.1.2,fun j e' he' hij hm' hlo=>?_⟩
   have:=g4.2 j (List.getElem?_eq_some_iff.1 he').1
   rw [List.getElem?_map,he'] at this
   simp [FactG.row,hm',hlo,hij] at this
 have hanc:∀ (D:Nat → Bool),closedD l D → ∀ i j,D i = true → j ∈ (ancs l).getD i [] → D j = true:=fun D hc i j hi hj=>by
  rw [List.getD_eq_getElem?_getD] at hj
  cases e:(ancs l)[i]? with
  | none=>rw [e] at hj; simp at hj
  | some m=>rw [e] at hj; exact ancs_ok hc i m e hi j (by simpa using hj)
 refine wp_region_inv hm hB (fun D a w=>∃ s,InvG N M a0 G sp l D a w s) ⟨0,⟨hN,rfl,fun _ _=>rfl⟩,h0,Nat.zero_le _,fun _ _ _ h=>(by cases h),fun _ _ _ _=>⟨fun h=>(by cases h),fun h=>absurd h (Nat.not_lt_zero _)⟩,fun _ _ _ h=>(by cases h)⟩ ?_ (fun D a w hI hall=>?_)
 ·suffices ∀ (l':List Oper) (k:Nat),(∀ (j:Nat) (o:Oper),l'[j]? = some o → l[k + j]? = some o) → Steps1 P l.toArray Q (fun D a w=>∃ s,InvG N M a0 G sp l D a w s) l' k from this l 0 (fun j o h=>by simpa using h)
  intro l'
  induction l' with
  | nil=>intro k _; trivial
  | cons o l' ih=>
   intro k hk
   refine ⟨?_,ih (k + 1) (fun j o' h=>by have:=hk (j + 1) o' (by simpa using h); rw [show k + 1 + j = k + (j + 1) by omega]; exact this)⟩
   rintro D a w ⟨s,hI⟩ hD hdep K hK
   have hko:l[k]? = some o:=by simpa using hk 0 o rfl
   obtain ⟨e,he,hob⟩:=ObsG.get l sp hs k o hko
   have hgo:o.guard = none:=by have:=hgd o (List.mem_of_getElem? hko); simpa using this
   rw [if_pos (by simp [Region.wanted,hgo])]
   obtain ⟨hd1,hlo,hhi,hmm⟩:=hrow k e he
   have hmem:e ∈ sp:=List.mem_of_getElem? he
   -- whatever stands ahead of k has come up
   have hup:∀ j ∈ (ancs l).getD k [],j ≠ k → D j = true:=fun j hj hjk=>by
    have hcl':closedD l (seen D k):=fun i o' ho' hi x hx hb=>by
     by_cases hik:i = k
     ·subst hik
      rw [hko] at ho'; cases ho'
      have:=hdep x hx hb
      by_cases hxk:x.on = i
      ·rw [hxk]; exact hself _ _
      ·rw [hoth _ _ _ hxk]; exact this
     ·rw [hoth _ _ _ hik] at hi
      have:=hI.cl i o' ho' hi x hx hb
      by_cases hxk:x.on = k
      ·rw [hxk]; exact hself _ _
      ·rw [hoth _ _ _ hxk]; exact this
    have:=hanc _ hcl' k j (hself _ _) hj
    rwa [hoth _ _ _ hjk] at this
   have hcl:closedD l (seen D k):=fun i o' ho' hi x hx hb=>by
    by_cases hxk:x.on = k
    ·rw [hxk]; exact hself _ _
    ·rw [hoth _ _ _ hxk]
     by_cases hik:i = k
     ·subst hik
      rw [hko] at ho'; cases ho'
      exact hdep x hx hb
     ·rw [hoth _ _ _ hik] at hi
      exact hI.cl i o' ho' hi x hx hb
   have hsl:e.lo ≤ s:=by
    rcases hlo with h | ⟨j,e',he',hm',hl',hj⟩
    ·omega
    ·have hjk:j ≠ k:=fun h=>by
      subst h; rw [he] at he'; cases he'; omega
     have:=(hI.mem j e' he' hm').1 (hup j hj hjk)
     omega
   have hsh:s ≤ e.hi:=by
    rcases hhi with h | ⟨j,e',he',hm',hl',hj⟩
    ·rw [h]; exact hI.hM
    ·have hjD:D j = false:=by
      cases h:D j
      ·rfl
      ·have:=hanc _ hI.cl j k h hj
       rw [hD] at this; cases this
     have:¬ e'.lo < s:=fun h=>by rw [(hI.mem j e' he' hm').2 h] at hjD; cases hjD
     omega
   have hdp:DepG sp o s a w:=fun x hx hb e' he' d hd=>hI.f _ _ he' (hdep x hx hb) d hd
   have hput:∀ (v:Value),GrD N a0 (dsG sp) (a.put e.d v):=fun v=>by
    refine ⟨by rw [act_size]; exact hI.g.sz,by rw [act_defers]; exact hI.g.df,fun t ht=>?_⟩
    cases hd:e.d with
    | none=>exact hI.g.kp t ht
    | some d=>rw [act_ne (fun h=>ht (by rw [h]; exact List.mem_filterMap.2 ⟨e,hmem,hd⟩))]; exact hI.g.kp t ht
   have hslot:∀ (v:Value) (s':Nat) (w':World),(e.R s' v w') → (∀ (j:Nat) (e':FactG),sp[j]? = some e' → D j = true → ∀ d,e'.d = some d → e'.R s' (a.eval (.tmp d)) w') →
     ∀ (j:Nat) (e':FactG),sp[j]? = some e' → seen D k j = true → ∀ d,e'.d = some d → e'.R s' ((a.put e.d v).eval (.tmp d)) w':=fun v s' w' hv hf j e' he' hj d hd=>by
    by_cases hjk:j = k
    ·subst hjk
     rw [he] at he'; cases he'
     rw [hd,act_same (by rw [hI.g.sz]; exact (hd1 d hd).1)]; exact hv
    ·rw [hoth _ _ _ hjk] at hj
     cases hde:e.d with
     | none=>exact hf j e' he' hj d hd
     | some d2=>
      rw [act_ne (fun h=>(hd1 d2 hde).2 j e' he' (fun h2=>hjk h2.symm) (by rw [hd,h]))]
      exact hf j e' he' hj d hd
   have hdo:e.d = o.dst:=hdst k e o he hko
   unfold ObG at hob
   cases hem:e.mem with
   | false=>
    rw [hem] at hob
    refine hob s hsl hsh a w hI.g hI.hG hdp K (fun v hv=>hK _ _ ⟨s,hput v,hI.hG,hI.hM,hcl,fun i e' he' hm'=>?_,hslot v s w hv hI.f⟩)
    have hik:i ≠ k:=fun h=>by subst h; rw [he] at he'; cases he'; rw [hem] at hm'; cases hm'
    rw [hoth _ _ _ hik]
    exact hI.mem i e' he' hm'
   | true=>
    rw [hem] at hob
    obtain ⟨m1,m2,m3⟩:=hmm hem
    have hse:s = e.lo:=by omega
    subst hse
    refine hob a w hI.g hI.hG hdp K (fun v w' ht hg' hv=>hK _ _ ⟨e.lo + 1,hput v,hg',by omega,hcl,fun i e' he' hm'=>?_,hslot v _ w' hv (fun j e' he' hj d hd=>hkeep e' (List.mem_of_getElem? he') _ _ w w' (fun hm'=>(hI.mem j e' he' hm').1 hj) (by omega) ht (hI.f j e' he' hj d hd))⟩)
    by_cases hik:i = k
    ·subst hik
     rw [he] at he'; cases he'
     exact ⟨fun _=>by omega,fun _=>hself _ _⟩
    ·rw [hoth _ _ _ hik,hI.mem i e' he' hm']
     have:=m3 i e' he' (fun h=>hik h.symm) hm'
     omega
 ·obtain ⟨s,hI⟩:=hI
  have hsM:s = M ∨ s < M:=by have:=hI.hM; omega
  have hsM:s = M:=by
   rcases hsM with h | h
   ·exact h
   ·exfalso
    simp only [Bool.or_eq_true,beq_iff_eq,List.any_eq_true,Bool.and_eq_true,List.mem_map] at hlast
    rcases hlast with h2 | ⟨r,⟨e,he,rfl⟩,hm',hl'⟩
    ·omega
    ·obtain ⟨j,hj⟩:=List.mem_iff_getElem?.1 he
     have hl2:e.lo + 1 = M:=hl'
     have:=(hI.mem j e hj hm').1 (hall j (by have:=(List.getElem?_eq_some_iff.1 hj).1; omega))
     omega
  subst hsM
  have hfill:a = fillF a0 (dsG sp) (fun d=>a.eval (.tmp d)):=by
   refine act_ext (by rw [fillF_size,hN]; exact hI.g.sz) (by rw [fillF_defers]; exact hI.g.df) (fun t ht=>?_)
   rw [fillF_eval _ _ a0 t (by rw [hN,← hI.g.sz]; exact ht)]
   by_cases h1:t ∈ dsG sp
   ·simp [h1]
   ·simp [h1,hI.g.kp t h1]
  rw [hfill]
  refine hend _ w hI.hG (fun e he d hd=>?_)
  obtain ⟨j,hj⟩:=List.mem_iff_getElem?.1 he
  exact hI.f j e hj (hall j (by have:=(List.getElem?_eq_some_iff.1 hj).1; omega)) d hd
end
end Go.Proofs.Ytkolacaceaamoaa
/- A region that draws its order, whose memory turns in stages, and some of whose operations are guarded. -/
namespace Go.Proofs.Ytkolacaceaamoaa
open Go.RowKit
section
variable {P:Program} {Q:Exit → Act → World → Prop}
def stageOkW (N M:Nat) (rs:List Row4) (l:List Oper):Bool:=
 decide (l.length = rs.length) && (M == 0 || rs.any (fun r=>r.mem && r.lo + 1 == M)) &&
 (rs.zip l).all (fun x=>x.1.d == x.2.dst) &&
 (List.range rs.length).all (fun i=>match rs[i]? with
  | none=>false
  | some r=>
   (match r.d with | none=>true | some d=>decide (d < N) && (List.range rs.length).all fun j=>i == j || (match rs[j]? with | some r'=>r'.d != some d | none=>true)) &&
   (r.lo == 0 || (List.range rs.length).any fun j=>(match rs[j]? with | some r'=>r'.mem && r'.lo + 1 == r.lo | none=>false) && ((ancs l).getD i []).contains j) &&
   (r.hi == M || (List.range rs.length).any fun j=>(match rs[j]? with | some r'=>r'.mem && r'.lo == r.hi | none=>false) && ((ancs l).getD j []).contains i) &&
   (!r.mem || (r.lo == r.hi && decide (r.hi < M) && (List.range rs.length).all fun j=>i == j || (match rs[j]? with | some r'=>!r'.mem || r'.lo != r.lo | none=>true))))
/-- A slot that an operation behind the k-th writes holds what it held. -/
def OldW (a0:Act) (sp:List FactG) (l:List Oper) (k:Nat) (a:Act):Prop:=∀ (j d:Nat),j ≠ k → (sp[j]?).bind FactG.d = some d → ((ancs l).getD j []).contains k = true → a.eval (.tmp d) = a0.eval (.tmp d)
def UnW (a0:Act) (sp:List FactG) (D:Nat → Bool) (a:Act):Prop:=∀ (j:Nat) (e:FactG),sp[j]? = some e → D j = false → ∀ d,e.d = some d → a.eval (.tmp d) = a0.eval (.tmp d)
def ObW (P:Program) (Q:Exit → Act → World → Prop) (N:Nat) (a0:Act) (ds:List Nat) (G:Nat → World → Prop) (T:Nat → World → World → Prop) (sp:List FactG) (l:List Oper) (k:Nat) (o:Oper) (e:FactG):Prop:=
 match e.mem with
 | false=>∀ s,e.lo ≤ s → s ≤ e.hi → ∀ a w,GrD N a0 ds a → G s w → DepG sp o s a w → OldW a0 sp l k a → ∀ K:Act → World → Prop,(∀ v,e.R s v w → K (a.put e.d v) w) → if Region.wanted o (yielded l.toArray a.tmps) then o.wp P a w K Q else K (a.put o.dst undef) w
 | true=>∀ a w,GrD N a0 ds a → G e.lo w → DepG sp o e.lo a w → OldW a0 sp l k a → ∀ K:Act → World → Prop,(∀ v w',T e.lo w w' → G (e.lo + 1) w' → e.R (e.lo + 1) v w' → K (a.put e.d v) w') → if Region.wanted o (yielded l.toArray a.tmps) then o.wp P a w K Q else K (a.put o.dst undef) w
def ObsW (P:Program) (Q:Exit → Act → World → Prop) (N:Nat) (a0:Act) (ds:List Nat) (G:Nat → World → Prop) (T:Nat → World → World → Prop) (sp:List FactG) (l:List Oper):Nat → List Oper → List FactG → Prop
 | k,o :: os,e :: es=>ObW P Q N a0 ds G T sp l k o e ∧ ObsW P Q N a0 ds G T sp l (k + 1) os es
 | _,[],[]=>True
 | _,_,_=>False
theorem ObsW.get {N:Nat} {a0:Act} {ds:List Nat} {G:Nat → World → Prop} {T:Nat → World → World → Prop} {sp:List FactG} {l:List Oper}:∀ (os:List Oper) (es:List FactG) (k:Nat),ObsW P Q N a0 ds G T sp l k os es → ∀ (j:Nat) (o:Oper),os[j]? = some o →
  ∃ e:FactG,es[j]? = some e ∧ ObW P Q N a0 ds G T sp l (k + j) o e
 | o' :: os,e' :: es,k,h,0,o,ho=>by simp at ho; subst ho; exact ⟨e',rfl,h.1⟩
 | o' :: os,e' :: es,k,h,j + 1,o,ho=>by
  obtain ⟨e,h1,h2⟩:=ObsW.get os es (k + 1) h.2 j o (by simpa using ho)
  exact ⟨e,by simpa using h1,by rw [show k + (j + 1) = k + 1 + j by omega]; exact h2⟩
 | [],[],_,_,j,o,ho=>by simp at ho
 | _ :: _,[],_,h,_,_,_=>by simp [ObsW] at h
 | [],_ :: _,_,h,_,_,_=>by simp [ObsW] at h
/-- **A REGION THAT DRAWS ITS ORDER, STAGE BY STAGE, its operations guarded or not.** -/
theorem wp_region_stageW {id:Nat} {a0:Act} {w0:World} {l:List Oper} (hm:P.follows .mixedOrders = true) (hB:edgesBack l = true) (N M:Nat) (sp:List FactG) (G:Nat → World → Prop) (T:Nat → World → World → Prop)
  (ds:List Nat) (hds:dsG sp = ds) (hok:stageOkW N M (sp.map FactG.row) l = true) (hN:a0.tmps.size = N)
  (h0:G 0 w0.drew)
  (hkeep:∀ e ∈ sp,∀ s v w w',(e.mem = true → e.lo < s) → e.lo ≤ s → s < M → T s w w' → e.R s v w → e.R (s + 1) v w')
  (hs:ObsW P Q N a0 ds G T sp l 0 l sp)
  (hend:∀ (f:Nat → Value) w,G M w → (∀ e ∈ sp,∀ d,e.d = some d → e.R M (f d) w) → Q .normal (fillF a0 ds f) w):(Code.region id l.toArray true).wp P Q a0 w0:=by
 subst hds
 unfold stageOkW at hok
 simp only [Bool.and_eq_true,List.all_eq_true,decide_eq_true_eq,List.length_map,List.mem_range] at hok
 obtain ⟨⟨⟨h4,hlast⟩,hzip⟩,hks⟩:=hok
 have hself:∀ (D:Nat → Bool) (i:Nat),seen D i i = true:=fun D i=>by simp [seen]
 have hoth:∀ (D:Nat → Bool) (i j:Nat),j ≠ i → seen D i j = D j:=fun D i j h=>by simp [seen,h]
 have hdst:∀ (i:Nat) (e:FactG) (o:Oper),sp[i]? = some e → l[i]? = some o → e.d = o.dst:=fun i e o he ho=>by
  have:=hzip (e.row,o) (by
   refine List.mem_of_getElem? (i:=i) ?_
   rw [List.getElem?_zip_eq_some]
   exact ⟨by rw [List.getElem?_map,he]; rfl,ho⟩)
  simpa [FactG.row] using this
 have hrow:∀ (i:Nat) (e:FactG),sp[i]? = some e →
   (∀ d,e.d = some d → d < N ∧ ∀ (j:Nat) (e':FactG),sp[j]? = some e' → i ≠ j → e'.d ≠ some d) ∧
   (e.lo = 0 ∨ ∃ (j:Nat) (e':FactG),sp[j]? = some e' ∧ e'.mem = true ∧ e'.lo + 1 = e.lo ∧ j ∈ (ancs l).getD i []) ∧
   (e.hi = M ∨ ∃ (j:Nat) (e':FactG),sp[j]? = some e' ∧ e'.mem = true ∧ e'.lo = e.hi ∧ i ∈ (ancs l).getD j []) ∧
   (e.mem = true → e.lo = e.hi ∧ e.hi < M ∧ ∀ (j:Nat) (e':FactG),sp[j]? = some e' → i ≠ j → e'.mem = true → e'.lo ≠ e.lo):=fun i e he=>by
  have hi:=(List.getElem?_eq_some_iff.1 he).1
  have h:=hks i hi
  rw [List.getElem?_map,he] at h
  simp only [Option.map_some,Bool.and_eq_true,Bool.or_eq_true,beq_iff_eq,List.any_eq_true,List.mem_range,List.contains_iff_mem] at h
  obtain ⟨⟨⟨g1,g2⟩,g3⟩,g4⟩:=h
  refine ⟨fun d hd=>?_,?_,?_,fun hmm=>?_⟩
  ·rw [show (e.row).d = some d from hd] at g1
   simp only [Bool.and_eq_true,decide_eq_true_eq,List.all_eq_true,List.mem_range] at g1
   refine ⟨g1.1,fun j e' he' hij hd'=>?_⟩
   have:=g1.2 j (List.getElem?_eq_some_iff.1 he').1
   rw [List.getElem?_map,he'] at this
   simp [FactG.row,hd',hij] at this
  ·rcases g2 with g2 | ⟨j,hj,g2,g2'⟩
   ·exact .inl g2
   ·rw [List.getElem?_map,List.getElem?_eq_getElem hj] at g2
    simp [FactG.row] at g2
    exact .inr ⟨j,sp[j],List.getElem?_eq_getElem hj,g2.1,g2.2,g2'⟩
  ·rcases g3 with g3 | ⟨j,hj,g3,g3'⟩
   ·exact .inl g3
   ·rw [List.getElem?_map,List.getElem?_eq_getElem hj] at g3
    simp [FactG.row] at g3
    exact .inr ⟨j,sp[j],List.getElem?_eq_getElem hj,g3.1,g3.2,g3'⟩
  ·simp only [FactG.row,hmm,Bool.not_true,Bool.false_eq_true,false_or,decide_eq_true_eq,List.all_eq_true,List.mem_range] at g4
   refine ⟨g4.1.1,g4.1.2,fun j e' he' hij hm' hlo=>?_⟩
   have:=g4.2 j (List.getElem?_eq_some_iff.1 he').1
   rw [List.getElem?_map,he'] at this
   simp [FactG.row,hm',hlo,hij] at this
 have hanc:∀ (D:Nat → Bool),closedD l D → ∀ i j,D i = true → j ∈ (ancs l).getD i [] → D j = true:=fun D hc i j hi hj=>by
  rw [List.getD_eq_getElem?_getD] at hj
  cases e:(ancs l)[i]? with
  | none=>rw [e] at hj; simp at hj
  | some m=>rw [e] at hj; exact ancs_ok hc i m e hi j (by simpa using hj)
 refine wp_region_inv hm hB (fun D a w=>∃ s,InvG N M a0 G sp l D a w s ∧ UnW a0 sp D a) ⟨0,⟨⟨hN,rfl,fun _ _=>rfl⟩,h0,Nat.zero_le _,fun _ _ _ h=>(by cases h),fun _ _ _ _=>⟨fun h=>(by cases h),fun h=>absurd h (Nat.not_lt_zero _)⟩,fun _ _ _ h=>(by cases h)⟩,fun _ _ _ _ _ _=>rfl⟩ ?_ (fun D a w hI hall=>?_)
 ·suffices ∀ (l':List Oper) (k:Nat),(∀ (j:Nat) (o:Oper),l'[j]? = some o → l[k + j]? = some o) → Steps1 P l.toArray Q (fun D a w=>∃ s,InvG N M a0 G sp l D a w s ∧ UnW a0 sp D a) l' k from this l 0 (fun j o h=>by simpa using h)
  intro l'
  induction l' with
  | nil=>intro k _; trivial
  | cons o l' ih=>
   intro k hk
   refine ⟨?_,ih (k + 1) (fun j o' h=>by have:=hk (j + 1) o' (by simpa using h); rw [show k + 1 + j = k + (j + 1) by omega]; exact this)⟩
   rintro D a w ⟨s,hI,hU⟩ hD hdep K hK
   have hko:l[k]? = some o:=by simpa using hk 0 o rfl
   obtain ⟨e,he,hob⟩:=ObsW.get l sp 0 hs k o hko
   rw [Nat.zero_add] at hob
   obtain ⟨hd1,hlo,hhi,hmm⟩:=hrow k e he
   have hmem:e ∈ sp:=List.mem_of_getElem? he
   -- whatever stands ahead of k has come up
   have hup:∀ j ∈ (ancs l).getD k [],j ≠ k → D j = true:=fun j hj hjk=>by
    have hcl':closedD l (seen D k):=fun i o' ho' hi x hx hb=>by
     by_cases hik:i = k
     ·subst hik
      rw [hko] at ho'; cases ho'
      have:=hdep x hx hb
      by_cases hxk:x.on = i
      ·rw [hxk]; exact hself _ _
      ·rw [hoth _ _ _ hxk]; exact this
     ·rw [hoth _ _ _ hik] at hi
      have:=hI.cl i o' ho' hi x hx hb
      by_cases hxk:x.on = k
      ·rw [hxk]; exact hself _ _
      ·rw [hoth _ _ _ hxk]; exact this
    have:=hanc _ hcl' k j (hself _ _) hj
    rwa [hoth _ _ _ hjk] at this
   have hcl:closedD l (seen D k):=fun i o' ho' hi x hx hb=>by
    by_cases hxk:x.on = k
    ·rw [hxk]; exact hself _ _
    ·rw [hoth _ _ _ hxk]
     by_cases hik:i = k
     ·subst hik
      rw [hko] at ho'; cases ho'
      exact hdep x hx hb
     ·rw [hoth _ _ _ hik] at hi
      exact hI.cl i o' ho' hi x hx hb
   have hsl:e.lo ≤ s:=by
    rcases hlo with h | ⟨j,e',he',hm',hl',hj⟩
    ·omega
    ·have hjk:j ≠ k:=fun h=>by
      subst h; rw [he] at he'; cases he'; omega
     have:=(hI.mem j e' he' hm').1 (hup j hj hjk)
     omega
   have hsh:s ≤ e.hi:=by
    rcases hhi with h | ⟨j,e',he',hm',hl',hj⟩
    ·rw [h]; exact hI.hM
    ·have hjD:D j = false:=by
      cases h:D j
      ·rfl
      ·have:=hanc _ hI.cl j k h hj
       rw [hD] at this; cases this
     have:¬ e'.lo < s:=fun h=>by rw [(hI.mem j e' he' hm').2 h] at hjD; cases hjD
     omega
   have hdp:DepG sp o s a w:=fun x hx hb e' he' d hd=>hI.f _ _ he' (hdep x hx hb) d hd
   have hput:∀ (v:Value),GrD N a0 (dsG sp) (a.put e.d v):=fun v=>by
    refine ⟨by rw [act_size]; exact hI.g.sz,by rw [act_defers]; exact hI.g.df,fun t ht=>?_⟩
    cases hd:e.d with
    | none=>exact hI.g.kp t ht
    | some d=>rw [act_ne (fun h=>ht (by rw [h]; exact List.mem_filterMap.2 ⟨e,hmem,hd⟩))]; exact hI.g.kp t ht
   have hslot:∀ (v:Value) (s':Nat) (w':World),(e.R s' v w') → (∀ (j:Nat) (e':FactG),sp[j]? = some e' → D j = true → ∀ d,e'.d = some d → e'.R s' (a.eval (.tmp d)) w') →
     ∀ (j:Nat) (e':FactG),sp[j]? = some e' → seen D k j = true → ∀ d,e'.d = some d → e'.R s' ((a.put e.d v).eval (.tmp d)) w':=fun v s' w' hv hf j e' he' hj d hd=>by
    by_cases hjk:j = k
    ·subst hjk
     rw [he] at he'; cases he'
     rw [hd,act_same (by rw [hI.g.sz]; exact (hd1 d hd).1)]; exact hv
    ·rw [hoth _ _ _ hjk] at hj
     cases hde:e.d with
     | none=>exact hf j e' he' hj d hd
     | some d2=>
      rw [act_ne (fun h=>(hd1 d2 hde).2 j e' he' (fun h2=>hjk h2.symm) (by rw [hd,h]))]
      exact hf j e' he' hj d hd
   have hdo:e.d = o.dst:=hdst k e o he hko
   have hlo':∀ (j:Nat) (e':FactG),sp[j]? = some e' → D j = true → e'.lo ≤ s:=fun j e' he' hj=>by
    rcases (hrow j e' he').2.1 with h | ⟨i2,e2,he2,hm2,hl2,hi2⟩
    ·omega
    ·have h1:=(hI.mem i2 e2 he2 hm2).1 (hanc _ hI.cl j i2 hj hi2)
     omega
   have hold:OldW a0 sp l k a:=fun j d hjk hj hc=>by
    obtain ⟨e',he',hd⟩:=Option.bind_eq_some_iff.1 hj
    refine hU j e' he' ?_ d hd
    cases h:D j
    ·rfl
    ·have:=hanc _ hI.cl j k h (by simpa using hc)
     rw [hD] at this; cases this
   have hUput:∀ v:Value,UnW a0 sp (seen D k) (a.put e.d v):=fun v j e' he' hj d hd=>by
    have hjk:j ≠ k:=fun h=>by subst h; rw [hself] at hj; cases hj
    rw [hoth _ _ _ hjk] at hj
    cases hde:e.d with
    | none=>exact hU j e' he' hj d hd
    | some d2=>
     rw [act_ne (fun h=>(hd1 d2 hde).2 j e' he' (fun h2=>hjk h2.symm) (by rw [hd,h]))]
     exact hU j e' he' hj d hd
   unfold ObW at hob
   cases hem:e.mem with
   | false=>
    rw [hem] at hob
    refine hob s hsl hsh a w hI.g hI.hG hdp hold K (fun v hv=>hK _ _ ⟨s,⟨hput v,hI.hG,hI.hM,hcl,fun i e' he' hm'=>?_,hslot v s w hv hI.f⟩,hUput v⟩)
    have hik:i ≠ k:=fun h=>by subst h; rw [he] at he'; cases he'; rw [hem] at hm'; cases hm'
    rw [hoth _ _ _ hik]
    exact hI.mem i e' he' hm'
   | true=>
    rw [hem] at hob
    obtain ⟨m1,m2,m3⟩:=hmm hem
    have hse:s = e.lo:=by omega
    subst hse
    refine hob a w hI.g hI.hG hdp hold K (fun v w' ht hg' hv=>hK _ _ ⟨e.lo + 1,⟨hput v,hg',by omega,hcl,fun i e' he' hm'=>?_,hslot v _ w' hv (fun j e' he' hj d hd=>hkeep e' (List.mem_of_getElem? he') _ _ w w' (fun hm'=>(hI.mem j e' he' hm').1 hj) (hlo' j e' he' hj) (by omega) ht (hI.f j e' he' hj d hd))⟩,hUput v⟩)
    by_cases hik:i = k
    ·subst hik
     rw [he] at he'; cases he'
     exact ⟨fun _=>by omega,fun _=>hself _ _⟩
    ·rw [hoth _ _ _ hik,hI.mem i e' he' hm']
     have:=m3 i e' he' (fun h=>hik h.symm) hm'
     omega
 ·obtain ⟨s,hI,_⟩:=hI
  have hsM:s = M ∨ s < M:=by have:=hI.hM; omega
  have hsM:s = M:=by
   rcases hsM with h | h
   ·exact h
   ·exfalso
    simp only [Bool.or_eq_true,beq_iff_eq,List.any_eq_true,Bool.and_eq_true,List.mem_map] at hlast
    rcases hlast with h2 | ⟨r,⟨e,he,rfl⟩,hm',hl'⟩
    ·omega
    ·obtain ⟨j,hj⟩:=List.mem_iff_getElem?.1 he
     have hl2:e.lo + 1 = M:=hl'
     have:=(hI.mem j e hj hm').1 (hall j (by have:=(List.getElem?_eq_some_iff.1 hj).1; omega))
     omega
  subst hsM
  have hfill:a = fillF a0 (dsG sp) (fun d=>a.eval (.tmp d)):=by
   refine act_ext (by rw [fillF_size,hN]; exact hI.g.sz) (by rw [fillF_defers]; exact hI.g.df) (fun t ht=>?_)
   rw [fillF_eval _ _ a0 t (by rw [hN,← hI.g.sz]; exact ht)]
   by_cases h1:t ∈ dsG sp
   ·simp [h1]
   ·simp [h1,hI.g.kp t h1]
  rw [hfill]
  refine hend _ w hI.hG (fun e he d hd=>?_)
  obtain ⟨j,hj⟩:=List.mem_iff_getElem?.1 he
  exact hI.f j e hj (hall j (by have:=(List.getElem?_eq_some_iff.1 hj).1; omega)) d hd
end
end Go.Proofs.Ytkolacaceaamoaa
/- A region that draws its order, whose memory turns in stages that part and meet again. -/
namespace Go.Proofs.Ytkolacaceaamoaa
open Go.RowKit
/-- A row: its slot, the stages in which it may come up, (for what turns memory) its moves and the stages behind it, rows that stand ahead of it, slots of such rows that its fact looks at, its fact. -/
structure FactH where
 d:Option Nat
 st:List Nat
 mv:List (Nat × Nat)
 aft:List Nat
 an:List Nat
 dep:List Nat
 R:Nat → Act → Value → World → Prop
structure RowH where
 d:Option Nat
 st:List Nat
 mv:List (Nat × Nat)
 aft:List Nat
 an:List Nat
 dep:List Nat
def FactH.row (e:FactH):RowH:=⟨e.d,e.st,e.mv,e.aft,e.an,e.dep⟩
def dsH (sp:List FactH):List Nat:=sp.filterMap (·.d)
def dagRow (N M:Nat) (rs:List RowH) (l:List Oper) (i:Nat) (r:RowH):Bool:=
 (match r.d with | none=>true | some d=>decide (d < N) && (List.range rs.length).all fun j=>i == j || (match rs[j]? with | some r'=>r'.d != some d | none=>true)) &&
 ((List.range (M + 1)).all (fun s=>r.st.contains s || (List.range rs.length).any fun j=>match rs[j]? with
  | some r'=>!r'.mv.isEmpty && ((i != j && ((ancs l).getD i []).contains j && !r'.aft.contains s) || (((ancs l).getD j []).contains i && r'.aft.contains s))
  | none=>false)) &&
 (r.mv.all (fun m=>decide (m.2 ≤ M) && r.aft.contains m.2 && (List.range rs.length).all fun j=>i == j || (match rs[j]? with | some r'=>r'.mv.isEmpty || (r'.aft.contains m.2 == r'.aft.contains m.1) | none=>true))) &&
 (r.mv.isEmpty || (!r.aft.contains 0 && r.st.all (fun s=>r.mv.any (fun m=>m.1 == s)))) &&
 (r.an.all (fun j=>j != i && ((ancs l).getD i []).contains j)) &&
 (r.dep.all (fun d=>r.an.any (fun j=>match rs[j]? with | some r'=>r'.d == some d | none=>false)))
def dagOk (N M:Nat) (rs:List RowH) (l:List Oper):Bool:=
 decide (l.length = rs.length) && l.all (fun o=>o.guard.isNone) && (rs.zip l).all (fun x=>x.1.d == x.2.dst) &&
 (List.range rs.length).all (fun i=>match rs[i]? with | none=>false | some r=>dagRow N M rs l i r) &&
 (List.range M).all (fun s=>(List.range rs.length).any fun j=>match rs[j]? with | some r=>!r.mv.isEmpty && !r.aft.contains s | none=>false)
section
variable {P:Program} {Q:Exit → Act → World → Prop}
def DepH (sp:List FactH) (e:FactH) (s:Nat) (a:Act) (w:World):Prop:=∀ j ∈ e.an,∀ e':FactH,sp[j]? = some e' → ∀ d,e'.d = some d → e'.R s a (a.eval (.tmp d)) w
def ObH (P:Program) (Q:Exit → Act → World → Prop) (N:Nat) (a0:Act) (ds:List Nat) (G:Nat → World → Prop) (T:Nat → Nat → Act → World → World → Prop) (U:Nat → World → World → Prop) (sp:List FactH) (o:Oper) (e:FactH):Prop:=
 match e.mv with
 | []=>∀ s,s ∈ e.st → ∀ a w,GrD N a0 ds a → G s w → DepH sp e s a w → ∀ K:Act → World → Prop,(∀ v w',U s w w' → e.R s a v w' → K (a.put e.d v) w') → o.wp P a w K Q
 | _ :: _=>∀ s s',(s,s') ∈ e.mv → ∀ a w,GrD N a0 ds a → G s w → DepH sp e s a w → ∀ K:Act → World → Prop,(∀ v w',T s s' a w w' → G s' w' → e.R s' a v w' → K (a.put e.d v) w') → o.wp P a w K Q
def ObsH (P:Program) (Q:Exit → Act → World → Prop) (N:Nat) (a0:Act) (ds:List Nat) (G:Nat → World → Prop) (T:Nat → Nat → Act → World → World → Prop) (U:Nat → World → World → Prop) (sp:List FactH):List Oper → List FactH → Prop
 | o :: os,e :: es=>ObH P Q N a0 ds G T U sp o e ∧ ObsH P Q N a0 ds G T U sp os es
 | [],[]=>True
 | _,_=>False
theorem ObsH.get {N:Nat} {a0:Act} {ds:List Nat} {G:Nat → World → Prop} {T:Nat → Nat → Act → World → World → Prop} {U:Nat → World → World → Prop} {sp:List FactH}:∀ (os:List Oper) (es:List FactH),ObsH P Q N a0 ds G T U sp os es → ∀ (j:Nat) (o:Oper),os[j]? = some o →
  ∃ e:FactH,es[j]? = some e ∧ ObH P Q N a0 ds G T U sp o e
 | o' :: os,e' :: es,h,0,o,ho=>by simp at ho; subst ho; exact ⟨e',rfl,h.1⟩
 | o' :: os,e' :: es,h,j + 1,o,ho=>by
  obtain ⟨e,h1,h2⟩:=ObsH.get os es h.2 j o (by simpa using ho)
  exact ⟨e,by simpa using h1,h2⟩
 | [],[],_,j,o,ho=>by simp at ho
 | _ :: _,[],h,_,_,_=>by simp [ObsH] at h
 | [],_ :: _,h,_,_,_=>by simp [ObsH] at h
structure InvH (N M:Nat) (a0:Act) (G:Nat → World → Prop) (sp:List FactH) (l:List Oper) (D:Nat → Bool) (a:Act) (w:World) (s:Nat):Prop where
 g:GrD N a0 (dsH sp) a
 hG:G s w
 hM:s ≤ M
 cl:closedD l D
 mem:∀ (i:Nat) (e:FactH),sp[i]? = some e → e.mv.isEmpty = false → (D i = true ↔ s ∈ e.aft)
 f:∀ (j:Nat) (e:FactH),sp[j]? = some e → D j = true → ∀ d,e.d = some d → e.R s a (a.eval (.tmp d)) w
/-- **A REGION THAT DRAWS ITS ORDER, WHOSE STAGES PART AND MEET.** -/
theorem wp_region_dag {id:Nat} {a0:Act} {w0:World} {l:List Oper} (hm:P.follows .mixedOrders = true) (hB:edgesBack l = true) (N M:Nat) (sp:List FactH) (G:Nat → World → Prop) (T:Nat → Nat → Act → World → World → Prop) (U:Nat → World → World → Prop)
  (hGU:∀ s w w',G s w → U s w w' → G s w') (hRU:∀ e ∈ sp,∀ s a v w w',U s w w' → e.R s a v w → e.R s a v w')
  (hput:∀ e ∈ sp,∀ s a d u v w,d ∉ e.dep → e.R s a v w → e.R s (a.put (some d) u) v w)
  (ds:List Nat) (hds:dsH sp = ds) (hok:dagOk N M (sp.map FactH.row) l = true) (hN:a0.tmps.size = N)
  (h0:G 0 w0.drew)
  (hkeep:∀ e ∈ sp,∀ s s' a v w w',(∀ d,e.d = some d → v = a.eval (.tmp d)) → (e.mv.isEmpty = false → s ∈ e.aft) → T s s' a w w' → e.R s a v w → e.R s' a v w')
  (hs:ObsH P Q N a0 ds G T U sp l sp)
  (hend:∀ (f:Nat → Value) w,G M w → (∀ e ∈ sp,∀ d,e.d = some d → e.R M (fillF a0 ds f) (f d) w) → Q .normal (fillF a0 ds f) w):(Code.region id l.toArray true).wp P Q a0 w0:=by
 subst hds
 unfold dagOk at hok
 simp only [Bool.and_eq_true,List.all_eq_true,decide_eq_true_eq,List.length_map,List.mem_range] at hok
 obtain ⟨⟨⟨⟨h4,hgd⟩,hzip⟩,hks⟩,hfin⟩:=hok
 have hself:∀ (D:Nat → Bool) (i:Nat),seen D i i = true:=fun D i=>by simp [seen]
 have hoth:∀ (D:Nat → Bool) (i j:Nat),j ≠ i → seen D i j = D j:=fun D i j h=>by simp [seen,h]
 have hdst:∀ (i:Nat) (e:FactH) (o:Oper),sp[i]? = some e → l[i]? = some o → e.d = o.dst:=fun i e o he ho=>by
  have:=hzip (e.row,o) (by
   refine List.mem_of_getElem? (i:=i) ?_
   rw [List.getElem?_zip_eq_some]
   exact ⟨by rw [List.getElem?_map,he]; rfl,ho⟩)
  simpa [FactH.row] using this
 have hrow:∀ (i:Nat) (e:FactH),sp[i]? = some e →
   (∀ d,e.d = some d → d < N ∧ ∀ (j:Nat) (e':FactH),sp[j]? = some e' → i ≠ j → e'.d ≠ some d) ∧
   (∀ s,s ≤ M → s ∈ e.st ∨ ∃ (j:Nat) (e':FactH),sp[j]? = some e' ∧ e'.mv.isEmpty = false ∧ ((i ≠ j ∧ j ∈ (ancs l).getD i [] ∧ s ∉ e'.aft) ∨ (i ∈ (ancs l).getD j [] ∧ s ∈ e'.aft))) ∧
   (∀ m ∈ e.mv,m.2 ≤ M ∧ m.2 ∈ e.aft ∧ ∀ (j:Nat) (e':FactH),sp[j]? = some e' → i ≠ j → e'.mv.isEmpty = false → (m.2 ∈ e'.aft ↔ m.1 ∈ e'.aft)) ∧
   (e.mv.isEmpty = false → 0 ∉ e.aft ∧ ∀ s ∈ e.st,∃ m ∈ e.mv,m.1 = s) ∧
   (∀ j ∈ e.an,j ≠ i ∧ j ∈ (ancs l).getD i []) ∧
   (∀ d ∈ e.dep,∃ j ∈ e.an,∃ e':FactH,sp[j]? = some e' ∧ e'.d = some d):=fun i e he=>by
  have hi:=(List.getElem?_eq_some_iff.1 he).1
  have h:=hks i hi
  rw [List.getElem?_map,he] at h
  simp only [Option.map_some] at h
  unfold dagRow at h
  simp only [Bool.and_eq_true,Bool.or_eq_true,List.all_eq_true,List.length_map,List.mem_range] at h
  obtain ⟨⟨⟨⟨⟨g1,g2⟩,g3⟩,g4⟩,g7⟩,g8⟩:=h
  refine ⟨fun d hd=>?_,fun s hs=>?_,fun m hm'=>?_,fun hmm=>?_,fun j hj=>?_,fun d hd=>?_⟩
  ·rw [show (e.row).d = some d from hd] at g1
   simp only [Bool.and_eq_true,decide_eq_true_eq,List.all_eq_true,List.mem_range] at g1
   refine ⟨g1.1,fun j e' he' hij hd'=>?_⟩
   have:=g1.2 j (List.getElem?_eq_some_iff.1 he').1
   rw [List.getElem?_map,he'] at this
   simp [FactH.row,hd',hij] at this
  ·rcases g2 s (by omega) with g | g
   ·exact .inl (by simpa [FactH.row] using g)
   ·rw [List.any_eq_true] at g
    obtain ⟨j,hj,g⟩:=g
    rw [List.mem_range] at hj
    rw [List.getElem?_map,List.getElem?_eq_getElem hj] at g
    simp only [Option.map_some,FactH.row,Bool.and_eq_true,Bool.or_eq_true,Bool.not_eq_true',bne_iff_ne,List.contains_iff_mem] at g
    refine .inr ⟨j,sp[j],List.getElem?_eq_getElem hj,g.1,?_⟩
    rcases g.2 with ⟨⟨a1,a2⟩,a3⟩ | ⟨a1,a2⟩
    ·exact .inl ⟨a1,a2,fun h=>by rw [List.contains_iff_mem.2 h] at a3; cases a3⟩
    ·exact .inr ⟨a1,a2⟩
  ·have:=g3 m hm'
   simp only [decide_eq_true_eq,FactH.row,List.contains_iff_mem] at this
   refine ⟨this.1.1,this.1.2,fun j e' he' hij hm2=>?_⟩
   have h3:=this.2 j (List.getElem?_eq_some_iff.1 he').1
   rw [List.getElem?_map,he'] at h3
   simp only [Option.map_some,Bool.or_eq_true,beq_iff_eq] at h3
   rcases h3 with h3 | h3 | h3
   ·exact absurd h3 hij
   ·rw [show e'.row.mv = e'.mv from rfl,hm2] at h3; cases h3
   ·rw [← List.contains_iff_mem,← List.contains_iff_mem,show e'.aft = e'.row.aft from rfl,h3]
  ·rcases g4 with g4 | g4
   ·rw [show (e.row).mv = e.mv from rfl,hmm] at g4; cases g4
   ·obtain ⟨g4,g5⟩:=g4
    refine ⟨fun h=>(by rw [show e.row.aft = e.aft from rfl,List.contains_iff_mem.2 h] at g4; cases g4),fun s hs=>?_⟩
    have g6:=g5 s hs
    rw [List.any_eq_true] at g6
    obtain ⟨m,h1,h2⟩:=g6
    exact ⟨m,h1,by simpa using h2⟩
  ·have:=g7 j hj
   simp only [bne_iff_ne,List.contains_iff_mem] at this
   exact this
  ·have:=g8 d hd
   rw [List.any_eq_true] at this
   obtain ⟨j,hj,g⟩:=this
   cases hj':sp[j]? with
   | none=>rw [List.getElem?_map,hj'] at g; cases g
   | some e'=>
    rw [List.getElem?_map,hj'] at g
    simp only [Option.map_some,beq_iff_eq] at g
    exact ⟨j,hj,e',hj',g⟩
 have hanc:∀ (D:Nat → Bool),closedD l D → ∀ i j,D i = true → j ∈ (ancs l).getD i [] → D j = true:=fun D hc i j hi hj=>by
  rw [List.getD_eq_getElem?_getD] at hj
  cases e:(ancs l)[i]? with
  | none=>rw [e] at hj; simp at hj
  | some m=>rw [e] at hj; exact ancs_ok hc i m e hi j (by simpa using hj)
 refine wp_region_inv hm hB (fun D a w=>∃ s,InvH N M a0 G sp l D a w s) ⟨0,⟨hN,rfl,fun _ _=>rfl⟩,h0,Nat.zero_le _,fun _ _ _ h=>(by cases h),fun i e he hm'=>⟨fun h=>(by cases h),fun h=>absurd h ((hrow i e he).2.2.2.1 hm').1⟩,fun _ _ _ h=>(by cases h)⟩ ?_ (fun D a w hI hall=>?_)
 ·suffices ∀ (l':List Oper) (k:Nat),(∀ (j:Nat) (o:Oper),l'[j]? = some o → l[k + j]? = some o) → Steps1 P l.toArray Q (fun D a w=>∃ s,InvH N M a0 G sp l D a w s) l' k from this l 0 (fun j o h=>by simpa using h)
  intro l'
  induction l' with
  | nil=>intro k _; trivial
  | cons o l' ih=>
   intro k hk
   refine ⟨?_,ih (k + 1) (fun j o' h=>by have:=hk (j + 1) o' (by simpa using h); rw [show k + 1 + j = k + (j + 1) by omega]; exact this)⟩
   rintro D a w ⟨s,hI⟩ hD hdep K hK
   have hko:l[k]? = some o:=by simpa using hk 0 o rfl
   obtain ⟨e,he,hob⟩:=ObsH.get l sp hs k o hko
   have hgo:o.guard = none:=by have:=hgd o (List.mem_of_getElem? hko); simpa using this
   rw [if_pos (by simp [Region.wanted,hgo])]
   obtain ⟨hd1,hlo,hmv,hmm,han,hdep'⟩:=hrow k e he
   have hmem:e ∈ sp:=List.mem_of_getElem? he
   -- whatever stands ahead of k has come up
   have hup:∀ j ∈ (ancs l).getD k [],j ≠ k → D j = true:=fun j hj hjk=>by
    have hcl':closedD l (seen D k):=fun i o' ho' hi x hx hb=>by
     by_cases hik:i = k
     ·subst hik
      rw [hko] at ho'; cases ho'
      have:=hdep x hx hb
      by_cases hxk:x.on = i
      ·rw [hxk]; exact hself _ _
      ·rw [hoth _ _ _ hxk]; exact this
     ·rw [hoth _ _ _ hik] at hi
      have:=hI.cl i o' ho' hi x hx hb
      by_cases hxk:x.on = k
      ·rw [hxk]; exact hself _ _
      ·rw [hoth _ _ _ hxk]; exact this
    have:=hanc _ hcl' k j (hself _ _) hj
    rwa [hoth _ _ _ hjk] at this
   have hcl:closedD l (seen D k):=fun i o' ho' hi x hx hb=>by
    by_cases hxk:x.on = k
    ·rw [hxk]; exact hself _ _
    ·rw [hoth _ _ _ hxk]
     by_cases hik:i = k
     ·subst hik
      rw [hko] at ho'; cases ho'
      exact hdep x hx hb
     ·rw [hoth _ _ _ hik] at hi
      exact hI.cl i o' ho' hi x hx hb
   have hst:s ∈ e.st:=by
    rcases hlo s hI.hM with h | ⟨j,e',he',hm',⟨h1,h2,h3⟩ | ⟨h1,h2⟩⟩
    ·exact h
    ·exact absurd ((hI.mem j e' he' hm').1 (hup j h2 (fun h=>h1 h.symm))) h3
    ·have:=hanc _ hI.cl j k ((hI.mem j e' he' hm').2 h2) h1
     rw [hD] at this; cases this
   have hdp:DepH sp e s a w:=fun j hj e' he' d hd=>hI.f _ _ he' (hup j (han j hj).2 (han j hj).1) d hd
   have hnd:∀ (j:Nat) (e':FactH),sp[j]? = some e' → seen D k j = true → ∀ d,e.d = some d → d ∉ e'.dep:=fun j e' he' hj d hd hm'=>by
    obtain ⟨_,_,_,_,han',hde'⟩:=hrow j e' he'
    obtain ⟨i,hi,e2,he2,hd2⟩:=hde' d hm'
    obtain ⟨h1,h2⟩:=han' i hi
    have hik:i = k:=Classical.byContradiction fun hne=>(hd1 d hd).2 i e2 he2 (fun h=>hne h.symm) hd2
    subst hik
    have hji:j ≠ i:=fun h=>h1 h.symm
    rw [hoth _ _ _ hji] at hj
    have:=hanc _ hI.cl j i hj h2
    rw [hD] at this; cases this
   have hputg:∀ (v:Value),GrD N a0 (dsH sp) (a.put e.d v):=fun v=>by
    refine ⟨by rw [act_size]; exact hI.g.sz,by rw [act_defers]; exact hI.g.df,fun t ht=>?_⟩
    cases hd:e.d with
    | none=>exact hI.g.kp t ht
    | some d=>rw [act_ne (fun h=>ht (by rw [h]; exact List.mem_filterMap.2 ⟨e,hmem,hd⟩))]; exact hI.g.kp t ht
   have hslot:∀ (v:Value) (s':Nat) (w':World),(e.R s' a v w') → (∀ (j:Nat) (e':FactH),sp[j]? = some e' → D j = true → ∀ d,e'.d = some d → e'.R s' a (a.eval (.tmp d)) w') →
     ∀ (j:Nat) (e':FactH),sp[j]? = some e' → seen D k j = true → ∀ d,e'.d = some d → e'.R s' (a.put e.d v) ((a.put e.d v).eval (.tmp d)) w':=fun v s' w' hv hf j e' he' hj d hd=>by
    have hpt:∀ u,e'.R s' a u w' → e'.R s' (a.put e.d v) u w':=fun u hu=>by
     cases hde:e.d with
     | none=>exact hu
     | some d2=>exact hput e' (List.mem_of_getElem? he') s' a d2 v u w' (hnd j e' he' hj d2 hde) hu
    by_cases hjk:j = k
    ·subst hjk
     rw [he] at he'; cases he'
     refine hpt _ ?_
     rw [hd,act_same (by rw [hI.g.sz]; exact (hd1 d hd).1)]; exact hv
    ·refine hpt _ ?_
     rw [hoth _ _ _ hjk] at hj
     cases hde:e.d with
     | none=>exact hf j e' he' hj d hd
     | some d2=>
      rw [act_ne (fun h=>(hd1 d2 hde).2 j e' he' (fun h2=>hjk h2.symm) (by rw [hd,h]))]
      exact hf j e' he' hj d hd
   have hdo:e.d = o.dst:=hdst k e o he hko
   unfold ObH at hob
   cases hem:e.mv with
   | nil=>
    rw [hem] at hob
    refine hob s hst a w hI.g hI.hG hdp K (fun v w' hu hv=>hK _ _ ⟨s,hputg v,hGU s w w' hI.hG hu,hI.hM,hcl,fun i e' he' hm'=>?_,hslot v s w' hv (fun j e' he' hj d hd=>hRU e' (List.mem_of_getElem? he') s a _ w w' hu (hI.f j e' he' hj d hd))⟩)
    have hik:i ≠ k:=fun h=>by subst h; rw [he] at he'; cases he'; rw [hem] at hm'; cases hm'
    rw [hoth _ _ _ hik]
    exact hI.mem i e' he' hm'
   | cons m0 ms=>
    have hem':e.mv.isEmpty = false:=by rw [hem]; rfl
    rw [hem] at hob
    obtain ⟨m,hmm1,hmm2⟩:=(hmm hem').2 s hst
    obtain ⟨s1,s'⟩:=m
    dsimp only at hmm2
    subst hmm2
    obtain ⟨q1,q2,q3⟩:=hmv _ hmm1
    dsimp only at q1 q2 q3
    refine hob s1 s' (by rw [← hem]; exact hmm1) a w hI.g hI.hG hdp K (fun v w' ht hg' hv=>hK _ _ ⟨s',hputg v,hg',q1,hcl,fun i e' he' hm'=>?_,hslot v _ w' hv (fun j e' he' hj d hd=>hkeep e' (List.mem_of_getElem? he') _ _ a _ w w' (fun d' hd'=>by rw [hd] at hd'; cases hd'; rfl) (fun hm'=>(hI.mem j e' he' hm').1 hj) ht (hI.f j e' he' hj d hd))⟩)
    by_cases hik:i = k
    ·subst hik
     rw [he] at he'; cases he'
     exact ⟨fun _=>q2,fun _=>hself _ _⟩
    ·rw [hoth _ _ _ hik,hI.mem i e' he' hm']
     exact (q3 i e' he' (fun h=>hik h.symm) hm').symm
 ·obtain ⟨s,hI⟩:=hI
  have hsM:s = M ∨ s < M:=by have:=hI.hM; omega
  have hsM:s = M:=by
   rcases hsM with h | h
   ·exact h
   ·exfalso
    have:=hfin s h
    rw [List.any_eq_true] at this
    obtain ⟨j,hj,g⟩:=this
    rw [List.mem_range] at hj
    rw [List.getElem?_map,List.getElem?_eq_getElem hj] at g
    simp only [Option.map_some,FactH.row,Bool.and_eq_true,Bool.not_eq_true'] at g
    have h1:=(hI.mem j sp[j] (List.getElem?_eq_getElem hj) g.1).1 (hall j (by omega))
    rw [List.contains_iff_mem.2 h1] at g
    cases g.2
  subst hsM
  have hfill:a = fillF a0 (dsH sp) (fun d=>a.eval (.tmp d)):=by
   refine act_ext (by rw [fillF_size,hN]; exact hI.g.sz) (by rw [fillF_defers]; exact hI.g.df) (fun t ht=>?_)
   rw [fillF_eval _ _ a0 t (by rw [hN,← hI.g.sz]; exact ht)]
   by_cases h1:t ∈ dsH sp
   ·simp [h1]
   ·simp [h1,hI.g.kp t h1]
  rw [hfill]
  refine hend _ w hI.hG (fun e he d hd=>?_)
  rw [← hfill]
  obtain ⟨j,hj⟩:=List.mem_iff_getElem?.1 he
  exact hI.f j e hj (hall j (by have:=(List.getElem?_eq_some_iff.1 hj).1; omega)) d hd
end
end Go.Proofs.Ytkolacaceaamoaa
/- A region that draws its order, whose memory turns in stages that part and meet again; rows may read a slot that a later row writes. -/
namespace Go.Proofs.Ytkolacaceaamoaa
open Go.RowKit
section
variable {P:Program} {Q:Exit → Act → World → Prop}
/-- Slots that only rows behind this one write. -/
def OldH (sp:List FactH) (l:List Oper) (k:Nat) (a0 a:Act):Prop:=∀ (j:Nat) (e':FactH),sp[j]? = some e' → j ≠ k → ((ancs l).getD j []).contains k = true → ∀ d,e'.d = some d → a.eval (.tmp d) = a0.eval (.tmp d)
def ObO (P:Program) (Q:Exit → Act → World → Prop) (N:Nat) (a0:Act) (ds:List Nat) (G:Nat → World → Prop) (T:Nat → Nat → Act → World → World → Prop) (U:Nat → World → World → Prop) (sp:List FactH) (l:List Oper) (k:Nat) (o:Oper) (e:FactH):Prop:=
 match e.mv with
 | []=>∀ s,s ∈ e.st → ∀ a w,GrD N a0 ds a → G s w → DepH sp e s a w → OldH sp l k a0 a → ∀ K:Act → World → Prop,(∀ v w',U s w w' → e.R s a v w' → K (a.put e.d v) w') → o.wp P a w K Q
 | _ :: _=>∀ s s',(s,s') ∈ e.mv → ∀ a w,GrD N a0 ds a → G s w → DepH sp e s a w → OldH sp l k a0 a → ∀ K:Act → World → Prop,(∀ v w',T s s' a w w' → G s' w' → e.R s' a v w' → K (a.put e.d v) w') → o.wp P a w K Q
def ObsO (P:Program) (Q:Exit → Act → World → Prop) (N:Nat) (a0:Act) (ds:List Nat) (G:Nat → World → Prop) (T:Nat → Nat → Act → World → World → Prop) (U:Nat → World → World → Prop) (sp:List FactH) (l:List Oper):Nat → List Oper → List FactH → Prop
 | k,o :: os,e :: es=>ObO P Q N a0 ds G T U sp l k o e ∧ ObsO P Q N a0 ds G T U sp l (k + 1) os es
 | _,[],[]=>True
 | _,_,_=>False
theorem ObsO.get {N:Nat} {a0:Act} {ds:List Nat} {G:Nat → World → Prop} {T:Nat → Nat → Act → World → World → Prop} {U:Nat → World → World → Prop} {sp:List FactH} {l:List Oper}:∀ (os:List Oper) (es:List FactH) (k:Nat),ObsO P Q N a0 ds G T U sp l k os es → ∀ (j:Nat) (o:Oper),os[j]? = some o →
  ∃ e:FactH,es[j]? = some e ∧ ObO P Q N a0 ds G T U sp l (k + j) o e
 | o' :: os,e' :: es,k,h,0,o,ho=>by simp at ho; subst ho; exact ⟨e',rfl,h.1⟩
 | o' :: os,e' :: es,k,h,j + 1,o,ho=>by
  obtain ⟨e,h1,h2⟩:=ObsO.get os es (k + 1) h.2 j o (by simpa using ho)
  exact ⟨e,by simpa using h1,by rw [show k + (j + 1) = k + 1 + j by omega]; exact h2⟩
 | [],[],_,_,j,o,ho=>by simp at ho
 | _ :: _,[],_,h,_,_,_=>by simp [ObsO] at h
 | [],_ :: _,_,h,_,_,_=>by simp [ObsO] at h
structure InvO (N M:Nat) (a0:Act) (G:Nat → World → Prop) (sp:List FactH) (l:List Oper) (D:Nat → Bool) (a:Act) (w:World) (s:Nat):Prop where
 g:GrD N a0 (dsH sp) a
 hG:G s w
 hM:s ≤ M
 cl:closedD l D
 mem:∀ (i:Nat) (e:FactH),sp[i]? = some e → e.mv.isEmpty = false → (D i = true ↔ s ∈ e.aft)
 f:∀ (j:Nat) (e:FactH),sp[j]? = some e → D j = true → ∀ d,e.d = some d → e.R s a (a.eval (.tmp d)) w
 old:∀ (j:Nat) (e:FactH),sp[j]? = some e → D j = false → ∀ d,e.d = some d → a.eval (.tmp d) = a0.eval (.tmp d)
/-- **A REGION THAT DRAWS ITS ORDER, WHOSE STAGES PART AND MEET.** -/
theorem wp_region_dagO {id:Nat} {a0:Act} {w0:World} {l:List Oper} (hm:P.follows .mixedOrders = true) (hB:edgesBack l = true) (N M:Nat) (sp:List FactH) (G:Nat → World → Prop) (T:Nat → Nat → Act → World → World → Prop) (U:Nat → World → World → Prop)
  (hGU:∀ s w w',G s w → U s w w' → G s w') (hRU:∀ e ∈ sp,∀ s a v w w',U s w w' → e.R s a v w → e.R s a v w')
  (hput:∀ e ∈ sp,∀ s a d u v w,d ∉ e.dep → e.R s a v w → e.R s (a.put (some d) u) v w)
  (ds:List Nat) (hds:dsH sp = ds) (hok:dagOk N M (sp.map FactH.row) l = true) (hN:a0.tmps.size = N)
  (h0:G 0 w0.drew)
  (hkeep:∀ e ∈ sp,∀ s s' a v w w',(∀ d,e.d = some d → v = a.eval (.tmp d)) → (e.mv.isEmpty = false → s ∈ e.aft) → T s s' a w w' → e.R s a v w → e.R s' a v w')
  (hs:ObsO P Q N a0 ds G T U sp l 0 l sp)
  (hend:∀ (f:Nat → Value) w,G M w → (∀ e ∈ sp,∀ d,e.d = some d → e.R M (fillF a0 ds f) (f d) w) → Q .normal (fillF a0 ds f) w):(Code.region id l.toArray true).wp P Q a0 w0:=by
 subst hds
 unfold dagOk at hok
 simp only [Bool.and_eq_true,List.all_eq_true,decide_eq_true_eq,List.length_map,List.mem_range] at hok
 obtain ⟨⟨⟨⟨h4,hgd⟩,hzip⟩,hks⟩,hfin⟩:=hok
 have hself:∀ (D:Nat → Bool) (i:Nat),seen D i i = true:=fun D i=>by simp [seen]
 have hoth:∀ (D:Nat → Bool) (i j:Nat),j ≠ i → seen D i j = D j:=fun D i j h=>by simp [seen,h]
 have hdst:∀ (i:Nat) (e:FactH) (o:Oper),sp[i]? = some e → l[i]? = some o → e.d = o.dst:=fun i e o he ho=>by
  have:=hzip (e.row,o) (by
   refine List.mem_of_getElem? (i:=i) ?_
   rw [List.getElem?_zip_eq_some]
   exact ⟨by rw [List.getElem?_map,he]; rfl,ho⟩)
  simpa [FactH.row] using this
 have hrow:∀ (i:Nat) (e:FactH),sp[i]? = some e →
   (∀ d,e.d = some d → d < N ∧ ∀ (j:Nat) (e':FactH),sp[j]? = some e' → i ≠ j → e'.d ≠ some d) ∧
   (∀ s,s ≤ M → s ∈ e.st ∨ ∃ (j:Nat) (e':FactH),sp[j]? = some e' ∧ e'.mv.isEmpty = false ∧ ((i ≠ j ∧ j ∈ (ancs l).getD i [] ∧ s ∉ e'.aft) ∨ (i ∈ (ancs l).getD j [] ∧ s ∈ e'.aft))) ∧
   (∀ m ∈ e.mv,m.2 ≤ M ∧ m.2 ∈ e.aft ∧ ∀ (j:Nat) (e':FactH),sp[j]? = some e' → i ≠ j → e'.mv.isEmpty = false → (m.2 ∈ e'.aft ↔ m.1 ∈ e'.aft)) ∧
   (e.mv.isEmpty = false → 0 ∉ e.aft ∧ ∀ s ∈ e.st,∃ m ∈ e.mv,m.1 = s) ∧
   (∀ j ∈ e.an,j ≠ i ∧ j ∈ (ancs l).getD i []) ∧
   (∀ d ∈ e.dep,∃ j ∈ e.an,∃ e':FactH,sp[j]? = some e' ∧ e'.d = some d):=fun i e he=>by
  have hi:=(List.getElem?_eq_some_iff.1 he).1
  have h:=hks i hi
  rw [List.getElem?_map,he] at h
  simp only [Option.map_some] at h
  unfold dagRow at h
  simp only [Bool.and_eq_true,Bool.or_eq_true,List.all_eq_true,List.length_map,List.mem_range] at h
  obtain ⟨⟨⟨⟨⟨g1,g2⟩,g3⟩,g4⟩,g7⟩,g8⟩:=h
  refine ⟨fun d hd=>?_,fun s hs=>?_,fun m hm'=>?_,fun hmm=>?_,fun j hj=>?_,fun d hd=>?_⟩
  ·rw [show (e.row).d = some d from hd] at g1
   simp only [Bool.and_eq_true,decide_eq_true_eq,List.all_eq_true,List.mem_range] at g1
   refine ⟨g1.1,fun j e' he' hij hd'=>?_⟩
   have:=g1.2 j (List.getElem?_eq_some_iff.1 he').1
   rw [List.getElem?_map,he'] at this
   simp [FactH.row,hd',hij] at this
  ·rcases g2 s (by omega) with g | g
   ·exact .inl (by simpa [FactH.row] using g)
   ·rw [List.any_eq_true] at g
    obtain ⟨j,hj,g⟩:=g
    rw [List.mem_range] at hj
    rw [List.getElem?_map,List.getElem?_eq_getElem hj] at g
    simp only [Option.map_some,FactH.row,Bool.and_eq_true,Bool.or_eq_true,Bool.not_eq_true',bne_iff_ne,List.contains_iff_mem] at g
    refine .inr ⟨j,sp[j],List.getElem?_eq_getElem hj,g.1,?_⟩
    rcases g.2 with ⟨⟨a1,a2⟩,a3⟩ | ⟨a1,a2⟩
    ·exact .inl ⟨a1,a2,fun h=>by rw [List.contains_iff_mem.2 h] at a3; cases a3⟩
    ·exact .inr ⟨a1,a2⟩
  ·have:=g3 m hm'
   simp only [decide_eq_true_eq,FactH.row,List.contains_iff_mem] at this
   refine ⟨this.1.1,this.1.2,fun j e' he' hij hm2=>?_⟩
   have h3:=this.2 j (List.getElem?_eq_some_iff.1 he').1
   rw [List.getElem?_map,he'] at h3
   simp only [Option.map_some,Bool.or_eq_true,beq_iff_eq] at h3
   rcases h3 with h3 | h3 | h3
   ·exact absurd h3 hij
   ·rw [show e'.row.mv = e'.mv from rfl,hm2] at h3; cases h3
   ·rw [← List.contains_iff_mem,← List.contains_iff_mem,show e'.aft = e'.row.aft from rfl,h3]
  ·rcases g4 with g4 | g4
   ·rw [show (e.row).mv = e.mv from rfl,hmm] at g4; cases g4
   ·obtain ⟨g4,g5⟩:=g4
    refine ⟨fun h=>(by rw [show e.row.aft = e.aft from rfl,List.contains_iff_mem.2 h] at g4; cases g4),fun s hs=>?_⟩
    have g6:=g5 s hs
    rw [List.any_eq_true] at g6
    obtain ⟨m,h1,h2⟩:=g6
    exact ⟨m,h1,by simpa using h2⟩
  ·have:=g7 j hj
   simp only [bne_iff_ne,List.contains_iff_mem] at this
   exact this
  ·have:=g8 d hd
   rw [List.any_eq_true] at this
   obtain ⟨j,hj,g⟩:=this
   cases hj':sp[j]? with
   | none=>rw [List.getElem?_map,hj'] at g; cases g
   | some e'=>
    rw [List.getElem?_map,hj'] at g
    simp only [Option.map_some,beq_iff_eq] at g
    exact ⟨j,hj,e',hj',g⟩
 have hanc:∀ (D:Nat → Bool),closedD l D → ∀ i j,D i = true → j ∈ (ancs l).getD i [] → D j = true:=fun D hc i j hi hj=>by
  rw [List.getD_eq_getElem?_getD] at hj
  cases e:(ancs l)[i]? with
  | none=>rw [e] at hj; simp at hj
  | some m=>rw [e] at hj; exact ancs_ok hc i m e hi j (by simpa using hj)
 refine wp_region_inv hm hB (fun D a w=>∃ s,InvO N M a0 G sp l D a w s) ⟨0,⟨hN,rfl,fun _ _=>rfl⟩,h0,Nat.zero_le _,fun _ _ _ h=>(by cases h),fun i e he hm'=>⟨fun h=>(by cases h),fun h=>absurd h ((hrow i e he).2.2.2.1 hm').1⟩,fun _ _ _ h=>(by cases h),fun _ _ _ _ _ _=>rfl⟩ ?_ (fun D a w hI hall=>?_)
 ·suffices ∀ (l':List Oper) (k:Nat),(∀ (j:Nat) (o:Oper),l'[j]? = some o → l[k + j]? = some o) → Steps1 P l.toArray Q (fun D a w=>∃ s,InvO N M a0 G sp l D a w s) l' k from this l 0 (fun j o h=>by simpa using h)
  intro l'
  induction l' with
  | nil=>intro k _; trivial
  | cons o l' ih=>
   intro k hk
   refine ⟨?_,ih (k + 1) (fun j o' h=>by have:=hk (j + 1) o' (by simpa using h); rw [show k + 1 + j = k + (j + 1) by omega]; exact this)⟩
   rintro D a w ⟨s,hI⟩ hD hdep K hK
   have hko:l[k]? = some o:=by simpa using hk 0 o rfl
   obtain ⟨e,he,hob⟩:=ObsO.get l sp 0 hs k o hko
   rw [Nat.zero_add] at hob
   have hgo:o.guard = none:=by have:=hgd o (List.mem_of_getElem? hko); simpa using this
   rw [if_pos (by simp [Region.wanted,hgo])]
   obtain ⟨hd1,hlo,hmv,hmm,han,hdep'⟩:=hrow k e he
   have hmem:e ∈ sp:=List.mem_of_getElem? he
   -- whatever stands ahead of k has come up
   have hup:∀ j ∈ (ancs l).getD k [],j ≠ k → D j = true:=fun j hj hjk=>by
    have hcl':closedD l (seen D k):=fun i o' ho' hi x hx hb=>by
     by_cases hik:i = k
     ·subst hik
      rw [hko] at ho'; cases ho'
      have:=hdep x hx hb
      by_cases hxk:x.on = i
      ·rw [hxk]; exact hself _ _
      ·rw [hoth _ _ _ hxk]; exact this
     ·rw [hoth _ _ _ hik] at hi
      have:=hI.cl i o' ho' hi x hx hb
      by_cases hxk:x.on = k
      ·rw [hxk]; exact hself _ _
      ·rw [hoth _ _ _ hxk]; exact this
    have:=hanc _ hcl' k j (hself _ _) hj
    rwa [hoth _ _ _ hjk] at this
   have hcl:closedD l (seen D k):=fun i o' ho' hi x hx hb=>by
    by_cases hxk:x.on = k
    ·rw [hxk]; exact hself _ _
    ·rw [hoth _ _ _ hxk]
     by_cases hik:i = k
     ·subst hik
      rw [hko] at ho'; cases ho'
      exact hdep x hx hb
     ·rw [hoth _ _ _ hik] at hi
      exact hI.cl i o' ho' hi x hx hb
   have hst:s ∈ e.st:=by
    rcases hlo s hI.hM with h | ⟨j,e',he',hm',⟨h1,h2,h3⟩ | ⟨h1,h2⟩⟩
    ·exact h
    ·exact absurd ((hI.mem j e' he' hm').1 (hup j h2 (fun h=>h1 h.symm))) h3
    ·have:=hanc _ hI.cl j k ((hI.mem j e' he' hm').2 h2) h1
     rw [hD] at this; cases this
   have hdp:DepH sp e s a w:=fun j hj e' he' d hd=>hI.f _ _ he' (hup j (han j hj).2 (han j hj).1) d hd
   have hold:OldH sp l k a0 a:=fun j e' he' hjk hc d hd=>by
    refine hI.old j e' he' ?_ d hd
    cases hDj:D j with
    | false=>rfl
    | true=>
     have:=hanc _ hI.cl j k hDj (List.contains_iff_mem.1 hc)
     rw [hD] at this; cases this
   have hnew:∀ (v:Value) (j:Nat) (e':FactH),sp[j]? = some e' → seen D k j = false → ∀ d,e'.d = some d → (a.put e.d v).eval (.tmp d) = a0.eval (.tmp d):=fun v j e' he' hj d hd=>by
    have hjk:j ≠ k:=fun h=>by rw [h,hself] at hj; cases hj
    rw [hoth _ _ _ hjk] at hj
    cases hde:e.d with
    | none=>exact hI.old j e' he' hj d hd
    | some d2=>
     rw [act_ne (fun h=>(hd1 d2 hde).2 j e' he' (fun h2=>hjk h2.symm) (by rw [hd,h]))]
     exact hI.old j e' he' hj d hd
   have hnd:∀ (j:Nat) (e':FactH),sp[j]? = some e' → seen D k j = true → ∀ d,e.d = some d → d ∉ e'.dep:=fun j e' he' hj d hd hm'=>by
    obtain ⟨_,_,_,_,han',hde'⟩:=hrow j e' he'
    obtain ⟨i,hi,e2,he2,hd2⟩:=hde' d hm'
    obtain ⟨h1,h2⟩:=han' i hi
    have hik:i = k:=Classical.byContradiction fun hne=>(hd1 d hd).2 i e2 he2 (fun h=>hne h.symm) hd2
    subst hik
    have hji:j ≠ i:=fun h=>h1 h.symm
    rw [hoth _ _ _ hji] at hj
    have:=hanc _ hI.cl j i hj h2
    rw [hD] at this; cases this
   have hputg:∀ (v:Value),GrD N a0 (dsH sp) (a.put e.d v):=fun v=>by
    refine ⟨by rw [act_size]; exact hI.g.sz,by rw [act_defers]; exact hI.g.df,fun t ht=>?_⟩
    cases hd:e.d with
    | none=>exact hI.g.kp t ht
    | some d=>rw [act_ne (fun h=>ht (by rw [h]; exact List.mem_filterMap.2 ⟨e,hmem,hd⟩))]; exact hI.g.kp t ht
   have hslot:∀ (v:Value) (s':Nat) (w':World),(e.R s' a v w') → (∀ (j:Nat) (e':FactH),sp[j]? = some e' → D j = true → ∀ d,e'.d = some d → e'.R s' a (a.eval (.tmp d)) w') →
     ∀ (j:Nat) (e':FactH),sp[j]? = some e' → seen D k j = true → ∀ d,e'.d = some d → e'.R s' (a.put e.d v) ((a.put e.d v).eval (.tmp d)) w':=fun v s' w' hv hf j e' he' hj d hd=>by
    have hpt:∀ u,e'.R s' a u w' → e'.R s' (a.put e.d v) u w':=fun u hu=>by
     cases hde:e.d with
     | none=>exact hu
     | some d2=>exact hput e' (List.mem_of_getElem? he') s' a d2 v u w' (hnd j e' he' hj d2 hde) hu
    by_cases hjk:j = k
    ·subst hjk
     rw [he] at he'; cases he'
     refine hpt _ ?_
     rw [hd,act_same (by rw [hI.g.sz]; exact (hd1 d hd).1)]; exact hv
    ·refine hpt _ ?_
     rw [hoth _ _ _ hjk] at hj
     cases hde:e.d with
     | none=>exact hf j e' he' hj d hd
     | some d2=>
      rw [act_ne (fun h=>(hd1 d2 hde).2 j e' he' (fun h2=>hjk h2.symm) (by rw [hd,h]))]
      exact hf j e' he' hj d hd
   have hdo:e.d = o.dst:=hdst k e o he hko
   unfold ObO at hob
   cases hem:e.mv with
   | nil=>
    rw [hem] at hob
    refine hob s hst a w hI.g hI.hG hdp hold K (fun v w' hu hv=>hK _ _ ⟨s,hputg v,hGU s w w' hI.hG hu,hI.hM,hcl,fun i e' he' hm'=>?_,hslot v s w' hv (fun j e' he' hj d hd=>hRU e' (List.mem_of_getElem? he') s a _ w w' hu (hI.f j e' he' hj d hd)),hnew v⟩)
    have hik:i ≠ k:=fun h=>by subst h; rw [he] at he'; cases he'; rw [hem] at hm'; cases hm'
    rw [hoth _ _ _ hik]
    exact hI.mem i e' he' hm'
   | cons m0 ms=>
    have hem':e.mv.isEmpty = false:=by rw [hem]; rfl
    rw [hem] at hob
    obtain ⟨m,hmm1,hmm2⟩:=(hmm hem').2 s hst
    obtain ⟨s1,s'⟩:=m
    dsimp only at hmm2
    subst hmm2
    obtain ⟨q1,q2,q3⟩:=hmv _ hmm1
    dsimp only at q1 q2 q3
    refine hob s1 s' (by rw [← hem]; exact hmm1) a w hI.g hI.hG hdp hold K (fun v w' ht hg' hv=>hK _ _ ⟨s',hputg v,hg',q1,hcl,fun i e' he' hm'=>?_,hslot v _ w' hv (fun j e' he' hj d hd=>hkeep e' (List.mem_of_getElem? he') _ _ a _ w w' (fun d' hd'=>by rw [hd] at hd'; cases hd'; rfl) (fun hm'=>(hI.mem j e' he' hm').1 hj) ht (hI.f j e' he' hj d hd)),hnew v⟩)
    by_cases hik:i = k
    ·subst hik
     rw [he] at he'; cases he'
     exact ⟨fun _=>q2,fun _=>hself _ _⟩
    ·rw [hoth _ _ _ hik,hI.mem i e' he' hm']
     exact (q3 i e' he' (fun h=>hik h.symm) hm').symm
 ·obtain ⟨s,hI⟩:=hI
  have hsM:s = M ∨ s < M:=by have:=hI.hM; omega
  have hsM:s = M:=by
   rcases hsM with h | h
   ·exact h
   ·exfalso
    have:=hfin s h
    rw [List.any_eq_true] at this
    obtain ⟨j,hj,g⟩:=this
    rw [List.mem_range] at hj
    rw [List.getElem?_map,List.getElem?_eq_getElem hj] at g
    simp only [Option.map_some,FactH.row,Bool.and_eq_true,Bool.not_eq_true'] at g
    have h1:=(hI.mem j sp[j] (List.getElem?_eq_getElem hj) g.1).1 (hall j (by omega))
    rw [List.contains_iff_mem.2 h1] at g
    cases g.2
  subst hsM
  have hfill:a = fillF a0 (dsH sp) (fun d=>a.eval (.tmp d)):=by
   refine act_ext (by rw [fillF_size,hN]; exact hI.g.sz) (by rw [fillF_defers]; exact hI.g.df) (fun t ht=>?_)
   rw [fillF_eval _ _ a0 t (by rw [hN,← hI.g.sz]; exact ht)]
   by_cases h1:t ∈ dsH sp
   ·simp [h1]
   ·simp [h1,hI.g.kp t h1]
  rw [hfill]
  refine hend _ w hI.hG (fun e he d hd=>?_)
  rw [← hfill]
  obtain ⟨j,hj⟩:=List.mem_iff_getElem?.1 he
  exact hI.f j e hj (hall j (by have:=(List.getElem?_eq_some_iff.1 hj).1; omega)) d hd
end
end Go.Proofs.Ytkolacaceaamoaa
