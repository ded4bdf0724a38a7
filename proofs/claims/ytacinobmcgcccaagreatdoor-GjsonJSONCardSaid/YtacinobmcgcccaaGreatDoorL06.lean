/- A region that draws its order, inside a fence: XRegion's law, turned. -/
import Derived.Test.YtacinobmcgcccaaGreatDoorL00
import Derived.Test.YtacinobmcgcccaaGreatDoorL05
import Derived.Test.YtacinobmcgcccaaGreatDoorL04
import Derived.OrdersIn
import Derived.RangeFuncCalls
import Derived.OwnWalkIn
import Derived.RangeFuncNested
import Derived.RangeFuncBound
import Derived.RangeFuncLeaves
import Derived.Shelf.Abstract
import Derived.Shelf.RegionOpen
import Derived.WalkKit
import Derived.TacticsInMore
import Derived.LoopNIn
import Derived.LoopIn
import Derived.BigRegionIn
set_option linter.unusedSimpArgs false
set_option linter.unusedVariables false
namespace Go.Proofs.YtacinobmcgcccaaGreatDoor
open Go.RowKit
section
variable {F:Fence} {n:Nat} {P:Program} {ops:Array Oper} {Q:Exit→Act→World→Prop} {md:Region.Mode}
theorem wpAnyIn_inv (I:(Nat→Bool)→Act→World→Prop) (hord:∀ i o,ops[i]? = some o → ∀ e∈o.after,Region.binds md e=true→e.on<i)
 (hstep:∀ i o,ops[i]? = some o → ∀ D a w,I D a w→D i=false→(∀ e∈o.after,Region.binds md e=true→D e.on=true) → ∀ K:Act→World→Prop,(∀ a w,I (seen D i) a w→K a w) →
   if Region.wanted o (yielded ops a.tmps) then o.wpIn F n P a w K Q else (∀ f,o.about P w a.eval=some f→F.fn f)∧K (a.put o.dst undef) w)
 (hend:∀ D a w,I D a w→(∀ i,i<ops.size→D i=true)→Q .normal a w) :
 ∀ (fuel:Nat) (listed:Array Bool) (a:Act) (w:World),listed.size=ops.size→listed.toList.count false=fuel→I (fun j=>listed.getD j false) a w→wpAnyIn F n P md ops Q fuel listed a w
 | 0,listed,a,w,hs,hc,hI=>by
   have hall:∀ i,i<ops.size→listed.getD i false=true:=fun i hi=>by
    have h1:∀ b∈listed.toList,b=true:=fun b hb=>by
     cases b
     ·exact absurd hc (by have:=List.count_pos_iff.2 hb;omega)
     ·rfl
    have hi':i<listed.size:=by omega
    simp [hi'];exact h1 _ (by simp)
   refine ⟨?_,hend _ _ _ hI hall⟩;rw [List.eq_nil_iff_forall_not_mem];intro j hj;obtain ⟨h0,o,ho,_⟩:=mem_ready.1 hj;have hjs:=(Array.getElem?_eq_some_iff.1 ho).1;have h1:=hall j hjs;have hj':j<listed.size:=by omega
   simp [hj'] at h0 h1;rw [h0] at h1;cases h1
 | fuel+1,listed,a,w,hs,hc,hI=>by
   refine ⟨fun h0=>hend _ _ _ hI (listed_of_none hs hord h0),fun i hi=>?_⟩;obtain ⟨h0,o,ho,hall⟩:=mem_ready.1 hi;have his:=(Array.getElem?_eq_some_iff.1 ho).1;have hi':i<listed.size:=by omega
   have hf:listed[i]=false:=by simpa [hi'] using h0
   have hnext:∀ a w,I (seen (fun j=>listed.getD j false) i) a w→wpAnyIn F n P md ops Q fuel (listed.setIfInBounds i true) a w:=fun a w h=>by
    refine wpAnyIn_inv I hord hstep hend fuel _ a w (by simpa using hs) ?_ ?_
    ·rw [Array.toList_setIfInBounds,List.count_set (by simpa using hi')];have hc':Array.count false listed=fuel+1:=by simpa using hc
     simp [hf];omega
    ·have:(fun j=>(listed.setIfInBounds i true).getD j false)=seen (fun j=>listed.getD j false) i:=by
      funext j;unfold seen;by_cases hj:j=i
      ·subst hj;simp [hi']
      ·rw [getD_set_ne false (Ne.symm hj)];have:(j == i)=false:=by simpa using hj
       rw [this];rfl
     rw [this];exact h
   have hst:=hstep i o ho _ a w hI (by simp [hi',hf]) (fun e he hb=>hall e he hb) _ hnext;unfold wpOpIn;simp only [ho];split
   ·rename_i hw;rw [if_pos hw] at hst;exact hst
   ·rename_i hw;rw [if_neg hw] at hst;exact hst

def Steps1In (F:Fence) (n:Nat) (P:Program) (ops:Array Oper) (Q:Exit→Act→World→Prop) (I:(Nat→Bool)→Act→World→Prop):List Oper→Nat→Prop
 | [],_=>True
 | o :: rest,i=>(∀ D a w,I D a w→D i=false→(∀ e∈o.after,Region.binds .any e=true→D e.on=true) → ∀ K:Act→World→Prop,(∀ a w,I (seen D i) a w→K a w) →
    if Region.wanted o (yielded ops a.tmps) then o.wpIn F n P a w K Q else (∀ f,o.about P w a.eval=some f→F.fn f)∧K (a.put o.dst undef) w)∧Steps1In F n P ops Q I rest (i+1)
theorem Steps1In.get {I:(Nat→Bool)→Act→World→Prop}:∀ (l:List Oper) (k:Nat),Steps1In F n P ops Q I l k → ∀ j o,l[j]? = some o →
 ∀ D a w,I D a w→D (k+j)=false→(∀ e∈o.after,Region.binds .any e=true→D e.on=true) → ∀ K:Act→World→Prop,(∀ a w,I (seen D (k+j)) a w→K a w) →
  if Region.wanted o (yielded ops a.tmps) then o.wpIn F n P a w K Q else (∀ f,o.about P w a.eval=some f→F.fn f)∧K (a.put o.dst undef) w
 | [],_,_,j,o,ho=>by simp at ho
 | o' :: l,k,h,0,o,ho=>by simp at ho;subst ho;exact h.1
 | o' :: l,k,h,j+1,o,ho=>by
   have:=Steps1In.get l (k+1) h.2 j o (by simpa using ho);rw [show k+1+j=k+(j+1) by omega] at this;exact this
theorem wpIn_region_inv {id:Nat} {a:Act} {w:World} {l:List Oper} (hm:P.follows .mixedOrders=true) (hB:edgesBack l=true) (I:(Nat→Bool)→Act→World→Prop)
 (h0:I (fun _=>false) a w.drew) (hs:Steps1In F n P l.toArray Q I l 0)
 (hend:∀ D a w,I D a w→(∀ i,i<l.length→D i=true)→Q .normal a w):(Code.region id l.toArray true).wpIn F n P Q a w:=by
 refine wpIn_region_any hm (wpAnyIn_inv I (edgesBack_spec hB) (fun i o ho=>?_) (fun D a w h1 h2=>hend D a w h1 (by simpa using h2)) _ _ _ _ (by simp) (by simp) ?_)
 ·have:=Steps1In.get l 0 hs i o (by simpa using ho);simpa using this
 ·have:(fun j=>(Array.replicate l.toArray.size false).getD j false)=fun _=>false:=by
   funext j;by_cases hj:j<l.length <;> simp [Array.getElem?_replicate,hj]
  rw [this];exact h0
end

theorem op_in {P:Program} {Q:Exit→Act→World→Prop} {o:Oper} {a:Act} {w:World} {K:Act→World→Prop} {l n:Nat} (hnd:∀ c,o.op≠.defer c) (h:o.wp P a w K Q):o.wpIn (Fence.wide.inRound l) n P a w K Q:=by
 refine ⟨fun _ _=>trivial,?_⟩;rw [Oper.semAt_plain _ _ _ hnd];unfold Oper.wp at h;generalize (execOp a.eval o).run P w=r at h ⊢
 match r,h with
 | .ok (.value v) w',h=>exact h
 | .ok .skip w',h=>exact h
 | .ok (.defer d) w',h=>exact h
 | .ok (.enter f args) w',h=>exact ⟨fun hd=>by simp [Fence.wide] at hd,CallsIn.inRound l (callsIn_wide.2 h)⟩
 | .ok (.row row args) w',h=>exact ⟨fun hd=>by simp [Fence.wide] at hd,fun c cs _=>let ⟨v,w2,h1,h2⟩:=h c cs;⟨v,w2,h1,stepsIn_wide.2 h2⟩⟩
 | .halt (.panic v) w',h=>exact h
theorem op_wide {P:Program} {Q:Exit→Act→World→Prop} {o:Oper} {a:Act} {w:World} {K:Act→World→Prop} {n:Nat} (h:o.wp P a w K Q):o.wpIn Fence.wide n P a w K Q:=by
 refine ⟨fun _ _=>trivial,?_⟩;rw [show Fence.wide.round=none from rfl,Oper.semAt_none];unfold Oper.wp at h;generalize (execOp a.eval o).run P w=r at h ⊢
 match r,h with
 | .ok (.value v) w',h=>exact h
 | .ok .skip w',h=>exact h
 | .ok (.defer d) w',h=>exact h
 | .ok (.enter f args) w',h=>exact ⟨fun hd=>by simp [Fence.wide] at hd,callsIn_wide.2 h⟩
 | .ok (.row row args) w',h=>exact ⟨fun hd=>by simp [Fence.wide] at hd,fun c cs _=>let ⟨v,w2,h1,h2⟩:=h c cs;⟨v,w2,h1,stepsIn_wide.2 h2⟩⟩
 | .halt (.panic v) w',h=>exact h
section
variable {F:Fence} {n:Nat} {P:Program} {Q:Exit→Act→World→Prop}
def ObHi (F:Fence) (n:Nat) (P:Program) (Q:Exit→Act→World→Prop) (N:Nat) (a0:Act) (ds:List Nat) (G:Nat→World→Prop) (T:Nat→Nat→Act→World→World→Prop) (U:Nat→World→World→Prop) (sp:List FactH) (o:Oper) (e:FactH):Prop:=
 match e.mv with
 | []=>∀ s,s∈e.st → ∀ a w,GrD N a0 ds a→G s w→DepH sp e s a w → ∀ K:Act→World→Prop,(∀ v w',U s w w'→e.R s a v w'→K (a.put e.d v) w')→o.wpIn F n P a w K Q
 | _ :: _=>∀ s s',(s,s')∈e.mv → ∀ a w,GrD N a0 ds a→G s w→DepH sp e s a w → ∀ K:Act→World→Prop,(∀ v w',T s s' a w w'→G s' w'→e.R s' a v w'→K (a.put e.d v) w')→o.wpIn F n P a w K Q
def ObsHi (F:Fence) (n:Nat) (P:Program) (Q:Exit→Act→World→Prop) (N:Nat) (a0:Act) (ds:List Nat) (G:Nat→World→Prop) (T:Nat→Nat→Act→World→World→Prop) (U:Nat→World→World→Prop) (sp:List FactH):List Oper→List FactH→Prop
 | o :: os,e :: es=>ObHi F n P Q N a0 ds G T U sp o e∧ObsHi F n P Q N a0 ds G T U sp os es
 | [],[]=>True
 | _,_=>False
theorem ObsHi.get {N:Nat} {a0:Act} {ds:List Nat} {G:Nat→World→Prop} {T:Nat→Nat→Act→World→World→Prop} {U:Nat→World→World→Prop} {sp:List FactH}:∀ (os:List Oper) (es:List FactH),ObsHi F n P Q N a0 ds G T U sp os es → ∀ (j:Nat) (o:Oper),os[j]? = some o →
 ∃ e:FactH,es[j]? = some e∧ObHi F n P Q N a0 ds G T U sp o e
 | o' :: os,e' :: es,h,0,o,ho=>by simp at ho;subst ho;exact ⟨e',rfl,h.1⟩
 | o' :: os,e' :: es,h,j+1,o,ho=>by
   obtain ⟨e,h1,h2⟩:=ObsHi.get os es h.2 j o (by simpa using ho);exact ⟨e,by simpa using h1,h2⟩
 | [],[],_,j,o,ho=>by simp at ho
 | _ :: _,[],h,_,_,_=>by simp [ObsHi] at h
 | [],_ :: _,h,_,_,_=>by simp [ObsHi] at h
theorem wpIn_region_dag {id:Nat} {a0:Act} {w0:World} {l:List Oper} (hm:P.follows .mixedOrders=true) (hB:edgesBack l=true) (N M:Nat) (sp:List FactH) (G:Nat→World→Prop) (T:Nat→Nat→Act→World→World→Prop) (U:Nat→World→World→Prop)
 (hGU:∀ s w w',G s w→U s w w'→G s w') (hRU:∀ e∈sp,∀ s a v w w',U s w w'→e.R s a v w→e.R s a v w')
 (hput:∀ e∈sp,∀ s a d u v w,d ∉ e.dep→e.R s a v w→e.R s (a.put (some d) u) v w)
 (ds:List Nat) (hds:dsH sp=ds) (hok:dagOk N M (sp.map FactH.row) l=true) (hN:a0.tmps.size=N)
 (h0:G 0 w0.drew)
 (hkeep:∀ e∈sp,∀ s s' a v w w',(∀ d,e.d=some d→v=a.eval (.tmp d))→(e.mv.isEmpty=false→s∈e.aft)→T s s' a w w'→e.R s a v w→e.R s' a v w')
 (hs:ObsHi F n P Q N a0 ds G T U sp l sp)
 (hend:∀ (f:Nat→Value) w,G M w→(∀ e∈sp,∀ d,e.d=some d→e.R M (fillF a0 ds f) (f d) w)→Q .normal (fillF a0 ds f) w):(Code.region id l.toArray true).wpIn F n P Q a0 w0:=by
 subst hds;unfold dagOk at hok;simp only [Bool.and_eq_true,List.all_eq_true,decide_eq_true_eq,List.length_map,List.mem_range] at hok;obtain ⟨⟨⟨⟨h4,hgd⟩,hzip⟩,hks⟩,hfin⟩:=hok;have hself:∀ (D:Nat→Bool) (i:Nat),seen D i i=true:=fun D i=>by simp [seen]
 have hoth:∀ (D:Nat→Bool) (i j:Nat),j≠i→seen D i j=D j:=fun D i j h=>by simp [seen,h]
 have hdst:∀ (i:Nat) (e:FactH) (o:Oper),sp[i]? = some e→l[i]? = some o→e.d=o.dst:=fun i e o he ho=>by
  have:=hzip (e.row,o) (by
   refine List.mem_of_getElem? (i:=i) ?_;rw [List.getElem?_zip_eq_some];exact ⟨by rw [List.getElem?_map,he];rfl,ho⟩)
  simpa [FactH.row] using this
 have hrow:∀ (i:Nat) (e:FactH),sp[i]? = some e →
  (∀ d,e.d=some d→d<N ∧ ∀ (j:Nat) (e':FactH),sp[j]? = some e'→i≠j→e'.d≠some d) ∧
  (∀ s,s≤M→s∈e.st ∨ ∃ (j:Nat) (e':FactH),sp[j]? = some e'∧e'.mv.isEmpty=false∧((i≠j∧j∈(ancs l).getD i []∧s ∉ e'.aft)∨(i∈(ancs l).getD j []∧s∈e'.aft))) ∧
  (∀ m∈e.mv,m.2≤M∧m.2∈e.aft ∧ ∀ (j:Nat) (e':FactH),sp[j]? = some e'→i≠j→e'.mv.isEmpty=false→(m.2∈e'.aft ↔ m.1∈e'.aft)) ∧
  (e.mv.isEmpty=false→0 ∉ e.aft ∧ ∀ s∈e.st,∃ m∈e.mv,m.1=s) ∧
  (∀ j∈e.an,j≠i∧j∈(ancs l).getD i []) ∧
  (∀ d∈e.dep,∃ j∈e.an,∃ e':FactH,sp[j]? = some e'∧e'.d=some d):=fun i e he=>by
  have hi:=(List.getElem?_eq_some_iff.1 he).1;have h:=hks i hi;rw [List.getElem?_map,he] at h;simp only [Option.map_some] at h;unfold dagRow at h;simp only [Bool.and_eq_true,Bool.or_eq_true,List.all_eq_true,List.length_map,List.mem_range] at h;obtain ⟨⟨⟨⟨⟨g1,g2⟩,g3⟩,g4⟩,g7⟩,g8⟩:=h;refine ⟨fun d hd=>?_,fun s hs=>?_,fun m hm'=>?_,fun hmm=>?_,fun j hj=>?_,fun d hd=>?_⟩
  ·rw [show (e.row).d=some d from hd] at g1;simp only [Bool.and_eq_true,decide_eq_true_eq,List.all_eq_true,List.mem_range] at g1;refine ⟨g1.1,fun j e' he' hij hd'=>?_⟩;have:=g1.2 j (List.getElem?_eq_some_iff.1 he').1;rw [List.getElem?_map,he'] at this;simp [FactH.row,hd',hij] at this
  ·rcases g2 s (by omega) with g|g
   ·exact .inl (by simpa [FactH.row] using g)
   ·rw [List.any_eq_true] at g;obtain ⟨j,hj,g⟩:=g;rw [List.mem_range] at hj;rw [List.getElem?_map,List.getElem?_eq_getElem hj] at g;simp only [Option.map_some,FactH.row,Bool.and_eq_true,Bool.or_eq_true,Bool.not_eq_true',bne_iff_ne,List.contains_iff_mem] at g;refine .inr ⟨j,sp[j],List.getElem?_eq_getElem hj,g.1,?_⟩;rcases g.2 with ⟨⟨a1,a2⟩,a3⟩|⟨a1,a2⟩
    ·exact .inl ⟨a1,a2,fun h=>by rw [List.contains_iff_mem.2 h] at a3;cases a3⟩
    ·exact .inr ⟨a1,a2⟩
  ·have:=g3 m hm';simp only [decide_eq_true_eq,FactH.row,List.contains_iff_mem] at this;refine ⟨this.1.1,this.1.2,fun j e' he' hij hm2=>?_⟩;have h3:=this.2 j (List.getElem?_eq_some_iff.1 he').1;rw [List.getElem?_map,he'] at h3;simp only [Option.map_some,Bool.or_eq_true,beq_iff_eq] at h3;rcases h3 with h3|h3|h3
   ·exact absurd h3 hij
   ·rw [show e'.row.mv=e'.mv from rfl,hm2] at h3;cases h3
   ·rw [← List.contains_iff_mem,← List.contains_iff_mem,show e'.aft=e'.row.aft from rfl,h3]
  ·rcases g4 with g4|g4
   ·rw [show (e.row).mv=e.mv from rfl,hmm] at g4;cases g4
   ·obtain ⟨g4,g5⟩:=g4;refine ⟨fun h=>(by rw [show e.row.aft=e.aft from rfl,List.contains_iff_mem.2 h] at g4;cases g4),fun s hs=>?_⟩;have g6:=g5 s hs;rw [List.any_eq_true] at g6;obtain ⟨m,h1,h2⟩:=g6;exact ⟨m,h1,by simpa using h2⟩
  ·have:=g7 j hj;simp only [bne_iff_ne,List.contains_iff_mem] at this;exact this
  ·have:=g8 d hd;rw [List.any_eq_true] at this;obtain ⟨j,hj,g⟩:=this;cases hj':sp[j]? with
   | none=>rw [List.getElem?_map,hj'] at g;cases g
   | some e'=>
     rw [List.getElem?_map,hj'] at g;simp only [Option.map_some,beq_iff_eq] at g;exact ⟨j,hj,e',hj',g⟩
 have hanc:∀ (D:Nat→Bool),closedD l D → ∀ i j,D i=true→j∈(ancs l).getD i []→D j=true:=fun D hc i j hi hj=>by
  rw [List.getD_eq_getElem?_getD] at hj;cases e:(ancs l)[i]? with
  | none=>rw [e] at hj;simp at hj
  | some m=>rw [e] at hj;exact ancs_ok hc i m e hi j (by simpa using hj)
 refine wpIn_region_inv hm hB (fun D a w=>∃ s,InvH N M a0 G sp l D a w s) ⟨0,⟨hN,rfl,fun _ _=>rfl⟩,h0,Nat.zero_le _,fun _ _ _ h=>(by cases h),fun i e he hm'=>⟨fun h=>(by cases h),fun h=>absurd h ((hrow i e he).2.2.2.1 hm').1⟩,fun _ _ _ h=>(by cases h)⟩ ?_ (fun D a w hI hall=>?_)
 ·suffices ∀ (l':List Oper) (k:Nat),(∀ (j:Nat) (o:Oper),l'[j]? = some o→l[k+j]? = some o)→Steps1In F n P l.toArray Q (fun D a w=>∃ s,InvH N M a0 G sp l D a w s) l' k from this l 0 (fun j o h=>by simpa using h)
  intro l'
  induction l' with
  | nil=>intro k _;trivial
  | cons o l' ih=>
    intro k hk;refine ⟨?_,ih (k+1) (fun j o' h=>by have:=hk (j+1) o' (by simpa using h);rw [show k+1+j=k+(j+1) by omega];exact this)⟩;rintro D a w ⟨s,hI⟩ hD hdep K hK;have hko:l[k]? = some o:=by simpa using hk 0 o rfl
    obtain ⟨e,he,hob⟩:=ObsHi.get l sp hs k o hko;have hgo:o.guard=none:=by have:=hgd o (List.mem_of_getElem? hko);simpa using this
    rw [if_pos (by simp [Region.wanted,hgo])];obtain ⟨hd1,hlo,hmv,hmm,han,hdep'⟩:=hrow k e he;have hmem:e∈sp:=List.mem_of_getElem? he
    -- whatever stands ahead of k has come up
    have hup:∀ j∈(ancs l).getD k [],j≠k→D j=true:=fun j hj hjk=>by
     have hcl':closedD l (seen D k):=fun i o' ho' hi x hx hb=>by
      by_cases hik:i=k
      ·subst hik;rw [hko] at ho';cases ho';have:=hdep x hx hb;by_cases hxk:x.on=i
       ·rw [hxk];exact hself _ _
       ·rw [hoth _ _ _ hxk];exact this
      ·rw [hoth _ _ _ hik] at hi;have:=hI.cl i o' ho' hi x hx hb;by_cases hxk:x.on=k
       ·rw [hxk];exact hself _ _
       ·rw [hoth _ _ _ hxk];exact this
     have:=hanc _ hcl' k j (hself _ _) hj
     rwa [hoth _ _ _ hjk] at this
    have hcl:closedD l (seen D k):=fun i o' ho' hi x hx hb=>by
     by_cases hxk:x.on=k
     ·rw [hxk];exact hself _ _
     ·rw [hoth _ _ _ hxk];by_cases hik:i=k
      ·subst hik;rw [hko] at ho';cases ho';exact hdep x hx hb
      ·rw [hoth _ _ _ hik] at hi;exact hI.cl i o' ho' hi x hx hb
    have hst:s∈e.st:=by
     rcases hlo s hI.hM with h|⟨j,e',he',hm',⟨h1,h2,h3⟩|⟨h1,h2⟩⟩
     ·exact h
     ·exact absurd ((hI.mem j e' he' hm').1 (hup j h2 (fun h=>h1 h.symm))) h3
     ·have:=hanc _ hI.cl j k ((hI.mem j e' he' hm').2 h2) h1;rw [hD] at this;cases this
    have hdp:DepH sp e s a w:=fun j hj e' he' d hd=>hI.f _ _ he' (hup j (han j hj).2 (han j hj).1) d hd
    have hnd:∀ (j:Nat) (e':FactH),sp[j]? = some e'→seen D k j=true → ∀ d,e.d=some d→d ∉ e'.dep:=fun j e' he' hj d hd hm'=>by
     obtain ⟨_,_,_,_,han',hde'⟩:=hrow j e' he';obtain ⟨i,hi,e2,he2,hd2⟩:=hde' d hm';obtain ⟨h1,h2⟩:=han' i hi;have hik:i=k:=Classical.byContradiction fun hne=>(hd1 d hd).2 i e2 he2 (fun h=>hne h.symm) hd2
     subst hik;have hji:j≠i:=fun h=>h1 h.symm
     rw [hoth _ _ _ hji] at hj;have:=hanc _ hI.cl j i hj h2;rw [hD] at this;cases this
    have hputg:∀ (v:Value),GrD N a0 (dsH sp) (a.put e.d v):=fun v=>by
     refine ⟨by rw [act_size];exact hI.g.sz,by rw [act_defers];exact hI.g.df,fun t ht=>?_⟩;cases hd:e.d with
     | none=>exact hI.g.kp t ht
     | some d=>rw [act_ne (fun h=>ht (by rw [h];exact List.mem_filterMap.2 ⟨e,hmem,hd⟩))];exact hI.g.kp t ht
    have hslot:∀ (v:Value) (s':Nat) (w':World),(e.R s' a v w')→(∀ (j:Nat) (e':FactH),sp[j]? = some e'→D j=true → ∀ d,e'.d=some d→e'.R s' a (a.eval (.tmp d)) w') →
     ∀ (j:Nat) (e':FactH),sp[j]? = some e'→seen D k j=true → ∀ d,e'.d=some d→e'.R s' (a.put e.d v) ((a.put e.d v).eval (.tmp d)) w':=fun v s' w' hv hf j e' he' hj d hd=>by
     have hpt:∀ u,e'.R s' a u w'→e'.R s' (a.put e.d v) u w':=fun u hu=>by
      cases hde:e.d with
      | none=>exact hu
      | some d2=>exact hput e' (List.mem_of_getElem? he') s' a d2 v u w' (hnd j e' he' hj d2 hde) hu
     by_cases hjk:j=k
     ·subst hjk;rw [he] at he';cases he';refine hpt _ ?_;rw [hd,act_same (by rw [hI.g.sz];exact (hd1 d hd).1)];exact hv
     ·refine hpt _ ?_;rw [hoth _ _ _ hjk] at hj;cases hde:e.d with
      | none=>exact hf j e' he' hj d hd
      | some d2=>
        rw [act_ne (fun h=>(hd1 d2 hde).2 j e' he' (fun h2=>hjk h2.symm) (by rw [hd,h]))];exact hf j e' he' hj d hd
    have hdo:e.d=o.dst:=hdst k e o he hko;unfold ObHi at hob;cases hem:e.mv with
    | nil=>
      rw [hem] at hob;refine hob s hst a w hI.g hI.hG hdp K (fun v w' hu hv=>hK _ _ ⟨s,hputg v,hGU s w w' hI.hG hu,hI.hM,hcl,fun i e' he' hm'=>?_,hslot v s w' hv (fun j e' he' hj d hd=>hRU e' (List.mem_of_getElem? he') s a _ w w' hu (hI.f j e' he' hj d hd))⟩);have hik:i≠k:=fun h=>by subst h;rw [he] at he';cases he';rw [hem] at hm';cases hm'
      rw [hoth _ _ _ hik];exact hI.mem i e' he' hm'
    | cons m0 ms=>
      have hem':e.mv.isEmpty=false:=by rw [hem];rfl
      rw [hem] at hob;obtain ⟨m,hmm1,hmm2⟩:=(hmm hem').2 s hst;obtain ⟨s1,s'⟩:=m;dsimp only at hmm2;subst hmm2;obtain ⟨q1,q2,q3⟩:=hmv _ hmm1;dsimp only at q1 q2 q3;refine hob s1 s' (by rw [← hem];exact hmm1) a w hI.g hI.hG hdp K (fun v w' ht hg' hv=>hK _ _ ⟨s',hputg v,hg',q1,hcl,fun i e' he' hm'=>?_,hslot v _ w' hv (fun j e' he' hj d hd=>hkeep e' (List.mem_of_getElem? he') _ _ a _ w w' (fun d' hd'=>by rw [hd] at hd';cases hd';rfl) (fun hm'=>(hI.mem j e' he' hm').1 hj) ht (hI.f j e' he' hj d hd))⟩);by_cases hik:i=k
      ·subst hik;rw [he] at he';cases he';exact ⟨fun _=>q2,fun _=>hself _ _⟩
      ·rw [hoth _ _ _ hik,hI.mem i e' he' hm'];exact (q3 i e' he' (fun h=>hik h.symm) hm').symm
 ·obtain ⟨s,hI⟩:=hI;have hsM:s=M∨s<M:=by have:=hI.hM;omega
  have hsM:s=M:=by
   rcases hsM with h|h
   ·exact h
   ·exfalso;have:=hfin s h;rw [List.any_eq_true] at this;obtain ⟨j,hj,g⟩:=this;rw [List.mem_range] at hj;rw [List.getElem?_map,List.getElem?_eq_getElem hj] at g;simp only [Option.map_some,FactH.row,Bool.and_eq_true,Bool.not_eq_true'] at g;have h1:=(hI.mem j sp[j] (List.getElem?_eq_getElem hj) g.1).1 (hall j (by omega));rw [List.contains_iff_mem.2 h1] at g;cases g.2
  subst hsM;have hfill:a=fillF a0 (dsH sp) (fun d=>a.eval (.tmp d)):=by
   refine act_ext (by rw [fillF_size,hN];exact hI.g.sz) (by rw [fillF_defers];exact hI.g.df) (fun t ht=>?_);rw [fillF_eval _ _ a0 t (by rw [hN,← hI.g.sz];exact ht)];by_cases h1:t∈dsH sp
   ·simp [h1]
   ·simp [h1,hI.g.kp t h1]
  rw [hfill];refine hend _ w hI.hG (fun e he d hd=>?_);rw [← hfill];obtain ⟨j,hj⟩:=List.mem_iff_getElem?.1 he;exact hI.f j e hj (hall j (by have:=(List.getElem?_eq_some_iff.1 hj).1;omega)) d hd
end
end Go.Proofs.YtacinobmcgcccaaGreatDoor
/- Edges: the iterator over a ring's edges. -/
namespace Go.Proofs.YtacinobmcgcccaaGreatDoor
open Go.RowKit Go.Shelf
attribute [local go_sem] Oper.semAt_some
def upTo {α:Type} (f:Nat→α) (k:Nat):List α:=(List.range k).map f
theorem upTo_succ {α:Type} (f:Nat→α) (k:Nat):upTo f (k+1)=upTo f k++[f k]:=by simp [upTo,List.range_succ]
theorem upTo_length {α:Type} (f:Nat→α) (k:Nat):(upTo f k).length=k:=by simp [upTo]
theorem grown_drew (W:World):W.grownBy W.drew none:=⟨rfl,rfl,rfl,Nat.le_refl _,fun _ _ _=>rfl⟩
def KpE (n₀ Bs:Nat) (W W':World):Prop:=Below n₀ W W'∧W'.heap[Bs]? = W.heap[Bs]?
theorem KpE.refl (n₀ Bs:Nat) (W:World):KpE n₀ Bs W W:=⟨Below.refl _ _,rfl⟩
theorem KpE.trans {n₀ Bs:Nat} {A B C:World} (h:KpE n₀ Bs A B) (k:KpE n₀ Bs B C):KpE n₀ Bs A C:=⟨h.1.trans k.1,k.2.trans h.2⟩
theorem KpE.box {n₀ Bs:Nat} {A B:World} (h:KpE n₀ Bs A B):B.cell? ⟨Bs,0,none⟩=A.cell? ⟨Bs,0,none⟩:=by unfold World.cell?;rw [h.2]
theorem KpE.of_below {n₀ Bs:Nat} {W W':World} (h:Below W.heap.size W W') (hn:n₀≤W.heap.size) (hb:Bs<W.heap.size):KpE n₀ Bs W W':=⟨h.mono hn,h.block Bs hb⟩
def encIE (x:Nat × Eg):Array Value:=#[.int .i64 (x.1:Int),.agg #[.int .i64 x.2.a.x,.int .i64 x.2.a.y,.int .i64 x.2.b.x,.int .i64 x.2.b.y]]
set_option maxRecDepth 100000 in
set_option maxHeartbeats 2000000 in
theorem edges1_in (n:Nat) (l Bs n₀ b off len cap:Nat) (r:List Pt) (hlen:r.length=len) (hreach:len≤8796093022208) (hb:b<n₀) (J Jx:Nat→World→Prop)
 (hY:∀ k W,J k W→k<len→YieldAt Fence.wide (n - 1) Tryz.prog l (encIE (k,edgeAt r k)) W fun e W'=>
   (e=.returned (.bool true)∧J (k+1) W'∧KpE n₀ Bs W W')∨(e=.returned (.bool false)∧Jx (k+1) W'))
 (hJ:∀ pre W o,J pre W→J pre (W.alloc o)) (hJd:∀ pre W,J pre W→J pre W.drew)
 (W:World) (hW:n₀≤W.heap.size) (hBl:Bs<W.heap.size) (hBs:W.cell? ⟨Bs,0,none⟩=some (.slice (some ⟨b,off,none⟩) len cap)) (hc:∀ j,j<len→W.cell? ⟨b,off+j * 2,none⟩=some (.int .i64 (r.getD j default).x)∧W.cell? ⟨b,off+j * 2+1,none⟩=some (.int .i64 (r.getD j default).y)) (h0:J 0 W) :
 CallsIn Fence.wide n Tryz.prog 151 #[.func (.yield l) #[] #[],.pointer (some ⟨Bs,0,none⟩)] W fun e W'=>(∃ v,e=.returned v) ∧
  (J len W'∨(∃ k,k≤len∧Jx k W')):=by
 refine callsIn_of_wp Tryz.func151 rfl trivial ?_ rfl;simp only [Tryz.ntmps151,List.size_toArray,List.length_cons,List.length_nil,Nat.reduceAdd,Nat.reduceSub,Array.replicate_succ,Array.replicate_zero,List.push_toArray,List.append_toArray,List.nil_append,List.cons_append]
 gi_wp2
 gi_loopw [3,4,7] (fun _ _ i wr=>∃ k:Nat,k≤len∧i=.int .i64 k∧J k wr∧KpE n₀ Bs W wr)
  (fun _ _ i _=>len - (intOf i).toNat)
 case atStart=>exact ⟨0,Nat.zero_le _,rfl,h0,KpE.refl _ _ _⟩
 case round=>
  obtain ⟨k,hk,rfl,hJs,hkx⟩:=hrel;have hcb:=hkx.box.trans hBs;have hKX:=hide hkx;have hnx:=hkx.1;clear hkx;have hcx:∀ j,j<len→wr.cell? ⟨b,off+j * 2,none⟩=some (.int .i64 (r.getD j default).x)∧wr.cell? ⟨b,off+j * 2+1,none⟩=some (.int .i64 (r.getD j default).y):=fun j h=>⟨(hnx.cell (p:=⟨b,off+j * 2,none⟩) hb).trans (hc j h).1,(hnx.cell (p:=⟨b,off+j * 2+1,none⟩) hb).trans (hc j h).2⟩
  by_cases hlt:k<len
  ·obtain ⟨c0,c1⟩:=hcx k hlt;have hlt2:(k+1) % len<len:=Nat.mod_lt _ (by omega);obtain ⟨d0,d1⟩:=hcx _ hlt2;obtain ⟨k2,hk2⟩:∃ q,(k+1) % len=q:=⟨_,rfl⟩;rw [hk2] at d0 d1 hlt2;have ek:Int.tmod ((k:Int)+1) (len:Int)=(k2:Int):=by
    rw [← hk2];have:=Int.natCast_emod (k+1) len;rw [Int.tmod_eq_emod_of_nonneg (by omega)];rw [this];rfl
   have dn0:((len:Int) == 0)=false:=by simp;omega
   obtain ⟨p,hp⟩:∃ p,r.getD k default=p:=⟨_,rfl⟩;obtain ⟨q,hq⟩:∃ q,r.getD k2 default=q:=⟨_,rfl⟩;have HE:=hide (show edgeAt r k=⟨p,q⟩ from by unfold edgeAt;rw [hlen,hk2,hp,hq]);rw [hp] at c0 c1;rw [hq] at d0 d1;have hk3:KpE n₀ Bs wr (wr.alloc (Obj.cells #[.int .i64 p.x,.int .i64 p.y] 56)):=KpE.of_below (bal bR _) (Nat.le_trans hW hnx.size) (nLl hBl hnx.size);have hb3:Below n₀ wr (wr.alloc (Obj.cells #[.int .i64 p.x,.int .i64 p.y] 56)):=(Below.refl n₀ wr).alloc (Nat.le_trans hW hnx.size) _;have hbk:=Blk.new wr 56 #[.int .i64 p.x,.int .i64 p.y];have hJ3:=hJ _ _ (Obj.cells #[.int .i64 p.x,.int .i64 p.y] 56) hJs;clear hcx hp hq
   gi_wp2
   obtain ⟨bx,hbx⟩:∃ q,wr.heap.size=q:=⟨_,rfl⟩;obtain ⟨w3,hw3⟩:∃ q,wr.alloc (Obj.cells #[.int .i64 p.x,.int .i64 p.y] 56)=q:=⟨_,rfl⟩;rw [hw3] at hk3 hb3 hJ3 hbk ⊢;rw [hbx] at hbk ⊢;have kb:=hbk.cell;have fz:=hbk.frozen;have e0:=hk3.box.trans hcb;have e1:=(hb3.cell (p:=⟨b,off+k2 * 2,none⟩) hb).trans d0;have e2:=(hb3.cell (p:=⟨b,off+k2 * 2+1,none⟩) hb).trans d1;have hJ4:=hJd _ _ hJ3;obtain ⟨fn,tmps,assign,body,hy,hR⟩:=hY k _ hJ4 hlt;rw [HE.out] at hy;dsimp only [encIE] at hy;have hB4:KpE n₀ Bs wr w3.drew:=⟨hb3.drew,hk3.2⟩;clear c0 c1 d0 d1 hcb hw3 hbx hJ3 hJs;have hl0:¬ len=0:=by omega
   have hwr:IntKind.i64.wrap ((k:Int)+1)=(k:Int)+1:=by rw [IntKind.wrap_i64];omega
   have hk1:(k:Int)+1≤9223372036854775807:=by omega
   have kb':∀ i,w3.drew.cell? ⟨bx,i,none⟩=#[Value.int .i64 p.x,.int .i64 p.y][i]?:=kb;have fz':∀ i,w3.drew.frozen? ⟨bx,i,none⟩=false:=fz;have e0':w3.drew.cell? ⟨Bs,0,none⟩=some (.slice (some ⟨b,off,none⟩) len cap):=e0;have e1':w3.drew.cell? ⟨b,off+k2 * 2,none⟩=some (.int .i64 q.x):=e1;have e2':w3.drew.cell? ⟨b,off+k2 * 2+1,none⟩=some (.int .i64 q.y):=e2;obtain ⟨w4,hw4⟩:∃ q,w3.drew=q:=⟨_,rfl⟩;rw [hw4] at kb' fz' e0' e1' e2' hy hR hB4 hJ4;have HR:=hide hR;have HB4:=hide hB4;clear kb fz e0 e1 e2 hR hk3 hB4;refine wpIn_region_dag (by kernel_rfl) (by kernel_rfl) 27 1
    [⟨some 12,[0],[],[],[],[],fun _ _ v _=>v=.func (.yield l) #[] #[]⟩,
     ⟨some 13,[0],[],[],[],[],fun _ _ v _=>v=.int .i64 (k:Int)⟩,
     ⟨some 14,[0],[],[],[],[],fun _ _ v _=>v=.agg #[.int .i64 p.x,.int .i64 p.y]⟩,
     ⟨some 15,[0],[],[],[],[],fun _ _ v _=>v=.slice (some ⟨b,off,none⟩) len cap⟩,
     ⟨some 16,[0],[],[],[],[],fun _ _ v _=>v=.int .i64 (k:Int)⟩,
     ⟨some 17,[0],[],[],[4],[],fun _ _ v _=>v=.int .i64 ((k:Int)+1)⟩,
     ⟨some 18,[0],[],[],[],[],fun _ _ v _=>v=.slice (some ⟨b,off,none⟩) len cap⟩,
     ⟨some 19,[0],[],[],[6],[],fun _ _ v _=>v=.int .i64 (len:Int)⟩,
     ⟨some 20,[0],[],[],[5,7],[],fun _ _ v _=>v=.int .i64 (k2:Int)⟩,
     ⟨some 21,[0],[],[],[3,8],[],fun _ _ v _=>v=.pointer (some ⟨b,off+k2 * 2,none⟩)⟩,
     ⟨some 22,[0],[],[],[9],[],fun _ _ v _=>v=.agg #[.int .i64 q.x,.int .i64 q.y]⟩,
     ⟨some 23,[0],[],[],[2,10],[],fun _ _ v _=>v=.agg #[.int .i64 p.x,.int .i64 p.y,.int .i64 q.x,.int .i64 q.y]⟩,
     ⟨some 24,[0],[(0,1)],[1],[0,1,11],[],fun st a v w'=>1≤st ∧ ∃ bo,v=.bool bo∧((bo=true∧J (k+1) w'∧KpE n₀ Bs w4 w')∨(bo=false∧Jx (k+1) w'))⟩,
     ⟨some 25,[1],[],[],[12],[],fun st a v w'=>1≤st ∧ ∃ bo,v=.bool (!bo)∧((bo=true∧J (k+1) w'∧KpE n₀ Bs w4 w')∨(bo=false∧Jx (k+1) w'))⟩] (fun st w'=>st=0→w'=w4) (fun s s' _ _ _=>s=0∧s'=1) (fun _ w w'=>w'=w) ?gu ?ru ?put [12,13,14,15,16,17,18,19,20,21,22,23,24,25] rfl (by kernel_rfl) rfl ?g0 ?keep ?steps ?fin
   case ru=>
    intro e he s a v w w' hu hv;simp only [List.mem_cons,List.not_mem_nil,or_false] at he;rcases he with rfl|rfl|rfl|rfl|rfl|rfl|rfl|rfl|rfl|rfl|rfl|rfl|rfl|rfl
    all_goals first|exact hv|(subst hu;exact hv)
   case put=>
    intro e he s a d u v w hnd hv;simp only [List.mem_cons,List.not_mem_nil,or_false] at he;rcases he with rfl|rfl|rfl|rfl|rfl|rfl|rfl|rfl|rfl|rfl|rfl|rfl|rfl|rfl
    all_goals first|exact hv
   case keep=>
    intro e he s s' a v w w' hsl hm ht hv;simp only [List.mem_cons,List.not_mem_nil,or_false] at he;rcases he with rfl|rfl|rfl|rfl|rfl|rfl|rfl|rfl|rfl|rfl|rfl|rfl|rfl|rfl
    all_goals first|exact hv|(exfalso;have:=hv.1;have:=ht.1;omega)
   case steps=>
    refine ⟨?_,?_,?_,?_,?_,?_,?_,?_,?_,?_,?_,?_,?_,?_,trivial⟩
    ·intro st hst ac w3 hg hG hd K hK;dsimp only at hst hG hK;refine op_wide ?_;exact op_move _ rfl (hK _ _ rfl (hg.kp 0 (by simp)))
    ·intro st hst ac w3 hg hG hd K hK;dsimp only at hst hG hK;refine op_wide ?_;exact op_move _ rfl (hK _ _ rfl (hg.kp 3 (by simp)))
    ·intro st hst ac w3 hg hG hd K hK;dsimp only at hst hG hK;refine op_wide ?_;simp only [List.mem_cons,List.not_mem_nil,or_false] at hst;subst hst;obtain rfl:=hG rfl;clear hG;have k4:=hg.kp 4 (by simp);(try simp [Act.eval] at k4);go_simp;exact hK _ _ rfl rfl
    ·intro st hst ac w3 hg hG hd K hK;dsimp only at hst hG hK;refine op_wide ?_;simp only [List.mem_cons,List.not_mem_nil,or_false] at hst;subst hst;obtain rfl:=hG rfl;clear hG;have k1:=hg.kp 1 (by simp);(try simp [Act.eval] at k1);go_simp;exact hK _ _ rfl rfl
    ·intro st hst ac w3 hg hG hd K hK;dsimp only at hst hG hK;refine op_wide ?_;exact op_move _ rfl (hK _ _ rfl (hg.kp 3 (by simp)))
    ·intro st hst ac w3 hg hG hd K hK;dsimp only at hst hG hK;refine op_wide ?_;have f4:=hd 4 (by simp) _ rfl _ rfl;(try simp [Act.eval] at f4);go_simp;exact hK _ _ rfl rfl
    ·intro st hst ac w3 hg hG hd K hK;dsimp only at hst hG hK;refine op_wide ?_;simp only [List.mem_cons,List.not_mem_nil,or_false] at hst;subst hst;obtain rfl:=hG rfl;clear hG;have k1:=hg.kp 1 (by simp);(try simp [Act.eval] at k1);go_simp;exact hK _ _ rfl rfl
    ·intro st hst ac w3 hg hG hd K hK;dsimp only at hst hG hK;refine op_wide ?_;have f6:=hd 6 (by simp) _ rfl _ rfl;(try simp [Act.eval] at f6);go_simp;exact hK _ _ rfl rfl
    ·intro st hst ac w3 hg hG hd K hK;dsimp only at hst hG hK;refine op_wide ?_;have f5:=hd 5 (by simp) _ rfl _ rfl;have f7:=hd 7 (by simp) _ rfl _ rfl;(try simp [Act.eval] at f5);(try simp [Act.eval] at f7);go_simp;exact hK _ _ rfl rfl
    ·intro st hst ac w3 hg hG hd K hK;dsimp only at hst hG hK;refine op_wide ?_;have f3:=hd 3 (by simp) _ rfl _ rfl;have f8:=hd 8 (by simp) _ rfl _ rfl;(try simp [Act.eval] at f3);(try simp [Act.eval] at f8);go_simp;exact hK _ _ rfl rfl
    ·intro st hst ac w3 hg hG hd K hK;dsimp only at hst hG hK;refine op_wide ?_;simp only [List.mem_cons,List.not_mem_nil,or_false] at hst;subst hst;obtain rfl:=hG rfl;clear hG;have f9:=hd 9 (by simp) _ rfl _ rfl;(try simp [Act.eval] at f9);go_simp;exact hK _ _ rfl rfl
    ·intro st hst ac w3 hg hG hd K hK;dsimp only at hst hG hK;refine op_wide ?_;have f2:=hd 2 (by simp) _ rfl _ rfl;have f10:=hd 10 (by simp) _ rfl _ rfl;(try simp [Act.eval] at f2);(try simp [Act.eval] at f10);go_simp;exact hK _ _ rfl rfl
    ·intro st st' hmv ac w3 hg hG hd K hK;simp only [List.mem_cons,Prod.mk.injEq,List.not_mem_nil,or_false] at hmv;obtain ⟨rfl,rfl⟩:=hmv;dsimp only at hG hK;have f0:=hd 0 (by simp) _ rfl _ rfl;have f1:=hd 1 (by simp) _ rfl _ rfl;have f11:=hd 11 (by simp) _ rfl _ rfl;obtain rfl:=hG rfl;clear hG;simp [Act.eval] at f0 f1 f11;go_simp;refine ⟨fun hd=>by simp [Fence.wide] at hd,HR.out.mono ?_⟩;rintro e W' (⟨rfl,h1,h2⟩|⟨rfl,h1⟩)
     ·exact hK _ _ ⟨rfl,rfl⟩ (fun e=>by omega) ⟨Nat.le_refl _,true,rfl,.inl ⟨rfl,h1,h2⟩⟩
     ·exact hK _ _ ⟨rfl,rfl⟩ (fun e=>by omega) ⟨Nat.le_refl _,false,rfl,.inr ⟨rfl,h1⟩⟩
    ·intro st hst ac w3 hg hG hd K hK;dsimp only at hst hG hK;refine op_wide ?_;(obtain ⟨h1,bo,f12,h2⟩:=hd 12 (by simp) _ rfl _ rfl);clear hG;simp [Act.eval] at f12;go_simp;exact hK _ _ rfl ⟨h1,bo,rfl,h2⟩
   case gu=>intro s a b hG hu e;rw [hu];exact hG e
   case g0=>intro _;exact hw4
   case fin=>
    intro f9 w9 hG hall;obtain ⟨-,bo,h25,h2⟩:=hall _ (List.mem_of_getElem? (i:=13) rfl) 25 rfl;have H2:=hide h2;clear hall hG h2 hwr hk1;simp only [fillF,List.map_cons,List.map_nil,List.foldl_cons,List.foldl_nil,Act.put,List.setIfInBounds_toArray,List.set_cons_zero,List.set_cons_succ];rw [h25];clear h25;rcases H2.out with ⟨rfl,h3,h4⟩|⟨rfl,h3⟩
    ·have H3:=hide h3;have H4:=hide h4;clear H2 h3 h4
     gi_wp2
     go_roundw
     case rel=>exact ⟨k+1,by omega,by simp,H3.out,(hKX.out.trans HB4.out).trans H4.out⟩
     case measure=>simp [intOf];omega
    ·have H3:=hide h3;clear H2 h3
     gi_wp2
     refine bodyPost_ret (results_none rfl _ _ _) rfl ?_;exact ⟨⟨_,rfl⟩,.inr ⟨k+1,by omega,H3.out⟩⟩
  ·obtain rfl:k=len:=by omega
   gi_wp2
   go_end0
   exact ⟨⟨_,rfl⟩,.inl hJs⟩
set_option maxRecDepth 100000 in
set_option maxHeartbeats 1000000 in
theorem edges1_none (n:Nat) (l Bs cap:Nat) (A:Option Addr) (J:Nat→World→Prop) (W:World) (hBs:W.cell? ⟨Bs,0,none⟩=some (.slice A 0 cap)) (h0:J 0 W) :
 CallsIn Fence.wide n Tryz.prog 151 #[.func (.yield l) #[] #[],.pointer (some ⟨Bs,0,none⟩)] W fun e W'=>(∃ v,e=.returned v)∧J 0 W':=by
 refine callsIn_of_wp Tryz.func151 rfl trivial ?_ rfl;simp only [Tryz.ntmps151,List.size_toArray,List.length_cons,List.length_nil,Nat.reduceAdd,Nat.reduceSub,Array.replicate_succ,Array.replicate_zero,List.push_toArray,List.append_toArray,List.nil_append,List.cons_append]
 gi_wp2
 gi_loopw [3,4,7] (fun _ _ i wr=>i=.int .i64 0∧J 0 wr) (fun _ _ _ _=>0)
 case atStart=>exact ⟨rfl,h0⟩
 case round=>
  obtain ⟨rfl,hJs⟩:=hrel
  gi_wp2
  go_end0
  exact ⟨⟨_,rfl⟩,hJs⟩
theorem edges_any (A:Option Addr) (len cap:Nat) (w:World) :
 Calls Tryz.prog 113 #[.slice A len cap] w fun e w'=>e=.returned (.func (.func 151) #[] #[.pointer (some ⟨w.heap.size,0,none⟩)])∧w'=w.alloc (.cells #[.slice A len cap] 23):=by
 go_enter Tryz.func113,Tryz.ntmps113
 go_wp2_with fail
 go_ret;exact ⟨rfl,rfl⟩
theorem edges_count (n:Nat) (l Bs n₀:Nat) (A:Option Addr) (len cap:Nat) (r:List Pt) (hreach:len≤8796093022208) (w W:World) (hBs:Bs<w.heap.size) (hn₀:n₀≤w.heap.size) (hc:w.cell? ⟨Bs,0,none⟩=some (.slice A len cap)) (hr:PR w n₀ A len r) (hW:Below w.heap.size w W)
 (J Jx:Nat→World→Prop) (hY:∀ k W,J k W→k<len→YieldAt Fence.wide (n - 1) Tryz.prog l (encIE (k,edgeAt r k)) W fun e W'=>
   (e=.returned (.bool true)∧J (k+1) W'∧KpE n₀ Bs W W')∨(e=.returned (.bool false)∧Jx (k+1) W'))
 (hJ:∀ k W o,J k W→J k (W.alloc o)) (hJd:∀ k W,J k W→J k W.drew) (h0:J 0 W) :
 CallsIn Fence.wide n Tryz.prog 151 #[.func (.yield l) #[] #[],.pointer (some ⟨Bs,0,none⟩)] W fun e W'=>(∃ v,e=.returned v)∧(J len W'∨(∃ k,k≤len∧Jx k W')):=by
 have hc':=(hW.cell (p:=⟨Bs,0,none⟩) hBs).trans hc;rcases Nat.eq_zero_or_pos len with rfl|hpos
 ·exact (edges1_none n l Bs cap A J W hc' h0).mono fun e W' ⟨he,hj⟩=>⟨he,.inl hj⟩
 ·obtain ⟨b,o,rfl,hb,hcs⟩:=hr.at hpos;refine edges1_in n l Bs n₀ b o len cap r hr.1 hreach hb J Jx hY hJ hJd W (Nat.le_trans hn₀ hW.size) (nLl hBs hW.size) hc' (fun j hj=>?_) h0;have hj':j<r.length:=by rw [hr.1];exact hj
  have h1:=hcs j hj';have e:r.getD j default=r[j]:=by simp [List.getD,hj']
  rw [e];exact ⟨((hW.mono hn₀).cell (p:=⟨b,o+j * 2,none⟩) hb).trans h1.1,((hW.mono hn₀).cell (p:=⟨b,o+j * 2+1,none⟩) hb).trans h1.2⟩
theorem edges_stops (n:Nat) (Bs n₀:Nat) (A:Option Addr) (len cap:Nat) (r:List Pt) (hreach:len≤8796093022208) (w:World) (hBs:Bs<w.heap.size) (hn₀:n₀≤w.heap.size) (hc:w.cell? ⟨Bs,0,none⟩=some (.slice A len cap)) (hr:PR w n₀ A len r) :
 SeqStopsK Fence.wide n Tryz.prog 151 #[.pointer (some ⟨Bs,0,none⟩)] encIE (KpE n₀ Bs) (fun ys=>ys=upTo (fun j=>(j,edgeAt r j)) len) (fun pre=>∃ k,k≤len∧pre=upTo (fun j=>(j,edgeAt r j)) k) len w:=fun l J Jx W hW hJ _ hY h0=>by
 refine (edges_count n l Bs n₀ A len cap r hreach w W hBs hn₀ hc hr hW (fun k=>J (upTo (fun j=>(j,edgeAt r j)) k)) (fun k=>Jx (upTo (fun j=>(j,edgeAt r j)) k)) (fun k W h hk=>?_) (fun k W o h=>hJ _ W _ none h (World.grownBy_alloc W o none) (fun r e=>by cases e)) (fun k W h=>hJ _ W _ none h (grown_drew W) (fun r e=>by cases e)) h0).mono ?_
 ·have:=hY _ (k,edgeAt r k) W h (by rw [upTo_length];exact hk);rw [upTo_succ];exact this
 ·rintro e W' ⟨he,hj|⟨k,hk,hj⟩⟩
  ·exact ⟨he,.inl ⟨_,rfl,hj⟩⟩
  ·exact ⟨he,.inr ⟨_,⟨k,hk,rfl⟩,hj⟩⟩
theorem fin_take {len k:Nat} (hk:k<len):(List.finRange len).take (k+1)=(List.finRange len).take k++[⟨k,hk⟩]:=by
 rw [List.take_succ_eq_append_getElem (by simpa using hk)];simp
theorem edges_stopsF (n:Nat) (Bs n₀:Nat) (A:Option Addr) (len cap:Nat) (r:List Pt) (hreach:len≤8796093022208) (w:World) (hBs:Bs<w.heap.size) (hn₀:n₀≤w.heap.size) (hc:w.cell? ⟨Bs,0,none⟩=some (.slice A len cap)) (hr:PR w n₀ A len r) :
 SeqStopsK Fence.wide n Tryz.prog 151 #[.pointer (some ⟨Bs,0,none⟩)] (fun i:Fin len=>encIE (i.val,edgeAt r i.val)) (KpE n₀ Bs) (fun ys=>ys=List.finRange len) (fun _=>True) len w:=fun l J Jx W hW hJ _ hY h0=>by
 refine (edges_count n l Bs n₀ A len cap r hreach w W hBs hn₀ hc hr hW (fun k=>J ((List.finRange len).take k)) (fun k=>Jx ((List.finRange len).take k)) (fun k W h hk=>?_) (fun k W o h=>hJ _ W _ none h (World.grownBy_alloc W o none) (fun r e=>by cases e)) (fun k W h=>hJ _ W _ none h (grown_drew W) (fun r e=>by cases e)) (by simpa using h0)).mono ?_
 ·have:=hY _ ⟨k,hk⟩ W h (by simp;omega);rw [fin_take hk];exact this
 ·rintro e W' ⟨he,hj|⟨k,hk,hj⟩⟩
  ·exact ⟨he,.inl ⟨_,rfl,by rw [List.take_of_length_le (by simp)] at hj;exact hj⟩⟩
  ·exact ⟨he,.inr ⟨_,trivial,hj⟩⟩
end Go.Proofs.YtacinobmcgcccaaGreatDoor
/- Blocks that are known whole, kept in a list. -/
namespace Go.Proofs.YtacinobmcgcccaaGreatDoor
open Go.RowKit
def Bs (W:World) (L:List (Nat × TypeId × Array Value)):Prop:=∀ p∈L,Blk W p.1 p.2.1 p.2.2
theorem Bs.nil (W:World):Bs W []:=fun _ h=>by cases h
theorem Bs.later {W W':World} {L:List (Nat × TypeId × Array Value)} (h:Bs W L) (hb:Below W.heap.size W W'):Bs W' L:=fun p hp=>(h p hp).below hb (h p hp).lt
theorem Bs.al {W:World} {L:List (Nat × TypeId × Array Value)} (h:Bs W L) (cs:Array Value) (t:TypeId):Bs (W.alloc (Obj.cells cs t)) ((W.heap.size,t,cs) :: L):=fun p hp=>by
 rcases List.mem_cons.1 hp with rfl|hp
 ·exact Blk.new _ _ _
 ·exact (h p hp).alloc _
theorem Bs.keep {W:World} {L:List (Nat × TypeId × Array Value)} (h:Bs W L) (o:Obj):Bs (W.alloc o) L:=fun p hp=>(h p hp).alloc _
theorem Bs.drew {W:World} {L:List (Nat × TypeId × Array Value)} (h:Bs W L):Bs W.drew L:=h
theorem Bs.get {W:World} {L:List (Nat × TypeId × Array Value)} (h:Bs W L) (g:Nat) (t:TypeId) (cs:Array Value) (hm:(g,t,cs)∈L):(∀ i,W.cell? ⟨g,i,none⟩=cs[i]?)∧(∀ i,W.frozen? ⟨g,i,none⟩=false)∧g<W.heap.size:=⟨(h _ hm).cell,(h _ hm).frozen,(h _ hm).lt⟩
theorem heap_al (w:World) (o:Obj):(w.alloc o).heap.size=w.heap.size+1:=by simp
end Go.Proofs.YtacinobmcgcccaaGreatDoor
