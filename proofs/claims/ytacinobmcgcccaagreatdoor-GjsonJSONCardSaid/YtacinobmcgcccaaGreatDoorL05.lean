/- A region that draws its order and ends with one store: a fact for each operation ahead of the store, and one behind it. -/
import Derived.Test.YtacinobmcgcccaaGreatDoorL00
set_option linter.unusedSimpArgs false
set_option linter.unusedVariables false
namespace Go.Proofs.YtacinobmcgcccaaGreatDoor
open Go.RowKit
structure Fact3 where
 k:Nat
 d:Nat
 R:Value→World→Prop
 R':Value→World→Prop
section
variable {P:Program} {Q:Exit→Act→World→Prop}
structure Gr (N:Nat) (a0:Act) (ds:List Nat) (a:Act):Prop where
 sz:a.tmps.size=N
 df:a.defers=[]
 kp:∀ t,t ∉ ds→a.eval (.tmp t)=a0.eval (.tmp t)
def Dep (sp:List Fact3) (o:Oper) (a:Act) (w:World):Prop:=∀ x∈o.after,Region.binds .any x=true → ∀ e':Fact3,sp[x.on]? = some e'→decide (e'.k<2)=true→e'.R (a.eval (.tmp e'.d)) w
def Dep' (sp:List Fact3) (o:Oper) (a:Act) (w:World):Prop:=∀ x∈o.after,Region.binds .any x=true → ∀ e':Fact3,sp[x.on]? = some e'→decide (e'.k<2)=true→e'.R' (a.eval (.tmp e'.d)) w
def ObA (P:Program) (Q:Exit→Act→World→Prop) (N:Nat) (a0:Act) (ds:List Nat) (w0:World) (sp:List Fact3) (o:Oper) (e:Fact3):Prop:=
 ∀ a w,Gr N a0 ds a→Below w0.heap.size w0 w→Dep sp o a w → ∀ K:Act→World→Prop,(∀ v w',Below w.heap.size w w'→e.R v w'→K (a.put (some e.d) v) w')→o.wp P a w K Q
def ObB (P:Program) (Q:Exit→Act→World→Prop) (N:Nat) (a0:Act) (ds:List Nat) (sp:List Fact3) (o:Oper) (e:Fact3):Prop:=
 ∀ a w,Gr N a0 ds a→Dep' sp o a w → ∀ K:Act→World→Prop,(∀ v,e.R' v w→K (a.put (some e.d) v) w)→o.wp P a w K Q
def ObC (P:Program) (Q:Exit→Act→World→Prop) (N:Nat) (a0:Act) (ds:List Nat) (w0:World) (sp:List Fact3) (St:Act→World→World→Prop) (o:Oper):Prop:=
 ∀ a w,Gr N a0 ds a→Below w0.heap.size w0 w→Dep sp o a w → ∀ K:Act→World→Prop,(∀ w',St a w w'→K a w')→o.wp P a w K Q
def Ob (P:Program) (Q:Exit→Act→World→Prop) (N:Nat) (a0:Act) (ds:List Nat) (w0:World) (sp:List Fact3) (St:Act→World→World→Prop) (o:Oper) (e:Fact3):Prop:=
 match e.k with
 | 0=>ObA P Q N a0 ds w0 sp o e
 | 1=>ObA P Q N a0 ds w0 sp o e∧ObB P Q N a0 ds sp o e
 | _=>ObC P Q N a0 ds w0 sp St o
def Obs (P:Program) (Q:Exit→Act→World→Prop) (N:Nat) (a0:Act) (ds:List Nat) (w0:World) (sp:List Fact3) (St:Act→World→World→Prop):List Oper→List Fact3→Prop
 | o :: os,e :: es=>Ob P Q N a0 ds w0 sp St o e∧Obs P Q N a0 ds w0 sp St os es
 | [],[]=>True
 | _,_=>False
theorem Obs.get {N:Nat} {a0:Act} {ds:List Nat} {w0:World} {sp:List Fact3} {St:Act→World→World→Prop}:∀ (os:List Oper) (es:List Fact3),Obs P Q N a0 ds w0 sp St os es → ∀ (j:Nat) (o:Oper),os[j]? = some o → ∃ e:Fact3,es[j]? = some e∧Ob P Q N a0 ds w0 sp St o e
 | o' :: os,e' :: es,h,0,o,ho=>by simp at ho;subst ho;exact ⟨e',rfl,h.1⟩
 | o' :: os,e' :: es,h,j+1,o,ho=>by
   obtain ⟨e,h1,h2⟩:=Obs.get os es h.2 j o (by simpa using ho);exact ⟨e,by simpa using h1,h2⟩
 | [],[],_,j,o,ho=>by simp at ho
 | _ :: _,[],h,_,_,_=>by simp [Obs] at h
 | [],_ :: _,h,_,_,_=>by simp [Obs] at h
def okS (N:Nat) (si:Nat) (ks:List (Nat × Nat)) (l:List Oper):Bool:=
 decide (l.length=ks.length)&&l.all (fun o=>o.guard.isNone) &&
 (List.range ks.length).all (fun i=>match ks[i]? with
   | some (k,d)=>(i == si) == (decide (2≤k))&&(i == si||decide (d<N))&&(k != 0||(match l[si]? with|some os=>os.after.any (fun x=>x.on == i&&Region.binds .any x)|none=>false)) &&
     (List.range ks.length).all (fun j=>i == j||i == si||j == si||(match ks[j]? with|some (_,d')=>d != d'|none=>true))
   | none=>false)&&decide (si<l.length)
def dsOf (sp:List Fact3):List Nat:=(sp.filter (fun e=>decide (e.k<2))).map (·.d)
structure InvS (N:Nat) (a0:Act) (w0:World) (sp:List Fact3) (l:List Oper) (si:Nat) (D:Nat→Bool) (a:Act) (w:World):Prop where
 g:Gr N a0 (dsOf sp) a
 pre:D si=false→Below w0.heap.size w0 w ∧ ∀ (j:Nat) (e:Fact3),sp[j]? = some e→D j=true→j≠si→e.R (a.eval (.tmp e.d)) w
 post:D si=true→(∀ os,l[si]? = some os → ∀ x∈os.after,Region.binds .any x=true→D x.on=true) ∧ ∀ (j:Nat) (e:Fact3),sp[j]? = some e→D j=true→j≠si→e.R' (a.eval (.tmp e.d)) w
theorem wp_region_store {id:Nat} {a0:Act} {w0:World} {l:List Oper} (hm:P.follows .mixedOrders=true) (hB:edgesBack l=true) (N si:Nat) (sp:List Fact3) (St:Act→World→World→Prop)
 (ds:List Nat) (hds:dsOf sp=ds) (hok:okS N si (sp.map fun e=>(e.k,e.d)) l=true) (hN:a0.tmps.size=N) (hdf:a0.defers=[])
 (hmono:∀ e∈sp,e.k<2 → ∀ v w w',Below w0.heap.size w0 w→Below w.heap.size w w'→e.R v w→e.R v w')
 (hturn:∀ e∈sp,e.k<2 → ∀ a w w',St a w w'→e.R (a.eval (.tmp e.d)) w→e.R' (a.eval (.tmp e.d)) w')
 (hs:Obs P Q N a0 ds w0 sp St l sp)
 (hend:∀ (f:Nat→Value) w,(∀ e∈sp,e.k<2→e.R' (f e.d) w)→Q .normal (fillF a0 ds f) w):(Code.region id l.toArray true).wp P Q a0 w0:=by
 subst hds;unfold okS at hok;simp only [Bool.and_eq_true,List.all_eq_true,decide_eq_true_eq,List.length_map,List.mem_range] at hok;obtain ⟨⟨⟨h4,hgd⟩,hks⟩,hsi⟩:=hok;have hkind:∀ (i:Nat) (e:Fact3),sp[i]? = some e→(i=si ↔ 2≤e.k)∧(i≠si→e.d<N)∧(e.k=0 → ∀ os,l[si]? = some os → ∃ x∈os.after,x.on=i∧Region.binds .any x=true) ∧
  (∀ (j:Nat) (e':Fact3),sp[j]? = some e'→i≠j→i≠si→j≠si→e.d≠e'.d):=fun i e he=>by
  have hi:=(List.getElem?_eq_some_iff.1 he).1;have h:=hks i hi;rw [List.getElem?_map,he] at h;simp only [Option.map_some,Bool.and_eq_true,List.all_eq_true,List.mem_range,Bool.or_eq_true,beq_iff_eq,bne_iff_ne,ne_eq,decide_eq_true_eq] at h;obtain ⟨⟨⟨g1,g2⟩,g3⟩,g4⟩:=h;refine ⟨?_,fun hne=>g2.resolve_left hne,fun hk os hos=>?_,fun j e' he' hij his hjs=>?_⟩
  ·rw [Bool.eq_iff_iff] at g1;simpa using g1
  ·rcases g3 with g3|g3
   ·exact absurd hk g3
   ·rw [hos] at g3;simp only [Array.any_eq_true',Bool.and_eq_true,beq_iff_eq] at g3;obtain ⟨x,hx,h1,h2⟩:=g3;exact ⟨x,hx,h1,h2⟩
  ·have hj:=(List.getElem?_eq_some_iff.1 he').1;have:=g4 j hj;rw [List.getElem?_map,he'] at this;simp only [Option.map_some,bne_iff_ne,ne_eq] at this;rcases this with ((h|h)|h)|h
   ·exact absurd h hij
   ·exact absurd h his
   ·exact absurd h hjs
   ·exact h
 have hmem:∀ (i:Nat) (e:Fact3),sp[i]? = some e→i≠si→e.k<2∧e.d∈dsOf sp:=fun i e he hne=>by
  have hk:e.k<2:=by have:=(hkind i e he).1;omega
  exact ⟨hk,List.mem_map.2 ⟨e,List.mem_filter.2 ⟨List.mem_of_getElem? he,by simpa using hk⟩,rfl⟩⟩
 refine wp_region_inv hm hB (InvS N a0 w0 sp l si) ⟨⟨hN,hdf,fun _ _=>rfl⟩,fun _=>⟨bR.drew,(fun j e _ h=>by cases h)⟩,(fun h=>by cases h)⟩ ?_ (fun D a w hI hall=>?_)
 ·suffices ∀ (l':List Oper) (k:Nat),(∀ (j:Nat) (o:Oper),l'[j]? = some o→l[k+j]? = some o)→Steps1 P l.toArray Q (InvS N a0 w0 sp l si) l' k from this l 0 (fun j o h=>by simpa using h)
  intro l'
  induction l' with
  | nil=>intro k _;trivial
  | cons o l' ih=>
    intro k hk;refine ⟨?_,ih (k+1) (fun j o' h=>by have:=hk (j+1) o' (by simpa using h);rw [show k+1+j=k+(j+1) by omega];exact this)⟩;intro D a w hI hD hdep K hK;have hko:l[k]? = some o:=by simpa using hk 0 o rfl
    obtain ⟨e,he,hob⟩:=Obs.get l sp hs k o hko;have hgo:o.guard=none:=by have:=hgd o (List.mem_of_getElem? hko);simpa using this
    rw [if_pos (by simp [Region.wanted,hgo])];have hself:∀ (D:Nat→Bool) (i:Nat),seen D i i=true:=fun D i=>by simp [seen]
    have hoth:∀ (D:Nat→Bool) (i j:Nat),j≠i→seen D i j=D j:=fun D i j h=>by simp [seen,h]
    by_cases hks':k=si
    ·-- the store
     subst hks';obtain ⟨hb0,hf⟩:=hI.pre hD;have hk2:2≤e.k:=((hkind k e he).1).1 rfl;have hC:ObC P Q N a0 (dsOf sp) w0 sp St o:=by
      unfold Ob at hob
      match hek:e.k,hob with
      | 0,_=>omega
      | 1,_=>omega
      | n+2,hob=>exact hob
     refine hC a w hI.g hb0 (fun x hx hb e' he' _=>hf x.on e' he' (hdep x hx hb) (fun hc=>by have:=hdep x hx hb;rw [hc,hD] at this;cases this)) K (fun w' hst'=>hK _ _ ⟨hI.g,(fun h=>by rw [hself] at h;cases h),fun _=>⟨fun os hos x hx hb=>?_,fun j e' he' hj hne=>?_⟩⟩)
     ·rw [hko] at hos;cases hos;have h1:=hdep x hx hb;by_cases hxk:x.on=k
      ·rw [hxk];exact hself _ _
      ·rw [hoth _ _ _ hxk];exact h1
     ·rw [hoth _ _ _ hne] at hj;exact hturn e' (List.mem_of_getElem? he') (hmem j e' he' hne).1 a w w' hst' (hf j e' he' hj hne)
    ·obtain ⟨hk2,hdm⟩:=hmem k e he hks';have hsz:e.d<a.tmps.size:=by rw [hI.g.sz];exact (hkind k e he).2.1 hks'
     have hgr:∀ v,Gr N a0 (dsOf sp) (a.put (some e.d) v):=fun v=>
      ⟨by rw [act_size];exact hI.g.sz,by rw [act_defers];exact hI.g.df,fun t ht=>by rw [act_ne (fun h=>ht (by rw [h];exact hdm))];exact hI.g.kp t ht⟩
     have hslot:∀ v (j:Nat) (e':Fact3),sp[j]? = some e'→j≠k→j≠si→(a.put (some e.d) v).eval (.tmp e'.d)=a.eval (.tmp e'.d):=fun v j e' he' hj hjs=>act_ne ((hkind j e' he').2.2.2 k e he hj hjs hks')
     cases hDs:D si with
     | false=>
       obtain ⟨hb0,hf⟩:=hI.pre hDs;have hA:ObA P Q N a0 (dsOf sp) w0 sp o e:=by
        unfold Ob at hob
        match hek:e.k,hob with
        | 0,hob=>exact hob
        | 1,hob=>exact hob.1
        | n+2,_=>omega
       refine hA a w hI.g hb0 (fun x hx hb e' he' _=>hf x.on e' he' (hdep x hx hb) (fun hc=>by have:=hdep x hx hb;rw [hc,hDs] at this;cases this)) K (fun v w' hb hv=>hK _ _ ⟨hgr v,fun _=>⟨hb0.trans (hb.mono hb0.size),fun j e' he' hj hne=>?_⟩,fun h=>by rw [hoth _ _ _ (Ne.symm hks'),hDs] at h;cases h⟩);by_cases hjk:j=k
       ·subst hjk;rw [he] at he';cases he';rw [act_same hsz];exact hv
       ·rw [hslot v j e' he' hjk hne];rw [hoth _ _ _ hjk] at hj;exact hmono e' (List.mem_of_getElem? he') (hmem j e' he' hne).1 _ w w' hb0 hb (hf j e' he' hj hne)
     | true=>
       obtain ⟨hcl,hf⟩:=hI.post hDs;obtain ⟨os,hos⟩:∃ os,l[si]? = some os:=⟨_,List.getElem?_eq_getElem hsi⟩;have hB':ObB P Q N a0 (dsOf sp) sp o e:=by
        unfold Ob at hob
        match hek:e.k,hob with
        | 0,_=>
          exfalso;obtain ⟨x,hx,hxi,hxb⟩:=(hkind k e he).2.2.1 hek os hos;have:=hcl os hos x hx hxb;rw [hxi,hD] at this;cases this
        | 1,hob=>exact hob.2
        | n+2,_=>omega
       refine hB' a w hI.g (fun x hx hb e' he' hk'=>hf x.on e' he' (hdep x hx hb) (fun hc=>by
        have:=(hkind x.on e' he').1.1 hc;simp only [decide_eq_true_eq] at hk';omega)) K (fun v hv=>hK _ _ ⟨hgr v,(fun h=>by rw [hoth _ _ _ (Ne.symm hks'),hDs] at h;cases h),fun _=>⟨fun os hos x hx hb=>?_,fun j e' he' hj hne=>?_⟩⟩)
       ·by_cases hxk:x.on=k
        ·rw [hxk];exact hself _ _
        ·rw [hoth _ _ _ hxk];exact hcl os hos x hx hb
       ·by_cases hjk:j=k
        ·subst hjk;rw [he] at he';cases he';rw [act_same hsz];exact hv
        ·rw [hslot v j e' he' hjk hne];rw [hoth _ _ _ hjk] at hj;exact hf j e' he' hj hne
 ·have hDs:D si=true:=hall si hsi;obtain ⟨_,hf⟩:=hI.post hDs;have hfill:a=fillF a0 (dsOf sp) (fun d=>a.eval (.tmp d)):=by
   refine act_ext (by rw [fillF_size,hN];exact hI.g.sz) (by rw [fillF_defers,hdf];exact hI.g.df) (fun t ht=>?_);rw [fillF_eval _ _ a0 t (by rw [hN,← hI.g.sz];exact ht)];by_cases h1:t∈dsOf sp
   ·simp [h1]
   ·simp [h1,hI.g.kp t h1]
  rw [hfill];refine hend _ w (fun e he hk=>?_);obtain ⟨j,hj⟩:=List.mem_iff_getElem?.1 he;have hne:j≠si:=fun h=>by have:=(hkind j e hj).1.1 h;omega
  exact hf j e hj (hall j (by have:=(List.getElem?_eq_some_iff.1 hj).1;omega)) hne
end
def FreshC (w0:World) (t:TypeId) (cs:Array Value) (v:Value) (w:World):Prop:=Below w0.heap.size w0 w ∧ ∃ g,v=.pointer (some ⟨g,0,none⟩)∧w0.heap.size≤g∧Blk w g t cs
theorem FreshC.mono {w0 w w':World} {t:TypeId} {cs:Array Value} {v:Value} (h:FreshC w0 t cs v w) (hb:Below w.heap.size w w'):FreshC w0 t cs v w':=by
 obtain ⟨h0,g,h1,h2,h3⟩:=h;exact ⟨btr h0 hb,g,h1,h2,h3.below hb h3.lt⟩
theorem FreshC.new {w0 w:World} {t:TypeId} {cs:Array Value} (h:Below w0.heap.size w0 w):FreshC w0 t cs (.pointer (some ⟨w.heap.size,0,none⟩)) (w.alloc (.cells cs t)):=⟨bal h _,_,rfl,h.size,Blk.new _ _ _⟩
def St2 (sa:Nat) (u v:Value) (a:Act) (w w':World):Prop:=∃ g,a.eval (.tmp sa)=.pointer (some ⟨g,0,none⟩)∧w'=(w.setCell ⟨g,0,none⟩ u).setCell ⟨g,1,none⟩ v
theorem FreshC.put2 {w0 w w':World} {t:TypeId} {x y u v:Value} {sa:Nat} {a:Act} (hs:St2 sa u v a w w') (h:FreshC w0 t #[x,y] (a.eval (.tmp sa)) w):FreshC w0 t #[u,v] (a.eval (.tmp sa)) w':=by
 obtain ⟨h0,g,h1,h2,h3⟩:=h;obtain ⟨g',h1',rfl⟩:=hs;rw [h1] at h1';injection h1' with e;injection e with e;injection e with e;subst e;exact ⟨(h0.setCell h2 _).setCell h2 _,g,h1,h2,(h3.set_ 0 u).set_ 1 v⟩
structure FactG where
 d:Option Nat
 mem:Bool
 lo:Nat
 hi:Nat
 R:Nat→Value→World→Prop
section
variable {P:Program} {Q:Exit→Act→World→Prop}
def closedD (l:List Oper) (D:Nat→Bool):Prop:=∀ j o,l[j]? = some o→D j=true → ∀ x∈o.after,Region.binds .any x=true→D x.on=true
def ancNew (ms:List (List Nat)) (o:Oper):List Nat:=(o.after.toList.filter (fun x=>Region.binds .any x)).foldl (fun m x=>m++(ms.getD x.on []).filter (fun j=>!m.contains j)) [ms.length]
def ancs (l:List Oper):List (List Nat):=l.foldl (fun ms o=>ms++[ancNew ms o]) []
def AncOk (D:Nat→Bool) (ms:List (List Nat)):Prop:=∀ (i:Nat) (m:List Nat),ms[i]? = some m→D i=true → ∀ j∈m,D j=true
theorem ancFold_ok {D:Nat→Bool} {ms:List (List Nat)} (h:AncOk D ms):∀ (xs:List _) (m:List Nat),(∀ j∈m,D j=true)→(∀ x∈xs,D (x:Go.Edge).on=true) →
 ∀ j∈xs.foldl (fun m x=>m++(ms.getD x.on []).filter (fun j=>!m.contains j)) m,D j=true
 | [],m,hm,_=>hm
 | x :: xs,m,hm,hx=>by
   refine ancFold_ok h xs _ (fun j hj=>?_) (fun y hy=>hx y (List.mem_cons_of_mem _ hy));rcases List.mem_append.1 hj with hj|hj
   ·exact hm j hj
   ·have hj':=(List.mem_filter.1 hj).1;rw [List.getD_eq_getElem?_getD] at hj';cases e:ms[x.on]? with
    | none=>rw [e] at hj';simp at hj'
    | some m'=>rw [e] at hj';exact h x.on m' e (hx x (by simp)) j (by simpa using hj')
theorem ancs_ok_aux {l:List Oper} {D:Nat→Bool} (hc:closedD l D):∀ (rest:List Oper) (ms:List (List Nat)),AncOk D ms→(∀ (j:Nat) (o:Oper),rest[j]? = some o→l[ms.length+j]? = some o) →
 AncOk D (rest.foldl (fun ms o=>ms++[ancNew ms o]) ms)
 | [],ms,h,_=>h
 | o :: rest,ms,h,hl=>by
   refine ancs_ok_aux hc rest _ (fun i m hi hD=>?_) (fun j o' hj=>?_)
   ·by_cases hlt:i<ms.length
    ·rw [List.getElem?_append_left hlt] at hi;exact h i m hi hD
    ·have hi':i=ms.length:=by
      have:=(List.getElem?_eq_some_iff.1 hi).1;simp at this;omega
     subst hi';simp at hi;subst hi;have ho:l[ms.length]? = some o:=by simpa using hl 0 o rfl
     refine ancFold_ok h _ _ (fun j hj=>?_) (fun x hx=>?_)
     ·simp at hj;subst hj;exact hD
     ·have:=List.mem_filter.1 hx;exact hc _ o ho hD x (by simpa using this.1) this.2
   ·have:=hl (j+1) o' (by simpa using hj);rw [List.length_append,List.length_singleton,show ms.length+1+j=ms.length+(j+1) by omega];exact this
theorem ancs_ok {l:List Oper} {D:Nat→Bool} (hc:closedD l D):AncOk D (ancs l):=
 ancs_ok_aux hc l [] (fun i m h=>by simp at h) (fun j o h=>by simpa using h)
structure Row4 where
 d:Option Nat
 mem:Bool
 lo:Nat
 hi:Nat
def FactG.row (e:FactG):Row4:=⟨e.d,e.mem,e.lo,e.hi⟩
def stageOk (N M:Nat) (rs:List Row4) (l:List Oper):Bool:=
 decide (l.length=rs.length)&&l.all (fun o=>o.guard.isNone)&&(M == 0||rs.any (fun r=>r.mem&&r.lo+1 == M)) &&
 (rs.zip l).all (fun x=>x.1.d == x.2.dst) &&
 (List.range rs.length).all (fun i=>match rs[i]? with
   | none=>false
   | some r=>
     (match r.d with|none=>true|some d=>decide (d<N)&&(List.range rs.length).all fun j=>i == j||(match rs[j]? with|some r'=>r'.d != some d|none=>true)) &&
     (r.lo == 0||(List.range rs.length).any fun j=>(match rs[j]? with|some r'=>r'.mem&&r'.lo+1 == r.lo|none=>false)&&((ancs l).getD i []).contains j) &&
     (r.hi == M||(List.range rs.length).any fun j=>(match rs[j]? with|some r'=>r'.mem&&r'.lo == r.hi|none=>false)&&((ancs l).getD j []).contains i) &&
     (!r.mem||(r.lo == r.hi&&decide (r.hi<M)&&(List.range rs.length).all fun j=>i == j||(match rs[j]? with|some r'=>!r'.mem||r'.lo != r.lo|none=>true))))
structure GrD (N:Nat) (a0:Act) (ds:List Nat) (a:Act):Prop where
 sz:a.tmps.size=N
 df:a.defers=a0.defers
 kp:∀ t,t ∉ ds→a.eval (.tmp t)=a0.eval (.tmp t)
def dsG (sp:List FactG):List Nat:=sp.filterMap (·.d)
def DepG (sp:List FactG) (o:Oper) (s:Nat) (a:Act) (w:World):Prop:=∀ x∈o.after,Region.binds .any x=true → ∀ e':FactG,sp[x.on]? = some e' → ∀ d,e'.d=some d→e'.R s (a.eval (.tmp d)) w
def ObG (P:Program) (Q:Exit→Act→World→Prop) (N:Nat) (a0:Act) (ds:List Nat) (G:Nat→World→Prop) (T:Nat→World→World→Prop) (sp:List FactG) (o:Oper) (e:FactG):Prop:=
 match e.mem with
 | false=>∀ s,e.lo≤s→s≤e.hi → ∀ a w,GrD N a0 ds a→G s w→DepG sp o s a w → ∀ K:Act→World→Prop,(∀ v,e.R s v w→K (a.put e.d v) w)→o.wp P a w K Q
 | true=>∀ a w,GrD N a0 ds a→G e.lo w→DepG sp o e.lo a w → ∀ K:Act→World→Prop,(∀ v w',T e.lo w w'→G (e.lo+1) w'→e.R (e.lo+1) v w'→K (a.put e.d v) w')→o.wp P a w K Q
def ObsG (P:Program) (Q:Exit→Act→World→Prop) (N:Nat) (a0:Act) (ds:List Nat) (G:Nat→World→Prop) (T:Nat→World→World→Prop) (sp:List FactG):List Oper→List FactG→Prop
 | o :: os,e :: es=>ObG P Q N a0 ds G T sp o e∧ObsG P Q N a0 ds G T sp os es
 | [],[]=>True
 | _,_=>False
theorem ObsG.get {N:Nat} {a0:Act} {ds:List Nat} {G:Nat→World→Prop} {T:Nat→World→World→Prop} {sp:List FactG}:∀ (os:List Oper) (es:List FactG),ObsG P Q N a0 ds G T sp os es → ∀ (j:Nat) (o:Oper),os[j]? = some o →
 ∃ e:FactG,es[j]? = some e∧ObG P Q N a0 ds G T sp o e
 | o' :: os,e' :: es,h,0,o,ho=>by simp at ho;subst ho;exact ⟨e',rfl,h.1⟩
 | o' :: os,e' :: es,h,j+1,o,ho=>by
   obtain ⟨e,h1,h2⟩:=ObsG.get os es h.2 j o (by simpa using ho);exact ⟨e,by simpa using h1,h2⟩
 | [],[],_,j,o,ho=>by simp at ho
 | _ :: _,[],h,_,_,_=>by simp [ObsG] at h
 | [],_ :: _,h,_,_,_=>by simp [ObsG] at h
structure InvG (N M:Nat) (a0:Act) (G:Nat→World→Prop) (sp:List FactG) (l:List Oper) (D:Nat→Bool) (a:Act) (w:World) (s:Nat):Prop where
 g:GrD N a0 (dsG sp) a
 hG:G s w
 hM:s≤M
 cl:closedD l D
 mem:∀ (i:Nat) (e:FactG),sp[i]? = some e→e.mem=true→(D i=true ↔ e.lo<s)
 f:∀ (j:Nat) (e:FactG),sp[j]? = some e→D j=true → ∀ d,e.d=some d→e.R s (a.eval (.tmp d)) w
theorem wp_region_stage {id:Nat} {a0:Act} {w0:World} {l:List Oper} (hm:P.follows .mixedOrders=true) (hB:edgesBack l=true) (N M:Nat) (sp:List FactG) (G:Nat→World→Prop) (T:Nat→World→World→Prop)
 (ds:List Nat) (hds:dsG sp=ds) (hok:stageOk N M (sp.map FactG.row) l=true) (hN:a0.tmps.size=N)
 (h0:G 0 w0.drew)
 (hkeep:∀ e∈sp,∀ s v w w',(e.mem=true→e.lo<s)→s<M→T s w w'→e.R s v w→e.R (s+1) v w')
 (hs:ObsG P Q N a0 ds G T sp l sp)
 (hend:∀ (f:Nat→Value) w,G M w→(∀ e∈sp,∀ d,e.d=some d→e.R M (f d) w)→Q .normal (fillF a0 ds f) w):(Code.region id l.toArray true).wp P Q a0 w0:=by
 subst hds;unfold stageOk at hok;simp only [Bool.and_eq_true,List.all_eq_true,decide_eq_true_eq,List.length_map,List.mem_range] at hok;obtain ⟨⟨⟨⟨h4,hgd⟩,hlast⟩,hzip⟩,hks⟩:=hok;have hself:∀ (D:Nat→Bool) (i:Nat),seen D i i=true:=fun D i=>by simp [seen]
 have hoth:∀ (D:Nat→Bool) (i j:Nat),j≠i→seen D i j=D j:=fun D i j h=>by simp [seen,h]
 have hdst:∀ (i:Nat) (e:FactG) (o:Oper),sp[i]? = some e→l[i]? = some o→e.d=o.dst:=fun i e o he ho=>by
  have:=hzip (e.row,o) (by
   refine List.mem_of_getElem? (i:=i) ?_;rw [List.getElem?_zip_eq_some];exact ⟨by rw [List.getElem?_map,he];rfl,ho⟩)
  simpa [FactG.row] using this
 have hrow:∀ (i:Nat) (e:FactG),sp[i]? = some e →
  (∀ d,e.d=some d→d<N ∧ ∀ (j:Nat) (e':FactG),sp[j]? = some e'→i≠j→e'.d≠some d) ∧
  (e.lo=0 ∨ ∃ (j:Nat) (e':FactG),sp[j]? = some e'∧e'.mem=true∧e'.lo+1=e.lo∧j∈(ancs l).getD i []) ∧
  (e.hi=M ∨ ∃ (j:Nat) (e':FactG),sp[j]? = some e'∧e'.mem=true∧e'.lo=e.hi∧i∈(ancs l).getD j []) ∧
  (e.mem=true→e.lo=e.hi∧e.hi<M ∧ ∀ (j:Nat) (e':FactG),sp[j]? = some e'→i≠j→e'.mem=true→e'.lo≠e.lo):=fun i e he=>by
  have hi:=(List.getElem?_eq_some_iff.1 he).1;have h:=hks i hi;rw [List.getElem?_map,he] at h;simp only [Option.map_some,Bool.and_eq_true,Bool.or_eq_true,beq_iff_eq,List.any_eq_true,List.mem_range,List.contains_iff_mem] at h;obtain ⟨⟨⟨g1,g2⟩,g3⟩,g4⟩:=h;refine ⟨fun d hd=>?_,?_,?_,fun hmm=>?_⟩
  ·rw [show (e.row).d=some d from hd] at g1;simp only [Bool.and_eq_true,decide_eq_true_eq,List.all_eq_true,List.mem_range] at g1;refine ⟨g1.1,fun j e' he' hij hd'=>?_⟩;have:=g1.2 j (List.getElem?_eq_some_iff.1 he').1;rw [List.getElem?_map,he'] at this;simp [FactG.row,hd',hij] at this
  ·rcases g2 with g2|⟨j,hj,g2,g2'⟩
   ·exact .inl g2
   ·rw [List.getElem?_map,List.getElem?_eq_getElem hj] at g2;simp [FactG.row] at g2;exact .inr ⟨j,sp[j],List.getElem?_eq_getElem hj,g2.1,g2.2,g2'⟩
  ·rcases g3 with g3|⟨j,hj,g3,g3'⟩
   ·exact .inl g3
   ·rw [List.getElem?_map,List.getElem?_eq_getElem hj] at g3;simp [FactG.row] at g3;exact .inr ⟨j,sp[j],List.getElem?_eq_getElem hj,g3.1,g3.2,g3'⟩
  ·simp only [FactG.row,hmm,Bool.not_true,Bool.false_eq_true,false_or,decide_eq_true_eq,List.all_eq_true,List.mem_range] at g4;refine ⟨g4.1.1,g4.1.2,fun j e' he' hij hm' hlo=>?_⟩;have:=g4.2 j (List.getElem?_eq_some_iff.1 he').1;rw [List.getElem?_map,he'] at this;simp [FactG.row,hm',hlo,hij] at this
 have hanc:∀ (D:Nat→Bool),closedD l D → ∀ i j,D i=true→j∈(ancs l).getD i []→D j=true:=fun D hc i j hi hj=>by
  rw [List.getD_eq_getElem?_getD] at hj;cases e:(ancs l)[i]? with
  | none=>rw [e] at hj;simp at hj
  | some m=>rw [e] at hj;exact ancs_ok hc i m e hi j (by simpa using hj)
 refine wp_region_inv hm hB (fun D a w=>∃ s,InvG N M a0 G sp l D a w s) ⟨0,⟨hN,rfl,fun _ _=>rfl⟩,h0,Nat.zero_le _,fun _ _ _ h=>(by cases h),fun _ _ _ _=>⟨fun h=>(by cases h),fun h=>absurd h (Nat.not_lt_zero _)⟩,fun _ _ _ h=>(by cases h)⟩ ?_ (fun D a w hI hall=>?_)
 ·suffices ∀ (l':List Oper) (k:Nat),(∀ (j:Nat) (o:Oper),l'[j]? = some o→l[k+j]? = some o)→Steps1 P l.toArray Q (fun D a w=>∃ s,InvG N M a0 G sp l D a w s) l' k from this l 0 (fun j o h=>by simpa using h)
  intro l'
  induction l' with
  | nil=>intro k _;trivial
  | cons o l' ih=>
    intro k hk;refine ⟨?_,ih (k+1) (fun j o' h=>by have:=hk (j+1) o' (by simpa using h);rw [show k+1+j=k+(j+1) by omega];exact this)⟩;rintro D a w ⟨s,hI⟩ hD hdep K hK;have hko:l[k]? = some o:=by simpa using hk 0 o rfl
    obtain ⟨e,he,hob⟩:=ObsG.get l sp hs k o hko;have hgo:o.guard=none:=by have:=hgd o (List.mem_of_getElem? hko);simpa using this
    rw [if_pos (by simp [Region.wanted,hgo])];obtain ⟨hd1,hlo,hhi,hmm⟩:=hrow k e he;have hmem:e∈sp:=List.mem_of_getElem? he
    -- whatever stands ahead of k has come up
    have hup:∀ j∈(ancs l).getD k [],j≠k→D j=true:=fun j hj hjk=>by
     have hcl':closedD l (seen D k):=fun i o' ho' hi x hx hb=>by
      by_cases hik:i=k
      ·subst hik;rw [hko] at ho';cases ho';have:=hdep x hx hb;by_cases hxk:x.on=i
       ·rw [hxk];exact hself _ _
       ·rw [hoth _ _ _ hxk];exact this
      ·rw [hoth _ _ _ hik] at hi;have:=hI.cl i o' ho' hi x hx hb;by_cases hxk:x.on=k
       ·rw [hxk];exact hself _ _
       ·rw [hoth _ _ _ hxk];exact this
     have:=hanc _ hcl' k j (hself _ _) hj
     rwa [hoth _ _ _ hjk] at this
    have hcl:closedD l (seen D k):=fun i o' ho' hi x hx hb=>by
     by_cases hxk:x.on=k
     ·rw [hxk];exact hself _ _
     ·rw [hoth _ _ _ hxk];by_cases hik:i=k
      ·subst hik;rw [hko] at ho';cases ho';exact hdep x hx hb
      ·rw [hoth _ _ _ hik] at hi;exact hI.cl i o' ho' hi x hx hb
    have hsl:e.lo≤s:=by
     rcases hlo with h|⟨j,e',he',hm',hl',hj⟩
     ·omega
     ·have hjk:j≠k:=fun h=>by
       subst h;rw [he] at he';cases he';omega
      have:=(hI.mem j e' he' hm').1 (hup j hj hjk);omega
    have hsh:s≤e.hi:=by
     rcases hhi with h|⟨j,e',he',hm',hl',hj⟩
     ·rw [h];exact hI.hM
     ·have hjD:D j=false:=by
       cases h:D j
       ·rfl
       ·have:=hanc _ hI.cl j k h hj;rw [hD] at this;cases this
      have:¬ e'.lo<s:=fun h=>by rw [(hI.mem j e' he' hm').2 h] at hjD;cases hjD
      omega
    have hdp:DepG sp o s a w:=fun x hx hb e' he' d hd=>hI.f _ _ he' (hdep x hx hb) d hd
    have hput:∀ (v:Value),GrD N a0 (dsG sp) (a.put e.d v):=fun v=>by
     refine ⟨by rw [act_size];exact hI.g.sz,by rw [act_defers];exact hI.g.df,fun t ht=>?_⟩;cases hd:e.d with
     | none=>exact hI.g.kp t ht
     | some d=>rw [act_ne (fun h=>ht (by rw [h];exact List.mem_filterMap.2 ⟨e,hmem,hd⟩))];exact hI.g.kp t ht
    have hslot:∀ (v:Value) (s':Nat) (w':World),(e.R s' v w')→(∀ (j:Nat) (e':FactG),sp[j]? = some e'→D j=true → ∀ d,e'.d=some d→e'.R s' (a.eval (.tmp d)) w') →
     ∀ (j:Nat) (e':FactG),sp[j]? = some e'→seen D k j=true → ∀ d,e'.d=some d→e'.R s' ((a.put e.d v).eval (.tmp d)) w':=fun v s' w' hv hf j e' he' hj d hd=>by
     by_cases hjk:j=k
     ·subst hjk;rw [he] at he';cases he';rw [hd,act_same (by rw [hI.g.sz];exact (hd1 d hd).1)];exact hv
     ·rw [hoth _ _ _ hjk] at hj;cases hde:e.d with
      | none=>exact hf j e' he' hj d hd
      | some d2=>
        rw [act_ne (fun h=>(hd1 d2 hde).2 j e' he' (fun h2=>hjk h2.symm) (by rw [hd,h]))];exact hf j e' he' hj d hd
    have hdo:e.d=o.dst:=hdst k e o he hko;unfold ObG at hob;cases hem:e.mem with
    | false=>
      rw [hem] at hob;refine hob s hsl hsh a w hI.g hI.hG hdp K (fun v hv=>hK _ _ ⟨s,hput v,hI.hG,hI.hM,hcl,fun i e' he' hm'=>?_,hslot v s w hv hI.f⟩);have hik:i≠k:=fun h=>by subst h;rw [he] at he';cases he';rw [hem] at hm';cases hm'
      rw [hoth _ _ _ hik];exact hI.mem i e' he' hm'
    | true=>
      rw [hem] at hob;obtain ⟨m1,m2,m3⟩:=hmm hem;have hse:s=e.lo:=by omega
      subst hse;refine hob a w hI.g hI.hG hdp K (fun v w' ht hg' hv=>hK _ _ ⟨e.lo+1,hput v,hg',by omega,hcl,fun i e' he' hm'=>?_,hslot v _ w' hv (fun j e' he' hj d hd=>hkeep e' (List.mem_of_getElem? he') _ _ w w' (fun hm'=>(hI.mem j e' he' hm').1 hj) (by omega) ht (hI.f j e' he' hj d hd))⟩);by_cases hik:i=k
      ·subst hik;rw [he] at he';cases he';exact ⟨fun _=>by omega,fun _=>hself _ _⟩
      ·rw [hoth _ _ _ hik,hI.mem i e' he' hm'];have:=m3 i e' he' (fun h=>hik h.symm) hm';omega
 ·obtain ⟨s,hI⟩:=hI;have hsM:s=M∨s<M:=by have:=hI.hM;omega
  have hsM:s=M:=by
   rcases hsM with h|h
   ·exact h
   ·exfalso;simp only [Bool.or_eq_true,beq_iff_eq,List.any_eq_true,Bool.and_eq_true,List.mem_map] at hlast;rcases hlast with h2|⟨r,⟨e,he,rfl⟩,hm',hl'⟩
    ·omega
    ·obtain ⟨j,hj⟩:=List.mem_iff_getElem?.1 he;have hl2:e.lo+1=M:=hl';have:=(hI.mem j e hj hm').1 (hall j (by have:=(List.getElem?_eq_some_iff.1 hj).1;omega));omega
  subst hsM;have hfill:a=fillF a0 (dsG sp) (fun d=>a.eval (.tmp d)):=by
   refine act_ext (by rw [fillF_size,hN];exact hI.g.sz) (by rw [fillF_defers];exact hI.g.df) (fun t ht=>?_);rw [fillF_eval _ _ a0 t (by rw [hN,← hI.g.sz];exact ht)];by_cases h1:t∈dsG sp
   ·simp [h1]
   ·simp [h1,hI.g.kp t h1]
  rw [hfill];refine hend _ w hI.hG (fun e he d hd=>?_);obtain ⟨j,hj⟩:=List.mem_iff_getElem?.1 he;exact hI.f j e hj (hall j (by have:=(List.getElem?_eq_some_iff.1 hj).1;omega)) d hd
end
structure FactH where
 d:Option Nat
 st:List Nat
 mv:List (Nat × Nat)
 aft:List Nat
 an:List Nat
 dep:List Nat
 R:Nat→Act→Value→World→Prop
structure RowH where
 d:Option Nat
 st:List Nat
 mv:List (Nat × Nat)
 aft:List Nat
 an:List Nat
 dep:List Nat
def FactH.row (e:FactH):RowH:=⟨e.d,e.st,e.mv,e.aft,e.an,e.dep⟩
def dsH (sp:List FactH):List Nat:=sp.filterMap (·.d)
def dagRow (N M:Nat) (rs:List RowH) (l:List Oper) (i:Nat) (r:RowH):Bool:=
 (match r.d with|none=>true|some d=>decide (d<N)&&(List.range rs.length).all fun j=>i == j||(match rs[j]? with|some r'=>r'.d != some d|none=>true)) &&
 ((List.range (M+1)).all (fun s=>r.st.contains s||(List.range rs.length).any fun j=>match rs[j]? with
   | some r'=>!r'.mv.isEmpty&&((i != j&&((ancs l).getD i []).contains j && !r'.aft.contains s)||(((ancs l).getD j []).contains i&&r'.aft.contains s))
   | none=>false)) &&
 (r.mv.all (fun m=>decide (m.2≤M)&&r.aft.contains m.2&&(List.range rs.length).all fun j=>i == j||(match rs[j]? with|some r'=>r'.mv.isEmpty||(r'.aft.contains m.2 == r'.aft.contains m.1)|none=>true))) &&
 (r.mv.isEmpty||(!r.aft.contains 0&&r.st.all (fun s=>r.mv.any (fun m=>m.1 == s)))) &&
 (r.an.all (fun j=>j != i&&((ancs l).getD i []).contains j)) &&
 (r.dep.all (fun d=>r.an.any (fun j=>match rs[j]? with|some r'=>r'.d == some d|none=>false)))
def dagOk (N M:Nat) (rs:List RowH) (l:List Oper):Bool:=
 decide (l.length=rs.length)&&l.all (fun o=>o.guard.isNone)&&(rs.zip l).all (fun x=>x.1.d == x.2.dst) &&
 (List.range rs.length).all (fun i=>match rs[i]? with|none=>false|some r=>dagRow N M rs l i r) &&
 (List.range M).all (fun s=>(List.range rs.length).any fun j=>match rs[j]? with|some r=>!r.mv.isEmpty && !r.aft.contains s|none=>false)
section
variable {P:Program} {Q:Exit→Act→World→Prop}
def DepH (sp:List FactH) (e:FactH) (s:Nat) (a:Act) (w:World):Prop:=∀ j∈e.an,∀ e':FactH,sp[j]? = some e' → ∀ d,e'.d=some d→e'.R s a (a.eval (.tmp d)) w
def ObH (P:Program) (Q:Exit→Act→World→Prop) (N:Nat) (a0:Act) (ds:List Nat) (G:Nat→World→Prop) (T:Nat→Nat→Act→World→World→Prop) (U:Nat→World→World→Prop) (sp:List FactH) (o:Oper) (e:FactH):Prop:=
 match e.mv with
 | []=>∀ s,s∈e.st → ∀ a w,GrD N a0 ds a→G s w→DepH sp e s a w → ∀ K:Act→World→Prop,(∀ v w',U s w w'→e.R s a v w'→K (a.put e.d v) w')→o.wp P a w K Q
 | _ :: _=>∀ s s',(s,s')∈e.mv → ∀ a w,GrD N a0 ds a→G s w→DepH sp e s a w → ∀ K:Act→World→Prop,(∀ v w',T s s' a w w'→G s' w'→e.R s' a v w'→K (a.put e.d v) w')→o.wp P a w K Q
def ObsH (P:Program) (Q:Exit→Act→World→Prop) (N:Nat) (a0:Act) (ds:List Nat) (G:Nat→World→Prop) (T:Nat→Nat→Act→World→World→Prop) (U:Nat→World→World→Prop) (sp:List FactH):List Oper→List FactH→Prop
 | o :: os,e :: es=>ObH P Q N a0 ds G T U sp o e∧ObsH P Q N a0 ds G T U sp os es
 | [],[]=>True
 | _,_=>False
theorem ObsH.get {N:Nat} {a0:Act} {ds:List Nat} {G:Nat→World→Prop} {T:Nat→Nat→Act→World→World→Prop} {U:Nat→World→World→Prop} {sp:List FactH}:∀ (os:List Oper) (es:List FactH),ObsH P Q N a0 ds G T U sp os es → ∀ (j:Nat) (o:Oper),os[j]? = some o →
 ∃ e:FactH,es[j]? = some e∧ObH P Q N a0 ds G T U sp o e
 | o' :: os,e' :: es,h,0,o,ho=>by simp at ho;subst ho;exact ⟨e',rfl,h.1⟩
 | o' :: os,e' :: es,h,j+1,o,ho=>by
   obtain ⟨e,h1,h2⟩:=ObsH.get os es h.2 j o (by simpa using ho);exact ⟨e,by simpa using h1,h2⟩
 | [],[],_,j,o,ho=>by simp at ho
 | _ :: _,[],h,_,_,_=>by simp [ObsH] at h
 | [],_ :: _,h,_,_,_=>by simp [ObsH] at h
structure InvH (N M:Nat) (a0:Act) (G:Nat→World→Prop) (sp:List FactH) (l:List Oper) (D:Nat→Bool) (a:Act) (w:World) (s:Nat):Prop where
 g:GrD N a0 (dsH sp) a
 hG:G s w
 hM:s≤M
 cl:closedD l D
 mem:∀ (i:Nat) (e:FactH),sp[i]? = some e→e.mv.isEmpty=false→(D i=true ↔ s∈e.aft)
 f:∀ (j:Nat) (e:FactH),sp[j]? = some e→D j=true → ∀ d,e.d=some d→e.R s a (a.eval (.tmp d)) w
theorem wp_region_dag {id:Nat} {a0:Act} {w0:World} {l:List Oper} (hm:P.follows .mixedOrders=true) (hB:edgesBack l=true) (N M:Nat) (sp:List FactH) (G:Nat→World→Prop) (T:Nat→Nat→Act→World→World→Prop) (U:Nat→World→World→Prop)
 (hGU:∀ s w w',G s w→U s w w'→G s w') (hRU:∀ e∈sp,∀ s a v w w',U s w w'→e.R s a v w→e.R s a v w')
 (hput:∀ e∈sp,∀ s a d u v w,d ∉ e.dep→e.R s a v w→e.R s (a.put (some d) u) v w)
 (ds:List Nat) (hds:dsH sp=ds) (hok:dagOk N M (sp.map FactH.row) l=true) (hN:a0.tmps.size=N)
 (h0:G 0 w0.drew)
 (hkeep:∀ e∈sp,∀ s s' a v w w',(∀ d,e.d=some d→v=a.eval (.tmp d))→(e.mv.isEmpty=false→s∈e.aft)→T s s' a w w'→e.R s a v w→e.R s' a v w')
 (hs:ObsH P Q N a0 ds G T U sp l sp)
 (hend:∀ (f:Nat→Value) w,G M w→(∀ e∈sp,∀ d,e.d=some d→e.R M (fillF a0 ds f) (f d) w)→Q .normal (fillF a0 ds f) w):(Code.region id l.toArray true).wp P Q a0 w0:=by
 subst hds;unfold dagOk at hok;simp only [Bool.and_eq_true,List.all_eq_true,decide_eq_true_eq,List.length_map,List.mem_range] at hok;obtain ⟨⟨⟨⟨h4,hgd⟩,hzip⟩,hks⟩,hfin⟩:=hok;have hself:∀ (D:Nat→Bool) (i:Nat),seen D i i=true:=fun D i=>by simp [seen]
 have hoth:∀ (D:Nat→Bool) (i j:Nat),j≠i→seen D i j=D j:=fun D i j h=>by simp [seen,h]
 have hdst:∀ (i:Nat) (e:FactH) (o:Oper),sp[i]? = some e→l[i]? = some o→e.d=o.dst:=fun i e o he ho=>by
  have:=hzip (e.row,o) (by
   refine List.mem_of_getElem? (i:=i) ?_;rw [List.getElem?_zip_eq_some];exact ⟨by rw [List.getElem?_map,he];rfl,ho⟩)
  simpa [FactH.row] using this
 have hrow:∀ (i:Nat) (e:FactH),sp[i]? = some e →
  (∀ d,e.d=some d→d<N ∧ ∀ (j:Nat) (e':FactH),sp[j]? = some e'→i≠j→e'.d≠some d) ∧
  (∀ s,s≤M→s∈e.st ∨ ∃ (j:Nat) (e':FactH),sp[j]? = some e'∧e'.mv.isEmpty=false∧((i≠j∧j∈(ancs l).getD i []∧s ∉ e'.aft)∨(i∈(ancs l).getD j []∧s∈e'.aft))) ∧
  (∀ m∈e.mv,m.2≤M∧m.2∈e.aft ∧ ∀ (j:Nat) (e':FactH),sp[j]? = some e'→i≠j→e'.mv.isEmpty=false→(m.2∈e'.aft ↔ m.1∈e'.aft)) ∧
  (e.mv.isEmpty=false→0 ∉ e.aft ∧ ∀ s∈e.st,∃ m∈e.mv,m.1=s) ∧
  (∀ j∈e.an,j≠i∧j∈(ancs l).getD i []) ∧
  (∀ d∈e.dep,∃ j∈e.an,∃ e':FactH,sp[j]? = some e'∧e'.d=some d):=fun i e he=>by
  have hi:=(List.getElem?_eq_some_iff.1 he).1;have h:=hks i hi;rw [List.getElem?_map,he] at h;simp only [Option.map_some] at h;unfold dagRow at h;simp only [Bool.and_eq_true,Bool.or_eq_true,List.all_eq_true,List.length_map,List.mem_range] at h;obtain ⟨⟨⟨⟨⟨g1,g2⟩,g3⟩,g4⟩,g7⟩,g8⟩:=h;refine ⟨fun d hd=>?_,fun s hs=>?_,fun m hm'=>?_,fun hmm=>?_,fun j hj=>?_,fun d hd=>?_⟩
  ·rw [show (e.row).d=some d from hd] at g1;simp only [Bool.and_eq_true,decide_eq_true_eq,List.all_eq_true,List.mem_range] at g1;refine ⟨g1.1,fun j e' he' hij hd'=>?_⟩;have:=g1.2 j (List.getElem?_eq_some_iff.1 he').1;rw [List.getElem?_map,he'] at this;simp [FactH.row,hd',hij] at this
  ·rcases g2 s (by omega) with g|g
   ·exact .inl (by simpa [FactH.row] using g)
   ·rw [List.any_eq_true] at g;obtain ⟨j,hj,g⟩:=g;rw [List.mem_range] at hj;rw [List.getElem?_map,List.getElem?_eq_getElem hj] at g;simp only [Option.map_some,FactH.row,Bool.and_eq_true,Bool.or_eq_true,Bool.not_eq_true',bne_iff_ne,List.contains_iff_mem] at g;refine .inr ⟨j,sp[j],List.getElem?_eq_getElem hj,g.1,?_⟩;rcases g.2 with ⟨⟨a1,a2⟩,a3⟩|⟨a1,a2⟩
    ·exact .inl ⟨a1,a2,fun h=>by rw [List.contains_iff_mem.2 h] at a3;cases a3⟩
    ·exact .inr ⟨a1,a2⟩
  ·have:=g3 m hm';simp only [decide_eq_true_eq,FactH.row,List.contains_iff_mem] at this;refine ⟨this.1.1,this.1.2,fun j e' he' hij hm2=>?_⟩;have h3:=this.2 j (List.getElem?_eq_some_iff.1 he').1;rw [List.getElem?_map,he'] at h3;simp only [Option.map_some,Bool.or_eq_true,beq_iff_eq] at h3;rcases h3 with h3|h3|h3
   ·exact absurd h3 hij
   ·rw [show e'.row.mv=e'.mv from rfl,hm2] at h3;cases h3
   ·rw [← List.contains_iff_mem,← List.contains_iff_mem,show e'.aft=e'.row.aft from rfl,h3]
  ·rcases g4 with g4|g4
   ·rw [show (e.row).mv=e.mv from rfl,hmm] at g4;cases g4
   ·obtain ⟨g4,g5⟩:=g4;refine ⟨fun h=>(by rw [show e.row.aft=e.aft from rfl,List.contains_iff_mem.2 h] at g4;cases g4),fun s hs=>?_⟩;have g6:=g5 s hs;rw [List.any_eq_true] at g6;obtain ⟨m,h1,h2⟩:=g6;exact ⟨m,h1,by simpa using h2⟩
  ·have:=g7 j hj;simp only [bne_iff_ne,List.contains_iff_mem] at this;exact this
  ·have:=g8 d hd;rw [List.any_eq_true] at this;obtain ⟨j,hj,g⟩:=this;cases hj':sp[j]? with
   | none=>rw [List.getElem?_map,hj'] at g;cases g
   | some e'=>
     rw [List.getElem?_map,hj'] at g;simp only [Option.map_some,beq_iff_eq] at g;exact ⟨j,hj,e',hj',g⟩
 have hanc:∀ (D:Nat→Bool),closedD l D → ∀ i j,D i=true→j∈(ancs l).getD i []→D j=true:=fun D hc i j hi hj=>by
  rw [List.getD_eq_getElem?_getD] at hj;cases e:(ancs l)[i]? with
  | none=>rw [e] at hj;simp at hj
  | some m=>rw [e] at hj;exact ancs_ok hc i m e hi j (by simpa using hj)
 refine wp_region_inv hm hB (fun D a w=>∃ s,InvH N M a0 G sp l D a w s) ⟨0,⟨hN,rfl,fun _ _=>rfl⟩,h0,Nat.zero_le _,fun _ _ _ h=>(by cases h),fun i e he hm'=>⟨fun h=>(by cases h),fun h=>absurd h ((hrow i e he).2.2.2.1 hm').1⟩,fun _ _ _ h=>(by cases h)⟩ ?_ (fun D a w hI hall=>?_)
 ·suffices ∀ (l':List Oper) (k:Nat),(∀ (j:Nat) (o:Oper),l'[j]? = some o→l[k+j]? = some o)→Steps1 P l.toArray Q (fun D a w=>∃ s,InvH N M a0 G sp l D a w s) l' k from this l 0 (fun j o h=>by simpa using h)
  intro l'
  induction l' with
  | nil=>intro k _;trivial
  | cons o l' ih=>
    intro k hk;refine ⟨?_,ih (k+1) (fun j o' h=>by have:=hk (j+1) o' (by simpa using h);rw [show k+1+j=k+(j+1) by omega];exact this)⟩;rintro D a w ⟨s,hI⟩ hD hdep K hK;have hko:l[k]? = some o:=by simpa using hk 0 o rfl
    obtain ⟨e,he,hob⟩:=ObsH.get l sp hs k o hko;have hgo:o.guard=none:=by have:=hgd o (List.mem_of_getElem? hko);simpa using this
    rw [if_pos (by simp [Region.wanted,hgo])];obtain ⟨hd1,hlo,hmv,hmm,han,hdep'⟩:=hrow k e he;have hmem:e∈sp:=List.mem_of_getElem? he
    -- whatever stands ahead of k has come up
    have hup:∀ j∈(ancs l).getD k [],j≠k→D j=true:=fun j hj hjk=>by
     have hcl':closedD l (seen D k):=fun i o' ho' hi x hx hb=>by
      by_cases hik:i=k
      ·subst hik;rw [hko] at ho';cases ho';have:=hdep x hx hb;by_cases hxk:x.on=i
       ·rw [hxk];exact hself _ _
       ·rw [hoth _ _ _ hxk];exact this
      ·rw [hoth _ _ _ hik] at hi;have:=hI.cl i o' ho' hi x hx hb;by_cases hxk:x.on=k
       ·rw [hxk];exact hself _ _
       ·rw [hoth _ _ _ hxk];exact this
     have:=hanc _ hcl' k j (hself _ _) hj
     rwa [hoth _ _ _ hjk] at this
    have hcl:closedD l (seen D k):=fun i o' ho' hi x hx hb=>by
     by_cases hxk:x.on=k
     ·rw [hxk];exact hself _ _
     ·rw [hoth _ _ _ hxk];by_cases hik:i=k
      ·subst hik;rw [hko] at ho';cases ho';exact hdep x hx hb
      ·rw [hoth _ _ _ hik] at hi;exact hI.cl i o' ho' hi x hx hb
    have hst:s∈e.st:=by
     rcases hlo s hI.hM with h|⟨j,e',he',hm',⟨h1,h2,h3⟩|⟨h1,h2⟩⟩
     ·exact h
     ·exact absurd ((hI.mem j e' he' hm').1 (hup j h2 (fun h=>h1 h.symm))) h3
     ·have:=hanc _ hI.cl j k ((hI.mem j e' he' hm').2 h2) h1;rw [hD] at this;cases this
    have hdp:DepH sp e s a w:=fun j hj e' he' d hd=>hI.f _ _ he' (hup j (han j hj).2 (han j hj).1) d hd
    have hnd:∀ (j:Nat) (e':FactH),sp[j]? = some e'→seen D k j=true → ∀ d,e.d=some d→d ∉ e'.dep:=fun j e' he' hj d hd hm'=>by
     obtain ⟨_,_,_,_,han',hde'⟩:=hrow j e' he';obtain ⟨i,hi,e2,he2,hd2⟩:=hde' d hm';obtain ⟨h1,h2⟩:=han' i hi;have hik:i=k:=Classical.byContradiction fun hne=>(hd1 d hd).2 i e2 he2 (fun h=>hne h.symm) hd2
     subst hik;have hji:j≠i:=fun h=>h1 h.symm
     rw [hoth _ _ _ hji] at hj;have:=hanc _ hI.cl j i hj h2;rw [hD] at this;cases this
    have hputg:∀ (v:Value),GrD N a0 (dsH sp) (a.put e.d v):=fun v=>by
     refine ⟨by rw [act_size];exact hI.g.sz,by rw [act_defers];exact hI.g.df,fun t ht=>?_⟩;cases hd:e.d with
     | none=>exact hI.g.kp t ht
     | some d=>rw [act_ne (fun h=>ht (by rw [h];exact List.mem_filterMap.2 ⟨e,hmem,hd⟩))];exact hI.g.kp t ht
    have hslot:∀ (v:Value) (s':Nat) (w':World),(e.R s' a v w')→(∀ (j:Nat) (e':FactH),sp[j]? = some e'→D j=true → ∀ d,e'.d=some d→e'.R s' a (a.eval (.tmp d)) w') →
     ∀ (j:Nat) (e':FactH),sp[j]? = some e'→seen D k j=true → ∀ d,e'.d=some d→e'.R s' (a.put e.d v) ((a.put e.d v).eval (.tmp d)) w':=fun v s' w' hv hf j e' he' hj d hd=>by
     have hpt:∀ u,e'.R s' a u w'→e'.R s' (a.put e.d v) u w':=fun u hu=>by
      cases hde:e.d with
      | none=>exact hu
      | some d2=>exact hput e' (List.mem_of_getElem? he') s' a d2 v u w' (hnd j e' he' hj d2 hde) hu
     by_cases hjk:j=k
     ·subst hjk;rw [he] at he';cases he';refine hpt _ ?_;rw [hd,act_same (by rw [hI.g.sz];exact (hd1 d hd).1)];exact hv
     ·refine hpt _ ?_;rw [hoth _ _ _ hjk] at hj;cases hde:e.d with
      | none=>exact hf j e' he' hj d hd
      | some d2=>
        rw [act_ne (fun h=>(hd1 d2 hde).2 j e' he' (fun h2=>hjk h2.symm) (by rw [hd,h]))];exact hf j e' he' hj d hd
    have hdo:e.d=o.dst:=hdst k e o he hko;unfold ObH at hob;cases hem:e.mv with
    | nil=>
      rw [hem] at hob;refine hob s hst a w hI.g hI.hG hdp K (fun v w' hu hv=>hK _ _ ⟨s,hputg v,hGU s w w' hI.hG hu,hI.hM,hcl,fun i e' he' hm'=>?_,hslot v s w' hv (fun j e' he' hj d hd=>hRU e' (List.mem_of_getElem? he') s a _ w w' hu (hI.f j e' he' hj d hd))⟩);have hik:i≠k:=fun h=>by subst h;rw [he] at he';cases he';rw [hem] at hm';cases hm'
      rw [hoth _ _ _ hik];exact hI.mem i e' he' hm'
    | cons m0 ms=>
      have hem':e.mv.isEmpty=false:=by rw [hem];rfl
      rw [hem] at hob;obtain ⟨m,hmm1,hmm2⟩:=(hmm hem').2 s hst;obtain ⟨s1,s'⟩:=m;dsimp only at hmm2;subst hmm2;obtain ⟨q1,q2,q3⟩:=hmv _ hmm1;dsimp only at q1 q2 q3;refine hob s1 s' (by rw [← hem];exact hmm1) a w hI.g hI.hG hdp K (fun v w' ht hg' hv=>hK _ _ ⟨s',hputg v,hg',q1,hcl,fun i e' he' hm'=>?_,hslot v _ w' hv (fun j e' he' hj d hd=>hkeep e' (List.mem_of_getElem? he') _ _ a _ w w' (fun d' hd'=>by rw [hd] at hd';cases hd';rfl) (fun hm'=>(hI.mem j e' he' hm').1 hj) ht (hI.f j e' he' hj d hd))⟩);by_cases hik:i=k
      ·subst hik;rw [he] at he';cases he';exact ⟨fun _=>q2,fun _=>hself _ _⟩
      ·rw [hoth _ _ _ hik,hI.mem i e' he' hm'];exact (q3 i e' he' (fun h=>hik h.symm) hm').symm
 ·obtain ⟨s,hI⟩:=hI;have hsM:s=M∨s<M:=by have:=hI.hM;omega
  have hsM:s=M:=by
   rcases hsM with h|h
   ·exact h
   ·exfalso;have:=hfin s h;rw [List.any_eq_true] at this;obtain ⟨j,hj,g⟩:=this;rw [List.mem_range] at hj;rw [List.getElem?_map,List.getElem?_eq_getElem hj] at g;simp only [Option.map_some,FactH.row,Bool.and_eq_true,Bool.not_eq_true'] at g;have h1:=(hI.mem j sp[j] (List.getElem?_eq_getElem hj) g.1).1 (hall j (by omega));rw [List.contains_iff_mem.2 h1] at g;cases g.2
  subst hsM;have hfill:a=fillF a0 (dsH sp) (fun d=>a.eval (.tmp d)):=by
   refine act_ext (by rw [fillF_size,hN];exact hI.g.sz) (by rw [fillF_defers];exact hI.g.df) (fun t ht=>?_);rw [fillF_eval _ _ a0 t (by rw [hN,← hI.g.sz];exact ht)];by_cases h1:t∈dsH sp
   ·simp [h1]
   ·simp [h1,hI.g.kp t h1]
  rw [hfill];refine hend _ w hI.hG (fun e he d hd=>?_);rw [← hfill];obtain ⟨j,hj⟩:=List.mem_iff_getElem?.1 he;exact hI.f j e hj (hall j (by have:=(List.getElem?_eq_some_iff.1 hj).1;omega)) d hd
end
end Go.Proofs.YtacinobmcgcccaaGreatDoor
