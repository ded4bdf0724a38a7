/- A region that draws its order, whose memory turns in stages, and some of whose operations are guarded. -/
import Derived.Test.YtacinobmcgcccaaGreatDoorL05
import Derived.Test.YtacinobmcgcccaaGreatDoorL11
set_option linter.unusedSimpArgs false
set_option linter.unusedVariables false
namespace Go.Proofs.YtacinobmcgcccaaGreatDoor
open Go.RowKit
section
variable {P:Program} {Q:Exit→Act→World→Prop}
theorem wanted_of {ops:Array Oper} {a:Act} {o oj:Oper} {j d:Nat} {want:Bool} (hg:o.guard=some (j,want)) (hj:ops[j]? = some oj) (hd:oj.dst=some d) (hv:a.eval (.tmp d)=.bool want):Region.wanted o (yielded ops a.tmps)=true:=by
 have h2:a.tmps[d]? = some (.bool want):=by
  unfold Act.eval at hv;simp at hv;cases h:a.tmps[d]? with
  | none=>rw [h] at hv;simp [undef] at hv
  | some v=>rw [h] at hv;simp at hv;rw [hv]
 simp [Region.wanted,yielded,hg,hj,hd,h2]
theorem unwanted_of {ops:Array Oper} {a:Act} {o oj:Oper} {j d:Nat} {want b:Bool} (hg:o.guard=some (j,want)) (hj:ops[j]? = some oj) (hd:oj.dst=some d) (hv:a.eval (.tmp d)=.bool b) (hb:b≠want):¬ Region.wanted o (yielded ops a.tmps)=true:=by
 have h2:a.tmps[d]? = some (.bool b):=by
  unfold Act.eval at hv;simp at hv;cases h:a.tmps[d]? with
  | none=>rw [h] at hv;simp [undef] at hv
  | some v=>rw [h] at hv;simp at hv;rw [hv]
 simp [Region.wanted,yielded,hg,hj,hd,h2,hb]
def stageOkW (N M:Nat) (rs:List Row4) (l:List Oper):Bool:=
 decide (l.length=rs.length)&&(M == 0||rs.any (fun r=>r.mem&&r.lo+1 == M)) &&
 (rs.zip l).all (fun x=>x.1.d == x.2.dst) &&
 (List.range rs.length).all (fun i=>match rs[i]? with
   | none=>false
   | some r=>
     (match r.d with|none=>true|some d=>decide (d<N)&&(List.range rs.length).all fun j=>i == j||(match rs[j]? with|some r'=>r'.d != some d|none=>true)) &&
     (r.lo == 0||(List.range rs.length).any fun j=>(match rs[j]? with|some r'=>r'.mem&&r'.lo+1 == r.lo|none=>false)&&((ancs l).getD i []).contains j) &&
     (r.hi == M||(List.range rs.length).any fun j=>(match rs[j]? with|some r'=>r'.mem&&r'.lo == r.hi|none=>false)&&((ancs l).getD j []).contains i) &&
     (!r.mem||(r.lo == r.hi&&decide (r.hi<M)&&(List.range rs.length).all fun j=>i == j||(match rs[j]? with|some r'=>!r'.mem||r'.lo != r.lo|none=>true))))
def OldW (a0:Act) (sp:List FactG) (l:List Oper) (k:Nat) (a:Act):Prop:=∀ (j d:Nat),j≠k→(sp[j]?).bind FactG.d=some d→((ancs l).getD j []).contains k=true→a.eval (.tmp d)=a0.eval (.tmp d)
def UnW (a0:Act) (sp:List FactG) (D:Nat→Bool) (a:Act):Prop:=∀ (j:Nat) (e:FactG),sp[j]? = some e→D j=false → ∀ d,e.d=some d→a.eval (.tmp d)=a0.eval (.tmp d)
def ObW (P:Program) (Q:Exit→Act→World→Prop) (N:Nat) (a0:Act) (ds:List Nat) (G:Nat→World→Prop) (T:Nat→World→World→Prop) (sp:List FactG) (l:List Oper) (k:Nat) (o:Oper) (e:FactG):Prop:=
 match e.mem with
 | false=>∀ s,e.lo≤s→s≤e.hi → ∀ a w,GrD N a0 ds a→G s w→DepG sp o s a w→OldW a0 sp l k a → ∀ K:Act→World→Prop,(∀ v,e.R s v w→K (a.put e.d v) w)→if Region.wanted o (yielded l.toArray a.tmps) then o.wp P a w K Q else K (a.put o.dst undef) w
 | true=>∀ a w,GrD N a0 ds a→G e.lo w→DepG sp o e.lo a w→OldW a0 sp l k a → ∀ K:Act→World→Prop,(∀ v w',T e.lo w w'→G (e.lo+1) w'→e.R (e.lo+1) v w'→K (a.put e.d v) w')→if Region.wanted o (yielded l.toArray a.tmps) then o.wp P a w K Q else K (a.put o.dst undef) w
def ObsW (P:Program) (Q:Exit→Act→World→Prop) (N:Nat) (a0:Act) (ds:List Nat) (G:Nat→World→Prop) (T:Nat→World→World→Prop) (sp:List FactG) (l:List Oper):Nat→List Oper→List FactG→Prop
 | k,o :: os,e :: es=>ObW P Q N a0 ds G T sp l k o e∧ObsW P Q N a0 ds G T sp l (k+1) os es
 | _,[],[]=>True
 | _,_,_=>False
theorem ObsW.get {N:Nat} {a0:Act} {ds:List Nat} {G:Nat→World→Prop} {T:Nat→World→World→Prop} {sp:List FactG} {l:List Oper}:∀ (os:List Oper) (es:List FactG) (k:Nat),ObsW P Q N a0 ds G T sp l k os es → ∀ (j:Nat) (o:Oper),os[j]? = some o →
 ∃ e:FactG,es[j]? = some e∧ObW P Q N a0 ds G T sp l (k+j) o e
 | o' :: os,e' :: es,k,h,0,o,ho=>by simp at ho;subst ho;exact ⟨e',rfl,h.1⟩
 | o' :: os,e' :: es,k,h,j+1,o,ho=>by
   obtain ⟨e,h1,h2⟩:=ObsW.get os es (k+1) h.2 j o (by simpa using ho);exact ⟨e,by simpa using h1,by rw [show k+(j+1)=k+1+j by omega];exact h2⟩
 | [],[],_,_,j,o,ho=>by simp at ho
 | _ :: _,[],_,h,_,_,_=>by simp [ObsW] at h
 | [],_ :: _,_,h,_,_,_=>by simp [ObsW] at h
theorem wp_region_stageW {id:Nat} {a0:Act} {w0:World} {l:List Oper} (hm:P.follows .mixedOrders=true) (hB:edgesBack l=true) (N M:Nat) (sp:List FactG) (G:Nat→World→Prop) (T:Nat→World→World→Prop)
 (ds:List Nat) (hds:dsG sp=ds) (hok:stageOkW N M (sp.map FactG.row) l=true) (hN:a0.tmps.size=N)
 (h0:G 0 w0.drew)
 (hkeep:∀ e∈sp,∀ s v w w',(e.mem=true→e.lo<s)→e.lo≤s→s<M→T s w w'→e.R s v w→e.R (s+1) v w')
 (hs:ObsW P Q N a0 ds G T sp l 0 l sp)
 (hend:∀ (f:Nat→Value) w,G M w→(∀ e∈sp,∀ d,e.d=some d→e.R M (f d) w)→Q .normal (fillF a0 ds f) w):(Code.region id l.toArray true).wp P Q a0 w0:=by
 subst hds;unfold stageOkW at hok;simp only [Bool.and_eq_true,List.all_eq_true,decide_eq_true_eq,List.length_map,List.mem_range] at hok;obtain ⟨⟨⟨h4,hlast⟩,hzip⟩,hks⟩:=hok;have hself:∀ (D:Nat→Bool) (i:Nat),seen D i i=true:=fun D i=>by simp [seen]
 have hoth:∀ (D:Nat→Bool) (i j:Nat),j≠i→seen D i j=D j:=fun D i j h=>by simp [seen,h]
 have hdst:∀ (i:Nat) (e:FactG) (o:Oper),sp[i]? = some e→l[i]? = some o→e.d=o.dst:=fun i e o he ho=>by
  have:=hzip (e.row,o) (by
   refine List.mem_of_getElem? (i:=i) ?_;rw [List.getElem?_zip_eq_some];exact ⟨by rw [List.getElem?_map,he];rfl,ho⟩)
  simpa [FactG.row] using this
 have hrow:∀ (i:Nat) (e:FactG),sp[i]? = some e →
  (∀ d,e.d=some d→d<N ∧ ∀ (j:Nat) (e':FactG),sp[j]? = some e'→i≠j→e'.d≠some d) ∧
  (e.lo=0 ∨ ∃ (j:Nat) (e':FactG),sp[j]? = some e'∧e'.mem=true∧e'.lo+1=e.lo∧j∈(ancs l).getD i []) ∧
  (e.hi=M ∨ ∃ (j:Nat) (e':FactG),sp[j]? = some e'∧e'.mem=true∧e'.lo=e.hi∧i∈(ancs l).getD j []) ∧
  (e.mem=true→e.lo=e.hi∧e.hi<M ∧ ∀ (j:Nat) (e':FactG),sp[j]? = some e'→i≠j→e'.mem=true→e'.lo≠e.lo):=fun i e he=>by
  have hi:=(List.getElem?_eq_some_iff.1 he).1;have h:=hks i hi;rw [List.getElem?_map,he] at h;simp only [Option.map_some,Bool.and_eq_true,Bool.or_eq_true,beq_iff_eq,List.any_eq_true,List.mem_range,List.contains_iff_mem] at h;obtain ⟨⟨⟨g1,g2⟩,g3⟩,g4⟩:=h;refine ⟨fun d hd=>?_,?_,?_,fun hmm=>?_⟩
  ·rw [show (e.row).d=some d from hd] at g1;simp only [Bool.and_eq_true,decide_eq_true_eq,List.all_eq_true,List.mem_range] at g1;refine ⟨g1.1,fun j e' he' hij hd'=>?_⟩;have:=g1.2 j (List.getElem?_eq_some_iff.1 he').1;rw [List.getElem?_map,he'] at this;simp [FactG.row,hd',hij] at this
  ·rcases g2 with g2|⟨j,hj,g2,g2'⟩
   ·exact .inl g2
   ·rw [List.getElem?_map,List.getElem?_eq_getElem hj] at g2;simp [FactG.row] at g2;exact .inr ⟨j,sp[j],List.getElem?_eq_getElem hj,g2.1,g2.2,g2'⟩
  ·rcases g3 with g3|⟨j,hj,g3,g3'⟩
   ·exact .inl g3
   ·rw [List.getElem?_map,List.getElem?_eq_getElem hj] at g3;simp [FactG.row] at g3;exact .inr ⟨j,sp[j],List.getElem?_eq_getElem hj,g3.1,g3.2,g3'⟩
  ·simp only [FactG.row,hmm,Bool.not_true,Bool.false_eq_true,false_or,decide_eq_true_eq,List.all_eq_true,List.mem_range] at g4;refine ⟨g4.1.1,g4.1.2,fun j e' he' hij hm' hlo=>?_⟩;have:=g4.2 j (List.getElem?_eq_some_iff.1 he').1;rw [List.getElem?_map,he'] at this;simp [FactG.row,hm',hlo,hij] at this
 have hanc:∀ (D:Nat→Bool),closedD l D → ∀ i j,D i=true→j∈(ancs l).getD i []→D j=true:=fun D hc i j hi hj=>by
  rw [List.getD_eq_getElem?_getD] at hj;cases e:(ancs l)[i]? with
  | none=>rw [e] at hj;simp at hj
  | some m=>rw [e] at hj;exact ancs_ok hc i m e hi j (by simpa using hj)
 refine wp_region_inv hm hB (fun D a w=>∃ s,InvG N M a0 G sp l D a w s∧UnW a0 sp D a) ⟨0,⟨⟨hN,rfl,fun _ _=>rfl⟩,h0,Nat.zero_le _,fun _ _ _ h=>(by cases h),fun _ _ _ _=>⟨fun h=>(by cases h),fun h=>absurd h (Nat.not_lt_zero _)⟩,fun _ _ _ h=>(by cases h)⟩,fun _ _ _ _ _ _=>rfl⟩ ?_ (fun D a w hI hall=>?_)
 ·suffices ∀ (l':List Oper) (k:Nat),(∀ (j:Nat) (o:Oper),l'[j]? = some o→l[k+j]? = some o)→Steps1 P l.toArray Q (fun D a w=>∃ s,InvG N M a0 G sp l D a w s∧UnW a0 sp D a) l' k from this l 0 (fun j o h=>by simpa using h)
  intro l'
  induction l' with
  | nil=>intro k _;trivial
  | cons o l' ih=>
    intro k hk;refine ⟨?_,ih (k+1) (fun j o' h=>by have:=hk (j+1) o' (by simpa using h);rw [show k+1+j=k+(j+1) by omega];exact this)⟩;rintro D a w ⟨s,hI,hU⟩ hD hdep K hK;have hko:l[k]? = some o:=by simpa using hk 0 o rfl
    obtain ⟨e,he,hob⟩:=ObsW.get l sp 0 hs k o hko;rw [Nat.zero_add] at hob;obtain ⟨hd1,hlo,hhi,hmm⟩:=hrow k e he;have hmem:e∈sp:=List.mem_of_getElem? he
    -- whatever stands ahead of k has come up
    have hup:∀ j∈(ancs l).getD k [],j≠k→D j=true:=fun j hj hjk=>by
     have hcl':closedD l (seen D k):=fun i o' ho' hi x hx hb=>by
      by_cases hik:i=k
      ·subst hik;rw [hko] at ho';cases ho';have:=hdep x hx hb;by_cases hxk:x.on=i
       ·rw [hxk];exact hself _ _
       ·rw [hoth _ _ _ hxk];exact this
      ·rw [hoth _ _ _ hik] at hi;have:=hI.cl i o' ho' hi x hx hb;by_cases hxk:x.on=k
       ·rw [hxk];exact hself _ _
       ·rw [hoth _ _ _ hxk];exact this
     have:=hanc _ hcl' k j (hself _ _) hj
     rwa [hoth _ _ _ hjk] at this
    have hcl:closedD l (seen D k):=fun i o' ho' hi x hx hb=>by
     by_cases hxk:x.on=k
     ·rw [hxk];exact hself _ _
     ·rw [hoth _ _ _ hxk];by_cases hik:i=k
      ·subst hik;rw [hko] at ho';cases ho';exact hdep x hx hb
      ·rw [hoth _ _ _ hik] at hi;exact hI.cl i o' ho' hi x hx hb
    have hsl:e.lo≤s:=by
     rcases hlo with h|⟨j,e',he',hm',hl',hj⟩
     ·omega
     ·have hjk:j≠k:=fun h=>by
       subst h;rw [he] at he';cases he';omega
      have:=(hI.mem j e' he' hm').1 (hup j hj hjk);omega
    have hsh:s≤e.hi:=by
     rcases hhi with h|⟨j,e',he',hm',hl',hj⟩
     ·rw [h];exact hI.hM
     ·have hjD:D j=false:=by
       cases h:D j
       ·rfl
       ·have:=hanc _ hI.cl j k h hj;rw [hD] at this;cases this
      have:¬ e'.lo<s:=fun h=>by rw [(hI.mem j e' he' hm').2 h] at hjD;cases hjD
      omega
    have hdp:DepG sp o s a w:=fun x hx hb e' he' d hd=>hI.f _ _ he' (hdep x hx hb) d hd
    have hput:∀ (v:Value),GrD N a0 (dsG sp) (a.put e.d v):=fun v=>by
     refine ⟨by rw [act_size];exact hI.g.sz,by rw [act_defers];exact hI.g.df,fun t ht=>?_⟩;cases hd:e.d with
     | none=>exact hI.g.kp t ht
     | some d=>rw [act_ne (fun h=>ht (by rw [h];exact List.mem_filterMap.2 ⟨e,hmem,hd⟩))];exact hI.g.kp t ht
    have hslot:∀ (v:Value) (s':Nat) (w':World),(e.R s' v w')→(∀ (j:Nat) (e':FactG),sp[j]? = some e'→D j=true → ∀ d,e'.d=some d→e'.R s' (a.eval (.tmp d)) w') →
     ∀ (j:Nat) (e':FactG),sp[j]? = some e'→seen D k j=true → ∀ d,e'.d=some d→e'.R s' ((a.put e.d v).eval (.tmp d)) w':=fun v s' w' hv hf j e' he' hj d hd=>by
     by_cases hjk:j=k
     ·subst hjk;rw [he] at he';cases he';rw [hd,act_same (by rw [hI.g.sz];exact (hd1 d hd).1)];exact hv
     ·rw [hoth _ _ _ hjk] at hj;cases hde:e.d with
      | none=>exact hf j e' he' hj d hd
      | some d2=>
        rw [act_ne (fun h=>(hd1 d2 hde).2 j e' he' (fun h2=>hjk h2.symm) (by rw [hd,h]))];exact hf j e' he' hj d hd
    have hdo:e.d=o.dst:=hdst k e o he hko;have hlo':∀ (j:Nat) (e':FactG),sp[j]? = some e'→D j=true→e'.lo≤s:=fun j e' he' hj=>by
     rcases (hrow j e' he').2.1 with h|⟨i2,e2,he2,hm2,hl2,hi2⟩
     ·omega
     ·have h1:=(hI.mem i2 e2 he2 hm2).1 (hanc _ hI.cl j i2 hj hi2);omega
    have hold:OldW a0 sp l k a:=fun j d hjk hj hc=>by
     obtain ⟨e',he',hd⟩:=Option.bind_eq_some_iff.1 hj;refine hU j e' he' ?_ d hd;cases h:D j
     ·rfl
     ·have:=hanc _ hI.cl j k h (by simpa using hc);rw [hD] at this;cases this
    have hUput:∀ v:Value,UnW a0 sp (seen D k) (a.put e.d v):=fun v j e' he' hj d hd=>by
     have hjk:j≠k:=fun h=>by subst h;rw [hself] at hj;cases hj
     rw [hoth _ _ _ hjk] at hj;cases hde:e.d with
     | none=>exact hU j e' he' hj d hd
     | some d2=>
       rw [act_ne (fun h=>(hd1 d2 hde).2 j e' he' (fun h2=>hjk h2.symm) (by rw [hd,h]))];exact hU j e' he' hj d hd
    unfold ObW at hob;cases hem:e.mem with
    | false=>
      rw [hem] at hob;refine hob s hsl hsh a w hI.g hI.hG hdp hold K (fun v hv=>hK _ _ ⟨s,⟨hput v,hI.hG,hI.hM,hcl,fun i e' he' hm'=>?_,hslot v s w hv hI.f⟩,hUput v⟩);have hik:i≠k:=fun h=>by subst h;rw [he] at he';cases he';rw [hem] at hm';cases hm'
      rw [hoth _ _ _ hik];exact hI.mem i e' he' hm'
    | true=>
      rw [hem] at hob;obtain ⟨m1,m2,m3⟩:=hmm hem;have hse:s=e.lo:=by omega
      subst hse;refine hob a w hI.g hI.hG hdp hold K (fun v w' ht hg' hv=>hK _ _ ⟨e.lo+1,⟨hput v,hg',by omega,hcl,fun i e' he' hm'=>?_,hslot v _ w' hv (fun j e' he' hj d hd=>hkeep e' (List.mem_of_getElem? he') _ _ w w' (fun hm'=>(hI.mem j e' he' hm').1 hj) (hlo' j e' he' hj) (by omega) ht (hI.f j e' he' hj d hd))⟩,hUput v⟩);by_cases hik:i=k
      ·subst hik;rw [he] at he';cases he';exact ⟨fun _=>by omega,fun _=>hself _ _⟩
      ·rw [hoth _ _ _ hik,hI.mem i e' he' hm'];have:=m3 i e' he' (fun h=>hik h.symm) hm';omega
 ·obtain ⟨s,hI,_⟩:=hI;have hsM:s=M∨s<M:=by have:=hI.hM;omega
  have hsM:s=M:=by
   rcases hsM with h|h
   ·exact h
   ·exfalso;simp only [Bool.or_eq_true,beq_iff_eq,List.any_eq_true,Bool.and_eq_true,List.mem_map] at hlast;rcases hlast with h2|⟨r,⟨e,he,rfl⟩,hm',hl'⟩
    ·omega
    ·obtain ⟨j,hj⟩:=List.mem_iff_getElem?.1 he;have hl2:e.lo+1=M:=hl';have:=(hI.mem j e hj hm').1 (hall j (by have:=(List.getElem?_eq_some_iff.1 hj).1;omega));omega
  subst hsM;have hfill:a=fillF a0 (dsG sp) (fun d=>a.eval (.tmp d)):=by
   refine act_ext (by rw [fillF_size,hN];exact hI.g.sz) (by rw [fillF_defers];exact hI.g.df) (fun t ht=>?_);rw [fillF_eval _ _ a0 t (by rw [hN,← hI.g.sz];exact ht)];by_cases h1:t∈dsG sp
   ·simp [h1]
   ·simp [h1,hI.g.kp t h1]
  rw [hfill];refine hend _ w hI.hG (fun e he d hd=>?_);obtain ⟨j,hj⟩:=List.mem_iff_getElem?.1 he;exact hI.f j e hj (hall j (by have:=(List.getElem?_eq_some_iff.1 hj).1;omega)) d hd
end
end Go.Proofs.YtacinobmcgcccaaGreatDoor
/- plan.turned, plan.apart. -/
namespace Go.Proofs.YtacinobmcgcccaaGreatDoor
open Go.RowKit Go.Shelf
theorem unwanted_undef {ops:Array Oper} {a:Act} {o oj:Oper} {j d:Nat} {want:Bool} (hg:o.guard=some (j,want)) (hj:ops[j]? = some oj) (hd:oj.dst=some d) (hv:a.eval (.tmp d)=undef):¬ Region.wanted o (yielded ops a.tmps)=true:=by
 unfold Act.eval at hv;simp at hv;cases h:a.tmps[d]? with
 | none=>simp [Region.wanted,yielded,hg,hj,hd,h]
 | some v=>
   rw [h] at hv;simp at hv;subst hv;simp [Region.wanted,yielded,hg,hj,hd,h,undef]
abbrev TEg:TypeId:=109
def Eg.cs (e:Eg):Array Value:=#[.int .i64 e.a.x,.int .i64 e.a.y,.int .i64 e.b.x,.int .i64 e.b.y]
set_option maxRecDepth 100000 in
theorem eq_eg (e f:Eg) (w:World):(Op.equalIn 10000 TEg (.agg #[.int .i64 e.a.x,.int .i64 e.a.y,.int .i64 e.b.x,.int .i64 e.b.y]) (.agg #[.int .i64 f.a.x,.int .i64 f.a.y,.int .i64 f.b.x,.int .i64 f.b.y])).run Tryz.prog w=.ok (decide (e=f)) w:=by
 obtain ⟨⟨a,b⟩,⟨c,d⟩⟩:=e;obtain ⟨⟨a',b'⟩,⟨c',d'⟩⟩:=f;have hS:Tryz.prog.underlying TEg=some (.struct (Tryz.prog.fieldsOf TEg)):=by kernel_rfl
 have hT:Tryz.prog.underlying 56=some (.struct (Tryz.prog.fieldsOf 56)):=by kernel_rfl
 rw [show (10000:Nat)=9999+1 from rfl,run_equalIn_agg w 9999 TEg _ _ hS (by kernel_rfl)];have hp:∀ (a b c d:Int) (w:World),(Op.equalIn 9999 56 (.agg #[.int .i64 a,.int .i64 b]) (.agg #[.int .i64 c,.int .i64 d])).run Tryz.prog w=.ok (a == c&&b == d) w:=fun a b c d w=>by
  rw [show (9999:Nat)=9998+1 from rfl,run_equalIn_agg w 9998 56 _ _ hT (by kernel_rfl)];simp only [Program.fieldsOf,Tryz.underlying56];go_simp;by_cases h1:a=c <;> by_cases h2:b=d <;> simp [h1,h2]
 simp only [Program.fieldsOf,Tryz.underlying109];go_simp;by_cases h1:a=a' <;> by_cases h2:b=b' <;> by_cases h3:c=c' <;> by_cases h4:d=d' <;> simp [h1,h2,h3,h4]
set_option maxRecDepth 100000 in
theorem turned_any (e:Eg) (w:World):Calls Tryz.prog 114 #[.agg #[.int .i64 e.a.x,.int .i64 e.a.y,.int .i64 e.b.x,.int .i64 e.b.y]] w fun r w'=>r=.returned (.agg #[.int .i64 e.b.x,.int .i64 e.b.y,.int .i64 e.a.x,.int .i64 e.a.y])∧Below w.heap.size w w':=by
 obtain ⟨w2,hw2⟩:∃ q,(w.alloc (.cells #[.int .i64 e.a.x,.int .i64 e.a.y,.int .i64 e.b.x,.int .i64 e.b.y] TEg)).alloc (.cells #[.int .i64 0,.int .i64 0,.int .i64 0,.int .i64 0] TEg)=q:=⟨_,rfl⟩;have hbs:Bs w2 [(w.heap.size+1,TEg,#[.int .i64 0,.int .i64 0,.int .i64 0,.int .i64 0]),(w.heap.size,TEg,#[.int .i64 e.a.x,.int .i64 e.a.y,.int .i64 e.b.x,.int .i64 e.b.y])]:=by
  have h:=((Bs.nil w).al #[.int .i64 e.a.x,.int .i64 e.a.y,.int .i64 e.b.x,.int .i64 e.b.y] TEg).al #[.int .i64 0,.int .i64 0,.int .i64 0,.int .i64 0] TEg;rw [← hw2];simpa using h
 have k1:=hbs _ (List.mem_of_getElem? (i:=0) rfl);have k2:=hbs _ (List.mem_of_getElem? (i:=1) rfl);have HK1:=hide k1;have c1:=k1.cell;have f1:=k1.frozen;have z1:=k1.lt;have c2:=k2.cell;have f2:=k2.frozen;have z2:=k2.lt;have HB:=hide (show Below w.heap.size w w2 from hw2 ▸ bal (bal bR _) _);have HW2:=hide hw2;clear hw2 hbs k1 k2
 go_enter Tryz.func114,Tryz.ntmps114
 go_upto_region 1 with fail
 rw [HW2.out];go_wp2_with fail
 have hb6:=(((HK1.out.set_ 0 (.int .i64 e.b.x)).set_ 1 (.int .i64 e.b.y)).set_ 2 (.int .i64 e.a.x)).set_ 3 (.int .i64 e.a.y);refine bodyPost_ret (v:=.agg #[.int .i64 e.b.x,.int .i64 e.b.y,.int .i64 e.a.x,.int .i64 e.a.y]) (by simp [results,Tryz.results114,go_sem,hb6.cell 0,hb6.cell 1,hb6.cell 2,hb6.cell 3]) rfl ⟨rfl,?_⟩;exact (((HB.out.setCell (p:=⟨w.heap.size+1,0,none⟩) (by simp) _).setCell (p:=⟨w.heap.size+1,1,none⟩) (by simp) _).setCell (p:=⟨w.heap.size+1,2,none⟩) (by simp) _).setCell (p:=⟨w.heap.size+1,3,none⟩) (by simp) _
theorem ap_of {e f:Eg} {k:Int} (hk:meetE e f=k):apE e f=(decide (k=0)||(decide (k=1)&&decide (endsE e f))||(decide (k=3)&&(decide (e=f)||decide (e=f.back)))):=by unfold apE;rw [hk]
theorem ends_of {e f:Eg} {t1 t2 t3 t4:Bool} (h1:(e.a.x == f.a.x&&e.a.y == f.a.y)=t1) (h2:(e.a.x == f.b.x&&e.a.y == f.b.y)=t2) (h3:(e.b.x == f.a.x&&e.b.y == f.a.y)=t3) (h4:(e.b.x == f.b.x&&e.b.y == f.b.y)=t4):decide (endsE e f)=(t1||(t2||(t3||t4))):=by
 rw [eqb_pt] at h1 h2 h3 h4;subst h1 h2 h3 h4;unfold endsE;by_cases a1:e.a=f.a <;> by_cases a2:e.a=f.b <;> by_cases a3:e.b=f.a <;> by_cases a4:e.b=f.b <;> simp [a1,a2,a3,a4]
set_option maxRecDepth 100000 in
set_option maxHeartbeats 4000000 in
theorem apart_any (e f:Eg) (w:World) (he:e.good) (hf:f.good):Calls Tryz.prog 120 #[.agg #[.int .i64 e.a.x,.int .i64 e.a.y,.int .i64 e.b.x,.int .i64 e.b.y],.agg #[.int .i64 f.a.x,.int .i64 f.a.y,.int .i64 f.b.x,.int .i64 f.b.y]] w fun r w'=>r=.returned (.bool (apE e f))∧Below w.heap.size w w':=by
 have hrg:=meetE_range e f;obtain ⟨k,hk⟩:∃ k,meetE e f=k:=⟨_,rfl⟩;have hap:=ap_of hk;rw [hk] at hrg;have h4:=good4_iff.2 ⟨he.1,he.2,hf.1,hf.2⟩;have HM:=hide (fun w0=>by
  have h:=meet_any e.a e.b f.a f.b w0;rw [show meetA e.a e.b f.a f.b=k from by unfold meetA;rw [if_pos h4,meet_eq he.1 he.2 hf.1 hf.2];exact hk,show errA [e.a,e.b,f.a,f.b]=0 from by unfold errA;rw [if_pos h4]] at h;exact h)
 have HAP:=hide hap;clear hk hap h4;obtain ⟨w2,hw2⟩:∃ q,(w.alloc (.cells #[.int .i64 e.a.x,.int .i64 e.a.y,.int .i64 e.b.x,.int .i64 e.b.y] TEg)).alloc (.cells #[.int .i64 f.a.x,.int .i64 f.a.y,.int .i64 f.b.x,.int .i64 f.b.y] TEg)=q:=⟨_,rfl⟩;have hbs:Bs w2 [(w.heap.size+1,TEg,#[.int .i64 f.a.x,.int .i64 f.a.y,.int .i64 f.b.x,.int .i64 f.b.y]),(w.heap.size,TEg,#[.int .i64 e.a.x,.int .i64 e.a.y,.int .i64 e.b.x,.int .i64 e.b.y])]:=by
  have h:=((Bs.nil w).al #[.int .i64 e.a.x,.int .i64 e.a.y,.int .i64 e.b.x,.int .i64 e.b.y] TEg).al #[.int .i64 f.a.x,.int .i64 f.a.y,.int .i64 f.b.x,.int .i64 f.b.y] TEg;rw [← hw2];simpa using h
 have k1:=hbs _ (List.mem_of_getElem? (i:=0) rfl);have k2:=hbs _ (List.mem_of_getElem? (i:=1) rfl);have HK1:=hide k1;have HK2:=hide k2;have c1:=k1.cell;have f1:=k1.frozen;have z1:=k1.lt;have c2:=k2.cell;have f2:=k2.frozen;have z2:=k2.lt;have HB:=hide (show Below w.heap.size w w2 from hw2 ▸ bal (bal bR _) _);have HW2:=hide hw2;clear hw2 hbs k1 k2;have hgp:Tryz.prog.eqGuardType Tryz.prog.depth 56=false:=by kernel_rfl
 have hge:Tryz.prog.eqGuardType Tryz.prog.depth TEg=false:=by kernel_rfl
 go_enter Tryz.func120,Tryz.ntmps120
 go_upto_region 1 with fail
 rw [HW2.out];rcases (show k=0∨k=1∨k=2∨k=3 by omega) with rfl|rfl|rfl|rfl
 ·go_wp2_with (go_at_call 143;(refine (HM.out _).mono ?_);rintro r w3 ⟨rfl,hb3⟩;have HB3:=hide hb3;clear hb3)
  go_ret;exact ⟨by rw [HAP.out];rfl,HB.out.trans (HB3.out.mono HB.out.size)⟩
 ·obtain ⟨t1,h1⟩:∃ t,(e.a.x == f.a.x&&e.a.y == f.a.y)=t:=⟨_,rfl⟩;obtain ⟨t2,h2⟩:∃ t,(e.a.x == f.b.x&&e.a.y == f.b.y)=t:=⟨_,rfl⟩;obtain ⟨t3,h3⟩:∃ t,(e.b.x == f.a.x&&e.b.y == f.a.y)=t:=⟨_,rfl⟩;obtain ⟨t4,h4⟩:∃ t,(e.b.x == f.b.x&&e.b.y == f.b.y)=t:=⟨_,rfl⟩;have HEN:=hide (HAP.out.trans (by rw [ends_of h1 h2 h3 h4];rfl:_=((false||(true&&(t1||(t2||(t3||t4)))))||(false&&(decide (e=f)||decide (e=f.back))))));have e1:=fun w1=>eq_pt e.a.x e.a.y f.a.x f.a.y w1
  have e2:=fun w1=>eq_pt e.a.x e.a.y f.b.x f.b.y w1
  have e3:=fun w1=>eq_pt e.b.x e.b.y f.a.x f.a.y w1
  have e4:=fun w1=>eq_pt e.b.x e.b.y f.b.x f.b.y w1
  rw [h1] at e1;rw [h2] at e2;rw [h3] at e3;rw [h4] at e4;clear h1 h2 h3 h4 HAP;have E:∀ {w0:World},Below w2.heap.size w2 w0→Below w.heap.size w w0:=fun h=>HB.out.trans (h.mono HB.out.size)
  have HE:Hid (∀ {w0:World},Below w2.heap.size w2 w0→Below w.heap.size w w0):=E;clear E;cases t1
  ·cases t2
   ·cases t3
    ·go_wp2_with (go_at_call 143;(refine (HM.out _).mono ?_);rintro r w3 ⟨rfl,hb3⟩;have HB3:=hide hb3;have h1:=HK1.out.below hb3 HK1.out.lt;have h2:=HK2.out.below hb3 HK2.out.lt;clear c1 f1 z1 c2 f2 z2;have c1:=h1.cell;have f1:=h1.frozen;have z1:=h1.lt;have c2:=h2.cell;have f2:=h2.frozen;have z2:=h2.lt;clear hb3 h1 h2)
     go_ret;exact ⟨by rw [HEN.out];simp,HE.out HB3.out⟩
    ·go_wp2_with (go_at_call 143;(refine (HM.out _).mono ?_);rintro r w3 ⟨rfl,hb3⟩;have HB3:=hide hb3;have h1:=HK1.out.below hb3 HK1.out.lt;have h2:=HK2.out.below hb3 HK2.out.lt;clear c1 f1 z1 c2 f2 z2;have c1:=h1.cell;have f1:=h1.frozen;have z1:=h1.lt;have c2:=h2.cell;have f2:=h2.frozen;have z2:=h2.lt;clear hb3 h1 h2)
     go_ret;exact ⟨by rw [HEN.out];simp,HE.out HB3.out⟩
   ·go_wp2_with (go_at_call 143;(refine (HM.out _).mono ?_);rintro r w3 ⟨rfl,hb3⟩;have HB3:=hide hb3;have h1:=HK1.out.below hb3 HK1.out.lt;have h2:=HK2.out.below hb3 HK2.out.lt;clear c1 f1 z1 c2 f2 z2;have c1:=h1.cell;have f1:=h1.frozen;have z1:=h1.lt;have c2:=h2.cell;have f2:=h2.frozen;have z2:=h2.lt;clear hb3 h1 h2)
    go_ret;exact ⟨by rw [HEN.out];simp,HE.out HB3.out⟩
  ·go_wp2_with (go_at_call 143;(refine (HM.out _).mono ?_);rintro r w3 ⟨rfl,hb3⟩;have HB3:=hide hb3;have h1:=HK1.out.below hb3 HK1.out.lt;have h2:=HK2.out.below hb3 HK2.out.lt;clear c1 f1 z1 c2 f2 z2;have c1:=h1.cell;have f1:=h1.frozen;have z1:=h1.lt;have c2:=h2.cell;have f2:=h2.frozen;have z2:=h2.lt;clear hb3 h1 h2)
   go_ret;exact ⟨by rw [HEN.out];simp,HE.out HB3.out⟩
 ·go_upto_region 7 with (go_at_call 143;(refine (HM.out _).mono ?_);rintro r w3 ⟨rfl,hb3⟩;have HB3:=hide hb3;have h1:=HK1.out.below hb3 HK1.out.lt;have h2:=HK2.out.below hb3 HK2.out.lt;have HK1':=hide h1;have HK2':=hide h2;have c1:=h1.cell;have f1:=h1.frozen;have z1:=h1.lt;have c2:=h2.cell;have f2:=h2.frozen;have z2:=h2.lt;clear hb3 h1 h2)
  clear c1 f1 z1 c2 f2 z2;refine wp_region_stageW (by kernel_rfl) (by kernel_rfl) 63 0
   [⟨some 50,false,0,0,fun _ v _=>v=.int .i64 2⟩,
    ⟨some 51,false,0,0,fun _ v _=>v=.bool false⟩,
    ⟨some 52,false,0,0,fun _ v _=>v=.bool false⟩,
    ⟨some 53,false,0,0,fun _ v _=>v=undef⟩,
    ⟨some 54,false,0,0,fun _ v _=>v=undef⟩,
    ⟨some 55,false,0,0,fun _ v _=>v=undef⟩,
    ⟨some 56,false,0,0,fun _ v _=>v=undef⟩,
    ⟨some 57,false,0,0,fun _ v _=>v=undef⟩,
    ⟨some 58,false,0,0,fun _ v _=>v=undef⟩,
    ⟨some 59,false,0,0,fun _ v _=>v=undef⟩,
    ⟨some 60,false,0,0,fun _ v _=>v=undef⟩,
    ⟨some 61,false,0,0,fun _ v _=>v=undef⟩,
    ⟨some 62,false,0,0,fun _ v _=>v=.bool false⟩,
    ⟨some 4,false,0,0,fun _ v _=>v=.bool false⟩] (fun _ w'=>Below w3.heap.size w3 w') (fun _ w w'=>Below w.heap.size w w') [50,51,52,53,54,55,56,57,58,59,60,61,62,4] rfl (by kernel_rfl) rfl ?g0 ?keep ?steps ?fin
  case keep=>
   intro e he s v w w' hm hlo hsM ht hv;simp only [List.mem_cons,List.not_mem_nil,or_false] at he;rcases he with rfl|rfl|rfl|rfl|rfl|rfl|rfl|rfl|rfl|rfl|rfl|rfl|rfl|rfl
   all_goals first|exact hv|(exfalso;dsimp only at hlo;omega)|(intro h3;exfalso;have:=hm rfl;dsimp only at this;omega)
  case steps=>
   refine ⟨?_,?_,?_,?_,?_,?_,?_,?_,?_,?_,?_,?_,?_,?_,trivial⟩
   ·intro st hlo hhi ac w3 hg hG hd ho K hK;dsimp only at hlo hhi hG hK;rw [if_pos (by rfl)];exact op_move _ rfl (hK _ (hg.kp 5 (by simp)))
   ·intro st hlo hhi ac w3 hg hG hd ho K hK;dsimp only at hlo hhi hG hK;rw [if_pos (by rfl)];have f0:=hd ⟨0,.data⟩ (by simp) rfl _ rfl _ rfl;(try simp [Act.eval] at f0);go_simp;exact hK _ rfl
   ·intro st hlo hhi ac w3 hg hG hd ho K hK;dsimp only at hlo hhi hG hK;rw [if_pos (by rfl)];exact op_move _ rfl (hK _ (hd ⟨1,.data⟩ (by simp) rfl _ rfl _ rfl))
   ·intro st hlo hhi ac w3 hg hG hd ho K hK;dsimp only at hlo hhi hG hK;rw [if_neg (unwanted_of rfl rfl rfl (hd ⟨2,.guard⟩ (by simp) rfl _ rfl _ rfl) (by decide))];exact hK undef rfl
   ·intro st hlo hhi ac w3 hg hG hd ho K hK;dsimp only at hlo hhi hG hK;rw [if_neg (unwanted_of rfl rfl rfl (hd ⟨2,.guard⟩ (by simp) rfl _ rfl _ rfl) (by decide))];exact hK undef rfl
   ·intro st hlo hhi ac w3 hg hG hd ho K hK;dsimp only at hlo hhi hG hK;rw [if_neg (unwanted_of rfl rfl rfl (hd ⟨2,.guard⟩ (by simp) rfl _ rfl _ rfl) (by decide))];exact hK undef rfl
   ·intro st hlo hhi ac w3 hg hG hd ho K hK;dsimp only at hlo hhi hG hK;rw [if_neg (unwanted_of rfl rfl rfl (hd ⟨2,.guard⟩ (by simp) rfl _ rfl _ rfl) (by decide))];exact hK undef rfl
   ·intro st hlo hhi ac w3 hg hG hd ho K hK;dsimp only at hlo hhi hG hK;rw [if_neg (unwanted_undef rfl rfl rfl (hd ⟨6,.guard⟩ (by simp) rfl _ rfl _ rfl))];exact hK undef rfl
   ·intro st hlo hhi ac w3 hg hG hd ho K hK;dsimp only at hlo hhi hG hK;rw [if_neg (unwanted_undef rfl rfl rfl (hd ⟨6,.guard⟩ (by simp) rfl _ rfl _ rfl))];exact hK undef rfl
   ·intro st hlo hhi ac w3 hg hG hd ho K hK;dsimp only at hlo hhi hG hK;rw [if_neg (unwanted_undef rfl rfl rfl (hd ⟨6,.guard⟩ (by simp) rfl _ rfl _ rfl))];exact hK undef rfl
   ·intro st hlo hhi ac w3 hg hG hd ho K hK;dsimp only at hlo hhi hG hK;rw [if_neg (unwanted_undef rfl rfl rfl (hd ⟨6,.guard⟩ (by simp) rfl _ rfl _ rfl))];exact hK undef rfl
   ·intro st hlo hhi ac w3 hg hG hd ho K hK;dsimp only at hlo hhi hG hK;rw [if_neg (unwanted_of rfl rfl rfl (hd ⟨2,.guard⟩ (by simp) rfl _ rfl _ rfl) (by decide))];exact hK undef rfl
   ·intro st hlo hhi ac w3 hg hG hd ho K hK;dsimp only at hlo hhi hG hK;rw [if_pos (by rfl)];have f2:=hd ⟨2,.data⟩ (by simp) rfl _ rfl _ rfl;have f11:=hd ⟨11,.data⟩ (by simp) rfl _ rfl _ rfl;(try simp [Act.eval] at f2);(try simp [Act.eval] at f11);go_simp;exact hK _ rfl
   ·intro st hlo hhi ac w3 hg hG hd ho K hK;dsimp only at hlo hhi hG hK;rw [if_pos (by rfl)];exact op_assign _ rfl (hK _ (hd ⟨12,.data⟩ (by simp) rfl _ rfl _ rfl))
  case g0=>exact bR.drew
  case fin=>
   intro f9 w9 hG hall;have h4:=hall _ (List.mem_of_getElem? (i:=13) rfl) 4 rfl;have HB9:=hide (HB.out.trans ((HB3.out.trans (hG.mono HB3.out.size)).mono HB.out.size));clear hall hG;simp only [fillF,List.map_cons,List.map_nil,List.foldl_cons,List.foldl_nil,Act.put,List.setIfInBounds_toArray,List.set_cons_zero,List.set_cons_succ];rw [show f9 4=.bool false from h4];clear h4;go_wp2_with fail
   go_ret;exact ⟨by rw [HAP.out];simp,HB9.out⟩
 ·obtain ⟨t0,ht0⟩:∃ t,decide (e=f)=t:=⟨_,rfl⟩;obtain ⟨tb,htb⟩:∃ t,decide (e=f.back)=t:=⟨_,rfl⟩;have q1:=fun w1=>eq_eg e f w1
  have q2:=fun w1=>eq_eg e f.back w1
  rw [ht0] at q1;rw [htb] at q2;dsimp only [Eg.back] at q2;rw [ht0,htb] at HAP;clear ht0 htb;cases t0
  ·go_upto_region 7 with (go_at_call 143;(refine (HM.out _).mono ?_);rintro r w3 ⟨rfl,hb3⟩;have HB3:=hide hb3;have h1:=HK1.out.below hb3 HK1.out.lt;have h2:=HK2.out.below hb3 HK2.out.lt;have HK1':=hide h1;have HK2':=hide h2;have c1:=h1.cell;have f1:=h1.frozen;have z1:=h1.lt;have c2:=h2.cell;have f2:=h2.frozen;have z2:=h2.lt;clear hb3 h1 h2)
   clear c1 f1 z1 c2 f2 z2;refine wp_region_stageW (by kernel_rfl) (by kernel_rfl) 63 1
    [⟨some 50,false,0,1,fun _ v _=>v=.int .i64 3⟩,
     ⟨some 51,false,0,1,fun _ v _=>v=.bool true⟩,
     ⟨some 52,false,0,1,fun _ v _=>v=.bool true⟩,
     ⟨some 53,false,0,1,fun _ v _=>v=.agg #[.int .i64 e.a.x,.int .i64 e.a.y,.int .i64 e.b.x,.int .i64 e.b.y]⟩,
     ⟨some 54,false,0,1,fun _ v _=>v=.agg #[.int .i64 f.a.x,.int .i64 f.a.y,.int .i64 f.b.x,.int .i64 f.b.y]⟩,
     ⟨some 55,false,0,1,fun _ v _=>v=.bool false⟩,
     ⟨some 56,false,0,1,fun _ v _=>v=.bool false⟩,
     ⟨some 57,false,0,1,fun _ v _=>v=.agg #[.int .i64 e.a.x,.int .i64 e.a.y,.int .i64 e.b.x,.int .i64 e.b.y]⟩,
     ⟨some 58,false,0,0,fun _ v _=>v=.agg #[.int .i64 f.a.x,.int .i64 f.a.y,.int .i64 f.b.x,.int .i64 f.b.y]⟩,
     ⟨some 59,true,0,0,fun _ v _=>v=.agg #[.int .i64 f.b.x,.int .i64 f.b.y,.int .i64 f.a.x,.int .i64 f.a.y]⟩,
     ⟨some 60,false,1,1,fun _ v _=>v=.bool tb⟩,
     ⟨some 61,false,1,1,fun _ v _=>v=.bool tb⟩,
     ⟨some 62,false,1,1,fun _ v _=>v=.bool tb⟩,
     ⟨some 4,false,1,1,fun _ v _=>v=.bool tb⟩] (fun _ w'=>Below w3.heap.size w3 w') (fun _ w w'=>Below w.heap.size w w') [50,51,52,53,54,55,56,57,58,59,60,61,62,4] rfl (by kernel_rfl) rfl ?g0 ?keep ?steps ?fin
   case keep=>
    intro e he s v w w' hm hlo hsM ht hv;simp only [List.mem_cons,List.not_mem_nil,or_false] at he;rcases he with rfl|rfl|rfl|rfl|rfl|rfl|rfl|rfl|rfl|rfl|rfl|rfl|rfl|rfl
    all_goals first|exact hv|(exfalso;dsimp only at hlo;omega)|(intro h3;exfalso;have:=hm rfl;dsimp only at this;omega)
   case steps=>
    refine ⟨?_,?_,?_,?_,?_,?_,?_,?_,?_,?_,?_,?_,?_,?_,trivial⟩
    ·intro st hlo hhi ac w3 hg hG hd ho K hK;dsimp only at hlo hhi hG hK;rw [if_pos (by rfl)];exact op_move _ rfl (hK _ (hg.kp 5 (by simp)))
    ·intro st hlo hhi ac w3 hg hG hd ho K hK;dsimp only at hlo hhi hG hK;rw [if_pos (by rfl)];have f0:=hd ⟨0,.data⟩ (by simp) rfl _ rfl _ rfl;(try simp [Act.eval] at f0);go_simp;exact hK _ rfl
    ·intro st hlo hhi ac w3 hg hG hd ho K hK;dsimp only at hlo hhi hG hK;rw [if_pos (by rfl)];exact op_move _ rfl (hK _ (hd ⟨1,.data⟩ (by simp) rfl _ rfl _ rfl))
    ·intro st hlo hhi ac w3 hg hG hd ho K hK;dsimp only at hlo hhi hG hK;rw [if_pos (wanted_of rfl rfl rfl (hd ⟨2,.guard⟩ (by simp) rfl _ rfl _ rfl))];have kk:=HK2'.out.below hG HK2'.out.lt;have k0:=kk.cell;have zz:=kk.lt;clear kk;have k2:=hg.kp 2 (by simp);(try simp [Act.eval] at k2);go_simp;exact hK _ rfl
    ·intro st hlo hhi ac w3 hg hG hd ho K hK;dsimp only at hlo hhi hG hK;rw [if_pos (wanted_of rfl rfl rfl (hd ⟨2,.guard⟩ (by simp) rfl _ rfl _ rfl))];have kk:=HK1'.out.below hG HK1'.out.lt;have k0:=kk.cell;have zz:=kk.lt;clear kk;have k3:=hg.kp 3 (by simp);(try simp [Act.eval] at k3);go_simp;exact hK _ rfl
    ·intro st hlo hhi ac w3 hg hG hd ho K hK;dsimp only at hlo hhi hG hK;rw [if_pos (wanted_of rfl rfl rfl (hd ⟨2,.guard⟩ (by simp) rfl _ rfl _ rfl))];have f3:=hd ⟨3,.data⟩ (by simp) rfl _ rfl _ rfl;have f4:=hd ⟨4,.data⟩ (by simp) rfl _ rfl _ rfl;(try simp [Act.eval] at f3);(try simp [Act.eval] at f4);go_simp;exact hK _ rfl
    ·intro st hlo hhi ac w3 hg hG hd ho K hK;dsimp only at hlo hhi hG hK;rw [if_pos (wanted_of rfl rfl rfl (hd ⟨2,.guard⟩ (by simp) rfl _ rfl _ rfl))];exact op_move _ rfl (hK _ (hd ⟨5,.data⟩ (by simp) rfl _ rfl _ rfl))
    ·intro st hlo hhi ac w3 hg hG hd ho K hK;dsimp only at hlo hhi hG hK;rw [if_pos (wanted_of rfl rfl rfl (hd ⟨6,.guard⟩ (by simp) rfl _ rfl _ rfl))];have kk:=HK2'.out.below hG HK2'.out.lt;have k0:=kk.cell;have zz:=kk.lt;clear kk;have k2:=hg.kp 2 (by simp);(try simp [Act.eval] at k2);go_simp;exact hK _ rfl
    ·intro st hlo hhi ac w3 hg hG hd ho K hK;dsimp only at hlo hhi hG hK;rw [if_pos (wanted_of rfl rfl rfl (hd ⟨6,.guard⟩ (by simp) rfl _ rfl _ rfl))];have kk:=HK1'.out.below hG HK1'.out.lt;have k0:=kk.cell;have zz:=kk.lt;clear kk;have k3:=hg.kp 3 (by simp);(try simp [Act.eval] at k3);go_simp;exact hK _ rfl
    ·intro ac w3 hg hG hd ho K hK;dsimp only [Nat.zero_add,Nat.reduceAdd] at hG hK;rw [if_pos (wanted_of rfl rfl rfl (hd ⟨6,.guard⟩ (by simp) rfl _ rfl _ rfl))];have f8:=hd ⟨8,.data⟩ (by simp) rfl _ rfl _ rfl;simp [Act.eval] at f8;go_simp;(refine (turned_any f _).mono ?_);rintro r w4 ⟨rfl,hb4⟩;exact hK _ w4 hb4 (hG.trans (hb4.mono hG.size)) rfl
    ·intro st hlo hhi ac w3 hg hG hd ho K hK;dsimp only at hlo hhi hG hK;rw [if_pos (wanted_of rfl rfl rfl (hd ⟨6,.guard⟩ (by simp) rfl _ rfl _ rfl))];have f7:=hd ⟨7,.data⟩ (by simp) rfl _ rfl _ rfl;have f9:=hd ⟨9,.data⟩ (by simp) rfl _ rfl _ rfl;(try simp [Act.eval] at f7);(try simp [Act.eval] at f9);go_simp;exact hK _ rfl
    ·intro st hlo hhi ac w3 hg hG hd ho K hK;dsimp only at hlo hhi hG hK;rw [if_pos (wanted_of rfl rfl rfl (hd ⟨2,.guard⟩ (by simp) rfl _ rfl _ rfl))];have f6:=hd ⟨6,.data⟩ (by simp) rfl _ rfl _ rfl;have f10:=hd ⟨10,.data⟩ (by simp) rfl _ rfl _ rfl;(try simp [Act.eval] at f6);(try simp [Act.eval] at f10);go_simp;exact hK _ rfl
    ·intro st hlo hhi ac w3 hg hG hd ho K hK;dsimp only at hlo hhi hG hK;rw [if_pos (by rfl)];have f2:=hd ⟨2,.data⟩ (by simp) rfl _ rfl _ rfl;have f11:=hd ⟨11,.data⟩ (by simp) rfl _ rfl _ rfl;(try simp [Act.eval] at f2);(try simp [Act.eval] at f11);go_simp;exact hK _ rfl
    ·intro st hlo hhi ac w3 hg hG hd ho K hK;dsimp only at hlo hhi hG hK;rw [if_pos (by rfl)];exact op_assign _ rfl (hK _ (hd ⟨12,.data⟩ (by simp) rfl _ rfl _ rfl))
   case g0=>exact bR.drew
   case fin=>
    intro f9 w9 hG hall;have h4:=hall _ (List.mem_of_getElem? (i:=13) rfl) 4 rfl;have HB9:=hide (HB.out.trans ((HB3.out.trans (hG.mono HB3.out.size)).mono HB.out.size));clear hall hG;simp only [fillF,List.map_cons,List.map_nil,List.foldl_cons,List.foldl_nil,Act.put,List.setIfInBounds_toArray,List.set_cons_zero,List.set_cons_succ];rw [show f9 4=.bool tb from h4];clear h4;go_wp2_with fail
    go_ret;exact ⟨by rw [HAP.out];simp,HB9.out⟩
  ·go_upto_region 7 with (go_at_call 143;(refine (HM.out _).mono ?_);rintro r w3 ⟨rfl,hb3⟩;have HB3:=hide hb3;have h1:=HK1.out.below hb3 HK1.out.lt;have h2:=HK2.out.below hb3 HK2.out.lt;have HK1':=hide h1;have HK2':=hide h2;have c1:=h1.cell;have f1:=h1.frozen;have z1:=h1.lt;have c2:=h2.cell;have f2:=h2.frozen;have z2:=h2.lt;clear hb3 h1 h2)
   clear c1 f1 z1 c2 f2 z2;refine wp_region_stageW (by kernel_rfl) (by kernel_rfl) 63 0
    [⟨some 50,false,0,0,fun _ v _=>v=.int .i64 3⟩,
     ⟨some 51,false,0,0,fun _ v _=>v=.bool true⟩,
     ⟨some 52,false,0,0,fun _ v _=>v=.bool true⟩,
     ⟨some 53,false,0,0,fun _ v _=>v=.agg #[.int .i64 e.a.x,.int .i64 e.a.y,.int .i64 e.b.x,.int .i64 e.b.y]⟩,
     ⟨some 54,false,0,0,fun _ v _=>v=.agg #[.int .i64 f.a.x,.int .i64 f.a.y,.int .i64 f.b.x,.int .i64 f.b.y]⟩,
     ⟨some 55,false,0,0,fun _ v _=>v=.bool true⟩,
     ⟨some 56,false,0,0,fun _ v _=>v=.bool true⟩,
     ⟨some 57,false,0,0,fun _ v _=>v=undef⟩,
     ⟨some 58,false,0,0,fun _ v _=>v=undef⟩,
     ⟨some 59,false,0,0,fun _ v _=>v=undef⟩,
     ⟨some 60,false,0,0,fun _ v _=>v=undef⟩,
     ⟨some 61,false,0,0,fun _ v _=>v=.bool true⟩,
     ⟨some 62,false,0,0,fun _ v _=>v=.bool true⟩,
     ⟨some 4,false,0,0,fun _ v _=>v=.bool true⟩] (fun _ w'=>Below w3.heap.size w3 w') (fun _ w w'=>Below w.heap.size w w') [50,51,52,53,54,55,56,57,58,59,60,61,62,4] rfl (by kernel_rfl) rfl ?g0 ?keep ?steps ?fin
   case keep=>
    intro e he s v w w' hm hlo hsM ht hv;simp only [List.mem_cons,List.not_mem_nil,or_false] at he;rcases he with rfl|rfl|rfl|rfl|rfl|rfl|rfl|rfl|rfl|rfl|rfl|rfl|rfl|rfl
    all_goals first|exact hv|(exfalso;dsimp only at hlo;omega)|(intro h3;exfalso;have:=hm rfl;dsimp only at this;omega)
   case steps=>
    refine ⟨?_,?_,?_,?_,?_,?_,?_,?_,?_,?_,?_,?_,?_,?_,trivial⟩
    ·intro st hlo hhi ac w3 hg hG hd ho K hK;dsimp only at hlo hhi hG hK;rw [if_pos (by rfl)];exact op_move _ rfl (hK _ (hg.kp 5 (by simp)))
    ·intro st hlo hhi ac w3 hg hG hd ho K hK;dsimp only at hlo hhi hG hK;rw [if_pos (by rfl)];have f0:=hd ⟨0,.data⟩ (by simp) rfl _ rfl _ rfl;(try simp [Act.eval] at f0);go_simp;exact hK _ rfl
    ·intro st hlo hhi ac w3 hg hG hd ho K hK;dsimp only at hlo hhi hG hK;rw [if_pos (by rfl)];exact op_move _ rfl (hK _ (hd ⟨1,.data⟩ (by simp) rfl _ rfl _ rfl))
    ·intro st hlo hhi ac w3 hg hG hd ho K hK;dsimp only at hlo hhi hG hK;rw [if_pos (wanted_of rfl rfl rfl (hd ⟨2,.guard⟩ (by simp) rfl _ rfl _ rfl))];have kk:=HK2'.out.below hG HK2'.out.lt;have k0:=kk.cell;have zz:=kk.lt;clear kk;have k2:=hg.kp 2 (by simp);(try simp [Act.eval] at k2);go_simp;exact hK _ rfl
    ·intro st hlo hhi ac w3 hg hG hd ho K hK;dsimp only at hlo hhi hG hK;rw [if_pos (wanted_of rfl rfl rfl (hd ⟨2,.guard⟩ (by simp) rfl _ rfl _ rfl))];have kk:=HK1'.out.below hG HK1'.out.lt;have k0:=kk.cell;have zz:=kk.lt;clear kk;have k3:=hg.kp 3 (by simp);(try simp [Act.eval] at k3);go_simp;exact hK _ rfl
    ·intro st hlo hhi ac w3 hg hG hd ho K hK;dsimp only at hlo hhi hG hK;rw [if_pos (wanted_of rfl rfl rfl (hd ⟨2,.guard⟩ (by simp) rfl _ rfl _ rfl))];have f3:=hd ⟨3,.data⟩ (by simp) rfl _ rfl _ rfl;have f4:=hd ⟨4,.data⟩ (by simp) rfl _ rfl _ rfl;(try simp [Act.eval] at f3);(try simp [Act.eval] at f4);go_simp;exact hK _ rfl
    ·intro st hlo hhi ac w3 hg hG hd ho K hK;dsimp only at hlo hhi hG hK;rw [if_pos (wanted_of rfl rfl rfl (hd ⟨2,.guard⟩ (by simp) rfl _ rfl _ rfl))];exact op_move _ rfl (hK _ (hd ⟨5,.data⟩ (by simp) rfl _ rfl _ rfl))
    ·intro st hlo hhi ac w3 hg hG hd ho K hK;dsimp only at hlo hhi hG hK;rw [if_neg (unwanted_of rfl rfl rfl (hd ⟨6,.guard⟩ (by simp) rfl _ rfl _ rfl) (by decide))];exact hK undef rfl
    ·intro st hlo hhi ac w3 hg hG hd ho K hK;dsimp only at hlo hhi hG hK;rw [if_neg (unwanted_of rfl rfl rfl (hd ⟨6,.guard⟩ (by simp) rfl _ rfl _ rfl) (by decide))];exact hK undef rfl
    ·intro st hlo hhi ac w3 hg hG hd ho K hK;dsimp only at hlo hhi hG hK;rw [if_neg (unwanted_of rfl rfl rfl (hd ⟨6,.guard⟩ (by simp) rfl _ rfl _ rfl) (by decide))];exact hK undef rfl
    ·intro st hlo hhi ac w3 hg hG hd ho K hK;dsimp only at hlo hhi hG hK;rw [if_neg (unwanted_of rfl rfl rfl (hd ⟨6,.guard⟩ (by simp) rfl _ rfl _ rfl) (by decide))];exact hK undef rfl
    ·intro st hlo hhi ac w3 hg hG hd ho K hK;dsimp only at hlo hhi hG hK;rw [if_pos (wanted_of rfl rfl rfl (hd ⟨2,.guard⟩ (by simp) rfl _ rfl _ rfl))];have f6:=hd ⟨6,.data⟩ (by simp) rfl _ rfl _ rfl;have f10:=hd ⟨10,.data⟩ (by simp) rfl _ rfl _ rfl;(try simp [Act.eval] at f6);(try simp [Act.eval] at f10);go_simp;exact hK _ rfl
    ·intro st hlo hhi ac w3 hg hG hd ho K hK;dsimp only at hlo hhi hG hK;rw [if_pos (by rfl)];have f2:=hd ⟨2,.data⟩ (by simp) rfl _ rfl _ rfl;have f11:=hd ⟨11,.data⟩ (by simp) rfl _ rfl _ rfl;(try simp [Act.eval] at f2);(try simp [Act.eval] at f11);go_simp;exact hK _ rfl
    ·intro st hlo hhi ac w3 hg hG hd ho K hK;dsimp only at hlo hhi hG hK;rw [if_pos (by rfl)];exact op_assign _ rfl (hK _ (hd ⟨12,.data⟩ (by simp) rfl _ rfl _ rfl))
   case g0=>exact bR.drew
   case fin=>
    intro f9 w9 hG hall;have h4:=hall _ (List.mem_of_getElem? (i:=13) rfl) 4 rfl;have HB9:=hide (HB.out.trans ((HB3.out.trans (hG.mono HB3.out.size)).mono HB.out.size));clear hall hG;simp only [fillF,List.map_cons,List.map_nil,List.foldl_cons,List.foldl_nil,Act.put,List.setIfInBounds_toArray,List.set_cons_zero,List.set_cons_succ];rw [show f9 4=.bool true from h4];clear h4;go_wp2_with fail
    go_ret;exact ⟨by rw [HAP.out];simp,HB9.out⟩
end Go.Proofs.YtacinobmcgcccaaGreatDoor
