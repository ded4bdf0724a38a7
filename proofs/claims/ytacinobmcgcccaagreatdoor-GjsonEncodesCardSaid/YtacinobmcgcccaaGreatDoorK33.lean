/- The plan's text: what is printed of its value is what the reference writes. -/
import Derived.Test.YtacinobmcgcccaaGreatDoorK31
import Derived.Test.YtacinobmcgcccaaGreatDoorK32
import Derived.Test.YtacinobmcgcccaaGreatDoorK07
import Derived.Test.YtacinobmcgcccaaGreatDoorK06
import Derived.Deep.RegionHeld3
import Derived.Outline
import Derived.Laws.Bits64b
set_option linter.unusedSimpArgs false
set_option linter.unusedVariables false
namespace Go.Proofs.YtacinobmcgcccaaGreatDoor
open Go.RowKit Go.Shelf
theorem dg_fin:∀ i:Fin 10,isDg (UInt8.ofNat (48+i.val))=true∧((UInt8.ofNat (48+i.val)).toNat=48→i.val=0):=by decide +kernel
theorem dg_of {i:Nat} (h:i<10):isDg (UInt8.ofNat (48+i))=true∧((UInt8.ofNat (48+i)).toNat=48→i=0):=dg_fin ⟨i,h⟩
theorem dec_head:∀ (k u:Nat),u≤k → ∃ c t,Lib.decDigits u=c :: t∧isDg c=true∧(∀ x∈t,isDg x=true)∧(c.toNat=48→t=[]∧u=0)
 | k,u,hk=>by
   rw [Lib.decDigits];by_cases h:u<10
   ·rw [dif_pos h];exact ⟨_,[],rfl,(dg_of h).1,by simp,fun e=>⟨rfl,(dg_of h).2 e⟩⟩
   ·rw [dif_neg h]
    match k,hk with
    | 0,hk=>omega
    | k+1,hk=>
      obtain ⟨c,t,e,h1,h2,h3⟩:=dec_head k (u / 10) (by omega);rw [e];refine ⟨c,t++[UInt8.ofNat (48+u % 10)],rfl,h1,fun x hx=>?_,fun e48=>?_⟩
      ·rcases List.mem_append.1 hx with hx|hx
       ·exact h2 x hx
       ·rw [List.mem_singleton] at hx;subst hx;exact (dg_of (Nat.mod_lt _ (by omega))).1
      ·have:=(h3 e48).2;omega
theorem run_all {l:L8} (h:∀ x∈l,isDg x=true):runDg l=l.length:=by
 unfold runDg;congr 1
 induction l with
 | nil=>rfl
 | cons c l ih=>rw [List.takeWhile_cons,h c (by simp),if_pos rfl,ih fun x hx=>h x (by simp [hx])]
theorem numL_dec {c:UInt8} {t:L8} (h1:isDg c=true) (h2:∀ x∈t,isDg x=true) (h3:c.toNat=48→t=[]) :
 nD (c :: t)=some (t.length+1)∧nI (c :: t)=0:=by
 have hc:isDg c=true:=h1;constructor
 ·unfold nD;by_cases h:isS (c :: t) [48]=true
  ·rw [if_pos h];have:c.toNat=48:=by
    have:c=48:=by simpa [isS] using h
    rw [this];rfl
   rw [h3 this];rfl
  ·rw [if_neg h,if_pos (show digS (c :: t)=true from hc),run_all (by intro x hx;rcases List.mem_cons.1 hx with rfl|hx;exact h1;exact h2 x hx)];rfl
 ·unfold nI;rw [if_neg];intro h;have:c=45:=by simpa [isS] using h
  subst this
  revert h1
  decide
theorem numL_itoa (n:Int):numL (Lib.itoa n)=some (Lib.itoa n).length ∧ ∃ c t,Lib.itoa n=c :: t∧(isDg c=true∨c=45):=by
 unfold Lib.itoa;by_cases h:n<0
 ·rw [if_pos h];obtain ⟨c,t,e,h1,h2,h3⟩:=dec_head _ n.natAbs (Nat.le_refl _);have hd:=(numL_dec h1 h2 fun e=>(h3 e).1).1;refine ⟨?_,45,_,rfl,.inr rfl⟩;rw [e];unfold numL;have:nI (45 :: c :: t)=1:=rfl;rw [this];simp only [List.drop_succ_cons,List.drop_zero];rw [hd];have h0:(45 :: c :: t).drop (1+(t.length+1))=([]:L8):=List.drop_of_length_le (by simp;omega);simp only [h0,show nF []=some 0 from rfl,Nat.add_zero,show nE []=some 0 from rfl,show nX []=false from rfl];simp;omega
 ·rw [if_neg h];obtain ⟨c,t,e,h1,h2,h3⟩:=dec_head _ n.toNat (Nat.le_refl _);have hd:=numL_dec h1 h2 fun e=>(h3 e).1
  refine ⟨?_,c,t,e,.inl h1⟩;rw [e];unfold numL;rw [hd.2];simp only [List.drop_zero];rw [hd.1];simp only;rw [show (c :: t).drop (0+(t.length+1))=([]:L8) from List.drop_of_length_le (by simp)];simp [nF,isS,nE,nX,digS]
theorem first_dg:∀ c:UInt8,isDg c=true∨c=45→blL.contains c=false∧sgL.contains c=false∧c.toNat≠34∧(isDg c||decide (c.toNat=45))=true:=fun c=>u8_all (fun c=>isDg c=true∨c=45→blL.contains c=false∧sgL.contains c=false∧c.toNat≠34∧(isDg c||decide (c.toNat=45))=true) (by decide +kernel) c
theorem numOk_itoa {n:Int} (h0:-9223372036854775808≤n) (h1:n≤9223372036854775807):numOk (Lib.itoa n)=true:=by
 obtain ⟨hl,c,t,e,hc⟩:=numL_itoa n;have hlen:=Lib.itoa_length_le n h0 h1;obtain ⟨l,hl0⟩:∃ l,Lib.itoa n=l:=⟨_,rfl⟩;rw [hl0] at hl e hlen ⊢;obtain ⟨f1,f2,f3,f4⟩:=first_dg c hc;have hb:blS l=0:=by rw [e];unfold blS;rw [List.takeWhile_cons,f1];rfl
 have hlx:lexS l=some (4,l,l.length):=by
  rw [e] at hl ⊢;unfold lexS;simp only [f2,Bool.false_eq_true,if_false,f3,f4,if_true];rw [hl];simp
 have hn:nextS l=.ok ⟨4,l,l,[]⟩:=by
  unfold nextS;rw [hb,List.drop_zero,hlx];simp
 have hn0:nextS []=.ok ⟨0,[],[],[]⟩:=rfl;have hp:parseS l=.ok (.mk 4 l [] []):=by
  unfold parseS;rw [if_neg (by omega),hn];show ((valF (3 * l.length+4) 0 ⟨4,l,l,[]⟩).bind _)=_;rw [show 3 * l.length+4=(3 * l.length+3)+1 from rfl];unfold valF;simp only;rw [if_pos (by omega),hn0];simp [Got.bind]
 unfold numOk;rw [hp];simp [gotE,gotJ,numIs]
theorem prL_map:∀ l:List JV,prL l=l.map prJ
 | []=>by unfold prL;rfl
 | a :: l=>by unfold prL;rw [prL_map l];rfl
theorem dpL_all (left:Nat):∀ l:List JV,dpL left l=l.all (dpJ left)
 | []=>by unfold dpL;rfl
 | a :: l=>by unfold dpL;rw [dpL_all left l];rfl
theorem itT_arr:∀ (b:Bool) (l:List L8),itT false b [] l=joinT b l
 | _,[]=>rfl
 | b,t :: l=>by
   unfold itT joinT;rw [show ([]:List L8).tail=[] from rfl,itT_arr false l];simp
theorem dp_num {n:Int} (h0:-9223372036854775808≤n) (h1:n≤9223372036854775807) (left:Nat):dpJ left (numJ n)=true:=by
 unfold numJ dpJ;simp [numOk_itoa h0 h1]
theorem dp_text {s:L8} (h:Lib.validD s=true) (left:Nat):dpJ left (textJ s)=true:=by
 unfold textJ dpJ;simp [h]
theorem dp_arr {l:List JV} {left:Nat} (h:∀ x∈l,dpJ left x=true):dpJ (left+1) (arrJ l)=true:=by
 unfold arrJ dpJ;simp [dpL_all];exact h
theorem dp_obj {l:List (L8 × JV)} {left:Nat} (h:∀ x∈l,Lib.validD x.1=true∧dpJ left x.2=true):dpJ (left+1) (objJ l)=true:=by
 unfold objJ dpJ;simp [dpL_all];exact ⟨fun a b hab=>(h _ hab).1,fun a b hab=>(h _ hab).2⟩
theorem valid_asc {l:L8} (h:∀ c∈l,c.toNat<128):Lib.validD l=true:=by
 rw [Lib.validD_ascii l.length l (by simpa using h),List.drop_length];rfl
theorem valid_key {l:L8} (h:(l.all fun c=>decide (c.toNat<128))=true):Lib.validD l=true:=valid_asc fun c hc=>by simpa using List.all_eq_true.1 h c hc
theorem dp_poly {r:List Pt} (h:goodAll r=true) (left:Nat):dpJ (left+4) (polyJ r)=true:=by
 unfold polyJ;refine dp_obj fun x hx=>?_
 simp only [List.mem_cons,List.not_mem_nil,or_false] at hx;rcases hx with rfl|rfl
 ·exact ⟨valid_key (l:=kType) (by decide),dp_text (valid_key (l:=kPolygon) (by decide)) _⟩
 ·refine ⟨valid_key (l:=kCoord) (by decide),dp_arr fun y hy=>?_⟩;simp only [List.mem_cons,List.not_mem_nil,or_false] at hy;subst hy;refine dp_arr fun y hy=>?_
  obtain ⟨p,hp,rfl⟩:=List.mem_map.1 hy;have hg:p.good:=by
   rcases List.mem_append.1 hp with hp|hp
   ·exact good_mem h hp
   ·exact good_mem h (List.mem_of_mem_take hp)
  unfold Pt.good at hg;unfold ptJ;refine dp_arr fun z hz=>?_
  simp only [List.mem_cons,List.not_mem_nil,or_false] at hz;rcases hz with rfl|rfl
  ·exact dp_num (by omega) (by omega) _
  ·exact dp_num (by omega) (by omega) _
def pcFine (x:Pc):Prop:=goodAll x.ring=true∧ownerB x.owner=true∧idB x.id=true
theorem owner_asc {s:ByteArray} (h:ownerB s=true):Lib.validD s.data.toList=true:=by
 unfold ownerB at h;simp only [Bool.and_eq_true,Bool.not_eq_true',List.any_eq_false] at h;refine valid_asc fun c hc=>?_
 have:=h.2 c hc;unfold badC at this;simp at this;omega
theorem dp_feat {x:Pc} (h:pcFine x) (left:Nat):dpJ (left+6) (featJ x)=true:=by
 obtain ⟨h1,h2,h3⟩:=h;unfold idB at h3;simp only [Bool.and_eq_true,decide_eq_true_eq] at h3;unfold featJ;refine dp_obj fun y hy=>?_
 simp only [List.mem_cons,List.not_mem_nil,or_false] at hy;rcases hy with rfl|rfl|rfl|rfl
 ·exact ⟨valid_key (l:=kType) (by decide),dp_text (valid_key (l:=kFeature) (by decide)) _⟩
 ·exact ⟨valid_key (l:=kId) (by decide),dp_num (by omega) (by omega) _⟩
 ·refine ⟨valid_key (l:=kProps) (by decide),dp_obj fun z hz=>?_⟩;simp only [List.mem_cons,List.not_mem_nil,or_false] at hz;subst hz;exact ⟨valid_key (l:=kOwner) (by decide),dp_text (owner_asc h2) _⟩
 ·exact ⟨valid_key (l:=kGeom) (by decide),dp_poly h1 _⟩
theorem dp_plan {outer:List Pt} {ps:List Pc} (h:goodAll outer=true) (hp:∀ x∈ps,pcFine x):dpJ 32 (planJ outer ps)=true:=by
 unfold planJ;refine dp_obj (left:=31) fun y hy=>?_
 simp only [List.mem_cons,List.not_mem_nil,or_false] at hy;rcases hy with rfl|rfl|rfl
 ·exact ⟨valid_key (l:=kType) (by decide),dp_text (valid_key (l:=kColl) (by decide)) _⟩
 ·exact ⟨valid_key (l:=kTerr) (by decide),dp_poly h 27⟩
 ·refine ⟨valid_key (l:=kFeats) (by decide),dp_arr (left:=30) fun z hz=>?_⟩;obtain ⟨x,hx,rfl⟩:=List.mem_map.1 hz;exact dp_feat (hp x hx) 24
def featH:L8:=[123,34,116,121,112,101,34,58,34,70,101,97,116,117,114,101,34,44,34,105,100,34,58]
def featP:L8:=[44,34,112,114,111,112,101,114,116,105,101,115,34,58,123,34,111,119,110,101,114,34,58]
def featG:L8:=[125,44,34,103,101,111,109,101,116,114,121,34,58]
def featT (x:Pc):L8:=featH++(Lib.itoa x.id++(featP++(quoteQ x.owner.data.toList++(featG++(polyT x.ring++[125])))))
def planH:L8:=[123,34,116,121,112,101,34,58,34,70,101,97,116,117,114,101,67,111,108,108,101,99,116,105,111,110,34,44,34,116,101,114,114,105,116,111,114,121,34,58]
def planF:L8:=[44,34,102,101,97,116,117,114,101,115,34,58,91]
def planT (outer:List Pt) (ps:List Pc):L8:=planH++(polyT outer++(planF++(joinT true (ps.map featT)++[93,125])))
theorem pr_num (n:Int):prJ (numJ n)=Lib.itoa n:=by unfold numJ prJ;rfl
theorem pr_text (s:L8):prJ (textJ s)=quoteL s:=by unfold textJ prJ;rfl
theorem pr_arr (l:List JV):prJ (arrJ l)=91 :: (joinT true (l.map prJ)++[93]):=by
 unfold arrJ prJ;rw [prL_map,itT_arr];rfl
theorem pr_obj (l:List (L8 × JV)):prJ (objJ l)=123 :: (itT true true (l.map (·.1)) ((l.map (·.2)).map prJ)++[125]):=by
 unfold objJ prJ;rw [prL_map];rfl
theorem pr_pt (p:Pt):prJ (ptJ p)=ptT p:=by
 unfold ptJ ptT;rw [pr_arr];simp [joinT,pr_num]
theorem q_keys:quoteL kType=[34,116,121,112,101,34]∧quoteL kPolygon=[34,80,111,108,121,103,111,110,34]∧quoteL kCoord=[34,99,111,111,114,100,105,110,97,116,101,115,34] ∧
 quoteL kFeature=[34,70,101,97,116,117,114,101,34]∧quoteL kId=[34,105,100,34]∧quoteL kOwner=[34,111,119,110,101,114,34]∧quoteL kProps=[34,112,114,111,112,101,114,116,105,101,115,34] ∧
 quoteL kGeom=[34,103,101,111,109,101,116,114,121,34]∧quoteL kColl=[34,70,101,97,116,117,114,101,67,111,108,108,101,99,116,105,111,110,34]∧quoteL kTerr=[34,116,101,114,114,105,116,111,114,121,34] ∧
 quoteL kFeats=[34,102,101,97,116,117,114,101,115,34]:=by decide +kernel
theorem pr_poly (r:List Pt):prJ (polyJ r)=polyT r:=by
 obtain ⟨q1,q2,q3,_⟩:=q_keys;unfold polyJ polyT;rw [pr_obj];simp only [List.map_cons,List.map_nil,pr_text,pr_arr,itT,List.headD_cons,List.tail_cons,q1,q2,q3,List.map_map,if_true,Bool.false_eq_true,if_false];rw [show (prJ ∘ ptJ)=ptT from funext pr_pt];simp [joinT,polyH]
theorem pr_feat {x:Pc} (h:ownerB x.owner=true):prJ (featJ x)=featT x:=by
 obtain ⟨q1,q2,q3,q4,q5,q6,q7,q8,_⟩:=q_keys;have ho:∀ c∈x.owner.data.toList,badC c=false:=by
  unfold ownerB at h;simp only [Bool.and_eq_true,Bool.not_eq_true',List.any_eq_false] at h;exact fun c hc=>by simpa using h.2 c hc
 unfold featJ featT;rw [pr_obj];simp only [List.map_cons,List.map_nil,pr_text,pr_num,pr_poly,pr_obj,itT,List.headD_cons,List.tail_cons,q1,q4,q5,q6,q7,q8,if_true,Bool.false_eq_true,if_false,quoteQ_eq ho];simp [featH,featP,featG]
theorem pr_plan {outer:List Pt} {ps:List Pc} (hp:∀ x∈ps,ownerB x.owner=true):prJ (planJ outer ps)=planT outer ps:=by
 obtain ⟨q1,q2,q3,q4,q5,q6,q7,q8,q9,q10,q11⟩:=q_keys;have hf:(ps.map featJ).map prJ=ps.map featT:=by rw [List.map_map];exact List.map_congr_left fun x hx=>pr_feat (hp x hx)
 unfold planJ planT;rw [pr_obj];simp only [List.map_cons,List.map_nil,pr_text,pr_poly,pr_arr,hf,itT,List.headD_cons,List.tail_cons,q1,q9,q10,q11,if_true,Bool.false_eq_true,if_false];simp [planH,planF]
def cs5 (f:Nat→Int):Array Value:=#[.int .u32 (f 0),.int .u32 (f 1),.int .u32 (f 2),.int .u32 (f 3),.int .u32 (f 4)]
def part (f:Nat→Int):Prop:=∀ i,0≤f i∧f i<4294967296
theorem cs5_get (f:Nat→Int) {k:Nat} (hk:k<5):(cs5 f)[k]? = some (.int .u32 (f k)):=by
 match k,hk with
 | 0,_=>rfl
 | 1,_=>rfl
 | 2,_=>rfl
 | 3,_=>rfl
 | 4,_=>rfl
theorem cs5_set (f:Nat→Int) {k:Nat} (hk:k<5) (v:Int):(cs5 f).setIfInBounds k (.int .u32 v)=cs5 (fun i=>if i=k then v else f i):=by
 match k,hk with
 | 0,_=>rfl
 | 1,_=>rfl
 | 2,_=>rfl
 | 3,_=>rfl
 | 4,_=>rfl
theorem cs5_congr {f g:Nat→Int} (h:∀ i,i<5→f i=g i):cs5 f=cs5 g:=by
 unfold cs5;rw [h 0 (by omega),h 1 (by omega),h 2 (by omega),h 3 (by omega),h 4 (by omega)]
def carry (A B:Nat→Int):Nat→Int
 | 0=>0
 | k+1=>(A k+B k+carry A B k) / 4294967296
def sumP (A B:Nat→Int) (k:Nat):Int:=(A k+B k+carry A B k) % 4294967296
theorem carry_01 {A B:Nat→Int} (hA:part A) (hB:part B):∀ k,0≤carry A B k∧carry A B k≤1
 | 0=>by unfold carry;omega
 | k+1=>by
   have:=carry_01 hA hB k;have:=hA k;have:=hB k;unfold carry;omega
abbrev lblk (f:Nat→Int):Obj:=Obj.cells (cs5 f) 139
theorem Blk.at5 {W:World} {g:Nat} {t:TypeId} {f:Nat→Int} (h:Blk W g t (cs5 f)) {k:Nat} (hk:k<5):W.cell? ⟨g,k,none⟩=some (.int .u32 (f k)):=by
 rw [Blk.cell h k];exact cs5_get f hk
def PlusI (w W:World) (A B:Nat→Int) (k:Nat):Prop:=Below w.heap.size w W∧Blk W w.heap.size 139 (cs5 A)∧Blk W (w.heap.size+1) 139 (cs5 B) ∧
 Blk W (w.heap.size+1+1) 139 (cs5 (fun _=>0))∧Blk W (w.heap.size+1+1+1) 139 (cs5 (fun i=>if i<k then sumP A B i else 0))
theorem PlusI.first (w:World) (A B:Nat→Int):PlusI w ((((w.alloc (lblk A)).alloc (lblk B)).alloc (lblk (fun _=>0))).alloc (lblk (fun _=>0))) A B 0:=by
 refine ⟨by (repeat (first|exact Below.refl _ _|refine Below.drew ?_|refine Below.setCell ?_ (by simp;try omega) _|refine bal ?_ _)),(((Blk.new w _ _).alloc _).alloc _).alloc _,?_,?_,?_⟩
 ·have:=((Blk.new (w.alloc (lblk A)) 139 (cs5 B)).alloc (lblk (fun _=>0))).alloc (lblk (fun _=>0));simpa using this
 ·have:=(Blk.new ((w.alloc (lblk A)).alloc (lblk B)) 139 (cs5 (fun _=>0))).alloc (lblk (fun _=>0));simpa using this
 ·have:=Blk.new (((w.alloc (lblk A)).alloc (lblk B)).alloc (lblk (fun _=>0))) 139 (cs5 (fun _=>0));simpa using this
theorem PlusI.later {w W W':World} {A B:Nat→Int} {k:Nat} (h:PlusI w W A B k) (hb:Below W.heap.size W W'):PlusI w W' A B k:=
 ⟨btr h.1 hb,h.2.1.below hb h.2.1.lt,h.2.2.1.below hb h.2.2.1.lt,h.2.2.2.1.below hb h.2.2.2.1.lt,h.2.2.2.2.below hb h.2.2.2.2.lt⟩
theorem PlusI.step {w W:World} {A B:Nat→Int} {k:Nat} (h:PlusI w W A B k) (hk:k<5) {v:Int} (hv:v=sumP A B k):PlusI w (W.setCell ⟨w.heap.size+1+1+1,k,none⟩ (.int .u32 v)) A B (k+1):=by
 obtain ⟨h1,h2,h3,h4,h5⟩:=h;refine ⟨h1.setCell (by simp;try omega) _,h2.far (p:=⟨w.heap.size+1+1+1,k,none⟩) (by simp;try omega) _,h3.far (p:=⟨w.heap.size+1+1+1,k,none⟩) (by simp;try omega) _,h4.far (p:=⟨w.heap.size+1+1+1,k,none⟩) (by simp) _,?_⟩;have:=h5.set_ k (.int .u32 v);rw [cs5_set _ hk] at this;rw [cs5_congr (g:=fun i=>if i<k+1 then sumP A B i else 0)] at this
 ·exact this
 ·intro i _;by_cases e:i=k
  ·subst e;simp [hv]
  ·by_cases l:i<k
   ·simp [e,l,show i<k+1 by omega]
   ·simp [e,l,show ¬ i<k+1 by omega]
set_option maxRecDepth 100000 in
set_option maxHeartbeats 1000000 in
theorem plus_any (A B:Nat→Int) (w:World) (hA:part A) (hB:part B) :
 Calls Tryz.prog 104 #[.agg (cs5 A),.agg (cs5 B)] w fun e w'=>e=.returned (.agg (cs5 (sumP A B)))∧Below w.heap.size w w':=by
 have HI0:=hide (PlusI.first w A B);have HC:=hide (fun k=>carry_01 hA hB k);have HA:=hide hA;have HB:=hide hB;clear hA hB;unfold cs5
 go_enter Tryz.func104,Tryz.ntmps104
 go_wp2
 go_loopw [6,7] (fun c i wr=>∃ k:Nat,k≤5∧i=.int .i64 k∧c=.int .u64 (carry A B k)∧Hid (PlusI w wr A B k)) (fun c i _=>5 - (intOf i).toNat)
 case atStart=>exact ⟨0,by omega,rfl,rfl,HI0⟩
 case round=>
  obtain ⟨k,hk,rfl,rfl,HI⟩:=hrel;have HK:Hid (k≤5):=hide hk;by_cases hlt:k<5
  ·have c0:=(HI.out.2.1).at5 hlt;have d0:=(HI.out.2.2.1).at5 hlt;have z1:=HI.out.2.1.lt;have z2:=HI.out.2.2.1.lt;have z3:=HI.out.2.2.2.2.lt;obtain ⟨a,ha⟩:∃ a,A k=a:=⟨_,rfl⟩;obtain ⟨b,hb⟩:∃ b,B k=b:=⟨_,rfl⟩;obtain ⟨c,hc⟩:∃ c,carry A B k=c:=⟨_,rfl⟩;have a1:=HA.out k;have b1:=HB.out k;have c1:=HC.out k;have HN:=hide (show carry A B (k+1)=(a+b+c) / 4294967296 by rw [← ha,← hb,← hc];rfl);have HS:=hide (show sumP A B k=(a+b+c) % 4294967296 by rw [← ha,← hb,← hc];rfl);rw [ha] at c0 a1;rw [hb] at d0 b1;rw [hc] at c1 ⊢;obtain ⟨a1,a2⟩:=a1;obtain ⟨b1,b2⟩:=b1;obtain ⟨c1,c2⟩:=c1;have e1:IntKind.u32.wrap (a+b+c)=(a+b+c) % 4294967296:=by rw [IntKind.wrap_u32]
   clear ha hb hc hk
   go_wp2
   refine wp_region_later (by kernel_rfl) (by kernel_rfl) ?_
   repeat (first|go_big_quiet_step (fail)|quiet_step (fail))
   refine wpQuiet_nil ?_;intro _ hw';obtain ⟨L,hL⟩:=hw';subst hL;have HI2:=hide (HI.out.later L.h);have z4:=HI2.out.2.2.2.2.lt;have k4:=HI2.out.2.2.2.2.at5 hlt;have q4:=HI2.out.2.2.2.2.frozen;generalize L.v=w2 at *
   go_wp2
   go_roundw
   case rel=>exact ⟨k+1,by omega,by go_num,by rw [HN.out],hide (HI2.out.step hlt HS.out.symm)⟩
   case measure=>simp [intOf];omega
  ·have hk5:k=5:=by omega
   subst hk5;have HF:=hide (show Blk wr (w.heap.size+1+1+1) 139 (cs5 (sumP A B)) by
    have:=HI.out.2.2.2.2;rw [cs5_congr (g:=sumP A B) (fun i hi=>by simp [hi])] at this;exact this)
   have k4:=HF.out.cell;have k3:=HI.out.2.2.2.1.cell;have q3:=HI.out.2.2.2.1.frozen;have z3:=HI.out.2.2.2.1.lt;unfold cs5 at k4 k3
   go_wp2
   refine bodyPost_ret (v:=.agg (cs5 (sumP A B))) (by simp [results,Tryz.results104,go_sem,k3,cs5];done) rfl ⟨rfl,?_⟩;exact ((((HI.out.1.setCell (by simp;try omega) _).setCell (by simp;try omega) _).setCell (by simp;try omega) _).setCell (by simp;try omega) _).setCell (by simp;try omega) _
def quo (n:Int):Nat→Int
 | 0=>n
 | k+1=>quo n k / 4294967296
def dg (n:Int) (k:Nat):Int:=quo n k % 4294967296
theorem dg_part (n:Int):part (dg n):=fun i=>by unfold dg;omega
theorem quo_add (x y:Int):∀ k,quo (x+y) k=quo x k+quo y k+carry (dg x) (dg y) k
 | 0=>by simp [quo,carry]
 | k+1=>by
   have:=quo_add x y k;simp only [quo,carry,dg] at *;rw [this];omega
theorem sum_dg (x y:Int) (k:Nat):sumP (dg x) (dg y) k=dg (x+y) k:=by
 unfold sumP dg;rw [quo_add];unfold dg;omega
theorem quo_not (n:Int):∀ k,quo (-n - 1) k = - quo n k - 1
 | 0=>rfl
 | k+1=>by simp only [quo];rw [quo_not n k];omega
theorem dg_not (n:Int) (k:Nat):dg (-n - 1) k=4294967295 - dg n k:=by unfold dg;rw [quo_not];omega
theorem limbs_law {x:I2} (hx:x.ok) {p:Int} (hp:IntKind.u64.wrap x.hi=p) :
 x.lo % 4294967296=dg x.num 0∧x.lo / 4294967296 % 4294967296=dg x.num 1∧p % 4294967296=dg x.num 2∧p / 4294967296 % 4294967296=dg x.num 3∧(if x.hi<0 then 4294967295 else 0)=dg x.num 4:=by
 rw [IntKind.wrap_u64] at hp;obtain ⟨⟨h1,h2⟩,h3,h4⟩:=hx;have q1:x.num / 4294967296=x.hi * 4294967296+x.lo / 4294967296:=by unfold I2.num;omega
 have q2:x.num / 4294967296 / 4294967296=x.hi:=by rw [q1];omega
 unfold dg;simp only [quo];rw [q2,q1];refine ⟨by unfold I2.num;omega,by omega,by omega,by omega,?_⟩;split <;> omega
set_option maxRecDepth 100000 in
set_option maxHeartbeats 1000000 in
theorem limbs_any (x:I2) (w:World) (hx:x.ok) :
 Calls Tryz.prog 105 #[.agg #[.int .i64 x.hi,.int .u64 x.lo]] w fun e w'=>e=.returned (.agg (cs5 (dg x.num)))∧Below w.heap.size w w':=by
 obtain ⟨p,hp⟩:∃ p,IntKind.u64.wrap x.hi=p:=⟨_,rfl⟩;have HL:=hide (limbs_law hx hp);have HC:Hid (cs5 (dg x.num)=#[.int .u32 (x.lo % 4294967296),.int .u32 (x.lo / 4294967296 % 4294967296),.int .u32 (p % 4294967296),.int .u32 (p / 4294967296 % 4294967296),.int .u32 (if x.hi<0 then 4294967295 else 0)]):=by
  obtain ⟨e0,e1,e2,e3,e4⟩:=HL.out;unfold cs5;rw [e0,e1,e2,e3,e4];exact hide rfl
 clear hx;cases d1:decide (x.hi<0)
 ·have HD:=hide (HC.out.trans (by rw [if_neg (of_decide_eq_false d1)]))
  go_enter Tryz.func105,Tryz.ntmps105
  go_wp2_with fail
  refine bodyPost_ret (v:=.agg (cs5 (dg x.num))) (by rw [HD.out];simp [results,Tryz.results105,go_sem];done) rfl ⟨rfl,by (repeat (first|exact Below.refl _ _|refine Below.drew ?_|refine Below.setCell ?_ (by simp;try omega) _|refine bal ?_ _))⟩
 ·have HD:=hide (HC.out.trans (by rw [if_pos (of_decide_eq_true d1)]))
  go_enter Tryz.func105,Tryz.ntmps105
  go_wp2_with fail
  refine bodyPost_ret (v:=.agg (cs5 (dg x.num))) (by rw [HD.out];simp [results,Tryz.results105,go_sem];done) rfl ⟨rfl,by (repeat (first|exact Below.refl _ _|refine Below.drew ?_|refine Below.setCell ?_ (by simp;try omega) _|refine bal ?_ _))⟩
set_option maxHeartbeats 400000 in
theorem rof_any (n:Int) (w:World) (h:i64ok n) :
 Calls Tryz.prog 133 #[.int .i64 n] w fun e w'=>e=.returned (.agg #[.int .i64 (two n).hi,.int .u64 (two n).lo])∧Below w.heap.size w w':=by
 unfold i64ok at h;obtain ⟨p,hp⟩:∃ p,IntKind.u64.wrap n=p:=⟨_,rfl⟩;have HP:=hide (hp.symm.trans (IntKind.wrap_u64 n));have H:=hide h;clear h;cases d1:decide (n<0)
 ·have E1:=hide (of_decide_eq_false d1)
  go_enter Tryz.func133,Tryz.ntmps133
  go_wp2_with fail
  refine bodyPost_ret (v:=.agg #[.int .i64 0,.int .u64 p]) (by simp [results,Tryz.results133,go_sem];done) rfl ⟨ret_i2 ?_ ?_,by (repeat (first|exact Below.refl _ _|refine Below.drew ?_|refine Below.setCell ?_ (by simp;try omega) _|refine bal ?_ _))⟩
  ·have:=E1.out;have:=H.out;unfold two;simp only;omega
  ·have:=HP.out;unfold two;simp only;omega
 ·have E1:=hide (of_decide_eq_true d1)
  go_enter Tryz.func133,Tryz.ntmps133
  go_wp2_with fail
  refine bodyPost_ret (v:=.agg #[.int .i64 (-1),.int .u64 p]) (by simp [results,Tryz.results133,go_sem];done) rfl ⟨ret_i2 ?_ ?_,by (repeat (first|exact Below.refl _ _|refine Below.drew ?_|refine Below.setCell ?_ (by simp;try omega) _|refine bal ?_ _))⟩
  ·have:=E1.out;have:=H.out;unfold two;simp only;omega
  ·have:=HP.out;unfold two;simp only;omega
theorem not_nat {a:Nat} (ha:a<4294967296):4294967295 ^^^ a=4294967295 - a:=by
 apply Nat.eq_of_testBit_eq;intro i;rw [Nat.testBit_xor,show 4294967295 - a=2 ^ 32 - (a+1) by omega,Nat.testBit_two_pow_sub_succ (show a<2 ^ 32 by omega),show 4294967295=2 ^ 32 - 1 by rfl,Nat.testBit_two_pow_sub_one];by_cases h:i<32
 ·simp [h]
 ·have:a.testBit i=false:=Nat.testBit_lt_two_pow (nLl ha (by rw [show 4294967296=2 ^ 32 by rfl];exact Nat.pow_le_pow_right (by omega) (by omega)));simp [h,this]
theorem not_u32 {a:Int} (h0:0≤a) (h1:a<4294967296):bits BinOp.xor IntKind.u32 (if IntKind.u32.signed=true then -1 else IntKind.u32.max) a=4294967295 - a:=by
 obtain ⟨n,rfl⟩:=Int.eq_ofNat_of_zero_le h0;have hn:n<4294967296:=by omega
 have e:=not_nat hn;have h1:(BitVec.ofInt 32 (4294967295:Int)).toNat=4294967295:=by decide
 have h2:(BitVec.ofInt 32 (n:Int)).toNat=n:=by rw [BitVec.ofInt_natCast,BitVec.toNat_ofNat];exact Nat.mod_eq_of_lt (by omega)
 show IntKind.u32.wrap ((BitVec.ofInt 32 (4294967295:Int) ^^^ BitVec.ofInt 32 (n:Int)).toNat:Int)=_;rw [BitVec.toNat_xor,h1,h2,e,IntKind.wrap_u32];omega
def notP (A:Nat→Int) (i:Nat):Int:=4294967295 - A i
def oneP (i:Nat):Int:=if i=0 then 1 else 0
def MinI (w W:World) (A:Nat→Int) (k:Nat):Prop:=Below w.heap.size w W∧Blk W w.heap.size 139 (cs5 (fun i=>if i<k then notP A i else A i)) ∧
 Blk W (w.heap.size+1) 139 (cs5 (fun _=>0))
theorem MinI.first (w:World) (A:Nat→Int):MinI w ((w.alloc (lblk A)).alloc (lblk (fun _=>0))) A 0:=by
 refine ⟨by (repeat (first|exact Below.refl _ _|refine Below.drew ?_|refine Below.setCell ?_ (by simp;try omega) _|refine bal ?_ _)),(Blk.new w _ (cs5 A)).alloc _,?_⟩;have:=Blk.new (w.alloc (lblk A)) 139 (cs5 (fun _=>0));simpa using this
theorem MinI.step {w W:World} {A:Nat→Int} {k:Nat} (h:MinI w W A k) (hk:k<5) {v:Int} (hv:v=notP A k):MinI w (W.setCell ⟨w.heap.size,k,none⟩ (.int .u32 v)) A (k+1):=by
 obtain ⟨h1,h2,h3⟩:=h;refine ⟨h1.setCell (by simp) _,?_,h3.far (p:=⟨w.heap.size,k,none⟩) (by simp) _⟩;have:=h2.set_ k (.int .u32 v);rw [cs5_set _ hk] at this;rw [cs5_congr (g:=fun i=>if i<k+1 then notP A i else A i)] at this
 ·exact this
 ·intro i _;by_cases e:i=k
  ·subst e;simp [hv]
  ·by_cases l:i<k
   ·simp [e,l,show i<k+1 by omega]
   ·simp [e,l,show ¬ i<k+1 by omega]
set_option maxRecDepth 100000 in
set_option maxHeartbeats 1000000 in
theorem minus_any (n:Int) (w:World) :
 Calls Tryz.prog 132 #[.agg (cs5 (dg n))] w fun e w'=>e=.returned (.agg (cs5 (dg (-n))))∧Below w.heap.size w w':=by
 have HI0:=hide (MinI.first w (dg n));have HE:=hide (show cs5 (sumP (dg (-n - 1)) (dg 1))=cs5 (dg (-n)) from cs5_congr fun i _=>by rw [sum_dg];congr 1;omega);have HA:=hide (dg_part n);unfold cs5
 go_enter Tryz.func132,Tryz.ntmps132
 go_wp2
 go_loopw [3] (fun i wr=>∃ k:Nat,k≤5∧i=.int .i64 k∧Hid (MinI w wr (dg n) k)) (fun i _=>5 - (intOf i).toNat)
 case atStart=>exact ⟨0,by omega,rfl,HI0⟩
 case round=>
  obtain ⟨k,hk,rfl,HI⟩:=hrel;by_cases hlt:k<5
  ·have c0:=(HI.out.2.1).at5 hlt;simp only [Nat.lt_irrefl,if_false] at c0;have z1:=HI.out.2.1.lt;have q1:=HI.out.2.1.frozen;obtain ⟨a,ha⟩:∃ a,dg n k=a:=⟨_,rfl⟩;have a1:=HA.out k;have HN:=hide (show notP (dg n) k=4294967295 - a by rw [← ha];rfl);rw [ha] at c0 a1;obtain ⟨a1,a2⟩:=a1;have HB:=hide (not_u32 a1 a2);clear ha hk
   go_wp2
   go_roundw
   case rel=>exact ⟨k+1,by omega,by go_num,hide (HI.out.step hlt (HB.out.trans HN.out.symm))⟩
   case measure=>simp [intOf];omega
  ·have hk5:k=5:=by omega
   subst hk5;have HF:=hide (show Blk wr w.heap.size 139 (cs5 (dg (-n - 1))) by
    have:=HI.out.2.1;rw [cs5_congr (g:=dg (-n - 1)) (fun i hi=>by simp only [hi,if_true];rw [dg_not];rfl)] at this;exact this)
   have k4:=HF.out.cell;have k3:=HI.out.2.2.cell;have q3:=HI.out.2.2.frozen;have z3:=HI.out.2.2.lt;unfold cs5 at k4 k3;go_wp2_with fail
   refine (plus_any (dg (-n - 1)) (dg 1) _ (dg_part _) (dg_part _)).mono ?_;rintro e w2 ⟨rfl,hb2⟩;rw [HE.out];have KB:=hide (HI.out.2.2.below hb2 HI.out.2.2.lt);have HB2:=hide (btr HI.out.1 hb2);clear hb2 k3 k4 q3 z3;have k3:=KB.out.cell;have q3:=KB.out.frozen;have z3:=KB.out.lt;unfold cs5 at k3 ⊢;go_wp2_with fail
   refine bodyPost_ret (v:=.agg (cs5 (dg (-n)))) (by simp [results,Tryz.results132,go_sem,k3,cs5];done) rfl ⟨rfl,?_⟩;exact ((((HB2.out.setCell (by simp;try omega) _).setCell (by simp;try omega) _).setCell (by simp;try omega) _).setCell (by simp;try omega) _).setCell (by simp;try omega) _
theorem or_add {a b:Nat} (ha:a<4294967296) (hb:b<4294967296):a * 4294967296 ||| b=a * 4294967296+b:=by
 have:=Nat.two_pow_add_eq_or_of_lt (i:=32) (show b<2 ^ 32 by omega) a;rw [show 2 ^ 32 * a=a * 4294967296 by rw [Nat.mul_comm]] at this;exact this.symm
theorem or_u64 {a b:Int} (a0:0≤a) (a1:a<4294967296) (b0:0≤b) (b1:b<4294967296):bits BinOp.or IntKind.u64 (a * 4294967296) b=a * 4294967296+b:=by
 obtain ⟨m,rfl⟩:=Int.eq_ofNat_of_zero_le a0;obtain ⟨n,rfl⟩:=Int.eq_ofNat_of_zero_le b0;have hm:m<4294967296:=by omega
 have hn:n<4294967296:=by omega
 rw [show (m:Int) * 4294967296=((m * 4294967296:Nat):Int) by omega,bits_or_u64_nat _ _ (by omega) (by omega),or_add hm hn];omega
def wv (n:Int):I2:=⟨(n / 18446744073709551616+9223372036854775808) % 18446744073709551616 - 9223372036854775808,n % 18446744073709551616⟩
theorem wv_two {n:Int} (h:inr n):wv n=two n:=by
 unfold inr at h;unfold wv two;rw [I2.mk.injEq];omega
theorem quo_bd {n:Int} (h:-730750818665451459101842416358141509827966271488≤n∧n<730750818665451459101842416358141509827966271488) :
 (-9223372036854775808≤quo n 3∧quo n 3<9223372036854775808)∧(inr n ↔ -2147483648≤quo n 3∧quo n 3<2147483648):=by
 simp only [quo];unfold inr;have e:n / 4294967296 / 4294967296 / 4294967296=n / 79228162514264337593543950336:=by omega
 rw [e];omega
theorem whole_law {n:Int} (h:-730750818665451459101842416358141509827966271488≤n∧n<730750818665451459101842416358141509827966271488) :
 (2147483648≤dg n 3∧(dg n 4=4294967295 ↔ inr n))∨(¬ 2147483648≤dg n 3∧(dg n 4=0 ↔ inr n)):=by
 obtain ⟨h1,h2⟩:=quo_bd h;rw [h2];unfold dg;have e:quo n 4=quo n 3 / 4294967296:=rfl;rw [e];omega
theorem wv_law (n:Int) {H:Int} (hH:IntKind.i64.wrap (dg n 3 * 4294967296+dg n 2)=H):(wv n).hi=H∧(wv n).lo=dg n 1 * 4294967296+dg n 0:=by
 rw [IntKind.wrap_i64] at hH;unfold wv;unfold dg at *;have e0:quo n 0=n:=rfl;have e1:quo n 1=n / 4294967296:=rfl;have e2:quo n 2=n / 4294967296 / 4294967296:=rfl;have e3:quo n 3=n / 4294967296 / 4294967296 / 4294967296:=rfl;rw [e0,e1];rw [e2,e3] at hH;have e4:n / 18446744073709551616=n / 4294967296 / 4294967296:=by omega
 simp only;rw [e4];omega
theorem top_ways {a n:Int} {t:Int} (h:a=t ↔ inr n):(a == t)=decide (inr n):=by rw [Bool.eq_iff_iff,beq_iff_eq,decide_eq_true_iff];exact h
set_option maxRecDepth 100000 in
set_option maxHeartbeats 1000000 in
theorem whole_any (n:Int) (w:World) (h:-730750818665451459101842416358141509827966271488≤n∧n<730750818665451459101842416358141509827966271488) :
 Calls Tryz.prog 103 #[.agg (cs5 (dg n))] w fun e w'=>e=.returned (.tuple #[.agg #[.int .i64 (wv n).hi,.int .u64 (wv n).lo],.bool (decide (inr n))])∧Below w.heap.size w w':=by
 obtain ⟨H,hH⟩:∃ H,IntKind.i64.wrap (dg n 3 * 4294967296+dg n 2)=H:=⟨_,rfl⟩;have HV:=hide (wv_law n hH);have HW:=whole_law h;have r0:=dg_part n 0;have r1:=dg_part n 1;have r2:=dg_part n 2;have r3:=dg_part n 3;have r4:=dg_part n 4;unfold cs5;obtain ⟨a0,h0⟩:∃ a,dg n 0=a:=⟨_,rfl⟩;obtain ⟨a1,h1⟩:∃ a,dg n 1=a:=⟨_,rfl⟩;obtain ⟨a2,h2⟩:∃ a,dg n 2=a:=⟨_,rfl⟩;obtain ⟨a3,h3⟩:∃ a,dg n 3=a:=⟨_,rfl⟩;obtain ⟨a4,h4⟩:∃ a,dg n 4=a:=⟨_,rfl⟩;rw [h0] at r0;rw [h1] at r1;rw [h2] at r2;rw [h3] at r3;rw [h4] at r4;rw [h0,h1,h2,h3,h4];rw [h3,h2] at hH;rw [h1,h0] at HV;rw [h3,h4] at HW;clear h0 h1 h2 h3 h4;have HI0:=hide (((Bs.nil w).al #[.int .u32 a0,.int .u32 a1,.int .u32 a2,.int .u32 a3,.int .u32 a4] 139).al #[Value.int IntKind.i64 0,Value.int IntKind.u64 0] 80);simp only [heap_al] at HI0;have e1:=or_u64 r3.1 r3.2 r2.1 r2.2;have e2:=or_u64 r1.1 r1.2 r0.1 r0.2;obtain ⟨r00,r01⟩:=r0;obtain ⟨r10,r11⟩:=r1;obtain ⟨r20,r21⟩:=r2;obtain ⟨r30,r31⟩:=r3;obtain ⟨r40,r41⟩:=r4;have s1:IntKind.u64.wrap (a3 * 4294967296)=a3 * 4294967296:=by rw [IntKind.wrap_u64];omega
 have s2:IntKind.u64.wrap (a1 * 4294967296)=a1 * 4294967296:=by rw [IntKind.wrap_u64];omega
 have u0:IntKind.u64.wrap a0=a0:=by rw [IntKind.wrap_u64];omega
 have u1:IntKind.u64.wrap a1=a1:=by rw [IntKind.wrap_u64];omega
 have u2:IntKind.u64.wrap a2=a2:=by rw [IntKind.wrap_u64];omega
 have u3:IntKind.u64.wrap a3=a3:=by rw [IntKind.wrap_u64];omega
 rcases HW with ⟨d,hd⟩|⟨d,hd⟩
 ·have HT:=hide (top_ways hd);have d1:decide (2147483648≤a3)=true:=by simpa using d
  clear hd d
  go_enter Tryz.func103,Tryz.ntmps103
  go_wp2_with fail
  obtain ⟨W,hW,HB,HI⟩:∃ W,((w.alloc (Obj.cells #[.int .u32 a0,.int .u32 a1,.int .u32 a2,.int .u32 a3,.int .u32 a4] 139)).alloc (Obj.cells #[Value.int IntKind.i64 0,Value.int IntKind.u64 0] 80))=W∧Hid (Below w.heap.size w W)∧Hid (Bs W [(w.heap.size+1,80,#[Value.int IntKind.i64 0,Value.int IntKind.u64 0]),(w.heap.size,139,#[.int .u32 a0,.int .u32 a1,.int .u32 a2,.int .u32 a3,.int .u32 a4])]):=⟨_,rfl,hide (by (repeat (first|exact Below.refl _ _|refine Below.drew ?_|refine Below.setCell ?_ (by simp;try omega) _|refine bal ?_ _))),HI0⟩;rw [hW];clear hW HI0;obtain ⟨k1,q1,z1⟩:=HI.out.get w.heap.size 139 #[.int .u32 a0,.int .u32 a1,.int .u32 a2,.int .u32 a3,.int .u32 a4] (by simp);obtain ⟨k2,q2,z2⟩:=HI.out.get (w.heap.size+1) 80 #[Value.int IntKind.i64 0,Value.int IntKind.u64 0] (by simp);have c0:=k1 0;have c1:=k1 1;have c2:=k1 2;have c3:=k1 3;have c4:=k1 4;simp at c0 c1 c2 c3 c4;clear k1 q1
  go_region_held3 (fun w'=>w'.cell? ⟨w.heap.size,0,none⟩=some (.int .u32 a0)∧w'.cell? ⟨w.heap.size,1,none⟩=some (.int .u32 a1)∧w'.cell? ⟨w.heap.size,2,none⟩=some (.int .u32 a2)∧w'.cell? ⟨w.heap.size,3,none⟩=some (.int .u32 a3)∧w'.cell? ⟨w.heap.size,4,none⟩=some (.int .u32 a4))
   (first|go_keep)
   (first|fail)
  go_wp2
  refine bodyPost_ret (v:=.tuple #[.agg #[.int .i64 H,.int .u64 (a1 * 4294967296+a0)],.bool (a4 == 4294967295)]) (by simp (maxDischargeDepth:=9) [results,Tryz.results103,go_sem,k2];done) rfl ⟨?_,(by repeat (first|exact HB.out|refine Below.drew ?_|refine Below.setCell ?_ (by simp;try omega) _|refine bal ?_ _))⟩;rw [HV.out.1,HV.out.2,HT.out]
 ·have HT:=hide (top_ways hd);have d1:decide (2147483648≤a3)=false:=by simpa using d
  clear hd d
  go_enter Tryz.func103,Tryz.ntmps103
  go_wp2_with fail
  obtain ⟨W,hW,HB,HI⟩:∃ W,((w.alloc (Obj.cells #[.int .u32 a0,.int .u32 a1,.int .u32 a2,.int .u32 a3,.int .u32 a4] 139)).alloc (Obj.cells #[Value.int IntKind.i64 0,Value.int IntKind.u64 0] 80))=W∧Hid (Below w.heap.size w W)∧Hid (Bs W [(w.heap.size+1,80,#[Value.int IntKind.i64 0,Value.int IntKind.u64 0]),(w.heap.size,139,#[.int .u32 a0,.int .u32 a1,.int .u32 a2,.int .u32 a3,.int .u32 a4])]):=⟨_,rfl,hide (by (repeat (first|exact Below.refl _ _|refine Below.drew ?_|refine Below.setCell ?_ (by simp;try omega) _|refine bal ?_ _))),HI0⟩;rw [hW];clear hW HI0;obtain ⟨k1,q1,z1⟩:=HI.out.get w.heap.size 139 #[.int .u32 a0,.int .u32 a1,.int .u32 a2,.int .u32 a3,.int .u32 a4] (by simp);obtain ⟨k2,q2,z2⟩:=HI.out.get (w.heap.size+1) 80 #[Value.int IntKind.i64 0,Value.int IntKind.u64 0] (by simp);have c0:=k1 0;have c1:=k1 1;have c2:=k1 2;have c3:=k1 3;have c4:=k1 4;simp at c0 c1 c2 c3 c4;clear k1 q1
  go_region_held3 (fun w'=>w'.cell? ⟨w.heap.size,0,none⟩=some (.int .u32 a0)∧w'.cell? ⟨w.heap.size,1,none⟩=some (.int .u32 a1)∧w'.cell? ⟨w.heap.size,2,none⟩=some (.int .u32 a2)∧w'.cell? ⟨w.heap.size,3,none⟩=some (.int .u32 a3)∧w'.cell? ⟨w.heap.size,4,none⟩=some (.int .u32 a4))
   (first|go_keep)
   (first|fail)
  go_wp2
  refine bodyPost_ret (v:=.tuple #[.agg #[.int .i64 H,.int .u64 (a1 * 4294967296+a0)],.bool (a4 == 0)]) (by simp (maxDischargeDepth:=9) [results,Tryz.results103,go_sem,k2];done) rfl ⟨?_,(by repeat (first|exact HB.out|refine Below.drew ?_|refine Below.setCell ?_ (by simp;try omega) _|refine bal ?_ _))⟩;rw [HV.out.1,HV.out.2,HT.out]
end Go.Proofs.YtacinobmcgcccaaGreatDoor
