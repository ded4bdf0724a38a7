/- Edges in order: the comparer of clean, the sort. -/
import Derived.Test.YtacinobmcgcccaaGreatDoorL12
import Derived.Laws.IdiomCopy
import Derived.Lib.SliceRun
import Derived.Maps.OwnIn
import Derived.Maps.RangeWalk
import Derived.DeepKeys4
set_option linter.unusedSimpArgs false
set_option linter.unusedVariables false
namespace Go.Proofs.YtacinobmcgcccaaGreatDoor
open Go.RowKit Go.Shelf Go.Sort
theorem Gro.below {w w':World} (h:Gro w w'):Below w.heap.size w w':=by
 obtain ⟨q,os,rfl⟩:=h;exact ⟨rfl,rfl,rfl,by simp [grow],fun j hj=>by simp [grow,Array.getElem?_append,hj]⟩
def Eg.enc (e:Eg):List Value:=[.int .i64 e.a.x,.int .i64 e.a.y,.int .i64 e.b.x,.int .i64 e.b.y]
theorem Eg.enc_len (e:Eg):e.enc.length=4:=rfl
instance:Inhabited Eg:=⟨⟨⟨0,0⟩,⟨0,0⟩⟩⟩
def cmpE (e f:Eg):Int:=orOf (orderV e.a f.a) (orderV e.b f.b)
set_option maxRecDepth 100000 in
set_option maxHeartbeats 4000000 in
theorem clean1_gro (e f:Eg) (w:World) :
 Calls Tryz.prog 117 #[.agg #[.int .i64 e.a.x,.int .i64 e.a.y,.int .i64 e.b.x,.int .i64 e.b.y],.agg #[.int .i64 f.a.x,.int .i64 f.a.y,.int .i64 f.b.x,.int .i64 f.b.y]] w fun r w'=>r=.returned (.int .i64 (cmpE e f))∧Gro w w':=by
 obtain ⟨w2,hw2⟩:∃ q,(w.alloc (.cells #[.int .i64 e.a.x,.int .i64 e.a.y,.int .i64 e.b.x,.int .i64 e.b.y] TEg)).alloc (.cells #[.int .i64 f.a.x,.int .i64 f.a.y,.int .i64 f.b.x,.int .i64 f.b.y] TEg)=q:=⟨_,rfl⟩;have hbs:Bs w2 [(w.heap.size+1,TEg,#[.int .i64 f.a.x,.int .i64 f.a.y,.int .i64 f.b.x,.int .i64 f.b.y]),(w.heap.size,TEg,#[.int .i64 e.a.x,.int .i64 e.a.y,.int .i64 e.b.x,.int .i64 e.b.y])]:=by
  have h:=((Bs.nil w).al #[.int .i64 e.a.x,.int .i64 e.a.y,.int .i64 e.b.x,.int .i64 e.b.y] TEg).al #[.int .i64 f.a.x,.int .i64 f.a.y,.int .i64 f.b.x,.int .i64 f.b.y] TEg;rw [← hw2];simpa using h
 have HG2:=hide (show Gro w w2 from hw2 ▸ (Gro.alloc _ _).trans (Gro.alloc _ _));have k1:=hbs _ (List.mem_of_getElem? (i:=0) rfl);have k2:=hbs _ (List.mem_of_getElem? (i:=1) rfl);have HF:=hide (show ∀ w',Gro w2 w'→Blk w' (w.heap.size+1) TEg #[.int .i64 f.a.x,.int .i64 f.a.y,.int .i64 f.b.x,.int .i64 f.b.y] from fun w' h=>k1.below h.below k1.lt);have HE:=hide (show ∀ w',Gro w2 w'→Blk w' w.heap.size TEg #[.int .i64 e.a.x,.int .i64 e.a.y,.int .i64 e.b.x,.int .i64 e.b.y] from fun w' h=>k2.below h.below k2.lt);have HW2:=hide hw2;clear hw2 hbs k1 k2
 go_enter Tryz.func117,Tryz.ntmps117
 go_upto_region 1 with fail
 rw [HW2.out];refine wp_region_dag (by kernel_rfl) (by kernel_rfl) 17 0
  [⟨some 5,[0],[],[],[],[],fun _ _ v _=>v=.pointer (some ⟨w.heap.size,0,none⟩)⟩,
   ⟨some 6,[0],[],[],[0],[],fun _ _ v _=>v=.agg #[.int .i64 e.a.x,.int .i64 e.a.y]⟩,
   ⟨some 7,[0],[],[],[],[],fun _ _ v _=>v=.pointer (some ⟨w.heap.size+1,0,none⟩)⟩,
   ⟨some 8,[0],[],[],[2],[],fun _ _ v _=>v=.agg #[.int .i64 f.a.x,.int .i64 f.a.y]⟩,
   ⟨some 9,[0],[],[],[1,3],[],fun _ _ v _=>v=.int .i64 (orderV e.a f.a)⟩,
   ⟨some 10,[0],[],[],[],[],fun _ _ v _=>v=.pointer (some ⟨w.heap.size,2,none⟩)⟩,
   ⟨some 11,[0],[],[],[5],[],fun _ _ v _=>v=.agg #[.int .i64 e.b.x,.int .i64 e.b.y]⟩,
   ⟨some 12,[0],[],[],[],[],fun _ _ v _=>v=.pointer (some ⟨w.heap.size+1,2,none⟩)⟩,
   ⟨some 13,[0],[],[],[7],[],fun _ _ v _=>v=.agg #[.int .i64 f.b.x,.int .i64 f.b.y]⟩,
   ⟨some 14,[0],[],[],[6,8],[],fun _ _ v _=>v=.int .i64 (orderV e.b f.b)⟩,
   ⟨some 15,[0],[],[],[4,9],[],fun st a v w'=>isTwo (orderV e.a f.a) (orderV e.b f.b) v w'⟩,
   ⟨some 16,[0],[],[],[10],[],fun _ _ v _=>v=.int .i64 (cmpE e f)⟩,
   ⟨some 4,[0],[],[],[11],[],fun _ _ v _=>v=.int .i64 (cmpE e f)⟩] (fun _ w'=>Gro w2 w') (fun _ _ _ w w'=>Gro w w') (fun _ w w'=>Gro w w') ?gu ?ru ?put [5,6,7,8,9,10,11,12,13,14,15,16,4] rfl (by kernel_rfl) rfl ?g0 ?keep ?steps ?fin
 case ru=>
  intro e he s a v w w' hu hv;simp only [List.mem_cons,List.not_mem_nil,or_false] at he;rcases he with rfl|rfl|rfl|rfl|rfl|rfl|rfl|rfl|rfl|rfl|rfl|rfl|rfl
  all_goals first|exact hv|exact hv.mono hu.below
 case put=>
  intro e he s a d u v w hnd hv;simp only [List.mem_cons,List.not_mem_nil,or_false] at he;rcases he with rfl|rfl|rfl|rfl|rfl|rfl|rfl|rfl|rfl|rfl|rfl|rfl|rfl
  all_goals first|exact hv
 case keep=>
  intro e he s s' a v w w' hsl hm ht hv;simp only [List.mem_cons,List.not_mem_nil,or_false] at he;rcases he with rfl|rfl|rfl|rfl|rfl|rfl|rfl|rfl|rfl|rfl|rfl|rfl|rfl
  all_goals first|exact hv|exact hv.mono ht.below
 case steps=>
  refine ⟨?_,?_,?_,?_,?_,?_,?_,?_,?_,?_,?_,?_,?_,trivial⟩
  ·intro st hst ac w3 hg hG hd K hK;dsimp only at hst hG hK;have k2:=hg.kp 2 (by simp);(try simp [Act.eval] at k2);go_simp;exact hK _ _ (Gro.refl _) rfl
  ·intro st hst ac w3 hg hG hd K hK;dsimp only at hst hG hK;have kk:=HE.out _ hG;have k0:=kk.cell;have zz:=kk.lt;clear hG kk;have f0:=hd 0 (by simp) _ rfl _ rfl;(try simp [Act.eval] at f0);go_simp;exact hK _ _ (Gro.refl _) rfl
  ·intro st hst ac w3 hg hG hd K hK;dsimp only at hst hG hK;have k3:=hg.kp 3 (by simp);(try simp [Act.eval] at k3);go_simp;exact hK _ _ (Gro.refl _) rfl
  ·intro st hst ac w3 hg hG hd K hK;dsimp only at hst hG hK;have kk:=HF.out _ hG;have k0:=kk.cell;have zz:=kk.lt;clear hG kk;have f2:=hd 2 (by simp) _ rfl _ rfl;(try simp [Act.eval] at f2);go_simp;exact hK _ _ (Gro.refl _) rfl
  ·intro st hst ac w3 hg hG hd K hK;dsimp only at hst hG hK;have f1:=hd 1 (by simp) _ rfl _ rfl;have f3:=hd 3 (by simp) _ rfl _ rfl;clear hG;simp [Act.eval] at f1 f3;go_simp;(refine (order_gro e.a f.a w3).mono ?_);rintro r w4 ⟨rfl,hg⟩;exact hK _ _ hg rfl
  ·intro st hst ac w3 hg hG hd K hK;dsimp only at hst hG hK;have k2:=hg.kp 2 (by simp);(try simp [Act.eval] at k2);go_simp;exact hK _ _ (Gro.refl _) rfl
  ·intro st hst ac w3 hg hG hd K hK;dsimp only at hst hG hK;have kk:=HE.out _ hG;have k0:=kk.cell;have zz:=kk.lt;clear hG kk;have f5:=hd 5 (by simp) _ rfl _ rfl;(try simp [Act.eval] at f5);go_simp;exact hK _ _ (Gro.refl _) rfl
  ·intro st hst ac w3 hg hG hd K hK;dsimp only at hst hG hK;have k3:=hg.kp 3 (by simp);(try simp [Act.eval] at k3);go_simp;exact hK _ _ (Gro.refl _) rfl
  ·intro st hst ac w3 hg hG hd K hK;dsimp only at hst hG hK;have kk:=HF.out _ hG;have k0:=kk.cell;have zz:=kk.lt;clear hG kk;have f7:=hd 7 (by simp) _ rfl _ rfl;(try simp [Act.eval] at f7);go_simp;exact hK _ _ (Gro.refl _) rfl
  ·intro st hst ac w3 hg hG hd K hK;dsimp only at hst hG hK;have f1:=hd 6 (by simp) _ rfl _ rfl;have f3:=hd 8 (by simp) _ rfl _ rfl;clear hG;simp [Act.eval] at f1 f3;go_simp;(refine (order_gro e.b f.b w3).mono ?_);rintro r w4 ⟨rfl,hg⟩;exact hK _ _ hg rfl
  ·intro st hst ac w3 hg hG hd K hK;dsimp only at hst hG hK;have f1:=hd 4 (by simp) _ rfl _ rfl;have f3:=hd 9 (by simp) _ rfl _ rfl;clear hG;simp [Act.eval] at f1 f3;go_simp;exact hK _ _ (Gro.alloc _ _) ⟨w3.heap.size,rfl,by simp,cell_at_new w3 #[.int .i64 (orderV e.a f.a),.int .i64 (orderV e.b f.b)] 3 0,cell_at_new w3 #[.int .i64 (orderV e.a f.a),.int .i64 (orderV e.b f.b)] 3 1⟩
  ·intro st hst ac w3 hg hG hd K hK;dsimp only at hst hG hK;(obtain ⟨g,f1,h1,h2,h3⟩:=hd 10 (by simp) _ rfl _ rfl);clear hG;simp [Act.eval] at f1;go_simp;(refine (or_any (orderV e.a f.a) (orderV e.b f.b) g w3 h2 h3).mono ?_);rintro r w4 ⟨rfl,rfl⟩;exact hK (.int .i64 (cmpE e f)) _ (Gro.refl _) rfl
  ·intro st hst ac w3 hg hG hd K hK;dsimp only at hst hG hK;exact op_assign _ rfl (hK _ _ (Gro.refl _) (hd 11 (by simp) _ rfl _ rfl))
 case gu=>intro s a b hG hu;exact hG.trans hu
 case g0=>exact Gro.drew _
 case fin=>
  intro f9 w9 hG hall;have h4:=hall _ (List.mem_of_getElem? (i:=12) rfl) 4 rfl;have HG9:=hide hG;clear hall hG;simp only [fillF,List.map_cons,List.map_nil,List.foldl_cons,List.foldl_nil,Act.put,List.setIfInBounds_toArray,List.set_cons_zero,List.set_cons_succ];rw [show f9 4=.int .i64 (cmpE e f) from h4];clear h4;go_wp2_with fail
  go_ret;exact ⟨rfl,HG2.out.trans HG9.out⟩
theorem orOf_neg (x y:Int):orOf x y<0 ↔ x<0∨(x=0∧y<0):=by unfold orOf;split <;> omega
theorem cmpE_neg (e f:Eg):cmpE e f<0 ↔ orderV e.a f.a<0∨(e.a=f.a∧orderV e.b f.b<0):=by unfold cmpE;rw [orOf_neg,orderV_eq]
theorem cmpE_swap (e f:Eg):cmpE f e<0 ↔ 0<cmpE e f:=by
 have h1:=orderV_swap e.a f.a;have h2:=orderV_swap e.b f.b;have h3:f.a=e.a ↔ orderV e.a f.a=0:=by rw [orderV_eq];exact ⟨fun h=>h.symm,fun h=>h.symm⟩
 rw [cmpE_neg,h1,h2,h3];unfold cmpE orOf;split <;> omega
theorem cmpE_eq (e f:Eg):cmpE e f=0 ↔ e=f:=by
 obtain ⟨a,b⟩:=e;obtain ⟨c,d⟩:=f;unfold cmpE orOf;have h1:=orderV_eq a c;have h2:=orderV_eq b d;simp only [Eg.mk.injEq];split
 ·rename_i h
  rw [h2];exact ⟨fun x=>⟨h1.1 h,x⟩,fun x=>x.2⟩
 ·rename_i h
  exact ⟨fun x=>absurd x h,fun x=>absurd (h1.2 x.1) h⟩
theorem swoE:SWO (ltOf cmpE) where
 irrefl x:=by
  have h1:=cmpE_neg x x;have h2:=orderV_neg x.a x.a;have h3:=orderV_neg x.b x.b;unfold ltOf;simp;omega
 trans x y z h1 h2:=by
  unfold ltOf at *;simp only [decide_eq_true_eq,cmpE_neg,orderV_neg] at *;rcases h1 with h1|⟨e1,h1⟩ <;> rcases h2 with h2|⟨e2,h2⟩
  ·left;omega
  ·rw [← e2];exact .inl h1
  ·rw [e1];exact .inl h2
  ·exact .inr ⟨e1.trans e2,by omega⟩
 ntrans x y z h1 h2:=by
  unfold ltOf at *;simp only [decide_eq_false_iff_not,cmpE_neg,orderV_neg] at *;have key:∀ p q:Pt,p=q ↔ p.x=q.x∧p.y=q.y:=fun p q=>⟨fun h=>by rw [h];exact ⟨rfl,rfl⟩,fun h=>Pt.ext_ h.1 h.2⟩
  simp only [key] at *;omega
theorem cmpLaysE (w:World) (blk off size:Nat):CmpLays Tryz.prog 117 #[] Eg.enc 4 cmpE blk off size w:=by
 intro m os dk hdk x y;exact clean1_gro x y _
def SortE (l:List Eg):Prop:=l.Pairwise fun a b=>cmpE a b≤0
set_option maxRecDepth 100000 in
theorem sorte_any {w:World} {g cap n B:Nat} {l:List Eg} (h:w.ownsRow B 109 4 (.slice (some ⟨g,0,none⟩) n cap) n (l.flatMap Eg.enc)) (hsz:n≤1000000000) :
 Calls Tryz.prog 116 #[.slice (some ⟨g,0,none⟩) n cap,.func (.func 117) #[] #[]] w fun e w'=>e=.returned (.tuple #[]) ∧
  ∃ l',l'.Perm l∧SortE l'∧w'.ownsRow B 109 4 (.slice (some ⟨g,0,none⟩) n cap) n (l'.flatMap Eg.enc)∧w.grownBy w' (some g):=by
 have hk:∀ x:Eg,(Eg.enc x).length=4:=fun _=>rfl
 have hn:l.length=n:=by
  have h1:=h.1;rw [flatM_len (k:=4) Eg.enc_len] at h1;omega
 have hf:(flatK Eg.enc 4 l.toArray).toList=l.flatMap Eg.enc:=flatK_list Eg.enc hk (by decide) l.toArray;have hH:HoldsK Eg.enc 4 w g 0 l.toArray:=fun j hj=>by
  have hj2:j<n * 4:=by rw [size_flatK] at hj;simpa [hn] using hj
  refine ⟨?_,by rw [Nat.zero_add];exact h.frozenAt j⟩;rw [Nat.zero_add,h.cellAt j hj2,show l.flatMap Eg.enc=l.flatMap Eg.enc from rfl,← hf,Array.getElem?_toList,Array.getElem?_eq_getElem hj,getElem!_pos _ j hj];rfl
 have hglt:=(h.lt g rfl).2;have h1:∀ x:Eg,∀ v∈Eg.enc x,v.oneCell'=true:=fun x v hv=>by
  simp only [Eg.enc,List.mem_cons,List.not_mem_nil,or_false] at hv;rcases hv with rfl|rfl|rfl|rfl <;> rfl
 have eg:∀ args w,(callFunc 117 args).run Tryz.prog w=.ok (.enter 117 args) w:=enters_of Tryz.func117 (by kernel_rfl) rfl;have hcon:=AnyQ.slices_SortFunc Tryz.sortE 4 Tryz.isAgg109 Tryz.sizeOf109 Eg.enc hk h1 cmpE swoE 117 #[] g 0 cap l.toArray w eg (cmpLaysE w g 0 l.toArray.size) hH hglt (by simp;omega);change Calls Tryz.prog 116 _ _ _ at hcon;rw [show l.toArray.size=n from by simpa using hn] at hcon;refine hcon.mono ?_;rintro e w' ⟨rfl,d',q,os,hp,hs,rfl⟩;have hp':=perm_list (d:=l.toArray) (by rw [show l.toArray.size=n from by simpa using hn];exact hp);have hd':d'.size=n:=by have:=hp.1;simp at this;omega
 refine ⟨rfl,d'.toList,(by simpa using hp'),?_,?_,?_⟩
 ·unfold SortE;rw [List.pairwise_iff_getElem];intro i j hi hj hij;simp at hi hj;have:=hs i j (Nat.zero_le _) hij (by omega);unfold ltOf at this;simp [Array.getElem!_eq_getD,Array.getD,hi,hj] at this;simp only [Array.getElem_toList];have h2:=cmpE_swap d'[i] d'[j];omega
 ·obtain ⟨hl1,h2⟩:=h;rcases h2 with ⟨e,_⟩|⟨g',cap',cur,e,hb,hh,hnc,hcm,hcs,ht⟩
  ·cases e
  ·injection e with e1 e2 e3;injection e1 with e1;injection e1 with e1;subst e1 e3;have hlen:(d'.toList.flatMap Eg.enc).length=n * 4:=by rw [flatM_len (k:=4) Eg.enc_len,Array.length_toList,hd']
   refine ⟨hlen,.inr ⟨g,cap,putCells id 0 (flatK Eg.enc 4 d') cur,rfl,hb,?_,hnc,hcm,by simp [putCells,hcs],?_⟩⟩
   ·unfold sortWorldK putRowK putRow mapBlock grow Sort.ahead;simp [Array.getElem?_append,Array.getElem?_modify,hglt];have:=(Array.getElem?_eq_some_iff.1 hh).2;rw [Array.getElem_modify,if_pos rfl,this];rfl
   ·rw [show d'.toList.flatMap Eg.enc=d'.toList.flatMap Eg.enc from rfl,← flatK_list Eg.enc hk (by decide) d'];have hfs:(flatK Eg.enc 4 d').size=n * 4:=by rw [size_flatK,hd']
    have hcn:n * 4≤cur.size:=by rw [hcs];exact Nat.mul_le_mul_right 4 hnc
    refine List.ext_getElem? fun t=>?_
    rw [List.getElem?_take];split
    ·next ht2=>
     rw [Array.getElem?_toList,Array.getElem?_toList];unfold putCells;rw [Array.getElem?_mapIdx,Array.getElem?_eq_getElem (by omega),Array.getElem?_eq_getElem (by omega)];simp [hfs,ht2,Array.getElem!_eq_getD,Array.getD]
    ·next ht2=>exact (List.getElem?_eq_none (by rw [Array.length_toList,hfs];omega)).symm
 ·exact ⟨rfl,rfl,rfl,size_sortWorldK_c _ _ _ _ _ _ _ _,fun j hj hne=>sortWorldK_heap _ _ _ _ _ _ _ _ hj (fun e=>hne (by rw [e]))⟩
theorem cmpE_lt_trans {a b c:Eg} (h1:cmpE a b≤0) (h2:cmpE b c<0):cmpE a c<0:=by
 have h1':¬ cmpE b a<0:=by rw [cmpE_swap];omega
 rw [cmpE_neg,orderV_neg,orderV_neg] at h1' h2 ⊢;have key:∀ p q:Pt,p=q ↔ p.x=q.x∧p.y=q.y:=fun p q=>⟨fun h=>by rw [h];exact ⟨rfl,rfl⟩,fun h=>Pt.ext_ h.1 h.2⟩
 simp only [key] at *;omega
def ddT (l:List Eg):Nat→List Eg
 | 0=>[]
 | j+1=>if 0<j∧l.getD (j - 1) default=l.getD j default then ddT l j else ddT l j++[l.getD j default]
theorem ddT_len (l:List Eg):∀ j,(ddT l j).length≤j
 | 0=>Nat.le_refl _
 | j+1=>by
   have:=ddT_len l j;unfold ddT;split
   ·omega
   ·rw [List.length_append];simp;omega
theorem ddT_same {l:List Eg} {j:Nat} (h:0<j) (he:l.getD (j - 1) default=l.getD j default):ddT l (j+1)=ddT l j:=by
 rw [ddT,if_pos ⟨h,he⟩]
theorem ddT_new {l:List Eg} {j:Nat} (he:l.getD (j - 1) default≠l.getD j default):ddT l (j+1)=ddT l j++[l.getD j default]:=by
 rw [ddT,if_neg (fun h=>he h.2)]
theorem ddT_dist {l:List Eg}:∀ j,j≤l.length→(∀ i (h:i+1<l.length),i+1<j→l[i+1]≠l[i])→ddT l j=l.take j
 | 0,_,_=>by simp [ddT]
 | j+1,hj,h=>by
   have ih:=ddT_dist j (by omega) (fun i h1 h2=>h i h1 (by omega));have e:l.getD j default=l[j]:=by simp [List.getD,show j<l.length from by omega]
   rw [List.take_succ_eq_append_getElem (by omega),← ih,ddT,if_neg,e];rintro ⟨h0,he⟩;obtain ⟨i,rfl⟩:∃ i,j=i+1:=⟨j - 1,by omega⟩;have e2:l.getD i default=l[i]:=by simp [List.getD,show i<l.length from by omega]
   rw [e,Nat.add_sub_cancel,e2] at he;exact h i (by omega) (by omega) he.symm
theorem ddT_mem {l:List Eg} {x:Eg}:∀ j,j≤l.length→(x∈ddT l j ↔ x∈l.take j)
 | 0,_=>by simp [ddT]
 | j+1,hj=>by
   have ih:=ddT_mem (x:=x) (l:=l) j (by omega);have e:l.getD j default=l[j]:=by simp [List.getD,show j<l.length from by omega]
   rw [List.take_succ_eq_append_getElem (by omega),ddT];split
   ·rename_i h
    rw [ih,List.mem_append];constructor
    ·exact .inl
    ·rintro (q|q)
     ·exact q
     ·simp at q;have h2:=h.2;rw [e] at h2;rw [q,← h2];have e3:l.getD (j - 1) default=l[j - 1]:=by simp [List.getD,show j - 1<l.length from by omega]
      rw [e3];exact List.mem_take_iff_getElem.2 ⟨j - 1,by omega,rfl⟩
   ·rw [List.mem_append,List.mem_append,ih,e]
theorem ddT_sorted {l:List Eg} (hs:SortE l):∀ j,j≤l.length→(ddT l j).Pairwise fun a b=>cmpE a b<0
 | 0,_=>by simp [ddT]
 | j+1,hj=>by
   have ih:=ddT_sorted hs j (by omega);have e:l.getD j default=l[j]:=by simp [List.getD,show j<l.length from by omega]
   rw [ddT];split
   ·exact ih
   ·rename_i h
    rw [List.pairwise_append];refine ⟨ih,by simp,fun a ha b hb=>?_⟩;simp at hb;have hb:b=l[j]:=by rw [hb,← e];rfl
    subst hb;rw [ddT_mem j (by omega)] at ha;obtain ⟨i,hi,rfl⟩:=List.mem_take_iff_getElem.1 ha;have hi2:i<j:=by omega
    unfold SortE at hs;rw [List.pairwise_iff_getElem] at hs;have e3:l.getD (j - 1) default=l[j - 1]:=by simp [List.getD,show j - 1<l.length from by omega]
    have hne:l[j - 1]≠l[j]:=fun q=>h ⟨by omega,by rw [e,e3];exact q⟩
    have h1:=hs (j - 1) j (by omega) (by omega) (by omega);have h2:cmpE l[j - 1] l[j]<0:=by
     have:=mt (cmpE_eq l[j - 1] l[j]).1 hne;omega
    rcases Nat.lt_or_ge i (j - 1) with q|q
    ·exact cmpE_lt_trans (hs i (j - 1) (by omega) (by omega) q) h2
    ·obtain rfl:i=j - 1:=by omega
     exact h2
structure RowE (w:World) (g:Nat) (l:List Eg):Prop where
 lt:g<w.heap.size
 c:∀ j (hj:j<l.length),w.cell? ⟨g,j * 4,none⟩=some (.int .i64 l[j].a.x)∧w.cell? ⟨g,j * 4+1,none⟩=some (.int .i64 l[j].a.y)∧w.cell? ⟨g,j * 4+2,none⟩=some (.int .i64 l[j].b.x)∧w.cell? ⟨g,j * 4+3,none⟩=some (.int .i64 l[j].b.y)
 f:∀ i,w.frozen? ⟨g,i,none⟩=false
theorem RowE.heap {w w':World} {g:Nat} {l:List Eg} (h:RowE w g l) (he:w'.heap[g]? = w.heap[g]?):RowE w' g l:=by
 have hc:∀ i,w'.cell? ⟨g,i,none⟩=w.cell? ⟨g,i,none⟩:=fun i=>by unfold World.cell?;rw [he]
 have hf:∀ i,w'.frozen? ⟨g,i,none⟩=w.frozen? ⟨g,i,none⟩:=fun i=>by unfold World.frozen?;rw [he]
 refine ⟨?_,fun j hj=>by rw [hc,hc,hc,hc];exact h.c j hj,fun i=>by rw [hf];exact h.f i⟩;rcases Nat.lt_or_ge g w'.heap.size with q|q
 ·exact q
 ·rw [Array.getElem?_eq_none q,Array.getElem?_eq_getElem h.lt] at he;cases he
theorem RowE.of_own {w:World} {B g n cap:Nat} {l:List Eg} (h:w.ownsRow B 109 4 (.slice (some ⟨g,0,none⟩) n cap) n (l.flatMap Eg.enc)):RowE w g l:=by
 have hn:l.length=n:=by
  have h1:=h.1;rw [flat_len (k:=4) Eg.enc_len] at h1;omega
 refine ⟨(h.lt g rfl).2,fun j hj=>?_,fun i=>h.frozenAt i⟩;have key:∀ t,t<4→w.cell? ⟨g,j * 4+t,none⟩=(l[j].enc)[t]?:=fun t ht=>by
  rw [h.cellAt (j * 4+t) (by omega),flat_get (k:=4) Eg.enc_len l j hj t ht]
 exact ⟨key 0 (by omega),key 1 (by omega),key 2 (by omega),key 3 (by omega)⟩
def sete (w:World) (g p:Nat) (e:Eg):World:=(((w.setCell ⟨g,p * 4,none⟩ (.int .i64 e.a.x)).setCell ⟨g,p * 4+1,none⟩ (.int .i64 e.a.y)).setCell ⟨g,p * 4+2,none⟩ (.int .i64 e.b.x)).setCell ⟨g,p * 4+3,none⟩ (.int .i64 e.b.y)
theorem sete_grown (w:World) (g p:Nat) (e:Eg):w.grownBy (sete w g p e) (some g):=by
 refine ⟨rfl,rfl,rfl,by simp [sete],fun j hj hne=>?_⟩;have hg:j≠g:=fun q=>hne (by rw [q])
 unfold sete;rw [Below.heap_setCell _ _ _ _ hg,Below.heap_setCell _ _ _ _ hg,Below.heap_setCell _ _ _ _ hg,Below.heap_setCell _ _ _ _ hg]
theorem RowE.set {w:World} {g p:Nat} {l:List Eg} (h:RowE w g l) (hp:p<l.length) (e:Eg):RowE (sete w g p e) g (l.set p e):=by
 obtain ⟨s0,s1,s2,s3⟩:=h.c p hp;refine ⟨by simp [sete];exact h.lt,fun j hj=>?_,fun i=>by simp only [sete,World.frozen?_setCell];exact h.f i⟩;rw [List.length_set] at hj;obtain ⟨c0,c1,c2,c3⟩:=h.c j hj;have oth:∀ (w0:World) (a b:Nat) (v:Value),a≠b→(w0.setCell ⟨g,b,none⟩ v).cell? ⟨g,a,none⟩=w0.cell? ⟨g,a,none⟩:=fun w0 a b v hab=>World.cell?_setCell_other w0 _ _ v (fun q=>hab (by injection q with _ q2;exact q2.symm))
 by_cases q:j=p
 ·subst q;rw [List.getElem_set_self];unfold sete;refine ⟨?_,?_,?_,?_⟩
  ·rw [oth _ _ _ _ (by omega),oth _ _ _ _ (by omega),oth _ _ _ _ (by omega)];exact World.cell?_setCell_same _ _ _ (by rw [s0])
  ·rw [oth _ _ _ _ (by omega),oth _ _ _ _ (by omega)];exact World.cell?_setCell_same _ _ _ (by rw [oth _ _ _ _ (by omega),s1])
  ·rw [oth _ _ _ _ (by omega)];exact World.cell?_setCell_same _ _ _ (by rw [oth _ _ _ _ (by omega),oth _ _ _ _ (by omega),s2])
  ·exact World.cell?_setCell_same _ _ _ (by rw [oth _ _ _ _ (by omega),oth _ _ _ _ (by omega),oth _ _ _ _ (by omega),s3])
 ·rw [List.getElem_set_ne (by omega)];unfold sete;refine ⟨?_,?_,?_,?_⟩ <;> (rw [oth _ _ _ _ (by omega),oth _ _ _ _ (by omega),oth _ _ _ _ (by omega),oth _ _ _ _ (by omega)];assumption)
theorem zeroEg (w:World):(zeroValue 109).run Tryz.prog w=.ok (.agg #[.int .i64 0,.int .i64 0,.int .i64 0,.int .i64 0]) w:=Tryz.zeroValue109 w
theorem clear_run {w:World} {g p n c:Nat} {l:List Eg} (h:RowE w g l) (hl:p+n≤l.length) (hn:0<n) (ty:TypeId) :
 (Builtin.clear_ #[104] ty #[.slice (some ⟨g,p * 4,none⟩) n c]).run Tryz.prog w=.ok (.tuple #[]) (w.setCells g (p * 4) (List.replicate (n * 4) (.int .i64 0))):=by
 have hzc:(Builtin.zeroCells (Value.cells (.agg #[.int .i64 0,.int .i64 0,.int .i64 0,.int .i64 0])) n).toList=List.replicate (n * 4) (Value.int .i64 0):=by
  refine List.ext_getElem (by rw [Array.length_toList,size_zeroCells,List.length_replicate];rfl) fun i h1 h2=>?_
  rw [List.getElem_replicate];simp only [Builtin.zeroCells,Value.cells,Array.getElem_toList];simp;have hm:i % 4=0∨i % 4=1∨i % 4=2∨i % 4=3:=by omega
  rcases hm with q|q|q|q <;> simp [q]
 have hsome:∀ j,j<n * 4→(w.cell? ⟨g,p * 4+j,none⟩).isSome=true:=fun j hj=>by
  have hd:p * 4+j=(p+j / 4) * 4+j % 4:=by omega
  obtain ⟨c0,c1,c2,c3⟩:=h.c (p+j / 4) (by omega);have hm:j % 4=0∨j % 4=1∨j % 4=2∨j % 4=3:=by omega
  rcases hm with q|q|q|q <;> rw [hd,q]
  ·rw [show (p+j / 4) * 4+0=(p+j / 4) * 4 from rfl,c0];rfl
  ·rw [c1];rfl
  ·rw [c2];rfl
  ·rw [c3];rfl
 have hst:=run_storeCells_cells (P:=Tryz.prog) g (p * 4) (List.replicate (n * 4) (Value.int .i64 0)) 0 w (by simpa using hsome) (by intro j _;simpa using h.f _) (by intro v hv;rw [List.eq_of_mem_replicate hv];rfl);simp only [Nat.add_zero] at hst;obtain ⟨m,rfl⟩:∃ m,n=m+1:=⟨n - 1,by omega⟩;simp [Builtin.clear_,run_underlying Tryz.underlying104,zeroEg,hzc,hst]
theorem clear_row {w:World} {g p n:Nat} {l:List Eg} (h:RowE w g l) (hp:p≤l.length):RowE (w.setCells g (p * 4) (List.replicate n (.int .i64 0))) g (l.take p):=by
 refine ⟨?_,fun j hj=>?_,fun i=>by rw [World.frozen?_setCells];exact h.f i⟩
 ·have:(w.setCells g (p * 4) (List.replicate n (.int .i64 0))).heap.size=w.heap.size:=by
   have key:∀ (vs:List Value) (o:Nat) (w:World),(w.setCells g o vs).heap.size=w.heap.size:=fun vs=>by
    induction vs with
    | nil=>intro o w;rfl
    | cons v vs ih=>intro o w;rw [World.setCells,ih];simp
   exact key _ _ _
  rw [this];exact h.lt
 ·rw [List.length_take] at hj;obtain ⟨c0,c1,c2,c3⟩:=h.c j (by omega);rw [List.getElem_take];refine ⟨?_,?_,?_,?_⟩ <;> (rw [World.cell?_setCells_out _ _ _ _ _ (fun _ _=>.inl (by simp;omega))];assumption)
theorem setCells_grown (g:Nat):∀ (vs:List Value) (o:Nat) (w:World),w.grownBy (w.setCells g o vs) (some g)
 | [],_,w=>World.grownBy.refl w _
 | v :: vs,o,w=>by
   have h1:w.grownBy (w.setCell ⟨g,o,none⟩ v) (some g):=⟨rfl,rfl,rfl,by simp,fun j hj hne=>Below.heap_setCell _ _ _ _ (fun q=>hne (by rw [q]))⟩;have h2:=setCells_grown g vs (o+1) (w.setCell ⟨g,o,none⟩ v);exact ⟨h2.os.trans h1.os,h2.tape.trans h1.tape,h2.output.trans h1.output,Nat.le_trans h1.size h2.size,fun j hj hne=>(h2.block j (nLl hj h1.size) hne).trans (h1.block j hj hne)⟩
theorem gby_trans {a b c:World} {o:Option Nat} (h:a.grownBy b o) (k:b.grownBy c o):a.grownBy c o:=
 ⟨k.os.trans h.os,k.tape.trans h.tape,k.output.trans h.output,Nat.le_trans h.size k.size,fun j hj hne=>(k.block j (nLl hj h.size) hne).trans (h.block j hj hne)⟩
def StR (w:World) (g:Nat) (l:List Eg) (w':World):Prop:=RowE w' g l∧w.grownBy w' (some g)∧w'.heap.size=w.heap.size
theorem StR.drew {w w':World} {g:Nat} {l:List Eg} (h:StR w g l w') (n:Nat):StR w g l (w'.drewN n):=⟨h.1.heap rfl,gby_trans h.2.1 ⟨rfl,rfl,rfl,Nat.le_refl _,fun _ _ _=>rfl⟩,h.2.2⟩
theorem sete_size (w:World) (g p:Nat) (e:Eg):(sete w g p e).heap.size=w.heap.size:=by simp [sete]
theorem cur_at {dd l:List Eg} {p q:Nat} (hp:dd.length=p) (hq:p≤q) (hl:q<l.length):∃ h:q<(dd++l.drop p).length,(dd++l.drop p)[q]=l[q]:=by
 refine ⟨by rw [List.length_append,List.length_drop];omega,?_⟩;rw [List.getElem_append_right (by omega),List.getElem_drop];congr 1;omega
theorem cur_set {dd l:List Eg} {p:Nat} (hp:dd.length=p) (hl:p<l.length) (x:Eg):(dd++l.drop p).set p x=(dd++[x])++l.drop (p+1):=by
 have h:l.drop p=l[p] :: l.drop (p+1):=List.drop_eq_getElem_cons hl;rw [List.set_append,if_neg (by omega),hp,Nat.sub_self,h,List.set_cons_zero,List.append_assoc];rfl
theorem getD_at {l:List Eg} {i:Nat} (h:i<l.length):l.getD i default=l[i]:=by simp [List.getD,h]
set_option maxRecDepth 100000 in
set_option maxHeartbeats 4000000 in
theorem compact_any {w:World} {g n cap:Nat} {l:List Eg} (hR:RowE w g l) (hn:l.length=n) (h0:0<n) (hc:n≤cap) (hcm:cap≤maxLen) :
 Calls Tryz.prog 119 #[.slice (some ⟨g,0,none⟩) n cap] w fun r w'=>r=.returned (.slice (some ⟨g,0,none⟩) (ddT l n).length cap)∧StR w g (ddT l n) w':=by
 have HR:=hide hR;have HN:=hide hn;have hgt:Tryz.prog.eqGuardType Tryz.prog.depth TEg=false:=by kernel_rfl
 have hcap:cap≤9223372036854775807:=by unfold maxLen at hcm;omega
 clear hR hn;by_cases h2:n<2
 ·have h2I:(n:Int)<2:=by omega
  have HD:=hide (show ddT l n=l from by rw [ddT_dist n (by rw [HN.out];exact Nat.le_refl _) (fun i h1 h3=>by omega),List.take_of_length_le (by rw [HN.out];exact Nat.le_refl _)])
  go_enter Tryz.func119,Tryz.ntmps119
  go_wp2_with fail
  go_ret;exact ⟨by rw [HD.out,HN.out];rfl,by rw [HD.out];exact HR.out,World.grownBy.refl _ _,rfl⟩
 ·have h2I:¬ (n:Int)<2:=by omega
  go_enter Tryz.func119,Tryz.ntmps119
  go_wp2_with fail
  go_loopw [3] (fun v3 wr=>∃ m:Nat,v3=.int .i64 ((m:Int)+1)∧m+1≤n∧Hid (StR w g l wr ∧ ∀ j (h:j+1<l.length),j<m→l[j+1]≠l[j])) (fun v3 _=>n - (intOf v3).toNat)
  case atStart=>exact ⟨0,rfl,by omega,hide ⟨⟨HR.out,World.grownBy.refl _ _,rfl⟩,fun j _ h=>absurd h (Nat.not_lt_zero _)⟩⟩
  case round=>
   obtain ⟨m,rfl,hm,HI⟩:=hrel;by_cases hlt:m+1<n
   ·have hltI:(m:Int)+1<n:=by omega
    have h1:m+1<l.length:=by rw [HN.out];exact hlt
    obtain ⟨r0,r1,r2,r3⟩:=HI.out.1.1.c (m+1) h1;obtain ⟨s0,s1,s2,s3⟩:=HI.out.1.1.c m (by omega);obtain ⟨e,he⟩:∃ q,l[m+1]=q:=⟨_,rfl⟩;obtain ⟨f,hf⟩:∃ q,l[m]=q:=⟨_,rfl⟩;rw [he] at r0 r1 r2 r3;rw [hf] at s0 s1 s2 s3;have hbr:=HI.out.1.1.lt;have hw1:(m:Int)+1≤9223372036854775807:=by omega
    obtain ⟨t,ht⟩:∃ t,decide (e=f)=t:=⟨_,rfl⟩;have heq:=fun w1=>eq_eg e f w1
    rw [ht] at heq;have HT:=hide (show decide (l[m+1]=l[m])=t from by rw [he,hf,ht]);clear he hf ht;go_upto_region 6 with fail
    go_quiet (fail)
    clear r0 r1 r2 r3 s0 s1 s2 s3;cases t
    ·have HN2:=hide (show ∀ j (h:j+1<l.length),j<m+1→l[j+1]≠l[j] from fun j h hj e2=>by
      rcases Nat.lt_or_ge j m with h3|h3
      ·exact HI.out.2 j h h3 e2
      ·obtain rfl:j=m:=by omega
       have:=HT.out;simp at this;exact this e2)
     have HS:=hide (HI.out.1.drew nq);clear heq;go_wp2_with fail
     go_roundw
     case rel=>exact ⟨m+1,by go_num,by omega,hide ⟨HS.out,HN2.out⟩⟩
     case measure=>simp [intOf];omega
    ·have HS:=hide (HI.out.1.drew nq);have heqn:l[m+1]=l[m]:=by have:=HT.out;simpa using this
     have hdd:ddT l (m+1+1)=l.take (m+1):=by rw [ddT_same (by omega) (by rw [Nat.add_sub_cancel,getD_at (by omega),getD_at h1,heqn]),ddT_dist (m+1) (by omega) (fun i h3 h4=>HI.out.2 i h3 (by omega))]
     have HDD:=hide hdd;clear heq HT hdd heqn hw1;obtain ⟨k,hk⟩:∃ k,m+1=k:=⟨_,rfl⟩;have hkI:(m:Int)+1=(k:Int):=by omega
     obtain ⟨wa,hwa⟩:∃ q,wr.drewN nq=q:=⟨_,rfl⟩;rw [hwa] at HS ⊢;have hkn:k≤n:=by omega
     have hkc:k<cap:=by omega
     have hkc2:k≤cap:=by omega
     have hkc3:¬ cap=k:=by omega
     simp only [hkI];rw [hk] at HDD;have hk0:0<k:=by omega
     have hkn2:k<n:=by omega
     clear hwa hk hkI HI h1 hlt hltI hm;go_wp2_with fail
     obtain ⟨nk,hnk⟩:∃ q,n - k=q:=⟨_,rfl⟩;obtain ⟨ck,hck⟩:∃ q,cap - k=q:=⟨_,rfl⟩;have hnk2:k+nk=n:=by omega
     simp only [hnk,hck];clear hnk hck
     go_loopw [3,5] (fun v3 v5 wq=>∃ p i:Nat,v3=.int .i64 (p:Int)∧v5=.int .i64 ((i:Int)+1)∧i+1≤nk∧p≤k+i∧Hid (p=(ddT l (k+i+1)).length∧StR w g (ddT l (k+i+1)++l.drop p) wq)) (fun _ v5 _=>n - (intOf v5).toNat)
     case atStart=>exact ⟨k,0,rfl,rfl,by omega,by omega,hide ⟨by rw [Nat.add_zero,HDD.out,List.length_take,HN.out];omega,by rw [Nat.add_zero,HDD.out,List.take_append_drop];exact HS.out⟩⟩
     case round=>
      clear HS HDD;obtain ⟨p,i,rfl,rfl,hi,hpk,HI⟩:=hrel;have hpn:p<n:=by omega
      have hcl:(ddT l (k+i+1)++l.drop p).length=n:=by rw [List.length_append,List.length_drop,← HI.out.1,HN.out];omega
      by_cases hlt:i+1<nk
      ·have hltI:(i:Int)+1<(nk:Int):=by omega
       have hx1:k+i+1<l.length:=by rw [HN.out];omega
       have hx0:k+i<l.length:=by omega
       obtain ⟨b1,e1⟩:=cur_at (l:=l) HI.out.1.symm (q:=k+i+1) (by omega) hx1;obtain ⟨b0,e0⟩:=cur_at (l:=l) HI.out.1.symm (q:=k+i) (by omega) hx0;obtain ⟨r0,r1,r2,r3⟩:=HI.out.2.1.c (k+i+1) b1;obtain ⟨s0,s1,s2,s3⟩:=HI.out.2.1.c (k+i) b0;rw [e1] at r0 r1 r2 r3;rw [e0] at s0 s1 s2 s3;obtain ⟨e,he⟩:∃ q,l[k+i+1]=q:=⟨_,rfl⟩;obtain ⟨f,hf⟩:∃ q,l[k+i]=q:=⟨_,rfl⟩;rw [he] at r0 r1 r2 r3;rw [hf] at s0 s1 s2 s3;have hbr:=HI.out.2.1.lt;have a1:(k+i+1) * 4=k * 4+(i+1) * 4:=by omega
       have a0:(k+i) * 4=k * 4+i * 4:=by omega
       rw [a1] at r0 r1 r2 r3;rw [a0] at s0 s1 s2 s3;obtain ⟨t,ht⟩:∃ t,decide (e=f)=t:=⟨_,rfl⟩;have heq:=fun w1=>eq_eg e f w1
       rw [ht] at heq;have HHE:=hide he;have HT:=hide (show decide (l[k+i+1]=l[k+i])=t from by rw [he,hf,ht]);have hw1:(i:Int)+1≤9223372036854775807:=by omega
       clear he hf ht a1 a0 e1 e0;go_upto_region 11 with fail
       go_quiet (fail)
       cases t
       ·have HNEW:=hide (show ddT l (k+i+1+1)=ddT l (k+i+1)++[l[k+i+1]] from by
         rw [ddT_new (by
          rw [Nat.add_sub_cancel,getD_at hx0,getD_at hx1];intro q;have:=HT.out;simp at this;exact this q.symm),getD_at hx1])
        rw [HHE.out] at HNEW;obtain ⟨z0,z1,z2,z3⟩:=HI.out.2.1.c p (by omega);have hfz:=HI.out.2.1.f;obtain ⟨v0,hv0⟩:∃ v,(ddT l (k+i+1)++l.drop p)[p]'(by omega)=v:=⟨_,rfl⟩;rw [hv0] at z0 z1 z2 z3;have HS:=hide (HI.out.2.drew nq);clear heq HT hv0 b1 b0;obtain ⟨wa,hwa,t0,t1,t2,t3,u0,u1,u2,u3,tf,tl⟩:∃ q:World,wr.drewN nq=q∧q.cell? ⟨g,p * 4,none⟩=some (.int .i64 v0.a.x)∧q.cell? ⟨g,p * 4+1,none⟩=some (.int .i64 v0.a.y)∧q.cell? ⟨g,p * 4+2,none⟩=some (.int .i64 v0.b.x)∧q.cell? ⟨g,p * 4+3,none⟩=some (.int .i64 v0.b.y)∧q.cell? ⟨g,k * 4+(i+1) * 4,none⟩=some (.int .i64 e.a.x)∧q.cell? ⟨g,k * 4+(i+1) * 4+1,none⟩=some (.int .i64 e.a.y)∧q.cell? ⟨g,k * 4+(i+1) * 4+2,none⟩=some (.int .i64 e.b.x)∧q.cell? ⟨g,k * 4+(i+1) * 4+3,none⟩=some (.int .i64 e.b.y)∧(∀ j,q.frozen? ⟨g,j,none⟩=false)∧g<q.heap.size:=⟨_,rfl,z0,z1,z2,z3,r0,r1,r2,r3,hfz,hbr⟩;rw [hwa] at HS ⊢;have HPL:=hide (show p+1=(ddT l (k+i+1+1)).length from by rw [HNEW.out,List.length_append,← HI.out.1];rfl);have HP0:=hide HI.out.1;clear hwa z0 z1 z2 z3 r0 r1 r2 r3 s0 s1 s2 s3 hfz HI;clear hw1;go_wp2_with fail
        go_roundw
        case rel=>
         refine ⟨p+1,i+1,by go_num,by go_num,by omega,by omega,hide ⟨HPL.out,?_⟩⟩;have h5:=HS.out.1.set (p:=p) (by omega) e;rw [cur_set HP0.out.symm (by rw [HN.out];exact hpn),← HNEW.out] at h5;exact ⟨h5,gby_trans HS.out.2.1 (sete_grown _ _ _ _),(sete_size _ _ _ _).trans HS.out.2.2⟩
        case measure=>simp [intOf];omega
       ·have HOLD:=hide (show ddT l (k+i+1+1)=ddT l (k+i+1) from ddT_same (by omega) (by
         rw [Nat.add_sub_cancel,getD_at hx0,getD_at hx1];have:=HT.out;simp at this;exact this.symm))
        have HS:=hide (HI.out.2.drew nq);have HP0:=hide HI.out.1;clear heq HT HI r0 r1 r2 r3 s0 s1 s2 s3 b1 b0 hw1;go_wp2_with fail
        go_roundw
        case rel=>exact ⟨p,i+1,rfl,by go_num,by omega,by omega,hide ⟨by rw [show k+(i+1)+1=k+i+1+1 from rfl,HOLD.out];exact HP0.out,by rw [show k+(i+1)+1=k+i+1+1 from rfl,HOLD.out];exact HS.out⟩⟩
        case measure=>simp [intOf];omega
      ·have hltI:¬ (i:Int)+1<(nk:Int):=by omega
       have hin:k+i+1=n:=by omega
       rw [hin] at HI hcl;have hcl2:=fun ty=>clear_run (c:=cap - p) HI.out.2.1 (p:=p) (n:=n - p) (by rw [hcl];omega) (by omega) ty
       have HROW:=hide (clear_row HI.out.2.1 (p:=p) (n:=(n - p) * 4) (by rw [hcl];omega));have HTK:=hide (show (ddT l n++l.drop p).take p=ddT l n from by rw [HI.out.1,List.take_left]);have HP0:=hide HI.out.1;have HG:=hide (gby_trans HI.out.2.2.1 (setCells_grown g (List.replicate ((n - p) * 4) (.int .i64 0)) (p * 4) wr));have HSZ:=hide HI.out.2.2.2;have hpc:p<cap:=by omega
       have hpc2:p≤cap:=by omega
       have hpc3:¬ cap=p:=by omega
       have hpc4:p≤n:=by omega
       clear HI hcl;obtain ⟨np,hnp⟩:∃ q,n - p=q:=⟨_,rfl⟩;obtain ⟨cp,hcp⟩:∃ q,cap - p=q:=⟨_,rfl⟩;have hnp0:0<np:=by omega
       rw [hnp] at HROW HG;simp only [hnp,hcp] at hcl2;have HNP:=hide hnp;go_wp2_with fail
       go_ret;refine ⟨by rw [← HP0.out];rfl,?_,HG.out,?_⟩
       ·have h9:=HROW.out;rw [HTK.out] at h9;exact h9
       ·have key:∀ (vs:List Value) (o:Nat) (w:World),(w.setCells g o vs).heap.size=w.heap.size:=fun vs=>by
         induction vs with
         | nil=>intro o w;rfl
         | cons v vs ih=>intro o w;rw [World.setCells,ih];simp
        rw [key];exact HSZ.out
   ·have hltI:¬ (m:Int)+1<n:=by omega
    have HD:=hide (show ddT l n=l from by rw [ddT_dist n (by rw [HN.out];exact Nat.le_refl _) (fun i h1 h3=>HI.out.2 i h1 (by omega)),List.take_of_length_le (by rw [HN.out];exact Nat.le_refl _)]);go_wp2_with fail
    go_ret;exact ⟨by rw [HD.out,HN.out];rfl,by rw [HD.out];exact HI.out.1⟩
end Go.Proofs.YtacinobmcgcccaaGreatDoor
/- Maps keyed by edges. -/
namespace Go.Proofs.YtacinobmcgcccaaGreatDoor
open Go.RowKit Go.Shelf Go.Maps
theorem laidE:laidOutB Tryz.prog=true:=by kernel_rfl
theorem rowE:TEg<Tryz.prog.types.size:=of_decide_eq_true (by kernel_rfl)
theorem wideE:(match Tryz.prog.underlying TEg with|some (.array _ _)|some (.struct _)=>true|_=>false)=true:=by kernel_rfl
set_option maxRecDepth 100000 in
theorem lawE:Keyed Tryz.prog TEg:=Keyed.of_law (deep_law_laid laidE (m:=3) (by omega) rowE (by kernel_rfl) wideE)
def Eg.i64 (e:Eg):Prop:=((-9223372036854775808≤e.a.x∧e.a.x≤9223372036854775807)∧(-9223372036854775808≤e.a.y∧e.a.y≤9223372036854775807))∧(-9223372036854775808≤e.b.x∧e.b.x≤9223372036854775807)∧(-9223372036854775808≤e.b.y∧e.b.y≤9223372036854775807)
theorem Eg.good.i64 {e:Eg} (h:e.good):e.i64:=by
 obtain ⟨⟨⟨_,_⟩,_,_⟩,⟨_,_⟩,_,_⟩:=h;unfold Eg.i64;omega
theorem Eg.i64.back {e:Eg} (h:e.i64):e.back.i64:=⟨h.2,h.1⟩
def kl (e:Eg):Lit:=.string (keyBytes [.int .i64 e.a.x,.int .i64 e.a.y,.int .i64 e.b.x,.int .i64 e.b.y])
abbrev Eg.val (e:Eg):Value:=.agg #[.int .i64 e.a.x,.int .i64 e.a.y,.int .i64 e.b.x,.int .i64 e.b.y]
theorem wf64 {x:Int} (h:-9223372036854775808≤x∧x≤9223372036854775807):(Lit.int .i64 x).wf=true:=by
 simp [Lit.wf,IntKind.min,IntKind.max,IntKind.signed,IntKind.bits];omega
theorem lits_pt (d:Nat) {x y:Int} (hx:-9223372036854775808≤x∧x≤9223372036854775807) (hy:-9223372036854775808≤y∧y≤9223372036854775807) :
 Tryz.prog.keyLits (d+2) 56 [.int .i64 x,.int .i64 y]=some [.int .i64 x,.int .i64 y]:=by
 have c2:Tryz.prog.cellsOf 56=2:=by kernel_rfl
 have c1:Tryz.prog.cellsOf 3=1:=by kernel_rfl
 simp [Program.keyLits,Tryz.underlying56,Tryz.underlying3,c2,c1,wf64 hx,wf64 hy]
theorem lits_eg (d:Nat) (e:Eg) (h:e.i64) :
 Tryz.prog.keyLits (d+3) 109 [.int .i64 e.a.x,.int .i64 e.a.y,.int .i64 e.b.x,.int .i64 e.b.y]=some [.int .i64 e.a.x,.int .i64 e.a.y,.int .i64 e.b.x,.int .i64 e.b.y]:=by
 have c4:Tryz.prog.cellsOf 109=4:=by kernel_rfl
 have c2:Tryz.prog.cellsOf 56=2:=by kernel_rfl
 have l1:=lits_pt d h.1.1 h.1.2;have l2:=lits_pt d h.2.1 h.2.2;unfold Program.keyLits;simp [Tryz.underlying109,c4,c2,l1,l2]
set_option maxRecDepth 100000 in
theorem keyE (e:Eg) (h:e.i64):keyOf Tryz.prog TEg e.val=some (kl e):=by
 have h1:Tryz.prog.keyType TEg=true:=by kernel_rfl
 have c4:Tryz.prog.cellsOf TEg=4:=by kernel_rfl
 have h2:(Eg.val e).formed Tryz.prog TEg=true:=by simp [Value.formed,Tryz.underlying109,c4]
 obtain ⟨d,hd⟩:∃ d,Tryz.prog.types.size+1=d+3:=⟨Tryz.prog.types.size - 2,by have:2≤Tryz.prog.types.size:=of_decide_eq_true (by kernel_rfl);omega⟩;have h3:=lits_eg d e h;unfold keyOf;rw [Tryz.underlying109];simp only [h1,h2,Bool.and_true,if_true,hd];rw [show (Eg.val e).cells.toList=[.int .i64 e.a.x,.int .i64 e.a.y,.int .i64 e.b.x,.int .i64 e.b.y] from rfl,h3];rfl
theorem val_inj {e f:Eg} (h:e.val=f.val):e=f:=by
 obtain ⟨⟨a,b⟩,⟨c,d⟩⟩:=e;obtain ⟨⟨a',b'⟩,⟨c',d'⟩⟩:=f;simp at h;obtain ⟨rfl,rfl,rfl,rfl⟩:=h;rfl
theorem kl_inj {e f:Eg} (he:e.i64) (hf:f.i64) (h:kl e=kl f):e=f:=val_inj (lawE.inj (keyE e he) (h ▸ keyE f hf))
theorem wf64_inv {x:Int} (h:(Lit.int .i64 x).wf=true):-9223372036854775808≤x∧x≤9223372036854775807:=by
 simp [Lit.wf,IntKind.min,IntKind.max,IntKind.signed,IntKind.bits] at h;omega
theorem lit_int_inv {d:Nat} {c:Value} {l:List Lit} (h:Tryz.prog.keyLits (d+1) 3 [c]=some l):∃ x,c=.int .i64 x∧(-9223372036854775808≤x∧x≤9223372036854775807)∧l=[.int .i64 x]:=by
 cases c <;> simp [Program.keyLits,Tryz.underlying3] at h;obtain ⟨⟨rfl,h1⟩,rfl⟩:=h;exact ⟨_,rfl,wf64_inv h1,rfl⟩
set_option maxRecDepth 100000 in
theorem lit_pt_inv {d:Nat} {c0 c1:Value} {l:List Lit} (h:Tryz.prog.keyLits (d+2) 56 [c0,c1]=some l) :
 ∃ x y,c0=.int .i64 x∧c1=.int .i64 y∧(-9223372036854775808≤x∧x≤9223372036854775807)∧(-9223372036854775808≤y∧y≤9223372036854775807)∧l=[.int .i64 x,.int .i64 y]:=by
 have c2:Tryz.prog.cellsOf 56=2:=by kernel_rfl
 have c1':Tryz.prog.cellsOf 3=1:=by kernel_rfl
 unfold Program.keyLits at h;cases h1:Tryz.prog.keyLits (d+1) 3 [c0] with
 | none=>simp [Tryz.underlying56,c2,c1',h1] at h
 | some l1=>
 cases h2:Tryz.prog.keyLits (d+1) 3 [c1] with
 | none=>simp [Tryz.underlying56,c2,c1',h1,h2] at h
 | some l2=>
 simp [Tryz.underlying56,c2,c1',h1,h2] at h;subst h;obtain ⟨x,rfl,hx,rfl⟩:=lit_int_inv h1;obtain ⟨y,rfl,hy,rfl⟩:=lit_int_inv h2;exact ⟨x,y,rfl,rfl,hx,hy,rfl⟩
set_option maxRecDepth 100000 in
theorem lit_eg_inv {d:Nat} {c0 c1 c2 c3:Value} {l:List Lit} (h:Tryz.prog.keyLits (d+3) 109 [c0,c1,c2,c3]=some l) :
 ∃ e:Eg,e.i64∧#[c0,c1,c2,c3]=#[.int .i64 e.a.x,.int .i64 e.a.y,.int .i64 e.b.x,.int .i64 e.b.y]∧l=[.int .i64 e.a.x,.int .i64 e.a.y,.int .i64 e.b.x,.int .i64 e.b.y]:=by
 have k4:Tryz.prog.cellsOf 109=4:=by kernel_rfl
 have k2:Tryz.prog.cellsOf 56=2:=by kernel_rfl
 unfold Program.keyLits at h;cases h1:Tryz.prog.keyLits (d+2) 56 [c0,c1] with
 | none=>simp [Tryz.underlying109,k4,k2,h1] at h
 | some l1=>
 cases h2:Tryz.prog.keyLits (d+2) 56 [c2,c3] with
 | none=>simp [Tryz.underlying109,k4,k2,h1,h2] at h
 | some l2=>
 simp [Tryz.underlying109,k4,k2,h1,h2] at h;subst h;obtain ⟨x,y,rfl,rfl,hx,hy,rfl⟩:=lit_pt_inv h1;obtain ⟨x',y',rfl,rfl,hx',hy',rfl⟩:=lit_pt_inv h2;exact ⟨⟨⟨x,y⟩,⟨x',y'⟩⟩,⟨⟨hx,hy⟩,hx',hy'⟩,rfl,rfl⟩
set_option maxRecDepth 100000 in
theorem key_inv {v:Value} {l:Lit} (h:keyOf Tryz.prog TEg v=some l):∃ e:Eg,v=e.val∧e.i64∧l=kl e:=by
 unfold keyOf at h;rw [Tryz.underlying109] at h;simp only at h;split at h
 ·rename_i hf
  obtain ⟨d,hd⟩:∃ d,Tryz.prog.types.size+1=d+3:=⟨Tryz.prog.types.size - 2,by have:2≤Tryz.prog.types.size:=of_decide_eq_true (by kernel_rfl);omega⟩;have k4:Tryz.prog.cellsOf 109=4:=by kernel_rfl
  simp only [Bool.and_eq_true] at hf;have hg:=hf.2;clear hf;rw [hd] at h;cases v <;> simp [Value.formed,Tryz.underlying109,k4] at hg
  rename_i cs
  obtain ⟨L⟩:=cs
  match L,hg with
  | [c0,c1,c2,c3],_=>
    simp only [Option.map_eq_some_iff] at h;obtain ⟨ls,h1,rfl⟩:=h;obtain ⟨e,he,h2,rfl⟩:=lit_eg_inv (d:=d) h1;exact ⟨e,congrArg Value.agg h2,he,rfl⟩
 ·cases h
end Go.Proofs.YtacinobmcgcccaaGreatDoor
