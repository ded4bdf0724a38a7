/- plan.clean. -/
import Derived.Test.YtacinobmcgcccaaGreatDoorL13
import Derived.Test.YtacinobmcgcccaaGreatDoorL14
set_option linter.unusedSimpArgs false
set_option linter.unusedVariables false
namespace Go.Proofs.YtacinobmcgcccaaGreatDoor
open Go.RowKit Go.Shelf Go.Sort
attribute [local go_sem] Oper.semAt_some
instance (e f:Eg):Decidable (okE e f):=inferInstanceAs (Decidable (_∨_))
def cleanB (l:List Eg):Bool:=l.all fun e=>l.all fun f=>decide (e=f)||decide (okE e f)
theorem clean_iff {l:List Eg}:cleanB l=true ↔ ∀ e∈l,∀ f∈l,e≠f→okE e f:=by
 unfold cleanB;simp only [List.all_eq_true,Bool.or_eq_true,decide_eq_true_eq];exact ⟨fun h e he f hf hn=>(h e he f hf).resolve_left hn,fun h e he f hf=>Classical.byCases (fun q:e=f=>.inl q) fun q=>.inr (h e he f hf q)⟩
def normL (l:List Eg):List Eg:=l.map normE
def rowOk (l:List Eg) (i:Nat):Prop:=∀ j (hi:i<l.length) (hj:j<l.length),i<j→(∀ k (hk:k<l.length),i<k→k≤j→¬ l[i].b.x<l[k].a.x)→apE l[i] l[j]=true
theorem sweep_rows {l:List Eg}:sweepOk l ↔ ∀ i,rowOk l i:=⟨fun h i j hi hj=>h i j hi hj,fun h i j hi hj=>h i j hi hj⟩
theorem rows_done {l:List Eg} {i:Nat} (h:∀ j (hi:i<l.length) (hj:j<l.length),i<j→¬ l[i].b.x<l[j].a.x∧apE l[i] l[j]=true):rowOk l i:=fun j hi hj hij _=>(h j hi hj hij).2
theorem rows_break {l:List Eg} {i j:Nat} (hi:i<l.length) (hj:j<l.length) (hij:i<j) (hb:l[i].b.x<l[j].a.x) (h:∀ k (hk:k<l.length),i<k→k<j→¬ l[i].b.x<l[k].a.x∧apE l[i] l[k]=true):rowOk l i:=fun k hi2 hk hik hno=>by
 rcases Nat.lt_or_ge k j with q|q
 ·exact (h k hk hik q).2
 ·exact absurd hb (hno j hj hij q)
theorem rows_no {l:List Eg} {i j:Nat} (hi:i<l.length) (hj:j<l.length) (hij:i<j) (hb:¬ l[i].b.x<l[j].a.x) (ha:apE l[i] l[j]=false) (h:∀ k (hk:k<l.length),i<k→k<j→¬ l[i].b.x<l[k].a.x∧apE l[i] l[k]=true):¬ sweepOk l:=fun hs=>by
 have:=hs i j hi hj hij (fun k hk h1 h2=>by
  rcases Nat.lt_or_ge k j with q|q
  ·exact (h k hk h1 q).1
  ·obtain rfl:k=j:=by omega
   exact hb)
 rw [ha] at this;cases this
theorem sweep_clean {l l':List Eg} (hp:l'.Perm (normL l)) (hs:SortE l') (hne:∀ e∈l,e.good∧e.a≠e.b):(sweepOk (ddT l' l'.length) ↔ cleanB l=true) ∧ ∀ x∈ddT l' l'.length,x.good:=by
 have hm:∀ x,x∈ddT l' l'.length ↔ ∃ e∈l,normE e=x:=fun x=>by
  rw [ddT_mem _ (Nat.le_refl _),List.take_of_length_le (Nat.le_refl _),hp.mem_iff];unfold normL;exact List.mem_map
 have hgd:∀ x∈ddT l' l'.length,x.good:=fun x hx=>by
  obtain ⟨e,he,rfl⟩:=(hm x).1 hx;exact normE_good (hne e he).1
 refine ⟨?_,hgd⟩;rw [clean_iff];refine sweep_iff hne hm fun i j hi hj hij=>?_
 have h1:=ddT_sorted hs l'.length (Nat.le_refl _);rw [List.pairwise_iff_getElem] at h1;have h2:=h1 i j hi hj hij;refine ⟨?_,fun q=>?_⟩
 ·rw [cmpE_neg] at h2;have h3:¬ 0<orderV (ddT l' l'.length)[i].a (ddT l' l'.length)[j].a:=by
   rcases h2 with h2|⟨h2,_⟩
   ·omega
   ·rw [(orderV_eq _ _).2 h2];omega
  have:=mt (order_pos (hgd _ (List.getElem_mem hi)).1 (hgd _ (List.getElem_mem hj)).1).2 h3;omega
 ·have:=(cmpE_eq _ _).2 q;omega
theorem eg_info:(Tryz.prog.info? 109).map (fun i=>(i.zero,i.size,i.bytes))=some (some (.agg #[.int .i64 0,.int .i64 0,.int .i64 0,.int .i64 0]),4,32):=by kernel_rfl
theorem Marks.rowgrown {W W':World} {ds:List Nat} {base k n:Nat} {e:TypeId} {v:Value} {xs:List Value} (h:Marks W ds) (hr:W.ownsRow base e k v n xs) (hg:W.grownBy W' v.ownBlock):Marks W' ds:=by
 refine h.grown hg fun D hD q=>?_
 rcases hr.2 with ⟨e1,_⟩|⟨g,cap,cur,e1,_,hh,_⟩
 ·rw [e1] at q;cases q
 ·rw [e1] at q;injection q with q;have:=h.2 D hD;rw [q] at this;rw [hh] at this;cases this
theorem four_new (w4:World) (t':TypeId) (a b c d:Value):∀ j u,[a,b,c,d][j]? = some u→(w4.alloc (.cells #[a,b,c,d] t')).cell? ((⟨w4.heap.size,0,none⟩:Addr).add j)=some u:=fun j u hu=>by
 rw [add_off];exact (cell_at_new w4 #[a,b,c,d] t' j).trans (by simpa using hu)
theorem gby_below {W X:World} (h:Below W.heap.size W X) (row:Option Nat):W.grownBy X row:=⟨h.os,h.tape,h.output,h.size,fun j hj _=>h.block j hj⟩
theorem gbyE_set {W X:World} {g:Nat} (h:W.grownBy X (some g)) (i:Nat) (v:Value):W.grownBy (X.setCell ⟨g,i,none⟩ v) (some g):=
 gby_trans h ⟨rfl,rfl,rfl,by simp,fun j hj hne=>Below.heap_setCell _ _ _ _ (fun q=>hne (by rw [q]))⟩
theorem gby_alloc {W X:World} {row:Option Nat} (h:W.grownBy X row) (o:Obj):W.grownBy (X.alloc o) row:=gby_trans h (World.grownBy_alloc X o row)
theorem keeps_cells {B g:Nat} {W X:World} {t:TypeId} {cs:Array Value} (hg:W.grownBy X (some g)) (hb:Blk W g t cs):KeepsFrom B W X:=
 (KeepsOthers.of_grownBy hg (fun j o e ho=>by injection e with e;subst e;unfold Blk at hb;rw [hb] at ho;cases ho;rfl)).from _
set_option maxRecDepth 100000 in
set_option maxHeartbeats 4000000 in
theorem clean_any (P:PlV) (w:World) (hP:PlOk w w.heap.size P) (hg:∀ v∈P.vs,goodAll v.pc.ring=true∧v.n≤128) (hn:P.n≤1000000) (h0:0<(edgesOf P.vs).length) (hne:∀ e∈edgesOf P.vs,e.good∧e.a≠e.b) :
 Calls Tryz.prog 70 #[P.val] w fun r w'=>r=.returned (.bool (cleanB (edgesOf P.vs)))∧Below w.heap.size w w':=by
 obtain ⟨Ao,no,co,outer,A,n,c,vs⟩:=P;show Calls Tryz.prog 70 #[.agg #[.slice Ao no co,.slice A n c]] w _;simp only at hg hn h0 hne ⊢;have HP:=hide hP.ps;have HVL:=hide hP.ps.sl.1;have HGD:=hide hg;have HNE:=hide hne;obtain ⟨w2,hw2,hbs2⟩:∃ w2,((w.alloc (Obj.cells #[.slice Ao no co,.slice A n c] 26)).alloc (Obj.cells #[Value.slice none 0 0] 104))=w2∧Bs w2 [(w.heap.size+1,104,#[Value.slice none 0 0]),(w.heap.size,26,#[.slice Ao no co,.slice A n c])]:=by
  refine ⟨_,rfl,?_⟩;have h:=((Bs.nil w).al #[.slice Ao no co,.slice A n c] 26).al #[Value.slice none 0 0] 104;simpa using h
 have hb2:Below w.heap.size w w2:=hw2 ▸ bal (bal bR _) _;have hs2:w2.heap.size=w.heap.size+2:=by rw [← hw2];simp
 have k1:=hbs2 _ (List.mem_of_getElem? (i:=0) rfl);have k0:=hbs2 _ (List.mem_of_getElem? (i:=1) rfl);have HK1:=hide k1;have HW2:=hide hw2;have HB2:=hide hb2;have HS2:=hide hs2;have c0:=k0.cell;have f0:=k0.frozen;have z0:=k0.lt;clear hP hg hne hw2 hbs2 k0 k1 hb2 hs2;refine (callsIn_wide (n:=10)).1 ?_;refine callsIn_of_wp_marks Tryz.func70 rfl trivial ?_ rfl;simp only [Tryz.ntmps70,List.size_toArray,List.length_cons,List.length_nil,Nat.reduceAdd,Nat.reduceSub,Array.replicate_succ,Array.replicate_zero,List.push_toArray,List.append_toArray,List.nil_append,List.cons_append];refine wpIn_wide.2 ?_;go_upto_region 2 with fail
 rw [HW2.out];go_wp2_with fail
 clear c0 f0 z0;obtain ⟨Inv,hInv⟩:∃ Inv:Act→World→Prop,Inv=fun a' W=>∃ (k:Nat) (ds:List Nat) (u5 u16 u17 u18 u19 u20 u21 u36:Value),a'={ tmps:=#[.agg #[.slice Ao no co,.slice A n c],.pointer (some ⟨w.heap.size,0,none⟩),.bool false,.pointer (some ⟨w.heap.size+1,0,none⟩),undef,u5,undef,undef,undef,undef,undef,undef,.pointer (some ⟨w.heap.size,1,none⟩),.slice A n c,.int .i64 (n:Int),.int .i64 (k:Int),u16,u17,u18,u19,u20,u21,undef,undef,undef,undef,undef,undef,undef,undef,undef,undef,undef,undef,undef,undef,u36,undef,undef,undef,undef,undef,undef,undef,undef,undef,undef,undef,undef,undef,undef,undef,undef,undef,undef,undef,undef,undef,undef,undef,undef,undef,undef,undef,undef,undef,undef,undef,undef,undef],defers:=markL ds }∧k≤n ∧
  Hid (Below w.heap.size w W∧(∃ v,Blk W (w.heap.size+1) 104 #[v]∧W.ownsRow (w.heap.size+2) 109 4 v (edgesOf (vs.take k)).length ((normL (edgesOf (vs.take k))).flatMap Eg.enc))∧Marks W ds∧(∀ D∈ds,w.heap.size+2≤D)∧w.heap.size+2≤W.heap.size):=⟨_,rfl⟩
 have HINV:=hide hInv;clear hInv;refine wp_loop Inv (fun a' _=>n - (intOf (a'.tmps.getD 15 undef)).toNat) ?_ ?_
 ·rw [HINV.out];exact ⟨0,[],_,_,_,_,_,_,_,_,rfl,by omega,hide ⟨HB2.out,⟨_,HK1.out,World.ownsRow_nil _ _ _ _⟩,⟨List.nodup_nil,fun D h=>(by cases h)⟩,fun D h=>(by cases h),by rw [HS2.out];exact Nat.le_refl _⟩⟩
 ·intro a' wr hinv;rw [HINV.out] at hinv;obtain ⟨k,ds,u5,u16,u17,u18,u19,u20,u21,u36,rfl,hkn,HI⟩:=hinv;dsimp only;by_cases hlt:k<n
  ·have hltI:(k:Int)<n:=by omega
   have hkv:k<vs.length:=by rw [HVL.out];exact hlt
   obtain ⟨b,o,rfl,hb,hcs⟩:=HP.out.at (show 0<n by omega);obtain ⟨c0,c1,c2⟩:=hcs k hkv;have hok:=HP.out.ok _ (List.getElem_mem hkv);have hgd:=HGD.out _ (List.getElem_mem hkv);obtain ⟨v,hv⟩:∃ v,vs[k]=v:=⟨_,rfl⟩;rw [hv] at c0 c1 c2 hok hgd;have HV:=hide hv;obtain ⟨⟨id,ring,owner⟩,Av,nv,cv⟩:=v;have c0:=(HI.out.1.cell (p:=⟨b,o+k * 3,none⟩) hb).trans c0;have c1:=(HI.out.1.cell (p:=⟨b,o+k * 3+1,none⟩) hb).trans c1;have c2:=(HI.out.1.cell (p:=⟨b,o+k * 3+2,none⟩) hb).trans c2;have hbr:b<wr.heap.size:=nLl hb HI.out.1.size;simp only at c0 c1 c2;have HOK:=hide hok;have HGD2:=hide hgd;clear hv hcs hok hgd;go_wp2_with (go_at_call 113;(refine (edges_any _ _ _ _).mono ?_);rintro e w3 ⟨rfl,rfl⟩)
   obtain ⟨w5,hw5,hbs5⟩:∃ w5,((wr.alloc (Obj.cells #[Value.int IntKind.i64 id,Value.slice Av nv cv,Value.string owner] 43)).alloc (Obj.cells #[Value.slice Av nv cv] 23))=w5 ∧
    Bs w5 [(wr.heap.size+1,23,#[Value.slice Av nv cv]),(wr.heap.size,43,#[Value.int IntKind.i64 id,Value.slice Av nv cv,Value.string owner])]:=by
    refine ⟨_,rfl,?_⟩;have h:=((Bs.nil wr).al #[Value.int IntKind.i64 id,Value.slice Av nv cv,Value.string owner] 43).al #[Value.slice Av nv cv] 23;simpa using h
   have hb5:Below wr.heap.size wr w5:=hw5 ▸ bal (bal bR _) _;have hs5:w5.heap.size=wr.heap.size+2:=by rw [← hw5];simp
   rw [hw5];clear hw5;have hbw5:Below w.heap.size w w5:=HI.out.1.trans (hb5.mono HI.out.1.size);obtain ⟨-,hI3,hI7,hI8,hI9⟩:=HI.out;have hk5:=hbs5 _ (List.mem_of_getElem? (i:=0) rfl);have hD5:∀ D∈ds,D<wr.heap.size:=hI7.lt;have hnv:nv≤128:=HGD2.out.2;have hrl:ring.length=nv:=HOK.out.pr.1;refine (wpIn_wide (n:=9)).1 ?_;refine wpIn_rangeFunc_ownH (F:=Fence.wide) rfl (by omega) (gf:=151) (lb:=#[.pointer (some ⟨wr.heap.size+1,0,none⟩)]) rfl trivial (enters_of Tryz.func151 (by kernel_rfl) rfl)
    (edges_stopsG 8 (wr.heap.size+1) w.heap.size Av nv cv ring (by omega) w5 (by omega) (by omega) (hk5.cell 0) (HOK.out.pr.below hbw5))
    (fun h k=>h.trans k) (kpE_b (by omega) (by omega)) bR (fun _=>rfl)
    (fun (pre:List (Fin nv)) W=>Below w.heap.size w W∧(∃ v,Blk W (w.heap.size+1) 104 #[v]∧W.ownsRow (w.heap.size+2) 109 4 v (edgesOf (vs.take k)++pre.map (eAt ring)).length ((normL (edgesOf (vs.take k)++pre.map (eAt ring))).flatMap Eg.enc))∧Blk W (wr.heap.size+1) 23 #[Value.slice Av nv cv]∧Marks W ds∧wr.heap.size+2≤W.heap.size)
    (fun cd pre W=>False)
    (fun pre W W' row hs hg hr=>by
      obtain ⟨q1,⟨v,q2,q3⟩,q5,q8,q9⟩:=hs;have hrow:∀ r,row=some r→w5.heap.size≤r:=fun r e=>(hr r e).1
      exact ⟨q1.grown hg q1.size (fun r e=>by have:=hrow r e;omega),⟨v,blk_grown q2 hg (fun r e=>(hr r e).2),row_grown q3 hg (fun r e=>(hr r e).2)⟩,blk_grown q5 hg (fun r e=>(hr r e).2),q8.grown hg (fun D hD e=>by have:=hrow _ e.symm;have:=hD5 D hD;omega),Nat.le_trans q9 hg.size⟩)
    (fun cd pre W W' row hs hg hr=>hs)
    ⟨hbw5,by obtain ⟨v,h1,h2⟩:=hI3;exact ⟨v,h1.below hb5 h1.lt,by simpa using own_later h2 hb5⟩,hk5,hI7.later hb5,by omega⟩
    (fun (x:Fin nv) a' W=>∃ Bx,w5.heap.size≤Bx∧Blk W Bx TEg #[.int .i64 (eAt ring x).a.x,.int .i64 (eAt ring x).a.y,.int .i64 (eAt ring x).b.x,.int .i64 (eAt ring x).b.y]∧(∀ v,Blk W (w.heap.size+1) 104 #[v]→v.ownBlock≠some Bx)∧w.heap.size+1<W.heap.size∧a'={ tmps:=#[.agg #[.slice Ao no co,.slice (some ⟨b,o,none⟩) n c],.pointer (some ⟨w.heap.size,0,none⟩),.bool false,.pointer (some ⟨w.heap.size+1,0,none⟩),undef,.pointer (some ⟨wr.heap.size,0,none⟩),undef,.pointer (some ⟨Bx,0,none⟩),undef,undef,undef,undef,.pointer (some ⟨w.heap.size,1,none⟩),.slice (some ⟨b,o,none⟩) n c,.int .i64 (n:Int),.int .i64 (k:Int),.bool true,.pointer (some ⟨b,o+k * 3,none⟩),.agg #[.int .i64 id,.slice Av nv cv,.string owner],.pointer (some ⟨wr.heap.size,1,none⟩),.slice Av nv cv,.func (.func 151) #[] #[.pointer (some ⟨wr.heap.size+1,0,none⟩)],.int .i64 (x.val:Int),.agg #[.int .i64 (eAt ring x).a.x,.int .i64 (eAt ring x).a.y,.int .i64 (eAt ring x).b.x,.int .i64 (eAt ring x).b.y],undef,undef,undef,undef,undef,undef,undef,undef,undef,undef,undef,undef,u36,undef,undef,undef,undef,undef,undef,undef,undef,undef,undef,undef,undef,undef,undef,undef,undef,undef,undef,undef,undef,undef,undef,undef,undef,undef,undef,undef,undef,undef,undef,undef,undef,undef],defers:=[] })
    (fun x a' _ W W' row hs hg hr=>by
      obtain ⟨Bx,h1,h2,h3,h4,h5⟩:=hs;refine ⟨Bx,h1,blk_grown h2 hg (fun r e=>(hr r e).2),fun v hv=>h3 v ?_,nLl h4 hg.size,h5⟩;unfold Blk at hv ⊢;rw [← hv];exact (hg.block _ h4 (fun e=>by have:=(hr _ e.symm).1;omega)).symm) ?assign ?body ?done ?stop
   case assign=>
    rintro l pre x W K hi hK;dsimp only [encIE];have HH:=hide hi;clear hi;obtain ⟨e,he⟩:∃ e,edgeAt ring x.val=e:=⟨_,rfl⟩;have he2:eAt ring x=e:=he;rw [he];rw [he2] at hK;clear he he2
    gi_wp2
    obtain ⟨q1,⟨v,q2,q3⟩,q5,q8,q9⟩:=HH.out;refine hK _ _ ((KeepsOthers.alloc _ _).from _) (KpE.of_below (bal bR _) q1.size (by omega)) ⟨q1.trans ((bal bR _).mono q1.size),⟨v,q2.alloc _,own_later q3 (bal bR _)⟩,q5.alloc _,q8.later (bal bR _),by simp;omega⟩ ⟨W.heap.size,by omega,Blk.new _ _ _,fun v' hv' e2=>?_,by simp;omega,rfl⟩;have h7:=q2.alloc (Obj.cells #[.int .i64 e.a.x,.int .i64 e.a.y,.int .i64 e.b.x,.int .i64 e.b.y] TEg);unfold Blk at h7 hv';rw [h7] at hv';injection hv' with hv';injection hv' with hv';have:v=v':=by simpa using hv'
    subst this;have:=(q3.lt _ e2).2;omega
   case body=>
    rintro l pre x a' W hl - ⟨q1,⟨v,q2,q3⟩,q5,q8,q9⟩ ⟨Bx,hx1,hx2,hx3,hx4,rfl⟩ hpre;obtain ⟨i0,hi0,hz0,hz1,hz2⟩:=info_parts eg_info;have hnb:=hx3 v q2;obtain ⟨e,he⟩:∃ e,eAt ring x=e:=⟨_,rfl⟩;obtain ⟨S,hS⟩:∃ S,edgesOf (vs.take k)++pre.map (eAt ring)=S:=⟨_,rfl⟩;have hS2:edgesOf (vs.take k)++(pre++[x]).map (eAt ring)=S++[e]:=by rw [List.map_append,List.map_singleton,he,← List.append_assoc,hS]
    rw [he] at hx2;dsimp only;rw [he];rw [hS] at q3;have hSl:S.length≤2000000000:=by
     rw [← hS,List.length_append,List.length_map];have h1:(edgesOf (vs.take k)).length≤n * 128:=by
      have hg:∀ v∈vs.take k,(edgesL v.pc.ring).length≤128:=fun v hv=>by
       have hv':=List.mem_of_mem_take hv;rw [edges_len,(HP.out.ok v hv').pr.1];exact (HGD.out v hv').2
      have h2:∀ (l:List Pv),(∀ v∈l,(edgesL v.pc.ring).length≤128)→(edgesOf l).length≤l.length * 128:=fun l=>by
       induction l with
       | nil=>intro _;simp [edgesOf]
       | cons v l ih=>
         intro h;have h3:=ih (fun y hy=>h y (by simp [hy]));have h4:=h v (by simp);unfold edgesOf at h3 ⊢;rw [List.flatMap_cons,List.length_append,List.length_cons];omega
      have h5:=h2 _ hg;rw [List.length_take] at h5;omega
     omega
    obtain ⟨len,hlen⟩:∃ q,S.length=q:=⟨_,rfl⟩;rw [hlen] at q3 hSl;obtain ⟨A9,c9,rfl,hob⟩:=own_sl q3;have HST0:=hide (And.intro hlen hS2);have HH:=hide (And.intro q1 (And.intro q2 (And.intro q5 (And.intro q8 q9))));have HX2:=hide hx2;have HROW:=hide q3;have HNB:=hide hnb;have k3:=q2.cell;have f3:=q2.frozen;have z3:=q2.lt;have kx:=hx2.cell;have fx:=hx2.frozen;have zx:=hx2.lt;have hq9:wr.heap.size+2≤W.heap.size:=q9;obtain ⟨ov,hov⟩:∃ ov,orderV e.a e.b=ov:=⟨_,rfl⟩;have HO:=hide (fun w0=>by have h:=order_any e.a e.b w0;rw [hov] at h;exact h);clear q1 q2 q3 q5 q8 q9 hlen hS hS2 he hx2 hx3 hnb;by_cases hp:0<ov
    ·have hnz:normE e=e.back:=by unfold normE;rw [hov,if_pos hp]
     have HST:=hide (show (S++[e]).length=len+1∧(normL (S++[e])).flatMap Eg.enc=(normL S).flatMap Eg.enc++[.int .i64 e.b.x,.int .i64 e.b.y,.int .i64 e.a.x,.int .i64 e.a.y] from ⟨by rw [List.length_append,HST0.out.1];rfl,by unfold normL;rw [List.map_append,List.flatMap_append,List.map_singleton,hnz];rfl⟩);have hpd:decide (0<ov)=true:=by simp [hp]
     clear hnz hov hp
     gi_wp2_with (first
      | (refine ⟨trivial,?_⟩;gi_at_call 115;refine (CallsIn.inRound l (callsIn_wide.2 (HO.out _))).mono ?_;rintro r w4 ⟨rfl,hb4⟩;have h3:=HH.out.2.1.below hb4 HH.out.2.1.lt;have hx:=HX2.out.below hb4 HX2.out.lt;have HB4:=hide hb4;clear k3 f3 z3 kx fx zx;have k3:=h3.cell;have f3:=h3.frozen;have z3:=h3.lt;have kx:=hx.cell;have fx:=hx.frozen;have zx:=hx.lt;clear hb4 h3 hx)
      | (refine ⟨trivial,?_⟩;gi_at_call 114;refine (CallsIn.inRound l (callsIn_wide.2 (turned_any e _))).mono ?_;rintro r w7 ⟨rfl,hb7⟩;have hb47:=btr HB4.out hb7;have h3:=HH.out.2.1.below hb47 HH.out.2.1.lt;have hx:=HX2.out.below hb47 HX2.out.lt;clear k3 f3 z3 kx fx zx;have k3:=h3.cell;have f3:=h3.frozen;have z3:=h3.lt;have kx:=hx.cell;have fx:=hx.frozen;have zx:=hx.lt;(obtain ⟨X5,hX5⟩:∃ q,((((w7.setCell ⟨Bx,0,none⟩ (.int .i64 e.b.x)).setCell ⟨Bx,1,none⟩ (.int .i64 e.b.y)).setCell ⟨Bx,2,none⟩ (.int .i64 e.a.x)).setCell ⟨Bx,3,none⟩ (.int .i64 e.a.y)).alloc (.cells #[.int .i64 e.b.x,.int .i64 e.b.y,.int .i64 e.a.x,.int .i64 e.a.y] 109)=q:=⟨_,rfl⟩);have HG5:=hide (show W.grownBy X5 (some Bx) from hX5 ▸ gby_alloc (gbyE_set (gbyE_set (gbyE_set (gbyE_set (gby_below hb47 _) _ _) _ _) _ _) _ _) _);have HROW5:=hide (HROW.out.kept HG5.out (.inr HNB.out));have HBL5:=hide (HH.out.2.1.grown HG5.out (fun e=>by injection e with e;omega));have HX5:=hide hX5;have HF5:=hide (show ∀ j u,[Value.int .i64 e.b.x,Value.int .i64 e.b.y,Value.int .i64 e.a.x,Value.int .i64 e.a.y][j]? = some u→X5.cell? ((⟨w7.heap.size,0,none⟩:Addr).add j)=some u from fun j u hu=>by have h:=four_new ((((w7.setCell ⟨Bx,0,none⟩ (.int .i64 e.b.x)).setCell ⟨Bx,1,none⟩ (.int .i64 e.b.y)).setCell ⟨Bx,2,none⟩ (.int .i64 e.a.x)).setCell ⟨Bx,3,none⟩ (.int .i64 e.a.y)) 109 _ _ _ _ j u hu;rw [← hX5];simpa using h);clear hb7 hb47 h3 hx hX5)
      | (rw [HX5.out];gi_at_builtin;go_loud (refine wpListIn_append_own _ rfl (.tmp 32) (.tmp 34) _ rfl (w.heap.size+2) 109 i0 _ 4 32 Tryz.underlying104 hi0 hz0 hz1 hz2 rfl (by decide) (.slice A9 len c9) len _ rfl HROW5.out ⟨w7.heap.size,0,none⟩ 1 1 [.int .i64 e.b.x,.int .i64 e.b.y,.int .i64 e.a.x,.int .i64 e.a.y] rfl rfl HF5.out (by intro u hu;simp at hu;rcases hu with rfl|rfl|rfl|rfl <;> rfl) (by unfold maxLen;omega) (by omega) (by have:=HG5.out.size;omega) ?_);intro v' w6 hown hgrow _;(obtain ⟨A7,c7,rfl,hob7⟩:=own_sl hown);have HOWN:=hide hown;have HGR:=hide hgrow;have hbl6:Blk w6 (w.heap.size+1) 104 #[.slice A9 len c9]:=(hgrow.block _ HBL5.out.lt (fun e=>by have:=hob _ e.symm;omega)).trans HBL5.out;have HBL6:=hide hbl6;have kl6:=hbl6.cell;have fl6:=hbl6.frozen;have zl6:=hbl6.lt;clear hown hgrow hbl6 k3 f3 z3))
     obtain ⟨q1,q3,q5,q8,q9⟩:=HH.out;have hX:Below w.heap.size W X5:=(Below.refl w.heap.size W).grown HG5.out q1.size (fun r e=>by injection e with e;omega);have hX6:Below w.heap.size W w6:=hX.grown HGR.out (Nat.le_trans q1.size HG5.out.size) (fun r e=>by have:=hob r e;omega);have hset:Below w.heap.size W (w6.setCell ⟨w.heap.size+1,0,none⟩ (.slice A7 (len+1) c7)):=hX6.setCell (p:=⟨w.heap.size+1,0,none⟩) (by simp) _;have hb5:Blk X5 (wr.heap.size+1) 23 #[.slice Av nv cv]:=q5.grown HG5.out (fun e=>by injection e with e;omega);have hb6:Blk w6 (wr.heap.size+1) 23 #[.slice Av nv cv]:=hb5.grown HGR.out (fun e=>own_blk_ne HROW5.out hb5 (by decide) e.symm);have hM5:=q8.grown HG5.out (fun D hD e=>by injection e with e;exact q8.far HX2.out D hD e);have hM6:=hM5.rowgrown HROW5.out HGR.out;refine ⟨((keeps_cells HG5.out HX2.out).trans (keeps_grown HROW5.out HGR.out)).trans ((KeepsOthers.setCell _ _ _).from _),⟨hset,((hb6.far (p:=⟨w.heap.size+1,0,none⟩) (by simp;omega) _).trans q5.symm:_=_)⟩,q1.trans hset,⟨_,HBL6.out.set_ 0 _,?_⟩,hb6.far (p:=⟨w.heap.size+1,0,none⟩) (by simp;omega) _,hM6.setCell (p:=⟨w.heap.size+1,0,none⟩) (fun D hD=>by have:=hI8 D hD;simp;omega) _,by simp;have:=HG5.out.size;have:=HGR.out.size;omega⟩;have h9:=HOWN.out.kept (grownBy_setCell' w6 (w.heap.size+1) (.slice A7 (len+1) c7)) (.inr (fun e=>by have:=hob7 _ e;omega));rw [HST0.out.2,HST.out.1,HST.out.2];exact h9
    ·have hnz:normE e=e:=by unfold normE;rw [hov,if_neg hp]
     have HST:=hide (show (S++[e]).length=len+1∧(normL (S++[e])).flatMap Eg.enc=(normL S).flatMap Eg.enc++[.int .i64 e.a.x,.int .i64 e.a.y,.int .i64 e.b.x,.int .i64 e.b.y] from ⟨by rw [List.length_append,HST0.out.1];rfl,by unfold normL;rw [List.map_append,List.flatMap_append,List.map_singleton,hnz];rfl⟩);have hpd:decide (0<ov)=false:=by simp [hp]
     clear hnz hov hp
     gi_wp2_with (first
      | (refine ⟨trivial,?_⟩;gi_at_call 115;refine (CallsIn.inRound l (callsIn_wide.2 (HO.out _))).mono ?_;rintro r w4 ⟨rfl,hb4⟩;have h3:=HH.out.2.1.below hb4 HH.out.2.1.lt;have hx:=HX2.out.below hb4 HX2.out.lt;clear k3 f3 z3 kx fx zx;have k3:=h3.cell;have f3:=h3.frozen;have z3:=h3.lt;have kx:=hx.cell;have fx:=hx.frozen;have zx:=hx.lt;(obtain ⟨X5,hX5⟩:∃ q,w4.alloc (.cells #[.int .i64 e.a.x,.int .i64 e.a.y,.int .i64 e.b.x,.int .i64 e.b.y] 109)=q:=⟨_,rfl⟩);have HG5:=hide (show W.grownBy X5 (some Bx) from hX5 ▸ gby_alloc (gby_below hb4 _) _);have HROW5:=hide (HROW.out.kept HG5.out (.inr HNB.out));have HBL5:=hide (HH.out.2.1.grown HG5.out (fun e=>by injection e with e;omega));have HX5:=hide hX5;have HF5:=hide (show ∀ j u,[Value.int .i64 e.a.x,Value.int .i64 e.a.y,Value.int .i64 e.b.x,Value.int .i64 e.b.y][j]? = some u→X5.cell? ((⟨w4.heap.size,0,none⟩:Addr).add j)=some u from fun j u hu=>by have h:=four_new w4 109 _ _ _ _ j u hu;rw [← hX5];exact h);clear hb4 h3 hx hX5)
      | (rw [HX5.out];gi_at_builtin;go_loud (refine wpListIn_append_own _ rfl (.tmp 32) (.tmp 34) _ rfl (w.heap.size+2) 109 i0 _ 4 32 Tryz.underlying104 hi0 hz0 hz1 hz2 rfl (by decide) (.slice A9 len c9) len _ rfl HROW5.out ⟨w4.heap.size,0,none⟩ 1 1 [.int .i64 e.a.x,.int .i64 e.a.y,.int .i64 e.b.x,.int .i64 e.b.y] rfl rfl HF5.out (by intro u hu;simp at hu;rcases hu with rfl|rfl|rfl|rfl <;> rfl) (by unfold maxLen;omega) (by omega) (by have:=HG5.out.size;omega) ?_);intro v' w6 hown hgrow _;(obtain ⟨A7,c7,rfl,hob7⟩:=own_sl hown);have HOWN:=hide hown;have HGR:=hide hgrow;have hbl6:Blk w6 (w.heap.size+1) 104 #[.slice A9 len c9]:=(hgrow.block _ HBL5.out.lt (fun e=>by have:=hob _ e.symm;omega)).trans HBL5.out;have HBL6:=hide hbl6;have kl6:=hbl6.cell;have fl6:=hbl6.frozen;have zl6:=hbl6.lt;clear hown hgrow hbl6 k3 f3 z3))
     obtain ⟨q1,q3,q5,q8,q9⟩:=HH.out;have hX:Below w.heap.size W X5:=(Below.refl w.heap.size W).grown HG5.out q1.size (fun r e=>by injection e with e;omega);have hX6:Below w.heap.size W w6:=hX.grown HGR.out (Nat.le_trans q1.size HG5.out.size) (fun r e=>by have:=hob r e;omega);have hset:Below w.heap.size W (w6.setCell ⟨w.heap.size+1,0,none⟩ (.slice A7 (len+1) c7)):=hX6.setCell (p:=⟨w.heap.size+1,0,none⟩) (by simp) _;have hb5:Blk X5 (wr.heap.size+1) 23 #[.slice Av nv cv]:=q5.grown HG5.out (fun e=>by injection e with e;omega);have hb6:Blk w6 (wr.heap.size+1) 23 #[.slice Av nv cv]:=hb5.grown HGR.out (fun e=>own_blk_ne HROW5.out hb5 (by decide) e.symm);have hM5:=q8.grown HG5.out (fun D hD e=>by injection e with e;exact q8.far HX2.out D hD e);have hM6:=hM5.rowgrown HROW5.out HGR.out;refine ⟨((keeps_cells HG5.out HX2.out).trans (keeps_grown HROW5.out HGR.out)).trans ((KeepsOthers.setCell _ _ _).from _),⟨hset,((hb6.far (p:=⟨w.heap.size+1,0,none⟩) (by simp;omega) _).trans q5.symm:_=_)⟩,q1.trans hset,⟨_,HBL6.out.set_ 0 _,?_⟩,hb6.far (p:=⟨w.heap.size+1,0,none⟩) (by simp;omega) _,hM6.setCell (p:=⟨w.heap.size+1,0,none⟩) (fun D hD=>by have:=hI8 D hD;simp;omega) _,by simp;have:=HG5.out.size;have:=HGR.out.size;omega⟩;have h9:=HOWN.out.kept (grownBy_setCell' w6 (w.heap.size+1) (.slice A7 (len+1) c7)) (.inr (fun e=>by have:=hob7 _ e;omega));rw [HST0.out.2,HST.out.1,HST.out.2];exact h9
   case done=>
    rintro D xs W hD rfl ⟨q1,⟨v,q2,q3⟩,q5,q8,q9⟩ hK;rw [fin_edges _ hrl] at q3;have hE:edgesOf (vs.take k)++edgesL ring=edgesOf (vs.take (k+1)):=by rw [edgesOf_take hkv,HV.out]
    rw [hE] at q3;have HH:=hide (And.intro q1 (And.intro q2 (And.intro q3 (And.intro q8 hK))));clear q1 q2 q3 q5 q8 hK;dsimp only;go_wp2_with fail
    obtain ⟨q1,q2,q3,q8,hK⟩:=HH.out;rw [HINV.out];refine ⟨⟨k+1,D :: ds,_,_,_,_,_,_,_,_,rfl,by omega,hide ⟨q1,⟨v,q2,q3⟩,⟨List.nodup_cons.2 ⟨fun h=>by have:=hD5 D h;omega,q8.1⟩,fun E hE=>?_⟩,fun E hE=>?_,by omega⟩⟩,?_⟩
    ·rcases List.mem_cons.1 hE with rfl|h
     ·exact hK
     ·exact q8.2 E h
    ·rcases List.mem_cons.1 hE with rfl|h
     ·omega
     ·exact hI8 E h
    ·simp [intOf];omega
   case stop=>
    rintro D cd pre W hD - h _;exact h.elim
  ·have hltI:¬ (k:Int)<n:=by omega
   obtain rfl:k=n:=by omega
   obtain ⟨q1,⟨v,q2,q3⟩,q7,q8,q9⟩:=HI.out;rw [List.take_of_length_le (by rw [HVL.out];exact Nat.le_refl _)] at q3;obtain ⟨len,hlen⟩:∃ q,(edgesOf vs).length=q:=⟨_,rfl⟩;have HNE2:=hide hlen;rw [hlen] at q3 h0;obtain ⟨g,c9,rfl,hgb⟩:=own_at h0 (by decide) q3;have hcap:len≤c9∧c9≤maxLen:=by
    rcases q3.2 with ⟨e1,_⟩|⟨g',cap',cur,e1,_,_,hnc,hcm,_⟩
    ·cases e1
    ·injection e1 with e1 e2 e3;subst e3;exact ⟨hnc,hcm⟩
   have hlen9:len≤1000000000:=by
    have hg:∀ v∈vs,(edgesL v.pc.ring).length≤128:=fun v hv=>by
     rw [edges_len,(HP.out.ok v hv).pr.1];exact (HGD.out v hv).2
    have h2:∀ (l:List Pv),(∀ v∈l,(edgesL v.pc.ring).length≤128)→(edgesOf l).length≤l.length * 128:=fun l=>by
     induction l with
     | nil=>intro _;simp [edgesOf]
     | cons v l ih=>
       intro h;have h3:=ih (fun y hy=>h y (by simp [hy]));have h4:=h v (by simp);unfold edgesOf at h3 ⊢;rw [List.flatMap_cons,List.length_append,List.length_cons];omega
    have:=h2 vs hg;rw [HVL.out,hlen] at this;omega
   have HQ:=hide (And.intro q1 (And.intro q2 (And.intro q3 (And.intro q7 q8))));have k3:=q2.cell;have f3:=q2.frozen;have z3:=q2.lt;have hc9m:c9≤9223372036854775807:=by have:=hcap.2;unfold maxLen at this;omega
   clear q1 q2 q3 q7 q8 hlen HI;go_wp2_with (first
    | (go_at_call 116;(refine (sorte_any HQ.out.2.2.1 hlen9).mono ?_);rintro e w3 ⟨rfl,l',hp,hs,ho,hg⟩;have h2:=HQ.out.2.1.grown hg (fun e=>by injection e with e;omega);have HSO:=hide (And.intro hp (And.intro hs (And.intro ho hg)));clear k3 f3 z3;have k3:=h2.cell;have f3:=h2.frozen;have z3:=h2.lt;have HBL3:=hide h2;have HLL:=hide (show l'.length=len from by rw [hp.length_eq];unfold normL;rw [List.length_map];exact HNE2.out);clear hp hs ho hg h2)
    | (go_at_call 119;(refine (compact_any (RowE.of_own HSO.out.2.2.1) HLL.out h0 hcap.1 hcap.2).mono ?_);rintro e w4 ⟨rfl,hst⟩;have h2:=HBL3.out.grown hst.2.1 (fun e=>by injection e with e;omega);clear k3 f3 z3;have k3:=h2.cell;have f3:=h2.frozen;have z3:=h2.lt;have HBL4:=hide h2;have HST:=hide hst;clear hst h2))
   have HSC:=hide (sweep_clean HSO.out.1 HSO.out.2.1 HNE.out);rw [HLL.out] at HSC;obtain ⟨dd,hdd⟩:∃ q,ddT l' len=q:=⟨_,rfl⟩;rw [hdd] at HSC HST;simp only [hdd];obtain ⟨m,hm⟩:∃ q,dd.length=q:=⟨_,rfl⟩;have hmc:m≤c9:=by
    have h1:=ddT_len l' len;rw [hdd,hm] at h1;have:=hcap.1;omega
   have HM:=hide hm;simp only [hm];have hB3:Below w.heap.size w w3:=HQ.out.1.grown HSO.out.2.2.2 HQ.out.1.size (fun r e=>by injection e with e;omega);have hB4:Below w.heap.size w w4:=hB3.grown HST.out.2.1 hB3.size (fun r e=>by injection e with e;omega);have hM3:=HQ.out.2.2.2.1.rowgrown HQ.out.2.2.1 HSO.out.2.2.2;have hM4:=hM3.rowgrown HSO.out.2.2.1 HST.out.2.1;obtain ⟨w5,hw5⟩:∃ q,w4.setCell ⟨w.heap.size+1,0,none⟩ (.slice (some ⟨g,0,none⟩) m c9)=q:=⟨_,rfl⟩;have HB5:=hide (show Below w.heap.size w w5 from hw5 ▸ hB4.setCell (p:=⟨w.heap.size+1,0,none⟩) (by simp) _);have hk5:Blk w5 (w.heap.size+1) 104 #[.slice (some ⟨g,0,none⟩) m c9]:=hw5 ▸ HBL4.out.set_ 0 _;have HK5:=hide hk5;have HR5:=hide (show RowE w5 g dd from HST.out.1.heap (hw5 ▸ Below.heap_setCell _ _ _ _ (by simp;omega)));have HM5:=hide (show Marks w5 ds from hw5 ▸ hM4.setCell (p:=⟨w.heap.size+1,0,none⟩) (fun D hD=>by have:=HQ.out.2.2.2.2 D hD;simp;omega) _);have HDS:=hide HQ.out.2.2.2.2;rw [hw5];clear k3 f3 z3 hw5 hB3 hB4 hM3 hM4 HQ HSO HBL3 HBL4 HST hdd hm HNE HK1 HB2 HS2 HW2;have k3:=hk5.cell;have f3:=hk5.frozen;have z3:=hk5.lt;clear hk5;go_wp2_with fail
   clear k3 f3 z3
   go_loopw [43] (fun v43 w6=>∃ i:Nat,v43=.int .i64 (i:Int)∧i≤m∧Hid (Below w.heap.size w w6∧Blk w6 (w.heap.size+1) 104 #[.slice (some ⟨g,0,none⟩) m c9]∧RowE w6 g dd∧Marks w6 ds ∧ ∀ i',i'<i→rowOk dd i')) (fun v43 _=>m - (intOf v43).toNat)
   case atStart=>exact ⟨0,rfl,by omega,hide ⟨HB5.out,HK5.out,HR5.out,HM5.out,fun i' h=>absurd h (Nat.not_lt_zero _)⟩⟩
   case round=>
    clear HB5 HK5 HR5 HM5;obtain ⟨i,rfl,him,HI⟩:=hrel;by_cases hlt:i<m
    ·have hltI:(i:Int)<m:=by omega
     have hid:i<dd.length:=by rw [HM.out];exact hlt
     obtain ⟨r0,r1,r2,r3⟩:=HI.out.2.2.1.c i hid;obtain ⟨e,he⟩:∃ q,dd[i]=q:=⟨_,rfl⟩;have hge:e.good:=he ▸ HSC.out.2 _ (List.getElem_mem hid);rw [he] at r0 r1 r2 r3;have HE:=hide he;have HGE:=hide hge;have hbr:=HI.out.2.2.1.lt;obtain ⟨wa,hwa⟩:∃ q,wr.alloc (.cells #[.int .i64 e.a.x,.int .i64 e.a.y,.int .i64 e.b.x,.int .i64 e.b.y] TEg)=q:=⟨_,rfl⟩;have hba:Below wr.heap.size wr wa:=hwa ▸ bal bR _;have hk9:Blk wa wr.heap.size TEg #[.int .i64 e.a.x,.int .i64 e.a.y,.int .i64 e.b.x,.int .i64 e.b.y]:=hwa ▸ Blk.new _ _ _;have hk3:=HI.out.2.1.below hba HI.out.2.1.lt;have HA:=hide (show Below w.heap.size w wa∧Blk wa (w.heap.size+1) 104 #[.slice (some ⟨g,0,none⟩) m c9]∧RowE wa g dd∧Marks wa ds∧Blk wa wr.heap.size TEg #[.int .i64 e.a.x,.int .i64 e.a.y,.int .i64 e.b.x,.int .i64 e.b.y] from ⟨HI.out.1.trans (hba.mono HI.out.1.size),hk3,HI.out.2.2.1.heap (hba.block g HI.out.2.2.1.lt),HI.out.2.2.2.1.later hba,hk9⟩);have HROWS:=hide HI.out.2.2.2.2;have HWA:=hide hwa;have k3:=hk3.cell;have f3:=hk3.frozen;have z3:=hk3.lt;obtain ⟨b9,hb9⟩:∃ q,wr.heap.size=q:=⟨_,rfl⟩;have hw1:(i:Int)+1≤9223372036854775807:=by omega
     clear he hge hba hk9 hk3 hwa HI;go_upto_region 16 with fail
     rw [HWA.out];simp only [hb9] at HA ⊢;clear r0 r1 r2 r3 HWA hb9;by_cases hcc:c9=i+1
     ·have him1:m=i+1:=by omega
      have hcc1:i+1≤c9:=by omega
      have hROK:=hide (rows_done (l:=dd) (i:=i) (fun j hi hj hij=>by rw [HM.out] at hj;omega));clear hw1;go_wp2_with fail
      go_loopw [53] (fun v53 w6=>v53=.int .i64 0∧w6=wa) (fun _ _=>0)
      case atStart=>exact ⟨rfl,rfl⟩
      case round=>
       obtain ⟨rfl,hw6⟩:=hrel;rw [hw6];go_wp2_with fail
       go_roundw
       case rel=>exact ⟨i+1,by go_num,by omega,hide ⟨HA.out.1,HA.out.2.1,HA.out.2.2.1,HA.out.2.2.2.1,fun i' h=>by
        rcases Nat.lt_or_ge i' i with q|q
        ·exact HROWS.out i' q
        ·obtain rfl:i'=i:=by omega
         exact hROK.out⟩⟩
       case measure=>simp [intOf];omega
     ·have hcc1:i+1≤c9:=by omega
      have hcc2:i+1<c9:=by omega
      have hcc3:i+1≤m:=by omega
      have hcc4:¬ c9=i+1:=hcc;have k3:=HA.out.2.1.cell;have f3:=HA.out.2.1.frozen;have z3:=HA.out.2.1.lt;clear hw1;go_wp2_with fail
      clear k3 f3 z3;obtain ⟨nk,hnk⟩:∃ q,m - (i+1)=q:=⟨_,rfl⟩;obtain ⟨ck,hck⟩:∃ q,c9 - (i+1)=q:=⟨_,rfl⟩;have hnk2:i+1+nk=m:=by omega
      simp only [hnk,hck];clear hnk hck
      go_loopw [53] (fun v53 wz=>∃ t:Nat,v53=.int .i64 (t:Int)∧t≤nk∧Hid (Below w.heap.size w wz∧Blk wz (w.heap.size+1) 104 #[.slice (some ⟨g,0,none⟩) m c9]∧RowE wz g dd∧Marks wz ds∧Blk wz b9 TEg #[.int .i64 e.a.x,.int .i64 e.a.y,.int .i64 e.b.x,.int .i64 e.b.y] ∧ ∀ j (hj:j<dd.length),i<j→j<i+1+t→¬ dd[i].b.x<dd[j].a.x∧apE dd[i] dd[j]=true)) (fun v53 _=>nk - (intOf v53).toNat)
      case atStart=>exact ⟨0,rfl,by omega,hide ⟨HA.out.1,HA.out.2.1,HA.out.2.2.1,HA.out.2.2.2.1,HA.out.2.2.2.2,fun j hj h1 h2=>by omega⟩⟩
      case round=>
       clear HA;obtain ⟨t,rfl,htn,HJ⟩:=hrel;by_cases htl:t<nk
       ·have htlI:(t:Int)<(nk:Int):=by omega
        have hjd:i+1+t<dd.length:=by rw [HM.out];omega
        obtain ⟨r0,r1,r2,r3⟩:=HJ.out.2.2.1.c (i+1+t) hjd;obtain ⟨f,hf⟩:∃ q,dd[i+1+t]=q:=⟨_,rfl⟩;have hgf:f.good:=hf ▸ HSC.out.2 _ (List.getElem_mem hjd);rw [hf,show (i+1+t) * 4=(i+1) * 4+t * 4 from by omega] at r0 r1 r2 r3;have HF:=hide hf;have hbr2:=HJ.out.2.2.1.lt;obtain ⟨wb,hwb⟩:∃ q,wr.alloc (.cells #[.int .i64 f.a.x,.int .i64 f.a.y,.int .i64 f.b.x,.int .i64 f.b.y] TEg)=q:=⟨_,rfl⟩;have hbb:Below wr.heap.size wr wb:=hwb ▸ bal bR _;have hk11:Blk wb wr.heap.size TEg #[.int .i64 f.a.x,.int .i64 f.a.y,.int .i64 f.b.x,.int .i64 f.b.y]:=hwb ▸ Blk.new _ _ _;have hk9:=HJ.out.2.2.2.2.1.below hbb HJ.out.2.2.2.2.1.lt;have HQ:=hide (show Below w.heap.size w wb∧Blk wb (w.heap.size+1) 104 #[.slice (some ⟨g,0,none⟩) m c9]∧RowE wb g dd∧Marks wb ds∧Blk wb b9 TEg #[.int .i64 e.a.x,.int .i64 e.a.y,.int .i64 e.b.x,.int .i64 e.b.y] from ⟨HJ.out.1.trans (hbb.mono HJ.out.1.size),HJ.out.2.1.below hbb HJ.out.2.1.lt,HJ.out.2.2.1.heap (hbb.block g HJ.out.2.2.1.lt),HJ.out.2.2.2.1.later hbb,hk9⟩);have HWB:=hide hwb;have HPRE:=hide HJ.out.2.2.2.2.2;have k9:=hk9.cell;have f9:=hk9.frozen;have z9:=hk9.lt;have k11:=hk11.cell;have f11:=hk11.frozen;have z11:=hk11.lt;have HAP:=hide (fun w0=>apart_any e f w0 HGE.out hgf);clear hf hgf hbb hk11 hk9 hwb HJ;go_upto_region 19 with fail
        rw [HWB.out];clear HWB r0 r1 r2 r3;by_cases hb:e.b.x<f.a.x
        ·have hROK:=hide (rows_break (l:=dd) hid hjd (by omega) (by rw [HE.out,HF.out];exact hb) (fun k hk h1 h2=>HPRE.out k hk h1 h2));go_wp2_with fail
         go_roundw
         case rel=>exact ⟨i+1,by go_num,by omega,hide ⟨HQ.out.1,HQ.out.2.1,HQ.out.2.2.1,HQ.out.2.2.2.1,fun i' h=>by
          rcases Nat.lt_or_ge i' i with q|q
          ·exact HROWS.out i' q
          ·obtain rfl:i'=i:=by omega
           exact hROK.out⟩⟩
         case measure=>simp [intOf];omega
        ·have HNB:=hide hb;obtain ⟨tb,htb⟩:∃ q,apE e f=q:=⟨_,rfl⟩;rw [htb] at HAP;have HTB:=hide htb;clear htb;cases tb
         ·have HNO:=hide (rows_no (l:=dd) hid hjd (by omega) (by rw [HE.out,HF.out];exact HNB.out) (by rw [HE.out,HF.out];exact HTB.out) (fun k hk h1 h2=>HPRE.out k hk h1 h2));have HCF:=hide (show cleanB (edgesOf vs)=false from by
           cases hc:cleanB (edgesOf vs)
           ·rfl
           ·exact absurd (HSC.out.1.2 hc) HNO.out)
          go_wp2_with (go_at_call 120;(refine (HAP.out _).mono ?_);rintro r wc ⟨rfl,hbc⟩;have HBC:=hide hbc;clear hbc)
          have hM:=HQ.out.2.2.2.1.later HBC.out;exact retMs (v:=.bool false) ds hM (by simp [results,Tryz.results70,go_sem]) ⟨by rw [HCF.out],shut_below hM (fun E hE=>by have:=HDS.out E hE;omega) (HQ.out.1.trans (HBC.out.mono HQ.out.1.size))⟩
         ·go_wp2_with (go_at_call 120;(refine (HAP.out _).mono ?_);rintro r wc ⟨rfl,hbc⟩;have HBC:=hide hbc;clear hbc)
          go_roundw
          case rel=>
           obtain ⟨p1,p2,p3,p4,p5⟩:=HQ.out;exact ⟨t+1,by go_num,by omega,hide ⟨p1.trans (HBC.out.mono p1.size),p2.below HBC.out p2.lt,p3.heap (HBC.out.block g p3.lt),p4.later HBC.out,p5.below HBC.out p5.lt,fun j hj h1 h2=>by
            rcases Nat.lt_or_ge j (i+1+t) with q|q
            ·obtain ⟨x1,x2⟩:=HPRE.out j hj h1 q;exact ⟨by omega,x2⟩
            ·obtain rfl:j=i+1+t:=by omega
             rw [HE.out,HF.out];exact ⟨by have:=HNB.out;omega,HTB.out⟩⟩⟩
          case measure=>simp [intOf];omega
       ·have htlI:¬ (t:Int)<(nk:Int):=by omega
        have hROK:=hide (rows_done (l:=dd) (i:=i) (fun j hi hj hij=>HJ.out.2.2.2.2.2 j hj hij (by rw [HM.out] at hj;omega)));have HQ:=hide HJ.out;clear HJ;go_wp2_with fail
        go_roundw
        case rel=>exact ⟨i+1,by go_num,by omega,hide ⟨HQ.out.1,HQ.out.2.1,HQ.out.2.2.1,HQ.out.2.2.2.1,fun i' h=>by
         rcases Nat.lt_or_ge i' i with q|q
         ·exact HROWS.out i' q
         ·obtain rfl:i'=i:=by omega
          exact hROK.out⟩⟩
        case measure=>simp [intOf];omega
    ·have hltI:¬ (i:Int)<m:=by omega
     have HSW:=hide (HSC.out.1.1 (sweep_rows.2 (fun i'=>by
      rcases Nat.lt_or_ge i' i with q|q
      ·exact HI.out.2.2.2.2 i' q
      ·intro j hi;rw [HM.out] at hi;omega)))
     have HQ1:=hide HI.out.1;have HQM:=hide HI.out.2.2.2.1;clear HI;go_wp2_with fail
     exact retMs (v:=.bool true) ds HQM.out (by simp [results,Tryz.results70,go_sem]) ⟨by rw [HSW.out],shut_below HQM.out (fun E hE=>by have:=HDS.out E hE;omega) HQ1.out⟩
end Go.Proofs.YtacinobmcgcccaaGreatDoor
