/- ring.simple. -/
import Derived.Test.YtacinobmcgcccaaGreatDoorL09
import Derived.Test.YtacinobmcgcccaaGreatDoorL07
import Derived.Test.YtacinobmcgcccaaGreatDoorL10
set_option linter.unusedSimpArgs false
set_option linter.unusedVariables false
namespace Go.Proofs.YtacinobmcgcccaaGreatDoor
open Go.RowKit Go.Shelf
attribute [local go_sem] Oper.semAt_some
def wantE (n i j:Nat):Int:=if j=i+1∨(i=0∧j=n - 1) then 1 else 0
def simpleB (r:List Pt):Bool:=(List.range r.length).all fun i=>(List.range r.length).all fun j=>!decide (i<j)||decide (meetE (edgeAt r i) (edgeAt r j)=wantE r.length i j)
theorem simple_iff {r:List Pt}:simpleB r=true ↔ ∀ i j,i<j→j<r.length→meetE (edgeAt r i) (edgeAt r j)=wantE r.length i j:=by
 unfold simpleB;simp only [List.all_eq_true,List.mem_range,Bool.or_eq_true,Bool.not_eq_true',decide_eq_false_iff_not,decide_eq_true_eq];constructor
 ·intro h i j hij hj;rcases h i (by omega) j hj with q|q
  ·exact absurd hij q
  ·exact q
 ·intro h i hi j hj;rcases Nat.lt_or_ge i j with q|q
  ·exact .inr (h i j q hj)
  ·exact .inl (by omega)
theorem meetA_in {r:List Pt} (hg:goodAll r=true) {a b p q:Pt} (ha:a∈r) (hb:b∈r) (hp:p∈r) (hq:q∈r):meetA a b p q=meetE ⟨a,b⟩ ⟨p,q⟩∧errA [a,b,p,q]=0:=by
 have h4:=good4_iff.2 ⟨good_mem hg ha,good_mem hg hb,good_mem hg hp,good_mem hg hq⟩;unfold meetA errA meetE;rw [if_pos h4,if_pos h4,meet_eq (good_mem hg ha) (good_mem hg hb) (good_mem hg hp) (good_mem hg hq)];exact ⟨rfl,rfl⟩
theorem simple_no {r:List Pt} {i j:Nat} (hij:i<j) (hj:j<r.length) (h:meetE (edgeAt r i) (edgeAt r j)≠wantE r.length i j):simpleB r=false:=by
 cases hs:simpleB r
 ·rfl
 ·exact absurd (simple_iff.1 hs i j hij hj) h
theorem want_yes {n i j:Nat} (h:j=i+1∨(i=0∧j=n - 1)):wantE n i j=1:=if_pos h
theorem want_no {n i j:Nat} (h:¬ (j=i+1∨(i=0∧j=n - 1))):wantE n i j=0:=if_neg h
set_option maxRecDepth 100000 in
set_option maxHeartbeats 4000000 in
theorem simple_any (r:List Pt) (A:Option Addr) (n c:Nat) (w:World) (hr:PR w w.heap.size A n r) (hn:n≤128) (hg:goodAll r=true) :
 Calls Tryz.prog 92 #[.slice A n c] w fun e w'=>e=.returned (.bool (simpleB r))∧Below w.heap.size w w':=by
 have HR:=hide hr;have HLEN:=hide hr.1;have HGD:=hide hg;clear hr hg;refine (callsIn_wide (n:=10)).1 ?_;refine callsIn_of_wp_marks Tryz.func92 rfl trivial ?_ rfl;simp only [Tryz.ntmps92,List.size_toArray,List.length_cons,List.length_nil,Nat.reduceAdd,Nat.reduceSub,Array.replicate_succ,Array.replicate_zero,List.push_toArray,List.append_toArray,List.nil_append,List.cons_append];refine wpIn_wide.2 ?_;go_wp2_with (go_at_call 113;(refine (edges_any _ _ _ _).mono ?_);rintro e w3 ⟨rfl,rfl⟩)
 obtain ⟨w4,hw4,hbs,hb4⟩:∃ w4,((((w.alloc (Obj.cells #[Value.slice A n c] 23)).alloc (Obj.cells #[Value.bool false] 4)).alloc (Obj.cells #[Value.int IntKind.i64 n] 3)).alloc (Obj.cells #[Value.slice A n c] 23))=w4 ∧
  Bs w4 [(w.heap.size+1+1+1,23,#[Value.slice A n c]),(w.heap.size+1+1,3,#[Value.int IntKind.i64 n]),(w.heap.size+1,4,#[Value.bool false]),(w.heap.size,23,#[Value.slice A n c])]∧Below w.heap.size w w4:=⟨_,rfl,by
   have h:=((((Bs.nil w).al #[Value.slice A n c] 23).al #[Value.bool false] 4).al #[Value.int IntKind.i64 n] 3).al #[Value.slice A n c] 23;simpa using h,bal (bal (bal (bal bR _) _) _) _⟩
 have hs4:w4.heap.size=w.heap.size+4:=by rw [← hw4];simp
 rw [hw4];clear hw4;have hb4':=(hbs _ (List.mem_of_getElem? (i:=0) rfl));refine (wpIn_wide (n:=9)).1 ?_;refine wpIn_rangeFunc_ownH (F:=Fence.wide) rfl (by omega) (gf:=151) (lb:=#[.pointer (some ⟨w.heap.size+1+1+1,0,none⟩)]) rfl trivial (enters_of Tryz.func151 (by kernel_rfl) rfl)
  (edges_stopsF 8 (w.heap.size+1+1+1) w.heap.size A n c r (by omega) w4 (by omega) (by omega) (hb4'.cell 0) (HR.out.below hb4))
  (fun h k=>h.trans k) (kpE_b (by omega) (by omega)) bR (fun _=>rfl)
  (fun (pre:List (Fin n)) W=>Below w.heap.size w W∧Blk W w.heap.size 23 #[Value.slice A n c]∧Blk W (w.heap.size+1) 4 #[Value.bool false]∧Blk W (w.heap.size+1+1) 3 #[Value.int IntKind.i64 n]∧w.heap.size+4≤W.heap.size ∧ ∀ x∈pre,∀ j,x.val<j→j<n→meetE (edgeAt r x.val) (edgeAt r j)=wantE n x.val j)
  (fun cd _ W=>cd=.ret∧Below w.heap.size w W∧Blk W (w.heap.size+1) 4 #[Value.bool false]∧simpleB r=false)
  (fun pre W W' row hs hg hr=>⟨hs.1.grown hg hs.1.size (fun r e=>by have:=(hr r e).1;omega),blk_grown hs.2.1 hg (fun r e=>(hr r e).2),blk_grown hs.2.2.1 hg (fun r e=>(hr r e).2),blk_grown hs.2.2.2.1 hg (fun r e=>(hr r e).2),Nat.le_trans hs.2.2.2.2.1 hg.size,hs.2.2.2.2.2⟩)
  (fun cd pre W W' row hs hg hr=>⟨hs.1,hs.2.1.grown hg hs.2.1.size (fun r e=>by have:=(hr r e).1;omega),blk_grown hs.2.2.1 hg (fun r e=>(hr r e).2),hs.2.2.2⟩)
  ⟨hb4,hbs _ (List.mem_of_getElem? (i:=3) rfl),hbs _ (List.mem_of_getElem? (i:=2) rfl),hbs _ (List.mem_of_getElem? (i:=1) rfl),by omega,fun x hx=>by cases hx⟩
  (fun (x:Fin n) a' W=>∃ Bx,w.heap.size+4≤Bx∧Blk W Bx 109 #[.int .i64 (edgeAt r x.val).a.x,.int .i64 (edgeAt r x.val).a.y,.int .i64 (edgeAt r x.val).b.x,.int .i64 (edgeAt r x.val).b.y]∧a'={ tmps:=#[.slice A n c,.pointer (some ⟨w.heap.size,0,none⟩),.pointer (some ⟨w.heap.size+1,0,none⟩),.pointer (some ⟨w.heap.size+1+1,0,none⟩),.int .i64 (x.val:Int),.pointer (some ⟨Bx,0,none⟩),undef,undef,undef,undef,.slice A n c,.int .i64 (n:Int),.slice A n c,.func (.func 151) #[] #[.pointer (some ⟨w.heap.size+1+1+1,0,none⟩)],.int .i64 (x.val:Int),.agg #[.int .i64 (edgeAt r x.val).a.x,.int .i64 (edgeAt r x.val).a.y,.int .i64 (edgeAt r x.val).b.x,.int .i64 (edgeAt r x.val).b.y],undef,undef,undef,undef,undef,undef,undef,undef,undef,undef,undef,undef,undef,undef,undef,undef,undef,undef,undef,undef,undef,undef,undef,undef,undef,undef,undef,undef,undef,undef,undef,undef,undef,undef,undef,undef,undef,undef,undef,undef,undef,undef,undef],defers:=[] })
  (fun x a' _ W W' row hs hg hr=>by obtain ⟨Bx,h1,h2,h3⟩:=hs;exact ⟨Bx,h1,blk_grown h2 hg (fun r e=>(hr r e).2),h3⟩) ?assign ?body ?done ?stop
 case assign=>
  rintro l pre x W K hi hK;dsimp only [encIE];obtain ⟨h1,h2,h3,h4,h5,h6⟩:=hi;have HH:=hide (And.intro h1 (And.intro h2 (And.intro h3 (And.intro h4 (And.intro h5 h6)))));clear h1 h2 h3 h4 h5 h6
  gi_wp2
  obtain ⟨h1,h2,h3,h4,h5,h6⟩:=HH.out;exact hK _ _ ((KeepsOthers.alloc _ _).from _) (KpE.of_below (bal bR _) h1.size (by omega)) ⟨h1.trans ((bal bR _).mono h1.size),h2.alloc _,h3.alloc _,h4.alloc _,by simp;omega,h6⟩ ⟨W.heap.size,h5,Blk.new _ _ _,rfl⟩
 case body=>
  rintro l pre x a' W hl - hi ⟨Bx,hx1,hx2,rfl⟩ hpre;obtain ⟨i,hin⟩:=x;dsimp only at hx2 ⊢;have HI0:=hide hi;have HX2:=hide hx2;have hme:=edge_good HGD.out (mem_edges.2 ⟨i,by rw [HLEN.out];exact hin,rfl⟩);have HME0:=hide hme;clear hi hx2 hme;obtain ⟨e,he⟩:∃ e,edgeAt r i=e:=⟨_,rfl⟩;rw [he] at HX2 HME0 ⊢;have HE:=hide he;clear he
  gi_wp2
  gi_loopw [6] (fun v6 wr=>∃ j:Nat,v6=.int .i64 (j:Int)∧i<j∧j≤n∧Hid (Below W.heap.size W wr ∧ ∀ j',i<j'→j'<j→meetE (edgeAt r i) (edgeAt r j')=wantE n i j')) (fun v6 _=>n - (intOf v6).toNat)
  case atStart=>exact ⟨i+1,by go_num,by omega,by omega,hide ⟨Below.refl _ _,fun j' h1 h2=>by omega⟩⟩
  case round=>
   obtain ⟨j,rfl,hij,hjn,HI⟩:=hrel;have hblr:=(HI0.out.2.1.below HI.out.1 HI0.out.2.1.lt);have hbln:=(HI0.out.2.2.2.1.below HI.out.1 HI0.out.2.2.2.1.lt);have kn:=hbln.cell;have fn:=hbln.frozen;have zn:=hbln.lt;by_cases hlt:j<n
   ·obtain ⟨b,o,rfl,hb,hcs⟩:=HR.out.at (show 0<n by omega);have hlt2:(j+1) % n<n:=Nat.mod_lt _ (by omega);have hj1:j<r.length:=by rw [HLEN.out];exact hlt
    obtain ⟨k2,hk2⟩:∃ q,(j+1) % n=q:=⟨_,rfl⟩;rw [hk2] at hlt2;have hj2:k2<r.length:=by rw [HLEN.out];exact hlt2
    obtain ⟨c0,c1⟩:=hcs j hj1;obtain ⟨d0,d1⟩:=hcs k2 hj2;have ek:Int.tmod ((j:Int)+1) (n:Int)=(k2:Int):=by
     rw [← hk2];have:=Int.natCast_emod (j+1) n;rw [Int.tmod_eq_emod_of_nonneg (by omega)];rw [this];rfl
    have dn0:((n:Int) == 0)=false:=by simp;omega
    obtain ⟨p,hp⟩:∃ p,r[j]=p:=⟨_,rfl⟩;obtain ⟨q,hq⟩:∃ q,r[k2]=q:=⟨_,rfl⟩;have hpm:p∈r:=hp ▸ List.getElem_mem hj1;have hqm:q∈r:=hq ▸ List.getElem_mem hj2;have HEJ:=hide (show edgeAt r j=⟨p,q⟩ from by unfold edgeAt;rw [HLEN.out,hk2];simp [List.getD,hj1,hj2,hp,hq]);rw [hp] at c0 c1;rw [hq] at d0 d1;have hbw:=HI0.out.1.trans (HI.out.1.mono HI0.out.1.size);have c0:=(hbw.cell (p:=⟨b,o+j * 2,none⟩) hb).trans c0;have c1:=(hbw.cell (p:=⟨b,o+j * 2+1,none⟩) hb).trans c1;have d0:=(hbw.cell (p:=⟨b,o+k2 * 2,none⟩) hb).trans d0;have d1:=(hbw.cell (p:=⟨b,o+k2 * 2+1,none⟩) hb).trans d1;have hbr:b<wr.heap.size:=nLl hb hbw.size;have HCP:=hide (show ∀ w',Below wr.heap.size wr w'→w'.cell? ⟨b,o+j * 2,none⟩=some (.int .i64 p.x)∧w'.cell? ⟨b,o+j * 2+1,none⟩=some (.int .i64 p.y)∧b<w'.heap.size from fun w' h=>⟨(h.cell (p:=⟨b,o+j * 2,none⟩) hbr).trans c0,(h.cell (p:=⟨b,o+j * 2+1,none⟩) hbr).trans c1,nLl hbr h.size⟩);have HCQ:=hide (show ∀ w',Below wr.heap.size wr w'→w'.cell? ⟨b,o+k2 * 2,none⟩=some (.int .i64 q.x)∧w'.cell? ⟨b,o+k2 * 2+1,none⟩=some (.int .i64 q.y)∧b<w'.heap.size from fun w' h=>⟨(h.cell (p:=⟨b,o+k2 * 2,none⟩) hbr).trans d0,(h.cell (p:=⟨b,o+k2 * 2+1,none⟩) hbr).trans d1,nLl hbr h.size⟩);have HCR:=hide (show ∀ w',Below wr.heap.size wr w'→w'.cell? ⟨w.heap.size,0,none⟩=some (.slice (some ⟨b,o,none⟩) n c)∧w.heap.size<w'.heap.size from fun w' h=>⟨(hblr.below h hblr.lt).cell 0,(hblr.below h hblr.lt).lt⟩);have HCN:=hide (show ∀ w',Below wr.heap.size wr w'→w'.cell? ⟨w.heap.size+1+1,0,none⟩=some (.int .i64 (n:Int))∧w.heap.size+1+1<w'.heap.size from fun w' h=>⟨(hbln.below h hbln.lt).cell 0,(hbln.below h hbln.lt).lt⟩);have hxx:=HX2.out.below HI.out.1 HX2.out.lt;have HCX:=hide (show ∀ w',Below wr.heap.size wr w'→w'.cell? ⟨Bx,0,none⟩=some (.int .i64 e.a.x)∧w'.cell? ⟨Bx,1,none⟩=some (.int .i64 e.a.y)∧w'.cell? ⟨Bx,2,none⟩=some (.int .i64 e.b.x)∧w'.cell? ⟨Bx,3,none⟩=some (.int .i64 e.b.y)∧Bx<w'.heap.size from fun w' h=>⟨(hxx.below h hxx.lt).cell 0,(hxx.below h hxx.lt).cell 1,(hxx.below h hxx.lt).cell 2,(hxx.below h hxx.lt).cell 3,(hxx.below h hxx.lt).lt⟩);obtain ⟨mv,hmv⟩:∃ mv,meetE e ⟨p,q⟩=mv:=⟨_,rfl⟩;have hma:=meetA_in HGD.out HME0.out.1 HME0.out.2 hpm hqm;have HME:=hide (fun w0=>by
     have h1:=meet_any e.a e.b p q w0;rw [hma.1,hma.2,show (⟨e.a,e.b⟩:Eg)=e from rfl,hmv] at h1;exact h1)
    have HMV:=hide (show meetE (edgeAt r i) (edgeAt r j)=mv from by rw [HE.out,HEJ.out,hmv]);have hj64:(j:Int)+1≤9223372036854775807:=by omega
    have hwr:IntKind.i64.wrap ((j:Int)+1)=(j:Int)+1:=by rw [IntKind.wrap_i64];omega
    have hn0:¬ n=0:=by omega
    have hltI:(j:Int)<n:=by omega
    clear hcs c0 c1 d0 d1 hbw hxx hma hmv hp hq hpm hqm hk2 hblr hbln;obtain ⟨wt,hww,hdd⟩:∃ wt:Int,wantE n i j=wt∧((((j:Int) == (i:Int)+1)=true∧wt=1)∨(((j:Int) == (i:Int)+1)=false∧((i:Int) == 0)=true∧((j:Int) == (n:Int) - 1)=true∧wt=1) ∨
     (((j:Int) == (i:Int)+1)=false∧((i:Int) == 0)=true∧((j:Int) == (n:Int) - 1)=false∧wt=0)∨(((j:Int) == (i:Int)+1)=false∧((i:Int) == 0)=false∧wt=0)):=by
     by_cases h1:j=i+1
     ·exact ⟨1,want_yes (n:=n) (.inl h1),.inl ⟨by simp;omega,rfl⟩⟩
     ·have dj1:((j:Int) == (i:Int)+1)=false:=by simp;omega
      by_cases h2:i=0
      ·have di0:((i:Int) == 0)=true:=by simp;omega
       by_cases h3:j=n - 1
       ·exact ⟨1,want_yes (n:=n) (.inr ⟨h2,h3⟩),.inr (.inl ⟨dj1,di0,by simp;omega,rfl⟩)⟩
       ·exact ⟨0,want_no (n:=n) (show ¬ (j=i+1∨(i=0∧j=n - 1)) from fun h=>h.elim h1 (fun h=>h3 h.2)),.inr (.inr (.inl ⟨dj1,di0,by simp;omega,rfl⟩))⟩
      ·exact ⟨0,want_no (n:=n) (show ¬ (j=i+1∨(i=0∧j=n - 1)) from fun h=>h.elim h1 (fun h=>h2 h.1)),.inr (.inr (.inr ⟨dj1,by simp;omega,rfl⟩))⟩
    have HWW:=hide hww;clear hww;rcases hdd with ⟨dj1,hwt⟩|⟨dj1,di0,dn1,hwt⟩|⟨dj1,di0,dn1,hwt⟩|⟨dj1,di0,hwt⟩
    all_goals
     have HWT:=hide hwt;clear hwt
     gi_wp2
     refine wpIn_region_dag (by kernel_rfl) (by kernel_rfl) 59 0
      [⟨some 38,[0],[],[],[],[],fun _ _ v _=>v=.pointer (some ⟨Bx,0,none⟩)⟩,
       ⟨some 39,[0],[],[],[0],[],fun _ _ v _=>v=.agg #[.int .i64 e.a.x,.int .i64 e.a.y]⟩,
       ⟨some 40,[0],[],[],[],[],fun _ _ v _=>v=.pointer (some ⟨Bx,2,none⟩)⟩,
       ⟨some 41,[0],[],[],[2],[],fun _ _ v _=>v=.agg #[.int .i64 e.b.x,.int .i64 e.b.y]⟩,
       ⟨some 42,[0],[],[],[],[],fun _ _ v _=>v=.slice (some ⟨b,o,none⟩) n c⟩,
       ⟨some 43,[0],[],[],[],[],fun _ _ v _=>v=.int .i64 (j:Int)⟩,
       ⟨some 44,[0],[],[],[4,5],[],fun _ _ v _=>v=.pointer (some ⟨b,o+j * 2,none⟩)⟩,
       ⟨some 45,[0],[],[],[6],[],fun _ _ v _=>v=.agg #[.int .i64 p.x,.int .i64 p.y]⟩,
       ⟨some 46,[0],[],[],[],[],fun _ _ v _=>v=.slice (some ⟨b,o,none⟩) n c⟩,
       ⟨some 47,[0],[],[],[],[],fun _ _ v _=>v=.int .i64 (j:Int)⟩,
       ⟨some 48,[0],[],[],[9],[],fun _ _ v _=>v=.int .i64 ((j:Int)+1)⟩,
       ⟨some 49,[0],[],[],[],[],fun _ _ v _=>v=.int .i64 (n:Int)⟩,
       ⟨some 50,[0],[],[],[10,11],[],fun _ _ v _=>v=.int .i64 (k2:Int)⟩,
       ⟨some 51,[0],[],[],[8,12],[],fun _ _ v _=>v=.pointer (some ⟨b,o+k2 * 2,none⟩)⟩,
       ⟨some 52,[0],[],[],[13],[],fun _ _ v _=>v=.agg #[.int .i64 q.x,.int .i64 q.y]⟩,
       ⟨some 53,[0],[],[],[1,3,7,14],[],fun _ _ v _=>v=.tuple #[.int .i64 mv,.int .i64 0]⟩,
       ⟨some 37,[0],[],[],[15],[],fun _ _ v _=>v=.tuple #[.int .i64 mv,.int .i64 0]⟩,
       ⟨some 54,[0],[],[],[16],[],fun _ _ v _=>v=.int .i64 mv⟩,
       ⟨some 55,[0],[],[],[16],[],fun _ _ v _=>v=.int .i64 0⟩,
       ⟨some 8,[0],[],[],[17],[],fun _ _ v _=>v=.int .i64 mv⟩,
       ⟨some 9,[0],[],[],[18],[],fun _ _ v _=>v=.int .i64 0⟩] (fun _ w'=>Below wr.heap.size wr w') (fun _ _ _ _ _=>True) (fun _ w w'=>Below w.heap.size w w') ?gu ?ru ?put [38,39,40,41,42,43,44,45,46,47,48,49,50,51,52,53,37,54,55,8,9] rfl (by kernel_rfl) rfl ?g0 ?keep ?steps ?fin
     case ru=>
      intro e he s a v w w' hu hv;simp only [List.mem_cons,List.not_mem_nil,or_false] at he;rcases he with rfl|rfl|rfl|rfl|rfl|rfl|rfl|rfl|rfl|rfl|rfl|rfl|rfl|rfl|rfl|rfl|rfl|rfl|rfl|rfl|rfl
      all_goals first|exact hv
     case put=>
      intro e he s a d u v w hnd hv;simp only [List.mem_cons,List.not_mem_nil,or_false] at he;rcases he with rfl|rfl|rfl|rfl|rfl|rfl|rfl|rfl|rfl|rfl|rfl|rfl|rfl|rfl|rfl|rfl|rfl|rfl|rfl|rfl|rfl
      all_goals first|exact hv
     case keep=>
      intro e he s s' a v w w' hsl hm ht hv;simp only [List.mem_cons,List.not_mem_nil,or_false] at he;rcases he with rfl|rfl|rfl|rfl|rfl|rfl|rfl|rfl|rfl|rfl|rfl|rfl|rfl|rfl|rfl|rfl|rfl|rfl|rfl|rfl|rfl
      all_goals first|exact hv
     case steps=>
      refine ⟨?_,?_,?_,?_,?_,?_,?_,?_,?_,?_,?_,?_,?_,?_,?_,?_,?_,?_,?_,?_,?_,trivial⟩
      ·intro st hst ac w3 hg hG hd K hK;dsimp only at hst hG hK;refine op_in (fun _ h=>by cases h) ?_;have k5:=hg.kp 5 (by simp);(try simp [Act.eval] at k5);go_simp;exact hK _ _ bR rfl
      ·intro st hst ac w3 hg hG hd K hK;dsimp only at hst hG hK;refine op_in (fun _ h=>by cases h) ?_;obtain ⟨k0,k1,k2,k3,zz⟩:=HCX.out _ hG;clear hG;have f0:=hd 0 (by simp) _ rfl _ rfl;(try simp [Act.eval] at f0);go_simp;exact hK _ _ bR rfl
      ·intro st hst ac w3 hg hG hd K hK;dsimp only at hst hG hK;refine op_in (fun _ h=>by cases h) ?_;have k5:=hg.kp 5 (by simp);(try simp [Act.eval] at k5);go_simp;exact hK _ _ bR rfl
      ·intro st hst ac w3 hg hG hd K hK;dsimp only at hst hG hK;refine op_in (fun _ h=>by cases h) ?_;obtain ⟨k0,k1,k2,k3,zz⟩:=HCX.out _ hG;clear hG;have f2:=hd 2 (by simp) _ rfl _ rfl;(try simp [Act.eval] at f2);go_simp;exact hK _ _ bR rfl
      ·intro st hst ac w3 hg hG hd K hK;dsimp only at hst hG hK;refine op_in (fun _ h=>by cases h) ?_;obtain ⟨k0,zz⟩:=HCR.out _ hG;clear hG;have k1:=hg.kp 1 (by simp);(try simp [Act.eval] at k1);go_simp;exact hK _ _ bR rfl
      ·intro st hst ac w3 hg hG hd K hK;dsimp only at hst hG hK;refine op_in (fun _ h=>by cases h) ?_;exact op_move _ rfl (hK _ _ bR (hg.kp 6 (by simp)))
      ·intro st hst ac w3 hg hG hd K hK;dsimp only at hst hG hK;refine op_in (fun _ h=>by cases h) ?_;have f4:=hd 4 (by simp) _ rfl _ rfl;have f5:=hd 5 (by simp) _ rfl _ rfl;(try simp [Act.eval] at f4);(try simp [Act.eval] at f5);go_simp;exact hK _ _ bR rfl
      ·intro st hst ac w3 hg hG hd K hK;dsimp only at hst hG hK;refine op_in (fun _ h=>by cases h) ?_;obtain ⟨k0,k1,zz⟩:=HCP.out _ hG;clear hG;have f6:=hd 6 (by simp) _ rfl _ rfl;(try simp [Act.eval] at f6);go_simp;exact hK _ _ bR rfl
      ·intro st hst ac w3 hg hG hd K hK;dsimp only at hst hG hK;refine op_in (fun _ h=>by cases h) ?_;obtain ⟨k0,zz⟩:=HCR.out _ hG;clear hG;have k1:=hg.kp 1 (by simp);(try simp [Act.eval] at k1);go_simp;exact hK _ _ bR rfl
      ·intro st hst ac w3 hg hG hd K hK;dsimp only at hst hG hK;refine op_in (fun _ h=>by cases h) ?_;exact op_move _ rfl (hK _ _ bR (hg.kp 6 (by simp)))
      ·intro st hst ac w3 hg hG hd K hK;dsimp only at hst hG hK;refine op_in (fun _ h=>by cases h) ?_;have f9:=hd 9 (by simp) _ rfl _ rfl;(try simp [Act.eval] at f9);go_simp;exact hK _ _ bR rfl
      ·intro st hst ac w3 hg hG hd K hK;dsimp only at hst hG hK;refine op_in (fun _ h=>by cases h) ?_;obtain ⟨k0,zz⟩:=HCN.out _ hG;clear hG;have k3:=hg.kp 3 (by simp);(try simp [Act.eval] at k3);go_simp;exact hK _ _ bR rfl
      ·intro st hst ac w3 hg hG hd K hK;dsimp only at hst hG hK;refine op_in (fun _ h=>by cases h) ?_;have f10:=hd 10 (by simp) _ rfl _ rfl;have f11:=hd 11 (by simp) _ rfl _ rfl;(try simp [Act.eval] at f10);(try simp [Act.eval] at f11);go_simp;exact hK _ _ bR rfl
      ·intro st hst ac w3 hg hG hd K hK;dsimp only at hst hG hK;refine op_in (fun _ h=>by cases h) ?_;have f8:=hd 8 (by simp) _ rfl _ rfl;have f12:=hd 12 (by simp) _ rfl _ rfl;(try simp [Act.eval] at f8);(try simp [Act.eval] at f12);go_simp;exact hK _ _ bR rfl
      ·intro st hst ac w3 hg hG hd K hK;dsimp only at hst hG hK;refine op_in (fun _ h=>by cases h) ?_;obtain ⟨k0,k1,zz⟩:=HCQ.out _ hG;clear hG;have f13:=hd 13 (by simp) _ rfl _ rfl;(try simp [Act.eval] at f13);go_simp;exact hK _ _ bR rfl
      ·intro st hst ac w3 hg hG hd K hK;dsimp only at hst hG hK;refine op_in (fun _ h=>by cases h) ?_;have f1:=hd 1 (by simp) _ rfl _ rfl;have f3:=hd 3 (by simp) _ rfl _ rfl;have f7:=hd 7 (by simp) _ rfl _ rfl;have f14:=hd 14 (by simp) _ rfl _ rfl;clear hG;simp [Act.eval] at f1 f3 f7 f14;go_simp;(refine (HME.out w3).mono ?_);rintro e w8 ⟨rfl,hb⟩;exact hK _ _ hb rfl
      ·intro st hst ac w3 hg hG hd K hK;dsimp only at hst hG hK;refine op_in (fun _ h=>by cases h) ?_;exact op_move _ rfl (hK _ _ bR (hd 15 (by simp) _ rfl _ rfl))
      ·intro st hst ac w3 hg hG hd K hK;dsimp only at hst hG hK;refine op_in (fun _ h=>by cases h) ?_;have f16:=hd 16 (by simp) _ rfl _ rfl;(try simp [Act.eval] at f16);go_simp;exact hK _ _ bR rfl
      ·intro st hst ac w3 hg hG hd K hK;dsimp only at hst hG hK;refine op_in (fun _ h=>by cases h) ?_;have f16:=hd 16 (by simp) _ rfl _ rfl;(try simp [Act.eval] at f16);go_simp;exact hK _ _ bR rfl
      ·intro st hst ac w3 hg hG hd K hK;dsimp only at hst hG hK;refine op_in (fun _ h=>by cases h) ?_;exact op_assign _ rfl (hK _ _ bR (hd 17 (by simp) _ rfl _ rfl))
      ·intro st hst ac w3 hg hG hd K hK;dsimp only at hst hG hK;refine op_in (fun _ h=>by cases h) ?_;exact op_assign _ rfl (hK _ _ bR (hd 18 (by simp) _ rfl _ rfl))
     case gu=>intro s a b hG hu;exact hG.trans (hu.mono hG.size)
     case g0=>exact (bR.drew)
     case fin=>
      intro f9 w9 hG hall;have HB9:=hide hG;have h8:=hall _ (List.mem_of_getElem? (i:=19) rfl) 8 rfl;clear hall hG hj64 hwr;simp only [fillF,List.map_cons,List.map_nil,List.foldl_cons,List.foldl_nil,Act.put,List.setIfInBounds_toArray,List.set_cons_zero,List.set_cons_succ];rw [h8];clear h8;by_cases hmw:mv=wt
      ·have dmw:(mv == wt)=true:=by simp [hmw]
       rw [HWT.out] at dmw;have HJ:=hide (show ∀ j',i<j'→j'<j+1→meetE (edgeAt r i) (edgeAt r j')=wantE n i j' from fun j' h1 h2=>by
        rcases Nat.lt_or_ge j' j with h3|h3
        ·exact HI.out.2 j' h1 h3
        ·obtain rfl:j'=j:=by omega
         rw [HMV.out,hmw,HWW.out])
       have HBB:=hide (HI.out.1.trans (HB9.out.mono HI.out.1.size));clear hmw
       gi_wp2
       go_roundw
       case rel=>exact ⟨j+1,by go_num,by omega,by omega,hide ⟨HBB.out,HJ.out⟩⟩
       case measure=>simp [intOf];omega
      ·have dmw:(mv == wt)=false:=by simp [hmw]
       rw [HWT.out] at dmw;have HSF:=hide (simple_no (r:=r) hij (by rw [HLEN.out];exact hlt) (by rw [HMV.out,HLEN.out,HWW.out];exact hmw));have HBB:=hide (HI.out.1.trans (HB9.out.mono HI.out.1.size));have hb2:=(HI0.out.2.2.1.below HBB.out HI0.out.2.2.1.lt);have HB2:=hide hb2;have kb:=hb2.cell;have fb:=hb2.frozen;have zb:=hb2.lt;clear hmw hb2
       gi_wp2
       refine ⟨(keeps_below HBB.out).trans ((KeepsOthers.setCell _ _ _).from _),rfl,?_,HB2.out.set_ 0 _,HSF.out⟩;exact (HI0.out.1.trans (HBB.out.mono HI0.out.1.size)).setCell (p:=⟨w.heap.size+1,0,none⟩) (by simp) _
   ·have hltI:¬ (j:Int)<n:=by omega
    have HJJ:=hide (show ∀ j',i<j'→j'<n→meetE (edgeAt r i) (edgeAt r j')=wantE n i j' from fun j' h1 h2=>HI.out.2 j' h1 (by omega));clear hblr hbln
    gi_wp2
    obtain ⟨q1,q2,q3,q4,q5,q6⟩:=HI0.out;refine ⟨keeps_below HI.out.1,KpE.of_below HI.out.1 q1.size (by omega),q1.trans (HI.out.1.mono q1.size),q2.below HI.out.1 q2.lt,q3.below HI.out.1 q3.lt,q4.below HI.out.1 q4.lt,Nat.le_trans q5 HI.out.1.size,fun y hy=>?_⟩;rcases List.mem_append.1 hy with hy|hy
    ·exact q6 y hy
    ·simp only [List.mem_singleton] at hy;subst hy;exact HJJ.out
 case done=>
  rintro D xs W hD rfl ⟨q1,q2,q3,q4,q5,q6⟩ hK;have hK0:=hide hK;have HST:=hide (show simpleB r=true from simple_iff.2 (fun i j hij hj=>by
   rw [HLEN.out] at hj ⊢;exact q6 ⟨i,by omega⟩ (by simp) j hij hj))
  have HQ1:=hide q1;have HQ3:=hide q3;have kb:=q3.cell;have fb:=q3.frozen;have zb:=q3.lt;clear q1 q2 q3 q4 q6 hK;dsimp only;go_wp2_with fail
  have hDW:D<W.heap.size:=(Array.getElem?_eq_some_iff.1 hK0.out).1;have hK5:(W.setCell ⟨w.heap.size+1,0,none⟩ (.bool true)).heap[D]? = some (.deferred (some [])):=by
   rw [Below.heap_setCell _ _ _ _ (show ¬ D=w.heap.size+1 from by omega)];exact hK0.out
  have hg5:=grownBy_putObj' (W.setCell ⟨w.heap.size+1,0,none⟩ (.bool true)) D (.deferred none);have hb6:=blk_grown (HQ3.out.set_ 0 (.bool true)) hg5 (fun r e=>by injection e with e;subst e;exact ⟨_,hK5,rfl⟩);refine retM1 (v:=.bool true) hK5 (by simp [results,Tryz.results92,go_sem,hb6.cell 0]) rfl ⟨by rw [HST.out],?_⟩;exact Below.grown (HQ1.out.setCell (p:=⟨w.heap.size+1,0,none⟩) (by simp) _) hg5 (by simp;omega) (fun k e=>by injection e with e;omega)
 case stop=>
  rintro D cd pre W hD - ⟨rfl,q1,q3,hsf⟩ hK;refine wpIn_ret ?_;have hDW:D<W.heap.size:=(Array.getElem?_eq_some_iff.1 hK).1;have hg5:=grownBy_putObj' W D (.deferred none);have hb6:=blk_grown q3 hg5 (fun r e=>by injection e with e;subst e;exact ⟨_,hK,rfl⟩);refine retM1 (v:=.bool false) hK (by simp [results,Tryz.results92,go_sem,hb6.cell 0]) rfl ⟨by rw [hsf],?_⟩;exact Below.grown q1 hg5 q1.size (fun k e=>by injection e with e;omega)
def ringE (r:List Pt):Int:=if areaE r≠0 then areaE r else if r.length<3 then 4 else if twiceB r then 4 else if areaV r≤0 then 4 else if simpleB r then 0 else 4
theorem areaE_zero {r:List Pt} (h:areaE r=0):r.length≤128∧goodAll r=true:=by
 unfold areaE at h;split at h
 ·cases h
 ·split at h
  ·rename_i h1 h2
   exact ⟨by omega,h2⟩
  ·cases h
theorem sum_bound {α:Type} (c:α→Int) (L:Int) (hL:0≤L):∀ (l:List α),(∀ x∈l,-L≤c x∧c x≤L) → -((l.length:Int) * L)≤(l.map c).sum∧(l.map c).sum≤(l.length:Int) * L
 | [],_=>by simp
 | x :: l,h=>by
   have h1:=sum_bound c L hL l (fun y hy=>h y (by simp [hy]));have h2:=h x (by simp);rw [List.map_cons,List.sum_cons,List.length_cons]
   push_cast
   rw [Int.add_mul];omega
theorem area_bound {r:List Pt} (h:areaE r=0):-590295810358705651712≤areaV r∧areaV r≤590295810358705651712:=by
 obtain ⟨h1,h2⟩:=areaE_zero h;have h0:(⟨0,0⟩:Pt).good:=by decide
 have h3:=sum_bound (fun e:Eg=>crossV ⟨0,0⟩ e.a e.b) 4611686018427387904 (by decide) (edgesL r) (fun e he=>cross_bound h0 (good_mem h2 (edge_good h2 he).1) (good_mem h2 (edge_good h2 he).2));rw [edges_len] at h3;unfold areaV;have:(r.length:Int)≤128:=by omega
 omega
theorem areaI_ok {r:List Pt}:(areaI r).ok∧(areaE r=0→(areaI r).num=areaV r):=by
 unfold areaI;split
 ·rename_i h
  have:=area_bound h;exact ⟨two_ok (by unfold inr;omega),fun _=>two_num _⟩
 ·exact ⟨⟨by decide,by decide⟩,fun h=>absurd h (by assumption)⟩
theorem sgn_le (v:Int):decide (cmpOf v 0≤0)=decide (v≤0):=by
 unfold cmpOf
 repeat' split
 all_goals simp <;> omega
set_option maxRecDepth 100000 in
set_option maxHeartbeats 2000000 in
theorem ringchk_any (r:List Pt) (A:Option Addr) (n c:Nat) (w:World) (hr:PR w w.heap.size A n r) (hn:n≤8796093022208) :
 Calls Tryz.prog 45 #[.slice A n c] w fun e w'=>e=.returned (.int .i64 (ringE r))∧Below w.heap.size w w':=by
 have hlen:=hr.1;have HLEN:=hide hlen;have HR:=hide hr;have HA:=hide (area_any r A n c w hr hn);obtain ⟨I,hI⟩:∃ I,areaI r=I:=⟨_,rfl⟩;have hok:=areaI_ok (r:=r);rw [hI] at HA hok;clear hr hlen hI;obtain ⟨E,hE⟩:∃ E,areaE r=E:=⟨_,rfl⟩;rw [hE] at HA hok;by_cases h0:E=0
 ·subst h0;obtain ⟨hn8,hg⟩:=areaE_zero hE;rw [HLEN.out] at hn8;obtain ⟨V,hV⟩:∃ V,areaV r=V:=⟨_,rfl⟩;have hnum:=hok.2 rfl;rw [hV] at hnum;have hok:=hok.1;have HS:=hide (fun w0=>sign_any I w0 hok);rw [hnum] at HS;obtain ⟨S,hS⟩:∃ S,cmpOf V 0=S:=⟨_,rfl⟩;have hsg:=sgn_le V;rw [hS] at hsg HS;obtain ⟨sg,hsg2⟩:∃ sg,decide (V≤0)=sg:=⟨_,rfl⟩;rw [hsg2] at hsg;by_cases h3:n<3
  ·have hRE:=hide (show ringE r=4 from by unfold ringE;rw [if_neg (by rw [hE];simp),if_pos (by rw [HLEN.out];exact h3)]);have h3I:(n:Int)<3:=by omega
   clear hE hV hS hok hnum hsg2 hsg hg
   go_enter Tryz.func45,Tryz.ntmps45
   go_wp2_with (go_at_call 89;(refine HA.out.mono ?_);rintro e w2 ⟨rfl,hb⟩;have HB:=hide hb;clear hb)
   go_ret;exact ⟨by rw [hRE.out];rfl,(by repeat (first|exact HB.out|refine Below.drew ?_|refine Below.setCell ?_ (by simp;try omega) _|refine bal ?_ _))⟩
  ·have h3I:¬ (n:Int)<3:=by omega
   have HT:=hide (fun w0 (h:PR w0 w0.heap.size A n r)=>twice_any r A n c w0 h (by omega) (by omega));have HI:=hide (fun w0 (h:PR w0 w0.heap.size A n r)=>simple_any r A n c w0 h hn8 hg);obtain ⟨tb,htb⟩:∃ b,twiceB r=b:=⟨_,rfl⟩;obtain ⟨sb,hsb⟩:∃ b,simpleB r=b:=⟨_,rfl⟩;rw [htb] at HT;rw [hsb] at HI;have hRE:=hide (show ringE r=if tb then 4 else if sg then 4 else if sb then 0 else 4 from by
    unfold ringE;rw [if_neg (by rw [hE];simp),if_neg (by rw [HLEN.out];exact h3),htb,hV,← hsg2,hsb];simp)
   clear hE hV hS hok hnum hsg2 htb hsb hg;cases tb
   ·cases sg
    ·cases sb
     all_goals
      go_enter Tryz.func45,Tryz.ntmps45
      go_wp2_with (first
       | (go_at_call 89;(refine HA.out.mono ?_);rintro e w2 ⟨rfl,hb⟩;have HB:=hide hb;clear hb)
       | (go_at_call 90;(refine (HT.out _ (HR.out.later (bal HB.out _))).mono ?_);rintro e w3 ⟨rfl,hb⟩;have HB3:=hide (btr (bal HB.out _) hb);have hk:=(Blk.new w2 80 #[.int .i64 I.hi,.int .u64 I.lo]).below hb (by simp);have kc:=hk.cell;have fc:=hk.frozen;have zc:=hk.lt;clear hb hk)
       | (go_at_call 91;(refine (HS.out _).mono ?_);rintro e w4 ⟨rfl,hb⟩;have HB4:=hide (btr HB3.out hb);clear hb kc fc zc)
       | (go_at_call 92;(refine (HI.out _ (HR.out.later HB4.out)).mono ?_);rintro e w5 ⟨rfl,hb⟩;have HB5:=hide (btr HB4.out hb);clear hb))
      go_ret;exact ⟨by rw [hRE.out];rfl,HB5.out⟩
    ·go_enter Tryz.func45,Tryz.ntmps45
     go_wp2_with (first
      | (go_at_call 89;(refine HA.out.mono ?_);rintro e w2 ⟨rfl,hb⟩;have HB:=hide hb;clear hb)
      | (go_at_call 90;(refine (HT.out _ (HR.out.later (bal HB.out _))).mono ?_);rintro e w3 ⟨rfl,hb⟩;have HB3:=hide (btr (bal HB.out _) hb);have hk:=(Blk.new w2 80 #[.int .i64 I.hi,.int .u64 I.lo]).below hb (by simp);have kc:=hk.cell;have fc:=hk.frozen;have zc:=hk.lt;clear hb hk)
      | (go_at_call 91;(refine (HS.out _).mono ?_);rintro e w4 ⟨rfl,hb⟩;have HB4:=hide (btr HB3.out hb);clear hb kc fc zc))
     go_ret;exact ⟨by rw [hRE.out];rfl,HB4.out⟩
   ·go_enter Tryz.func45,Tryz.ntmps45
    go_wp2_with (first
     | (go_at_call 89;(refine HA.out.mono ?_);rintro e w2 ⟨rfl,hb⟩;have HB:=hide hb;clear hb)
     | (go_at_call 90;(refine (HT.out _ (HR.out.later (bal HB.out _))).mono ?_);rintro e w3 ⟨rfl,hb⟩;have HB3:=hide (btr (bal HB.out _) hb);clear hb))
    go_ret;exact ⟨by rw [hRE.out];rfl,HB3.out⟩
 ·have hRE:=hide (show ringE r=E from by unfold ringE;rw [if_pos (by rw [hE];exact h0),hE]);have h0b:(E == 0)=false:=by simp [h0]
  clear hE hok
  go_enter Tryz.func45,Tryz.ntmps45
  go_wp2_with (go_at_call 89;(refine HA.out.mono ?_);rintro e w2 ⟨rfl,hb⟩;have HB:=hide hb;clear hb)
  go_ret;exact ⟨by rw [hRE.out];rfl,(by repeat (first|exact HB.out|refine Below.drew ?_|refine Below.setCell ?_ (by simp;try omega) _|refine bal ?_ _))⟩
def normedB (r:List Pt):Bool:=decide (ringE r=0)&&decide (r=leastL r)
set_option maxRecDepth 100000 in
theorem neP_at:NeqAt Tryz.prog 56 (fun x=>.agg (encPt x).toArray) (fun p q=>decide (p=q)):=by
 refine ⟨fun x y w=>?_,GuardAt.agg _ (by kernel_rfl)⟩;simp only [encPt];rw [run_neq_struct,eq_pt,eqb_pt];rfl
theorem allEq_pts:∀ (xs ys:List Pt),Lib.allEq (fun p q=>decide (p=q)) xs ys=decide (xs=ys)
 | [],[]=>rfl
 | [],_ :: _=>rfl
 | _ :: _,[]=>rfl
 | x :: xs,y :: ys=>by
   rw [Lib.allEq,allEq_pts xs ys];by_cases h1:x=y <;> by_cases h2:xs=ys <;> simp [h1,h2]
theorem equal_pts (xs ys:List Pt) (A A':Option Addr) (n c m d:Nat) (w:World) (h1:PR w w.heap.size A n xs) (h2:PR w w.heap.size A' m ys) (hn:n≤1000000000) (hm:m≤1000000000) (n0:0<n) (m0:0<m) :
 Calls Tryz.prog 111 #[.slice A n c,.slice A' m d] w fun e w'=>e=.returned (.bool (decide (xs=ys)))∧Below w.heap.size w w':=by
 obtain ⟨b,o,rfl,hb,hcs⟩:=h1.at n0;obtain ⟨b',o',rfl,hb',hcs'⟩:=h2.at m0;have l1:=h1.1;have l2:=h2.1;have key:∀ {b o:Nat} {l:List Pt},(∀ j (hj:j<l.length),w.cell? ⟨b,o+j * 2,none⟩=some (.int .i64 l[j].x)∧w.cell? ⟨b,o+j * 2+1,none⟩=some (.int .i64 l[j].y)) → ∀ j,j<l.length → ∀ i v,(encPt l[j]!)[i]? = some v→w.cell? ⟨b,o+j * 2+i,none⟩=some v:=fun {b o l} hcs j hj i v hv=>by
  rw [getElem!_pos l j hj] at hv;have h1:=hcs j hj
  match i,hv with
  | 0,hv=>simp [encPt] at hv;subst hv;simpa using h1.1
  | 1,hv=>simp [encPt] at hv;subst hv;exact h1.2
  | i+2,hv=>simp [encPt] at hv
 have hcon:=AnyQ.slices_Equal Tryz.eqP 2 Tryz.isAgg56 Tryz.sizeOf56 encPt (fun _=>rfl) _ neP_at b o n c b' o' m d xs ys w (by omega) (by omega) (by omega) (by omega) (key hcs) (key hcs');change Calls Tryz.prog 111 _ _ _ at hcon;rw [List.take_of_length_le (by omega),List.take_of_length_le (by omega),allEq_pts] at hcon;refine hcon.mono ?_;rintro e w' ⟨rfl,q,rfl⟩;exact ⟨rfl,bdn _ _⟩
theorem leastL_len (r:List Pt):(leastL r).length=r.length:=by
 unfold leastL;rw [List.length_append,List.length_drop,List.length_take];omega
set_option maxRecDepth 100000 in
theorem normed_any (r:List Pt) (A:Option Addr) (n c:Nat) (w:World) (hr:PR w w.heap.size A n r) (hn:n≤8796093022208) (hc:n≤c) (hcm:c≤maxLen) :
 Calls Tryz.prog 67 #[.slice A n c] w fun e w'=>e=.returned (.bool (normedB r))∧Below w.heap.size w w':=by
 have hlen:=hr.1;have HC:=hide (ringchk_any r A n c w hr hn);obtain ⟨E,hE⟩:∃ E,ringE r=E:=⟨_,rfl⟩;rw [hE] at HC;by_cases h0:E=0
 ·subst h0;have h3:3≤n∧n≤128:=by
   have h:=hE;unfold ringE at h;split at h
   ·rename_i h1;exact absurd h h1
   ·rename_i h1
    have:=areaE_zero (Classical.not_not.1 h1);split at h
    ·cases h
    ·omega
  have HL:=hide (fun w0 (h:PR w0 w0.heap.size A n r)=>least_any r A n c w0 h (by omega) hc hcm);obtain ⟨q,hq⟩:∃ q,decide (r=leastL r)=q:=⟨_,rfl⟩;have HR:=hide hr;have HF:=hide (show normedB r=q from by unfold normedB;rw [hE,hq];rfl);have HEQ:=hide (fun w0 A' c' (h1:PR w0 w0.heap.size A n r) (h2:PR w0 w0.heap.size A' n (leastL r))=>by
   have:=equal_pts r (leastL r) A A' n c n c' w0 h1 h2 (by omega) (by omega) (by omega) (by omega);rw [hq] at this;exact this)
  have HLL:=hide (show (leastL r).length=n from by rw [leastL_len,hlen]);clear hE hr hlen hq
  go_enter Tryz.func67,Tryz.ntmps67
  go_wp2_with (first
   | (go_at_call 45;(refine HC.out.mono ?_);rintro e w2 ⟨rfl,hb⟩;have HB:=hide hb;clear hb)
   | (go_at_call 99;(refine (HL.out _ (HR.out.later HB.out)).mono ?_);rintro e w3 ⟨v,rfl,h1,h2⟩;(obtain ⟨A9,c9,rfl,-⟩:=own_sl h1);have HO:=hide h1;have HB3:=hide (btr HB.out h2);clear h1 h2)
   | (go_at_call 111;(refine (HEQ.out _ _ _ (HR.out.later HB3.out) (Sl.own HLL.out rfl rfl HO.out)).mono ?_);rintro e w4 ⟨rfl,hb⟩;have HB4:=hide (btr HB3.out hb);clear hb))
  go_ret;exact ⟨by rw [HF.out];rfl,HB4.out⟩
 ·have h0b:(E == 0)=false:=by simp [h0]
  have HF:=hide (show normedB r=false from by unfold normedB;rw [hE,decide_eq_false h0];rfl);clear hE h0 hr hlen
  go_enter Tryz.func67,Tryz.ntmps67
  go_wp2_with (go_at_call 45;(refine HC.out.mono ?_);rintro e w2 ⟨rfl,hb⟩;have HB:=hide hb;clear hb)
  go_ret;exact ⟨by rw [HF.out];rfl,HB.out⟩
end Go.Proofs.YtacinobmcgcccaaGreatDoor
