/- slices.MinFunc, slices.Index over points; ring.Least. -/
import Derived.Test.YtacinobmcgcccaaGreatDoorL08
import Derived.Test.YtacinobmcgcccaaGreatDoorL09
import Derived.Test.YtacinobmcgcccaaGreatDoorRows
import Derived.Shelf.SlGeneric
import Derived.Shelf.SlicesE.IndexFunc
import Derived.Shelf.SlicesE.Index
import Derived.Ground.SlgnProg
import Derived.Ground.SlgfProg
import Derived.Lib.ConvBytes
set_option linter.unusedSimpArgs false
set_option linter.unusedVariables false
namespace Go.Proofs.YtacinobmcgcccaaGreatDoor
open Go.RowKit Go.Shelf
def minStep (m x:Pt):Pt:=if orderV x m<0 then x else m
def minP:List Pt→Pt
 | []=>default
 | p :: l=>l.foldl minStep p
theorem minP_snoc (l:List Pt) (x:Pt) (h:0<l.length):minP (l++[x])=minStep (minP l) x:=by
 cases l with
 | nil=>simp at h
 | cons p l=>simp [minP,List.foldl_append]
theorem minP_take {r:List Pt} {j:Nat} (h:j<r.length) (h0:0<j):minP (r.take (j+1))=minStep (minP (r.take j)) r[j]:=by
 rw [List.take_succ_eq_append_getElem h,minP_snoc _ _ (by simp;omega)]
def leastK (r:List Pt):Nat:=r.idxOf (minP r)
def leastL (r:List Pt):List Pt:=r.drop (leastK r)++r.take (leastK r)
theorem fold_mem (l:List Pt):∀ p,l.foldl minStep p∈p :: l:=by
 induction l with
 | nil=>intro p;simp
 | cons x l ih=>
   intro p;have:=ih (minStep p x);rw [List.foldl_cons];rcases List.mem_cons.1 this with h|h
   ·rw [h];unfold minStep;split <;> simp
   ·simp [h]
theorem minP_mem {r:List Pt} (h:0<r.length):minP r∈r:=by
 cases r with
 | nil=>simp at h
 | cons p l=>exact fold_mem l p
theorem leastK_lt {r:List Pt} (h:0<r.length):leastK r<r.length:=List.idxOf_lt_length_iff.2 (minP_mem h)
set_option maxRecDepth 100000 in
set_option maxHeartbeats 2000000 in
theorem minfunc_any (r:List Pt) (A:Option Addr) (n c:Nat) (w:World) (hr:PR w w.heap.size A n r) (hn:n≤1000000000) (h0:0<n) :
 Calls Tryz.prog 147 #[.slice A n c,.func (.func 115) #[] #[]] w fun e w'=>e=.returned (.agg #[.int .i64 (minP r).x,.int .i64 (minP r).y])∧Below w.heap.size w w':=by
 obtain ⟨b,o,rfl,hb,hcs⟩:=hr.at h0;have HLEN:=hide hr.1;have HCS:=hide hcs;have h00:0<r.length:=by rw [HLEN.out];exact h0
 obtain ⟨c0,c1⟩:=hcs 0 h00;obtain ⟨p0,hp0⟩:∃ p,r[0]=p:=⟨_,rfl⟩;rw [hp0] at c0 c1;have HP0:=hide (show minP (r.take 1)=p0 from by
  cases r with
  | nil=>simp at h00
  | cons x l=>simpa [minP] using hp0)
 obtain ⟨w1,hw1⟩:∃ q,w.alloc (.cells #[.int .i64 0,.int .i64 0] 56)=q:=⟨_,rfl⟩;have hb1:Below w.heap.size w w1:=hw1 ▸ bal bR _;have HB1:=hide hb1;have HK1:=hide (show Blk w1 w.heap.size 56 #[.int .i64 0,.int .i64 0] from hw1 ▸ Blk.new _ _ _);have c0:=(hb1.cell (p:=⟨b,o+0 * 2,none⟩) hb).trans c0;have c1:=(hb1.cell (p:=⟨b,o+0 * 2+1,none⟩) hb).trans c1;have hbz:b<w1.heap.size:=nLl hb hb1.size;have HW1:=hide hw1;simp only [Nat.zero_mul,Nat.add_zero] at c0 c1;have n1:¬ n<1:=by omega
 have n1I:¬ (n:Int)<1:=by omega
 clear hr hcs hp0 hw1 hb1 h00
 go_enter Tryz.func147,Tryz.ntmps147
 go_upto_region 1 with fail
 rw [HW1.out];go_wp2_with fail
 obtain ⟨w2,hw2⟩:∃ q,w1.alloc (.cells #[.int .i64 p0.x,.int .i64 p0.y] 56)=q:=⟨_,rfl⟩;have HB2:=hide (show Below w.heap.size w w2 from HB1.out.trans ((hw2 ▸ bal bR _:Below w1.heap.size w1 w2).mono HB1.out.size));have HM2:=hide (show Blk w2 w1.heap.size 56 #[.int .i64 p0.x,.int .i64 p0.y] from hw2 ▸ Blk.new _ _ _);have HK2:=hide (show Blk w2 w.heap.size 56 #[.int .i64 0,.int .i64 0] from hw2 ▸ HK1.out.alloc _);rw [hw2];clear hw2 c0 c1
 go_loopw [6] (fun i wr=>∃ (j:Nat) (m:Pt),i=.int .i64 (j:Int)∧1≤j∧j≤n∧Hid (Below w.heap.size w wr∧Blk wr w1.heap.size 56 #[.int .i64 m.x,.int .i64 m.y]∧Blk wr w.heap.size 56 #[.int .i64 0,.int .i64 0]∧minP (r.take j)=m)) (fun i _=>n - (intOf i).toNat)
 case atStart=>exact ⟨1,p0,rfl,by omega,by omega,hide ⟨HB2.out,HM2.out,HK2.out,HP0.out⟩⟩
 case round=>
  clear HP0 HM2 HK2 HB2;obtain ⟨j,m,rfl,hj1,hjn,HI⟩:=hrel;by_cases hlt:j<n
  ·have hltI:(j:Int)<n:=by omega
   have hjr:j<r.length:=by rw [HLEN.out];exact hlt
   obtain ⟨d0,d1⟩:=HCS.out j hjr;obtain ⟨p,hp⟩:∃ p,r[j]=p:=⟨_,rfl⟩;rw [hp] at d0 d1;have d0:=(HI.out.1.cell (p:=⟨b,o+j * 2,none⟩) hb).trans d0;have d1:=(HI.out.1.cell (p:=⟨b,o+j * 2+1,none⟩) hb).trans d1;have hbr:b<wr.heap.size:=nLl hb HI.out.1.size;have HST:=hide (show minP (r.take (j+1))=minStep m p from by rw [minP_take hjr (by omega),HI.out.2.2.2,hp]);have HCP:=hide (show ∀ w',Below wr.heap.size wr w'→w'.cell? ⟨b,o+j * 2,none⟩=some (.int .i64 p.x)∧w'.cell? ⟨b,o+j * 2+1,none⟩=some (.int .i64 p.y)∧b<w'.heap.size from fun w' h=>⟨(h.cell (p:=⟨b,o+j * 2,none⟩) hbr).trans d0,(h.cell (p:=⟨b,o+j * 2+1,none⟩) hbr).trans d1,nLl hbr h.size⟩);have HCM:=hide (show ∀ w',Below wr.heap.size wr w'→w'.cell? ⟨w1.heap.size,0,none⟩=some (.int .i64 m.x)∧w'.cell? ⟨w1.heap.size,1,none⟩=some (.int .i64 m.y)∧w1.heap.size<w'.heap.size from fun w' h=>⟨(HI.out.2.1.below h HI.out.2.1.lt).cell 0,(HI.out.2.1.below h HI.out.2.1.lt).cell 1,(HI.out.2.1.below h HI.out.2.1.lt).lt⟩);obtain ⟨ov,hov⟩:∃ ov,orderV p m=ov:=⟨_,rfl⟩;have HO:=hide (fun w0=>by
    have:=order_any p m w0;rw [hov] at this;exact this)
   have HOV:=hide hov;clear hp hov d0 d1;go_upto_region 7 with fail
   refine wp_region_dag (by kernel_rfl) (by kernel_rfl) 33 0
    [⟨some 20,[0],[],[],[],[],fun _ _ v _=>v=.func (.func 115) #[] #[]⟩,
     ⟨some 21,[0],[],[],[],[],fun _ _ v _=>v=.slice (some ⟨b,o,none⟩) n c⟩,
     ⟨some 22,[0],[],[],[],[],fun _ _ v _=>v=.int .i64 (j:Int)⟩,
     ⟨some 23,[0],[],[],[1,2],[],fun _ _ v _=>v=.pointer (some ⟨b,o+j * 2,none⟩)⟩,
     ⟨some 24,[0],[],[],[3],[],fun _ _ v _=>v=.agg #[.int .i64 p.x,.int .i64 p.y]⟩,
     ⟨some 25,[0],[],[],[],[],fun _ _ v _=>v=.agg #[.int .i64 m.x,.int .i64 m.y]⟩,
     ⟨some 26,[0],[],[],[0,4,5],[],fun _ _ v _=>v=.int .i64 ov⟩,
     ⟨some 27,[0],[],[],[6],[],fun _ _ v _=>v=.bool (decide (ov<0))⟩] (fun _ w'=>Below wr.heap.size wr w') (fun _ _ _ _ _=>True) (fun _ w w'=>Below w.heap.size w w') ?gu ?ru ?put [20,21,22,23,24,25,26,27] rfl (by kernel_rfl) rfl ?g0 ?keep ?steps ?fin
   case ru=>
    intro e he s a v w w' hu hv;simp only [List.mem_cons,List.not_mem_nil,or_false] at he;rcases he with rfl|rfl|rfl|rfl|rfl|rfl|rfl|rfl
    all_goals first|exact hv
   case put=>
    intro e he s a d u v w hnd hv;simp only [List.mem_cons,List.not_mem_nil,or_false] at he;rcases he with rfl|rfl|rfl|rfl|rfl|rfl|rfl|rfl
    all_goals first|exact hv
   case keep=>
    intro e he s s' a v w w' hsl hm ht hv;simp only [List.mem_cons,List.not_mem_nil,or_false] at he;rcases he with rfl|rfl|rfl|rfl|rfl|rfl|rfl|rfl
    all_goals first|exact hv
   case steps=>
    refine ⟨?_,?_,?_,?_,?_,?_,?_,?_,trivial⟩
    ·intro st hst ac w3 hg hG hd K hK;dsimp only at hst hG hK;exact op_move _ rfl (hK _ _ bR (hg.kp 1 (by simp)))
    ·intro st hst ac w3 hg hG hd K hK;dsimp only at hst hG hK;exact op_move _ rfl (hK _ _ bR (hg.kp 0 (by simp)))
    ·intro st hst ac w3 hg hG hd K hK;dsimp only at hst hG hK;exact op_move _ rfl (hK _ _ bR (hg.kp 6 (by simp)))
    ·intro st hst ac w3 hg hG hd K hK;dsimp only at hst hG hK;have f1:=hd 1 (by simp) _ rfl _ rfl;have f2:=hd 2 (by simp) _ rfl _ rfl;(try simp [Act.eval] at f1);(try simp [Act.eval] at f2);go_simp;exact hK _ _ bR rfl
    ·intro st hst ac w3 hg hG hd K hK;dsimp only at hst hG hK;obtain ⟨k0,k1,zz⟩:=HCP.out _ hG;clear hG;have f3:=hd 3 (by simp) _ rfl _ rfl;(try simp [Act.eval] at f3);go_simp;exact hK _ _ bR rfl
    ·intro st hst ac w3 hg hG hd K hK;dsimp only at hst hG hK;obtain ⟨k0,k1,zz⟩:=HCM.out _ hG;clear hG;have k5:=hg.kp 5 (by simp);(try simp [Act.eval] at k5);go_simp;exact hK _ _ bR rfl
    ·intro st hst ac w3 hg hG hd K hK;dsimp only at hst hG hK;have f0:=hd 0 (by simp) _ rfl _ rfl;have f4:=hd 4 (by simp) _ rfl _ rfl;have f5:=hd 5 (by simp) _ rfl _ rfl;clear hG;simp [Act.eval] at f0 f4 f5;go_simp;(refine (HO.out w3).mono ?_);rintro e w8 ⟨rfl,hb⟩;exact hK _ _ hb rfl
    ·intro st hst ac w3 hg hG hd K hK;dsimp only at hst hG hK;have f6:=hd 6 (by simp) _ rfl _ rfl;(try simp [Act.eval] at f6);go_simp;exact hK _ _ bR rfl
   case gu=>intro s a b hG hu;exact hG.trans (hu.mono hG.size)
   case g0=>exact (bR.drew)
   case fin=>
    intro f9 w9 hG hall;have HB9:=hide hG;have h27:=hall _ (List.mem_of_getElem? (i:=7) rfl) 27 rfl;obtain ⟨k0,k1,zz⟩:=HCP.out _ hG;have hm9:=HI.out.2.1.below hG HI.out.2.1.lt;have HM9:=hide hm9;have q0:=hm9.cell;have q1:=hm9.frozen;have q2:=hm9.lt;clear hall hG hm9;simp only [fillF,List.map_cons,List.map_nil,List.foldl_cons,List.foldl_nil,Act.put,List.setIfInBounds_toArray,List.set_cons_zero,List.set_cons_succ];by_cases ho:ov<0
    ·rw [h27,show decide (ov<0)=true from by simp [ho]];clear h27;have HMS:=hide (show minStep m p=p from by unfold minStep;rw [HOV.out,if_pos ho]);clear ho;go_wp2_with fail
     go_roundw
     case rel=>exact ⟨j+1,p,by go_num,by omega,by omega,hide ⟨(((HI.out.1.trans (HB9.out.mono HI.out.1.size)).setCell (p:=⟨w1.heap.size,0,none⟩) HB1.out.size _).setCell (p:=⟨w1.heap.size,1,none⟩) HB1.out.size _),(HM9.out.set_ 0 (.int .i64 p.x)).set_ 1 (.int .i64 p.y),((HI.out.2.2.1.below HB9.out HI.out.2.2.1.lt).far (p:=⟨w1.heap.size,0,none⟩) (by have:=HK1.out.lt;simp;omega) _).far (p:=⟨w1.heap.size,1,none⟩) (by have:=HK1.out.lt;simp;omega) _,by rw [HST.out,HMS.out]⟩⟩
     case measure=>simp [intOf];omega
    ·rw [h27,show decide (ov<0)=false from by simp [ho]];clear h27;have HMS:=hide (show minStep m p=m from by unfold minStep;rw [HOV.out,if_neg ho]);clear ho;go_wp2_with fail
     go_roundw
     case rel=>exact ⟨j+1,m,by go_num,by omega,by omega,hide ⟨HI.out.1.trans (HB9.out.mono HI.out.1.size),HM9.out,HI.out.2.2.1.below HB9.out HI.out.2.2.1.lt,by rw [HST.out,HMS.out]⟩⟩
     case measure=>simp [intOf];omega
  ·have hltI:¬ (j:Int)<n:=by omega
   have hjn2:j=n:=by omega
   have HMN:=hide (show minP r=m from by rw [← HI.out.2.2.2,List.take_of_length_le (by rw [HLEN.out];omega)]);have HI1:=hide HI.out.1;have HI3:=hide HI.out.2.2.1;have q0:=HI.out.2.1.cell;have q1:=HI.out.2.1.frozen;have q2:=HI.out.2.1.lt;have s0:=HI.out.2.2.1.cell;have s1:=HI.out.2.2.1.frozen;have s2:=HI.out.2.2.1.lt;clear HI;go_wp2_with fail
   have hb6:=(HI3.out.set_ 0 (.int .i64 m.x)).set_ 1 (.int .i64 m.y);refine bodyPost_ret (v:=.agg #[.int .i64 m.x,.int .i64 m.y]) (by simp [results,Tryz.results147,go_sem,hb6.cell 0,hb6.cell 1]) rfl ⟨by rw [HMN.out],?_⟩;exact (HI1.out.setCell (p:=⟨w.heap.size,0,none⟩) (Nat.le_refl _) _).setCell (p:=⟨w.heap.size,1,none⟩) (Nat.le_refl _) _
theorem eqP_at:EqlAt Tryz.prog 56 (fun x=>.agg (encPt x).toArray) (fun p q=>decide (p=q)):=by
 refine ⟨fun x y w=>?_,GuardAt.agg _ (by kernel_rfl)⟩;simp only [encPt];rw [run_eql_struct,eq_pt,eqb_pt];rfl
theorem index_any (r:List Pt) (A:Option Addr) (n c:Nat) (p:Pt) (w:World) (hr:PR w w.heap.size A n r) (hn:n≤1000000000) (h0:0<n) (hp:p∈r) :
 Calls Tryz.prog 146 #[.slice A n c,.agg #[.int .i64 p.x,.int .i64 p.y]] w fun e w'=>e=.returned (.int .i64 (r.idxOf p:Nat))∧Below w.heap.size w w':=by
 obtain ⟨b,o,rfl,hb,hcs⟩:=hr.at h0;have hlen:=hr.1;have hcon:=AnyQ.slices_Index Tryz.idxP 2 Tryz.isAgg56 Tryz.sizeOf56 encPt (fun _=>rfl) _ eqP_at b o n c r p w (by omega) (by omega) (fun j hj i v hv=>by
  have e:r[j]! = r[j]:=getElem!_pos r j hj;rw [e] at hv;have h1:=hcs j hj
  match i,hv with
  | 0,hv=>simp [encPt] at hv;subst hv;simpa using h1.1
  | 1,hv=>simp [encPt] at hv;subst hv;exact h1.2
  | i+2,hv=>simp [encPt] at hv)
 change Calls Tryz.prog 146 _ _ _ at hcon;refine hcon.mono ?_;rintro e w' ⟨rfl,q,rfl⟩;refine ⟨?_,btr (bal bR _) (bdn _ _)⟩;have hk:r.idxOf p<r.length:=List.idxOf_lt_length_iff.2 hp;rw [Lib.idxBy_hit _ r n (r.idxOf p) p (by omega) (by omega) (by rw [getElem!_pos r _ hk,List.getElem_idxOf hk];simp) (fun j hj=>by
  rw [getElem!_pos r j (by omega)];simp only [decide_eq_false_iff_not];intro e;have h2:=List.not_of_lt_findIdx (show j<r.findIdx (· == p) from hj);rw [← e] at h2;simp at h2)]
theorem slR_cut {w:World} {B b o n:Nat} {r:List Pt} (h:PR w B (some ⟨b,o,none⟩) n r) {k:Nat} (hk:k<n):PR w B (some ⟨b,o+k * 2,none⟩) (n - k) (r.drop k):=by
 have h2:=Sl.cut h Pt.enc_len (i:=k) (cap:=n) (by omega) (Nat.le_refl _);rw [if_neg (by omega)] at h2;simp only [Option.map_some] at h2;have e:(⟨b,o,none⟩:Addr).add (k * 2)=⟨b,o+k * 2,none⟩:=by
  unfold Addr.add;split
  ·rename_i h;rw [h];rfl
  ·rfl
 rwa [e] at h2
set_option maxRecDepth 100000 in
set_option maxHeartbeats 2000000 in
theorem least_any (r:List Pt) (A:Option Addr) (n c:Nat) (w:World) (hr:PR w w.heap.size A n r) (hn:n≤10000000) (hc:n≤c) (hcm:c≤maxLen) :
 Calls Tryz.prog 99 #[.slice A n c] w fun e w'=>∃ v,e=.returned v∧w'.ownsRow w.heap.size 56 2 v n ((leastL r).flatMap Pt.enc)∧Below w.heap.size w w':=by
 have hlen:=hr.1;by_cases h0:n=0
 ·subst h0;obtain rfl:r=[]:=List.eq_nil_of_length_eq_zero hlen;clear hr hlen
  go_enter Tryz.func99,Tryz.ntmps99
  go_wp2_with fail
  go_ret;exact ⟨_,rfl,World.ownsRow_nil _ _ _ _,Below.refl _ _⟩
 ·have h00:0<n:=by omega
  have hr0:0<r.length:=by omega
  obtain ⟨b,o,rfl,hb,hcs⟩:=hr.at h00;obtain ⟨m,hm⟩:∃ m,minP r=m:=⟨_,rfl⟩;obtain ⟨k,hk⟩:∃ k,leastK r=k:=⟨_,rfl⟩;have hkn:k<n:=by have:=leastK_lt hr0;omega
  have hmi:=hide (minfunc_any r _ n c w hr (by omega) h00);have hix:=hide (fun w0 (h:PR w0 w0.heap.size (some ⟨b,o,none⟩) n r)=>index_any r _ n c (minP r) w0 h (by omega) h00 (minP_mem hr0));rw [show r.idxOf (minP r)=k from hk] at hix;rw [hm] at hmi hix;have HL:=hide (show leastL r=r.drop k++r.take k from by unfold leastL;rw [hk]);have HR:=hide hr;have hr1:=slR_cut hr hkn;have hr2:=Sl.take hr Pt.enc_len (i:=k) (by omega);have HR1:=hide hr1;have HR2:=hide hr2;have n0:((n:Int) == 0)=false:=by simp;omega
  have hkc:k<c:=by omega
  have hkc2:k≤c:=by omega
  have hkc3:¬ c=k:=by omega
  have hkc4:k≤n:=by omega
  clear hr hr1 hr2 hcs hm hk hlen hr0
  go_enter Tryz.func99,Tryz.ntmps99
  go_upto_region 4 with (first
   | (go_at_call 147;(refine hmi.out.mono ?_);rintro e w2 ⟨rfl,h2⟩;have HB2:=hide h2;clear h2)
   | (go_at_call 146;(refine (hix.out _ (HR.out.later HB2.out)).mono ?_);rintro e w3 ⟨rfl,h3⟩;have HB3:=hide (btr HB2.out h3);clear h3))
  obtain ⟨W2,hW2⟩:∃ q,w3.drew=q:=⟨_,rfl⟩;have HBW2:=hide (show Below w.heap.size w W2 from hW2 ▸ HB3.out.drew);have HW2:=hide hW2;clear hW2 hmi hix;obtain ⟨W3,hW3⟩:∃ q,W2.alloc (.cells #[.slice (some ⟨b,o+k * 2,none⟩) (n - k) (c - k),.slice (some ⟨b,o,none⟩) k c] 23)=q:=⟨_,rfl⟩;have HBW3:=hide (show Below w.heap.size w W3 from hW3 ▸ (HBW2.out.trans ((bal bR _).mono HBW2.out.size)));have HK3:=hide (show Blk W3 W2.heap.size 23 (([⟨some ⟨b,o+k * 2,none⟩,n - k,c - k,r.drop k⟩,⟨some ⟨b,o,none⟩,k,c,r.take k⟩]:List Sq).map Sq.val).toArray from hW3 ▸ Blk.new _ _ _);have HCC:=hide (concat_pts (c0:=2) (m:=2) HK3.out (fun s hs=>by
   simp only [List.mem_cons,List.not_mem_nil,or_false] at hs;rcases hs with rfl|rfl
   ·exact (HR1.out.below HBW3.out).more HBW3.out.size
   ·exact (HR2.out.below HBW3.out).more HBW3.out.size) rfl (by omega) (by unfold totL;simp;omega))
  have HTL:=hide (show totL ([⟨some ⟨b,o+k * 2,none⟩,n - k,c - k,r.drop k⟩,⟨some ⟨b,o,none⟩,k,c,r.take k⟩]:List Sq)=n from by unfold totL;simp;omega);have HTP:=hide (show totP ([⟨some ⟨b,o+k * 2,none⟩,n - k,c - k,r.drop k⟩,⟨some ⟨b,o,none⟩,k,c,r.take k⟩]:List Sq)=leastL r from by unfold totP;rw [HL.out];simp);have HW3:=hide hW3;clear hW3;have hkc5:c≤9223372036854775807:=by unfold maxLen at hcm;omega
  refine wp_region_dag (by kernel_rfl) (by kernel_rfl) 19 2
   [⟨some 11,[0],[],[],[],[],fun _ _ v _=>v=.slice (some ⟨b,o,none⟩) n c⟩,
    ⟨some 12,[0],[],[],[],[],fun _ _ v _=>v=.int .i64 (k:Int)⟩,
    ⟨some 13,[0],[],[],[0,1],[],fun _ _ v _=>v=.slice (some ⟨b,o+k * 2,none⟩) (n - k) (c - k)⟩,
    ⟨some 14,[0],[],[],[],[],fun _ _ v _=>v=.slice (some ⟨b,o,none⟩) n c⟩,
    ⟨some 15,[0],[],[],[],[],fun _ _ v _=>v=.int .i64 (k:Int)⟩,
    ⟨some 16,[0],[],[],[3,4],[],fun _ _ v _=>v=.slice (some ⟨b,o,none⟩) k c⟩,
    ⟨some 17,[0],[(0,1)],[1,2],[2,5],[],fun st a v w'=>v=.slice (some ⟨W2.heap.size,0,none⟩) 2 2⟩,
    ⟨some 18,[1],[(1,2)],[2],[6],[],fun st a v w'=>w'.ownsRow w.heap.size 56 2 v n ((leastL r).flatMap Pt.enc)∧Below w.heap.size w w'⟩,
    ⟨some 2,[2],[],[],[7],[],fun st a v w'=>w'.ownsRow w.heap.size 56 2 v n ((leastL r).flatMap Pt.enc)∧Below w.heap.size w w'⟩] (fun st w'=>(st=0→w'=W2)∧(st=1→w'=W3)) (fun s s' _ w w'=>Below w.heap.size w w') (fun _ w w'=>w'=w) ?gu ?ru ?put [11,12,13,14,15,16,17,18,2] rfl (by kernel_rfl) rfl ?g0 ?keep ?steps ?fin
  case ru=>
   intro e he s a v w w' hu hv;simp only [List.mem_cons,List.not_mem_nil,or_false] at he;rcases he with rfl|rfl|rfl|rfl|rfl|rfl|rfl|rfl|rfl
   all_goals first|exact hv|(subst hu;exact hv)
  case put=>
   intro e he s a d u v w hnd hv;simp only [List.mem_cons,List.not_mem_nil,or_false] at he;rcases he with rfl|rfl|rfl|rfl|rfl|rfl|rfl|rfl|rfl
   all_goals first|exact hv
  case keep=>
   intro e he s s' a v w w' hsl hm ht hv;simp only [List.mem_cons,List.not_mem_nil,or_false] at he;rcases he with rfl|rfl|rfl|rfl|rfl|rfl|rfl|rfl|rfl
   all_goals first|exact hv|exact ⟨own_later hv.1 ht,hv.2.trans (ht.mono hv.2.size)⟩
  case steps=>
   refine ⟨?_,?_,?_,?_,?_,?_,?_,?_,?_,trivial⟩
   ·intro st hst ac w3 hg hG hd K hK;dsimp only at hst hG hK;exact op_move _ rfl (hK _ _ rfl (hg.kp 0 (by simp)))
   ·intro st hst ac w3 hg hG hd K hK;dsimp only at hst hG hK;exact op_move _ rfl (hK _ _ rfl (hg.kp 3 (by simp)))
   ·intro st hst ac w3 hg hG hd K hK;dsimp only at hst hG hK;have f0:=hd 0 (by simp) _ rfl _ rfl;have f1:=hd 1 (by simp) _ rfl _ rfl;(try simp [Act.eval] at f0);(try simp [Act.eval] at f1);go_simp;exact hK _ _ rfl rfl
   ·intro st hst ac w3 hg hG hd K hK;dsimp only at hst hG hK;exact op_move _ rfl (hK _ _ rfl (hg.kp 0 (by simp)))
   ·intro st hst ac w3 hg hG hd K hK;dsimp only at hst hG hK;exact op_move _ rfl (hK _ _ rfl (hg.kp 3 (by simp)))
   ·intro st hst ac w3 hg hG hd K hK;dsimp only at hst hG hK;have f3:=hd 3 (by simp) _ rfl _ rfl;have f4:=hd 4 (by simp) _ rfl _ rfl;(try simp [Act.eval] at f3);(try simp [Act.eval] at f4);go_simp;exact hK _ _ rfl rfl
   ·intro st st' hmv ac w3 hg hG hd K hK;simp only [List.mem_cons,Prod.mk.injEq,List.not_mem_nil,or_false] at hmv;obtain ⟨rfl,rfl⟩:=hmv;dsimp only at hG hK;have f1:=hd 2 (by simp) _ rfl _ rfl;have f3:=hd 5 (by simp) _ rfl _ rfl;obtain rfl:=hG.1 rfl;clear hG;simp [Act.eval] at f1 f3;go_simp;exact hK _ _ (bal bR _) ⟨fun h=>by omega,fun _=>HW3.out⟩ rfl
   ·intro st st' hmv ac w3 hg hG hd K hK;simp only [List.mem_cons,Prod.mk.injEq,List.not_mem_nil,or_false] at hmv;obtain ⟨rfl,rfl⟩:=hmv;dsimp only at hG hK;have f1:=hd 6 (by simp) _ rfl _ rfl;obtain rfl:=hG.2 rfl;clear hG;simp [Act.eval] at f1;go_simp;(refine HCC.out.mono ?_);rintro e w4 ⟨v,rfl,h1,h2⟩;rw [HTL.out,HTP.out] at h1;exact hK v w4 h2 ⟨fun h=>by omega,fun h=>by omega⟩ ⟨own_base h1 HBW3.out.size,HBW3.out.trans (h2.mono HBW3.out.size)⟩
   ·intro st hst ac w3 hg hG hd K hK;dsimp only at hst hG hK;exact op_assign _ rfl (hK _ _ rfl (hd 7 (by simp) _ rfl _ rfl))
  case gu=>intro s a b hG hu;rw [hu];exact hG
  case g0=>exact ⟨fun _=>HW2.out,fun h=>by omega⟩
  case fin=>
   intro f9 w9 hG hall;have h2:=hide (hall _ (List.mem_of_getElem? (i:=8) rfl) 2 rfl);clear hall hG;simp only [fillF,List.map_cons,List.map_nil,List.foldl_cons,List.foldl_nil,Act.put,List.setIfInBounds_toArray,List.set_cons_zero,List.set_cons_succ];obtain ⟨v9,hv9⟩:∃ v,f9 2=v:=⟨_,rfl⟩;rw [hv9] at h2 ⊢;clear hv9;go_wp2_with fail
   go_ret;exact ⟨_,rfl,h2.out.1,h2.out.2⟩
end Go.Proofs.YtacinobmcgcccaaGreatDoor
/-
  DERIVED: THE SHELF's CONTRACTS AT THIS DUMP, IN PLAIN WORDS (tools/lay-plain.mjs out of 'TryzShelfE.lean', which tools/lay-shelf.mjs wrote): THE SAME DECLARATIONS UNDER THE SAME NAMES: 'import', 'namespace', 'open', 'def', 'theorem' AND NOTHING ELSE: no command of the shelf's: FOR A HAND-IN. Each laying: the table of numbers ('.._ren') and one theorem, a field a fact of the dump's own or the kernel's comparison;each contract: ONE APPLICATION.
-/
namespace Go.Proofs
open Go.Shelf
def Tryz.cfB_ren:Go.Shelf.Ren:=⟨fun|8=>136|6=>164|n=>n,fun|22=>29|23=>5|25=>182|4=>4|3=>3|0=>0|n=>n,fun|n=>n⟩
theorem Tryz.cfB:Go.Proofs.SlLaysH.n8 Tryz.prog Tryz.cfB_ren:={
 mixed:=by kernel_rfl
 f6:=⟨Tryz.f164.name,by decide,Tryz.func164.trans (congrArg some (by kernel_rfl))⟩
 f8:=⟨Tryz.f136.name,by decide,Tryz.func136.trans (congrArg some (by kernel_rfl))⟩
 t0:=Tryz.underlying0
 a0:=Tryz.isAgg0
 z0:=Tryz.sizeOf0
 v0:=Tryz.zeroValue0
 t3:=Tryz.underlying3
 a3:=Tryz.isAgg3
 z3:=Tryz.sizeOf3
 v3:=Tryz.zeroValue3
 t4:=Tryz.underlying4
 a4:=Tryz.isAgg4
 z4:=Tryz.sizeOf4
 v4:=Tryz.zeroValue4
 t22:=Tryz.underlying29
 a22:=Tryz.isAgg29
 z22:=Tryz.sizeOf29
 v22:=Tryz.zeroValue29
 a23:=Tryz.isAgg5
 z23:=Tryz.sizeOf5
 t25:=Tryz.underlying182
 a25:=Tryz.isAgg182
 z25:=Tryz.sizeOf182
 v25:=Tryz.zeroValue182 }
def Tryz.idxS_ren:Go.Shelf.Ren:=⟨fun|29=>86|n=>n,fun|22=>36|23=>9|3=>3|0=>0|4=>4|n=>n,fun|n=>n⟩
end Go.Proofs
/- plan.ID, plan.owned, plan.listed. -/
namespace Go.Proofs.YtacinobmcgcccaaGreatDoor
open Go.RowKit Go.Shelf
def idB (i:Int):Bool:=decide (1≤i)&&decide (i≤1073741824)
def badC (c:UInt8):Bool:=decide ((c.toNat:Int)<32)||decide (126<(c.toNat:Int))
def ownerB (t:ByteArray):Bool:=decide (t.size≤32) && !(t.data.toList.any badC)
theorem pid_any (i:Int) (w:World):Calls Tryz.prog 95 #[.int .i64 i] w fun e w'=>e=.returned (.bool (idB i))∧w'=w:=by
 obtain ⟨a,ha⟩:∃ a,decide (1≤i)=a:=⟨_,rfl⟩;obtain ⟨b,hb⟩:∃ b,decide (i≤1073741824)=b:=⟨_,rfl⟩;have HF:=hide (show idB i=(a&&b) from by unfold idB;rw [ha,hb]);cases a
 ·go_enter Tryz.func95,Tryz.ntmps95
  go_wp2_with fail
  go_ret;exact ⟨by rw [HF.out];rfl,rfl⟩
 ·go_enter Tryz.func95,Tryz.ntmps95
  go_wp2_with fail
  go_ret;exact ⟨by rw [HF.out];rfl,rfl⟩
theorem owned1_any (w:World):PredAt Tryz.prog 150 #[] (fun x:UInt8=>Value.int .u8 (x.toNat:Int)) badC w:=fun W x hb=>by
 show Calls Tryz.prog 150 #[.int .u8 (x.toNat:Int)] W _;obtain ⟨m,hm⟩:∃ m:Int,(x.toNat:Int)=m:=⟨_,rfl⟩;obtain ⟨a,ha⟩:∃ a,decide (m<32)=a:=⟨_,rfl⟩;obtain ⟨b,hb⟩:∃ b,decide (126<m)=b:=⟨_,rfl⟩;have HF:=hide (show badC x=(a||b) from by unfold badC;rw [hm,ha,hb]);rw [hm];clear hm;cases a
 ·go_enter Tryz.func150,Tryz.ntmps150
  go_wp2_with fail
  go_ret;exact ⟨by rw [HF.out];rfl,0,rfl⟩
 ·go_enter Tryz.func150,Tryz.ntmps150
  go_wp2_with fail
  go_ret;exact ⟨by rw [HF.out];rfl,0,rfl⟩
set_option maxRecDepth 100000 in
theorem owned_any (t:ByteArray) (w:World) (ht:t.size≤140737488355328):Calls Tryz.prog 110 #[.string t] w fun e w'=>e=.returned (.bool (ownerB t))∧Below w.heap.size w w':=by
 by_cases h:t.size≤32
 ·obtain ⟨w1,hw1⟩:∃ q,Lib.bytesWorld w 5 t=q:=⟨_,rfl⟩;have hcx:(convert 9 29 (.string t)).run Tryz.prog w=.ok (.slice (some ⟨w.heap.size,0,none⟩) t.size (grownCap w t.size 0 5)) w1:=hw1 ▸ Lib.run_convert_string_bytes w 9 29 5 t Tryz.underlying9 Tryz.underlying29 Tryz.underlying5;have HB1:=hide (show Below w.heap.size w w1 from hw1 ▸ ⟨rfl,rfl,rfl,by rw [Lib.bytesWorld_size];omega,fun j hj=>Lib.bytesWorld_at_old w 5 _ j hj⟩);have eg:∀ args w,(callFunc 150 args).run Tryz.prog w=.ok (.enter 150 args) w:=enters_of Tryz.func150 (by kernel_rfl) rfl;have hcon:=AnyE.slices_ContainsFunc Tryz.cfB (fun x:UInt8=>Value.int .u8 (x.toNat:Int)) badC 150 #[] eg w.heap.size 0 t.size (grownCap w t.size 0 5) t.data.toList w1 (owned1_any w1) (by rw [Array.length_toList];exact Nat.le_refl _) (by omega) (fun j hj=>by
   rw [Array.length_toList] at hj;rw [← hw1,Nat.zero_add,Lib.bytesWorld_cell w 5 t j hj,getElem!_pos t.data.toList j (by rw [Array.length_toList];exact hj)];congr 2;simp [ByteArray.get!,Array.getElem!_eq_getD,hj];rw [Array.getElem?_eq_getElem hj];rfl)
  change Calls Tryz.prog 136 _ _ _ at hcon;rw [List.take_of_length_le (by rw [Array.length_toList];exact Nat.le_refl _)] at hcon;obtain ⟨gc,hgc⟩:∃ gc,grownCap w t.size 0 5=gc:=⟨_,rfl⟩;obtain ⟨q,hq⟩:∃ q,t.data.toList.any badC=q:=⟨_,rfl⟩;rw [hgc] at hcx hcon;rw [hq] at hcon;have HC:=hide hcon;have HF:=hide (show ownerB t = !q from by unfold ownerB;rw [hq,decide_eq_true h];rfl);have h1:(t.size:Int)≤32:=by omega
  clear hcon hw1 hgc hq
  go_enter Tryz.func110,Tryz.ntmps110
  go_wp2_with (go_at_call 136;(refine HC.out.mono ?_);rintro e w2 ⟨rfl,qq,rfl⟩)
  go_ret;exact ⟨by rw [HF.out];rfl,btr HB1.out (bdn _ _)⟩
 ·have HF:=hide (show ownerB t=false from by unfold ownerB;rw [decide_eq_false h];rfl);have h1:¬ (t.size:Int)≤32:=by omega
  go_enter Tryz.func110,Tryz.ntmps110
  go_wp2_with fail
  go_ret;exact ⟨by rw [HF.out];rfl,Below.refl _ _⟩
structure Pc where
 id:Int
 ring:List Pt
 owner:ByteArray
structure Pv where
 pc:Pc
 A:Option Addr
 n:Nat
 c:Nat
def Pv.enc (v:Pv):List Value:=[.int .i64 v.pc.id,.slice v.A v.n v.c,.string v.pc.owner]
theorem Pv.enc_len (v:Pv):v.enc.length=3:=rfl
structure PvOk (w:World) (B:Nat) (v:Pv):Prop where
 pr:PR w B v.A v.n v.pc.ring
 cap:v.n≤v.c
 cmax:v.c≤maxLen
 small:v.n≤8796093022208
 id:-9223372036854775808≤v.pc.id∧v.pc.id≤9223372036854775807
 own:v.pc.owner.size≤140737488355328
theorem PvOk.below {w w':World} {B:Nat} {v:Pv} (h:PvOk w B v) (hb:Below B w w'):PvOk w' B v:=⟨h.pr.below hb,h.cap,h.cmax,h.small,h.id,h.own⟩
theorem PvOk.more {w:World} {B B':Nat} {v:Pv} (h:PvOk w B v) (hb:B≤B'):PvOk w B' v:=⟨h.pr.more hb,h.cap,h.cmax,h.small,h.id,h.own⟩
structure PsR (w:World) (B:Nat) (A:Option Addr) (n:Nat) (vs:List Pv):Prop where
 sl:Sl 3 Pv.enc w B A n vs
 ok:∀ v∈vs,PvOk w B v
theorem PsR.below {w w':World} {B n:Nat} {A:Option Addr} {vs:List Pv} (h:PsR w B A n vs) (hb:Below B w w'):PsR w' B A n vs:=⟨h.sl.below hb,fun v hv=>(h.ok v hv).below hb⟩
theorem PsR.more {w:World} {B B' n:Nat} {A:Option Addr} {vs:List Pv} (h:PsR w B A n vs) (hb:B≤B'):PsR w B' A n vs:=⟨h.sl.more hb,fun v hv=>(h.ok v hv).more hb⟩
theorem PsR.later {w w':World} {n:Nat} {A:Option Addr} {vs:List Pv} (h:PsR w w.heap.size A n vs) (hb:Below w.heap.size w w'):PsR w' w'.heap.size A n vs:=(h.below hb).more hb.size
theorem PsR.at {w:World} {B n:Nat} {A:Option Addr} {vs:List Pv} (h:PsR w B A n vs) (hn:0<n) :
 ∃ b o,A=some ⟨b,o,none⟩∧b<B ∧ ∀ j (hj:j<vs.length),w.cell? ⟨b,o+j * 3,none⟩=some (.int .i64 vs[j].pc.id)∧w.cell? ⟨b,o+j * 3+1,none⟩=some (.slice vs[j].A vs[j].n vs[j].c)∧w.cell? ⟨b,o+j * 3+2,none⟩=some (.string vs[j].pc.owner):=by
 obtain ⟨b,o,hA,hB,hc⟩:=h.sl.at Pv.enc_len (by omega) hn;exact ⟨b,o,hA,hB,fun j hj=>⟨hc j hj 0 _ rfl,hc j hj 1 _ rfl,hc j hj 2 _ rfl⟩⟩
structure PlV where
 Ao:Option Addr
 no:Nat
 co:Nat
 outer:List Pt
 A:Option Addr
 n:Nat
 c:Nat
 vs:List Pv
def PlV.val (p:PlV):Value:=.agg #[.slice p.Ao p.no p.co,.slice p.A p.n p.c]
structure PlOk (w:World) (B:Nat) (p:PlV):Prop where
 out:PR w B p.Ao p.no p.outer
 ocap:p.no≤p.co
 ocm:p.co≤maxLen
 osm:p.no≤8796093022208
 ps:PsR w B p.A p.n p.vs
 cap:p.n≤p.c
 cm:p.c≤maxLen
 sm:p.n≤8796093022208
theorem PlOk.below {w w':World} {B:Nat} {p:PlV} (h:PlOk w B p) (hb:Below B w w'):PlOk w' B p:=⟨h.out.below hb,h.ocap,h.ocm,h.osm,h.ps.below hb,h.cap,h.cm,h.sm⟩
theorem PlOk.more {w:World} {B B':Nat} {p:PlV} (h:PlOk w B p) (hb:B≤B'):PlOk w B' p:=⟨h.out.more hb,h.ocap,h.ocm,h.osm,h.ps.more hb,h.cap,h.cm,h.sm⟩
theorem PlOk.later {w w':World} {p:PlV} (h:PlOk w w.heap.size p) (hb:Below w.heap.size w w'):PlOk w' w'.heap.size p:=(h.below hb).more hb.size
def listGo:Int→Int→List Pc→Option Int
 | n,_,[]=>some n
 | n,last,x :: l=>if idB x.id&&(decide (last<x.id)&&(ownerB x.owner&&decide (n+x.ring.length≤1024))) then listGo (n+x.ring.length) x.id l else none
def listedB (outer:List Pt) (ps:List Pc):Bool:=
 match listGo outer.length 0 ps with
 | none=>false
 | some n=>decide (1≤ps.length)&&(decide (ps.length≤64)&&decide (n≤1024))
theorem listGo_drop {l:List Pc} {k:Nat} (hk:k<l.length) (n last:Int):listGo n last (l.drop k)=if idB l[k].id&&(decide (last<l[k].id)&&(ownerB l[k].owner&&decide (n+l[k].ring.length≤1024))) then listGo (n+l[k].ring.length) l[k].id (l.drop (k+1)) else none:=by
 rw [List.drop_eq_getElem_cons hk];rfl
theorem listed_no {outer:List Pt} {ps:List Pc} (h:listGo outer.length 0 ps=none):listedB outer ps=false:=by unfold listedB;rw [h]
theorem listed_some {outer:List Pt} {ps:List Pc} {n:Int} (h:listGo outer.length 0 ps=some n):listedB outer ps=(decide (1≤ps.length)&&(decide (ps.length≤64)&&decide (n≤1024))):=by unfold listedB;rw [h]
theorem list_step {l:List Pc} {k:Nat} {n last:Int} {x:Pc} (hk:k<l.length) (hx:l[k]=x) {b1 b2 b3 b4:Bool} (h1:idB x.id=b1) (h2:decide (x.id≤last) = !b2) (h3:ownerB x.owner=b3) (h4:decide (1024<n+x.ring.length) = !b4) :
 listGo n last (l.drop k)=if b1&&(b2&&(b3&&b4)) then listGo (n+x.ring.length) x.id (l.drop (k+1)) else none:=by
 rw [listGo_drop hk,hx,h1,h3];have e2:decide (last<x.id)=b2:=by
  have:decide (last<x.id) = !decide (x.id≤last):=by
   by_cases h:last<x.id
   ·simp [h]
   ·simp [h];omega
  rw [this,h2,Bool.not_not]
 have e4:decide (n+(x.ring.length:Int)≤1024)=b4:=by
  have:decide (n+(x.ring.length:Int)≤1024) = !decide (1024<n+(x.ring.length:Int)):=by
   by_cases h:n+(x.ring.length:Int)≤1024
   ·simp [h];
   ·simp [h];omega
  rw [this,h4,Bool.not_not]
 rw [e2,e4]
set_option maxRecDepth 100000 in
set_option maxHeartbeats 4000000 in
theorem listed_any (P:PlV) (w:World) (hP:PlOk w w.heap.size P) :
 Calls Tryz.prog 66 #[P.val] w fun e w'=>e=.returned (.bool (listedB P.outer (P.vs.map Pv.pc)))∧Below w.heap.size w w':=by
 obtain ⟨Ao,no,co,outer,A,n,c,vs⟩:=P;have holen:outer.length=no:=hP.out.1;have hvlen:vs.length=n:=hP.ps.sl.1;have hosm:no≤8796093022208:=hP.osm;have hsm:n≤8796093022208:=hP.sm;have HP:=hide hP;have HOL:=hide holen;have HVL:=hide hvlen;show Calls Tryz.prog 66 #[.agg #[.slice Ao no co,.slice A n c]] w _;obtain ⟨w1,hw1⟩:∃ q,w.alloc (.cells #[.slice Ao no co,.slice A n c] 26)=q:=⟨_,rfl⟩;have HB1:=hide (show Below w.heap.size w w1 from hw1 ▸ bal bR _);have hk1:Blk w1 w.heap.size 26 #[.slice Ao no co,.slice A n c]:=hw1 ▸ Blk.new _ _ _;have HK1:=hide hk1;have kc:=hk1.cell;have fc:=hk1.frozen;have zc:=hk1.lt;have HW1:=hide hw1;clear hP holen hvlen hw1 hk1;simp only
 go_enter Tryz.func66,Tryz.ntmps66
 go_upto_region 1 with fail
 rw [HW1.out];go_wp2_with fail
 clear kc fc zc
 go_loopw [3,4,13] (fun v3 v4 v13 wr=>∃ (k:Nat) (nn last:Int),v13=.int .i64 (k:Int)∧v3=.int .i64 nn∧v4=.int .i64 last∧k≤n∧0≤nn∧nn≤8796093022208 ∧
  Hid (Below w.heap.size w wr∧Blk wr w.heap.size 26 #[.slice Ao no co,.slice A n c]∧listGo outer.length 0 (vs.map Pv.pc)=listGo nn last ((vs.map Pv.pc).drop k))) (fun _ _ v _=>n - (intOf v).toNat)
 case atStart=>exact ⟨0,no,0,rfl,rfl,rfl,by omega,by omega,by omega,hide ⟨HB1.out,HK1.out,by rw [HOL.out];rfl⟩⟩
 case round=>
  obtain ⟨k,nn,last,rfl,rfl,rfl,hkn,hn0,hn1,HI⟩:=hrel;by_cases hlt:k<n
  ·have hltI:(k:Int)<n:=by omega
   have hkv:k<vs.length:=by rw [HVL.out];exact hlt
   obtain ⟨b,o,hA,hb,hcs⟩:=HP.out.ps.at (show 0<n by omega);simp only at hA;subst hA;obtain ⟨c0,c1,c2⟩:=hcs k hkv;have hok:=HP.out.ps.ok _ (List.getElem_mem hkv);obtain ⟨v,hv⟩:∃ v,vs[k]=v:=⟨_,rfl⟩;rw [hv] at c0 c1 c2 hok;obtain ⟨⟨id,ring,owner⟩,Av,nv,cv⟩:=v;have c0:=(HI.out.1.cell (p:=⟨b,o+k * 3,none⟩) hb).trans c0;have c1:=(HI.out.1.cell (p:=⟨b,o+k * 3+1,none⟩) hb).trans c1;have c2:=(HI.out.1.cell (p:=⟨b,o+k * 3+2,none⟩) hb).trans c2;have hbr:b<wr.heap.size:=nLl hb HI.out.1.size;have hk2:k<(vs.map Pv.pc).length:=by simpa using hkv
   have hpk:(vs.map Pv.pc)[k]=⟨id,ring,owner⟩:=by simp [hv]
   have hrl:ring.length=nv:=hok.pr.1;have hnv:nv≤8796093022208:=hok.small;have hos:owner.size≤140737488355328:=hok.own;simp only at c0 c1 c2;obtain ⟨b1,hb1⟩:∃ q,idB id=q:=⟨_,rfl⟩;obtain ⟨b2,hb2⟩:∃ q,decide (id≤last) = !q:=⟨!decide (id≤last),by simp⟩;obtain ⟨b3,hb3⟩:∃ q,ownerB owner=q:=⟨_,rfl⟩;obtain ⟨b4,hb4⟩:∃ q,decide (1024<nn+(nv:Int)) = !q:=⟨!decide (1024<nn+(nv:Int)),by simp⟩;have hstep:=list_step (n:=nn) (last:=last) hk2 hpk hb1 hb2 hb3 (by rw [hrl];exact hb4);have HID:=hide (fun w0=>by have:=pid_any id w0;rw [hb1] at this;exact this);have HOW:=hide (fun w0=>by have:=owned_any owner w0 hos;rw [hb3] at this;exact this);have HKN:=hide (Blk.new wr 43 #[.int .i64 id,.slice Av nv cv,.string owner]);have HBN:=hide (show Below wr.heap.size wr (wr.alloc (.cells #[.int .i64 id,.slice Av nv cv,.string owner] 43)) from bal bR _);simp only [hrl] at hstep;have hwr:IntKind.i64.wrap (nn+(nv:Int))=nn+(nv:Int):=by rw [IntKind.wrap_i64];omega
   clear hv hok hcs hpk hb1 hb3 hrl hos;cases b1
   ·have HNO:=hide (listed_no (HI.out.2.2.trans (hstep.trans rfl)));clear hstep;go_wp2_with (first
     | (go_at_call 95;(refine (HID.out _).mono ?_);rintro e w4 ⟨rfl,e2⟩;rw [e2];clear e2)
     | (go_at_call 110;(refine (HOW.out _).mono ?_);rintro e w5 ⟨rfl,hb5⟩;have HB5:=hide hb5;have hk5:=HKN.out.below hb5 HKN.out.lt;have HK5:=hide hk5;have kc:=hk5.cell;have fc:=hk5.frozen;have zc:=hk5.lt;clear hb5 hk5))
    go_ret;exact ⟨by rw [HNO.out];rfl,HI.out.1.trans (HBN.out.mono HI.out.1.size)⟩
   ·cases b2
    ·simp only [Bool.not_false] at hb2;have HNO:=hide (listed_no (HI.out.2.2.trans (hstep.trans rfl)));clear hstep;go_wp2_with (first
      | (go_at_call 95;(refine (HID.out _).mono ?_);rintro e w4 ⟨rfl,e2⟩;rw [e2];clear e2)
      | (go_at_call 110;(refine (HOW.out _).mono ?_);rintro e w5 ⟨rfl,hb5⟩;have HB5:=hide hb5;have hk5:=HKN.out.below hb5 HKN.out.lt;have HK5:=hide hk5;have kc:=hk5.cell;have fc:=hk5.frozen;have zc:=hk5.lt;clear hb5 hk5))
     go_ret;exact ⟨by rw [HNO.out];rfl,HI.out.1.trans (HBN.out.mono HI.out.1.size)⟩
    ·simp only [Bool.not_true] at hb2;cases b3
     ·have HNO:=hide (listed_no (HI.out.2.2.trans (hstep.trans rfl)));clear hstep;go_wp2_with (first
       | (go_at_call 95;(refine (HID.out _).mono ?_);rintro e w4 ⟨rfl,e2⟩;rw [e2];clear e2)
       | (go_at_call 110;(refine (HOW.out _).mono ?_);rintro e w5 ⟨rfl,hb5⟩;have HB5:=hide hb5;have hk5:=HKN.out.below hb5 HKN.out.lt;have HK5:=hide hk5;have kc:=hk5.cell;have fc:=hk5.frozen;have zc:=hk5.lt;clear hb5 hk5))
      go_ret;exact ⟨by rw [HNO.out];rfl,HI.out.1.trans ((btr HBN.out HB5.out).mono HI.out.1.size)⟩
     ·cases b4
      ·simp only [Bool.not_false] at hb4;have HNO:=hide (listed_no (HI.out.2.2.trans (hstep.trans rfl)));clear hstep;go_wp2_with (first
        | (go_at_call 95;(refine (HID.out _).mono ?_);rintro e w4 ⟨rfl,e2⟩;rw [e2];clear e2)
        | (go_at_call 110;(refine (HOW.out _).mono ?_);rintro e w5 ⟨rfl,hb5⟩;have HB5:=hide hb5;have hk5:=HKN.out.below hb5 HKN.out.lt;have HK5:=hide hk5;have kc:=hk5.cell;have fc:=hk5.frozen;have zc:=hk5.lt;clear hb5 hk5))
       go_ret;exact ⟨by rw [HNO.out];rfl,HI.out.1.trans ((btr HBN.out HB5.out).mono HI.out.1.size)⟩
      ·simp only [Bool.not_true] at hb4;have HGO:=hide (HI.out.2.2.trans (hstep.trans rfl));have hb4':nn+(nv:Int)≤1024:=by simp at hb4;omega
       clear hstep;go_wp2_with (first
        | (go_at_call 95;(refine (HID.out _).mono ?_);rintro e w4 ⟨rfl,e2⟩;rw [e2];clear e2)
        | (go_at_call 110;(refine (HOW.out _).mono ?_);rintro e w5 ⟨rfl,hb5⟩;have HB5:=hide hb5;have hk5:=HKN.out.below hb5 HKN.out.lt;have HK5:=hide hk5;have kc:=hk5.cell;have fc:=hk5.frozen;have zc:=hk5.lt;clear hb5 hk5))
       go_roundw
       case rel=>exact ⟨k+1,nn+nv,id,by go_num,rfl,rfl,by omega,by omega,by omega,hide ⟨HI.out.1.trans ((btr HBN.out HB5.out).mono HI.out.1.size),HI.out.2.1.below (btr HBN.out HB5.out) HI.out.2.1.lt,HGO.out⟩⟩
       case measure=>simp [intOf];omega
  ·have hltI:¬ (k:Int)<n:=by omega
   have hgo:=HI.out.2.2;rw [List.drop_eq_nil_of_le (by rw [List.length_map,HVL.out];omega)] at hgo;have hls:=listed_some hgo;rw [List.length_map,HVL.out] at hls;obtain ⟨d1,h1⟩:∃ q,decide (1≤(n:Int))=q:=⟨_,rfl⟩;obtain ⟨d2,h2⟩:∃ q,decide ((n:Int)≤64)=q:=⟨_,rfl⟩;obtain ⟨d3,h3⟩:∃ q,decide (nn≤1024)=q:=⟨_,rfl⟩;rw [show decide (1≤n)=d1 from by rw [← h1];simp;omega,show decide (n≤64)=d2 from by rw [← h2];simp;omega,h3] at hls;have HLS:=hide hls;have kc:=HI.out.2.1.cell;have fc:=HI.out.2.1.frozen;have zc:=HI.out.2.1.lt;have HBB:=hide HI.out.1;clear hls hgo HI;cases d1
   ·go_wp2_with fail
    go_ret;exact ⟨by rw [HLS.out];rfl,HBB.out⟩
   ·cases d2
    ·go_wp2_with fail
     go_ret;exact ⟨by rw [HLS.out];rfl,HBB.out⟩
    ·go_wp2_with fail
     go_ret;exact ⟨by rw [HLS.out];rfl,HBB.out⟩
end Go.Proofs.YtacinobmcgcccaaGreatDoor
