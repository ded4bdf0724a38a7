/- The reference: Check of rings. -/
import Derived.Test.YtacinobmcgcccaaGreatDoorK36
import Derived.Test.YtacinobmcgcccaaGreatDoorK04
import Derived.Test.YtacinobmcgcccaaGreatDoorK31
set_option linter.unusedSimpArgs false
set_option linter.unusedVariables false
namespace Go.Proofs.YtacinobmcgcccaaGreatDoor
open Go.RowKit Go.Shelf
def PairsOk (r:List Pt) (i j:Nat):Prop:=∀ i' j' (h1:i'<r.length) (h2:j'<r.length),i'<j'→(i'<i∨i'=i∧j'<j)→r[i']≠r[j']∧meetE (edgeAt r i') (edgeAt r j')=wantE r.length i' j'
theorem pairs_next {r:List Pt} {i:Nat} (h:PairsOk r i r.length):PairsOk r (i+1) (i+1+1):=by
 intro i' j' h1 h2 hij hw;refine h i' j' h1 h2 hij ?_;rcases hw with hw|⟨rfl,hw⟩
 ·rcases Nat.lt_or_ge i' i with q|q
  ·exact .inl q
  ·exact .inr ⟨by omega,h2⟩
 ·omega
theorem pairs_step {r:List Pt} {i j:Nat} (hi:i<r.length) (hj:j<r.length) (h:PairsOk r i j) (h1:r[i]≠r[j]) (h2:meetE (edgeAt r i) (edgeAt r j)=wantE r.length i j):PairsOk r i (j+1):=by
 intro i' j' h3 h4 hij hw;by_cases he:i'=i∧j'=j
 ·obtain ⟨rfl,rfl⟩:=he;exact ⟨h1,h2⟩
 ·refine h i' j' h3 h4 hij ?_;rcases hw with hw|⟨rfl,hw⟩
  ·exact .inl hw
  ·exact .inr ⟨rfl,by omega⟩
theorem ring_no_eq {r:List Pt} {i j:Nat} (ha:areaE r=0) (hi:i<r.length) (hj:j<r.length) (hij:i<j) (h:r[i]=r[j]):ringE r=4:=by
 have hn:twiceB r=true:=by
  unfold twiceB;simp only [Bool.not_eq_true',decide_eq_false_iff_not];intro hd;have:=(List.getElem_inj hd).1 h;omega
 unfold ringE;rw [if_neg (by omega),hn];split <;> rfl
theorem ring_no_meet {r:List Pt} {i j:Nat} (ha:areaE r=0) (hj:j<r.length) (hij:i<j) (h:meetE (edgeAt r i) (edgeAt r j)≠wantE r.length i j):ringE r=4:=by
 unfold ringE;rw [if_neg (by omega),simple_no hij hj h]
 repeat' split
 all_goals first|rfl|contradiction
theorem ring_yes {r:List Pt} {i:Nat} (ha:areaE r=0) (h3:3≤r.length) (hp:0<areaV r) (hi:r.length≤i) {j:Nat} (h:PairsOk r i j):ringE r=0:=by
 have hn:twiceB r=false:=by
  unfold twiceB;simp only [Bool.not_eq_false',decide_eq_true_iff];unfold List.Nodup;rw [List.pairwise_iff_getElem];intro a b h1 h2 hab;exact (h a b h1 h2 hab (.inl (by omega))).1
 have hs:simpleB r=true:=simple_iff.2 fun a b hab hb=>(h a b (by omega) hb hab (.inl (by omega))).2
 unfold ringE;rw [if_neg (by omega),if_neg (by omega),hn,if_neg (by simp),if_neg (by omega),hs];rfl
set_option maxRecDepth 100000 in
set_option maxHeartbeats 4000000 in
theorem rcheck_any (r:List Pt) (A:Option Addr) (n c:Nat) (w:World) (hr:PR w w.heap.size A n r) (hn:n≤8796093022208) :
 Calls Tryz.prog 15 #[.slice A n c] w fun e w'=>e=.returned (.int .i64 (ringE r))∧Below w.heap.size w w':=by
 have hlen:=hr.1;have HR:=hide hr;have HLEN:=hide hlen;have HAR:=hide (rarea_any r A n c w hr hn);have hai:areaE r=0→areaI r=two (areaV r):=fun h=>by unfold areaI;rw [if_pos h]
 by_cases ha:areaE r=0
 ·have hz:=areaE_zero ha;have HA:=hide ha;have HGD:=hide hz.2;rw [hai ha,ha] at HAR;have hab:=area_bound ha;obtain ⟨I,hI⟩:∃ I,two (areaV r)=I:=⟨_,rfl⟩;have HSG:=hide (fun w0=>rsign_any I w0 (hI ▸ two_ok (by unfold inr;omega)));rw [hI] at HAR;have hnum:I.num=areaV r:=by rw [← hI,two_num]
  rw [hnum] at HSG;have hn128:n≤128:=by rw [← hlen];exact hz.1
  obtain ⟨sg,hsg⟩:∃ s,cmpOf (areaV r) 0=s:=⟨_,rfl⟩;have hcp:=cmp_pos (areaV r);rw [hsg] at HSG hcp;have HCP:=hide hcp;clear hr hlen hai ha hz hab hI hnum hsg hcp;by_cases h3:n<3
  ·have h3I:(n:Int)<3:=by omega
   have HF:=hide (show ringE r=4 from by unfold ringE;rw [if_neg (by have:=HA.out;omega),if_pos (by rw [HLEN.out];exact h3)])
   go_enter Tryz.func15,Tryz.ntmps15
   go_wp2_with (go_at_call 36;(refine HAR.out.mono ?_);rintro e w2 ⟨rfl,hb2⟩;have HB2:=hide hb2;clear hb2)
   go_ret;exact ⟨by rw [HF.out];rfl,bal HB2.out _⟩
  ·have h3I:¬ (n:Int)<3:=by omega
   by_cases hp:0<areaV r
   ·have hs1:(sg != 1)=false:=by have:=HCP.out;rw [decide_eq_true hp] at this;simpa using this
    have HPO:=hide hp;clear hp
    go_enter Tryz.func15,Tryz.ntmps15
    go_upto_region 7 with (first
     | (go_at_call 36;(refine HAR.out.mono ?_);rintro e w2 ⟨rfl,hb2⟩;have HB2:=hide hb2;clear hb2)
     | (go_at_call 37;(refine (HSG.out _).mono ?_);rintro e w3 ⟨rfl,hb3⟩;have HB3:=hide (btr (bal HB2.out _) hb3);clear hb3))
    go_wp2_with fail
    go_loopw [6] (fun v6 wr=>∃ (i:Nat),v6=.int .i64 (i:Int)∧i≤n∧Hid (Below w.heap.size w wr∧PairsOk r i (i+1))) (fun v _=>n - (intOf v).toNat)
    case atStart=>exact ⟨0,rfl,by omega,hide ⟨HB3.out,fun i' j' _ _ h1 h2=>by omega⟩⟩
    case round=>
     obtain ⟨i,rfl,hin,HI⟩:=hrel;by_cases hlt:i<n
     ·have hltI:(i:Int)<n:=by omega
      have hil:i<r.length:=by rw [HLEN.out];exact hlt
      go_wp2_with fail
      go_loopw [7] (fun v7 wr'=>∃ (j:Nat),v7=.int .i64 (j:Int)∧i<j∧j≤n∧Hid (Below w.heap.size w wr'∧PairsOk r i j)) (fun v _=>n - (intOf v).toNat)
      case atStart=>exact ⟨i+1,by go_num,by omega,by omega,hide ⟨HI.out.1,HI.out.2⟩⟩
      case round=>
       obtain ⟨j,rfl,hij,hjn,HI2⟩:=hrel;by_cases hlt2:j<n
       ·have hltJ:(j:Int)<n:=by omega
        have hjl:j<r.length:=by rw [HLEN.out];exact hlt2
        obtain ⟨k1,hk1⟩:∃ q,(i+1) % n=q:=⟨_,rfl⟩;obtain ⟨k2,hk2⟩:∃ q,(j+1) % n=q:=⟨_,rfl⟩;have hk1n:k1<n:=by rw [← hk1];exact Nat.mod_lt _ (by omega)
        have hk2n:k2<n:=by rw [← hk2];exact Nat.mod_lt _ (by omega)
        have hk1r:k1<r.length:=by rw [HLEN.out];exact hk1n
        have hk2r:k2<r.length:=by rw [HLEN.out];exact hk2n
        have ek1:Int.tmod ((i:Int)+1) (n:Int)=(k1:Int):=by
         rw [← hk1,Int.tmod_eq_emod_of_nonneg (by omega)]
         push_cast
         rfl
        have ek2:Int.tmod ((j:Int)+1) (n:Int)=(k2:Int):=by
         rw [← hk2,Int.tmod_eq_emod_of_nonneg (by omega)]
         push_cast
         rfl
        have hk1I:(k1:Int)<n:=by omega
        have hn0:¬ n=0:=by omega
        have hwi:IntKind.i64.wrap ((i:Int)+1)=(i:Int)+1:=by rw [IntKind.wrap_i64];omega
        have hwj:IntKind.i64.wrap ((j:Int)+1)=(j:Int)+1:=by rw [IntKind.wrap_i64];omega
        have hk2I:(k2:Int)<n:=by omega
        have hE1:edgeAt r i=⟨r[i],r[k1]⟩:=by
         unfold edgeAt;simp only [HLEN.out,hk1];rw [List.getD_eq_getElem?_getD,List.getElem?_eq_getElem hil,List.getD_eq_getElem?_getD,List.getElem?_eq_getElem hk1r];rfl
        have hE2:edgeAt r j=⟨r[j],r[k2]⟩:=by
         unfold edgeAt;simp only [HLEN.out,hk2];rw [List.getD_eq_getElem?_getD,List.getElem?_eq_getElem hjl,List.getD_eq_getElem?_getD,List.getElem?_eq_getElem hk2r];rfl
        have ga:=good_mem HGD.out (List.getElem_mem hil);have gb:=good_mem HGD.out (List.getElem_mem hk1r);have gp:=good_mem HGD.out (List.getElem_mem hjl);have gq:=good_mem HGD.out (List.getElem_mem hk2r);obtain ⟨b,o,rfl,hb,hcs⟩:=(show PR wr w.heap.size A n r from HR.out.below HI2.out.1).at (show 0<n by omega);obtain ⟨a0,a1⟩:=hcs i hil;obtain ⟨b0,b1⟩:=hcs k1 hk1r;obtain ⟨p0,p1⟩:=hcs j hjl;obtain ⟨q0,q1⟩:=hcs k2 hk2r;have hEQ:decide (r[i]=r[j])=(r[i].x == r[j].x&&r[i].y == r[j].y):=(eqb_pt _ _).symm;obtain ⟨a,hva⟩:∃ q,r[i]=q:=⟨_,rfl⟩;obtain ⟨bb,hvb⟩:∃ q,r[k1]=q:=⟨_,rfl⟩;obtain ⟨p,hvp⟩:∃ q,r[j]=q:=⟨_,rfl⟩;obtain ⟨q,hvq⟩:∃ q,r[k2]=q:=⟨_,rfl⟩;rw [hva] at a0 a1 ga hE1 hEQ;rw [hvb] at b0 b1 gb hE1;rw [hvp] at p0 p1 gp hE2 hEQ;rw [hvq] at q0 q1 gq hE2;have HMT:=hide (fun w0=>rmeet_any a bb p q w0 ga gb gp gq);obtain ⟨mv,hmv⟩:∃ m,rmeetV a bb p q=m:=⟨_,rfl⟩;have HMV:=hide (show meetE (edgeAt r i) (edgeAt r j)=mv from by rw [hE1,hE2];exact hmv);rw [hmv] at HMT;obtain ⟨W,hW⟩:∃ W,wantE r.length i j=W:=⟨_,rfl⟩;obtain ⟨t,ht⟩:∃ t,(a.x == p.x&&a.y == p.y)=t:=⟨_,rfl⟩;have heq:=fun w1=>eq_pt a.x a.y p.x p.y w1
        rw [ht] at heq hEQ;have HEQ:=hide (show decide (r[i]=r[j])=t from by rw [hva,hvp];exact hEQ);have hgt:Tryz.prog.eqGuardType Tryz.prog.depth 56=false:=by kernel_rfl
        have hbr:b<wr.heap.size:=nLl hb HI2.out.1.size;have HC:=hide (show ∀ w',Below wr.heap.size wr w'→((w'.cell? ⟨b,o+i * 2,none⟩=some (.int .i64 a.x)∧w'.cell? ⟨b,o+i * 2+1,none⟩=some (.int .i64 a.y))∧(w'.cell? ⟨b,o+k1 * 2,none⟩=some (.int .i64 bb.x)∧w'.cell? ⟨b,o+k1 * 2+1,none⟩=some (.int .i64 bb.y))∧(w'.cell? ⟨b,o+j * 2,none⟩=some (.int .i64 p.x)∧w'.cell? ⟨b,o+j * 2+1,none⟩=some (.int .i64 p.y))∧(w'.cell? ⟨b,o+k2 * 2,none⟩=some (.int .i64 q.x)∧w'.cell? ⟨b,o+k2 * 2+1,none⟩=some (.int .i64 q.y)))∧b<w'.heap.size from fun w' h=>
         ⟨⟨⟨(h.cell (p:=⟨b,o+i * 2,none⟩) hbr).trans a0,(h.cell (p:=⟨b,o+i * 2+1,none⟩) hbr).trans a1⟩,⟨(h.cell (p:=⟨b,o+k1 * 2,none⟩) hbr).trans b0,(h.cell (p:=⟨b,o+k1 * 2+1,none⟩) hbr).trans b1⟩,⟨(h.cell (p:=⟨b,o+j * 2,none⟩) hbr).trans p0,(h.cell (p:=⟨b,o+j * 2+1,none⟩) hbr).trans p1⟩,⟨(h.cell (p:=⟨b,o+k2 * 2,none⟩) hbr).trans q0,(h.cell (p:=⟨b,o+k2 * 2+1,none⟩) hbr).trans q1⟩⟩,nLl hbr h.size⟩)
        clear hk1 hk2 hE1 hE2 ga gb gp gq hcs hEQ hva hvb hvp hvq hmv ht b0 b1 q0 q1;go_upto_region 13 with fail
        go_quiet (fail)
        have hbn:Below wr.heap.size wr (wr.drewN nq):=bdn wr nq;have HBN:=hide hbn;have HB5:=hide (HI2.out.1.trans (hbn.mono HI2.out.1.size));clear hbn a0 a1 p0 p1;cases t
        ·have HNE:=hide (show ¬ r[i]=r[j] from by have:=HEQ.out;simpa using this);obtain ⟨wx,hwx⟩:∃ x,wr.drewN nq=x:=⟨_,rfl⟩;rw [hwx] at HBN HB5 ⊢;clear hwx;go_upto_region 15 with fail
         refine wp_region_dag (by kernel_rfl) (by kernel_rfl) 98 0
          [⟨some 48,[0],[],[],[],[],fun _ _ v _=>v=.slice (some ⟨b,o,none⟩) n c⟩,
           ⟨some 49,[0],[],[],[],[],fun _ _ v _=>v=.int .i64 (i:Int)⟩,
           ⟨some 50,[0],[],[],[0,1],[],fun _ _ v _=>v=.pointer (some ⟨b,o+i * 2,none⟩)⟩,
           ⟨some 51,[0],[],[],[2],[],fun _ _ v _=>v=.agg #[.int .i64 a.x,.int .i64 a.y]⟩,
           ⟨some 52,[0],[],[],[],[],fun _ _ v _=>v=.slice (some ⟨b,o,none⟩) n c⟩,
           ⟨some 53,[0],[],[],[],[],fun _ _ v _=>v=.int .i64 (i:Int)⟩,
           ⟨some 54,[0],[],[],[5],[],fun _ _ v _=>v=.int .i64 ((i:Int)+1)⟩,
           ⟨some 55,[0],[],[],[],[],fun _ _ v _=>v=.int .i64 (n:Int)⟩,
           ⟨some 56,[0],[],[],[6,7],[],fun _ _ v _=>v=.int .i64 (k1:Int)⟩,
           ⟨some 57,[0],[],[],[4,8],[],fun _ _ v _=>v=.pointer (some ⟨b,o+k1 * 2,none⟩)⟩,
           ⟨some 58,[0],[],[],[9],[],fun _ _ v _=>v=.agg #[.int .i64 bb.x,.int .i64 bb.y]⟩,
           ⟨some 59,[0],[],[],[],[],fun _ _ v _=>v=.slice (some ⟨b,o,none⟩) n c⟩,
           ⟨some 60,[0],[],[],[],[],fun _ _ v _=>v=.int .i64 (j:Int)⟩,
           ⟨some 61,[0],[],[],[11,12],[],fun _ _ v _=>v=.pointer (some ⟨b,o+j * 2,none⟩)⟩,
           ⟨some 62,[0],[],[],[13],[],fun _ _ v _=>v=.agg #[.int .i64 p.x,.int .i64 p.y]⟩,
           ⟨some 63,[0],[],[],[],[],fun _ _ v _=>v=.slice (some ⟨b,o,none⟩) n c⟩,
           ⟨some 64,[0],[],[],[],[],fun _ _ v _=>v=.int .i64 (j:Int)⟩,
           ⟨some 65,[0],[],[],[16],[],fun _ _ v _=>v=.int .i64 ((j:Int)+1)⟩,
           ⟨some 66,[0],[],[],[],[],fun _ _ v _=>v=.int .i64 (n:Int)⟩,
           ⟨some 67,[0],[],[],[17,18],[],fun _ _ v _=>v=.int .i64 (k2:Int)⟩,
           ⟨some 68,[0],[],[],[15,19],[],fun _ _ v _=>v=.pointer (some ⟨b,o+k2 * 2,none⟩)⟩,
           ⟨some 69,[0],[],[],[20],[],fun _ _ v _=>v=.agg #[.int .i64 q.x,.int .i64 q.y]⟩,
           ⟨some 70,[0],[],[],[3,10,14,21],[],fun _ _ v _=>v=.int .i64 mv⟩,
           ⟨some 8,[0],[],[],[22],[],fun _ _ v _=>v=.int .i64 mv⟩] (fun _ w'=>Below wx.heap.size wx w') (fun _ _ _ _ _=>False) (fun _ w w'=>Below w.heap.size w w') ?gu ?ru ?put [48,49,50,51,52,53,54,55,56,57,58,59,60,61,62,63,64,65,66,67,68,69,70,8] rfl (by kernel_rfl) rfl ?g0 ?keep ?steps ?fin
         case ru=>
          intro e he s a v w w' hu hv;simp only [List.mem_cons,List.not_mem_nil,or_false] at he;rcases he with rfl|rfl|rfl|rfl|rfl|rfl|rfl|rfl|rfl|rfl|rfl|rfl|rfl|rfl|rfl|rfl|rfl|rfl|rfl|rfl|rfl|rfl|rfl|rfl
          all_goals first|exact hv
         case put=>
          intro e he s a d u v w hnd hv;simp only [List.mem_cons,List.not_mem_nil,or_false] at he;rcases he with rfl|rfl|rfl|rfl|rfl|rfl|rfl|rfl|rfl|rfl|rfl|rfl|rfl|rfl|rfl|rfl|rfl|rfl|rfl|rfl|rfl|rfl|rfl|rfl
          all_goals first|exact hv
         case keep=>
          intro e he s s' a v w w' hsl hm ht hv;simp only [List.mem_cons,List.not_mem_nil,or_false] at he;rcases he with rfl|rfl|rfl|rfl|rfl|rfl|rfl|rfl|rfl|rfl|rfl|rfl|rfl|rfl|rfl|rfl|rfl|rfl|rfl|rfl|rfl|rfl|rfl|rfl
          all_goals first|exact hv|exact ht.elim
         case steps=>
          refine ⟨?_,?_,?_,?_,?_,?_,?_,?_,?_,?_,?_,?_,?_,?_,?_,?_,?_,?_,?_,?_,?_,?_,?_,?_,trivial⟩
          ·intro st hst ac w3 hg hG hd K hK;dsimp only at hst hG hK;exact op_move _ rfl (hK _ _ bR (hg.kp 0 (by simp)))
          ·intro st hst ac w3 hg hG hd K hK;dsimp only at hst hG hK;exact op_move _ rfl (hK _ _ bR (hg.kp 6 (by simp)))
          ·intro st hst ac w3 hg hG hd K hK;dsimp only at hst hG hK;have f0:=hd 0 (by simp) _ rfl _ rfl;have f1:=hd 1 (by simp) _ rfl _ rfl;(try simp [Act.eval] at f0);(try simp [Act.eval] at f1);go_simp;exact hK _ _ bR rfl
          ·intro st hst ac w3 hg hG hd K hK;dsimp only at hst hG hK;obtain ⟨⟨⟨x0,x1⟩,⟨x2,x3⟩,⟨x4,x5⟩,x6,x7⟩,x8⟩:=HC.out _ (btr HBN.out hG);clear hG;have f2:=hd 2 (by simp) _ rfl _ rfl;(try simp [Act.eval] at f2);go_simp;exact hK _ _ bR rfl
          ·intro st hst ac w3 hg hG hd K hK;dsimp only at hst hG hK;exact op_move _ rfl (hK _ _ bR (hg.kp 0 (by simp)))
          ·intro st hst ac w3 hg hG hd K hK;dsimp only at hst hG hK;exact op_move _ rfl (hK _ _ bR (hg.kp 6 (by simp)))
          ·intro st hst ac w3 hg hG hd K hK;dsimp only at hst hG hK;have f5:=hd 5 (by simp) _ rfl _ rfl;(try simp [Act.eval] at f5);go_simp;exact hK _ _ bR rfl
          ·intro st hst ac w3 hg hG hd K hK;dsimp only at hst hG hK;exact op_move _ rfl (hK _ _ bR (hg.kp 5 (by simp)))
          ·intro st hst ac w3 hg hG hd K hK;dsimp only at hst hG hK;have f6:=hd 6 (by simp) _ rfl _ rfl;have f7:=hd 7 (by simp) _ rfl _ rfl;(try simp [Act.eval] at f6);(try simp [Act.eval] at f7);go_simp;exact hK _ _ bR rfl
          ·intro st hst ac w3 hg hG hd K hK;dsimp only at hst hG hK;have f4:=hd 4 (by simp) _ rfl _ rfl;have f8:=hd 8 (by simp) _ rfl _ rfl;(try simp [Act.eval] at f4);(try simp [Act.eval] at f8);go_simp;exact hK _ _ bR rfl
          ·intro st hst ac w3 hg hG hd K hK;dsimp only at hst hG hK;obtain ⟨⟨⟨x0,x1⟩,⟨x2,x3⟩,⟨x4,x5⟩,x6,x7⟩,x8⟩:=HC.out _ (btr HBN.out hG);clear hG;have f9:=hd 9 (by simp) _ rfl _ rfl;(try simp [Act.eval] at f9);go_simp;exact hK _ _ bR rfl
          ·intro st hst ac w3 hg hG hd K hK;dsimp only at hst hG hK;exact op_move _ rfl (hK _ _ bR (hg.kp 0 (by simp)))
          ·intro st hst ac w3 hg hG hd K hK;dsimp only at hst hG hK;exact op_move _ rfl (hK _ _ bR (hg.kp 7 (by simp)))
          ·intro st hst ac w3 hg hG hd K hK;dsimp only at hst hG hK;have f11:=hd 11 (by simp) _ rfl _ rfl;have f12:=hd 12 (by simp) _ rfl _ rfl;(try simp [Act.eval] at f11);(try simp [Act.eval] at f12);go_simp;exact hK _ _ bR rfl
          ·intro st hst ac w3 hg hG hd K hK;dsimp only at hst hG hK;obtain ⟨⟨⟨x0,x1⟩,⟨x2,x3⟩,⟨x4,x5⟩,x6,x7⟩,x8⟩:=HC.out _ (btr HBN.out hG);clear hG;have f13:=hd 13 (by simp) _ rfl _ rfl;(try simp [Act.eval] at f13);go_simp;exact hK _ _ bR rfl
          ·intro st hst ac w3 hg hG hd K hK;dsimp only at hst hG hK;exact op_move _ rfl (hK _ _ bR (hg.kp 0 (by simp)))
          ·intro st hst ac w3 hg hG hd K hK;dsimp only at hst hG hK;exact op_move _ rfl (hK _ _ bR (hg.kp 7 (by simp)))
          ·intro st hst ac w3 hg hG hd K hK;dsimp only at hst hG hK;have f16:=hd 16 (by simp) _ rfl _ rfl;(try simp [Act.eval] at f16);go_simp;exact hK _ _ bR rfl
          ·intro st hst ac w3 hg hG hd K hK;dsimp only at hst hG hK;exact op_move _ rfl (hK _ _ bR (hg.kp 5 (by simp)))
          ·intro st hst ac w3 hg hG hd K hK;dsimp only at hst hG hK;have f17:=hd 17 (by simp) _ rfl _ rfl;have f18:=hd 18 (by simp) _ rfl _ rfl;(try simp [Act.eval] at f17);(try simp [Act.eval] at f18);go_simp;exact hK _ _ bR rfl
          ·intro st hst ac w3 hg hG hd K hK;dsimp only at hst hG hK;have f15:=hd 15 (by simp) _ rfl _ rfl;have f19:=hd 19 (by simp) _ rfl _ rfl;(try simp [Act.eval] at f15);(try simp [Act.eval] at f19);go_simp;exact hK _ _ bR rfl
          ·intro st hst ac w3 hg hG hd K hK;dsimp only at hst hG hK;obtain ⟨⟨⟨x0,x1⟩,⟨x2,x3⟩,⟨x4,x5⟩,x6,x7⟩,x8⟩:=HC.out _ (btr HBN.out hG);clear hG;have f20:=hd 20 (by simp) _ rfl _ rfl;(try simp [Act.eval] at f20);go_simp;exact hK _ _ bR rfl
          ·intro st hst ac w3 hg hG hd K hK;dsimp only at hst hG hK;have f1:=hd 3 (by simp) _ rfl _ rfl;have f2:=hd 10 (by simp) _ rfl _ rfl;have f3:=hd 14 (by simp) _ rfl _ rfl;have f4:=hd 21 (by simp) _ rfl _ rfl;clear hG;simp [Act.eval] at f1 f2 f3 f4;go_simp;(refine (HMT.out w3).mono ?_);rintro e w8 ⟨rfl,hb⟩;exact hK _ _ hb rfl
          ·intro st hst ac w3 hg hG hd K hK;dsimp only at hst hG hK;exact op_assign _ rfl (hK _ _ bR (hd 22 (by simp) _ rfl _ rfl))
         case gu=>intro s w1 w2 hG hu;exact hG.trans (hu.mono hG.size)
         case g0=>exact bR.drew
         case fin=>
          intro f9 w9 hG hall;have h8:=hall _ (List.mem_of_getElem? (i:=23) rfl) 8 rfl;clear hall;have HBB:=hide (HB5.out.trans (hG.mono HB5.out.size));clear hG;simp only [fillF,List.map_cons,List.map_nil,List.foldl_cons,List.foldl_nil,Act.put,List.setIfInBounds_toArray,List.set_cons_zero,List.set_cons_succ];rw [h8];clear h8;by_cases e1:j=i+1
          ·have d1:((j:Int) == (i:Int)+1)=true:=by simp;omega
           have HWW:=hide (show wantE r.length i j=1 from want_yes (.inl e1));clear e1;by_cases hmw:mv=1
           ·have dmw:(mv != 1)=false:=by simp [hmw]
            have HJ:=hide (pairs_step hil hjl HI2.out.2 (fun e=>HNE.out e) (by rw [HMV.out,hmw,HWW.out]));clear hmw;go_wp2_with fail
            refine ⟨⟨j+1,by go_num,by omega,by omega,hide ⟨HBB.out,HJ.out⟩⟩,?_⟩;simp [intOf];omega
           ·have dmw:(mv != 1)=true:=by simp [hmw]
            have HF:=hide (ring_no_meet HA.out hjl hij (by rw [HMV.out,HWW.out];exact hmw));clear hmw;go_wp2_with fail
            go_ret;exact ⟨by rw [HF.out];rfl,HBB.out⟩
          ·have d1:((j:Int) == (i:Int)+1)=false:=by simp;omega
           by_cases e2:i=0
           ·have d2:((i:Int) == 0)=true:=by simp;omega
            by_cases e3:j=n - 1
            ·have d3:((j:Int) == (n:Int) - 1)=true:=by simp;omega
             have HWW:=hide (show wantE r.length i j=1 from want_yes (.inr ⟨e2,by rw [HLEN.out];exact e3⟩));clear e1 e2 e3;by_cases hmw:mv=1
             ·have dmw:(mv != 1)=false:=by simp [hmw]
              have HJ:=hide (pairs_step hil hjl HI2.out.2 (fun e=>HNE.out e) (by rw [HMV.out,hmw,HWW.out]));clear hmw;go_wp2_with fail
              refine ⟨⟨j+1,by go_num,by omega,by omega,hide ⟨HBB.out,HJ.out⟩⟩,?_⟩;simp [intOf];omega
             ·have dmw:(mv != 1)=true:=by simp [hmw]
              have HF:=hide (ring_no_meet HA.out hjl hij (by rw [HMV.out,HWW.out];exact hmw));clear hmw;go_wp2_with fail
              go_ret;exact ⟨by rw [HF.out];rfl,HBB.out⟩
            ·have d3:((j:Int) == (n:Int) - 1)=false:=by simp;omega
             have HWW:=hide (show wantE r.length i j=0 from want_no (by rw [HLEN.out];omega));clear e1 e2 e3;by_cases hmw:mv=0
             ·have dmw:(mv != 0)=false:=by simp [hmw]
              have HJ:=hide (pairs_step hil hjl HI2.out.2 (fun e=>HNE.out e) (by rw [HMV.out,hmw,HWW.out]));clear hmw;go_wp2_with fail
              refine ⟨⟨j+1,by go_num,by omega,by omega,hide ⟨HBB.out,HJ.out⟩⟩,?_⟩;simp [intOf];omega
             ·have dmw:(mv != 0)=true:=by simp [hmw]
              have HF:=hide (ring_no_meet HA.out hjl hij (by rw [HMV.out,HWW.out];exact hmw));clear hmw;go_wp2_with fail
              go_ret;exact ⟨by rw [HF.out];rfl,HBB.out⟩
           ·have d2:((i:Int) == 0)=false:=by simp;omega
            have HWW:=hide (show wantE r.length i j=0 from want_no (by rw [HLEN.out];omega));clear e1 e2;by_cases hmw:mv=0
            ·have dmw:(mv != 0)=false:=by simp [hmw]
             have HJ:=hide (pairs_step hil hjl HI2.out.2 (fun e=>HNE.out e) (by rw [HMV.out,hmw,HWW.out]));clear hmw;go_wp2_with fail
             refine ⟨⟨j+1,by go_num,by omega,by omega,hide ⟨HBB.out,HJ.out⟩⟩,?_⟩;simp [intOf];omega
            ·have dmw:(mv != 0)=true:=by simp [hmw]
             have HF:=hide (ring_no_meet HA.out hjl hij (by rw [HMV.out,HWW.out];exact hmw));clear hmw;go_wp2_with fail
             go_ret;exact ⟨by rw [HF.out];rfl,HBB.out⟩
        ·have HF:=hide (ring_no_eq HA.out hil hjl hij (by have:=HEQ.out;simpa using this));go_wp2_with fail
         go_ret;exact ⟨by rw [HF.out];rfl,HB5.out⟩
       ·have hltJ:¬ (j:Int)<n:=by omega
        obtain rfl:j=n:=by omega
        have HNX:=hide (show PairsOk r (i+1) (i+1+1) from pairs_next (by have:=HI2.out.2;rwa [← HLEN.out] at this));have HBJ:=hide HI2.out.1;clear HI2;go_wp2_with fail
        refine ⟨⟨i+1,by go_num,by omega,hide ⟨HBJ.out,HNX.out⟩⟩,?_⟩;simp [intOf];omega
     ·have hltI:¬ (i:Int)<n:=by omega
      obtain rfl:i=n:=by omega
      have HF:=hide (ring_yes HA.out (by rw [HLEN.out];omega) HPO.out (by rw [HLEN.out];exact Nat.le_refl _) HI.out.2);have HBJ:=hide HI.out.1;clear HI;go_wp2_with fail
      go_ret;exact ⟨by rw [HF.out];rfl,HBJ.out⟩
   ·have hs1:(sg != 1)=true:=by have:=HCP.out;rw [decide_eq_false hp] at this;simpa using this
    have HF:=hide (show ringE r=4 from by
     unfold ringE;rw [if_neg (by have:=HA.out;omega),if_neg (by rw [HLEN.out];exact h3)];split
     ·rfl
     ·rw [if_pos (by omega)])
    clear hp
    go_enter Tryz.func15,Tryz.ntmps15
    go_wp2_with (first
     | (go_at_call 36;(refine HAR.out.mono ?_);rintro e w2 ⟨rfl,hb2⟩;have HB2:=hide hb2;clear hb2)
     | (go_at_call 37;(refine (HSG.out _).mono ?_);rintro e w3 ⟨rfl,hb3⟩;have HB3:=hide (btr (bal HB2.out _) hb3);clear hb3))
    go_ret;exact ⟨by rw [HF.out];rfl,HB3.out⟩
 ·obtain ⟨E,hE⟩:∃ E,areaE r=E:=⟨_,rfl⟩;have HF:=hide (show ringE r=E from by unfold ringE;rw [if_pos ha,hE]);rw [hE] at HAR ha;have h0:(E == 0)=false:=by simp [ha]
  obtain ⟨I,hI⟩:∃ I,areaI r=I:=⟨_,rfl⟩;rw [hI] at HAR;clear hr hlen hai ha hE hI
  go_enter Tryz.func15,Tryz.ntmps15
  go_wp2_with (go_at_call 36;(refine HAR.out.mono ?_);rintro e w2 ⟨rfl,hb2⟩;have HB2:=hide hb2;clear hb2)
  go_ret;exact ⟨by rw [HF.out];rfl,bal HB2.out _⟩
set_option maxRecDepth 100000 in
theorem rnormed_any (r:List Pt) (A:Option Addr) (n c:Nat) (w:World) (hr:PR w w.heap.size A n r) (hn:n≤8796093022208) :
 Calls Tryz.prog 56 #[.slice A n c] w fun e w'=>e=.returned (.bool (normedB r))∧Below w.heap.size w w':=by
 have hlen:=hr.1;have HC:=hide (rcheck_any r A n c w hr hn);obtain ⟨E,hE⟩:∃ E,ringE r=E:=⟨_,rfl⟩;rw [hE] at HC;by_cases h0:E=0
 ·subst h0;have h3:3≤n∧n≤128:=by
   have h:=hE;unfold ringE at h;split at h
   ·rename_i h1;exact absurd h h1
   ·rename_i h1
    have:=areaE_zero (Classical.not_not.1 h1);split at h
    ·cases h
    ·omega
  have HL:=hide (fun w0 (h:PR w0 w0.heap.size A n r)=>rleast_any r A n c w0 h (by omega));obtain ⟨q,hq⟩:∃ q,decide (r=leastL r)=q:=⟨_,rfl⟩;have HR:=hide hr;have HF:=hide (show normedB r=q from by unfold normedB;rw [hE,hq];rfl);have HEQ:=hide (fun w0 A' c' (h1:PR w0 w0.heap.size A n r) (h2:PR w0 w0.heap.size A' n (leastL r))=>by
   have:=rsame_any r (leastL r) A A' n n c c' w0 h1 h2 (by omega) (by omega);rw [hq] at this;exact this)
  have HLL:=hide (show (leastL r).length=n from by rw [leastL_len,hlen]);clear hE hr hlen hq
  go_enter Tryz.func56,Tryz.ntmps56
  go_wp2_with (first
   | (go_at_call 15;(refine HC.out.mono ?_);rintro e w2 ⟨rfl,hb⟩;have HB:=hide hb;have HR2:=hide (HR.out.later hb);clear hb)
   | (go_at_call 102;(refine (HL.out w2 HR2.out).mono ?_);rintro e w3 ⟨v,rfl,hrow,hb⟩;(obtain ⟨A9,c9,rfl,-⟩:=own_sl hrow);have HR3:=hide (HR2.out.later hb);have HR4:=hide (show PR w3 w3.heap.size A9 n (leastL r) from Sl.own HLL.out rfl rfl hrow);have HB3:=hide (btr HB.out hb);clear hb hrow)
   | (go_at_call 54;(refine (HEQ.out w3 A9 c9 HR3.out HR4.out).mono ?_);rintro e w4 ⟨rfl,hb⟩;have HB4:=hide (btr HB3.out hb);clear hb))
  go_ret;exact ⟨by rw [HF.out];rfl,HB4.out⟩
 ·have h0b:(E == 0)=false:=by simp [h0]
  have HF:=hide (show normedB r=false from by unfold normedB;rw [hE,decide_eq_false h0];rfl);clear hE h0 hr hlen
  go_enter Tryz.func56,Tryz.ntmps56
  go_wp2_with (go_at_call 15;(refine HC.out.mono ?_);rintro e w2 ⟨rfl,hb⟩;have HB:=hide hb;clear hb)
  go_ret;exact ⟨by rw [HF.out];rfl,HB.out⟩
set_option maxRecDepth 100000 in
theorem rback_any (e:Eg) (w:World):Calls Tryz.prog 61 #[.agg #[.int .i64 e.a.x,.int .i64 e.a.y,.int .i64 e.b.x,.int .i64 e.b.y]] w fun r w'=>r=.returned (.agg #[.int .i64 e.b.x,.int .i64 e.b.y,.int .i64 e.a.x,.int .i64 e.a.y])∧Below w.heap.size w w':=by
 obtain ⟨w2,hw2⟩:∃ q,(w.alloc (.cells #[.int .i64 e.a.x,.int .i64 e.a.y,.int .i64 e.b.x,.int .i64 e.b.y] TEg)).alloc (.cells #[.int .i64 0,.int .i64 0,.int .i64 0,.int .i64 0] TEg)=q:=⟨_,rfl⟩;have hbs:Bs w2 [(w.heap.size+1,TEg,#[.int .i64 0,.int .i64 0,.int .i64 0,.int .i64 0]),(w.heap.size,TEg,#[.int .i64 e.a.x,.int .i64 e.a.y,.int .i64 e.b.x,.int .i64 e.b.y])]:=by
  have h:=((Bs.nil w).al #[.int .i64 e.a.x,.int .i64 e.a.y,.int .i64 e.b.x,.int .i64 e.b.y] TEg).al #[.int .i64 0,.int .i64 0,.int .i64 0,.int .i64 0] TEg;rw [← hw2];simpa using h
 have k1:=hbs _ (List.mem_of_getElem? (i:=0) rfl);have k2:=hbs _ (List.mem_of_getElem? (i:=1) rfl);have HK1:=hide k1;have c1:=k1.cell;have f1:=k1.frozen;have z1:=k1.lt;have c2:=k2.cell;have f2:=k2.frozen;have z2:=k2.lt;have HB:=hide (show Below w.heap.size w w2 from hw2 ▸ bal (bal bR _) _);have HW2:=hide hw2;clear hw2 hbs k1 k2
 go_enter Tryz.func61,Tryz.ntmps61
 go_upto_region 1 with fail
 rw [HW2.out];go_wp2_with fail
 have hb6:=(((HK1.out.set_ 0 (.int .i64 e.b.x)).set_ 1 (.int .i64 e.b.y)).set_ 2 (.int .i64 e.a.x)).set_ 3 (.int .i64 e.a.y);refine bodyPost_ret (v:=.agg #[.int .i64 e.b.x,.int .i64 e.b.y,.int .i64 e.a.x,.int .i64 e.a.y]) (by simp [results,Tryz.results61,go_sem,hb6.cell 0,hb6.cell 1,hb6.cell 2,hb6.cell 3]) rfl ⟨rfl,?_⟩;exact (((HB.out.setCell (p:=⟨w.heap.size+1,0,none⟩) (by simp) _).setCell (p:=⟨w.heap.size+1,1,none⟩) (by simp) _).setCell (p:=⟨w.heap.size+1,2,none⟩) (by simp) _).setCell (p:=⟨w.heap.size+1,3,none⟩) (by simp) _
set_option maxRecDepth 100000 in
set_option maxHeartbeats 2000000 in
theorem redges_any (r:List Pt) (A:Option Addr) (n c:Nat) (w:World) (hr:PR w w.heap.size A n r) (hn:n≤1000000) :
 Calls Tryz.prog 59 #[.slice A n c] w fun e w'=>∃ v,e=.returned v∧w'.ownsRow w.heap.size TEg 4 v n ((edgesL r).flatMap Eg.enc)∧Below w.heap.size w w':=by
 obtain ⟨i0,hi0,hz0,hz1,hz2⟩:=info_parts eg_info;have hlen:=hr.1;have HR:=hide hr;have HLEN:=hide hlen;clear hr hlen
 go_enter Tryz.func59,Tryz.ntmps59
 go_wp2_with fail
 go_loopw [3,4] (fun v3 v4 wr=>∃ (k c5:Nat) (A5:Option Addr),v4=.int .i64 (k:Int)∧v3=.slice A5 k c5∧k≤n∧Hid (Below w.heap.size w wr∧wr.ownsRow w.heap.size TEg 4 (.slice A5 k c5) k (((edgesL r).take k).flatMap Eg.enc))) (fun _ v _=>n - (intOf v).toNat)
 case atStart=>exact ⟨0,0,none,rfl,rfl,by omega,hide ⟨Below.refl _ _,World.ownsRow_nil _ _ _ _⟩⟩
 case round=>
  obtain ⟨k,c5,A5,rfl,rfl,hkn,HI⟩:=hrel;by_cases hlt:k<n
  ·have hltI:(k:Int)<n:=by omega
   have hkr:k<r.length:=by rw [HLEN.out];exact hlt
   obtain ⟨k2,hk2⟩:∃ q,(k+1) % n=q:=⟨_,rfl⟩;have hk2n:k2<n:=by rw [← hk2];exact Nat.mod_lt _ (by omega)
   have hk2r:k2<r.length:=by rw [HLEN.out];exact hk2n
   have ek:Int.tmod ((k:Int)+1) (n:Int)=(k2:Int):=by
    rw [← hk2,Int.tmod_eq_emod_of_nonneg (by omega)]
    push_cast
    rfl
   have hk2I:(k2:Int)<n:=by omega
   have hn0:¬ n=0:=by omega
   have hwk:IntKind.i64.wrap ((k:Int)+1)=(k:Int)+1:=by rw [IntKind.wrap_i64];omega
   have hE:edgeAt r k=⟨r[k],r[k2]⟩:=by
    unfold edgeAt;simp only [HLEN.out,hk2];rw [List.getD_eq_getElem?_getD,List.getElem?_eq_getElem hkr,List.getD_eq_getElem?_getD,List.getElem?_eq_getElem hk2r];rfl
   have hel:k<(edgesL r).length:=by rw [edges_len];exact hkr
   have hTK:=List.take_succ_eq_append_getElem hel;rw [edges_at hel,hE] at hTK;obtain ⟨b,o,rfl,hb,hcs⟩:=(show PR wr w.heap.size A n r from HR.out.below HI.out.1).at (show 0<n by omega);obtain ⟨r0,r1⟩:=hcs k hkr;obtain ⟨s0,s1⟩:=hcs k2 hk2r;obtain ⟨p,hp⟩:∃ q,r[k]=q:=⟨_,rfl⟩;obtain ⟨q,hq⟩:∃ q,r[k2]=q:=⟨_,rfl⟩;rw [hp] at r0 r1 hTK;rw [hq] at s0 s1 hTK;have HTK:=hide (show ((edgesL r).take (k+1)).flatMap Eg.enc=((edgesL r).take k).flatMap Eg.enc++[.int .i64 p.x,.int .i64 p.y,.int .i64 q.x,.int .i64 q.y] from by rw [hTK,List.flatMap_append,List.flatMap_singleton];rfl);have hbr:b<wr.heap.size:=nLl hb HI.out.1.size;have HC:=hide (show ∀ w',Below wr.heap.size wr w'→((w'.cell? ⟨b,o+k * 2,none⟩=some (.int .i64 p.x)∧w'.cell? ⟨b,o+k * 2+1,none⟩=some (.int .i64 p.y))∧(w'.cell? ⟨b,o+k2 * 2,none⟩=some (.int .i64 q.x)∧w'.cell? ⟨b,o+k2 * 2+1,none⟩=some (.int .i64 q.y)))∧b<w'.heap.size from fun w' h=>
    ⟨⟨⟨(h.cell (p:=⟨b,o+k * 2,none⟩) hbr).trans r0,(h.cell (p:=⟨b,o+k * 2+1,none⟩) hbr).trans r1⟩,⟨(h.cell (p:=⟨b,o+k2 * 2,none⟩) hbr).trans s0,(h.cell (p:=⟨b,o+k2 * 2+1,none⟩) hbr).trans s1⟩⟩,nLl hbr h.size⟩)
   have HXO:=hide HI.out.2;clear hcs hp hq hTK hE r0 r1 s0 s1 hk2;go_upto_region 5 with fail
   refine wp_region_dagO (by kernel_rfl) (by kernel_rfl) 28 1
    [⟨some 11,[0,1],[],[],[],[],fun _ _ v _=>v=.slice A5 k c5⟩,
     ⟨some 12,[0,1],[],[],[],[],fun _ _ v _=>v=.slice (some ⟨b,o,none⟩) n c⟩,
     ⟨some 13,[0,1],[],[],[],[],fun _ _ v _=>v=.int .i64 (k:Int)⟩,
     ⟨some 14,[0,1],[],[],[1,2],[],fun _ _ v _=>v=.pointer (some ⟨b,o+k * 2,none⟩)⟩,
     ⟨some 15,[0],[],[],[3],[],fun _ _ v _=>v=.agg #[.int .i64 p.x,.int .i64 p.y]⟩,
     ⟨some 16,[0,1],[],[],[],[],fun _ _ v _=>v=.slice (some ⟨b,o,none⟩) n c⟩,
     ⟨some 17,[0,1],[],[],[],[],fun _ _ v _=>v=.int .i64 (k:Int)⟩,
     ⟨some 18,[0,1],[],[],[6],[],fun _ _ v _=>v=.int .i64 ((k:Int)+1)⟩,
     ⟨some 19,[0,1],[],[],[],[],fun _ _ v _=>v=.slice (some ⟨b,o,none⟩) n c⟩,
     ⟨some 20,[0,1],[],[],[8],[],fun _ _ v _=>v=.int .i64 (n:Int)⟩,
     ⟨some 21,[0,1],[],[],[7,9],[],fun _ _ v _=>v=.int .i64 (k2:Int)⟩,
     ⟨some 22,[0,1],[],[],[5,10],[],fun _ _ v _=>v=.pointer (some ⟨b,o+k2 * 2,none⟩)⟩,
     ⟨some 23,[0],[],[],[11],[],fun _ _ v _=>v=.agg #[.int .i64 q.x,.int .i64 q.y]⟩,
     ⟨some 24,[0],[],[],[4,12],[],fun _ _ v _=>v=.agg #[.int .i64 p.x,.int .i64 p.y,.int .i64 q.x,.int .i64 q.y]⟩,
     ⟨some 25,[0],[],[],[13],[],fun st a v w'=>st=0 → ∃ g,v=.slice (some ⟨g,0,none⟩) 1 1∧Blk w' g TEg #[.int .i64 p.x,.int .i64 p.y,.int .i64 q.x,.int .i64 q.y]⟩,
     ⟨some 26,[0],[(0,1)],[1],[0,14],[],fun st a v w'=>1≤st∧(∃ B d,v=.slice B (k+1) d)∧w'.ownsRow w.heap.size TEg 4 v (k+1) (((edgesL r).take k).flatMap Eg.enc++[.int .i64 p.x,.int .i64 p.y,.int .i64 q.x,.int .i64 q.y])⟩,
     ⟨some 3,[1],[],[],[15],[],fun st a v w'=>1≤st∧(∃ B d,v=.slice B (k+1) d)∧w'.ownsRow w.heap.size TEg 4 v (k+1) (((edgesL r).take k).flatMap Eg.enc++[.int .i64 p.x,.int .i64 p.y,.int .i64 q.x,.int .i64 q.y])⟩] (GS w.heap.size w wr) (fun s s' _ _ _=>s=0∧s'=1) (fun _ w w'=>Below w.heap.size w w') ?gu ?ru ?put [11,12,13,14,15,16,17,18,19,20,21,22,23,24,25,26,3] rfl (by kernel_rfl) rfl ?g0 ?keep ?steps ?fin
   case ru=>
    intro e he s a v w w' hu hv;simp only [List.mem_cons,List.not_mem_nil,or_false] at he;rcases he with rfl|rfl|rfl|rfl|rfl|rfl|rfl|rfl|rfl|rfl|rfl|rfl|rfl|rfl|rfl|rfl|rfl
    all_goals first|exact hv|(intro h0;obtain ⟨g,e,hb⟩:=hv h0;exact ⟨g,e,hb.below hu hb.lt⟩)|(obtain ⟨h0,h1,h2⟩:=hv;exact ⟨h0,h1,own_later h2 hu⟩)
   case put=>
    intro e he s a d u v w hnd hv;simp only [List.mem_cons,List.not_mem_nil,or_false] at he;rcases he with rfl|rfl|rfl|rfl|rfl|rfl|rfl|rfl|rfl|rfl|rfl|rfl|rfl|rfl|rfl|rfl|rfl
    all_goals first|exact hv
   case keep=>
    intro e he s s' a v w w' hsl hm ht hv;simp only [List.mem_cons,List.not_mem_nil,or_false] at he;rcases he with rfl|rfl|rfl|rfl|rfl|rfl|rfl|rfl|rfl|rfl|rfl|rfl|rfl|rfl|rfl|rfl|rfl
    all_goals first|exact hv|(intro h3;exfalso;have:=ht.2;omega)|(exfalso;have:=hv.1;have:=ht.1;omega)
   case steps=>
    refine ⟨?_,?_,?_,?_,?_,?_,?_,?_,?_,?_,?_,?_,?_,?_,?_,?_,?_,trivial⟩
    ·intro st hst ac w3 hg hG hd ho K hK;dsimp only at hst hG hK;exact op_move _ rfl (hK _ _ bR (ho 16 _ rfl (by decide) (by kernel_rfl) 3 rfl))
    ·intro st hst ac w3 hg hG hd ho K hK;dsimp only at hst hG hK;exact op_move _ rfl (hK _ _ bR (hg.kp 0 (by simp)))
    ·intro st hst ac w3 hg hG hd ho K hK;dsimp only at hst hG hK;exact op_move _ rfl (hK _ _ bR (hg.kp 4 (by simp)))
    ·intro st hst ac w3 hg hG hd ho K hK;dsimp only at hst hG hK;have f1:=hd 1 (by simp) _ rfl _ rfl;have f2:=hd 2 (by simp) _ rfl _ rfl;(try simp [Act.eval] at f1);(try simp [Act.eval] at f2);go_simp;exact hK _ _ bR rfl
    ·intro st hst ac w3 hg hG hd ho K hK;dsimp only at hst hG hK;simp only [List.mem_cons,List.not_mem_nil,or_false] at hst;subst hst;obtain ⟨⟨⟨x0,x1⟩,x2,x3⟩,x4⟩:=HC.out _ (hG.2.2 rfl);clear hG;have f3:=hd 3 (by simp) _ rfl _ rfl;(try simp [Act.eval] at f3);go_simp;exact hK _ _ bR rfl
    ·intro st hst ac w3 hg hG hd ho K hK;dsimp only at hst hG hK;exact op_move _ rfl (hK _ _ bR (hg.kp 0 (by simp)))
    ·intro st hst ac w3 hg hG hd ho K hK;dsimp only at hst hG hK;exact op_move _ rfl (hK _ _ bR (hg.kp 4 (by simp)))
    ·intro st hst ac w3 hg hG hd ho K hK;dsimp only at hst hG hK;have f6:=hd 6 (by simp) _ rfl _ rfl;(try simp [Act.eval] at f6);go_simp;exact hK _ _ bR rfl
    ·intro st hst ac w3 hg hG hd ho K hK;dsimp only at hst hG hK;exact op_move _ rfl (hK _ _ bR (hg.kp 0 (by simp)))
    ·intro st hst ac w3 hg hG hd ho K hK;dsimp only at hst hG hK;have f8:=hd 8 (by simp) _ rfl _ rfl;(try simp [Act.eval] at f8);go_simp;exact hK _ _ bR rfl
    ·intro st hst ac w3 hg hG hd ho K hK;dsimp only at hst hG hK;have f7:=hd 7 (by simp) _ rfl _ rfl;have f9:=hd 9 (by simp) _ rfl _ rfl;(try simp [Act.eval] at f7);(try simp [Act.eval] at f9);go_simp;exact hK _ _ bR rfl
    ·intro st hst ac w3 hg hG hd ho K hK;dsimp only at hst hG hK;have f5:=hd 5 (by simp) _ rfl _ rfl;have f10:=hd 10 (by simp) _ rfl _ rfl;(try simp [Act.eval] at f5);(try simp [Act.eval] at f10);go_simp;exact hK _ _ bR rfl
    ·intro st hst ac w3 hg hG hd ho K hK;dsimp only at hst hG hK;simp only [List.mem_cons,List.not_mem_nil,or_false] at hst;subst hst;obtain ⟨⟨⟨x0,x1⟩,x2,x3⟩,x4⟩:=HC.out _ (hG.2.2 rfl);clear hG;have f11:=hd 11 (by simp) _ rfl _ rfl;(try simp [Act.eval] at f11);go_simp;exact hK _ _ bR rfl
    ·intro st hst ac w3 hg hG hd ho K hK;dsimp only at hst hG hK;have f4:=hd 4 (by simp) _ rfl _ rfl;have f12:=hd 12 (by simp) _ rfl _ rfl;(try simp [Act.eval] at f4);(try simp [Act.eval] at f12);go_simp;exact hK _ _ bR rfl
    ·intro st hst ac w3 hg hG hd ho K hK;dsimp only at hst hG hK;have f:=hd 13 (by simp) _ rfl _ rfl;clear hG;simp [Act.eval] at f;go_simp;exact hK _ _ (al_below w3 _) (fun _=>⟨_,rfl,Blk.new _ _ _⟩)
    ·intro st st' hmv ac w3 hg hG hd ho K hK;simp only [List.mem_cons,Prod.mk.injEq,List.not_mem_nil,or_false] at hmv;obtain ⟨rfl,rfl⟩:=hmv;dsimp only at hG hK;have f0:=hd 0 (by simp) _ rfl _ rfl;obtain ⟨gl,f9,hbl⟩:=hd 14 (by simp) _ rfl _ rfl rfl;refine wp_append_any w3 (.tmp 11) (.tmp 25) 104 rfl w.heap.size TEg i0 _ 4 32 Tryz.underlying104 hi0 hz0 hz1 hz2 rfl (by decide) (.slice A5 k c5) k (((edgesL r).take k).flatMap Eg.enc) f0 (own_later HXO.out (hG.2.2 rfl)) w3.heap.size (some ⟨gl,0,none⟩) 1 1 [.int .i64 p.x,.int .i64 p.y,.int .i64 q.x,.int .i64 q.y] f9 (reads_blk hbl rfl rfl) (by intro u hu;simp at hu;rcases hu with rfl|rfl|rfl|rfl <;> rfl) (by unfold maxLen;omega) (by omega) hG.2.1 ?_;intro v' w' ho hgb hoo;exact hK _ _ ⟨rfl,rfl⟩ ⟨hG.1.grown hgb hG.2.1 (fun k hk=>(HXO.out.lt k hk).1),Nat.le_trans hG.2.1 hgb.size,fun e=>by omega⟩ ⟨Nat.le_refl _,by obtain ⟨B,d,e,_⟩:=own_slice ho;exact ⟨B,d,e⟩,ho⟩
    ·intro st hst ac w3 hg hG hd ho K hK;dsimp only at hst hG hK;exact op_assign _ rfl (hK _ _ bR (hd 15 (by simp) _ rfl _ rfl))
   case gu=>intro s w1 w2 hG hu;exact ⟨hG.1.trans (hu.mono hG.2.1),Nat.le_trans hG.2.1 hu.size,fun e=>(hG.2.2 e).trans (hu.mono (hG.2.2 e).size)⟩
   case g0=>exact ⟨HI.out.1.drew,HI.out.1.size,fun _=>bR.drew⟩
   case fin=>
    intro f9 w9 hG hall;obtain ⟨_,⟨B9,d9,h9⟩,hch⟩:=hall _ (List.mem_of_getElem? (i:=16) rfl) 3 rfl;clear hall;have HG9:=hide hG.1;clear hG;simp only [fillF,List.map_cons,List.map_nil,List.foldl_cons,List.foldl_nil,Act.put,List.setIfInBounds_toArray,List.set_cons_zero,List.set_cons_succ];rw [h9] at hch ⊢;have HCH:=hide hch;clear hch h9;go_wp2_with fail
    refine ⟨⟨k+1,d9,B9,by go_num,rfl,by omega,hide ⟨HG9.out,by rw [HTK.out];exact HCH.out⟩⟩,?_⟩;simp [intOf];omega
  ·have hltI:¬ (k:Int)<n:=by omega
   obtain rfl:k=n:=by omega
   have hq:=HI.out.2;rw [List.take_of_length_le (by rw [edges_len,HLEN.out];exact Nat.le_refl _)] at hq;have HQ:=hide hq;clear hq;go_wp2_with fail
   go_ret;exact ⟨_,rfl,HQ.out,HI.out.1⟩
end Go.Proofs.YtacinobmcgcccaaGreatDoor
