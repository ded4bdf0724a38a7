/- The reference: All, Place. -/
import Derived.Test.YtacinobmcgcccaaGreatDoorK37
import Derived.Test.YtacinobmcgcccaaGreatDoorK14
import Derived.Test.YtacinobmcgcccaaGreatDoorK31
import Derived.Test.YtacinobmcgcccaaGreatDoorK16
import Derived.Test.YtacinobmcgcccaaGreatDoorK15
set_option linter.unusedSimpArgs false
set_option linter.unusedVariables false
namespace Go.Proofs.YtacinobmcgcccaaGreatDoor
open Go.RowKit Go.Shelf
theorem edgesOf_len {vs:List Pv} (h:∀ v∈vs,v.pc.ring.length≤128):(edgesOf vs).length≤vs.length * 128:=by
 induction vs with
 | nil=>simp [edgesOf]
 | cons v vs ih=>
   have:=ih fun x hx=>h x (by simp [hx])
   have h2:=h v (by simp);unfold edgesOf at *;rw [List.flatMap_cons,List.length_append,edges_len,List.length_cons];omega
theorem enc_ones (l:List Eg):∀ u∈l.flatMap Eg.enc,u.oneCell'=true:=by
 intro u hu;obtain ⟨x,_,hx⟩:=List.mem_flatMap.1 hu;simp [Eg.enc] at hx;rcases hx with rfl|rfl|rfl|rfl <;> rfl
set_option maxRecDepth 100000 in
set_option maxHeartbeats 2000000 in
theorem rall_any (vs:List Pv) (A:Option Addr) (n c:Nat) (w:World) (hP:PsR w w.heap.size A n vs) (hg:∀ v∈vs,v.n≤128) (hn:n≤64) :
 Calls Tryz.prog 58 #[.slice A n c] w fun e w'=>∃ v,e=.returned v∧w'.ownsRow w.heap.size TEg 4 v (edgesOf vs).length ((edgesOf vs).flatMap Eg.enc)∧Below w.heap.size w w':=by
 obtain ⟨i0,hi0,hz0,hz1,hz2⟩:=info_parts eg_info;have hrl:∀ v∈vs,v.pc.ring.length=v.n:=fun v hv=>(hP.ok v hv).pr.1
 have HRL:=hide hrl;have HP:=hide hP;have HVL:=hide hP.sl.1;have HGD:=hide hg;clear hP hg hrl
 go_enter Tryz.func58,Tryz.ntmps58
 go_wp2_with fail
 go_loopw [3,4] (fun v3 v4 wr=>∃ (k N c5:Nat) (A5:Option Addr),v4=.int .i64 (k:Int)∧v3=.slice A5 N c5∧k≤n∧Hid (Below w.heap.size w wr∧N=(edgesOf (vs.take k)).length∧wr.ownsRow w.heap.size TEg 4 (.slice A5 N c5) N ((edgesOf (vs.take k)).flatMap Eg.enc))) (fun _ v _=>n - (intOf v).toNat)
 case atStart=>exact ⟨0,0,0,none,rfl,rfl,by omega,hide ⟨Below.refl _ _,rfl,World.ownsRow_nil _ _ _ _⟩⟩
 case round=>
  obtain ⟨k,N,c5,A5,rfl,rfl,hkn,HI⟩:=hrel;by_cases hlt:k<n
  ·have hltI:(k:Int)<n:=by omega
   have hkv:k<vs.length:=by rw [HVL.out];exact hlt
   obtain ⟨b,o,rfl,hb,hcs⟩:=HP.out.at (show 0<n by omega);obtain ⟨c0,c1,c2⟩:=hcs k hkv;have hok:=HP.out.ok _ (List.getElem_mem hkv);have hnv:=HGD.out _ (List.getElem_mem hkv);have hTK:=edgesOf_take hkv;have hNb:N≤64 * 128:=by
    have h:=edgesOf_len (vs:=vs.take k) fun v hv=>by have:=HRL.out v (List.mem_of_mem_take hv);have:=HGD.out v (List.mem_of_mem_take hv);omega
    rw [← HI.out.2.1,List.length_take] at h;have:min k vs.length≤64:=by omega
    have:min k vs.length * 128≤64 * 128:=Nat.mul_le_mul_right _ this;omega
   obtain ⟨v,hv⟩:∃ v,vs[k]=v:=⟨_,rfl⟩;rw [hv] at c1 hok hnv hTK;obtain ⟨⟨id,ring,owner⟩,Av,nv,cv⟩:=v;simp only at c1 hnv hTK;have hrl:ring.length=nv:=hok.pr.1;have c1:=(HI.out.1.cell (p:=⟨b,o+k * 3+1,none⟩) hb).trans c1;have hbr:b<wr.heap.size:=nLl hb HI.out.1.size;have hpr:PR wr wr.heap.size Av nv ring:=(hok.pr.below HI.out.1).more HI.out.1.size;have HE:=hide (redges_any ring Av nv cv wr hpr (by omega));have HTK:=hide hTK;have HRI:=hide hrl;clear hcs hok hTK hv hrl hpr;go_wp2_with (first
    | (go_at_call 59;go_loud (refine HE.out.mono ?_);rintro e w3 ⟨v,rfl,hrow,hb3⟩;(obtain ⟨A9,c9,rfl,hc9⟩:=own_sl hrow);have HB3:=hide hb3;have HR9:=hide (Reads.of_own hrow);have HROW:=hide (own_later HI.out.2.2 hb3);have HWB:=hide (Nat.le_trans HI.out.1.size hb3.size);clear hb3 hrow hc9)
    | (at_builtin;go_loud (refine wpList_append_any w3 rfl (.tmp 11) (.tmp 17) 104 rfl w.heap.size TEg i0 _ 4 32 Tryz.underlying104 hi0 hz0 hz1 hz2 rfl (by decide) (.slice A5 N c5) N _ rfl HROW.out w3.heap.size A9 nv c9 _ rfl HR9.out (enc_ones _) (by unfold maxLen;omega) (by omega) HWB.out ?_);intro v' w6 hown hgrow _;(obtain ⟨A7,c7,rfl,hob7⟩:=own_sl hown);have HOWN:=hide hown;have HGR:=hide hgrow;clear hown hgrow))
   go_roundw
   case rel=>
    refine ⟨k+1,N+nv,c7,A7,by go_num,rfl,by omega,hide ⟨?_,?_,?_⟩⟩
    ·exact (HI.out.1.trans (HB3.out.mono HI.out.1.size)).grown HGR.out HWB.out (fun q e=>(HROW.out.lt q e).1)
    ·rw [HTK.out,List.length_append,edges_len,← HI.out.2.1,HRI.out]
    ·rw [HTK.out,List.flatMap_append];exact HOWN.out
   case measure=>simp [intOf];omega
  ·have hltI:¬ (k:Int)<n:=by omega
   obtain rfl:k=n:=by omega
   have hq:=HI.out.2;rw [List.take_of_length_le (by rw [HVL.out];exact Nat.le_refl _)] at hq;have HQ:=hide hq;clear hq;go_wp2_with fail
   go_ret;exact ⟨_,rfl,by rw [← HQ.out.1];exact HQ.out.2,HI.out.1⟩
def placeV (l:List Eg) (e:Eg):Int:=if e∈l then (l.idxOf e:Int) else -1
abbrev ER (w:World) (B:Nat) (A:Option Addr) (n:Nat) (l:List Eg):Prop:=Sl 4 Eg.enc w B A n l
set_option maxRecDepth 100000 in
set_option maxHeartbeats 2000000 in
theorem rplace_any (l:List Eg) (e:Eg) (A:Option Addr) (n c:Nat) (w:World) (hr:ER w w.heap.size A n l) (hn:n≤1000000000) :
 Calls Tryz.prog 60 #[.slice A n c,.agg #[.int .i64 e.a.x,.int .i64 e.a.y,.int .i64 e.b.x,.int .i64 e.b.y]] w fun r w'=>r=.returned (.int .i64 (placeV l e))∧Below w.heap.size w w':=by
 have hlen:=hr.1;obtain ⟨w1,hw1⟩:∃ q,w.alloc (.cells #[.int .i64 e.a.x,.int .i64 e.a.y,.int .i64 e.b.x,.int .i64 e.b.y] TEg)=q:=⟨_,rfl⟩;have HB1:=hide (show Below w.heap.size w w1 from hw1 ▸ bal bR _);have HK1:=hide (show Blk w1 w.heap.size TEg #[.int .i64 e.a.x,.int .i64 e.a.y,.int .i64 e.b.x,.int .i64 e.b.y] from hw1 ▸ Blk.new _ _ _);have HR:=hide hr;have HLEN:=hide hlen;have HW1:=hide hw1;have hgt:Tryz.prog.eqGuardType Tryz.prog.depth TEg=false:=by kernel_rfl
 clear hr hlen hw1
 go_enter Tryz.func60,Tryz.ntmps60
 go_upto_region 1 with fail
 rw [HW1.out];go_wp2_with fail
 go_loopw [5] (fun v5 wr=>∃ (k:Nat),v5=.int .i64 (k:Int)∧k≤n∧Hid (Below w.heap.size w wr∧Below w1.heap.size w1 wr∧e ∉ l.take k)) (fun v _=>n - (intOf v).toNat)
 case atStart=>exact ⟨0,rfl,by omega,hide ⟨HB1.out,Below.refl _ _,by simp⟩⟩
 case round=>
  obtain ⟨k,rfl,hkn,HI⟩:=hrel;by_cases hlt:k<n
  ·have hltI:(k:Int)<n:=by omega
   have hkl:k<l.length:=by rw [HLEN.out];exact hlt
   obtain ⟨b,o,rfl,hb,hcs⟩:=Sl.at HR.out Eg.enc_len (by omega) (show 0<n by omega);have c0:=hcs k hkl 0 _ rfl;have c1:=hcs k hkl 1 _ rfl;have c2:=hcs k hkl 2 _ rfl;have c3:=hcs k hkl 3 _ rfl;have hTK:=List.take_succ_eq_append_getElem hkl;obtain ⟨f,hf⟩:∃ f,l[k]=f:=⟨_,rfl⟩;rw [hf] at c0 c1 c2 c3 hTK;have c0:=(HI.out.1.cell (p:=⟨b,o+k * 4+0,none⟩) hb).trans c0;have c1:=(HI.out.1.cell (p:=⟨b,o+k * 4+1,none⟩) hb).trans c1;have c2:=(HI.out.1.cell (p:=⟨b,o+k * 4+2,none⟩) hb).trans c2;have c3:=(HI.out.1.cell (p:=⟨b,o+k * 4+3,none⟩) hb).trans c3;simp only [Nat.add_zero] at c0;have hbr:b<wr.heap.size:=nLl hb HI.out.1.size;have hk:=HK1.out.below HI.out.2.1 HK1.out.lt;have kc:=hk.cell;have zc:=hk.lt;have heq:=fun w1=>eq_eg f e w1
   obtain ⟨t,ht⟩:∃ t,decide (f=e)=t:=⟨_,rfl⟩;rw [ht] at heq;have HT:=hide ht;have HF:=hide hf;have HTK:=hide hTK;clear ht hf hTK hcs hk;go_upto_region 4 with fail
   go_quiet (fail)
   have hbn:Below wr.heap.size wr (wr.drewN nq):=bdn wr nq;have HB0:=hide (HI.out.1.trans (hbn.mono HI.out.1.size));have HB2:=hide (HI.out.2.1.trans (hbn.mono HI.out.2.1.size));clear hbn;cases t
   ·have HN:=hide (show e ∉ l.take (k+1) from by
     rw [HTK.out,List.mem_append,List.mem_singleton];rintro (h|h)
     ·exact HI.out.2.2 h
     ·have:=HT.out;simp at this;exact this h.symm)
    go_wp2_with fail
    go_roundw
    case rel=>exact ⟨k+1,by go_num,by omega,hide ⟨HB0.out,HB2.out,HN.out⟩⟩
    case measure=>simp [intOf];omega
   ·have HN:=hide (show placeV l e=k from by
     have h:=HT.out;simp only [decide_eq_true_eq] at h;have hm:e∈l:=by rw [← h,← HF.out];exact List.getElem_mem hkl
     unfold placeV;rw [if_pos hm];have h2:l.idxOf e=k:=by
      have h3:l=l.take k++l.drop k:=(List.take_append_drop k l).symm;rw [h3,List.idxOf_append,if_neg HI.out.2.2,List.drop_eq_getElem_cons hkl,HF.out,h];rw [List.idxOf_cons_self,List.length_take];omega
     rw [h2])
    go_wp2_with fail
    go_ret;exact ⟨by rw [HN.out];rfl,HB0.out⟩
  ·have hltI:¬ (k:Int)<n:=by omega
   obtain rfl:k=n:=by omega
   have HN:=hide (show placeV l e = -1 from by
    unfold placeV;have:=HI.out.2.2;rw [List.take_of_length_le (by rw [HLEN.out];exact Nat.le_refl _)] at this;rw [if_neg this])
   go_wp2_with fail
   go_ret;exact ⟨by rw [HN.out];rfl,HI.out.1⟩
set_option maxRecDepth 100000 in
set_option maxHeartbeats 4000000 in
theorem rfine_any (P:PlV) (w:World) (hP:PlOk w w.heap.size P) :
 Calls Tryz.prog 55 #[P.val] w fun e w'=>e=.returned (.bool (listedB P.outer (P.vs.map Pv.pc)))∧Below w.heap.size w w':=by
 obtain ⟨Ao,no,co,outer,A,n,c,vs⟩:=P;have holen:outer.length=no:=hP.out.1;have hvlen:vs.length=n:=hP.ps.sl.1;have hosm:no≤8796093022208:=hP.osm;have hsm:n≤8796093022208:=hP.sm;have HP:=hide hP;have HOL:=hide holen;have HVL:=hide hvlen;show Calls Tryz.prog 55 #[.agg #[.slice Ao no co,.slice A n c]] w _;obtain ⟨w1,hw1⟩:∃ q,w.alloc (.cells #[.slice Ao no co,.slice A n c] 26)=q:=⟨_,rfl⟩;have HB1:=hide (show Below w.heap.size w w1 from hw1 ▸ bal bR _);have hk1:Blk w1 w.heap.size 26 #[.slice Ao no co,.slice A n c]:=hw1 ▸ Blk.new _ _ _;have HK1:=hide hk1;have kc:=hk1.cell;have fc:=hk1.frozen;have zc:=hk1.lt;have HW1:=hide hw1;clear hP holen hvlen hw1 hk1;simp only
 go_enter Tryz.func55,Tryz.ntmps55
 go_upto_region 1 with fail
 rw [HW1.out];go_wp2_with fail
 clear kc fc zc
 go_loopw [3,4,5] (fun v3 v4 v13 wr=>∃ (k:Nat) (nn last:Int),v13=.int .i64 (k:Int)∧v3=.int .i64 nn∧v4=.int .i64 last∧k≤n∧0≤nn∧nn≤8796093022208 ∧
  Hid (Below w.heap.size w wr∧Blk wr w.heap.size 26 #[.slice Ao no co,.slice A n c]∧listGo outer.length 0 (vs.map Pv.pc)=listGo nn last ((vs.map Pv.pc).drop k))) (fun _ _ v _=>n - (intOf v).toNat)
 case atStart=>exact ⟨0,no,0,rfl,rfl,rfl,by omega,by omega,by omega,hide ⟨HB1.out,HK1.out,by rw [HOL.out];rfl⟩⟩
 case round=>
  obtain ⟨k,nn,last,rfl,rfl,rfl,hkn,hn0,hn1,HI⟩:=hrel;have kp:=HI.out.2.1.cell;have zp:=HI.out.2.1.lt;by_cases hlt:k<n
  ·have hltI:(k:Int)<n:=by omega
   have hkv:k<vs.length:=by rw [HVL.out];exact hlt
   obtain ⟨b,o,hA,hb,hcs⟩:=HP.out.ps.at (show 0<n by omega);simp only at hA;subst hA;obtain ⟨c0,c1,c2⟩:=hcs k hkv;have hok:=HP.out.ps.ok _ (List.getElem_mem hkv);obtain ⟨v,hv⟩:∃ v,vs[k]=v:=⟨_,rfl⟩;rw [hv] at c0 c1 c2 hok;obtain ⟨⟨id,ring,owner⟩,Av,nv,cv⟩:=v;have c0:=(HI.out.1.cell (p:=⟨b,o+k * 3,none⟩) hb).trans c0;have c1:=(HI.out.1.cell (p:=⟨b,o+k * 3+1,none⟩) hb).trans c1;have c2:=(HI.out.1.cell (p:=⟨b,o+k * 3+2,none⟩) hb).trans c2;have hbr:b<wr.heap.size:=nLl hb HI.out.1.size;have hk2:k<(vs.map Pv.pc).length:=by simpa using hkv
   have hpk:(vs.map Pv.pc)[k]=⟨id,ring,owner⟩:=by simp [hv]
   have hrl:ring.length=nv:=hok.pr.1;have hnv:nv≤8796093022208:=hok.small;have hos:owner.size≤140737488355328:=hok.own;simp only at c0 c1 c2;obtain ⟨b1,hb1⟩:∃ q,idB id=q:=⟨_,rfl⟩;obtain ⟨b2,hb2⟩:∃ q,decide (id≤last) = !q:=⟨!decide (id≤last),by simp⟩;obtain ⟨b3,hb3⟩:∃ q,ownerB owner=q:=⟨_,rfl⟩;obtain ⟨b4,hb4⟩:∃ q,decide (1024<nn+(nv:Int)) = !q:=⟨!decide (1024<nn+(nv:Int)),by simp⟩;have hstep:=list_step (n:=nn) (last:=last) hk2 hpk hb1 hb2 hb3 (by rw [hrl];exact hb4);have HID:=hide (fun w0=>by have:=rid_any id w0;rw [hb1] at this;exact this);have HOW:=hide (fun w0=>by have:=rowner_any owner w0 (by omega);rw [hb3] at this;exact this);have HKN:=hide (Blk.new wr 43 #[.int .i64 id,.slice Av nv cv,.string owner]);have HBN:=hide (show Below wr.heap.size wr (wr.alloc (.cells #[.int .i64 id,.slice Av nv cv,.string owner] 43)) from bal bR _);simp only [hrl] at hstep;have hwr:IntKind.i64.wrap (nn+(nv:Int))=nn+(nv:Int):=by rw [IntKind.wrap_i64];omega
   clear hv hok hcs hpk hb1 hb3 hrl hos;cases b1
   ·have HNO:=hide (listed_no (HI.out.2.2.trans (hstep.trans rfl)));clear hstep;go_wp2_with (first
     | (go_at_call 100;(refine (HID.out _).mono ?_);rintro e w4 ⟨rfl,e2⟩;rw [e2];clear e2)
     | (go_at_call 101;(refine (HOW.out _).mono ?_);rintro e w5 ⟨rfl,e2⟩;rw [e2];clear e2))
    go_ret;exact ⟨by rw [HNO.out];rfl,HI.out.1.trans (HBN.out.mono HI.out.1.size)⟩
   ·cases b2
    ·simp only [Bool.not_false] at hb2;have HNO:=hide (listed_no (HI.out.2.2.trans (hstep.trans rfl)));clear hstep;go_wp2_with (first
      | (go_at_call 100;(refine (HID.out _).mono ?_);rintro e w4 ⟨rfl,e2⟩;rw [e2];clear e2)
      | (go_at_call 101;(refine (HOW.out _).mono ?_);rintro e w5 ⟨rfl,e2⟩;rw [e2];clear e2))
     go_ret;exact ⟨by rw [HNO.out];rfl,HI.out.1.trans (HBN.out.mono HI.out.1.size)⟩
    ·simp only [Bool.not_true] at hb2;cases b3
     ·have HNO:=hide (listed_no (HI.out.2.2.trans (hstep.trans rfl)));clear hstep;go_wp2_with (first
       | (go_at_call 100;(refine (HID.out _).mono ?_);rintro e w4 ⟨rfl,e2⟩;rw [e2];clear e2)
       | (go_at_call 101;(refine (HOW.out _).mono ?_);rintro e w5 ⟨rfl,e2⟩;rw [e2];clear e2))
      go_ret;exact ⟨by rw [HNO.out];rfl,HI.out.1.trans ((HBN.out).mono HI.out.1.size)⟩
     ·cases b4
      ·simp only [Bool.not_false] at hb4;have HNO:=hide (listed_no (HI.out.2.2.trans (hstep.trans rfl)));clear hstep;go_wp2_with (first
        | (go_at_call 100;(refine (HID.out _).mono ?_);rintro e w4 ⟨rfl,e2⟩;rw [e2];clear e2)
        | (go_at_call 101;(refine (HOW.out _).mono ?_);rintro e w5 ⟨rfl,e2⟩;rw [e2];clear e2))
       go_ret;exact ⟨by rw [HNO.out];rfl,HI.out.1.trans ((HBN.out).mono HI.out.1.size)⟩
      ·simp only [Bool.not_true] at hb4;have HGO:=hide (HI.out.2.2.trans (hstep.trans rfl));have hb4':nn+(nv:Int)≤1024:=by simp at hb4;omega
       clear hstep;go_wp2_with (first
        | (go_at_call 100;(refine (HID.out _).mono ?_);rintro e w4 ⟨rfl,e2⟩;rw [e2];clear e2)
        | (go_at_call 101;(refine (HOW.out _).mono ?_);rintro e w5 ⟨rfl,e2⟩;rw [e2];clear e2))
       go_roundw
       case rel=>exact ⟨k+1,nn+nv,id,by go_num,rfl,rfl,by omega,by omega,by omega,hide ⟨HI.out.1.trans ((HBN.out).mono HI.out.1.size),HI.out.2.1.below (HBN.out) HI.out.2.1.lt,HGO.out⟩⟩
       case measure=>simp [intOf];omega
  ·have hltI:¬ (k:Int)<n:=by omega
   have hgo:=HI.out.2.2;rw [List.drop_eq_nil_of_le (by rw [List.length_map,HVL.out];omega)] at hgo;have hls:=listed_some hgo;rw [List.length_map,HVL.out] at hls;obtain ⟨d1,h1⟩:∃ q,decide (1≤(n:Int))=q:=⟨_,rfl⟩;obtain ⟨d2,h2⟩:∃ q,decide ((n:Int)≤64)=q:=⟨_,rfl⟩;obtain ⟨d3,h3⟩:∃ q,decide (nn≤1024)=q:=⟨_,rfl⟩;rw [show decide (1≤n)=d1 from by rw [← h1];simp;omega,show decide (n≤64)=d2 from by rw [← h2];simp;omega,h3] at hls;have HLS:=hide hls;have kc:=HI.out.2.1.cell;have fc:=HI.out.2.1.frozen;have zc:=HI.out.2.1.lt;have HBB:=hide HI.out.1;clear hls hgo HI;cases d1
   ·go_wp2_with fail
    go_ret;exact ⟨by rw [HLS.out];rfl,HBB.out⟩
   ·cases d2
    ·go_wp2_with fail
     go_ret;exact ⟨by rw [HLS.out];rfl,HBB.out⟩
    ·go_wp2_with fail
     go_ret;exact ⟨by rw [HLS.out];rfl,HBB.out⟩
def dropK:Nat→Code→Code
 | 0,c=>c
 | n+1,.seq _ b=>dropK n b
 | _,c=>c
noncomputable def BK (k:Nat):Code:=dropK k ((Tryz.f18.body).getD .skip)
noncomputable def CK (k:Nat):Code:=match BK k with
 | .seq a _=>a
 | c=>c
theorem place_pos (l:List Eg) (e:Eg):decide (0≤placeV l e)=decide (e∈l):=by
 unfold placeV;by_cases h:e∈l
 ·rw [if_pos h,decide_eq_true h];simp
 ·rw [if_neg h,decide_eq_false h];simp
set_option maxRecDepth 100000 in
set_option maxHeartbeats 4000000 in
theorem check_end (l bd:List Eg) (Al Ab:Option Addr) (N cl m cb:Nat) (w w1:World) (hl:ER w1 w1.heap.size Al N l) (hb:ER w1 w1.heap.size Ab m bd) (hN:N≤1000000) (hm:m≤1000000) (hbw:Below w.heap.size w w1)
 (u0 u1 u2 u3 u4 u5 u6 u7 u8 u11 u12 u13 u14 u15 u16 u17 u18 u19 u20 u21 u22 u23 u24 u25 u26 u27 u28 u29 u30 u31 u32 u33 u34 u35 u36 u37 u38 u39 u40 u41 u42 u43 u44 u45 u46 u47 u48 u49 u50 u51 u52 u53 u54 u55 u56 u57 u58 u59 u60 u61 u62 u63 u64 u65 u66 u67 u68 u69 u70 u71 u72 u73 u74 u75 u76 u77 u78 u79 u80 u81 u82 u83 u84 u85 u86 u87 u88 u89 u90 u91 u92 u93 u94 u95 u96 u97 u98 u99 u100 u101 u102 u103 u104 u105 u106 u107 u108 u109 u110 u111 u112 u113 u114 u115 u116 u117 u118 u119 u120 u121 u122 u123 u124 u125 u126 u127 u128 u129 u130 u131 u132 u133 u134 u135 u136 u137 u138 u139 u140 u141 u142 u143 u144 u145 u146 u147 u148 u149 u150 u151 u152 u153 u154 u155 u156 u157 u158 u159 u160 u161 u162 u163 u164 u165 u166 u167 u168 u169 u170 u171 u172 u173 u174 u175 u176 u177 u178 u179 u180 u181 u182 u183 u184 u185 u186 u187 u188 u189 u190 u191:Value):Code.wp Tryz.prog (BK 9) (bodyPost Tryz.prog Tryz.f18 fun e w'=>e=.returned (.bool (bd.all fun e=>decide (e∈l)))∧Below w.heap.size w w') { tmps:=#[u0,u1,u2,u3,u4,u5,u6,u7,u8,.slice Al N cl,.slice Ab m cb,u11,u12,u13,u14,u15,u16,u17,u18,u19,u20,u21,u22,u23,u24,u25,u26,u27,u28,u29,u30,u31,u32,u33,u34,u35,u36,u37,u38,u39,u40,u41,u42,u43,u44,u45,u46,u47,u48,u49,u50,u51,u52,u53,u54,u55,u56,u57,u58,u59,u60,u61,u62,u63,u64,u65,u66,u67,u68,u69,u70,u71,u72,u73,u74,u75,u76,u77,u78,u79,u80,u81,u82,u83,u84,u85,u86,u87,u88,u89,u90,u91,u92,u93,u94,u95,u96,u97,u98,u99,u100,u101,u102,u103,u104,u105,u106,u107,u108,u109,u110,u111,u112,u113,u114,u115,u116,u117,u118,u119,u120,u121,u122,u123,u124,u125,u126,u127,u128,u129,u130,u131,u132,u133,u134,u135,u136,u137,u138,u139,u140,u141,u142,u143,u144,u145,u146,u147,u148,u149,u150,u151,u152,u153,u154,u155,u156,u157,u158,u159,u160,u161,u162,u163,u164,u165,u166,u167,u168,u169,u170,u171,u172,u173,u174,u175,u176,u177,u178,u179,u180,u181,u182,u183,u184,u185,u186,u187,u188,u189,u190,u191],defers:=[] } w1:=by
 have HL:=hide hl;have HB:=hide hb;have HBL:=hide hb.1;have HBW:=hide hbw;clear hl hb hbw;rw [show BK 9=Code.seq (CK 9) (BK 10) from rfl]
 conv=>arg 2;arg 1;whnf
 conv=>arg 2;arg 2;whnf
 go_wp2_with fail
 go_loopw [18] (fun v18 wr=>∃ (k:Nat),v18=.int .i64 (k:Int)∧k≤m∧Hid (Below w1.heap.size w1 wr ∧ ∀ e∈bd.take k,e∈l)) (fun v _=>m - (intOf v).toNat)
 case atStart=>exact ⟨0,rfl,by omega,hide ⟨Below.refl _ _,by simp⟩⟩
 case round=>
  obtain ⟨k,rfl,hkn,HI⟩:=hrel;by_cases hlt:k<m
  ·have hltI:(k:Int)<m:=by omega
   have hkl:k<bd.length:=by rw [HBL.out];exact hlt
   obtain ⟨b,o,rfl,hb,hcs⟩:=Sl.at HB.out Eg.enc_len (by omega) (show 0<m by omega);have c0:=hcs k hkl 0 _ rfl;have c1:=hcs k hkl 1 _ rfl;have c2:=hcs k hkl 2 _ rfl;have c3:=hcs k hkl 3 _ rfl;have hTK:=List.take_succ_eq_append_getElem hkl;have hmem:=List.getElem_mem hkl;obtain ⟨f,hf⟩:∃ f,bd[k]=f:=⟨_,rfl⟩;rw [hf] at c0 c1 c2 c3 hTK hmem;have c0:=(HI.out.1.cell (p:=⟨b,o+k * 4+0,none⟩) hb).trans c0;have c1:=(HI.out.1.cell (p:=⟨b,o+k * 4+1,none⟩) hb).trans c1;have c2:=(HI.out.1.cell (p:=⟨b,o+k * 4+2,none⟩) hb).trans c2;have c3:=(HI.out.1.cell (p:=⟨b,o+k * 4+3,none⟩) hb).trans c3;simp only [Nat.add_zero] at c0;have hbr:b<wr.heap.size:=nLl hb HI.out.1.size;have hpl:=rplace_any l f Al N cl wr ((HL.out.below HI.out.1).more HI.out.1.size) (by omega);have hpp:=place_pos l f;obtain ⟨pv,hpv⟩:∃ p,placeV l f=p:=⟨_,rfl⟩;rw [hpv] at hpl hpp;have HPL:=hide hpl;have HTK:=hide hTK;have HMM:=hide hmem;clear hcs hf hTK hmem hpv hpl;by_cases hin:f∈l
   ·have h0:¬ pv<0:=by rw [decide_eq_true hin] at hpp;simpa using hpp
    have HIN:=hide hin;clear hin hpp;go_wp2_with (go_at_call 60;(refine HPL.out.mono ?_);rintro e w3 ⟨rfl,hb3⟩;have HB3:=hide (HI.out.1.trans (hb3.mono HI.out.1.size));clear hb3)
    go_roundw
    case rel=>exact ⟨k+1,by go_num,by omega,hide ⟨HB3.out,fun e he=>by
     rw [HTK.out,List.mem_append,List.mem_singleton] at he;rcases he with he|rfl
     ·exact HI.out.2 e he
     ·exact HIN.out⟩⟩
    case measure=>simp [intOf];omega
   ·have h0:pv<0:=by rw [decide_eq_false hin] at hpp;simpa using hpp
    have HF:=hide (show (bd.all fun e=>decide (e∈l))=false from by
     rw [List.all_eq_false];exact ⟨f,HMM.out,by simpa using hin⟩)
    clear hin hpp;go_wp2_with (go_at_call 60;(refine HPL.out.mono ?_);rintro e w3 ⟨rfl,hb3⟩;have HB3:=hide (HI.out.1.trans (hb3.mono HI.out.1.size));clear hb3)
    go_ret;exact ⟨by rw [HF.out];rfl,HBW.out.trans (HB3.out.mono HBW.out.size)⟩
  ·have hltI:¬ (k:Int)<m:=by omega
   obtain rfl:k=m:=by omega
   have HF:=hide (show (bd.all fun e=>decide (e∈l))=true from by
    rw [List.all_eq_true];intro e he;have:=HI.out.2 e (by rw [List.take_of_length_le (by rw [HBL.out];exact Nat.le_refl _)];exact he);simpa using this)
   go_wp2_with fail
   go_ret;exact ⟨by rw [HF.out];rfl,HBW.out.trans (HI.out.1.mono HBW.out.size)⟩
theorem place_self {l:List Eg} (hd:l.Nodup) {i:Nat} (h:i<l.length):placeV l l[i]=i:=by
 have hm:=List.getElem_mem h;unfold placeV;rw [if_pos hm];have h1:l.idxOf l[i]<l.length:=List.idxOf_lt_length_iff.2 hm;have h2:l[l.idxOf l[i]]=l[i]:=List.getElem_idxOf h1;have:=(List.getElem_inj hd).1 h2;rw [this]
theorem place_nodup {l:List Eg} (h:∀ i (hi:i<l.length),placeV l l[i]=i):l.Nodup:=by
 unfold List.Nodup;rw [List.pairwise_iff_getElem];intro a b ha hb hab e;have h1:=h a ha;have h2:=h b hb;rw [e,h2] at h1;omega
def PairI (outer:List Pt) (l:List Eg) (i:Nat):Prop:=(∀ a (h:a<l.length),a<i→placeV l l[a]=a∧decide (l[a].back∈l)≠decide (l[a]∈edgesL outer)) ∧ ∀ a b (ha:a<l.length) (hb:b<l.length),a<b→a<i→okE l[a] l[b]
def PairJ (l:List Eg) (i j:Nat):Prop:=∀ b (hi:i<l.length) (hb:b<l.length),i<b→b<j→okE l[i] l[b]
theorem pairI_next {outer:List Pt} {l:List Eg} {i:Nat} (h:PairI outer l i) (hi:i<l.length) (h1:placeV l l[i]=i) (h2:decide (l[i].back∈l)≠decide (l[i]∈edgesL outer)) (hj:PairJ l i l.length):PairI outer l (i+1):=by
 refine ⟨fun a ha hlt=>?_,fun a b ha hb hab hlt=>?_⟩
 ·rcases Nat.lt_succ_iff_lt_or_eq.1 hlt with q|rfl
  ·exact h.1 a ha q
  ·exact ⟨h1,h2⟩
 ·rcases Nat.lt_succ_iff_lt_or_eq.1 hlt with q|rfl
  ·exact h.2 a b ha hb hab q
  ·exact hj b ha hb hab hb
theorem pairJ_next {l:List Eg} {i j:Nat} (h:PairJ l i j) (hi:i<l.length) (hj:j<l.length) (hok:okE l[i] l[j]):PairJ l i (j+1):=by
 intro b h1 h2 h3 h4;rcases Nat.lt_succ_iff_lt_or_eq.1 h4 with q|rfl
 ·exact h b h1 h2 h3 q
 ·exact hok
theorem pair_end {outer:List Pt} {l:List Eg} (h:PairI outer l l.length):(edgesL outer).all (fun e=>decide (e∈l))=(matchedB outer l&&cleanB l):=by
 have hd:l.Nodup:=place_nodup fun i hi=>(h.1 i hi hi).1
 have hc:cleanB l=true:=clean_iff.2 fun e he f hf hne=>by
  obtain ⟨a,ha,rfl⟩:=List.mem_iff_getElem.1 he;obtain ⟨b,hb,rfl⟩:=List.mem_iff_getElem.1 hf;rcases Nat.lt_trichotomy a b with q|q|q
  ·exact h.2 a b ha hb q ha
  ·subst q;exact absurd rfl hne
  ·exact okE_swap.1 (h.2 b a hb ha q hb)
 rw [hc,Bool.and_true];cases hb:(edgesL outer).all (fun e=>decide (e∈l))
 ·rw [List.all_eq_false] at hb;obtain ⟨e,h1,h2⟩:=hb;rw [matched_no2 ⟨e,h1,by simpa using h2⟩]
 ·rw [List.all_eq_true] at hb;refine (matched_iff.2 ⟨hd,fun e he=>by simpa using hb e he,fun e he=>?_⟩).symm;obtain ⟨a,ha,rfl⟩:=List.mem_iff_getElem.1 he;exact (h.1 a ha ha).2
theorem pair_no1 {outer:List Pt} {l:List Eg} {i:Nat} (hi:i<l.length) (h:placeV l l[i]≠i):(matchedB outer l&&cleanB l)=false:=by
 rw [matched_no1 fun hd=>h (place_self hd hi)];rfl
theorem pair_no2 {outer:List Pt} {l:List Eg} {e:Eg} (he:e∈l) (h:decide (e.back∈l)=decide (e∈edgesL outer)):(matchedB outer l&&cleanB l)=false:=by
 rw [matched_no3 he h rfl];rfl
theorem pair_no3 {outer:List Pt} {l:List Eg} {i j:Nat} (hi:i<l.length) (hj:j<l.length) (hij:i<j) (h:¬ okE l[i] l[j]):(matchedB outer l&&cleanB l)=false:=by
 by_cases he:l[i]=l[j]
 ·rw [matched_no1 fun hd=>by have:=(List.getElem_inj hd).1 he;omega];rfl
 ·cases hc:cleanB l
  ·rw [Bool.and_false]
  ·exact absurd (clean_iff.1 hc _ (List.getElem_mem hi) _ (List.getElem_mem hj) he) h
theorem ok_of {e f:Eg} {k:Int} (hk:meetE e f=k):okE e f ↔ k=0∨(k=1∧endsE e f)∨(k=3∧e=f.back):=by unfold okE;rw [hk]
end Go.Proofs.YtacinobmcgcccaaGreatDoor
