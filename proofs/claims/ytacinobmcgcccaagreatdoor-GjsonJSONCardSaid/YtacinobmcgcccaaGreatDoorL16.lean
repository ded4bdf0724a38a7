/- plan.whole. -/
import Derived.Test.YtacinobmcgcccaaGreatDoorL15
import Derived.Test.YtacinobmcgcccaaGreatDoorL11
import Derived.Test.YtacinobmcgcccaaGreatDoorL14
set_option linter.unusedSimpArgs false
set_option linter.unusedVariables false
namespace Go.Proofs.YtacinobmcgcccaaGreatDoor
open Go.RowKit Go.Shelf
theorem tot_sum2 {α:Type} (c:α→Int) (L:Int) (hL:0≤L):∀ (l:List α) (s b:Int),(∀ x∈l,-L≤c x∧c x≤L) → -b≤s→s≤b→b+(l.length:Int) * L≤170141183460469231731687303715884105727→tot s (l.map fun x=>two (c x))=some (s+(l.map c).sum)
 | [],s,b,_,_,_,_=>by simp [tot]
 | x :: l,s,b,h,h1,h2,h3=>by
   have hx:=h x (by simp);rw [List.length_cons] at h3
   push_cast at h3
   rw [Int.add_mul] at h3;have h0:0≤(l.length:Int) * L:=Int.mul_nonneg (by omega) hL;obtain ⟨q,hq⟩:∃ q:Int,(l.length:Int) * L=q:=⟨_,rfl⟩;rw [hq] at h3 h0;have hs:-(b+L)≤s+c x∧s+c x≤b+L:=by omega
   rw [List.map_cons,tot,two_num];rw [if_pos (by unfold inr;omega),tot_sum2 c L hL l (s+c x) (b+L) (fun y hy=>h y (by simp [hy])) hs.1 hs.2 (by rw [hq];omega)];simp;omega
theorem eq_i2 (a b c d:Int) (w:World):(Op.equalIn 10000 80 (.agg #[.int .i64 a,.int .u64 b]) (.agg #[.int .i64 c,.int .u64 d])).run Tryz.prog w=.ok (a == c&&b == d) w:=by
 have hS:Tryz.prog.underlying 80=some (.struct (Tryz.prog.fieldsOf 80)):=by kernel_rfl
 rw [show (10000:Nat)=9999+1 from rfl,run_equalIn_agg w 9999 80 _ _ hS (by kernel_rfl)];simp only [Program.fieldsOf,Tryz.underlying80];go_simp;by_cases h1:a=c <;> by_cases h2:b=d <;> simp [h1,h2]
theorem two_eq {s t:Int} (hs:inr s) (ht:inr t):((two s).hi == (two t).hi&&(two s).lo == (two t).lo)=decide (s=t):=by
 by_cases h:s=t
 ·simp [h]
 ·have:¬ ((two s).hi=(two t).hi∧(two s).lo=(two t).lo):=fun ⟨h1,h2⟩=>by
   have e:two s=two t:=by
    cases hx:two s;cases hy:two t;rw [hx,hy] at h1 h2;simp at h1 h2;rw [h1,h2]
   have:=congrArg I2.num e;rw [two_num,two_num] at this;exact h this
  simp [h];simpa using this
def areasV (vs:List Pv):Int:=(vs.map fun v=>areaV v.pc.ring).sum
def wholeB (outer:List Pt) (vs:List Pv):Bool:=decide (areasV vs=areaV outer)
theorem areas_bound {vs:List Pv} (h:∀ v∈vs,areaE v.pc.ring=0) (hn:vs.length≤64):inr (areasV vs)∧tot 0 (vs.map fun v=>two (areaV v.pc.ring))=some (areasV vs):=by
 have h1:=sum_bound (fun v:Pv=>areaV v.pc.ring) 590295810358705651712 (by decide) vs (fun v hv=>area_bound (h v hv));have h2:=tot_sum2 (fun v:Pv=>areaV v.pc.ring) 590295810358705651712 (by decide) vs 0 0 (fun v hv=>area_bound (h v hv)) (by omega) (by omega) (by omega);refine ⟨?_,by rw [h2];simp [areasV]⟩;unfold inr areasV;omega
set_option maxRecDepth 100000 in
set_option maxHeartbeats 4000000 in
theorem pwhole_any (P:PlV) (w:World) (hP:PlOk w w.heap.size P) (hg:∀ v∈P.vs,areaE v.pc.ring=0) (hn:P.n≤64) (hgo:areaE P.outer=0) :
 Calls Tryz.prog 71 #[P.val] w fun r w'=>r=.returned (.bool (wholeB P.outer P.vs))∧Below w.heap.size w w':=by
 obtain ⟨Ao,no,co,outer,A,n,c,vs⟩:=P;show Calls Tryz.prog 71 #[.agg #[.slice Ao no co,.slice A n c]] w _;simp only at hg hn hgo ⊢;have HP:=hide hP.ps;have HVL:=hide hP.ps.sl.1;have HGD:=hide hg;have HAR:=hide (areas_bound hg (by rw [hP.ps.sl.1];exact hn));have HOA:=hide (fun w0 (h:PR w0 w0.heap.size Ao no outer)=>area_any outer Ao no co w0 h hP.osm);rw [hgo] at HOA;have hoi:=(areaI_ok (r:=outer)).2 hgo;have HIO:=hide (show areaI outer=two (areaV outer) from by unfold areaI;rw [if_pos hgo]);rw [HIO.out] at HOA;have HOB:=hide (area_bound hgo);have HPO:=hide hP.out;obtain ⟨i0,hi0,hz0,hz1,hz2⟩:=info_parts int_info2;obtain ⟨w2,hw2⟩:∃ w2,w.alloc (Obj.cells #[.slice Ao no co,.slice A n c] 26)=w2:=⟨_,rfl⟩;have HB2:=hide (show Below w.heap.size w w2 from hw2 ▸ bal bR _);have hk0:Blk w2 w.heap.size 26 #[.slice Ao no co,.slice A n c]:=hw2 ▸ Blk.new _ _ _;have HK0:=hide hk0;have hs2:w2.heap.size=w.heap.size+1:=by rw [← hw2];simp
 have HW2:=hide hw2;have HS2:=hide hs2;have c0:=hk0.cell;have f0:=hk0.frozen;have z0:=hk0.lt;clear hP hg hgo hw2 hk0 hs2 hoi
 go_enter Tryz.func71,Tryz.ntmps71
 go_upto_region 1 with fail
 rw [HW2.out];go_wp2_with fail
 clear c0 f0 z0
 go_loopw [3,15] (fun v3 v15 wr=>∃ (k:Nat) (A5:Option Addr) (c5:Nat),v15=.int .i64 (k:Int)∧k≤n∧v3=.slice A5 k c5∧Hid (Below w.heap.size w wr∧Blk wr w.heap.size 26 #[.slice Ao no co,.slice A n c]∧wr.ownsRow (w.heap.size+1) 80 2 (.slice A5 k c5) k (((vs.take k).map fun v=>two (areaV v.pc.ring)).flatMap I2.enc)∧w.heap.size+1≤wr.heap.size)) (fun _ v15 _=>n - (intOf v15).toNat)
 case atStart=>exact ⟨0,none,0,rfl,by omega,rfl,hide ⟨HB2.out,HK0.out,World.ownsRow_nil _ _ _ _,by rw [HS2.out];exact Nat.le_refl _⟩⟩
 case round=>
  clear HB2 HK0 HW2 HS2;obtain ⟨k,A5,c5,rfl,hkn,rfl,HI⟩:=hrel;by_cases hlt:k<n
  ·have hltI:(k:Int)<n:=by omega
   have hkv:k<vs.length:=by rw [HVL.out];exact hlt
   obtain ⟨b,o,hA,hb,hcs⟩:=HP.out.at (show 0<n by omega);subst hA;obtain ⟨c0,c1,c2⟩:=hcs k hkv;have hok:=HP.out.ok _ (List.getElem_mem hkv);have hgd:=HGD.out _ (List.getElem_mem hkv);obtain ⟨v,hv⟩:∃ v,vs[k]=v:=⟨_,rfl⟩;rw [hv] at c0 c1 c2 hok hgd;have HV:=hide hv;obtain ⟨⟨id,ring,owner⟩,Av,nv,cv⟩:=v;have c0:=(HI.out.1.cell (p:=⟨b,o+k * 3,none⟩) hb).trans c0;have c1:=(HI.out.1.cell (p:=⟨b,o+k * 3+1,none⟩) hb).trans c1;have c2:=(HI.out.1.cell (p:=⟨b,o+k * 3+2,none⟩) hb).trans c2;have hbr:b<wr.heap.size:=nLl hb HI.out.1.size;simp only at c0 c1 c2 hgd;have HA:=hide (fun w0 (h:PR w0 w0.heap.size Av nv ring)=>area_any ring Av nv cv w0 h hok.small);have hai:areaI ring=two (areaV ring):=by unfold areaI;rw [if_pos hgd]
   rw [hgd,hai] at HA;obtain ⟨I,hI⟩:∃ I,two (areaV ring)=I:=⟨_,rfl⟩;rw [hI] at HA;have HIT:=hide (show ((vs.take k).map fun v=>two (areaV v.pc.ring)).flatMap I2.enc++[.int .i64 I.hi,.int .u64 I.lo]=((vs.take (k+1)).map fun v=>two (areaV v.pc.ring)).flatMap I2.enc from by
    rw [List.take_succ_eq_append_getElem hkv,List.map_append,List.flatMap_append,List.map_singleton,HV.out,List.flatMap_singleton,← hI];rfl)
   have HPR:=hide hok.pr;obtain ⟨wp,hwp⟩:∃ q,wr.alloc (.cells #[.int .i64 id,.slice Av nv cv,.string owner] 43)=q:=⟨_,rfl⟩;have HBP:=hide (show Below wr.heap.size wr wp from hwp ▸ bal bR _);have HWP:=hide hwp;clear hv hcs hok hgd hai hI hwp;go_wp2_with (first
    | (go_at_call 89;rw [HWP.out];(refine (HA.out wp (((HPR.out.below HI.out.1).below (HBP.out.mono HI.out.1.size)).more (Nat.le_trans HI.out.1.size HBP.out.size))).mono ?_);rintro e w3 ⟨rfl,hb3⟩;have hX:Below wr.heap.size wr ((w3.alloc (.cells #[.int .i64 I.hi,.int .u64 I.lo] 80)).alloc (.cells #[.int .i64 I.hi,.int .u64 I.lo] 80)):=bal (bal (btr HBP.out hb3) _) _;have HX:=hide hX;have HF5:=hide (two_new w3 80 80 #[.int .i64 I.hi,.int .u64 I.lo] (.int .i64 I.hi) (.int .u64 I.lo));have HROW:=hide (own_later HI.out.2.2.1 hX);clear hb3 hX)
    | (at_builtin;refine wpList_append_own_at _ rfl (.tmp 25) (.tmp 27) _ rfl (w.heap.size+1) 80 i0 _ 2 16 Tryz.underlying156 hi0 hz0 hz1 hz2 rfl (by decide) (.slice A5 k c5) k _ rfl HROW.out ⟨w3.heap.size+1,0,none⟩ 1 1 [.int .i64 I.hi,.int .u64 I.lo] rfl rfl HF5.out (by intro u hu;simp at hu;rcases hu with rfl|rfl <;> rfl) (by unfold maxLen;omega) (by omega) (by have:=HI.out.2.2.2;have:=HX.out.size;simp at this ⊢;omega) ?_;intro v' w6 hown hgrow _ _;(obtain ⟨A7,c7,rfl,hob7⟩:=own_sl hown);have HOWN:=hide hown;have HGR:=hide hgrow;clear hown hgrow))
   go_roundw
   case rel=>
    obtain ⟨q1,q2,q3,q4⟩:=HI.out;have hb6:Below w.heap.size wr w6:=(HX.out.mono q1.size).grown HGR.out (Nat.le_trans q1.size HX.out.size) (fun r e=>by have:=(HROW.out.lt r e).1;omega);refine ⟨k+1,A7,c7,by go_num,by omega,rfl,hide ⟨q1.trans hb6,?_,by rw [← HIT.out];exact HOWN.out,?_⟩⟩
    ·exact (q2.below HX.out q2.lt).grown HGR.out (fun e=>own_blk_ne HROW.out (q2.below HX.out q2.lt) (by decide) e.symm)
    ·have:=HX.out.size;have:=HGR.out.size;omega
   case measure=>simp [intOf];omega
  ·have hltI:¬ (k:Int)<n:=by omega
   obtain rfl:k=n:=by omega
   obtain ⟨q1,q2,q3,q4⟩:=HI.out;rw [List.take_of_length_le (by rw [HVL.out];exact Nat.le_refl _)] at q3;have htot:=total_any (vs.map fun v=>two (areaV v.pc.ring)) A5 k c5 wr (Sl.own (by rw [List.length_map];exact HVL.out) rfl rfl q3) (fun i hi=>by rw [List.getElem_map];have:=area_bound (HGD.out (vs[i]'(by simpa using hi)) (List.getElem_mem _));exact two_ok (by unfold inr;omega)) (by omega);rw [HAR.out.2] at htot;simp only [optI,optE] at htot;have HT:=hide htot;obtain ⟨q,hq⟩:∃ q,decide (areasV vs=areaV outer)=q:=⟨_,rfl⟩;have hi2:=fun w1=>eq_i2 (two (areasV vs)).hi (two (areasV vs)).lo (two (areaV outer)).hi (two (areaV outer)).lo w1
   rw [two_eq HAR.out.1 (by have:=HOB.out;unfold inr;omega),hq] at hi2;have HF:=hide (show wholeB outer vs=q from hq);have hgt:Tryz.prog.eqGuardType Tryz.prog.depth 80=false:=by kernel_rfl
   have HQ1:=hide q1;have HQ2:=hide q2;obtain ⟨S,hS⟩:∃ S,two (areasV vs)=S:=⟨_,rfl⟩;obtain ⟨T,hT⟩:∃ T,two (areaV outer)=T:=⟨_,rfl⟩;rw [hS] at HT hi2;rw [hT] at HOA hi2;clear q1 q2 q3 htot hq HI hS hT;go_wp2_with (first
    | (go_at_call 121;(refine HT.out.mono ?_);rintro e w3 ⟨rfl,hb3⟩;have hX:=bal hb3 (.cells #[.int .i64 S.hi,.int .u64 S.lo] 80);have HX:=hide hX;have hkS:Blk (w3.alloc (.cells #[.int .i64 S.hi,.int .u64 S.lo] 80)) w3.heap.size 80 #[.int .i64 S.hi,.int .u64 S.lo]:=Blk.new _ _ _;have HKS:=hide hkS;have hk:=HQ2.out.below hX HQ2.out.lt;have c0:=hk.cell;have f0:=hk.frozen;have z0:=hk.lt;clear hb3 hX hkS hk)
    | (go_at_call 89;(refine (HOA.out _ (((HPO.out.below HQ1.out).below (HX.out.mono HQ1.out.size)).more (Nat.le_trans HQ1.out.size HX.out.size))).mono ?_);rintro e w4 ⟨rfl,hb4⟩;have HB4:=hide hb4;have hkS:=HKS.out.below hb4 HKS.out.lt;clear c0 f0 z0;have c0:=hkS.cell;have f0:=hkS.frozen;have z0:=hkS.lt;clear hb4 hkS))
   go_ret;exact ⟨by rw [HF.out];rfl,bal (HQ1.out.trans ((btr HX.out HB4.out).mono HQ1.out.size)) _⟩
end Go.Proofs.YtacinobmcgcccaaGreatDoor
/- plan.matched. -/
namespace Go.Proofs.YtacinobmcgcccaaGreatDoor
open Go.RowKit Go.Shelf Go.Maps
attribute [local go_sem] Oper.semAt_some
def matchedB (outer:List Pt) (all:List Eg):Bool:=decide all.Nodup&&((edgesL outer).all (fun e=>decide (e∈all))&&all.all (fun e=>decide (e.back∈all) != decide (e∈edgesL outer)))
theorem matched_no1 {outer:List Pt} {all:List Eg} (h:¬ all.Nodup):matchedB outer all=false:=by unfold matchedB;rw [decide_eq_false h];rfl
theorem matched_iff {outer:List Pt} {all:List Eg}:matchedB outer all=true ↔ all.Nodup∧(∀ e∈edgesL outer,e∈all) ∧ ∀ e∈all,decide (e.back∈all)≠decide (e∈edgesL outer):=by
 unfold matchedB;simp only [Bool.and_eq_true,decide_eq_true_eq,List.all_eq_true,bne_iff_ne]
theorem matched_no2 {outer:List Pt} {all:List Eg} (h:∃ e∈edgesL outer,e ∉ all):matchedB outer all=false:=by
 cases hm:matchedB outer all
 ·rfl
 ·obtain ⟨e,h1,h2⟩:=h;exact absurd ((matched_iff.1 hm).2.1 e h1) h2
theorem matched_no3 {outer:List Pt} {all:List Eg} {e:Eg} (h:e∈all) {b:Bool} (h1:decide (e.back∈all)=b) (h2:decide (e∈edgesL outer)=b):matchedB outer all=false:=by
 cases hm:matchedB outer all
 ·rfl
 ·exact absurd (h1.trans h2.symm) ((matched_iff.1 hm).2.2 e h)
theorem zeroB (w:World):(zeroValue 4).run Tryz.prog w=.ok (.bool false) w:=by kernel_rfl
set_option maxRecDepth 100000 in
theorem elem_bool_inv {v:Value} {b:Bool} {ps:List MemPlace} (h:plainElem (H:=Unit) Tryz.prog 4 v=some (.lit (.bool b),ps)):v=.bool b:=by
 unfold plainElem at h;rw [Tryz.underlying4] at h;cases v <;> simp at h;obtain ⟨⟨rfl⟩,_⟩:=h;rfl
theorem invKE (key:Value) (l:Lit) (h:keyOf Tryz.prog TEg key=some l):∃ x:Eg,key=Eg.val x:=by obtain ⟨e,h1,_⟩:=key_inv h;exact ⟨e,h1⟩
theorem invVI (v:Value) (y:DataW Unit × List MemPlace) (h:plainElem Tryz.prog 3 v=some y):∃ c,v=Value.int .i64 c:=by obtain ⟨c,h1,_⟩:=plainElem_int_inv Tryz.underlying3 h;exact ⟨c,h1⟩
set_option maxRecDepth 100000 in
set_option maxHeartbeats 4000000 in
theorem matched_any (P:PlV) (w:World) (hP:PlOk w w.heap.size P) (hg:∀ v∈P.vs,goodAll v.pc.ring=true∧v.n≤128) (hn:P.n≤1000000) (hgo:goodAll P.outer=true) (hno:P.no≤128) :
 Calls Tryz.prog 69 #[P.val] w fun r w'=>r=.returned (.bool (matchedB P.outer (edgesOf P.vs)))∧Below w.heap.size w w':=by
 obtain ⟨Ao,no,co,outer,A,n,c,vs⟩:=P;show Calls Tryz.prog 69 #[.agg #[.slice Ao no co,.slice A n c]] w _;simp only at hg hn hgo hno ⊢;have HP:=hide hP;have HOL:=hide (show outer.length=no from hP.out.1);have HGO:=hide hgo;have hmm:=@run_makeMap Tryz.prog;obtain ⟨w2,hw2,hbs2⟩:∃ w2,((w.alloc (Obj.cells #[.slice Ao no co,.slice A n c] 26)).alloc (Obj.cells #[Value.bool false] 4))=w2∧Bs w2 [(w.heap.size+1,4,#[Value.bool false]),(w.heap.size,26,#[.slice Ao no co,.slice A n c])]:=by
  refine ⟨_,rfl,?_⟩;have h:=((Bs.nil w).al #[.slice Ao no co,.slice A n c] 26).al #[Value.bool false] 4;simpa using h
 have hb2:Below w.heap.size w w2:=hw2 ▸ bal (bal bR _) _;have hs2:w2.heap.size=w.heap.size+2:=by rw [← hw2];simp
 have k1:=hbs2 _ (List.mem_of_getElem? (i:=0) rfl);have k0:=hbs2 _ (List.mem_of_getElem? (i:=1) rfl);have HK0:=hide k0;have HK1:=hide k1;have HE:=hide (pedges_any vs A n c w2 (hP.ps.later hb2) hg hn);have HW2:=hide hw2;have HB2:=hide hb2;have c0:=k0.cell;have f0:=k0.frozen;have z0:=k0.lt;have c1:=k1.cell;have f1:=k1.frozen;have z1:=k1.lt;clear hP hg hgo hw2 hbs2 k0 k1 hb2;refine (callsIn_wide (n:=10)).1 ?_;refine callsIn_of_wp_marks Tryz.func69 rfl trivial ?_ rfl;simp only [Tryz.ntmps69,List.size_toArray,List.length_cons,List.length_nil,Nat.reduceAdd,Nat.reduceSub,Array.replicate_succ,Array.replicate_zero,List.push_toArray,List.append_toArray,List.nil_append,List.cons_append];refine wpIn_wide.2 ?_;go_upto_region 1 with fail
 rw [HW2.out];go_upto_region 5 with (go_at_call 112;(refine HE.out.mono ?_);rintro r w3 ⟨hb3,hr⟩;have HB3:=hide hb3;have h0:=HK0.out.below hb3 HK0.out.lt;have h1:=HK1.out.below hb3 HK1.out.lt;have HK0':=hide h0;have HK1':=hide h1;clear c0 f0 z0 c1 f1 z1;have c0:=h0.cell;have f0:=h0.frozen;have z0:=h0.lt;have c1:=h1.cell;have f1:=h1.frozen;have z1:=h1.lt;clear hb3 h0 h1;rcases hr with ⟨hnd,mb,rfl,hmb,hmi⟩|⟨hnd,rfl⟩)
 ·have HND:=hide hnd;clear c0 f0 z0 c1 f1 z1 hnd;obtain ⟨q,hq⟩:∃ q,w3.heap.size=q:=⟨_,rfl⟩;have hq2:w.heap.size+2≤q:=by have:=HB3.out.size;omega
  have hmbq:mb<q:=by have:=hmi.lt;omega
  obtain ⟨w4,hw4,hbs4,hmb4⟩:∃ w4,(((w3.alloc (Obj.cells #[Value.map (some mb)] TMi)).alloc (Obj.map #[] 0)).alloc (Obj.cells #[Value.map (some (w3.heap.size+1))] TMb))=w4 ∧
   Bs w4 [(q+1+1,TMb,#[Value.map (some (q+1))]),(q,TMi,#[Value.map (some mb)])]∧MapB w4 (q+1) []:=by
   refine ⟨_,rfl,?_,?_⟩
   ·have h:=(((Bs.nil w3).al #[Value.map (some mb)] TMi).keep (Obj.map #[] 0)).al #[Value.map (some (w3.heap.size+1))] TMb;rw [← hq];simpa using h
   ·have h:=(MapB.made (w3.alloc (Obj.cells #[Value.map (some mb)] TMi))).below (bal bR (Obj.cells #[Value.map (some (w3.heap.size+1))] TMb)) (by simp);rw [← hq];simpa using h
  have hb34:Below w3.heap.size w3 w4:=hw4 ▸ bal (bal (bal bR _) _) _;have hs4:w4.heap.size=q+3:=by rw [← hw4,← hq];simp
  rw [hw4];clear hw4;simp only [hq];have hbw4:Below w.heap.size w w4:=(HB2.out.trans (HB3.out.mono HB2.out.size)).trans (hb34.mono (by omega));have k0:=HK0'.out.below hb34 HK0'.out.lt;have k1:=HK1'.out.below hb34 HK1'.out.lt;have hmi4:=hmi.below hb34 hmi.lt;have kt3:=hbs4 _ (List.mem_of_getElem? (i:=1) rfl);have kt5:=hbs4 _ (List.mem_of_getElem? (i:=0) rfl);have HBW4:=hide hbw4;have HK:=hide (And.intro k1 (And.intro kt3 (And.intro kt5 (And.intro hmi4 hmb4))));have c0:=k0.cell;have f0:=k0.frozen;have z0:=k0.lt;clear hbs4 hb34 hbw4 k0 k1 hmi4 hmb4 kt3 kt5 hmi;go_wp2_with (go_at_call 113;(refine (edges_any _ _ _ _).mono ?_);rintro e w9 ⟨rfl,rfl⟩)
  clear c0 f0 z0;obtain ⟨w5,hw5⟩:∃ w5,w4.alloc (Obj.cells #[Value.slice Ao no co] 23)=w5:=⟨_,rfl⟩;have hb5:Below w4.heap.size w4 w5:=hw5 ▸ bal bR _;have hk5:Blk w5 w4.heap.size 23 #[Value.slice Ao no co]:=hw5 ▸ Blk.new _ _ _;have hs5:w5.heap.size=q+4:=by rw [← hw5];simp [hs4]
  rw [hw5];clear hw5;rw [hs4] at hk5;obtain ⟨h1,h3,h5,hmi,hmb⟩:=HK.out;have hbw5:Below w.heap.size w w5:=HBW4.out.trans (hb5.mono HBW4.out.size);have hol:outer.length=no:=HOL.out;refine (wpIn_wide (n:=9)).1 ?_;refine wpIn_rangeFunc_ownH (F:=Fence.wide) rfl (by omega) (gf:=151) (lb:=#[.pointer (some ⟨q+3,0,none⟩)]) rfl trivial (enters_of Tryz.func151 (by kernel_rfl) rfl)
   (edges_stopsG 8 (q+3) w.heap.size Ao no co outer (by omega) w5 (by omega) (by omega) (hk5.cell 0) (HP.out.out.below hbw5))
   (fun h k=>h.trans k) (kpE_b (by omega) (by omega)) bR (fun _=>rfl)
   (fun (pre:List (Fin no)) W=>Below w.heap.size w W∧Blk W (w.heap.size+1) 4 #[.bool false]∧Blk W q TMi #[.map (some mb)]∧Blk W (q+1+1) TMb #[.map (some (q+1))]∧MapI W mb (edgesOf vs)∧MapB W (q+1) (pre.map (eAt outer))∧(∀ x∈pre,eAt outer x∈edgesOf vs)∧q+4≤W.heap.size)
   (fun cd pre W=>cd=.ret∧Below w.heap.size w W∧Blk W (w.heap.size+1) 4 #[.bool false] ∧ ∃ e∈edgesL outer,e ∉ edgesOf vs)
   (fun pre W W' row hs hg hr=>by
     obtain ⟨q1,q2,q3,q4,q5,q6,q7,q8⟩:=hs;have hrow:∀ r,row=some r→w5.heap.size≤r:=fun r e=>(hr r e).1
     exact ⟨q1.grown hg q1.size (fun r e=>by have:=hrow r e;omega),blk_grown q2 hg (fun r e=>(hr r e).2),blk_grown q3 hg (fun r e=>(hr r e).2),blk_grown q4 hg (fun r e=>(hr r e).2),q5.grown hg (fun e=>by have:=hrow _ e.symm;omega),q6.grown hg (fun e=>by have:=hrow _ e.symm;omega),q7,Nat.le_trans q8 hg.size⟩)
   (fun cd pre W W' row hs hg hr=>by
     obtain ⟨q0,q1,q2,q3⟩:=hs;have hrow:∀ r,row=some r→w5.heap.size≤r:=fun r e=>(hr r e).1
     exact ⟨q0,q1.grown hg q1.size (fun r e=>by have:=hrow r e;omega),blk_grown q2 hg (fun r e=>(hr r e).2),q3⟩)
   ⟨hbw5,h1.below hb5 h1.lt,h3.below hb5 h3.lt,h5.below hb5 h5.lt,hmi.below hb5 hmi.lt,by simpa using hmb.below hb5 hmb.lt,fun x hx=>(by cases hx),by omega⟩
   (fun (x:Fin no) a' W=>∃ Bx,w5.heap.size≤Bx∧Blk W Bx TEg #[.int .i64 (eAt outer x).a.x,.int .i64 (eAt outer x).a.y,.int .i64 (eAt outer x).b.x,.int .i64 (eAt outer x).b.y]∧a'={ tmps:=#[.agg #[.slice Ao no co,.slice A n c],.pointer (some ⟨w.heap.size,0,none⟩),.pointer (some ⟨w.heap.size+1,0,none⟩),.pointer (some ⟨q,0,none⟩),.bool true,.pointer (some ⟨q+1+1,0,none⟩),undef,.pointer (some ⟨Bx,0,none⟩),undef,undef,undef,undef,undef,.tuple #[.map (some mb),.bool true],.pointer (some ⟨w.heap.size,1,none⟩),.slice A n c,.tuple #[.map (some mb),.bool true],.map (some mb),.bool true,.bool true,.bool false,.map (some (q+1)),.pointer (some ⟨w.heap.size,0,none⟩),.slice Ao no co,.func (.func 151) #[] #[.pointer (some ⟨q+3,0,none⟩)],.int .i64 (x.val:Int),.agg #[.int .i64 (eAt outer x).a.x,.int .i64 (eAt outer x).a.y,.int .i64 (eAt outer x).b.x,.int .i64 (eAt outer x).b.y],undef,undef,undef,undef,undef,undef,undef,undef,undef,undef,undef,undef,undef,undef,undef,undef,undef,undef,undef,undef,undef,undef,undef,undef,undef,undef,undef,undef],defers:=[] })
   (fun x a' _ W W' row hs hg hr=>by obtain ⟨Bx,h1,h2,h3⟩:=hs;exact ⟨Bx,h1,blk_grown h2 hg (fun r e=>(hr r e).2),h3⟩) ?assign ?body ?done ?stop
  case assign=>
   rintro l pre x W K hi hK;dsimp only [encIE];have HH:=hide hi;clear hi;obtain ⟨e,he⟩:∃ e,edgeAt outer x.val=e:=⟨_,rfl⟩;have he2:eAt outer x=e:=he;rw [he];rw [he2] at hK;clear he he2
   gi_wp2
   obtain ⟨q1,q2,q3,q4,q5,q6,q7,q8⟩:=HH.out;exact hK _ _ ((KeepsOthers.alloc _ _).from _) (KpE.of_below (bal bR _) q1.size (by omega)) ⟨q1.trans ((bal bR _).mono q1.size),q2.alloc _,q3.alloc _,q4.alloc _,q5.later (bal bR _),q6.below (bal bR _) q6.lt,q7,by simp;omega⟩ ⟨W.heap.size,by omega,Blk.new _ _ _,rfl⟩
  case body=>
   rintro l pre x a' W hl - hi ⟨Bx,hx1,hx2,rfl⟩ hpre;have hxm:eAt outer x∈edgesL outer:=mem_edges.2 ⟨x.val,by rw [hol];exact x.isLt,rfl⟩;have heg:=edge_good HGO.out hxm;have hgood:(eAt outer x).i64:=Eg.good.i64 ⟨good_mem HGO.out heg.1,good_mem HGO.out heg.2⟩;obtain ⟨e,he⟩:∃ e,eAt outer x=e:=⟨_,rfl⟩;have hmap:(pre++[x]).map (eAt outer)=pre.map (eAt outer)++[e]:=by rw [List.map_append,List.map_singleton,he]
   rw [he] at hx2 hgood hxm;rw [he];obtain ⟨q1,q2,q3,q4,q5,q6,q7,q8⟩:=hi;obtain ⟨q50,nD,D,hown,hnD,hhas⟩:=q5;obtain ⟨q60,nB,DB,hownB,hnB,hatB⟩:=q6;obtain ⟨tb,htb⟩:∃ t,decide (e∈edgesOf vs)=t:=⟨_,rfl⟩;have hth:Maps.has D (kl e)=tb:=by rw [hhas e hgood,htb]
   have hnB2:nB≤1000:=by rw [List.length_map] at hnB;omega
   have HH:=hide (And.intro q1 (And.intro q2 (And.intro q3 (And.intro q4 (And.intro q7 q8)))));have HMI:=hide (show MapI W mb (edgesOf vs) from ⟨q50,nD,D,hown,hnD,hhas⟩);have HOWN:=hide hown;have HOWB:=hide hownB;have HAT:=hide hatB;have HKEY:=hide (keyE e hgood);have HGG:=hide hgood;have HST:=hide (And.intro hmap (And.intro htb (And.intro q60 (And.intro hnB hxm))));have HE2:=hide he;have kx:=hx2.cell;have fx:=hx2.frozen;have zx:=hx2.lt;have k4:=q4.cell;have f4:=q4.frozen;have z4:=q4.lt;have k3:=q3.cell;have f3:=q3.frozen;have z3:=q3.lt;have k2:=q2.cell;have f2:=q2.frozen;have z2:=q2.lt;clear q1 q2 q3 q4 q7 hown hownB hhas hatB hgood hmap htb q50 q60 heg he hxm hnB;cases tb
   ·gi_wp2_with (gi_at_lookup;refine wpListIn_lookup_own_ok_int _ rfl _ _ TMi rfl TEg 3 .i64 lawE Tryz.underlying143 Tryz.underlying3 (Tryz.zeroValue3 _) mb nD D rfl HOWN.out _ (kl e) rfl HKEY.out ?_;intro cc _ _;rw [hth])
    obtain ⟨q1,q2,q3,q4,q7,q8⟩:=HH.out;obtain ⟨s1,s2,s3,s4,s5⟩:=HST.out;exact ⟨(KeepsOthers.setCell _ _ _).from _,rfl,q1.setCell (p:=⟨w.heap.size+1,0,none⟩) (by simp) _,q2.set_ 0 _,e,s5,by simpa using s2⟩
   ·gi_wp2_with (first
     | (gi_at_lookup;refine wpListIn_lookup_own_ok_int _ rfl _ _ TMi rfl TEg 3 .i64 lawE Tryz.underlying143 Tryz.underlying3 (Tryz.zeroValue3 _) mb nD D rfl HOWN.out _ (kl e) rfl HKEY.out ?_;intro cc _ _;rw [hth])
     | (gi_at_mapUpdate;refine wpListIn_mapUpdate_own _ rfl _ _ _ TMb rfl TEg 4 lawE Tryz.underlying146 (plainElem Tryz.prog 4) (q+1) nB DB rfl HOWB.out (by unfold maxLen;omega) _ _ (kl e) rfl rfl HKEY.out _ [] (plainElem_bool Tryz.underlying4 true) ?_;intro w7 hown7 hg7;have HOWN7:=hide hown7;have HG7:=hide hg7;clear hown7 hg7))
    obtain ⟨q1,q2,q3,q4,q7,q8⟩:=HH.out;obtain ⟨s1,s2,s3,s4,s5⟩:=HST.out;have hne:∀ {g:Nat},g≠q+1→some g≠some (q+1):=fun h e=>h (by injection e)
    refine ⟨keeps_row HG7.out (by omega),⟨(Below.refl w.heap.size W).grown HG7.out q1.size (fun r e=>by injection e with e;omega),HG7.out.block _ (by omega) (hne (by omega))⟩,q1.grown HG7.out q1.size (fun r e=>by injection e with e;omega),q2.grown HG7.out (hne (by omega)),q3.grown HG7.out (hne (by omega)),q4.grown HG7.out (hne (by omega)),HMI.out.grown HG7.out (hne (by omega)),?_,fun y hy=>?_,Nat.le_trans q8 HG7.out.size⟩
    ·rw [s1];refine ⟨fun f hf=>?_,nB+1,_,HOWN7.out,by rw [List.length_append];simp at s4 ⊢;omega,putE_at HOWB.out.isMap HGG.out HAT.out⟩;rcases List.mem_append.1 hf with h|h
     ·exact s3 f h
     ·simp at h;subst h;exact HGG.out
    ·rcases List.mem_append.1 hy with h|h
     ·exact q7 y h
     ·simp at h;subst h;rw [HE2.out];simpa using s2
  case done=>
   rintro D xs W hD rfl ⟨q1,q2,q3,q4,q5,q6,q7,q8⟩ hK;rw [fin_edges _ hol] at q6;have q7:∀ e∈edgesL outer,e∈edgesOf vs:=fun e he=>by
    rw [← fin_edges _ hol] at he;obtain ⟨x,hx,rfl⟩:=List.mem_map.1 he;exact q7 x hx
   have hM:Marks W [D]:=⟨by simp,fun E hE=>by simp at hE;subst hE;exact hK⟩;obtain ⟨q50,nD,DD,hown,hnD,hhas⟩:=q5;obtain ⟨q60,nB,DB,hownB,hnB,hatB⟩:=q6;have HH:=hide (And.intro q1 (And.intro q2 (And.intro q3 (And.intro q4 (And.intro hownB hM)))));have HALL:=hide (And.intro q7 (And.intro q50 (And.intro hhas (And.intro q60 hatB))));have HOWN:=hide hown;have k3:=q3.cell;have f3:=q3.frozen;have z3:=q3.lt;clear q1 q2 q3 q4 q7 q50 hhas q60 hatB hown hownB hM hK hnD hnB;dsimp only;go_wp2_with (at_range;refine wpList_range_own _ rfl _ TMi rfl TEg 3 lawE Tryz.underlying143 (plainElem Tryz.prog 3) mb nD DD rfl HOWN.out ?_;intro w0 hrg hg0 hs0;have HRG:=hide hrg;have HG0:=hide hg0;clear hrg hg0;go_frame)
   obtain ⟨rr,hrr⟩:∃ rr,W.heap.size=rr:=⟨_,rfl⟩;have hqr:q+4≤rr:=by omega
   have hDr:D<rr:=by have:=HH.out.2.2.2.2.2.lt D (by simp);omega
   clear k3 f3 z3;simp only [hrr]
   go_loopw [40] (fun _ wr=>∃ (left:Lit→Bool) (cnt:Nat),Hid (wr.ranges (H:=Unit) Tryz.prog TEg (plainElem Tryz.prog 3) mb rr nD DD left cnt∧Below w.heap.size w wr∧Blk wr (w.heap.size+1) 4 #[.bool false]∧Blk wr q TMi #[.map (some mb)]∧Blk wr (q+1+1) TMb #[.map (some (q+1))]∧wr.ownsMap (H:=Unit) Tryz.prog TEg (plainElem Tryz.prog 4) (q+1) nB DB∧Marks wr [D]∧(∀ x:Eg,x.i64→x∈edgesOf vs→left (kl x)=false→decide (x.back∈edgesOf vs)≠decide (x∈edgesL outer))∧rr<wr.heap.size)) (fun _ wr=>wr.rangeLeft mb rr)
   case atStart=>
    obtain ⟨q1,q2,q3,q4,q5,q6⟩:=HH.out;have hne:∀ {g:Nat},some g≠(none:Option Nat):=fun h=>by cases h
    refine ⟨has DD,size DD,hide ⟨by rw [← hrr];exact HRG.out,q1.grown HG0.out q1.size (fun r e=>by cases e),q2.grown HG0.out hne,q3.grown HG0.out hne,q4.grown HG0.out hne,q5.kept HG0.out hne,q6.grown HG0.out (fun _ _=>hne),fun x hx hm hl=>?_,by omega⟩⟩;rw [HALL.out.2.2.1 x hx] at hl;simp at hl;exact absurd hm hl
   case round=>
    obtain ⟨left,cnt,HI⟩:=hrel;clear HRG HG0 HOWN HH;go_wp2_with (at_next;refine wpList_next_ranges _ rfl _ rfl TEg lawE (plainElem Tryz.prog 3) Eg.val (Value.int .i64) invKE invVI mb rr nD DD left cnt rfl HI.out.1 ?_ ?_)
    ·intro _ hl0;obtain ⟨-,q1,q2,q3,q4,q5,q6,q7,q8⟩:=HI.out;have HMT:=hide (matched_iff.2 ⟨HND.out,HALL.out.1,fun e he=>q7 e (HALL.out.2.1 e he) he (hl0 _)⟩);have HQ:=hide (And.intro q1 (And.intro q2 q6));have k2:=q2.cell;have f2:=q2.frozen;have z2:=q2.lt;clear q1 q2 q3 q4 q5 q6 q7 HI;go_wp2_with fail
     obtain ⟨q1,q2,q6⟩:=HQ.out;have hM:=q6.setCell (p:=⟨w.heap.size+1,0,none⟩) (fun E hE=>by simp at hE;subst hE;simp;omega) (.bool true);have hb2:=shut_blk hM (q2.set_ 0 (.bool true));exact retMs (v:=.bool true) [D] hM (by simp [results,Tryz.results69,go_sem,hb2.cell 0]) ⟨by rw [HMT.out],shut_below hM (fun E hE=>by simp at hE;omega) (q1.setCell (p:=⟨w.heap.size+1,0,none⟩) (by simp) _)⟩
    ·intro x cc kl' y ps w1 cnt1 hkx hlx hvx hat hrg1 hlt1 hg1 hs1 hen;obtain ⟨x',ex,hx64,rfl⟩:=key_inv hkx;obtain rfl:=val_inj ex;have hxm:x∈edgesOf vs:=by
      have h1:=has_true_of_atKey hat;rw [HALL.out.2.2.1 x hx64] at h1;simpa using h1
     obtain ⟨hrg,q1,q2,q3,q4,q5,q6,q7,q8⟩:=HI.out;have hne:∀ {g:Nat},g≠rr→some g≠some rr:=fun h e=>h (by injection e)
     have hww:=q1.size;have p1:=q1.grown hg1 q1.size (fun r e=>by injection e with e;omega);have p2:=q2.grown hg1 (hne (by omega));have p3:=q3.grown hg1 (hne (by omega));have p4:=q4.grown hg1 (hne (by omega));have p5:=q5.kept hg1 (hne (by omega));have p6:=q6.grown hg1 (fun E hE=>hne (by simp at hE;omega));have p8:rr<w1.heap.size:=by omega
     have hleq:=hrg.left_eq;have hleft:∀ z:Eg,z.i64→(left (kl z) && !(kl z).sameKey (kl x))=false→z=x∨left (kl z)=false:=fun z hz h=>by
      rw [Bool.and_eq_false_iff] at h;rcases h with h|h
      ·exact .inr h
      ·simp at h;exact .inl (kl_inj hz hx64 (WideAt.sameKey_eq h))
     obtain ⟨w2',hw2'⟩:∃ q,w1.alloc (Obj.cells #[.int .i64 x.a.x,.int .i64 x.a.y,.int .i64 x.b.x,.int .i64 x.b.y] TEg)=q:=⟨_,rfl⟩;have hb12:Below w1.heap.size w1 w2':=hw2' ▸ bal bR _;have hbx:Blk w2' wr.heap.size TEg #[.int .i64 x.a.x,.int .i64 x.a.y,.int .i64 x.b.x,.int .i64 x.b.y]:=hs1 ▸ hw2' ▸ Blk.new _ _ _;obtain ⟨tb,htb⟩:∃ t,decide (x.back∈edgesOf vs)=t:=⟨_,rfl⟩;obtain ⟨bb,hbb⟩:∃ t,decide (x∈edgesL outer)=t:=⟨_,rfl⟩;have hownI:=hrg1.owns;have HLK:=hide (show ∀ w',Below w2'.heap.size w2' w' → ∃ cc,(Instr.lookup TMi (.map (some mb)) (.agg #[.int .i64 x.b.x,.int .i64 x.b.y,.int .i64 x.a.x,.int .i64 x.a.y]) true).run Tryz.prog w'=.ok (.tuple #[.int .i64 cc,.bool tb]) w' from fun w' h=>by
      have ho:=own_below (own_below hownI hb12 (by omega)) h (by have:=hb12.size;omega);obtain ⟨v,ps,hrun,hv⟩:=ho.look_ok lawE Tryz.underlying143 (Tryz.zeroValue3 w') (plainElem_int Tryz.underlying3 (by decide)) (keyE x.back hx64.back);obtain ⟨c2,rfl,_,_⟩:=plainElem_int_inv Tryz.underlying3 hv;rw [HALL.out.2.2.1 x.back hx64.back,htb] at hrun;exact ⟨c2,hrun⟩)
     have HLB:=hide (show ∀ w',Below w2'.heap.size w2' w'→(Instr.lookup TMb (.map (some (q+1))) (.agg #[.int .i64 x.a.x,.int .i64 x.a.y,.int .i64 x.b.x,.int .i64 x.b.y]) false).run Tryz.prog w'=.ok (.bool bb) w' from fun w' h=>by
      have ho:=own_below (own_below p5 hb12 (by omega)) h (by have:=hb12.size;omega);obtain ⟨v,ps,hrun,hv⟩:=ho.lookup lawE Tryz.underlying146 (zeroB w') (plainElem_bool Tryz.underlying4 false) (keyE x hx64);rw [HALL.out.2.2.2.2 x hx64,hbb] at hv;rw [elem_bool_inv hv] at hrun;exact hrun)
     have HP2:=hide (show ∀ w',Below w2'.heap.size w2' w'→Below w.heap.size w w'∧Blk w' (w.heap.size+1) 4 #[.bool false]∧Blk w' q TMi #[.map (some mb)]∧Blk w' (q+1+1) TMb #[.map (some (q+1))]∧w'.ownsMap (H:=Unit) Tryz.prog TEg (plainElem Tryz.prog 4) (q+1) nB DB∧Marks w' [D]∧Blk w' wr.heap.size TEg #[.int .i64 x.a.x,.int .i64 x.a.y,.int .i64 x.b.x,.int .i64 x.b.y]∧w'.ranges (H:=Unit) Tryz.prog TEg (plainElem Tryz.prog 3) mb rr nD DD (fun z=>left z && !z.sameKey (kl x)) cnt1 from fun w' h=>by
      have h1:Below w1.heap.size w1 w':=hb12.trans (h.mono hb12.size);refine ⟨p1.trans (h1.mono p1.size),p2.below h1 p2.lt,p3.below h1 p3.lt,p4.below h1 p4.lt,own_below p5 h1 p5.lt,p6.later h1,hbx.below h hbx.lt,?_⟩;obtain ⟨es,clock,since,seen,c0,r1,r2,r3,r4,r5,r6⟩:=hrg1;exact ⟨es,clock,since,seen,c0,(h1.block mb (Array.getElem?_eq_some_iff.1 r1).1).trans r1,r2,r3,r4,(h1.block rr p8).trans r5,r6⟩)
     have HX:=hide (And.intro hx64 (And.intro hxm (And.intro htb (And.intro hbb (And.intro hleft (And.intro q7 (And.intro hlt1 (And.intro p8 hleq))))))));have HW2':=hide hw2';have hz12:wr.heap.size<w2'.heap.size:=hbx.lt;have HB12:=hide hb12;clear hrg q1 q2 q3 q4 q5 q6 q7 p1 p2 p3 p4 p5 p6 hg1 hat hvx hlx hkx ex hx64 hxm htb hbb hleft hownI hb12 hbx hw2' hrg1 hlt1 HI hleq;go_upto_region 14 with fail
     rw [HW2'.out];refine wp_region_dag (by kernel_rfl) (by kernel_rfl) 55 0
      [⟨some 44,[0],[],[],[],[],fun _ _ v _=>v=.map (some mb)⟩,
       ⟨some 45,[0],[],[],[],[],fun _ _ v _=>v=.agg #[.int .i64 x.a.x,.int .i64 x.a.y,.int .i64 x.b.x,.int .i64 x.b.y]⟩,
       ⟨some 46,[0],[],[],[1],[],fun _ _ v _=>v=.agg #[.int .i64 x.b.x,.int .i64 x.b.y,.int .i64 x.a.x,.int .i64 x.a.y]⟩,
       ⟨some 47,[0],[],[],[0,2],[],fun st a v w'=>∃ cc:Int,v=.tuple #[.int .i64 cc,.bool tb]⟩,
       ⟨some 43,[0],[],[],[3],[],fun st a v w'=>∃ cc:Int,v=.tuple #[.int .i64 cc,.bool tb]⟩,
       ⟨some 48,[0],[],[],[4],[],fun st a v w'=>∃ cc:Int,v=.int .i64 cc⟩,
       ⟨some 49,[0],[],[],[4],[],fun _ _ v _=>v=.bool tb⟩,
       ⟨some 11,[0],[],[],[5],[],fun st a v w'=>∃ cc:Int,v=.int .i64 cc⟩,
       ⟨some 12,[0],[],[],[6],[],fun _ _ v _=>v=.bool tb⟩] (fun _ w'=>Below w2'.heap.size w2' w') (fun _ _ _ _ _=>True) (fun _ w w'=>Below w.heap.size w w') ?gu ?ru ?put [44,45,46,47,43,48,49,11,12] rfl (by kernel_rfl) rfl ?g0 ?keep ?steps ?fin
     case ru=>
      intro e he s a v w w' hu hv;simp only [List.mem_cons,List.not_mem_nil,or_false] at he;rcases he with rfl|rfl|rfl|rfl|rfl|rfl|rfl|rfl|rfl
      all_goals first|exact hv
     case put=>
      intro e he s a d u v w hnd hv;simp only [List.mem_cons,List.not_mem_nil,or_false] at he;rcases he with rfl|rfl|rfl|rfl|rfl|rfl|rfl|rfl|rfl
      all_goals first|exact hv
     case keep=>
      intro e he s s' a v w w' hsl hm ht hv;simp only [List.mem_cons,List.not_mem_nil,or_false] at he;rcases he with rfl|rfl|rfl|rfl|rfl|rfl|rfl|rfl|rfl
      all_goals first|exact hv
     case steps=>
      refine ⟨?_,?_,?_,?_,?_,?_,?_,?_,?_,trivial⟩
      ·intro st hst ac w3 hg hG hd K hK;dsimp only at hst hG hK;have kk:=(HP2.out _ hG).2.2.1;have k0:=kk.cell 0;have zz:=kk.lt;simp at k0;clear hG kk;have k3:=hg.kp 3 (by simp);(try simp [Act.eval] at k3);go_simp;exact hK _ _ bR rfl
      ·intro st hst ac w3 hg hG hd K hK;dsimp only at hst hG hK;have kk:=(HP2.out _ hG).2.2.2.2.2.2.1;have k0:=kk.cell;have zz:=kk.lt;clear hG kk;have k10:=hg.kp 10 (by simp);(try simp [Act.eval] at k10);go_simp;exact hK _ _ bR rfl
      ·intro st hst ac w3 hg hG hd K hK;dsimp only at hst hG hK;have f1:=hd 1 (by simp) _ rfl _ rfl;clear hG;simp [Act.eval] at f1;go_simp;(refine (turned_any x w3).mono ?_);rintro e w8 ⟨rfl,hb⟩;exact hK _ _ hb rfl
      ·intro st hst ac w3 hg hG hd K hK;dsimp only at hst hG hK;have f0:=hd 0 (by simp) _ rfl _ rfl;have f2:=hd 2 (by simp) _ rfl _ rfl;(obtain ⟨c9,hrun⟩:=HLK.out _ hG);clear hG;simp [Act.eval] at f0 f2;go_simp;exact hK _ _ bR ⟨c9,rfl⟩
      ·intro st hst ac w3 hg hG hd K hK;dsimp only at hst hG hK;exact op_move _ rfl (hK _ _ bR (hd 3 (by simp) _ rfl _ rfl))
      ·intro st hst ac w3 hg hG hd K hK;dsimp only at hst hG hK;(obtain ⟨c9,f4⟩:=hd 4 (by simp) _ rfl _ rfl);clear hG;simp [Act.eval] at f4;go_simp;exact hK _ _ bR ⟨c9,rfl⟩
      ·intro st hst ac w3 hg hG hd K hK;dsimp only at hst hG hK;(obtain ⟨c9,f4⟩:=hd 4 (by simp) _ rfl _ rfl);clear hG;simp [Act.eval] at f4;go_simp;exact hK _ _ bR rfl
      ·intro st hst ac w3 hg hG hd K hK;dsimp only at hst hG hK;exact op_assign _ rfl (hK _ _ bR (hd 5 (by simp) _ rfl _ rfl))
      ·intro st hst ac w3 hg hG hd K hK;dsimp only at hst hG hK;exact op_assign _ rfl (hK _ _ bR (hd 6 (by simp) _ rfl _ rfl))
     case gu=>intro s a b hG hu;exact hG.trans (hu.mono hG.size)
     case g0=>exact bR.drew
     case fin=>
      intro f9 w9 hG hall;have h12:=hall _ (List.mem_of_getElem? (i:=8) rfl) 12 rfl;have hlb:=HLB.out w9 hG;obtain ⟨p1,p2,p3,p4,p5,p6,p7,p9⟩:=HP2.out w9 hG;have HQ:=hide (And.intro p1 (And.intro p2 (And.intro p3 (And.intro p4 (And.intro p5 (And.intro p6 p9))))));have HS9:=hide (Nat.le_trans HB12.out.size hG.size);have k4:=p4.cell;have f4:=p4.frozen;have z4:=p4.lt;have k7:=p7.cell;have f7:=p7.frozen;have z7:=p7.lt;have k2:=p2.cell;have f2:=p2.frozen;have z2:=p2.lt;clear hall hG p1 p2 p3 p4 p5 p6 p7 p9;simp only [fillF,List.map_cons,List.map_nil,List.foldl_cons,List.foldl_nil,Act.put,List.setIfInBounds_toArray,List.set_cons_zero,List.set_cons_succ];rw [show f9 12=.bool tb from h12];clear h12;obtain ⟨hx64,hxm,htb,hbb,hleft,q7,hlt1,p8,hleq⟩:=HX.out;by_cases heq:tb=bb
      ·have HNO:=hide (matched_no3 hxm htb (hbb.trans heq.symm));clear hx64 hxm htb hbb hleft q7 hlt1 hleq;have hbq:(tb == bb)=true:=by simp [heq]
       clear heq;go_wp2_with fail
       obtain ⟨p1,p2,p3,p4,p5,p6,p9⟩:=HQ.out;have hM:=p6.setCell (p:=⟨w.heap.size+1,0,none⟩) (fun E hE=>by simp at hE;subst hE;simp;omega) (.bool false);have hb2:=shut_blk hM (p2.set_ 0 (.bool false));exact retMs (v:=.bool false) [D] hM (by simp [results,Tryz.results69,go_sem,hb2.cell 0]) ⟨by rw [HNO.out],shut_below hM (fun E hE=>by simp at hE;omega) (p1.setCell (p:=⟨w.heap.size+1,0,none⟩) (by simp) _)⟩
      ·have hbq:(tb == bb)=false:=by simp [heq]
       have HNE:=hide (show ∀ z:Eg,z.i64→z∈edgesOf vs→(left (kl z) && !(kl z).sameKey (kl x))=false→decide (z.back∈edgesOf vs)≠decide (z∈edgesL outer) from fun z hz hzm hl=>by
        rcases hleft z hz hl with rfl|h
        ·rw [htb,hbb];exact heq
        ·exact q7 z hz hzm h)
       have HLT:=hide (And.intro hlt1 (And.intro hleq p8));clear hx64 hxm htb hbb hleft q7 hlt1 hleq heq;go_wp2_with fail
       go_roundw
       case rel=>
        obtain ⟨p1,p2,p3,p4,p5,p6,p9⟩:=HQ.out;exact ⟨_,cnt1,hide ⟨p9,p1,p2,p3,p4,p5,p6,HNE.out,nLl HLT.out.2.2 HS9.out⟩⟩
       case measure=>
        rw [HQ.out.2.2.2.2.2.2.left_eq,HLT.out.2.1];exact HLT.out.1
  case stop=>
   rintro D cd pre W hD - ⟨rfl,q1,q2,q3⟩ hK;refine wpIn_ret ?_;have hM:Marks W [D]:=⟨by simp,fun E hE=>by simp at hE;subst hE;exact hK⟩;have hb2:=shut_blk hM q2;exact retMs (v:=.bool false) [D] hM (by simp [results,Tryz.results69,go_sem,hb2.cell 0]) ⟨by rw [matched_no2 q3],shut_below hM (fun E hE=>by simp at hE;omega) q1⟩
 ·have hM:Marks ((w3.setCell ⟨w.heap.size+1,0,none⟩ (.bool false)).alloc (Obj.cells #[Value.map none] TMi)) []:=⟨List.nodup_nil,fun D h=>(by cases h)⟩;have hb6:=(HK1'.out.set_ 0 (.bool false)).alloc (Obj.cells #[Value.map none] TMi);exact retMs (v:=.bool false) [] hM (by simp [results,Tryz.results69,go_sem,shutAll,hb6.cell 0]) ⟨by rw [matched_no1 hnd],bal ((HB2.out.trans (HB3.out.mono HB2.out.size)).setCell (p:=⟨w.heap.size+1,0,none⟩) (by simp) _) _⟩
end Go.Proofs.YtacinobmcgcccaaGreatDoor
