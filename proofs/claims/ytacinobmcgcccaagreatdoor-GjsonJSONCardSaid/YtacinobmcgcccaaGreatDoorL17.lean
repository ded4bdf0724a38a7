/- plan.Check. -/
import Derived.Test.YtacinobmcgcccaaGreatDoorL16
import Derived.Test.YtacinobmcgcccaaGreatDoorL10
import Derived.Test.YtacinobmcgcccaaGreatDoorL11
import Derived.Test.YtacinobmcgcccaaGreatDoorL06
import Derived.Test.YtacinobmcgcccaaGreatDoorL07
import Derived.Test.YtacinobmcgcccaaGreatDoorL12
import Derived.BigRegion
import Derived.Defers
import Derived.Recover
import Derived.Deep.QuietTactic
set_option linter.unusedSimpArgs false
set_option linter.unusedVariables false
namespace Go.Proofs.YtacinobmcgcccaaGreatDoor
open Go.RowKit Go.Shelf
theorem normed_sound {r:List Pt} (h:normedB r=true):areaE r=0∧3≤r.length∧r.length≤128∧goodAll r=true∧r.Nodup∧0<areaV r∧simpleB r=true:=by
 unfold normedB at h;simp only [Bool.and_eq_true,decide_eq_true_eq] at h;have h1:=h.1;unfold ringE at h1;split at h1
 ·rename_i h2;exact absurd h1 h2
 ·rename_i h2
  have h2:=Classical.not_not.1 h2;have:=areaE_zero h2;split at h1
  ·cases h1
  ·rename_i h3
   split at h1
   ·cases h1
   ·rename_i h4
    split at h1
    ·cases h1
    ·rename_i h5
     split at h1
     ·rename_i h6
      refine ⟨h2,by omega,this.1,this.2,?_,by omega,h6⟩;unfold twiceB at h4;simpa using h4
     ·cases h1
theorem edge_ne {r:List Pt} (h:r.Nodup) (h3:3≤r.length):∀ e∈edgesL r,e.a≠e.b:=by
 intro e he;obtain ⟨i,hi,rfl⟩:=mem_edges.1 he;have h2:(i+1) % r.length<r.length:=Nat.mod_lt _ (by omega);intro e;unfold edgeAt at e;simp only [List.getD_eq_getElem?_getD,List.getElem?_eq_getElem hi,List.getElem?_eq_getElem h2,Option.getD_some] at e;have:=(List.getElem_inj h).1 e;by_cases hl:i+1<r.length
 ·rw [Nat.mod_eq_of_lt hl] at this;omega
 ·obtain hl:i+1=r.length:=by omega
  rw [hl,Nat.mod_self] at this;omega
def planB (outer:List Pt) (vs:List Pv):Bool:=listedB outer (vs.map Pv.pc)&&(normedB outer&&((vs.all fun v=>normedB v.pc.ring)&&(matchedB outer (edgesOf vs)&&(cleanB (edgesOf vs)&&wholeB outer vs))))
theorem listed_len {outer:List Pt} {ps:List Pc} (h:listedB outer ps=true):1≤ps.length∧ps.length≤64:=by
 unfold listedB at h;split at h
 ·cases h
 ·simp only [Bool.and_eq_true,decide_eq_true_eq] at h;exact ⟨h.1,h.2.1⟩
set_option maxRecDepth 100000 in
theorem check1_any (vs:List Pv) (w:World) (hok:∀ v∈vs,PvOk w w.heap.size v):PredBelow Tryz.prog 68 #[] (fun i:Fin vs.length=>.agg (vs[i].enc).toArray) (fun i=>!normedB vs[i].pc.ring) w:=fun W i hb=>by
 have hv:=((hok _ (List.getElem_mem i.2)).below hb).more hb.size;have e:vs[i]=vs[i.1]:=rfl;simp only [e];obtain ⟨v,hvv⟩:∃ v,vs[i.1]=v:=⟨_,rfl⟩;rw [hvv] at hv ⊢;obtain ⟨⟨id,ring,owner⟩,Av,nv,cv⟩:=v;show Calls Tryz.prog 68 #[.agg #[.int .i64 id,.slice Av nv cv,.string owner]] W _;simp only;obtain ⟨q,hq⟩:∃ q,normedB ring=q:=⟨_,rfl⟩;have HN:=hide (fun w0 (h:PR w0 w0.heap.size Av nv ring)=>normed_any ring Av nv cv w0 h hv.small hv.cap hv.cmax);rw [hq] at HN ⊢;have HPR:=hide hv.pr;have HB:=hide hb;obtain ⟨w1,hw1⟩:∃ q,W.alloc (.cells #[.int .i64 id,.slice Av nv cv,.string owner] 43)=q:=⟨_,rfl⟩;have HB1:=hide (show Below W.heap.size W w1 from hw1 ▸ bal bR _);have hk1:Blk w1 W.heap.size 43 #[.int .i64 id,.slice Av nv cv,.string owner]:=hw1 ▸ Blk.new _ _ _;have kc:=hk1.cell;have fc:=hk1.frozen;have zc:=hk1.lt;have HW1:=hide hw1;clear hv hvv hq hb hw1 hk1 e
 go_enter Tryz.func68,Tryz.ntmps68
 go_upto_region 1 with fail
 rw [HW1.out];go_wp2_with (go_at_call 67;(refine (HN.out w1 ((HPR.out.below HB1.out).more HB1.out.size)).mono ?_);rintro e w3 ⟨rfl,hb3⟩;have HB3:=hide hb3;clear hb3)
 go_ret;exact ⟨rfl,HB.out.trans ((btr HB1.out HB3.out).mono HB.out.size)⟩
theorem any_fin {α:Type} (l:List α) (p:α→Bool):(List.finRange l.length).any (fun i=>p l[i])=l.any p:=by
 rw [Bool.eq_iff_iff,List.any_eq_true,List.any_eq_true];constructor
 ·rintro ⟨i,_,h⟩;exact ⟨_,List.getElem_mem i.2,h⟩
 ·rintro ⟨x,hx,h⟩;obtain ⟨i,hi,rfl⟩:=List.mem_iff_getElem.1 hx;exact ⟨⟨i,hi⟩,List.mem_finRange _,h⟩
theorem cf_check (vs:List Pv) (A:Option Addr) (n c:Nat) (w:World) (h:PsR w w.heap.size A n vs) (h0:0<n) (hn:n≤1000000) :
 Calls Tryz.prog 47 #[.slice A n c,.func (.func 68) #[] #[]] w fun e w'=>e=.returned (.bool (!(vs.all fun v=>normedB v.pc.ring)))∧Below w.heap.size w w':=by
 have hlen:=h.sl.1;obtain ⟨b,o,rfl,hb,hcs⟩:=h.at h0;have:Inhabited (Fin vs.length):=⟨⟨0,by omega⟩⟩;have eg:∀ args w,(callFunc 68 args).run Tryz.prog w=.ok (.enter 68 args) w:=enters_of Tryz.func68 (by kernel_rfl) rfl;have hcon:=AnyQ.slices_ContainsFunc Tryz.cfP 3 Tryz.isAgg43 Tryz.sizeOf43 (fun i:Fin vs.length=>vs[i].enc) (fun i=>Pv.enc_len _) _ 68 #[] eg b o n c (List.finRange vs.length) w (check1_any vs w h.ok) (by simp;omega) (by omega) hb (fun j hj i v hv=>by
  have hj2:j<vs.length:=by simpa using hj
  have e:(List.finRange vs.length)[j]! = ⟨j,hj2⟩:=by rw [getElem!_pos _ j hj,List.getElem_finRange];rfl
  rw [e] at hv;have h1:=hcs j hj2
  match i,hv with
  | 0,hv=>simp [Pv.enc] at hv;subst hv;simpa using h1.1
  | 1,hv=>simp [Pv.enc] at hv;subst hv;exact h1.2.1
  | 2,hv=>simp [Pv.enc] at hv;subst hv;exact h1.2.2
  | i+3,hv=>simp [Pv.enc] at hv)
 change Calls Tryz.prog 47 _ _ _ at hcon;rw [List.take_of_length_le (by simp;omega),any_fin vs (fun v=>!normedB v.pc.ring)] at hcon;rw [show (!(vs.all fun v=>normedB v.pc.ring))=vs.any (fun v=>!normedB v.pc.ring) from by rw [List.not_all_eq_any_not]];exact hcon
set_option maxRecDepth 100000 in
set_option maxHeartbeats 4000000 in
theorem pcheck_any (P:PlV) (w:World) (hP:PlOk w w.heap.size P) :
 Calls Tryz.prog 23 #[P.val] w fun e w'=>e=.returned (.int .i64 (if planB P.outer P.vs then 0 else 2))∧Below w.heap.size w w':=by
 have hF:planB P.outer P.vs=(listedB P.outer (P.vs.map Pv.pc)&&(normedB P.outer&&((P.vs.all fun v=>normedB v.pc.ring)&&(matchedB P.outer (edgesOf P.vs)&&(cleanB (edgesOf P.vs)&&wholeB P.outer P.vs))))):=rfl;have HL1:=hide (fun w0 (h:PlOk w0 w0.heap.size P)=>listed_any P w0 h);have HL2:=hide (fun w0 (h:PlOk w0 w0.heap.size P)=>normed_any P.outer P.Ao P.no P.co w0 h.out h.osm h.ocap h.ocm);have hL3:=fun (h0:0<P.n) (hn:P.n≤1000000) w0 (h:PlOk w0 w0.heap.size P)=>cf_check P.vs P.A P.n P.c w0 h.ps h0 hn
 have hL4:=fun hg hn hgo hno w0 (h:PlOk w0 w0.heap.size P)=>matched_any P w0 h hg hn hgo hno
 have hL5:=fun hg hn h0 hne w0 (h:PlOk w0 w0.heap.size P)=>clean_any P w0 h hg hn h0 hne
 have hL6:=fun hg hn hgo w0 (h:PlOk w0 w0.heap.size P)=>pwhole_any P w0 h hg hn hgo
 have hvl:P.vs.length=P.n:=hP.ps.sl.1;have hol:P.outer.length=P.no:=hP.out.1;have hll:=@listed_len P.outer (P.vs.map Pv.pc);have hno:=@normed_sound P.outer;have hna:(P.vs.all fun v=>normedB v.pc.ring)=true → ∀ v∈P.vs,normedB v.pc.ring=true:=fun h=>by simpa using h
 have hsv:∀ v∈P.vs,v.pc.ring.length=v.n:=fun v hv=>(hP.ps.ok v hv).pr.1
 obtain ⟨w1,hw1⟩:∃ q,w.alloc (.cells #[.slice P.Ao P.no P.co,.slice P.A P.n P.c] 26)=q:=⟨_,rfl⟩;have HB1:=hide (show Below w.heap.size w w1 from hw1 ▸ bal bR _);have hk1:Blk w1 w.heap.size 26 #[.slice P.Ao P.no P.co,.slice P.A P.n P.c]:=hw1 ▸ Blk.new _ _ _;have HK1:=hide hk1;have HP1:=hide (hP.later HB1.out);obtain ⟨b1,h1⟩:∃ q,listedB P.outer (P.vs.map Pv.pc)=q:=⟨_,rfl⟩;obtain ⟨b2,h2⟩:∃ q,normedB P.outer=q:=⟨_,rfl⟩;obtain ⟨b3,h3⟩:∃ q,(P.vs.all fun v=>normedB v.pc.ring)=q:=⟨_,rfl⟩;obtain ⟨b4,h4⟩:∃ q,matchedB P.outer (edgesOf P.vs)=q:=⟨_,rfl⟩;obtain ⟨b5,h5⟩:∃ q,cleanB (edgesOf P.vs)=q:=⟨_,rfl⟩;obtain ⟨b6,h6⟩:∃ q,wholeB P.outer P.vs=q:=⟨_,rfl⟩;rw [h1,h2,h3,h4,h5,h6] at hF;rw [h1] at HL1 hll;rw [h2] at HL2 hno;rw [h3] at hL3 hna;rw [h4] at hL4;rw [h5] at hL5;rw [h6] at hL6;have hne:b2=true→b3=true→b1=true→(∀ v∈P.vs,goodAll v.pc.ring=true∧v.n≤128)∧(∀ v∈P.vs,areaE v.pc.ring=0)∧0<(edgesOf P.vs).length∧(∀ e∈edgesOf P.vs,e.good∧e.a≠e.b):=fun e2 e3 e1=>by
  have hs:=fun v hv=>normed_sound (hna e3 v hv)
  refine ⟨fun v hv=>⟨(hs v hv).2.2.2.1,by rw [← hsv v hv];exact (hs v hv).2.2.1⟩,fun v hv=>(hs v hv).1,?_,?_⟩
  ·have hl:=(hll e1).1;rw [List.length_map] at hl
   match hvs:P.vs,hl with
   | v :: l,_=>
     have hv:=hs v (by rw [hvs];simp);unfold edgesOf;rw [List.flatMap_cons,List.length_append,edges_len];omega
  ·intro e he;obtain ⟨v,hv,he⟩:=List.mem_flatMap.1 he;exact ⟨⟨good_mem (hs v hv).2.2.2.1 (edge_good (hs v hv).2.2.2.1 he).1,good_mem (hs v hv).2.2.2.1 (edge_good (hs v hv).2.2.2.1 he).2⟩,edge_ne (hs v hv).2.2.2.2.1 (hs v hv).2.1 e he⟩
 rw [List.length_map] at hll;show Calls Tryz.prog 23 #[.agg #[.slice P.Ao P.no P.co,.slice P.A P.n P.c]] w _;have HF:=hide hF;clear hF h1 h2 h3 h4 h5 h6 hsv hol hP;obtain ⟨Ao,no,co,outer,A,n,c,vs⟩:=P;simp only at hll hno hL3 hL4 hL5 hL6 hvl hne hw1 HL2 HL1 HK1;have kc:=HK1.out.cell;have fc:=HK1.out.frozen;have zc:=HK1.out.lt;have HW1:=hide hw1;clear hw1 hk1;obtain ⟨R,hR⟩:∃ R:Int,(if planB outer vs then (0:Int) else 2)=R:=⟨_,rfl⟩;simp only at HF;show Calls _ _ _ w fun e w'=>e=.returned (.int .i64 (if planB outer vs then 0 else 2))∧_
 rw [hR];rw [HF.out] at hR;have HR:=hide hR;clear hR HF;cases b1
 ·go_enter Tryz.func23,Tryz.ntmps23
  go_upto_region 1 with fail
  rw [HW1.out];go_wp2_with (first
   | (go_at_call 66;(refine (HL1.out w1 HP1.out).mono ?_);rintro e w2 ⟨rfl,hb2⟩;have HB2:=hide hb2;have hk:=HK1.out.below hb2 HK1.out.lt;clear kc fc zc;have kc:=hk.cell;have fc:=hk.frozen;have zc:=hk.lt;have HK2:=hide hk;have HP2:=hide (HP1.out.later hb2);clear hb2 hk)
   | fail)
  go_ret;exact ⟨by rw [← HR.out];rfl,btr HB1.out HB2.out⟩
 ·cases b2
  ·go_enter Tryz.func23,Tryz.ntmps23
   go_upto_region 1 with fail
   rw [HW1.out];go_wp2_with (first
    | (go_at_call 66;(refine (HL1.out w1 HP1.out).mono ?_);rintro e w2 ⟨rfl,hb2⟩;have HB2:=hide hb2;have hk:=HK1.out.below hb2 HK1.out.lt;clear kc fc zc;have kc:=hk.cell;have fc:=hk.frozen;have zc:=hk.lt;have HK2:=hide hk;have HP2:=hide (HP1.out.later hb2);clear hb2 hk)
    | (go_at_call 67;(refine (HL2.out w2 HP2.out).mono ?_);rintro e w3 ⟨rfl,hb2⟩;have HB3:=hide hb2;have hk:=HK2.out.below hb2 HK2.out.lt;clear kc fc zc;have kc:=hk.cell;have fc:=hk.frozen;have zc:=hk.lt;have HK3:=hide hk;have HP3:=hide (HP2.out.later hb2);clear hb2 hk)
    | fail)
   go_ret;exact ⟨by rw [← HR.out];rfl,btr (btr HB1.out HB2.out) HB3.out⟩
  ·have hl:=hll rfl;have ho:=hno rfl;have HL3:=hide (hL3 (by omega) (by omega));clear hL3;cases b3
   ·go_enter Tryz.func23,Tryz.ntmps23
    go_upto_region 1 with fail
    rw [HW1.out];go_wp2_with (first
     | (go_at_call 66;(refine (HL1.out w1 HP1.out).mono ?_);rintro e w2 ⟨rfl,hb2⟩;have HB2:=hide hb2;have hk:=HK1.out.below hb2 HK1.out.lt;clear kc fc zc;have kc:=hk.cell;have fc:=hk.frozen;have zc:=hk.lt;have HK2:=hide hk;have HP2:=hide (HP1.out.later hb2);clear hb2 hk)
     | (go_at_call 67;(refine (HL2.out w2 HP2.out).mono ?_);rintro e w3 ⟨rfl,hb2⟩;have HB3:=hide hb2;have hk:=HK2.out.below hb2 HK2.out.lt;clear kc fc zc;have kc:=hk.cell;have fc:=hk.frozen;have zc:=hk.lt;have HK3:=hide hk;have HP3:=hide (HP2.out.later hb2);clear hb2 hk)
     | (go_at_call 47;(refine (HL3.out w3 HP3.out).mono ?_);rintro e w4 ⟨rfl,hb2⟩;have HB4:=hide hb2;have hk:=HK3.out.below hb2 HK3.out.lt;clear kc fc zc;have kc:=hk.cell;have fc:=hk.frozen;have zc:=hk.lt;have HK4:=hide hk;have HP4:=hide (HP3.out.later hb2);clear hb2 hk)
     | fail)
    go_ret;exact ⟨by rw [← HR.out];rfl,btr (btr (btr HB1.out HB2.out) HB3.out) HB4.out⟩
   ·obtain ⟨g1,g2,g3,g4⟩:=hne rfl rfl rfl;have hno2:no≤128:=by have:=HP1.out.out.1;simp only at this;omega
    have HL4:=hide (hL4 g1 (by omega) ho.2.2.2.1 hno2);have HL5:=hide (hL5 g1 (by omega) g3 g4);have HL6:=hide (hL6 g2 (by omega) ho.1);clear hL4 hL5 hL6 g1 g2 g3 g4 hne hna;cases b4
    ·go_enter Tryz.func23,Tryz.ntmps23
     go_upto_region 1 with fail
     rw [HW1.out];go_wp2_with (first
      | (go_at_call 66;(refine (HL1.out w1 HP1.out).mono ?_);rintro e w2 ⟨rfl,hb2⟩;have HB2:=hide hb2;have hk:=HK1.out.below hb2 HK1.out.lt;clear kc fc zc;have kc:=hk.cell;have fc:=hk.frozen;have zc:=hk.lt;have HK2:=hide hk;have HP2:=hide (HP1.out.later hb2);clear hb2 hk)
      | (go_at_call 67;(refine (HL2.out w2 HP2.out).mono ?_);rintro e w3 ⟨rfl,hb2⟩;have HB3:=hide hb2;have hk:=HK2.out.below hb2 HK2.out.lt;clear kc fc zc;have kc:=hk.cell;have fc:=hk.frozen;have zc:=hk.lt;have HK3:=hide hk;have HP3:=hide (HP2.out.later hb2);clear hb2 hk)
      | (go_at_call 47;(refine (HL3.out w3 HP3.out).mono ?_);rintro e w4 ⟨rfl,hb2⟩;have HB4:=hide hb2;have hk:=HK3.out.below hb2 HK3.out.lt;clear kc fc zc;have kc:=hk.cell;have fc:=hk.frozen;have zc:=hk.lt;have HK4:=hide hk;have HP4:=hide (HP3.out.later hb2);clear hb2 hk)
      | (go_at_call 69;(refine (HL4.out w4 HP4.out).mono ?_);rintro e w5 ⟨rfl,hb2⟩;have HB5:=hide hb2;have hk:=HK4.out.below hb2 HK4.out.lt;clear kc fc zc;have kc:=hk.cell;have fc:=hk.frozen;have zc:=hk.lt;have HK5:=hide hk;have HP5:=hide (HP4.out.later hb2);clear hb2 hk)
      | fail)
     go_ret;exact ⟨by rw [← HR.out];rfl,btr (btr (btr (btr HB1.out HB2.out) HB3.out) HB4.out) HB5.out⟩
    ·cases b5
     ·go_enter Tryz.func23,Tryz.ntmps23
      go_upto_region 1 with fail
      rw [HW1.out];go_wp2_with (first
       | (go_at_call 66;(refine (HL1.out w1 HP1.out).mono ?_);rintro e w2 ⟨rfl,hb2⟩;have HB2:=hide hb2;have hk:=HK1.out.below hb2 HK1.out.lt;clear kc fc zc;have kc:=hk.cell;have fc:=hk.frozen;have zc:=hk.lt;have HK2:=hide hk;have HP2:=hide (HP1.out.later hb2);clear hb2 hk)
       | (go_at_call 67;(refine (HL2.out w2 HP2.out).mono ?_);rintro e w3 ⟨rfl,hb2⟩;have HB3:=hide hb2;have hk:=HK2.out.below hb2 HK2.out.lt;clear kc fc zc;have kc:=hk.cell;have fc:=hk.frozen;have zc:=hk.lt;have HK3:=hide hk;have HP3:=hide (HP2.out.later hb2);clear hb2 hk)
       | (go_at_call 47;(refine (HL3.out w3 HP3.out).mono ?_);rintro e w4 ⟨rfl,hb2⟩;have HB4:=hide hb2;have hk:=HK3.out.below hb2 HK3.out.lt;clear kc fc zc;have kc:=hk.cell;have fc:=hk.frozen;have zc:=hk.lt;have HK4:=hide hk;have HP4:=hide (HP3.out.later hb2);clear hb2 hk)
       | (go_at_call 69;(refine (HL4.out w4 HP4.out).mono ?_);rintro e w5 ⟨rfl,hb2⟩;have HB5:=hide hb2;have hk:=HK4.out.below hb2 HK4.out.lt;clear kc fc zc;have kc:=hk.cell;have fc:=hk.frozen;have zc:=hk.lt;have HK5:=hide hk;have HP5:=hide (HP4.out.later hb2);clear hb2 hk)
       | (go_at_call 70;(refine (HL5.out w5 HP5.out).mono ?_);rintro e w6 ⟨rfl,hb2⟩;have HB6:=hide hb2;have hk:=HK5.out.below hb2 HK5.out.lt;clear kc fc zc;have kc:=hk.cell;have fc:=hk.frozen;have zc:=hk.lt;have HK6:=hide hk;have HP6:=hide (HP5.out.later hb2);clear hb2 hk)
       | fail)
      go_ret;exact ⟨by rw [← HR.out];rfl,btr (btr (btr (btr (btr HB1.out HB2.out) HB3.out) HB4.out) HB5.out) HB6.out⟩
     ·cases b6
      all_goals go_enter Tryz.func23,Tryz.ntmps23
      all_goals go_upto_region 1 with fail
      all_goals rw [HW1.out]
      all_goals go_wp2_with (first
       | (go_at_call 66;(refine (HL1.out w1 HP1.out).mono ?_);rintro e w2 ⟨rfl,hb2⟩;have HB2:=hide hb2;have hk:=HK1.out.below hb2 HK1.out.lt;clear kc fc zc;have kc:=hk.cell;have fc:=hk.frozen;have zc:=hk.lt;have HK2:=hide hk;have HP2:=hide (HP1.out.later hb2);clear hb2 hk)
       | (go_at_call 67;(refine (HL2.out w2 HP2.out).mono ?_);rintro e w3 ⟨rfl,hb2⟩;have HB3:=hide hb2;have hk:=HK2.out.below hb2 HK2.out.lt;clear kc fc zc;have kc:=hk.cell;have fc:=hk.frozen;have zc:=hk.lt;have HK3:=hide hk;have HP3:=hide (HP2.out.later hb2);clear hb2 hk)
       | (go_at_call 47;(refine (HL3.out w3 HP3.out).mono ?_);rintro e w4 ⟨rfl,hb2⟩;have HB4:=hide hb2;have hk:=HK3.out.below hb2 HK3.out.lt;clear kc fc zc;have kc:=hk.cell;have fc:=hk.frozen;have zc:=hk.lt;have HK4:=hide hk;have HP4:=hide (HP3.out.later hb2);clear hb2 hk)
       | (go_at_call 69;(refine (HL4.out w4 HP4.out).mono ?_);rintro e w5 ⟨rfl,hb2⟩;have HB5:=hide hb2;have hk:=HK4.out.below hb2 HK4.out.lt;clear kc fc zc;have kc:=hk.cell;have fc:=hk.frozen;have zc:=hk.lt;have HK5:=hide hk;have HP5:=hide (HP4.out.later hb2);clear hb2 hk)
       | (go_at_call 70;(refine (HL5.out w5 HP5.out).mono ?_);rintro e w6 ⟨rfl,hb2⟩;have HB6:=hide hb2;have hk:=HK5.out.below hb2 HK5.out.lt;clear kc fc zc;have kc:=hk.cell;have fc:=hk.frozen;have zc:=hk.lt;have HK6:=hide hk;have HP6:=hide (HP5.out.later hb2);clear hb2 hk)
       | (go_at_call 71;(refine (HL6.out w6 HP6.out).mono ?_);rintro e w7 ⟨rfl,hb2⟩;have HB7:=hide hb2;have hk:=HK6.out.below hb2 HK6.out.lt;clear kc fc zc;have kc:=hk.cell;have fc:=hk.frozen;have zc:=hk.lt;clear hb2 hk)
       | fail)
      all_goals go_ret
      all_goals exact ⟨by rw [← HR.out];rfl,btr (btr (btr (btr (btr (btr HB1.out HB2.out) HB3.out) HB4.out) HB5.out) HB6.out) HB7.out⟩
end Go.Proofs.YtacinobmcgcccaaGreatDoor
/- The JSON reader: bytes and texts in memory. -/
namespace Go.Proofs.YtacinobmcgcccaaGreatDoor
open Go.RowKit
abbrev T8:TypeId:=5
abbrev TI:TypeId:=3
abbrev TSt:TypeId:=9
abbrev L8:Type:=List UInt8
def u8v (x:UInt8):Value:=.int .u8 (x.toNat:Int)
def cs8 (c:L8):List Value:=c.map u8v
theorem cs8_len (c:L8):(cs8 c).length=c.length:=List.length_map _
theorem cs8_get (c:L8) (j:Nat):(cs8 c)[j]? = c[j]?.map u8v:=List.getElem?_map
theorem cs8_append (a b:L8):cs8 (a++b)=cs8 a++cs8 b:=List.map_append
theorem cs8_one (c:L8):∀ u∈cs8 c,u.oneCell'=true:=by
 intro u hu;obtain ⟨x,_,rfl⟩:=List.mem_map.1 hu;rfl
def bstr (l:L8):Value:=.string ⟨l.toArray⟩
abbrev RB (w:World) (B:Nat) (A:Option Addr) (n:Nat) (l:L8):Prop:=Reads w B 1 A n (cs8 l)
theorem RB.len {w:World} {B:Nat} {A:Option Addr} {n:Nat} {l:L8} (h:RB w B A n l):l.length=n:=by have:=h.1;rw [cs8_len] at this;omega
theorem RB.at_ {w:World} {B:Nat} {A:Option Addr} {n:Nat} {l:L8} (h:RB w B A n l) {k:Nat} (hk:k<n) (hl:k<l.length):∃ ad,A=some ad∧ad.block<B∧w.cell? (ad.add k)=some (.int .u8 (l[k].toNat:Int)):=by
 obtain ⟨ad,u,e,hb,hu,hc⟩:=Reads.at_ h hk;rw [cs8_get,List.getElem?_eq_getElem hl] at hu;injection hu with hu;exact ⟨ad,e,hb,by rw [hc,← hu];rfl⟩
structure Fr (F:Nat→Prop) (w w':World):Prop where
 os:w'.os=w.os
 tape:w'.tape=w.tape
 output:w'.output=w.output
 size:w.heap.size≤w'.heap.size
 block:∀ j,j<w.heap.size→¬ F j→w'.heap[j]? = w.heap[j]?
theorem Fr.refl (F:Nat→Prop) (w:World):Fr F w w:=⟨rfl,rfl,rfl,Nat.le_refl _,fun _ _ _=>rfl⟩
theorem Fr.trans {F F':Nat→Prop} {a b c:World} (h:Fr F a b) (k:Fr F' b c) (hF:∀ j,j<a.heap.size→F' j→F j):Fr F a c:=
 ⟨k.os.trans h.os,k.tape.trans h.tape,k.output.trans h.output,Nat.le_trans h.size k.size,fun j hj hn=>(k.block j (nLl hj h.size) (fun h2=>hn (hF j hj h2))).trans (h.block j hj hn)⟩
theorem Fr.tr {F:Nat→Prop} {a b c:World} (h:Fr F a b) (k:Fr F b c):Fr F a c:=h.trans k (fun _ _ h=>h)
theorem Fr.of_below {F:Nat→Prop} {w w':World} (h:Below w.heap.size w w'):Fr F w w':=⟨h.os,h.tape,h.output,h.size,fun j hj _=>h.block j hj⟩
theorem Fr.low {F:Nat→Prop} {w w1 w':World} (h:Fr F w w1) (k:Below w1.heap.size w1 w'):Fr F w w':=h.tr (Fr.of_below k)
theorem Fr.of_grown {F:Nat→Prop} {w w':World} {r:Option Nat} (h:w.grownBy w' r) (hr:∀ k,r=some k→F k):Fr F w w':=
 ⟨h.os,h.tape,h.output,h.size,fun j hj hn=>h.block j hj (fun e=>hn (hr j e.symm))⟩
theorem Fr.below {F:Nat→Prop} {w w':World} (h:Fr F w w') {B:Nat} (hB:B≤w.heap.size) (hF:∀ j,F j→B≤j):Below B w w':=
 ⟨h.os,h.tape,h.output,h.size,fun j hj=>h.block j (by omega) (fun h2=>by have:=hF j h2;omega)⟩
theorem Fr.up {F F':Nat→Prop} {w w':World} (h:Fr F w w') (hF:∀ j,F j→F' j):Fr F' w w':=⟨h.os,h.tape,h.output,h.size,fun j hj hn=>h.block j hj (fun h=>hn (hF j h))⟩
theorem Fr.blk {F:Nat→Prop} {w w':World} {g:Nat} {t:TypeId} {cs:Array Value} (h:Fr F w w') (hb:Blk w g t cs) (hn:¬ F g):Blk w' g t cs:=(h.block g hb.lt hn).trans hb
theorem gby_set (W:World) (b i:Nat) (v:Value):W.grownBy (W.setCell ⟨b,i,none⟩ v) (some b):=by
 refine ⟨rfl,rfl,rfl,by simp,fun j hj hne=>Below.heap_setCell _ _ _ _ (fun e=>hne (by rw [e]))⟩
theorem gb_trans {a b c:World} {o:Option Nat} (h:a.grownBy b o) (k:b.grownBy c o):a.grownBy c o:=
 ⟨k.os.trans h.os,k.tape.trans h.tape,k.output.trans h.output,Nat.le_trans h.size k.size,fun j hj hne=>(k.block j (nLl hj h.size) hne).trans (h.block j hj hne)⟩
theorem al_below (w:World) (o:Obj):Below w.heap.size w (w.alloc o):=(Below.refl w.heap.size w).alloc (Nat.le_refl _) o
theorem below_drewN (w:World) (n:Nat):Below w.heap.size w (w.drewN n):=⟨rfl,rfl,rfl,Nat.le_refl _,fun _ _=>rfl⟩
theorem cell_heap {w w':World} {p:Addr} (h:w'.heap[p.block]? = w.heap[p.block]?):w'.cell? p=w.cell? p:=by unfold World.cell?;rw [h]
theorem wrap_small {x:Int} (h1:-9223372036854775808≤x) (h2:x<9223372036854775808):IntKind.i64.wrap x=x:=by
 simp only [IntKind.wrap,IntKind.bits,IntKind.signed];simp;omega
theorem Reads.far {w w':World} {k:Nat} {G:Nat→Prop} {A:Option Addr} {n:Nat} {xs:List Value} {B:Nat} (h:Reads w B k A n xs) (hB:B≤w.heap.size) (hf:Fr G w w') (hA:∀ ad,A=some ad→¬ G ad.block):Reads w' B k A n xs:=by
 refine ⟨h.1,fun h0=>?_⟩;obtain ⟨ad,e,hb,hc⟩:=h.2 h0;refine ⟨ad,e,hb,fun j u hu=>?_⟩;have e':(ad.add j).block=ad.block:=block_of_add ad j;exact (cell_heap (hf.block _ (by rw [e'];omega) (by rw [e'];exact hA ad e))).trans (hc j u hu)
theorem convert_any {w:World} {A:Option Addr} {n c:Nat} {l:L8} (h:RB w w.heap.size A n l):(convert 29 9 (.slice A n c)).run Tryz.prog w=.ok (bstr l) w:=by
 have hl:=h.len;rcases Nat.eq_zero_or_pos n with h0|h0
 ·subst h0;have:l=[]:=List.eq_nil_of_length_eq_zero hl;subst this;cases A with
  | none=>
    rw [run_convert_bytes_string w _ _ _ none 0 c Tryz.underlying29 Tryz.underlying5 Tryz.underlying9];simp [Conv.bytesToString];rfl
  | some a=>exact run_convert_bytes_back w 29 9 5 a c [] Tryz.underlying29 Tryz.underlying5 Tryz.underlying9 (fun j hj=>by simp at hj)
 ·obtain ⟨ad,rfl,hb,hc⟩:=RB.at_ h h0 (by omega);subst hl;refine run_convert_bytes_back w 29 9 5 ad c l Tryz.underlying29 Tryz.underlying5 Tryz.underlying9 (fun j hj=>?_);obtain ⟨ad',e,_,hc'⟩:=RB.at_ h hj hj;injection e with e;subst e;exact hc'
theorem own_slice {w:World} {base n k:Nat} {e:TypeId} {v:Value} {xs:List Value} (h:w.ownsRow base e k v n xs):∃ A c,v=.slice A n c∧n≤c:=by
 rcases h.2 with ⟨rfl,h0⟩|⟨g,cap,cur,rfl,_,_,hc,_⟩
 ·exact ⟨none,0,by rw [h0],by omega⟩
 ·exact ⟨_,_,rfl,hc⟩
theorem own_lt {w:World} {base n k:Nat} {e:TypeId} {v:Value} {xs:List Value} (h:w.ownsRow base e k v n xs):∀ g,v.ownBlock=some g→g<w.heap.size:=fun g hg=>(h.lt g hg).2
theorem row_keep {w w':World} {base:Nat} {e:TypeId} {size:Nat} {v:Value} {n:Nat} {xs:List Value} (h:w.ownsRow base e size v n xs) (hk:∀ g,v.ownBlock=some g→w'.heap[g]? = w.heap[g]?):w'.ownsRow base e size v n xs:=by
 refine ⟨h.1,?_⟩;rcases h.2 with hn|⟨g,cap,cur,rfl,hb,hh,r⟩
 ·exact .inl hn
 ·exact .inr ⟨g,cap,cur,rfl,hb,(hk g rfl).trans hh,r⟩
theorem row_fr {w w':World} {F:Nat→Prop} {base:Nat} {e:TypeId} {size:Nat} {v:Value} {n:Nat} {xs:List Value} (h:w.ownsRow base e size v n xs) (hf:Fr F w w') (hv:∀ g,v.ownBlock=some g→¬ F g):w'.ownsRow base e size v n xs:=
 row_keep h (fun g hg=>hf.block g (own_lt h g hg) (hv g hg))
theorem u8_info:(Tryz.prog.info? T8).map (fun i=>(i.zero,i.size,i.bytes))=some (some (.int .u8 0),1,1):=by kernel_rfl
abbrev TR:TypeId:=76
def isS (s cs:L8):Bool:=match s with
 | []=>false
 | c :: _=>cs.contains c
def isDg (c:UInt8):Bool:=decide (48≤c.toNat)&&decide (c.toNat≤57)
def digS (s:L8):Bool:=match s with
 | []=>false
 | c :: _=>isDg c
theorem drop_cons {b:L8} {i:Nat} (h:i<b.length):b.drop i=b[i] :: b.drop (i+1):=List.drop_eq_getElem_cons h
theorem isS_at {b cs:L8} {i:Nat} (h:i<b.length):isS (b.drop i) cs=cs.contains b[i]:=by rw [drop_cons h];rfl
theorem isS_end {b cs:L8} {i:Nat} (h:b.length≤i):isS (b.drop i) cs=false:=by rw [List.drop_of_length_le h];rfl
theorem digS_at {b:L8} {i:Nat} (h:i<b.length):digS (b.drop i)=isDg b[i]:=by rw [drop_cons h];rfl
theorem digS_end {b:L8} {i:Nat} (h:b.length≤i):digS (b.drop i)=false:=by rw [List.drop_of_length_le h];rfl
structure Rd (w:World) (rb:Nat) (A:Option Addr) (n c:Nat) (b:L8) (at_ k ta:Nat) (tx:L8):Prop where
 blk:Blk w rb TR #[.slice A n c,.int .i64 (at_:Int),.int .i64 (k:Int),.int .i64 (ta:Int),.string ⟨tx.toArray⟩]
 rd:RB w w.heap.size A n b
 hc:n≤c
 far:∀ ad,A=some ad→ad.block≠rb
 hn:n≤262144
 ha:at_≤n
section
variable {w w':World} {rb:Nat} {A:Option Addr} {n c:Nat} {b:L8} {at_ k ta:Nat} {tx:L8}
theorem Rd.len (h:Rd w rb A n c b at_ k ta tx):b.length=n:=h.rd.len
theorem Rd.below (h:Rd w rb A n c b at_ k ta tx) (hb:Below w.heap.size w w'):Rd w' rb A n c b at_ k ta tx:=
 { h with blk:=h.blk.below hb h.blk.lt,rd:=(h.rd.below hb).more hb.size }
theorem Rd.fr {F:Nat→Prop} (h:Rd w rb A n c b at_ k ta tx) (hf:Fr F w w') (hr:¬ F rb) (hA:∀ ad,A=some ad→¬ F ad.block):Rd w' rb A n c b at_ k ta tx:=
 { h with blk:=hf.blk h.blk hr,rd:=(h.rd.far (Nat.le_refl _) hf hA).more hf.size }
theorem Rd.own {at' k' ta':Nat} {tx':L8} (h:Rd w rb A n c b at_ k ta tx) (hg:w.grownBy w' (some rb)) (hB:Blk w' rb TR #[.slice A n c,.int .i64 (at':Int),.int .i64 (k':Int),.int .i64 (ta':Int),.string ⟨tx'.toArray⟩]) (ha:at'≤n):Rd w' rb A n c b at' k' ta' tx':=
 { h with blk:=hB,rd:=(h.rd.far (Nat.le_refl _) (Fr.of_grown (F:=fun j=>j=rb) hg (fun k e=>by injection e with e;exact e.symm)) (fun ad e=>h.far ad e)).more hg.size,ha:=ha }
theorem index_ge (l:L8) (c:UInt8):decide (0≤Lib.indexByte l c)=l.contains c:=by
 induction l with
 | nil=>rfl
 | cons x l ih=>
   have hg:=Lib.indexByte_ge l c;rw [List.contains_cons,← ih];rw [show Lib.indexByte (x :: l) c=if x == c then 0 else if Lib.indexByte l c == -1 then -1 else Lib.indexByte l c+1 from rfl];by_cases h:x=c
   ·subst h;simp
   ·have h1:(x == c)=false:=by simpa using h
    have h2:(c == x)=false:=by simpa using fun e:c=x=>h e.symm
    rw [h1,h2];simp only [Bool.false_eq_true,if_false,Bool.false_or];by_cases h0:Lib.indexByte l c = -1
    ·rw [h0];decide
    ·have h3:(Lib.indexByte l c == -1)=false:=by simpa using h0
     rw [h3];simp only [Bool.false_eq_true,if_false];simp;omega
theorem byte_back (x:UInt8):((x.toNat:Int).toNat).toUInt8=x:=by simp
set_option maxRecDepth 100000 in
theorem is_any (cs:L8) (i:Nat) (h:Rd w rb A n c b at_ k ta tx) :
 Calls Tryz.prog 74 #[.pointer (some ⟨rb,0,none⟩),.int .i64 (i:Int),.string ⟨cs.toArray⟩] w fun e w'=>e=.returned (.bool (isS (b.drop i) cs))∧Below w.heap.size w w':=by
 obtain ⟨so,hso⟩:∃ so:ByteArray,⟨cs.toArray⟩=so:=⟨_,rfl⟩;have hcs:cs=so.data.toList:=by rw [← hso]
 rw [hso,hcs];clear hso hcs;have H:=hide h;have HL:=hide h.len;have kr:=h.blk.cell;have fr:=h.blk.frozen;have zr:=h.blk.lt;by_cases hi:i<n
 ·obtain ⟨ad,rfl,had,hc⟩:=RB.at_ h.rd hi (by rw [h.len];exact hi);have HI:=hide (isS_at (cs:=so.data.toList) (show i<b.length by rw [h.len];exact hi));obtain ⟨x,hx⟩:∃ x,b[i]'(by rw [h.len];exact hi)=x:=⟨_,rfl⟩;rw [hx] at hc HI;clear h hx
  go_enter Tryz.func74,Tryz.ntmps74
  go_wp2_with (go_at_call 124;(refine (Tryz.strings_IndexByte so _ _).mono ?_);rintro e w1 ⟨rfl,rfl⟩)
  go_ret;exact ⟨by rw [HI.out,← index_ge];rfl,Below.refl _ _⟩
 ·have HI:=hide (isS_end (cs:=so.data.toList) (show b.length≤i by rw [h.len];omega));clear h
  go_enter Tryz.func74,Tryz.ntmps74
  go_wp2_with fail
  go_ret;exact ⟨by rw [HI.out];rfl,Below.refl _ _⟩
set_option maxRecDepth 100000 in
theorem digit_any (i:Nat) (h:Rd w rb A n c b at_ k ta tx) :
 Calls Tryz.prog 76 #[.pointer (some ⟨rb,0,none⟩),.int .i64 (i:Int)] w fun e w'=>e=.returned (.bool (digS (b.drop i)))∧Below w.heap.size w w':=by
 have kr:=h.blk.cell;have fr:=h.blk.frozen;have zr:=h.blk.lt;by_cases hi:i<n
 ·obtain ⟨ad,rfl,had,hc⟩:=RB.at_ h.rd hi (by rw [h.len];exact hi);have HI:=hide (digS_at (show i<b.length by rw [h.len];exact hi));obtain ⟨x,hx⟩:∃ x,b[i]'(by rw [h.len];exact hi)=x:=⟨_,rfl⟩;rw [hx] at hc HI;clear h hx;by_cases h1:48≤x.toNat
  ·have d1:decide ((48:Int)≤(x.toNat:Int))=true:=by simp;omega
   go_enter Tryz.func76,Tryz.ntmps76
   go_wp2_with fail
   go_ret;refine ⟨?_,Below.refl _ _⟩;rw [HI.out];unfold isDg;have d2:decide (48≤x.toNat)=true:=by simpa using h1
   rw [d2];simp;omega
  ·have d1:decide ((48:Int)≤(x.toNat:Int))=false:=by simp;omega
   go_enter Tryz.func76,Tryz.ntmps76
   go_wp2_with fail
   go_ret;refine ⟨?_,Below.refl _ _⟩;rw [HI.out];unfold isDg;have d2:decide (48≤x.toNat)=false:=by simpa using h1
   rw [d2];simp
 ·have HI:=hide (digS_end (show b.length≤i by rw [h.len];omega));clear h
  go_enter Tryz.func76,Tryz.ntmps76
  go_wp2_with fail
  go_ret;exact ⟨by rw [HI.out];rfl,Below.refl _ _⟩
def flt (ta:Nat) (e:Nat):List PanicEntry:=[{ v:=.iface 70 (.agg #[.int .i64 (ta:Int),.int .i64 (e:Int)]),recovered:=false }]
theorem fail_any (e0:Nat) (h:Rd w rb A n c b at_ k ta tx) :
 Calls Tryz.prog 35 #[.pointer (some ⟨rb,0,none⟩),.int .i64 (e0:Int)] w fun e w'=>e=.panicked (flt ta e0)∧Below w.heap.size w w':=by
 have kr:=h.blk.cell;have fr:=h.blk.frozen;have zr:=h.blk.lt;clear h
 go_enter Tryz.func35,Tryz.ntmps35
 go_wp2_with fail
 exact ⟨rfl,rfl,Below.refl _ _⟩
def runDg (s:L8):Nat:=(s.takeWhile isDg).length
theorem run_le (s:L8):runDg s≤s.length:=(List.takeWhile_sublist _).length_le
theorem runDg_cons (x:UInt8) (s:L8):runDg (x :: s)=if isDg x then runDg s+1 else 0:=by
 unfold runDg;rw [List.takeWhile_cons];split <;> rfl
theorem runDg_at (i:Nat) (h:i<b.length):runDg (b.drop i)=if isDg b[i] then runDg (b.drop (i+1))+1 else 0:=by rw [drop_cons h,runDg_cons]
set_option maxRecDepth 100000 in
set_option maxHeartbeats 2000000 in
theorem digits_ok (i:Nat) (h:Rd w rb A n c b at_ k ta tx) (hd:digS (b.drop i)=true) :
 Calls Tryz.prog 129 #[.pointer (some ⟨rb,0,none⟩),.int .i64 (i:Int)] w fun e w'=>e=.returned (.int .i64 ((i+runDg (b.drop i):Nat):Int))∧Below w.heap.size w w':=by
 have H:=hide h;have HD:=hide hd;have HL:=hide h.len;have hn:=h.hn;have hi:i<n:=by
  rcases Nat.lt_or_ge i n with h1|h1
  ·exact h1
  ·rw [digS_end (by rw [h.len];exact h1)] at hd;cases hd
 clear h hd
 go_enter Tryz.func129,Tryz.ntmps129
 go_wp2_with (go_at_call 76;(refine (digit_any i H.out).mono ?_);rw [HD.out];rintro e w1 ⟨rfl,hb⟩;have HB1:=hide hb;clear hb)
 go_loopw [1] (fun iv wr=>∃ j:Nat,i≤j∧j≤n∧iv=.int .i64 (j:Int)∧Hid (Below w.heap.size w wr)∧Hid (j+runDg (b.drop j)=i+runDg (b.drop i))) (fun iv _=>n - (intOf iv).toNat)
 case atStart=>exact ⟨i,by omega,by omega,rfl,HB1,hide rfl⟩
 case round=>
  obtain ⟨j,hij,hj,rfl,HB,HR⟩:=hrel;cases hd:digS (b.drop j)
  ·have HDJ:=hide hd;have he:runDg (b.drop j)=0:=by
    rcases Nat.lt_or_ge j b.length with h1|h1
    ·rw [runDg_at j h1];rw [digS_at h1] at hd;rw [hd];rfl
    ·rw [List.drop_of_length_le h1];rfl
   have HJE:=hide (show j=i+runDg (b.drop i) by have:=HR.out;omega);clear hd he;go_wp2_with (go_at_call 76;(refine (digit_any j (H.out.below HB.out)).mono ?_);rw [HDJ.out];rintro e w2 ⟨rfl,hb⟩;have HB2:=hide (HB.out.trans (hb.mono HB.out.size));clear hb)
   go_ret;exact ⟨by rw [← HJE.out];rfl,HB2.out⟩
  ·have HDJ:=hide hd;have hjn:j<n:=by
    rcases Nat.lt_or_ge j n with h1|h1
    ·exact h1
    ·rw [digS_end (by rw [HL.out];exact h1)] at hd;cases hd
   have hjb:j<b.length:=by rw [HL.out];exact hjn
   have he:runDg (b.drop j)=runDg (b.drop (j+1))+1:=by
    rw [runDg_at j hjb];rw [digS_at hjb] at hd;rw [hd];rfl
   have HRN:=hide (show j+1+runDg (b.drop (j+1))=i+runDg (b.drop i) by have:=HR.out;omega);clear hd he hjb;go_wp2_with (go_at_call 76;(refine (digit_any j (H.out.below HB.out)).mono ?_);rw [HDJ.out];rintro e w2 ⟨rfl,hb⟩;have HB2:=hide (HB.out.trans (hb.mono HB.out.size));clear hb)
   go_roundw
   case rel=>exact ⟨j+1,by omega,by omega,by go_num,HB2,HRN⟩
   case measure=>simp [intOf];omega
set_option maxRecDepth 100000 in
theorem digits_bad (i:Nat) (h:Rd w rb A n c b at_ k ta tx) (hd:digS (b.drop i)=false) :
 Calls Tryz.prog 129 #[.pointer (some ⟨rb,0,none⟩),.int .i64 (i:Int)] w fun e w'=>e=.panicked (flt ta 11)∧Below w.heap.size w w':=by
 have H:=hide h;have HD:=hide hd;clear h hd
 go_enter Tryz.func129,Tryz.ntmps129
 go_wp2_with (first|(go_at_call 35;(refine (fail_any 11 (H.out.below HB1.out)).mono ?_);rintro e w2 ⟨rfl,hb⟩;have HB2:=hide (HB1.out.trans (hb.mono HB1.out.size));clear hb)|(go_at_call 76;(refine (digit_any i H.out).mono ?_);rw [HD.out];rintro e w1 ⟨rfl,hb⟩;have HB1:=hide hb;clear hb))
 exact ⟨rfl,rfl,HB2.out⟩
end
end Go.Proofs.YtacinobmcgcccaaGreatDoor
