/- The reference: Check of plans. -/
import Derived.Test.YtacinobmcgcccaaGreatDoorK39
import Derived.Test.YtacinobmcgcccaaGreatDoorK38
import Derived.Test.YtacinobmcgcccaaGreatDoorK17
import Derived.Test.YtacinobmcgcccaaGreatDoorK33
import Derived.Test.YtacinobmcgcccaaGreatDoorK30
set_option linter.unusedSimpArgs false
set_option linter.unusedVariables false
namespace Go.Proofs.YtacinobmcgcccaaGreatDoor
open Go.RowKit Go.Shelf
set_option maxRecDepth 100000 in
set_option maxHeartbeats 8000000 in
theorem rplan_any (P:PlV) (w:World) (hP:PlOk w w.heap.size P) :
 Calls Tryz.prog 18 #[P.val] w fun e w'=>e=.returned (.bool (planB P.outer P.vs))∧Below w.heap.size w w':=by
 have HF1:=hide (fun w0 (h:PlOk w0 w0.heap.size P)=>rfine_any P w0 h);have HN1:=hide (fun w0 (h:PlOk w0 w0.heap.size P)=>rnormed_any P.outer P.Ao P.no P.co w0 h.out h.osm);obtain ⟨w1,hw1⟩:∃ q,w.alloc (.cells #[.slice P.Ao P.no P.co,.slice P.A P.n P.c] 26)=q:=⟨_,rfl⟩;have HB1:=hide (show Below w.heap.size w w1 from hw1 ▸ bal bR _);have hk1:Blk w1 w.heap.size 26 #[.slice P.Ao P.no P.co,.slice P.A P.n P.c]:=hw1 ▸ Blk.new _ _ _;have HK1:=hide hk1;have HP1:=hide (hP.later HB1.out);have hF:planB P.outer P.vs=(listedB P.outer (P.vs.map Pv.pc)&&(normedB P.outer&&((P.vs.all fun v=>normedB v.pc.ring)&&(matchedB P.outer (edgesOf P.vs)&&(cleanB (edgesOf P.vs)&&wholeB P.outer P.vs))))):=rfl;obtain ⟨Ao,no,co,outer,A,n,c,vs⟩:=P;show Calls Tryz.prog 18 #[.agg #[.slice Ao no co,.slice A n c]] w _;simp only at hw1 HF1 HN1 HK1 hF;obtain ⟨b1,h1⟩:∃ q,listedB outer (vs.map Pv.pc)=q:=⟨_,rfl⟩;obtain ⟨b2,h2⟩:∃ q,normedB outer=q:=⟨_,rfl⟩;rw [h1] at HF1;rw [h2] at HN1;rw [h1,h2] at hF;have hll:=@listed_len outer (vs.map Pv.pc);have hno:=@normed_sound outer;rw [h1,List.length_map] at hll;rw [h2] at hno;have HW1:=hide hw1;have kc:=HK1.out.cell;have fc:=HK1.out.frozen;have zc:=HK1.out.lt;obtain ⟨Z,hZ⟩:∃ Z,planB outer vs=Z:=⟨_,rfl⟩;simp only [hZ];rw [hZ] at hF;have HZ:=hide hF;clear hw1 hk1 hP h1 h2 hZ hF;cases b1
 ·go_enter Tryz.func18,Tryz.ntmps18
  go_upto_region 1 with fail
  rw [HW1.out];go_wp2_with (go_at_call 55;go_loud (refine (HF1.out w1 HP1.out).mono ?_);rintro e w2 ⟨rfl,hb2⟩;have HB2:=hide hb2;clear hb2)
  go_ret;exact ⟨by rw [HZ.out];rfl,btr HB1.out HB2.out⟩
 ·cases b2
  ·go_enter Tryz.func18,Tryz.ntmps18
   go_upto_region 1 with fail
   rw [HW1.out];go_wp2_with (first
    | (go_at_call 55;go_loud (refine (HF1.out w1 HP1.out).mono ?_);rintro e w2 ⟨rfl,hb2⟩;have HB2:=hide hb2;have hk:=HK1.out.below hb2 HK1.out.lt;clear kc fc zc;have kc:=hk.cell;have fc:=hk.frozen;have zc:=hk.lt;have HP2:=hide (HP1.out.later hb2);clear hb2 hk)
    | (go_at_call 56;go_loud (refine (HN1.out w2 HP2.out).mono ?_);rintro e w3 ⟨rfl,hb3⟩;have HB3:=hide hb3;clear hb3))
   go_ret;exact ⟨by rw [HZ.out];rfl,btr (btr HB1.out HB2.out) HB3.out⟩
  ·have hl:=hll rfl;have ho:=hno rfl;clear hll hno;have hno2:no≤128:=by have:=HP1.out.out.1;simp only at this;omega
   have hvl:vs.length=n:=HP1.out.ps.sl.1;have hn64:n≤64:=by omega
   have HVL:=hide hvl;have HO:=hide ho;clear hl ho hvl
   go_enter Tryz.func18,Tryz.ntmps18
   refine id (show Code.wp Tryz.prog (BK 0) _ _ _ from ?_);rw [show BK 0=Code.seq (CK 0) (Code.seq (CK 1) (Code.seq (CK 2) (Code.seq (CK 3) (Code.seq (CK 4) (Code.seq (CK 5) (Code.seq (CK 6) (Code.seq (CK 7) (BK 8)))))))) from rfl]
   conv=>arg 2;arg 1;whnf
   conv=>arg 2;arg 2;arg 1;whnf
   conv=>arg 2;arg 2;arg 2;arg 1;whnf
   conv=>arg 2;arg 2;arg 2;arg 2;arg 1;whnf
   conv=>arg 2;arg 2;arg 2;arg 2;arg 2;arg 1;whnf
   conv=>arg 2;arg 2;arg 2;arg 2;arg 2;arg 2;arg 1;whnf
   conv=>arg 2;arg 2;arg 2;arg 2;arg 2;arg 2;arg 2;arg 1;whnf
   conv=>arg 2;arg 2;arg 2;arg 2;arg 2;arg 2;arg 2;arg 2;arg 1;whnf
   go_upto_region 1 with fail
   rw [HW1.out];go_upto_region 3 with (first
    | (go_at_call 55;go_loud (refine (HF1.out w1 HP1.out).mono ?_);rintro e w2 ⟨rfl,hb2⟩;have HB2:=hide hb2;have hk:=HK1.out.below hb2 HK1.out.lt;have HK2:=hide hk;clear kc fc zc;have kc:=hk.cell;have fc:=hk.frozen;have zc:=hk.lt;have HP2:=hide (HP1.out.later hb2);clear hb2 hk)
    | (go_at_call 56;go_loud (refine (HN1.out w2 HP2.out).mono ?_);rintro e w3 ⟨rfl,hb3⟩;have HB3:=hide (btr (btr HB1.out HB2.out) hb3);have HK3:=hide (HK2.out.below hb3 HK2.out.lt);have HP3:=hide (HP2.out.later hb3);clear kc fc zc;clear hb3))
   obtain ⟨w4,hw4⟩:∃ q,w3.alloc (.cells #[.int .i64 0,.int .u64 0] TInt)=q:=⟨_,rfl⟩;obtain ⟨sb,hsb⟩:∃ g,w3.heap.size=g:=⟨_,rfl⟩;have HB4:=hide (show Below w3.heap.size w3 w4 from hw4 ▸ bal bR _);have HS4:=hide (show Blk w4 sb TInt #[.int .i64 0,.int .u64 0] from hsb ▸ hw4 ▸ Blk.new _ _ _);have HW4:=hide hw4;have HSB:=hide hsb;clear hw4 hsb;go_upto_region 4 with fail
   rw [HW4.out,HSB.out];go_wp2_with fail
   go_loopw [4] (fun v4 wr=>∃ (k:Nat),v4=.int .i64 (k:Int)∧k≤n∧Hid (Below w3.heap.size w3 wr∧Blk wr sb TInt #[.int .i64 (two (areasV (vs.take k))).hi,.int .u64 (two (areasV (vs.take k))).lo] ∧ ∀ v∈vs.take k,normedB v.pc.ring=true)) (fun v _=>n - (intOf v).toNat)
   case atStart=>exact ⟨0,rfl,by omega,hide ⟨HB4.out,HS4.out,by simp⟩⟩
   case round=>
    obtain ⟨k,rfl,hkn,HI⟩:=hrel;have hkb:=HK3.out.below HI.out.1 HK3.out.lt;have HKB:=hide hkb;have kc:=hkb.cell;have fc:=hkb.frozen;have zc:=hkb.lt;clear hkb;by_cases hlt:k<n
    ·have hltI:(k:Int)<n:=by omega
     have hkv:k<vs.length:=by rw [HVL.out];exact hlt
     obtain ⟨b,o,hA,hb,hcs⟩:=HP3.out.ps.at (show 0<n by omega);simp only at hA;subst hA;obtain ⟨c0,c1,c2⟩:=hcs k hkv;have hok:=HP3.out.ps.ok _ (List.getElem_mem hkv);have hmem:=List.getElem_mem hkv;have hTK:=List.take_succ_eq_append_getElem hkv;obtain ⟨v,hv⟩:∃ v,vs[k]=v:=⟨_,rfl⟩;rw [hv] at c1 hok hmem hTK;obtain ⟨⟨id,ring,owner⟩,Av,nv,cv⟩:=v;simp only at c1;have c1:=(HI.out.1.cell (p:=⟨b,o+k * 3+1,none⟩) hb).trans c1;have hbr:b<wr.heap.size:=nLl hb HI.out.1.size;have HPR:=hide (show PR wr wr.heap.size Av nv ring from (hok.pr.below HI.out.1).more HI.out.1.size);have hnv:nv≤8796093022208:=hok.small;have HNR:=hide (rnormed_any ring Av nv cv wr HPR.out hnv);have HTK:=hide hTK;have HMM:=hide hmem;obtain ⟨bv,hbv⟩:∃ q,normedB ring=q:=⟨_,rfl⟩;rw [hbv] at HNR;have HBV:=hide hbv;clear hcs hok hmem hTK hv c0 c2 hbv;cases bv
     ·have HF:=hide (show Z=false from by
       rw [HZ.out,show (vs.all fun v=>normedB v.pc.ring)=false from by
        rw [List.all_eq_false];exact ⟨_,HMM.out,by show ¬ normedB ring=true;rw [HBV.out];simp⟩]
       rfl)
      go_wp2_with (go_at_call 56;go_loud (refine HNR.out.mono ?_);rintro e w5 ⟨rfl,hb5⟩;have HB5:=hide (HI.out.1.trans (hb5.mono HI.out.1.size));clear hb5)
      go_ret;exact ⟨by rw [HF.out];rfl,btr HB3.out HB5.out⟩
     ·have hsn:=normed_sound HBV.out;have hai:areaI ring=two (areaV ring):=by unfold areaI;rw [if_pos hsn.1]
      have hARR:=fun w0 (h:PR w0 w0.heap.size Av nv ring)=>rarea_any ring Av nv cv w0 h hnv
      rw [hsn.1,hai] at hARR;have hall:∀ v∈vs.take (k+1),normedB v.pc.ring=true:=fun v hv=>by
       rw [HTK.out,List.mem_append,List.mem_singleton] at hv;rcases hv with hv|rfl
       ·exact HI.out.2.2 v hv
       ·exact HBV.out
      have ht:(vs.take (k+1)).length≤64:=by rw [List.length_take];omega
      have ht0:(vs.take k).length≤64:=by rw [List.length_take];omega
      have hi0:=(areas_bound (vs:=vs.take k) (fun v hv=>(normed_sound (HI.out.2.2 v hv)).1) ht0).1;have hi1:=(areas_bound (vs:=vs.take (k+1)) (fun v hv=>(normed_sound (hall v hv)).1) ht).1;have hab:=area_bound hsn.1;have hst:areasV (vs.take (k+1))=areasV (vs.take k)+areaV ring:=by
       unfold areasV;rw [HTK.out,List.map_append,List.sum_append];simp
      obtain ⟨S0,hS0⟩:∃ S,two (areasV (vs.take k))=S:=⟨_,rfl⟩;obtain ⟨S1,hS1⟩:∃ S,two (areasV (vs.take (k+1)))=S:=⟨_,rfl⟩;obtain ⟨V,hV⟩:∃ V,two (areaV ring)=V:=⟨_,rfl⟩;have HAD:=hide (fun w0=>by
       have h:=radd_any S0 V w0 (hS0 ▸ two_ok hi0) (hV ▸ two_ok (by unfold inr;omega));rw [← hS0,← hV,two_num,two_num,← hst,(clamp_yes hi1).1,(clamp_yes hi1).2,hS1,hS0,hV] at h;exact h)
      rw [hV] at hARR;have HARR:=hide hARR;have HALL:=hide hall;have HS1:=hide hS1;have hbs:=HI.out.2.1;rw [hS0] at hbs;have HBS:=hide hbs;have HC:=hide (show ∀ w',Below wr.heap.size wr w'→w'.cell? ⟨b,o+k * 3+1,none⟩=some (.slice Av nv cv)∧b<w'.heap.size from fun w' h=>⟨(h.cell (p:=⟨b,o+k * 3+1,none⟩) hbr).trans c1,nLl hbr h.size⟩);clear hsn hai hARR hall ht ht0 hi0 hi1 hab hst hS0 hS1 hV hbs;go_wp2_with (first
       | (go_at_call 56;go_loud (refine HNR.out.mono ?_);rintro e w5 ⟨rfl,hb5⟩;have HB5:=hide hb5;have HPR5:=hide (HPR.out.later hb5);have hk:=HKB.out.below hb5 HKB.out.lt;clear kc fc zc;have kc:=hk.cell;have fc:=hk.frozen;have zc:=hk.lt;have hs:=HBS.out.below hb5 HBS.out.lt;have HBS5:=hide hs;(obtain ⟨x1,x2⟩:=HC.out _ hb5);clear hb5 hk hs)
       | (go_at_call 36;go_loud (refine (HARR.out w5 HPR5.out).mono ?_);rintro e w6 ⟨rfl,hb6⟩;have HB6:=hide (HB5.out.trans (hb6.mono HB5.out.size));have hX:Below w6.heap.size w6 (w6.alloc (.cells #[.int .i64 V.hi,.int .u64 V.lo] TInt)):=bal bR _;have hs6:=HBS5.out.below hb6 HBS5.out.lt;have hs:=hs6.below hX hs6.lt;have HBS6:=hide hs;have s1:=hs.cell;have s2:=hs.frozen;have s3:=hs.lt;have HX6:=hide (HB6.out.trans (hX.mono HB6.out.size));clear hb6 hs hs6 hX)
       | (go_at_call 57;go_loud (refine (HAD.out _).mono ?_);rintro e w7 ⟨rfl,hb7⟩;have hs:=HBS6.out.below hb7 HBS6.out.lt;have HBS7:=hide hs;clear s1 s2 s3;have s1:=hs.cell;have s2:=hs.frozen;have s3:=hs.lt;have HB7:=hide (HX6.out.trans (hb7.mono HX6.out.size));clear hb7 hs))
      go_roundw
      case rel=>
       refine ⟨k+1,by go_num,by omega,hide ⟨?_,?_,HALL.out⟩⟩
       ·exact ((HI.out.1.trans (HB7.out.mono HI.out.1.size)).setCell (p:=⟨sb,0,none⟩) (Nat.le_of_eq HSB.out) _).setCell (p:=⟨sb,1,none⟩) (Nat.le_of_eq HSB.out) _
       ·rw [HS1.out];exact (HBS7.out.set_ 0 _).set_ 1 _
      case measure=>simp [intOf];omega
    ·have hltI:¬ (k:Int)<n:=by omega
     obtain rfl:k=n:=by omega
     have hall:∀ v∈vs,normedB v.pc.ring=true:=fun v hv=>HI.out.2.2 v (by rw [List.take_of_length_le (by rw [HVL.out];exact Nat.le_refl _)];exact hv)
     have hbs:=HI.out.2.1;rw [List.take_of_length_le (by rw [HVL.out];exact Nat.le_refl _)] at hbs;have hib:=(areas_bound (vs:=vs) (fun v hv=>(normed_sound (hall v hv)).1) (by rw [HVL.out];exact hn64)).1;have hao:areaI outer=two (areaV outer):=by unfold areaI;rw [if_pos HO.out.1]
     have hob:=area_bound HO.out.1;have hAR:=fun w0 (h:PR w0 w0.heap.size Ao no outer)=>rarea_any outer Ao no co w0 h (by omega)
     rw [HO.out.1,hao] at hAR;have hi2:=fun w1=>eq_i2 (two (areasV vs)).hi (two (areasV vs)).lo (two (areaV outer)).hi (two (areaV outer)).lo w1
     rw [two_eq hib (by unfold inr;omega)] at hi2;obtain ⟨bw,hbw⟩:∃ q,decide (areasV vs=areaV outer)=q:=⟨_,rfl⟩;rw [hbw] at hi2;have hgt:Tryz.prog.eqGuardType Tryz.prog.depth TInt=false:=by kernel_rfl
     have HZ2:=hide (show Z=(matchedB outer (edgesOf vs)&&(cleanB (edgesOf vs)&&bw)) from by
      rw [HZ.out,show (vs.all fun v=>normedB v.pc.ring)=true from List.all_eq_true.2 fun v hv=>hall v hv,show wholeB outer vs=bw from hbw];simp)
     obtain ⟨S,hS⟩:∃ S,two (areasV vs)=S:=⟨_,rfl⟩;obtain ⟨T,hT⟩:∃ T,two (areaV outer)=T:=⟨_,rfl⟩;rw [hS] at hi2 hbs;rw [hT] at hi2 hAR;have HAR:=hide hAR;have HALL:=hide hall;have HBS:=hide hbs;have HBI:=hide HI.out.1;have HPI:=hide (HP3.out.later HI.out.1);clear hall hbs hib hao hob hAR hbw hS hT HI;go_upto_region 12 with (go_at_call 36;go_loud (refine (HAR.out wr HPI.out.out).mono ?_);rintro e w5 ⟨rfl,hb5⟩;have HB5:=hide hb5;have hk:=HKB.out.below hb5 HKB.out.lt;have hs:=HBS.out.below hb5 HBS.out.lt;have HK5:=hide hk;have HS5:=hide hs;have HP5:=hide (HPI.out.later hb5);clear hb5 hk hs)
     obtain ⟨w6,hw6⟩:∃ q,w5.alloc (.cells #[.int .i64 T.hi,.int .u64 T.lo] TInt)=q:=⟨_,rfl⟩;have hb6:Below w5.heap.size w5 w6:=hw6 ▸ bal bR _;have hk6:Blk w6 w5.heap.size TInt #[.int .i64 T.hi,.int .u64 T.lo]:=hw6 ▸ Blk.new _ _ _;have hs6:=HS5.out.below hb6 HS5.out.lt;have hp6:=HK5.out.below hb6 HK5.out.lt;have HP6:=hide (HP5.out.later hb6);have HB6:=hide (HBI.out.trans ((btr HB5.out hb6).mono HBI.out.size));rw [hw6];have HW6:=hide hw6;clear hw6 hb6 kc fc zc;have k6:=hk6.cell;have z6:=hk6.lt;have s6:=hs6.cell;have zs:=hs6.lt;have kc:=hp6.cell;have zc:=hp6.lt;have HKP:=hide hp6;clear hk6 hs6 hp6;cases bw
     ·have HF:=hide (show Z=false from by rw [HZ2.out];simp);go_wp2_with fail
      go_ret;exact ⟨by rw [HF.out];rfl,btr HB3.out HB6.out⟩
     ·have HF:=hide (show (matchedB outer (edgesOf vs)&&cleanB (edgesOf vs))=Z from by rw [HZ2.out];simp);have HAL:=hide (rall_any vs A k c w6 HP6.out.ps (fun v hv=>by have h1:=(HP6.out.ps.ok v hv).pr.1;have h2:=(normed_sound (HALL.out v hv)).2.2.1;omega) hn64);have HGD:=hide (show ∀ e∈edgesOf vs,e.good from by
       intro e he;obtain ⟨v,hv,he⟩:=List.mem_flatMap.1 he;have hs:=normed_sound (HALL.out v hv);exact ⟨good_mem hs.2.2.2.1 (edge_good hs.2.2.2.1 he).1,good_mem hs.2.2.2.1 (edge_good hs.2.2.2.1 he).2⟩)
      have hNl:(edgesOf vs).length≤1000000:=by
       have h:=edgesOf_len (vs:=vs) fun v hv=>(normed_sound (HALL.out v hv)).2.2.1
       rw [HVL.out] at h;omega
      obtain ⟨N,hN⟩:∃ N,(edgesOf vs).length=N:=⟨_,rfl⟩;have HNL:=hide hN;rw [hN] at HAL hNl;clear hN;go_wp2_with (first
       | (go_at_call 58;go_loud (refine HAL.out.mono ?_);rintro e w7 ⟨v,rfl,hrow,hb7⟩;(obtain ⟨Al,cl,rfl,hcl⟩:=own_sl hrow);have HER:=hide (show ER w7 w7.heap.size Al N (edgesOf vs) from Sl.own HNL.out rfl rfl hrow);have HP7:=hide (HP6.out.later hb7);have hk:=HKP.out.below hb7 HKP.out.lt;clear kc zc;have kc:=hk.cell;have zc:=hk.lt;have HB7:=hide (HB6.out.trans (hb7.mono HB6.out.size));clear hb7 hrow hcl hk)
       | (go_at_call 59;go_loud (refine (redges_any outer Ao no co w7 HP7.out.out (by omega)).mono ?_);rintro e w8 ⟨v,rfl,hrow,hb8⟩;(obtain ⟨Ab,cb,rfl,hcb⟩:=own_sl hrow);have HEB:=hide (show ER w8 w8.heap.size Ab no (edgesL outer) from Sl.own (by rw [edges_len];exact HP7.out.out.1) rfl rfl hrow);have HER8:=hide (show ER w8 w8.heap.size Al N (edgesOf vs) from HER.out.later hb8);have HB8:=hide (HB7.out.trans (hb8.mono HB7.out.size));clear hb8 hrow hcb))
      have hend:=check_pairs outer (edgesOf vs) Al Ab N cl no cb w w8 HER8.out HEB.out hNl (by omega) (btr HB3.out HB8.out) HGD.out;rw [HF.out] at hend;exact hend _ _ _ _ _ _ _ _ _ _ _ _ _ _ _ _ _ _ _ _ _ _ _ _ _ _ _ _ _ _ _ _ _ _ _ _ _ _ _ _ _ _ _ _ _ _ _ _ _ _ _ _ _ _ _ _ _ _ _ _ _ _ _ _ _ _ _ _ _ _ _ _ _ _ _ _ _ _ _ _ _ _ _ _ _ _ _ _ _ _ _ _ _ _ _ _ _ _ _ _ _ _ _ _ _ _ _ _ _ _ _ _ _ _ _ _ _ _ _ _ _ _ _ _ _ _ _ _ _ _ _ _ _ _ _ _ _ _ _ _ _ _ _ _ _ _ _ _ _ _ _ _ _ _ _ _ _ _ _ _ _ _ _ _ _ _ _ _ _ _ _ _ _ _ _ _ _ _ _ _ _ _ _ _ _ _ _ _ _ _
theorem listGo_fine:∀ {ps:List Pc} {n last m:Int},listGo n last ps=some m → ∀ x∈ps,idB x.id=true∧ownerB x.owner=true
 | [],_,_,_,_,x,hx=>by cases hx
 | a :: ps,n,last,m,h,x,hx=>by
   unfold listGo at h;split at h
   ·next hc=>
    simp only [Bool.and_eq_true] at hc;rcases List.mem_cons.1 hx with rfl|hx
    ·exact ⟨hc.1,hc.2.2.1⟩
    ·exact listGo_fine h x hx
   ·cases h
theorem listed_fine {outer:List Pt} {ps:List Pc} (h:listedB outer ps=true):∀ x∈ps,idB x.id=true∧ownerB x.owner=true:=by
 unfold listedB at h;split at h
 ·cases h
 ·next hs=>exact listGo_fine hs
theorem plan_fine {outer:List Pt} {vs:List Pv} (h:planB outer vs=true):(goodAll outer=true∧3≤outer.length∧outer.length≤128)∧(1≤vs.length∧vs.length≤64)∧(∀ v∈vs,3≤v.pc.ring.length∧v.pc.ring.length≤128) ∧ ∀ x∈vs.map Pv.pc,pcFine x:=by
 unfold planB at h;simp only [Bool.and_eq_true,List.all_eq_true] at h;obtain ⟨hl,ho,hv,_⟩:=h;have ho2:=normed_sound ho;have hl2:=listed_len hl;rw [List.length_map] at hl2;refine ⟨⟨ho2.2.2.2.1,ho2.2.1,ho2.2.2.1⟩,hl2,fun v hvv=>⟨(normed_sound (hv v hvv)).2.1,(normed_sound (hv v hvv)).2.2.1⟩,fun x hx=>?_⟩;have hf:=listed_fine hl x hx;obtain ⟨v,hvv,rfl⟩:=List.mem_map.1 hx;exact ⟨(normed_sound (hv v hvv)).2.2.2.1,hf.2,hf.1⟩
theorem enc_text {outer:List Pt} {vs:List Pv} (h:planB outer vs=true):encE outer vs=(if (planT outer (vs.map Pv.pc)).length≤262144 then 0 else 12)∧encR outer vs=(if (planT outer (vs.map Pv.pc)).length≤262144 then planT outer (vs.map Pv.pc) else []):=by
 have hf:=plan_fine h;have hp:=pr_plan (outer:=outer) (ps:=vs.map Pv.pc) fun x hx=>(hf.2.2.2 x hx).2.1
 have hd:=dp_plan (outer:=outer) (ps:=vs.map Pv.pc) hf.1.1 hf.2.2.2;have he:prE (planJ outer (vs.map Pv.pc))=(if (planT outer (vs.map Pv.pc)).length≤262144 then 0 else 12):=by
  unfold prE;rw [if_pos hd,hp]
 unfold encE encR;rw [if_pos h,if_pos h];refine ⟨he,?_⟩;unfold prR;rw [he,hp];by_cases hl:(planT outer (vs.map Pv.pc)).length≤262144
 ·rw [if_pos hl,if_pos hl,if_pos rfl]
 ·rw [if_neg hl,if_neg hl,if_neg (by decide)]
theorem polyT_len {r:List Pt} (h:goodAll r=true) (hl:r.length≤128):(polyT r).length≤6000:=by
 have h1:=joinT_len true ((r++r.take 1).map ptT) 45 fun t ht=>by
  obtain ⟨p,hp,rfl⟩:=List.mem_map.1 ht;refine ptT_len ?_;rcases List.mem_append.1 hp with hp|hp
  ·exact good_mem h hp
  ·exact good_mem h (List.mem_of_mem_take hp)
 rw [List.length_map,List.length_append,List.length_take] at h1;unfold polyT;simp only [List.length_append,List.length_cons,List.length_nil,show polyH.length=34 from rfl];have h2:(r.length+min 1 r.length) * (45+1)≤129 * 46:=Nat.mul_le_mul (by omega) (by omega);omega
theorem quoteQ_len {s:ByteArray} (h:ownerB s=true):(quoteQ s.data.toList).length≤66:=by
 unfold ownerB at h;simp only [Bool.and_eq_true,decide_eq_true_eq] at h;have hs:s.data.toList.length≤32:=by rw [Array.length_toList];exact h.1
 unfold quoteQ;simp only [List.length_cons,List.length_append,List.length_nil];have:∀ l:L8,(l.flatMap escQ).length≤2 * l.length:=by
  intro l
  induction l with
  | nil=>simp
  | cons c l ih=>
    rw [List.flatMap_cons,List.length_append,List.length_cons];have:(escQ c).length≤2:=by unfold escQ;split <;> simp
    omega
 have:=this s.data.toList;omega
theorem featT_snoc {ps:List Pc} {k:Nat} (h:k<ps.length) {T:L8} {pre:L8} (hT:T=pre++joinT true ((ps.take k).map featT)):pre++joinT true ((ps.take (k+1)).map featT)=T++((if k=0 then [] else [44])++featT ps[k]):=by
 rw [List.take_succ_eq_append_getElem h,List.map_append,List.map_singleton,joinT_snoc,← List.append_assoc,← hT];congr 2;by_cases h0:k=0
 ·subst h0;simp
 ·rw [if_neg h0];have:((ps.take k).map featT).isEmpty=false:=by
   have hl:((ps.take k).map featT).length=k:=by rw [List.length_map,List.length_take];omega
   cases hh:(ps.take k).map featT with
   | nil=>rw [hh] at hl;exact absurd hl.symm h0
   | cons a l=>rfl
  rw [this];rfl
set_option maxRecDepth 100000 in
set_option maxHeartbeats 4000000 in
theorem rencode_any (P:PlV) (w:World) (hP:PlOk w w.heap.size P) :
 Calls Tryz.prog 12 #[P.val] w fun e w'=>e=.returned (.tuple #[bstr (encR P.outer P.vs),.int .i64 (encE P.outer P.vs:Int)])∧Below w.heap.size w w':=by
 have HCK:=hide (fun w0 (h:PlOk w0 w0.heap.size P)=>rplan_any P w0 h);obtain ⟨w1,hw1⟩:∃ q,w.alloc (.cells #[.slice P.Ao P.no P.co,.slice P.A P.n P.c] 26)=q:=⟨_,rfl⟩;have HB1:=hide (show Below w.heap.size w w1 from hw1 ▸ bal bR _);have hk1:Blk w1 w.heap.size 26 #[.slice P.Ao P.no P.co,.slice P.A P.n P.c]:=hw1 ▸ Blk.new _ _ _;have HK1:=hide hk1;have HP1:=hide (hP.later HB1.out);obtain ⟨Ao,no,co,outer,A,n,c,vs⟩:=P;show Calls Tryz.prog 12 #[.agg #[.slice Ao no co,.slice A n c]] w _;simp only at hw1 HCK HK1;have HW1:=hide hw1;have kc:=HK1.out.cell;have fc:=HK1.out.frozen;have zc:=HK1.out.lt;clear hw1 hk1 hP;simp only;cases hpb:planB outer vs
 ·have hE:encE outer vs=2:=by unfold encE;rw [hpb];rfl
  have hR:encR outer vs=[]:=by unfold encR;rw [hpb];rfl
  rw [hE,hR];rw [hpb] at HCK;clear hE hR hpb
  go_enter Tryz.func12,Tryz.ntmps12
  go_upto_region 1 with fail
  rw [HW1.out];go_wp2_with (go_at_call 18;go_loud (refine (HCK.out w1 HP1.out).mono ?_);rintro e w2 ⟨rfl,hb2⟩;have HB2:=hide hb2;clear hb2)
  go_ret2
  exact ⟨rfl,btr HB1.out HB2.out⟩
 ·obtain ⟨hE,hR⟩:=enc_text hpb;rw [hE,hR];rw [hpb] at HCK;obtain ⟨⟨ho1,ho2,ho3⟩,⟨hn1,hn64⟩,hrl,hfn⟩:=plan_fine hpb;have hvl:vs.length=n:=HP1.out.ps.sl.1;have hol:outer.length=no:=HP1.out.out.1;rw [hvl] at hn1 hn64;rw [hol] at ho2 ho3;have HVL:=hide hvl;have HRL:=hide hrl;have HFN:=hide hfn;have hpol:=polyT_len ho1 (by omega);obtain ⟨Y0,hY0⟩:∃ q,polyT outer=q:=⟨_,rfl⟩;rw [hY0] at hpol;have HPO:=hide (fun w0 (h:Below w1.heap.size w1 w0)=>by have:=rpoly_any outer Ao no co w0 ((HP1.out.out.below h).more h.size) (by omega) (by omega) ho1;rw [hY0] at this;exact this);obtain ⟨U1,hU1⟩:∃ q,planH++Y0=q:=⟨_,rfl⟩;obtain ⟨preT,hU2⟩:∃ q,U1++planF=q:=⟨_,rfl⟩;obtain ⟨PT,hPT⟩:∃ q,planT outer (vs.map Pv.pc)=q:=⟨_,rfl⟩;rw [hPT];have HPT:=hide (show PT=preT++joinT true ((vs.map Pv.pc).map featT)++[93,125] from by rw [← hPT];unfold planT;rw [hY0,← hU2,← hU1];simp);have l1:U1.length=40+Y0.length:=by rw [← hU1];simp [planH];omega
  have hl2:preT.length=U1.length+13:=by rw [← hU2];simp [planF]
  have n1:¬ 9223372036854775807<40+Y0.length:=by omega
  have n2:¬ 9223372036854775807<U1.length+13:=by omega
  have HPL:=hide (show preT.length≤6100 from by omega);have e1:(⟨#[123,34,116,121,112,101,34,58,34,70,101,97,116,117,114,101,67,111,108,108,101,99,116,105,111,110,34,44,34,116,101,114,114,105,116,111,114,121,34,58]⟩++⟨Y0.toArray⟩:ByteArray)=⟨U1.toArray⟩:=(cat_bs planH Y0).trans (by rw [hU1]);have e2:(⟨U1.toArray⟩++⟨#[44,34,102,101,97,116,117,114,101,115,34,58,91]⟩:ByteArray)=⟨preT.toArray⟩:=(cat_bs U1 planF).trans (by rw [hU2]);clear hPT hU1 hU2 hY0 l1 hl2 hE hR hpb hol hvl hrl hfn ho1 hpol
  go_enter Tryz.func12,Tryz.ntmps12
  go_upto_region 1 with fail
  rw [HW1.out];go_upto_region 4 with (first
   | (go_at_call 18;go_loud (refine (HCK.out w1 HP1.out).mono ?_);rintro e w2 ⟨rfl,hb2⟩;have HB2:=hide hb2;have hk:=HK1.out.below hb2 HK1.out.lt;clear kc fc zc;have kc:=hk.cell;have fc:=hk.frozen;have zc:=hk.lt;clear hb2 hk)
   | (go_at_call 29;go_loud (refine (HPO.out w2 HB2.out).mono ?_);rintro e w5 ⟨rfl,hb5⟩;have HB15:=hide (btr HB2.out hb5);have HB5:=hide (HB1.out.trans ((btr HB2.out hb5).mono HB1.out.size));have HK5:=hide ((HK1.out.below HB2.out HK1.out.lt).below hb5 (nLl HK1.out.lt HB2.out.size));clear hb5;simp only [bstr]))
  clear kc fc zc n1 n2 e1 e2;have HP5:=hide (show PlOk w5 w5.heap.size ⟨Ao,no,co,outer,A,n,c,vs⟩ from HP1.out.later HB15.out);have HKF:=HK5;go_wp2_with fail
  go_loopw [4,5] (fun v4 v5 wr=>∃ (k:Nat) (T:L8),v5=.int .i64 (k:Int)∧v4=.string ⟨T.toArray⟩∧k≤n∧T.length≤6100+k * 6300∧Hid (Below w5.heap.size w5 wr∧Blk wr w.heap.size 26 #[.slice Ao no co,.slice A n c]∧T=preT++joinT true (((vs.map Pv.pc).take k).map featT))) (fun _ v _=>n - (intOf v).toNat)
  case atStart=>exact ⟨0,preT,rfl,rfl,by omega,by have:=HPL.out;omega,hide ⟨Below.refl _ _,HK5.out,by simp [joinT]⟩⟩
  case round=>
   obtain ⟨k,T,rfl,rfl,hkn,hTl,HI⟩:=hrel;have kp:=HI.out.2.1.cell;have fp:=HI.out.2.1.frozen;have zp:=HI.out.2.1.lt;by_cases hlt:k<n
   ·have hltI:(k:Int)<n:=by omega
    have hkv:k<vs.length:=by rw [HVL.out];exact hlt
    obtain ⟨b,o,hA,hb,hcs⟩:=HP5.out.ps.at (show 0<n by omega);simp only at hA;subst hA;obtain ⟨c0,c1,c2⟩:=hcs k hkv;have hok:=HP5.out.ps.ok _ (List.getElem_mem hkv);have hrl:=HRL.out _ (List.getElem_mem hkv);have hpk:k<(vs.map Pv.pc).length:=by simpa using hkv
    have hfn:=HFN.out _ (List.getElem_mem hpk);have hst:=featT_snoc hpk HI.out.2.2;rw [List.getElem_map] at hfn hst;obtain ⟨v,hv⟩:∃ v,vs[k]=v:=⟨_,rfl⟩;rw [hv] at c0 c1 c2 hok hrl hfn hst;obtain ⟨⟨id,ring,owner⟩,Av,nv,cv⟩:=v;simp only at c0 c1 c2 hrl hst;have c0:=(HI.out.1.cell (p:=⟨b,o+k * 3,none⟩) hb).trans c0;have c1:=(HI.out.1.cell (p:=⟨b,o+k * 3+1,none⟩) hb).trans c1;have c2:=(HI.out.1.cell (p:=⟨b,o+k * 3+2,none⟩) hb).trans c2;have hbr:b<wr.heap.size:=nLl hb HI.out.1.size;obtain ⟨g1,g2,g3⟩:=hfn;simp only at g1 g2 g3;have hrn:ring.length=nv:=hok.pr.1;have hid:=hok.id;unfold idB at g3;simp only [Bool.and_eq_true,decide_eq_true_eq] at g3;have HDX:=hide (fun w0=>rdec_any id w0 (by omega) (by omega));have HQO:=hide (fun w0=>rquote_any owner w0 g2);have HPY:=hide (fun w0 (h:Below w5.heap.size w5 w0)=>rpoly_any ring Av nv cv w0 ((hok.pr.below h).more h.size) (by omega) (by omega) g1);have hlx:=Lib.itoa_length_le id (by omega) (by omega);have hly:=polyT_len g1 hrl.2;have hlq:=quoteQ_len g2;have hft:featT ⟨id,ring,owner⟩=featH++(Lib.itoa id++(featP++(quoteQ owner.data.toList++(featG++(polyT ring++[125]))))):=rfl;obtain ⟨X,hX⟩:∃ X,Lib.itoa id=X:=⟨_,rfl⟩;obtain ⟨Y,hY⟩:∃ Y,polyT ring=Y:=⟨_,rfl⟩;obtain ⟨Q,hQ⟩:∃ Q,quoteQ owner.data.toList=Q:=⟨_,rfl⟩;rw [hX] at HDX hlx hft;rw [hY] at HPY hly hft;rw [hQ] at HQO hlq hft;rw [hft] at hst;have HST:=hide hst;clear hcs hv hok hrl hst g1 g2 g3 hft hX hY hQ hid hrn;obtain ⟨T2,hst2,l0,hdd⟩:∃ T2,preT++joinT true (((vs.map Pv.pc).take (k+1)).map featT)=T2++(featH++(X++(featP++(Q++(featG++(Y++[125]))))))∧T2.length≤T.length+1∧((¬ (0:Int)<k∧T2=T)∨((0:Int)<k∧(⟨T.toArray⟩++⟨#[44]⟩:ByteArray)=⟨T2.toArray⟩)):=by
     by_cases h0:k=0
     ·exact ⟨T,HST.out.trans (by rw [if_pos h0,List.nil_append]),by omega,.inl ⟨by omega,rfl⟩⟩
     ·exact ⟨T++[44],HST.out.trans (by rw [if_neg h0,← List.append_assoc]),by simp,.inr ⟨by omega,cat_bs T [44]⟩⟩
    have n0:¬ 9223372036854775807<T.length+1:=by omega
    have HST2:=hide hst2;have L0:=hide l0;clear HST hst2 l0;rcases hdd with ⟨h0I,ht2⟩|⟨h0I,e0⟩
    all_goals (try subst ht2)
    all_goals
     have l0:=L0.out;clear L0;go_upto_region 10 with fail
     clear c0 c1 c2 kp fp zp;obtain ⟨wr2,hwr2⟩:∃ q,wr.alloc (.cells #[.int .i64 id,.slice Av nv cv,.string owner] 43)=q:=⟨_,rfl⟩;rw [hwr2];have hbx:Below wr.heap.size wr wr2:=hwr2 ▸ bal bR _;have HBX:=hide (show Blk wr2 wr.heap.size 43 #[.int .i64 id,.slice Av nv cv,.string owner] from hwr2 ▸ Blk.new _ _ _);have HB2:=hide (HI.out.1.trans (hbx.mono HI.out.1.size));clear hwr2 hbx;obtain ⟨V1,hV1⟩:∃ q,T2++featH=q:=⟨_,rfl⟩;obtain ⟨V2,hV2⟩:∃ q,V1++X=q:=⟨_,rfl⟩;obtain ⟨V3,hV3⟩:∃ q,V2++featP=q:=⟨_,rfl⟩;obtain ⟨V4,hV4⟩:∃ q,V3++Q=q:=⟨_,rfl⟩;obtain ⟨V5,hV5⟩:∃ q,V4++featG=q:=⟨_,rfl⟩;obtain ⟨V6,hV6⟩:∃ q,V5++Y=q:=⟨_,rfl⟩;obtain ⟨V7,hV7⟩:∃ q,V6++[125]=q:=⟨_,rfl⟩;have l1:V1.length=T2.length+23:=by rw [← hV1];simp [featH]
     have l2:V2.length=V1.length+X.length:=by rw [← hV2];simp
     have l3:V3.length=V2.length+23:=by rw [← hV3];simp [featP]
     have l4:V4.length=V3.length+Q.length:=by rw [← hV4];simp
     have l5:V5.length=V4.length+13:=by rw [← hV5];simp [featG]
     have l6:V6.length=V5.length+Y.length:=by rw [← hV6];simp
     have l7:V7.length=V6.length+1:=by rw [← hV7];simp
     have HL7:=hide (show V7.length≤6100+(k+1) * 6300 from by omega);have n1:¬ 9223372036854775807<T2.length+23:=by omega
     have n2:¬ 9223372036854775807<V1.length+X.length:=by omega
     have n3:¬ 9223372036854775807<V2.length+23:=by omega
     have n4:¬ 9223372036854775807<V3.length+Q.length:=by omega
     have n5:¬ 9223372036854775807<V4.length+13:=by omega
     have n6:¬ 9223372036854775807<V5.length+Y.length:=by omega
     have n7:¬ 9223372036854775807<V6.length+1:=by omega
     have HE:=hide (show preT++joinT true (((vs.map Pv.pc).take (k+1)).map featT)=V7 from by
      rw [HST2.out,← hV7,← hV6,← hV5,← hV4,← hV3,← hV2,← hV1];simp)
     have e1:(⟨(T2).toArray⟩++⟨#[123,34,116,121,112,101,34,58,34,70,101,97,116,117,114,101,34,44,34,105,100,34,58]⟩:ByteArray)=⟨V1.toArray⟩:=(cat_bs T2 featH).trans (by rw [hV1]);have e2:(⟨V1.toArray⟩++⟨X.toArray⟩:ByteArray)=⟨V2.toArray⟩:=(cat_bs V1 X).trans (by rw [hV2]);have e3:(⟨V2.toArray⟩++⟨#[44,34,112,114,111,112,101,114,116,105,101,115,34,58,123,34,111,119,110,101,114,34,58]⟩:ByteArray)=⟨V3.toArray⟩:=(cat_bs V2 featP).trans (by rw [hV3]);have e4:(⟨V3.toArray⟩++⟨Q.toArray⟩:ByteArray)=⟨V4.toArray⟩:=(cat_bs V3 Q).trans (by rw [hV4]);have e5:(⟨V4.toArray⟩++⟨#[125,44,34,103,101,111,109,101,116,114,121,34,58]⟩:ByteArray)=⟨V5.toArray⟩:=(cat_bs V4 featG).trans (by rw [hV5]);have e6:(⟨V5.toArray⟩++⟨Y.toArray⟩:ByteArray)=⟨V6.toArray⟩:=(cat_bs V5 Y).trans (by rw [hV6]);have e7:(⟨V6.toArray⟩++⟨#[125]⟩:ByteArray)=⟨V7.toArray⟩:=(cat_bs V6 [125]).trans (by rw [hV7]);clear hV1 hV2 hV3 hV4 hV5 hV6 hV7 l1 l2 l3 l4 l5 l6 l7 HST2;(try clear l0);refine wp_region_dagO (by kernel_rfl) (by kernel_rfl) 55 0
      [⟨some 31,[0],[],[],[],[],fun _ _ v _=>v=.string ⟨(T2).toArray⟩⟩,
       ⟨some 32,[0],[],[],[0],[],fun _ _ v _=>v=.string ⟨V1.toArray⟩⟩,
       ⟨some 33,[0],[],[],[],[],fun _ _ v _=>v=.pointer (some ⟨wr.heap.size,0,none⟩)⟩,
       ⟨some 34,[0],[],[],[2],[],fun _ _ v _=>v=.int .i64 id⟩,
       ⟨some 35,[0],[],[],[3],[],fun _ _ v _=>v=.string ⟨X.toArray⟩⟩,
       ⟨some 36,[0],[],[],[1,4],[],fun _ _ v _=>v=.string ⟨V2.toArray⟩⟩,
       ⟨some 37,[0],[],[],[5],[],fun _ _ v _=>v=.string ⟨V3.toArray⟩⟩,
       ⟨some 38,[0],[],[],[],[],fun _ _ v _=>v=.pointer (some ⟨wr.heap.size,2,none⟩)⟩,
       ⟨some 39,[0],[],[],[7],[],fun _ _ v _=>v=.string owner⟩,
       ⟨some 40,[0],[],[],[8],[],fun _ _ v w'=>∃ A9 n9 c9,v=.slice A9 n9 c9∧RB w' w'.heap.size A9 n9 Q⟩,
       ⟨some 41,[0],[],[],[9],[],fun _ _ v _=>v=.string ⟨Q.toArray⟩⟩,
       ⟨some 42,[0],[],[],[6,10],[],fun _ _ v _=>v=.string ⟨V4.toArray⟩⟩,
       ⟨some 43,[0],[],[],[11],[],fun _ _ v _=>v=.string ⟨V5.toArray⟩⟩,
       ⟨some 44,[0],[],[],[],[],fun _ _ v _=>v=.pointer (some ⟨wr.heap.size,1,none⟩)⟩,
       ⟨some 45,[0],[],[],[13],[],fun _ _ v _=>v=.slice Av nv cv⟩,
       ⟨some 46,[0],[],[],[14],[],fun _ _ v _=>v=.string ⟨Y.toArray⟩⟩,
       ⟨some 47,[0],[],[],[12,15],[],fun _ _ v _=>v=.string ⟨V6.toArray⟩⟩,
       ⟨some 48,[0],[],[],[16],[],fun _ _ v _=>v=.string ⟨V7.toArray⟩⟩,
       ⟨some 4,[0],[],[],[17],[],fun _ _ v _=>v=.string ⟨V7.toArray⟩⟩] (fun _ w'=>Below wr2.heap.size wr2 w') (fun _ _ _ _ _=>False) (fun _ w w'=>Below w.heap.size w w') ?gu ?ru ?put [31,32,33,34,35,36,37,38,39,40,41,42,43,44,45,46,47,48,4] rfl (by kernel_rfl) rfl ?g0 ?keep ?steps ?fin
     case ru=>
      intro e he s a v w w' hu hv;simp only [List.mem_cons,List.not_mem_nil,or_false] at he;rcases he with rfl|rfl|rfl|rfl|rfl|rfl|rfl|rfl|rfl|rfl|rfl|rfl|rfl|rfl|rfl|rfl|rfl|rfl|rfl
      all_goals first|exact hv|(obtain ⟨A9,n9,c9,e9,hq⟩:=hv;exact ⟨A9,n9,c9,e9,(hq.below hu).more hu.size⟩)
     case put=>
      intro e he s a d u v w hnd hv;simp only [List.mem_cons,List.not_mem_nil,or_false] at he;rcases he with rfl|rfl|rfl|rfl|rfl|rfl|rfl|rfl|rfl|rfl|rfl|rfl|rfl|rfl|rfl|rfl|rfl|rfl|rfl
      all_goals first|exact hv
     case keep=>
      intro e he s s' a v w w' hsl hm ht hv;simp only [List.mem_cons,List.not_mem_nil,or_false] at he;rcases he with rfl|rfl|rfl|rfl|rfl|rfl|rfl|rfl|rfl|rfl|rfl|rfl|rfl|rfl|rfl|rfl|rfl|rfl|rfl
      all_goals first|exact hv|exact ht.elim
     case steps=>
      refine ⟨?_,?_,?_,?_,?_,?_,?_,?_,?_,?_,?_,?_,?_,?_,?_,?_,?_,?_,?_,trivial⟩
      ·intro st hst ac w3 hg hG hd ho K hK;dsimp only at hst hG hK;exact op_move _ rfl (hK _ _ bR (ho 18 _ rfl (by decide) (by kernel_rfl) 4 rfl))
      ·intro st hst ac w3 hg hG hd ho K hK;dsimp only at hst hG hK;have f1:=hd 0 (by simp) _ rfl _ rfl;clear hG;simp [Act.eval] at f1;go_simp;exact hK _ _ bR (by first|rfl|rw [e1])
      ·intro st hst ac w3 hg hG hd ho K hK;dsimp only at hst hG hK;have k6:=hg.kp 6 (by simp);(try simp [Act.eval] at k6);go_simp;exact hK _ _ bR rfl
      ·intro st hst ac w3 hg hG hd ho K hK;dsimp only at hst hG hK;have kb:=HBX.out.below hG HBX.out.lt;have kk:=kb.cell;have zz:=kb.lt;clear hG kb;have f2:=hd 2 (by simp) _ rfl _ rfl;(try simp [Act.eval] at f2);go_simp;exact hK _ _ bR rfl
      ·intro st hst ac w3 hg hG hd ho K hK;dsimp only at hst hG hK;have f1:=hd 3 (by simp) _ rfl _ rfl;clear hG;simp [Act.eval] at f1;go_simp;(refine (HDX.out w3).mono ?_);rintro e w4 ⟨rfl,hb4⟩;exact hK _ w4 hb4 rfl
      ·intro st hst ac w3 hg hG hd ho K hK;dsimp only at hst hG hK;have f1:=hd 1 (by simp) _ rfl _ rfl;have f2:=hd 4 (by simp) _ rfl _ rfl;clear hG;simp [Act.eval] at f1 f2;go_simp;exact hK _ _ bR (by first|rfl|rw [e2])
      ·intro st hst ac w3 hg hG hd ho K hK;dsimp only at hst hG hK;have f1:=hd 5 (by simp) _ rfl _ rfl;clear hG;simp [Act.eval] at f1;go_simp;exact hK _ _ bR (by first|rfl|rw [e3])
      ·intro st hst ac w3 hg hG hd ho K hK;dsimp only at hst hG hK;have k6:=hg.kp 6 (by simp);(try simp [Act.eval] at k6);go_simp;exact hK _ _ bR rfl
      ·intro st hst ac w3 hg hG hd ho K hK;dsimp only at hst hG hK;have kb:=HBX.out.below hG HBX.out.lt;have kk:=kb.cell;have zz:=kb.lt;clear hG kb;have f7:=hd 7 (by simp) _ rfl _ rfl;(try simp [Act.eval] at f7);go_simp;exact hK _ _ bR rfl
      ·intro st hst ac w3 hg hG hd ho K hK;dsimp only at hst hG hK;have f1:=hd 8 (by simp) _ rfl _ rfl;clear hG;simp [Act.eval] at f1;go_simp;(refine (HQO.out w3).mono ?_);rintro e w4 ⟨A9,n9,c9,rfl,ho9,hn9,hb4⟩;exact hK _ w4 hb4 ⟨A9,n9,c9,rfl,own_rb' ho9⟩
      ·intro st hst ac w3 hg hG hd ho K hK;dsimp only at hst hG hK;have f1:=hd 9 (by simp) _ rfl _ rfl;obtain ⟨A9,n9,c9,e9,hq9⟩:=f1;have hcv:=convert_any (c:=c9) hq9;clear hG;simp [Act.eval] at e9;simp only [bstr] at hcv;go_simp;exact hK _ _ bR rfl
      ·intro st hst ac w3 hg hG hd ho K hK;dsimp only at hst hG hK;have f1:=hd 6 (by simp) _ rfl _ rfl;have f2:=hd 10 (by simp) _ rfl _ rfl;clear hG;simp [Act.eval] at f1 f2;go_simp;exact hK _ _ bR (by first|rfl|rw [e4])
      ·intro st hst ac w3 hg hG hd ho K hK;dsimp only at hst hG hK;have f1:=hd 11 (by simp) _ rfl _ rfl;clear hG;simp [Act.eval] at f1;go_simp;exact hK _ _ bR (by first|rfl|rw [e5])
      ·intro st hst ac w3 hg hG hd ho K hK;dsimp only at hst hG hK;have k6:=hg.kp 6 (by simp);(try simp [Act.eval] at k6);go_simp;exact hK _ _ bR rfl
      ·intro st hst ac w3 hg hG hd ho K hK;dsimp only at hst hG hK;have kb:=HBX.out.below hG HBX.out.lt;have kk:=kb.cell;have zz:=kb.lt;clear hG kb;have f13:=hd 13 (by simp) _ rfl _ rfl;(try simp [Act.eval] at f13);go_simp;exact hK _ _ bR rfl
      ·intro st hst ac w3 hg hG hd ho K hK;dsimp only at hst hG hK;have f1:=hd 14 (by simp) _ rfl _ rfl;have hp9:=HPY.out w3 (HB2.out.trans (hG.mono HB2.out.size));clear hG;simp [Act.eval] at f1;go_simp;(refine hp9.mono ?_);rintro e w4 ⟨rfl,hb4⟩;exact hK _ w4 hb4 rfl
      ·intro st hst ac w3 hg hG hd ho K hK;dsimp only at hst hG hK;have f1:=hd 12 (by simp) _ rfl _ rfl;have f2:=hd 15 (by simp) _ rfl _ rfl;clear hG;simp [Act.eval] at f1 f2;go_simp;exact hK _ _ bR (by first|rfl|rw [e6])
      ·intro st hst ac w3 hg hG hd ho K hK;dsimp only at hst hG hK;have f1:=hd 16 (by simp) _ rfl _ rfl;clear hG;simp [Act.eval] at f1;go_simp;exact hK _ _ bR (by first|rfl|rw [e7])
      ·intro st hst ac w3 hg hG hd ho K hK;dsimp only at hst hG hK;exact op_assign _ rfl (hK _ _ bR (hd 17 (by simp) _ rfl _ rfl))
     case gu=>intro s w1 w2 hG hu;exact hG.trans (hu.mono hG.size)
     case g0=>exact bR.drew
     case fin=>
      intro f9 w9 hG hall;have h3:=hall _ (List.mem_of_getElem? (i:=18) rfl) 4 rfl;clear hall;have HBB:=hide (HB2.out.trans (hG.mono HB2.out.size));clear hG e1 e2 e3 e4 e5 e6 e7 n1 n2 n3 n4 n5 n6 n7;simp only [fillF,List.map_cons,List.map_nil,List.foldl_cons,List.foldl_nil,Act.put,List.setIfInBounds_toArray,List.set_cons_zero,List.set_cons_succ];rw [h3];go_wp2_with fail
      refine ⟨⟨k+1,V7,by go_num,rfl,by omega,HL7.out,hide ⟨HBB.out,HKF.out.below HBB.out HKF.out.lt,HE.out.symm⟩⟩,?_⟩;simp [intOf];omega
   ·have hltI:¬ (k:Int)<n:=by omega
    obtain rfl:k=n:=by omega
    have hTE:=HI.out.2.2;rw [List.take_of_length_le (by rw [List.length_map,HVL.out];exact Nat.le_refl _)] at hTE;obtain ⟨R,hR⟩:∃ q,T++[93,125]=q:=⟨_,rfl⟩;have e1:(⟨T.toArray⟩++⟨#[93,125]⟩:ByteArray)=⟨R.toArray⟩:=(cat_bs T [93,125]).trans (by rw [hR]);have n1:¬ 9223372036854775807<T.length+2:=by omega
    have hF:PT=R:=by rw [HPT.out,← hTE,hR]
    have HBF:=hide (HB5.out.trans (HI.out.1.mono HB5.out.size));subst hF;clear hTE hR;by_cases hq:PT.length≤262144
    ·have hqI:¬ (262144:Int)<PT.length:=by omega
     go_wp2_with fail
     go_ret2
     exact ⟨rfl,HBF.out⟩
    ·have hqI:(262144:Int)<PT.length:=by omega
     go_wp2_with fail
     go_ret2
     exact ⟨rfl,HBF.out⟩
end Go.Proofs.YtacinobmcgcccaaGreatDoor
