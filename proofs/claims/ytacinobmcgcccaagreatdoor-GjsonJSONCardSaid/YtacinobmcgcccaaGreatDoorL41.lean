/- GjsonJSON. -/
import Derived.Test.YtacinobmcgcccaaGreatDoorL40
import Derived.Test.YtacinobmcgcccaaGreatDoorL12
import Derived.Test.YtacinobmcgcccaaGreatDoorL00
import Derived.Test.YtacinobmcgcccaaGreatDoorL39
import Derived.Test.YtacinobmcgcccaaGreatDoorCards
import Derived.BigQuiet
import Derived.ProofKit
import Derived.Deep.Slices
import Derived.Deep.Fields
import Derived.ChangeSame
import Derived.SizedLaws
import Derived.OpenShut
import Derived.Lib.LaidU8T
import Derived.Lib.LaidTab
import Derived.Lib.SmallJoins
import Derived.ChangeMaps5
import Derived.Lay
import Derived.LaidSub
set_option linter.unusedSimpArgs false
set_option linter.unusedVariables false
namespace Go.Proofs.YtacinobmcgcccaaGreatDoor
open Go.RowKit Go.Shelf
theorem ring_sound {outer:List Pt} {vs:List Pv} (h:planB outer vs=true):ringE outer=0:=by
 unfold planB at h;simp only [Bool.and_eq_true] at h;have:=h.2.1;unfold normedB at this;simp only [Bool.and_eq_true,decide_eq_true_eq] at this;exact this.1
set_option maxRecDepth 100000 in
set_option maxHeartbeats 8000000 in
theorem json12_any (P:PlV) (w:World) (hP:PlOk w w.heap.size P) (hT:GT w) :
 Calls Tryz.prog 4 #[P.val] w fun e w'=>e=.returned (.bool true)∧Below w.heap.size w w':=by
 have HAN:=hide (fun w0 (h:GT w0)=>ranswers_any w0 h);have HFW:=hide (fun w0 (h:PlOk w0 w0.heap.size P)=>few_any P w0 h);have HFN:=hide (fun w0 (h:PlOk w0 w0.heap.size P)=>few_n (P:=P) (w:=w0) h);have HFS:=hide (fun w0 (h:PlOk w0 w0.heap.size P)=>few_short (P:=P) (w:=w0) h);have HOW:=hide (fun w0 (h:PlOk w0 w0.heap.size P) (hn:P.n≤80)=>rown_any P w0 h (by omega));obtain ⟨w1,hw1⟩:∃ q,w.alloc (.cells #[.slice P.Ao P.no P.co,.slice P.A P.n P.c] 26)=q:=⟨_,rfl⟩;have HB1:=hide (show Below w.heap.size w w1 from hw1 ▸ bal bR _);have hk1:Blk w1 w.heap.size 26 #[.slice P.Ao P.no P.co,.slice P.A P.n P.c]:=hw1 ▸ Blk.new _ _ _;have HK1:=hide hk1;have HP1:=hide (hP.later HB1.out);have HT1:=hide (hT.below HB1.out);obtain ⟨Ao,no,co,outer,A,n,c,vs⟩:=P;show Calls Tryz.prog 4 #[.agg #[.slice Ao no co,.slice A n c]] w _;simp only at hw1 HFW HK1 HFN HOW HFS;have HW1:=hide hw1;have kc:=HK1.out.cell;have fc:=HK1.out.frozen;have zc:=HK1.out.lt;clear hw1 hk1 hP hT;cases hfb:fewB no (vs.map Pv.n)
 ·rw [hfb] at HFW;clear hfb HFN HOW HFS
  go_enter Tryz.func4,Tryz.ntmps4
  go_upto_region 1 with fail
  rw [HW1.out];go_upto_region 2 with (first
   | (go_at_call 8;go_loud (refine (HAN.out w1 HT1.out).mono ?_);rintro e w2 ⟨rfl,hb2⟩;have HB2:=hide hb2;have hk:=HK1.out.below hb2 HK1.out.lt;clear kc fc zc;have kc:=hk.cell;have fc:=hk.frozen;have zc:=hk.lt;have HP2:=hide (HP1.out.later hb2);have HT2:=hide (HT1.out.below hb2);clear hb2 hk)
   | (go_at_call 9;go_loud (refine (HFW.out w2 HP2.out).mono ?_);rintro e w3 ⟨rfl,hb3⟩;have HT3:=hide (HT2.out.below hb3);have HB3:=hide (btr (btr HB1.out HB2.out) hb3);clear hb3))
  go_wp2_with (go_at_call 8;go_loud (refine (HAN.out w3 HT3.out).mono ?_);rintro e w4 ⟨rfl,hb4⟩;have HB4:=hide (btr HB3.out hb4);clear hb4)
  go_ret;exact ⟨rfl,HB4.out⟩
 ·rw [hfb] at HFW;have HN:=hide (HFN.out w1 HP1.out hfb);obtain ⟨E,hE⟩:∃ q,encE outer vs=q:=⟨_,rfl⟩;obtain ⟨R,hR⟩:∃ q,encR outer vs=q:=⟨_,rfl⟩;have HE:=hide hE;have HR:=hide hR;cases hpb:planB outer vs
  ·have hE2:encE outer vs=2:=by unfold encE;rw [hpb];rfl
   rw [hE2] at hE;subst hE;clear hfb HFN HFS hpb hE2 hR
   go_enter Tryz.func4,Tryz.ntmps4
   go_upto_region 1 with fail
   rw [HW1.out];go_upto_region 3 with (first
    | (go_at_call 8;go_loud (refine (HAN.out w1 HT1.out).mono ?_);rintro e w2 ⟨rfl,hb2⟩;have HB2:=hide hb2;have hk:=HK1.out.below hb2 HK1.out.lt;have HK2:=hide hk;clear kc fc zc;have kc:=hk.cell;have fc:=hk.frozen;have zc:=hk.lt;have HP2:=hide (HP1.out.later hb2);have HT2:=hide (HT1.out.below hb2);clear hb2 hk)
    | (go_at_call 9;go_loud (refine (HFW.out w2 HP2.out).mono ?_);rintro e w3 ⟨rfl,hb3⟩;have HT3:=hide (HT2.out.below hb3);have HP3:=hide (HP2.out.later hb3);have HB3:=hide (btr (btr HB1.out HB2.out) hb3);have hk:=HK2.out.below hb3 HK2.out.lt;have HK3:=hide hk;clear kc fc zc;have kc:=hk.cell;have fc:=hk.frozen;have zc:=hk.lt;clear hb3 hk))
   go_upto_region 4 with (first
    | (go_at_call 11;go_loud (refine (HOW.out w3 HP3.out HN.out).mono ?_);rintro e w4 ⟨hb4,Q,rfl,hq⟩;have HT4:=hide (HT3.out.below hb4);have HQ4:=hide (hq.plok HP3.out);have hqe:encE Q.outer Q.vs=2:=(by rw [encE_pcs,hq.pcs,hq.outer,← encE_pcs];exact HE.out);have hqr:encR Q.outer Q.vs=R:=(by rw [encR_pcs,hq.pcs,hq.outer,← encR_pcs];exact HR.out);have hen:=gencode_any Q w4 HQ4.out HT4.out;rw [hqe,hqr] at hen;have HEN:=hide hen;have HP4:=hide (HP3.out.later hb4);have HB4:=hide (btr HB3.out hb4);have HK4:=hide (HK3.out.below hb4 HK3.out.lt);clear hb4 hq hqe hqr hen kc fc zc)
    | (go_at_call 10;go_loud (refine HEN.out.mono ?_);rintro e w5 ⟨hb5,A5,n5,c5,rfl,hc5,ha5,hr5⟩;have HT5:=hide (HT4.out.below hb5);have HP5:=hide (HP4.out.later hb5);have HB5:=hide (btr HB4.out hb5);have HK5:=hide (HK4.out.below hb5 HK4.out.lt);have HR5:=hide hr5;have HC5:=hide hc5;have HA5:=hide ha5;clear hb5 hc5 ha5 hr5))
   go_wp2_with fail
   go_ret;exact ⟨rfl,HB5.out⟩
  ·have hsh:=HFS.out w1 HP1.out hfb hpb;obtain ⟨hE2,hR2⟩:=enc_text hpb;rw [if_pos (by omega)] at hE2 hR2;have hps:=parse_plan hpb (by omega);rw [hR2] at hR;rw [hR] at hps;rw [hE2] at hE;subst hE;have HPS:=hide hps;have HRS:=hide (ring_sound hpb);have hpf:=plan_fine hpb;have HRL:=hide hpf.2.2.1;have hn1:1≤n:=by have h1:vs.length=n:=HP1.out.ps.sl.1;have:=hpf.2.1.1;omega
   have HVL:=hide (show vs.length=n from HP1.out.ps.sl.1);clear hfb HFN HFS hpb hE2 hR2 hR hsh hps hpf
   go_enter Tryz.func4,Tryz.ntmps4
   go_upto_region 1 with fail
   rw [HW1.out];go_upto_region 3 with (first
    | (go_at_call 8;go_loud (refine (HAN.out w1 HT1.out).mono ?_);rintro e w2 ⟨rfl,hb2⟩;have HB2:=hide hb2;have hk:=HK1.out.below hb2 HK1.out.lt;have HK2:=hide hk;clear kc fc zc;have kc:=hk.cell;have fc:=hk.frozen;have zc:=hk.lt;have HP2:=hide (HP1.out.later hb2);have HT2:=hide (HT1.out.below hb2);clear hb2 hk)
    | (go_at_call 9;go_loud (refine (HFW.out w2 HP2.out).mono ?_);rintro e w3 ⟨rfl,hb3⟩;have HT3:=hide (HT2.out.below hb3);have HP3:=hide (HP2.out.later hb3);have HB3:=hide (btr (btr HB1.out HB2.out) hb3);have hk:=HK2.out.below hb3 HK2.out.lt;have HK3:=hide hk;clear kc fc zc;have kc:=hk.cell;have fc:=hk.frozen;have zc:=hk.lt;clear hb3 hk))
   go_upto_region 4 with (first
    | (go_at_call 11;go_loud (refine (HOW.out w3 HP3.out HN.out).mono ?_);rintro e w4 ⟨hb4,Q,rfl,hq⟩;have HT4:=hide (HT3.out.below hb4);have HQ4:=hide (hq.plok HP3.out);have hqe:encE Q.outer Q.vs=0:=(by rw [encE_pcs,hq.pcs,hq.outer,← encE_pcs];exact HE.out);have hqr:encR Q.outer Q.vs=R:=(by rw [encR_pcs,hq.pcs,hq.outer,← encR_pcs];exact HR.out);have hen:=gencode_any Q w4 HQ4.out HT4.out;rw [hqe,hqr] at hen;have HEN:=hide hen;have HP4:=hide (HP3.out.later hb4);have HB4:=hide (btr HB3.out hb4);have HK4:=hide (HK3.out.below hb4 HK3.out.lt);clear hb4 hq hqe hqr hen kc fc zc)
    | (go_at_call 10;go_loud (refine HEN.out.mono ?_);rintro e w5 ⟨hb5,A5,n5,c5,rfl,hc5,ha5,hr5⟩;have HT5:=hide (HT4.out.below hb5);have HP5:=hide (HP4.out.later hb5);have HB5:=hide (btr HB4.out hb5);have HK5:=hide (HK4.out.below hb5 HK4.out.lt);have HR5:=hide hr5;have HC5:=hide hc5;have HA5:=hide ha5;clear hb5 hc5 ha5 hr5))
   go_upto_region 6 with fail
   have hpu:=parse_uni HR5.out HC5.out HT5.out.tabs HA5.out;rw [HPS.out] at hpu;simp only [gotE,gotJ] at hpu;have HPU:=hide hpu;clear hpu;have kd:=HK5.out.cell;have fd:=HK5.out.frozen;have zd:=HK5.out.lt;go_upto_region 7 with (go_at_call 13;go_loud (refine HPU.out.mono ?_);rintro e w6 ⟨hb6,k6,t6,A1,n1,c1,A2,n2,c2,at6,rfl,hv6⟩;have HB6:=hide hb6;have HV6:=hide hv6;clear hb6 hv6 kd fd zd)
   obtain ⟨rfl,rfl,b1,o1,b3,o3,c3,rfl,hF1,hF3,x2,hfeat⟩:=plan_mem HV6.out (by rw [List.length_map,HVL.out];exact hn1);rw [List.length_map,HVL.out] at x2;obtain ⟨w7,hw7⟩:∃ q,w6.alloc (.cells #[.int .i64 7,.string t6,.slice A1 n1 c1,.slice (some ⟨b1,o1,none⟩) 3 c2] 39)=q:=⟨_,rfl⟩;rw [hw7];have hb7:Below w6.heap.size w6 w7:=hw7 ▸ bal bR _;have hk7:Blk w7 w6.heap.size 39 #[.int .i64 7,.string t6,.slice A1 n1 c1,.slice (some ⟨b1,o1,none⟩) 3 c2]:=hw7 ▸ Blk.new _ _ _;have hkp:=(HK5.out.below HB6.out HK5.out.lt).below hb7 (nLl HK5.out.lt HB6.out.size);have HKP:=hide hkp;have HK7:=hide hk7;have HB7:=hide hb7;have HFT:=hide hfeat;have HX2:=hide x2;have kc:=hkp.cell;have fc:=hkp.frozen;have zc:=hkp.lt;have kv:=hk7.cell;have fv:=hk7.frozen;have zv:=hk7.lt;have x2b:=(hb7.cell (p:=⟨b1,o1+11,none⟩) hF1).trans x2;have zb1:b1<w7.heap.size:=nLl hF1 hb7.size;have hc3:(3:Nat)≤c2:=by
    have hv:=HV6.out;unfold planJ objJ at hv;have:=(vkids hv (by simp)).2.2.1;exact this
   have HC3:=hide hc3;clear hw7 hb7 hk7 hkp hfeat x2
   go_quiet (fail)
   obtain ⟨w8,hw8⟩:∃ q,w7.drewN nq=q:=⟨_,rfl⟩;rw [hw8];have hb8:Below w7.heap.size w7 w8:=hw8 ▸ below_drewN w7 nq;have HB68:=hide (btr HB7.out hb8);have HKB:=hide (HKP.out.below hb8 HKP.out.lt);have HKV:=hide (HK7.out.below hb8 HK7.out.lt);have HX8:=hide ((hb8.cell (p:=⟨b1,o1+11,none⟩) zb1).trans x2b);have HZ1:=hide (show b1<w8.heap.size from nLl zb1 hb8.size);have HB8:=hide (HB5.out.trans ((btr HB6.out HB68.out).mono HB5.out.size));have HP8:=hide (HP5.out.later (btr HB6.out HB68.out));clear hw8 hb8 kc fc zc kv fv zv x2b zb1 HKP HK7;go_wp2_with fail
   go_loopw [8] (fun v8 wr=>∃ k:Nat,v8=.int .i64 (k:Int)∧k≤n∧Hid (Below w8.heap.size w8 wr)) (fun v _=>n - (intOf v).toNat)
   case atStart=>exact ⟨0,rfl,by omega,hide bR⟩
   case round=>
    obtain ⟨k,rfl,hkn,HI⟩:=hrel;have hkb:=HKB.out.below HI.out HKB.out.lt;have HKBr:=hide hkb;have kc:=hkb.cell;have fc:=hkb.frozen;have zc:=hkb.lt;clear hkb;by_cases hlt:k<n
    ·have hltI:(k:Int)<n:=by omega
     have hkv:=HKV.out.below HI.out HKV.out.lt;have kv:=hkv.cell;have fv:=hkv.frozen;have zv:=hkv.lt;have x2:=(HI.out.cell (p:=⟨b1,o1+11,none⟩) HZ1.out).trans HX8.out;have zb1:b1<wr.heap.size:=nLl HZ1.out HI.out.size;clear hkv;have hkl:k<vs.length:=by rw [HVL.out];exact hlt
     have hkp:k<(vs.map Pv.pc).length:=by simpa using hkl
     have hb6r:Below w6.heap.size w6 wr:=HB68.out.trans (HI.out.mono HB68.out.size);have zb3:b3<wr.heap.size:=nLl hF3 hb6r.size;obtain ⟨kx,tx,X1,nx1,cx1,X2,nx2,cx2,hvx,y0,y1,y2,y3⟩:=(HFT.out k hkp).keep hF3 hb6r;rw [List.getElem_map] at hvx;have hrl:=HRL.out _ (List.getElem_mem hkl);obtain ⟨rfl,rfl,b4,o4,b5,o5,c55,b6,o6,c66,b7,o7,c77,hfm⟩:=feat_mem hvx (by omega);obtain ⟨b,o,hA,hb,hcs⟩:=HP8.out.ps.at (show 0<n by omega);simp only at hA;subst hA;obtain ⟨_,r1,_⟩:=hcs k hkl;have hpr:=(HP8.out.ps.ok _ (List.getElem_mem hkl)).pr.1;have hvs:=(HP8.out.ps.ok _ (List.getElem_mem hkl)).small;obtain ⟨v,hv⟩:∃ v,vs[k]=v:=⟨_,rfl⟩;rw [hv] at r1 hpr hvs hrl hfm;obtain ⟨⟨id,ring,owner⟩,Av,nv,cv⟩:=v;simp only at r1 hpr hvs hrl hfm;rw [hpr] at hrl;have HRC:=hide (show ∀ w',Below wr.heap.size wr w'→w'.cell? ⟨b,o+k * 3+1,none⟩=some (.slice Av nv cv)∧b<w'.heap.size from fun w' h=>
      ⟨(h.cell (p:=⟨b,o+k * 3+1,none⟩) (nLl hb HI.out.size)).trans ((HI.out.cell (p:=⟨b,o+k * 3+1,none⟩) hb).trans r1),nLl (nLl hb HI.out.size) h.size⟩)
     have a2:=hfm.a2;subst a2;clear hcs hb r1 hv hvx;go_upto_region 13 with fail
     obtain ⟨wr2,hwr2⟩:∃ q,wr.alloc (.cells #[.int .i64 7,.string tx,.slice X1 nx1 cx1,.slice (some ⟨b4,o4,none⟩) 4 cx2] 39)=q:=⟨_,rfl⟩;rw [hwr2];have hbw:Below wr.heap.size wr wr2:=hwr2 ▸ bal bR _;have hk9:Blk wr2 wr.heap.size 39 #[.int .i64 7,.string tx,.slice X1 nx1 cx1,.slice (some ⟨b4,o4,none⟩) 4 cx2]:=hwr2 ▸ Blk.new _ _ _;have hb62:Below w6.heap.size w6 wr2:=hb6r.trans (hbw.mono hb6r.size);have hfm2:=hfm.keep (hbw.mono hb6r.size);obtain ⟨_,f4,f5,f6,f7,z4,z5,z6,J7,j1,j2⟩:=hfm2;simp only at z6 j2;rw [hpr] at z6 j2;have g4:b4<wr2.heap.size:=nLl f4 hb62.size;have g5:b5<wr2.heap.size:=nLl f5 hb62.size;have g6:b6<wr2.heap.size:=nLl f6 hb62.size;have g7:b7<wr2.heap.size:=nLl f7 hb62.size;have k9:=hk9.cell;have f9:=hk9.frozen;have z9:=hk9.lt;have HKB2:=hide (HKBr.out.below hbw HKBr.out.lt);have HBW:=hide hbw;have HJ1:=hide j1;have HJ2:=hide j2;have HG7:=hide g7;have HLE:=hide (show w6.heap.size≤wr2.heap.size from hb62.size);clear hwr2 hbw hk9 hfm j1 j2 kv fv zv x2 y0 y1 y2 y3 kc fc zc f4 f5 f6 f7 hb62 hb6r;go_upto_region 16 with fail
     obtain ⟨ka,ta,Aa,na,ca,Ba,ma,da,hva,p0,p1,p2,p3⟩:=HJ1.out;obtain ⟨kb,tb,Ab,nb,cb,Bb,mb,db,hvb,q0,q1,q2,q3⟩:=HJ2.out;have HVA:=hide hva;have HVB:=hide hvb;have HPQ:=hide (show ∀ w',Below wr2.heap.size wr2 w'→((w'.cell? ⟨b7,o7,none⟩=some (.int .i64 ka)∧w'.cell? ⟨b7,o7+1,none⟩=some (.string ta)∧w'.cell? ⟨b7,o7+2,none⟩=some (.slice Aa na ca)∧w'.cell? ⟨b7,o7+3,none⟩=some (.slice Ba ma da)) ∧
      (w'.cell? ⟨b7,o7+nv * 4,none⟩=some (.int .i64 kb)∧w'.cell? ⟨b7,o7+nv * 4+1,none⟩=some (.string tb)∧w'.cell? ⟨b7,o7+nv * 4+2,none⟩=some (.slice Ab nb cb)∧w'.cell? ⟨b7,o7+nv * 4+3,none⟩=some (.slice Bb mb db)))∧b7<w'.heap.size from fun w' h=>
      ⟨⟨⟨(h.cell (p:=⟨b7,o7,none⟩) HG7.out).trans p0,(h.cell (p:=⟨b7,o7+1,none⟩) HG7.out).trans p1,(h.cell (p:=⟨b7,o7+2,none⟩) HG7.out).trans p2,(h.cell (p:=⟨b7,o7+3,none⟩) HG7.out).trans p3⟩,
       ⟨(h.cell (p:=⟨b7,o7+nv * 4,none⟩) HG7.out).trans q0,(h.cell (p:=⟨b7,o7+nv * 4+1,none⟩) HG7.out).trans q1,(h.cell (p:=⟨b7,o7+nv * 4+2,none⟩) HG7.out).trans q2,(h.cell (p:=⟨b7,o7+nv * 4+3,none⟩) HG7.out).trans q3⟩⟩,nLl HG7.out h.size⟩)
     have hw1:IntKind.i64.wrap ((nv:Int)+1)=(nv:Int)+1:=by rw [IntKind.wrap_i64];omega
     have hw2:IntKind.i64.wrap (nv:Int)=(nv:Int):=by rw [IntKind.wrap_i64];omega
     have hnlt:(nv:Int)<(nv:Int)+1:=by omega
     clear hva hvb p0 p1 p2 p3 q0 q1 q2 q3 k9 f9 z9 z4 z5 z6 g4 g5 g6 g7;refine wp_region_stageW (by kernel_rfl) (by kernel_rfl) 144 1
      [⟨some 116,false,0,0,fun _ v _=>v=.slice (some ⟨b7,o7,none⟩) (nv+1) c77⟩,
       ⟨some 117,false,0,0,fun _ v _=>v=.int .i64 ((nv:Int)+1)⟩,
       ⟨some 118,false,0,0,fun _ v _=>v=.pointer (some ⟨w.heap.size,1,none⟩)⟩,
       ⟨some 119,false,0,0,fun _ v _=>v=.slice (some ⟨b,o,none⟩) n c⟩,
       ⟨some 120,false,0,0,fun _ v _=>v=.int .i64 (k:Int)⟩,
       ⟨some 121,false,0,0,fun _ v _=>v=.pointer (some ⟨b,o+k * 3,none⟩)⟩,
       ⟨some 122,false,0,0,fun _ v _=>v=.pointer (some ⟨b,o+k * 3+1,none⟩)⟩,
       ⟨some 123,false,0,0,fun _ v _=>v=.slice Av nv cv⟩,
       ⟨some 124,false,0,0,fun _ v _=>v=.int .i64 (nv:Int)⟩,
       ⟨some 125,false,0,0,fun _ v _=>v=.int .i64 ((nv:Int)+1)⟩,
       ⟨some 126,false,0,0,fun _ v _=>v=.bool false⟩,
       ⟨some 127,false,0,0,fun _ v _=>v=.bool false⟩,
       ⟨some 128,false,0,0,fun _ v _=>v=.slice (some ⟨b7,o7,none⟩) (nv+1) c77⟩,
       ⟨some 129,false,0,0,fun _ v _=>v=.pointer (some ⟨b7,o7,none⟩)⟩,
       ⟨some 130,false,0,0,fun _ v _=>v=.agg #[.int .i64 ka,.string ta,.slice Aa na ca,.slice Ba ma da]⟩,
       ⟨some 131,false,0,0,fun _ v _=>v=.slice (some ⟨b7,o7,none⟩) (nv+1) c77⟩,
       ⟨some 132,false,0,0,fun _ v _=>v=.slice (some ⟨b7,o7,none⟩) (nv+1) c77⟩,
       ⟨some 133,false,0,0,fun _ v _=>v=.int .i64 ((nv:Int)+1)⟩,
       ⟨some 134,false,0,0,fun _ v _=>v=.int .i64 (nv:Int)⟩,
       ⟨some 135,false,0,0,fun _ v _=>v=.pointer (some ⟨b7,o7+nv * 4,none⟩)⟩,
       ⟨some 136,false,0,0,fun _ v _=>v=.agg #[.int .i64 kb,.string tb,.slice Ab nb cb,.slice Bb mb db]⟩,
       ⟨some 137,true,0,0,fun _ v _=>v=.bool true⟩,
       ⟨some 138,false,1,1,fun _ v _=>v=.bool false⟩,
       ⟨some 139,false,1,1,fun _ v _=>v=.bool false⟩] (fun _ w'=>Below wr2.heap.size wr2 w') (fun _ w w'=>Below w.heap.size w w') [116,117,118,119,120,121,122,123,124,125,126,127,128,129,130,131,132,133,134,135,136,137,138,139] rfl (by kernel_rfl) rfl ?g0 ?keep ?steps ?fin
     case keep=>
      intro e he s v w w' hm hlo hsM ht hv;simp only [List.mem_cons,List.not_mem_nil,or_false] at he;rcases he with rfl|rfl|rfl|rfl|rfl|rfl|rfl|rfl|rfl|rfl|rfl|rfl|rfl|rfl|rfl|rfl|rfl|rfl|rfl|rfl|rfl|rfl|rfl|rfl
      all_goals first|exact hv|(exfalso;dsimp only at hlo;omega)|(intro h3;exfalso;have:=hm rfl;dsimp only at this;omega)
     case steps=>
      refine ⟨?_,?_,?_,?_,?_,?_,?_,?_,?_,?_,?_,?_,?_,?_,?_,?_,?_,?_,?_,?_,?_,?_,?_,?_,trivial⟩
      ·intro st hlo hhi ac w3 hg hG hd ho K hK;dsimp only at hlo hhi hG hK;rw [if_pos (by rfl)];exact op_move _ rfl (hK _ (hg.kp 10 (by simp)))
      ·intro st hlo hhi ac w3 hg hG hd ho K hK;dsimp only at hlo hhi hG hK;rw [if_pos (by rfl)];have f0:=hd ⟨0,.data⟩ (by simp) rfl _ rfl _ rfl;(try simp [Act.eval] at f0);go_simp;exact hK _ rfl
      ·intro st hlo hhi ac w3 hg hG hd ho K hK;dsimp only at hlo hhi hG hK;rw [if_pos (by rfl)];have k1:=hg.kp 1 (by simp);(try simp [Act.eval] at k1);go_simp;exact hK _ rfl
      ·intro st hlo hhi ac w3 hg hG hd ho K hK;dsimp only at hlo hhi hG hK;rw [if_pos (by rfl)];have kk:=(HKB2.out.below hG HKB2.out.lt);have k0:=kk.cell;have zz:=kk.lt;clear kk hG;have f2:=hd ⟨2,.data⟩ (by simp) rfl _ rfl _ rfl;(try simp [Act.eval] at f2);go_simp;exact hK _ rfl
      ·intro st hlo hhi ac w3 hg hG hd ho K hK;dsimp only at hlo hhi hG hK;rw [if_pos (by rfl)];exact op_move _ rfl (hK _ (hg.kp 8 (by simp)))
      ·intro st hlo hhi ac w3 hg hG hd ho K hK;dsimp only at hlo hhi hG hK;rw [if_pos (by rfl)];have f3:=hd ⟨3,.data⟩ (by simp) rfl _ rfl _ rfl;have f4:=hd ⟨4,.data⟩ (by simp) rfl _ rfl _ rfl;(try simp [Act.eval] at f3);(try simp [Act.eval] at f4);go_simp;exact hK _ rfl
      ·intro st hlo hhi ac w3 hg hG hd ho K hK;dsimp only at hlo hhi hG hK;rw [if_pos (by rfl)];have f5:=hd ⟨5,.data⟩ (by simp) rfl _ rfl _ rfl;(try simp [Act.eval] at f5);go_simp;exact hK _ rfl
      ·intro st hlo hhi ac w3 hg hG hd ho K hK;dsimp only at hlo hhi hG hK;rw [if_pos (by rfl)];obtain ⟨k0,zz⟩:=HRC.out _ (HBW.out.trans (hG.mono HBW.out.size));clear hG;have f6:=hd ⟨6,.data⟩ (by simp) rfl _ rfl _ rfl;(try simp [Act.eval] at f6);go_simp;exact hK _ rfl
      ·intro st hlo hhi ac w3 hg hG hd ho K hK;dsimp only at hlo hhi hG hK;rw [if_pos (by rfl)];have f7:=hd ⟨7,.data⟩ (by simp) rfl _ rfl _ rfl;(try simp [Act.eval] at f7);go_simp;exact hK _ rfl
      ·intro st hlo hhi ac w3 hg hG hd ho K hK;dsimp only at hlo hhi hG hK;rw [if_pos (by rfl)];have f8:=hd ⟨8,.data⟩ (by simp) rfl _ rfl _ rfl;(try simp [Act.eval] at f8);go_simp;exact hK _ rfl
      ·intro st hlo hhi ac w3 hg hG hd ho K hK;dsimp only at hlo hhi hG hK;rw [if_pos (by rfl)];have f1:=hd ⟨1,.data⟩ (by simp) rfl _ rfl _ rfl;have f9:=hd ⟨9,.data⟩ (by simp) rfl _ rfl _ rfl;(try simp [Act.eval] at f1);(try simp [Act.eval] at f9);go_simp;exact hK _ rfl
      ·intro st hlo hhi ac w3 hg hG hd ho K hK;dsimp only at hlo hhi hG hK;rw [if_pos (by rfl)];exact op_move _ rfl (hK _ (hd ⟨10,.data⟩ (by simp) rfl _ rfl _ rfl))
      ·intro st hlo hhi ac w3 hg hG hd ho K hK;dsimp only at hlo hhi hG hK;rw [if_pos (wanted_of rfl rfl rfl (hd ⟨11,.guard⟩ (by simp) rfl _ rfl _ rfl))];exact op_move _ rfl (hK _ (hg.kp 10 (by simp)))
      ·intro st hlo hhi ac w3 hg hG hd ho K hK;dsimp only at hlo hhi hG hK;rw [if_pos (wanted_of rfl rfl rfl (hd ⟨11,.guard⟩ (by simp) rfl _ rfl _ rfl))];have f12:=hd ⟨12,.data⟩ (by simp) rfl _ rfl _ rfl;(try simp [Act.eval] at f12);go_simp;exact hK _ rfl
      ·intro st hlo hhi ac w3 hg hG hd ho K hK;dsimp only at hlo hhi hG hK;rw [if_pos (wanted_of rfl rfl rfl (hd ⟨11,.guard⟩ (by simp) rfl _ rfl _ rfl))];obtain ⟨⟨⟨k0,k1,k2,k3⟩,_⟩,zz⟩:=HPQ.out _ hG;clear hG;have f13:=hd ⟨13,.data⟩ (by simp) rfl _ rfl _ rfl;(try simp [Act.eval] at f13);go_simp;exact hK _ rfl
      ·intro st hlo hhi ac w3 hg hG hd ho K hK;dsimp only at hlo hhi hG hK;rw [if_pos (wanted_of rfl rfl rfl (hd ⟨11,.guard⟩ (by simp) rfl _ rfl _ rfl))];exact op_move _ rfl (hK _ (hg.kp 10 (by simp)))
      ·intro st hlo hhi ac w3 hg hG hd ho K hK;dsimp only at hlo hhi hG hK;rw [if_pos (wanted_of rfl rfl rfl (hd ⟨11,.guard⟩ (by simp) rfl _ rfl _ rfl))];exact op_move _ rfl (hK _ (hg.kp 10 (by simp)))
      ·intro st hlo hhi ac w3 hg hG hd ho K hK;dsimp only at hlo hhi hG hK;rw [if_pos (wanted_of rfl rfl rfl (hd ⟨11,.guard⟩ (by simp) rfl _ rfl _ rfl))];have f16:=hd ⟨16,.data⟩ (by simp) rfl _ rfl _ rfl;(try simp [Act.eval] at f16);go_simp;exact hK _ rfl
      ·intro st hlo hhi ac w3 hg hG hd ho K hK;dsimp only at hlo hhi hG hK;rw [if_pos (wanted_of rfl rfl rfl (hd ⟨11,.guard⟩ (by simp) rfl _ rfl _ rfl))];have f17:=hd ⟨17,.data⟩ (by simp) rfl _ rfl _ rfl;(try simp [Act.eval] at f17);go_simp;exact hK _ rfl
      ·intro st hlo hhi ac w3 hg hG hd ho K hK;dsimp only at hlo hhi hG hK;rw [if_pos (wanted_of rfl rfl rfl (hd ⟨11,.guard⟩ (by simp) rfl _ rfl _ rfl))];have f15:=hd ⟨15,.data⟩ (by simp) rfl _ rfl _ rfl;have f18:=hd ⟨18,.data⟩ (by simp) rfl _ rfl _ rfl;(try simp [Act.eval] at f15);(try simp [Act.eval] at f18);go_simp;exact hK _ rfl
      ·intro st hlo hhi ac w3 hg hG hd ho K hK;dsimp only at hlo hhi hG hK;rw [if_pos (wanted_of rfl rfl rfl (hd ⟨11,.guard⟩ (by simp) rfl _ rfl _ rfl))];obtain ⟨⟨_,⟨k0,k1,k2,k3⟩⟩,zz⟩:=HPQ.out _ hG;clear hG;have f19:=hd ⟨19,.data⟩ (by simp) rfl _ rfl _ rfl;(try simp [Act.eval] at f19);go_simp;exact hK _ rfl
      ·intro ac w3 hg hG hd ho K hK;dsimp only [Nat.zero_add,Nat.reduceAdd] at hG hK;rw [if_pos (wanted_of rfl rfl rfl (hd ⟨11,.guard⟩ (by simp) rfl _ rfl _ rfl))];have f1:=hd ⟨14,.data⟩ (by simp) rfl _ rfl _ rfl;have f2:=hd ⟨20,.data⟩ (by simp) rfl _ rfl _ rfl;have hs9:=same_any (VRd.below HVA.out (fun j hj=>nLl hj HLE.out) hG) (VRd.below HVB.out (fun j hj=>nLl hj HLE.out) hG);rw [eqJ_refl] at hs9;simp [Act.eval] at f1 f2;go_simp;(refine hs9.mono ?_);rintro e w4 ⟨rfl,hb4⟩;exact hK (.bool true) w4 hb4 (hG.trans (hb4.mono hG.size)) rfl
      ·intro st hlo hhi ac w3 hg hG hd ho K hK;dsimp only at hlo hhi hG hK;rw [if_pos (wanted_of rfl rfl rfl (hd ⟨11,.guard⟩ (by simp) rfl _ rfl _ rfl))];have f21:=hd ⟨21,.data⟩ (by simp) rfl _ rfl _ rfl;(try simp [Act.eval] at f21);go_simp;exact hK _ rfl
      ·intro st hlo hhi ac w3 hg hG hd ho K hK;dsimp only at hlo hhi hG hK;rw [if_pos (by rfl)];have f11:=hd ⟨11,.data⟩ (by simp) rfl _ rfl _ rfl;have f22:=hd ⟨22,.data⟩ (by simp) rfl _ rfl _ rfl;(try simp [Act.eval] at f11);(try simp [Act.eval] at f22);go_simp;exact hK _ rfl
     case g0=>exact bR.drew
     case fin=>
      intro f9 w9 hG hall;have h139:=hall _ (List.mem_of_getElem? (i:=23) rfl) 139 rfl;clear hall;have HB9:=hide (HI.out.trans ((HBW.out.trans (hG.mono HBW.out.size)).mono HI.out.size));clear hG hw1 hw2 hnlt;have hn80:=HN.out;simp only [fillF,List.map_cons,List.map_nil,List.foldl_cons,List.foldl_nil,Act.put,List.setIfInBounds_toArray,List.set_cons_zero,List.set_cons_succ];rw [show f9 139=.bool false from h139];clear h139;go_wp2_with fail
      refine ⟨⟨k+1,by go_num,by omega,hide HB9.out⟩,?_⟩;simp [intOf];omega
    ·have hltI:¬ (k:Int)<n:=by omega
     have HRC2:=hide (rcheck_any outer Ao no co wr ((HP8.out.out.below HI.out).more HI.out.size) HP8.out.osm);have HBF:=hide (HB8.out.trans (HI.out.mono HB8.out.size));have hrs:=HRS.out;rw [hrs] at HRC2;clear hrs;go_wp2_with (go_at_call 15;go_loud (refine HRC2.out.mono ?_);rintro e wz ⟨rfl,hbz⟩;have HBZ:=hide (btr HBF.out hbz);clear hbz)
     go_ret;exact ⟨rfl,HBZ.out⟩
end Go.Proofs.YtacinobmcgcccaaGreatDoor
/- How a law's arguments are opened: slices of flat structs. -/
namespace Go.Proofs.YtacinobmcgcccaaGreatDoor
open Go.ChangeShapes Go.WideShapes Go.ChangeAt Go.RowKit Go.Deep
theorem own_knob:ownKnob Tryz.prog.godebug=none:=by kernel_rfl
theorem laid_out:laidOutB Tryz.prog=true:=by kernel_rfl
section
variable {H:Type} {enc:TypeId × Value→H} {P:Program} {w:World} {base:Nat} {spare:Nat→Bool} {held:Bool}
theorem open_slice_fields {t e:TypeId} {fs:Array Field} {fuel:Nat} {cs:List Value} {x:DataW H × List MemPlace} (ht:P.underlying t=some (.slice e)) (he:P.underlying e=some (.struct fs))
 (hone:oneCellFields P fs=true) (hC:P.cellsOf e=fs.size) (h:DataW.trod enc P w base spare held fuel t cs=some x) :
 (cs=[.slice none 0 0]∧x=(.nil,[])) ∨
 ∃ (a:Addr) (len cap m:Nat) (D:Nat→DataW H) (Pl:Nat→List MemPlace),cs=[.slice (some a) len cap]∧base≤a.block∧len≤cap∧cap≤maxLen∧m=(if spare a.block then cap else len) ∧
  x=(.slice ((List.range len).map D) ((List.range (m - len)).map fun j=>D (len+j)),MemPlace.row a (m * fs.size)++(List.range m).flatMap Pl) ∧
  ∀ i,i<m → ∃ (ys:List (DataW H × List MemPlace)) (n:Nat),D i=.agg (ys.map (·.1))∧Pl i=ys.flatMap (·.2)∧ys.length=fs.size ∧
   ∀ (j:Nat) (f:Field),fs[j]? = some f → ∃ (v:Value) (y:DataW H × List MemPlace),w.cell? (a.add (i * fs.size+j))=some v∧ys[j]? = some y∧DataW.trod enc P w base spare held n f.type [v]=some y:=by
 rcases open_slice ht h with h0|⟨a,len,cap,m,n,D,Pl,hcs,hb,hl,hm,hmm,hx,hi⟩
 ·exact .inl h0
 ·refine .inr ⟨a,len,cap,m,D,Pl,hcs,hb,hl,hm,hmm,by rw [hC] at hx;exact hx,fun i him=>?_⟩;obtain ⟨cs',hc,ht'⟩:=hi i him;rw [hC] at hc;obtain ⟨ys,n',hn',hy,hlen,hyl,hf⟩:=DataW.trod_struct he ht';obtain ⟨_,hcl,hat⟩:=World.cells?_some hc;simp only [Prod.mk.injEq] at hy;refine ⟨ys,n',hy.1,hy.2,hyl,fun j f hj=>?_⟩;obtain ⟨ho,hk⟩:=hone_of hone j f hj;have hjl:j<fs.size:=(Array.getElem?_eq_some_iff.1 hj).1;have hcell:=hat j hjl;have hv:cs'[j]? = some (cs'[j]'(by omega)):=List.getElem?_eq_getElem (by omega);have h1:=hf j f hj;rw [ho,hk] at h1;have hone':(cs'.drop j).take 1=[cs'[j]'(by omega)]:=by
   rw [List.drop_eq_getElem_cons (by omega)];rfl
  rw [hone'] at h1;have hys:ys[j]? = some (ys[j]'(by omega)):=List.getElem?_eq_getElem (by omega);refine ⟨_,_,?_,hys,h1.trans hys⟩;rw [← Go.Deep.add_add,hcell,hv]
end
theorem cell_lt {w:World} {a:Addr} {v:Value} (h:w.cell? a=some v):a.block<w.heap.size:=by
 rcases Nat.lt_or_ge a.block w.heap.size with h1|h1
 ·exact h1
 ·unfold World.cell? at h;rw [Array.getElem?_eq_none h1] at h;cases h
theorem list_of_fn {α:Type} {P:Nat→α→Prop}:∀ (n:Nat),(∀ i,i<n → ∃ x,P i x) → ∃ l:List α,l.length=n ∧ ∀ i (h:i<l.length),P i l[i]
 | 0,_=>⟨[],rfl,fun i h=>by simp at h⟩
 | n+1,h=>by
   obtain ⟨l,hl,hp⟩:=list_of_fn n (fun i hi=>h i (by omega));obtain ⟨x,hx⟩:=h n (by omega);refine ⟨l++[x],by simp [hl],fun i hi=>?_⟩;rcases Nat.lt_or_ge i l.length with h1|h1
   ·rw [List.getElem_append_left h1];exact hp i h1
   ·have:i=n:=by simp at hi;omega
    subst this;rw [List.getElem_append_right h1];simp [hl];exact hx
theorem Sl.mk {α:Type} {k:Nat} {enc:α→List Value} {w:World} {B n:Nat} {ad:Addr} {l:List α} (henc:∀ x,(enc x).length=k) (hk:0<k) (hl:l.length=n) (hB:ad.block<B)
 (hc:∀ i (hi:i<l.length) j u,(enc l[i])[j]? = some u→w.cell? (ad.add (i * k+j))=some u):Sl k enc w B (some ad) n l:=by
 refine ⟨hl,by rw [flat_len henc,hl],fun _=>⟨ad,rfl,hB,fun j u hu=>?_⟩⟩;have hj:=(List.getElem?_eq_some_iff.1 hu).1;rw [flat_len henc] at hj;have hi:j / k<l.length:=(Nat.div_lt_iff_lt_mul hk).2 hj;have e:j / k * k+j % k=j:=Nat.div_add_mod' j k;have:=hc (j / k) hi (j % k) u (by rw [← flat_get henc l (j / k) hi (j % k) (Nat.mod_lt _ hk),e];exact hu);rw [e] at this;exact this
def u8ren:Go.Shelf.Ren:=⟨fun n=>n,fun|5=>5|119=>197|138=>199|139=>200|n=>n,fun|3=>0|4=>1|n=>n⟩
theorem u8types:U8Types Tryz.prog u8ren:=⟨Tryz.underlying5,Tryz.underlying197,Tryz.underlying199,Tryz.underlying200⟩
theorem u8extra:U8Extra Tryz.prog u8ren:=⟨by kernel_rfl,by kernel_rfl,by kernel_rfl,by kernel_rfl,by kernel_rfl,by kernel_rfl,by kernel_rfl⟩
theorem laid_vars {P:Program} {w:World}:∀ {l:List (String × DataW Unit)} {ps:List MemPlace},DataW.LaidVars P w l ps → ∀ {n:String} {d:DataW Unit},(n,d)∈l →
 ∃ g t cs fuel p,P.globalNamed n=some g∧(P.globals[g]?).map (·.type)=some t∧w.var? P n=some cs∧DataW.trod (fun _=>()) P w 0 (fun _=>true) false fuel t cs.toList=some (d,p)
 | [],_,_,_,_,hm=>by cases hm
 | (n',d') :: r,ps,h,n,d,hm=>by
  obtain ⟨g,t,cs,fuel,p,q,h1,h2,h3,h4,h5,_⟩:=h;rcases List.mem_cons.1 hm with e|e
  ·cases e;exact ⟨g,t,cs,fuel,p,h1,h2,h3,h4⟩
  ·exact laid_vars h5 e
theorem i64_wf2 {n:Int} (h:(Lit.int .i64 n).wf=true):-9223372036854775808≤n∧n<9223372036854775808:=by
 have h1:IntKind.i64.min≤n∧n≤IntKind.i64.max:=by simpa [Lit.wf] using h
 have e1:IntKind.i64.min = -9223372036854775808:=by decide
 have e2:IntKind.i64.max=9223372036854775807:=by decide
 omega
theorem laid_reads {P:Program} {w:World} {l:List (String × DataW Unit)} (h:laidMet P l w) {n:String} {d:DataW Unit} (hm:(n,d)∈l) :
 ∃ g t cs fuel p,P.globalNamed n=some g∧(P.globals[g]?).map (·.type)=some t∧w.var? P n=some cs∧DataW.trod (fun _=>()) P w 0 (fun _=>true) false fuel t cs.toList=some (d,p):=by
 obtain ⟨ps,hv,_⟩:=h;exact laid_vars hv hm
theorem gt_of_laid {W : World} {l : List (String × DataW Unit)} (h0 : laidMetH Tryz.prog l W) (hl : (l.all fun x => x.2.handleName?.isNone) = true) {i j k : Nat} (h1 : l[i]? = some ("unicode/utf8.first", Lib.firstData)) (h2 : l[j]? = some ("unicode/utf8.acceptRanges", Lib.acceptData)) (h3 : l[k]? = some ("internal/strconv.uint64pow10", Lib.tabData .u64 Lib.pow10Tab)) : GT W := by
 have h:=(laidMetH_iff.1 h0).1;rw [List.filter_eq_self.2 (fun x hx=>List.all_eq_true.1 hl x hx)] at h;refine ⟨utf8Tabs_of_readsT u8types u8extra (Lib.laidMet.reads h (List.mem_of_getElem? h1)) (Lib.laidMet.reads h (List.mem_of_getElem? h2)),?_⟩;obtain ⟨g,t,cs,fuel,p,hg,hty,hv,hd⟩:=laid_reads h (List.mem_of_getElem? h3);obtain rfl:=Option.some.inj (pow_named.symm.trans hg);obtain rfl:=Option.some.inj ((show (Tryz.prog.globals[2]?).map (·.type)=some 249 by kernel_rfl).symm.trans hty);unfold Lib.TabIs;rw [hv,← Lib.cells_of_tab Tryz.underlying249 Tryz.underlying78 (by kernel_rfl) (by kernel_rfl) hd]
theorem weights_mem_all {H:Type} {P:Program} {e:TypeId}:∀ {ds:List (DataW H)} {d:DataW H},d∈ds → ∀ n∈d.weights P e,n∈DataW.weightsAll P e ds
 | x :: ds,d,hd,n,hn=>by
   simp only [DataW.weightsAll,List.mem_append];rcases List.mem_cons.1 hd with rfl|hd
   ·exact .inl hn
   ·exact .inr (weights_mem_all hd n hn)
theorem pt_cells:Tryz.prog.cellsOf TPt=2:=by kernel_rfl
theorem pt_bytes:Tryz.prog.bytesOf TPt=16:=by kernel_rfl
theorem pc_cells:Tryz.prog.cellsOf TPc=3:=by kernel_rfl
theorem pc_bytes:Tryz.prog.bytesOf TPc=48:=by kernel_rfl
section
variable {H:Type} {enc:TypeId × Value→H} {W:World}
theorem open_ring {v:Value} {fuel:Nat} {y:DataW H × List MemPlace} (h:DataW.trod enc Tryz.prog W 0 (fun _=>true) true fuel 23 [v]=some y) (hw:∀ x∈y.1.weights Tryz.prog 23,x≤reachBytes) :
 ∃ A n c l,v=.slice A n c∧PR W W.heap.size A n l∧n≤c∧c≤maxLen∧n≤8796093022208:=by
 rcases open_slice_fields Tryz.underlying23 Tryz.underlying56 (by kernel_rfl) pt_cells h with ⟨hcs,_⟩|⟨a,len,cap,m,D,Pl,hcs,_,hl,hm,hmm,hx,hi⟩
 ·simp at hcs;subst hcs;exact ⟨none,0,0,[],rfl,Sl.nil _,Nat.le_refl _,Nat.zero_le _,Nat.zero_le _⟩
 ·simp at hcs;subst hcs;simp only [if_pos] at hmm;subst hmm;obtain ⟨hd,hp⟩:=Prod.mk.inj (show (y.1,y.2)=_ from hx);have hwn:=hw ((((List.range len).map D).length+((List.range (m - len)).map fun j=>D (len+j)).length) * Tryz.prog.bytesOf TPt) (by rw [hd];simp [DataW.weights,Tryz.underlying23]);rw [pt_bytes] at hwn;simp [reachBytes] at hwn;obtain ⟨l,hll,hlc⟩:=list_of_fn (P:=fun i (p:Pt)=>∀ j u,p.enc[j]? = some u→W.cell? (a.add (i * 2+j))=some u) len (fun i hi'=>by
   obtain ⟨ys,k,hD,_,_,hf⟩:=hi i (by omega);obtain ⟨v0,y0,c0,_,t0⟩:=hf 0 _ rfl;obtain ⟨v1,y1,c1,_,t1⟩:=hf 1 _ rfl;obtain ⟨x0,e0,_,w0⟩:=DataW.trod_int Tryz.underlying3 t0;obtain ⟨x1,e1,_,w1⟩:=DataW.trod_int Tryz.underlying3 t1;simp at e0 e1;subst e0 e1;refine ⟨⟨x0,x1⟩,fun j u hu=>?_⟩
   match j,hu with
   | 0,hu=>simp [Pt.enc] at hu;subst hu;exact c0
   | 1,hu=>simp [Pt.enc] at hu;subst hu;exact c1
   | j+2,hu=>simp [Pt.enc] at hu)
  refine ⟨some a,len,m,l,rfl,?_,hl,hm,by omega⟩;rcases Nat.eq_zero_or_pos len with h0|h0
  ·subst h0;have:l=[]:=List.eq_nil_of_length_eq_zero hll;subst this;exact Sl.nil _
  ·refine Sl.mk Pt.enc_len (by omega) hll ?_ (fun i hi'=>hlc i hi');have:=cell_lt (hlc 0 (by omega) 0 _ rfl);rw [block_of_add] at this;exact this
theorem open_parcels {v:Value} {fuel:Nat} {y:DataW H × List MemPlace} (h:DataW.trod enc Tryz.prog W 0 (fun _=>true) true fuel 24 [v]=some y) (hw:∀ x∈y.1.weights Tryz.prog 24,x≤reachBytes) :
 ∃ A n c l,v=.slice A n c∧PsR W W.heap.size A n l∧n≤c∧c≤maxLen∧n≤8796093022208:=by
 rcases open_slice_fields Tryz.underlying24 Tryz.underlying43 (by kernel_rfl) pc_cells h with ⟨hcs,_⟩|⟨a,len,cap,m,D,Pl,hcs,_,hl,hm,hmm,hx,hi⟩
 ·simp at hcs;subst hcs;exact ⟨none,0,0,[],rfl,⟨Sl.nil _,fun v hv=>by cases hv⟩,Nat.le_refl _,Nat.zero_le _,Nat.zero_le _⟩
 ·simp at hcs;subst hcs;simp only [if_pos] at hmm;subst hmm;obtain ⟨hd,hp⟩:=Prod.mk.inj (show (y.1,y.2)=_ from hx);have hwn:=hw ((((List.range len).map D).length+((List.range (m - len)).map fun j=>D (len+j)).length) * Tryz.prog.bytesOf TPc) (by rw [hd];simp [DataW.weights,Tryz.underlying24]);rw [pc_bytes] at hwn;simp [reachBytes] at hwn;obtain ⟨l,hll,hlc⟩:=list_of_fn (P:=fun i (p:Pv)=>PvOk W W.heap.size p ∧ ∀ j u,p.enc[j]? = some u→W.cell? (a.add (i * 3+j))=some u) len (fun i hi'=>by
   obtain ⟨ys,k,hD,_,_,hf⟩:=hi i (by omega);obtain ⟨v0,y0,c0,g0,t0⟩:=hf 0 _ rfl;obtain ⟨v1,y1,c1,g1,t1⟩:=hf 1 _ rfl;obtain ⟨v2,y2,c2,g2,t2⟩:=hf 2 _ rfl;have hin:∀ x∈(D i).weights Tryz.prog TPc,x≤reachBytes:=fun x hx=>hw x (by
    rw [hd];simp only [DataW.weights,Tryz.underlying24];exact List.mem_cons_of_mem _ (List.mem_append_left _ (weights_mem_all (d:=D i) (List.mem_map.2 ⟨i,List.mem_range.2 hi',rfl⟩) x hx)))
   obtain ⟨x0,e0,_,w0⟩:=DataW.trod_int Tryz.underlying3 t0;obtain ⟨A1,n1,c1',l1,e1,r1,q1,q2,q3⟩:=open_ring t1 (fun x hx=>hin x (by
    rw [hD];simp only [DataW.weights,Tryz.underlying43];refine DataW.weights_mem_each (j:=1) (t:=23) (d:=y1.1) rfl ?_ x hx;rw [List.getElem?_map,g1];rfl))
   obtain ⟨s,e2,hy2,_⟩:=DataW.trod_string Tryz.underlying9 t2;have hs:s.size≤140737488355328:=by
    have:=hin s.data.toList.length (by
     rw [hD];simp only [DataW.weights,Tryz.underlying43];refine DataW.weights_mem_each (j:=2) (t:=9) (d:=y2.1) rfl ?_ _ ?_
     ·rw [List.getElem?_map,g2];rfl
     ·rw [hy2];simp [DataW.weights])
    simp [reachBytes] at this;have e:s.data.size=s.size:=rfl;omega
   simp at e0 e2;subst e0 e1 e2;refine ⟨⟨⟨x0,l1,s⟩,A1,n1,c1'⟩,⟨r1,q1,q2,q3,(show -9223372036854775808≤x0∧x0≤9223372036854775807 from by have:=i64_wf2 w0;omega),hs⟩,fun j u hu=>?_⟩
   match j,hu with
   | 0,hu=>simp [Pv.enc] at hu;subst hu;exact c0
   | 1,hu=>simp [Pv.enc] at hu;subst hu;exact c1
   | 2,hu=>simp [Pv.enc] at hu;subst hu;exact c2
   | j+3,hu=>simp [Pv.enc] at hu)
  refine ⟨some a,len,m,l,rfl,⟨?_,fun x hx=>by obtain ⟨i,hi',rfl⟩:=List.getElem_of_mem hx;exact (hlc i hi').1⟩,hl,hm,by omega⟩;rcases Nat.eq_zero_or_pos len with h0|h0
  ·subst h0;have:l=[]:=List.eq_nil_of_length_eq_zero hll;subst this;exact Sl.nil _
  ·refine Sl.mk Pv.enc_len (by omega) hll ?_ (fun i hi'=>(hlc i hi').2);have:=cell_lt ((hlc 0 (by omega)).2 0 _ rfl);rw [block_of_add] at this;exact this
theorem pl_cells:Tryz.prog.cellsOf TPl=2:=by kernel_rfl
set_option maxRecDepth 100000 in
theorem open_plan {r:Reach} {b0:Nat} {v:Value} {d:DataW H} {p:List MemPlace} (hv:Value.okWide Tryz.prog W r b0 TPl v) (h:DataW.Trod enc Tryz.prog W 0 (fun _=>true) true TPl v d p) (hw:∀ x∈d.weights Tryz.prog TPl,x≤reachBytes) :
 ∃ P:PlV,v=P.val∧PlOk W W.heap.size P:=by
 obtain ⟨c0,c1,y0,y1,m,rfl,rfl,_,h0,h1⟩:=Joins.open_agg2 Tryz.underlying26 (by kernel_rfl) pl_cells hv h;obtain ⟨A,n,c,l,rfl,r1,q1,q2,q3⟩:=open_ring h0 (fun x hx=>hw x (by
  simp only [DataW.weights,Tryz.underlying26];exact DataW.weights_mem_each (j:=0) (t:=23) (d:=y0.1) rfl rfl x hx))
 obtain ⟨A',n',c',l',rfl,r1',q1',q2',q3'⟩:=open_parcels h1 (fun x hx=>hw x (by
  simp only [DataW.weights,Tryz.underlying26];exact DataW.weights_mem_each (j:=1) (t:=24) (d:=y1.1) rfl rfl x hx))
 exact ⟨⟨A,n,c,l,A',n',c',l'⟩,rfl,r1,q1,q2,q3,r1',q1',q2',q3'⟩
end
end Go.Proofs.YtacinobmcgcccaaGreatDoor
