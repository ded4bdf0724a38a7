/- The reference: Check of plans: its pairs. -/
import Derived.Test.YtacinobmcgcccaaGreatDoorK38
import Derived.Test.YtacinobmcgcccaaGreatDoorK12
import Derived.BigQuiet
import Derived.Deep.CutRange
set_option linter.unusedSimpArgs false
set_option linter.unusedVariables false
namespace Go.Proofs.YtacinobmcgcccaaGreatDoor
open Go.RowKit Go.Shelf
theorem er_at {w:World} {B n:Nat} {A:Option Addr} {l:List Eg} (h:ER w B A n l) (h0:0<n):∃ b o,A=some ⟨b,o,none⟩∧b<B ∧ ∀ k (hk:k<l.length),w.cell? ⟨b,o+k * 4,none⟩=some (.int .i64 l[k].a.x)∧w.cell? ⟨b,o+k * 4+1,none⟩=some (.int .i64 l[k].a.y)∧w.cell? ⟨b,o+k * 4+2,none⟩=some (.int .i64 l[k].b.x)∧w.cell? ⟨b,o+k * 4+3,none⟩=some (.int .i64 l[k].b.y):=by
 obtain ⟨b,o,hA,hb,hcs⟩:=Sl.at h Eg.enc_len (by omega) h0;exact ⟨b,o,hA,hb,fun k hk=>⟨hcs k hk 0 _ rfl,hcs k hk 1 _ rfl,hcs k hk 2 _ rfl,hcs k hk 3 _ rfl⟩⟩
set_option maxRecDepth 100000 in
set_option maxHeartbeats 8000000 in
theorem check_pairs (outer:List Pt) (l:List Eg) (Al Ab:Option Addr) (N cl m cb:Nat) (w w1:World) (hl:ER w1 w1.heap.size Al N l) (hb:ER w1 w1.heap.size Ab m (edgesL outer)) (hN:N≤1000000) (hm:m≤1000000) (hbw:Below w.heap.size w w1) (hg:∀ e∈l,e.good)
 (u0 u1 u2 u3 u4 u5 u6 u7 u8 u11 u12 u13 u14 u15 u16 u17 u18 u19 u20 u21 u22 u23 u24 u25 u26 u27 u28 u29 u30 u31 u32 u33 u34 u35 u36 u37 u38 u39 u40 u41 u42 u43 u44 u45 u46 u47 u48 u49 u50 u51 u52 u53 u54 u55 u56 u57 u58 u59 u60 u61 u62 u63 u64 u65 u66 u67 u68 u69 u70 u71 u72 u73 u74 u75 u76 u77 u78 u79 u80 u81 u82 u83 u84 u85 u86 u87 u88 u89 u90 u91 u92 u93 u94 u95 u96 u97 u98 u99 u100 u101 u102 u103 u104 u105 u106 u107 u108 u109 u110 u111 u112 u113 u114 u115 u116 u117 u118 u119 u120 u121 u122 u123 u124 u125 u126 u127 u128 u129 u130 u131 u132 u133 u134 u135 u136 u137 u138 u139 u140 u141 u142 u143 u144 u145 u146 u147 u148 u149 u150 u151 u152 u153 u154 u155 u156 u157 u158 u159 u160 u161 u162 u163 u164 u165 u166 u167 u168 u169 u170 u171 u172 u173 u174 u175 u176 u177 u178 u179 u180 u181 u182 u183 u184 u185 u186 u187 u188 u189 u190 u191:Value):Code.wp Tryz.prog (BK 8) (bodyPost Tryz.prog Tryz.f18 fun e w'=>e=.returned (.bool (matchedB outer l&&cleanB l))∧Below w.heap.size w w') { tmps:=#[u0,u1,u2,u3,u4,u5,u6,u7,u8,.slice Al N cl,.slice Ab m cb,u11,u12,u13,u14,u15,u16,u17,u18,u19,u20,u21,u22,u23,u24,u25,u26,u27,u28,u29,u30,u31,u32,u33,u34,u35,u36,u37,u38,u39,u40,u41,u42,u43,u44,u45,u46,u47,u48,u49,u50,u51,u52,u53,u54,u55,u56,u57,u58,u59,u60,u61,u62,u63,u64,u65,u66,u67,u68,u69,u70,u71,u72,u73,u74,u75,u76,u77,u78,u79,u80,u81,u82,u83,u84,u85,u86,u87,u88,u89,u90,u91,u92,u93,u94,u95,u96,u97,u98,u99,u100,u101,u102,u103,u104,u105,u106,u107,u108,u109,u110,u111,u112,u113,u114,u115,u116,u117,u118,u119,u120,u121,u122,u123,u124,u125,u126,u127,u128,u129,u130,u131,u132,u133,u134,u135,u136,u137,u138,u139,u140,u141,u142,u143,u144,u145,u146,u147,u148,u149,u150,u151,u152,u153,u154,u155,u156,u157,u158,u159,u160,u161,u162,u163,u164,u165,u166,u167,u168,u169,u170,u171,u172,u173,u174,u175,u176,u177,u178,u179,u180,u181,u182,u183,u184,u185,u186,u187,u188,u189,u190,u191],defers:=[] } w1:=by
 have HL:=hide hl;have HB:=hide hb;have HLL:=hide hl.1;have HBW:=hide hbw;have HGD:=hide hg;obtain ⟨Z,hZ⟩:∃ Z,(matchedB outer l&&cleanB l)=Z:=⟨_,rfl⟩;rw [hZ];have HZ:=hide hZ;clear hl hb hbw hg hZ;rw [show BK 8=Code.seq (CK 8) (BK 9) from rfl]
 conv=>arg 2;arg 1;whnf
 go_wp2_with fail
 go_loopw [11] (fun v11 wr=>∃ (i:Nat),v11=.int .i64 (i:Int)∧i≤N∧Hid (Below w1.heap.size w1 wr∧PairI outer l i)) (fun v _=>N - (intOf v).toNat)
 case atStart=>exact ⟨0,rfl,by omega,hide ⟨Below.refl _ _,fun a _ h=>by omega,fun a b _ _ _ h=>by omega⟩⟩
 case round=>
  obtain ⟨i,rfl,hiN,HI⟩:=hrel;by_cases hlt:i<N
  ·have hltI:(i:Int)<N:=by omega
   have hil:i<l.length:=by rw [HLL.out];exact hlt
   have her:ER wr wr.heap.size Al N l:=(HL.out.below HI.out.1).more HI.out.1.size;have HP0:=hide (rplace_any (edgesL outer) l[i] Ab m cb wr ((HB.out.below HI.out.1).more HI.out.1.size) (by omega));have HP1:=hide (fun w0 (h:ER w0 w0.heap.size Al N l)=>rplace_any l l[i] Al N cl w0 h (by omega));have HP2:=hide (fun w0 (h:ER w0 w0.heap.size Al N l)=>rplace_any l l[i].back Al N cl w0 h (by omega));have hq0:=place_pos (edgesL outer) l[i];have hq2:=place_pos l l[i].back;have HER:=hide her;obtain ⟨b,o,rfl,hbb,hcs⟩:=er_at her (show 0<N by omega);obtain ⟨c0,c1,c2,c3⟩:=hcs i hil;obtain ⟨p0,hp0⟩:∃ p,placeV (edgesL outer) l[i]=p:=⟨_,rfl⟩;obtain ⟨p1,hp1⟩:∃ p,placeV l l[i]=p:=⟨_,rfl⟩;obtain ⟨p2,hp2⟩:∃ p,placeV l l[i].back=p:=⟨_,rfl⟩;rw [hp0] at HP0 hq0;rw [hp1] at HP1;rw [hp2] at HP2 hq2;have HV1:=hide hp1;obtain ⟨e,he⟩:∃ e,l[i]=e:=⟨_,rfl⟩;have HE:=hide he;rw [he] at c0 c1 c2 c3 HP0 HP1 HP2 hq0 hq2;dsimp only [Eg.back] at HP2;obtain ⟨t0,ht0⟩:∃ t,decide (0≤p0)=t:=⟨_,rfl⟩;obtain ⟨t2,ht2⟩:∃ t,decide (0≤p2)=t:=⟨_,rfl⟩;rw [ht0] at hq0;rw [ht2] at hq2;have HQ0:=hide hq0;have HQ2:=hide hq2;clear hp0 hp1 hp2 he hq0 hq2 her hcs;have hbr:b<wr.heap.size:=hbb;have HC:=hide (show ∀ w',Below wr.heap.size wr w'→(w'.cell? ⟨b,o+i * 4,none⟩=some (.int .i64 e.a.x)∧w'.cell? ⟨b,o+i * 4+1,none⟩=some (.int .i64 e.a.y)∧w'.cell? ⟨b,o+i * 4+2,none⟩=some (.int .i64 e.b.x)∧w'.cell? ⟨b,o+i * 4+3,none⟩=some (.int .i64 e.b.y))∧b<w'.heap.size from fun w' h=>
    ⟨⟨(h.cell (p:=⟨b,o+i * 4,none⟩) hbr).trans c0,(h.cell (p:=⟨b,o+i * 4+1,none⟩) hbr).trans c1,(h.cell (p:=⟨b,o+i * 4+2,none⟩) hbr).trans c2,(h.cell (p:=⟨b,o+i * 4+3,none⟩) hbr).trans c3⟩,nLl hbr h.size⟩)
   go_upto_region 20 with (go_at_call 60;go_loud (refine HP0.out.mono ?_);rintro r w2 ⟨rfl,hb2⟩;have HB2:=hide hb2;have HER2:=hide (HER.out.later hb2);(obtain ⟨⟨d0,d1,d2,d3⟩,dz⟩:=HC.out _ hb2);clear hb2)
   clear c0 c1 c2 c3 hbb hbr;by_cases h1:p1=i
   ·have h1b:(p1 != (i:Int))=false:=by simp [h1]
    have HV:=hide h1;clear h1;cases hq:(t2 == t0)
    ·go_upto_region 22 with (first
      | (go_at_call 60;go_loud (refine (HP2.out w4 HER4.out).mono ?_);rintro r w5 ⟨rfl,hb5⟩;have HB5:=hide (HB4.out.trans (hb5.mono HB4.out.size));clear hb5)
      | (go_at_call 60;go_loud (refine (HP1.out w2 HER2.out).mono ?_);rintro r w3 ⟨rfl,hb3⟩;have HB3:=hide (HB2.out.trans (hb3.mono HB2.out.size));have HER3:=hide (HER2.out.later hb3);clear d0 d1 d2 d3 dz;(obtain ⟨⟨d0,d1,d2,d3⟩,dz⟩:=HC.out _ HB3.out);clear hb3)
      | (go_at_call 61;go_loud (refine (rback_any e w3).mono ?_);rintro r w4 ⟨rfl,hb4⟩;have HB4:=hide (HB3.out.trans (hb4.mono HB3.out.size));have HER4:=hide (HER3.out.later hb4);clear hb4))
     have HD:=hide (show decide (l[i].back∈l)≠decide (l[i]∈edgesL outer) from by
      rw [HE.out,← HQ2.out,← HQ0.out];intro h;rw [h] at hq;simp at hq)
     have HW5:=hide (HI.out.1.trans (HB5.out.mono HI.out.1.size));clear hq d0 d1 d2 d3 dz;go_wp2_with fail
     go_loopw [13] (fun v13 wj=>∃ (j:Nat),v13=.int .i64 (j:Int)∧i<j∧j≤N∧Hid (Below w1.heap.size w1 wj∧PairJ l i j)) (fun v _=>N - (intOf v).toNat)
     case atStart=>exact ⟨i+1,by go_num,by omega,by omega,hide ⟨HW5.out,fun b _ _ h1 h2=>by omega⟩⟩
     case round=>
      obtain ⟨j,rfl,hij,hjN,HJ⟩:=hrel;by_cases hlt2:j<N
      ·have hltJ:(j:Int)<N:=by omega
       have hjl:j<l.length:=by rw [HLL.out];exact hlt2
       obtain ⟨b',o',hA',hbj,hcj⟩:=er_at ((HL.out.below HJ.out.1).more HJ.out.1.size) (show 0<N by omega);injection hA' with hA';injection hA' with hA1 hA2;subst hA1 hA2;obtain ⟨c0,c1,c2,c3⟩:=hcj i hil;obtain ⟨d0,d1,d2,d3⟩:=hcj j hjl;have ge:=HGD.out _ (List.getElem_mem hil);have gf:=HGD.out _ (List.getElem_mem hjl);rw [HE.out] at c0 c1 c2 c3 ge;obtain ⟨f,hf⟩:∃ f,l[j]=f:=⟨_,rfl⟩;rw [hf] at d0 d1 d2 d3 gf;have HFJ:=hide hf;have HMT:=hide (fun w0=>rmeet_any e.a e.b f.a f.b w0 ge.1 ge.2 gf.1 gf.2);obtain ⟨k,hk⟩:∃ k,rmeetV e.a e.b f.a f.b=k:=⟨_,rfl⟩;rw [hk] at HMT;have hrg:=meetE_range e f;rw [show meetE e f=k from hk] at hrg;have HOK:=hide (ok_of (show meetE e f=k from hk));have hgp:Tryz.prog.eqGuardType Tryz.prog.depth 56=false:=by kernel_rfl
       have hge:Tryz.prog.eqGuardType Tryz.prog.depth TEg=false:=by kernel_rfl
       obtain ⟨w6,hw6⟩:∃ q,(wr.alloc (.cells #[.int .i64 e.a.x,.int .i64 e.a.y,.int .i64 e.b.x,.int .i64 e.b.y] TEg)).alloc (.cells #[.int .i64 f.a.x,.int .i64 f.a.y,.int .i64 f.b.x,.int .i64 f.b.y] TEg)=q:=⟨_,rfl⟩;have hbs:Bs w6 [(wr.heap.size+1,TEg,#[.int .i64 f.a.x,.int .i64 f.a.y,.int .i64 f.b.x,.int .i64 f.b.y]),(wr.heap.size,TEg,#[.int .i64 e.a.x,.int .i64 e.a.y,.int .i64 e.b.x,.int .i64 e.b.y])]:=by
        have h:=((Bs.nil wr).al #[.int .i64 e.a.x,.int .i64 e.a.y,.int .i64 e.b.x,.int .i64 e.b.y] TEg).al #[.int .i64 f.a.x,.int .i64 f.a.y,.int .i64 f.b.x,.int .i64 f.b.y] TEg;rw [← hw6];simpa using h
       have k2:=hbs _ (List.mem_of_getElem? (i:=0) rfl);have k1:=hbs _ (List.mem_of_getElem? (i:=1) rfl);have HK10:=hide k1;have HK20:=hide k2;have x1:=k1.cell;have y1:=k1.frozen;have z1:=k1.lt;have x2:=k2.cell;have y2:=k2.frozen;have z2:=k2.lt;have HB6:=hide (show Below wr.heap.size wr w6 from hw6 ▸ bal (bal bR _) _);have HW6:=hide hw6;clear hw6 hbs k1 k2 hf hk hcj ge gf;go_upto_region 27 with fail
       rw [HW6.out];clear c0 c1 c2 c3 d0 d1 d2 d3 hbj;go_upto_region 28 with (go_at_call 38;go_loud (refine (HMT.out w6).mono ?_);rintro r w7 ⟨rfl,hb7⟩;have h1:=HK10.out.below hb7 HK10.out.lt;have h2:=HK20.out.below hb7 HK20.out.lt;have HK1:=hide h1;have HK2:=hide h2;clear x1 y1 z1 x2 y2 z2;have x1:=h1.cell;have y1:=h1.frozen;have z1:=h1.lt;have x2:=h2.cell;have y2:=h2.frozen;have z2:=h2.lt;have HB7:=hide (HB6.out.trans (hb7.mono HB6.out.size));clear hb7 h1 h2)
       obtain ⟨t1,h1⟩:∃ t,(e.a.x == f.a.x&&e.a.y == f.a.y)=t:=⟨_,rfl⟩;obtain ⟨t3,h3⟩:∃ t,(e.a.x == f.b.x&&e.a.y == f.b.y)=t:=⟨_,rfl⟩;obtain ⟨t4,h4⟩:∃ t,(e.b.x == f.a.x&&e.b.y == f.a.y)=t:=⟨_,rfl⟩;obtain ⟨t5,h5⟩:∃ t,(e.b.x == f.b.x&&e.b.y == f.b.y)=t:=⟨_,rfl⟩;have HEN:=hide (ends_of h1 h3 h4 h5);have e1:=fun w1=>eq_pt e.a.x e.a.y f.a.x f.a.y w1
       have e2:=fun w1=>eq_pt e.a.x e.a.y f.b.x f.b.y w1
       have e3:=fun w1=>eq_pt e.b.x e.b.y f.a.x f.a.y w1
       have e4:=fun w1=>eq_pt e.b.x e.b.y f.b.x f.b.y w1
       rw [h1] at e1;rw [h3] at e2;rw [h4] at e3;rw [h5] at e4;clear h1 h3 h4 h5;obtain ⟨en,hen⟩:∃ q,(t1||(t3||(t4||t5)))=q:=⟨_,rfl⟩
       go_cut [17] from 133 to 158 (fun v wx=>v=.bool en∧wx=w7)
       case first=>
        cases t1
        ·cases t3
         ·cases t4
          ·go_wp2_with fail
           go_meet
           case rel=>exact ⟨by rw [← hen];rfl,rfl⟩
          ·go_wp2_with fail
           go_meet
           case rel=>exact ⟨by rw [← hen];rfl,rfl⟩
         ·go_wp2_with fail
          go_meet
          case rel=>exact ⟨by rw [← hen];rfl,rfl⟩
        ·go_wp2_with fail
         go_meet
         case rel=>exact ⟨by rw [← hen];rfl,rfl⟩
       case rest=>
        obtain ⟨hv,hwx⟩:=hcut;subst hv;have HW7:=hide (show Below w1.heap.size w1 wc from by rw [hwx];exact HJ.out.1.trans (HB7.out.mono HJ.out.1.size));clear x1 y1 z1 x2 y2 z2 e1 e2 e3 e4;subst hwx;have HEN2:=hide (show decide (endsE e f)=en from by rw [HEN.out,hen]);clear hen HEN;go_upto_region 29 with fail
        rcases (show k=0∨k=1∨k=2∨k=3 by omega) with rfl|rfl|rfl|rfl
        ·go_quiet (fail)
         have HB8:=hide (HW7.out.trans ((bdn _ nq).mono HW7.out.size));have HNX:=hide (pairJ_next HJ.out.2 hil hjl (by rw [HE.out,HFJ.out];exact HOK.out.2 (.inl rfl)));go_wp2_with fail
         go_roundw
         case rel=>exact ⟨j+1,by go_num,by omega,by omega,hide ⟨HB8.out,HNX.out⟩⟩
         case measure=>simp [intOf];omega
        ·cases en
         ·go_quiet (fail)
          have HB8:=hide (HW7.out.trans ((bdn _ nq).mono HW7.out.size));have HNO:=hide (show ¬ okE e f from fun h=>by
           have h2:=HEN2.out;simp only [decide_eq_false_iff_not] at h2;rcases HOK.out.1 h with h|⟨_,h⟩|⟨h,_⟩
           ·cases h
           ·exact h2 h
           ·cases h)
          have HF:=hide (show Z=false from by rw [← HZ.out];exact pair_no3 hil hjl hij (by rw [HE.out,HFJ.out];exact HNO.out));go_wp2_with fail
          go_ret;exact ⟨by rw [HF.out];rfl,HBW.out.trans (HB8.out.mono HBW.out.size)⟩
         ·go_quiet (fail)
          have HB8:=hide (HW7.out.trans ((bdn _ nq).mono HW7.out.size));have HNX:=hide (pairJ_next HJ.out.2 hil hjl (by rw [HE.out,HFJ.out];exact HOK.out.2 (.inr (.inl ⟨rfl,of_decide_eq_true HEN2.out⟩))));go_wp2_with fail
          go_roundw
          case rel=>exact ⟨j+1,by go_num,by omega,by omega,hide ⟨HB8.out,HNX.out⟩⟩
          case measure=>simp [intOf];omega
        ·go_quiet (fail)
         have HB8:=hide (HW7.out.trans ((bdn _ nq).mono HW7.out.size));have HNO:=hide (show ¬ okE e f from fun h=>by
          rcases HOK.out.1 h with h|⟨h,_⟩|⟨h,_⟩ <;> cases h)
         have HF:=hide (show Z=false from by rw [← HZ.out];exact pair_no3 hil hjl hij (by rw [HE.out,HFJ.out];exact HNO.out));go_wp2_with fail
         go_ret;exact ⟨by rw [HF.out];rfl,HBW.out.trans (HB8.out.mono HBW.out.size)⟩
        ·obtain ⟨tb,htb⟩:∃ t,decide (e=f.back)=t:=⟨_,rfl⟩;have q2:=fun w1=>eq_eg e f.back w1
         rw [htb] at q2;dsimp only [Eg.back] at q2;have HTB:=hide htb;clear htb;refine wp_region_stageW (by kernel_rfl) (by kernel_rfl) 192 1
          [⟨some 159,false,0,1,fun _ v _=>v=.int .i64 3⟩,
           ⟨some 160,false,0,1,fun _ v _=>v=.bool false⟩,
           ⟨some 161,false,0,1,fun _ v _=>v=.bool false⟩,
           ⟨some 162,false,0,1,fun _ v _=>v=.int .i64 3⟩,
           ⟨some 163,false,0,1,fun _ v _=>v=.bool false⟩,
           ⟨some 164,false,0,1,fun _ v _=>v=.bool false⟩,
           ⟨some 165,false,0,1,fun _ v _=>v=undef⟩,
           ⟨some 166,false,0,1,fun _ v _=>v=undef⟩,
           ⟨some 167,false,0,1,fun _ v _=>v=.bool false⟩,
           ⟨some 168,false,0,1,fun _ v _=>v=.bool false⟩,
           ⟨some 169,false,0,1,fun _ v _=>v=.bool false⟩,
           ⟨some 170,false,0,1,fun _ v _=>v=.int .i64 3⟩,
           ⟨some 171,false,0,1,fun _ v _=>v=.bool true⟩,
           ⟨some 172,false,0,1,fun _ v _=>v=.bool true⟩,
           ⟨some 173,false,0,1,fun _ v _=>v=.agg #[.int .i64 e.a.x,.int .i64 e.a.y,.int .i64 e.b.x,.int .i64 e.b.y]⟩,
           ⟨some 174,false,0,0,fun _ v _=>v=.agg #[.int .i64 f.a.x,.int .i64 f.a.y,.int .i64 f.b.x,.int .i64 f.b.y]⟩,
           ⟨some 175,true,0,0,fun _ v _=>v=.agg #[.int .i64 f.b.x,.int .i64 f.b.y,.int .i64 f.a.x,.int .i64 f.a.y]⟩,
           ⟨some 176,false,1,1,fun _ v _=>v=.bool (!tb)⟩,
           ⟨some 177,false,1,1,fun _ v _=>v=.bool (!tb)⟩,
           ⟨some 178,false,1,1,fun _ v _=>v=.bool (!tb)⟩] (fun _ w'=>Below wc.heap.size wc w') (fun _ w w'=>Below w.heap.size w w') [159,160,161,162,163,164,165,166,167,168,169,170,171,172,173,174,175,176,177,178] rfl (by kernel_rfl) rfl ?g0 ?keep ?steps ?fin
         case keep=>
          intro e he s v w w' hm hlo hsM ht hv;simp only [List.mem_cons,List.not_mem_nil,or_false] at he;rcases he with rfl|rfl|rfl|rfl|rfl|rfl|rfl|rfl|rfl|rfl|rfl|rfl|rfl|rfl|rfl|rfl|rfl|rfl|rfl|rfl
          all_goals first|exact hv|(exfalso;dsimp only at hlo;omega)|(intro h3;exfalso;have:=hm rfl;dsimp only at this;omega)
         case steps=>
          refine ⟨?_,?_,?_,?_,?_,?_,?_,?_,?_,?_,?_,?_,?_,?_,?_,?_,?_,?_,?_,?_,trivial⟩
          ·intro st hlo hhi ac w3 hg hG hd ho K hK;dsimp only at hlo hhi hG hK;rw [if_pos (by rfl)];exact op_move _ rfl (hK _ (hg.kp 16 (by simp)))
          ·intro st hlo hhi ac w3 hg hG hd ho K hK;dsimp only at hlo hhi hG hK;rw [if_pos (by rfl)];have f0:=hd ⟨0,.data⟩ (by simp) rfl _ rfl _ rfl;(try simp [Act.eval] at f0);go_simp;exact hK _ rfl
          ·intro st hlo hhi ac w3 hg hG hd ho K hK;dsimp only at hlo hhi hG hK;rw [if_pos (by rfl)];exact op_move _ rfl (hK _ (hd ⟨1,.data⟩ (by simp) rfl _ rfl _ rfl))
          ·intro st hlo hhi ac w3 hg hG hd ho K hK;dsimp only at hlo hhi hG hK;rw [if_pos (wanted_of rfl rfl rfl (hd ⟨2,.guard⟩ (by simp) rfl _ rfl _ rfl))];exact op_move _ rfl (hK _ (hg.kp 16 (by simp)))
          ·intro st hlo hhi ac w3 hg hG hd ho K hK;dsimp only at hlo hhi hG hK;rw [if_pos (wanted_of rfl rfl rfl (hd ⟨2,.guard⟩ (by simp) rfl _ rfl _ rfl))];have f3:=hd ⟨3,.data⟩ (by simp) rfl _ rfl _ rfl;(try simp [Act.eval] at f3);go_simp;exact hK _ rfl
          ·intro st hlo hhi ac w3 hg hG hd ho K hK;dsimp only at hlo hhi hG hK;rw [if_pos (wanted_of rfl rfl rfl (hd ⟨2,.guard⟩ (by simp) rfl _ rfl _ rfl))];exact op_move _ rfl (hK _ (hd ⟨4,.data⟩ (by simp) rfl _ rfl _ rfl))
          ·intro st hlo hhi ac w3 hg hG hd ho K hK;dsimp only at hlo hhi hG hK;rw [if_neg (unwanted_of rfl rfl rfl (hd ⟨5,.guard⟩ (by simp) rfl _ rfl _ rfl) (by decide))];exact hK undef rfl
          ·intro st hlo hhi ac w3 hg hG hd ho K hK;dsimp only at hlo hhi hG hK;rw [if_neg (unwanted_of rfl rfl rfl (hd ⟨5,.guard⟩ (by simp) rfl _ rfl _ rfl) (by decide))];exact hK undef rfl
          ·intro st hlo hhi ac w3 hg hG hd ho K hK;dsimp only at hlo hhi hG hK;rw [if_pos (wanted_of rfl rfl rfl (hd ⟨2,.guard⟩ (by simp) rfl _ rfl _ rfl))];have f5:=hd ⟨5,.data⟩ (by simp) rfl _ rfl _ rfl;have f7:=hd ⟨7,.data⟩ (by simp) rfl _ rfl _ rfl;(try simp [Act.eval] at f5);(try simp [Act.eval] at f7);go_simp;exact hK _ rfl
          ·intro st hlo hhi ac w3 hg hG hd ho K hK;dsimp only at hlo hhi hG hK;rw [if_pos (by rfl)];have f2:=hd ⟨2,.data⟩ (by simp) rfl _ rfl _ rfl;have f8:=hd ⟨8,.data⟩ (by simp) rfl _ rfl _ rfl;(try simp [Act.eval] at f2);(try simp [Act.eval] at f8);go_simp;exact hK _ rfl
          ·intro st hlo hhi ac w3 hg hG hd ho K hK;dsimp only at hlo hhi hG hK;rw [if_pos (by rfl)];exact op_move _ rfl (hK _ (hd ⟨9,.data⟩ (by simp) rfl _ rfl _ rfl))
          ·intro st hlo hhi ac w3 hg hG hd ho K hK;dsimp only at hlo hhi hG hK;rw [if_pos (wanted_of rfl rfl rfl (hd ⟨10,.guard⟩ (by simp) rfl _ rfl _ rfl))];exact op_move _ rfl (hK _ (hg.kp 16 (by simp)))
          ·intro st hlo hhi ac w3 hg hG hd ho K hK;dsimp only at hlo hhi hG hK;rw [if_pos (wanted_of rfl rfl rfl (hd ⟨10,.guard⟩ (by simp) rfl _ rfl _ rfl))];have f11:=hd ⟨11,.data⟩ (by simp) rfl _ rfl _ rfl;(try simp [Act.eval] at f11);go_simp;exact hK _ rfl
          ·intro st hlo hhi ac w3 hg hG hd ho K hK;dsimp only at hlo hhi hG hK;rw [if_pos (wanted_of rfl rfl rfl (hd ⟨10,.guard⟩ (by simp) rfl _ rfl _ rfl))];exact op_move _ rfl (hK _ (hd ⟨12,.data⟩ (by simp) rfl _ rfl _ rfl))
          ·intro st hlo hhi ac w3 hg hG hd ho K hK;dsimp only at hlo hhi hG hK;rw [if_pos (wanted_of rfl rfl rfl (hd ⟨13,.guard⟩ (by simp) rfl _ rfl _ rfl))];have kk:=HK1.out.below hG HK1.out.lt;have k0:=kk.cell;have zz:=kk.lt;clear kk;have k14:=hg.kp 14 (by simp);(try simp [Act.eval] at k14);go_simp;exact hK _ rfl
          ·intro st hlo hhi ac w3 hg hG hd ho K hK;dsimp only at hlo hhi hG hK;rw [if_pos (wanted_of rfl rfl rfl (hd ⟨13,.guard⟩ (by simp) rfl _ rfl _ rfl))];have kk:=HK2.out.below hG HK2.out.lt;have k0:=kk.cell;have zz:=kk.lt;clear kk;have k15:=hg.kp 15 (by simp);(try simp [Act.eval] at k15);go_simp;exact hK _ rfl
          ·intro ac w3 hg hG hd ho K hK;dsimp only [Nat.zero_add,Nat.reduceAdd] at hG hK;rw [if_pos (wanted_of rfl rfl rfl (hd ⟨13,.guard⟩ (by simp) rfl _ rfl _ rfl))];have f8:=hd ⟨15,.data⟩ (by simp) rfl _ rfl _ rfl;simp [Act.eval] at f8;go_simp;(refine (rback_any f _).mono ?_);rintro r w4 ⟨rfl,hb4⟩;exact hK _ w4 hb4 (hG.trans (hb4.mono hG.size)) rfl
          ·intro st hlo hhi ac w3 hg hG hd ho K hK;dsimp only at hlo hhi hG hK;rw [if_pos (wanted_of rfl rfl rfl (hd ⟨13,.guard⟩ (by simp) rfl _ rfl _ rfl))];have f14:=hd ⟨14,.data⟩ (by simp) rfl _ rfl _ rfl;have f16:=hd ⟨16,.data⟩ (by simp) rfl _ rfl _ rfl;(try simp [Act.eval] at f14);(try simp [Act.eval] at f16);go_simp;exact hK _ rfl
          ·intro st hlo hhi ac w3 hg hG hd ho K hK;dsimp only at hlo hhi hG hK;rw [if_pos (wanted_of rfl rfl rfl (hd ⟨10,.guard⟩ (by simp) rfl _ rfl _ rfl))];have f13:=hd ⟨13,.data⟩ (by simp) rfl _ rfl _ rfl;have f17:=hd ⟨17,.data⟩ (by simp) rfl _ rfl _ rfl;(try simp [Act.eval] at f13);(try simp [Act.eval] at f17);go_simp;exact hK _ rfl
          ·intro st hlo hhi ac w3 hg hG hd ho K hK;dsimp only at hlo hhi hG hK;rw [if_pos (by rfl)];have f10:=hd ⟨10,.data⟩ (by simp) rfl _ rfl _ rfl;have f18:=hd ⟨18,.data⟩ (by simp) rfl _ rfl _ rfl;(try simp [Act.eval] at f10);(try simp [Act.eval] at f18);go_simp;exact hK _ rfl
         case g0=>exact bR.drew
         case fin=>
          intro f9 w9 hG hall;have h178:=hall _ (List.mem_of_getElem? (i:=19) rfl) 178 rfl;have HB8:=hide (HW7.out.trans (hG.mono HW7.out.size));clear hall hG;simp only [fillF,List.map_cons,List.map_nil,List.foldl_cons,List.foldl_nil,Act.put,List.setIfInBounds_toArray,List.set_cons_zero,List.set_cons_succ];rw [show f9 178=.bool (!tb) from h178];clear h178;cases tb
          ·have HNO:=hide (show ¬ okE e f from fun h=>by
            have h2:=HTB.out;simp only [decide_eq_false_iff_not] at h2;rcases HOK.out.1 h with h|⟨h,_⟩|⟨_,h⟩
            ·cases h
            ·cases h
            ·exact h2 h)
           have HF:=hide (show Z=false from by rw [← HZ.out];exact pair_no3 hil hjl hij (by rw [HE.out,HFJ.out];exact HNO.out));go_wp2_with fail
           go_ret;exact ⟨by rw [HF.out];rfl,HBW.out.trans (HB8.out.mono HBW.out.size)⟩
          ·have HNX:=hide (pairJ_next HJ.out.2 hil hjl (by rw [HE.out,HFJ.out];exact HOK.out.2 (.inr (.inr ⟨rfl,of_decide_eq_true HTB.out⟩))));go_wp2_with fail
           go_roundw
           case rel=>exact ⟨j+1,by go_num,by omega,by omega,hide ⟨HB8.out,HNX.out⟩⟩
           case measure=>simp [intOf];omega
      ·have hltJ:¬ (j:Int)<N:=by omega
       obtain rfl:j=N:=by omega
       have HNX:=hide (pairI_next HI.out.2 hil (by rw [HV1.out];exact HV.out) HD.out (by have:=HJ.out.2;rwa [← HLL.out] at this));have HBJ:=hide HJ.out.1;clear HJ;go_wp2_with fail
       refine ⟨⟨i+1,by go_num,by omega,hide ⟨HBJ.out,HNX.out⟩⟩,?_⟩;simp [intOf];omega
    ·have HF:=hide (show Z=false from by rw [← HZ.out];exact pair_no2 (e:=e) (by rw [← HE.out];exact List.getElem_mem hil) (by rw [← HQ2.out,← HQ0.out];simpa using hq));go_wp2_with (first
      | (go_at_call 60;go_loud (refine (HP2.out w4 HER4.out).mono ?_);rintro r w5 ⟨rfl,hb5⟩;have HB5:=hide (HB4.out.trans (hb5.mono HB4.out.size));clear hb5)
      | (go_at_call 60;go_loud (refine (HP1.out w2 HER2.out).mono ?_);rintro r w3 ⟨rfl,hb3⟩;have HB3:=hide (HB2.out.trans (hb3.mono HB2.out.size));have HER3:=hide (HER2.out.later hb3);clear d0 d1 d2 d3 dz;(obtain ⟨⟨d0,d1,d2,d3⟩,dz⟩:=HC.out _ HB3.out);clear hb3)
      | (go_at_call 61;go_loud (refine (rback_any e w3).mono ?_);rintro r w4 ⟨rfl,hb4⟩;have HB4:=hide (HB3.out.trans (hb4.mono HB3.out.size));have HER4:=hide (HER3.out.later hb4);clear hb4))
     go_ret;exact ⟨by rw [HF.out];rfl,HBW.out.trans ((HI.out.1.trans (HB5.out.mono HI.out.1.size)).mono HBW.out.size)⟩
   ·have h1b:(p1 != (i:Int))=true:=by simp [h1]
    have HF:=hide (show Z=false from by rw [← HZ.out];exact pair_no1 hil (by rw [HV1.out];exact h1));clear h1;go_wp2_with (go_at_call 60;go_loud (refine (HP1.out w2 HER2.out).mono ?_);rintro r w3 ⟨rfl,hb3⟩;have HB3:=hide (HB2.out.trans (hb3.mono HB2.out.size));clear hb3)
    go_ret;exact ⟨by rw [HF.out];rfl,HBW.out.trans ((HI.out.1.trans (HB3.out.mono HI.out.1.size)).mono HBW.out.size)⟩
  ·have hltI:¬ (i:Int)<N:=by omega
   obtain rfl:i=N:=by omega
   have hend:=check_end l (edgesL outer) Al Ab i cl m cb w wr ((HL.out.below HI.out.1).more HI.out.1.size) ((HB.out.below HI.out.1).more HI.out.1.size) hN hm (HBW.out.trans (HI.out.1.mono HBW.out.size));rw [pair_end (by have:=HI.out.2;rwa [← HLL.out] at this),HZ.out] at hend;have HEND:=hide hend;clear hend;go_wp2_with fail
   exact HEND.out _ _ _ _ _ _ _ _ _ _ _ _ _ _ _ _ _ _ _ _ _ _ _ _ _ _ _ _ _ _ _ _ _ _ _ _ _ _ _ _ _ _ _ _ _ _ _ _ _ _ _ _ _ _ _ _ _ _ _ _ _ _ _ _ _ _ _ _ _ _ _ _ _ _ _ _ _ _ _ _ _ _ _ _ _ _ _ _ _ _ _ _ _ _ _ _ _ _ _ _ _ _ _ _ _ _ _ _ _ _ _ _ _ _ _ _ _ _ _ _ _ _ _ _ _ _ _ _ _ _ _ _ _ _ _ _ _ _ _ _ _ _ _ _ _ _ _ _ _ _ _ _ _ _ _ _ _ _ _ _ _ _ _ _ _ _ _ _ _ _ _ _ _ _ _ _ _ _ _ _ _ _ _ _ _ _ _ _ _ _
end Go.Proofs.YtacinobmcgcccaaGreatDoor
