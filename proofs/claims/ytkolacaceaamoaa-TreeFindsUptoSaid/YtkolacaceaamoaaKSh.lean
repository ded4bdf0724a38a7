/- make: an inner node; the whole. -/
import Derived.Test.YtkolacaceaamoaaKSg
set_option linter.unusedSimpArgs false
set_option linter.unusedVariables false
namespace Go.Proofs.Ytkolacaceaamoaa
open Go.RowKit
open Go.Lib (compareBytes)
theorem sumK_six:∀ l:List Kd,(∀ k ∈ l,kdOk k) → 6 * l.length ≤ sumK l
 | [],_=>by simp [sumK]
 | x :: l,h=>by
  have ih:=sumK_six l (fun k hk=>h k (List.mem_cons_of_mem _ hk))
  have hx:=(h x List.mem_cons_self).1
  rw [sumK_co,List.length_cons]
  unfold szK
  omega
theorem SLk.len_eq {w:World} {F:Nat → Prop} {A:Option Addr} {n c:Nat} {l:List KI} (h:SLk 2 KdR w F (.slice A n c) (l.map Prod.fst)):l.length = n:=by
 have:=h.len
 rw [List.length_map] at this
 exact this.symm
theorem inner_bnd (h n:Nat):200 * (h + 1) * n + 170 + n ≤ 200 * (h + 1 + 1) * max 1 n ∧ 200 * (h + 1) * n ≤ 200 * (h + 1 + 1) * max 1 n:=by
 have e:∀ k,200 * (h + 1 + 1) * k = 200 * (h + 1) * k + 200 * k:=fun k=>by rw [Nat.mul_add 200 (h + 1) 1,Nat.add_mul]
 rcases Nat.eq_zero_or_pos n with rfl | h0
 ·rw [e]; simp
 ·rw [show max 1 n = n by omega,e]; omega
/-- What make's loop comes to. -/
theorem MSt.done {w:World} {c:Pct} {B mb tb fb:Nat} {took:List Nat} {vt0:Value} {m0:Pst} {U:Nat → Prop} {h:Nat} {t:List Ch} {kis:List KI} {g:Nat} {vi:Value} {Ak:Option Addr} {mk ck Hc:Nat} {dp:Int} {wr:World} {A2:Option Addr} {n2 c2:Nat} {A:Option Addr} {n cc:Nat}
  (hE:ME c B mb tb took m0 U h t kis Hc dp) (hks:sumK (kis.map Prod.fst) ≤ 504) (hs:MSt w c B mb tb fb took vt0 m0 U h t kis g vi Ak mk ck Hc wr A2 n2 c2 A n cc kis.length) :
  ∃ V N1 K1,JSt w c B mb tb fb took vt0 m0 U V h (mergeC (kis.flatMap Prod.snd) t) N1 K1 (504 + 68 * t.length) wr A n cc ∧ (n ≤ 2 * kis.length + t.length / 2 ∧ n ≤ kis.length + t.length) ∧ N1 ≤ m0.N + Hc * t.length + n ∧ K1 ≤ 2 * n:=by
 obtain ⟨T,vt,m,l,V,s,cnt,hs⟩:=hs
 have hse:=hs.se rfl
 have hsl:=hs.mr.lst.slk
 have hln:=hsl.len_eq
 have hfl:=hs.fl
 rw [List.take_length,hse,List.take_length] at hfl
 have hll:=hs.ll
 have hl1:=hs.l1
 have hsu:=hs.su
 rw [hse] at hll hsu hl1
 have e:(kis.map Prod.fst).take kis.length = kis.map Prod.fst:=List.take_of_length_le (by rw [List.length_map]; exact Nat.le_refl _)
 rw [e] at hsu
 have hnn:=hs.nn
 rw [hse] at hnn
 have hcn:=hs.cn
 exact ⟨V,m.N + n,cnt + n,⟨T,vt,m,l,cnt,hs.jm,hln,hsl,hs.mp,hs.jl,hfl,Nat.le_refl _,Nat.le_refl _,by omega⟩,⟨by omega,by omega⟩,by omega,by omega⟩
set_option maxRecDepth 100000 in
set_option maxHeartbeats 8000000 in
theorem make_inner {w:World} {c:Pct} {B mb tb:Nat} {took:List Nat} {vt:Value} {m:Pst} {U:Nat → Prop} {p n cc h:Nat} {A:Option Addr} {t:List Ch} {kis:List KI} {dp:Int} (hm:MkW w c B mb tb took vt m) (hB:B ≤ w.heap.size) (hl:SLk 3 ChR w (Sf w c mb vt m) (.slice A n cc) t)
  (hpg:pgB c.n (p:Int) = true) (hnd:ndOk (([],kis.map Prod.fst):Nd)) (hc:m.C c p = sealC 2 (ndB [] (kis.map Prod.fst))) (hE:ME c B mb tb took m U h t kis (200 * (h + 1)) dp) (hdp:dp + (h:Int) + 1 ≤ 32) :
  Calls Try.prog 33 #[.pointer (some ⟨mb,0,none⟩),.int .i64 (p:Int),.slice A n cc,.int .i64 dp] w fun e w'=>MkJ w c B mb tb took vt m U (mergeC (kis.flatMap Prod.snd) t) (h + 1) (200 * (h + 1 + 1) * max 1 t.length) (EB c m p t.length (h + 1)) e w':=by
 have hp2:2 ≤ p:=by unfold pgB at hpg; simp at hpg; omega
 have dp0:((p:Int) == 0) = false:=by simp; omega
 have hsk:sumK (kis.map Prod.fst) ≤ 504:=by have:(ndB [] (kis.map Prod.fst)).length ≤ 505:=hnd.2.2.2; rw [ndB_len,show sumI [] = 0 from rfl] at this; omega
 have hd0:=hE.d0
 have HMX:=hide (inner_bnd h t.length)
 have HSK:=hide hsk
 have HM:=hide hm
 have HL:=hide hl
 have HPG:=hide hpg
 have HND:=hide hnd
 have HC:=hide hc
 have HE:=hide hE
 have HBB:=hide hB
 have hk0:=hE.k0
 have HRD:=hide (fun (w3:World) (hb:Below w.heap.size w w3)=>read_nd (hm.below hb) p hpg hnd hc)
 have kk:=hm.mkb.cell; have zz:=hm.mkb.lt
 clear hm hl hpg hnd hc hsk hE hB
 go_enter Try.func33,Try.ntmps33
 go_upto_region 6 with (go_at_call 27; (refine (HRD.out _ (Below.refl _ _)).mono ?_); rintro e w1 ⟨g,rfl,hr⟩; have HR:=hide hr; clear hr)
 obtain ⟨hn1,hm1,hs1⟩:=HR.out
 have HM1:=hide hm1
 have HS1:=hide hs1
 have HLF:=hide (leaf_any (hn1.keep (F':=fun j=>j < w1.heap.size) (fun _ _ _=>rfl) (fun j _ hj=>hj)))
 have dlf:decide (kis.map Prod.fst = []) = false:=by
  simp only [decide_eq_false_iff_not]
  intro e
  exact hk0 (by simpa using e)
 rw [dlf] at HLF
 have HNI:=hide (hn1.keep (F':=Sf w1 c mb vt m) (fun _ _ _=>rfl) (fun j hj hlt=>HM.out.fresh hj hlt))
 obtain ⟨vi,vk,hb,_,hi1,hk1⟩:=HNI.out
 obtain ⟨Ai,ci,xi,rfl,_⟩:=hi1
 obtain ⟨Ak,ck,xk,rfl,_⟩:=hk1
 obtain ⟨mk,hmk⟩:∃ x,(kis.map Prod.fst).length = x:=⟨_,rfl⟩
 have HMK:=hide (show kis.length = mk from by rw [← hmk,List.length_map])
 rw [hmk] at hb
 have HK1:=hide (show SLk 2 KdR w1 (Sf w1 c mb vt m) (.slice Ak mk ck) (kis.map Prod.fst) ∧ Sf w1 c mb vt m g from by
  obtain ⟨vi',vk',hb',hg',_,hk'⟩:=HNI.out
  have:=blk_same hb hb'
  have e:vk' = .slice Ak mk ck:=by
   have:=congrArg (fun x:Array Value=>x[1]?) this
   simpa using this.symm
  rw [← e]
  exact ⟨hk',hg'⟩)
 have HT:=hide (HS1.out.slk @ChR.keep (by omega) HL.out)
 have hmk8:mk ≤ 84:=by rw [← HMK.out]; exact HE.out.k8
 obtain ⟨w2,hw2⟩:∃ w2,w1.alloc (.map #[] 0) = w2:=⟨_,rfl⟩
 obtain ⟨fb,hfb⟩:∃ x,w1.heap.size = x:=⟨_,rfl⟩
 have HB2:=hide (show Below w1.heap.size w1 w2 from hw2 ▸ al_below w1 _)
 have HMP:=hide (show MapB w2 fb 0 from hw2 ▸ hfb ▸ ⟨_,World.ownsMap_made w1 Try.prog 3 (plainElem Try.prog 4)⟩)
 have hb2:Blk w2 g TNd #[.slice Ai (0:Nat) ci,.slice Ak mk ck]:=hb.below HB2.out hb.lt
 have kn:=hb2.cell; have zn:=hb2.lt
 have HNB:=hide hb2
 have HW2:=hide hw2
 have HFB:=hide hfb
 have hmm:=@run_makeMap Try.prog
 have HST0:=hide (show MSt w c B mb tb fb took vt m U h t kis g (.slice Ai (0:Nat) ci) Ak mk ck (200 * (h + 1)) w2 A n cc none 0 0 0 from
  ⟨[],vt,m,[],fun _=>False,0,0,
   { jm:=⟨by rw [List.append_nil]; exact HM1.out.below HB2.out,HS1.out.trans (MkS.low HB2.out),fun hh=>by have:=HM1.out.lt hh; have:=HFB.out; omega,by rw [← HFB.out]; exact HS1.out.fr.size,HBB.out,Grew.refl c m,by simp⟩,mr:=⟨Lst.nil,HNB.out,⟨(MkS.low HB2.out).sf HK1.out.2,by simp [Value.ownBlock]⟩,HK1.out.1.keep (by omega) @KdR.keep (fun j hj hlt=>HB2.out.block j hlt) (fun j hj hlt=>⟨(MkS.low HB2.out).sf hj,by simp [Value.ownBlock]⟩),HT.out.keep (by omega) @ChR.keep (fun j hj hlt=>HB2.out.block j hlt) (fun j hj hlt=>⟨(MkS.low HB2.out).sf hj,by simp [Value.ownBlock]⟩)⟩,mp:=HMP.out,jl:=JL.nil,fl:=by simp [mergeC],sp:=fun h=>by omega,s0:=fun _=>rfl,se:=fun e=>absurd (List.eq_nil_of_length_eq_zero e.symm) HE.out.k0,sl:=by omega,il:=by omega,ll:=by simp,l1:=by simp,su:=by simp [sumK],nn:=by omega,cn:=by simp }⟩)
 clear hn1 hm1 hs1 hb hb2 hmk kk zz hw2 hfb hk0 HR HMP
 go_upto_region 11 with (go_at_call 28; (refine HLF.out.mono ?_); rintro e w2 ⟨rfl,e2⟩; rw [e2]; clear e2)
 go_upto_region 12 with fail
 rw [HW2.out,HFB.out]
 go_wp2_with fail
 go_loopw [2,8,9,12,61] (fun v2 v8 v9 v12 v61 wr=>∃ (A2:Option Addr) (n2 c2:Nat) (A:Option Addr) (n cc i:Nat),v2 = .slice A2 n2 c2 ∧ v8 = .slice none 0 0 ∧ v9 = .int .i64 0 ∧ v12 = .slice A n cc ∧ v61 = .int .i64 (i:Int) ∧ i ≤ mk ∧ Hid (MSt w c B mb tb fb took vt m U h t kis g (.slice Ai (0:Nat) ci) Ak mk ck (200 * (h + 1)) wr A2 n2 c2 A n cc i)) (fun _ _ _ _ v61 _=>mk - (intOf v61).toNat)
 case atStart=>exact ⟨A,n,cc,none,0,0,0,rfl,rfl,rfl,rfl,by go_num,by omega,HST0⟩
 case round=>
  clear HST0
  obtain ⟨A2,n2,c2,A',n',c',i,rfl,rfl,rfl,rfl,rfl,him,HST⟩:=hrel
  by_cases hlt:i < mk
  ·go_upto_block 1 with fail
   refine wp_block ?_
   refine id (show Code.wp Try.prog (BM 0) _ _ _ from ?_)
   refine mk_round ⟨?_,?_⟩ HE.out HST.out hlt hdp _ _ _ _ _ _ _ _ _ _ _ _ _ _ _ _ _ _ _ _ _ _ _ _ _ _ _ _ _ _ _ _ _ _ _ _ _ _ _ _ _ _ _ _ _ _ _ _ _ _ _ _ _ _ _ _ _ _ _ _ _ _ _ _ _ _ _ _ _ _ _ _
   ·intro u14 u15 u16 u17 u18 u20 u62 u63 u64 u65 u66 u67 u68 u69 u70 u71 u72 u73 u74 u75 u76 u77 u78 u79 u80 u81 u82 u83 u84 u85 u86 u87 u88 u89 u90 u91 u92 u93 u94 u95 u96 u97 u98 u99 u100 u101 u102 u103 u104 u105 u106 u107 u108 u109 u110 u111 u112 u113 u114 u115 u116 u117 u118 u119 u120 u121 u122 u123 u124 u125 u126 u127 A2 n2 c2 A' n' c' w2 hs
    have HS:=hide hs
    clear hs HST
    refine ⟨?_,?_⟩
    ·go_wp2_with fail
     refine ⟨⟨A2,n2,c2,A',n',c',i + 1,rfl,rfl,rfl,rfl,by push_cast; rfl,by omega,HS⟩,?_⟩
     simp [intOf]
     omega
    ·go_wp2_with fail
     refine ⟨⟨A2,n2,c2,A',n',c',i + 1,rfl,rfl,rfl,rfl,by push_cast; rfl,by omega,HS⟩,?_⟩
     simp [intOf]
     omega
   ·intro u2 u12 u14 u15 u16 u17 u18 u20 u62 u63 u64 u65 u66 u67 u68 u69 u70 u71 u72 u73 u74 u75 u76 u77 u78 u79 u80 u81 u82 u83 u84 u85 u86 u87 u88 u89 u90 u91 u92 u93 u94 u95 u96 u97 u98 u99 u100 u101 u102 u103 u104 u105 u106 u107 u108 u109 u110 u111 u112 u113 u114 u115 u116 u117 u118 u119 u120 u121 u122 u123 u124 u125 u126 u127 T vt' m' w2 hs hN
    have HS:=hide (And.intro hs hN)
    clear hs hN HST
    go_wp2_with fail
    refine bodyPost_ret (v:=.tuple #[.slice none 0 0,.int .i64 16]) (by simp (maxDischargeDepth:=9) [results,Try.results33,go_sem]; done) rfl ⟨vt',m',T,HS.out.1.mw,HS.out.1.st,HS.out.1.gr,?_,HS.out.1.nn,.inr rfl⟩
    have:=HS.out.2
    have:=HMX.out
    omega
  ·obtain rfl:mk = i:=by omega
   obtain ⟨V,N1,K1,hj,q1,q2,q3⟩:=MSt.done HE.out HSK.out (by rw [HMK.out]; exact HST.out)
   rw [HMK.out] at q1
   have hmul:=HE.out.nb
   have htl:=HE.out.tl
   have HJS:=hide hj
   have HJA:=hide (join_any HE.out.je hj (by omega) (by omega))
   have HQ:=hide (show (n' ≤ 2 * mk + t.length / 2 ∧ n' ≤ mk + t.length) ∧ N1 ≤ m.N + 200 * (h + 1) * t.length + n' ∧ m.N + 200 * (h + 1) * t.length + 170 + t.length < 1000000000 ∧ mk ≤ 84 ∧ t.length ≤ 1000000 from ⟨q1,q2,hmul,hmk8,htl⟩)
   clear hj HST q2 q3 hmul kn
   go_upto_region 32 with (go_at_call 56; (refine HJA.out.mono ?_); rintro e w3 (⟨A3,n3,c3,rfl,hn3,hj3⟩ | ⟨T,vt',m',rfl,hj3,hN3⟩))
   ·have HJ3:=hide hj3
    clear hj3
    by_cases h2:n3 < 2
    ·have d2:decide ((n3:Int) < 2) = true:=by simp; omega
     go_wp2_with fail
     refine bodyPost_ret (v:=.tuple #[.slice A3 n3 c3,.int .i64 0]) (by simp (maxDischargeDepth:=9) [results,Try.results33,go_sem]; done) rfl ?_
     obtain ⟨T,vt',m',l,cnt,jm,hl,hs,_,hJ,his,hn,_,_⟩:=HJ3.out
     refine MkJ.up 1 ⟨vt',m',T,jm.mw,jm.st,jm.gr,?_,jm.nn,.inl ⟨_,l,V,rfl,hs,hJ,his,by omega,fun q _=>⟨by omega,by omega,fun x hx=>.inl ?_⟩⟩⟩
     ·have:=HMX.out
      have:=HMX.out
      have:=HQ.out
      omega
     ·have hus:∀ q,(U q ∨ q ∈ T) → m'.used q:=fun q hq=>hq.elim (fun hq=>(jm.gr.old q (HE.out.je.us q hq)).1) (fun hq=>(jm.gr.in_ q hq).2.2.2)
      have hxl:x ∈ l:=by rw [hx]; exact List.mem_cons_self
      exact ⟨(hJ.kid x hxl).ok,(hJ.kid x hxl).tr (fun q hq=>hus q (hJ.vt q hq)) (hus _ (hJ.rt x hxl))⟩
    ·have d2:decide ((n3:Int) < 2) = false:=by simp; omega
     obtain ⟨T,vt',m',l,cnt,jm,hl,hs,_,hJ,his,hn,_,hS⟩:=HJ3.out
     have hok:∀ x ∈ l.map Prod.fst,kdOk x:=fun x hx=>by
      obtain ⟨y,hy,rfl⟩:=List.mem_map.1 hx
      exact (hJ.kid y hy).ok
     have hcs:=cutK_sum hok
     have hcl:=cutK_len hok
     rw [List.length_map,hl] at hcl
     have hT:=jm.gr.len
     have hcn:c.n ≤ 65536:=Pg.hn jm.mw.pg
     have HPB:=hide (show (cutF szK (l.map Prod.fst)).length ≤ 2 + t.length / 2 ∧ ∀ (m5:Pst) (l':List KI),l'.length = (cutF szK (l.map Prod.fst)).length → (l'.length = 1 → ∀ x ∈ l',RootK (m5.C c) x.1.p l.length) → EB c m p t.length (h + 1) m5 l' from ⟨by omega,fun m5 l' hl' hrk=>⟨by omega,fun q hq=>by
      have:=root_count hq HC.out HND.out.2.2.1 HND.out.2.2.2
      rw [List.length_map,HMK.out] at this
      subst this
      have:=HQ.out.1
      have h3:(1 + 37 * n3) / 468 ≤ (1 + 37 * (2 * q + t.length / 2)) / 468:=Nat.div_le_div_right (by omega)
      have h4:(1 + 37 * n3) / 468 ≤ (1 + 37 * (q + t.length)) / 468:=Nat.div_le_div_right (by omega)
      refine ⟨by omega,by omega,fun x hx=>.inr ⟨l.length,by omega,hrk (by rw [hx]; rfl) x (by rw [hx]; exact List.mem_cons_self)⟩⟩⟩⟩)
     have hbig:m'.N + (cutF szK (l.map Prod.fst)).length ≤ m.N + 200 * (h + 1 + 1) * max 1 t.length:=by
      have:=HMX.out
      have:=HMX.out
      have:=HQ.out
      have:=HPB.out.1
      omega
     have HBIG:=hide hbig
     have HIN:=hide (inner_any jm.mw (Nat.le_trans HBB.out jm.st.fr.size) hs hok (by rw [List.length_map,hl]; omega) (by have:=HPB.out.1; have:=HQ.out; omega) (by rw [List.length_append]; have:=HPB.out.1; have:=HE.out.je.tl; omega))
     have HJL:=hide hJ
     have HJM:=hide jm
     have HIS:=hide his
     clear hl hs hJ his hn hS hok hcs hcl hT hcn jm hbig
     go_wp2_with (go_at_call 34; (refine HIN.out.mono ?_); rintro e w5 hq; have HQ5:=hide (MkJ.inner (U:=U) (V:=V) (E:=EB c m p t.length (h + 1)) HJM.out.st HJM.out.gr HJM.out.nn HBIG.out HE.out.je HJL.out HPB.out.2 hq); obtain ⟨vt5,m5,T5,h1,h3,h4,h5,h6,(⟨v,kds,rfl,_⟩ | ⟨rfl,_⟩)⟩:=hq)
     all_goals (clear h1 h3 h4 h5 h6; try go_wp2_with fail)
     all_goals (rw [HIS.out] at HQ5)
     ·refine bodyPost_ret (v:=.tuple #[v,.int .i64 0]) (by simp (maxDischargeDepth:=9) [results,Try.results33,go_sem]; done) rfl HQ5.out
     ·refine bodyPost_ret (v:=.tuple #[.slice none 0 0,.int .i64 16]) (by simp (maxDischargeDepth:=9) [results,Try.results33,go_sem]; done) rfl HQ5.out
   ·have HJ3:=hide (And.intro hj3 hN3)
    clear hj3 hN3
    go_wp2_with fail
    refine bodyPost_ret (v:=.tuple #[.slice none 0 0,.int .i64 16]) (by simp (maxDischargeDepth:=9) [results,Try.results33,go_sem]; done) rfl ⟨vt',m',T,HJ3.out.1.mw,HJ3.out.1.st,HJ3.out.1.gr,?_,HJ3.out.1.nn,.inr rfl⟩
    have:=HMX.out
    have:=HMX.out
    have:=HQ.out
    have:=HJ3.out.2
    omega
theorem make_any:∀ (h:Nat) {w:World} {c:Pct} {B mb tb:Nat} {took:List Nat} {vt:Value} {m:Pst} {U:Nat → Prop} {p n cc:Nat} {is:List It} {A:Option Addr} {t:List Ch} {dp:Int},MkW w c B mb tb took vt m → B ≤ w.heap.size → SLk 3 ChR w (Sf w c mb vt m) (.slice A n cc) t → okL t → t.length ≤ 1000000 →
  TrQ (m.C c) c.n U (h + 1) p is → JE c took m U → RiseI is → took.length + (h + 1) * 65536 ≤ 3000000 → m.N + 200 * (h + 1) * max 1 t.length < 1000000000 → 0 ≤ dp → dp + (h:Int) ≤ 32 →
  Calls Try.prog 33 #[.pointer (some ⟨mb,0,none⟩),.int .i64 (p:Int),.slice A n cc,.int .i64 dp] w fun e w'=>MkJ w c B mb tb took vt m U (mergeC is t) h (200 * (h + 1) * max 1 t.length) (EB c m p t.length h) e w'
 | h,w,c,B,mb,tb,took,vt,m,U,p,n,cc,is,A,t,dp,hm,hB,hl,hok,htl,⟨hpg,hu,.inl ⟨h1,h2,h3,h4⟩⟩,hE,hr,htk,hN,hd0,hd=>by
  have hle:200 * max 1 t.length ≤ 200 * (h + 1) * max 1 t.length:=Nat.mul_le_mul_right _ (by omega)
  exact (make_leaf h hm hB hl hok htl hpg ⟨.inl ⟨h1,rfl⟩,h2,fun k hk=>(by cases hk),h3⟩ h4 (by omega) (by omega) (by omega)).mono fun e w' hq=>hq.mono hle
 | 0,w,c,B,mb,tb,took,vt,m,U,p,n,cc,is,A,t,dp,hm,hB,hl,hok,htl,⟨hpg,hu,.inr ⟨ks,h1,h2,h3,h4,h5,h6⟩⟩,hE,hr,htk,hN,hd0,hd=>by
  cases ks with
  | nil=>exact absurd rfl h1
  | cons x r=>exact (h6 x List.mem_cons_self).1.elim
 | h + 1,w,c,B,mb,tb,took,vt,m,U,p,n,cc,is,A,t,dp,hm,hB,hl,hok,htl,⟨hpg,hu,.inr ⟨ks,h1,h2,h3,h4,h5,h6⟩⟩,hE,hr,htk,hN,hd0,hd=>by
  have hok2:∀ k ∈ ks.map Prod.fst,kdOk k:=fun k hk=>by
   obtain ⟨y,hy,rfl⟩:=List.mem_map.1 hk
   exact h2 y hy
  have hlen:ks.length ≤ 84:=by
   have:=sumK_six _ hok2
   rw [ndB_len,show sumI [] = 0 from rfl] at h3
   rw [List.length_map] at this
   omega
  have hb:=(inner_bnd h t.length).1
  subst h5
  refine make_inner hm hB hl hpg ⟨.inr ⟨rfl,fun e=>h1 (by simpa using e)⟩,fun i hi=>(by cases hi),hok2,h3⟩ h4 ⟨hE,h1,hlen,fun x hx=>?_,fun x hx=>(h6 x hx).1,fun x hx=>(h6 x hx).2,hr,hok,htl,hd0,by omega,by omega,?_⟩ (by omega)
  ·obtain ⟨q1,q2,nd,q3,q4,q5⟩:=(h6 x hx).1.nodeV
   obtain ⟨i,r,e1,e2⟩:=q5.head q3
   obtain ⟨i',r',e1',e2'⟩:=(h6 x hx).2
   rw [e1] at e1'
   injection e1' with e3 _
   exact ⟨⟨h2 x hx,q1,nd,q3,q4,q5,by rw [← e2,e3,e2']⟩,q2⟩
  ·intro wr took2 vt2 m2 p2 is2 A2 n2 c2 t2 g1 g2 g3 g4 g5 g6 g7 g8 g9 g10 g11
   have hmx:max 1 t2.length = t2.length:=by omega
   have:=make_any h g1 g2 g3 g4 g6 g7 g8 g9 g10 (by rw [hmx]; exact g11) (dp:=dp + 1) (by omega) (by omega)
   rw [hmx] at this
   exact this.mono fun e w' hq=>hq.impl (fun m l hk=>hk.1)
end Go.Proofs.Ytkolacaceaamoaa
/- Put, of any tree: how high it grows. -/
namespace Go.Proofs.Ytkolacaceaamoaa
open Go.RowKit
open Go.Lib (compareBytes)
theorem Chain.inv {n0 k n:Nat} (h:Chain n0 (k + 1) n):∃ n1,Chain n0 k n1 ∧ 2 ≤ n1 ∧ n ≤ 1 + (1 + 37 * n1) / 468:=by
 cases h with
 | step h1 h2 h3=>exact ⟨_,h1,h2,h3⟩
theorem Chain.z {n0 n:Nat} (h:Chain n0 0 n):n = n0:=by
 cases h
 rfl
theorem chain_few:∀ (j:Nat) {n0 q:Nat},n0 ≤ 102 → Chain n0 j q → 2 ≤ q → (j = 0 ∧ q = n0) ∨ (j = 1 ∧ q ≤ 9 ∧ q ≤ 1 + (1 + 37 * n0) / 468)
 | 0,n0,q,_,h,_=>.inl ⟨rfl,h.z⟩
 | j + 1,n0,q,hn,h,hq=>by
  obtain ⟨n1,h1,h2,h3⟩:=h.inv
  rcases chain_few j hn h1 h2 with ⟨rfl,e⟩ | ⟨rfl,e,_⟩
  ·exact .inr ⟨rfl,by omega,by omega⟩
  ·omega
theorem RootK.keep {C C':Int → Cn} {p q:Nat} (h:RootK C p q) (hC:C' p = C p):RootK C' p q:=by
 obtain ⟨ks,a,b,d⟩:=h
 exact ⟨ks,a,hC.trans b,d⟩
/-- A root and its items, a tree at most so high, or a storey more with a root of few kids. -/
def TreH (c:Pct) (m:Pst) (r:Nat) (is:List It) (a q0:Nat):Prop:=
 RiseI is ∧ ((r = 0 ∧ is = []) ∨ ∃ h,TrQ (m.C c) c.n m.used h r is ∧ (h ≤ a ∨ (h ≤ a + 1 ∧ ∃ q,q ≤ q0 ∧ RootK (m.C c) r q)))
theorem TrQ.used {C:Int → Cn} {n:Nat} {U:Nat → Prop} {h p:Nat} {is:List It} (ht:TrQ C n U h p is):U p ∧ 2 ≤ p ∧ is ≠ [] ∧ 1 ≤ h:=by
 cases h with
 | zero=>exact ht.elim
 | succ h=>
  have:=ht.trP.ne
  obtain ⟨a,b,_⟩:=ht
  unfold pgB at a
  simp at a
  exact ⟨b,by omega,this,by omega⟩
theorem TreH.keep {c:Pct} {m m':Pst} {T:List Nat} {r a q0:Nat} {is:List It} (hg:Grew c m m' T) (h:TreH c m r is a q0):TreH c m' r is a q0:=by
 obtain ⟨h1,h2 | ⟨k,h2,h3⟩⟩:=h
 ·exact ⟨h1,.inl h2⟩
 ·refine ⟨h1,.inr ⟨k,h2.keep (fun q hq=>(hg.old q hq).2) (fun q hq=>(hg.old q hq).1),h3.imp id fun ⟨x,q,y,z⟩=>⟨x,q,y,z.keep (hg.old r h2.used.1).2⟩⟩⟩
theorem TreH.up {c:Pct} {m:Pst} {r a q0 a':Nat} {is:List It} (h:TreH c m r is a q0) (ha:a ≤ a'):TreH c m r is a' q0:=by
 obtain ⟨h1,h2 | ⟨k,h2,h3⟩⟩:=h
 ·exact ⟨h1,.inl h2⟩
 ·exact ⟨h1,.inr ⟨k,h2,h3.imp (fun h=>by omega) fun ⟨x,y⟩=>⟨by omega,y⟩⟩⟩
theorem TreH.root {c:Pct} {m:Pst} {r a q0:Nat} {is:List It} (h:TreH c m r is a q0):r = 0 ↔ is = []:=by
 obtain ⟨h1,⟨h2,h3⟩ | ⟨k,h2,h3⟩⟩:=h
 ·simp [h2,h3]
 ·obtain ⟨_,b,d,_⟩:=h2.used
  exact ⟨fun e=>by omega,fun e=>absurd e d⟩
theorem MkQ.bound {w w':World} {c:Pct} {B mb tb:Nat} {took:List Nat} {vt:Value} {m:Pst} {is:List It} {h bnd:Nat} {E:Pst → List KI → Prop} {e:Ending} (hq:MkQ w c B mb tb took vt m is h bnd E e w'):MkQ w c B mb tb took vt m is h bnd (fun _ l=>l.length ≤ bnd) e w':=by
 obtain ⟨vt',m',T,h1,h2,h3,h4,h5,h6⟩:=hq
 refine ⟨vt',m',T,h1,h2,h3,h4,h5,h6.imp (fun ⟨v,l,a1,a2,a3,a4,a5,a6⟩=>⟨v,l,a1,a2,a3,a4,a5,a5⟩) id⟩
theorem MkQ.impl {w w':World} {c:Pct} {B mb tb:Nat} {took:List Nat} {vt:Value} {m:Pst} {is:List It} {h bnd:Nat} {E E':Pst → List KI → Prop} {e:Ending} (hq:MkQ w c B mb tb took vt m is h bnd E e w') (hE:∀ m l,E m l → E' m l):MkQ w c B mb tb took vt m is h bnd E' e w':=by
 obtain ⟨vt',m',T,h1,h2,h3,h4,h5,h6⟩:=hq
 refine ⟨vt',m',T,h1,h2,h3,h4,h5,h6.imp (fun ⟨v,l,a1,a2,a3,a4,a5,a6⟩=>⟨v,l,a1,a2,a3,a4,a5,hE _ _ a6⟩) id⟩
/-- Put into nothing. -/
theorem tput_q0 {w:World} {c:Pct} {tb:Nat} {m:Pst} {F:Nat → Prop} {vp vg:Value} {put:List It} {gone:List Cn} (hp:PgS w c m) (ht:Blk w tb TTr #[.pointer (some ⟨c.pb,0,none⟩)]) (htb:¬ PF m.F c.pb c.sb tb)
  (h1:SLk 2 ItR w F vp put) (h2:SLk 1 BsR w F vg gone) (hlen:put.length + gone.length ≤ 200) (hpl:∀ x ∈ put,x.k.length ≤ 1073741824 ∧ x.v.length ≤ 1073741824) (hgl:∀ k ∈ gone,k.length ≤ 1073741824) (hN:m.N < 900000000) :
  Calls Try.prog 16 #[.pointer (some ⟨tb,0,none⟩),.int .i64 0,vp,vg] w fun e w'=>∃ l:List Ch,l.Perm (chs put gone) ∧ SortC l ∧ ((okL l ∧ PutQ w c m (mergeC [] l) 1 2000000 (fun n=>n ≤ 2 + (put.length + gone.length) / 2) (fun _ l'=>l'.length ≤ 2 + (put.length + gone.length) / 2) e w') ∨ (¬ okL l ∧ e = .returned (.tuple #[.int .i64 0,.int .i64 1]) ∧ Below w.heap.size w w')):=
 tput_any (IS:=mergeC []) (h:=1) (bnd:=2000000) (P:=fun n=>n ≤ 2 + (put.length + gone.length) / 2) (E:=fun _ l=>l.length ≤ 2 + (put.length + gone.length) / 2) (fun _ _ h=>h) hp ht htb h1 h2 (by omega) hpl hgl (by omega) (by omega) (fun l w1 B mb vtodo hperm hok hmw hB hsl=>by
  have hl:l.length = put.length + gone.length:=by rw [hperm.length_eq]; unfold chs; simp
  have hlp:=leaf_parts (is:=[]) (t:=l) (fun i hi=>by cases hi) (by simp [ndB]) hok.1
  rw [hl] at hlp
  exact (make_zero hmw hB hsl hok (by omega) (by omega) (by simp)).mono fun e w' h=>(h.bound.impl (fun m' l' hl'=>Nat.le_trans hl' hlp)).mono (by omega))
/-- Put into a tree. -/
theorem tput_q {w:World} {c:Pct} {tb:Nat} {m:Pst} {F:Nat → Prop} {vp vg:Value} {put:List It} {gone:List Cn} {r h:Nat} {is:List It} (hp:PgS w c m) (ht:Blk w tb TTr #[.pointer (some ⟨c.pb,0,none⟩)]) (htb:¬ PF m.F c.pb c.sb tb)
  (h1:SLk 2 ItR w F vp put) (h2:SLk 1 BsR w F vg gone) (hlen:put.length + gone.length ≤ 200) (hpl:∀ x ∈ put,x.k.length ≤ 1073741824 ∧ x.v.length ≤ 1073741824) (hgl:∀ k ∈ gone,k.length ≤ 1073741824) (hN:m.N < 900000000)
  (hT:TrQ (m.C c) c.n m.used (h + 1) r is) (hr:RiseI is) (hh:h ≤ 32) :
  Calls Try.prog 16 #[.pointer (some ⟨tb,0,none⟩),.int .i64 (r:Int),vp,vg] w fun e w'=>∃ l:List Ch,l.Perm (chs put gone) ∧ SortC l ∧ ((okL l ∧ PutQ w c m (mergeC is l) (h + 1) 2000000 (fun n=>n ≤ 2 + (put.length + gone.length) / 2 ∧ ∀ q,RootK (m.C c) r q → n ≤ 1 + (1 + 37 * (2 * q + (put.length + gone.length) / 2)) / 468 ∧ n ≤ 1 + (1 + 37 * (q + (put.length + gone.length))) / 468) (EB c m r (put.length + gone.length) h) e w') ∨ (¬ okL l ∧ e = .returned (.tuple #[.int .i64 0,.int .i64 1]) ∧ Below w.heap.size w w')):=
 tput_any (IS:=mergeC is) (h:=h + 1) (bnd:=2000000) (E:=EB c m r (put.length + gone.length) h) (fun _ l hE=>⟨hE.1,fun q hq=>⟨(hE.2 q hq).1,(hE.2 q hq).2.1⟩⟩) hp ht htb h1 h2 (by omega) hpl hgl (by omega) (by omega) (fun l w1 B mb vtodo hperm hok hmw hB hsl=>by
  have hl:l.length = put.length + gone.length:=by rw [hperm.length_eq]; unfold chs; simp
  obtain ⟨A,cc,ev⟩:=hsl.form
  rw [hl] at ev
  subst ev
  have hb:200 * (h + 1) * max 1 l.length ≤ 1320000:=by
   have e1:200 * (h + 1) ≤ 6600:=by omega
   have e2:max 1 l.length ≤ 200:=by omega
   exact Nat.le_trans (Nat.mul_le_mul e1 e2) (by omega)
  have:=make_any h hmw hB hsl hok (by omega) hT ⟨fun _ h=>h,fun q _ hq=>(by cases hq),fun q hq=>(by cases hq),by simp⟩ hr (by simp; omega) (by omega) (dp:=0) (by omega) (by omega)
  rw [hl] at this hb
  exact this.mono fun e w' hq=>MkJ.toQ (Pg.len hmw.pg) (fun _ h=>h) (fun m l hE=>by have:=hE.1; omega) (by omega) (hq.mono (by omega)))
def PutT (w:World) (c:Pct) (m:Pst) (Z:Pst → Nat → Prop) (e:Ending) (w':World):Prop:=
 ∃ m' T,PgS w' c m' ∧ Fr (PF m.F c.pb c.sb) w w' ∧ (∀ j,PF m'.F c.pb c.sb j → PF m.F c.pb c.sb j ∨ w.heap.size ≤ j) ∧ Grew c m m' T ∧ m'.N ≤ m.N + 6000000 ∧
  ((∃ r:Nat,e = .returned (.tuple #[.int .i64 (r:Int),.int .i64 0]) ∧ Z m' r) ∨ e = .returned (.tuple #[.int .i64 0,.int .i64 16]))
theorem PutQ.tre {w w':World} {c:Pct} {m:Pst} {is:List It} {h:Nat} {P:Nat → Prop} {E:Pst → List KI → Prop} {Z:Pst → Nat → Prop} {e:Ending} (hq:PutQ w c m is h 2000000 P E e w') (hz:is = [] → ∀ m',Z m' 0)
  (hx:∀ (m':Pst) (x:KI) (k n0:Nat),KidT c m' (h + k) x → x.2 = is → P n0 → Chain n0 k 1 → (k = 0 → E m' [x]) → (0 < k → ∃ q,2 ≤ q ∧ Chain n0 (k - 1) q ∧ RootK (m'.C c) x.1.p q) → Z m' x.1.p):PutT w c m Z e w':=by
 obtain ⟨m',T,h1,h2,h3,h4,h5,h6⟩:=hq
 refine ⟨m',T,h1,h2,h3,h4,by omega,?_⟩
 rcases h6 with ⟨e1,e2⟩ | ⟨x,k,n0,e1,e2,e3,e4,e5,e6,e7,e8⟩ | ⟨e1,_⟩
 ·exact .inl ⟨0,e1,hz e2 m'⟩
 ·exact .inl ⟨x.1.p,e1,hx m' x k n0 e2 e3 e8 e5 e7 e6⟩
 ·exact .inr e1
theorem okL.rise {l:List Ch} (h:okL l):RiseC l:=h.2
/-- Put of at most 200 changes. -/
theorem tput_many {w:World} {c:Pct} {tb:Nat} {m:Pst} {F:Nat → Prop} {vp vg:Value} {put:List It} {gone:List Cn} {r k:Nat} {is:List It} (hp:PgS w c m) (ht:Blk w tb TTr #[.pointer (some ⟨c.pb,0,none⟩)]) (htb:¬ PF m.F c.pb c.sb tb)
  (h1:SLk 2 ItR w F vp put) (h2:SLk 1 BsR w F vg gone) (hlen:put.length + gone.length ≤ 200) (hpl:∀ x ∈ put,x.k.length ≤ 1073741824 ∧ x.v.length ≤ 1073741824) (hgl:∀ k ∈ gone,k.length ≤ 1073741824) (hN:m.N < 900000000)
  (hT:TreH c m r is (k + 1) 25) (hk:k ≤ 31) :
  Calls Try.prog 16 #[.pointer (some ⟨tb,0,none⟩),.int .i64 (r:Int),vp,vg] w fun e w'=>∃ l:List Ch,l.Perm (chs put gone) ∧ SortC l ∧ ((okL l ∧ PutT w c m (fun m' r=>TreH c m' r (mergeC is l) (k + 1 + 1) 25) e w') ∨ (¬ okL l ∧ e = .returned (.tuple #[.int .i64 0,.int .i64 1]) ∧ Below w.heap.size w w')):=by
 obtain ⟨hr,⟨rfl,rfl⟩ | ⟨h,hT,hb⟩⟩:=hT
 ·refine (tput_q0 hp ht htb h1 h2 hlen hpl hgl hN).mono ?_
  rintro e w' ⟨l,hl,hs,⟨hok,hq⟩ | hno⟩
  ·have hri:=(mergeC_law [] l List.Pairwise.nil hok.2).1
   refine ⟨l,hl,hs,.inl ⟨hok,hq.tre (fun e m'=>⟨hri,.inl ⟨rfl,e⟩⟩) ?_⟩⟩
   intro m' x j n0 hx hx2 hP hc _ hrk
   refine ⟨hri,.inr ⟨_,hx2 ▸ hx.2.1,?_⟩⟩
   rcases Nat.eq_zero_or_pos j with rfl | hj
   ·exact .inl (by omega)
   ·obtain ⟨q,q1,q2,q3⟩:=hrk hj
    rcases chain_few (j - 1) (by omega) q2 q1 with ⟨e1,e2⟩ | ⟨e1,e2,_⟩
    ·exact .inl (by omega)
    ·exact .inr ⟨by omega,q,by omega,q3⟩
  ·exact ⟨l,hl,hs,.inr hno⟩
 ·cases h with
  | zero=>exact hT.elim
  | succ h=>
   refine (tput_q hp ht htb h1 h2 hlen hpl hgl hN hT hr (by omega)).mono ?_
   rintro e w' ⟨l,hl,hs,⟨hok,hq⟩ | hno⟩
   ·have hri:=(mergeC_law is l hr hok.2).1
    refine ⟨l,hl,hs,.inl ⟨hok,hq.tre (fun e m'=>⟨hri,.inl ⟨rfl,e⟩⟩) ?_⟩⟩
    intro m' x j n0 hx hx2 hP hc _ hrk
    refine ⟨hri,.inr ⟨_,hx2 ▸ hx.2.1,?_⟩⟩
    have hn0:n0 ≤ 102:=by have:=hP.1; omega
    rcases Nat.eq_zero_or_pos j with rfl | hj
    ·exact .inl (by omega)
    ·obtain ⟨q,q1,q2,q3⟩:=hrk hj
     rcases chain_few (j - 1) hn0 q2 q1 with ⟨e1,e2⟩ | ⟨e1,e2,e4⟩
     ·rcases hb with hb | ⟨hb,q',hq',hR⟩
      ·exact .inl (by omega)
      ·have h3:=(hP.2 q' hR).1
       have h4:(1 + 37 * (2 * q' + (put.length + gone.length) / 2)) / 468 ≤ (1 + 37 * 150) / 468:=Nat.div_le_div_right (by omega)
       exact .inr ⟨by omega,q,by omega,q3⟩
     ·rcases hb with hb | ⟨hb,q',hq',hR⟩
      ·exact .inr ⟨by omega,q,by omega,q3⟩
      ·have h3:=(hP.2 q' hR).1
       have h4:(1 + 37 * (2 * q' + (put.length + gone.length) / 2)) / 468 ≤ (1 + 37 * 150) / 468:=Nat.div_le_div_right (by omega)
       have h5:(1 + 37 * n0) / 468 ≤ (1 + 37 * 12) / 468:=Nat.div_le_div_right (by omega)
       omega
   ·exact ⟨l,hl,hs,.inr hno⟩
/-- A tree of n single Puts. -/
def Tre1 (c:Pct) (m:Pst) (n r:Nat) (is:List It):Prop:=∃ b s,10 * b + s ≤ n ∧ TreH c m r is (b + 1) (2 + s)
end Go.Proofs.Ytkolacaceaamoaa
