/- TreeFinds, walked: find, and what Get answered. -/
import Derived.Test.YtkolacaceaamoaaKTg
import Derived.Test.YtkolacaceaamoaaKTe
set_option linter.unusedSimpArgs false
set_option linter.unusedVariables false
namespace Go.Proofs.Ytkolacaceaamoaa
open Go.RowKit
open Go.Lib (compareBytes)
section
variable {Q:Exit → Act → World → Prop} {w0 w1:World} {c:Pct} {tb g7 g8 nr cap7 cap8 i k:Nat} {m:Pst} {roots:List Nat} {lists:List (List It)} {most:Int} {A2 A3:Option Addr} {n2 c2 n3 c3:Nat} {fr te:Cn}
set_option maxRecDepth 100000 in
set_option maxHeartbeats 8000000 in
theorem finds_find {A:Option Addr} {n cc:Nat} {ev:Int} (hk2:k < lists.length) (hnl:lists.length = nr) (hcap:nr ≤ cap8 ∧ cap8 ≤ 9223372036854775807) (hi:i ≤ 30) (hr:RiseI lists[k])
  (hG:GtF w0 c tb i m (.slice (some ⟨g7,0,none⟩) nr cap7) (.slice (some ⟨g8,0,none⟩) nr cap8) roots lists lists[k] fr (.slice A n cc) ev w1) (hf:BS w0 (fun j=>j < w0.heap.size) (.slice A2 n2 c2) fr)
  (hQ:∀ (u0 u1 u5 u6 u7 u8 u9 u10 u12 u15 u17 u18 u19 u20 u21 u22 u23 u24 u25 u26 u27 u28 u29 u30 u31 u32 u33 u34 u35 u36 u37 u38 u39 u40 u41 u42 u43 u44 u45 u46 u47 u48 u49 u50 u51 u52 u53 u54 u55 u56 u57 u58 u59 u60 u61 u62 u63 u64 u65 u66 u67 u68 u69 u70 u71 u72 u73 u74 u75 u76 u77 u78 u79 u80 u81 u82 u83 u84 u85 u86 u87 u88 u89 u90 u91 u92 u93 u94 u95 u96 u97 u98 u99 u100 u101 u102 u103 u104 u105 u106 u107 u108 u109 u110 u111 u112 u113 u114 u115 u116 u117 u118 u119 u120 u121 u122 u123 u124 u125 u126 u127 u128 u129 u130 u131 u132 u133 u134 u135 u136 u137 u138 u139 u140 u141 u142 u143 u144 u145 u146 u147 u148 u149 u150 u151 u152 u153 u154 u155 u156 u157 u158 u159 u160 u161 u162 u163 u164 u165 u166 u167 u168 u169 u170 u171 u172 u173 u174 u175 u176 u177 u178:Value) (w':World),GwC w0 c tb i m (.slice (some ⟨g7,0,none⟩) nr cap7) (.slice (some ⟨g8,0,none⟩) nr cap8) roots lists w' → Code.wp Try.prog (BF 10) Q { tmps:=#[u0,u1,.slice A2 n2 c2,.slice A3 n3 c3,.int .i64 most,u5,u6,u7,u8,u9,u10,.pointer (some ⟨tb,0,none⟩),u12,.slice (some ⟨g7,0,none⟩) nr cap7,.slice (some ⟨g8,0,none⟩) nr cap8,u15,.int .i64 (k:Int),u17,u18,u19,u20,u21,u22,u23,u24,u25,u26,u27,u28,u29,u30,u31,u32,u33,u34,u35,u36,u37,u38,u39,u40,u41,u42,u43,u44,u45,u46,u47,u48,u49,u50,u51,u52,u53,u54,u55,u56,u57,u58,u59,u60,u61,u62,u63,u64,u65,u66,u67,u68,u69,u70,u71,u72,u73,u74,u75,u76,u77,u78,u79,u80,u81,u82,u83,u84,u85,u86,u87,u88,u89,u90,u91,u92,u93,u94,u95,u96,u97,u98,u99,u100,u101,u102,u103,u104,u105,u106,u107,u108,u109,u110,u111,u112,u113,u114,u115,u116,u117,u118,u119,u120,u121,u122,u123,u124,u125,u126,u127,u128,u129,u130,u131,u132,u133,u134,u135,u136,u137,u138,u139,u140,u141,u142,u143,u144,u145,u146,u147,u148,u149,u150,u151,u152,u153,u154,u155,u156,u157,u158,u159,u160,u161,u162,u163,u164,u165,u166,u167,u168,u169,u170,u171,u172,u173,u174,u175,u176,u177,u178],defers:=[] } w')
  (u0 u1 u5 u6 u7 u8 u9 u10 u12 u15 u19 u20 u21 u22 u23 u24 u25 u26 u27 u28 u29 u30 u31 u32 u33 u34 u35 u36 u37 u38 u39 u40 u41 u42 u43 u44 u45 u46 u47 u48 u49 u50 u51 u52 u53 u54 u55 u56 u57 u58 u59 u60 u61 u62 u63 u64 u65 u66 u67 u68 u69 u70 u71 u72 u73 u74 u75 u76 u77 u78 u79 u80 u81 u82 u83 u84 u85 u86 u87 u88 u89 u90 u91 u92 u93 u94 u95 u96 u97 u98 u99 u100 u101 u102 u103 u104 u105 u106 u107 u108 u109 u110 u111 u112 u113 u114 u115 u116 u117 u118 u119 u120 u121 u122 u123 u124 u125 u126 u127 u128 u129 u130 u131 u132 u133 u134 u135 u136 u137 u138 u139 u140 u141 u142 u143 u144 u145 u146 u147 u148 u149 u150 u151 u152 u153 u154 u155 u156 u157 u158 u159 u160 u161 u162 u163 u164 u165 u166 u167 u168 u169 u170 u171 u172 u173 u174 u175 u176 u177 u178:Value):Code.wp Try.prog (BF 8) Q { tmps:=#[u0,u1,.slice A2 n2 c2,.slice A3 n3 c3,.int .i64 most,u5,u6,u7,u8,u9,u10,.pointer (some ⟨tb,0,none⟩),u12,.slice (some ⟨g7,0,none⟩) nr cap7,.slice (some ⟨g8,0,none⟩) nr cap8,u15,.int .i64 (k:Int),.slice A n cc,.int .i64 ev,u19,u20,u21,u22,u23,u24,u25,u26,u27,u28,u29,u30,u31,u32,u33,u34,u35,u36,u37,u38,u39,u40,u41,u42,u43,u44,u45,u46,u47,u48,u49,u50,u51,u52,u53,u54,u55,u56,u57,u58,u59,u60,u61,u62,u63,u64,u65,u66,u67,u68,u69,u70,u71,u72,u73,u74,u75,u76,u77,u78,u79,u80,u81,u82,u83,u84,u85,u86,u87,u88,u89,u90,u91,u92,u93,u94,u95,u96,u97,u98,u99,u100,u101,u102,u103,u104,u105,u106,u107,u108,u109,u110,u111,u112,u113,u114,u115,u116,u117,u118,u119,u120,u121,u122,u123,u124,u125,u126,u127,u128,u129,u130,u131,u132,u133,u134,u135,u136,u137,u138,u139,u140,u141,u142,u143,u144,u145,u146,u147,u148,u149,u150,u151,u152,u153,u154,u155,u156,u157,u158,u159,u160,u161,u162,u163,u164,u165,u166,u167,u168,u169,u170,u171,u172,u173,u174,u175,u176,u177,u178],defers:=[] } w1:=by
 obtain ⟨hC,hv⟩:=hG
 obtain ⟨g,cap,A8,n8,cc8,e,-,-,z8,k8,hs8⟩:=hC.at8 hk2
 have hgg:g = g8:=by
  injection e with e _ _
  injection e with e
  injection e with e
  exact e.symm
 rw [hgg] at z8 k8
 clear e hgg
 have hok:=(hC.ok lists[k] (List.getElem_mem hk2)).1
 obtain ⟨l,hl⟩:∃ l,lists[k] = l:=⟨_,rfl⟩
 rw [hl] at hr hv hs8 hok
 have hkn:k < nr:=by omega
 obtain ⟨hcap1,hcap2⟩:=hcap
 have hb01:=hC.nl.bel
 have hf1:=hf.keep (w':=w1) (F':=fun j=>j < w1.heap.size) (fun j hj _=>hb01.block j hj) (fun j hj _=>Nat.lt_of_lt_of_le hj hb01.size)
 have HFI:=hide (find17 (key:=fr) (vk:=.slice A2 n2 c2) (hs8.keep (F':=fun j=>j < w1.heap.size) (by omega) @ItR.keep (fun _ _ _=>rfl) (fun j hj _=>hj.1)) hf1 (by omega))
 have hvf:=valOf_findL (key:=fr) hr
 have HVF:=hide hvf
 have HV:=hide hv
 have HS8:=hide hs8
 have HC:=hide hC
 have HQ:=hide hQ
 obtain ⟨k1,hk1⟩:∃ q,(findL l fr).1 = q:=⟨_,rfl⟩
 obtain ⟨t,ht⟩:∃ q,(findL l fr).2 = q:=⟨_,rfl⟩
 rw [hk1,ht] at HFI
 have HK1:=hide hk1
 have HTT:=hide ht
 have hn8:n8 ≤ 6000:=by
  obtain ⟨_,_,_,e,_⟩:=id hs8
  injection e with _ e2 _
  omega
 have hlen:l.length = n8:=by
  obtain ⟨_,_,_,e,_⟩:=id hs8
  injection e with _ e2 _
  exact e2.symm
 have HLEN:=hide hlen
 clear hQ hC hf hb01 hf1 hr hv hs8 hok hvf hk1 ht hl hlen
 rw [show BF 8 = Code.seq (CF 8) (Code.seq (CF 9) (BF 10)) from rfl]
 conv=>arg 2; arg 1; whnf
 conv=>arg 2; arg 2; arg 1; whnf
 go_upto_region 12 with (go_at_call 13; (refine HFI.out.mono ?_); rintro e w2 ⟨rfl,N,rfl⟩)
 have HC2:=hide (HC.out.below (bel_drewN w1 N))
 have k8':=(bel_drewN w1 N).cell (p:=⟨g8,k,none⟩) z8 |>.trans k8
 have z8':=Nat.lt_of_lt_of_le z8 (bel_drewN w1 N).size
 clear HFI k8 z8
 cases t with
 | true=>
  obtain ⟨hlt,hval⟩:=HVF.out.1 HTT.out
  obtain ⟨x,hx,he0,hbx⟩ | ⟨hx,-⟩:=HV.out
  ·subst he0
   have hb2:=hbx.keep (w':=w1.drewN N) (F':=fun j=>j < (w1.drewN N).heap.size) (fun j hj _=>(bel_drewN w1 N).block j hj) (fun j hj _=>Nat.lt_of_lt_of_le hj (bel_drewN w1 N).size)
   have f1:=fun n=>bs_stringN hb2 n
   obtain ⟨b,o,A0,c0,B0,d0,rfl,hb,-,p0,p1,⟨q1,q2,eq1,hq1,hq2⟩⟩:=HS8.out.at_it hlt
   obtain ⟨rfl,e2⟩:=List.cons.inj eq1
   obtain ⟨rfl,-⟩:=List.cons.inj e2
   have hv2:=hq2.keep (w':=w1.drewN N) (F':=fun j=>j < (w1.drewN N).heap.size) (fun j hj hlt=>(bel_drewN w1 N).block j hlt) (fun j hj hlt=>Nat.lt_of_lt_of_le hlt (bel_drewN w1 N).size)
   have f2:=fun n=>bs_stringN hv2 n
   have hxe:l[(findL l fr).1].v = x:=by rw [hval] at hx; injection hx
   rw [hxe] at f2 p1
   have p1':=((bel_drewN w1 N).cell (p:=⟨b,o + (findL l fr).1 * 2 + 1,none⟩) hb).trans p1
   have hb':=Nat.lt_of_lt_of_le hb (bel_drewN w1 N).size
   obtain ⟨t1,ht1⟩:∃ t:ByteArray,⟨x.toArray⟩ = t:=⟨_,rfl⟩
   obtain ⟨n1,hn1⟩:∃ q,x.length = q:=⟨_,rfl⟩
   obtain ⟨w2,hw2⟩:∃ q,w1.drewN N = q:=⟨_,rfl⟩
   rw [ht1] at f1 f2
   rw [hn1] at p1' f2
   rw [HK1.out,hw2] at p1'
   rw [hw2] at f1 f2 hb' k8' z8' HC2 ⊢
   have hk1n:k1 < n8:=by rw [← HLEN.out,← HK1.out]; exact hlt
   have dtt:(t1.toList == t1.toList) = true:=by simp
   clear hlt hval hx hbx hb2 e2 eq1 hq1 hq2 hv2 hxe hb p0 p1 ht1 hn1 hw2
   go_quiet (fail)
   go_wp2_with fail
   exact HQ.out _ _ _ _ _ _ _ _ _ _ _ _ _ _ _ _ _ _ _ _ _ _ _ _ _ _ _ _ _ _ _ _ _ _ _ _ _ _ _ _ _ _ _ _ _ _ _ _ _ _ _ _ _ _ _ _ _ _ _ _ _ _ _ _ _ _ _ _ _ _ _ _ _ _ _ _ _ _ _ _ _ _ _ _ _ _ _ _ _ _ _ _ _ _ _ _ _ _ _ _ _ _ _ _ _ _ _ _ _ _ _ _ _ _ _ _ _ _ _ _ _ _ _ _ _ _ _ _ _ _ _ _ _ _ _ _ _ _ _ _ _ _ _ _ _ _ _ _ _ _ _ _ _ _ _ _ _ _ _ _ _ _ _ _ _ _ _ _ _ _ _ _ _ (HC2.out.below (bel_drewN _ _))
  ·rw [hval] at hx
   cases hx
 | false=>
  have hval:=HVF.out.2 HTT.out
  obtain ⟨x,hx,he0,hbx⟩ | ⟨hx,he5⟩:=HV.out
  ·rw [hval] at hx
   cases hx
  ·subst he5
   obtain ⟨w2,hw2⟩:∃ q,w1.drewN N = q:=⟨_,rfl⟩
   rw [hw2] at k8' z8' HC2 ⊢
   clear hval hx hw2
   go_quiet (fail)
   go_wp2_with fail
   exact HQ.out _ _ _ _ _ _ _ _ _ _ _ _ _ _ _ _ _ _ _ _ _ _ _ _ _ _ _ _ _ _ _ _ _ _ _ _ _ _ _ _ _ _ _ _ _ _ _ _ _ _ _ _ _ _ _ _ _ _ _ _ _ _ _ _ _ _ _ _ _ _ _ _ _ _ _ _ _ _ _ _ _ _ _ _ _ _ _ _ _ _ _ _ _ _ _ _ _ _ _ _ _ _ _ _ _ _ _ _ _ _ _ _ _ _ _ _ _ _ _ _ _ _ _ _ _ _ _ _ _ _ _ _ _ _ _ _ _ _ _ _ _ _ _ _ _ _ _ _ _ _ _ _ _ _ _ _ _ _ _ _ _ _ _ _ _ _ _ _ _ _ _ _ _ (HC2.out.below (bel_drewN _ _))
end
end Go.Proofs.Ytkolacaceaamoaa
/- TreeFinds, walked: the items that are wanted, and the end. -/
namespace Go.Proofs.Ytkolacaceaamoaa
open Go.RowKit
open Go.Lib (compareBytes)
/-- The items that are wanted, so far. -/
def WnS (w2:World) (fr te:Cn) (most:Int) (l:List It) (j:Nat) (wr:World) (B:Option Addr) (nb d:Nat):Prop:=
 ∃ o:List It,o.length = nb ∧ nb ≤ j ∧ GrN ItR TIt 2 (fun q=>q < w2.heap.size) w2 wr (.slice B nb d) o ∧ wantL fr te most [] l = wantL fr te most o (l.drop j)
section
variable {w0 w1:World} {c:Pct} {tb g7 g8 nr cap7 cap8 i k:Nat} {m:Pst} {roots:List Nat} {lists:List (List It)} {most:Int} {A2 A3:Option Addr} {n2 c2 n3 c3:Nat} {fr te:Cn}
set_option maxRecDepth 100000 in
set_option maxHeartbeats 8000000 in
theorem finds_end {A:Option Addr} {n cc:Nat} {ev:Int} (hk2:k < lists.length) (hnl:lists.length = nr) (hcap:nr ≤ cap8 ∧ cap8 ≤ 9223372036854775807) (hi:i ≤ 30)
  (hG:ScF w0 c tb i m (.slice (some ⟨g7,0,none⟩) nr cap7) (.slice (some ⟨g8,0,none⟩) nr cap8) roots lists lists[k] fr te most A n cc ev w1) (hf:BS w0 (fun j=>j < w0.heap.size) (.slice A2 n2 c2) fr) (ht:BS w0 (fun j=>j < w0.heap.size) (.slice A3 n3 c3) te)
  (u0 u1 u5 u6 u7 u8 u9 u10 u12 u15 u17 u18 u19 u20 u23 u24 u25 u26 u27 u28 u29 u30 u31 u32 u33 u34 u35 u36 u37 u38 u39 u40 u41 u42 u43 u44 u45 u46 u47 u48 u49 u50 u51 u52 u53 u54 u55 u56 u57 u58 u59 u60 u61 u62 u63 u64 u65 u66 u67 u68 u69 u70 u71 u72 u73 u74 u75 u76 u77 u78 u79 u80 u81 u82 u83 u84 u85 u86 u87 u88 u89 u90 u91 u92 u93 u94 u95 u96 u97 u98 u99 u100 u101 u102 u103 u104 u105 u106 u107 u108 u109 u110 u111 u112 u113 u114 u115 u116 u117 u118 u119 u120 u121 u122 u123 u124 u125 u126 u127 u128 u129 u130 u131 u132 u133 u134 u135 u136 u137 u138 u139 u140 u141 u142 u143 u144 u145 u146 u147 u148 u149 u150 u151 u152 u153 u154 u155 u156 u157 u158 u159 u160 u161 u162 u163 u164 u165 u166 u167 u168 u169 u170 u171 u172 u173 u174 u175 u176 u177 u178:Value):Code.wp Try.prog (BF 11) (bodyPost Try.prog Try.f4 fun e w'=>e = .returned (.bool true) ∧ Below w0.heap.size w0 w') { tmps:=#[u0,u1,.slice A2 n2 c2,.slice A3 n3 c3,.int .i64 most,u5,u6,u7,u8,u9,u10,.pointer (some ⟨tb,0,none⟩),u12,.slice (some ⟨g7,0,none⟩) nr cap7,.slice (some ⟨g8,0,none⟩) nr cap8,u15,.int .i64 (k:Int),u17,u18,u19,u20,.slice A n cc,.int .i64 ev,u23,u24,u25,u26,u27,u28,u29,u30,u31,u32,u33,u34,u35,u36,u37,u38,u39,u40,u41,u42,u43,u44,u45,u46,u47,u48,u49,u50,u51,u52,u53,u54,u55,u56,u57,u58,u59,u60,u61,u62,u63,u64,u65,u66,u67,u68,u69,u70,u71,u72,u73,u74,u75,u76,u77,u78,u79,u80,u81,u82,u83,u84,u85,u86,u87,u88,u89,u90,u91,u92,u93,u94,u95,u96,u97,u98,u99,u100,u101,u102,u103,u104,u105,u106,u107,u108,u109,u110,u111,u112,u113,u114,u115,u116,u117,u118,u119,u120,u121,u122,u123,u124,u125,u126,u127,u128,u129,u130,u131,u132,u133,u134,u135,u136,u137,u138,u139,u140,u141,u142,u143,u144,u145,u146,u147,u148,u149,u150,u151,u152,u153,u154,u155,u156,u157,u158,u159,u160,u161,u162,u163,u164,u165,u166,u167,u168,u169,u170,u171,u172,u173,u174,u175,u176,u177,u178],defers:=[] } w1:=by
 obtain ⟨i0,hi0,hz0,hz1,hz2⟩:=tit_inf
 have HI0:=hide hi0
 have HZ0:=hide hz0
 obtain ⟨hC,hv⟩:=hG
 have hb01:=hC.nl.bel
 have HB01:=hide hb01
 by_cases hm:most < 0
 ·obtain ⟨-,rfl,rfl,rfl,rfl⟩ | ⟨h,-⟩:=hv
  ·have dm:decide (most < 0) = true:=by simpa using hm
   clear hi0 hz0 hf ht hC
   rw [show BF 11 = Code.seq (CF 11) (BF 12) from rfl]
   conv=>arg 2; arg 1; whnf
   go_wp2_with fail
   go_ret
   exact ⟨rfl,HB01.out⟩
  ·omega
 ·obtain ⟨h,-⟩ | ⟨-,he0,hsc⟩:=hv
  ·omega
  subst he0
  have dm:decide (most < 0) = false:=by simpa using hm
  obtain ⟨g,cap,A8,n8,cc8,e,-,-,z8,k8,hs8⟩:=hC.at8 hk2
  have hgg:g = g8:=by
   injection e with e _ _
   injection e with e
   injection e with e
   exact e.symm
  rw [hgg] at z8 k8
  clear e hgg
  have hok:=(hC.ok lists[k] (List.getElem_mem hk2)).1
  obtain ⟨l,hl⟩:∃ l,lists[k] = l:=⟨_,rfl⟩
  rw [hl] at hsc hs8 hok
  have hkn:k < nr:=by omega
  obtain ⟨hcap1,hcap2⟩:=hcap
  have hlen:l.length = n8:=by
   obtain ⟨_,_,_,e,_⟩:=id hs8
   injection e with _ e2 _
   exact e2.symm
  have hn8:n8 ≤ 6000:=by omega
  have HLEN:=hide hlen
  have HS8:=hide hs8
  have HSC:=hide hsc
  have HF1:=hide (hf.keep (w':=w1) (F':=fun j=>j < w1.heap.size) (fun j hj _=>hb01.block j hj) (fun j hj _=>Nat.lt_of_lt_of_le hj hb01.size))
  have HT1:=hide (ht.keep (w':=w1) (F':=fun j=>j < w1.heap.size) (fun j hj _=>hb01.block j hj) (fun j hj _=>Nat.lt_of_lt_of_le hj hb01.size))
  have hn3:n3 = te.length:=by
   obtain ⟨_,_,e,_⟩:=id ht
   injection e
  have HN3:=hide hn3
  have HST0:=hide (show WnS w1 fr te most l 0 w1 none 0 0 from ⟨[],rfl,Nat.le_refl _,⟨Below.refl _ _,[],World.ownsRow_nil _ _ _ _,rfl⟩,rfl⟩)
  clear hi0 hz0 hf ht hC hm hl hs8 hsc hok hlen hb01 hn3
  rw [show BF 11 = Code.seq (CF 11) (BF 12) from rfl]
  conv=>arg 2; arg 1; whnf
  conv=>arg 2; arg 2; whnf
  go_wp2_with fail
  go_loopw [23,24,25] (fun v23 v24 _ wr=>∃ (j nb d:Nat) (B:Option Addr),v23 = .slice B nb d ∧ v24 = .int .i64 (j:Int) ∧ j ≤ n8 ∧ Hid (WnS w1 fr te most l j wr B nb d)) (fun _ v24 _ _=>n8 - (intOf v24).toNat)
  case atStart=>exact ⟨0,0,0,none,rfl,by go_num,by omega,HST0⟩
  case round=>
   clear HST0
   obtain ⟨j,nb,d,B,rfl,rfl,hj,HW⟩:=hrel
   obtain ⟨o,hol,hoj,hgr,hwl⟩:=HW.out
   have hb1:=hgr.bel
   have HB1:=hide hb1
   have HGR:=hide hgr
   have HOL:=hide hol
   have HWL:=hide hwl
   have k8':=(hb1.cell (p:=⟨g8,k,none⟩) z8).trans k8
   have z8':=Nat.lt_of_lt_of_le z8 hb1.size
   clear HW hgr hol hwl
   by_cases hgo:j < n8 ∧ (nb:Int) < most
   ·obtain ⟨hlt,hnb⟩:=hgo
    have hjl:j < l.length:=by rw [HLEN.out]; exact hlt
    obtain ⟨b,o2,A0,c0,B0,d0,rfl,hb,-,p0,p1,hit⟩:=HS8.out.at_it hjl
    obtain ⟨x,hx⟩:∃ x,l[j] = x:=⟨_,rfl⟩
    have hdr:l.drop j = x :: l.drop (j + 1):=by rw [List.drop_eq_getElem_cons hjl,hx]
    rw [hx] at p0 p1 hit
    have hwn:wantL fr te most [] l = wantL fr te most (if wantB fr te x then o ++ [x] else o) (l.drop (j + 1)):=by
     rw [HWL.out,hdr,wantL,if_pos (by rw [HOL.out]; exact hnb)]
    have HWN:=hide hwn
    have HIT:=hide hit
    obtain ⟨q1,q2,eq1,hq1,hq2⟩:=id hit
    obtain ⟨rfl,e2⟩:=List.cons.inj eq1
    clear e2 eq1 hq2
    obtain ⟨n1,hn1⟩:∃ q,x.k.length = q:=⟨_,rfl⟩
    obtain ⟨n5,hn5⟩:∃ q,x.v.length = q:=⟨_,rfl⟩
    rw [hn1] at p0 HIT hq1
    rw [hn5] at p1 HIT
    have r0:=(hb1.cell (p:=⟨b,o2 + j * 2,none⟩) hb).trans p0
    have r1:=(hb1.cell (p:=⟨b,o2 + j * 2 + 1,none⟩) hb).trans p1
    have zb:=Nat.lt_of_lt_of_le hb hb1.size
    have d1:decide ((nb:Int) < most) = true:=by simpa using hnb
    have HQ1:=hide hq1
    clear hdr hx hwn hit p0 p1 hb hjl hn5 hq1 hb1
    go_upto_block 1 with fail
    refine wp_block ?_
    go_upto_region 22 with fail
    have hal:=al_below wr (Obj.cells #[.slice A0 n1 c0,.slice B0 n5 d0] TIt)
    have hb0:=Blk.new wr TIt #[.slice A0 n1 c0,.slice B0 n5 d0]
    obtain ⟨bx,hbx⟩:∃ q,wr.heap.size = q:=⟨_,rfl⟩
    obtain ⟨w3,hw3⟩:∃ q,wr.alloc (.cells #[.slice A0 n1 c0,.slice B0 n5 d0] TIt) = q:=⟨_,rfl⟩
    rw [hw3] at hb0 hal ⊢
    rw [hbx] at hb0 ⊢
    have HB3:=hide hal
    have hb13:=HB1.out.trans (hal.mono HB1.out.size)
    have HB13:=hide hb13
    have kb:=hb0.cell; have fz:=hb0.frozen; have zb1:=hb0.lt
    have HBX:=hide hb0
    have hq3:=HQ1.out.keep (w':=w3) (F':=fun j=>j < w3.heap.size) (fun j hj hlt=>hb13.block j hlt) (fun j hj hlt=>Nat.lt_of_lt_of_le hlt hb13.size)
    have f1:=bs_string hq3
    have f3:=bs_string (HF1.out.later hb13)
    have f4:=bs_string (HT1.out.later hb13)
    have hls:=str_less x.k fr
    have hlt4:=str_less x.k te
    obtain ⟨t1,ht1⟩:∃ t:ByteArray,⟨x.k.toArray⟩ = t:=⟨_,rfl⟩
    obtain ⟨t3,ht3⟩:∃ t:ByteArray,⟨fr.toArray⟩ = t:=⟨_,rfl⟩
    obtain ⟨t4,ht4⟩:∃ t:ByteArray,⟨te.toArray⟩ = t:=⟨_,rfl⟩
    rw [ht1] at f1 hls hlt4
    rw [ht3] at f3 hls
    rw [ht4] at f4 hlt4
    have HLS:=hide hls
    have HLT:=hide hlt4
    clear hal hbx hw3 hb0 hb13 hq3 hls hlt4 ht1 ht3 ht4 hn1 r0 r1 zb k8' z8'
    cases d2:Op.bytesLess t1.toList t3.toList with
    | true=>
     have HWB:=hide (show wantB fr te x = false from by
      have h:=HLS.out
      rw [d2] at h
      have h2:compareBytes x.k fr < 0:=by simpa using h.symm
      unfold wantB
      rw [decide_eq_false (by omega:¬ 0 ≤ compareBytes x.k fr)]
      rfl)
     go_wp2_with fail
     go_roundw
     case rel=>exact ⟨j + 1,nb,d,B,rfl,by go_num,by omega,hide ⟨o,HOL.out,by omega,HGR.out.below @ItR.keep HB3.out,by rw [HWN.out,HWB.out]; rfl⟩⟩
     case measure=>simp [intOf]; omega
    | false=>
     have HGE:=hide (show 0 ≤ compareBytes x.k fr from by
      have h:=HLS.out
      rw [d2] at h
      simpa using h.symm)
     by_cases h0:n3 = 0
     ·have d3:((n3:Int) == 0) = true:=by simp; omega
      have HWB:=hide (show wantB fr te x = true from by
       unfold wantB
       rw [decide_eq_true HGE.out,decide_eq_true (by rw [← HN3.out]; exact h0:te.length = 0)]
       rfl)
      clear h0
      go_upto_region 23 with fail
      obtain ⟨xs,hxo,hxl⟩:=HGR.out.row
      rw [HOL.out] at hxo
      have HXO:=hide hxo
      have HXL:=hide hxl
      obtain ⟨w5,hw5⟩:∃ q,w3.alloc (.cells #[.slice A0 n1 c0,.slice B0 n5 d0] TIt) = q:=⟨_,rfl⟩
      have HW5:=hide hw5
      have HB5:=hide (show Below wr.heap.size wr w5 from hw5 ▸ bal HB3.out _)
      have HO5:=hide (own_later hxo HB5.out)
      have HN5:=hide (show Blk w5 w3.heap.size TIt #[.slice A0 n1 c0,.slice B0 n5 d0] from hw5 ▸ Blk.new w3 TIt _)
      have hs15:=Nat.le_trans HB1.out.size HB5.out.size
      clear hxo hxl hw5
      go_wp2_with (at_builtin; go_loud ((try rw [HW5.out]); refine wpList_append_any _ rfl (.tmp 168) (.tmp 170) _ rfl w1.heap.size TIt i0 _ 2 48 Try.underlying32 HI0.out HZ0.out hz1 hz2 rfl (by omega) (.slice B nb d) nb xs rfl HO5.out _ (some ⟨w3.heap.size,0,none⟩) 1 1 [.slice A0 n1 c0,.slice B0 n5 d0] rfl (reads_blk HN5.out rfl rfl) (by intro u hu; simp at hu; rcases hu with rfl | rfl <;> rfl) (by unfold maxLen; omega) (by omega) hs15 ?_); intro v' w6 ho hgb hoo; (obtain ⟨A7,c7,rfl,hc7⟩:=own_slice ho); have HO7:=hide ho; have HG7:=hide hgb; have HOO7:=hide hoo; clear ho hgb hoo)
      go_roundw
      case rel=>exact ⟨j + 1,nb + 1,c7,A7,rfl,by go_num,by omega,hide ⟨o ++ [x],by rw [List.length_append,HOL.out]; rfl,by omega,GrN.push @ItR.keep (fun _ h=>h) HGR.out HB5.out ⟨by rw [HOL.out]; exact HXO.out,HXL.out⟩ (ItR.keep (fun q hq hlt=>(HB1.out.trans (HB5.out.mono HB1.out.size)).block q hlt) (fun q hq hlt=>⟨.inl hlt,Nat.lt_of_lt_of_le hlt hs15⟩) _ _ HIT.out) (by rw [HOL.out]; exact HO7.out) HG7.out HOO7.out,by rw [HWN.out,HWB.out]; rfl⟩⟩
      case measure=>simp [intOf]; omega
     ·have d3:((n3:Int) == 0) = false:=by simp; omega
      cases d4:Op.bytesLess t1.toList t4.toList with
      | true=>
       have HWB:=hide (show wantB fr te x = true from by
        have h:=HLT.out
        rw [d4] at h
        have h2:compareBytes x.k te < 0:=by simpa using h.symm
        unfold wantB
        rw [decide_eq_true HGE.out,decide_eq_true h2]
        simp)
       go_upto_region 23 with fail
       obtain ⟨xs,hxo,hxl⟩:=HGR.out.row
       rw [HOL.out] at hxo
       have HXO:=hide hxo
       have HXL:=hide hxl
       obtain ⟨w5,hw5⟩:∃ q,w3.alloc (.cells #[.slice A0 n1 c0,.slice B0 n5 d0] TIt) = q:=⟨_,rfl⟩
       have HW5:=hide hw5
       have HB5:=hide (show Below wr.heap.size wr w5 from hw5 ▸ bal HB3.out _)
       have HO5:=hide (own_later hxo HB5.out)
       have HN5:=hide (show Blk w5 w3.heap.size TIt #[.slice A0 n1 c0,.slice B0 n5 d0] from hw5 ▸ Blk.new w3 TIt _)
       have hs15:=Nat.le_trans HB1.out.size HB5.out.size
       clear hxo hxl hw5
       go_wp2_with (at_builtin; go_loud ((try rw [HW5.out]); refine wpList_append_any _ rfl (.tmp 168) (.tmp 170) _ rfl w1.heap.size TIt i0 _ 2 48 Try.underlying32 HI0.out HZ0.out hz1 hz2 rfl (by omega) (.slice B nb d) nb xs rfl HO5.out _ (some ⟨w3.heap.size,0,none⟩) 1 1 [.slice A0 n1 c0,.slice B0 n5 d0] rfl (reads_blk HN5.out rfl rfl) (by intro u hu; simp at hu; rcases hu with rfl | rfl <;> rfl) (by unfold maxLen; omega) (by omega) hs15 ?_); intro v' w6 ho hgb hoo; (obtain ⟨A7,c7,rfl,hc7⟩:=own_slice ho); have HO7:=hide ho; have HG7:=hide hgb; have HOO7:=hide hoo; clear ho hgb hoo)
       go_roundw
       case rel=>exact ⟨j + 1,nb + 1,c7,A7,rfl,by go_num,by omega,hide ⟨o ++ [x],by rw [List.length_append,HOL.out]; rfl,by omega,GrN.push @ItR.keep (fun _ h=>h) HGR.out HB5.out ⟨by rw [HOL.out]; exact HXO.out,HXL.out⟩ (ItR.keep (fun q hq hlt=>(HB1.out.trans (HB5.out.mono HB1.out.size)).block q hlt) (fun q hq hlt=>⟨.inl hlt,Nat.lt_of_lt_of_le hlt hs15⟩) _ _ HIT.out) (by rw [HOL.out]; exact HO7.out) HG7.out HOO7.out,by rw [HWN.out,HWB.out]; rfl⟩⟩
       case measure=>simp [intOf]; omega
      | false=>
       have HWB:=hide (show wantB fr te x = false from by
        have h:=HLT.out
        rw [d4] at h
        have h2:0 ≤ compareBytes x.k te:=by simpa using h.symm
        unfold wantB
        rw [decide_eq_false (by omega:¬ compareBytes x.k te < 0),decide_eq_false (by rw [← HN3.out]; exact h0:¬ te.length = 0)]
        simp)
       go_wp2_with fail
       go_roundw
       case rel=>exact ⟨j + 1,nb,d,B,rfl,by go_num,by omega,hide ⟨o,HOL.out,by omega,HGR.out.below @ItR.keep HB3.out,by rw [HWN.out,HWB.out]; rfl⟩⟩
       case measure=>simp [intOf]; omega
   ·have HFIN:=hide (show wantL fr te most [] l = o from by
     rw [HWL.out]
     rcases Nat.lt_or_ge j n8 with h | h
     ·exact wantL_full (by rw [HOL.out]; omega) _
     ·rw [List.drop_of_length_le (by rw [HLEN.out]; omega)]
      rfl)
    have hsm:=same17 (F:=fun j=>j < wr.heap.size) (HSC.out.keep (w':=wr) (F':=fun j=>j < wr.heap.size) (by omega) @ItR.keep (fun j hj hlt=>HB1.out.block j hlt) (fun j hj hlt=>Nat.lt_of_lt_of_le hlt HB1.out.size)) (HGR.out.slk (F':=fun j=>j < wr.heap.size) @ItR.keep (by omega) (fun j _ hj=>hj)) (by rw [HFIN.out,HOL.out]; omega) (by rw [HOL.out]; omega)
    rw [HFIN.out,eqIt_self] at hsm
    have HSM:=hide hsm
    have HBE:=hide (HB01.out.trans (HB1.out.mono HB01.out.size))
    have hbe2:∀ N,Below w0.heap.size w0 (wr.drewN N):=fun N=>HBE.out.trans ((bel_drewN wr N).mono HBE.out.size)
    have HBE2:=hide hbe2
    clear hsm hbe2
    by_cases hlt:j < n8
    ·have d1:decide ((nb:Int) < most) = false:=by simp; omega
     go_wp2_with (go_at_call 11; (refine HSM.out.mono ?_); rintro e w5 ⟨rfl,N,rfl⟩)
     go_ret
     exact ⟨rfl,HBE2.out _⟩
    ·obtain rfl:j = n8:=by omega
     go_wp2_with (go_at_call 11; (refine HSM.out.mono ?_); rintro e w5 ⟨rfl,N,rfl⟩)
     go_ret
     exact ⟨rfl,HBE2.out _⟩
end
end Go.Proofs.Ytkolacaceaamoaa
/- TreeFinds returns true. -/
namespace Go.Proofs.Ytkolacaceaamoaa
open Go.RowKit
open Go.Lib (compareBytes)
set_option maxRecDepth 100000 in
set_option maxHeartbeats 8000000 in
theorem finds_any {w:World} {vs:Value} {steps:List Stp} {which most:Int} {A2 A3:Option Addr} {n2 c2 n3 c3:Nat} {fr te:Cn} (hs:SLk 3 StR w (fun j=>j < w.heap.size) vs steps) (hn:steps.length ≤ 2000000) (hb:∀ s ∈ steps,stB s)
  (hf:BS w (fun j=>j < w.heap.size) (.slice A2 n2 c2) fr) (ht:BS w (fun j=>j < w.heap.size) (.slice A3 n3 c3) te) (hfl:fr.length ≤ 1073741824) (htl:te.length ≤ 1073741824) :
  Calls Try.prog 4 #[vs,.int .i64 which,.slice A2 n2 c2,.slice A3 n3 c3,.int .i64 most] w fun e w'=>e = .returned (.bool true) ∧ Below w.heap.size w w':=by
 have HG:=hide (fun (w1:World) (tb:Nat) (c:Pct) (m:Pst) (hN:NlS w c tb m w1) (h0:m.N = 0)=>grown_any hN h0 hs hn hb)
 have HF:=hide hf
 have HT0:=hide ht
 have HFL:=hide hfl
 have HTL:=hide htl
 clear hs hn hb hf ht hfl htl
 have hfr:=fresh_any w 3000 (by omega) (by omega)
 rw [show ((3000:Nat):Int) = 3000 from rfl] at hfr
 have HFR:=hide hfr
 clear hfr
 go_enter Try.func4,Try.ntmps4
 refine id (show Code.wp Try.prog (BF 0) _ _ _ from ?_)
 rw [show BF 0 = Code.seq (CF 0) (Code.seq (CF 1) (Code.seq (CF 2) (Code.seq (CF 3) (Code.seq (CF 4) (Code.seq (CF 5) (Code.seq (CF 6) (BF 7))))))) from rfl]
 conv=>arg 2; arg 1; whnf
 conv=>arg 2; arg 2; arg 1; whnf
 conv=>arg 2; arg 2; arg 2; arg 1; whnf
 conv=>arg 2; arg 2; arg 2; arg 2; arg 1; whnf
 conv=>arg 2; arg 2; arg 2; arg 2; arg 2; arg 1; whnf
 conv=>arg 2; arg 2; arg 2; arg 2; arg 2; arg 2; arg 1; whnf
 conv=>arg 2; arg 2; arg 2; arg 2; arg 2; arg 2; arg 2; arg 1; whnf
 go_upto_region 2 with (go_at_call 7; (refine HFR.out.mono ?_); rintro e w1 ⟨tb,c,m,rfl,hf⟩; have HF1:=hide hf; clear hf)
 have HAN:=hide (answers17 w1)
 go_upto_region 4 with (go_at_call 8; (refine HAN.out.mono ?_); rintro e w2 ⟨rfl,hb⟩; have HB2:=hide hb; clear hb)
 have HG2:=hide (HG.out w2 tb c m (HF1.out.nls.below HB2.out) HF1.out.n0)
 go_upto_region 5 with (go_at_call 9; (refine HG2.out.mono ?_); rintro e w3 ⟨j,m3,v7,v8,roots,lists,hj,rfl,hc,ht,hr1,hr2⟩; have HC0:=hide hc; have HT:=hide ht; clear hc ht)
 clear HG HG2
 obtain ⟨g7,cap7,e7,h71,h72,-⟩:=HC0.out.at7 (i:=0) (by omega)
 obtain ⟨g8,cap8,A8,n8,cc8,e8,h81,h82,-⟩:=HC0.out.at8 (i:=0) (by have:=HT.out.1; omega)
 obtain ⟨nr,hnr⟩:∃ q,roots.length = q:=⟨_,rfl⟩
 have hnl:lists.length = nr:=by rw [← HT.out.1]; exact hnr
 rw [hnr] at e7 h71 hr1 hr2
 rw [hnl] at e8 h81
 subst e7 e8
 have HNR:=hide hnr
 have HNL:=hide hnl
 clear hnr hnl
 unfold maxLen at h72 h82
 go_upto_region 7 with fail
 by_cases hK:0 < which
 ·obtain ⟨k,hk⟩:∃ k,which.toNat % nr = k:=⟨_,rfl⟩
  have hkn:k < nr:=hk ▸ Nat.mod_lt _ (by omega)
  have ek:Int.tmod which (nr:Int) = (k:Int):=by
   rw [show which = ((which.toNat:Nat):Int) from by omega,tmod_nat,hk]
  have dn0:((nr:Int) == 0) = false:=by simp; omega
  have dK:decide ((0:Int) < which) = true:=by simp; omega
  go_wp2_with fail
  have hkr:k < roots.length:=by rw [HNR.out]; exact hkn
  have hkl:k < lists.length:=by rw [HNL.out]; exact hkn
  refine finds_get hkr hkl HNR.out ⟨h71,by omega⟩ hj HC0.out HT.out HF.out HFL.out ?_ _ _ _ _ _ _ _ _ _ _ _ _ _ _ _ _ _ _ _ _ _ _ _ _ _ _ _ _ _ _ _ _ _ _ _ _ _ _ _ _ _ _ _ _ _ _ _ _ _ _ _ _ _ _ _ _ _ _ _ _ _ _ _ _ _ _ _ _ _ _ _ _ _ _ _ _ _ _ _ _ _ _ _ _ _ _ _ _ _ _ _ _ _ _ _ _ _ _ _ _ _ _ _ _ _ _ _ _ _ _ _ _ _ _ _ _ _ _ _ _ _ _ _ _ _ _ _ _ _ _ _ _ _ _ _ _ _ _ _ _ _ _ _ _ _ _ _ _ _ _ _ _ _ _ _ _ _ _ _ _ _ _ _ _ _ _ _ _ _ _ _ _
  intro u0 u1 u5 u6 u7 u8 u9 u10 u12 u15 u19 u20 u21 u22 u23 u24 u25 u26 u27 u28 u29 u30 u31 u32 u33 u34 u35 u36 u37 u38 u39 u40 u41 u42 u43 u44 u45 u46 u47 u48 u49 u50 u51 u52 u53 u54 u55 u56 u57 u58 u59 u60 u61 u62 u63 u64 u65 u66 u67 u68 u69 u70 u71 u72 u73 u74 u75 u76 u77 u78 u79 u80 u81 u82 u83 u84 u85 u86 u87 u88 u89 u90 u91 u92 u93 u94 u95 u96 u97 u98 u99 u100 u101 u102 u103 u104 u105 u106 u107 u108 u109 u110 u111 u112 u113 u114 u115 u116 u117 u118 u119 u120 u121 u122 u123 u124 u125 u126 u127 u128 u129 u130 u131 u132 u133 u134 u135 u136 u137 u138 u139 u140 u141 u142 u143 u144 u145 u146 u147 u148 u149 u150 u151 u152 u153 u154 u155 u156 u157 u158 u159 u160 u161 u162 u163 u164 u165 u166 u167 u168 u169 u170 u171 u172 u173 u174 u175 u176 u177 u178 A n cc ev w4 hg
  have HGF:=hide hg
  clear hg
  refine finds_find hkl HNL.out ⟨h81,by omega⟩ hj (HT.out.2 k hkr hkl).1 HGF.out HF.out ?_ _ _ _ _ _ _ _ _ _ _ _ _ _ _ _ _ _ _ _ _ _ _ _ _ _ _ _ _ _ _ _ _ _ _ _ _ _ _ _ _ _ _ _ _ _ _ _ _ _ _ _ _ _ _ _ _ _ _ _ _ _ _ _ _ _ _ _ _ _ _ _ _ _ _ _ _ _ _ _ _ _ _ _ _ _ _ _ _ _ _ _ _ _ _ _ _ _ _ _ _ _ _ _ _ _ _ _ _ _ _ _ _ _ _ _ _ _ _ _ _ _ _ _ _ _ _ _ _ _ _ _ _ _ _ _ _ _ _ _ _ _ _ _ _ _ _ _ _ _ _ _ _ _ _ _ _ _ _ _ _ _ _ _ _ _ _ _ _ _ _
  clear HGF
  intro u0 u1 u5 u6 u7 u8 u9 u10 u12 u15 u17 u18 u19 u20 u21 u22 u23 u24 u25 u26 u27 u28 u29 u30 u31 u32 u33 u34 u35 u36 u37 u38 u39 u40 u41 u42 u43 u44 u45 u46 u47 u48 u49 u50 u51 u52 u53 u54 u55 u56 u57 u58 u59 u60 u61 u62 u63 u64 u65 u66 u67 u68 u69 u70 u71 u72 u73 u74 u75 u76 u77 u78 u79 u80 u81 u82 u83 u84 u85 u86 u87 u88 u89 u90 u91 u92 u93 u94 u95 u96 u97 u98 u99 u100 u101 u102 u103 u104 u105 u106 u107 u108 u109 u110 u111 u112 u113 u114 u115 u116 u117 u118 u119 u120 u121 u122 u123 u124 u125 u126 u127 u128 u129 u130 u131 u132 u133 u134 u135 u136 u137 u138 u139 u140 u141 u142 u143 u144 u145 u146 u147 u148 u149 u150 u151 u152 u153 u154 u155 u156 u157 u158 u159 u160 u161 u162 u163 u164 u165 u166 u167 u168 u169 u170 u171 u172 u173 u174 u175 u176 u177 u178 w5 hc
  refine finds_scan hkr hkl HNR.out ⟨h71,by omega⟩ hj hc HT.out HF.out HFL.out HT0.out HTL.out ?_ _ _ _ _ _ _ _ _ _ _ _ _ _ _ _ _ _ _ _ _ _ _ _ _ _ _ _ _ _ _ _ _ _ _ _ _ _ _ _ _ _ _ _ _ _ _ _ _ _ _ _ _ _ _ _ _ _ _ _ _ _ _ _ _ _ _ _ _ _ _ _ _ _ _ _ _ _ _ _ _ _ _ _ _ _ _ _ _ _ _ _ _ _ _ _ _ _ _ _ _ _ _ _ _ _ _ _ _ _ _ _ _ _ _ _ _ _ _ _ _ _ _ _ _ _ _ _ _ _ _ _ _ _ _ _ _ _ _ _ _ _ _ _ _ _ _ _ _ _ _ _ _ _ _ _ _ _ _ _ _ _ _ _ _ _ _ _ _ _ _ _ _
  intro u0 u1 u5 u6 u7 u8 u9 u10 u12 u15 u17 u18 u19 u20 u23 u24 u25 u26 u27 u28 u29 u30 u31 u32 u33 u34 u35 u36 u37 u38 u39 u40 u41 u42 u43 u44 u45 u46 u47 u48 u49 u50 u51 u52 u53 u54 u55 u56 u57 u58 u59 u60 u61 u62 u63 u64 u65 u66 u67 u68 u69 u70 u71 u72 u73 u74 u75 u76 u77 u78 u79 u80 u81 u82 u83 u84 u85 u86 u87 u88 u89 u90 u91 u92 u93 u94 u95 u96 u97 u98 u99 u100 u101 u102 u103 u104 u105 u106 u107 u108 u109 u110 u111 u112 u113 u114 u115 u116 u117 u118 u119 u120 u121 u122 u123 u124 u125 u126 u127 u128 u129 u130 u131 u132 u133 u134 u135 u136 u137 u138 u139 u140 u141 u142 u143 u144 u145 u146 u147 u148 u149 u150 u151 u152 u153 u154 u155 u156 u157 u158 u159 u160 u161 u162 u163 u164 u165 u166 u167 u168 u169 u170 u171 u172 u173 u174 u175 u176 u177 u178 A n cc ev w6 hg
  exact finds_end hkl HNL.out ⟨h81,by omega⟩ hj hg HF.out HT0.out _ _ _ _ _ _ _ _ _ _ _ _ _ _ _ _ _ _ _ _ _ _ _ _ _ _ _ _ _ _ _ _ _ _ _ _ _ _ _ _ _ _ _ _ _ _ _ _ _ _ _ _ _ _ _ _ _ _ _ _ _ _ _ _ _ _ _ _ _ _ _ _ _ _ _ _ _ _ _ _ _ _ _ _ _ _ _ _ _ _ _ _ _ _ _ _ _ _ _ _ _ _ _ _ _ _ _ _ _ _ _ _ _ _ _ _ _ _ _ _ _ _ _ _ _ _ _ _ _ _ _ _ _ _ _ _ _ _ _ _ _ _ _ _ _ _ _ _ _ _ _ _ _ _ _ _ _ _ _ _ _ _ _ _ _ _ _ _ _ _
 ·have dK:decide ((0:Int) < which) = false:=by simp; omega
  obtain ⟨k,hk⟩:∃ k:Nat,nr - 1 = k:=⟨_,rfl⟩
  have hkn:k < nr:=by omega
  have ek:((nr:Int) - 1) = (k:Int):=by omega
  go_wp2_with fail
  have hkr:k < roots.length:=by rw [HNR.out]; exact hkn
  have hkl:k < lists.length:=by rw [HNL.out]; exact hkn
  refine finds_get hkr hkl HNR.out ⟨h71,by omega⟩ hj HC0.out HT.out HF.out HFL.out ?_ _ _ _ _ _ _ _ _ _ _ _ _ _ _ _ _ _ _ _ _ _ _ _ _ _ _ _ _ _ _ _ _ _ _ _ _ _ _ _ _ _ _ _ _ _ _ _ _ _ _ _ _ _ _ _ _ _ _ _ _ _ _ _ _ _ _ _ _ _ _ _ _ _ _ _ _ _ _ _ _ _ _ _ _ _ _ _ _ _ _ _ _ _ _ _ _ _ _ _ _ _ _ _ _ _ _ _ _ _ _ _ _ _ _ _ _ _ _ _ _ _ _ _ _ _ _ _ _ _ _ _ _ _ _ _ _ _ _ _ _ _ _ _ _ _ _ _ _ _ _ _ _ _ _ _ _ _ _ _ _ _ _ _ _ _ _ _ _ _ _ _ _
  intro u0 u1 u5 u6 u7 u8 u9 u10 u12 u15 u19 u20 u21 u22 u23 u24 u25 u26 u27 u28 u29 u30 u31 u32 u33 u34 u35 u36 u37 u38 u39 u40 u41 u42 u43 u44 u45 u46 u47 u48 u49 u50 u51 u52 u53 u54 u55 u56 u57 u58 u59 u60 u61 u62 u63 u64 u65 u66 u67 u68 u69 u70 u71 u72 u73 u74 u75 u76 u77 u78 u79 u80 u81 u82 u83 u84 u85 u86 u87 u88 u89 u90 u91 u92 u93 u94 u95 u96 u97 u98 u99 u100 u101 u102 u103 u104 u105 u106 u107 u108 u109 u110 u111 u112 u113 u114 u115 u116 u117 u118 u119 u120 u121 u122 u123 u124 u125 u126 u127 u128 u129 u130 u131 u132 u133 u134 u135 u136 u137 u138 u139 u140 u141 u142 u143 u144 u145 u146 u147 u148 u149 u150 u151 u152 u153 u154 u155 u156 u157 u158 u159 u160 u161 u162 u163 u164 u165 u166 u167 u168 u169 u170 u171 u172 u173 u174 u175 u176 u177 u178 A n cc ev w4 hg
  have HGF:=hide hg
  clear hg
  refine finds_find hkl HNL.out ⟨h81,by omega⟩ hj (HT.out.2 k hkr hkl).1 HGF.out HF.out ?_ _ _ _ _ _ _ _ _ _ _ _ _ _ _ _ _ _ _ _ _ _ _ _ _ _ _ _ _ _ _ _ _ _ _ _ _ _ _ _ _ _ _ _ _ _ _ _ _ _ _ _ _ _ _ _ _ _ _ _ _ _ _ _ _ _ _ _ _ _ _ _ _ _ _ _ _ _ _ _ _ _ _ _ _ _ _ _ _ _ _ _ _ _ _ _ _ _ _ _ _ _ _ _ _ _ _ _ _ _ _ _ _ _ _ _ _ _ _ _ _ _ _ _ _ _ _ _ _ _ _ _ _ _ _ _ _ _ _ _ _ _ _ _ _ _ _ _ _ _ _ _ _ _ _ _ _ _ _ _ _ _ _ _ _ _ _ _ _ _ _
  clear HGF
  intro u0 u1 u5 u6 u7 u8 u9 u10 u12 u15 u17 u18 u19 u20 u21 u22 u23 u24 u25 u26 u27 u28 u29 u30 u31 u32 u33 u34 u35 u36 u37 u38 u39 u40 u41 u42 u43 u44 u45 u46 u47 u48 u49 u50 u51 u52 u53 u54 u55 u56 u57 u58 u59 u60 u61 u62 u63 u64 u65 u66 u67 u68 u69 u70 u71 u72 u73 u74 u75 u76 u77 u78 u79 u80 u81 u82 u83 u84 u85 u86 u87 u88 u89 u90 u91 u92 u93 u94 u95 u96 u97 u98 u99 u100 u101 u102 u103 u104 u105 u106 u107 u108 u109 u110 u111 u112 u113 u114 u115 u116 u117 u118 u119 u120 u121 u122 u123 u124 u125 u126 u127 u128 u129 u130 u131 u132 u133 u134 u135 u136 u137 u138 u139 u140 u141 u142 u143 u144 u145 u146 u147 u148 u149 u150 u151 u152 u153 u154 u155 u156 u157 u158 u159 u160 u161 u162 u163 u164 u165 u166 u167 u168 u169 u170 u171 u172 u173 u174 u175 u176 u177 u178 w5 hc
  refine finds_scan hkr hkl HNR.out ⟨h71,by omega⟩ hj hc HT.out HF.out HFL.out HT0.out HTL.out ?_ _ _ _ _ _ _ _ _ _ _ _ _ _ _ _ _ _ _ _ _ _ _ _ _ _ _ _ _ _ _ _ _ _ _ _ _ _ _ _ _ _ _ _ _ _ _ _ _ _ _ _ _ _ _ _ _ _ _ _ _ _ _ _ _ _ _ _ _ _ _ _ _ _ _ _ _ _ _ _ _ _ _ _ _ _ _ _ _ _ _ _ _ _ _ _ _ _ _ _ _ _ _ _ _ _ _ _ _ _ _ _ _ _ _ _ _ _ _ _ _ _ _ _ _ _ _ _ _ _ _ _ _ _ _ _ _ _ _ _ _ _ _ _ _ _ _ _ _ _ _ _ _ _ _ _ _ _ _ _ _ _ _ _ _ _ _ _ _ _ _ _ _
  intro u0 u1 u5 u6 u7 u8 u9 u10 u12 u15 u17 u18 u19 u20 u23 u24 u25 u26 u27 u28 u29 u30 u31 u32 u33 u34 u35 u36 u37 u38 u39 u40 u41 u42 u43 u44 u45 u46 u47 u48 u49 u50 u51 u52 u53 u54 u55 u56 u57 u58 u59 u60 u61 u62 u63 u64 u65 u66 u67 u68 u69 u70 u71 u72 u73 u74 u75 u76 u77 u78 u79 u80 u81 u82 u83 u84 u85 u86 u87 u88 u89 u90 u91 u92 u93 u94 u95 u96 u97 u98 u99 u100 u101 u102 u103 u104 u105 u106 u107 u108 u109 u110 u111 u112 u113 u114 u115 u116 u117 u118 u119 u120 u121 u122 u123 u124 u125 u126 u127 u128 u129 u130 u131 u132 u133 u134 u135 u136 u137 u138 u139 u140 u141 u142 u143 u144 u145 u146 u147 u148 u149 u150 u151 u152 u153 u154 u155 u156 u157 u158 u159 u160 u161 u162 u163 u164 u165 u166 u167 u168 u169 u170 u171 u172 u173 u174 u175 u176 u177 u178 A n cc ev w6 hg
  exact finds_end hkl HNL.out ⟨h81,by omega⟩ hj hg HF.out HT0.out _ _ _ _ _ _ _ _ _ _ _ _ _ _ _ _ _ _ _ _ _ _ _ _ _ _ _ _ _ _ _ _ _ _ _ _ _ _ _ _ _ _ _ _ _ _ _ _ _ _ _ _ _ _ _ _ _ _ _ _ _ _ _ _ _ _ _ _ _ _ _ _ _ _ _ _ _ _ _ _ _ _ _ _ _ _ _ _ _ _ _ _ _ _ _ _ _ _ _ _ _ _ _ _ _ _ _ _ _ _ _ _ _ _ _ _ _ _ _ _ _ _ _ _ _ _ _ _ _ _ _ _ _ _ _ _ _ _ _ _ _ _ _ _ _ _ _ _ _ _ _ _ _ _ _ _ _ _ _ _ _ _ _ _ _ _ _ _ _ _
end Go.Proofs.Ytkolacaceaamoaa
