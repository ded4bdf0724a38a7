/- What TreeFinds asks of a list: where a key stands, and the items between two keys (plain). -/
import Derived.Test.YtkolacaceaamoaaKTd
import Derived.Test.YtkolacaceaamoaaKTe
set_option linter.unusedSimpArgs false
set_option linter.unusedVariables false
namespace Go.Proofs.Ytkolacaceaamoaa
open Go.Lib (compareBytes)
theorem valOf_findL {l:List It} {key:Cn} (hr:RiseI l):((findL l key).2 = true → ∃ h:(findL l key).1 < l.length,valOf l key = some l[(findL l key).1].v) ∧ ((findL l key).2 = false → valOf l key = none):=by
 obtain ⟨a,b,e,ha,hlt,h⟩:=findL_cases l key
 have hna:valOf a key = none:=valOf_none fun i hi he=>by
  have:=hlt i hi
  rw [he,cb_zero.2 rfl] at this
  omega
 rcases h with ⟨hf,y,r,hb,hk⟩ | ⟨hf,hb⟩
 ·refine ⟨fun _=>?_,fun h=>by rw [hf] at h; cases h⟩
  have hlen:(findL l key).1 < l.length:=by rw [← ha,e,hb]; simp
  refine ⟨hlen,?_⟩
  have hat:l[(findL l key).1] = y:=by
   have h1:l[(findL l key).1]? = some y:=by
    rw [← ha]
    conv=>lhs; rw [e]
    rw [List.getElem?_append_right (by omega),hb]
    simp
   rw [List.getElem?_eq_getElem hlen] at h1
   injection h1
  rw [hat]
  conv=>lhs; rw [e]
  rw [valOf_append,hna,hb,valOf_cons,if_pos hk]
  rfl
 ·refine ⟨fun h=>(by rw [hf] at h; cases h),fun _=>?_⟩
  rw [e,valOf_append,hna]
  rcases hb with rfl | ⟨y,r,rfl,hy⟩
  ·rfl
  ·simp only [Option.none_or]
   refine valOf_none fun i hi he=>?_
   rcases List.mem_cons.1 hi with rfl | hi
   ·rw [he,cb_zero.2 rfl] at hy; omega
   ·have h1:RiseI (y :: r):=by
     unfold RiseI at hr ⊢
     rw [e] at hr
     exact (List.pairwise_append.1 hr).2.1
    have h2:=(List.pairwise_cons.1 h1).1 i hi
    rw [he] at h2
    omega
def wantB (fr te:Cn) (x:It):Bool:=decide (0 ≤ compareBytes x.k fr) && (decide (te.length = 0) || decide (compareBytes x.k te < 0))
def wantL (fr te:Cn) (most:Int):List It → List It → List It
 | o,[]=>o
 | o,x :: r=>if (o.length:Int) < most then wantL fr te most (if wantB fr te x then o ++ [x] else o) r else o
theorem wantL_full {fr te:Cn} {most:Int} {o:List It} (h:¬ (o.length:Int) < most):∀ l,wantL fr te most o l = o
 | []=>rfl
 | x :: r=>by rw [wantL,if_neg h]
theorem wantL_past {fr te:Cn} {most:Int}:∀ (l o:List It),(∀ x ∈ l,wantB fr te x = false) → wantL fr te most o l = o
 | [],o,_=>rfl
 | x :: r,o,h=>by
  rw [wantL,h x (by simp)]
  simp only [Bool.false_eq_true,if_false]
  split
  ·exact wantL_past r o (fun y hy=>h y (by simp [hy]))
  ·rfl
theorem wantL_goL {fr te:Cn} {most:Int}:∀ (l o:List It),RiseI l → wantL fr te most o l = (goL fr te most o l).2
 | [],o,_=>rfl
 | x :: r,o,hr=>by
  obtain ⟨hx,hr2⟩:=List.pairwise_cons.1 hr
  have ih:=fun o=>wantL_goL (fr:=fr) (te:=te) (most:=most) r o hr2
  rw [goL]
  by_cases hm:(o.length:Int) < most
  ·rw [wantL,if_pos hm]
   by_cases hf:0 ≤ compareBytes x.k fr
   ·rw [if_pos hf]
    by_cases hs:stopB te most o.length x = true
    ·rw [if_pos hs]
     have h1:0 < te.length ∧ 0 ≤ compareBytes x.k te:=by
      unfold stopB at hs
      simp at hs
      rcases hs with hs | hs
      ·omega
      ·exact ⟨hs.1,hs.2⟩
     have hw:wantB fr te x = false:=by
      unfold wantB
      simp
      intro _
      exact ⟨List.length_pos_iff.1 h1.1,h1.2⟩
     rw [hw]
     simp only [Bool.false_eq_true,if_false]
     refine wantL_past r o fun y hy=>?_
     have h2:=hx y hy
     have h3:0 ≤ compareBytes y.k te:=by
      rcases Int.lt_or_le (compareBytes y.k te) 0 with q | q
      ·have:=cb_trans h2 q; omega
      ·exact q
     unfold wantB
     simp
     intro _
     exact ⟨List.length_pos_iff.1 h1.1,h3⟩
    ·rw [if_neg hs]
     have hw:wantB fr te x = true:=by
      unfold stopB at hs
      unfold wantB
      simp at hs ⊢
      refine ⟨hf,?_⟩
      rcases Nat.eq_zero_or_pos te.length with q | q
      ·exact .inl (List.eq_nil_of_length_eq_zero q)
      ·exact .inr (hs.2 q)
     rw [hw]
     simp only [if_true]
     exact ih _
   ·rw [if_neg hf]
    have hw:wantB fr te x = false:=by
     unfold wantB
     simp
     intro h
     exact absurd h hf
    rw [hw]
    simp only [Bool.false_eq_true,if_false]
    exact ih _
  ·rw [wantL_full hm]
   have hst:stopB te most o.length x = true:=by
    unfold stopB
    simp
    omega
   split
   ·simp [hst]
   ·rw [← ih,wantL_full hm]
end Go.Proofs.Ytkolacaceaamoaa
/- TreeFinds, walked. -/
namespace Go.Proofs.Ytkolacaceaamoaa
open Go.RowKit
open Go.Lib (compareBytes)
/-- TreeFinds from its k-th statement on. -/
noncomputable def BF (k:Nat):Code:=dropS' k ((Try.f4.body).getD .skip)
noncomputable def CF (k:Nat):Code:=match BF k with
 | .seq a _=>a
 | c=>c
/-- What Get answered. -/
def GtF (w0:World) (c:Pct) (tb j:Nat) (m:Pst) (v7 v8:Value) (roots:List Nat) (lists:List (List It)) (l:List It) (fr:Cn) (v:Value) (ev:Int) (w':World):Prop:=
 GwC w0 c tb j m v7 v8 roots lists w' ∧ ((∃ x,valOf l fr = some x ∧ ev = 0 ∧ BS w' (fun j=>j < w'.heap.size) v x) ∨ (valOf l fr = none ∧ ev = 5))
section
variable {w0 w1:World} {c:Pct} {tb i k:Nat} {m:Pst} {v7 v8:Value} {roots:List Nat} {lists:List (List It)} {fr te:Cn} {most:Int} {vf vt:Value}
theorem gget (hC:GwC w0 c tb i m v7 v8 roots lists w1) (hT:GwT c i m roots lists) (hk:k < roots.length) (hk2:k < lists.length) (hi:i ≤ 30) (hf:BS w1 (fun j=>¬ PF m.F c.pb c.sb j) vf fr) :
  Calls Try.prog 12 #[.pointer (some ⟨tb,0,none⟩),.int .i64 (roots[k]:Int),vf] w1 fun e w'=>∃ A n cc ev,e = .returned (.tuple #[.slice A n cc,.int .i64 ev]) ∧ GtF w0 c tb i m v7 v8 roots lists lists[k] fr (.slice A n cc) ev w':=by
 obtain ⟨hr,⟨h0,hl⟩ | ⟨h,hq,hh⟩⟩:=hT.2 k hk hk2
 ·rw [h0,hl]
  refine (tget_zero hC.nl.tr).mono ?_
  rintro e w' ⟨rfl,rfl⟩
  exact ⟨_,_,_,_,rfl,hC,.inr ⟨rfl,rfl⟩⟩
 ·refine (tget_ok hC.nl.pg hC.nl.tr hC.nl.nt hf hq.trP (by omega) (rise_items.2 hr)).mono ?_
  rintro e w' ⟨hg,hp,hfr⟩
  rcases hv:valOf lists[k] fr with _ | x
  ·rw [hv] at hg
   have hg':e = .returned (.tuple #[.slice none 0 0,.int .i64 5]):=hg
   exact ⟨_,_,_,_,hg',hC.got hp hfr,.inr ⟨hv,rfl⟩⟩
  ·rw [hv] at hg
   obtain ⟨y,e1,hb⟩:∃ y,e = .returned (.tuple #[y,.int .i64 0]) ∧ BS w' (fun j=>w1.heap.size ≤ j) y x:=hg
   obtain ⟨A,cc,rfl,h1⟩:=id hb
   exact ⟨_,_,_,_,e1,hC.got hp hfr,.inl ⟨x,hv,rfl,hb.all⟩⟩
theorem gscan (hC:GwC w0 c tb i m v7 v8 roots lists w1) (hT:GwT c i m roots lists) (hk:k < roots.length) (hk2:k < lists.length) (hi:i ≤ 30) (hf:BS w1 (fun j=>¬ PF m.F c.pb c.sb j) vf fr) (ht:BS w1 (fun j=>¬ PF m.F c.pb c.sb j) vt te) (hm:0 ≤ most) :
  Calls Try.prog 10 #[.pointer (some ⟨tb,0,none⟩),.int .i64 (roots[k]:Int),vf,vt,.int .i64 most] w1 fun e w'=>∃ A cc,e = .returned (.tuple #[.slice A (wantL fr te most [] lists[k]).length cc,.int .i64 0]) ∧ SLk 2 ItR w' (fun j=>j < w'.heap.size) (.slice A (wantL fr te most [] lists[k]).length cc) (wantL fr te most [] lists[k]) ∧ GwC w0 c tb i m v7 v8 roots lists w':=by
 have h1:=hT.2 k hk hk2
 have hok:=hC.ok lists[k] (List.getElem_mem hk2)
 refine (tscan_ok hC.nl.pg hC.nl.tr hC.nl.nt hf ht hm (h1.sc (by omega)) (by omega)).mono ?_
 rintro e w' ⟨A,cc,he,hs,hp,hfr⟩
 rw [← wantL_goL _ _ h1.1] at he hs
 exact ⟨A,cc,he,hs.keep (by omega) @ItR.keep (fun _ _ _=>rfl) (fun j hj _=>hj.1),hC.got hp hfr⟩
end
section
variable {Q:Exit → Act → World → Prop} {w0 w1:World} {c:Pct} {tb g7 g8 nr cap7 cap8 i k:Nat} {m:Pst} {roots:List Nat} {lists:List (List It)} {most:Int} {A2 A3:Option Addr} {n2 c2 n3 c3:Nat} {fr te:Cn}
set_option maxRecDepth 100000 in
set_option maxHeartbeats 8000000 in
theorem finds_get (hk:k < roots.length) (hk2:k < lists.length) (hnr:roots.length = nr) (hcap:nr ≤ cap7 ∧ cap7 ≤ 9223372036854775807) (hi:i ≤ 30)
  (hC:GwC w0 c tb i m (.slice (some ⟨g7,0,none⟩) nr cap7) (.slice (some ⟨g8,0,none⟩) nr cap8) roots lists w1) (hT:GwT c i m roots lists) (hf:BS w0 (fun j=>j < w0.heap.size) (.slice A2 n2 c2) fr) (hfl:fr.length ≤ 1073741824)
  (hQ:∀ (u0 u1 u5 u6 u7 u8 u9 u10 u12 u15 u19 u20 u21 u22 u23 u24 u25 u26 u27 u28 u29 u30 u31 u32 u33 u34 u35 u36 u37 u38 u39 u40 u41 u42 u43 u44 u45 u46 u47 u48 u49 u50 u51 u52 u53 u54 u55 u56 u57 u58 u59 u60 u61 u62 u63 u64 u65 u66 u67 u68 u69 u70 u71 u72 u73 u74 u75 u76 u77 u78 u79 u80 u81 u82 u83 u84 u85 u86 u87 u88 u89 u90 u91 u92 u93 u94 u95 u96 u97 u98 u99 u100 u101 u102 u103 u104 u105 u106 u107 u108 u109 u110 u111 u112 u113 u114 u115 u116 u117 u118 u119 u120 u121 u122 u123 u124 u125 u126 u127 u128 u129 u130 u131 u132 u133 u134 u135 u136 u137 u138 u139 u140 u141 u142 u143 u144 u145 u146 u147 u148 u149 u150 u151 u152 u153 u154 u155 u156 u157 u158 u159 u160 u161 u162 u163 u164 u165 u166 u167 u168 u169 u170 u171 u172 u173 u174 u175 u176 u177 u178:Value) (A:Option Addr) (n cc:Nat) (ev:Int) (w':World),GtF w0 c tb i m (.slice (some ⟨g7,0,none⟩) nr cap7) (.slice (some ⟨g8,0,none⟩) nr cap8) roots lists lists[k] fr (.slice A n cc) ev w' → Code.wp Try.prog (BF 8) Q { tmps:=#[u0,u1,.slice A2 n2 c2,.slice A3 n3 c3,.int .i64 most,u5,u6,u7,u8,u9,u10,.pointer (some ⟨tb,0,none⟩),u12,.slice (some ⟨g7,0,none⟩) nr cap7,.slice (some ⟨g8,0,none⟩) nr cap8,u15,.int .i64 (k:Int),.slice A n cc,.int .i64 ev,u19,u20,u21,u22,u23,u24,u25,u26,u27,u28,u29,u30,u31,u32,u33,u34,u35,u36,u37,u38,u39,u40,u41,u42,u43,u44,u45,u46,u47,u48,u49,u50,u51,u52,u53,u54,u55,u56,u57,u58,u59,u60,u61,u62,u63,u64,u65,u66,u67,u68,u69,u70,u71,u72,u73,u74,u75,u76,u77,u78,u79,u80,u81,u82,u83,u84,u85,u86,u87,u88,u89,u90,u91,u92,u93,u94,u95,u96,u97,u98,u99,u100,u101,u102,u103,u104,u105,u106,u107,u108,u109,u110,u111,u112,u113,u114,u115,u116,u117,u118,u119,u120,u121,u122,u123,u124,u125,u126,u127,u128,u129,u130,u131,u132,u133,u134,u135,u136,u137,u138,u139,u140,u141,u142,u143,u144,u145,u146,u147,u148,u149,u150,u151,u152,u153,u154,u155,u156,u157,u158,u159,u160,u161,u162,u163,u164,u165,u166,u167,u168,u169,u170,u171,u172,u173,u174,u175,u176,u177,u178],defers:=[] } w')
  (u0 u1 u5 u6 u7 u8 u9 u10 u12 u15 u17 u18 u19 u20 u21 u22 u23 u24 u25 u26 u27 u28 u29 u30 u31 u32 u33 u34 u35 u36 u37 u38 u39 u40 u41 u42 u43 u44 u45 u46 u47 u48 u49 u50 u51 u52 u53 u54 u55 u56 u57 u58 u59 u60 u61 u62 u63 u64 u65 u66 u67 u68 u69 u70 u71 u72 u73 u74 u75 u76 u77 u78 u79 u80 u81 u82 u83 u84 u85 u86 u87 u88 u89 u90 u91 u92 u93 u94 u95 u96 u97 u98 u99 u100 u101 u102 u103 u104 u105 u106 u107 u108 u109 u110 u111 u112 u113 u114 u115 u116 u117 u118 u119 u120 u121 u122 u123 u124 u125 u126 u127 u128 u129 u130 u131 u132 u133 u134 u135 u136 u137 u138 u139 u140 u141 u142 u143 u144 u145 u146 u147 u148 u149 u150 u151 u152 u153 u154 u155 u156 u157 u158 u159 u160 u161 u162 u163 u164 u165 u166 u167 u168 u169 u170 u171 u172 u173 u174 u175 u176 u177 u178:Value):Code.wp Try.prog (BF 7) Q { tmps:=#[u0,u1,.slice A2 n2 c2,.slice A3 n3 c3,.int .i64 most,u5,u6,u7,u8,u9,u10,.pointer (some ⟨tb,0,none⟩),u12,.slice (some ⟨g7,0,none⟩) nr cap7,.slice (some ⟨g8,0,none⟩) nr cap8,u15,.int .i64 (k:Int),u17,u18,u19,u20,u21,u22,u23,u24,u25,u26,u27,u28,u29,u30,u31,u32,u33,u34,u35,u36,u37,u38,u39,u40,u41,u42,u43,u44,u45,u46,u47,u48,u49,u50,u51,u52,u53,u54,u55,u56,u57,u58,u59,u60,u61,u62,u63,u64,u65,u66,u67,u68,u69,u70,u71,u72,u73,u74,u75,u76,u77,u78,u79,u80,u81,u82,u83,u84,u85,u86,u87,u88,u89,u90,u91,u92,u93,u94,u95,u96,u97,u98,u99,u100,u101,u102,u103,u104,u105,u106,u107,u108,u109,u110,u111,u112,u113,u114,u115,u116,u117,u118,u119,u120,u121,u122,u123,u124,u125,u126,u127,u128,u129,u130,u131,u132,u133,u134,u135,u136,u137,u138,u139,u140,u141,u142,u143,u144,u145,u146,u147,u148,u149,u150,u151,u152,u153,u154,u155,u156,u157,u158,u159,u160,u161,u162,u163,u164,u165,u166,u167,u168,u169,u170,u171,u172,u173,u174,u175,u176,u177,u178],defers:=[] } w1:=by
 obtain ⟨i1,hi1,hy0,hy1,hy2⟩:=info_parts u8_info
 have HI1:=hide hi1
 have HY0:=hide hy0
 obtain ⟨g,cap,e,-,-,z7,k7⟩:=hC.at7 hk
 have hgg:g = g7:=by
  injection e with e _ _
  injection e with e
  injection e with e
  exact e.symm
 rw [hgg] at z7 k7
 clear e hgg
 obtain ⟨r0,hr0⟩:∃ r,roots[k] = r:=⟨_,rfl⟩
 rw [hr0] at k7
 obtain ⟨lk,hlk⟩:∃ l,lists[k] = l:=⟨_,rfl⟩
 rw [hlk] at hQ
 have hkn:k < nr:=by omega
 obtain ⟨hcap1,hcap2⟩:=hcap
 have hb01:=hC.nl.bel
 have e2:n2 = fr.length:=by
  obtain ⟨_,_,e,_⟩:=id hf
  injection e
 have HN2:=hide e2
 clear e2
 have hn2:n2 ≤ 1073741824:=by rw [HN2.out]; exact hfl
 have HF1:=hide (hf.keep (w':=w1) (F':=fun j=>j < w1.heap.size) (fun j hj _=>hb01.block j hj) (fun j hj _=>Nat.lt_of_lt_of_le hj hb01.size))
 have HGT:=hide (fun (w3:World) (hb:Below w1.heap.size w1 w3) (vf:Value) (h1:BS w3 (fun j=>w1.heap.size ≤ j ∧ j < w3.heap.size) vf fr)=>(show Calls Try.prog 12 #[.pointer (some ⟨tb,0,none⟩),.int .i64 (r0:Int),vf] w3 fun e w'=>∃ A n cc ev,e = .returned (.tuple #[.slice A n cc,.int .i64 ev]) ∧ GtF w0 c tb i m (.slice (some ⟨g7,0,none⟩) nr cap7) (.slice (some ⟨g8,0,none⟩) nr cap8) roots lists lk fr (.slice A n cc) ev w' from by
  have h:=gget (hC.below hb) hT hk hk2 hi (h1.keep (F':=fun j=>¬ PF m.F c.pb c.sb j) (fun _ _ _=>rfl) (fun j hj _ hp=>by have:=PF.lt hC.nl.pg hp; omega))
  rw [hr0,hlk] at h
  exact h))
 have HQ:=hide hQ
 clear hQ hC hT hf hb01 hr0 hlk hfl hi1 hy0
 rw [show BF 7 = Code.seq (CF 7) (BF 8) from rfl]
 conv=>arg 2; arg 1; whnf
 go_upto_region 10 with fail
 refine wp_region_dag (by kernel_rfl) (by kernel_rfl) 179 1
  [⟨some 55,[0],[],[],[],[],fun _ _ v _=>v = .pointer (some ⟨tb,0,none⟩)⟩,
   ⟨some 56,[0],[],[],[],[],fun _ _ v _=>v = .slice (some ⟨g7,0,none⟩) nr cap7⟩,
   ⟨some 57,[0],[],[],[],[],fun _ _ v _=>v = .int .i64 (k:Int)⟩,
   ⟨some 58,[0],[],[],[1,2],[],fun _ _ v _=>v = .pointer (some ⟨g7,k,none⟩)⟩,
   ⟨some 59,[0],[],[],[3],[],fun _ _ v _=>v = .int .i64 (r0:Int)⟩,
   ⟨some 60,[0],[],[],[],[],fun st a v w'=>st = 0 → ∃ g,v = .slice (some ⟨g,0,none⟩) 0 0⟩,
   ⟨some 61,[0],[],[],[],[],fun _ _ v _=>v = .slice A2 n2 c2⟩,
   ⟨some 62,[0],[],[],[5,6],[],fun st a v w'=>st = 0 → ∃ A n cc,v = .slice A n cc ∧ BS w' (fun j=>w1.heap.size ≤ j ∧ j < w'.heap.size) (.slice A n cc) fr⟩,
   ⟨some 63,[0],[(0,1)],[1],[0,4,7],[],fun st a v w'=>1 ≤ st ∧ ∃ A n cc ev,v = .tuple #[.slice A n cc,.int .i64 ev] ∧ GtF w0 c tb i m (.slice (some ⟨g7,0,none⟩) nr cap7) (.slice (some ⟨g8,0,none⟩) nr cap8) roots lists lk fr (.slice A n cc) ev w'⟩,
   ⟨some 54,[1],[],[],[8],[],fun st a v w'=>1 ≤ st ∧ ∃ A n cc ev,v = .tuple #[.slice A n cc,.int .i64 ev] ∧ GtF w0 c tb i m (.slice (some ⟨g7,0,none⟩) nr cap7) (.slice (some ⟨g8,0,none⟩) nr cap8) roots lists lk fr (.slice A n cc) ev w'⟩,
   ⟨some 64,[1],[],[],[9],[54],fun st a v w'=>1 ≤ st ∧ ∃ A n cc ev,a.eval (.tmp 54) = .tuple #[.slice A n cc,.int .i64 ev] ∧ v = .slice A n cc⟩,
   ⟨some 65,[1],[],[],[9],[54],fun st a v w'=>1 ≤ st ∧ ∃ A n cc ev,a.eval (.tmp 54) = .tuple #[.slice A n cc,.int .i64 ev] ∧ v = .int .i64 ev⟩,
   ⟨some 17,[1],[],[],[9,10],[54],fun st a v w'=>1 ≤ st ∧ ∃ A n cc ev,a.eval (.tmp 54) = .tuple #[.slice A n cc,.int .i64 ev] ∧ v = .slice A n cc⟩,
   ⟨some 18,[1],[],[],[9,11],[54],fun st a v w'=>1 ≤ st ∧ ∃ A n cc ev,a.eval (.tmp 54) = .tuple #[.slice A n cc,.int .i64 ev] ∧ v = .int .i64 ev⟩] (fun st w'=>st = 0 → Below w1.heap.size w1 w') (fun s s' _ _ _=>s = 0 ∧ s' = 1) (fun _ w w'=>Below w.heap.size w w') ?gu ?ru ?put [55,56,57,58,59,60,61,62,63,54,64,65,17,18] rfl (by kernel_rfl) rfl ?g0 ?keep ?steps ?fin
 case ru=>
  intro e he s a v w w' hu hv
  simp only [List.mem_cons,List.not_mem_nil,or_false] at he
  rcases he with rfl | rfl | rfl | rfl | rfl | rfl | rfl | rfl | rfl | rfl | rfl | rfl | rfl | rfl
  all_goals first | exact hv | (intro h0; exact hv h0) | (intro h0; obtain ⟨A',n',c',e,h⟩:=hv h0; exact ⟨A',n',c',e,h.fresh2 hu⟩) | (obtain ⟨h0,A,n,cc,ev,e,h1,h2⟩:=hv; refine ⟨h0,A,n,cc,ev,e,h1.below hu,?_⟩; (rcases h2 with ⟨x,h2,h3,h4⟩ | h2); exact .inl ⟨x,h2,h3,h4.later hu⟩; exact .inr h2)
 case put=>
  intro e he s a d u v w hnd hv
  simp only [List.mem_cons,List.not_mem_nil,or_false] at he
  rcases he with rfl | rfl | rfl | rfl | rfl | rfl | rfl | rfl | rfl | rfl | rfl | rfl | rfl | rfl
  all_goals first | exact hv | (obtain ⟨h0,A,n,cc,ev,h1,h2⟩:=hv; exact ⟨h0,A,n,cc,ev,(act_ne (by simpa using fun e=>hnd (by simp [e]))).trans h1,h2⟩)
 case keep=>
  intro e he s s' a v w w' hsl hm ht hv
  simp only [List.mem_cons,List.not_mem_nil,or_false] at he
  rcases he with rfl | rfl | rfl | rfl | rfl | rfl | rfl | rfl | rfl | rfl | rfl | rfl | rfl | rfl
  all_goals first | exact hv | (intro h3; exfalso; have:=ht.2; omega) | (exfalso; have:=hv.1; have:=ht.1; omega)
 case steps=>
  refine ⟨?_,?_,?_,?_,?_,?_,?_,?_,?_,?_,?_,?_,?_,?_,trivial⟩
  ·intro st hst ac w3 hg hG hd K hK
   dsimp only at hst hG hK
   exact op_move _ rfl (hK _ _ (Below.refl _ _) (hg.kp 11 (by simp)))
  ·intro st hst ac w3 hg hG hd K hK
   dsimp only at hst hG hK
   exact op_move _ rfl (hK _ _ (Below.refl _ _) (hg.kp 13 (by simp)))
  ·intro st hst ac w3 hg hG hd K hK
   dsimp only at hst hG hK
   exact op_move _ rfl (hK _ _ (Below.refl _ _) (hg.kp 16 (by simp)))
  ·intro st hst ac w3 hg hG hd K hK
   dsimp only at hst hG hK
   have f1:=hd 1 (by simp) _ rfl _ rfl
   have f2:=hd 2 (by simp) _ rfl _ rfl
   (try simp [Act.eval] at f1)
   (try simp [Act.eval] at f2)
   go_simp
   exact hK _ _ (Below.refl _ _) rfl
  ·intro st hst ac w3 hg hG hd K hK
   dsimp only at hst hG hK
   simp only [List.mem_cons,List.not_mem_nil,or_false] at hst
   subst hst
   have kk:=((hG rfl).cell (p:=⟨g7,k,none⟩) z7).trans k7
   have zz:=Nat.lt_of_lt_of_le z7 (hG rfl).size
   clear hG
   have f3:=hd 3 (by simp) _ rfl _ rfl
   (try simp [Act.eval] at f3)
   go_simp
   exact hK _ _ (Below.refl _ _) rfl
  ·intro st hst ac w3 hg hG hd K hK
   dsimp only at hst hG hK
   clear hG
   go_simp
   exact hK _ _ (al_below w3 _) (fun _=>⟨_,rfl⟩)
  ·intro st hst ac w3 hg hG hd K hK
   dsimp only at hst hG hK
   exact op_move _ rfl (hK _ _ (Below.refl _ _) (hg.kp 2 (by simp)))
  ·intro st hst ac w3 hg hG hd K hK
   dsimp only at hst hG hK
   simp only [List.mem_cons,List.not_mem_nil,or_false] at hst
   subst hst
   obtain ⟨g,f1⟩:=hd 5 (by simp) _ rfl _ rfl rfl
   have f6:=hd 6 (by simp) _ rfl _ rfl
   have hk:=HF1.out.later (hG rfl)
   obtain ⟨A9,c9,e9,_,hr9⟩:=hk
   injection e9 with e9 e10 e11
   subst e9 e11
   refine wp_append_lit w3 (.tmp 60) (.tmp 61) 38 rfl T8 i1 _ 1 1 Try.underlying38 HI1.out HY0.out hy1 hy2 rfl (by omega) ⟨g,0,none⟩ f1 A2 n2 c2 (cs8 fr) f6 (HN2.out ▸ hr9.reads (fun _ h=>h)) (cs8_one _) (by unfold maxLen; omega) (by omega) ?_
   intro v' w' ho hbw
   have hb9:=(BS.lit (g:=⟨g,0,none⟩) (HN2.out ▸ ho)).fresh (hG rfl).size
   (obtain ⟨A7,c7,e7,_⟩:=id hb9)
   subst e7
   exact hK _ _ hbw (fun _=>⟨_,_,_,rfl,hb9⟩)
  ·intro st st' hmv ac w3 hg hG hd K hK
   simp only [List.mem_cons,Prod.mk.injEq,List.not_mem_nil,or_false] at hmv
   obtain ⟨rfl,rfl⟩:=hmv
   dsimp only at hG hK
   have f0:=hd 0 (by simp) _ rfl _ rfl
   have f4:=hd 4 (by simp) _ rfl _ rfl
   (obtain ⟨A7,n7,c7,f7,hs7⟩:=hd 7 (by simp) _ rfl _ rfl rfl)
   have HG9:=hide (hG rfl)
   have HS7:=hide hs7
   clear hG hs7
   simp [Act.eval] at f0 f4 f7
   go_simp
   (refine (HGT.out w3 HG9.out _ HS7.out).mono ?_)
   rintro e w5 ⟨A,n,cc,ev,rfl,hgp⟩
   exact hK _ _ ⟨rfl,rfl⟩ (fun e=>by omega) ⟨Nat.le_refl _,A,n,cc,ev,rfl,hgp⟩
  ·intro st hst ac w3 hg hG hd K hK
   dsimp only at hst hG hK
   exact op_move _ rfl (hK _ _ (Below.refl _ _) (hd 8 (by simp) _ rfl _ rfl))
  ·intro st hst ac w3 hg hG hd K hK
   dsimp only at hst hG hK
   have f12:=hd 9 (by simp) _ rfl _ rfl
   (obtain ⟨h1,A,n,cc,ev,e,-⟩:=f12)
   have E:=hide e
   clear hG
   simp [Act.eval] at e
   go_simp
   exact hK _ _ (Below.refl _ _) ⟨h1,A,n,cc,ev,E.out,rfl⟩
  ·intro st hst ac w3 hg hG hd K hK
   dsimp only at hst hG hK
   have f12:=hd 9 (by simp) _ rfl _ rfl
   (obtain ⟨h1,A,n,cc,ev,e,-⟩:=f12)
   have E:=hide e
   clear hG
   simp [Act.eval] at e
   go_simp
   exact hK _ _ (Below.refl _ _) ⟨h1,A,n,cc,ev,E.out,rfl⟩
  ·intro st hst ac w3 hg hG hd K hK
   dsimp only at hst hG hK
   have f12:=hd 9 (by simp) _ rfl _ rfl
   clear f12
   exact op_assign _ rfl (hK _ _ (Below.refl _ _) (hd 10 (by simp) _ rfl _ rfl))
  ·intro st hst ac w3 hg hG hd K hK
   dsimp only at hst hG hK
   have f12:=hd 9 (by simp) _ rfl _ rfl
   clear f12
   exact op_assign _ rfl (hK _ _ (Below.refl _ _) (hd 11 (by simp) _ rfl _ rfl))
 case gu=>intro s a b hG hu e; exact (hG e).trans (hu.mono (hG e).size)
 case g0=>exact fun _=>(Below.refl _ _).drew
 case fin=>
  intro f9 w9 hG hall
  obtain ⟨-,A,n,cc,ev,h54,hgt⟩:=hall _ (List.mem_of_getElem? (i:=9) rfl) 54 rfl
  obtain ⟨-,A1,n1,cc1,ev1,e12,h12⟩:=hall _ (List.mem_of_getElem? (i:=12) rfl) 17 rfl
  obtain ⟨-,A4,n4,cc4,ev2,e13,h13⟩:=hall _ (List.mem_of_getElem? (i:=13) rfl) 18 rfl
  rw [fillF_eval _ _ _ 54 (by simp),if_pos (by simp),h54] at e12 e13
  obtain ⟨rfl,rfl,rfl⟩:A = A1 ∧ n = n1 ∧ cc = cc1:=by simp at e12; exact e12.1
  obtain rfl:ev = ev2:=by simp at e13; exact e13.2
  have HGP:=hide hgt
  clear hall hG e12 e13 hgt
  simp only [fillF,List.map_cons,List.map_nil,List.foldl_cons,List.foldl_nil,Act.put,List.setIfInBounds_toArray,List.set_cons_zero,List.set_cons_succ]
  rw [h12,h13]
  clear h12 h13 h54
  go_wp2_with fail
  exact HQ.out _ _ _ _ _ _ _ _ _ _ _ _ _ _ _ _ _ _ _ _ _ _ _ _ _ _ _ _ _ _ _ _ _ _ _ _ _ _ _ _ _ _ _ _ _ _ _ _ _ _ _ _ _ _ _ _ _ _ _ _ _ _ _ _ _ _ _ _ _ _ _ _ _ _ _ _ _ _ _ _ _ _ _ _ _ _ _ _ _ _ _ _ _ _ _ _ _ _ _ _ _ _ _ _ _ _ _ _ _ _ _ _ _ _ _ _ _ _ _ _ _ _ _ _ _ _ _ _ _ _ _ _ _ _ _ _ _ _ _ _ _ _ _ _ _ _ _ _ _ _ _ _ _ _ _ _ _ _ _ _ _ _ _ _ _ _ _ _ _ _ _ _ _ _ _ HGP.out
end
end Go.Proofs.Ytkolacaceaamoaa
/- TreeFinds, walked: Scan. -/
namespace Go.Proofs.Ytkolacaceaamoaa
open Go.RowKit
open Go.Lib (compareBytes)
/-- What Scan answered. -/
def ScF (w0:World) (c:Pct) (tb j:Nat) (m:Pst) (v7 v8:Value) (roots:List Nat) (lists:List (List It)) (l:List It) (fr te:Cn) (most:Int) (A:Option Addr) (n cc:Nat) (ev:Int) (w':World):Prop:=
 GwC w0 c tb j m v7 v8 roots lists w' ∧ ((most < 0 ∧ A = none ∧ n = 0 ∧ cc = 0 ∧ ev = 1) ∨ (0 ≤ most ∧ ev = 0 ∧ SLk 2 ItR w' (fun j=>j < w'.heap.size) (.slice A n cc) (wantL fr te most [] l)))
section
variable {Q:Exit → Act → World → Prop} {w0 w1:World} {c:Pct} {tb g7 g8 nr cap7 cap8 i k:Nat} {m:Pst} {roots:List Nat} {lists:List (List It)} {most:Int} {A2 A3:Option Addr} {n2 c2 n3 c3:Nat} {fr te:Cn}
set_option maxRecDepth 100000 in
set_option maxHeartbeats 8000000 in
theorem finds_scan (hk:k < roots.length) (hk2:k < lists.length) (hnr:roots.length = nr) (hcap:nr ≤ cap7 ∧ cap7 ≤ 9223372036854775807) (hi:i ≤ 30)
  (hC:GwC w0 c tb i m (.slice (some ⟨g7,0,none⟩) nr cap7) (.slice (some ⟨g8,0,none⟩) nr cap8) roots lists w1) (hT:GwT c i m roots lists) (hf:BS w0 (fun j=>j < w0.heap.size) (.slice A2 n2 c2) fr) (hfl:fr.length ≤ 1073741824) (ht:BS w0 (fun j=>j < w0.heap.size) (.slice A3 n3 c3) te) (htl:te.length ≤ 1073741824)
  (hQ:∀ (u0 u1 u5 u6 u7 u8 u9 u10 u12 u15 u17 u18 u19 u20 u23 u24 u25 u26 u27 u28 u29 u30 u31 u32 u33 u34 u35 u36 u37 u38 u39 u40 u41 u42 u43 u44 u45 u46 u47 u48 u49 u50 u51 u52 u53 u54 u55 u56 u57 u58 u59 u60 u61 u62 u63 u64 u65 u66 u67 u68 u69 u70 u71 u72 u73 u74 u75 u76 u77 u78 u79 u80 u81 u82 u83 u84 u85 u86 u87 u88 u89 u90 u91 u92 u93 u94 u95 u96 u97 u98 u99 u100 u101 u102 u103 u104 u105 u106 u107 u108 u109 u110 u111 u112 u113 u114 u115 u116 u117 u118 u119 u120 u121 u122 u123 u124 u125 u126 u127 u128 u129 u130 u131 u132 u133 u134 u135 u136 u137 u138 u139 u140 u141 u142 u143 u144 u145 u146 u147 u148 u149 u150 u151 u152 u153 u154 u155 u156 u157 u158 u159 u160 u161 u162 u163 u164 u165 u166 u167 u168 u169 u170 u171 u172 u173 u174 u175 u176 u177 u178:Value) (A:Option Addr) (n cc:Nat) (ev:Int) (w':World),ScF w0 c tb i m (.slice (some ⟨g7,0,none⟩) nr cap7) (.slice (some ⟨g8,0,none⟩) nr cap8) roots lists lists[k] fr te most A n cc ev w' → Code.wp Try.prog (BF 11) Q { tmps:=#[u0,u1,.slice A2 n2 c2,.slice A3 n3 c3,.int .i64 most,u5,u6,u7,u8,u9,u10,.pointer (some ⟨tb,0,none⟩),u12,.slice (some ⟨g7,0,none⟩) nr cap7,.slice (some ⟨g8,0,none⟩) nr cap8,u15,.int .i64 (k:Int),u17,u18,u19,u20,.slice A n cc,.int .i64 ev,u23,u24,u25,u26,u27,u28,u29,u30,u31,u32,u33,u34,u35,u36,u37,u38,u39,u40,u41,u42,u43,u44,u45,u46,u47,u48,u49,u50,u51,u52,u53,u54,u55,u56,u57,u58,u59,u60,u61,u62,u63,u64,u65,u66,u67,u68,u69,u70,u71,u72,u73,u74,u75,u76,u77,u78,u79,u80,u81,u82,u83,u84,u85,u86,u87,u88,u89,u90,u91,u92,u93,u94,u95,u96,u97,u98,u99,u100,u101,u102,u103,u104,u105,u106,u107,u108,u109,u110,u111,u112,u113,u114,u115,u116,u117,u118,u119,u120,u121,u122,u123,u124,u125,u126,u127,u128,u129,u130,u131,u132,u133,u134,u135,u136,u137,u138,u139,u140,u141,u142,u143,u144,u145,u146,u147,u148,u149,u150,u151,u152,u153,u154,u155,u156,u157,u158,u159,u160,u161,u162,u163,u164,u165,u166,u167,u168,u169,u170,u171,u172,u173,u174,u175,u176,u177,u178],defers:=[] } w')
  (u0 u1 u5 u6 u7 u8 u9 u10 u12 u15 u17 u18 u19 u20 u21 u22 u23 u24 u25 u26 u27 u28 u29 u30 u31 u32 u33 u34 u35 u36 u37 u38 u39 u40 u41 u42 u43 u44 u45 u46 u47 u48 u49 u50 u51 u52 u53 u54 u55 u56 u57 u58 u59 u60 u61 u62 u63 u64 u65 u66 u67 u68 u69 u70 u71 u72 u73 u74 u75 u76 u77 u78 u79 u80 u81 u82 u83 u84 u85 u86 u87 u88 u89 u90 u91 u92 u93 u94 u95 u96 u97 u98 u99 u100 u101 u102 u103 u104 u105 u106 u107 u108 u109 u110 u111 u112 u113 u114 u115 u116 u117 u118 u119 u120 u121 u122 u123 u124 u125 u126 u127 u128 u129 u130 u131 u132 u133 u134 u135 u136 u137 u138 u139 u140 u141 u142 u143 u144 u145 u146 u147 u148 u149 u150 u151 u152 u153 u154 u155 u156 u157 u158 u159 u160 u161 u162 u163 u164 u165 u166 u167 u168 u169 u170 u171 u172 u173 u174 u175 u176 u177 u178:Value):Code.wp Try.prog (BF 10) Q { tmps:=#[u0,u1,.slice A2 n2 c2,.slice A3 n3 c3,.int .i64 most,u5,u6,u7,u8,u9,u10,.pointer (some ⟨tb,0,none⟩),u12,.slice (some ⟨g7,0,none⟩) nr cap7,.slice (some ⟨g8,0,none⟩) nr cap8,u15,.int .i64 (k:Int),u17,u18,u19,u20,u21,u22,u23,u24,u25,u26,u27,u28,u29,u30,u31,u32,u33,u34,u35,u36,u37,u38,u39,u40,u41,u42,u43,u44,u45,u46,u47,u48,u49,u50,u51,u52,u53,u54,u55,u56,u57,u58,u59,u60,u61,u62,u63,u64,u65,u66,u67,u68,u69,u70,u71,u72,u73,u74,u75,u76,u77,u78,u79,u80,u81,u82,u83,u84,u85,u86,u87,u88,u89,u90,u91,u92,u93,u94,u95,u96,u97,u98,u99,u100,u101,u102,u103,u104,u105,u106,u107,u108,u109,u110,u111,u112,u113,u114,u115,u116,u117,u118,u119,u120,u121,u122,u123,u124,u125,u126,u127,u128,u129,u130,u131,u132,u133,u134,u135,u136,u137,u138,u139,u140,u141,u142,u143,u144,u145,u146,u147,u148,u149,u150,u151,u152,u153,u154,u155,u156,u157,u158,u159,u160,u161,u162,u163,u164,u165,u166,u167,u168,u169,u170,u171,u172,u173,u174,u175,u176,u177,u178],defers:=[] } w1:=by
 obtain ⟨i1,hi1,hy0,hy1,hy2⟩:=info_parts u8_info
 have HI1:=hide hi1
 have HY0:=hide hy0
 obtain ⟨g,cap,e,-,-,z7,k7⟩:=hC.at7 hk
 have hgg:g = g7:=by
  injection e with e _ _
  injection e with e
  injection e with e
  exact e.symm
 rw [hgg] at z7 k7
 clear e hgg
 obtain ⟨r0,hr0⟩:∃ r,roots[k] = r:=⟨_,rfl⟩
 rw [hr0] at k7
 obtain ⟨lk,hlk⟩:∃ l,lists[k] = l:=⟨_,rfl⟩
 rw [hlk] at hQ
 have hkn:k < nr:=by omega
 obtain ⟨hcap1,hcap2⟩:=hcap
 have hb01:=hC.nl.bel
 have e2:n2 = fr.length:=by
  obtain ⟨_,_,e,_⟩:=id hf
  injection e
 have HN2:=hide e2
 clear e2
 have hn2:n2 ≤ 1073741824:=by rw [HN2.out]; exact hfl
 have e3:n3 = te.length:=by
  obtain ⟨_,_,e,_⟩:=id ht
  injection e
 have HN3:=hide e3
 clear e3
 have hn3:n3 ≤ 1073741824:=by rw [HN3.out]; exact htl
 have HT1:=hide (ht.keep (w':=w1) (F':=fun j=>j < w1.heap.size) (fun j hj _=>hb01.block j hj) (fun j hj _=>Nat.lt_of_lt_of_le hj hb01.size))
 have HF1:=hide (hf.keep (w':=w1) (F':=fun j=>j < w1.heap.size) (fun j hj _=>hb01.block j hj) (fun j hj _=>Nat.lt_of_lt_of_le hj hb01.size))
 have HGT:=hide (fun (w3:World) (hb:Below w1.heap.size w1 w3) (vf:Value) (At:Option Addr) (nt ct:Nat) (h1:BS w3 (fun j=>w1.heap.size ≤ j ∧ j < w3.heap.size) vf fr) (h2:BS w3 (fun j=>w1.heap.size ≤ j ∧ j < w3.heap.size) (.slice At nt ct) te)=>(show Calls Try.prog 10 #[.pointer (some ⟨tb,0,none⟩),.int .i64 (r0:Int),vf,.slice At nt ct,.int .i64 most] w3 fun e w'=>∃ A n cc ev,e = .returned (.tuple #[.slice A n cc,.int .i64 ev]) ∧ ScF w0 c tb i m (.slice (some ⟨g7,0,none⟩) nr cap7) (.slice (some ⟨g8,0,none⟩) nr cap8) roots lists lk fr te most A n cc ev w' from by
  by_cases hm:most < 0
  ·refine (tscan_neg (hC.below hb).nl.tr hm).mono ?_
   rintro e w' ⟨rfl,hb2⟩
   exact ⟨_,_,_,_,rfl,(hC.below hb).below hb2,.inl ⟨hm,rfl,rfl,rfl,rfl⟩⟩
  ·have h:=gscan (hC.below hb) hT hk hk2 hi (h1.keep (F':=fun j=>¬ PF m.F c.pb c.sb j) (fun _ _ _=>rfl) (fun j hj _ hp=>by have:=PF.lt hC.nl.pg hp; omega)) (h2.keep (F':=fun j=>¬ PF m.F c.pb c.sb j) (fun _ _ _=>rfl) (fun j hj _ hp=>by have:=PF.lt hC.nl.pg hp; omega)) (by omega:0 ≤ most)
   rw [hr0,hlk] at h
   refine h.mono ?_
   rintro e w' ⟨A,cc,rfl,hs,hc⟩
   exact ⟨_,_,_,_,rfl,hc,.inr ⟨by omega,rfl,hs⟩⟩))
 have HQ:=hide hQ
 clear hQ hC hT hf hb01 hr0 hlk hfl hi1 hy0 ht htl
 rw [show BF 10 = Code.seq (CF 10) (BF 11) from rfl]
 conv=>arg 2; arg 1; whnf
 go_upto_region 14 with fail
 refine wp_region_dag (by kernel_rfl) (by kernel_rfl) 179 1
  [⟨some 103,[0],[],[],[],[],fun _ _ v _=>v = .pointer (some ⟨tb,0,none⟩)⟩,
   ⟨some 104,[0],[],[],[],[],fun _ _ v _=>v = .slice (some ⟨g7,0,none⟩) nr cap7⟩,
   ⟨some 105,[0],[],[],[],[],fun _ _ v _=>v = .int .i64 (k:Int)⟩,
   ⟨some 106,[0],[],[],[1,2],[],fun _ _ v _=>v = .pointer (some ⟨g7,k,none⟩)⟩,
   ⟨some 107,[0],[],[],[3],[],fun _ _ v _=>v = .int .i64 (r0:Int)⟩,
   ⟨some 108,[0],[],[],[],[],fun st a v w'=>st = 0 → ∃ g,v = .slice (some ⟨g,0,none⟩) 0 0⟩,
   ⟨some 109,[0],[],[],[],[],fun _ _ v _=>v = .slice A2 n2 c2⟩,
   ⟨some 110,[0],[],[],[5,6],[],fun st a v w'=>st = 0 → ∃ A n cc,v = .slice A n cc ∧ BS w' (fun j=>w1.heap.size ≤ j ∧ j < w'.heap.size) (.slice A n cc) fr⟩,
   ⟨some 111,[0],[],[],[],[],fun st a v w'=>st = 0 → ∃ g,v = .slice (some ⟨g,0,none⟩) 0 0⟩,
   ⟨some 112,[0],[],[],[],[],fun _ _ v _=>v = .slice A3 n3 c3⟩,
   ⟨some 113,[0],[],[],[8,9],[],fun st a v w'=>st = 0 → ∃ A n cc,v = .slice A n cc ∧ BS w' (fun j=>w1.heap.size ≤ j ∧ j < w'.heap.size) (.slice A n cc) te⟩,
   ⟨some 114,[0],[],[],[],[],fun _ _ v _=>v = .int .i64 most⟩,
   ⟨some 115,[0],[(0,1)],[1],[0,4,7,10,11],[],fun st a v w'=>1 ≤ st ∧ ∃ A n cc ev,v = .tuple #[.slice A n cc,.int .i64 ev] ∧ ScF w0 c tb i m (.slice (some ⟨g7,0,none⟩) nr cap7) (.slice (some ⟨g8,0,none⟩) nr cap8) roots lists lk fr te most A n cc ev w'⟩,
   ⟨some 102,[1],[],[],[12],[],fun st a v w'=>1 ≤ st ∧ ∃ A n cc ev,v = .tuple #[.slice A n cc,.int .i64 ev] ∧ ScF w0 c tb i m (.slice (some ⟨g7,0,none⟩) nr cap7) (.slice (some ⟨g8,0,none⟩) nr cap8) roots lists lk fr te most A n cc ev w'⟩,
   ⟨some 116,[1],[],[],[13],[102],fun st a v w'=>1 ≤ st ∧ ∃ A n cc ev,a.eval (.tmp 102) = .tuple #[.slice A n cc,.int .i64 ev] ∧ v = .slice A n cc⟩,
   ⟨some 117,[1],[],[],[13],[102],fun st a v w'=>1 ≤ st ∧ ∃ A n cc ev,a.eval (.tmp 102) = .tuple #[.slice A n cc,.int .i64 ev] ∧ v = .int .i64 ev⟩,
   ⟨some 21,[1],[],[],[13,14],[102],fun st a v w'=>1 ≤ st ∧ ∃ A n cc ev,a.eval (.tmp 102) = .tuple #[.slice A n cc,.int .i64 ev] ∧ v = .slice A n cc⟩,
   ⟨some 22,[1],[],[],[13,15],[102],fun st a v w'=>1 ≤ st ∧ ∃ A n cc ev,a.eval (.tmp 102) = .tuple #[.slice A n cc,.int .i64 ev] ∧ v = .int .i64 ev⟩] (fun st w'=>st = 0 → Below w1.heap.size w1 w') (fun s s' _ _ _=>s = 0 ∧ s' = 1) (fun _ w w'=>Below w.heap.size w w') ?gu ?ru ?put [103,104,105,106,107,108,109,110,111,112,113,114,115,102,116,117,21,22] rfl (by kernel_rfl) rfl ?g0 ?keep ?steps ?fin
 case ru=>
  intro e he s a v w w' hu hv
  simp only [List.mem_cons,List.not_mem_nil,or_false] at he
  rcases he with rfl | rfl | rfl | rfl | rfl | rfl | rfl | rfl | rfl | rfl | rfl | rfl | rfl | rfl | rfl | rfl | rfl | rfl
  all_goals first | exact hv | (intro h0; exact hv h0) | (intro h0; obtain ⟨A',n',c',e,h⟩:=hv h0; exact ⟨A',n',c',e,h.fresh2 hu⟩) | (obtain ⟨h0,A,n,cc,ev,e,h1,h2⟩:=hv; exact ⟨h0,A,n,cc,ev,e,h1.below hu,h2.imp id fun ⟨h3,h4,h5⟩=>⟨h3,h4,h5.keep (by omega) @ItR.keep (fun j hj _=>hu.block j hj) (fun j hj _=>Nat.lt_of_lt_of_le hj hu.size)⟩⟩)
 case put=>
  intro e he s a d u v w hnd hv
  simp only [List.mem_cons,List.not_mem_nil,or_false] at he
  rcases he with rfl | rfl | rfl | rfl | rfl | rfl | rfl | rfl | rfl | rfl | rfl | rfl | rfl | rfl | rfl | rfl | rfl | rfl
  all_goals first | exact hv | (obtain ⟨h0,A,n,cc,ev,h1,h2⟩:=hv; exact ⟨h0,A,n,cc,ev,(act_ne (by simpa using fun e=>hnd (by simp [e]))).trans h1,h2⟩)
 case keep=>
  intro e he s s' a v w w' hsl hm ht hv
  simp only [List.mem_cons,List.not_mem_nil,or_false] at he
  rcases he with rfl | rfl | rfl | rfl | rfl | rfl | rfl | rfl | rfl | rfl | rfl | rfl | rfl | rfl | rfl | rfl | rfl | rfl
  all_goals first | exact hv | (intro h3; exfalso; have:=ht.2; omega) | (exfalso; have:=hv.1; have:=ht.1; omega)
 case steps=>
  refine ⟨?_,?_,?_,?_,?_,?_,?_,?_,?_,?_,?_,?_,?_,?_,?_,?_,?_,?_,trivial⟩
  ·intro st hst ac w3 hg hG hd K hK
   dsimp only at hst hG hK
   exact op_move _ rfl (hK _ _ (Below.refl _ _) (hg.kp 11 (by simp)))
  ·intro st hst ac w3 hg hG hd K hK
   dsimp only at hst hG hK
   exact op_move _ rfl (hK _ _ (Below.refl _ _) (hg.kp 13 (by simp)))
  ·intro st hst ac w3 hg hG hd K hK
   dsimp only at hst hG hK
   exact op_move _ rfl (hK _ _ (Below.refl _ _) (hg.kp 16 (by simp)))
  ·intro st hst ac w3 hg hG hd K hK
   dsimp only at hst hG hK
   have f1:=hd 1 (by simp) _ rfl _ rfl
   have f2:=hd 2 (by simp) _ rfl _ rfl
   (try simp [Act.eval] at f1)
   (try simp [Act.eval] at f2)
   go_simp
   exact hK _ _ (Below.refl _ _) rfl
  ·intro st hst ac w3 hg hG hd K hK
   dsimp only at hst hG hK
   simp only [List.mem_cons,List.not_mem_nil,or_false] at hst
   subst hst
   have kk:=((hG rfl).cell (p:=⟨g7,k,none⟩) z7).trans k7
   have zz:=Nat.lt_of_lt_of_le z7 (hG rfl).size
   clear hG
   have f3:=hd 3 (by simp) _ rfl _ rfl
   (try simp [Act.eval] at f3)
   go_simp
   exact hK _ _ (Below.refl _ _) rfl
  ·intro st hst ac w3 hg hG hd K hK
   dsimp only at hst hG hK
   clear hG
   go_simp
   exact hK _ _ (al_below w3 _) (fun _=>⟨_,rfl⟩)
  ·intro st hst ac w3 hg hG hd K hK
   dsimp only at hst hG hK
   exact op_move _ rfl (hK _ _ (Below.refl _ _) (hg.kp 2 (by simp)))
  ·intro st hst ac w3 hg hG hd K hK
   dsimp only at hst hG hK
   simp only [List.mem_cons,List.not_mem_nil,or_false] at hst
   subst hst
   obtain ⟨g,f1⟩:=hd 5 (by simp) _ rfl _ rfl rfl
   have f6:=hd 6 (by simp) _ rfl _ rfl
   have hk:=HF1.out.later (hG rfl)
   obtain ⟨A9,c9,e9,_,hr9⟩:=hk
   injection e9 with e9 e10 e11
   subst e9 e11
   refine wp_append_lit w3 (.tmp 108) (.tmp 109) 38 rfl T8 i1 _ 1 1 Try.underlying38 HI1.out HY0.out hy1 hy2 rfl (by omega) ⟨g,0,none⟩ f1 A2 n2 c2 (cs8 fr) f6 (HN2.out ▸ hr9.reads (fun _ h=>h)) (cs8_one _) (by unfold maxLen; omega) (by omega) ?_
   intro v' w' ho hbw
   have hb9:=(BS.lit (g:=⟨g,0,none⟩) (HN2.out ▸ ho)).fresh (hG rfl).size
   (obtain ⟨A7,c7,e7,_⟩:=id hb9)
   subst e7
   exact hK _ _ hbw (fun _=>⟨_,_,_,rfl,hb9⟩)
  ·intro st hst ac w3 hg hG hd K hK
   dsimp only at hst hG hK
   clear hG
   go_simp
   exact hK _ _ (al_below w3 _) (fun _=>⟨_,rfl⟩)
  ·intro st hst ac w3 hg hG hd K hK
   dsimp only at hst hG hK
   exact op_move _ rfl (hK _ _ (Below.refl _ _) (hg.kp 3 (by simp)))
  ·intro st hst ac w3 hg hG hd K hK
   dsimp only at hst hG hK
   simp only [List.mem_cons,List.not_mem_nil,or_false] at hst
   subst hst
   obtain ⟨g,f1⟩:=hd 8 (by simp) _ rfl _ rfl rfl
   have f6:=hd 9 (by simp) _ rfl _ rfl
   have hk:=HT1.out.later (hG rfl)
   obtain ⟨A9,c9,e9,_,hr9⟩:=hk
   injection e9 with e9 e10 e11
   subst e9 e11
   refine wp_append_lit w3 (.tmp 111) (.tmp 112) 38 rfl T8 i1 _ 1 1 Try.underlying38 HI1.out HY0.out hy1 hy2 rfl (by omega) ⟨g,0,none⟩ f1 A3 n3 c3 (cs8 te) f6 (HN3.out ▸ hr9.reads (fun _ h=>h)) (cs8_one _) (by unfold maxLen; omega) (by omega) ?_
   intro v' w' ho hbw
   have hb9:=(BS.lit (g:=⟨g,0,none⟩) (HN3.out ▸ ho)).fresh (hG rfl).size
   (obtain ⟨A7,c7,e7,_⟩:=id hb9)
   subst e7
   exact hK _ _ hbw (fun _=>⟨_,_,_,rfl,hb9⟩)
  ·intro st hst ac w3 hg hG hd K hK
   dsimp only at hst hG hK
   exact op_move _ rfl (hK _ _ (Below.refl _ _) (hg.kp 4 (by simp)))
  ·intro st st' hmv ac w3 hg hG hd K hK
   simp only [List.mem_cons,Prod.mk.injEq,List.not_mem_nil,or_false] at hmv
   obtain ⟨rfl,rfl⟩:=hmv
   dsimp only at hG hK
   have f0:=hd 0 (by simp) _ rfl _ rfl
   have f4:=hd 4 (by simp) _ rfl _ rfl
   have f5:=hd 11 (by simp) _ rfl _ rfl
   (obtain ⟨A7,n7,c7,f7,hs7⟩:=hd 7 (by simp) _ rfl _ rfl rfl)
   (obtain ⟨A8,n8,c8,f8,hs8⟩:=hd 10 (by simp) _ rfl _ rfl rfl)
   have HG9:=hide (hG rfl)
   have HS7:=hide hs7
   have HS8:=hide hs8
   clear hG hs7 hs8
   simp [Act.eval] at f0 f4 f5 f7 f8
   go_simp
   (refine (HGT.out w3 HG9.out _ _ _ _ HS7.out HS8.out).mono ?_)
   rintro e w5 ⟨A,n,cc,ev,rfl,hgp⟩
   exact hK _ _ ⟨rfl,rfl⟩ (fun e=>by omega) ⟨Nat.le_refl _,A,n,cc,ev,rfl,hgp⟩
  ·intro st hst ac w3 hg hG hd K hK
   dsimp only at hst hG hK
   exact op_move _ rfl (hK _ _ (Below.refl _ _) (hd 12 (by simp) _ rfl _ rfl))
  ·intro st hst ac w3 hg hG hd K hK
   dsimp only at hst hG hK
   have f12:=hd 13 (by simp) _ rfl _ rfl
   (obtain ⟨h1,A,n,cc,ev,e,-⟩:=f12)
   have E:=hide e
   clear hG
   simp [Act.eval] at e
   go_simp
   exact hK _ _ (Below.refl _ _) ⟨h1,A,n,cc,ev,E.out,rfl⟩
  ·intro st hst ac w3 hg hG hd K hK
   dsimp only at hst hG hK
   have f12:=hd 13 (by simp) _ rfl _ rfl
   (obtain ⟨h1,A,n,cc,ev,e,-⟩:=f12)
   have E:=hide e
   clear hG
   simp [Act.eval] at e
   go_simp
   exact hK _ _ (Below.refl _ _) ⟨h1,A,n,cc,ev,E.out,rfl⟩
  ·intro st hst ac w3 hg hG hd K hK
   dsimp only at hst hG hK
   have f12:=hd 13 (by simp) _ rfl _ rfl
   clear f12
   exact op_assign _ rfl (hK _ _ (Below.refl _ _) (hd 14 (by simp) _ rfl _ rfl))
  ·intro st hst ac w3 hg hG hd K hK
   dsimp only at hst hG hK
   have f12:=hd 13 (by simp) _ rfl _ rfl
   clear f12
   exact op_assign _ rfl (hK _ _ (Below.refl _ _) (hd 15 (by simp) _ rfl _ rfl))
 case gu=>intro s a b hG hu e; exact (hG e).trans (hu.mono (hG e).size)
 case g0=>exact fun _=>(Below.refl _ _).drew
 case fin=>
  intro f9 w9 hG hall
  obtain ⟨-,A,n,cc,ev,h102,hgt⟩:=hall _ (List.mem_of_getElem? (i:=13) rfl) 102 rfl
  obtain ⟨-,A1,n1,cc1,ev1,e12,h12⟩:=hall _ (List.mem_of_getElem? (i:=16) rfl) 21 rfl
  obtain ⟨-,A4,n4,cc4,ev2,e13,h13⟩:=hall _ (List.mem_of_getElem? (i:=17) rfl) 22 rfl
  rw [fillF_eval _ _ _ 102 (by simp),if_pos (by simp),h102] at e12 e13
  obtain ⟨rfl,rfl,rfl⟩:A = A1 ∧ n = n1 ∧ cc = cc1:=by simp at e12; exact e12.1
  obtain rfl:ev = ev2:=by simp at e13; exact e13.2
  have HGP:=hide hgt
  clear hall hG e12 e13 hgt
  simp only [fillF,List.map_cons,List.map_nil,List.foldl_cons,List.foldl_nil,Act.put,List.setIfInBounds_toArray,List.set_cons_zero,List.set_cons_succ]
  rw [h12,h13]
  clear h12 h13 h102
  go_wp2_with fail
  exact HQ.out _ _ _ _ _ _ _ _ _ _ _ _ _ _ _ _ _ _ _ _ _ _ _ _ _ _ _ _ _ _ _ _ _ _ _ _ _ _ _ _ _ _ _ _ _ _ _ _ _ _ _ _ _ _ _ _ _ _ _ _ _ _ _ _ _ _ _ _ _ _ _ _ _ _ _ _ _ _ _ _ _ _ _ _ _ _ _ _ _ _ _ _ _ _ _ _ _ _ _ _ _ _ _ _ _ _ _ _ _ _ _ _ _ _ _ _ _ _ _ _ _ _ _ _ _ _ _ _ _ _ _ _ _ _ _ _ _ _ _ _ _ _ _ _ _ _ _ _ _ _ _ _ _ _ _ _ _ _ _ _ _ _ _ _ _ _ _ _ _ _ _ _ _ _ _ HGP.out
end
end Go.Proofs.Ytkolacaceaamoaa
