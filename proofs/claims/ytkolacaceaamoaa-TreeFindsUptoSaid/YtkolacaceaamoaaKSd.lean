/- The maker's join: its round, and the whole. -/
import Derived.Test.YtkolacaceaamoaaKSc
set_option linter.unusedSimpArgs false
set_option linter.unusedVariables false
namespace Go.Proofs.Ytkolacaceaamoaa
open Go.RowKit
section
variable {Q:Exit → Act → World → Prop} {v3 v4 v5 v140:Value} {w:World} {c:Pct} {B mb tb fb:Nat} {took:List Nat} {vt0:Value} {m0:Pst} {U V:Nat → Prop} {h:Nat} {is:List It} {N1 K1 S1:Nat}
set_option maxRecDepth 100000 in
set_option maxHeartbeats 4000000 in
theorem join_reads {wr:World} {A:Option Addr} {n cc i cnt g9 g10:Nat} {T:List Nat} {vt v9 v10:Value} {m:Pst} {l1 l2:List KI} {a b:KI} (hQ:JNx Q v3 v4 v5 v140 w c B mb tb fb took vt0 m0 U V h is N1 K1 S1 A n cc i) (hE:JE c took m0 U)
  (hM:JM w wr c B mb tb took vt0 m0 T vt m fb) (hl:(l1 ++ a :: b :: l2).length = n) (hs:SLk 2 KdR wr (Sf wr c mb vt m) (.slice A n cc) ((l1 ++ a :: b :: l2).map Prod.fst)) (hmp:MapB wr fb cnt) (hJ:JL c m U V T h (l1 ++ a :: b :: l2)) (his:(l1 ++ a :: b :: l2).flatMap Prod.snd = is)
  (hn:m.N + n ≤ N1) (hk:cnt + n ≤ K1) (hS:sumK ((l1 ++ a :: b :: l2).map Prod.fst) ≤ S1) (hN1:N1 < 1000000000) (hK1:K1 < 100000000) (hi:l1.length = i)
  (h9:Blk wr g9 TKd #[v9,.int .i64 (a.1.p:Int)]) (s9:¬ MT c mb vt m g9) (h10:Blk wr g10 TKd #[v10,.int .i64 (b.1.p:Int)]) (s10:¬ MT c mb vt m g10)
  (u11 u12 u13 u14 u15 u16 u17 u18 u19 u20 u21 u22 u23 u24 u25 u26 u27 u28 u29 u30 u31 u32 u33 u34 u35 u36 u37 u38 u39 u40 u41 u42 u43 u44 u45 u46 u47 u48 u49 u50 u51 u52 u53 u54 u55 u56 u57 u58 u59 u60 u61 u62 u63 u64 u65 u66 u67 u68 u69 u70 u71 u72 u73 u74 u75 u76 u77 u78 u79 u80 u81 u82 u83 u84 u85 u86 u87 u88 u89 u90 u91 u92 u93 u94 u95 u96 u97 u98 u99 u100 u101 u102 u103 u104 u105 u106 u107 u108 u109 u110 u111 u112 u113 u114 u115 u116 u117 u118 u119 u120 u121 u122 u123 u124 u125 u126 u127 u128 u129 u130 u131 u132 u133 u134 u135 u136 u137 u138 u139:Value) :
  Code.wp Try.prog (BJ 2) Q { tmps:=#[.pointer (some ⟨mb,0,none⟩),.slice A n cc,.map (some fb),v3,v4,v5,.slice none 0 0,.int .i64 0,.int .i64 (i:Int),.pointer (some ⟨g9,0,none⟩),.pointer (some ⟨g10,0,none⟩),u11,u12,u13,u14,u15,u16,u17,u18,u19,u20,u21,u22,u23,u24,u25,u26,u27,u28,u29,u30,u31,u32,u33,u34,u35,u36,u37,u38,u39,u40,u41,u42,u43,u44,u45,u46,u47,u48,u49,u50,u51,u52,u53,u54,u55,u56,u57,u58,u59,u60,u61,u62,u63,u64,u65,u66,u67,u68,u69,u70,u71,u72,u73,u74,u75,u76,u77,u78,u79,u80,u81,u82,u83,u84,u85,u86,u87,u88,u89,u90,u91,u92,u93,u94,u95,u96,u97,u98,u99,u100,u101,u102,u103,u104,u105,u106,u107,u108,u109,u110,u111,u112,u113,u114,u115,u116,u117,u118,u119,u120,u121,u122,u123,u124,u125,u126,u127,u128,u129,u130,u131,u132,u133,u134,u135,u136,u137,u138,u139,v140],defers:=[] } wr:=by
 obtain ⟨oka0,pga,nda,oka,hca,ia,ka⟩:=hJ.kid a (by simp)
 obtain ⟨okb0,pgb,ndb,okb,hcb,ib,kb⟩:=hJ.kid b (by simp)
 have HQ:=hide hQ
 have HE:=hide hE
 have HM:=hide hM
 have HMW:=hide hM.mw
 have HL:=hide hl
 have HS:=hide hs
 have HMP:=hide hmp
 have HJ:=hide hJ
 have HIS:=hide his
 have HSU:=hide hS
 have H9:=hide h9
 have H10:=hide h10
 have S9:=hide s9
 have S10:=hide s10
 have OKA:=hide oka
 have OKB:=hide okb
 have HCA:=hide hca
 have HCB:=hide hcb
 have PGA:=hide pga
 have PGB:=hide pgb
 have IA:=hide ia
 have IB:=hide ib
 have KA:=hide ka
 have HI:=hide hi
 obtain ⟨pa,hpa⟩:∃ x,a.1.p = x:=⟨_,rfl⟩
 obtain ⟨pb,hpb⟩:∃ x,b.1.p = x:=⟨_,rfl⟩
 rw [hpa] at H9 HCA PGA
 rw [hpb] at H10 HCB PGB
 have HPA:=hide hpa
 have HPB:=hide hpb
 clear hQ hE hM hl hs hmp hJ his hS h9 s9 h10 s10 oka okb ia ib ka kb oka0 okb0 hca hcb pga pgb hi hpa hpb
 rw [show BJ 2 = Code.seq (CJ 2) (Code.seq (CJ 3) (Code.seq (CJ 4) (Code.seq (CJ 5) (BJ 6)))) from rfl]
 conv=>arg 2; arg 1; whnf
 conv=>arg 2; arg 2; arg 1; whnf
 conv=>arg 2; arg 2; arg 2; arg 1; whnf
 conv=>arg 2; arg 2; arg 2; arg 2; arg 1; whnf
 go_upto_region 6 with fail
 refine wp_region_dag (by kernel_rfl) (by kernel_rfl) 141 1
  [⟨some 45,[0,1],[],[],[],[],fun _ _ v _=>v = .pointer (some ⟨mb,0,none⟩)⟩,
   ⟨some 46,[0,1],[],[],[0],[],fun _ _ v _=>v = .pointer (some ⟨mb,0,none⟩)⟩,
   ⟨some 47,[0,1],[],[],[1],[],fun _ _ v _=>v = .pointer (some ⟨mb,0,none⟩)⟩,
   ⟨some 48,[0],[],[],[2],[],fun _ _ v _=>v = .pointer (some ⟨tb,0,none⟩)⟩,
   ⟨some 49,[0,1],[],[],[],[],fun _ _ v _=>v = .pointer (some ⟨g9,1,none⟩)⟩,
   ⟨some 50,[0],[],[],[4],[],fun _ _ v _=>v = .int .i64 (pa:Int)⟩,
   ⟨some 51,[0],[(0,1)],[1],[3,5],[],fun st a v w'=>1 ≤ st ∧ ∃ g,v = .tuple #[.pointer (some ⟨g,0,none⟩),.int .i64 0] ∧ RdN wr c B mb tb (took ++ T) vt m nda g w'⟩,
   ⟨some 44,[1],[],[],[6],[51],fun st a v w'=>1 ≤ st ∧ v = a.eval (.tmp 51)⟩,
   ⟨some 52,[1],[],[],[6,7],[51],fun st a v w'=>1 ≤ st ∧ ∃ g,a.eval (.tmp 51) = .tuple #[.pointer (some ⟨g,0,none⟩),.int .i64 0] ∧ v = .pointer (some ⟨g,0,none⟩)⟩,
   ⟨some 53,[1],[],[],[6,7],[],fun st a v w'=>1 ≤ st ∧ v = .int .i64 0⟩,
   ⟨some 11,[1],[],[],[6,8],[51],fun st a v w'=>1 ≤ st ∧ ∃ g,a.eval (.tmp 51) = .tuple #[.pointer (some ⟨g,0,none⟩),.int .i64 0] ∧ v = .pointer (some ⟨g,0,none⟩)⟩,
   ⟨some 12,[1],[],[],[6,9],[],fun st a v w'=>1 ≤ st ∧ v = .int .i64 0⟩] (fun st w'=>st = 0 → Below wr.heap.size wr w') (fun s s' _ _ _=>s = 0 ∧ s' = 1) (fun _ w w'=>Below w.heap.size w w') ?gu ?ru ?put [45,46,47,48,49,50,51,44,52,53,11,12] rfl (by kernel_rfl) rfl ?g0 ?keep ?steps ?fin
 case ru=>
  intro e he s a v w w' hu hv
  simp only [List.mem_cons,List.not_mem_nil,or_false] at he
  rcases he with rfl | rfl | rfl | rfl | rfl | rfl | rfl | rfl | rfl | rfl | rfl | rfl
  all_goals first | exact hv | (obtain ⟨h0,g,e,hr⟩:=hv; exact ⟨h0,g,e,hr.below hu⟩)
 case put=>
  intro e he s a d u v w hnd hv
  simp only [List.mem_cons,List.not_mem_nil,or_false] at he
  rcases he with rfl | rfl | rfl | rfl | rfl | rfl | rfl | rfl | rfl | rfl | rfl | rfl
  all_goals first | exact hv | (exact ⟨hv.1,hv.2.trans (act_ne (by simpa using fun e=>hnd (by simp [e]))).symm⟩) | (obtain ⟨h0,g,h1,h2⟩:=hv; exact ⟨h0,g,(act_ne (by simpa using fun e=>hnd (by simp [e]))).trans h1,h2⟩)
 case keep=>
  intro e he s s' a v w w' hsl hm ht hv
  simp only [List.mem_cons,List.not_mem_nil,or_false] at he
  rcases he with rfl | rfl | rfl | rfl | rfl | rfl | rfl | rfl | rfl | rfl | rfl | rfl
  all_goals first | exact hv | (exfalso; have:=hv.1; have:=ht.1; omega)
 case steps=>
  refine ⟨?_,?_,?_,?_,?_,?_,?_,?_,?_,?_,?_,?_,trivial⟩
  ·intro st hst ac w3 hg hG hd K hK
   dsimp only at hst hG hK
   exact op_move _ rfl (hK _ _ (Below.refl _ _) (hg.kp 0 (by simp)))
  ·intro st hst ac w3 hg hG hd K hK
   dsimp only at hst hG hK
   have f0:=hd 0 (by simp) _ rfl _ rfl
   (try simp [Act.eval] at f0)
   go_simp
   exact hK _ _ (Below.refl _ _) rfl
  ·intro st hst ac w3 hg hG hd K hK
   dsimp only at hst hG hK
   have f1:=hd 1 (by simp) _ rfl _ rfl
   (try simp [Act.eval] at f1)
   go_simp
   exact hK _ _ (Below.refl _ _) rfl
  ·intro st hst ac w3 hg hG hd K hK
   dsimp only at hst hG hK
   simp only [List.mem_cons,List.not_mem_nil,or_false] at hst
   subst hst
   have hX:=(HMW.out.below (hG rfl)).mkb
   have kk:=hX.cell 0
   have zz:=hX.lt
   simp at kk
   clear hG hX
   have f2:=hd 2 (by simp) _ rfl _ rfl
   (try simp [Act.eval] at f2)
   go_simp
   exact hK _ _ (Below.refl _ _) rfl
  ·intro st hst ac w3 hg hG hd K hK
   dsimp only at hst hG hK
   have k9:=hg.kp 9 (by simp)
   (try simp [Act.eval] at k9)
   go_simp
   exact hK _ _ (Below.refl _ _) rfl
  ·intro st hst ac w3 hg hG hd K hK
   dsimp only at hst hG hK
   simp only [List.mem_cons,List.not_mem_nil,or_false] at hst
   subst hst
   have hX:=H9.out.below (hG rfl) H9.out.lt
   have kk:=hX.cell 1
   have zz:=hX.lt
   simp at kk
   clear hG hX
   have f4:=hd 4 (by simp) _ rfl _ rfl
   (try simp [Act.eval] at f4)
   go_simp
   exact hK _ _ (Below.refl _ _) rfl
  ·intro st st' hmv ac w3 hg hG hd K hK
   simp only [List.mem_cons,Prod.mk.injEq,List.not_mem_nil,or_false] at hmv
   obtain ⟨rfl,rfl⟩:=hmv
   dsimp only at hG hK
   have f3:=hd 3 (by simp) _ rfl _ rfl
   have f5:=hd 5 (by simp) _ rfl _ rfl
   have HG9:=hide (hG rfl)
   clear hG
   simp [Act.eval] at f3 f5
   go_simp
   (refine (read_nd (HMW.out.below HG9.out) pa PGA.out OKA.out HCA.out).mono ?_)
   rintro e w5 ⟨g,rfl,hr⟩
   exact hK _ _ ⟨rfl,rfl⟩ (fun e=>by omega) ⟨Nat.le_refl _,g,rfl,RdN.from_ HG9.out hr⟩
  ·intro st hst ac w3 hg hG hd K hK
   dsimp only at hst hG hK
   have h9:=hd 6 (by simp) _ rfl _ rfl
   exact op_move _ rfl (hK _ _ (Below.refl _ _) ⟨h9.1,rfl⟩)
  ·intro st hst ac w3 hg hG hd K hK
   dsimp only at hst hG hK
   obtain ⟨h0,g,e51,_⟩:=hd 6 (by simp) _ rfl _ rfl
   have f10:=(hd 7 (by simp) _ rfl _ rfl).2.trans e51
   have E28:=hide e51
   clear e51
   simp [Act.eval] at f10
   go_simp
   exact hK _ _ (Below.refl _ _) ⟨h0,g,E28.out,rfl⟩
  ·intro st hst ac w3 hg hG hd K hK
   dsimp only at hst hG hK
   obtain ⟨h0,g,e51,_⟩:=hd 6 (by simp) _ rfl _ rfl
   have f10:=(hd 7 (by simp) _ rfl _ rfl).2.trans e51
   clear e51
   simp [Act.eval] at f10
   go_simp
   exact hK _ _ (Below.refl _ _) ⟨h0,rfl⟩
  ·intro st hst ac w3 hg hG hd K hK
   dsimp only at hst hG hK
   have h9:=hd 6 (by simp) _ rfl _ rfl
   exact op_assign _ rfl (hK _ _ (Below.refl _ _) (hd 8 (by simp) _ rfl _ rfl))
  ·intro st hst ac w3 hg hG hd K hK
   dsimp only at hst hG hK
   have h9:=hd 6 (by simp) _ rfl _ rfl
   exact op_assign _ rfl (hK _ _ (Below.refl _ _) (hd 9 (by simp) _ rfl _ rfl))
 case gu=>intro s w1 w2 hG hu e; exact (hG e).trans (hu.mono (hG e).size)
 case g0=>exact fun _=>(Below.refl _ _).drew
 case fin=>
  intro f9 w6 hG hall
  obtain ⟨_,ga,e51,hrd⟩:=hall _ (List.mem_of_getElem? (i:=6) rfl) 51 rfl
  obtain ⟨_,g1,e52,e11⟩:=hall _ (List.mem_of_getElem? (i:=10) rfl) 11 rfl
  obtain ⟨_,e12⟩:=hall _ (List.mem_of_getElem? (i:=11) rfl) 12 rfl
  have HRA:=hide hrd
  rw [fillF_eval _ _ _ 51 (by simp),if_pos (by simp),e51] at e52
  obtain rfl:ga = g1:=by simpa using e52
  clear hall hG hrd e52
  simp only [fillF,List.map_cons,List.map_nil,List.foldl_cons,List.foldl_nil,Act.put,List.setIfInBounds_toArray,List.set_cons_zero,List.set_cons_succ]
  rw [e11,e12]
  clear e11 e12 e51
  have HMW6:=hide HRA.out.2.1
  have H106:=hide (H10.out.step HRA.out.2.2 S10.out)
  have H106b:=hide H106.out.1
  go_upto_region 9 with fail
  refine wp_region_dag (by kernel_rfl) (by kernel_rfl) 141 1
   [⟨some 58,[0,1],[],[],[],[],fun _ _ v _=>v = .pointer (some ⟨mb,0,none⟩)⟩,
    ⟨some 59,[0,1],[],[],[0],[],fun _ _ v _=>v = .pointer (some ⟨mb,0,none⟩)⟩,
    ⟨some 60,[0,1],[],[],[1],[],fun _ _ v _=>v = .pointer (some ⟨mb,0,none⟩)⟩,
    ⟨some 61,[0],[],[],[2],[],fun _ _ v _=>v = .pointer (some ⟨tb,0,none⟩)⟩,
    ⟨some 62,[0,1],[],[],[],[],fun _ _ v _=>v = .pointer (some ⟨g10,1,none⟩)⟩,
    ⟨some 63,[0],[],[],[4],[],fun _ _ v _=>v = .int .i64 (pb:Int)⟩,
    ⟨some 64,[0],[(0,1)],[1],[3,5],[],fun st a v w'=>1 ≤ st ∧ ∃ g,v = .tuple #[.pointer (some ⟨g,0,none⟩),.int .i64 0] ∧ RdN w6 c B mb tb (took ++ T) vt m ndb g w'⟩,
    ⟨some 57,[1],[],[],[6],[64],fun st a v w'=>1 ≤ st ∧ v = a.eval (.tmp 64)⟩,
    ⟨some 65,[1],[],[],[6,7],[64],fun st a v w'=>1 ≤ st ∧ ∃ g,a.eval (.tmp 64) = .tuple #[.pointer (some ⟨g,0,none⟩),.int .i64 0] ∧ v = .pointer (some ⟨g,0,none⟩)⟩,
    ⟨some 66,[1],[],[],[6,7],[],fun st a v w'=>1 ≤ st ∧ v = .int .i64 0⟩,
    ⟨some 13,[1],[],[],[6,8],[64],fun st a v w'=>1 ≤ st ∧ ∃ g,a.eval (.tmp 64) = .tuple #[.pointer (some ⟨g,0,none⟩),.int .i64 0] ∧ v = .pointer (some ⟨g,0,none⟩)⟩,
    ⟨some 12,[1],[],[],[6,9],[],fun st a v w'=>1 ≤ st ∧ v = .int .i64 0⟩] (fun st w'=>st = 0 → Below w6.heap.size w6 w') (fun s s' _ _ _=>s = 0 ∧ s' = 1) (fun _ w w'=>Below w.heap.size w w') ?gu ?ru ?put [58,59,60,61,62,63,64,57,65,66,13,12] rfl (by kernel_rfl) rfl ?g0 ?keep ?steps ?fin
  case ru=>
   intro e he s a v w w' hu hv
   simp only [List.mem_cons,List.not_mem_nil,or_false] at he
   rcases he with rfl | rfl | rfl | rfl | rfl | rfl | rfl | rfl | rfl | rfl | rfl | rfl
   all_goals first | exact hv | (obtain ⟨h0,g,e,hr⟩:=hv; exact ⟨h0,g,e,hr.below hu⟩)
  case put=>
   intro e he s a d u v w hnd hv
   simp only [List.mem_cons,List.not_mem_nil,or_false] at he
   rcases he with rfl | rfl | rfl | rfl | rfl | rfl | rfl | rfl | rfl | rfl | rfl | rfl
   all_goals first | exact hv | (exact ⟨hv.1,hv.2.trans (act_ne (by simpa using fun e=>hnd (by simp [e]))).symm⟩) | (obtain ⟨h0,g,h1,h2⟩:=hv; exact ⟨h0,g,(act_ne (by simpa using fun e=>hnd (by simp [e]))).trans h1,h2⟩)
  case keep=>
   intro e he s s' a v w w' hsl hm ht hv
   simp only [List.mem_cons,List.not_mem_nil,or_false] at he
   rcases he with rfl | rfl | rfl | rfl | rfl | rfl | rfl | rfl | rfl | rfl | rfl | rfl
   all_goals first | exact hv | (exfalso; have:=hv.1; have:=ht.1; omega)
  case steps=>
   refine ⟨?_,?_,?_,?_,?_,?_,?_,?_,?_,?_,?_,?_,trivial⟩
   ·intro st hst ac w3 hg hG hd K hK
    dsimp only at hst hG hK
    exact op_move _ rfl (hK _ _ (Below.refl _ _) (hg.kp 0 (by simp)))
   ·intro st hst ac w3 hg hG hd K hK
    dsimp only at hst hG hK
    have f0:=hd 0 (by simp) _ rfl _ rfl
    (try simp [Act.eval] at f0)
    go_simp
    exact hK _ _ (Below.refl _ _) rfl
   ·intro st hst ac w3 hg hG hd K hK
    dsimp only at hst hG hK
    have f1:=hd 1 (by simp) _ rfl _ rfl
    (try simp [Act.eval] at f1)
    go_simp
    exact hK _ _ (Below.refl _ _) rfl
   ·intro st hst ac w3 hg hG hd K hK
    dsimp only at hst hG hK
    simp only [List.mem_cons,List.not_mem_nil,or_false] at hst
    subst hst
    have hX:=(HMW6.out.below (hG rfl)).mkb
    have kk:=hX.cell 0
    have zz:=hX.lt
    simp at kk
    clear hG hX
    have f2:=hd 2 (by simp) _ rfl _ rfl
    (try simp [Act.eval] at f2)
    go_simp
    exact hK _ _ (Below.refl _ _) rfl
   ·intro st hst ac w3 hg hG hd K hK
    dsimp only at hst hG hK
    have k10:=hg.kp 10 (by simp)
    (try simp [Act.eval] at k10)
    go_simp
    exact hK _ _ (Below.refl _ _) rfl
   ·intro st hst ac w3 hg hG hd K hK
    dsimp only at hst hG hK
    simp only [List.mem_cons,List.not_mem_nil,or_false] at hst
    subst hst
    have hX:=H106b.out.below (hG rfl) H106b.out.lt
    have kk:=hX.cell 1
    have zz:=hX.lt
    simp at kk
    clear hG hX
    have f4:=hd 4 (by simp) _ rfl _ rfl
    (try simp [Act.eval] at f4)
    go_simp
    exact hK _ _ (Below.refl _ _) rfl
   ·intro st st' hmv ac w3 hg hG hd K hK
    simp only [List.mem_cons,Prod.mk.injEq,List.not_mem_nil,or_false] at hmv
    obtain ⟨rfl,rfl⟩:=hmv
    dsimp only at hG hK
    have f3:=hd 3 (by simp) _ rfl _ rfl
    have f5:=hd 5 (by simp) _ rfl _ rfl
    have HG9:=hide (hG rfl)
    clear hG
    simp [Act.eval] at f3 f5
    go_simp
    (refine (read_nd (HMW6.out.below HG9.out) pb PGB.out OKB.out HCB.out).mono ?_)
    rintro e w5 ⟨g,rfl,hr⟩
    exact hK _ _ ⟨rfl,rfl⟩ (fun e=>by omega) ⟨Nat.le_refl _,g,rfl,RdN.from_ HG9.out hr⟩
   ·intro st hst ac w3 hg hG hd K hK
    dsimp only at hst hG hK
    have h9:=hd 6 (by simp) _ rfl _ rfl
    exact op_move _ rfl (hK _ _ (Below.refl _ _) ⟨h9.1,rfl⟩)
   ·intro st hst ac w3 hg hG hd K hK
    dsimp only at hst hG hK
    obtain ⟨h0,g,e51,_⟩:=hd 6 (by simp) _ rfl _ rfl
    have f10:=(hd 7 (by simp) _ rfl _ rfl).2.trans e51
    have E28:=hide e51
    clear e51
    simp [Act.eval] at f10
    go_simp
    exact hK _ _ (Below.refl _ _) ⟨h0,g,E28.out,rfl⟩
   ·intro st hst ac w3 hg hG hd K hK
    dsimp only at hst hG hK
    obtain ⟨h0,g,e51,_⟩:=hd 6 (by simp) _ rfl _ rfl
    have f10:=(hd 7 (by simp) _ rfl _ rfl).2.trans e51
    clear e51
    simp [Act.eval] at f10
    go_simp
    exact hK _ _ (Below.refl _ _) ⟨h0,rfl⟩
   ·intro st hst ac w3 hg hG hd K hK
    dsimp only at hst hG hK
    have h9:=hd 6 (by simp) _ rfl _ rfl
    exact op_assign _ rfl (hK _ _ (Below.refl _ _) (hd 8 (by simp) _ rfl _ rfl))
   ·intro st hst ac w3 hg hG hd K hK
    dsimp only at hst hG hK
    have h9:=hd 6 (by simp) _ rfl _ rfl
    exact op_assign _ rfl (hK _ _ (Below.refl _ _) (hd 9 (by simp) _ rfl _ rfl))
  case gu=>intro s w1 w2 hG hu e; exact (hG e).trans (hu.mono (hG e).size)
  case g0=>exact fun _=>(Below.refl _ _).drew
  case fin=>
   intro f9 w7 hG hall
   obtain ⟨_,gb,e51,hrd⟩:=hall _ (List.mem_of_getElem? (i:=6) rfl) 64 rfl
   obtain ⟨_,g1,e52,e11⟩:=hall _ (List.mem_of_getElem? (i:=10) rfl) 13 rfl
   obtain ⟨_,e12⟩:=hall _ (List.mem_of_getElem? (i:=11) rfl) 12 rfl
   have HRB:=hide hrd
   rw [fillF_eval _ _ _ 64 (by simp),if_pos (by simp),e51] at e52
   obtain rfl:gb = g1:=by simpa using e52
   clear hall hG hrd e52
   simp only [fillF,List.map_cons,List.map_nil,List.foldl_cons,List.foldl_nil,Act.put,List.setIfInBounds_toArray,List.set_cons_zero,List.set_cons_succ]
   rw [e11,e12]
   clear e11 e12 e51
   have HST:=hide (HRA.out.2.2.trans HRB.out.2.2)
   have h97:=H9.out.step HST.out S9.out
   have h107:=H106.out.1.step HRB.out.2.2 H106.out.2
   have hmp7:=HMP.out.step HST.out HM.out.fs
   have H97:=hide h97
   have H107:=hide h107
   have HMP7:=hide hmp7
   clear h97 h107 hmp7
   have HGA:=hide (show NdR w7 (Sf w7 c mb vt m) ga nda.1 nda.2 from (HRA.out.1.keep (F':=Sf w6 c mb vt m) (fun _ _ _=>rfl) (fun j hj hlt=>HMW.out.fresh hj hlt)).keep (fun j hj hlt=>HRB.out.2.2.heap hj) (fun j hj hlt=>HRB.out.2.2.sf hj))
   have HGB:=hide (show NdR w7 (Sf w7 c mb vt m) gb ndb.1 ndb.2 from HRB.out.1.keep (F':=Sf w7 c mb vt m) (fun _ _ _=>rfl) (fun j hj hlt=>HMW6.out.fresh hj hlt))
   go_wp2_with fail
   have hpa:=HPA.out
   have hpb:=HPB.out
   subst hpa hpb
   exact join_both HQ.out HE.out (HM.out.still HRB.out.2.1 HST.out) HL.out (HST.out.slk @KdR.keep (by omega) HS.out) HMP7.out.1 HJ.out HIS.out hn hk HSU.out hN1 hK1 HI.out H97.out.1 H97.out.2 H107.out.1 H107.out.2 OKA.out OKB.out IA.out IB.out KA.out HGA.out HGB.out _ _ _ _ _ _ _ _ _ _ _ _ _ _ _ _ _ _ _ _ _ _ _ _ _ _ _ _ _ _ _ _ _ _ _ _ _ _ _ _ _ _ _ _ _ _ _ _ _ _ _ _ _ _ _ _ _ _ _ _ _ _ _ _ _ _ _ _ _ _ _ _ _ _ _ _ _ _ _ _ _ _ _ _ _ _ _ _ _ _ _ _ _ _ _ _ _ _ _ _ _ _ _ _ _ _ _ _ _ _ _ _ _ _ _ _ _ _ _ _ _ _ _ _ _ _
end
end Go.Proofs.Ytkolacaceaamoaa
/- The maker's join: the test. -/
namespace Go.Proofs.Ytkolacaceaamoaa
open Go.RowKit
section
variable {Q:Exit → Act → World → Prop} {v3 v4 v5 v140:Value} {w:World} {c:Pct} {B mb tb fb:Nat} {took:List Nat} {vt0:Value} {m0:Pst} {U V:Nat → Prop} {h:Nat} {is:List It} {N1 K1 S1:Nat}
set_option maxRecDepth 100000 in
set_option maxHeartbeats 4000000 in
theorem join_test {wr:World} {A:Option Addr} {n cc i cnt g9 g10:Nat} {T:List Nat} {vt v9 v10:Value} {m:Pst} {l1 l2:List KI} {a b:KI} (hQ:JNx Q v3 v4 v5 v140 w c B mb tb fb took vt0 m0 U V h is N1 K1 S1 A n cc i) (hE:JE c took m0 U)
  (hM:JM w wr c B mb tb took vt0 m0 T vt m fb) (hl:(l1 ++ a :: b :: l2).length = n) (hs:SLk 2 KdR wr (Sf wr c mb vt m) (.slice A n cc) ((l1 ++ a :: b :: l2).map Prod.fst)) (hmp:MapB wr fb cnt) (hJ:JL c m U V T h (l1 ++ a :: b :: l2)) (his:(l1 ++ a :: b :: l2).flatMap Prod.snd = is)
  (hn:m.N + n ≤ N1) (hk:cnt + n ≤ K1) (hS:sumK ((l1 ++ a :: b :: l2).map Prod.fst) ≤ S1) (hN1:N1 < 1000000000) (hK1:K1 < 100000000) (hi:l1.length = i)
  (h9:Blk wr g9 TKd #[v9,.int .i64 (a.1.p:Int)]) (s9:¬ MT c mb vt m g9) (h10:Blk wr g10 TKd #[v10,.int .i64 (b.1.p:Int)]) (s10:¬ MT c mb vt m g10)
  (u11 u12 u13 u14 u15 u16 u17 u18 u19 u20 u21 u22 u23 u24 u25 u26 u27 u28 u29 u30 u31 u32 u33 u34 u35 u36 u37 u38 u39 u40 u41 u42 u43 u44 u45 u46 u47 u48 u49 u50 u51 u52 u53 u54 u55 u56 u57 u58 u59 u60 u61 u62 u63 u64 u65 u66 u67 u68 u69 u70 u71 u72 u73 u74 u75 u76 u77 u78 u79 u80 u81 u82 u83 u84 u85 u86 u87 u88 u89 u90 u91 u92 u93 u94 u95 u96 u97 u98 u99 u100 u101 u102 u103 u104 u105 u106 u107 u108 u109 u110 u111 u112 u113 u114 u115 u116 u117 u118 u119 u120 u121 u122 u123 u124 u125 u126 u127 u128 u129 u130 u131 u132 u133 u134 u135 u136 u137 u138 u139:Value) :
  Code.wp Try.prog (BJ 1) Q { tmps:=#[.pointer (some ⟨mb,0,none⟩),.slice A n cc,.map (some fb),v3,v4,v5,.slice none 0 0,.int .i64 0,.int .i64 (i:Int),.pointer (some ⟨g9,0,none⟩),.pointer (some ⟨g10,0,none⟩),u11,u12,u13,u14,u15,u16,u17,u18,u19,u20,u21,u22,u23,u24,u25,u26,u27,u28,u29,u30,u31,u32,u33,u34,u35,u36,u37,u38,u39,u40,u41,u42,u43,u44,u45,u46,u47,u48,u49,u50,u51,u52,u53,u54,u55,u56,u57,u58,u59,u60,u61,u62,u63,u64,u65,u66,u67,u68,u69,u70,u71,u72,u73,u74,u75,u76,u77,u78,u79,u80,u81,u82,u83,u84,u85,u86,u87,u88,u89,u90,u91,u92,u93,u94,u95,u96,u97,u98,u99,u100,u101,u102,u103,u104,u105,u106,u107,u108,u109,u110,u111,u112,u113,u114,u115,u116,u117,u118,u119,u120,u121,u122,u123,u124,u125,u126,u127,u128,u129,u130,u131,u132,u133,u134,u135,u136,u137,u138,u139,v140],defers:=[] } wr:=by
 obtain ⟨x,hx⟩:=hmp.look a.1.p (hJ.kid a (by simp)).ok.2.2.2
 obtain ⟨y,hy⟩:=hmp.look b.1.p (hJ.kid b (by simp)).ok.2.2.2
 have HQ:=hide hQ
 have HE:=hide hE
 have HM:=hide hM
 have HL:=hide hl
 have HS:=hide hs
 have HMP:=hide hmp
 have HJ:=hide hJ
 have HIS:=hide his
 have HSU:=hide hS
 have H9:=hide h9
 have H10:=hide h10
 have S9:=hide s9
 have S10:=hide s10
 have HI:=hide hi
 have k9:wr.cell? ⟨g9,1,none⟩ = some (.int .i64 (a.1.p:Int)):=by have:=h9.cell 1; simpa using this
 have k10:wr.cell? ⟨g10,1,none⟩ = some (.int .i64 (b.1.p:Int)):=by have:=h10.cell 1; simpa using this
 have z9:=h9.lt
 have z10:=h10.lt
 have him:(i:Int) + 1 ≤ 9223372036854775807:=by rw [List.length_append,List.length_cons] at hl; omega
 clear hQ hE hM hl hs hmp hJ his hS h9 s9 h10 s10 hi
 rw [show BJ 1 = Code.seq (CJ 1) (BJ 2) from rfl]
 conv=>arg 2; arg 1; whnf
 cases x with
 | true=>
  go_wp2_with fail
  exact join_reads HQ.out HE.out HM.out HL.out HS.out HMP.out HJ.out HIS.out hn hk HSU.out hN1 hK1 HI.out H9.out S9.out H10.out S10.out _ _ _ _ _ _ _ _ _ _ _ _ _ _ _ _ _ _ _ _ _ _ _ _ _ _ _ _ _ _ _ _ _ _ _ _ _ _ _ _ _ _ _ _ _ _ _ _ _ _ _ _ _ _ _ _ _ _ _ _ _ _ _ _ _ _ _ _ _ _ _ _ _ _ _ _ _ _ _ _ _ _ _ _ _ _ _ _ _ _ _ _ _ _ _ _ _ _ _ _ _ _ _ _ _ _ _ _ _ _ _ _ _ _ _ _ _ _ _ _ _ _ _ _ _ _ _ _ _
 | false=>
  cases y with
  | true=>
   go_wp2_with fail
   exact join_reads HQ.out HE.out HM.out HL.out HS.out HMP.out HJ.out HIS.out hn hk HSU.out hN1 hK1 HI.out H9.out S9.out H10.out S10.out _ _ _ _ _ _ _ _ _ _ _ _ _ _ _ _ _ _ _ _ _ _ _ _ _ _ _ _ _ _ _ _ _ _ _ _ _ _ _ _ _ _ _ _ _ _ _ _ _ _ _ _ _ _ _ _ _ _ _ _ _ _ _ _ _ _ _ _ _ _ _ _ _ _ _ _ _ _ _ _ _ _ _ _ _ _ _ _ _ _ _ _ _ _ _ _ _ _ _ _ _ _ _ _ _ _ _ _ _ _ _ _ _ _ _ _ _ _ _ _ _ _ _ _ _ _ _ _ _
  | false=>
   go_wp2_with fail
   exact HQ.out.2.1 _ _ _ _ _ _ _ _ _ _ _ _ _ _ _ _ _ _ _ _ _ _ _ _ _ _ _ _ _ _ _ _ _ _ _ _ _ _ _ _ _ _ _ _ _ _ _ _ _ _ _ _ _ _ _ _ _ _ _ _ _ _ _ _ _ _ _ _ _ _ _ _ _ _ _ _ _ _ _ _ _ _ _ _ _ _ _ _ _ _ _ _ _ _ _ _ _ _ _ _ _ _ _ _ _ _ _ _ _ _ _ _ _ _ _ _ _ _ _ _ _ _ _ _ _ _ _ _ _ _ _ wr ⟨T,vt,m,_,cnt,HM.out,HL.out,HS.out,HMP.out,HJ.out,HIS.out,hn,hk,HSU.out⟩
theorem split_two {α:Type}:∀ (l:List α) (i:Nat),i + 1 < l.length → ∃ l1 a b l2,l = l1 ++ a :: b :: l2 ∧ l1.length = i
 | a :: b :: l,0,_=>⟨[],a,b,l,rfl,rfl⟩
 | x :: l,i + 1,h=>by
  obtain ⟨l1,a,b,l2,e,hl⟩:=split_two l i (by simp at h; omega)
  exact ⟨x :: l1,a,b,l2,by rw [e]; rfl,by simp [hl]⟩
 | [_],0,h=>absurd h (by simp)
 | [],_,h=>absurd h (by simp)
end
end Go.Proofs.Ytkolacaceaamoaa
/- The maker's join: its round. -/
namespace Go.Proofs.Ytkolacaceaamoaa
open Go.RowKit
/-- Two boxed kids, made and stored in whatever order. -/
def KZ:Array Value:=#[.slice none 0 0,.int .i64 0]
def PrA (sz:Nat) (K:Array Value) (f1 f2 done:List Nat) (st:Nat) (v:Value) (w:World):Prop:=
 ∃ g,v = .pointer (some ⟨g,0,none⟩) ∧ sz ≤ g ∧ (st ∈ f1 → g = sz) ∧ (st ∈ f2 → g = sz + 1) ∧ Blk w g TKd (if st ∈ done then K else KZ)
def Pr9 (sz:Nat) (K:Array Value):Nat → Value → World → Prop:=PrA sz K [1,5] [6] [2,7,9]
def Pr10 (sz:Nat) (K:Array Value):Nat → Value → World → Prop:=PrA sz K [3,6] [5] [4,8,9]
def GrS (wr:World) (s:Nat) (w:World):Prop:=Below wr.heap.size wr w ∧ w.heap.size = wr.heap.size + (if s = 0 then 0 else if s ≤ 4 then 1 else 2)
def set2 (w:World) (g:Nat) (v1 v2:Value):World:=(w.setCell ⟨g,0,none⟩ v1).setCell ⟨g,1,none⟩ v2
def TrS (sz:Nat) (a1 a2 b1 b2:Value) (s s':Nat) (a:Act) (w w':World):Prop:=
 (w' = w.alloc (.cells KZ TKd) ∧ ((s,s') ∈ [(0,1),(3,6),(4,8)] ∨ (s,s') ∈ [(0,3),(1,5),(2,7)])) ∨
 ((s,s') ∈ [(1,2),(5,7),(6,7),(8,9)] ∧ ∃ g,a.eval (.tmp 9) = .pointer (some ⟨g,0,none⟩) ∧ Pr9 sz #[a1,a2] s (.pointer (some ⟨g,0,none⟩)) w ∧ w' = set2 w g a1 a2) ∨
 ((s,s') ∈ [(3,4),(5,8),(6,8),(7,9)] ∧ ∃ g,a.eval (.tmp 10) = .pointer (some ⟨g,0,none⟩) ∧ Pr10 sz #[b1,b2] s (.pointer (some ⟨g,0,none⟩)) w ∧ w' = set2 w g b1 b2)
theorem blk_set2 {w:World} {g:Nat} {k1 k2 v1 v2:Value} (h:Blk w g TKd #[k1,k2]):Blk (set2 w g v1 v2) g TKd #[v1,v2]:=by
 have:=(h.set_ 0 v1).set_ 1 v2
 unfold set2
 simpa using this
theorem blk_far2 {w:World} {g g':Nat} {K:Array Value} {v1 v2:Value} (h:Blk w g TKd K) (hn:g ≠ g'):Blk (set2 w g' v1 v2) g TKd K:=(h.far (p:=⟨g',0,none⟩) hn v1).far (p:=⟨g',1,none⟩) hn v2
theorem blk_same {w:World} {g:Nat} {t:TypeId} {K K':Array Value} (h:Blk w g t K) (h':Blk w g t K'):K = K':=by
 have e:=h.symm.trans h'
 injection e with e
 injection e
theorem kz_ne {a1:Value} {p:Nat} (hp:1 ≤ p):(#[a1,.int .i64 (p:Int)]:Array Value) ≠ KZ:=fun e=>by
 have h:=congrArg (fun x:Array Value=>x.toList) e
 simp [KZ] at h
 omega
theorem Pr9.keep {sz:Nat} {a1 b1:Value} {pa pb:Nat} (hpa:1 ≤ pa) (hpb:1 ≤ pb) {s s':Nat} {a:Act} {v:Value} {w w':World} (hv:v = a.eval (.tmp 9)) (hs:s ∈ [1,2,5,6,7,8,9]) (ht:TrS sz a1 (.int .i64 (pa:Int)) b1 (.int .i64 (pb:Int)) s s' a w w') (h:Pr9 sz #[a1,.int .i64 (pa:Int)] s v w):Pr9 sz #[a1,.int .i64 (pa:Int)] s' v w':=by
 obtain ⟨g,e,h1,h2,h3,hb⟩:=h
 rcases ht with ⟨rfl,hm⟩ | ⟨hm,g',e',⟨g2,e2,i1,i2,i3,ib⟩,rfl⟩ | ⟨hm,g',e',⟨g2,e2,i1,i2,i3,ib⟩,rfl⟩
 ·have hm2:(s,s') ∈ [(1,5),(2,7)]:=by
   simp only [List.mem_cons,Prod.mk.injEq,List.not_mem_nil,or_false] at hm hs ⊢
   omega
  simp only [List.mem_cons,Prod.mk.injEq,List.not_mem_nil,or_false] at hm2
  rcases hm2 with ⟨rfl,rfl⟩ | ⟨rfl,rfl⟩
  ·exact ⟨g,e,h1,fun _=>h2 (by simp),fun q=>by simp at q,by simpa using hb.alloc _⟩
  ·exact ⟨g,e,h1,fun q=>by simp at q,fun q=>by simp at q,by simpa using hb.alloc _⟩
 ·have:g = g':=by rw [e] at hv; have:=hv.trans e'; simpa using this
  subst this
  have hz:Blk w g TKd KZ:=by
   simp only [List.mem_cons,Prod.mk.injEq,List.not_mem_nil,or_false] at hm
   rcases hm with ⟨rfl,rfl⟩ | ⟨rfl,rfl⟩ | ⟨rfl,rfl⟩ | ⟨rfl,rfl⟩ <;> simpa using hb
  have hn:=blk_set2 (v1:=a1) (v2:=.int .i64 (pa:Int)) hz
  simp only [List.mem_cons,Prod.mk.injEq,List.not_mem_nil,or_false] at hm
  rcases hm with ⟨rfl,rfl⟩ | ⟨rfl,rfl⟩ | ⟨rfl,rfl⟩ | ⟨rfl,rfl⟩ <;> exact ⟨g,e,h1,fun q=>by simp at q,fun q=>by simp at q,by simpa using hn⟩
 ·have e3:g' = g2:=by simpa using e2
  subst e3
  simp only [List.mem_cons,Prod.mk.injEq,List.not_mem_nil,or_false] at hm hs
  rcases hm with ⟨rfl,rfl⟩ | ⟨rfl,rfl⟩ | ⟨rfl,rfl⟩ | ⟨rfl,rfl⟩
  ·omega
  ·have q1:=h2 (by simp)
   have q2:=i3 (by simp)
   exact ⟨g,e,h1,fun q=>by simp at q,fun q=>by simp at q,by simpa using blk_far2 hb (by omega)⟩
  ·have q1:=h3 (by simp)
   have q2:=i2 (by simp)
   exact ⟨g,e,h1,fun q=>by simp at q,fun q=>by simp at q,by simpa using blk_far2 hb (by omega)⟩
  ·have hne:g ≠ g':=fun q=>by
    subst q
    have hb':Blk w g TKd #[a1,.int .i64 (pa:Int)]:=by simpa using hb
    have ib':Blk w g TKd KZ:=by simpa using ib
    exact kz_ne hpa (blk_same hb' ib')
   exact ⟨g,e,h1,fun q=>by simp at q,fun q=>by simp at q,by simpa using blk_far2 hb hne⟩
theorem Pr10.keep {sz:Nat} {a1 b1:Value} {pa pb:Nat} (hpa:1 ≤ pa) (hpb:1 ≤ pb) {s s':Nat} {a:Act} {v:Value} {w w':World} (hv:v = a.eval (.tmp 10)) (hs:s ∈ [3,4,5,6,7,8,9]) (ht:TrS sz a1 (.int .i64 (pa:Int)) b1 (.int .i64 (pb:Int)) s s' a w w') (h:Pr10 sz #[b1,.int .i64 (pb:Int)] s v w):Pr10 sz #[b1,.int .i64 (pb:Int)] s' v w':=by
 obtain ⟨g,e,h1,h2,h3,hb⟩:=h
 rcases ht with ⟨rfl,hm⟩ | ⟨hm,g',e',⟨g2,e2,i1,i2,i3,ib⟩,rfl⟩ | ⟨hm,g',e',⟨g2,e2,i1,i2,i3,ib⟩,rfl⟩
 ·have hm2:(s,s') ∈ [(3,6),(4,8)]:=by
   simp only [List.mem_cons,Prod.mk.injEq,List.not_mem_nil,or_false] at hm hs ⊢
   omega
  simp only [List.mem_cons,Prod.mk.injEq,List.not_mem_nil,or_false] at hm2
  rcases hm2 with ⟨rfl,rfl⟩ | ⟨rfl,rfl⟩
  ·exact ⟨g,e,h1,fun _=>h2 (by simp),fun q=>by simp at q,by simpa using hb.alloc _⟩
  ·exact ⟨g,e,h1,fun q=>by simp at q,fun q=>by simp at q,by simpa using hb.alloc _⟩
 ·have e3:g' = g2:=by simpa using e2
  subst e3
  simp only [List.mem_cons,Prod.mk.injEq,List.not_mem_nil,or_false] at hm hs
  rcases hm with ⟨rfl,rfl⟩ | ⟨rfl,rfl⟩ | ⟨rfl,rfl⟩ | ⟨rfl,rfl⟩
  ·omega
  ·have q1:=h3 (by simp)
   have q2:=i2 (by simp)
   exact ⟨g,e,h1,fun q=>by simp at q,fun q=>by simp at q,by simpa using blk_far2 hb (by omega)⟩
  ·have q1:=h2 (by simp)
   have q2:=i3 (by simp)
   exact ⟨g,e,h1,fun q=>by simp at q,fun q=>by simp at q,by simpa using blk_far2 hb (by omega)⟩
  ·have hne:g ≠ g':=fun q=>by
    subst q
    have hb':Blk w g TKd #[b1,.int .i64 (pb:Int)]:=by simpa using hb
    have ib':Blk w g TKd KZ:=by simpa using ib
    exact kz_ne hpb (blk_same hb' ib')
   exact ⟨g,e,h1,fun q=>by simp at q,fun q=>by simp at q,by simpa using blk_far2 hb hne⟩
 ·have:g = g':=by rw [e] at hv; have:=hv.trans e'; simpa using this
  subst this
  have hz:Blk w g TKd KZ:=by
   simp only [List.mem_cons,Prod.mk.injEq,List.not_mem_nil,or_false] at hm
   rcases hm with ⟨rfl,rfl⟩ | ⟨rfl,rfl⟩ | ⟨rfl,rfl⟩ | ⟨rfl,rfl⟩ <;> simpa using hb
  have hn:=blk_set2 (v1:=b1) (v2:=.int .i64 (pb:Int)) hz
  simp only [List.mem_cons,Prod.mk.injEq,List.not_mem_nil,or_false] at hm
  rcases hm with ⟨rfl,rfl⟩ | ⟨rfl,rfl⟩ | ⟨rfl,rfl⟩ | ⟨rfl,rfl⟩ <;> exact ⟨g,e,h1,fun q=>by simp at q,fun q=>by simp at q,by simpa using hn⟩
theorem GrS.al {wr w:World} {s s':Nat} (h:GrS wr s w) (hs:(s,s') ∈ [(0,1),(3,6),(4,8)] ∨ (s,s') ∈ [(0,3),(1,5),(2,7)]):GrS wr s' (w.alloc (.cells KZ TKd)):=by
 obtain ⟨h1,h2⟩:=h
 refine ⟨bal h1 _,?_⟩
 rw [heap_al,h2]
 simp only [List.mem_cons,Prod.mk.injEq,List.not_mem_nil,or_false] at hs
 rcases hs with (⟨rfl,rfl⟩ | ⟨rfl,rfl⟩ | ⟨rfl,rfl⟩) | (⟨rfl,rfl⟩ | ⟨rfl,rfl⟩ | ⟨rfl,rfl⟩) <;> simp
theorem GrS.set_ {wr w:World} {s s' g:Nat} {v1 v2:Value} (h:GrS wr s w) (hg:wr.heap.size ≤ g) (hs:(s,s') ∈ [(1,2),(5,7),(6,7),(8,9)] ∨ (s,s') ∈ [(3,4),(5,8),(6,8),(7,9)]):GrS wr s' (set2 w g v1 v2):=by
 obtain ⟨h1,h2⟩:=h
 refine ⟨(h1.setCell (p:=⟨g,0,none⟩) hg v1).setCell (p:=⟨g,1,none⟩) hg v2,?_⟩
 have:(set2 w g v1 v2).heap.size = w.heap.size:=by unfold set2; simp
 rw [this,h2]
 simp only [List.mem_cons,Prod.mk.injEq,List.not_mem_nil,or_false] at hs
 rcases hs with (⟨rfl,rfl⟩ | ⟨rfl,rfl⟩ | ⟨rfl,rfl⟩ | ⟨rfl,rfl⟩) | (⟨rfl,rfl⟩ | ⟨rfl,rfl⟩ | ⟨rfl,rfl⟩ | ⟨rfl,rfl⟩) <;> simp
theorem PrA.al {sz:Nat} {K:Array Value} {f1 f2 done:List Nat} {s':Nat} {w:World} (h:sz ≤ w.heap.size) (h1:s' ∈ f1 → w.heap.size = sz) (h2:s' ∈ f2 → w.heap.size = sz + 1) (hd:s' ∉ done):PrA sz K f1 f2 done s' (.pointer (some ⟨w.heap.size,0,none⟩)) (w.alloc (.cells KZ TKd)):=
 ⟨w.heap.size,rfl,h,h1,h2,by rw [if_neg hd]; exact Blk.new _ _ _⟩
section
variable {Q:Exit → Act → World → Prop} {v3 v4 v5 v140:Value} {w:World} {c:Pct} {B mb tb fb:Nat} {took:List Nat} {vt0:Value} {m0:Pst} {U V:Nat → Prop} {h:Nat} {is:List It} {N1 K1 S1:Nat}
set_option maxRecDepth 100000 in
set_option maxHeartbeats 4000000 in
theorem join_round {wr:World} {A:Option Addr} {n cc i:Nat} (hQ:JNx Q v3 v4 v5 v140 w c B mb tb fb took vt0 m0 U V h is N1 K1 S1 A n cc i) (hE:JE c took m0 U) (hJS:JSt w c B mb tb fb took vt0 m0 U V h is N1 K1 S1 wr A n cc) (hi:i + 1 < n) (hN1:N1 < 1000000000) (hK1:K1 < 100000000)
  (u9 u10 u11 u12 u13 u14 u15 u16 u17 u18 u19 u20 u21 u22 u23 u24 u25 u26 u27 u28 u29 u30 u31 u32 u33 u34 u35 u36 u37 u38 u39 u40 u41 u42 u43 u44 u45 u46 u47 u48 u49 u50 u51 u52 u53 u54 u55 u56 u57 u58 u59 u60 u61 u62 u63 u64 u65 u66 u67 u68 u69 u70 u71 u72 u73 u74 u75 u76 u77 u78 u79 u80 u81 u82 u83 u84 u85 u86 u87 u88 u89 u90 u91 u92 u93 u94 u95 u96 u97 u98 u99 u100 u101 u102 u103 u104 u105 u106 u107 u108 u109 u110 u111 u112 u113 u114 u115 u116 u117 u118 u119 u120 u121 u122 u123 u124 u125 u126 u127 u128 u129 u130 u131 u132 u133 u134 u135 u136 u137 u138 u139:Value):Code.wp Try.prog (BJ 0) Q { tmps:=#[.pointer (some ⟨mb,0,none⟩),.slice A n cc,.map (some fb),v3,v4,v5,.slice none 0 0,.int .i64 0,.int .i64 (i:Int),u9,u10,u11,u12,u13,u14,u15,u16,u17,u18,u19,u20,u21,u22,u23,u24,u25,u26,u27,u28,u29,u30,u31,u32,u33,u34,u35,u36,u37,u38,u39,u40,u41,u42,u43,u44,u45,u46,u47,u48,u49,u50,u51,u52,u53,u54,u55,u56,u57,u58,u59,u60,u61,u62,u63,u64,u65,u66,u67,u68,u69,u70,u71,u72,u73,u74,u75,u76,u77,u78,u79,u80,u81,u82,u83,u84,u85,u86,u87,u88,u89,u90,u91,u92,u93,u94,u95,u96,u97,u98,u99,u100,u101,u102,u103,u104,u105,u106,u107,u108,u109,u110,u111,u112,u113,u114,u115,u116,u117,u118,u119,u120,u121,u122,u123,u124,u125,u126,u127,u128,u129,u130,u131,u132,u133,u134,u135,u136,u137,u138,u139,v140],defers:=[] } wr:=by
 obtain ⟨T,vt,m,l,cnt,hM,hl,hs,hmp,hJ,his,hn,hk,hS⟩:=hJS
 obtain ⟨l1,a,b,l2,rfl,hl1⟩:=split_two l i (by omega)
 have hji:i < ((l1 ++ a :: b :: l2).map Prod.fst).length:=by rw [List.length_map,hl]; omega
 have hjj:i + 1 < ((l1 ++ a :: b :: l2).map Prod.fst).length:=by rw [List.length_map,hl]; omega
 obtain ⟨b0,o0,A0,c0,rfl,zb,fb0,ka0,ka1,-⟩:=hs.at_kd hji
 obtain ⟨b1,o1,A1,c1,e1,-,-,kb0,kb1,-⟩:=hs.at_kd hjj
 injection e1 with e1
 injection e1 with e1 e2
 subst e1 e2
 have ea:((l1 ++ a :: b :: l2).map Prod.fst)[i]'hji = a.1:=by
  rw [List.getElem_map]
  congr 1
  rw [List.getElem_append_right (by omega)]
  simp [hl1]
 have eb:((l1 ++ a :: b :: l2).map Prod.fst)[i + 1]'hjj = b.1:=by
  rw [List.getElem_map]
  congr 1
  rw [List.getElem_append_right (by omega)]
  simp [hl1]
 rw [ea] at ka0 ka1
 rw [eb] at kb0 kb1
 clear ea eb
 obtain ⟨la,hla⟩:∃ x,a.1.k.length = x:=⟨_,rfl⟩
 obtain ⟨lb,hlb⟩:∃ x,b.1.k.length = x:=⟨_,rfl⟩
 rw [hla] at ka0
 rw [hlb] at kb0
 obtain ⟨ncc,ncm,-⟩:=hs.caps
 have HQ:=hide hQ
 have HE:=hide hE
 have HM:=hide hM
 have HL:=hide hl
 have HS:=hide hs
 have HMP:=hide hmp
 have HJ:=hide hJ
 have HIS:=hide his
 have HSU:=hide hS
 have HI:=hide hl1
 have hn9:n ≤ 1000000000:=by omega
 clear hji hjj hl hl1
 have hin:i < n:=by omega
 have hwi:IntKind.i64.wrap ((i:Int) + 1) = ((i + 1:Nat):Int):=by rw [IntKind.wrap_i64]; omega
 clear hQ hE hM hs hmp hJ his hS hla hlb
 rw [show BJ 0 = Code.seq (CJ 0) (BJ 1) from rfl]
 conv=>arg 2; arg 1; whnf
 have hb1:(0:Int) ≤ (i:Int) + 1 ∧ (i:Int) + 1 < (n:Int):=by omega
 obtain ⟨pa,hpa⟩:∃ x,a.1.p = x:=⟨_,rfl⟩
 obtain ⟨pb,hpb⟩:∃ x,b.1.p = x:=⟨_,rfl⟩
 have HP1:=hide (show 1 ≤ pa ∧ 1 ≤ pb from ⟨by have:=(HJ.out.kid a (by simp)).ok.2.2.1; omega,by have:=(HJ.out.kid b (by simp)).ok.2.2.1; omega⟩)
 rw [hpa] at ka1
 rw [hpb] at kb1
 have HPA:=hide hpa
 have HPB:=hide hpb
 clear hpa hpb
 go_upto_region 3 with fail
 refine wp_region_dag (by kernel_rfl) (by kernel_rfl) 141 9
  [⟨some 21,[0,1,2,3,4,5,6,7,8,9],[],[],[],[],fun _ _ v _=>v = .slice (some ⟨b0,o0,none⟩) n cc⟩,
   ⟨some 22,[0,1,2,3,4,5,6,7,8,9],[],[],[],[],fun _ _ v _=>v = .int .i64 (i:Int)⟩,
   ⟨some 23,[0,1,2,3,4,5,6,7,8,9],[],[],[0,1],[],fun _ _ v _=>v = .pointer (some ⟨b0,o0 + i * 2,none⟩)⟩,
   ⟨some 24,[0,1,2,3,4,5,6,7,8,9],[],[],[2],[],fun _ _ v _=>v = .agg #[.slice A0 la c0,.int .i64 (pa:Int)]⟩,
   ⟨some 25,[0,1,2,3,4,5,6,7,8,9],[],[],[],[],fun _ _ v _=>v = .slice (some ⟨b0,o0,none⟩) n cc⟩,
   ⟨some 26,[0,1,2,3,4,5,6,7,8,9],[],[],[],[],fun _ _ v _=>v = .int .i64 (i:Int)⟩,
   ⟨some 27,[0,1,2,3,4,5,6,7,8,9],[],[],[5],[],fun _ _ v _=>v = .int .i64 ((i:Int) + 1)⟩,
   ⟨some 28,[0,1,2,3,4,5,6,7,8,9],[],[],[4,6],[],fun _ _ v _=>v = .pointer (some ⟨b0,o0 + (i + 1) * 2,none⟩)⟩,
   ⟨some 29,[0,1,2,3,4,5,6,7,8,9],[],[],[7],[],fun _ _ v _=>v = .agg #[.slice A1 lb c1,.int .i64 (pb:Int)]⟩,
   ⟨some 9,[0,3,4],[(0,1),(3,6),(4,8)],[1,2,5,6,7,8,9],[],[],fun st _ v w'=>Pr9 wr.heap.size #[.slice A0 la c0,.int .i64 (pa:Int)] st v w'⟩,
   ⟨some 10,[0,1,2],[(0,3),(1,5),(2,7)],[3,4,5,6,7,8,9],[],[],fun st _ v w'=>Pr10 wr.heap.size #[.slice A1 lb c1,.int .i64 (pb:Int)] st v w'⟩,
   ⟨none,[1,5,6,8],[(1,2),(5,7),(6,7),(8,9)],[2,7,9],[3,9],[],fun _ _ _ _=>True⟩,
   ⟨none,[3,5,6,7],[(3,4),(5,8),(6,8),(7,9)],[4,8,9],[8,10],[],fun _ _ _ _=>True⟩] (GrS wr) (TrS wr.heap.size (.slice A0 la c0) (.int .i64 (pa:Int)) (.slice A1 lb c1) (.int .i64 (pb:Int))) (fun _ w w'=>w' = w) ?gu ?ru ?put [21,22,23,24,25,26,27,28,29,9,10] rfl (by kernel_rfl) rfl ?g0 ?keep ?steps ?fin
 case ru=>
  intro e he s a v w w' hu hv
  simp only [List.mem_cons,List.not_mem_nil,or_false] at he
  rcases he with rfl | rfl | rfl | rfl | rfl | rfl | rfl | rfl | rfl | rfl | rfl | rfl | rfl
  all_goals first | exact hv | (rw [hu]; exact hv)
 case put=>
  intro e he s a d u v w hnd hv
  simp only [List.mem_cons,List.not_mem_nil,or_false] at he
  rcases he with rfl | rfl | rfl | rfl | rfl | rfl | rfl | rfl | rfl | rfl | rfl | rfl | rfl
  all_goals first | exact hv
 case keep=>
  intro e he s s' a v w w' hsl hm ht hv
  simp only [List.mem_cons,List.not_mem_nil,or_false] at he
  rcases he with rfl | rfl | rfl | rfl | rfl | rfl | rfl | rfl | rfl | rfl | rfl | rfl | rfl
  all_goals first | exact hv | (exact Pr9.keep HP1.out.1 HP1.out.2 (hsl _ rfl) (hm rfl) ht hv) | (exact Pr10.keep HP1.out.1 HP1.out.2 (hsl _ rfl) (hm rfl) ht hv)
 case steps=>
  refine ⟨?_,?_,?_,?_,?_,?_,?_,?_,?_,?_,?_,?_,?_,trivial⟩
  ·intro st hst ac w3 hg hG hd K hK
   dsimp only at hst hG hK
   exact op_move _ rfl (hK _ _ rfl (hg.kp 1 (by simp)))
  ·intro st hst ac w3 hg hG hd K hK
   dsimp only at hst hG hK
   exact op_move _ rfl (hK _ _ rfl (hg.kp 8 (by simp)))
  ·intro st hst ac w3 hg hG hd K hK
   dsimp only at hst hG hK
   have f0:=hd 0 (by simp) _ rfl _ rfl
   have f1:=hd 1 (by simp) _ rfl _ rfl
   (try simp [Act.eval] at f0)
   (try simp [Act.eval] at f1)
   go_simp
   exact hK _ _ rfl rfl
  ·intro st hst ac w3 hg hG hd K hK
   dsimp only at hst hG hK
   have q0:=(hG.1.cell (p:=⟨b0,o0 + i * 2,none⟩) zb).trans ka0
   have q1:=(hG.1.cell (p:=⟨b0,o0 + i * 2 + 1,none⟩) zb).trans ka1
   have zz:=Nat.lt_of_lt_of_le zb hG.1.size
   clear hG
   have f2:=hd 2 (by simp) _ rfl _ rfl
   (try simp [Act.eval] at f2)
   go_simp
   exact hK _ _ rfl rfl
  ·intro st hst ac w3 hg hG hd K hK
   dsimp only at hst hG hK
   exact op_move _ rfl (hK _ _ rfl (hg.kp 1 (by simp)))
  ·intro st hst ac w3 hg hG hd K hK
   dsimp only at hst hG hK
   exact op_move _ rfl (hK _ _ rfl (hg.kp 8 (by simp)))
  ·intro st hst ac w3 hg hG hd K hK
   dsimp only at hst hG hK
   have f5:=hd 5 (by simp) _ rfl _ rfl
   (try simp [Act.eval] at f5)
   go_simp
   exact hK _ _ rfl rfl
  ·intro st hst ac w3 hg hG hd K hK
   dsimp only at hst hG hK
   have f4:=hd 4 (by simp) _ rfl _ rfl
   have f6:=hd 6 (by simp) _ rfl _ rfl
   (try simp [Act.eval] at f4)
   (try simp [Act.eval] at f6)
   go_simp
   exact hK _ _ rfl rfl
  ·intro st hst ac w3 hg hG hd K hK
   dsimp only at hst hG hK
   have q0:=(hG.1.cell (p:=⟨b0,o0 + (i + 1) * 2,none⟩) zb).trans kb0
   have q1:=(hG.1.cell (p:=⟨b0,o0 + (i + 1) * 2 + 1,none⟩) zb).trans kb1
   have zz:=Nat.lt_of_lt_of_le zb hG.1.size
   clear hG
   have f7:=hd 7 (by simp) _ rfl _ rfl
   (try simp [Act.eval] at f7)
   go_simp
   exact hK _ _ rfl rfl
  ·intro st st' hmv ac w3 hg hG hd K hK
   simp only [List.mem_cons,Prod.mk.injEq,List.not_mem_nil,or_false] at hmv
   rcases hmv with ⟨rfl,rfl⟩ | ⟨rfl,rfl⟩ | ⟨rfl,rfl⟩
   ·dsimp only at hG hK
    go_simp
    exact hK _ _ (.inl ⟨rfl,.inl (by simp)⟩) (hG.al (.inl (by simp))) (PrA.al hG.1.size (fun q=>by have:=hG.2; simp at q this; try omega) (fun q=>by have:=hG.2; simp at q this; try omega) (by simp))
   ·dsimp only at hG hK
    go_simp
    exact hK _ _ (.inl ⟨rfl,.inl (by simp)⟩) (hG.al (.inl (by simp))) (PrA.al hG.1.size (fun q=>by have:=hG.2; simp at q this; try omega) (fun q=>by have:=hG.2; simp at q this; try omega) (by simp))
   ·dsimp only at hG hK
    go_simp
    exact hK _ _ (.inl ⟨rfl,.inl (by simp)⟩) (hG.al (.inl (by simp))) (PrA.al hG.1.size (fun q=>by have:=hG.2; simp at q this; try omega) (fun q=>by have:=hG.2; simp at q this; try omega) (by simp))
  ·intro st st' hmv ac w3 hg hG hd K hK
   simp only [List.mem_cons,Prod.mk.injEq,List.not_mem_nil,or_false] at hmv
   rcases hmv with ⟨rfl,rfl⟩ | ⟨rfl,rfl⟩ | ⟨rfl,rfl⟩
   ·dsimp only at hG hK
    go_simp
    exact hK _ _ (.inl ⟨rfl,.inr (by simp)⟩) (hG.al (.inr (by simp))) (PrA.al hG.1.size (fun q=>by have:=hG.2; simp at q this; try omega) (fun q=>by have:=hG.2; simp at q this; try omega) (by simp))
   ·dsimp only at hG hK
    go_simp
    exact hK _ _ (.inl ⟨rfl,.inr (by simp)⟩) (hG.al (.inr (by simp))) (PrA.al hG.1.size (fun q=>by have:=hG.2; simp at q this; try omega) (fun q=>by have:=hG.2; simp at q this; try omega) (by simp))
   ·dsimp only at hG hK
    go_simp
    exact hK _ _ (.inl ⟨rfl,.inr (by simp)⟩) (hG.al (.inr (by simp))) (PrA.al hG.1.size (fun q=>by have:=hG.2; simp at q this; try omega) (fun q=>by have:=hG.2; simp at q this; try omega) (by simp))
  ·intro st st' hmv ac w3 hg hG hd K hK
   simp only [List.mem_cons,Prod.mk.injEq,List.not_mem_nil,or_false] at hmv
   rcases hmv with ⟨rfl,rfl⟩ | ⟨rfl,rfl⟩ | ⟨rfl,rfl⟩ | ⟨rfl,rfl⟩
   ·dsimp only at hG hK
    have f3:=hd 3 (by simp) _ rfl _ rfl
    have f9:=hd 9 (by simp) _ rfl _ rfl
    (obtain ⟨g,e9,h1,h2,h3,hb⟩:=f9)
    have HPR:=hide ((⟨g,rfl,h1,h2,h3,hb⟩:Pr9 _ _ _ (.pointer (some ⟨g,0,none⟩)) w3))
    have hb:Blk w3 g TKd #[.slice none 0 0,.int .i64 0]:=(show Blk w3 g TKd KZ from (by simpa using hb))
    have kk:=hb.cell
    have ff:=hb.frozen
    have zz:=hb.lt
    have E9:=hide e9
    have HG:=hide hG
    clear hG hb h2 h3
    simp [Act.eval] at f3 e9
    go_simp
    exact hK undef _ (.inr (.inl ⟨by simp,g,E9.out,HPR.out,rfl⟩)) (HG.out.set_ h1 (.inl (by simp))) trivial
   ·dsimp only at hG hK
    have f3:=hd 3 (by simp) _ rfl _ rfl
    have f9:=hd 9 (by simp) _ rfl _ rfl
    (obtain ⟨g,e9,h1,h2,h3,hb⟩:=f9)
    have HPR:=hide ((⟨g,rfl,h1,h2,h3,hb⟩:Pr9 _ _ _ (.pointer (some ⟨g,0,none⟩)) w3))
    have hb:Blk w3 g TKd #[.slice none 0 0,.int .i64 0]:=(show Blk w3 g TKd KZ from (by simpa using hb))
    have kk:=hb.cell
    have ff:=hb.frozen
    have zz:=hb.lt
    have E9:=hide e9
    have HG:=hide hG
    clear hG hb h2 h3
    simp [Act.eval] at f3 e9
    go_simp
    exact hK undef _ (.inr (.inl ⟨by simp,g,E9.out,HPR.out,rfl⟩)) (HG.out.set_ h1 (.inl (by simp))) trivial
   ·dsimp only at hG hK
    have f3:=hd 3 (by simp) _ rfl _ rfl
    have f9:=hd 9 (by simp) _ rfl _ rfl
    (obtain ⟨g,e9,h1,h2,h3,hb⟩:=f9)
    have HPR:=hide ((⟨g,rfl,h1,h2,h3,hb⟩:Pr9 _ _ _ (.pointer (some ⟨g,0,none⟩)) w3))
    have hb:Blk w3 g TKd #[.slice none 0 0,.int .i64 0]:=(show Blk w3 g TKd KZ from (by simpa using hb))
    have kk:=hb.cell
    have ff:=hb.frozen
    have zz:=hb.lt
    have E9:=hide e9
    have HG:=hide hG
    clear hG hb h2 h3
    simp [Act.eval] at f3 e9
    go_simp
    exact hK undef _ (.inr (.inl ⟨by simp,g,E9.out,HPR.out,rfl⟩)) (HG.out.set_ h1 (.inl (by simp))) trivial
   ·dsimp only at hG hK
    have f3:=hd 3 (by simp) _ rfl _ rfl
    have f9:=hd 9 (by simp) _ rfl _ rfl
    (obtain ⟨g,e9,h1,h2,h3,hb⟩:=f9)
    have HPR:=hide ((⟨g,rfl,h1,h2,h3,hb⟩:Pr9 _ _ _ (.pointer (some ⟨g,0,none⟩)) w3))
    have hb:Blk w3 g TKd #[.slice none 0 0,.int .i64 0]:=(show Blk w3 g TKd KZ from (by simpa using hb))
    have kk:=hb.cell
    have ff:=hb.frozen
    have zz:=hb.lt
    have E9:=hide e9
    have HG:=hide hG
    clear hG hb h2 h3
    simp [Act.eval] at f3 e9
    go_simp
    exact hK undef _ (.inr (.inl ⟨by simp,g,E9.out,HPR.out,rfl⟩)) (HG.out.set_ h1 (.inl (by simp))) trivial
  ·intro st st' hmv ac w3 hg hG hd K hK
   simp only [List.mem_cons,Prod.mk.injEq,List.not_mem_nil,or_false] at hmv
   rcases hmv with ⟨rfl,rfl⟩ | ⟨rfl,rfl⟩ | ⟨rfl,rfl⟩ | ⟨rfl,rfl⟩
   ·dsimp only at hG hK
    have f3:=hd 8 (by simp) _ rfl _ rfl
    have f9:=hd 10 (by simp) _ rfl _ rfl
    (obtain ⟨g,e9,h1,h2,h3,hb⟩:=f9)
    have HPR:=hide ((⟨g,rfl,h1,h2,h3,hb⟩:Pr10 _ _ _ (.pointer (some ⟨g,0,none⟩)) w3))
    have hb:Blk w3 g TKd #[.slice none 0 0,.int .i64 0]:=(show Blk w3 g TKd KZ from (by simpa using hb))
    have kk:=hb.cell
    have ff:=hb.frozen
    have zz:=hb.lt
    have E9:=hide e9
    have HG:=hide hG
    clear hG hb h2 h3
    simp [Act.eval] at f3 e9
    go_simp
    exact hK undef _ (.inr (.inr ⟨by simp,g,E9.out,HPR.out,rfl⟩)) (HG.out.set_ h1 (.inr (by simp))) trivial
   ·dsimp only at hG hK
    have f3:=hd 8 (by simp) _ rfl _ rfl
    have f9:=hd 10 (by simp) _ rfl _ rfl
    (obtain ⟨g,e9,h1,h2,h3,hb⟩:=f9)
    have HPR:=hide ((⟨g,rfl,h1,h2,h3,hb⟩:Pr10 _ _ _ (.pointer (some ⟨g,0,none⟩)) w3))
    have hb:Blk w3 g TKd #[.slice none 0 0,.int .i64 0]:=(show Blk w3 g TKd KZ from (by simpa using hb))
    have kk:=hb.cell
    have ff:=hb.frozen
    have zz:=hb.lt
    have E9:=hide e9
    have HG:=hide hG
    clear hG hb h2 h3
    simp [Act.eval] at f3 e9
    go_simp
    exact hK undef _ (.inr (.inr ⟨by simp,g,E9.out,HPR.out,rfl⟩)) (HG.out.set_ h1 (.inr (by simp))) trivial
   ·dsimp only at hG hK
    have f3:=hd 8 (by simp) _ rfl _ rfl
    have f9:=hd 10 (by simp) _ rfl _ rfl
    (obtain ⟨g,e9,h1,h2,h3,hb⟩:=f9)
    have HPR:=hide ((⟨g,rfl,h1,h2,h3,hb⟩:Pr10 _ _ _ (.pointer (some ⟨g,0,none⟩)) w3))
    have hb:Blk w3 g TKd #[.slice none 0 0,.int .i64 0]:=(show Blk w3 g TKd KZ from (by simpa using hb))
    have kk:=hb.cell
    have ff:=hb.frozen
    have zz:=hb.lt
    have E9:=hide e9
    have HG:=hide hG
    clear hG hb h2 h3
    simp [Act.eval] at f3 e9
    go_simp
    exact hK undef _ (.inr (.inr ⟨by simp,g,E9.out,HPR.out,rfl⟩)) (HG.out.set_ h1 (.inr (by simp))) trivial
   ·dsimp only at hG hK
    have f3:=hd 8 (by simp) _ rfl _ rfl
    have f9:=hd 10 (by simp) _ rfl _ rfl
    (obtain ⟨g,e9,h1,h2,h3,hb⟩:=f9)
    have HPR:=hide ((⟨g,rfl,h1,h2,h3,hb⟩:Pr10 _ _ _ (.pointer (some ⟨g,0,none⟩)) w3))
    have hb:Blk w3 g TKd #[.slice none 0 0,.int .i64 0]:=(show Blk w3 g TKd KZ from (by simpa using hb))
    have kk:=hb.cell
    have ff:=hb.frozen
    have zz:=hb.lt
    have E9:=hide e9
    have HG:=hide hG
    clear hG hb h2 h3
    simp [Act.eval] at f3 e9
    go_simp
    exact hK undef _ (.inr (.inr ⟨by simp,g,E9.out,HPR.out,rfl⟩)) (HG.out.set_ h1 (.inr (by simp))) trivial
 case gu=>intro s w1 w2 hG hu; rw [hu]; exact hG
 case g0=>exact ⟨(Below.refl _ _).drew,rfl⟩
 case fin=>
  intro f9 w6 hG hall
  obtain ⟨g9,e9,z9,-,-,hb9⟩:=hall _ (List.mem_of_getElem? (i:=9) rfl) 9 rfl
  obtain ⟨g10,e10,z10,-,-,hb10⟩:=hall _ (List.mem_of_getElem? (i:=10) rfl) 10 rfl
  have hb9':Blk w6 g9 TKd #[.slice A0 la c0,.int .i64 (pa:Int)]:=by simpa using hb9
  have hb10':Blk w6 g10 TKd #[.slice A1 lb c1,.int .i64 (pb:Int)]:=by simpa using hb10
  have HB6:=hide hG.1
  simp only [fillF,List.map_cons,List.map_nil,List.foldl_cons,List.foldl_nil,Act.put,List.setIfInBounds_toArray,List.set_cons_zero,List.set_cons_succ]
  rw [e9,e10]
  clear hall hG e9 e10 hb9 hb10
  have hpa:=HPA.out
  have hpb:=HPB.out
  subst hpa hpb
  have hlt9:¬ MT c mb vt m g9:=fun h=>by have:=HM.out.mw.lt h; omega
  have hlt10:¬ MT c mb vt m g10:=fun h=>by have:=HM.out.mw.lt h; omega
  go_wp2_with fail
  exact join_test HQ.out HE.out (HM.out.below HB6.out) HL.out ((MkS.low HB6.out).slk @KdR.keep (by omega) HS.out) (HMP.out.below HB6.out) HJ.out HIS.out hn hk HSU.out hN1 hK1 HI.out hb9' hlt9 hb10' hlt10 _ _ _ _ _ _ _ _ _ _ _ _ _ _ _ _ _ _ _ _ _ _ _ _ _ _ _ _ _ _ _ _ _ _ _ _ _ _ _ _ _ _ _ _ _ _ _ _ _ _ _ _ _ _ _ _ _ _ _ _ _ _ _ _ _ _ _ _ _ _ _ _ _ _ _ _ _ _ _ _ _ _ _ _ _ _ _ _ _ _ _ _ _ _ _ _ _ _ _ _ _ _ _ _ _ _ _ _ _ _ _ _ _ _ _ _ _ _ _ _ _ _ _ _ _ _ _ _ _
end
end Go.Proofs.Ytkolacaceaamoaa
/- The maker's join. -/
namespace Go.Proofs.Ytkolacaceaamoaa
open Go.RowKit
section
variable (w:World) (c:Pct) (B mb tb fb:Nat) (took:List Nat) (vt0:Value) (m0:Pst) (U V:Nat → Prop) (h:Nat) (is:List It) (N1 K1 S1:Nat)
def JQ (n:Nat) (e:Ending) (w':World):Prop:=
 (∃ A' n' c',e = .returned (.tuple #[.slice A' n' c',.int .i64 0]) ∧ n' ≤ n ∧ JSt w c B mb tb fb took vt0 m0 U V h is N1 K1 S1 w' A' n' c') ∨
 (∃ T vt m,e = .returned (.tuple #[.slice none 0 0,.int .i64 16]) ∧ JM w w' c B mb tb took vt0 m0 T vt m fb ∧ m.N ≤ N1)
end
section
variable {w:World} {c:Pct} {B mb tb fb:Nat} {took:List Nat} {vt0:Value} {m0:Pst} {U V:Nat → Prop} {h:Nat} {is:List It} {N1 K1 S1:Nat}
set_option maxRecDepth 100000 in
set_option maxHeartbeats 4000000 in
theorem join_any {wr:World} {A:Option Addr} {n cc:Nat} (hE:JE c took m0 U) (hJS:JSt w c B mb tb fb took vt0 m0 U V h is N1 K1 S1 wr A n cc) (hN1:N1 < 1000000000) (hK1:K1 < 100000000) :
  Calls Try.prog 56 #[.pointer (some ⟨mb,0,none⟩),.slice A n cc,.map (some fb)] wr fun e w'=>JQ w c B mb tb fb took vt0 m0 U V h is N1 K1 S1 n e w':=by
 have HE:=hide hE
 have HJ0:=hide hJS
 have hn9:n ≤ 100000000:=by
  obtain ⟨T,vt,m,l,cnt,-,-,-,-,-,-,-,hk,-⟩:=hJS
  omega
 clear hE hJS
 go_enter Try.func56,Try.ntmps56
 go_wp2_with fail
 go_loopw [1,6,7,8] (fun v1 v6 v7 v8 wr=>∃ (A':Option Addr) (n' c' i:Nat),v1 = .slice A' n' c' ∧ v8 = .int .i64 (i:Int) ∧ v6 = .slice none 0 0 ∧ v7 = .int .i64 0 ∧ n' ≤ n ∧ i ≤ n' ∧ Hid (JSt w c B mb tb fb took vt0 m0 U V h is N1 K1 S1 wr A' n' c')) (fun v1 _ _ v8 _=>2 * vlen v1 - (intOf v8).toNat)
 case atStart=>exact ⟨A,n,cc,0,rfl,by go_num,rfl,rfl,by omega,by omega,HJ0⟩
 case round=>
  clear HJ0
  obtain ⟨A',n',c',i,rfl,rfl,rfl,rfl,hn',hin,HJ⟩:=hrel
  have him:(i:Int) + 1 ≤ 9223372036854775807:=by omega
  by_cases hlt:i + 1 < n'
  ·have d1:decide ((i:Int) + 1 < (n':Int)) = true:=by simp; omega
   go_upto_block 1 with fail
   refine wp_block ?_
   refine id (show Code.wp Try.prog (BJ 0) _ _ _ from ?_)
   refine join_round ⟨?_,?_,?_⟩ HE.out HJ.out hlt hN1 hK1 _ _ _ _ _ _ _ _ _ _ _ _ _ _ _ _ _ _ _ _ _ _ _ _ _ _ _ _ _ _ _ _ _ _ _ _ _ _ _ _ _ _ _ _ _ _ _ _ _ _ _ _ _ _ _ _ _ _ _ _ _ _ _ _ _ _ _ _ _ _ _ _ _ _ _ _ _ _ _ _ _ _ _ _ _ _ _ _ _ _ _ _ _ _ _ _ _ _ _ _ _ _ _ _ _ _ _ _ _ _ _ _ _ _ _ _ _ _ _ _ _ _ _ _ _ _ _ _ _ _ _
   ·intro u9 u10 u11 u12 u13 u14 u15 u16 u17 u18 u19 u20 u21 u22 u23 u24 u25 u26 u27 u28 u29 u30 u31 u32 u33 u34 u35 u36 u37 u38 u39 u40 u41 u42 u43 u44 u45 u46 u47 u48 u49 u50 u51 u52 u53 u54 u55 u56 u57 u58 u59 u60 u61 u62 u63 u64 u65 u66 u67 u68 u69 u70 u71 u72 u73 u74 u75 u76 u77 u78 u79 u80 u81 u82 u83 u84 u85 u86 u87 u88 u89 u90 u91 u92 u93 u94 u95 u96 u97 u98 u99 u100 u101 u102 u103 u104 u105 u106 u107 u108 u109 u110 u111 u112 u113 u114 u115 u116 u117 u118 u119 u120 u121 u122 u123 u124 u125 u126 u127 u128 u129 u130 u131 u132 u133 u134 u135 u136 u137 u138 u139 A2 n2 c2 i2 w2 hs hn2 hi2
    have HS:=hide hs
    clear hs HJ d1
    go_wp2_with fail
    go_roundw
    case rel=>exact ⟨A2,n2,c2,i2,rfl,rfl,rfl,rfl,by omega,by omega,HS⟩
    case measure=>simp [intOf,vlen]; omega
   ·intro u9 u10 u11 u12 u13 u14 u15 u16 u17 u18 u19 u20 u21 u22 u23 u24 u25 u26 u27 u28 u29 u30 u31 u32 u33 u34 u35 u36 u37 u38 u39 u40 u41 u42 u43 u44 u45 u46 u47 u48 u49 u50 u51 u52 u53 u54 u55 u56 u57 u58 u59 u60 u61 u62 u63 u64 u65 u66 u67 u68 u69 u70 u71 u72 u73 u74 u75 u76 u77 u78 u79 u80 u81 u82 u83 u84 u85 u86 u87 u88 u89 u90 u91 u92 u93 u94 u95 u96 u97 u98 u99 u100 u101 u102 u103 u104 u105 u106 u107 u108 u109 u110 u111 u112 u113 u114 u115 u116 u117 u118 u119 u120 u121 u122 u123 u124 u125 u126 u127 u128 u129 u130 u131 u132 u133 u134 u135 u136 u137 u138 u139 w2 hs
    have HS:=hide hs
    clear hs HJ d1
    go_wp2_with fail
    go_roundw
    case rel=>exact ⟨A',n',c',i + 1,rfl,by go_num,rfl,rfl,by omega,by omega,HS⟩
    case measure=>simp [intOf,vlen]; omega
   ·intro u1 u8 u9 u10 u11 u12 u13 u14 u15 u16 u17 u18 u19 u20 u21 u22 u23 u24 u25 u26 u27 u28 u29 u30 u31 u32 u33 u34 u35 u36 u37 u38 u39 u40 u41 u42 u43 u44 u45 u46 u47 u48 u49 u50 u51 u52 u53 u54 u55 u56 u57 u58 u59 u60 u61 u62 u63 u64 u65 u66 u67 u68 u69 u70 u71 u72 u73 u74 u75 u76 u77 u78 u79 u80 u81 u82 u83 u84 u85 u86 u87 u88 u89 u90 u91 u92 u93 u94 u95 u96 u97 u98 u99 u100 u101 u102 u103 u104 u105 u106 u107 u108 u109 u110 u111 u112 u113 u114 u115 u116 u117 u118 u119 u120 u121 u122 u123 u124 u125 u126 u127 u128 u129 u130 u131 u132 u133 u134 u135 u136 u137 u138 u139 T vt m w2 hs hN
    have HS:=hide (And.intro hs hN)
    clear hs hN HJ d1
    go_wp2_with fail
    refine bodyPost_ret (v:=.tuple #[.slice none 0 0,.int .i64 16]) (by simp (maxDischargeDepth:=9) [results,Try.results56,go_sem]; done) rfl (.inr ⟨T,vt,m,rfl,HS.out.1,HS.out.2⟩)
  ·have d1:decide ((i:Int) + 1 < (n':Int)) = false:=by simp; omega
   go_wp2_with fail
   refine bodyPost_ret (v:=.tuple #[.slice A' n' c',.int .i64 0]) (by simp (maxDischargeDepth:=9) [results,Try.results56,go_sem]; done) rfl (.inl ⟨A',n',c',rfl,hn',HJ.out⟩)
end
end Go.Proofs.Ytkolacaceaamoaa
