/- The maker's join: the two neighbours put together. -/
import Derived.Test.YtkolacaceaamoaaKSb
set_option linter.unusedSimpArgs false
set_option linter.unusedVariables false
namespace Go.Proofs.Ytkolacaceaamoaa
open Go.RowKit
theorem ndOk.few {nd:Nd} (h:ndOk nd):nd.1.length ≤ 505 ∧ nd.2.length ≤ 505:=by
 have h1:=h.2.2.2
 rw [ndB_len] at h1
 have h2:nd.1.length ≤ sumI nd.1:=by
  generalize nd.1 = l
  induction l with
  | nil=>exact Nat.zero_le _
  | cons x l ih=>
   have e:sumI (x :: l) = szI x + sumI l:=by unfold sumI; simp
   rw [e,List.length_cons]
   have:1 ≤ szI x:=by unfold szI; omega
   omega
 have h3:nd.2.length ≤ sumK nd.2:=by
  generalize nd.2 = l
  induction l with
  | nil=>exact Nat.zero_le _
  | cons x l ih=>
   have e:sumK (x :: l) = szK x + sumK l:=by unfold sumK; simp
   rw [e,List.length_cons]
   have:1 ≤ szK x:=by unfold szK; omega
   omega
 omega
theorem slr_blk {α:Type} {R:World → (Nat → Prop) → α → List Value → Prop} {w:World} {F:Nat → Prop} {g:Nat} {t:TypeId} {ls:List (List α)} {vs:List Value} (hb:Blk w g t vs.toArray) (hF:F g) (hm:ls.length ≤ 1000) (hl:LR (SlR R w F) ls vs):SLk 1 (SlR R) w F (.slice (some ⟨g,0,none⟩) ls.length ls.length) ls:=by
 have hlen:=LR.len (k:=1) (fun a cs ⟨v,e,_⟩=>by rw [e]; rfl) _ _ hl
 refine ⟨some ⟨g,0,none⟩,ls.length,vs,rfl,⟨Nat.le_refl _,by unfold maxLen; omega⟩,⟨hlen,fun hn=>⟨_,rfl,hF,fun j u hu=>?_⟩⟩,hl⟩
 rw [← add_plain _ _ rfl]
 simp only [Nat.zero_add]
 rw [hb.cell j]
 simpa using hu
theorem slr_two {α:Type} {R:World → (Nat → Prop) → α → List Value → Prop} {w:World} {F:Nat → Prop} {g:Nat} {t:TypeId} {l1 l2:List α} {v1 v2:Value} (hb:Blk w g t #[v1,v2]) (hF:F g) (h1:SLk 2 R w F v1 l1) (h2:SLk 2 R w F v2 l2):SLk 1 (SlR R) w F (.slice (some ⟨g,0,none⟩) 2 2) [l1,l2]:=
 slr_blk (ls:=[l1,l2]) (vs:=[v1,v2]) hb hF (by simp) ⟨[v1],[v2],rfl,⟨v1,rfl,h1⟩,[v2],[],rfl,⟨v2,rfl,h2⟩,rfl⟩
theorem slr_three {α:Type} {R:World → (Nat → Prop) → α → List Value → Prop} {w:World} {F:Nat → Prop} {g:Nat} {t:TypeId} {l1 l2 l3:List α} {v1 v2 v3:Value} (hb:Blk w g t #[v1,v2,v3]) (hF:F g) (h1:SLk 2 R w F v1 l1) (h2:SLk 2 R w F v2 l2) (h3:SLk 2 R w F v3 l3):SLk 1 (SlR R) w F (.slice (some ⟨g,0,none⟩) 3 3) [l1,l2,l3]:=
 slr_blk (ls:=[l1,l2,l3]) (vs:=[v1,v2,v3]) hb hF (by simp) ⟨[v1],[v2,v3],rfl,⟨v1,rfl,h1⟩,[v2],[v3],rfl,⟨v2,rfl,h2⟩,[v3],[],rfl,⟨v3,rfl,h3⟩,rfl⟩
theorem Gro.fresh_slk {α:Type} {R:World → (Nat → Prop) → α → List Value → Prop} {T:TypeId} {k:Nat} (h0:0 < k) (hR:Kept R) {w0 w:World} {F:Nat → Prop} {v:Value} {l:List α} (h:Gro R T k w0 F w v l) (hb:Below w0.heap.size w0 w) (hv:∀ g,w0.heap.size ≤ g → F g):(∃ A n c,v = .slice A n c) ∧ SLk k R w F v l:=by
 have hg:=h
 obtain ⟨xs,ho,_⟩:=hg
 obtain ⟨A,c,e,_⟩:=own_slice ho
 exact ⟨⟨A,_,c,e⟩,h.slk h0 hR (fun j _ hlt=>hb.block j hlt) (fun j hj _=>hj) (fun g hg=>hv g (ho.lt g hg).1)⟩
theorem SLk.caps {α:Type} {k:Nat} {R:World → (Nat → Prop) → α → List Value → Prop} {w:World} {F:Nat → Prop} {A:Option Addr} {n c:Nat} {l:List α} (h:SLk k R w F (.slice A n c) l):n ≤ c ∧ c ≤ maxLen ∧ n = l.length:=by
 obtain ⟨A',c',xs,e,hc,_⟩:=h
 injection e with e1 e2 e3
 subst e1 e2 e3
 exact ⟨hc.1,hc.2,rfl⟩
theorem SLk.form {α:Type} {k:Nat} {R:World → (Nat → Prop) → α → List Value → Prop} {w:World} {F:Nat → Prop} {v:Value} {l:List α} (h:SLk k R w F v l):∃ A c,v = .slice A l.length c:=by
 obtain ⟨A',c',xs,e,_⟩:=h
 exact ⟨A',c',e⟩
theorem hdK_app {a b:Nd} (ha:ndOk a) (hb:ndOk b) (hl:decide (a.2 = []) = decide (b.2 = [])):hdK (a.1 ++ b.1,a.2 ++ b.2) = hdK a:=by
 have hl':a.2 = [] ↔ b.2 = []:=by simpa using hl
 unfold hdK
 rcases ha.1 with ⟨q1,q2⟩ | ⟨q1,q2⟩
 ·have q3:=hl'.1 q2
  cases h:a.1 with
  | nil=>exact absurd h q1
  | cons i r=>simp [q2,q3]
 ·cases h:a.2 with
  | nil=>exact absurd h q2
  | cons i r=>simp
theorem sumK_ap (l m:List Kd):sumK (l ++ m) = sumK l + sumK m:=by unfold sumK; simp
theorem sumK_co (x:Kd) (l:List Kd):sumK (x :: l) = szK x + sumK l:=by unfold sumK; simp
theorem np_one {w:World} {F:Nat → Prop} {g gn:Nat} {t:TypeId} {nd:Nd} (hb:Blk w g t #[.pointer (some ⟨gn,0,none⟩)]) (hF:F g) (hn:NdR w F gn nd.1 nd.2):SLk 1 NpR w F (.slice (some ⟨g,0,none⟩) 1 1) [nd]:=by
 refine ⟨some ⟨g,0,none⟩,1,[.pointer (some ⟨gn,0,none⟩)],rfl,⟨by simp,by unfold maxLen; omega⟩,⟨rfl,fun _=>⟨_,rfl,hF,fun j u hu=>?_⟩⟩,⟨[.pointer (some ⟨gn,0,none⟩)],[],rfl,⟨gn,rfl,hn⟩,rfl⟩⟩
 rw [← add_plain _ _ rfl]
 simp only [Nat.zero_add]
 rw [hb.cell j]
 simpa using hu
theorem saved_one {C:Int → Cn} {nd:Nd} {kds:List Kd} (h:SavedAs C [nd] kds):∃ k,kds = [k] ∧ k.k = hdK nd ∧ C k.p = sealC 2 (ndB nd.1 nd.2):=by
 match kds,h with
 | [k],h=>exact ⟨k,rfl,h.1,h.2.1⟩
section
variable {Q:Exit → Act → World → Prop} {v3 v4 v5 v140:Value} {w:World} {c:Pct} {B mb tb fb:Nat} {took:List Nat} {vt0:Value} {m0:Pst} {U V:Nat → Prop} {h:Nat} {is:List It} {N1 K1 S1:Nat}
set_option maxRecDepth 100000 in
set_option maxHeartbeats 4000000 in
theorem join_both {wr:World} {A:Option Addr} {n cc i cnt ga gb g9 g10:Nat} {T:List Nat} {vt v9 v10:Value} {m:Pst} {l1 l2:List KI} {a b:KI} {nda ndb:Nd} (hQ:JNx Q v3 v4 v5 v140 w c B mb tb fb took vt0 m0 U V h is N1 K1 S1 A n cc i) (hE:JE c took m0 U)
  (hM:JM w wr c B mb tb took vt0 m0 T vt m fb) (hl:(l1 ++ a :: b :: l2).length = n) (hs:SLk 2 KdR wr (Sf wr c mb vt m) (.slice A n cc) ((l1 ++ a :: b :: l2).map Prod.fst)) (hmp:MapB wr fb cnt) (hJ:JL c m U V T h (l1 ++ a :: b :: l2)) (his:(l1 ++ a :: b :: l2).flatMap Prod.snd = is)
  (hn:m.N + n ≤ N1) (hk:cnt + n ≤ K1) (hS:sumK ((l1 ++ a :: b :: l2).map Prod.fst) ≤ S1) (hN1:N1 < 1000000000) (hK1:K1 < 100000000) (hi:l1.length = i)
  (h9:Blk wr g9 TKd #[v9,.int .i64 (a.1.p:Int)]) (s9:¬ MT c mb vt m g9) (h10:Blk wr g10 TKd #[v10,.int .i64 (b.1.p:Int)]) (s10:¬ MT c mb vt m g10)
  (oka:ndOk nda) (okb:ndOk ndb) (ia:NdIs (m.C c) c.n V h nda a.2) (ib:NdIs (m.C c) c.n V h ndb b.2) (ka:hdK nda = a.1.k) (hga:NdR wr (Sf wr c mb vt m) ga nda.1 nda.2) (hgb:NdR wr (Sf wr c mb vt m) gb ndb.1 ndb.2)
  (u14 u15 u16 u17 u18 u19 u20 u21 u22 u23 u24 u25 u26 u27 u28 u29 u30 u31 u32 u33 u34 u35 u36 u37 u38 u39 u40 u41 u42 u43 u44 u45 u46 u47 u48 u49 u50 u51 u52 u53 u54 u55 u56 u57 u58 u59 u60 u61 u62 u63 u64 u65 u66 u67 u68 u69 u70 u71 u72 u73 u74 u75 u76 u77 u78 u79 u80 u81 u82 u83 u84 u85 u86 u87 u88 u89 u90 u91 u92 u93 u94 u95 u96 u97 u98 u99 u100 u101 u102 u103 u104 u105 u106 u107 u108 u109 u110 u111 u112 u113 u114 u115 u116 u117 u118 u119 u120 u121 u122 u123 u124 u125 u126 u127 u128 u129 u130 u131 u132 u133 u134 u135 u136 u137 u138 u139:Value) :
  Code.wp Try.prog (BJ 6) Q { tmps:=#[.pointer (some ⟨mb,0,none⟩),.slice A n cc,.map (some fb),v3,v4,v5,.slice none 0 0,.int .i64 0,.int .i64 (i:Int),.pointer (some ⟨g9,0,none⟩),.pointer (some ⟨g10,0,none⟩),.pointer (some ⟨ga,0,none⟩),.int .i64 0,.pointer (some ⟨gb,0,none⟩),u14,u15,u16,u17,u18,u19,u20,u21,u22,u23,u24,u25,u26,u27,u28,u29,u30,u31,u32,u33,u34,u35,u36,u37,u38,u39,u40,u41,u42,u43,u44,u45,u46,u47,u48,u49,u50,u51,u52,u53,u54,u55,u56,u57,u58,u59,u60,u61,u62,u63,u64,u65,u66,u67,u68,u69,u70,u71,u72,u73,u74,u75,u76,u77,u78,u79,u80,u81,u82,u83,u84,u85,u86,u87,u88,u89,u90,u91,u92,u93,u94,u95,u96,u97,u98,u99,u100,u101,u102,u103,u104,u105,u106,u107,u108,u109,u110,u111,u112,u113,u114,u115,u116,u117,u118,u119,u120,u121,u122,u123,u124,u125,u126,u127,u128,u129,u130,u131,u132,u133,u134,u135,u136,u137,u138,u139,v140],defers:=[] } wr:=by
 have HQ:=hide hQ
 have HE:=hide hE
 have HM:=hide hM
 have HL:=hide hl
 have HS:=hide hs
 have HMP:=hide hmp
 have HJ:=hide hJ
 have HIS:=hide his
 have HSU:=hide hS
 have H9:=hide h9
 have H10:=hide h10
 have S9:=hide s9
 have S10:=hide s10
 have OKA:=hide oka
 have OKB:=hide okb
 have IA:=hide ia
 have IB:=hide ib
 have KA:=hide ka
 have HGA:=hide hga
 have HGB:=hide hgb
 have hil:i + 2 ≤ n:=by rw [← hl,List.length_append,List.length_cons,List.length_cons]; omega
 have HI:=hide hi
 obtain ⟨via,vka,hba,_,hia,hka⟩:=hga
 obtain ⟨vib,vkb,hbb,_,hib,hkb⟩:=hgb
 have HSA:=hide (show SLk 2 ItR wr (Sf wr c mb vt m) via nda.1 from hia)
 have HSB:=hide (show SLk 2 ItR wr (Sf wr c mb vt m) vib ndb.1 from hib)
 have HKA:=hide (show SLk 2 KdR wr (Sf wr c mb vt m) vka nda.2 from hka)
 have HKB:=hide (show SLk 2 KdR wr (Sf wr c mb vt m) vkb ndb.2 from hkb)
 obtain ⟨Aia,cia,_,rfl,_⟩:=hia
 obtain ⟨Aib,cib,_,rfl,_⟩:=hib
 obtain ⟨Aka,cka,_,rfl,_⟩:=hka
 obtain ⟨Akb,ckb,_,rfl,_⟩:=hkb
 obtain ⟨lia,hlia⟩:∃ x,nda.1.length = x:=⟨_,rfl⟩
 obtain ⟨lka,hlka⟩:∃ x,nda.2.length = x:=⟨_,rfl⟩
 obtain ⟨lib,hlib⟩:∃ x,ndb.1.length = x:=⟨_,rfl⟩
 obtain ⟨lkb,hlkb⟩:∃ x,ndb.2.length = x:=⟨_,rfl⟩
 rw [hlia] at HSA
 rw [hlib] at HSB
 rw [hlka] at HKA
 rw [hlkb] at HKB
 rw [hlia,hlka] at hba
 rw [hlib,hlkb] at hbb
 have HBA:=hide hba
 have HBB:=hide hbb
 obtain ⟨xi,hxi⟩:∃ x,nda.1 ++ ndb.1 = x:=⟨_,rfl⟩
 obtain ⟨xk,hxk⟩:∃ x,nda.2 ++ ndb.2 = x:=⟨_,rfl⟩
 have HLI:=hide (And.intro (ndOk.few OKA.out) (ndOk.few OKB.out))
 have HXI:=hide hxi
 have HXK:=hide hxk
 have h0k:0 < ((l1 ++ a :: b :: l2).map Prod.fst).length:=by rw [List.length_map,hl]; omega
 obtain ⟨bl,ol,_,_,rfl,-,-,-,-,-⟩:=hs.at_kd h0k
 obtain ⟨ncc,ncm,-⟩:=hs.caps
 clear h0k
 clear hQ hE hM hl hs hmp hJ his hS h9 s9 h10 s10 oka okb ia ib ka hba hbb hlia hlib hlka hlkb hi hxi hxk
 rw [show BJ 6 = Code.seq (CJ 6) (Code.seq (CJ 7) (Code.seq (CJ 8) (Code.seq (CJ 9) (Code.seq (CJ 10) (Code.seq (CJ 11) (Code.seq (CJ 12) (BJ 13))))))) from rfl]
 conv=>arg 2; arg 1; whnf
 conv=>arg 2; arg 2; arg 1; whnf
 conv=>arg 2; arg 2; arg 2; arg 1; whnf
 conv=>arg 2; arg 2; arg 2; arg 2; arg 1; whnf
 conv=>arg 2; arg 2; arg 2; arg 2; arg 2; arg 1; whnf
 conv=>arg 2; arg 2; arg 2; arg 2; arg 2; arg 2; arg 1; whnf
 conv=>arg 2; arg 2; arg 2; arg 2; arg 2; arg 2; arg 2; arg 1; whnf
 conv=>arg 2; arg 2; arg 2; arg 2; arg 2; arg 2; arg 2; arg 2; whnf
 go_upto_region 12 with fail
 refine wp_region_dag (by kernel_rfl) (by kernel_rfl) 141 0
  [⟨some 70,[0],[],[],[],[],fun _ _ v _=>v = .pointer (some ⟨ga,0,none⟩)⟩,
   ⟨some 71,[0],[],[],[0],[],fun _ _ v _=>v = .pointer (some ⟨ga,0,none⟩)⟩,
   ⟨some 72,[0],[],[],[1],[],fun _ _ v _=>v = .pointer (some ⟨ga,0,none⟩)⟩,
   ⟨some 73,[0],[],[],[2],[],fun _ _ v _=>v = .slice Aia lia cia⟩,
   ⟨some 74,[0],[],[],[],[],fun _ _ v _=>v = .pointer (some ⟨gb,0,none⟩)⟩,
   ⟨some 75,[0],[],[],[4],[],fun _ _ v _=>v = .pointer (some ⟨gb,0,none⟩)⟩,
   ⟨some 76,[0],[],[],[5],[],fun _ _ v _=>v = .pointer (some ⟨gb,0,none⟩)⟩,
   ⟨some 77,[0],[],[],[6],[],fun _ _ v _=>v = .slice Aib lib cib⟩,
   ⟨some 78,[0],[],[],[3,7],[],fun st a v w'=>∃ g,v = .slice (some ⟨g,0,none⟩) 2 2 ∧ wr.heap.size ≤ g ∧ Blk w' g 32 #[.slice Aia lia cia,.slice Aib lib cib]⟩,
   ⟨some 79,[0],[],[],[8],[],fun st a v w'=>∃ A' n' c',v = .slice A' n' c' ∧ SLk 2 ItR w' (FJ wr c mb vt m) (.slice A' n' c') xi⟩,
   ⟨some 80,[0],[],[],[],[],fun _ _ v _=>v = .pointer (some ⟨ga,0,none⟩)⟩,
   ⟨some 81,[0],[],[],[10],[],fun _ _ v _=>v = .pointer (some ⟨ga,0,none⟩)⟩,
   ⟨some 82,[0],[],[],[11],[],fun _ _ v _=>v = .pointer (some ⟨ga,1,none⟩)⟩,
   ⟨some 83,[0],[],[],[12],[],fun _ _ v _=>v = .slice Aka lka cka⟩,
   ⟨some 84,[0],[],[],[],[],fun _ _ v _=>v = .pointer (some ⟨gb,0,none⟩)⟩,
   ⟨some 85,[0],[],[],[14],[],fun _ _ v _=>v = .pointer (some ⟨gb,0,none⟩)⟩,
   ⟨some 86,[0],[],[],[15],[],fun _ _ v _=>v = .pointer (some ⟨gb,1,none⟩)⟩,
   ⟨some 87,[0],[],[],[16],[],fun _ _ v _=>v = .slice Akb lkb ckb⟩,
   ⟨some 88,[0],[],[],[13,17],[],fun st a v w'=>∃ g,v = .slice (some ⟨g,0,none⟩) 2 2 ∧ wr.heap.size ≤ g ∧ Blk w' g 75 #[.slice Aka lka cka,.slice Akb lkb ckb]⟩,
   ⟨some 89,[0],[],[],[18],[],fun st a v w'=>∃ A' n' c',v = .slice A' n' c' ∧ SLk 2 KdR w' (FJ wr c mb vt m) (.slice A' n' c') xk⟩,
   ⟨some 90,[0],[],[],[9,19],[],fun st a v w'=>∃ A1 n1 c1 A2 n2 c2,v = .agg #[.slice A1 n1 c1,.slice A2 n2 c2] ∧ SLk 2 ItR w' (FJ wr c mb vt m) (.slice A1 n1 c1) xi ∧ SLk 2 KdR w' (FJ wr c mb vt m) (.slice A2 n2 c2) xk⟩,
   ⟨some 91,[0],[],[],[20],[],fun st a v w'=>∃ g,v = .pointer (some ⟨g,0,none⟩) ∧ NdR w' (FJ wr c mb vt m) g xi xk⟩,
   ⟨some 14,[0],[],[],[21],[],fun st a v w'=>∃ g,v = .pointer (some ⟨g,0,none⟩) ∧ NdR w' (FJ wr c mb vt m) g xi xk⟩] (fun _ w'=>Below wr.heap.size wr w') (fun _ _ _ _ _=>False) (fun _ w w'=>Below w.heap.size w w') ?gu ?ru ?put [70,71,72,73,74,75,76,77,78,79,80,81,82,83,84,85,86,87,88,89,90,91,14] rfl (by kernel_rfl) rfl ?g0 ?keep ?steps ?fin
 case ru=>
  intro e he s a v w w' hu hv
  simp only [List.mem_cons,List.not_mem_nil,or_false] at he
  rcases he with rfl | rfl | rfl | rfl | rfl | rfl | rfl | rfl | rfl | rfl | rfl | rfl | rfl | rfl | rfl | rfl | rfl | rfl | rfl | rfl | rfl | rfl | rfl
  all_goals first | exact hv | (obtain ⟨g,e,hg,hb⟩:=hv; exact ⟨g,e,hg,hb.below hu hb.lt⟩) | (obtain ⟨a1,a2,a3,e,h⟩:=hv; exact ⟨a1,a2,a3,e,h.keep (by omega) @ItR.keep (fun j hj hlt=>hu.block j hlt) (fun j hj _=>hj)⟩) | (obtain ⟨a1,a2,a3,e,h⟩:=hv; exact ⟨a1,a2,a3,e,h.keep (by omega) @KdR.keep (fun j hj hlt=>hu.block j hlt) (fun j hj _=>hj)⟩) | (obtain ⟨a1,a2,a3,a4,a5,a6,e,h,h2⟩:=hv; exact ⟨a1,a2,a3,a4,a5,a6,e,h.keep (by omega) @ItR.keep (fun j hj hlt=>hu.block j hlt) (fun j hj _=>hj),h2.keep (by omega) @KdR.keep (fun j hj hlt=>hu.block j hlt) (fun j hj _=>hj)⟩) | (obtain ⟨g,e,h⟩:=hv; exact ⟨g,e,h.keep (fun j hj hlt=>hu.block j hlt) (fun j hj _=>hj)⟩)
 case put=>
  intro e he s a d u v w hnd hv
  simp only [List.mem_cons,List.not_mem_nil,or_false] at he
  rcases he with rfl | rfl | rfl | rfl | rfl | rfl | rfl | rfl | rfl | rfl | rfl | rfl | rfl | rfl | rfl | rfl | rfl | rfl | rfl | rfl | rfl | rfl | rfl
  all_goals first | exact hv
 case keep=>
  intro e he s s' a v w w' hsl hm ht hv
  simp only [List.mem_cons,List.not_mem_nil,or_false] at he
  rcases he with rfl | rfl | rfl | rfl | rfl | rfl | rfl | rfl | rfl | rfl | rfl | rfl | rfl | rfl | rfl | rfl | rfl | rfl | rfl | rfl | rfl | rfl | rfl
  all_goals first | exact hv | (exact ht.elim)
 case steps=>
  refine ⟨?_,?_,?_,?_,?_,?_,?_,?_,?_,?_,?_,?_,?_,?_,?_,?_,?_,?_,?_,?_,?_,?_,?_,trivial⟩
  ·intro st hst ac w3 hg hG hd K hK
   dsimp only at hst hG hK
   exact op_move _ rfl (hK _ _ (Below.refl _ _) (hg.kp 11 (by simp)))
  ·intro st hst ac w3 hg hG hd K hK
   dsimp only at hst hG hK
   have f0:=hd 0 (by simp) _ rfl _ rfl
   (try simp [Act.eval] at f0)
   go_simp
   exact hK _ _ (Below.refl _ _) rfl
  ·intro st hst ac w3 hg hG hd K hK
   dsimp only at hst hG hK
   have f1:=hd 1 (by simp) _ rfl _ rfl
   (try simp [Act.eval] at f1)
   go_simp
   exact hK _ _ (Below.refl _ _) rfl
  ·intro st hst ac w3 hg hG hd K hK
   dsimp only at hst hG hK
   have hX:=HBA.out.below hG HBA.out.lt
   have kk:=hX.cell 0
   have zz:=hX.lt
   simp at kk
   clear hG hX
   have f2:=hd 2 (by simp) _ rfl _ rfl
   (try simp [Act.eval] at f2)
   go_simp
   exact hK _ _ (Below.refl _ _) rfl
  ·intro st hst ac w3 hg hG hd K hK
   dsimp only at hst hG hK
   exact op_move _ rfl (hK _ _ (Below.refl _ _) (hg.kp 13 (by simp)))
  ·intro st hst ac w3 hg hG hd K hK
   dsimp only at hst hG hK
   have f4:=hd 4 (by simp) _ rfl _ rfl
   (try simp [Act.eval] at f4)
   go_simp
   exact hK _ _ (Below.refl _ _) rfl
  ·intro st hst ac w3 hg hG hd K hK
   dsimp only at hst hG hK
   have f5:=hd 5 (by simp) _ rfl _ rfl
   (try simp [Act.eval] at f5)
   go_simp
   exact hK _ _ (Below.refl _ _) rfl
  ·intro st hst ac w3 hg hG hd K hK
   dsimp only at hst hG hK
   have hX:=HBB.out.below hG HBB.out.lt
   have kk:=hX.cell 0
   have zz:=hX.lt
   simp at kk
   clear hG hX
   have f6:=hd 6 (by simp) _ rfl _ rfl
   (try simp [Act.eval] at f6)
   go_simp
   exact hK _ _ (Below.refl _ _) rfl
  ·intro st hst ac w3 hg hG hd K hK
   dsimp only at hst hG hK
   have f3:=hd 3 (by simp) _ rfl _ rfl
   have f7:=hd 7 (by simp) _ rfl _ rfl
   have HG9:=hide hG
   clear hG
   simp [Act.eval] at f3 f7
   go_simp
   exact hK _ _ (al_below w3 _) ⟨_,rfl,HG9.out.size,Blk.new _ _ _⟩
  ·intro st hst ac w3 hg hG hd K hK
   dsimp only at hst hG hK
   obtain ⟨g,f8,hg,hbl⟩:=hd 8 (by simp) _ rfl _ rfl
   have HG9:=hide hG
   have HS2:=hide (slr_two (F:=FJ wr c mb vt m) hbl (.inr hg) (HSA.out.keep (by omega) @ItR.keep (fun j hj hlt=>HG9.out.block j hlt) (fun j hj _=>.inl hj)) (HSB.out.keep (by omega) @ItR.keep (fun j hj hlt=>HG9.out.block j hlt) (fun j hj _=>.inl hj)))
   clear hG hbl hg
   simp [Act.eval] at f8
   go_simp
   (refine (concat_items HS2.out (by simp) (by have:=HLI.out; simp; omega)).mono ?_)
   rintro e w5 ⟨v',rfl,hgr,hb⟩
   have h5:=hgr.fresh_slk (by omega) @ItR.keep hb (fun g hg=>.inr (Nat.le_trans HG9.out.size hg))
   obtain ⟨⟨A',n',c',rfl⟩,h6⟩:=h5
   exact hK _ _ hb ⟨A',n',c',rfl,by rw [← HXI.out]; simpa using h6⟩
  ·intro st hst ac w3 hg hG hd K hK
   dsimp only at hst hG hK
   exact op_move _ rfl (hK _ _ (Below.refl _ _) (hg.kp 11 (by simp)))
  ·intro st hst ac w3 hg hG hd K hK
   dsimp only at hst hG hK
   have f10:=hd 10 (by simp) _ rfl _ rfl
   (try simp [Act.eval] at f10)
   go_simp
   exact hK _ _ (Below.refl _ _) rfl
  ·intro st hst ac w3 hg hG hd K hK
   dsimp only at hst hG hK
   have f11:=hd 11 (by simp) _ rfl _ rfl
   (try simp [Act.eval] at f11)
   go_simp
   exact hK _ _ (Below.refl _ _) rfl
  ·intro st hst ac w3 hg hG hd K hK
   dsimp only at hst hG hK
   have hX:=HBA.out.below hG HBA.out.lt
   have kk:=hX.cell 1
   have zz:=hX.lt
   simp at kk
   clear hG hX
   have f12:=hd 12 (by simp) _ rfl _ rfl
   (try simp [Act.eval] at f12)
   go_simp
   exact hK _ _ (Below.refl _ _) rfl
  ·intro st hst ac w3 hg hG hd K hK
   dsimp only at hst hG hK
   exact op_move _ rfl (hK _ _ (Below.refl _ _) (hg.kp 13 (by simp)))
  ·intro st hst ac w3 hg hG hd K hK
   dsimp only at hst hG hK
   have f14:=hd 14 (by simp) _ rfl _ rfl
   (try simp [Act.eval] at f14)
   go_simp
   exact hK _ _ (Below.refl _ _) rfl
  ·intro st hst ac w3 hg hG hd K hK
   dsimp only at hst hG hK
   have f15:=hd 15 (by simp) _ rfl _ rfl
   (try simp [Act.eval] at f15)
   go_simp
   exact hK _ _ (Below.refl _ _) rfl
  ·intro st hst ac w3 hg hG hd K hK
   dsimp only at hst hG hK
   have hX:=HBB.out.below hG HBB.out.lt
   have kk:=hX.cell 1
   have zz:=hX.lt
   simp at kk
   clear hG hX
   have f16:=hd 16 (by simp) _ rfl _ rfl
   (try simp [Act.eval] at f16)
   go_simp
   exact hK _ _ (Below.refl _ _) rfl
  ·intro st hst ac w3 hg hG hd K hK
   dsimp only at hst hG hK
   have f13:=hd 13 (by simp) _ rfl _ rfl
   have f17:=hd 17 (by simp) _ rfl _ rfl
   have HG9:=hide hG
   clear hG
   simp [Act.eval] at f13 f17
   go_simp
   exact hK _ _ (al_below w3 _) ⟨_,rfl,HG9.out.size,Blk.new _ _ _⟩
  ·intro st hst ac w3 hg hG hd K hK
   dsimp only at hst hG hK
   obtain ⟨g,f18,hg,hbl⟩:=hd 18 (by simp) _ rfl _ rfl
   have HG9:=hide hG
   have HS2:=hide (slr_two (F:=FJ wr c mb vt m) hbl (.inr hg) (HKA.out.keep (by omega) @KdR.keep (fun j hj hlt=>HG9.out.block j hlt) (fun j hj _=>.inl hj)) (HKB.out.keep (by omega) @KdR.keep (fun j hj hlt=>HG9.out.block j hlt) (fun j hj _=>.inl hj)))
   clear hG hbl hg
   simp [Act.eval] at f18
   go_simp
   (refine (concat_kids HS2.out (by simp) (by have:=HLI.out; simp; omega)).mono ?_)
   rintro e w5 ⟨v',rfl,hgr,hb⟩
   have h5:=hgr.fresh_slk (by omega) @KdR.keep hb (fun g hg=>.inr (Nat.le_trans HG9.out.size hg))
   obtain ⟨⟨A',n',c',rfl⟩,h6⟩:=h5
   exact hK _ _ hb ⟨A',n',c',rfl,by rw [← HXK.out]; simpa using h6⟩
  ·intro st hst ac w3 hg hG hd K hK
   dsimp only at hst hG hK
   obtain ⟨A1,n1,c1,f9,h1⟩:=hd 9 (by simp) _ rfl _ rfl
   obtain ⟨A2,n2,c2,f19,h2⟩:=hd 19 (by simp) _ rfl _ rfl
   have H1:=hide h1
   have H2:=hide h2
   clear hG h1 h2
   simp [Act.eval] at f9 f19
   go_simp
   exact hK _ _ (Below.refl _ _) ⟨A1,n1,c1,A2,n2,c2,rfl,H1.out,H2.out⟩
  ·intro st hst ac w3 hg hG hd K hK
   dsimp only at hst hG hK
   obtain ⟨A1,n1,c1,A2,n2,c2,f20,h1,h2⟩:=hd 20 (by simp) _ rfl _ rfl
   have H1:=hide h1
   have H2:=hide h2
   have HG9:=hide hG
   clear hG h1 h2
   simp [Act.eval] at f20
   go_simp
   exact hK _ _ (al_below w3 _) ⟨_,rfl,_,_,Blk.new _ _ _,.inr HG9.out.size,H1.out.keep (by omega) @ItR.keep (fun j hj hlt=>(al_below w3 _).block j hlt) (fun j hj _=>hj),H2.out.keep (by omega) @KdR.keep (fun j hj hlt=>(al_below w3 _).block j hlt) (fun j hj _=>hj)⟩
  ·intro st hst ac w3 hg hG hd K hK
   dsimp only at hst hG hK
   exact op_assign _ rfl (hK _ _ (Below.refl _ _) (hd 21 (by simp) _ rfl _ rfl))
 case gu=>intro s a b hG hu; exact hG.trans (hu.mono hG.size)
 case g0=>exact (Below.refl _ _).drew
 case fin=>
  intro f9 w6 hG hall
  obtain ⟨gn,e14,hnd⟩:=hall _ (List.mem_of_getElem? (i:=22) rfl) 14 rfl
  have HB6:=hide hG
  have HND:=hide hnd
  clear hall hG hnd
  simp only [fillF,List.map_cons,List.map_nil,List.foldl_cons,List.foldl_nil,Act.put,List.setIfInBounds_toArray,List.set_cons_zero,List.set_cons_succ]
  rw [e14]
  clear e14
  have HM6:=hide (HM.out.below HB6.out)
  have H96:=hide (H9.out.below HB6.out H9.out.lt)
  have H106:=hide (H10.out.below HB6.out H10.out.lt)
  have HMP6:=hide (HMP.out.below HB6.out)
  have HS6:=hide (HS.out.keep (F':=Sf w6 c mb vt m) (by omega) @KdR.keep (fun j hj hlt=>HB6.out.block j hlt) (fun j hj hlt=>(MkS.low HB6.out).sf hj))
  have HN6:=hide (HND.out.keep (F':=Sf w6 c mb vt m) (fun _ _ _=>rfl) (fun j hj hlt=>hj.elim (fun h=>(MkS.low HB6.out).sf h) (fun h=>HM.out.mw.fresh h hlt)))
  have HLA:=hide (leaf_any (HGA.out.keep (F':=fun j=>j < w6.heap.size) (fun j hj hlt=>HB6.out.block j hlt) (fun j hj hlt=>Nat.lt_of_lt_of_le hlt HB6.out.size)))
  have HLB:=hide (leaf_any (HGB.out.keep (F':=fun j=>j < w6.heap.size) (fun j hj hlt=>HB6.out.block j hlt) (fun j hj hlt=>Nat.lt_of_lt_of_le hlt HB6.out.size)))
  obtain ⟨ba,hba⟩:∃ x,decide (nda.2 = []) = x:=⟨_,rfl⟩
  obtain ⟨bb,hbb⟩:∃ x,decide (ndb.2 = []) = x:=⟨_,rfl⟩
  rw [hba] at HLA
  rw [hbb] at HLB
  have HBE:=hide (And.intro hba hbb)
  obtain ⟨dl,hdl⟩:∃ dl,(ndB xi xk).length = dl:=⟨_,rfl⟩
  have HDL:=hide hdl
  have HNB:=hide (nbytes_any (w:=w6) (g:=gn) (is:=xi) (ks:=xk) (HND.out.keep (F':=fun j=>j < w6.heap.size) (fun _ _ _=>rfl) (fun j hj hlt=>hlt)) (fun i hi=>by rw [← HXI.out] at hi; exact (List.mem_append.1 hi).elim (OKA.out.2.1 i) (OKB.out.2.1 i)) (fun i hi=>by rw [← HXK.out] at hi; exact (List.mem_append.1 hi).elim (OKA.out.2.2.1 i) (OKB.out.2.2.1 i)) (by
   have h1:=OKA.out.2.2.2
   have h2:=OKB.out.2.2.2
   rw [ndB_len] at h1 h2 ⊢
   rw [← HXI.out,← HXK.out]
   have e1:sumI (nda.1 ++ ndb.1) = sumI nda.1 + sumI ndb.1:=by unfold sumI; simp
   have e2:sumK (nda.2 ++ ndb.2) = sumK nda.2 + sumK ndb.2:=by unfold sumK; simp
   omega))
  rw [hdl] at HNB
  have him:(i:Int) + 1 ≤ 9223372036854775807:=by have:=HSU.out; have:=HMP.out; omega
  clear hba hbb hdl
  by_cases hbe:ba = bb
  ·subst hbe
   by_cases hsz:dl ≤ 505
   ·have d2:decide ((505:Int) < (dl:Int)) = false:=by simp; omega
    go_upto_region 15 with (
    (first | (have hx:=HL1; go_at_call 28; (refine HLB.out.mono ?_); rintro e w7 ⟨rfl,e2⟩; rw [e2]; clear e2 hx) | (go_at_call 28; (refine HLA.out.mono ?_); rintro e w7 ⟨rfl,e2⟩; rw [e2]; clear e2; have HL1:=HLA) | (go_at_call 73; (refine HNB.out.mono ?_); rintro e w7 ⟨v7,rfl,ho,hb⟩; have HB7:=hide hb; (obtain ⟨A7,c7,rfl,_⟩:=own_slice ho); clear ho hb))
    )
    obtain ⟨w8,hw8⟩:∃ w8,w7.alloc (.cells #[.pointer (some ⟨gn,0,none⟩)] 70) = w8:=⟨_,rfl⟩
    have HB8:=hide (show Below w6.heap.size w6 w8 from HB7.out.trans ((hw8 ▸ al_below w7 _:Below w7.heap.size w7 w8).mono HB7.out.size))
    have HM8:=hide (HM6.out.below HB8.out)
    have HN8:=hide (np_one (w:=w8) (F:=Sf w8 c mb vt m) (g:=w7.heap.size) (nd:=(xi,xk)) (hw8 ▸ Blk.new w7 70 _) (HM6.out.mw.fresh HB7.out.size (by rw [← hw8,heap_al]; omega)) (HN6.out.keep (F':=Sf w8 c mb vt m) (fun j hj hlt=>HB8.out.block j hlt) (fun j hj hlt=>(MkS.low HB8.out).sf hj)))
    have HOK:=hide (show ndOk (xi,xk) from by rw [← HXI.out,← HXK.out]; exact ndOk.app OKA.out OKB.out (by rw [HBE.out.1,HBE.out.2]) (by rw [HXI.out,HXK.out,HDL.out]; exact hsz))
    have htl:(took ++ T).length + 1 ≤ 1000000000:=by rw [List.length_append]; have:=HE.out.tl; have:=HM.out.gr.len; have:=Pg.hn HM.out.mw.pg; omega
    have hnn:m.N + 1 < 1000000000:=by omega
    have HSV:=hide (save_any HM8.out.mw (by have:=HM8.out.bb; have:=HM8.out.st.fr.size; omega) HN8.out (fun nd hnd=>by rw [List.mem_singleton] at hnd; rw [hnd]; exact HOK.out) (by rw [List.length_singleton]; exact hnn) (by rw [List.length_singleton]; exact htl))
    have HMP8:=hide (HMP6.out.below HB8.out)
    have HS8:=hide (HS6.out.keep (F':=Sf w8 c mb vt m) (by omega) @KdR.keep (fun j hj hlt=>HB8.out.block j hlt) (fun j hj hlt=>(MkS.low HB8.out).sf hj))
    have H98:=hide (H96.out.below HB8.out H96.out.lt)
    have H108:=hide (H106.out.below HB8.out H106.out.lt)
    clear hsz d2 htl hnn HB7
    go_upto_region 16 with (go_at_call 59; (try rw [hw8]); (refine HSV.out.mono ?_); rintro e w9 ⟨vt',m',T',s1,s2,s3,s4,s5,(⟨v,kds,rfl,s6,s7,s8⟩ | ⟨rfl,s6⟩)⟩)
    ·obtain ⟨k,rfl,hkk,hkc⟩:=saved_one s7
     obtain rfl:T' = [k.p]:=s8.symm
     obtain ⟨Av,cv,ev⟩:=s6.form
     have ev2:v = .slice Av 1 cv:=ev
     subst ev2
     obtain ⟨q1,q2,q3,_⟩:=s3.in_ k.p (by simp)
     obtain ⟨b1,b2,b3⟩:=page_ok s1.pg q1 q2
     obtain ⟨b5,o5,_,_,rfl,zb5,_,_,k5,_⟩:=s6.at_kd (j:=0) (by simp)
     have k6:w9.cell? ⟨b5,o5 + 1,none⟩ = some (.int .i64 (k.p:Int)):=by simpa using k5
     obtain ⟨hm9,hf9⟩:=HMP8.out.step s2 HM8.out.fs
     have HM9:=hide (show JM w w9 c B mb tb took vt0 m0 (T ++ [k.p]) vt' m' fb from { mw:=by rw [← List.append_assoc]; exact s1,st:=HM8.out.st.trans s2,fs:=hf9,fw:=HM8.out.fw,bb:=HM8.out.bb,gr:=HM8.out.gr.trans s3,nn:=by have:=HM8.out.nn; rw [List.length_append,List.length_singleton]; rw [List.length_singleton] at s5; omega })
     obtain ⟨w10,hrun,hm10,hg10⟩:=hm9.put (by omega) k.p b3
     have HM10:=hide (HM9.out.mapped hm9 hg10)
     obtain ⟨h99,s99⟩:=H98.out.step s2 S9.out
     obtain ⟨h109,s109⟩:=H108.out.step s2 S10.out
     have H910:=hide (h99.grown hg10 (fun e=>hm9.ne h99 (by injection e with e; exact e.symm)))
     have H1010:=hide (h109.grown hg10 (fun e=>hm9.ne h109 (by injection e with e; exact e.symm)))
     have CH10:=hide (fun (v:Value) (l:List Kd) (hv:SLk 2 KdR w9 (Sf w9 c mb vt' m') v l)=>SLk.off (F':=Sf w10 c mb vt' m') (fb:=fb) (by omega) KdR.off hv (fun o v=>hm9.no) (fun j hj hne hlt=>hg10.block j hlt (fun e=>hne (by injection e))) (fun j hj _ hlt=>⟨Nat.lt_of_lt_of_le hlt hg10.size,hj.2⟩))
     have HS10:=hide (CH10.out _ _ (s2.slk @KdR.keep (by omega) HS8.out))
     have HK10:=hide (CH10.out _ _ s6)
     have HMP10:=hide hm10
     have HRUN:=hide hrun
     have hka:(w10.cell? ⟨g9,1,none⟩) = some (.int .i64 (a.1.p:Int)):=by have:=H910.out.cell 1; simpa using this
     have hkb:(w10.cell? ⟨g10,1,none⟩) = some (.int .i64 (b.1.p:Int)):=by have:=H1010.out.cell 1; simpa using this
     have z9:=H910.out.lt
     have z10:=H1010.out.lt
     obtain ⟨w11,hw11⟩:∃ w11,w10.alloc (.cells #[.int .i64 (a.1.p:Int),.int .i64 (b.1.p:Int)] TI64) = w11:=⟨_,rfl⟩
     have HB11:=hide (hw11 ▸ al_below w10 _:Below w10.heap.size w10 w11)
     have HM11:=hide (HM10.out.below HB11.out)
     obtain ⟨st3,T3,e3,g3,t3,j3⟩:=JL.merge HJ.out HM.out.gr HE.out.us HE.out.ut HE.out.tk s3 (cp:=k.p) ⟨(HJ.out.kid a (by simp)).ok.1,(HJ.out.kid a (by simp)).ok.2.1,b2,b3⟩ b1 OKA.out OKB.out IA.out IB.out KA.out (by rw [HBE.out.1,HBE.out.2]) (by have:=HOK.out.2.2.2; rwa [← HXI.out,← HXK.out] at this) (by rw [HXI.out,HXK.out]; exact hkc)
     have HDR:=hide (drop_any (ps:=[a.1.p,b.1.p]) HM11.out.mw (g:=w10.heap.size) (hw11 ▸ Blk.new w10 TI64 _) (HM10.out.mw.fresh (Nat.le_refl _) (by rw [← hw11,heap_al]; omega)) (fun p hp=>by
      simp only [List.mem_cons,List.not_mem_nil,or_false] at hp
      rcases hp with rfl | rfl
      ·exact (HJ.out.kid a (by simp)).pg
      ·exact (HJ.out.kid b (by simp)).pg) (by simp) (by rw [List.length_append]; have:=HE.out.tl; have:=HM11.out.gr.len; have:=Pg.hn HM11.out.mw.pg; omega))
     rw [e3] at HDR
     have HJ3:=hide j3
     have HG3:=hide g3
     have HS4:=hide s4
     have HS5:=hide s5
     have HKK:=hide (show k.k = a.1.k from by rw [hkk,← KA.out,← hdK_app OKA.out OKB.out (by rw [HBE.out.1,HBE.out.2]),HXI.out,HXK.out])
     clear s1 s2 s3 s4 s5 s6 s7 s8 hkk hkc hm9 hf9 hg10 hm10 h99 s99 h109 s109 CH10 e3 g3 j3 q1 q2 q3 b1 b2 b3 k5 ev H910 H1010 HS8 H98 H108 HMP8 HSV HN8
     clear HLA HLB HNB HN6 HND HMP6 H96 H106 HBA HBB HSA HSB HKA HKB HGA HGB IA IB OKA OKB HOK
     have HT3:=hide t3
     clear t3
     go_upto_region 20 with (go_at_call 74; (try rw [hw11]); (refine HDR.out.mono ?_); rintro e w12 ⟨rfl,vt2,hmk,hms⟩; have HMK:=hide hmk; have HMS:=hide hms; clear hmk hms)
     obtain ⟨m3,hm3⟩:∃ m3,m'.dropped st3 = m3:=⟨_,rfl⟩
     have HN3:=hide (show m3.N = m'.N from by rw [← hm3]; rfl)
     have HM12:=hide (show JM w w12 c B mb tb took vt0 m0 T3 vt2 m3 fb from hm3 ▸ { mw:=HMK.out,st:=HM11.out.st.trans HMS.out,fs:=((HMP10.out.below HB11.out).step HMS.out HM11.out.fs).2,fw:=HM11.out.fw,bb:=HM11.out.bb,gr:=HG3.out,nn:=by have h1:=HT3.out; have h2:=HM11.out.nn; rw [List.length_append,List.length_singleton] at h2; show m0.N + T3.length ≤ m'.N; omega })
     have HMP12:=hide ((HMP10.out.below HB11.out).step HMS.out HM11.out.fs).1
     have CH12:=hide (fun (v:Value) (l:List Kd) (hv:SLk 2 KdR w10 (Sf w10 c mb vt' m') v l)=>(show SLk 2 KdR w12 (Sf w12 c mb vt2 m3) v l from hm3 ▸ HMS.out.slk @KdR.keep (by omega) (hv.keep (F':=Sf w11 c mb vt' m') (by omega) @KdR.keep (fun j hj hlt=>HB11.out.block j hlt) (fun j hj hlt=>(MkS.low HB11.out).sf hj))))
     have HS12:=hide (CH12.out _ _ HS10.out)
     have HK12:=hide (CH12.out _ _ HK10.out)
     have HJ12:=hide (show JL c m3 U V T3 h (l1 ++ (⟨a.1.k,k.p⟩,a.2 ++ b.2) :: l2) from hm3 ▸ HJ3.out)
     have hl1:l1.length = i:=HI.out
     have e1:((l1 ++ a :: b :: l2).map Prod.fst).take i = l1.map Prod.fst:=by rw [← List.map_take,List.take_left' hl1]
     have e2:((l1 ++ a :: b :: l2).map Prod.fst).drop (i + 2) = l2.map Prod.fst:=by rw [← List.map_drop,show i + 2 = l1.length + 2 from by omega,List.drop_length_add_append]; rfl
     have HL1:=hide (e1 ▸ HS12.out.cutTo (i:=i) (fun a cs h=>KdR.two a cs h) (by omega))
     have hcf:=HS12.out.cutFrom (i:=i + 2) (fun a cs h=>KdR.two a cs h) (by omega) hil
     rw [e2] at hcf
     have HCF:=hide hcf
     clear hm3 hw11 hka hkb z9 z10 HRUN HDR HMK HMS HM11 HB11 HMP10 HS10 HK10 CH12 HJ3 HG3 HT3 HM10 HM9 hrun hcf e1 e2 hl1 k6 zb5
     obtain ⟨xc,hxc⟩:∃ xc,l1.map Prod.fst ++ ([k] ++ l2.map Prod.fst) = xc:=⟨_,rfl⟩
     have HXC:=hide hxc
     have hxl:(l1.map Prod.fst ++ ([k] ++ l2.map Prod.fst)).length ≤ 100000000:=by have:=HL.out; simp at this ⊢; omega
     have HXL:=hide hxl
     have hic:i ≤ cc:=by omega
     obtain ⟨i2,hi2⟩:∃ i2,i2 = i + 2:=⟨_,rfl⟩
     have hwi:IntKind.i64.wrap ((i:Int) + 2) = (i2:Int):=by rw [IntKind.wrap_i64]; unfold maxLen at ncm; omega
     rw [← hi2] at HCF hil
     have hic2:i2 ≤ cc:=by omega
     have HI2:=hide hi2
     have HTL:=hide (show ∃ At:Option Addr,((cc = i2 ∧ At = some ⟨bl,ol,none⟩) ∨ (cc ≠ i2 ∧ At = some ⟨bl,ol + i2 * 2,none⟩)) ∧ SLk 2 KdR w12 (Sf w12 c mb vt2 m3) (.slice At (n - i2) (cc - i2)) (l2.map Prod.fst) from by
      by_cases hcc:cc = i2
      ·have hni:n = i2:=by omega
       refine ⟨_,.inl ⟨hcc,rfl⟩,?_⟩
       have:=HCF.out.2 hni (some ⟨bl,ol,none⟩)
       rwa [show n - i2 = 0 from by omega]
      ·exact ⟨_,.inr ⟨hcc,rfl⟩,HCF.out.1⟩)
     obtain ⟨At,hAt,hSt⟩:=HTL.out
     have HST:=hide hSt
     have HAT:=hide hAt
     clear hxc hxl hAt hSt HTL HCF hi2
     go_upto_region 20 with fail
     refine wp_region_dagO (by kernel_rfl) (by kernel_rfl) 141 0
      [⟨some 127,[0],[],[],[],[],fun _ _ v _=>v = .slice (some ⟨bl,ol,none⟩) n cc⟩,
       ⟨some 128,[0],[],[],[],[],fun _ _ v _=>v = .int .i64 (i:Int)⟩,
       ⟨some 129,[0],[],[],[0,1],[],fun _ _ v _=>v = .slice (some ⟨bl,ol,none⟩) i cc⟩,
       ⟨some 130,[0],[],[],[],[],fun _ _ v _=>v = .slice (some ⟨b5,o5,none⟩) 1 cv⟩,
       ⟨some 131,[0],[],[],[],[],fun _ _ v _=>v = .slice (some ⟨bl,ol,none⟩) n cc⟩,
       ⟨some 132,[0],[],[],[],[],fun _ _ v _=>v = .int .i64 (i:Int)⟩,
       ⟨some 133,[0],[],[],[5],[],fun _ _ v _=>v = .int .i64 (i2:Int)⟩,
       ⟨some 134,[0],[],[],[4,6],[],fun _ _ v _=>v = .slice At (n - i2) (cc - i2)⟩,
       ⟨some 135,[0],[],[],[2,3,7],[],fun st a v w'=>∃ g,v = .slice (some ⟨g,0,none⟩) 3 3 ∧ w12.heap.size ≤ g ∧ Blk w' g 75 #[.slice (some ⟨bl,ol,none⟩) i cc,.slice (some ⟨b5,o5,none⟩) 1 cv,.slice At (n - i2) (cc - i2)]⟩,
       ⟨some 136,[0],[],[],[8],[],fun st a v w'=>∃ A' n' c',v = .slice A' n' c' ∧ SLk 2 KdR w' (FJ w12 c mb vt2 m3) (.slice A' n' c') xc⟩,
       ⟨some 1,[0],[],[],[9],[],fun st a v w'=>∃ A' n' c',v = .slice A' n' c' ∧ SLk 2 KdR w' (FJ w12 c mb vt2 m3) (.slice A' n' c') xc⟩] (fun _ w'=>Below w12.heap.size w12 w') (fun _ _ _ _ _=>False) (fun _ w w'=>Below w.heap.size w w') ?gu ?ru ?put [127,128,129,130,131,132,133,134,135,136,1] rfl (by kernel_rfl) rfl ?g0 ?keep ?steps ?fin
     case ru=>
      intro e he s a v w w' hu hv
      simp only [List.mem_cons,List.not_mem_nil,or_false] at he
      rcases he with rfl | rfl | rfl | rfl | rfl | rfl | rfl | rfl | rfl | rfl | rfl
      all_goals first | exact hv | (obtain ⟨g,e,hg,hb⟩:=hv; exact ⟨g,e,hg,hb.below hu hb.lt⟩) | (obtain ⟨a1,a2,a3,e,h⟩:=hv; exact ⟨a1,a2,a3,e,h.keep (by omega) @KdR.keep (fun j hj hlt=>hu.block j hlt) (fun j hj _=>hj)⟩)
     case put=>
      intro e he s a d u v w hnd hv
      simp only [List.mem_cons,List.not_mem_nil,or_false] at he
      rcases he with rfl | rfl | rfl | rfl | rfl | rfl | rfl | rfl | rfl | rfl | rfl
      all_goals first | exact hv
     case keep=>
      intro e he s s' a v w w' hsl hm ht hv
      simp only [List.mem_cons,List.not_mem_nil,or_false] at he
      rcases he with rfl | rfl | rfl | rfl | rfl | rfl | rfl | rfl | rfl | rfl | rfl
      all_goals first | exact hv | (exact ht.elim)
     case steps=>
      refine ⟨?_,?_,?_,?_,?_,?_,?_,?_,?_,?_,?_,trivial⟩
      ·intro st hst ac w3 hg hG hd ho K hK
       dsimp only at hst hG hK
       exact op_move _ rfl (hK _ _ (Below.refl _ _) (ho 10 _ rfl (by decide) (by kernel_rfl) 1 rfl))
      ·intro st hst ac w3 hg hG hd ho K hK
       dsimp only at hst hG hK
       exact op_move _ rfl (hK _ _ (Below.refl _ _) (hg.kp 8 (by simp)))
      ·intro st hst ac w3 hg hG hd ho K hK
       dsimp only at hst hG hK
       have f0:=hd 0 (by simp) _ rfl _ rfl
       have f1:=hd 1 (by simp) _ rfl _ rfl
       (try simp [Act.eval] at f0)
       (try simp [Act.eval] at f1)
       go_simp
       exact hK _ _ (Below.refl _ _) rfl
      ·intro st hst ac w3 hg hG hd ho K hK
       dsimp only at hst hG hK
       exact op_move _ rfl (hK _ _ (Below.refl _ _) (hg.kp 15 (by simp)))
      ·intro st hst ac w3 hg hG hd ho K hK
       dsimp only at hst hG hK
       exact op_move _ rfl (hK _ _ (Below.refl _ _) (ho 10 _ rfl (by decide) (by kernel_rfl) 1 rfl))
      ·intro st hst ac w3 hg hG hd ho K hK
       dsimp only at hst hG hK
       exact op_move _ rfl (hK _ _ (Below.refl _ _) (hg.kp 8 (by simp)))
      ·intro st hst ac w3 hg hG hd ho K hK
       dsimp only at hst hG hK
       have f5:=hd 5 (by simp) _ rfl _ rfl
       (try simp [Act.eval] at f5)
       go_simp
       exact hK _ _ (Below.refl _ _) rfl
      ·intro st hst ac w3 hg hG hd ho K hK
       dsimp only at hst hG hK
       have f4:=hd 4 (by simp) _ rfl _ rfl
       have f6:=hd 6 (by simp) _ rfl _ rfl
       clear hG
       simp [Act.eval] at f4 f6
       have hcl:=hic2
       rcases HAT.out with ⟨h1,rfl⟩ | ⟨h1,rfl⟩
       (subst h1; go_simp; exact hK _ _ (Below.refl _ _) (by simp; omega))
       (have h2:i2 < cc:=by omega)
       (go_simp; exact hK _ _ (Below.refl _ _) rfl)
      ·intro st hst ac w3 hg hG hd ho K hK
       dsimp only at hst hG hK
       have f2:=hd 2 (by simp) _ rfl _ rfl
       have f3:=hd 3 (by simp) _ rfl _ rfl
       have f7:=hd 7 (by simp) _ rfl _ rfl
       have HG9:=hide hG
       clear hG
       simp [Act.eval] at f2 f3 f7
       go_simp
       exact hK _ _ (al_below w3 _) ⟨_,rfl,HG9.out.size,Blk.new _ _ _⟩
      ·intro st hst ac w3 hg hG hd ho K hK
       dsimp only at hst hG hK
       obtain ⟨g,f8,hg,hbl⟩:=hd 8 (by simp) _ rfl _ rfl
       have HG9:=hide hG
       have HS2:=hide (slr_three (F:=FJ w12 c mb vt2 m3) hbl (.inr hg) (HL1.out.keep (by omega) @KdR.keep (fun j hj hlt=>HG9.out.block j hlt) (fun j hj _=>.inl hj)) (HK12.out.keep (by omega) @KdR.keep (fun j hj hlt=>HG9.out.block j hlt) (fun j hj _=>.inl hj)) (HST.out.keep (by omega) @KdR.keep (fun j hj hlt=>HG9.out.block j hlt) (fun j hj _=>.inl hj)))
       clear hG hbl hg
       simp [Act.eval] at f8
       go_simp
       (refine (concat_kids HS2.out (by simp) (by have:=HXL.out; simpa using this)).mono ?_)
       rintro e w5 ⟨v',rfl,hgr,hb⟩
       have h5:=hgr.fresh_slk (by omega) @KdR.keep hb (fun g hg=>.inr (Nat.le_trans HG9.out.size hg))
       obtain ⟨⟨A',n',c',rfl⟩,h6⟩:=h5
       exact hK _ _ hb ⟨A',n',c',rfl,by rw [← HXC.out]; simpa using h6⟩
      ·intro st hst ac w3 hg hG hd ho K hK
       dsimp only at hst hG hK
       exact op_assign _ rfl (hK _ _ (Below.refl _ _) (hd 9 (by simp) _ rfl _ rfl))
     case gu=>intro s a b hG hu; exact hG.trans (hu.mono hG.size)
     case g0=>exact (Below.refl _ _).drew
     case fin=>
      intro f9 w13 hG hall
      obtain ⟨A',n',c',e1,hsl⟩:=hall _ (List.mem_of_getElem? (i:=10) rfl) 1 rfl
      have HB13:=hide hG
      have HSL:=hide hsl
      clear hall hG hsl
      simp only [fillF,List.map_cons,List.map_nil,List.foldl_cons,List.foldl_nil,Act.put,List.setIfInBounds_toArray,List.set_cons_zero,List.set_cons_succ]
      rw [e1]
      clear e1
      obtain ⟨xn,xm,xe⟩:=HSL.out.caps
      have hz:(l1 ++ ((⟨a.1.k,k.p⟩,a.2 ++ b.2):KI) :: l2).map Prod.fst = xc:=by
       rw [← HXC.out,List.map_append,List.map_cons]
       have:k = ⟨a.1.k,k.p⟩:=by rw [← HKK.out]
       rw [this]
       rfl
      have HZ:=hide hz
      have HXE:=hide xe
      clear hz xe
      go_wp2_with fail
      have hmx:max ((i:Int) - 1) 0 = ((i - 1:Nat):Int):=by omega
      rw [hmx]
      have hln:n' + 1 = n:=by rw [HXE.out,← HXC.out,← HL.out]; simp; omega
      refine HQ.out.1 _ _ _ _ _ _ _ _ _ _ _ _ _ _ _ _ _ _ _ _ _ _ _ _ _ _ _ _ _ _ _ _ _ _ _ _ _ _ _ _ _ _ _ _ _ _ _ _ _ _ _ _ _ _ _ _ _ _ _ _ _ _ _ _ _ _ _ _ _ _ _ _ _ _ _ _ _ _ _ _ _ _ _ _ _ _ _ _ _ _ _ _ _ _ _ _ _ _ _ _ _ _ _ _ _ _ _ _ _ _ _ _ _ _ _ _ _ _ _ _ _ _ _ _ _ _ _ _ _ _ _ A' n' c' (i - 1) w13 ⟨T3,vt2,m3,l1 ++ (⟨a.1.k,k.p⟩,a.2 ++ b.2) :: l2,cnt + 1,HM12.out.below HB13.out,?_,?_,HMP12.out.below HB13.out,HJ12.out,?_,?_,by omega,?_⟩ hln rfl
      ·have h1:=congrArg List.length HZ.out
       rw [List.length_map] at h1
       rw [h1,← HXE.out]
      ·rw [HZ.out]
       exact HSL.out.keep (F':=Sf w13 c mb vt2 m3) (by omega) @KdR.keep (fun _ _ _=>rfl) (fun j hj hlt=>hj.elim (fun h=>(MkS.low HB13.out).sf h) (fun h=>HM12.out.mw.fresh h hlt))
      ·rw [← HIS.out]
       simp
      ·have h1:=HS4.out
       have h2:=HN3.out
       rw [List.length_singleton] at h1
       omega
      ·have h1:=HSU.out
       refine Nat.le_trans ?_ h1
       rw [List.map_append,List.map_append,List.map_cons,List.map_cons,List.map_cons,sumK_ap,sumK_ap,sumK_co,sumK_co,sumK_co]
       have:szK (⟨a.1.k,k.p⟩:Kd) = szK a.1:=rfl
       show _ + (szK (⟨a.1.k,k.p⟩:Kd) + _) ≤ _
       omega
    ·have HJM:=hide (show JM w w9 c B mb tb took vt0 m0 (T ++ T') vt' m' fb from { mw:=by rw [← List.append_assoc]; exact s1,st:=HM8.out.st.trans s2,fs:=(HMP8.out.step s2 HM8.out.fs).2,fw:=HM8.out.fw,bb:=HM8.out.bb,gr:=HM8.out.gr.trans s3,nn:=by have:=HM8.out.nn; rw [List.length_append]; omega })
     have hnr:m'.N ≤ N1:=by rw [List.length_singleton] at s4; omega
     clear s1 s2 s3 s4 s5 s6
     go_wp2_with fail
     exact HQ.out.2.2 _ _ _ _ _ _ _ _ _ _ _ _ _ _ _ _ _ _ _ _ _ _ _ _ _ _ _ _ _ _ _ _ _ _ _ _ _ _ _ _ _ _ _ _ _ _ _ _ _ _ _ _ _ _ _ _ _ _ _ _ _ _ _ _ _ _ _ _ _ _ _ _ _ _ _ _ _ _ _ _ _ _ _ _ _ _ _ _ _ _ _ _ _ _ _ _ _ _ _ _ _ _ _ _ _ _ _ _ _ _ _ _ _ _ _ _ _ _ _ _ _ _ _ _ _ _ _ _ _ _ _ _ _ _ _ _ w9 HJM.out hnr
   ·have d2:decide ((505:Int) < (dl:Int)) = true:=by simp; omega
    go_wp2_with (
    (first | (have hx:=HL1; go_at_call 28; (refine HLB.out.mono ?_); rintro e w7 ⟨rfl,e2⟩; rw [e2]; clear e2 hx) | (go_at_call 28; (refine HLA.out.mono ?_); rintro e w7 ⟨rfl,e2⟩; rw [e2]; clear e2; have HL1:=HLA) | (go_at_call 73; (refine HNB.out.mono ?_); rintro e w7 ⟨v7,rfl,ho,hb⟩; have HB7:=hide hb; (obtain ⟨A7,c7,rfl,_⟩:=own_slice ho); clear ho hb))
    )
    exact HQ.out.2.1 _ _ _ _ _ _ _ _ _ _ _ _ _ _ _ _ _ _ _ _ _ _ _ _ _ _ _ _ _ _ _ _ _ _ _ _ _ _ _ _ _ _ _ _ _ _ _ _ _ _ _ _ _ _ _ _ _ _ _ _ _ _ _ _ _ _ _ _ _ _ _ _ _ _ _ _ _ _ _ _ _ _ _ _ _ _ _ _ _ _ _ _ _ _ _ _ _ _ _ _ _ _ _ _ _ _ _ _ _ _ _ _ _ _ _ _ _ _ _ _ _ _ _ _ _ _ _ _ _ _ _ w7 ⟨T,vt,m,_,cnt,HM6.out.below HB7.out,HL.out,HS6.out.keep (F':=Sf w7 c mb vt m) (by omega) @KdR.keep (fun j hj hlt=>HB7.out.block j hlt) (fun j hj hlt=>(MkS.low HB7.out).sf hj),HMP6.out.below HB7.out,HJ.out,HIS.out,hn,hk,HSU.out⟩
  ·obtain ⟨rfl,rfl⟩ | ⟨rfl,rfl⟩:(ba = true ∧ bb = false) ∨ (ba = false ∧ bb = true):=by cases ba <;> cases bb <;> simp at hbe ⊢
   all_goals clear hbe
   all_goals
    go_wp2_with (first | (have hx:=HL1; go_at_call 28; (refine HLB.out.mono ?_); rintro e w7 ⟨rfl,e2⟩; rw [e2]; clear e2 hx) | (go_at_call 28; (refine HLA.out.mono ?_); rintro e w7 ⟨rfl,e2⟩; rw [e2]; clear e2; have HL1:=HLA))
    exact HQ.out.2.1 _ _ _ _ _ _ _ _ _ _ _ _ _ _ _ _ _ _ _ _ _ _ _ _ _ _ _ _ _ _ _ _ _ _ _ _ _ _ _ _ _ _ _ _ _ _ _ _ _ _ _ _ _ _ _ _ _ _ _ _ _ _ _ _ _ _ _ _ _ _ _ _ _ _ _ _ _ _ _ _ _ _ _ _ _ _ _ _ _ _ _ _ _ _ _ _ _ _ _ _ _ _ _ _ _ _ _ _ _ _ _ _ _ _ _ _ _ _ _ _ _ _ _ _ _ _ _ _ _ _ _ w6 ⟨T,vt,m,_,cnt,HM6.out,HL.out,HS6.out,HMP6.out,HJ.out,HIS.out,hn,hk,HSU.out⟩
end
end Go.Proofs.Ytkolacaceaamoaa
