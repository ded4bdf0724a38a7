/- The law's done: an item between two others. -/
import Derived.Test.YtkolacaceaamoaaKTb
set_option linter.unusedSimpArgs false
set_option linter.unusedVariables false
namespace Go.Proofs.Ytkolacaceaamoaa
open Go.RowKit
open Go.Lib (compareBytes)
def inLoopD:Code → Code
 | .seq (.seq _ (.block _ (.loop (.seq _ (.seq (.block _ b) _))))) _=>b
 | c=>c
/-- The second loop's round, from its k-th statement on. -/
noncomputable def BE (k:Nat):Code:=dropS' k (inLoopD (BD 3))
noncomputable def CE (k:Nat):Code:=match BE k with
 | .seq a _=>a
 | c=>c
def ItF (w':World) (F:Nat → Prop) (v:Value) (n:Nat) (l:List It):Prop:=∃ A c xs,v = .slice A n c ∧ xs.length = n * 2 ∧ Reads w' w'.heap.size 2 A n xs ∧ LR (ItR w' F) l xs
theorem ItF.of {w':World} {F:Nat → Prop} {v:Value} {l:List It} (h:SLk 2 ItR w' F v l) (hF:∀ j,F j → j < w'.heap.size):ItF w' F v l.length l:=by
 obtain ⟨A,c,xs,e,hc,hr,hl⟩:=h
 exact ⟨A,c,xs,e,hr.1,hr.reads hF,hl⟩
theorem ItF.below {w w':World} {b:Nat} {v:Value} {n:Nat} {l:List It} (h:ItF w (fun j=>b ≤ j ∧ j < w.heap.size) v n l) (hb:Below w.heap.size w w'):ItF w' (fun j=>b ≤ j ∧ j < w'.heap.size) v n l:=by
 obtain ⟨A,c,xs,e,h1,h2,h3⟩:=h
 refine ⟨A,c,xs,e,h1,⟨h2.1,fun h0=>?_⟩,LR.mono (fun a cs=>ItR.keep (fun j hj hlt=>hb.block j hlt) (fun j hj hlt=>⟨hj.1,Nat.lt_of_lt_of_le hlt hb.size⟩) a cs) _ _ h3⟩
 obtain ⟨ad,e1,e2,e3⟩:=h2.2 h0
 exact ⟨ad,e1,Nat.lt_of_lt_of_le e2 hb.size,fun j u hu=>(hb.cell (by rw [show (ad.add j).block = ad.block from by unfold Addr.add; split <;> rfl]; exact e2)).trans (e3 j u hu)⟩
theorem itR_ones {w:World} {F:Nat → Prop} {l:List It} {xs:List Value} (h:LR (ItR w F) l xs):∀ u ∈ xs,u.oneCell' = true:=LR.ones (fun a cs h u hu=>by
 obtain ⟨v1,v2,rfl,⟨_,_,ea,_⟩,⟨_,_,eb,_⟩⟩:=h
 simp at hu
 rcases hu with rfl | rfl
 ·rw [ea]; rfl
 ·rw [eb]; rfl) _ _ h
def GI (w1 wr:World) (A:Option Addr) (n cap:Nat) (st:Nat) (w':World):Prop:=Below w1.heap.size w1 w' ∧ (st ≤ 1 → Below wr.heap.size wr w') ∧ wr.heap.size ≤ w'.heap.size ∧ ∀ j,j < wr.heap.size → (Value.slice A n cap).ownBlock ≠ some j → w'.heap[j]? = wr.heap[j]?
theorem GI.step {w1 wr w2 w3:World} {A:Option Addr} {n cap st:Nat} (h:GI w1 wr A n cap st w2) (hb:Below w2.heap.size w2 w3):GI w1 wr A n cap st w3:=
 ⟨h.1.trans (hb.mono h.1.size),fun e=>(h.2.1 e).trans (hb.mono (h.2.1 e).size),Nat.le_trans h.2.2.1 hb.size,fun j hj hn=>(hb.block j (Nat.lt_of_lt_of_le hj h.2.2.1)).trans (h.2.2.2 j hj hn)⟩
section
variable {v0 v1 v2 v6 v7 v8 v11 v13 v14 v15 v16 v17 v18 v19 v20 v21 v22 v23 v24 v25 v26 v27 v28 v29 v30 v31 v32 v33 v34 v35 v36 v37 v38 v39 v40 v41 v42 v43 v44 v45 v46 v47 v48 v49 v50 v51 v52 v53 v54 v55 v56 v57 v58 v59 v60 v61 v62 v63 v64 v65 v66 v67 v68 v69 v70 v71 v72 v73 v74 v75 v89:Value}
variable {Q:Exit → Act → World → Prop} {w1 wr:World} {bx:Nat} {K:Int} {Ap Ag A:Option Addr} {np cp ng cg n cap:Nat} {l L put:List It} {gone:List Cn}
set_option maxRecDepth 100000 in
set_option maxHeartbeats 8000000 in
theorem done_ins {i k m cr:Nat} {Ar:Option Addr} {x:It} (hQ:∀ (u76 u77 u78 u79 u80 u81 u82 u83 u84 u85 u86 u87 u88:Value) (w':World) (A':Option Addr) (c':Nat),DnS w1 (L.take k ++ [x] ++ L.drop k) w' A' (n + 1) c' → Q .normal { tmps:=#[v0,v1,v2,.pointer (some ⟨bx,0,none⟩),.slice none 0 0,.slice A' (n + 1) c',v6,v7,v8,.int .i64 (i:Int),.int .i64 (k:Int),v11,.slice Ar m cr,v13,v14,v15,v16,v17,v18,v19,v20,v21,v22,v23,v24,v25,v26,v27,v28,v29,v30,v31,v32,v33,v34,v35,v36,v37,v38,v39,v40,v41,v42,v43,v44,v45,v46,v47,v48,v49,v50,v51,v52,v53,v54,v55,v56,v57,v58,v59,v60,v61,v62,v63,v64,v65,v66,v67,v68,v69,v70,v71,v72,v73,v74,v75,u76,u77,u78,u79,u80,u81,u82,u83,u84,u85,u86,u87,u88,v89],defers:=[] } w')
  (hbx:Blk w1 bx TSp #[.int .i64 K,.slice Ap np cp,.slice Ag ng cg]) (hp:SLk 2 ItR w1 (fun j=>j < w1.heap.size) (.slice Ap np cp) put) (hnp:put.length = np) (hnp1:np ≤ 1000) (hi:i < put.length) (hx:put[i] = x) (hxl:x.k.length ≤ 1073741824 ∧ x.v.length ≤ 1073741824)
  (hs:DnS w1 L wr A n cap) (hn:n ≤ 1000000) (hk:k ≤ n) (hm:m = n - k) (hr:SLk 2 ItR wr (fun j=>w1.heap.size ≤ j ∧ j < wr.heap.size ∧ (Value.slice A n cap).ownBlock ≠ some j) (.slice Ar m cr) (L.drop k))
  (u76 u77 u78 u79 u80 u81 u82 u83 u84 u85 u86 u87 u88:Value):Code.wp Try.prog (BE 3) Q { tmps:=#[v0,v1,v2,.pointer (some ⟨bx,0,none⟩),.slice none 0 0,.slice A n cap,v6,v7,v8,.int .i64 (i:Int),.int .i64 (k:Int),v11,.slice Ar m cr,v13,v14,v15,v16,v17,v18,v19,v20,v21,v22,v23,v24,v25,v26,v27,v28,v29,v30,v31,v32,v33,v34,v35,v36,v37,v38,v39,v40,v41,v42,v43,v44,v45,v46,v47,v48,v49,v50,v51,v52,v53,v54,v55,v56,v57,v58,v59,v60,v61,v62,v63,v64,v65,v66,v67,v68,v69,v70,v71,v72,v73,v74,v75,u76,u77,u78,u79,u80,u81,u82,u83,u84,u85,u86,u87,u88,v89],defers:=[] } wr:=by
 obtain ⟨i0,hi0,hz0,hz1,hz2⟩:=tit_inf
 have HI0:=hide hi0
 have HZ0:=hide hz0
 have HQ:=hide hQ
 obtain ⟨hgr,hLn,hPB⟩:=hs
 have hbel:=hgr.bel
 have hbb:=hbx.below hbel hbx.lt
 have kb:=hbb.cell; have fz:=hbb.frozen; have zb:=hbb.lt
 obtain ⟨xs,hxo,hxl2⟩:=hgr.row
 rw [hLn] at hxo
 have hAF:(A = none ∧ n = 0 ∧ cap = 0) ∨ ∃ g,A = some ⟨g,0,none⟩ ∧ n ≤ cap ∧ cap ≤ maxLen:=by
  rcases hxo.2 with ⟨e,hz⟩ | ⟨g,c',cur,e,hb,hh,hc,hm,_⟩
  ·injection e with e1 _ e3
   exact .inl ⟨e1,hz,e3⟩
  ·injection e with e1 _ e3
   subst e1 e3
   exact .inr ⟨g,rfl,hc,hm⟩
 have HAF:=hide hAF
 have hin:i < np:=by omega
 obtain ⟨Ap',cp',xsp,ep,hcp,-,-⟩:=id hp
 injection ep with ep1 ep2 ep3
 obtain ⟨hcp1,hcp2⟩:=hcp
 rw [hnp] at hcp1
 subst ep3
 have hicp:i + 1 ≤ cp:=by omega
 have hcpm:cp ≤ 9223372036854775807:=by unfold maxLen at hcp2; omega
 obtain ⟨bp,op,rfl⟩:∃ b o,Ap = some ⟨b,o,none⟩:=by
  obtain ⟨b,o,_,_,_,_,e,_⟩:=hp.at_it hi
  exact ⟨b,o,e⟩
 have hcut:=hp.cutFrom (i:=i) (fun a cs h=>itR_len a cs h) (by omega) (by omega)
 have hc1:=SLk.cutTo (i:=1) (fun a cs h=>itR_len a cs h) hcut.1 (by omega)
 have htk:(put.drop i).take 1 = [x]:=by rw [List.drop_eq_getElem_cons hi,hx]; rfl
 rw [htk] at hc1
 have HC1:=hide hc1
 have HBX:=hide hbx
 have HXO:=hide hxo
 have HXT:=hide (own_take hxo hk)
 have HLT:=hide (show (L.take k).length = k by rw [List.length_take]; omega)
 have HLD:=hide (show (L.drop k).length = n - k by rw [List.length_drop]; omega)
 have HGT:=hide (hgr.take_ (j:=k) (fun w F=>itR_len) hLn hk)
 have HXL:=hide (LR.take (itR_len (w:=wr)) k _ _ hxl2)
 have HPB:=hide hPB
 have HGR:=hide hgr
 have HRS:=hide hr
 have hb1:=hbel.size
 have hm0:m = n - k:=hm
 have HM:=hide hm
 obtain ⟨i1,hi1⟩:∃ q,q = i + 1:=⟨_,rfl⟩
 have hwi:IntKind.i64.wrap ((i:Int) + 1) = (i1:Int):=by rw [IntKind.wrap_i64]; omega
 have hii:i ≤ i1:=by omega
 have hi1c:i1 ≤ cp:=by omega
 have hnci:¬ cp = i:=by omega
 have HI1:=hide hi1
 have HOB:=hide (fun j (hj:(Value.slice A k cap).ownBlock = some j)=>((own_take hxo hk).lt j hj).2)
 clear hi1 hicp hQ hgr hLn hPB hbel hbb hxo hxl2 hAF hcut hc1 htk hbx hp hr ep1 ep2 hnp hi hx hm hm0 kb fz zb
 conv=>arg 2; whnf
 refine wp_region_dagO (by kernel_rfl) (by kernel_rfl) 90 3
  [⟨some 76,[0,1,2,3],[],[],[],[],fun _ _ v _=>v = .slice A n cap⟩,
   ⟨some 77,[0,1,2,3],[],[],[],[],fun _ _ v _=>v = .int .i64 (k:Int)⟩,
   ⟨some 78,[0,1,2,3],[],[],[0,1],[],fun _ _ v _=>v = .slice A k cap⟩,
   ⟨some 79,[0,1,2,3],[],[],[],[],fun _ _ v _=>v = .pointer (some ⟨bx,1,none⟩)⟩,
   ⟨some 80,[0,1,2,3],[],[],[3],[],fun _ _ v _=>v = .slice (some ⟨bp,op,none⟩) np cp⟩,
   ⟨some 81,[0,1,2,3],[],[],[],[],fun _ _ v _=>v = .int .i64 (i:Int)⟩,
   ⟨some 82,[0,1,2,3],[],[],[],[],fun _ _ v _=>v = .int .i64 (i:Int)⟩,
   ⟨some 83,[0,1,2,3],[],[],[6],[],fun _ _ v _=>v = .int .i64 (i1:Int)⟩,
   ⟨some 84,[0,1,2,3],[],[],[4,5,7],[],fun _ _ v _=>v = .slice (some ⟨bp,op + i * 2,none⟩) 1 (cp - i)⟩,
   ⟨some 85,[0],[(0,1)],[1,2,3],[8],[],fun st a v w'=>1 ≤ st ∧ (st = 1 → ItF w' (fun j=>wr.heap.size ≤ j ∧ j < w'.heap.size) v 1 [x])⟩,
   ⟨some 86,[1],[(1,2)],[2,3],[2,9],[],fun st a v w'=>2 ≤ st ∧ (st = 2 → ∃ A' c',v = .slice A' (k + 1) c' ∧ DnS w1 (L.take k ++ [x]) w' A' (k + 1) c' ∧ ((Value.slice A n cap).ownBlock = (Value.slice A' (k + 1) c').ownBlock ∨ ∀ j,(Value.slice A' (k + 1) c').ownBlock = some j → wr.heap.size ≤ j))⟩,
   ⟨some 87,[0,1,2,3],[],[],[],[],fun _ _ v _=>v = .slice Ar m cr⟩,
   ⟨some 88,[2],[(2,3)],[3],[10,11],[],fun st a v w'=>3 ≤ st ∧ ∃ A' c',v = .slice A' (n + 1) c' ∧ DnS w1 (L.take k ++ [x] ++ L.drop k) w' A' (n + 1) c'⟩,
   ⟨some 5,[3],[],[],[12],[],fun st a v w'=>3 ≤ st ∧ ∃ A' c',v = .slice A' (n + 1) c' ∧ DnS w1 (L.take k ++ [x] ++ L.drop k) w' A' (n + 1) c'⟩] (GI w1 wr A n cap) (fun s s' _ _ _=>s' = s + 1 ∧ s ≤ 2) (fun _ w w'=>Below w.heap.size w w') ?gu ?ru ?put [76,77,78,79,80,81,82,83,84,85,86,87,88,5] rfl (by kernel_rfl) rfl ?g0 ?keep ?steps ?fin
 case ru=>
  intro e he s a v w w' hu hv
  simp only [List.mem_cons,List.not_mem_nil,or_false] at he
  rcases he with rfl | rfl | rfl | rfl | rfl | rfl | rfl | rfl | rfl | rfl | rfl | rfl | rfl | rfl
  all_goals first | exact hv | (exact ⟨hv.1,fun e=>(hv.2 e).below hu⟩) | (refine ⟨hv.1,fun e=>?_⟩; obtain ⟨A',c',e1,h2,h3⟩:=hv.2 e; exact ⟨A',c',e1,h2.below hu,h3⟩) | (obtain ⟨h0,A',c',e,h2⟩:=hv; exact ⟨h0,A',c',e,h2.below hu⟩)
 case put=>
  intro e he s a d u v w hnd hv
  simp only [List.mem_cons,List.not_mem_nil,or_false] at he
  rcases he with rfl | rfl | rfl | rfl | rfl | rfl | rfl | rfl | rfl | rfl | rfl | rfl | rfl | rfl
  all_goals first | exact hv
 case keep=>
  intro e he s s' a v w w' hsl hm ht hv
  simp only [List.mem_cons,List.not_mem_nil,or_false] at he
  rcases he with rfl | rfl | rfl | rfl | rfl | rfl | rfl | rfl | rfl | rfl | rfl | rfl | rfl | rfl
  all_goals first | exact hv | (refine ⟨by have:=hv.1; have:=ht.1; omega,fun e=>?_⟩; exfalso; have:=hv.1; have:=ht.1; omega) | (exfalso; have:=hv.1; have:=ht.1; have:=ht.2; omega)
 case steps=>
  refine ⟨?_,?_,?_,?_,?_,?_,?_,?_,?_,?_,?_,?_,?_,?_,trivial⟩
  ·intro st hst ac w3 hg hG hd ho K hK
   dsimp only at hst hG hK
   exact op_move _ rfl (hK _ _ (Below.refl _ _) (ho 13 _ rfl (by decide) (by kernel_rfl) 5 rfl))
  ·intro st hst ac w3 hg hG hd ho K hK
   dsimp only at hst hG hK
   exact op_move _ rfl (hK _ _ (Below.refl _ _) (hg.kp 10 (by simp)))
  ·intro st hst ac w3 hg hG hd ho K hK
   dsimp only at hst hG hK
   have f0:=hd 0 (by simp) _ rfl _ rfl
   have f1:=hd 1 (by simp) _ rfl _ rfl
   clear hG
   simp [Act.eval] at f0 f1
   rcases HAF.out with ⟨e1,e2,e3⟩ | ⟨g,e1,e2,e3⟩
   (obtain rfl:k = 0:=by omega)
   (subst e1 e3; go_simp; exact hK _ _ (Below.refl _ _) rfl)
   (have hkc:k ≤ cap:=by omega)
   (subst e1; go_simp; exact hK _ _ (Below.refl _ _) rfl)
  ·intro st hst ac w3 hg hG hd ho K hK
   dsimp only at hst hG hK
   have k3:=hg.kp 3 (by simp)
   (try simp [Act.eval] at k3)
   go_simp
   exact hK _ _ (Below.refl _ _) rfl
  ·intro st hst ac w3 hg hG hd ho K hK
   dsimp only at hst hG hK
   have hX:=HBX.out.below hG.1 HBX.out.lt
   have kk:=hX.cell 1
   have zz:=hX.lt
   simp at kk
   clear hG hX
   have f3:=hd 3 (by simp) _ rfl _ rfl
   (try simp [Act.eval] at f3)
   go_simp
   exact hK _ _ (Below.refl _ _) rfl
  ·intro st hst ac w3 hg hG hd ho K hK
   dsimp only at hst hG hK
   exact op_move _ rfl (hK _ _ (Below.refl _ _) (hg.kp 9 (by simp)))
  ·intro st hst ac w3 hg hG hd ho K hK
   dsimp only at hst hG hK
   exact op_move _ rfl (hK _ _ (Below.refl _ _) (hg.kp 9 (by simp)))
  ·intro st hst ac w3 hg hG hd ho K hK
   dsimp only at hst hG hK
   have f6:=hd 6 (by simp) _ rfl _ rfl
   (try simp [Act.eval] at f6)
   go_simp
   exact hK _ _ (Below.refl _ _) rfl
  ·intro st hst ac w3 hg hG hd ho K hK
   dsimp only at hst hG hK
   have f4:=hd 4 (by simp) _ rfl _ rfl
   have f5:=hd 5 (by simp) _ rfl _ rfl
   have f7:=hd 7 (by simp) _ rfl _ rfl
   clear hG
   simp [Act.eval] at f4 f5 f7
   go_simp
   exact hK _ _ (Below.refl _ _) (by rw [show i1 - i = 1 from by have:=HI1.out; omega])
  ·intro st st' hmv ac w3 hg hG hd ho K hK
   simp only [List.mem_cons,Prod.mk.injEq,List.not_mem_nil,or_false] at hmv
   obtain ⟨rfl,rfl⟩:=hmv
   dsimp only at hG hK
   have f8:=hd 8 (by simp) _ rfl _ rfl
   have HG9:=hide hG
   have HOW:=hide (lown_any (w:=w3) (F:=fun j=>j < w3.heap.size) (HC1.out.keep (by omega) @ItR.keep (fun j hj _=>HG9.out.1.block j hj) (fun j hj _=>Nat.lt_of_lt_of_le hj HG9.out.1.size)) (by simp) (fun z hz=>by rw [List.mem_singleton.1 hz]; exact hxl))
   clear hG
   simp [Act.eval] at f8
   go_simp
   (refine HOW.out.mono ?_)
   rintro e w5 ⟨v5,rfl,hsl,hb⟩
   have hG5:=HG9.out.step hb
   exact hK _ _ ⟨rfl,by omega⟩ ⟨hG5.1,fun _=>hG5.2.1 (by omega),hG5.2.2⟩ ⟨Nat.le_refl _,fun _=>ItF.of (hsl.keep (by omega) @ItR.keep (fun _ _ _=>rfl) (fun j hj hlt=>⟨Nat.le_trans HG9.out.2.2.1 hj.1,hlt⟩)) (fun j hj=>hj.2)⟩
  ·intro st st' hmv ac w3 hg hG hd ho K hK
   simp only [List.mem_cons,Prod.mk.injEq,List.not_mem_nil,or_false] at hmv
   obtain ⟨rfl,rfl⟩:=hmv
   dsimp only at hG hK
   have f2:=hd 2 (by simp) _ rfl _ rfl
   obtain ⟨Au,cu,xu,f9,hxu,hru,hlu⟩:=(hd 9 (by simp) _ rfl _ rfl).2 rfl
   have hb0:=hG.2.1 (by omega)
   refine wp_append_any w3 (.tmp 78) (.tmp 85) 32 rfl w1.heap.size TIt i0 _ 2 48 Try.underlying32 HI0.out HZ0.out hz1 hz2 rfl (by omega) (.slice A k cap) k (xs.take (k * 2)) f2 (own_later HXT.out hb0) w3.heap.size Au 1 cu xu f9 hru (itR_ones hlu) (by unfold maxLen; omega) (by omega) hG.1.size ?_
   intro v' w' ho hgb hoo
   have hG2:=GrN.app (w2:=w3) (l2:=[x]) (cs:=xu) @ItR.keep HGT.out hb0 ⟨by rw [HLT.out]; exact HXT.out,by rw [ownb_slice A k n cap cap]; exact HXL.out⟩ (LR.mono (fun a cs=>ItR.keep (fun _ _ _=>rfl) (fun j hj hlt=>⟨.inr (Nat.le_trans hb1 hj.1),hlt,fun e=>by have:=HOB.out j e; omega⟩) a cs) _ _ hlu) (by rw [HLT.out]; exact ho) hgb hoo
   (obtain ⟨A',c',e',_⟩:=own_slice ho)
   subst e'
   exact hK _ _ ⟨rfl,by omega⟩ ⟨hG2.bel,fun e=>by omega,Nat.le_trans hG.2.2.1 hgb.size,fun j hj hn=>(hgb.block j (Nat.lt_of_lt_of_le hj hG.2.2.1) (fun e=>hn ((ownb_slice A n k cap cap).trans e.symm))).trans (hb0.block j hj)⟩ ⟨Nat.le_refl _,fun _=>⟨A',c',rfl,⟨hG2,(by rw [List.length_append,HLT.out]; rfl),fun z hz=>(List.mem_append.1 hz).elim (fun q=>HPB.out z (List.mem_of_mem_take q)) (fun q=>by rw [List.mem_singleton.1 q]; exact hxl)⟩,hoo.elim (fun q=>.inl ((ownb_slice A n k cap cap).trans q.symm)) (fun q=>.inr (fun j e=>by rw [q] at e; injection e with e; have:=hG.2.2.1; omega))⟩⟩
  ·intro st hst ac w3 hg hG hd ho K hK
   dsimp only at hst hG hK
   exact op_move _ rfl (hK _ _ (Below.refl _ _) (hg.kp 12 (by simp)))
  ·intro st st' hmv ac w3 hg hG hd ho K hK
   simp only [List.mem_cons,Prod.mk.injEq,List.not_mem_nil,or_false] at hmv
   obtain ⟨rfl,rfl⟩:=hmv
   dsimp only at hG hK
   obtain ⟨A',c',f10,hd10,hob⟩:=(hd 10 (by simp) _ rfl _ rfl).2 rfl
   have f11:=hd 11 (by simp) _ rfl _ rfl
   have hr3:SLk 2 ItR w3 (fun j=>w1.heap.size ≤ j ∧ j < w3.heap.size ∧ (Value.slice A' (k + 1) c').ownBlock ≠ some j) (.slice Ar m cr) (L.drop k):=HRS.out.keep (by omega) @ItR.keep (fun j hj hlt=>hG.2.2.2 j hlt hj.2.2) (fun j hj hlt=>⟨hj.1,Nat.lt_of_lt_of_le hlt hG.2.2.1,fun e=>hob.elim (fun q=>hj.2.2 (q.trans e)) (fun q=>by have:=q j e; omega)⟩)
   (obtain ⟨Ar',cr',xr,er,hcr,hrr,hlr⟩:=hr3)
   (injection er with er1 er2 er3)
   subst er1 er3
   (rw [← er2] at hrr)
   (obtain ⟨ys,hyo,hyl⟩:=hd10.1.row)
   have hyo2:=hyo
   (rw [hd10.2.1] at hyo)
   have hmn:=HM.out
   refine wp_append_any w3 (.tmp 86) (.tmp 87) 32 rfl w1.heap.size TIt i0 _ 2 48 Try.underlying32 HI0.out HZ0.out hz1 hz2 rfl (by omega) (.slice A' (k + 1) c') (k + 1) ys f10 hyo w3.heap.size Ar m cr xr f11 (hrr.reads (fun j hj=>hj.2.1)) (itR_ones hlr) (by unfold maxLen; omega) (by omega) hG.1.size ?_
   intro v' w' ho hgb hoo
   have hG2:=GrN.app (w2:=w3) (l2:=L.drop k) (cs:=xr) @ItR.keep hd10.1 (Below.refl _ _) ⟨hyo2,hyl⟩ (LR.mono (fun a cs=>ItR.keep (fun _ _ _=>rfl) (fun j hj hlt=>⟨.inr hj.1,hj.2⟩) a cs) _ _ hlr) (by rw [hd10.2.1,← er2]; exact ho) hgb hoo
   (obtain ⟨A9,c9,e',_⟩:=own_slice ho)
   (rw [show k + 1 + m = n + 1 from by omega] at e')
   subst e'
   exact hK _ _ ⟨rfl,by omega⟩ ⟨hG2.bel,fun e=>by omega,Nat.le_trans hG.2.2.1 hgb.size,fun j hj hn=>(hgb.block j (Nat.lt_of_lt_of_le hj hG.2.2.1) (fun e=>hob.elim (fun q=>hn (q.trans e.symm)) (fun q=>by have:=q j e.symm; omega))).trans (hG.2.2.2 j hj hn)⟩ ⟨Nat.le_refl _,A9,c9,rfl,hG2,(by rw [List.length_append,hd10.2.1,← er2]; omega),fun z hz=>(List.mem_append.1 hz).elim (hd10.2.2 z) (fun q=>HPB.out z (List.mem_of_mem_drop q))⟩
  ·intro st hst ac w3 hg hG hd ho K hK
   dsimp only at hst hG hK
   exact op_assign _ rfl (hK _ _ (Below.refl _ _) (hd 12 (by simp) _ rfl _ rfl))
 case gu=>intro s a b hG hu; exact hG.step hu
 case g0=>exact ⟨HGR.out.bel.drew,fun _=>(Below.refl _ _).drew,Nat.le_refl _,fun _ _ _=>rfl⟩
 case fin=>
  intro f9 w9 hG hall
  obtain ⟨-,A',c',h9,hd9⟩:=hall _ (List.mem_of_getElem? (i:=13) rfl) 5 rfl
  have HD9:=hide hd9
  clear hall hG hd9
  simp only [fillF,List.map_cons,List.map_nil,List.foldl_cons,List.foldl_nil,Act.put,List.setIfInBounds_toArray,List.set_cons_zero,List.set_cons_succ]
  rw [h9]
  exact HQ.out _ _ _ _ _ _ _ _ _ _ _ _ _ _ _ _ HD9.out
end
end Go.Proofs.Ytkolacaceaamoaa
/- The law's done, walked. -/
namespace Go.Proofs.Ytkolacaceaamoaa
open Go.RowKit
open Go.Lib (compareBytes)
theorem DnS.own {w1 wr:World} {L:List It} {A:Option Addr} {n cap:Nat} (h:DnS w1 L wr A n cap):(A = none ∧ n = 0 ∧ cap = 0) ∨ ∃ g,A = some ⟨g,0,none⟩ ∧ n ≤ cap ∧ cap ≤ maxLen ∧ w1.heap.size ≤ g ∧ g < wr.heap.size:=by
 obtain ⟨xs,hxo,-⟩:=h.1.row
 rw [h.2.1] at hxo
 rcases hxo.2 with ⟨e,hz⟩ | ⟨g,c',cur,e,hb,hh,hc,hm,_⟩
 ·injection e with e1 _ e3
  exact .inl ⟨e1,hz,e3⟩
 ·injection e with e1 _ e3
  subst e1 e3
  exact .inr ⟨g,rfl,hc,hm,hxo.lt g rfl⟩
theorem DnS.ob {w1 wr:World} {L:List It} {A:Option Addr} {n cap:Nat} (h:DnS w1 L wr A n cap):∀ j,(Value.slice A n cap).ownBlock = some j → j < wr.heap.size:=fun j hj=>by
 obtain ⟨xs,hxo,-⟩:=h.1.row
 exact (hxo.lt j hj).2
theorem DnS.cell {w1 wr:World} {L:List It} {g n cap j:Nat} (h:DnS w1 L wr (some ⟨g,0,none⟩) n cap) (hj:j < n * 2):(∃ u,wr.cell? ⟨g,j,none⟩ = some u) ∧ (∀ i,wr.frozen? ⟨g,i,none⟩ = false) ∧ g < wr.heap.size:=by
 obtain ⟨xs,hxo,-⟩:=h.1.row
 rw [h.2.1] at hxo
 refine ⟨?_,fun i=>hxo.frozenAt i,(hxo.lt g rfl).2⟩
 rw [hxo.cellAt _ hj]
 exact ⟨_,List.getElem?_eq_getElem (by rw [hxo.1]; exact hj)⟩
theorem putS_found {l:List It} {x:It} (h:(findL l x.k).2 = true):∃ hk:(findL l x.k).1 < l.length,putS l x = l.set (findL l x.k).1 ⟨l[(findL l x.k).1].k,x.v⟩:=by
 refine ⟨findL_lt h,?_⟩
 obtain ⟨a,b,e,hl,-,⟨-,y,r,hb,hy⟩ | ⟨hf,-⟩⟩:=findL_cases l x.k
 ·have hk:l[(findL l x.k).1]'(findL_lt h) = y:=by
   have h1:l[(findL l x.k).1]? = some y:=by
    rw [← hl]
    conv=>lhs; arg 1; rw [e,hb]
    simp
   exact (List.getElem?_eq_some_iff.1 h1).2
  unfold putS
  rw [if_pos h,hk,hy]
 ·rw [h] at hf; cases hf
theorem DnS.setv {w1 wr:World} {L:List It} {g n cap:Nat} {x:It} {A:Option Addr} {m c:Nat} {w0:World} (h:DnS w1 L wr (some ⟨g,0,none⟩) n cap) (hf:(findL L x.k).2 = true) (hx:x.k.length ≤ 1073741824 ∧ x.v.length ≤ 1073741824) (hv:BS wr (fun q=>w0.heap.size ≤ q ∧ q < wr.heap.size) (.slice A m c) x.v) (hg:g < w0.heap.size) (h01:w1.heap.size ≤ w0.heap.size):DnS w1 (putS L x) (wr.setCell ⟨g,(findL L x.k).1 * 2 + 1,none⟩ (.slice A m c)) (some ⟨g,0,none⟩) n cap:=by
 obtain ⟨hk,e⟩:=putS_found hf
 refine ⟨?_,?_,fun z hz=>(putS_mem hz).elim (h.2.2 z) (fun q=>q ▸ hx)⟩
 ·rw [e]
  exact GrN.setv h.1 h.2.1 hk (fun q hq=>hq.elim) (hv.keep (fun _ _ _=>rfl) (fun q hq hlt=>⟨.inr (Nat.le_trans h01 hq.1),hlt,by omega⟩))
 ·rw [e,List.length_set]
  exact h.2.1
section
variable {w1 wr:World} {bx:Nat} {K:Int} {Ap Ag A:Option Addr} {np cp ng cg n cap:Nat} {l put:List It} {gone:List Cn}
set_option maxRecDepth 100000 in
set_option maxHeartbeats 8000000 in
theorem done_puts {R:Option Addr → Nat → Nat → World → Prop} (hR:∀ A n cap w',DnS w1 (put.foldl putS l) w' A n cap → R A n cap w') (hbx:Blk w1 bx TSp #[.int .i64 K,.slice Ap np cp,.slice Ag ng cg]) (hp:SLk 2 ItR w1 (fun j=>j < w1.heap.size) (.slice Ap np cp) put) (hnp:put.length = np) (hnp1:np ≤ 1000) (hpl:∀ x ∈ put,x.k.length ≤ 1073741824 ∧ x.v.length ≤ 1073741824) (hs:DnS w1 l wr A n cap) (hn:l.length ≤ 100000)
  (u0 u1 u2 u6 u7 u8 u9 u10 u11 u12 u13 u14 u15 u16 u17 u18 u19 u20 u21 u22 u23 u24 u25 u26 u27 u28 u29 u30 u31 u32 u33 u34 u35 u36 u37 u38 u39 u40 u41 u42 u43 u44 u45 u46 u47 u48 u49 u50 u51 u52 u53 u54 u55 u56 u57 u58 u59 u60 u61 u62 u63 u64 u65 u66 u67 u68 u69 u70 u71 u72 u73 u74 u75 u76 u77 u78 u79 u80 u81 u82 u83 u84 u85 u86 u87 u88 u89:Value):Code.wp Try.prog (BD 3) (bodyPost Try.prog Try.f22 fun e w'=>∃ A n cap,e = .returned (.slice A n cap) ∧ R A n cap w') { tmps:=#[u0,u1,u2,.pointer (some ⟨bx,0,none⟩),.slice none 0 0,.slice A n cap,u6,u7,u8,u9,u10,u11,u12,u13,u14,u15,u16,u17,u18,u19,u20,u21,u22,u23,u24,u25,u26,u27,u28,u29,u30,u31,u32,u33,u34,u35,u36,u37,u38,u39,u40,u41,u42,u43,u44,u45,u46,u47,u48,u49,u50,u51,u52,u53,u54,u55,u56,u57,u58,u59,u60,u61,u62,u63,u64,u65,u66,u67,u68,u69,u70,u71,u72,u73,u74,u75,u76,u77,u78,u79,u80,u81,u82,u83,u84,u85,u86,u87,u88,u89],defers:=[] } wr:=by
 obtain ⟨i1,hi1,hy0,hy1,hy2⟩:=info_parts u8_info
 have HI1:=hide hi1
 have HY0:=hide hy0
 have HRR:=hide hR
 have HBX:=hide hbx
 have HP:=hide hp
 have HNP:=hide hnp
 have HPL:=hide hpl
 have HS0:=hide (show DnS w1 ((put.take 0).foldl putS l) wr A n cap ∧ ((put.take 0).foldl putS l).length ≤ 100000 + 0 from ⟨hs,hn⟩)
 clear hR hbx hp hnp hpl hs hn hi1 hy0
 rw [show BD 3 = Code.seq (CD 3) (BD 4) from rfl]
 conv=>arg 2; arg 1; whnf
 conv=>arg 2; arg 2; whnf
 go_wp2_with fail
 go_loopw [5,9,10,11,12] (fun v5 v9 _ _ _ wr=>∃ (A:Option Addr) (n cap i:Nat),v5 = .slice A n cap ∧ v9 = .int .i64 (i:Int) ∧ i ≤ np ∧ Hid (DnS w1 ((put.take i).foldl putS l) wr A n cap ∧ ((put.take i).foldl putS l).length ≤ 100000 + i)) (fun _ v9 _ _ _ _=>np - (intOf v9).toNat)
 case atStart=>exact ⟨A,n,cap,0,rfl,by go_num,by omega,HS0⟩
 case round=>
  clear HS0
  obtain ⟨A,n,cap,i,rfl,rfl,hi,HS⟩:=hrel
  have hbb:=HBX.out.below HS.out.1.1.bel HBX.out.lt
  have kb:=hbb.cell; have fz:=hbb.frozen; have zb:=hbb.lt
  clear hbb
  by_cases hlt:i < np
  ·have hi':i < put.length:=by rw [HNP.out]; exact hlt
   obtain ⟨b,o,A0,c0,B0,d0,rfl,hb,-,k0,k1,hit⟩:=HP.out.at_it hi'
   have hx:=HPL.out put[i] (List.getElem_mem hi')
   have hTK:=List.take_succ_eq_append_getElem hi'
   obtain ⟨x,hxe⟩:∃ x,put[i] = x:=⟨_,rfl⟩
   rw [hxe] at k0 k1 hx hTK hit
   have HXE:=hide (show ∃ h:i < put.length,put[i] = x from ⟨hi',hxe⟩)
   obtain ⟨L,hL⟩:∃ L,(put.take i).foldl putS l = L:=⟨_,rfl⟩
   have HNL:=hide (show (put.take (i + 1)).foldl putS l = putS L x by rw [hTK,List.foldl_append,hL]; rfl)
   rw [hL] at HS
   obtain ⟨kl,hkl⟩:∃ kl,x.k.length = kl:=⟨_,rfl⟩
   obtain ⟨vl,hvl⟩:∃ vl,x.v.length = vl:=⟨_,rfl⟩
   have HXB:=hide hx
   have HVL:=hide hvl
   rw [hkl,hvl] at hx
   rw [hkl] at k0 hit
   rw [hvl] at k1 hit
   obtain ⟨hx1,hx2⟩:=hx
   obtain ⟨a,a',e,hik,hiv⟩:=hit
   injection e with e1 e
   injection e with e2 _
   subst e1 e2
   have HIV:=hide hiv.all
   have hbel:=HS.out.1.1.bel
   have q0:=(hbel.cell (p:=⟨b,o + i * 2,none⟩) hb).trans k0
   have zk:=Nat.lt_of_lt_of_le hb hbel.size
   have HK1:=hide k1
   have hFI:=find17 (w:=wr) (F:=fun j=>j < wr.heap.size) (va:=.slice A n cap) (vk:=.slice A0 kl c0) (la:=L) (key:=x.k) (HS.out.1.1.slk @ItR.keep (by omega) (fun j _ hj=>hj)) (hik.keep (fun j hj _=>hbel.block j hj) (fun j hj _=>Nat.lt_of_lt_of_le hj hbel.size)) (by have:=HS.out.2; omega)
   have HFI:=hide hFI
   have hlen:=HS.out.1.2.1
   have hlen2:=HS.out.2
   obtain ⟨k,hk⟩:∃ k,(findL L x.k).1 = k:=⟨_,rfl⟩
   obtain ⟨f,hf⟩:∃ f,(findL L x.k).2 = f:=⟨_,rfl⟩
   rw [hk,hf] at HFI
   have HK:=hide hk
   have HF:=hide hf
   have hkle:k ≤ n:=by rw [← hk,← hlen]; exact findL_le
   have hklt:f = true → k < n:=fun e=>by rw [← hk,← hlen]; exact findL_lt (hf.trans e)
   have hn6:n ≤ 200000:=by omega
   clear hxe hTK hL hkl hvl hFI hik hiv k0 k1 hk hf hbel hi' hlen hlen2
   go_upto_block 3 with fail
   refine wp_block ?_
   refine id (show Code.wp Try.prog (BE 0) _ _ _ from ?_)
   rw [show BE 0 = Code.seq (CE 0) (Code.seq (CE 1) (Code.seq (CE 2) (BE 3))) from rfl]
   conv=>arg 2; arg 1; whnf
   conv=>arg 2; arg 2; arg 1; whnf
   conv=>arg 2; arg 2; arg 2; arg 1; whnf
   go_upto_region 12 with (go_at_call 13; (refine HFI.out.mono ?_); rintro e w2 ⟨rfl,N,rfl⟩)
   clear HFI
   have HS2:=hide (HS.out.1.below (bel_drewN wr N))
   clear kb fz zb q0 zk
   obtain ⟨w2,hw2⟩:∃ q,wr.drewN N = q:=⟨_,rfl⟩
   rw [hw2] at HS2 ⊢
   clear hw2
   have hbb:=HBX.out.below HS2.out.1.bel HBX.out.lt
   have kb:=hbb.cell; have fz:=hbb.frozen; have zb:=hbb.lt
   clear hbb
   cases f with
   | true=>
    have hkn:=hklt rfl
    obtain ⟨-,h0,-⟩ | ⟨g,rfl,hnc,hcm,hg1,hg2⟩:=HS2.out.own
    ·omega
    have hbel:=HS2.out.1.bel
    have q1:=(hbel.cell (p:=⟨b,o + i * 2 + 1,none⟩) hb).trans HK1.out
    have zk:=Nat.lt_of_lt_of_le hb hbel.size
    obtain ⟨wa,hwa⟩:∃ wa,w2.alloc (.cells #[] T8) = wa:=⟨_,rfl⟩
    have HWA:=hide hwa
    have HBa:=hide (show Below w2.heap.size w2 wa from hwa ▸ al_below w2 _)
    have HRd:=hide (show Reads wa wa.heap.size 1 B0 vl (cs8 x.v) from by
     have hk:=HIV.out.later (hbel.trans (HBa.out.mono hbel.size))
     obtain ⟨A9,c9,e9,_,hr9⟩:=hk
     injection e9 with e9 e10 e11
     subst e9 e11
     exact HVL.out ▸ hr9.reads (fun _ h=>h))
    have HBE:=hide hbel
    clear hwa hbel
    have hxn:k < n:=hkn
    have HGG:=hide hg2
    go_upto_region 13 with fail
    go_wp2_with (at_builtin; (try rw [HWA.out]); refine wpl_append_lit wa rfl (.tmp 62) (.tmp 68) _ rfl T8 i1 _ 1 1 Try.underlying38 HI1.out HY0.out hy1 hy2 rfl (by omega) ⟨w2.heap.size,0,none⟩ rfl B0 vl d0 (cs8 x.v) rfl HRd.out (cs8_one _) (by unfold maxLen; omega) (by omega) ?_; intro v' wk ho hbw; (obtain ⟨A7,c7,rfl⟩:∃ A7 c7,v' = .slice A7 vl c7:=by (rcases ho with ⟨rfl,rfl⟩ | ho; exact ⟨_,_,rfl⟩; (obtain ⟨A,c,e,_⟩:=own_slice ho; exact ⟨A,c,e⟩))); have HBV:=hide (show BS wk (fun j=>w2.heap.size ≤ j ∧ j < wk.heap.size) (.slice A7 vl c7) x.v from (BS.lit (g:=⟨w2.heap.size,0,none⟩) (HVL.out.symm ▸ ho)).fresh HBa.out.size); have HSk:=hide (HS2.out.below (HBa.out.trans (hbw.mono HBa.out.size))); (obtain ⟨⟨u,hu⟩,hfz,hgz⟩:=HSk.out.cell (j:=k * 2 + 1) (by omega)); clear ho hbw kb fz zb q1 zk hg2)
    have HSV:=hide (HSk.out.setv HF.out HXB.out HBV.out HGG.out HBE.out.size)
    rw [HK.out] at HSV
    refine ⟨⟨some ⟨g,0,none⟩,n,cap,i + 1,rfl,by push_cast; rfl,by omega,hide (by rw [HNL.out]; exact ⟨HSV.out,Nat.le_trans (putS_le _ _) (by have:=HS.out.2; omega)⟩)⟩,?_⟩
    simp [intOf]
    omega
   | false=>
    have HE:=hide (show putS L x = L.take k ++ [x] ++ L.drop k by unfold putS; rw [HF.out,HK.out]; rfl)
    have hob:=HS2.out.ob
    have HOB:=hide hob
    have hslk:=HS2.out.1.slk (F':=fun j=>j < w2.heap.size) @ItR.keep (by omega) (fun j _ hj=>hj)
    have HSLK:=hide hslk
    have hld:(L.drop k).length = n - k:=by rw [List.length_drop,HS2.out.2.1]
    have HLD:=hide hld
    have HPD:=hide (fun z (hz:z ∈ L.drop k)=>HS2.out.2.2 z (List.mem_of_mem_drop hz))
    have HDI:=hide (fun (w5:World) (v5:Value) (hb5:Below w2.heap.size w2 w5) (hs5:SLk 2 ItR w5 (fun j=>w2.heap.size ≤ j ∧ j < w5.heap.size) v5 (L.drop k))=>(show ∃ Ar cr,v5 = .slice Ar (n - k) cr ∧ SLk 2 ItR w5 (fun j=>w1.heap.size ≤ j ∧ j < w5.heap.size ∧ (Value.slice A n cap).ownBlock ≠ some j) (.slice Ar (n - k) cr) (L.drop k) from by
     have h6:=hs5.keep (F':=fun j=>w1.heap.size ≤ j ∧ j < w5.heap.size ∧ (Value.slice A n cap).ownBlock ≠ some j) (by omega) @ItR.keep (fun _ _ _=>rfl) (fun j hj hlt=>⟨Nat.le_trans HS2.out.1.bel.size hj.1,hlt,fun e=>by have:=HOB.out j e; omega⟩)
     obtain ⟨Ar,cr,xr,e,h7⟩:=id h6
     rw [HLD.out] at e
     subst e
     exact ⟨Ar,cr,rfl,h6⟩))
    clear hob hslk hld kb fz zb
    rcases HS2.out.own with ⟨rfl,hn0,hc0⟩ | ⟨g,rfl,hnc,hcm,hg1,hg2⟩
    ·have h00:k = 0:=by omega
     subst hn0 hc0 h00
     have HOW:=hide (lown_any (w:=w2) (F:=fun j=>j < w2.heap.size) (vp:=.slice none 0 0) (put:=L.drop 0) (by rw [List.drop_zero]; exact HSLK.out) (by have:=HLD.out; omega) HPD.out)
     go_wp2_with (go_at_call 15; (refine (HOW.out.mono ?_)); rintro e w5 ⟨v5,rfl,hs5,hb5⟩; (obtain ⟨Ar,cr,rfl,hs6⟩:=HDI.out w5 v5 hb5 hs5); have HB5:=hide hb5; have HS6:=hide hs6; clear hs5 hs6 hb5)
     obtain ⟨hi9,hxe9⟩:=HXE.out
     refine done_ins ?_ HBX.out HP.out HNP.out hnp1 hi9 hxe9 HXB.out (HS2.out.below HB5.out) (by omega) hkle rfl HS6.out _ _ _ _ _ _ _ _ _ _ _ _ _
     intro u76 u77 u78 u79 u80 u81 u82 u83 u84 u85 u86 u87 u88 w8 A8 c8 hd8
     have HD8:=hide hd8
     clear hd8
     go_wp2_with fail
     go_roundw
     case rel=>exact ⟨A8,_,c8,i + 1,rfl,by go_num,by omega,hide (by rw [HNL.out,HE.out]; exact ⟨HD8.out,by have:=HS.out.2; rw [← HE.out]; exact Nat.le_trans (putS_le _ _) (by omega)⟩)⟩
     case measure=>simp [intOf]; omega
    ·have hcut:=HSLK.out.cutFrom (i:=k) (fun a cs h=>itR_len a cs h) (by omega) hkle
     have HCUT:=hide hcut
     clear hcut
     have hkc:k ≤ cap:=by omega
     unfold maxLen at hcm
     by_cases hcc:cap = k
     ·have hkn:n = k:=by omega
      have HOW:=hide (lown_any (w:=w2) (F:=fun j=>j < w2.heap.size) (put:=L.drop k) (vp:=.slice (some ⟨g,0,none⟩) 0 0) (by have h:=HCUT.out.2 hkn (some ⟨g,0,none⟩); rwa [show cap - k = 0 from by omega] at h) (by have:=HLD.out; omega) HPD.out)
      subst hcc
      subst hkn
      go_wp2_with (go_at_call 15; (refine (HOW.out.mono ?_)); rintro e w5 ⟨v5,rfl,hs5,hb5⟩; (obtain ⟨Ar,cr,rfl,hs6⟩:=HDI.out w5 v5 hb5 hs5); have HB5:=hide hb5; have HS6:=hide hs6; clear hs5 hs6 hb5)
      obtain ⟨hi9,hxe9⟩:=HXE.out
      refine done_ins ?_ HBX.out HP.out HNP.out hnp1 hi9 hxe9 HXB.out (HS2.out.below HB5.out) (by omega) hkle (by omega) (by have h:=HS6.out; rwa [Nat.sub_self] at h) _ _ _ _ _ _ _ _ _ _ _ _ _
      intro u76 u77 u78 u79 u80 u81 u82 u83 u84 u85 u86 u87 u88 w8 A8 c8 hd8
      have HD8:=hide hd8
      clear hd8
      go_wp2_with fail
      go_roundw
      case rel=>exact ⟨A8,_,c8,i + 1,rfl,by go_num,by omega,hide (by rw [HNL.out,HE.out]; exact ⟨HD8.out,by have:=HS.out.2; rw [← HE.out]; exact Nat.le_trans (putS_le _ _) (by omega)⟩)⟩
      case measure=>simp [intOf]; omega
     ·have HOW:=hide (lown_any (w:=w2) (F:=fun j=>j < w2.heap.size) (put:=L.drop k) (vp:=.slice (some ⟨g,k * 2,none⟩) (n - k) (cap - k)) (by have h:=HCUT.out.1; rwa [Nat.zero_add] at h) (by have:=HLD.out; omega) HPD.out)
      go_wp2_with (go_at_call 15; (refine (HOW.out.mono ?_)); rintro e w5 ⟨v5,rfl,hs5,hb5⟩; (obtain ⟨Ar,cr,rfl,hs6⟩:=HDI.out w5 v5 hb5 hs5); have HB5:=hide hb5; have HS6:=hide hs6; clear hs5 hs6 hb5)
      obtain ⟨hi9,hxe9⟩:=HXE.out
      refine done_ins ?_ HBX.out HP.out HNP.out hnp1 hi9 hxe9 HXB.out (HS2.out.below HB5.out) (by omega) hkle rfl HS6.out _ _ _ _ _ _ _ _ _ _ _ _ _
      intro u76 u77 u78 u79 u80 u81 u82 u83 u84 u85 u86 u87 u88 w8 A8 c8 hd8
      have HD8:=hide hd8
      clear hd8
      go_wp2_with fail
      go_roundw
      case rel=>exact ⟨A8,_,c8,i + 1,rfl,by go_num,by omega,hide (by rw [HNL.out,HE.out]; exact ⟨HD8.out,by have:=HS.out.2; rw [← HE.out]; exact Nat.le_trans (putS_le _ _) (by omega)⟩)⟩
      case measure=>simp [intOf]; omega
  ·obtain rfl:i = np:=by omega
   have HE:=hide (show DnS w1 (put.foldl putS l) wr A n cap from by have:=HS.out.1; rwa [← HNP.out,List.take_length] at this)
   go_wp2_with fail
   go_ret
   exact ⟨_,_,_,rfl,HRR.out _ _ _ _ HE.out⟩
end
end Go.Proofs.Ytkolacaceaamoaa
/- The law's done, whole. -/
namespace Go.Proofs.Ytkolacaceaamoaa
open Go.RowKit
open Go.Lib (compareBytes)
theorem dels_le:∀ (gone:List Cn) (l:List It),(gone.foldl delS l).length ≤ l.length
 | [],l=>Nat.le_refl _
 | g :: r,l=>Nat.le_trans (dels_le r _) (delS_le l g)
section
variable {K:Int} {Ap Ag:Option Addr} {np cp ng cg:Nat} {l put:List It} {gone:List Cn}
set_option maxRecDepth 100000 in
set_option maxHeartbeats 8000000 in
theorem ldone_any {w:World} {vl:Value} (h1:SLk 2 ItR w (fun j=>j < w.heap.size) vl l) (h2:SLk 2 ItR w (fun j=>j < w.heap.size) (.slice Ap np cp) put) (h3:SLk 1 BsR w (fun j=>j < w.heap.size) (.slice Ag ng cg) gone) (hl:l.length ≤ 100000) (hp:put.length ≤ 1000) (hg:gone.length ≤ 1000)
  (hlb:∀ x ∈ l,x.k.length ≤ 1073741824 ∧ x.v.length ≤ 1073741824) (hpb:∀ x ∈ put,x.k.length ≤ 1073741824 ∧ x.v.length ≤ 1073741824) :
  Calls Try.prog 22 #[vl,.agg #[.int .i64 K,.slice Ap np cp,.slice Ag ng cg]] w fun e w'=>∃ A n cap,e = .returned (.slice A n cap) ∧ SLk 2 ItR w' (fun j=>w.heap.size ≤ j ∧ j < w'.heap.size) (.slice A n cap) (doneL l put gone) ∧ Below w.heap.size w w':=by
 have hnp:put.length = np:=by
  obtain ⟨_,_,_,e,-⟩:=h2
  injection e with _ e2 _
  exact e2.symm
 have hng:gone.length = ng:=by
  obtain ⟨_,_,_,e,-⟩:=h3
  injection e with _ e2 _
  exact e2.symm
 have H1:=hide h1
 have H2:=hide h2
 have H3:=hide h3
 have HNP:=hide hnp
 have HNG:=hide hng
 have HLB:=hide hlb
 have HPB:=hide hpb
 have HL:=hide hl
 have HPN:=hide hp
 have HGN:=hide hg
 obtain ⟨Al,cl,xl,rfl,-,-⟩:=id h1
 obtain ⟨nl,hnl⟩:∃ q,l.length = q:=⟨_,rfl⟩
 rw [hnl] at H1 ⊢
 clear h1 h2 h3 hnp hng hlb hpb hl hp hg hnl
 go_enter Try.func22,Try.ntmps22
 refine id (show Code.wp Try.prog (BD 0) _ _ _ from ?_)
 rw [show BD 0 = Code.seq (CD 0) (Code.seq (CD 1) (BD 2)) from rfl]
 conv=>arg 2; arg 1; whnf
 conv=>arg 2; arg 2; arg 1; whnf
 go_upto_region 1 with fail
 have hal:=al_below w (Obj.cells #[.int .i64 K,.slice Ap np cp,.slice Ag ng cg] TSp)
 have hb0:=Blk.new w TSp #[.int .i64 K,.slice Ap np cp,.slice Ag ng cg]
 obtain ⟨bx,hbx⟩:∃ q,w.heap.size = q:=⟨_,rfl⟩
 obtain ⟨w1,hw1⟩:∃ q,w.alloc (.cells #[.int .i64 K,.slice Ap np cp,.slice Ag ng cg] TSp) = q:=⟨_,rfl⟩
 rw [hw1] at hb0 hal ⊢
 rw [hbx] at hb0 ⊢
 have HB0:=hide hb0
 have HAL:=hide hal
 have hk:∀ j,j < w.heap.size → w1.heap[j]? = w.heap[j]?:=fun j hj=>hal.block j hj
 have hs:=hal.size
 have H2':=hide (H2.out.keep (F':=fun j=>j < w1.heap.size) (by omega) @ItR.keep (fun j hj _=>hk j hj) (fun j hj _=>Nat.lt_of_lt_of_le hj hs))
 have H3':=hide (H3.out.keep (F':=fun j=>j < w1.heap.size) (by omega) @BsR.keep (fun j hj _=>hk j hj) (fun j hj _=>Nat.lt_of_lt_of_le hj hs))
 have HOW:=hide (lown_gr (w:=w1) (F:=fun j=>j < w1.heap.size) (H1.out.keep (F':=fun j=>j < w1.heap.size) (by omega) @ItR.keep (fun j hj _=>hk j hj) (fun j hj _=>Nat.lt_of_lt_of_le hj hs)) (by have:=HL.out; omega) HLB.out)
 clear hal hb0 hbx hw1 hk hs
 go_wp2_with (go_at_call 15; (refine HOW.out.mono ?_); rintro e w2 ⟨v2,rfl,hg2⟩; (obtain ⟨A,cap,rfl,hcc⟩:∃ A cap,v2 = .slice A l.length cap ∧ l.length ≤ cap:=by (obtain ⟨xs,hx,_⟩:=hg2.row; obtain ⟨A,c,e,h⟩:=own_slice hx; exact ⟨A,c,e,h⟩)); have HS:=hide (show DnS w1 l w2 A l.length cap from ⟨hg2,rfl,HLB.out⟩); clear hg2)
 refine done_gone ?_ HB0.out H3'.out HNG.out (by have:=HNG.out; have:=HGN.out; omega) HS.out (by have:=HL.out; omega) _ _ _ _ _ _ _ _ _ _ _ _ _ _ _ _ _ _ _ _ _ _ _ _ _ _ _ _ _ _ _ _ _ _ _ _ _ _ _ _ _ _ _ _ _ _ _ _ _ _ _ _ _ _ _ _ _ _ _ _ _ _ _ _ _ _ _ _ _ _ _ _ _ _ _ _ _ _ _ _ _ _ _ _ _ _ _
 intro u0 u1 u2 u6 u7 u8 u9 u10 u11 u12 u13 u14 u15 u16 u17 u18 u19 u20 u21 u22 u23 u24 u25 u26 u27 u28 u29 u30 u31 u32 u33 u34 u35 u36 u37 u38 u39 u40 u41 u42 u43 u44 u45 u46 u47 u48 u49 u50 u51 u52 u53 u54 u55 u56 u57 u58 u59 u60 u61 u62 u63 u64 u65 u66 u67 u68 u69 u70 u71 u72 u73 u74 u75 u76 u77 u78 u79 u80 u81 u82 u83 u84 u85 u86 u87 u88 u89 w3 A3 n3 c3 hs3
 refine done_puts (fun A n cap w' hd=>⟨?_,HAL.out.trans (hd.1.bel.mono HAL.out.size)⟩) HB0.out H2'.out HNP.out (by have:=HNP.out; have:=HPN.out; omega) HPB.out hs3 (Nat.le_trans (dels_le _ _) HL.out) _ _ _ _ _ _ _ _ _ _ _ _ _ _ _ _ _ _ _ _ _ _ _ _ _ _ _ _ _ _ _ _ _ _ _ _ _ _ _ _ _ _ _ _ _ _ _ _ _ _ _ _ _ _ _ _ _ _ _ _ _ _ _ _ _ _ _ _ _ _ _ _ _ _ _ _ _ _ _ _ _ _ _ _ _ _ _
 have h:=hd.1.slk (F':=fun j=>w.heap.size ≤ j ∧ j < w'.heap.size) @ItR.keep (by omega) (fun j hj hlt=>⟨Nat.le_trans HAL.out.size (hj.resolve_left id),hlt⟩)
 exact h
end
end Go.Proofs.Ytkolacaceaamoaa
