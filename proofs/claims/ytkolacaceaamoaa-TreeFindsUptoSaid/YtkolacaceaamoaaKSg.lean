/- make: a part of the tree made anew. -/
import Derived.Test.YtkolacaceaamoaaKSf
set_option linter.unusedSimpArgs false
set_option linter.unusedVariables false
namespace Go.Proofs.Ytkolacaceaamoaa
open Go.RowKit
open Go.Lib (compareBytes)
theorem MkJ.later {w w' w'':World} {c:Pct} {B mb tb:Nat} {took:List Nat} {vt:Value} {m:Pst} {U:Nat → Prop} {is:List It} {h bnd:Nat} {E:Pst → List KI → Prop} {e:Ending} (hq:MkJ w c B mb tb took vt m U is h bnd E e w') (hb:Below w'.heap.size w' w''):MkJ w c B mb tb took vt m U is h bnd E e w'':=by
 obtain ⟨vt',m',T,h1,h2,h3,h4,h5,h6⟩:=hq
 exact ⟨vt',m',T,h1.below hb,h2.trans (MkS.low hb),h3,h4,h5,h6.imp (fun ⟨v,l,V,a,b,d⟩=>⟨v,l,V,a,(MkS.low hb).slk @KdR.keep (by omega) b,d⟩) id⟩
theorem MkJ.tup {w w':World} {c:Pct} {B mb tb:Nat} {took:List Nat} {vt:Value} {m:Pst} {U:Nat → Prop} {is:List It} {h bnd:Nat} {E:Pst → List KI → Prop} {e:Ending} (hq:MkJ w c B mb tb took vt m U is h bnd E e w'):∃ (x:Value) (y:Int),e = .returned (.tuple #[x,.int .i64 y]):=by
 obtain ⟨vt',m',T,h1,h2,h3,h4,h5,⟨v,l,V,e,_⟩ | e⟩:=hq
 ·exact ⟨v,0,e⟩
 ·exact ⟨_,16,e⟩
section
variable {Q:Exit → Act → World → Prop} {v1 v4 v5 v6 v7 v19 v21 v22 v23 v24 v25 v26 v27 v28 v29 v30 v31 v32 v33 v34 v35 v36 v37 v38 v39 v40 v41 v42 v43 v44 v45 v46 v47 v48 v49 v50 v51 v52 v53 v54 v55 v56 v57 v58 v128 v129 v130 v131 v132 v133 v134 v135 v136 v137 v138 v139 v140 v141 v142 v143 v144 v145 v146 v147 v148:Value} {dp:Int}
variable {w:World} {c:Pct} {B mb tb fb:Nat} {took:List Nat} {vt0:Value} {m0:Pst} {U:Nat → Prop} {h:Nat} {t:List Ch} {kis:List KI} {g:Nat} {vi:Value} {Ak:Option Addr} {mk ck:Nat} {Hc:Nat}
set_option maxRecDepth 100000 in
set_option maxHeartbeats 4000000 in
theorem mk_call {wr:World} {T:List Nat} {vt:Value} {m:Pst} {l:List KI} {V:Nat → Prop} {s cnt k:Nat} {A2:Option Addr} {n2 c2:Nat} {A:Option Addr} {n cc i:Nat} {g15:Nat} {va15:Value}
  (hQ:MNx Q v1 v4 v5 v6 v7 v19 v21 v22 v23 v24 v25 v26 v27 v28 v29 v30 v31 v32 v33 v34 v35 v36 v37 v38 v39 v40 v41 v42 v43 v44 v45 v46 v47 v48 v49 v50 v51 v52 v53 v54 v55 v56 v57 v58 v128 v129 v130 v131 v132 v133 v134 v135 v136 v137 v138 v139 v140 v141 v142 v143 v144 v145 v146 v147 v148 dp w c B mb tb fb took vt0 m0 U h t kis g vi Ak mk ck Hc i)
  (hE:ME c B mb tb took m0 U h t kis Hc dp) (hs:MSi w c B mb tb fb took vt0 m0 U h t kis g vi Ak mk ck Hc T vt m l V s cnt wr A2 n2 c2 A n cc i) (hi:i < kis.length) (hdp:dp + (h:Int) + 1 ≤ 32)
  (hk:i + 1 < kis.length → (∀ x ∈ (t.drop s).take k,compareBytes x.k (keyAt kis (i + 1)) < 0) ∧ ∀ x ∈ (t.drop s).drop k,0 ≤ compareBytes x.k (keyAt kis (i + 1))) (hke:i + 1 = kis.length → s + k = t.length) (hkl:s + k ≤ t.length) (hk1:1 ≤ k)
  (h15:Blk wr g15 TKd #[va15,.int .i64 (kis[i].1.p:Int)])
  (u17 u18 u20 u62 u63 u64 u65 u66 u67 u68 u69 u70 u71 u72 u73 u74 u75 u76 u77 u78 u79 u80 u81 u82 u83 u84 u85 u86 u87 u88 u89 u90 u91 u92 u93 u94 u95 u96 u97 u98 u99 u100 u101 u102 u103 u104 u105 u106 u107 u108 u109 u110 u111 u112 u113 u114 u115 u116 u117 u118 u119 u120 u121 u122 u123 u124 u125 u126 u127:Value) :
  Code.wp Try.prog (BM 4) Q { tmps:=#[.pointer (some ⟨mb,0,none⟩),v1,.slice A2 n2 c2,.int .i64 dp,v4,v5,v6,v7,.slice none 0 0,.int .i64 0,.pointer (some ⟨g,0,none⟩),.int .i64 0,.slice A n cc,.map (some fb),.int .i64 (i:Int),.pointer (some ⟨g15,0,none⟩),.int .i64 (k:Int),u17,u18,v19,u20,v21,v22,v23,v24,v25,v26,v27,v28,v29,v30,v31,v32,v33,v34,v35,v36,v37,v38,v39,v40,v41,v42,v43,v44,v45,v46,v47,v48,v49,v50,v51,v52,v53,v54,v55,v56,v57,v58,.slice Ak mk ck,.int .i64 (mk:Int),.int .i64 (i:Int),u62,u63,u64,u65,u66,u67,u68,u69,u70,u71,u72,u73,u74,u75,u76,u77,u78,u79,u80,u81,u82,u83,u84,u85,u86,u87,u88,u89,u90,u91,u92,u93,u94,u95,u96,u97,u98,u99,u100,u101,u102,u103,u104,u105,u106,u107,u108,u109,u110,u111,u112,u113,u114,u115,u116,u117,u118,u119,u120,u121,u122,u123,u124,u125,u126,u127,v128,v129,v130,v131,v132,v133,v134,v135,v136,v137,v138,v139,v140,v141,v142,v143,v144,v145,v146,v147,v148],defers:=[] } wr:=by
 have HQ:=hide hQ
 have HE:=hide hE
 have HS:=hide hs
 have HK:=hide hk
 have HKE:=hide hke
 have H15:=hide h15
 have hd0:=hE.d0
 have hn2:n2 = (t.drop s).length:=hs.mr.td.len
 rw [List.length_drop] at hn2
 have hkn:k ≤ n2:=by omega
 have htl:=hE.tl
 have hsl:=hs.sl
 have hk9:k ≤ 1000000:=by omega
 obtain ⟨hnc2,-,-⟩:=hs.mr.td.caps
 obtain ⟨b2,o2,rfl,zb2,-⟩:=hs.mr.td.base (fun a cs h=>ChR.three a cs h) (by omega) (by rw [List.length_drop]; omega)
 have hkc:k ≤ c2:=by omega
 obtain ⟨kd1,kd2,kd3⟩:=hs.kid hE hi
 obtain ⟨je1,je2⟩:=hs.je hE
 have HTD:=hide ((hs.mr.td.cutTo (i:=k) (fun a cs h=>ChR.three a cs h) hkn).keep (F':=Sf wr c mb vt m) (by omega) @ChR.keep (fun _ _ _=>rfl) (fun j hj _=>hj.1))
 have hlen:((t.drop s).take k).length = k:=by rw [List.length_take,List.length_drop]; omega
 have hnb:=hE.nb
 have hnn:=hs.nn
 have hmul:Hc * s + Hc * k ≤ Hc * t.length:=by rw [← Nat.mul_add]; exact Nat.mul_le_mul_left _ hkl
 obtain ⟨pk,hpk⟩:∃ x,kis[i].1.p = x:=⟨_,rfl⟩
 have HPK:=hide hpk
 rw [hpk] at H15 kd3
 have HRC:=hide (fun (w3:World) (hb:Below wr.heap.size wr w3)=>(hE.rc (hs.jm.mw.below hb) (Nat.le_trans (Nat.le_trans hs.jm.bb hs.jm.st.fr.size) hb.size) ((MkS.low hb).slk @ChR.keep (by omega) HTD.out) (hE.ok.part s k) (by rw [hlen]; exact hk1) (by rw [hlen]; exact hk9) kd3 je1 (kids_rise hE.ri hi) je2 (by rw [hlen]; omega)).mono (R':=fun e w'=>MkJ wr c B mb tb (took ++ T) vt m U (mergeC kis[i].2 ((t.drop s).take k)) h (Hc * k) (fun _ l=>l.length ≤ 2 + k / 2) e w') (fun e w' hq=>by rw [hlen] at hq; exact MkJ.from_ (MkS.low hb) hq))
 have HNB:=hide (And.intro hnb (And.intro hnn hmul))
 clear hQ hE hs hk hke h15 hn2 htl hsl kd1 kd2 kd3 je1 je2 hnb hnn hmul hlen hpk
 have hwd:IntKind.i64.wrap (dp + 1) = dp + 1:=by rw [IntKind.wrap_i64]; omega
 rw [show BM 4 = Code.seq (CM 4) (BM 5) from rfl]
 conv=>arg 2; arg 1; whnf
 go_upto_region 20 with fail
 refine wp_region_dag (by kernel_rfl) (by kernel_rfl) 149 1
  [⟨some 97,[0,1],[],[],[],[],fun _ _ v _=>v = .pointer (some ⟨mb,0,none⟩)⟩,
   ⟨some 98,[0,1],[],[],[],[],fun _ _ v _=>v = .pointer (some ⟨g15,1,none⟩)⟩,
   ⟨some 99,[0],[],[],[1],[],fun _ _ v _=>v = .int .i64 (pk:Int)⟩,
   ⟨some 100,[0,1],[],[],[],[],fun _ _ v _=>v = .slice (some ⟨b2,o2,none⟩) n2 c2⟩,
   ⟨some 101,[0,1],[],[],[],[],fun _ _ v _=>v = .int .i64 (k:Int)⟩,
   ⟨some 102,[0,1],[],[],[3,4],[],fun _ _ v _=>v = .slice (some ⟨b2,o2,none⟩) k c2⟩,
   ⟨some 103,[0,1],[],[],[],[],fun _ _ v _=>v = .int .i64 dp⟩,
   ⟨some 104,[0,1],[],[],[6],[],fun _ _ v _=>v = .int .i64 (dp + 1)⟩,
   ⟨some 105,[0],[(0,1)],[1],[0,2,5,7],[],fun st a v w'=>1 ≤ st ∧ MkJ wr c B mb tb (took ++ T) vt m U (mergeC kis[i].2 ((t.drop s).take k)) h (Hc * k) (fun _ l=>l.length ≤ 2 + k / 2) (.returned v) w'⟩,
   ⟨some 96,[1],[],[],[8],[105],fun st a v w'=>1 ≤ st ∧ v = a.eval (.tmp 105)⟩,
   ⟨some 106,[1],[],[],[8,9],[105],fun st a v w'=>1 ≤ st ∧ ∃ x y,a.eval (.tmp 105) = .tuple #[x,.int .i64 y] ∧ v = x⟩,
   ⟨some 107,[1],[],[],[8,9],[105],fun st a v w'=>1 ≤ st ∧ ∃ x y,a.eval (.tmp 105) = .tuple #[x,.int .i64 y] ∧ v = .int .i64 y⟩,
   ⟨some 17,[1],[],[],[8,10],[105],fun st a v w'=>1 ≤ st ∧ ∃ x y,a.eval (.tmp 105) = .tuple #[x,.int .i64 y] ∧ v = x⟩,
   ⟨some 18,[1],[],[],[8,11],[105],fun st a v w'=>1 ≤ st ∧ ∃ x y,a.eval (.tmp 105) = .tuple #[x,.int .i64 y] ∧ v = .int .i64 y⟩] (fun st w'=>st = 0 → Below wr.heap.size wr w') (fun s s' _ _ _=>s = 0 ∧ s' = 1) (fun _ w w'=>Below w.heap.size w w') ?gu ?ru ?put [97,98,99,100,101,102,103,104,105,96,106,107,17,18] rfl (by kernel_rfl) rfl ?g0 ?keep ?steps ?fin
 case ru=>
  intro e he s a v w w' hu hv
  simp only [List.mem_cons,List.not_mem_nil,or_false] at he
  rcases he with rfl | rfl | rfl | rfl | rfl | rfl | rfl | rfl | rfl | rfl | rfl | rfl | rfl | rfl
  all_goals first | exact hv | (exact ⟨hv.1,hv.2.later hu⟩)
 case put=>
  intro e he s a d u v w hnd hv
  simp only [List.mem_cons,List.not_mem_nil,or_false] at he
  rcases he with rfl | rfl | rfl | rfl | rfl | rfl | rfl | rfl | rfl | rfl | rfl | rfl | rfl | rfl
  all_goals first | exact hv | (exact ⟨hv.1,hv.2.trans (act_ne (by simpa using fun e=>hnd (by simp [e]))).symm⟩) | (obtain ⟨h0,x,y,h1,h2⟩:=hv; exact ⟨h0,x,y,(act_ne (by simpa using fun e=>hnd (by simp [e]))).trans h1,h2⟩)
 case keep=>
  intro e he s s' a v w w' hsl hm ht hv
  simp only [List.mem_cons,List.not_mem_nil,or_false] at he
  rcases he with rfl | rfl | rfl | rfl | rfl | rfl | rfl | rfl | rfl | rfl | rfl | rfl | rfl | rfl
  all_goals first | exact hv | (exfalso; have:=hv.1; have:=ht.1; omega)
 case steps=>
  refine ⟨?_,?_,?_,?_,?_,?_,?_,?_,?_,?_,?_,?_,?_,?_,trivial⟩
  ·intro st hst ac w3 hg hG hd K hK
   dsimp only at hst hG hK
   exact op_move _ rfl (hK _ _ (Below.refl _ _) (hg.kp 0 (by simp)))
  ·intro st hst ac w3 hg hG hd K hK
   dsimp only at hst hG hK
   have k15:=hg.kp 15 (by simp)
   (try simp [Act.eval] at k15)
   go_simp
   exact hK _ _ (Below.refl _ _) rfl
  ·intro st hst ac w3 hg hG hd K hK
   dsimp only at hst hG hK
   simp only [List.mem_cons,List.not_mem_nil,or_false] at hst
   subst hst
   have hX:=H15.out.below (hG rfl) H15.out.lt
   have kk:=hX.cell 1
   have zz:=hX.lt
   simp at kk
   clear hG hX
   have f1:=hd 1 (by simp) _ rfl _ rfl
   (try simp [Act.eval] at f1)
   go_simp
   exact hK _ _ (Below.refl _ _) rfl
  ·intro st hst ac w3 hg hG hd K hK
   dsimp only at hst hG hK
   exact op_move _ rfl (hK _ _ (Below.refl _ _) (hg.kp 2 (by simp)))
  ·intro st hst ac w3 hg hG hd K hK
   dsimp only at hst hG hK
   exact op_move _ rfl (hK _ _ (Below.refl _ _) (hg.kp 16 (by simp)))
  ·intro st hst ac w3 hg hG hd K hK
   dsimp only at hst hG hK
   have f3:=hd 3 (by simp) _ rfl _ rfl
   have f4:=hd 4 (by simp) _ rfl _ rfl
   (try simp [Act.eval] at f3)
   (try simp [Act.eval] at f4)
   go_simp
   exact hK _ _ (Below.refl _ _) rfl
  ·intro st hst ac w3 hg hG hd K hK
   dsimp only at hst hG hK
   exact op_move _ rfl (hK _ _ (Below.refl _ _) (hg.kp 3 (by simp)))
  ·intro st hst ac w3 hg hG hd K hK
   dsimp only at hst hG hK
   have f6:=hd 6 (by simp) _ rfl _ rfl
   (try simp [Act.eval] at f6)
   go_simp
   exact hK _ _ (Below.refl _ _) rfl
  ·intro st st' hmv ac w3 hg hG hd K hK
   simp only [List.mem_cons,Prod.mk.injEq,List.not_mem_nil,or_false] at hmv
   obtain ⟨rfl,rfl⟩:=hmv
   dsimp only at hG hK
   have f0:=hd 0 (by simp) _ rfl _ rfl
   have f2:=hd 2 (by simp) _ rfl _ rfl
   have f5:=hd 5 (by simp) _ rfl _ rfl
   have f7:=hd 7 (by simp) _ rfl _ rfl
   have HG9:=hide (hG rfl)
   clear hG
   simp [Act.eval] at f0 f2 f5 f7
   go_simp
   (refine (HRC.out w3 HG9.out).mono ?_)
   intro e w5 hr
   (obtain ⟨x,y,rfl⟩:=hr.tup)
   exact hK _ _ ⟨rfl,rfl⟩ (fun e=>by omega) ⟨Nat.le_refl _,hr⟩
  ·intro st hst ac w3 hg hG hd K hK
   dsimp only at hst hG hK
   have h9:=hd 8 (by simp) _ rfl _ rfl
   exact op_move _ rfl (hK _ _ (Below.refl _ _) ⟨h9.1,rfl⟩)
  ·intro st hst ac w3 hg hG hd K hK
   dsimp only at hst hG hK
   obtain ⟨h0,hr⟩:=hd 8 (by simp) _ rfl _ rfl
   (obtain ⟨x,y,e51⟩:=hr.tup)
   (injection e51 with e51)
   have f10:=(hd 9 (by simp) _ rfl _ rfl).2.trans e51
   have E28:=hide e51
   clear e51 hr
   simp [Act.eval] at f10
   go_simp
   exact hK _ _ (Below.refl _ _) ⟨h0,x,y,E28.out,rfl⟩
  ·intro st hst ac w3 hg hG hd K hK
   dsimp only at hst hG hK
   obtain ⟨h0,hr⟩:=hd 8 (by simp) _ rfl _ rfl
   (obtain ⟨x,y,e51⟩:=hr.tup)
   (injection e51 with e51)
   have f10:=(hd 9 (by simp) _ rfl _ rfl).2.trans e51
   have E28:=hide e51
   clear e51 hr
   simp [Act.eval] at f10
   go_simp
   exact hK _ _ (Below.refl _ _) ⟨h0,x,y,E28.out,rfl⟩
  ·intro st hst ac w3 hg hG hd K hK
   dsimp only at hst hG hK
   have h9:=hd 8 (by simp) _ rfl _ rfl
   exact op_assign _ rfl (hK _ _ (Below.refl _ _) (hd 10 (by simp) _ rfl _ rfl))
  ·intro st hst ac w3 hg hG hd K hK
   dsimp only at hst hG hK
   have h9:=hd 8 (by simp) _ rfl _ rfl
   exact op_assign _ rfl (hK _ _ (Below.refl _ _) (hd 11 (by simp) _ rfl _ rfl))
 case gu=>intro s w1 w2 hG hu e; exact (hG e).trans (hu.mono (hG e).size)
 case g0=>exact fun _=>(Below.refl _ _).drew
 case fin=>
  intro f9 w6 hG hall
  obtain ⟨_,hr⟩:=hall _ (List.mem_of_getElem? (i:=8) rfl) 105 rfl
  obtain ⟨_,x1,y1,e1,e17⟩:=hall _ (List.mem_of_getElem? (i:=12) rfl) 17 rfl
  obtain ⟨_,x2,y2,e2,e18⟩:=hall _ (List.mem_of_getElem? (i:=13) rfl) 18 rfl
  rw [fillF_eval _ _ _ 105 (by simp),if_pos (by simp)] at e1 e2
  rw [e1] at hr
  obtain ⟨rfl,rfl⟩:x1 = x2 ∧ y1 = y2:=by
   have:=e1.symm.trans e2
   simpa using this
  have HR:=hide hr
  clear hall hG e1 e2 hr
  simp only [fillF,List.map_cons,List.map_nil,List.foldl_cons,List.foldl_nil,Act.put,List.setIfInBounds_toArray,List.set_cons_zero,List.set_cons_succ]
  rw [e17,e18]
  clear e17 e18
  obtain ⟨vt',m',T2,h1,h2,h3,h4,h5,h6⟩:=HR.out
  have hs:=HS.out
  have hm6:=hs.mp.step h2 hs.jm.fs
  have HM6:=hide (show JM w w6 c B mb tb took vt0 m0 (T ++ T2) vt' m' fb from { mw:=by rw [← List.append_assoc]; exact h1,st:=hs.jm.st.trans h2,fs:=hm6.2,fw:=hs.jm.fw,bb:=hs.jm.bb,gr:=hs.jm.gr.trans h3,nn:=by have:=hs.jm.nn; rw [List.length_append]; omega })
  have HMP6:=hide hm6.1
  have HMR6:=hide (hs.mr.step hs.mp h2)
  have HG3:=hide h3
  have HN4:=hide (show m'.N ≤ m0.N + Hc * s + Hc * k from by have:=HNB.out.2.1; omega)
  have HN5:=hide (show m'.N ≤ m0.N + Hc * t.length from by have:=HNB.out.2.1; have:=HNB.out.2.2; omega)
  rcases h6 with ⟨v,l2,V2,e,h7,h8,h9,h10⟩ | e
  ·obtain ⟨Al,cl,el⟩:=h7.form
   have hvx:x1 = v ∧ y1 = 0:=by
    injection e with e
    simpa using e
   obtain ⟨rfl,rfl⟩:=hvx
   obtain ⟨ln,hln⟩:∃ x,(l2.map Prod.fst).length = x:=⟨_,rfl⟩
   rw [hln] at el
   have HLN:=hide hln
   clear hln
   subst el
   have HOK:=hide (show ∀ x ∈ l2,kdOk x.1 from fun x hx=>(h8.kid x hx).ok)
   have hsu:sumK (l2.map Prod.fst) ≤ szK kis[i].1 + 68 * k:=by
    have h11:=sumZ_le szK (B:=37) (l2.map Prod.fst) (fun x hx=>by
     obtain ⟨y,hy,rfl⟩:=List.mem_map.1 hx
     exact (HOK.out y hy).sz)
    rw [List.length_map] at h11
    have h12:sumK (l2.map Prod.fst) = sumZ szK (l2.map Prod.fst):=rfl
    have h13:1 ≤ kis[i].1.k.length:=(HE.out.kv _ (List.getElem_mem hi)).1.ok.1
    unfold szK at h11 h12 ⊢
    have h14:l2.length ≤ 2 + k / 2:=h10
    have:sumK (l2.map Prod.fst) ≤ 37 * l2.length:=by rw [h12]; rw [Nat.mul_comm] at h11; first | exact h11 | omega
    omega
   go_wp2_with fail
   exact mk_tail HQ.out HE.out HS.out hi HM6.out HMR6.out HMP6.out (HS.out.jl_app HE.out HG3.out h8) h7 HOK.out h9 HK.out HKE.out hkl h10 hsu HN4.out hk1 _ _ _ _ _ _ _ _ _ _ _ _ _ _ _ _ _ _ _ _ _ _ _ _ _ _ _ _ _ _ _ _ _ _ _ _ _ _ _ _ _ _ _ _ _ _ _ _ _ _ _ _ _ _ _ _ _ _ _ _ _ _ _ _ _ _ _
  ·have hvx:x1 = .slice none 0 0 ∧ y1 = 16:=by
    injection e with e
    simpa using e
   obtain ⟨rfl,rfl⟩:=hvx
   clear h1 h2 h3 h4 h5 hm6 hs HMR6 HMP6 HG3 HS HTD HRC HR
   go_wp2_with fail
   rw [show BM 5 = Code.seq (CM 5) (BM 6) from rfl]
   conv=>arg 2; arg 1; whnf
   go_wp2_with fail
   exact HQ.out.2 _ _ _ _ _ _ _ _ _ _ _ _ _ _ _ _ _ _ _ _ _ _ _ _ _ _ _ _ _ _ _ _ _ _ _ _ _ _ _ _ _ _ _ _ _ _ _ _ _ _ _ _ _ _ _ _ _ _ _ _ _ _ _ _ _ _ _ _ _ _ _ _ _ _ _ _ _ _ HM6.out HN5.out
end
end Go.Proofs.Ytkolacaceaamoaa
/- make: its round. -/
namespace Go.Proofs.Ytkolacaceaamoaa
open Go.RowKit
open Go.Lib (compareBytes)
section
variable {Q:Exit → Act → World → Prop} {v1 v4 v5 v6 v7 v19 v21 v22 v23 v24 v25 v26 v27 v28 v29 v30 v31 v32 v33 v34 v35 v36 v37 v38 v39 v40 v41 v42 v43 v44 v45 v46 v47 v48 v49 v50 v51 v52 v53 v54 v55 v56 v57 v58 v128 v129 v130 v131 v132 v133 v134 v135 v136 v137 v138 v139 v140 v141 v142 v143 v144 v145 v146 v147 v148:Value} {dp:Int}
variable {w:World} {c:Pct} {B mb tb fb:Nat} {took:List Nat} {vt0:Value} {m0:Pst} {U:Nat → Prop} {h:Nat} {t:List Ch} {kis:List KI} {g:Nat} {vi:Value} {Ak:Option Addr} {mk ck:Nat} {Hc:Nat}
set_option maxRecDepth 100000 in
set_option maxHeartbeats 4000000 in
theorem mk_end {wr:World} {T:List Nat} {vt:Value} {m:Pst} {l:List KI} {V:Nat → Prop} {s cnt k:Nat} {A2:Option Addr} {n2 c2:Nat} {A:Option Addr} {n cc i:Nat} {g15:Nat} {A0:Option Addr} {la c0:Nat}
  (hQ:MNx Q v1 v4 v5 v6 v7 v19 v21 v22 v23 v24 v25 v26 v27 v28 v29 v30 v31 v32 v33 v34 v35 v36 v37 v38 v39 v40 v41 v42 v43 v44 v45 v46 v47 v48 v49 v50 v51 v52 v53 v54 v55 v56 v57 v58 v128 v129 v130 v131 v132 v133 v134 v135 v136 v137 v138 v139 v140 v141 v142 v143 v144 v145 v146 v147 v148 dp w c B mb tb fb took vt0 m0 U h t kis g vi Ak mk ck Hc i)
  (hE:ME c B mb tb took m0 U h t kis Hc dp) (hs:MSi w c B mb tb fb took vt0 m0 U h t kis g vi Ak mk ck Hc T vt m l V s cnt wr A2 n2 c2 A n cc i) (hi:i < kis.length) (hdp:dp + (h:Int) + 1 ≤ 32)
  (hk:i + 1 < kis.length → (∀ x ∈ (t.drop s).take k,compareBytes x.k (keyAt kis (i + 1)) < 0) ∧ ∀ x ∈ (t.drop s).drop k,0 ≤ compareBytes x.k (keyAt kis (i + 1))) (hke:i + 1 = kis.length → s + k = t.length) (hkl:s + k ≤ t.length)
  (h15:Blk wr g15 TKd #[.slice A0 la c0,.int .i64 (kis[i].1.p:Int)]) (hkr:KdR wr (Sf wr c mb vt m) kis[i].1 [.slice A0 la c0,.int .i64 (kis[i].1.p:Int)])
  (u17 u18 u20 u62 u63 u64 u65 u66 u67 u68 u69 u70 u71 u72 u73 u74 u75 u76 u77 u78 u79 u80 u81 u82 u83 u84 u85 u86 u87 u88 u89 u90 u91 u92 u93 u94 u95 u96 u97 u98 u99 u100 u101 u102 u103 u104 u105 u106 u107 u108 u109 u110 u111 u112 u113 u114 u115 u116 u117 u118 u119 u120 u121 u122 u123 u124 u125 u126 u127:Value) :
  Code.wp Try.prog (BM 3) Q { tmps:=#[.pointer (some ⟨mb,0,none⟩),v1,.slice A2 n2 c2,.int .i64 dp,v4,v5,v6,v7,.slice none 0 0,.int .i64 0,.pointer (some ⟨g,0,none⟩),.int .i64 0,.slice A n cc,.map (some fb),.int .i64 (i:Int),.pointer (some ⟨g15,0,none⟩),.int .i64 (k:Int),u17,u18,v19,u20,v21,v22,v23,v24,v25,v26,v27,v28,v29,v30,v31,v32,v33,v34,v35,v36,v37,v38,v39,v40,v41,v42,v43,v44,v45,v46,v47,v48,v49,v50,v51,v52,v53,v54,v55,v56,v57,v58,.slice Ak mk ck,.int .i64 (mk:Int),.int .i64 (i:Int),u62,u63,u64,u65,u66,u67,u68,u69,u70,u71,u72,u73,u74,u75,u76,u77,u78,u79,u80,u81,u82,u83,u84,u85,u86,u87,u88,u89,u90,u91,u92,u93,u94,u95,u96,u97,u98,u99,u100,u101,u102,u103,u104,u105,u106,u107,u108,u109,u110,u111,u112,u113,u114,u115,u116,u117,u118,u119,u120,u121,u122,u123,u124,u125,u126,u127,v128,v129,v130,v131,v132,v133,v134,v135,v136,v137,v138,v139,v140,v141,v142,v143,v144,v145,v146,v147,v148],defers:=[] } wr:=by
 rcases Nat.eq_zero_or_pos k with rfl | hk1
 ·have HQ:=hide hQ
  have HE:=hide hE
  have HS:=hide hs
  have HK:=hide hk
  have HKE:=hide hke
  obtain ⟨i0,hi0,hz0,hz1,hz2⟩:=tkd_inf
  have HI0:=hide hi0
  have HZ0:=hide hz0
  obtain ⟨xs,hxo,hxl⟩:=hs.mr.lst.row
  have hnl:=own_cnt hxo
  have hll:=hs.ll
  have htl:=hE.tl
  have hk8:=hE.k8
  have hsl:=hs.sl
  have hn9:n ≤ 1000000:=by rw [hnl,List.length_map]; omega
  have HXO:=hide (show wr.ownsRow w.heap.size TKd 2 (.slice A n cc) n xs from by rw [← hnl] at hxo; exact hxo)
  have HXL:=hide hxl
  have HNL:=hide hnl
  obtain ⟨pk,hpk⟩:∃ x,kis[i].1.p = x:=⟨_,rfl⟩
  have HPK:=hide hpk
  rw [hpk] at h15 hkr
  have kk:=h15.cell; have zz:=h15.lt
  have HKR:=hide hkr
  obtain ⟨w2,hw2⟩:∃ w2,wr.alloc (.cells #[.slice A0 la c0,.int .i64 (pk:Int)] TKd) = w2:=⟨_,rfl⟩
  have HB2:=hide (show Below wr.heap.size wr w2 from hw2 ▸ al_below wr _)
  have HN2:=hide (show Blk w2 wr.heap.size TKd #[.slice A0 la c0,.int .i64 (pk:Int)] from hw2 ▸ Blk.new _ _ _)
  have HW2:=hide hw2
  have HKD:=hide (hs.kid hE hi)
  clear hQ hE hs hk hke hi0 hz0 hxo hxl hnl hll htl hk8 hsl hpk h15 hkr hw2 hdp hkl
  rw [show BM 3 = Code.seq (CM 3) (BM 4) from rfl]
  conv=>arg 2; arg 1; whnf
  go_wp2_with (at_builtin; (rw [HW2.out]); refine wpList_append_pred _ rfl (.tmp 92) (.tmp 94) 75 rfl w.heap.size TKd i0 _ 2 32 Try.underlying75 HI0.out HZ0.out hz1 hz2 rfl (by omega) (.slice A n cc) n xs rfl (own_later HXO.out HB2.out) w2.heap.size (some ⟨wr.heap.size,0,none⟩) 1 1 [.slice A0 la c0,.int .i64 (pk:Int)] rfl (reads_blk HN2.out rfl rfl) (by intro u hu; simp at hu; rcases hu with rfl | rfl <;> rfl) (by unfold maxLen; omega) (by omega) (Nat.le_trans HS.out.jm.st.fr.size HB2.out.size) KdC (HS.out.mr.lst.all.keep (fun k hk=>HB2.out.block k (HS.out.mr.lst.sf k hk).1)) (KdR.kdc _ _ HKR.out) KdC.zero ?_; intro v' w3 ho hg hoo hall; (obtain ⟨A6,c6,rfl,hc6⟩:=own_slice ho); have HO:=hide ho; have HG:=hide hg; have HOO:=hide hoo; have HALL:=hide hall; clear ho hg hoo hall)
  have HM3:=hide (show JM w w3 c B mb tb took vt0 m0 T vt m fb from { HS.out.jm with mw:=HS.out.jm.mw.rowed HS.out.mr.lst HB2.out HG.out,st:=HS.out.jm.st.grown HB2.out HG.out (fun g hg=>(HXO.out.lt g hg).1) })
  have HMR3:=hide (show MR w.heap.size w3 c mb vt m (.slice A6 (n + 1) c6) ((l ++ [kis[i]]).map Prod.fst) g vi (.slice Ak mk ck) (kis.map Prod.fst) (.slice A2 n2 c2) (t.drop (s + 0)) from by
   rw [List.map_append,Nat.add_zero]
   refine MR.push HS.out.mr HS.out.jm.mw HB2.out (xs:=xs) (ys:=[.slice A0 la c0,.int .i64 (pk:Int)]) ⟨by rw [← HNL.out]; exact HXO.out,HXL.out⟩ ⟨_,[],by simp,HKR.out.keep (F':=Sf w2 c mb vt m) (fun j hj hlt=>HB2.out.block j hlt) (fun j hj hlt=>(MkS.low HB2.out).sf hj),rfl⟩ (fun x hx=>by rw [List.mem_singleton.1 hx]; exact HKD.out.1.ok) ?_ HG.out HOO.out HALL.out
   rw [← HNL.out]
   exact HO.out)
  have HMP3:=hide (show MapB w3 fb cnt from (HS.out.mp.below HB2.out).keep (HG.out.block fb (HS.out.mp.below HB2.out).lt (fun e=>(HS.out.mr.map_ne HS.out.mp).1 e.symm)))
  have HJL:=hide (show JL c m U (fun q=>V q ∨ U q) T h (l ++ [kis[i]]) from by
   have:=HS.out.jl_app HE.out (Grew.refl c m) (JL.one HKD.out.1 HKD.out.2.1)
   rwa [List.append_nil] at this)
  refine (HQ.out.1 _ _ _ _ _ _ _ _ _ _ _ _ _ _ _ _ _ _ _ _ _ _ _ _ _ _ _ _ _ _ _ _ _ _ _ _ _ _ _ _ _ _ _ _ _ _ _ _ _ _ _ _ _ _ _ _ _ _ _ _ _ _ _ _ _ _ _ _ _ _ _ _ _ _ _ _ _ _ _ ⟨_,_,_,_,_,_,_,MSi.next HE.out HS.out hi HM3.out HMR3.out HMP3.out HJL.out ?_ HK.out HKE.out HS.out.sl ?_ ?_ ?_ ?_ ?_⟩).2
  ·simp [mergeC_none]
  ·simp
  ·simp
  ·simp [sumK]
  ·have:=HS.out.nn; omega
  ·simp
 ·exact (by
   have HQ:=hide hQ
   have HE:=hide hE
   have HS:=hide hs
   have HK:=hide hk
   have HKE:=hide hke
   have H15:=hide h15
   have dk:((k:Int) == 0) = false:=by simp; omega
   clear hQ hE hs hk hke h15 hkr
   rw [show BM 3 = Code.seq (CM 3) (BM 4) from rfl]
   conv=>arg 2; arg 1; whnf
   go_wp2_with fail
   exact mk_call HQ.out HE.out HS.out hi hdp HK.out HKE.out hkl hk1 H15.out _ _ _ _ _ _ _ _ _ _ _ _ _ _ _ _ _ _ _ _ _ _ _ _ _ _ _ _ _ _ _ _ _ _ _ _ _ _ _ _ _ _ _ _ _ _ _ _ _ _ _ _ _ _ _ _ _ _ _ _ _ _ _ _ _ _ _ _ _)
set_option maxRecDepth 100000 in
set_option maxHeartbeats 4000000 in
theorem mk_round {wr:World} {A2:Option Addr} {n2 c2:Nat} {A:Option Addr} {n cc i:Nat}
  (hQ:MNx Q v1 v4 v5 v6 v7 v19 v21 v22 v23 v24 v25 v26 v27 v28 v29 v30 v31 v32 v33 v34 v35 v36 v37 v38 v39 v40 v41 v42 v43 v44 v45 v46 v47 v48 v49 v50 v51 v52 v53 v54 v55 v56 v57 v58 v128 v129 v130 v131 v132 v133 v134 v135 v136 v137 v138 v139 v140 v141 v142 v143 v144 v145 v146 v147 v148 dp w c B mb tb fb took vt0 m0 U h t kis g vi Ak mk ck Hc i)
  (hE:ME c B mb tb took m0 U h t kis Hc dp) (hs:MSt w c B mb tb fb took vt0 m0 U h t kis g vi Ak mk ck Hc wr A2 n2 c2 A n cc i) (him:i < mk) (hdp:dp + (h:Int) + 1 ≤ 32)
  (u14 u15 u16 u17 u18 u20 u62 u63 u64 u65 u66 u67 u68 u69 u70 u71 u72 u73 u74 u75 u76 u77 u78 u79 u80 u81 u82 u83 u84 u85 u86 u87 u88 u89 u90 u91 u92 u93 u94 u95 u96 u97 u98 u99 u100 u101 u102 u103 u104 u105 u106 u107 u108 u109 u110 u111 u112 u113 u114 u115 u116 u117 u118 u119 u120 u121 u122 u123 u124 u125 u126 u127:Value) :
  Code.wp Try.prog (BM 0) Q { tmps:=#[.pointer (some ⟨mb,0,none⟩),v1,.slice A2 n2 c2,.int .i64 dp,v4,v5,v6,v7,.slice none 0 0,.int .i64 0,.pointer (some ⟨g,0,none⟩),.int .i64 0,.slice A n cc,.map (some fb),u14,u15,u16,u17,u18,v19,u20,v21,v22,v23,v24,v25,v26,v27,v28,v29,v30,v31,v32,v33,v34,v35,v36,v37,v38,v39,v40,v41,v42,v43,v44,v45,v46,v47,v48,v49,v50,v51,v52,v53,v54,v55,v56,v57,v58,.slice Ak mk ck,.int .i64 (mk:Int),.int .i64 (i:Int),u62,u63,u64,u65,u66,u67,u68,u69,u70,u71,u72,u73,u74,u75,u76,u77,u78,u79,u80,u81,u82,u83,u84,u85,u86,u87,u88,u89,u90,u91,u92,u93,u94,u95,u96,u97,u98,u99,u100,u101,u102,u103,u104,u105,u106,u107,u108,u109,u110,u111,u112,u113,u114,u115,u116,u117,u118,u119,u120,u121,u122,u123,u124,u125,u126,u127,v128,v129,v130,v131,v132,v133,v134,v135,v136,v137,v138,v139,v140,v141,v142,v143,v144,v145,v146,v147,v148],defers:=[] } wr:=by
 obtain ⟨T,vt,m,l,V,s,cnt,hs⟩:=hs
 obtain ⟨hmc,hmm,hmk⟩:=hs.mr.kd.caps
 rw [List.length_map] at hmk
 have hi:i < kis.length:=by omega
 have hji:i < (kis.map Prod.fst).length:=by rw [List.length_map]; exact hi
 obtain ⟨b,o,A0,c0,rfl,zb,hFb,k0,k1,hkr⟩:=hs.mr.kd.at_kd hji
 have ei:(kis.map Prod.fst)[i] = kis[i].1:=List.getElem_map ..
 rw [ei] at k0 k1 hkr
 clear ei
 have hn2:n2 = (t.drop s).length:=hs.mr.td.len
 rw [List.length_drop] at hn2
 have hsl:=hs.sl
 have htl:=hE.tl
 have hk8:=hE.k8
 have hmk8:mk ≤ 84:=by omega
 obtain ⟨pk,hpk⟩:∃ x,kis[i].1.p = x:=⟨_,rfl⟩
 have HPK:=hide hpk
 rw [hpk] at k1
 obtain ⟨la,hla⟩:∃ x,kis[i].1.k.length = x:=⟨_,rfl⟩
 have HLA:=hide hla
 rw [hla] at k0
 obtain ⟨w2,hw2⟩:∃ w2,wr.alloc (.cells #[.slice A0 la c0,.int .i64 (pk:Int)] TKd) = w2:=⟨_,rfl⟩
 have HB2:=hide (show Below wr.heap.size wr w2 from hw2 ▸ al_below wr _)
 have HN2:=hide (show Blk w2 wr.heap.size TKd #[.slice A0 la c0,.int .i64 (pk:Int)] from hw2 ▸ Blk.new _ _ _)
 have HW2:=hide hw2
 have HKR:=hide (show KdR w2 (Sf w2 c mb vt m) kis[i].1 [.slice A0 la c0,.int .i64 (kis[i].1.p:Int)] from by rw [← hla]; exact hkr.keep (fun j hj hlt=>HB2.out.block j hlt) (fun j hj hlt=>(MkS.low HB2.out).sf hj.1))
 have HQ:=hide hQ
 have HE:=hide hE
 have HS:=hide hs
 have HS2:=hide (hs.below HB2.out)
 have HN2l:=hide hn2
 have HMK:=hide hmk
 have HSL:=hide hsl
 have hn29:n2 ≤ 1000000:=by omega
 clear hQ hE hn2 hsl htl hk8 hpk hla hw2 hkr hji hmm hmk
 by_cases hlast:i + 1 < mk
 ·have hj2:i + 1 < (kis.map Prod.fst).length:=by rw [List.length_map,← HMK.out]; exact hlast
  obtain ⟨b',o',A1,c1,eb,_,_,q0,q1,⟨a1,ea1,hkb⟩⟩:=HS2.out.mr.kd.at_kd hj2
  injection eb with eb
  injection eb with e1 e2
  subst e1 e2
  obtain ⟨rfl,-⟩:=List.cons.inj ea1
  clear ea1
  have e2:(kis.map Prod.fst)[i + 1] = (kis[i + 1]'(by rw [← HMK.out]; exact hlast)).1:=List.getElem_map ..
  have HKEY:=hide (show keyAt kis (i + 1) = (kis.map Prod.fst)[i + 1].k from by rw [keyAt_eq (by rw [← HMK.out]; exact hlast),e2])
  have HSE:=hide (search_chs HS2.out.mr.td hkb.all (by rw [List.length_drop]; have:=HSL.out; have:=HE.out.tl; omega))
  clear e2 hkb
  obtain ⟨y,hy⟩:∃ y,(kis.map Prod.fst)[i + 1] = y:=⟨_,rfl⟩
  rw [hy] at q0 HKEY HSE
  clear q1 hy hj2
  obtain ⟨yl,hyl⟩:∃ x,y.k.length = x:=⟨_,rfl⟩
  rw [hyl] at q0 HSE
  clear hyl
  have hnb:=HS2.out.mr.nb
  have kn:=hnb.cell; have zn:=hnb.lt
  have zb2:=Nat.lt_of_lt_of_le zb HB2.out.size
  clear hnb hs
  have dl:decide ((i:Int) + 1 < (mk:Int)) = true:=by simp; omega
  rw [show BM 0 = Code.seq (CM 0) (Code.seq (CM 1) (Code.seq (CM 2) (BM 3))) from rfl]
  conv=>arg 2; arg 1; whnf
  conv=>arg 2; arg 2; arg 1; whnf
  conv=>arg 2; arg 2; arg 2; arg 1; whnf
  go_upto_region 15 with fail
  rw [HW2.out]
  go_wp2_with (go_at_call 54; (refine HSE.out.mono ?_); rintro e w5 ⟨k,f,rfl,hf,hb⟩; have HF:=hide hf; have HB5:=hide hb; clear hf hb)
  have hsp:=found_split (HE.out.ok.rest s) HF.out
  have hfl:=HF.out.1
  rw [List.length_map,List.length_drop] at hfl
  have HS5:=hide (HS2.out.below HB5.out)
  exact mk_end HQ.out HE.out HS5.out hi hdp (fun _=>by rw [HKEY.out]; exact hsp) (fun e=>by have:=HMK.out; omega) (by have:=HSL.out; omega) (by rw [HPK.out]; exact HN2.out.below HB5.out HN2.out.lt) (HKR.out.keep (fun j hj hlt=>HB5.out.block j hlt) (fun j hj hlt=>(MkS.low HB5.out).sf hj)) _ _ _ _ _ _ _ _ _ _ _ _ _ _ _ _ _ _ _ _ _ _ _ _ _ _ _ _ _ _ _ _ _ _ _ _ _ _ _ _ _ _ _ _ _ _ _ _ _ _ _ _ _ _ _ _ _ _ _ _ _ _ _ _ _ _ _ _ _
 ·have dl:decide ((i:Int) + 1 < (mk:Int)) = false:=by simp; omega
  have hnb:=HS2.out.mr.nb
  have kn:=hnb.cell; have zn:=hnb.lt
  clear hnb hs
  rw [show BM 0 = Code.seq (CM 0) (Code.seq (CM 1) (Code.seq (CM 2) (BM 3))) from rfl]
  conv=>arg 2; arg 1; whnf
  conv=>arg 2; arg 2; arg 1; whnf
  conv=>arg 2; arg 2; arg 2; arg 1; whnf
  go_upto_region 15 with fail
  rw [HW2.out]
  go_wp2_with fail
  exact mk_end HQ.out HE.out HS2.out hi hdp (fun e=>absurd e (by have:=HMK.out; omega)) (fun e=>by have:=HN2l.out; have:=HSL.out; omega) (by have:=HN2l.out; have:=HSL.out; omega) (by rw [HPK.out]; exact HN2.out) HKR.out _ _ _ _ _ _ _ _ _ _ _ _ _ _ _ _ _ _ _ _ _ _ _ _ _ _ _ _ _ _ _ _ _ _ _ _ _ _ _ _ _ _ _ _ _ _ _ _ _ _ _ _ _ _ _ _ _ _ _ _ _ _ _ _ _ _ _ _ _
end
end Go.Proofs.Ytkolacaceaamoaa
/- make, the whole. -/
namespace Go.Proofs.Ytkolacaceaamoaa
open Go.RowKit
open Go.Lib (compareBytes)
theorem seal_inj {kind:Nat} {a b:Cn} (ha:a.length ≤ 505) (hb:b.length ≤ 505) (h:sealC kind a = sealC kind b):a = b:=by
 have h1:=congrArg (List.drop 5) h
 rw [seal_drop5,seal_drop5,List.append_assoc,List.append_assoc] at h1
 obtain ⟨h2,h3⟩:=List.append_inj h1 (by rw [beN_len,beN_len])
 have h4:=congrArg evN h2
 rw [evN_beN (by omega),evN_beN (by omega)] at h4
 exact (List.append_inj h3 h4).1
theorem flat_count:∀ a b:List Kd,(∀ k ∈ a,kdOk k) → (∀ k ∈ b,kdOk k) → a.flatMap kdB = b.flatMap kdB → a.length = b.length
 | [],[],_,_,_=>rfl
 | [],y :: b,_,_,h=>by
  rw [List.flatMap_nil,List.flatMap_cons] at h
  have:=congrArg List.length h
  rw [List.length_append,kdB_len,List.length_nil] at this
  unfold szK at this
  omega
 | x :: a,[],_,_,h=>by
  rw [List.flatMap_nil,List.flatMap_cons] at h
  have:=congrArg List.length h
  rw [List.length_append,kdB_len,List.length_nil] at this
  unfold szK at this
  omega
 | x :: a,y :: b,ha,hb,h=>by
  rw [List.flatMap_cons,List.flatMap_cons] at h
  have hx:=ha x List.mem_cons_self
  have hy:=hb y List.mem_cons_self
  have hl:x.k.length = y.k.length:=by
   have h1:UInt8.ofNat x.k.length = UInt8.ofNat y.k.length:=by
    unfold kdB at h
    exact (List.cons.inj h).1
   have h2:=congrArg UInt8.toNat h1
   simp only [UInt8.toNat_ofNat'] at h2
   have:=hx.2.1
   have:=hy.2.1
   omega
  have h3:=(List.append_inj h (by rw [kdB_len,kdB_len]; unfold szK; omega)).2
  rw [List.length_cons,List.length_cons,flat_count a b (fun k hk=>ha k (List.mem_cons_of_mem _ hk)) (fun k hk=>hb k (List.mem_cons_of_mem _ hk)) h3]
theorem root_count {C:Int → Cn} {p q:Nat} {ks:List Kd} (hr:RootK C p q) (hc:C p = sealC 2 (ndB [] ks)) (hok:∀ k ∈ ks,kdOk k) (hs:(ndB [] ks).length ≤ 505):q = ks.length:=by
 obtain ⟨ks',rfl,hc',hok',hs',_⟩:=hr
 have h1:=seal_inj hs' hs (hc'.symm.trans hc)
 unfold ndB at h1
 exact flat_count _ _ hok' hok (by simpa using (List.cons.inj h1).2)
theorem root_leaf {C:Int → Cn} {p q:Nat} {is:List It} (hr:RootK C p q) (hc:C p = sealC 2 (ndB is [])) (hs:(ndB is []).length ≤ 505):False:=by
 obtain ⟨ks',rfl,hc',hok',hs',hne⟩:=hr
 have h1:=seal_inj hs' hs (hc'.symm.trans hc)
 unfold ndB at h1
 rw [if_neg hne,if_pos rfl] at h1
 have:=(List.cons.inj h1).1
 exact absurd this (by decide)
/-- What make answers: how many nodes, and whose root it is. -/
def EB (c:Pct) (m0:Pst) (p tl h:Nat) (m':Pst) (l:List KI):Prop:=
 l.length ≤ 2 + tl / 2 ∧ ∀ q,RootK (m0.C c) p q → l.length ≤ 1 + (1 + 37 * (2 * q + tl / 2)) / 468 ∧ l.length ≤ 1 + (1 + 37 * (q + tl)) / 468 ∧ ∀ x,l = [x] → KidT c m' h x ∨ ∃ q',q' ≤ q + tl ∧ RootK (m'.C c) x.1.p q'
theorem MkJ.impl {w w':World} {c:Pct} {B mb tb:Nat} {took:List Nat} {vt:Value} {m:Pst} {U:Nat → Prop} {is:List It} {h bnd:Nat} {E E':Pst → List KI → Prop} {e:Ending} (hq:MkJ w c B mb tb took vt m U is h bnd E e w') (hp:∀ m l,E m l → E' m l):MkJ w c B mb tb took vt m U is h bnd E' e w':=by
 obtain ⟨vt',m',T,h1,h2,h3,h4,h5,h6⟩:=hq
 exact ⟨vt',m',T,h1,h2,h3,h4,h5,h6.imp (fun ⟨v,l,V,a,b,d,e,f⟩=>⟨v,l,V,a,b,d,e,hp _ _ f⟩) id⟩
theorem leaf_parts {is:List It} {t:List Ch} (h1:∀ i ∈ is,itOk i) (h2:(ndB is []).length ≤ 505) (ht:∀ c ∈ t,1 ≤ c.k.length ∧ c.k.length ≤ 32 ∧ c.v.length ≤ 128):(cutF szI (mergeC is t)).length ≤ 2 + t.length / 2:=by
 have h3:=cutI_sum (mergeC_okI h1 ht)
 have h4:=mergeC_sum is t ht
 rw [ndB_len,show sumK [] = 0 from rfl] at h2
 omega
theorem mergeC_lenle:∀ (l:List It) (t:List Ch),(mergeC l t).length ≤ l.length + t.length
 | l,[]=>by rw [mergeC_none]; omega
 | [],c :: t=>by have:=mergeC_len (c :: t); simpa using this
 | i :: l,c :: t=>by
  have i1:=mergeC_lenle l (c :: t)
  have i2:=mergeC_lenle l t
  have i3:=mergeC_lenle (i :: l) t
  have:c.item.length ≤ 1:=by unfold Ch.item; split <;> simp
  rw [mergeC_cc]
  rw [List.length_cons] at i1 i3 ⊢
  rw [List.length_cons]
  split
  ·rw [List.length_cons]; omega
  ·split
   ·rw [List.length_append]; omega
   ·rw [List.length_append]; omega
termination_by l t=>l.length + t.length
set_option maxRecDepth 100000 in
set_option maxHeartbeats 4000000 in
theorem make_leaf {w:World} {c:Pct} {B mb tb:Nat} {took:List Nat} {vt:Value} {m:Pst} {U:Nat → Prop} {p n cc:Nat} {A:Option Addr} {is:List It} {t:List Ch} {dp:Int} (h:Nat) (hm:MkW w c B mb tb took vt m) (hB:B ≤ w.heap.size) (hl:SLk 3 ChR w (Sf w c mb vt m) (.slice A n cc) t) (hok:okL t) (htl:t.length ≤ 1000000)
  (hpg:pgB c.n (p:Int) = true) (hnd:ndOk ((is,[]):Nd)) (hc:m.C c p = sealC 2 (ndB is [])) (htk:took.length ≤ 3000000) (hN:m.N + 200 * max 1 t.length < 1000000000) (hd:dp ≤ 32) :
  Calls Try.prog 33 #[.pointer (some ⟨mb,0,none⟩),.int .i64 (p:Int),.slice A n cc,.int .i64 dp] w fun e w'=>MkJ w c B mb tb took vt m U (mergeC is t) h (200 * max 1 t.length) (EB c m p t.length h) e w':=by
 have hp2:2 ≤ p:=by unfold pgB at hpg; simp at hpg; omega
 have dp0:((p:Int) == 0) = false:=by simp; omega
 have hpl:=leaf_parts hnd.2.1 hnd.2.2.2 hok.1
 have HM:=hide hm
 have HMB:=hide hm.mkb
 have HTB:=hide hm.tr
 have HL:=hide hl
 have HT1:=hide htl
 have HPG:=hide hpg
 have HND:=hide hnd
 have HC:=hide hc
 have HTK:=hide htk
 have HN:=hide hN
 have HPL:=hide hpl
 have hic:=ndOk.few hnd
 have hlen:=hl.len
 have HLEN:=hide hlen
 have HIT:=hide (mergeC_okI hnd.2.1 hok.1)
 have HRD:=hide (fun (w3:World) (hb:Below w.heap.size w w3)=>read_nd (hm.below hb) p hpg hnd hc)
 have kk:=hm.mkb.cell; have zz:=hm.mkb.lt
 clear hm hl htl hpg hnd hc htk hN hpl hok hlen
 go_enter Try.func33,Try.ntmps33
 go_upto_region 6 with (go_at_call 27; (refine (HRD.out _ (Below.refl _ _)).mono ?_); rintro e w1 ⟨g,rfl,hr⟩; have HR:=hide hr; clear hr)
 obtain ⟨hn1,hm1,hs1⟩:=HR.out
 have HM1:=hide hm1
 have HS1:=hide hs1
 have HLF:=hide (leaf_any (hn1.keep (F':=fun j=>j < w1.heap.size) (fun _ _ _=>rfl) (fun j _ hj=>hj)))
 have HNI:=hide (hn1.keep (F':=Sf w1 c mb vt m) (fun _ _ _=>rfl) (fun j hj hlt=>HM.out.fresh hj hlt))
 obtain ⟨vi,vk,hb,_,hi1,_⟩:=HNI.out
 obtain ⟨Ai,ci,xi,rfl,_⟩:=hi1
 obtain ⟨li,hli⟩:∃ x,is.length = x:=⟨_,rfl⟩
 have HLI:=hide hli
 rw [hli] at hb
 have HI1:=hide (show SLk 2 ItR w1 (Sf w1 c mb vt m) (.slice Ai li ci) is from by
  obtain ⟨vi',vk',hb',_,hi',_⟩:=HNI.out
  have:=blk_same hb hb'
  have e:vi' = .slice Ai li ci:=by
   have:=congrArg (fun x:Array Value=>x[0]?) this
   simpa using this.symm
  rw [← e]
  exact hi')
 have HT:=hide (HS1.out.slk @ChR.keep (by omega) HL.out)
 have kn:=hb.cell; have zn:=hb.lt
 have HNB:=hide hb
 clear hn1 hm1 hs1 hb hli kk zz
 go_upto_region 9 with (go_at_call 28; (refine HLF.out.mono ?_); rintro e w2 ⟨rfl,e2⟩; rw [e2]; clear e2)
 go_wp2_with (first | (go_at_call 52; (refine (leaves_any (HM1.out.below HB1.out) (Nat.le_trans (Nat.le_trans hB HS1.out.fr.size) HB1.out.size) HSL.out HIT.out (by have:=mergeC_lenle is t; have:=HT1.out; omega) (by have:=HN.out; have:=HPL.out; have:=HT1.out; omega) (by have:=HTK.out; have:=HPL.out; have:=HT1.out; omega)).mono ?_); rintro e w5 hq; have HQ5:=hide (MkJ.from_ (HS1.out.trans (MkS.low HB1.out)) (MkJ.leaves (U:=U) (E:=EB c m p t.length h) h HIT.out (fun m' l hl=>⟨by rw [hl]; exact HPL.out,fun q hq=>(root_leaf hq HC.out HND.out.2.2.2).elim⟩) hq)); obtain ⟨vt',m',T,h1,h2,h3,h4,h4',(⟨v,kds,rfl,_⟩ | ⟨rfl,_⟩)⟩:=hq) | (go_at_call 53; (refine (items_any (F:=Sf w1 c mb vt m) HI1.out HT.out (by have:=HT1.out; omega)).mono ?_); rintro e w3 ⟨v1,rfl,hgr,hb⟩; have HB1:=hide hb; have HSL:=hide (hgr.slk (F':=Sf w3 c mb vt m) (by decide) @ItR.keep (fun j hj hlt=>hb.block j hlt) (fun j hj hlt=>(MkS.low hb).sf hj) (fun g hg=>by obtain ⟨xs,h1,_⟩:=hgr; exact HM1.out.fresh (h1.lt g hg).1 (h1.lt g hg).2)); clear hgr hb))
 all_goals (clear h1 h2 h3 h4 h4'; try go_wp2_with fail)
 ·refine bodyPost_ret (v:=.tuple #[v,.int .i64 0]) (by simp (maxDischargeDepth:=9) [results,Try.results33,go_sem]; done) rfl (HQ5.out.mono (by have:=HPL.out; have:=HT1.out; omega))
 ·refine bodyPost_ret (v:=.tuple #[.slice none 0 0,.int .i64 16]) (by simp (maxDischargeDepth:=9) [results,Try.results33,go_sem]; done) rfl (HQ5.out.mono (by have:=HPL.out; have:=HT1.out; omega))
end Go.Proofs.Ytkolacaceaamoaa
