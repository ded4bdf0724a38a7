/- The law's grown: its call of Put. -/
import Derived.Test.YtkolacaceaamoaaKTd
set_option linter.unusedSimpArgs false
set_option linter.unusedVariables false
namespace Go.Proofs.Ytkolacaceaamoaa
open Go.RowKit
open Go.Lib (compareBytes)
/-- grown's round, from its k-th statement on. -/
noncomputable def BG (k:Nat):Code:=dropS' k (inLoopD (dropS' 3 ((Try.f9.body).getD .skip)))
noncomputable def CG (k:Nat):Code:=match BG k with
 | .seq a _=>a
 | c=>c
/-- What Put answered to a step. -/
def GwP (w0:World) (c:Pct) (tb j:Nat) (v7 v8:Value) (roots:List Nat) (lists:List (List It)) (l put:List It) (gone:List Cn) (r:Nat) (ev:Int) (w':World):Prop:=
 ∃ m',GwC w0 c tb (j + 1) m' v7 v8 roots lists w' ∧ GwT c (j + 1) m' roots lists ∧ ((fitsP put gone ∧ (ev = 16 ∨ (ev = 0 ∧ TreH c m' r (doneL l put gone) (j + 1 + 1) 25))) ∨ (¬ fitsP put gone ∧ ev = 1 ∧ r = 0))
section
variable {v1 v2 v3 v15 v16 v17 v18 v19 v20 v21 v22 v23 v24 v25 v26 v27 v28 v29 v30 v31 v32 v33 v34 v35 v36 v37 v38 v39 v40 v41 v42 v43 v44 v45 v46 v97 v98:Value}
variable {Q:Exit → Act → World → Prop} {w0 w1:World} {c:Pct} {tb g7 g8 nr cap7 cap8 i bx k:Nat} {m:Pst} {roots:List Nat} {lists:List (List It)} {K:Int} {Ap Ag:Option Addr} {np cp ng cg:Nat} {put:List It} {gone:List Cn}
set_option maxRecDepth 100000 in
set_option maxHeartbeats 8000000 in
theorem grown_call (hk:k < roots.length) (hk2:k < lists.length) (hnr:roots.length = nr) (hcap:nr ≤ cap7 ∧ cap7 ≤ 9223372036854775807) (hj:i ≤ 30)
  (hQ:∀ (u14 u47 u48 u49 u50 u51 u52 u53 u54 u55 u56 u57 u58 u59 u60 u61 u62 u63 u64 u65 u66 u67 u68 u69 u70 u71 u72 u73 u74 u75 u76 u77 u78 u79 u80 u81 u82 u83 u84 u85 u86 u87 u88 u89 u90 u91 u92 u93 u94 u95 u96:Value) (r:Nat) (ev:Int) (w':World),GwP w0 c tb i (.slice (some ⟨g7,0,none⟩) nr cap7) (.slice (some ⟨g8,0,none⟩) nr cap8) roots lists lists[k] put gone r ev w' → Blk w' bx TSp #[.int .i64 K,.slice Ap np cp,.slice Ag ng cg] → Code.wp Try.prog (BG 5) Q { tmps:=#[.pointer (some ⟨tb,0,none⟩),v1,v2,v3,.slice none 0 0,.slice none 0 0,.bool false,.slice (some ⟨g7,0,none⟩) nr cap7,.slice (some ⟨g8,0,none⟩) nr cap8,.int .i64 (i:Int),.pointer (some ⟨bx,0,none⟩),.int .i64 (k:Int),.int .i64 (r:Int),.int .i64 ev,u14,v15,v16,v17,v18,v19,v20,v21,v22,v23,v24,v25,v26,v27,v28,v29,v30,v31,v32,v33,v34,v35,v36,v37,v38,v39,v40,v41,v42,v43,v44,v45,v46,u47,u48,u49,u50,u51,u52,u53,u54,u55,u56,u57,u58,u59,u60,u61,u62,u63,u64,u65,u66,u67,u68,u69,u70,u71,u72,u73,u74,u75,u76,u77,u78,u79,u80,u81,u82,u83,u84,u85,u86,u87,u88,u89,u90,u91,u92,u93,u94,u95,u96,v97,v98],defers:=[] } w')
  (hC:GwC w0 c tb i m (.slice (some ⟨g7,0,none⟩) nr cap7) (.slice (some ⟨g8,0,none⟩) nr cap8) roots lists w1) (hT:GwT c i m roots lists) (hbx:Blk w1 bx TSp #[.int .i64 K,.slice Ap np cp,.slice Ag ng cg]) (hbp:¬ PF m.F c.pb c.sb bx)
  (hp:SLk 2 ItR w0 (fun j=>j < w0.heap.size) (.slice Ap np cp) put) (hg:SLk 1 BsR w0 (fun j=>j < w0.heap.size) (.slice Ag ng cg) gone) (hlen:put.length + gone.length ≤ 200) (hpl:∀ x ∈ put,x.k.length ≤ 1073741824 ∧ x.v.length ≤ 1073741824) (hgl:∀ k ∈ gone,k.length ≤ 1073741824)
  (u12 u13 u14 u47 u48 u49 u50 u51 u52 u53 u54 u55 u56 u57 u58 u59 u60 u61 u62 u63 u64 u65 u66 u67 u68 u69 u70 u71 u72 u73 u74 u75 u76 u77 u78 u79 u80 u81 u82 u83 u84 u85 u86 u87 u88 u89 u90 u91 u92 u93 u94 u95 u96:Value):Code.wp Try.prog (BG 4) Q { tmps:=#[.pointer (some ⟨tb,0,none⟩),v1,v2,v3,.slice none 0 0,.slice none 0 0,.bool false,.slice (some ⟨g7,0,none⟩) nr cap7,.slice (some ⟨g8,0,none⟩) nr cap8,.int .i64 (i:Int),.pointer (some ⟨bx,0,none⟩),.int .i64 (k:Int),u12,u13,u14,v15,v16,v17,v18,v19,v20,v21,v22,v23,v24,v25,v26,v27,v28,v29,v30,v31,v32,v33,v34,v35,v36,v37,v38,v39,v40,v41,v42,v43,v44,v45,v46,u47,u48,u49,u50,u51,u52,u53,u54,u55,u56,u57,u58,u59,u60,u61,u62,u63,u64,u65,u66,u67,u68,u69,u70,u71,u72,u73,u74,u75,u76,u77,u78,u79,u80,u81,u82,u83,u84,u85,u86,u87,u88,u89,u90,u91,u92,u93,u94,u95,u96,v97,v98],defers:=[] } w1:=by
 obtain ⟨g,cap,e,-,-,z7,k7⟩:=hC.at7 hk
 have hgg:g = g7:=by
  injection e with e _ _
  injection e with e
  injection e with e
  exact e.symm
 rw [hgg] at z7 k7
 clear e hgg
 obtain ⟨r0,hr0⟩:∃ r,roots[k] = r:=⟨_,rfl⟩
 rw [hr0] at k7
 obtain ⟨lk,hlk⟩:∃ l,lists[k] = l:=⟨_,rfl⟩
 rw [hlk] at hQ
 have hkn:k < nr:=by omega
 obtain ⟨hcap1,hcap2⟩:=hcap
 have hb01:=hC.nl.bel
 have HPU:=hide (fun (w3:World) (hb:Below w1.heap.size w1 w3) (vp vg:Value) (h1:SLk 2 ItR w3 (fun j=>j < w3.heap.size) vp put) (h2:SLk 1 BsR w3 (fun j=>j < w3.heap.size) vg gone)=>(show Calls Try.prog 16 #[.pointer (some ⟨tb,0,none⟩),.int .i64 (r0:Int),vp,vg] w3 fun e w'=>∃ (r:Nat) (ev:Int),e = .returned (.tuple #[.int .i64 (r:Int),.int .i64 ev]) ∧ GwP w0 c tb i (.slice (some ⟨g7,0,none⟩) nr cap7) (.slice (some ⟨g8,0,none⟩) nr cap8) roots lists lk put gone r ev w' ∧ Blk w' bx TSp #[.int .i64 K,.slice Ap np cp,.slice Ag ng cg] from by
  have h:=grown_put (hC.below hb) hT hk hk2 hj h1 h2 hlen hpl hgl
  rw [hr0,hlk] at h
  exact h.mono fun e w' ⟨r,ev,m',he,h3,h4,hf,h5⟩=>⟨r,ev,he,⟨m',h3,h4,h5⟩,hf.blk (hbx.below hb hbx.lt) hbp⟩))
 have HOW:=hide (fun (w3:World) (hb:Below w1.heap.size w1 w3)=>lown_any (w:=w3) (F:=fun j=>j < w3.heap.size) (hp.keep (by omega) @ItR.keep (fun j hj _=>(hb01.trans (hb.mono hb01.size)).block j hj) (fun j hj _=>Nat.lt_of_lt_of_le hj (hb01.trans (hb.mono hb01.size)).size)) (by omega) hpl)
 have HKE:=hide (fun (w3:World) (hb:Below w1.heap.size w1 w3)=>lkeys_gr (w:=w3) (F:=fun j=>j < w3.heap.size) (hg.keep (by omega) @BsR.keep (fun j hj _=>(hb01.trans (hb.mono hb01.size)).block j hj) (fun j hj _=>Nat.lt_of_lt_of_le hj (hb01.trans (hb.mono hb01.size)).size)) (by omega) hgl)
 have HQ:=hide hQ
 have HC:=hide hC
 have HBX:=hide hbx
 have HB01:=hide hb01
 clear hQ hC hT hbx hp hg hb01 hr0 hlk hpl hgl
 rw [show BG 4 = Code.seq (CG 4) (BG 5) from rfl]
 conv=>arg 2; arg 1; whnf
 go_upto_region 11 with fail
 refine wp_region_dag (by kernel_rfl) (by kernel_rfl) 99 1
  [⟨some 48,[0],[],[],[],[],fun _ _ v _=>v = .pointer (some ⟨tb,0,none⟩)⟩,
   ⟨some 49,[0],[],[],[],[],fun _ _ v _=>v = .slice (some ⟨g7,0,none⟩) nr cap7⟩,
   ⟨some 50,[0],[],[],[],[],fun _ _ v _=>v = .int .i64 (k:Int)⟩,
   ⟨some 51,[0],[],[],[1,2],[],fun _ _ v _=>v = .pointer (some ⟨g7,k,none⟩)⟩,
   ⟨some 52,[0],[],[],[3],[],fun _ _ v _=>v = .int .i64 (r0:Int)⟩,
   ⟨some 53,[0],[],[],[],[],fun _ _ v _=>v = .pointer (some ⟨bx,1,none⟩)⟩,
   ⟨some 54,[0],[],[],[5],[],fun _ _ v _=>v = .slice Ap np cp⟩,
   ⟨some 55,[0],[],[],[6],[],fun st a v w'=>st = 0 → ∃ A n cc,v = .slice A n cc ∧ SLk 2 ItR w' (fun j=>j < w'.heap.size) (.slice A n cc) put⟩,
   ⟨some 56,[0],[],[],[],[],fun _ _ v _=>v = .pointer (some ⟨bx,2,none⟩)⟩,
   ⟨some 57,[0],[],[],[8],[],fun _ _ v _=>v = .slice Ag ng cg⟩,
   ⟨some 58,[0],[],[],[9],[],fun st a v w'=>st = 0 → ∃ A n cc,v = .slice A n cc ∧ SLk 1 BsR w' (fun j=>j < w'.heap.size) (.slice A n cc) gone⟩,
   ⟨some 59,[0],[(0,1)],[1],[0,4,7,10],[],fun st a v w'=>1 ≤ st ∧ ∃ (r:Nat) (ev:Int),v = .tuple #[.int .i64 (r:Int),.int .i64 ev] ∧ GwP w0 c tb i (.slice (some ⟨g7,0,none⟩) nr cap7) (.slice (some ⟨g8,0,none⟩) nr cap8) roots lists lk put gone r ev w' ∧ Blk w' bx TSp #[.int .i64 K,.slice Ap np cp,.slice Ag ng cg]⟩,
   ⟨some 47,[1],[],[],[11],[],fun st a v w'=>1 ≤ st ∧ ∃ (r:Nat) (ev:Int),v = .tuple #[.int .i64 (r:Int),.int .i64 ev] ∧ GwP w0 c tb i (.slice (some ⟨g7,0,none⟩) nr cap7) (.slice (some ⟨g8,0,none⟩) nr cap8) roots lists lk put gone r ev w' ∧ Blk w' bx TSp #[.int .i64 K,.slice Ap np cp,.slice Ag ng cg]⟩,
   ⟨some 60,[1],[],[],[12],[47],fun st a v w'=>1 ≤ st ∧ ∃ (r:Nat) (ev:Int),a.eval (.tmp 47) = .tuple #[.int .i64 (r:Int),.int .i64 ev] ∧ v = .int .i64 (r:Int)⟩,
   ⟨some 61,[1],[],[],[12],[47],fun st a v w'=>1 ≤ st ∧ ∃ (r:Nat) (ev:Int),a.eval (.tmp 47) = .tuple #[.int .i64 (r:Int),.int .i64 ev] ∧ v = .int .i64 ev⟩,
   ⟨some 12,[1],[],[],[12,13],[47],fun st a v w'=>1 ≤ st ∧ ∃ (r:Nat) (ev:Int),a.eval (.tmp 47) = .tuple #[.int .i64 (r:Int),.int .i64 ev] ∧ v = .int .i64 (r:Int)⟩,
   ⟨some 13,[1],[],[],[12,14],[47],fun st a v w'=>1 ≤ st ∧ ∃ (r:Nat) (ev:Int),a.eval (.tmp 47) = .tuple #[.int .i64 (r:Int),.int .i64 ev] ∧ v = .int .i64 ev⟩] (fun st w'=>st = 0 → Below w1.heap.size w1 w') (fun s s' _ _ _=>s = 0 ∧ s' = 1) (fun _ w w'=>Below w.heap.size w w') ?gu ?ru ?put [48,49,50,51,52,53,54,55,56,57,58,59,47,60,61,12,13] rfl (by kernel_rfl) rfl ?g0 ?keep ?steps ?fin
 case ru=>
  intro e he s a v w w' hu hv
  simp only [List.mem_cons,List.not_mem_nil,or_false] at he
  rcases he with rfl | rfl | rfl | rfl | rfl | rfl | rfl | rfl | rfl | rfl | rfl | rfl | rfl | rfl | rfl | rfl | rfl
  all_goals first | exact hv | (intro h0; obtain ⟨A',n',c',e,h⟩:=hv h0; exact ⟨A',n',c',e,h.keep (by omega) @ItR.keep (fun j hj _=>hu.block j hj) (fun j hj _=>Nat.lt_of_lt_of_le hj hu.size)⟩) | (intro h0; obtain ⟨A',n',c',e,h⟩:=hv h0; exact ⟨A',n',c',e,h.keep (by omega) @BsR.keep (fun j hj _=>hu.block j hj) (fun j hj _=>Nat.lt_of_lt_of_le hj hu.size)⟩) | (obtain ⟨h0,r,ev,e,⟨m',h1,h2,h3⟩,h4⟩:=hv; exact ⟨h0,r,ev,e,⟨m',h1.below hu,h2,h3⟩,h4.below hu h4.lt⟩)
 case put=>
  intro e he s a d u v w hnd hv
  simp only [List.mem_cons,List.not_mem_nil,or_false] at he
  rcases he with rfl | rfl | rfl | rfl | rfl | rfl | rfl | rfl | rfl | rfl | rfl | rfl | rfl | rfl | rfl | rfl | rfl
  all_goals first | exact hv | (obtain ⟨h0,r,ev,h1,h2⟩:=hv; exact ⟨h0,r,ev,(act_ne (by simpa using fun e=>hnd (by simp [e]))).trans h1,h2⟩)
 case keep=>
  intro e he s s' a v w w' hsl hm ht hv
  simp only [List.mem_cons,List.not_mem_nil,or_false] at he
  rcases he with rfl | rfl | rfl | rfl | rfl | rfl | rfl | rfl | rfl | rfl | rfl | rfl | rfl | rfl | rfl | rfl | rfl
  all_goals first | exact hv | (intro h3; exfalso; have:=ht.2; omega) | (exfalso; have:=hv.1; have:=ht.1; omega)
 case steps=>
  refine ⟨?_,?_,?_,?_,?_,?_,?_,?_,?_,?_,?_,?_,?_,?_,?_,?_,?_,trivial⟩
  ·intro st hst ac w3 hg hG hd K hK
   dsimp only at hst hG hK
   exact op_move _ rfl (hK _ _ (Below.refl _ _) (hg.kp 0 (by simp)))
  ·intro st hst ac w3 hg hG hd K hK
   dsimp only at hst hG hK
   exact op_move _ rfl (hK _ _ (Below.refl _ _) (hg.kp 7 (by simp)))
  ·intro st hst ac w3 hg hG hd K hK
   dsimp only at hst hG hK
   exact op_move _ rfl (hK _ _ (Below.refl _ _) (hg.kp 11 (by simp)))
  ·intro st hst ac w3 hg hG hd K hK
   dsimp only at hst hG hK
   have f1:=hd 1 (by simp) _ rfl _ rfl
   have f2:=hd 2 (by simp) _ rfl _ rfl
   (try simp [Act.eval] at f1)
   (try simp [Act.eval] at f2)
   go_simp
   exact hK _ _ (Below.refl _ _) rfl
  ·intro st hst ac w3 hg hG hd K hK
   dsimp only at hst hG hK
   simp only [List.mem_cons,List.not_mem_nil,or_false] at hst
   subst hst
   have kk:=((hG rfl).cell (p:=⟨g7,k,none⟩) z7).trans k7
   have zz:=Nat.lt_of_lt_of_le z7 (hG rfl).size
   clear hG
   have f3:=hd 3 (by simp) _ rfl _ rfl
   (try simp [Act.eval] at f3)
   go_simp
   exact hK _ _ (Below.refl _ _) rfl
  ·intro st hst ac w3 hg hG hd K hK
   dsimp only at hst hG hK
   have k10:=hg.kp 10 (by simp)
   (try simp [Act.eval] at k10)
   go_simp
   exact hK _ _ (Below.refl _ _) rfl
  ·intro st hst ac w3 hg hG hd K hK
   dsimp only at hst hG hK
   simp only [List.mem_cons,List.not_mem_nil,or_false] at hst
   subst hst
   have hX:=HBX.out.below (hG rfl) HBX.out.lt
   have kk:=hX.cell 1
   have zz:=hX.lt
   simp at kk
   clear hG hX
   have f5:=hd 5 (by simp) _ rfl _ rfl
   (try simp [Act.eval] at f5)
   go_simp
   exact hK _ _ (Below.refl _ _) rfl
  ·intro st hst ac w3 hg hG hd K hK
   dsimp only at hst hG hK
   simp only [List.mem_cons,List.not_mem_nil,or_false] at hst
   subst hst
   have f6:=hd 6 (by simp) _ rfl _ rfl
   have HG9:=hide (hG rfl)
   clear hG
   simp [Act.eval] at f6
   go_simp
   (refine (HOW.out w3 HG9.out).mono ?_)
   rintro e w5 ⟨v5,rfl,hsl,hb⟩
   (obtain ⟨A5,c5,xs5,e5,h5⟩:=id hsl)
   subst e5
   exact hK _ _ hb (fun _=>⟨_,_,_,rfl,hsl.keep (by omega) @ItR.keep (fun _ _ _=>rfl) (fun j hj _=>hj.2)⟩)
  ·intro st hst ac w3 hg hG hd K hK
   dsimp only at hst hG hK
   have k10:=hg.kp 10 (by simp)
   (try simp [Act.eval] at k10)
   go_simp
   exact hK _ _ (Below.refl _ _) rfl
  ·intro st hst ac w3 hg hG hd K hK
   dsimp only at hst hG hK
   simp only [List.mem_cons,List.not_mem_nil,or_false] at hst
   subst hst
   have hX:=HBX.out.below (hG rfl) HBX.out.lt
   have kk:=hX.cell 2
   have zz:=hX.lt
   simp at kk
   clear hG hX
   have f8:=hd 8 (by simp) _ rfl _ rfl
   (try simp [Act.eval] at f8)
   go_simp
   exact hK _ _ (Below.refl _ _) rfl
  ·intro st hst ac w3 hg hG hd K hK
   dsimp only at hst hG hK
   simp only [List.mem_cons,List.not_mem_nil,or_false] at hst
   subst hst
   have f9:=hd 9 (by simp) _ rfl _ rfl
   have HG9:=hide (hG rfl)
   clear hG
   simp [Act.eval] at f9
   go_simp
   (refine (HKE.out w3 HG9.out).mono ?_)
   rintro e w5 ⟨v5,rfl,hgr⟩
   have hsl:=hgr.slk (F':=fun j=>j < w5.heap.size) @BsR.keep (by omega) (fun j _ hj=>hj)
   (obtain ⟨A5,c5,xs5,e5,h5⟩:=id hsl)
   subst e5
   exact hK _ _ hgr.bel (fun _=>⟨_,_,_,rfl,hsl⟩)
  ·intro st st' hmv ac w3 hg hG hd K hK
   simp only [List.mem_cons,Prod.mk.injEq,List.not_mem_nil,or_false] at hmv
   obtain ⟨rfl,rfl⟩:=hmv
   dsimp only at hG hK
   have f0:=hd 0 (by simp) _ rfl _ rfl
   have f4:=hd 4 (by simp) _ rfl _ rfl
   (obtain ⟨A7,n7,c7,f7,hs7⟩:=hd 7 (by simp) _ rfl _ rfl rfl)
   (obtain ⟨A8,n8,c8,f10,hs8⟩:=hd 10 (by simp) _ rfl _ rfl rfl)
   have HG9:=hide (hG rfl)
   have HS7:=hide hs7
   have HS8:=hide hs8
   clear hG hs7 hs8
   simp [Act.eval] at f0 f4 f7 f10
   go_simp
   (refine (HPU.out w3 HG9.out _ _ HS7.out HS8.out).mono ?_)
   rintro e w5 ⟨r,ev,rfl,hgp⟩
   exact hK _ _ ⟨rfl,rfl⟩ (fun e=>by omega) ⟨Nat.le_refl _,r,ev,rfl,hgp⟩
  ·intro st hst ac w3 hg hG hd K hK
   dsimp only at hst hG hK
   exact op_move _ rfl (hK _ _ (Below.refl _ _) (hd 11 (by simp) _ rfl _ rfl))
  ·intro st hst ac w3 hg hG hd K hK
   dsimp only at hst hG hK
   have f12:=hd 12 (by simp) _ rfl _ rfl
   (obtain ⟨h1,r,ev,e,-⟩:=f12)
   have E:=hide e
   clear hG
   simp [Act.eval] at e
   go_simp
   exact hK _ _ (Below.refl _ _) ⟨h1,r,ev,E.out,rfl⟩
  ·intro st hst ac w3 hg hG hd K hK
   dsimp only at hst hG hK
   have f12:=hd 12 (by simp) _ rfl _ rfl
   (obtain ⟨h1,r,ev,e,-⟩:=f12)
   have E:=hide e
   clear hG
   simp [Act.eval] at e
   go_simp
   exact hK _ _ (Below.refl _ _) ⟨h1,r,ev,E.out,rfl⟩
  ·intro st hst ac w3 hg hG hd K hK
   dsimp only at hst hG hK
   have f12:=hd 12 (by simp) _ rfl _ rfl
   clear f12
   exact op_assign _ rfl (hK _ _ (Below.refl _ _) (hd 13 (by simp) _ rfl _ rfl))
  ·intro st hst ac w3 hg hG hd K hK
   dsimp only at hst hG hK
   have f12:=hd 12 (by simp) _ rfl _ rfl
   clear f12
   exact op_assign _ rfl (hK _ _ (Below.refl _ _) (hd 14 (by simp) _ rfl _ rfl))
 case gu=>intro s a b hG hu e; exact (hG e).trans (hu.mono (hG e).size)
 case g0=>exact fun _=>(Below.refl _ _).drew
 case fin=>
  intro f9 w9 hG hall
  obtain ⟨-,r,ev,h47,hgp,hbx9⟩:=hall _ (List.mem_of_getElem? (i:=12) rfl) 47 rfl
  obtain ⟨-,r1,ev1,e12,h12⟩:=hall _ (List.mem_of_getElem? (i:=15) rfl) 12 rfl
  obtain ⟨-,r2,ev2,e13,h13⟩:=hall _ (List.mem_of_getElem? (i:=16) rfl) 13 rfl
  rw [fillF_eval _ _ _ 47 (by simp),if_pos (by simp),h47] at e12 e13
  obtain rfl:r = r1:=by
   have:(r:Int) = r1:=by simp at e12; omega
   omega
  obtain rfl:ev = ev2:=by simp at e13; omega
  have HGP:=hide hgp
  have HB9:=hide hbx9
  clear hall hG e12 e13 hgp hbx9
  simp only [fillF,List.map_cons,List.map_nil,List.foldl_cons,List.foldl_nil,Act.put,List.setIfInBounds_toArray,List.set_cons_zero,List.set_cons_succ]
  rw [h12,h13]
  clear h12 h13 h47
  go_wp2_with fail
  exact HQ.out _ _ _ _ _ _ _ _ _ _ _ _ _ _ _ _ _ _ _ _ _ _ _ _ _ _ _ _ _ _ _ _ _ _ _ _ _ _ _ _ _ _ _ _ _ _ _ _ _ _ _ _ _ _ HGP.out HB9.out
end
end Go.Proofs.Ytkolacaceaamoaa
/- The law's grown: what it makes of what Put answered. -/
namespace Go.Proofs.Ytkolacaceaamoaa
open Go.RowKit
open Go.Lib (compareBytes)
def GwL (w0:World) (c:Pct) (tb:Nat) (v7 v8:Value) (i:Nat) (wr:World):Prop:=∃ m roots lists,GwC w0 c tb i m v7 v8 roots lists wr ∧ GwT c i m roots lists ∧ 1 ≤ roots.length ∧ roots.length ≤ i + 1
theorem new_list {w9 w10 w11 w12:World} {c:Pct} {m:Pst} {b:Nat} {v7 v7' v8 v:Value} {l:List It} (hs:SLk 2 ItR w9 (fun j=>b ≤ j ∧ j < w9.heap.size) v l) (h10:Below w9.heap.size w9 w10) (hg:w10.grownBy w11 v7.ownBlock) (hoo:v7'.ownBlock = v7.ownBlock ∨ v7'.ownBlock = some w10.heap.size) (h12:Below w11.heap.size w11 w12)
  (h7:∀ q,v7.ownBlock = some q → q < b) (h8:∀ q,v8.ownBlock = some q → q < b) (hp:∀ q,b ≤ q → ¬ PF m.F c.pb c.sb q):SLk 2 ItR w12 (NF c m v7' v8 w12) v l:=by
 have s1:=h10.size
 have s2:=hg.size
 have s3:=h12.size
 refine hs.keep (by omega) @ItR.keep (fun j hj hlt=>?_) (fun j hj hlt=>⟨by omega,hp j hj.1,fun e=>?_,fun e=>by have:=h8 j e; omega⟩)
 ·exact (h12.block j (by omega)).trans ((hg.block j (by omega) (fun e=>by have:=h7 j e.symm; omega)).trans (h10.block j hlt))
 ·rcases hoo with q | q
  ·have:=h7 j (q ▸ e); omega
  ·rw [q] at e; injection e with e; omega
section
variable {v1 v2 v3 v15 v16 v17 v18 v19 v20 v21 v22 v23 v24 v25 v26 v27 v28 v29 v30 v31 v32 v33 v34 v35 v36 v37 v38 v39 v40 v41 v42 v43 v44 v45 v46 v97 v98:Value}
variable {Q:Exit → Act → World → Prop} {w0 w1:World} {c:Pct} {tb g7 g8 nr cap7 cap8 i bx k:Nat} {m:Pst} {roots:List Nat} {lists:List (List It)} {K:Int} {Ap Ag:Option Addr} {np cp ng cg:Nat} {put:List It} {gone:List Cn}
set_option maxRecDepth 100000 in
set_option maxHeartbeats 8000000 in
theorem grown_rest {r:Nat} {ev:Int} {l:List It} (hk:k < lists.length) (hl:lists[k] = l) (hl2:l.length ≤ 200 * i) (hnr:roots.length = nr) (hnl:lists.length = nr) (hnr1:1 ≤ nr ∧ nr ≤ i + 1) (hj:i < 30) (hcap:nr ≤ cap8 ∧ cap8 ≤ 9223372036854775807)
  (hQ:∀ (u12 u13 u14 u47 u48 u49 u50 u51 u52 u53 u54 u55 u56 u57 u58 u59 u60 u61 u62 u63 u64 u65 u66 u67 u68 u69 u70 u71 u72 u73 u74 u75 u76 u77 u78 u79 u80 u81 u82 u83 u84 u85 u86 u87 u88 u89 u90 u91 u92 u93 u94 u95 u96 v7 v8:Value) (w':World),GwL w0 c tb v7 v8 (i + 1) w' → Q .normal { tmps:=#[.pointer (some ⟨tb,0,none⟩),v1,v2,v3,.slice none 0 0,.slice none 0 0,.bool false,v7,v8,.int .i64 (i:Int),.pointer (some ⟨bx,0,none⟩),.int .i64 (k:Int),u12,u13,u14,v15,v16,v17,v18,v19,v20,v21,v22,v23,v24,v25,v26,v27,v28,v29,v30,v31,v32,v33,v34,v35,v36,v37,v38,v39,v40,v41,v42,v43,v44,v45,v46,u47,u48,u49,u50,u51,u52,u53,u54,u55,u56,u57,u58,u59,u60,u61,u62,u63,u64,u65,u66,u67,u68,u69,u70,u71,u72,u73,u74,u75,u76,u77,u78,u79,u80,u81,u82,u83,u84,u85,u86,u87,u88,u89,u90,u91,u92,u93,u94,u95,u96,v97,v98],defers:=[] } w' ∧ Q (.exit 1) { tmps:=#[.pointer (some ⟨tb,0,none⟩),v1,v2,v3,.slice none 0 0,.slice none 0 0,.bool false,v7,v8,.int .i64 (i:Int),.pointer (some ⟨bx,0,none⟩),.int .i64 (k:Int),u12,u13,u14,v15,v16,v17,v18,v19,v20,v21,v22,v23,v24,v25,v26,v27,v28,v29,v30,v31,v32,v33,v34,v35,v36,v37,v38,v39,v40,v41,v42,v43,v44,v45,v46,u47,u48,u49,u50,u51,u52,u53,u54,u55,u56,u57,u58,u59,u60,u61,u62,u63,u64,u65,u66,u67,u68,u69,u70,u71,u72,u73,u74,u75,u76,u77,u78,u79,u80,u81,u82,u83,u84,u85,u86,u87,u88,u89,u90,u91,u92,u93,u94,u95,u96,v97,v98],defers:=[] } w')
  (hP:GwP w0 c tb i (.slice (some ⟨g7,0,none⟩) nr cap7) (.slice (some ⟨g8,0,none⟩) nr cap8) roots lists l put gone r ev w1) (hbx:Blk w1 bx TSp #[.int .i64 K,.slice Ap np cp,.slice Ag ng cg]) (hb0:w0.heap.size ≤ w1.heap.size)
  (hp:SLk 2 ItR w0 (fun j=>j < w0.heap.size) (.slice Ap np cp) put) (hg:SLk 1 BsR w0 (fun j=>j < w0.heap.size) (.slice Ag ng cg) gone) (hlen:put.length + gone.length ≤ 200) (hpl:∀ x ∈ put,x.k.length ≤ 1073741824 ∧ x.v.length ≤ 1073741824)
  (u14 u47 u48 u49 u50 u51 u52 u53 u54 u55 u56 u57 u58 u59 u60 u61 u62 u63 u64 u65 u66 u67 u68 u69 u70 u71 u72 u73 u74 u75 u76 u77 u78 u79 u80 u81 u82 u83 u84 u85 u86 u87 u88 u89 u90 u91 u92 u93 u94 u95 u96:Value):Code.wp Try.prog (BG 5) Q { tmps:=#[.pointer (some ⟨tb,0,none⟩),v1,v2,v3,.slice none 0 0,.slice none 0 0,.bool false,.slice (some ⟨g7,0,none⟩) nr cap7,.slice (some ⟨g8,0,none⟩) nr cap8,.int .i64 (i:Int),.pointer (some ⟨bx,0,none⟩),.int .i64 (k:Int),.int .i64 (r:Int),.int .i64 ev,u14,v15,v16,v17,v18,v19,v20,v21,v22,v23,v24,v25,v26,v27,v28,v29,v30,v31,v32,v33,v34,v35,v36,v37,v38,v39,v40,v41,v42,v43,v44,v45,v46,u47,u48,u49,u50,u51,u52,u53,u54,u55,u56,u57,u58,u59,u60,u61,u62,u63,u64,u65,u66,u67,u68,u69,u70,u71,u72,u73,u74,u75,u76,u77,u78,u79,u80,u81,u82,u83,u84,u85,u86,u87,u88,u89,u90,u91,u92,u93,u94,u95,u96,v97,v98],defers:=[] } w1:=by
 obtain ⟨m',hC,hT,hcase⟩:=hP
 have HC:=hide hC
 have HT:=hide hT
 have HQ:=hide hQ
 have HBX:=hide hbx
 have hbx0:=HBX
 have HP:=hide hp
 have HG:=hide hg
 have HPL:=hide hpl
 have hb01:=hC.nl.bel
 have HLE:=hide hlen
 have HFI:=hide (fits17 (w:=w1) (F:=fun j=>j < w1.heap.size) (K:=K) (hp.keep (by omega) @ItR.keep (fun j hj _=>hb01.block j hj) (fun j hj _=>Nat.lt_of_lt_of_le hj hb01.size)) (hg.keep (by omega) @BsR.keep (fun j hj _=>hb01.block j hj) (fun j hj _=>Nat.lt_of_lt_of_le hj hb01.size)) (by omega) (by omega))
 have kb:=hbx.cell; have fz:=hbx.frozen; have zb:=hbx.lt
 clear hQ hC hT hbx hp hg hpl hb01 hlen
 rw [show BG 5 = Code.seq (CG 5) (Code.seq (CG 6) (Code.seq (CG 7) (Code.seq (CG 8) (Code.seq (CG 9) (BG 10))))) from rfl]
 conv=>arg 2; arg 1; whnf
 conv=>arg 2; arg 2; arg 1; whnf
 conv=>arg 2; arg 2; arg 2; arg 1; whnf
 conv=>arg 2; arg 2; arg 2; arg 2; arg 1; whnf
 conv=>arg 2; arg 2; arg 2; arg 2; arg 2; arg 1; whnf
 conv=>arg 2; arg 2; arg 2; arg 2; arg 2; arg 2; whnf
 rcases hcase with ⟨hfit,hev⟩ | ⟨hfit,rfl,rfl⟩
 ·have HFT:=hide hfit
  rcases hev with rfl | ⟨rfl,htr⟩
  ·go_wp2_with (go_at_call 14; (refine HFI.out.mono ?_); rintro e w2 ⟨b,rfl,hb,hbel⟩; (obtain rfl:b = true:=hb.2 HFT.out); have HB2:=hide hbel; clear hb hbel)
   exact (HQ.out _ _ _ _ _ _ _ _ _ _ _ _ _ _ _ _ _ _ _ _ _ _ _ _ _ _ _ _ _ _ _ _ _ _ _ _ _ _ _ _ _ _ _ _ _ _ _ _ _ _ _ _ _ _ _ _ ⟨m',roots,lists,HC.out.below HB2.out,HT.out,by omega,by omega⟩).2
  ·have HTR:=hide htr
   clear htr hfit
   go_upto_region 16 with (go_at_call 14; (refine HFI.out.mono ?_); rintro e w2 ⟨b,rfl,hb,hbel⟩; (obtain rfl:b = true:=hb.2 HFT.out); have HB2:=hide hbel; clear hb hbel)
   clear HFI kb fz zb
   have HC2:=hide (HC.out.below HB2.out)
   have hbb:=hbx0.out.below HB2.out hbx0.out.lt
   have HBX2:=hide hbb
   obtain ⟨g,cap,A,n,cc,e,-,-,z8,k8,hs8⟩:=HC2.out.at8 hk
   have hgg:g = g8:=by
    injection e with e _ _
    injection e with e
    injection e with e
    exact e.symm
   rw [hgg] at z8 k8
   clear e hgg hbb
   rw [hl] at hs8
   have hkn:k < nr:=by omega
   obtain ⟨hcap1,hcap2⟩:=hcap
   have hok:=HC2.out.ok lists[k] (List.getElem_mem hk)
   rw [hl] at hok
   have HOK:=hide hok
   have HS8:=hide hs8
   have hb02:=HC2.out.nl.bel
   have HDN:=hide (fun (w3:World) (hb:Below w2.heap.size w2 w3)=>ldone_any (w:=w3) (K:=K) (hs8.keep (F':=fun j=>j < w3.heap.size) (by omega) @ItR.keep (fun j hj hlt=>hb.block j hlt) (fun j hj hlt=>Nat.lt_of_lt_of_le hlt hb.size)) (HP.out.keep (F':=fun j=>j < w3.heap.size) (by omega) @ItR.keep (fun j hj _=>(hb02.trans (hb.mono hb02.size)).block j hj) (fun j hj _=>Nat.lt_of_lt_of_le hj (hb02.trans (hb.mono hb02.size)).size)) (HG.out.keep (F':=fun j=>j < w3.heap.size) (by omega) @BsR.keep (fun j hj _=>(hb02.trans (hb.mono hb02.size)).block j hj) (fun j hj _=>Nat.lt_of_lt_of_le hj (hb02.trans (hb.mono hb02.size)).size)) (by have:=hok.1; omega) (by have:=HLE.out; omega) (by have:=HLE.out; omega) (fun x hx=>by have:=hok.2 x hx; unfold itOk at this; omega) HPL.out)
   clear hok hs8 hb02
   go_upto_region 16 with fail
   refine wp_region_dag (by kernel_rfl) (by kernel_rfl) 99 0
    [⟨some 73,[0],[],[],[],[],fun _ _ v _=>v = .slice (some ⟨g8,0,none⟩) nr cap8⟩,
     ⟨some 74,[0],[],[],[],[],fun _ _ v _=>v = .int .i64 (k:Int)⟩,
     ⟨some 75,[0],[],[],[0,1],[],fun _ _ v _=>v = .pointer (some ⟨g8,k,none⟩)⟩,
     ⟨some 76,[0],[],[],[2],[],fun _ _ v _=>v = .slice A n cc⟩,
     ⟨some 77,[0],[],[],[],[],fun _ _ v _=>v = .agg #[.int .i64 K,.slice Ap np cp,.slice Ag ng cg]⟩,
     ⟨some 78,[0],[],[],[3,4],[],fun st a v w'=>∃ A n cc,v = .slice A n cc ∧ SLk 2 ItR w' (fun j=>w2.heap.size ≤ j ∧ j < w'.heap.size) (.slice A n cc) (doneL l put gone)⟩,
     ⟨some 14,[0],[],[],[5],[],fun st a v w'=>∃ A n cc,v = .slice A n cc ∧ SLk 2 ItR w' (fun j=>w2.heap.size ≤ j ∧ j < w'.heap.size) (.slice A n cc) (doneL l put gone)⟩] (fun _ w'=>Below w2.heap.size w2 w') (fun _ _ _ _ _=>False) (fun _ w w'=>Below w.heap.size w w') ?gu ?ru ?put [73,74,75,76,77,78,14] rfl (by kernel_rfl) rfl ?g0 ?keep ?steps ?fin
   case ru=>
    intro e he s a v w w' hu hv
    simp only [List.mem_cons,List.not_mem_nil,or_false] at he
    rcases he with rfl | rfl | rfl | rfl | rfl | rfl | rfl
    all_goals first | exact hv | (obtain ⟨A',n',c',e,h⟩:=hv; exact ⟨A',n',c',e,h.keep (by omega) @ItR.keep (fun j hj _=>hu.block j hj.2) (fun j hj _=>⟨hj.1,Nat.lt_of_lt_of_le hj.2 hu.size⟩)⟩)
   case put=>
    intro e he s a d u v w hnd hv
    simp only [List.mem_cons,List.not_mem_nil,or_false] at he
    rcases he with rfl | rfl | rfl | rfl | rfl | rfl | rfl
    all_goals first | exact hv
   case keep=>
    intro e he s s' a v w w' hsl hm ht hv
    simp only [List.mem_cons,List.not_mem_nil,or_false] at he
    rcases he with rfl | rfl | rfl | rfl | rfl | rfl | rfl
    all_goals first | exact hv | (exact ht.elim)
   case steps=>
    refine ⟨?_,?_,?_,?_,?_,?_,?_,trivial⟩
    ·intro st hst ac w3 hg hG hd K hK
     dsimp only at hst hG hK
     exact op_move _ rfl (hK _ _ (Below.refl _ _) (hg.kp 8 (by simp)))
    ·intro st hst ac w3 hg hG hd K hK
     dsimp only at hst hG hK
     exact op_move _ rfl (hK _ _ (Below.refl _ _) (hg.kp 11 (by simp)))
    ·intro st hst ac w3 hg hG hd K hK
     dsimp only at hst hG hK
     have f0:=hd 0 (by simp) _ rfl _ rfl
     have f1:=hd 1 (by simp) _ rfl _ rfl
     (try simp [Act.eval] at f0)
     (try simp [Act.eval] at f1)
     go_simp
     exact hK _ _ (Below.refl _ _) rfl
    ·intro st hst ac w3 hg hG hd K hK
     dsimp only at hst hG hK
     have kk:=(hG.cell (p:=⟨g8,k,none⟩) z8).trans k8
     have zz:=Nat.lt_of_lt_of_le z8 hG.size
     clear hG
     have f2:=hd 2 (by simp) _ rfl _ rfl
     (try simp [Act.eval] at f2)
     go_simp
     exact hK _ _ (Below.refl _ _) rfl
    ·intro st hst ac w3 hg hG hd K hK
     dsimp only at hst hG hK
     have hX:=HBX2.out.below hG HBX2.out.lt
     have kk:=hX.cell
     have zz:=hX.lt
     clear hG hX
     have k10:=hg.kp 10 (by simp)
     (try simp [Act.eval] at k10)
     go_simp
     exact hK _ _ (Below.refl _ _) rfl
    ·intro st hst ac w3 hg hG hd K hK
     dsimp only at hst hG hK
     have f3:=hd 3 (by simp) _ rfl _ rfl
     have f4:=hd 4 (by simp) _ rfl _ rfl
     have HG9:=hide hG
     clear hG
     simp [Act.eval] at f3 f4
     go_simp
     (refine (HDN.out w3 HG9.out).mono ?_)
     rintro e w5 ⟨A5,n5,c5,rfl,hsl,hb⟩
     exact hK _ _ hb ⟨_,_,_,rfl,hsl.keep (by omega) @ItR.keep (fun _ _ _=>rfl) (fun j hj _=>⟨Nat.le_trans HG9.out.size hj.1,hj.2⟩)⟩
    ·intro st hst ac w3 hg hG hd K hK
     dsimp only at hst hG hK
     exact op_assign _ rfl (hK _ _ (Below.refl _ _) (hd 5 (by simp) _ rfl _ rfl))
   case gu=>intro s a b hG hu; exact hG.trans (hu.mono hG.size)
   case g0=>exact (Below.refl _ _).drew
   case fin=>
    intro f9 w9 hG hall
    obtain ⟨A9,n9,c9,h14,hs9⟩:=hall _ (List.mem_of_getElem? (i:=6) rfl) 14 rfl
    have HB9:=hide hG
    have HS9:=hide hs9
    clear hall hG hs9
    simp only [fillF,List.map_cons,List.map_nil,List.foldl_cons,List.foldl_nil,Act.put,List.setIfInBounds_toArray,List.set_cons_zero,List.set_cons_succ]
    rw [h14]
    clear h14
    obtain ⟨i7,hi7,hx0,hx1,hx2⟩:=ti64_inf
    obtain ⟨i8,hi8,hy0,hy1,hy2⟩:=tits_inf
    have HI7:=hide hi7
    have HX0:=hide hx0
    have HI8:=hide hi8
    have HY0:=hide hy0
    have hln:(doneL l put gone).length = n9:=by
     obtain ⟨_,_,_,e,-⟩:=HS9.out
     injection e with _ e2 _
     exact e2.symm
    have hroot:r = 0 ↔ n9 = 0:=by
     rw [HTR.out.root,← hln]
     exact List.length_eq_zero_iff.symm
    have HC9:=hide (HC2.out.below HB9.out)
    have hnew:∀ q,w2.heap.size ≤ q → ¬ PF m'.F c.pb c.sb q:=fun q hq hp=>by have:=PF.lt HC2.out.nl.pg hp; omega
    have HNEW:=hide hnew
    have hr7:=HC9.out.r7
    rw [hnr] at hr7
    obtain ⟨xs8,hx8,hl8⟩:=HC9.out.r8
    have HX8:=hide hx8
    have HL8:=hide hl8
    have HR7:=hide hr7
    have HLN:=hide hln
    have hnr31:nr ≤ 31:=by omega
    have hz8:g8 < w2.heap.size:=z8
    have h78:g7 ≠ g8:=fun e=>HC9.out.ne g7 rfl (by rw [e]; rfl)
    have hg7:g7 < w2.heap.size:=(HC2.out.r7.lt g7 rfl).2
    clear hi7 hx0 hi8 hy0 hln hnew hr7 hx8 hl8 z8 k8
    by_cases hz:r = 0
    ·obtain rfl:n9 = 0:=hroot.1 hz
     subst hz
     go_upto_region 19 with fail
     have HB10:=hide (al_below w9 (.cells #[.int .i64 0] TI64))
     go_upto_region 20 with (at_builtin; go_loud (refine wpList_append_any _ rfl (.tmp 89) (.tmp 91) _ rfl w0.heap.size TI64 i7 _ 1 8 Try.underlying28 HI7.out HX0.out hx1 hx2 rfl (by omega) (.slice (some ⟨g7,0,none⟩) nr cap7) nr _ rfl (own_later HR7.out HB10.out) _ (some ⟨w9.heap.size,0,none⟩) 1 1 [.int .i64 0] rfl (reads_blk (Blk.new w9 TI64 _) rfl rfl) (by intro u hu; simp at hu; subst hu; rfl) (by unfold maxLen; omega) (by omega) (HC9.out.nl.bel.trans (HB10.out.mono HC9.out.nl.bel.size)).size ?_); intro v' w11 ho hgb hoo; (obtain ⟨A11,c11,rfl,hc11⟩:=own_slice ho); have HO7:=hide ho; have HG7:=hide hgb; have HOO7:=hide hoo; clear ho hgb hoo)
     have HC11:=hide ((HC9.out.below HB10.out).push7 (r:=0) (by rw [hnr]; exact HO7.out) HG7.out HOO7.out)
     have HB12:=hide (al_below w11 (.cells #[.slice A9 0 c9] TIts))
     have HC12:=hide (HC11.out.below HB12.out)
     obtain ⟨xs9,hx9,hl9⟩:=HC12.out.r8
     have HX9:=hide hx9
     have HX9':=hide (hnl ▸ hx9)
     have HL9:=hide hl9
     have HNL9:=hide (new_list (v8:=.slice (some ⟨g8,0,none⟩) nr cap8) HS9.out HB10.out HG7.out HOO7.out HB12.out (fun q e=>by have h:g7 = q:=Option.some.inj e; omega) (fun q e=>by have h:g8 = q:=Option.some.inj e; omega) HNEW.out)
     clear hx9 hl9
     go_wp2_with (at_builtin; go_loud (refine wpList_append_any _ rfl (.tmp 93) (.tmp 95) _ rfl w0.heap.size TIts i8 _ 1 24 Try.underlying29 HI8.out HY0.out hy1 hy2 rfl (by omega) (.slice (some ⟨g8,0,none⟩) nr cap8) nr xs9 rfl HX9'.out _ (some ⟨w11.heap.size,0,none⟩) 1 1 [.slice A9 0 c9] rfl (reads_blk (Blk.new w11 TIts _) rfl rfl) (by intro u hu; simp at hu; subst hu; rfl) (by unfold maxLen; omega) (by omega) HC12.out.nl.bel.size ?_); intro v' w13 ho hgb hoo; (obtain ⟨A13,c13,rfl,hc13⟩:=own_slice ho); have HO8:=hide ho; have HG8:=hide hgb; have HOO8:=hide hoo; clear ho hgb hoo)
     refine (HQ.out _ _ _ _ _ _ _ _ _ _ _ _ _ _ _ _ _ _ _ _ _ _ _ _ _ _ _ _ _ _ _ _ _ _ _ _ _ _ _ _ _ _ _ _ _ _ _ _ _ _ _ _ _ _ _ _ ⟨m',roots ++ [0],lists ++ [doneL l put gone],HC12.out.push8 ⟨HX9.out,HL9.out⟩ HNL9.out ⟨?_,done_ok HOK.out.2 HFT.out⟩ (by rw [hnl]; exact HO8.out) HG8.out HOO8.out,HT.out.push HTR.out,by rw [List.length_append]; omega,by rw [List.length_append,List.length_singleton]; omega⟩).1
     have h1:=done_len l put gone
     have h3:=HLE.out
     omega
    ·have hz9:¬ n9 = 0:=fun e=>hz (hroot.2 e)
     have d4:((r:Int) == 0) = false:=by simp; omega
     have d5:((n9:Int) == 0) = false:=by simp; omega
     go_upto_region 19 with fail
     have HB10:=hide (al_below w9 (.cells #[.int .i64 (r:Int)] TI64))
     go_upto_region 20 with (at_builtin; go_loud (refine wpList_append_any _ rfl (.tmp 89) (.tmp 91) _ rfl w0.heap.size TI64 i7 _ 1 8 Try.underlying28 HI7.out HX0.out hx1 hx2 rfl (by omega) (.slice (some ⟨g7,0,none⟩) nr cap7) nr _ rfl (own_later HR7.out HB10.out) _ (some ⟨w9.heap.size,0,none⟩) 1 1 [.int .i64 (r:Int)] rfl (reads_blk (Blk.new w9 TI64 _) rfl rfl) (by intro u hu; simp at hu; subst hu; rfl) (by unfold maxLen; omega) (by omega) (HC9.out.nl.bel.trans (HB10.out.mono HC9.out.nl.bel.size)).size ?_); intro v' w11 ho hgb hoo; (obtain ⟨A11,c11,rfl,hc11⟩:=own_slice ho); have HO7:=hide ho; have HG7:=hide hgb; have HOO7:=hide hoo; clear ho hgb hoo)
     have HC11:=hide ((HC9.out.below HB10.out).push7 (r:=r) (by rw [hnr]; exact HO7.out) HG7.out HOO7.out)
     have HB12:=hide (al_below w11 (.cells #[.slice A9 n9 c9] TIts))
     have HC12:=hide (HC11.out.below HB12.out)
     obtain ⟨xs9,hx9,hl9⟩:=HC12.out.r8
     have HX9:=hide hx9
     have HX9':=hide (hnl ▸ hx9)
     have HL9:=hide hl9
     have HNL9:=hide (new_list (v8:=.slice (some ⟨g8,0,none⟩) nr cap8) HS9.out HB10.out HG7.out HOO7.out HB12.out (fun q e=>by have h:g7 = q:=Option.some.inj e; omega) (fun q e=>by have h:g8 = q:=Option.some.inj e; omega) HNEW.out)
     clear hx9 hl9
     go_wp2_with (at_builtin; go_loud (refine wpList_append_any _ rfl (.tmp 93) (.tmp 95) _ rfl w0.heap.size TIts i8 _ 1 24 Try.underlying29 HI8.out HY0.out hy1 hy2 rfl (by omega) (.slice (some ⟨g8,0,none⟩) nr cap8) nr xs9 rfl HX9'.out _ (some ⟨w11.heap.size,0,none⟩) 1 1 [.slice A9 n9 c9] rfl (reads_blk (Blk.new w11 TIts _) rfl rfl) (by intro u hu; simp at hu; subst hu; rfl) (by unfold maxLen; omega) (by omega) HC12.out.nl.bel.size ?_); intro v' w13 ho hgb hoo; (obtain ⟨A13,c13,rfl,hc13⟩:=own_slice ho); have HO8:=hide ho; have HG8:=hide hgb; have HOO8:=hide hoo; clear ho hgb hoo)
     refine (HQ.out _ _ _ _ _ _ _ _ _ _ _ _ _ _ _ _ _ _ _ _ _ _ _ _ _ _ _ _ _ _ _ _ _ _ _ _ _ _ _ _ _ _ _ _ _ _ _ _ _ _ _ _ _ _ _ _ ⟨m',roots ++ [r],lists ++ [doneL l put gone],HC12.out.push8 ⟨HX9.out,HL9.out⟩ HNL9.out ⟨?_,done_ok HOK.out.2 HFT.out⟩ (by rw [hnl]; exact HO8.out) HG8.out HOO8.out,HT.out.push HTR.out,by rw [List.length_append]; omega,by rw [List.length_append,List.length_singleton]; omega⟩).1
     have h1:=done_len l put gone
     have h3:=HLE.out
     omega
 ·have HFN:=hide hfit
  go_wp2_with (go_at_call 14; (refine HFI.out.mono ?_); rintro e w2 ⟨b,rfl,hb,hbel⟩; (obtain rfl:b = false:=by (cases b; rfl; exact absurd (hb.1 rfl) HFN.out)); have HB2:=hide hbel; clear hb hbel)
  exact (HQ.out _ _ _ _ _ _ _ _ _ _ _ _ _ _ _ _ _ _ _ _ _ _ _ _ _ _ _ _ _ _ _ _ _ _ _ _ _ _ _ _ _ _ _ _ _ _ _ _ _ _ _ _ _ _ _ _ ⟨m',roots,lists,HC.out.below HB2.out,HT.out,by omega,by omega⟩).2
end
end Go.Proofs.Ytkolacaceaamoaa
/- The law's grown, walked. -/
namespace Go.Proofs.Ytkolacaceaamoaa
open Go.RowKit
open Go.Lib (compareBytes)
def stB (s:Stp):Prop:=(∀ x ∈ s.put,x.k.length ≤ 1073741824 ∧ x.v.length ≤ 1073741824) ∧ (∀ k ∈ s.gone,k.length ≤ 1073741824) ∧ s.put.length ≤ 2000000 ∧ s.gone.length ≤ 2000000
set_option maxRecDepth 100000 in
set_option maxHeartbeats 8000000 in
theorem grown_any {w0 w:World} {c:Pct} {tb:Nat} {m:Pst} {vs:Value} {steps:List Stp} (hN:NlS w0 c tb m w) (h0:m.N = 0) (hs:SLk 3 StR w0 (fun j=>j < w0.heap.size) vs steps) (hn:steps.length ≤ 2000000) (hb:∀ s ∈ steps,stB s) :
  Calls Try.prog 9 #[.pointer (some ⟨tb,0,none⟩),vs] w fun e w'=>GrownR w0 c tb e w':=by
 have HN:=hide hN
 have HS:=hide hs
 have HB:=hide hb
 obtain ⟨As,cs,xs,rfl,hcs,-⟩:=id hs
 obtain ⟨ns,hns⟩:∃ q,steps.length = q:=⟨_,rfl⟩
 have HNS:=hide hns
 rw [hns] at HS hcs hn ⊢
 obtain ⟨hcs1,hcs2⟩:=hcs
 have HST0:=hide (show GwL w0 c tb _ _ 0 _ from ⟨m,[0],[[]],GwC.start hN h0,GwT.start,Nat.le_refl _,Nat.le_refl _⟩)
 clear hN h0 hs hb hns
 go_enter Try.func9,Try.ntmps9
 go_wp2_with fail
 go_loopw [4,5,6,7,8,9,10,11,12,13,14] (fun v4 v5 v6 v7 v8 v9 _ _ _ _ _ wr=>∃ i:Nat,v4 = .slice none 0 0 ∧ v5 = .slice none 0 0 ∧ v6 = .bool false ∧ v9 = .int .i64 (i:Int) ∧ i ≤ ns ∧ i ≤ 30 ∧ Hid (GwL w0 c tb v7 v8 i wr)) (fun _ _ _ _ _ v9 _ _ _ _ _ _=>ns - (intOf v9).toNat)
 case atStart=>exact ⟨0,rfl,rfl,rfl,by go_num,by omega,by omega,by simpa using HST0⟩
 case round=>
  clear HST0
  obtain ⟨i,rfl,rfl,rfl,rfl,hi,hi30,HST⟩:=hrel
  by_cases hgo:i < ns ∧ i < 30
  ·obtain ⟨hlt1,hlt2⟩:=hgo
   have d2:decide ((i:Int) < 30) = true:=by simp; omega
   obtain ⟨m,roots,lists,hC,hT,hr1,hr2⟩:=HST.out
   have hll:=hT.1
   obtain ⟨g7,cap7,e7,h71,h72,-,-⟩:=hC.at7 (i:=0) (by omega)
   obtain ⟨g8,cap8,A8,n8,cc8,e8,h81,h82,-,-,-⟩:=hC.at8 (i:=0) (by omega)
   obtain ⟨nr,hnr⟩:∃ q,roots.length = q:=⟨_,rfl⟩
   have hnl:lists.length = nr:=by rw [← hll]; exact hnr
   rw [hnr] at e7 h71 hr1 hr2
   rw [hnl] at e8 h81
   subst e7 e8
   have hii:i < steps.length:=by rw [HNS.out]; exact hlt1
   obtain ⟨b,o,Ap,np,cp,Ag,ng,cg,rfl,hb,-,k0,k1,k2,hsp,hsg⟩:=HS.out.at_st hii
   have hsB:=HB.out steps[i] (List.getElem_mem hii)
   obtain ⟨st,hst⟩:∃ q,steps[i] = q:=⟨_,rfl⟩
   rw [hst] at k0 hsp hsg hsB
   have hbel:=hC.nl.bel
   have q0:=(hbel.cell (p:=⟨b,o + i * 3,none⟩) hb).trans k0
   have q1:=(hbel.cell (p:=⟨b,o + i * 3 + 1,none⟩) hb).trans k1
   have q2:=(hbel.cell (p:=⟨b,o + i * 3 + 2,none⟩) hb).trans k2
   have zb:=Nat.lt_of_lt_of_le hb hbel.size
   have HSP:=hide hsp
   have HSG:=hide hsg
   have HSB:=hide hsB
   have HC:=hide hC
   have HT:=hide hT
   have HNR:=hide hnr
   have HNL:=hide hnl
   obtain ⟨K,hK9⟩:∃ q,st.K = q:=⟨_,rfl⟩
   rw [hK9] at q0
   unfold maxLen at h72 h82 hcs2
   have hics:i < cs:=by omega
   clear hC hT hll hnr hnl hii hsp hsg hsB hst hbel k0 k1 k2 HST hK9
   go_upto_block 1 with fail
   refine wp_block ?_
   refine id (show Code.wp Try.prog (BG 0) _ _ _ from ?_)
   rw [show BG 0 = Code.seq (CG 0) (Code.seq (CG 1) (Code.seq (CG 2) (Code.seq (CG 3) (BG 4)))) from rfl]
   conv=>arg 2; arg 1; whnf
   conv=>arg 2; arg 2; arg 1; whnf
   conv=>arg 2; arg 2; arg 2; arg 1; whnf
   conv=>arg 2; arg 2; arg 2; arg 2; arg 1; whnf
   go_upto_region 7 with fail
   have hal:=al_below wr (Obj.cells #[.int .i64 K,.slice Ap np cp,.slice Ag ng cg] TSp)
   have hb0:=Blk.new wr TSp #[.int .i64 K,.slice Ap np cp,.slice Ag ng cg]
   have HC1:=hide (HC.out.below hal)
   obtain ⟨bx,hbx⟩:∃ q,wr.heap.size = q:=⟨_,rfl⟩
   obtain ⟨w1,hw1⟩:∃ q,wr.alloc (.cells #[.int .i64 K,.slice Ap np cp,.slice Ag ng cg] TSp) = q:=⟨_,rfl⟩
   rw [hw1] at hb0 HC1 ⊢
   rw [hbx] at hb0 ⊢
   have HBX:=hide hb0
   have HBP:=hide (show ¬ PF m.F c.pb c.sb bx from fun hp=>by have:=PF.lt HC.out.nl.pg hp; omega)
   have kb:=hb0.cell; have fz:=hb0.frozen; have zb1:=hb0.lt
   have hnp:st.put.length = np:=by
    obtain ⟨_,_,_,e,-⟩:=HSP.out
    injection e with _ e2 _
    exact e2.symm
   have hng:st.gone.length = ng:=by
    obtain ⟨_,_,_,e,-⟩:=HSG.out
    injection e with _ e2 _
    exact e2.symm
   have HNP:=hide hnp
   have HNG:=hide hng
   have hnp2:np ≤ 2000000:=by rw [← hnp]; exact HSB.out.2.2.1
   have hng2:ng ≤ 2000000:=by rw [← hng]; exact HSB.out.2.2.2
   clear hal hbx hw1 hb0 hnp hng q0 q1 q2 zb
   by_cases hbig:200 < np + ng
   ·have d3:decide ((200:Int) < (np:Int) + (ng:Int)) = true:=by simp; omega
    go_wp2_with fail
    refine ⟨⟨i + 1,rfl,rfl,rfl,by push_cast; rfl,by omega,by omega,hide ⟨m,roots,lists,HC1.out.up,HT.out.up,by rw [HNR.out]; exact hr1,by rw [HNR.out]; omega⟩⟩,?_⟩
    simp [intOf]
    omega
   ·have d3:decide ((200:Int) < (np:Int) + (ng:Int)) = false:=by simp; omega
    by_cases hK:0 < K
    ·obtain ⟨k,hk⟩:∃ k,K.toNat % nr = k:=⟨_,rfl⟩
     have hkn:k < nr:=hk ▸ Nat.mod_lt _ (by omega)
     have ek:Int.tmod K (nr:Int) = (k:Int):=by
      rw [show K = ((K.toNat:Nat):Int) from by omega,tmod_nat,hk]
     have dn0:((nr:Int) == 0) = false:=by simp; omega
     have dK:decide ((0:Int) < K) = true:=by simp; omega
     have HL2:=hide (HC1.out.ok (lists[k]'(by rw [HNL.out]; exact hkn)) (List.getElem_mem _)).1
     have HCA:=hide (show nr ≤ cap7 ∧ cap7 ≤ 9223372036854775807 from ⟨h71,by omega⟩)
     have HCB:=hide (show nr ≤ cap8 ∧ cap8 ≤ 9223372036854775807 from ⟨h81,by omega⟩)
     have HSU:=hide (show st.put.length + st.gone.length ≤ 200 by rw [HNP.out,HNG.out]; omega)
     go_wp2_with fail
     refine grown_call (by rw [HNR.out]; exact hkn) (by rw [HNL.out]; exact hkn) HNR.out HCA.out (by omega) ?_ HC1.out HT.out HBX.out HBP.out HSP.out HSG.out HSU.out HSB.out.1 HSB.out.2.1 _ _ _ _ _ _ _ _ _ _ _ _ _ _ _ _ _ _ _ _ _ _ _ _ _ _ _ _ _ _ _ _ _ _ _ _ _ _ _ _ _ _ _ _ _ _ _ _ _ _ _ _ _
     intro u14 u47 u48 u49 u50 u51 u52 u53 u54 u55 u56 u57 u58 u59 u60 u61 u62 u63 u64 u65 u66 u67 u68 u69 u70 u71 u72 u73 u74 u75 u76 u77 u78 u79 u80 u81 u82 u83 u84 u85 u86 u87 u88 u89 u90 u91 u92 u93 u94 u95 u96 r ev w2 hp2 hb2
     have HP2:=hide hp2
     have HB2:=hide hb2
     refine grown_rest (by rw [HNL.out]; exact hkn) rfl HL2.out HNR.out HNL.out ⟨hr1,hr2⟩ hlt2 HCB.out ?_ HP2.out HB2.out (by obtain ⟨m',hq,-⟩:=HP2.out; exact hq.nl.bel.size) HSP.out HSG.out HSU.out HSB.out.1 _ _ _ _ _ _ _ _ _ _ _ _ _ _ _ _ _ _ _ _ _ _ _ _ _ _ _ _ _ _ _ _ _ _ _ _ _ _ _ _ _ _ _ _ _ _ _ _ _ _ _
     clear hp2 hb2
     intro u12 u13 u14 u47 u48 u49 u50 u51 u52 u53 u54 u55 u56 u57 u58 u59 u60 u61 u62 u63 u64 u65 u66 u67 u68 u69 u70 u71 u72 u73 u74 u75 u76 u77 u78 u79 u80 u81 u82 u83 u84 u85 u86 u87 u88 u89 u90 u91 u92 u93 u94 u95 u96 v7 v8 w3 hg
     have HGL:=hide hg
     clear hg
     constructor
     ·go_wp2_with fail
      go_roundw
      case rel=>exact ⟨i + 1,rfl,rfl,rfl,by go_num,by omega,by omega,HGL⟩
      case measure=>simp [intOf]; omega
     ·go_wp2_with fail
      go_roundw
      case rel=>exact ⟨i + 1,rfl,rfl,rfl,by go_num,by omega,by omega,HGL⟩
      case measure=>simp [intOf]; omega
    ·have dK:decide ((0:Int) < K) = false:=by simp; omega
     obtain ⟨k,hk0⟩:∃ k:Nat,k = 0:=⟨_,rfl⟩
     have hkn:k < nr:=by omega
     subst hk0
     have HL2:=hide (HC1.out.ok (lists[0]'(by rw [HNL.out]; exact hkn)) (List.getElem_mem _)).1
     have HCA:=hide (show nr ≤ cap7 ∧ cap7 ≤ 9223372036854775807 from ⟨h71,by omega⟩)
     have HCB:=hide (show nr ≤ cap8 ∧ cap8 ≤ 9223372036854775807 from ⟨h81,by omega⟩)
     have HSU:=hide (show st.put.length + st.gone.length ≤ 200 by rw [HNP.out,HNG.out]; omega)
     go_wp2_with fail
     refine grown_call (by rw [HNR.out]; exact hkn) (by rw [HNL.out]; exact hkn) HNR.out HCA.out (by omega) ?_ HC1.out HT.out HBX.out HBP.out HSP.out HSG.out HSU.out HSB.out.1 HSB.out.2.1 _ _ _ _ _ _ _ _ _ _ _ _ _ _ _ _ _ _ _ _ _ _ _ _ _ _ _ _ _ _ _ _ _ _ _ _ _ _ _ _ _ _ _ _ _ _ _ _ _ _ _ _ _
     intro u14 u47 u48 u49 u50 u51 u52 u53 u54 u55 u56 u57 u58 u59 u60 u61 u62 u63 u64 u65 u66 u67 u68 u69 u70 u71 u72 u73 u74 u75 u76 u77 u78 u79 u80 u81 u82 u83 u84 u85 u86 u87 u88 u89 u90 u91 u92 u93 u94 u95 u96 r ev w2 hp2 hb2
     have HP2:=hide hp2
     have HB2:=hide hb2
     refine grown_rest (by rw [HNL.out]; exact hkn) rfl HL2.out HNR.out HNL.out ⟨hr1,hr2⟩ hlt2 HCB.out ?_ HP2.out HB2.out (by obtain ⟨m',hq,-⟩:=HP2.out; exact hq.nl.bel.size) HSP.out HSG.out HSU.out HSB.out.1 _ _ _ _ _ _ _ _ _ _ _ _ _ _ _ _ _ _ _ _ _ _ _ _ _ _ _ _ _ _ _ _ _ _ _ _ _ _ _ _ _ _ _ _ _ _ _ _ _ _ _
     clear hp2 hb2
     intro u12 u13 u14 u47 u48 u49 u50 u51 u52 u53 u54 u55 u56 u57 u58 u59 u60 u61 u62 u63 u64 u65 u66 u67 u68 u69 u70 u71 u72 u73 u74 u75 u76 u77 u78 u79 u80 u81 u82 u83 u84 u85 u86 u87 u88 u89 u90 u91 u92 u93 u94 u95 u96 v7 v8 w3 hg
     have HGL:=hide hg
     clear hg
     constructor
     ·go_wp2_with fail
      go_roundw
      case rel=>exact ⟨i + 1,rfl,rfl,rfl,by go_num,by omega,by omega,HGL⟩
      case measure=>simp [intOf]; omega
     ·go_wp2_with fail
      go_roundw
      case rel=>exact ⟨i + 1,rfl,rfl,rfl,by go_num,by omega,by omega,HGL⟩
      case measure=>simp [intOf]; omega
  ·by_cases hlt1:i < ns
   ·have d2:decide ((i:Int) < 30) = false:=by simp; omega
    go_wp2_with fail
    obtain ⟨m9,roots,lists,hC,hT,hr1,hr2⟩:=HST.out
    refine bodyPost_ret (v:=.tuple #[u7,u8,.bool true]) (by simp (maxDischargeDepth:=9) [results,Try.results9,go_sem]; done) rfl ⟨i,m9,u7,u8,roots,lists,hi30,rfl,hC,hT,hr1,by omega⟩
   ·obtain rfl:i = ns:=by omega
    go_wp2_with fail
    obtain ⟨m9,roots,lists,hC,hT,hr1,hr2⟩:=HST.out
    refine bodyPost_ret (v:=.tuple #[u7,u8,.bool true]) (by simp (maxDischargeDepth:=9) [results,Try.results9,go_sem]; done) rfl ⟨i,m9,u7,u8,roots,lists,hi30,rfl,hC,hT,hr1,by omega⟩
end Go.Proofs.Ytkolacaceaamoaa
