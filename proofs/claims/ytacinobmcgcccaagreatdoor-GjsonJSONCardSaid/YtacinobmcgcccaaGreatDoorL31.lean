/- gjson.polygon. -/
import Derived.Test.YtacinobmcgcccaaGreatDoorL30
import Derived.Test.YtacinobmcgcccaaGreatDoorL29
import Derived.Test.YtacinobmcgcccaaGreatDoorL10
import Derived.Test.YtacinobmcgcccaaGreatDoorL11
import Derived.Lib.ItoaLen
set_option linter.unusedSimpArgs false
set_option linter.unusedVariables false
namespace Go.Proofs.YtacinobmcgcccaaGreatDoor
open Go.RowKit Go.Shelf
def kType:L8:=[116,121,112,101]
def kPolygon:L8:=[80,111,108,121,103,111,110]
def kCoord:L8:=[99,111,111,114,100,105,110,97,116,101,115]
def ptJ (p:Pt):JV:=arrJ [numJ p.x,numJ p.y]
def polyJ (r:List Pt):JV:=objJ [(kType,textJ kPolygon),(kCoord,arrJ [arrJ ((r++r.take 1).map ptJ)])]
theorem GrJ.push_ {B k:Nat} {w0 wr w2 wc:World} {v v':Value} {l:List JV} {J:JV} {xs xs9:List Value} (h:GrJ B w0 wr v l) (hk:l.length=k) (hb:Below wr.heap.size wr w2)
 (hxs:wr.ownsRow B TV 4 v k xs∧VRdL wr (fun j=>B≤j∧j<wr.heap.size∧v.ownBlock≠some j) l xs)
 (ha:VRdL w2 (fun j=>wr.heap.size≤j∧j<w2.heap.size) [J] xs9) (ho:wc.ownsRow B TV 4 v' (k+1) (xs++xs9)) (hg:w2.grownBy wc v.ownBlock) (hoo:v'.ownBlock=v.ownBlock∨v'.ownBlock=some w2.heap.size):GrJ B w0 wc v' (l++[J]):=by
 subst hk;unfold VRdL at ha;obtain ⟨cs,rest,rfl,h1,h2⟩:=ha;unfold VRdL at h2;subst h2;rw [List.append_nil] at ho;exact h.push hb hxs h1 ho hg hoo
theorem vrdl_ones {w:World} {F:Nat→Prop}:∀ {js:List JV} {xs:List Value},VRdL w F js xs → ∀ u∈xs,u.oneCell'=true
 | [],xs,h,u,hu=>by unfold VRdL at h;subst h;cases hu
 | j :: js,xs,h,u,hu=>by
   unfold VRdL at h;obtain ⟨cs,rest,rfl,h1,h2⟩:=h;rcases List.mem_append.1 hu with hu|hu
   ·obtain ⟨k,t,A,n,c,A',n',c',rfl⟩:=h1.four;simp at hu;rcases hu with rfl|rfl|rfl|rfl <;> rfl
   ·exact vrdl_ones h2 u hu
def GS (B:Nat) (w0 wr:World) (st:Nat) (w':World):Prop:=Below B w0 w'∧B≤w'.heap.size∧(st=0→Below wr.heap.size wr w')
theorem VRd.al {m:Nat} {w:World} {J:JV} {cs:List Value} (o:Obj) (h:VRd w (fun j=>m≤j∧j<w.heap.size) J cs):VRd (w.alloc o) (fun j=>m≤j∧j<(w.alloc o).heap.size) J cs:=VRd.keep (fun j hj=>(al_below w _).block j hj.2) (fun j hj=>⟨hj.1,nLl hj.2 (al_below w _).size⟩) _ _ h
theorem LAt.one {m:Nat} {w:World} {J:JV} {k:Int} {t:ByteArray} {A A':Option Addr} {n c n' c':Nat} (hm:m≤w.heap.size) (h:VRd w (fun j=>m≤j∧j<w.heap.size) J [.int .i64 k,.string t,.slice A n c,.slice A' n' c']) :
 LAt m (w.alloc (.cells #[.int .i64 k,.string t,.slice A n c,.slice A' n' c'] TV)) [J] (.slice (some ⟨w.heap.size,0,none⟩) 1 1):=
 LAt.of_blk (js:=[J]) (cs:=[_,_,_,_]) (Blk.new _ _ _) hm ⟨[_,_,_,_],_,rfl,VRd.keep (fun j hj=>(al_below w _).block j hj.2) (fun j hj=>⟨hj.1,nLl hj.2 (al_below w _).size⟩) _ _ h,rfl⟩ rfl ⟨Nat.le_refl _,by decide⟩
theorem MAt.one {m:Nat} {w:World} {J:JV} {k:Int} {t:ByteArray} {A A':Option Addr} {n c n' c':Nat} (s:L8) (h:VRd w (fun j=>m≤j∧j<w.heap.size) J [.int .i64 k,.string t,.slice A n c,.slice A' n' c']) :
 MAt m (w.alloc (.cells #[.string ⟨s.toArray⟩,.int .i64 k,.string t,.slice A n c,.slice A' n' c'] TM)) [(s,J)] (.slice (some ⟨w.heap.size,0,none⟩) 1 1):=
 MAt.of_blk (l:=[(s,J)]) (cs:=[_,_,_,_,_]) (Blk.new _ _ _) ⟨[_,_,_,_],_,rfl,VRd.al _ h,rfl⟩ rfl
theorem MAt.two {m:Nat} {w:World} {J J2:JV} {k k2:Int} {t t2:ByteArray} {A A' B B':Option Addr} {n c n' c' m1 d m' d':Nat} (s s2:L8) (h:VRd w (fun j=>m≤j∧j<w.heap.size) J [.int .i64 k,.string t,.slice A n c,.slice A' n' c'])
 (h2:VRd w (fun j=>m≤j∧j<w.heap.size) J2 [.int .i64 k2,.string t2,.slice B m1 d,.slice B' m' d']) :
 MAt m (w.alloc (.cells #[.string ⟨s.toArray⟩,.int .i64 k,.string t,.slice A n c,.slice A' n' c',.string ⟨s2.toArray⟩,.int .i64 k2,.string t2,.slice B m1 d,.slice B' m' d'] TM)) [(s,J),(s2,J2)] (.slice (some ⟨w.heap.size,0,none⟩) 2 2):=
 MAt.of_blk (l:=[(s,J),(s2,J2)]) (cs:=[_,_,_,_,_,_,_,_,_,_]) (Blk.new _ _ _) ⟨[_,_,_,_],_,rfl,VRd.al _ h,[_,_,_,_],_,rfl,VRd.al _ h2,rfl⟩ rfl
set_option maxRecDepth 100000 in
set_option maxHeartbeats 4000000 in
theorem gpolygon_any (r:List Pt) (A:Option Addr) (n c:Nat) (w:World) (hr:PR w w.heap.size A n r) (h1:1≤n) (hn:n≤1000) (hc:n≤c) (hcm:c≤maxLen) (hg:goodAll r=true) (hT:GT w) :
 Calls Tryz.prog 27 #[.slice A n c] w fun e w'=>Below w.heap.size w w' ∧ ∃ v,e=.returned v∧VAt w.heap.size w' (polyJ r) v:=by
 obtain ⟨iv,hiv,hvz0,hvz1,hvz2⟩:=tv_inf;have hlen:=hr.1;obtain ⟨w1,hw1⟩:∃ q,w.alloc (.cells #[.int .i64 0,.string ⟨#[]⟩,.slice none 0 0,.slice none 0 0] TV)=q:=⟨_,rfl⟩;have hk1:Blk w1 w.heap.size TV #[.int .i64 0,.string ⟨#[]⟩,.slice none 0 0,.slice none 0 0]:=hw1 ▸ Blk.new _ _ _;have hs1:w1.heap.size=w.heap.size+1:=by rw [← hw1];simp
 have hb1:Below w.heap.size w w1:=hw1 ▸ bal bR _;obtain ⟨w2,hw2⟩:∃ q,w1.alloc (.cells #[.slice A n c,.slice A 1 c] 23)=q:=⟨_,rfl⟩;have hb2:Below w1.heap.size w1 w2:=hw2 ▸ bal bR _;have hk2:Blk w2 w1.heap.size 23 (([⟨A,n,c,r⟩,⟨A,1,c,r.take 1⟩]:List Sq).map Sq.val).toArray:=hw2 ▸ Blk.new _ _ _;have hr2:=Sl.take hr Pt.enc_len (i:=1) (by omega);have HCC:=hide (concat_pts (c0:=2) (m:=2) hk2 (fun s hs=>by
  simp only [List.mem_cons,List.not_mem_nil,or_false] at hs;have hbw:=btr hb1 hb2;rcases hs with rfl|rfl
  ·exact (hr.below hbw).more hbw.size
  ·exact (hr2.below hbw).more hbw.size) rfl (by omega) (by unfold totL;simp;omega))
 have HTL:=hide (show totL ([⟨A,n,c,r⟩,⟨A,1,c,r.take 1⟩]:List Sq)=n+1 from by unfold totL;simp);obtain ⟨pts,hpts⟩:∃ q,r++r.take 1=q:=⟨_,rfl⟩;have HTP:=hide (show totP ([⟨A,n,c,r⟩,⟨A,1,c,r.take 1⟩]:List Sq)=pts from by unfold totP;rw [← hpts];simp);have HPL:=hide (show pts.length=n+1 from by rw [← hpts,List.length_append,List.length_take];omega);have HPG:=hide (show ∀ p∈pts,p.good from by
  intro p hp;rw [← hpts] at hp;rcases List.mem_append.1 hp with h|h
  ·exact good_mem hg h
  ·exact good_mem hg (List.mem_of_mem_take h))
 have HPJ:=hide (show polyJ r=objJ [(kType,textJ kPolygon),(kCoord,arrJ [arrJ (pts.map ptJ)])] from by unfold polyJ;rw [hpts]);have HB1:=hide hb1;have HB2:=hide hb2;have HK1:=hide hk1;have HW1:=hide hw1;have HW2:=hide hw2;have HS1:=hide hs1;have HGT:=hide hT;have hcb:c≤9223372036854775807:=by unfold maxLen at hcm;omega
 have h1c:1≤c:=by omega
 clear hr hr2 hpts hg hk1 hk2 hb1 hb2 hw1 hw2 hs1 hT hlen hcm
 go_enter Tryz.func27,Tryz.ntmps27
 go_upto_region 1 with fail
 rw [HW1.out];go_wp2_with (go_at_call 73;rw [HW2.out];go_loud (refine HCC.out.mono ?_);rintro e wc ⟨v,rfl,hrow,hb3⟩;rw [HTL.out,HTP.out] at hrow;(obtain ⟨g,c3,rfl,hg3⟩:=own_at (by omega) (by omega) hrow);have HR3:=hide (show PR wc wc.heap.size (some ⟨g,0,none⟩) (n+1) pts from Sl.own (enc:=Pt.enc) (l:=pts) HPL.out rfl rfl hrow);have HB3:=hide hb3;clear hrow hb3 hg3)
 have HK3:=hide ((HK1.out.below HB2.out HK1.out.lt).below HB3.out (nLl HK1.out.lt HB2.out.size));have HG3:=hide (GrJ.nil wc (Below.refl wc.heap.size wc) (Nat.le_refl _))
 go_loopw [3,12] (fun v3 v12 wr=>∃ (k:Nat) (A5:Option Addr) (c5:Nat),v12=.int .i64 (k:Int)∧k≤n+1∧v3=.slice A5 k c5∧Hid (GrJ wc.heap.size wc wr (.slice A5 k c5) ((pts.take k).map ptJ))) (fun _ v _=>n+1 - (intOf v).toNat)
 case atStart=>exact ⟨0,none,0,rfl,by omega,rfl,HG3⟩
 case round=>
  clear HG3 HCC HW1 HW2;obtain ⟨k,A5,c5,rfl,hkn,rfl,HI⟩:=hrel;by_cases hlt:k<n+1
  ·have hltI:(k:Int)<n+1:=by omega
   have hkp:k<pts.length:=by rw [HPL.out];exact hlt
   obtain ⟨b,o,hA,hb,hcs⟩:=HR3.out.at (show 0<n+1 by omega);injection hA with hA;injection hA with hA1 hA2;subst hA1 hA2;obtain ⟨c0,c1⟩:=hcs k hkp;have hgp:=HPG.out _ (List.getElem_mem hkp);have hTK:=List.take_succ_eq_append_getElem hkp;obtain ⟨p,hp⟩:∃ p,pts[k]=p:=⟨_,rfl⟩;rw [hp] at c0 c1 hgp hTK;have HTK:=hide (show (pts.take (k+1)).map ptJ=(pts.take k).map ptJ++[ptJ p] from by rw [hTK,List.map_append];rfl);have hpx:=hgp;unfold Pt.good at hpx;obtain ⟨x,y⟩:=p;simp only at c0 c1 hpx;have c0:=(HI.out.bel.cell (p:=⟨g,0+k * 2,none⟩) hb).trans c0;have c1:=(HI.out.bel.cell (p:=⟨g,0+k * 2+1,none⟩) hb).trans c1;simp only [Nat.zero_add] at c0 c1;have hbr:g<wr.heap.size:=nLl hb HI.out.bel.size;obtain ⟨wr2,hwr2⟩:∃ q,wr.alloc (.cells #[.int .i64 x,.int .i64 y] 56)=q:=⟨_,rfl⟩;have hbx:Below wr.heap.size wr wr2:=hwr2 ▸ bal bR _;have HBX:=hide (show Blk wr2 wr.heap.size 56 #[.int .i64 x,.int .i64 y] from hwr2 ▸ Blk.new _ _ _);have HG2:=hide (HI.out.below hbx);have HBW:=hide (show Below wc.heap.size wc wr2 from HI.out.bel.trans (hbx.mono HI.out.bel.size));have HT2:=hide (HGT.out.below (btr (btr (btr HB1.out HB2.out) HB3.out) HBW.out));obtain ⟨xs,hxo,hxl⟩:=HG2.out.row;have hll:((pts.take k).map ptJ).length=k:=by rw [List.length_map,List.length_take];omega
   rw [hll] at hxo;have HXO:=hide hxo;have HXL:=hide hxl;have HLL:=hide hll;have HW2:=hide hwr2;have hx0:-9223372036854775808≤x∧x≤9223372036854775807:=by omega
   have hy0:-9223372036854775808≤y∧y≤9223372036854775807:=by omega
   clear hcs hp hTK hgp hwr2 hbx hxo hxl hll hpx;go_upto_region 5 with fail
   rw [HW2.out];refine wp_region_dagO (by kernel_rfl) (by kernel_rfl) 37 1
    [⟨some 16,[0,1],[],[],[],[],fun _ _ v _=>v=.slice A5 k c5⟩,
     ⟨some 17,[0,1],[],[],[],[],fun _ _ v _=>v=.pointer (some ⟨wr.heap.size,0,none⟩)⟩,
     ⟨some 18,[0],[],[],[1],[],fun _ _ v _=>v=.int .i64 x⟩,
     ⟨some 19,[0],[],[],[2],[],fun st a v w'=>st=0→VAt wr2.heap.size w' (numJ x) v⟩,
     ⟨some 20,[0,1],[],[],[],[],fun _ _ v _=>v=.pointer (some ⟨wr.heap.size,1,none⟩)⟩,
     ⟨some 21,[0],[],[],[4],[],fun _ _ v _=>v=.int .i64 y⟩,
     ⟨some 22,[0],[],[],[5],[],fun st a v w'=>st=0→VAt wr2.heap.size w' (numJ y) v⟩,
     ⟨some 23,[0],[],[],[3,6],[],fun st a v w'=>st=0→LAt wr2.heap.size w' [numJ x,numJ y] v⟩,
     ⟨some 24,[0],[],[],[7],[],fun st a v w'=>st=0→VAt wr2.heap.size w' (ptJ ⟨x,y⟩) v⟩,
     ⟨some 25,[0],[],[],[8],[],fun st a v w'=>st=0→LAt wr2.heap.size w' [ptJ ⟨x,y⟩] v⟩,
     ⟨some 26,[0],[(0,1)],[1],[0,9],[],fun st a v w'=>1≤st∧(∃ B d,v=.slice B (k+1) d)∧GrJ wc.heap.size wc w' v ((pts.take k).map ptJ++[ptJ ⟨x,y⟩])⟩,
     ⟨some 3,[1],[],[],[10],[],fun st a v w'=>1≤st∧(∃ B d,v=.slice B (k+1) d)∧GrJ wc.heap.size wc w' v ((pts.take k).map ptJ++[ptJ ⟨x,y⟩])⟩] (GS wc.heap.size wc wr2) (fun s s' _ _ _=>s=0∧s'=1) (fun _ w w'=>Below w.heap.size w w') ?gu ?ru ?put [16,17,18,19,20,21,22,23,24,25,26,3] rfl (by kernel_rfl) rfl ?g0 ?keep ?steps ?fin
   case ru=>
    intro e he s a v w w' hu hv;simp only [List.mem_cons,List.not_mem_nil,or_false] at he;rcases he with rfl|rfl|rfl|rfl|rfl|rfl|rfl|rfl|rfl|rfl|rfl|rfl
    all_goals first|exact hv|(intro h0;exact (hv h0).below hu)|(obtain ⟨h0,h1,h2⟩:=hv;exact ⟨h0,h1,h2.below hu⟩)
   case put=>
    intro e he s a d u v w hnd hv;simp only [List.mem_cons,List.not_mem_nil,or_false] at he;rcases he with rfl|rfl|rfl|rfl|rfl|rfl|rfl|rfl|rfl|rfl|rfl|rfl
    all_goals first|exact hv
   case keep=>
    intro e he s s' a v w w' hsl hm ht hv;simp only [List.mem_cons,List.not_mem_nil,or_false] at he;rcases he with rfl|rfl|rfl|rfl|rfl|rfl|rfl|rfl|rfl|rfl|rfl|rfl
    all_goals first|exact hv|(intro h3;exfalso;have:=ht.2;omega)|(exfalso;have:=hv.1;have:=ht.1;omega)
   case steps=>
    refine ⟨?_,?_,?_,?_,?_,?_,?_,?_,?_,?_,?_,?_,trivial⟩
    ·intro st hst ac w3 hg hG hd ho K hK;dsimp only at hst hG hK;exact op_move _ rfl (hK _ _ bR (ho 11 _ rfl (by decide) (by kernel_rfl) 3 rfl))
    ·intro st hst ac w3 hg hG hd ho K hK;dsimp only at hst hG hK;have k5:=hg.kp 5 (by simp);(try simp [Act.eval] at k5);go_simp;exact hK _ _ bR rfl
    ·intro st hst ac w3 hg hG hd ho K hK;dsimp only at hst hG hK;simp only [List.mem_cons,List.not_mem_nil,or_false] at hst;subst hst;have kb:=HBX.out.below (hG.2.2 rfl) HBX.out.lt;have kk:=kb.cell;have zz:=kb.lt;clear hG kb;have f1:=hd 1 (by simp) _ rfl _ rfl;(try simp [Act.eval] at f1);go_simp;exact hK _ _ bR rfl
    ·intro st hst ac w3 hg hG hd ho K hK;dsimp only at hst hG hK;simp only [List.mem_cons,List.not_mem_nil,or_false] at hst;subst hst;have f:=hd 2 (by simp) _ rfl _ rfl;have hT3:=HT2.out.below (hG.2.2 rfl);have HX:=hide (gnumberV x w3 hx0.1 hx0.2 hT3);clear hG hT3;simp [Act.eval] at f;go_simp;(refine HX.out.mono ?_);rintro e w4 ⟨hb4,v,rfl,hv⟩;exact hK v w4 hb4 (fun _=>hv _)
    ·intro st hst ac w3 hg hG hd ho K hK;dsimp only at hst hG hK;have k5:=hg.kp 5 (by simp);(try simp [Act.eval] at k5);go_simp;exact hK _ _ bR rfl
    ·intro st hst ac w3 hg hG hd ho K hK;dsimp only at hst hG hK;simp only [List.mem_cons,List.not_mem_nil,or_false] at hst;subst hst;have kb:=HBX.out.below (hG.2.2 rfl) HBX.out.lt;have kk:=kb.cell;have zz:=kb.lt;clear hG kb;have f4:=hd 4 (by simp) _ rfl _ rfl;(try simp [Act.eval] at f4);go_simp;exact hK _ _ bR rfl
    ·intro st hst ac w3 hg hG hd ho K hK;dsimp only at hst hG hK;simp only [List.mem_cons,List.not_mem_nil,or_false] at hst;subst hst;have f:=hd 5 (by simp) _ rfl _ rfl;have hT3:=HT2.out.below (hG.2.2 rfl);have HX:=hide (gnumberV y w3 hy0.1 hy0.2 hT3);clear hG hT3;simp [Act.eval] at f;go_simp;(refine HX.out.mono ?_);rintro e w4 ⟨hb4,v,rfl,hv⟩;exact hK v w4 hb4 (fun _=>hv _)
    ·intro st hst ac w3 hg hG hd ho K hK;dsimp only at hst hG hK;simp only [List.mem_cons,List.not_mem_nil,or_false] at hst;subst hst;obtain ⟨k1,t1,a1,n1,d1,a2,n2,d2,e1,h1⟩:=hd 3 (by simp) _ rfl _ rfl rfl;obtain ⟨k3,t3,a3,n3,d3,a4,n4,d4,e3,h3⟩:=hd 6 (by simp) _ rfl _ rfl rfl;have HB0:=hide (hG.2.2 rfl).size;clear hG;simp [Act.eval] at e1 e3;have HH1:=hide h1;have HH3:=hide h3;clear h1 h3;go_simp;exact hK _ _ (al_below w3 _) (fun _=>LAt.of_blk (js:=[numJ x,numJ y]) (cs:=[_,_,_,_,_,_,_,_]) (Blk.new _ _ _) HB0.out ⟨[_,_,_,_],_,rfl,VRd.keep (fun j hj=>(al_below w3 _).block j hj.2) (fun j hj=>⟨hj.1,nLl hj.2 (al_below w3 _).size⟩) _ _ HH1.out,[_,_,_,_],_,rfl,VRd.keep (fun j hj=>(al_below w3 _).block j hj.2) (fun j hj=>⟨hj.1,nLl hj.2 (al_below w3 _).size⟩) _ _ HH3.out,rfl⟩ rfl ⟨Nat.le_refl _,by decide⟩)
    ·intro st hst ac w3 hg hG hd ho K hK;dsimp only at hst hG hK;simp only [List.mem_cons,List.not_mem_nil,or_false] at hst;subst hst;have g:=hd 7 (by simp) _ rfl _ rfl rfl;obtain ⟨v,hv⟩:∃ v,ac.eval (.tmp 23)=v:=⟨_,rfl⟩;rw [hv] at g;have HX:=hide (garrayV g);clear hG g;simp [Act.eval] at hv;go_simp;(refine HX.out.mono ?_);rintro e w4 ⟨hb4,v,rfl,hv⟩;exact hK v w4 hb4 (fun _=>hv)
    ·intro st hst ac w3 hg hG hd ho K hK;dsimp only at hst hG hK;simp only [List.mem_cons,List.not_mem_nil,or_false] at hst;subst hst;obtain ⟨k1,t1,a1,n1,d1,a2,n2,d2,e1,h1⟩:=hd 8 (by simp) _ rfl _ rfl rfl;have HB0:=hide (hG.2.2 rfl).size;clear hG;simp [Act.eval] at e1;have HH1:=hide h1;clear h1;go_simp;exact hK _ _ (al_below w3 _) (fun _=>LAt.of_blk (js:=[ptJ ⟨x,y⟩]) (cs:=[_,_,_,_]) (Blk.new _ _ _) HB0.out ⟨[_,_,_,_],_,rfl,VRd.keep (fun j hj=>(al_below w3 _).block j hj.2) (fun j hj=>⟨hj.1,nLl hj.2 (al_below w3 _).size⟩) _ _ HH1.out,rfl⟩ rfl ⟨Nat.le_refl _,by decide⟩)
    ·intro st st' hmv ac w3 hg hG hd ho K hK;simp only [List.mem_cons,Prod.mk.injEq,List.not_mem_nil,or_false] at hmv;obtain ⟨rfl,rfl⟩:=hmv;dsimp only at hG hK;have f0:=hd 0 (by simp) _ rfl _ rfl;obtain ⟨A9,d9,xs9,f9,hc9,hr9,hl9⟩:=hd 9 (by simp) _ rfl _ rfl rfl;refine wp_append_any w3 (.tmp 16) (.tmp 25) 37 rfl wc.heap.size TV iv _ 4 72 Tryz.underlying37 hiv hvz0 hvz1 hvz2 rfl (by decide) (.slice A5 k c5) k xs f0 (own_later HXO.out (hG.2.2 rfl)) w3.heap.size A9 1 d9 xs9 f9 (hr9.keep (F':=fun j=>j<w3.heap.size) (fun _ _=>rfl) (fun j hj=>hj.2)) (vrdl_ones hl9) (by unfold maxLen;omega) (by omega) hG.2.1 ?_;intro v' w' ho hgb hoo;exact hK _ _ ⟨rfl,rfl⟩ ⟨hG.1.grown hgb hG.2.1 (fun k hk=>(HXO.out.lt k hk).1),Nat.le_trans hG.2.1 hgb.size,fun e=>by omega⟩ ⟨Nat.le_refl _,by obtain ⟨B,d,e,_⟩:=own_slice ho;exact ⟨B,d,e⟩,GrJ.push_ HG2.out HLL.out (hG.2.2 rfl) ⟨HXO.out,HXL.out⟩ hl9 ho hgb hoo⟩
    ·intro st hst ac w3 hg hG hd ho K hK;dsimp only at hst hG hK;exact op_assign _ rfl (hK _ _ bR (hd 10 (by simp) _ rfl _ rfl))
   case gu=>intro s w1 w2 hG hu;exact ⟨hG.1.trans (hu.mono hG.2.1),Nat.le_trans hG.2.1 hu.size,fun e=>(hG.2.2 e).trans (hu.mono (hG.2.2 e).size)⟩
   case g0=>exact ⟨HG2.out.bel.drew,HG2.out.le,fun _=>bR.drew⟩
   case fin=>
    intro f9 w9 hG hall;obtain ⟨_,⟨B9,d9,h9⟩,hch⟩:=hall _ (List.mem_of_getElem? (i:=11) rfl) 3 rfl;clear hall;simp only [fillF,List.map_cons,List.map_nil,List.foldl_cons,List.foldl_nil,Act.put,List.setIfInBounds_toArray,List.set_cons_zero,List.set_cons_succ];rw [h9] at hch ⊢;have HCH:=hide hch;clear hch h9;go_wp2_with fail
    refine ⟨⟨k+1,B9,d9,by go_num,by omega,rfl,hide (by rw [HTK.out];exact HCH.out)⟩,?_⟩;simp [intOf];omega
  ·have hltI:¬ (k:Int)<n+1:=by omega
   obtain rfl:k=n+1:=by omega
   have hlat:=HI.out.lat;rw [List.take_of_length_le (by rw [HPL.out];exact Nat.le_refl _)] at hlat;have HLAT:=hide hlat;have HBW:=hide HI.out.bel;have HI2:=hide HI.out.bel;have HPJL:=hide (show (pts.map ptJ).length=n+1 from by rw [List.length_map];exact HPL.out);clear hlat HI;have HTX:=hide (gtext_any ⟨kPolygon.toArray⟩ wr);have HKR:=hide (HK3.out.below HI2.out (nLl HK1.out.lt (Nat.le_trans HB2.out.size HB3.out.size)));have HB0:=hide (Nat.le_trans (Nat.le_trans HB1.out.size HB2.out.size) (Nat.le_trans HB3.out.size HI2.out.size));go_wp2_with (first
    | (go_at_call 25;go_loud (refine HTX.out.mono ?_);rintro e w4 ⟨rfl,hb4⟩;have HL4:=hide (HLAT.out.below hb4);have HK4:=hide (HKR.out.below hb4 HKR.out.lt);have HBW4:=hide (HBW.out.trans (hb4.mono HI2.out.size));clear hb4)
    | (go_at_call 28;go_loud (refine (garrayV HL5.out).mono ?_);rintro e w6 ⟨hb6,v6,rfl,hv6⟩;(obtain ⟨k1,t1,a1,n1,d1,a2,n2,d2,rfl,hv6⟩:=hv6);have hx:=btr (al_below w5 _) hb6;have HK6:=hide (HK5.out.below hx HK5.out.lt);have HBW6:=hide (HBW5.out.trans (hx.mono HBW5.out.size));have HM6:=hide (MAt.two kType kCoord (vrd_leaf 5 kPolygon) hv6);clear hb6 hv6 hx)
    | (go_at_call 28;go_loud (refine (garrayV HL4.out).mono ?_);rintro e w5 ⟨hb5,v5,rfl,hv5⟩;(obtain ⟨k0,t0,b1,m1,f1,b2,m2,f2,rfl,hv5⟩:=hv5);have HK5:=hide (HK4.out.below hb5 HK4.out.lt);have HBW5:=hide (HBW4.out.trans (hb5.mono HBW4.out.size));have HS5:=hide (Nat.le_trans HBW4.out.size hb5.size);have HL5:=hide (LAt.one HBW5.out.size hv5);clear hb5 hv5)
    | (go_at_call 24;go_loud (refine (gobjectV HM6.out (by simp) (Nat.le_trans HBW6.out.size (al_below w6 _).size)).mono ?_);rintro e w7 ⟨hb7,v7,rfl,hv7⟩;(obtain ⟨k2,t2,a3,n3,d3,a4,n4,d4,rfl,hv7⟩:=hv7);have hx:=btr (al_below w6 _) hb7;have hk7:=HK6.out.below hx HK6.out.lt;have HK7:=hide hk7;have kr:=hk7.cell;have fr:=hk7.frozen;have zr:=hk7.lt;have HBW7:=hide (HBW6.out.trans (hx.mono HBW6.out.size));have HV7:=hide hv7;clear hk7 hx hb7 hv7))
   refine ⟨rfl,.agg #[.int .i64 k2,.string t2,.slice a3 n3 d3,.slice a4 n4 d4],results_cell_row rfl _ _ w.heap.size TV _ (0,0) _ rfl (set4_blk HK7.out (.int .i64 k2) (.string t2) (.slice a3 n3 d3) (.slice a4 n4 d4)) Tryz.underlying39 rfl tv_info,?_⟩;have hq:=btr (btr (btr HB1.out HB2.out) HB3.out) HBW7.out;refine ⟨set4_below hq (Nat.le_refl _) _ _ _ _,_,rfl,k2,t2,a3,n3,d3,a4,n4,d4,rfl,?_⟩;rw [HPJ.out];have hcs:=Nat.le_trans (Nat.le_of_eq HS1.out.symm) (Nat.le_trans HB2.out.size HB3.out.size);refine VRd.keep (fun j hj=>set4_heap _ (by omega) _ _ _ _) (fun j hj=>⟨by omega,by show j<(set4 _ w.heap.size _ _ _ _).heap.size;rw [set4_size];exact hj.2⟩) _ _ HV7.out
def ptT (p:Pt):L8:=[91]++(Lib.itoa p.x++([44]++(Lib.itoa p.y++[93])))
def joinT:Bool→List L8→L8
 | _,[]=>[]
 | first,t :: ts=>(if first then [] else [44])++(t++joinT false ts)
def polyH:L8:=[123,34,116,121,112,101,34,58,34,80,111,108,121,103,111,110,34,44,34,99,111,111,114,100,105,110,97,116,101,115,34,58,91,91]
def polyT (r:List Pt):L8:=polyH++(joinT true ((r++r.take 1).map ptT)++[93,93,125])
theorem ptT_len {p:Pt} (h:p.good):(ptT p).length≤45:=by
 unfold Pt.good at h;have h1:=Lib.itoa_length_le p.x (by omega) (by omega);have h2:=Lib.itoa_length_le p.y (by omega) (by omega);unfold ptT;simp only [List.length_append,List.length_cons,List.length_nil];omega
theorem joinT_len:∀ (b:Bool) (l:List L8) (M:Nat),(∀ t∈l,t.length≤M)→(joinT b l).length≤l.length * (M+1)
 | _,[],M,_=>by simp [joinT]
 | b,t :: l,M,h=>by
   have h1:=joinT_len false l M fun x hx=>h x (by simp [hx])
   have h2:=h t (by simp);simp only [joinT,List.length_append,List.length_cons];have h3:(if b=true then ([]:L8) else [44]).length≤1:=by cases b <;> simp
   rw [Nat.succ_mul];omega
def escQ (c:UInt8):L8:=if c.toNat=34∨c.toNat=92 then [92,c] else [c]
def quoteQ (s:L8):L8:=34 :: (s.flatMap escQ++[34])
theorem quoteQ_eq {s:L8} (h:∀ c∈s,badC c=false):quoteL s=quoteQ s:=by
 have e:∀ c:UInt8,badC c=false→qB c=escQ c:=fun c=>u8_all (fun c=>badC c=false→qB c=escQ c) (by decide +kernel) c
 unfold quoteL quoteQ;congr 2
 induction s with
 | nil=>rfl
 | cons c s ih=>
   rw [List.flatMap_cons,List.flatMap_cons,e c (h c (by simp)),ih fun x hx=>h x (by simp [hx])]
def kFeature:L8:=[70,101,97,116,117,114,101]
def kId:L8:=[105,100]
def kOwner:L8:=[111,119,110,101,114]
def kProps:L8:=[112,114,111,112,101,114,116,105,101,115]
def kGeom:L8:=[103,101,111,109,101,116,114,121]
def kColl:L8:=[70,101,97,116,117,114,101,67,111,108,108,101,99,116,105,111,110]
def kTerr:L8:=[116,101,114,114,105,116,111,114,121]
def kFeats:L8:=[102,101,97,116,117,114,101,115]
def featJ (x:Pc):JV:=objJ [(kType,textJ kFeature),(kId,numJ x.id),(kProps,objJ [(kOwner,textJ x.owner.data.toList)]),(kGeom,polyJ x.ring)]
def planJ (outer:List Pt) (ps:List Pc):JV:=objJ [(kType,textJ kColl),(kTerr,polyJ outer),(kFeats,arrJ (ps.map featJ))]
def PAt (m:Nat) (w:World) (s:L8) (J:JV) (v:Value):Prop:=∃ k t A n c A' n' c',v=.agg #[.string ⟨s.toArray⟩,.int .i64 k,.string t,.slice A n c,.slice A' n' c']∧VRd w (fun j=>m≤j∧j<w.heap.size) J [.int .i64 k,.string t,.slice A n c,.slice A' n' c']
theorem PAt.below {w w':World} {m:Nat} {s:L8} {J:JV} {v:Value} (h:PAt m w s J v) (hb:Below w.heap.size w w'):PAt m w' s J v:=by
 obtain ⟨k,t,A,n,c,A',n',c',e,h⟩:=h;exact ⟨k,t,A,n,c,A',n',c',e,VRd.keep (fun j hj=>hb.block j hj.2) (fun j hj=>⟨hj.1,nLl hj.2 hb.size⟩) _ _ h⟩
theorem MAt.four {m:Nat} {w:World} {J J2 J3 J4:JV} {k k2 k3 k4:Int} {t t2 t3 t4:ByteArray} {A A' A2 A2' A3 A3' A4 A4':Option Addr} {n c n' c' n2 c2 n2' c2' n3 c3 n3' c3' n4 c4 n4' c4':Nat} (s s2 s3 s4:L8)
 (h:VRd w (fun j=>m≤j∧j<w.heap.size) J [.int .i64 k,.string t,.slice A n c,.slice A' n' c'])
 (h2:VRd w (fun j=>m≤j∧j<w.heap.size) J2 [.int .i64 k2,.string t2,.slice A2 n2 c2,.slice A2' n2' c2'])
 (h3:VRd w (fun j=>m≤j∧j<w.heap.size) J3 [.int .i64 k3,.string t3,.slice A3 n3 c3,.slice A3' n3' c3'])
 (h4:VRd w (fun j=>m≤j∧j<w.heap.size) J4 [.int .i64 k4,.string t4,.slice A4 n4 c4,.slice A4' n4' c4']) :
 MAt m (w.alloc (.cells #[.string ⟨s.toArray⟩,.int .i64 k,.string t,.slice A n c,.slice A' n' c',.string ⟨s2.toArray⟩,.int .i64 k2,.string t2,.slice A2 n2 c2,.slice A2' n2' c2',.string ⟨s3.toArray⟩,.int .i64 k3,.string t3,.slice A3 n3 c3,.slice A3' n3' c3',.string ⟨s4.toArray⟩,.int .i64 k4,.string t4,.slice A4 n4 c4,.slice A4' n4' c4'] TM)) [(s,J),(s2,J2),(s3,J3),(s4,J4)] (.slice (some ⟨w.heap.size,0,none⟩) 4 4):=
 MAt.of_blk (l:=[(s,J),(s2,J2),(s3,J3),(s4,J4)]) (cs:=[_,_,_,_,_,_,_,_,_,_,_,_,_,_,_,_,_,_,_,_]) (Blk.new _ _ _) ⟨[_,_,_,_],_,rfl,VRd.al _ h,[_,_,_,_],_,rfl,VRd.al _ h2,[_,_,_,_],_,rfl,VRd.al _ h3,[_,_,_,_],_,rfl,VRd.al _ h4,rfl⟩ rfl
theorem MAt.three {m:Nat} {w:World} {J J2 J3:JV} {k k2 k3:Int} {t t2 t3:ByteArray} {A A' A2 A2' A3 A3':Option Addr} {n c n' c' n2 c2 n2' c2' n3 c3 n3' c3':Nat} (s s2 s3:L8)
 (h:VRd w (fun j=>m≤j∧j<w.heap.size) J [.int .i64 k,.string t,.slice A n c,.slice A' n' c'])
 (h2:VRd w (fun j=>m≤j∧j<w.heap.size) J2 [.int .i64 k2,.string t2,.slice A2 n2 c2,.slice A2' n2' c2'])
 (h3:VRd w (fun j=>m≤j∧j<w.heap.size) J3 [.int .i64 k3,.string t3,.slice A3 n3 c3,.slice A3' n3' c3']) :
 MAt m (w.alloc (.cells #[.string ⟨s.toArray⟩,.int .i64 k,.string t,.slice A n c,.slice A' n' c',.string ⟨s2.toArray⟩,.int .i64 k2,.string t2,.slice A2 n2 c2,.slice A2' n2' c2',.string ⟨s3.toArray⟩,.int .i64 k3,.string t3,.slice A3 n3 c3,.slice A3' n3' c3'] TM)) [(s,J),(s2,J2),(s3,J3)] (.slice (some ⟨w.heap.size,0,none⟩) 3 3):=
 MAt.of_blk (l:=[(s,J),(s2,J2),(s3,J3)]) (cs:=[_,_,_,_,_,_,_,_,_,_,_,_,_,_,_]) (Blk.new _ _ _) ⟨[_,_,_,_],_,rfl,VRd.al _ h,[_,_,_,_],_,rfl,VRd.al _ h2,[_,_,_,_],_,rfl,VRd.al _ h3,rfl⟩ rfl
theorem klen {s:L8} (h:s.length≤30):s.length≤maxT:=Nat.le_trans h (by decide)
theorem smL_all:∀ {l:List JV},(∀ x∈l,smJ x)→smL l
 | [],_=>by unfold smL;trivial
 | a :: l,h=>by unfold smL;exact ⟨h a (by simp),smL_all fun x hx=>h x (by simp [hx])⟩
theorem sm_num {n:Int} (h:-9223372036854775808≤n∧n≤9223372036854775807):smJ (numJ n):=by
 unfold numJ smJ;have:=Lib.itoa_length_le n h.1 h.2;exact ⟨by unfold maxT;omega,(by simp),smL_all (by simp)⟩
theorem sm_text {s:L8} (h:s.length≤maxT):smJ (textJ s):=by
 unfold textJ smJ;exact ⟨h,(by simp),smL_all (by simp)⟩
theorem sm_arr {l:List JV} (h:∀ x∈l,smJ x):smJ (arrJ l):=by
 unfold arrJ smJ;exact ⟨Nat.zero_le _,(by simp),smL_all h⟩
theorem sm_obj {l:List (L8 × JV)} (h:∀ x∈l,x.1.length≤maxT∧smJ x.2):smJ (objJ l):=by
 unfold objJ smJ;exact ⟨Nat.zero_le _,fun s hs=>by obtain ⟨x,hx,rfl⟩:=List.mem_map.1 hs;exact (h x hx).1,smL_all fun s hs=>by obtain ⟨x,hx,rfl⟩:=List.mem_map.1 hs;exact (h x hx).2⟩
theorem sm_poly {r:List Pt} (h:∀ p∈r,p.good):smJ (polyJ r):=by
 unfold polyJ;refine sm_obj fun x hx=>?_
 simp only [List.mem_cons,List.not_mem_nil,or_false] at hx;rcases hx with rfl|rfl
 ·exact ⟨klen (s:=kType) (by decide),sm_text (by decide)⟩
 ·refine ⟨klen (s:=kCoord) (by decide),sm_arr fun y hy=>?_⟩;simp only [List.mem_cons,List.not_mem_nil,or_false] at hy;subst hy;refine sm_arr fun z hz=>?_
  obtain ⟨p,hp,rfl⟩:=List.mem_map.1 hz;have hg:p.good:=by
   rcases List.mem_append.1 hp with hp|hp
   ·exact h p hp
   ·exact h p (List.mem_of_mem_take hp)
  unfold Pt.good at hg;refine sm_arr fun u hu=>?_
  simp only [List.mem_cons,List.not_mem_nil,or_false] at hu;rcases hu with rfl|rfl
  ·exact sm_num (by omega)
  ·exact sm_num (by omega)
theorem sm_feat {x:Pc} (h:∀ p∈x.ring,p.good) (hi:-9223372036854775808≤x.id∧x.id≤9223372036854775807) (ho:x.owner.size≤140737488355328):smJ (featJ x):=by
 unfold featJ;refine sm_obj fun y hy=>?_
 simp only [List.mem_cons,List.not_mem_nil,or_false] at hy;rcases hy with rfl|rfl|rfl|rfl
 ·exact ⟨klen (s:=kType) (by decide),sm_text (by decide)⟩
 ·exact ⟨klen (s:=kId) (by decide),sm_num hi⟩
 ·refine ⟨klen (s:=kProps) (by decide),sm_obj fun z hz=>?_⟩;simp only [List.mem_cons,List.not_mem_nil,or_false] at hz;subst hz;refine ⟨klen (s:=kOwner) (by decide),sm_text ?_⟩;rw [Array.length_toList];show x.owner.size≤maxT;unfold maxT;omega
 ·exact ⟨klen (s:=kGeom) (by decide),sm_poly h⟩
theorem sm_plan {outer:List Pt} {ps:List Pc} (ho:∀ p∈outer,p.good) (hp:∀ x∈ps,(∀ p∈x.ring,p.good)∧(-9223372036854775808≤x.id∧x.id≤9223372036854775807)∧x.owner.size≤140737488355328):smJ (planJ outer ps):=by
 unfold planJ;refine sm_obj fun y hy=>?_
 simp only [List.mem_cons,List.not_mem_nil,or_false] at hy;rcases hy with rfl|rfl|rfl
 ·exact ⟨klen (s:=kType) (by decide),sm_text (by decide)⟩
 ·exact ⟨klen (s:=kTerr) (by decide),sm_poly ho⟩
 ·refine ⟨klen (s:=kFeats) (by decide),sm_arr fun z hz=>?_⟩;obtain ⟨x,hx,rfl⟩:=List.mem_map.1 hz;obtain ⟨h1,h2,h3⟩:=hp x hx;exact sm_feat h1 h2 h3
end Go.Proofs.YtacinobmcgcccaaGreatDoor
