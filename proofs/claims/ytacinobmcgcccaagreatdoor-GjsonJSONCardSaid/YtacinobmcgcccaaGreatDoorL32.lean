/- gjson.Encode. -/
import Derived.Test.YtacinobmcgcccaaGreatDoorL31
import Derived.Test.YtacinobmcgcccaaGreatDoorL07
set_option linter.unusedSimpArgs false
set_option linter.unusedVariables false
namespace Go.Proofs.YtacinobmcgcccaaGreatDoor
open Go.RowKit Go.Shelf
def encE (outer:List Pt) (vs:List Pv):Nat:=if planB outer vs then prE (planJ outer (vs.map Pv.pc)) else 2
def encR (outer:List Pt) (vs:List Pv):L8:=if planB outer vs then prR (planJ outer (vs.map Pv.pc)) else []
def PrO (w:World) (R:L8) (A:Option Addr) (n c:Nat):Prop:=n≤c∧(∀ ad,A=some ad→ad.block<w.heap.size)∧RB w w.heap.size A n R
theorem PrO.below {w w':World} {R:L8} {A:Option Addr} {n c:Nat} (h:PrO w R A n c) (hb:Below w.heap.size w w'):PrO w' R A n c:=⟨h.1,fun ad e=>nLl (h.2.1 ad e) hb.size,(h.2.2.below hb).more hb.size⟩
set_option maxRecDepth 100000 in
set_option maxHeartbeats 4000000 in
theorem gencode_any (P:PlV) (w:World) (hP:PlOk w w.heap.size P) (hT:GT w) :
 Calls Tryz.prog 10 #[P.val] w fun e w'=>Below w.heap.size w w' ∧ ∃ A n c,e=.returned (.tuple #[.slice A n c,.int .i64 (encE P.outer P.vs:Int)])∧n≤c∧(∀ ad,A=some ad→ad.block<w'.heap.size)∧RB w' w'.heap.size A n (encR P.outer P.vs):=by
 obtain ⟨iv,hiv,hvz0,hvz1,hvz2⟩:=tv_inf;have HCK:=hide (fun w0 (h:PlOk w0 w0.heap.size P)=>pcheck_any P w0 h);obtain ⟨w1,hw1⟩:∃ q,w.alloc (.cells #[.slice P.Ao P.no P.co,.slice P.A P.n P.c] 26)=q:=⟨_,rfl⟩;have HB1:=hide (show Below w.heap.size w w1 from hw1 ▸ bal bR _);have hk1:Blk w1 w.heap.size 26 #[.slice P.Ao P.no P.co,.slice P.A P.n P.c]:=hw1 ▸ Blk.new _ _ _;have HK1:=hide hk1;have HP1:=hide (hP.later HB1.out);have HT1:=hide (hT.below HB1.out);obtain ⟨Ao,no,co,outer,A,n,c,vs⟩:=P;show Calls Tryz.prog 10 #[.agg #[.slice Ao no co,.slice A n c]] w _;simp only at hw1 HCK HK1;have HW1:=hide hw1;have kc:=HK1.out.cell;have fc:=HK1.out.frozen;have zc:=HK1.out.lt;simp only [encE,encR];clear hw1 hk1 hP hT;cases hpb:planB outer vs
 ·have HPB:=hide hpb;rw [hpb] at HCK;simp only [Bool.false_eq_true,if_false] at HCK ⊢;clear hpb
  go_enter Tryz.func10,Tryz.ntmps10
  go_upto_region 1 with fail
  rw [HW1.out];go_wp2_with (go_at_call 23;go_loud (refine (HCK.out w1 HP1.out).mono ?_);rintro e w2 ⟨rfl,hb2⟩;have HB2:=hide hb2;clear hb2)
  go_ret2
  exact ⟨btr HB1.out HB2.out,none,0,0,rfl,Nat.le_refl _,(fun ad e=>by cases e),rb_none _ _⟩
 ·rw [hpb] at HCK;simp only [if_true] at HCK ⊢;have hsnd:=hpb;unfold planB at hsnd;simp only [Bool.and_eq_true,List.all_eq_true] at hsnd;obtain ⟨hl,ho,hv,_⟩:=hsnd;have hl2:=listed_len hl;have ho2:=normed_sound ho;have hvl:vs.length=n:=HP1.out.ps.sl.1;have hol:outer.length=no:=HP1.out.out.1;rw [List.length_map,hvl] at hl2;have HSM:=hide (sm_plan (outer:=outer) (ps:=vs.map Pv.pc) (fun p hp=>good_mem ho2.2.2.2.1 hp) (fun x hx=>by
   obtain ⟨v,hvv,rfl⟩:=List.mem_map.1 hx;have hs:=normed_sound (hv v hvv);have hk:=HP1.out.ps.ok v hvv;exact ⟨fun p hp=>good_mem hs.2.2.2.1 hp,hk.id,hk.own⟩))
  obtain ⟨JJ,hJ⟩:∃ JJ,planJ outer (vs.map Pv.pc)=JJ:=⟨_,rfl⟩;rw [hJ] at HSM ⊢;obtain ⟨E,hE⟩:∃ E,prE JJ=E:=⟨_,rfl⟩;obtain ⟨R,hR⟩:∃ R,prR JJ=R:=⟨_,rfl⟩;rw [hE,hR];have HE:=hide hE;have HR:=hide hR;unfold planJ at hJ;have HJJ:=hide hJ;clear hJ hE hR;have HV:=hide hv;have HVL:=hide hvl;have HO2:=hide ho2;have hno3:3≤no∧no≤128:=by omega
  have hn64:=hl2.2;have hn1:=hl2.1;clear hpb hl ho hv hl2 ho2 hvl hol
  go_enter Tryz.func10,Tryz.ntmps10
  go_upto_region 1 with fail
  rw [HW1.out];go_wp2_with (go_at_call 23;go_loud (refine (HCK.out w1 HP1.out).mono ?_);rintro e wc ⟨rfl,hb2⟩;have HB2:=hide hb2;have hk2:=HK1.out.below hb2 HK1.out.lt;have HK2:=hide hk2;have HP2:=hide (HP1.out.later hb2);have HT2:=hide (HT1.out.below hb2);clear kc fc zc;have kc:=hk2.cell;have fc:=hk2.frozen;have zc:=hk2.lt;clear hb2 hk2)
  clear kc fc zc
  go_loopw [4,13] (fun v4 v13 wr=>∃ (k:Nat) (A5:Option Addr) (c5:Nat),v13=.int .i64 (k:Int)∧k≤n∧v4=.slice A5 k c5∧Hid (GrJ wc.heap.size wc wr (.slice A5 k c5) (((vs.map Pv.pc).take k).map featJ))) (fun _ v _=>n - (intOf v).toNat)
  case atStart=>exact ⟨0,none,0,rfl,by omega,rfl,hide (GrJ.nil wc (Below.refl wc.heap.size wc) (Nat.le_refl _))⟩
  case round=>
   obtain ⟨k,A5,c5,rfl,hkn,rfl,HI⟩:=hrel;by_cases hlt:k<n
   ·have hltI:(k:Int)<n:=by omega
    have hkv:k<vs.length:=by rw [HVL.out];exact hlt
    obtain ⟨b,o,hA,hb,hcs⟩:=HP2.out.ps.at (show 0<n by omega);simp only at hA;subst hA;obtain ⟨c0,c1,c2⟩:=hcs k hkv;have hok:=HP2.out.ps.ok _ (List.getElem_mem hkv);have hnd:=normed_sound (HV.out _ (List.getElem_mem hkv));have hk2:k<(vs.map Pv.pc).length:=by simpa using hkv
    have hTK:=List.take_succ_eq_append_getElem hk2;have hpk:(vs.map Pv.pc)[k]=vs[k].pc:=by simp
    obtain ⟨v,hv⟩:∃ v,vs[k]=v:=⟨_,rfl⟩;rw [hv] at c0 c1 c2 hok hnd hpk;rw [hpk] at hTK;obtain ⟨⟨id,ring,owner⟩,Av,nv,cv⟩:=v;simp only at c0 c1 c2 hok hnd hTK;obtain ⟨ol,hol⟩:∃ q,owner.data.toList=q:=⟨_,rfl⟩;have HOL:=hide (show (⟨ol.toArray⟩:ByteArray)=owner from by rw [← hol]);obtain ⟨J,hJ⟩:∃ q,featJ ⟨id,ring,owner⟩=q:=⟨_,rfl⟩;have HTK:=hide (show ((vs.map Pv.pc).take (k+1)).map featJ=((vs.map Pv.pc).take k).map featJ++[J] from by rw [hTK,List.map_append,← hJ];rfl);unfold featJ at hJ;simp only at hJ;rw [hol] at hJ;have HJ:=hide hJ;have hid:=hok.id;have HPR0:=hide hok.pr;have hcv:nv≤cv∧cv≤maxLen:=⟨hok.cap,hok.cmax⟩;have hrl:ring.length=nv:=hok.pr.1;have hnv:1≤nv∧nv≤1000:=by omega
    have HGD:=hide hnd.2.2.2.1;simp only at hid;have c0:=(HI.out.bel.cell (p:=⟨b,o+k * 3,none⟩) hb).trans c0;have c1:=(HI.out.bel.cell (p:=⟨b,o+k * 3+1,none⟩) hb).trans c1;have c2:=(HI.out.bel.cell (p:=⟨b,o+k * 3+2,none⟩) hb).trans c2;have hbr:b<wr.heap.size:=nLl hb HI.out.bel.size;obtain ⟨wr2,hwr2⟩:∃ q,wr.alloc (.cells #[.int .i64 id,.slice Av nv cv,.string owner] 43)=q:=⟨_,rfl⟩;have hbx:Below wr.heap.size wr wr2:=hwr2 ▸ bal bR _;have HBX:=hide (show Blk wr2 wr.heap.size 43 #[.int .i64 id,.slice Av nv cv,.string owner] from hwr2 ▸ Blk.new _ _ _);have HG2:=hide (HI.out.below hbx);have HBW:=hide (show Below wc.heap.size wc wr2 from HI.out.bel.trans (hbx.mono HI.out.bel.size));have HT3:=hide (HT2.out.below HBW.out);have HPR:=hide (show PR wr2 wr2.heap.size Av nv ring from (HPR0.out.below HBW.out).more HBW.out.size);obtain ⟨xs,hxo,hxl⟩:=HG2.out.row;have hll:(((vs.map Pv.pc).take k).map featJ).length=k:=by rw [List.length_map,List.length_take];omega
    rw [hll] at hxo;have HXO:=hide hxo;have HXL:=hide hxl;have HLL:=hide hll;have HW2:=hide hwr2;clear hcs hv hTK hpk hJ hol hok hnd hwr2 hbx hxo hxl hll hrl HPR0;go_upto_region 7 with fail
    rw [HW2.out];refine wp_region_dagO (by kernel_rfl) (by kernel_rfl) 54 1
     [⟨some 17,[0,1],[],[],[],[],fun _ _ v _=>v=.slice A5 k c5⟩,
      ⟨some 18,[0],[],[],[],[],fun st a v w'=>st=0→VAt wr2.heap.size w' (textJ kFeature) v⟩,
      ⟨some 19,[0],[],[],[1],[],fun st a v w'=>st=0→PAt wr2.heap.size w' kType (textJ kFeature) v⟩,
      ⟨some 20,[0,1],[],[],[],[],fun _ _ v _=>v=.pointer (some ⟨wr.heap.size,0,none⟩)⟩,
      ⟨some 21,[0],[],[],[3],[],fun _ _ v _=>v=.int .i64 id⟩,
      ⟨some 22,[0],[],[],[4],[],fun st a v w'=>st=0→VAt wr2.heap.size w' (numJ id) v⟩,
      ⟨some 23,[0],[],[],[5],[],fun st a v w'=>st=0→PAt wr2.heap.size w' kId (numJ id) v⟩,
      ⟨some 24,[0,1],[],[],[],[],fun _ _ v _=>v=.pointer (some ⟨wr.heap.size,2,none⟩)⟩,
      ⟨some 25,[0],[],[],[7],[],fun _ _ v _=>v=.string owner⟩,
      ⟨some 26,[0],[],[],[8],[],fun st a v w'=>st=0→VAt wr2.heap.size w' (textJ ol) v⟩,
      ⟨some 27,[0],[],[],[9],[],fun st a v w'=>st=0→PAt wr2.heap.size w' kOwner (textJ ol) v⟩,
      ⟨some 28,[0],[],[],[10],[],fun st a v w'=>st=0→MAt wr2.heap.size w' [(kOwner,textJ ol)] v⟩,
      ⟨some 29,[0],[],[],[11],[],fun st a v w'=>st=0→VAt wr2.heap.size w' (objJ [(kOwner,textJ ol)]) v⟩,
      ⟨some 30,[0],[],[],[12],[],fun st a v w'=>st=0→PAt wr2.heap.size w' kProps (objJ [(kOwner,textJ ol)]) v⟩,
      ⟨some 31,[0,1],[],[],[],[],fun _ _ v _=>v=.pointer (some ⟨wr.heap.size,1,none⟩)⟩,
      ⟨some 32,[0],[],[],[14],[],fun _ _ v _=>v=.slice Av nv cv⟩,
      ⟨some 33,[0],[],[],[15],[],fun st a v w'=>st=0→VAt wr2.heap.size w' (polyJ ring) v⟩,
      ⟨some 34,[0],[],[],[16],[],fun st a v w'=>st=0→PAt wr2.heap.size w' kGeom (polyJ ring) v⟩,
      ⟨some 35,[0],[],[],[2,6,13,17],[],fun st a v w'=>st=0→MAt wr2.heap.size w' [(kType,textJ kFeature),(kId,numJ id),(kProps,objJ [(kOwner,textJ ol)]),(kGeom,polyJ ring)] v⟩,
      ⟨some 36,[0],[],[],[18],[],fun st a v w'=>st=0→VAt wr2.heap.size w' (objJ [(kType,textJ kFeature),(kId,numJ id),(kProps,objJ [(kOwner,textJ ol)]),(kGeom,polyJ ring)]) v⟩,
      ⟨some 37,[0],[],[],[19],[],fun st a v w'=>st=0→LAt wr2.heap.size w' [J] v⟩,
      ⟨some 38,[0],[(0,1)],[1],[0,20],[],fun st a v w'=>1≤st∧(∃ B d,v=.slice B (k+1) d)∧GrJ wc.heap.size wc w' v (((vs.map Pv.pc).take k).map featJ++[J])⟩,
      ⟨some 4,[1],[],[],[21],[],fun st a v w'=>1≤st∧(∃ B d,v=.slice B (k+1) d)∧GrJ wc.heap.size wc w' v (((vs.map Pv.pc).take k).map featJ++[J])⟩] (GS wc.heap.size wc wr2) (fun s s' _ _ _=>s=0∧s'=1) (fun _ w w'=>Below w.heap.size w w') ?gu ?ru ?put [17,18,19,20,21,22,23,24,25,26,27,28,29,30,31,32,33,34,35,36,37,38,4] rfl (by kernel_rfl) rfl ?g0 ?keep ?steps ?fin
    case ru=>
     intro e he s a v w w' hu hv;simp only [List.mem_cons,List.not_mem_nil,or_false] at he;rcases he with rfl|rfl|rfl|rfl|rfl|rfl|rfl|rfl|rfl|rfl|rfl|rfl|rfl|rfl|rfl|rfl|rfl|rfl|rfl|rfl|rfl|rfl|rfl
     all_goals first|exact hv|(intro h0;exact (hv h0).below hu)|(obtain ⟨h0,h1,h2⟩:=hv;exact ⟨h0,h1,h2.below hu⟩)
    case put=>
     intro e he s a d u v w hnd hv;simp only [List.mem_cons,List.not_mem_nil,or_false] at he;rcases he with rfl|rfl|rfl|rfl|rfl|rfl|rfl|rfl|rfl|rfl|rfl|rfl|rfl|rfl|rfl|rfl|rfl|rfl|rfl|rfl|rfl|rfl|rfl
     all_goals first|exact hv
    case keep=>
     intro e he s s' a v w w' hsl hm ht hv;simp only [List.mem_cons,List.not_mem_nil,or_false] at he;rcases he with rfl|rfl|rfl|rfl|rfl|rfl|rfl|rfl|rfl|rfl|rfl|rfl|rfl|rfl|rfl|rfl|rfl|rfl|rfl|rfl|rfl|rfl|rfl
     all_goals first|exact hv|(intro h3;exfalso;have:=ht.2;omega)|(exfalso;have:=hv.1;have:=ht.1;omega)
    case steps=>
     refine ⟨?_,?_,?_,?_,?_,?_,?_,?_,?_,?_,?_,?_,?_,?_,?_,?_,?_,?_,?_,?_,?_,?_,?_,trivial⟩
     ·intro st hst ac w3 hg hG hd ho K hK;dsimp only at hst hG hK;exact op_move _ rfl (hK _ _ bR (ho 22 _ rfl (by decide) (by kernel_rfl) 4 rfl))
     ·intro st hst ac w3 hg hG hd ho K hK;dsimp only at hst hG hK;simp only [List.mem_cons,List.not_mem_nil,or_false] at hst;subst hst;have HX:=hide (gtextV kFeature w3);clear hG;go_simp;(refine HX.out.mono ?_);rintro e w4 ⟨hb4,v,rfl,hv⟩;exact hK v w4 hb4 (fun _=>hv _)
     ·intro st hst ac w3 hg hG hd ho K hK;dsimp only at hst hG hK;simp only [List.mem_cons,List.not_mem_nil,or_false] at hst;subst hst;obtain ⟨k1,t1,a1,n1,d1,a2,n2,d2,e1,h1⟩:=hd 1 (by simp) _ rfl _ rfl rfl;have HH:=hide h1;clear hG h1;simp [Act.eval] at e1;go_simp;exact hK _ _ bR (fun _=>⟨_,_,_,_,_,_,_,_,rfl,HH.out⟩)
     ·intro st hst ac w3 hg hG hd ho K hK;dsimp only at hst hG hK;have k6:=hg.kp 6 (by simp);(try simp [Act.eval] at k6);go_simp;exact hK _ _ bR rfl
     ·intro st hst ac w3 hg hG hd ho K hK;dsimp only at hst hG hK;simp only [List.mem_cons,List.not_mem_nil,or_false] at hst;subst hst;have kb:=HBX.out.below (hG.2.2 rfl) HBX.out.lt;have kk:=kb.cell;have zz:=kb.lt;clear hG kb;have f3:=hd 3 (by simp) _ rfl _ rfl;(try simp [Act.eval] at f3);go_simp;exact hK _ _ bR rfl
     ·intro st hst ac w3 hg hG hd ho K hK;dsimp only at hst hG hK;simp only [List.mem_cons,List.not_mem_nil,or_false] at hst;subst hst;have f:=hd 4 (by simp) _ rfl _ rfl;have HX:=hide (gnumberV id w3 hid.1 hid.2 (HT3.out.below (hG.2.2 rfl)));simp [Act.eval] at f;clear hG;go_simp;(refine HX.out.mono ?_);rintro e w4 ⟨hb4,v,rfl,hv⟩;exact hK v w4 hb4 (fun _=>hv _)
     ·intro st hst ac w3 hg hG hd ho K hK;dsimp only at hst hG hK;simp only [List.mem_cons,List.not_mem_nil,or_false] at hst;subst hst;obtain ⟨k1,t1,a1,n1,d1,a2,n2,d2,e1,h1⟩:=hd 5 (by simp) _ rfl _ rfl rfl;have HH:=hide h1;clear hG h1;simp [Act.eval] at e1;go_simp;exact hK _ _ bR (fun _=>⟨_,_,_,_,_,_,_,_,rfl,HH.out⟩)
     ·intro st hst ac w3 hg hG hd ho K hK;dsimp only at hst hG hK;have k6:=hg.kp 6 (by simp);(try simp [Act.eval] at k6);go_simp;exact hK _ _ bR rfl
     ·intro st hst ac w3 hg hG hd ho K hK;dsimp only at hst hG hK;simp only [List.mem_cons,List.not_mem_nil,or_false] at hst;subst hst;have kb:=HBX.out.below (hG.2.2 rfl) HBX.out.lt;have kk:=kb.cell;have zz:=kb.lt;clear hG kb;have f7:=hd 7 (by simp) _ rfl _ rfl;(try simp [Act.eval] at f7);go_simp;exact hK _ _ bR rfl
     ·intro st hst ac w3 hg hG hd ho K hK;dsimp only at hst hG hK;simp only [List.mem_cons,List.not_mem_nil,or_false] at hst;subst hst;have f:=hd 8 (by simp) _ rfl _ rfl;have HX:=hide (gtextV ol w3);rw [HOL.out] at HX;simp [Act.eval] at f;clear hG;go_simp;(refine HX.out.mono ?_);rintro e w4 ⟨hb4,v,rfl,hv⟩;exact hK v w4 hb4 (fun _=>hv _)
     ·intro st hst ac w3 hg hG hd ho K hK;dsimp only at hst hG hK;simp only [List.mem_cons,List.not_mem_nil,or_false] at hst;subst hst;obtain ⟨k1,t1,a1,n1,d1,a2,n2,d2,e1,h1⟩:=hd 9 (by simp) _ rfl _ rfl rfl;have HH:=hide h1;clear hG h1;simp [Act.eval] at e1;go_simp;exact hK _ _ bR (fun _=>⟨_,_,_,_,_,_,_,_,rfl,HH.out⟩)
     ·intro st hst ac w3 hg hG hd ho K hK;dsimp only at hst hG hK;simp only [List.mem_cons,List.not_mem_nil,or_false] at hst;subst hst;obtain ⟨k1,t1,a1,n1,d1,a2,n2,d2,e1,h1⟩:=hd 10 (by simp) _ rfl _ rfl rfl;have HH:=hide h1;clear hG h1;simp [Act.eval] at e1;go_simp;exact hK _ _ (al_below w3 _) (fun _=>MAt.one kOwner HH.out)
     ·intro st hst ac w3 hg hG hd ho K hK;dsimp only at hst hG hK;simp only [List.mem_cons,List.not_mem_nil,or_false] at hst;subst hst;have g:=hd 11 (by simp) _ rfl _ rfl rfl;obtain ⟨v,hv⟩:∃ v,ac.eval (.tmp 28)=v:=⟨_,rfl⟩;rw [hv] at g;have HX:=hide (gobjectV g (by simp) (hG.2.2 rfl).size);simp [Act.eval] at hv;clear hG;go_simp;(refine HX.out.mono ?_);rintro e w4 ⟨hb4,v,rfl,hv⟩;exact hK v w4 hb4 (fun _=>hv)
     ·intro st hst ac w3 hg hG hd ho K hK;dsimp only at hst hG hK;simp only [List.mem_cons,List.not_mem_nil,or_false] at hst;subst hst;obtain ⟨k1,t1,a1,n1,d1,a2,n2,d2,e1,h1⟩:=hd 12 (by simp) _ rfl _ rfl rfl;have HH:=hide h1;clear hG h1;simp [Act.eval] at e1;go_simp;exact hK _ _ bR (fun _=>⟨_,_,_,_,_,_,_,_,rfl,HH.out⟩)
     ·intro st hst ac w3 hg hG hd ho K hK;dsimp only at hst hG hK;have k6:=hg.kp 6 (by simp);(try simp [Act.eval] at k6);go_simp;exact hK _ _ bR rfl
     ·intro st hst ac w3 hg hG hd ho K hK;dsimp only at hst hG hK;simp only [List.mem_cons,List.not_mem_nil,or_false] at hst;subst hst;have kb:=HBX.out.below (hG.2.2 rfl) HBX.out.lt;have kk:=kb.cell;have zz:=kb.lt;clear hG kb;have f14:=hd 14 (by simp) _ rfl _ rfl;(try simp [Act.eval] at f14);go_simp;exact hK _ _ bR rfl
     ·intro st hst ac w3 hg hG hd ho K hK;dsimp only at hst hG hK;simp only [List.mem_cons,List.not_mem_nil,or_false] at hst;subst hst;have f:=hd 15 (by simp) _ rfl _ rfl;have HX:=hide (gpolygon_any ring Av nv cv w3 (HPR.out.later (hG.2.2 rfl)) hnv.1 hnv.2 hcv.1 hcv.2 HGD.out (HT3.out.below (hG.2.2 rfl)));have HM:=hide (hG.2.2 rfl).size;simp [Act.eval] at f;clear hG;go_simp;(refine HX.out.mono ?_);rintro e w4 ⟨hb4,v,rfl,hv⟩;exact hK v w4 hb4 (fun _=>hv.low HM.out)
     ·intro st hst ac w3 hg hG hd ho K hK;dsimp only at hst hG hK;simp only [List.mem_cons,List.not_mem_nil,or_false] at hst;subst hst;obtain ⟨k1,t1,a1,n1,d1,a2,n2,d2,e1,h1⟩:=hd 16 (by simp) _ rfl _ rfl rfl;have HH:=hide h1;clear hG h1;simp [Act.eval] at e1;go_simp;exact hK _ _ bR (fun _=>⟨_,_,_,_,_,_,_,_,rfl,HH.out⟩)
     ·intro st hst ac w3 hg hG hd ho K hK;dsimp only at hst hG hK;simp only [List.mem_cons,List.not_mem_nil,or_false] at hst;subst hst;obtain ⟨k1,t1,a1,n1,d1,a2,n2,d2,e1,h1⟩:=hd 2 (by simp) _ rfl _ rfl rfl;obtain ⟨k3,t3,a3,n3,d3,a4,n4,d4,e3,h3⟩:=hd 6 (by simp) _ rfl _ rfl rfl;obtain ⟨k5,t5,a5,n5,d5,a6,n6,d6,e5,h5⟩:=hd 13 (by simp) _ rfl _ rfl rfl;obtain ⟨k7,t7,a7,n7,d7,a8,n8,d8,e7,h7⟩:=hd 17 (by simp) _ rfl _ rfl rfl;have H1:=hide h1;have H3:=hide h3;have H5:=hide h5;have H7:=hide h7;clear hG h1 h3 h5 h7;simp [Act.eval] at e1 e3 e5 e7;go_simp;exact hK _ _ (al_below w3 _) (fun _=>MAt.four kType kId kProps kGeom H1.out H3.out H5.out H7.out)
     ·intro st hst ac w3 hg hG hd ho K hK;dsimp only at hst hG hK;simp only [List.mem_cons,List.not_mem_nil,or_false] at hst;subst hst;have g:=hd 18 (by simp) _ rfl _ rfl rfl;obtain ⟨v,hv⟩:∃ v,ac.eval (.tmp 35)=v:=⟨_,rfl⟩;rw [hv] at g;have HX:=hide (gobjectV g (by simp) (hG.2.2 rfl).size);simp [Act.eval] at hv;clear hG;go_simp;(refine HX.out.mono ?_);rintro e w4 ⟨hb4,v,rfl,hv⟩;exact hK v w4 hb4 (fun _=>hv)
     ·intro st hst ac w3 hg hG hd ho K hK;dsimp only at hst hG hK;simp only [List.mem_cons,List.not_mem_nil,or_false] at hst;subst hst;obtain ⟨k1,t1,a1,n1,d1,a2,n2,d2,e1,h1⟩:=hd 19 (by simp) _ rfl _ rfl rfl;have HB0:=hide (hG.2.2 rfl).size;have HH:=hide h1;clear hG h1;simp [Act.eval] at e1;go_simp;exact hK _ _ (al_below w3 _) (fun _=>HJ.out ▸ LAt.one HB0.out HH.out)
     ·intro st st' hmv ac w3 hg hG hd ho K hK;simp only [List.mem_cons,Prod.mk.injEq,List.not_mem_nil,or_false] at hmv;obtain ⟨rfl,rfl⟩:=hmv;dsimp only at hG hK;have f0:=hd 0 (by simp) _ rfl _ rfl;obtain ⟨A9,d9,xs9,f9,hc9,hr9,hl9⟩:=hd 20 (by simp) _ rfl _ rfl rfl;refine wp_append_any w3 (.tmp 17) (.tmp 37) 37 rfl wc.heap.size TV iv _ 4 72 Tryz.underlying37 hiv hvz0 hvz1 hvz2 rfl (by decide) (.slice A5 k c5) k xs f0 (own_later HXO.out (hG.2.2 rfl)) w3.heap.size A9 1 d9 xs9 f9 (hr9.keep (F':=fun j=>j<w3.heap.size) (fun _ _=>rfl) (fun j hj=>hj.2)) (vrdl_ones hl9) (by unfold maxLen;omega) (by omega) hG.2.1 ?_;intro v' w' ho hgb hoo;exact hK _ _ ⟨rfl,rfl⟩ ⟨hG.1.grown hgb hG.2.1 (fun k hk=>(HXO.out.lt k hk).1),Nat.le_trans hG.2.1 hgb.size,fun e=>by omega⟩ ⟨Nat.le_refl _,by obtain ⟨B,d,e,_⟩:=own_slice ho;exact ⟨B,d,e⟩,GrJ.push_ HG2.out HLL.out (hG.2.2 rfl) ⟨HXO.out,HXL.out⟩ hl9 ho hgb hoo⟩
     ·intro st hst ac w3 hg hG hd ho K hK;dsimp only at hst hG hK;exact op_assign _ rfl (hK _ _ bR (hd 21 (by simp) _ rfl _ rfl))
    case gu=>intro s w1 w2 hG hu;exact ⟨hG.1.trans (hu.mono hG.2.1),Nat.le_trans hG.2.1 hu.size,fun e=>(hG.2.2 e).trans (hu.mono (hG.2.2 e).size)⟩
    case g0=>exact ⟨HG2.out.bel.drew,HG2.out.le,fun _=>bR.drew⟩
    case fin=>
     intro f9 w9 hG hall;obtain ⟨_,⟨B9,d9,h9⟩,hch⟩:=hall _ (List.mem_of_getElem? (i:=22) rfl) 4 rfl;clear hall hG;simp only [fillF,List.map_cons,List.map_nil,List.foldl_cons,List.foldl_nil,Act.put,List.setIfInBounds_toArray,List.set_cons_zero,List.set_cons_succ];rw [h9] at hch ⊢;have HCH:=hide hch;clear hch h9;go_wp2_with fail
     refine ⟨⟨k+1,B9,d9,by go_num,by omega,rfl,hide (by rw [HTK.out];exact HCH.out)⟩,?_⟩;simp [intOf];omega
   ·have hltI:¬ (k:Int)<n:=by omega
    obtain rfl:k=n:=by omega
    have hlat:=HI.out.lat;rw [List.take_of_length_le (by rw [List.length_map,HVL.out];exact Nat.le_refl _)] at hlat;have HLAT:=hide hlat;have HBR:=hide HI.out.bel;have HKP:=hide (HK2.out.below HBR.out (nLl HK1.out.lt HB2.out.size));have HPO:=hide (show PR wr wr.heap.size Ao no outer from (HP2.out.later HBR.out).out);have hoc:no≤co:=HP2.out.ocap;have hocm:co≤maxLen:=HP2.out.ocm;have HTR:=hide (HT2.out.below HBR.out);clear hlat HI;go_upto_region 9 with fail
    refine wp_region_dag (by kernel_rfl) (by kernel_rfl) 54 0
     [⟨some 40,[0],[],[],[],[],fun st a v w'=>VAt wc.heap.size w' (textJ kColl) v⟩,
      ⟨some 41,[0],[],[],[0],[],fun st a v w'=>PAt wc.heap.size w' kType (textJ kColl) v⟩,
      ⟨some 42,[0],[],[],[],[],fun _ _ v _=>v=.pointer (some ⟨w.heap.size,0,none⟩)⟩,
      ⟨some 43,[0],[],[],[2],[],fun _ _ v _=>v=.slice Ao no co⟩,
      ⟨some 44,[0],[],[],[3],[],fun st a v w'=>VAt wc.heap.size w' (polyJ outer) v⟩,
      ⟨some 45,[0],[],[],[4],[],fun st a v w'=>PAt wc.heap.size w' kTerr (polyJ outer) v⟩,
      ⟨some 46,[0],[],[],[],[],fun _ _ v _=>v=.slice A5 k c5⟩,
      ⟨some 47,[0],[],[],[6],[],fun st a v w'=>VAt wc.heap.size w' (arrJ ((vs.map Pv.pc).map featJ)) v⟩,
      ⟨some 48,[0],[],[],[7],[],fun st a v w'=>PAt wc.heap.size w' kFeats (arrJ ((vs.map Pv.pc).map featJ)) v⟩,
      ⟨some 49,[0],[],[],[1,5,8],[],fun st a v w'=>MAt wc.heap.size w' [(kType,textJ kColl),(kTerr,polyJ outer),(kFeats,arrJ ((vs.map Pv.pc).map featJ))] v⟩,
      ⟨some 50,[0],[],[],[9],[],fun st a v w'=>VAt wc.heap.size w' JJ v⟩,
      ⟨some 51,[0],[],[],[10],[],fun st a v w'=>∃ A n c,v=.tuple #[.slice A n c,.int .i64 (E:Int)]∧PrO w' R A n c⟩,
      ⟨some 52,[0],[],[],[11],[],fun st a v w'=>∃ A n c,v=.slice A n c∧PrO w' R A n c⟩,
      ⟨some 53,[0],[],[],[11],[],fun _ _ v _=>v=.int .i64 (E:Int)⟩,
      ⟨some 2,[0],[],[],[12],[],fun st a v w'=>∃ A n c,v=.slice A n c∧PrO w' R A n c⟩,
      ⟨some 3,[0],[],[],[13],[],fun _ _ v _=>v=.int .i64 (E:Int)⟩] (fun _ w'=>Below wr.heap.size wr w') (fun _ _ _ _ _=>False) (fun _ w w'=>Below w.heap.size w w') ?gu ?ru ?put [40,41,42,43,44,45,46,47,48,49,50,51,52,53,2,3] rfl (by kernel_rfl) rfl ?g0 ?keep ?steps ?fin
    case ru=>
     intro e he s a v w w' hu hv;simp only [List.mem_cons,List.not_mem_nil,or_false] at he;rcases he with rfl|rfl|rfl|rfl|rfl|rfl|rfl|rfl|rfl|rfl|rfl|rfl|rfl|rfl|rfl|rfl
     all_goals first|exact hv|exact hv.below hu|(obtain ⟨A9,n9,c9,e9,hq⟩:=hv;exact ⟨A9,n9,c9,e9,hq.below hu⟩)
    case put=>
     intro e he s a d u v w hnd hv;simp only [List.mem_cons,List.not_mem_nil,or_false] at he;rcases he with rfl|rfl|rfl|rfl|rfl|rfl|rfl|rfl|rfl|rfl|rfl|rfl|rfl|rfl|rfl|rfl
     all_goals first|exact hv
    case keep=>
     intro e he s s' a v w w' hsl hm ht hv;simp only [List.mem_cons,List.not_mem_nil,or_false] at he;rcases he with rfl|rfl|rfl|rfl|rfl|rfl|rfl|rfl|rfl|rfl|rfl|rfl|rfl|rfl|rfl|rfl
     all_goals first|exact hv|exact ht.elim
    case steps=>
     refine ⟨?_,?_,?_,?_,?_,?_,?_,?_,?_,?_,?_,?_,?_,?_,?_,?_,trivial⟩
     ·intro st hst ac w3 hg hG hd K hK;dsimp only at hst hG hK;have HX:=hide (gtextV kColl w3);clear hG;go_simp;(refine HX.out.mono ?_);rintro e w4 ⟨hb4,v,rfl,hv⟩;exact hK v w4 hb4 (hv _)
     ·intro st hst ac w3 hg hG hd K hK;dsimp only at hst hG hK;obtain ⟨k1,t1,a1,n1,d1,a2,n2,d2,e1,h1⟩:=hd 0 (by simp) _ rfl _ rfl;have HH:=hide h1;clear hG h1;simp [Act.eval] at e1;go_simp;exact hK _ _ bR ⟨_,_,_,_,_,_,_,_,rfl,HH.out⟩
     ·intro st hst ac w3 hg hG hd K hK;dsimp only at hst hG hK;have k1:=hg.kp 1 (by simp);(try simp [Act.eval] at k1);go_simp;exact hK _ _ bR rfl
     ·intro st hst ac w3 hg hG hd K hK;dsimp only at hst hG hK;have kb:=HKP.out.below hG HKP.out.lt;have kk:=kb.cell;have zz:=kb.lt;clear hG kb;have f2:=hd 2 (by simp) _ rfl _ rfl;(try simp [Act.eval] at f2);go_simp;exact hK _ _ bR rfl
     ·intro st hst ac w3 hg hG hd K hK;dsimp only at hst hG hK;have f:=hd 3 (by simp) _ rfl _ rfl;have HX:=hide (gpolygon_any outer Ao no co w3 (HPO.out.later hG) (by omega) (by omega) hoc hocm HO2.out.2.2.2.1 (HTR.out.below hG));have HM:=hide (Nat.le_trans HBR.out.size hG.size);simp [Act.eval] at f;clear hG;go_simp;(refine HX.out.mono ?_);rintro e w4 ⟨hb4,v,rfl,hv⟩;exact hK v w4 hb4 (hv.low HM.out)
     ·intro st hst ac w3 hg hG hd K hK;dsimp only at hst hG hK;obtain ⟨k1,t1,a1,n1,d1,a2,n2,d2,e1,h1⟩:=hd 4 (by simp) _ rfl _ rfl;have HH:=hide h1;clear hG h1;simp [Act.eval] at e1;go_simp;exact hK _ _ bR ⟨_,_,_,_,_,_,_,_,rfl,HH.out⟩
     ·intro st hst ac w3 hg hG hd K hK;dsimp only at hst hG hK;exact op_move _ rfl (hK _ _ bR (hg.kp 4 (by simp)))
     ·intro st hst ac w3 hg hG hd K hK;dsimp only at hst hG hK;have f:=hd 6 (by simp) _ rfl _ rfl;have HX:=hide (garrayV (HLAT.out.below hG));simp [Act.eval] at f;clear hG;go_simp;(refine HX.out.mono ?_);rintro e w4 ⟨hb4,v,rfl,hv⟩;exact hK v w4 hb4 hv
     ·intro st hst ac w3 hg hG hd K hK;dsimp only at hst hG hK;obtain ⟨k1,t1,a1,n1,d1,a2,n2,d2,e1,h1⟩:=hd 7 (by simp) _ rfl _ rfl;have HH:=hide h1;clear hG h1;simp [Act.eval] at e1;go_simp;exact hK _ _ bR ⟨_,_,_,_,_,_,_,_,rfl,HH.out⟩
     ·intro st hst ac w3 hg hG hd K hK;dsimp only at hst hG hK;obtain ⟨k1,t1,a1,n1,d1,a2,n2,d2,e1,h1⟩:=hd 1 (by simp) _ rfl _ rfl;obtain ⟨k3,t3,a3,n3,d3,a4,n4,d4,e3,h3⟩:=hd 5 (by simp) _ rfl _ rfl;obtain ⟨k5,t5,a5,n5,d5,a6,n6,d6,e5,h5⟩:=hd 8 (by simp) _ rfl _ rfl;have H1:=hide h1;have H3:=hide h3;have H5:=hide h5;clear hG h1 h3 h5;simp [Act.eval] at e1 e3 e5;go_simp;exact hK _ _ (al_below w3 _) (MAt.three kType kTerr kFeats H1.out H3.out H5.out)
     ·intro st hst ac w3 hg hG hd K hK;dsimp only at hst hG hK;have g:=hd 9 (by simp) _ rfl _ rfl;obtain ⟨v,hv⟩:∃ v,ac.eval (.tmp 49)=v:=⟨_,rfl⟩;rw [hv] at g;have HX:=hide (gobjectV g (by simp) (Nat.le_trans HBR.out.size hG.size));simp [Act.eval] at hv;clear hG;go_simp;(refine HX.out.mono ?_);rintro e w4 ⟨hb4,v,rfl,hv⟩;exact hK v w4 hb4 (HJJ.out ▸ hv)
     ·intro st hst ac w3 hg hG hd K hK;dsimp only at hst hG hK;obtain ⟨k1,t1,a1,n1,d1,a2,n2,d2,e1,h1⟩:=hd 10 (by simp) _ rfl _ rfl;have HX:=hide (print_any HSM.out (HTR.out.below hG).tabs h1);clear hG h1;simp [Act.eval] at e1;go_simp;(refine HX.out.mono ?_);rintro e w4 ⟨hb4,A9,n9,c9,rfl,q1,q2,q3⟩;exact hK _ w4 hb4 ⟨A9,n9,c9,by rw [HE.out],q1,q2,by rw [← HR.out];exact q3⟩
     ·intro st hst ac w3 hg hG hd K hK;dsimp only at hst hG hK;obtain ⟨A9,n9,c9,e9,hq⟩:=hd 11 (by simp) _ rfl _ rfl;have HQ:=hide hq;clear hG hq;simp [Act.eval] at e9;go_simp;exact hK _ _ bR ⟨A9,n9,c9,rfl,HQ.out⟩
     ·intro st hst ac w3 hg hG hd K hK;dsimp only at hst hG hK;obtain ⟨A9,n9,c9,e9,hq⟩:=hd 11 (by simp) _ rfl _ rfl;clear hG hq;simp [Act.eval] at e9;go_simp;exact hK _ _ bR rfl
     ·intro st hst ac w3 hg hG hd K hK;dsimp only at hst hG hK;exact op_assign _ rfl (hK _ _ bR (hd 12 (by simp) _ rfl _ rfl))
     ·intro st hst ac w3 hg hG hd K hK;dsimp only at hst hG hK;exact op_assign _ rfl (hK _ _ bR (hd 13 (by simp) _ rfl _ rfl))
    case gu=>intro s w1 w2 hG hu;exact hG.trans (hu.mono hG.size)
    case g0=>exact bR.drew
    case fin=>
     intro f9 w9 hG hall;obtain ⟨A9,n9,c9,h9,hq⟩:=hall _ (List.mem_of_getElem? (i:=14) rfl) 2 rfl;have h3:=hall _ (List.mem_of_getElem? (i:=15) rfl) 3 rfl;clear hall;have HQ:=hide hq;have HG9:=hide hG;clear hq hG;simp only [fillF,List.map_cons,List.map_nil,List.foldl_cons,List.foldl_nil,Act.put,List.setIfInBounds_toArray,List.set_cons_zero,List.set_cons_succ];rw [h9,h3];go_wp2_with fail
     go_ret2
     exact ⟨btr (btr (btr HB1.out HB2.out) HBR.out) HG9.out,A9,n9,c9,rfl,HQ.out.1,HQ.out.2.1,HQ.out.2.2⟩
theorem dg_fin:∀ i:Fin 10,isDg (UInt8.ofNat (48+i.val))=true∧((UInt8.ofNat (48+i.val)).toNat=48→i.val=0):=by decide +kernel
theorem dg_of {i:Nat} (h:i<10):isDg (UInt8.ofNat (48+i))=true∧((UInt8.ofNat (48+i)).toNat=48→i=0):=dg_fin ⟨i,h⟩
theorem dec_head:∀ (k u:Nat),u≤k → ∃ c t,Lib.decDigits u=c :: t∧isDg c=true∧(∀ x∈t,isDg x=true)∧(c.toNat=48→t=[]∧u=0)
 | k,u,hk=>by
   rw [Lib.decDigits];by_cases h:u<10
   ·rw [dif_pos h];exact ⟨_,[],rfl,(dg_of h).1,by simp,fun e=>⟨rfl,(dg_of h).2 e⟩⟩
   ·rw [dif_neg h]
    match k,hk with
    | 0,hk=>omega
    | k+1,hk=>
      obtain ⟨c,t,e,h1,h2,h3⟩:=dec_head k (u / 10) (by omega);rw [e];refine ⟨c,t++[UInt8.ofNat (48+u % 10)],rfl,h1,fun x hx=>?_,fun e48=>?_⟩
      ·rcases List.mem_append.1 hx with hx|hx
       ·exact h2 x hx
       ·rw [List.mem_singleton] at hx;subst hx;exact (dg_of (Nat.mod_lt _ (by omega))).1
      ·have:=(h3 e48).2;omega
theorem run_all {l:L8} (h:∀ x∈l,isDg x=true):runDg l=l.length:=by
 unfold runDg;congr 1
 induction l with
 | nil=>rfl
 | cons c l ih=>rw [List.takeWhile_cons,h c (by simp),if_pos rfl,ih fun x hx=>h x (by simp [hx])]
theorem numL_dec {c:UInt8} {t:L8} (h1:isDg c=true) (h2:∀ x∈t,isDg x=true) (h3:c.toNat=48→t=[]) :
 nD (c :: t)=some (t.length+1)∧nI (c :: t)=0:=by
 have hc:isDg c=true:=h1;constructor
 ·unfold nD;by_cases h:isS (c :: t) [48]=true
  ·rw [if_pos h];have:c.toNat=48:=by
    have:c=48:=by simpa [isS] using h
    rw [this];rfl
   rw [h3 this];rfl
  ·rw [if_neg h,if_pos (show digS (c :: t)=true from hc),run_all (by intro x hx;rcases List.mem_cons.1 hx with rfl|hx;exact h1;exact h2 x hx)];rfl
 ·unfold nI;rw [if_neg];intro h;have:c=45:=by simpa [isS] using h
  subst this
  revert h1
  decide
theorem numL_itoa (n:Int):numL (Lib.itoa n)=some (Lib.itoa n).length ∧ ∃ c t,Lib.itoa n=c :: t∧(isDg c=true∨c=45):=by
 unfold Lib.itoa;by_cases h:n<0
 ·rw [if_pos h];obtain ⟨c,t,e,h1,h2,h3⟩:=dec_head _ n.natAbs (Nat.le_refl _);have hd:=(numL_dec h1 h2 fun e=>(h3 e).1).1;refine ⟨?_,45,_,rfl,.inr rfl⟩;rw [e];unfold numL;have:nI (45 :: c :: t)=1:=rfl;rw [this];simp only [List.drop_succ_cons,List.drop_zero];rw [hd];have h0:(45 :: c :: t).drop (1+(t.length+1))=([]:L8):=List.drop_of_length_le (by simp;omega);simp only [h0,show nF []=some 0 from rfl,Nat.add_zero,show nE []=some 0 from rfl,show nX []=false from rfl];simp;omega
 ·rw [if_neg h];obtain ⟨c,t,e,h1,h2,h3⟩:=dec_head _ n.toNat (Nat.le_refl _);have hd:=numL_dec h1 h2 fun e=>(h3 e).1
  refine ⟨?_,c,t,e,.inl h1⟩;rw [e];unfold numL;rw [hd.2];simp only [List.drop_zero];rw [hd.1];simp only;rw [show (c :: t).drop (0+(t.length+1))=([]:L8) from List.drop_of_length_le (by simp)];simp [nF,isS,nE,nX,digS]
theorem first_dg:∀ c:UInt8,isDg c=true∨c=45→blL.contains c=false∧sgL.contains c=false∧c.toNat≠34∧(isDg c||decide (c.toNat=45))=true:=fun c=>u8_all (fun c=>isDg c=true∨c=45→blL.contains c=false∧sgL.contains c=false∧c.toNat≠34∧(isDg c||decide (c.toNat=45))=true) (by decide +kernel) c
theorem numOk_itoa {n:Int} (h0:-9223372036854775808≤n) (h1:n≤9223372036854775807):numOk (Lib.itoa n)=true:=by
 obtain ⟨hl,c,t,e,hc⟩:=numL_itoa n;have hlen:=Lib.itoa_length_le n h0 h1;obtain ⟨l,hl0⟩:∃ l,Lib.itoa n=l:=⟨_,rfl⟩;rw [hl0] at hl e hlen ⊢;obtain ⟨f1,f2,f3,f4⟩:=first_dg c hc;have hb:blS l=0:=by rw [e];unfold blS;rw [List.takeWhile_cons,f1];rfl
 have hlx:lexS l=some (4,l,l.length):=by
  rw [e] at hl ⊢;unfold lexS;simp only [f2,Bool.false_eq_true,if_false,f3,f4,if_true];rw [hl];simp
 have hn:nextS l=.ok ⟨4,l,l,[]⟩:=by
  unfold nextS;rw [hb,List.drop_zero,hlx];simp
 have hn0:nextS []=.ok ⟨0,[],[],[]⟩:=rfl;have hp:parseS l=.ok (.mk 4 l [] []):=by
  unfold parseS;rw [if_neg (by omega),hn];show ((valF (3 * l.length+4) 0 ⟨4,l,l,[]⟩).bind _)=_;rw [show 3 * l.length+4=(3 * l.length+3)+1 from rfl];unfold valF;simp only;rw [if_pos (by omega),hn0];simp [Got.bind]
 unfold numOk;rw [hp];simp [gotE,gotJ,numIs]
theorem prL_map:∀ l:List JV,prL l=l.map prJ
 | []=>by unfold prL;rfl
 | a :: l=>by unfold prL;rw [prL_map l];rfl
theorem dpL_all (left:Nat):∀ l:List JV,dpL left l=l.all (dpJ left)
 | []=>by unfold dpL;rfl
 | a :: l=>by unfold dpL;rw [dpL_all left l];rfl
theorem itT_arr:∀ (b:Bool) (l:List L8),itT false b [] l=joinT b l
 | _,[]=>rfl
 | b,t :: l=>by
   unfold itT joinT;rw [show ([]:List L8).tail=[] from rfl,itT_arr false l];simp
theorem dp_num {n:Int} (h0:-9223372036854775808≤n) (h1:n≤9223372036854775807) (left:Nat):dpJ left (numJ n)=true:=by
 unfold numJ dpJ;simp [numOk_itoa h0 h1]
theorem dp_text {s:L8} (h:Lib.validD s=true) (left:Nat):dpJ left (textJ s)=true:=by
 unfold textJ dpJ;simp [h]
theorem dp_arr {l:List JV} {left:Nat} (h:∀ x∈l,dpJ left x=true):dpJ (left+1) (arrJ l)=true:=by
 unfold arrJ dpJ;simp [dpL_all];exact h
theorem dp_obj {l:List (L8 × JV)} {left:Nat} (h:∀ x∈l,Lib.validD x.1=true∧dpJ left x.2=true):dpJ (left+1) (objJ l)=true:=by
 unfold objJ dpJ;simp [dpL_all];exact ⟨fun a b hab=>(h _ hab).1,fun a b hab=>(h _ hab).2⟩
theorem valid_asc {l:L8} (h:∀ c∈l,c.toNat<128):Lib.validD l=true:=by
 rw [Lib.validD_ascii l.length l (by simpa using h),List.drop_length];rfl
theorem valid_key {l:L8} (h:(l.all fun c=>decide (c.toNat<128))=true):Lib.validD l=true:=valid_asc fun c hc=>by simpa using List.all_eq_true.1 h c hc
theorem dp_poly {r:List Pt} (h:goodAll r=true) (left:Nat):dpJ (left+4) (polyJ r)=true:=by
 unfold polyJ;refine dp_obj fun x hx=>?_
 simp only [List.mem_cons,List.not_mem_nil,or_false] at hx;rcases hx with rfl|rfl
 ·exact ⟨valid_key (l:=kType) (by decide),dp_text (valid_key (l:=kPolygon) (by decide)) _⟩
 ·refine ⟨valid_key (l:=kCoord) (by decide),dp_arr fun y hy=>?_⟩;simp only [List.mem_cons,List.not_mem_nil,or_false] at hy;subst hy;refine dp_arr fun y hy=>?_
  obtain ⟨p,hp,rfl⟩:=List.mem_map.1 hy;have hg:p.good:=by
   rcases List.mem_append.1 hp with hp|hp
   ·exact good_mem h hp
   ·exact good_mem h (List.mem_of_mem_take hp)
  unfold Pt.good at hg;unfold ptJ;refine dp_arr fun z hz=>?_
  simp only [List.mem_cons,List.not_mem_nil,or_false] at hz;rcases hz with rfl|rfl
  ·exact dp_num (by omega) (by omega) _
  ·exact dp_num (by omega) (by omega) _
def pcFine (x:Pc):Prop:=goodAll x.ring=true∧ownerB x.owner=true∧idB x.id=true
theorem owner_asc {s:ByteArray} (h:ownerB s=true):Lib.validD s.data.toList=true:=by
 unfold ownerB at h;simp only [Bool.and_eq_true,Bool.not_eq_true',List.any_eq_false] at h;refine valid_asc fun c hc=>?_
 have:=h.2 c hc;unfold badC at this;simp at this;omega
theorem dp_feat {x:Pc} (h:pcFine x) (left:Nat):dpJ (left+6) (featJ x)=true:=by
 obtain ⟨h1,h2,h3⟩:=h;unfold idB at h3;simp only [Bool.and_eq_true,decide_eq_true_eq] at h3;unfold featJ;refine dp_obj fun y hy=>?_
 simp only [List.mem_cons,List.not_mem_nil,or_false] at hy;rcases hy with rfl|rfl|rfl|rfl
 ·exact ⟨valid_key (l:=kType) (by decide),dp_text (valid_key (l:=kFeature) (by decide)) _⟩
 ·exact ⟨valid_key (l:=kId) (by decide),dp_num (by omega) (by omega) _⟩
 ·refine ⟨valid_key (l:=kProps) (by decide),dp_obj fun z hz=>?_⟩;simp only [List.mem_cons,List.not_mem_nil,or_false] at hz;subst hz;exact ⟨valid_key (l:=kOwner) (by decide),dp_text (owner_asc h2) _⟩
 ·exact ⟨valid_key (l:=kGeom) (by decide),dp_poly h1 _⟩
theorem dp_plan {outer:List Pt} {ps:List Pc} (h:goodAll outer=true) (hp:∀ x∈ps,pcFine x):dpJ 32 (planJ outer ps)=true:=by
 unfold planJ;refine dp_obj (left:=31) fun y hy=>?_
 simp only [List.mem_cons,List.not_mem_nil,or_false] at hy;rcases hy with rfl|rfl|rfl
 ·exact ⟨valid_key (l:=kType) (by decide),dp_text (valid_key (l:=kColl) (by decide)) _⟩
 ·exact ⟨valid_key (l:=kTerr) (by decide),dp_poly h 27⟩
 ·refine ⟨valid_key (l:=kFeats) (by decide),dp_arr (left:=30) fun z hz=>?_⟩;obtain ⟨x,hx,rfl⟩:=List.mem_map.1 hz;exact dp_feat (hp x hx) 24
def featH:L8:=[123,34,116,121,112,101,34,58,34,70,101,97,116,117,114,101,34,44,34,105,100,34,58]
def featP:L8:=[44,34,112,114,111,112,101,114,116,105,101,115,34,58,123,34,111,119,110,101,114,34,58]
def featG:L8:=[125,44,34,103,101,111,109,101,116,114,121,34,58]
def featT (x:Pc):L8:=featH++(Lib.itoa x.id++(featP++(quoteQ x.owner.data.toList++(featG++(polyT x.ring++[125])))))
def planH:L8:=[123,34,116,121,112,101,34,58,34,70,101,97,116,117,114,101,67,111,108,108,101,99,116,105,111,110,34,44,34,116,101,114,114,105,116,111,114,121,34,58]
def planF:L8:=[44,34,102,101,97,116,117,114,101,115,34,58,91]
def planT (outer:List Pt) (ps:List Pc):L8:=planH++(polyT outer++(planF++(joinT true (ps.map featT)++[93,125])))
theorem pr_num (n:Int):prJ (numJ n)=Lib.itoa n:=by unfold numJ prJ;rfl
theorem pr_text (s:L8):prJ (textJ s)=quoteL s:=by unfold textJ prJ;rfl
theorem pr_arr (l:List JV):prJ (arrJ l)=91 :: (joinT true (l.map prJ)++[93]):=by
 unfold arrJ prJ;rw [prL_map,itT_arr];rfl
theorem pr_obj (l:List (L8 × JV)):prJ (objJ l)=123 :: (itT true true (l.map (·.1)) ((l.map (·.2)).map prJ)++[125]):=by
 unfold objJ prJ;rw [prL_map];rfl
theorem pr_pt (p:Pt):prJ (ptJ p)=ptT p:=by
 unfold ptJ ptT;rw [pr_arr];simp [joinT,pr_num]
theorem q_keys:quoteL kType=[34,116,121,112,101,34]∧quoteL kPolygon=[34,80,111,108,121,103,111,110,34]∧quoteL kCoord=[34,99,111,111,114,100,105,110,97,116,101,115,34] ∧
 quoteL kFeature=[34,70,101,97,116,117,114,101,34]∧quoteL kId=[34,105,100,34]∧quoteL kOwner=[34,111,119,110,101,114,34]∧quoteL kProps=[34,112,114,111,112,101,114,116,105,101,115,34] ∧
 quoteL kGeom=[34,103,101,111,109,101,116,114,121,34]∧quoteL kColl=[34,70,101,97,116,117,114,101,67,111,108,108,101,99,116,105,111,110,34]∧quoteL kTerr=[34,116,101,114,114,105,116,111,114,121,34] ∧
 quoteL kFeats=[34,102,101,97,116,117,114,101,115,34]:=by decide +kernel
theorem pr_poly (r:List Pt):prJ (polyJ r)=polyT r:=by
 obtain ⟨q1,q2,q3,_⟩:=q_keys;unfold polyJ polyT;rw [pr_obj];simp only [List.map_cons,List.map_nil,pr_text,pr_arr,itT,List.headD_cons,List.tail_cons,q1,q2,q3,List.map_map,if_true,Bool.false_eq_true,if_false];rw [show (prJ ∘ ptJ)=ptT from funext pr_pt];simp [joinT,polyH]
theorem pr_feat {x:Pc} (h:ownerB x.owner=true):prJ (featJ x)=featT x:=by
 obtain ⟨q1,q2,q3,q4,q5,q6,q7,q8,_⟩:=q_keys;have ho:∀ c∈x.owner.data.toList,badC c=false:=by
  unfold ownerB at h;simp only [Bool.and_eq_true,Bool.not_eq_true',List.any_eq_false] at h;exact fun c hc=>by simpa using h.2 c hc
 unfold featJ featT;rw [pr_obj];simp only [List.map_cons,List.map_nil,pr_text,pr_num,pr_poly,pr_obj,itT,List.headD_cons,List.tail_cons,q1,q4,q5,q6,q7,q8,if_true,Bool.false_eq_true,if_false,quoteQ_eq ho];simp [featH,featP,featG]
theorem pr_plan {outer:List Pt} {ps:List Pc} (hp:∀ x∈ps,ownerB x.owner=true):prJ (planJ outer ps)=planT outer ps:=by
 obtain ⟨q1,q2,q3,q4,q5,q6,q7,q8,q9,q10,q11⟩:=q_keys;have hf:(ps.map featJ).map prJ=ps.map featT:=by rw [List.map_map];exact List.map_congr_left fun x hx=>pr_feat (hp x hx)
 unfold planJ planT;rw [pr_obj];simp only [List.map_cons,List.map_nil,pr_text,pr_poly,pr_arr,hf,itT,List.headD_cons,List.tail_cons,q1,q9,q10,q11,if_true,Bool.false_eq_true,if_false];simp [planH,planF]
def cs5 (f:Nat→Int):Array Value:=#[.int .u32 (f 0),.int .u32 (f 1),.int .u32 (f 2),.int .u32 (f 3),.int .u32 (f 4)]
def part (f:Nat→Int):Prop:=∀ i,0≤f i∧f i<4294967296
theorem cs5_get (f:Nat→Int) {k:Nat} (hk:k<5):(cs5 f)[k]? = some (.int .u32 (f k)):=by
 match k,hk with
 | 0,_=>rfl
 | 1,_=>rfl
 | 2,_=>rfl
 | 3,_=>rfl
 | 4,_=>rfl
theorem cs5_set (f:Nat→Int) {k:Nat} (hk:k<5) (v:Int):(cs5 f).setIfInBounds k (.int .u32 v)=cs5 (fun i=>if i=k then v else f i):=by
 match k,hk with
 | 0,_=>rfl
 | 1,_=>rfl
 | 2,_=>rfl
 | 3,_=>rfl
 | 4,_=>rfl
theorem cs5_congr {f g:Nat→Int} (h:∀ i,i<5→f i=g i):cs5 f=cs5 g:=by
 unfold cs5;rw [h 0 (by omega),h 1 (by omega),h 2 (by omega),h 3 (by omega),h 4 (by omega)]
def carry (A B:Nat→Int):Nat→Int
 | 0=>0
 | k+1=>(A k+B k+carry A B k) / 4294967296
def sumP (A B:Nat→Int) (k:Nat):Int:=(A k+B k+carry A B k) % 4294967296
theorem carry_01 {A B:Nat→Int} (hA:part A) (hB:part B):∀ k,0≤carry A B k∧carry A B k≤1
 | 0=>by unfold carry;omega
 | k+1=>by
   have:=carry_01 hA hB k;have:=hA k;have:=hB k;unfold carry;omega
abbrev lblk (f:Nat→Int):Obj:=Obj.cells (cs5 f) 139
theorem Blk.at5 {W:World} {g:Nat} {t:TypeId} {f:Nat→Int} (h:Blk W g t (cs5 f)) {k:Nat} (hk:k<5):W.cell? ⟨g,k,none⟩=some (.int .u32 (f k)):=by
 rw [Blk.cell h k];exact cs5_get f hk
def PlusI (w W:World) (A B:Nat→Int) (k:Nat):Prop:=Below w.heap.size w W∧Blk W w.heap.size 139 (cs5 A)∧Blk W (w.heap.size+1) 139 (cs5 B) ∧
 Blk W (w.heap.size+1+1) 139 (cs5 (fun _=>0))∧Blk W (w.heap.size+1+1+1) 139 (cs5 (fun i=>if i<k then sumP A B i else 0))
theorem PlusI.first (w:World) (A B:Nat→Int):PlusI w ((((w.alloc (lblk A)).alloc (lblk B)).alloc (lblk (fun _=>0))).alloc (lblk (fun _=>0))) A B 0:=by
 refine ⟨by (repeat (first|exact Below.refl _ _|refine Below.drew ?_|refine Below.setCell ?_ (by simp;try omega) _|refine bal ?_ _)),(((Blk.new w _ _).alloc _).alloc _).alloc _,?_,?_,?_⟩
 ·have:=((Blk.new (w.alloc (lblk A)) 139 (cs5 B)).alloc (lblk (fun _=>0))).alloc (lblk (fun _=>0));simpa using this
 ·have:=(Blk.new ((w.alloc (lblk A)).alloc (lblk B)) 139 (cs5 (fun _=>0))).alloc (lblk (fun _=>0));simpa using this
 ·have:=Blk.new (((w.alloc (lblk A)).alloc (lblk B)).alloc (lblk (fun _=>0))) 139 (cs5 (fun _=>0));simpa using this
theorem PlusI.later {w W W':World} {A B:Nat→Int} {k:Nat} (h:PlusI w W A B k) (hb:Below W.heap.size W W'):PlusI w W' A B k:=
 ⟨btr h.1 hb,h.2.1.below hb h.2.1.lt,h.2.2.1.below hb h.2.2.1.lt,h.2.2.2.1.below hb h.2.2.2.1.lt,h.2.2.2.2.below hb h.2.2.2.2.lt⟩
theorem PlusI.step {w W:World} {A B:Nat→Int} {k:Nat} (h:PlusI w W A B k) (hk:k<5) {v:Int} (hv:v=sumP A B k):PlusI w (W.setCell ⟨w.heap.size+1+1+1,k,none⟩ (.int .u32 v)) A B (k+1):=by
 obtain ⟨h1,h2,h3,h4,h5⟩:=h;refine ⟨h1.setCell (by simp;try omega) _,h2.far (p:=⟨w.heap.size+1+1+1,k,none⟩) (by simp;try omega) _,h3.far (p:=⟨w.heap.size+1+1+1,k,none⟩) (by simp;try omega) _,h4.far (p:=⟨w.heap.size+1+1+1,k,none⟩) (by simp) _,?_⟩;have:=h5.set_ k (.int .u32 v);rw [cs5_set _ hk] at this;rw [cs5_congr (g:=fun i=>if i<k+1 then sumP A B i else 0)] at this
 ·exact this
 ·intro i _;by_cases e:i=k
  ·subst e;simp [hv]
  ·by_cases l:i<k
   ·simp [e,l,show i<k+1 by omega]
   ·simp [e,l,show ¬ i<k+1 by omega]
set_option maxRecDepth 100000 in
set_option maxHeartbeats 1000000 in
theorem plus_any (A B:Nat→Int) (w:World) (hA:part A) (hB:part B) :
 Calls Tryz.prog 104 #[.agg (cs5 A),.agg (cs5 B)] w fun e w'=>e=.returned (.agg (cs5 (sumP A B)))∧Below w.heap.size w w':=by
 have HI0:=hide (PlusI.first w A B);have HC:=hide (fun k=>carry_01 hA hB k);have HA:=hide hA;have HB:=hide hB;clear hA hB;unfold cs5
 go_enter Tryz.func104,Tryz.ntmps104
 go_wp2
 go_loopw [6,7] (fun c i wr=>∃ k:Nat,k≤5∧i=.int .i64 k∧c=.int .u64 (carry A B k)∧Hid (PlusI w wr A B k)) (fun c i _=>5 - (intOf i).toNat)
 case atStart=>exact ⟨0,by omega,rfl,rfl,HI0⟩
 case round=>
  obtain ⟨k,hk,rfl,rfl,HI⟩:=hrel;have HK:Hid (k≤5):=hide hk;by_cases hlt:k<5
  ·have c0:=(HI.out.2.1).at5 hlt;have d0:=(HI.out.2.2.1).at5 hlt;have z1:=HI.out.2.1.lt;have z2:=HI.out.2.2.1.lt;have z3:=HI.out.2.2.2.2.lt;obtain ⟨a,ha⟩:∃ a,A k=a:=⟨_,rfl⟩;obtain ⟨b,hb⟩:∃ b,B k=b:=⟨_,rfl⟩;obtain ⟨c,hc⟩:∃ c,carry A B k=c:=⟨_,rfl⟩;have a1:=HA.out k;have b1:=HB.out k;have c1:=HC.out k;have HN:=hide (show carry A B (k+1)=(a+b+c) / 4294967296 by rw [← ha,← hb,← hc];rfl);have HS:=hide (show sumP A B k=(a+b+c) % 4294967296 by rw [← ha,← hb,← hc];rfl);rw [ha] at c0 a1;rw [hb] at d0 b1;rw [hc] at c1 ⊢;obtain ⟨a1,a2⟩:=a1;obtain ⟨b1,b2⟩:=b1;obtain ⟨c1,c2⟩:=c1;have e1:IntKind.u32.wrap (a+b+c)=(a+b+c) % 4294967296:=by rw [IntKind.wrap_u32]
   clear ha hb hc hk
   go_wp2
   refine wp_region_later (by kernel_rfl) (by kernel_rfl) ?_
   repeat (first|go_big_quiet_step (fail)|quiet_step (fail))
   refine wpQuiet_nil ?_;intro _ hw';obtain ⟨L,hL⟩:=hw';subst hL;have HI2:=hide (HI.out.later L.h);have z4:=HI2.out.2.2.2.2.lt;have k4:=HI2.out.2.2.2.2.at5 hlt;have q4:=HI2.out.2.2.2.2.frozen;generalize L.v=w2 at *
   go_wp2
   go_roundw
   case rel=>exact ⟨k+1,by omega,by go_num,by rw [HN.out],hide (HI2.out.step hlt HS.out.symm)⟩
   case measure=>simp [intOf];omega
  ·have hk5:k=5:=by omega
   subst hk5;have HF:=hide (show Blk wr (w.heap.size+1+1+1) 139 (cs5 (sumP A B)) by
    have:=HI.out.2.2.2.2;rw [cs5_congr (g:=sumP A B) (fun i hi=>by simp [hi])] at this;exact this)
   have k4:=HF.out.cell;have k3:=HI.out.2.2.2.1.cell;have q3:=HI.out.2.2.2.1.frozen;have z3:=HI.out.2.2.2.1.lt;unfold cs5 at k4 k3
   go_wp2
   refine bodyPost_ret (v:=.agg (cs5 (sumP A B))) (by simp [results,Tryz.results104,go_sem,k3,cs5];done) rfl ⟨rfl,?_⟩;exact ((((HI.out.1.setCell (by simp;try omega) _).setCell (by simp;try omega) _).setCell (by simp;try omega) _).setCell (by simp;try omega) _).setCell (by simp;try omega) _
end Go.Proofs.YtacinobmcgcccaaGreatDoor
