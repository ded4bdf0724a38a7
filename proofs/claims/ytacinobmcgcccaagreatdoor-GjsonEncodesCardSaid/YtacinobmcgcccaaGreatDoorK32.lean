/- The reference: quote (of owners). -/
import Derived.Test.YtacinobmcgcccaaGreatDoorK29
import Derived.Test.YtacinobmcgcccaaGreatDoorK31
import Derived.Lib.ItoaLen
set_option linter.unusedSimpArgs false
set_option linter.unusedVariables false
namespace Go.Proofs.YtacinobmcgcccaaGreatDoor
open Go.RowKit Go.Shelf
def escQ (c:UInt8):L8:=if c.toNat=34∨c.toNat=92 then [92,c] else [c]
def quoteQ (s:L8):L8:=34 :: (s.flatMap escQ++[34])
theorem own_lit1 {w:World} {g base:Nat} {t:TypeId} {x:Value} (h:Blk w g t #[x]) (hb:base≤g):w.ownsRow base t 1 (.slice (some ⟨g,0,none⟩) 1 1) 1 [x]:=
 ⟨rfl,.inr ⟨g,1,_,rfl,hb,h,Nat.le_refl _,by decide,rfl,rfl⟩⟩
theorem quoteQ_eq {s:L8} (h:∀ c∈s,badC c=false):quoteL s=quoteQ s:=by
 have e:∀ c:UInt8,badC c=false→qB c=escQ c:=fun c=>u8_all (fun c=>badC c=false→qB c=escQ c) (by decide +kernel) c
 unfold quoteL quoteQ;congr 2
 induction s with
 | nil=>rfl
 | cons c s ih=>
   rw [List.flatMap_cons,List.flatMap_cons,e c (h c (by simp)),ih fun x hx=>h x (by simp [hx])]
theorem cs8_snoc (a:L8) (c:UInt8):cs8 (a++[c])=cs8 a++[.int .u8 (c.toNat:Int)]:=by simp [cs8,u8v]
theorem cs8_two (a:L8) (c d:UInt8):cs8 (a++[c,d])=cs8 a++[.int .u8 (c.toNat:Int),.int .u8 (d.toNat:Int)]:=by simp [cs8,u8v]
theorem two_newB (w:World) (t:TypeId) (a b:Value):∀ j u,[a,b][j]? = some u→(w.alloc (.cells #[a,b] t)).cell? ((⟨w.heap.size,0,none⟩:Addr).add j)=some u:=fun j u hu=>by
 have e:=(Blk.new w t #[a,b]).cell j;rw [show (⟨w.heap.size,0,none⟩:Addr).add j=⟨w.heap.size,j,none⟩ by simp [Addr.add];exact fun h=>h.symm,e];simpa using hu
theorem esc_take {s:L8} {k:Nat} (h:k<s.length):(34 :: (s.take (k+1)).flatMap escQ:L8)=(34 :: (s.take k).flatMap escQ)++escQ s[k]:=by
 rw [List.take_succ_eq_append_getElem h,List.flatMap_append];simp
set_option maxRecDepth 100000 in
set_option maxHeartbeats 4000000 in
theorem rquote_any (t:ByteArray) (w:World) (h:ownerB t=true):Calls Tryz.prog 31 #[.string t] w fun e w'=>∃ A n c,e=.returned (.slice A n c)∧w'.ownsRow w.heap.size T8 1 (.slice A n c) n (cs8 (quoteQ t.data.toList))∧n=(quoteQ t.data.toList).length∧Below w.heap.size w w':=by
 obtain ⟨i0,hi0,hz0,hz1,hz2⟩:=u8_inf';unfold ownerB at h;simp only [Bool.and_eq_true,decide_eq_true_eq,Bool.not_eq_true',List.any_eq_false] at h;obtain ⟨hn32,hbad⟩:=h;obtain ⟨n,hn⟩:∃ n,t.size=n:=⟨_,rfl⟩;rw [hn] at hn32;have HN:=hide hn;have HBAD:=hide hbad;obtain ⟨w1,hw1⟩:∃ q,w.alloc (.cells #[.int .u8 34] T8)=q:=⟨_,rfl⟩;have HB1:=hide (show Below w.heap.size w w1 from hw1 ▸ bal bR _);have HO1:=hide (own_lit1 (base:=w.heap.size) (show Blk w1 w.heap.size T8 #[.int .u8 34] from hw1 ▸ Blk.new _ _ _) (Nat.le_refl _));have HW1:=hide hw1;clear hbad hw1
 go_enter Tryz.func31,Tryz.ntmps31
 go_upto_region 2 with fail
 rw [HW1.out];go_wp2_with fail
 go_loopw [3,4] (fun v3 v4 wr=>∃ (k N c5:Nat) (A5:Option Addr),v4=.int .i64 (k:Int)∧v3=.slice A5 N c5∧k≤n∧N≤1+2 * k∧Hid (Below w.heap.size w wr∧N=(34 :: (t.data.toList.take k).flatMap escQ).length∧wr.ownsRow w.heap.size T8 1 (.slice A5 N c5) N (cs8 (34 :: (t.data.toList.take k).flatMap escQ)))) (fun _ v _=>n - (intOf v).toNat)
 case atStart=>exact ⟨0,1,1,_,rfl,rfl,by omega,by omega,hide ⟨HB1.out,by simp,HO1.out⟩⟩
 case round=>
  obtain ⟨k,N,c5,A5,rfl,rfl,hkn,hNk,HI⟩:=hrel;by_cases hlt:k<n
  ·have hltI:(k:Int)<n:=by omega
   have hkt:k<t.size:=by omega
   have hkl:k<t.data.toList.length:=by rw [Array.length_toList];exact hkt
   have hge:t.data.toList[k]=t[k]:=by rw [Array.getElem_toList];rfl
   have hb:=HBAD.out _ (List.getElem_mem hkl);have hes:=esc_take hkl;rw [hge] at hb hes;obtain ⟨ch,hch⟩:∃ x,t[k]=x:=⟨_,rfl⟩;rw [hch] at hb hes;have hr:32≤(ch.toNat:Int)∧(ch.toNat:Int)≤126:=by unfold badC at hb;simp at hb;omega
   have HES:=hide hes;have HB2:=hide HI.out.1;clear hb hes hge;obtain ⟨m,hm⟩:∃ m:Int,(ch.toNat:Int)=m:=⟨_,rfl⟩;have HM:=hide hm;rw [hm] at hr;by_cases hq:m=34∨m=92
   ·have HROW:=hide (own_later HI.out.2.2 (bal (Below.refl _ wr) (.cells #[.int .u8 92,.int .u8 m] T8)));have HF:=hide (two_newB wr T8 (.int .u8 92) (.int .u8 m));have HWB:=hide (Nat.le_trans HB2.out.size (bal (Below.refl _ wr) (.cells #[.int .u8 92,.int .u8 m] T8)).size);have HE:=hide (show escQ ch=[92,ch] from if_pos (by omega));have HNN:=hide HI.out.2.1;clear HI;rcases hq with hq|hq
    ·have d1:(m == 34)=true:=by simp [hq]
     clear hq;go_wp2_with (at_builtin;go_loud (refine wpList_append_own_at _ rfl (.tmp 38) (.tmp 40) _ rfl w.heap.size T8 i0 _ 1 1 Tryz.underlying29 hi0 hz0 hz1 hz2 rfl (by decide) (.slice A5 N c5) N _ rfl HROW.out ⟨wr.heap.size,0,none⟩ 2 2 [.int .u8 92,.int .u8 m] rfl rfl HF.out (by intro u hu;simp at hu;rcases hu with rfl|rfl <;> rfl) (by unfold maxLen;omega) (by omega) HWB.out ?_);intro v' w6 hown hgrow _ _;(obtain ⟨A7,c7,rfl,hob7⟩:=own_sl hown);have HOWN:=hide hown;have HGR:=hide hgrow;clear hown hgrow)
     go_roundw
     case rel=>
      refine ⟨k+1,N+2,c7,A7,by go_num,rfl,by omega,by omega,hide ⟨(bal HB2.out _).grown HGR.out HWB.out (fun q e=>(HROW.out.lt q e).1),?_,?_⟩⟩
      ·rw [HES.out,HE.out,List.length_append,← HNN.out];rfl
      ·rw [HES.out,HE.out,cs8_two,HM.out];exact HOWN.out
     case measure=>simp [intOf];omega
    ·have d0:(m == 34)=false:=by simp [hq]
     have d1:(m == 92)=true:=by simp [hq]
     clear hq;go_wp2_with (at_builtin;go_loud (refine wpList_append_own_at _ rfl (.tmp 38) (.tmp 40) _ rfl w.heap.size T8 i0 _ 1 1 Tryz.underlying29 hi0 hz0 hz1 hz2 rfl (by decide) (.slice A5 N c5) N _ rfl HROW.out ⟨wr.heap.size,0,none⟩ 2 2 [.int .u8 92,.int .u8 m] rfl rfl HF.out (by intro u hu;simp at hu;rcases hu with rfl|rfl <;> rfl) (by unfold maxLen;omega) (by omega) HWB.out ?_);intro v' w6 hown hgrow _ _;(obtain ⟨A7,c7,rfl,hob7⟩:=own_sl hown);have HOWN:=hide hown;have HGR:=hide hgrow;clear hown hgrow)
     go_roundw
     case rel=>
      refine ⟨k+1,N+2,c7,A7,by go_num,rfl,by omega,by omega,hide ⟨(bal HB2.out _).grown HGR.out HWB.out (fun q e=>(HROW.out.lt q e).1),?_,?_⟩⟩
      ·rw [HES.out,HE.out,List.length_append,← HNN.out];rfl
      ·rw [HES.out,HE.out,cs8_two,HM.out];exact HOWN.out
     case measure=>simp [intOf];omega
   ·have HROW:=hide (own_later HI.out.2.2 (bal (Below.refl _ wr) (.cells #[.int .u8 m] T8)));have HF:=hide (cell_one_new wr (.int .u8 m) T8);have HWB:=hide (Nat.le_trans HB2.out.size (bal (Below.refl _ wr) (.cells #[.int .u8 m] T8)).size);have HE:=hide (show escQ ch=[ch] from if_neg (by omega));have HNN:=hide HI.out.2.1;have d1:(m == 34)=false:=by simp;omega
    have d2:(m == 92)=false:=by simp;omega
    have d3:(m == 8)=false:=by simp;omega
    have d4:(m == 9)=false:=by simp;omega
    have d5:(m == 10)=false:=by simp;omega
    have d6:(m == 12)=false:=by simp;omega
    have d7:(m == 13)=false:=by simp;omega
    have d8:¬ m<32:=by omega
    clear HI hq;go_wp2_with (at_builtin;go_loud (refine wpList_append_own_at _ rfl (.tmp 31) (.tmp 33) _ rfl w.heap.size T8 i0 _ 1 1 Tryz.underlying29 hi0 hz0 hz1 hz2 rfl (by decide) (.slice A5 N c5) N _ rfl HROW.out ⟨wr.heap.size,0,none⟩ 1 1 [.int .u8 m] rfl rfl HF.out (by intro u hu;simp at hu;subst hu;rfl) (by unfold maxLen;omega) (by omega) HWB.out ?_);intro v' w6 hown hgrow _ _;(obtain ⟨A7,c7,rfl,hob7⟩:=own_sl hown);have HOWN:=hide hown;have HGR:=hide hgrow;clear hown hgrow)
    go_roundw
    case rel=>
     refine ⟨k+1,N+1,c7,A7,by go_num,rfl,by omega,by omega,hide ⟨(bal HB2.out _).grown HGR.out HWB.out (fun q e=>(HROW.out.lt q e).1),?_,?_⟩⟩
     ·rw [HES.out,HE.out,List.length_append,← HNN.out];rfl
     ·rw [HES.out,HE.out,cs8_snoc,HM.out];exact HOWN.out
    case measure=>simp [intOf];omega
  ·have hltI:¬ (k:Int)<n:=by omega
   obtain rfl:k=n:=by omega
   have hN:=HI.out.2.1;have hR:=HI.out.2.2;rw [List.take_of_length_le (by rw [Array.length_toList];exact Nat.le_of_eq HN.out)] at hN hR;have HB2:=hide HI.out.1;have HROW:=hide (own_later hR (bal (Below.refl _ wr) (.cells #[.int .u8 34] T8)));have HF:=hide (cell_one_new wr (.int .u8 34) T8);have HWB:=hide (Nat.le_trans HI.out.1.size (bal (Below.refl _ wr) (.cells #[.int .u8 34] T8)).size);have HNN:=hide hN;clear HI hN hR;go_wp2_with (at_builtin;go_loud (refine wpList_append_own_at _ rfl (.tmp 67) (.tmp 68) _ rfl w.heap.size T8 i0 _ 1 1 Tryz.underlying29 hi0 hz0 hz1 hz2 rfl (by decide) (.slice A5 N c5) N _ rfl HROW.out ⟨wr.heap.size,0,none⟩ 1 1 [.int .u8 34] rfl rfl HF.out (by intro u hu;simp at hu;subst hu;rfl) (by unfold maxLen;omega) (by omega) HWB.out ?_);intro v' w6 hown hgrow _ _;(obtain ⟨A7,c7,rfl,hob7⟩:=own_sl hown);have HOWN:=hide hown;have HGR:=hide hgrow;clear hown hgrow)
   go_ret;refine ⟨A7,N+1,c7,rfl,?_,?_,(bal HB2.out _).grown HGR.out HWB.out (fun q e=>(HROW.out.lt q e).1)⟩
   ·have:=HOWN.out;rw [show (quoteQ t.data.toList)=(34 :: t.data.toList.flatMap escQ)++[34] from rfl,cs8_snoc];exact this
   ·rw [show (quoteQ t.data.toList)=(34 :: t.data.toList.flatMap escQ)++[34] from rfl,List.length_append,← HNN.out];rfl
def kFeature:L8:=[70,101,97,116,117,114,101]
def kId:L8:=[105,100]
def kOwner:L8:=[111,119,110,101,114]
def kProps:L8:=[112,114,111,112,101,114,116,105,101,115]
def kGeom:L8:=[103,101,111,109,101,116,114,121]
def kColl:L8:=[70,101,97,116,117,114,101,67,111,108,108,101,99,116,105,111,110]
def kTerr:L8:=[116,101,114,114,105,116,111,114,121]
def kFeats:L8:=[102,101,97,116,117,114,101,115]
def featJ (x:Pc):JV:=objJ [(kType,textJ kFeature),(kId,numJ x.id),(kProps,objJ [(kOwner,textJ x.owner.data.toList)]),(kGeom,polyJ x.ring)]
def planJ (outer:List Pt) (ps:List Pc):JV:=objJ [(kType,textJ kColl),(kTerr,polyJ outer),(kFeats,arrJ (ps.map featJ))]
def PAt (m:Nat) (w:World) (s:L8) (J:JV) (v:Value):Prop:=∃ k t A n c A' n' c',v=.agg #[.string ⟨s.toArray⟩,.int .i64 k,.string t,.slice A n c,.slice A' n' c']∧VRd w (fun j=>m≤j∧j<w.heap.size) J [.int .i64 k,.string t,.slice A n c,.slice A' n' c']
theorem PAt.below {w w':World} {m:Nat} {s:L8} {J:JV} {v:Value} (h:PAt m w s J v) (hb:Below w.heap.size w w'):PAt m w' s J v:=by
 obtain ⟨k,t,A,n,c,A',n',c',e,h⟩:=h;exact ⟨k,t,A,n,c,A',n',c',e,VRd.keep (fun j hj=>hb.block j hj.2) (fun j hj=>⟨hj.1,nLl hj.2 hb.size⟩) _ _ h⟩
theorem MAt.four {m:Nat} {w:World} {J J2 J3 J4:JV} {k k2 k3 k4:Int} {t t2 t3 t4:ByteArray} {A A' A2 A2' A3 A3' A4 A4':Option Addr} {n c n' c' n2 c2 n2' c2' n3 c3 n3' c3' n4 c4 n4' c4':Nat} (s s2 s3 s4:L8)
 (h:VRd w (fun j=>m≤j∧j<w.heap.size) J [.int .i64 k,.string t,.slice A n c,.slice A' n' c'])
 (h2:VRd w (fun j=>m≤j∧j<w.heap.size) J2 [.int .i64 k2,.string t2,.slice A2 n2 c2,.slice A2' n2' c2'])
 (h3:VRd w (fun j=>m≤j∧j<w.heap.size) J3 [.int .i64 k3,.string t3,.slice A3 n3 c3,.slice A3' n3' c3'])
 (h4:VRd w (fun j=>m≤j∧j<w.heap.size) J4 [.int .i64 k4,.string t4,.slice A4 n4 c4,.slice A4' n4' c4']) :
 MAt m (w.alloc (.cells #[.string ⟨s.toArray⟩,.int .i64 k,.string t,.slice A n c,.slice A' n' c',.string ⟨s2.toArray⟩,.int .i64 k2,.string t2,.slice A2 n2 c2,.slice A2' n2' c2',.string ⟨s3.toArray⟩,.int .i64 k3,.string t3,.slice A3 n3 c3,.slice A3' n3' c3',.string ⟨s4.toArray⟩,.int .i64 k4,.string t4,.slice A4 n4 c4,.slice A4' n4' c4'] TM)) [(s,J),(s2,J2),(s3,J3),(s4,J4)] (.slice (some ⟨w.heap.size,0,none⟩) 4 4):=
 MAt.of_blk (l:=[(s,J),(s2,J2),(s3,J3),(s4,J4)]) (cs:=[_,_,_,_,_,_,_,_,_,_,_,_,_,_,_,_,_,_,_,_]) (Blk.new _ _ _) ⟨[_,_,_,_],_,rfl,VRd.al _ h,[_,_,_,_],_,rfl,VRd.al _ h2,[_,_,_,_],_,rfl,VRd.al _ h3,[_,_,_,_],_,rfl,VRd.al _ h4,rfl⟩ rfl
theorem MAt.three {m:Nat} {w:World} {J J2 J3:JV} {k k2 k3:Int} {t t2 t3:ByteArray} {A A' A2 A2' A3 A3':Option Addr} {n c n' c' n2 c2 n2' c2' n3 c3 n3' c3':Nat} (s s2 s3:L8)
 (h:VRd w (fun j=>m≤j∧j<w.heap.size) J [.int .i64 k,.string t,.slice A n c,.slice A' n' c'])
 (h2:VRd w (fun j=>m≤j∧j<w.heap.size) J2 [.int .i64 k2,.string t2,.slice A2 n2 c2,.slice A2' n2' c2'])
 (h3:VRd w (fun j=>m≤j∧j<w.heap.size) J3 [.int .i64 k3,.string t3,.slice A3 n3 c3,.slice A3' n3' c3']) :
 MAt m (w.alloc (.cells #[.string ⟨s.toArray⟩,.int .i64 k,.string t,.slice A n c,.slice A' n' c',.string ⟨s2.toArray⟩,.int .i64 k2,.string t2,.slice A2 n2 c2,.slice A2' n2' c2',.string ⟨s3.toArray⟩,.int .i64 k3,.string t3,.slice A3 n3 c3,.slice A3' n3' c3'] TM)) [(s,J),(s2,J2),(s3,J3)] (.slice (some ⟨w.heap.size,0,none⟩) 3 3):=
 MAt.of_blk (l:=[(s,J),(s2,J2),(s3,J3)]) (cs:=[_,_,_,_,_,_,_,_,_,_,_,_,_,_,_]) (Blk.new _ _ _) ⟨[_,_,_,_],_,rfl,VRd.al _ h,[_,_,_,_],_,rfl,VRd.al _ h2,[_,_,_,_],_,rfl,VRd.al _ h3,rfl⟩ rfl
theorem klen {s:L8} (h:s.length≤30):s.length≤maxT:=Nat.le_trans h (by decide)
theorem smL_all:∀ {l:List JV},(∀ x∈l,smJ x)→smL l
 | [],_=>by unfold smL;trivial
 | a :: l,h=>by unfold smL;exact ⟨h a (by simp),smL_all fun x hx=>h x (by simp [hx])⟩
theorem sm_num {n:Int} (h:-9223372036854775808≤n∧n≤9223372036854775807):smJ (numJ n):=by
 unfold numJ smJ;have:=Lib.itoa_length_le n h.1 h.2;exact ⟨by unfold maxT;omega,(by simp),smL_all (by simp)⟩
theorem sm_text {s:L8} (h:s.length≤maxT):smJ (textJ s):=by
 unfold textJ smJ;exact ⟨h,(by simp),smL_all (by simp)⟩
theorem sm_arr {l:List JV} (h:∀ x∈l,smJ x):smJ (arrJ l):=by
 unfold arrJ smJ;exact ⟨Nat.zero_le _,(by simp),smL_all h⟩
theorem sm_obj {l:List (L8 × JV)} (h:∀ x∈l,x.1.length≤maxT∧smJ x.2):smJ (objJ l):=by
 unfold objJ smJ;exact ⟨Nat.zero_le _,fun s hs=>by obtain ⟨x,hx,rfl⟩:=List.mem_map.1 hs;exact (h x hx).1,smL_all fun s hs=>by obtain ⟨x,hx,rfl⟩:=List.mem_map.1 hs;exact (h x hx).2⟩
theorem sm_poly {r:List Pt} (h:∀ p∈r,p.good):smJ (polyJ r):=by
 unfold polyJ;refine sm_obj fun x hx=>?_
 simp only [List.mem_cons,List.not_mem_nil,or_false] at hx;rcases hx with rfl|rfl
 ·exact ⟨klen (s:=kType) (by decide),sm_text (by decide)⟩
 ·refine ⟨klen (s:=kCoord) (by decide),sm_arr fun y hy=>?_⟩;simp only [List.mem_cons,List.not_mem_nil,or_false] at hy;subst hy;refine sm_arr fun z hz=>?_
  obtain ⟨p,hp,rfl⟩:=List.mem_map.1 hz;have hg:p.good:=by
   rcases List.mem_append.1 hp with hp|hp
   ·exact h p hp
   ·exact h p (List.mem_of_mem_take hp)
  unfold Pt.good at hg;refine sm_arr fun u hu=>?_
  simp only [List.mem_cons,List.not_mem_nil,or_false] at hu;rcases hu with rfl|rfl
  ·exact sm_num (by omega)
  ·exact sm_num (by omega)
theorem sm_feat {x:Pc} (h:∀ p∈x.ring,p.good) (hi:-9223372036854775808≤x.id∧x.id≤9223372036854775807) (ho:x.owner.size≤140737488355328):smJ (featJ x):=by
 unfold featJ;refine sm_obj fun y hy=>?_
 simp only [List.mem_cons,List.not_mem_nil,or_false] at hy;rcases hy with rfl|rfl|rfl|rfl
 ·exact ⟨klen (s:=kType) (by decide),sm_text (by decide)⟩
 ·exact ⟨klen (s:=kId) (by decide),sm_num hi⟩
 ·refine ⟨klen (s:=kProps) (by decide),sm_obj fun z hz=>?_⟩;simp only [List.mem_cons,List.not_mem_nil,or_false] at hz;subst hz;refine ⟨klen (s:=kOwner) (by decide),sm_text ?_⟩;rw [Array.length_toList];show x.owner.size≤maxT;unfold maxT;omega
 ·exact ⟨klen (s:=kGeom) (by decide),sm_poly h⟩
theorem sm_plan {outer:List Pt} {ps:List Pc} (ho:∀ p∈outer,p.good) (hp:∀ x∈ps,(∀ p∈x.ring,p.good)∧(-9223372036854775808≤x.id∧x.id≤9223372036854775807)∧x.owner.size≤140737488355328):smJ (planJ outer ps):=by
 unfold planJ;refine sm_obj fun y hy=>?_
 simp only [List.mem_cons,List.not_mem_nil,or_false] at hy;rcases hy with rfl|rfl|rfl
 ·exact ⟨klen (s:=kType) (by decide),sm_text (by decide)⟩
 ·exact ⟨klen (s:=kTerr) (by decide),sm_poly ho⟩
 ·refine ⟨klen (s:=kFeats) (by decide),sm_arr fun z hz=>?_⟩;obtain ⟨x,hx,rfl⟩:=List.mem_map.1 hz;obtain ⟨h1,h2,h3⟩:=hp x hx;exact sm_feat h1 h2 h3
def encE (outer:List Pt) (vs:List Pv):Nat:=if planB outer vs then prE (planJ outer (vs.map Pv.pc)) else 2
def encR (outer:List Pt) (vs:List Pv):L8:=if planB outer vs then prR (planJ outer (vs.map Pv.pc)) else []
def PrO (w:World) (R:L8) (A:Option Addr) (n c:Nat):Prop:=n≤c∧(∀ ad,A=some ad→ad.block<w.heap.size)∧RB w w.heap.size A n R
theorem PrO.below {w w':World} {R:L8} {A:Option Addr} {n c:Nat} (h:PrO w R A n c) (hb:Below w.heap.size w w'):PrO w' R A n c:=⟨h.1,fun ad e=>nLl (h.2.1 ad e) hb.size,(h.2.2.below hb).more hb.size⟩
set_option maxRecDepth 100000 in
set_option maxHeartbeats 4000000 in
theorem gencode_any (P:PlV) (w:World) (hP:PlOk w w.heap.size P) (hT:GT w) :
 Calls Tryz.prog 10 #[P.val] w fun e w'=>Below w.heap.size w w' ∧ ∃ A n c,e=.returned (.tuple #[.slice A n c,.int .i64 (encE P.outer P.vs:Int)])∧n≤c∧(∀ ad,A=some ad→ad.block<w'.heap.size)∧RB w' w'.heap.size A n (encR P.outer P.vs):=by
 obtain ⟨iv,hiv,hvz0,hvz1,hvz2⟩:=tv_inf;have HCK:=hide (fun w0 (h:PlOk w0 w0.heap.size P)=>pcheck_any P w0 h);obtain ⟨w1,hw1⟩:∃ q,w.alloc (.cells #[.slice P.Ao P.no P.co,.slice P.A P.n P.c] 26)=q:=⟨_,rfl⟩;have HB1:=hide (show Below w.heap.size w w1 from hw1 ▸ bal bR _);have hk1:Blk w1 w.heap.size 26 #[.slice P.Ao P.no P.co,.slice P.A P.n P.c]:=hw1 ▸ Blk.new _ _ _;have HK1:=hide hk1;have HP1:=hide (hP.later HB1.out);have HT1:=hide (hT.below HB1.out);obtain ⟨Ao,no,co,outer,A,n,c,vs⟩:=P;show Calls Tryz.prog 10 #[.agg #[.slice Ao no co,.slice A n c]] w _;simp only at hw1 HCK HK1;have HW1:=hide hw1;have kc:=HK1.out.cell;have fc:=HK1.out.frozen;have zc:=HK1.out.lt;simp only [encE,encR];clear hw1 hk1 hP hT;cases hpb:planB outer vs
 ·have HPB:=hide hpb;rw [hpb] at HCK;simp only [Bool.false_eq_true,if_false] at HCK ⊢;clear hpb
  go_enter Tryz.func10,Tryz.ntmps10
  go_upto_region 1 with fail
  rw [HW1.out];go_wp2_with (go_at_call 23;go_loud (refine (HCK.out w1 HP1.out).mono ?_);rintro e w2 ⟨rfl,hb2⟩;have HB2:=hide hb2;clear hb2)
  go_ret2
  exact ⟨btr HB1.out HB2.out,none,0,0,rfl,Nat.le_refl _,(fun ad e=>by cases e),rb_none _ _⟩
 ·rw [hpb] at HCK;simp only [if_true] at HCK ⊢;have hsnd:=hpb;unfold planB at hsnd;simp only [Bool.and_eq_true,List.all_eq_true] at hsnd;obtain ⟨hl,ho,hv,_⟩:=hsnd;have hl2:=listed_len hl;have ho2:=normed_sound ho;have hvl:vs.length=n:=HP1.out.ps.sl.1;have hol:outer.length=no:=HP1.out.out.1;rw [List.length_map,hvl] at hl2;have HSM:=hide (sm_plan (outer:=outer) (ps:=vs.map Pv.pc) (fun p hp=>good_mem ho2.2.2.2.1 hp) (fun x hx=>by
   obtain ⟨v,hvv,rfl⟩:=List.mem_map.1 hx;have hs:=normed_sound (hv v hvv);have hk:=HP1.out.ps.ok v hvv;exact ⟨fun p hp=>good_mem hs.2.2.2.1 hp,hk.id,hk.own⟩))
  obtain ⟨JJ,hJ⟩:∃ JJ,planJ outer (vs.map Pv.pc)=JJ:=⟨_,rfl⟩;rw [hJ] at HSM ⊢;obtain ⟨E,hE⟩:∃ E,prE JJ=E:=⟨_,rfl⟩;obtain ⟨R,hR⟩:∃ R,prR JJ=R:=⟨_,rfl⟩;rw [hE,hR];have HE:=hide hE;have HR:=hide hR;unfold planJ at hJ;have HJJ:=hide hJ;clear hJ hE hR;have HV:=hide hv;have HVL:=hide hvl;have HO2:=hide ho2;have hno3:3≤no∧no≤128:=by omega
  have hn64:=hl2.2;have hn1:=hl2.1;clear hpb hl ho hv hl2 ho2 hvl hol
  go_enter Tryz.func10,Tryz.ntmps10
  go_upto_region 1 with fail
  rw [HW1.out];go_wp2_with (go_at_call 23;go_loud (refine (HCK.out w1 HP1.out).mono ?_);rintro e wc ⟨rfl,hb2⟩;have HB2:=hide hb2;have hk2:=HK1.out.below hb2 HK1.out.lt;have HK2:=hide hk2;have HP2:=hide (HP1.out.later hb2);have HT2:=hide (HT1.out.below hb2);clear kc fc zc;have kc:=hk2.cell;have fc:=hk2.frozen;have zc:=hk2.lt;clear hb2 hk2)
  clear kc fc zc
  go_loopw [4,13] (fun v4 v13 wr=>∃ (k:Nat) (A5:Option Addr) (c5:Nat),v13=.int .i64 (k:Int)∧k≤n∧v4=.slice A5 k c5∧Hid (GrJ wc.heap.size wc wr (.slice A5 k c5) (((vs.map Pv.pc).take k).map featJ))) (fun _ v _=>n - (intOf v).toNat)
  case atStart=>exact ⟨0,none,0,rfl,by omega,rfl,hide (GrJ.nil wc (Below.refl wc.heap.size wc) (Nat.le_refl _))⟩
  case round=>
   obtain ⟨k,A5,c5,rfl,hkn,rfl,HI⟩:=hrel;by_cases hlt:k<n
   ·have hltI:(k:Int)<n:=by omega
    have hkv:k<vs.length:=by rw [HVL.out];exact hlt
    obtain ⟨b,o,hA,hb,hcs⟩:=HP2.out.ps.at (show 0<n by omega);simp only at hA;subst hA;obtain ⟨c0,c1,c2⟩:=hcs k hkv;have hok:=HP2.out.ps.ok _ (List.getElem_mem hkv);have hnd:=normed_sound (HV.out _ (List.getElem_mem hkv));have hk2:k<(vs.map Pv.pc).length:=by simpa using hkv
    have hTK:=List.take_succ_eq_append_getElem hk2;have hpk:(vs.map Pv.pc)[k]=vs[k].pc:=by simp
    obtain ⟨v,hv⟩:∃ v,vs[k]=v:=⟨_,rfl⟩;rw [hv] at c0 c1 c2 hok hnd hpk;rw [hpk] at hTK;obtain ⟨⟨id,ring,owner⟩,Av,nv,cv⟩:=v;simp only at c0 c1 c2 hok hnd hTK;obtain ⟨ol,hol⟩:∃ q,owner.data.toList=q:=⟨_,rfl⟩;have HOL:=hide (show (⟨ol.toArray⟩:ByteArray)=owner from by rw [← hol]);obtain ⟨J,hJ⟩:∃ q,featJ ⟨id,ring,owner⟩=q:=⟨_,rfl⟩;have HTK:=hide (show ((vs.map Pv.pc).take (k+1)).map featJ=((vs.map Pv.pc).take k).map featJ++[J] from by rw [hTK,List.map_append,← hJ];rfl);unfold featJ at hJ;simp only at hJ;rw [hol] at hJ;have HJ:=hide hJ;have hid:=hok.id;have HPR0:=hide hok.pr;have hcv:nv≤cv∧cv≤maxLen:=⟨hok.cap,hok.cmax⟩;have hrl:ring.length=nv:=hok.pr.1;have hnv:1≤nv∧nv≤1000:=by omega
    have HGD:=hide hnd.2.2.2.1;simp only at hid;have c0:=(HI.out.bel.cell (p:=⟨b,o+k * 3,none⟩) hb).trans c0;have c1:=(HI.out.bel.cell (p:=⟨b,o+k * 3+1,none⟩) hb).trans c1;have c2:=(HI.out.bel.cell (p:=⟨b,o+k * 3+2,none⟩) hb).trans c2;have hbr:b<wr.heap.size:=nLl hb HI.out.bel.size;obtain ⟨wr2,hwr2⟩:∃ q,wr.alloc (.cells #[.int .i64 id,.slice Av nv cv,.string owner] 43)=q:=⟨_,rfl⟩;have hbx:Below wr.heap.size wr wr2:=hwr2 ▸ bal bR _;have HBX:=hide (show Blk wr2 wr.heap.size 43 #[.int .i64 id,.slice Av nv cv,.string owner] from hwr2 ▸ Blk.new _ _ _);have HG2:=hide (HI.out.below hbx);have HBW:=hide (show Below wc.heap.size wc wr2 from HI.out.bel.trans (hbx.mono HI.out.bel.size));have HT3:=hide (HT2.out.below HBW.out);have HPR:=hide (show PR wr2 wr2.heap.size Av nv ring from (HPR0.out.below HBW.out).more HBW.out.size);obtain ⟨xs,hxo,hxl⟩:=HG2.out.row;have hll:(((vs.map Pv.pc).take k).map featJ).length=k:=by rw [List.length_map,List.length_take];omega
    rw [hll] at hxo;have HXO:=hide hxo;have HXL:=hide hxl;have HLL:=hide hll;have HW2:=hide hwr2;clear hcs hv hTK hpk hJ hol hok hnd hwr2 hbx hxo hxl hll hrl HPR0;go_upto_region 7 with fail
    rw [HW2.out];refine wp_region_dagO (by kernel_rfl) (by kernel_rfl) 54 1
     [⟨some 17,[0,1],[],[],[],[],fun _ _ v _=>v=.slice A5 k c5⟩,
      ⟨some 18,[0],[],[],[],[],fun st a v w'=>st=0→VAt wr2.heap.size w' (textJ kFeature) v⟩,
      ⟨some 19,[0],[],[],[1],[],fun st a v w'=>st=0→PAt wr2.heap.size w' kType (textJ kFeature) v⟩,
      ⟨some 20,[0,1],[],[],[],[],fun _ _ v _=>v=.pointer (some ⟨wr.heap.size,0,none⟩)⟩,
      ⟨some 21,[0],[],[],[3],[],fun _ _ v _=>v=.int .i64 id⟩,
      ⟨some 22,[0],[],[],[4],[],fun st a v w'=>st=0→VAt wr2.heap.size w' (numJ id) v⟩,
      ⟨some 23,[0],[],[],[5],[],fun st a v w'=>st=0→PAt wr2.heap.size w' kId (numJ id) v⟩,
      ⟨some 24,[0,1],[],[],[],[],fun _ _ v _=>v=.pointer (some ⟨wr.heap.size,2,none⟩)⟩,
      ⟨some 25,[0],[],[],[7],[],fun _ _ v _=>v=.string owner⟩,
      ⟨some 26,[0],[],[],[8],[],fun st a v w'=>st=0→VAt wr2.heap.size w' (textJ ol) v⟩,
      ⟨some 27,[0],[],[],[9],[],fun st a v w'=>st=0→PAt wr2.heap.size w' kOwner (textJ ol) v⟩,
      ⟨some 28,[0],[],[],[10],[],fun st a v w'=>st=0→MAt wr2.heap.size w' [(kOwner,textJ ol)] v⟩,
      ⟨some 29,[0],[],[],[11],[],fun st a v w'=>st=0→VAt wr2.heap.size w' (objJ [(kOwner,textJ ol)]) v⟩,
      ⟨some 30,[0],[],[],[12],[],fun st a v w'=>st=0→PAt wr2.heap.size w' kProps (objJ [(kOwner,textJ ol)]) v⟩,
      ⟨some 31,[0,1],[],[],[],[],fun _ _ v _=>v=.pointer (some ⟨wr.heap.size,1,none⟩)⟩,
      ⟨some 32,[0],[],[],[14],[],fun _ _ v _=>v=.slice Av nv cv⟩,
      ⟨some 33,[0],[],[],[15],[],fun st a v w'=>st=0→VAt wr2.heap.size w' (polyJ ring) v⟩,
      ⟨some 34,[0],[],[],[16],[],fun st a v w'=>st=0→PAt wr2.heap.size w' kGeom (polyJ ring) v⟩,
      ⟨some 35,[0],[],[],[2,6,13,17],[],fun st a v w'=>st=0→MAt wr2.heap.size w' [(kType,textJ kFeature),(kId,numJ id),(kProps,objJ [(kOwner,textJ ol)]),(kGeom,polyJ ring)] v⟩,
      ⟨some 36,[0],[],[],[18],[],fun st a v w'=>st=0→VAt wr2.heap.size w' (objJ [(kType,textJ kFeature),(kId,numJ id),(kProps,objJ [(kOwner,textJ ol)]),(kGeom,polyJ ring)]) v⟩,
      ⟨some 37,[0],[],[],[19],[],fun st a v w'=>st=0→LAt wr2.heap.size w' [J] v⟩,
      ⟨some 38,[0],[(0,1)],[1],[0,20],[],fun st a v w'=>1≤st∧(∃ B d,v=.slice B (k+1) d)∧GrJ wc.heap.size wc w' v (((vs.map Pv.pc).take k).map featJ++[J])⟩,
      ⟨some 4,[1],[],[],[21],[],fun st a v w'=>1≤st∧(∃ B d,v=.slice B (k+1) d)∧GrJ wc.heap.size wc w' v (((vs.map Pv.pc).take k).map featJ++[J])⟩] (GS wc.heap.size wc wr2) (fun s s' _ _ _=>s=0∧s'=1) (fun _ w w'=>Below w.heap.size w w') ?gu ?ru ?put [17,18,19,20,21,22,23,24,25,26,27,28,29,30,31,32,33,34,35,36,37,38,4] rfl (by kernel_rfl) rfl ?g0 ?keep ?steps ?fin
    case ru=>
     intro e he s a v w w' hu hv;simp only [List.mem_cons,List.not_mem_nil,or_false] at he;rcases he with rfl|rfl|rfl|rfl|rfl|rfl|rfl|rfl|rfl|rfl|rfl|rfl|rfl|rfl|rfl|rfl|rfl|rfl|rfl|rfl|rfl|rfl|rfl
     all_goals first|exact hv|(intro h0;exact (hv h0).below hu)|(obtain ⟨h0,h1,h2⟩:=hv;exact ⟨h0,h1,h2.below hu⟩)
    case put=>
     intro e he s a d u v w hnd hv;simp only [List.mem_cons,List.not_mem_nil,or_false] at he;rcases he with rfl|rfl|rfl|rfl|rfl|rfl|rfl|rfl|rfl|rfl|rfl|rfl|rfl|rfl|rfl|rfl|rfl|rfl|rfl|rfl|rfl|rfl|rfl
     all_goals first|exact hv
    case keep=>
     intro e he s s' a v w w' hsl hm ht hv;simp only [List.mem_cons,List.not_mem_nil,or_false] at he;rcases he with rfl|rfl|rfl|rfl|rfl|rfl|rfl|rfl|rfl|rfl|rfl|rfl|rfl|rfl|rfl|rfl|rfl|rfl|rfl|rfl|rfl|rfl|rfl
     all_goals first|exact hv|(intro h3;exfalso;have:=ht.2;omega)|(exfalso;have:=hv.1;have:=ht.1;omega)
    case steps=>
     refine ⟨?_,?_,?_,?_,?_,?_,?_,?_,?_,?_,?_,?_,?_,?_,?_,?_,?_,?_,?_,?_,?_,?_,?_,trivial⟩
     ·intro st hst ac w3 hg hG hd ho K hK;dsimp only at hst hG hK;exact op_move _ rfl (hK _ _ bR (ho 22 _ rfl (by decide) (by kernel_rfl) 4 rfl))
     ·intro st hst ac w3 hg hG hd ho K hK;dsimp only at hst hG hK;simp only [List.mem_cons,List.not_mem_nil,or_false] at hst;subst hst;have HX:=hide (gtextV kFeature w3);clear hG;go_simp;(refine HX.out.mono ?_);rintro e w4 ⟨hb4,v,rfl,hv⟩;exact hK v w4 hb4 (fun _=>hv _)
     ·intro st hst ac w3 hg hG hd ho K hK;dsimp only at hst hG hK;simp only [List.mem_cons,List.not_mem_nil,or_false] at hst;subst hst;obtain ⟨k1,t1,a1,n1,d1,a2,n2,d2,e1,h1⟩:=hd 1 (by simp) _ rfl _ rfl rfl;have HH:=hide h1;clear hG h1;simp [Act.eval] at e1;go_simp;exact hK _ _ bR (fun _=>⟨_,_,_,_,_,_,_,_,rfl,HH.out⟩)
     ·intro st hst ac w3 hg hG hd ho K hK;dsimp only at hst hG hK;have k6:=hg.kp 6 (by simp);(try simp [Act.eval] at k6);go_simp;exact hK _ _ bR rfl
     ·intro st hst ac w3 hg hG hd ho K hK;dsimp only at hst hG hK;simp only [List.mem_cons,List.not_mem_nil,or_false] at hst;subst hst;have kb:=HBX.out.below (hG.2.2 rfl) HBX.out.lt;have kk:=kb.cell;have zz:=kb.lt;clear hG kb;have f3:=hd 3 (by simp) _ rfl _ rfl;(try simp [Act.eval] at f3);go_simp;exact hK _ _ bR rfl
     ·intro st hst ac w3 hg hG hd ho K hK;dsimp only at hst hG hK;simp only [List.mem_cons,List.not_mem_nil,or_false] at hst;subst hst;have f:=hd 4 (by simp) _ rfl _ rfl;have HX:=hide (gnumberV id w3 hid.1 hid.2 (HT3.out.below (hG.2.2 rfl)));simp [Act.eval] at f;clear hG;go_simp;(refine HX.out.mono ?_);rintro e w4 ⟨hb4,v,rfl,hv⟩;exact hK v w4 hb4 (fun _=>hv _)
     ·intro st hst ac w3 hg hG hd ho K hK;dsimp only at hst hG hK;simp only [List.mem_cons,List.not_mem_nil,or_false] at hst;subst hst;obtain ⟨k1,t1,a1,n1,d1,a2,n2,d2,e1,h1⟩:=hd 5 (by simp) _ rfl _ rfl rfl;have HH:=hide h1;clear hG h1;simp [Act.eval] at e1;go_simp;exact hK _ _ bR (fun _=>⟨_,_,_,_,_,_,_,_,rfl,HH.out⟩)
     ·intro st hst ac w3 hg hG hd ho K hK;dsimp only at hst hG hK;have k6:=hg.kp 6 (by simp);(try simp [Act.eval] at k6);go_simp;exact hK _ _ bR rfl
     ·intro st hst ac w3 hg hG hd ho K hK;dsimp only at hst hG hK;simp only [List.mem_cons,List.not_mem_nil,or_false] at hst;subst hst;have kb:=HBX.out.below (hG.2.2 rfl) HBX.out.lt;have kk:=kb.cell;have zz:=kb.lt;clear hG kb;have f7:=hd 7 (by simp) _ rfl _ rfl;(try simp [Act.eval] at f7);go_simp;exact hK _ _ bR rfl
     ·intro st hst ac w3 hg hG hd ho K hK;dsimp only at hst hG hK;simp only [List.mem_cons,List.not_mem_nil,or_false] at hst;subst hst;have f:=hd 8 (by simp) _ rfl _ rfl;have HX:=hide (gtextV ol w3);rw [HOL.out] at HX;simp [Act.eval] at f;clear hG;go_simp;(refine HX.out.mono ?_);rintro e w4 ⟨hb4,v,rfl,hv⟩;exact hK v w4 hb4 (fun _=>hv _)
     ·intro st hst ac w3 hg hG hd ho K hK;dsimp only at hst hG hK;simp only [List.mem_cons,List.not_mem_nil,or_false] at hst;subst hst;obtain ⟨k1,t1,a1,n1,d1,a2,n2,d2,e1,h1⟩:=hd 9 (by simp) _ rfl _ rfl rfl;have HH:=hide h1;clear hG h1;simp [Act.eval] at e1;go_simp;exact hK _ _ bR (fun _=>⟨_,_,_,_,_,_,_,_,rfl,HH.out⟩)
     ·intro st hst ac w3 hg hG hd ho K hK;dsimp only at hst hG hK;simp only [List.mem_cons,List.not_mem_nil,or_false] at hst;subst hst;obtain ⟨k1,t1,a1,n1,d1,a2,n2,d2,e1,h1⟩:=hd 10 (by simp) _ rfl _ rfl rfl;have HH:=hide h1;clear hG h1;simp [Act.eval] at e1;go_simp;exact hK _ _ (al_below w3 _) (fun _=>MAt.one kOwner HH.out)
     ·intro st hst ac w3 hg hG hd ho K hK;dsimp only at hst hG hK;simp only [List.mem_cons,List.not_mem_nil,or_false] at hst;subst hst;have g:=hd 11 (by simp) _ rfl _ rfl rfl;obtain ⟨v,hv⟩:∃ v,ac.eval (.tmp 28)=v:=⟨_,rfl⟩;rw [hv] at g;have HX:=hide (gobjectV g (by simp) (hG.2.2 rfl).size);simp [Act.eval] at hv;clear hG;go_simp;(refine HX.out.mono ?_);rintro e w4 ⟨hb4,v,rfl,hv⟩;exact hK v w4 hb4 (fun _=>hv)
     ·intro st hst ac w3 hg hG hd ho K hK;dsimp only at hst hG hK;simp only [List.mem_cons,List.not_mem_nil,or_false] at hst;subst hst;obtain ⟨k1,t1,a1,n1,d1,a2,n2,d2,e1,h1⟩:=hd 12 (by simp) _ rfl _ rfl rfl;have HH:=hide h1;clear hG h1;simp [Act.eval] at e1;go_simp;exact hK _ _ bR (fun _=>⟨_,_,_,_,_,_,_,_,rfl,HH.out⟩)
     ·intro st hst ac w3 hg hG hd ho K hK;dsimp only at hst hG hK;have k6:=hg.kp 6 (by simp);(try simp [Act.eval] at k6);go_simp;exact hK _ _ bR rfl
     ·intro st hst ac w3 hg hG hd ho K hK;dsimp only at hst hG hK;simp only [List.mem_cons,List.not_mem_nil,or_false] at hst;subst hst;have kb:=HBX.out.below (hG.2.2 rfl) HBX.out.lt;have kk:=kb.cell;have zz:=kb.lt;clear hG kb;have f14:=hd 14 (by simp) _ rfl _ rfl;(try simp [Act.eval] at f14);go_simp;exact hK _ _ bR rfl
     ·intro st hst ac w3 hg hG hd ho K hK;dsimp only at hst hG hK;simp only [List.mem_cons,List.not_mem_nil,or_false] at hst;subst hst;have f:=hd 15 (by simp) _ rfl _ rfl;have HX:=hide (gpolygon_any ring Av nv cv w3 (HPR.out.later (hG.2.2 rfl)) hnv.1 hnv.2 hcv.1 hcv.2 HGD.out (HT3.out.below (hG.2.2 rfl)));have HM:=hide (hG.2.2 rfl).size;simp [Act.eval] at f;clear hG;go_simp;(refine HX.out.mono ?_);rintro e w4 ⟨hb4,v,rfl,hv⟩;exact hK v w4 hb4 (fun _=>hv.low HM.out)
     ·intro st hst ac w3 hg hG hd ho K hK;dsimp only at hst hG hK;simp only [List.mem_cons,List.not_mem_nil,or_false] at hst;subst hst;obtain ⟨k1,t1,a1,n1,d1,a2,n2,d2,e1,h1⟩:=hd 16 (by simp) _ rfl _ rfl rfl;have HH:=hide h1;clear hG h1;simp [Act.eval] at e1;go_simp;exact hK _ _ bR (fun _=>⟨_,_,_,_,_,_,_,_,rfl,HH.out⟩)
     ·intro st hst ac w3 hg hG hd ho K hK;dsimp only at hst hG hK;simp only [List.mem_cons,List.not_mem_nil,or_false] at hst;subst hst;obtain ⟨k1,t1,a1,n1,d1,a2,n2,d2,e1,h1⟩:=hd 2 (by simp) _ rfl _ rfl rfl;obtain ⟨k3,t3,a3,n3,d3,a4,n4,d4,e3,h3⟩:=hd 6 (by simp) _ rfl _ rfl rfl;obtain ⟨k5,t5,a5,n5,d5,a6,n6,d6,e5,h5⟩:=hd 13 (by simp) _ rfl _ rfl rfl;obtain ⟨k7,t7,a7,n7,d7,a8,n8,d8,e7,h7⟩:=hd 17 (by simp) _ rfl _ rfl rfl;have H1:=hide h1;have H3:=hide h3;have H5:=hide h5;have H7:=hide h7;clear hG h1 h3 h5 h7;simp [Act.eval] at e1 e3 e5 e7;go_simp;exact hK _ _ (al_below w3 _) (fun _=>MAt.four kType kId kProps kGeom H1.out H3.out H5.out H7.out)
     ·intro st hst ac w3 hg hG hd ho K hK;dsimp only at hst hG hK;simp only [List.mem_cons,List.not_mem_nil,or_false] at hst;subst hst;have g:=hd 18 (by simp) _ rfl _ rfl rfl;obtain ⟨v,hv⟩:∃ v,ac.eval (.tmp 35)=v:=⟨_,rfl⟩;rw [hv] at g;have HX:=hide (gobjectV g (by simp) (hG.2.2 rfl).size);simp [Act.eval] at hv;clear hG;go_simp;(refine HX.out.mono ?_);rintro e w4 ⟨hb4,v,rfl,hv⟩;exact hK v w4 hb4 (fun _=>hv)
     ·intro st hst ac w3 hg hG hd ho K hK;dsimp only at hst hG hK;simp only [List.mem_cons,List.not_mem_nil,or_false] at hst;subst hst;obtain ⟨k1,t1,a1,n1,d1,a2,n2,d2,e1,h1⟩:=hd 19 (by simp) _ rfl _ rfl rfl;have HB0:=hide (hG.2.2 rfl).size;have HH:=hide h1;clear hG h1;simp [Act.eval] at e1;go_simp;exact hK _ _ (al_below w3 _) (fun _=>HJ.out ▸ LAt.one HB0.out HH.out)
     ·intro st st' hmv ac w3 hg hG hd ho K hK;simp only [List.mem_cons,Prod.mk.injEq,List.not_mem_nil,or_false] at hmv;obtain ⟨rfl,rfl⟩:=hmv;dsimp only at hG hK;have f0:=hd 0 (by simp) _ rfl _ rfl;obtain ⟨A9,d9,xs9,f9,hc9,hr9,hl9⟩:=hd 20 (by simp) _ rfl _ rfl rfl;refine wp_append_any w3 (.tmp 17) (.tmp 37) 37 rfl wc.heap.size TV iv _ 4 72 Tryz.underlying37 hiv hvz0 hvz1 hvz2 rfl (by decide) (.slice A5 k c5) k xs f0 (own_later HXO.out (hG.2.2 rfl)) w3.heap.size A9 1 d9 xs9 f9 (hr9.keep (F':=fun j=>j<w3.heap.size) (fun _ _=>rfl) (fun j hj=>hj.2)) (vrdl_ones hl9) (by unfold maxLen;omega) (by omega) hG.2.1 ?_;intro v' w' ho hgb hoo;exact hK _ _ ⟨rfl,rfl⟩ ⟨hG.1.grown hgb hG.2.1 (fun k hk=>(HXO.out.lt k hk).1),Nat.le_trans hG.2.1 hgb.size,fun e=>by omega⟩ ⟨Nat.le_refl _,by obtain ⟨B,d,e,_⟩:=own_slice ho;exact ⟨B,d,e⟩,GrJ.push_ HG2.out HLL.out (hG.2.2 rfl) ⟨HXO.out,HXL.out⟩ hl9 ho hgb hoo⟩
     ·intro st hst ac w3 hg hG hd ho K hK;dsimp only at hst hG hK;exact op_assign _ rfl (hK _ _ bR (hd 21 (by simp) _ rfl _ rfl))
    case gu=>intro s w1 w2 hG hu;exact ⟨hG.1.trans (hu.mono hG.2.1),Nat.le_trans hG.2.1 hu.size,fun e=>(hG.2.2 e).trans (hu.mono (hG.2.2 e).size)⟩
    case g0=>exact ⟨HG2.out.bel.drew,HG2.out.le,fun _=>bR.drew⟩
    case fin=>
     intro f9 w9 hG hall;obtain ⟨_,⟨B9,d9,h9⟩,hch⟩:=hall _ (List.mem_of_getElem? (i:=22) rfl) 4 rfl;clear hall hG;simp only [fillF,List.map_cons,List.map_nil,List.foldl_cons,List.foldl_nil,Act.put,List.setIfInBounds_toArray,List.set_cons_zero,List.set_cons_succ];rw [h9] at hch ⊢;have HCH:=hide hch;clear hch h9;go_wp2_with fail
     refine ⟨⟨k+1,B9,d9,by go_num,by omega,rfl,hide (by rw [HTK.out];exact HCH.out)⟩,?_⟩;simp [intOf];omega
   ·have hltI:¬ (k:Int)<n:=by omega
    obtain rfl:k=n:=by omega
    have hlat:=HI.out.lat;rw [List.take_of_length_le (by rw [List.length_map,HVL.out];exact Nat.le_refl _)] at hlat;have HLAT:=hide hlat;have HBR:=hide HI.out.bel;have HKP:=hide (HK2.out.below HBR.out (nLl HK1.out.lt HB2.out.size));have HPO:=hide (show PR wr wr.heap.size Ao no outer from (HP2.out.later HBR.out).out);have hoc:no≤co:=HP2.out.ocap;have hocm:co≤maxLen:=HP2.out.ocm;have HTR:=hide (HT2.out.below HBR.out);clear hlat HI;go_upto_region 9 with fail
    refine wp_region_dag (by kernel_rfl) (by kernel_rfl) 54 0
     [⟨some 40,[0],[],[],[],[],fun st a v w'=>VAt wc.heap.size w' (textJ kColl) v⟩,
      ⟨some 41,[0],[],[],[0],[],fun st a v w'=>PAt wc.heap.size w' kType (textJ kColl) v⟩,
      ⟨some 42,[0],[],[],[],[],fun _ _ v _=>v=.pointer (some ⟨w.heap.size,0,none⟩)⟩,
      ⟨some 43,[0],[],[],[2],[],fun _ _ v _=>v=.slice Ao no co⟩,
      ⟨some 44,[0],[],[],[3],[],fun st a v w'=>VAt wc.heap.size w' (polyJ outer) v⟩,
      ⟨some 45,[0],[],[],[4],[],fun st a v w'=>PAt wc.heap.size w' kTerr (polyJ outer) v⟩,
      ⟨some 46,[0],[],[],[],[],fun _ _ v _=>v=.slice A5 k c5⟩,
      ⟨some 47,[0],[],[],[6],[],fun st a v w'=>VAt wc.heap.size w' (arrJ ((vs.map Pv.pc).map featJ)) v⟩,
      ⟨some 48,[0],[],[],[7],[],fun st a v w'=>PAt wc.heap.size w' kFeats (arrJ ((vs.map Pv.pc).map featJ)) v⟩,
      ⟨some 49,[0],[],[],[1,5,8],[],fun st a v w'=>MAt wc.heap.size w' [(kType,textJ kColl),(kTerr,polyJ outer),(kFeats,arrJ ((vs.map Pv.pc).map featJ))] v⟩,
      ⟨some 50,[0],[],[],[9],[],fun st a v w'=>VAt wc.heap.size w' JJ v⟩,
      ⟨some 51,[0],[],[],[10],[],fun st a v w'=>∃ A n c,v=.tuple #[.slice A n c,.int .i64 (E:Int)]∧PrO w' R A n c⟩,
      ⟨some 52,[0],[],[],[11],[],fun st a v w'=>∃ A n c,v=.slice A n c∧PrO w' R A n c⟩,
      ⟨some 53,[0],[],[],[11],[],fun _ _ v _=>v=.int .i64 (E:Int)⟩,
      ⟨some 2,[0],[],[],[12],[],fun st a v w'=>∃ A n c,v=.slice A n c∧PrO w' R A n c⟩,
      ⟨some 3,[0],[],[],[13],[],fun _ _ v _=>v=.int .i64 (E:Int)⟩] (fun _ w'=>Below wr.heap.size wr w') (fun _ _ _ _ _=>False) (fun _ w w'=>Below w.heap.size w w') ?gu ?ru ?put [40,41,42,43,44,45,46,47,48,49,50,51,52,53,2,3] rfl (by kernel_rfl) rfl ?g0 ?keep ?steps ?fin
    case ru=>
     intro e he s a v w w' hu hv;simp only [List.mem_cons,List.not_mem_nil,or_false] at he;rcases he with rfl|rfl|rfl|rfl|rfl|rfl|rfl|rfl|rfl|rfl|rfl|rfl|rfl|rfl|rfl|rfl
     all_goals first|exact hv|exact hv.below hu|(obtain ⟨A9,n9,c9,e9,hq⟩:=hv;exact ⟨A9,n9,c9,e9,hq.below hu⟩)
    case put=>
     intro e he s a d u v w hnd hv;simp only [List.mem_cons,List.not_mem_nil,or_false] at he;rcases he with rfl|rfl|rfl|rfl|rfl|rfl|rfl|rfl|rfl|rfl|rfl|rfl|rfl|rfl|rfl|rfl
     all_goals first|exact hv
    case keep=>
     intro e he s s' a v w w' hsl hm ht hv;simp only [List.mem_cons,List.not_mem_nil,or_false] at he;rcases he with rfl|rfl|rfl|rfl|rfl|rfl|rfl|rfl|rfl|rfl|rfl|rfl|rfl|rfl|rfl|rfl
     all_goals first|exact hv|exact ht.elim
    case steps=>
     refine ⟨?_,?_,?_,?_,?_,?_,?_,?_,?_,?_,?_,?_,?_,?_,?_,?_,trivial⟩
     ·intro st hst ac w3 hg hG hd K hK;dsimp only at hst hG hK;have HX:=hide (gtextV kColl w3);clear hG;go_simp;(refine HX.out.mono ?_);rintro e w4 ⟨hb4,v,rfl,hv⟩;exact hK v w4 hb4 (hv _)
     ·intro st hst ac w3 hg hG hd K hK;dsimp only at hst hG hK;obtain ⟨k1,t1,a1,n1,d1,a2,n2,d2,e1,h1⟩:=hd 0 (by simp) _ rfl _ rfl;have HH:=hide h1;clear hG h1;simp [Act.eval] at e1;go_simp;exact hK _ _ bR ⟨_,_,_,_,_,_,_,_,rfl,HH.out⟩
     ·intro st hst ac w3 hg hG hd K hK;dsimp only at hst hG hK;have k1:=hg.kp 1 (by simp);(try simp [Act.eval] at k1);go_simp;exact hK _ _ bR rfl
     ·intro st hst ac w3 hg hG hd K hK;dsimp only at hst hG hK;have kb:=HKP.out.below hG HKP.out.lt;have kk:=kb.cell;have zz:=kb.lt;clear hG kb;have f2:=hd 2 (by simp) _ rfl _ rfl;(try simp [Act.eval] at f2);go_simp;exact hK _ _ bR rfl
     ·intro st hst ac w3 hg hG hd K hK;dsimp only at hst hG hK;have f:=hd 3 (by simp) _ rfl _ rfl;have HX:=hide (gpolygon_any outer Ao no co w3 (HPO.out.later hG) (by omega) (by omega) hoc hocm HO2.out.2.2.2.1 (HTR.out.below hG));have HM:=hide (Nat.le_trans HBR.out.size hG.size);simp [Act.eval] at f;clear hG;go_simp;(refine HX.out.mono ?_);rintro e w4 ⟨hb4,v,rfl,hv⟩;exact hK v w4 hb4 (hv.low HM.out)
     ·intro st hst ac w3 hg hG hd K hK;dsimp only at hst hG hK;obtain ⟨k1,t1,a1,n1,d1,a2,n2,d2,e1,h1⟩:=hd 4 (by simp) _ rfl _ rfl;have HH:=hide h1;clear hG h1;simp [Act.eval] at e1;go_simp;exact hK _ _ bR ⟨_,_,_,_,_,_,_,_,rfl,HH.out⟩
     ·intro st hst ac w3 hg hG hd K hK;dsimp only at hst hG hK;exact op_move _ rfl (hK _ _ bR (hg.kp 4 (by simp)))
     ·intro st hst ac w3 hg hG hd K hK;dsimp only at hst hG hK;have f:=hd 6 (by simp) _ rfl _ rfl;have HX:=hide (garrayV (HLAT.out.below hG));simp [Act.eval] at f;clear hG;go_simp;(refine HX.out.mono ?_);rintro e w4 ⟨hb4,v,rfl,hv⟩;exact hK v w4 hb4 hv
     ·intro st hst ac w3 hg hG hd K hK;dsimp only at hst hG hK;obtain ⟨k1,t1,a1,n1,d1,a2,n2,d2,e1,h1⟩:=hd 7 (by simp) _ rfl _ rfl;have HH:=hide h1;clear hG h1;simp [Act.eval] at e1;go_simp;exact hK _ _ bR ⟨_,_,_,_,_,_,_,_,rfl,HH.out⟩
     ·intro st hst ac w3 hg hG hd K hK;dsimp only at hst hG hK;obtain ⟨k1,t1,a1,n1,d1,a2,n2,d2,e1,h1⟩:=hd 1 (by simp) _ rfl _ rfl;obtain ⟨k3,t3,a3,n3,d3,a4,n4,d4,e3,h3⟩:=hd 5 (by simp) _ rfl _ rfl;obtain ⟨k5,t5,a5,n5,d5,a6,n6,d6,e5,h5⟩:=hd 8 (by simp) _ rfl _ rfl;have H1:=hide h1;have H3:=hide h3;have H5:=hide h5;clear hG h1 h3 h5;simp [Act.eval] at e1 e3 e5;go_simp;exact hK _ _ (al_below w3 _) (MAt.three kType kTerr kFeats H1.out H3.out H5.out)
     ·intro st hst ac w3 hg hG hd K hK;dsimp only at hst hG hK;have g:=hd 9 (by simp) _ rfl _ rfl;obtain ⟨v,hv⟩:∃ v,ac.eval (.tmp 49)=v:=⟨_,rfl⟩;rw [hv] at g;have HX:=hide (gobjectV g (by simp) (Nat.le_trans HBR.out.size hG.size));simp [Act.eval] at hv;clear hG;go_simp;(refine HX.out.mono ?_);rintro e w4 ⟨hb4,v,rfl,hv⟩;exact hK v w4 hb4 (HJJ.out ▸ hv)
     ·intro st hst ac w3 hg hG hd K hK;dsimp only at hst hG hK;obtain ⟨k1,t1,a1,n1,d1,a2,n2,d2,e1,h1⟩:=hd 10 (by simp) _ rfl _ rfl;have HX:=hide (print_any HSM.out (HTR.out.below hG).tabs h1);clear hG h1;simp [Act.eval] at e1;go_simp;(refine HX.out.mono ?_);rintro e w4 ⟨hb4,A9,n9,c9,rfl,q1,q2,q3⟩;exact hK _ w4 hb4 ⟨A9,n9,c9,by rw [HE.out],q1,q2,by rw [← HR.out];exact q3⟩
     ·intro st hst ac w3 hg hG hd K hK;dsimp only at hst hG hK;obtain ⟨A9,n9,c9,e9,hq⟩:=hd 11 (by simp) _ rfl _ rfl;have HQ:=hide hq;clear hG hq;simp [Act.eval] at e9;go_simp;exact hK _ _ bR ⟨A9,n9,c9,rfl,HQ.out⟩
     ·intro st hst ac w3 hg hG hd K hK;dsimp only at hst hG hK;obtain ⟨A9,n9,c9,e9,hq⟩:=hd 11 (by simp) _ rfl _ rfl;clear hG hq;simp [Act.eval] at e9;go_simp;exact hK _ _ bR rfl
     ·intro st hst ac w3 hg hG hd K hK;dsimp only at hst hG hK;exact op_assign _ rfl (hK _ _ bR (hd 12 (by simp) _ rfl _ rfl))
     ·intro st hst ac w3 hg hG hd K hK;dsimp only at hst hG hK;exact op_assign _ rfl (hK _ _ bR (hd 13 (by simp) _ rfl _ rfl))
    case gu=>intro s w1 w2 hG hu;exact hG.trans (hu.mono hG.size)
    case g0=>exact bR.drew
    case fin=>
     intro f9 w9 hG hall;obtain ⟨A9,n9,c9,h9,hq⟩:=hall _ (List.mem_of_getElem? (i:=14) rfl) 2 rfl;have h3:=hall _ (List.mem_of_getElem? (i:=15) rfl) 3 rfl;clear hall;have HQ:=hide hq;have HG9:=hide hG;clear hq hG;simp only [fillF,List.map_cons,List.map_nil,List.foldl_cons,List.foldl_nil,Act.put,List.setIfInBounds_toArray,List.set_cons_zero,List.set_cons_succ];rw [h9,h3];go_wp2_with fail
     go_ret2
     exact ⟨btr (btr (btr HB1.out HB2.out) HBR.out) HG9.out,A9,n9,c9,rfl,HQ.out.1,HQ.out.2.1,HQ.out.2.2⟩
end Go.Proofs.YtacinobmcgcccaaGreatDoor
