/- The JSON reader: a word. -/
import Derived.Test.YtacinobmcgcccaaGreatDoorL18
import Derived.Maps.OwnSet
import Derived.Maps.OwnIn
import Derived.Lib.RuneBytes
set_option linter.unusedSimpArgs false
set_option linter.unusedVariables false
namespace Go.Proofs.YtacinobmcgcccaaGreatDoor
open Go.RowKit
def heldR (v:Value):Option (DataW Value × List MemPlace):=some (.held v,[])
abbrev SMap (w:World) (b n:Nat) (D:DataW Value):Prop:=w.ownsMap Tryz.prog 9 heldR b n D
theorem skeyed:Maps.Keyed Tryz.prog 9:=Maps.string_keyed Tryz.underlying9
def wNull:L8:=[110,117,108,108]
def wFalse:L8:=[102,97,108,115,101]
def wTrue:L8:=[116,114,117,101]
def DW:DataW Value:=(((DataW.map []).put (.string wNull) (.held (.int .i64 1))).put (.string wFalse) (.held (.int .i64 2))).put (.string wTrue) (.held (.int .i64 3))
set_option maxRecDepth 100000 in
set_option maxHeartbeats 1000000 in
theorem words_any (w:World) :
 Calls Tryz.prog 130 #[] w fun e w'=>e=.returned (.map (some w.heap.size))∧SMap w' w.heap.size 3 DW∧Below w.heap.size w w':=by
 have hmm:=@run_makeMap Tryz.prog;have HM:=hide (World.ownsMap_made w Tryz.prog 9 heldR);have key:∀ l:L8,l.length≤10→keyOf Tryz.prog 9 (.string ⟨l.toArray⟩)=some (.string l):=fun l hl=>by
  have:=Go.WideMaps.keyOf_string_mk (P:=Tryz.prog) Tryz.underlying9 (s:=⟨l.toArray⟩) (by unfold maxLen;show l.toArray.size≤_;simp;omega);exact this
 obtain ⟨w1,h1,r1,g1⟩:=HM.out.update skeyed Tryz.underlying173 (by unfold maxLen;omega) (key wNull (by decide)) (val:=.int .i64 1) (d:=.held (.int .i64 1)) (ps:=[]) rfl;obtain ⟨w2,h2,r2,g2⟩:=r1.update skeyed Tryz.underlying173 (by unfold maxLen;omega) (key wFalse (by decide)) (val:=.int .i64 2) (d:=.held (.int .i64 2)) (ps:=[]) rfl;obtain ⟨w3,h3,r3,g3⟩:=r2.update skeyed Tryz.underlying173 (by unfold maxLen;omega) (key wTrue (by decide)) (val:=.int .i64 3) (d:=.held (.int .i64 3)) (ps:=[]) rfl;have HR:=hide r3;have HB:=hide (((((Below.refl w.heap.size w).alloc (Nat.le_refl _) (.map #[] 0)).grown g1 (by simp) (fun k hk=>by injection hk with hk;omega)).grown g2 (by have:=g1.size;simp at this;omega) (fun k hk=>by injection hk with hk;omega)).grown g3 (by have:=g1.size;have:=g2.size;simp at *;omega) (fun k hk=>by injection hk with hk;omega));clear r1 r2 r3 g1 g2 g3 key;unfold wNull at h1;unfold wFalse at h2;unfold wTrue at h3
 go_enter Tryz.func130,Tryz.ntmps130
 go_wp2_with fail
 go_ret;exact ⟨rfl,HR.out,HB.out⟩
def kindW (l:L8):Nat:=if l=wNull then 1 else if l=wFalse then 2 else if l=wTrue then 3 else 0
theorem dw_is:DW=.map [(.string wFalse,.held (.int .i64 2)),(.string wNull,.held (.int .i64 1)),(.string wTrue,.held (.int .i64 3))]:=by rfl
theorem same_str (a l:L8):(Lit.string a).sameKey (.string l)=decide (a=l):=by
 by_cases h:a=l
 ·subst h;simp [Lit.sameKey]
 ·have:(a == l)=false:=by simpa using h
  simp [Lit.sameKey,h,this]
theorem dw_at (l:L8):DW.atKey (.string l) (.held (.int .i64 0))=.held (.int .i64 (kindW l:Int)):=by
 rw [dw_is];unfold kindW DataW.atKey;simp only [List.find?_cons,same_str];by_cases h1:l=wNull
 ·subst h1;rfl
 ·by_cases h2:l=wFalse
  ·subst h2;rfl
  ·by_cases h3:l=wTrue
   ·subst h3;rfl
   ·have a1:decide (wFalse=l)=false:=by simpa using fun e:wFalse=l=>h2 e.symm
    have a2:decide (wNull=l)=false:=by simpa using fun e:wNull=l=>h1 e.symm
    have a3:decide (wTrue=l)=false:=by simpa using fun e:wTrue=l=>h3 e.symm
    rw [a1,a2,a3,if_neg h1,if_neg h2,if_neg h3];rfl
theorem dw_has (l:L8):Maps.has DW (.string l)=(kindW l != 0):=by
 rw [dw_is];unfold kindW Maps.has;simp only [List.any_cons,List.any_nil,same_str];by_cases h1:l=wNull
 ·subst h1;rfl
 ·by_cases h2:l=wFalse
  ·subst h2;rfl
  ·by_cases h3:l=wTrue
   ·subst h3;rfl
   ·have a1:decide (wFalse=l)=false:=by simpa using fun e:wFalse=l=>h2 e.symm
    have a2:decide (wNull=l)=false:=by simpa using fun e:wNull=l=>h1 e.symm
    have a3:decide (wTrue=l)=false:=by simpa using fun e:wTrue=l=>h3 e.symm
    rw [a1,a2,a3,if_neg h1,if_neg h2,if_neg h3];rfl
def isLo (c:UInt8):Bool:=decide (97≤c.toNat)&&decide (c.toNat≤122)
def runLo (s:L8):Nat:=(s.takeWhile isLo).length
theorem runLo_le (s:L8):runLo s≤s.length:=(List.takeWhile_sublist _).length_le
theorem runLo_at {b:L8} (i:Nat) (h:i<b.length):runLo (b.drop i)=if isLo b[i] then runLo (b.drop (i+1))+1 else 0:=by
 rw [drop_cons h];unfold runLo;rw [List.takeWhile_cons];split <;> rfl
theorem wp_lookup_own_ok {P:Program} (w:World) {o:Oper} {a:Act} {K:Act→World→Prop} {Q:Exit→Act→World→Prop} (m x:Operand) (t:TypeId) (hop:o.op=Op.lookup t m x true)
 (k e:TypeId) (Kd:Maps.Keyed P k) (ht:P.underlying t=some (.map k e)) (R:Value→Option (DataW Value × List MemPlace)) {z:Value} (hz:(zeroValue e).run P w=.ok z w) (zd:DataW Value) (zp:List MemPlace) (hzd:R z=some (zd,zp)) (b n:Nat) (D:DataW Value)
 (hm:a.eval m=.map (some b)) (hown:w.ownsMap P k R b n D) (key:Value) (kl:Lit) (hx:a.eval x=key) (hkey:keyOf P k key=some kl)
 (hK:∀ v ps,R v=some (D.atKey kl zd,ps)→K (a.put o.dst (.tuple #[v,.bool (Maps.has D kl)])) w):o.wp P a w K Q:=by
 obtain ⟨v,ps,hrun,hv⟩:=hown.look_ok Kd ht hz hzd hkey;unfold Oper.wp;simp [execOp,hop,hm,hx,hrun,Result.andThen];exact hK v ps hv
theorem RB.sub' {w:World} {B:Nat} {ad:Addr} {n:Nat} {l:L8} (h:RB w B (some ad) n l) {i k:Nat} (hk:i+k≤n) (h0:i<n):RB w B (some (ad.add i)) k ((l.drop i).take k):=by
 obtain ⟨ad',e,hb,hcell⟩:=h.2 (by omega);injection e with e;subst e;have hl:=RB.len h;refine ⟨by rw [cs8_len,List.length_take,List.length_drop];omega,fun _=>⟨_,rfl,by rw [block_of_add];exact hb,fun j u hu=>?_⟩⟩;rw [add_of_add];refine hcell _ u ?_;rw [cs8_get] at hu ⊢;rw [List.getElem?_take] at hu;split at hu
 ·rw [List.getElem?_drop] at hu;exact hu
 ·cases hu
section
variable {w w':World} {rb:Nat} {A:Option Addr} {n c:Nat} {b:L8} {at_ k ta:Nat} {tx:L8}
set_option maxRecDepth 100000 in
set_option maxHeartbeats 2000000 in
theorem word_any (h:Rd w rb A n c b at_ k ta tx) (hpos:at_<n) :
 Calls Tryz.prog 78 #[.pointer (some ⟨rb,0,none⟩)] w fun e w'=>
  (kindW ((b.drop at_).take (runLo (b.drop at_)))≠0∧e=.returned (.tuple #[])∧Rd w' rb A n c b (at_+runLo (b.drop at_)) (kindW ((b.drop at_).take (runLo (b.drop at_)))) ta tx∧w.grownBy w' (some rb))∨(kindW ((b.drop at_).take (runLo (b.drop at_)))=0∧e=.panicked (flt ta 11)∧Below w.heap.size w w'):=by
 have H:=hide h;have HL:=hide h.len;have kr:=h.blk.cell;have fr:=h.blk.frozen;have zr:=h.blk.lt;have hat:=h.ha;have hn:=h.hn;obtain ⟨ad,hA,hab,hcell⟩:=h.rd.2 (by omega);subst hA;have HC:=hide hcell;have HA:=hide hab;clear h hcell hab
 go_enter Tryz.func78,Tryz.ntmps78
 go_wp2_with fail
 clear kr fr zr
 go_loopw [2] (fun iv wr=>∃ j:Nat,at_≤j∧j≤n∧iv=.int .i64 (j:Int)∧Hid (wr=w)∧Hid (j+runLo (b.drop j)=at_+runLo (b.drop at_))) (fun iv _=>n - (intOf iv).toNat)
 case atStart=>exact ⟨at_,by omega,by omega,rfl,by first|trivial|exact hide rfl,by first|trivial|exact hide rfl⟩
 case round=>
  obtain ⟨j,hij,hj,rfl,hwr,HR⟩:=hrel;obtain rfl:wr=w:=hwr;have kr:=H.out.blk.cell;have fr:=H.out.blk.frozen;have zr:=H.out.blk.lt;by_cases hjn:j<n
  ·have hjb:j<b.length:=by rw [HL.out];exact hjn
   obtain ⟨x,hx⟩:∃ x,b[j]=x:=⟨_,rfl⟩;have cx:wr.cell? (ad.add j)=some (.int .u8 (x.toNat:Int)):=HC.out j _ (by rw [cs8_get,List.getElem?_eq_getElem hjb,hx];rfl);have zx:ad.block<wr.heap.size:=HA.out;have HRL:=hide (show runLo (b.drop j)=if isLo x then runLo (b.drop (j+1))+1 else 0 by rw [runLo_at j hjb,hx]);clear hx hjb;by_cases h1:97≤x.toNat
   ·have d1:decide ((97:Int)≤(x.toNat:Int))=true:=by simp;omega
    by_cases h2:x.toNat≤122
    ·have d2:decide ((x.toNat:Int)≤122)=true:=by simp;omega
     have HRN:=hide (show j+1+runLo (b.drop (j+1))=at_+runLo (b.drop at_) by
      have e1:=HRL.out;have e2:isLo x=true:=by unfold isLo;simp [h1,h2]
      rw [if_pos e2] at e1;have:=HR.out;omega)
     clear HR HRL;go_wp2_with fail
     go_roundw
     case rel=>exact ⟨j+1,by omega,by omega,by go_num,by first|trivial|exact hide rfl,HRN⟩
     case measure=>simp [intOf];omega
    ·have d2:decide ((x.toNat:Int)≤122)=false:=by simp;omega
     have HR0:=hide (show runLo (b.drop j)=0 by
      have e1:=HRL.out;have e2:isLo x=false:=by unfold isLo;simp [h2]
      rw [e2] at e1;exact e1)
     have HR:=hide (show j=at_+runLo (b.drop at_) by have:=HR.out;have:=HR0.out;omega);clear HRL HR0;have HJE:=hide (show at_+runLo (b.drop at_)=j by have:=HR.out;omega);clear HR;go_upto_region 3 with fail
     clear kr fr zr;obtain ⟨L,hL⟩:∃ L,(b.drop at_).take (j - at_)=L:=⟨_,rfl⟩;have HSUB:=hide (RB.sub' H.out.rd (i:=at_) (k:=j - at_) (by omega) hpos);rw [hL] at HSUB;have HLL:=hide (show (b.drop at_).take (runLo (b.drop at_))=L by rw [← hL];congr 1;have:=HJE.out;omega);have HLN:=hide (show L.length≤262144 by rw [← hL,List.length_take,List.length_drop];have:=HL.out;omega);have hfar:=H.out.far ad rfl;have hcc:¬ c=at_:=by have:=H.out.hc;omega
     have hcn:=H.out.hc;have hz:∀ W:World,(zeroValue 3).run Tryz.prog W=.ok (.int .i64 0) W:=Tryz.zeroValue3;clear hL;refine wp_region_stage (by kernel_rfl) (by kernel_rfl) 67 1
      [⟨some 39,true,0,0,fun st v w'=>st=1 → ∃ g,v=.map (some g)∧SMap w' g 3 DW⟩,
       ⟨some 40,false,0,1,fun _ v _=>v=.pointer (some ⟨rb,0,none⟩)⟩,
       ⟨some 41,false,0,1,fun _ v _=>v=.pointer (some ⟨rb,0,none⟩)⟩,
       ⟨some 42,false,0,1,fun _ v _=>v=.pointer (some ⟨rb,0,none⟩)⟩,
       ⟨some 43,false,0,1,fun _ v _=>v=.slice (some ad) n c⟩,
       ⟨some 44,false,0,1,fun _ v _=>v=.pointer (some ⟨rb,0,none⟩)⟩,
       ⟨some 45,false,0,1,fun _ v _=>v=.pointer (some ⟨rb,0,none⟩)⟩,
       ⟨some 46,false,0,1,fun _ v _=>v=.pointer (some ⟨rb,1,none⟩)⟩,
       ⟨some 47,false,0,1,fun _ v _=>v=.int .i64 (at_:Int)⟩,
       ⟨some 48,false,0,1,fun _ v _=>v=.int .i64 (j:Int)⟩,
       ⟨some 49,false,0,1,fun _ v _=>v=.slice (some (ad.add at_)) (j - at_) (c - at_)⟩,
       ⟨some 50,false,0,1,fun _ v _=>v=.string ⟨L.toArray⟩⟩,
       ⟨some 51,false,1,1,fun _ v _=>v=.tuple #[.int .i64 (kindW L:Int),.bool (kindW L != 0)]⟩,
       ⟨some 38,false,1,1,fun _ v _=>v=.tuple #[.int .i64 (kindW L:Int),.bool (kindW L != 0)]⟩,
       ⟨some 52,false,1,1,fun _ v _=>v=.int .i64 (kindW L:Int)⟩,
       ⟨some 53,false,1,1,fun _ v _=>v=.bool (kindW L != 0)⟩,
       ⟨some 3,false,1,1,fun _ v _=>v=.int .i64 (kindW L:Int)⟩,
       ⟨some 4,false,1,1,fun _ v _=>v=.bool (kindW L != 0)⟩] (fun st w'=>Below wr.heap.size wr w') (fun _ w w'=>True) [39,40,41,42,43,44,45,46,47,48,49,50,51,38,52,53,3,4] rfl (by kernel_rfl) rfl ?g0 ?keep ?steps ?fin
     case keep=>
      intro e he s v w w' hm hsM ht hv;simp only [List.mem_cons,List.not_mem_nil,or_false] at he;rcases he with rfl|rfl|rfl|rfl|rfl|rfl|rfl|rfl|rfl|rfl|rfl|rfl|rfl|rfl|rfl|rfl|rfl|rfl
      all_goals first|exact hv|(intro h3;have:=hm rfl;simp only [] at this;omega)
     case steps=>
      refine ⟨?_,?_,?_,?_,?_,?_,?_,?_,?_,?_,?_,?_,?_,?_,?_,?_,?_,?_,trivial⟩
      ·intro ac w3 hg hG hd K hK;dsimp only [Nat.zero_add,Nat.reduceAdd] at hG hK;go_simp;(refine (words_any w3).mono ?_);rintro e w4 ⟨rfl,hm,hb⟩;exact hK _ w4 trivial (hG.trans (hb.mono hG.size)) (fun _=>⟨_,rfl,hm⟩)
      ·intro st hlo hhi ac w3 hg hG hd K hK;dsimp only at hlo hhi hG hK;exact op_move _ rfl (hK _ (hg.kp 0 (by simp)))
      ·intro st hlo hhi ac w3 hg hG hd K hK;dsimp only at hlo hhi hG hK;have f1:=hd ⟨1,.data⟩ (by simp) rfl _ rfl _ rfl;(try simp [Act.eval] at f1);go_simp;exact hK _ rfl
      ·intro st hlo hhi ac w3 hg hG hd K hK;dsimp only at hlo hhi hG hK;have f2:=hd ⟨2,.data⟩ (by simp) rfl _ rfl _ rfl;(try simp [Act.eval] at f2);go_simp;exact hK _ rfl
      ·intro st hlo hhi ac w3 hg hG hd K hK;dsimp only at hlo hhi hG hK;have kk:=(H.out.below hG).blk.cell 0;have zz:=(H.out.below hG).blk.lt;simp at kk;have f3:=hd ⟨3,.data⟩ (by simp) rfl _ rfl _ rfl;(try simp [Act.eval] at f3);go_simp;exact hK _ rfl
      ·intro st hlo hhi ac w3 hg hG hd K hK;dsimp only at hlo hhi hG hK;exact op_move _ rfl (hK _ (hg.kp 0 (by simp)))
      ·intro st hlo hhi ac w3 hg hG hd K hK;dsimp only at hlo hhi hG hK;have f5:=hd ⟨5,.data⟩ (by simp) rfl _ rfl _ rfl;(try simp [Act.eval] at f5);go_simp;exact hK _ rfl
      ·intro st hlo hhi ac w3 hg hG hd K hK;dsimp only at hlo hhi hG hK;have f6:=hd ⟨6,.data⟩ (by simp) rfl _ rfl _ rfl;(try simp [Act.eval] at f6);go_simp;exact hK _ rfl
      ·intro st hlo hhi ac w3 hg hG hd K hK;dsimp only at hlo hhi hG hK;have kk:=(H.out.below hG).blk.cell 1;have zz:=(H.out.below hG).blk.lt;simp at kk;have f7:=hd ⟨7,.data⟩ (by simp) rfl _ rfl _ rfl;(try simp [Act.eval] at f7);go_simp;exact hK _ rfl
      ·intro st hlo hhi ac w3 hg hG hd K hK;dsimp only at hlo hhi hG hK;exact op_move _ rfl (hK _ (hg.kp 2 (by simp)))
      ·intro st hlo hhi ac w3 hg hG hd K hK;dsimp only at hlo hhi hG hK;have f4:=hd ⟨4,.data⟩ (by simp) rfl _ rfl _ rfl;have f8:=hd ⟨8,.data⟩ (by simp) rfl _ rfl _ rfl;have f9:=hd ⟨9,.data⟩ (by simp) rfl _ rfl _ rfl;simp [Act.eval] at f4 f8 f9;go_simp;rw [if_pos (show j≤c by omega)];(try rw [if_pos (show at_≤j by omega)]);exact hK _ rfl
      ·intro st hlo hhi ac w3 hg hG hd K hK;dsimp only at hlo hhi hG hK;have f10:=hd ⟨10,.data⟩ (by simp) rfl _ rfl _ rfl;have hcv:=convert_any (c:=c - at_) ((HSUB.out.below hG).more hG.size);unfold bstr at hcv;clear hG;simp [Act.eval] at f10;go_simp;exact hK _ rfl
      ·intro st hlo hhi ac w3 hg hG hd K hK;dsimp only at hlo hhi hG hK;have hst:st=1:=by omega
       subst hst;obtain ⟨g,f0,hm⟩:=hd ⟨0,.data⟩ (by simp) rfl _ rfl _ rfl rfl;have f11:=hd ⟨11,.data⟩ (by simp) rfl _ rfl _ rfl;refine wp_lookup_own_ok w3 _ _ 173 rfl 9 3 skeyed Tryz.underlying173 heldR (hz w3) (.held (.int .i64 0)) [] rfl g 3 DW f0 hm _ (.string L) f11 (by have hk:=Go.WideMaps.keyOf_string_mk (P:=Tryz.prog) Tryz.underlying9 (s:=⟨L.toArray⟩) (by unfold maxLen;show L.toArray.size≤_;have:=HLN.out;simp;omega);exact hk) ?_;intro v ps hv;rw [dw_at] at hv;unfold heldR at hv;(obtain rfl:v=.int .i64 (kindW L:Int):=by (injection hv with hv;injection hv with hv _;injection hv));rw [dw_has];exact hK _ rfl
      ·intro st hlo hhi ac w3 hg hG hd K hK;dsimp only at hlo hhi hG hK;exact op_move _ rfl (hK _ (hd ⟨12,.data⟩ (by simp) rfl _ rfl _ rfl))
      ·intro st hlo hhi ac w3 hg hG hd K hK;dsimp only at hlo hhi hG hK;have f13:=hd ⟨13,.data⟩ (by simp) rfl _ rfl _ rfl;(try simp [Act.eval] at f13);go_simp;exact hK _ rfl
      ·intro st hlo hhi ac w3 hg hG hd K hK;dsimp only at hlo hhi hG hK;have f13:=hd ⟨13,.data⟩ (by simp) rfl _ rfl _ rfl;(try simp [Act.eval] at f13);go_simp;exact hK _ rfl
      ·intro st hlo hhi ac w3 hg hG hd K hK;dsimp only at hlo hhi hG hK;exact op_assign _ rfl (hK _ (hd ⟨14,.data⟩ (by simp) rfl _ rfl _ rfl))
      ·intro st hlo hhi ac w3 hg hG hd K hK;dsimp only at hlo hhi hG hK;exact op_assign _ rfl (hK _ (hd ⟨15,.data⟩ (by simp) rfl _ rfl _ rfl))
     case g0=>exact bR.drew
     case fin=>
      intro f w5 hG hall;have f3:f 3=.int .i64 (kindW L:Int):=hall _ (List.mem_of_getElem? (i:=16) rfl) 3 rfl;have f4:f 4=.bool (kindW L != 0):=hall _ (List.mem_of_getElem? (i:=17) rfl) 4 rfl;clear hall;simp only [fillF,List.map_cons,List.map_nil,List.foldl_cons,List.foldl_nil,Act.put,List.setIfInBounds_toArray,List.set_cons_zero,List.set_cons_succ];rw [f3,f4];clear f3 f4;have HB5:=hide hG;have HQ:=hide (H.out.below hG);clear hG;obtain ⟨kd,hkd⟩:∃ kd,kindW L=kd:=⟨_,rfl⟩;rw [hkd];have HKD:=hide hkd;clear hkd;by_cases h0:kd=0
      ·have d0:(kd != 0)=false:=by simpa using h0
       rw [d0];go_wp2_with (go_at_call 35;(refine (fail_any 11 HQ.out).mono ?_);rintro e w6 ⟨rfl,hb⟩;have HB6:=hide (HB5.out.trans (hb.mono HB5.out.size));clear hb)
       exact ⟨rfl,.inr ⟨by rw [HLL.out,HKD.out];exact h0,rfl,HB6.out⟩⟩
      ·have d0:(kd != 0)=true:=by simpa using h0
       rw [d0];have kr:=HQ.out.blk.cell;have fr:=HQ.out.blk.frozen;have zr:=HQ.out.blk.lt;go_wp2_with fail
       refine ⟨rfl,.tuple #[],results_none rfl _ _ _,.inl ⟨by rw [HLL.out,HKD.out];exact h0,rfl,?_,gb_trans (gb_trans (gb_below HB5.out) (gby_set w5 rb 2 _)) (gby_set _ rb 1 _)⟩⟩;rw [HLL.out,HJE.out,HKD.out];exact HQ.out.own (gb_trans (gby_set w5 rb 2 _) (gby_set _ rb 1 _)) ((HQ.out.blk.set_ 2 (.int .i64 (kd:Int))).set_ 1 (.int .i64 (j:Int))) hj
   ·have d1:decide ((97:Int)≤(x.toNat:Int))=false:=by simp;omega
    have HR0:=hide (show runLo (b.drop j)=0 by
     have e1:=HRL.out;have e2:isLo x=false:=by unfold isLo;simp [h1]
     rw [e2] at e1;exact e1)
    have HR:=hide (show j=at_+runLo (b.drop at_) by have:=HR.out;have:=HR0.out;omega);clear HRL HR0;have HJE:=hide (show at_+runLo (b.drop at_)=j by have:=HR.out;omega);clear HR;go_upto_region 3 with fail
    clear kr fr zr;obtain ⟨L,hL⟩:∃ L,(b.drop at_).take (j - at_)=L:=⟨_,rfl⟩;have HSUB:=hide (RB.sub' H.out.rd (i:=at_) (k:=j - at_) (by omega) hpos);rw [hL] at HSUB;have HLL:=hide (show (b.drop at_).take (runLo (b.drop at_))=L by rw [← hL];congr 1;have:=HJE.out;omega);have HLN:=hide (show L.length≤262144 by rw [← hL,List.length_take,List.length_drop];have:=HL.out;omega);have hfar:=H.out.far ad rfl;have hcc:¬ c=at_:=by have:=H.out.hc;omega
    have hcn:=H.out.hc;have hz:∀ W:World,(zeroValue 3).run Tryz.prog W=.ok (.int .i64 0) W:=Tryz.zeroValue3;clear hL;refine wp_region_stage (by kernel_rfl) (by kernel_rfl) 67 1
     [⟨some 39,true,0,0,fun st v w'=>st=1 → ∃ g,v=.map (some g)∧SMap w' g 3 DW⟩,
      ⟨some 40,false,0,1,fun _ v _=>v=.pointer (some ⟨rb,0,none⟩)⟩,
      ⟨some 41,false,0,1,fun _ v _=>v=.pointer (some ⟨rb,0,none⟩)⟩,
      ⟨some 42,false,0,1,fun _ v _=>v=.pointer (some ⟨rb,0,none⟩)⟩,
      ⟨some 43,false,0,1,fun _ v _=>v=.slice (some ad) n c⟩,
      ⟨some 44,false,0,1,fun _ v _=>v=.pointer (some ⟨rb,0,none⟩)⟩,
      ⟨some 45,false,0,1,fun _ v _=>v=.pointer (some ⟨rb,0,none⟩)⟩,
      ⟨some 46,false,0,1,fun _ v _=>v=.pointer (some ⟨rb,1,none⟩)⟩,
      ⟨some 47,false,0,1,fun _ v _=>v=.int .i64 (at_:Int)⟩,
      ⟨some 48,false,0,1,fun _ v _=>v=.int .i64 (j:Int)⟩,
      ⟨some 49,false,0,1,fun _ v _=>v=.slice (some (ad.add at_)) (j - at_) (c - at_)⟩,
      ⟨some 50,false,0,1,fun _ v _=>v=.string ⟨L.toArray⟩⟩,
      ⟨some 51,false,1,1,fun _ v _=>v=.tuple #[.int .i64 (kindW L:Int),.bool (kindW L != 0)]⟩,
      ⟨some 38,false,1,1,fun _ v _=>v=.tuple #[.int .i64 (kindW L:Int),.bool (kindW L != 0)]⟩,
      ⟨some 52,false,1,1,fun _ v _=>v=.int .i64 (kindW L:Int)⟩,
      ⟨some 53,false,1,1,fun _ v _=>v=.bool (kindW L != 0)⟩,
      ⟨some 3,false,1,1,fun _ v _=>v=.int .i64 (kindW L:Int)⟩,
      ⟨some 4,false,1,1,fun _ v _=>v=.bool (kindW L != 0)⟩] (fun st w'=>Below wr.heap.size wr w') (fun _ w w'=>True) [39,40,41,42,43,44,45,46,47,48,49,50,51,38,52,53,3,4] rfl (by kernel_rfl) rfl ?g0 ?keep ?steps ?fin
    case keep=>
     intro e he s v w w' hm hsM ht hv;simp only [List.mem_cons,List.not_mem_nil,or_false] at he;rcases he with rfl|rfl|rfl|rfl|rfl|rfl|rfl|rfl|rfl|rfl|rfl|rfl|rfl|rfl|rfl|rfl|rfl|rfl
     all_goals first|exact hv|(intro h3;have:=hm rfl;simp only [] at this;omega)
    case steps=>
     refine ⟨?_,?_,?_,?_,?_,?_,?_,?_,?_,?_,?_,?_,?_,?_,?_,?_,?_,?_,trivial⟩
     ·intro ac w3 hg hG hd K hK;dsimp only [Nat.zero_add,Nat.reduceAdd] at hG hK;go_simp;(refine (words_any w3).mono ?_);rintro e w4 ⟨rfl,hm,hb⟩;exact hK _ w4 trivial (hG.trans (hb.mono hG.size)) (fun _=>⟨_,rfl,hm⟩)
     ·intro st hlo hhi ac w3 hg hG hd K hK;dsimp only at hlo hhi hG hK;exact op_move _ rfl (hK _ (hg.kp 0 (by simp)))
     ·intro st hlo hhi ac w3 hg hG hd K hK;dsimp only at hlo hhi hG hK;have f1:=hd ⟨1,.data⟩ (by simp) rfl _ rfl _ rfl;(try simp [Act.eval] at f1);go_simp;exact hK _ rfl
     ·intro st hlo hhi ac w3 hg hG hd K hK;dsimp only at hlo hhi hG hK;have f2:=hd ⟨2,.data⟩ (by simp) rfl _ rfl _ rfl;(try simp [Act.eval] at f2);go_simp;exact hK _ rfl
     ·intro st hlo hhi ac w3 hg hG hd K hK;dsimp only at hlo hhi hG hK;have kk:=(H.out.below hG).blk.cell 0;have zz:=(H.out.below hG).blk.lt;simp at kk;have f3:=hd ⟨3,.data⟩ (by simp) rfl _ rfl _ rfl;(try simp [Act.eval] at f3);go_simp;exact hK _ rfl
     ·intro st hlo hhi ac w3 hg hG hd K hK;dsimp only at hlo hhi hG hK;exact op_move _ rfl (hK _ (hg.kp 0 (by simp)))
     ·intro st hlo hhi ac w3 hg hG hd K hK;dsimp only at hlo hhi hG hK;have f5:=hd ⟨5,.data⟩ (by simp) rfl _ rfl _ rfl;(try simp [Act.eval] at f5);go_simp;exact hK _ rfl
     ·intro st hlo hhi ac w3 hg hG hd K hK;dsimp only at hlo hhi hG hK;have f6:=hd ⟨6,.data⟩ (by simp) rfl _ rfl _ rfl;(try simp [Act.eval] at f6);go_simp;exact hK _ rfl
     ·intro st hlo hhi ac w3 hg hG hd K hK;dsimp only at hlo hhi hG hK;have kk:=(H.out.below hG).blk.cell 1;have zz:=(H.out.below hG).blk.lt;simp at kk;have f7:=hd ⟨7,.data⟩ (by simp) rfl _ rfl _ rfl;(try simp [Act.eval] at f7);go_simp;exact hK _ rfl
     ·intro st hlo hhi ac w3 hg hG hd K hK;dsimp only at hlo hhi hG hK;exact op_move _ rfl (hK _ (hg.kp 2 (by simp)))
     ·intro st hlo hhi ac w3 hg hG hd K hK;dsimp only at hlo hhi hG hK;have f4:=hd ⟨4,.data⟩ (by simp) rfl _ rfl _ rfl;have f8:=hd ⟨8,.data⟩ (by simp) rfl _ rfl _ rfl;have f9:=hd ⟨9,.data⟩ (by simp) rfl _ rfl _ rfl;simp [Act.eval] at f4 f8 f9;go_simp;rw [if_pos (show j≤c by omega)];(try rw [if_pos (show at_≤j by omega)]);exact hK _ rfl
     ·intro st hlo hhi ac w3 hg hG hd K hK;dsimp only at hlo hhi hG hK;have f10:=hd ⟨10,.data⟩ (by simp) rfl _ rfl _ rfl;have hcv:=convert_any (c:=c - at_) ((HSUB.out.below hG).more hG.size);unfold bstr at hcv;clear hG;simp [Act.eval] at f10;go_simp;exact hK _ rfl
     ·intro st hlo hhi ac w3 hg hG hd K hK;dsimp only at hlo hhi hG hK;have hst:st=1:=by omega
      subst hst;obtain ⟨g,f0,hm⟩:=hd ⟨0,.data⟩ (by simp) rfl _ rfl _ rfl rfl;have f11:=hd ⟨11,.data⟩ (by simp) rfl _ rfl _ rfl;refine wp_lookup_own_ok w3 _ _ 173 rfl 9 3 skeyed Tryz.underlying173 heldR (hz w3) (.held (.int .i64 0)) [] rfl g 3 DW f0 hm _ (.string L) f11 (by have hk:=Go.WideMaps.keyOf_string_mk (P:=Tryz.prog) Tryz.underlying9 (s:=⟨L.toArray⟩) (by unfold maxLen;show L.toArray.size≤_;have:=HLN.out;simp;omega);exact hk) ?_;intro v ps hv;rw [dw_at] at hv;unfold heldR at hv;(obtain rfl:v=.int .i64 (kindW L:Int):=by (injection hv with hv;injection hv with hv _;injection hv));rw [dw_has];exact hK _ rfl
     ·intro st hlo hhi ac w3 hg hG hd K hK;dsimp only at hlo hhi hG hK;exact op_move _ rfl (hK _ (hd ⟨12,.data⟩ (by simp) rfl _ rfl _ rfl))
     ·intro st hlo hhi ac w3 hg hG hd K hK;dsimp only at hlo hhi hG hK;have f13:=hd ⟨13,.data⟩ (by simp) rfl _ rfl _ rfl;(try simp [Act.eval] at f13);go_simp;exact hK _ rfl
     ·intro st hlo hhi ac w3 hg hG hd K hK;dsimp only at hlo hhi hG hK;have f13:=hd ⟨13,.data⟩ (by simp) rfl _ rfl _ rfl;(try simp [Act.eval] at f13);go_simp;exact hK _ rfl
     ·intro st hlo hhi ac w3 hg hG hd K hK;dsimp only at hlo hhi hG hK;exact op_assign _ rfl (hK _ (hd ⟨14,.data⟩ (by simp) rfl _ rfl _ rfl))
     ·intro st hlo hhi ac w3 hg hG hd K hK;dsimp only at hlo hhi hG hK;exact op_assign _ rfl (hK _ (hd ⟨15,.data⟩ (by simp) rfl _ rfl _ rfl))
    case g0=>exact bR.drew
    case fin=>
     intro f w5 hG hall;have f3:f 3=.int .i64 (kindW L:Int):=hall _ (List.mem_of_getElem? (i:=16) rfl) 3 rfl;have f4:f 4=.bool (kindW L != 0):=hall _ (List.mem_of_getElem? (i:=17) rfl) 4 rfl;clear hall;simp only [fillF,List.map_cons,List.map_nil,List.foldl_cons,List.foldl_nil,Act.put,List.setIfInBounds_toArray,List.set_cons_zero,List.set_cons_succ];rw [f3,f4];clear f3 f4;have HB5:=hide hG;have HQ:=hide (H.out.below hG);clear hG;obtain ⟨kd,hkd⟩:∃ kd,kindW L=kd:=⟨_,rfl⟩;rw [hkd];have HKD:=hide hkd;clear hkd;by_cases h0:kd=0
     ·have d0:(kd != 0)=false:=by simpa using h0
      rw [d0];go_wp2_with (go_at_call 35;(refine (fail_any 11 HQ.out).mono ?_);rintro e w6 ⟨rfl,hb⟩;have HB6:=hide (HB5.out.trans (hb.mono HB5.out.size));clear hb)
      exact ⟨rfl,.inr ⟨by rw [HLL.out,HKD.out];exact h0,rfl,HB6.out⟩⟩
     ·have d0:(kd != 0)=true:=by simpa using h0
      rw [d0];have kr:=HQ.out.blk.cell;have fr:=HQ.out.blk.frozen;have zr:=HQ.out.blk.lt;go_wp2_with fail
      refine ⟨rfl,.tuple #[],results_none rfl _ _ _,.inl ⟨by rw [HLL.out,HKD.out];exact h0,rfl,?_,gb_trans (gb_trans (gb_below HB5.out) (gby_set w5 rb 2 _)) (gby_set _ rb 1 _)⟩⟩;rw [HLL.out,HJE.out,HKD.out];exact HQ.out.own (gb_trans (gby_set w5 rb 2 _) (gby_set _ rb 1 _)) ((HQ.out.blk.set_ 2 (.int .i64 (kd:Int))).set_ 1 (.int .i64 (j:Int))) hj
  ·have HR:=hide (show j=at_+runLo (b.drop at_) by
    have e1:=HR.out;have e2:runLo (b.drop j)=0:=by rw [List.drop_of_length_le (by rw [HL.out];omega)];rfl
    omega)
   have HJE:=hide (show at_+runLo (b.drop at_)=j by have:=HR.out;omega);clear HR;go_upto_region 3 with fail
   clear kr fr zr;obtain ⟨L,hL⟩:∃ L,(b.drop at_).take (j - at_)=L:=⟨_,rfl⟩;have HSUB:=hide (RB.sub' H.out.rd (i:=at_) (k:=j - at_) (by omega) hpos);rw [hL] at HSUB;have HLL:=hide (show (b.drop at_).take (runLo (b.drop at_))=L by rw [← hL];congr 1;have:=HJE.out;omega);have HLN:=hide (show L.length≤262144 by rw [← hL,List.length_take,List.length_drop];have:=HL.out;omega);have hfar:=H.out.far ad rfl;have hcc:¬ c=at_:=by have:=H.out.hc;omega
   have hcn:=H.out.hc;have hz:∀ W:World,(zeroValue 3).run Tryz.prog W=.ok (.int .i64 0) W:=Tryz.zeroValue3;clear hL;refine wp_region_stage (by kernel_rfl) (by kernel_rfl) 67 1
    [⟨some 39,true,0,0,fun st v w'=>st=1 → ∃ g,v=.map (some g)∧SMap w' g 3 DW⟩,
     ⟨some 40,false,0,1,fun _ v _=>v=.pointer (some ⟨rb,0,none⟩)⟩,
     ⟨some 41,false,0,1,fun _ v _=>v=.pointer (some ⟨rb,0,none⟩)⟩,
     ⟨some 42,false,0,1,fun _ v _=>v=.pointer (some ⟨rb,0,none⟩)⟩,
     ⟨some 43,false,0,1,fun _ v _=>v=.slice (some ad) n c⟩,
     ⟨some 44,false,0,1,fun _ v _=>v=.pointer (some ⟨rb,0,none⟩)⟩,
     ⟨some 45,false,0,1,fun _ v _=>v=.pointer (some ⟨rb,0,none⟩)⟩,
     ⟨some 46,false,0,1,fun _ v _=>v=.pointer (some ⟨rb,1,none⟩)⟩,
     ⟨some 47,false,0,1,fun _ v _=>v=.int .i64 (at_:Int)⟩,
     ⟨some 48,false,0,1,fun _ v _=>v=.int .i64 (j:Int)⟩,
     ⟨some 49,false,0,1,fun _ v _=>v=.slice (some (ad.add at_)) (j - at_) (c - at_)⟩,
     ⟨some 50,false,0,1,fun _ v _=>v=.string ⟨L.toArray⟩⟩,
     ⟨some 51,false,1,1,fun _ v _=>v=.tuple #[.int .i64 (kindW L:Int),.bool (kindW L != 0)]⟩,
     ⟨some 38,false,1,1,fun _ v _=>v=.tuple #[.int .i64 (kindW L:Int),.bool (kindW L != 0)]⟩,
     ⟨some 52,false,1,1,fun _ v _=>v=.int .i64 (kindW L:Int)⟩,
     ⟨some 53,false,1,1,fun _ v _=>v=.bool (kindW L != 0)⟩,
     ⟨some 3,false,1,1,fun _ v _=>v=.int .i64 (kindW L:Int)⟩,
     ⟨some 4,false,1,1,fun _ v _=>v=.bool (kindW L != 0)⟩] (fun st w'=>Below wr.heap.size wr w') (fun _ w w'=>True) [39,40,41,42,43,44,45,46,47,48,49,50,51,38,52,53,3,4] rfl (by kernel_rfl) rfl ?g0 ?keep ?steps ?fin
   case keep=>
    intro e he s v w w' hm hsM ht hv;simp only [List.mem_cons,List.not_mem_nil,or_false] at he;rcases he with rfl|rfl|rfl|rfl|rfl|rfl|rfl|rfl|rfl|rfl|rfl|rfl|rfl|rfl|rfl|rfl|rfl|rfl
    all_goals first|exact hv|(intro h3;have:=hm rfl;simp only [] at this;omega)
   case steps=>
    refine ⟨?_,?_,?_,?_,?_,?_,?_,?_,?_,?_,?_,?_,?_,?_,?_,?_,?_,?_,trivial⟩
    ·intro ac w3 hg hG hd K hK;dsimp only [Nat.zero_add,Nat.reduceAdd] at hG hK;go_simp;(refine (words_any w3).mono ?_);rintro e w4 ⟨rfl,hm,hb⟩;exact hK _ w4 trivial (hG.trans (hb.mono hG.size)) (fun _=>⟨_,rfl,hm⟩)
    ·intro st hlo hhi ac w3 hg hG hd K hK;dsimp only at hlo hhi hG hK;exact op_move _ rfl (hK _ (hg.kp 0 (by simp)))
    ·intro st hlo hhi ac w3 hg hG hd K hK;dsimp only at hlo hhi hG hK;have f1:=hd ⟨1,.data⟩ (by simp) rfl _ rfl _ rfl;(try simp [Act.eval] at f1);go_simp;exact hK _ rfl
    ·intro st hlo hhi ac w3 hg hG hd K hK;dsimp only at hlo hhi hG hK;have f2:=hd ⟨2,.data⟩ (by simp) rfl _ rfl _ rfl;(try simp [Act.eval] at f2);go_simp;exact hK _ rfl
    ·intro st hlo hhi ac w3 hg hG hd K hK;dsimp only at hlo hhi hG hK;have kk:=(H.out.below hG).blk.cell 0;have zz:=(H.out.below hG).blk.lt;simp at kk;have f3:=hd ⟨3,.data⟩ (by simp) rfl _ rfl _ rfl;(try simp [Act.eval] at f3);go_simp;exact hK _ rfl
    ·intro st hlo hhi ac w3 hg hG hd K hK;dsimp only at hlo hhi hG hK;exact op_move _ rfl (hK _ (hg.kp 0 (by simp)))
    ·intro st hlo hhi ac w3 hg hG hd K hK;dsimp only at hlo hhi hG hK;have f5:=hd ⟨5,.data⟩ (by simp) rfl _ rfl _ rfl;(try simp [Act.eval] at f5);go_simp;exact hK _ rfl
    ·intro st hlo hhi ac w3 hg hG hd K hK;dsimp only at hlo hhi hG hK;have f6:=hd ⟨6,.data⟩ (by simp) rfl _ rfl _ rfl;(try simp [Act.eval] at f6);go_simp;exact hK _ rfl
    ·intro st hlo hhi ac w3 hg hG hd K hK;dsimp only at hlo hhi hG hK;have kk:=(H.out.below hG).blk.cell 1;have zz:=(H.out.below hG).blk.lt;simp at kk;have f7:=hd ⟨7,.data⟩ (by simp) rfl _ rfl _ rfl;(try simp [Act.eval] at f7);go_simp;exact hK _ rfl
    ·intro st hlo hhi ac w3 hg hG hd K hK;dsimp only at hlo hhi hG hK;exact op_move _ rfl (hK _ (hg.kp 2 (by simp)))
    ·intro st hlo hhi ac w3 hg hG hd K hK;dsimp only at hlo hhi hG hK;have f4:=hd ⟨4,.data⟩ (by simp) rfl _ rfl _ rfl;have f8:=hd ⟨8,.data⟩ (by simp) rfl _ rfl _ rfl;have f9:=hd ⟨9,.data⟩ (by simp) rfl _ rfl _ rfl;simp [Act.eval] at f4 f8 f9;go_simp;rw [if_pos (show j≤c by omega)];(try rw [if_pos (show at_≤j by omega)]);exact hK _ rfl
    ·intro st hlo hhi ac w3 hg hG hd K hK;dsimp only at hlo hhi hG hK;have f10:=hd ⟨10,.data⟩ (by simp) rfl _ rfl _ rfl;have hcv:=convert_any (c:=c - at_) ((HSUB.out.below hG).more hG.size);unfold bstr at hcv;clear hG;simp [Act.eval] at f10;go_simp;exact hK _ rfl
    ·intro st hlo hhi ac w3 hg hG hd K hK;dsimp only at hlo hhi hG hK;have hst:st=1:=by omega
     subst hst;obtain ⟨g,f0,hm⟩:=hd ⟨0,.data⟩ (by simp) rfl _ rfl _ rfl rfl;have f11:=hd ⟨11,.data⟩ (by simp) rfl _ rfl _ rfl;refine wp_lookup_own_ok w3 _ _ 173 rfl 9 3 skeyed Tryz.underlying173 heldR (hz w3) (.held (.int .i64 0)) [] rfl g 3 DW f0 hm _ (.string L) f11 (by have hk:=Go.WideMaps.keyOf_string_mk (P:=Tryz.prog) Tryz.underlying9 (s:=⟨L.toArray⟩) (by unfold maxLen;show L.toArray.size≤_;have:=HLN.out;simp;omega);exact hk) ?_;intro v ps hv;rw [dw_at] at hv;unfold heldR at hv;(obtain rfl:v=.int .i64 (kindW L:Int):=by (injection hv with hv;injection hv with hv _;injection hv));rw [dw_has];exact hK _ rfl
    ·intro st hlo hhi ac w3 hg hG hd K hK;dsimp only at hlo hhi hG hK;exact op_move _ rfl (hK _ (hd ⟨12,.data⟩ (by simp) rfl _ rfl _ rfl))
    ·intro st hlo hhi ac w3 hg hG hd K hK;dsimp only at hlo hhi hG hK;have f13:=hd ⟨13,.data⟩ (by simp) rfl _ rfl _ rfl;(try simp [Act.eval] at f13);go_simp;exact hK _ rfl
    ·intro st hlo hhi ac w3 hg hG hd K hK;dsimp only at hlo hhi hG hK;have f13:=hd ⟨13,.data⟩ (by simp) rfl _ rfl _ rfl;(try simp [Act.eval] at f13);go_simp;exact hK _ rfl
    ·intro st hlo hhi ac w3 hg hG hd K hK;dsimp only at hlo hhi hG hK;exact op_assign _ rfl (hK _ (hd ⟨14,.data⟩ (by simp) rfl _ rfl _ rfl))
    ·intro st hlo hhi ac w3 hg hG hd K hK;dsimp only at hlo hhi hG hK;exact op_assign _ rfl (hK _ (hd ⟨15,.data⟩ (by simp) rfl _ rfl _ rfl))
   case g0=>exact bR.drew
   case fin=>
    intro f w5 hG hall;have f3:f 3=.int .i64 (kindW L:Int):=hall _ (List.mem_of_getElem? (i:=16) rfl) 3 rfl;have f4:f 4=.bool (kindW L != 0):=hall _ (List.mem_of_getElem? (i:=17) rfl) 4 rfl;clear hall;simp only [fillF,List.map_cons,List.map_nil,List.foldl_cons,List.foldl_nil,Act.put,List.setIfInBounds_toArray,List.set_cons_zero,List.set_cons_succ];rw [f3,f4];clear f3 f4;have HB5:=hide hG;have HQ:=hide (H.out.below hG);clear hG;obtain ⟨kd,hkd⟩:∃ kd,kindW L=kd:=⟨_,rfl⟩;rw [hkd];have HKD:=hide hkd;clear hkd;by_cases h0:kd=0
    ·have d0:(kd != 0)=false:=by simpa using h0
     rw [d0];go_wp2_with (go_at_call 35;(refine (fail_any 11 HQ.out).mono ?_);rintro e w6 ⟨rfl,hb⟩;have HB6:=hide (HB5.out.trans (hb.mono HB5.out.size));clear hb)
     exact ⟨rfl,.inr ⟨by rw [HLL.out,HKD.out];exact h0,rfl,HB6.out⟩⟩
    ·have d0:(kd != 0)=true:=by simpa using h0
     rw [d0];have kr:=HQ.out.blk.cell;have fr:=HQ.out.blk.frozen;have zr:=HQ.out.blk.lt;go_wp2_with fail
     refine ⟨rfl,.tuple #[],results_none rfl _ _ _,.inl ⟨by rw [HLL.out,HKD.out];exact h0,rfl,?_,gb_trans (gb_trans (gb_below HB5.out) (gby_set w5 rb 2 _)) (gby_set _ rb 1 _)⟩⟩;rw [HLL.out,HJE.out,HKD.out];exact HQ.out.own (gb_trans (gby_set w5 rb 2 _) (gby_set _ rb 1 _)) ((HQ.out.blk.set_ 2 (.int .i64 (kd:Int))).set_ 1 (.int .i64 (j:Int))) hj
end
abbrev TBu:TypeId:=163
abbrev IsB (B b:Nat) (l:L8) (w:World):Prop:=Lib.IsBuilder TBu T8 B b (cs8 l) w
abbrev BuAt (B b:Nat) (l:L8) (w:World):Prop:=Lib.BuilderAt TBu T8 B b (.pointer (some ⟨b,0,none⟩)) (cs8 l) w
theorem buSize:(Tryz.prog.info? TBu).map (·.size)=some 2:=by kernel_rfl
theorem buLies:liesAt Tryz.prog Tryz.prog.depth TBu (2 / Tryz.prog.cellsOf TBu) 0 TBu 1=true:=by kernel_rfl
theorem reads_lit (w:World) (cs:List Value) (t:TypeId):Reads (w.alloc (.cells cs.toArray t)) (w.heap.size+1) 1 (some ⟨w.heap.size,0,none⟩) cs.length cs:=by
 refine ⟨by simp,fun _=>⟨_,rfl,by simp,fun j u hu=>?_⟩⟩;have e:(⟨w.heap.size,0,none⟩:Addr).add j=⟨w.heap.size,j,none⟩:=by
  unfold Addr.add;by_cases h:j=0
  ·subst h;simp
  ·simp [h]
 rw [e];simp only [World.cell?,heap_alloc_new];simpa using hu
section
variable {B b:Nat} {w w':World} {l:L8}
theorem bu_kept {B b:Nat} {l:L8} (h:IsB B b l w) (hf:Below w.heap.size w w'):IsB B b l w':=by
 rcases h with ⟨hB,v,hb,hown,hne⟩|⟨hB,v,hb,hown,hne⟩
 ·have hlt:=Lib.BuilderAt.lt ⟨hB,v,hb,hown,hne⟩;exact .inl ⟨hB,v,(hf.block b hlt).trans hb,row_keep hown (fun g hg=>hf.block g (own_lt hown g hg)),hne⟩
 ·have hlt:=Lib.BuilderAt.lt ⟨hB,v,hb,hown,hne⟩;exact .inr ⟨hB,v,(hf.block b hlt).trans hb,row_keep hown (fun g hg=>hf.block g (own_lt hown g hg)),hne⟩
set_option maxRecDepth 100000 in
theorem copy_used (b:Nat) (w:World) (h0:w.cell? ⟨b,0,none⟩=some (.pointer (some ⟨b,0,none⟩))) :
 Calls Tryz.prog 160 #[.pointer (some ⟨b,0,none⟩)] w fun e w'=>e=.returned (.tuple #[])∧w'=w:=by
 obtain ⟨j,hj,hjs⟩:=Option.map_eq_some_iff.1 buSize
 go_enter Tryz.func160,Tryz.ntmps160
 go_wp2
 rw [Lib.run_neq_ptr_same w _ Tryz.underlying161 hj]
 go_wp2
 go_end0
 exact ⟨rfl,rfl⟩
set_option maxRecDepth 100000 in
theorem copy_fresh (b:Nat) (w:World) (h0:w.cell? ⟨b,0,none⟩=some (.pointer none)) (hsh:w.shape? b=some (TBu,2)) (hfz:w.frozen? ⟨b,0,none⟩=false) :
 Calls Tryz.prog 160 #[.pointer (some ⟨b,0,none⟩)] w fun e w'=>e=.returned (.tuple #[])∧w'=w.setCell ⟨b,0,none⟩ (.pointer (some ⟨b,0,none⟩)):=by
 obtain ⟨j,hj,hjs⟩:=Option.map_eq_some_iff.1 buSize
 go_enter Tryz.func160,Tryz.ntmps160
 go_wp2
 rw [Lib.run_to_unsafe w ⟨b,0,none⟩ Tryz.underlying161 Tryz.underlying230 hj (by rw [hjs];decide) hsh (Nat.zero_lt_succ 1)];simp only [Result.andThen];rw [Oper.upon_value]
 go_wp2
 rw [run_callFunc_extern Tryz.func190 (by kernel_rfl) (by kernel_rfl) (by kernel_rfl) (e:=Extern.AbiNoEscape.same) (by kernel_rfl)];rw [Lib.run_noEscape];simp only [Result.andThen];rw [Oper.upon_value]
 go_wp2
 rw [Lib.run_from_unsafe w ⟨b,0,none⟩ Tryz.underlying230 Tryz.underlying161 hj hsh buLies];simp only [Result.andThen];rw [Oper.upon_value]
 go_wp2
 go_end0
 exact ⟨rfl,rfl⟩
theorem copy_any (h:IsB B b l w) :
 Calls Tryz.prog 160 #[.pointer (some ⟨b,0,none⟩)] w fun e w'=>e=.returned (.tuple #[])∧BuAt B b l w'∧Below B w w':=by
 rcases h with h|h
 ·refine (copy_fresh b w h.cell0 h.shape h.frozen0).mono ?_;rintro e w' ⟨rfl,rfl⟩;exact ⟨rfl,h.used _,(Below.refl B w).setCell (p:=⟨b,0,none⟩) h.1 _⟩
 ·refine (copy_used b w h.cell0).mono ?_;rintro e w' ⟨rfl,rfl⟩;exact ⟨rfl,h,Below.refl B _⟩
theorem bu_put {w1 w2:World} {B b m:Nat} {v v':Value} {l l':L8} {o:Obj} (hB:B≤b) (hbk:w1.heap[b]? = some (.cells #[.pointer (some ⟨b,0,none⟩),v] TBu (0,0))) (hown:w1.ownsRow B T8 1 v l.length (cs8 l)) (hne:v.ownBlock≠some b) (hBw:B≤w1.heap.size)
 (hg:(w1.alloc o).grownBy w2 v.ownBlock) (hown':w2.ownsRow B T8 1 v' m (cs8 l')) (hm:m=l'.length) :
 w2.cell? ⟨b,1,none⟩=some v∧w2.cell? ⟨b,0,none⟩=some (.pointer (some ⟨b,0,none⟩))∧w2.frozen? ⟨b,1,none⟩=false∧BuAt B b l' (w2.setCell ⟨b,1,none⟩ v')∧Below B w1 (w2.setCell ⟨b,1,none⟩ v'):=by
 have hlt:b<w1.heap.size:=Lib.BuilderAt.lt (bs:=cs8 l) ⟨hB,v,hbk,by rw [cs8_len];exact hown,hne⟩;have hb2:w2.heap[b]? = some (.cells #[.pointer (some ⟨b,0,none⟩),v] TBu (0,0)):=by
  rw [hg.block b (by simp;omega) (fun e=>hne e.symm),Lib.alloc_old w1 _ b hlt];exact hbk
 subst hm;refine ⟨by rw [Lib.cell_of_heap hb2];rfl,by rw [Lib.cell_of_heap hb2];rfl,Lib.frozen_of_heap hb2 1,Lib.BuilderAt.put hB hb2 (by rw [cs8_len];exact hown') (by decide),?_⟩;exact ((((Below.refl B w1).alloc hBw o).grown hg (by simp;omega) (fun k hk=>(hown.lt k hk).1)).setCell (p:=⟨b,1,none⟩) hB v')
set_option maxRecDepth 100000 in
set_option maxHeartbeats 1000000 in
theorem byte_any (x:UInt8) (h:IsB B b l w) (hl:l.length≤1048576) (hBw:B≤w.heap.size) :
 Calls Tryz.prog 157 #[.pointer (some ⟨b,0,none⟩),.int .u8 (x.toNat:Int)] w fun e w'=>e=.returned .nilIface∧BuAt B b (l++[x]) w'∧Below B w w':=by
 obtain ⟨i0,hi,hz0,hz1,hz2⟩:=info_parts u8_info
 go_enter Tryz.func157,Tryz.ntmps157
 go_wp2_with (go_at_call 160;refine (copy_any h).mono ?_)
 rintro e w1 ⟨rfl,⟨hB,v,hbk,hown,hne⟩,hb1⟩;rw [cs8_len] at hown;have hbw:B≤w1.heap.size:=Nat.le_trans hBw hb1.size;have c1:w1.cell? ⟨b,1,none⟩=some v:=by rw [Lib.cell_of_heap hbk];rfl
 have HN:=hide (reads_lit w1 [u8v x] T8);go_wp2_with (at_builtin;refine wpList_append_any _ rfl _ _ 29 rfl B T8 i0 (.int .u8 0) 1 1 Tryz.underlying29 hi hz0 hz1 hz2 rfl (by decide) v l.length (cs8 l) rfl (hown.alloc _) _ (some ⟨w1.heap.size,0,none⟩) 1 1 [u8v x] rfl HN.out (cs8_one [x]) (by unfold maxLen;omega) (by omega) (by simp;omega) ?_)
 intro v' w2 hown' hgrow _;obtain ⟨A',c',rfl,_⟩:=own_slice hown';obtain ⟨d1,d0,f1,hB2,hb2⟩:=bu_put (l':=l++[x]) hB hbk hown hne hbw hgrow (by rw [cs8_append];exact hown') (by simp);clear hown' hgrow HN;go_wp2_with fail
 go_ret;exact ⟨rfl,hB2,hb1.trans hb2⟩
theorem rune_cells (r:Int):Lib.runeCells r=cs8 (Lib.encodeRune r):=(Lib.byteCells_encodeRune r).symm
set_option maxRecDepth 100000 in
set_option maxHeartbeats 1000000 in
theorem rune_any (r:Int) (hr0:-2147483648≤r) (hr1:r≤2147483647) (h:IsB B b l w) (hl:l.length≤1048576) (hBw:B≤w.heap.size) :
 Calls Tryz.prog 128 #[.pointer (some ⟨b,0,none⟩),.int .i32 r] w fun e w'=>(∃ v,e=.returned v)∧BuAt B b (l++Lib.encodeRune r) w'∧Below B w w':=by
 have hk4:=Lib.runeCells_le r
 go_enter Tryz.func128,Tryz.ntmps128
 go_wp2_with (go_at_call 160;refine (copy_any h).mono ?_)
 rintro e w1 ⟨rfl,⟨hB,v,hbk,hown,hne⟩,hb1⟩;rw [cs8_len] at hown;obtain ⟨A0,c0,rfl,_⟩:=own_slice hown;have hbw:B≤w1.heap.size:=Nat.le_trans hBw hb1.size;have c1:w1.cell? ⟨b,1,none⟩=some (.slice A0 l.length c0):=by rw [Lib.cell_of_heap hbk];rfl
 go_wp2_with (go_at_call 161;refine (Tryz.utf8_AppendRune_plain B _ l.length (cs8 l) r hr0 hr1 _ hown (by omega) hbw).mono ?_)
 rintro e w2 ⟨v',rfl,hown',o,hgrow⟩;obtain ⟨A',c',rfl,_⟩:=own_slice hown';obtain ⟨d1,d0,f1,hB2,hb2⟩:=bu_put (l':=l++Lib.encodeRune r) hB hbk hown hne hbw hgrow (by rw [cs8_append,← rune_cells];exact hown') (by rw [List.length_append,Lib.runeCells_length]);clear hown' hgrow;have HB2:=hide hB2;have HB3:=hide hb2;clear hB2 hb2;go_wp2_with fail
 go_ret2
 exact ⟨⟨_,rfl⟩,HB2.out,hb1.trans HB3.out⟩
end
end Go.Proofs.YtacinobmcgcccaaGreatDoor
