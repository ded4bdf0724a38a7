/- The law on blanks, walked. -/
import Derived.Test.YtacinobmcgcccaaGreatDoorL26
import Derived.Test.YtacinobmcgcccaaGreatDoorL12
import Derived.Test.YtacinobmcgcccaaGreatDoorL25
import Derived.Test.YtacinobmcgcccaaGreatDoorRows
import Derived.BigQuiet
import Derived.Shelf.Unicode.ValidAny
import Derived.Ground.NamesProg
set_option linter.unusedSimpArgs false
set_option linter.unusedVariables false
namespace Go.Proofs.YtacinobmcgcccaaGreatDoor
open Go.RowKit
def blkOf (c:UInt8):UInt8:=([32,9,10,13]:L8).getD (c.toNat % 4) 0
theorem own_rb' {w:World} {base n c:Nat} {A:Option Addr} {l:L8} (h:w.ownsRow base T8 1 (.slice A n c) n (cs8 l)):RB w w.heap.size A n l:=Reads.of_own h
theorem ba_app (a b:L8):(⟨a.toArray⟩++⟨b.toArray⟩:ByteArray)=⟨(a++b).toArray⟩:=by
 apply ByteArray.ext;rw [ByteArray.data_append];simp
def gotJ (g:Got JV):JV:=match g with
 | .ok J=>J
 | .bad _ _=>.mk 0 [] [] []
def gotE (g:Got JV):Nat:=match g with
 | .ok _=>0
 | .bad _ e=>e
theorem parseS_In (l:L8):(parseS l).In:=by
 unfold parseS;split
 ·intro p e;injection e with _ e;cases e
 ·refine (nextS_In _).bind fun T0 h0=>?_
  have:=nextS_W h0;refine (valF_In _ 0 T0 (by omega)).bind fun r _=>?_
  split
  ·exact Got.In.ok _
  ·intro p e;injection e with _ e;cases e
theorem gotE_zero {l:L8} (h:gotE (parseS l)=0):parseS l=.ok (gotJ (parseS l)):=by
 have hi:=parseS_In l;cases hp:parseS l with
 | ok J=>rfl
 | bad p e=>
   rw [hp] at h hi;exact (hi p (by rw [show e=0 from h])).elim
theorem parse_uni {w:World} {A:Option Addr} {n c:Nat} {l:L8} (hr:RB w w.heap.size A n l) (hc:n≤c) (hT:Tabs w) (hA:∀ ad,A=some ad→ad.block<w.heap.size) :
 Calls Tryz.prog 13 #[.slice A n c] w fun e w'=>Below w.heap.size w w' ∧ ∃ (k:Int) (t:ByteArray) (A1:Option Addr) (n1 c1:Nat) (A2:Option Addr) (n2 c2:Nat) (at_:Int),
  e=.returned (.tuple #[.agg #[.int .i64 k,.string t,.slice A1 n1 c1,.slice A2 n2 c2],.int .i64 at_,.int .i64 (gotE (parseS l):Int)])∧VRd w' (fun j=>j<w'.heap.size) (gotJ (parseS l)) [.int .i64 k,.string t,.slice A1 n1 c1,.slice A2 n2 c2]:=by
 refine (parse_to hr hc hT hA).mono ?_;rintro e w' ⟨hb,hr⟩;refine ⟨hb,?_⟩;rcases hr with ⟨J,cs,hp,rfl,hv⟩|⟨p,e0,hp,_,rfl⟩
 ·rw [hp];obtain ⟨k,t,A1,n1,c1,A2,n2,c2,rfl⟩:=hv.four;exact ⟨k,t,A1,n1,c1,A2,n2,c2,0,rfl,hv.all⟩
 ·rw [hp];exact ⟨0,_,none,0,0,none,0,0,_,rfl,vrd_leaf 0 []⟩
def qFrom:L8:=[34,92,8,12,10,13,9]
def qTo:L8:=[34,92,98,102,110,114,116]
def qHex:L8:=[48,49,50,51,52,53,54,55,56,57,97,98,99,100,101,102]
def qB (c:UInt8):L8:=if 0≤Lib.indexByte qFrom c then [92,qTo.getD (Lib.indexByte qFrom c).toNat 0] else if c.toNat<32 then [92,117,48,48,qHex.getD (c.toNat / 16) 0,qHex.getD (c.toNat % 16) 0] else [c]
def quoteL (s:L8):L8:=34 :: (s.flatMap qB++[34])
theorem q_at:∀ c:UInt8,(∃ k:Nat,k<7∧Lib.indexByte qFrom c=(k:Int)∧[92,qTo.getD k 0]=qB c)∨(Lib.indexByte qFrom c = -1∧(c.toNat<32→[92,117,48,48,qHex.getD (c.toNat / 16) 0,qHex.getD (c.toNat % 16) 0]=qB c)∧(32≤c.toNat→[c]=qB c)):=by
 intro c;exact u8_all (fun c=>(∃ k:Nat,k<7∧Lib.indexByte qFrom c=(k:Int)∧[92,qTo.getD k 0]=qB c)∨(Lib.indexByte qFrom c = -1∧(c.toNat<32→[92,117,48,48,qHex.getD (c.toNat / 16) 0,qHex.getD (c.toNat % 16) 0]=qB c)∧(32≤c.toNat→[c]=qB c))) (by decide +kernel) c
theorem put_at {base wb:Nat} {x:Option L8} {W:World} (s:L8) (sb:ByteArray) (hsb:sb=⟨s.toArray⟩) (hs:s.length≤4000000) (h:WrX base wb x W) (hb:base≤W.heap.size) :
 Calls Tryz.prog 108 #[.pointer (some ⟨wb,0,none⟩),.string sb] W fun e W'=>e=.returned (.tuple #[])∧WrX base wb (putO x s) W'∧Below base W W'∧KT W W':=by
 subst hsb;exact put_any s hs h hb
theorem one_cut {s:L8} {j:Nat} (h:j<s.length) {y:UInt8} (hy:(⟨s.toArray⟩:ByteArray)[j]'(by show j<s.toArray.size;simpa using h)=y):(⟨s.toArray⟩:ByteArray).extract j (j+1)=⟨[y].toArray⟩:=by
 have hy':s[j]=y:=hy;apply ByteArray.ext;rw [ByteArray.data_extract];simp [List.extract_eq_take_drop];rw [List.drop_eq_getElem_cons h,hy'];simp
theorem hex_cut {a:Nat} (h:a<16):(⟨#[48,49,50,51,52,53,54,55,56,57,97,98,99,100,101,102]⟩:ByteArray).extract a (a+1)=⟨[qHex.getD a 0].toArray⟩:=by
 have:∀ a:Fin 16,(⟨#[48,49,50,51,52,53,54,55,56,57,97,98,99,100,101,102]⟩:ByteArray).extract a.val (a.val+1)=⟨[qHex.getD a.val 0].toArray⟩:=by decide +kernel
 exact this ⟨a,h⟩
theorem Wr.below {base wb B:Nat} {x:Option L8} {W W':World} {o:L8} {bv:Value} (h:Wr base wb x W o bv) (hb:Below W.heap.size W W'):Wr base wb x W' o bv:=⟨h.blk.below hb h.blk.lt,own_later h.row hb,h.len,h.eq,h.le,h.ne⟩
theorem wrx_below {base wb:Nat} {x:Option L8} {W W':World} (h:WrX base wb x W) (hb:Below W.heap.size W W'):WrX base wb x W':=by
 obtain ⟨o,bv,h⟩:=h;exact ⟨o,bv,h.below (B:=0) hb⟩
theorem take_q {s:L8} {j:Nat} (h:j<s.length) {x:UInt8} (hx:s[j]=x) (X:Option L8):putO (putO X (34 :: (s.take j).flatMap qB)) (qB x)=putO X (34 :: (s.take (j+1)).flatMap qB):=by
 rw [putO_app,List.take_succ_eq_append_getElem h,List.flatMap_append,hx];simp
set_option maxRecDepth 100000 in
set_option maxHeartbeats 600000 in
theorem wstr_any {base wb:Nat} {x:Option L8} {W:World} (s:L8) (hs:s.length≤9223372036854775807) (h:WrX base wb x W) (hb:base≤W.heap.size) :
 Calls Tryz.prog 109 #[.pointer (some ⟨wb,0,none⟩),.string ⟨s.toArray⟩] W fun e W'=>e=.returned (.tuple #[])∧WrX base wb (putO x (quoteL s)) W'∧Below base W W'∧KT W W':=by
 have H:=hide h;clear h
 go_enter Tryz.func109,Tryz.ntmps109
 go_wp2_with (go_at_call 108;(refine (put_at [34] _ (by rfl) (by decide) H.out hb).mono ?_);rintro e w1 ⟨rfl,hx,hbl,hkt⟩;have HX1:=hide hx;have HB1:=hide hbl;have HT1:=hide hkt;clear hx hbl hkt)
 go_loopw [4] (fun iv wr=>∃ j:Nat,iv=.int .i64 (j:Int)∧j≤s.length∧Hid (WrX base wb (putO x (34 :: (s.take j).flatMap qB)) wr)∧Hid (Below base W wr)∧Hid (KT W wr)) (fun iv _=>s.length - (intOf iv).toNat)
 case atStart=>exact ⟨0,by go_num,by omega,HX1,HB1,HT1⟩
 case round=>
  clear HX1 HB1 HT1;obtain ⟨j,rfl,hj,HX,HB,HTT⟩:=hrel;by_cases hlt:j<s.length
  ·obtain ⟨y,hy⟩:∃ y,s[j]=y:=⟨_,rfl⟩;have hxs:(⟨s.toArray⟩:ByteArray)[j]'(by show j<s.toArray.size;simpa using hlt)=y:=hy;have HT:=hide (take_q hlt hy x);clear hy;rcases q_at y with ⟨k,hk7,hki,hkt⟩|⟨hki,hlo,hhi⟩
   ·have HK:=hide hki;have HQ:=hide hkt;clear hki hkt;have d1:decide ((0:Int)≤(k:Int))=true:=by simp
    have hcut:(⟨#[34,92,98,102,110,114,116]⟩:ByteArray).extract k (k+1)=⟨[qTo.getD k 0].toArray⟩:=by rcases (show k=0∨k=1∨k=2∨k=3∨k=4∨k=5∨k=6 by omega) with rfl|rfl|rfl|rfl|rfl|rfl|rfl <;> rfl
    go_wp2_with (first|(go_at_call 124;(refine (Tryz.strings_IndexByte ⟨qFrom.toArray⟩ _ _).mono ?_);rw [show Lib.indexByte (⟨qFrom.toArray⟩:ByteArray).data.toList (((y.toNat:Int)).toNat).toUInt8=(k:Int) by rw [byte_back];exact HK.out];rintro e w1 ⟨rfl,rfl⟩)|(go_at_call 108;(refine (put_at (qB y) _ (by rw [← HQ.out];exact ba_app [92] [qTo.getD k 0]) (by rw [← HQ.out];simp) HX.out (Nat.le_trans hb HB.out.size)).mono ?_);rintro e w2 ⟨rfl,hx,hbl,hkt⟩;(rw [HT.out] at hx);have HX2:=hide hx;have HB2:=hide (HB.out.trans hbl);have HT2:=hide (HTT.out.trans hkt);clear hx hbl hkt))
    go_roundw
    case rel=>exact ⟨j+1,by go_num,by omega,HX2,HB2,HT2⟩
    case measure=>simp [intOf];omega
   ·have HK:=hide hki;clear hki;have d1:decide ((0:Int) ≤ -1)=false:=by decide
    by_cases hlt32:y.toNat<32
    ·have d2:decide ((y.toNat:Int)<32)=true:=by simp;omega
     have HQ:=hide (hlo hlt32);clear hlo hhi;go_upto_region 10 with (go_at_call 124;(refine (Tryz.strings_IndexByte ⟨qFrom.toArray⟩ _ _).mono ?_);rw [show Lib.indexByte (⟨qFrom.toArray⟩:ByteArray).data.toList (((y.toNat:Int)).toNat).toUInt8 = -1 by rw [byte_back];exact HK.out];rintro e w1 ⟨rfl,rfl⟩)
     obtain ⟨a,ha⟩:∃ a,y.toNat / 16=a:=⟨_,rfl⟩;obtain ⟨c,hc⟩:∃ c,y.toNat % 16=c:=⟨_,rfl⟩;have ha16:a<16:=by omega
     have hc16:c<16:=by omega
     have e1:(y.toNat:Int) / 16=(a:Int):=by omega
     have e2:IntKind.u8.wrap ((a:Int)+1)=(a:Int)+1:=by simp [IntKind.wrap,IntKind.bits,IntKind.signed];omega
     have e3:bits .and .u8 (y.toNat:Int) 15=(c:Int):=hc ▸ u8_all (fun y=>bits .and .u8 (y.toNat:Int) 15=((y.toNat % 16:Nat):Int)) (by decide +kernel) y;have e4:IntKind.u8.wrap ((c:Int)+1)=(c:Int)+1:=by simp [IntKind.wrap,IntKind.bits,IntKind.signed];omega
     have g1:(0:Int)≤(a:Int)+1:=by omega
     have g2:(a:Int)+1≤16:=by omega
     have g3:(a:Int)≤(a:Int)+1:=by omega
     have g4:(0:Int)≤(c:Int)+1:=by omega
     have g5:(c:Int)+1≤16:=by omega
     have g6:(c:Int)≤(c:Int)+1:=by omega
     have c1:=hex_cut ha16;have c2:=hex_cut hc16;rw [ha,hc] at HQ;clear ha hc;refine wp_region_stage (by kernel_rfl) (by kernel_rfl) 58 1
      [⟨some 40,false,0,1,fun _ v _=>v=.pointer (some ⟨wb,0,none⟩)⟩,
       ⟨some 41,false,0,1,fun _ v _=>v=.int .u8 (y.toNat:Int)⟩,
       ⟨some 42,false,0,1,fun _ v _=>v=.int .u8 (a:Int)⟩,
       ⟨some 43,false,0,1,fun _ v _=>v=.int .u8 (y.toNat:Int)⟩,
       ⟨some 44,false,0,1,fun _ v _=>v=.int .u8 (a:Int)⟩,
       ⟨some 45,false,0,1,fun _ v _=>v=.int .u8 ((a:Int)+1)⟩,
       ⟨some 46,false,0,1,fun _ v _=>v=.string ⟨[qHex.getD a 0].toArray⟩⟩,
       ⟨some 47,false,0,1,fun _ v _=>v=.string ⟨[92,117,48,48,qHex.getD a 0].toArray⟩⟩,
       ⟨some 48,false,0,1,fun _ v _=>v=.int .u8 (y.toNat:Int)⟩,
       ⟨some 49,false,0,1,fun _ v _=>v=.int .u8 (c:Int)⟩,
       ⟨some 50,false,0,1,fun _ v _=>v=.int .u8 (y.toNat:Int)⟩,
       ⟨some 51,false,0,1,fun _ v _=>v=.int .u8 (c:Int)⟩,
       ⟨some 52,false,0,1,fun _ v _=>v=.int .u8 ((c:Int)+1)⟩,
       ⟨some 53,false,0,1,fun _ v _=>v=.string ⟨[qHex.getD c 0].toArray⟩⟩,
       ⟨some 54,false,0,1,fun _ v _=>v=.string ⟨[92,117,48,48,qHex.getD a 0,qHex.getD c 0].toArray⟩⟩,
       ⟨some 55,true,0,0,fun _ v _=>v=.tuple #[]⟩] (fun st w'=>WrX base wb (putO x (34 :: (s.take (if 1≤st then j+1 else j)).flatMap qB)) w'∧Below base W w'∧KT W w') (fun _ _ _=>True) [40,41,42,43,44,45,46,47,48,49,50,51,52,53,54,55] rfl (by kernel_rfl) rfl ?g0 ?keep ?steps ?fin
     case keep=>
      intro e he s v w w' hm hsM ht hv;simp only [List.mem_cons,List.not_mem_nil,or_false] at he;rcases he with rfl|rfl|rfl|rfl|rfl|rfl|rfl|rfl|rfl|rfl|rfl|rfl|rfl|rfl|rfl|rfl
      all_goals first|exact hv
     case steps=>
      refine ⟨?_,?_,?_,?_,?_,?_,?_,?_,?_,?_,?_,?_,?_,?_,?_,?_,trivial⟩
      ·intro st hlo hhi ac w3 hg hG hd K hK;dsimp only at hlo hhi hG hK;exact op_move _ rfl (hK _ (hg.kp 0 (by simp)))
      ·intro st hlo hhi ac w3 hg hG hd K hK;dsimp only at hlo hhi hG hK;exact op_move _ rfl (hK _ (hg.kp 5 (by simp)))
      ·intro st hlo hhi ac w3 hg hG hd K hK;dsimp only at hlo hhi hG hK;have f1:=hd ⟨1,.data⟩ (by simp) rfl _ rfl _ rfl;(try simp [Act.eval] at f1);go_simp;exact hK _ rfl
      ·intro st hlo hhi ac w3 hg hG hd K hK;dsimp only at hlo hhi hG hK;exact op_move _ rfl (hK _ (hg.kp 5 (by simp)))
      ·intro st hlo hhi ac w3 hg hG hd K hK;dsimp only at hlo hhi hG hK;have f3:=hd ⟨3,.data⟩ (by simp) rfl _ rfl _ rfl;(try simp [Act.eval] at f3);go_simp;exact hK _ rfl
      ·intro st hlo hhi ac w3 hg hG hd K hK;dsimp only at hlo hhi hG hK;have f4:=hd ⟨4,.data⟩ (by simp) rfl _ rfl _ rfl;(try simp [Act.eval] at f4);go_simp;exact hK _ rfl
      ·intro st hlo hhi ac w3 hg hG hd K hK;dsimp only at hlo hhi hG hK;have f2:=hd ⟨2,.data⟩ (by simp) rfl _ rfl _ rfl;have f5:=hd ⟨5,.data⟩ (by simp) rfl _ rfl _ rfl;(try simp [Act.eval] at f2);(try simp [Act.eval] at f5);go_simp;exact hK _ rfl
      ·intro st hlo hhi ac w3 hg hG hd K hK;dsimp only at hlo hhi hG hK;have f6:=hd ⟨6,.data⟩ (by simp) rfl _ rfl _ rfl;(try simp [Act.eval] at f6);go_simp;exact hK _ rfl
      ·intro st hlo hhi ac w3 hg hG hd K hK;dsimp only at hlo hhi hG hK;exact op_move _ rfl (hK _ (hg.kp 5 (by simp)))
      ·intro st hlo hhi ac w3 hg hG hd K hK;dsimp only at hlo hhi hG hK;have f8:=hd ⟨8,.data⟩ (by simp) rfl _ rfl _ rfl;(try simp [Act.eval] at f8);go_simp;exact hK _ rfl
      ·intro st hlo hhi ac w3 hg hG hd K hK;dsimp only at hlo hhi hG hK;exact op_move _ rfl (hK _ (hg.kp 5 (by simp)))
      ·intro st hlo hhi ac w3 hg hG hd K hK;dsimp only at hlo hhi hG hK;have f10:=hd ⟨10,.data⟩ (by simp) rfl _ rfl _ rfl;(try simp [Act.eval] at f10);go_simp;exact hK _ rfl
      ·intro st hlo hhi ac w3 hg hG hd K hK;dsimp only at hlo hhi hG hK;have f11:=hd ⟨11,.data⟩ (by simp) rfl _ rfl _ rfl;(try simp [Act.eval] at f11);go_simp;exact hK _ rfl
      ·intro st hlo hhi ac w3 hg hG hd K hK;dsimp only at hlo hhi hG hK;have f9:=hd ⟨9,.data⟩ (by simp) rfl _ rfl _ rfl;have f12:=hd ⟨12,.data⟩ (by simp) rfl _ rfl _ rfl;(try simp [Act.eval] at f9);(try simp [Act.eval] at f12);go_simp;exact hK _ rfl
      ·intro st hlo hhi ac w3 hg hG hd K hK;dsimp only at hlo hhi hG hK;have f7:=hd ⟨7,.data⟩ (by simp) rfl _ rfl _ rfl;have f13:=hd ⟨13,.data⟩ (by simp) rfl _ rfl _ rfl;(try simp [Act.eval] at f7);(try simp [Act.eval] at f13);go_simp;exact hK _ rfl
      ·intro ac w3 hg hG hd K hK;dsimp only [Nat.zero_add,Nat.reduceAdd] at hG hK;have f0:=hd ⟨0,.data⟩ (by simp) rfl _ rfl _ rfl;have f14:=hd ⟨14,.data⟩ (by simp) rfl _ rfl _ rfl;have HG:=hide hG;clear hG;simp [Act.eval] at f0 f14;go_simp;(refine (put_at (qB y) _ (by rw [← HQ.out];rfl) (by rw [← HQ.out];simp) (show WrX base wb (putO x (34 :: (s.take j).flatMap qB)) w3 from HG.out.1) (Nat.le_trans hb HG.out.2.1.size)).mono ?_);rintro e w8 ⟨rfl,hx,hbl,hkt⟩;rw [HT.out] at hx;exact hK _ _ trivial ⟨hx,HG.out.2.1.trans hbl,HG.out.2.2.trans hkt⟩ rfl
     case g0=>exact ⟨wrx_below HX.out (bR.drew),HB.out.trans (bR.drew),HTT.out.trans (KT.of_below (bR.drew) (Nat.le_refl _))⟩
     case fin=>
      intro f9 w9 hG hall;have HX2:=hide hG.1;have HB2:=hide hG.2.1;have HT2:=hide hG.2.2;clear hall hG;simp only [fillF,List.map_cons,List.map_nil,List.foldl_cons,List.foldl_nil,Act.put,List.setIfInBounds_toArray,List.set_cons_zero,List.set_cons_succ];go_wp2_with fail
      go_roundw
      case rel=>exact ⟨j+1,by go_num,by omega,HX2,HB2,HT2⟩
      case measure=>simp [intOf];omega
    ·have d2:decide ((y.toNat:Int)<32)=false:=by simp;omega
     have HQ:=hide (hhi (by omega));clear hlo hhi;go_wp2_with (first|(go_at_call 124;(refine (Tryz.strings_IndexByte ⟨qFrom.toArray⟩ _ _).mono ?_);rw [show Lib.indexByte (⟨qFrom.toArray⟩:ByteArray).data.toList (((y.toNat:Int)).toNat).toUInt8 = -1 by rw [byte_back];exact HK.out];rintro e w1 ⟨rfl,rfl⟩)|(go_at_call 108;(refine (put_at (qB y) _ (by rw [← HQ.out];exact one_cut hlt hxs) (by rw [← HQ.out];simp) HX.out (Nat.le_trans hb HB.out.size)).mono ?_);rintro e w2 ⟨rfl,hx,hbl,hkt⟩;(rw [HT.out] at hx);have HX2:=hide hx;have HB2:=hide (HB.out.trans hbl);have HT2:=hide (HTT.out.trans hkt);clear hx hbl hkt))
     go_roundw
     case rel=>exact ⟨j+1,by go_num,by omega,HX2,HB2,HT2⟩
     case measure=>simp [intOf];omega
  ·have HQ:=hide (show putO (putO x (34 :: (s.take j).flatMap qB)) [34]=putO x (quoteL s) by rw [putO_app,List.take_of_length_le (by omega)];rfl);go_wp2_with (go_at_call 108;(refine (put_at [34] _ (by rfl) (by decide) HX.out (Nat.le_trans hb HB.out.size)).mono ?_);rintro e w2 ⟨rfl,hx,hbl,hkt⟩;(rw [HQ.out] at hx);have HX2:=hide hx;have HB2:=hide (HB.out.trans hbl);have HT2:=hide (HTT.out.trans hkt);clear hx hbl hkt)
   exact ⟨rfl,.tuple #[],results_none rfl _ _ _,rfl,HX2.out,HB2.out,HT2.out⟩
def numIs (t:L8):JV→Bool
 | .mk k t' _ _=>decide (k=4)&&decide (t'=t)
def numOk (t:L8):Bool:=decide (gotE (parseS t)=0)&&numIs t (gotJ (parseS t))
set_option maxRecDepth 100000 in
set_option maxHeartbeats 600000 in
theorem numeral_any (w:World) (t:L8) (hT:Tabs w):Calls Tryz.prog 107 #[.string ⟨t.toArray⟩] w fun e w'=>e=.returned (.bool (numOk t))∧Below w.heap.size w w':=by
 obtain ⟨w1,hw1⟩:∃ x,Lib.bytesWorld w T8 ⟨t.toArray⟩=x:=⟨_,rfl⟩;have hcx:(convert 9 29 (.string ⟨t.toArray⟩)).run Tryz.prog w=.ok (.slice (some ⟨w.heap.size,0,none⟩) t.length (grownCap w t.length 0 T8)) w1:=hw1 ▸ conv_run t w;have HR1:=hide (show RB w1 w1.heap.size (some ⟨w.heap.size,0,none⟩) t.length t from hw1 ▸ conv_rb t w);have HK1:=hide (conv_cap t w);have HN1:=hide (show Below w.heap.size w w1 from hw1 ▸ conv_below t w);have HA1:=hide (show ∀ ad:Addr,(some (⟨w.heap.size,0,none⟩:Addr))=some ad→ad.block<w1.heap.size from hw1 ▸ conv_lt t w);have HT1:=hide (hT.below HN1.out);clear hw1 hT
 go_enter Tryz.func107,Tryz.ntmps107
 go_upto_region 2 with (go_at_call 13;(refine (parse_uni HR1.out HK1.out HT1.out HA1.out).mono ?_);rintro e w2 ⟨hb,k,tb,A1,n1,c1,A2,n2,c2,at_,rfl,hv⟩;have HB2:=hide (HN1.out.trans (hb.mono HN1.out.size));have HV2:=hide hv;clear hb hv)
 obtain ⟨w3,hw3⟩:∃ x,w2.alloc (.cells #[.int .i64 k,.string tb,.slice A1 n1 c1,.slice A2 n2 c2] TV)=x:=⟨_,rfl⟩;have HB3:=hide (show Below w.heap.size w w3 from hw3 ▸ bal HB2.out _);have HC:=hide (show Blk w3 w2.heap.size TV #[.int .i64 k,.string tb,.slice A1 n1 c1,.slice A2 n2 c2] from hw3 ▸ Blk.new _ _ _);rw [hw3];clear hw3 hcx;obtain ⟨J,hJ⟩:∃ J,gotJ (parseS t)=J:=⟨_,rfl⟩;obtain ⟨ge,hge⟩:∃ x,gotE (parseS t)=x:=⟨_,rfl⟩;have HD:=hide (show numOk t=(decide (ge=0)&&numIs t J) by unfold numOk;rw [hJ,hge]);rw [hJ] at HV2;rw [hge];clear hJ hge;obtain ⟨k',t',ks,vs⟩:=J;obtain ⟨B1,d1,B2,d2,xs,hcs,_⟩:=HV2.out.mk';simp only [List.cons.injEq,Value.int.injEq,Value.string.injEq,Value.slice.injEq,true_and,and_true] at hcs;obtain ⟨rfl,rfl,_⟩:=hcs;have kv:=HC.out.cell;have fv:=HC.out.frozen;have zv:=HC.out.lt;clear HV2;by_cases h1:ge=0
 ·subst h1;by_cases h2:k=4
  ·subst h2;by_cases h3:t'=t
   ·subst h3;go_wp2_with fail
    go_ret;exact ⟨by rw [HD.out];simp [numIs],HB3.out⟩
   ·have e3:=str_ne h3;go_wp2_with fail
    go_ret;exact ⟨by rw [HD.out];simp [numIs,h3],HB3.out⟩
  ·have e2:(k == 4)=false:=by simp;omega
   have HH2:=hide h2;clear h2;go_wp2_with fail
   go_ret;exact ⟨by rw [HD.out];simp [numIs,HH2.out],HB3.out⟩
 ·have e1:((ge:Int) == 0)=false:=by simp;omega
  have HH1:=hide h1;clear h1;go_wp2_with fail
  go_ret;exact ⟨by rw [HD.out];simp [HH1.out],HB3.out⟩
end Go.Proofs.YtacinobmcgcccaaGreatDoor
/-
  DERIVED: THE SHELF's CONTRACTS AT THIS DUMP, IN PLAIN WORDS (tools/lay-plain.mjs out of 'TryzShelfD.lean', which tools/lay-shelf.mjs wrote): THE SAME DECLARATIONS UNDER THE SAME NAMES: 'import', 'namespace', 'open', 'def', 'theorem' AND NOTHING ELSE: no command of the shelf's: FOR A HAND-IN. Each laying: the table of numbers ('.._ren') and one theorem, a field a fact of the dump's own or the kernel's comparison;each contract: ONE APPLICATION.
-/
namespace Go.Proofs
open Go.Shelf
def Tryz.lays196_ren:Go.Shelf.Ren:=⟨fun|196=>106|259=>149|n=>n,fun|9=>9|4=>4|3=>3|5=>5|12=>12|119=>197|0=>0|46=>178|139=>200|138=>199|53=>78|n=>n,fun|3=>0|4=>1|n=>n⟩
theorem Tryz.lays196:Go.Proofs.Lays.n196 Tryz.prog Tryz.lays196_ren:={
 mixed:=by kernel_rfl
 f196:=Tryz.func106.trans (congrArg some (by kernel_rfl))
 f259:=Tryz.func149.trans (congrArg some (by kernel_rfl))
 t0:=Tryz.underlying0
 a0:=Tryz.isAgg0
 z0:=Tryz.sizeOf0
 v0:=Tryz.zeroValue0
 t3:=Tryz.underlying3
 a3:=Tryz.isAgg3
 z3:=Tryz.sizeOf3
 v3:=Tryz.zeroValue3
 t4:=Tryz.underlying4
 a4:=Tryz.isAgg4
 z4:=Tryz.sizeOf4
 v4:=Tryz.zeroValue4
 t5:=Tryz.underlying5
 a5:=Tryz.isAgg5
 z5:=Tryz.sizeOf5
 v5:=Tryz.zeroValue5
 t9:=Tryz.underlying9
 a9:=Tryz.isAgg9
 z9:=Tryz.sizeOf9
 v9:=Tryz.zeroValue9
 t12:=Tryz.underlying12
 a12:=Tryz.isAgg12
 z12:=Tryz.sizeOf12
 v12:=Tryz.zeroValue12
 t46:=Tryz.underlying178
 a46:=Tryz.isAgg178
 z46:=Tryz.sizeOf178
 v46:=Tryz.zeroValue178
 t53:=Tryz.underlying78
 a53:=Tryz.isAgg78
 z53:=Tryz.sizeOf78
 v53:=Tryz.zeroValue78
 t119:=Tryz.underlying197
 a119:=Tryz.isAgg197
 z119:=Tryz.sizeOf197
 t138:=Tryz.underlying199
 a138:=Tryz.isAgg199
 z138:=Tryz.sizeOf199
 v138:=Tryz.zeroValue199
 t139:=Tryz.underlying200
 a139:=Tryz.isAgg200
 z139:=Tryz.sizeOf200
 v139:=Tryz.zeroValue200
 g3:=by kernel_rfl
 g4:=by kernel_rfl }
open Go.RowKit in
theorem Tryz.utf8_ValidString (s:ByteArray) (w:World) (hs:s.size≤9223372036854775807) (hT:Lib.Utf8Tabs (Tryz.lays196_ren.g 3) (Tryz.lays196_ren.g 4) w) :
 Calls Tryz.prog 106 #[.string s] w fun e w'=>e=.returned (.bool (Lib.validD s.data.toList))∧Below w.heap.size w w':=Any.utf8_ValidString Tryz.lays196 s w hs hT
end Go.Proofs
