/- The JSON reader: what stands behind a backslash. -/
import Derived.Test.YtacinobmcgcccaaGreatDoorL19
set_option linter.unusedSimpArgs false
set_option linter.unusedVariables false
namespace Go.Proofs.YtacinobmcgcccaaGreatDoor
open Go.RowKit
def hexV (c:UInt8):Option Nat:=
 if isDg c then some (c.toNat - 48) else if 97≤c.toNat∧c.toNat≤102 then some (c.toNat - 87) else if 65≤c.toNat∧c.toNat≤70 then some (c.toNat - 55) else none
def fourS:Nat→L8→Nat→Option Nat
 | 0,_,m=>some m
 | _+1,[],_=>none
 | f+1,c :: s,m=>match hexV c with
   | none=>none
   | some d=>fourS f s (m * 16+d)
def hexLo:L8:=[97,98,99,100,101,102]
def hexUp:L8:=[65,66,67,68,69,70]
theorem u8_all (p:UInt8→Prop) [DecidablePred p] (h:∀ k:Fin 256,p (UInt8.ofNat k.val)) (c:UInt8):p c:=by
 have:=h ⟨c.toNat,c.toNat_lt⟩;simpa using this
theorem lo_is (c:UInt8):hexLo.contains c=(decide (97≤c.toNat)&&decide (c.toNat≤102)):=u8_all (fun c=>hexLo.contains c=(decide (97≤c.toNat)&&decide (c.toNat≤102))) (by decide +kernel) c
theorem up_is (c:UInt8):hexUp.contains c=(decide (65≤c.toNat)&&decide (c.toNat≤70)):=u8_all (fun c=>hexUp.contains c=(decide (65≤c.toNat)&&decide (c.toNat≤70))) (by decide +kernel) c
theorem hexV_lt {c:UInt8} {d:Nat} (h:hexV c=some d):d<16:=by
 unfold hexV isDg at h;split at h
 ·rename_i h1;simp at h1;injection h;omega
 ·split at h
  ·injection h;omega
  ·split at h
   ·injection h;omega
   ·cases h
theorem fourS_lt:∀ (f:Nat) (s:L8) (m k:Nat),fourS f s m=some k→k<(m+1) * 16 ^ f
 | 0,_,m,k,h=>by simp [fourS] at h;omega
 | f+1,[],m,k,h=>by simp [fourS] at h
 | f+1,c :: s,m,k,h=>by
   unfold fourS at h;cases hc:hexV c with
   | none=>rw [hc] at h;cases h
   | some d=>
     rw [hc] at h;have:=fourS_lt f s _ k h;have hd:=hexV_lt hc
     calc k<(m * 16+d+1) * 16 ^ f:=this
      _≤(16 * (m+1)) * 16 ^ f:=Nat.mul_le_mul_right _ (by omega)
      _=(m+1) * 16 ^ (f+1):=by rw [Nat.pow_succ,Nat.mul_comm 16 (m+1),Nat.mul_assoc,Nat.mul_comm 16 (16 ^ f)]
section
variable {w w':World} {rb:Nat} {A:Option Addr} {n c:Nat} {b:L8} {at_ k ta:Nat} {tx:L8}
theorem fourS_at (f i m:Nat) (h:i<b.length):fourS (f+1) (b.drop i) m=match hexV b[i] with|none=>none|some d=>fourS f (b.drop (i+1)) (m * 16+d):=by rw [drop_cons h];rfl
theorem hex_dg {x:UInt8} (h:isDg x=true):48≤x.toNat∧x.toNat≤57∧hexV x=some (x.toNat - 48):=by
 have h':=h;unfold isDg at h';simp at h';exact ⟨h'.1,h'.2,by unfold hexV;rw [if_pos h]⟩
theorem hex_lo {x:UInt8} (h0:isDg x=false) (h:hexLo.contains x=true):97≤x.toNat∧x.toNat≤102∧hexV x=some (x.toNat - 87):=by
 rw [lo_is] at h;simp at h;exact ⟨h.1,h.2,by unfold hexV;rw [if_neg (by rw [h0];decide),if_pos h]⟩
theorem hex_up {x:UInt8} (h0:isDg x=false) (h1:hexLo.contains x=false) (h:hexUp.contains x=true):65≤x.toNat∧x.toNat≤70∧hexV x=some (x.toNat - 55):=by
 rw [up_is] at h;simp at h;exact ⟨h.1,h.2,by unfold hexV;rw [if_neg (by rw [h0];decide),if_neg (by omega),if_pos h]⟩
theorem hex_no {x:UInt8} (h0:isDg x=false) (h1:hexLo.contains x=false) (h:hexUp.contains x=false):hexV x=none:=by
 rw [up_is] at h;rw [lo_is] at h1;unfold hexV;rw [if_neg (by rw [h0];decide),if_neg (by intro ⟨a,b⟩;simp [a] at h1;omega),if_neg (by intro ⟨a,b⟩;simp [a] at h;omega)]
set_option maxRecDepth 100000 in
set_option maxHeartbeats 2000000 in
theorem four_any (at0:Nat) (x0:Int) (hx0:x0=(at0:Int)) (ha0:at0≤1048576) (h:Rd w rb A n c b at_ k ta tx) :
 Calls Tryz.prog 158 #[.pointer (some ⟨rb,0,none⟩),.int .i64 x0] w fun e w'=>
  (∃ m,fourS 4 (b.drop at0) 0=some m∧e=.returned (.int .i32 (m:Int))∧Below w.heap.size w w')∨(fourS 4 (b.drop at0) 0=none∧e=.panicked (flt ta 11)∧Below w.heap.size w w'):=by
 subst hx0;have H:=hide h;have HL:=hide h.len;have hn:=h.hn;have HX:=hide (show ∀ i,i<n → ∀ hl:i<b.length,∃ ad,A=some ad∧ad.block<w.heap.size∧w.cell? (ad.add i)=some (.int .u8 (b[i].toNat:Int)) from fun i hi hl=>RB.at_ h.rd hi hl);clear h
 go_enter Tryz.func158,Tryz.ntmps158
 go_wp2_with fail
 go_loopw [5,6] (fun nv iv wr=>∃ i m:Nat,at0≤i∧i≤at0+4∧m<16 ^ (i - at0)∧nv=.int .i32 (m:Int)∧iv=.int .i64 (i:Int)∧Hid (Below w.heap.size w wr)∧Hid (fourS (at0+4 - i) (b.drop i) m=fourS 4 (b.drop at0) 0)) (fun _ iv _=>at0+4 - (intOf iv).toNat)
 case atStart=>exact ⟨at0,0,by omega,by omega,by rw [Nat.sub_self];decide,rfl,rfl,hide bR,hide (by rw [Nat.add_sub_cancel_left])⟩
 case round=>
  obtain ⟨i,m,hi,hi4,hm,rfl,rfl,HB,HR⟩:=hrel;have kr:=(H.out.below HB.out).blk.cell;have fr:=(H.out.below HB.out).blk.frozen;have zr:=(H.out.below HB.out).blk.lt;by_cases h4:i<at0+4
  ·have hm2:m<4096:=nLl hm (Nat.le_trans (Nat.pow_le_pow_right (by omega) (show i - at0≤3 by omega)) (by decide));have HM:=hide (show ∀ d,d<16→m * 16+d<16 ^ (i+1 - at0) by
    intro d hd;rw [show i+1 - at0=(i - at0)+1 by omega,Nat.pow_succ];omega)
   clear hm;obtain ⟨f,hf⟩:∃ f,at0+4 - i=f+1:=⟨at0+3 - i,by omega⟩;rw [hf] at HR;have HFF:=hide (show at0+4 - (i+1)=f by omega);clear hf;by_cases hin:i<n
   ·have hib:i<b.length:=by rw [HL.out];exact hin
    obtain ⟨ad,hA,hab,hcell⟩:=HX.out i hin hib;subst hA;obtain ⟨x,hx⟩:∃ x,b[i]=x:=⟨_,rfl⟩;rw [hx] at hcell;have HDG:=hide (show digS (b.drop i)=isDg x by rw [digS_at hib,hx]);have HLO:=hide (show isS (b.drop i) hexLo=hexLo.contains x by rw [isS_at hib,hx]);have HUP:=hide (show isS (b.drop i) hexUp=hexUp.contains x by rw [isS_at hib,hx]);have HFS:=hide (show fourS (f+1) (b.drop i) m=match hexV x with|none=>none|some d=>fourS f (b.drop (i+1)) (m * 16+d) by rw [fourS_at f i m hib,hx]);have HC:=hide (show ∀ w2,Below w.heap.size w w2→w2.cell? (ad.add i)=some (.int .u8 (x.toNat:Int)) from fun w2 hb=>(hb.cell (by rw [block_of_add];exact hab)).trans hcell);have zx:ad.block<w.heap.size:=hab;clear hcell hx hib hab;cases hd:isDg x
    ·rw [hd] at HDG;cases hl:hexLo.contains x
     ·rw [hl] at HLO;cases hu:hexUp.contains x
      ·rw [hu] at HUP;have HNO:=hide (show fourS 4 (b.drop at0) 0=none by rw [← HR.out,HFS.out,hex_no hd hl hu]);clear hd hl hu HR HFS;go_wp2_with (first|(go_at_call 35;(refine (fail_any 11 (H.out.below HB3.out)).mono ?_);rintro e w5 ⟨rfl,hb⟩;have HB5:=hide (HB3.out.trans (hb.mono HB3.out.size));clear hb)|(go_at_call 76;(refine (digit_any i (H.out.below HB.out)).mono ?_);rw [HDG.out];rintro e w2 ⟨rfl,hb⟩;have HB1:=hide (HB.out.trans (hb.mono HB.out.size));clear hb;have kr1:=(H.out.below HB1.out).blk.cell;have fr1:=(H.out.below HB1.out).blk.frozen;have zr1:=(H.out.below HB1.out).blk.lt;have cx1:=HC.out _ HB1.out)|(go_at_call 74;(refine (is_any hexUp i (H.out.below HB2.out)).mono ?_);rw [HUP.out];rintro e w4 ⟨rfl,hb⟩;have HB3:=hide (HB2.out.trans (hb.mono HB2.out.size));clear hb;have kr3:=(H.out.below HB3.out).blk.cell;have fr3:=(H.out.below HB3.out).blk.frozen;have zr3:=(H.out.below HB3.out).blk.lt;have cx3:=HC.out _ HB3.out)|(go_at_call 74;(refine (is_any hexLo i (H.out.below HB1.out)).mono ?_);rw [HLO.out];rintro e w3 ⟨rfl,hb⟩;have HB2:=hide (HB1.out.trans (hb.mono HB1.out.size));clear hb;have kr2:=(H.out.below HB2.out).blk.cell;have fr2:=(H.out.below HB2.out).blk.frozen;have zr2:=(H.out.below HB2.out).blk.lt;have cx2:=HC.out _ HB2.out))
       exact ⟨rfl,.inr ⟨HNO.out,rfl,HB5.out⟩⟩
      ·rw [hu] at HUP;obtain ⟨u1,u2,u3⟩:=hex_up hd hl hu;clear hl hu;have HRN:=hide (show fourS f (b.drop (i+1)) (m * 16+(x.toNat - 55))=fourS 4 (b.drop at0) 0 by rw [← HR.out,HFS.out,u3]);clear hd u3 HFS HR;go_wp2_with (first|(go_at_call 35;(refine (fail_any 11 (H.out.below HB3.out)).mono ?_);rintro e w5 ⟨rfl,hb⟩;have HB5:=hide (HB3.out.trans (hb.mono HB3.out.size));clear hb)|(go_at_call 76;(refine (digit_any i (H.out.below HB.out)).mono ?_);rw [HDG.out];rintro e w2 ⟨rfl,hb⟩;have HB1:=hide (HB.out.trans (hb.mono HB.out.size));clear hb;have kr1:=(H.out.below HB1.out).blk.cell;have fr1:=(H.out.below HB1.out).blk.frozen;have zr1:=(H.out.below HB1.out).blk.lt;have cx1:=HC.out _ HB1.out)|(go_at_call 74;(refine (is_any hexUp i (H.out.below HB2.out)).mono ?_);rw [HUP.out];rintro e w4 ⟨rfl,hb⟩;have HB3:=hide (HB2.out.trans (hb.mono HB2.out.size));clear hb;have kr3:=(H.out.below HB3.out).blk.cell;have fr3:=(H.out.below HB3.out).blk.frozen;have zr3:=(H.out.below HB3.out).blk.lt;have cx3:=HC.out _ HB3.out)|(go_at_call 74;(refine (is_any hexLo i (H.out.below HB1.out)).mono ?_);rw [HLO.out];rintro e w3 ⟨rfl,hb⟩;have HB2:=hide (HB1.out.trans (hb.mono HB1.out.size));clear hb;have kr2:=(H.out.below HB2.out).blk.cell;have fr2:=(H.out.below HB2.out).blk.frozen;have zr2:=(H.out.below HB2.out).blk.lt;have cx2:=HC.out _ HB2.out))
       go_roundw
       case rel=>exact ⟨i+1,m * 16+(x.toNat - 55),by omega,by omega,HM.out _ (by omega),by go_num,by go_num,HB3,hide (by rw [HFF.out];exact HRN.out)⟩
       case measure=>simp [intOf];omega
     ·rw [hl] at HLO;obtain ⟨u1,u2,u3⟩:=hex_lo hd hl;clear hl;have HRN:=hide (show fourS f (b.drop (i+1)) (m * 16+(x.toNat - 87))=fourS 4 (b.drop at0) 0 by rw [← HR.out,HFS.out,u3]);clear hd u3 HFS HR;go_wp2_with (first|(go_at_call 35;(refine (fail_any 11 (H.out.below HB3.out)).mono ?_);rintro e w5 ⟨rfl,hb⟩;have HB5:=hide (HB3.out.trans (hb.mono HB3.out.size));clear hb)|(go_at_call 76;(refine (digit_any i (H.out.below HB.out)).mono ?_);rw [HDG.out];rintro e w2 ⟨rfl,hb⟩;have HB1:=hide (HB.out.trans (hb.mono HB.out.size));clear hb;have kr1:=(H.out.below HB1.out).blk.cell;have fr1:=(H.out.below HB1.out).blk.frozen;have zr1:=(H.out.below HB1.out).blk.lt;have cx1:=HC.out _ HB1.out)|(go_at_call 74;(refine (is_any hexUp i (H.out.below HB2.out)).mono ?_);rw [HUP.out];rintro e w4 ⟨rfl,hb⟩;have HB3:=hide (HB2.out.trans (hb.mono HB2.out.size));clear hb;have kr3:=(H.out.below HB3.out).blk.cell;have fr3:=(H.out.below HB3.out).blk.frozen;have zr3:=(H.out.below HB3.out).blk.lt;have cx3:=HC.out _ HB3.out)|(go_at_call 74;(refine (is_any hexLo i (H.out.below HB1.out)).mono ?_);rw [HLO.out];rintro e w3 ⟨rfl,hb⟩;have HB2:=hide (HB1.out.trans (hb.mono HB1.out.size));clear hb;have kr2:=(H.out.below HB2.out).blk.cell;have fr2:=(H.out.below HB2.out).blk.frozen;have zr2:=(H.out.below HB2.out).blk.lt;have cx2:=HC.out _ HB2.out))
      go_roundw
      case rel=>exact ⟨i+1,m * 16+(x.toNat - 87),by omega,by omega,HM.out _ (by omega),by go_num,by go_num,HB2,hide (by rw [HFF.out];exact HRN.out)⟩
      case measure=>simp [intOf];omega
    ·rw [hd] at HDG;obtain ⟨u1,u2,u3⟩:=hex_dg hd;have HRN:=hide (show fourS f (b.drop (i+1)) (m * 16+(x.toNat - 48))=fourS 4 (b.drop at0) 0 by rw [← HR.out,HFS.out,u3]);clear hd u3 HFS HR;go_wp2_with (first|(go_at_call 35;(refine (fail_any 11 (H.out.below HB3.out)).mono ?_);rintro e w5 ⟨rfl,hb⟩;have HB5:=hide (HB3.out.trans (hb.mono HB3.out.size));clear hb)|(go_at_call 76;(refine (digit_any i (H.out.below HB.out)).mono ?_);rw [HDG.out];rintro e w2 ⟨rfl,hb⟩;have HB1:=hide (HB.out.trans (hb.mono HB.out.size));clear hb;have kr1:=(H.out.below HB1.out).blk.cell;have fr1:=(H.out.below HB1.out).blk.frozen;have zr1:=(H.out.below HB1.out).blk.lt;have cx1:=HC.out _ HB1.out)|(go_at_call 74;(refine (is_any hexUp i (H.out.below HB2.out)).mono ?_);rw [HUP.out];rintro e w4 ⟨rfl,hb⟩;have HB3:=hide (HB2.out.trans (hb.mono HB2.out.size));clear hb;have kr3:=(H.out.below HB3.out).blk.cell;have fr3:=(H.out.below HB3.out).blk.frozen;have zr3:=(H.out.below HB3.out).blk.lt;have cx3:=HC.out _ HB3.out)|(go_at_call 74;(refine (is_any hexLo i (H.out.below HB1.out)).mono ?_);rw [HLO.out];rintro e w3 ⟨rfl,hb⟩;have HB2:=hide (HB1.out.trans (hb.mono HB1.out.size));clear hb;have kr2:=(H.out.below HB2.out).blk.cell;have fr2:=(H.out.below HB2.out).blk.frozen;have zr2:=(H.out.below HB2.out).blk.lt;have cx2:=HC.out _ HB2.out))
     go_roundw
     case rel=>exact ⟨i+1,m * 16+(x.toNat - 48),by omega,by omega,HM.out _ (by omega),by go_num,by go_num,HB1,hide (by rw [HFF.out];exact HRN.out)⟩
     case measure=>simp [intOf];omega
   ·have hib:b.length≤i:=by rw [HL.out];omega
    have HDG:=hide (show digS (b.drop i)=false from digS_end hib);have HLO:=hide (show isS (b.drop i) hexLo=false from isS_end hib);have HUP:=hide (show isS (b.drop i) hexUp=false from isS_end hib);have HNO:=hide (show fourS 4 (b.drop at0) 0=none by rw [← HR.out,List.drop_of_length_le hib];rfl);clear hib HR HM;go_wp2_with (first|(go_at_call 35;(refine (fail_any 11 (H.out.below HB3.out)).mono ?_);rintro e w5 ⟨rfl,hb⟩;have HB5:=hide (HB3.out.trans (hb.mono HB3.out.size));clear hb)|(go_at_call 76;(refine (digit_any i (H.out.below HB.out)).mono ?_);rw [HDG.out];rintro e w2 ⟨rfl,hb⟩;have HB1:=hide (HB.out.trans (hb.mono HB.out.size));clear hb)|(go_at_call 74;(refine (is_any hexUp i (H.out.below HB2.out)).mono ?_);rw [HUP.out];rintro e w4 ⟨rfl,hb⟩;have HB3:=hide (HB2.out.trans (hb.mono HB2.out.size));clear hb)|(go_at_call 74;(refine (is_any hexLo i (H.out.below HB1.out)).mono ?_);rw [HLO.out];rintro e w3 ⟨rfl,hb⟩;have HB2:=hide (HB1.out.trans (hb.mono HB1.out.size));clear hb))
    exact ⟨rfl,.inr ⟨HNO.out,rfl,HB5.out⟩⟩
  ·have h5:at0+4 - i=0:=by omega
   rw [h5] at HR;have HS:=hide (show fourS 4 (b.drop at0) 0=some m from HR.out.symm);clear HR HX;go_wp2_with fail
   go_ret;exact .inl ⟨m,HS.out,rfl,HB.out⟩
end
def escFrom:L8:=[34,92,47,98,102,110,114,116]
def escTo:L8:=[34,92,47,8,12,10,13,9]
def escOf (c:UInt8):UInt8:=escTo.getD (Lib.indexByte escFrom c).toNat 0
def isHi (c:Nat):Bool:=decide (55296≤c)&&decide (c<56320)
def isLow (c:Nat):Bool:=decide (56320≤c)&&decide (c<57344)
def isSur (c:Nat):Bool:=decide (55296≤c)&&decide (c<57344)
def escS (s:L8):Option (L8 × Nat):=
 if isS s escFrom then some ([escOf (s.headD 0)],1)
 else if isS s [117] then
  match fourS 4 (s.drop 1) 0 with
  | none=>none
  | some c=>
    if isHi c&&isS (s.drop 5) [92]&&isS (s.drop 6) [117] then
     match fourS 4 (s.drop 7) 0 with
     | none=>none
     | some low=>if isLow low then some (Lib.encodeRune (((c - 55296) * 1024+(low - 56320)+65536:Nat):Int),11) else none
    else if isSur c then none else some (Lib.encodeRune (c:Int),5)
 else none
theorem esc_at:∀ c:UInt8,escFrom.contains c=true → ∃ j:Nat,j<8∧Lib.indexByte escFrom c=(j:Int)∧escTo[j]? = some (escOf c):=by
 intro c;exact u8_all (fun c=>escFrom.contains c=true → ∃ j:Nat,j<8∧Lib.indexByte escFrom c=(j:Int)∧escTo[j]? = some (escOf c)) (by decide +kernel) c
section
variable {w w' w0:World} {rb:Nat} {A:Option Addr} {n c:Nat} {b l:L8} {at_ k ta bb:Nat} {tx:L8}
theorem bu_elem {y y':UInt8} (h:BuAt w0.heap.size bb (l++[y]) w) (e:y=y'):BuAt w0.heap.size bb (l++[y']) w:=e ▸ h
theorem hexFour {s:L8} {m:Nat} (h:fourS 4 s 0=some m):m<65536:=by have:=fourS_lt 4 s 0 m h;omega
set_option maxRecDepth 100000 in
set_option maxHeartbeats 400000 in
theorem escape_short (at0:Nat) (x0:Int) (hx0:x0=(at0:Int)) (ha0:at0≤1000000) (h:Rd w0 rb A n c b at_ k ta tx) (hw:Below w0.heap.size w0 w) (hb:IsB w0.heap.size bb l w) (hl:l.length≤1048576) (hs:isS (b.drop at0) escFrom=true) :
 Calls Tryz.prog 126 #[.pointer (some ⟨rb,0,none⟩),.pointer (some ⟨bb,0,none⟩),.int .i64 x0] w fun e w'=>
  e=.returned (.int .i64 ((at0+1:Nat):Int))∧BuAt w0.heap.size bb (l++[escOf ((b.drop at0).headD 0)]) w'∧Below w0.heap.size w w':=by
 subst hx0;have H:=hide h;have HB:=hide hb;have HW:=hide hw;have HS:=hide hs;have hi:at0<b.length:=by
  rcases Nat.lt_or_ge at0 b.length with h1|h1
  ·exact h1
  ·rw [isS_end h1] at hs;cases hs
 have hin:at0<n:=by rw [← h.len];exact hi
 obtain ⟨ad,hA,hab,hcell⟩:=RB.at_ h.rd hin hi;subst hA;rw [isS_at hi] at hs;have hhd:(b.drop at0).headD 0=b[at0]:=by rw [drop_cons hi];rfl
 rw [hhd];clear hhd;obtain ⟨x,hx⟩:∃ x,b[at0]=x:=⟨_,rfl⟩;rw [hx] at hs hcell ⊢;obtain ⟨j,hj8,hji,hjt⟩:=esc_at x hs;have HJ:=hide hji;have HJT:=hide hjt;have HC:=hide (show ∀ w2,Below w0.heap.size w0 w2→w2.cell? (ad.add at0)=some (.int .u8 (x.toNat:Int)) from fun w2 hb=>(hb.cell (by rw [block_of_add];exact hab)).trans hcell);have zx:ad.block<w0.heap.size:=hab;clear hab hcell hx hs hji hjt hb hw h hi
 go_enter Tryz.func126,Tryz.ntmps126
 go_wp2_with (first|(go_at_call 74;(refine (is_any escFrom at0 (H.out.below HW.out)).mono ?_);rw [HS.out];rintro e w1 ⟨rfl,hb⟩;have HB1:=hide (HW.out.trans (hb.mono HW.out.size));have HU:=hide (bu_kept HB.out hb);have HW1:=hide (hb.mono HW.out.size);clear hb;have kr1:=(H.out.below HB1.out).blk.cell;have fr1:=(H.out.below HB1.out).blk.frozen;have zr1:=(H.out.below HB1.out).blk.lt;have cx1:=HC.out _ HB1.out)|(go_at_call 124;(refine (Tryz.strings_IndexByte ⟨escFrom.toArray⟩ _ _).mono ?_);rw [show Lib.indexByte (⟨escFrom.toArray⟩:ByteArray).data.toList (((x.toNat:Int)).toNat).toUInt8=(j:Int) by rw [byte_back];exact HJ.out];rintro e w1 ⟨rfl,rfl⟩))
 refine (byte_any _ HU.out hl HB1.out.size).mono ?_;rintro e w2 ⟨rfl,hB2,hb2⟩;have HB2:=hide (bu_elem hB2 (show _=escOf x from by
  obtain ⟨h1,h2⟩:=List.getElem?_eq_some_iff.1 HJT.out;exact (show _=escTo[j] from rfl).trans h2))
 have HB3:=hide hb2;clear hB2 hb2;go_wp2_with fail
 go_ret;exact ⟨rfl,HB2.out,HW1.out.trans HB3.out⟩
theorem some_uni {o:Option Nat} {a b:Nat} (h:o=some a) (k:o=some b):a=b:=Option.some.inj (h.symm.trans k)
theorem some_no {o:Option Nat} {a:Nat} (h:o=some a) (k:o=none):False:=by rw [h] at k;cases k
theorem escS_long {b:L8} {at0:Nat} (hs:isS (b.drop at0) escFrom=false):escS (b.drop at0) =
 if isS (b.drop at0) [117] then
  match fourS 4 (b.drop (at0+1)) 0 with
  | none=>none
  | some c=>
    if isHi c&&isS (b.drop (at0+5)) [92]&&isS (b.drop (at0+6)) [117] then
     match fourS 4 (b.drop (at0+7)) 0 with
     | none=>none
     | some low=>if isLow low then some (Lib.encodeRune (((c - 55296) * 1024+(low - 56320)+65536:Nat):Int),11) else none
    else if isSur c then none else some (Lib.encodeRune (c:Int),5)
 else none:=by
 unfold escS;rw [hs];simp only [List.drop_drop,Bool.false_eq_true,if_false]
set_option maxRecDepth 100000 in
set_option maxHeartbeats 2000000 in
theorem escape_long (at0:Nat) (x0:Int) (hx0:x0=(at0:Int)) (ha0:at0≤1000000) (h:Rd w0 rb A n c b at_ k ta tx) (hw:Below w0.heap.size w0 w) (hb:IsB w0.heap.size bb l w) (hl:l.length≤1048576) (hs:isS (b.drop at0) escFrom=false) :
 Calls Tryz.prog 126 #[.pointer (some ⟨rb,0,none⟩),.pointer (some ⟨bb,0,none⟩),.int .i64 x0] w fun e w'=>
  (∃ x d,escS (b.drop at0)=some (x,d)∧e=.returned (.int .i64 ((at0+d:Nat):Int))∧BuAt w0.heap.size bb (l++x) w'∧Below w0.heap.size w w')∨(escS (b.drop at0)=none∧e=.panicked (flt ta 11)∧Below w0.heap.size w w'):=by
 subst hx0;have H:=hide h;have HU0:=hide hb;have HB0:=hide hw;have HV0:=hide (Below.refl w0.heap.size w);have HS:=hide hs;have HE:=hide (escS_long hs);clear h hw hb hs;cases hu:isS (b.drop at0) [117]
 ·have HU_:=hide hu;rw [hu] at HE;have HN:=hide (show escS (b.drop at0)=none from HE.out);clear hu HE
  go_enter Tryz.func126,Tryz.ntmps126
  go_wp2_with (first|(go_at_call 35;(refine (fail_any 11 (H.out.below HB2.out)).mono ?_);rintro e w9 ⟨rfl,hb⟩;have HV9:=hide (HV2.out.trans (hb.mono HB2.out.size));clear hb)|(go_at_call 74;(refine (is_at [117] (i:=at0) (by omega) (H.out.below HB1.out)).mono ?_);rw [HU_.out];rintro e w1 ⟨rfl,hb⟩;have HU2:=hide (bu_kept HU1.out hb);have HB2:=hide (HB1.out.trans (hb.mono HB1.out.size));have HV2:=hide (HV1.out.trans (hb.mono HB1.out.size));clear hb)|(go_at_call 74;(refine (is_at escFrom (i:=at0) (by omega) (H.out.below HB0.out)).mono ?_);rw [HS.out];rintro e w1 ⟨rfl,hb⟩;have HU1:=hide (bu_kept HU0.out hb);have HB1:=hide (HB0.out.trans (hb.mono HB0.out.size));have HV1:=hide (HV0.out.trans (hb.mono HB0.out.size));clear hb))
  exact ⟨rfl,.inr ⟨HN.out,rfl,HV9.out⟩⟩
 ·have HU_:=hide hu;rw [hu,if_pos rfl] at HE;clear hu;cases hf:fourS 4 (b.drop (at0+1)) 0 with
  | none=>
    have HF:=hide hf;rw [hf] at HE;have HN:=hide (show escS (b.drop at0)=none from HE.out);clear hf HE
    go_enter Tryz.func126,Tryz.ntmps126
    go_wp2_with (first|(go_at_call 158;(refine (four_any (at0+1) _ (by omega) (by omega) (H.out.below HB2.out)).mono ?_);rintro e w1 (⟨m',hm',rfl,hb⟩|⟨hm',rfl,hb⟩);(exact (some_no hm' HF.out).elim);have HV9:=hide (HV2.out.trans (hb.mono HB2.out.size));clear hb hm')|(go_at_call 74;(refine (is_at [117] (i:=at0) (by omega) (H.out.below HB1.out)).mono ?_);rw [HU_.out];rintro e w1 ⟨rfl,hb⟩;have HU2:=hide (bu_kept HU1.out hb);have HB2:=hide (HB1.out.trans (hb.mono HB1.out.size));have HV2:=hide (HV1.out.trans (hb.mono HB1.out.size));clear hb)|(go_at_call 74;(refine (is_at escFrom (i:=at0) (by omega) (H.out.below HB0.out)).mono ?_);rw [HS.out];rintro e w1 ⟨rfl,hb⟩;have HU1:=hide (bu_kept HU0.out hb);have HB1:=hide (HB0.out.trans (hb.mono HB0.out.size));have HV1:=hide (HV0.out.trans (hb.mono HB0.out.size));clear hb))
    exact ⟨rfl,.inr ⟨HN.out,rfl,HV9.out⟩⟩
  | some m=>
    have HF:=hide hf;have hm:=hexFour hf;rw [hf] at HE;simp only [] at HE;clear hf;cases hh:isHi m
    ·rw [hh] at HE;simp only [Bool.false_and,Bool.false_eq_true,if_false] at HE;cases hq:isSur m
     ·rw [hq] at HE;simp only [Bool.false_eq_true,if_false] at HE;unfold isSur at hq;unfold isHi at hh;by_cases h1:55296≤m
      ·have g1:decide ((55296:Int)≤(m:Int))=true:=by simp;omega
       have g2:decide ((m:Int)<56320)=false:=by simp [h1] at hh;simp;omega
       have g3:decide ((m:Int)<57344)=false:=by simp [h1] at hq;simp;omega
       clear hh hq
       go_enter Tryz.func126,Tryz.ntmps126
       go_wp2_with (first|(go_at_call 128;(refine (rune_any (m:Int) (by omega) (by omega) HU3.out hl HB3.out.size).mono ?_);rintro e w9 ⟨⟨vv,rfl⟩,hB,hb⟩;have HB9:=hide hB;have HV9:=hide (HV3.out.trans hb);clear hB hb)|(go_at_call 158;(refine (four_any (at0+1) _ (by omega) (by omega) (H.out.below HB2.out)).mono ?_);rintro e w1 (⟨m',hm',rfl,hb⟩|⟨hm',rfl,hb⟩);rotate_left;(exact (some_no HF.out hm').elim);(obtain rfl:m=m':=some_uni HF.out hm');have HU3:=hide (bu_kept HU2.out hb);have HB3:=hide (HB2.out.trans (hb.mono HB2.out.size));have HV3:=hide (HV2.out.trans (hb.mono HB2.out.size));clear hb hm')|(go_at_call 74;(refine (is_at [117] (i:=at0) (by omega) (H.out.below HB1.out)).mono ?_);rw [HU_.out];rintro e w1 ⟨rfl,hb⟩;have HU2:=hide (bu_kept HU1.out hb);have HB2:=hide (HB1.out.trans (hb.mono HB1.out.size));have HV2:=hide (HV1.out.trans (hb.mono HB1.out.size));clear hb)|(go_at_call 74;(refine (is_at escFrom (i:=at0) (by omega) (H.out.below HB0.out)).mono ?_);rw [HS.out];rintro e w1 ⟨rfl,hb⟩;have HU1:=hide (bu_kept HU0.out hb);have HB1:=hide (HB0.out.trans (hb.mono HB0.out.size));have HV1:=hide (HV0.out.trans (hb.mono HB0.out.size));clear hb))
       go_ret;exact .inl ⟨_,_,HE.out,by go_num,HB9.out,HV9.out⟩
      ·have g1:decide ((55296:Int)≤(m:Int))=false:=by simp;omega
       clear hh hq
       go_enter Tryz.func126,Tryz.ntmps126
       go_wp2_with (first|(go_at_call 128;(refine (rune_any (m:Int) (by omega) (by omega) HU3.out hl HB3.out.size).mono ?_);rintro e w9 ⟨⟨vv,rfl⟩,hB,hb⟩;have HB9:=hide hB;have HV9:=hide (HV3.out.trans hb);clear hB hb)|(go_at_call 158;(refine (four_any (at0+1) _ (by omega) (by omega) (H.out.below HB2.out)).mono ?_);rintro e w1 (⟨m',hm',rfl,hb⟩|⟨hm',rfl,hb⟩);rotate_left;(exact (some_no HF.out hm').elim);(obtain rfl:m=m':=some_uni HF.out hm');have HU3:=hide (bu_kept HU2.out hb);have HB3:=hide (HB2.out.trans (hb.mono HB2.out.size));have HV3:=hide (HV2.out.trans (hb.mono HB2.out.size));clear hb hm')|(go_at_call 74;(refine (is_at [117] (i:=at0) (by omega) (H.out.below HB1.out)).mono ?_);rw [HU_.out];rintro e w1 ⟨rfl,hb⟩;have HU2:=hide (bu_kept HU1.out hb);have HB2:=hide (HB1.out.trans (hb.mono HB1.out.size));have HV2:=hide (HV1.out.trans (hb.mono HB1.out.size));clear hb)|(go_at_call 74;(refine (is_at escFrom (i:=at0) (by omega) (H.out.below HB0.out)).mono ?_);rw [HS.out];rintro e w1 ⟨rfl,hb⟩;have HU1:=hide (bu_kept HU0.out hb);have HB1:=hide (HB0.out.trans (hb.mono HB0.out.size));have HV1:=hide (HV0.out.trans (hb.mono HB0.out.size));clear hb))
       go_ret;exact .inl ⟨_,_,HE.out,by go_num,HB9.out,HV9.out⟩
     ·rw [hq,if_pos rfl] at HE;unfold isSur at hq;unfold isHi at hh;have g1:decide ((55296:Int)≤(m:Int))=true:=by simp at hq;simp;omega
      have g2:decide ((m:Int)<56320)=false:=by simp at hq;simp [hq.1] at hh;simp;omega
      have g3:decide ((m:Int)<57344)=true:=by simp at hq;simp;omega
      have HN:=hide (show escS (b.drop at0)=none from HE.out);clear hh hq HE
      go_enter Tryz.func126,Tryz.ntmps126
      go_wp2_with (first|(go_at_call 35;(refine (fail_any 11 (H.out.below HB3.out)).mono ?_);rintro e w9 ⟨rfl,hb⟩;have HV9:=hide (HV3.out.trans (hb.mono HB3.out.size));clear hb)|(go_at_call 158;(refine (four_any (at0+1) _ (by omega) (by omega) (H.out.below HB2.out)).mono ?_);rintro e w1 (⟨m',hm',rfl,hb⟩|⟨hm',rfl,hb⟩);rotate_left;(exact (some_no HF.out hm').elim);(obtain rfl:m=m':=some_uni HF.out hm');have HU3:=hide (bu_kept HU2.out hb);have HB3:=hide (HB2.out.trans (hb.mono HB2.out.size));have HV3:=hide (HV2.out.trans (hb.mono HB2.out.size));clear hb hm')|(go_at_call 74;(refine (is_at [117] (i:=at0) (by omega) (H.out.below HB1.out)).mono ?_);rw [HU_.out];rintro e w1 ⟨rfl,hb⟩;have HU2:=hide (bu_kept HU1.out hb);have HB2:=hide (HB1.out.trans (hb.mono HB1.out.size));have HV2:=hide (HV1.out.trans (hb.mono HB1.out.size));clear hb)|(go_at_call 74;(refine (is_at escFrom (i:=at0) (by omega) (H.out.below HB0.out)).mono ?_);rw [HS.out];rintro e w1 ⟨rfl,hb⟩;have HU1:=hide (bu_kept HU0.out hb);have HB1:=hide (HB0.out.trans (hb.mono HB0.out.size));have HV1:=hide (HV0.out.trans (hb.mono HB0.out.size));clear hb))
      exact ⟨rfl,.inr ⟨HN.out,rfl,HV9.out⟩⟩
    ·have hsr:isSur m=true:=by unfold isHi at hh;unfold isSur;simp at hh ⊢;omega
     rw [hh,hsr] at HE;simp only [Bool.true_and,if_true] at HE;unfold isHi at hh;have g1:decide ((55296:Int)≤(m:Int))=true:=by simp at hh;simp;omega
     have g2:decide ((m:Int)<56320)=true:=by simp at hh;simp;omega
     have g3:decide ((m:Int)<57344)=true:=by simp at hh;simp;omega
     simp at hh;clear hsr;cases hb1:isS (b.drop (at0+5)) [92]
     ·rw [hb1] at HE;have HBS:=hide hb1;have HN:=hide (show escS (b.drop at0)=none from HE.out);clear hb1 HE
      go_enter Tryz.func126,Tryz.ntmps126
      go_wp2_with (first|(go_at_call 35;(refine (fail_any 11 (H.out.below HB4.out)).mono ?_);rintro e w9 ⟨rfl,hb⟩;have HV9:=hide (HV4.out.trans (hb.mono HB4.out.size));clear hb)|(go_at_call 74;(refine (is_at [92] (i:=at0+5) (by omega) (H.out.below HB3.out)).mono ?_);rw [HBS.out];rintro e w1 ⟨rfl,hb⟩;have HU4:=hide (bu_kept HU3.out hb);have HB4:=hide (HB3.out.trans (hb.mono HB3.out.size));have HV4:=hide (HV3.out.trans (hb.mono HB3.out.size));clear hb)|(go_at_call 158;(refine (four_any (at0+1) _ (by omega) (by omega) (H.out.below HB2.out)).mono ?_);rintro e w1 (⟨m',hm',rfl,hb⟩|⟨hm',rfl,hb⟩);rotate_left;(exact (some_no HF.out hm').elim);(obtain rfl:m=m':=some_uni HF.out hm');have HU3:=hide (bu_kept HU2.out hb);have HB3:=hide (HB2.out.trans (hb.mono HB2.out.size));have HV3:=hide (HV2.out.trans (hb.mono HB2.out.size));clear hb hm')|(go_at_call 74;(refine (is_at [117] (i:=at0) (by omega) (H.out.below HB1.out)).mono ?_);rw [HU_.out];rintro e w1 ⟨rfl,hb⟩;have HU2:=hide (bu_kept HU1.out hb);have HB2:=hide (HB1.out.trans (hb.mono HB1.out.size));have HV2:=hide (HV1.out.trans (hb.mono HB1.out.size));clear hb)|(go_at_call 74;(refine (is_at escFrom (i:=at0) (by omega) (H.out.below HB0.out)).mono ?_);rw [HS.out];rintro e w1 ⟨rfl,hb⟩;have HU1:=hide (bu_kept HU0.out hb);have HB1:=hide (HB0.out.trans (hb.mono HB0.out.size));have HV1:=hide (HV0.out.trans (hb.mono HB0.out.size));clear hb))
      exact ⟨rfl,.inr ⟨HN.out,rfl,HV9.out⟩⟩
     ·rw [hb1] at HE;have HBS:=hide hb1;clear hb1;cases hb2:isS (b.drop (at0+6)) [117]
      ·rw [hb2] at HE;have HUU:=hide hb2;have HN:=hide (show escS (b.drop at0)=none from HE.out);clear hb2 HE
       go_enter Tryz.func126,Tryz.ntmps126
       go_wp2_with (first|(go_at_call 35;(refine (fail_any 11 (H.out.below HB5.out)).mono ?_);rintro e w9 ⟨rfl,hb⟩;have HV9:=hide (HV5.out.trans (hb.mono HB5.out.size));clear hb)|(go_at_call 74;(refine (is_at [117] (i:=at0+6) (by omega) (H.out.below HB4.out)).mono ?_);rw [HUU.out];rintro e w1 ⟨rfl,hb⟩;have HU5:=hide (bu_kept HU4.out hb);have HB5:=hide (HB4.out.trans (hb.mono HB4.out.size));have HV5:=hide (HV4.out.trans (hb.mono HB4.out.size));clear hb)|(go_at_call 74;(refine (is_at [92] (i:=at0+5) (by omega) (H.out.below HB3.out)).mono ?_);rw [HBS.out];rintro e w1 ⟨rfl,hb⟩;have HU4:=hide (bu_kept HU3.out hb);have HB4:=hide (HB3.out.trans (hb.mono HB3.out.size));have HV4:=hide (HV3.out.trans (hb.mono HB3.out.size));clear hb)|(go_at_call 158;(refine (four_any (at0+1) _ (by omega) (by omega) (H.out.below HB2.out)).mono ?_);rintro e w1 (⟨m',hm',rfl,hb⟩|⟨hm',rfl,hb⟩);rotate_left;(exact (some_no HF.out hm').elim);(obtain rfl:m=m':=some_uni HF.out hm');have HU3:=hide (bu_kept HU2.out hb);have HB3:=hide (HB2.out.trans (hb.mono HB2.out.size));have HV3:=hide (HV2.out.trans (hb.mono HB2.out.size));clear hb hm')|(go_at_call 74;(refine (is_at [117] (i:=at0) (by omega) (H.out.below HB1.out)).mono ?_);rw [HU_.out];rintro e w1 ⟨rfl,hb⟩;have HU2:=hide (bu_kept HU1.out hb);have HB2:=hide (HB1.out.trans (hb.mono HB1.out.size));have HV2:=hide (HV1.out.trans (hb.mono HB1.out.size));clear hb)|(go_at_call 74;(refine (is_at escFrom (i:=at0) (by omega) (H.out.below HB0.out)).mono ?_);rw [HS.out];rintro e w1 ⟨rfl,hb⟩;have HU1:=hide (bu_kept HU0.out hb);have HB1:=hide (HB0.out.trans (hb.mono HB0.out.size));have HV1:=hide (HV0.out.trans (hb.mono HB0.out.size));clear hb))
       exact ⟨rfl,.inr ⟨HN.out,rfl,HV9.out⟩⟩
      ·rw [hb2] at HE;simp only [Bool.true_and,if_true] at HE;have HUU:=hide hb2;clear hb2;cases hg:fourS 4 (b.drop (at0+7)) 0 with
       | none=>
         have HG:=hide hg;rw [hg] at HE;have HN:=hide (show escS (b.drop at0)=none from HE.out);clear hg HE
         go_enter Tryz.func126,Tryz.ntmps126
         go_wp2_with (first|(go_at_call 158;(refine (four_any (at0+7) _ (by omega) (by omega) (H.out.below HB5.out)).mono ?_);rintro e w1 (⟨m',hm',rfl,hb⟩|⟨hm',rfl,hb⟩);(exact (some_no hm' HG.out).elim);have HV9:=hide (HV5.out.trans (hb.mono HB5.out.size));clear hb hm')|(go_at_call 74;(refine (is_at [117] (i:=at0+6) (by omega) (H.out.below HB4.out)).mono ?_);rw [HUU.out];rintro e w1 ⟨rfl,hb⟩;have HU5:=hide (bu_kept HU4.out hb);have HB5:=hide (HB4.out.trans (hb.mono HB4.out.size));have HV5:=hide (HV4.out.trans (hb.mono HB4.out.size));clear hb)|(go_at_call 74;(refine (is_at [92] (i:=at0+5) (by omega) (H.out.below HB3.out)).mono ?_);rw [HBS.out];rintro e w1 ⟨rfl,hb⟩;have HU4:=hide (bu_kept HU3.out hb);have HB4:=hide (HB3.out.trans (hb.mono HB3.out.size));have HV4:=hide (HV3.out.trans (hb.mono HB3.out.size));clear hb)|(go_at_call 158;(refine (four_any (at0+1) _ (by omega) (by omega) (H.out.below HB2.out)).mono ?_);rintro e w1 (⟨m',hm',rfl,hb⟩|⟨hm',rfl,hb⟩);rotate_left;(exact (some_no HF.out hm').elim);(obtain rfl:m=m':=some_uni HF.out hm');have HU3:=hide (bu_kept HU2.out hb);have HB3:=hide (HB2.out.trans (hb.mono HB2.out.size));have HV3:=hide (HV2.out.trans (hb.mono HB2.out.size));clear hb hm')|(go_at_call 74;(refine (is_at [117] (i:=at0) (by omega) (H.out.below HB1.out)).mono ?_);rw [HU_.out];rintro e w1 ⟨rfl,hb⟩;have HU2:=hide (bu_kept HU1.out hb);have HB2:=hide (HB1.out.trans (hb.mono HB1.out.size));have HV2:=hide (HV1.out.trans (hb.mono HB1.out.size));clear hb)|(go_at_call 74;(refine (is_at escFrom (i:=at0) (by omega) (H.out.below HB0.out)).mono ?_);rw [HS.out];rintro e w1 ⟨rfl,hb⟩;have HU1:=hide (bu_kept HU0.out hb);have HB1:=hide (HB0.out.trans (hb.mono HB0.out.size));have HV1:=hide (HV0.out.trans (hb.mono HB0.out.size));clear hb))
         exact ⟨rfl,.inr ⟨HN.out,rfl,HV9.out⟩⟩
       | some lo=>
         have HG:=hide hg;have hlo:=hexFour hg;rw [hg] at HE;simp only [] at HE;clear hg;cases hll:isLow lo
         ·rw [hll] at HE;have HN:=hide (show escS (b.drop at0)=none from HE.out);unfold isLow at hll;by_cases h1:56320≤lo
          ·have e1:decide ((56320:Int)≤(lo:Int))=true:=by simp;omega
           have e2:decide ((lo:Int)<57344)=false:=by simp [h1] at hll;simp;omega
           clear hll HE
           go_enter Tryz.func126,Tryz.ntmps126
           go_wp2_with (first|(go_at_call 35;(refine (fail_any 11 (H.out.below HB6.out)).mono ?_);rintro e w9 ⟨rfl,hb⟩;have HV9:=hide (HV6.out.trans (hb.mono HB6.out.size));clear hb)|(go_at_call 158;(refine (four_any (at0+7) _ (by omega) (by omega) (H.out.below HB5.out)).mono ?_);rintro e w1 (⟨m',hm',rfl,hb⟩|⟨hm',rfl,hb⟩);rotate_left;(exact (some_no HG.out hm').elim);(obtain rfl:lo=m':=some_uni HG.out hm');have HU6:=hide (bu_kept HU5.out hb);have HB6:=hide (HB5.out.trans (hb.mono HB5.out.size));have HV6:=hide (HV5.out.trans (hb.mono HB5.out.size));clear hb hm')|(go_at_call 74;(refine (is_at [117] (i:=at0+6) (by omega) (H.out.below HB4.out)).mono ?_);rw [HUU.out];rintro e w1 ⟨rfl,hb⟩;have HU5:=hide (bu_kept HU4.out hb);have HB5:=hide (HB4.out.trans (hb.mono HB4.out.size));have HV5:=hide (HV4.out.trans (hb.mono HB4.out.size));clear hb)|(go_at_call 74;(refine (is_at [92] (i:=at0+5) (by omega) (H.out.below HB3.out)).mono ?_);rw [HBS.out];rintro e w1 ⟨rfl,hb⟩;have HU4:=hide (bu_kept HU3.out hb);have HB4:=hide (HB3.out.trans (hb.mono HB3.out.size));have HV4:=hide (HV3.out.trans (hb.mono HB3.out.size));clear hb)|(go_at_call 158;(refine (four_any (at0+1) _ (by omega) (by omega) (H.out.below HB2.out)).mono ?_);rintro e w1 (⟨m',hm',rfl,hb⟩|⟨hm',rfl,hb⟩);rotate_left;(exact (some_no HF.out hm').elim);(obtain rfl:m=m':=some_uni HF.out hm');have HU3:=hide (bu_kept HU2.out hb);have HB3:=hide (HB2.out.trans (hb.mono HB2.out.size));have HV3:=hide (HV2.out.trans (hb.mono HB2.out.size));clear hb hm')|(go_at_call 74;(refine (is_at [117] (i:=at0) (by omega) (H.out.below HB1.out)).mono ?_);rw [HU_.out];rintro e w1 ⟨rfl,hb⟩;have HU2:=hide (bu_kept HU1.out hb);have HB2:=hide (HB1.out.trans (hb.mono HB1.out.size));have HV2:=hide (HV1.out.trans (hb.mono HB1.out.size));clear hb)|(go_at_call 74;(refine (is_at escFrom (i:=at0) (by omega) (H.out.below HB0.out)).mono ?_);rw [HS.out];rintro e w1 ⟨rfl,hb⟩;have HU1:=hide (bu_kept HU0.out hb);have HB1:=hide (HB0.out.trans (hb.mono HB0.out.size));have HV1:=hide (HV0.out.trans (hb.mono HB0.out.size));clear hb))
           exact ⟨rfl,.inr ⟨HN.out,rfl,HV9.out⟩⟩
          ·have e1:decide ((56320:Int)≤(lo:Int))=false:=by simp;omega
           clear hll HE
           go_enter Tryz.func126,Tryz.ntmps126
           go_wp2_with (first|(go_at_call 35;(refine (fail_any 11 (H.out.below HB6.out)).mono ?_);rintro e w9 ⟨rfl,hb⟩;have HV9:=hide (HV6.out.trans (hb.mono HB6.out.size));clear hb)|(go_at_call 158;(refine (four_any (at0+7) _ (by omega) (by omega) (H.out.below HB5.out)).mono ?_);rintro e w1 (⟨m',hm',rfl,hb⟩|⟨hm',rfl,hb⟩);rotate_left;(exact (some_no HG.out hm').elim);(obtain rfl:lo=m':=some_uni HG.out hm');have HU6:=hide (bu_kept HU5.out hb);have HB6:=hide (HB5.out.trans (hb.mono HB5.out.size));have HV6:=hide (HV5.out.trans (hb.mono HB5.out.size));clear hb hm')|(go_at_call 74;(refine (is_at [117] (i:=at0+6) (by omega) (H.out.below HB4.out)).mono ?_);rw [HUU.out];rintro e w1 ⟨rfl,hb⟩;have HU5:=hide (bu_kept HU4.out hb);have HB5:=hide (HB4.out.trans (hb.mono HB4.out.size));have HV5:=hide (HV4.out.trans (hb.mono HB4.out.size));clear hb)|(go_at_call 74;(refine (is_at [92] (i:=at0+5) (by omega) (H.out.below HB3.out)).mono ?_);rw [HBS.out];rintro e w1 ⟨rfl,hb⟩;have HU4:=hide (bu_kept HU3.out hb);have HB4:=hide (HB3.out.trans (hb.mono HB3.out.size));have HV4:=hide (HV3.out.trans (hb.mono HB3.out.size));clear hb)|(go_at_call 158;(refine (four_any (at0+1) _ (by omega) (by omega) (H.out.below HB2.out)).mono ?_);rintro e w1 (⟨m',hm',rfl,hb⟩|⟨hm',rfl,hb⟩);rotate_left;(exact (some_no HF.out hm').elim);(obtain rfl:m=m':=some_uni HF.out hm');have HU3:=hide (bu_kept HU2.out hb);have HB3:=hide (HB2.out.trans (hb.mono HB2.out.size));have HV3:=hide (HV2.out.trans (hb.mono HB2.out.size));clear hb hm')|(go_at_call 74;(refine (is_at [117] (i:=at0) (by omega) (H.out.below HB1.out)).mono ?_);rw [HU_.out];rintro e w1 ⟨rfl,hb⟩;have HU2:=hide (bu_kept HU1.out hb);have HB2:=hide (HB1.out.trans (hb.mono HB1.out.size));have HV2:=hide (HV1.out.trans (hb.mono HB1.out.size));clear hb)|(go_at_call 74;(refine (is_at escFrom (i:=at0) (by omega) (H.out.below HB0.out)).mono ?_);rw [HS.out];rintro e w1 ⟨rfl,hb⟩;have HU1:=hide (bu_kept HU0.out hb);have HB1:=hide (HB0.out.trans (hb.mono HB0.out.size));have HV1:=hide (HV0.out.trans (hb.mono HB0.out.size));clear hb))
           exact ⟨rfl,.inr ⟨HN.out,rfl,HV9.out⟩⟩
         ·rw [hll,if_pos rfl] at HE;unfold isLow at hll;simp at hll;have e1:decide ((56320:Int)≤(lo:Int))=true:=by simp;omega
          have e2:decide ((lo:Int)<57344)=true:=by simp;omega
          clear hll;have HMM:=hide hh;clear hh
          go_enter Tryz.func126,Tryz.ntmps126
          go_upto_region 11 with (first|(go_at_call 158;(refine (four_any (at0+7) _ (by omega) (by omega) (H.out.below HB5.out)).mono ?_);rintro e w1 (⟨m',hm',rfl,hb⟩|⟨hm',rfl,hb⟩);rotate_left;(exact (some_no HG.out hm').elim);(obtain rfl:lo=m':=some_uni HG.out hm');have HU6:=hide (bu_kept HU5.out hb);have HB6:=hide (HB5.out.trans (hb.mono HB5.out.size));have HV6:=hide (HV5.out.trans (hb.mono HB5.out.size));clear hb hm')|(go_at_call 74;(refine (is_at [117] (i:=at0+6) (by omega) (H.out.below HB4.out)).mono ?_);rw [HUU.out];rintro e w1 ⟨rfl,hb⟩;have HU5:=hide (bu_kept HU4.out hb);have HB5:=hide (HB4.out.trans (hb.mono HB4.out.size));have HV5:=hide (HV4.out.trans (hb.mono HB4.out.size));clear hb)|(go_at_call 74;(refine (is_at [92] (i:=at0+5) (by omega) (H.out.below HB3.out)).mono ?_);rw [HBS.out];rintro e w1 ⟨rfl,hb⟩;have HU4:=hide (bu_kept HU3.out hb);have HB4:=hide (HB3.out.trans (hb.mono HB3.out.size));have HV4:=hide (HV3.out.trans (hb.mono HB3.out.size));clear hb)|(go_at_call 158;(refine (four_any (at0+1) _ (by omega) (by omega) (H.out.below HB2.out)).mono ?_);rintro e w1 (⟨m',hm',rfl,hb⟩|⟨hm',rfl,hb⟩);rotate_left;(exact (some_no HF.out hm').elim);(obtain rfl:m=m':=some_uni HF.out hm');have HU3:=hide (bu_kept HU2.out hb);have HB3:=hide (HB2.out.trans (hb.mono HB2.out.size));have HV3:=hide (HV2.out.trans (hb.mono HB2.out.size));clear hb hm')|(go_at_call 74;(refine (is_at [117] (i:=at0) (by omega) (H.out.below HB1.out)).mono ?_);rw [HU_.out];rintro e w1 ⟨rfl,hb⟩;have HU2:=hide (bu_kept HU1.out hb);have HB2:=hide (HB1.out.trans (hb.mono HB1.out.size));have HV2:=hide (HV1.out.trans (hb.mono HB1.out.size));clear hb)|(go_at_call 74;(refine (is_at escFrom (i:=at0) (by omega) (H.out.below HB0.out)).mono ?_);rw [HS.out];rintro e w1 ⟨rfl,hb⟩;have HU1:=hide (bu_kept HU0.out hb);have HB1:=hide (HB0.out.trans (hb.mono HB0.out.size));have HV1:=hide (HV0.out.trans (hb.mono HB0.out.size));clear hb))
          have HLL:=hide (show 56320≤lo∧lo<57344 by simp at e1 e2;omega);clear e1 e2 g1 g2 g3;go_upto_region 12 with fail
          obtain ⟨rr,hrr⟩:∃ rr:Nat,(m - 55296) * 1024+(lo - 56320)+65536=rr:=⟨_,rfl⟩;rw [hrr] at HE;have hrb:65536≤rr∧rr<1114112:=by have:=HMM.out;have:=HLL.out;omega
          rw [show ((m:Int) - 55296) * 1024+(lo:Int) - 56320+65536=(rr:Int) by have:=HMM.out;have:=HLL.out;omega];have g1:decide ((55296:Int)≤(rr:Int))=true:=by simp;omega
          have g3:decide ((rr:Int)<57344)=false:=by simp;omega
          clear hrr HMM HLL;go_wp2_with (go_at_call 128;(refine (rune_any (rr:Int) (by omega) (by omega) HU6.out hl HB6.out.size).mono ?_);rintro e w9 ⟨⟨vv,rfl⟩,hB,hb⟩;have HB9:=hide hB;have HV9:=hide (HV6.out.trans hb);clear hB hb)
          go_ret;exact .inl ⟨_,_,HE.out,by go_num,HB9.out,HV9.out⟩
end
end Go.Proofs.YtacinobmcgcccaaGreatDoor
