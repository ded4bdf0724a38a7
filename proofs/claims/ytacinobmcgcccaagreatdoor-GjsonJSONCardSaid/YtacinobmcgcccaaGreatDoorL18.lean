/- The JSON reader: a number. -/
import Derived.Test.YtacinobmcgcccaaGreatDoorL17
import Derived.Test.YtacinobmcgcccaaGreatDoorL00
import Derived.Deep.CutRange
import Derived.Maps.RangeWalk
set_option linter.unusedSimpArgs false
set_option linter.unusedVariables false
namespace Go.Proofs.YtacinobmcgcccaaGreatDoor
open Go.RowKit
def nI (s:L8):Nat:=if isS s [45] then 1 else 0
def nD (s:L8):Option Nat:=if isS s [48] then some 1 else if digS s then some (runDg s) else none
def nF (s:L8):Option Nat:=if isS s [46] then (if digS (s.drop 1) then some (1+runDg (s.drop 1)) else none) else some 0
def nS (s:L8):Nat:=if isS s [43,45] then 1 else 0
def nE (s:L8):Option Nat:=if isS s [101,69] then (if digS (s.drop (1+nS (s.drop 1))) then some (1+nS (s.drop 1)+runDg (s.drop (1+nS (s.drop 1)))) else none) else some 0
def nX (s:L8):Bool:=digS s||isS s [43,45,46,101,69]
def numL (s:L8):Option Nat:=
 match nD (s.drop (nI s)) with
 | none=>none
 | some d=>match nF (s.drop (nI s+d)) with
   | none=>none
   | some f=>match nE (s.drop (nI s+d+f)) with
     | none=>none
     | some e=>if nX (s.drop (nI s+d+f+e)) then none else some (nI s+d+f+e)
theorem isS_le {s cs:L8} (h:isS s cs=true):1≤s.length:=by
 cases s with
 | nil=>cases h
 | cons _ _=>simp
theorem nI_le (s:L8):nI s≤s.length:=by
 unfold nI;split
 ·next h=>exact isS_le h
 ·omega
theorem digS_le {s:L8} (h:digS s=true):1≤runDg s∧runDg s≤s.length:=by
 cases s with
 | nil=>cases h
 | cons x s=>
   rw [runDg_cons,if_pos (show isDg x=true from h)];have:=run_le s;simp;omega
theorem nD_le {s:L8} {d:Nat} (h:nD s=some d):1≤d∧d≤s.length:=by
 unfold nD at h;split at h
 ·next h1=>injection h with h;subst h;exact ⟨Nat.le_refl _,isS_le h1⟩
 ·split at h
  ·next h1=>injection h with h;subst h;exact digS_le h1
  ·cases h
theorem nF_le {s:L8} {d:Nat} (h:nF s=some d):d≤s.length:=by
 unfold nF at h;split at h
 ·next h1=>
  split at h
  ·next h2=>
   injection h with h;subst h;have:=digS_le h2;rw [List.length_drop] at this;omega
  ·cases h
 ·injection h with h;subst h;omega
theorem nE_le {s:L8} {d:Nat} (h:nE s=some d):d≤s.length:=by
 unfold nE at h;split at h
 ·next h1=>
  split at h
  ·next h2=>
   injection h with h;subst h;have:=digS_le h2;rw [List.length_drop] at this;omega
  ·cases h
 ·injection h with h;subst h;omega
theorem numL_le {s:L8} {m:Nat} (h:numL s=some m):1≤m∧m≤s.length:=by
 unfold numL at h;split at h
 ·cases h
 ·next d hd=>
  split at h
  ·cases h
  ·next f hf=>
   split at h
   ·cases h
   ·next e he=>
    split at h
    ·cases h
    ·injection h with h;subst h;have h0:=nI_le s;have h1:=nD_le hd;have h2:=nF_le hf;have h3:=nE_le he;simp only [List.length_drop] at h1 h2 h3;omega
theorem numL_at {b:L8} {at_ j1:Nat} (h:at_+nI (b.drop at_)=j1):numL (b.drop at_)=match nD (b.drop j1) with
 | none=>none
 | some d=>match nF (b.drop (j1+d)) with
   | none=>none
   | some f=>match nE (b.drop (j1+d+f)) with
     | none=>none
     | some e=>if nX (b.drop (j1+d+f+e)) then none else some (j1+d+f+e - at_):=by
 subst h;unfold numL;simp only [List.drop_drop];simp only [← Nat.add_assoc];cases nD (b.drop (at_+nI (b.drop at_))) with
 | none=>rfl
 | some d=>
   simp only;cases nF (b.drop (at_+nI (b.drop at_)+d)) with
   | none=>rfl
   | some f=>
     simp only;cases nE (b.drop (at_+nI (b.drop at_)+d+f)) with
     | none=>rfl
     | some e=>
       simp only;split
       ·rfl
       ·congr 1;omega
theorem RB.sub {w:World} {B:Nat} {A:Option Addr} {n:Nat} {l:L8} (h:RB w B A n l) {i k cap:Nat} (hk:i+k≤n) (h0:0<k) (hc:n≤cap):∃ ad,A=some ad∧ad.block<B∧RB w B (some (ad.add i)) k ((l.drop i).take k):=by
 obtain ⟨ad,e,hb,hcell⟩:=h.2 (by omega);have hl:=RB.len h;refine ⟨ad,e,hb,by rw [cs8_len,List.length_take,List.length_drop];omega,fun _=>⟨_,rfl,by rw [block_of_add];exact hb,fun j u hu=>?_⟩⟩;rw [add_of_add];refine hcell _ u ?_;rw [cs8_get] at hu ⊢;rw [List.getElem?_take] at hu;split at hu
 ·rw [List.getElem?_drop] at hu;exact hu
 ·cases hu
theorem gb_below {a b:World} {o:Option Nat} (h:Below a.heap.size a b):a.grownBy b o:=⟨h.os,h.tape,h.output,h.size,fun j hj _=>h.block j hj⟩
section
variable {w w':World} {rb:Nat} {A:Option Addr} {n c:Nat} {b:L8} {at_ k ta:Nat} {tx:L8}
theorem is_at (cs:L8) {i:Nat} {x:Int} (hx:x=(i:Int)) (h:Rd w rb A n c b at_ k ta tx) :
 Calls Tryz.prog 74 #[.pointer (some ⟨rb,0,none⟩),.int .i64 x,.string ⟨cs.toArray⟩] w fun e w'=>e=.returned (.bool (isS (b.drop i) cs))∧Below w.heap.size w w':=by
 subst hx;exact is_any cs i h
theorem digit_at {i:Nat} {x:Int} (hx:x=(i:Int)) (h:Rd w rb A n c b at_ k ta tx) :
 Calls Tryz.prog 76 #[.pointer (some ⟨rb,0,none⟩),.int .i64 x] w fun e w'=>e=.returned (.bool (digS (b.drop i)))∧Below w.heap.size w w':=by
 subst hx;exact digit_any i h
theorem digits_got {i j:Nat} {x:Int} (hx:x=(i:Int)) (h:Rd w rb A n c b at_ k ta tx) (hd:digS (b.drop i)=true) (hj:i+runDg (b.drop i)=j) :
 Calls Tryz.prog 129 #[.pointer (some ⟨rb,0,none⟩),.int .i64 x] w fun e w'=>e=.returned (.int .i64 (j:Int))∧Below w.heap.size w w':=by
 subst hx;subst hj;exact digits_ok i h hd
theorem digits_not {i:Nat} {x:Int} (hx:x=(i:Int)) (h:Rd w rb A n c b at_ k ta tx) (hd:digS (b.drop i)=false) :
 Calls Tryz.prog 129 #[.pointer (some ⟨rb,0,none⟩),.int .i64 x] w fun e w'=>e=.panicked (flt ta 11)∧Below w.heap.size w w':=by
 subst hx;exact digits_bad i h hd
set_option maxRecDepth 100000 in
set_option maxHeartbeats 2000000 in
theorem number_any (h:Rd w rb A n c b at_ k ta tx) :
 Calls Tryz.prog 77 #[.pointer (some ⟨rb,0,none⟩)] w fun e w'=>
  (∃ m,numL (b.drop at_)=some m∧e=.returned (.tuple #[])∧Rd w' rb A n c b (at_+m) 4 ta ((b.drop at_).take m)∧w.grownBy w' (some rb))∨(numL (b.drop at_)=none∧e=.panicked (flt ta 11)∧Below w.heap.size w w'):=by
 have H:=hide h;have kr:=h.blk.cell;have fr:=h.blk.frozen;have zr:=h.blk.lt;have hat:=h.ha;have hn:=h.hn;have HBL:=hide h.len;obtain ⟨j1,hj1⟩:∃ j,at_+nI (b.drop at_)=j:=⟨_,rfl⟩;have HNL:=hide (numL_at hj1);have hj1n:j1≤n:=by have:=nI_le (b.drop at_);rw [List.length_drop,h.len] at this;omega
 have hj1a:at_≤j1:=by omega
 have HB0:=hide (Below.refl w.heap.size w);clear h
 go_enter Tryz.func77,Tryz.ntmps77
 go_upto_if 9 with (go_at_call 74;(refine (is_any [45] at_ H.out).mono ?_);rintro e w1 ⟨rfl,hb⟩;have HB1:=hide hb;clear hb)
 clear kr fr zr
 go_cut [2] from 3 (fun v W=>Hid (v=.int .i64 (j1:Int))∧Hid (Below w.heap.size w W))
 case first=>
  unfold nI at hj1;cases hI:isS (b.drop at_) [45]
  ·rw [hI] at hj1;have ej:at_=j1:=by simpa using hj1
   subst ej;clear hj1;go_wp2_with fail
   go_meet
   case rel=>exact ⟨rfl,HB1⟩
  ·rw [hI] at hj1;have ej:at_+1=j1:=by simpa using hj1
   have HEJ:=hide (show (at_:Int)+1=(j1:Int) by omega);clear hj1 ej;go_wp2_with fail
   go_meet
   case rel=>exact ⟨hide (by rw [HEJ.out]),HB1⟩
 case rest=>
  obtain ⟨hv,HB2⟩:=hcut;rw [show u2=_ from hv];clear hv;obtain ⟨w2,hwc⟩:∃ x,x=wc:=⟨_,rfl⟩;subst hwc;clear hj1 HB1;cases hD:nD (b.drop j1) with
  | none=>
    rw [hD] at HNL;have h48:isS (b.drop j1) [48]=false:=by
     unfold nD at hD;cases h:isS (b.drop j1) [48] with
     | true=>rw [h] at hD;cases hD
     | false=>rfl
    have hdg:digS (b.drop j1)=false:=by
     unfold nD at hD;rw [h48] at hD;cases h:digS (b.drop j1) with
     | true=>rw [h] at hD;cases hD
     | false=>rfl
    have HDG:=hide hdg;clear hD hdg;go_wp2_with (first|(go_at_call 129;(refine (digits_bad j1 (H.out.below HB3.out) HDG.out).mono ?_);rintro e w4 ⟨rfl,hb⟩;have HB4:=hide (HB3.out.trans (hb.mono HB3.out.size));clear hb)|(go_at_call 74;(refine (is_any [48] j1 (H.out.below HB2.out)).mono ?_);rintro e w3 ⟨rfl,hb⟩;have HB3:=hide (HB2.out.trans (hb.mono HB2.out.size));clear hb))
    exact ⟨rfl,.inr ⟨HNL.out,rfl,HB4.out⟩⟩
  | some d=>
    rw [hD] at HNL;have hd:=nD_le hD;rw [List.length_drop] at hd;obtain ⟨j2,hj2⟩:∃ j,j1+d=j:=⟨_,rfl⟩;have hj2n:j2≤n:=by have:=HBL.out;omega
    have hj2a:at_<j2:=by omega
    simp only [hj2] at HNL
    go_upto_if 14 with (go_at_call 74;(refine (is_at [48] (i:=j1) (by omega) (H.out.below HB2.out)).mono ?_);rintro e w3 ⟨rfl,hb⟩;have HB3:=hide (HB2.out.trans (hb.mono HB2.out.size));clear hb)
    go_cut [2] from 3 (fun v W=>Hid (v=.int .i64 (j2:Int))∧Hid (Below w.heap.size w W))
    case first=>
     unfold nD at hD;cases h48:isS (b.drop j1) [48]
     ·rw [h48] at hD;have hdg:digS (b.drop j1)=true:=by
       cases h:digS (b.drop j1) with
       | false=>rw [h] at hD;cases hD
       | true=>rfl
      rw [hdg] at hD;have hdd:runDg (b.drop j1)=d:=by simpa using hD
      have HDG:=hide hdg;have HJ2:=hide (show j1+runDg (b.drop j1)=j2 by omega);clear hD hdg hdd hj2;go_wp2_with (go_at_call 129;(refine (digits_got (i:=j1) (by omega) (H.out.below HB3.out) HDG.out HJ2.out).mono ?_);rintro e w4 ⟨rfl,hb⟩;have HB4:=hide (HB3.out.trans (hb.mono HB3.out.size));clear hb)
      go_meet
      case rel=>exact ⟨rfl,HB4⟩
     ·rw [h48] at hD;have hdd:1=d:=by simpa using hD
      have HEJ:=hide (show (j1:Int)+1=(j2:Int) by omega);clear hD hdd hj2;go_wp2_with fail
      go_meet
      case rel=>exact ⟨hide (by rw [HEJ.out]),HB3⟩
    case rest=>
     obtain ⟨hv,HB4⟩:=hcut;rw [show u2=_ from hv];clear hv;obtain ⟨w4,hwc⟩:∃ x,x=wc:=⟨_,rfl⟩;subst hwc;clear hD hj2 hd HB3 HB2;cases hF:nF (b.drop j2) with
     | none=>
       rw [hF] at HNL;unfold nF at hF;have h46:isS (b.drop j2) [46]=true:=by
        cases h:isS (b.drop j2) [46] with
        | false=>rw [h] at hF;cases hF
        | true=>rfl
       have hdg:digS (b.drop (j2+1))=false:=by
        rw [h46,List.drop_drop] at hF;cases h:digS (b.drop (j2+1)) with
        | true=>rw [h] at hF;cases hF
        | false=>rfl
       have HDG:=hide hdg;clear hF hdg;go_wp2_with (first|(go_at_call 129;(refine (digits_not (i:=j2+1) (by omega) (H.out.below HB5.out) HDG.out).mono ?_);rintro e w6 ⟨rfl,hb⟩;have HB6:=hide (HB5.out.trans (hb.mono HB5.out.size));clear hb)|(go_at_call 74;(refine (is_at [46] (i:=j2) (by omega) (H.out.below HB4.out)).mono ?_);rintro e w5 ⟨rfl,hb⟩;have HB5:=hide (HB4.out.trans (hb.mono HB4.out.size));clear hb))
       exact ⟨rfl,.inr ⟨HNL.out,rfl,HB6.out⟩⟩
     | some f=>
       rw [hF] at HNL;have hf:=nF_le hF;rw [List.length_drop] at hf;obtain ⟨j3,hj3⟩:∃ j,j2+f=j:=⟨_,rfl⟩;have hj3n:j3≤n:=by have:=HBL.out;omega
       have hj3a:at_<j3:=by omega
       simp only [hj3] at HNL
       go_upto_if 22 with (go_at_call 74;(refine (is_at [46] (i:=j2) (by omega) (H.out.below HB4.out)).mono ?_);rintro e w5 ⟨rfl,hb⟩;have HB5:=hide (HB4.out.trans (hb.mono HB4.out.size));clear hb)
       go_cut [2] from 3 (fun v W=>Hid (v=.int .i64 (j3:Int))∧Hid (Below w.heap.size w W))
       case first=>
        unfold nF at hF;cases h46:isS (b.drop j2) [46]
        ·rw [h46] at hF;have hff:0=f:=by simpa using hF
         have ej:j2=j3:=by omega
         subst ej;clear hF hff hj3;go_wp2_with fail
         go_meet
         case rel=>exact ⟨rfl,HB5⟩
        ·rw [h46,List.drop_drop] at hF;have hdg:digS (b.drop (j2+1))=true:=by
          cases h:digS (b.drop (j2+1)) with
          | false=>rw [h] at hF;cases hF
          | true=>rfl
         rw [hdg] at hF;have hff:1+runDg (b.drop (j2+1))=f:=by simpa using hF
         have HDG:=hide hdg;have HJ3:=hide (show j2+1+runDg (b.drop (j2+1))=j3 by omega);clear hF hdg hff hj3;go_wp2_with (go_at_call 129;(refine (digits_got (i:=j2+1) (by omega) (H.out.below HB5.out) HDG.out HJ3.out).mono ?_);rintro e w6 ⟨rfl,hb⟩;have HB6:=hide (HB5.out.trans (hb.mono HB5.out.size));clear hb)
         go_meet
         case rel=>exact ⟨rfl,HB6⟩
       case rest=>
        obtain ⟨hv,HB6⟩:=hcut;rw [show u2=_ from hv];clear hv;obtain ⟨w6,hwc⟩:∃ x,x=wc:=⟨_,rfl⟩;subst hwc;clear hF hj3 hf HB5 HB4;obtain ⟨sg,hsg⟩:∃ sg,nS (b.drop (j3+1))=sg:=⟨_,rfl⟩;cases hE:nE (b.drop j3) with
        | none=>
          rw [hE] at HNL;unfold nE at hE;rw [List.drop_drop,List.drop_drop,hsg] at hE;have h46:isS (b.drop j3) [101,69]=true:=by
           cases h:isS (b.drop j3) [101,69] with
           | false=>rw [h] at hE;cases hE
           | true=>rfl
          have hdg:digS (b.drop (j3+1+sg))=false:=by
           rw [h46,← Nat.add_assoc] at hE;cases h:digS (b.drop (j3+1+sg)) with
           | true=>rw [h] at hE;cases hE
           | false=>rfl
          clear hE;unfold nS at hsg;cases hs:isS (b.drop (j3+1)) [43,45]
          ·rw [hs] at hsg;have e0:0=sg:=by simpa using hsg
           subst e0;have HDG:=hide hdg;clear hsg hdg;go_wp2_with (first|(go_at_call 129;(refine (digits_not (i:=j3+1) (by omega) (H.out.below HB8.out) HDG.out).mono ?_);rintro e w9 ⟨rfl,hb⟩;have HB9:=hide (HB8.out.trans (hb.mono HB8.out.size));clear hb)|(go_at_call 74;(refine (is_at [43,45] (i:=j3+1) (by omega) (H.out.below HB7.out)).mono ?_);rintro e w8 ⟨rfl,hb⟩;have HB8:=hide (HB7.out.trans (hb.mono HB7.out.size));clear hb)|(go_at_call 74;(refine (is_at [101,69] (i:=j3) (by omega) (H.out.below HB6.out)).mono ?_);rintro e w7 ⟨rfl,hb⟩;have HB7:=hide (HB6.out.trans (hb.mono HB6.out.size));clear hb))
           exact ⟨rfl,.inr ⟨HNL.out,rfl,HB9.out⟩⟩
          ·rw [hs] at hsg;have e0:1=sg:=by simpa using hsg
           subst e0;have HDG:=hide hdg;clear hsg hdg;go_wp2_with (first|(go_at_call 129;(refine (digits_not (i:=j3+1+1) (by omega) (H.out.below HB8.out) HDG.out).mono ?_);rintro e w9 ⟨rfl,hb⟩;have HB9:=hide (HB8.out.trans (hb.mono HB8.out.size));clear hb)|(go_at_call 74;(refine (is_at [43,45] (i:=j3+1) (by omega) (H.out.below HB7.out)).mono ?_);rintro e w8 ⟨rfl,hb⟩;have HB8:=hide (HB7.out.trans (hb.mono HB7.out.size));clear hb)|(go_at_call 74;(refine (is_at [101,69] (i:=j3) (by omega) (H.out.below HB6.out)).mono ?_);rintro e w7 ⟨rfl,hb⟩;have HB7:=hide (HB6.out.trans (hb.mono HB6.out.size));clear hb))
           exact ⟨rfl,.inr ⟨HNL.out,rfl,HB9.out⟩⟩
        | some e=>
          rw [hE] at HNL;have hf:=nE_le hE;rw [List.length_drop] at hf;obtain ⟨j4,hj4⟩:∃ j,j3+e=j:=⟨_,rfl⟩;have hj4n:j4≤n:=by have:=HBL.out;omega
          have hj4a:at_<j4:=by omega
          simp only [hj4] at HNL
          go_upto_if 29 with (go_at_call 74;(refine (is_at [101,69] (i:=j3) (by omega) (H.out.below HB6.out)).mono ?_);rintro e w7 ⟨rfl,hb⟩;have HB7:=hide (HB6.out.trans (hb.mono HB6.out.size));clear hb)
          go_cut [2] from 3 (fun v W=>Hid (v=.int .i64 (j4:Int))∧Hid (Below w.heap.size w W))
          case first=>
           unfold nE at hE;rw [List.drop_drop,List.drop_drop,hsg,← Nat.add_assoc] at hE;cases h46:isS (b.drop j3) [101,69]
           ·rw [h46] at hE;have hff:0=e:=by simpa using hE
            have ej:j3=j4:=by omega
            subst ej;clear hE hff hj4 hsg;go_wp2_with fail
            go_meet
            case rel=>exact ⟨rfl,HB7⟩
           ·rw [h46] at hE;have hdg:digS (b.drop (j3+1+sg))=true:=by
             cases h:digS (b.drop (j3+1+sg)) with
             | false=>rw [h] at hE;cases hE
             | true=>rfl
            rw [hdg] at hE;have hff:1+sg+runDg (b.drop (j3+1+sg))=e:=by simpa using hE
            have HDG:=hide hdg;have HJ4:=hide (show j3+1+sg+runDg (b.drop (j3+1+sg))=j4 by omega);clear hE hdg hff hj4;unfold nS at hsg;cases hs:isS (b.drop (j3+1)) [43,45]
            ·rw [hs] at hsg;have e0:0=sg:=by simpa using hsg
             subst e0;clear hsg;go_wp2_with (first|(go_at_call 129;(refine (digits_got (i:=j3+1) (by omega) (H.out.below HB8.out) HDG.out HJ4.out).mono ?_);rintro e w9 ⟨rfl,hb⟩;have HB9:=hide (HB8.out.trans (hb.mono HB8.out.size));clear hb)|(go_at_call 74;(refine (is_at [43,45] (i:=j3+1) (by omega) (H.out.below HB7.out)).mono ?_);rintro e w8 ⟨rfl,hb⟩;have HB8:=hide (HB7.out.trans (hb.mono HB7.out.size));clear hb))
             go_meet
             case rel=>exact ⟨rfl,HB9⟩
            ·rw [hs] at hsg;have e0:1=sg:=by simpa using hsg
             subst e0;clear hsg;go_wp2_with (first|(go_at_call 129;(refine (digits_got (i:=j3+1+1) (by omega) (H.out.below HB8.out) HDG.out HJ4.out).mono ?_);rintro e w9 ⟨rfl,hb⟩;have HB9:=hide (HB8.out.trans (hb.mono HB8.out.size));clear hb)|(go_at_call 74;(refine (is_at [43,45] (i:=j3+1) (by omega) (H.out.below HB7.out)).mono ?_);rintro e w8 ⟨rfl,hb⟩;have HB8:=hide (HB7.out.trans (hb.mono HB7.out.size));clear hb))
             go_meet
             case rel=>exact ⟨rfl,HB9⟩
          case rest=>
           obtain ⟨hv,HB8⟩:=hcut;rw [show u2=_ from hv];clear hv;obtain ⟨w8,hwc⟩:∃ x,x=wc:=⟨_,rfl⟩;subst hwc;clear hE hj4 hf HB7 HB6 hsg;cases hdx:digS (b.drop j4)
           ·cases hsx:isS (b.drop j4) [43,45,46,101,69]
            ·have HNX:=hide (show nX (b.drop j4)=false by unfold nX;rw [hdx,hsx];rfl);go_upto_region 15 with (first|(go_at_call 74;(refine (is_at [43,45,46,101,69] (i:=j4) (by omega) (H.out.below HB9.out)).mono ?_);rintro e w10 ⟨rfl,hb⟩;have HB10:=hide (HB9.out.trans (hb.mono HB9.out.size));clear hb)|(go_at_call 76;(refine (digit_at (i:=j4) (by omega) (H.out.below HB8.out)).mono ?_);rintro e w9 ⟨rfl,hb⟩;have HB9:=hide (HB8.out.trans (hb.mono HB8.out.size));clear hb))
             have HQ:=hide (H.out.below HB10.out);obtain ⟨ad,hA,hab,hsub⟩:=RB.sub HQ.out.rd (i:=at_) (k:=j4 - at_) (by omega) (by omega) HQ.out.hc;have HSUB:=hide hsub;have HNV:=hide (show numL (b.drop at_)=some (j4 - at_) by rw [HNL.out,if_neg (by rw [HNX.out];decide)]);have hcc:¬ c=at_:=by have:=HQ.out.hc;omega
             have hfar:=HQ.out.far ad hA;subst hA;clear hsub hdx hsx HNX HNL HB9 HB0 H;obtain ⟨tt,htt⟩:∃ tt,(b.drop at_).take (j4 - at_)=tt:=⟨_,rfl⟩;rw [htt] at HSUB;have HTT:=hide htt;clear htt;refine wp_region_stage (by kernel_rfl) (by kernel_rfl) 73 3
              [⟨some 50,false,0,3,fun _ v _=>v=.pointer (some ⟨rb,0,none⟩)⟩,
               ⟨some 51,false,0,3,fun _ v _=>v=.pointer (some ⟨rb,0,none⟩)⟩,
               ⟨some 52,false,0,3,fun _ v _=>v=.pointer (some ⟨rb,0,none⟩)⟩,
               ⟨some 53,false,0,3,fun _ v _=>v=.pointer (some ⟨rb,0,none⟩)⟩,
               ⟨some 54,false,0,3,fun _ v _=>v=.pointer (some ⟨rb,0,none⟩)⟩,
               ⟨some 55,false,0,3,fun _ v _=>v=.pointer (some ⟨rb,0,none⟩)⟩,
               ⟨some 56,false,0,1,fun _ v _=>v=.slice (some ad) n c⟩,
               ⟨some 57,false,0,3,fun _ v _=>v=.pointer (some ⟨rb,0,none⟩)⟩,
               ⟨some 58,false,0,3,fun _ v _=>v=.pointer (some ⟨rb,0,none⟩)⟩,
               ⟨some 59,false,0,3,fun _ v _=>v=.pointer (some ⟨rb,1,none⟩)⟩,
               ⟨some 60,false,0,1,fun _ v _=>v=.int .i64 (at_:Int)⟩,
               ⟨some 61,false,0,3,fun _ v _=>v=.int .i64 (j4:Int)⟩,
               ⟨some 62,false,0,1,fun _ v _=>v=.slice (some (ad.add at_)) (j4 - at_) (c - at_)⟩,
               ⟨some 63,false,0,1,fun _ v _=>v=.string ⟨tt.toArray⟩⟩,
               ⟨some 64,false,0,3,fun _ v _=>v=.int .i64 (j4:Int)⟩,
               ⟨some 65,false,0,3,fun _ v _=>v=.pointer (some ⟨rb,0,none⟩)⟩,
               ⟨some 66,false,0,3,fun _ v _=>v=.pointer (some ⟨rb,2,none⟩)⟩,
               ⟨some 67,false,0,3,fun _ v _=>v=.pointer (some ⟨rb,2,none⟩)⟩,
               ⟨none,true,0,0,fun _ _ _=>True⟩,
               ⟨some 68,false,0,3,fun _ v _=>v=.pointer (some ⟨rb,0,none⟩)⟩,
               ⟨some 69,false,0,3,fun _ v _=>v=.pointer (some ⟨rb,2,none⟩)⟩,
               ⟨some 70,false,0,3,fun _ v _=>v=.pointer (some ⟨rb,4,none⟩)⟩,
               ⟨none,true,1,1,fun _ _ _=>True⟩,
               ⟨some 71,false,0,3,fun _ v _=>v=.pointer (some ⟨rb,0,none⟩)⟩,
               ⟨some 72,false,0,3,fun _ v _=>v=.pointer (some ⟨rb,1,none⟩)⟩,
               ⟨none,true,2,2,fun _ _ _=>True⟩] (fun st w'=>Rd w' rb (some ad) n c b (if 3≤st then j4 else at_) (if 1≤st then 4 else k) ta (if 2≤st then tt else tx)∧w10.grownBy w' (some rb)) (fun _ _ _=>True) [50,51,52,53,54,55,56,57,58,59,60,61,62,63,64,65,66,67,68,69,70,71,72] rfl (by kernel_rfl) rfl ?g0 ?keep ?steps ?fin
             case keep=>
              intro e he s v w w' hm hsM ht hv;simp only [List.mem_cons,List.not_mem_nil,or_false] at he;rcases he with rfl|rfl|rfl|rfl|rfl|rfl|rfl|rfl|rfl|rfl|rfl|rfl|rfl|rfl|rfl|rfl|rfl|rfl|rfl|rfl|rfl|rfl|rfl|rfl|rfl|rfl
              all_goals first|exact hv
             case steps=>
              refine ⟨?_,?_,?_,?_,?_,?_,?_,?_,?_,?_,?_,?_,?_,?_,?_,?_,?_,?_,?_,?_,?_,?_,?_,?_,?_,?_,trivial⟩
              ·intro st hlo hhi ac w3 hg hG hd K hK;dsimp only at hlo hhi hG hK;exact op_move _ rfl (hK _ (hg.kp 0 (by simp)))
              ·intro st hlo hhi ac w3 hg hG hd K hK;dsimp only at hlo hhi hG hK;exact op_move _ rfl (hK _ (hg.kp 0 (by simp)))
              ·intro st hlo hhi ac w3 hg hG hd K hK;dsimp only at hlo hhi hG hK;exact op_move _ rfl (hK _ (hg.kp 0 (by simp)))
              ·intro st hlo hhi ac w3 hg hG hd K hK;dsimp only at hlo hhi hG hK;exact op_move _ rfl (hK _ (hg.kp 0 (by simp)))
              ·intro st hlo hhi ac w3 hg hG hd K hK;dsimp only at hlo hhi hG hK;have f3:=hd ⟨3,.data⟩ (by simp) rfl _ rfl _ rfl;(try simp [Act.eval] at f3);go_simp;exact hK _ rfl
              ·intro st hlo hhi ac w3 hg hG hd K hK;dsimp only at hlo hhi hG hK;have f4:=hd ⟨4,.data⟩ (by simp) rfl _ rfl _ rfl;(try simp [Act.eval] at f4);go_simp;exact hK _ rfl
              ·intro st hlo hhi ac w3 hg hG hd K hK;dsimp only at hlo hhi hG hK;have kk:=hG.1.blk.cell 0;have zz:=hG.1.blk.lt;simp at kk;have f5:=hd ⟨5,.data⟩ (by simp) rfl _ rfl _ rfl;(try simp [Act.eval] at f5);go_simp;exact hK _ rfl
              ·intro st hlo hhi ac w3 hg hG hd K hK;dsimp only at hlo hhi hG hK;exact op_move _ rfl (hK _ (hg.kp 0 (by simp)))
              ·intro st hlo hhi ac w3 hg hG hd K hK;dsimp only at hlo hhi hG hK;have f7:=hd ⟨7,.data⟩ (by simp) rfl _ rfl _ rfl;(try simp [Act.eval] at f7);go_simp;exact hK _ rfl
              ·intro st hlo hhi ac w3 hg hG hd K hK;dsimp only at hlo hhi hG hK;have f8:=hd ⟨8,.data⟩ (by simp) rfl _ rfl _ rfl;(try simp [Act.eval] at f8);go_simp;exact hK _ rfl
              ·intro st hlo hhi ac w3 hg hG hd K hK;dsimp only at hlo hhi hG hK;have kk:=hG.1.blk.cell 1;have zz:=hG.1.blk.lt;rw [if_neg (by omega)] at kk;simp at kk;have f9:=hd ⟨9,.data⟩ (by simp) rfl _ rfl _ rfl;(try simp [Act.eval] at f9);go_simp;exact hK _ rfl
              ·intro st hlo hhi ac w3 hg hG hd K hK;dsimp only at hlo hhi hG hK;exact op_move _ rfl (hK _ (hg.kp 2 (by simp)))
              ·intro st hlo hhi ac w3 hg hG hd K hK;dsimp only at hlo hhi hG hK;have f6:=hd ⟨6,.data⟩ (by simp) rfl _ rfl _ rfl;have f10:=hd ⟨10,.data⟩ (by simp) rfl _ rfl _ rfl;have f11:=hd ⟨11,.data⟩ (by simp) rfl _ rfl _ rfl;simp [Act.eval] at f6 f10 f11;have hcn:=HQ.out.hc;go_simp;rw [if_pos (show j4≤c by omega),if_pos (show at_≤j4 by omega)];exact hK _ rfl
              ·intro st hlo hhi ac w3 hg hG hd K hK;dsimp only at hlo hhi hG hK;have f12:=hd ⟨12,.data⟩ (by simp) rfl _ rfl _ rfl;have hcv:=convert_any (c:=c - at_) (((Reads.far HSUB.out (Nat.le_refl _) (Fr.of_grown (F:=fun j=>j=rb) hG.2 (fun k e=>by injection e with e;exact e.symm)) (fun a e=>by injection e with e;rw [← e,block_of_add];exact hfar)).more hG.2.size));unfold bstr at hcv;clear hG;simp [Act.eval] at f12;go_simp;exact hK _ rfl
              ·intro st hlo hhi ac w3 hg hG hd K hK;dsimp only at hlo hhi hG hK;exact op_move _ rfl (hK _ (hg.kp 2 (by simp)))
              ·intro st hlo hhi ac w3 hg hG hd K hK;dsimp only at hlo hhi hG hK;have f0:=hd ⟨0,.data⟩ (by simp) rfl _ rfl _ rfl;(try simp [Act.eval] at f0);go_simp;exact hK _ rfl
              ·intro st hlo hhi ac w3 hg hG hd K hK;dsimp only at hlo hhi hG hK;have f15:=hd ⟨15,.data⟩ (by simp) rfl _ rfl _ rfl;(try simp [Act.eval] at f15);go_simp;exact hK _ rfl
              ·intro st hlo hhi ac w3 hg hG hd K hK;dsimp only at hlo hhi hG hK;have f16:=hd ⟨16,.data⟩ (by simp) rfl _ rfl _ rfl;(try simp [Act.eval] at f16);go_simp;exact hK _ rfl
              ·intro ac w3 hg hG hd K hK;dsimp only [Nat.zero_add,Nat.reduceAdd] at hG hK;have f17:=hd ⟨17,.data⟩ (by simp) rfl _ rfl _ rfl;have kk:=hG.1.blk.cell;have ff:=hG.1.blk.frozen;have zz:=hG.1.blk.lt;have HG:=hide hG;clear hG;simp [Act.eval] at f17;go_simp;exact hK undef _ trivial (And.intro (HG.out.1.own (gby_set w3 rb 2 (.int .i64 4)) (HG.out.1.blk.set_ 2 (.int .i64 4)) HG.out.1.ha) (gb_trans HG.out.2 (gby_set w3 rb 2 (.int .i64 4)))) trivial
              ·intro st hlo hhi ac w3 hg hG hd K hK;dsimp only at hlo hhi hG hK;have f1:=hd ⟨1,.data⟩ (by simp) rfl _ rfl _ rfl;(try simp [Act.eval] at f1);go_simp;exact hK _ rfl
              ·intro st hlo hhi ac w3 hg hG hd K hK;dsimp only at hlo hhi hG hK;have f19:=hd ⟨19,.data⟩ (by simp) rfl _ rfl _ rfl;(try simp [Act.eval] at f19);go_simp;exact hK _ rfl
              ·intro st hlo hhi ac w3 hg hG hd K hK;dsimp only at hlo hhi hG hK;have f20:=hd ⟨20,.data⟩ (by simp) rfl _ rfl _ rfl;(try simp [Act.eval] at f20);go_simp;exact hK _ rfl
              ·intro ac w3 hg hG hd K hK;dsimp only [Nat.zero_add,Nat.reduceAdd] at hG hK;have f13:=hd ⟨13,.data⟩ (by simp) rfl _ rfl _ rfl;have f21:=hd ⟨21,.data⟩ (by simp) rfl _ rfl _ rfl;have kk:=hG.1.blk.cell;have ff:=hG.1.blk.frozen;have zz:=hG.1.blk.lt;have HG:=hide hG;clear hG;simp [Act.eval] at f13 f21;go_simp;exact hK undef _ trivial (And.intro (HG.out.1.own (gby_set w3 rb 4 (.string ⟨tt.toArray⟩)) (HG.out.1.blk.set_ 4 (.string ⟨tt.toArray⟩)) HG.out.1.ha) (gb_trans HG.out.2 (gby_set w3 rb 4 _))) trivial
              ·intro st hlo hhi ac w3 hg hG hd K hK;dsimp only at hlo hhi hG hK;have f2:=hd ⟨2,.data⟩ (by simp) rfl _ rfl _ rfl;(try simp [Act.eval] at f2);go_simp;exact hK _ rfl
              ·intro st hlo hhi ac w3 hg hG hd K hK;dsimp only at hlo hhi hG hK;have f23:=hd ⟨23,.data⟩ (by simp) rfl _ rfl _ rfl;(try simp [Act.eval] at f23);go_simp;exact hK _ rfl
              ·intro ac w3 hg hG hd K hK;dsimp only [Nat.zero_add,Nat.reduceAdd] at hG hK;have f14:=hd ⟨14,.data⟩ (by simp) rfl _ rfl _ rfl;have f24:=hd ⟨24,.data⟩ (by simp) rfl _ rfl _ rfl;have kk:=hG.1.blk.cell;have ff:=hG.1.blk.frozen;have zz:=hG.1.blk.lt;have HG:=hide hG;clear hG;simp [Act.eval] at f14 f24;go_simp;exact hK undef _ trivial (And.intro (HG.out.1.own (gby_set w3 rb 1 (.int .i64 (j4:Int))) (HG.out.1.blk.set_ 1 (.int .i64 (j4:Int))) hj4n) (gb_trans HG.out.2 (gby_set w3 rb 1 _))) trivial
             case g0=>exact And.intro (HQ.out.below (bR.drew)) ⟨rfl,rfl,rfl,Nat.le_refl _,fun _ _ _=>rfl⟩
             case fin=>
              intro f w11 hG hall;clear hall;have HG:=hide (show Rd w11 rb (some ad) n c b j4 4 ta tt∧w10.grownBy w11 (some rb) from hG);clear hG
              go_wp2
              refine ⟨rfl,.tuple #[],results_none rfl _ _ _,.inl ⟨j4 - at_,HNV.out,rfl,by rw [HTT.out,show at_+(j4 - at_)=j4 by omega];exact HG.out.1,gb_trans (gb_below HB10.out) HG.out.2⟩⟩
            ·have HNX:=hide (show nX (b.drop j4)=true by unfold nX;rw [hdx,hsx];rfl);go_wp2_with (first|(go_at_call 35;(refine (fail_any 11 (H.out.below HB10.out)).mono ?_);rintro e w11 ⟨rfl,hb⟩;have HB11:=hide (HB10.out.trans (hb.mono HB10.out.size));clear hb)|(go_at_call 74;(refine (is_at [43,45,46,101,69] (i:=j4) (by omega) (H.out.below HB9.out)).mono ?_);rintro e w10 ⟨rfl,hb⟩;have HB10:=hide (HB9.out.trans (hb.mono HB9.out.size));clear hb)|(go_at_call 76;(refine (digit_at (i:=j4) (by omega) (H.out.below HB8.out)).mono ?_);rintro e w9 ⟨rfl,hb⟩;have HB9:=hide (HB8.out.trans (hb.mono HB8.out.size));clear hb))
             exact ⟨rfl,.inr ⟨by rw [HNL.out,if_pos HNX.out],rfl,HB11.out⟩⟩
           ·have HNX:=hide (show nX (b.drop j4)=true by unfold nX;rw [hdx];rfl);go_wp2_with (first|(go_at_call 35;(refine (fail_any 11 (H.out.below HB9.out)).mono ?_);rintro e w11 ⟨rfl,hb⟩;have HB11:=hide (HB9.out.trans (hb.mono HB9.out.size));clear hb)|(go_at_call 76;(refine (digit_at (i:=j4) (by omega) (H.out.below HB8.out)).mono ?_);rintro e w9 ⟨rfl,hb⟩;have HB9:=hide (HB8.out.trans (hb.mono HB8.out.size));clear hb))
            exact ⟨rfl,.inr ⟨by rw [HNL.out,if_pos HNX.out],rfl,HB11.out⟩⟩
end
end Go.Proofs.YtacinobmcgcccaaGreatDoor
/- A map that is ranged over, written in the round at a key that is there. -/
namespace Go.Proofs.YtacinobmcgcccaaGreatDoor
open Go.RowKit Go.ChangeMaps Go.MapKept Go.WideShapes
open Go.WideElems (Fit rd rg pl rd_key rd_val rg_of other_key)
open Go.Maps (Keyed)
section
variable {H:Type} {P:Program} {k:TypeId} {R:Value→Option (DataW H × List MemPlace)} {w:World} {b r n:Nat} {D:DataW H} {left:Lit→Bool} {cnt:Nat}
def kb (x:MapEntry):Value × Nat:=(x.key,x.born)
end
section
variable {H:Type} {P:Program} (w:World) {o:Oper} {a:Act} {K:Act→World→Prop} {Q:Exit→Act→World→Prop}
end
end Go.Proofs.YtacinobmcgcccaaGreatDoor
