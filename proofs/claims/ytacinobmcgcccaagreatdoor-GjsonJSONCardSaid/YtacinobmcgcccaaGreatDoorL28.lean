/- The JSON writer: which values are sound. -/
import Derived.Test.YtacinobmcgcccaaGreatDoorL27
set_option linter.unusedSimpArgs false
set_option linter.unusedVariables false
namespace Go.Proofs.YtacinobmcgcccaaGreatDoor
open Go.RowKit
mutual
def dpJ (left:Nat):JV→Bool
 | .mk k t ks vs=>
   if k=1∨k=2∨k=3 then decide (t=[])&&(decide (ks.length=0)&&decide (vs.length=0))
   else if k=4 then numOk t&&(decide (ks.length=0)&&decide (vs.length=0))
   else if k=5 then Lib.validD t&&(decide (ks.length=0)&&decide (vs.length=0))
   else if k=6 then decide (t=[])&&decide (0<left)&&decide (ks.length=0)&&ks.all Lib.validD&&dpL (left - 1) vs
   else if k=7 then decide (t=[])&&decide (0<left)&&decide (ks.length=vs.length)&&ks.all Lib.validD&&dpL (left - 1) vs
   else false
def dpL (left:Nat):List JV→Bool
 | []=>true
 | a :: az=>dpJ left a&&dpL left az
end
theorem dpL_snoc (left:Nat) (a:JV):∀ az:List JV,dpL left (az++[a])=(dpL left az&&dpJ left a)
 | []=>by simp [dpL]
 | b :: az=>by
   rw [List.cons_append];unfold dpL;rw [dpL_snoc left a az,Bool.and_assoc]
theorem dpL_take {left:Nat} {l:List JV} {i:Nat} (h:i<l.length):dpL left (l.take (i+1))=(dpL left (l.take i)&&dpJ left l[i]):=by
 rw [List.take_succ_eq_append_getElem h,dpL_snoc]
theorem dpL_no {left:Nat}:∀ {l:List JV} {i:Nat},dpL left (l.take i)=false→dpL left l=false
 | [],i,h=>by simpa using h
 | a :: l,0,h=>by simp [dpL] at h
 | a :: l,i+1,h=>by
   rw [List.take_succ_cons] at h;unfold dpL at h ⊢;cases ha:dpJ left a
   ·rfl
   ·rw [ha,Bool.true_and] at h;rw [dpL_no h];rfl
theorem all_take {p:L8→Bool} {l:List L8} {i:Nat} (h:i<l.length):(l.take (i+1)).all p=((l.take i).all p&&p l[i]):=by
 rw [List.take_succ_eq_append_getElem h,List.all_append];simp
abbrev maxT:Nat:=9223372036854775807
mutual
def smJ:JV→Prop
 | .mk _ t ks vs=>t.length≤maxT∧(∀ s∈ks,s.length≤maxT)∧smL vs
def smL:List JV→Prop
 | []=>True
 | a :: az=>smJ a∧smL az
end
theorem smL_at:∀ {l:List JV} (i:Nat) (h:i<l.length),smL l→smJ l[i]
 | a :: l,0,_,h=>by unfold smL at h;exact h.1
 | a :: l,i+1,hi,h=>by
   unfold smL at h;exact smL_at i (by simpa using hi) h.2
theorem sm_mk {k:Int} {t:L8} {ks:List L8} {vs:List JV} (h:smJ (.mk k t ks vs)):t.length≤maxT∧(∀ s∈ks,s.length≤maxT)∧smL vs:=by
 unfold smJ at h;exact h
def Imp (b:Bool) (p:Prop):Prop:=b=true→p
theorem and_left {a b:Bool} (h:(a&&b)=true):a=true:=by cases a <;> simp_all
def DeepC (n:Nat):Prop:=∀ (w:World) (J:JV) (cs:List Value) (left:Nat) (li:Int),li=(left:Int)→left≤1000→szJ J≤n→smJ J→Tabs w→VRd w (fun j=>j<w.heap.size) J cs →
 Calls Tryz.prog 63 #[.agg cs.toArray,.int .i64 li] w fun e w'=>e=.returned (.bool (dpJ left J))∧Below w.heap.size w w'
set_option maxRecDepth 100000 in
set_option maxHeartbeats 1000000 in
theorem deep_step (n:Nat) (ih:DeepC n):DeepC (n+1):=by
 intro w J cs left li hli hle hsz hsm hT h;subst hli;obtain ⟨k,t,ks,vs⟩:=J;obtain ⟨A1,c1,A2,c2,xs,rfl,hc1,hr1,hc2,hr2,hl⟩:=h.mk';obtain ⟨hst,hsk,hsv⟩:=sm_mk hsm;have IH:=hide ih;have HS:=hide (show (⟨t.toArray⟩:ByteArray).size≤9223372036854775807 by show t.toArray.size≤_;simpa using hst);have HSK:=hide hsk;have HSV:=hide hsv;clear h ih hst hsk hsv hsm;obtain ⟨w1,hw1⟩:∃ x,w.alloc (.cells #[.int .i64 k,.string ⟨t.toArray⟩,.slice A1 ks.length c1,.slice A2 vs.length c2] TV)=x:=⟨_,rfl⟩;have HB1:=hide (show Below w.heap.size w w1 from hw1 ▸ al_below w _);have HV:=hide (show Blk w1 w.heap.size TV #[.int .i64 k,.string ⟨t.toArray⟩,.slice A1 ks.length c1,.slice A2 vs.length c2] from hw1 ▸ Blk.new _ _ _);have HR1:=hide (hr1.later HB1.out);have HR2:=hide (hr2.later HB1.out);have HL:=hide (hl.later HB1.out);have HT1:=hide (hT.below HB1.out);have HW1:=hide hw1;clear hr1 hr2 hl hT hw1;have hM:maxLen=9223372036854775807:=rfl
 go_enter Tryz.func63,Tryz.ntmps63
 go_upto_region 1 with fail
 rw [HW1.out];clear HW1;have kv:=HV.out.cell;have fv:=HV.out.frozen;have zv:=HV.out.lt;by_cases k1:k=1
 ·subst k1;by_cases ht:t=[]
  ·have e0:t.isEmpty=true:=by rw [ht];rfl
   by_cases hk:ks.length=0
   ·by_cases hv:vs.length=0
    ·have HD:=hide (show dpJ left (.mk 1 t ks vs)=true by simp [dpJ,hk,hv,ht]);have e1:((ks.length:Int) == 0)=true:=by simp [hk]
     have e2:((vs.length:Int) == 0)=true:=by simp [hv]
     clear hk hv ht;go_wp2_with (go_at_call 106;(refine (Tryz.utf8_ValidString ⟨t.toArray⟩ w1 HS.out HT1.out).mono ?_);rintro e w2 ⟨rfl,hb⟩;have HB2:=hide hb;clear hb;clear kv fv zv;have kv:=(HV.out.below HB2.out HV.out.lt).cell;have fv:=(HV.out.below HB2.out HV.out.lt).frozen;have zv:=(HV.out.below HB2.out HV.out.lt).lt)
     go_ret;exact ⟨by rw [HD.out];rfl,HB1.out.trans (HB2.out.mono HB1.out.size)⟩
    ·have HD:=hide (show dpJ left (.mk 1 t ks vs)=false by simp [dpJ,hk,hv,ht]);have e1:((ks.length:Int) == 0)=true:=by simp [hk]
     have e2:((vs.length:Int) == 0)=false:=by rw [beq_eq_false_iff_ne];omega
     clear hk hv ht;go_wp2_with (go_at_call 106;(refine (Tryz.utf8_ValidString ⟨t.toArray⟩ w1 HS.out HT1.out).mono ?_);rintro e w2 ⟨rfl,hb⟩;have HB2:=hide hb;clear hb;clear kv fv zv;have kv:=(HV.out.below HB2.out HV.out.lt).cell;have fv:=(HV.out.below HB2.out HV.out.lt).frozen;have zv:=(HV.out.below HB2.out HV.out.lt).lt)
     go_ret;exact ⟨by rw [HD.out];rfl,HB1.out.trans (HB2.out.mono HB1.out.size)⟩
   ·have HD:=hide (show dpJ left (.mk 1 t ks vs)=false by simp [dpJ,hk,ht]);have e1:((ks.length:Int) == 0)=false:=by rw [beq_eq_false_iff_ne];omega
    clear hk ht;go_wp2_with (go_at_call 106;(refine (Tryz.utf8_ValidString ⟨t.toArray⟩ w1 HS.out HT1.out).mono ?_);rintro e w2 ⟨rfl,hb⟩;have HB2:=hide hb;clear hb;clear kv fv zv;have kv:=(HV.out.below HB2.out HV.out.lt).cell;have fv:=(HV.out.below HB2.out HV.out.lt).frozen;have zv:=(HV.out.below HB2.out HV.out.lt).lt)
    go_ret;exact ⟨by rw [HD.out];rfl,HB1.out.trans (HB2.out.mono HB1.out.size)⟩
  ·have e0:t.isEmpty=false:=by rw [← Bool.not_eq_true,List.isEmpty_iff];exact ht
   have HD:=hide (show dpJ left (.mk 1 t ks vs)=false by simp [dpJ,ht]);clear ht;go_wp2_with (go_at_call 106;(refine (Tryz.utf8_ValidString ⟨t.toArray⟩ w1 HS.out HT1.out).mono ?_);rintro e w2 ⟨rfl,hb⟩;have HB2:=hide hb;clear hb;clear kv fv zv;have kv:=(HV.out.below HB2.out HV.out.lt).cell;have fv:=(HV.out.below HB2.out HV.out.lt).frozen;have zv:=(HV.out.below HB2.out HV.out.lt).lt)
   go_ret;exact ⟨by rw [HD.out];rfl,HB1.out.trans (HB2.out.mono HB1.out.size)⟩
 by_cases k2:k=2
 ·subst k2;by_cases ht:t=[]
  ·have e0:t.isEmpty=true:=by rw [ht];rfl
   by_cases hk:ks.length=0
   ·by_cases hv:vs.length=0
    ·have HD:=hide (show dpJ left (.mk 2 t ks vs)=true by simp [dpJ,hk,hv,ht]);have e1:((ks.length:Int) == 0)=true:=by simp [hk]
     have e2:((vs.length:Int) == 0)=true:=by simp [hv]
     clear hk hv ht;go_wp2_with (go_at_call 106;(refine (Tryz.utf8_ValidString ⟨t.toArray⟩ w1 HS.out HT1.out).mono ?_);rintro e w2 ⟨rfl,hb⟩;have HB2:=hide hb;clear hb;clear kv fv zv;have kv:=(HV.out.below HB2.out HV.out.lt).cell;have fv:=(HV.out.below HB2.out HV.out.lt).frozen;have zv:=(HV.out.below HB2.out HV.out.lt).lt)
     go_ret;exact ⟨by rw [HD.out];rfl,HB1.out.trans (HB2.out.mono HB1.out.size)⟩
    ·have HD:=hide (show dpJ left (.mk 2 t ks vs)=false by simp [dpJ,hk,hv,ht]);have e1:((ks.length:Int) == 0)=true:=by simp [hk]
     have e2:((vs.length:Int) == 0)=false:=by rw [beq_eq_false_iff_ne];omega
     clear hk hv ht;go_wp2_with (go_at_call 106;(refine (Tryz.utf8_ValidString ⟨t.toArray⟩ w1 HS.out HT1.out).mono ?_);rintro e w2 ⟨rfl,hb⟩;have HB2:=hide hb;clear hb;clear kv fv zv;have kv:=(HV.out.below HB2.out HV.out.lt).cell;have fv:=(HV.out.below HB2.out HV.out.lt).frozen;have zv:=(HV.out.below HB2.out HV.out.lt).lt)
     go_ret;exact ⟨by rw [HD.out];rfl,HB1.out.trans (HB2.out.mono HB1.out.size)⟩
   ·have HD:=hide (show dpJ left (.mk 2 t ks vs)=false by simp [dpJ,hk,ht]);have e1:((ks.length:Int) == 0)=false:=by rw [beq_eq_false_iff_ne];omega
    clear hk ht;go_wp2_with (go_at_call 106;(refine (Tryz.utf8_ValidString ⟨t.toArray⟩ w1 HS.out HT1.out).mono ?_);rintro e w2 ⟨rfl,hb⟩;have HB2:=hide hb;clear hb;clear kv fv zv;have kv:=(HV.out.below HB2.out HV.out.lt).cell;have fv:=(HV.out.below HB2.out HV.out.lt).frozen;have zv:=(HV.out.below HB2.out HV.out.lt).lt)
    go_ret;exact ⟨by rw [HD.out];rfl,HB1.out.trans (HB2.out.mono HB1.out.size)⟩
  ·have e0:t.isEmpty=false:=by rw [← Bool.not_eq_true,List.isEmpty_iff];exact ht
   have HD:=hide (show dpJ left (.mk 2 t ks vs)=false by simp [dpJ,ht]);clear ht;go_wp2_with (go_at_call 106;(refine (Tryz.utf8_ValidString ⟨t.toArray⟩ w1 HS.out HT1.out).mono ?_);rintro e w2 ⟨rfl,hb⟩;have HB2:=hide hb;clear hb;clear kv fv zv;have kv:=(HV.out.below HB2.out HV.out.lt).cell;have fv:=(HV.out.below HB2.out HV.out.lt).frozen;have zv:=(HV.out.below HB2.out HV.out.lt).lt)
   go_ret;exact ⟨by rw [HD.out];rfl,HB1.out.trans (HB2.out.mono HB1.out.size)⟩
 by_cases k3:k=3
 ·subst k3;by_cases ht:t=[]
  ·have e0:t.isEmpty=true:=by rw [ht];rfl
   by_cases hk:ks.length=0
   ·by_cases hv:vs.length=0
    ·have HD:=hide (show dpJ left (.mk 3 t ks vs)=true by simp [dpJ,hk,hv,ht]);have e1:((ks.length:Int) == 0)=true:=by simp [hk]
     have e2:((vs.length:Int) == 0)=true:=by simp [hv]
     clear hk hv ht;go_wp2_with (go_at_call 106;(refine (Tryz.utf8_ValidString ⟨t.toArray⟩ w1 HS.out HT1.out).mono ?_);rintro e w2 ⟨rfl,hb⟩;have HB2:=hide hb;clear hb;clear kv fv zv;have kv:=(HV.out.below HB2.out HV.out.lt).cell;have fv:=(HV.out.below HB2.out HV.out.lt).frozen;have zv:=(HV.out.below HB2.out HV.out.lt).lt)
     go_ret;exact ⟨by rw [HD.out];rfl,HB1.out.trans (HB2.out.mono HB1.out.size)⟩
    ·have HD:=hide (show dpJ left (.mk 3 t ks vs)=false by simp [dpJ,hk,hv,ht]);have e1:((ks.length:Int) == 0)=true:=by simp [hk]
     have e2:((vs.length:Int) == 0)=false:=by rw [beq_eq_false_iff_ne];omega
     clear hk hv ht;go_wp2_with (go_at_call 106;(refine (Tryz.utf8_ValidString ⟨t.toArray⟩ w1 HS.out HT1.out).mono ?_);rintro e w2 ⟨rfl,hb⟩;have HB2:=hide hb;clear hb;clear kv fv zv;have kv:=(HV.out.below HB2.out HV.out.lt).cell;have fv:=(HV.out.below HB2.out HV.out.lt).frozen;have zv:=(HV.out.below HB2.out HV.out.lt).lt)
     go_ret;exact ⟨by rw [HD.out];rfl,HB1.out.trans (HB2.out.mono HB1.out.size)⟩
   ·have HD:=hide (show dpJ left (.mk 3 t ks vs)=false by simp [dpJ,hk,ht]);have e1:((ks.length:Int) == 0)=false:=by rw [beq_eq_false_iff_ne];omega
    clear hk ht;go_wp2_with (go_at_call 106;(refine (Tryz.utf8_ValidString ⟨t.toArray⟩ w1 HS.out HT1.out).mono ?_);rintro e w2 ⟨rfl,hb⟩;have HB2:=hide hb;clear hb;clear kv fv zv;have kv:=(HV.out.below HB2.out HV.out.lt).cell;have fv:=(HV.out.below HB2.out HV.out.lt).frozen;have zv:=(HV.out.below HB2.out HV.out.lt).lt)
    go_ret;exact ⟨by rw [HD.out];rfl,HB1.out.trans (HB2.out.mono HB1.out.size)⟩
  ·have e0:t.isEmpty=false:=by rw [← Bool.not_eq_true,List.isEmpty_iff];exact ht
   have HD:=hide (show dpJ left (.mk 3 t ks vs)=false by simp [dpJ,ht]);clear ht;go_wp2_with (go_at_call 106;(refine (Tryz.utf8_ValidString ⟨t.toArray⟩ w1 HS.out HT1.out).mono ?_);rintro e w2 ⟨rfl,hb⟩;have HB2:=hide hb;clear hb;clear kv fv zv;have kv:=(HV.out.below HB2.out HV.out.lt).cell;have fv:=(HV.out.below HB2.out HV.out.lt).frozen;have zv:=(HV.out.below HB2.out HV.out.lt).lt)
   go_ret;exact ⟨by rw [HD.out];rfl,HB1.out.trans (HB2.out.mono HB1.out.size)⟩
 by_cases k4:k=4
 ·subst k4;cases hn:numOk t
  ·have HN:=hide hn;have HD:=hide (show dpJ left (.mk 4 t ks vs)=false by simp [dpJ,hn]);clear hn;go_wp2_with (first|(go_at_call 107;(refine (numeral_any w2 t (HT1.out.below HB2.out)).mono ?_);(rw [HN.out]);rintro e w3 ⟨rfl,hb⟩;have HB3:=hide (HB2.out.trans (hb.mono HB2.out.size));clear hb;clear kv fv zv;have kv:=(HV.out.below HB3.out HV.out.lt).cell;have fv:=(HV.out.below HB3.out HV.out.lt).frozen;have zv:=(HV.out.below HB3.out HV.out.lt).lt)|(go_at_call 106;(refine (Tryz.utf8_ValidString ⟨t.toArray⟩ w1 HS.out HT1.out).mono ?_);rintro e w2 ⟨rfl,hb⟩;have HB2:=hide hb;clear hb;clear kv fv zv;have kv:=(HV.out.below HB2.out HV.out.lt).cell;have fv:=(HV.out.below HB2.out HV.out.lt).frozen;have zv:=(HV.out.below HB2.out HV.out.lt).lt))
   go_ret;exact ⟨by rw [HD.out];rfl,HB1.out.trans (HB3.out.mono HB1.out.size)⟩
  ·have HN:=hide hn;by_cases hk:ks.length=0
   ·by_cases hv:vs.length=0
    ·have HD:=hide (show dpJ left (.mk 4 t ks vs)=true by simp [dpJ,hk,hv,hn]);have e1:((ks.length:Int) == 0)=true:=by simp [hk]
     have e2:((vs.length:Int) == 0)=true:=by simp [hv]
     clear hk hv hn;go_wp2_with (first|(go_at_call 107;(refine (numeral_any w2 t (HT1.out.below HB2.out)).mono ?_);(rw [HN.out]);rintro e w3 ⟨rfl,hb⟩;have HB3:=hide (HB2.out.trans (hb.mono HB2.out.size));clear hb;clear kv fv zv;have kv:=(HV.out.below HB3.out HV.out.lt).cell;have fv:=(HV.out.below HB3.out HV.out.lt).frozen;have zv:=(HV.out.below HB3.out HV.out.lt).lt)|(go_at_call 106;(refine (Tryz.utf8_ValidString ⟨t.toArray⟩ w1 HS.out HT1.out).mono ?_);rintro e w2 ⟨rfl,hb⟩;have HB2:=hide hb;clear hb;clear kv fv zv;have kv:=(HV.out.below HB2.out HV.out.lt).cell;have fv:=(HV.out.below HB2.out HV.out.lt).frozen;have zv:=(HV.out.below HB2.out HV.out.lt).lt))
     go_ret;exact ⟨by rw [HD.out];rfl,HB1.out.trans (HB3.out.mono HB1.out.size)⟩
    ·have HD:=hide (show dpJ left (.mk 4 t ks vs)=false by simp [dpJ,hk,hv,hn]);have e1:((ks.length:Int) == 0)=true:=by simp [hk]
     have e2:((vs.length:Int) == 0)=false:=by rw [beq_eq_false_iff_ne];omega
     clear hk hv hn;go_wp2_with (first|(go_at_call 107;(refine (numeral_any w2 t (HT1.out.below HB2.out)).mono ?_);(rw [HN.out]);rintro e w3 ⟨rfl,hb⟩;have HB3:=hide (HB2.out.trans (hb.mono HB2.out.size));clear hb;clear kv fv zv;have kv:=(HV.out.below HB3.out HV.out.lt).cell;have fv:=(HV.out.below HB3.out HV.out.lt).frozen;have zv:=(HV.out.below HB3.out HV.out.lt).lt)|(go_at_call 106;(refine (Tryz.utf8_ValidString ⟨t.toArray⟩ w1 HS.out HT1.out).mono ?_);rintro e w2 ⟨rfl,hb⟩;have HB2:=hide hb;clear hb;clear kv fv zv;have kv:=(HV.out.below HB2.out HV.out.lt).cell;have fv:=(HV.out.below HB2.out HV.out.lt).frozen;have zv:=(HV.out.below HB2.out HV.out.lt).lt))
     go_ret;exact ⟨by rw [HD.out];rfl,HB1.out.trans (HB3.out.mono HB1.out.size)⟩
   ·have HD:=hide (show dpJ left (.mk 4 t ks vs)=false by simp [dpJ,hk,hn]);have e1:((ks.length:Int) == 0)=false:=by rw [beq_eq_false_iff_ne];omega
    clear hk hn;go_wp2_with (first|(go_at_call 107;(refine (numeral_any w2 t (HT1.out.below HB2.out)).mono ?_);(rw [HN.out]);rintro e w3 ⟨rfl,hb⟩;have HB3:=hide (HB2.out.trans (hb.mono HB2.out.size));clear hb;clear kv fv zv;have kv:=(HV.out.below HB3.out HV.out.lt).cell;have fv:=(HV.out.below HB3.out HV.out.lt).frozen;have zv:=(HV.out.below HB3.out HV.out.lt).lt)|(go_at_call 106;(refine (Tryz.utf8_ValidString ⟨t.toArray⟩ w1 HS.out HT1.out).mono ?_);rintro e w2 ⟨rfl,hb⟩;have HB2:=hide hb;clear hb;clear kv fv zv;have kv:=(HV.out.below HB2.out HV.out.lt).cell;have fv:=(HV.out.below HB2.out HV.out.lt).frozen;have zv:=(HV.out.below HB2.out HV.out.lt).lt))
    go_ret;exact ⟨by rw [HD.out];rfl,HB1.out.trans (HB3.out.mono HB1.out.size)⟩
 by_cases k5:k=5
 ·subst k5;cases hn:Lib.validD t
  ·have HD:=hide (show dpJ left (.mk 5 t ks vs)=false by simp [dpJ,hn]);go_wp2_with (go_at_call 106;(refine (Tryz.utf8_ValidString ⟨t.toArray⟩ w1 HS.out HT1.out).mono ?_);rintro e w2 ⟨rfl,hb⟩;have HB2:=hide hb;clear hb;clear kv fv zv;have kv:=(HV.out.below HB2.out HV.out.lt).cell;have fv:=(HV.out.below HB2.out HV.out.lt).frozen;have zv:=(HV.out.below HB2.out HV.out.lt).lt)
   go_ret;exact ⟨by rw [HD.out];rfl,HB1.out.trans (HB2.out.mono HB1.out.size)⟩
  ·have e0:=hn;by_cases hk:ks.length=0
   ·by_cases hv:vs.length=0
    ·have HD:=hide (show dpJ left (.mk 5 t ks vs)=true by simp [dpJ,hk,hv,hn]);have e1:((ks.length:Int) == 0)=true:=by simp [hk]
     have e2:((vs.length:Int) == 0)=true:=by simp [hv]
     clear hk hv e0;go_wp2_with (go_at_call 106;(refine (Tryz.utf8_ValidString ⟨t.toArray⟩ w1 HS.out HT1.out).mono ?_);rintro e w2 ⟨rfl,hb⟩;have HB2:=hide hb;clear hb;clear kv fv zv;have kv:=(HV.out.below HB2.out HV.out.lt).cell;have fv:=(HV.out.below HB2.out HV.out.lt).frozen;have zv:=(HV.out.below HB2.out HV.out.lt).lt)
     go_ret;exact ⟨by rw [HD.out];rfl,HB1.out.trans (HB2.out.mono HB1.out.size)⟩
    ·have HD:=hide (show dpJ left (.mk 5 t ks vs)=false by simp [dpJ,hk,hv,hn]);have e1:((ks.length:Int) == 0)=true:=by simp [hk]
     have e2:((vs.length:Int) == 0)=false:=by rw [beq_eq_false_iff_ne];omega
     clear hk hv e0;go_wp2_with (go_at_call 106;(refine (Tryz.utf8_ValidString ⟨t.toArray⟩ w1 HS.out HT1.out).mono ?_);rintro e w2 ⟨rfl,hb⟩;have HB2:=hide hb;clear hb;clear kv fv zv;have kv:=(HV.out.below HB2.out HV.out.lt).cell;have fv:=(HV.out.below HB2.out HV.out.lt).frozen;have zv:=(HV.out.below HB2.out HV.out.lt).lt)
     go_ret;exact ⟨by rw [HD.out];rfl,HB1.out.trans (HB2.out.mono HB1.out.size)⟩
   ·have HD:=hide (show dpJ left (.mk 5 t ks vs)=false by simp [dpJ,hk,hn]);have e1:((ks.length:Int) == 0)=false:=by rw [beq_eq_false_iff_ne];omega
    clear hk e0;go_wp2_with (go_at_call 106;(refine (Tryz.utf8_ValidString ⟨t.toArray⟩ w1 HS.out HT1.out).mono ?_);rintro e w2 ⟨rfl,hb⟩;have HB2:=hide hb;clear hb;clear kv fv zv;have kv:=(HV.out.below HB2.out HV.out.lt).cell;have fv:=(HV.out.below HB2.out HV.out.lt).frozen;have zv:=(HV.out.below HB2.out HV.out.lt).lt)
    go_ret;exact ⟨by rw [HD.out];rfl,HB1.out.trans (HB2.out.mono HB1.out.size)⟩
 have e1:(k == 1)=false:=by simp;omega
 have e2:(k == 2)=false:=by simp;omega
 have e3:(k == 3)=false:=by simp;omega
 have e4:(k == 4)=false:=by simp;omega
 have e5:(k == 5)=false:=by simp;omega
 by_cases k6:k=6
 ·subst k6;clear e1 e2 e3 e4 e5 k1 k2 k3 k4 k5;by_cases ht:t=[]
  ·have e0:t.isEmpty=true:=by rw [ht];rfl
   by_cases hlf:0<left
   ·have el:decide (0<left)=true:=by simp;omega
    have HLF:=hide (show Imp true (0<left) from fun _=>hlf);by_cases hq:ks.length=0
    ·have HD:=hide (show dpJ left (.mk 6 t ks vs)=((true&&ks.all Lib.validD)&&dpL (left - 1) vs) by simp [dpJ,ht,hlf,hq]);have e8:((ks.length:Int) == 0)=true:=by rw [beq_iff_eq];omega
     clear ht hlf hq;go_wp2_with (go_at_call 106;(refine (Tryz.utf8_ValidString ⟨t.toArray⟩ w1 HS.out HT1.out).mono ?_);rintro e w2 ⟨rfl,hb⟩;have HB2:=hide hb;clear hb;clear kv fv zv;have kv:=(HV.out.below HB2.out HV.out.lt).cell;have fv:=(HV.out.below HB2.out HV.out.lt).frozen;have zv:=(HV.out.below HB2.out HV.out.lt).lt)
     clear kv fv zv
     go_loopw [5,71] (fun bv iv wr=>∃ (j:Nat) (b:Bool),iv=.int .i64 (j:Int)∧bv=.bool b∧j≤ks.length∧Hid (b=(true&&(ks.take j).all Lib.validD))∧Hid (Below w1.heap.size w1 wr)) (fun _ iv _=>ks.length - (intOf iv).toNat)
     case atStart=>exact ⟨0,true,by go_num,rfl,by omega,hide (by simp),HB2⟩
     case round=>
      clear HB2;obtain ⟨j,b,rfl,rfl,hj,HQ,HB⟩:=hrel;have HVr:=hide (HV.out.below HB.out HV.out.lt);have kv:=HVr.out.cell;have fv:=HVr.out.frozen;have zv:=HVr.out.lt;by_cases hlt:j<ks.length
      ·obtain ⟨ad,hA,had,hc⟩:=HR1.out.2 (by omega);subst hA;have cx:=(HB.out.cell (show (ad.add j).block<w1.heap.size by rw [block_of_add];exact had)).trans (hc j _ (sc_at hlt));obtain ⟨x,hx⟩:∃ x,ks[j]=x:=⟨_,rfl⟩;have zx:ad.block<wr.heap.size:=nLl had HB.out.size;have HXS:=hide (show (⟨x.toArray⟩:ByteArray).size≤9223372036854775807 by have:=HSK.out ks[j] (List.getElem_mem hlt);rw [hx] at this;show x.toArray.size≤_;simpa using this);rw [hx] at cx;unfold bstr at cx;have HX:=hide hx;clear hc hx;have hcj:j≤c1:=by omega
       cases b
       ·go_wp2_with fail
        go_roundw
        case rel=>exact ⟨j+1,false,by go_num,rfl,by omega,hide (by rw [all_take hlt,← Bool.and_assoc,← HQ.out];rfl),HB⟩
        case measure=>simp [intOf];omega
       ·go_wp2_with (go_at_call 106;(refine (Tryz.utf8_ValidString ⟨x.toArray⟩ wr HXS.out (HT1.out.below HB.out)).mono ?_);rintro e w4 ⟨rfl,hb⟩;have HB4:=hide (HB.out.trans (hb.mono HB.out.size));clear hb)
        go_roundw
        case rel=>exact ⟨j+1,Lib.validD x,by go_num,by simp,by omega,hide (by rw [all_take hlt,← Bool.and_assoc,← HQ.out,HX.out];simp),HB4⟩
        case measure=>simp [intOf];omega
      ·have HK:=hide (show b=(true&&ks.all Lib.validD) by rw [HQ.out,List.take_of_length_le (by omega)]);clear HQ;go_wp2_with fail
       go_loopw [5,8] (fun bv iv wr=>∃ (i:Nat) (b2:Bool),iv=.int .i64 (i:Int)∧bv=.bool b2∧i≤vs.length∧Hid (b2=(b&&dpL (left - 1) (vs.take i)))∧Hid (Below w1.heap.size w1 wr)) (fun _ iv _=>vs.length - (intOf iv).toNat)
       case atStart=>exact ⟨0,b,by go_num,rfl,by omega,hide (by simp [dpL]),HB⟩
       case round=>
        clear kv fv zv HVr HB;obtain ⟨i,b2,rfl,rfl,hi,HQ,HB⟩:=hrel;have HVr:=hide (HV.out.below HB.out HV.out.lt);have kv:=HVr.out.cell;have fv:=HVr.out.frozen;have zv:=HVr.out.lt;cases b2
        ·have HF:=hide (show dpJ left (.mk 6 t ks vs)=false by
          rw [HD.out,← HK.out];have h:=HQ.out;cases b
          ·rfl
          ·rw [Bool.true_and] at h ⊢;exact dpL_no h.symm)
         go_wp2_with fail
         go_ret;exact ⟨by rw [HF.out];rfl,HB1.out.trans (HB.out.mono HB1.out.size)⟩
        ·by_cases hlt2:i<vs.length
         ·obtain ⟨ad,hA,had,hc⟩:=HR2.out.2 (by omega);subst hA;obtain ⟨cs,hv,hcs⟩:=VRdL.at_ vs xs HL.out i hlt2;obtain ⟨a1,a2,a3,a4,a5,a6,a7,a8,rfl⟩:=hv.four;have q:∀ m u,xs[i * 4+m]? = some u→wr.cell? (ad.add (i * 4+m))=some u:=fun m u hu=>(HB.out.cell (by rw [block_of_add];exact had)).trans (hc _ u hu)
          obtain ⟨g0,g1,g2,g3⟩:=four_cells (q 0 _ (hcs 0 (by omega))) (q 1 _ (hcs 1 (by omega))) (q 2 _ (hcs 2 (by omega))) (q 3 _ (hcs 3 (by omega)));rw [Nat.add_zero] at g0 g1 g2 g3;have zx:ad.block<wr.heap.size:=nLl had HB.out.size;have hcj:i≤c2:=by omega
          have hszm:szJ vs[i]≤n:=by have:=szL_at vs i hlt2;have:szJ (.mk 6 t ks vs)=szL vs+1:=(by simp [szJ]);omega
          have HVm:=hide hv;have HSM:=hide (smL_at i hlt2 HSV.out);have HLT:=hide (show 0<left from HLF.out (and_left (HK.out.symm.trans (and_left HQ.out.symm))));have HIH:=hide (IH.out wr vs[i] _ (left - 1) ((left:Int) - 1) (by have:=HLT.out;omega) (by omega) hszm HSM.out (HT1.out.below HB.out) (HVm.out.later HB.out));clear q hc hcs hv hszm;have hl1:(left:Int)≤1000:=by omega
          go_wp2_with (go_at_call 63;refine HIH.out.mono ?_;rintro e w5 ⟨rfl,hb⟩;have HB5:=hide (HB.out.trans (hb.mono HB.out.size));clear hb;clear kv fv zv;have kv:=(HV.out.below HB5.out HV.out.lt).cell;have fv:=(HV.out.below HB5.out HV.out.lt).frozen;have zv:=(HV.out.below HB5.out HV.out.lt).lt)
          go_roundw
          case rel=>exact ⟨i+1,dpJ (left - 1) vs[i],by go_num,rfl,by omega,hide (by rw [dpL_take hlt2,← Bool.and_assoc,← HQ.out];rfl),HB5⟩
          case measure=>simp [intOf];omega
         ·have HF:=hide (show dpJ left (.mk 6 t ks vs)=true by
           rw [HD.out,← HK.out];have h:=HQ.out;rw [List.take_of_length_le (by omega)] at h;exact h.symm)
          go_wp2_with fail
          go_ret;exact ⟨by rw [HF.out];rfl,HB1.out.trans (HB.out.mono HB1.out.size)⟩
    ·have HD:=hide (show dpJ left (.mk 6 t ks vs)=((false&&ks.all Lib.validD)&&dpL (left - 1) vs) by simp [dpJ,ht,hlf,hq]);have e8:((ks.length:Int) == 0)=false:=by rw [beq_eq_false_iff_ne];omega
     have HLF:=hide (show Imp false (0<left) from fun h=>by cases h);clear ht hlf hq;go_wp2_with (go_at_call 106;(refine (Tryz.utf8_ValidString ⟨t.toArray⟩ w1 HS.out HT1.out).mono ?_);rintro e w2 ⟨rfl,hb⟩;have HB2:=hide hb;clear hb;clear kv fv zv;have kv:=(HV.out.below HB2.out HV.out.lt).cell;have fv:=(HV.out.below HB2.out HV.out.lt).frozen;have zv:=(HV.out.below HB2.out HV.out.lt).lt)
     clear kv fv zv
     go_loopw [5,71] (fun bv iv wr=>∃ (j:Nat) (b:Bool),iv=.int .i64 (j:Int)∧bv=.bool b∧j≤ks.length∧Hid (b=(false&&(ks.take j).all Lib.validD))∧Hid (Below w1.heap.size w1 wr)) (fun _ iv _=>ks.length - (intOf iv).toNat)
     case atStart=>exact ⟨0,false,by go_num,rfl,by omega,hide (by simp),HB2⟩
     case round=>
      clear HB2;obtain ⟨j,b,rfl,rfl,hj,HQ,HB⟩:=hrel;have HVr:=hide (HV.out.below HB.out HV.out.lt);have kv:=HVr.out.cell;have fv:=HVr.out.frozen;have zv:=HVr.out.lt;by_cases hlt:j<ks.length
      ·obtain ⟨ad,hA,had,hc⟩:=HR1.out.2 (by omega);subst hA;have cx:=(HB.out.cell (show (ad.add j).block<w1.heap.size by rw [block_of_add];exact had)).trans (hc j _ (sc_at hlt));obtain ⟨x,hx⟩:∃ x,ks[j]=x:=⟨_,rfl⟩;have zx:ad.block<wr.heap.size:=nLl had HB.out.size;have HXS:=hide (show (⟨x.toArray⟩:ByteArray).size≤9223372036854775807 by have:=HSK.out ks[j] (List.getElem_mem hlt);rw [hx] at this;show x.toArray.size≤_;simpa using this);rw [hx] at cx;unfold bstr at cx;have HX:=hide hx;clear hc hx;have hcj:j≤c1:=by omega
       cases b
       ·go_wp2_with fail
        go_roundw
        case rel=>exact ⟨j+1,false,by go_num,rfl,by omega,hide (by rw [all_take hlt,← Bool.and_assoc,← HQ.out];rfl),HB⟩
        case measure=>simp [intOf];omega
       ·go_wp2_with (go_at_call 106;(refine (Tryz.utf8_ValidString ⟨x.toArray⟩ wr HXS.out (HT1.out.below HB.out)).mono ?_);rintro e w4 ⟨rfl,hb⟩;have HB4:=hide (HB.out.trans (hb.mono HB.out.size));clear hb)
        go_roundw
        case rel=>exact ⟨j+1,Lib.validD x,by go_num,by simp,by omega,hide (by rw [all_take hlt,← Bool.and_assoc,← HQ.out,HX.out];simp),HB4⟩
        case measure=>simp [intOf];omega
      ·have HK:=hide (show b=(false&&ks.all Lib.validD) by rw [HQ.out,List.take_of_length_le (by omega)]);clear HQ;go_wp2_with fail
       go_loopw [5,8] (fun bv iv wr=>∃ (i:Nat) (b2:Bool),iv=.int .i64 (i:Int)∧bv=.bool b2∧i≤vs.length∧Hid (b2=(b&&dpL (left - 1) (vs.take i)))∧Hid (Below w1.heap.size w1 wr)) (fun _ iv _=>vs.length - (intOf iv).toNat)
       case atStart=>exact ⟨0,b,by go_num,rfl,by omega,hide (by simp [dpL]),HB⟩
       case round=>
        clear kv fv zv HVr HB;obtain ⟨i,b2,rfl,rfl,hi,HQ,HB⟩:=hrel;have HVr:=hide (HV.out.below HB.out HV.out.lt);have kv:=HVr.out.cell;have fv:=HVr.out.frozen;have zv:=HVr.out.lt;cases b2
        ·have HF:=hide (show dpJ left (.mk 6 t ks vs)=false by
          rw [HD.out,← HK.out];have h:=HQ.out;cases b
          ·rfl
          ·rw [Bool.true_and] at h ⊢;exact dpL_no h.symm)
         go_wp2_with fail
         go_ret;exact ⟨by rw [HF.out];rfl,HB1.out.trans (HB.out.mono HB1.out.size)⟩
        ·by_cases hlt2:i<vs.length
         ·obtain ⟨ad,hA,had,hc⟩:=HR2.out.2 (by omega);subst hA;obtain ⟨cs,hv,hcs⟩:=VRdL.at_ vs xs HL.out i hlt2;obtain ⟨a1,a2,a3,a4,a5,a6,a7,a8,rfl⟩:=hv.four;have q:∀ m u,xs[i * 4+m]? = some u→wr.cell? (ad.add (i * 4+m))=some u:=fun m u hu=>(HB.out.cell (by rw [block_of_add];exact had)).trans (hc _ u hu)
          obtain ⟨g0,g1,g2,g3⟩:=four_cells (q 0 _ (hcs 0 (by omega))) (q 1 _ (hcs 1 (by omega))) (q 2 _ (hcs 2 (by omega))) (q 3 _ (hcs 3 (by omega)));rw [Nat.add_zero] at g0 g1 g2 g3;have zx:ad.block<wr.heap.size:=nLl had HB.out.size;have hcj:i≤c2:=by omega
          have hszm:szJ vs[i]≤n:=by have:=szL_at vs i hlt2;have:szJ (.mk 6 t ks vs)=szL vs+1:=(by simp [szJ]);omega
          have HVm:=hide hv;have HSM:=hide (smL_at i hlt2 HSV.out);have HLT:=hide (show 0<left from HLF.out (and_left (HK.out.symm.trans (and_left HQ.out.symm))));have HIH:=hide (IH.out wr vs[i] _ (left - 1) ((left:Int) - 1) (by have:=HLT.out;omega) (by omega) hszm HSM.out (HT1.out.below HB.out) (HVm.out.later HB.out));clear q hc hcs hv hszm;have hl1:(left:Int)≤1000:=by omega
          go_wp2_with (go_at_call 63;refine HIH.out.mono ?_;rintro e w5 ⟨rfl,hb⟩;have HB5:=hide (HB.out.trans (hb.mono HB.out.size));clear hb;clear kv fv zv;have kv:=(HV.out.below HB5.out HV.out.lt).cell;have fv:=(HV.out.below HB5.out HV.out.lt).frozen;have zv:=(HV.out.below HB5.out HV.out.lt).lt)
          go_roundw
          case rel=>exact ⟨i+1,dpJ (left - 1) vs[i],by go_num,rfl,by omega,hide (by rw [dpL_take hlt2,← Bool.and_assoc,← HQ.out];rfl),HB5⟩
          case measure=>simp [intOf];omega
         ·have HF:=hide (show dpJ left (.mk 6 t ks vs)=true by
           rw [HD.out,← HK.out];have h:=HQ.out;rw [List.take_of_length_le (by omega)] at h;exact h.symm)
          go_wp2_with fail
          go_ret;exact ⟨by rw [HF.out];rfl,HB1.out.trans (HB.out.mono HB1.out.size)⟩
   ·have el:decide (0<left)=false:=by simp;omega
    have HLF:=hide (show Imp false (0<left) from fun h=>by cases h);have HD:=hide (show dpJ left (.mk 6 t ks vs)=((false&&ks.all Lib.validD)&&dpL (left - 1) vs) by simp [dpJ,ht,hlf]);clear ht hlf;go_wp2_with (go_at_call 106;(refine (Tryz.utf8_ValidString ⟨t.toArray⟩ w1 HS.out HT1.out).mono ?_);rintro e w2 ⟨rfl,hb⟩;have HB2:=hide hb;clear hb;clear kv fv zv;have kv:=(HV.out.below HB2.out HV.out.lt).cell;have fv:=(HV.out.below HB2.out HV.out.lt).frozen;have zv:=(HV.out.below HB2.out HV.out.lt).lt)
    clear kv fv zv
    go_loopw [5,71] (fun bv iv wr=>∃ (j:Nat) (b:Bool),iv=.int .i64 (j:Int)∧bv=.bool b∧j≤ks.length∧Hid (b=(false&&(ks.take j).all Lib.validD))∧Hid (Below w1.heap.size w1 wr)) (fun _ iv _=>ks.length - (intOf iv).toNat)
    case atStart=>exact ⟨0,false,by go_num,rfl,by omega,hide (by simp),HB2⟩
    case round=>
     clear HB2;obtain ⟨j,b,rfl,rfl,hj,HQ,HB⟩:=hrel;have HVr:=hide (HV.out.below HB.out HV.out.lt);have kv:=HVr.out.cell;have fv:=HVr.out.frozen;have zv:=HVr.out.lt;by_cases hlt:j<ks.length
     ·obtain ⟨ad,hA,had,hc⟩:=HR1.out.2 (by omega);subst hA;have cx:=(HB.out.cell (show (ad.add j).block<w1.heap.size by rw [block_of_add];exact had)).trans (hc j _ (sc_at hlt));obtain ⟨x,hx⟩:∃ x,ks[j]=x:=⟨_,rfl⟩;have zx:ad.block<wr.heap.size:=nLl had HB.out.size;have HXS:=hide (show (⟨x.toArray⟩:ByteArray).size≤9223372036854775807 by have:=HSK.out ks[j] (List.getElem_mem hlt);rw [hx] at this;show x.toArray.size≤_;simpa using this);rw [hx] at cx;unfold bstr at cx;have HX:=hide hx;clear hc hx;have hcj:j≤c1:=by omega
      cases b
      ·go_wp2_with fail
       go_roundw
       case rel=>exact ⟨j+1,false,by go_num,rfl,by omega,hide (by rw [all_take hlt,← Bool.and_assoc,← HQ.out];rfl),HB⟩
       case measure=>simp [intOf];omega
      ·go_wp2_with (go_at_call 106;(refine (Tryz.utf8_ValidString ⟨x.toArray⟩ wr HXS.out (HT1.out.below HB.out)).mono ?_);rintro e w4 ⟨rfl,hb⟩;have HB4:=hide (HB.out.trans (hb.mono HB.out.size));clear hb)
       go_roundw
       case rel=>exact ⟨j+1,Lib.validD x,by go_num,by simp,by omega,hide (by rw [all_take hlt,← Bool.and_assoc,← HQ.out,HX.out];simp),HB4⟩
       case measure=>simp [intOf];omega
     ·have HK:=hide (show b=(false&&ks.all Lib.validD) by rw [HQ.out,List.take_of_length_le (by omega)]);clear HQ;go_wp2_with fail
      go_loopw [5,8] (fun bv iv wr=>∃ (i:Nat) (b2:Bool),iv=.int .i64 (i:Int)∧bv=.bool b2∧i≤vs.length∧Hid (b2=(b&&dpL (left - 1) (vs.take i)))∧Hid (Below w1.heap.size w1 wr)) (fun _ iv _=>vs.length - (intOf iv).toNat)
      case atStart=>exact ⟨0,b,by go_num,rfl,by omega,hide (by simp [dpL]),HB⟩
      case round=>
       clear kv fv zv HVr HB;obtain ⟨i,b2,rfl,rfl,hi,HQ,HB⟩:=hrel;have HVr:=hide (HV.out.below HB.out HV.out.lt);have kv:=HVr.out.cell;have fv:=HVr.out.frozen;have zv:=HVr.out.lt;cases b2
       ·have HF:=hide (show dpJ left (.mk 6 t ks vs)=false by
         rw [HD.out,← HK.out];have h:=HQ.out;cases b
         ·rfl
         ·rw [Bool.true_and] at h ⊢;exact dpL_no h.symm)
        go_wp2_with fail
        go_ret;exact ⟨by rw [HF.out];rfl,HB1.out.trans (HB.out.mono HB1.out.size)⟩
       ·by_cases hlt2:i<vs.length
        ·obtain ⟨ad,hA,had,hc⟩:=HR2.out.2 (by omega);subst hA;obtain ⟨cs,hv,hcs⟩:=VRdL.at_ vs xs HL.out i hlt2;obtain ⟨a1,a2,a3,a4,a5,a6,a7,a8,rfl⟩:=hv.four;have q:∀ m u,xs[i * 4+m]? = some u→wr.cell? (ad.add (i * 4+m))=some u:=fun m u hu=>(HB.out.cell (by rw [block_of_add];exact had)).trans (hc _ u hu)
         obtain ⟨g0,g1,g2,g3⟩:=four_cells (q 0 _ (hcs 0 (by omega))) (q 1 _ (hcs 1 (by omega))) (q 2 _ (hcs 2 (by omega))) (q 3 _ (hcs 3 (by omega)));rw [Nat.add_zero] at g0 g1 g2 g3;have zx:ad.block<wr.heap.size:=nLl had HB.out.size;have hcj:i≤c2:=by omega
         have hszm:szJ vs[i]≤n:=by have:=szL_at vs i hlt2;have:szJ (.mk 6 t ks vs)=szL vs+1:=(by simp [szJ]);omega
         have HVm:=hide hv;have HSM:=hide (smL_at i hlt2 HSV.out);have HLT:=hide (show 0<left from HLF.out (and_left (HK.out.symm.trans (and_left HQ.out.symm))));have HIH:=hide (IH.out wr vs[i] _ (left - 1) ((left:Int) - 1) (by have:=HLT.out;omega) (by omega) hszm HSM.out (HT1.out.below HB.out) (HVm.out.later HB.out));clear q hc hcs hv hszm;have hl1:(left:Int)≤1000:=by omega
         go_wp2_with (go_at_call 63;refine HIH.out.mono ?_;rintro e w5 ⟨rfl,hb⟩;have HB5:=hide (HB.out.trans (hb.mono HB.out.size));clear hb;clear kv fv zv;have kv:=(HV.out.below HB5.out HV.out.lt).cell;have fv:=(HV.out.below HB5.out HV.out.lt).frozen;have zv:=(HV.out.below HB5.out HV.out.lt).lt)
         go_roundw
         case rel=>exact ⟨i+1,dpJ (left - 1) vs[i],by go_num,rfl,by omega,hide (by rw [dpL_take hlt2,← Bool.and_assoc,← HQ.out];rfl),HB5⟩
         case measure=>simp [intOf];omega
        ·have HF:=hide (show dpJ left (.mk 6 t ks vs)=true by
          rw [HD.out,← HK.out];have h:=HQ.out;rw [List.take_of_length_le (by omega)] at h;exact h.symm)
         go_wp2_with fail
         go_ret;exact ⟨by rw [HF.out];rfl,HB1.out.trans (HB.out.mono HB1.out.size)⟩
  ·have e0:t.isEmpty=false:=by rw [← Bool.not_eq_true,List.isEmpty_iff];exact ht
   have HLF:=hide (show Imp false (0<left) from fun h=>by cases h);have HD:=hide (show dpJ left (.mk 6 t ks vs)=((false&&ks.all Lib.validD)&&dpL (left - 1) vs) by simp [dpJ,ht]);clear ht;go_wp2_with (go_at_call 106;(refine (Tryz.utf8_ValidString ⟨t.toArray⟩ w1 HS.out HT1.out).mono ?_);rintro e w2 ⟨rfl,hb⟩;have HB2:=hide hb;clear hb;clear kv fv zv;have kv:=(HV.out.below HB2.out HV.out.lt).cell;have fv:=(HV.out.below HB2.out HV.out.lt).frozen;have zv:=(HV.out.below HB2.out HV.out.lt).lt)
   clear kv fv zv
   go_loopw [5,71] (fun bv iv wr=>∃ (j:Nat) (b:Bool),iv=.int .i64 (j:Int)∧bv=.bool b∧j≤ks.length∧Hid (b=(false&&(ks.take j).all Lib.validD))∧Hid (Below w1.heap.size w1 wr)) (fun _ iv _=>ks.length - (intOf iv).toNat)
   case atStart=>exact ⟨0,false,by go_num,rfl,by omega,hide (by simp),HB2⟩
   case round=>
    clear HB2;obtain ⟨j,b,rfl,rfl,hj,HQ,HB⟩:=hrel;have HVr:=hide (HV.out.below HB.out HV.out.lt);have kv:=HVr.out.cell;have fv:=HVr.out.frozen;have zv:=HVr.out.lt;by_cases hlt:j<ks.length
    ·obtain ⟨ad,hA,had,hc⟩:=HR1.out.2 (by omega);subst hA;have cx:=(HB.out.cell (show (ad.add j).block<w1.heap.size by rw [block_of_add];exact had)).trans (hc j _ (sc_at hlt));obtain ⟨x,hx⟩:∃ x,ks[j]=x:=⟨_,rfl⟩;have zx:ad.block<wr.heap.size:=nLl had HB.out.size;have HXS:=hide (show (⟨x.toArray⟩:ByteArray).size≤9223372036854775807 by have:=HSK.out ks[j] (List.getElem_mem hlt);rw [hx] at this;show x.toArray.size≤_;simpa using this);rw [hx] at cx;unfold bstr at cx;have HX:=hide hx;clear hc hx;have hcj:j≤c1:=by omega
     cases b
     ·go_wp2_with fail
      go_roundw
      case rel=>exact ⟨j+1,false,by go_num,rfl,by omega,hide (by rw [all_take hlt,← Bool.and_assoc,← HQ.out];rfl),HB⟩
      case measure=>simp [intOf];omega
     ·go_wp2_with (go_at_call 106;(refine (Tryz.utf8_ValidString ⟨x.toArray⟩ wr HXS.out (HT1.out.below HB.out)).mono ?_);rintro e w4 ⟨rfl,hb⟩;have HB4:=hide (HB.out.trans (hb.mono HB.out.size));clear hb)
      go_roundw
      case rel=>exact ⟨j+1,Lib.validD x,by go_num,by simp,by omega,hide (by rw [all_take hlt,← Bool.and_assoc,← HQ.out,HX.out];simp),HB4⟩
      case measure=>simp [intOf];omega
    ·have HK:=hide (show b=(false&&ks.all Lib.validD) by rw [HQ.out,List.take_of_length_le (by omega)]);clear HQ;go_wp2_with fail
     go_loopw [5,8] (fun bv iv wr=>∃ (i:Nat) (b2:Bool),iv=.int .i64 (i:Int)∧bv=.bool b2∧i≤vs.length∧Hid (b2=(b&&dpL (left - 1) (vs.take i)))∧Hid (Below w1.heap.size w1 wr)) (fun _ iv _=>vs.length - (intOf iv).toNat)
     case atStart=>exact ⟨0,b,by go_num,rfl,by omega,hide (by simp [dpL]),HB⟩
     case round=>
      clear kv fv zv HVr HB;obtain ⟨i,b2,rfl,rfl,hi,HQ,HB⟩:=hrel;have HVr:=hide (HV.out.below HB.out HV.out.lt);have kv:=HVr.out.cell;have fv:=HVr.out.frozen;have zv:=HVr.out.lt;cases b2
      ·have HF:=hide (show dpJ left (.mk 6 t ks vs)=false by
        rw [HD.out,← HK.out];have h:=HQ.out;cases b
        ·rfl
        ·rw [Bool.true_and] at h ⊢;exact dpL_no h.symm)
       go_wp2_with fail
       go_ret;exact ⟨by rw [HF.out];rfl,HB1.out.trans (HB.out.mono HB1.out.size)⟩
      ·by_cases hlt2:i<vs.length
       ·obtain ⟨ad,hA,had,hc⟩:=HR2.out.2 (by omega);subst hA;obtain ⟨cs,hv,hcs⟩:=VRdL.at_ vs xs HL.out i hlt2;obtain ⟨a1,a2,a3,a4,a5,a6,a7,a8,rfl⟩:=hv.four;have q:∀ m u,xs[i * 4+m]? = some u→wr.cell? (ad.add (i * 4+m))=some u:=fun m u hu=>(HB.out.cell (by rw [block_of_add];exact had)).trans (hc _ u hu)
        obtain ⟨g0,g1,g2,g3⟩:=four_cells (q 0 _ (hcs 0 (by omega))) (q 1 _ (hcs 1 (by omega))) (q 2 _ (hcs 2 (by omega))) (q 3 _ (hcs 3 (by omega)));rw [Nat.add_zero] at g0 g1 g2 g3;have zx:ad.block<wr.heap.size:=nLl had HB.out.size;have hcj:i≤c2:=by omega
        have hszm:szJ vs[i]≤n:=by have:=szL_at vs i hlt2;have:szJ (.mk 6 t ks vs)=szL vs+1:=(by simp [szJ]);omega
        have HVm:=hide hv;have HSM:=hide (smL_at i hlt2 HSV.out);have HLT:=hide (show 0<left from HLF.out (and_left (HK.out.symm.trans (and_left HQ.out.symm))));have HIH:=hide (IH.out wr vs[i] _ (left - 1) ((left:Int) - 1) (by have:=HLT.out;omega) (by omega) hszm HSM.out (HT1.out.below HB.out) (HVm.out.later HB.out));clear q hc hcs hv hszm;have hl1:(left:Int)≤1000:=by omega
        go_wp2_with (go_at_call 63;refine HIH.out.mono ?_;rintro e w5 ⟨rfl,hb⟩;have HB5:=hide (HB.out.trans (hb.mono HB.out.size));clear hb;clear kv fv zv;have kv:=(HV.out.below HB5.out HV.out.lt).cell;have fv:=(HV.out.below HB5.out HV.out.lt).frozen;have zv:=(HV.out.below HB5.out HV.out.lt).lt)
        go_roundw
        case rel=>exact ⟨i+1,dpJ (left - 1) vs[i],by go_num,rfl,by omega,hide (by rw [dpL_take hlt2,← Bool.and_assoc,← HQ.out];rfl),HB5⟩
        case measure=>simp [intOf];omega
       ·have HF:=hide (show dpJ left (.mk 6 t ks vs)=true by
         rw [HD.out,← HK.out];have h:=HQ.out;rw [List.take_of_length_le (by omega)] at h;exact h.symm)
        go_wp2_with fail
        go_ret;exact ⟨by rw [HF.out];rfl,HB1.out.trans (HB.out.mono HB1.out.size)⟩
 by_cases k7:k=7
 ·subst k7;clear e1 e2 e3 e4 e5 k1 k2 k3 k4 k5 k6;by_cases ht:t=[]
  ·have e0:t.isEmpty=true:=by rw [ht];rfl
   by_cases hlf:0<left
   ·have el:decide (0<left)=true:=by simp;omega
    have HLF:=hide (show Imp true (0<left) from fun _=>hlf);by_cases hq:ks.length=vs.length
    ·have HD:=hide (show dpJ left (.mk 7 t ks vs)=((true&&ks.all Lib.validD)&&dpL (left - 1) vs) by simp [dpJ,ht,hlf,hq]);have e8:((ks.length:Int) == (vs.length:Int))=true:=by rw [beq_iff_eq];omega
     clear ht hlf hq;go_wp2_with (go_at_call 106;(refine (Tryz.utf8_ValidString ⟨t.toArray⟩ w1 HS.out HT1.out).mono ?_);rintro e w2 ⟨rfl,hb⟩;have HB2:=hide hb;clear hb;clear kv fv zv;have kv:=(HV.out.below HB2.out HV.out.lt).cell;have fv:=(HV.out.below HB2.out HV.out.lt).frozen;have zv:=(HV.out.below HB2.out HV.out.lt).lt)
     clear kv fv zv
     go_loopw [5,71] (fun bv iv wr=>∃ (j:Nat) (b:Bool),iv=.int .i64 (j:Int)∧bv=.bool b∧j≤ks.length∧Hid (b=(true&&(ks.take j).all Lib.validD))∧Hid (Below w1.heap.size w1 wr)) (fun _ iv _=>ks.length - (intOf iv).toNat)
     case atStart=>exact ⟨0,true,by go_num,rfl,by omega,hide (by simp),HB2⟩
     case round=>
      clear HB2;obtain ⟨j,b,rfl,rfl,hj,HQ,HB⟩:=hrel;have HVr:=hide (HV.out.below HB.out HV.out.lt);have kv:=HVr.out.cell;have fv:=HVr.out.frozen;have zv:=HVr.out.lt;by_cases hlt:j<ks.length
      ·obtain ⟨ad,hA,had,hc⟩:=HR1.out.2 (by omega);subst hA;have cx:=(HB.out.cell (show (ad.add j).block<w1.heap.size by rw [block_of_add];exact had)).trans (hc j _ (sc_at hlt));obtain ⟨x,hx⟩:∃ x,ks[j]=x:=⟨_,rfl⟩;have zx:ad.block<wr.heap.size:=nLl had HB.out.size;have HXS:=hide (show (⟨x.toArray⟩:ByteArray).size≤9223372036854775807 by have:=HSK.out ks[j] (List.getElem_mem hlt);rw [hx] at this;show x.toArray.size≤_;simpa using this);rw [hx] at cx;unfold bstr at cx;have HX:=hide hx;clear hc hx;have hcj:j≤c1:=by omega
       cases b
       ·go_wp2_with fail
        go_roundw
        case rel=>exact ⟨j+1,false,by go_num,rfl,by omega,hide (by rw [all_take hlt,← Bool.and_assoc,← HQ.out];rfl),HB⟩
        case measure=>simp [intOf];omega
       ·go_wp2_with (go_at_call 106;(refine (Tryz.utf8_ValidString ⟨x.toArray⟩ wr HXS.out (HT1.out.below HB.out)).mono ?_);rintro e w4 ⟨rfl,hb⟩;have HB4:=hide (HB.out.trans (hb.mono HB.out.size));clear hb)
        go_roundw
        case rel=>exact ⟨j+1,Lib.validD x,by go_num,by simp,by omega,hide (by rw [all_take hlt,← Bool.and_assoc,← HQ.out,HX.out];simp),HB4⟩
        case measure=>simp [intOf];omega
      ·have HK:=hide (show b=(true&&ks.all Lib.validD) by rw [HQ.out,List.take_of_length_le (by omega)]);clear HQ;go_wp2_with fail
       go_loopw [5,8] (fun bv iv wr=>∃ (i:Nat) (b2:Bool),iv=.int .i64 (i:Int)∧bv=.bool b2∧i≤vs.length∧Hid (b2=(b&&dpL (left - 1) (vs.take i)))∧Hid (Below w1.heap.size w1 wr)) (fun _ iv _=>vs.length - (intOf iv).toNat)
       case atStart=>exact ⟨0,b,by go_num,rfl,by omega,hide (by simp [dpL]),HB⟩
       case round=>
        clear kv fv zv HVr HB;obtain ⟨i,b2,rfl,rfl,hi,HQ,HB⟩:=hrel;have HVr:=hide (HV.out.below HB.out HV.out.lt);have kv:=HVr.out.cell;have fv:=HVr.out.frozen;have zv:=HVr.out.lt;cases b2
        ·have HF:=hide (show dpJ left (.mk 7 t ks vs)=false by
          rw [HD.out,← HK.out];have h:=HQ.out;cases b
          ·rfl
          ·rw [Bool.true_and] at h ⊢;exact dpL_no h.symm)
         go_wp2_with fail
         go_ret;exact ⟨by rw [HF.out];rfl,HB1.out.trans (HB.out.mono HB1.out.size)⟩
        ·by_cases hlt2:i<vs.length
         ·obtain ⟨ad,hA,had,hc⟩:=HR2.out.2 (by omega);subst hA;obtain ⟨cs,hv,hcs⟩:=VRdL.at_ vs xs HL.out i hlt2;obtain ⟨a1,a2,a3,a4,a5,a6,a7,a8,rfl⟩:=hv.four;have q:∀ m u,xs[i * 4+m]? = some u→wr.cell? (ad.add (i * 4+m))=some u:=fun m u hu=>(HB.out.cell (by rw [block_of_add];exact had)).trans (hc _ u hu)
          obtain ⟨g0,g1,g2,g3⟩:=four_cells (q 0 _ (hcs 0 (by omega))) (q 1 _ (hcs 1 (by omega))) (q 2 _ (hcs 2 (by omega))) (q 3 _ (hcs 3 (by omega)));rw [Nat.add_zero] at g0 g1 g2 g3;have zx:ad.block<wr.heap.size:=nLl had HB.out.size;have hcj:i≤c2:=by omega
          have hszm:szJ vs[i]≤n:=by have:=szL_at vs i hlt2;have:szJ (.mk 7 t ks vs)=szL vs+1:=(by simp [szJ]);omega
          have HVm:=hide hv;have HSM:=hide (smL_at i hlt2 HSV.out);have HLT:=hide (show 0<left from HLF.out (and_left (HK.out.symm.trans (and_left HQ.out.symm))));have HIH:=hide (IH.out wr vs[i] _ (left - 1) ((left:Int) - 1) (by have:=HLT.out;omega) (by omega) hszm HSM.out (HT1.out.below HB.out) (HVm.out.later HB.out));clear q hc hcs hv hszm;have hl1:(left:Int)≤1000:=by omega
          go_wp2_with (go_at_call 63;refine HIH.out.mono ?_;rintro e w5 ⟨rfl,hb⟩;have HB5:=hide (HB.out.trans (hb.mono HB.out.size));clear hb;clear kv fv zv;have kv:=(HV.out.below HB5.out HV.out.lt).cell;have fv:=(HV.out.below HB5.out HV.out.lt).frozen;have zv:=(HV.out.below HB5.out HV.out.lt).lt)
          go_roundw
          case rel=>exact ⟨i+1,dpJ (left - 1) vs[i],by go_num,rfl,by omega,hide (by rw [dpL_take hlt2,← Bool.and_assoc,← HQ.out];rfl),HB5⟩
          case measure=>simp [intOf];omega
         ·have HF:=hide (show dpJ left (.mk 7 t ks vs)=true by
           rw [HD.out,← HK.out];have h:=HQ.out;rw [List.take_of_length_le (by omega)] at h;exact h.symm)
          go_wp2_with fail
          go_ret;exact ⟨by rw [HF.out];rfl,HB1.out.trans (HB.out.mono HB1.out.size)⟩
    ·have HD:=hide (show dpJ left (.mk 7 t ks vs)=((false&&ks.all Lib.validD)&&dpL (left - 1) vs) by simp [dpJ,ht,hlf,hq]);have e8:((ks.length:Int) == (vs.length:Int))=false:=by rw [beq_eq_false_iff_ne];omega
     have HLF:=hide (show Imp false (0<left) from fun h=>by cases h);clear ht hlf hq;go_wp2_with (go_at_call 106;(refine (Tryz.utf8_ValidString ⟨t.toArray⟩ w1 HS.out HT1.out).mono ?_);rintro e w2 ⟨rfl,hb⟩;have HB2:=hide hb;clear hb;clear kv fv zv;have kv:=(HV.out.below HB2.out HV.out.lt).cell;have fv:=(HV.out.below HB2.out HV.out.lt).frozen;have zv:=(HV.out.below HB2.out HV.out.lt).lt)
     clear kv fv zv
     go_loopw [5,71] (fun bv iv wr=>∃ (j:Nat) (b:Bool),iv=.int .i64 (j:Int)∧bv=.bool b∧j≤ks.length∧Hid (b=(false&&(ks.take j).all Lib.validD))∧Hid (Below w1.heap.size w1 wr)) (fun _ iv _=>ks.length - (intOf iv).toNat)
     case atStart=>exact ⟨0,false,by go_num,rfl,by omega,hide (by simp),HB2⟩
     case round=>
      clear HB2;obtain ⟨j,b,rfl,rfl,hj,HQ,HB⟩:=hrel;have HVr:=hide (HV.out.below HB.out HV.out.lt);have kv:=HVr.out.cell;have fv:=HVr.out.frozen;have zv:=HVr.out.lt;by_cases hlt:j<ks.length
      ·obtain ⟨ad,hA,had,hc⟩:=HR1.out.2 (by omega);subst hA;have cx:=(HB.out.cell (show (ad.add j).block<w1.heap.size by rw [block_of_add];exact had)).trans (hc j _ (sc_at hlt));obtain ⟨x,hx⟩:∃ x,ks[j]=x:=⟨_,rfl⟩;have zx:ad.block<wr.heap.size:=nLl had HB.out.size;have HXS:=hide (show (⟨x.toArray⟩:ByteArray).size≤9223372036854775807 by have:=HSK.out ks[j] (List.getElem_mem hlt);rw [hx] at this;show x.toArray.size≤_;simpa using this);rw [hx] at cx;unfold bstr at cx;have HX:=hide hx;clear hc hx;have hcj:j≤c1:=by omega
       cases b
       ·go_wp2_with fail
        go_roundw
        case rel=>exact ⟨j+1,false,by go_num,rfl,by omega,hide (by rw [all_take hlt,← Bool.and_assoc,← HQ.out];rfl),HB⟩
        case measure=>simp [intOf];omega
       ·go_wp2_with (go_at_call 106;(refine (Tryz.utf8_ValidString ⟨x.toArray⟩ wr HXS.out (HT1.out.below HB.out)).mono ?_);rintro e w4 ⟨rfl,hb⟩;have HB4:=hide (HB.out.trans (hb.mono HB.out.size));clear hb)
        go_roundw
        case rel=>exact ⟨j+1,Lib.validD x,by go_num,by simp,by omega,hide (by rw [all_take hlt,← Bool.and_assoc,← HQ.out,HX.out];simp),HB4⟩
        case measure=>simp [intOf];omega
      ·have HK:=hide (show b=(false&&ks.all Lib.validD) by rw [HQ.out,List.take_of_length_le (by omega)]);clear HQ;go_wp2_with fail
       go_loopw [5,8] (fun bv iv wr=>∃ (i:Nat) (b2:Bool),iv=.int .i64 (i:Int)∧bv=.bool b2∧i≤vs.length∧Hid (b2=(b&&dpL (left - 1) (vs.take i)))∧Hid (Below w1.heap.size w1 wr)) (fun _ iv _=>vs.length - (intOf iv).toNat)
       case atStart=>exact ⟨0,b,by go_num,rfl,by omega,hide (by simp [dpL]),HB⟩
       case round=>
        clear kv fv zv HVr HB;obtain ⟨i,b2,rfl,rfl,hi,HQ,HB⟩:=hrel;have HVr:=hide (HV.out.below HB.out HV.out.lt);have kv:=HVr.out.cell;have fv:=HVr.out.frozen;have zv:=HVr.out.lt;cases b2
        ·have HF:=hide (show dpJ left (.mk 7 t ks vs)=false by
          rw [HD.out,← HK.out];have h:=HQ.out;cases b
          ·rfl
          ·rw [Bool.true_and] at h ⊢;exact dpL_no h.symm)
         go_wp2_with fail
         go_ret;exact ⟨by rw [HF.out];rfl,HB1.out.trans (HB.out.mono HB1.out.size)⟩
        ·by_cases hlt2:i<vs.length
         ·obtain ⟨ad,hA,had,hc⟩:=HR2.out.2 (by omega);subst hA;obtain ⟨cs,hv,hcs⟩:=VRdL.at_ vs xs HL.out i hlt2;obtain ⟨a1,a2,a3,a4,a5,a6,a7,a8,rfl⟩:=hv.four;have q:∀ m u,xs[i * 4+m]? = some u→wr.cell? (ad.add (i * 4+m))=some u:=fun m u hu=>(HB.out.cell (by rw [block_of_add];exact had)).trans (hc _ u hu)
          obtain ⟨g0,g1,g2,g3⟩:=four_cells (q 0 _ (hcs 0 (by omega))) (q 1 _ (hcs 1 (by omega))) (q 2 _ (hcs 2 (by omega))) (q 3 _ (hcs 3 (by omega)));rw [Nat.add_zero] at g0 g1 g2 g3;have zx:ad.block<wr.heap.size:=nLl had HB.out.size;have hcj:i≤c2:=by omega
          have hszm:szJ vs[i]≤n:=by have:=szL_at vs i hlt2;have:szJ (.mk 7 t ks vs)=szL vs+1:=(by simp [szJ]);omega
          have HVm:=hide hv;have HSM:=hide (smL_at i hlt2 HSV.out);have HLT:=hide (show 0<left from HLF.out (and_left (HK.out.symm.trans (and_left HQ.out.symm))));have HIH:=hide (IH.out wr vs[i] _ (left - 1) ((left:Int) - 1) (by have:=HLT.out;omega) (by omega) hszm HSM.out (HT1.out.below HB.out) (HVm.out.later HB.out));clear q hc hcs hv hszm;have hl1:(left:Int)≤1000:=by omega
          go_wp2_with (go_at_call 63;refine HIH.out.mono ?_;rintro e w5 ⟨rfl,hb⟩;have HB5:=hide (HB.out.trans (hb.mono HB.out.size));clear hb;clear kv fv zv;have kv:=(HV.out.below HB5.out HV.out.lt).cell;have fv:=(HV.out.below HB5.out HV.out.lt).frozen;have zv:=(HV.out.below HB5.out HV.out.lt).lt)
          go_roundw
          case rel=>exact ⟨i+1,dpJ (left - 1) vs[i],by go_num,rfl,by omega,hide (by rw [dpL_take hlt2,← Bool.and_assoc,← HQ.out];rfl),HB5⟩
          case measure=>simp [intOf];omega
         ·have HF:=hide (show dpJ left (.mk 7 t ks vs)=true by
           rw [HD.out,← HK.out];have h:=HQ.out;rw [List.take_of_length_le (by omega)] at h;exact h.symm)
          go_wp2_with fail
          go_ret;exact ⟨by rw [HF.out];rfl,HB1.out.trans (HB.out.mono HB1.out.size)⟩
   ·have el:decide (0<left)=false:=by simp;omega
    have HLF:=hide (show Imp false (0<left) from fun h=>by cases h);have HD:=hide (show dpJ left (.mk 7 t ks vs)=((false&&ks.all Lib.validD)&&dpL (left - 1) vs) by simp [dpJ,ht,hlf]);clear ht hlf;go_wp2_with (go_at_call 106;(refine (Tryz.utf8_ValidString ⟨t.toArray⟩ w1 HS.out HT1.out).mono ?_);rintro e w2 ⟨rfl,hb⟩;have HB2:=hide hb;clear hb;clear kv fv zv;have kv:=(HV.out.below HB2.out HV.out.lt).cell;have fv:=(HV.out.below HB2.out HV.out.lt).frozen;have zv:=(HV.out.below HB2.out HV.out.lt).lt)
    clear kv fv zv
    go_loopw [5,71] (fun bv iv wr=>∃ (j:Nat) (b:Bool),iv=.int .i64 (j:Int)∧bv=.bool b∧j≤ks.length∧Hid (b=(false&&(ks.take j).all Lib.validD))∧Hid (Below w1.heap.size w1 wr)) (fun _ iv _=>ks.length - (intOf iv).toNat)
    case atStart=>exact ⟨0,false,by go_num,rfl,by omega,hide (by simp),HB2⟩
    case round=>
     clear HB2;obtain ⟨j,b,rfl,rfl,hj,HQ,HB⟩:=hrel;have HVr:=hide (HV.out.below HB.out HV.out.lt);have kv:=HVr.out.cell;have fv:=HVr.out.frozen;have zv:=HVr.out.lt;by_cases hlt:j<ks.length
     ·obtain ⟨ad,hA,had,hc⟩:=HR1.out.2 (by omega);subst hA;have cx:=(HB.out.cell (show (ad.add j).block<w1.heap.size by rw [block_of_add];exact had)).trans (hc j _ (sc_at hlt));obtain ⟨x,hx⟩:∃ x,ks[j]=x:=⟨_,rfl⟩;have zx:ad.block<wr.heap.size:=nLl had HB.out.size;have HXS:=hide (show (⟨x.toArray⟩:ByteArray).size≤9223372036854775807 by have:=HSK.out ks[j] (List.getElem_mem hlt);rw [hx] at this;show x.toArray.size≤_;simpa using this);rw [hx] at cx;unfold bstr at cx;have HX:=hide hx;clear hc hx;have hcj:j≤c1:=by omega
      cases b
      ·go_wp2_with fail
       go_roundw
       case rel=>exact ⟨j+1,false,by go_num,rfl,by omega,hide (by rw [all_take hlt,← Bool.and_assoc,← HQ.out];rfl),HB⟩
       case measure=>simp [intOf];omega
      ·go_wp2_with (go_at_call 106;(refine (Tryz.utf8_ValidString ⟨x.toArray⟩ wr HXS.out (HT1.out.below HB.out)).mono ?_);rintro e w4 ⟨rfl,hb⟩;have HB4:=hide (HB.out.trans (hb.mono HB.out.size));clear hb)
       go_roundw
       case rel=>exact ⟨j+1,Lib.validD x,by go_num,by simp,by omega,hide (by rw [all_take hlt,← Bool.and_assoc,← HQ.out,HX.out];simp),HB4⟩
       case measure=>simp [intOf];omega
     ·have HK:=hide (show b=(false&&ks.all Lib.validD) by rw [HQ.out,List.take_of_length_le (by omega)]);clear HQ;go_wp2_with fail
      go_loopw [5,8] (fun bv iv wr=>∃ (i:Nat) (b2:Bool),iv=.int .i64 (i:Int)∧bv=.bool b2∧i≤vs.length∧Hid (b2=(b&&dpL (left - 1) (vs.take i)))∧Hid (Below w1.heap.size w1 wr)) (fun _ iv _=>vs.length - (intOf iv).toNat)
      case atStart=>exact ⟨0,b,by go_num,rfl,by omega,hide (by simp [dpL]),HB⟩
      case round=>
       clear kv fv zv HVr HB;obtain ⟨i,b2,rfl,rfl,hi,HQ,HB⟩:=hrel;have HVr:=hide (HV.out.below HB.out HV.out.lt);have kv:=HVr.out.cell;have fv:=HVr.out.frozen;have zv:=HVr.out.lt;cases b2
       ·have HF:=hide (show dpJ left (.mk 7 t ks vs)=false by
         rw [HD.out,← HK.out];have h:=HQ.out;cases b
         ·rfl
         ·rw [Bool.true_and] at h ⊢;exact dpL_no h.symm)
        go_wp2_with fail
        go_ret;exact ⟨by rw [HF.out];rfl,HB1.out.trans (HB.out.mono HB1.out.size)⟩
       ·by_cases hlt2:i<vs.length
        ·obtain ⟨ad,hA,had,hc⟩:=HR2.out.2 (by omega);subst hA;obtain ⟨cs,hv,hcs⟩:=VRdL.at_ vs xs HL.out i hlt2;obtain ⟨a1,a2,a3,a4,a5,a6,a7,a8,rfl⟩:=hv.four;have q:∀ m u,xs[i * 4+m]? = some u→wr.cell? (ad.add (i * 4+m))=some u:=fun m u hu=>(HB.out.cell (by rw [block_of_add];exact had)).trans (hc _ u hu)
         obtain ⟨g0,g1,g2,g3⟩:=four_cells (q 0 _ (hcs 0 (by omega))) (q 1 _ (hcs 1 (by omega))) (q 2 _ (hcs 2 (by omega))) (q 3 _ (hcs 3 (by omega)));rw [Nat.add_zero] at g0 g1 g2 g3;have zx:ad.block<wr.heap.size:=nLl had HB.out.size;have hcj:i≤c2:=by omega
         have hszm:szJ vs[i]≤n:=by have:=szL_at vs i hlt2;have:szJ (.mk 7 t ks vs)=szL vs+1:=(by simp [szJ]);omega
         have HVm:=hide hv;have HSM:=hide (smL_at i hlt2 HSV.out);have HLT:=hide (show 0<left from HLF.out (and_left (HK.out.symm.trans (and_left HQ.out.symm))));have HIH:=hide (IH.out wr vs[i] _ (left - 1) ((left:Int) - 1) (by have:=HLT.out;omega) (by omega) hszm HSM.out (HT1.out.below HB.out) (HVm.out.later HB.out));clear q hc hcs hv hszm;have hl1:(left:Int)≤1000:=by omega
         go_wp2_with (go_at_call 63;refine HIH.out.mono ?_;rintro e w5 ⟨rfl,hb⟩;have HB5:=hide (HB.out.trans (hb.mono HB.out.size));clear hb;clear kv fv zv;have kv:=(HV.out.below HB5.out HV.out.lt).cell;have fv:=(HV.out.below HB5.out HV.out.lt).frozen;have zv:=(HV.out.below HB5.out HV.out.lt).lt)
         go_roundw
         case rel=>exact ⟨i+1,dpJ (left - 1) vs[i],by go_num,rfl,by omega,hide (by rw [dpL_take hlt2,← Bool.and_assoc,← HQ.out];rfl),HB5⟩
         case measure=>simp [intOf];omega
        ·have HF:=hide (show dpJ left (.mk 7 t ks vs)=true by
          rw [HD.out,← HK.out];have h:=HQ.out;rw [List.take_of_length_le (by omega)] at h;exact h.symm)
         go_wp2_with fail
         go_ret;exact ⟨by rw [HF.out];rfl,HB1.out.trans (HB.out.mono HB1.out.size)⟩
  ·have e0:t.isEmpty=false:=by rw [← Bool.not_eq_true,List.isEmpty_iff];exact ht
   have HLF:=hide (show Imp false (0<left) from fun h=>by cases h);have HD:=hide (show dpJ left (.mk 7 t ks vs)=((false&&ks.all Lib.validD)&&dpL (left - 1) vs) by simp [dpJ,ht]);clear ht;go_wp2_with (go_at_call 106;(refine (Tryz.utf8_ValidString ⟨t.toArray⟩ w1 HS.out HT1.out).mono ?_);rintro e w2 ⟨rfl,hb⟩;have HB2:=hide hb;clear hb;clear kv fv zv;have kv:=(HV.out.below HB2.out HV.out.lt).cell;have fv:=(HV.out.below HB2.out HV.out.lt).frozen;have zv:=(HV.out.below HB2.out HV.out.lt).lt)
   clear kv fv zv
   go_loopw [5,71] (fun bv iv wr=>∃ (j:Nat) (b:Bool),iv=.int .i64 (j:Int)∧bv=.bool b∧j≤ks.length∧Hid (b=(false&&(ks.take j).all Lib.validD))∧Hid (Below w1.heap.size w1 wr)) (fun _ iv _=>ks.length - (intOf iv).toNat)
   case atStart=>exact ⟨0,false,by go_num,rfl,by omega,hide (by simp),HB2⟩
   case round=>
    clear HB2;obtain ⟨j,b,rfl,rfl,hj,HQ,HB⟩:=hrel;have HVr:=hide (HV.out.below HB.out HV.out.lt);have kv:=HVr.out.cell;have fv:=HVr.out.frozen;have zv:=HVr.out.lt;by_cases hlt:j<ks.length
    ·obtain ⟨ad,hA,had,hc⟩:=HR1.out.2 (by omega);subst hA;have cx:=(HB.out.cell (show (ad.add j).block<w1.heap.size by rw [block_of_add];exact had)).trans (hc j _ (sc_at hlt));obtain ⟨x,hx⟩:∃ x,ks[j]=x:=⟨_,rfl⟩;have zx:ad.block<wr.heap.size:=nLl had HB.out.size;have HXS:=hide (show (⟨x.toArray⟩:ByteArray).size≤9223372036854775807 by have:=HSK.out ks[j] (List.getElem_mem hlt);rw [hx] at this;show x.toArray.size≤_;simpa using this);rw [hx] at cx;unfold bstr at cx;have HX:=hide hx;clear hc hx;have hcj:j≤c1:=by omega
     cases b
     ·go_wp2_with fail
      go_roundw
      case rel=>exact ⟨j+1,false,by go_num,rfl,by omega,hide (by rw [all_take hlt,← Bool.and_assoc,← HQ.out];rfl),HB⟩
      case measure=>simp [intOf];omega
     ·go_wp2_with (go_at_call 106;(refine (Tryz.utf8_ValidString ⟨x.toArray⟩ wr HXS.out (HT1.out.below HB.out)).mono ?_);rintro e w4 ⟨rfl,hb⟩;have HB4:=hide (HB.out.trans (hb.mono HB.out.size));clear hb)
      go_roundw
      case rel=>exact ⟨j+1,Lib.validD x,by go_num,by simp,by omega,hide (by rw [all_take hlt,← Bool.and_assoc,← HQ.out,HX.out];simp),HB4⟩
      case measure=>simp [intOf];omega
    ·have HK:=hide (show b=(false&&ks.all Lib.validD) by rw [HQ.out,List.take_of_length_le (by omega)]);clear HQ;go_wp2_with fail
     go_loopw [5,8] (fun bv iv wr=>∃ (i:Nat) (b2:Bool),iv=.int .i64 (i:Int)∧bv=.bool b2∧i≤vs.length∧Hid (b2=(b&&dpL (left - 1) (vs.take i)))∧Hid (Below w1.heap.size w1 wr)) (fun _ iv _=>vs.length - (intOf iv).toNat)
     case atStart=>exact ⟨0,b,by go_num,rfl,by omega,hide (by simp [dpL]),HB⟩
     case round=>
      clear kv fv zv HVr HB;obtain ⟨i,b2,rfl,rfl,hi,HQ,HB⟩:=hrel;have HVr:=hide (HV.out.below HB.out HV.out.lt);have kv:=HVr.out.cell;have fv:=HVr.out.frozen;have zv:=HVr.out.lt;cases b2
      ·have HF:=hide (show dpJ left (.mk 7 t ks vs)=false by
        rw [HD.out,← HK.out];have h:=HQ.out;cases b
        ·rfl
        ·rw [Bool.true_and] at h ⊢;exact dpL_no h.symm)
       go_wp2_with fail
       go_ret;exact ⟨by rw [HF.out];rfl,HB1.out.trans (HB.out.mono HB1.out.size)⟩
      ·by_cases hlt2:i<vs.length
       ·obtain ⟨ad,hA,had,hc⟩:=HR2.out.2 (by omega);subst hA;obtain ⟨cs,hv,hcs⟩:=VRdL.at_ vs xs HL.out i hlt2;obtain ⟨a1,a2,a3,a4,a5,a6,a7,a8,rfl⟩:=hv.four;have q:∀ m u,xs[i * 4+m]? = some u→wr.cell? (ad.add (i * 4+m))=some u:=fun m u hu=>(HB.out.cell (by rw [block_of_add];exact had)).trans (hc _ u hu)
        obtain ⟨g0,g1,g2,g3⟩:=four_cells (q 0 _ (hcs 0 (by omega))) (q 1 _ (hcs 1 (by omega))) (q 2 _ (hcs 2 (by omega))) (q 3 _ (hcs 3 (by omega)));rw [Nat.add_zero] at g0 g1 g2 g3;have zx:ad.block<wr.heap.size:=nLl had HB.out.size;have hcj:i≤c2:=by omega
        have hszm:szJ vs[i]≤n:=by have:=szL_at vs i hlt2;have:szJ (.mk 7 t ks vs)=szL vs+1:=(by simp [szJ]);omega
        have HVm:=hide hv;have HSM:=hide (smL_at i hlt2 HSV.out);have HLT:=hide (show 0<left from HLF.out (and_left (HK.out.symm.trans (and_left HQ.out.symm))));have HIH:=hide (IH.out wr vs[i] _ (left - 1) ((left:Int) - 1) (by have:=HLT.out;omega) (by omega) hszm HSM.out (HT1.out.below HB.out) (HVm.out.later HB.out));clear q hc hcs hv hszm;have hl1:(left:Int)≤1000:=by omega
        go_wp2_with (go_at_call 63;refine HIH.out.mono ?_;rintro e w5 ⟨rfl,hb⟩;have HB5:=hide (HB.out.trans (hb.mono HB.out.size));clear hb;clear kv fv zv;have kv:=(HV.out.below HB5.out HV.out.lt).cell;have fv:=(HV.out.below HB5.out HV.out.lt).frozen;have zv:=(HV.out.below HB5.out HV.out.lt).lt)
        go_roundw
        case rel=>exact ⟨i+1,dpJ (left - 1) vs[i],by go_num,rfl,by omega,hide (by rw [dpL_take hlt2,← Bool.and_assoc,← HQ.out];rfl),HB5⟩
        case measure=>simp [intOf];omega
       ·have HF:=hide (show dpJ left (.mk 7 t ks vs)=true by
         rw [HD.out,← HK.out];have h:=HQ.out;rw [List.take_of_length_le (by omega)] at h;exact h.symm)
        go_wp2_with fail
        go_ret;exact ⟨by rw [HF.out];rfl,HB1.out.trans (HB.out.mono HB1.out.size)⟩
 have e6:(k == 6)=false:=by simp;omega
 have e7:(k == 7)=false:=by simp;omega
 have HD:=hide (show dpJ left (.mk k t ks vs)=false by simp [dpJ,k1,k2,k3,k4,k5,k6,k7]);clear k1 k2 k3 k4 k5 k6 k7;go_wp2_with (go_at_call 106;(refine (Tryz.utf8_ValidString ⟨t.toArray⟩ w1 HS.out HT1.out).mono ?_);rintro e w2 ⟨rfl,hb⟩;have HB2:=hide hb;clear hb;clear kv fv zv;have kv:=(HV.out.below HB2.out HV.out.lt).cell;have fv:=(HV.out.below HB2.out HV.out.lt).frozen;have zv:=(HV.out.below HB2.out HV.out.lt).lt)
 go_ret;exact ⟨by rw [HD.out];rfl,HB1.out.trans (HB2.out.mono HB1.out.size)⟩
theorem deep_all:∀ n,DeepC n
 | 0=>fun w J cs left li _ _ hsz _ _ _=>by
   obtain ⟨k,t,ks,vs⟩:=J;simp [szJ] at hsz
 | n+1=>deep_step n (deep_all n)
end Go.Proofs.YtacinobmcgcccaaGreatDoor
