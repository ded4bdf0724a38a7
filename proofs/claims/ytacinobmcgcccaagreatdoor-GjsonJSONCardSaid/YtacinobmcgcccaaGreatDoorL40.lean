/- A printed string is read as it was. -/
import Derived.Test.YtacinobmcgcccaaGreatDoorL29
import Derived.Test.YtacinobmcgcccaaGreatDoorL39
import Derived.Test.YtacinobmcgcccaaGreatDoorL26
set_option linter.unusedSimpArgs false
set_option linter.unusedVariables false
namespace Go.Proofs.YtacinobmcgcccaaGreatDoor
open Go.RowKit
def dm (x:L8):Prop:=x=[] ∨ ∃ c t,x=c :: t∧(blL.contains c=true∨c=44∨c=93∨c=125)
theorem dm_c {c:UInt8} (h:blL.contains c=true∨c=44∨c=93∨c=125):c=32∨c=9∨c=10∨c=13∨c=44∨c=93∨c=125:=by
 rcases h with h|h|h|h
 ·rcases bl_c h with h|h|h|h <;> simp [h]
 ·simp [h]
 ·simp [h]
 ·simp [h]
theorem dm_is {x cs:L8} (h:dm x) (hc:∀ c:UInt8,(c=32∨c=9∨c=10∨c=13∨c=44∨c=93∨c=125)→cs.contains c=false):isS x cs=false:=by
 rcases h with rfl|⟨c,t,rfl,h⟩
 ·rfl
 ·exact hc c (dm_c h)
theorem dm_dig {x:L8} (h:dm x):digS x=false:=by
 rcases h with rfl|⟨c,t,rfl,h⟩
 ·rfl
 ·show isDg c=false;rcases dm_c h with rfl|rfl|rfl|rfl|rfl|rfl|rfl <;> decide
theorem isS_dm {x cs:L8} (h:dm x) (u:L8) (hc:∀ c:UInt8,(c=32∨c=9∨c=10∨c=13∨c=44∨c=93∨c=125)→cs.contains c=false):isS (u++x) cs=isS u cs:=by
 cases u with
 | nil=>rw [List.nil_append,dm_is h hc];rfl
 | cons c t=>rfl
theorem digS_dm {x:L8} (h:dm x) (u:L8):digS (u++x)=digS u:=by
 cases u with
 | nil=>rw [List.nil_append,dm_dig h];rfl
 | cons c t=>rfl
theorem runDg_dm {x:L8} (h:dm x):∀ u:L8,runDg (u++x)=runDg u
 | []=>by rw [List.nil_append,run_zero (dm_dig h)];rfl
 | c :: t=>by
   rw [List.cons_append,runDg_cons,runDg_cons,runDg_dm h t]
theorem runLo_dm {x:L8} (h:dm x):∀ u:L8,runLo (u++x)=runLo u
 | []=>by
   rcases h with rfl|⟨c,t,rfl,h⟩
   ·rfl
   ·unfold runLo;rw [List.nil_append,List.takeWhile_cons];have:isLo c=false:=by rcases dm_c h with rfl|rfl|rfl|rfl|rfl|rfl|rfl <;> decide
    rw [this];rfl
 | c :: t=>by
   have ih:=runLo_dm h t;unfold runLo at ih ⊢;rw [List.cons_append,List.takeWhile_cons,List.takeWhile_cons];split
   ·simp [ih]
   ·rfl
theorem numL_dm {x:L8} (h:dm x) (u:L8):numL (u++x)=numL u:=by
 have cI:∀ v:L8,isS (v++x) [45]=isS v [45]:=fun v=>isS_dm h v (by rintro c (rfl|rfl|rfl|rfl|rfl|rfl|rfl) <;> decide)
 have c0:∀ v:L8,isS (v++x) [48]=isS v [48]:=fun v=>isS_dm h v (by rintro c (rfl|rfl|rfl|rfl|rfl|rfl|rfl) <;> decide)
 have cF:∀ v:L8,isS (v++x) [46]=isS v [46]:=fun v=>isS_dm h v (by rintro c (rfl|rfl|rfl|rfl|rfl|rfl|rfl) <;> decide)
 have cE:∀ v:L8,isS (v++x) [101,69]=isS v [101,69]:=fun v=>isS_dm h v (by rintro c (rfl|rfl|rfl|rfl|rfl|rfl|rfl) <;> decide)
 have cS:∀ v:L8,isS (v++x) [43,45]=isS v [43,45]:=fun v=>isS_dm h v (by rintro c (rfl|rfl|rfl|rfl|rfl|rfl|rfl) <;> decide)
 have cX:∀ v:L8,isS (v++x) [43,45,46,101,69]=isS v [43,45,46,101,69]:=fun v=>isS_dm h v (by rintro c (rfl|rfl|rfl|rfl|rfl|rfl|rfl) <;> decide)
 have eI:nI (u++x)=nI u:=by unfold nI;rw [cI]
 have eD:∀ v:L8,nD (v++x)=nD v:=fun v=>by unfold nD;rw [c0,digS_dm h,runDg_dm h]
 have eF:∀ v:L8,nF (v++x)=nF v:=fun v=>by
  unfold nF;rw [cF];by_cases q:isS v [46]=true
  ·rw [if_pos q,if_pos q,drop_app x (isS_le q),digS_dm h,runDg_dm h]
  ·rw [if_neg q,if_neg q]
 have eS:∀ v:L8,nS (v++x)=nS v:=fun v=>by unfold nS;rw [cS]
 have eE:∀ v:L8,nE (v++x)=nE v:=fun v=>by
  unfold nE;rw [cE];by_cases q:isS v [101,69]=true
  ·have l1:=isS_le q;rw [if_pos q,if_pos q,drop_app x l1,eS];have l2:1+nS (v.drop 1)≤v.length:=by
    unfold nS;split
    ·next q2=>have:=isS_le q2;rw [List.length_drop] at this;omega
    ·omega
   rw [drop_app x l2,digS_dm h,runDg_dm h]
  ·rw [if_neg q,if_neg q]
 have eX:∀ v:L8,nX (v++x)=nX v:=fun v=>by unfold nX;rw [digS_dm h,cX]
 have l0:=nI_le u;unfold numL;rw [eI,drop_app x l0,eD];cases hD:nD (u.drop (nI u)) with
 | none=>rfl
 | some d=>
   have l1:=nD_le hD;rw [List.length_drop] at l1;simp only;rw [drop_app x (by omega),eF];cases hF:nF (u.drop (nI u+d)) with
   | none=>rfl
   | some f=>
     have l2:=nF_le hF;rw [List.length_drop] at l2;simp only;rw [drop_app x (by omega),eE];cases hE:nE (u.drop (nI u+d+f)) with
     | none=>rfl
     | some e=>
       have l3:=nE_le hE;rw [List.length_drop] at l3;simp only;rw [drop_app x (by omega),eX]
theorem lexS_dm {u x:L8} (hx:dm x) (hu:u≠[]) {r:Nat × L8 × Nat} (h:lexS u=some r):lexS (u++x)=some r∧r.2.2≤u.length∧r.1≠0:=by
 cases u with
 | nil=>exact absurd rfl hu
 | cons c t=>
   simp only [lexS,List.cons_append] at h ⊢;by_cases a1:sgL.contains c=true
   ·rw [if_pos a1] at h ⊢;injection h with h;subst h;refine ⟨rfl,by simp,?_⟩;have:=List.contains_iff_mem.1 a1;unfold sgL at this;simp at this;rcases this with rfl|rfl|rfl|rfl|rfl|rfl <;> decide
   rw [if_neg a1] at h ⊢;by_cases a2:c.toNat=34
   ·rw [if_pos a2] at h ⊢;cases hs:strS t with
    | none=>rw [hs] at h;cases h
    | some q=>
      rw [hs] at h;rw [strS_app x hs];injection h with h;subst h;have:=strS_len hs;exact ⟨rfl,by simp;omega,by simp⟩
   rw [if_neg a2] at h ⊢;by_cases a3:(isDg c||decide (c.toNat=45))=true
   ·rw [if_pos a3] at h ⊢;rw [show c :: (t++x)=(c :: t)++x from rfl,numL_dm hx];cases hm:numL (c :: t) with
    | none=>rw [hm] at h;cases h
    | some m=>
      rw [hm] at h;have l:=(numL_le hm).2;injection h with h;subst h;refine ⟨by simp only;rw [List.take_append_of_le_length l],l,by simp⟩
   rw [if_neg a3] at h ⊢;by_cases a4:isLo c=true
   ·rw [if_pos a4] at h ⊢;have l:=runLo_le (c :: t);rw [show c :: (t++x)=(c :: t)++x from rfl,runLo_dm hx,List.take_append_of_le_length l];split at h
    ·cases h
    ·next q=>
     rw [if_neg q];injection h with h;subst h;exact ⟨rfl,l,q⟩
   ·rw [if_neg a4] at h;cases h
set_option maxHeartbeats 1000000 in
theorem cut_char {u:L8} (hu:u≠[]) (h:chW u≠0) (h0:128≤(u.getD 0 0).toNat):chW (u.take (chW u))=chW u ∧ ∀ b∈u.take (chW u),128≤b.toNat:=by
 have hd:=h;rw [Ne,chW_zero,Lib.decodeL_N] at hd;have hw:chW u=(Lib.decodeL u).2:=by
  unfold chW at h ⊢;split at h
  ·exact absurd rfl h
  ·next q=>rw [if_neg q]
 have hle:=chW_le hu;rw [Lib.decodeL_N] at hw;rcases Lib.decodeN_shape u.length (u.getD 0 0).toNat (u.getD 1 0).toNat (u.getD 2 0).toNat (u.getD 3 0).toNat with q|q|q|q|q
 ·omega
 ·obtain ⟨q0,q1,q2,q3,q4⟩:=q;rw [q4] at hw hd;have e:chW u=2:=hw;rw [e,Lib.takeB u q1];constructor
  ·have:Lib.decodeL [u.getD 0 0,u.getD 1 0]=((u.getD 0 0).toNat % 32 * 64+(u.getD 1 0).toNat % 64,2):=by
    rw [Lib.decodeL_N];show Lib.decodeN 2 (u.getD 0 0).toNat (u.getD 1 0).toNat 0 0=_;unfold Lib.decodeN;rw [if_neg (by omega),if_pos ⟨q0,by omega,q2⟩,if_pos q3]
   unfold chW;rw [this];simp
  ·intro b hb;simp only [List.mem_cons,List.not_mem_nil,or_false] at hb;rcases hb with rfl|rfl <;> omega
 ·obtain ⟨q0,q1,q2,q3,q4,q5,q6⟩:=q;rw [q6] at hw hd;have e:chW u=3:=hw;rw [e,Lib.takeC u q1];constructor
  ·have:Lib.decodeL [u.getD 0 0,u.getD 1 0,u.getD 2 0]=((u.getD 0 0).toNat % 16 * 4096+(u.getD 1 0).toNat % 64 * 64+(u.getD 2 0).toNat % 64,3):=by
    rw [Lib.decodeL_N];show Lib.decodeN 3 (u.getD 0 0).toNat (u.getD 1 0).toNat (u.getD 2 0).toNat 0=_;unfold Lib.decodeN;rw [if_neg (by omega),if_neg (by omega),if_pos ⟨q0,⟨by omega,q2⟩,by omega,q3⟩,if_pos (by omega)]
   unfold chW;rw [this];simp
  ·intro b hb;simp only [List.mem_cons,List.not_mem_nil,or_false] at hb;rcases hb with rfl|rfl|rfl <;> omega
 ·obtain ⟨q0,q1,q2,q3,q4,q5,q6,q7⟩:=q;rw [q7] at hw hd;have e:chW u=4:=hw;rw [e,Lib.takeD u q1];constructor
  ·have:Lib.decodeL [u.getD 0 0,u.getD 1 0,u.getD 2 0,u.getD 3 0]=((u.getD 0 0).toNat % 8 * 262144+(u.getD 1 0).toNat % 64 * 4096+(u.getD 2 0).toNat % 64 * 64+(u.getD 3 0).toNat % 64,4):=by
    rw [Lib.decodeL_N];show Lib.decodeN 4 (u.getD 0 0).toNat (u.getD 1 0).toNat (u.getD 2 0).toNat (u.getD 3 0).toNat=_;unfold Lib.decodeN;rw [if_neg (by omega),if_neg (by omega),if_neg (by omega),if_pos ⟨q0,⟨by omega,q2⟩,⟨by omega,q3⟩,by omega,q4⟩,if_pos (by omega)]
   unfold chW;rw [this];simp
  ·intro b hb;simp only [List.mem_cons,List.not_mem_nil,or_false] at hb;rcases hb with rfl|rfl|rfl|rfl <;> omega
 ·exact absurd q hd
theorem valid_ch {u:L8} (hu:u≠[]) (h:Lib.validD u=true):chW u≠0∧Lib.validD (u.drop (chW u))=true:=by
 rw [Lib.validD_step u hu] at h;split at h
 ·cases h
 ·next q=>
  have hw:chW u=(Lib.decodeL u).2:=by unfold chW;rw [if_neg q]
  have:=Lib.decodeL_width u;rw [hw];exact ⟨by omega,h⟩
theorem flat_take:∀ (w:Nat) (s:L8) (qs:List L8),w≤s.length→qs.length=s.length→(∀ (i:Nat) (c:UInt8) (q:L8),i<w→s[i]? = some c→qs[i]? = some q→q=[c])→(qs.take w).flatten=s.take w
 | 0,_,_,_,_,_=>by simp
 | w+1,[],_,h,_,_=>by simp at h
 | w+1,c :: t,[],_,h,_=>by simp at h
 | w+1,c :: t,q :: qs,h,hl,hq=>by
   rw [List.take_succ_cons,List.take_succ_cons,List.flatten_cons,hq 0 c q (by omega) rfl rfl,flat_take w t qs (by simpa using h) (by simpa using hl) (fun i c q hi h1 h2=>hq (i+1) c q (by omega) (by simpa using h1) (by simpa using h2))];rfl
theorem valid_low {c:UInt8} {t:L8} (hc:c.toNat<128) (h:Lib.validD (c :: t)=true):Lib.validD t=true:=by rwa [Lib.validD_cons c t hc] at h
def Esc (c:UInt8) (q:L8):Prop:=(q=[c]∧32≤c.toNat∧c.toNat≠34∧c.toNat≠92) ∨ ∃ r,q=92 :: r∧r≠[] ∧ ∀ x,escS (r++x)=some ([c],r.length)
theorem chW_one {c:UInt8} (t:L8) (h:c.toNat<128):chW (c :: t)=1:=by
 unfold chW;rw [Lib.decodeL_ascii c t h];simp;omega
theorem strF_esc (x:L8) (E:UInt8→L8→Prop) (hE:∀ c q,E c q→(c.toNat<128→Esc c q)∧(128≤c.toNat→q=[c])) :
 ∀ (n:Nat) (s:L8) (qs:List L8),s.length≤n→qs.length=s.length→(∀ (i:Nat) (c:UInt8) (q:L8),s[i]? = some c→qs[i]? = some q→E c q)→Lib.validD s=true →
  ∀ (f:Nat) (out:L8) (i:Nat),qs.flatten.length<f→strF f (qs.flatten++34 :: x) out i=some (out++s,i+qs.flatten.length+1)
 | n,[],qs,_,hl,_,_,f,out,i,hf=>by
   have:qs=[]:=List.eq_nil_of_length_eq_zero hl;subst this;cases f with
   | zero=>simp at hf
   | succ f=>simp [strF]
 | 0,c :: t,_,hn,_,_,_,_,_,_,_=>by simp at hn
 | n+1,c :: t,[],_,hl,_,_,_,_,_,_=>by simp at hl
 | n+1,c :: t,q :: qs,hn,hl,hq,hv,f,out,i,hf=>by
   have hc:=hE c q (hq 0 c q rfl rfl);have hq':∀ (i:Nat) (c:UInt8) (q:L8),t[i]? = some c→qs[i]? = some q→E c q:=fun i c q h1 h2=>hq (i+1) c q (by simpa using h1) (by simpa using h2)
   have hlt:qs.length=t.length:=by simpa using hl
   have hnt:t.length≤n:=by simpa using hn
   cases f with
   | zero=>simp at hf
   | succ f=>
   by_cases h128:c.toNat<128
   ·have hvt:=valid_low h128 hv;rcases hc.1 h128 with ⟨rfl,g1,g2,g3⟩|⟨r,rfl,hr,g⟩
    ·have ih:=strF_esc x E hE n t qs hnt hlt hq' hvt f (out++[c]) (i+1) (by rw [List.flatten_cons,List.length_append] at hf;simp only [List.length_cons,List.length_nil] at hf;omega);rw [List.flatten_cons,List.singleton_append,List.cons_append];unfold strF;rw [if_neg g2,if_neg g3,if_neg (by omega),chW_one _ h128,if_neg (by decide)];show strF f (qs.flatten++34 :: x) (out++[c]) (i+1)=_;rw [ih];simp;omega
    ·have ih:=strF_esc x E hE n t qs hnt hlt hq' hvt f (out++[c]) (i+1+r.length) (by rw [List.flatten_cons,List.length_append] at hf;simp only [List.length_cons] at hf;omega);rw [List.flatten_cons,List.cons_append,List.cons_append,List.append_assoc];unfold strF;rw [if_neg (by decide),if_pos (by decide),g];simp only;rw [List.drop_left,ih];simp;omega
   ·have hne:(c :: t)≠[]:=by simp
    obtain ⟨w1,w2⟩:=valid_ch hne hv;obtain ⟨w3,w4⟩:=cut_char hne w1 (show 128≤c.toNat by omega);have wl:=chW_le hne;obtain ⟨w,hw⟩:∃ w,chW (c :: t)=w:=⟨_,rfl⟩;rw [hw] at w1 w2 w3 w4 wl;have hqw:∀ (i:Nat) (c':UInt8) (q':L8),i<w→(c :: t)[i]? = some c'→(q :: qs)[i]? = some q'→q'=[c']:=fun i c' q' hi h1 h2=>(hE c' q' (hq i c' q' h1 h2)).2 (w4 c' (List.mem_of_getElem? (i:=i) (by rw [List.getElem?_take_of_lt hi];exact h1)))
    have hft:=flat_take w (c :: t) (q :: qs) wl hl hqw;have hsp:(q :: qs).flatten=(c :: t).take w++((q :: qs).drop w).flatten:=by rw [← hft,← List.flatten_append,List.take_append_drop]
    have htl:((c :: t).take w).length=w:=by rw [List.length_take];omega
    have ih:=strF_esc x E hE n ((c :: t).drop w) ((q :: qs).drop w) (by rw [List.length_drop];simp at hn ⊢;omega) (by rw [List.length_drop,List.length_drop,hl])
     (fun j c' q' h1 h2=>hq (w+j) c' q' (by rwa [List.getElem?_drop] at h1) (by rwa [List.getElem?_drop] at h2)) w2 f (out++(c :: t).take w) (i+w) (by rw [hsp,List.length_append,htl] at hf;omega)
    have hne2:(c :: t).take w≠[]:=by intro e;rw [e] at htl;simp at htl;omega
    have hch:chW ((c :: t).take w++(((q :: qs).drop w).flatten++34 :: x))=w:=by rw [chW_app _ hne2 (by rw [w3];exact w1),w3]
    rw [hsp,List.append_assoc];have hcons:(c :: t).take w++(((q :: qs).drop w).flatten++34 :: x)=c :: (t.take (w - 1)++(((q :: qs).drop w).flatten++34 :: x)):=by
     obtain ⟨v,rfl⟩:∃ v,w=v+1:=⟨w - 1,by omega⟩;rfl
    rw [hcons];unfold strF;rw [if_neg (by omega),if_neg (by omega),if_neg (by omega),← hcons,hch,if_neg w1];rw [List.drop_append_of_le_length (by omega),List.take_append_of_le_length (by omega),List.drop_of_length_le (by omega),List.take_of_length_le (by omega),List.nil_append,ih];rw [List.append_assoc,List.take_append_drop];simp [htl];omega
theorem qB_is:∀ c:UInt8,(c.toNat<128→(qB c=[c]∧32≤c.toNat∧c.toNat≠34∧c.toNat≠92)∨(qB c=[92,(qB c).getD 1 0]∧escFrom.contains ((qB c).getD 1 0)=true∧escOf ((qB c).getD 1 0)=c)∨(qB c=[92,117,48,48,(qB c).getD 4 0,(qB c).getD 5 0]∧fourS 4 [48,48,(qB c).getD 4 0,(qB c).getD 5 0] 0=some c.toNat∧Lib.encodeRune (c.toNat:Int)=[c]))∧(128≤c.toNat→qB c=[c]):=fun c=>
 u8_all (fun c=>(c.toNat<128→(qB c=[c]∧32≤c.toNat∧c.toNat≠34∧c.toNat≠92)∨(qB c=[92,(qB c).getD 1 0]∧escFrom.contains ((qB c).getD 1 0)=true∧escOf ((qB c).getD 1 0)=c)∨(qB c=[92,117,48,48,(qB c).getD 4 0,(qB c).getD 5 0]∧fourS 4 [48,48,(qB c).getD 4 0,(qB c).getD 5 0] 0=some c.toNat∧Lib.encodeRune (c.toNat:Int)=[c]))∧(128≤c.toNat→qB c=[c])) (by decide +kernel) c
theorem low_rune:∀ c:UInt8,c.toNat<128→Lib.encodeRune (c.toNat:Int)=[c]:=fun c=>u8_all (fun c=>c.toNat<128→Lib.encodeRune (c.toNat:Int)=[c]) (by decide +kernel) c
theorem esc_u {c a b:UInt8} (hc:c.toNat<128) (h:fourS 4 [48,48,a,b] 0=some c.toNat):Esc c [92,117,48,48,a,b]:=by
 refine .inr ⟨[117,48,48,a,b],rfl,by simp,fun x=>?_⟩;unfold escS;rw [if_neg (show ¬ isS ([117,48,48,a,b]++x) escFrom=true by show ¬ escFrom.contains 117=true;decide),if_pos (show isS ([117,48,48,a,b]++x) [117]=true from rfl)];have h4:=(fourS_app x 4 _ _ _ h).2;rw [show ([117,48,48,a,b]++x).drop 1=[48,48,a,b]++x from rfl,h4];simp only;have e1:isHi c.toNat=false:=by unfold isHi;simp;omega
 have e2:isSur c.toNat=false:=by unfold isSur;simp;omega
 rw [e1,e2,low_rune c hc];rfl
theorem qB_esc (c:UInt8):(c.toNat<128→Esc c (qB c))∧(128≤c.toNat→qB c=[c]):=by
 obtain ⟨h1,h2⟩:=qB_is c;refine ⟨fun hc=>?_,h2⟩;rcases h1 hc with h|⟨e,g1,g2⟩|⟨e,g1,g2⟩
 ·exact .inl h
 ·rw [e];refine .inr ⟨[(qB c).getD 1 0],rfl,by simp,fun x=>?_⟩;unfold escS;rw [if_pos (show isS ([(qB c).getD 1 0]++x) escFrom=true from g1)];show some ([escOf ((qB c).getD 1 0)],1)=_;rw [g2];rfl
 ·rw [e];exact esc_u hc g1
theorem flatMap_flat (s:L8):s.flatMap qB=(s.map qB).flatten:=by rw [List.flatMap]
theorem strS_quote {s:L8} (h:Lib.validD s=true) (x:L8):strS (s.flatMap qB++34 :: x)=some (s,(s.flatMap qB).length+1):=by
 unfold strS;rw [flatMap_flat];have:=strF_esc x (fun c q=>q=qB c) (fun c q e=>by subst e;exact qB_esc c) s.length s (s.map qB) (Nat.le_refl _) (by simp) (fun i c q h1 h2=>by rw [List.getElem?_map,h1] at h2;injection h2 with h2;exact h2.symm) h (((s.map qB).flatten++34 :: x).length+1) [] 0 (by rw [List.length_append];omega);rw [this,List.nil_append,Nat.zero_add]
theorem lex_quote {s:L8} (h:Lib.validD s=true) (x:L8):lexS (quoteL s++x)=some (5,s,(quoteL s).length):=by
 unfold quoteL;show lexS (34 :: (s.flatMap qB++[34]++x))=_;simp only [lexS];rw [if_neg (by decide),if_pos (by decide),List.append_assoc,List.singleton_append,strS_quote h x];simp
theorem nb_next {c:UInt8} {t:L8} (hc:blL.contains c=false) {k d:Nat} {tx:L8} (h:lexS (c :: t)=some (k,tx,d)):nextS (c :: t)=.ok ⟨k,tx,c :: t,(c :: t).drop d⟩:=by
 unfold nextS;rw [blS_no hc,List.drop_zero,h]
theorem next_quote {s:L8} (h:Lib.validD s=true) (x:L8):nextS (quoteL s++x)=.ok ⟨5,s,quoteL s++x,x⟩:=by
 have e:=lex_quote h x;have h1:quoteL s++x=34 :: (s.flatMap qB++[34]++x):=rfl;rw [h1] at e ⊢;rw [nb_next (by decide) e];rw [← h1,List.drop_left]
theorem tok_dm {c:UInt8} {t x:L8} {k:Nat} {tx:L8} (hc:blL.contains c=false) (hx:dm x) (h:lexS (c :: t)=some (k,tx,(c :: t).length)):nextS ((c :: t)++x)=.ok ⟨k,tx,(c :: t)++x,x⟩:=by
 have h2:=(lexS_dm hx (by simp) h).1;rw [List.cons_append] at h2 ⊢;rw [nb_next hc h2];rw [← List.cons_append,List.drop_left]
theorem loop_kind:∀ (f kind shut dp:Nat) (T:Tk) (first:Bool) (t:L8) (ks:List L8) (vs:List JV) (k:Int) (t':L8) (ks':List L8) (vs':List JV) (T':Tk),loopF f kind shut dp T first t ks vs=.ok (.mk k t' ks' vs',T')→k=kind
 | 0,_,_,_,_,_,_,_,_,_,_,_,_,_,h=>by simp [loopF] at h
 | f+1,kind,shut,dp,T,first,t,ks,vs,k,t',ks',vs',T',h=>by
   unfold loopF at h;split at h
   ·obtain ⟨_,_,q⟩:=Got.bind_ok h;injection q with q;injection q with q _;injection q with q _ _ _;exact q.symm
   ·obtain ⟨T2,_,q⟩:=Got.bind_ok h;split at q
    ·obtain ⟨T3,_,q⟩:=Got.bind_ok q;obtain ⟨T4,_,q⟩:=Got.bind_ok q;obtain ⟨r,_,q⟩:=Got.bind_ok q;exact loop_kind f kind shut dp _ _ _ _ _ _ _ _ _ _ q
    ·obtain ⟨r,_,q⟩:=Got.bind_ok q;exact loop_kind f kind shut dp _ _ _ _ _ _ _ _ _ _ q
theorem many_kind {f kind shut dp:Nat} {t:L8} {T:Tk} {k:Int} {t':L8} {ks':List L8} {vs':List JV} {T':Tk} (h:manyF f kind shut dp t T=.ok (.mk k t' ks' vs',T')):k=kind:=by
 cases f with
 | zero=>simp [manyF] at h
 | succ f=>
   unfold manyF at h;split at h
   ·cases h
   ·obtain ⟨T1,_,q⟩:=Got.bind_ok h;exact loop_kind f kind shut dp _ _ _ _ _ _ _ _ _ _ q
theorem num_lex {t:L8} (h:numOk t=true):∃ c r,t=c :: r∧blL.contains c=false∧lexS t=some (4,t,t.length):=by
 unfold numOk at h;simp only [Bool.and_eq_true,decide_eq_true_eq] at h;have hp:=gotE_zero h.1;have hl:=numOk_len (t:=t) (by unfold numOk;simp [h.1,h.2]);obtain ⟨J,hJ⟩:∃ J,gotJ (parseS t)=J:=⟨_,rfl⟩;rw [hJ] at hp h;obtain ⟨k,t',ks,vs⟩:=J;have h2:=h.2;simp only [numIs,Bool.and_eq_true,decide_eq_true_eq] at h2;obtain ⟨rfl,rfl⟩:=h2;rw [parse_top hl] at hp;obtain ⟨T0,T1,h0,h1,hk⟩:=top_ok hp;have hv:T0.k=4∧T0.t=t':=by
  have hF:∃ f,3 * t'.length+4=f+1:=⟨_,rfl⟩;obtain ⟨f,hF⟩:=hF;rw [hF] at h1;unfold valF at h1;split at h1
  ·obtain ⟨T',_,q⟩:=Got.bind_ok h1;injection q with q;injection q with q _;injection q with q1 q2 _ _;exact ⟨by omega,q2⟩
  ·split at h1
   ·exfalso;have:=many_kind h1;omega
   ·split at h1
    ·exfalso;have:=many_kind h1;omega
    ·cases h1
 unfold nextS at h0;cases hx:lexS (t'.drop (blS t')) with
 | none=>rw [hx] at h0;cases h0
 | some r=>
   obtain ⟨k2,tx,d⟩:=r;rw [hx] at h0;injection h0 with h0;subst h0;simp only at hv;obtain ⟨hk4,hte⟩:=hv;rw [hk4,hte] at hx;clear hk hk4 hte h1;have hd:lexS (t'.drop (blS t'))=some (4,t',d):=hx;have hl4:d≤(t'.drop (blS t')).length∧t'.length≤d ∧ ∃ c r,t'.drop (blS t')=c :: r∧blL.contains c=false:=by
    obtain ⟨_,_,hsp⟩:=blS_split t';rcases hsp with e|⟨c,r,e,hc⟩
    ·rw [e] at hd;simp [lexS] at hd
    ·rw [e] at hd ⊢;simp only [lexS] at hd;split at hd
     ·next hs=>
      injection hd with hd;have:=List.contains_iff_mem.1 hs;unfold sgL at this;simp at this;rcases this with rfl|rfl|rfl|rfl|rfl|rfl <;> simp at hd
     ·split at hd
      ·split at hd
       ·cases hd
       ·simp at hd
      ·split at hd
       ·split at hd
        ·cases hd
        ·next m hm=>
         have:=numL_le hm;simp only [Option.some.injEq,Prod.mk.injEq,true_and] at hd;obtain ⟨h1,rfl⟩:=hd;have h3:=congrArg List.length h1;rw [List.length_take] at h3;exact ⟨this.2,by omega,c,r,rfl,hc⟩
       ·split at hd
        ·split at hd
         ·cases hd
         ·simp only [Option.some.injEq,Prod.mk.injEq] at hd;exfalso;rw [← hd.2.1] at e;simp at e
        ·cases hd
   obtain ⟨l1,l2,c,r,hc1,hc2⟩:=hl4;rw [List.length_drop] at l1;have hb:blS t'=0∨t'.length=0:=by omega
   rcases hb with hb|hb
   ·rw [hb,List.drop_zero] at hc1 hd;exact ⟨c,r,hc1,hc2,by rw [hd,show d=t'.length by omega]⟩
   ·have:t'=[]:=List.eq_nil_of_length_eq_zero hb;rw [this] at hc1;simp at hc1
def kndO (o:Bool):Nat:=if o then 7 else 6
def shtO (o:Bool):Nat:=if o then 125 else 93
def clsO (o:Bool):UInt8:=if o then 125 else 93
theorem cls_dm (o:Bool) (y:L8):dm (clsO o :: y):=.inr ⟨_,y,rfl,by cases o <;> simp [clsO]⟩
theorem cls_next (o:Bool) (y:L8):nextS (clsO o :: y)=.ok ⟨shtO o,[],clsO o :: y,y⟩:=by cases o <;> exact sign_next _ _ (by decide)
theorem rest_dm (o:Bool) (ks ts:List L8) (y:L8):dm (itT o false ks ts++clsO o :: y):=by
 cases ts with
 | nil=>exact cls_dm o y
 | cons t ts=>exact .inr ⟨44,_,rfl,.inr (.inl rfl)⟩
theorem sign_n {n:Nat} (c:UInt8) (t:L8) (h:sgL.contains c=true) (hn:c.toNat=n):nextS (c :: t)=.ok ⟨n,[],c :: t,t⟩:=hn ▸ sign_next c t h
theorem wantS_eq {sign:Nat} {T:Tk} (h:T.k=sign):wantS sign T=nextS T.s:=if_pos h
mutual
theorem val_pr:∀ (J:JV) (left dp:Nat) (x:L8) (Tr:Tk),dpJ left J=true→dp+left≤32→dm x→nextS x=.ok Tr → ∃ f0 T0,nextS (prJ J++x)=.ok T0 ∧ ∀ f,f0≤f→valF f dp T0=.ok (J,Tr)
 | .mk k t ks vs,left,dp,x,Tr,hd,hl,hx,hr=>by
   have leaf:∀ (n:Nat) (u:L8),1≤n→n≤5→(n:Int)=k→ks=[]→vs=[]→nextS (u++x)=.ok ⟨n,t,u++x,x⟩→prJ (.mk k t ks vs)=u → ∃ f0 T0,nextS (prJ (.mk k t ks vs)++x)=.ok T0 ∧ ∀ f,f0≤f→valF f dp T0=.ok (.mk k t ks vs,Tr):=by
    intro n u h1 h2 h3 h4 h5 h6 h7;subst h3 h4 h5;refine ⟨1,_,by rw [h7];exact h6,fun f hf=>?_⟩;obtain ⟨g,rfl⟩:∃ g,f=g+1:=⟨f - 1,by omega⟩;unfold valF;rw [if_pos ⟨h1,h2⟩];show (nextS x).bind _=_;rw [hr];rfl
   unfold dpJ at hd;by_cases k123:k=1∨k=2∨k=3
   ·rw [if_pos k123] at hd;simp only [Bool.and_eq_true,decide_eq_true_eq] at hd;obtain ⟨rfl,h1,h2⟩:=hd;have h1:=List.eq_nil_of_length_eq_zero h1;have h2:=List.eq_nil_of_length_eq_zero h2;rcases k123 with rfl|rfl|rfl
    ·exact leaf 1 [110,117,108,108] (by decide) (by decide) rfl h1 h2 (tok_dm (by decide) hx (by decide +kernel)) (by simp [prJ])
    ·exact leaf 2 [102,97,108,115,101] (by decide) (by decide) rfl h1 h2 (tok_dm (by decide) hx (by decide +kernel)) (by simp [prJ])
    ·exact leaf 3 [116,114,117,101] (by decide) (by decide) rfl h1 h2 (tok_dm (by decide) hx (by decide +kernel)) (by simp [prJ])
   rw [if_neg k123] at hd;by_cases k4:k=4
   ·rw [if_pos k4] at hd;simp only [Bool.and_eq_true,decide_eq_true_eq] at hd;obtain ⟨hn,h1,h2⟩:=hd;have h1:=List.eq_nil_of_length_eq_zero h1;have h2:=List.eq_nil_of_length_eq_zero h2;subst k4;obtain ⟨c,r,e,hc,hx4⟩:=num_lex hn;refine leaf 4 t (by decide) (by decide) rfl h1 h2 ?_ (by simp [prJ]);rw [e] at hx4 ⊢;exact tok_dm hc hx hx4
   rw [if_neg k4] at hd;by_cases k5:k=5
   ·rw [if_pos k5] at hd;simp only [Bool.and_eq_true,decide_eq_true_eq] at hd;obtain ⟨hn,h1,h2⟩:=hd;have h1:=List.eq_nil_of_length_eq_zero h1;have h2:=List.eq_nil_of_length_eq_zero h2;subst k5;exact leaf 5 (quoteL t) (by decide) (by decide) rfl h1 h2 (next_quote hn x) (by simp [prJ])
   rw [if_neg k5] at hd;have list:∀ (o:Bool) (op:UInt8),op=(if o then 123 else 91)→k=kndO o→t=[]→0<left→dpL (left - 1) vs=true→ks.all Lib.validD=true→(o=true→ks.length=vs.length)→(o=false→ks=[]) →
    prJ (.mk k t ks vs)=op :: (itT o true ks (prL vs)++[clsO o]) → ∃ f0 T0,nextS (prJ (.mk k t ks vs)++x)=.ok T0 ∧ ∀ f,f0≤f→valF f dp T0=.ok (.mk k t ks vs,Tr):=by
    intro o op hop hko ht h0 hdl hka hkl hkn hpr;obtain ⟨f0,T1,g1,g2⟩:=items_pr vs o (left - 1) (dp+1) ks x Tr true t [] [] hdl hkl hka (by omega) hr;refine ⟨f0+2,⟨op.toNat,[],op :: (itT o true ks (prL vs)++clsO o :: x),itT o true ks (prL vs)++clsO o :: x⟩,?_,fun f hf=>?_⟩
    ·rw [hpr,List.cons_append,List.append_assoc,List.singleton_append];exact sign_next _ _ (by subst hop;cases o <;> decide)
    ·obtain ⟨g,rfl⟩:∃ g,f=g+2:=⟨f - 2,by omega⟩;have h2:=g2 g (by omega);have hm:manyF (g+1) (kndO o) (shtO o) (dp+1) [] ⟨op.toNat,[],op :: (itT o true ks (prL vs)++clsO o :: x),itT o true ks (prL vs)++clsO o :: x⟩=.ok (.mk k t ks vs,Tr):=by
      unfold manyF;rw [if_neg (by omega)];show (nextS (itT o true ks (prL vs)++clsO o :: x)).bind _=_;rw [g1];show loopF g (kndO o) (shtO o) (dp+1) T1 true [] [] []=_;rw [ht] at h2;rw [h2,hko,ht];simp only [List.nil_append];cases o
      ·rw [hkn rfl];rfl
      ·rfl
     unfold valF;subst hop;cases o
     ·rw [if_neg (by simp),if_pos (by rfl)];exact hm
     ·rw [if_neg (by simp),if_neg (by show ¬ (123:UInt8).toNat=91;decide),if_pos (by rfl)];exact hm
   by_cases k6:k=6
   ·rw [if_pos k6] at hd;simp only [Bool.and_eq_true,decide_eq_true_eq] at hd;obtain ⟨⟨⟨⟨h1,h2⟩,h3⟩,h4⟩,h5⟩:=hd;have h3:=List.eq_nil_of_length_eq_zero h3;exact list false 91 rfl k6 h1 h2 h5 h4 (fun h=>by cases h) (fun _=>h3) (by subst k6;simp [prJ,clsO])
   rw [if_neg k6] at hd;by_cases k7:k=7
   ·rw [if_pos k7] at hd;simp only [Bool.and_eq_true,decide_eq_true_eq] at hd;obtain ⟨⟨⟨⟨h1,h2⟩,h3⟩,h4⟩,h5⟩:=hd;exact list true 123 rfl k7 h1 h2 h5 h4 (fun _=>h3) (fun h=>by cases h) (by subst k7;simp [prJ,clsO])
   ·rw [if_neg k7] at hd;cases hd
theorem items_pr:∀ (vs:List JV) (o:Bool) (left dp:Nat) (ks:List L8) (y:L8) (Tr:Tk) (first:Bool) (t:L8) (ks0:List L8) (vs0:List JV),dpL left vs=true→(o=true→ks.length=vs.length)→ks.all Lib.validD=true→dp+left≤32→nextS y=.ok Tr →
 ∃ f0 T,nextS (itT o first ks (prL vs)++clsO o :: y)=.ok T ∧ ∀ f,f0≤f→loopF f (kndO o) (shtO o) dp T first t ks0 vs0=.ok (.mk (kndO o) t (ks0++(if o then ks else [])) (vs0++vs),Tr)
 | [],o,left,dp,ks,y,Tr,first,t,ks0,vs0,hd,hk,ha,hl,hr=>by
   refine ⟨1,_,cls_next o y,fun f hf=>?_⟩;obtain ⟨g,rfl⟩:∃ g,f=g+1:=⟨f - 1,by omega⟩;rw [loop_end (T:=⟨shtO o,[],clsO o :: y,y⟩) (shut:=shtO o) rfl];show (nextS y).bind _=_;rw [hr];have:(if o then ks else [])=[]:=by
    cases o
    ·rfl
    ·exact List.eq_nil_of_length_eq_zero (hk rfl)
   rw [this];simp [Got.bind]
 | v :: vs,o,left,dp,ks,y,Tr,first,t,ks0,vs0,hd,hk,ha,hl,hr=>by
   have hda:dpJ left v=true∧dpL left vs=true:=by
    unfold dpL at hd;simpa [Bool.and_eq_true] using hd
   have hat:ks.tail.all Lib.validD=true:=by
    cases ks with
    | nil=>rfl
    | cons k ks=>simp only [List.all_cons,Bool.and_eq_true] at ha;exact ha.2
   obtain ⟨f1,T5,g1,g2⟩:=items_pr vs o left dp ks.tail y Tr false t (ks0++(if o then [ks.headD []] else [])) (vs0++[v]) hda.2 (fun h=>by rw [List.length_tail,hk h];simp) hat hl hr;obtain ⟨Z,hZ⟩:∃ Z,itT o false ks.tail (prL vs)++clsO o :: y=Z:=⟨_,rfl⟩;have hdm:dm Z:=hZ ▸ rest_dm o ks.tail (prL vs) y;rw [hZ] at g1;obtain ⟨f2,T4,h1,h2⟩:=val_pr v left dp Z T5 hda.1 hl hdm g1;have hS:itT o first ks (prL (v :: vs))++clsO o :: y=(if first then [] else [44])++((if o then quoteL (ks.headD [])++[58] else [])++(prJ v++Z)):=by
    rw [← hZ];show itT o first ks (prJ v :: prL vs)++clsO o :: y=_
    rw [itT_cons];simp only [List.append_assoc]
   rw [hS];have key:∃ T2,nextS ((if o then quoteL (ks.headD [])++[58] else [])++(prJ v++Z))=.ok T2∧T2.k≠shtO o ∧ ∀ g,f1+f2≤g →
    (if kndO o=7 then (wantS 5 T2).bind fun T3=>(wantS 58 T3).bind fun T4=>(valF g dp T4).bind fun r=>loopF g (kndO o) (shtO o) dp r.2 false t (ks0++[T2.t]) (vs0++[r.1])
      else (valF g dp T2).bind fun r=>loopF g (kndO o) (shtO o) dp r.2 false t ks0 (vs0++[r.1]))=.ok (.mk (kndO o) t (ks0++(if o then ks else [])) (vs0++v :: vs),Tr):=by
    cases o
    ·refine ⟨T4,by simpa using h1,?_,fun g hg=>?_⟩
     ·exact (val_k (h2 f2 (Nat.le_refl _))).2
     ·rw [if_neg (by decide),h2 g (by omega)];have:=g2 g (by omega);simp only [Got.bind];simpa using this
    ·obtain ⟨hd0,tl,rfl⟩:∃ a b,ks=a :: b:=by
      cases ks with
      | nil=>have:=hk rfl;simp at this
      | cons k ks=>exact ⟨k,ks,rfl⟩
     have hv:Lib.validD hd0=true:=by simp only [List.all_cons,Bool.and_eq_true] at ha;exact ha.1
     have e1:=next_quote hv (58 :: (prJ v++Z));refine ⟨⟨5,hd0,quoteL hd0++58 :: (prJ v++Z),58 :: (prJ v++Z)⟩,?_,(show (5:Nat)≠125 by decide),fun g hg=>?_⟩
     ·show nextS ((quoteL hd0++[58])++(prJ v++Z))=_;rw [List.append_assoc];exact e1
     rw [if_pos (by rfl)];rw [(wantS_eq (T:=⟨5,hd0,quoteL hd0++58 :: (prJ v++Z),58 :: (prJ v++Z)⟩) rfl).trans (sign_n (n:=58) 58 (prJ v++Z) (by decide) (by decide))];simp only [Got.bind];rw [(wantS_eq (sign:=58) (T:=⟨58,[],58 :: (prJ v++Z),prJ v++Z⟩) rfl).trans h1];simp only;rw [h2 g (by omega)];simp only;have:=g2 g (by omega);simp only [if_true,List.headD_cons,List.tail_cons,List.append_assoc,List.singleton_append] at this ⊢;exact this
   obtain ⟨K,hK⟩:∃ K,(if o then quoteL (ks.headD [])++[58] else [])++(prJ v++Z)=K:=⟨_,rfl⟩;rw [hK] at key ⊢;obtain ⟨T2,e1,e2,e3⟩:=key;clear hK hS;cases first
   ·refine ⟨f1+f2+1,⟨44,[],44 :: K,K⟩,sign_n 44 K (by decide) (by decide),fun f hf=>?_⟩;obtain ⟨g,rfl⟩:∃ g,f=g+1:=⟨f - 1,by omega⟩;have hs:¬ (44:Nat)=shtO o:=by cases o <;> decide
    have w:wantS 44 ⟨44,[],44 :: K,K⟩=.ok T2:=(wantS_eq (T:=⟨44,[],44 :: K,K⟩) rfl).trans e1;unfold loopF;rw [if_neg (show ¬ (⟨44,[],44 :: K,K⟩:Tk).k=shtO o from hs)];simp only [Bool.false_eq_true,if_false];rw [w];exact e3 g (by omega)
   ·refine ⟨f1+f2+1,T2,e1,fun f hf=>?_⟩;obtain ⟨g,rfl⟩:∃ g,f=g+1:=⟨f - 1,by omega⟩;unfold loopF;rw [if_neg e2];simp only [if_true];exact e3 g (by omega)
end
theorem parse_pr {J:JV} (h:dpJ 32 J=true) (hl:(prJ J).length≤262144):parseS (prJ J)=.ok J:=by
 obtain ⟨f0,T0,h1,h2⟩:=val_pr J 32 0 [] ⟨0,[],[],[]⟩ h (by omega) (.inl rfl) rfl;rw [List.append_nil] at h1;rw [parse_top hl];unfold topS;rw [h1];show (valF _ 0 T0).bind _=_;have hW:=nextS_W h1;have hi:=valF_In (3 * (prJ J).length+4) 0 T0 (by omega);rw [← valF_mono _ (max f0 (3 * (prJ J).length+4)) 0 T0 hi (Nat.le_max_right _ _),h2 _ (Nat.le_max_left _ _)];rfl
end Go.Proofs.YtacinobmcgcccaaGreatDoor
/- A plan's value in memory, part by part; the bound of its text. -/
namespace Go.Proofs.YtacinobmcgcccaaGreatDoor
open Go.RowKit Go.Shelf
def VCell (w:World) (F:Nat→Prop) (J:JV) (b o:Nat):Prop:=∃ k t A1 n1 c1 A2 n2 c2,VRd w F J [.int .i64 k,.string t,.slice A1 n1 c1,.slice A2 n2 c2]∧w.cell? ⟨b,o,none⟩=some (.int .i64 k)∧w.cell? ⟨b,o+1,none⟩=some (.string t) ∧
 w.cell? ⟨b,o+2,none⟩=some (.slice A1 n1 c1)∧w.cell? ⟨b,o+3,none⟩=some (.slice A2 n2 c2)
theorem vrow {w:World} {F:Nat→Prop} {A:Option Addr} {n:Nat} {xs:List Value} {js:List JV} (h:ReadsF w F 4 A n xs) (hl:VRdL w F js xs) (hn:js.length=n) (h0:0<n) :
 ∃ b o,A=some ⟨b,o,none⟩∧F b ∧ ∀ i (hi:i<js.length),VCell w F js[i] b (o+i * 4):=by
 obtain ⟨ad,rfl,had,hc⟩:=h.2 h0;have hs:ad.spot=none:=by
  obtain ⟨cs,hJ,hx⟩:=VRdL.at_ js xs hl 0 (by omega);obtain ⟨k,t,A1,n1,c1,A2,n2,c2,rfl⟩:=hJ.four;exact spot_none (hc 0 _ (by have:=hx 0 (by omega);simpa using this))
 obtain ⟨b,o,s⟩:=ad;simp only at hs;subst hs;refine ⟨b,o,rfl,had,fun i hi=>?_⟩;obtain ⟨cs,hJ,hx⟩:=VRdL.at_ js xs hl i hi;obtain ⟨k,t,A1,n1,c1,A2,n2,c2,rfl⟩:=hJ.four;have ha:∀ j,(⟨b,o,none⟩:Addr).add j=⟨b,o+j,none⟩:=fun j=>(add_plain ⟨b,o,none⟩ j rfl).symm
 have g:∀ j u,j<4→([.int .i64 k,.string t,.slice A1 n1 c1,.slice A2 n2 c2]:List Value)[j]? = some u→w.cell? ⟨b,o+(i * 4+j),none⟩=some u:=fun j u hj hu=>by
  rw [← ha];exact hc _ _ ((hx j hj).trans hu)
 exact ⟨k,t,A1,n1,c1,A2,n2,c2,hJ,g 0 _ (by omega) rfl,g 1 _ (by omega) rfl,g 2 _ (by omega) rfl,g 3 _ (by omega) rfl⟩
theorem vkids {w:World} {F:Nat→Prop} {k k':Int} {t:L8} {t':ByteArray} {ks:List L8} {vs:List JV} {A1 A2:Option Addr} {n1 c1 n2 c2:Nat} (h:VRd w F (.mk k t ks vs) [.int .i64 k',.string t',.slice A1 n1 c1,.slice A2 n2 c2]) (h0:0<vs.length) :
 k'=k∧n2=vs.length∧n2≤c2 ∧ ∃ b o,A2=some ⟨b,o,none⟩∧F b ∧ ∀ i (hi:i<vs.length),VCell w F vs[i] b (o+i * 4):=by
 obtain ⟨A,c,A',c',xs,e,hc1,hr1,hc2,hr2,hl⟩:=h.mk';injection e with e1 e;injection e with e2 e;injection e with e3 e;injection e with e4 e;injection e1 with _ e1;injection e4 with e4 e5 e6;subst e4 e5 e6;obtain ⟨b,o,hA,hF,hk⟩:=vrow hr2 hl rfl h0;exact ⟨e1,rfl,hc2.1,b,o,hA,hF,hk⟩
structure FtM (w:World) (F:Nat→Prop) (x:Pc) (A2:Option Addr) (b4 o4 b5 o5 c5 b6 o6 c6 b7 o7 c7:Nat):Prop where
 a2:A2=some ⟨b4,o4,none⟩
 f4:F b4
 f5:F b5
 f6:F b6
 f7:F b7
 x4:w.cell? ⟨b4,o4+15,none⟩=some (.slice (some ⟨b5,o5,none⟩) 2 c5)
 x5:w.cell? ⟨b5,o5+7,none⟩=some (.slice (some ⟨b6,o6,none⟩) 1 c6)
 x6:w.cell? ⟨b6,o6+3,none⟩=some (.slice (some ⟨b7,o7,none⟩) (x.ring.length+1) c7)
 x7:∃ J,VCell w F J b7 o7∧VCell w F J b7 (o7+x.ring.length * 4)
theorem feat_mem {w:World} {F:Nat→Prop} {x:Pc} {k:Int} {t:ByteArray} {A1 A2:Option Addr} {n1 c1 n2 c2:Nat} (h:VRd w F (featJ x) [.int .i64 k,.string t,.slice A1 n1 c1,.slice A2 n2 c2]) (hr:0<x.ring.length) :
 k=7∧n2=4 ∧ ∃ b4 o4 b5 o5 c5 b6 o6 c6 b7 o7 c7,FtM w F x A2 b4 o4 b5 o5 c5 b6 o6 c6 b7 o7 c7:=by
 unfold featJ objJ at h;obtain ⟨hk,hn,_,b4,o4,hA,hF4,kk⟩:=vkids h (by simp);obtain ⟨k3,t3,B1,m1,d1,B2,m2,d2,hv3,_,_,_,x4⟩:=kk 3 (by simp);change VRd w F (polyJ x.ring) _ at hv3;unfold polyJ objJ at hv3;obtain ⟨_,hn3,_,b5,o5,hB,hF5,kk5⟩:=vkids hv3 (by simp);obtain ⟨k1,t1,C1,l1,e1,C2,l2,e2,hv1,_,_,_,x5⟩:=kk5 1 (by simp);change VRd w F (arrJ [arrJ ((x.ring++x.ring.take 1).map ptJ)]) _ at hv1;unfold arrJ at hv1;obtain ⟨_,hn1,_,b6,o6,hC,hF6,kk6⟩:=vkids hv1 (by simp);obtain ⟨k0,t0,D1,p1,f1,D2,p2,f2,hv0,_,_,_,x6⟩:=kk6 0 (by simp);change VRd w F (.mk 6 [] [] ((x.ring++x.ring.take 1).map ptJ)) _ at hv0;have hl:((x.ring++x.ring.take 1).map ptJ).length=x.ring.length+1:=by rw [List.length_map,List.length_append,List.length_take];omega
 obtain ⟨_,hn0,_,b7,o7,hD,hF7,kk7⟩:=vkids hv0 (by omega);rw [hl] at hn0;subst hB hC hD hn3 hn1 hn0;refine ⟨hk,hn,b4,o4,b5,o5,d2,b6,o6,e2,b7,o7,f2,hA,hF4,hF5,hF6,hF7,x4,x5,?_,ptJ (x.ring[0]),?_,?_⟩
 ·simpa using x6
 ·have:=kk7 0 (by omega);rw [List.getElem_map,List.getElem_append_left (by omega)] at this;simpa using this
 ·have:=kk7 x.ring.length (by omega);rw [List.getElem_map,List.getElem_append_right (by omega),List.getElem_take] at this;simpa using this
theorem plan_mem {w:World} {F:Nat→Prop} {outer:List Pt} {ps:List Pc} {k:Int} {t:ByteArray} {A1 A2:Option Addr} {n1 c1 n2 c2:Nat} (h:VRd w F (planJ outer ps) [.int .i64 k,.string t,.slice A1 n1 c1,.slice A2 n2 c2]) (hp:0<ps.length) :
 k=7∧n2=3 ∧ ∃ b1 o1 b3 o3 c3,A2=some ⟨b1,o1,none⟩∧F b1∧F b3∧w.cell? ⟨b1,o1+11,none⟩=some (.slice (some ⟨b3,o3,none⟩) ps.length c3) ∧ ∀ i (hi:i<ps.length),VCell w F (featJ ps[i]) b3 (o3+i * 4):=by
 unfold planJ objJ at h;obtain ⟨hk,hn,_,b1,o1,hA,hF1,kk⟩:=vkids h (by simp);obtain ⟨k2,t2,B1,m1,d1,B2,m2,d2,hv2,_,_,_,x2⟩:=kk 2 (by simp);change VRd w F (arrJ (ps.map featJ)) _ at hv2;unfold arrJ at hv2;obtain ⟨_,hn2,_,b3,o3,hB,hF3,kk3⟩:=vkids hv2 (by simpa using hp);rw [List.length_map] at hn2;subst hB hn2;refine ⟨hk,hn,b1,o1,b3,o3,d2,hA,hF1,hF3,x2,fun i hi=>?_⟩;have:=kk3 i (by simpa using hi)
 rwa [List.getElem_map] at this
theorem VCell.keep {w w':World} {B:Nat} {J:JV} {b o:Nat} (h:VCell w (fun j=>j<B) J b o) (hb:b<B) (hw:Below B w w'):VCell w' (fun j=>j<B) J b o:=by
 obtain ⟨k,t,A1,n1,c1,A2,n2,c2,h1,h2,h3,h4,h5⟩:=h;exact ⟨k,t,A1,n1,c1,A2,n2,c2,VRd.keep (fun j hj=>hw.block j hj) (fun _ h=>h) _ _ h1,(hw.cell (p:=⟨b,o,none⟩) hb).trans h2,(hw.cell (p:=⟨b,o+1,none⟩) hb).trans h3,(hw.cell (p:=⟨b,o+2,none⟩) hb).trans h4,(hw.cell (p:=⟨b,o+3,none⟩) hb).trans h5⟩
theorem FtM.keep {w w':World} {B:Nat} {x:Pc} {A2:Option Addr} {b4 o4 b5 o5 c5 b6 o6 c6 b7 o7 c7:Nat} (h:FtM w (fun j=>j<B) x A2 b4 o4 b5 o5 c5 b6 o6 c6 b7 o7 c7) (hw:Below B w w'):FtM w' (fun j=>j<B) x A2 b4 o4 b5 o5 c5 b6 o6 c6 b7 o7 c7:=by
 obtain ⟨a2,f4,f5,f6,f7,x4,x5,x6,J,j1,j2⟩:=h;exact ⟨a2,f4,f5,f6,f7,(hw.cell (p:=⟨b4,o4+15,none⟩) f4).trans x4,(hw.cell (p:=⟨b5,o5+7,none⟩) f5).trans x5,(hw.cell (p:=⟨b6,o6+3,none⟩) f6).trans x6,J,j1.keep f7 hw,j2.keep f7 hw⟩
theorem joinT_sum:∀ (b:Bool) (l:List L8),(joinT b l).length≤(l.map fun t=>t.length+1).sum
 | _,[]=>by simp [joinT]
 | b,t :: l=>by
   have h:=joinT_sum false l;have h3:(if b=true then ([]:L8) else [44]).length≤1:=by cases b <;> simp
   simp only [joinT,List.length_append,List.map_cons,List.sum_cons];omega
theorem polyT_len2 {r:List Pt} (h:goodAll r=true):(polyT r).length≤83+46 * r.length:=by
 have h1:=joinT_len true ((r++r.take 1).map ptT) 45 fun t ht=>by
  obtain ⟨p,hp,rfl⟩:=List.mem_map.1 ht;refine ptT_len ?_;rcases List.mem_append.1 hp with hp|hp
  ·exact good_mem h hp
  ·exact good_mem h (List.mem_of_mem_take hp)
 rw [List.length_map,List.length_append,List.length_take] at h1;unfold polyT;simp only [List.length_append,List.length_cons,List.length_nil,show polyH.length=34 from rfl];have h2:(r.length+min 1 r.length) * (45+1)≤(r.length+1) * 46:=Nat.mul_le_mul (by omega) (by omega);omega
theorem featT_len {x:Pc} (h:pcFine x):(featT x).length+1≤231+46 * x.ring.length:=by
 obtain ⟨h1,h2,h3⟩:=h;unfold idB at h3;simp only [Bool.and_eq_true,decide_eq_true_eq] at h3;have a1:=polyT_len2 h1;have a2:=quoteQ_len h2;have a3:=Lib.itoa_length_le x.id (by omega) (by omega);unfold featT;simp only [List.length_append,List.length_cons,List.length_nil,show featH.length=23 from rfl,show featP.length=23 from rfl,show featG.length=13 from rfl];omega
theorem feats_len:∀ {ps:List Pc},(∀ x∈ps,pcFine x)→((ps.map featT).map fun t=>t.length+1).sum≤231 * ps.length+46 * (ps.map fun x=>x.ring.length).sum
 | [],_=>by simp
 | x :: ps,h=>by
   have h1:=featT_len (h x (by simp));have h2:=feats_len (ps:=ps) fun y hy=>h y (by simp [hy])
   simp only [List.map_cons,List.sum_cons,List.length_cons];omega
theorem plan_short {outer:List Pt} {ps:List Pc} (h:goodAll outer=true) (hp:∀ x∈ps,pcFine x) (hn:ps.length≤80) (hs:outer.length+(ps.map fun x=>x.ring.length).sum≤300):(planT outer ps).length≤40000:=by
 have a1:=polyT_len2 h;have a2:=joinT_sum true (ps.map featT);have a3:=feats_len hp;unfold planT;simp only [List.length_append,List.length_cons,List.length_nil,show planH.length=40 from rfl,show planF.length=13 from rfl];omega
theorem few_short {P:PlV} {w:World} (hP:PlOk w w.heap.size P) (hf:fewB P.no (P.vs.map Pv.n)=true) (hpl:planB P.outer P.vs=true):(planT P.outer (P.vs.map Pv.pc)).length≤40000:=by
 have hs:=few_sound hf;have hfi:=plan_fine hpl;rw [List.length_map] at hs;refine plan_short hfi.1.1 hfi.2.2.2 (by rw [List.length_map];exact hs.1) ?_;have e:(P.vs.map Pv.pc).map (fun x=>x.ring.length)=P.vs.map Pv.n:=by
  rw [List.map_map];exact List.map_congr_left fun v hv=>(hP.ps.ok v hv).pr.1
 rw [e,hP.out.1];exact hs.2
theorem parse_plan {outer:List Pt} {vs:List Pv} (h:planB outer vs=true) (hl:(planT outer (vs.map Pv.pc)).length≤262144):parseS (planT outer (vs.map Pv.pc))=.ok (planJ outer (vs.map Pv.pc)):=by
 have hf:=plan_fine h;have hp:=pr_plan (outer:=outer) (ps:=vs.map Pv.pc) fun x hx=>(hf.2.2.2 x hx).2.1
 rw [← hp] at hl ⊢;exact parse_pr (dp_plan hf.1.1 hf.2.2.2) hl
end Go.Proofs.YtacinobmcgcccaaGreatDoor
