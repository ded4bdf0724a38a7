/- What stands behind a token changes it not. -/
import Derived.Test.YtacinobmcgcccaaGreatDoorL25
import Derived.Test.YtacinobmcgcccaaGreatDoorL05
import Derived.Lib.TrimUEq
import Derived.Lib.MapLaws
set_option linter.unusedSimpArgs false
set_option linter.unusedVariables false
namespace Go.Proofs.YtacinobmcgcccaaGreatDoor
open Go.RowKit
theorem decN_up {n n' b0 b1 b2 b3 c1 c2 c3:Nat} (hn:n≤n') (h1:1<n→c1=b1) (h2:2<n→c2=b2) (h3:3<n→c3=b3) (h:Lib.decodeN n b0 b1 b2 b3≠(65533,1)):Lib.decodeN n' b0 c1 c2 c3=Lib.decodeN n b0 b1 b2 b3:=by
 unfold Lib.decodeN at h ⊢;by_cases a0:b0<128
 ·rw [if_pos a0,if_pos a0]
 rw [if_neg a0] at h ⊢;rw [if_neg a0];by_cases a1:b0 / 32=6∧(1<n∧b1 / 64=2)
 ·rw [if_pos a1,if_pos ⟨a1.1,by omega,by rw [h1 a1.2.1];exact a1.2.2⟩,h1 a1.2.1]
 rw [if_neg a1] at h ⊢;by_cases a2:b0 / 16=14∧(1<n∧b1 / 64=2)∧(2<n∧b2 / 64=2)
 ·rw [if_pos a2,if_neg (by omega),if_pos ⟨a2.1,⟨by omega,by rw [h1 a2.2.1.1];exact a2.2.1.2⟩,by omega,by rw [h2 a2.2.2.1];exact a2.2.2.2⟩,h1 a2.2.1.1,h2 a2.2.2.1]
 rw [if_neg a2] at h ⊢;by_cases a3:b0 / 8=30∧(1<n∧b1 / 64=2)∧(2<n∧b2 / 64=2)∧(3<n∧b3 / 64=2)
 ·rw [if_pos a3,if_neg (by omega),if_neg (by omega),if_pos ⟨a3.1,⟨by omega,by rw [h1 a3.2.1.1];exact a3.2.1.2⟩,⟨by omega,by rw [h2 a3.2.2.1.1];exact a3.2.2.1.2⟩,by omega,by rw [h3 a3.2.2.2.1];exact a3.2.2.2.2⟩,h1 a3.2.1.1,h2 a3.2.2.1.1,h3 a3.2.2.2.1]
 ·rw [if_neg a3] at h;exact absurd rfl h
theorem chW_zero (s:L8):chW s=0 ↔ Lib.decodeL s=(65533,1):=by
 unfold chW;have:=(decodeL_max s).1;constructor
 ·intro h;split at h
  ·next e=>exact Prod.ext e.1 e.2
  ·omega
 ·intro h;rw [h];rfl
theorem chW_of {s s':L8} (h:Lib.decodeL s=Lib.decodeL s'):chW s=chW s':=by unfold chW;rw [h]
theorem getD_app {u x:L8} {i:Nat} (h:i<u.length):(u++x).getD i 0=u.getD i 0:=by
 rw [List.getD_eq_getElem?_getD,List.getD_eq_getElem?_getD,List.getElem?_append_left h]
def low (x:L8):Prop:=∀ c∈x,c.toNat<128
theorem chW_app {u:L8} (x:L8) (hu:u≠[]) (h:chW u≠0):chW (u++x)=chW u:=by
 have hl:0<u.length:=List.length_pos_iff.2 hu;apply chW_of;rw [Lib.decodeL_N,Lib.decodeL_N,getD_app hl];rw [Ne,chW_zero,Lib.decodeL_N] at h;exact decN_up (by simp) (fun q=>by rw [getD_app q]) (fun q=>by rw [getD_app q]) (fun q=>by rw [getD_app q]) h
theorem chW_le {u:L8} (hu:u≠[]):chW u≤u.length:=by
 have:=Lib.decodeL_le u hu;unfold chW;split <;> omega
theorem isS_app {u:L8} (x cs:L8) (hu:u≠[]):isS (u++x) cs=isS u cs:=by
 cases u with
 | nil=>exact absurd rfl hu
 | cons c t=>rfl
theorem drop_app {u:L8} (x:L8) {k:Nat} (h:k≤u.length):(u++x).drop k=u.drop k++x:=List.drop_append_of_le_length h
theorem fourS_app (x:L8):∀ (f:Nat) (u:L8) (m v:Nat),fourS f u m=some v→f≤u.length∧fourS f (u++x) m=some v
 | 0,u,m,v,h=>⟨Nat.zero_le _,by simpa [fourS] using h⟩
 | f+1,[],m,v,h=>by simp [fourS] at h
 | f+1,c :: u,m,v,h=>by
   unfold fourS at h;cases hc:hexV c with
   | none=>rw [hc] at h;cases h
   | some d=>
     rw [hc] at h;obtain ⟨a,b⟩:=fourS_app x f u _ v h;refine ⟨by simpa using a,?_⟩;show (match hexV c with|none=>none|some d=>fourS f (u++x) (m * 16+d))=some v;rw [hc];exact b
def blk_ (x:L8):Prop:=∀ c∈x,blL.contains c=true
theorem bl_c {c:UInt8} (h:blL.contains c=true):c=32∨c=9∨c=10∨c=13:=by
 have:=List.contains_iff_mem.1 h;unfold blL at this;simpa using this
theorem isS_ne {u cs:L8} (h:isS u cs=true):u≠[]:=by rintro rfl;cases h
theorem escS_app {u y:L8} {d:Nat} (x:L8) (h:escS u=some (y,d)):d≤u.length∧escS (u++x)=some (y,d):=by
 have hu:u≠[]:=by rintro rfl;simp [escS,isS] at h
 cases u with
 | nil=>exact absurd rfl hu
 | cons c t=>
   unfold escS at h ⊢;rw [isS_app x _ hu,isS_app x _ hu];by_cases a1:isS (c :: t) escFrom=true
   ·rw [if_pos a1] at h ⊢;simp at h;exact ⟨by simp;omega,by simpa using h⟩
   rw [if_neg a1] at h ⊢;by_cases a2:isS (c :: t) [117]=true
   ·rw [if_pos a2] at h ⊢;have e1:(c :: t).drop 1=t:=rfl;have e2:(c :: t++x).drop 1=t++x:=rfl;rw [e1] at h;rw [e2];cases hf:fourS 4 t 0 with
    | none=>rw [hf] at h;cases h
    | some v=>
      rw [hf] at h;obtain ⟨l4,f4⟩:=fourS_app x 4 t 0 v hf;rw [f4];simp only at h ⊢;have l5:5≤(c :: t).length:=by simp;omega
      by_cases a3:(isHi v&&isS ((c :: t).drop 5) [92]&&isS ((c :: t).drop 6) [117])=true
      ·have a3':=a3;simp only [Bool.and_eq_true] at a3';have n5:=isS_ne a3'.1.2;have n6:=isS_ne a3'.2;have l6:6<(c :: t).length:=by
        rcases Nat.lt_or_ge 6 (c :: t).length with q|q
        ·exact q
        ·exact absurd (List.drop_of_length_le q) n6
       have b3:(isHi v&&isS ((c :: t++x).drop 5) [92]&&isS ((c :: t++x).drop 6) [117])=true:=by
        rw [drop_app x (by omega),drop_app x (by omega),isS_app x _ n5,isS_app x _ n6];exact a3
       rw [if_pos a3] at h;rw [if_pos b3];cases hf2:fourS 4 ((c :: t).drop 7) 0 with
       | none=>rw [hf2] at h;cases h
       | some lw=>
         rw [hf2] at h;obtain ⟨l7,f7⟩:=fourS_app x 4 _ 0 lw hf2;rw [List.length_drop] at l7;rw [drop_app x (by omega),f7];simp only at h ⊢;split at h
         ·next q=>rw [if_pos q];simp at h;exact ⟨by omega,by simpa using h⟩
         ·cases h
      ·rw [if_neg a3] at h;split at h
       ·cases h
       ·next q=>
        have hh:isHi v=false:=by
         unfold isSur at q;unfold isHi;simp only [Bool.and_eq_true,decide_eq_true_eq,not_and] at q;rw [Bool.and_eq_false_iff];rcases Nat.lt_or_ge v 55296 with z|z
         ·exact .inl (by simpa using z)
         ·have:=q z;exact .inr (by simp;omega)
        rw [if_neg (by rw [hh];simp),if_neg q];simp at h;exact ⟨by omega,by simpa using h⟩
   ·rw [if_neg a2] at h;cases h
theorem strF_app (x:L8):∀ (f:Nat) (u o:L8) (d:Nat) (r:L8 × Nat),strF f u o d=some r → ∀ f',f≤f'→strF f' (u++x) o d=some r
 | 0,u,o,d,r,h,f',hf=>by simp [strF] at h
 | f+1,[],o,d,r,h,f',hf=>by simp [strF] at h
 | f+1,c :: t,o,d,r,h,f',hf=>by
   obtain ⟨g,rfl⟩:∃ g,f'=g+1:=⟨f' - 1,by omega⟩;simp only [strF,List.cons_append] at h ⊢;by_cases a1:c.toNat=34
   ·rw [if_pos a1] at h ⊢;exact h
   rw [if_neg a1] at h ⊢;by_cases a2:c.toNat=92
   ·rw [if_pos a2] at h ⊢;cases he:escS t with
    | none=>rw [he] at h;cases h
    | some yd=>
      obtain ⟨y,e⟩:=yd;rw [he] at h;obtain ⟨l1,h1⟩:=escS_app x he;rw [h1];simp only at h ⊢;rw [drop_app x l1];exact strF_app x f _ _ _ r h g (by omega)
   rw [if_neg a2] at h ⊢;by_cases a3:c.toNat<32
   ·rw [if_pos a3] at h;cases h
   rw [if_neg a3] at h ⊢;by_cases a4:chW (c :: t)=0
   ·rw [if_pos a4] at h;cases h
   rw [if_neg a4] at h;have e:chW (c :: (t++x))=chW (c :: t):=chW_app (u:=c :: t) x (by simp) a4;have l:chW (c :: t)≤(c :: t).length:=chW_le (by simp);rw [e,if_neg a4,show c :: (t++x)=(c :: t)++x from rfl,drop_app x l,List.take_append_of_le_length l];exact strF_app x f _ _ _ r h g (by omega)
theorem strF_len:∀ (f:Nat) (u o:L8) (d:Nat) (r:L8 × Nat),strF f u o d=some r→r.2≤d+u.length
 | 0,u,o,d,r,h=>by simp [strF] at h
 | f+1,[],o,d,r,h=>by simp [strF] at h
 | f+1,c :: t,o,d,r,h=>by
   simp only [strF] at h;split at h
   ·injection h with h;subst h;simp
   ·split at h
    ·cases he:escS t with
     | none=>rw [he] at h;cases h
     | some yd=>
       obtain ⟨y,e⟩:=yd;rw [he] at h;obtain ⟨l1,_⟩:=escS_app [] he;have:=strF_len f _ _ _ r h;rw [List.length_drop] at this;simp;omega
    ·split at h
     ·cases h
     ·split at h
      ·cases h
      ·have l:chW (c :: t)≤(c :: t).length:=chW_le (by simp);have:=strF_len f _ _ _ r h;rw [List.length_drop] at this;omega
theorem strS_app {u:L8} (x:L8) {r:L8 × Nat} (h:strS u=some r):strS (u++x)=some r:=strF_app x _ _ _ _ r h _ (by simp)
theorem strS_len {u:L8} {r:L8 × Nat} (h:strS u=some r):r.2≤u.length:=by have:=strF_len _ _ _ _ r h;omega
def dl (x:L8):Prop:=x=[] ∨ ∃ c t,x=c :: t∧(blL.contains c=true∨c=44∨c=93)
theorem dl_c {c:UInt8} (h:blL.contains c=true∨c=44∨c=93):c=32∨c=9∨c=10∨c=13∨c=44∨c=93:=by
 rcases h with h|h|h
 ·rcases bl_c h with h|h|h|h <;> simp [h]
 ·simp [h]
 ·simp [h]
theorem dl_is {x cs:L8} (h:dl x) (hc:∀ c:UInt8,(c=32∨c=9∨c=10∨c=13∨c=44∨c=93)→cs.contains c=false):isS x cs=false:=by
 rcases h with rfl|⟨c,t,rfl,h⟩
 ·rfl
 ·exact hc c (dl_c h)
theorem dl_dig {x:L8} (h:dl x):digS x=false:=by
 rcases h with rfl|⟨c,t,rfl,h⟩
 ·rfl
 ·show isDg c=false;rcases dl_c h with rfl|rfl|rfl|rfl|rfl|rfl <;> decide
theorem isS_dl {x cs:L8} (h:dl x) (u:L8) (hc:∀ c:UInt8,(c=32∨c=9∨c=10∨c=13∨c=44∨c=93)→cs.contains c=false):isS (u++x) cs=isS u cs:=by
 cases u with
 | nil=>rw [List.nil_append,dl_is h hc];rfl
 | cons c t=>rfl
theorem digS_dl {x:L8} (h:dl x) (u:L8):digS (u++x)=digS u:=by
 cases u with
 | nil=>rw [List.nil_append,dl_dig h];rfl
 | cons c t=>rfl
theorem runDg_dl {x:L8} (h:dl x):∀ u:L8,runDg (u++x)=runDg u
 | []=>by rw [List.nil_append,run_zero (dl_dig h)];rfl
 | c :: t=>by
   rw [List.cons_append,runDg_cons,runDg_cons,runDg_dl h t]
theorem runLo_dl {x:L8} (h:dl x):∀ u:L8,runLo (u++x)=runLo u
 | []=>by
   rcases h with rfl|⟨c,t,rfl,h⟩
   ·rfl
   ·unfold runLo;rw [List.nil_append,List.takeWhile_cons];have:isLo c=false:=by rcases dl_c h with rfl|rfl|rfl|rfl|rfl|rfl <;> decide
    rw [this];rfl
 | c :: t=>by
   have ih:=runLo_dl h t;unfold runLo at ih ⊢;rw [List.cons_append,List.takeWhile_cons,List.takeWhile_cons];split
   ·simp [ih]
   ·rfl
theorem numL_dl {x:L8} (h:dl x) (u:L8):numL (u++x)=numL u:=by
 have cI:∀ v:L8,isS (v++x) [45]=isS v [45]:=fun v=>isS_dl h v (by rintro c (rfl|rfl|rfl|rfl|rfl|rfl) <;> decide)
 have c0:∀ v:L8,isS (v++x) [48]=isS v [48]:=fun v=>isS_dl h v (by rintro c (rfl|rfl|rfl|rfl|rfl|rfl) <;> decide)
 have cF:∀ v:L8,isS (v++x) [46]=isS v [46]:=fun v=>isS_dl h v (by rintro c (rfl|rfl|rfl|rfl|rfl|rfl) <;> decide)
 have cE:∀ v:L8,isS (v++x) [101,69]=isS v [101,69]:=fun v=>isS_dl h v (by rintro c (rfl|rfl|rfl|rfl|rfl|rfl) <;> decide)
 have cS:∀ v:L8,isS (v++x) [43,45]=isS v [43,45]:=fun v=>isS_dl h v (by rintro c (rfl|rfl|rfl|rfl|rfl|rfl) <;> decide)
 have cX:∀ v:L8,isS (v++x) [43,45,46,101,69]=isS v [43,45,46,101,69]:=fun v=>isS_dl h v (by rintro c (rfl|rfl|rfl|rfl|rfl|rfl) <;> decide)
 have eI:nI (u++x)=nI u:=by unfold nI;rw [cI]
 have eD:∀ v:L8,nD (v++x)=nD v:=fun v=>by unfold nD;rw [c0,digS_dl h,runDg_dl h]
 have eF:∀ v:L8,nF (v++x)=nF v:=fun v=>by
  unfold nF;rw [cF];by_cases q:isS v [46]=true
  ·rw [if_pos q,if_pos q,drop_app x (isS_le q),digS_dl h,runDg_dl h]
  ·rw [if_neg q,if_neg q]
 have eS:∀ v:L8,nS (v++x)=nS v:=fun v=>by unfold nS;rw [cS]
 have eE:∀ v:L8,nE (v++x)=nE v:=fun v=>by
  unfold nE;rw [cE];by_cases q:isS v [101,69]=true
  ·have l1:=isS_le q;rw [if_pos q,if_pos q,drop_app x l1,eS];have l2:1+nS (v.drop 1)≤v.length:=by
    unfold nS;split
    ·next q2=>have:=isS_le q2;rw [List.length_drop] at this;omega
    ·omega
   rw [drop_app x l2,digS_dl h,runDg_dl h]
  ·rw [if_neg q,if_neg q]
 have eX:∀ v:L8,nX (v++x)=nX v:=fun v=>by unfold nX;rw [digS_dl h,cX]
 have l0:=nI_le u;unfold numL;rw [eI,drop_app x l0,eD];cases hD:nD (u.drop (nI u)) with
 | none=>rfl
 | some d=>
   have l1:=nD_le hD;rw [List.length_drop] at l1;simp only;rw [drop_app x (by omega),eF];cases hF:nF (u.drop (nI u+d)) with
   | none=>rfl
   | some f=>
     have l2:=nF_le hF;rw [List.length_drop] at l2;simp only;rw [drop_app x (by omega),eE];cases hE:nE (u.drop (nI u+d+f)) with
     | none=>rfl
     | some e=>
       have l3:=nE_le hE;rw [List.length_drop] at l3;simp only;rw [drop_app x (by omega),eX]
theorem lexS_app {u x:L8} (hx:dl x) (hu:u≠[]) {r:Nat × L8 × Nat} (h:lexS u=some r):lexS (u++x)=some r∧r.2.2≤u.length∧r.1≠0:=by
 cases u with
 | nil=>exact absurd rfl hu
 | cons c t=>
   simp only [lexS,List.cons_append] at h ⊢;by_cases a1:sgL.contains c=true
   ·rw [if_pos a1] at h ⊢;injection h with h;subst h;refine ⟨rfl,by simp,?_⟩;have:=List.contains_iff_mem.1 a1;unfold sgL at this;simp at this;rcases this with rfl|rfl|rfl|rfl|rfl|rfl <;> decide
   rw [if_neg a1] at h ⊢;by_cases a2:c.toNat=34
   ·rw [if_pos a2] at h ⊢;cases hs:strS t with
    | none=>rw [hs] at h;cases h
    | some q=>
      rw [hs] at h;rw [strS_app x hs];injection h with h;subst h;have:=strS_len hs;exact ⟨rfl,by simp;omega,by simp⟩
   rw [if_neg a2] at h ⊢;by_cases a3:(isDg c||decide (c.toNat=45))=true
   ·rw [if_pos a3] at h ⊢;rw [show c :: (t++x)=(c :: t)++x from rfl,numL_dl hx];cases hm:numL (c :: t) with
    | none=>rw [hm] at h;cases h
    | some m=>
      rw [hm] at h;have l:=(numL_le hm).2;injection h with h;subst h;refine ⟨by simp only;rw [List.take_append_of_le_length l],l,by simp⟩
   rw [if_neg a3] at h ⊢;by_cases a4:isLo c=true
   ·rw [if_pos a4] at h ⊢;have l:=runLo_le (c :: t);rw [show c :: (t++x)=(c :: t)++x from rfl,runLo_dl hx,List.take_append_of_le_length l];split at h
    ·cases h
    ·next q=>
     rw [if_neg q];injection h with h;subst h;exact ⟨rfl,l,q⟩
   ·rw [if_neg a4] at h;cases h
theorem blS_app (s:L8) (h:blk_ s) (u:L8):blS (s++u)=s.length+blS u:=by
 induction s with
 | nil=>simp
 | cons c t ih=>
   have hc:=h c (List.mem_cons_self ..);have:=ih (fun q hq=>h q (List.mem_cons_of_mem _ hq));unfold blS at this ⊢;rw [List.cons_append,List.takeWhile_cons,hc];simp;omega
theorem blS_split (u:L8):u=u.take (blS u)++u.drop (blS u)∧blk_ (u.take (blS u))∧(u.drop (blS u)=[] ∨ ∃ c t,u.drop (blS u)=c :: t∧blL.contains c=false):=by
 induction u with
 | nil=>exact ⟨rfl,(fun c hc=>by simp at hc),.inl rfl⟩
 | cons c t ih=>
   by_cases hc:blL.contains c=true
   ·have e:blS (c :: t)=blS t+1:=by unfold blS;rw [List.takeWhile_cons,hc];simp
    rw [e];refine ⟨by rw [List.take_succ_cons,List.drop_succ_cons,List.cons_append,← ih.1],fun q hq=>?_,by rw [List.drop_succ_cons];exact ih.2.2⟩;rw [List.take_succ_cons] at hq;rcases List.mem_cons.1 hq with rfl|hq
    ·exact hc
    ·exact ih.2.1 q hq
   ·have e:blS (c :: t)=0:=by unfold blS;rw [List.takeWhile_cons,if_neg hc];rfl
    rw [e];exact ⟨rfl,(fun q hq=>by simp at hq),.inr ⟨c,t,rfl,by simpa using hc⟩⟩
theorem next_bl (s:L8) (h:blk_ s) (u:L8):nextS (s++u)=nextS u:=by
 unfold nextS;rw [blS_app s h,show (s++u).drop (s.length+blS u)=u.drop (blS u) by rw [← List.drop_drop,List.drop_left]]
theorem blS_no {c:UInt8} {t:L8} (h:blL.contains c=false):blS (c :: t)=0:=by unfold blS;rw [List.takeWhile_cons,h];rfl
theorem next_app {u x:L8} (hx:dl x) {T:Tk} (h:nextS u=.ok T):(T.k≠0∧nextS (u++x)=.ok ⟨T.k,T.t,T.ts++x,T.s++x⟩)∨(T.k=0∧nextS (u++x)=nextS x):=by
 obtain ⟨e1,e2,e3⟩:=blS_split u;have hs:nextS (u++x)=nextS (u.drop (blS u)++x):=by
  conv=>lhs;rw [e1,List.append_assoc]
  exact next_bl _ e2 _
 unfold nextS at h;rcases e3 with e3|⟨c,t,e3,hc⟩
 ·rw [e3] at h hs;have:T=⟨0,[],[],[]⟩:=by simpa [lexS] using h.symm
  exact .inr ⟨by rw [this],by rw [hs,List.nil_append]⟩
 ·rw [e3] at h hs;rw [hs];cases hl:lexS (c :: t) with
  | none=>rw [hl] at h;cases h
  | some r=>
    obtain ⟨k,tx,d⟩:=r;rw [hl] at h;injection h with h;subst h;obtain ⟨h1,h2,h3⟩:=lexS_app hx (by simp) hl;refine .inl ⟨h3,?_⟩;unfold nextS;rw [List.cons_append,blS_no hc,List.drop_zero,← List.cons_append,h1];simp only;rw [drop_app x h2]
def Ext (x:L8) (T T':Tk):Prop:=(T.k≠0∧T'=⟨T.k,T.t,T.ts++x,T.s++x⟩)∨(T.k=0∧nextS x=.ok T')
theorem next_ext {u x:L8} (hx:dl x) (hR:∃ Tr,nextS x=.ok Tr) {T:Tk} (h:nextS u=.ok T):∃ T',nextS (u++x)=.ok T'∧Ext x T T':=by
 rcases next_app hx h with ⟨h1,h2⟩|⟨h1,h2⟩
 ·exact ⟨_,h2,.inl ⟨h1,rfl⟩⟩
 ·obtain ⟨Tr,hr⟩:=hR;exact ⟨Tr,h2.trans hr,.inr ⟨h1,hr⟩⟩
theorem want_ext {sign:Nat} {x:L8} (hx:dl x) (hR:∃ Tr,nextS x=.ok Tr) (h0:sign≠0) {T T' T1:Tk} (hT:Ext x T T') (h:wantS sign T=.ok T1):∃ T1',wantS sign T'=.ok T1'∧Ext x T1 T1':=by
 unfold wantS at h;split at h
 ·next hk=>
  rcases hT with ⟨_,rfl⟩|⟨e,_⟩
  ·obtain ⟨T1',h1,h2⟩:=next_ext hx hR h;exact ⟨T1',by unfold wantS;rw [if_pos hk];exact h1,h2⟩
  ·omega
 ·cases h
section
variable {x:L8} (hx:dl x) (hR:∃ Tr,nextS x=.ok Tr) (δ:Nat)
def OkO (x:L8) (δ:Nat) (J:JV) (T1:Tk) (g:Got (JV × Tk)):Prop:=(∃ T1',g=.ok (J,T1')∧Ext x T1 T1')∨(0<δ ∧ ∃ p,g=.bad p 12)
include hx hR in
mutual
theorem valF_ext:∀ (f dp:Nat) (T T':Tk) (J:JV) (T1:Tk),Ext x T T'→valF f dp T=.ok (J,T1)→OkO x δ J T1 (valF f (dp+δ) T')
 | 0,_,_,_,_,_,_,h=>by simp [valF] at h
 | f+1,dp,T,T',J,T1,hT,h=>by
   unfold valF at h;rcases hT with ⟨hk0,rfl⟩|⟨e,_⟩
   ·unfold valF;dsimp only;by_cases a1:1≤T.k∧T.k≤5
    ·rw [if_pos a1] at h ⊢;obtain ⟨T2,h1,h2⟩:=Got.bind_ok h;injection h2 with h2;injection h2 with e1 e2;subst e1 e2;obtain ⟨T2',h3,h4⟩:=next_ext hx hR h1;rw [h3];exact .inl ⟨T2',rfl,h4⟩
    rw [if_neg a1] at h ⊢;by_cases a2:T.k=91
    ·rw [if_pos a2] at h ⊢;have:=manyF_ext f 6 93 (dp+1) T.t T _ J T1 (by omega) hk0 (.inl ⟨hk0,rfl⟩) h;rw [show dp+δ+1=dp+1+δ by omega];exact this
    rw [if_neg a2] at h ⊢;by_cases a3:T.k=123
    ·rw [if_pos a3] at h ⊢;have:=manyF_ext f 7 125 (dp+1) T.t T _ J T1 (by omega) hk0 (.inl ⟨hk0,rfl⟩) h;rw [show dp+δ+1=dp+1+δ by omega];exact this
    ·rw [if_neg a3] at h;cases h
   ·rw [if_neg (by omega),if_neg (by omega),if_neg (by omega)] at h;cases h
theorem manyF_ext:∀ (f kind shut dp:Nat) (t:L8) (T T':Tk) (J:JV) (T1:Tk),shut≠0→T.k≠0→Ext x T T'→manyF f kind shut dp t T=.ok (J,T1)→OkO x δ J T1 (manyF f kind shut (dp+δ) t T')
 | 0,_,_,_,_,_,_,_,_,_,_,_,h=>by simp [manyF] at h
 | f+1,kind,shut,dp,t,T,T',J,T1,hs0,hk,hT,h=>by
   rcases hT with ⟨_,rfl⟩|⟨e,_⟩
   ·unfold manyF at h ⊢;split at h
    ·cases h
    ·next hd=>
     obtain ⟨T2,h1,h2⟩:=Got.bind_ok h;by_cases hd':32<dp+δ
     ·rw [if_pos hd'];exact .inr ⟨by omega,_,rfl⟩
     ·rw [if_neg hd'];obtain ⟨T2',h3,h4⟩:=next_ext hx hR h1;dsimp only;rw [h3];exact loopF_ext f kind shut dp T2 T2' true t [] [] J T1 hs0 h4 h2
   ·exact absurd e hk
theorem loopF_ext:∀ (f kind shut dp:Nat) (T T':Tk) (first:Bool) (t:L8) (ks:List L8) (vs:List JV) (J:JV) (T1:Tk),shut≠0→Ext x T T'→loopF f kind shut dp T first t ks vs=.ok (J,T1)→OkO x δ J T1 (loopF f kind shut (dp+δ) T' first t ks vs)
 | 0,_,_,_,_,_,_,_,_,_,_,_,_,_,h=>by simp [loopF] at h
 | f+1,kind,shut,dp,T,T',first,t,ks,vs,J,T1,hs0,hT,h=>by
   unfold loopF at h;by_cases a1:T.k=shut
   ·rw [if_pos a1] at h;rcases hT with ⟨_,rfl⟩|⟨e,_⟩
    ·obtain ⟨T2,h1,h2⟩:=Got.bind_ok h;injection h2 with h2;injection h2 with e1 e2;subst e1 e2;obtain ⟨T2',h3,h4⟩:=next_ext hx hR h1;unfold loopF;rw [if_pos (by exact a1)];dsimp only;rw [h3];exact .inl ⟨T2',rfl,h4⟩
    ·omega
   rw [if_neg a1] at h;obtain ⟨T2,h1,h2⟩:=Got.bind_ok h
   -- the token behind the comma
   have hstep:T.k≠0 → ∃ T2',T'.k≠shut∧(if first then Got.ok T' else wantS 44 T')=.ok T2'∧Ext x T2 T2':=fun hk=>by
    have hT':=hT;rcases hT' with ⟨_,rfl⟩|⟨e,_⟩
    ·cases first
     ·obtain ⟨T2',g1,g2⟩:=want_ext hx hR (by decide) hT h1;exact ⟨T2',a1,g1,g2⟩
     ·injection h1 with h1;subst h1;exact ⟨_,a1,rfl,hT⟩
    ·exact absurd e hk
   by_cases hk:T.k=0
   ·-- the end: nothing is read
    exfalso;cases first
    ·have h1':wantS 44 T=.ok T2:=h1;unfold wantS at h1';rw [if_neg (by omega)] at h1';cases h1'
    ·injection h1 with h1;subst h1;split at h2
     ·obtain ⟨T3,h3,h2⟩:=Got.bind_ok h2;unfold wantS at h3;rw [if_neg (by omega)] at h3;cases h3
     ·obtain ⟨v,h5,h2⟩:=Got.bind_ok h2;cases f with
      | zero=>simp [valF] at h5
      | succ f=>
        unfold valF at h5;rw [if_neg (by omega),if_neg (by omega),if_neg (by omega)] at h5;cases h5
   ·obtain ⟨T2',g0,g1,g2⟩:=hstep hk;have key:∀ (T4 T4':Tk) (ks':List L8) (r:JV × Tk),Ext x T4 T4'→valF f dp T4=.ok r→loopF f kind shut dp r.2 false t ks' (vs++[r.1])=.ok (J,T1) →
     OkO x δ J T1 ((valF f (dp+δ) T4').bind fun r=>loopF f kind shut (dp+δ) r.2 false t ks' (vs++[r.1])):=fun T4 T4' ks' r q1 q2 q3=>by
     obtain ⟨Jv,Tv⟩:=r;rcases valF_ext f dp T4 T4' Jv Tv q1 q2 with ⟨Tv',z1,z2⟩|⟨z0,p,z1⟩
     ·rw [z1];exact loopF_ext f kind shut dp Tv Tv' false t ks' _ J T1 hs0 z2 q3
     ·rw [z1];exact .inr ⟨z0,p,rfl⟩
    have kk:T2'.t=T2.t∨kind≠7:=by
     rcases g2 with ⟨_,rfl⟩|⟨e,_⟩
     ·exact .inl rfl
     ·by_cases h7:kind=7
      ·rw [if_pos h7] at h2;obtain ⟨T3,h3,h2⟩:=Got.bind_ok h2;unfold wantS at h3;rw [if_neg (by omega)] at h3;cases h3
      ·exact .inr h7
    unfold loopF;rw [if_neg g0,g1];simp only [Got.bind];by_cases h7:kind=7
    ·rw [if_pos h7] at h2 ⊢;obtain ⟨T3,h3,h2⟩:=Got.bind_ok h2;obtain ⟨T4,h4,h2⟩:=Got.bind_ok h2;obtain ⟨v,h5,h2⟩:=Got.bind_ok h2;obtain ⟨T3',g3,e3⟩:=want_ext hx hR (by decide) g2 h3;obtain ⟨T4',g4,e4⟩:=want_ext hx hR (by decide) e3 h4;rw [g3];simp only [Got.bind];rw [g4];rcases kk with kk|kk
     ·rw [kk];exact key T4 T4' _ v e4 h5 h2
     ·exact absurd h7 kk
    ·rw [if_neg h7] at h2 ⊢;obtain ⟨v,h5,h2⟩:=Got.bind_ok h2;exact key T2 T2' _ v g2 h5 h2
end
end
section
variable {x:L8} (hx:blk_ x)
include hx in
end
mutual
theorem valF_mono:∀ (f f' dp:Nat) (T:Tk),(valF f dp T).In→f≤f'→valF f' dp T=valF f dp T
 | 0,_,_,_,h,_=>(h [] (by simp [valF])).elim
 | f+1,f',dp,T,h,hf=>by
   obtain ⟨g,rfl⟩:∃ g,f'=g+1:=⟨f' - 1,by omega⟩;unfold valF at h ⊢;by_cases a1:1≤T.k∧T.k≤5
   ·rw [if_pos a1,if_pos a1]
   rw [if_neg a1] at h;rw [if_neg a1,if_neg a1];by_cases a2:T.k=91
   ·rw [if_pos a2] at h;rw [if_pos a2,if_pos a2];exact manyF_mono f g 6 93 (dp+1) T.t T h (by omega)
   rw [if_neg a2] at h;rw [if_neg a2,if_neg a2];by_cases a3:T.k=123
   ·rw [if_pos a3] at h;rw [if_pos a3,if_pos a3];exact manyF_mono f g 7 125 (dp+1) T.t T h (by omega)
   ·rw [if_neg a3,if_neg a3]
theorem manyF_mono:∀ (f f' kind shut dp:Nat) (t:L8) (T:Tk),(manyF f kind shut dp t T).In→f≤f'→manyF f' kind shut dp t T=manyF f kind shut dp t T
 | 0,_,_,_,_,_,_,h,_=>(h [] (by simp [manyF])).elim
 | f+1,f',kind,shut,dp,t,T,h,hf=>by
   obtain ⟨g,rfl⟩:∃ g,f'=g+1:=⟨f' - 1,by omega⟩;unfold manyF at h ⊢;split
   ·rfl
   ·next hd=>
    rw [if_neg hd] at h;cases hn:nextS T.s with
    | bad p e=>rfl
    | ok T1=>
      rw [hn] at h;exact loopF_mono f g kind shut dp T1 true t [] [] h (by omega)
theorem loopF_mono:∀ (f f' kind shut dp:Nat) (T:Tk) (first:Bool) (t:L8) (ks:List L8) (vs:List JV),(loopF f kind shut dp T first t ks vs).In→f≤f'→loopF f' kind shut dp T first t ks vs=loopF f kind shut dp T first t ks vs
 | 0,_,_,_,_,_,_,_,_,_,h,_=>(h [] (by simp [loopF])).elim
 | f+1,f',kind,shut,dp,T,first,t,ks,vs,h,hf=>by
   obtain ⟨g,rfl⟩:∃ g,f'=g+1:=⟨f' - 1,by omega⟩;unfold loopF at h ⊢;by_cases a1:T.k=shut
   ·rw [if_pos a1,if_pos a1]
   rw [if_neg a1] at h;rw [if_neg a1,if_neg a1];have key:∀ (T4:Tk) (ks':List L8),((valF f dp T4).bind fun r=>loopF f kind shut dp r.2 false t ks' (vs++[r.1])).In →
    ((valF g dp T4).bind fun r=>loopF g kind shut dp r.2 false t ks' (vs++[r.1]))=((valF f dp T4).bind fun r=>loopF f kind shut dp r.2 false t ks' (vs++[r.1])):=fun T4 ks' q=>by
    rw [valF_mono f g dp T4 q.of_bind (by omega)];cases hv:valF f dp T4 with
    | bad p e=>rfl
    | ok r=>
      rw [hv] at q;exact loopF_mono f g kind shut dp r.2 false t ks' _ q (by omega)
   cases hg:(if first then Got.ok T else wantS 44 T) with
   | bad p e=>rfl
   | ok T2=>
     rw [hg] at h;simp only [Got.bind] at h ⊢;by_cases h7:kind=7
     ·rw [if_pos h7] at h;rw [if_pos h7,if_pos h7];cases h3:wantS 5 T2 with
      | bad p e=>rfl
      | ok T3=>
        rw [h3] at h;simp only [Got.bind] at h ⊢;cases h4:wantS 58 T3 with
        | bad p e=>rfl
        | ok T4=>
          rw [h4] at h;exact key T4 _ h
     ·rw [if_neg h7] at h;rw [if_neg h7,if_neg h7];exact key T2 _ h
end
def topS (F:Nat) (u:L8):Got JV:=(nextS u).bind fun T0=>(valF F 0 T0).bind fun r=>if r.2.k=0 then .ok r.1 else .bad r.2.ts 11
theorem parse_top {u:L8} (h:u.length≤262144):parseS u=topS (3 * u.length+4) u:=by unfold parseS;rw [if_neg (by omega)];rfl
theorem top_ok {u:L8} {F:Nat} {J:JV} (h:topS F u=.ok J):∃ T0 T1,nextS u=.ok T0∧valF F 0 T0=.ok (J,T1)∧T1.k=0:=by
 unfold topS at h;obtain ⟨T0,h0,h⟩:=Got.bind_ok h;obtain ⟨⟨J1,T1⟩,h1,h⟩:=Got.bind_ok h;dsimp only at h;split at h
 ·next hk=>
  injection h with h;subst h;exact ⟨T0,T1,h0,h1,hk⟩
 ·cases h
theorem val_k {F dp:Nat} {T:Tk} {r:JV × Tk} (h:valF F dp T=.ok r):T.k≠0∧T.k≠93:=by
 cases F with
 | zero=>simp [valF] at h
 | succ F=>
   unfold valF at h;refine ⟨fun e=>?_,fun e=>?_⟩
   ·rw [if_neg (by omega),if_neg (by omega),if_neg (by omega)] at h;cases h
   ·rw [if_neg (by omega),if_neg (by omega),if_neg (by omega)] at h;cases h
theorem sign_next (c:UInt8) (t:L8) (h:sgL.contains c=true):nextS (c :: t)=.ok ⟨c.toNat,[],c :: t,t⟩:=by
 have hc:blL.contains c=false:=by
  have:=List.contains_iff_mem.1 h;unfold sgL at this;simp at this;rcases this with rfl|rfl|rfl|rfl|rfl|rfl <;> decide
 unfold nextS;rw [blS_no hc,List.drop_zero];simp only [lexS];rw [if_pos h];rfl
theorem item {a x:L8} {J:JV} {F G:Nat} (hx:dl x) {Tr:Tk} (hR:nextS x=.ok Tr) (h:topS F a=.ok J) (hG:F≤G) :
 ∃ T',nextS (a++x)=.ok T'∧T'.k≠93∧(valF G 1 T'=.ok (J,Tr) ∨ ∃ p,valF G 1 T'=.bad p 12):=by
 obtain ⟨T0,T1,h0,h1,hk⟩:=top_ok h;obtain ⟨T0',g0,x0⟩:=next_ext hx ⟨Tr,hR⟩ h0;have hk93:=val_k h1;refine ⟨T0',g0,?_,?_⟩
 ·rcases x0 with ⟨_,rfl⟩|⟨q,_⟩
  ·exact hk93.2
  ·exact absurd q hk93.1
 ·have hv:=valF_ext hx ⟨Tr,hR⟩ 1 F 0 T0 T0' J T1 x0 h1;rcases hv with ⟨T1',g1,x1⟩|⟨_,p,g1⟩
  ·rw [Nat.zero_add] at g1;rw [valF_mono F G 1 T0' (by rw [g1];exact Got.In.ok _) hG,g1];rcases x1 with ⟨q,_⟩|⟨_,q⟩
   ·exact absurd hk q
   ·rw [hR] at q;injection q with q;rw [q];exact .inl rfl
  ·rw [Nat.zero_add] at g1;rw [valF_mono F G 1 T0' (by rw [g1];intro p' e;injection e with _ e;cases e) hG,g1];exact .inr ⟨p,rfl⟩
theorem loop_end {f kind shut dp:Nat} {T:Tk} {first:Bool} {t:L8} {ks:List L8} {vs:List JV} (h:T.k=shut):loopF (f+1) kind shut dp T first t ks vs=(nextS T.s).bind fun T'=>.ok (.mk kind t ks vs,T'):=by
 rw [loopF,if_pos h]
def SameC (n:Nat):Prop:=∀ (w:World) (J J':JV) (cs cs':List Value),szJ J≤n→VRd w (fun j=>j<w.heap.size) J cs→VRd w (fun j=>j<w.heap.size) J' cs' →
 Calls Tryz.prog 14 #[.agg cs.toArray,.agg cs'.toArray] w fun e w'=>e=.returned (.bool (eqJ J J'))∧Below w.heap.size w w'
theorem str_ne {t t':L8} (h:t≠t'):((⟨t.toArray⟩:ByteArray) == ⟨t'.toArray⟩)=false:=by
 rw [Bool.eq_false_iff];intro e;have e2:t.toArray=t'.toArray:=eq_of_beq (show (t.toArray == t'.toArray)=true from e);exact h (by simpa using congrArg Array.toList e2)
theorem four_cells {w:World} {ad:Addr} {o:Nat} {v0 v1 v2 v3:Value} (h0:w.cell? (ad.add o)=some v0) (h1:w.cell? (ad.add (o+1))=some v1) (h2:w.cell? (ad.add (o+2))=some v2) (h3:w.cell? (ad.add (o+3))=some v3) :
 w.cell? (ad.add o)=some v0∧w.cell? ⟨(ad.add o).block,(ad.add o).off+1,none⟩=some v1∧w.cell? ⟨(ad.add o).block,(ad.add o).off+2,none⟩=some v2∧w.cell? ⟨(ad.add o).block,(ad.add o).off+3,none⟩=some v3:=by
 have hs:=spot_none h0;rw [add_plain _ 1 hs,add_plain _ 2 hs,add_plain _ 3 hs,add_of_add,add_of_add,add_of_add];exact ⟨h0,h1,h2,h3⟩
theorem ext_to {α:Type} {a b:List α} (hl:a.length=b.length) (h:∀ i,i<a.length→a[i]? = b[i]?):a=b:=by
 apply List.ext_getElem?;intro i;rcases Nat.lt_or_ge i a.length with q|q
 ·exact h i q
 ·rw [List.getElem?_eq_none q,List.getElem?_eq_none (by omega)]
set_option maxRecDepth 100000 in
set_option maxHeartbeats 4000000 in
theorem same_step (n:Nat) (ih:SameC n):SameC (n+1):=by
 intro w J J' cs cs' hsz h h';obtain ⟨k,t,ks,vs⟩:=J;obtain ⟨k',t',ks',vs'⟩:=J';obtain ⟨A1,c1,A2,c2,xs,rfl,hc1,hr1,hc2,hr2,hl⟩:=h.mk';obtain ⟨A1',c1',A2',c2',xs',rfl,hc1',hr1',hc2',hr2',hl'⟩:=h'.mk';have IH:=hide ih;clear h h' ih;obtain ⟨w2,hw2⟩:∃ w2,(w.alloc (.cells #[.int .i64 k,.string ⟨t.toArray⟩,.slice A1 ks.length c1,.slice A2 vs.length c2] TV)).alloc (.cells #[.int .i64 k',.string ⟨t'.toArray⟩,.slice A1' ks'.length c1',.slice A2' vs'.length c2'] TV)=w2:=⟨_,rfl⟩;have HB2:=hide (show Below w.heap.size w w2 from hw2 ▸ bal (al_below w _) _);have HV1:=hide (show Blk w2 w.heap.size TV #[.int .i64 k,.string ⟨t.toArray⟩,.slice A1 ks.length c1,.slice A2 vs.length c2] from hw2 ▸ (Blk.new _ _ _).alloc _);have HV2:=hide (show Blk w2 (w.heap.size+1) TV #[.int .i64 k',.string ⟨t'.toArray⟩,.slice A1' ks'.length c1',.slice A2' vs'.length c2'] from by
  rw [← hw2,show w.heap.size+1=(w.alloc (.cells #[.int .i64 k,.string ⟨t.toArray⟩,.slice A1 ks.length c1,.slice A2 vs.length c2] TV)).heap.size by simp];exact Blk.new _ _ _)
 have HW2:=hide hw2;clear hw2;have HR1:=hide (hr1.later HB2.out);have HR1':=hide (hr1'.later HB2.out);have HR2:=hide (hr2.later HB2.out);have HR2':=hide (hr2'.later HB2.out);have HL:=hide (hl.later HB2.out);have HL':=hide (hl'.later HB2.out);clear hr1 hr1' hr2 hr2' hl hl';have hM:maxLen=9223372036854775807:=rfl
 go_enter Tryz.func14,Tryz.ntmps14
 go_upto_region 1 with fail
 refine id (show Code.wp _ _ _ _ ((w.alloc (.cells #[.int .i64 k,.string ⟨t.toArray⟩,.slice A1 ks.length c1,.slice A2 vs.length c2] TV)).alloc (.cells #[.int .i64 k',.string ⟨t'.toArray⟩,.slice A1' ks'.length c1',.slice A2' vs'.length c2'] TV)) from ?_);rw [HW2.out];have kv1:=HV1.out.cell;have fv1:=HV1.out.frozen;have zv1:=HV1.out.lt;have kv2:=HV2.out.cell;have fv2:=HV2.out.frozen;have zv2:=HV2.out.lt;by_cases hk:k=k'
 ·subst hk;by_cases ht:t=t'
  ·subst ht;by_cases hn1:ks.length=ks'.length
   ·by_cases hn2:vs.length=vs'.length
    ·have e1:((ks.length:Int) != (ks'.length:Int))=false:=by simp;omega
     have e2:((vs.length:Int) != (vs'.length:Int))=false:=by simp;omega
     have HN1:=hide hn1;have HN2:=hide hn2;clear hn1 hn2;go_wp2_with fail
     clear kv1 fv1 zv1 kv2 fv2 zv2
     go_loopw [5] (fun iv wr=>∃ j:Nat,iv=.int .i64 (j:Int)∧j≤ks.length∧Hid (Below w2.heap.size w2 wr)∧Hid (∀ i,i<j→ks[i]? = ks'[i]?)) (fun iv _=>ks.length - (intOf iv).toNat)
     case atStart=>exact ⟨0,by go_num,by omega,Below.refl _ _,hide (fun i hi=>by omega)⟩
     case round=>
      obtain ⟨j,rfl,hj,HB,HE⟩:=hrel;have HVa:=hide (HV1.out.below HB.out HV1.out.lt);have HVb:=hide (HV2.out.below HB.out HV2.out.lt);have kv1:=HVa.out.cell;have fv1:=HVa.out.frozen;have zv1:=HVa.out.lt;have kv2:=HVb.out.cell;have fv2:=HVb.out.frozen;have zv2:=HVb.out.lt;by_cases hlt:j<ks.length
      ·have hlt':j<ks'.length:=by have:=HN1.out;omega
       obtain ⟨ad,hA,had,hc⟩:=HR1.out.2 (by omega);obtain ⟨ad',hA',had',hc'⟩:=HR1'.out.2 (by omega);subst hA hA';have cx:=(HB.out.cell (show (ad.add j).block<w2.heap.size by rw [block_of_add];exact had)).trans (hc j _ (sc_at hlt));have cy:=(HB.out.cell (show (ad'.add j).block<w2.heap.size by rw [block_of_add];exact had')).trans (hc' j _ (sc_at hlt'));obtain ⟨x,hx⟩:∃ x,ks[j]=x:=⟨_,rfl⟩;obtain ⟨y,hy⟩:∃ y,ks'[j]=y:=⟨_,rfl⟩;have zx:ad.block<wr.heap.size:=nLl had HB.out.size;have zy:ad'.block<wr.heap.size:=nLl had' HB.out.size;rw [hx] at cx;rw [hy] at cy;unfold bstr at cx cy;have HX:=hide hx;have HY:=hide hy;clear hc hc' hx hy;have hcj:j≤c1:=by omega
       have hcj':j≤c1':=by omega
       go_upto_region 6 with fail
       go_quiet (fail)
       obtain ⟨w3,hw3⟩:∃ w3,wr.drewN nq=w3:=⟨_,rfl⟩;have HB3:=hide (show Below w2.heap.size w2 w3 from hw3 ▸ HB.out.trans ((below_drewN wr nq).mono HB.out.size));have HK:=hide (show ∀ u,x=u→y=u → ∀ i,i<j+1→ks[i]? = ks'[i]? from fun u h1 h2 i hi=>by
        rcases Nat.lt_or_ge i j with q|q
        ·exact HE.out i q
        ·have:i=j:=by omega
         subst this;rw [List.getElem?_eq_getElem hlt,List.getElem?_eq_getElem hlt',HX.out,HY.out,h1,h2])
       rw [hw3];clear hw3;by_cases hxy:x=y
       ·subst hxy;have e3:(!(@BEq.beq (List UInt8) List.instBEq x x))=false:=by simp
        rw [e3];clear HX HY;go_wp2_with fail
        go_roundw
        case rel=>exact ⟨j+1,by go_num,by omega,HB3,hide (HK.out x rfl rfl)⟩
        case measure=>simp [intOf];omega
       ·have e3:(!(@BEq.beq (List UInt8) List.instBEq x y))=true:=by simpa using hxy
        rw [e3];have HF:=hide (show eqJ (.mk k t ks vs) (.mk k t ks' vs')=false from eqJ_ne (by
         rintro ⟨⟩;exact hxy (HX.out.symm.trans HY.out)))
        clear HX HY HK hxy;go_wp2_with fail
        go_ret;exact ⟨by rw [HF.out];rfl,HB2.out.trans (HB3.out.mono HB2.out.size)⟩
      ·have HKS:=hide (show ks=ks' from ext_to HN1.out (fun i hi=>HE.out i (by omega)));clear HE;go_wp2_with fail
       go_loopw [6] (fun iv wr=>∃ j:Nat,iv=.int .i64 (j:Int)∧j≤vs.length∧Hid (Below w2.heap.size w2 wr)∧Hid (∀ i,i<j→vs[i]? = vs'[i]?)) (fun iv _=>vs.length - (intOf iv).toNat)
       case atStart=>exact ⟨0,by go_num,by omega,HB,hide (fun i hi=>by omega)⟩
       case round=>
        clear kv1 fv1 zv1 kv2 fv2 zv2 HVa HVb HB;obtain ⟨m,rfl,hm,HB,HE⟩:=hrel;have HVa:=hide (HV1.out.below HB.out HV1.out.lt);have HVb:=hide (HV2.out.below HB.out HV2.out.lt);have kv1:=HVa.out.cell;have fv1:=HVa.out.frozen;have zv1:=HVa.out.lt;have kv2:=HVb.out.cell;have fv2:=HVb.out.frozen;have zv2:=HVb.out.lt;by_cases hlt2:m<vs.length
        ·have hlt2':m<vs'.length:=by have:=HN2.out;omega
         obtain ⟨ad,hA,had,hc⟩:=HR2.out.2 (by omega);obtain ⟨ad',hA',had',hc'⟩:=HR2'.out.2 (by omega);subst hA hA';obtain ⟨cs,hv,hcs⟩:=VRdL.at_ vs xs HL.out m hlt2;obtain ⟨cs',hv',hcs'⟩:=VRdL.at_ vs' xs' HL'.out m hlt2';obtain ⟨a1,a2,a3,a4,a5,a6,a7,a8,rfl⟩:=hv.four;obtain ⟨b1,b2,b3,b4,b5,b6,b7,b8,rfl⟩:=hv'.four;have HC:=hide (show ∀ w',Below w2.heap.size w2 w'→w'.cell? (ad.add (m * 4))=some (.int .i64 a1)∧w'.cell? (ad.add (m * 4+1))=some (.string a2)∧w'.cell? (ad.add (m * 4+2))=some (.slice a3 a4 a5)∧w'.cell? (ad.add (m * 4+3))=some (.slice a6 a7 a8) from fun w' hb=>
          have q:∀ i u,xs[m * 4+i]? = some u→w'.cell? (ad.add (m * 4+i))=some u:=fun i u hu=>(hb.cell (by rw [block_of_add];exact had)).trans (hc _ u hu)
          ⟨q 0 _ (hcs 0 (by omega)),q 1 _ (hcs 1 (by omega)),q 2 _ (hcs 2 (by omega)),q 3 _ (hcs 3 (by omega))⟩)
         have HC':=hide (show ∀ w',Below w2.heap.size w2 w'→w'.cell? (ad'.add (m * 4))=some (.int .i64 b1)∧w'.cell? (ad'.add (m * 4+1))=some (.string b2)∧w'.cell? (ad'.add (m * 4+2))=some (.slice b3 b4 b5)∧w'.cell? (ad'.add (m * 4+3))=some (.slice b6 b7 b8) from fun w' hb=>
          have q:∀ i u,xs'[m * 4+i]? = some u→w'.cell? (ad'.add (m * 4+i))=some u:=fun i u hu=>(hb.cell (by rw [block_of_add];exact had')).trans (hc' _ u hu)
          ⟨q 0 _ (hcs' 0 (by omega)),q 1 _ (hcs' 1 (by omega)),q 2 _ (hcs' 2 (by omega)),q 3 _ (hcs' 3 (by omega))⟩)
         have HVm:=hide hv;have HVm':=hide hv';have hszm:szJ vs[m]≤n:=by have:=szL_at vs m hlt2;have:szJ (.mk k t ks vs)=szL vs+1:=(by simp [szJ]);omega
         have hc2m:m≤c2:=by omega
         have hc2m':m≤c2':=by omega
         clear hc hc' hcs hcs' hv hv';go_upto_region 11 with fail
         clear kv1 fv1 zv1 kv2 fv2 zv2;refine wp_region_dag (by kernel_rfl) (by kernel_rfl) 74 0
          [⟨some 62,[0],[],[],[],[],fun _ _ v _=>v=.pointer (some ⟨w.heap.size,3,none⟩)⟩,
           ⟨some 63,[0],[],[],[0],[],fun _ _ v _=>v=.slice (some ad) vs.length c2⟩,
           ⟨some 64,[0],[],[],[],[],fun _ _ v _=>v=.int .i64 (m:Int)⟩,
           ⟨some 65,[0],[],[],[1,2],[],fun _ _ v _=>v=.pointer (some (ad.add (m * 4)))⟩,
           ⟨some 66,[0],[],[],[3],[],fun _ _ v _=>v=.agg #[.int .i64 a1,.string a2,.slice a3 a4 a5,.slice a6 a7 a8]⟩,
           ⟨some 67,[0],[],[],[],[],fun _ _ v _=>v=.pointer (some ⟨w.heap.size+1,3,none⟩)⟩,
           ⟨some 68,[0],[],[],[5],[],fun _ _ v _=>v=.slice (some ad') vs'.length c2'⟩,
           ⟨some 69,[0],[],[],[],[],fun _ _ v _=>v=.int .i64 (m:Int)⟩,
           ⟨some 70,[0],[],[],[6,7],[],fun _ _ v _=>v=.pointer (some (ad'.add (m * 4)))⟩,
           ⟨some 71,[0],[],[],[8],[],fun _ _ v _=>v=.agg #[.int .i64 b1,.string b2,.slice b3 b4 b5,.slice b6 b7 b8]⟩,
           ⟨some 72,[0],[],[],[4,9],[],fun _ _ v _=>v=.bool (eqJ vs[m] vs'[m])⟩,
           ⟨some 73,[0],[],[],[10],[],fun _ _ v _=>v=.bool (!eqJ vs[m] vs'[m])⟩] (fun _ w'=>Below w2.heap.size w2 w') (fun _ _ _ _ _=>True) (fun _ w w'=>Below w.heap.size w w') ?gu ?ru ?put [62,63,64,65,66,67,68,69,70,71,72,73] rfl (by kernel_rfl) rfl ?g0 ?keep ?steps ?fin
         case ru=>
          intro e he s a v w w' hu hv;simp only [List.mem_cons,List.not_mem_nil,or_false] at he;rcases he with rfl|rfl|rfl|rfl|rfl|rfl|rfl|rfl|rfl|rfl|rfl|rfl
          all_goals first|exact hv
         case put=>
          intro e he s a d u v w hnd hv;simp only [List.mem_cons,List.not_mem_nil,or_false] at he;rcases he with rfl|rfl|rfl|rfl|rfl|rfl|rfl|rfl|rfl|rfl|rfl|rfl
          all_goals first|exact hv
         case keep=>
          intro e he s s' a v w w' hsl hm ht hv;simp only [List.mem_cons,List.not_mem_nil,or_false] at he;rcases he with rfl|rfl|rfl|rfl|rfl|rfl|rfl|rfl|rfl|rfl|rfl|rfl
          all_goals first|exact hv
         case steps=>
          refine ⟨?_,?_,?_,?_,?_,?_,?_,?_,?_,?_,?_,?_,trivial⟩
          ·intro st hst ac w3 hg hG hd K hK;dsimp only at hst hG hK;have k2:=hg.kp 2 (by simp);(try simp [Act.eval] at k2);go_simp;exact hK _ _ bR rfl
          ·intro st hst ac w3 hg hG hd K hK;dsimp only at hst hG hK;have kk:=(HV1.out.below hG HV1.out.lt).cell 3;have zz:=(HV1.out.below hG HV1.out.lt).lt;simp at kk;clear hG;have f0:=hd 0 (by simp) _ rfl _ rfl;(try simp [Act.eval] at f0);go_simp;exact hK _ _ bR rfl
          ·intro st hst ac w3 hg hG hd K hK;dsimp only at hst hG hK;exact op_move _ rfl (hK _ _ bR (hg.kp 6 (by simp)))
          ·intro st hst ac w3 hg hG hd K hK;dsimp only at hst hG hK;have f1:=hd 1 (by simp) _ rfl _ rfl;have f2:=hd 2 (by simp) _ rfl _ rfl;(try simp [Act.eval] at f1);(try simp [Act.eval] at f2);go_simp;exact hK _ _ bR rfl
          ·intro st hst ac w3 hg hG hd K hK;dsimp only at hst hG hK;obtain ⟨k0,k1,k2,k3⟩:=HC.out _ hG;obtain ⟨k0,k1,k2,k3⟩:=four_cells k0 k1 k2 k3;have zz:ad.block<w3.heap.size:=nLl had hG.size;clear hG;have f3:=hd 3 (by simp) _ rfl _ rfl;(try simp [Act.eval] at f3);go_simp;exact hK _ _ bR rfl
          ·intro st hst ac w3 hg hG hd K hK;dsimp only at hst hG hK;have k3:=hg.kp 3 (by simp);(try simp [Act.eval] at k3);go_simp;exact hK _ _ bR rfl
          ·intro st hst ac w3 hg hG hd K hK;dsimp only at hst hG hK;have kk:=(HV2.out.below hG HV2.out.lt).cell 3;have zz:=(HV2.out.below hG HV2.out.lt).lt;simp at kk;clear hG;have f5:=hd 5 (by simp) _ rfl _ rfl;(try simp [Act.eval] at f5);go_simp;exact hK _ _ bR rfl
          ·intro st hst ac w3 hg hG hd K hK;dsimp only at hst hG hK;exact op_move _ rfl (hK _ _ bR (hg.kp 6 (by simp)))
          ·intro st hst ac w3 hg hG hd K hK;dsimp only at hst hG hK;have f6:=hd 6 (by simp) _ rfl _ rfl;have f7:=hd 7 (by simp) _ rfl _ rfl;(try simp [Act.eval] at f6);(try simp [Act.eval] at f7);go_simp;exact hK _ _ bR rfl
          ·intro st hst ac w3 hg hG hd K hK;dsimp only at hst hG hK;obtain ⟨k0,k1,k2,k3⟩:=HC'.out _ hG;obtain ⟨k0,k1,k2,k3⟩:=four_cells k0 k1 k2 k3;have zz:ad'.block<w3.heap.size:=nLl had' hG.size;clear hG;have f8:=hd 8 (by simp) _ rfl _ rfl;(try simp [Act.eval] at f8);go_simp;exact hK _ _ bR rfl
          ·intro st hst ac w3 hg hG hd K hK;dsimp only at hst hG hK;have f4:=hd 4 (by simp) _ rfl _ rfl;have f9:=hd 9 (by simp) _ rfl _ rfl;have HG:=hide hG;clear hG;simp [Act.eval] at f4 f9;go_simp;(refine (IH.out w3 vs[m] vs'[m] _ _ hszm (HVm.out.later HG.out) (HVm'.out.later HG.out)).mono ?_);rintro e w8 ⟨rfl,hb⟩;exact hK _ _ hb rfl
          ·intro st hst ac w3 hg hG hd K hK;dsimp only at hst hG hK;have f10:=hd 10 (by simp) _ rfl _ rfl;(try simp [Act.eval] at f10);go_simp;exact hK _ _ bR rfl
         case gu=>intro s a b hG hu;exact hG.trans (hu.mono hG.size)
         case g0=>exact HB.out.trans ((bR.drew).mono HB.out.size)
         case fin=>
          intro f9 w9 hG hall;have HB9:=hide hG;have hr:=hall _ (List.mem_of_getElem? (i:=11) rfl) 73 rfl;clear hall hG;simp only [fillF,List.map_cons,List.map_nil,List.foldl_cons,List.foldl_nil,Act.put,List.setIfInBounds_toArray,List.set_cons_zero,List.set_cons_succ];rw [hr];cases hq:eqJ vs[m] vs'[m]
          ·have HF:=hide (show eqJ (.mk k t ks vs) (.mk k t ks' vs')=false from eqJ_ne (by
            rintro ⟨⟩;rw [eqJ_refl] at hq;cases hq))
           clear hq;go_wp2_with fail
           go_ret;exact ⟨by rw [HF.out];rfl,HB2.out.trans (HB9.out.mono HB2.out.size)⟩
          ·have HQ:=hide ((eqJ_iff _ _).1 hq);clear hq;go_wp2_with fail
           go_roundw
           case rel=>exact ⟨m+1,by go_num,by omega,HB9,hide (fun i hi=>by
            rcases Nat.lt_or_ge i m with q|q
            ·exact HE.out i q
            ·have:i=m:=by omega
             subst this;rw [List.getElem?_eq_getElem hlt2,List.getElem?_eq_getElem hlt2',HQ.out])⟩
           case measure=>simp [intOf];omega
        ·have HVS:=hide (show vs=vs' from ext_to HN2.out (fun i hi=>HE.out i (by omega)));have HT:=hide (show eqJ (.mk k t ks vs) (.mk k t ks' vs')=true from (eqJ_iff _ _).2 (by rw [HKS.out,HVS.out]));clear HE;go_wp2_with fail
         go_ret;exact ⟨by rw [HT.out];rfl,HB2.out.trans (HB.out.mono HB2.out.size)⟩
    ·have HE:=hide (show eqJ (.mk k t ks vs) (.mk k t ks' vs')=false from eqJ_ne (by rintro ⟨⟩;exact hn2 rfl));have e1:((ks.length:Int) != (ks'.length:Int))=false:=by simp;omega
     have e2:((vs.length:Int) != (vs'.length:Int))=true:=by simp;omega
     go_wp2_with fail
     go_ret;exact ⟨by rw [HE.out];rfl,HB2.out⟩
   ·have HE:=hide (show eqJ (.mk k t ks vs) (.mk k t ks' vs')=false from eqJ_ne (by rintro ⟨⟩;exact hn1 rfl));have e1:((ks.length:Int) != (ks'.length:Int))=true:=by simp;omega
    go_wp2_with fail
    go_ret;exact ⟨by rw [HE.out];rfl,HB2.out⟩
  ·have HE:=hide (show eqJ (.mk k t ks vs) (.mk k t' ks' vs')=false from eqJ_ne (by rintro ⟨⟩;exact ht rfl));have e1:=str_ne ht;go_wp2_with fail
   go_ret;exact ⟨by rw [HE.out];rfl,HB2.out⟩
 ·have HE:=hide (show eqJ (.mk k t ks vs) (.mk k' t' ks' vs')=false from eqJ_ne (by rintro ⟨⟩;exact hk rfl));have e1:(k != k')=true:=by simp;omega
  go_wp2_with fail
  go_ret;exact ⟨by rw [HE.out];rfl,HB2.out⟩
theorem same_all:∀ n,SameC n
 | 0=>fun w J J' cs cs' hsz _ _=>by
   obtain ⟨k,t,ks,vs⟩:=J;simp [szJ] at hsz
 | n+1=>same_step n (same_all n)
theorem same_any {w:World} {F F':Nat→Prop} {J J':JV} {cs cs':List Value} (h:VRd w F J cs) (h':VRd w F' J' cs') :
 Calls Tryz.prog 14 #[.agg cs.toArray,.agg cs'.toArray] w fun e w'=>e=.returned (.bool (eqJ J J'))∧Below w.heap.size w w':=
 same_all (szJ J) w J J' cs cs' (Nat.le_refl _) h.all h'.all
end Go.Proofs.YtacinobmcgcccaaGreatDoor
