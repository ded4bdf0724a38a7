/- What stands behind a token changes it not. -/
import Derived.Test.YtacinobmcgcccaaGreatDoorK25
import Derived.Test.YtacinobmcgcccaaGreatDoorK05
import Derived.Test.YtacinobmcgcccaaGreatDoorK12
import Derived.Lib.TrimUEq
import Derived.Lib.MapLaws
import Derived.BigQuiet
set_option linter.unusedSimpArgs false
set_option linter.unusedVariables false
namespace Go.Proofs.YtacinobmcgcccaaGreatDoor
open Go.RowKit
theorem decN_up {n n' b0 b1 b2 b3 c1 c2 c3:Nat} (hn:n≤n') (h1:1<n→c1=b1) (h2:2<n→c2=b2) (h3:3<n→c3=b3) (h:Lib.decodeN n b0 b1 b2 b3≠(65533,1)):Lib.decodeN n' b0 c1 c2 c3=Lib.decodeN n b0 b1 b2 b3:=by
 unfold Lib.decodeN at h ⊢;by_cases a0:b0<128
 ·rw [if_pos a0,if_pos a0]
 rw [if_neg a0] at h ⊢;rw [if_neg a0];by_cases a1:b0 / 32=6∧(1<n∧b1 / 64=2)
 ·rw [if_pos a1,if_pos ⟨a1.1,by omega,by rw [h1 a1.2.1];exact a1.2.2⟩,h1 a1.2.1]
 rw [if_neg a1] at h ⊢;by_cases a2:b0 / 16=14∧(1<n∧b1 / 64=2)∧(2<n∧b2 / 64=2)
 ·rw [if_pos a2,if_neg (by omega),if_pos ⟨a2.1,⟨by omega,by rw [h1 a2.2.1.1];exact a2.2.1.2⟩,by omega,by rw [h2 a2.2.2.1];exact a2.2.2.2⟩,h1 a2.2.1.1,h2 a2.2.2.1]
 rw [if_neg a2] at h ⊢;by_cases a3:b0 / 8=30∧(1<n∧b1 / 64=2)∧(2<n∧b2 / 64=2)∧(3<n∧b3 / 64=2)
 ·rw [if_pos a3,if_neg (by omega),if_neg (by omega),if_pos ⟨a3.1,⟨by omega,by rw [h1 a3.2.1.1];exact a3.2.1.2⟩,⟨by omega,by rw [h2 a3.2.2.1.1];exact a3.2.2.1.2⟩,by omega,by rw [h3 a3.2.2.2.1];exact a3.2.2.2.2⟩,h1 a3.2.1.1,h2 a3.2.2.1.1,h3 a3.2.2.2.1]
 ·rw [if_neg a3] at h;exact absurd rfl h
theorem chW_zero (s:L8):chW s=0 ↔ Lib.decodeL s=(65533,1):=by
 unfold chW;have:=(decodeL_max s).1;constructor
 ·intro h;split at h
  ·next e=>exact Prod.ext e.1 e.2
  ·omega
 ·intro h;rw [h];rfl
theorem chW_of {s s':L8} (h:Lib.decodeL s=Lib.decodeL s'):chW s=chW s':=by unfold chW;rw [h]
theorem getD_app {u x:L8} {i:Nat} (h:i<u.length):(u++x).getD i 0=u.getD i 0:=by
 rw [List.getD_eq_getElem?_getD,List.getD_eq_getElem?_getD,List.getElem?_append_left h]
def low (x:L8):Prop:=∀ c∈x,c.toNat<128
theorem chW_app {u:L8} (x:L8) (hu:u≠[]) (h:chW u≠0):chW (u++x)=chW u:=by
 have hl:0<u.length:=List.length_pos_iff.2 hu;apply chW_of;rw [Lib.decodeL_N,Lib.decodeL_N,getD_app hl];rw [Ne,chW_zero,Lib.decodeL_N] at h;exact decN_up (by simp) (fun q=>by rw [getD_app q]) (fun q=>by rw [getD_app q]) (fun q=>by rw [getD_app q]) h
theorem chW_le {u:L8} (hu:u≠[]):chW u≤u.length:=by
 have:=Lib.decodeL_le u hu;unfold chW;split <;> omega
theorem isS_app {u:L8} (x cs:L8) (hu:u≠[]):isS (u++x) cs=isS u cs:=by
 cases u with
 | nil=>exact absurd rfl hu
 | cons c t=>rfl
theorem drop_app {u:L8} (x:L8) {k:Nat} (h:k≤u.length):(u++x).drop k=u.drop k++x:=List.drop_append_of_le_length h
theorem fourS_app (x:L8):∀ (f:Nat) (u:L8) (m v:Nat),fourS f u m=some v→f≤u.length∧fourS f (u++x) m=some v
 | 0,u,m,v,h=>⟨Nat.zero_le _,by simpa [fourS] using h⟩
 | f+1,[],m,v,h=>by simp [fourS] at h
 | f+1,c :: u,m,v,h=>by
   unfold fourS at h;cases hc:hexV c with
   | none=>rw [hc] at h;cases h
   | some d=>
     rw [hc] at h;obtain ⟨a,b⟩:=fourS_app x f u _ v h;refine ⟨by simpa using a,?_⟩;show (match hexV c with|none=>none|some d=>fourS f (u++x) (m * 16+d))=some v;rw [hc];exact b
def blk_ (x:L8):Prop:=∀ c∈x,blL.contains c=true
theorem bl_c {c:UInt8} (h:blL.contains c=true):c=32∨c=9∨c=10∨c=13:=by
 have:=List.contains_iff_mem.1 h;unfold blL at this;simpa using this
theorem isS_ne {u cs:L8} (h:isS u cs=true):u≠[]:=by rintro rfl;cases h
theorem escS_app {u y:L8} {d:Nat} (x:L8) (h:escS u=some (y,d)):d≤u.length∧escS (u++x)=some (y,d):=by
 have hu:u≠[]:=by rintro rfl;simp [escS,isS] at h
 cases u with
 | nil=>exact absurd rfl hu
 | cons c t=>
   unfold escS at h ⊢;rw [isS_app x _ hu,isS_app x _ hu];by_cases a1:isS (c :: t) escFrom=true
   ·rw [if_pos a1] at h ⊢;simp at h;exact ⟨by simp;omega,by simpa using h⟩
   rw [if_neg a1] at h ⊢;by_cases a2:isS (c :: t) [117]=true
   ·rw [if_pos a2] at h ⊢;have e1:(c :: t).drop 1=t:=rfl;have e2:(c :: t++x).drop 1=t++x:=rfl;rw [e1] at h;rw [e2];cases hf:fourS 4 t 0 with
    | none=>rw [hf] at h;cases h
    | some v=>
      rw [hf] at h;obtain ⟨l4,f4⟩:=fourS_app x 4 t 0 v hf;rw [f4];simp only at h ⊢;have l5:5≤(c :: t).length:=by simp;omega
      by_cases a3:(isHi v&&isS ((c :: t).drop 5) [92]&&isS ((c :: t).drop 6) [117])=true
      ·have a3':=a3;simp only [Bool.and_eq_true] at a3';have n5:=isS_ne a3'.1.2;have n6:=isS_ne a3'.2;have l6:6<(c :: t).length:=by
        rcases Nat.lt_or_ge 6 (c :: t).length with q|q
        ·exact q
        ·exact absurd (List.drop_of_length_le q) n6
       have b3:(isHi v&&isS ((c :: t++x).drop 5) [92]&&isS ((c :: t++x).drop 6) [117])=true:=by
        rw [drop_app x (by omega),drop_app x (by omega),isS_app x _ n5,isS_app x _ n6];exact a3
       rw [if_pos a3] at h;rw [if_pos b3];cases hf2:fourS 4 ((c :: t).drop 7) 0 with
       | none=>rw [hf2] at h;cases h
       | some lw=>
         rw [hf2] at h;obtain ⟨l7,f7⟩:=fourS_app x 4 _ 0 lw hf2;rw [List.length_drop] at l7;rw [drop_app x (by omega),f7];simp only at h ⊢;split at h
         ·next q=>rw [if_pos q];simp at h;exact ⟨by omega,by simpa using h⟩
         ·cases h
      ·rw [if_neg a3] at h;split at h
       ·cases h
       ·next q=>
        have hh:isHi v=false:=by
         unfold isSur at q;unfold isHi;simp only [Bool.and_eq_true,decide_eq_true_eq,not_and] at q;rw [Bool.and_eq_false_iff];rcases Nat.lt_or_ge v 55296 with z|z
         ·exact .inl (by simpa using z)
         ·have:=q z;exact .inr (by simp;omega)
        rw [if_neg (by rw [hh];simp),if_neg q];simp at h;exact ⟨by omega,by simpa using h⟩
   ·rw [if_neg a2] at h;cases h
theorem strF_app (x:L8):∀ (f:Nat) (u o:L8) (d:Nat) (r:L8 × Nat),strF f u o d=some r → ∀ f',f≤f'→strF f' (u++x) o d=some r
 | 0,u,o,d,r,h,f',hf=>by simp [strF] at h
 | f+1,[],o,d,r,h,f',hf=>by simp [strF] at h
 | f+1,c :: t,o,d,r,h,f',hf=>by
   obtain ⟨g,rfl⟩:∃ g,f'=g+1:=⟨f' - 1,by omega⟩;simp only [strF,List.cons_append] at h ⊢;by_cases a1:c.toNat=34
   ·rw [if_pos a1] at h ⊢;exact h
   rw [if_neg a1] at h ⊢;by_cases a2:c.toNat=92
   ·rw [if_pos a2] at h ⊢;cases he:escS t with
    | none=>rw [he] at h;cases h
    | some yd=>
      obtain ⟨y,e⟩:=yd;rw [he] at h;obtain ⟨l1,h1⟩:=escS_app x he;rw [h1];simp only at h ⊢;rw [drop_app x l1];exact strF_app x f _ _ _ r h g (by omega)
   rw [if_neg a2] at h ⊢;by_cases a3:c.toNat<32
   ·rw [if_pos a3] at h;cases h
   rw [if_neg a3] at h ⊢;by_cases a4:chW (c :: t)=0
   ·rw [if_pos a4] at h;cases h
   rw [if_neg a4] at h;have e:chW (c :: (t++x))=chW (c :: t):=chW_app (u:=c :: t) x (by simp) a4;have l:chW (c :: t)≤(c :: t).length:=chW_le (by simp);rw [e,if_neg a4,show c :: (t++x)=(c :: t)++x from rfl,drop_app x l,List.take_append_of_le_length l];exact strF_app x f _ _ _ r h g (by omega)
theorem strF_len:∀ (f:Nat) (u o:L8) (d:Nat) (r:L8 × Nat),strF f u o d=some r→r.2≤d+u.length
 | 0,u,o,d,r,h=>by simp [strF] at h
 | f+1,[],o,d,r,h=>by simp [strF] at h
 | f+1,c :: t,o,d,r,h=>by
   simp only [strF] at h;split at h
   ·injection h with h;subst h;simp
   ·split at h
    ·cases he:escS t with
     | none=>rw [he] at h;cases h
     | some yd=>
       obtain ⟨y,e⟩:=yd;rw [he] at h;obtain ⟨l1,_⟩:=escS_app [] he;have:=strF_len f _ _ _ r h;rw [List.length_drop] at this;simp;omega
    ·split at h
     ·cases h
     ·split at h
      ·cases h
      ·have l:chW (c :: t)≤(c :: t).length:=chW_le (by simp);have:=strF_len f _ _ _ r h;rw [List.length_drop] at this;omega
theorem strS_app {u:L8} (x:L8) {r:L8 × Nat} (h:strS u=some r):strS (u++x)=some r:=strF_app x _ _ _ _ r h _ (by simp)
theorem strS_len {u:L8} {r:L8 × Nat} (h:strS u=some r):r.2≤u.length:=by have:=strF_len _ _ _ _ r h;omega
def dl (x:L8):Prop:=x=[] ∨ ∃ c t,x=c :: t∧(blL.contains c=true∨c=44∨c=93)
theorem dl_c {c:UInt8} (h:blL.contains c=true∨c=44∨c=93):c=32∨c=9∨c=10∨c=13∨c=44∨c=93:=by
 rcases h with h|h|h
 ·rcases bl_c h with h|h|h|h <;> simp [h]
 ·simp [h]
 ·simp [h]
theorem dl_is {x cs:L8} (h:dl x) (hc:∀ c:UInt8,(c=32∨c=9∨c=10∨c=13∨c=44∨c=93)→cs.contains c=false):isS x cs=false:=by
 rcases h with rfl|⟨c,t,rfl,h⟩
 ·rfl
 ·exact hc c (dl_c h)
theorem dl_dig {x:L8} (h:dl x):digS x=false:=by
 rcases h with rfl|⟨c,t,rfl,h⟩
 ·rfl
 ·show isDg c=false;rcases dl_c h with rfl|rfl|rfl|rfl|rfl|rfl <;> decide
theorem isS_dl {x cs:L8} (h:dl x) (u:L8) (hc:∀ c:UInt8,(c=32∨c=9∨c=10∨c=13∨c=44∨c=93)→cs.contains c=false):isS (u++x) cs=isS u cs:=by
 cases u with
 | nil=>rw [List.nil_append,dl_is h hc];rfl
 | cons c t=>rfl
theorem digS_dl {x:L8} (h:dl x) (u:L8):digS (u++x)=digS u:=by
 cases u with
 | nil=>rw [List.nil_append,dl_dig h];rfl
 | cons c t=>rfl
theorem runDg_dl {x:L8} (h:dl x):∀ u:L8,runDg (u++x)=runDg u
 | []=>by rw [List.nil_append,run_zero (dl_dig h)];rfl
 | c :: t=>by
   rw [List.cons_append,runDg_cons,runDg_cons,runDg_dl h t]
theorem runLo_dl {x:L8} (h:dl x):∀ u:L8,runLo (u++x)=runLo u
 | []=>by
   rcases h with rfl|⟨c,t,rfl,h⟩
   ·rfl
   ·unfold runLo;rw [List.nil_append,List.takeWhile_cons];have:isLo c=false:=by rcases dl_c h with rfl|rfl|rfl|rfl|rfl|rfl <;> decide
    rw [this];rfl
 | c :: t=>by
   have ih:=runLo_dl h t;unfold runLo at ih ⊢;rw [List.cons_append,List.takeWhile_cons,List.takeWhile_cons];split
   ·simp [ih]
   ·rfl
theorem numL_dl {x:L8} (h:dl x) (u:L8):numL (u++x)=numL u:=by
 have cI:∀ v:L8,isS (v++x) [45]=isS v [45]:=fun v=>isS_dl h v (by rintro c (rfl|rfl|rfl|rfl|rfl|rfl) <;> decide)
 have c0:∀ v:L8,isS (v++x) [48]=isS v [48]:=fun v=>isS_dl h v (by rintro c (rfl|rfl|rfl|rfl|rfl|rfl) <;> decide)
 have cF:∀ v:L8,isS (v++x) [46]=isS v [46]:=fun v=>isS_dl h v (by rintro c (rfl|rfl|rfl|rfl|rfl|rfl) <;> decide)
 have cE:∀ v:L8,isS (v++x) [101,69]=isS v [101,69]:=fun v=>isS_dl h v (by rintro c (rfl|rfl|rfl|rfl|rfl|rfl) <;> decide)
 have cS:∀ v:L8,isS (v++x) [43,45]=isS v [43,45]:=fun v=>isS_dl h v (by rintro c (rfl|rfl|rfl|rfl|rfl|rfl) <;> decide)
 have cX:∀ v:L8,isS (v++x) [43,45,46,101,69]=isS v [43,45,46,101,69]:=fun v=>isS_dl h v (by rintro c (rfl|rfl|rfl|rfl|rfl|rfl) <;> decide)
 have eI:nI (u++x)=nI u:=by unfold nI;rw [cI]
 have eD:∀ v:L8,nD (v++x)=nD v:=fun v=>by unfold nD;rw [c0,digS_dl h,runDg_dl h]
 have eF:∀ v:L8,nF (v++x)=nF v:=fun v=>by
  unfold nF;rw [cF];by_cases q:isS v [46]=true
  ·rw [if_pos q,if_pos q,drop_app x (isS_le q),digS_dl h,runDg_dl h]
  ·rw [if_neg q,if_neg q]
 have eS:∀ v:L8,nS (v++x)=nS v:=fun v=>by unfold nS;rw [cS]
 have eE:∀ v:L8,nE (v++x)=nE v:=fun v=>by
  unfold nE;rw [cE];by_cases q:isS v [101,69]=true
  ·have l1:=isS_le q;rw [if_pos q,if_pos q,drop_app x l1,eS];have l2:1+nS (v.drop 1)≤v.length:=by
    unfold nS;split
    ·next q2=>have:=isS_le q2;rw [List.length_drop] at this;omega
    ·omega
   rw [drop_app x l2,digS_dl h,runDg_dl h]
  ·rw [if_neg q,if_neg q]
 have eX:∀ v:L8,nX (v++x)=nX v:=fun v=>by unfold nX;rw [digS_dl h,cX]
 have l0:=nI_le u;unfold numL;rw [eI,drop_app x l0,eD];cases hD:nD (u.drop (nI u)) with
 | none=>rfl
 | some d=>
   have l1:=nD_le hD;rw [List.length_drop] at l1;simp only;rw [drop_app x (by omega),eF];cases hF:nF (u.drop (nI u+d)) with
   | none=>rfl
   | some f=>
     have l2:=nF_le hF;rw [List.length_drop] at l2;simp only;rw [drop_app x (by omega),eE];cases hE:nE (u.drop (nI u+d+f)) with
     | none=>rfl
     | some e=>
       have l3:=nE_le hE;rw [List.length_drop] at l3;simp only;rw [drop_app x (by omega),eX]
theorem lexS_app {u x:L8} (hx:dl x) (hu:u≠[]) {r:Nat × L8 × Nat} (h:lexS u=some r):lexS (u++x)=some r∧r.2.2≤u.length∧r.1≠0:=by
 cases u with
 | nil=>exact absurd rfl hu
 | cons c t=>
   simp only [lexS,List.cons_append] at h ⊢;by_cases a1:sgL.contains c=true
   ·rw [if_pos a1] at h ⊢;injection h with h;subst h;refine ⟨rfl,by simp,?_⟩;have:=List.contains_iff_mem.1 a1;unfold sgL at this;simp at this;rcases this with rfl|rfl|rfl|rfl|rfl|rfl <;> decide
   rw [if_neg a1] at h ⊢;by_cases a2:c.toNat=34
   ·rw [if_pos a2] at h ⊢;cases hs:strS t with
    | none=>rw [hs] at h;cases h
    | some q=>
      rw [hs] at h;rw [strS_app x hs];injection h with h;subst h;have:=strS_len hs;exact ⟨rfl,by simp;omega,by simp⟩
   rw [if_neg a2] at h ⊢;by_cases a3:(isDg c||decide (c.toNat=45))=true
   ·rw [if_pos a3] at h ⊢;rw [show c :: (t++x)=(c :: t)++x from rfl,numL_dl hx];cases hm:numL (c :: t) with
    | none=>rw [hm] at h;cases h
    | some m=>
      rw [hm] at h;have l:=(numL_le hm).2;injection h with h;subst h;refine ⟨by simp only;rw [List.take_append_of_le_length l],l,by simp⟩
   rw [if_neg a3] at h ⊢;by_cases a4:isLo c=true
   ·rw [if_pos a4] at h ⊢;have l:=runLo_le (c :: t);rw [show c :: (t++x)=(c :: t)++x from rfl,runLo_dl hx,List.take_append_of_le_length l];split at h
    ·cases h
    ·next q=>
     rw [if_neg q];injection h with h;subst h;exact ⟨rfl,l,q⟩
   ·rw [if_neg a4] at h;cases h
theorem blS_app (s:L8) (h:blk_ s) (u:L8):blS (s++u)=s.length+blS u:=by
 induction s with
 | nil=>simp
 | cons c t ih=>
   have hc:=h c (List.mem_cons_self ..);have:=ih (fun q hq=>h q (List.mem_cons_of_mem _ hq));unfold blS at this ⊢;rw [List.cons_append,List.takeWhile_cons,hc];simp;omega
theorem blS_split (u:L8):u=u.take (blS u)++u.drop (blS u)∧blk_ (u.take (blS u))∧(u.drop (blS u)=[] ∨ ∃ c t,u.drop (blS u)=c :: t∧blL.contains c=false):=by
 induction u with
 | nil=>exact ⟨rfl,(fun c hc=>by simp at hc),.inl rfl⟩
 | cons c t ih=>
   by_cases hc:blL.contains c=true
   ·have e:blS (c :: t)=blS t+1:=by unfold blS;rw [List.takeWhile_cons,hc];simp
    rw [e];refine ⟨by rw [List.take_succ_cons,List.drop_succ_cons,List.cons_append,← ih.1],fun q hq=>?_,by rw [List.drop_succ_cons];exact ih.2.2⟩;rw [List.take_succ_cons] at hq;rcases List.mem_cons.1 hq with rfl|hq
    ·exact hc
    ·exact ih.2.1 q hq
   ·have e:blS (c :: t)=0:=by unfold blS;rw [List.takeWhile_cons,if_neg hc];rfl
    rw [e];exact ⟨rfl,(fun q hq=>by simp at hq),.inr ⟨c,t,rfl,by simpa using hc⟩⟩
theorem next_bl (s:L8) (h:blk_ s) (u:L8):nextS (s++u)=nextS u:=by
 unfold nextS;rw [blS_app s h,show (s++u).drop (s.length+blS u)=u.drop (blS u) by rw [← List.drop_drop,List.drop_left]]
theorem blS_no {c:UInt8} {t:L8} (h:blL.contains c=false):blS (c :: t)=0:=by unfold blS;rw [List.takeWhile_cons,h];rfl
theorem next_app {u x:L8} (hx:dl x) {T:Tk} (h:nextS u=.ok T):(T.k≠0∧nextS (u++x)=.ok ⟨T.k,T.t,T.ts++x,T.s++x⟩)∨(T.k=0∧nextS (u++x)=nextS x):=by
 obtain ⟨e1,e2,e3⟩:=blS_split u;have hs:nextS (u++x)=nextS (u.drop (blS u)++x):=by
  conv=>lhs;rw [e1,List.append_assoc]
  exact next_bl _ e2 _
 unfold nextS at h;rcases e3 with e3|⟨c,t,e3,hc⟩
 ·rw [e3] at h hs;have:T=⟨0,[],[],[]⟩:=by simpa [lexS] using h.symm
  exact .inr ⟨by rw [this],by rw [hs,List.nil_append]⟩
 ·rw [e3] at h hs;rw [hs];cases hl:lexS (c :: t) with
  | none=>rw [hl] at h;cases h
  | some r=>
    obtain ⟨k,tx,d⟩:=r;rw [hl] at h;injection h with h;subst h;obtain ⟨h1,h2,h3⟩:=lexS_app hx (by simp) hl;refine .inl ⟨h3,?_⟩;unfold nextS;rw [List.cons_append,blS_no hc,List.drop_zero,← List.cons_append,h1];simp only;rw [drop_app x h2]
def Ext (x:L8) (T T':Tk):Prop:=(T.k≠0∧T'=⟨T.k,T.t,T.ts++x,T.s++x⟩)∨(T.k=0∧nextS x=.ok T')
theorem next_ext {u x:L8} (hx:dl x) (hR:∃ Tr,nextS x=.ok Tr) {T:Tk} (h:nextS u=.ok T):∃ T',nextS (u++x)=.ok T'∧Ext x T T':=by
 rcases next_app hx h with ⟨h1,h2⟩|⟨h1,h2⟩
 ·exact ⟨_,h2,.inl ⟨h1,rfl⟩⟩
 ·obtain ⟨Tr,hr⟩:=hR;exact ⟨Tr,h2.trans hr,.inr ⟨h1,hr⟩⟩
theorem want_ext {sign:Nat} {x:L8} (hx:dl x) (hR:∃ Tr,nextS x=.ok Tr) (h0:sign≠0) {T T' T1:Tk} (hT:Ext x T T') (h:wantS sign T=.ok T1):∃ T1',wantS sign T'=.ok T1'∧Ext x T1 T1':=by
 unfold wantS at h;split at h
 ·next hk=>
  rcases hT with ⟨_,rfl⟩|⟨e,_⟩
  ·obtain ⟨T1',h1,h2⟩:=next_ext hx hR h;exact ⟨T1',by unfold wantS;rw [if_pos hk];exact h1,h2⟩
  ·omega
 ·cases h
section
variable {x:L8} (hx:dl x) (hR:∃ Tr,nextS x=.ok Tr) (δ:Nat)
def OkO (x:L8) (δ:Nat) (J:JV) (T1:Tk) (g:Got (JV × Tk)):Prop:=(∃ T1',g=.ok (J,T1')∧Ext x T1 T1')∨(0<δ ∧ ∃ p,g=.bad p 12)
include hx hR in
mutual
theorem valF_ext:∀ (f dp:Nat) (T T':Tk) (J:JV) (T1:Tk),Ext x T T'→valF f dp T=.ok (J,T1)→OkO x δ J T1 (valF f (dp+δ) T')
 | 0,_,_,_,_,_,_,h=>by simp [valF] at h
 | f+1,dp,T,T',J,T1,hT,h=>by
   unfold valF at h;rcases hT with ⟨hk0,rfl⟩|⟨e,_⟩
   ·unfold valF;dsimp only;by_cases a1:1≤T.k∧T.k≤5
    ·rw [if_pos a1] at h ⊢;obtain ⟨T2,h1,h2⟩:=Got.bind_ok h;injection h2 with h2;injection h2 with e1 e2;subst e1 e2;obtain ⟨T2',h3,h4⟩:=next_ext hx hR h1;rw [h3];exact .inl ⟨T2',rfl,h4⟩
    rw [if_neg a1] at h ⊢;by_cases a2:T.k=91
    ·rw [if_pos a2] at h ⊢;have:=manyF_ext f 6 93 (dp+1) T.t T _ J T1 (by omega) hk0 (.inl ⟨hk0,rfl⟩) h;rw [show dp+δ+1=dp+1+δ by omega];exact this
    rw [if_neg a2] at h ⊢;by_cases a3:T.k=123
    ·rw [if_pos a3] at h ⊢;have:=manyF_ext f 7 125 (dp+1) T.t T _ J T1 (by omega) hk0 (.inl ⟨hk0,rfl⟩) h;rw [show dp+δ+1=dp+1+δ by omega];exact this
    ·rw [if_neg a3] at h;cases h
   ·rw [if_neg (by omega),if_neg (by omega),if_neg (by omega)] at h;cases h
theorem manyF_ext:∀ (f kind shut dp:Nat) (t:L8) (T T':Tk) (J:JV) (T1:Tk),shut≠0→T.k≠0→Ext x T T'→manyF f kind shut dp t T=.ok (J,T1)→OkO x δ J T1 (manyF f kind shut (dp+δ) t T')
 | 0,_,_,_,_,_,_,_,_,_,_,_,h=>by simp [manyF] at h
 | f+1,kind,shut,dp,t,T,T',J,T1,hs0,hk,hT,h=>by
   rcases hT with ⟨_,rfl⟩|⟨e,_⟩
   ·unfold manyF at h ⊢;split at h
    ·cases h
    ·next hd=>
     obtain ⟨T2,h1,h2⟩:=Got.bind_ok h;by_cases hd':32<dp+δ
     ·rw [if_pos hd'];exact .inr ⟨by omega,_,rfl⟩
     ·rw [if_neg hd'];obtain ⟨T2',h3,h4⟩:=next_ext hx hR h1;dsimp only;rw [h3];exact loopF_ext f kind shut dp T2 T2' true t [] [] J T1 hs0 h4 h2
   ·exact absurd e hk
theorem loopF_ext:∀ (f kind shut dp:Nat) (T T':Tk) (first:Bool) (t:L8) (ks:List L8) (vs:List JV) (J:JV) (T1:Tk),shut≠0→Ext x T T'→loopF f kind shut dp T first t ks vs=.ok (J,T1)→OkO x δ J T1 (loopF f kind shut (dp+δ) T' first t ks vs)
 | 0,_,_,_,_,_,_,_,_,_,_,_,_,_,h=>by simp [loopF] at h
 | f+1,kind,shut,dp,T,T',first,t,ks,vs,J,T1,hs0,hT,h=>by
   unfold loopF at h;by_cases a1:T.k=shut
   ·rw [if_pos a1] at h;rcases hT with ⟨_,rfl⟩|⟨e,_⟩
    ·obtain ⟨T2,h1,h2⟩:=Got.bind_ok h;injection h2 with h2;injection h2 with e1 e2;subst e1 e2;obtain ⟨T2',h3,h4⟩:=next_ext hx hR h1;unfold loopF;rw [if_pos (by exact a1)];dsimp only;rw [h3];exact .inl ⟨T2',rfl,h4⟩
    ·omega
   rw [if_neg a1] at h;obtain ⟨T2,h1,h2⟩:=Got.bind_ok h
   -- the token behind the comma
   have hstep:T.k≠0 → ∃ T2',T'.k≠shut∧(if first then Got.ok T' else wantS 44 T')=.ok T2'∧Ext x T2 T2':=fun hk=>by
    have hT':=hT;rcases hT' with ⟨_,rfl⟩|⟨e,_⟩
    ·cases first
     ·obtain ⟨T2',g1,g2⟩:=want_ext hx hR (by decide) hT h1;exact ⟨T2',a1,g1,g2⟩
     ·injection h1 with h1;subst h1;exact ⟨_,a1,rfl,hT⟩
    ·exact absurd e hk
   by_cases hk:T.k=0
   ·-- the end: nothing is read
    exfalso;cases first
    ·have h1':wantS 44 T=.ok T2:=h1;unfold wantS at h1';rw [if_neg (by omega)] at h1';cases h1'
    ·injection h1 with h1;subst h1;split at h2
     ·obtain ⟨T3,h3,h2⟩:=Got.bind_ok h2;unfold wantS at h3;rw [if_neg (by omega)] at h3;cases h3
     ·obtain ⟨v,h5,h2⟩:=Got.bind_ok h2;cases f with
      | zero=>simp [valF] at h5
      | succ f=>
        unfold valF at h5;rw [if_neg (by omega),if_neg (by omega),if_neg (by omega)] at h5;cases h5
   ·obtain ⟨T2',g0,g1,g2⟩:=hstep hk;have key:∀ (T4 T4':Tk) (ks':List L8) (r:JV × Tk),Ext x T4 T4'→valF f dp T4=.ok r→loopF f kind shut dp r.2 false t ks' (vs++[r.1])=.ok (J,T1) →
     OkO x δ J T1 ((valF f (dp+δ) T4').bind fun r=>loopF f kind shut (dp+δ) r.2 false t ks' (vs++[r.1])):=fun T4 T4' ks' r q1 q2 q3=>by
     obtain ⟨Jv,Tv⟩:=r;rcases valF_ext f dp T4 T4' Jv Tv q1 q2 with ⟨Tv',z1,z2⟩|⟨z0,p,z1⟩
     ·rw [z1];exact loopF_ext f kind shut dp Tv Tv' false t ks' _ J T1 hs0 z2 q3
     ·rw [z1];exact .inr ⟨z0,p,rfl⟩
    have kk:T2'.t=T2.t∨kind≠7:=by
     rcases g2 with ⟨_,rfl⟩|⟨e,_⟩
     ·exact .inl rfl
     ·by_cases h7:kind=7
      ·rw [if_pos h7] at h2;obtain ⟨T3,h3,h2⟩:=Got.bind_ok h2;unfold wantS at h3;rw [if_neg (by omega)] at h3;cases h3
      ·exact .inr h7
    unfold loopF;rw [if_neg g0,g1];simp only [Got.bind];by_cases h7:kind=7
    ·rw [if_pos h7] at h2 ⊢;obtain ⟨T3,h3,h2⟩:=Got.bind_ok h2;obtain ⟨T4,h4,h2⟩:=Got.bind_ok h2;obtain ⟨v,h5,h2⟩:=Got.bind_ok h2;obtain ⟨T3',g3,e3⟩:=want_ext hx hR (by decide) g2 h3;obtain ⟨T4',g4,e4⟩:=want_ext hx hR (by decide) e3 h4;rw [g3];simp only [Got.bind];rw [g4];rcases kk with kk|kk
     ·rw [kk];exact key T4 T4' _ v e4 h5 h2
     ·exact absurd h7 kk
    ·rw [if_neg h7] at h2 ⊢;obtain ⟨v,h5,h2⟩:=Got.bind_ok h2;exact key T2 T2' _ v g2 h5 h2
end
end
section
variable {x:L8} (hx:blk_ x)
end
mutual
theorem valF_mono:∀ (f f' dp:Nat) (T:Tk),(valF f dp T).In→f≤f'→valF f' dp T=valF f dp T
 | 0,_,_,_,h,_=>(h [] (by simp [valF])).elim
 | f+1,f',dp,T,h,hf=>by
   obtain ⟨g,rfl⟩:∃ g,f'=g+1:=⟨f' - 1,by omega⟩;unfold valF at h ⊢;by_cases a1:1≤T.k∧T.k≤5
   ·rw [if_pos a1,if_pos a1]
   rw [if_neg a1] at h;rw [if_neg a1,if_neg a1];by_cases a2:T.k=91
   ·rw [if_pos a2] at h;rw [if_pos a2,if_pos a2];exact manyF_mono f g 6 93 (dp+1) T.t T h (by omega)
   rw [if_neg a2] at h;rw [if_neg a2,if_neg a2];by_cases a3:T.k=123
   ·rw [if_pos a3] at h;rw [if_pos a3,if_pos a3];exact manyF_mono f g 7 125 (dp+1) T.t T h (by omega)
   ·rw [if_neg a3,if_neg a3]
theorem manyF_mono:∀ (f f' kind shut dp:Nat) (t:L8) (T:Tk),(manyF f kind shut dp t T).In→f≤f'→manyF f' kind shut dp t T=manyF f kind shut dp t T
 | 0,_,_,_,_,_,_,h,_=>(h [] (by simp [manyF])).elim
 | f+1,f',kind,shut,dp,t,T,h,hf=>by
   obtain ⟨g,rfl⟩:∃ g,f'=g+1:=⟨f' - 1,by omega⟩;unfold manyF at h ⊢;split
   ·rfl
   ·next hd=>
    rw [if_neg hd] at h;cases hn:nextS T.s with
    | bad p e=>rfl
    | ok T1=>
      rw [hn] at h;exact loopF_mono f g kind shut dp T1 true t [] [] h (by omega)
theorem loopF_mono:∀ (f f' kind shut dp:Nat) (T:Tk) (first:Bool) (t:L8) (ks:List L8) (vs:List JV),(loopF f kind shut dp T first t ks vs).In→f≤f'→loopF f' kind shut dp T first t ks vs=loopF f kind shut dp T first t ks vs
 | 0,_,_,_,_,_,_,_,_,_,h,_=>(h [] (by simp [loopF])).elim
 | f+1,f',kind,shut,dp,T,first,t,ks,vs,h,hf=>by
   obtain ⟨g,rfl⟩:∃ g,f'=g+1:=⟨f' - 1,by omega⟩;unfold loopF at h ⊢;by_cases a1:T.k=shut
   ·rw [if_pos a1,if_pos a1]
   rw [if_neg a1] at h;rw [if_neg a1,if_neg a1];have key:∀ (T4:Tk) (ks':List L8),((valF f dp T4).bind fun r=>loopF f kind shut dp r.2 false t ks' (vs++[r.1])).In →
    ((valF g dp T4).bind fun r=>loopF g kind shut dp r.2 false t ks' (vs++[r.1]))=((valF f dp T4).bind fun r=>loopF f kind shut dp r.2 false t ks' (vs++[r.1])):=fun T4 ks' q=>by
    rw [valF_mono f g dp T4 q.of_bind (by omega)];cases hv:valF f dp T4 with
    | bad p e=>rfl
    | ok r=>
      rw [hv] at q;exact loopF_mono f g kind shut dp r.2 false t ks' _ q (by omega)
   cases hg:(if first then Got.ok T else wantS 44 T) with
   | bad p e=>rfl
   | ok T2=>
     rw [hg] at h;simp only [Got.bind] at h ⊢;by_cases h7:kind=7
     ·rw [if_pos h7] at h;rw [if_pos h7,if_pos h7];cases h3:wantS 5 T2 with
      | bad p e=>rfl
      | ok T3=>
        rw [h3] at h;simp only [Got.bind] at h ⊢;cases h4:wantS 58 T3 with
        | bad p e=>rfl
        | ok T4=>
          rw [h4] at h;exact key T4 _ h
     ·rw [if_neg h7] at h;rw [if_neg h7,if_neg h7];exact key T2 _ h
end
def topS (F:Nat) (u:L8):Got JV:=(nextS u).bind fun T0=>(valF F 0 T0).bind fun r=>if r.2.k=0 then .ok r.1 else .bad r.2.ts 11
theorem top_ok {u:L8} {F:Nat} {J:JV} (h:topS F u=.ok J):∃ T0 T1,nextS u=.ok T0∧valF F 0 T0=.ok (J,T1)∧T1.k=0:=by
 unfold topS at h;obtain ⟨T0,h0,h⟩:=Got.bind_ok h;obtain ⟨⟨J1,T1⟩,h1,h⟩:=Got.bind_ok h;dsimp only at h;split at h
 ·next hk=>
  injection h with h;subst h;exact ⟨T0,T1,h0,h1,hk⟩
 ·cases h
theorem val_k {F dp:Nat} {T:Tk} {r:JV × Tk} (h:valF F dp T=.ok r):T.k≠0∧T.k≠93:=by
 cases F with
 | zero=>simp [valF] at h
 | succ F=>
   unfold valF at h;refine ⟨fun e=>?_,fun e=>?_⟩
   ·rw [if_neg (by omega),if_neg (by omega),if_neg (by omega)] at h;cases h
   ·rw [if_neg (by omega),if_neg (by omega),if_neg (by omega)] at h;cases h
theorem item {a x:L8} {J:JV} {F G:Nat} (hx:dl x) {Tr:Tk} (hR:nextS x=.ok Tr) (h:topS F a=.ok J) (hG:F≤G) :
 ∃ T',nextS (a++x)=.ok T'∧T'.k≠93∧(valF G 1 T'=.ok (J,Tr) ∨ ∃ p,valF G 1 T'=.bad p 12):=by
 obtain ⟨T0,T1,h0,h1,hk⟩:=top_ok h;obtain ⟨T0',g0,x0⟩:=next_ext hx ⟨Tr,hR⟩ h0;have hk93:=val_k h1;refine ⟨T0',g0,?_,?_⟩
 ·rcases x0 with ⟨_,rfl⟩|⟨q,_⟩
  ·exact hk93.2
  ·exact absurd q hk93.1
 ·have hv:=valF_ext hx ⟨Tr,hR⟩ 1 F 0 T0 T0' J T1 x0 h1;rcases hv with ⟨T1',g1,x1⟩|⟨_,p,g1⟩
  ·rw [Nat.zero_add] at g1;rw [valF_mono F G 1 T0' (by rw [g1];exact Got.In.ok _) hG,g1];rcases x1 with ⟨q,_⟩|⟨_,q⟩
   ·exact absurd hk q
   ·rw [hR] at q;injection q with q;rw [q];exact .inl rfl
  ·rw [Nat.zero_add] at g1;rw [valF_mono F G 1 T0' (by rw [g1];intro p' e;injection e with _ e;cases e) hG,g1];exact .inr ⟨p,rfl⟩
def SameC (n:Nat):Prop:=∀ (w:World) (J J':JV) (cs cs':List Value),szJ J≤n→VRd w (fun j=>j<w.heap.size) J cs→VRd w (fun j=>j<w.heap.size) J' cs' →
 Calls Tryz.prog 14 #[.agg cs.toArray,.agg cs'.toArray] w fun e w'=>e=.returned (.bool (eqJ J J'))∧Below w.heap.size w w'
theorem str_ne {t t':L8} (h:t≠t'):((⟨t.toArray⟩:ByteArray) == ⟨t'.toArray⟩)=false:=by
 rw [Bool.eq_false_iff];intro e;have e2:t.toArray=t'.toArray:=eq_of_beq (show (t.toArray == t'.toArray)=true from e);exact h (by simpa using congrArg Array.toList e2)
theorem four_cells {w:World} {ad:Addr} {o:Nat} {v0 v1 v2 v3:Value} (h0:w.cell? (ad.add o)=some v0) (h1:w.cell? (ad.add (o+1))=some v1) (h2:w.cell? (ad.add (o+2))=some v2) (h3:w.cell? (ad.add (o+3))=some v3) :
 w.cell? (ad.add o)=some v0∧w.cell? ⟨(ad.add o).block,(ad.add o).off+1,none⟩=some v1∧w.cell? ⟨(ad.add o).block,(ad.add o).off+2,none⟩=some v2∧w.cell? ⟨(ad.add o).block,(ad.add o).off+3,none⟩=some v3:=by
 have hs:=spot_none h0;rw [add_plain _ 1 hs,add_plain _ 2 hs,add_plain _ 3 hs,add_of_add,add_of_add,add_of_add];exact ⟨h0,h1,h2,h3⟩
def blkOf (c:UInt8):UInt8:=([32,9,10,13]:L8).getD (c.toNat % 4) 0
theorem own_rb' {w:World} {base n c:Nat} {A:Option Addr} {l:L8} (h:w.ownsRow base T8 1 (.slice A n c) n (cs8 l)):RB w w.heap.size A n l:=Reads.of_own h
theorem ba_app (a b:L8):(⟨a.toArray⟩++⟨b.toArray⟩:ByteArray)=⟨(a++b).toArray⟩:=by
 apply ByteArray.ext;rw [ByteArray.data_append];simp
def gotJ (g:Got JV):JV:=match g with
 | .ok J=>J
 | .bad _ _=>.mk 0 [] [] []
def gotE (g:Got JV):Nat:=match g with
 | .ok _=>0
 | .bad _ e=>e
theorem parse_uni {w:World} {A:Option Addr} {n c:Nat} {l:L8} (hr:RB w w.heap.size A n l) (hc:n≤c) (hT:Tabs w) (hA:∀ ad,A=some ad→ad.block<w.heap.size) :
 Calls Tryz.prog 13 #[.slice A n c] w fun e w'=>Below w.heap.size w w' ∧ ∃ (k:Int) (t:ByteArray) (A1:Option Addr) (n1 c1:Nat) (A2:Option Addr) (n2 c2:Nat) (at_:Int),
  e=.returned (.tuple #[.agg #[.int .i64 k,.string t,.slice A1 n1 c1,.slice A2 n2 c2],.int .i64 at_,.int .i64 (gotE (parseS l):Int)])∧VRd w' (fun j=>j<w'.heap.size) (gotJ (parseS l)) [.int .i64 k,.string t,.slice A1 n1 c1,.slice A2 n2 c2]:=by
 refine (parse_to hr hc hT hA).mono ?_;rintro e w' ⟨hb,hr⟩;refine ⟨hb,?_⟩;rcases hr with ⟨J,cs,hp,rfl,hv⟩|⟨p,e0,hp,_,rfl⟩
 ·rw [hp];obtain ⟨k,t,A1,n1,c1,A2,n2,c2,rfl⟩:=hv.four;exact ⟨k,t,A1,n1,c1,A2,n2,c2,0,rfl,hv.all⟩
 ·rw [hp];exact ⟨0,_,none,0,0,none,0,0,_,rfl,vrd_leaf 0 []⟩
def qFrom:L8:=[34,92,8,12,10,13,9]
def qTo:L8:=[34,92,98,102,110,114,116]
def qHex:L8:=[48,49,50,51,52,53,54,55,56,57,97,98,99,100,101,102]
def qB (c:UInt8):L8:=if 0≤Lib.indexByte qFrom c then [92,qTo.getD (Lib.indexByte qFrom c).toNat 0] else if c.toNat<32 then [92,117,48,48,qHex.getD (c.toNat / 16) 0,qHex.getD (c.toNat % 16) 0] else [c]
def quoteL (s:L8):L8:=34 :: (s.flatMap qB++[34])
theorem q_at:∀ c:UInt8,(∃ k:Nat,k<7∧Lib.indexByte qFrom c=(k:Int)∧[92,qTo.getD k 0]=qB c)∨(Lib.indexByte qFrom c = -1∧(c.toNat<32→[92,117,48,48,qHex.getD (c.toNat / 16) 0,qHex.getD (c.toNat % 16) 0]=qB c)∧(32≤c.toNat→[c]=qB c)):=by
 intro c;exact u8_all (fun c=>(∃ k:Nat,k<7∧Lib.indexByte qFrom c=(k:Int)∧[92,qTo.getD k 0]=qB c)∨(Lib.indexByte qFrom c = -1∧(c.toNat<32→[92,117,48,48,qHex.getD (c.toNat / 16) 0,qHex.getD (c.toNat % 16) 0]=qB c)∧(32≤c.toNat→[c]=qB c))) (by decide +kernel) c
theorem put_at {base wb:Nat} {x:Option L8} {W:World} (s:L8) (sb:ByteArray) (hsb:sb=⟨s.toArray⟩) (hs:s.length≤4000000) (h:WrX base wb x W) (hb:base≤W.heap.size) :
 Calls Tryz.prog 108 #[.pointer (some ⟨wb,0,none⟩),.string sb] W fun e W'=>e=.returned (.tuple #[])∧WrX base wb (putO x s) W'∧Below base W W'∧KT W W':=by
 subst hsb;exact put_any s hs h hb
theorem one_cut {s:L8} {j:Nat} (h:j<s.length) {y:UInt8} (hy:(⟨s.toArray⟩:ByteArray)[j]'(by show j<s.toArray.size;simpa using h)=y):(⟨s.toArray⟩:ByteArray).extract j (j+1)=⟨[y].toArray⟩:=by
 have hy':s[j]=y:=hy;apply ByteArray.ext;rw [ByteArray.data_extract];simp [List.extract_eq_take_drop];rw [List.drop_eq_getElem_cons h,hy'];simp
theorem hex_cut {a:Nat} (h:a<16):(⟨#[48,49,50,51,52,53,54,55,56,57,97,98,99,100,101,102]⟩:ByteArray).extract a (a+1)=⟨[qHex.getD a 0].toArray⟩:=by
 have:∀ a:Fin 16,(⟨#[48,49,50,51,52,53,54,55,56,57,97,98,99,100,101,102]⟩:ByteArray).extract a.val (a.val+1)=⟨[qHex.getD a.val 0].toArray⟩:=by decide +kernel
 exact this ⟨a,h⟩
theorem Wr.below {base wb B:Nat} {x:Option L8} {W W':World} {o:L8} {bv:Value} (h:Wr base wb x W o bv) (hb:Below W.heap.size W W'):Wr base wb x W' o bv:=⟨h.blk.below hb h.blk.lt,own_later h.row hb,h.len,h.eq,h.le,h.ne⟩
theorem wrx_below {base wb:Nat} {x:Option L8} {W W':World} (h:WrX base wb x W) (hb:Below W.heap.size W W'):WrX base wb x W':=by
 obtain ⟨o,bv,h⟩:=h;exact ⟨o,bv,h.below (B:=0) hb⟩
theorem take_q {s:L8} {j:Nat} (h:j<s.length) {x:UInt8} (hx:s[j]=x) (X:Option L8):putO (putO X (34 :: (s.take j).flatMap qB)) (qB x)=putO X (34 :: (s.take (j+1)).flatMap qB):=by
 rw [putO_app,List.take_succ_eq_append_getElem h,List.flatMap_append,hx];simp
set_option maxRecDepth 100000 in
set_option maxHeartbeats 600000 in
theorem wstr_any {base wb:Nat} {x:Option L8} {W:World} (s:L8) (hs:s.length≤9223372036854775807) (h:WrX base wb x W) (hb:base≤W.heap.size) :
 Calls Tryz.prog 109 #[.pointer (some ⟨wb,0,none⟩),.string ⟨s.toArray⟩] W fun e W'=>e=.returned (.tuple #[])∧WrX base wb (putO x (quoteL s)) W'∧Below base W W'∧KT W W':=by
 have H:=hide h;clear h
 go_enter Tryz.func109,Tryz.ntmps109
 go_wp2_with (go_at_call 108;(refine (put_at [34] _ (by rfl) (by decide) H.out hb).mono ?_);rintro e w1 ⟨rfl,hx,hbl,hkt⟩;have HX1:=hide hx;have HB1:=hide hbl;have HT1:=hide hkt;clear hx hbl hkt)
 go_loopw [4] (fun iv wr=>∃ j:Nat,iv=.int .i64 (j:Int)∧j≤s.length∧Hid (WrX base wb (putO x (34 :: (s.take j).flatMap qB)) wr)∧Hid (Below base W wr)∧Hid (KT W wr)) (fun iv _=>s.length - (intOf iv).toNat)
 case atStart=>exact ⟨0,by go_num,by omega,HX1,HB1,HT1⟩
 case round=>
  clear HX1 HB1 HT1;obtain ⟨j,rfl,hj,HX,HB,HTT⟩:=hrel;by_cases hlt:j<s.length
  ·obtain ⟨y,hy⟩:∃ y,s[j]=y:=⟨_,rfl⟩;have hxs:(⟨s.toArray⟩:ByteArray)[j]'(by show j<s.toArray.size;simpa using hlt)=y:=hy;have HT:=hide (take_q hlt hy x);clear hy;rcases q_at y with ⟨k,hk7,hki,hkt⟩|⟨hki,hlo,hhi⟩
   ·have HK:=hide hki;have HQ:=hide hkt;clear hki hkt;have d1:decide ((0:Int)≤(k:Int))=true:=by simp
    have hcut:(⟨#[34,92,98,102,110,114,116]⟩:ByteArray).extract k (k+1)=⟨[qTo.getD k 0].toArray⟩:=by rcases (show k=0∨k=1∨k=2∨k=3∨k=4∨k=5∨k=6 by omega) with rfl|rfl|rfl|rfl|rfl|rfl|rfl <;> rfl
    go_wp2_with (first|(go_at_call 124;(refine (Tryz.strings_IndexByte ⟨qFrom.toArray⟩ _ _).mono ?_);rw [show Lib.indexByte (⟨qFrom.toArray⟩:ByteArray).data.toList (((y.toNat:Int)).toNat).toUInt8=(k:Int) by rw [byte_back];exact HK.out];rintro e w1 ⟨rfl,rfl⟩)|(go_at_call 108;(refine (put_at (qB y) _ (by rw [← HQ.out];exact ba_app [92] [qTo.getD k 0]) (by rw [← HQ.out];simp) HX.out (Nat.le_trans hb HB.out.size)).mono ?_);rintro e w2 ⟨rfl,hx,hbl,hkt⟩;(rw [HT.out] at hx);have HX2:=hide hx;have HB2:=hide (HB.out.trans hbl);have HT2:=hide (HTT.out.trans hkt);clear hx hbl hkt))
    go_roundw
    case rel=>exact ⟨j+1,by go_num,by omega,HX2,HB2,HT2⟩
    case measure=>simp [intOf];omega
   ·have HK:=hide hki;clear hki;have d1:decide ((0:Int) ≤ -1)=false:=by decide
    by_cases hlt32:y.toNat<32
    ·have d2:decide ((y.toNat:Int)<32)=true:=by simp;omega
     have HQ:=hide (hlo hlt32);clear hlo hhi;go_upto_region 10 with (go_at_call 124;(refine (Tryz.strings_IndexByte ⟨qFrom.toArray⟩ _ _).mono ?_);rw [show Lib.indexByte (⟨qFrom.toArray⟩:ByteArray).data.toList (((y.toNat:Int)).toNat).toUInt8 = -1 by rw [byte_back];exact HK.out];rintro e w1 ⟨rfl,rfl⟩)
     obtain ⟨a,ha⟩:∃ a,y.toNat / 16=a:=⟨_,rfl⟩;obtain ⟨c,hc⟩:∃ c,y.toNat % 16=c:=⟨_,rfl⟩;have ha16:a<16:=by omega
     have hc16:c<16:=by omega
     have e1:(y.toNat:Int) / 16=(a:Int):=by omega
     have e2:IntKind.u8.wrap ((a:Int)+1)=(a:Int)+1:=by simp [IntKind.wrap,IntKind.bits,IntKind.signed];omega
     have e3:bits .and .u8 (y.toNat:Int) 15=(c:Int):=hc ▸ u8_all (fun y=>bits .and .u8 (y.toNat:Int) 15=((y.toNat % 16:Nat):Int)) (by decide +kernel) y;have e4:IntKind.u8.wrap ((c:Int)+1)=(c:Int)+1:=by simp [IntKind.wrap,IntKind.bits,IntKind.signed];omega
     have g1:(0:Int)≤(a:Int)+1:=by omega
     have g2:(a:Int)+1≤16:=by omega
     have g3:(a:Int)≤(a:Int)+1:=by omega
     have g4:(0:Int)≤(c:Int)+1:=by omega
     have g5:(c:Int)+1≤16:=by omega
     have g6:(c:Int)≤(c:Int)+1:=by omega
     have c1:=hex_cut ha16;have c2:=hex_cut hc16;rw [ha,hc] at HQ;clear ha hc;refine wp_region_stage (by kernel_rfl) (by kernel_rfl) 58 1
      [⟨some 40,false,0,1,fun _ v _=>v=.pointer (some ⟨wb,0,none⟩)⟩,
       ⟨some 41,false,0,1,fun _ v _=>v=.int .u8 (y.toNat:Int)⟩,
       ⟨some 42,false,0,1,fun _ v _=>v=.int .u8 (a:Int)⟩,
       ⟨some 43,false,0,1,fun _ v _=>v=.int .u8 (y.toNat:Int)⟩,
       ⟨some 44,false,0,1,fun _ v _=>v=.int .u8 (a:Int)⟩,
       ⟨some 45,false,0,1,fun _ v _=>v=.int .u8 ((a:Int)+1)⟩,
       ⟨some 46,false,0,1,fun _ v _=>v=.string ⟨[qHex.getD a 0].toArray⟩⟩,
       ⟨some 47,false,0,1,fun _ v _=>v=.string ⟨[92,117,48,48,qHex.getD a 0].toArray⟩⟩,
       ⟨some 48,false,0,1,fun _ v _=>v=.int .u8 (y.toNat:Int)⟩,
       ⟨some 49,false,0,1,fun _ v _=>v=.int .u8 (c:Int)⟩,
       ⟨some 50,false,0,1,fun _ v _=>v=.int .u8 (y.toNat:Int)⟩,
       ⟨some 51,false,0,1,fun _ v _=>v=.int .u8 (c:Int)⟩,
       ⟨some 52,false,0,1,fun _ v _=>v=.int .u8 ((c:Int)+1)⟩,
       ⟨some 53,false,0,1,fun _ v _=>v=.string ⟨[qHex.getD c 0].toArray⟩⟩,
       ⟨some 54,false,0,1,fun _ v _=>v=.string ⟨[92,117,48,48,qHex.getD a 0,qHex.getD c 0].toArray⟩⟩,
       ⟨some 55,true,0,0,fun _ v _=>v=.tuple #[]⟩] (fun st w'=>WrX base wb (putO x (34 :: (s.take (if 1≤st then j+1 else j)).flatMap qB)) w'∧Below base W w'∧KT W w') (fun _ _ _=>True) [40,41,42,43,44,45,46,47,48,49,50,51,52,53,54,55] rfl (by kernel_rfl) rfl ?g0 ?keep ?steps ?fin
     case keep=>
      intro e he s v w w' hm hsM ht hv;simp only [List.mem_cons,List.not_mem_nil,or_false] at he;rcases he with rfl|rfl|rfl|rfl|rfl|rfl|rfl|rfl|rfl|rfl|rfl|rfl|rfl|rfl|rfl|rfl
      all_goals first|exact hv
     case steps=>
      refine ⟨?_,?_,?_,?_,?_,?_,?_,?_,?_,?_,?_,?_,?_,?_,?_,?_,trivial⟩
      ·intro st hlo hhi ac w3 hg hG hd K hK;dsimp only at hlo hhi hG hK;exact op_move _ rfl (hK _ (hg.kp 0 (by simp)))
      ·intro st hlo hhi ac w3 hg hG hd K hK;dsimp only at hlo hhi hG hK;exact op_move _ rfl (hK _ (hg.kp 5 (by simp)))
      ·intro st hlo hhi ac w3 hg hG hd K hK;dsimp only at hlo hhi hG hK;have f1:=hd ⟨1,.data⟩ (by simp) rfl _ rfl _ rfl;(try simp [Act.eval] at f1);go_simp;exact hK _ rfl
      ·intro st hlo hhi ac w3 hg hG hd K hK;dsimp only at hlo hhi hG hK;exact op_move _ rfl (hK _ (hg.kp 5 (by simp)))
      ·intro st hlo hhi ac w3 hg hG hd K hK;dsimp only at hlo hhi hG hK;have f3:=hd ⟨3,.data⟩ (by simp) rfl _ rfl _ rfl;(try simp [Act.eval] at f3);go_simp;exact hK _ rfl
      ·intro st hlo hhi ac w3 hg hG hd K hK;dsimp only at hlo hhi hG hK;have f4:=hd ⟨4,.data⟩ (by simp) rfl _ rfl _ rfl;(try simp [Act.eval] at f4);go_simp;exact hK _ rfl
      ·intro st hlo hhi ac w3 hg hG hd K hK;dsimp only at hlo hhi hG hK;have f2:=hd ⟨2,.data⟩ (by simp) rfl _ rfl _ rfl;have f5:=hd ⟨5,.data⟩ (by simp) rfl _ rfl _ rfl;(try simp [Act.eval] at f2);(try simp [Act.eval] at f5);go_simp;exact hK _ rfl
      ·intro st hlo hhi ac w3 hg hG hd K hK;dsimp only at hlo hhi hG hK;have f6:=hd ⟨6,.data⟩ (by simp) rfl _ rfl _ rfl;(try simp [Act.eval] at f6);go_simp;exact hK _ rfl
      ·intro st hlo hhi ac w3 hg hG hd K hK;dsimp only at hlo hhi hG hK;exact op_move _ rfl (hK _ (hg.kp 5 (by simp)))
      ·intro st hlo hhi ac w3 hg hG hd K hK;dsimp only at hlo hhi hG hK;have f8:=hd ⟨8,.data⟩ (by simp) rfl _ rfl _ rfl;(try simp [Act.eval] at f8);go_simp;exact hK _ rfl
      ·intro st hlo hhi ac w3 hg hG hd K hK;dsimp only at hlo hhi hG hK;exact op_move _ rfl (hK _ (hg.kp 5 (by simp)))
      ·intro st hlo hhi ac w3 hg hG hd K hK;dsimp only at hlo hhi hG hK;have f10:=hd ⟨10,.data⟩ (by simp) rfl _ rfl _ rfl;(try simp [Act.eval] at f10);go_simp;exact hK _ rfl
      ·intro st hlo hhi ac w3 hg hG hd K hK;dsimp only at hlo hhi hG hK;have f11:=hd ⟨11,.data⟩ (by simp) rfl _ rfl _ rfl;(try simp [Act.eval] at f11);go_simp;exact hK _ rfl
      ·intro st hlo hhi ac w3 hg hG hd K hK;dsimp only at hlo hhi hG hK;have f9:=hd ⟨9,.data⟩ (by simp) rfl _ rfl _ rfl;have f12:=hd ⟨12,.data⟩ (by simp) rfl _ rfl _ rfl;(try simp [Act.eval] at f9);(try simp [Act.eval] at f12);go_simp;exact hK _ rfl
      ·intro st hlo hhi ac w3 hg hG hd K hK;dsimp only at hlo hhi hG hK;have f7:=hd ⟨7,.data⟩ (by simp) rfl _ rfl _ rfl;have f13:=hd ⟨13,.data⟩ (by simp) rfl _ rfl _ rfl;(try simp [Act.eval] at f7);(try simp [Act.eval] at f13);go_simp;exact hK _ rfl
      ·intro ac w3 hg hG hd K hK;dsimp only [Nat.zero_add,Nat.reduceAdd] at hG hK;have f0:=hd ⟨0,.data⟩ (by simp) rfl _ rfl _ rfl;have f14:=hd ⟨14,.data⟩ (by simp) rfl _ rfl _ rfl;have HG:=hide hG;clear hG;simp [Act.eval] at f0 f14;go_simp;(refine (put_at (qB y) _ (by rw [← HQ.out];rfl) (by rw [← HQ.out];simp) (show WrX base wb (putO x (34 :: (s.take j).flatMap qB)) w3 from HG.out.1) (Nat.le_trans hb HG.out.2.1.size)).mono ?_);rintro e w8 ⟨rfl,hx,hbl,hkt⟩;rw [HT.out] at hx;exact hK _ _ trivial ⟨hx,HG.out.2.1.trans hbl,HG.out.2.2.trans hkt⟩ rfl
     case g0=>exact ⟨wrx_below HX.out (bR.drew),HB.out.trans (bR.drew),HTT.out.trans (KT.of_below (bR.drew) (Nat.le_refl _))⟩
     case fin=>
      intro f9 w9 hG hall;have HX2:=hide hG.1;have HB2:=hide hG.2.1;have HT2:=hide hG.2.2;clear hall hG;simp only [fillF,List.map_cons,List.map_nil,List.foldl_cons,List.foldl_nil,Act.put,List.setIfInBounds_toArray,List.set_cons_zero,List.set_cons_succ];go_wp2_with fail
      go_roundw
      case rel=>exact ⟨j+1,by go_num,by omega,HX2,HB2,HT2⟩
      case measure=>simp [intOf];omega
    ·have d2:decide ((y.toNat:Int)<32)=false:=by simp;omega
     have HQ:=hide (hhi (by omega));clear hlo hhi;go_wp2_with (first|(go_at_call 124;(refine (Tryz.strings_IndexByte ⟨qFrom.toArray⟩ _ _).mono ?_);rw [show Lib.indexByte (⟨qFrom.toArray⟩:ByteArray).data.toList (((y.toNat:Int)).toNat).toUInt8 = -1 by rw [byte_back];exact HK.out];rintro e w1 ⟨rfl,rfl⟩)|(go_at_call 108;(refine (put_at (qB y) _ (by rw [← HQ.out];exact one_cut hlt hxs) (by rw [← HQ.out];simp) HX.out (Nat.le_trans hb HB.out.size)).mono ?_);rintro e w2 ⟨rfl,hx,hbl,hkt⟩;(rw [HT.out] at hx);have HX2:=hide hx;have HB2:=hide (HB.out.trans hbl);have HT2:=hide (HTT.out.trans hkt);clear hx hbl hkt))
     go_roundw
     case rel=>exact ⟨j+1,by go_num,by omega,HX2,HB2,HT2⟩
     case measure=>simp [intOf];omega
  ·have HQ:=hide (show putO (putO x (34 :: (s.take j).flatMap qB)) [34]=putO x (quoteL s) by rw [putO_app,List.take_of_length_le (by omega)];rfl);go_wp2_with (go_at_call 108;(refine (put_at [34] _ (by rfl) (by decide) HX.out (Nat.le_trans hb HB.out.size)).mono ?_);rintro e w2 ⟨rfl,hx,hbl,hkt⟩;(rw [HQ.out] at hx);have HX2:=hide hx;have HB2:=hide (HB.out.trans hbl);have HT2:=hide (HTT.out.trans hkt);clear hx hbl hkt)
   exact ⟨rfl,.tuple #[],results_none rfl _ _ _,rfl,HX2.out,HB2.out,HT2.out⟩
end Go.Proofs.YtacinobmcgcccaaGreatDoor
