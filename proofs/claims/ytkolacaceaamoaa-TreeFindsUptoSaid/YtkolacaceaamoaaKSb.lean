/- Plain: pages that are freed again; a node over trees of which it is known where they live; the list that join works on. -/
import Derived.Test.YtkolacaceaamoaaKSa
import Derived.Deep.CutBlock
set_option linter.unusedSimpArgs false
set_option linter.unusedVariables false
namespace Go.Proofs.Ytkolacaceaamoaa
open Go.RowKit
theorem free_upd {st:Cn} {p:Nat} (h1:st.getD p 0 = 1) (q:Nat):isFree (updN freeU st (p:Int)) q ↔ isFree st q ∨ q = p:=by
 have hp:p < st.length:=by
  rcases Nat.lt_or_ge p st.length with h | h
  ·exact h
  ·rw [List.getD_eq_getElem?_getD,List.getElem?_eq_none h] at h1
   simp at h1
 rw [free_iff,free_iff,updN_len,upd_getD]
 by_cases hq:p = q
 ·subst hq
  rw [if_pos ⟨rfl,hp⟩,h1]
  exact ⟨fun _=>.inr rfl,fun _=>⟨hp,by decide⟩⟩
 ·rw [if_neg (fun e=>hq e.1)]
  exact ⟨.inl,fun h=>h.elim id (fun e=>absurd e.symm hq)⟩
theorem upd_other {st:Cn} {p q:Nat} (h:q ≠ p):(updN freeU st (p:Int)).getD q 0 = st.getD q 0:=by
 rw [upd_getD,if_neg (fun e=>h e.1.symm)]
theorem Grew.drop {c:Pct} {m0 m:Pst} {T:List Nat} {p:Nat} (h:Grew c m0 m T) (hp:p ∈ T):Grew c m0 (m.dropped (updN freeU m.st (p:Int))) (T.erase p):=by
 have h1:=h.one p hp
 have hf:=free_upd h1
 have hme:∀ q,q ∈ T.erase p ↔ q ≠ p ∧ q ∈ T:=fun q=>h.nd.mem_erase_iff
 refine ⟨h.nd.erase p,fun q hq=>?_,fun q hq=>?_,fun q hq hn=>?_,fun q hq=>?_,fun q hq=>?_⟩
 ·obtain ⟨h2,h3⟩:=(hme q).1 hq
  obtain ⟨a,b,d,e⟩:=h.in_ q h3
  exact ⟨a,b,d,fun hx=>((hf q).1 hx).elim e h2⟩
 ·obtain ⟨a,b⟩:=h.old q hq
  refine ⟨fun hx=>((hf q).1 hx).elim a (fun e=>?_),b⟩
  subst e
  exact hq (h.in_ q hp).2.2.1
 ·by_cases e:q = p
  ·exact (hf q).2 (.inr e)
  ·exact (hf q).2 (.inl (h.rest q hq (fun hm=>hn ((hme q).2 ⟨e,hm⟩))))
 ·obtain ⟨h2,h3⟩:=(hme q).1 hq
  exact (upd_other h2).trans (h.one q h3)
 ·have:q ≠ p:=fun e=>by
   subst e
   exact hq (h.in_ q hp).2.2.1
  exact (upd_other this).trans (h.same q hq)
/-- A page dropped that lies behind the elder ones. -/
theorem dropS_app {c:Pct} {m0 m:Pst} {took T:List Nat} {p:Nat} (h:Grew c m0 m T) (hp:p ∉ took) :
  ∃ st',dropS (took ++ T,m.st) p = (took ++ T.erase p,st') ∧ Grew c m0 (m.dropped st') (T.erase p):=by
 by_cases hm:p ∈ T
 ·refine ⟨_,?_,h.drop hm⟩
  unfold dropS
  rw [if_pos (List.mem_append_right _ hm),List.erase_append_right _ hp]
 ·refine ⟨m.st,?_,?_⟩
  ·unfold dropS
   rw [if_neg (fun e=>(List.mem_append.1 e).elim hp hm),List.erase_of_not_mem hm]
  ·rw [List.erase_of_not_mem hm]
   exact h
/-- What a page's node has: items, or kids with their trees. -/
def NdIs (C:Int → Cn) (n:Nat) (V:Nat → Prop) (h:Nat) (nd:Nd) (is:List It):Prop:=
 (nd.2 = [] ∧ is = nd.1) ∨ (nd.1 = [] ∧ ∃ ks:List KI,ks.map Prod.fst = nd.2 ∧ is = ks.flatMap Prod.snd ∧ ∀ x ∈ ks,TrQ C n V h x.1.p x.2 ∧ ∃ i r,x.2 = i :: r ∧ i.k = x.1.k)
theorem NdIs.keep {C C':Int → Cn} {n:Nat} {V V':Nat → Prop} {h:Nat} {nd:Nd} {is:List It} (hC:∀ q,V q → C' (q:Int) = C q) (hV:∀ q,V q → V' q) (hi:NdIs C n V h nd is):NdIs C' n V' h nd is:=
 hi.imp id fun ⟨a,ks,b,d,e⟩=>⟨a,ks,b,d,fun x hx=>⟨(e x hx).1.keep hC hV,(e x hx).2⟩⟩
theorem NdIs.app {C:Int → Cn} {n:Nat} {V:Nat → Prop} {h:Nat} {a b:Nd} {is js:List It} (h1:NdIs C n V h a is) (h2:NdIs C n V h b js) (ho1:ndOk a) (ho2:ndOk b) (hl:decide (a.2 = []) = decide (b.2 = [])):NdIs C n V h (a.1 ++ b.1,a.2 ++ b.2) (is ++ js):=by
 have hl':a.2 = [] ↔ b.2 = []:=by simpa using hl
 rcases h1 with ⟨e1,rfl⟩ | ⟨e1,ks,k1,rfl,k3⟩
 ·have e2:=hl'.1 e1
  rcases h2 with ⟨_,rfl⟩ | ⟨e3,_⟩
  ·exact .inl ⟨by rw [e1,e2]; rfl,rfl⟩
  ·exact absurd e2 (fun e=>by rcases ho2.1 with ⟨q,_⟩ | ⟨_,q⟩; exact q e3; exact q e2)
 ·rcases h2 with ⟨e2,rfl⟩ | ⟨e2,js,j1,rfl,j3⟩
  ·have:=hl'.2 e2
   exact absurd this (fun e=>by rcases ho1.1 with ⟨q,_⟩ | ⟨_,q⟩; exact q e1; exact q this)
  ·refine .inr ⟨by rw [e1,e2]; rfl,ks ++ js,by rw [List.map_append,k1,j1],by rw [List.flatMap_append],fun x hx=>?_⟩
   exact (List.mem_append.1 hx).elim (k3 x) (j3 x)
theorem ndOk.app {a b:Nd} (ho1:ndOk a) (ho2:ndOk b) (hl:decide (a.2 = []) = decide (b.2 = [])) (hs:(ndB (a.1 ++ b.1) (a.2 ++ b.2)).length ≤ 505):ndOk (a.1 ++ b.1,a.2 ++ b.2):=by
 have hl':a.2 = [] ↔ b.2 = []:=by simpa using hl
 refine ⟨?_,fun i hi=>(List.mem_append.1 hi).elim (ho1.2.1 i) (ho2.2.1 i),fun i hi=>(List.mem_append.1 hi).elim (ho1.2.2.1 i) (ho2.2.2.1 i),hs⟩
 rcases ho1.1 with ⟨q1,q2⟩ | ⟨q1,q2⟩
 ·rcases ho2.1 with ⟨r1,r2⟩ | ⟨r1,r2⟩
  ·exact .inl ⟨by simp [q1],by simp [q2,r2]⟩
  ·exact absurd (hl'.1 q2) r2
 ·rcases ho2.1 with ⟨r1,r2⟩ | ⟨r1,r2⟩
  ·exact absurd (hl'.2 r2) q2
  ·exact .inr ⟨by simp [q1,r1],by simp [q2]⟩
theorem NdIs.head {C:Int → Cn} {n:Nat} {V:Nat → Prop} {h:Nat} {a:Nd} {is:List It} (h1:NdIs C n V h a is) (ho:ndOk a):∃ i r,is = i :: r ∧ i.k = hdK a:=by
 rcases h1 with ⟨e1,rfl⟩ | ⟨e1,ks,k1,rfl,k3⟩
 ·rcases ho.1 with ⟨q,_⟩ | ⟨_,q⟩
  ·cases ha:a.1 with
   | nil=>exact absurd ha q
   | cons i r=>exact ⟨i,r,rfl,by unfold hdK; rw [if_pos e1,ha]; rfl⟩
  ·exact absurd e1 q
 ·rcases ho.1 with ⟨q,_⟩ | ⟨_,q⟩
  ·exact absurd e1 q
  ·cases hk:ks with
   | nil=>rw [hk] at k1; exact absurd k1.symm q
   | cons x r=>
    obtain ⟨_,i,r2,e2,e3⟩:=k3 x (by rw [hk]; exact List.mem_cons_self)
    refine ⟨i,r2 ++ r.flatMap Prod.snd,by rw [List.flatMap_cons,e2]; rfl,?_⟩
    unfold hdK
    rw [if_neg q,e3,← k1,hk]
    rfl
/-- A kid, the trees below which live in V. -/
structure KidV (C:Int → Cn) (n:Nat) (V:Nat → Prop) (h:Nat) (x:KI):Prop where
 ok:kdOk x.1
 pg:pgB n (x.1.p:Int) = true
 nd:∃ nd:Nd,ndOk nd ∧ C x.1.p = sealC 2 (ndB nd.1 nd.2) ∧ NdIs C n V h nd x.2 ∧ hdK nd = x.1.k
theorem KidV.keep {C C':Int → Cn} {n:Nat} {V V':Nat → Prop} {h:Nat} {x:KI} (hC:∀ q,V q → C' (q:Int) = C q) (hV:∀ q,V q → V' q) (hx:C' x.1.p = C x.1.p) (hk:KidV C n V h x):KidV C' n V' h x:=by
 obtain ⟨a,b,nd,d,e,f,g⟩:=hk
 exact ⟨a,b,nd,d,hx.trans e,f.keep hC hV,g⟩
theorem KidV.tr {C:Int → Cn} {n:Nat} {V U:Nat → Prop} {h:Nat} {x:KI} (hV:∀ q,V q → U q) (hx:U x.1.p) (hk:KidV C n V h x):TrQ C n U (h + 1) x.1.p x.2 ∧ ∃ i r,x.2 = i :: r ∧ i.k = x.1.k:=by
 obtain ⟨a,b,nd,d,e,f,g⟩:=hk
 refine ⟨⟨b,hx,?_⟩,?_⟩
 ·rcases f with ⟨e1,e2⟩ | ⟨e1,ks,k1,k2,k3⟩
  ·refine .inl ⟨?_,?_,?_,?_⟩
   ·rcases d.1 with ⟨q,_⟩ | ⟨_,q⟩
    ·rw [e2]; exact q
    ·exact absurd e1 q
   ·rw [e2]; exact d.2.1
   ·have:=d.2.2.2
    rw [e1] at this
    rw [e2]; exact this
   ·rw [e1] at e
    rw [e2]; exact e
  ·refine .inr ⟨ks,?_,?_,?_,?_,k2,fun y hy=>⟨(k3 y hy).1.keep (fun _ _=>rfl) hV,(k3 y hy).2⟩⟩
   ·rcases d.1 with ⟨q,_⟩ | ⟨_,q⟩
    ·exact absurd e1 q
    ·intro e9
     rw [e9] at k1
     exact q k1.symm
   ·intro y hy
    exact d.2.2.1 _ (by rw [← k1]; exact List.mem_map_of_mem hy)
   ·have:=d.2.2.2
    rw [e1] at this
    rw [k1]; exact this
   ·rw [e1] at e
    rw [k1]; exact e
 ·obtain ⟨i,r,q1,q2⟩:=f.head d
  exact ⟨i,r,q1,q2.trans g⟩
theorem TrQ.nodeV {C:Int → Cn} {n:Nat} {U:Nat → Prop} {h p:Nat} {is:List It} (ht:TrQ C n U (h + 1) p is):pgB n (p:Int) = true ∧ U p ∧ ∃ nd:Nd,ndOk nd ∧ C p = sealC 2 (ndB nd.1 nd.2) ∧ NdIs C n U h nd is:=by
 obtain ⟨a,b,⟨d,e,f,g⟩ | ⟨ks,d,e,f,g,e2,k⟩⟩:=ht
 ·exact ⟨a,b,(is,[]),⟨.inl ⟨d,rfl⟩,e,fun k hk=>(by cases hk),f⟩,g,.inl ⟨rfl,rfl⟩⟩
 ·refine ⟨a,b,([],ks.map Prod.fst),⟨.inr ⟨rfl,fun e=>d (by simpa using e)⟩,fun k hk=>(by cases hk),fun k hk=>?_,f⟩,g,.inr ⟨rfl,ks,rfl,e2,k⟩⟩
  obtain ⟨y,hy,rfl⟩:=List.mem_map.1 hk
  exact e y hy
/-- The list that join works on: U = the pages that were there, V = the pages below the roots, T = the pages taken. -/
structure JL (c:Pct) (m:Pst) (U V:Nat → Prop) (T:List Nat) (h:Nat) (l:List KI):Prop where
 kid:∀ x ∈ l,KidV (m.C c) c.n V h x
 rt:∀ x ∈ l,U x.1.p ∨ x.1.p ∈ T
 vt:∀ q,V q → U q ∨ q ∈ T
 own:∀ x ∈ l,x.1.p ∈ T → ¬ V x.1.p
 dis:l.Pairwise (fun x y=>x.1.p = y.1.p → x.1.p ∉ T)
theorem pair_mid {α:Type} {R S:α → α → Prop} {l1 l2:List α} {a b z:α} (h:(l1 ++ a :: b :: l2).Pairwise R) (h1:∀ x y,x ∈ l1 ++ l2 → y ∈ l1 ++ l2 → R x y → S x y) (h2:∀ x ∈ l1,S x z) (h3:∀ x ∈ l2,S z x):(l1 ++ z :: l2).Pairwise S:=by
 rw [List.pairwise_append] at h ⊢
 obtain ⟨p1,p2,p3⟩:=h
 rw [List.pairwise_cons,List.pairwise_cons] at p2
 refine ⟨p1.imp_of_mem (fun hx hy=>h1 _ _ (List.mem_append_left _ hx) (List.mem_append_left _ hy)),?_,fun x hx y hy=>?_⟩
 ·rw [List.pairwise_cons]
  exact ⟨h3,p2.2.2.imp_of_mem (fun hx hy=>h1 _ _ (List.mem_append_right _ hx) (List.mem_append_right _ hy))⟩
 ·rcases List.mem_cons.1 hy with rfl | hy
  ·exact h2 x hx
  ·exact h1 _ _ (List.mem_append_left _ hx) (List.mem_append_right _ hy) (p3 x hx y (List.mem_cons_of_mem _ (List.mem_cons_of_mem _ hy)))
theorem JL.merge {c:Pct} {m0 m m2:Pst} {U V:Nat → Prop} {T took:List Nat} {h cp:Nat} {l1 l2:List KI} {a b:KI} {na nb:Nd} (hJ:JL c m U V T h (l1 ++ a :: b :: l2)) (hg:Grew c m0 m T)
  (hU:∀ q,U q → m0.used q) (hUt:∀ q,U q → q ∉ took) (htk:∀ q ∈ took,m0.used q) (hg2:Grew c m m2 [cp]) (hcp:kdOk ⟨a.1.k,cp⟩) (hpg:pgB c.n (cp:Int) = true)
  (ha:ndOk na) (hb:ndOk nb) (hia:NdIs (m.C c) c.n V h na a.2) (hib:NdIs (m.C c) c.n V h nb b.2) (hak:hdK na = a.1.k) (hlf:decide (na.2 = []) = decide (nb.2 = [])) (hsz:(ndB (na.1 ++ nb.1) (na.2 ++ nb.2)).length ≤ 505)
  (hc:m2.C c cp = sealC 2 (ndB (na.1 ++ nb.1) (na.2 ++ nb.2))) :
  ∃ st' T',[a.1.p,b.1.p].foldl dropS (took ++ (T ++ [cp]),m2.st) = (took ++ T',st') ∧ Grew c m0 (m2.dropped st') T' ∧ T'.length ≤ T.length + 1 ∧ JL c (m2.dropped st') U V T' h (l1 ++ (⟨a.1.k,cp⟩,a.2 ++ b.2) :: l2):=by
 have hin:∀ x,x ∈ l1 ++ l2 → x ∈ l1 ++ a :: b :: l2:=fun x hx=>by
  rcases List.mem_append.1 hx with hx | hx
  ·exact List.mem_append_left _ hx
  ·exact List.mem_append_right _ (List.mem_cons_of_mem _ (List.mem_cons_of_mem _ hx))
 have hma:a ∈ l1 ++ a :: b :: l2:=List.mem_append_right _ List.mem_cons_self
 have hmb:b ∈ l1 ++ a :: b :: l2:=List.mem_append_right _ (List.mem_cons_of_mem _ List.mem_cons_self)
 have hTt:∀ q ∈ T,q ∉ took:=fun q hq e=>htk q e (hg.in_ q hq).2.2.1
 have hold:∀ x ∈ l1 ++ a :: b :: l2,x.1.p ∉ took:=fun x hx=>(hJ.rt x hx).elim (hUt _) (hTt _)
 have hus:∀ q,(U q ∨ q ∈ T) → m.used q:=fun q hq=>hq.elim (fun hq=>(hg.old q (hU q hq)).1) (fun hq=>(hg.in_ q hq).2.2.2)
 have hcf:isFree m.st cp:=(hg2.in_ cp (by simp)).2.2.1
 have hcn:∀ x ∈ l1 ++ a :: b :: l2,x.1.p ≠ cp:=fun x hx e=>hus _ (hJ.rt x hx) (e ▸ hcf)
 have hgg:=hg.trans hg2
 obtain ⟨s1,e1,g1⟩:=dropS_app hgg (hold a hma)
 obtain ⟨s2,e2,g2⟩:=dropS_app (m:=m2.dropped s1) g1 (hold b hmb)
 have hnd:=hgg.nd
 have hT:∀ q,q ∈ ((T ++ [cp]).erase a.1.p).erase b.1.p ↔ q ≠ b.1.p ∧ q ≠ a.1.p ∧ (q ∈ T ∨ q = cp):=fun q=>by
  rw [(hnd.erase _).mem_erase_iff,hnd.mem_erase_iff,List.mem_append,List.mem_singleton]
 have hva:∀ q,V q → q ∈ T → q ≠ b.1.p ∧ q ≠ a.1.p:=fun q hv hq=>⟨fun e=>hJ.own b hmb (e ▸ hq) (e ▸ hv),fun e=>hJ.own a hma (e ▸ hq) (e ▸ hv)⟩
 have hdis:=hJ.dis
 rw [List.pairwise_append] at hdis
 obtain ⟨_,d2,d3⟩:=hdis
 rw [List.pairwise_cons,List.pairwise_cons] at d2
 have hra:∀ x ∈ l1 ++ l2,x.1.p ∈ T → x.1.p ≠ b.1.p ∧ x.1.p ≠ a.1.p:=fun x hx ht=>by
  rcases List.mem_append.1 hx with hx | hx
  ·exact ⟨fun e=>d3 x hx b (List.mem_cons_of_mem _ List.mem_cons_self) e ht,fun e=>d3 x hx a List.mem_cons_self e ht⟩
  ·exact ⟨fun e=>d2.2.1 x hx e.symm (e ▸ ht),fun e=>d2.1 x (List.mem_cons_of_mem _ hx) e.symm (e ▸ ht)⟩
 have hC:∀ q,m.used q → (m2.dropped s2).C c (q:Int) = m.C c q:=fun q hq=>(hg2.old q hq).2
 have hVC:∀ q,V q → (m2.dropped s2).C c (q:Int) = m.C c q:=fun q hq=>hC q (hus q (hJ.vt q hq))
 refine ⟨s2,((T ++ [cp]).erase a.1.p).erase b.1.p,?_,g2,?_,?_,?_,?_,?_,?_⟩
 ·rw [List.foldl_cons,List.foldl_cons,List.foldl_nil,e1]
  exact e2
 ·have h1:=List.length_erase_le (l:=(T ++ [cp]).erase a.1.p) (a:=b.1.p)
  have h2:=List.length_erase_le (l:=T ++ [cp]) (a:=a.1.p)
  rw [List.length_append,List.length_singleton] at h2
  omega
 ·intro x hx
  have:x = (⟨a.1.k,cp⟩,a.2 ++ b.2) ∨ x ∈ l1 ++ l2:=by
   rcases List.mem_append.1 hx with hx | hx
   ·exact .inr (List.mem_append_left _ hx)
   ·rcases List.mem_cons.1 hx with hx | hx
    ·exact .inl hx
    ·exact .inr (List.mem_append_right _ hx)
  rcases this with rfl | hx
  ·refine ⟨hcp,hpg,(na.1 ++ nb.1,na.2 ++ nb.2),ndOk.app ha hb hlf hsz,hc,(NdIs.app hia hib ha hb hlf).keep hVC (fun _ h=>h),?_⟩
   have:=(NdIs.app hia hib ha hb hlf).head (ndOk.app ha hb hlf hsz)
   obtain ⟨i,r,q1,q2⟩:=this
   obtain ⟨j,r2,q3,q4⟩:=hia.head ha
   rw [q3] at q1
   injection q1 with q5 _
   rw [← q2,← q5,q4,hak]
  ·exact (hJ.kid x (hin x hx)).keep hVC (fun _ h=>h) (hC _ (hus _ (hJ.rt x (hin x hx))))
 ·intro x hx
  have:x = (⟨a.1.k,cp⟩,a.2 ++ b.2) ∨ x ∈ l1 ++ l2:=by
   rcases List.mem_append.1 hx with hx | hx
   ·exact .inr (List.mem_append_left _ hx)
   ·rcases List.mem_cons.1 hx with hx | hx
    ·exact .inl hx
    ·exact .inr (List.mem_append_right _ hx)
  rcases this with rfl | hx
  ·exact .inr ((hT cp).2 ⟨(hcn b hmb).symm,(hcn a hma).symm,.inr rfl⟩)
  ·rcases hJ.rt x (hin x hx) with hu | ht
   ·exact .inl hu
   ·exact .inr ((hT _).2 ⟨(hra x hx ht).1,(hra x hx ht).2,.inl ht⟩)
 ·intro q hq
  rcases hJ.vt q hq with hu | ht
  ·exact .inl hu
  ·exact .inr ((hT q).2 ⟨(hva q hq ht).1,(hva q hq ht).2,.inl ht⟩)
 ·intro x hx ht hv
  rcases ((hT _).1 ht).2.2 with ht2 | e
  ·have:x = (⟨a.1.k,cp⟩,a.2 ++ b.2) ∨ x ∈ l1 ++ l2:=by
    rcases List.mem_append.1 hx with hx | hx
    ·exact .inr (List.mem_append_left _ hx)
    ·rcases List.mem_cons.1 hx with hx | hx
     ·exact .inl hx
     ·exact .inr (List.mem_append_right _ hx)
   rcases this with rfl | hx
   ·exact hus cp (.inr ht2) hcf
   ·exact hJ.own x (hin x hx) ht2 hv
  ·rw [e] at hv
   exact hus cp (hJ.vt cp hv) hcf
 ·refine pair_mid hJ.dis (fun x y hx hy hr e ht=>?_) (fun x hx e ht=>?_) (fun x hx e ht=>?_)
  ·rcases ((hT _).1 ht).2.2 with ht2 | e2
   ·exact hr e ht2
   ·exact hcn x (hin x hx) e2
  ·exact hcn x (hin x (List.mem_append_left _ hx)) e
  ·exact hcn x (hin x (List.mem_append_right _ hx)) e.symm
end Go.Proofs.Ytkolacaceaamoaa
/- A map of pages; rows that are cut; reading a node. -/
namespace Go.Proofs.Ytkolacaceaamoaa
open Go.RowKit
abbrev TMp:TypeId:=122
def MapB (w:World) (b n:Nat):Prop:=∃ D:DataW Value,w.ownsMap Try.prog 3 (plainElem Try.prog 4) b n D
theorem MapB.lt {w:World} {b n:Nat} (h:MapB w b n):b < w.heap.size:=by
 obtain ⟨D,h⟩:=h
 exact h.lt
theorem MapB.keep {w w':World} {b n:Nat} (h:MapB w b n) (hk:w'.heap[b]? = w.heap[b]?):MapB w' b n:=by
 obtain ⟨D,es,clock,hb,r⟩:=h
 exact ⟨D,es,clock,hk.trans hb,r⟩
theorem MapB.below {w w':World} {b n:Nat} (h:MapB w b n) (hb:Below w.heap.size w w'):MapB w' b n:=h.keep (hb.block b h.lt)
theorem MapB.no {w:World} {b n:Nat} (h:MapB w b n) {o:Nat} {v:Value}:w.cell? ⟨b,o,none⟩ ≠ some v:=by
 obtain ⟨D,es,clock,hb,r⟩:=h
 intro e
 unfold World.cell? at e
 rw [hb] at e
 cases e
theorem MapB.ne {w:World} {b n g:Nat} {t:TypeId} {cs:Array Value} (h:MapB w b n) (hg:Blk w g t cs):b ≠ g:=by
 rintro rfl
 obtain ⟨D,es,clock,hb,r⟩:=h
 unfold Blk at hg
 rw [hb] at hg
 cases hg
theorem MapB.ne_row {w:World} {b n base size k:Nat} {e:TypeId} {v:Value} {xs:List Value} (h:MapB w b n) (hr:w.ownsRow base e size v k xs):v.ownBlock ≠ some b:=by
 rcases hr.2 with ⟨rfl,_⟩ | ⟨g',cap,cur,rfl,_,hh,_⟩
 ·simp [Value.ownBlock]
 ·intro he
  have:g' = b:=by simpa [Value.ownBlock] using he
  subst this
  exact h.ne (show Blk w g' e cur from hh) rfl
theorem keyed_int:Maps.Keyed Try.prog 3:=Maps.int_keyed Try.underlying3
theorem plain_bool_inv {H:Type} {P:Program} {e:TypeId} {v:Value} {z:DataW H × List MemPlace} (he:P.underlying e = some .bool) (h:plainElem P e v = some z):∃ y,v = .bool y:=by
 unfold plainElem at h
 rw [he] at h
 cases v with
 | bool y=>exact ⟨y,rfl⟩
 | _=>simp at h
theorem MapB.look {w:World} {b n:Nat} (h:MapB w b n) (x:Nat) (hx:x < 65536):∃ v:Bool,(Instr.lookup TMp (.map (some b)) (.int .i64 (x:Int)) false).run Try.prog w = .ok (.bool v) w:=by
 obtain ⟨D,h⟩:=h
 obtain ⟨v,ps,hrun,hv⟩:=h.lookup keyed_int Try.underlying122 (Try.zeroValue4 w) (plainElem_bool Try.underlying4 false) (Maps.keyOf_int_mk Try.underlying3 (wf_key (k:=(x:Int)) ⟨by omega,by omega⟩))
 have:=plain_bool_inv Try.underlying4 hv
 obtain ⟨y,rfl⟩:=this
 exact ⟨y,hrun⟩
theorem MapB.put {w:World} {b n:Nat} (h:MapB w b n) (hn:n < 1000000000) (x:Nat) (hx:x < 65536):∃ w',(Instr.mapUpdate TMp (.map (some b)) (.int .i64 (x:Int)) (.bool true)).run Try.prog w = .ok () w' ∧ MapB w' b (n + 1) ∧ w.grownBy w' (some b):=by
 obtain ⟨D,h⟩:=h
 obtain ⟨w',hrun,h1,h2⟩:=h.update keyed_int Try.underlying122 (by unfold maxLen; omega) (key:=.int .i64 (x:Int)) (val:=.bool true) (Maps.keyOf_int_mk Try.underlying3 (wf_key (k:=(x:Int)) ⟨by omega,by omega⟩)) (plainElem_bool Try.underlying4 true)
 exact ⟨w',hrun,⟨_,h1⟩,h2⟩
/-- What is read in cells is not touched as a map turns. -/
theorem RF.off {w w':World} {F F':Nat → Prop} {k n fb:Nat} {A:Option Addr} {xs:List Value} (h:RF w F k A n xs) (h0:0 < k) (hm:∀ o v,w.cell? ⟨fb,o,none⟩ ≠ some v) (hk:∀ j,F j → j ≠ fb → j < w.heap.size → w'.heap[j]? = w.heap[j]?) (hF:∀ j,F j → j ≠ fb → j < w.heap.size → F' j):RF w' F' k A n xs:=by
 refine ⟨h.1,fun hn=>?_⟩
 obtain ⟨ad,e,hb,hc⟩:=h.2 hn
 have hx:0 < xs.length:=by rw [h.1]; exact Nat.mul_pos hn h0
 have q:=hc 0 _ (List.getElem?_eq_getElem hx)
 have hz:ad.add 0 = ad:=by unfold Addr.add; rw [if_pos rfl]
 rw [hz] at q
 have hlt:=cell_in q
 have hs:=spot_none q
 obtain ⟨b,o,sp⟩:=ad
 cases hs
 have hne:b ≠ fb:=fun e9=>hm o _ (e9 ▸ q)
 exact ⟨_,e,hF _ hb hne hlt,fun j u hu=>(heap_cell (by rw [block_of_add]; exact hk _ hb hne hlt)).trans (hc j u hu)⟩
theorem BS.off {w w':World} {F F':Nat → Prop} {fb:Nat} {v:Value} {l:Cn} (h:BS w F v l) (hm:∀ o v,w.cell? ⟨fb,o,none⟩ ≠ some v) (hk:∀ j,F j → j ≠ fb → j < w.heap.size → w'.heap[j]? = w.heap[j]?) (hF:∀ j,F j → j ≠ fb → j < w.heap.size → F' j):BS w' F' v l:=by
 obtain ⟨A,c,e,hc,hr⟩:=h
 exact ⟨A,c,e,hc,hr.off (by omega) hm hk hF⟩
def Offs {α:Type} (R:World → (Nat → Prop) → α → List Value → Prop):Prop:=∀ {w w':World} {F F':Nat → Prop} {fb:Nat},(∀ o v,w.cell? ⟨fb,o,none⟩ ≠ some v) → (∀ j,F j → j ≠ fb → j < w.heap.size → w'.heap[j]? = w.heap[j]?) → (∀ j,F j → j ≠ fb → j < w.heap.size → F' j) → ∀ a cs,R w F a cs → R w' F' a cs
theorem KdR.off:Offs KdR:=fun hm hk hF a cs h=>by
 obtain ⟨x,e,h1⟩:=h
 exact ⟨x,e,h1.off hm hk hF⟩
theorem ChR.off:Offs ChR:=fun hm hk hF a cs h=>by
 obtain ⟨x,y,e,h1,h2⟩:=h
 exact ⟨x,y,e,h1.off hm hk hF,h2.off hm hk hF⟩
theorem SLk.off {α:Type} {k:Nat} {R:World → (Nat → Prop) → α → List Value → Prop} (h0:0 < k) (hR:Offs R) {w w':World} {F F':Nat → Prop} {fb:Nat} {v:Value} {l:List α} (h:SLk k R w F v l) (hm:∀ o v,w.cell? ⟨fb,o,none⟩ ≠ some v) (hk:∀ j,F j → j ≠ fb → j < w.heap.size → w'.heap[j]? = w.heap[j]?) (hF:∀ j,F j → j ≠ fb → j < w.heap.size → F' j):SLk k R w' F' v l:=by
 obtain ⟨A,c,xs,e,hc,hr,hl⟩:=h
 exact ⟨A,c,xs,e,hc,hr.off h0 hm hk hF,LR.mono (fun a cs=>hR hm hk hF a cs) _ _ hl⟩
section
variable {α:Type} {k:Nat} {R:World → (Nat → Prop) → α → List Value → Prop} {w:World} {F:Nat → Prop} {A:Option Addr} {n c i:Nat} {l:List α}
theorem LR.split {R:α → List Value → Prop} (hk:∀ a cs,R a cs → cs.length = k):∀ (l:List α) (i:Nat) (xs:List Value),LR R l xs → LR R (l.take i) (xs.take (i * k)) ∧ LR R (l.drop i) (xs.drop (i * k))
 | l,0,xs,h=>by
  rw [Nat.zero_mul]
  exact ⟨rfl,h⟩
 | [],i + 1,xs,h=>by
  have:xs = []:=h
  subst this
  rw [List.take_nil,List.drop_nil,List.take_nil,List.drop_nil]
  exact ⟨rfl,rfl⟩
 | a :: l,i + 1,xs,⟨cs,rest,e,h1,h2⟩=>by
  subst e
  have hc:=hk a cs h1
  obtain ⟨q1,q2⟩:=LR.split hk l i rest h2
  have e1:(i + 1) * k = cs.length + i * k:=by rw [hc,Nat.add_mul]; omega
  rw [List.take_succ_cons,List.drop_succ_cons,e1,List.take_length_add_append,List.drop_length_add_append]
  exact ⟨⟨cs,_,rfl,h1,q1⟩,q2⟩
theorem SLk.cutTo (hk:∀ a cs,R w F a cs → cs.length = k) (h:SLk k R w F (.slice A n c) l) (hi:i ≤ n):SLk k R w F (.slice A i c) (l.take i):=by
 obtain ⟨A',c',xs,e,hc,hr,hl⟩:=h
 injection e with e1 e2 e3
 subst e1 e2 e3
 have hti:(l.take i).length = i:=by rw [List.length_take]; omega
 refine ⟨A,c,xs.take (i * k),by rw [hti],⟨by omega,hc.2⟩,?_,(LR.split hk l i xs hl).1⟩
 rw [hti]
 refine ⟨?_,fun hn=>?_⟩
 ·rw [List.length_take,hr.1]
  have:i * k ≤ l.length * k:=Nat.mul_le_mul_right k hi
  omega
 ·obtain ⟨ad,e,hb,hcell⟩:=hr.2 (by omega)
  refine ⟨ad,e,hb,fun j u hu=>hcell j u ?_⟩
  rw [List.getElem?_take] at hu
  split at hu
  ·exact hu
  ·cases hu
theorem SLk.cutFrom {b o:Nat} (hk:∀ a cs,R w F a cs → cs.length = k) (h0:0 < k) (h:SLk k R w F (.slice (some ⟨b,o,none⟩) n c) l) (hi:i ≤ n):SLk k R w F (.slice (some ⟨b,o + i * k,none⟩) (n - i) (c - i)) (l.drop i) ∧ (n = i → ∀ A,SLk k R w F (.slice A 0 (c - i)) (l.drop i)):=by
 obtain ⟨A',c',xs,e,hc,hr,hl⟩:=h
 injection e with e1 e2 e3
 subst e1 e2 e3
 have hdi:(l.drop i).length = l.length - i:=List.length_drop
 refine ⟨⟨some ⟨b,o + i * k,none⟩,c - i,xs.drop (i * k),by rw [hdi],⟨by omega,by omega⟩,?_,(LR.split hk l i xs hl).2⟩,fun hn A=>?_⟩
 ·rw [hdi]
  refine ⟨by rw [List.length_drop,hr.1,Nat.sub_mul],fun hn=>?_⟩
  obtain ⟨ad,e,hb,hcell⟩:=hr.2 (by omega)
  injection e with e
  subst e
  refine ⟨_,rfl,hb,fun j u hu=>?_⟩
  rw [List.getElem?_drop] at hu
  have:=hcell _ u hu
  rw [← add_plain _ _ rfl] at this ⊢
  simpa [Nat.add_assoc] using this
 ·have hnil:l.drop i = []:=List.drop_of_length_le (by omega)
  rw [hnil]
  exact ⟨A,c - i,[],rfl,⟨Nat.zero_le _,by omega⟩,RF.nil A,rfl⟩
end
section
variable {w w':World} {c:Pct} {B mb tb:Nat} {took:List Nat} {vt:Value} {m:Pst}
/-- Reading a node, whatever it has. -/
def RdN (wr:World) (c:Pct) (B mb tb:Nat) (took:List Nat) (vt:Value) (m:Pst) (nd:Nd) (g:Nat) (w':World):Prop:=
 NdR w' (fun j=>wr.heap.size ≤ j) g nd.1 nd.2 ∧ MkW w' c B mb tb took vt m ∧ MkS wr c mb vt m w' vt m
theorem RdN.below {wr w' w'':World} {nd:Nd} {g:Nat} (h:RdN wr c B mb tb took vt m nd g w') (hb:Below w'.heap.size w' w''):RdN wr c B mb tb took vt m nd g w'':=
 ⟨h.1.keep (fun j _ hlt=>hb.block j hlt) (fun j hj _=>hj),h.2.1.below hb,h.2.2.trans (MkS.low hb)⟩
theorem RdN.from_ {wr w1 w':World} {nd:Nd} {g:Nat} (hb:Below wr.heap.size wr w1) (h:RdN w1 c B mb tb took vt m nd g w'):RdN wr c B mb tb took vt m nd g w':=
 ⟨h.1.keep (fun _ _ _=>rfl) (fun j hj _=>Nat.le_trans hb.size hj),h.2.1,(MkS.low hb).trans h.2.2⟩
theorem read_nd (h:MkW w c B mb tb took vt m) (x:Nat) (hx:pgB c.n (x:Int) = true) {nd:Nd} (ho:ndOk nd) (hc:m.C c x = sealC 2 (ndB nd.1 nd.2)) :
  Calls Try.prog 27 #[.pointer (some ⟨tb,0,none⟩),.int .i64 (x:Int)] w fun e w'=>∃ g,e = .returned (.tuple #[.pointer (some ⟨g,0,none⟩),.int .i64 0]) ∧ RdN w c B mb tb took vt m nd g w':=by
 obtain ⟨is,ks⟩:=nd
 rcases ho with ⟨⟨q1,q2⟩ | ⟨q1,q2⟩,o1,o2,o3⟩
 ·simp only at q1 q2 o1 o2 o3 hc
  subst q2
  refine (read_leaf h.pg h.tr (x:Int) hx is q1 o1 o3 hc).mono ?_
  rintro e w' ⟨⟨g,rfl,hnd⟩,hp,hf⟩
  obtain ⟨h1,h2⟩:=h.full hp hf
  exact ⟨g,rfl,hnd,h1,h2⟩
 ·simp only at q1 q2 o1 o2 o3 hc
  subst q1
  refine (read_inner h.pg h.tr (x:Int) hx ks q2 o2 o3 hc).mono ?_
  rintro e w' ⟨⟨g,rfl,hnd⟩,hp,hf⟩
  obtain ⟨h1,h2⟩:=h.full hp hf
  exact ⟨g,rfl,hnd,h1,h2⟩
end
end Go.Proofs.Ytkolacaceaamoaa
/- The maker's join: what stands in a round; the two neighbours put together. -/
namespace Go.Proofs.Ytkolacaceaamoaa
open Go.RowKit
/-- The maker's memory, since make began at w. -/
structure JM (w w1:World) (c:Pct) (B mb tb:Nat) (took:List Nat) (vt0:Value) (m0:Pst) (T:List Nat) (vt:Value) (m:Pst) (fb:Nat):Prop where
 mw:MkW w1 c B mb tb (took ++ T) vt m
 st:MkS w c mb vt0 m0 w1 vt m
 fs:¬ MT c mb vt m fb
 fw:w.heap.size ≤ fb
 bb:B ≤ w.heap.size
 gr:Grew c m0 m T
 nn:m0.N + T.length ≤ m.N
structure JE (c:Pct) (took:List Nat) (m0:Pst) (U:Nat → Prop):Prop where
 us:∀ q,U q → m0.used q
 ut:∀ q,U q → q ∉ took
 tk:∀ q ∈ took,m0.used q
 tl:took.length ≤ 3000000
theorem JM.below {w w1 w2:World} {c:Pct} {B mb tb fb:Nat} {took T:List Nat} {vt0 vt:Value} {m0 m:Pst} (h:JM w w1 c B mb tb took vt0 m0 T vt m fb) (hb:Below w1.heap.size w1 w2):JM w w2 c B mb tb took vt0 m0 T vt m fb:=
 { h with mw:=h.mw.below hb,st:=h.st.trans (MkS.low hb) }
/-- It works on, and takes or frees nothing. -/
theorem JM.still {w w1 w2:World} {c:Pct} {B mb tb fb:Nat} {took T:List Nat} {vt0 vt:Value} {m0 m:Pst} (h:JM w w1 c B mb tb took vt0 m0 T vt m fb) (hm:MkW w2 c B mb tb (took ++ T) vt m) (hs:MkS w1 c mb vt m w2 vt m):JM w w2 c B mb tb took vt0 m0 T vt m fb:=
 { h with mw:=hm,st:=h.st.trans hs }
theorem MapB.step {w w':World} {c:Pct} {mb fb n:Nat} {vt vt':Value} {m m':Pst} (h:MapB w fb n) (hs:MkS w c mb vt m w' vt' m') (hf:¬ MT c mb vt m fb):MapB w' fb n ∧ ¬ MT c mb vt' m' fb:=
 ⟨h.keep (hs.fr.block fb h.lt hf),fun hm=>(hs.new fb hm).elim hf (fun e=>by have:=h.lt; omega)⟩
theorem Blk.step {w w':World} {c:Pct} {mb g:Nat} {t:TypeId} {cs:Array Value} {vt vt':Value} {m m':Pst} (h:Blk w g t cs) (hs:MkS w c mb vt m w' vt' m') (hf:¬ MT c mb vt m g):Blk w' g t cs ∧ ¬ MT c mb vt' m' g:=
 ⟨(hs.fr.block g h.lt hf).trans h,fun hm=>(hs.new g hm).elim hf (fun e=>by have:=h.lt; omega)⟩
/-- The map turns. -/
theorem MkW.mapped {w w':World} {c:Pct} {B mb tb fb n:Nat} {took:List Nat} {vt:Value} {m:Pst} (h:MkW w c B mb tb took vt m) (hm:MapB w fb n) (hf:¬ MT c mb vt m fb) (hg:w.grownBy w' (some fb)):MkW w' c B mb tb took vt m:=by
 have hk:∀ j,j < w.heap.size → j ≠ fb → w'.heap[j]? = w.heap[j]?:=fun j hj hn=>hg.block j hj (fun e=>hn (by injection e))
 have hfr:Fr (fun j=>j = fb) w w':=⟨hg.os,hg.tape,hg.output,hg.size,fun j hj hn=>hk j hj hn⟩
 exact ⟨Pg.keepF h.pg hfr (fun j hj e=>hf (.inl (e ▸ hj))),(hk _ h.tr.lt (fun e=>hm.ne h.tr e.symm)).trans h.tr,(hk _ h.mkb.lt (fun e=>hm.ne h.mkb e.symm)).trans h.mkb,row_keep h.tk (fun j hj=>hk j (h.tk.lt j hj).2 (fun e=>hm.ne_row h.tk (e ▸ hj))),h.nm,h.nt,h.nv⟩
theorem JM.mapped {w w1 w2:World} {c:Pct} {B mb tb fb n:Nat} {took T:List Nat} {vt0 vt:Value} {m0 m:Pst} (h:JM w w1 c B mb tb took vt0 m0 T vt m fb) (hm:MapB w1 fb n) (hg:w1.grownBy w2 (some fb)):JM w w2 c B mb tb took vt0 m0 T vt m fb:=
 { h with
  mw:=h.mw.mapped hm h.fs hg
  st:=⟨⟨hg.os.trans h.st.fr.os,hg.tape.trans h.st.fr.tape,hg.output.trans h.st.fr.output,Nat.le_trans h.st.fr.size hg.size,fun j hj hn=>(hg.block j (Nat.lt_of_lt_of_le hj h.st.fr.size) (fun e=>by injection e with e; have:=h.fw; omega)).trans (h.st.fr.block j hj hn)⟩,h.st.new⟩ }
section
variable (w:World) (c:Pct) (B mb tb fb:Nat) (took:List Nat) (vt0:Value) (m0:Pst) (U V:Nat → Prop) (h:Nat) (is:List It) (N1 K1 S1:Nat)
/-- What stands ahead of each round. -/
def JSt (wr:World) (A:Option Addr) (n cc:Nat):Prop:=
 ∃ (T:List Nat) (vt:Value) (m:Pst) (l:List KI) (cnt:Nat),JM w wr c B mb tb took vt0 m0 T vt m fb ∧ l.length = n ∧ SLk 2 KdR wr (Sf wr c mb vt m) (.slice A n cc) (l.map Prod.fst) ∧ MapB wr fb cnt ∧ JL c m U V T h l ∧ l.flatMap Prod.snd = is ∧ m.N + n ≤ N1 ∧ cnt + n ≤ K1 ∧ sumK (l.map Prod.fst) ≤ S1
end
def dropS':Nat → Code → Code
 | 0,c=>c
 | n + 1,.seq _ b=>dropS' n b
 | _,c=>c
def inLoopJ:Code → Code
 | .seq (.seq _ (.block _ (.loop (.seq _ (.block _ b))))) _=>b
 | c=>c
/-- join's round, from its k-th statement on. -/
noncomputable def BJ (k:Nat):Code:=dropS' k (inLoopJ (dropS' 1 ((Try.f56.body).getD .skip)))
noncomputable def CJ (k:Nat):Code:=match BJ k with
 | .seq a _=>a
 | c=>c
abbrev FJ (w:World) (c:Pct) (mb:Nat) (vt:Value) (m:Pst) (j:Nat):Prop:=Sf w c mb vt m j ∨ w.heap.size ≤ j
section
variable {Q:Exit → Act → World → Prop} {v3 v4 v5 v140:Value} {w:World} {c:Pct} {B mb tb fb:Nat} {took:List Nat} {vt0:Value} {m0:Pst} {U V:Nat → Prop} {h:Nat} {is:List It} {N1 K1 S1:Nat}
variable (Q v3 v4 v5 v140 w c B mb tb fb took vt0 m0 U V h is N1 K1 S1) in
def JNx (A:Option Addr) (n cc i:Nat):Prop:=
 (∀ (u9 u10 u11 u12 u13 u14 u15 u16 u17 u18 u19 u20 u21 u22 u23 u24 u25 u26 u27 u28 u29 u30 u31 u32 u33 u34 u35 u36 u37 u38 u39 u40 u41 u42 u43 u44 u45 u46 u47 u48 u49 u50 u51 u52 u53 u54 u55 u56 u57 u58 u59 u60 u61 u62 u63 u64 u65 u66 u67 u68 u69 u70 u71 u72 u73 u74 u75 u76 u77 u78 u79 u80 u81 u82 u83 u84 u85 u86 u87 u88 u89 u90 u91 u92 u93 u94 u95 u96 u97 u98 u99 u100 u101 u102 u103 u104 u105 u106 u107 u108 u109 u110 u111 u112 u113 u114 u115 u116 u117 u118 u119 u120 u121 u122 u123 u124 u125 u126 u127 u128 u129 u130 u131 u132 u133 u134 u135 u136 u137 u138 u139:Value) (A':Option Addr) (n' c' i':Nat) (w':World),JSt w c B mb tb fb took vt0 m0 U V h is N1 K1 S1 w' A' n' c' → n' + 1 = n → i' = i - 1 → Q .normal { tmps:=#[.pointer (some ⟨mb,0,none⟩),.slice A' n' c',.map (some fb),v3,v4,v5,.slice none 0 0,.int .i64 0,.int .i64 (i':Int),u9,u10,u11,u12,u13,u14,u15,u16,u17,u18,u19,u20,u21,u22,u23,u24,u25,u26,u27,u28,u29,u30,u31,u32,u33,u34,u35,u36,u37,u38,u39,u40,u41,u42,u43,u44,u45,u46,u47,u48,u49,u50,u51,u52,u53,u54,u55,u56,u57,u58,u59,u60,u61,u62,u63,u64,u65,u66,u67,u68,u69,u70,u71,u72,u73,u74,u75,u76,u77,u78,u79,u80,u81,u82,u83,u84,u85,u86,u87,u88,u89,u90,u91,u92,u93,u94,u95,u96,u97,u98,u99,u100,u101,u102,u103,u104,u105,u106,u107,u108,u109,u110,u111,u112,u113,u114,u115,u116,u117,u118,u119,u120,u121,u122,u123,u124,u125,u126,u127,u128,u129,u130,u131,u132,u133,u134,u135,u136,u137,u138,u139,v140],defers:=[] } w') ∧
 (∀ (u9 u10 u11 u12 u13 u14 u15 u16 u17 u18 u19 u20 u21 u22 u23 u24 u25 u26 u27 u28 u29 u30 u31 u32 u33 u34 u35 u36 u37 u38 u39 u40 u41 u42 u43 u44 u45 u46 u47 u48 u49 u50 u51 u52 u53 u54 u55 u56 u57 u58 u59 u60 u61 u62 u63 u64 u65 u66 u67 u68 u69 u70 u71 u72 u73 u74 u75 u76 u77 u78 u79 u80 u81 u82 u83 u84 u85 u86 u87 u88 u89 u90 u91 u92 u93 u94 u95 u96 u97 u98 u99 u100 u101 u102 u103 u104 u105 u106 u107 u108 u109 u110 u111 u112 u113 u114 u115 u116 u117 u118 u119 u120 u121 u122 u123 u124 u125 u126 u127 u128 u129 u130 u131 u132 u133 u134 u135 u136 u137 u138 u139:Value) (w':World),JSt w c B mb tb fb took vt0 m0 U V h is N1 K1 S1 w' A n cc → Q (.exit 1) { tmps:=#[.pointer (some ⟨mb,0,none⟩),.slice A n cc,.map (some fb),v3,v4,v5,.slice none 0 0,.int .i64 0,.int .i64 ((i:Int) + 1),u9,u10,u11,u12,u13,u14,u15,u16,u17,u18,u19,u20,u21,u22,u23,u24,u25,u26,u27,u28,u29,u30,u31,u32,u33,u34,u35,u36,u37,u38,u39,u40,u41,u42,u43,u44,u45,u46,u47,u48,u49,u50,u51,u52,u53,u54,u55,u56,u57,u58,u59,u60,u61,u62,u63,u64,u65,u66,u67,u68,u69,u70,u71,u72,u73,u74,u75,u76,u77,u78,u79,u80,u81,u82,u83,u84,u85,u86,u87,u88,u89,u90,u91,u92,u93,u94,u95,u96,u97,u98,u99,u100,u101,u102,u103,u104,u105,u106,u107,u108,u109,u110,u111,u112,u113,u114,u115,u116,u117,u118,u119,u120,u121,u122,u123,u124,u125,u126,u127,u128,u129,u130,u131,u132,u133,u134,u135,u136,u137,u138,u139,v140],defers:=[] } w') ∧
 (∀ (u1 u8 u9 u10 u11 u12 u13 u14 u15 u16 u17 u18 u19 u20 u21 u22 u23 u24 u25 u26 u27 u28 u29 u30 u31 u32 u33 u34 u35 u36 u37 u38 u39 u40 u41 u42 u43 u44 u45 u46 u47 u48 u49 u50 u51 u52 u53 u54 u55 u56 u57 u58 u59 u60 u61 u62 u63 u64 u65 u66 u67 u68 u69 u70 u71 u72 u73 u74 u75 u76 u77 u78 u79 u80 u81 u82 u83 u84 u85 u86 u87 u88 u89 u90 u91 u92 u93 u94 u95 u96 u97 u98 u99 u100 u101 u102 u103 u104 u105 u106 u107 u108 u109 u110 u111 u112 u113 u114 u115 u116 u117 u118 u119 u120 u121 u122 u123 u124 u125 u126 u127 u128 u129 u130 u131 u132 u133 u134 u135 u136 u137 u138 u139:Value) (T:List Nat) (vt:Value) (m:Pst) (w':World),JM w w' c B mb tb took vt0 m0 T vt m fb → m.N ≤ N1 → Q .ret { tmps:=#[.pointer (some ⟨mb,0,none⟩),u1,.map (some fb),v3,v4,v5,.slice none 0 0,.int .i64 16,u8,u9,u10,u11,u12,u13,u14,u15,u16,u17,u18,u19,u20,u21,u22,u23,u24,u25,u26,u27,u28,u29,u30,u31,u32,u33,u34,u35,u36,u37,u38,u39,u40,u41,u42,u43,u44,u45,u46,u47,u48,u49,u50,u51,u52,u53,u54,u55,u56,u57,u58,u59,u60,u61,u62,u63,u64,u65,u66,u67,u68,u69,u70,u71,u72,u73,u74,u75,u76,u77,u78,u79,u80,u81,u82,u83,u84,u85,u86,u87,u88,u89,u90,u91,u92,u93,u94,u95,u96,u97,u98,u99,u100,u101,u102,u103,u104,u105,u106,u107,u108,u109,u110,u111,u112,u113,u114,u115,u116,u117,u118,u119,u120,u121,u122,u123,u124,u125,u126,u127,u128,u129,u130,u131,u132,u133,u134,u135,u136,u137,u138,u139,v140],defers:=[] } w')
end
end Go.Proofs.Ytkolacaceaamoaa
