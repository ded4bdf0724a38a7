/- Plain: the items of kids, changed part by part; lists of kids put together; what make answers. -/
import Derived.Test.YtkolacaceaamoaaKSb
import Derived.Test.YtkolacaceaamoaaKSc
set_option linter.unusedSimpArgs false
set_option linter.unusedVariables false
namespace Go.Proofs.Ytkolacaceaamoaa
open Go.RowKit
open Go.Lib (compareBytes)
theorem cb_lt_le {a b c:Cn} (h1:compareBytes a b < 0) (h2:0 ≤ compareBytes c b):compareBytes a c < 0:=by
 by_cases h:compareBytes c b = 0
 ·rw [cb_zero.1 h]; exact h1
 ·refine cb_trans h1 ?_
  rw [cb_swap]
  omega
theorem mergeC_cc (i:It) (l:List It) (c:Ch) (t:List Ch):mergeC (i :: l) (c :: t) = if 0 < compareBytes c.k i.k then i :: mergeC l (c :: t) else if compareBytes c.k i.k = 0 then c.item ++ mergeC l t else c.item ++ mergeC (i :: l) t:=by rw [mergeC]
theorem mergeC_split {key:Cn}:∀ (a b:List It) (s t:List Ch),(∀ x ∈ a,compareBytes x.k key < 0) → (∀ x ∈ b,0 ≤ compareBytes x.k key) → (∀ c ∈ s,compareBytes c.k key < 0) → (∀ c ∈ t,0 ≤ compareBytes c.k key) → mergeC (a ++ b) (s ++ t) = mergeC a s ++ mergeC b t
 | [],b,[],t,_,_,_,_=>by rw [mergeC_none]; rfl
 | [],[],c :: s,t,ha,hb,hs,ht=>by
  show mergeC [] (c :: s ++ t) = mergeC [] (c :: s) ++ mergeC [] t
  rw [mergeC_nil,mergeC_nil,mergeC_nil,List.flatMap_append]
 | [],i :: b,c :: s,t,ha,hb,hs,ht=>by
  have ih:=mergeC_split [] (i :: b) s t ha hb (fun d hd=>hs d (List.mem_cons_of_mem _ hd)) ht
  have hci:compareBytes c.k i.k < 0:=cb_lt_le (hs c List.mem_cons_self) (hb i List.mem_cons_self)
  show mergeC (i :: b) (c :: (s ++ t)) = mergeC [] (c :: s) ++ mergeC (i :: b) t
  rw [mergeC_cc,if_neg (by omega),if_neg (by omega)]
  rw [List.nil_append] at ih
  rw [ih,mergeC_nil,mergeC_nil,List.flatMap_cons,List.append_assoc]
 | i :: a,b,[],[],ha,hb,hs,ht=>by
  show mergeC (i :: a ++ b) [] = mergeC (i :: a) [] ++ mergeC b []
  rw [mergeC_none,mergeC_none,mergeC_none]
 | i :: a,b,[],c :: t,ha,hb,hs,ht=>by
  have ih:=mergeC_split a b [] (c :: t) (fun x hx=>ha x (List.mem_cons_of_mem _ hx)) hb hs ht
  have hic:compareBytes i.k c.k < 0:=cb_lt_le (ha i List.mem_cons_self) (ht c List.mem_cons_self)
  have hci:0 < compareBytes c.k i.k:=by rw [cb_swap]; omega
  show mergeC (i :: (a ++ b)) (c :: t) = mergeC (i :: a) [] ++ mergeC b (c :: t)
  rw [mergeC_cc,if_pos hci]
  rw [List.nil_append,mergeC_none] at ih
  rw [ih,mergeC_none]
  rfl
 | i :: a,b,c :: s,t,ha,hb,hs,ht=>by
  have i1:=mergeC_split a b (c :: s) t (fun x hx=>ha x (List.mem_cons_of_mem _ hx)) hb hs ht
  have i2:=mergeC_split a b s t (fun x hx=>ha x (List.mem_cons_of_mem _ hx)) hb (fun d hd=>hs d (List.mem_cons_of_mem _ hd)) ht
  have i3:=mergeC_split (i :: a) b s t ha hb (fun d hd=>hs d (List.mem_cons_of_mem _ hd)) ht
  rw [List.cons_append] at i1 i3
  show mergeC (i :: (a ++ b)) (c :: (s ++ t)) = mergeC (i :: a) (c :: s) ++ mergeC b t
  rw [mergeC_cc,mergeC_cc]
  split
  ·rw [i1]; rfl
  ·split
   ·rw [i2,List.append_assoc]
   ·rw [i3,List.append_assoc]
termination_by a _ s _=>a.length + s.length
theorem found_split {t:List Ch} {key:Cn} {k:Nat} {f:Bool} (hr:RiseC t) (hf:FoundAt (t.map Ch.k) key k f):(∀ c ∈ t.take k,compareBytes c.k key < 0) ∧ (∀ c ∈ t.drop k,0 ≤ compareBytes c.k key):=by
 have hri:Rise (t.map Ch.k):=by
  unfold Rise
  rw [List.pairwise_map]
  exact hr
 have hat:∀ (i:Nat) (hi:i < t.length),cmpK (t.map Ch.k) key i = compareBytes t[i].k key:=fun i hi=>by
  unfold cmpK
  simp [List.getD,hi]
 refine ⟨fun c hc=>?_,fun c hc=>?_⟩
 ·obtain ⟨i,hi,rfl⟩:=List.getElem_of_mem hc
  rw [List.length_take] at hi
  rw [List.getElem_take,← hat i (by omega)]
  exact hf.ahead hri (by omega)
 ·obtain ⟨i,hi,rfl⟩:=List.getElem_of_mem hc
  rw [List.length_drop] at hi
  rw [List.getElem_drop,← hat (k + i) (by omega)]
  rcases Nat.eq_zero_or_pos i with rfl | h0
  ·exact hf.2.2.1 (by rw [List.length_map]; omega)
  ·have:=hf.behind hri (i:=k + i) (by omega) (by rw [List.length_map]; omega)
   omega
theorem sumI_app (l m:List It):sumI (l ++ m) = sumI l + sumI m:=by unfold sumI; simp
theorem sumI_cons (x:It) (l:List It):sumI (x :: l) = szI x + sumI l:=by unfold sumI; simp
theorem item_sum {c:Ch} (h:1 ≤ c.k.length ∧ c.k.length ≤ 32 ∧ c.v.length ≤ 128):sumI c.item ≤ 162:=by
 unfold Ch.item
 split
 ·simp [sumI]
 ·simp only [sumI,List.map_cons,List.map_nil,List.sum_cons,List.sum_nil,szI]
  omega
theorem mergeC_sum:∀ (l:List It) (t:List Ch),(∀ c ∈ t,1 ≤ c.k.length ∧ c.k.length ≤ 32 ∧ c.v.length ≤ 128) → sumI (mergeC l t) ≤ sumI l + 162 * t.length
 | l,[],_=>by rw [mergeC_none]; omega
 | [],c :: t,h=>by
  have ih:=mergeC_sum [] t (fun d hd=>h d (List.mem_cons_of_mem _ hd))
  rw [mergeC_nil] at ih ⊢
  rw [List.flatMap_cons,sumI_app,List.length_cons]
  have:=item_sum (h c List.mem_cons_self)
  omega
 | i :: l,c :: t,h=>by
  have i1:=mergeC_sum l (c :: t) h
  have i2:=mergeC_sum l t (fun d hd=>h d (List.mem_cons_of_mem _ hd))
  have i3:=mergeC_sum (i :: l) t (fun d hd=>h d (List.mem_cons_of_mem _ hd))
  have:=item_sum (h c List.mem_cons_self)
  rw [mergeC_cc]
  rw [sumI_cons] at i3 ⊢
  rw [List.length_cons] at i1 ⊢
  split
  ·rw [sumI_cons]; omega
  ·split
   ·rw [sumI_app]; omega
   ·rw [sumI_app]; omega
termination_by l t=>l.length + t.length
theorem cutI_sum {l:List It} (hl:∀ x ∈ l,itOk x):(cutF szI l).length ≤ 1 + (1 + sumI l) / 343:=cut_len szI (M:=162) (by omega) (l:=l) (fun x hx=>(hl x hx).sz)
theorem cutK_sum {l:List Kd} (hl:∀ x ∈ l,kdOk x):(cutF szK l).length ≤ 1 + (1 + sumK l) / 468:=cut_len szK (M:=37) (by omega) (l:=l) (fun x hx=>(hl x hx).sz)
theorem mergeC_okI {l:List It} {t:List Ch} (hl:∀ x ∈ l,itOk x) (h:∀ c ∈ t,1 ≤ c.k.length ∧ c.k.length ≤ 32 ∧ c.v.length ≤ 128):∀ x ∈ mergeC l t,itOk x:=fun x hx=>by
 rcases mergeC_mem l t x hx with h1 | ⟨c,hc,_,e⟩
 ·exact hl x h1
 ·rw [e]; exact h c hc
theorem TrQ.up {C:Int → Cn} {n:Nat} {U:Nat → Prop} {h p:Nat} {is:List It}:∀ k,TrQ C n U h p is → TrQ C n U (h + k) p is
 | 0,ht=>ht
 | k + 1,ht=>(TrQ.up k ht).mono
theorem NdIs.up {C:Int → Cn} {n:Nat} {V:Nat → Prop} {h:Nat} {nd:Nd} {is:List It} (k:Nat) (hi:NdIs C n V h nd is):NdIs C n V (h + k) nd is:=
 hi.imp id fun ⟨a,ks,b,d,e⟩=>⟨a,ks,b,d,fun x hx=>⟨(e x hx).1.up k,(e x hx).2⟩⟩
theorem KidV.up {C:Int → Cn} {n:Nat} {V:Nat → Prop} {h:Nat} {x:KI} (k:Nat) (hk:KidV C n V h x):KidV C n V (h + k) x:=by
 obtain ⟨a,b,nd,d,e,f,g⟩:=hk
 exact ⟨a,b,nd,d,e,f.up k,g⟩
theorem JL.up {c:Pct} {m:Pst} {U V:Nat → Prop} {T:List Nat} {h:Nat} {l:List KI} (k:Nat) (hJ:JL c m U V T h l):JL c m U V T (h + k) l:={ hJ with kid:=fun x hx=>(hJ.kid x hx).up k }
theorem JL.keep {c:Pct} {m m':Pst} {U V:Nat → Prop} {T T2:List Nat} {h:Nat} {l:List KI} (hJ:JL c m U V T h l) (hg:Grew c m m' T2) (hU:∀ q,U q → m.used q) (hT:∀ q ∈ T,m.used q):JL c m' U V T h l:=by
 have hus:∀ q,(U q ∨ q ∈ T) → m'.C c (q:Int) = m.C c q:=fun q hq=>(hg.old q (hq.elim (hU q) (hT q))).2
 exact { hJ with kid:=fun x hx=>(hJ.kid x hx).keep (fun q hq=>hus q (hJ.vt q hq)) (fun _ h=>h) (hus _ (hJ.rt x hx)) }
theorem JL.one {c:Pct} {m:Pst} {U:Nat → Prop} {h:Nat} {x:KI} (hx:KidV (m.C c) c.n U h x) (hu:U x.1.p):JL c m U U [] h [x] where
 kid:=fun y hy=>by rw [List.mem_singleton.1 hy]; exact hx
 rt:=fun y hy=>by rw [List.mem_singleton.1 hy]; exact .inl hu
 vt:=fun q hq=>.inl hq
 own:=fun y _ ht=>by cases ht
 dis:=List.pairwise_singleton _ _
theorem JL.nil {c:Pct} {m:Pst} {U:Nat → Prop} {h:Nat}:JL c m U (fun _=>False) [] h [] where
 kid:=fun y hy=>by cases hy
 rt:=fun y hy=>by cases hy
 vt:=fun q hq=>hq.elim
 own:=fun y _ ht=>by cases ht
 dis:=List.Pairwise.nil
theorem JL.app {c:Pct} {m:Pst} {U V V2:Nat → Prop} {T T2:List Nat} {h:Nat} {l l2:List KI} (h1:JL c m U V T h l) (h2:JL c m U V2 T2 h l2) (hd:∀ q ∈ T,q ∉ T2) (hu:∀ q ∈ T,¬ U q) (hu2:∀ q ∈ T2,¬ U q):JL c m U (fun q=>V q ∨ V2 q) (T ++ T2) h (l ++ l2) where
 kid:=fun x hx=>(List.mem_append.1 hx).elim (fun hx=>(h1.kid x hx).keep (fun _ _=>rfl) (fun _ h=>.inl h) rfl) (fun hx=>(h2.kid x hx).keep (fun _ _=>rfl) (fun _ h=>.inr h) rfl)
 rt:=fun x hx=>(List.mem_append.1 hx).elim (fun hx=>(h1.rt x hx).imp id (List.mem_append_left _)) (fun hx=>(h2.rt x hx).imp id (List.mem_append_right _))
 vt:=fun q hq=>hq.elim (fun hq=>(h1.vt q hq).imp id (List.mem_append_left _)) (fun hq=>(h2.vt q hq).imp id (List.mem_append_right _))
 own:=fun x hx ht hv=>by
  rcases List.mem_append.1 hx with hx | hx
  ·have h3:x.1.p ∈ T:=by
    rcases List.mem_append.1 ht with ht | ht
    ·exact ht
    ·rcases h1.rt x hx with q | q
     ·exact absurd q (hu2 _ ht)
     ·exact q
   rcases hv with hv | hv
   ·exact h1.own x hx h3 hv
   ·rcases h2.vt _ hv with q | q
    ·exact hu _ h3 q
    ·exact hd _ h3 q
  ·have h3:x.1.p ∈ T2:=by
    rcases List.mem_append.1 ht with ht | ht
    ·rcases h2.rt x hx with q | q
     ·exact absurd q (hu _ ht)
     ·exact q
    ·exact ht
   rcases hv with hv | hv
   ·rcases h1.vt _ hv with q | q
    ·exact hu2 _ h3 q
    ·exact hd _ q h3
   ·exact h2.own x hx h3 hv
 dis:=by
  rw [List.pairwise_append]
  refine ⟨h1.dis.imp_of_mem fun {x y} hx hy hr e ht=>?_,h2.dis.imp_of_mem fun {x y} hx hy hr e ht=>?_,fun x hx y hy e ht=>?_⟩
  ·rcases List.mem_append.1 ht with ht | ht
   ·exact hr e ht
   ·rcases h1.rt x hx with q | q
    ·exact hu2 _ ht q
    ·exact hd _ q ht
  ·rcases List.mem_append.1 ht with ht | ht
   ·rcases h2.rt x hx with q | q
    ·exact hu _ ht q
    ·exact hd _ ht q
   ·exact hr e ht
  ·rcases List.mem_append.1 ht with ht | ht
   ·have h3:=h2.rt y hy
    rw [← e] at h3
    exact h3.elim (hu _ ht) (hd _ ht)
   ·exact (h1.rt x hx).elim (hu2 _ ht) (fun q=>hd _ q ht)
/-- What make answers. -/
def MkJ (w:World) (c:Pct) (B mb tb:Nat) (took:List Nat) (vt:Value) (m:Pst) (U:Nat → Prop) (is:List It) (h bnd:Nat) (E:Pst → List KI → Prop) (e:Ending) (w':World):Prop:=
 ∃ vt' m' T,MkW w' c B mb tb (took ++ T) vt' m' ∧ MkS w c mb vt m w' vt' m' ∧ Grew c m m' T ∧ m'.N ≤ m.N + bnd ∧ m.N + T.length ≤ m'.N ∧
  ((∃ (v:Value) (l:List KI) (V:Nat → Prop),e = .returned (.tuple #[v,.int .i64 0]) ∧ SLk 2 KdR w' (Sf w' c mb vt' m') v (l.map Prod.fst) ∧ JL c m' U V T h l ∧ l.flatMap Prod.snd = is ∧ E m' l) ∨ e = .returned (.tuple #[.slice none 0 0,.int .i64 16]))
theorem MkJ.mono {w w':World} {c:Pct} {B mb tb:Nat} {took:List Nat} {vt:Value} {m:Pst} {U:Nat → Prop} {is:List It} {h bnd bnd':Nat} {E:Pst → List KI → Prop} {e:Ending} (hq:MkJ w c B mb tb took vt m U is h bnd E e w') (hb:bnd ≤ bnd'):MkJ w c B mb tb took vt m U is h bnd' E e w':=by
 obtain ⟨vt',m',T,h1,h2,h3,h4,h5,h6⟩:=hq
 exact ⟨vt',m',T,h1,h2,h3,by omega,h5,h6⟩
theorem MkJ.up {w w':World} {c:Pct} {B mb tb:Nat} {took:List Nat} {vt:Value} {m:Pst} {U:Nat → Prop} {is:List It} {h bnd:Nat} {E:Pst → List KI → Prop} {e:Ending} (k:Nat) (hq:MkJ w c B mb tb took vt m U is h bnd E e w'):MkJ w c B mb tb took vt m U is (h + k) bnd E e w':=by
 obtain ⟨vt',m',T,h1,h2,h3,h4,h5,h6⟩:=hq
 refine ⟨vt',m',T,h1,h2,h3,h4,h5,h6.imp (fun ⟨v,l,V,a,b,d,e,f⟩=>⟨v,l,V,a,b,d.up k,e,f⟩) id⟩
theorem MkJ.from_ {w wr w':World} {c:Pct} {B mb tb:Nat} {took:List Nat} {vt:Value} {m:Pst} {U:Nat → Prop} {is:List It} {h bnd:Nat} {E:Pst → List KI → Prop} {e:Ending} (hb:MkS w c mb vt m wr vt m) (hq:MkJ wr c B mb tb took vt m U is h bnd E e w'):MkJ w c B mb tb took vt m U is h bnd E e w':=by
 obtain ⟨vt',m',T,h1,h2,h3⟩:=hq
 exact ⟨vt',m',T,h1,hb.trans h2,h3⟩
theorem nd_pages {C:Int → Cn} {nds:List Nd} {kds:List Kd} {T:List Nat} (h:kds.map Kd.p = T) (hd:T.Nodup) {l:List KI} (e:l.map Prod.fst = kds) (S:List Nat):l.Pairwise (fun x y=>x.1.p = y.1.p → x.1.p ∉ S):=by
 have:(l.map (fun x=>x.1.p)).Nodup:=by
  rw [← e,List.map_map] at h
  rw [← h] at hd
  exact hd
 unfold List.Nodup at this
 rw [List.pairwise_map] at this
 exact this.imp fun hne e=>absurd e hne
theorem MkJ.leaves {w w':World} {c:Pct} {B mb tb:Nat} {took:List Nat} {vt:Value} {m:Pst} {is:List It} {e:Ending} {U:Nat → Prop} {E:Pst → List KI → Prop} (h:Nat) (hok:∀ x ∈ is,itOk x) (hP:∀ m' l,l.length = (cutF szI is).length → E m' l) (hs:SvQ w c B mb tb took vt m ((cutF szI is).map fun p=>(p,[])) e w'):MkJ w c B mb tb took vt m U is h (cutF szI is).length E e w':=by
 have h504:∀ x ∈ is,szI x ≤ 504:=fun x hx=>by have:=(hok x hx).sz; omega
 have hcut:=cutF_ok szI h504
 have hflat:=cutF_flat szI h504
 obtain ⟨vt',m',T,h1,h2,h3,h4,h4',h5⟩:=hs
 rw [List.length_map] at h4 h5
 rcases h5 with ⟨v,kds,rfl,h6,h7,h8⟩ | ⟨rfl,hno⟩
 ·have hlen:=h7.len
  rw [List.length_map] at hlen
  obtain ⟨l,e1,e2,e3⟩:=saved_leaves _ _ h7
  have hll:l.length = (cutF szI is).length:=by rw [← hlen,← e1,List.length_map]
  have ht:∀ x ∈ l,x.1.p ∈ T:=fun x hx=>by rw [← h8,← e1]; exact List.mem_map_of_mem (List.mem_map_of_mem hx)
  refine ⟨vt',m',T,h1,h2,h3,h4,h4',.inl ⟨v,l,fun _=>False,rfl,by rw [e1]; exact h6,⟨fun x hx=>?_,fun x hx=>.inr (ht x hx),fun q hq=>hq.elim,fun x hx _ hv=>hv,nd_pages (C:=m'.C c) (nds:=[]) h8 h3.nd e1 T⟩,?_,hP _ _ hll⟩⟩
  ·have hp:x.2 ∈ cutF szI is:=by rw [← e2]; exact List.mem_map_of_mem hx
   obtain ⟨q1,q2,q3,q4⟩:=h3.in_ _ (ht x hx)
   obtain ⟨g1,g2,g3⟩:=page_ok h1.pg q1 q2
   obtain ⟨p1,p2⟩:=hcut _ hp
   obtain ⟨e4,e5⟩:=e3 x hx
   have hit:∀ i ∈ x.2,itOk i:=fun i hi=>hok i (by rw [← hflat]; exact List.mem_flatten.2 ⟨_,hp,hi⟩)
   have hnd:ndOk ((x.2,[]):Nd):=⟨.inl ⟨p1,rfl⟩,hit,fun k hk=>(by cases hk),by
    rw [ndB_len,show sumI x.2 = sumZ szI x.2 from rfl,show sumK [] = 0 from rfl]
    omega⟩
   have hkk:kdOk x.1:=by
    cases hx2:x.2 with
    | nil=>exact absurd hx2 p1
    | cons i r=>
     have hk:x.1.k = i.k:=by rw [e4,hx2]; rfl
     have hi:=hit i (by rw [hx2]; exact List.mem_cons_self)
     exact ⟨by rw [hk]; exact hi.1,by rw [hk]; exact hi.2.1,g2,g3⟩
   exact ⟨hkk,g1,_,hnd,e5,.inl ⟨rfl,rfl⟩,e4.symm⟩
  ·rw [List.flatMap_def,e2,hflat]
 ·exact ⟨vt',m',T,h1,h2,h3,h4,h4',.inr rfl⟩
theorem MkJ.inner {w wr w':World} {c:Pct} {B mb tb:Nat} {took T:List Nat} {vt0 vt:Value} {m0 m:Pst} {l:List KI} {e:Ending} {U V:Nat → Prop} {E:Pst → List KI → Prop} {h bnd:Nat} (hst:MkS w c mb vt0 m0 wr vt m) (hg:Grew c m0 m T) (hNT:m0.N + T.length ≤ m.N) (hbnd:m.N + (cutF szK (l.map Prod.fst)).length ≤ m0.N + bnd)
  (hJE:JE c took m0 U) (hJ:JL c m U V T h l) (hP:∀ (m':Pst) l',l'.length = (cutF szK (l.map Prod.fst)).length → (l'.length = 1 → ∀ x ∈ l',RootK (m'.C c) x.1.p l.length) → E m' l') (hs:SvQ wr c B mb tb (took ++ T) vt m ((cutF szK (l.map Prod.fst)).map fun p=>([],p)) e w'):MkJ w c B mb tb took vt0 m0 U (l.flatMap Prod.snd) (h + 1) bnd E e w':=by
 have hok:∀ x ∈ l.map Prod.fst,kdOk x:=fun x hx=>by
  obtain ⟨y,hy,rfl⟩:=List.mem_map.1 hx
  exact (hJ.kid y hy).ok
 have h504:∀ x ∈ l.map Prod.fst,szK x ≤ 504:=fun x hx=>by have:=(hok x hx).sz; omega
 have hcut:=cutF_ok szK h504
 have hflat:=cutF_flat szK h504
 obtain ⟨ls,g1,g2⟩:=split_like Prod.fst _ l hflat
 obtain ⟨vt',m',T2,h1,h2,h3,h4,h4',h5⟩:=hs
 rw [List.length_map] at h4 h5
 rw [List.append_assoc] at h1
 have hus:∀ q,(U q ∨ q ∈ T) → m.used q:=fun q hq=>hq.elim (fun hq=>(hg.old q (hJE.us q hq)).1) (fun hq=>(hg.in_ q hq).2.2.2)
 have hN2:m0.N + (T ++ T2).length ≤ m'.N:=by rw [List.length_append]; omega
 rcases h5 with ⟨v,kds,rfl,h6,h7,h8⟩ | ⟨rfl,hno⟩
 ·have hlen:=h7.len
  rw [List.length_map] at hlen
  rw [← g2] at h7
  obtain ⟨l2,e1,e2,e3⟩:=saved_inner _ _ h7
  have hll:l2.length = (cutF szK (l.map Prod.fst)).length:=by rw [← hlen,← e1,List.length_map]
  have hJ2:JL c m' U V T h l:=hJ.keep h3 (fun q hq=>hus q (.inl hq)) (fun q hq=>hus q (.inr hq))
  have ht:∀ y ∈ l2,y.1.p ∈ T2:=fun y hy=>by rw [← h8,← e1]; exact List.mem_map_of_mem (List.mem_map_of_mem hy)
  have e1':(l2.map (fun x=>((x.1,x.2.flatMap Prod.snd):KI))).map Prod.fst = kds:=by rw [List.map_map]; exact e1
  refine ⟨vt',m',T ++ T2,h1,hst.trans h2,hg.trans h3,by omega,hN2,.inl ⟨v,l2.map (fun x=>((x.1,x.2.flatMap Prod.snd):KI)),fun q=>V q ∨ ∃ x ∈ l,x.1.p = q,rfl,by rw [e1']; exact h6,⟨fun x hx=>?_,fun x hx=>?_,fun q hq=>?_,fun x hx hxt hv=>?_,nd_pages (C:=m'.C c) (nds:=[]) h8 h3.nd e1' _⟩,(flat_snd l2).trans (by rw [e2,g1]),?_⟩⟩
  ·obtain ⟨y,hy,rfl⟩:=List.mem_map.1 hx
   have hp:y.2 ∈ ls:=by rw [← e2]; exact List.mem_map_of_mem hy
   have hpc:y.2.map Prod.fst ∈ cutF szK (l.map Prod.fst):=by rw [← g2]; exact List.mem_map_of_mem hp
   obtain ⟨q1,q2,q3,q4⟩:=h3.in_ _ (ht y hy)
   obtain ⟨b1,b2,b3⟩:=page_ok h1.pg q1 q2
   obtain ⟨p1,p2⟩:=hcut _ hpc
   obtain ⟨e4,e5⟩:=e3 y hy
   have hmem:∀ z ∈ y.2,z ∈ l:=fun z hz=>by rw [← g1]; exact List.mem_flatten.2 ⟨_,hp,hz⟩
   have hnd:ndOk (([],y.2.map Prod.fst):Nd):=⟨.inr ⟨rfl,p1⟩,fun i hi=>(by cases hi),fun k hk=>(by
    obtain ⟨z,hz,rfl⟩:=List.mem_map.1 hk
    exact (hJ.kid z (hmem z hz)).ok),by
    rw [ndB_len,show sumK (y.2.map Prod.fst) = sumZ szK (y.2.map Prod.fst) from rfl,show sumI [] = 0 from rfl]
    omega⟩
   have hkk:kdOk y.1:=by
    cases hy2:y.2 with
    | nil=>rw [hy2] at p1; exact absurd rfl p1
    | cons z r=>
     have hk:y.1.k = z.1.k:=by rw [e4,hy2]; rfl
     have hz:=(hJ.kid z (hmem z (by rw [hy2]; exact List.mem_cons_self))).ok
     exact ⟨by rw [hk]; exact hz.1,by rw [hk]; exact hz.2.1,b2,b3⟩
   exact ⟨hkk,b1,_,hnd,e5,.inr ⟨rfl,y.2,rfl,rfl,fun z hz=>(hJ2.kid z (hmem z hz)).tr (fun q hq=>.inl hq) (.inr ⟨z,hmem z hz,rfl⟩)⟩,e4.symm⟩
  ·obtain ⟨y,hy,rfl⟩:=List.mem_map.1 hx
   exact .inr (List.mem_append_right _ (ht y hy))
  ·rcases hq with hq | ⟨x,hx,rfl⟩
   ·exact (hJ.vt q hq).imp id (List.mem_append_left _)
   ·exact (hJ.rt x hx).imp id (List.mem_append_left _)
  ·obtain ⟨y,hy,rfl⟩:=List.mem_map.1 hx
   have hf:=(h3.in_ _ (ht y hy)).2.2.1
   rcases hv with hv | ⟨x,hx,e⟩
   ·exact hus _ (hJ.vt _ hv) hf
   ·exact hus _ (hJ.rt x hx) (e ▸ hf)
  ·refine hP _ _ (by rw [List.length_map,hll]) (fun hone x hx=>?_)
   obtain ⟨y,hy,rfl⟩:=List.mem_map.1 hx
   rw [List.length_map] at hone
   obtain ⟨z,hz⟩:=List.length_eq_one_iff.1 hone
   subst hz
   rw [List.mem_singleton.1 hy]
   have hp:z.2 ∈ ls:=by rw [← e2]; exact List.mem_map_of_mem List.mem_cons_self
   have hpc:z.2.map Prod.fst ∈ cutF szK (l.map Prod.fst):=by rw [← g2]; exact List.mem_map_of_mem hp
   obtain ⟨p1,p2⟩:=hcut _ hpc
   refine ⟨z.2.map Prod.fst,?_,(e3 z List.mem_cons_self).2,fun k hk=>hok k (by rw [← hflat]; exact List.mem_flatten.2 ⟨_,hpc,hk⟩),?_,p1⟩
   ·rw [← g1,← e2,List.length_map]
    simp
   ·rw [ndB_len,show sumK (z.2.map Prod.fst) = sumZ szK (z.2.map Prod.fst) from rfl,show sumI [] = 0 from rfl]
    omega
 ·exact ⟨vt',m',T ++ T2,h1,hst.trans h2,hg.trans h3,by omega,hN2,.inr rfl⟩
/-- What Put wants. -/
theorem MkJ.toQ {w w':World} {c:Pct} {B mb tb:Nat} {took:List Nat} {vt:Value} {m:Pst} {U:Nat → Prop} {is:List It} {h bnd:Nat} {E:Pst → List KI → Prop} {e:Ending} (hl:m.st.length = c.n) (hU:∀ q,U q → m.used q) (hP:∀ m l,E m l → l.length ≤ bnd) (hb:65536 ≤ bnd) (hq:MkJ w c B mb tb took vt m U is h bnd E e w'):MkQ w c B mb tb took vt m is (h + 1) bnd E e w':=by
 obtain ⟨vt',m',T,h1,h2,h3,h4,h5,h6⟩:=hq
 refine ⟨vt',m',T,h1,h2,h3,h4,h5,?_⟩
 rcases h6 with ⟨v,l,V,a,b,d,e,f⟩ | a
 ·refine .inl ⟨v,l,a,b,fun x hx=>?_,e,hP _ _ f,f⟩
  have hus:∀ q,(U q ∨ q ∈ T) → m'.used q:=fun q hq=>hq.elim (fun hq=>(h3.old q (hU q hq)).1) (fun hq=>(h3.in_ q hq).2.2.2)
  exact ⟨(d.kid x hx).ok,(d.kid x hx).tr (fun q hq=>hus q (d.vt q hq)) (hus _ (d.rt x hx))⟩
 ·refine .inr ⟨a,List.range m.st.length,?_,fun q _ hq=>?_⟩
  ·rw [List.length_range]
   have h8:c.n ≤ 65536:=Pg.hn h1.pg
   omega
  ·rw [List.mem_range]
   exact (free_iff.1 hq).1
end Go.Proofs.Ytkolacaceaamoaa
/- The tree: binary search among changes. -/
namespace Go.Proofs.Ytkolacaceaamoaa
open Go.RowKit
theorem SLk.base {α:Type} {k:Nat} {R:World → (Nat → Prop) → α → List Value → Prop} {w:World} {F:Nat → Prop} {A:Option Addr} {n c:Nat} {l:List α} (hk:∀ a cs,R w F a cs → cs.length = k) (h0:0 < k) (h:SLk k R w F (.slice A n c) l) (hl:0 < l.length) :
  ∃ b o,A = some ⟨b,o,none⟩ ∧ b < w.heap.size ∧ F b:=by
 cases l with
 | nil=>simp at hl
 | cons a l=>
  obtain ⟨b,o,cs,e,_,_,_,hF,hb,_⟩:=h.uncons hk h0
  exact ⟨b,o,e,hb,hF⟩
theorem SLk.at_c3 {w:World} {F:Nat → Prop} {A:Option Addr} {n c:Nat} {is:List Ch} (h:SLk 3 ChR w F (.slice A n c) is) {j:Nat} (hj:j < is.length) :
  ∃ b o v1 v2,A = some ⟨b,o,none⟩ ∧ b < w.heap.size ∧ F b ∧ w.cell? ⟨b,o + j * 3,none⟩ = some v1 ∧ w.cell? ⟨b,o + j * 3 + 1,none⟩ = some v2 ∧ w.cell? ⟨b,o + j * 3 + 2,none⟩ = some (.bool is[j].gone) ∧ BS w F v1 is[j].k ∧ BS w F v2 is[j].v:=by
 obtain ⟨b,o,rfl,hb,hF⟩:=h.base (fun a cs h=>ChR.three a cs h) (by omega) (by omega)
 obtain ⟨A',c',xs,e,hc,hr,hl⟩:=h
 injection e with e1 e2 e3
 subst e1 e2 e3
 obtain ⟨ad,e,_,hcell⟩:=hr.2 (by omega)
 injection e with e
 subst e
 obtain ⟨cs,hit,hcs⟩:=LR.at_ (k:=3) (fun a cs h=>ChR.three a cs h) is xs hl j hj
 obtain ⟨v1,v2,rfl,h1,h2⟩:=hit
 have q0:=hcell (j * 3 + 0) _ (hcs 0 (by omega))
 have q1:=hcell (j * 3 + 1) _ (hcs 1 (by omega))
 have q2:=hcell (j * 3 + 2) _ (hcs 2 (by omega))
 have hadd:∀ j,(⟨b,o,none⟩:Addr).add j = ⟨b,o + j,none⟩:=fun j=>(add_plain ⟨b,o,none⟩ j rfl).symm
 rw [hadd] at q0 q1 q2
 exact ⟨b,o,v1,v2,rfl,hb,hF,by simpa using q0,by rw [Nat.add_assoc]; exact q1,by rw [Nat.add_assoc]; exact q2,h1,h2⟩
set_option maxRecDepth 100000 in
theorem chKey_any {w:World} {a b v':Value} {g:Bool} {l l':Cn} (h:BSw w a l) (h':BSw w v' l') (hb2:∃ A n c,b = .slice A n c) :
  Calls Try.prog 55 #[.agg #[a,b,.bool g],v'] w fun e w'=>e = .returned (.int .i64 (Lib.compareBytes l l')) ∧ Below w.heap.size w w':=by
 obtain ⟨A,c,rfl,hc1,hr1⟩:=h
 obtain ⟨A2,n2,c2,rfl⟩:=hb2
 have h:BSw w (.slice A l.length c) l:=⟨A,c,rfl,hc1,hr1⟩
 obtain ⟨w1,hw1⟩:∃ y,w.alloc (.cells #[.slice A l.length c,.slice A2 n2 c2,.bool g] TCh) = y:=⟨_,rfl⟩
 have HB1:=hide (show Below w.heap.size w w1 from hw1 ▸ al_below w _)
 have HC1:=hide (show Blk w1 w.heap.size TCh #[.slice A l.length c,.slice A2 n2 c2,.bool g] from hw1 ▸ Blk.new _ _ _)
 have HK:=hide (h.later HB1.out)
 have HK':=hide (h'.later HB1.out)
 have HW1:=hide hw1
 clear hw1 h h'
 go_enter Try.func55,Try.ntmps55
 go_upto_region 1 with fail
 rw [HW1.out]
 have kv:=HC1.out.cell; have fv:=HC1.out.frozen; have zv:=HC1.out.lt
 go_wp2_with (go_at_call 26; (refine (compare_bs HK.out HK'.out).mono ?_); rintro e w2 ⟨rfl,rfl⟩)
 go_ret
 exact ⟨rfl,HB1.out⟩
set_option maxRecDepth 100000 in
set_option maxHeartbeats 2000000 in
theorem search_chs {w:World} {F:Nat → Prop} {Ai:Option Addr} {q ci:Nat} {vk:Value} {is:List Ch} {key:Cn} (h:SLk 3 ChR w F (.slice Ai q ci) is) (hk:BSw w vk key) (hl:is.length ≤ 1000000) :
  Calls Try.prog 54 #[.slice Ai q ci,vk,.func (.func 55) #[] #[]] w fun e w'=>∃ (k:Nat) (f:Bool),e = .returned (.tuple #[.int .i64 (k:Int),.bool f]) ∧ FoundAt (is.map Ch.k) key k f ∧ Below w.heap.size w w':=by
 obtain ⟨hci,hcm,hq⟩:=h.caps
 have HS:=hide h
 have HK:=hide hk
 have HQ:=hide hq.symm
 rw [← hq] at hl
 clear h hk hq
 go_enter Try.func54,Try.ntmps54
 go_wp2_with fail
 go_loopw [9,10] (fun bx iv wr=>∃ i j:Nat,bx = .int .i64 (i:Int) ∧ iv = .int .i64 (j:Int) ∧ i ≤ j ∧ j ≤ q ∧ Hid (0 < i → cmpK (is.map Ch.k) key (i - 1) < 0) ∧ Hid (j < q → 0 ≤ cmpK (is.map Ch.k) key j) ∧ Hid (Below w.heap.size w wr)) (fun bx iv _=>(intOf iv).toNat - (intOf bx).toNat)
 case atStart=>exact ⟨0,q,by go_num,rfl,by omega,by omega,hide (fun h=>absurd h (by omega)),hide (fun h=>absurd h (by omega)),hide (Below.refl _ _)⟩
 case round=>
  obtain ⟨i,j,rfl,rfl,hij,hjq,HI,HJ,HB⟩:=hrel
  by_cases hlt:i < j
  ·go_upto_region 5 with fail
   obtain ⟨m,hm⟩:∃ m,(i + j) / 2 = m:=⟨_,rfl⟩
   have em:((i:Int) + (j:Int)) / 2 = (m:Int):=by omega
   have hm1:i ≤ m ∧ m < j:=by omega
   rw [em]
   clear em hm
   have hj':m < is.length:=by rw [HQ.out]; omega
   obtain ⟨b,o,v1,v2,rfl,hb,hF,k0,k1,k2,hb1,hb2⟩:=HS.out.at_c3 hj'
   have HCK:=hide (show cmpK (is.map Ch.k) key m = Lib.compareBytes is[m].k key by unfold cmpK; simp [List.getD,hj'])
   have HBK:=hide (hb1.all.later HB.out)
   have HKW:=hide (HK.out.later HB.out)
   obtain ⟨A1,c1,rfl,_,_⟩:=hb1
   obtain ⟨A2,c2,rfl,_,_⟩:=hb2
   obtain ⟨y,hy⟩:∃ y,is[m] = y:=⟨_,rfl⟩
   rw [hy] at HBK HCK k0 k1 k2
   clear hy
   obtain ⟨kl,hkl⟩:∃ kl,y.k.length = kl:=⟨_,rfl⟩
   obtain ⟨vl,hvl⟩:∃ vl,y.v.length = vl:=⟨_,rfl⟩
   rw [hkl] at HBK k0
   rw [hvl] at k1
   clear hkl hvl
   have k0:=(HB.out.cell (p:=⟨b,o + m * 3,none⟩) hb).trans k0
   have k1:=(HB.out.cell (p:=⟨b,o + m * 3 + 1,none⟩) hb).trans k1
   have k2:=(HB.out.cell (p:=⟨b,o + m * 3 + 2,none⟩) hb).trans k2
   have zz0:b < wr.heap.size:=Nat.lt_of_lt_of_le hb HB.out.size
   have hjc:m ≤ ci:=by omega
   have hjc2:m < ci:=by omega
   obtain ⟨c,hc⟩:∃ c,Lib.compareBytes y.k key = c:=⟨_,rfl⟩
   rw [hc] at HCK
   by_cases hneg:c < 0
   ·go_wp2_with (go_at_call 55; (refine (chKey_any HBK.out HKW.out ⟨_,_,_,rfl⟩).mono ?_); rintro e w2 ⟨rfl,hb⟩; rw [hc]; have HB2:=hide (HB.out.trans (hb.mono HB.out.size)); clear hb k0 k1 k2 zz0)
    refine ⟨⟨m + 1,j,by push_cast; rfl,rfl,by omega,by omega,hide (fun _=>by rw [Nat.add_sub_cancel,HCK.out]; exact hneg),HJ,HB2⟩,?_⟩
    simp [intOf]
    omega
   ·go_wp2_with (go_at_call 55; (refine (chKey_any HBK.out HKW.out ⟨_,_,_,rfl⟩).mono ?_); rintro e w2 ⟨rfl,hb⟩; rw [hc]; have HB2:=hide (HB.out.trans (hb.mono HB.out.size)); clear hb k0 k1 k2 zz0)
    refine ⟨⟨i,m,rfl,rfl,by omega,by omega,HI,hide (fun _=>by rw [HCK.out]; omega),HB2⟩,?_⟩
    simp [intOf]
    omega
  ·obtain rfl:i = j:=by omega
   go_upto_region 8 with fail
   by_cases hiq:i < q
   ·have hj':i < is.length:=by rw [HQ.out]; omega
    obtain ⟨b,o,v1,v2,rfl,hb,hF,k0,k1,k2,hb1,hb2⟩:=HS.out.at_c3 hj'
    have HCK:=hide (show cmpK (is.map Ch.k) key i = Lib.compareBytes is[i].k key by unfold cmpK; simp [List.getD,hj'])
    have HBK:=hide (hb1.all.later HB.out)
    have HKW:=hide (HK.out.later HB.out)
    obtain ⟨A1,c1,rfl,_,_⟩:=hb1
    obtain ⟨A2,c2,rfl,_,_⟩:=hb2
    obtain ⟨y,hy⟩:∃ y,is[i] = y:=⟨_,rfl⟩
    rw [hy] at HBK HCK k0 k1 k2
    clear hy
    obtain ⟨kl,hkl⟩:∃ kl,y.k.length = kl:=⟨_,rfl⟩
    obtain ⟨vl,hvl⟩:∃ vl,y.v.length = vl:=⟨_,rfl⟩
    rw [hkl] at HBK k0
    rw [hvl] at k1
    clear hkl hvl
    have k0:=(HB.out.cell (p:=⟨b,o + i * 3,none⟩) hb).trans k0
    have k1:=(HB.out.cell (p:=⟨b,o + i * 3 + 1,none⟩) hb).trans k1
    have k2:=(HB.out.cell (p:=⟨b,o + i * 3 + 2,none⟩) hb).trans k2
    have zz0:b < wr.heap.size:=Nat.lt_of_lt_of_le hb HB.out.size
    have hjc:i ≤ ci:=by omega
    have hjc2:i < ci:=by omega
    obtain ⟨c,hc⟩:∃ c,Lib.compareBytes y.k key = c:=⟨_,rfl⟩
    rw [hc] at HCK
    go_wp2_with (go_at_call 55; (refine (chKey_any HBK.out HKW.out ⟨_,_,_,rfl⟩).mono ?_); rintro e w2 ⟨rfl,hb⟩; rw [hc]; have HB2:=hide (HB.out.trans (hb.mono HB.out.size)); clear hb k0 k1 k2 zz0)
    refine bodyPost_ret (v:=.tuple #[.int .i64 (i:Int),.bool (c == 0)]) (by simp (maxDischargeDepth:=9) [results,Try.results54,go_sem]; done) rfl ?_
    refine ⟨i,_,rfl,⟨by simpa [HQ.out] using hjq,HI.out,fun h=>HJ.out hiq,?_⟩,HB2.out⟩
    rw [HCK.out]
    by_cases h0:c = 0 <;> simp [HQ.out,hiq,h0]
   ·go_wp2_with fail
    refine bodyPost_ret (v:=.tuple #[.int .i64 (i:Int),.bool false]) (by simp (maxDischargeDepth:=9) [results,Try.results54,go_sem]; done) rfl ?_
    refine ⟨i,_,rfl,⟨by simpa [HQ.out] using hjq,HI.out,fun h=>absurd h (by simpa [HQ.out] using hiq),?_⟩,HB.out⟩
    simp [HQ.out,hiq]
end Go.Proofs.Ytkolacaceaamoaa
/- append into a row of one's own: what all its cells are. -/
namespace Go.Proofs.Ytkolacaceaamoaa
open Go.RowKit
/-- All cells of the row's block. -/
def AllC (w:World) (p:Value → Prop) (v:Value):Prop:=∀ g,v.ownBlock = some g → ∀ o u,w.cell? ⟨g,o,none⟩ = some u → p u
section
variable {P:Program} (w:World)
theorem zeroCells_mem {z:Array Value} {n:Nat} {u:Value} (h:u ∈ (Builtin.zeroCells z n).toList):u ∈ z.toList:=by
 unfold Builtin.zeroCells at h
 rw [Array.mem_toList_iff,Array.mem_map] at h
 obtain ⟨i,hi,rfl⟩:=h
 rw [Array.mem_range] at hi
 have h0:0 < z.size:=by
  rcases Nat.eq_zero_or_pos z.size with h | h
  ·rw [h] at hi; omega
  ·exact h
 have h1:=Nat.mod_lt i h0
 rw [getElem!_pos z _ h1]
 exact Array.mem_toList_iff.2 (Array.getElem_mem h1)
theorem run_append_pred (base:Nat) (t ty e:TypeId) (i:TypeInfo) (z:Value) (size bytes:Nat) (ht:P.underlying t = some (.slice e)) (hi:P.info? e = some i) (hz:i.zero = some z)
  (hsize:i.size = size) (hby:i.bytes = bytes) (hzs:z.cells.size = size) (hsz:0 < size)
  (v:Value) (n:Nat) (xs:List Value) (hown:w.ownsRow base e size v n xs)
  (B:Nat) (A:Option Addr) (m c:Nat) (news:List Value) (hr:Reads w B size A m news) (h1:∀ u ∈ news,u.oneCell' = true)
  (h63:n + m ≤ maxLen) (hbytes:(n + m) * bytes ≤ 140737488355328) (hbase:base ≤ w.heap.size)
  (p:Value → Prop) (hp:AllC w p v) (hpn:∀ u ∈ news,p u) (hpz:∀ u ∈ z.cells.toList,p u) :
  ∃ v' w',(Builtin.append_ #[t,t] ty #[v,.slice A m c]).run P w = .ok v' w' ∧ w'.ownsRow base e size v' (n + m) (xs ++ news) ∧ w.grownBy w' v.ownBlock ∧
   (v'.ownBlock = v.ownBlock ∨ v'.ownBlock = some w.heap.size) ∧ AllC w' p v':=by
 obtain ⟨v',w',hrun,h2,h3,h4⟩:=run_append_any (P:=P) w base t ty e i z size bytes ht hi hz hsize hby hzs hsz v n xs hown B A m c news hr h1 h63 hbytes hbase
 refine ⟨v',w',hrun,h2,h3,h4,?_⟩
 subst hsize
 subst hby
 have hsmall:n + m ≤ 9223372036854775807:=by simp only [maxLen] at h63; omega
 rcases A with _ | ad
 ·have hm:m = 0:=by
   rcases Nat.eq_zero_or_pos m with h0 | h0
   ·exact h0
   ·obtain ⟨ad,h,_⟩:=hr.2 h0
    cases h
  subst hm
  have:=hrun.symm.trans (run_append_of_nil w base t ty e i i.size ht hi v n xs hown c)
  injection this with e1 e2
  subst e1 e2
  exact hp
 ·have hcells:∀ j u,news[j]? = some u → w.cell? (ad.add j) = some u:=by
   intro j u hu
   rcases Nat.eq_zero_or_pos m with h0 | h0
   ·subst h0
    have hn:news = []:=List.eq_nil_of_length_eq_zero (by simpa using hr.1)
    subst hn
    simp at hu
   ·obtain ⟨ad',h,_,hc⟩:=hr.2 h0
    injection h with h
    subst h
    exact hc j u hu
  have hl:=hr.1
  have fresh:∀ (cs:Array Value) (k:Nat),(∀ u ∈ cs.toList,p u) → ∀ x y,AllC (w.drew.alloc (.cells (cs ++ Builtin.zeroCells z.cells k) e)) p (.slice (some ⟨w.heap.size,0,none⟩) x y):=by
   intro cs k hcs x y g hg o u hu
   injection hg with hg
   subst hg
   have hu2:(w.drew.alloc (.cells (cs ++ Builtin.zeroCells z.cells k) e)).cell? ⟨w.drew.heap.size,o,none⟩ = some u:=hu
   rw [cell_of_row _ _ o _ _ _ (heap_alloc_new w.drew _)] at hu2
   have hm:=Array.mem_of_getElem? hu2
   rw [Array.mem_append] at hm
   rcases hm with hm | hm
   ·exact hcs u (Array.mem_toList_iff.2 hm)
   ·exact hpz u (zeroCells_mem (Array.mem_toList_iff.2 hm))
  rcases hown.2 with ⟨rfl,rfl⟩ | ⟨g,cap,cur,rfl,hbg,hg,hnc,hcm,hcs,htake⟩
  ·by_cases hm:m = 0
   ·subst hm
    have hr0:(Builtin.append_ #[t,t] ty #[.slice none 0 0,.slice (some ad) 0 c]).run P w = .ok (.slice none 0 0) w:=by
     simp [Builtin.append_,run_underlying ht,sizeOf,typeInfo,hi,Builtin.lenOf,Builtin.firstCells,loadCells,loadCellsFrom]
    have:=hrun.symm.trans hr0
    injection this with e1 e2
    subst e1 e2
    exact hp
   ·have hr0:=run_append_nil (P:=P) w t ty e i z ht hi hz ad m c news hl hcells (by omega) (by omega) (by have hb:=hbytes; simp only [Nat.zero_add] at hb; omega)
    have:=hrun.symm.trans hr0
    injection this with e1 e2
    subst e1 e2
    exact fresh _ _ (by simpa using hpn) _ _
  ·by_cases hroom:n + m ≤ cap
   ·have hfit:n * i.size + news.length ≤ cur.size:=by rw [hl,hcs,← Nat.add_mul]; exact Nat.mul_le_mul_right _ hroom
    have hr0:=run_append_room (P:=P) w t ty e i ht hi g n cap cur hg ad m c news hl hcells h1 hroom hfit
    have:=hrun.symm.trans hr0
    injection this with e1 e2
    subst e1 e2
    intro g' hg' o u hu
    injection hg' with hg'
    subst hg'
    rw [show (⟨(⟨g,0,none⟩:Addr).block,o,none⟩:Addr) = ⟨g,o,none⟩ from rfl,cell_setRow_same w g o cur _ e _ hg] at hu
    have hm:=Array.mem_of_getElem? hu
    have hcur:∀ u ∈ cur.toList,p u:=fun u hu=>by
     obtain ⟨k,hk,rfl⟩:=List.getElem_of_mem hu
     refine hp g rfl k _ ?_
     rw [cell_of_row w g k cur e _ hg]
     simp at hk
     simp [hk]
    rw [List.mem_toArray,List.mem_append,List.mem_append] at hm
    rcases hm with (hm | hm) | hm
    ·exact hcur u (List.mem_of_mem_take hm)
    ·exact hpn u hm
    ·exact hcur u (List.mem_of_mem_drop hm)
   ·have holds:∀ j u,xs[j]? = some u → w.cell? ((⟨g,0,none⟩:Addr).add j) = some u:=hown.cells (g:=g) rfl
    have hr0:=run_append_grow (P:=P) w t ty e i z ht hi hz ⟨g,0,none⟩ n cap xs hown.1 holds ad m c news hl hcells (by omega) (by omega) (growslice_fits (by omega) hbytes)
    have:=hrun.symm.trans hr0
    injection this with e1 e2
    subst e1 e2
    refine fresh _ _ (fun u hu=>?_) _ _
    simp only [Array.toList_append,List.mem_append] at hu
    rcases hu with hu | hu
    ·obtain ⟨k,hk,rfl⟩:=List.getElem_of_mem hu
     refine hp g rfl k _ ?_
     rw [← holds k _ (List.getElem?_eq_getElem hk),← add_plain ⟨g,0,none⟩ k rfl]
     simp
    ·exact hpn u hu
theorem wp_append_pred {o:Oper} {a:Act} {K:Act → World → Prop} {Q:Exit → Act → World → Prop} (s x:Operand) (t:TypeId)
  (ho:o.op = .call { callee:=.builtin .append,args:=#[s,x],argTypes:=#[t,t] })
  (base:Nat) (e:TypeId) (i:TypeInfo) (z:Value) (size bytes:Nat) (ht:P.underlying t = some (.slice e)) (hi:P.info? e = some i) (hz:i.zero = some z)
  (hsize:i.size = size) (hby:i.bytes = bytes) (hzs:z.cells.size = size) (hsz:0 < size)
  (v:Value) (n:Nat) (xs:List Value) (hs:a.eval s = v) (hown:w.ownsRow base e size v n xs)
  (B:Nat) (A:Option Addr) (m c:Nat) (news:List Value) (hx:a.eval x = .slice A m c) (hr:Reads w B size A m news) (h1:∀ u ∈ news,u.oneCell' = true)
  (h63:n + m ≤ maxLen) (hbytes:(n + m) * bytes ≤ 140737488355328) (hbase:base ≤ w.heap.size)
  (p:Value → Prop) (hp:AllC w p v) (hpn:∀ u ∈ news,p u) (hpz:∀ u ∈ z.cells.toList,p u)
  (h:∀ v' w',w'.ownsRow base e size v' (n + m) (xs ++ news) → w.grownBy w' v.ownBlock → (v'.ownBlock = v.ownBlock ∨ v'.ownBlock = some w.heap.size) → AllC w' p v' → K (a.put o.dst v') w'):o.wp P a w K Q:=by
 obtain ⟨v',w',hrun,h2,h3,h4,h5⟩:=run_append_pred (P:=P) w base t o.type e i z size bytes ht hi hz hsize hby hzs hsz v n xs hown B A m c news hr h1 h63 hbytes hbase p hp hpn hpz
 unfold Oper.wp execOp
 simp only [ho,resolve,invoke,builtin,Sem.run_bind,Sem.run_pure,Result.andThen_ok,List.map_toArray,List.map_cons,List.map_nil,hs,hx,hrun]
 exact h v' w' h2 h3 h4 h5
theorem wpList_append_pred {ops:Array Oper} {rest:List Oper} {o:Oper} {a:Act} {Q:Exit → Act → World → Prop} (hgd:o.guard = none) (s x:Operand) (t:TypeId)
  (ho:o.op = .call { callee:=.builtin .append,args:=#[s,x],argTypes:=#[t,t] })
  (base:Nat) (e:TypeId) (i:TypeInfo) (z:Value) (size bytes:Nat) (ht:P.underlying t = some (.slice e)) (hi:P.info? e = some i) (hz:i.zero = some z)
  (hsize:i.size = size) (hby:i.bytes = bytes) (hzs:z.cells.size = size) (hsz:0 < size)
  (v:Value) (n:Nat) (xs:List Value) (hs:a.eval s = v) (hown:w.ownsRow base e size v n xs)
  (B:Nat) (A:Option Addr) (m c:Nat) (news:List Value) (hx:a.eval x = .slice A m c) (hr:Reads w B size A m news) (h1:∀ u ∈ news,u.oneCell' = true)
  (h63:n + m ≤ maxLen) (hbytes:(n + m) * bytes ≤ 140737488355328) (hbase:base ≤ w.heap.size)
  (p:Value → Prop) (hp:AllC w p v) (hpn:∀ u ∈ news,p u) (hpz:∀ u ∈ z.cells.toList,p u)
  (h:∀ v' w',w'.ownsRow base e size v' (n + m) (xs ++ news) → w.grownBy w' v.ownBlock → (v'.ownBlock = v.ownBlock ∨ v'.ownBlock = some w.heap.size) → AllC w' p v' → wpList P ops Q rest (a.put o.dst v') w'):wpList P ops Q (o :: rest) a w:=
 wpList_plain hgd fun _ hK=>wp_append_pred w s x t ho base e i z size bytes ht hi hz hsize hby hzs hsz v n xs hs hown B A m c news hx hr h1 h63 hbytes hbase p hp hpn hpz fun v' w' h2 h3 h4 h5=>hK _ _ (h v' w' h2 h3 h4 h5)
end
end Go.Proofs.Ytkolacaceaamoaa
