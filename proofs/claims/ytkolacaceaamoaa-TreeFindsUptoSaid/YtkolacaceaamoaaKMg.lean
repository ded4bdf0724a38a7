/- The tree: rows of things of k cells that are read; rows that grow; items. -/
import Derived.Test.YtkolacaceaamoaaKMf
import Derived.Test.YtkolacaceaamoaaKM1
set_option linter.unusedSimpArgs false
set_option linter.unusedVariables false
namespace Go.Proofs.Ytkolacaceaamoaa
open Go.RowKit
def SLk {α:Type} (k:Nat) (R:World → (Nat → Prop) → α → List Value → Prop) (w:World) (F:Nat → Prop) (v:Value) (l:List α):Prop:=
 ∃ A c xs,v = .slice A l.length c ∧ (l.length ≤ c ∧ c ≤ maxLen) ∧ RF w F k A l.length xs ∧ LR (R w F) l xs
theorem SLk.two {α:Type} {R:World → (Nat → Prop) → α → List Value → Prop} {w:World} {F:Nat → Prop} {v:Value} {l:List α} (h:SLk 2 R w F v l):SL R w F v l:=h
theorem SLk.keep {α:Type} {k:Nat} {R:World → (Nat → Prop) → α → List Value → Prop} (h0:0 < k) (hR:Kept R) {w w':World} {F F':Nat → Prop} {v:Value} {l:List α} (hk:∀ j,F j → j < w.heap.size → w'.heap[j]? = w.heap[j]?) (hF:∀ j,F j → j < w.heap.size → F' j) (h:SLk k R w F v l):SLk k R w' F' v l:=by
 obtain ⟨A,c,xs,e,hc,hr,hl⟩:=h
 exact ⟨A,c,xs,e,hc,hr.keep hk hF h0,LR.mono (fun a cs=>hR hk hF a cs) _ _ hl⟩
theorem SLk.nil {α:Type} {k:Nat} {R:World → (Nat → Prop) → α → List Value → Prop} (w:World) (F:Nat → Prop):SLk k R w F (.slice none 0 0) []:=⟨none,0,[],rfl,⟨Nat.le_refl _,Nat.zero_le _⟩,RF.nil _,rfl⟩
def ChR (w:World) (F:Nat → Prop) (x:Ch) (cs:List Value):Prop:=∃ a b,cs = [a,b,.bool x.gone] ∧ BS w F a x.k ∧ BS w F b x.v
theorem ChR.keep {w w':World} {F F':Nat → Prop} (hk:∀ j,F j → j < w.heap.size → w'.heap[j]? = w.heap[j]?) (hF:∀ j,F j → j < w.heap.size → F' j) (x:Ch) (cs:List Value) (h:ChR w F x cs):ChR w' F' x cs:=by
 obtain ⟨a,b,e,h1,h2⟩:=h
 exact ⟨a,b,e,h1.keep hk hF,h2.keep hk hF⟩
theorem ChR.three {w:World} {F:Nat → Prop} (x:Ch) (cs:List Value) (h:ChR w F x cs):cs.length = 3:=by
 obtain ⟨a,b,e,_,_⟩:=h
 rw [e]
 rfl
/-- The first of such a row, and the others. -/
theorem SLk.uncons {α:Type} {k:Nat} {R:World → (Nat → Prop) → α → List Value → Prop} {w:World} {F:Nat → Prop} {A:Option Addr} {n c:Nat} {a:α} {l:List α} (hk:∀ a cs,R w F a cs → cs.length = k) (h0:0 < k) (h:SLk k R w F (.slice A n c) (a :: l)) :
  ∃ b o cs,A = some ⟨b,o,none⟩ ∧ n = l.length + 1 ∧ n ≤ c ∧ c ≤ maxLen ∧ F b ∧ b < w.heap.size ∧ R w F a cs ∧ (∀ j u,cs[j]? = some u → w.cell? ⟨b,o + j,none⟩ = some u) ∧ (c = 1 → SLk k R w F (.slice (some ⟨b,o,none⟩) l.length (c - 1)) l) ∧ (c ≠ 1 → SLk k R w F (.slice (some ⟨b,o + k,none⟩) l.length (c - 1)) l):=by
 obtain ⟨A',c',xs,e,hc,hr,cs,rest,exs,h1,h2⟩:=h
 injection e with e1 e2 e3
 subst e1 e2 e3
 subst exs
 have hcs:=hk a cs h1
 rw [List.length_cons] at hc hr ⊢
 obtain ⟨ad,rfl,hb,hcell⟩:=hr.2 (by omega)
 have hcell0:=hcell 0 cs[0] (by rw [List.getElem?_append_left (by omega)]; exact List.getElem?_eq_getElem (by omega))
 have hs:ad.spot = none:=by
  have:=spot_none hcell0
  rwa [show ad.add 0 = ad by unfold Addr.add; rw [if_pos rfl]] at this
 obtain ⟨b,o,sp⟩:=ad
 cases hs
 have hadd:∀ j,(⟨b,o,none⟩:Addr).add j = ⟨b,o + j,none⟩:=fun j=>(add_plain ⟨b,o,none⟩ j rfl).symm
 have hlt:=cell_in hcell0
 rw [block_of_add] at hlt
 have hrest:∀ j u,rest[j]? = some u → w.cell? (((⟨b,o,none⟩:Addr).add k).add j) = some u:=fun j u hu=>by
  rw [add_of_add]
  refine hcell _ u ?_
  rw [List.getElem?_append_right (by omega),← hu]
  congr 1
  omega
 have hlen:rest.length = l.length * k:=by
  have:=hr.1
  rw [List.length_append,hcs,Nat.succ_mul] at this
  omega
 refine ⟨b,o,cs,rfl,rfl,hc.1,hc.2,hb,hlt,h1,fun j u hu=>?_,fun e=>?_,fun e=>?_⟩
 ·rw [← hadd]
  refine hcell j u ?_
  have hj:j < cs.length:=by
   rcases Nat.lt_or_ge j cs.length with q | q
   ·exact q
   ·rw [List.getElem?_eq_none q] at hu; cases hu
  rw [List.getElem?_append_left hj]
  exact hu
 ·have hl0:l.length = 0:=by omega
  have hl:l = []:=List.eq_nil_of_length_eq_zero hl0
  subst hl
  exact ⟨_,_,rest,rfl,⟨by simp,by omega⟩,⟨hlen,fun q=>absurd q (by simp)⟩,h2⟩
 ·refine ⟨_,_,rest,rfl,⟨by omega,by omega⟩,⟨hlen,fun _=>⟨_,rfl,hb,fun j u hu=>?_⟩⟩,h2⟩
  rw [← hadd k]
  exact hrest j u hu
theorem SLk.len {α:Type} {k:Nat} {R:World → (Nat → Prop) → α → List Value → Prop} {w:World} {F:Nat → Prop} {A:Option Addr} {n c:Nat} {l:List α} (h:SLk k R w F (.slice A n c) l):n = l.length:=by
 obtain ⟨A',c',xs,e,_⟩:=h
 injection e
theorem slk_cast {α:Type} {k:Nat} {R:World → (Nat → Prop) → α → List Value → Prop} {w:World} {F:Nat → Prop} {A:Option Addr} {n m c:Nat} {l:List α} (h:Hid (SLk k R w F (.slice A n c) l)) (e:n = m):Hid (SLk k R w F (.slice A m c) l):=e ▸ h
/-- A row that grows; its things are of an elder world. -/
def Gro {α:Type} (R:World → (Nat → Prop) → α → List Value → Prop) (T:TypeId) (k:Nat) (w0:World) (F:Nat → Prop) (wr:World) (v:Value) (r:List α):Prop:=∃ xs,wr.ownsRow w0.heap.size T k v r.length xs ∧ LR (R w0 F) r xs
theorem Gro.push {α:Type} {R:World → (Nat → Prop) → α → List Value → Prop} {T:TypeId} {k n:Nat} {w0 w3:World} {F:Nat → Prop} {v':Value} {r:List α} {a:α} {xs cs:List Value} (hl:LR (R w0 F) r xs) (hn:n = r.length) (ho:w3.ownsRow w0.heap.size T k v' (n + 1) (xs ++ cs)) (ha:R w0 F a cs):Gro R T k w0 F w3 v' (r ++ [a]):=by
 subst hn
 exact ⟨xs ++ cs,by rw [List.length_append,List.length_singleton]; exact ho,LR.app (LR.one ha) _ _ hl⟩
theorem Gro.below {α:Type} {R:World → (Nat → Prop) → α → List Value → Prop} {T:TypeId} {k:Nat} {w0 wr w':World} {F:Nat → Prop} {v:Value} {r:List α} (h:Gro R T k w0 F wr v r) (hb:Below wr.heap.size wr w'):Gro R T k w0 F w' v r:=by
 obtain ⟨xs,h1,h2⟩:=h
 exact ⟨xs,own_later h1 hb,h2⟩
def vlen:Value → Nat
 | .slice _ n _=>n
 | _=>0
set_option maxRecDepth 100000 in
set_option maxHeartbeats 4000000 in
theorem items_any {w:World} {F:Nat → Prop} {vl vt:Value} {l0:List It} {t0:List Ch} (h1:SLk 2 ItR w F vl l0) (h2:SLk 3 ChR w F vt t0) (hlen:l0.length + t0.length ≤ 1000000000) :
  Calls Try.prog 53 #[vl,vt] w fun e w'=>∃ v,e = .returned v ∧ Gro ItR TIt 2 w F w' v (mergeC l0 t0) ∧ Below w.heap.size w w':=by
 obtain ⟨i0,hi0,hz0,hz1,hz2⟩:=tit_inf
 have HI0:=hide hi0
 have HZ0:=hide hz0
 have H1:=hide h1
 have H2:=hide h2
 obtain ⟨A1,c1,xs1,rfl,_⟩:=h1
 obtain ⟨A2,c2,xs2,rfl,_⟩:=h2
 clear hi0 hz0
 obtain ⟨N0,hN0⟩:∃ N0,l0.length + t0.length = N0:=⟨_,rfl⟩
 rw [hN0] at hlen
 have HN0:=hide hN0
 clear hN0
 obtain ⟨n10,hn10⟩:∃ n,l0.length = n:=⟨_,rfl⟩
 obtain ⟨n20,hn20⟩:∃ n,t0.length = n:=⟨_,rfl⟩
 rw [hn10] at H1 ⊢
 rw [hn20] at H2 ⊢
 clear hn10 hn20
 go_enter Try.func53,Try.ntmps53
 go_wp2_with fail
 go_loopw [0,1,5] (fun va vb vo wr=>∃ (A1 A2 A5:Option Addr) (n1 c1 n2 c2 n5 c5:Nat) (l:List It) (t:List Ch) (r:List It),va = .slice A1 n1 c1 ∧ vb = .slice A2 n2 c2 ∧ vo = .slice A5 n5 c5 ∧ Hid (SLk 2 ItR w F (.slice A1 n1 c1) l) ∧ Hid (SLk 3 ChR w F (.slice A2 n2 c2) t) ∧ Hid (r ++ mergeC l t = mergeC l0 t0) ∧ Hid (Gro ItR TIt 2 w F wr (.slice A5 n5 c5) r) ∧ Hid (Below w.heap.size w wr) ∧ n5 + n1 + n2 ≤ N0) (fun va vb _ _=>vlen va + vlen vb)
 case atStart=>exact ⟨_,_,none,_,_,_,_,0,0,l0,t0,[],rfl,rfl,rfl,H1,H2,hide rfl,hide ⟨[],World.ownsRow_nil _ _ _ _,rfl⟩,hide (Below.refl _ _),by have:=H1.out.len; have:=H2.out.len; have:=HN0.out; omega⟩
 case round=>
  clear H1 H2
  obtain ⟨A1,A2,A5,n1,c1,n2,c2,n5,c5,l,t,r,rfl,rfl,rfl,H1,H2,HM,HG,HB,hn⟩:=hrel
  obtain ⟨xs,hxo,hxl⟩:=HG.out
  have hr5:n5 = r.length:=by
   rcases hxo.2 with ⟨e,_⟩ | ⟨_,_,_,e,_⟩
   ·injection e with _ e _; rename_i h0; omega
   ·injection e
  rw [← hr5] at hxo
  have HXO:=hide hxo
  have HXL:=hide hxl
  have HR5:=hide hr5
  clear hxo hxl hr5
  cases l with
  | nil=>
   obtain rfl:n1 = 0:=H1.out.len
   cases t with
   | nil=>
    obtain rfl:n2 = 0:=H2.out.len
    go_wp2_with fail
    go_ret
    have HG2:=HG.out
    have e:=HM.out
    rw [mergeC_none,List.append_nil] at e
    rw [e] at HG2
    exact ⟨_,rfl,HG2,HB.out⟩
   | cons c t=>
    obtain ⟨b2,o2,cs2,rfl,hn2,hnc2,hcm2,hF2,hb2,hR2,hcell2,ht2a,ht2b⟩:=H2.out.uncons (fun a cs h=>ChR.three a cs h) (by omega)
    obtain ⟨y0,y1,rfl,hy0,hy1⟩:=hR2
    have HR2:=hide (show ItR w F ⟨c.k,c.v⟩ [y0,y1] from ⟨y0,y1,rfl,hy0,hy1⟩)
    have q20:=hcell2 0 y0 rfl
    have q21:=hcell2 1 y1 rfl
    have q22:=hcell2 2 _ rfl
    have k20:=(HB.out.cell (p:=⟨b2,o2,none⟩) hb2).trans (by simpa using q20)
    have k21:=(HB.out.cell (p:=⟨b2,o2 + 1,none⟩) hb2).trans q21
    have k22:=(HB.out.cell (p:=⟨b2,o2 + 2,none⟩) hb2).trans q22
    have zz2:b2 < wr.heap.size:=Nat.lt_of_lt_of_le hb2 HB.out.size
    have HT2a:=hide ht2a
    have HT2b:=hide ht2b
    have HY0:=hide hy0
    have hp2:0 < n2:=by omega
    have hpc2:1 ≤ c2:=by omega
    clear hy1 hcell2 ht2a ht2b q20 q21 q22 hy0
    obtain ⟨gn,hgn⟩:∃ gn,c.gone = gn:=⟨_,rfl⟩
    rw [hgn] at k22
    have HGN:=hide hgn
    clear hgn
    cases gn with
    | true=>
     have HM2:=hide (show r ++ mergeC [] t = mergeC l0 t0 from by
      have:=HM.out
      rw [mergeC,Ch.item,if_pos HGN.out] at this
      exact this)
     by_cases hc:c2 = 1
     ·subst hc
      go_wp2_with fail
      exact ⟨⟨_,_,_,_,_,_,_,_,_,[],t,r,rfl,rfl,rfl,H1,hide (HT2a.out rfl),HM2,HG,HB,by omega⟩,by simp [vlen]; omega⟩
     ·have hc':1 < c2:=by omega
      go_wp2_with fail
      exact ⟨⟨_,_,_,_,_,_,_,_,_,[],t,r,rfl,rfl,rfl,H1,hide (HT2b.out hc),HM2,HG,HB,by omega⟩,by simp [vlen]; omega⟩
    | false=>
     have HM2:=hide (show (r ++ [⟨c.k,c.v⟩]) ++ mergeC [] t = mergeC l0 t0 from by
      have:=HM.out
      rw [mergeC,Ch.item,if_neg (by rw [HGN.out]; simp)] at this
      rw [List.append_assoc]
      exact this)
     have HOne:=hide (show y0.oneCell' = true ∧ y1.oneCell' = true from by
      obtain ⟨a,b,e,⟨_,_,ea,_⟩,⟨_,_,eb,_⟩⟩:=HR2.out
      injection e with e1 e
      injection e with e2 _
      rw [e1,e2,ea,eb]
      exact ⟨rfl,rfl⟩)
     go_upto_region 13 with (at_builtin; refine wpList_append_any _ rfl (.tmp 46) (.tmp 51) _ rfl w.heap.size TIt i0 _ 2 48 Try.underlying32 HI0.out HZ0.out hz1 hz2 rfl (by omega) (.slice A5 n5 c5) n5 xs rfl (own_later HXO.out (al_below wr _)) _ (some ⟨wr.heap.size,0,none⟩) 1 1 [y0,y1] rfl (reads_blk (Blk.new wr TIt _) rfl rfl) (by intro u hu; simp at hu; rcases hu with rfl | rfl; exact HOne.out.1; exact HOne.out.2) (by unfold maxLen; omega) (by omega) (Nat.le_trans HB.out.size (al_below wr _).size) ?_; intro v' w7 ho hgb hoo; (obtain ⟨A6,c6,rfl,hc6⟩:=own_slice ho); have HO6:=hide ho; have HB6:=hide (show Below w.heap.size w w7 from (HB.out.alloc HB.out.size _).grown hgb (Nat.le_trans HB.out.size (al_below wr _).size) (fun k hk=>(HXO.out.lt k hk).1)); clear ho hgb hoo)
     by_cases hc:c2 = 1
     ·subst hc
      go_wp2_with fail
      exact ⟨⟨_,_,_,_,_,_,_,_,_,[],t,r ++ [⟨c.k,c.v⟩],rfl,rfl,rfl,H1,hide (HT2a.out rfl),HM2,hide (Gro.push HXL.out HR5.out HO6.out HR2.out),HB6,by omega⟩,by simp [vlen]; omega⟩
     ·have hc':1 < c2:=by omega
      go_wp2_with fail
      exact ⟨⟨_,_,_,_,_,_,_,_,_,[],t,r ++ [⟨c.k,c.v⟩],rfl,rfl,rfl,H1,hide (HT2b.out hc),HM2,hide (Gro.push HXL.out HR5.out HO6.out HR2.out),HB6,by omega⟩,by simp [vlen]; omega⟩
  | cons i l=>
   obtain ⟨b1,o1,cs1,rfl,hn1,hnc1,hcm1,hF1,hb1,hR1,hcell1,ht1a,ht1b⟩:=H1.out.uncons (fun a cs h=>ItR.two a cs h) (by omega)
   obtain ⟨x0,x1,rfl,hx0,hx1⟩:=hR1
   have HR1:=hide (show ItR w F i [x0,x1] from ⟨x0,x1,rfl,hx0,hx1⟩)
   have q10:=hcell1 0 x0 rfl
   have q11:=hcell1 1 x1 rfl
   have k10:=(HB.out.cell (p:=⟨b1,o1,none⟩) hb1).trans (by simpa using q10)
   have k11:=(HB.out.cell (p:=⟨b1,o1 + 1,none⟩) hb1).trans q11
   have zz1:b1 < wr.heap.size:=Nat.lt_of_lt_of_le hb1 HB.out.size
   have HT1a:=hide ht1a
   have HT1b:=hide ht1b
   have HX0:=hide hx0
   have hp1:0 < n1:=by omega
   have hpc1:1 ≤ c1:=by omega
   clear hx1 hcell1 ht1a ht1b q10 q11 hx0
   cases t with
   | nil=>
    obtain rfl:n2 = 0:=H2.out.len
    have HM2:=hide (show (r ++ [i]) ++ mergeC l [] = mergeC l0 t0 from by
     have:=HM.out
     rw [mergeC_none] at this
     rw [mergeC_none,List.append_assoc]
     exact this)
    have HOne:=hide (show x0.oneCell' = true ∧ x1.oneCell' = true from by
     obtain ⟨a,b,e,⟨_,_,ea,_⟩,⟨_,_,eb,_⟩⟩:=HR1.out
     injection e with e1 e
     injection e with e2 _
     rw [e1,e2,ea,eb]
     exact ⟨rfl,rfl⟩)
    go_upto_region 10 with (at_builtin; refine wpList_append_any _ rfl (.tmp 33) (.tmp 37) _ rfl w.heap.size TIt i0 _ 2 48 Try.underlying32 HI0.out HZ0.out hz1 hz2 rfl (by omega) (.slice A5 n5 c5) n5 xs rfl (own_later HXO.out (al_below wr _)) _ (some ⟨wr.heap.size,0,none⟩) 1 1 [x0,x1] rfl (reads_blk (Blk.new wr TIt _) rfl rfl) (by intro u hu; simp at hu; rcases hu with rfl | rfl; exact HOne.out.1; exact HOne.out.2) (by unfold maxLen; omega) (by omega) (Nat.le_trans HB.out.size (al_below wr _).size) ?_; intro v' w7 ho hgb hoo; (obtain ⟨A6,c6,rfl,hc6⟩:=own_slice ho); have HO6:=hide ho; have HB6:=hide (show Below w.heap.size w w7 from (HB.out.alloc HB.out.size _).grown hgb (Nat.le_trans HB.out.size (al_below wr _).size) (fun k hk=>(HXO.out.lt k hk).1)); clear ho hgb hoo)
    by_cases hc:c1 = 1
    ·subst hc
     go_wp2_with fail
     exact ⟨⟨_,_,_,_,_,_,_,_,_,l,[],r ++ [i],rfl,rfl,rfl,hide (HT1a.out rfl),H2,HM2,hide (Gro.push HXL.out HR5.out HO6.out HR1.out),HB6,by omega⟩,by simp [vlen]; omega⟩
    ·have hc':1 < c1:=by omega
     go_wp2_with fail
     exact ⟨⟨_,_,_,_,_,_,_,_,_,l,[],r ++ [i],rfl,rfl,rfl,hide (HT1b.out hc),H2,HM2,hide (Gro.push HXL.out HR5.out HO6.out HR1.out),HB6,by omega⟩,by simp [vlen]; omega⟩
   | cons c t=>
    obtain ⟨b2,o2,cs2,rfl,hn2,hnc2,hcm2,hF2,hb2,hR2,hcell2,ht2a,ht2b⟩:=H2.out.uncons (fun a cs h=>ChR.three a cs h) (by omega)
    obtain ⟨y0,y1,rfl,hy0,hy1⟩:=hR2
    have HR2:=hide (show ItR w F ⟨c.k,c.v⟩ [y0,y1] from ⟨y0,y1,rfl,hy0,hy1⟩)
    have q20:=hcell2 0 y0 rfl
    have q21:=hcell2 1 y1 rfl
    have q22:=hcell2 2 _ rfl
    have k20:=(HB.out.cell (p:=⟨b2,o2,none⟩) hb2).trans (by simpa using q20)
    have k21:=(HB.out.cell (p:=⟨b2,o2 + 1,none⟩) hb2).trans q21
    have k22:=(HB.out.cell (p:=⟨b2,o2 + 2,none⟩) hb2).trans q22
    have zz2:b2 < wr.heap.size:=Nat.lt_of_lt_of_le hb2 HB.out.size
    have HT2a:=hide ht2a
    have HT2b:=hide ht2b
    have HY0:=hide hy0
    have hp2:0 < n2:=by omega
    have hpc2:1 ≤ c2:=by omega
    clear hy1 hcell2 ht2a ht2b q20 q21 q22 hy0
    obtain ⟨q,hq⟩:∃ q,Lib.compareBytes c.k i.k = q:=⟨_,rfl⟩
    have HQ:=hide hq
    clear hq
    go_upto_region 7 with fail
    refine wp_region_facts (by kernel_rfl) (by kernel_rfl) 60
     [⟨21,fun v _=>v = .slice (some ⟨b2,o2,none⟩) n2 c2⟩,
      ⟨22,fun v _=>v = .pointer (some ⟨b2,o2,none⟩)⟩,
      ⟨23,fun v _=>v = .pointer (some ⟨b2,o2,none⟩)⟩,
      ⟨24,fun v _=>v = .pointer (some ⟨b2,o2,none⟩)⟩,
      ⟨25,fun v _=>v = y0⟩,
      ⟨26,fun v _=>v = .slice (some ⟨b1,o1,none⟩) n1 c1⟩,
      ⟨27,fun v _=>v = .pointer (some ⟨b1,o1,none⟩)⟩,
      ⟨28,fun v _=>v = .pointer (some ⟨b1,o1,none⟩)⟩,
      ⟨29,fun v _=>v = x0⟩,
      ⟨30,fun v _=>v = .int .i64 q⟩,
      ⟨6,fun v _=>v = .int .i64 q⟩] (by kernel_rfl) rfl rfl ?_ ?_ ?_
    ·intro e he v w w' _ hb hv
     simp only [List.mem_cons,List.not_mem_nil,or_false] at he
     rcases he with rfl | rfl | rfl | rfl | rfl | rfl | rfl | rfl | rfl | rfl | rfl
     all_goals first | exact hv
    ·refine ⟨?_,?_,?_,?_,?_,?_,?_,?_,?_,?_,?_,trivial⟩
     ·intro ac w3 hg hd K hK
      exact op_move _ rfl (hK _ _ (Below.refl _ _) (hg.kp 1 (by simp)))
     ·intro ac w3 hg hd K hK
      have f0:=hd ⟨0,.data⟩ (by simp) rfl _ rfl
      (try simp [Act.eval] at f0)
      go_simp
      exact hK _ _ (Below.refl _ _) rfl
     ·intro ac w3 hg hd K hK
      have f1:=hd ⟨1,.data⟩ (by simp) rfl _ rfl
      (try simp [Act.eval] at f1)
      go_simp
      exact hK _ _ (Below.refl _ _) rfl
     ·intro ac w3 hg hd K hK
      have f2:=hd ⟨2,.data⟩ (by simp) rfl _ rfl
      (try simp [Act.eval] at f2)
      go_simp
      exact hK _ _ (Below.refl _ _) rfl
     ·intro ac w3 hg hd K hK
      have kk:=(hg.hb.cell (p:=⟨b2,o2,none⟩) zz2).trans k20
      have zz:=Nat.lt_of_lt_of_le zz2 hg.hb.size
      have f3:=hd ⟨3,.data⟩ (by simp) rfl _ rfl
      (try simp [Act.eval] at f3)
      go_simp
      exact hK _ _ (Below.refl _ _) rfl
     ·intro ac w3 hg hd K hK
      exact op_move _ rfl (hK _ _ (Below.refl _ _) (hg.kp 0 (by simp)))
     ·intro ac w3 hg hd K hK
      have f5:=hd ⟨5,.data⟩ (by simp) rfl _ rfl
      (try simp [Act.eval] at f5)
      go_simp
      exact hK _ _ (Below.refl _ _) rfl
     ·intro ac w3 hg hd K hK
      have f6:=hd ⟨6,.data⟩ (by simp) rfl _ rfl
      (try simp [Act.eval] at f6)
      go_simp
      exact hK _ _ (Below.refl _ _) rfl
     ·intro ac w3 hg hd K hK
      have kk:=(hg.hb.cell (p:=⟨b1,o1,none⟩) zz1).trans k10
      have zz:=Nat.lt_of_lt_of_le zz1 hg.hb.size
      have f7:=hd ⟨7,.data⟩ (by simp) rfl _ rfl
      (try simp [Act.eval] at f7)
      go_simp
      exact hK _ _ (Below.refl _ _) rfl
     ·intro ac w3 hg hd K hK
      have f4:=hd ⟨4,.data⟩ (by simp) rfl _ rfl
      have f8:=hd ⟨8,.data⟩ (by simp) rfl _ rfl
      simp [Act.eval] at f4 f8
      go_simp
      refine (compare_bs (HY0.out.all.later (HB.out.trans (hg.hb.mono HB.out.size))) (HX0.out.all.later (HB.out.trans (hg.hb.mono HB.out.size)))).mono ?_
      rintro e w4 ⟨rfl,e4⟩
      rw [e4,HQ.out]
      exact hK _ _ (Below.refl _ _) rfl
     ·intro ac w3 hg hd K hK
      exact op_assign _ rfl (hK _ _ (Below.refl _ _) (hd ⟨9,.data⟩ (by simp) rfl _ rfl))
    ·intro f w5 hb5 hall
     have h6:=hall ⟨6,fun v _=>v = .int .i64 q⟩ (by simp)
     simp only [fillF,List.map_cons,List.map_nil,List.foldl_cons,List.foldl_nil,Act.put,List.setIfInBounds_toArray,List.set_cons_zero,List.set_cons_succ]
     rw [h6]
     clear h6 hall
     have HXO:=hide (own_later HXO.out hb5)
     have HG:=hide (HG.out.below hb5)
     have HB:=hide (HB.out.trans (hb5.mono HB.out.size))
     have k10:=(hb5.cell (p:=⟨b1,o1,none⟩) zz1).trans k10
     have k11:=(hb5.cell (p:=⟨b1,o1 + 1,none⟩) zz1).trans k11
     have k20:=(hb5.cell (p:=⟨b2,o2,none⟩) zz2).trans k20
     have k21:=(hb5.cell (p:=⟨b2,o2 + 1,none⟩) zz2).trans k21
     have k22:=(hb5.cell (p:=⟨b2,o2 + 2,none⟩) zz2).trans k22
     have zz1:=Nat.lt_of_lt_of_le zz1 hb5.size
     have zz2:=Nat.lt_of_lt_of_le zz2 hb5.size
     clear hb5
     by_cases hq0:0 < q
     ·have HM2:=hide (show (r ++ [i]) ++ mergeC l (c :: t) = mergeC l0 t0 from by
       have:=HM.out
       rw [mergeC,if_pos (by rw [HQ.out]; exact hq0)] at this
       rw [List.append_assoc]
       exact this)
      have HOne:=hide (show x0.oneCell' = true ∧ x1.oneCell' = true from by
       obtain ⟨a,b,e,⟨_,_,ea,_⟩,⟨_,_,eb,_⟩⟩:=HR1.out
       injection e with e1 e
       injection e with e2 _
       rw [e1,e2,ea,eb]
       exact ⟨rfl,rfl⟩)
      clear k20 k21 k22
      go_upto_region 10 with (at_builtin; refine wpList_append_any _ rfl (.tmp 33) (.tmp 37) _ rfl w.heap.size TIt i0 _ 2 48 Try.underlying32 HI0.out HZ0.out hz1 hz2 rfl (by omega) (.slice A5 n5 c5) n5 xs rfl (own_later HXO.out (al_below w5 _)) _ (some ⟨w5.heap.size,0,none⟩) 1 1 [x0,x1] rfl (reads_blk (Blk.new w5 TIt _) rfl rfl) (by intro u hu; simp at hu; rcases hu with rfl | rfl; exact HOne.out.1; exact HOne.out.2) (by unfold maxLen; omega) (by omega) (Nat.le_trans HB.out.size (al_below w5 _).size) ?_; intro v' w7 ho hgb hoo; (obtain ⟨A6,c6,rfl,hc6⟩:=own_slice ho); have HO6:=hide ho; have HB6:=hide (show Below w.heap.size w w7 from (HB.out.alloc HB.out.size _).grown hgb (Nat.le_trans HB.out.size (al_below w5 _).size) (fun k hk=>(HXO.out.lt k hk).1)); clear ho hgb hoo)
      clear k10 k11
      by_cases hc:c1 = 1
      ·subst hc
       go_wp2_with fail
       exact ⟨⟨_,_,_,_,_,_,_,_,_,l,(c :: t),r ++ [i],rfl,rfl,rfl,hide (HT1a.out rfl),(slk_cast H2 (by omega)),HM2,hide (Gro.push HXL.out HR5.out HO6.out HR1.out),HB6,by omega⟩,by simp [vlen]; omega⟩
      ·have hc':1 < c1:=by omega
       go_wp2_with fail
       exact ⟨⟨_,_,_,_,_,_,_,_,_,l,(c :: t),r ++ [i],rfl,rfl,rfl,hide (HT1b.out hc),(slk_cast H2 (by omega)),HM2,hide (Gro.push HXL.out HR5.out HO6.out HR1.out),HB6,by omega⟩,by simp [vlen]; omega⟩
     ·obtain ⟨gn,hgn⟩:∃ gn,c.gone = gn:=⟨_,rfl⟩
      rw [hgn] at k22
      have HGN:=hide hgn
      clear hgn k10 k11
      by_cases hqz:q = 0
      ·subst hqz
       cases gn with
       | true=>
        have HM2:=hide (show r ++ mergeC l t = mergeC l0 t0 from by
         have:=HM.out
         rw [mergeC,if_neg (by rw [HQ.out]; omega),if_pos HQ.out,Ch.item,if_pos HGN.out] at this
         exact this)
        by_cases hc:c1 = 1
        ·subst hc
         by_cases hc2:c2 = 1
         ·subst hc2
          go_wp2_with fail
          exact ⟨⟨_,_,_,_,_,_,_,_,_,l,t,r,rfl,rfl,rfl,hide (HT1a.out rfl),hide (HT2a.out rfl),HM2,HG,HB,by omega⟩,by simp [vlen]; omega⟩
         ·have hc2':1 < c2:=by omega
          go_wp2_with fail
          exact ⟨⟨_,_,_,_,_,_,_,_,_,l,t,r,rfl,rfl,rfl,hide (HT1a.out rfl),hide (HT2b.out hc2),HM2,HG,HB,by omega⟩,by simp [vlen]; omega⟩
        ·have hc':1 < c1:=by omega
         by_cases hc2:c2 = 1
         ·subst hc2
          go_wp2_with fail
          exact ⟨⟨_,_,_,_,_,_,_,_,_,l,t,r,rfl,rfl,rfl,hide (HT1b.out hc),hide (HT2a.out rfl),HM2,HG,HB,by omega⟩,by simp [vlen]; omega⟩
         ·have hc2':1 < c2:=by omega
          go_wp2_with fail
          exact ⟨⟨_,_,_,_,_,_,_,_,_,l,t,r,rfl,rfl,rfl,hide (HT1b.out hc),hide (HT2b.out hc2),HM2,HG,HB,by omega⟩,by simp [vlen]; omega⟩
       | false=>
        have HM2:=hide (show (r ++ [⟨c.k,c.v⟩]) ++ mergeC l t = mergeC l0 t0 from by
         have:=HM.out
         rw [mergeC,if_neg (by rw [HQ.out]; omega),if_pos HQ.out,Ch.item,if_neg (by rw [HGN.out]; simp)] at this
         rw [List.append_assoc]
         exact this)
        have HOne:=hide (show y0.oneCell' = true ∧ y1.oneCell' = true from by
         obtain ⟨a,b,e,⟨_,_,ea,_⟩,⟨_,_,eb,_⟩⟩:=HR2.out
         injection e with e1 e
         injection e with e2 _
         rw [e1,e2,ea,eb]
         exact ⟨rfl,rfl⟩)
        go_upto_region 13 with (at_builtin; refine wpList_append_any _ rfl (.tmp 46) (.tmp 51) _ rfl w.heap.size TIt i0 _ 2 48 Try.underlying32 HI0.out HZ0.out hz1 hz2 rfl (by omega) (.slice A5 n5 c5) n5 xs rfl (own_later HXO.out (al_below w5 _)) _ (some ⟨w5.heap.size,0,none⟩) 1 1 [y0,y1] rfl (reads_blk (Blk.new w5 TIt _) rfl rfl) (by intro u hu; simp at hu; rcases hu with rfl | rfl; exact HOne.out.1; exact HOne.out.2) (by unfold maxLen; omega) (by omega) (Nat.le_trans HB.out.size (al_below w5 _).size) ?_; intro v' w7 ho hgb hoo; (obtain ⟨A6,c6,rfl,hc6⟩:=own_slice ho); have HO6:=hide ho; have HB6:=hide (show Below w.heap.size w w7 from (HB.out.alloc HB.out.size _).grown hgb (Nat.le_trans HB.out.size (al_below w5 _).size) (fun k hk=>(HXO.out.lt k hk).1)); clear ho hgb hoo)
        clear k20 k21 k22
        by_cases hc:c1 = 1
        ·subst hc
         by_cases hc2:c2 = 1
         ·subst hc2
          go_wp2_with fail
          exact ⟨⟨_,_,_,_,_,_,_,_,_,l,t,r ++ [⟨c.k,c.v⟩],rfl,rfl,rfl,hide (HT1a.out rfl),hide (HT2a.out rfl),HM2,hide (Gro.push HXL.out HR5.out HO6.out HR2.out),HB6,by omega⟩,by simp [vlen]; omega⟩
         ·have hc2':1 < c2:=by omega
          go_wp2_with fail
          exact ⟨⟨_,_,_,_,_,_,_,_,_,l,t,r ++ [⟨c.k,c.v⟩],rfl,rfl,rfl,hide (HT1a.out rfl),hide (HT2b.out hc2),HM2,hide (Gro.push HXL.out HR5.out HO6.out HR2.out),HB6,by omega⟩,by simp [vlen]; omega⟩
        ·have hc':1 < c1:=by omega
         by_cases hc2:c2 = 1
         ·subst hc2
          go_wp2_with fail
          exact ⟨⟨_,_,_,_,_,_,_,_,_,l,t,r ++ [⟨c.k,c.v⟩],rfl,rfl,rfl,hide (HT1b.out hc),hide (HT2a.out rfl),HM2,hide (Gro.push HXL.out HR5.out HO6.out HR2.out),HB6,by omega⟩,by simp [vlen]; omega⟩
         ·have hc2':1 < c2:=by omega
          go_wp2_with fail
          exact ⟨⟨_,_,_,_,_,_,_,_,_,l,t,r ++ [⟨c.k,c.v⟩],rfl,rfl,rfl,hide (HT1b.out hc),hide (HT2b.out hc2),HM2,hide (Gro.push HXL.out HR5.out HO6.out HR2.out),HB6,by omega⟩,by simp [vlen]; omega⟩
      ·have hqn:q < 0:=by omega
       have hqe:(q == 0) = false:=by simpa using hqz
       cases gn with
       | true=>
        have HM2:=hide (show r ++ mergeC (i :: l) t = mergeC l0 t0 from by
         have:=HM.out
         rw [mergeC,if_neg (by rw [HQ.out]; omega),if_neg (by rw [HQ.out]; omega),Ch.item,if_pos HGN.out] at this
         exact this)
        by_cases hc:c2 = 1
        ·subst hc
         go_wp2_with fail
         exact ⟨⟨_,_,_,_,_,_,_,_,_,(i :: l),t,r,rfl,rfl,rfl,(slk_cast H1 (by omega)),hide (HT2a.out rfl),HM2,HG,HB,by omega⟩,by simp [vlen]; omega⟩
        ·have hc':1 < c2:=by omega
         go_wp2_with fail
         exact ⟨⟨_,_,_,_,_,_,_,_,_,(i :: l),t,r,rfl,rfl,rfl,(slk_cast H1 (by omega)),hide (HT2b.out hc),HM2,HG,HB,by omega⟩,by simp [vlen]; omega⟩
       | false=>
        have HM2:=hide (show (r ++ [⟨c.k,c.v⟩]) ++ mergeC (i :: l) t = mergeC l0 t0 from by
         have:=HM.out
         rw [mergeC,if_neg (by rw [HQ.out]; omega),if_neg (by rw [HQ.out]; omega),Ch.item,if_neg (by rw [HGN.out]; simp)] at this
         rw [List.append_assoc]
         exact this)
        have HOne:=hide (show y0.oneCell' = true ∧ y1.oneCell' = true from by
         obtain ⟨a,b,e,⟨_,_,ea,_⟩,⟨_,_,eb,_⟩⟩:=HR2.out
         injection e with e1 e
         injection e with e2 _
         rw [e1,e2,ea,eb]
         exact ⟨rfl,rfl⟩)
        go_upto_region 13 with (at_builtin; refine wpList_append_any _ rfl (.tmp 46) (.tmp 51) _ rfl w.heap.size TIt i0 _ 2 48 Try.underlying32 HI0.out HZ0.out hz1 hz2 rfl (by omega) (.slice A5 n5 c5) n5 xs rfl (own_later HXO.out (al_below w5 _)) _ (some ⟨w5.heap.size,0,none⟩) 1 1 [y0,y1] rfl (reads_blk (Blk.new w5 TIt _) rfl rfl) (by intro u hu; simp at hu; rcases hu with rfl | rfl; exact HOne.out.1; exact HOne.out.2) (by unfold maxLen; omega) (by omega) (Nat.le_trans HB.out.size (al_below w5 _).size) ?_; intro v' w7 ho hgb hoo; (obtain ⟨A6,c6,rfl,hc6⟩:=own_slice ho); have HO6:=hide ho; have HB6:=hide (show Below w.heap.size w w7 from (HB.out.alloc HB.out.size _).grown hgb (Nat.le_trans HB.out.size (al_below w5 _).size) (fun k hk=>(HXO.out.lt k hk).1)); clear ho hgb hoo)
        clear k20 k21 k22
        by_cases hc:c2 = 1
        ·subst hc
         go_wp2_with fail
         exact ⟨⟨_,_,_,_,_,_,_,_,_,(i :: l),t,r ++ [⟨c.k,c.v⟩],rfl,rfl,rfl,(slk_cast H1 (by omega)),hide (HT2a.out rfl),HM2,hide (Gro.push HXL.out HR5.out HO6.out HR2.out),HB6,by omega⟩,by simp [vlen]; omega⟩
        ·have hc':1 < c2:=by omega
         go_wp2_with fail
         exact ⟨⟨_,_,_,_,_,_,_,_,_,(i :: l),t,r ++ [⟨c.k,c.v⟩],rfl,rfl,rfl,(slk_cast H1 (by omega)),hide (HT2b.out hc),HM2,hide (Gro.push HXL.out HR5.out HO6.out HR2.out),HB6,by omega⟩,by simp [vlen]; omega⟩
end Go.Proofs.Ytkolacaceaamoaa
