/- The law's own, once more: its row and what stands in it; two items that change places; what keys have (plain). -/
import Derived.Test.YtkolacaceaamoaaKSj
import Derived.Test.YtkolacaceaamoaaKSh
set_option linter.unusedSimpArgs false
set_option linter.unusedVariables false
namespace Go.Proofs.Ytkolacaceaamoaa
open Go.RowKit
open Go.Lib (compareBytes)
theorem cb_nil (k:Cn):0 ≤ compareBytes k []:=by
 cases k <;> simp [compareBytes]
theorem goL_all {most:Int}:∀ (is o:List It),((o.length + is.length:Nat):Int) ≤ most → goL [] [] most o is = (true,o ++ is)
 | [],o,_=>by simp [goL]
 | x :: r,o,h=>by
  rw [List.length_cons] at h
  have hst:stopB [] most o.length x = false:=by
   unfold stopB
   simp
   omega
  rw [goL,if_pos (cb_nil x.k),hst]
  have:=goL_all (most:=most) r (o ++ [x]) (by rw [List.length_append,List.length_singleton]; omega)
  simp [this]
theorem valOf_iff {l:List It} (hn:(l.map It.k).Nodup) {key v:Cn}:valOf l key = some v ↔ (⟨key,v⟩:It) ∈ l:=by
 induction l with
 | nil=>simp [valOf]
 | cons x r ih=>
  rw [List.map_cons,List.nodup_cons] at hn
  rw [valOf_cons,List.mem_cons]
  by_cases h:x.k = key
  ·rw [if_pos h]
   constructor
   ·intro e
    injection e with e
    refine .inl ?_
    cases x
    simp at h e
    rw [h,e]
   ·rintro (e | e)
    ·rw [← e]
    ·exact absurd (by rw [h]; exact List.mem_map_of_mem (f:=It.k) e) hn.1
  ·rw [if_neg h,ih hn.2]
   constructor
   ·exact .inr
   ·rintro (e | e)
    ·rw [← e] at h; exact absurd rfl h
    ·exact e
theorem rise_nodup {l:List It} (h:RiseI l):(l.map It.k).Nodup:=by
 unfold List.Nodup
 rw [List.pairwise_map]
 exact h.imp fun {a b} h e=>by rw [cb_zero.2 e] at h; omega
/-- Two rising lists that have the same are the same. -/
theorem rise_ext:∀ {a b:List It},RiseI a → RiseI b → (∀ key,valOf a key = valOf b key) → a = b
 | [],[],_,_,_=>rfl
 | [],y :: b,_,hb,h=>by
  have:=h y.k
  rw [valOf_cons,if_pos rfl] at this
  cases this
 | x :: a,[],ha,_,h=>by
  have:=h x.k
  rw [valOf_cons,if_pos rfl] at this
  cases this
 | x :: a,y :: b,ha,hb,h=>by
  have ha':=List.pairwise_cons.1 ha
  have hb':=List.pairwise_cons.1 hb
  have hx:(x :: a).map It.k |>.Nodup:=rise_nodup ha
  have hy:(y :: b).map It.k |>.Nodup:=rise_nodup hb
  have m1:x ∈ y :: b:=by
   have:=h x.k
   rw [valOf_cons,if_pos rfl] at this
   exact (valOf_iff hy).1 this.symm
  have m2:y ∈ x :: a:=by
   have:=h y.k
   rw [valOf_cons y b,if_pos rfl] at this
   exact (valOf_iff hx).1 this
  have e:x = y:=by
   rcases List.mem_cons.1 m1 with e | m1
   ·exact e
   ·rcases List.mem_cons.1 m2 with e | m2
    ·exact e.symm
    ·have h1:=hb'.1 x m1
     have h2:=ha'.1 y m2
     rw [cb_swap] at h2
     omega
  subst e
  rw [rise_ext ha'.2 hb'.2 fun key=>?_]
  have:=h key
  rw [valOf_cons,valOf_cons] at this
  by_cases hk:x.k = key
  ·have n1:valOf a key = none:=valOf_none fun i hi e=>by
    rw [← hk] at e
    have:=ha'.1 i hi
    rw [e,cb_zero.2 rfl] at this
    omega
   have n2:valOf b key = none:=valOf_none fun i hi e=>by
    rw [← hk] at e
    have:=hb'.1 i hi
    rw [e,cb_zero.2 rfl] at this
    omega
   rw [n1,n2]
  ·rwa [if_neg hk,if_neg hk] at this
/-- A row of items, each with its cells. -/
abbrev ItC:=It × Value × Value
def encI (e:ItC):List Value:=[e.2.1,e.2.2]
theorem lr_it {w:World} {F:Nat → Prop}:∀ (l:List It) (xs:List Value),LR (ItR w F) l xs → ∃ d:List ItC,d.map Prod.fst = l ∧ xs = d.flatMap encI ∧ ∀ e ∈ d,ItR w F e.1 (encI e)
 | [],xs,h=>⟨[],rfl,h,fun e he=>by cases he⟩
 | a :: l,xs,⟨cs,rest,e,h1,h2⟩=>by
  obtain ⟨d,e1,e2,e3⟩:=lr_it l rest h2
  obtain ⟨v1,v2,e4,hk,hv⟩:=h1
  refine ⟨(a,v1,v2) :: d,by rw [List.map_cons,e1],by rw [List.flatMap_cons,e,e4,e2]; rfl,fun e he=>?_⟩
  rcases List.mem_cons.1 he with rfl | he
  ·exact ⟨v1,v2,rfl,hk,hv⟩
  ·exact e3 e he
theorem lr_ti {w:World} {F:Nat → Prop}:∀ d:List ItC,(∀ e ∈ d,ItR w F e.1 (encI e)) → LR (ItR w F) (d.map Prod.fst) (d.flatMap encI)
 | [],_=>rfl
 | e :: d,h=>⟨encI e,_,by rw [List.flatMap_cons],h e List.mem_cons_self,lr_ti d (fun x hx=>h x (List.mem_cons_of_mem _ hx))⟩
theorem encI_get:∀ (d:List ItC) (j:Nat) (hj:j < d.length),(d.flatMap encI)[j * 2]? = some d[j].2.1 ∧ (d.flatMap encI)[j * 2 + 1]? = some d[j].2.2
 | e :: d,0,_=>⟨rfl,rfl⟩
 | e :: d,j + 1,hj=>by
  obtain ⟨h1,h2⟩:=encI_get d j (by simpa using hj)
  have hl:(encI e).length = 2:=rfl
  rw [List.flatMap_cons,List.getElem?_append_right (by omega),List.getElem?_append_right (by omega),hl,show (j + 1) * 2 - 2 = j * 2 by omega,show (j + 1) * 2 + 1 - 2 = j * 2 + 1 by omega]
  exact ⟨h1,h2⟩
theorem encI_set:∀ (d:List ItC) (j:Nat) (e:ItC),j < d.length → ((d.flatMap encI).set (j * 2) e.2.1).set (j * 2 + 1) e.2.2 = (d.set j e).flatMap encI
 | x :: d,0,e,_=>rfl
 | x :: d,j + 1,e,hj=>by
  rw [List.set_cons_succ,List.flatMap_cons,List.flatMap_cons,← encI_set d j e (by simpa using hj)]
  have hl:(encI x).length = 2:=rfl
  rw [List.set_append_right _ _ (by omega),List.set_append_right _ _ (by omega),hl,show (j + 1) * 2 - 2 = j * 2 by omega,show (j + 1) * 2 + 1 - 2 = j * 2 + 1 by omega]
/-- The row that the law has of its own, in a world where items may change places. -/
structure AtS (w0 wr:World) (g n cap:Nat) (F:Nat → Prop) (d:List ItC):Prop where
 row:wr.ownsRow w0.heap.size TIt 2 (.slice (some ⟨g,0,none⟩) n cap) n (d.flatMap encI)
 len:d.length = n
 it:∀ e ∈ d,ItR wr F e.1 (encI e)
 ng:¬ F g
theorem row_set {w0 wr:World} {g n cap:Nat} {xs:List Value} {u:Value} {i:Nat} (h:wr.ownsRow w0.heap.size TIt 2 (.slice (some ⟨g,0,none⟩) n cap) n xs) (hi:i < n * 2):(wr.setCell ⟨g,i,none⟩ u).ownsRow w0.heap.size TIt 2 (.slice (some ⟨g,0,none⟩) n cap) n (xs.set i u):=by
 rcases h.2 with ⟨e,_⟩ | ⟨g',cap',cur,e,hb,hh,hc,hm,hs,ht⟩
 ·cases e
 ·injection e with e1 _ e3
  injection e1 with e1
  injection e1 with e1
  subst e1 e3
  have hb2:Blk wr g TIt cur:=hh
  refine ⟨by rw [List.length_set]; exact h.1,.inr ⟨g,cap,cur.setIfInBounds i u,rfl,hb,hb2.set_ i u,hc,hm,by simpa using hs,?_⟩⟩
  rw [← ht]
  simp [List.take_set]
set_option maxRecDepth 100000 in
set_option maxHeartbeats 8000000 in
theorem lown_gr {w:World} {F:Nat → Prop} {vp:Value} {put:List It} (h1:SLk 2 ItR w F vp put) (hlen:put.length ≤ 100000000) (hp:∀ x ∈ put,x.k.length ≤ 1073741824 ∧ x.v.length ≤ 1073741824) :
  Calls Try.prog 15 #[vp] w fun e w'=>∃ v,e = .returned v ∧ GrN ItR TIt 2 (fun _=>False) w w' v put:=by
 obtain ⟨i0,hi0,hz0,hz1,hz2⟩:=tit_inf
 obtain ⟨i1,hi1,hy0,hy1,hy2⟩:=info_parts u8_info
 have HI0:=hide hi0
 have HZ0:=hide hz0
 have HI1:=hide hi1
 have HY0:=hide hy0
 have H1:=hide h1
 have HP:=hide hp
 obtain ⟨A1,c1,xs1,rfl,hc1,_⟩:=h1
 clear hi0 hz0 hi1 hy0 hp
 obtain ⟨n1,hn1⟩:∃ n,put.length = n:=⟨_,rfl⟩
 have HN1:=hide hn1
 rw [hn1] at H1 hc1 hlen ⊢
 clear hn1
 go_enter Try.func15,Try.ntmps15
 go_wp2_with fail
 go_loopw [3,4] (fun vl vi wr=>∃ (j c:Nat) (A:Option Addr),vl = .slice A j c ∧ vi = .int .i64 (j:Int) ∧ j ≤ n1 ∧ Hid (GrN ItR TIt 2 (fun _=>False) w wr (.slice A j c) (put.take j))) (fun _ vi _=>n1 - (intOf vi).toNat)
 case atStart=>exact ⟨0,0,none,rfl,rfl,by omega,hide ⟨Below.refl _ _,[],World.ownsRow_nil _ _ _ _,rfl⟩⟩
 case round=>
  obtain ⟨j,c,A,rfl,rfl,hj,HG⟩:=hrel
  by_cases hlt:j < n1
  ·have hj':j < put.length:=by rw [HN1.out]; exact hlt
   obtain ⟨b,o,A0,c0,B0,d0,rfl,hb,hF,k0,k1,hit⟩:=H1.out.at_it hj'
   have hx:=HP.out put[j] (List.getElem_mem hj')
   have hTK:=List.take_succ_eq_append_getElem hj'
   obtain ⟨y,hy⟩:∃ y,put[j] = y:=⟨_,rfl⟩
   rw [hy] at k0 k1 hx hTK hit
   have HTK:=hide hTK
   clear hy hTK
   obtain ⟨kl,hkl⟩:∃ kl,y.k.length = kl:=⟨_,rfl⟩
   obtain ⟨vl0,hvl⟩:∃ vl,y.v.length = vl:=⟨_,rfl⟩
   have HKL:=hide hkl
   have HVL:=hide hvl
   rw [hkl,hvl] at hx
   rw [hkl] at k0 hit
   rw [hvl] at k1 hit
   obtain ⟨hx1,hx2⟩:=hx
   obtain ⟨a,a',e,hik,hiv⟩:=hit
   injection e with e1 e
   injection e with e2 _
   subst e1 e2
   have HK0:=hide k0
   have HK1:=hide k1
   have HIK:=hide hik.all
   have HIV:=hide hiv.all
   clear hkl hvl hik hiv k0 k1
   have hjm:j + 1 ≤ 9223372036854775807:=by omega
   obtain ⟨xs,hxo,hxl⟩:=HG.out.row
   have hll:(put.take j).length = j:=by rw [List.length_take]; omega
   rw [hll] at hxo
   have HXO:=hide hxo
   have HXL:=hide hxl
   have HLL:=hide hll
   clear hxo hxl hll
   have hjc:j < c1:=by omega
   go_upto_region 5 with fail
   refine wp_region_dagO (by kernel_rfl) (by kernel_rfl) 30 1
    [⟨some 11,[0,1],[],[],[],[],fun _ _ v _=>v = .slice A j c⟩,
     ⟨some 12,[0],[],[],[],[],fun st a v w'=>st = 0 → ∃ g,v = .slice (some ⟨g,0,none⟩) 0 0⟩,
     ⟨some 13,[0,1],[],[],[],[],fun _ _ v _=>v = .slice (some ⟨b,o,none⟩) n1 c1⟩,
     ⟨some 14,[0,1],[],[],[],[],fun _ _ v _=>v = .int .i64 (j:Int)⟩,
     ⟨some 15,[0,1],[],[],[2,3],[],fun _ _ v _=>v = .pointer (some ⟨b,o + j * 2,none⟩)⟩,
     ⟨some 16,[0,1],[],[],[4],[],fun _ _ v _=>v = .pointer (some ⟨b,o + j * 2,none⟩)⟩,
     ⟨some 17,[0],[],[],[5],[],fun _ _ v _=>v = .slice A0 kl c0⟩,
     ⟨some 18,[0],[],[],[1,6],[],fun st a v w'=>st = 0 → BS w' (fun j=>wr.heap.size ≤ j ∧ j < w'.heap.size) v y.k⟩,
     ⟨some 19,[0],[],[],[],[],fun st a v w'=>st = 0 → ∃ g,v = .slice (some ⟨g,0,none⟩) 0 0⟩,
     ⟨some 20,[0,1],[],[],[],[],fun _ _ v _=>v = .slice (some ⟨b,o,none⟩) n1 c1⟩,
     ⟨some 21,[0,1],[],[],[],[],fun _ _ v _=>v = .int .i64 (j:Int)⟩,
     ⟨some 22,[0,1],[],[],[9,10],[],fun _ _ v _=>v = .pointer (some ⟨b,o + j * 2,none⟩)⟩,
     ⟨some 23,[0,1],[],[],[11],[],fun _ _ v _=>v = .pointer (some ⟨b,o + j * 2 + 1,none⟩)⟩,
     ⟨some 24,[0],[],[],[12],[],fun _ _ v _=>v = .slice B0 vl0 d0⟩,
     ⟨some 25,[0],[],[],[8,13],[],fun st a v w'=>st = 0 → BS w' (fun j=>wr.heap.size ≤ j ∧ j < w'.heap.size) v y.v⟩,
     ⟨some 26,[0],[],[],[7,14],[],fun st a v w'=>st = 0 → ∃ vk vv,v = .agg #[vk,vv] ∧ ItR w' (fun j=>wr.heap.size ≤ j ∧ j < w'.heap.size) y [vk,vv]⟩,
     ⟨some 27,[0],[],[],[15],[],fun st a v w'=>st = 0 → ∃ g vk vv,v = .slice (some ⟨g,0,none⟩) 1 1 ∧ Blk w' g TIt #[vk,vv] ∧ ItR w' (fun j=>wr.heap.size ≤ j ∧ j < w'.heap.size) y [vk,vv]⟩,
     ⟨some 28,[0],[(0,1)],[1],[0,16],[],fun st a v w'=>1 ≤ st ∧ (∃ B d,v = .slice B (j + 1) d) ∧ GrN ItR TIt 2 (fun _=>False) w w' v (put.take j ++ [y])⟩,
     ⟨some 3,[1],[],[],[17],[],fun st a v w'=>1 ≤ st ∧ (∃ B d,v = .slice B (j + 1) d) ∧ GrN ItR TIt 2 (fun _=>False) w w' v (put.take j ++ [y])⟩] (G5 w wr) (fun s s' _ _ _=>s = 0 ∧ s' = 1) (fun _ w w'=>Below w.heap.size w w') ?gu ?ru ?put [11,12,13,14,15,16,17,18,19,20,21,22,23,24,25,26,27,28,3] rfl (by kernel_rfl) rfl ?g0 ?keep ?steps ?fin
   case ru=>
    intro e he s a v w w' hu hv
    simp only [List.mem_cons,List.not_mem_nil,or_false] at he
    rcases he with rfl | rfl | rfl | rfl | rfl | rfl | rfl | rfl | rfl | rfl | rfl | rfl | rfl | rfl | rfl | rfl | rfl | rfl | rfl
    all_goals first | exact hv | (intro h0; exact hv h0) | (intro h0; exact (hv h0).fresh2 hu) | (intro h0; obtain ⟨a1,a2,e,h⟩:=hv h0; exact ⟨a1,a2,e,ItR.keep (fun j hj _=>hu.block j hj.2) (fun j hj _=>⟨hj.1,by have:=hu.size; omega⟩) _ _ h⟩) | (intro h0; obtain ⟨g,a1,a2,e,hb,h⟩:=hv h0; exact ⟨g,a1,a2,e,hb.below hu hb.lt,ItR.keep (fun j hj _=>hu.block j hj.2) (fun j hj _=>⟨hj.1,by have:=hu.size; omega⟩) _ _ h⟩) | (obtain ⟨h0,h1,h2⟩:=hv; exact ⟨h0,h1,h2.below @ItR.keep hu⟩)
   case put=>
    intro e he s a d u v w hnd hv
    simp only [List.mem_cons,List.not_mem_nil,or_false] at he
    rcases he with rfl | rfl | rfl | rfl | rfl | rfl | rfl | rfl | rfl | rfl | rfl | rfl | rfl | rfl | rfl | rfl | rfl | rfl | rfl
    all_goals first | exact hv
   case keep=>
    intro e he s s' a v w w' hsl hm ht hv
    simp only [List.mem_cons,List.not_mem_nil,or_false] at he
    rcases he with rfl | rfl | rfl | rfl | rfl | rfl | rfl | rfl | rfl | rfl | rfl | rfl | rfl | rfl | rfl | rfl | rfl | rfl | rfl
    all_goals first | exact hv | (intro h3; exfalso; have:=ht.2; omega) | (exfalso; have:=hv.1; have:=ht.1; omega)
   case steps=>
    refine ⟨?_,?_,?_,?_,?_,?_,?_,?_,?_,?_,?_,?_,?_,?_,?_,?_,?_,?_,?_,trivial⟩
    ·intro st hst ac w3 hg hG hd ho K hK
     dsimp only at hst hG hK
     exact op_move _ rfl (hK _ _ (Below.refl _ _) (ho 18 _ rfl (by decide) (by kernel_rfl) 3 rfl))
    ·intro st hst ac w3 hg hG hd ho K hK
     dsimp only at hst hG hK
     clear hG
     go_simp
     exact hK _ _ (al_below w3 _) (fun _=>⟨_,rfl⟩)
    ·intro st hst ac w3 hg hG hd ho K hK
     dsimp only at hst hG hK
     exact op_move _ rfl (hK _ _ (Below.refl _ _) (hg.kp 0 (by simp)))
    ·intro st hst ac w3 hg hG hd ho K hK
     dsimp only at hst hG hK
     exact op_move _ rfl (hK _ _ (Below.refl _ _) (hg.kp 4 (by simp)))
    ·intro st hst ac w3 hg hG hd ho K hK
     dsimp only at hst hG hK
     have f2:=hd 2 (by simp) _ rfl _ rfl
     have f3:=hd 3 (by simp) _ rfl _ rfl
     (try simp [Act.eval] at f2)
     (try simp [Act.eval] at f3)
     go_simp
     exact hK _ _ (Below.refl _ _) rfl
    ·intro st hst ac w3 hg hG hd ho K hK
     dsimp only at hst hG hK
     have f4:=hd 4 (by simp) _ rfl _ rfl
     (try simp [Act.eval] at f4)
     go_simp
     exact hK _ _ (Below.refl _ _) rfl
    ·intro st hst ac w3 hg hG hd ho K hK
     dsimp only at hst hG hK
     simp only [List.mem_cons,List.not_mem_nil,or_false] at hst
     subst hst
     have kk:=((HG.out.bel.trans ((hG.2 rfl).mono HG.out.bel.size)).cell (p:=⟨b,o + j * 2,none⟩) hb).trans HK0.out
     have zz:=Nat.lt_of_lt_of_le hb hG.1.size
     clear hG
     have f5:=hd 5 (by simp) _ rfl _ rfl
     (try simp [Act.eval] at f5)
     go_simp
     exact hK _ _ (Below.refl _ _) rfl
    ·intro st hst ac w3 hg hG hd ho K hK
     dsimp only at hst hG hK
     simp only [List.mem_cons,List.not_mem_nil,or_false] at hst
     subst hst
     obtain ⟨g,f1⟩:=hd 1 (by simp) _ rfl _ rfl rfl
     have f6:=hd 6 (by simp) _ rfl _ rfl
     have hk:=HIK.out.later (HG.out.bel.trans ((hG.2 rfl).mono HG.out.bel.size))
     obtain ⟨A9,c9,e9,_,hr9⟩:=hk
     injection e9 with e9 e10 e11
     subst e9 e11
     refine wp_append_lit w3 (.tmp 12) (.tmp 17) 38 rfl T8 i1 _ 1 1 Try.underlying38 HI1.out HY0.out hy1 hy2 rfl (by omega) ⟨g,0,none⟩ f1 A0 kl c0 (cs8 y.k) f6 (HKL.out ▸ hr9.reads (fun _ h=>h)) (cs8_one _) (by unfold maxLen; omega) (by omega) ?_
     intro v' w' ho hbw
     exact hK _ _ hbw (fun _=>(BS.lit (g:=⟨g,0,none⟩) (HKL.out.symm ▸ ho)).fresh (hG.2 rfl).size)
    ·intro st hst ac w3 hg hG hd ho K hK
     dsimp only at hst hG hK
     clear hG
     go_simp
     exact hK _ _ (al_below w3 _) (fun _=>⟨_,rfl⟩)
    ·intro st hst ac w3 hg hG hd ho K hK
     dsimp only at hst hG hK
     exact op_move _ rfl (hK _ _ (Below.refl _ _) (hg.kp 0 (by simp)))
    ·intro st hst ac w3 hg hG hd ho K hK
     dsimp only at hst hG hK
     exact op_move _ rfl (hK _ _ (Below.refl _ _) (hg.kp 4 (by simp)))
    ·intro st hst ac w3 hg hG hd ho K hK
     dsimp only at hst hG hK
     have f9:=hd 9 (by simp) _ rfl _ rfl
     have f10:=hd 10 (by simp) _ rfl _ rfl
     (try simp [Act.eval] at f9)
     (try simp [Act.eval] at f10)
     go_simp
     exact hK _ _ (Below.refl _ _) rfl
    ·intro st hst ac w3 hg hG hd ho K hK
     dsimp only at hst hG hK
     have f11:=hd 11 (by simp) _ rfl _ rfl
     (try simp [Act.eval] at f11)
     go_simp
     exact hK _ _ (Below.refl _ _) rfl
    ·intro st hst ac w3 hg hG hd ho K hK
     dsimp only at hst hG hK
     simp only [List.mem_cons,List.not_mem_nil,or_false] at hst
     subst hst
     have kk:=((HG.out.bel.trans ((hG.2 rfl).mono HG.out.bel.size)).cell (p:=⟨b,o + j * 2 + 1,none⟩) hb).trans HK1.out
     have zz:=Nat.lt_of_lt_of_le hb hG.1.size
     clear hG
     have f12:=hd 12 (by simp) _ rfl _ rfl
     (try simp [Act.eval] at f12)
     go_simp
     exact hK _ _ (Below.refl _ _) rfl
    ·intro st hst ac w3 hg hG hd ho K hK
     dsimp only at hst hG hK
     simp only [List.mem_cons,List.not_mem_nil,or_false] at hst
     subst hst
     obtain ⟨g,f8⟩:=hd 8 (by simp) _ rfl _ rfl rfl
     have f13:=hd 13 (by simp) _ rfl _ rfl
     have hk:=HIV.out.later (HG.out.bel.trans ((hG.2 rfl).mono HG.out.bel.size))
     obtain ⟨A9,c9,e9,_,hr9⟩:=hk
     injection e9 with e9 e10 e11
     subst e9 e11
     refine wp_append_lit w3 (.tmp 19) (.tmp 24) 38 rfl T8 i1 _ 1 1 Try.underlying38 HI1.out HY0.out hy1 hy2 rfl (by omega) ⟨g,0,none⟩ f8 B0 vl0 d0 (cs8 y.v) f13 (HVL.out ▸ hr9.reads (fun _ h=>h)) (cs8_one _) (by unfold maxLen; omega) (by omega) ?_
     intro v' w' ho hbw
     exact hK _ _ hbw (fun _=>(BS.lit (g:=⟨g,0,none⟩) (HVL.out.symm ▸ ho)).fresh (hG.2 rfl).size)
    ·intro st hst ac w3 hg hG hd ho K hK
     dsimp only at hst hG hK
     simp only [List.mem_cons,List.not_mem_nil,or_false] at hst
     subst hst
     have g3:=hd 7 (by simp) _ rfl _ rfl rfl
     have g6:=hd 14 (by simp) _ rfl _ rfl rfl
     obtain ⟨v3,hv3⟩:∃ v3,ac.eval (.tmp 18) = v3:=⟨_,rfl⟩
     obtain ⟨v6,hv6⟩:∃ v6,ac.eval (.tmp 25) = v6:=⟨_,rfl⟩
     rw [hv3] at g3
     rw [hv6] at g6
     have HCH:=hide (show ItR w3 (fun j=>wr.heap.size ≤ j ∧ j < w3.heap.size) y [v3,v6] from ⟨v3,v6,rfl,g3,g6⟩)
     obtain ⟨A3,c3,rfl,_⟩:=g3
     obtain ⟨A6,c6,rfl,_⟩:=g6
     clear hG
     simp [Act.eval] at hv3 hv6
     go_simp
     exact hK _ _ (Below.refl _ _) (fun _=>⟨_,_,rfl,HCH.out⟩)
    ·intro st hst ac w3 hg hG hd ho K hK
     dsimp only at hst hG hK
     simp only [List.mem_cons,List.not_mem_nil,or_false] at hst
     subst hst
     obtain ⟨vk,vv,f8,hch⟩:=hd 15 (by simp) _ rfl _ rfl rfl
     have hch':=hch
     obtain ⟨_,_,e,⟨A3,c3,e1,_⟩,⟨A6,c6,e2,_⟩⟩:=hch'
     (injection e with e3 e; injection e with e4 _)
     subst e3 e4 e1 e2
     simp [Act.eval] at f8
     have HCH:=hide hch
     clear hG hch
     go_simp
     exact hK _ _ (al_below w3 _) (fun _=>⟨_,_,_,rfl,Blk.new _ _ _,ItR.keep (fun j hj _=>(al_below w3 _).block j hj.2) (fun j hj _=>⟨hj.1,by simp; omega⟩) _ _ HCH.out⟩)
    ·intro st st' hmv ac w3 hg hG hd ho K hK
     simp only [List.mem_cons,Prod.mk.injEq,List.not_mem_nil,or_false] at hmv
     obtain ⟨rfl,rfl⟩:=hmv
     dsimp only at hG hK
     have f0:=hd 0 (by simp) _ rfl _ rfl
     obtain ⟨gl,vk,vv,f9,hbl,hch⟩:=hd 16 (by simp) _ rfl _ rfl rfl
     refine wp_append_any w3 (.tmp 11) (.tmp 27) 32 rfl w.heap.size TIt i0 _ 2 48 Try.underlying32 HI0.out HZ0.out hz1 hz2 rfl (by omega) (.slice A j c) j xs f0 (own_later HXO.out (hG.2 rfl)) w3.heap.size (some ⟨gl,0,none⟩) 1 1 [vk,vv] f9 (reads_blk hbl rfl rfl) (by obtain ⟨_,_,e,⟨_,_,ea,_⟩,⟨_,_,eb,_⟩⟩:=hch; injection e with e1 e; injection e with e2 _; intro u hu; simp at hu; rcases hu with rfl | rfl; (rw [e1,ea]; rfl); (rw [e2,eb]; rfl)) (by unfold maxLen; omega) (by omega) hG.1.size ?_
     intro v' w' ho hgb hoo
     exact hK _ _ ⟨rfl,rfl⟩ ⟨hG.1.grown hgb hG.1.size (fun k hk=>(HXO.out.lt k hk).1),fun e=>by omega⟩ ⟨Nat.le_refl _,by obtain ⟨B,d,e,_⟩:=own_slice ho; exact ⟨B,d,e⟩,GrN.push @ItR.keep (fun j hj=>hj.elim) HG.out (hG.2 rfl) ⟨by rw [HLL.out]; exact HXO.out,HXL.out⟩ (ItR.keep (fun _ _ _=>rfl) (fun j hj _=>⟨.inr hj.1,hj.2⟩) _ _ hch) (by rw [HLL.out]; exact ho) hgb hoo⟩
    ·intro st hst ac w3 hg hG hd ho K hK
     dsimp only at hst hG hK
     exact op_assign _ rfl (hK _ _ (Below.refl _ _) (hd 17 (by simp) _ rfl _ rfl))
   case gu=>intro s w1 w2 hG hu; exact ⟨hG.1.trans (hu.mono hG.1.size),fun e=>(hG.2 e).trans (hu.mono (hG.2 e).size)⟩
   case g0=>exact ⟨HG.out.bel.drew,fun _=>(Below.refl _ _).drew⟩
   case fin=>
    intro f9 w9 hG hall
    obtain ⟨_,⟨B9,d9,h9⟩,hch⟩:=hall _ (List.mem_of_getElem? (i:=18) rfl) 3 rfl
    clear hall hG
    simp only [fillF,List.map_cons,List.map_nil,List.foldl_cons,List.foldl_nil,Act.put,List.setIfInBounds_toArray,List.set_cons_zero,List.set_cons_succ]
    rw [h9] at hch ⊢
    have HCH:=hide hch
    clear hch h9
    go_wp2_with fail
    refine ⟨⟨j + 1,d9,B9,rfl,by push_cast; rfl,by omega,hide (by rw [HTK.out]; exact HCH.out)⟩,?_⟩
    simp [intOf]
    omega
  ·obtain rfl:n1 = j:=by omega
   have HG1:=hide (show GrN ItR TIt 2 (fun _=>False) w wr (.slice A n1 c) put from by have:=HG.out; rwa [← HN1.out,List.take_length,HN1.out] at this)
   go_wp2_with fail
   go_ret
   exact ⟨_,rfl,HG1.out⟩
end Go.Proofs.Ytkolacaceaamoaa
/- The law TreeSame: what its walk is told by. -/
namespace Go.Proofs.Ytkolacaceaamoaa
open Go.RowKit
open Go.Lib (compareBytes)
theorem NlS.put {w wr w':World} {c:Pct} {tb:Nat} {m m':Pst} (h:NlS w c tb m wr) (hp:PgS w' c m') (hf:Fr (PF m.F c.pb c.sb) wr w') (hn:∀ j,PF m'.F c.pb c.sb j → PF m.F c.pb c.sb j ∨ wr.heap.size ≤ j):NlS w c tb m' w':=
 ⟨hp,hf.blk h.tr h.nt,fun e=>(hn _ e).elim h.nt (fun q=>by have:=h.tr.lt; omega),fun j hj=>(hn j hj).elim (h.pl j) (fun q=>Nat.le_trans h.bel.size q),h.tl,h.bel.trans (hf.below h.bel.size h.pl)⟩
theorem FrT.nls {w w1:World} {n tb:Nat} {c:Pct} {m:Pst} (h:FrT w n tb c m w1):NlS w c tb m w1:=⟨h.pg,h.tr,h.nt,h.pl,h.tl,h.bel⟩
/-- The row `at`. -/
def AtQ (w3 w4 wr:World) (A:Option Addr) (n cc:Nat) (put:List It):Prop:=
 n = put.length ∧ (0 < n → ∃ g d,A = some ⟨g,0,none⟩ ∧ (d.map Prod.fst).Perm put ∧ AtS w3 wr g n cc (fun j=>w3.heap.size ≤ j ∧ j < w4.heap.size ∧ j ≠ g) d)
theorem tmod_nat (i n:Nat):Int.tmod (i:Int) (n:Int) = ((i % n:Nat):Int):=by
 rw [Int.ofNat_tmod]
end Go.Proofs.Ytkolacaceaamoaa
/- The law TreeSame: its end. -/
namespace Go.Proofs.Ytkolacaceaamoaa
open Go.RowKit
open Go.Lib (compareBytes)
/-- TreeSame, from its k-th statement on. -/
noncomputable def BT (k:Nat):Code:=dropS' k ((Try.f5.body).getD .skip)
noncomputable def CT (k:Nat):Code:=match BT k with
 | .seq a _=>a
 | c=>c
theorem bs_nilv (w:World) (F:Nat → Prop):BS w F (.slice none 0 0) []:=⟨none,0,rfl,⟨Nat.le_refl _,Nat.zero_le _⟩,RF.nil _⟩
theorem TreH.sc {c:Pct} {m:Pst} {r a q0:Nat} {is:List It} (h:TreH c m r is a q0) (ha:a ≤ 32):ScT c m r is:=by
 obtain ⟨h1,h2 | ⟨k,h2,h3⟩⟩:=h
 ·exact ⟨h1,.inl h2⟩
 ·exact ⟨h1,.inr ⟨k,by rcases h3 with h3 | h3 <;> omega,h2.trP⟩⟩
theorem eqIt_self (l:List It):eqIt l l = true:=(eqIt_iff l l).2 rfl
def ScE (w:World) (c:Pct) (tb ra:Nat) (ea:Int) (rb n:Nat) (wr:World):Prop:=∃ m,NlS w c tb m wr ∧ (ea = 16 ∨ (ea = 0 ∧ ∃ l:List It,l.length = n ∧ ScT c m ra l ∧ ScT c m rb l))
section
variable {A1:Option Addr} {n1 c1 tb ra rb:Nat} {ea:Int} {c:Pct} {w wr:World}
end
end Go.Proofs.Ytkolacaceaamoaa
/- The law TreeSame: from its first Put on. -/
namespace Go.Proofs.Ytkolacaceaamoaa
open Go.RowKit
open Go.Lib (compareBytes)
def AtP (w3 w4 wr:World) (A:Option Addr) (n cc:Nat) (pl:List It):Prop:=
 n = pl.length ∧ (0 < n → ∃ g d,A = some ⟨g,0,none⟩ ∧ w3.heap.size ≤ g ∧ g < w4.heap.size ∧ d.map Prod.fst = pl ∧ AtS w3 wr g n cc (fun j=>w3.heap.size ≤ j ∧ j < w4.heap.size ∧ j ≠ g) d)
structure SmB (w w3 w4:World) (c:Pct) (tb:Nat) (A:Option Addr) (n cc:Nat) (pl:List It) (m:Pst) (wr:World):Prop where
 nl:NlS w c tb m wr
 sz:w4.heap.size ≤ wr.heap.size
 pf:∀ j,PF m.F c.pb c.sb j → j < w3.heap.size ∨ w4.heap.size ≤ j
 at_:AtP w3 w4 wr A n cc pl
section
variable {w w3 w4 wr w':World} {c:Pct} {tb:Nat} {A:Option Addr} {n cc:Nat} {pl:List It} {m m':Pst}
end
def SmA (c:Pct) (n:Nat) (pl:List It) (ra:Nat) (ea:Int) (m:Pst):Prop:=ea = 16 ∨ (ea = 0 ∧ ∃ la,la.length = n ∧ TreH c m ra la 2 25 ∧ ∀ key,valOf la key = valOf pl key)
def SmL (w w3 w4:World) (c:Pct) (tb:Nat) (A:Option Addr) (n cc:Nat) (pl:List It) (ra:Nat) (ea:Int) (i rb:Nat) (wr:World):Prop:=
 ∃ m,SmB w w3 w4 c tb A n cc pl m wr ∧ m.N ≤ 6000000 * (i + 1) ∧ SmA c n pl ra ea m ∧ ∃ lb,Tre1 c m i rb lb ∧ ∀ key,valOf lb key = valOf (pl.take i) key
end Go.Proofs.Ytkolacaceaamoaa
/- The law TreeSame: from its first Put on, walked. -/
namespace Go.Proofs.Ytkolacaceaamoaa
open Go.RowKit
open Go.Lib (compareBytes)
section
variable {w w3 w4 wr:World} {c:Pct} {tb:Nat} {A:Option Addr} {n cc:Nat} {pl put:List It} {m:Pst} {v:Value}
end
section
variable {A1 A:Option Addr} {n1 c1 tb cc:Nat} {c:Pct} {w w3 w4 wr:World} {pl put:List It} {m:Pst}
end
end Go.Proofs.Ytkolacaceaamoaa
/- The law TreeSame, walked whole. -/
namespace Go.Proofs.Ytkolacaceaamoaa
open Go.RowKit
open Go.Lib (compareBytes)
end Go.Proofs.Ytkolacaceaamoaa
/- The law's keys: a row of byte slices that share nothing. -/
namespace Go.Proofs.Ytkolacaceaamoaa
open Go.RowKit
open Go.Lib (compareBytes)
theorem tbs_inf:∃ i,Try.prog.info? 38 = some i ∧ i.zero = some (.slice none 0 0) ∧ i.size = 1 ∧ i.bytes = 24:=by
 have h:(Try.prog.info? 38).map (fun i=>(i.zero,i.size,i.bytes)) = some (some (.slice none 0 0),1,24):=by kernel_rfl
 cases hi:Try.prog.info? 38 with
 | none=>rw [hi] at h; cases h
 | some i=>rw [hi] at h; simp only [Option.map_some,Option.some.injEq,Prod.mk.injEq] at h; exact ⟨i,rfl,h.1,h.2.1,h.2.2⟩
theorem BsR.keep {w w':World} {F F':Nat → Prop} (hk:∀ j,F j → j < w.heap.size → w'.heap[j]? = w.heap[j]?) (hF:∀ j,F j → j < w.heap.size → F' j) (x:Cn) (cs:List Value) (h:BsR w F x cs):BsR w' F' x cs:=by
 obtain ⟨a,e,h⟩:=h
 exact ⟨a,e,h.keep hk hF⟩
theorem wpl_append_lit {P:Program} {ops:Array Oper} {rest:List Oper} (w:World) {o:Oper} {a:Act} {Q:Exit → Act → World → Prop} (hgd:o.guard = none) (s x:Operand) (t:TypeId)
  (ho:o.op = .call { callee:=.builtin .append,args:=#[s,x],argTypes:=#[t,t] })
  (e:TypeId) (i:TypeInfo) (z:Value) (size bytes:Nat) (ht:P.underlying t = some (.slice e)) (hi:P.info? e = some i) (hz:i.zero = some z)
  (hsize:i.size = size) (hby:i.bytes = bytes) (hzs:z.cells.size = size) (hsz:0 < size)
  (g:Addr) (hs:a.eval s = .slice (some g) 0 0) (A:Option Addr) (m c:Nat) (news:List Value) (hx:a.eval x = .slice A m c) (hr:Reads w w.heap.size size A m news) (h1:∀ u ∈ news,u.oneCell' = true)
  (h63:m ≤ maxLen) (hbytes:m * bytes ≤ 140737488355328)
  (h:∀ v' w',((m = 0 ∧ v' = .slice (some g) 0 0) ∨ w'.ownsRow w.heap.size e size v' m news) → Below w.heap.size w w' → wpList P ops Q rest (a.put o.dst v') w'):wpList P ops Q (o :: rest) a w:=
 wpList_plain hgd fun _ hK=>wp_append_lit w s x t ho e i z size bytes ht hi hz hsize hby hzs hsz g hs A m c news hx hr h1 h63 hbytes fun v' w' h2 h3=>hK _ _ (h v' w' h2 h3)
set_option maxRecDepth 100000 in
set_option maxHeartbeats 8000000 in
theorem lkeys_gr {w:World} {F:Nat → Prop} {vp:Value} {gone:List Cn} (h1:SLk 1 BsR w F vp gone) (hlen:gone.length ≤ 100000000) (hp:∀ x ∈ gone,x.length ≤ 1073741824) :
  Calls Try.prog 21 #[vp] w fun e w'=>∃ v,e = .returned v ∧ GrN BsR TBs 1 (fun _=>False) w w' v gone:=by
 obtain ⟨i0,hi0,hz0,hz1,hz2⟩:=tbs_inf
 obtain ⟨i1,hi1,hy0,hy1,hy2⟩:=info_parts u8_info
 have HI0:=hide hi0
 have HZ0:=hide hz0
 have HI1:=hide hi1
 have HY0:=hide hy0
 have H1:=hide h1
 have HP:=hide hp
 obtain ⟨A1,c1,xs1,rfl,hc1,_⟩:=h1
 clear hi0 hz0 hi1 hy0 hp
 obtain ⟨n1,hn1⟩:∃ n,gone.length = n:=⟨_,rfl⟩
 have HN1:=hide hn1
 rw [hn1] at H1 hc1 hlen ⊢
 clear hn1
 go_enter Try.func21,Try.ntmps21
 go_wp2_with fail
 go_loopw [3,4] (fun vl vi wr=>∃ (j c:Nat) (A:Option Addr),vl = .slice A j c ∧ vi = .int .i64 (j:Int) ∧ j ≤ n1 ∧ Hid (GrN BsR TBs 1 (fun _=>False) w wr (.slice A j c) (gone.take j))) (fun _ vi _=>n1 - (intOf vi).toNat)
 case atStart=>exact ⟨0,0,none,rfl,rfl,by omega,hide ⟨Below.refl _ _,[],World.ownsRow_nil _ _ _ _,rfl⟩⟩
 case round=>
  obtain ⟨j,c,A,rfl,rfl,hj,HG⟩:=hrel
  by_cases hlt:j < n1
  ·have hj':j < gone.length:=by rw [HN1.out]; exact hlt
   obtain ⟨b,o,A0,c0,rfl,hb,k0,hit⟩:=H1.out.at_bs hj'
   have hx:=HP.out gone[j] (List.getElem_mem hj')
   have hTK:=List.take_succ_eq_append_getElem hj'
   obtain ⟨y,hy⟩:∃ y,gone[j] = y:=⟨_,rfl⟩
   rw [hy] at k0 hx hTK hit
   have HTK:=hide hTK
   clear hy hTK
   obtain ⟨kl,hkl⟩:∃ kl,y.length = kl:=⟨_,rfl⟩
   have HKL:=hide hkl
   rw [hkl] at hx k0 hit
   have HK0:=hide k0
   have HIK:=hide hit.all
   clear hkl hit k0
   have hjm:j + 1 ≤ 9223372036854775807:=by omega
   obtain ⟨xs,hxo,hxl⟩:=HG.out.row
   have hll:(gone.take j).length = j:=by rw [List.length_take]; omega
   rw [hll] at hxo
   have HXO:=hide hxo
   have HXL:=hide hxl
   have HLL:=hide hll
   clear hxo hxl hll
   have hjc:j < c1:=by omega
   have k0:=(HG.out.bel.cell (p:=⟨b,o + j,none⟩) hb).trans HK0.out
   have zz:=Nat.lt_of_lt_of_le hb HG.out.bel.size
   have HKW:=hide (show BSw wr (.slice A0 kl c0) y from HIK.out.later HG.out.bel)
   obtain ⟨wa,hwa⟩:∃ wa,wr.alloc (.cells #[] T8) = wa:=⟨_,rfl⟩
   have HWA:=hide hwa
   have HBa:=hide (show Below wr.heap.size wr wa from hwa ▸ al_below wr _)
   clear hwa
   have HRd:=hide (show Reads wa wa.heap.size 1 A0 kl (cs8 y) from by
    have hk:=HKW.out.later HBa.out
    obtain ⟨A9,c9,e9,_,hr9⟩:=hk
    injection e9 with e9 e10 e11
    subst e9 e11
    exact HKL.out ▸ hr9.reads (fun _ h=>h))
   go_upto_region 5 with fail
   go_upto_region 4 with (at_builtin; first | ((try rw [HWA.out]); refine wpl_append_lit wa rfl (.tmp 12) (.tmp 16) _ rfl T8 i1 _ 1 1 Try.underlying38 HI1.out HY0.out hy1 hy2 rfl (by omega) ⟨wr.heap.size,0,none⟩ rfl A0 kl c0 (cs8 y) rfl HRd.out (cs8_one _) (by unfold maxLen; omega) (by omega) ?_; intro v' wk ho hbw; (obtain ⟨A7,c7,rfl⟩:∃ A7 c7,v' = .slice A7 kl c7:=by (rcases ho with ⟨rfl,rfl⟩ | ho; exact ⟨_,_,rfl⟩; (obtain ⟨A,c,e,_⟩:=own_slice ho; exact ⟨A,c,e⟩))); have HBV:=hide (show BS wk (fun j=>wr.heap.size ≤ j ∧ j < wk.heap.size) (.slice A7 kl c7) y from (BS.lit (g:=⟨wr.heap.size,0,none⟩) (HKL.out.symm ▸ ho)).fresh HBa.out.size); have HBk:=hide (show Below wr.heap.size wr wk from HBa.out.trans (hbw.mono HBa.out.size)); clear ho hbw k0 zz) | (go_loud (have HBA:=hide (show Below wr.heap.size wr (wk.alloc (.cells #[.slice A7 kl c7] TBs)) from HBk.out.trans ((al_below wk _).mono HBk.out.size)); go_loud (refine wpList_append_any _ rfl (.tmp 11) (.tmp 18) 47 rfl w.heap.size TBs i0 _ 1 24 Try.underlying47 HI0.out HZ0.out hz1 hz2 rfl (by omega) (.slice A j c) j xs rfl (own_later HXO.out HBA.out) _ (some ⟨wk.heap.size,0,none⟩) 1 1 [.slice A7 kl c7] rfl (reads_blk (Blk.new wk TBs _) rfl rfl) (by intro u hu; simp at hu; subst hu; rfl) (by unfold maxLen; omega) (by omega) (Nat.le_trans HG.out.bel.size HBA.out.size) ?_); intro v' w5 ho hgb hoo; (obtain ⟨A5,c5,rfl,hc5⟩:=own_slice ho); have HG5:=hide (show GrN BsR TBs 1 (fun _=>False) w w5 (.slice A5 (j + 1) c5) (gone.take j ++ [y]) from GrN.push @BsR.keep (fun j hj=>hj.elim) HG.out HBA.out ⟨by rw [HLL.out]; exact HXO.out,HXL.out⟩ (⟨_,rfl,BS.keep (F:=fun j=>wr.heap.size ≤ j ∧ j < wk.heap.size) (F':=fun j=>(False ∨ wr.heap.size ≤ j) ∧ j < (wk.alloc (.cells #[.slice A7 kl c7] TBs)).heap.size) (fun j hj hlt=>(al_below wk _).block j hlt) (fun j hj hlt=>⟨.inr hj.1,by simp; omega⟩) HBV.out⟩) (by rw [HLL.out]; exact ho) hgb hoo); clear ho hgb hoo)))
   go_wp2_with fail
   refine ⟨⟨j + 1,c5,A5,rfl,by push_cast; rfl,by omega,hide (by rw [HTK.out]; exact HG5.out)⟩,?_⟩
   simp [intOf]
   omega
  ·obtain rfl:n1 = j:=by omega
   have HG1:=hide (show GrN BsR TBs 1 (fun _=>False) w wr (.slice A n1 c) gone from by have:=HG.out; rwa [← HN1.out,List.take_length,HN1.out] at this)
   go_wp2_with fail
   go_ret
   exact ⟨_,rfl,HG1.out⟩
end Go.Proofs.Ytkolacaceaamoaa
