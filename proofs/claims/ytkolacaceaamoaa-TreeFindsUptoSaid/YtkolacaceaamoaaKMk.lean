/- The tree: changes: by rising keys, or refused. -/
import Derived.Test.YtkolacaceaamoaaKMj
import Derived.Test.YtkolacaceaamoaaKM1
set_option linter.unusedSimpArgs false
set_option linter.unusedVariables false
namespace Go.Proofs.Ytkolacaceaamoaa
open Go.RowKit
set_option maxRecDepth 100000 in
theorem sort_nil3 (w:World) (fv:Value):Calls Try.prog 80 #[.slice none 0 0,.int .i64 0,.int .i64 0,fv] w fun e w'=>e = .returned (.tuple #[]) ∧ w' = w:=by
 go_enter Try.func80,Try.ntmps80
 go_wp2_with fail
 go_loopw [8] (fun iv wr=>iv = .int .i64 1 ∧ wr = w) (fun _ _=>0)
 case atStart=>exact ⟨rfl,rfl⟩
 case round=>
  obtain ⟨rfl,rfl⟩:=hrel
  go_wp2_with fail
  go_end0
  exact ⟨rfl,rfl⟩
set_option maxRecDepth 100000 in
theorem sort_nil2 (w:World) (fv:Value) (k:Int):Calls Try.prog 67 #[.slice none 0 0,.int .i64 0,.int .i64 0,.int .i64 k,fv] w fun e w'=>e = .returned (.tuple #[]) ∧ w' = w:=by
 go_enter Try.func67,Try.ntmps67
 go_wp2_with fail
 go_loopw [1,2,3] (fun va vb vk wr=>va = .int .i64 0 ∧ vb = .int .i64 0 ∧ vk = .int .i64 k ∧ wr = w) (fun _ _ _ _=>0)
 case atStart=>exact ⟨rfl,rfl,rfl,rfl⟩
 case round=>
  obtain ⟨rfl,rfl,rfl,rfl⟩:=hrel
  go_wp2_with (go_at_call 80; (refine (sort_nil3 _ _).mono ?_); rintro e w2 ⟨rfl,e2⟩; rw [e2]; clear e2)
  refine bodyPost_ret (v:=.tuple #[]) (by simp [results,Try.results67,go_sem]) rfl ⟨rfl,rfl⟩
set_option maxRecDepth 100000 in
theorem sort_nil (w:World) (fv:Value):Calls Try.prog 49 #[.slice none 0 0,fv] w fun e w'=>e = .returned (.tuple #[]) ∧ w' = w:=by
 have hl:=fun w=>Try.bits_Len 0 w (by omega) (by omega)
 go_enter Try.func49,Try.ntmps49
 go_wp2_with (first | (go_at_call 68; (refine (hl _).mono ?_); rintro e w2 ⟨rfl,e2⟩; rw [e2]; clear e2) | (go_at_call 67; (refine (sort_nil2 _ _ _).mono ?_); rintro e w2 ⟨rfl,e2⟩; rw [e2]; clear e2))
 go_end0
 exact ⟨rfl,rfl⟩
/-- The changes so far. -/
structure ChG (w0 wr:World) (v:Value) (l:List Ch):Prop where
 bel:Below w0.heap.size w0 wr
 row:∃ xs,wr.ownsRow w0.heap.size TCh 3 v l.length xs ∧ LR (ChR wr (fun j=>w0.heap.size ≤ j ∧ v.ownBlock ≠ some j)) l xs
section
variable {w0 wr w':World} {v:Value} {l:List Ch}
theorem ChG.below (h:ChG w0 wr v l) (hb:Below wr.heap.size wr w'):ChG w0 w' v l:=by
 obtain ⟨xs,h1,h2⟩:=h.row
 exact ⟨h.bel.trans (hb.mono h.bel.size),xs,own_later h1 hb,LR.mono (fun a cs=>ChR.keep (fun j _ hj=>hb.block j hj) (fun j h _=>h) a cs) _ _ h2⟩
theorem ChG.push {w2 w3:World} {v':Value} {c:Ch} {cs xs:List Value} (h:ChG w0 wr v l) (hb:Below wr.heap.size wr w2) (hxs:wr.ownsRow w0.heap.size TCh 3 v l.length xs ∧ LR (ChR wr (fun j=>w0.heap.size ≤ j ∧ v.ownBlock ≠ some j)) l xs)
  (ha:ChR w2 (fun j=>wr.heap.size ≤ j ∧ j < w2.heap.size) c cs) (ho:w3.ownsRow w0.heap.size TCh 3 v' (l.length + 1) (xs ++ cs)) (hg:w2.grownBy w3 v.ownBlock) (hoo:v'.ownBlock = v.ownBlock ∨ v'.ownBlock = some w2.heap.size):ChG w0 w3 v' (l ++ [c]):=by
 have hvb:∀ k,v.ownBlock = some k → k < wr.heap.size:=fun k hk=>(hxs.1.lt k hk).2
 have hb3:Below w0.heap.size w0 w3:=(h.bel.trans (hb.mono h.bel.size)).grown hg (Nat.le_trans h.bel.size hb.size) (fun k hk=>(hxs.1.lt k hk).1)
 have k3:∀ j,j < w2.heap.size → v.ownBlock ≠ some j → w3.heap[j]? = w2.heap[j]?:=fun j hj hn=>hg.block j hj (fun e=>hn e.symm)
 refine ⟨hb3,xs ++ cs,by rw [List.length_append,List.length_singleton]; exact ho,?_⟩
 refine LR.app (LR.one ?_) _ _ (LR.mono (fun b cs'=>ChR.keep (fun j hj hlt=>?_) (fun j hj hlt=>?_) b cs') _ _ hxs.2)
 ·refine ChR.keep (fun j hj hlt=>?_) (fun j hj hlt=>?_) c cs ha
  ·exact k3 j hj.2 (fun e=>by have:=hvb j e; omega)
  ·refine ⟨by have:=h.bel.size; omega,fun e=>?_⟩
   rcases hoo with q | q
   ·have:=hvb j (q ▸ e); omega
   ·rw [q] at e; injection e with e; omega
 ·exact (k3 j (Nat.lt_of_lt_of_le hlt hb.size) hj.2).trans (hb.block j hlt)
 ·refine ⟨hj.1,fun e=>?_⟩
  rcases hoo with q | q
  ·exact hj.2 (q ▸ e)
  ·rw [q] at e; injection e with e; have:=hb.size; omega
end
theorem ChG.sl {w0 wr:World} {v:Value} {l:List Ch} (h:ChG w0 wr v l):SLk 3 ChR wr (fun j=>w0.heap.size ≤ j) v l:=by
 obtain ⟨xs,h1,h2⟩:=h.row
 have h3:=LR.mono (fun a cs=>ChR.keep (F':=fun j=>w0.heap.size ≤ j) (fun _ _ _=>rfl) (fun j hj _=>hj.1) a cs) _ _ h2
 rcases h1.2 with ⟨e,h0⟩ | ⟨b,cap,cur,e,hb,hh,hc,hm,_⟩
 ·have hl:l = []:=List.eq_nil_of_length_eq_zero h0
  subst hl
  rw [e]
  exact SLk.nil _ _
 ·refine ⟨some ⟨b,0,none⟩,cap,xs,e,⟨hc,hm⟩,⟨h1.1,fun h0=>?_⟩,h3⟩
  obtain ⟨ad,e2,_,hcell⟩:=(Reads.of_own (by rw [e] at h1; exact h1)).2 h0
  injection e2 with e2
  subst e2
  exact ⟨_,rfl,hb,hcell⟩
theorem sort_all {w0 wr:World} {v:Value} {l:List Ch} (h:ChG w0 wr v l) (hl:l.length ≤ 1000000000) :
  Calls Try.prog 49 #[v,.func (.func 50) #[] #[]] wr fun e w'=>e = .returned (.tuple #[]) ∧ ∃ l',l'.Perm l ∧ SortC l' ∧ ChG w0 w' v l':=by
 obtain ⟨xs,h1,h2⟩:=h.row
 rcases h1.2 with ⟨e,h0⟩ | ⟨b,cap,cur,e,hb,hh,hc,hm,_⟩
 ·have hl:l = []:=List.eq_nil_of_length_eq_zero h0
  subst hl
  subst e
  refine (sort_nil wr _).mono ?_
  rintro e w' ⟨rfl,rfl⟩
  exact ⟨rfl,[],List.Perm.refl _,List.Pairwise.nil,h⟩
 ·subst e
  have hlt:=(h1.lt b rfl).2
  refine (sort_any h1 (LR.mono (fun a cs hx=>?_) _ _ h2) hl).mono ?_
  ·obtain ⟨a1,a2,e,⟨A,c,e1,q1,r1⟩,⟨B,d,e2,q2,r2⟩⟩:=hx
   have hk:∀ {A:Option Addr} {n:Nat} {cs:List Value},RF wr (fun j=>w0.heap.size ≤ j ∧ (Value.slice (some ⟨b,0,none⟩) l.length cap).ownBlock ≠ some j) 1 A n cs → RF wr (fun j=>j < wr.heap.size ∧ j ≠ b) 1 A n cs:=fun h=>h.keep (fun _ _ _=>rfl) (fun j hj hlt=>⟨hlt,fun e=>hj.2 (by rw [e]; rfl)⟩) (by omega)
   exact ⟨a1,a2,e,⟨A,c,e1,q1,hk r1⟩,⟨B,d,e2,q2,hk r2⟩⟩
  ·rintro e w' ⟨rfl,l',xs',hp,hs,ho,_,hF,hg⟩
   refine ⟨rfl,l',hp,hs,h.bel.grown hg h.bel.size (fun k hk=>by injection hk with hk; omega),xs',by rw [hp.length_eq]; exact ho,?_⟩
   exact LR.mono (fun a cs=>ChR.keep (fun j hj hlt=>hg.block j hlt (fun e=>hj.2 e.symm)) (fun j hj _=>hj) a cs) _ _ (hF _ h2)
theorem SLk.at_ch {w:World} {F:Nat → Prop} {A:Option Addr} {n c:Nat} {is:List Ch} (h:SLk 3 ChR w F (.slice A n c) is) {j:Nat} (hj:j < is.length) :
  ∃ b o A0 c0 A1 c1,A = some ⟨b,o,none⟩ ∧ b < w.heap.size ∧ w.cell? ⟨b,o + j * 3,none⟩ = some (.slice A0 is[j].k.length c0) ∧ w.cell? ⟨b,o + j * 3 + 1,none⟩ = some (.slice A1 is[j].v.length c1) ∧ w.cell? ⟨b,o + j * 3 + 2,none⟩ = some (.bool is[j].gone) ∧
   BSw w (.slice A0 is[j].k.length c0) is[j].k:=by
 obtain ⟨A',c',xs,e,hc,hr,hl⟩:=h
 injection e with e1 e2 e3
 subst e1 e2 e3
 obtain ⟨ad,rfl,hb,hcell⟩:=hr.2 (by omega)
 obtain ⟨cs,hit,hcs⟩:=LR.at_ (k:=3) (fun a cs h=>ChR.three _ _ h) is xs hl j hj
 obtain ⟨cs0,hit0,hcs0⟩:=LR.at_ (k:=3) (fun a cs h=>ChR.three _ _ h) is xs hl 0 (by omega)
 obtain ⟨a0,a1,rfl,hk,hv⟩:=hit
 obtain ⟨b0,b1,rfl,_,_⟩:=hit0
 have q0:=hcell (j * 3 + 0) _ (hcs 0 (by omega))
 have q1:=hcell (j * 3 + 1) _ (hcs 1 (by omega))
 have q2:=hcell (j * 3 + 2) _ (hcs 2 (by omega))
 have q3:=hcell (0 * 3 + 0) _ (hcs0 0 (by omega))
 have hz:ad.add 0 = ad:=by unfold Addr.add; rw [if_pos rfl]
 rw [show 0 * 3 + 0 = 0 from rfl,hz] at q3
 have hs:=spot_none q3
 have hlt:=cell_in q3
 obtain ⟨b,o,sp⟩:=ad
 cases hs
 obtain ⟨A0,c0,rfl,hc0,hr0⟩:=hk
 obtain ⟨A1,c1,rfl,hc1,hr1⟩:=hv
 have hadd:∀ j,(⟨b,o,none⟩:Addr).add j = ⟨b,o + j,none⟩:=fun j=>(add_plain ⟨b,o,none⟩ j rfl).symm
 rw [hadd] at q0 q1 q2
 exact ⟨b,o,A0,c0,A1,c1,rfl,hlt,by simpa using q0,by rw [Nat.add_assoc]; exact q1,by rw [Nat.add_assoc]; exact q2,BS.all ⟨A0,c0,rfl,hc0,hr0⟩⟩
/-- A slice of bytes, in its one cell. -/
def BsR (w:World) (F:Nat → Prop) (x:Cn) (cs:List Value):Prop:=∃ a,cs = [a] ∧ BS w F a x
def chs (put:List It) (gone:List Cn):List Ch:=put.map (fun x=>⟨x.k,x.v,false⟩) ++ gone.map (fun k=>⟨k,[],true⟩)
def okL (l:List Ch):Prop:=(∀ c ∈ l,1 ≤ c.k.length ∧ c.k.length ≤ 32 ∧ c.v.length ≤ 128) ∧ RiseC l
theorem SLk.at_bs {w:World} {F:Nat → Prop} {A:Option Addr} {n c:Nat} {is:List Cn} (h:SLk 1 BsR w F (.slice A n c) is) {j:Nat} (hj:j < is.length) :
  ∃ b o A0 c0,A = some ⟨b,o,none⟩ ∧ b < w.heap.size ∧ w.cell? ⟨b,o + j,none⟩ = some (.slice A0 is[j].length c0) ∧ BS w F (.slice A0 is[j].length c0) is[j]:=by
 obtain ⟨A',c',xs,e,hc,hr,hl⟩:=h
 injection e with e1 e2 e3
 subst e1 e2 e3
 obtain ⟨ad,rfl,hb,hcell⟩:=hr.2 (by omega)
 have h1:∀ (a:Cn) cs,BsR w F a cs → cs.length = 1:=fun a cs ⟨v,e,_⟩=>by rw [e]; rfl
 obtain ⟨cs,hit,hcs⟩:=LR.at_ (k:=1) h1 is xs hl j hj
 obtain ⟨cs0,hit0,hcs0⟩:=LR.at_ (k:=1) h1 is xs hl 0 (by omega)
 obtain ⟨a0,rfl,hk⟩:=hit
 obtain ⟨b0,rfl,_⟩:=hit0
 have q0:=hcell (j * 1 + 0) _ (hcs 0 (by omega))
 have q3:=hcell (0 * 1 + 0) _ (hcs0 0 (by omega))
 have hz:ad.add 0 = ad:=by unfold Addr.add; rw [if_pos rfl]
 rw [show 0 * 1 + 0 = 0 from rfl,hz] at q3
 have hs:=spot_none q3
 have hlt:=cell_in q3
 obtain ⟨b,o,sp⟩:=ad
 cases hs
 obtain ⟨A0,c0,rfl,hc0,hr0⟩:=hk
 refine ⟨b,o,A0,c0,rfl,hlt,?_,⟨A0,c0,rfl,hc0,hr0⟩⟩
 rw [← add_plain ⟨b,o,none⟩ (j * 1 + 0) rfl] at q0
 simpa using q0
theorem okL_take {l:List Ch} {j:Nat} (hs:SortC l) (h:okL (l.take j)) (hj:j < l.length) (hk:1 ≤ l[j].k.length ∧ l[j].k.length ≤ 32 ∧ l[j].v.length ≤ 128) (hne:∀ (i:Nat) (hi:i + 1 = j),l[i].k ≠ l[j].k):okL (l.take (j + 1)):=by
 obtain ⟨h1,h2⟩:=h
 rw [List.take_succ_eq_append_getElem hj]
 refine ⟨fun c hc=>?_,?_⟩
 ·rcases List.mem_append.1 hc with hc | hc
  ·exact h1 c hc
  ·rw [List.mem_singleton.1 hc]; exact hk
 ·unfold RiseC at *
  rw [List.pairwise_append]
  refine ⟨h2,List.pairwise_singleton _ _,fun a ha b hb=>?_⟩
  rw [List.mem_singleton.1 hb]
  obtain ⟨i,hi,rfl⟩:=List.getElem_of_mem ha
  rw [List.length_take] at hi
  rw [List.getElem_take]
  have hij:i < j:=by omega
  obtain ⟨q,rfl⟩:∃ q,j = q + 1:=⟨j - 1,by omega⟩
  have e1:=hne q rfl
  have e2:=List.pairwise_iff_getElem.1 hs q (q + 1) (by omega) hj (by omega)
  have e3:Lib.compareBytes l[q].k l[q + 1].k < 0:=by
   rcases Int.lt_or_eq_of_le e2 with h | h
   ·exact h
   ·exact absurd (cb_zero.1 h) e1
  rcases Nat.lt_or_ge i q with h | h
  ·have h4:=List.pairwise_iff_getElem.1 h2 i q (by rw [List.length_take]; omega) (by rw [List.length_take]; omega) h
   rw [List.getElem_take,List.getElem_take] at h4
   exact cb_trans h4 e3
  ·obtain rfl:i = q:=by omega
   exact e3
theorem okL_bad {l:List Ch} {j:Nat} (hj:j < l.length) (hk:¬ (1 ≤ l[j].k.length ∧ l[j].k.length ≤ 32 ∧ l[j].v.length ≤ 128)):¬ okL l:=fun h=>hk (h.1 _ (List.getElem_mem hj))
theorem okL_twice {l:List Ch} {j:Nat} (hj:j + 1 < l.length) (hk:l[j].k = l[j + 1].k):¬ okL l:=fun h=>by
 have:=List.pairwise_iff_getElem.1 h.2 j (j + 1) (by omega) hj (by omega)
 rw [hk,cb_zero.2 rfl] at this
 omega
def G5 (w wr:World) (st:Nat) (w':World):Prop:=Below w.heap.size w w' ∧ (st = 0 → Below wr.heap.size wr w')
theorem BS.fresh {w0 w3 w4:World} {v:Value} {l:Cn} (h:BS w4 (fun j=>w3.heap.size ≤ j ∧ j < w4.heap.size) v l) (hs:w0.heap.size ≤ w3.heap.size):BS w4 (fun j=>w0.heap.size ≤ j ∧ j < w4.heap.size) v l:=h.keep (fun _ _ _=>rfl) (fun j hj _=>⟨by omega,hj.2⟩)
theorem BS.fresh2 {w0 w3 w4:World} {v:Value} {l:Cn} (h:BS w3 (fun j=>w0.heap.size ≤ j ∧ j < w3.heap.size) v l) (hb:Below w3.heap.size w3 w4):BS w4 (fun j=>w0.heap.size ≤ j ∧ j < w4.heap.size) v l:=h.keep (fun j hj _=>hb.block j hj.2) (fun j hj _=>⟨hj.1,by have:=hb.size; omega⟩)
set_option maxRecDepth 100000 in
set_option maxHeartbeats 8000000 in
theorem changes_any {w:World} {F:Nat → Prop} {vp vg:Value} {put:List It} {gone:List Cn} (h1:SLk 2 ItR w F vp put) (h2:SLk 1 BsR w F vg gone) (hlen:put.length + gone.length ≤ 1000000000) (hp:∀ x ∈ put,x.k.length ≤ 1073741824 ∧ x.v.length ≤ 1073741824) (hq:∀ k ∈ gone,k.length ≤ 1073741824) :
  Calls Try.prog 32 #[vp,vg] w fun e w'=>∃ l:List Ch,l.Perm (chs put gone) ∧ SortC l ∧ ((okL l ∧ ∃ v,e = .returned (.tuple #[v,.bool true]) ∧ SLk 3 ChR w' (fun j=>w.heap.size ≤ j) v l) ∨ (¬ okL l ∧ e = .returned (.tuple #[.slice none 0 0,.bool false]))) ∧ Below w.heap.size w w':=by
 obtain ⟨i0,hi0,hz0,hz1,hz2⟩:=tch_inf
 have HI0:=hide hi0
 have HZ0:=hide hz0
 have H1:=hide h1
 have H2:=hide h2
 have HP:=hide hp
 have HQ:=hide hq
 obtain ⟨A1,c1,xs1,rfl,hc1,_⟩:=h1
 obtain ⟨A2,c2,xs2,rfl,hc2,_⟩:=h2
 clear hi0 hz0 hp hq
 obtain ⟨n1,hn1⟩:∃ n,put.length = n:=⟨_,rfl⟩
 obtain ⟨n2,hn2⟩:∃ n,gone.length = n:=⟨_,rfl⟩
 have HN1:=hide hn1
 have HN2:=hide hn2
 rw [hn1] at H1 hc1 hlen ⊢
 rw [hn2] at H2 hc2 hlen ⊢
 clear hn1 hn2
 go_enter Try.func32,Try.ntmps32
 go_wp2_with fail
 go_loopw [6,15] (fun vl vi wr=>∃ (j c:Nat) (A:Option Addr),vl = .slice A j c ∧ vi = .int .i64 (j:Int) ∧ j ≤ n1 ∧ Hid (ChG w wr (.slice A j c) (chs (put.take j) []))) (fun _ vi _=>n1 - (intOf vi).toNat)
 case atStart=>exact ⟨0,0,none,rfl,rfl,by omega,hide ⟨Below.refl _ _,[],World.ownsRow_nil _ _ _ _,rfl⟩⟩
 case round=>
  obtain ⟨j,c,A,rfl,rfl,hj,HG⟩:=hrel
  by_cases hlt:j < n1
  ·have hj':j < put.length:=by rw [HN1.out]; exact hlt
   obtain ⟨b,o,A0,c0,B0,d0,rfl,hb,hF,k0,k1,hit⟩:=H1.out.at_it hj'
   have k0:=(HG.out.bel.cell (p:=⟨b,o + j * 2,none⟩) hb).trans k0
   have k1:=(HG.out.bel.cell (p:=⟨b,o + j * 2 + 1,none⟩) hb).trans k1
   have zz:=Nat.lt_of_lt_of_le hb HG.out.bel.size
   have hx:=HP.out put[j] (List.getElem_mem hj')
   have hTK:=List.take_succ_eq_append_getElem hj'
   obtain ⟨y,hy⟩:∃ y,put[j] = y:=⟨_,rfl⟩
   rw [hy] at k0 k1 hx hTK hit
   have HTK:=hide (show chs (put.take (j + 1)) [] = chs (put.take j) [] ++ [⟨y.k,y.v,false⟩] from by rw [hTK]; unfold chs; simp)
   clear hy hTK
   obtain ⟨kl,hkl⟩:∃ kl,y.k.length = kl:=⟨_,rfl⟩
   obtain ⟨vl0,hvl⟩:∃ vl,y.v.length = vl:=⟨_,rfl⟩
   have HKL:=hide hkl
   have HVL:=hide hvl
   have HX:=hide hx
   rw [hkl] at k0 hit
   rw [hvl] at k1 hit
   obtain ⟨a,a',e,hik,hiv⟩:=hit
   injection e with e1 e
   injection e with e2 _
   subst e1 e2
   have HIK:=hide hik
   have HIV:=hide hiv
   clear hkl hvl hx hik hiv
   have hjm:j + 1 ≤ 9223372036854775807:=by omega
   obtain ⟨xs,hxo,hxl⟩:=HG.out.row
   have hll:(chs (put.take j) []).length = j:=by unfold chs; simp; omega
   rw [hll] at hxo
   have HXO:=hide hxo
   have HXL:=hide hxl
   have HLL:=hide hll
   clear hxo hxl hll
   go_upto_region 5 with fail
   obtain ⟨w4,hw4⟩:∃ w4,wr.alloc (.cells #[.slice A0 kl c0,.slice B0 vl0 d0] TIt) = w4:=⟨_,rfl⟩
   obtain ⟨xb,hxb⟩:∃ xb,wr.heap.size = xb:=⟨_,rfl⟩
   have HB4:=hide (show Below wr.heap.size wr w4 from hw4 ▸ al_below wr _)
   have HX4:=hide (show Blk w4 xb TIt #[.slice A0 kl c0,.slice B0 vl0 d0] from hxb ▸ hw4 ▸ Blk.new _ _ _)
   rw [hw4,hxb]
   clear hw4 hxb k0 k1 zz
   have HG4:=hide (HG.out.below HB4.out)
   have HIK4:=hide (HIK.out.all.later HG4.out.bel)
   have HIV4:=hide (HIV.out.all.later HG4.out.bel)
   have HXL4:=hide (LR.mono (fun a cs=>ChR.keep (F':=fun j_1=>w.heap.size ≤ j_1 ∧ (Value.slice A j c).ownBlock ≠ some j_1) (fun j _ hj=>HB4.out.block j hj) (fun j h _=>h) a cs) _ _ HXL.out)
   have HXO4:=hide (own_later HXO.out HB4.out)
   refine wp_region_dagO (by kernel_rfl) (by kernel_rfl) 92 1
    [⟨some 19,[0,1],[],[],[],[],fun _ _ v _=>v = .slice A j c⟩,
     ⟨some 20,[0,1],[],[],[],[],fun _ _ v _=>v = .pointer (some ⟨xb,0,none⟩)⟩,
     ⟨some 21,[0],[],[],[1],[],fun _ _ v _=>v = .slice A0 kl c0⟩,
     ⟨some 22,[0],[],[],[2],[],fun st a v w'=>st = 0 → BS w' (fun j=>w4.heap.size ≤ j ∧ j < w'.heap.size) v y.k⟩,
     ⟨some 23,[0,1],[],[],[],[],fun _ _ v _=>v = .pointer (some ⟨xb,1,none⟩)⟩,
     ⟨some 24,[0],[],[],[4],[],fun _ _ v _=>v = .slice B0 vl0 d0⟩,
     ⟨some 25,[0],[],[],[5],[],fun st a v w'=>st = 0 → BS w' (fun j=>w4.heap.size ≤ j ∧ j < w'.heap.size) v y.v⟩,
     ⟨some 26,[0],[],[],[3,6],[],fun st a v w'=>st = 0 → ∃ vk vv,v = .agg #[vk,vv] ∧ ChR w' (fun j=>w4.heap.size ≤ j ∧ j < w'.heap.size) ⟨y.k,y.v,false⟩ [vk,vv,.bool false]⟩,
     ⟨some 27,[0],[],[],[7],[],fun st a v w'=>st = 0 → ∃ vk vv,v = .agg #[vk,vv,.bool false] ∧ ChR w' (fun j=>w4.heap.size ≤ j ∧ j < w'.heap.size) ⟨y.k,y.v,false⟩ [vk,vv,.bool false]⟩,
     ⟨some 28,[0],[],[],[8],[],fun st a v w'=>st = 0 → ∃ g vk vv,v = .slice (some ⟨g,0,none⟩) 1 1 ∧ Blk w' g TCh #[vk,vv,.bool false] ∧ ChR w' (fun j=>w4.heap.size ≤ j ∧ j < w'.heap.size) ⟨y.k,y.v,false⟩ [vk,vv,.bool false]⟩,
     ⟨some 29,[0],[(0,1)],[1],[0,9],[],fun st a v w'=>1 ≤ st ∧ (∃ B d,v = .slice B (j + 1) d) ∧ ChG w w' v (chs (put.take j) [] ++ [⟨y.k,y.v,false⟩])⟩,
     ⟨some 6,[1],[],[],[10],[],fun st a v w'=>1 ≤ st ∧ (∃ B d,v = .slice B (j + 1) d) ∧ ChG w w' v (chs (put.take j) [] ++ [⟨y.k,y.v,false⟩])⟩] (G5 w w4) (fun s s' _ _ _=>s = 0 ∧ s' = 1) (fun _ w w'=>Below w.heap.size w w') ?gu ?ru ?put [19,20,21,22,23,24,25,26,27,28,29,6] rfl (by kernel_rfl) rfl ?g0 ?keep ?steps ?fin
   case ru=>
    intro e he s a v w w' hu hv
    simp only [List.mem_cons,List.not_mem_nil,or_false] at he
    rcases he with rfl | rfl | rfl | rfl | rfl | rfl | rfl | rfl | rfl | rfl | rfl | rfl
    all_goals first | exact hv | (intro h0; exact (hv h0).fresh2 hu) | (intro h0; obtain ⟨a1,a2,e,h⟩:=hv h0; exact ⟨a1,a2,e,ChR.keep (fun j hj _=>hu.block j hj.2) (fun j hj _=>⟨hj.1,by have:=hu.size; omega⟩) _ _ h⟩) | (intro h0; obtain ⟨g,a1,a2,e,hb,h⟩:=hv h0; exact ⟨g,a1,a2,e,hb.below hu hb.lt,ChR.keep (fun j hj _=>hu.block j hj.2) (fun j hj _=>⟨hj.1,by have:=hu.size; omega⟩) _ _ h⟩) | (obtain ⟨h0,h1,h2⟩:=hv; exact ⟨h0,h1,h2.below hu⟩)
   case put=>
    intro e he s a d u v w hnd hv
    simp only [List.mem_cons,List.not_mem_nil,or_false] at he
    rcases he with rfl | rfl | rfl | rfl | rfl | rfl | rfl | rfl | rfl | rfl | rfl | rfl
    all_goals first | exact hv
   case keep=>
    intro e he s s' a v w w' hsl hm ht hv
    simp only [List.mem_cons,List.not_mem_nil,or_false] at he
    rcases he with rfl | rfl | rfl | rfl | rfl | rfl | rfl | rfl | rfl | rfl | rfl | rfl
    all_goals first | exact hv | (intro h3; exfalso; have:=ht.2; omega) | (exfalso; have:=hv.1; have:=ht.1; omega)
   case steps=>
    refine ⟨?_,?_,?_,?_,?_,?_,?_,?_,?_,?_,?_,?_,trivial⟩
    ·intro st hst ac w3 hg hG hd ho K hK
     dsimp only at hst hG hK
     exact op_move _ rfl (hK _ _ (Below.refl _ _) (ho 11 _ rfl (by decide) (by kernel_rfl) 6 rfl))
    ·intro st hst ac w3 hg hG hd ho K hK
     dsimp only at hst hG hK
     have k8:=hg.kp 8 (by simp)
     (try simp [Act.eval] at k8)
     go_simp
     exact hK _ _ (Below.refl _ _) rfl
    ·intro st hst ac w3 hg hG hd ho K hK
     dsimp only at hst hG hK
     simp only [List.mem_cons,List.not_mem_nil,or_false] at hst
     subst hst
     have hX:=HX4.out.below (hG.2 rfl) HX4.out.lt
     have kk:=hX.cell 0
     have zz:=hX.lt
     simp at kk
     clear hG hX
     have f1:=hd 1 (by simp) _ rfl _ rfl
     (try simp [Act.eval] at f1)
     go_simp
     exact hK _ _ (Below.refl _ _) rfl
    ·intro st hst ac w3 hg hG hd ho K hK
     dsimp only at hst hG hK
     simp only [List.mem_cons,List.not_mem_nil,or_false] at hst
     subst hst
     have f2:=hd 2 (by simp) _ rfl _ rfl
     simp [Act.eval] at f2
     have HG9:=hide (hG.2 rfl)
     clear hG
     go_simp
     (refine (clone_bs (l:=y.k) (HKL.out.symm ▸ HIK4.out.later HG9.out) HX.out.1).mono ?_)
     rintro e w5 ⟨v',rfl,h3,h4⟩
     exact hK _ _ h4 (fun _=>h3.fresh HG9.out.size)
    ·intro st hst ac w3 hg hG hd ho K hK
     dsimp only at hst hG hK
     have k8:=hg.kp 8 (by simp)
     (try simp [Act.eval] at k8)
     go_simp
     exact hK _ _ (Below.refl _ _) rfl
    ·intro st hst ac w3 hg hG hd ho K hK
     dsimp only at hst hG hK
     simp only [List.mem_cons,List.not_mem_nil,or_false] at hst
     subst hst
     have hX:=HX4.out.below (hG.2 rfl) HX4.out.lt
     have kk:=hX.cell 1
     have zz:=hX.lt
     simp at kk
     clear hG hX
     have f4:=hd 4 (by simp) _ rfl _ rfl
     (try simp [Act.eval] at f4)
     go_simp
     exact hK _ _ (Below.refl _ _) rfl
    ·intro st hst ac w3 hg hG hd ho K hK
     dsimp only at hst hG hK
     simp only [List.mem_cons,List.not_mem_nil,or_false] at hst
     subst hst
     have f5:=hd 5 (by simp) _ rfl _ rfl
     simp [Act.eval] at f5
     have HG9:=hide (hG.2 rfl)
     clear hG
     go_simp
     (refine (clone_bs (l:=y.v) (HVL.out.symm ▸ HIV4.out.later HG9.out) HX.out.2).mono ?_)
     rintro e w5 ⟨v',rfl,h3,h4⟩
     exact hK _ _ h4 (fun _=>h3.fresh HG9.out.size)
    ·intro st hst ac w3 hg hG hd ho K hK
     dsimp only at hst hG hK
     simp only [List.mem_cons,List.not_mem_nil,or_false] at hst
     subst hst
     have g3:=hd 3 (by simp) _ rfl _ rfl rfl
     have g6:=hd 6 (by simp) _ rfl _ rfl rfl
     obtain ⟨v3,hv3⟩:∃ v3,ac.eval (.tmp 22) = v3:=⟨_,rfl⟩
     obtain ⟨v6,hv6⟩:∃ v6,ac.eval (.tmp 25) = v6:=⟨_,rfl⟩
     rw [hv3] at g3
     rw [hv6] at g6
     have HCH:=hide (show ChR w3 (fun j=>w4.heap.size ≤ j ∧ j < w3.heap.size) ⟨y.k,y.v,false⟩ [v3,v6,.bool false] from ⟨v3,v6,rfl,g3,g6⟩)
     obtain ⟨A3,c3,rfl,_⟩:=g3
     obtain ⟨A6,c6,rfl,_⟩:=g6
     clear hG
     simp [Act.eval] at hv3 hv6
     go_simp
     exact hK _ _ (Below.refl _ _) (fun _=>⟨_,_,rfl,HCH.out⟩)
    ·intro st hst ac w3 hg hG hd ho K hK
     dsimp only at hst hG hK
     simp only [List.mem_cons,List.not_mem_nil,or_false] at hst
     subst hst
     obtain ⟨vk,vv,f7,hch⟩:=hd 7 (by simp) _ rfl _ rfl rfl
     have hch':=hch
     obtain ⟨_,_,e,⟨A3,c3,e1,_⟩,⟨A6,c6,e2,_⟩⟩:=hch'
     (injection e with e3 e; injection e with e4 _)
     subst e3 e4 e1 e2
     simp [Act.eval] at f7
     have HCH:=hide hch
     clear hG hch
     go_simp
     exact hK _ _ (Below.refl _ _) (fun _=>⟨_,_,rfl,HCH.out⟩)
    ·intro st hst ac w3 hg hG hd ho K hK
     dsimp only at hst hG hK
     simp only [List.mem_cons,List.not_mem_nil,or_false] at hst
     subst hst
     obtain ⟨vk,vv,f8,hch⟩:=hd 8 (by simp) _ rfl _ rfl rfl
     have hch':=hch
     obtain ⟨_,_,e,⟨A3,c3,e1,_⟩,⟨A6,c6,e2,_⟩⟩:=hch'
     (injection e with e3 e; injection e with e4 _)
     subst e3 e4 e1 e2
     simp [Act.eval] at f8
     have HCH:=hide hch
     clear hG hch
     go_simp
     exact hK _ _ (al_below w3 _) (fun _=>⟨_,_,_,rfl,Blk.new _ _ _,ChR.keep (fun j hj _=>(al_below w3 _).block j hj.2) (fun j hj _=>⟨hj.1,by simp; omega⟩) _ _ HCH.out⟩)
    ·intro st st' hmv ac w3 hg hG hd ho K hK
     simp only [List.mem_cons,Prod.mk.injEq,List.not_mem_nil,or_false] at hmv
     obtain ⟨rfl,rfl⟩:=hmv
     dsimp only at hG hK
     have f0:=hd 0 (by simp) _ rfl _ rfl
     obtain ⟨gl,vk,vv,f9,hbl,hch⟩:=hd 9 (by simp) _ rfl _ rfl rfl
     refine wp_append_any w3 (.tmp 19) (.tmp 28) 82 rfl w.heap.size TCh i0 _ 3 56 Try.underlying82 HI0.out HZ0.out hz1 hz2 rfl (by omega) (.slice A j c) j xs f0 (own_later HXO4.out (hG.2 rfl)) w3.heap.size (some ⟨gl,0,none⟩) 1 1 [vk,vv,.bool false] f9 (reads_blk hbl rfl rfl) (by obtain ⟨_,_,e,⟨_,_,ea,_⟩,⟨_,_,eb,_⟩⟩:=hch; injection e with e1 e; injection e with e2 _; intro u hu; simp at hu; rcases hu with rfl | rfl | rfl; (rw [e1,ea]; rfl); (rw [e2,eb]; rfl); rfl) (by unfold maxLen; omega) (by omega) hG.1.size ?_
     intro v' w' ho hgb hoo
     exact hK _ _ ⟨rfl,rfl⟩ ⟨hG.1.grown hgb hG.1.size (fun k hk=>(HXO4.out.lt k hk).1),fun e=>by omega⟩ ⟨Nat.le_refl _,by obtain ⟨B,d,e,_⟩:=own_slice ho; exact ⟨B,d,e⟩,ChG.push HG4.out (hG.2 rfl) ⟨by rw [HLL.out]; exact HXO4.out,HXL4.out⟩ hch (by rw [HLL.out]; exact ho) hgb hoo⟩
    ·intro st hst ac w3 hg hG hd ho K hK
     dsimp only at hst hG hK
     exact op_assign _ rfl (hK _ _ (Below.refl _ _) (hd 10 (by simp) _ rfl _ rfl))
   case gu=>intro s w1 w2 hG hu; exact ⟨hG.1.trans (hu.mono hG.1.size),fun e=>(hG.2 e).trans (hu.mono (hG.2 e).size)⟩
   case g0=>exact ⟨HG4.out.bel.drew,fun _=>(Below.refl _ _).drew⟩
   case fin=>
    intro f9 w9 hG hall
    have hr:=hall _ (List.mem_of_getElem? (i:=11) rfl) 6 rfl
    clear hall hG
    simp only [fillF,List.map_cons,List.map_nil,List.foldl_cons,List.foldl_nil,Act.put,List.setIfInBounds_toArray,List.set_cons_zero,List.set_cons_succ]
    obtain ⟨_,⟨B9,d9,h9⟩,hch⟩:=hr
    rw [h9] at hch ⊢
    have HCH:=hide hch
    clear hch h9
    go_wp2_with fail
    refine ⟨⟨j + 1,d9,B9,rfl,by push_cast; rfl,by omega,hide (by rw [HTK.out]; exact HCH.out)⟩,?_⟩
    simp [intOf]
    omega
  ·obtain rfl:n1 = j:=by omega
   have HG1:=hide (show ChG w wr (.slice A n1 c) (chs put []) from by have:=HG.out; rwa [← HN1.out,List.take_length,HN1.out] at this)
   clear HG
   go_wp2_with fail
   go_loopw [6,33] (fun vl vi wr=>∃ (j m c:Nat) (A:Option Addr),vl = .slice A m c ∧ vi = .int .i64 (j:Int) ∧ j ≤ n2 ∧ m = n1 + j ∧ Hid (ChG w wr (.slice A m c) (chs put (gone.take j)))) (fun _ vi _=>n2 - (intOf vi).toNat)
   case atStart=>exact ⟨0,n1,c,A,rfl,rfl,by omega,by omega,HG1⟩
   case round=>
    clear HG1
    obtain ⟨j,m,c,A,rfl,rfl,hj,hm,HG⟩:=hrel
    by_cases hlt:j < n2
    ·have hj':j < gone.length:=by rw [HN2.out]; exact hlt
     obtain ⟨b,o,A0,c0,rfl,hb,k0,hik⟩:=H2.out.at_bs hj'
     have k0:=(HG.out.bel.cell (p:=⟨b,o + j,none⟩) hb).trans k0
     have zz:=Nat.lt_of_lt_of_le hb HG.out.bel.size
     have hx:=HQ.out gone[j] (List.getElem_mem hj')
     have hTK:=List.take_succ_eq_append_getElem hj'
     obtain ⟨y,hy⟩:∃ y,gone[j] = y:=⟨_,rfl⟩
     rw [hy] at k0 hx hTK hik
     have HTK:=hide (show chs put (gone.take (j + 1)) = chs put (gone.take j) ++ [⟨y,[],true⟩] from by rw [hTK]; unfold chs; simp)
     clear hy hTK
     obtain ⟨kl,hkl⟩:∃ kl,y.length = kl:=⟨_,rfl⟩
     have HKL:=hide hkl
     have HX:=hide hx
     have HIK:=hide (hik.all.later HG.out.bel)
     rw [hkl] at k0 HIK
     clear hkl hx hik
     have hjm:j + 1 ≤ 9223372036854775807:=by omega
     obtain ⟨xs,hxo,hxl⟩:=HG.out.row
     have hll:(chs put (gone.take j)).length = m:=by unfold chs; simp; have:=HN1.out; have:=HN2.out; omega
     rw [hll] at hxo
     have HXO:=hide hxo
     have HXL:=hide hxl
     have HLL:=hide hll
     have HM:=hide hm
     clear hxo hxl hll
     have hm9:m ≤ 1000000000:=by omega
     clear hm
     go_upto_region 11 with (first | (go_at_call 48; (refine (clone_bs (l:=y) (HKL.out.symm ▸ HIK.out) HX.out).mono ?_); rintro e w4 ⟨v',rfl,h3,h4⟩; have HB4:=hide h4; obtain ⟨A3,c3,rfl,hc3,hr3⟩:=h3; have H3:=hide (show BS w4 (fun j=>wr.heap.size ≤ j ∧ j < w4.heap.size) (.slice A3 y.length c3) y from ⟨A3,c3,rfl,hc3,hr3⟩); clear h4 hc3 hr3 k0 zz) | (at_builtin; refine wpList_append_any _ rfl (.tmp 37) (.tmp 42) _ rfl w.heap.size TCh i0 _ 3 56 Try.underlying82 HI0.out HZ0.out hz1 hz2 rfl (by omega) (.slice A m c) m xs rfl (own_later HXO.out (HB4.out.trans ((al_below w4 _).mono HB4.out.size))) _ (some ⟨w4.heap.size,0,none⟩) 1 1 [.slice A3 y.length c3,.slice none 0 0,.bool true] rfl (reads_blk (Blk.new w4 TCh _) rfl rfl) (by intro u hu; simp at hu; rcases hu with rfl | rfl | rfl <;> rfl) (by unfold maxLen; omega) (by omega) (Nat.le_trans HG.out.bel.size (Nat.le_trans HB4.out.size (al_below w4 _).size)) ?_; intro v' w5 ho hgb hoo; (obtain ⟨A6,c6,rfl,hc6⟩:=own_slice ho); have HC6:=hide (ChG.push HG.out (HB4.out.trans ((al_below w4 _).mono HB4.out.size)) ⟨by rw [HLL.out]; exact HXO.out,HXL.out⟩ (c:=⟨y,[],true⟩) ⟨_,_,rfl,H3.out.keep (fun j hj hlt=>(al_below w4 _).block j hlt) (fun j hj _=>⟨hj.1,by simp; omega⟩),none,0,rfl,⟨Nat.le_refl _,Nat.zero_le _⟩,RF.nil _⟩ (by rw [HLL.out]; exact ho) hgb hoo); clear ho hgb hoo))
     go_wp2_with fail
     refine ⟨⟨j + 1,m + 1,c6,A6,rfl,by push_cast; rfl,by omega,by have:=HM.out; omega,hide (by rw [HTK.out]; exact HC6.out)⟩,?_⟩
     simp [intOf]
     omega
    ·obtain rfl:n2 = j:=by omega
     have HG2:=hide (show ChG w wr (.slice A m c) (chs put gone) from by have:=HG.out; rwa [← HN2.out,List.take_length] at this)
     have HM:=hide hm
     have hm9:m ≤ 1000000000:=by omega
     have hcl:(chs put gone).length = m:=by unfold chs; simp; have:=HN1.out; have:=HN2.out; omega
     have HCL:=hide hcl
     clear HG hm hcl
     go_upto_region 13 with (go_at_call 49; (refine (sort_all HG2.out (by rw [HCL.out]; exact hm9)).mono ?_); rintro e w4 ⟨rfl,l,hp,hs,hch⟩; have HPm:=hide hp; have HS:=hide hs; have HC:=hide hch; clear hp hs hch)
     go_wp2_with fail
     have hll:l.length = m:=by rw [HPm.out.length_eq]; exact HCL.out
     have HLL:=hide hll
     clear hll HG2
     go_loopw [49] (fun vi wr=>∃ j:Nat,vi = .int .i64 (j:Int) ∧ j ≤ m ∧ Hid (ChG w wr (.slice A m c) l) ∧ Hid (okL (l.take j))) (fun vi _=>m - (intOf vi).toNat)
     case atStart=>exact ⟨0,rfl,by omega,HC,hide ⟨fun c hc=>by simp at hc,by simp [RiseC]⟩⟩
     case round=>
      clear HC
      obtain ⟨j,rfl,hj,HC,HO⟩:=hrel
      by_cases hlt:j < m
      ·have hj':j < l.length:=by rw [HLL.out]; exact hlt
       obtain ⟨b,o,A0,c0,B0,d0,rfl,hb,k0,k1,k2,hbk⟩:=HC.out.sl.at_ch hj'
       have HBK:=hide hbk
       have hok0:=fun h=>hide (okL_bad hj' h)
       have hnx:=okL_take HS.out HO.out hj'
       have HNX:=hide hnx
       have HBad:=hide hok0
       obtain ⟨y,hy⟩:∃ y,l[j] = y:=⟨_,rfl⟩
       have HY:=hide hy
       rw [hy] at k0 k1 k2 HNX HBad HBK
       clear hy hok0 hnx hbk
       obtain ⟨kl,hkl⟩:∃ kl,y.k.length = kl:=⟨_,rfl⟩
       obtain ⟨vl0,hvl⟩:∃ vl,y.v.length = vl:=⟨_,rfl⟩
       obtain ⟨gn,hgn⟩:∃ gn,y.gone = gn:=⟨_,rfl⟩
       rw [hkl] at k0 HNX HBad HBK
       rw [hvl] at k1 HNX HBad
       rw [hgn] at k2
       clear hkl hvl hgn
       have hjm:j + 1 ≤ 9223372036854775807:=by omega
       go_upto_region 16 with fail
       obtain ⟨w4,hw4⟩:∃ w4,wr.alloc (.cells #[.slice A0 kl c0,.slice B0 vl0 d0,.bool gn] TCh) = w4:=⟨_,rfl⟩
       obtain ⟨xb,hxb⟩:∃ xb,wr.heap.size = xb:=⟨_,rfl⟩
       have HB4:=hide (show Below wr.heap.size wr w4 from hw4 ▸ al_below wr _)
       have HX4:=hide (show Blk w4 xb TCh #[.slice A0 kl c0,.slice B0 vl0 d0,.bool gn] from hxb ▸ hw4 ▸ Blk.new _ _ _)
       rw [hw4,hxb]
       clear hw4 hxb k0 k1 k2
       have HC4:=hide (HC.out.below HB4.out)
       have HBK4:=hide (HBK.out.later HB4.out)
       have kx:=HX4.out.cell; have fx:=HX4.out.frozen; have zx:=HX4.out.lt
       by_cases hk0:kl = 0
       ·have d0:((kl:Int) == 0) = true:=by simp [hk0]
        go_quiet (fail)
        obtain ⟨w5,hw5⟩:∃ w5,w4.drewN nq = w5:=⟨_,rfl⟩
        have HB5:=hide (show Below w4.heap.size w4 w5 from hw5 ▸ below_drewN (Below.refl _ _) nq)
        rw [hw5]
        clear hw5 kx fx zx
        go_wp2_with fail
        refine bodyPost_ret (v:=.tuple #[.slice none 0 0,.bool false]) (by simp (maxDischargeDepth:=9) [results,Try.results32,go_sem]; done) rfl ⟨l,HPm.out,HS.out,.inr ⟨(HBad.out (by omega)).out,rfl⟩,(HC4.out.below HB5.out).bel⟩
       ·have d0:((kl:Int) == 0) = false:=by simp [hk0]
        by_cases hk1:32 < kl
        ·have d1:decide ((32:Int) < (kl:Int)) = true:=by simp; omega
         go_quiet (fail)
         obtain ⟨w5,hw5⟩:∃ w5,w4.drewN nq = w5:=⟨_,rfl⟩
         have HB5:=hide (show Below w4.heap.size w4 w5 from hw5 ▸ below_drewN (Below.refl _ _) nq)
         rw [hw5]
         clear hw5 kx fx zx
         go_wp2_with fail
         refine bodyPost_ret (v:=.tuple #[.slice none 0 0,.bool false]) (by simp (maxDischargeDepth:=9) [results,Try.results32,go_sem]; done) rfl ⟨l,HPm.out,HS.out,.inr ⟨(HBad.out (by omega)).out,rfl⟩,(HC4.out.below HB5.out).bel⟩
        ·have d1:decide ((32:Int) < (kl:Int)) = false:=by simp; omega
         by_cases hk2:128 < vl0
         ·have d2:decide ((128:Int) < (vl0:Int)) = true:=by simp; omega
          go_quiet (fail)
          obtain ⟨w5,hw5⟩:∃ w5,w4.drewN nq = w5:=⟨_,rfl⟩
          have HB5:=hide (show Below w4.heap.size w4 w5 from hw5 ▸ below_drewN (Below.refl _ _) nq)
          rw [hw5]
          clear hw5 kx fx zx
          go_wp2_with fail
          refine bodyPost_ret (v:=.tuple #[.slice none 0 0,.bool false]) (by simp (maxDischargeDepth:=9) [results,Try.results32,go_sem]; done) rfl ⟨l,HPm.out,HS.out,.inr ⟨(HBad.out (by omega)).out,rfl⟩,(HC4.out.below HB5.out).bel⟩
         ·have d2:decide ((128:Int) < (vl0:Int)) = false:=by simp; omega
          cases j with
          | zero=>
           go_quiet (fail)
           obtain ⟨w5,hw5⟩:∃ w5,w4.drewN nq = w5:=⟨_,rfl⟩
           have HB5:=hide (show Below w4.heap.size w4 w5 from hw5 ▸ below_drewN (Below.refl _ _) nq)
           rw [hw5]
           clear hw5 kx fx zx
           go_wp2_with fail
           refine ⟨⟨0 + 1,by first | rfl | (push_cast; rfl),by omega,hide (HC4.out.below HB5.out),hide (HNX.out ⟨by omega,by omega,by omega⟩ (fun i hi=>by omega))⟩,?_⟩
           simp [intOf]
           try omega
          | succ j=>
           have hj2:j < l.length:=by omega
           obtain ⟨b2,o2,Ap,cp,Bp,dp,hbo,_,p0,_,_,hpk⟩:=HC4.out.sl.at_ch hj2
           injection hbo with hbo
           injection hbo with hb1 ho1 _
           subst hb1 ho1
           have zp:b < w4.heap.size:=Nat.lt_of_lt_of_le hb HB4.out.size
           obtain ⟨pk,hpk2⟩:∃ pk,l[j].k = pk:=⟨_,rfl⟩
           have HPK2:=hide hpk2
           rw [hpk2] at p0 hpk
           have HPK:=hide hpk
           obtain ⟨bq,hbq⟩:∃ bq,(y.k == pk) = bq:=⟨_,rfl⟩
           have HE:=hide (show ∀ nq,Calls Try.prog 51 #[.slice A0 kl c0,.slice Ap pk.length cp] (w4.drewN nq) fun e w'=>e = .returned (.bool bq) ∧ w' = w4.drewN nq from fun nq=>by
            have:=equal_bs (w:=w4.drewN nq) HBK4.out HPK.out
            rwa [hbq] at this)
           have HBQ:=hide hbq
           obtain ⟨pl,hpl⟩:∃ pl,pk.length = pl:=⟨_,rfl⟩
           rw [hpl] at p0 HE
           clear hpk hpk2 hbq hpl
           cases bq with
           | true=>
            go_quiet ((go_at_call 51; exact Calls.quiet_of_same (HE.out _)))
            have HBad2:=hide (okL_twice (l:=l) (j:=j) hj' (by rw [HPK2.out,HY.out]; exact (beq_iff_eq.1 HBQ.out).symm))
            obtain ⟨w5,hw5⟩:∃ w5,w4.drewN nq = w5:=⟨_,rfl⟩
            have HB5:=hide (show Below w4.heap.size w4 w5 from hw5 ▸ below_drewN (Below.refl _ _) nq)
            rw [hw5]
            clear hw5 kx fx zx p0 zp
            go_wp2_with fail
            refine bodyPost_ret (v:=.tuple #[.slice none 0 0,.bool false]) (by simp (maxDischargeDepth:=9) [results,Try.results32,go_sem]; done) rfl ⟨l,HPm.out,HS.out,.inr ⟨HBad2.out,rfl⟩,(HC4.out.below HB5.out).bel⟩
           | false=>
            go_quiet ((go_at_call 51; exact Calls.quiet_of_same (HE.out _)))
            clear p0 zp
            obtain ⟨w5,hw5⟩:∃ w5,w4.drewN nq = w5:=⟨_,rfl⟩
            have HB5:=hide (show Below w4.heap.size w4 w5 from hw5 ▸ below_drewN (Below.refl _ _) nq)
            rw [hw5]
            clear hw5 kx fx zx
            go_wp2_with fail
            refine ⟨⟨j + 1 + 1,by first | rfl | (push_cast; rfl),by omega,hide (HC4.out.below HB5.out),hide (HNX.out ⟨by omega,by omega,by omega⟩ (fun i hi e=>by obtain rfl:i = j:=(by omega); rw [HPK2.out] at e; have:=HBQ.out; rw [e] at this; simp at this))⟩,?_⟩
            simp [intOf]
            try omega
      ·obtain rfl:m = j:=by omega
       have HO2:=hide (show okL l from by have:=HO.out; rwa [← HLL.out,List.take_length] at this)
       go_wp2_with fail
       refine bodyPost_ret (v:=.tuple #[.slice A m c,.bool true]) (by simp (maxDischargeDepth:=9) [results,Try.results32,go_sem]; done) rfl ⟨l,HPm.out,HS.out,.inl ⟨HO2.out,_,rfl,HC.out.sl⟩,HC.out.bel⟩
end Go.Proofs.Ytkolacaceaamoaa
