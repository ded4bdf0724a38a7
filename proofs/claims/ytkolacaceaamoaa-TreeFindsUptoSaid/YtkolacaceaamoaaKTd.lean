/- The law's grown: what it keeps (plain). -/
import Derived.Test.YtkolacaceaamoaaKTc
set_option linter.unusedSimpArgs false
set_option linter.unusedVariables false
namespace Go.Proofs.Ytkolacaceaamoaa
open Go.RowKit
open Go.Lib (compareBytes)
/-- A row of items, as an element of a row. -/
def LsR (w:World) (F:Nat → Prop) (l:List It) (cs:List Value):Prop:=∃ v,cs = [v] ∧ SLk 2 ItR w F v l
theorem LsR.keep {w w':World} {F F':Nat → Prop} (hk:∀ j,F j → j < w.heap.size → w'.heap[j]? = w.heap[j]?) (hF:∀ j,F j → j < w.heap.size → F' j) (x:List It) (cs:List Value) (h:LsR w F x cs):LsR w' F' x cs:=by
 obtain ⟨v,e,h⟩:=h
 exact ⟨v,e,h.keep (by omega) @ItR.keep hk hF⟩
/-- The blocks that hold the lists. -/
def NF (c:Pct) (m:Pst) (v7 v8:Value) (wr:World) (j:Nat):Prop:=j < wr.heap.size ∧ ¬ PF m.F c.pb c.sb j ∧ v7.ownBlock ≠ some j ∧ v8.ownBlock ≠ some j
theorem NlS.grown {w0 wr w':World} {c:Pct} {tb:Nat} {m:Pst} {v:Value} (h:NlS w0 c tb m wr) (hg:wr.grownBy w' v.ownBlock) (ho:∀ q,v.ownBlock = some q → w0.heap.size ≤ q ∧ ¬ PF m.F c.pb c.sb q ∧ q ≠ tb):NlS w0 c tb m w':=by
 have hf:=Fr.of_grown (F:=fun j=>v.ownBlock = some j) hg (fun k e=>e)
 refine ⟨Pg.keepF h.pg hf (fun j hj e=>(ho j e).2.1 hj),hf.blk h.tr (fun e=>(ho tb e).2.2 rfl),h.nt,h.pl,h.tl,h.bel.grown hg h.bel.size (fun k hk=>(ho k hk).1)⟩
structure GwC (w0:World) (c:Pct) (tb j:Nat) (m:Pst) (v7 v8:Value) (roots:List Nat) (lists:List (List It)) (wr:World):Prop where
 nl:NlS w0 c tb m wr
 nn:m.N ≤ 6000000 * j
 ok:∀ l ∈ lists,l.length ≤ 200 * j ∧ ∀ x ∈ l,itOk x
 r7:wr.ownsRow w0.heap.size TI64 1 v7 roots.length (roots.map fun r:Nat=>Value.int .i64 (r:Int))
 p7:∀ q,v7.ownBlock = some q → ¬ PF m.F c.pb c.sb q ∧ q ≠ tb
 r8:∃ xs,wr.ownsRow w0.heap.size TIts 1 v8 lists.length xs ∧ LR (LsR wr (NF c m v7 v8 wr)) lists xs
 p8:∀ q,v8.ownBlock = some q → ¬ PF m.F c.pb c.sb q ∧ q ≠ tb
 ne:∀ q,v7.ownBlock = some q → v8.ownBlock ≠ some q
def GwT (c:Pct) (j:Nat) (m:Pst) (roots:List Nat) (lists:List (List It)):Prop:=roots.length = lists.length ∧ ∀ i (h:i < roots.length) (h2:i < lists.length),TreH c m roots[i] lists[i] (j + 1) 25
theorem GwT.keep {c:Pct} {j:Nat} {m m':Pst} {roots:List Nat} {lists:List (List It)} {T:List Nat} (h:GwT c j m roots lists) (hg:Grew c m m' T):GwT c (j + 1) m' roots lists:=⟨h.1,fun i h3 h4=>((h.2 i h3 h4).keep hg).up (by omega)⟩
theorem GwT.push {c:Pct} {j:Nat} {m:Pst} {roots:List Nat} {lists:List (List It)} {r:Nat} {l:List It} (h:GwT c j m roots lists) (ht:TreH c m r l (j + 1) 25):GwT c j m (roots ++ [r]) (lists ++ [l]):=by
 refine ⟨by rw [List.length_append,List.length_append,h.1]; rfl,fun i h3 h4=>?_⟩
 rw [List.length_append,List.length_singleton] at h3
 rcases Nat.lt_or_ge i roots.length with q | q
 ·rw [List.getElem_append_left q,List.getElem_append_left (by rw [← h.1]; exact q)]
  exact h.2 i q (by rw [← h.1]; exact q)
 ·have e:i = roots.length:=by omega
  subst e
  rw [List.getElem_append_right (Nat.le_refl _),List.getElem_append_right (by rw [h.1]; exact Nat.le_refl _)]
  simpa [h.1] using ht
section
variable {w0 wr w':World} {c:Pct} {tb j:Nat} {m m':Pst} {v7 v8:Value} {roots:List Nat} {lists:List (List It)}
theorem GwC.below (h:GwC w0 c tb j m v7 v8 roots lists wr) (hb:Below wr.heap.size wr w'):GwC w0 c tb j m v7 v8 roots lists w':=by
 obtain ⟨xs,h1,h2⟩:=h.r8
 exact { h with
  nl:=h.nl.below hb
  r7:=own_later h.r7 hb
  r8:=⟨xs,own_later h1 hb,LR.mono (fun a cs=>LsR.keep (fun j hj hlt=>hb.block j hlt) (fun j hj hlt=>⟨Nat.lt_of_lt_of_le hlt hb.size,hj.2⟩) a cs) _ _ h2⟩ }
theorem GwC.put (h:GwC w0 c tb j m v7 v8 roots lists wr) (hp:PgS w' c m') (hf:Fr (PF m.F c.pb c.sb) wr w') (hn:∀ j,PF m'.F c.pb c.sb j → PF m.F c.pb c.sb j ∨ wr.heap.size ≤ j) (hN:m'.N ≤ m.N + 6000000):GwC w0 c tb (j + 1) m' v7 v8 roots lists w':=by
 obtain ⟨xs,h1,h2⟩:=h.r8
 have hpf:∀ q,q < wr.heap.size → ¬ PF m.F c.pb c.sb q → ¬ PF m'.F c.pb c.sb q:=fun q hq hnq e=>(hn q e).elim hnq (fun h=>by omega)
 refine ⟨h.nl.put hp hf hn,by have:=h.nn; omega,fun l hl=>⟨by have:=(h.ok l hl).1; omega,(h.ok l hl).2⟩,
  row_keep h.r7 (fun q hq=>hf.block q (h.r7.lt q hq).2 (h.p7 q hq).1),fun q hq=>⟨hpf q (h.r7.lt q hq).2 (h.p7 q hq).1,(h.p7 q hq).2⟩,
  ⟨xs,row_keep h1 (fun q hq=>hf.block q (h1.lt q hq).2 (h.p8 q hq).1),LR.mono (fun a cs=>LsR.keep (fun q hq hlt=>hf.block q hlt hq.2.1) (fun q hq hlt=>⟨Nat.lt_of_lt_of_le hlt hf.size,hpf q hlt hq.2.1,hq.2.2⟩) a cs) _ _ h2⟩,
  fun q hq=>⟨hpf q (h1.lt q hq).2 (h.p8 q hq).1,(h.p8 q hq).2⟩,h.ne⟩
/-- One more root. -/
theorem GwC.push7 {v7':Value} {r:Nat} (h:GwC w0 c tb j m v7 v8 roots lists wr) (ho:w'.ownsRow w0.heap.size TI64 1 v7' (roots.length + 1) ((roots.map fun r:Nat=>Value.int .i64 (r:Int)) ++ [.int .i64 (r:Int)])) (hg:wr.grownBy w' v7.ownBlock) (hoo:v7'.ownBlock = v7.ownBlock ∨ v7'.ownBlock = some wr.heap.size):GwC w0 c tb j m v7' v8 (roots ++ [r]) lists w':=by
 obtain ⟨xs,h1,h2⟩:=h.r8
 have hw:∀ q,v7'.ownBlock = some q → v7.ownBlock = some q ∨ wr.heap.size ≤ q:=fun q hq=>hoo.elim (fun e=>.inl (e ▸ hq)) (fun e=>.inr (by rw [e] at hq; injection hq with hq; omega))
 have k3:∀ j,j < wr.heap.size → v7.ownBlock ≠ some j → w'.heap[j]? = wr.heap[j]?:=fun j hj hn=>hg.block j hj (fun e=>hn e.symm)
 refine ⟨h.nl.grown hg (fun q hq=>⟨(h.r7.lt q hq).1,h.p7 q hq⟩),h.nn,h.ok,?_,fun q hq=>?_,⟨xs,row_keep h1 (fun q hq=>k3 q (h1.lt q hq).2 (fun e=>h.ne q e hq)),LR.mono (fun a cs=>LsR.keep (fun q hq hlt=>k3 q hlt hq.2.2.1) (fun q hq hlt=>⟨Nat.lt_of_lt_of_le hlt hg.size,hq.2.1,fun e=>(hw q e).elim hq.2.2.1 (fun h=>by omega),hq.2.2.2⟩) a cs) _ _ h2⟩,h.p8,fun q hq e=>?_⟩
 ·rw [List.length_append,List.length_singleton,List.map_append,List.map_cons,List.map_nil]
  exact ho
 ·rcases hw q hq with q1 | q1
  ·exact h.p7 q q1
  ·refine ⟨fun hp=>?_,fun e=>?_⟩
   ·have:=PF.lt h.nl.pg hp; omega
   ·have:=h.nl.tr.lt; omega
 ·rcases hw q hq with q1 | q1
  ·exact h.ne q q1 e
  ·have:=(h1.lt q e).2; omega
/-- One more list. -/
theorem GwC.push8 {v8' lv:Value} {l:List It} {xs:List Value} (h:GwC w0 c tb j m v7 v8 roots lists wr) (hx:wr.ownsRow w0.heap.size TIts 1 v8 lists.length xs ∧ LR (LsR wr (NF c m v7 v8 wr)) lists xs) (hl:SLk 2 ItR wr (NF c m v7 v8 wr) lv l) (hk:l.length ≤ 200 * j ∧ ∀ x ∈ l,itOk x) (ho:w'.ownsRow w0.heap.size TIts 1 v8' (lists.length + 1) (xs ++ [lv])) (hg:wr.grownBy w' v8.ownBlock) (hoo:v8'.ownBlock = v8.ownBlock ∨ v8'.ownBlock = some wr.heap.size):GwC w0 c tb j m v7 v8' roots (lists ++ [l]) w':=by
 obtain ⟨h1,h2⟩:=hx
 have hw:∀ q,v8'.ownBlock = some q → v8.ownBlock = some q ∨ wr.heap.size ≤ q:=fun q hq=>hoo.elim (fun e=>.inl (e ▸ hq)) (fun e=>.inr (by rw [e] at hq; injection hq with hq; omega))
 have k3:∀ j,j < wr.heap.size → v8.ownBlock ≠ some j → w'.heap[j]? = wr.heap[j]?:=fun j hj hn=>hg.block j hj (fun e=>hn e.symm)
 have hNF:∀ q,NF c m v7 v8 wr q → q < wr.heap.size → NF c m v7 v8' w' q:=fun q hq hlt=>⟨Nat.lt_of_lt_of_le hlt hg.size,hq.2.1,hq.2.2.1,fun e=>(hw q e).elim hq.2.2.2 (fun h=>by omega)⟩
 refine ⟨h.nl.grown hg (fun q hq=>⟨(h1.lt q hq).1,h.p8 q hq⟩),h.nn,fun a ha=>?_,row_keep h.r7 (fun q hq=>k3 q (h.r7.lt q hq).2 (h.ne q hq)),h.p7,⟨xs ++ [lv],by rw [List.length_append,List.length_singleton]; exact ho,LR.app (LR.one ⟨lv,rfl,hl.keep (by omega) @ItR.keep (fun q hq hlt=>k3 q hlt hq.2.2.2) hNF⟩) _ _ (LR.mono (fun a cs=>LsR.keep (fun q hq hlt=>k3 q hlt hq.2.2.2) hNF a cs) _ _ h2)⟩,fun q hq=>?_,fun q hq e=>?_⟩
 ·rcases List.mem_append.1 ha with ha | ha
  ·exact h.ok a ha
  ·rw [List.mem_singleton.1 ha]; exact hk
 ·rcases hw q hq with q1 | q1
  ·exact h.p8 q q1
  ·refine ⟨fun hp=>?_,fun e=>?_⟩
   ·have:=PF.lt h.nl.pg hp; omega
   ·have:=h.nl.tr.lt; omega
 ·rcases hw q e with q1 | q1
  ·exact h.ne q hq q1
  ·have:=(h.r7.lt q hq).2; omega
end
end Go.Proofs.Ytkolacaceaamoaa
/- The law's grown: a Put. -/
namespace Go.Proofs.Ytkolacaceaamoaa
open Go.RowKit
open Go.Lib (compareBytes)
section
variable {w0 wr w':World} {c:Pct} {tb j:Nat} {m m':Pst} {v7 v8:Value} {roots:List Nat} {lists:List (List It)}
theorem GwC.up (h:GwC w0 c tb j m v7 v8 roots lists wr):GwC w0 c tb (j + 1) m v7 v8 roots lists wr:=
 { h with nn:=by have:=h.nn; omega,ok:=fun l hl=>⟨by have:=(h.ok l hl).1; omega,(h.ok l hl).2⟩ }
theorem GwT.up (h:GwT c j m roots lists):GwT c (j + 1) m roots lists:=⟨h.1,fun i h3 h4=>(h.2 i h3 h4).up (by omega)⟩
theorem done_ok {l put:List It} {gone:List Cn} (h:∀ x ∈ l,itOk x) (hf:fitsP put gone):∀ x ∈ doneL l put gone,itOk x:=by
 have hd:∀ (g:List Cn) (l:List It),(∀ x ∈ l,itOk x) → ∀ x ∈ g.foldl delS l,itOk x:=fun g=>by
  induction g with
  | nil=>exact fun l h=>h
  | cons a r ih=>exact fun l h=>ih (delS l a) fun x hx=>h x (delS_mem hx)
 have hp:∀ (p:List It),(∀ x ∈ p,itOk x) → ∀ l:List It,(∀ x ∈ l,itOk x) → ∀ x ∈ p.foldl putS l,itOk x:=fun p=>by
  induction p with
  | nil=>exact fun _ l h=>h
  | cons a r ih=>exact fun hp l h=>ih (fun x hx=>hp x (List.mem_cons_of_mem _ hx)) (putS l a) fun x hx=>(putS_mem hx).elim (h x) (fun e=>e ▸ hp a List.mem_cons_self)
 refine hp put (fun x hx=>?_) _ (hd gone l h)
 have h2:=hf.2.1 x.k (by unfold keysOf; exact List.mem_append_left _ (List.mem_map_of_mem (f:=It.k) hx))
 exact ⟨h2.1,h2.2,hf.1 x hx⟩
theorem done_len (l put:List It) (gone:List Cn):(doneL l put gone).length ≤ l.length + put.length:=by
 have hp:∀ (p l:List It),(p.foldl putS l).length ≤ l.length + p.length:=fun p=>by
  induction p with
  | nil=>exact fun l=>Nat.le_refl _
  | cons a r ih=>exact fun l=>Nat.le_trans (ih _) (by have:=putS_le l a; rw [List.length_cons]; omega)
 exact Nat.le_trans (hp _ _) (by have:=dels_le gone l; omega)
theorem grown_put {k:Nat} {put:List It} {gone:List Cn} {vp vg:Value} {F:Nat → Prop} (hC:GwC w0 c tb j m v7 v8 roots lists wr) (hT:GwT c j m roots lists) (hk:k < roots.length) (hk2:k < lists.length) (hj:j ≤ 30)
  (h1:SLk 2 ItR wr F vp put) (h2:SLk 1 BsR wr F vg gone) (hlen:put.length + gone.length ≤ 200) (hpl:∀ x ∈ put,x.k.length ≤ 1073741824 ∧ x.v.length ≤ 1073741824) (hgl:∀ k ∈ gone,k.length ≤ 1073741824) :
  Calls Try.prog 16 #[.pointer (some ⟨tb,0,none⟩),.int .i64 (roots[k]:Int),vp,vg] wr fun e w'=>∃ (r:Nat) (ev:Int) (m':Pst),e = .returned (.tuple #[.int .i64 (r:Int),.int .i64 ev]) ∧ GwC w0 c tb (j + 1) m' v7 v8 roots lists w' ∧ GwT c (j + 1) m' roots lists ∧ Fr (PF m.F c.pb c.sb) wr w' ∧
   ((fitsP put gone ∧ (ev = 16 ∨ (ev = 0 ∧ TreH c m' r (doneL lists[k] put gone) (j + 1 + 1) 25))) ∨ (¬ fitsP put gone ∧ ev = 1 ∧ r = 0)):=by
 have ht:=hT.2 k hk hk2
 have h:=tput_many hC.nl.pg hC.nl.tr hC.nl.nt h1 h2 hlen hpl hgl (by have:=hC.nn; omega) ht (by omega)
 refine Calls.mono h ?_
 rintro e w' ⟨l,hl,hs,⟨hok,m',T,hp,hf,hn',hg,hN',⟨r,he,hr⟩ | he⟩ | ⟨hok,he,hb⟩⟩
 ·have hfit:=(fits_ok hl hs).1 hok
  exact ⟨r,0,m',he,hC.put hp hf hn' hN',hT.keep hg,hf,.inl ⟨hfit,.inr ⟨rfl,by rw [done_merge ht.1 hfit hl hok.rise]; exact hr⟩⟩⟩
 ·exact ⟨0,16,m',he,hC.put hp hf hn' hN',hT.keep hg,hf,.inl ⟨(fits_ok hl hs).1 hok,.inl rfl⟩⟩
 ·exact ⟨0,1,m,he,(hC.below hb).up,hT.up,Fr.of_below hb,.inr ⟨fun hf=>hok ((fits_ok hl hs).2 hf),rfl,rfl⟩⟩
end
end Go.Proofs.Ytkolacaceaamoaa
/- The law's steps: a row of them, read. -/
namespace Go.Proofs.Ytkolacaceaamoaa
open Go.RowKit
open Go.Lib (compareBytes)
structure Stp where
 K:Int
 put:List It
 gone:List Cn
def StR (w:World) (F:Nat → Prop) (s:Stp) (cs:List Value):Prop:=∃ vp vg,cs = [.int .i64 s.K,vp,vg] ∧ SLk 2 ItR w F vp s.put ∧ SLk 1 BsR w F vg s.gone
theorem stR_len {w:World} {F:Nat → Prop}:∀ (a:Stp) (cs:List Value),StR w F a cs → cs.length = 3:=fun a cs ⟨_,_,e,_⟩=>by rw [e]; rfl
theorem SLk.at_st {w:World} {F:Nat → Prop} {A:Option Addr} {n c:Nat} {is:List Stp} (h:SLk 3 StR w F (.slice A n c) is) {j:Nat} (hj:j < is.length) :
  ∃ b o Ap np cp Ag ng cg,A = some ⟨b,o,none⟩ ∧ b < w.heap.size ∧ F b ∧ w.cell? ⟨b,o + j * 3,none⟩ = some (.int .i64 is[j].K) ∧ w.cell? ⟨b,o + j * 3 + 1,none⟩ = some (.slice Ap np cp) ∧ w.cell? ⟨b,o + j * 3 + 2,none⟩ = some (.slice Ag ng cg) ∧ SLk 2 ItR w F (.slice Ap np cp) is[j].put ∧ SLk 1 BsR w F (.slice Ag ng cg) is[j].gone:=by
 obtain ⟨A',c',xs,e,hc,hr,hl⟩:=h
 injection e with e1 e2 e3
 subst e1 e2 e3
 obtain ⟨ad,rfl,hb,hcell⟩:=hr.2 (by omega)
 obtain ⟨cs,hit,hcs⟩:=LR.at_ (k:=3) (stR_len (w:=w) (F:=F)) is xs hl j hj
 obtain ⟨a0,a1,rfl,hk,hv⟩:=hit
 have q0:=hcell (j * 3 + 0) _ (hcs 0 (by omega))
 have q1:=hcell (j * 3 + 1) _ (hcs 1 (by omega))
 have q2:=hcell (j * 3 + 2) _ (hcs 2 (by omega))
 have hlt:=cell_in q0
 rw [block_of_add] at hlt
 have hs:ad.spot = none:=by
  have hz:ad.add 0 = ad:=by unfold Addr.add; rw [if_pos rfl]
  obtain ⟨cs',hit',hcs'⟩:=LR.at_ (k:=3) (stR_len (w:=w) (F:=F)) is xs hl 0 (by omega)
  obtain ⟨b0,b1,rfl,_,_⟩:=hit'
  have q3:=spot_none (hcell (0 * 3 + 0) _ (hcs' 0 (by omega)))
  rw [show 0 * 3 + 0 = 0 from rfl,hz] at q3
  exact q3
 obtain ⟨b,o,sp⟩:=ad
 cases hs
 have hadd:∀ j,(⟨b,o,none⟩:Addr).add j = ⟨b,o + j,none⟩:=fun j=>(add_plain ⟨b,o,none⟩ j rfl).symm
 obtain ⟨A0,c0,xs0,rfl,hc0⟩:=id hk
 obtain ⟨A1,c1,xs1,rfl,hc1⟩:=id hv
 rw [hadd] at q0 q1 q2
 exact ⟨b,o,A0,_,c0,A1,_,c1,rfl,hlt,hb,by simpa using q0,by rw [Nat.add_assoc]; exact q1,by rw [Nat.add_assoc]; exact q2,hk,hv⟩
end Go.Proofs.Ytkolacaceaamoaa
/- The law's grown: its two rows, read. -/
namespace Go.Proofs.Ytkolacaceaamoaa
open Go.RowKit
open Go.Lib (compareBytes)
section
variable {w0 wr w':World} {c:Pct} {tb j:Nat} {m m':Pst} {v7 v8:Value} {roots:List Nat} {lists:List (List It)}
theorem own_form2 {w:World} {base n k:Nat} {T:TypeId} {v:Value} {xs:List Value} (h:w.ownsRow base T k v n xs) (h0:0 < n):∃ g cap,v = .slice (some ⟨g,0,none⟩) n cap ∧ n ≤ cap ∧ cap ≤ maxLen ∧ g < w.heap.size:=by
 rcases h.2 with ⟨e,hz⟩ | ⟨g,cap,cur,e,hb,hh,hc,hm,_⟩
 ·omega
 ·exact ⟨g,cap,e,hc,hm,(h.lt g (by rw [e]; rfl)).2⟩
theorem GwC.at7 (h:GwC w0 c tb j m v7 v8 roots lists wr) {i:Nat} (hi:i < roots.length):∃ g cap,v7 = .slice (some ⟨g,0,none⟩) roots.length cap ∧ roots.length ≤ cap ∧ cap ≤ maxLen ∧ g < wr.heap.size ∧ wr.cell? ⟨g,i,none⟩ = some (.int .i64 (roots[i]:Int)):=by
 obtain ⟨g,cap,e,h1,h2,h3⟩:=own_form2 h.r7 (by omega)
 have hr:=h.r7
 rw [e] at hr
 refine ⟨g,cap,e,h1,h2,h3,?_⟩
 rw [hr.cellAt _ (by omega),List.getElem?_map,List.getElem?_eq_getElem hi]
 rfl
theorem lsR_len {w:World} {F:Nat → Prop}:∀ (a:List It) (cs:List Value),LsR w F a cs → cs.length = 1:=fun a cs ⟨_,e,_⟩=>by rw [e]; rfl
theorem GwC.at8 (h:GwC w0 c tb j m v7 v8 roots lists wr) {i:Nat} (hi:i < lists.length):∃ g cap A n cc,v8 = .slice (some ⟨g,0,none⟩) lists.length cap ∧ lists.length ≤ cap ∧ cap ≤ maxLen ∧ g < wr.heap.size ∧ wr.cell? ⟨g,i,none⟩ = some (.slice A n cc) ∧ SLk 2 ItR wr (NF c m v7 v8 wr) (.slice A n cc) lists[i]:=by
 obtain ⟨xs,hx,hl⟩:=h.r8
 obtain ⟨g,cap,e,h1,h2,h3⟩:=own_form2 hx (by omega)
 obtain ⟨cs,⟨v,ev,hs⟩,hcs⟩:=LR.at_ (k:=1) (lsR_len (w:=wr)) lists xs hl i hi
 obtain ⟨A,cc,ys,e2,_⟩:=id hs
 subst e2
 refine ⟨g,cap,A,_,cc,e,h1,h2,h3,?_,hs⟩
 rw [e] at hx
 have hc:=hcs 0 (by omega)
 subst ev
 rw [hx.cellAt _ (by omega)]
 simpa using hc
end
end Go.Proofs.Ytkolacaceaamoaa
/- The law TreePuts, behind grown: each tree has what it should. -/
namespace Go.Proofs.Ytkolacaceaamoaa
open Go.RowKit
open Go.Lib (compareBytes)
theorem GwC.got {w0 wr w':World} {c:Pct} {tb j:Nat} {m:Pst} {v7 v8:Value} {roots:List Nat} {lists:List (List It)} (h:GwC w0 c tb j m v7 v8 roots lists wr) (hp:PgS w' c m) (hf:Fr (PF m.F c.pb c.sb) wr w'):GwC w0 c tb j m v7 v8 roots lists w':=by
 obtain ⟨xs,h1,h2⟩:=h.r8
 exact { h with
  nl:=h.nl.got hp hf
  r7:=row_keep h.r7 (fun q hq=>hf.block q (h.r7.lt q hq).2 (h.p7 q hq).1)
  r8:=⟨xs,row_keep h1 (fun q hq=>hf.block q (h1.lt q hq).2 (h.p8 q hq).1),LR.mono (fun a cs=>LsR.keep (fun q hq hlt=>hf.block q hlt hq.2.1) (fun q hq hlt=>⟨Nat.lt_of_lt_of_le hlt hf.size,hq.2⟩) a cs) _ _ h2⟩ }
def GrownR (w0:World) (c:Pct) (tb:Nat) (e:Ending) (w':World):Prop:=∃ j m v7 v8 roots lists,j ≤ 30 ∧ e = .returned (.tuple #[v7,v8,.bool true]) ∧ GwC w0 c tb j m v7 v8 roots lists w' ∧ GwT c j m roots lists ∧ 1 ≤ roots.length ∧ roots.length ≤ 31
set_option maxRecDepth 100000 in
set_option maxHeartbeats 8000000 in
theorem puts_of {w:World} {vs:Value} (HG:∀ (w1:World) (tb:Nat) (c:Pct) (m:Pst),NlS w c tb m w1 → m.N = 0 → Calls Try.prog 9 #[.pointer (some ⟨tb,0,none⟩),vs] w1 fun e w'=>GrownR w c tb e w') :
  Calls Try.prog 3 #[vs] w fun e w'=>e = .returned (.bool true) ∧ Below w.heap.size w w':=by
 have HG:=hide HG
 have hfr:=fresh_any w 3000 (by omega) (by omega)
 rw [show ((3000:Nat):Int) = 3000 from rfl] at hfr
 have HFR:=hide hfr
 clear hfr
 go_enter Try.func3,Try.ntmps3
 go_upto_region 2 with (go_at_call 7; (refine HFR.out.mono ?_); rintro e w1 ⟨tb,c,m,rfl,hf⟩; have HF1:=hide hf; clear hf)
 have HAN:=hide (answers17 w1)
 go_upto_region 4 with (go_at_call 8; (refine HAN.out.mono ?_); rintro e w2 ⟨rfl,hb⟩; have HB2:=hide hb; clear hb)
 have HG2:=hide (HG.out w2 tb c m (HF1.out.nls.below HB2.out) HF1.out.n0)
 go_upto_region 5 with (go_at_call 9; (refine HG2.out.mono ?_); rintro e w3 ⟨j,m3,v7,v8,roots,lists,hj,rfl,hc,ht,hr1,hr2⟩; have HC0:=hide hc; have HT:=hide ht; clear hc ht)
 clear HG HG2
 obtain ⟨g7,cap7,e7,h71,h72,-⟩:=HC0.out.at7 (i:=0) (by omega)
 obtain ⟨g8,cap8,A8,n8,cc8,e8,h81,h82,-⟩:=HC0.out.at8 (i:=0) (by have:=HT.out.1; omega)
 obtain ⟨nr,hnr⟩:∃ q,roots.length = q:=⟨_,rfl⟩
 have hnl:lists.length = nr:=by rw [← HT.out.1]; exact hnr
 rw [hnr] at e7 h71 hr1 hr2
 rw [hnl] at e8 h81
 subst e7 e8
 have HNR:=hide hnr
 have HNL:=hide hnl
 clear hnr hnl
 unfold maxLen at h72 h82
 go_wp2_with fail
 go_loopw [8,9,10] (fun v8' _ _ wr=>∃ i:Nat,v8' = .int .i64 (i:Int) ∧ i ≤ nr ∧ Hid (GwC w c tb j m3 (.slice (some ⟨g7,0,none⟩) nr cap7) (.slice (some ⟨g8,0,none⟩) nr cap8) roots lists wr)) (fun v8' _ _ _=>nr - (intOf v8').toNat)
 case atStart=>exact ⟨0,by go_num,by omega,HC0⟩
 case round=>
  clear HC0
  obtain ⟨i,rfl,hi,HC⟩:=hrel
  by_cases hlt:i < nr
  ·obtain ⟨g,cap,e,-,-,z7,k7⟩:=HC.out.at7 (i:=i) (by rw [HNR.out]; exact hlt)
   have hgg:g = g7:=by
    injection e with e _ _
    injection e with e
    injection e with e
    exact e.symm
   rw [hgg] at z7 k7
   clear e hgg
   have hil:i < lists.length:=by rw [HNL.out]; exact hlt
   obtain ⟨g,cap,A,n,cc,e,-,-,z8,k8,hs⟩:=HC.out.at8 hil
   have hgg:g = g8:=by
    injection e with e _ _
    injection e with e
    injection e with e
    exact e.symm
   rw [hgg] at z8 k8
   clear e hgg
   have hir:i < roots.length:=by rw [HNR.out]; exact hlt
   have htt:=(HT.out.2 i hir hil).sc (by omega)
   have hok:=HC.out.ok lists[i] (List.getElem_mem hil)
   obtain ⟨r,hre⟩:∃ r,roots[i] = r:=⟨_,rfl⟩
   obtain ⟨l,hle⟩:∃ l,lists[i] = l:=⟨_,rfl⟩
   rw [hre] at k7 htt
   rw [hle] at hs htt hok
   have hl6:l.length ≤ 6000:=by omega
   have hsc:=tscan_ok (te:=[]) (fr:=[]) (most:=100000) HC.out.nl.pg HC.out.nl.tr HC.out.nl.nt (bs_nilv _ _) (bs_nilv _ _) (by omega) htt (by omega)
   rw [goL_all l [] (by simp; omega)] at hsc
   have HSC:=hide hsc
   have HS:=hide hs
   have HL6:=hide hl6
   have hn:l.length = n:=by
    obtain ⟨_,_,_,e,-⟩:=id hs
    injection e with _ e2 _
    exact e2.symm
   have HN:=hide hn
   have HLE:=hide (show ∃ h:i < lists.length,lists[i] = l from ⟨hil,hle⟩)
   have hn6:n ≤ 6000:=by omega
   clear htt hok hre hle hsc hs hl6 hn hil hir
   go_upto_region 11 with (go_at_call 10; (refine HSC.out.mono ?_); rintro e w4 ⟨B,cd,rfl,hla,hp,hf⟩; have HLA:=hide hla; have HC4:=hide (HC.out.got hp hf); have HF4:=hide hf; clear hla hp hf)
   simp only [List.nil_append,HN.out] at HLA ⊢
   obtain ⟨hil,hle⟩:=HLE.out
   obtain ⟨g,cap,A4,n4,cc4,e,-,-,z8,k8,hs4⟩:=HC4.out.at8 hil
   have hgg:g = g8:=by
    injection e with e _ _
    injection e with e
    injection e with e
    exact e.symm
   rw [hgg] at z8 k8
   clear e hgg
   rw [hle] at hs4
   have h3:=same17 (HLA.out.keep (F':=fun j=>j < w4.heap.size) (by omega) @ItR.keep (fun _ _ _=>rfl) (fun j hj _=>hj.1)) (hs4.keep (F':=fun j=>j < w4.heap.size) (by omega) @ItR.keep (fun _ _ _=>rfl) (fun j hj _=>hj.1)) (by have:=HL6.out; omega) (by have:=HL6.out; omega)
   rw [eqIt_self] at h3
   have HS3:=hide h3
   have hn4:n4 ≤ 6000:=by
    obtain ⟨_,_,_,e,-⟩:=id hs4
    injection e with _ e2 _
    rw [e2]
    exact HL6.out
   clear h3 hs4 hil hle k7 z7
   go_wp2_with (go_at_call 11; (refine HS3.out.mono ?_); rintro e w5 ⟨rfl,N,rfl⟩)
   go_roundw
   case rel=>exact ⟨i + 1,by go_num,by omega,hide (HC4.out.below ⟨rfl,rfl,rfl,Nat.le_refl _,fun _ _=>rfl⟩)⟩
   case measure=>simp [intOf]; omega
  ·obtain rfl:i = nr:=by omega
   go_wp2_with fail
   go_ret
   exact ⟨rfl,HC.out.nl.bel⟩
end Go.Proofs.Ytkolacaceaamoaa
/- The law's grown: how it begins. -/
namespace Go.Proofs.Ytkolacaceaamoaa
open Go.RowKit
open Go.Lib (compareBytes)
theorem row_one {w:World} {base g:Nat} {T:TypeId} {u:Value} (h:Blk w g T #[u]) (hb:base ≤ g):w.ownsRow base T 1 (.slice (some ⟨g,0,none⟩) 1 1) 1 [u]:=
 ⟨rfl,.inr ⟨g,1,#[u],rfl,hb,h,Nat.le_refl _,by unfold maxLen; omega,rfl,rfl⟩⟩
theorem GwC.start {w0 w:World} {c:Pct} {tb:Nat} {m:Pst} (h:NlS w0 c tb m w) (h0:m.N = 0):GwC w0 c tb 0 m (.slice (some ⟨w.heap.size,0,none⟩) 1 1) (.slice (some ⟨w.heap.size + 1,0,none⟩) 1 1) [0] [[]] ((w.alloc (.cells #[.int .i64 0] TI64)).alloc (.cells #[.slice none 0 0] TIts)):=by
 have hb1:=al_below w (.cells #[.int .i64 0] TI64)
 have hb2:=al_below (w.alloc (.cells #[.int .i64 0] TI64)) (.cells #[.slice none 0 0] TIts)
 have hs:(w.alloc (.cells #[.int .i64 0] TI64)).heap.size = w.heap.size + 1:=by simp
 have hl:=h.bel.size
 have e7:Blk ((w.alloc (.cells #[.int .i64 0] TI64)).alloc (.cells #[.slice none 0 0] TIts)) w.heap.size TI64 #[.int .i64 0]:=(Blk.new w TI64 _).below hb2 (by omega)
 have e8:=Blk.new (w.alloc (.cells #[.int .i64 0] TI64)) TIts #[.slice none 0 0]
 rw [hs] at e8
 have hne:∀ q,w.heap.size ≤ q → ¬ PF m.F c.pb c.sb q ∧ q ≠ tb:=fun q hq=>⟨fun hp=>by have:=PF.lt h.pg hp; omega,fun e=>by have:=h.tr.lt; omega⟩
 refine ⟨(h.below hb1).below hb2,by omega,fun l hl=>?_,row_one e7 hl,fun q hq=>?_,⟨_,row_one e8 (by omega),LR.one ⟨_,rfl,SLk.nil _ _⟩⟩,fun q hq=>?_,fun q hq e=>?_⟩
 ·rw [List.mem_singleton.1 hl]
  exact ⟨Nat.zero_le _,fun x hx=>by cases hx⟩
 ·injection hq with hq
  subst hq
  exact hne _ (Nat.le_refl _)
 ·have hq2:w.heap.size + 1 = q:=by injection hq
  subst hq2
  exact hne _ (by omega)
 ·have h1:w.heap.size = q:=by injection hq
  have h2:w.heap.size + 1 = q:=by injection e
  omega
theorem GwT.start {c:Pct} {m:Pst}:GwT c 0 m [0] [[]]:=⟨rfl,fun i h1 h2=>by
 have:i = 0:=by simpa using h1
 subst this
 exact ⟨List.Pairwise.nil,.inl ⟨rfl,rfl⟩⟩⟩
end Go.Proofs.Ytkolacaceaamoaa
