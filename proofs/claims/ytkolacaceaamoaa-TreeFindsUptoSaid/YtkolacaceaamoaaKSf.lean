/- make: what stands in a round of its loop. -/
import Derived.Test.YtkolacaceaamoaaKSd
import Derived.Test.YtkolacaceaamoaaKSe
set_option linter.unusedSimpArgs false
set_option linter.unusedVariables false
namespace Go.Proofs.Ytkolacaceaamoaa
open Go.RowKit
/-- A kid's cells. -/
def KdC (u:Value):Prop:=(∃ A n c,u = .slice A n c) ∨ ∃ x,u = .int .i64 x
theorem KdC.no8 {x:Int} (h:KdC (.int .u8 x)):False:=by
 rcases h with ⟨_,_,_,h⟩ | ⟨_,h⟩ <;> cases h
theorem cell_hp {w w':World} {g:Nat} (h:w'.heap[g]? = w.heap[g]?) (o:Nat):w'.cell? ⟨g,o,none⟩ = w.cell? ⟨g,o,none⟩:=by
 simp [World.cell?,h]
theorem AllC.keep {w w':World} {p:Value → Prop} {v:Value} (h:AllC w p v) (hk:∀ g,v.ownBlock = some g → w'.heap[g]? = w.heap[g]?):AllC w' p v:=fun g hg o u hu=>h g hg o u (by rwa [cell_hp (hk g hg)] at hu)
/-- Bytes lie in no row of kids. -/
theorem BS.notin {w:World} {F:Nat → Prop} {v vo:Value} {l:Cn} (h:BS w F v l) (hl:1 ≤ l.length) (ha:AllC w KdC vo):BS w (fun j=>F j ∧ vo.ownBlock ≠ some j) v l:=by
 obtain ⟨A,c,e,hc,hr⟩:=h
 refine ⟨A,c,e,hc,hr.1,fun hn=>?_⟩
 obtain ⟨ad,e2,hF,hcell⟩:=hr.2 hn
 refine ⟨ad,e2,⟨hF,fun ho=>?_⟩,hcell⟩
 have h0:(cs8 l)[0]? = some (.int .u8 ((l.getD 0 0).toNat:Int)):=by
  unfold cs8 u8v
  cases l with
  | nil=>simp at hl
  | cons x r=>simp
 have hq:=hcell 0 _ h0
 have hz:ad.add 0 = ad:=by unfold Addr.add; rw [if_pos rfl]
 rw [hz] at hq
 have hs:=spot_none hq
 obtain ⟨b,o,sp⟩:=ad
 cases hs
 exact (ha b ho o _ hq).no8
theorem LR.mono_mem {α:Type} {R S:α → List Value → Prop}:∀ (l:List α) (xs:List Value),(∀ a ∈ l,∀ cs,R a cs → S a cs) → LR R l xs → LR S l xs
 | [],xs,_,h=>h
 | a :: l,xs,hm,⟨cs,rest,e,h1,h2⟩=>⟨cs,rest,e,hm a List.mem_cons_self cs h1,LR.mono_mem l rest (fun b hb=>hm b (List.mem_cons_of_mem _ hb)) h2⟩
def KF (wr:World) (c:Pct) (mb:Nat) (vt:Value) (m:Pst) (v:Value) (j:Nat):Prop:=Sf wr c mb vt m j ∧ v.ownBlock ≠ some j
/-- The list that make builds: its own row lies safe, beside all that is in it. -/
structure Lst (B0:Nat) (wr:World) (c:Pct) (mb:Nat) (vt:Value) (m:Pst) (v:Value) (l:List Kd):Prop where
 row:∃ xs,wr.ownsRow B0 TKd 2 v l.length xs ∧ LR (KdR wr (KF wr c mb vt m v)) l xs
 all:AllC wr KdC v
 sf:∀ g,v.ownBlock = some g → Sf wr c mb vt m g
section
variable {B0:Nat} {w wr w':World} {c:Pct} {mb:Nat} {vt vt':Value} {m m':Pst} {v v':Value} {l:List Kd}
theorem Lst.nil:Lst B0 wr c mb vt m (.slice none 0 0) []:=⟨⟨[],World.ownsRow_nil _ _ _ _,rfl⟩,fun g hg=>(by cases hg),fun g hg=>(by cases hg)⟩
theorem Lst.off (h:Lst B0 wr c mb vt m v l) {fb:Nat} (hm:∀ o u,wr.cell? ⟨fb,o,none⟩ ≠ some u) (hfb:v.ownBlock ≠ some fb) (hk:∀ j,Sf wr c mb vt m j → j ≠ fb → w'.heap[j]? = wr.heap[j]?) (hF:∀ j,Sf wr c mb vt m j → Sf w' c mb vt' m' j):Lst B0 w' c mb vt' m' v l:=by
 obtain ⟨xs,h1,h2⟩:=h.row
 have hg:∀ g,v.ownBlock = some g → w'.heap[g]? = wr.heap[g]?:=fun g hg=>hk g (h.sf g hg) (fun e=>hfb (e ▸ hg))
 exact ⟨⟨xs,row_keep h1 hg,LR.mono (fun a cs=>KdR.off hm (fun j hj hn _=>hk j hj.1 hn) (fun j hj hn _=>⟨hF j hj.1,hj.2⟩) a cs) _ _ h2⟩,h.all.keep hg,fun g hg=>hF g (h.sf g hg)⟩
theorem Lst.slk (h:Lst B0 wr c mb vt m v l):SLk 2 KdR wr (Sf wr c mb vt m) v l:=by
 obtain ⟨xs,h1,h2⟩:=h.row
 have h3:=LR.mono (fun a cs=>KdR.keep (F':=Sf wr c mb vt m) (fun _ _ _=>rfl) (fun j hj _=>hj.1) a cs) _ _ h2
 rcases h1.2 with ⟨e,hz⟩ | ⟨b,cap,cur,e,hb,hh,hc,hm,_⟩
 ·have hl:l = []:=List.eq_nil_of_length_eq_zero hz
  subst hl
  rw [e]
  exact SLk.nil _ _
 ·refine ⟨some ⟨b,0,none⟩,cap,xs,e,⟨hc,hm⟩,⟨h1.1,fun hz=>?_⟩,h3⟩
  obtain ⟨ad,e2,_,hcell⟩:=(Reads.of_own (by rw [e] at h1; exact h1)).2 hz
  injection e2 with e2
  subst e2
  exact ⟨_,rfl,h.sf b (by rw [e]; rfl),hcell⟩
end
/-- What stands beside the list in a round: the node, its kids, the changes that are left. -/
structure MR (B0:Nat) (wr:World) (c:Pct) (mb:Nat) (vt:Value) (m:Pst) (v:Value) (l:List Kd) (g:Nat) (vi vk:Value) (ks:List Kd) (vd:Value) (t:List Ch):Prop where
 lst:Lst B0 wr c mb vt m v l
 nb:Blk wr g TNd #[vi,vk]
 ng:KF wr c mb vt m v g
 kd:SLk 2 KdR wr (KF wr c mb vt m v) vk ks
 td:SLk 3 ChR wr (KF wr c mb vt m v) vd t
section
variable {B0:Nat} {w wr w' w2 w3:World} {c:Pct} {B mb tb:Nat} {took:List Nat} {vt vt':Value} {m m':Pst} {v v':Value} {l l2:List Kd} {g:Nat} {vi vk vd:Value} {ks:List Kd} {t:List Ch}
theorem MR.off (h:MR B0 wr c mb vt m v l g vi vk ks vd t) {fb:Nat} (hm:∀ o u,wr.cell? ⟨fb,o,none⟩ ≠ some u) (hfb:v.ownBlock ≠ some fb) (hg:g ≠ fb) (hk:∀ j,Sf wr c mb vt m j → j ≠ fb → w'.heap[j]? = wr.heap[j]?) (hF:∀ j,Sf wr c mb vt m j → Sf w' c mb vt' m' j):MR B0 w' c mb vt' m' v l g vi vk ks vd t:=
 ⟨h.lst.off hm hfb hk hF,(hk g h.ng.1 hg).trans h.nb,⟨hF g h.ng.1,h.ng.2⟩,
  h.kd.off (by omega) KdR.off hm (fun j hj hn _=>hk j hj.1 hn) (fun j hj hn _=>⟨hF j hj.1,hj.2⟩),
  h.td.off (by omega) ChR.off hm (fun j hj hn _=>hk j hj.1 hn) (fun j hj hn _=>⟨hF j hj.1,hj.2⟩)⟩
theorem MR.map_ne {fb n:Nat} (h:MR B0 wr c mb vt m v l g vi vk ks vd t) (hm:MapB wr fb n):v.ownBlock ≠ some fb ∧ g ≠ fb:=by
 obtain ⟨xs,h1,_⟩:=h.lst.row
 exact ⟨hm.ne_row h1,fun e=>hm.ne h.nb e.symm⟩
theorem MR.step {fb n:Nat} (h:MR B0 wr c mb vt m v l g vi vk ks vd t) (hm:MapB wr fb n) (hs:MkS wr c mb vt m w' vt' m'):MR B0 w' c mb vt' m' v l g vi vk ks vd t:=
 h.off (fun o u=>hm.no) (h.map_ne hm).1 (h.map_ne hm).2 (fun j hj _=>hs.heap hj) (fun j hj=>hs.sf hj)
theorem MR.mapped {fb n:Nat} (h:MR B0 wr c mb vt m v l g vi vk ks vd t) (hm:MapB wr fb n) (hg:wr.grownBy w' (some fb)):MR B0 w' c mb vt m v l g vi vk ks vd t:=
 h.off (fun o u=>hm.no) (h.map_ne hm).1 (h.map_ne hm).2 (fun j hj hn=>hg.block j hj.1 (fun e=>hn (by injection e))) (fun j hj=>⟨Nat.lt_of_lt_of_le hj.1 hg.size,hj.2⟩)
/-- The changes that are left are cut. -/
theorem MR.cut {vd':Value} {t':List Ch} (h:MR B0 wr c mb vt m v l g vi vk ks vd t) (ht:SLk 3 ChR wr (KF wr c mb vt m v) vd' t'):MR B0 wr c mb vt m v l g vi vk ks vd' t':={ h with td:=ht }
/-- The list grows. -/
theorem MR.push (h:MR B0 wr c mb vt m v l g vi vk ks vd t) (hM:MkW wr c B mb tb took vt m) (hb:Below wr.heap.size wr w2) {xs ys:List Value} (hx:wr.ownsRow B0 TKd 2 v l.length xs ∧ LR (KdR wr (KF wr c mb vt m v)) l xs)
  (hy:LR (KdR w2 (Sf w2 c mb vt m)) l2 ys) (hok:∀ x ∈ l2,kdOk x) (ho:w3.ownsRow B0 TKd 2 v' (l.length + l2.length) (xs ++ ys)) (hg:w2.grownBy w3 v.ownBlock) (hoo:v'.ownBlock = v.ownBlock ∨ v'.ownBlock = some w2.heap.size) (hall:AllC w3 KdC v') :
  MR B0 w3 c mb vt m v' (l ++ l2) g vi vk ks vd t:=by
 have hown:∀ k,v.ownBlock = some k → k < wr.heap.size:=fun k hk=>(hx.1.lt k hk).2
 have k2:∀ j,j < wr.heap.size → v.ownBlock ≠ some j → w3.heap[j]? = wr.heap[j]?:=fun j hj hn=>(hg.block j (Nat.lt_of_lt_of_le hj hb.size) (fun e=>hn e.symm)).trans (hb.block j hj)
 have hsz:wr.heap.size ≤ w3.heap.size:=Nat.le_trans hb.size hg.size
 have hF:∀ j,KF wr c mb vt m v j → KF w3 c mb vt m v' j:=fun j hj=>⟨⟨Nat.lt_of_lt_of_le hj.1.1 hsz,hj.1.2⟩,fun e=>by
  rcases hoo with q | q
  ·exact hj.2 (q ▸ e)
  ·rw [q] at e
   injection e with e
   have:=hj.1.1
   have:=hb.size
   omega⟩
 have hF2:∀ j,Sf w2 c mb vt m j → v.ownBlock ≠ some j → KF w3 c mb vt m v' j:=fun j hj hn=>⟨⟨Nat.lt_of_lt_of_le hj.1 hg.size,hj.2⟩,fun e=>by
  rcases hoo with q | q
  ·exact hn (q ▸ e)
  ·rw [q] at e
   injection e with e
   have:=hj.1
   omega⟩
 have hall2:AllC w2 KdC v:=h.lst.all.keep (fun k hk=>hb.block k (hown k hk))
 have ly:LR (KdR w3 (KF w3 c mb vt m v')) l2 ys:=LR.mono_mem _ _ (fun a ha cs ⟨x,e,hbs⟩=>
  ⟨x,e,(hbs.notin (hok a ha).1 hall2).keep (fun j hj hlt=>hg.block j hlt (fun e=>hj.2 e.symm)) (fun j hj _=>hF2 j hj.1 hj.2)⟩) hy
 have lx:LR (KdR w3 (KF w3 c mb vt m v')) l xs:=LR.mono (fun a cs=>KdR.keep (fun j hj hlt=>k2 j hlt hj.2) (fun j hj _=>hF j hj) a cs) _ _ hx.2
 refine ⟨⟨⟨xs ++ ys,by rw [List.length_append]; exact ho,LR.app ly _ _ lx⟩,hall,fun k hk=>?_⟩,(k2 g h.ng.1.1 h.ng.2).trans h.nb,hF g h.ng,h.kd.keep (by omega) @KdR.keep (fun j hj hlt=>k2 j hlt hj.2) (fun j hj _=>hF j hj),h.td.keep (by omega) @ChR.keep (fun j hj hlt=>k2 j hlt hj.2) (fun j hj _=>hF j hj)⟩
 refine ⟨(ho.lt k hk).2,?_⟩
 rcases hoo with q | q
 ·exact (h.lst.sf k (q ▸ hk)).2
 ·rw [q] at hk
  injection hk with hk
  intro hm
  have:=hM.lt hm
  have:=hb.size
  omega
end
/-- The maker's memory, whatever row of one's own turns. -/
theorem MkW.rowed {w w2 w3:World} {c:Pct} {B mb tb:Nat} {took:List Nat} {vt:Value} {m:Pst} {B0:Nat} {v:Value} {l:List Kd} (h:MkW w c B mb tb took vt m) (hl:Lst B0 w c mb vt m v l) (hb:Below w.heap.size w w2) (hg:w2.grownBy w3 v.ownBlock):MkW w3 c B mb tb took vt m:=by
 have h2:=h.below hb
 obtain ⟨xs,h1,_⟩:=hl.row
 refine MkW.grown h hb hg (fun g hg'=>⟨(hl.sf g hg').2,fun e=>?_⟩)
 subst e
 exact own_blk_ne h1 h.tr (by decide) hg'
end Go.Proofs.Ytkolacaceaamoaa
/- make: a round's state, and the next (plain). -/
namespace Go.Proofs.Ytkolacaceaamoaa
open Go.RowKit
open Go.Lib (compareBytes)
def keyAt (kis:List KI) (i:Nat):Cn:=((kis.map Prod.fst).getD i ⟨[],0⟩).k
theorem keyAt_eq {kis:List KI} {i:Nat} (hi:i < kis.length):keyAt kis i = kis[i].1.k:=by
 unfold keyAt
 simp [List.getD,hi]
section
variable {ks:List KI}
theorem kids_in (hr:RiseI (ks.flatMap Prod.snd)) (hh:∀ x ∈ ks,∃ i r,x.2 = i :: r ∧ i.k = x.1.k) {i:Nat} (hi:i < ks.length):∀ x ∈ ks[i].2,0 ≤ compareBytes x.k ks[i].1.k:=fun x hx=>by
 unfold RiseI at hr
 rw [List.pairwise_flatMap] at hr
 obtain ⟨y,r,e,e2⟩:=hh ks[i] (List.getElem_mem hi)
 have h1:=hr.1 ks[i] (List.getElem_mem hi)
 rw [e] at hx h1
 rcases List.mem_cons.1 hx with rfl | hx
 ·rw [e2,cb_zero.2 rfl]; exact Int.le_refl 0
 ·have:=(List.pairwise_cons.1 h1).1 x hx
  rw [e2] at this
  rw [cb_swap]
  omega
theorem kids_out (hr:RiseI (ks.flatMap Prod.snd)) (hh:∀ x ∈ ks,∃ i r,x.2 = i :: r ∧ i.k = x.1.k) {i j:Nat} (hij:i < j) (hj:j < ks.length):∀ x ∈ (ks[i]'(by omega)).2,compareBytes x.k ks[j].1.k < 0:=fun x hx=>by
 unfold RiseI at hr
 rw [List.pairwise_flatMap] at hr
 have h1:=List.pairwise_iff_getElem.1 hr.2 i j (by omega) hj hij
 obtain ⟨y,r,e,e2⟩:=hh ks[j] (List.getElem_mem hj)
 have:=h1 x hx y (by rw [e]; exact List.mem_cons_self)
 rwa [e2] at this
theorem kids_lt (hr:RiseI (ks.flatMap Prod.snd)) (hh:∀ x ∈ ks,∃ i r,x.2 = i :: r ∧ i.k = x.1.k) {i j:Nat} (hij:i < j) (hj:j < ks.length):compareBytes (ks[i]'(by omega)).1.k ks[j].1.k < 0:=by
 obtain ⟨y,r,e,e2⟩:=hh ks[i] (List.getElem_mem (by omega))
 have:=kids_out hr hh hij hj y (by rw [e]; exact List.mem_cons_self)
 rwa [e2] at this
theorem kids_rise (hr:RiseI (ks.flatMap Prod.snd)) {i:Nat} (hi:i < ks.length):RiseI ks[i].2:=by
 unfold RiseI at hr
 rw [List.pairwise_flatMap] at hr
 exact hr.1 ks[i] (List.getElem_mem hi)
theorem take_next {α:Type} {l:List α} {i:Nat} (hi:i < l.length):l.take (i + 1) = l.take i ++ [l[i]]:=List.take_succ_eq_append_getElem hi
theorem kids_merge (hr:RiseI (ks.flatMap Prod.snd)) (hh:∀ x ∈ ks,∃ i r,x.2 = i :: r ∧ i.k = x.1.k) {i s k:Nat} (hi:i < ks.length) {t:List Ch} (h0:i = 0 → s = 0) (hsp:0 < i → i < ks.length → (∀ x ∈ t.take s,compareBytes x.k (keyAt ks i) < 0) ∧ ∀ x ∈ t.drop s,0 ≤ compareBytes x.k (keyAt ks i)) :
  mergeC ((ks.take i).flatMap Prod.snd) (t.take s) ++ mergeC ks[i].2 ((t.drop s).take k) = mergeC ((ks.take (i + 1)).flatMap Prod.snd) (t.take (s + k)):=by
 rw [take_next hi,List.flatMap_append,List.flatMap_cons,List.flatMap_nil,List.append_nil,List.take_add]
 rcases Nat.eq_zero_or_pos i with rfl | hp
 ·rw [h0 rfl]
  simp [mergeC]
 ·obtain ⟨h1,h2⟩:=hsp hp hi
  rw [keyAt_eq hi] at h1 h2
  rw [mergeC_split (key:=ks[i].1.k) _ _ _ _ (fun x hx=>?_) (kids_in hr hh hi) h1 (fun x hx=>h2 x (List.mem_of_mem_take hx))]
  obtain ⟨z,hz,hxz⟩:=List.mem_flatMap.1 hx
  obtain ⟨j,hj,rfl⟩:=List.getElem_of_mem hz
  rw [List.length_take] at hj
  rw [List.getElem_take] at hxz
  exact kids_out hr hh (by omega) hi x hxz
theorem kids_split (hr:RiseI (ks.flatMap Prod.snd)) (hh:∀ x ∈ ks,∃ i r,x.2 = i :: r ∧ i.k = x.1.k) {i s k:Nat} {t:List Ch} (h0:i = 0 → s = 0) (hsp:0 < i → i < ks.length → (∀ x ∈ t.take s,compareBytes x.k (keyAt ks i) < 0) ∧ ∀ x ∈ t.drop s,0 ≤ compareBytes x.k (keyAt ks i))
  (hk:i + 1 < ks.length → (∀ x ∈ (t.drop s).take k,compareBytes x.k (keyAt ks (i + 1)) < 0) ∧ ∀ x ∈ (t.drop s).drop k,0 ≤ compareBytes x.k (keyAt ks (i + 1))) (hi:i + 1 < ks.length) :
  (∀ x ∈ t.take (s + k),compareBytes x.k (keyAt ks (i + 1)) < 0) ∧ ∀ x ∈ t.drop (s + k),0 ≤ compareBytes x.k (keyAt ks (i + 1)):=by
 obtain ⟨k1,k2⟩:=hk hi
 refine ⟨fun x hx=>?_,fun x hx=>k2 x (by rw [List.drop_drop]; exact hx)⟩
 rw [List.take_add] at hx
 rcases List.mem_append.1 hx with hx | hx
 ·rcases Nat.eq_zero_or_pos i with rfl | hp
  ·rw [h0 rfl] at hx
   cases hx
  ·have:=(hsp hp (by omega)).1 x hx
   rw [keyAt_eq (by omega)] at this ⊢
   exact cb_trans this (kids_lt hr hh (Nat.lt_succ_self i) hi)
 ·exact k1 x hx
end
theorem okL.part {t:List Ch} (h:okL t) (s k:Nat):okL ((t.drop s).take k):=
 ⟨fun c hc=>h.1 c (List.mem_of_mem_drop (List.mem_of_mem_take hc)),List.Pairwise.sublist ((List.take_sublist _ _).trans (List.drop_sublist _ _)) h.2⟩
theorem okL.rest {t:List Ch} (h:okL t) (s:Nat):RiseC (t.drop s):=List.Pairwise.sublist (List.drop_sublist _ _) h.2
theorem sumK_one (x:Kd):sumK [x] = szK x:=by simp [sumK]
section
variable (w:World) (c:Pct) (B mb tb fb:Nat) (took:List Nat) (vt0:Value) (m0:Pst) (U:Nat → Prop) (h:Nat) (t:List Ch) (kis:List KI) (g:Nat) (vi:Value) (Ak:Option Addr) (mk ck:Nat) (Hc:Nat)
/-- What stands ahead of a round. -/
structure MSi (T:List Nat) (vt:Value) (m:Pst) (l:List KI) (V:Nat → Prop) (s cnt:Nat) (wr:World) (A2:Option Addr) (n2 c2:Nat) (A:Option Addr) (n cc i:Nat):Prop where
 jm:JM w wr c B mb tb took vt0 m0 T vt m fb
 mr:MR w.heap.size wr c mb vt m (.slice A n cc) (l.map Prod.fst) g vi (.slice Ak mk ck) (kis.map Prod.fst) (.slice A2 n2 c2) (t.drop s)
 mp:MapB wr fb cnt
 jl:JL c m U V T h l
 fl:l.flatMap Prod.snd = mergeC ((kis.take i).flatMap Prod.snd) (t.take s)
 sp:0 < i → i < kis.length → (∀ x ∈ t.take s,compareBytes x.k (keyAt kis i) < 0) ∧ ∀ x ∈ t.drop s,0 ≤ compareBytes x.k (keyAt kis i)
 s0:i = 0 → s = 0
 se:i = kis.length → s = t.length
 sl:s ≤ t.length
 il:i ≤ kis.length
 ll:l.length ≤ 2 * i + s / 2
 l1:l.length ≤ i + s
 su:sumK (l.map Prod.fst) ≤ sumK ((kis.map Prod.fst).take i) + 68 * s
 nn:m.N ≤ m0.N + Hc * s
 cn:cnt ≤ l.length
def MSt (wr:World) (A2:Option Addr) (n2 c2:Nat) (A:Option Addr) (n cc i:Nat):Prop:=∃ T vt m l V s cnt,MSi w c B mb tb fb took vt0 m0 U h t kis g vi Ak mk ck Hc T vt m l V s cnt wr A2 n2 c2 A n cc i
/-- What make's loop leans on. -/
structure ME (dp:Int):Prop where
 je:JE c took m0 U
 k0:kis ≠ []
 k8:kis.length ≤ 84
 kv:∀ x ∈ kis,KidV (m0.C c) c.n U h x ∧ U x.1.p
 kt:∀ x ∈ kis,TrQ (m0.C c) c.n U (h + 1) x.1.p x.2
 hd:∀ x ∈ kis,∃ i r,x.2 = i :: r ∧ i.k = x.1.k
 ri:RiseI (kis.flatMap Prod.snd)
 ok:okL t
 tl:t.length ≤ 1000000
 d0:0 ≤ dp
 nb:m0.N + Hc * t.length + 170 + t.length < 1000000000
 tk:took.length + (h + 2) * 65536 ≤ 3000000
 rc:∀ {wr:World} {took2:List Nat} {vt2:Value} {m2:Pst} {p2:Nat} {is2:List It} {A:Option Addr} {n cc:Nat} {t2:List Ch},MkW wr c B mb tb took2 vt2 m2 → B ≤ wr.heap.size → SLk 3 ChR wr (Sf wr c mb vt2 m2) (.slice A n cc) t2 → okL t2 → 1 ≤ t2.length → t2.length ≤ 1000000 →
  TrQ (m2.C c) c.n U (h + 1) p2 is2 → JE c took2 m2 U → RiseI is2 → took2.length + (h + 1) * 65536 ≤ 3000000 → m2.N + Hc * t2.length < 1000000000 →
  Calls Try.prog 33 #[.pointer (some ⟨mb,0,none⟩),.int .i64 (p2:Int),.slice A n cc,.int .i64 (dp + 1)] wr fun e w'=>MkJ wr c B mb tb took2 vt2 m2 U (mergeC is2 t2) h (Hc * t2.length) (fun _ l=>l.length ≤ 2 + t2.length / 2) e w'
end
section
variable {w:World} {c:Pct} {B mb tb fb:Nat} {took:List Nat} {vt0:Value} {m0:Pst} {U:Nat → Prop} {h:Nat} {t:List Ch} {kis:List KI} {g:Nat} {vi:Value} {Ak:Option Addr} {mk ck:Nat} {Hc:Nat}
variable {T:List Nat} {vt:Value} {m:Pst} {l:List KI} {V:Nat → Prop} {s cnt:Nat} {wr:World} {A2:Option Addr} {n2 c2:Nat} {A:Option Addr} {n cc i:Nat}
theorem MSi.below {w2:World} (hs:MSi w c B mb tb fb took vt0 m0 U h t kis g vi Ak mk ck Hc T vt m l V s cnt wr A2 n2 c2 A n cc i) (hb:Below wr.heap.size wr w2):MSi w c B mb tb fb took vt0 m0 U h t kis g vi Ak mk ck Hc T vt m l V s cnt w2 A2 n2 c2 A n cc i:=
 { hs with jm:=hs.jm.below hb,mr:=hs.mr.step hs.mp (MkS.low hb),mp:=hs.mp.below hb }
theorem MSi.next {dp:Int} (hE:ME c B mb tb took m0 U h t kis Hc dp) (hs:MSi w c B mb tb fb took vt0 m0 U h t kis g vi Ak mk ck Hc T vt m l V s cnt wr A2 n2 c2 A n cc i) (hi:i < kis.length) {T':List Nat} {vt':Value} {m':Pst} {l2:List KI} {V':Nat → Prop} {k cnt':Nat} {w':World} {A2':Option Addr} {n2' c2':Nat} {A':Option Addr} {n' cc':Nat}
  (jm:JM w w' c B mb tb took vt0 m0 T' vt' m' fb) (mr:MR w.heap.size w' c mb vt' m' (.slice A' n' cc') ((l ++ l2).map Prod.fst) g vi (.slice Ak mk ck) (kis.map Prod.fst) (.slice A2' n2' c2') (t.drop (s + k))) (mp:MapB w' fb cnt') (jl:JL c m' U V' T' h (l ++ l2))
  (fl:l2.flatMap Prod.snd = mergeC kis[i].2 ((t.drop s).take k)) (hk:i + 1 < kis.length → (∀ x ∈ (t.drop s).take k,compareBytes x.k (keyAt kis (i + 1)) < 0) ∧ ∀ x ∈ (t.drop s).drop k,0 ≤ compareBytes x.k (keyAt kis (i + 1))) (hke:i + 1 = kis.length → s + k = t.length) (hkl:s + k ≤ t.length)
  (ll:l2.length ≤ 2 + k / 2) (l1:l2.length ≤ 1 + k) (su:sumK (l2.map Prod.fst) ≤ szK kis[i].1 + 68 * k) (nn:m'.N ≤ m0.N + Hc * s + Hc * k) (cn:cnt' ≤ cnt + l2.length):MSi w c B mb tb fb took vt0 m0 U h t kis g vi Ak mk ck Hc T' vt' m' (l ++ l2) V' (s + k) cnt' w' A2' n2' c2' A' n' cc' (i + 1) where
 jm:=jm
 mr:=mr
 mp:=mp
 jl:=jl
 fl:=by rw [List.flatMap_append,hs.fl,fl]; exact kids_merge hE.ri hE.hd hi hs.s0 hs.sp
 sp:=fun _ h2=>kids_split hE.ri hE.hd hs.s0 hs.sp hk h2
 s0:=fun e=>by omega
 se:=hke
 sl:=hkl
 il:=hi
 ll:=by have:=hs.ll; rw [List.length_append]; omega
 l1:=by have:=hs.l1; rw [List.length_append]; omega
 su:=by
  have h1:=hs.su
  have hi':i < (kis.map Prod.fst).length:=by rw [List.length_map]; exact hi
  rw [List.map_append,sumK_ap,take_next hi',sumK_ap,List.getElem_map,sumK_one]
  omega
 nn:=by rw [Nat.mul_add]; omega
 cn:=by have:=hs.cn; rw [List.length_append]; omega
theorem MSi.used {dp:Int} (hE:ME c B mb tb took m0 U h t kis Hc dp) (hs:MSi w c B mb tb fb took vt0 m0 U h t kis g vi Ak mk ck Hc T vt m l V s cnt wr A2 n2 c2 A n cc i):(∀ q,U q → m.used q) ∧ (∀ q ∈ T,m.used q) ∧ (∀ q ∈ T,¬ U q) ∧ ∀ q ∈ T,q ∉ took:=
 ⟨fun q hq=>(hs.jm.gr.old q (hE.je.us q hq)).1,fun q hq=>(hs.jm.gr.in_ q hq).2.2.2,fun q hq hu=>hE.je.us q hu (hs.jm.gr.in_ q hq).2.2.1,fun q hq ht=>hE.je.tk q ht (hs.jm.gr.in_ q hq).2.2.1⟩
theorem MSi.je {dp:Int} (hE:ME c B mb tb took m0 U h t kis Hc dp) (hs:MSi w c B mb tb fb took vt0 m0 U h t kis g vi Ak mk ck Hc T vt m l V s cnt wr A2 n2 c2 A n cc i):JE c (took ++ T) m U ∧ (took ++ T).length + (h + 1) * 65536 ≤ 3000000:=by
 obtain ⟨h1,h2,h3,h4⟩:=hs.used hE
 have hT:=hs.jm.gr.len
 have hn:c.n ≤ 65536:=Pg.hn hs.jm.mw.pg
 have htk:=hE.tk
 refine ⟨⟨h1,fun q hq ht=>(List.mem_append.1 ht).elim (hE.je.ut q hq) (fun ht=>h3 q ht hq),fun q hq=>(List.mem_append.1 hq).elim (fun hq=>(hs.jm.gr.old q (hE.je.tk q hq)).1) (h2 q),?_⟩,?_⟩
 ·rw [List.length_append]; omega
 ·rw [List.length_append]; omega
/-- The list, once a part of the tree has been made anew. -/
theorem MSi.jl_app {dp:Int} (hE:ME c B mb tb took m0 U h t kis Hc dp) (hs:MSi w c B mb tb fb took vt0 m0 U h t kis g vi Ak mk ck Hc T vt m l V s cnt wr A2 n2 c2 A n cc i) {m':Pst} {T2:List Nat} {V2:Nat → Prop} {l2:List KI} (hg:Grew c m m' T2) (h2:JL c m' U V2 T2 h l2):JL c m' U (fun q=>V q ∨ V2 q) (T ++ T2) h (l ++ l2):=by
 obtain ⟨u1,u2,u3,u4⟩:=hs.used hE
 exact (hs.jl.keep hg u1 u2).app h2 (fun q hq h2=>u2 q hq (hg.in_ q h2).2.2.1) u3 (fun q hq hu=>u1 q hu (hg.in_ q hq).2.2.1)
theorem MSi.kid {dp:Int} (hE:ME c B mb tb took m0 U h t kis Hc dp) (hs:MSi w c B mb tb fb took vt0 m0 U h t kis g vi Ak mk ck Hc T vt m l V s cnt wr A2 n2 c2 A n cc i) (hi:i < kis.length):KidV (m.C c) c.n U h kis[i] ∧ U kis[i].1.p ∧ TrQ (m.C c) c.n U (h + 1) kis[i].1.p kis[i].2:=by
 have hm:=List.getElem_mem hi
 obtain ⟨h1,h2⟩:=hE.kv _ hm
 have hC:∀ q,U q → m.C c (q:Int) = m0.C c q:=fun q hq=>(hs.jm.gr.old q (hE.je.us q hq)).2
 exact ⟨h1.keep hC (fun _ h=>h) (hC _ h2),h2,(hE.kt _ hm).keep hC (fun _ h=>h)⟩
end
end Go.Proofs.Ytkolacaceaamoaa
/- make: the round's end: a part that was made anew. -/
namespace Go.Proofs.Ytkolacaceaamoaa
open Go.RowKit
open Go.Lib (compareBytes)
def inLoopM:Code → Code
 | .seq (.seq _ (.block _ (.loop (.seq _ (.seq _ (.seq (.block _ b) _)))))) _=>b
 | c=>c
/-- make's round, from its k-th statement on. -/
noncomputable def BM (k:Nat):Code:=dropS' k (inLoopM (dropS' 8 ((Try.f33.body).getD .skip)))
noncomputable def CM (k:Nat):Code:=match BM k with
 | .seq a _=>a
 | c=>c
section
variable {Q:Exit → Act → World → Prop} {v1 v4 v5 v6 v7 v19 v21 v22 v23 v24 v25 v26 v27 v28 v29 v30 v31 v32 v33 v34 v35 v36 v37 v38 v39 v40 v41 v42 v43 v44 v45 v46 v47 v48 v49 v50 v51 v52 v53 v54 v55 v56 v57 v58 v128 v129 v130 v131 v132 v133 v134 v135 v136 v137 v138 v139 v140 v141 v142 v143 v144 v145 v146 v147 v148:Value} {dp:Int}
variable {w:World} {c:Pct} {B mb tb fb:Nat} {took:List Nat} {vt0:Value} {m0:Pst} {U:Nat → Prop} {h:Nat} {t:List Ch} {kis:List KI} {g:Nat} {vi:Value} {Ak:Option Addr} {mk ck:Nat} {Hc:Nat}
variable (Q v1 v4 v5 v6 v7 v19 v21 v22 v23 v24 v25 v26 v27 v28 v29 v30 v31 v32 v33 v34 v35 v36 v37 v38 v39 v40 v41 v42 v43 v44 v45 v46 v47 v48 v49 v50 v51 v52 v53 v54 v55 v56 v57 v58 v128 v129 v130 v131 v132 v133 v134 v135 v136 v137 v138 v139 v140 v141 v142 v143 v144 v145 v146 v147 v148 dp w c B mb tb fb took vt0 m0 U h t kis g vi Ak mk ck Hc) in
/-- What is behind a round. -/
def MNx (i:Nat):Prop:=
 (∀ (u14 u15 u16 u17 u18 u20 u62 u63 u64 u65 u66 u67 u68 u69 u70 u71 u72 u73 u74 u75 u76 u77 u78 u79 u80 u81 u82 u83 u84 u85 u86 u87 u88 u89 u90 u91 u92 u93 u94 u95 u96 u97 u98 u99 u100 u101 u102 u103 u104 u105 u106 u107 u108 u109 u110 u111 u112 u113 u114 u115 u116 u117 u118 u119 u120 u121 u122 u123 u124 u125 u126 u127:Value) (A2:Option Addr) (n2 c2:Nat) (A:Option Addr) (n cc:Nat) (w':World),MSt w c B mb tb fb took vt0 m0 U h t kis g vi Ak mk ck Hc w' A2 n2 c2 A n cc (i + 1) → Q .normal { tmps:=#[.pointer (some ⟨mb,0,none⟩),v1,.slice A2 n2 c2,.int .i64 dp,v4,v5,v6,v7,.slice none 0 0,.int .i64 0,.pointer (some ⟨g,0,none⟩),.int .i64 0,.slice A n cc,.map (some fb),u14,u15,u16,u17,u18,v19,u20,v21,v22,v23,v24,v25,v26,v27,v28,v29,v30,v31,v32,v33,v34,v35,v36,v37,v38,v39,v40,v41,v42,v43,v44,v45,v46,v47,v48,v49,v50,v51,v52,v53,v54,v55,v56,v57,v58,.slice Ak mk ck,.int .i64 (mk:Int),.int .i64 (i:Int),u62,u63,u64,u65,u66,u67,u68,u69,u70,u71,u72,u73,u74,u75,u76,u77,u78,u79,u80,u81,u82,u83,u84,u85,u86,u87,u88,u89,u90,u91,u92,u93,u94,u95,u96,u97,u98,u99,u100,u101,u102,u103,u104,u105,u106,u107,u108,u109,u110,u111,u112,u113,u114,u115,u116,u117,u118,u119,u120,u121,u122,u123,u124,u125,u126,u127,v128,v129,v130,v131,v132,v133,v134,v135,v136,v137,v138,v139,v140,v141,v142,v143,v144,v145,v146,v147,v148],defers:=[] } w' ∧ Q (.exit 1) { tmps:=#[.pointer (some ⟨mb,0,none⟩),v1,.slice A2 n2 c2,.int .i64 dp,v4,v5,v6,v7,.slice none 0 0,.int .i64 0,.pointer (some ⟨g,0,none⟩),.int .i64 0,.slice A n cc,.map (some fb),u14,u15,u16,u17,u18,v19,u20,v21,v22,v23,v24,v25,v26,v27,v28,v29,v30,v31,v32,v33,v34,v35,v36,v37,v38,v39,v40,v41,v42,v43,v44,v45,v46,v47,v48,v49,v50,v51,v52,v53,v54,v55,v56,v57,v58,.slice Ak mk ck,.int .i64 (mk:Int),.int .i64 (i:Int),u62,u63,u64,u65,u66,u67,u68,u69,u70,u71,u72,u73,u74,u75,u76,u77,u78,u79,u80,u81,u82,u83,u84,u85,u86,u87,u88,u89,u90,u91,u92,u93,u94,u95,u96,u97,u98,u99,u100,u101,u102,u103,u104,u105,u106,u107,u108,u109,u110,u111,u112,u113,u114,u115,u116,u117,u118,u119,u120,u121,u122,u123,u124,u125,u126,u127,v128,v129,v130,v131,v132,v133,v134,v135,v136,v137,v138,v139,v140,v141,v142,v143,v144,v145,v146,v147,v148],defers:=[] } w') ∧
 (∀ (u2 u12 u14 u15 u16 u17 u18 u20 u62 u63 u64 u65 u66 u67 u68 u69 u70 u71 u72 u73 u74 u75 u76 u77 u78 u79 u80 u81 u82 u83 u84 u85 u86 u87 u88 u89 u90 u91 u92 u93 u94 u95 u96 u97 u98 u99 u100 u101 u102 u103 u104 u105 u106 u107 u108 u109 u110 u111 u112 u113 u114 u115 u116 u117 u118 u119 u120 u121 u122 u123 u124 u125 u126 u127:Value) (T:List Nat) (vt:Value) (m:Pst) (w':World),JM w w' c B mb tb took vt0 m0 T vt m fb → m.N ≤ m0.N + Hc * t.length → Q .ret { tmps:=#[.pointer (some ⟨mb,0,none⟩),v1,u2,.int .i64 dp,v4,v5,v6,v7,.slice none 0 0,.int .i64 16,.pointer (some ⟨g,0,none⟩),.int .i64 0,u12,.map (some fb),u14,u15,u16,u17,u18,v19,u20,v21,v22,v23,v24,v25,v26,v27,v28,v29,v30,v31,v32,v33,v34,v35,v36,v37,v38,v39,v40,v41,v42,v43,v44,v45,v46,v47,v48,v49,v50,v51,v52,v53,v54,v55,v56,v57,v58,.slice Ak mk ck,.int .i64 (mk:Int),.int .i64 (i:Int),u62,u63,u64,u65,u66,u67,u68,u69,u70,u71,u72,u73,u74,u75,u76,u77,u78,u79,u80,u81,u82,u83,u84,u85,u86,u87,u88,u89,u90,u91,u92,u93,u94,u95,u96,u97,u98,u99,u100,u101,u102,u103,u104,u105,u106,u107,u108,u109,u110,u111,u112,u113,u114,u115,u116,u117,u118,u119,u120,u121,u122,u123,u124,u125,u126,u127,v128,v129,v130,v131,v132,v133,v134,v135,v136,v137,v138,v139,v140,v141,v142,v143,v144,v145,v146,v147,v148],defers:=[] } w')
theorem own_cnt {w:World} {B0:Nat} {e:TypeId} {k q n cc:Nat} {A:Option Addr} {xs:List Value} (h:w.ownsRow B0 e k (.slice A n cc) q xs):n = q:=by
 rcases h.2 with ⟨e,h0⟩ | ⟨_,_,_,e,_⟩
 ·injection e with _ e _; omega
 ·injection e
theorem KdR.kdc {w:World} {F:Nat → Prop} (x:Kd) (cs:List Value) (h:KdR w F x cs):∀ u ∈ cs,KdC u:=by
 obtain ⟨a,rfl,⟨A,c,rfl,_⟩⟩:=h
 intro u hu
 simp only [List.mem_cons,List.not_mem_nil,or_false] at hu
 rcases hu with rfl | rfl
 ·exact .inl ⟨_,_,_,rfl⟩
 ·exact .inr ⟨_,rfl⟩
theorem KdC.zero:∀ u ∈ (Value.agg #[.slice none 0 0,.int .i64 0]).cells.toList,KdC u:=by
 intro u hu
 have:u = .slice none 0 0 ∨ u = .int .i64 0:=by simpa [Value.cells] using hu
 rcases this with rfl | rfl
 ·exact .inl ⟨_,_,_,rfl⟩
 ·exact .inr ⟨_,rfl⟩
theorem LR.each {α:Type} {R:α → List Value → Prop} {p:Value → Prop} (hR:∀ a cs,R a cs → ∀ u ∈ cs,p u):∀ (l:List α) (xs:List Value),LR R l xs → ∀ u ∈ xs,p u
 | [],xs,h,u,hu=>by
  have:xs = []:=h
  subst this
  cases hu
 | a :: l,xs,⟨cs,rest,e,h1,h2⟩,u,hu=>by
  subst e
  exact (List.mem_append.1 hu).elim (hR a cs h1 u) (LR.each hR l rest h2 u)
set_option maxRecDepth 100000 in
set_option maxHeartbeats 4000000 in
theorem mk_tail {wr w5:World} {T T2:List Nat} {vt vt':Value} {m m':Pst} {l l2:List KI} {V V2:Nat → Prop} {s cnt k:Nat} {A2:Option Addr} {n2 c2:Nat} {A:Option Addr} {n cc i:Nat} {Al:Option Addr} {nl cl g15:Nat}
  (hQ:MNx Q v1 v4 v5 v6 v7 v19 v21 v22 v23 v24 v25 v26 v27 v28 v29 v30 v31 v32 v33 v34 v35 v36 v37 v38 v39 v40 v41 v42 v43 v44 v45 v46 v47 v48 v49 v50 v51 v52 v53 v54 v55 v56 v57 v58 v128 v129 v130 v131 v132 v133 v134 v135 v136 v137 v138 v139 v140 v141 v142 v143 v144 v145 v146 v147 v148 dp w c B mb tb fb took vt0 m0 U h t kis g vi Ak mk ck Hc i)
  (hE:ME c B mb tb took m0 U h t kis Hc dp) (hs:MSi w c B mb tb fb took vt0 m0 U h t kis g vi Ak mk ck Hc T vt m l V s cnt wr A2 n2 c2 A n cc i) (hi:i < kis.length)
  (jm:JM w w5 c B mb tb took vt0 m0 (T ++ T2) vt' m' fb) (mr:MR w.heap.size w5 c mb vt' m' (.slice A n cc) (l.map Prod.fst) g vi (.slice Ak mk ck) (kis.map Prod.fst) (.slice A2 n2 c2) (t.drop s)) (mp:MapB w5 fb cnt) (jl:JL c m' U (fun q=>V q ∨ V2 q) (T ++ T2) h (l ++ l2))
  (sl:SLk 2 KdR w5 (Sf w5 c mb vt' m') (.slice Al nl cl) (l2.map Prod.fst)) (hok:∀ x ∈ l2,kdOk x.1)
  (fl:l2.flatMap Prod.snd = mergeC kis[i].2 ((t.drop s).take k)) (hk:i + 1 < kis.length → (∀ x ∈ (t.drop s).take k,compareBytes x.k (keyAt kis (i + 1)) < 0) ∧ ∀ x ∈ (t.drop s).drop k,0 ≤ compareBytes x.k (keyAt kis (i + 1))) (hke:i + 1 = kis.length → s + k = t.length) (hkl:s + k ≤ t.length)
  (ll:l2.length ≤ 2 + k / 2) (su:sumK (l2.map Prod.fst) ≤ szK kis[i].1 + 68 * k) (nn:m'.N ≤ m0.N + Hc * s + Hc * k) (hk1:1 ≤ k)
  (u20 u62 u63 u64 u65 u66 u67 u68 u69 u70 u71 u72 u73 u74 u75 u76 u77 u78 u79 u80 u81 u82 u83 u84 u85 u86 u87 u88 u89 u90 u91 u92 u93 u94 u95 u96 u97 u98 u99 u100 u101 u102 u103 u104 u105 u106 u107 u108 u109 u110 u111 u112 u113 u114 u115 u116 u117 u118 u119 u120 u121 u122 u123 u124 u125 u126 u127:Value) :
  Code.wp Try.prog (BM 5) Q { tmps:=#[.pointer (some ⟨mb,0,none⟩),v1,.slice A2 n2 c2,.int .i64 dp,v4,v5,v6,v7,.slice none 0 0,.int .i64 0,.pointer (some ⟨g,0,none⟩),.int .i64 0,.slice A n cc,.map (some fb),.int .i64 (i:Int),.pointer (some ⟨g15,0,none⟩),.int .i64 (k:Int),.slice Al nl cl,.int .i64 0,v19,u20,v21,v22,v23,v24,v25,v26,v27,v28,v29,v30,v31,v32,v33,v34,v35,v36,v37,v38,v39,v40,v41,v42,v43,v44,v45,v46,v47,v48,v49,v50,v51,v52,v53,v54,v55,v56,v57,v58,.slice Ak mk ck,.int .i64 (mk:Int),.int .i64 (i:Int),u62,u63,u64,u65,u66,u67,u68,u69,u70,u71,u72,u73,u74,u75,u76,u77,u78,u79,u80,u81,u82,u83,u84,u85,u86,u87,u88,u89,u90,u91,u92,u93,u94,u95,u96,u97,u98,u99,u100,u101,u102,u103,u104,u105,u106,u107,u108,u109,u110,u111,u112,u113,u114,u115,u116,u117,u118,u119,u120,u121,u122,u123,u124,u125,u126,u127,v128,v129,v130,v131,v132,v133,v134,v135,v136,v137,v138,v139,v140,v141,v142,v143,v144,v145,v146,v147,v148],defers:=[] } w5:=by
 have HQ:=hide hQ
 have HE:=hide hE
 have HS:=hide hs
 have HI:=hide hi
 have HJL:=hide jl
 have HOK:=hide hok
 have HFL:=hide fl
 have HK:=hide hk
 have HKE:=hide hke
 have HLL:=hide ll
 have HSU:=hide su
 have HNN:=hide nn
 obtain ⟨q1,q2,q3⟩:=sl.caps
 rw [List.length_map] at q3
 have HNL:=hide q3
 have hst:=hs.ll
 have htl:=hE.tl
 have hk8:=hE.k8
 have hsl:=hs.sl
 have hnl9:nl ≤ 1000000:=by omega
 have hl9:l.length ≤ 1000000:=by omega
 have hcn:=hs.cn
 have hcnt9:cnt + nl ≤ 100000000:=by omega
 have HST0:=hide (show JM w w5 c B mb tb took vt0 m0 (T ++ T2) vt' m' fb ∧ MR w.heap.size w5 c mb vt' m' (.slice A n cc) (l.map Prod.fst) g vi (.slice Ak mk ck) (kis.map Prod.fst) (.slice A2 n2 c2) (t.drop s) ∧ MapB w5 fb (cnt + 0) ∧ SLk 2 KdR w5 (Sf w5 c mb vt' m') (.slice Al nl cl) (l2.map Prod.fst) from ⟨jm,mr,mp,sl⟩)
 clear hQ hE hs jl hok fl hk hke ll su nn q3 jm mr mp sl hst htl hk8 hcn
 rw [show BM 5 = Code.seq (CM 5) (Code.seq (CM 6) (Code.seq (CM 7) (BM 8))) from rfl]
 conv=>arg 2; arg 1; whnf
 conv=>arg 2; arg 2; arg 1; whnf
 conv=>arg 2; arg 2; arg 2; arg 1; whnf
 conv=>arg 2; arg 2; arg 2; arg 2; whnf
 go_wp2_with fail
 go_loopw [113] (fun vj wr=>∃ j:Nat,vj = .int .i64 (j:Int) ∧ j ≤ nl ∧ Hid (JM w wr c B mb tb took vt0 m0 (T ++ T2) vt' m' fb ∧ MR w.heap.size wr c mb vt' m' (.slice A n cc) (l.map Prod.fst) g vi (.slice Ak mk ck) (kis.map Prod.fst) (.slice A2 n2 c2) (t.drop s) ∧ MapB wr fb (cnt + j) ∧ SLk 2 KdR wr (Sf wr c mb vt' m') (.slice Al nl cl) (l2.map Prod.fst))) (fun vj _=>nl - (intOf vj).toNat)
 case atStart=>exact ⟨0,by go_num,by omega,HST0⟩
 case round=>
  clear HST0
  obtain ⟨j,rfl,hj,HST⟩:=hrel
  by_cases hlt:j < nl
  ·obtain ⟨jm,mr,mp,sl⟩:=HST.out
   have hjj:j < (l2.map Prod.fst).length:=by rw [List.length_map,← HNL.out]; exact hlt
   obtain ⟨b,o,A0,c0,rfl,zb,-,k0,k1,-⟩:=sl.at_kd hjj
   obtain ⟨x,hx⟩:∃ x,(l2.map Prod.fst)[j] = x:=⟨_,rfl⟩
   rw [hx] at k0 k1
   have hxo:kdOk x:=by
    obtain ⟨y,hy,e⟩:=List.mem_map.1 (show x ∈ l2.map Prod.fst from hx ▸ List.getElem_mem hjj)
    rw [← e]
    exact HOK.out y hy
   have HXO:=hide hxo
   obtain ⟨xl,hxl⟩:∃ xl,x.k.length = xl:=⟨_,rfl⟩
   rw [hxl] at k0
   clear hx hxo hxl jm mr mp sl hjj
   go_upto_region 26 with fail
   obtain ⟨w2,hw2⟩:∃ w2,wr.alloc (.cells #[.slice A0 xl c0,.int .i64 (x.p:Int)] TKd) = w2:=⟨_,rfl⟩
   have HB2:=hide (show Below wr.heap.size wr w2 from hw2 ▸ al_below wr _)
   have hbk:Blk w2 wr.heap.size TKd #[.slice A0 xl c0,.int .i64 (x.p:Int)]:=hw2 ▸ Blk.new _ _ _
   have k2:w2.cell? ⟨wr.heap.size,1,none⟩ = some (.int .i64 (x.p:Int)):=by have:=hbk.cell 1; simpa using this
   have z2:=hbk.lt
   have hmp2:=HST.out.2.2.1.below HB2.out
   obtain ⟨w3,hrun,hm3,hg3⟩:=hmp2.put (by omega) x.p HXO.out.2.2.2
   have HST3:=hide (show JM w w3 c B mb tb took vt0 m0 (T ++ T2) vt' m' fb ∧ MR w.heap.size w3 c mb vt' m' (.slice A n cc) (l.map Prod.fst) g vi (.slice Ak mk ck) (kis.map Prod.fst) (.slice A2 n2 c2) (t.drop s) ∧ MapB w3 fb (cnt + (j + 1)) ∧ SLk 2 KdR w3 (Sf w3 c mb vt' m') (.slice (some ⟨b,o,none⟩) nl cl) (l2.map Prod.fst) from
    ⟨(HST.out.1.below HB2.out).mapped hmp2 hg3,(HST.out.2.1.step HST.out.2.2.1 (MkS.low HB2.out)).mapped hmp2 hg3,hm3,SLk.off (F:=Sf w2 c mb vt' m') (fb:=fb) (by omega) KdR.off ((MkS.low HB2.out).slk @KdR.keep (by omega) HST.out.2.2.2) (fun o v=>hmp2.no) (fun j hj hne hlt=>hg3.block j hlt (fun e=>hne (by injection e))) (fun j hj _ hlt=>⟨Nat.lt_of_lt_of_le hlt hg3.size,hj.2⟩)⟩)
   clear hmp2 hm3 hg3 hbk k0 k1
   rw [hw2]
   go_wp2_with fail
   refine ⟨⟨j + 1,by push_cast; rfl,by omega,HST3⟩,?_⟩
   simp [intOf]
   omega
  ·obtain rfl:nl = j:=by omega
   obtain ⟨i0,hi0,hz0,hz1,hz2⟩:=tkd_inf
   have HI0:=hide hi0
   have HZ0:=hide hz0
   obtain ⟨jm,mr,mp,sl⟩:=HST.out
   obtain ⟨xs,hxo,hxl⟩:=mr.lst.row
   have hnl:=own_cnt hxo
   have HXO:=hide (show wr.ownsRow w.heap.size TKd 2 (.slice A n cc) n xs from by rw [← hnl] at hxo; exact hxo)
   have HXL:=hide hxl
   have HNN1:=hide hnl
   have hn9:n ≤ 1000000:=by rw [hnl,List.length_map]; omega
   obtain ⟨A',c',ys,e,hc,hr,hl⟩:=sl
   injection e with e1 e2 e3
   subst e1 e3
   have HYR:=hide (hr.reads (fun j hj=>hj.1))
   rw [← e2] at HYR
   have HYL:=hide hl
   have HMR:=hide mr
   have HJM:=hide jm
   have HMP:=hide mp
   have hn2:n2 = (t.drop s).length:=mr.td.len
   rw [List.length_drop] at hn2
   have hkn:k ≤ n2:=by omega
   have HN2:=hide hn2
   clear hn2
   obtain ⟨hnc2,-,-⟩:=mr.td.caps
   obtain ⟨b2,o2,rfl,zb2,-⟩:=mr.td.base (fun a cs h=>ChR.three a cs h) (by omega) (by rw [List.length_drop]; omega)
   clear hi0 hz0 HST hxo hxl hnl hr hl jm mp e2 hc
   go_upto_region 28 with fail
   go_upto_region 29 with (at_builtin; refine wpList_append_pred _ rfl (.tmp 121) (.tmp 122) 75 rfl w.heap.size TKd i0 _ 2 32 Try.underlying75 HI0.out HZ0.out hz1 hz2 rfl (by omega) (.slice A n cc) n xs rfl HXO.out wr.heap.size Al nl cl ys rfl HYR.out (LR.ones (fun a cs h=>KdR.ones a cs h) _ _ HYL.out) (by unfold maxLen; omega) (by omega) HJM.out.st.fr.size KdC HMR.out.lst.all (LR.each (fun a cs h=>KdR.kdc a cs h) _ _ HYL.out) KdC.zero ?_; intro v' w3 ho hg hoo hall; (obtain ⟨A6,c6,rfl,hc6⟩:=own_slice ho); have HO:=hide ho; have HG:=hide hg; have HOO:=hide hoo; have HALL:=hide hall; clear ho hg hoo hall)
   have HM3:=hide (show JM w w3 c B mb tb took vt0 m0 (T ++ T2) vt' m' fb from { HJM.out with mw:=HJM.out.mw.rowed HMR.out.lst (Below.refl _ _) HG.out,st:=HJM.out.st.grown (Below.refl _ _) HG.out (fun g hg=>(HXO.out.lt g hg).1) })
   have HMR3:=hide (show MR w.heap.size w3 c mb vt' m' (.slice A6 (n + nl) c6) ((l ++ l2).map Prod.fst) g vi (.slice Ak mk ck) (kis.map Prod.fst) (.slice (some ⟨b2,o2,none⟩) n2 c2) (t.drop s) from by
    rw [List.map_append]
    refine MR.push HMR.out HJM.out.mw (Below.refl _ _) (xs:=xs) (ys:=ys) ⟨by rw [← HNN1.out]; exact HXO.out,HXL.out⟩ HYL.out (fun x hx=>by obtain ⟨y,hy,rfl⟩:=List.mem_map.1 hx; exact HOK.out y hy) ?_ HG.out HOO.out HALL.out
    rw [← HNN1.out,List.length_map,← HNL.out]
    exact HO.out)
   have HMP3:=hide (show MapB w3 fb (cnt + nl) from HMP.out.keep (HG.out.block fb HMP.out.lt (fun e=>(HMR.out.map_ne HMP.out).1 e.symm)))
   have hcut:=HMR3.out.td.cutFrom (i:=k) (fun a cs h=>ChR.three a cs h) (by omega) hkn
   rw [List.drop_drop] at hcut
   have HCUT:=hide hcut
   clear hcut HMP HMR HJM HXO HXL HYR HYL HO HG HOO HALL
   have HFIN:=hide (fun (A9:Option Addr) (n9 c9:Nat) (hq:SLk 3 ChR w3 (KF w3 c mb vt' m' (.slice A6 (n + nl) c6)) (.slice A9 n9 c9) (t.drop (s + k)))=>(show MSt w c B mb tb fb took vt0 m0 U h t kis g vi Ak mk ck Hc w3 A9 n9 c9 A6 (n + nl) c6 (i + 1) from
    ⟨_,_,_,_,_,_,_,MSi.next HE.out HS.out hi HM3.out (HMR3.out.cut hq) HMP3.out HJL.out HFL.out HK.out HKE.out hkl HLL.out (by have:=HLL.out; omega) HSU.out HNN.out (by rw [HNL.out]; exact Nat.le_refl _)⟩))
   by_cases hkc:k = c2
   ·subst hkc
    obtain rfl:n2 = k:=by omega
    go_wp2_with fail
    refine (HQ.out.1 _ _ _ _ _ _ _ _ _ _ _ _ _ _ _ _ _ _ _ _ _ _ _ _ _ _ _ _ _ _ _ _ _ _ _ _ _ _ _ _ _ _ _ _ _ _ _ _ _ _ _ _ _ _ _ _ _ _ _ _ _ _ _ _ _ _ _ _ _ _ _ _ _ _ _ _ _ _ _ (HFIN.out _ _ _ ?_)).1
    have hc0:=HCUT.out.2
    simp only [Nat.sub_self,forall_const] at hc0
    exact hc0 (some ⟨b2,o2,none⟩)
   ·have hkc2:k < c2:=by omega
    go_wp2_with fail
    refine (HQ.out.1 _ _ _ _ _ _ _ _ _ _ _ _ _ _ _ _ _ _ _ _ _ _ _ _ _ _ _ _ _ _ _ _ _ _ _ _ _ _ _ _ _ _ _ _ _ _ _ _ _ _ _ _ _ _ _ _ _ _ _ _ _ _ _ _ _ _ _ _ _ _ _ _ _ _ _ _ _ _ _ (HFIN.out _ _ _ ?_)).1
    exact HCUT.out.1
end
end Go.Proofs.Ytkolacaceaamoaa
