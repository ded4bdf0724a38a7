/- The tree: cut (items). -/
import Derived.Test.YtkolacaceaamoaaKMg
import Derived.Test.YtkolacaceaamoaaKM1
set_option linter.unusedSimpArgs false
set_option linter.unusedVariables false
namespace Go.Proofs.Ytkolacaceaamoaa
open Go.RowKit
abbrev TIts:TypeId:=32
theorem tits_inf:∃ i,Try.prog.info? TIts = some i ∧ i.zero = some (.slice none 0 0) ∧ i.size = 1 ∧ i.bytes = 24:=by
 have h:(Try.prog.info? TIts).map (fun i=>(i.zero,i.size,i.bytes)) = some (some (.slice none 0 0),1,24):=by kernel_rfl
 cases hi:Try.prog.info? TIts with
 | none=>rw [hi] at h; cases h
 | some i=>rw [hi] at h; simp only [Option.map_some,Option.some.injEq,Prod.mk.injEq] at h; exact ⟨i,rfl,h.1,h.2.1,h.2.2⟩
theorem sumZ_take {α:Type} (sz:α → Nat) {is:List α} {j:Nat} (h:j < is.length):sumZ sz (is.take (j + 1)) = sumZ sz (is.take j) + sz is[j]:=by
 unfold sumZ
 rw [List.take_succ_eq_append_getElem h,List.map_append,List.sum_append]
 rfl
theorem sumZ_le {α:Type} (sz:α → Nat) {B:Nat}:∀ (is:List α),(∀ x ∈ is,sz x ≤ B) → sumZ sz is ≤ B * is.length
 | [],_=>by simp [sumZ]
 | x :: l,h=>by
  have ih:=sumZ_le sz l (fun y hy=>h y (List.mem_cons_of_mem _ hy))
  have h0:=h x List.mem_cons_self
  unfold sumZ at *
  rw [List.map_cons,List.sum_cons,List.length_cons,Nat.mul_succ]
  omega
theorem itOk.sz {x:It} (h:itOk x):szI x ≤ 162:=by
 obtain ⟨_,h2,h3⟩:=h
 unfold szI
 omega
/-- What a place of a row of items holds. -/
theorem SLk.at_it {w:World} {F:Nat → Prop} {A:Option Addr} {n c:Nat} {is:List It} (h:SLk 2 ItR w F (.slice A n c) is) {j:Nat} (hj:j < is.length) :
  ∃ b o A0 c0 A1 c1,A = some ⟨b,o,none⟩ ∧ b < w.heap.size ∧ F b ∧ w.cell? ⟨b,o + j * 2,none⟩ = some (.slice A0 is[j].k.length c0) ∧ w.cell? ⟨b,o + j * 2 + 1,none⟩ = some (.slice A1 is[j].v.length c1) ∧ ItR w F is[j] [.slice A0 is[j].k.length c0,.slice A1 is[j].v.length c1]:=by
 obtain ⟨A',c',xs,e,hc,hr,hl⟩:=h
 injection e with e1 e2 e3
 subst e1 e2 e3
 obtain ⟨ad,rfl,hb,hcell⟩:=hr.2 (by omega)
 obtain ⟨cs,hit,hcs⟩:=LR.at_ (k:=2) (fun a cs h=>h.two) is xs hl j hj
 obtain ⟨a0,a1,rfl,hk,hv⟩:=hit
 have q0:=hcell (j * 2 + 0) _ (hcs 0 (by omega))
 have q1:=hcell (j * 2 + 1) _ (hcs 1 (by omega))
 have hlt:=cell_in q0
 rw [block_of_add] at hlt
 have hs:ad.spot = none:=by
  have h0:=spot_none q0
  unfold Addr.add at h0
  split at h0
  ·exact h0
  ·have h2:=spot_none q1
   have hz:ad.add 0 = ad:=by unfold Addr.add; rw [if_pos rfl]
   obtain ⟨cs',hit',hcs'⟩:=LR.at_ (k:=2) (fun a cs h=>h.two) is xs hl 0 (by omega)
   obtain ⟨b0,b1,rfl,_,_⟩:=hit'
   have q3:=spot_none (hcell (0 * 2 + 0) _ (hcs' 0 (by omega)))
   rw [show 0 * 2 + 0 = 0 from rfl,hz] at q3
   exact q3
 obtain ⟨b,o,sp⟩:=ad
 cases hs
 have hadd:∀ j,(⟨b,o,none⟩:Addr).add j = ⟨b,o + j,none⟩:=fun j=>(add_plain ⟨b,o,none⟩ j rfl).symm
 obtain ⟨A0,c0,rfl,hc0,hr0⟩:=hk
 obtain ⟨A1,c1,rfl,hc1,hr1⟩:=hv
 rw [hadd] at q0 q1
 exact ⟨b,o,A0,c0,A1,c1,rfl,hlt,hb,by simpa using q0,by rw [Nat.add_assoc]; exact q1,_,_,rfl,⟨A0,c0,rfl,hc0,hr0⟩,⟨A1,c1,rfl,hc1,hr1⟩⟩
theorem share_eq {s:Nat} (h:s ≤ 1000000000000):wrap64 (wrap64 ((s:Int) / max (((s:Int) + 505 - 1) / 505) 1) + 1) = ((shareOf s:Nat):Int):=by
 obtain ⟨p,hp⟩:∃ p,(s + 504) / 505 = p:=⟨_,rfl⟩
 have e1:((s:Int) + 505 - 1) / 505 = (p:Int):=by omega
 have e2:max (p:Int) 1 = ((max p 1:Nat):Int):=by omega
 obtain ⟨m,hm⟩:∃ m,max p 1 = m:=⟨_,rfl⟩
 have e3:(s:Int) / (m:Int) = ((s / m:Nat):Int):=(Int.natCast_ediv s m).symm
 have h4:s / m ≤ s:=Nat.div_le_self _ _
 rw [e1,e2,hm,e3]
 unfold shareOf
 rw [hp,hm]
 obtain ⟨r,hr⟩:∃ r,s / m = r:=⟨_,rfl⟩
 rw [hr] at h4 ⊢
 clear e3 hr e1 e2
 unfold wrap64
 omega
theorem LR.mem {α:Type} {R:α → List Value → Prop}:∀ (l:List α) (xs:List Value),LR R l xs → ∀ u ∈ xs,∃ a ∈ l,∃ cs,R a cs ∧ u ∈ cs
 | [],xs,h,u,hu=>by
  have:xs = []:=h
  rw [this] at hu
  cases hu
 | a :: l,xs,⟨cs,rest,e,h1,h2⟩,u,hu=>by
  rw [e] at hu
  rcases List.mem_append.1 hu with hu | hu
  ·exact ⟨a,List.mem_cons_self,cs,h1,hu⟩
  ·obtain ⟨b,hb,cs',h3,h4⟩:=LR.mem l rest h2 u hu
   exact ⟨b,List.mem_cons_of_mem _ hb,cs',h3,h4⟩
theorem LR.monoIn {α:Type} {R R':α → List Value → Prop}:∀ (l:List α) (xs:List Value),(∀ a cs,(∀ u ∈ cs,u ∈ xs) → R a cs → R' a cs) → LR R l xs → LR R' l xs
 | [],xs,_,h=>h
 | a :: l,xs,hR,⟨cs,rest,e,h1,h2⟩=>⟨cs,rest,e,hR a cs (fun u hu=>by rw [e]; exact List.mem_append_left _ hu) h1,LR.monoIn l rest (fun b cs' hu h=>hR b cs' (fun u hu'=>by rw [e]; exact List.mem_append_right _ (hu u hu')) h) h2⟩
section
variable {α:Type} {R:World → (Nat → Prop) → α → List Value → Prop} {T TR:TypeId} {w wr w' w'':World} {F:Nat → Prop}
theorem own_two {B B' n m k k':Nat} {e e':TypeId} {v v':Value} {xs ys:List Value} (h:w.ownsRow B e k v n xs) (h':w.ownsRow B' e' k' v' m ys) (hne:e ≠ e') {g:Nat} (hg:v.ownBlock = some g):v'.ownBlock ≠ some g:=by
 intro hg'
 rcases h.2 with ⟨e1,_⟩ | ⟨g1,_,_,e1,_,hh,_⟩
 ·rw [e1] at hg; cases hg
 ·rcases h'.2 with ⟨e2,_⟩ | ⟨g2,_,_,e2,_,hh',_⟩
  ·rw [e2] at hg'; cases hg'
  ·rw [e1] at hg; rw [e2] at hg'
   have a:g1 = g:=by simpa [Value.ownBlock] using hg
   have b:g2 = g:=by simpa [Value.ownBlock] using hg'
   subst a b
   rw [hh] at hh'
   injection hh' with hh'
   injection hh' with _ ht
   exact hne ht
theorem Gro.keep {v:Value} {r:List α} (h:Gro R T 2 w F wr v r) (hk:∀ j,v.ownBlock = some j → w'.heap[j]? = wr.heap[j]?):Gro R T 2 w F w' v r:=by
 obtain ⟨xs,h1,h2⟩:=h
 exact ⟨xs,row_keep h1 hk,h2⟩
/-- A part, in its row. -/
def PtR (R:World → (Nat → Prop) → α → List Value → Prop) (T:TypeId) (w:World) (F:Nat → Prop) (wr:World) (p:List α) (cs:List Value):Prop:=∃ v,cs = [v] ∧ Gro R T 2 w F wr v p
theorem PtR.one {p:List α} {cs:List Value} (h:PtR R T w F wr p cs):cs.length = 1:=by
 obtain ⟨v,e,_⟩:=h
 rw [e]
 rfl
/-- The parts of cut so far: all but the last one, the last one. -/
structure CutM (R:World → (Nat → Prop) → α → List Value → Prop) (T TR:TypeId) (w:World) (F:Nat → Prop) (wr:World) (vo:Value) (vd:List Value) (vl:Value) (d:List (List α)) (cur:List α):Prop where
 out:wr.ownsRow w.heap.size TR 1 vo (d.length + 1) (vd ++ [vl])
 done:LR (PtR R T w F wr) d vd
 last:Gro R T 2 w F wr vl cur
 apart:∀ a ∈ vd,∀ g,a.ownBlock = some g → vl.ownBlock ≠ some g
theorem CutM.below {vo vl:Value} {vd:List Value} {d:List (List α)} {cur:List α} (h:CutM R T TR w F wr vo vd vl d cur) (hb:Below wr.heap.size wr w'):CutM R T TR w F w' vo vd vl d cur:=
 ⟨own_later h.out hb,LR.mono (fun _ _ ⟨v,e,h⟩=>⟨v,e,h.below hb⟩) _ _ h.done,h.last.below hb,h.apart⟩
/-- A new part is begun. -/
theorem CutM.more {vo vl vo':Value} {vd:List Value} {d:List (List α)} {cur:List α} (h:CutM R T TR w F wr vo vd vl d cur) (hT:T ≠ TR) (hb:Below wr.heap.size wr w') (hg:w'.grownBy w'' vo.ownBlock) (ho:w''.ownsRow w.heap.size TR 1 vo' (d.length + 1 + 1) ((vd ++ [vl]) ++ [.slice none 0 0])):CutM R T TR w F w'' vo' (vd ++ [vl]) (.slice none 0 0) (d ++ [cur]) []:=by
 have hk:∀ (v:Value) (p:List α),Gro R T 2 w F wr v p → Gro R T 2 w F w'' v p:=fun v p hv=>by
  obtain ⟨xs,k1,k2⟩:=hv
  refine Gro.keep ⟨xs,k1,k2⟩ fun j hj=>?_
  have hlt:=(k1.lt j hj).2
  exact (hg.block j (Nat.lt_of_lt_of_le hlt hb.size) (fun e=>own_two k1 h.out hT hj e.symm)).trans (hb.block j hlt)
 refine ⟨by rw [List.length_append,List.length_singleton]; exact ho,LR.app (LR.one ⟨vl,rfl,hk _ _ h.last⟩) _ _ (LR.mono (fun _ _ ⟨v,e,hv⟩=>⟨v,e,hk _ _ hv⟩) _ _ h.done),⟨[],World.ownsRow_nil _ _ _ _,rfl⟩,fun a ha g hg e=>by cases e⟩
theorem CutM.first {vo:Value} (ho:w'.ownsRow w.heap.size TR 1 vo 1 [.slice none 0 0]):CutM R T TR w F w' vo [] (.slice none 0 0) [] []:=
 ⟨ho,rfl,⟨[],World.ownsRow_nil _ _ _ _,rfl⟩,fun a ha g hg e=>by cases e⟩
theorem own_form {B n c:Nat} {A:Option Addr} {e:TypeId} {k:Nat} {xs:List Value} (h:w.ownsRow B e k (.slice A (n + 1) c) (n + 1) xs):∃ g,A = some ⟨g,0,none⟩ ∧ B ≤ g ∧ g < w.heap.size ∧ n + 1 ≤ c:=by
 rcases h.2 with ⟨_,h0⟩ | ⟨g,cap,cur,e,hb,hh,hc,_⟩
 ·omega
 ·injection e with e1 e2 e3
  subst e1 e3
  exact ⟨g,rfl,hb,(h.lt g rfl).2,hc⟩
/-- While a thing is put into the last part: stage 0 ahead of the append, 1 behind it, 2 behind the store. -/
def GC (R:World → (Nat → Prop) → α → List Value → Prop) (T TR:TypeId) (w wr:World) (F:Nat → Prop) (go co m:Nat) (vd:List Value) (vl:Value) (cur:List α) (x:α) (st:Nat) (w':World):Prop:=
 Below w.heap.size w w' ∧ wr.heap.size ≤ w'.heap.size ∧ (∀ j,j < wr.heap.size → (1 ≤ st → vl.ownBlock ≠ some j) → (st = 2 → j ≠ go) → w'.heap[j]? = wr.heap[j]?) ∧
 (st = 2 → ∃ v',w'.ownsRow w.heap.size TR 1 (.slice (some ⟨go,0,none⟩) (m + 1) co) (m + 1) (vd ++ [v']) ∧ Gro R T 2 w F w' v' (cur ++ [x]) ∧ (v'.ownBlock = vl.ownBlock ∨ ∃ g,v'.ownBlock = some g ∧ wr.heap.size ≤ g))
theorem GC.below {go co m st:Nat} {vd:List Value} {vl:Value} {cur:List α} {x:α} (h:GC R T TR w wr F go co m vd vl cur x st w') (hb:Below w'.heap.size w' w''):GC R T TR w wr F go co m vd vl cur x st w'':=
 ⟨h.1.trans (hb.mono h.1.size),Nat.le_trans h.2.1 hb.size,fun j hj h1 h2=>(hb.block j (Nat.lt_of_lt_of_le hj h.2.1)).trans (h.2.2.1 j hj h1 h2),fun e=>by
  obtain ⟨v',h1,h2,h3⟩:=h.2.2.2 e
  exact ⟨v',own_later h1 hb,h2.below hb,h3⟩⟩
/-- What the append answers. -/
def R12 (T:TypeId) (w wr:World) (vl:Value) (n:Nat) (ys:List Value) (st:Nat) (v:Value) (w':World):Prop:=st = 1 → w'.ownsRow w.heap.size T 2 v (n + 1) ys ∧ (v.ownBlock = vl.ownBlock ∨ ∃ g,v.ownBlock = some g ∧ wr.heap.size ≤ g)
theorem GC.appended {go co m:Nat} {vd:List Value} {vl v:Value} {cur:List α} {x:α} {w3:World} (h:GC R T TR w wr F go co m vd vl cur x 0 w3) (hv:∀ k,vl.ownBlock = some k → w.heap.size ≤ k) (hgb:w3.grownBy w' vl.ownBlock):GC R T TR w wr F go co m vd vl cur x 1 w':=
 ⟨h.1.grown hgb h.1.size hv,Nat.le_trans h.2.1 hgb.size,fun j hj h1 _=>(hgb.block j (Nat.lt_of_lt_of_le hj h.2.1) (fun e=>h1 (by omega) e.symm)).trans (h.2.2.1 j hj (fun q=>by omega) (fun q=>by omega)),fun e=>by omega⟩
theorem GC.row {go co m:Nat} {vd:List Value} {vl:Value} {cur:List α} {x:α} {w3:World} (h:GC R T TR w wr F go co m vd vl cur x 1 w3)
  (ho:wr.ownsRow w.heap.size TR 1 (.slice (some ⟨go,0,none⟩) (m + 1) co) (m + 1) (vd ++ [vl])) (hlast:∀ g,vl.ownBlock = some g → g ≠ go):w3.ownsRow w.heap.size TR 1 (.slice (some ⟨go,0,none⟩) (m + 1) co) (m + 1) (vd ++ [vl]):=
 row_keep ho (fun j hj=>by
  have e:go = j:=by simpa [Value.ownBlock] using hj
  subst e
  exact h.2.2.1 go (ho.lt go rfl).2 (fun _ e=>hlast go e rfl) (fun q=>by omega))
theorem GC.stored {go co m n:Nat} {vd:List Value} {vl v:Value} {cur:List α} {x:α} {w3:World} {xs cs:List Value} (h:GC R T TR w wr F go co m vd vl cur x 1 w3) (h12:R12 T w wr vl n (xs ++ cs) 1 v w3) (hT:T ≠ TR)
  (ho:wr.ownsRow w.heap.size TR 1 (.slice (some ⟨go,0,none⟩) (m + 1) co) (m + 1) (vd ++ [vl])) (hm:vd.length = m) (hl:LR (R w F) cur xs) (hn:n = cur.length) (hx:R w F x cs) (hlast:∀ g,vl.ownBlock = some g → g ≠ go):GC R T TR w wr F go co m vd vl cur x 2 (w3.setCell ⟨go,m,none⟩ v):=by
 have hgo:=ho.lt go rfl
 have ho3:w3.ownsRow w.heap.size TR 1 (.slice (some ⟨go,0,none⟩) (m + 1) co) (m + 1) (vd ++ [vl]):=row_keep ho (fun j hj=>by
  have e:go = j:=by simpa [Value.ownBlock] using hj
  subst e
  exact h.2.2.1 go hgo.2 (fun _ e=>hlast go e rfl) (fun q=>by omega))
 obtain ⟨h4,h5⟩:=h12 rfl
 have hs:=ho3.stored m v
 have hset:(vd ++ [vl]).set m v = vd ++ [v]:=by
  rw [← hm,List.set_append_right _ _ (Nat.le_refl _)]
  simp
 rw [hset] at hs
 refine ⟨h.1.setCell (p:=⟨go,m,none⟩) hgo.1 v,by simpa using h.2.1,fun j hj h1 h2=>(Below.heap_setCell w3 ⟨go,m,none⟩ v j (h2 rfl)).trans (h.2.2.1 j hj (fun _=>h1 (by omega)) (fun q=>by omega)),fun _=>⟨v,hs.1,?_,h5⟩⟩
 subst hn
 refine ⟨xs ++ cs,?_,LR.app (LR.one hx) _ _ hl⟩
 rw [List.length_append,List.length_singleton]
 exact row_keep h4 (fun j hj=>Below.heap_setCell w3 ⟨go,m,none⟩ v j (fun e=>by
  have e:j = go:=e
  subst e
  exact own_two h4 ho3 hT hj rfl))
theorem GC.done {go co m:Nat} {vd:List Value} {vl:Value} {d:List (List α)} {cur:List α} {x:α} (h:GC R T TR w wr F go co m vd vl cur x 2 w') (hM:CutM R T TR w F wr (.slice (some ⟨go,0,none⟩) (m + 1) co) vd vl d cur) (hT:T ≠ TR) (hm:d.length = m) :
  ∃ v',CutM R T TR w F w' (.slice (some ⟨go,0,none⟩) (m + 1) co) vd v' d (cur ++ [x]):=by
 obtain ⟨v',h1,h2,h3⟩:=h.2.2.2 rfl
 have hlt:∀ a ∈ vd,∀ g,a.ownBlock = some g → g < wr.heap.size ∧ g ≠ go:=fun a ha g hg=>by
  obtain ⟨p,_,cs,⟨v,rfl,xs,k1,_⟩,hv⟩:=LR.mem _ _ hM.done a ha
  rw [List.mem_singleton.1 hv] at hg
  exact ⟨(k1.lt g hg).2,fun e=>by subst e; exact own_two k1 hM.out hT hg rfl⟩
 subst hm
 refine ⟨v',h1,LR.monoIn _ _ (fun p cs hcs hp=>?_) hM.done,h2,fun a ha g hg=>?_⟩
 ·obtain ⟨v,rfl,hg⟩:=hp
  have hv:=hcs v List.mem_cons_self
  exact ⟨v,rfl,hg.keep fun j hj=>h.2.2.1 j (hlt v hv j hj).1 (fun _=>hM.apart v hv j hj) (fun _=>(hlt v hv j hj).2)⟩
 ·rcases h3 with e | ⟨g',e,hg'⟩
  ·rw [e]; exact hM.apart a ha g hg
  ·rw [e]
   intro q
   injection q with q
   have:=(hlt a ha g hg).1
   omega
end
theorem cutStep_yes {α:Type} (sz:α → Nat) {share:Nat} {d:List (List α)} {cur:List α} {x:α} (h:cur ≠ []) (hc:505 < 1 + sumZ sz cur + sz x ∨ share ≤ sumZ sz cur):cutStep sz share (d,cur) x = (d ++ [cur],[] ++ [x]):=by
 cases cur with
 | nil=>exact absurd rfl h
 | cons y l=>simp only [cutStep]; rw [if_pos hc]; rfl
theorem cutStep_no {α:Type} (sz:α → Nat) {share:Nat} {d:List (List α)} {cur:List α} {x:α} (h:cur ≠ []) (hc:¬ (505 < 1 + sumZ sz cur + sz x ∨ share ≤ sumZ sz cur)):cutStep sz share (d,cur) x = (d,cur ++ [x]):=by
 cases cur with
 | nil=>exact absurd rfl h
 | cons y l=>simp only [cutStep]; rw [if_neg hc]
/-- The parts that cut answers. -/
def PartsR {α:Type} (R:World → (Nat → Prop) → α → List Value → Prop) (T TR:TypeId) (w:World) (F:Nat → Prop) (w':World) (vo:Value) (ps:List (List α)):Prop:=∃ vs,w'.ownsRow w.heap.size TR 1 vo ps.length vs ∧ LR (PtR R T w F w') ps vs
def CutS (w:World) (F:Nat → Prop) (wr:World) (Ao:Option Addr) (no co:Nat) (d:List (List It)) (cur:List It):Prop:=
 (cur = [] ∧ d = [] ∧ no = 0 ∧ Ao = none ∧ co = 0) ∨ (cur ≠ [] ∧ no = d.length + 1 ∧ ∃ vd vl,CutM ItR TIt TIts w F wr (.slice Ao no co) vd vl d cur)
set_option maxRecDepth 100000 in
set_option maxHeartbeats 8000000 in
theorem cut_items {w:World} {F:Nat → Prop} {vl:Value} {is:List It} (h1:SLk 2 ItR w F vl is) (hok:∀ x ∈ is,itOk x) (hlen:is.length ≤ 1000000000) :
  Calls Try.prog 69 #[vl,.func (.func 70) #[] #[]] w fun e w'=>∃ vo,e = .returned vo ∧ PartsR ItR TIt TIts w F w' vo (cutF szI is) ∧ Below w.heap.size w w':=by
 obtain ⟨i0,hi0,hz0,hz1,hz2⟩:=tit_inf
 obtain ⟨i1,hi1,hy0,hy1,hy2⟩:=tits_inf
 have HI0:=hide hi0
 have HZ0:=hide hz0
 have HI1:=hide hi1
 have HZ1:=hide hy0
 have H1:=hide h1
 have HOK:=hide hok
 obtain ⟨A1,c1,xs1,rfl,hc1,_⟩:=h1
 clear hi0 hz0 hok hi1 hy0
 obtain ⟨q,hq⟩:∃ q,is.length = q:=⟨_,rfl⟩
 have HQ:=hide hq
 rw [hq] at H1 hlen hc1 ⊢
 clear hq
 go_enter Try.func69,Try.ntmps69
 go_wp2_with fail
 go_loopw [6,18] (fun va vi wr=>∃ (j s:Nat),va = .int .i64 (s:Int) ∧ vi = .int .i64 (j:Int) ∧ j ≤ q ∧ s ≤ 1 + 162 * j ∧ Hid (1 + sumZ szI (is.take j) = s) ∧ Hid (Below w.heap.size w wr)) (fun va vi _=>q - (intOf vi).toNat)
 case atStart=>exact ⟨0,1,rfl,rfl,by omega,by omega,hide rfl,hide (Below.refl _ _)⟩
 case round=>
  obtain ⟨j,s,rfl,rfl,hjq,hs,HS,HB⟩:=hrel
  by_cases hlt:j < q
  ·have hj':j < is.length:=by rw [HQ.out]; exact hlt
   obtain ⟨b,o,A0,c0,B0,d0,rfl,hb,hF,k0,k1,hit⟩:=H1.out.at_it hj'
   have k0:=(HB.out.cell (p:=⟨b,o + j * 2,none⟩) hb).trans k0
   have k1:=(HB.out.cell (p:=⟨b,o + j * 2 + 1,none⟩) hb).trans k1
   have zz:=Nat.lt_of_lt_of_le hb HB.out.size
   have hx:=HOK.out is[j] (List.getElem_mem hj')
   have hTK:=List.take_succ_eq_append_getElem hj'
   have hST:=sumZ_take szI hj'
   obtain ⟨y,hy⟩:∃ y,is[j] = y:=⟨_,rfl⟩
   rw [hy] at k0 k1 hx hTK hit hST
   have HTK:=hide hTK
   have HST:=hide hST
   clear hy hTK hST
   obtain ⟨kl,hkl⟩:∃ kl,y.k.length = kl:=⟨_,rfl⟩
   obtain ⟨vl0,hvl⟩:∃ vl,y.v.length = vl:=⟨_,rfl⟩
   have hk2:kl ≤ 32:=hkl ▸ hx.2.1
   have hv2:vl0 ≤ 128:=hvl ▸ hx.2.2
   have HSZ:=hide (show szI y = 2 + kl + vl0 from by unfold szI; rw [hkl,hvl])
   rw [hkl] at k0 hit
   rw [hvl] at k1 hit
   have HIT:=hide hit
   clear hkl hvl hx hit
   have hjm:j + 1 ≤ 9223372036854775807:=by omega
   go_wp2_with (go_at_call 70; (refine (sizeItem_any (by omega) (by omega)).mono ?_); rintro e w5 ⟨rfl,hb5⟩; have HB5:=hide (HB.out.trans ((al_below wr _).trans (hb5.mono (al_below wr _).size) |>.mono HB.out.size)); clear hb5 k0 k1 zz)
   refine ⟨⟨j + 1,s + (2 + kl + vl0),by push_cast; rfl,by push_cast; rfl,by omega,by omega,hide (by rw [HST.out,← HS.out,HSZ.out]; omega),HB5⟩,?_⟩
   simp [intOf]
   omega
  ·obtain rfl:q = j:=by omega
   have HS0:=hide (show 1 + sumZ szI is = s from by have:=HS.out; rwa [← HQ.out,List.take_length] at this)
   obtain ⟨sh,hsh⟩:∃ sh,shareOf s = sh:=⟨_,rfl⟩
   have hse:=share_eq (s:=s) (by omega)
   rw [hsh] at hse
   have HSH:=hide hsh
   clear hsh
   go_upto_region 10 with fail
   rw [hse]
   clear hse
   go_wp2_with fail
   have HBr:=HB
   clear HB HS
   go_loopw [5,11,39] (fun vo vn vi wr=>∃ (j s no co:Nat) (Ao:Option Addr) (d:List (List It)) (cur:List It),vo = .slice Ao no co ∧ vn = .int .i64 (s:Int) ∧ vi = .int .i64 (j:Int) ∧ j ≤ q ∧ s ≤ 162 * j ∧ no ≤ j ∧ Hid (sumZ szI cur = s) ∧ Hid ((is.take j).foldl (cutStep szI sh) ([],[]) = (d,cur)) ∧ Hid (Below w.heap.size w wr) ∧ Hid (CutS w F wr Ao no co d cur) ∧ Hid (cur.length ≤ j)) (fun _ _ vi _=>q - (intOf vi).toNat)
   case atStart=>exact ⟨0,0,0,0,none,[],[],rfl,rfl,rfl,by omega,by omega,by omega,hide rfl,hide rfl,HBr,hide (.inl ⟨rfl,rfl,rfl,rfl,rfl⟩),hide (by simp)⟩
   case round=>
    clear HBr
    obtain ⟨j,s2,no,co,Ao,d,cur,rfl,rfl,rfl,hjq,hs2,hno,HS,HFo,HB,HC,HL⟩:=hrel
    by_cases hlt:j < q
    ·have hj':j < is.length:=by rw [HQ.out]; exact hlt
     obtain ⟨b,o,A0,c0,B0,d0,rfl,hb,hF,k0,k1,hit⟩:=H1.out.at_it hj'
     have k0:=(HB.out.cell (p:=⟨b,o + j * 2,none⟩) hb).trans k0
     have k1:=(HB.out.cell (p:=⟨b,o + j * 2 + 1,none⟩) hb).trans k1
     have zz:=Nat.lt_of_lt_of_le hb HB.out.size
     have hx:=HOK.out is[j] (List.getElem_mem hj')
     have hTK:=List.take_succ_eq_append_getElem hj'
     have hST:=sumZ_take szI hj'
     obtain ⟨y,hy⟩:∃ y,is[j] = y:=⟨_,rfl⟩
     rw [hy] at k0 k1 hx hTK hit hST
     have HTK:=hide hTK
     have HST:=hide hST
     clear hy hTK hST
     obtain ⟨kl,hkl⟩:∃ kl,y.k.length = kl:=⟨_,rfl⟩
     obtain ⟨vl0,hvl⟩:∃ vl,y.v.length = vl:=⟨_,rfl⟩
     have hk2:kl ≤ 32:=hkl ▸ hx.2.1
     have hv2:vl0 ≤ 128:=hvl ▸ hx.2.2
     have HSZ:=hide (show szI y = 2 + kl + vl0 from by unfold szI; rw [hkl,hvl])
     rw [hkl] at k0 hit
     rw [hvl] at k1 hit
     have HIT:=hide hit
     clear hkl hvl hx hit
     have hjm:j + 1 ≤ 9223372036854775807:=by omega
     have HFN:=hide (show (is.take (j + 1)).foldl (cutStep szI sh) ([],[]) = cutStep szI sh (d,cur) y from by rw [HTK.out,List.foldl_append,HFo.out]; rfl)
     go_upto_region 14 with fail
     obtain ⟨w4,hw4⟩:∃ w4,wr.alloc (.cells #[.slice A0 kl c0,.slice B0 vl0 d0] TIt) = w4:=⟨_,rfl⟩
     obtain ⟨xb,hxb⟩:∃ xb,wr.heap.size = xb:=⟨_,rfl⟩
     have HB4:=hide (show Below wr.heap.size wr w4 from hw4 ▸ al_below wr _)
     have HX4:=hide (show Blk w4 xb TIt #[.slice A0 kl c0,.slice B0 vl0 d0] from hxb ▸ hw4 ▸ Blk.new _ _ _)
     rw [hw4,hxb]
     clear hw4 hxb k0 k1 zz
     have kx:=HX4.out.cell; have fx:=HX4.out.frozen; have zx:=HX4.out.lt
     go_upto_region 16 with (go_at_call 70; (refine (sizeItem_any (by omega) (by omega)).mono ?_); rintro e w5 ⟨rfl,hb5⟩; have HB5:=hide (HB.out.trans ((HB4.out.trans (hb5.mono HB4.out.size)).mono HB.out.size)); have HBr5:=hide (HB4.out.trans (hb5.mono HB4.out.size)); have HX5:=hide (HX4.out.below hb5 HX4.out.lt); clear hb5 kx fx zx)
     have hsz:2 + kl + vl0 ≤ 162:=by omega
     have HC5:=hide (show CutS w F w5 Ao no co d cur from HC.out.imp id (fun ⟨h1,h2,vd,vl,h3⟩=>⟨h1,h2,vd,vl,h3.below HBr5.out⟩))
     rcases HC5.out with ⟨e1,e2,e3,e4,e5⟩ | ⟨hc0,hno2,vd,vl,hM⟩
     ·have HRow:=hide (show w5.ownsRow w.heap.size TIts 1 (.slice Ao no co) no [] from by rw [e3,e4,e5]; exact World.ownsRow_nil _ _ _ _)
      have hz:((no:Int) == 0) = true:=by rw [e3]; rfl
      have HE:=hide (And.intro e1 (And.intro e2 e3))
      clear e1 e2 e3 e4 e5
      go_upto_region 18 with (at_builtin; refine wpList_append_any _ rfl (.tmp 62) (.tmp 63) _ rfl w.heap.size TIts i1 _ 1 24 Try.underlying29 HI1.out HZ1.out hy1 hy2 rfl (by omega) (.slice Ao no co) no [] rfl (own_later HRow.out (al_below w5 _)) _ (some ⟨w5.heap.size,0,none⟩) 1 1 [.slice none 0 0] rfl (reads_blk (Blk.new w5 TIts _) rfl rfl) (by intro u hu; simp at hu; subst hu; rfl) (by unfold maxLen; omega) (by omega) (Nat.le_trans HB5.out.size (al_below w5 _).size) ?_; intro v' w7 ho hgb hoo; (obtain ⟨A6,c6,rfl,hc6⟩:=own_slice ho); have HO6:=hide ho; have HG6:=hide hgb; clear ho hgb hoo)
      obtain ⟨go,rfl,hgo1,hgo2,hgo3⟩:=own_form HO6.out
      have HX7:=hide (show Blk w7 xb TIt #[.slice A0 kl c0,.slice B0 vl0 d0] from (HX5.out.alloc _).grown HG6.out (fun e=>own_blk_ne HRow.out HX5.out (by decide) e.symm))
      have HB7:=hide (show Below w.heap.size w w7 from (HB5.out.alloc HB5.out.size _).grown HG6.out (Nat.le_trans HB5.out.size (al_below w5 _).size) (fun k hk=>(HRow.out.lt k hk).1))
      obtain ⟨m,hmn⟩:∃ m,no = m:=⟨_,rfl⟩
      rw [hmn] at HO6 hgo3 hno
      obtain ⟨vdT,vlT,dT,curT,hM,hDm,hStep,hSum,hCl⟩:∃ vdT vlT dT curT,CutM ItR TIt TIts w F w7 (.slice (some ⟨go,0,none⟩) (m + 1) c6) vdT vlT dT curT ∧ dT.length = m ∧ cutStep szI sh (d,cur) y = (dT,curT ++ [y]) ∧ sumZ szI curT = 0 ∧ curT.length ≤ j:=by
       obtain ⟨e1,e2,e3⟩:=HE.out
       have hm0:m = 0:=by omega
       subst hm0
       subst e1 e2
       exact ⟨[],.slice none 0 0,[],[],CutM.first HO6.out,rfl,rfl,rfl,by simp⟩
      have HM:=hide hM; have HDm:=hide hDm; have HStep:=hide hStep; have HSum:=hide hSum; have HCl:=hide hCl
      clear hM hDm hStep hSum hCl
      rw [hmn]
      obtain ⟨xs,hxo,hxl⟩:=HM.out.last
      have HXO:=hide hxo
      have HXL:=hide hxl
      have HML:=hide (show vdT.length = m from by
       have:=HM.out.done
       have:=LR.len (fun a cs h=>PtR.one h) _ _ this
       rw [← HDm.out]
       omega)
      obtain ⟨nl,hnl⟩:∃ nl,curT.length = nl:=⟨_,rfl⟩
      have HNL:=hide hnl.symm
      rw [hnl] at HXO
      have hgo:=HM.out.out.lt go rfl
      have HLst:=hide (show ∀ g,vlT.ownBlock = some g → g ≠ go from fun g hg e=>by subst e; exact own_two hxo HM.out.out (by decide) hg rfl)
      clear hxo hxl hnl
      have HMO:=hide (show w7.ownsRow w.heap.size TIts 1 (.slice (some ⟨go,0,none⟩) (m + 1) c6) (m + 1) (vdT ++ [vlT]) from by
       have:=HM.out.out
       rwa [HDm.out] at this)
      have HGo:=hide (show w7.cell? ⟨go,m,none⟩ = some vlT from by
       have hc:=HMO.out.cellAt (cap:=c6) (g:=go) m (by omega)
       rw [hc,List.getElem?_append_right (by rw [HML.out]; exact Nat.le_refl _),HML.out]
       simp)
      have hmj:m ≤ 1000000000:=by omega
      have hwm:IntKind.i64.wrap (m:Int) = (m:Int):=by simp [IntKind.wrap,IntKind.bits,IntKind.signed]; omega
      have hnlj:nl ≤ j:=by rw [HNL.out]; exact HCl.out
      go_upto_region 19 with fail
      refine wp_region_dag (by kernel_rfl) (by kernel_rfl) 84 2
       [⟨some 65,[0,1,2],[],[],[],[],fun _ _ v _=>v = .slice (some ⟨go,0,none⟩) (m + 1) c6⟩,
        ⟨some 66,[0,1,2],[],[],[],[],fun _ _ v _=>v = .slice (some ⟨go,0,none⟩) (m + 1) c6⟩,
        ⟨some 67,[0,1,2],[],[],[1],[],fun _ _ v _=>v = .int .i64 ((m:Int) + 1)⟩,
        ⟨some 68,[0,1,2],[],[],[2],[],fun _ _ v _=>v = .int .i64 (m:Int)⟩,
        ⟨some 69,[0,1,2],[],[],[],[],fun _ _ v _=>v = .slice (some ⟨go,0,none⟩) (m + 1) c6⟩,
        ⟨some 70,[0,1,2],[],[],[],[],fun _ _ v _=>v = .slice (some ⟨go,0,none⟩) (m + 1) c6⟩,
        ⟨some 71,[0,1,2],[],[],[5],[],fun _ _ v _=>v = .int .i64 ((m:Int) + 1)⟩,
        ⟨some 72,[0,1,2],[],[],[6],[],fun _ _ v _=>v = .int .i64 (m:Int)⟩,
        ⟨some 73,[0,1,2],[],[],[4,7],[],fun _ _ v _=>v = .pointer (some ⟨go,m,none⟩)⟩,
        ⟨some 74,[0],[],[],[8],[],fun _ _ v _=>v = vlT⟩,
        ⟨some 75,[0],[],[],[],[],fun _ _ v _=>v = .agg #[.slice A0 kl c0,.slice B0 vl0 d0]⟩,
        ⟨some 76,[0],[],[],[10],[],fun st a v w'=>st = 0 → ∃ g,v = .slice (some ⟨g,0,none⟩) 1 1 ∧ Blk w' g TIt #[.slice A0 kl c0,.slice B0 vl0 d0]⟩,
        ⟨some 77,[0],[(0,1)],[1,2],[9,11],[],fun st a v w'=>R12 TIt w w7 vlT nl (xs ++ [.slice A0 kl c0,.slice B0 vl0 d0]) st v w'⟩,
        ⟨some 78,[0,1,2],[],[],[0,3],[],fun _ _ v _=>v = .pointer (some ⟨go,m,none⟩)⟩,
        ⟨none,[1],[(1,2)],[2],[12,13],[],fun _ _ _ _=>True⟩] (GC ItR TIt TIts w w7 F go c6 m vdT vlT curT y) (fun s s' _ _ _=>s < s') (fun _ w w'=>Below w.heap.size w w') ?gu ?ru ?put [65,66,67,68,69,70,71,72,73,74,75,76,77,78] rfl (by kernel_rfl) rfl ?g0 ?keep ?steps ?fin
      case ru=>
       intro e he s a v w w' hu hv
       simp only [List.mem_cons,List.not_mem_nil,or_false] at he
       rcases he with rfl | rfl | rfl | rfl | rfl | rfl | rfl | rfl | rfl | rfl | rfl | rfl | rfl | rfl | rfl
       all_goals first | exact hv | (intro h0; obtain ⟨g,e,hb⟩:=hv h0; exact ⟨g,e,hb.below hu hb.lt⟩) | (intro h0; obtain ⟨h1,h2⟩:=hv h0; exact ⟨own_later h1 hu,h2⟩)
      case put=>
       intro e he s a d u v w hnd hv
       simp only [List.mem_cons,List.not_mem_nil,or_false] at he
       rcases he with rfl | rfl | rfl | rfl | rfl | rfl | rfl | rfl | rfl | rfl | rfl | rfl | rfl | rfl | rfl
       all_goals first | exact hv
      case keep=>
       intro e he s s' a v w w' hsl hm ht hv
       simp only [List.mem_cons,List.not_mem_nil,or_false] at he
       rcases he with rfl | rfl | rfl | rfl | rfl | rfl | rfl | rfl | rfl | rfl | rfl | rfl | rfl | rfl | rfl
       all_goals first | exact hv | (intro h3; omega) | (intro h3; have:=hm rfl; simp at this; omega)
      case steps=>
       refine ⟨?_,?_,?_,?_,?_,?_,?_,?_,?_,?_,?_,?_,?_,?_,?_,trivial⟩
       ·intro st hst ac w3 hg hG hd K hK
        dsimp only at hst hG hK
        exact op_move _ rfl (hK _ _ (Below.refl _ _) (hg.kp 5 (by simp)))
       ·intro st hst ac w3 hg hG hd K hK
        dsimp only at hst hG hK
        exact op_move _ rfl (hK _ _ (Below.refl _ _) (hg.kp 5 (by simp)))
       ·intro st hst ac w3 hg hG hd K hK
        dsimp only at hst hG hK
        have f1:=hd 1 (by simp) _ rfl _ rfl
        (try simp [Act.eval] at f1)
        go_simp
        exact hK _ _ (Below.refl _ _) rfl
       ·intro st hst ac w3 hg hG hd K hK
        dsimp only at hst hG hK
        have f2:=hd 2 (by simp) _ rfl _ rfl
        (try simp [Act.eval] at f2)
        go_simp
        exact hK _ _ (Below.refl _ _) rfl
       ·intro st hst ac w3 hg hG hd K hK
        dsimp only at hst hG hK
        exact op_move _ rfl (hK _ _ (Below.refl _ _) (hg.kp 5 (by simp)))
       ·intro st hst ac w3 hg hG hd K hK
        dsimp only at hst hG hK
        exact op_move _ rfl (hK _ _ (Below.refl _ _) (hg.kp 5 (by simp)))
       ·intro st hst ac w3 hg hG hd K hK
        dsimp only at hst hG hK
        have f5:=hd 5 (by simp) _ rfl _ rfl
        (try simp [Act.eval] at f5)
        go_simp
        exact hK _ _ (Below.refl _ _) rfl
       ·intro st hst ac w3 hg hG hd K hK
        dsimp only at hst hG hK
        have f6:=hd 6 (by simp) _ rfl _ rfl
        (try simp [Act.eval] at f6)
        go_simp
        exact hK _ _ (Below.refl _ _) rfl
       ·intro st hst ac w3 hg hG hd K hK
        dsimp only at hst hG hK
        have f4:=hd 4 (by simp) _ rfl _ rfl
        have f7:=hd 7 (by simp) _ rfl _ rfl
        simp [Act.eval] at f4 f7
        go_simp
        rw [if_pos (by omega)]
        go_simp
        exact hK _ _ (Below.refl _ _) rfl
       ·intro st hst ac w3 hg hG hd K hK
        dsimp only at hst hG hK
        simp only [List.mem_cons,List.not_mem_nil,or_false] at hst
        subst hst
        have kk:=(heap_cell (p:=⟨go,m,none⟩) (hG.2.2.1 go hgo.2 (fun q=>by omega) (fun q=>by omega))).trans HGo.out
        have zz:=Nat.lt_of_lt_of_le hgo.2 hG.2.1
        clear hG
        have f8:=hd 8 (by simp) _ rfl _ rfl
        (try simp [Act.eval] at f8)
        go_simp
        exact hK _ _ (Below.refl _ _) rfl
       ·intro st hst ac w3 hg hG hd K hK
        dsimp only at hst hG hK
        simp only [List.mem_cons,List.not_mem_nil,or_false] at hst
        subst hst
        have hX:=HX7.out
        have hX3:Blk w3 xb TIt #[.slice A0 kl c0,.slice B0 vl0 d0]:=(hG.2.2.1 xb hX.lt (fun q=>by omega) (fun q=>by omega)).trans hX
        have kk:=hX3.cell 0
        have kk1:=hX3.cell 1
        have zz:=hX3.lt
        simp at kk kk1
        clear hG hX hX3
        have k13:=hg.kp 13 (by simp)
        (try simp [Act.eval] at k13)
        go_simp
        exact hK _ _ (Below.refl _ _) rfl
       ·intro st hst ac w3 hg hG hd K hK
        dsimp only at hst hG hK
        have f10:=hd 10 (by simp) _ rfl _ rfl
        simp [Act.eval] at f10
        go_simp
        exact hK _ _ (al_below w3 _) (fun _=>⟨_,rfl,Blk.new _ _ _⟩)
       ·intro st st' hmv ac w3 hg hG hd K hK
        simp only [List.mem_cons,Prod.mk.injEq,List.not_mem_nil,or_false] at hmv
        obtain ⟨rfl,rfl⟩:=hmv
        dsimp only at hG hK
        have f9:=hd 9 (by simp) _ rfl _ rfl
        obtain ⟨gl,f11,hbl⟩:=hd 11 (by simp) _ rfl _ rfl rfl
        refine wp_append_any w3 (.tmp 74) (.tmp 76) 32 rfl w.heap.size TIt i0 _ 2 48 Try.underlying32 HI0.out HZ0.out hz1 hz2 rfl (by omega) vlT nl xs f9 (row_keep HXO.out (fun j hj=>hG.2.2.1 j (HXO.out.lt j hj).2 (fun q=>by omega) (fun q=>by omega))) w3.heap.size (some ⟨gl,0,none⟩) 1 1 [.slice A0 kl c0,.slice B0 vl0 d0] f11 (reads_blk hbl rfl rfl) (by intro u hu; simp at hu; rcases hu with rfl | rfl <;> rfl) (by unfold maxLen; omega) (by omega) hG.1.size ?_
        intro v' w' ho hgb hoo
        exact hK _ _ (by decide) (hG.appended (v:=v') (fun k hk=>(HXO.out.lt k hk).1) hgb) (fun _=>⟨ho,hoo.imp id (fun e=>⟨_,e,hG.2.1⟩)⟩)
       ·intro st hst ac w3 hg hG hd K hK
        dsimp only at hst hG hK
        have f0:=hd 0 (by simp) _ rfl _ rfl
        have f3:=hd 3 (by simp) _ rfl _ rfl
        simp [Act.eval] at f0 f3
        go_simp
        rw [if_pos (by omega)]
        go_simp
        exact hK _ _ (Below.refl _ _) rfl
       ·intro st st' hmv ac w3 hg hG hd K hK
        simp only [List.mem_cons,Prod.mk.injEq,List.not_mem_nil,or_false] at hmv
        obtain ⟨rfl,rfl⟩:=hmv
        dsimp only at hG hK
        have f13:=hd 13 (by simp) _ rfl _ rfl
        have h12:=hd 12 (by simp) _ rfl _ rfl
        obtain ⟨v8,hv8⟩:∃ v8,ac.eval (.tmp 77) = v8:=⟨_,rfl⟩
        rw [hv8] at h12
        obtain ⟨A8,c8,rfl,hc8⟩:=own_slice (h12 rfl).1
        have zz:=Nat.lt_of_lt_of_le hgo.2 hG.2.1
        have kk:=(heap_cell (p:=⟨go,m,none⟩) (hG.2.2.1 go hgo.2 (fun _ e=>HLst.out go e rfl) (fun q=>by omega))).trans HGo.out
        have ff:=(hG.row HMO.out HLst.out).frozenAt m
        have HG:=hide hG
        have H12:=hide h12
        clear hG h12
        simp [Act.eval] at f13 hv8
        go_simp
        exact hK undef _ (by decide) (HG.out.stored H12.out (by decide) HMO.out HML.out HXL.out HNL.out HIT.out HLst.out) trivial
      case gu=>intro s w1 w2 hG hu; exact hG.below hu
      case g0=>exact ⟨(HB7.out).drew,Nat.le_refl _,fun _ _ _ _=>rfl,fun e=>by omega⟩
      case fin=>
       intro f9 w9 hG hall
       clear hall
       obtain ⟨v9,hM9⟩:=hG.done HM.out (by decide) HDm.out
       have HM9:=hide hM9
       have HB9:=hide hG.1
       clear hG hM9
       simp only [fillF,List.map_cons,List.map_nil,List.foldl_cons,List.foldl_nil,Act.put,List.setIfInBounds_toArray,List.set_cons_zero,List.set_cons_succ]
       go_wp2_with fail
       refine ⟨⟨j + 1,0 + (2 + kl + vl0),m + 1,c6,some ⟨go,0,none⟩,dT,curT ++ [y],rfl,by push_cast; first | rfl | simp,by push_cast; rfl,by omega,by omega,by omega,hide (by unfold sumZ; rw [List.map_append,List.sum_append]; show sumZ szI curT + _ = _; rw [HSum.out,← HSZ.out]; simp),hide (by rw [HFN.out,HStep.out]),HB9,hide (.inr ⟨by simp,by rw [HDm.out],_,_,HM9.out⟩),hide (by rw [List.length_append,List.length_singleton]; have:=HCl.out; omega)⟩,?_⟩
       simp [intOf]
       omega
     ·have HRow:=hide hM.out
      have HM0:=hide hM
      rw [← hno2] at HRow
      have HN2:=hide hno2
      have hz:((no:Int) == 0) = false:=by simp; omega
      have HC0:=hide hc0
      clear hM hc0 hno2
      by_cases hnew:505 < 1 + s2 + (2 + kl + vl0) ∨ sh ≤ s2
      ·have HStep:=hide (cutStep_yes szI (share:=sh) (d:=d) (x:=y) HC0.out (by rw [HS.out,HSZ.out]; exact hnew))
       have HSum:=hide (show sumZ szI ([]:List It) = 0 from rfl)
       have HBr':=Below.refl w5.heap.size w5
       by_cases hbig:505 < 1 + s2 + (2 + kl + vl0)
       ·go_upto_region 18 with (at_builtin; refine wpList_append_any _ rfl (.tmp 62) (.tmp 63) _ rfl w.heap.size TIts i1 _ 1 24 Try.underlying29 HI1.out HZ1.out hy1 hy2 rfl (by omega) (.slice Ao no co) no (vd ++ [vl]) rfl (own_later HRow.out (al_below w5 _)) _ (some ⟨w5.heap.size,0,none⟩) 1 1 [.slice none 0 0] rfl (reads_blk (Blk.new w5 TIts _) rfl rfl) (by intro u hu; simp at hu; subst hu; rfl) (by unfold maxLen; omega) (by omega) (Nat.le_trans HB5.out.size (al_below w5 _).size) ?_; intro v' w7 ho hgb hoo; (obtain ⟨A6,c6,rfl,hc6⟩:=own_slice ho); have HO6:=hide ho; have HG6:=hide hgb; clear ho hgb hoo)
        obtain ⟨go,rfl,hgo1,hgo2,hgo3⟩:=own_form HO6.out
        have HX7:=hide (show Blk w7 xb TIt #[.slice A0 kl c0,.slice B0 vl0 d0] from (HX5.out.alloc _).grown HG6.out (fun e=>own_blk_ne HRow.out HX5.out (by decide) e.symm))
        have HB7:=hide (show Below w.heap.size w w7 from (HB5.out.alloc HB5.out.size _).grown HG6.out (Nat.le_trans HB5.out.size (al_below w5 _).size) (fun k hk=>(HRow.out.lt k hk).1))
        obtain ⟨m,hmn⟩:∃ m,no = m:=⟨_,rfl⟩
        rw [hmn] at HO6 hgo3 hno
        obtain ⟨vdT,vlT,dT,curT,hM,hDm,hStep,hSum,hCl⟩:∃ vdT vlT dT curT,CutM ItR TIt TIts w F w7 (.slice (some ⟨go,0,none⟩) (m + 1) c6) vdT vlT dT curT ∧ dT.length = m ∧ cutStep szI sh (d,cur) y = (dT,curT ++ [y]) ∧ sumZ szI curT = 0 ∧ curT.length ≤ j:=by
         refine ⟨vd ++ [vl],.slice none 0 0,d ++ [cur],[],(HM0.out.below HBr').more (by decide) (al_below w5 _) HG6.out ?_,?_,HStep.out,rfl,by simp⟩
         ·have:=HO6.out
          rw [← hmn,HN2.out] at this
          rw [← hmn,HN2.out]
          exact this
         ·rw [List.length_append,List.length_singleton,← HN2.out,hmn]
        have HM:=hide hM; have HDm:=hide hDm; have HStep:=hide hStep; have HSum:=hide hSum; have HCl:=hide hCl
        clear hM hDm hStep hSum hCl
        rw [hmn]
        obtain ⟨xs,hxo,hxl⟩:=HM.out.last
        have HXO:=hide hxo
        have HXL:=hide hxl
        have HML:=hide (show vdT.length = m from by
         have:=HM.out.done
         have:=LR.len (fun a cs h=>PtR.one h) _ _ this
         rw [← HDm.out]
         omega)
        obtain ⟨nl,hnl⟩:∃ nl,curT.length = nl:=⟨_,rfl⟩
        have HNL:=hide hnl.symm
        rw [hnl] at HXO
        have hgo:=HM.out.out.lt go rfl
        have HLst:=hide (show ∀ g,vlT.ownBlock = some g → g ≠ go from fun g hg e=>by subst e; exact own_two hxo HM.out.out (by decide) hg rfl)
        clear hxo hxl hnl
        have HMO:=hide (show w7.ownsRow w.heap.size TIts 1 (.slice (some ⟨go,0,none⟩) (m + 1) c6) (m + 1) (vdT ++ [vlT]) from by
         have:=HM.out.out
         rwa [HDm.out] at this)
        have HGo:=hide (show w7.cell? ⟨go,m,none⟩ = some vlT from by
         have hc:=HMO.out.cellAt (cap:=c6) (g:=go) m (by omega)
         rw [hc,List.getElem?_append_right (by rw [HML.out]; exact Nat.le_refl _),HML.out]
         simp)
        have hmj:m ≤ 1000000000:=by omega
        have hwm:IntKind.i64.wrap (m:Int) = (m:Int):=by simp [IntKind.wrap,IntKind.bits,IntKind.signed]; omega
        have hnlj:nl ≤ j:=by rw [HNL.out]; exact HCl.out
        go_upto_region 19 with fail
        refine wp_region_dag (by kernel_rfl) (by kernel_rfl) 84 2
         [⟨some 65,[0,1,2],[],[],[],[],fun _ _ v _=>v = .slice (some ⟨go,0,none⟩) (m + 1) c6⟩,
          ⟨some 66,[0,1,2],[],[],[],[],fun _ _ v _=>v = .slice (some ⟨go,0,none⟩) (m + 1) c6⟩,
          ⟨some 67,[0,1,2],[],[],[1],[],fun _ _ v _=>v = .int .i64 ((m:Int) + 1)⟩,
          ⟨some 68,[0,1,2],[],[],[2],[],fun _ _ v _=>v = .int .i64 (m:Int)⟩,
          ⟨some 69,[0,1,2],[],[],[],[],fun _ _ v _=>v = .slice (some ⟨go,0,none⟩) (m + 1) c6⟩,
          ⟨some 70,[0,1,2],[],[],[],[],fun _ _ v _=>v = .slice (some ⟨go,0,none⟩) (m + 1) c6⟩,
          ⟨some 71,[0,1,2],[],[],[5],[],fun _ _ v _=>v = .int .i64 ((m:Int) + 1)⟩,
          ⟨some 72,[0,1,2],[],[],[6],[],fun _ _ v _=>v = .int .i64 (m:Int)⟩,
          ⟨some 73,[0,1,2],[],[],[4,7],[],fun _ _ v _=>v = .pointer (some ⟨go,m,none⟩)⟩,
          ⟨some 74,[0],[],[],[8],[],fun _ _ v _=>v = vlT⟩,
          ⟨some 75,[0],[],[],[],[],fun _ _ v _=>v = .agg #[.slice A0 kl c0,.slice B0 vl0 d0]⟩,
          ⟨some 76,[0],[],[],[10],[],fun st a v w'=>st = 0 → ∃ g,v = .slice (some ⟨g,0,none⟩) 1 1 ∧ Blk w' g TIt #[.slice A0 kl c0,.slice B0 vl0 d0]⟩,
          ⟨some 77,[0],[(0,1)],[1,2],[9,11],[],fun st a v w'=>R12 TIt w w7 vlT nl (xs ++ [.slice A0 kl c0,.slice B0 vl0 d0]) st v w'⟩,
          ⟨some 78,[0,1,2],[],[],[0,3],[],fun _ _ v _=>v = .pointer (some ⟨go,m,none⟩)⟩,
          ⟨none,[1],[(1,2)],[2],[12,13],[],fun _ _ _ _=>True⟩] (GC ItR TIt TIts w w7 F go c6 m vdT vlT curT y) (fun s s' _ _ _=>s < s') (fun _ w w'=>Below w.heap.size w w') ?gu ?ru ?put [65,66,67,68,69,70,71,72,73,74,75,76,77,78] rfl (by kernel_rfl) rfl ?g0 ?keep ?steps ?fin
        case ru=>
         intro e he s a v w w' hu hv
         simp only [List.mem_cons,List.not_mem_nil,or_false] at he
         rcases he with rfl | rfl | rfl | rfl | rfl | rfl | rfl | rfl | rfl | rfl | rfl | rfl | rfl | rfl | rfl
         all_goals first | exact hv | (intro h0; obtain ⟨g,e,hb⟩:=hv h0; exact ⟨g,e,hb.below hu hb.lt⟩) | (intro h0; obtain ⟨h1,h2⟩:=hv h0; exact ⟨own_later h1 hu,h2⟩)
        case put=>
         intro e he s a d u v w hnd hv
         simp only [List.mem_cons,List.not_mem_nil,or_false] at he
         rcases he with rfl | rfl | rfl | rfl | rfl | rfl | rfl | rfl | rfl | rfl | rfl | rfl | rfl | rfl | rfl
         all_goals first | exact hv
        case keep=>
         intro e he s s' a v w w' hsl hm ht hv
         simp only [List.mem_cons,List.not_mem_nil,or_false] at he
         rcases he with rfl | rfl | rfl | rfl | rfl | rfl | rfl | rfl | rfl | rfl | rfl | rfl | rfl | rfl | rfl
         all_goals first | exact hv | (intro h3; omega) | (intro h3; have:=hm rfl; simp at this; omega)
        case steps=>
         refine ⟨?_,?_,?_,?_,?_,?_,?_,?_,?_,?_,?_,?_,?_,?_,?_,trivial⟩
         ·intro st hst ac w3 hg hG hd K hK
          dsimp only at hst hG hK
          exact op_move _ rfl (hK _ _ (Below.refl _ _) (hg.kp 5 (by simp)))
         ·intro st hst ac w3 hg hG hd K hK
          dsimp only at hst hG hK
          exact op_move _ rfl (hK _ _ (Below.refl _ _) (hg.kp 5 (by simp)))
         ·intro st hst ac w3 hg hG hd K hK
          dsimp only at hst hG hK
          have f1:=hd 1 (by simp) _ rfl _ rfl
          (try simp [Act.eval] at f1)
          go_simp
          exact hK _ _ (Below.refl _ _) rfl
         ·intro st hst ac w3 hg hG hd K hK
          dsimp only at hst hG hK
          have f2:=hd 2 (by simp) _ rfl _ rfl
          (try simp [Act.eval] at f2)
          go_simp
          exact hK _ _ (Below.refl _ _) rfl
         ·intro st hst ac w3 hg hG hd K hK
          dsimp only at hst hG hK
          exact op_move _ rfl (hK _ _ (Below.refl _ _) (hg.kp 5 (by simp)))
         ·intro st hst ac w3 hg hG hd K hK
          dsimp only at hst hG hK
          exact op_move _ rfl (hK _ _ (Below.refl _ _) (hg.kp 5 (by simp)))
         ·intro st hst ac w3 hg hG hd K hK
          dsimp only at hst hG hK
          have f5:=hd 5 (by simp) _ rfl _ rfl
          (try simp [Act.eval] at f5)
          go_simp
          exact hK _ _ (Below.refl _ _) rfl
         ·intro st hst ac w3 hg hG hd K hK
          dsimp only at hst hG hK
          have f6:=hd 6 (by simp) _ rfl _ rfl
          (try simp [Act.eval] at f6)
          go_simp
          exact hK _ _ (Below.refl _ _) rfl
         ·intro st hst ac w3 hg hG hd K hK
          dsimp only at hst hG hK
          have f4:=hd 4 (by simp) _ rfl _ rfl
          have f7:=hd 7 (by simp) _ rfl _ rfl
          simp [Act.eval] at f4 f7
          go_simp
          rw [if_pos (by omega)]
          go_simp
          exact hK _ _ (Below.refl _ _) rfl
         ·intro st hst ac w3 hg hG hd K hK
          dsimp only at hst hG hK
          simp only [List.mem_cons,List.not_mem_nil,or_false] at hst
          subst hst
          have kk:=(heap_cell (p:=⟨go,m,none⟩) (hG.2.2.1 go hgo.2 (fun q=>by omega) (fun q=>by omega))).trans HGo.out
          have zz:=Nat.lt_of_lt_of_le hgo.2 hG.2.1
          clear hG
          have f8:=hd 8 (by simp) _ rfl _ rfl
          (try simp [Act.eval] at f8)
          go_simp
          exact hK _ _ (Below.refl _ _) rfl
         ·intro st hst ac w3 hg hG hd K hK
          dsimp only at hst hG hK
          simp only [List.mem_cons,List.not_mem_nil,or_false] at hst
          subst hst
          have hX:=HX7.out
          have hX3:Blk w3 xb TIt #[.slice A0 kl c0,.slice B0 vl0 d0]:=(hG.2.2.1 xb hX.lt (fun q=>by omega) (fun q=>by omega)).trans hX
          have kk:=hX3.cell 0
          have kk1:=hX3.cell 1
          have zz:=hX3.lt
          simp at kk kk1
          clear hG hX hX3
          have k13:=hg.kp 13 (by simp)
          (try simp [Act.eval] at k13)
          go_simp
          exact hK _ _ (Below.refl _ _) rfl
         ·intro st hst ac w3 hg hG hd K hK
          dsimp only at hst hG hK
          have f10:=hd 10 (by simp) _ rfl _ rfl
          simp [Act.eval] at f10
          go_simp
          exact hK _ _ (al_below w3 _) (fun _=>⟨_,rfl,Blk.new _ _ _⟩)
         ·intro st st' hmv ac w3 hg hG hd K hK
          simp only [List.mem_cons,Prod.mk.injEq,List.not_mem_nil,or_false] at hmv
          obtain ⟨rfl,rfl⟩:=hmv
          dsimp only at hG hK
          have f9:=hd 9 (by simp) _ rfl _ rfl
          obtain ⟨gl,f11,hbl⟩:=hd 11 (by simp) _ rfl _ rfl rfl
          refine wp_append_any w3 (.tmp 74) (.tmp 76) 32 rfl w.heap.size TIt i0 _ 2 48 Try.underlying32 HI0.out HZ0.out hz1 hz2 rfl (by omega) vlT nl xs f9 (row_keep HXO.out (fun j hj=>hG.2.2.1 j (HXO.out.lt j hj).2 (fun q=>by omega) (fun q=>by omega))) w3.heap.size (some ⟨gl,0,none⟩) 1 1 [.slice A0 kl c0,.slice B0 vl0 d0] f11 (reads_blk hbl rfl rfl) (by intro u hu; simp at hu; rcases hu with rfl | rfl <;> rfl) (by unfold maxLen; omega) (by omega) hG.1.size ?_
          intro v' w' ho hgb hoo
          exact hK _ _ (by decide) (hG.appended (v:=v') (fun k hk=>(HXO.out.lt k hk).1) hgb) (fun _=>⟨ho,hoo.imp id (fun e=>⟨_,e,hG.2.1⟩)⟩)
         ·intro st hst ac w3 hg hG hd K hK
          dsimp only at hst hG hK
          have f0:=hd 0 (by simp) _ rfl _ rfl
          have f3:=hd 3 (by simp) _ rfl _ rfl
          simp [Act.eval] at f0 f3
          go_simp
          rw [if_pos (by omega)]
          go_simp
          exact hK _ _ (Below.refl _ _) rfl
         ·intro st st' hmv ac w3 hg hG hd K hK
          simp only [List.mem_cons,Prod.mk.injEq,List.not_mem_nil,or_false] at hmv
          obtain ⟨rfl,rfl⟩:=hmv
          dsimp only at hG hK
          have f13:=hd 13 (by simp) _ rfl _ rfl
          have h12:=hd 12 (by simp) _ rfl _ rfl
          obtain ⟨v8,hv8⟩:∃ v8,ac.eval (.tmp 77) = v8:=⟨_,rfl⟩
          rw [hv8] at h12
          obtain ⟨A8,c8,rfl,hc8⟩:=own_slice (h12 rfl).1
          have zz:=Nat.lt_of_lt_of_le hgo.2 hG.2.1
          have kk:=(heap_cell (p:=⟨go,m,none⟩) (hG.2.2.1 go hgo.2 (fun _ e=>HLst.out go e rfl) (fun q=>by omega))).trans HGo.out
          have ff:=(hG.row HMO.out HLst.out).frozenAt m
          have HG:=hide hG
          have H12:=hide h12
          clear hG h12
          simp [Act.eval] at f13 hv8
          go_simp
          exact hK undef _ (by decide) (HG.out.stored H12.out (by decide) HMO.out HML.out HXL.out HNL.out HIT.out HLst.out) trivial
        case gu=>intro s w1 w2 hG hu; exact hG.below hu
        case g0=>exact ⟨(HB7.out).drew,Nat.le_refl _,fun _ _ _ _=>rfl,fun e=>by omega⟩
        case fin=>
         intro f9 w9 hG hall
         clear hall
         obtain ⟨v9,hM9⟩:=hG.done HM.out (by decide) HDm.out
         have HM9:=hide hM9
         have HB9:=hide hG.1
         clear hG hM9
         simp only [fillF,List.map_cons,List.map_nil,List.foldl_cons,List.foldl_nil,Act.put,List.setIfInBounds_toArray,List.set_cons_zero,List.set_cons_succ]
         go_wp2_with fail
         refine ⟨⟨j + 1,0 + (2 + kl + vl0),m + 1,c6,some ⟨go,0,none⟩,dT,curT ++ [y],rfl,by push_cast; first | rfl | simp,by push_cast; rfl,by omega,by omega,by omega,hide (by unfold sumZ; rw [List.map_append,List.sum_append]; show sumZ szI curT + _ = _; rw [HSum.out,← HSZ.out]; simp),hide (by rw [HFN.out,HStep.out]),HB9,hide (.inr ⟨by simp,by rw [HDm.out],_,_,HM9.out⟩),hide (by rw [List.length_append,List.length_singleton]; have:=HCl.out; omega)⟩,?_⟩
         simp [intOf]
         omega
       ·have hshr:sh ≤ s2:=by omega
        go_upto_region 18 with (at_builtin; refine wpList_append_any _ rfl (.tmp 62) (.tmp 63) _ rfl w.heap.size TIts i1 _ 1 24 Try.underlying29 HI1.out HZ1.out hy1 hy2 rfl (by omega) (.slice Ao no co) no (vd ++ [vl]) rfl (own_later HRow.out (al_below w5 _)) _ (some ⟨w5.heap.size,0,none⟩) 1 1 [.slice none 0 0] rfl (reads_blk (Blk.new w5 TIts _) rfl rfl) (by intro u hu; simp at hu; subst hu; rfl) (by unfold maxLen; omega) (by omega) (Nat.le_trans HB5.out.size (al_below w5 _).size) ?_; intro v' w7 ho hgb hoo; (obtain ⟨A6,c6,rfl,hc6⟩:=own_slice ho); have HO6:=hide ho; have HG6:=hide hgb; clear ho hgb hoo)
        obtain ⟨go,rfl,hgo1,hgo2,hgo3⟩:=own_form HO6.out
        have HX7:=hide (show Blk w7 xb TIt #[.slice A0 kl c0,.slice B0 vl0 d0] from (HX5.out.alloc _).grown HG6.out (fun e=>own_blk_ne HRow.out HX5.out (by decide) e.symm))
        have HB7:=hide (show Below w.heap.size w w7 from (HB5.out.alloc HB5.out.size _).grown HG6.out (Nat.le_trans HB5.out.size (al_below w5 _).size) (fun k hk=>(HRow.out.lt k hk).1))
        obtain ⟨m,hmn⟩:∃ m,no = m:=⟨_,rfl⟩
        rw [hmn] at HO6 hgo3 hno
        obtain ⟨vdT,vlT,dT,curT,hM,hDm,hStep,hSum,hCl⟩:∃ vdT vlT dT curT,CutM ItR TIt TIts w F w7 (.slice (some ⟨go,0,none⟩) (m + 1) c6) vdT vlT dT curT ∧ dT.length = m ∧ cutStep szI sh (d,cur) y = (dT,curT ++ [y]) ∧ sumZ szI curT = 0 ∧ curT.length ≤ j:=by
         refine ⟨vd ++ [vl],.slice none 0 0,d ++ [cur],[],(HM0.out.below HBr').more (by decide) (al_below w5 _) HG6.out ?_,?_,HStep.out,rfl,by simp⟩
         ·have:=HO6.out
          rw [← hmn,HN2.out] at this
          rw [← hmn,HN2.out]
          exact this
         ·rw [List.length_append,List.length_singleton,← HN2.out,hmn]
        have HM:=hide hM; have HDm:=hide hDm; have HStep:=hide hStep; have HSum:=hide hSum; have HCl:=hide hCl
        clear hM hDm hStep hSum hCl
        rw [hmn]
        obtain ⟨xs,hxo,hxl⟩:=HM.out.last
        have HXO:=hide hxo
        have HXL:=hide hxl
        have HML:=hide (show vdT.length = m from by
         have:=HM.out.done
         have:=LR.len (fun a cs h=>PtR.one h) _ _ this
         rw [← HDm.out]
         omega)
        obtain ⟨nl,hnl⟩:∃ nl,curT.length = nl:=⟨_,rfl⟩
        have HNL:=hide hnl.symm
        rw [hnl] at HXO
        have hgo:=HM.out.out.lt go rfl
        have HLst:=hide (show ∀ g,vlT.ownBlock = some g → g ≠ go from fun g hg e=>by subst e; exact own_two hxo HM.out.out (by decide) hg rfl)
        clear hxo hxl hnl
        have HMO:=hide (show w7.ownsRow w.heap.size TIts 1 (.slice (some ⟨go,0,none⟩) (m + 1) c6) (m + 1) (vdT ++ [vlT]) from by
         have:=HM.out.out
         rwa [HDm.out] at this)
        have HGo:=hide (show w7.cell? ⟨go,m,none⟩ = some vlT from by
         have hc:=HMO.out.cellAt (cap:=c6) (g:=go) m (by omega)
         rw [hc,List.getElem?_append_right (by rw [HML.out]; exact Nat.le_refl _),HML.out]
         simp)
        have hmj:m ≤ 1000000000:=by omega
        have hwm:IntKind.i64.wrap (m:Int) = (m:Int):=by simp [IntKind.wrap,IntKind.bits,IntKind.signed]; omega
        have hnlj:nl ≤ j:=by rw [HNL.out]; exact HCl.out
        go_upto_region 19 with fail
        refine wp_region_dag (by kernel_rfl) (by kernel_rfl) 84 2
         [⟨some 65,[0,1,2],[],[],[],[],fun _ _ v _=>v = .slice (some ⟨go,0,none⟩) (m + 1) c6⟩,
          ⟨some 66,[0,1,2],[],[],[],[],fun _ _ v _=>v = .slice (some ⟨go,0,none⟩) (m + 1) c6⟩,
          ⟨some 67,[0,1,2],[],[],[1],[],fun _ _ v _=>v = .int .i64 ((m:Int) + 1)⟩,
          ⟨some 68,[0,1,2],[],[],[2],[],fun _ _ v _=>v = .int .i64 (m:Int)⟩,
          ⟨some 69,[0,1,2],[],[],[],[],fun _ _ v _=>v = .slice (some ⟨go,0,none⟩) (m + 1) c6⟩,
          ⟨some 70,[0,1,2],[],[],[],[],fun _ _ v _=>v = .slice (some ⟨go,0,none⟩) (m + 1) c6⟩,
          ⟨some 71,[0,1,2],[],[],[5],[],fun _ _ v _=>v = .int .i64 ((m:Int) + 1)⟩,
          ⟨some 72,[0,1,2],[],[],[6],[],fun _ _ v _=>v = .int .i64 (m:Int)⟩,
          ⟨some 73,[0,1,2],[],[],[4,7],[],fun _ _ v _=>v = .pointer (some ⟨go,m,none⟩)⟩,
          ⟨some 74,[0],[],[],[8],[],fun _ _ v _=>v = vlT⟩,
          ⟨some 75,[0],[],[],[],[],fun _ _ v _=>v = .agg #[.slice A0 kl c0,.slice B0 vl0 d0]⟩,
          ⟨some 76,[0],[],[],[10],[],fun st a v w'=>st = 0 → ∃ g,v = .slice (some ⟨g,0,none⟩) 1 1 ∧ Blk w' g TIt #[.slice A0 kl c0,.slice B0 vl0 d0]⟩,
          ⟨some 77,[0],[(0,1)],[1,2],[9,11],[],fun st a v w'=>R12 TIt w w7 vlT nl (xs ++ [.slice A0 kl c0,.slice B0 vl0 d0]) st v w'⟩,
          ⟨some 78,[0,1,2],[],[],[0,3],[],fun _ _ v _=>v = .pointer (some ⟨go,m,none⟩)⟩,
          ⟨none,[1],[(1,2)],[2],[12,13],[],fun _ _ _ _=>True⟩] (GC ItR TIt TIts w w7 F go c6 m vdT vlT curT y) (fun s s' _ _ _=>s < s') (fun _ w w'=>Below w.heap.size w w') ?gu ?ru ?put [65,66,67,68,69,70,71,72,73,74,75,76,77,78] rfl (by kernel_rfl) rfl ?g0 ?keep ?steps ?fin
        case ru=>
         intro e he s a v w w' hu hv
         simp only [List.mem_cons,List.not_mem_nil,or_false] at he
         rcases he with rfl | rfl | rfl | rfl | rfl | rfl | rfl | rfl | rfl | rfl | rfl | rfl | rfl | rfl | rfl
         all_goals first | exact hv | (intro h0; obtain ⟨g,e,hb⟩:=hv h0; exact ⟨g,e,hb.below hu hb.lt⟩) | (intro h0; obtain ⟨h1,h2⟩:=hv h0; exact ⟨own_later h1 hu,h2⟩)
        case put=>
         intro e he s a d u v w hnd hv
         simp only [List.mem_cons,List.not_mem_nil,or_false] at he
         rcases he with rfl | rfl | rfl | rfl | rfl | rfl | rfl | rfl | rfl | rfl | rfl | rfl | rfl | rfl | rfl
         all_goals first | exact hv
        case keep=>
         intro e he s s' a v w w' hsl hm ht hv
         simp only [List.mem_cons,List.not_mem_nil,or_false] at he
         rcases he with rfl | rfl | rfl | rfl | rfl | rfl | rfl | rfl | rfl | rfl | rfl | rfl | rfl | rfl | rfl
         all_goals first | exact hv | (intro h3; omega) | (intro h3; have:=hm rfl; simp at this; omega)
        case steps=>
         refine ⟨?_,?_,?_,?_,?_,?_,?_,?_,?_,?_,?_,?_,?_,?_,?_,trivial⟩
         ·intro st hst ac w3 hg hG hd K hK
          dsimp only at hst hG hK
          exact op_move _ rfl (hK _ _ (Below.refl _ _) (hg.kp 5 (by simp)))
         ·intro st hst ac w3 hg hG hd K hK
          dsimp only at hst hG hK
          exact op_move _ rfl (hK _ _ (Below.refl _ _) (hg.kp 5 (by simp)))
         ·intro st hst ac w3 hg hG hd K hK
          dsimp only at hst hG hK
          have f1:=hd 1 (by simp) _ rfl _ rfl
          (try simp [Act.eval] at f1)
          go_simp
          exact hK _ _ (Below.refl _ _) rfl
         ·intro st hst ac w3 hg hG hd K hK
          dsimp only at hst hG hK
          have f2:=hd 2 (by simp) _ rfl _ rfl
          (try simp [Act.eval] at f2)
          go_simp
          exact hK _ _ (Below.refl _ _) rfl
         ·intro st hst ac w3 hg hG hd K hK
          dsimp only at hst hG hK
          exact op_move _ rfl (hK _ _ (Below.refl _ _) (hg.kp 5 (by simp)))
         ·intro st hst ac w3 hg hG hd K hK
          dsimp only at hst hG hK
          exact op_move _ rfl (hK _ _ (Below.refl _ _) (hg.kp 5 (by simp)))
         ·intro st hst ac w3 hg hG hd K hK
          dsimp only at hst hG hK
          have f5:=hd 5 (by simp) _ rfl _ rfl
          (try simp [Act.eval] at f5)
          go_simp
          exact hK _ _ (Below.refl _ _) rfl
         ·intro st hst ac w3 hg hG hd K hK
          dsimp only at hst hG hK
          have f6:=hd 6 (by simp) _ rfl _ rfl
          (try simp [Act.eval] at f6)
          go_simp
          exact hK _ _ (Below.refl _ _) rfl
         ·intro st hst ac w3 hg hG hd K hK
          dsimp only at hst hG hK
          have f4:=hd 4 (by simp) _ rfl _ rfl
          have f7:=hd 7 (by simp) _ rfl _ rfl
          simp [Act.eval] at f4 f7
          go_simp
          rw [if_pos (by omega)]
          go_simp
          exact hK _ _ (Below.refl _ _) rfl
         ·intro st hst ac w3 hg hG hd K hK
          dsimp only at hst hG hK
          simp only [List.mem_cons,List.not_mem_nil,or_false] at hst
          subst hst
          have kk:=(heap_cell (p:=⟨go,m,none⟩) (hG.2.2.1 go hgo.2 (fun q=>by omega) (fun q=>by omega))).trans HGo.out
          have zz:=Nat.lt_of_lt_of_le hgo.2 hG.2.1
          clear hG
          have f8:=hd 8 (by simp) _ rfl _ rfl
          (try simp [Act.eval] at f8)
          go_simp
          exact hK _ _ (Below.refl _ _) rfl
         ·intro st hst ac w3 hg hG hd K hK
          dsimp only at hst hG hK
          simp only [List.mem_cons,List.not_mem_nil,or_false] at hst
          subst hst
          have hX:=HX7.out
          have hX3:Blk w3 xb TIt #[.slice A0 kl c0,.slice B0 vl0 d0]:=(hG.2.2.1 xb hX.lt (fun q=>by omega) (fun q=>by omega)).trans hX
          have kk:=hX3.cell 0
          have kk1:=hX3.cell 1
          have zz:=hX3.lt
          simp at kk kk1
          clear hG hX hX3
          have k13:=hg.kp 13 (by simp)
          (try simp [Act.eval] at k13)
          go_simp
          exact hK _ _ (Below.refl _ _) rfl
         ·intro st hst ac w3 hg hG hd K hK
          dsimp only at hst hG hK
          have f10:=hd 10 (by simp) _ rfl _ rfl
          simp [Act.eval] at f10
          go_simp
          exact hK _ _ (al_below w3 _) (fun _=>⟨_,rfl,Blk.new _ _ _⟩)
         ·intro st st' hmv ac w3 hg hG hd K hK
          simp only [List.mem_cons,Prod.mk.injEq,List.not_mem_nil,or_false] at hmv
          obtain ⟨rfl,rfl⟩:=hmv
          dsimp only at hG hK
          have f9:=hd 9 (by simp) _ rfl _ rfl
          obtain ⟨gl,f11,hbl⟩:=hd 11 (by simp) _ rfl _ rfl rfl
          refine wp_append_any w3 (.tmp 74) (.tmp 76) 32 rfl w.heap.size TIt i0 _ 2 48 Try.underlying32 HI0.out HZ0.out hz1 hz2 rfl (by omega) vlT nl xs f9 (row_keep HXO.out (fun j hj=>hG.2.2.1 j (HXO.out.lt j hj).2 (fun q=>by omega) (fun q=>by omega))) w3.heap.size (some ⟨gl,0,none⟩) 1 1 [.slice A0 kl c0,.slice B0 vl0 d0] f11 (reads_blk hbl rfl rfl) (by intro u hu; simp at hu; rcases hu with rfl | rfl <;> rfl) (by unfold maxLen; omega) (by omega) hG.1.size ?_
          intro v' w' ho hgb hoo
          exact hK _ _ (by decide) (hG.appended (v:=v') (fun k hk=>(HXO.out.lt k hk).1) hgb) (fun _=>⟨ho,hoo.imp id (fun e=>⟨_,e,hG.2.1⟩)⟩)
         ·intro st hst ac w3 hg hG hd K hK
          dsimp only at hst hG hK
          have f0:=hd 0 (by simp) _ rfl _ rfl
          have f3:=hd 3 (by simp) _ rfl _ rfl
          simp [Act.eval] at f0 f3
          go_simp
          rw [if_pos (by omega)]
          go_simp
          exact hK _ _ (Below.refl _ _) rfl
         ·intro st st' hmv ac w3 hg hG hd K hK
          simp only [List.mem_cons,Prod.mk.injEq,List.not_mem_nil,or_false] at hmv
          obtain ⟨rfl,rfl⟩:=hmv
          dsimp only at hG hK
          have f13:=hd 13 (by simp) _ rfl _ rfl
          have h12:=hd 12 (by simp) _ rfl _ rfl
          obtain ⟨v8,hv8⟩:∃ v8,ac.eval (.tmp 77) = v8:=⟨_,rfl⟩
          rw [hv8] at h12
          obtain ⟨A8,c8,rfl,hc8⟩:=own_slice (h12 rfl).1
          have zz:=Nat.lt_of_lt_of_le hgo.2 hG.2.1
          have kk:=(heap_cell (p:=⟨go,m,none⟩) (hG.2.2.1 go hgo.2 (fun _ e=>HLst.out go e rfl) (fun q=>by omega))).trans HGo.out
          have ff:=(hG.row HMO.out HLst.out).frozenAt m
          have HG:=hide hG
          have H12:=hide h12
          clear hG h12
          simp [Act.eval] at f13 hv8
          go_simp
          exact hK undef _ (by decide) (HG.out.stored H12.out (by decide) HMO.out HML.out HXL.out HNL.out HIT.out HLst.out) trivial
        case gu=>intro s w1 w2 hG hu; exact hG.below hu
        case g0=>exact ⟨(HB7.out).drew,Nat.le_refl _,fun _ _ _ _=>rfl,fun e=>by omega⟩
        case fin=>
         intro f9 w9 hG hall
         clear hall
         obtain ⟨v9,hM9⟩:=hG.done HM.out (by decide) HDm.out
         have HM9:=hide hM9
         have HB9:=hide hG.1
         clear hG hM9
         simp only [fillF,List.map_cons,List.map_nil,List.foldl_cons,List.foldl_nil,Act.put,List.setIfInBounds_toArray,List.set_cons_zero,List.set_cons_succ]
         go_wp2_with fail
         refine ⟨⟨j + 1,0 + (2 + kl + vl0),m + 1,c6,some ⟨go,0,none⟩,dT,curT ++ [y],rfl,by push_cast; first | rfl | simp,by push_cast; rfl,by omega,by omega,by omega,hide (by unfold sumZ; rw [List.map_append,List.sum_append]; show sumZ szI curT + _ = _; rw [HSum.out,← HSZ.out]; simp),hide (by rw [HFN.out,HStep.out]),HB9,hide (.inr ⟨by simp,by rw [HDm.out],_,_,HM9.out⟩),hide (by rw [List.length_append,List.length_singleton]; have:=HCl.out; omega)⟩,?_⟩
         simp [intOf]
         omega
      ·have HStep:=hide (cutStep_no szI (share:=sh) (d:=d) (x:=y) HC0.out (by rw [HS.out,HSZ.out]; exact hnew))
       have hbig:¬ 505 < 1 + s2 + (2 + kl + vl0):=by omega
       have hshr:s2 < sh:=by omega
       obtain ⟨m,hm⟩:∃ m,d.length = m:=⟨_,rfl⟩
       have HDm:=hide hm
       obtain rfl:no = m + 1:=by have:=HN2.out; omega
       have HO5:=hide (show w5.ownsRow w.heap.size TIts 1 (.slice Ao (m + 1) co) (m + 1) (vd ++ [vl]) from HRow.out)
       obtain ⟨go,rfl,hgo1,hgo2,hgo3⟩:=own_form HO5.out
       obtain ⟨vdT,vlT,dT,curT,hM,hDm,hStep,hSum,hCl⟩:∃ vdT vlT dT curT,CutM ItR TIt TIts w F w5 (.slice (some ⟨go,0,none⟩) (m + 1) co) vdT vlT dT curT ∧ dT.length = m ∧ cutStep szI sh (d,cur) y = (dT,curT ++ [y]) ∧ sumZ szI curT = s2 ∧ curT.length ≤ j:=⟨_,_,_,_,HM0.out,hm,HStep.out,HS.out,HL.out⟩
       have HM:=hide hM; have HDm:=hide hDm; have HStep:=hide hStep; have HSum:=hide hSum; have HCl:=hide hCl
       have HX7:=HX5
       have HB7:=HB5
       clear hM hDm hStep hSum hCl hm hnew
       have hzm:((m:Int) + 1 == 0) = false:=by simp; omega
       obtain ⟨xs,hxo,hxl⟩:=HM.out.last
       have HXO:=hide hxo
       have HXL:=hide hxl
       have HML:=hide (show vdT.length = m from by
        have:=HM.out.done
        have:=LR.len (fun a cs h=>PtR.one h) _ _ this
        rw [← HDm.out]
        omega)
       obtain ⟨nl,hnl⟩:∃ nl,curT.length = nl:=⟨_,rfl⟩
       have HNL:=hide hnl.symm
       rw [hnl] at HXO
       have hgo:=HM.out.out.lt go rfl
       have HLst:=hide (show ∀ g,vlT.ownBlock = some g → g ≠ go from fun g hg e=>by subst e; exact own_two hxo HM.out.out (by decide) hg rfl)
       clear hxo hxl hnl
       have HMO:=hide (show w5.ownsRow w.heap.size TIts 1 (.slice (some ⟨go,0,none⟩) (m + 1) co) (m + 1) (vdT ++ [vlT]) from by
        have:=HM.out.out
        rwa [HDm.out] at this)
       have HGo:=hide (show w5.cell? ⟨go,m,none⟩ = some vlT from by
        have hc:=HMO.out.cellAt (cap:=co) (g:=go) m (by omega)
        rw [hc,List.getElem?_append_right (by rw [HML.out]; exact Nat.le_refl _),HML.out]
        simp)
       have hmj:m ≤ 1000000000:=by omega
       have hwm:IntKind.i64.wrap (m:Int) = (m:Int):=by simp [IntKind.wrap,IntKind.bits,IntKind.signed]; omega
       have hnlj:nl ≤ j:=by rw [HNL.out]; exact HCl.out
       go_upto_region 19 with fail
       refine wp_region_dag (by kernel_rfl) (by kernel_rfl) 84 2
        [⟨some 65,[0,1,2],[],[],[],[],fun _ _ v _=>v = .slice (some ⟨go,0,none⟩) (m + 1) co⟩,
         ⟨some 66,[0,1,2],[],[],[],[],fun _ _ v _=>v = .slice (some ⟨go,0,none⟩) (m + 1) co⟩,
         ⟨some 67,[0,1,2],[],[],[1],[],fun _ _ v _=>v = .int .i64 ((m:Int) + 1)⟩,
         ⟨some 68,[0,1,2],[],[],[2],[],fun _ _ v _=>v = .int .i64 (m:Int)⟩,
         ⟨some 69,[0,1,2],[],[],[],[],fun _ _ v _=>v = .slice (some ⟨go,0,none⟩) (m + 1) co⟩,
         ⟨some 70,[0,1,2],[],[],[],[],fun _ _ v _=>v = .slice (some ⟨go,0,none⟩) (m + 1) co⟩,
         ⟨some 71,[0,1,2],[],[],[5],[],fun _ _ v _=>v = .int .i64 ((m:Int) + 1)⟩,
         ⟨some 72,[0,1,2],[],[],[6],[],fun _ _ v _=>v = .int .i64 (m:Int)⟩,
         ⟨some 73,[0,1,2],[],[],[4,7],[],fun _ _ v _=>v = .pointer (some ⟨go,m,none⟩)⟩,
         ⟨some 74,[0],[],[],[8],[],fun _ _ v _=>v = vlT⟩,
         ⟨some 75,[0],[],[],[],[],fun _ _ v _=>v = .agg #[.slice A0 kl c0,.slice B0 vl0 d0]⟩,
         ⟨some 76,[0],[],[],[10],[],fun st a v w'=>st = 0 → ∃ g,v = .slice (some ⟨g,0,none⟩) 1 1 ∧ Blk w' g TIt #[.slice A0 kl c0,.slice B0 vl0 d0]⟩,
         ⟨some 77,[0],[(0,1)],[1,2],[9,11],[],fun st a v w'=>R12 TIt w w5 vlT nl (xs ++ [.slice A0 kl c0,.slice B0 vl0 d0]) st v w'⟩,
         ⟨some 78,[0,1,2],[],[],[0,3],[],fun _ _ v _=>v = .pointer (some ⟨go,m,none⟩)⟩,
         ⟨none,[1],[(1,2)],[2],[12,13],[],fun _ _ _ _=>True⟩] (GC ItR TIt TIts w w5 F go co m vdT vlT curT y) (fun s s' _ _ _=>s < s') (fun _ w w'=>Below w.heap.size w w') ?gu ?ru ?put [65,66,67,68,69,70,71,72,73,74,75,76,77,78] rfl (by kernel_rfl) rfl ?g0 ?keep ?steps ?fin
       case ru=>
        intro e he s a v w w' hu hv
        simp only [List.mem_cons,List.not_mem_nil,or_false] at he
        rcases he with rfl | rfl | rfl | rfl | rfl | rfl | rfl | rfl | rfl | rfl | rfl | rfl | rfl | rfl | rfl
        all_goals first | exact hv | (intro h0; obtain ⟨g,e,hb⟩:=hv h0; exact ⟨g,e,hb.below hu hb.lt⟩) | (intro h0; obtain ⟨h1,h2⟩:=hv h0; exact ⟨own_later h1 hu,h2⟩)
       case put=>
        intro e he s a d u v w hnd hv
        simp only [List.mem_cons,List.not_mem_nil,or_false] at he
        rcases he with rfl | rfl | rfl | rfl | rfl | rfl | rfl | rfl | rfl | rfl | rfl | rfl | rfl | rfl | rfl
        all_goals first | exact hv
       case keep=>
        intro e he s s' a v w w' hsl hm ht hv
        simp only [List.mem_cons,List.not_mem_nil,or_false] at he
        rcases he with rfl | rfl | rfl | rfl | rfl | rfl | rfl | rfl | rfl | rfl | rfl | rfl | rfl | rfl | rfl
        all_goals first | exact hv | (intro h3; omega) | (intro h3; have:=hm rfl; simp at this; omega)
       case steps=>
        refine ⟨?_,?_,?_,?_,?_,?_,?_,?_,?_,?_,?_,?_,?_,?_,?_,trivial⟩
        ·intro st hst ac w3 hg hG hd K hK
         dsimp only at hst hG hK
         exact op_move _ rfl (hK _ _ (Below.refl _ _) (hg.kp 5 (by simp)))
        ·intro st hst ac w3 hg hG hd K hK
         dsimp only at hst hG hK
         exact op_move _ rfl (hK _ _ (Below.refl _ _) (hg.kp 5 (by simp)))
        ·intro st hst ac w3 hg hG hd K hK
         dsimp only at hst hG hK
         have f1:=hd 1 (by simp) _ rfl _ rfl
         (try simp [Act.eval] at f1)
         go_simp
         exact hK _ _ (Below.refl _ _) rfl
        ·intro st hst ac w3 hg hG hd K hK
         dsimp only at hst hG hK
         have f2:=hd 2 (by simp) _ rfl _ rfl
         (try simp [Act.eval] at f2)
         go_simp
         exact hK _ _ (Below.refl _ _) rfl
        ·intro st hst ac w3 hg hG hd K hK
         dsimp only at hst hG hK
         exact op_move _ rfl (hK _ _ (Below.refl _ _) (hg.kp 5 (by simp)))
        ·intro st hst ac w3 hg hG hd K hK
         dsimp only at hst hG hK
         exact op_move _ rfl (hK _ _ (Below.refl _ _) (hg.kp 5 (by simp)))
        ·intro st hst ac w3 hg hG hd K hK
         dsimp only at hst hG hK
         have f5:=hd 5 (by simp) _ rfl _ rfl
         (try simp [Act.eval] at f5)
         go_simp
         exact hK _ _ (Below.refl _ _) rfl
        ·intro st hst ac w3 hg hG hd K hK
         dsimp only at hst hG hK
         have f6:=hd 6 (by simp) _ rfl _ rfl
         (try simp [Act.eval] at f6)
         go_simp
         exact hK _ _ (Below.refl _ _) rfl
        ·intro st hst ac w3 hg hG hd K hK
         dsimp only at hst hG hK
         have f4:=hd 4 (by simp) _ rfl _ rfl
         have f7:=hd 7 (by simp) _ rfl _ rfl
         simp [Act.eval] at f4 f7
         go_simp
         rw [if_pos (by omega)]
         go_simp
         exact hK _ _ (Below.refl _ _) rfl
        ·intro st hst ac w3 hg hG hd K hK
         dsimp only at hst hG hK
         simp only [List.mem_cons,List.not_mem_nil,or_false] at hst
         subst hst
         have kk:=(heap_cell (p:=⟨go,m,none⟩) (hG.2.2.1 go hgo.2 (fun q=>by omega) (fun q=>by omega))).trans HGo.out
         have zz:=Nat.lt_of_lt_of_le hgo.2 hG.2.1
         clear hG
         have f8:=hd 8 (by simp) _ rfl _ rfl
         (try simp [Act.eval] at f8)
         go_simp
         exact hK _ _ (Below.refl _ _) rfl
        ·intro st hst ac w3 hg hG hd K hK
         dsimp only at hst hG hK
         simp only [List.mem_cons,List.not_mem_nil,or_false] at hst
         subst hst
         have hX:=HX7.out
         have hX3:Blk w3 xb TIt #[.slice A0 kl c0,.slice B0 vl0 d0]:=(hG.2.2.1 xb hX.lt (fun q=>by omega) (fun q=>by omega)).trans hX
         have kk:=hX3.cell 0
         have kk1:=hX3.cell 1
         have zz:=hX3.lt
         simp at kk kk1
         clear hG hX hX3
         have k13:=hg.kp 13 (by simp)
         (try simp [Act.eval] at k13)
         go_simp
         exact hK _ _ (Below.refl _ _) rfl
        ·intro st hst ac w3 hg hG hd K hK
         dsimp only at hst hG hK
         have f10:=hd 10 (by simp) _ rfl _ rfl
         simp [Act.eval] at f10
         go_simp
         exact hK _ _ (al_below w3 _) (fun _=>⟨_,rfl,Blk.new _ _ _⟩)
        ·intro st st' hmv ac w3 hg hG hd K hK
         simp only [List.mem_cons,Prod.mk.injEq,List.not_mem_nil,or_false] at hmv
         obtain ⟨rfl,rfl⟩:=hmv
         dsimp only at hG hK
         have f9:=hd 9 (by simp) _ rfl _ rfl
         obtain ⟨gl,f11,hbl⟩:=hd 11 (by simp) _ rfl _ rfl rfl
         refine wp_append_any w3 (.tmp 74) (.tmp 76) 32 rfl w.heap.size TIt i0 _ 2 48 Try.underlying32 HI0.out HZ0.out hz1 hz2 rfl (by omega) vlT nl xs f9 (row_keep HXO.out (fun j hj=>hG.2.2.1 j (HXO.out.lt j hj).2 (fun q=>by omega) (fun q=>by omega))) w3.heap.size (some ⟨gl,0,none⟩) 1 1 [.slice A0 kl c0,.slice B0 vl0 d0] f11 (reads_blk hbl rfl rfl) (by intro u hu; simp at hu; rcases hu with rfl | rfl <;> rfl) (by unfold maxLen; omega) (by omega) hG.1.size ?_
         intro v' w' ho hgb hoo
         exact hK _ _ (by decide) (hG.appended (v:=v') (fun k hk=>(HXO.out.lt k hk).1) hgb) (fun _=>⟨ho,hoo.imp id (fun e=>⟨_,e,hG.2.1⟩)⟩)
        ·intro st hst ac w3 hg hG hd K hK
         dsimp only at hst hG hK
         have f0:=hd 0 (by simp) _ rfl _ rfl
         have f3:=hd 3 (by simp) _ rfl _ rfl
         simp [Act.eval] at f0 f3
         go_simp
         rw [if_pos (by omega)]
         go_simp
         exact hK _ _ (Below.refl _ _) rfl
        ·intro st st' hmv ac w3 hg hG hd K hK
         simp only [List.mem_cons,Prod.mk.injEq,List.not_mem_nil,or_false] at hmv
         obtain ⟨rfl,rfl⟩:=hmv
         dsimp only at hG hK
         have f13:=hd 13 (by simp) _ rfl _ rfl
         have h12:=hd 12 (by simp) _ rfl _ rfl
         obtain ⟨v8,hv8⟩:∃ v8,ac.eval (.tmp 77) = v8:=⟨_,rfl⟩
         rw [hv8] at h12
         obtain ⟨A8,c8,rfl,hc8⟩:=own_slice (h12 rfl).1
         have zz:=Nat.lt_of_lt_of_le hgo.2 hG.2.1
         have kk:=(heap_cell (p:=⟨go,m,none⟩) (hG.2.2.1 go hgo.2 (fun _ e=>HLst.out go e rfl) (fun q=>by omega))).trans HGo.out
         have ff:=(hG.row HMO.out HLst.out).frozenAt m
         have HG:=hide hG
         have H12:=hide h12
         clear hG h12
         simp [Act.eval] at f13 hv8
         go_simp
         exact hK undef _ (by decide) (HG.out.stored H12.out (by decide) HMO.out HML.out HXL.out HNL.out HIT.out HLst.out) trivial
       case gu=>intro s w1 w2 hG hu; exact hG.below hu
       case g0=>exact ⟨(HB7.out).drew,Nat.le_refl _,fun _ _ _ _=>rfl,fun e=>by omega⟩
       case fin=>
        intro f9 w9 hG hall
        clear hall
        obtain ⟨v9,hM9⟩:=hG.done HM.out (by decide) HDm.out
        have HM9:=hide hM9
        have HB9:=hide hG.1
        clear hG hM9
        simp only [fillF,List.map_cons,List.map_nil,List.foldl_cons,List.foldl_nil,Act.put,List.setIfInBounds_toArray,List.set_cons_zero,List.set_cons_succ]
        go_wp2_with fail
        refine ⟨⟨j + 1,s2 + (2 + kl + vl0),m + 1,co,some ⟨go,0,none⟩,dT,curT ++ [y],rfl,by push_cast; first | rfl | simp,by push_cast; rfl,by omega,by omega,by omega,hide (by unfold sumZ; rw [List.map_append,List.sum_append]; show sumZ szI curT + _ = _; rw [HSum.out,← HSZ.out]; simp),hide (by rw [HFN.out,HStep.out]),HB9,hide (.inr ⟨by simp,by rw [HDm.out],_,_,HM9.out⟩),hide (by rw [List.length_append,List.length_singleton]; have:=HCl.out; omega)⟩,?_⟩
        simp [intOf]
        omega
    ·obtain rfl:q = j:=by omega
     have HFo2:=hide (show is.foldl (cutStep szI sh) ([],[]) = (d,cur) from by have:=HFo.out; rwa [← HQ.out,List.take_length] at this)
     go_wp2_with fail
     go_ret
     refine ⟨_,rfl,?_,HB.out⟩
     have hcf:cutF szI is = cutOut (d,cur):=by
      unfold cutF
      rw [HS0.out,HSH.out,HFo2.out]
     rw [hcf]
     rcases HC.out with ⟨e1,e2,e3,e4,e5⟩ | ⟨hc0,hno2,vd,vl,hM⟩
     ·subst e1 e2 e3 e4 e5
      exact ⟨[],World.ownsRow_nil _ _ _ _,rfl⟩
     ·cases cur with
      | nil=>exact absurd rfl hc0
      | cons y l=>
       subst hno2
       exact ⟨vd ++ [vl],by simp only [cutOut]; rw [List.length_append,List.length_singleton]; exact hM.out,LR.app (LR.one ⟨vl,rfl,hM.last⟩) _ _ hM.done⟩
end Go.Proofs.Ytkolacaceaamoaa
