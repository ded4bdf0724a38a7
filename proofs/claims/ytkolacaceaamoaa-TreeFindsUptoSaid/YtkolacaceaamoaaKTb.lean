/- The law's find. -/
import Derived.Test.YtkolacaceaamoaaKTa
set_option linter.unusedSimpArgs false
set_option linter.unusedVariables false
namespace Go.Proofs.Ytkolacaceaamoaa
open Go.RowKit
open Go.Lib (compareBytes)
/-- Where a key stands, or would. -/
def findL:List It → Cn → Nat × Bool
 | [],_=>(0,false)
 | x :: l,key=>if 0 ≤ compareBytes x.k key then (0,decide (x.k = key)) else ((findL l key).1 + 1,(findL l key).2)
theorem findL_at {l:List It} {key:Cn}:∀ {j:Nat} (hj:j < l.length),findL (l.drop j) key = if 0 ≤ compareBytes l[j].k key then (0,decide (l[j].k = key)) else ((findL (l.drop (j + 1)) key).1 + 1,(findL (l.drop (j + 1)) key).2):=fun {j} hj=>by
 rw [List.drop_eq_getElem_cons hj,findL]
theorem bytesLess_cb:∀ x y:Cn,Op.bytesLess x y = decide (compareBytes x y < 0)
 | [],[]=>rfl
 | _ :: _,[]=>rfl
 | [],_ :: _=>rfl
 | a :: x,b :: y=>by
  rw [Op.bytesLess,compareBytes,bytesLess_cb x y]
  by_cases h1:a < b
  ·simp [h1]
  ·by_cases h2:b < a
   ·have hn:a ≠ b:=fun e=>by subst e; exact h1 h2
    simp [h1,h2,hn]
   ·have e:a = b:=by
     have h3:b ≤ a:=UInt8.not_lt.1 h1
     have h4:a ≤ b:=UInt8.not_lt.1 h2
     exact UInt8.le_antisymm h4 h3
    subst e
    simp [h1]
theorem str_less (a b:Cn):Op.bytesLess (⟨a.toArray⟩:ByteArray).toList (⟨b.toArray⟩:ByteArray).toList = decide (compareBytes a b < 0):=by
 rw [show (⟨a.toArray⟩:ByteArray).toList = a from by rw [ByteArray.toList_eq],show (⟨b.toArray⟩:ByteArray).toList = b from by rw [ByteArray.toList_eq],bytesLess_cb]
set_option maxRecDepth 100000 in
set_option maxHeartbeats 4000000 in
theorem find17 {w:World} {F:Nat → Prop} {va vk:Value} {la:List It} {key:Cn} (h1:SLk 2 ItR w F va la) (h2:BS w F vk key) (hl:la.length ≤ 1000000000) :
  Calls Try.prog 13 #[va,vk] w fun e w'=>e = .returned (.tuple #[.int .i64 ((findL la key).1:Int),.bool (findL la key).2]) ∧ ∃ n,w' = w.drewN n:=by
 have H1:=hide h1
 have f3:=fun n=>bs_stringN h2 n
 obtain ⟨A,ca,xa,rfl,hca,_⟩:=h1
 obtain ⟨B,cb,rfl,hcb,_⟩:=h2
 obtain ⟨na,hna⟩:∃ q,la.length = q:=⟨_,rfl⟩
 obtain ⟨nb,hnb⟩:∃ q,key.length = q:=⟨_,rfl⟩
 have HNA:=hide hna
 rw [hna] at H1 hl hca ⊢
 rw [hnb] at f3 ⊢
 obtain ⟨hca,-⟩:=hca
 obtain ⟨t3,ht3⟩:∃ t:ByteArray,⟨key.toArray⟩ = t:=⟨_,rfl⟩
 have HT3:=hide ht3
 rw [ht3] at f3
 obtain ⟨R,hR⟩:∃ R,findL la key = R:=⟨_,rfl⟩
 have HR:=hide hR
 rw [hR]
 clear hna hnb hcb ht3 hR
 obtain ⟨R1,R2⟩:=R
 go_enter Try.func13,Try.ntmps13
 go_wp2_with fail
 go_loopw [4,5,6] (fun v4 v5 v6 wr=>∃ j N:Nat,v4 = .int .i64 0 ∧ v5 = .bool false ∧ v6 = .int .i64 (j:Int) ∧ j ≤ na ∧ wr = w.drewN N ∧ Hid (R1 = (findL (la.drop j) key).1 + j ∧ R2 = (findL (la.drop j) key).2)) (fun _ _ v6 _=>na - (intOf v6).toNat)
 case atStart=>exact ⟨0,0,rfl,rfl,by go_num,by omega,rfl,hide (by rw [List.drop_zero,HR.out]; exact ⟨rfl,rfl⟩)⟩
 case round=>
  obtain ⟨j,N,rfl,rfl,rfl,hja,rfl,HT⟩:=hrel
  by_cases hlt:j < na
  ·have hia:j < la.length:=by rw [HNA.out]; exact hlt
   obtain ⟨b1,o1,A1,c1,A2,c2,rfl,z1,_,p0,p1,⟨q1,q2,eq1,hq1,hq2⟩⟩:=H1.out.at_it hia
   obtain ⟨rfl,e2⟩:=List.cons.inj eq1
   clear e2 eq1 hq2 p1
   have f1:=fun n=>bs_stringN hq1 n
   have HAT:=hide (findL_at (key:=key) hia)
   obtain ⟨x,hx⟩:∃ x,la[j] = x:=⟨_,rfl⟩
   rw [hx] at p0 f1 HAT
   clear hx hia hq1
   obtain ⟨x1,x2⟩:=x
   simp only at p0 f1 HAT
   obtain ⟨n1,hn1⟩:∃ q,x1.length = q:=⟨_,rfl⟩
   rw [hn1] at p0 f1
   have hls:=str_less x1 key
   have heq:=str_eq x1 key
   obtain ⟨t1,ht1⟩:∃ t:ByteArray,⟨x1.toArray⟩ = t:=⟨_,rfl⟩
   rw [ht1,HT3.out] at hls heq
   rw [ht1] at f1
   have HLS:=hide hls
   have HEQ:=hide heq
   clear ht1 hn1 hls heq
   cases d1:Op.bytesLess t1.toList t3.toList with
   | true=>
    have hlt0:compareBytes x1 key < 0:=by have:=HLS.out; rw [d1] at this; simpa using this.symm
    have HST:=hide (show R1 = (findL (la.drop (j + 1)) key).1 + (j + 1) ∧ R2 = (findL (la.drop (j + 1)) key).2 from by
     obtain ⟨h1,h2⟩:=HT.out
     rw [HAT.out,if_neg (by omega)] at h1 h2
     exact ⟨by rw [h1]; simp only; omega,h2⟩)
    clear hlt0
    go_wp2
    go_quiet (fail)
    go_wp2
    go_roundw
    case rel=>exact ⟨j + 1,_,rfl,rfl,by go_num,by omega,rfl,HST⟩
    case measure=>simp [intOf]; omega
   | false=>
    have hge:0 ≤ compareBytes x1 key:=by have:=HLS.out; rw [d1] at this; simpa using this.symm
    have HST:=hide (show R1 = j ∧ R2 = (t1.toList == t3.toList) from by
     obtain ⟨h1,h2⟩:=HT.out
     rw [HAT.out,if_pos hge] at h1 h2
     exact ⟨by rw [h1]; simp,by rw [h2,HEQ.out]⟩)
    clear hge
    go_wp2
    go_quiet (fail)
    go_wp2
    go_quiet (fail)
    go_wp2
    refine bodyPost_ret (v:=.tuple #[.int .i64 (j:Int),.bool (t1.toList == t3.toList)]) (by simp (maxDischargeDepth:=9) [results,Try.results13,go_sem]; done) rfl ?_
    obtain ⟨rfl,rfl⟩:=HST.out
    exact ⟨rfl,_,by rw [World.drewN_drewN,World.drewN_drewN]⟩
  ·obtain rfl:na = j:=by omega
   have HST:=hide (show R1 = na ∧ R2 = false from by
    obtain ⟨h1,h2⟩:=HT.out
    rw [List.drop_of_length_le (by rw [HNA.out]; omega)] at h1 h2
    exact ⟨by rw [h1]; simp [findL],by rw [h2]; rfl⟩)
   go_wp2_with fail
   refine bodyPost_ret (v:=.tuple #[.int .i64 (na:Int),.bool false]) (by simp (maxDischargeDepth:=9) [results,Try.results13,go_sem]; done) rfl ?_
   obtain ⟨rfl,rfl⟩:=HST.out
   exact ⟨rfl,_,rfl⟩
end Go.Proofs.Ytkolacaceaamoaa
/- Own rows: their beginnings, rows behind rows, and a cell that is set. -/
namespace Go.Proofs.Ytkolacaceaamoaa
open Go.RowKit
open Go.Lib (compareBytes)
theorem itR_len {w:World} {F:Nat → Prop}:∀ (a:It) (cs:List Value),ItR w F a cs → cs.length = 2:=fun a cs ⟨_,_,e,_⟩=>by rw [e]; rfl
theorem own_take {w:World} {base n cap k j:Nat} {T:TypeId} {A:Option Addr} {xs:List Value} (h:w.ownsRow base T k (.slice A n cap) n xs) (hj:j ≤ n):w.ownsRow base T k (.slice A j cap) j (xs.take (j * k)):=by
 have hjk:j * k ≤ n * k:=Nat.mul_le_mul_right _ hj
 refine ⟨by rw [List.length_take,h.1]; omega,?_⟩
 rcases h.2 with ⟨e,hz⟩ | ⟨g,c,cur,e,hb,hh,hc,hm,hs,ht⟩
 ·injection e with e1 e2 e3
  subst e1 e3
  exact .inl ⟨by rw [show j = 0 by omega],by omega⟩
 ·injection e with e1 _ e3
  subst e1 e3
  exact .inr ⟨g,cap,cur,rfl,hb,hh,by omega,hm,hs,by rw [← ht,List.take_take,Nat.min_eq_left hjk]⟩
theorem ownb_slice (A:Option Addr) (n m c d:Nat):(Value.slice A n c).ownBlock = (Value.slice A m d).ownBlock:=by
 cases A <;> rfl
section
variable {α:Type} {R:World → (Nat → Prop) → α → List Value → Prop} {T:TypeId} {k:Nat} {F0:Nat → Prop} {w0 wr w':World} {v:Value} {l:List α}
theorem GrN.take_ (hl:∀ w F a cs,R w F a cs → cs.length = k) {A:Option Addr} {n cap j:Nat} (h:GrN R T k F0 w0 wr (.slice A n cap) l) (hn:l.length = n) (hj:j ≤ n):GrN R T k F0 w0 wr (.slice A j cap) (l.take j):=by
 obtain ⟨xs,h1,h2⟩:=h.row
 rw [hn] at h1
 have hlen:(l.take j).length = j:=by rw [List.length_take]; omega
 refine ⟨h.bel,xs.take (j * k),by rw [hlen]; exact own_take h1 hj,?_⟩
 rw [ownb_slice A j n cap cap]
 exact LR.take (hl _ _) j _ _ h2
theorem GrN.app (hR:Kept R) {w2 w3:World} {v':Value} {l2:List α} {cs xs:List Value} (h:GrN R T k F0 w0 wr v l) (hb:Below wr.heap.size wr w2) (hxs:wr.ownsRow w0.heap.size T k v l.length xs ∧ LR (R wr (fun j=>(F0 j ∨ w0.heap.size ≤ j) ∧ j < wr.heap.size ∧ v.ownBlock ≠ some j)) l xs)
  (ha:LR (R w2 (fun j=>(F0 j ∨ w0.heap.size ≤ j) ∧ j < w2.heap.size ∧ v.ownBlock ≠ some j)) l2 cs) (ho:w3.ownsRow w0.heap.size T k v' (l.length + l2.length) (xs ++ cs)) (hg:w2.grownBy w3 v.ownBlock) (hoo:v'.ownBlock = v.ownBlock ∨ v'.ownBlock = some w2.heap.size):GrN R T k F0 w0 w3 v' (l ++ l2):=by
 have hb3:Below w0.heap.size w0 w3:=(h.bel.trans (hb.mono h.bel.size)).grown hg (Nat.le_trans h.bel.size hb.size) (fun k hk=>(hxs.1.lt k hk).1)
 have k3:∀ j,j < w2.heap.size → v.ownBlock ≠ some j → w3.heap[j]? = w2.heap[j]?:=fun j hj hn=>hg.block j hj (fun e=>hn e.symm)
 have hno:∀ j,j < w2.heap.size → v.ownBlock ≠ some j → v'.ownBlock ≠ some j:=fun j hlt hn e=>by
  rcases hoo with q | q
  ·exact hn (q ▸ e)
  ·rw [q] at e; injection e with e; omega
 refine ⟨hb3,xs ++ cs,by rw [List.length_append]; exact ho,?_⟩
 refine LR.app (LR.mono (fun b cs'=>hR (fun j hj hlt=>k3 j hj.2.1 hj.2.2) (fun j hj hlt=>⟨hj.1,Nat.lt_of_lt_of_le hj.2.1 hg.size,hno j hj.2.1 hj.2.2⟩) b cs') _ _ ha) _ _ (LR.mono (fun b cs'=>hR (fun j hj hlt=>?_) (fun j hj hlt=>?_) b cs') _ _ hxs.2)
 ·exact (k3 j (Nat.lt_of_lt_of_le hlt hb.size) hj.2.2).trans (hb.block j hlt)
 ·exact ⟨hj.1,Nat.lt_of_lt_of_le hj.2.1 (Nat.le_trans hb.size hg.size),hno j (Nat.lt_of_lt_of_le hj.2.1 hb.size) hj.2.2⟩
end
/-- A row's end, read. -/
theorem own_drop {w:World} {base n cap k j g:Nat} {T:TypeId} {xs:List Value} (h:w.ownsRow base T k (.slice (some ⟨g,0,none⟩) n cap) n xs) (hj:j ≤ n):Reads w w.heap.size k (some ⟨g,j * k,none⟩) (n - j) (xs.drop (j * k)):=by
 refine ⟨by rw [List.length_drop,h.1,Nat.sub_mul],fun h0=>⟨_,rfl,(h.lt g rfl).2,fun i u hu=>?_⟩⟩
 rw [List.getElem?_drop] at hu
 have hlt:j * k + i < n * k:=by
  have:=(List.getElem?_eq_some_iff.1 hu).1
  rw [h.1] at this
  exact this
 rw [show (⟨g,j * k,none⟩:Addr).add i = ⟨g,j * k + i,none⟩ from by simp [Addr.add],h.cellAt _ hlt,hu]
/-- One more value for a key. -/
theorem GrN.setv {F0:Nat → Prop} {w0 wr:World} {g n cap j:Nat} {l:List It} {u:Value} {v:Cn} (h:GrN ItR TIt 2 F0 w0 wr (.slice (some ⟨g,0,none⟩) n cap) l) (hn:l.length = n) (hj:j < l.length)
  (hF0:∀ q,F0 q → q < w0.heap.size) (hv:BS wr (fun q=>(F0 q ∨ w0.heap.size ≤ q) ∧ q < wr.heap.size ∧ q ≠ g) u v):GrN ItR TIt 2 F0 w0 (wr.setCell ⟨g,j * 2 + 1,none⟩ u) (.slice (some ⟨g,0,none⟩) n cap) (l.set j ⟨l[j].k,v⟩):=by
 obtain ⟨xs,h1,h2⟩:=h.row
 rw [hn] at h1
 obtain ⟨d,e1,e2,e3⟩:=lr_it l xs h2
 have hlt:=h1.lt g rfl
 have hjd:j < d.length:=by rw [← List.length_map (f:=Prod.fst),e1]; exact hj
 have hd1:d[j].1 = l[j]:=by subst e1; rw [List.getElem_map]
 have hF:∀ q,(F0 q ∨ w0.heap.size ≤ q) ∧ q < wr.heap.size ∧ q ≠ g → (wr.setCell ⟨g,j * 2 + 1,none⟩ u).heap[q]? = wr.heap[q]?:=fun q hq=>Below.heap_setCell _ ⟨g,j * 2 + 1,none⟩ _ _ hq.2.2
 have hs:=row_set (u:=u) (i:=j * 2 + 1) h1 (by omega)
 have he:=encI_set d j (⟨l[j].k,v⟩,d[j].2.1,u) hjd
 have hid:(d.flatMap encI).set (j * 2) d[j].2.1 = d.flatMap encI:=by
  have:=(encI_get d j hjd).1
  obtain ⟨q1,q2⟩:=List.getElem?_eq_some_iff.1 this
  rw [← q2,List.set_getElem_self]
 simp only at he
 rw [hid] at he
 rw [e2,he] at hs
 have hob:∀ q,(Value.slice (some ⟨g,0,none⟩) n cap).ownBlock ≠ some q → q ≠ g:=fun q hq e=>hq (by rw [e]; rfl)
 have hbo:∀ q,q ≠ g → (Value.slice (some ⟨g,0,none⟩) n cap).ownBlock ≠ some q:=fun q hq e=>by
  injection e with e; exact hq e.symm
 refine ⟨h.bel.setCell (p:=⟨g,j * 2 + 1,none⟩) hlt.1 u,(d.set j (⟨l[j].k,v⟩,d[j].2.1,u)).flatMap encI,by rw [List.length_set,hn]; exact hs,?_⟩
 have hmap:(d.set j (⟨l[j].k,v⟩,d[j].2.1,u)).map Prod.fst = l.set j ⟨l[j].k,v⟩:=by rw [List.map_set,e1]
 rw [← hmap]
 refine lr_ti _ fun e he=>?_
 rcases List.mem_or_eq_of_mem_set he with he | rfl
 ·exact ItR.keep (fun q hq _=>hF q ⟨hq.1,hq.2.1,hob q hq.2.2⟩) (fun q hq _=>⟨hq.1,by simpa using hq.2.1,hq.2.2⟩) _ _ (e3 e he)
 ·obtain ⟨a,b,e4,hk,_⟩:=e3 _ (List.getElem_mem hjd)
  injection e4 with e5 _
  refine ⟨d[j].2.1,u,rfl,?_,?_⟩
  ·rw [e5]
   have hk2:BS wr (fun q=>(F0 q ∨ w0.heap.size ≤ q) ∧ q < wr.heap.size ∧ (Value.slice (some ⟨g,0,none⟩) n cap).ownBlock ≠ some q) a l[j].k:=by rw [← hd1]; exact hk
   exact hk2.keep (fun q hq _=>hF q ⟨hq.1,hq.2.1,hob q hq.2.2⟩) (fun q hq _=>⟨hq.1,by simpa using hq.2.1,hq.2.2⟩)
  ·exact hv.keep (fun q hq _=>hF q hq) (fun q hq _=>⟨hq.1,by simpa using hq.2.1,hbo q hq.2.2⟩)
end Go.Proofs.Ytkolacaceaamoaa
/- What the law's done makes of items (plain). -/
namespace Go.Proofs.Ytkolacaceaamoaa
open Go.RowKit
open Go.Lib (compareBytes)
def delS (l:List It) (g:Cn):List It:=if (findL l g).2 then l.take (findL l g).1 ++ l.drop ((findL l g).1 + 1) else l
def putS (l:List It) (x:It):List It:=if (findL l x.k).2 then l.set (findL l x.k).1 x else l.take (findL l x.k).1 ++ [x] ++ l.drop (findL l x.k).1
def doneL (l put:List It) (gone:List Cn):List It:=put.foldl putS (gone.foldl delS l)
theorem findL_cases:∀ (l:List It) (key:Cn),∃ a b,l = a ++ b ∧ a.length = (findL l key).1 ∧ (∀ x ∈ a,compareBytes x.k key < 0) ∧ (((findL l key).2 = true ∧ ∃ y r,b = y :: r ∧ y.k = key) ∨ ((findL l key).2 = false ∧ (b = [] ∨ ∃ y r,b = y :: r ∧ 0 < compareBytes y.k key)))
 | [],key=>⟨[],[],rfl,rfl,(fun _ h=>nomatch h),.inr ⟨rfl,.inl rfl⟩⟩
 | x :: l,key=>by
  unfold findL
  by_cases h:0 ≤ compareBytes x.k key
  ·rw [if_pos h]
   refine ⟨[],x :: l,rfl,rfl,(fun _ h=>nomatch h),?_⟩
   by_cases hk:x.k = key
   ·exact .inl ⟨by simp [hk],x,l,rfl,hk⟩
   ·refine .inr ⟨by simp [hk],.inr ⟨x,l,rfl,?_⟩⟩
    have:compareBytes x.k key ≠ 0:=fun e=>hk (cb_zero.1 e)
    omega
  ·rw [if_neg h]
   obtain ⟨a,b,e,hl,ha,hb⟩:=findL_cases l key
   refine ⟨x :: a,b,by rw [e]; rfl,by simp [hl],fun y hy=>?_,hb⟩
   rcases List.mem_cons.1 hy with rfl | hy
   ·omega
   ·exact ha y hy
theorem valOf_mid {a r:List It} {x:It} {key:Cn}:valOf (a ++ x :: r) key = (valOf a key).or (if x.k = key then some x.v else valOf r key):=by
 rw [valOf_append,valOf_cons]
theorem rise_mid {a r:List It} {x y:It} (h:RiseI (a ++ y :: r)) (e:x.k = y.k):RiseI (a ++ x :: r):=by
 obtain ⟨h1,h2,h3⟩:=List.pairwise_append.1 h
 obtain ⟨h4,h5⟩:=List.pairwise_cons.1 h2
 refine List.pairwise_append.2 ⟨h1,List.pairwise_cons.2 ⟨fun b hb=>by rw [e]; exact h4 b hb,h5⟩,fun b hb c hc=>?_⟩
 rcases List.mem_cons.1 hc with rfl | hc
 ·rw [e]; exact h3 b hb y List.mem_cons_self
 ·exact h3 b hb c (List.mem_cons_of_mem _ hc)
theorem val_low {a:List It} {key:Cn} (h:∀ x ∈ a,compareBytes x.k key < 0):valOf a key = none:=valOf_none fun i hi e=>by
 have:=h i hi
 rw [e,cb_zero.2 rfl] at this
 omega
theorem val_high {a:List It} {key:Cn} (h:∀ x ∈ a,0 < compareBytes x.k key):valOf a key = none:=valOf_none fun i hi e=>by
 have:=h i hi
 rw [e,cb_zero.2 rfl] at this
 omega
theorem delS_law {l:List It} {g:Cn} (h:RiseI l):RiseI (delS l g) ∧ ∀ key,valOf (delS l g) key = if g = key then none else valOf l key:=by
 unfold delS
 obtain ⟨a,b,e,hl,ha,⟨hf,y,r,hb,hy⟩ | ⟨hf,hb⟩⟩:=findL_cases l g
 ·rw [if_pos hf,← hl]
  subst hb e
  have e1:(a ++ y :: r).take a.length ++ (a ++ y :: r).drop (a.length + 1) = a ++ r:=by
   rw [List.take_left' rfl,List.drop_length_add_append]
   rfl
  rw [e1]
  obtain ⟨h1,h2,h3⟩:=List.pairwise_append.1 h
  obtain ⟨h4,h5⟩:=List.pairwise_cons.1 h2
  refine ⟨List.pairwise_append.2 ⟨h1,h5,fun b hb c hc=>h3 b hb c (List.mem_cons_of_mem _ hc)⟩,fun key=>?_⟩
  rw [valOf_mid,valOf_append,hy]
  by_cases hk:g = key
  ·subst hk
   rw [if_pos rfl,val_low ha,val_high fun x hx=>by
    have:=h4 x hx
    rw [hy] at this
    rw [cb_swap]
    omega]
   rfl
  ·rw [if_neg hk,if_neg hk]
 ·rw [hf]
  refine ⟨h,fun key=>?_⟩
  by_cases hk:g = key
  ·subst hk
   simp only [Bool.false_eq_true,if_false,if_pos rfl]
   rw [e,valOf_append,val_low ha]
   rcases hb with rfl | ⟨y,r,rfl,hy⟩
   ·rfl
   ·rw [valOf_cons,if_neg (fun q=>by rw [q,cb_zero.2 rfl] at hy; omega)]
    rw [e] at h
    obtain ⟨h1,h2,h3⟩:=List.pairwise_append.1 h
    obtain ⟨h4,h5⟩:=List.pairwise_cons.1 h2
    rw [val_high fun x hx=>by
     have h6:=h4 x hx
     rw [cb_swap] at hy ⊢
     have:=cb_trans (b:=y.k) (by rw [cb_swap]; rw [cb_swap] at hy; omega:compareBytes g y.k < 0) h6
     omega]
    rfl
  ·simp [hk]
theorem putS_law {l:List It} {x:It} (h:RiseI l):RiseI (putS l x) ∧ ∀ key,valOf (putS l x) key = if x.k = key then some x.v else valOf l key:=by
 unfold putS
 obtain ⟨a,b,e,hl,ha,⟨hf,y,r,hb,hy⟩ | ⟨hf,hb⟩⟩:=findL_cases l x.k
 ·rw [if_pos hf,← hl]
  subst hb e
  have e1:(a ++ y :: r).set a.length x = a ++ x :: r:=by simp
  rw [e1]
  refine ⟨rise_mid h hy.symm,fun key=>?_⟩
  rw [valOf_mid,valOf_mid,hy]
  by_cases hk:x.k = key
  ·subst hk
   rw [val_low ha]
   simp
  ·simp [hk]
 ·rw [hf,← hl]
  subst e
  simp only [Bool.false_eq_true,if_false]
  rw [List.take_left' rfl,List.drop_left' rfl,List.append_assoc,List.singleton_append]
  obtain ⟨h1,h2,h3⟩:=List.pairwise_append.1 h
  have hhi:∀ z ∈ b,compareBytes x.k z.k < 0:=by
   rcases hb with rfl | ⟨y,r,rfl,hy⟩
   ·intro z hz; cases hz
   ·obtain ⟨h4,h5⟩:=List.pairwise_cons.1 h2
    have hy2:compareBytes x.k y.k < 0:=by rw [cb_swap]; omega
    intro z hz
    rcases List.mem_cons.1 hz with rfl | hz
    ·exact hy2
    ·exact cb_trans hy2 (h4 z hz)
  refine ⟨List.pairwise_append.2 ⟨h1,List.pairwise_cons.2 ⟨hhi,h2⟩,fun c hc d hd=>?_⟩,fun key=>?_⟩
  ·rcases List.mem_cons.1 hd with rfl | hd
   ·exact ha c hc
   ·exact h3 c hc d hd
  ·rw [valOf_mid,valOf_append]
   by_cases hk:x.k = key
   ·subst hk
    rw [val_low ha]
    simp
   ·rw [if_neg hk,if_neg hk]
theorem delS_le (l:List It) (g:Cn):(delS l g).length ≤ l.length:=by
 unfold delS
 split
 ·rw [List.length_append,List.length_take,List.length_drop]; omega
 ·exact Nat.le_refl _
theorem putS_le (l:List It) (x:It):(putS l x).length ≤ l.length + 1:=by
 unfold putS
 split
 ·rw [List.length_set]; omega
 ·rw [List.length_append,List.length_append,List.length_take,List.length_drop,List.length_singleton]; omega
theorem delS_mem {l:List It} {g:Cn} {x:It} (h:x ∈ delS l g):x ∈ l:=by
 unfold delS at h
 split at h
 ·rcases List.mem_append.1 h with h | h
  ·exact List.mem_of_mem_take h
  ·exact List.mem_of_mem_drop h
 ·exact h
theorem putS_mem {l:List It} {y x:It} (h:x ∈ putS l y):x ∈ l ∨ x = y:=by
 unfold putS at h
 split at h
 ·exact List.mem_or_eq_of_mem_set h
 ·rcases List.mem_append.1 h with h | h
  ·rcases List.mem_append.1 h with h | h
   ·exact .inl (List.mem_of_mem_take h)
   ·exact .inr (List.mem_singleton.1 h)
  ·exact .inl (List.mem_of_mem_drop h)
theorem dels_law:∀ {gone:List Cn} {l:List It},RiseI l → RiseI (gone.foldl delS l) ∧ ∀ key,valOf (gone.foldl delS l) key = if key ∈ gone then none else valOf l key
 | [],l,h=>⟨h,fun key=>by simp⟩
 | g :: r,l,h=>by
  obtain ⟨h1,h2⟩:=delS_law (g:=g) h
  obtain ⟨h3,h4⟩:=dels_law (gone:=r) h1
  refine ⟨h3,fun key=>?_⟩
  rw [List.foldl_cons,h4,h2]
  by_cases hk:g = key
  ·subst hk; simp
  ·have:key ∈ g :: r ↔ key ∈ r:=by simp [Ne.symm hk]
   simp [hk,this]
theorem puts_law:∀ {put:List It} {l:List It},RiseI l → (put.map It.k).Nodup → RiseI (put.foldl putS l) ∧ ∀ key,valOf (put.foldl putS l) key = (valOf put key).or (valOf l key)
 | [],l,h,_=>⟨h,fun key=>by simp [valOf]⟩
 | x :: r,l,h,hn=>by
  rw [List.map_cons,List.nodup_cons] at hn
  obtain ⟨h1,h2⟩:=putS_law (x:=x) h
  obtain ⟨h3,h4⟩:=puts_law (put:=r) h1 hn.2
  refine ⟨h3,fun key=>?_⟩
  rw [List.foldl_cons,h4,h2,valOf_cons]
  by_cases hk:x.k = key
  ·subst hk
   rw [valOf_none (is:=r) fun i hi e=>hn.1 (by have q:=List.mem_map_of_mem (f:=It.k) hi; rwa [show i.k = x.k from e] at q)]
   simp
  ·simp [hk]
theorem chOf_in:∀ {l:List Ch} {c:Ch},RiseC l → c ∈ l → chOf l c.k = some c
 | d :: t,c,hr,hm=>by
  have hr':=List.pairwise_cons.1 hr
  rw [chOf_cons]
  rcases List.mem_cons.1 hm with rfl | hm
  ·rw [if_pos rfl]
  ·have:=hr'.1 c hm
   rw [if_neg (fun e=>by rw [e,cb_zero.2 rfl] at this; omega)]
   exact chOf_in hr'.2 hm
/-- What done makes is what Put makes. -/
theorem done_merge {l put:List It} {gone:List Cn} {cs:List Ch} (h:RiseI l) (hf:fitsP put gone) (hp:cs.Perm (chs put gone)) (hr:RiseC cs):doneL l put gone = mergeC l cs:=by
 have hnd:(put.map It.k).Nodup:=by
  have:=hf.2.2
  unfold keysOf at this
  exact (List.nodup_append.1 this).1
 obtain ⟨h1,h2⟩:=dels_law (gone:=gone) h
 obtain ⟨h3,h4⟩:=puts_law (put:=put) h1 hnd
 obtain ⟨h5,h6⟩:=mergeC_law l cs h hr
 refine rise_ext h3 h5 fun key=>?_
 show valOf (doneL l put gone) key = _
 unfold doneL
 rw [h4,h2,h6]
 unfold askC
 have hmem:∀ c:Ch,c ∈ cs ↔ c ∈ chs put gone:=fun c=>hp.mem_iff
 cases hc:chOf cs key with
 | none=>
  have hno:∀ c ∈ cs,c.k ≠ key:=fun c hcm e=>by
   subst e
   rw [chOf_in hr hcm] at hc
   cases hc
  have n1:valOf put key = none:=valOf_none fun i hi e=>hno ⟨i.k,i.v,false⟩ ((hmem _).2 (List.mem_append_left _ (List.mem_map_of_mem (f:=fun x:It=>(⟨x.k,x.v,false⟩:Ch)) hi))) e
  have n2:key ∉ gone:=fun hg=>hno ⟨key,[],true⟩ ((hmem _).2 (List.mem_append_right _ (List.mem_map_of_mem (f:=fun k:Cn=>(⟨k,[],true⟩:Ch)) hg))) rfl
  simp [n1,n2]
 | some c=>
  have hcm:c ∈ cs ∧ c.k = key:=by
   unfold chOf at hc
   exact ⟨List.mem_of_find?_eq_some hc,by have:=List.find?_some hc; simpa using this⟩
  rcases List.mem_append.1 ((hmem c).1 hcm.1) with hm | hm
  ·obtain ⟨x,hx,rfl⟩:=List.mem_map.1 hm
   have:valOf put key = some x.v:=(valOf_iff hnd).2 (by rw [← hcm.2]; exact hx)
   simp [this]
  ·obtain ⟨g,hg,rfl⟩:=List.mem_map.1 hm
   have hk:g = key:=hcm.2
   subst hk
   have n1:valOf put g = none:=valOf_none fun i hi e=>by
    have hd:=hf.2.2
    unfold keysOf at hd
    exact (List.nodup_append.1 hd).2.2 i.k (List.mem_map_of_mem (f:=It.k) hi) g hg e
   simp [n1,hg]
end Go.Proofs.Ytkolacaceaamoaa
/- The law's done: what goes. -/
namespace Go.Proofs.Ytkolacaceaamoaa
open Go.RowKit
open Go.Lib (compareBytes)
/-- done, from its k-th statement on. -/
noncomputable def BD (k:Nat):Code:=dropS' k ((Try.f22.body).getD .skip)
noncomputable def CD (k:Nat):Code:=match BD k with
 | .seq a _=>a
 | c=>c
theorem findL_lt {l:List It} {key:Cn} (h:(findL l key).2 = true):(findL l key).1 < l.length:=by
 obtain ⟨a,b,e,hl,-,⟨-,y,r,hb,-⟩ | ⟨hf,-⟩⟩:=findL_cases l key
 ·rw [← hl,e,hb]; simp
 ·rw [h] at hf; cases hf
theorem findL_le {l:List It} {key:Cn}:(findL l key).1 ≤ l.length:=by
 obtain ⟨a,b,e,hl,-⟩:=findL_cases l key
 rw [← hl,e]; simp
def DnS (w1:World) (L:List It) (wr:World) (A:Option Addr) (n cap:Nat):Prop:=GrN ItR TIt 2 (fun _=>False) w1 wr (.slice A n cap) L ∧ L.length = n ∧ ∀ x ∈ L,x.k.length ≤ 1073741824 ∧ x.v.length ≤ 1073741824
theorem DnS.below {w1 wr w':World} {L:List It} {A:Option Addr} {n cap:Nat} (h:DnS w1 L wr A n cap) (hb:Below wr.heap.size wr w'):DnS w1 L w' A n cap:=⟨h.1.below @ItR.keep hb,h.2⟩
theorem bel_drewN (w:World) (n:Nat):Below w.heap.size w (w.drewN n):=⟨rfl,rfl,rfl,Nat.le_refl _,fun _ _=>rfl⟩
section
variable {Q:Exit → Act → World → Prop} {w1 wr:World} {bx:Nat} {K:Int} {Ap Ag A:Option Addr} {np cp ng cg n cap:Nat} {l:List It} {gone:List Cn}
set_option maxRecDepth 100000 in
set_option maxHeartbeats 8000000 in
theorem done_gone (hQ:∀ (u0 u1 u2 u6 u7 u8 u9 u10 u11 u12 u13 u14 u15 u16 u17 u18 u19 u20 u21 u22 u23 u24 u25 u26 u27 u28 u29 u30 u31 u32 u33 u34 u35 u36 u37 u38 u39 u40 u41 u42 u43 u44 u45 u46 u47 u48 u49 u50 u51 u52 u53 u54 u55 u56 u57 u58 u59 u60 u61 u62 u63 u64 u65 u66 u67 u68 u69 u70 u71 u72 u73 u74 u75 u76 u77 u78 u79 u80 u81 u82 u83 u84 u85 u86 u87 u88 u89:Value) (wr:World) (A:Option Addr) (n cap:Nat),DnS w1 (gone.foldl delS l) wr A n cap → Code.wp Try.prog (BD 3) Q { tmps:=#[u0,u1,u2,.pointer (some ⟨bx,0,none⟩),.slice none 0 0,.slice A n cap,u6,u7,u8,u9,u10,u11,u12,u13,u14,u15,u16,u17,u18,u19,u20,u21,u22,u23,u24,u25,u26,u27,u28,u29,u30,u31,u32,u33,u34,u35,u36,u37,u38,u39,u40,u41,u42,u43,u44,u45,u46,u47,u48,u49,u50,u51,u52,u53,u54,u55,u56,u57,u58,u59,u60,u61,u62,u63,u64,u65,u66,u67,u68,u69,u70,u71,u72,u73,u74,u75,u76,u77,u78,u79,u80,u81,u82,u83,u84,u85,u86,u87,u88,u89],defers:=[] } wr)
  (hbx:Blk w1 bx TSp #[.int .i64 K,.slice Ap np cp,.slice Ag ng cg]) (hg:SLk 1 BsR w1 (fun j=>j < w1.heap.size) (.slice Ag ng cg) gone) (hgn:gone.length = ng) (hng:ng ≤ 1000) (hs:DnS w1 l wr A n cap) (hn:l.length ≤ 1000000)
  (u0 u1 u2 u6 u7 u8 u9 u10 u11 u12 u13 u14 u15 u16 u17 u18 u19 u20 u21 u22 u23 u24 u25 u26 u27 u28 u29 u30 u31 u32 u33 u34 u35 u36 u37 u38 u39 u40 u41 u42 u43 u44 u45 u46 u47 u48 u49 u50 u51 u52 u53 u54 u55 u56 u57 u58 u59 u60 u61 u62 u63 u64 u65 u66 u67 u68 u69 u70 u71 u72 u73 u74 u75 u76 u77 u78 u79 u80 u81 u82 u83 u84 u85 u86 u87 u88 u89:Value):Code.wp Try.prog (BD 2) Q { tmps:=#[u0,u1,u2,.pointer (some ⟨bx,0,none⟩),.slice none 0 0,.slice A n cap,u6,u7,u8,u9,u10,u11,u12,u13,u14,u15,u16,u17,u18,u19,u20,u21,u22,u23,u24,u25,u26,u27,u28,u29,u30,u31,u32,u33,u34,u35,u36,u37,u38,u39,u40,u41,u42,u43,u44,u45,u46,u47,u48,u49,u50,u51,u52,u53,u54,u55,u56,u57,u58,u59,u60,u61,u62,u63,u64,u65,u66,u67,u68,u69,u70,u71,u72,u73,u74,u75,u76,u77,u78,u79,u80,u81,u82,u83,u84,u85,u86,u87,u88,u89],defers:=[] } wr:=by
 obtain ⟨i0,hi0,hz0,hz1,hz2⟩:=tit_inf
 have HI0:=hide hi0
 have HZ0:=hide hz0
 have HQ:=hide hQ
 have HBX:=hide hbx
 have HGO:=hide hg
 have HNG:=hide hgn
 have HS0:=hide (show DnS w1 ((gone.take 0).foldl delS l) wr A n cap ∧ ((gone.take 0).foldl delS l).length ≤ 1000000 from ⟨hs,hn⟩)
 clear hQ hbx hg hgn hs hi0 hz0 hn
 rw [show BD 2 = Code.seq (CD 2) (BD 3) from rfl]
 conv=>arg 2; arg 1; whnf
 go_wp2_with fail
 go_loopw [5,6,7,8] (fun v5 v6 _ _ wr=>∃ (A:Option Addr) (n cap i:Nat),v5 = .slice A n cap ∧ v6 = .int .i64 (i:Int) ∧ i ≤ ng ∧ Hid (DnS w1 ((gone.take i).foldl delS l) wr A n cap ∧ ((gone.take i).foldl delS l).length ≤ 1000000)) (fun _ v6 _ _ _=>ng - (intOf v6).toNat)
 case atStart=>exact ⟨A,n,cap,0,rfl,by go_num,by omega,HS0⟩
 case round=>
  clear HS0
  obtain ⟨A,n,cap,i,rfl,rfl,hi,HS⟩:=hrel
  have hbb:=HBX.out.below HS.out.1.1.bel HBX.out.lt
  have kb:=hbb.cell; have fz:=hbb.frozen; have zb:=hbb.lt
  clear hbb
  by_cases hlt:i < ng
  ·have hi':i < gone.length:=by rw [HNG.out]; exact hlt
   obtain ⟨b,o,A0,c0,rfl,hb,k0,hit⟩:=HGO.out.at_bs hi'
   have hTK:=List.take_succ_eq_append_getElem hi'
   obtain ⟨y,hy⟩:∃ y,gone[i] = y:=⟨_,rfl⟩
   rw [hy] at k0 hTK hit
   obtain ⟨L,hL⟩:∃ L,(gone.take i).foldl delS l = L:=⟨_,rfl⟩
   have HNL:=hide (show (gone.take (i + 1)).foldl delS l = delS L y by rw [hTK,List.foldl_append,hL]; rfl)
   rw [hL] at HS
   obtain ⟨kl,hkl⟩:∃ kl,y.length = kl:=⟨_,rfl⟩
   rw [hkl] at k0 hit
   have hbel:=HS.out.1.1.bel
   have k1:=(hbel.cell (p:=⟨b,o + i,none⟩) hb).trans k0
   have zk:=Nat.lt_of_lt_of_le hb hbel.size
   have hFI:=find17 (w:=wr) (F:=fun j=>j < wr.heap.size) (va:=.slice A n cap) (vk:=.slice A0 kl c0) (la:=L) (key:=y) (HS.out.1.1.slk @ItR.keep (by omega) (fun j _ hj=>hj)) (hit.keep (fun j hj _=>hbel.block j hj) (fun j hj _=>Nat.lt_of_lt_of_le hj hbel.size)) (by have:=HS.out.2; omega)
   have HFI:=hide hFI
   have hlen:=HS.out.1.2.1
   have hlen2:=HS.out.2
   obtain ⟨k,hk⟩:∃ k,(findL L y).1 = k:=⟨_,rfl⟩
   obtain ⟨f,hf⟩:∃ f,(findL L y).2 = f:=⟨_,rfl⟩
   rw [hk,hf] at HFI
   have HK:=hide hk
   have HF:=hide hf
   have hkle:k ≤ n:=by rw [← hk,← hlen]; exact findL_le
   have hklt:f = true → k < n:=fun e=>by rw [← hk,← hlen]; exact findL_lt (hf.trans e)
   clear hy hTK hL hkl hFI hit k0 hk hf hbel
   have hn6:n ≤ 1000000:=by omega
   clear hlen hlen2
   go_upto_region 6 with (go_at_call 13; (refine HFI.out.mono ?_); rintro e w2 ⟨rfl,N,rfl⟩)
   clear HFI
   have HS2:=hide (HS.out.1.below (bel_drewN wr N))
   clear kb fz zb k1 zk
   obtain ⟨w2,hw2⟩:∃ q,wr.drewN N = q:=⟨_,rfl⟩
   rw [hw2] at HS2 ⊢
   clear hw2
   have hbb:=HBX.out.below HS2.out.1.bel HBX.out.lt
   have kb:=hbb.cell; have fz:=hbb.frozen; have zb:=hbb.lt
   clear hbb
   cases f with
   | false=>
    have HE:=hide (show delS L y = L by unfold delS; rw [HF.out]; simp)
    go_wp2_with fail
    refine ⟨⟨A,n,cap,i + 1,rfl,by push_cast; rfl,by omega,hide (by rw [HNL.out,HE.out]; exact ⟨HS2.out,HS.out.2⟩)⟩,?_⟩
    simp [intOf]
    omega
   | true=>
    have hkn:=hklt rfl
    obtain ⟨hgr,hLn,hPB⟩:=HS2.out
    obtain ⟨xs,hxo,hxl⟩:=hgr.row
    have hxo':=hxo
    rw [hLn] at hxo
    obtain ⟨g,rfl,hnc,hcm⟩:∃ g,A = some ⟨g,0,none⟩ ∧ n ≤ cap ∧ cap ≤ maxLen:=by
     rcases hxo.2 with ⟨e,hz⟩ | ⟨g,c',cur,e,hb,hh,hc,hm,_⟩
     ·omega
     ·injection e with e1 _ e3
      subst e1 e3
      exact ⟨g,rfl,hc,hm⟩
    have hcm2:=hcm
    unfold maxLen at hcm2
    obtain ⟨k1,hk1⟩:∃ q,q = k + 1:=⟨_,rfl⟩
    have hk1n:k1 ≤ n:=by omega
    have hk1c:k1 ≤ cap:=by omega
    have hkc:k ≤ cap:=by omega
    have hwi:IntKind.i64.wrap ((k:Int) + 1) = (k1:Int):=by rw [IntKind.wrap_i64]; omega
    have hRd:=own_drop hxo hk1n
    have HTL:=hide (show ∃ At:Option Addr,((cap = k1 ∧ At = some ⟨g,0,none⟩) ∨ (cap ≠ k1 ∧ At = some ⟨g,k1 * 2,none⟩)) ∧ Reads w2 w2.heap.size 2 At (n - k1) (xs.drop (k1 * 2)) from by
     by_cases hcc:cap = k1
     ·exact ⟨_,.inl ⟨hcc,rfl⟩,hRd.1,fun h=>by omega⟩
     ·exact ⟨_,.inr ⟨hcc,rfl⟩,hRd⟩)
    obtain ⟨At,hAt,hRA⟩:=HTL.out
    have HAT:=hide hAt
    have HRA:=hide hRA
    have HXO:=hide hxo
    have HXT:=hide (own_take hxo (show k ≤ n by omega))
    have HLT:=hide (show (L.take k).length = k by rw [List.length_take]; omega)
    have HLD:=hide (show (L.drop k1).length = n - k1 by rw [List.length_drop]; omega)
    have HGT:=hide (hgr.take_ (j:=k) (fun w F=>itR_len) hLn (by omega))
    have HXL:=hide (LR.take (itR_len (w:=w2)) k _ _ hxl)
    have HXD:=hide (LR.drop (itR_len (w:=w2)) k1 _ _ hxl)
    have HDE:=hide (show delS L y = L.take k ++ L.drop k1 by unfold delS; rw [HF.out,HK.out,if_pos rfl,hk1])
    have HPB:=hide hPB
    have HGR:=hide hgr
    have hone:∀ u ∈ xs.drop (k1 * 2),u.oneCell' = true:=LR.ones (fun a cs h u hu=>by
     obtain ⟨v1,v2,rfl,⟨_,_,ea,_⟩,⟨_,_,eb,_⟩⟩:=h
     simp at hu
     rcases hu with rfl | rfl
     ·rw [ea]; rfl
     ·rw [eb]; rfl) _ _ HXD.out
    have HONE:=hide hone
    have HK1:=hide hk1
    clear hk1 hgr hxo hxo' hxl hRd hAt hRA HTL hone hPB hcm
    go_upto_region 7 with fail
    refine wp_region_dagO (by kernel_rfl) (by kernel_rfl) 90 1
     [⟨some 33,[0,1],[],[],[],[],fun _ _ v _=>v = .slice (some ⟨g,0,none⟩) n cap⟩,
      ⟨some 34,[0,1],[],[],[],[],fun _ _ v _=>v = .int .i64 (k:Int)⟩,
      ⟨some 35,[0,1],[],[],[0,1],[],fun _ _ v _=>v = .slice (some ⟨g,0,none⟩) k cap⟩,
      ⟨some 36,[0,1],[],[],[],[],fun _ _ v _=>v = .slice (some ⟨g,0,none⟩) n cap⟩,
      ⟨some 37,[0,1],[],[],[],[],fun _ _ v _=>v = .int .i64 (k:Int)⟩,
      ⟨some 38,[0,1],[],[],[4],[],fun _ _ v _=>v = .int .i64 (k1:Int)⟩,
      ⟨some 39,[0,1],[],[],[3,5],[],fun _ _ v _=>v = .slice At (n - k1) (cap - k1)⟩,
      ⟨some 40,[0],[(0,1)],[1],[2,6],[],fun st a v w'=>1 ≤ st ∧ ∃ A' c',v = .slice A' (n - 1) c' ∧ DnS w1 (delS L y) w' A' (n - 1) c'⟩,
      ⟨some 5,[1],[],[],[7],[],fun st a v w'=>1 ≤ st ∧ ∃ A' c',v = .slice A' (n - 1) c' ∧ DnS w1 (delS L y) w' A' (n - 1) c'⟩] (G5 w1 w2) (fun s s' _ _ _=>s = 0 ∧ s' = 1) (fun _ w w'=>Below w.heap.size w w') ?gu ?ru ?put [33,34,35,36,37,38,39,40,5] rfl (by kernel_rfl) rfl ?g0 ?keep ?steps ?fin
    case ru=>
     intro e he s a v w w' hu hv
     simp only [List.mem_cons,List.not_mem_nil,or_false] at he
     rcases he with rfl | rfl | rfl | rfl | rfl | rfl | rfl | rfl | rfl
     all_goals first | exact hv | (obtain ⟨h0,A',c',e,h2⟩:=hv; exact ⟨h0,A',c',e,h2.below hu⟩)
    case put=>
     intro e he s a d u v w hnd hv
     simp only [List.mem_cons,List.not_mem_nil,or_false] at he
     rcases he with rfl | rfl | rfl | rfl | rfl | rfl | rfl | rfl | rfl
     all_goals first | exact hv
    case keep=>
     intro e he s s' a v w w' hsl hm ht hv
     simp only [List.mem_cons,List.not_mem_nil,or_false] at he
     rcases he with rfl | rfl | rfl | rfl | rfl | rfl | rfl | rfl | rfl
     all_goals first | exact hv | (exfalso; have:=hv.1; have:=ht.1; omega)
    case steps=>
     refine ⟨?_,?_,?_,?_,?_,?_,?_,?_,?_,trivial⟩
     ·intro st hst ac w3 hg hG hd ho K hK
      dsimp only at hst hG hK
      exact op_move _ rfl (hK _ _ (Below.refl _ _) (ho 8 _ rfl (by decide) (by kernel_rfl) 5 rfl))
     ·intro st hst ac w3 hg hG hd ho K hK
      dsimp only at hst hG hK
      exact op_move _ rfl (hK _ _ (Below.refl _ _) (hg.kp 7 (by simp)))
     ·intro st hst ac w3 hg hG hd ho K hK
      dsimp only at hst hG hK
      have f0:=hd 0 (by simp) _ rfl _ rfl
      have f1:=hd 1 (by simp) _ rfl _ rfl
      (try simp [Act.eval] at f0)
      (try simp [Act.eval] at f1)
      go_simp
      exact hK _ _ (Below.refl _ _) rfl
     ·intro st hst ac w3 hg hG hd ho K hK
      dsimp only at hst hG hK
      exact op_move _ rfl (hK _ _ (Below.refl _ _) (ho 8 _ rfl (by decide) (by kernel_rfl) 5 rfl))
     ·intro st hst ac w3 hg hG hd ho K hK
      dsimp only at hst hG hK
      exact op_move _ rfl (hK _ _ (Below.refl _ _) (hg.kp 7 (by simp)))
     ·intro st hst ac w3 hg hG hd ho K hK
      dsimp only at hst hG hK
      have f4:=hd 4 (by simp) _ rfl _ rfl
      clear hG
      simp [Act.eval] at f4
      go_simp
      exact hK _ _ (Below.refl _ _) (by have:=HK1.out; subst this; simp)
     ·intro st hst ac w3 hg hG hd ho K hK
      dsimp only at hst hG hK
      have f3:=hd 3 (by simp) _ rfl _ rfl
      have f5:=hd 5 (by simp) _ rfl _ rfl
      clear hG
      simp [Act.eval] at f3 f5
      have hcl:=hk1c
      rcases HAT.out with ⟨h1,rfl⟩ | ⟨h1,rfl⟩
      (subst h1; go_simp; exact hK _ _ (Below.refl _ _) (by simp; omega))
      (have h2:k1 < cap:=by omega)
      (go_simp; exact hK _ _ (Below.refl _ _) rfl)
     ·intro st st' hmv ac w3 hg hG hd ho K hK
      simp only [List.mem_cons,Prod.mk.injEq,List.not_mem_nil,or_false] at hmv
      obtain ⟨rfl,rfl⟩:=hmv
      dsimp only at hG hK
      have f2:=hd 2 (by simp) _ rfl _ rfl
      have f6:=hd 6 (by simp) _ rfl _ rfl
      have hb0:=hG.2 rfl
      refine wp_append_any w3 (.tmp 35) (.tmp 39) 32 rfl w1.heap.size TIt i0 _ 2 48 Try.underlying32 HI0.out HZ0.out hz1 hz2 rfl (by omega) (.slice (some ⟨g,0,none⟩) k cap) k (xs.take (k * 2)) f2 (own_later HXT.out hb0) w3.heap.size At (n - k1) (cap - k1) (xs.drop (k1 * 2)) f6 ⟨HRA.out.1,fun h0=>(by obtain ⟨ad,e1,e2,e3⟩:=HRA.out.2 h0; exact ⟨ad,e1,Nat.lt_of_lt_of_le e2 hb0.size,fun j u hu=>(hb0.cell (by rw [show (ad.add j).block = ad.block from by unfold Addr.add; split <;> rfl]; exact e2)).trans (e3 j u hu)⟩)⟩ HONE.out (by unfold maxLen; have:=HK1.out; omega) (by have:=HK1.out; omega) hG.1.size ?_
      intro v' w' ho hgb hoo
      have hG2:=GrN.app (w2:=w3) (l2:=L.drop k1) (cs:=xs.drop (k1 * 2)) @ItR.keep HGT.out hb0 ⟨by rw [HLT.out]; exact HXT.out,HXL.out⟩ (LR.mono (fun a cs=>ItR.keep (fun j hj hlt=>hb0.block j hlt) (fun j hj hlt=>⟨hj.1,Nat.lt_of_lt_of_le hlt hb0.size,hj.2.2⟩) a cs) _ _ HXD.out) (by rw [HLT.out,HLD.out]; exact ho) hgb hoo
      (obtain ⟨A',c',e',_⟩:=own_slice ho)
      (rw [show k + (n - k1) = n - 1 from by have:=HK1.out; omega] at e')
      subst e'
      exact hK _ _ ⟨rfl,rfl⟩ ⟨hG2.bel,fun e=>by omega⟩ ⟨Nat.le_refl _,A',c',rfl,(by rw [HDE.out]; exact hG2),(by rw [HDE.out,List.length_append,HLT.out,HLD.out]; have:=HK1.out; omega),fun x hx=>HPB.out x (delS_mem hx)⟩
     ·intro st hst ac w3 hg hG hd ho K hK
      dsimp only at hst hG hK
      exact op_assign _ rfl (hK _ _ (Below.refl _ _) (hd 7 (by simp) _ rfl _ rfl))
    case gu=>intro s a b hG hu; exact ⟨hG.1.trans (hu.mono hG.1.size),fun e=>(hG.2 e).trans (hu.mono (hG.2 e).size)⟩
    case g0=>exact ⟨HGR.out.bel.drew,fun _=>(Below.refl _ _).drew⟩
    case fin=>
     intro f9 w9 hG hall
     obtain ⟨-,A',c',h9,hd9⟩:=hall _ (List.mem_of_getElem? (i:=8) rfl) 5 rfl
     have HD9:=hide hd9
     clear hall hG hd9
     simp only [fillF,List.map_cons,List.map_nil,List.foldl_cons,List.foldl_nil,Act.put,List.setIfInBounds_toArray,List.set_cons_zero,List.set_cons_succ]
     rw [h9]
     clear h9
     go_wp2_with fail
     refine ⟨⟨A',n - 1,c',i + 1,rfl,by push_cast; rfl,by omega,hide (by rw [HNL.out]; exact ⟨HD9.out,Nat.le_trans (delS_le _ _) HS.out.2⟩)⟩,?_⟩
     simp [intOf]
     omega
  ·obtain rfl:i = ng:=by omega
   have HE:=hide (show DnS w1 (gone.foldl delS l) wr A n cap from by have:=HS.out.1; rwa [← HNG.out,List.take_length] at this)
   go_wp2_with fail
   exact HQ.out _ _ _ _ _ _ _ _ _ _ _ _ _ _ _ _ _ _ _ _ _ _ _ _ _ _ _ _ _ _ _ _ _ _ _ _ _ _ _ _ _ _ _ _ _ _ _ _ _ _ _ _ _ _ _ _ _ _ _ _ _ _ _ _ _ _ _ _ _ _ _ _ _ _ _ _ _ _ _ _ _ _ _ _ _ _ _ _ _ _ _ HE.out
end
end Go.Proofs.Ytkolacaceaamoaa
