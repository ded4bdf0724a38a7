/- The law's same. -/
import Derived.Test.YtkolacaceaamoaaKSi
import Derived.BigRegion
import Derived.Deep.QuietTactic
import Derived.BigQuiet
set_option linter.unusedSimpArgs false
set_option linter.unusedVariables false
namespace Go.Proofs.Ytkolacaceaamoaa
open Go.RowKit
open Go.Lib (compareBytes)
/-- Two lists of items are the same. -/
def eqIt:List It → List It → Bool
 | [],[]=>true
 | a :: l,b :: r=>decide (a.k = b.k) && decide (a.v = b.v) && eqIt l r
 | _,_=>false
theorem eqIt_iff:∀ a b:List It,eqIt a b = true ↔ a = b
 | [],[]=>by simp [eqIt]
 | [],_ :: _=>by simp [eqIt]
 | _ :: _,[]=>by simp [eqIt]
 | ⟨k,v⟩ :: l,⟨k',v'⟩ :: r=>by
  rw [eqIt,Bool.and_eq_true,Bool.and_eq_true,decide_eq_true_eq,decide_eq_true_eq,eqIt_iff l r]
  simp
theorem eqIt_take:∀ (a b:List It) (j:Nat) (ha:j < a.length) (hb:j < b.length),a.take j = b.take j → (a[j].k ≠ b[j].k ∨ a[j].v ≠ b[j].v) → eqIt a b = false:=fun a b j ha hb h hn=>by
 rw [Bool.eq_false_iff]
 intro e
 have:=(eqIt_iff a b).1 e
 subst this
 rcases hn with h | h <;> exact h rfl
theorem str_eq (a b:Cn):((⟨a.toArray⟩:ByteArray).toList == (⟨b.toArray⟩:ByteArray).toList) = decide (a = b):=by
 rw [show (⟨a.toArray⟩:ByteArray).toList = a from by rw [ByteArray.toList_eq],show (⟨b.toArray⟩:ByteArray).toList = b from by rw [ByteArray.toList_eq]]
 by_cases h:a = b <;> simp [h]
theorem bs_stringN {w:World} {F:Nat → Prop} {v:Value} {l:Cn} (h:BS w F v l) (N:Nat):(convert 38 9 v).run Try.prog (w.drewN N) = .ok (.string ⟨l.toArray⟩) (w.drewN N):=
 bs_string (w:=w.drewN N) (F:=F) h
set_option maxRecDepth 100000 in
set_option maxHeartbeats 4000000 in
theorem same17 {w:World} {F:Nat → Prop} {va vb:Value} {la lb:List It} (h1:SLk 2 ItR w F va la) (h2:SLk 2 ItR w F vb lb) (hl:la.length ≤ 1000000000) (hl2:lb.length ≤ 1000000000) :
  Calls Try.prog 11 #[va,vb] w fun e w'=>e = .returned (.bool (eqIt la lb)) ∧ ∃ n,w' = w.drewN n:=by
 have H1:=hide h1
 have H2:=hide h2
 obtain ⟨A,ca,xa,rfl,hca,_⟩:=h1
 obtain ⟨B,cb,xb,rfl,hcb,_⟩:=h2
 obtain ⟨na,hna⟩:∃ q,la.length = q:=⟨_,rfl⟩
 obtain ⟨nb,hnb⟩:∃ q,lb.length = q:=⟨_,rfl⟩
 have HNA:=hide hna
 have HNB:=hide hnb
 rw [hna] at H1 hl hca ⊢
 rw [hnb] at H2 hl2 hcb ⊢
 obtain ⟨hca,-⟩:=hca
 obtain ⟨hcb,-⟩:=hcb
 clear hna hnb
 go_enter Try.func11,Try.ntmps11
 go_wp2_with fail
 go_loopw [4,5] (fun v4 v5 wr=>∃ j N:Nat,v4 = .bool false ∧ v5 = .int .i64 (j:Int) ∧ j ≤ na ∧ j ≤ nb ∧ wr = w.drewN N ∧ Hid (la.take j = lb.take j)) (fun _ v5 _=>na - (intOf v5).toNat)
 case atStart=>exact ⟨0,0,rfl,by go_num,by omega,by omega,rfl,hide rfl⟩
 case round=>
  obtain ⟨j,N,rfl,rfl,hja,hjb,rfl,HT⟩:=hrel
  by_cases hlt:j < na ∧ j < nb
  ·obtain ⟨hlt1,hlt2⟩:=hlt
   have hia:j < la.length:=by rw [HNA.out]; exact hlt1
   have hib:j < lb.length:=by rw [HNB.out]; exact hlt2
   obtain ⟨b1,o1,A1,c1,A2,c2,rfl,z1,_,p0,p1,⟨q1,q2,eq1,hq1,hq2⟩⟩:=H1.out.at_it hia
   obtain ⟨b2,o2,B1,d1,B2,d2,rfl,z2,_,r0,r1,⟨s1,s2,es1,hs1,hs2⟩⟩:=H2.out.at_it hib
   obtain ⟨rfl,e2⟩:=List.cons.inj eq1
   obtain ⟨rfl,-⟩:=List.cons.inj e2
   obtain ⟨rfl,e3⟩:=List.cons.inj es1
   obtain ⟨rfl,-⟩:=List.cons.inj e3
   clear e2 e3 eq1 es1
   have f1:=fun n=>bs_stringN hq1 n
   have f2:=fun n=>bs_stringN hq2 n
   have f3:=fun n=>bs_stringN hs1 n
   have f4:=fun n=>bs_stringN hs2 n
   have HTK:=hide (fun (h:la[j] = lb[j])=>(show la.take (j + 1) = lb.take (j + 1) from by rw [take_next hia,take_next hib,HT.out,h]))
   have HNE:=hide (fun h=>eqIt_take la lb j hia hib HT.out h)
   obtain ⟨x,hx⟩:∃ x,la[j] = x:=⟨_,rfl⟩
   obtain ⟨y,hy⟩:∃ y,lb[j] = y:=⟨_,rfl⟩
   rw [hx] at p0 p1 f1 f2 HTK HNE
   rw [hy] at r0 r1 f3 f4 HTK HNE
   clear hx hy hia hib hq1 hq2 hs1 hs2
   obtain ⟨x1,x2⟩:=x
   obtain ⟨y1,y2⟩:=y
   simp only at p0 p1 f1 f2 r0 r1 f3 f4 HNE
   have e1:=str_eq x1 y1
   have e2:=str_eq x2 y2
   obtain ⟨n1,hn1⟩:∃ q,x1.length = q:=⟨_,rfl⟩
   obtain ⟨n2,hn2⟩:∃ q,x2.length = q:=⟨_,rfl⟩
   obtain ⟨n3,hn3⟩:∃ q,y1.length = q:=⟨_,rfl⟩
   obtain ⟨n4,hn4⟩:∃ q,y2.length = q:=⟨_,rfl⟩
   rw [hn1] at p0 f1
   rw [hn2] at p1 f2
   rw [hn3] at r0 f3
   rw [hn4] at r1 f4
   obtain ⟨t1,ht1⟩:∃ t:ByteArray,⟨x1.toArray⟩ = t:=⟨_,rfl⟩
   obtain ⟨t2,ht2⟩:∃ t:ByteArray,⟨x2.toArray⟩ = t:=⟨_,rfl⟩
   obtain ⟨t3,ht3⟩:∃ t:ByteArray,⟨y1.toArray⟩ = t:=⟨_,rfl⟩
   obtain ⟨t4,ht4⟩:∃ t:ByteArray,⟨y2.toArray⟩ = t:=⟨_,rfl⟩
   rw [ht1] at f1 e1
   rw [ht2] at f2 e2
   rw [ht3] at f3 e1
   rw [ht4] at f4 e2
   have E1:=hide e1
   have E2:=hide e2
   clear e1 e2 ht1 ht2 ht3 ht4 hn1 hn2 hn3 hn4
   cases d1:(t1.toList == t3.toList) with
   | false=>
    have HE:=hide (show eqIt la lb = false from HNE.out (.inl (by have:=E1.out; rw [d1] at this; simpa using this.symm)))
    go_wp2
    go_quiet (fail)
    go_wp2
    go_ret
    exact ⟨by rw [HE.out]; rfl,_,World.drewN_drewN _ _ _⟩
   | true=>
    have g1:x1 = y1:=by have:=E1.out; rw [d1] at this; simpa using this.symm
    have HG1:=hide g1
    clear g1
    cases d2:(t2.toList == t4.toList) with
    | false=>
     have HE:=hide (show eqIt la lb = false from HNE.out (.inr (by have:=E2.out; rw [d2] at this; simpa using this.symm)))
     go_wp2
     go_quiet (fail)
     go_wp2
     go_ret
     exact ⟨by rw [HE.out]; rfl,_,World.drewN_drewN _ _ _⟩
    | true=>
     have g2:x2 = y2:=by have:=E2.out; rw [d2] at this; simpa using this.symm
     have HG2:=hide g2
     clear g2
     go_wp2
     go_quiet (fail)
     go_wp2
     go_roundw
     case rel=>exact ⟨j + 1,_,rfl,by go_num,by omega,by omega,rfl,hide (HTK.out (by rw [HG1.out,HG2.out]))⟩
     case measure=>simp [intOf]; omega
  ·have HE:=hide (show eqIt la lb = decide ((na:Int) = (nb:Int)) from by
    have ht:=HT.out
    rcases Nat.lt_or_ge j na with h | h
    ·have hjb':j = nb:=by omega
     have h1:lb.take j = lb:=List.take_of_length_le (by rw [HNB.out]; omega)
     have hne:¬ (na:Int) = (nb:Int):=by omega
     rw [decide_eq_false hne,Bool.eq_false_iff]
     intro e
     have e2:=(eqIt_iff la lb).1 e
     exact hne (by rw [← HNA.out,← HNB.out,e2])
    ·have hja':j = na:=by omega
     have h1:la.take j = la:=List.take_of_length_le (by rw [HNA.out]; omega)
     rw [h1] at ht
     by_cases hne:(na:Int) = (nb:Int)
     ·have h2:lb.take j = lb:=List.take_of_length_le (by rw [HNB.out]; omega)
      rw [h2] at ht
      rw [decide_eq_true hne]
      exact (eqIt_iff la lb).2 ht
     ·rw [decide_eq_false hne,Bool.eq_false_iff]
      intro e
      have e2:=(eqIt_iff la lb).1 e
      exact hne (by rw [← HNA.out,← HNB.out,e2]))
   have hor:¬ (j < na) ∨ (j < na ∧ ¬ j < nb):=by omega
   rcases hor with h | ⟨h,h'⟩
   ·have d1:decide ((j:Int) < (na:Int)) = false:=by simp; omega
    go_wp2
    go_ret
    exact ⟨by rw [HE.out]; rfl,_,rfl⟩
   ·have d1:decide ((j:Int) < (na:Int)) = true:=by simp; omega
    have d2:decide ((j:Int) < (nb:Int)) = false:=by simp; omega
    go_wp2
    go_ret
    exact ⟨by rw [HE.out]; rfl,_,rfl⟩
end Go.Proofs.Ytkolacaceaamoaa
/- The law's fits. -/
namespace Go.Proofs.Ytkolacaceaamoaa
open Go.RowKit
open Go.Lib (compareBytes)
abbrev TSr:TypeId:=9
theorem tsr_inf:∃ i,Try.prog.info? TSr = some i ∧ i.zero = some (.string ⟨#[]⟩) ∧ i.size = 1 ∧ i.bytes = 16:=by
 have h:(Try.prog.info? TSr).map (fun i=>(i.zero,i.size,i.bytes)) = some (some (.string ⟨#[]⟩),1,16):=by kernel_rfl
 cases hi:Try.prog.info? TSr with
 | none=>rw [hi] at h; cases h
 | some i=>rw [hi] at h; simp only [Option.map_some,Option.some.injEq,Prod.mk.injEq] at h; exact ⟨i,rfl,h.1,h.2.1,h.2.2⟩
def strV (k:Cn):Value:=.string ⟨k.toArray⟩
/-- May a Put be? -/
def keysOf (put:List It) (gone:List Cn):List Cn:=put.map It.k ++ gone
def okK (ks:List Cn):Prop:=(∀ k ∈ ks,1 ≤ k.length ∧ k.length ≤ 32) ∧ ks.Nodup
def fitsP (put:List It) (gone:List Cn):Prop:=(∀ x ∈ put,x.v.length ≤ 128) ∧ okK (keysOf put gone)
theorem chs_keys (put:List It) (gone:List Cn):(chs put gone).map Ch.k = keysOf put gone:=by
 unfold chs keysOf
 rw [List.map_append,List.map_map,List.map_map]
 congr 1
 exact List.map_id' gone
theorem fits_ok {put:List It} {gone:List Cn} {l:List Ch} (hp:l.Perm (chs put gone)) (hs:SortC l):okL l ↔ fitsP put gone:=by
 have hk:(l.map Ch.k).Perm (keysOf put gone):=by rw [← chs_keys]; exact hp.map _
 have hm:∀ c,c ∈ l ↔ c ∈ chs put gone:=fun c=>hp.mem_iff
 constructor
 ·rintro ⟨h1,h2⟩
  refine ⟨fun x hx=>(h1 ⟨x.k,x.v,false⟩ ((hm _).2 (by unfold chs; exact List.mem_append_left _ (List.mem_map_of_mem (f:=fun x:It=>(⟨x.k,x.v,false⟩:Ch)) hx)))).2.2,fun k hk'=>?_,?_⟩
  ·obtain ⟨c,hc,rfl⟩:=List.mem_map.1 (hk.mem_iff.2 hk')
   exact ⟨(h1 c hc).1,(h1 c hc).2.1⟩
  ·refine hk.nodup_iff.1 ?_
   unfold List.Nodup
   rw [List.pairwise_map]
   exact h2.imp fun {a b} h e=>by rw [cb_zero.2 e] at h; omega
 ·rintro ⟨h1,h2,h3⟩
  refine ⟨fun c hc=>?_,?_⟩
  ·have hc':=h2 c.k (hk.mem_iff.1 (List.mem_map_of_mem hc))
   refine ⟨hc'.1,hc'.2,?_⟩
   have hcc:=(hm c).1 hc
   unfold chs at hcc
   rcases List.mem_append.1 hcc with h | h
   ·obtain ⟨x,hx,rfl⟩:=List.mem_map.1 h
    exact h1 x hx
   ·obtain ⟨x,hx,rfl⟩:=List.mem_map.1 h
    simp
  ·have hn:=hk.nodup_iff.2 h3
   unfold List.Nodup at hn
   rw [List.pairwise_map] at hn
   exact (hs.and hn).imp fun {a b} ⟨h,e⟩=>by
    have:compareBytes a.k b.k ≠ 0:=fun q=>e (cb_zero.1 q)
    omega
theorem run_str {w:World} {F:Nat → Prop} {v:Value} {l:Cn} (h:BS w F v l):(convert 38 9 v).run Try.prog w = .ok (strV l) w:=bs_string h
/-- The strings that fits has gathered. -/
structure FitS (w wr:World) (A:Option Addr) (n c:Nat) (ks:List Cn):Prop where
 bel:Below w.heap.size w wr
 row:wr.ownsRow w.heap.size TSr 1 (.slice A n c) n (ks.map strV)
theorem FitS.at_ {w wr:World} {A:Option Addr} {n c:Nat} {ks:List Cn} (h:FitS w wr A n c ks) {j:Nat} (hj:j < ks.length):∃ b,A = some ⟨b,0,none⟩ ∧ b < wr.heap.size ∧ n = ks.length ∧ n ≤ c ∧ wr.cell? ⟨b,j,none⟩ = some (strV ks[j]):=by
 have hl:=h.row.1
 rw [List.length_map] at hl
 rcases h.row.2 with ⟨e,h0⟩ | ⟨g,cap,cur,e,hb,hh,hc,hm,_⟩
 ·omega
 ·injection e with e1 _ e3
  subst e1 e3
  refine ⟨g,rfl,(h.row.lt g rfl).2,by omega,hc,?_⟩
  rw [h.row.cellAt j (by omega),List.getElem?_map,List.getElem?_eq_getElem hj]
  rfl
theorem FitS.len {w wr:World} {A:Option Addr} {n c:Nat} {ks:List Cn} (h:FitS w wr A n c ks):n = ks.length ∧ n ≤ c:=by
 have hl:=h.row.1
 rw [List.length_map] at hl
 refine ⟨by omega,?_⟩
 rcases h.row.2 with ⟨e,h0⟩ | ⟨g,cap,cur,e,hb,hh,hc,hm,_⟩
 ·omega
 ·injection e with e1 _ e3
  omega
abbrev TSp:TypeId:=49
set_option maxRecDepth 100000 in
set_option maxHeartbeats 4000000 in
theorem fits17 {w:World} {F:Nat → Prop} {K:Int} {vp vg:Value} {put:List It} {gone:List Cn} (h1:SLk 2 ItR w F vp put) (h2:SLk 1 BsR w F vg gone) (hl1:put.length ≤ 10000000) (hl2:gone.length ≤ 10000000) :
  Calls Try.prog 14 #[.agg #[.int .i64 K,vp,vg]] w fun e w'=>∃ b,e = .returned (.bool b) ∧ (b = true ↔ fitsP put gone) ∧ Below w.heap.size w w':=by
 obtain ⟨i0,hi0,hz0,hz1,hz2⟩:=tsr_inf
 have HI0:=hide hi0
 have HZ0:=hide hz0
 have H1:=hide h1
 have H2:=hide h2
 obtain ⟨A,ca,xa,rfl,hca,_⟩:=h1
 obtain ⟨G,cg,xg,rfl,hcg,_⟩:=h2
 obtain ⟨na,hna⟩:∃ q,put.length = q:=⟨_,rfl⟩
 obtain ⟨ng,hng⟩:∃ q,gone.length = q:=⟨_,rfl⟩
 have HNA:=hide hna
 have HNG:=hide hng
 rw [hna] at H1 hl1 hca ⊢
 rw [hng] at H2 hl2 hcg ⊢
 obtain ⟨hca,-⟩:=hca
 obtain ⟨hcg,-⟩:=hcg
 clear hna hng hi0 hz0
 obtain ⟨w1,hw1⟩:∃ y,w.alloc (.cells #[.int .i64 K,.slice A na ca,.slice G ng cg] TSp) = y:=⟨_,rfl⟩
 have HB1:=hide (show Below w.heap.size w w1 from hw1 ▸ al_below w _)
 have HC1:=hide (show Blk w1 w.heap.size TSp #[.int .i64 K,.slice A na ca,.slice G ng cg] from hw1 ▸ Blk.new _ _ _)
 have HZ1:=hide (show w1.heap.size = w.heap.size + 1 from by rw [← hw1,heap_al])
 have HW1:=hide hw1
 clear hw1
 go_enter Try.func14,Try.ntmps14
 go_upto_region 1 with fail
 rw [HW1.out]
 go_wp2_with fail
 go_loopw [2,3,4] (fun v2 v3 v4 wr=>∃ (j c:Nat) (D:Option Addr),v2 = .bool false ∧ v3 = .slice D j c ∧ v4 = .int .i64 (j:Int) ∧ j ≤ na ∧ Hid (∀ x ∈ put.take j,x.v.length ≤ 128) ∧ Hid (FitS w1 wr D j c ((put.take j).map It.k))) (fun _ _ v4 _=>na - (intOf v4).toNat)
 case atStart=>exact ⟨0,0,none,rfl,rfl,by go_num,by omega,hide (fun x hx=>by cases hx),hide ⟨Below.refl _ _,World.ownsRow_nil _ _ _ _⟩⟩
 case round=>
  obtain ⟨j,c,D,rfl,rfl,rfl,hj,HV,HR⟩:=hrel
  have hst:=(HC1.out.below HR.out.bel HC1.out.lt)
  have ks:=hst.cell; have zs:=hst.lt
  by_cases hlt:j < na
  ·have hia:j < put.length:=by rw [HNA.out]; exact hlt
   obtain ⟨b1,o1,A1,c1,A2,c2,rfl,z1,_,p0,p1,⟨q1,q2,eq1,hq1,hq2⟩⟩:=H1.out.at_it hia
   obtain ⟨rfl,e2⟩:=List.cons.inj eq1
   obtain ⟨rfl,-⟩:=List.cons.inj e2
   clear e2 eq1
   have hTK:=take_next hia
   have hin:=List.getElem_mem hia
   obtain ⟨x,hx⟩:∃ x,put[j] = x:=⟨_,rfl⟩
   rw [hx] at p0 p1 hq1 hTK hin
   clear hx
   have hbw:=HB1.out.trans (HR.out.bel.mono HB1.out.size)
   have p0:=(hbw.cell (p:=⟨b1,o1 + j * 2,none⟩) z1).trans p0
   have p1:=(hbw.cell (p:=⟨b1,o1 + j * 2 + 1,none⟩) z1).trans p1
   have zz:=Nat.lt_of_lt_of_le z1 hbw.size
   have hcv:=run_str (hq1.all.later hbw)
   obtain ⟨tx,htx⟩:∃ t:ByteArray,⟨x.k.toArray⟩ = t:=⟨_,rfl⟩
   have HTS:=hide (show strV x.k = .string tx from by unfold strV; rw [htx])
   rw [HTS.out] at hcv
   clear htx
   obtain ⟨kl,hkl⟩:∃ q,x.k.length = q:=⟨_,rfl⟩
   obtain ⟨vl,hvl⟩:∃ q,x.v.length = q:=⟨_,rfl⟩
   rw [hkl] at p0 hcv
   rw [hvl] at p1
   have HVL:=hide hvl
   have HTK:=hide hTK
   have HIN:=hide hin
   clear hkl hvl hTK hin hq1 hq2 hia hbw
   by_cases hbig:vl ≤ 128
   ·have db:decide ((128:Int) < (vl:Int)) = false:=by simp; omega
    obtain ⟨w2,hw2⟩:∃ w2,wr.alloc (.cells #[.string tx] TSr) = w2:=⟨_,rfl⟩
    have HB2:=hide (show Below wr.heap.size wr w2 from hw2 ▸ al_below wr _)
    have HN2:=hide (show Blk w2 wr.heap.size TSr #[.string tx] from hw2 ▸ Blk.new _ _ _)
    have HW2:=hide hw2
    clear hw2
    go_wp2_with (at_builtin; (rw [HW2.out]); refine wpList_append_any _ rfl (.tmp 23) (.tmp 31) 81 rfl w1.heap.size TSr i0 _ 1 16 Try.underlying81 HI0.out HZ0.out hz1 hz2 rfl (by omega) (.slice D j c) j _ rfl (own_later HR.out.row HB2.out) _ (some ⟨wr.heap.size,0,none⟩) 1 1 [.string tx] rfl (reads_blk HN2.out rfl rfl) (by intro u hu; simp at hu; subst hu; rfl) (by unfold maxLen; omega) (by omega) (Nat.le_trans HR.out.bel.size HB2.out.size) ?_; intro v' w3 ho hgb hoo; (obtain ⟨A6,c6,rfl,hc6⟩:=own_slice ho); have HF3:=hide (show FitS w1 w3 A6 (j + 1) c6 ((put.take (j + 1)).map It.k) from ⟨(HR.out.bel.trans (HB2.out.mono HR.out.bel.size)).grown hgb (Nat.le_trans HR.out.bel.size HB2.out.size) (fun k hk=>(HR.out.row.lt k hk).1),by rw [HTK.out,List.map_append,List.map_append,List.map_cons,List.map_nil,List.map_cons,List.map_nil,HTS.out]; exact ho⟩); clear ho hgb hoo)
    refine ⟨⟨j + 1,c6,A6,rfl,rfl,by push_cast; rfl,by omega,hide (fun y hy=>?_),HF3⟩,?_⟩
    ·rw [HTK.out] at hy
     rcases List.mem_append.1 hy with hy | hy
     ·exact HV.out y hy
     ·rw [List.mem_singleton.1 hy,HVL.out]; exact hbig
    ·simp [intOf]
     omega
   ·have db:decide ((128:Int) < (vl:Int)) = true:=by simp; omega
    go_wp2_with fail
    go_ret
    exact ⟨false,rfl,⟨fun e=>absurd e (by decide),fun hP=>absurd (hP.1 x HIN.out) (by rw [HVL.out]; exact hbig)⟩,HB1.out.trans (HR.out.bel.mono HB1.out.size)⟩
  ·obtain rfl:na = j:=by omega
   have hv:=HV.out
   have hr:=HR.out
   rw [← HNA.out,List.take_length] at hv
   rw [show put.take na = put from by rw [← HNA.out,List.take_length]] at hr
   have HV2:=hide hv
   have HR2:=hide (show FitS w1 wr D na c (put.map It.k ++ gone.take 0) from by simpa using hr)
   have hnn:Hid (na = na + 0):=hide rfl
   clear HV HR hv hr
   go_wp2_with fail
   go_loopw [3,5] (fun v3 v5 wr=>∃ (j n c:Nat) (D:Option Addr),v3 = .slice D n c ∧ v5 = .int .i64 (j:Int) ∧ j ≤ ng ∧ Hid (n = na + j) ∧ Hid (FitS w1 wr D n c (put.map It.k ++ gone.take j))) (fun _ v5 _=>ng - (intOf v5).toNat)
   case atStart=>exact ⟨0,na,c,D,rfl,by go_num,by omega,hnn,HR2⟩
   case round=>
    clear HR2 hnn ks zs
    obtain ⟨j,n,c,D,rfl,rfl,hj,HN,HR⟩:=hrel
    have hst:=(HC1.out.below HR.out.bel HC1.out.lt)
    have ks:=hst.cell; have zs:=hst.lt
    have hn9:n ≤ 20000000:=by have:=HN.out; omega
    by_cases hlt:j < ng
    ·have hia:j < gone.length:=by rw [HNG.out]; exact hlt
     obtain ⟨b1,o1,A1,c1,rfl,z1,p0,hq1⟩:=H2.out.at_bs hia
     have hTK:=take_next hia
     obtain ⟨x,hx⟩:∃ x,gone[j] = x:=⟨_,rfl⟩
     rw [hx] at p0 hq1 hTK
     clear hx
     have hbw:=HB1.out.trans (HR.out.bel.mono HB1.out.size)
     have p0:=(hbw.cell (p:=⟨b1,o1 + j,none⟩) z1).trans p0
     have zz:=Nat.lt_of_lt_of_le z1 hbw.size
     have hcv:=run_str (hq1.all.later hbw)
     obtain ⟨tx,htx⟩:∃ t:ByteArray,⟨x.toArray⟩ = t:=⟨_,rfl⟩
     have HTS:=hide (show strV x = .string tx from by unfold strV; rw [htx])
     rw [HTS.out] at hcv
     clear htx
     obtain ⟨kl,hkl⟩:∃ q,x.length = q:=⟨_,rfl⟩
     rw [hkl] at p0 hcv
     have HTK:=hide hTK
     clear hkl hTK hq1 hia hbw
     obtain ⟨w2,hw2⟩:∃ w2,wr.alloc (.cells #[.string tx] TSr) = w2:=⟨_,rfl⟩
     have HB2:=hide (show Below wr.heap.size wr w2 from hw2 ▸ al_below wr _)
     have HN2:=hide (show Blk w2 wr.heap.size TSr #[.string tx] from hw2 ▸ Blk.new _ _ _)
     have HW2:=hide hw2
     clear hw2
     go_wp2_with (at_builtin; (rw [HW2.out]); refine wpList_append_any _ rfl (.tmp 40) (.tmp 47) 81 rfl w1.heap.size TSr i0 _ 1 16 Try.underlying81 HI0.out HZ0.out hz1 hz2 rfl (by omega) (.slice D n c) n _ rfl (own_later HR.out.row HB2.out) _ (some ⟨wr.heap.size,0,none⟩) 1 1 [.string tx] rfl (reads_blk HN2.out rfl rfl) (by intro u hu; simp at hu; subst hu; rfl) (by unfold maxLen; omega) (by omega) (Nat.le_trans HR.out.bel.size HB2.out.size) ?_; intro v' w3 ho hgb hoo; (obtain ⟨A6,c6,rfl,hc6⟩:=own_slice ho); have HF3:=hide (show FitS w1 w3 A6 (n + 1) c6 (put.map It.k ++ gone.take (j + 1)) from ⟨(HR.out.bel.trans (HB2.out.mono HR.out.bel.size)).grown hgb (Nat.le_trans HR.out.bel.size HB2.out.size) (fun k hk=>(HR.out.row.lt k hk).1),by rw [HTK.out,← List.append_assoc,List.map_append,List.map_cons,List.map_nil,HTS.out]; exact ho⟩); clear ho hgb hoo)
     refine ⟨⟨j + 1,n + 1,c6,A6,rfl,by push_cast; rfl,by omega,hide (by have:=HN.out; omega),HF3⟩,?_⟩
     simp [intOf]
     omega
    ·obtain rfl:ng = j:=by omega
     have hr:=HR.out
     rw [show gone.take ng = gone from by rw [← HNG.out,List.take_length]] at hr
     have HR2:=hide (show FitS w1 wr D n c (keysOf put gone) from hr)
     have HKL:=hide hr.len
     obtain ⟨K0,hK0⟩:∃ K0,keysOf put gone = K0:=⟨_,rfl⟩
     have hkl:n = K0.length ∧ n ≤ c:=by rw [← hK0]; exact hr.len
     have HKN:=hide hkl.1
     have hnc:=hkl.2
     rw [hK0] at HR2
     have HK0:=hide hK0
     have HBW:=hide (HB1.out.trans (HR2.out.bel.mono HB1.out.size))
     clear HR hr HKL hkl hK0
     go_wp2_with fail
     clear ks zs hst
     go_loopw [2,6] (fun v2 v6 w9=>∃ i N:Nat,v2 = .bool false ∧ v6 = .int .i64 (i:Int) ∧ i ≤ n ∧ w9 = wr.drewN N ∧ Hid (okK (K0.take i))) (fun _ v6 _=>n - (intOf v6).toNat)
     case atStart=>exact ⟨0,0,rfl,by go_num,by omega,rfl,hide ⟨fun k hk=>(by cases hk),List.nodup_nil⟩⟩
     case round=>
      obtain ⟨i,N,rfl,rfl,hin,rfl,HO⟩:=hrel
      have HFA:=hide (fun (b:Bool) (hb:b = true ↔ fitsP put gone) (M:Nat)=>(show ∃ b',Ending.returned (.bool b) = .returned (.bool b') ∧ (b' = true ↔ fitsP put gone) ∧ Below w.heap.size w (wr.drewN M) from ⟨b,rfl,hb,⟨HBW.out.os,HBW.out.tape,HBW.out.output,HBW.out.size,HBW.out.block⟩⟩))
      by_cases hlt:i < n
      ·have hik:i < K0.length:=by rw [← HKN.out]; exact hlt
       obtain ⟨bD,rfl,zD,-,-,cD⟩:=HR2.out.at_ hik
       have hTK:=take_next hik
       have hmem:=List.getElem_mem hik
       obtain ⟨x,hx⟩:∃ x,K0[i] = x:=⟨_,rfl⟩
       rw [hx] at cD hTK hmem
       obtain ⟨tx,htx⟩:∃ t:ByteArray,⟨x.toArray⟩ = t:=⟨_,rfl⟩
       have HTX:=hide htx
       have hts:tx.size = x.length:=by rw [← htx]; rfl
       have HTZ:=hide hts
       rw [show strV x = .string tx from by unfold strV; rw [htx]] at cD
       have HTK:=hide hTK
       have HME:=hide hmem
       have HXI:=hide hx
       clear htx hts hTK hmem hx
       have hnoF:¬ (1 ≤ x.length ∧ x.length ≤ 32) → (false = true ↔ fitsP put gone):=fun h=>⟨fun e=>absurd e (by decide),fun hP=>absurd (hP.2.1 x (by rw [HK0.out]; exact HME.out)) h⟩
       have HNF:=hide hnoF
       clear hnoF
       by_cases h1:tx.size < 1
       ·have d1:decide ((tx.size:Int) < 1) = true:=by simp; omega
        go_wp2
        go_ret
        exact HFA.out false (HNF.out (by rw [← HTZ.out]; omega)) N
       ·by_cases h2:32 < tx.size
        ·have d1:decide ((tx.size:Int) < 1) = false:=by simp; omega
         have d2:decide ((32:Int) < (tx.size:Int)) = true:=by simp; omega
         go_wp2
         go_ret
         exact HFA.out false (HNF.out (by rw [← HTZ.out]; omega)) N
        ·have d1:decide ((tx.size:Int) < 1) = false:=by simp; omega
         have d2:decide ((32:Int) < (tx.size:Int)) = false:=by simp; omega
         go_wp2
         go_loopw [2,7] (fun v2 v7 w9=>∃ j M:Nat,v2 = .bool false ∧ v7 = .int .i64 (j:Int) ∧ j ≤ i ∧ w9 = wr.drewN M ∧ Hid (∀ k ∈ K0.take j,k ≠ x)) (fun _ v7 _=>i - (intOf v7).toNat)
         case atStart=>exact ⟨0,N,rfl,by go_num,by omega,rfl,hide (fun k hk=>by cases hk)⟩
         case round=>
          obtain ⟨j,M,rfl,rfl,hji,rfl,HJ⟩:=hrel
          by_cases hlt2:j < i
          ·have hjk:j < K0.length:=by omega
           obtain ⟨bD',e',-,-,-,cE⟩:=HR2.out.at_ hjk
           obtain rfl:bD = bD':=by simpa using e'
           have hTJ:=take_next hjk
           obtain ⟨y,hy⟩:∃ y,K0[j] = y:=⟨_,rfl⟩
           have hmemj:y ∈ K0.take i:=by
            rw [← hy]
            have:(K0.take i)[j]'(by rw [List.length_take]; omega) = K0[j]:=List.getElem_take
            rw [← this]
            exact List.getElem_mem _
           rw [hy] at cE hTJ
           obtain ⟨ty,hty⟩:∃ t:ByteArray,⟨y.toArray⟩ = t:=⟨_,rfl⟩
           rw [show strV y = .string ty from by unfold strV; rw [hty]] at cE
           have hse:=str_eq y x
           rw [hty,HTX.out] at hse
           have HSE:=hide hse
           have HTJ:=hide hTJ
           have HMJ:=hide hmemj
           have hin2:j < n:=by omega
           have hjc:j < c:=by omega
           clear hty hse hTJ hy hmemj hjk e'
           cases d3:(ty.toList == tx.toList) with
           | true=>
            have hyx:y = x:=by have:=HSE.out; rw [d3] at this; simpa using this.symm
            have HYX:=hide hyx
            clear hyx
            go_wp2
            go_quiet (fail)
            go_wp2
            go_ret
            have hbad:false = true ↔ fitsP put gone:=⟨fun e=>absurd e (by decide),fun hP=>by
             have hnd:=hP.2.2
             rw [HK0.out] at hnd
             have h5:(K0.take (i + 1)).Nodup:=List.Pairwise.sublist (List.take_sublist _ _) hnd
             rw [HTK.out,List.nodup_append] at h5
             exact absurd HYX.out (h5.2.2 y HMJ.out x (by simp))⟩
            have:=HFA.out false hbad (M + nq)
            simpa using this
           | false=>
            have hyx:y ≠ x:=by have:=HSE.out; rw [d3] at this; simpa using this.symm
            have HYX:=hide hyx
            clear hyx
            go_wp2
            go_quiet (fail)
            go_wp2
            go_roundw
            case rel=>
             refine ⟨j + 1,_,rfl,by go_num,by omega,rfl,hide (fun k hk=>?_)⟩
             rw [HTJ.out] at hk
             rcases List.mem_append.1 hk with hk | hk
             ·exact HJ.out k hk
             ·rw [List.mem_singleton.1 hk]; exact HYX.out
            case measure=>simp [intOf]; omega
          ·obtain rfl:i = j:=by omega
           go_wp2
           go_roundw
           case rel=>
            refine ⟨i + 1,M,rfl,by go_num,by omega,rfl,hide ?_⟩
            rw [HTK.out]
            refine ⟨fun k hk=>?_,?_⟩
            ·rcases List.mem_append.1 hk with hk | hk
             ·exact HO.out.1 k hk
             ·rw [List.mem_singleton.1 hk,← HTZ.out]; omega
            ·rw [List.nodup_append]
             refine ⟨HO.out.2,by simp,fun a ha b hb=>?_⟩
             rw [List.mem_singleton.1 hb]
             exact HJ.out a ha
           case measure=>simp [intOf]; omega
      ·obtain rfl:n = i:=by omega
       have hok:=HO.out
       rw [HKN.out,List.take_length] at hok
       have HOK:=hide hok
       clear hok
       go_wp2
       go_ret
       exact HFA.out true ⟨fun _=>⟨HV2.out,by rw [HK0.out]; exact HOK.out⟩,fun _=>rfl⟩ N
end Go.Proofs.Ytkolacaceaamoaa
