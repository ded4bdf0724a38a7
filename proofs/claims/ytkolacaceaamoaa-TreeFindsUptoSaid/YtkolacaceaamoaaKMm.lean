/- The tree: leaves, inner. -/
import Derived.Test.YtkolacaceaamoaaKMl
/- The tree: leaves, inner. -/
set_option linter.unusedSimpArgs false
set_option linter.unusedVariables false
namespace Go.Proofs.Ytkolacaceaamoaa
open Go.RowKit
abbrev TNp:TypeId:=70
theorem tnp_inf:∃ i,Try.prog.info? TNp = some i ∧ i.zero = some (.pointer none) ∧ i.size = 1 ∧ i.bytes = 8:=by
 have h:(Try.prog.info? TNp).map (fun i=>(i.zero,i.size,i.bytes)) = some (some (.pointer none),1,8):=by kernel_rfl
 cases hi:Try.prog.info? TNp with
 | none=>rw [hi] at h; cases h
 | some i=>rw [hi] at h; simp only [Option.map_some,Option.some.injEq,Prod.mk.injEq] at h; exact ⟨i,rfl,h.1,h.2.1,h.2.2⟩
/-- A row that grows; its things are old or new, but none is in the row's own block. -/
structure GrN {α:Type} (R:World → (Nat → Prop) → α → List Value → Prop) (T:TypeId) (k:Nat) (F0:Nat → Prop) (w0 wr:World) (v:Value) (l:List α):Prop where
 bel:Below w0.heap.size w0 wr
 row:∃ xs,wr.ownsRow w0.heap.size T k v l.length xs ∧ LR (R wr (fun j=>(F0 j ∨ w0.heap.size ≤ j) ∧ j < wr.heap.size ∧ v.ownBlock ≠ some j)) l xs
section
variable {α:Type} {R:World → (Nat → Prop) → α → List Value → Prop} {T:TypeId} {k:Nat} {F0:Nat → Prop} {w0 wr w':World} {v:Value} {l:List α}
theorem GrN.push (hR:Kept R) (hF0:∀ j,F0 j → j < w0.heap.size) {w2 w3:World} {v':Value} {a:α} {cs xs:List Value} (h:GrN R T k F0 w0 wr v l) (hb:Below wr.heap.size wr w2) (hxs:wr.ownsRow w0.heap.size T k v l.length xs ∧ LR (R wr (fun j=>(F0 j ∨ w0.heap.size ≤ j) ∧ j < wr.heap.size ∧ v.ownBlock ≠ some j)) l xs)
  (ha:R w2 (fun j=>(F0 j ∨ wr.heap.size ≤ j) ∧ j < w2.heap.size) a cs) (ho:w3.ownsRow w0.heap.size T k v' (l.length + 1) (xs ++ cs)) (hg:w2.grownBy w3 v.ownBlock) (hoo:v'.ownBlock = v.ownBlock ∨ v'.ownBlock = some w2.heap.size):GrN R T k F0 w0 w3 v' (l ++ [a]):=by
 have hvb:∀ k,v.ownBlock = some k → w0.heap.size ≤ k ∧ k < wr.heap.size:=fun k hk=>hxs.1.lt k hk
 have hb3:Below w0.heap.size w0 w3:=(h.bel.trans (hb.mono h.bel.size)).grown hg (Nat.le_trans h.bel.size hb.size) (fun k hk=>(hxs.1.lt k hk).1)
 have k3:∀ j,j < w2.heap.size → v.ownBlock ≠ some j → w3.heap[j]? = w2.heap[j]?:=fun j hj hn=>hg.block j hj (fun e=>hn e.symm)
 refine ⟨hb3,xs ++ cs,by rw [List.length_append,List.length_singleton]; exact ho,?_⟩
 refine LR.app (LR.one ?_) _ _ (LR.mono (fun b cs'=>hR (fun j hj hlt=>?_) (fun j hj hlt=>?_) b cs') _ _ hxs.2)
 ·have hne:∀ j,F0 j ∨ wr.heap.size ≤ j → v.ownBlock ≠ some j:=fun j hj e=>by
   have:=hvb j e
   rcases hj with hj | hj
   ·have:=hF0 j hj; omega
   ·omega
  refine hR (fun j hj hlt=>?_) (fun j hj hlt=>?_) a cs ha
  ·exact k3 j hj.2 (hne j hj.1)
  ·refine ⟨hj.1.imp id (fun q=>by have:=h.bel.size; omega),Nat.lt_of_lt_of_le hj.2 hg.size,fun e=>?_⟩
   rcases hoo with q | q
   ·exact hne j hj.1 (q ▸ e)
   ·rw [q] at e; injection e with e; omega
 ·exact (k3 j (Nat.lt_of_lt_of_le hlt hb.size) hj.2.2).trans (hb.block j hlt)
 ·refine ⟨hj.1,Nat.lt_of_lt_of_le hj.2.1 (Nat.le_trans hb.size hg.size),fun e=>?_⟩
  rcases hoo with q | q
  ·exact hj.2.2 (q ▸ e)
  ·rw [q] at e; injection e with e; have:=hb.size; omega
theorem GrN.below (hR:Kept R) (h:GrN R T k F0 w0 wr v l) (hb:Below wr.heap.size wr w'):GrN R T k F0 w0 w' v l:=by
 obtain ⟨xs,h1,h2⟩:=h.row
 exact ⟨h.bel.trans (hb.mono h.bel.size),xs,own_later h1 hb,LR.mono (fun a cs=>hR (fun j _ hj=>hb.block j hj) (fun j h _=>⟨h.1,Nat.lt_of_lt_of_le h.2.1 hb.size,h.2.2⟩) a cs) _ _ h2⟩
theorem GrN.slk (hR:Kept R) (h0:0 < k) {F':Nat → Prop} (hF:∀ j,(F0 j ∨ w0.heap.size ≤ j) → j < wr.heap.size → F' j) (h:GrN R T k F0 w0 wr v l):SLk k R wr F' v l:=by
 obtain ⟨xs,h1,h2⟩:=h.row
 have h3:=LR.mono (fun a cs=>hR (F':=F') (fun _ _ _=>rfl) (fun j hj _=>hF j hj.1 hj.2.1) a cs) _ _ h2
 rcases h1.2 with ⟨e,hz⟩ | ⟨b,cap,cur,e,hb,hh,hc,hm,_⟩
 ·have hl:l = []:=List.eq_nil_of_length_eq_zero hz
  subst hl
  rw [e]
  exact SLk.nil _ _
 ·refine ⟨some ⟨b,0,none⟩,cap,xs,e,⟨hc,hm⟩,⟨h1.1,fun hz=>?_⟩,h3⟩
  obtain ⟨ad,e2,_,hcell⟩:=(Reads.of_own (by rw [e] at h1; exact h1)).2 hz
  injection e2 with e2
  subst e2
  exact ⟨_,rfl,hF b (.inr hb) (h1.lt b (by rw [e]; rfl)).2,hcell⟩
end
/-- A part, where it stands. -/
theorem PartsR.at_ {α:Type} {R:World → (Nat → Prop) → α → List Value → Prop} {T TR:TypeId} {w w1:World} {F:Nat → Prop} {A:Option Addr} {n c:Nat} {ps:List (List α)} (h:PartsR R T TR w F w1 (.slice A n c) ps) {j:Nat} (hj:j < ps.length) :
  ∃ go v,A = some ⟨go,0,none⟩ ∧ j < n ∧ n ≤ c ∧ w.heap.size ≤ go ∧ go < w1.heap.size ∧ w1.cell? ⟨go,j,none⟩ = some v ∧ Gro R T 2 w F w1 v ps[j]:=by
 obtain ⟨vs,ho,hl⟩:=h
 have hn:n = ps.length:=by
  rcases ho.2 with ⟨e,h0⟩ | ⟨_,_,_,e,_⟩
  ·injection e with _ e _; omega
  ·injection e
 subst hn
 rcases ho.2 with ⟨e,h0⟩ | ⟨g,cap,cur,e,hb,hh,hc,hm,_⟩
 ·omega
 ·injection e with e1 _ e3
  subst e1 e3
  obtain ⟨cs,⟨v,rfl,hv⟩,hcs⟩:=LR.at_ (k:=1) (fun a cs h=>PtR.one h) _ _ hl j hj
  have:=hcs 0 (by omega)
  rw [show j * 1 + 0 = j by omega] at this
  refine ⟨g,v,rfl,hj,hc,hb,(ho.lt g rfl).2,?_,hv⟩
  rw [ho.cellAt j (by omega),this]
  rfl
theorem SvQ.from_ {w wr w':World} {c:Pct} {B mb tb:Nat} {took:List Nat} {vt:Value} {m:Pst} {nds:List Nd} {e:Ending} (hb:Below w.heap.size w wr) (h:SvQ wr c B mb tb took vt m nds e w'):SvQ w c B mb tb took vt m nds e w':=by
 obtain ⟨vt',m',T,h1,h2,h3⟩:=h
 exact ⟨vt',m',T,h1,(MkS.low hb).trans h2,h3⟩
set_option maxRecDepth 100000 in
set_option maxHeartbeats 4000000 in
theorem leaves_any {w:World} {c:Pct} {B mb tb:Nat} {took:List Nat} {vt:Value} {m:Pst} {vl:Value} {is:List It} (h:MkW w c B mb tb took vt m) (hB:B ≤ w.heap.size) (hl:SLk 2 ItR w (Sf w c mb vt m) vl is) (hok:∀ x ∈ is,itOk x) (hlen:is.length ≤ 100000000) (hN:m.N + (cutF szI is).length < 1000000000) (htk:took.length + (cutF szI is).length ≤ 1000000000) :
  Calls Try.prog 52 #[.pointer (some ⟨mb,0,none⟩),vl] w fun e w'=>SvQ w c B mb tb took vt m ((cutF szI is).map (fun p=>(p,[]))) e w':=by
 obtain ⟨i0,hi0,hz0,hz1,hz2⟩:=tnp_inf
 have HI0:=hide hi0
 have HZ0:=hide hz0
 have H1:=hide hl
 have HOK:=hide hok
 have HM:=hide h
 have HN:=hide (And.intro hN htk)
 have hcut:=cutF_ok szI (l:=is) (fun x hx=>by have:=(itOk.sz (hok x hx)); omega)
 have hflat:=cutF_flat szI (l:=is) (fun x hx=>by have:=(itOk.sz (hok x hx)); omega)
 have HCut:=hide hcut
 have HFlat:=hide hflat
 have hplen:(cutF szI is).length ≤ is.length:=by
  have:∀ ps:List (List It),(∀ p ∈ ps,p ≠ []) → ps.length ≤ ps.flatten.length:=by
   intro ps
   induction ps with
   | nil=>intro _; simp
   | cons p ps ih=>
    intro hp
    have:=ih (fun q hq=>hp q (List.mem_cons_of_mem _ hq))
    have h2:0 < p.length:=List.length_pos_iff.2 (hp p List.mem_cons_self)
    rw [List.flatten_cons,List.length_append,List.length_cons]
    omega
  have:=this _ (fun p hp=>(hcut p hp).1)
  rwa [hflat] at this
 obtain ⟨A1,c1,xs1,rfl,_⟩:=hl
 obtain ⟨ps,hps⟩:∃ ps,cutF szI is = ps:=⟨_,rfl⟩
 have HPS:=hide hps
 rw [hps] at HN HCut HFlat hplen ⊢
 have HIN:=hide (show ∀ p ∈ ps,ndOk (((p,[]):Nd)) from fun p hp=>by
  obtain ⟨h1,h2⟩:=HCut.out p hp
  have hmem:∀ x ∈ p,x ∈ is:=fun x hx=>by rw [← HFlat.out]; exact List.mem_flatten.2 ⟨p,hp,hx⟩
  refine ⟨.inl ⟨h1,rfl⟩,fun i hi=>HOK.out i (hmem i hi),fun k hk=>(by cases hk),?_⟩
  rw [ndB_len]
  have e:sumI p = sumZ szI p:=rfl
  (rw [show sumI p = sumZ szI p from rfl,show sumK [] = 0 from rfl]; omega))
 clear hi0 hz0 hok hN htk hcut hflat hps h
 obtain ⟨nl,hnl⟩:∃ nl,is.length = nl:=⟨_,rfl⟩
 have HNL:=hide hnl
 rw [hnl] at hlen hplen ⊢
 clear hnl
 go_enter Try.func52,Try.ntmps52
 go_upto_region 3 with (go_at_call 69; (refine (cut_items (HNL.out ▸ H1.out) HOK.out (by rw [HNL.out]; omega)).mono ?_); rintro e w1 ⟨vo,rfl,hpr,hb⟩; have hpr2:=hpr; obtain ⟨vs,hvo,_⟩:=hpr2; (obtain ⟨Ao,co,rfl,hco⟩:=own_slice hvo); have HPR:=hide (HPS.out ▸ hpr); have HB1:=hide hb; rw [HPS.out]; clear hpr hb hvo hco)
 have HPR:=hide (show PartsR ItR TIt TIts w (Sf w c mb vt m) w1 (.slice Ao ps.length co) ps from HPR.out)
 obtain ⟨P,hP⟩:∃ P,ps.length = P:=⟨_,rfl⟩
 have HPL:=hide hP
 rw [hP] at HPR hplen HN ⊢
 clear hP
 go_wp2_with fail
 go_loopw [6,12] (fun va vi wr=>∃ (j cc:Nat) (A:Option Addr),va = .slice A j cc ∧ vi = .int .i64 (j:Int) ∧ j ≤ P ∧ Hid (GrN NpR TNp 1 (Sf w1 c mb vt m) w1 wr (.slice A j cc) ((ps.take j).map (fun p=>((p,[]):Nd))))) (fun _ vi _=>P - (intOf vi).toNat)
 case atStart=>exact ⟨0,0,none,rfl,rfl,by omega,hide ⟨Below.refl _ _,[],World.ownsRow_nil _ _ _ _,rfl⟩⟩
 case round=>
  obtain ⟨j,cc,A,rfl,rfl,hj,HG⟩:=hrel
  by_cases hlt:j < P
  ·have hj':j < ps.length:=by rw [HPL.out]; exact hlt
   obtain ⟨go,v,rfl,hjn,hnc,hgo1,hgo2,k0,hgr⟩:=HPR.out.at_ hj'
   have k0:=(HG.out.bel.cell (p:=⟨go,j,none⟩) hgo2).trans k0
   have zz:=Nat.lt_of_lt_of_le hgo2 HG.out.bel.size
   have hsl:=hgr.slk (F':=Sf w1 c mb vt m) (by omega) @ItR.keep (fun j hj hlt=>HB1.out.block j hlt) (fun j hj hlt=>(MkS.low HB1.out).sf hj) (fun g hg=>by
    obtain ⟨xs,h1,_⟩:=hgr
    exact HM.out.fresh (h1.lt g hg).1 (h1.lt g hg).2)
   have hTK:=List.take_succ_eq_append_getElem hj'
   obtain ⟨y,hy⟩:∃ y,ps[j] = y:=⟨_,rfl⟩
   rw [hy] at hsl hTK
   have HTK:=hide hTK
   have HSL:=hide hsl
   obtain ⟨Av,cv,xv,rfl,_⟩:=hsl
   clear hy hTK hgr
   obtain ⟨yl,hyl⟩:∃ yl,y.length = yl:=⟨_,rfl⟩
   rw [hyl] at k0 HSL
   clear hyl
   have hjm:j + 1 ≤ 9223372036854775807:=by omega
   obtain ⟨xs,hxo,hxl⟩:=HG.out.row
   have hll:((ps.take j).map (fun p=>((p,[]):Nd))).length = j:=by rw [List.length_map,List.length_take]; omega
   rw [hll] at hxo
   have HXO:=hide hxo
   have HXL:=hide hxl
   have HLL:=hide hll
   clear hxo hxl hll
   have hj9:j ≤ 1000000000:=by omega
   obtain ⟨w2,hw2⟩:∃ w2,(wr.alloc (.cells #[.slice Av yl cv,.slice none 0 0] TNd)).alloc (.cells #[.pointer (some ⟨wr.heap.size,0,none⟩)] TNp) = w2:=⟨_,rfl⟩
   have HW2:=hide hw2
   have HN2:=hide (show Blk w2 (wr.heap.size + 1) TNp #[.pointer (some ⟨wr.heap.size,0,none⟩)] from hw2 ▸ (by have:=Blk.new (wr.alloc (.cells #[.slice Av yl cv,.slice none 0 0] TNd)) TNp #[.pointer (some ⟨wr.heap.size,0,none⟩)]; simpa using this))
   have HD2:=hide (show Blk w2 wr.heap.size TNd #[.slice Av yl cv,.slice none 0 0] from hw2 ▸ (Blk.new wr TNd _).alloc _)
   have HB2:=hide (show Below wr.heap.size wr w2 from hw2 ▸ bal (al_below wr _) _)
   have HS2:=hide (show wr.heap.size + 2 ≤ w2.heap.size from by rw [← hw2]; simp)
   clear hw2
   go_upto_region 6 with (at_builtin; (rw [HW2.out]); refine wpList_append_any _ rfl (.tmp 16) (.tmp 20) _ rfl w1.heap.size TNp i0 _ 1 8 Try.underlying126 HI0.out HZ0.out hz1 hz2 rfl (by omega) (.slice A j cc) j xs rfl (own_later HXO.out HB2.out) _ (some ⟨wr.heap.size + 1,0,none⟩) 1 1 [.pointer (some ⟨wr.heap.size,0,none⟩)] rfl (reads_blk HN2.out rfl rfl) (by intro u hu; simp at hu; subst hu; rfl) (by unfold maxLen; omega) (by omega) (Nat.le_trans HG.out.bel.size HB2.out.size) ?_; intro v' w3 ho hgb hoo; (obtain ⟨A6,c6,rfl,hc6⟩:=own_slice ho); have HO6:=hide ho; have HG6:=hide hgb; have HOO:=hide hoo; clear ho hgb hoo)
   have HGN:=hide (show GrN NpR TNp 1 (Sf w1 c mb vt m) w1 w3 (.slice A6 (j + 1) c6) ((ps.take (j + 1)).map (fun p=>((p,[]):Nd))) from by
    have hk1:∀ i,Sf w1 c mb vt m i → i < w1.heap.size → w2.heap[i]? = w1.heap[i]?:=fun i hi hlt=>(HB2.out.block i (Nat.lt_of_lt_of_le hlt HG.out.bel.size)).trans (HG.out.bel.block i hlt)
    have hsz:=HG.out.bel.size
    have h2s:=HS2.out
    have hsl2:=HSL.out.keep (F':=fun i=>(Sf w1 c mb vt m i ∨ wr.heap.size ≤ i) ∧ i < w2.heap.size) (by omega) @ItR.keep hk1 (fun i hi hlt=>⟨.inl hi,by omega⟩)
    have:=GrN.push @NpR.keep (fun i hi=>hi.1) HG.out HB2.out ⟨by rw [HLL.out]; exact HXO.out,HXL.out⟩ (a:=(((y,[]):Nd))) ⟨wr.heap.size,rfl,_,_,HD2.out,⟨.inr (Nat.le_refl _),by omega⟩,hsl2.two,SL.nil _ _⟩ (by rw [HLL.out]; exact HO6.out) HG6.out HOO.out
    rw [HTK.out,List.map_append]
    exact this)
   go_wp2_with fail
   refine ⟨⟨j + 1,c6,A6,rfl,by push_cast; rfl,by omega,HGN⟩,?_⟩
   simp [intOf]
   omega
  ·obtain rfl:P = j:=by omega
   have HG2:=hide (show GrN NpR TNp 1 (Sf w1 c mb vt m) w1 wr (.slice A P cc) (ps.map (fun p=>((p,[]):Nd))) from by have:=HG.out; rwa [← HPL.out,List.take_length,HPL.out] at this)
   have HBw:=hide (show Below w.heap.size w wr from HB1.out.trans (HG2.out.bel.mono HB1.out.size))
   have HSv:=hide (save_any (HM.out.below HBw.out) (Nat.le_trans hB HBw.out.size) (HG2.out.slk @NpR.keep (by omega) (F':=Sf wr c mb vt m) (fun i hi hlt=>hi.elim (fun q=>(MkS.low HG2.out.bel).sf q) (fun q=>HM.out.fresh (Nat.le_trans HB1.out.size q) hlt))) (fun nd hnd=>by
    obtain ⟨p,hp,rfl⟩:=List.mem_map.1 hnd
    exact HIN.out p hp) (by rw [List.length_map,HPL.out]; exact HN.out.1) (by rw [List.length_map,HPL.out]; exact HN.out.2))
   clear HG
   go_wp2_with (go_at_call 59; (refine HSv.out.mono ?_); rintro e w5 hq; have HQ5:=hide (hq.from_ HBw.out); obtain ⟨vt',m',T,h1,h2,h3,h4,h4',(⟨v,kds,rfl,_⟩ | ⟨rfl,_⟩)⟩:=hq)
   all_goals (clear h1 h2 h3 h4 h4'; go_wp2_with fail)
   ·refine bodyPost_ret (v:=.tuple #[v,.int .i64 0]) (by simp (maxDischargeDepth:=9) [results,Try.results52,go_sem]; done) rfl HQ5.out
   ·refine bodyPost_ret (v:=.tuple #[.slice none 0 0,.int .i64 16]) (by simp (maxDischargeDepth:=9) [results,Try.results52,go_sem]; done) rfl HQ5.out
end Go.Proofs.Ytkolacaceaamoaa
/- The tree: inner. -/
namespace Go.Proofs.Ytkolacaceaamoaa
open Go.RowKit
set_option maxRecDepth 100000 in
set_option maxHeartbeats 4000000 in
theorem inner_any {w:World} {c:Pct} {B mb tb:Nat} {took:List Nat} {vt:Value} {m:Pst} {vl:Value} {is:List Kd} (h:MkW w c B mb tb took vt m) (hB:B ≤ w.heap.size) (hl:SLk 2 KdR w (Sf w c mb vt m) vl is) (hok:∀ x ∈ is,kdOk x) (hlen:is.length ≤ 100000000) (hN:m.N + (cutF szK is).length < 1000000000) (htk:took.length + (cutF szK is).length ≤ 1000000000) :
  Calls Try.prog 34 #[.pointer (some ⟨mb,0,none⟩),vl] w fun e w'=>SvQ w c B mb tb took vt m ((cutF szK is).map (fun p=>([],p))) e w':=by
 obtain ⟨i0,hi0,hz0,hz1,hz2⟩:=tnp_inf
 have HI0:=hide hi0
 have HZ0:=hide hz0
 have H1:=hide hl
 have HOK:=hide hok
 have HM:=hide h
 have HN:=hide (And.intro hN htk)
 have hcut:=cutF_ok szK (l:=is) (fun x hx=>by have:=(kdOk.sz (hok x hx)); omega)
 have hflat:=cutF_flat szK (l:=is) (fun x hx=>by have:=(kdOk.sz (hok x hx)); omega)
 have HCut:=hide hcut
 have HFlat:=hide hflat
 have hplen:(cutF szK is).length ≤ is.length:=by
  have:∀ ps:List (List Kd),(∀ p ∈ ps,p ≠ []) → ps.length ≤ ps.flatten.length:=by
   intro ps
   induction ps with
   | nil=>intro _; simp
   | cons p ps ih=>
    intro hp
    have:=ih (fun q hq=>hp q (List.mem_cons_of_mem _ hq))
    have h2:0 < p.length:=List.length_pos_iff.2 (hp p List.mem_cons_self)
    rw [List.flatten_cons,List.length_append,List.length_cons]
    omega
  have:=this _ (fun p hp=>(hcut p hp).1)
  rwa [hflat] at this
 obtain ⟨A1,c1,xs1,rfl,_⟩:=hl
 obtain ⟨ps,hps⟩:∃ ps,cutF szK is = ps:=⟨_,rfl⟩
 have HPS:=hide hps
 rw [hps] at HN HCut HFlat hplen ⊢
 have HIN:=hide (show ∀ p ∈ ps,ndOk ((([],p):Nd)) from fun p hp=>by
  obtain ⟨h1,h2⟩:=HCut.out p hp
  have hmem:∀ x ∈ p,x ∈ is:=fun x hx=>by rw [← HFlat.out]; exact List.mem_flatten.2 ⟨p,hp,hx⟩
  refine ⟨.inr ⟨rfl,h1⟩,fun i hi=>(by cases hi),fun k hk=>HOK.out k (hmem k hk),?_⟩
  rw [ndB_len]
  have e:sumK p = sumZ szK p:=rfl
  (rw [show sumK p = sumZ szK p from rfl,show sumI [] = 0 from rfl]; omega))
 clear hi0 hz0 hok hN htk hcut hflat hps h
 obtain ⟨nl,hnl⟩:∃ nl,is.length = nl:=⟨_,rfl⟩
 have HNL:=hide hnl
 rw [hnl] at hlen hplen ⊢
 clear hnl
 go_enter Try.func34,Try.ntmps34
 go_upto_region 3 with (go_at_call 57; (refine (cut_kids (HNL.out ▸ H1.out) HOK.out (by rw [HNL.out]; omega)).mono ?_); rintro e w1 ⟨vo,rfl,hpr,hb⟩; have hpr2:=hpr; obtain ⟨vs,hvo,_⟩:=hpr2; (obtain ⟨Ao,co,rfl,hco⟩:=own_slice hvo); have HPR:=hide (HPS.out ▸ hpr); have HB1:=hide hb; rw [HPS.out]; clear hpr hb hvo hco)
 have HPR:=hide (show PartsR KdR TKd TKds w (Sf w c mb vt m) w1 (.slice Ao ps.length co) ps from HPR.out)
 obtain ⟨P,hP⟩:∃ P,ps.length = P:=⟨_,rfl⟩
 have HPL:=hide hP
 rw [hP] at HPR hplen HN ⊢
 clear hP
 go_wp2_with fail
 go_loopw [6,12] (fun va vi wr=>∃ (j cc:Nat) (A:Option Addr),va = .slice A j cc ∧ vi = .int .i64 (j:Int) ∧ j ≤ P ∧ Hid (GrN NpR TNp 1 (Sf w1 c mb vt m) w1 wr (.slice A j cc) ((ps.take j).map (fun p=>(([],p):Nd))))) (fun _ vi _=>P - (intOf vi).toNat)
 case atStart=>exact ⟨0,0,none,rfl,rfl,by omega,hide ⟨Below.refl _ _,[],World.ownsRow_nil _ _ _ _,rfl⟩⟩
 case round=>
  obtain ⟨j,cc,A,rfl,rfl,hj,HG⟩:=hrel
  by_cases hlt:j < P
  ·have hj':j < ps.length:=by rw [HPL.out]; exact hlt
   obtain ⟨go,v,rfl,hjn,hnc,hgo1,hgo2,k0,hgr⟩:=HPR.out.at_ hj'
   have k0:=(HG.out.bel.cell (p:=⟨go,j,none⟩) hgo2).trans k0
   have zz:=Nat.lt_of_lt_of_le hgo2 HG.out.bel.size
   have hsl:=hgr.slk (F':=Sf w1 c mb vt m) (by omega) @KdR.keep (fun j hj hlt=>HB1.out.block j hlt) (fun j hj hlt=>(MkS.low HB1.out).sf hj) (fun g hg=>by
    obtain ⟨xs,h1,_⟩:=hgr
    exact HM.out.fresh (h1.lt g hg).1 (h1.lt g hg).2)
   have hTK:=List.take_succ_eq_append_getElem hj'
   obtain ⟨y,hy⟩:∃ y,ps[j] = y:=⟨_,rfl⟩
   rw [hy] at hsl hTK
   have HTK:=hide hTK
   have HSL:=hide hsl
   obtain ⟨Av,cv,xv,rfl,_⟩:=hsl
   clear hy hTK hgr
   obtain ⟨yl,hyl⟩:∃ yl,y.length = yl:=⟨_,rfl⟩
   rw [hyl] at k0 HSL
   clear hyl
   have hjm:j + 1 ≤ 9223372036854775807:=by omega
   obtain ⟨xs,hxo,hxl⟩:=HG.out.row
   have hll:((ps.take j).map (fun p=>(([],p):Nd))).length = j:=by rw [List.length_map,List.length_take]; omega
   rw [hll] at hxo
   have HXO:=hide hxo
   have HXL:=hide hxl
   have HLL:=hide hll
   clear hxo hxl hll
   have hj9:j ≤ 1000000000:=by omega
   obtain ⟨w2,hw2⟩:∃ w2,(wr.alloc (.cells #[.slice none 0 0,.slice Av yl cv] TNd)).alloc (.cells #[.pointer (some ⟨wr.heap.size,0,none⟩)] TNp) = w2:=⟨_,rfl⟩
   have HW2:=hide hw2
   have HN2:=hide (show Blk w2 (wr.heap.size + 1) TNp #[.pointer (some ⟨wr.heap.size,0,none⟩)] from hw2 ▸ (by have:=Blk.new (wr.alloc (.cells #[.slice none 0 0,.slice Av yl cv] TNd)) TNp #[.pointer (some ⟨wr.heap.size,0,none⟩)]; simpa using this))
   have HD2:=hide (show Blk w2 wr.heap.size TNd #[.slice none 0 0,.slice Av yl cv] from hw2 ▸ (Blk.new wr TNd _).alloc _)
   have HB2:=hide (show Below wr.heap.size wr w2 from hw2 ▸ bal (al_below wr _) _)
   have HS2:=hide (show wr.heap.size + 2 ≤ w2.heap.size from by rw [← hw2]; simp)
   clear hw2
   go_upto_region 6 with (at_builtin; (rw [HW2.out]); refine wpList_append_any _ rfl (.tmp 16) (.tmp 20) _ rfl w1.heap.size TNp i0 _ 1 8 Try.underlying126 HI0.out HZ0.out hz1 hz2 rfl (by omega) (.slice A j cc) j xs rfl (own_later HXO.out HB2.out) _ (some ⟨wr.heap.size + 1,0,none⟩) 1 1 [.pointer (some ⟨wr.heap.size,0,none⟩)] rfl (reads_blk HN2.out rfl rfl) (by intro u hu; simp at hu; subst hu; rfl) (by unfold maxLen; omega) (by omega) (Nat.le_trans HG.out.bel.size HB2.out.size) ?_; intro v' w3 ho hgb hoo; (obtain ⟨A6,c6,rfl,hc6⟩:=own_slice ho); have HO6:=hide ho; have HG6:=hide hgb; have HOO:=hide hoo; clear ho hgb hoo)
   have HGN:=hide (show GrN NpR TNp 1 (Sf w1 c mb vt m) w1 w3 (.slice A6 (j + 1) c6) ((ps.take (j + 1)).map (fun p=>(([],p):Nd))) from by
    have hk1:∀ i,Sf w1 c mb vt m i → i < w1.heap.size → w2.heap[i]? = w1.heap[i]?:=fun i hi hlt=>(HB2.out.block i (Nat.lt_of_lt_of_le hlt HG.out.bel.size)).trans (HG.out.bel.block i hlt)
    have hsz:=HG.out.bel.size
    have h2s:=HS2.out
    have hsl2:=HSL.out.keep (F':=fun i=>(Sf w1 c mb vt m i ∨ wr.heap.size ≤ i) ∧ i < w2.heap.size) (by omega) @KdR.keep hk1 (fun i hi hlt=>⟨.inl hi,by omega⟩)
    have:=GrN.push @NpR.keep (fun i hi=>hi.1) HG.out HB2.out ⟨by rw [HLL.out]; exact HXO.out,HXL.out⟩ (a:=((([],y):Nd))) ⟨wr.heap.size,rfl,_,_,HD2.out,⟨.inr (Nat.le_refl _),by omega⟩,SL.nil _ _,hsl2.two⟩ (by rw [HLL.out]; exact HO6.out) HG6.out HOO.out
    rw [HTK.out,List.map_append]
    exact this)
   go_wp2_with fail
   refine ⟨⟨j + 1,c6,A6,rfl,by push_cast; rfl,by omega,HGN⟩,?_⟩
   simp [intOf]
   omega
  ·obtain rfl:P = j:=by omega
   have HG2:=hide (show GrN NpR TNp 1 (Sf w1 c mb vt m) w1 wr (.slice A P cc) (ps.map (fun p=>(([],p):Nd))) from by have:=HG.out; rwa [← HPL.out,List.take_length,HPL.out] at this)
   have HBw:=hide (show Below w.heap.size w wr from HB1.out.trans (HG2.out.bel.mono HB1.out.size))
   have HSv:=hide (save_any (HM.out.below HBw.out) (Nat.le_trans hB HBw.out.size) (HG2.out.slk @NpR.keep (by omega) (F':=Sf wr c mb vt m) (fun i hi hlt=>hi.elim (fun q=>(MkS.low HG2.out.bel).sf q) (fun q=>HM.out.fresh (Nat.le_trans HB1.out.size q) hlt))) (fun nd hnd=>by
    obtain ⟨p,hp,rfl⟩:=List.mem_map.1 hnd
    exact HIN.out p hp) (by rw [List.length_map,HPL.out]; exact HN.out.1) (by rw [List.length_map,HPL.out]; exact HN.out.2))
   clear HG
   go_wp2_with (go_at_call 59; (refine HSv.out.mono ?_); rintro e w5 hq; have HQ5:=hide (hq.from_ HBw.out); obtain ⟨vt',m',T,h1,h2,h3,h4,h4',(⟨v,kds,rfl,_⟩ | ⟨rfl,_⟩)⟩:=hq)
   all_goals (clear h1 h2 h3 h4 h4'; go_wp2_with fail)
   ·refine bodyPost_ret (v:=.tuple #[v,.int .i64 0]) (by simp (maxDischargeDepth:=9) [results,Try.results34,go_sem]; done) rfl HQ5.out
   ·refine bodyPost_ret (v:=.tuple #[.slice none 0 0,.int .i64 16]) (by simp (maxDischargeDepth:=9) [results,Try.results34,go_sem]; done) rfl HQ5.out
end Go.Proofs.Ytkolacaceaamoaa
/- The tree: what leaves and inner make is a tree (plain); how many parts cut makes. -/
namespace Go.Proofs.Ytkolacaceaamoaa
open Go.RowKit
section
variable {α:Type} (sz:α → Nat)
theorem sumZ_app (l m:List α):sumZ sz (l ++ m) = sumZ sz l + sumZ sz m:=by simp [sumZ]
theorem cut_closed {M share:Nat} (hM:M ≤ 504):∀ (l:List α) (st:List (List α) × List α),(∀ x ∈ l,sz x ≤ M) → (∀ p ∈ st.1,min (505 - M) share ≤ sumZ sz p) → ∀ p ∈ (l.foldl (cutStep sz share) st).1,min (505 - M) share ≤ sumZ sz p
 | [],st,_,h=>h
 | x :: l,st,hl,h=>by
  rw [List.foldl_cons]
  refine cut_closed hM l _ (fun y hy=>hl y (List.mem_cons_of_mem _ hy)) ?_
  have hx:=hl x List.mem_cons_self
  obtain ⟨d,c⟩:=st
  cases c with
  | nil=>exact h
  | cons y r=>
   simp only [cutStep]
   split
   ·next hc=>
    intro p hp
    rcases List.mem_append.1 hp with hp | hp
    ·exact h p hp
    ·rw [List.mem_singleton.1 hp]
     rcases hc with hc | hc <;> omega
   ·exact h
theorem flat_sum {mu:Nat}:∀ d:List (List α),(∀ p ∈ d,mu ≤ sumZ sz p) → d.length * mu ≤ sumZ sz d.flatten
 | [],_=>by simp
 | p :: d,h=>by
  have ih:=flat_sum d (fun q hq=>h q (List.mem_cons_of_mem _ hq))
  have h1:=h p List.mem_cons_self
  rw [List.flatten_cons,sumZ_app,List.length_cons,Nat.succ_mul]
  omega
/-- How many parts there are. -/
theorem cut_len {M:Nat} (hM:M ≤ 504) {l:List α} (hl:∀ x ∈ l,sz x ≤ M):(cutF sz l).length ≤ 1 + (1 + sumZ sz l) / (505 - M):=by
 obtain ⟨all,hall⟩:∃ all,1 + sumZ sz l = all:=⟨_,rfl⟩
 have hfl:=(cut_fold sz (shareOf all) l ([],[]) (fun x hx=>Nat.le_trans (hl x hx) hM) ⟨by simp,by simp⟩).2
 have hcl:=cut_closed sz hM (share:=shareOf all) l ([],[]) hl (by simp)
 unfold cutF
 rw [hall]
 obtain ⟨⟨d,c⟩,hd⟩:∃ st,l.foldl (cutStep sz (shareOf all)) ([],[]) = st:=⟨_,rfl⟩
 rw [hd] at hfl hcl ⊢
 have h1:=flat_sum sz d hcl
 have h2:sumZ sz d.flatten ≤ sumZ sz l:=by
  have:=congrArg (sumZ sz) hfl
  simp only [List.flatten_nil,List.nil_append] at this
  rw [sumZ_app] at this
  omega
 have h3:(cutOut (d,c)).length ≤ d.length + 1:=by
  cases c with
  | nil=>simp only [cutOut]; omega
  | cons y r=>simp only [cutOut,List.length_append,List.length_singleton]; omega
 have hd1:d.length * min (505 - M) (shareOf all) < all:=by omega
 suffices d.length ≤ all / (505 - M) by omega
 obtain ⟨mu,hmu⟩:∃ mu,505 - M = mu:=⟨_,rfl⟩
 have hmu1:1 ≤ mu:=by omega
 have hmu2:mu ≤ 505:=by omega
 rw [hmu] at hd1 ⊢
 rcases Nat.le_total mu (shareOf all) with h | h
 ·rw [Nat.min_eq_left h] at hd1
  exact (Nat.le_div_iff_mul_le (by omega)).2 (by omega)
 ·rw [Nat.min_eq_right h] at hd1
  obtain ⟨P,hP⟩:∃ P,max ((all + 504) / 505) 1 = P:=⟨_,rfl⟩
  have hs:shareOf all = all / P + 1:=by unfold shareOf; rw [hP]
  have hP1:1 ≤ P:=by omega
  have h4:all < (all / P + 1) * P:=by
   have:=Nat.lt_mul_div_succ all (show 0 < P by omega)
   rw [Nat.mul_comm]
   exact this
  rw [hs] at hd1
  have h5:d.length < P:=by
   rcases Nat.lt_or_ge d.length P with q | q
   ·exact q
   ·have:=Nat.mul_le_mul_right (all / P + 1) q
    rw [Nat.mul_comm P] at this
    omega
  have h6:P ≤ 1 + all / 505:=by omega
  have h7:all / 505 ≤ all / mu:=Nat.div_le_div_left hmu2 (by omega)
  omega
end
theorem cutK_len {l:List Kd} (hl:∀ x ∈ l,kdOk x):(cutF szK l).length ≤ 1 + (1 + 37 * l.length) / 468:=by
 have h1:=cut_len szK (M:=37) (by omega) (l:=l) (fun x hx=>(hl x hx).sz)
 have h2:=sumZ_le szK (B:=37) l (fun x hx=>(hl x hx).sz)
 have h3:(1 + sumZ szK l) / 468 ≤ (1 + 37 * l.length) / 468:=Nat.div_le_div_right (by omega)
 omega
/-- Pages in use. -/
def Pst.used (m:Pst) (q:Nat):Prop:=¬ isFree m.st q
/-- A kid, with its tree. -/
def KidT (c:Pct) (m:Pst) (h:Nat) (x:KI):Prop:=kdOk x.1 ∧ TrQ (m.C c) c.n m.used h x.1.p x.2 ∧ ∃ i r,x.2 = i :: r ∧ i.k = x.1.k
theorem KidT.keep {c:Pct} {m m':Pst} {T:List Nat} {h:Nat} {x:KI} (hg:Grew c m m' T) (hx:KidT c m h x):KidT c m' h x:=
 ⟨hx.1,hx.2.1.keep (fun q hq=>(hg.old q hq).2) (fun q hq=>(hg.old q hq).1),hx.2.2⟩
def MkQ (w:World) (c:Pct) (B mb tb:Nat) (took:List Nat) (vt:Value) (m:Pst) (is:List It) (h bnd:Nat) (E:Pst → List KI → Prop) (e:Ending) (w':World):Prop:=
 ∃ vt' m' T,MkW w' c B mb tb (took ++ T) vt' m' ∧ MkS w c mb vt m w' vt' m' ∧ Grew c m m' T ∧ m'.N ≤ m.N + bnd ∧ m.N + T.length ≤ m'.N ∧
  ((∃ (v:Value) (l:List KI),e = .returned (.tuple #[v,.int .i64 0]) ∧ SLk 2 KdR w' (Sf w' c mb vt' m') v (l.map Prod.fst) ∧ (∀ x ∈ l,KidT c m' h x) ∧ l.flatMap Prod.snd = is ∧ l.length ≤ bnd ∧ E m' l) ∨ (e = .returned (.tuple #[.slice none 0 0,.int .i64 16]) ∧ NoRoom m bnd))
theorem NoRoom.mono {m:Pst} {k k':Nat} (h:NoRoom m k) (hk:k ≤ k'):NoRoom m k':=by
 obtain ⟨T0,h1,h2⟩:=h
 exact ⟨T0,by omega,h2⟩
theorem NoRoom.back {c:Pct} {m m':Pst} {T:List Nat} {k:Nat} (h:NoRoom m' k) (hg:Grew c m m' T):NoRoom m (T.length + k):=by
 obtain ⟨T0,h1,h2⟩:=h
 refine ⟨T ++ T0,by rw [List.length_append]; omega,fun q hq hf=>?_⟩
 by_cases hm:q ∈ T
 ·exact List.mem_append_left _ hm
 ·exact List.mem_append_right _ (h2 q hq (hg.rest q hf hm))
theorem MkQ.mono {w w':World} {c:Pct} {B mb tb:Nat} {took:List Nat} {vt:Value} {m:Pst} {is:List It} {h bnd bnd':Nat} {E:Pst → List KI → Prop} {e:Ending} (hq:MkQ w c B mb tb took vt m is h bnd E e w') (hb:bnd ≤ bnd'):MkQ w c B mb tb took vt m is h bnd' E e w':=by
 obtain ⟨vt',m',T,h1,h2,h3,h4,h5,h6⟩:=hq
 refine ⟨vt',m',T,h1,h2,h3,by omega,h5,?_⟩
 rcases h6 with ⟨v,l,a1,a2,a3,a4,a5,a6⟩ | ⟨a1,a2⟩
 ·exact .inl ⟨v,l,a1,a2,a3,a4,by omega,a6⟩
 ·exact .inr ⟨a1,a2.mono hb⟩
theorem saved_leaves {C:Int → Cn}:∀ (ps:List (List It)) (kds:List Kd),SavedAs C (ps.map fun p=>(p,[])) kds → ∃ l:List KI,l.map Prod.fst = kds ∧ l.map Prod.snd = ps ∧ ∀ x ∈ l,x.1.k = hdK (x.2,[]) ∧ C x.1.p = sealC 2 (ndB x.2 [])
 | [],[],_=>⟨[],rfl,rfl,fun x hx=>(by cases hx)⟩
 | p :: ps,k :: kds,h=>by
  obtain ⟨l,h1,h2,h3⟩:=saved_leaves ps kds h.2.2
  refine ⟨(k,p) :: l,by rw [List.map_cons,h1],by rw [List.map_cons,h2],fun x hx=>?_⟩
  rcases List.mem_cons.1 hx with rfl | hx
  ·exact ⟨h.1,h.2.1⟩
  ·exact h3 x hx
 | [],_ :: _,h=>h.elim
 | _ :: _,[],h=>h.elim
theorem saved_inner {C:Int → Cn}:∀ (ls:List (List KI)) (kds:List Kd),SavedAs C ((ls.map (List.map Prod.fst)).map fun p=>([],p)) kds → ∃ l:List (Kd × List KI),l.map Prod.fst = kds ∧ l.map Prod.snd = ls ∧ ∀ x ∈ l,x.1.k = hdK ([],x.2.map Prod.fst) ∧ C x.1.p = sealC 2 (ndB [] (x.2.map Prod.fst))
 | [],[],_=>⟨[],rfl,rfl,fun x hx=>(by cases hx)⟩
 | p :: ps,k :: kds,h=>by
  obtain ⟨l,h1,h2,h3⟩:=saved_inner ps kds h.2.2
  refine ⟨(k,p) :: l,by rw [List.map_cons,h1],by rw [List.map_cons,h2],fun x hx=>?_⟩
  rcases List.mem_cons.1 hx with rfl | hx
  ·exact ⟨h.1,h.2.1⟩
  ·exact h3 x hx
 | [],_ :: _,h=>h.elim
 | _ :: _,[],h=>h.elim
theorem split_like {α β:Type} (f:α → β):∀ (qs:List (List β)) (l:List α),qs.flatten = l.map f → ∃ ls:List (List α),ls.flatten = l ∧ ls.map (List.map f) = qs
 | [],l,h=>by
  have:l = []:=by simpa using h.symm
  exact ⟨[],by simp [this],rfl⟩
 | q :: qs,l,h=>by
  rw [List.flatten_cons] at h
  have h1:(l.take q.length).map f = q:=by
   rw [List.map_take,← h,List.take_left]
  have h2:qs.flatten = (l.drop q.length).map f:=by
   rw [List.map_drop,← h,List.drop_left]
  obtain ⟨ls,h3,h4⟩:=split_like f qs _ h2
  exact ⟨l.take q.length :: ls,by rw [List.flatten_cons,h3,List.take_append_drop],by rw [List.map_cons,h1,h4]⟩
theorem page_ok {c:Pct} {w:World} {m:Pst} (hp:PgS w c m) {a:Nat} (h2:2 ≤ a) (hn:a < c.n):pgB c.n (a:Int) = true ∧ 1 ≤ a ∧ a < 65536:=by
 have:=Pg.hn hp
 refine ⟨?_,by omega,by omega⟩
 unfold pgB
 simp
 omega
/-- Leaves are trees. -/
theorem MkQ.leaves {w w':World} {c:Pct} {B mb tb:Nat} {took:List Nat} {vt:Value} {m:Pst} {is:List It} {e:Ending} (hok:∀ x ∈ is,itOk x) (h:SvQ w c B mb tb took vt m ((cutF szI is).map fun p=>(p,[])) e w'):MkQ w c B mb tb took vt m is 1 (cutF szI is).length (fun _ _=>True) e w':=by
 have h504:∀ x ∈ is,szI x ≤ 504:=fun x hx=>by have:=(hok x hx).sz; omega
 have hcut:=cutF_ok szI h504
 have hflat:=cutF_flat szI h504
 obtain ⟨vt',m',T,h1,h2,h3,h4,h4',h5⟩:=h
 rw [List.length_map] at h4 h5
 rcases h5 with ⟨v,kds,rfl,h6,h7,h8⟩ | ⟨rfl,hno⟩
 ·have hlen:=h7.len
  rw [List.length_map] at hlen
  obtain ⟨l,e1,e2,e3⟩:=saved_leaves _ _ h7
  have hll:l.length = (cutF szI is).length:=by rw [← hlen,← e1,List.length_map]
  refine ⟨vt',m',T,h1,h2,h3,h4,h4',.inl ⟨v,l,rfl,by rw [e1]; exact h6,fun x hx=>?_,?_,by omega,trivial⟩⟩
  ·have hp:x.2 ∈ cutF szI is:=by rw [← e2]; exact List.mem_map_of_mem hx
   have ht:x.1.p ∈ T:=by rw [← h8,← e1]; exact List.mem_map_of_mem (List.mem_map_of_mem hx)
   obtain ⟨q1,q2,q3,q4⟩:=h3.in_ _ ht
   obtain ⟨g1,g2,g3⟩:=page_ok h1.pg q1 q2
   obtain ⟨p1,p2⟩:=hcut _ hp
   obtain ⟨e4,e5⟩:=e3 x hx
   have hit:∀ i ∈ x.2,itOk i:=fun i hi=>hok i (by rw [← hflat]; exact List.mem_flatten.2 ⟨_,hp,hi⟩)
   cases hx2:x.2 with
   | nil=>exact absurd hx2 p1
   | cons i r=>
    have hk:x.1.k = i.k:=by rw [e4,hx2]; rfl
    have hi:=hit i (by rw [hx2]; exact List.mem_cons_self)
    refine ⟨⟨by rw [hk]; exact hi.1,by rw [hk]; exact hi.2.1,g2,g3⟩,?_,i,r,hx2,hk.symm⟩
    refine TrQ.leaf g1 q4 p1 hit ?_ e5
    rw [ndB_len,show sumI x.2 = sumZ szI x.2 from rfl,show sumK [] = 0 from rfl]
    omega
  ·rw [List.flatMap_def,e2,hflat]
 ·exact ⟨vt',m',T,h1,h2,h3,h4,h4',.inr ⟨rfl,hno⟩⟩
theorem Grew.len {c:Pct} {m m':Pst} {T:List Nat} (h:Grew c m m' T):T.length ≤ c.n:=by
 have:∀ (n:Nat) (T:List Nat),T.Nodup → (∀ p ∈ T,p < n) → T.length ≤ n:=by
  intro n
  induction n with
  | zero=>
   intro T _ hp
   cases T with
   | nil=>simp
   | cons a T=>exact absurd (hp a List.mem_cons_self) (by omega)
  | succ n ih=>
   intro T hd hp
   have h1:=ih (T.erase n) (hd.erase n) (fun p hp'=>by
    have h2:=(hd.mem_erase_iff).1 hp'
    have:=hp p h2.2
    omega)
   rw [List.length_erase] at h1
   split at h1 <;> omega
 exact this _ _ h.nd (fun p hp=>(h.in_ p hp).2.1)
theorem flat_snd:∀ l:List (Kd × List KI),(l.map fun x=>((x.1,x.2.flatMap Prod.snd):KI)).flatMap Prod.snd = (l.map Prod.snd).flatten.flatMap Prod.snd
 | []=>rfl
 | x :: l=>by rw [List.map_cons,List.flatMap_cons,flat_snd l,List.map_cons,List.flatten_cons,List.flatMap_append]
/-- A page that has so many kids. -/
def RootK (C:Int → Cn) (p q:Nat):Prop:=∃ ks:List Kd,ks.length = q ∧ C (p:Int) = sealC 2 (ndB [] ks) ∧ (∀ k ∈ ks,kdOk k) ∧ (ndB [] ks).length ≤ 505 ∧ ks ≠ []
/-- Inner pages over trees are trees. -/
theorem MkQ.inner {w w':World} {c:Pct} {B mb tb:Nat} {took:List Nat} {vt:Value} {m:Pst} {l:List KI} {h:Nat} {e:Ending} (hl:∀ x ∈ l,KidT c m h x) (hs:SvQ w c B mb tb took vt m ((cutF szK (l.map Prod.fst)).map fun p=>([],p)) e w') :
  MkQ w c B mb tb took vt m (l.flatMap Prod.snd) (h + 1) (cutF szK (l.map Prod.fst)).length (fun m l'=>l'.length = 1 → ∀ x ∈ l',RootK (m.C c) x.1.p l.length) e w':=by
 have hok:∀ x ∈ l.map Prod.fst,kdOk x:=fun x hx=>by
  obtain ⟨y,hy,rfl⟩:=List.mem_map.1 hx
  exact (hl y hy).1
 have h504:∀ x ∈ l.map Prod.fst,szK x ≤ 504:=fun x hx=>by have:=(hok x hx).sz; omega
 have hcut:=cutF_ok szK h504
 have hflat:=cutF_flat szK h504
 obtain ⟨ls,g1,g2⟩:=split_like Prod.fst _ l hflat
 obtain ⟨vt',m',T,h1,h2,h3,h4,h4',h5⟩:=hs
 rw [List.length_map] at h4 h5
 rcases h5 with ⟨v,kds,rfl,h6,h7,h8⟩ | ⟨rfl,hno⟩
 ·have hlen:=h7.len
  rw [List.length_map] at hlen
  rw [← g2] at h7
  obtain ⟨l2,e1,e2,e3⟩:=saved_inner _ _ h7
  have hll:l2.length = (cutF szK (l.map Prod.fst)).length:=by rw [← hlen,← e1,List.length_map]
  refine ⟨vt',m',T,h1,h2,h3,h4,h4',.inl ⟨v,l2.map (fun x=>(x.1,x.2.flatMap Prod.snd)),rfl,?_,fun x hx=>?_,?_,by rw [List.length_map]; omega,fun hone x hx=>?_⟩⟩
  ·rw [List.map_map]
   rw [← e1] at h6
   exact h6
  ·obtain ⟨y,hy,rfl⟩:=List.mem_map.1 hx
   have hp:y.2 ∈ ls:=by rw [← e2]; exact List.mem_map_of_mem hy
   have hpc:y.2.map Prod.fst ∈ cutF szK (l.map Prod.fst):=by rw [← g2]; exact List.mem_map_of_mem hp
   have ht:y.1.p ∈ T:=by rw [← h8,← e1]; exact List.mem_map_of_mem (List.mem_map_of_mem hy)
   obtain ⟨q1,q2,q3,q4⟩:=h3.in_ _ ht
   obtain ⟨b1,b2,b3⟩:=page_ok h1.pg q1 q2
   obtain ⟨p1,p2⟩:=hcut _ hpc
   obtain ⟨e4,e5⟩:=e3 y hy
   have hkt:∀ z ∈ y.2,KidT c m' h z:=fun z hz=>(hl z (by rw [← g1]; exact List.mem_flatten.2 ⟨_,hp,hz⟩)).keep h3
   have hne:y.2 ≠ []:=fun e=>p1 (by rw [e]; rfl)
   have htr:TrQ (m'.C c) c.n m'.used (h + 1) y.1.p (y.2.flatMap Prod.snd):=by
    refine TrQ.inner b1 q4 hne (fun z hz=>(hkt z hz).1) ?_ e5 (fun z hz=>(hkt z hz).2)
    rw [ndB_len,show sumK (y.2.map Prod.fst) = sumZ szK (y.2.map Prod.fst) from rfl,show sumI [] = 0 from rfl]
    omega
   obtain ⟨z,r,hy2⟩:∃ z r,y.2 = z :: r:=by
    cases hc:y.2 with
    | nil=>exact absurd hc hne
    | cons z r=>exact ⟨z,r,rfl⟩
   obtain ⟨z1,z2,i,r2,z3,z4⟩:=hkt z (by rw [hy2]; exact List.mem_cons_self)
   have hk:y.1.k = z.1.k:=by rw [e4,hy2]; rfl
   refine ⟨⟨by show 1 ≤ y.1.k.length; rw [hk]; exact z1.1,by show y.1.k.length ≤ 32; rw [hk]; exact z1.2.1,b2,b3⟩,htr,i,r2 ++ r.flatMap Prod.snd,?_,?_⟩
   ·show y.2.flatMap Prod.snd = _
    rw [hy2,List.flatMap_cons,z3]
    rfl
   ·rw [z4,← hk]
  ·exact (flat_snd l2).trans (by rw [e2,g1])
  ·obtain ⟨y,hy,rfl⟩:=List.mem_map.1 hx
   rw [List.length_map] at hone
   obtain ⟨z,hz⟩:=List.length_eq_one_iff.1 hone
   subst hz
   rw [List.mem_singleton.1 hy]
   have hp:z.2 ∈ ls:=by rw [← e2]; exact List.mem_map_of_mem List.mem_cons_self
   have hpc:z.2.map Prod.fst ∈ cutF szK (l.map Prod.fst):=by rw [← g2]; exact List.mem_map_of_mem hp
   obtain ⟨p1,p2⟩:=hcut _ hpc
   refine ⟨z.2.map Prod.fst,?_,(e3 z List.mem_cons_self).2,fun k hk=>hok k (by rw [← hflat]; exact List.mem_flatten.2 ⟨_,hpc,hk⟩),?_,p1⟩
   ·rw [← g1,← e2,List.length_map]
    simp
   ·rw [ndB_len,show sumK (z.2.map Prod.fst) = sumZ szK (z.2.map Prod.fst) from rfl,show sumI [] = 0 from rfl]
    omega
 ·exact ⟨vt',m',T,h1,h2,h3,h4,h4',.inr ⟨rfl,hno⟩⟩
end Go.Proofs.Ytkolacaceaamoaa
