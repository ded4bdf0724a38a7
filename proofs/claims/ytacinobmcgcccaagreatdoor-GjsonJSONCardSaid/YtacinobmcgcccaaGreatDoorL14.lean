/- Maps keyed by edges: what they hold; many marks at a return. -/
import Derived.Test.YtacinobmcgcccaaGreatDoorL13
set_option linter.unusedSimpArgs false
set_option linter.unusedVariables false
namespace Go.Proofs.YtacinobmcgcccaaGreatDoor
open Go.RowKit Go.Shelf Go.Maps
def shutAll (w:World):List Nat→World
 | []=>w
 | D :: ds=>shutAll (w.putObj D (.deferred none)) ds
def markL (ds:List Nat):List Deferred:=ds.map fun D=>{ target:=.collected D,args:=#[] }
def Marks (w:World) (ds:List Nat):Prop:=ds.Nodup ∧ ∀ D∈ds,w.heap[D]? = some (.deferred (some []))
theorem Marks.lt {w:World} {ds:List Nat} (h:Marks w ds):∀ D∈ds,D<w.heap.size:=fun D hD=>(Array.getElem?_eq_some_iff.1 (h.2 D hD)).1
theorem Marks.below {w w':World} {ds:List Nat} {B:Nat} (h:Marks w ds) (hb:Below B w w') (hB:∀ D∈ds,D<B):Marks w' ds:=⟨h.1,fun D hD=>(hb.block D (hB D hD)).trans (h.2 D hD)⟩
theorem Marks.later {w w':World} {ds:List Nat} (h:Marks w ds) (hb:Below w.heap.size w w'):Marks w' ds:=h.below hb h.lt
theorem Marks.grown {w w':World} {ds:List Nat} {row:Option Nat} (h:Marks w ds) (hg:w.grownBy w' row) (hr:∀ D∈ds,some D≠row):Marks w' ds:=⟨h.1,fun D hD=>(hg.block D (h.lt D hD) (hr D hD)).trans (h.2 D hD)⟩
theorem Marks.setCell {w:World} {ds:List Nat} (h:Marks w ds) {p:Addr} (hp:∀ D∈ds,D≠p.block) (u:Value):Marks (w.setCell p u) ds:=⟨h.1,fun D hD=>(Below.heap_setCell w p u D (hp D hD)).trans (h.2 D hD)⟩
theorem Marks.far {w:World} {ds:List Nat} {g:Nat} {t:TypeId} {cs:Array Value} (h:Marks w ds) (hk:Blk w g t cs):∀ D∈ds,D≠g:=fun D hD e=>by
 have h1:=h.2 D hD;rw [e] at h1;unfold Blk at hk;rw [hk] at h1;cases h1
theorem Marks.put {w:World} {D:Nat} {ds:List Nat} (h:Marks w (D :: ds)):Marks (w.putObj D (.deferred none)) ds:=by
 obtain ⟨h1,h2⟩:=h;rw [List.nodup_cons] at h1;exact ⟨h1.2,fun E hE=>(World.putObj_heap_other (by rintro rfl;exact h1.1 hE)).trans (h2 E (by simp [hE]))⟩
theorem shut_blk {g:Nat} {t:TypeId} {cs:Array Value}:∀ {ds:List Nat} {w:World},Marks w ds→Blk w g t cs→Blk (shutAll w ds) g t cs
 | [],_,_,h=>h
 | D :: ds,w,hm,h=>shut_blk (ds:=ds) hm.put (blk_grown h (grownBy_putObj' w D (.deferred none)) (fun r e=>by injection e with e;subst e;exact ⟨_,hm.2 _ (by simp),rfl⟩))
theorem shut_below {B:Nat} {w0:World}:∀ {ds:List Nat} {w:World},Marks w ds→(∀ D∈ds,B≤D)→Below B w0 w→Below B w0 (shutAll w ds)
 | [],_,_,_,h=>h
 | D :: ds,w,hm,hB,h=>shut_below (ds:=ds) hm.put (fun E hE=>hB E (by simp [hE])) (Below.grown h (grownBy_putObj' w D (.deferred none)) (by have:=hm.lt D (by simp);have:=hB D (by simp);omega) (fun k e=>by injection e with e;subst e;exact hB D (by simp)))
theorem shut_heap {j:Nat}:∀ {ds:List Nat} {w:World},j ∉ ds→(shutAll w ds).heap[j]? = w.heap[j]?
 | [],_,_=>rfl
 | D :: ds,w,h=>by
   rw [shutAll,shut_heap (ds:=ds) (fun e=>h (by simp [e]))];exact World.putObj_heap_other (fun e=>h (by simp [e]))
theorem retMs {F:Fence} {n:Nat} {P:Program} {fn:Func} {R:Ending→World→Prop} {tmps:Array Value} {v:Value}:∀ (ds:List Nat) {w:World},Marks w ds→(results fn tmps).run P (shutAll w ds)=.ok v (shutAll w ds)→R (.returned v) (shutAll w ds)→bodyPostM F n P fn R .ret { tmps:=tmps,defers:=markL ds } w
 | [],w,_,hr,hR=>retM0 (a:={ tmps:=tmps,defers:=[] }) hr rfl hR
 | D :: ds,w,hm,hr,hR=>by
   have ih:=retMs (F:=F) (n:=n) (P:=P) (fn:=fn) (R:=R) (tmps:=tmps) (v:=v) ds hm.put hr hR;show LeavesInM F n P fn tmps R (markL (D :: ds)) .returning w;exact ⟨by simp,.inl ⟨_,_,rfl,run_takeDeferred (hm.2 D (by simp)),ih⟩⟩
theorem edges_stopsG (n:Nat) (Bs n₀:Nat) (A:Option Addr) (len cap:Nat) (r:List Pt) (hreach:len≤8796093022208) (w:World) (hBs:Bs<w.heap.size) (hn₀:n₀≤w.heap.size) (hc:w.cell? ⟨Bs,0,none⟩=some (.slice A len cap)) (hr:PR w n₀ A len r) :
 SeqStopsK Fence.wide n Tryz.prog 151 #[.pointer (some ⟨Bs,0,none⟩)] (fun i:Fin len=>encIE (i.val,edgeAt r i.val)) (KpE n₀ Bs) (fun ys=>ys=List.finRange len) (fun pre=>∃ k,k≤len∧pre=(List.finRange len).take k) len w:=fun l J Jx W hW hJ _ hY h0=>by
 refine (edges_count n l Bs n₀ A len cap r hreach w W hBs hn₀ hc hr hW (fun k=>J ((List.finRange len).take k)) (fun k=>Jx ((List.finRange len).take k)) (fun k W h hk=>?_) (fun k W o h=>hJ _ W _ none h (World.grownBy_alloc W o none) (fun r e=>by cases e)) (fun k W h=>hJ _ W _ none h (grown_drew W) (fun r e=>by cases e)) (by simpa using h0)).mono ?_
 ·have:=hY _ ⟨k,hk⟩ W h (by simp;omega);rw [fin_take hk];exact this
 ·rintro e W' ⟨he,hj|⟨k,hk,hj⟩⟩
  ·exact ⟨he,.inl ⟨_,rfl,by rw [List.take_of_length_le (by simp)] at hj;exact hj⟩⟩
  ·exact ⟨he,.inr ⟨_,⟨k,hk,rfl⟩,hj⟩⟩
def eAt (r:List Pt) {n:Nat} (i:Fin n):Eg:=edgeAt r i.val
theorem fin_edges (r:List Pt) {n:Nat} (h:r.length=n):(List.finRange n).map (eAt r)=edgesL r:=by
 subst h;unfold edgesL eAt;apply List.ext_getElem
 ·simp
 ·intro i h1 h2;simp
def MapI (w:World) (b:Nat) (S:List Eg):Prop:=(∀ e∈S,e.i64) ∧ ∃ n D,w.ownsMap (H:=Unit) Tryz.prog TEg (plainElem Tryz.prog 3) b n D∧n≤S.length ∧ ∀ e:Eg,e.i64→Maps.has D (kl e)=decide (e∈S)
def MapB (w:World) (b:Nat) (S:List Eg):Prop:=(∀ e∈S,e.i64) ∧ ∃ n D,w.ownsMap (H:=Unit) Tryz.prog TEg (plainElem Tryz.prog 4) b n D∧n≤S.length ∧ ∀ e:Eg,e.i64→D.atKey (kl e) (.lit (.bool false))=.lit (.bool (decide (e∈S)))
theorem own_below {w w':World} {k:TypeId} {R:Value→Option (DataW Unit × List MemPlace)} {b n B:Nat} {D:DataW Unit} (h:w.ownsMap Tryz.prog k R b n D) (hb:Below B w w') (hB:b<B):w'.ownsMap Tryz.prog k R b n D:=by
 obtain ⟨es,clock,h1,F,h2,h3⟩:=h;exact ⟨es,clock,(hb.block b hB).trans h1,F,h2,h3⟩
theorem MapI.below {w w':World} {b B:Nat} {S:List Eg} (h:MapI w b S) (hb:Below B w w') (hB:b<B):MapI w' b S:=by
 obtain ⟨h0,n,D,h1,h2,h3⟩:=h;exact ⟨h0,n,D,own_below h1 hb hB,h2,h3⟩
theorem MapI.lt {w:World} {b:Nat} {S:List Eg} (h:MapI w b S):b<w.heap.size:=by obtain ⟨h0,n,D,h1,h2,h3⟩:=h;exact h1.lt
theorem MapI.later {w w':World} {b:Nat} {S:List Eg} (h:MapI w b S) (hb:Below w.heap.size w w'):MapI w' b S:=h.below hb h.lt
theorem MapI.grown {w w':World} {b:Nat} {S:List Eg} {row:Option Nat} (h:MapI w b S) (hg:w.grownBy w' row) (hne:some b≠row):MapI w' b S:=by
 obtain ⟨h0,n,D,h1,h2,h3⟩:=h;exact ⟨h0,n,D,h1.kept hg hne,h2,h3⟩
theorem MapI.setCell {w:World} {b:Nat} {S:List Eg} (h:MapI w b S) {p:Addr} (hp:b≠p.block) (u:Value):MapI (w.setCell p u) b S:=by
 obtain ⟨h0,n,D,h1,h2,h3⟩:=h;exact ⟨h0,n,D,h1.setCell hp u,h2,h3⟩
theorem MapB.below {w w':World} {b B:Nat} {S:List Eg} (h:MapB w b S) (hb:Below B w w') (hB:b<B):MapB w' b S:=by
 obtain ⟨h0,n,D,h1,h2,h3⟩:=h;exact ⟨h0,n,D,own_below h1 hb hB,h2,h3⟩
theorem MapB.lt {w:World} {b:Nat} {S:List Eg} (h:MapB w b S):b<w.heap.size:=by obtain ⟨h0,n,D,h1,h2,h3⟩:=h;exact h1.lt
theorem MapB.grown {w w':World} {b:Nat} {S:List Eg} {row:Option Nat} (h:MapB w b S) (hg:w.grownBy w' row) (hne:some b≠row):MapB w' b S:=by
 obtain ⟨h0,n,D,h1,h2,h3⟩:=h;exact ⟨h0,n,D,h1.kept hg hne,h2,h3⟩
theorem MapB.setCell {w:World} {b:Nat} {S:List Eg} (h:MapB w b S) {p:Addr} (hp:b≠p.block) (u:Value):MapB (w.setCell p u) b S:=by
 obtain ⟨h0,n,D,h1,h2,h3⟩:=h;exact ⟨h0,n,D,h1.setCell hp u,h2,h3⟩
theorem MapI.made (w:World):MapI (w.alloc (.map #[] 0)) w.heap.size []:=
 ⟨fun e h=>(by cases h),0,.map [],World.ownsMap_made _ _ _ _,Nat.le_refl _,fun e _=>rfl⟩
theorem MapB.made (w:World):MapB (w.alloc (.map #[] 0)) w.heap.size []:=
 ⟨fun e h=>(by cases h),0,.map [],World.ownsMap_made _ _ _ _,Nat.le_refl _,fun e _=>(by simp;rfl)⟩
theorem keyLit (e:Eg):WideAt.IsKeyLit (kl e):=trivial
theorem put_has {D:DataW Unit} (hD:IsMap D) {e:Eg} (he:e.i64) (d:DataW Unit) {S:List Eg} (h:∀ f:Eg,f.i64→Maps.has D (kl f)=decide (f∈S)):∀ f:Eg,f.i64→Maps.has (D.put (kl e) d) (kl f)=decide (f∈S++[e]):=fun f hf=>by
 by_cases q:f=e
 ·subst q;rw [has_put_same hD (keyLit _)];simp
 ·rw [has_put_other (fun x=>q (kl_inj hf he x)),h f hf];simp [q]
theorem putE_at {D:DataW Unit} (hD:IsMap D) {e:Eg} (he:e.i64) {S:List Eg} (h:∀ f:Eg,f.i64→D.atKey (kl f) (.lit (.bool false))=.lit (.bool (decide (f∈S)))):∀ f:Eg,f.i64→(D.put (kl e) (.lit (.bool true))).atKey (kl f) (.lit (.bool false))=.lit (.bool (decide (f∈S++[e]))):=fun f hf=>by
 by_cases q:f=e
 ·subst q;rw [atKey_put_same hD (keyLit _)];simp
 ·rw [atKey_put_other (fun x=>q (kl_inj hf he x)),h f hf];simp [q]
attribute [local go_sem] Oper.semAt_some
abbrev TMi:TypeId:=143
abbrev TMb:TypeId:=146
def edgesOf (vs:List Pv):List Eg:=vs.flatMap fun v=>edgesL v.pc.ring
theorem edgesOf_take {vs:List Pv} {k:Nat} (h:k<vs.length):edgesOf (vs.take (k+1))=edgesOf (vs.take k)++edgesL vs[k].pc.ring:=by
 unfold edgesOf;rw [List.take_succ_eq_append_getElem h,List.flatMap_append];simp only [List.flatMap_cons,List.flatMap_nil,List.append_nil]
theorem dup_of {vs:List Pv} {k j nv:Nat} {v:Pv} (h:k<vs.length) (hv:vs[k]=v) (hn:v.pc.ring.length=nv) (hd:¬ (edgesOf (vs.take k)++((List.finRange nv).take j).map (eAt v.pc.ring)).Nodup):¬ (edgesOf vs).Nodup:=by
 intro hnd;apply hd;refine hnd.sublist ?_;have e:edgesOf vs=edgesOf (vs.take k)++(edgesL v.pc.ring++edgesOf (vs.drop (k+1))):=by
  conv=>lhs;rw [← List.take_append_drop (k+1) vs]
  unfold edgesOf;rw [List.flatMap_append];have:=edgesOf_take h;unfold edgesOf at this;rw [this,hv,List.append_assoc]
 rw [e,List.map_take,fin_edges _ hn];exact List.Sublist.append (List.Sublist.refl _) ((List.take_sublist _ _).trans (List.sublist_append_left _ _))
theorem keeps_row {B mb:Nat} {W W':World} (hg:W.grownBy W' (some mb)) (h:mb<B):KeepsFrom B W W':=⟨hg.size,fun k o hb hk _=>(hg.block k (Array.getElem?_eq_some_iff.1 hk).1 (fun e=>by injection e with e;omega)).trans hk⟩
set_option maxRecDepth 100000 in
set_option maxHeartbeats 4000000 in
theorem pedges_any (vs:List Pv) (A:Option Addr) (n c:Nat) (w:World) (hP:PsR w w.heap.size A n vs) (hg:∀ v∈vs,goodAll v.pc.ring=true∧v.n≤128) (hn:n≤1000000) :
 Calls Tryz.prog 112 #[.slice A n c] w fun r w'=>Below w.heap.size w w'∧((edgesOf vs).Nodup∧(∃ b,r=.returned (.tuple #[.map (some b),.bool true])∧w.heap.size≤b∧MapI w' b (edgesOf vs))∨(¬ (edgesOf vs).Nodup∧r=.returned (.tuple #[.map none,.bool false]))):=by
 have HP:=hide hP;have HVL:=hide hP.sl.1;have HGD:=hide hg;have hmm:=@run_makeMap Tryz.prog;clear hP hg;refine (callsIn_wide (n:=10)).1 ?_;refine callsIn_of_wp_marks Tryz.func112 rfl trivial ?_ rfl;simp only [Tryz.ntmps112,List.size_toArray,List.length_cons,List.length_nil,Nat.reduceAdd,Nat.reduceSub,Array.replicate_succ,Array.replicate_zero,List.push_toArray,List.append_toArray,List.nil_append,List.cons_append];refine wpIn_wide.2 ?_;go_wp2_with fail
 obtain ⟨w4,hw4,hbs4,hm4⟩:∃ w4,((((w.alloc (Obj.cells #[Value.map none] TMi)).alloc (Obj.cells #[Value.bool false] 4)).alloc (Obj.map #[] 0)).alloc (Obj.cells #[Value.map (some (w.heap.size+1+1))] TMi))=w4 ∧
  Bs w4 [(w.heap.size+1+1+1,TMi,#[Value.map (some (w.heap.size+1+1))]),(w.heap.size+1,4,#[Value.bool false]),(w.heap.size,TMi,#[Value.map none])]∧MapI w4 (w.heap.size+1+1) []:=by
  refine ⟨_,rfl,?_,?_⟩
  ·have h:=((((Bs.nil w).al #[Value.map none] TMi).al #[Value.bool false] 4).keep (Obj.map #[] 0)).al #[Value.map (some (w.heap.size+1+1))] TMi;simpa using h
  ·have h:=MapI.made ((w.alloc (Obj.cells #[Value.map none] TMi)).alloc (Obj.cells #[Value.bool false] 4));have h2:=h.later (bal bR (Obj.cells #[Value.map (some (w.heap.size+1+1))] TMi));simpa using h2
 have hb4:Below w.heap.size w w4:=hw4 ▸ bal (bal (bal (bal bR _) _) _) _;have hs4:w4.heap.size=w.heap.size+4:=by rw [← hw4];simp
 rw [hw4];clear hw4;obtain ⟨Inv,hInv⟩:∃ Inv:Act→World→Prop,Inv=fun a' W=>∃ (k:Nat) (ds:List Nat) (u6 u15 u16 u17 u18 u19 u20 u34:Value),a'={ tmps:=#[.slice A n c,undef,.pointer (some ⟨w.heap.size,0,none⟩),.pointer (some ⟨w.heap.size+1,0,none⟩),.pointer (some ⟨w.heap.size+1+1+1,0,none⟩),undef,u6,undef,undef,undef,undef,.map (some (w.heap.size+1+1)),.slice A n c,.int .i64 (n:Int),.int .i64 (k:Int),u15,u16,u17,u18,u19,u20,undef,undef,undef,undef,undef,undef,undef,undef,undef,undef,undef,undef,undef,u34,undef],defers:=markL ds }∧k≤n ∧
  Hid (Below w.heap.size w W∧Blk W w.heap.size TMi #[.map none]∧Blk W (w.heap.size+1) 4 #[.bool false]∧Blk W (w.heap.size+1+1+1) TMi #[.map (some (w.heap.size+1+1))]∧MapI W (w.heap.size+1+1) (edgesOf (vs.take k))∧(edgesOf (vs.take k)).Nodup∧Marks W ds∧(∀ D∈ds,w.heap.size+4≤D)∧w.heap.size+4≤W.heap.size):=⟨_,rfl⟩
 have HINV:=hide hInv;clear hInv;refine wp_loop Inv
  (fun a' _=>n - (intOf (a'.tmps.getD 14 undef)).toNat) ?_ ?_
 ·rw [HINV.out];exact ⟨0,[],_,_,_,_,_,_,_,_,rfl,by omega,hide ⟨hb4,hbs4 _ (List.mem_of_getElem? (i:=2) rfl),hbs4 _ (List.mem_of_getElem? (i:=1) rfl),hbs4 _ (List.mem_of_getElem? (i:=0) rfl),hm4,List.nodup_nil,⟨List.nodup_nil,fun D h=>(by cases h)⟩,fun D h=>(by cases h),by omega⟩⟩
 ·intro a' wr hinv;rw [HINV.out] at hinv;obtain ⟨k,ds,u6,u15,u16,u17,u18,u19,u20,u34,rfl,hkn,HI⟩:=hinv;dsimp only;by_cases hlt:k<n
  ·have hltI:(k:Int)<n:=by omega
   have hkv:k<vs.length:=by rw [HVL.out];exact hlt
   obtain ⟨b,o,rfl,hb,hcs⟩:=HP.out.at (show 0<n by omega);obtain ⟨c0,c1,c2⟩:=hcs k hkv;have hok:=HP.out.ok _ (List.getElem_mem hkv);have hgd:=HGD.out _ (List.getElem_mem hkv);obtain ⟨v,hv⟩:∃ v,vs[k]=v:=⟨_,rfl⟩;rw [hv] at c0 c1 c2 hok hgd;have HV:=hide hv;obtain ⟨⟨id,ring,owner⟩,Av,nv,cv⟩:=v;have c0:=(HI.out.1.cell (p:=⟨b,o+k * 3,none⟩) hb).trans c0;have c1:=(HI.out.1.cell (p:=⟨b,o+k * 3+1,none⟩) hb).trans c1;have c2:=(HI.out.1.cell (p:=⟨b,o+k * 3+2,none⟩) hb).trans c2;have hbr:b<wr.heap.size:=nLl hb HI.out.1.size;simp only at c0 c1 c2;have HOK:=hide hok;have HGD2:=hide hgd;clear hv hcs hok hgd;go_wp2_with (go_at_call 113;(refine (edges_any _ _ _ _).mono ?_);rintro e w3 ⟨rfl,rfl⟩)
   obtain ⟨w5,hw5,hbs5⟩:∃ w5,((wr.alloc (Obj.cells #[Value.int IntKind.i64 id,Value.slice Av nv cv,Value.string owner] 43)).alloc (Obj.cells #[Value.slice Av nv cv] 23))=w5 ∧
    Bs w5 [(wr.heap.size+1,23,#[Value.slice Av nv cv]),(wr.heap.size,43,#[Value.int IntKind.i64 id,Value.slice Av nv cv,Value.string owner])]:=by
    refine ⟨_,rfl,?_⟩;have h:=((Bs.nil wr).al #[Value.int IntKind.i64 id,Value.slice Av nv cv,Value.string owner] 43).al #[Value.slice Av nv cv] 23;simpa using h
   have hb5:Below wr.heap.size wr w5:=hw5 ▸ bal (bal bR _) _;have hs5:w5.heap.size=wr.heap.size+2:=by rw [← hw5];simp
   rw [hw5];clear hw5;have hbw5:Below w.heap.size w w5:=HI.out.1.trans (hb5.mono HI.out.1.size);obtain ⟨-,hI2,hI3,hI4,hI5,hI6,hI7,hI8,hI9⟩:=HI.out;have hk5:=hbs5 _ (List.mem_of_getElem? (i:=0) rfl);have hk6:=hbs5 _ (List.mem_of_getElem? (i:=1) rfl);have hD5:∀ D∈ds,D<wr.heap.size:=hI7.lt;have hnv:nv≤128:=HGD2.out.2;have hrl:ring.length=nv:=HOK.out.pr.1;refine (wpIn_wide (n:=9)).1 ?_;refine wpIn_rangeFunc_ownH (F:=Fence.wide) rfl (by omega) (gf:=151) (lb:=#[.pointer (some ⟨wr.heap.size+1,0,none⟩)]) rfl trivial (enters_of Tryz.func151 (by kernel_rfl) rfl)
    (edges_stopsG 8 (wr.heap.size+1) w.heap.size Av nv cv ring (by omega) w5 (by omega) (by omega) (hk5.cell 0) (HOK.out.pr.below hbw5))
    (fun h k=>h.trans k) (kpE_b (by omega) (by omega)) bR (fun _=>rfl)
    (fun (pre:List (Fin nv)) W=>Below w.heap.size w W∧Blk W w.heap.size TMi #[.map none]∧Blk W (w.heap.size+1) 4 #[.bool false]∧Blk W (w.heap.size+1+1+1) TMi #[.map (some (w.heap.size+1+1))]∧Blk W wr.heap.size 43 #[Value.int IntKind.i64 id,Value.slice Av nv cv,Value.string owner] ∧
      MapI W (w.heap.size+1+1) (edgesOf (vs.take k)++pre.map (eAt ring))∧(edgesOf (vs.take k)++pre.map (eAt ring)).Nodup∧Marks W ds∧wr.heap.size+2≤W.heap.size)
    (fun cd pre W=>cd=.ret∧Below w.heap.size w W∧Blk W w.heap.size TMi #[.map none]∧Blk W (w.heap.size+1) 4 #[.bool false]∧Marks W ds∧¬ (edgesOf (vs.take k)++pre.map (eAt ring)).Nodup)
    (fun pre W W' row hs hg hr=>by
      obtain ⟨q1,q2,q3,q4,q5,q6,q7,q8,q9⟩:=hs;have hrow:∀ r,row=some r→w5.heap.size≤r:=fun r e=>(hr r e).1
      exact ⟨q1.grown hg q1.size (fun r e=>by have:=hrow r e;omega),blk_grown q2 hg (fun r e=>(hr r e).2),blk_grown q3 hg (fun r e=>(hr r e).2),blk_grown q4 hg (fun r e=>(hr r e).2),blk_grown q5 hg (fun r e=>(hr r e).2),q6.grown hg (fun e=>by have:=hrow _ e.symm;omega),q7,q8.grown hg (fun D hD e=>by have:=hrow _ e.symm;have:=hD5 D hD;omega),Nat.le_trans q9 hg.size⟩)
    (fun cd pre W W' row hs hg hr=>by
      obtain ⟨q0,q1,q2,q3,q8,q7⟩:=hs;have hrow:∀ r,row=some r→w5.heap.size≤r:=fun r e=>(hr r e).1
      exact ⟨q0,q1.grown hg q1.size (fun r e=>by have:=hrow r e;omega),blk_grown q2 hg (fun r e=>(hr r e).2),blk_grown q3 hg (fun r e=>(hr r e).2),q8.grown hg (fun D hD e=>by have:=hrow _ e.symm;have:=hD5 D hD;omega),q7⟩)
    ⟨hbw5,hI2.below hb5 hI2.lt,hI3.below hb5 hI3.lt,hI4.below hb5 hI4.lt,hk6,by simpa using hI5.later hb5,by simpa using hI6,hI7.later hb5,by omega⟩
    (fun (x:Fin nv) a' W=>∃ Bx,w5.heap.size≤Bx∧Blk W Bx TEg #[.int .i64 (eAt ring x).a.x,.int .i64 (eAt ring x).a.y,.int .i64 (eAt ring x).b.x,.int .i64 (eAt ring x).b.y]∧a'={ tmps:=#[.slice (some ⟨b,o,none⟩) n c,undef,.pointer (some ⟨w.heap.size,0,none⟩),.pointer (some ⟨w.heap.size+1,0,none⟩),.pointer (some ⟨w.heap.size+1+1+1,0,none⟩),undef,.pointer (some ⟨wr.heap.size,0,none⟩),undef,.pointer (some ⟨Bx,0,none⟩),undef,undef,.map (some (w.heap.size+1+1)),.slice (some ⟨b,o,none⟩) n c,.int .i64 (n:Int),.int .i64 (k:Int),.bool true,.pointer (some ⟨b,o+k * 3,none⟩),.agg #[.int .i64 id,.slice Av nv cv,.string owner],.pointer (some ⟨wr.heap.size,1,none⟩),.slice Av nv cv,.func (.func 151) #[] #[.pointer (some ⟨wr.heap.size+1,0,none⟩)],.int .i64 (x.val:Int),.agg #[.int .i64 (eAt ring x).a.x,.int .i64 (eAt ring x).a.y,.int .i64 (eAt ring x).b.x,.int .i64 (eAt ring x).b.y],undef,undef,undef,undef,undef,undef,undef,undef,undef,undef,undef,u34,undef],defers:=[] })
    (fun x a' _ W W' row hs hg hr=>by obtain ⟨Bx,h1,h2,h3⟩:=hs;exact ⟨Bx,h1,blk_grown h2 hg (fun r e=>(hr r e).2),h3⟩) ?assign ?body ?done ?stop
   case assign=>
    rintro l pre x W K hi hK;dsimp only [encIE];have HH:=hide hi;clear hi;obtain ⟨e,he⟩:∃ e,edgeAt ring x.val=e:=⟨_,rfl⟩;have he2:eAt ring x=e:=he;rw [he];rw [he2] at hK;clear he he2
    gi_wp2
    obtain ⟨q1,q2,q3,q4,q5,q6,q7,q8,q9⟩:=HH.out;exact hK _ _ ((KeepsOthers.alloc _ _).from _) (KpE.of_below (bal bR _) q1.size (by omega)) ⟨q1.trans ((bal bR _).mono q1.size),q2.alloc _,q3.alloc _,q4.alloc _,q5.alloc _,q6.later (bal bR _),q7,q8.later (bal bR _),by simp;omega⟩ ⟨W.heap.size,by omega,Blk.new _ _ _,rfl⟩
   case body=>
    rintro l pre x a' W hl - hi ⟨Bx,hx1,hx2,rfl⟩ hpre;have heg:=edge_good HGD2.out.1 (mem_edges.2 ⟨x.val,by rw [hrl];exact x.isLt,rfl⟩);have hgood:(eAt ring x).i64:=Eg.good.i64 ⟨good_mem HGD2.out.1 heg.1,good_mem HGD2.out.1 heg.2⟩;obtain ⟨e,he⟩:∃ e,eAt ring x=e:=⟨_,rfl⟩;have hmap:(pre++[x]).map (eAt ring)=pre.map (eAt ring)++[e]:=by rw [List.map_append,List.map_singleton,he]
    rw [he] at hx2 hgood;rw [he];obtain ⟨q1,q2,q3,q4,q5,q6,q7,q8,q9⟩:=hi;obtain ⟨S,hS⟩:∃ S,edgesOf (vs.take k)++pre.map (eAt ring)=S:=⟨_,rfl⟩;have hS2:edgesOf (vs.take k)++(pre++[x]).map (eAt ring)=S++[e]:=by rw [hmap,← List.append_assoc,hS]
    rw [hS] at q6 q7;obtain ⟨q60,nD,D,hown,hnD,hhas⟩:=q6;obtain ⟨tb,htb⟩:∃ t,decide (e∈S)=t:=⟨_,rfl⟩;have hth:Maps.has D (kl e)=tb:=by rw [hhas e hgood,htb]
    have hSl:S.length≤2000000000:=by
     rw [← hS,List.length_append,List.length_map];have h1:(edgesOf (vs.take k)).length≤n * 128:=by
      have hg:∀ v∈vs.take k,(edgesL v.pc.ring).length≤128:=fun v hv=>by
       have hv':=List.mem_of_mem_take hv;rw [edges_len,(HP.out.ok v hv').pr.1];exact (HGD.out v hv').2
      have h2:∀ (l:List Pv),(∀ v∈l,(edgesL v.pc.ring).length≤128)→(edgesOf l).length≤l.length * 128:=fun l=>by
       induction l with
       | nil=>intro _;simp [edgesOf]
       | cons v l ih=>
         intro h;have h3:=ih (fun y hy=>h y (by simp [hy]));have h4:=h v (by simp);unfold edgesOf at h3 ⊢;rw [List.flatMap_cons,List.length_append,List.length_cons];omega
      have h5:=h2 _ hg;rw [List.length_take] at h5;omega
     omega
    have HH:=hide (And.intro q1 (And.intro q2 (And.intro q3 (And.intro q4 (And.intro q5 (And.intro q7 (And.intro q8 q9)))))));have HOWN:=hide hown;have HHAS:=hide hhas;have HKEY:=hide (keyE e hgood);have HGG:=hide hgood;have HST:=hide (And.intro hS2 (And.intro hmap htb));have HS60:=hide q60;have kx:=hx2.cell;have fx:=hx2.frozen;have zx:=hx2.lt;have k4:=q4.cell;have f4:=q4.frozen;have z4:=q4.lt;have k5:=q5.cell;have f5:=q5.frozen;have z5:=q5.lt;have k2:=q2.cell;have f2:=q2.frozen;have z2:=q2.lt;have k3:=q3.cell;have f3:=q3.frozen;have z3:=q3.lt;have HID:=hide HOK.out.id;clear q1 q2 q3 q4 q5 q7 q8 hown hhas hgood hS hS2 hmap htb q60 heg he;cases tb
    ·gi_wp2_with (first
      | (gi_at_lookup;refine wpListIn_lookup_own_ok_int _ rfl _ _ TMi rfl TEg 3 .i64 lawE Tryz.underlying143 Tryz.underlying3 (Tryz.zeroValue3 _) (w.heap.size+1+1) nD D rfl HOWN.out _ (kl e) rfl HKEY.out ?_;intro cc _ _;rw [hth])
      | (gi_at_mapUpdate;refine wpListIn_mapUpdate_own _ rfl _ _ _ TMi rfl TEg 3 lawE Tryz.underlying143 (plainElem Tryz.prog 3) (w.heap.size+1+1) nD D rfl HOWN.out (by unfold maxLen;omega) _ _ (kl e) rfl rfl HKEY.out _ [] (plainElem_int Tryz.underlying3 (wf64 HID.out)) ?_;intro w7 hown7 hg7;have HOWN7:=hide hown7;have HG7:=hide hg7;clear hown7 hg7))
     obtain ⟨q1,q2,q3,q4,q5,q7,q8,q9⟩:=HH.out;have hmb:w.heap.size+1+1<W.heap.size:=by omega
     have hne:∀ {g:Nat},g≠w.heap.size+1+1→some g≠some (w.heap.size+1+1):=fun h e=>h (by injection e)
     refine ⟨keeps_row HG7.out (by omega),⟨(Below.refl w.heap.size W).grown HG7.out q1.size (fun r e=>by injection e with e;omega),HG7.out.block _ (by omega) (hne (by omega))⟩,q1.grown HG7.out q1.size (fun r e=>by injection e with e;omega),q2.grown HG7.out (hne (by omega)),q3.grown HG7.out (hne (by omega)),q4.grown HG7.out (hne (by omega)),q5.grown HG7.out (hne (by omega)),?_,?_,q8.grown HG7.out (fun D hD=>hne (by have:=hI8 D hD;omega)),Nat.le_trans q9 HG7.out.size⟩
     ·rw [HST.out.1];refine ⟨fun f hf=>?_,nD+1,_,HOWN7.out,by rw [List.length_append];simp;omega,put_has HOWN.out.isMap HGG.out _ HHAS.out⟩;rcases List.mem_append.1 hf with h|h
      ·exact HS60.out f h
      ·simp at h;subst h;exact HGG.out
     ·rw [HST.out.1];refine List.nodup_append.2 ⟨q7,by simp,?_⟩;intro a ha b hb e2;simp at hb;subst hb;subst e2;have:=HST.out.2.2;simp [ha] at this
    ·gi_wp2_with (gi_at_lookup;refine wpListIn_lookup_own_ok_int _ rfl _ _ TMi rfl TEg 3 .i64 lawE Tryz.underlying143 Tryz.underlying3 (Tryz.zeroValue3 _) (w.heap.size+1+1) nD D rfl HOWN.out _ (kl e) rfl HKEY.out ?_;intro cc _ _;rw [hth])
     obtain ⟨q1,q2,q3,q4,q5,q7,q8,q9⟩:=HH.out;refine ⟨((KeepsOthers.setCell _ _ _).trans (KeepsOthers.setCell _ _ _)).from _,rfl,(q1.setCell (p:=⟨w.heap.size,0,none⟩) (Nat.le_refl _) _).setCell (p:=⟨w.heap.size+1,0,none⟩) (by simp) _,(q2.set_ 0 _).far (p:=⟨w.heap.size+1,0,none⟩) (by simp) _,(q3.far (p:=⟨w.heap.size,0,none⟩) (by simp) _).set_ 0 _,(q8.setCell (p:=⟨w.heap.size,0,none⟩) (fun D hD=>by have:=hI8 D hD;simp;omega) _).setCell (p:=⟨w.heap.size+1,0,none⟩) (fun D hD=>by have:=hI8 D hD;simp;omega) _,?_⟩;rw [HST.out.1];intro hnd;have h1:=(List.nodup_append.1 hnd).2.2 e (by have:=HST.out.2.2;simpa using this) e (by simp);exact h1 rfl
   case done=>
    rintro D xs W hD rfl ⟨q1,q2,q3,q4,q5,q6,q7,q8,q9⟩ hK;rw [fin_edges _ hrl] at q6 q7;have hE:edgesOf (vs.take k)++edgesL ring=edgesOf (vs.take (k+1)):=by rw [edgesOf_take hkv,HV.out]
    rw [hE] at q6 q7;have HH:=hide (And.intro q1 (And.intro q2 (And.intro q3 (And.intro q4 (And.intro q6 (And.intro q7 (And.intro q8 hK)))))));clear q1 q2 q3 q4 q5 q6 q7 q8 hK;dsimp only;go_wp2_with fail
    obtain ⟨q1,q2,q3,q4,q6,q7,q8,hK⟩:=HH.out;rw [HINV.out];refine ⟨⟨k+1,D :: ds,_,_,_,_,_,_,_,_,rfl,by omega,hide ⟨q1,q2,q3,q4,q6,q7,⟨List.nodup_cons.2 ⟨fun h=>by have:=hD5 D h;omega,q8.1⟩,fun E hE=>?_⟩,fun E hE=>?_,by omega⟩⟩,?_⟩
    ·rcases List.mem_cons.1 hE with rfl|h
     ·exact hK
     ·exact q8.2 E h
    ·rcases List.mem_cons.1 hE with rfl|h
     ·omega
     ·exact hI8 E h
    ·simp [intOf];omega
   case stop=>
    rintro D cd pre W hD ⟨j,hj,rfl⟩ ⟨rfl,q1,q2,q3,q8,q7⟩ hK;refine wpIn_ret ?_;have hM:Marks W (D :: ds):=⟨List.nodup_cons.2 ⟨fun h=>by have:=hD5 D h;omega,q8.1⟩,fun E hE=>by
     rcases List.mem_cons.1 hE with rfl|h
     ·exact hK
     ·exact q8.2 E h⟩
    have hb2:=shut_blk hM q2;have hb3:=shut_blk hM q3;refine retMs (v:=.tuple #[.map none,.bool false]) (D :: ds) hM (by simp [results,Tryz.results112,go_sem,hb2.cell 0,hb3.cell 0]) ⟨shut_below hM (fun E hE=>?_) q1,.inr ⟨dup_of hkv HV.out hrl q7,rfl⟩⟩;rcases List.mem_cons.1 hE with rfl|h
    ·omega
    ·have:=hI8 E h;omega
  ·have hltI:¬ (k:Int)<n:=by omega
   obtain rfl:k=n:=by omega
   obtain ⟨q1,q2,q3,q4,q6,q7,q8,q9,q10⟩:=HI.out;rw [List.take_of_length_le (by rw [HVL.out];exact Nat.le_refl _)] at q6 q7;have HH:=hide (And.intro q1 (And.intro q2 (And.intro q3 (And.intro q4 (And.intro q6 (And.intro q7 (And.intro q8 q9)))))));have k4:=q4.cell;have f4:=q4.frozen;have z4:=q4.lt;have k2:=q2.cell;have f2:=q2.frozen;have z2:=q2.lt;have k3:=q3.cell;have f3:=q3.frozen;have z3:=q3.lt;clear q1 q2 q3 q4 q6 q7 q8 q9 HI;go_wp2_with fail
   obtain ⟨q1,q2,q3,q4,q6,q7,q8,q9⟩:=HH.out;have hM:=(q8.setCell (p:=⟨w.heap.size,0,none⟩) (fun D hD=>by have:=q9 D hD;simp;omega) (.map (some (w.heap.size+1+1)))).setCell (p:=⟨w.heap.size+1,0,none⟩) (fun D hD=>by have:=q9 D hD;simp;omega) (.bool true);have hb2:=shut_blk hM ((q2.set_ 0 (.map (some (w.heap.size+1+1)))).far (p:=⟨w.heap.size+1,0,none⟩) (by simp) (.bool true));have hb3:=shut_blk hM ((q3.far (p:=⟨w.heap.size,0,none⟩) (by simp) (.map (some (w.heap.size+1+1)))).set_ 0 (.bool true));refine retMs (v:=.tuple #[.map (some (w.heap.size+1+1)),.bool true]) ds hM (by simp [results,Tryz.results112,go_sem,hb2.cell 0,hb3.cell 0]) ⟨shut_below hM (fun E hE=>by have:=q9 E hE;omega) ((q1.setCell (p:=⟨w.heap.size,0,none⟩) (Nat.le_refl _) _).setCell (p:=⟨w.heap.size+1,0,none⟩) (by simp) _),.inl ⟨q7,_,rfl,by omega,?_⟩⟩;have h6:=(q6.setCell (p:=⟨w.heap.size,0,none⟩) (by simp;omega) (.map (some (w.heap.size+1+1)))).setCell (p:=⟨w.heap.size+1,0,none⟩) (by simp) (.bool true);obtain ⟨h60,nD,D,h61,h62,h63⟩:=h6;obtain ⟨es,clock,h71,F,h72,h73⟩:=h61;refine ⟨h60,nD,D,⟨es,clock,(shut_heap (fun h=>by have:=q9 _ h;omega)).trans h71,F,h72,h73⟩,h62,h63⟩
end Go.Proofs.YtacinobmcgcccaaGreatDoor
