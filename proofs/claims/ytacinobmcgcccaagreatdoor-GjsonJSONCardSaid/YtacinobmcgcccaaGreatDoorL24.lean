/- The JSON reader: many. -/
import Derived.Test.YtacinobmcgcccaaGreatDoorL23
set_option linter.unusedSimpArgs false
set_option linter.unusedVariables false
namespace Go.Proofs.YtacinobmcgcccaaGreatDoor
open Go.RowKit
def G12 (w:World) (rb vb z:Nat) (A:Option Addr) (n c:Nat) (b t:L8) (kind:Nat) (V:Got (JV × Tk)) (T:Tk) (ks:List L8) (vs:List JV) (kv lv:Value) (xs:List Value) (s:Nat) (w':World):Prop:=
 (∃ T',(s=0→T'=T)∧(1≤s → ∃ J,V=.ok (J,T'))∧RdT w' rb A n c b T')∧Fr (isRV rb vb) w w'∧z≤w'.heap.size∧w'.ownsRow w.heap.size TSt 1 kv ks.length (sc ks)∧VRdL w' (InM w z kv lv) vs xs ∧
 (s≤3→Blk w' vb TV #[.int .i64 (kind:Int),.string ⟨t.toArray⟩,kv,lv])∧(s≤1→w'.ownsRow w.heap.size TV 4 lv vs.length xs)
def R58 (w:World) (vb z kind:Nat) (t:L8) (V:Got (JV × Tk)) (m:Nat) (kv lv:Value) (xs:List Value) (st:Nat) (a:Act) (v:Value) (w':World):Prop:=
 ∃ g c J T' cs,v=.slice (some ⟨g,0,none⟩) (m+1) c∧V=.ok (J,T')∧a.eval (.tmp 55)=.agg cs.toArray∧(lv.ownBlock=some g∨z≤g)∧VRd w' (fun j=>z≤j∧j≠g) J cs ∧
  (∃ ys,ys.length=4∧w'.ownsRow w.heap.size TV 4 v (m+1) (xs++ys)∧((st=3∨st=5)→ys=cs))∧(4≤st→Blk w' vb TV #[.int .i64 (kind:Int),.string ⟨t.toArray⟩,kv,v])
def set4o (w:World) (g o:Nat) (a b c d:Value):World:=(((w.setCell ⟨g,o,none⟩ a).setCell ⟨g,o+1,none⟩ b).setCell ⟨g,o+2,none⟩ c).setCell ⟨g,o+3,none⟩ d
section
variable {w wr w':World} {rb vb z n c kind s:Nat} {A:Option Addr} {b t:L8} {T T':Tk} {ks:List L8} {vs:List JV} {kv lv:Value} {xs:List Value} {V:Got (JV × Tk)}
theorem set4o_row {base g m cap:Nat} {xs ys:List Value} {a b c d:Value} (h:w.ownsRow base TV 4 (.slice (some ⟨g,0,none⟩) (m+1) cap) (m+1) (xs++ys)) (hl:ys.length=4) :
 (set4o w g (m * 4) a b c d).ownsRow base TV 4 (.slice (some ⟨g,0,none⟩) (m+1) cap) (m+1) (xs++[a,b,c,d])∧w.grownBy (set4o w g (m * 4) a b c d) (some g):=by
 have hx:xs.length=m * 4:=by have:=h.1;rw [List.length_append] at this;omega
 obtain ⟨y0,y1,y2,y3,rfl⟩:∃ y0 y1 y2 y3,ys=[y0,y1,y2,y3]:=by
  match ys,hl with
  | [y0,y1,y2,y3],_=>exact ⟨y0,y1,y2,y3,rfl⟩
 have h1:=h.stored (m * 4) a;have h2:=h1.1.stored (m * 4+1) b;have h3:=h2.1.stored (m * 4+2) c;have h4:=h3.1.stored (m * 4+3) d;refine ⟨?_,gb_trans (gb_trans (gb_trans h1.2 h2.2) h3.2) h4.2⟩;have e:=h4.1;rw [← hx] at e;rw [List.set_append_right _ _ (Nat.le_refl _),List.set_append_right _ _ (Nat.le_add_right _ 1),List.set_append_right _ _ (Nat.le_add_right _ 2),List.set_append_right _ _ (Nat.le_add_right _ 3)] at e;rw [← hx];simpa [set4o] using e
theorem elem_cells {base g m cap:Nat} {xs ys:List Value} (h:w.ownsRow base TV 4 (.slice (some ⟨g,0,none⟩) (m+1) cap) (m+1) (xs++ys)) (hl:ys.length=4) :
 (∃ y0 y1 y2 y3,w.cell? ⟨g,m * 4,none⟩=some y0∧w.cell? ⟨g,m * 4+1,none⟩=some y1∧w.cell? ⟨g,m * 4+2,none⟩=some y2∧w.cell? ⟨g,m * 4+3,none⟩=some y3)∧(∀ i,w.frozen? ⟨g,i,none⟩=false)∧g<w.heap.size:=by
 have hx:xs.length=m * 4:=by have:=h.1;rw [List.length_append] at this;omega
 obtain ⟨y0,y1,y2,y3,rfl⟩:∃ y0 y1 y2 y3,ys=[y0,y1,y2,y3]:=by
  match ys,hl with
  | [y0,y1,y2,y3],_=>exact ⟨y0,y1,y2,y3,rfl⟩
 refine ⟨⟨y0,y1,y2,y3,?_,?_,?_,?_⟩,h.frozenAt,own_lt h g rfl⟩
 ·rw [h.cellAt _ (by omega),List.getElem?_append_right (by omega)];simp [hx]
 ·rw [h.cellAt _ (by omega),List.getElem?_append_right (by omega)];simp [hx]
 ·rw [h.cellAt _ (by omega),List.getElem?_append_right (by omega)];simp [hx]
 ·rw [h.cellAt _ (by omega),List.getElem?_append_right (by omega)];simp [hx]
theorem G12.of (h:MS w wr rb vb wr.heap.size A n c b t kind T ks vs kv lv xs):G12 w rb vb wr.heap.size A n c b t kind V T ks vs kv lv xs 0 wr:=
 ⟨⟨T,fun _=>rfl,fun h=>absurd h (by decide),h.tk⟩,h.fr,h.hz,h.ok,h.vr,fun _=>h.blk,fun _=>h.ol⟩
theorem G12.below (h:G12 w rb vb z A n c b t kind V T ks vs kv lv xs s wr) (hb:Below wr.heap.size wr w'):G12 w rb vb z A n c b t kind V T ks vs kv lv xs s w':=by
 obtain ⟨⟨T',e1,e2,h1⟩,h2,h3,h4,h5,h6,h7⟩:=h;exact ⟨⟨T',e1,e2,h1.below hb⟩,h2.low hb,Nat.le_trans h3 hb.size,own_later h4 hb,VRdL.keep (fun j hj=>hb.block j (nLl hj.2.1 h3)) (fun _ h=>h) _ _ h5,
  fun h'=>(h6 h').below hb (h6 h').lt,fun h'=>own_later (h7 h') hb⟩
theorem G12.called {J:JV} (h:G12 w rb vb z A n c b t kind V T ks vs kv lv xs 0 wr) (hg:wr.grownBy w' (some rb)) (hV:V=.ok (J,T')) (hT:RdT w' rb A n c b T') (hrb:rb<w.heap.size) (hv:vb≠rb):G12 w rb vb z A n c b t kind V T ks vs kv lv xs 1 w':=by
 obtain ⟨⟨T',e1,e2,h1⟩,h2,h3,h4,h5,h6,h7⟩:=h;exact ⟨⟨_,fun h=>absurd h (by decide),fun _=>⟨J,hV⟩,hT⟩,h2.tr (Fr.of_grown hg (fun k e=>.inl (by injection e with e;exact e.symm))),Nat.le_trans h3 hg.size,
  row_keep h4 (fun g hgb=>hg.block g (own_lt h4 g hgb) (fun e=>by injection e with e;have:=own_block h4 g hgb;omega)),
  VRdL.keep (fun j hj=>hg.block j (nLl hj.2.1 h3) (fun e=>by injection e with e;have:=hj.1;omega)) (fun _ h=>h) _ _ h5,
  fun h'=>blk_gb (h6 (by decide)) hg hv,
  fun h'=>row_keep (h7 (by decide)) (fun g hgb=>hg.block g (own_lt (h7 (by decide)) g hgb) (fun e=>by injection e with e;have:=own_block (h7 (by decide)) g hgb;omega))⟩
theorem rows_ne {w:World} {base k1 k2 n1 n2:Nat} {e1 e2:TypeId} {v1 v2:Value} {x1 x2:List Value} (h1:w.ownsRow base e1 k1 v1 n1 x1) (h2:w.ownsRow base e2 k2 v2 n2 x2) (he:e1≠e2):∀ g,v2.ownBlock=some g→v1.ownBlock≠some g:=fun g hg'=>by
 rcases h2.2 with ⟨e,_⟩|⟨g',cap,cur,e,_,hh,_⟩
 ·rw [e] at hg';cases hg'
 ·rw [e] at hg';have:g'=g:=by simpa [Value.ownBlock] using hg'
  subst this;exact own_blk_ne h1 hh he
theorem G12.append {m:Nat} (h:G12 w rb vb z A n c b t kind V T ks vs kv lv xs 1 wr) (hg:wr.grownBy w' lv.ownBlock) (hrb:rb<w.heap.size) (hvb:vb<w.heap.size) (hA:∀ ad,A=some ad→ad.block<w.heap.size):G12 w rb vb z A n c b t kind V T ks vs kv lv xs 2 w':=by
 obtain ⟨⟨T',e1,e2,h1⟩,h2,h3,h4,h5,h6,h7⟩:=h;have hk:=own_block (h7 (by decide));have hf:Fr (fun j=>lv.ownBlock=some j) wr w':=Fr.of_grown hg (fun k e=>e);have hne:=rows_ne h4 (h7 (by decide)) (by decide);exact ⟨⟨T',fun h=>absurd h (by decide),fun _=>e2 (by decide),h1.fr hf (fun e=>by have:=hk _ e;omega) (fun ad e e3=>by have:=hA ad e;have:=hk _ e3;omega)⟩,h2.trans hf (fun j hj e=>by have:=hk _ e;omega),Nat.le_trans h3 hg.size,row_fr h4 hf (fun g hg' e=>hne g e hg'),VRdL.keep (fun j hj=>hf.block j (nLl hj.2.1 h3) hj.2.2.2) (fun _ h=>h) _ _ h5,fun _=>hf.blk (h6 (by decide)) (fun e=>by have:=hk _ e;omega),fun h=>absurd h (by decide)⟩
theorem G12.elem {g m cap:Nat} {ys:List Value} {x0 x1 x2 x3:Value} (h:G12 w rb vb z A n c b t kind V T ks vs kv lv xs s wr) (hs:s=2∨s=4) (hgz:lv.ownBlock=some g∨z≤g) (hr:wr.ownsRow w.heap.size TV 4 (.slice (some ⟨g,0,none⟩) (m+1) cap) (m+1) (xs++ys)) (hl:ys.length=4) (hrb:rb<w.heap.size) (hvb:vb<w.heap.size) (hA:∀ ad,A=some ad→ad.block<w.heap.size) :
 G12 w rb vb z A n c b t kind V T ks vs kv lv xs (s+1) (set4o wr g (m * 4) x0 x1 x2 x3):=by
 obtain ⟨⟨T',e1,e2,h1⟩,h2,h3,h4,h5,h6,h7⟩:=h;have hk:w.heap.size≤g:=own_block hr g rfl;have hg:=(set4o_row (a:=x0) (b:=x1) (c:=x2) (d:=x3) hr hl).2;have hf:Fr (fun j=>g=j) wr (set4o wr g (m * 4) x0 x1 x2 x3):=Fr.of_grown hg (fun k e=>by injection e);have hne:=rows_ne h4 hr (by decide);exact ⟨⟨T',fun h=>by omega,fun _=>e2 (by omega),h1.fr hf (fun e=>by omega) (fun ad e e3=>by have:=hA ad e;omega)⟩,h2.trans hf (fun j hj e=>by omega),Nat.le_trans h3 hg.size,row_fr h4 hf (fun g' hg' e=>hne g rfl (by rw [e];exact hg')),VRdL.keep (fun j hj=>hf.block j (nLl hj.2.1 h3) (fun e=>hgz.elim (fun h=>hj.2.2.2 (by rw [h,e])) (fun h=>by have:=hj.2.1;omega))) (fun _ h=>h) _ _ h5,fun h'=>hf.blk (h6 (by omega)) (fun e=>by omega),fun h=>by omega⟩
theorem G12.slice {v:Value} (h:G12 w rb vb z A n c b t kind V T ks vs kv lv xs s wr) (hs:s=2∨s=3) (hrv:vb≠rb) (hvb:vb<w.heap.size) (hA:∀ ad,A=some ad→ad.block≠vb) :
 G12 w rb vb z A n c b t kind V T ks vs kv lv xs (s+2) (wr.setCell ⟨vb,3,none⟩ v):=by
 obtain ⟨⟨T',e1,e2,h1⟩,h2,h3,h4,h5,h6,h7⟩:=h;have hf:Fr (fun j=>j=vb) wr (wr.setCell ⟨vb,3,none⟩ v):=Fr.of_grown (gby_set wr vb 3 v) (fun k e=>by injection e with e;exact e.symm);exact ⟨⟨T',fun h=>by omega,fun _=>e2 (by omega),h1.fr hf (fun e=>hrv e.symm) hA⟩,h2.tr (hf.up (fun j e=>.inr e)),Nat.le_trans h3 hf.size,row_fr h4 hf (fun g hg' e=>by have:=own_block h4 g hg';omega),VRdL.keep (fun j hj=>hf.block j (nLl hj.2.1 h3) (fun e=>by have:=hj.1;omega)) (fun _ h=>h) _ _ h5,fun h=>by omega,fun h=>by omega⟩
def T12 (w:World) (vb z m kind:Nat) (t:L8) (kv:Value) (s s':Nat) (a:Act) (wr w':World):Prop:=
 ((s,s')=(0,1) ∧ ∃ rb,rb<w.heap.size∧wr.grownBy w' (some rb))∨(s,s')=(1,2) ∨
 (((s,s')=(2,3)∨(s,s')=(4,5)) ∧ ∃ g c x0 x1 x2 x3,a.eval (.tmp 58)=.slice (some ⟨g,0,none⟩) (m+1) c∧a.eval (.tmp 55)=.agg #[x0,x1,x2,x3]∧w'=set4o wr g (m * 4) x0 x1 x2 x3) ∨
 (((s,s')=(2,4)∨(s,s')=(3,5))∧w'=wr.setCell ⟨vb,3,none⟩ (a.eval (.tmp 58))∧Blk w' vb TV #[.int .i64 (kind:Int),.string ⟨t.toArray⟩,kv,a.eval (.tmp 58)])
theorem R58.keep {m s':Nat} {a:Act} {v:Value} (h:R58 w vb z kind t V m kv lv xs s a v wr) (hs:s≠0∧s≠1) (hT:T12 w vb z m kind t kv s s' a wr w') (hv:v=a.eval (.tmp 58)) (hvb:vb<w.heap.size) (hz:w.heap.size≤z):R58 w vb z kind t V m kv lv xs s' a v w':=by
 obtain ⟨g,c,J,T',cs,rfl,h2,h3,h4,h5,⟨ys,h6,h7,h8⟩,h9⟩:=h;rcases hT with ⟨e,_⟩|e|⟨e,g',c',x0,x1,x2,x3,e1,e2,rfl⟩|⟨e,rfl,hB⟩
 ·simp at e;omega
 ·simp at e;omega
 ·rw [← hv] at e1;injection e1 with e1 _ e3;injection e1 with e1;injection e1 with e1;subst e1;rw [h3] at e2;injection e2 with e2;obtain rfl:cs=[x0,x1,x2,x3]:=by have:=congrArg Array.toList e2;simpa using this
  obtain ⟨r1,r2⟩:=set4o_row (a:=x0) (b:=x1) (c:=x2) (d:=x3) h7 h6;have hk:w.heap.size≤g:=own_block h7 g rfl;have hf:Fr (fun j=>j=g) wr (set4o wr g (m * 4) x0 x1 x2 x3):=Fr.of_grown r2 (fun k e=>by injection e with e;exact e.symm);refine ⟨g,c,J,T',_,rfl,h2,h3,h4,VRd.keep (F:=fun j=>(z≤j∧j≠g)∧j<wr.heap.size) (fun j hj=>hf.block j hj.2 hj.1.2) (fun j hj=>hj.1) _ _ (h5.lt),⟨_,rfl,r1,fun _=>rfl⟩,fun h=>hf.blk (h9 (by simp at e;omega)) (by omega)⟩
 ·have hf:Fr (fun j=>j=vb) wr (wr.setCell ⟨vb,3,none⟩ (a.eval (.tmp 58))):=Fr.of_grown (gby_set wr vb 3 _) (fun k e=>by injection e with e;exact e.symm);refine ⟨g,c,J,T',cs,rfl,h2,h3,h4,VRd.keep (F:=fun j=>(z≤j∧j≠g)∧j<wr.heap.size) (fun j hj=>hf.block j hj.2 (fun e=>by have:=hj.1.1;omega)) (fun j hj=>hj.1) _ _ (h5.lt),⟨ys,h6,row_fr h7 hf (fun g' hg' e=>by have:=own_block h7 g' hg';omega),fun h=>h8 (by simp at e;omega)⟩,fun h=>?_⟩;rw [hv];exact hB
theorem R58.put {m d:Nat} {a:Act} {u v:Value} (h:R58 w vb z kind t V m kv lv xs s a v wr) (hd:d ∉ [55]):R58 w vb z kind t V m kv lv xs s (a.put (some d) u) v wr:=by
 obtain ⟨g,c,J,T',cs,h1,h2,h3,h4⟩:=h;exact ⟨g,c,J,T',cs,h1,h2,(act_ne (by simpa using fun e=>hd (by simp [e]))).trans h3,h4⟩
theorem T12.one {m s':Nat} {a:Act} (h:T12 w vb z m kind t kv s s' a wr w') (hs:s'≤1):s=0 ∧ ∃ rb,rb<w.heap.size∧wr.grownBy w' (some rb):=by
 rcases h with ⟨e,h⟩|e|⟨e,h⟩|⟨e,h⟩
 ·exact ⟨by simp at e;exact e.1,h⟩
 ·simp at e;omega
 ·simp at e;omega
 ·simp at e;omega
theorem R58.made {J:JV} {cs ys:List Value} {a:Act} {v:Value} (hG:G12 w rb vb z A n c b t kind V T ks vs kv lv xs 1 wr) (hV:V=.ok (J,T')) (h55:a.eval (.tmp 55)=.agg cs.toArray) (hv:VRd wr (fun j=>z≤j) J cs) (hg:wr.grownBy w' lv.ownBlock)
 (ho:w'.ownsRow w.heap.size TV 4 v (vs.length+1) (xs++ys)) (hl:ys.length=4) (hoo:v.ownBlock=lv.ownBlock∨v.ownBlock=some wr.heap.size) (hlz:∀ g,lv.ownBlock=some g→g<z):R58 w vb z kind t V vs.length kv lv xs 2 a v w':=by
 obtain ⟨_,_,h3,_⟩:=hG;rcases ho.2 with ⟨_,h0⟩|⟨g,cap,cur,rfl,_⟩
 ·omega
 ·have hoo':lv.ownBlock=some g∨wr.heap.size=g:=by
   rcases hoo with e|e
   ·exact .inl e.symm
   ·exact .inr (by simpa [Value.ownBlock] using e.symm)
  refine ⟨g,cap,J,T',cs,rfl,hV,h55,hoo'.imp id (fun e=>by omega),VRd.keep (F:=fun j=>z≤j∧j<wr.heap.size) (fun j hj=>hg.block j hj.2 (fun e=>by have:=hlz j e.symm;omega)) (fun j hj=>⟨hj.1,fun e=>?_⟩) _ _ hv.lt,⟨ys,hl,ho,fun h=>by omega⟩,fun h=>absurd h (by decide)⟩;subst e;rcases hoo' with e|e
  ·have:=hlz j e;omega
  ·omega
theorem R58.below {m:Nat} {a:Act} {v:Value} (h:R58 w vb z kind t V m kv lv xs s a v wr) (hb:Below wr.heap.size wr w'):R58 w vb z kind t V m kv lv xs s a v w':=by
 obtain ⟨g,c,J,T',cs,rfl,h2,h3,h4,h5,⟨ys,h6,h7,h8⟩,h9⟩:=h;exact ⟨g,c,J,T',cs,rfl,h2,h3,h4,VRd.keep (F:=fun j=>(z≤j∧j≠g)∧j<wr.heap.size) (fun j hj=>hb.block j hj.2) (fun j hj=>hj.1) _ _ (h5.lt),⟨ys,h6,own_later h7 hb,h8⟩,fun h=>(h9 h).below hb (h9 h).lt⟩
theorem G12.ms {a:Act} {v:Value} (h:G12 w rb vb z A n c b t kind V T ks vs kv lv xs 5 wr) (hr:R58 w vb z kind t V vs.length kv lv xs 5 a v wr) (hwz:w.heap.size≤z) (hkz:∀ g,kv.ownBlock=some g→g<z) :
 ∃ J T' cs,V=.ok (J,T')∧MS w wr rb vb wr.heap.size A n c b t kind T' ks (vs++[J]) kv v (xs++cs):=by
 obtain ⟨⟨T1,e1,e2,h1⟩,h2,h3,h4,h5,h6,h7⟩:=h;obtain ⟨g,cap,J,T',cs,rfl,r2,r3,r4,r5,⟨ys,r6,r7,r8⟩,r9⟩:=hr;obtain rfl:=r8 (by decide);obtain ⟨J1,eJ⟩:=e2 (by decide);rw [r2] at eJ;injection eJ with eJ;injection eJ with eJ1 eJ2;subst eJ2;refine ⟨J,T',ys,r2,h1,h2,Nat.le_refl _,r9 (by decide),h4,by rw [List.length_append];exact r7,VRdL.snoc (VRd.keep (fun _ _=>rfl) (fun j hj=>?_) _ _ r5.lt) _ _ (VRdL.keep (fun _ _=>rfl) (fun j hj=>?_) _ _ h5)⟩
 ·exact ⟨by have:=hj.1.1;omega,hj.2,fun e=>by have:=hkz j e;have:=hj.1.1;omega,fun e=>hj.1.2 (by simpa [Value.ownBlock] using e.symm)⟩
 ·refine ⟨hj.1,nLl hj.2.1 h3,hj.2.2.1,fun e=>?_⟩;have e':g=j:=by simpa [Value.ownBlock] using e
  subst e';rcases r4 with h|h
  ·exact hj.2.2.2 h
  ·have:=hj.2.1;omega
end
theorem own_slice2 {w:World} {base n k:Nat} {e:TypeId} {v:Value} {xs:List Value} (h:w.ownsRow base e k v n xs):∃ A c,v=.slice A n c∧(n≤c∧c≤maxLen):=by
 rcases h.2 with ⟨rfl,h0⟩|⟨g,cap,cur,rfl,_,_,hc,hm,_⟩
 ·exact ⟨none,0,by rw [h0],by omega,Nat.zero_le _⟩
 ·exact ⟨_,_,rfl,hc,hm⟩
theorem MS.ends {w wr:World} {rb vb z n c kind:Nat} {A:Option Addr} {b t:L8} {T:Tk} {ks:List L8} {vs:List JV} {kv lv:Value} {xs:List Value} (h:MS w wr rb vb z A n c b t kind T ks vs kv lv xs) :
 VRd wr (fun j=>w.heap.size≤j) (.mk kind t ks vs) [.int .i64 (kind:Int),.string ⟨t.toArray⟩,kv,lv]:=by
 obtain ⟨A1,c1,rfl,hc1⟩:=own_slice2 h.ok;obtain ⟨A2,c2,rfl,hc2⟩:=own_slice2 h.ol;unfold VRd;refine ⟨A1,_,c1,A2,_,c2,xs,rfl,rfl,hc1,?_,rfl,hc2,?_,VRdL.keep (fun _ _=>rfl) (fun j hj=>hj.1) _ _ h.vr⟩
 ·refine ⟨h.ok.1,fun h0=>?_⟩;obtain ⟨ad,e,hb,hcell⟩:=(Reads.of_own h.ok).2 h0;exact ⟨ad,e,own_block h.ok _ (by rw [e];rfl),hcell⟩
 ·refine ⟨h.ol.1,fun h0=>?_⟩;obtain ⟨ad,e,hb,hcell⟩:=(Reads.of_own h.ol).2 h0;exact ⟨ad,e,own_block h.ol _ (by rw [e];rfl),hcell⟩
theorem reads_blk {w:World} {g k n:Nat} {t:TypeId} {cs:Array Value} {xs:List Value} (h:Blk w g t cs) (hx:xs=cs.toList) (hn:xs.length=n * k):Reads w w.heap.size k (some ⟨g,0,none⟩) n xs:=by
 refine ⟨hn,fun _=>⟨_,rfl,h.lt,fun j u hu=>?_⟩⟩;have e:=h.cell j;rw [hx] at hu;rw [show (⟨g,0,none⟩:Addr).add j=⟨g,j,none⟩ by simp [Addr.add];exact fun h=>h.symm,e];simpa using hu
set_option maxRecDepth 100000 in
set_option maxHeartbeats 4000000 in
theorem many_step (f:Nat) (hV:∀ g,g<f→ValC g):ManyC (f+1):=by
 intro w rb vb A n c b T kind shut dp t dpi hdpi h hT hr2 hv2 hvr hvA hB hdp hsh hk0 hin;have H:=hide h;have HT:=hide hT;have HV:=hide hV;have HI:=hide hin;have HBv:=hide hB;have HVA:=hide hvA;have hrw:=h.rd.blk.lt;have hvw:=hB.lt;have HAw:=hide h.hA;have hnn:=h.rd.hn;have kr:=h.rd.blk.cell;have fr:=h.rd.blk.frozen;have HTw:=hide hT;clear h hT hV hin hB hvA;by_cases h32:32<dp
 ·have d32:decide ((32:Int)<dpi)=true:=by simp;omega
  have HE:=hide (show manyF (f+1) kind shut dp t T=.bad T.ts 12 by unfold manyF;rw [if_pos h32])
  go_enter Tryz.func79,Tryz.ntmps79
  go_wp2_with (go_at_call 35;(refine (fail_tk 12 H.out).mono ?_);rintro e w1 ⟨rfl,hg⟩)
  exact ⟨rfl,.inr ⟨T.ts,12,HE.out,rfl,Fr.of_grown hg (fun k e=>.inl (by injection e with e;exact e.symm))⟩⟩
 ·have d32:decide ((32:Int)<dpi)=false:=by simp;omega
  have HE:=hide (show manyF (f+1) kind shut dp t T=(nextS T.s).bind fun T1=>loopF f kind shut dp T1 true t [] [] by unfold manyF;rw [if_neg h32]);obtain ⟨R,hR⟩:∃ R,manyF (f+1) kind shut dp t T=R:=⟨_,rfl⟩;rw [hR] at HE HI ⊢;clear hR
  go_enter Tryz.func79,Tryz.ntmps79
  go_wp2_with (go_at_call 33;(refine (next_tk H.out HT.out hr2).mono ?_);rintro e w1 (⟨T1,h1,rfl,h2,h3⟩|⟨p,h1,rfl,h3⟩);rotate_left;(exact ⟨rfl,.inr ⟨p,11,by rw [HE.out,h1];rfl,rfl,Fr.of_grown h3 (fun k e=>.inl (by injection e with e;exact e.symm))⟩⟩);have HL:=hide (show loopF f kind shut dp T1 true t [] []=R by rw [HE.out,h1];rfl);have HM:=hide (show MS w w1 rb vb w1.heap.size A n c b t kind T1 [] [] (.slice none 0 0) (.slice none 0 0) [] from ⟨h2,Fr.of_grown h3 (fun k e=>.inl (by injection e with e;exact e.symm)),Nat.le_refl _,blk_gb HBv.out h3 hvr,World.ownsRow_nil _ _ _ _,World.ownsRow_nil _ _ _ _,by unfold VRdL;rfl⟩);have HWn:=nextS_W h1;have HTs:=(H.out.hs.length_le);have HBl:=H.out.rd.len;clear h1 h2 h3 kr fr)
  go_loopw [8] (fun iv wr=>∃ (first:Bool) (T:Tk) (ks:List L8) (vs:List JV) (kv lv:Value) (xs:List Value) (z g:Nat),iv=.bool first∧Hid (MS w wr rb vb z A n c b t kind T ks vs kv lv xs)∧Hid (loopF g kind shut dp T first t ks vs=R)∧g≤f∧vs.length+T.W≤n∧ks.length≤vs.length) (fun _ wr=>mW n rb wr)
  case atStart=>exact ⟨true,T1,[],[],_,_,[],_,f,rfl,HM,HL,Nat.le_refl _,by simp;omega,Nat.le_refl _⟩
  case round=>
   clear HM HL HE H HT HWn HTs HBl;obtain ⟨first,T2,ks,vs,kv,lv,xs,z,g,rfl,HM,HL,hgf,hW,hkl⟩:=hrel;have HWr:=hide (mW_of HM.out.tk);have kr:=HM.out.tk.rd.blk.cell;have fr:=HM.out.tk.rd.blk.frozen;have zr:=HM.out.tk.rd.blk.lt;cases g with
   | zero=>exact (HI.out [] (HL.out.symm.trans (by simp [loopF]))).elim
   | succ g=>
     by_cases hks:T2.k=shut
     ·have hkk:decide ((T2.k:Int)=(shut:Int))=true:=by simp;omega
      have HE:=hide (show R=(nextS T2.s).bind fun T'=>.ok (.mk kind t ks vs,T') by rw [← HL.out];unfold loopF;rw [if_pos hks]);clear HL;have HQ:=hide (show Tabs wr from HTw.out.fr HM.out.fr (fun j hj=>by rcases hj with e|e <;> omega));go_wp2_with (go_at_call 33;(refine (next_tk HM.out.tk HQ.out hr2).mono ?_);rintro e w5 (⟨T',h1,rfl,h2,h3⟩|⟨p,h1,rfl,h3⟩);rotate_left;(exact ⟨rfl,.inr ⟨p,11,by rw [HE.out,h1];rfl,rfl,HM.out.fr.tr (Fr.of_grown h3 (fun k e=>.inl (by injection e with e;exact e.symm)))⟩⟩);have HM5:=hide (HM.out.call h3 h2 hrw hvr);have HE5:=hide (show R=.ok (.mk kind t ks vs,T') by rw [HE.out,h1];rfl);clear h1 h2 h3)
      exact ⟨rfl,.tuple #[],results_none rfl _ _ _,.inl ⟨_,T',_,HE5.out,rfl,HM5.out.blk,HM5.out.ends,HM5.out.tk,HM5.out.fr⟩⟩
     ·have hkk:decide ((T2.k:Int)=(shut:Int))=false:=by simp;omega
      have HE:=hide (show R=(if first then .ok T2 else wantS 44 T2).bind fun T2=>if kind=7 then (wantS 5 T2).bind fun T3=>(wantS 58 T3).bind fun T4=>(valF g dp T4).bind fun r=>loopF g kind shut dp r.2 false t (ks++[T2.t]) (vs++[r.1]) else (valF g dp T2).bind fun r=>loopF g kind shut dp r.2 false t ks (vs++[r.1]) by rw [← HL.out];rw [loopF,if_neg hks]);clear HL
      go_upto_if 23 with fail
      go_cut [] from 15 to 61 (fun W=>∃ T5,Hid (MS w W rb vb z A n c b t kind T5 ks vs kv lv xs)∧T5.W≤T2.W∧Hid (R=(if kind=7 then (wantS 5 T5).bind fun T3=>(wantS 58 T3).bind fun T4=>(valF g dp T4).bind fun r=>loopF g kind shut dp r.2 false t (ks++[T5.t]) (vs++[r.1]) else (valF g dp T5).bind fun r=>loopF g kind shut dp r.2 false t ks (vs++[r.1]))))
      case first=>
       clear kr fr zr;cases first
       ·have HQ:=hide (show Tabs wr from HTw.out.fr HM.out.fr (fun j hj=>by rcases hj with e|e <;> omega));go_wp2_with (go_at_call 131;(refine (want_tk 44 HM.out.tk HQ.out hr2).mono ?_);rintro e w5 (⟨T',h1,rfl,h2,h3⟩|⟨p,h1,rfl,h3⟩);rotate_left;(exact ⟨rfl,.inr ⟨p,11,by rw [HE.out,if_neg (by decide),h1];rfl,rfl,HM.out.fr.tr (Fr.of_grown h3 (fun k e=>.inl (by injection e with e;exact e.symm)))⟩⟩);have HM5:=hide (HM.out.call h3 h2 hrw hvr);have hW5:=Nat.le_of_lt (wantS_W (by decide) h1);(rw [if_neg (by decide),h1] at HE);have HE5:=hide HE.out;clear h1 h2 h3)
        go_meet
        case rel=>exact ⟨T',HM5,hW5,HE5⟩
       ·rw [if_pos rfl] at HE;go_wp2_with fail
        go_meet
        case rel=>exact ⟨T2,HM,Nat.le_refl _,hide HE.out⟩
      case rest=>
       clear kr fr zr HE HM;obtain ⟨T5,HM,hW5,HE⟩:=hcut;obtain ⟨w5,hwc⟩:∃ x,x=wc:=⟨_,rfl⟩;subst hwc;have kv5:=HM.out.blk.cell;have fv5:=HM.out.blk.frozen;have zv5:=HM.out.blk.lt
       go_upto_if 30 with fail
       clear kv5 fv5 zv5
       go_cut [] from 15 to 61 (fun W=>∃ T7 ks' kv',Hid (MS w W rb vb z A n c b t kind T7 ks' vs kv' lv xs)∧T7.W≤T2.W∧ks'.length≤vs.length+1∧Hid (R=(valF g dp T7).bind fun r=>loopF g kind shut dp r.2 false t ks' (vs++[r.1])))
       case first=>
        by_cases h7:kind=7
        ·rw [if_pos h7] at HE;have h7i:((kind:Int) == 7)=true:=by simp;omega
         obtain ⟨i0,hi0,hz0,hz1,hz2⟩:=st_inf;have HG0:=hide (G9.of HM.out);have hkn:ks.length+1≤262145:=by omega
         clear HM;go_upto_region 9 with fail
         refine wp_region_dag (by kernel_rfl) (by kernel_rfl) 64 2
          [⟨some 31,[0,1,2],[],[],[],[],fun _ _ v _=>v=.pointer (some ⟨vb,0,none⟩)⟩,
           ⟨some 32,[0,1,2],[],[],[],[],fun _ _ v _=>v=.pointer (some ⟨vb,0,none⟩)⟩,
           ⟨some 33,[0,1,2],[],[],[1],[],fun _ _ v _=>v=.pointer (some ⟨vb,0,none⟩)⟩,
           ⟨some 34,[0,1,2],[],[],[2],[],fun _ _ v _=>v=.pointer (some ⟨vb,2,none⟩)⟩,
           ⟨some 35,[0],[],[],[3],[],fun _ _ v _=>v=kv⟩,
           ⟨some 36,[0,1,2],[],[],[],[],fun _ _ v _=>v=.pointer (some ⟨rb,0,none⟩)⟩,
           ⟨some 37,[0,1,2],[],[],[5],[],fun _ _ v _=>v=.pointer (some ⟨rb,0,none⟩)⟩,
           ⟨some 38,[0,1,2],[],[],[6],[],fun _ _ v _=>v=.pointer (some ⟨rb,2,none⟩)⟩,
           ⟨some 39,[0,1,2],[],[],[7],[],fun _ _ v _=>v=.pointer (some ⟨rb,4,none⟩)⟩,
           ⟨some 40,[0],[],[],[8],[],fun _ _ v _=>v=.string ⟨T5.t.toArray⟩⟩,
           ⟨some 41,[0],[],[],[9],[],fun st a v w'=>st=0 → ∃ g,v=.slice (some ⟨g,0,none⟩) 1 1∧Blk w' g TSt #[.string ⟨T5.t.toArray⟩]⟩,
           ⟨some 42,[0],[(0,1)],[1,2],[4,10],[],fun st a v w'=>st=1→w'.ownsRow w.heap.size TSt 1 v (ks.length+1) (sc ks++[bstr T5.t])∧(v.ownBlock=kv.ownBlock ∨ ∃ g,v.ownBlock=some g∧z≤g)⟩,
           ⟨some 43,[0,1,2],[],[],[0],[],fun _ _ v _=>v=.pointer (some ⟨vb,0,none⟩)⟩,
           ⟨some 44,[0,1,2],[],[],[12],[],fun _ _ v _=>v=.pointer (some ⟨vb,2,none⟩)⟩,
           ⟨none,[1],[(1,2)],[2],[11,13],[],fun _ _ _ _=>True⟩] (G9 w rb vb z A n c b t kind T5 ks vs kv lv xs) (fun s s' _ _ _=>s<s') (fun _ w w'=>Below w.heap.size w w') ?gu ?ru ?put [31,32,33,34,35,36,37,38,39,40,41,42,43,44] rfl (by kernel_rfl) rfl ?g0 ?keep ?steps ?fin
         case ru=>
          intro e he s a v w w' hu hv;simp only [List.mem_cons,List.not_mem_nil,or_false] at he;rcases he with rfl|rfl|rfl|rfl|rfl|rfl|rfl|rfl|rfl|rfl|rfl|rfl|rfl|rfl|rfl
          all_goals first|exact hv|(intro h0;obtain ⟨g,e,hb⟩:=hv h0;exact ⟨g,e,hb.below hu hb.lt⟩)|(intro h0;obtain ⟨h1,h2⟩:=hv h0;exact ⟨own_later h1 hu,h2⟩)
         case put=>
          intro e he s a d u v w hnd hv;simp only [List.mem_cons,List.not_mem_nil,or_false] at he;rcases he with rfl|rfl|rfl|rfl|rfl|rfl|rfl|rfl|rfl|rfl|rfl|rfl|rfl|rfl|rfl
          all_goals first|exact hv
         case keep=>
          intro e he s s' a v w w' hsl hm ht hv;simp only [List.mem_cons,List.not_mem_nil,or_false] at he;rcases he with rfl|rfl|rfl|rfl|rfl|rfl|rfl|rfl|rfl|rfl|rfl|rfl|rfl|rfl|rfl
          all_goals first|exact hv|(intro h3;omega)|(intro h3;have:=hm rfl;simp at this;omega)
         case steps=>
          refine ⟨?_,?_,?_,?_,?_,?_,?_,?_,?_,?_,?_,?_,?_,?_,?_,trivial⟩
          ·intro st hst ac w3 hg hG hd K hK;dsimp only at hst hG hK;exact op_move _ rfl (hK _ _ bR (hg.kp 1 (by simp)))
          ·intro st hst ac w3 hg hG hd K hK;dsimp only at hst hG hK;exact op_move _ rfl (hK _ _ bR (hg.kp 1 (by simp)))
          ·intro st hst ac w3 hg hG hd K hK;dsimp only at hst hG hK;have f1:=hd 1 (by simp) _ rfl _ rfl;(try simp [Act.eval] at f1);go_simp;exact hK _ _ bR rfl
          ·intro st hst ac w3 hg hG hd K hK;dsimp only at hst hG hK;have f2:=hd 2 (by simp) _ rfl _ rfl;(try simp [Act.eval] at f2);go_simp;exact hK _ _ bR rfl
          ·intro st hst ac w3 hg hG hd K hK;dsimp only at hst hG hK;simp only [List.mem_cons,List.not_mem_nil,or_false] at hst;subst hst;have kk:=(hG.2.2.2.2.2.1 (by decide)).cell 2;have zz:=(hG.2.2.2.2.2.1 (by decide)).lt;simp at kk;clear hG;have f3:=hd 3 (by simp) _ rfl _ rfl;(try simp [Act.eval] at f3);go_simp;exact hK _ _ bR rfl
          ·intro st hst ac w3 hg hG hd K hK;dsimp only at hst hG hK;exact op_move _ rfl (hK _ _ bR (hg.kp 0 (by simp)))
          ·intro st hst ac w3 hg hG hd K hK;dsimp only at hst hG hK;have f5:=hd 5 (by simp) _ rfl _ rfl;(try simp [Act.eval] at f5);go_simp;exact hK _ _ bR rfl
          ·intro st hst ac w3 hg hG hd K hK;dsimp only at hst hG hK;have f6:=hd 6 (by simp) _ rfl _ rfl;(try simp [Act.eval] at f6);go_simp;exact hK _ _ bR rfl
          ·intro st hst ac w3 hg hG hd K hK;dsimp only at hst hG hK;have f7:=hd 7 (by simp) _ rfl _ rfl;(try simp [Act.eval] at f7);go_simp;exact hK _ _ bR rfl
          ·intro st hst ac w3 hg hG hd K hK;dsimp only at hst hG hK;have kk:=hG.1.rd.blk.cell 4;have zz:=hG.1.rd.blk.lt;simp at kk;clear hG;have f8:=hd 8 (by simp) _ rfl _ rfl;(try simp [Act.eval] at f8);go_simp;exact hK _ _ bR rfl
          ·intro st hst ac w3 hg hG hd K hK;dsimp only at hst hG hK;have f9:=hd 9 (by simp) _ rfl _ rfl;simp [Act.eval] at f9;go_simp;exact hK _ _ (al_below w3 _) (fun _=>⟨_,rfl,Blk.new _ _ _⟩)
          ·intro st st' hmv ac w3 hg hG hd K hK;simp only [List.mem_cons,Prod.mk.injEq,List.not_mem_nil,or_false] at hmv;obtain ⟨rfl,rfl⟩:=hmv;dsimp only at hG hK;have f4:=hd 4 (by simp) _ rfl _ rfl;obtain ⟨gl,f10,hbl⟩:=hd 10 (by simp) _ rfl _ rfl rfl;refine wp_append_any w3 (.tmp 35) (.tmp 41) 36 rfl w.heap.size TSt i0 _ 1 16 Tryz.underlying36 hi0 hz0 hz1 hz2 rfl (by omega) kv ks.length (sc ks) f4 (hG.2.2.2.2.2.2.1 rfl) w3.heap.size (some ⟨gl,0,none⟩) 1 1 [bstr T5.t] f10 (reads_blk hbl rfl rfl) (by intro y hy;simp at hy;subst hy;rfl) (by unfold maxLen;omega) (by omega) hG.2.1.size ?_;intro v' w' ho hgb hoo;exact hK _ _ (by decide) (hG.append hgb hrw hvw HAw.out) (fun _=>⟨ho,hoo.imp id (fun e=>⟨_,e,hG.2.2.1⟩)⟩)
          ·intro st hst ac w3 hg hG hd K hK;dsimp only at hst hG hK;have f0:=hd 0 (by simp) _ rfl _ rfl;(try simp [Act.eval] at f0);go_simp;exact hK _ _ bR rfl
          ·intro st hst ac w3 hg hG hd K hK;dsimp only at hst hG hK;have f12:=hd 12 (by simp) _ rfl _ rfl;(try simp [Act.eval] at f12);go_simp;exact hK _ _ bR rfl
          ·intro st st' hmv ac w3 hg hG hd K hK;simp only [List.mem_cons,Prod.mk.injEq,List.not_mem_nil,or_false] at hmv;obtain ⟨rfl,rfl⟩:=hmv;dsimp only at hG hK;have f13:=hd 13 (by simp) _ rfl _ rfl;obtain ⟨ho,hob⟩:=hd 11 (by simp) _ rfl _ rfl rfl;obtain ⟨v8,hv8⟩:∃ v8,ac.eval (.tmp 42)=v8:=⟨_,rfl⟩;rw [hv8] at ho hob;obtain ⟨A8,c8,rfl,hc8⟩:=own_slice ho;have hB:=hG.2.2.2.2.2.1 (by decide);have kk:=hB.cell;have ff:=hB.frozen;have zz:=hB.lt;have HG:=hide hG;have HO:=hide ho;have HOB:=hide hob;clear hG ho hob hB;simp [Act.eval] at f13 hv8;go_simp;exact hK undef _ (by decide) (HG.out.store _ HO.out HOB.out hvr hvw HVA.out) trivial
         case gu=>intro s w1 w2 hG hu;exact hG.below hu
         case g0=>exact HG0.out.below (bR.drew)
         case fin=>
          intro f9 w6 hG hall;clear hall HG0;obtain ⟨kv6,hM6⟩:=hG.ms;have HM6:=hide hM6;clear hG hM6;simp only [fillF,List.map_cons,List.map_nil,List.foldl_cons,List.foldl_nil,Act.put,List.setIfInBounds_toArray,List.set_cons_zero,List.set_cons_succ];have HQ6:=hide (show Tabs w6 from HTw.out.fr HM6.out.fr (fun j hj=>by rcases hj with e|e <;> omega));go_wp2_with (first|(go_at_call 131;(refine (want_tk 58 HM7.out.tk HQ7.out hr2).mono ?_);rintro e w8 (⟨T8,h1,rfl,h2,h3⟩|⟨p,h1,rfl,h3⟩);rotate_left;(exact ⟨rfl,.inr ⟨p,11,by rw [HE7.out,h1];rfl,rfl,HM7.out.fr.tr (Fr.of_grown h3 (fun k e=>.inl (by injection e with e;exact e.symm)))⟩⟩);have HM8:=hide (HM7.out.call h3 h2 hrw hvr);have hW8:=Nat.le_of_lt (wantS_W (by decide) h1);have HE8:=hide (show R=(valF g dp T8).bind fun r=>loopF g kind shut dp r.2 false t (ks++[T5.t]) (vs++[r.1]) by rw [HE7.out,h1];rfl);clear h1 h2 h3)|(go_at_call 131;(refine (want_tk 5 HM6.out.tk HQ6.out hr2).mono ?_);rintro e w7 (⟨T7,h1,rfl,h2,h3⟩|⟨p,h1,rfl,h3⟩);rotate_left;(exact ⟨rfl,.inr ⟨p,11,by rw [HE.out,h1];rfl,rfl,HM6.out.fr.tr (Fr.of_grown h3 (fun k e=>.inl (by injection e with e;exact e.symm)))⟩⟩);have HM7:=hide (HM6.out.call h3 h2 hrw hvr);have hW7:=Nat.le_of_lt (wantS_W (by decide) h1);have HE7:=hide (show R=(wantS 58 T7).bind fun T4=>(valF g dp T4).bind fun r=>loopF g kind shut dp r.2 false t (ks++[T5.t]) (vs++[r.1]) by rw [HE.out,h1];rfl);have HQ7:=hide (HQ6.out.grown h3 hr2);clear h1 h2 h3))
          go_meet
          case rel=>exact ⟨T8,ks++[T5.t],kv6,HM8,by omega,by rw [List.length_append];simp;omega,HE8⟩
        ·rw [if_neg h7] at HE;have h7i:((kind:Int) == 7)=false:=by simp;omega
         go_wp2_with fail
         go_meet
         case rel=>exact ⟨T5,ks,kv,HM,hW5,by omega,HE⟩
       case rest=>
        clear HM HE;obtain ⟨T7,ks7,kv7,HM7,hW7,hk7,HE7⟩:=hcut;obtain ⟨w7,hwc⟩:∃ x,x=wc:=⟨_,rfl⟩;subst hwc;have HM8:=hide HM7.out.full;have hlz:=own_lt HM8.out.ol;have hkz:=own_lt HM8.out.ok;have hwz:=HM8.out.fr.size;obtain ⟨lA,lc,hlv,hlc⟩:=own_slice HM8.out.ol;have HLV:=hide hlv;clear hlv;obtain ⟨i0,hi0,hz0,hz1,hz2⟩:=tv_inf;have HG0:=hide (G12.of (V:=valF g dp T7) HM8.out);have HIV:=hide (show (valF g dp T7).In by have hi:=HI.out;rw [HE7.out] at hi;exact hi.of_bind);have hml:vs.length≤262144:=by omega
        clear HM7 HM8;go_upto_region 12 with fail
        refine wp_region_dag (by kernel_rfl) (by kernel_rfl) 64 5
         [⟨some 49,[0,1,2,3,4,5],[],[],[],[],fun _ _ v _=>v=.pointer (some ⟨vb,0,none⟩)⟩,
          ⟨some 50,[0,1,2,3,4,5],[],[],[0],[],fun _ _ v _=>v=.pointer (some ⟨vb,0,none⟩)⟩,
          ⟨some 51,[0,1,2,3,4,5],[],[],[1],[],fun _ _ v _=>v=.pointer (some ⟨vb,3,none⟩)⟩,
          ⟨some 52,[0,1],[],[],[2],[],fun _ _ v _=>v=lv⟩,
          ⟨some 53,[0,1,2,3,4,5],[],[],[],[],fun _ _ v _=>v=.pointer (some ⟨rb,0,none⟩)⟩,
          ⟨some 54,[0,1,2,3,4,5],[],[],[],[],fun _ _ v _=>v=.int .i64 (dp:Int)⟩,
          ⟨some 55,[0],[(0,1)],[1,2,3,4,5],[4,5],[],fun st a v w'=>st=1 → ∃ J T' cs,valF g dp T7=.ok (J,T')∧v=.agg cs.toArray∧VRd w' (fun j=>w7.heap.size≤j) J cs⟩,
          ⟨some 56,[0,1,2,3,4,5],[],[],[3],[],fun _ _ v _=>v=.int .i64 (vs.length:Int)⟩,
          ⟨some 57,[0,1],[],[],[],[],fun st a v w'=>st≤1 → ∃ g,v=.slice (some ⟨g,0,none⟩) 1 1∧w7.heap.size≤g∧Blk w' g TV #[.int .i64 0,.string ⟨#[]⟩,.slice none 0 0,.slice none 0 0]⟩,
          ⟨some 58,[1],[(1,2)],[2,3,4,5],[3,6,8],[55],R58 w vb w7.heap.size kind t (valF g dp T7) vs.length kv7 lv xs⟩,
          ⟨some 59,[2,4],[],[],[7,9],[58],fun st a v w'=>∃ g c,a.eval (.tmp 58)=.slice (some ⟨g,0,none⟩) (vs.length+1) c∧v=.pointer (some ⟨g,vs.length * 4,none⟩)⟩,
          ⟨none,[2,4],[(2,3),(4,5)],[3,5],[9,10],[],fun _ _ _ _=>True⟩,
          ⟨some 60,[0,1,2,3,4,5],[],[],[0],[],fun _ _ v _=>v=.pointer (some ⟨vb,0,none⟩)⟩,
          ⟨some 61,[0,1,2,3,4,5],[],[],[12],[],fun _ _ v _=>v=.pointer (some ⟨vb,3,none⟩)⟩,
          ⟨none,[2,3],[(2,4),(3,5)],[4,5],[9,13],[],fun _ _ _ _=>True⟩] (G12 w rb vb w7.heap.size A n c b t kind (valF g dp T7) T7 ks7 vs kv7 lv xs) (T12 w vb w7.heap.size vs.length kind t kv7) (fun _ w w'=>Below w.heap.size w w') ?gu ?ru ?put [49,50,51,52,53,54,55,56,57,58,59,60,61] rfl (by kernel_rfl) rfl ?g0 ?keep ?steps ?fin
        case ru=>
         intro e he s a v w w' hu hv;simp only [List.mem_cons,List.not_mem_nil,or_false] at he;rcases he with rfl|rfl|rfl|rfl|rfl|rfl|rfl|rfl|rfl|rfl|rfl|rfl|rfl|rfl|rfl
         all_goals first|exact hv|(intro h0;obtain ⟨J,T',cs,h1,h2,h3⟩:=hv h0;exact ⟨J,T',cs,h1,h2,VRd.keep (F:=fun j=>w7.heap.size≤j∧j<w.heap.size) (fun j hj=>hu.block j hj.2) (fun j hj=>hj.1) _ _ h3.lt⟩)|(intro h0;obtain ⟨g,e,hz,hb⟩:=hv h0;exact ⟨g,e,hz,hb.below hu hb.lt⟩)|(exact hv.below hu)
        case put=>
         intro e he s a d u v w hnd hv;simp only [List.mem_cons,List.not_mem_nil,or_false] at he;rcases he with rfl|rfl|rfl|rfl|rfl|rfl|rfl|rfl|rfl|rfl|rfl|rfl|rfl|rfl|rfl
         all_goals first|exact hv|(exact R58.put hv hnd)|(obtain ⟨g,c,h1,h2⟩:=hv;exact ⟨g,c,(act_ne (by simpa using fun e=>hnd (by simp [e]))).trans h1,h2⟩)
        case keep=>
         intro e he s s' a v w w' hsl hm ht hv;simp only [List.mem_cons,List.not_mem_nil,or_false] at he;rcases he with rfl|rfl|rfl|rfl|rfl|rfl|rfl|rfl|rfl|rfl|rfl|rfl|rfl|rfl|rfl
         all_goals first|exact hv|(intro h1;have:=(ht.one (by omega)).1;have:=hm rfl;simp at this;omega)|(intro h1;obtain ⟨e0,rb',hrb',hg'⟩:=ht.one h1;obtain ⟨g,e,hz,hb⟩:=hv (by omega);exact ⟨g,e,hz,blk_gb hb hg' (by omega)⟩)|(exact R58.keep hv (by have:=hm rfl;simp at this;omega) ht (hsl _ rfl) hvw hwz)
        case steps=>
         refine ⟨?_,?_,?_,?_,?_,?_,?_,?_,?_,?_,?_,?_,?_,?_,?_,trivial⟩
         ·intro st hst ac w3 hg hG hd K hK;dsimp only at hst hG hK;exact op_move _ rfl (hK _ _ bR (hg.kp 1 (by simp)))
         ·intro st hst ac w3 hg hG hd K hK;dsimp only at hst hG hK;have f0:=hd 0 (by simp) _ rfl _ rfl;(try simp [Act.eval] at f0);go_simp;exact hK _ _ bR rfl
         ·intro st hst ac w3 hg hG hd K hK;dsimp only at hst hG hK;have f1:=hd 1 (by simp) _ rfl _ rfl;(try simp [Act.eval] at f1);go_simp;exact hK _ _ bR rfl
         ·intro st hst ac w3 hg hG hd K hK;dsimp only at hst hG hK;have hst3:st≤3:=by simp at hst;omega
          have kk:=(hG.2.2.2.2.2.1 hst3).cell 3;have zz:=(hG.2.2.2.2.2.1 hst3).lt;simp at kk;clear hG;have f2:=hd 2 (by simp) _ rfl _ rfl;(try simp [Act.eval] at f2);go_simp;exact hK _ _ bR rfl
         ·intro st hst ac w3 hg hG hd K hK;dsimp only at hst hG hK;exact op_move _ rfl (hK _ _ bR (hg.kp 0 (by simp)))
         ·intro st hst ac w3 hg hG hd K hK;dsimp only at hst hG hK;exact op_move _ rfl (hK _ _ bR (hg.kp 3 (by simp)))
         ·intro st st' hmv ac w3 hg hG hd K hK;simp only [List.mem_cons,Prod.mk.injEq,List.not_mem_nil,or_false] at hmv;obtain ⟨rfl,rfl⟩:=hmv;dsimp only at hG hK;have f4:=hd 4 (by simp) _ rfl _ rfl;have f5:=hd 5 (by simp) _ rfl _ rfl;have HG:=hide hG;obtain ⟨⟨T',e1,_,hrd⟩,hfr,hz,_⟩:=hG;obtain rfl:=e1 rfl;have HRD:=hide hrd;have HFR:=hide hfr;clear hrd hfr e1;have hTb:=hide (show Tabs w3 from HTw.out.fr HFR.out (fun j hj=>by rcases hj with e|e <;> omega));simp [Act.eval] at f4 f5;go_simp;(refine (HV.out g hgf w3 rb A n c b T' dp HRD.out hTb.out hr2 (by omega) HIV.out).mono ?_);rintro e w8 (⟨J,T'',cs,h1,rfl,h2,h3,h4⟩|⟨p,e0,h1,rfl,h4⟩)
          ·exact hK _ _ (.inl ⟨rfl,rb,hrw,h4⟩) (HG.out.called h4 h1 h3 hrw hvr) (fun _=>⟨J,T'',cs,h1,rfl,VRd.keep (fun _ _=>rfl) (fun j hj=>Nat.le_trans hz hj) _ _ h2⟩)
          ·exact ⟨hg.df,.inr ⟨p,e0,by rw [HE7.out,h1];rfl,rfl,HFR.out.tr (Fr.of_grown h4 (fun k e=>.inl (by injection e with e;exact e.symm)))⟩⟩
         ·intro st hst ac w3 hg hG hd K hK;dsimp only at hst hG hK;have f3:=hd 3 (by simp) _ rfl _ rfl;rw [HLV.out] at f3;simp [Act.eval] at f3;go_simp;exact hK _ _ bR rfl
         ·intro st hst ac w3 hg hG hd K hK;dsimp only at hst hG hK;have hz:=hG.2.2.1;go_simp;exact hK _ _ (al_below w3 _) (fun _=>⟨_,rfl,hz,Blk.new _ _ _⟩)
         ·intro st st' hmv ac w3 hg hG hd K hK;simp only [List.mem_cons,Prod.mk.injEq,List.not_mem_nil,or_false] at hmv;obtain ⟨rfl,rfl⟩:=hmv;dsimp only at hG hK;have f3:=hd 3 (by simp) _ rfl _ rfl;obtain ⟨gl,f8,hgl,hbl⟩:=hd 8 (by simp) _ rfl _ rfl (by decide);obtain ⟨J,T',cs,h1,f6,hvr6⟩:=hd 6 (by simp) _ rfl _ rfl rfl;refine wp_append_any w3 (.tmp 52) (.tmp 57) 37 rfl w.heap.size TV i0 _ 4 72 Tryz.underlying37 hi0 hz0 hz1 hz2 rfl (by omega) lv vs.length xs f3 (hG.2.2.2.2.2.2 (by decide)) w3.heap.size (some ⟨gl,0,none⟩) 1 1 _ f8 (reads_blk hbl rfl rfl) (by intro y hy;simp at hy;rcases hy with rfl|rfl|rfl|rfl <;> rfl) (by unfold maxLen;omega) (by omega) hG.2.1.size ?_;intro v' w' ho hgb hoo;exact hK _ _ (.inr (.inl rfl)) (hG.append (m:=0) hgb hrw hvw HAw.out) (R58.made hG h1 f6 hvr6 hgb ho rfl hoo hlz)
         ·intro st hst ac w3 hg hG hd K hK;dsimp only at hst hG hK;have f7:=hd 7 (by simp) _ rfl _ rfl;obtain ⟨g,c,J,T',cs,f9,_⟩:=hd 9 (by simp) _ rfl _ rfl;have F9:=hide f9;simp [Act.eval] at f7 f9;go_simp;rw [if_pos (by omega)];go_simp;exact hK _ _ bR ⟨g,c,F9.out,rfl⟩
         ·intro st st' hmv ac w3 hg hG hd K hK;simp only [List.mem_cons,Prod.mk.injEq,List.not_mem_nil,or_false] at hmv;rcases hmv with ⟨rfl,rfl⟩|⟨rfl,rfl⟩
          ·dsimp only at hG hK;obtain ⟨g,c,e58,f10⟩:=hd 10 (by simp) _ rfl _ rfl;obtain ⟨g',c',J,T',cs,e58',h1,f6,hgz,hv,⟨ys,hy1,hy2,hy3⟩,hb⟩:=hd 9 (by simp) _ rfl _ rfl;(obtain ⟨rfl,rfl⟩:g=g'∧c=c':=by rw [e58] at e58';simpa using e58');rw [e58] at hy2;obtain ⟨v1,v2,v3,v4,v5,v6,v7,v8,rfl⟩:=hv.four;have HY:=hide hy2;have HG:=hide hG;have E58:=hide e58;have F6:=hide f6;have HGZ:=hide hgz;obtain ⟨⟨y0,y1,y2,y3,q0,q1,q2,q3⟩,qf,ql⟩:=elem_cells hy2 hy1;clear hv hb hy3 hgz hG e58 e58' hy2;simp [Act.eval] at f10 f6;go_simp;exact hK undef _ (.inr (.inr (.inl ⟨.inl rfl,g,c,_,_,_,_,E58.out,F6.out,rfl⟩))) (HG.out.elem (.inl rfl) HGZ.out HY.out hy1 hrw hvw HAw.out) trivial
          ·dsimp only at hG hK;obtain ⟨g,c,e58,f10⟩:=hd 10 (by simp) _ rfl _ rfl;obtain ⟨g',c',J,T',cs,e58',h1,f6,hgz,hv,⟨ys,hy1,hy2,hy3⟩,hb⟩:=hd 9 (by simp) _ rfl _ rfl;(obtain ⟨rfl,rfl⟩:g=g'∧c=c':=by rw [e58] at e58';simpa using e58');rw [e58] at hy2;obtain ⟨v1,v2,v3,v4,v5,v6,v7,v8,rfl⟩:=hv.four;have HY:=hide hy2;have HG:=hide hG;have E58:=hide e58;have F6:=hide f6;have HGZ:=hide hgz;obtain ⟨⟨y0,y1,y2,y3,q0,q1,q2,q3⟩,qf,ql⟩:=elem_cells hy2 hy1;clear hv hb hy3 hgz hG e58 e58' hy2;simp [Act.eval] at f10 f6;go_simp;exact hK undef _ (.inr (.inr (.inl ⟨.inr rfl,g,c,_,_,_,_,E58.out,F6.out,rfl⟩))) (HG.out.elem (.inr rfl) HGZ.out HY.out hy1 hrw hvw HAw.out) trivial
         ·intro st hst ac w3 hg hG hd K hK;dsimp only at hst hG hK;have f0:=hd 0 (by simp) _ rfl _ rfl;(try simp [Act.eval] at f0);go_simp;exact hK _ _ bR rfl
         ·intro st hst ac w3 hg hG hd K hK;dsimp only at hst hG hK;have f12:=hd 12 (by simp) _ rfl _ rfl;(try simp [Act.eval] at f12);go_simp;exact hK _ _ bR rfl
         ·intro st st' hmv ac w3 hg hG hd K hK;simp only [List.mem_cons,Prod.mk.injEq,List.not_mem_nil,or_false] at hmv;rcases hmv with ⟨rfl,rfl⟩|⟨rfl,rfl⟩
          ·dsimp only at hG hK;have f13:=hd 13 (by simp) _ rfl _ rfl;obtain ⟨g',c',J,T',cs,e58',h1,f6,hgz,hv,hrest⟩:=hd 9 (by simp) _ rfl _ rfl;have hB:=hG.2.2.2.2.2.1 (by decide);have kk:=hB.cell;have ff:=hB.frozen;have zz:=hB.lt;have HG:=hide hG;have E58:=hide e58';have HB:=hide hB;clear hG hB hv hrest hgz f6;simp [Act.eval] at f13 e58';go_simp;exact hK undef _ (.inr (.inr (.inr ⟨.inl rfl,by rw [E58.out],by rw [E58.out];exact HB.out.set_ 3 _⟩))) (HG.out.slice (.inl rfl) hvr hvw HVA.out) trivial
          ·dsimp only at hG hK;have f13:=hd 13 (by simp) _ rfl _ rfl;obtain ⟨g',c',J,T',cs,e58',h1,f6,hgz,hv,hrest⟩:=hd 9 (by simp) _ rfl _ rfl;have hB:=hG.2.2.2.2.2.1 (by decide);have kk:=hB.cell;have ff:=hB.frozen;have zz:=hB.lt;have HG:=hide hG;have E58:=hide e58';have HB:=hide hB;clear hG hB hv hrest hgz f6;simp [Act.eval] at f13 e58';go_simp;exact hK undef _ (.inr (.inr (.inr ⟨.inr rfl,by rw [E58.out],by rw [E58.out];exact HB.out.set_ 3 _⟩))) (HG.out.slice (.inr rfl) hvr hvw HVA.out) trivial
        case gu=>intro s w1 w2 hG hu;exact hG.below hu
        case g0=>exact HG0.out.below (bR.drew)
        case fin=>
         intro f9 w9 hG hall;have hr:=hall _ (List.mem_of_getElem? (i:=9) rfl) 58 rfl;clear hall HG0;obtain ⟨J,T9,cs,hV9,hM9⟩:=hG.ms hr hwz hkz;have HM9:=hide hM9;have HV9:=hide hV9;clear hG hr hM9 hV9;have hW9:T9.W<T7.W:=valF_W _ _ _ _ HV9.out;have HE9:=hide (show loopF g kind shut dp T9 false t ks7 (vs++[J])=R by rw [HE7.out,HV9.out];rfl);simp only [fillF,List.map_cons,List.map_nil,List.foldl_cons,List.foldl_nil,Act.put,List.setIfInBounds_toArray,List.set_cons_zero,List.set_cons_succ];obtain ⟨v9,hv9⟩:∃ v9,f9 58=v9:=⟨_,rfl⟩;go_wp2_with fail
         go_roundw
         case rel=>exact ⟨false,T9,ks7,vs++[J],kv7,_,xs++cs,_,g,rfl,HM9,HE9,by omega,by rw [List.length_append];simp;omega,by rw [List.length_append];simp;omega⟩
         case measure=>rw [HWr.out,mW_of HM9.out.tk];omega
end Go.Proofs.YtacinobmcgcccaaGreatDoor
