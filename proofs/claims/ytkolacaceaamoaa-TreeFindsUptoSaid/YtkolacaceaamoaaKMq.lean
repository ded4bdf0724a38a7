/- How a law's arguments are opened: slices of flat structs. -/
import Derived.Test.YtkolacaceaamoaaKM0
import Derived.Test.YtkolacaceaamoaaKMg
import Derived.Test.YtkolacaceaamoaaRows
import Derived.ProofKit
import Derived.Deep.Slices
import Derived.Deep.Fields
import Derived.ChangeSame
import Derived.SizedLaws
import Derived.OpenShut
/- How a law's arguments are opened: slices of flat structs. -/
set_option linter.unusedSimpArgs false
set_option linter.unusedVariables false
namespace Go.Proofs.Ytkolacaceaamoaa
open Go.ChangeShapes Go.WideShapes Go.ChangeAt Go.RowKit Go.Deep
theorem own_knob:ownKnob Try.prog.godebug = none:=by kernel_rfl
theorem laid_out:laidOutB Try.prog = true:=by kernel_rfl
section
variable {H:Type} {enc:TypeId × Value → H} {P:Program} {w:World} {base:Nat} {spare:Nat → Bool} {held:Bool}
theorem open_slice_fields {t e:TypeId} {fs:Array Field} {fuel:Nat} {cs:List Value} {x:DataW H × List MemPlace} (ht:P.underlying t = some (.slice e)) (he:P.underlying e = some (.struct fs))
  (hone:oneCellFields P fs = true) (hC:P.cellsOf e = fs.size) (h:DataW.trod enc P w base spare held fuel t cs = some x) :
  (cs = [.slice none 0 0] ∧ x = (.nil,[])) ∨
  ∃ (a:Addr) (len cap m:Nat) (D:Nat → DataW H) (Pl:Nat → List MemPlace),cs = [.slice (some a) len cap] ∧ base ≤ a.block ∧ len ≤ cap ∧ cap ≤ maxLen ∧ m = (if spare a.block then cap else len) ∧
   x = (.slice ((List.range len).map D) ((List.range (m - len)).map fun j=>D (len + j)),MemPlace.row a (m * fs.size) ++ (List.range m).flatMap Pl) ∧
   ∀ i,i < m → ∃ (ys:List (DataW H × List MemPlace)) (n:Nat),D i = .agg (ys.map (·.1)) ∧ Pl i = ys.flatMap (·.2) ∧ ys.length = fs.size ∧
    ∀ (j:Nat) (f:Field),fs[j]? = some f → ∃ (v:Value) (y:DataW H × List MemPlace),w.cell? (a.add (i * fs.size + j)) = some v ∧ ys[j]? = some y ∧ DataW.trod enc P w base spare held n f.type [v] = some y:=by
 rcases open_slice ht h with h0 | ⟨a,len,cap,m,n,D,Pl,hcs,hb,hl,hm,hmm,hx,hi⟩
 ·exact .inl h0
 ·refine .inr ⟨a,len,cap,m,D,Pl,hcs,hb,hl,hm,hmm,by rw [hC] at hx; exact hx,fun i him=>?_⟩
  obtain ⟨cs',hc,ht'⟩:=hi i him
  rw [hC] at hc
  obtain ⟨ys,n',hn',hy,hlen,hyl,hf⟩:=DataW.trod_struct he ht'
  obtain ⟨_,hcl,hat⟩:=World.cells?_some hc
  simp only [Prod.mk.injEq] at hy
  refine ⟨ys,n',hy.1,hy.2,hyl,fun j f hj=>?_⟩
  obtain ⟨ho,hk⟩:=hone_of hone j f hj
  have hjl:j < fs.size:=(Array.getElem?_eq_some_iff.1 hj).1
  have hcell:=hat j hjl
  have hv:cs'[j]? = some (cs'[j]'(by omega)):=List.getElem?_eq_getElem (by omega)
  have h1:=hf j f hj
  rw [ho,hk] at h1
  have hone':(cs'.drop j).take 1 = [cs'[j]'(by omega)]:=by
   rw [List.drop_eq_getElem_cons (by omega)]
   rfl
  rw [hone'] at h1
  have hys:ys[j]? = some (ys[j]'(by omega)):=List.getElem?_eq_getElem (by omega)
  refine ⟨_,_,?_,hys,h1.trans hys⟩
  rw [← Go.Deep.add_add,hcell,hv]
end
theorem cell_lt {w:World} {a:Addr} {v:Value} (h:w.cell? a = some v):a.block < w.heap.size:=by
 rcases Nat.lt_or_ge a.block w.heap.size with h1 | h1
 ·exact h1
 ·unfold World.cell? at h; rw [Array.getElem?_eq_none h1] at h; cases h
theorem list_of_fn {α:Type} {P:Nat → α → Prop}:∀ (n:Nat),(∀ i,i < n → ∃ x,P i x) → ∃ l:List α,l.length = n ∧ ∀ i (h:i < l.length),P i l[i]
 | 0,_=>⟨[],rfl,fun i h=>by simp at h⟩
 | n + 1,h=>by
  obtain ⟨l,hl,hp⟩:=list_of_fn n (fun i hi=>h i (by omega))
  obtain ⟨x,hx⟩:=h n (by omega)
  refine ⟨l ++ [x],by simp [hl],fun i hi=>?_⟩
  rcases Nat.lt_or_ge i l.length with h1 | h1
  ·rw [List.getElem_append_left h1]; exact hp i h1
  ·have:i = n:=by simp at hi; omega
   subst this
   rw [List.getElem_append_right h1]
   simp [hl]; exact hx
end Go.Proofs.Ytkolacaceaamoaa
/- Items that came in, opened; their bulk. -/
namespace Go.Proofs.Ytkolacaceaamoaa
open Go.ChangeShapes Go.WideShapes Go.ChangeAt Go.RowKit Go.Deep
theorem bulk_one {H:Type} (d:DataW H):1 ≤ Rows.uptoBulk d:=by
 cases d with
 | lit l=>cases l <;> simp [Rows.uptoBulk]
 | _=>simp [Rows.uptoBulk]
theorem bulk_part {H:Type} {d:DataW H} {l:List (DataW H)} (h:d ∈ l):Rows.uptoBulk d ≤ Rows.uptoBulkAll l:=by
 induction l with
 | nil=>cases h
 | cons x r ih=>
  simp only [Rows.uptoBulkAll]
  cases List.mem_cons.1 h with
  | inl e=>subst e; omega
  | inr e=>have:=ih e; omega
theorem bulk_len {H:Type} (l:List (DataW H)):l.length ≤ Rows.uptoBulkAll l:=by
 induction l with
 | nil=>simp [Rows.uptoBulkAll]
 | cons x r ih=>have:=bulk_one x; simp only [Rows.uptoBulkAll,List.length_cons]; omega
theorem bulk_slice {H:Type} (es sp:List (DataW H)):es.length + sp.length ≤ Rows.uptoBulk (.slice es sp) ∧ Rows.uptoBulkAll es ≤ Rows.uptoBulk (.slice es sp):=by
 have:=bulk_len es
 have:=bulk_len sp
 simp only [Rows.uptoBulk,Rows.uptoBulkAll]
 omega
theorem u8_cells1:Try.prog.cellsOf 5 = 1:=by kernel_rfl
theorem it_cells2:Try.prog.cellsOf TIt = 2:=by kernel_rfl
theorem u8_wf3 {n:Int} (h:(Lit.int .u8 n).wf = true):0 ≤ n ∧ n ≤ 255:=by
 simpa [Lit.wf,IntKind.min,IntKind.max,IntKind.signed,IntKind.bits] using h
section
variable {H:Type} {enc:TypeId × Value → H} {W:World}
/-- Bytes that came in. -/
theorem open_bs {v:Value} {fuel:Nat} {y:DataW H × List MemPlace} (h:DataW.trod enc Try.prog W 0 (fun _=>true) true fuel 38 [v] = some y) :
  ∃ l:Cn,BS W (fun j=>j < W.heap.size) v l ∧ l.length ≤ Rows.uptoBulk y.1:=by
 rcases open_slice1 Try.underlying38 u8_cells1 h with ⟨hcs,_⟩ | ⟨a,len,cap,m,nn,V,D,Pl,hcs,_,hl,hm,hmm,hx,hi⟩
 ·simp at hcs
  subst hcs
  exact ⟨[],⟨none,0,rfl,⟨Nat.le_refl _,Nat.zero_le _⟩,RF.nil _⟩,Nat.zero_le _⟩
 ·simp at hcs
  subst hcs
  simp only [if_pos] at hmm
  subst hmm
  obtain ⟨l,hll,hlc⟩:=list_of_fn (P:=fun i (b:UInt8)=>W.cell? (a.add i) = some (u8v b)) len (fun i hi'=>by
   obtain ⟨c0,t0⟩:=hi i (by omega)
   obtain ⟨x0,e0,_,w0⟩:=DataW.trod_int Try.underlying5 t0
   simp at e0
   rw [e0] at c0
   have:=u8_wf3 w0
   refine ⟨UInt8.ofNat x0.toNat,?_⟩
   rw [c0]
   unfold u8v
   have e1:((UInt8.ofNat x0.toNat).toNat:Int) = x0:=by
    rw [show (UInt8.ofNat x0.toNat).toNat = x0.toNat % 256 from rfl]
    omega
   rw [e1])
  refine ⟨l,⟨some a,m,by rw [hll],⟨by omega,by omega⟩,by rw [cs8_len]; omega,fun h0=>⟨a,rfl,?_,fun j u hu=>?_⟩⟩,?_⟩
  ·have:=cell_lt (hlc 0 (by omega))
   rw [block_of_add] at this
   exact this
  ·have hj:=(List.getElem?_eq_some_iff.1 hu).1
   rw [cs8_len] at hj
   rw [cs8_get,List.getElem?_eq_getElem hj] at hu
   injection hu with hu
   subst hu
   exact hlc j hj
  ·have:=(bulk_slice ((List.range len).map D) ((List.range (m - len)).map fun j=>D (len + j))).1
   rw [hx]
   simp at this ⊢
   omega
theorem LR.of_ {α:Type} {R:α → List Value → Prop} {k:Nat}:∀ (l:List α) (f:Nat → List Value),(∀ i (h:i < l.length),R l[i] (f i)) → LR R l ((List.range l.length).flatMap f)
 | [],f,h=>rfl
 | a :: l,f,h=>by
  refine ⟨f 0,(List.range l.length).flatMap (fun i=>f (i + 1)),?_,h 0 (by simp),LR.of_ (k:=k) l (fun i=>f (i + 1)) (fun i hi=>h (i + 1) (by simp; omega))⟩
  rw [List.length_cons,List.range_succ_eq_map,List.flatMap_cons,List.flatMap_map]
/-- Items that came in. -/
theorem open_items {A:Option Addr} {n c:Nat} {d:DataW H} {p:List MemPlace} (h:DataW.Trod enc Try.prog W 0 (fun _=>true) true 32 (.slice A n c) d p) (hb:Rows.uptoBulk d ≤ 1048576) :
  ∃ l:List It,SLk 2 ItR W (fun j=>j < W.heap.size) (.slice A n c) l ∧ l.length ≤ 1048576 ∧ ∀ x ∈ l,x.k.length ≤ 1048576 ∧ x.v.length ≤ 1048576:=by
 obtain ⟨fuel,hf⟩:=h
 rcases open_slice_fields Try.underlying32 Try.underlying44 (by kernel_rfl) it_cells2 hf with ⟨hcs,_⟩ | ⟨a,len,cap,m,D,Pl,hcs,_,hl,hm,hmm,hx,hi⟩
 ·simp [Value.cells] at hcs
  obtain ⟨rfl,rfl,rfl⟩:=hcs
  exact ⟨[],SLk.nil _ _,by simp,fun x hx=>by cases hx⟩
 ·simp [Value.cells] at hcs
  obtain ⟨rfl,rfl,rfl⟩:=hcs
  simp only [if_pos] at hmm
  subst hmm
  simp only [Prod.mk.injEq] at hx
  obtain ⟨hd,hp⟩:=hx
  have hbs:=bulk_slice ((List.range n).map D) ((List.range (m - n)).map fun j=>D (n + j))
  rw [← hd] at hbs
  have hn:n ≤ 1048576:=by have:=hbs.1; simp at this; omega
  obtain ⟨l,hll,hlc⟩:=list_of_fn (P:=fun i (xc:It × List Value)=>ItR W (fun j=>j < W.heap.size) xc.1 xc.2 ∧ (xc.1.k.length ≤ 1048576 ∧ xc.1.v.length ≤ 1048576) ∧ ∀ j u,xc.2[j]? = some u → W.cell? (a.add (i * 2 + j)) = some u) n (fun i hi'=>by
   obtain ⟨ys,k,hD,_,hyl,hf⟩:=hi i (by omega)
   obtain ⟨v0,y0,c0,g0,t0⟩:=hf 0 _ rfl
   obtain ⟨v1,y1,c1,g1,t1⟩:=hf 1 _ rfl
   obtain ⟨lk,hk,bk⟩:=open_bs t0
   obtain ⟨lv,hv,bv⟩:=open_bs t1
   have hbd:Rows.uptoBulk (D i) ≤ 1048576:=by
    have:=bulk_part (d:=D i) (l:=(List.range n).map D) (List.mem_map.2 ⟨i,List.mem_range.2 hi',rfl⟩)
    omega
   have hys:Rows.uptoBulkAll (ys.map (·.1)) ≤ 1048576:=by
    rw [hD] at hbd
    simp only [Rows.uptoBulk] at hbd
    omega
   have b0:=bulk_part (d:=y0.1) (l:=ys.map (·.1)) (List.mem_map.2 ⟨y0,List.mem_of_getElem? g0,rfl⟩)
   have b1:=bulk_part (d:=y1.1) (l:=ys.map (·.1)) (List.mem_map.2 ⟨y1,List.mem_of_getElem? g1,rfl⟩)
   refine ⟨(⟨lk,lv⟩,[v0,v1]),⟨v0,v1,rfl,hk,hv⟩,⟨by simp only; omega,by simp only; omega⟩,fun j u hu=>?_⟩
   match j,hu with
   | 0,hu=>simp at hu; subst hu; exact c0
   | 1,hu=>simp at hu; subst hu; exact c1
   | j + 2,hu=>simp at hu)
  have hfl:(List.range (l.map (·.1)).length).flatMap (fun i=>((l[i]?).map (·.2)).getD []) = l.flatMap (·.2):=by
   rw [List.length_map]
   clear hlc hll
   induction l with
   | nil=>rfl
   | cons x l ih=>
    rw [List.length_cons,List.range_succ_eq_map,List.flatMap_cons,List.flatMap_map,List.flatMap_cons]
    simp
    exact ih
  have h2:∀ (l:List (It × List Value)),(∀ x ∈ l,x.2.length = 2) → (l.flatMap (·.2)).length = l.length * 2 ∧ ∀ j,(l.flatMap (·.2))[j]? = (l[j / 2]?).bind (fun x=>x.2[j % 2]?):=by
   intro l
   induction l with
   | nil=>intro _; exact ⟨rfl,fun j=>by simp⟩
   | cons x l ih=>
    intro h
    have hx2:=h x (by simp)
    obtain ⟨i1,i2⟩:=ih (fun y hy=>h y (by simp [hy]))
    refine ⟨by simp only [List.flatMap_cons,List.length_append,List.length_cons]; omega,fun j=>?_⟩
    rw [List.flatMap_cons]
    match j with
    | 0=>rw [List.getElem?_append_left (by omega)]; simp
    | 1=>rw [List.getElem?_append_left (by omega)]; simp
    | j + 2=>
     rw [List.getElem?_append_right (by omega),hx2,show j + 2 - 2 = j from by omega,i2 j,show (j + 2) / 2 = j / 2 + 1 from by omega,show (j + 2) % 2 = j % 2 from by omega,List.getElem?_cons_succ]
  have hlen2:∀ x ∈ l,x.2.length = 2:=by
   intro x hx
   obtain ⟨i,hi',rfl⟩:=List.getElem_of_mem hx
   exact ItR.two _ _ (hlc i hi').1
  obtain ⟨s1,s2⟩:=h2 l hlen2
  refine ⟨l.map (·.1),⟨some a,m,l.flatMap (·.2),by rw [List.length_map,hll],⟨by rw [List.length_map]; omega,by omega⟩,⟨by rw [s1,List.length_map],fun h0=>⟨a,rfl,?_,fun j u hu=>?_⟩⟩,?_⟩,by rw [List.length_map]; omega,fun x hx=>?_⟩
  ·have h0':0 < l.length:=by rw [List.length_map] at h0; exact h0
   obtain ⟨k0,_,k2⟩:=hlc 0 h0'
   have h22:=ItR.two _ _ k0
   have:=cell_lt (k2 0 _ (List.getElem?_eq_getElem (by omega)))
   rw [block_of_add] at this
   exact this
  ·rw [s2 j] at hu
   rcases hg:l[j / 2]? with _ | x
   ·rw [hg] at hu; cases hu
   ·rw [hg] at hu
    obtain ⟨hlt,rfl⟩:=List.getElem?_eq_some_iff.1 hg
    have:=(hlc (j / 2) hlt).2.2 (j % 2) u hu
    rwa [show j / 2 * 2 + j % 2 = j from by omega] at this
  ·rw [← hfl]
   refine LR.of_ (k:=2) _ _ (fun i hi'=>?_)
   rw [List.length_map] at hi'
   rw [List.getElem?_eq_getElem hi',List.getElem_map]
   exact (hlc i hi').1
  ·obtain ⟨y,hy,rfl⟩:=List.mem_map.1 hx
   obtain ⟨i,hi',rfl⟩:=List.getElem_of_mem hy
   exact (hlc i hi').2.1
end
end Go.Proofs.Ytkolacaceaamoaa
