/- Steps that came in, opened. -/
import Derived.Test.YtkolacaceaamoaaKTd
import Derived.Test.YtkolacaceaamoaaKMq
set_option linter.unusedSimpArgs false
set_option linter.unusedVariables false
namespace Go.Proofs.Ytkolacaceaamoaa
open Go.ChangeShapes Go.WideShapes Go.ChangeAt Go.RowKit Go.Deep
theorem flat_k {β:Type} {k:Nat} (hk:0 < k):∀ (l:List (β × List Value)),(∀ x ∈ l,x.2.length = k) → (l.flatMap (·.2)).length = l.length * k ∧ ∀ j,(l.flatMap (·.2))[j]? = (l[j / k]?).bind (fun x=>x.2[j % k]?)
 | [],_=>⟨by simp,fun j=>by simp⟩
 | x :: l,h=>by
  have hx:=h x (by simp)
  obtain ⟨i1,i2⟩:=flat_k hk l (fun y hy=>h y (by simp [hy]))
  refine ⟨by simp only [List.flatMap_cons,List.length_append,List.length_cons]; rw [i1,hx,Nat.succ_mul]; omega,fun j=>?_⟩
  rw [List.flatMap_cons]
  rcases Nat.lt_or_ge j k with q | q
  ·rw [List.getElem?_append_left (by omega),Nat.div_eq_of_lt q,Nat.mod_eq_of_lt q]
   simp
  ·rw [List.getElem?_append_right (by omega),hx,i2 (j - k),Nat.div_eq_sub_div hk q,Nat.mod_eq_sub_mod q,List.getElem?_cons_succ]
theorem lr_of {β:Type} {R:β → List Value → Prop}:∀ (l:List (β × List Value)),(∀ x ∈ l,R x.1 x.2) → LR R (l.map (·.1)) (l.flatMap (·.2))
 | [],_=>rfl
 | x :: l,h=>⟨x.2,l.flatMap (·.2),List.flatMap_cons,h x (by simp),lr_of l (fun y hy=>h y (by simp [hy]))⟩
/-- A row of things, of what is known of each. -/
theorem slk_of {β:Type} {k:Nat} {R:World → (Nat → Prop) → β → List Value → Prop} {W:World} {a:Addr} {n m:Nat} {P:β → Prop} (hk:0 < k) (hR:∀ x cs,R W (fun j=>j < W.heap.size) x cs → cs.length = k) (hl:n ≤ m) (hm:m ≤ maxLen)
  (h:∀ i,i < n → ∃ xc:β × List Value,R W (fun j=>j < W.heap.size) xc.1 xc.2 ∧ P xc.1 ∧ ∀ j u,xc.2[j]? = some u → W.cell? (a.add (i * k + j)) = some u) :
  ∃ l:List β,SLk k R W (fun j=>j < W.heap.size) (.slice (some a) n m) l ∧ l.length = n ∧ ∀ x ∈ l,P x:=by
 obtain ⟨l,hll,hlc⟩:=list_of_fn (P:=fun i (xc:β × List Value)=>R W (fun j=>j < W.heap.size) xc.1 xc.2 ∧ P xc.1 ∧ ∀ j u,xc.2[j]? = some u → W.cell? (a.add (i * k + j)) = some u) n h
 have hlk:∀ x ∈ l,x.2.length = k:=fun x hx=>by
  obtain ⟨i,hi',rfl⟩:=List.getElem_of_mem hx
  exact hR _ _ (hlc i hi').1
 obtain ⟨s1,s2⟩:=flat_k hk l hlk
 have hln:(l.map (·.1)).length = n:=by rw [List.length_map,hll]
 refine ⟨l.map (·.1),⟨some a,m,l.flatMap (·.2),by rw [hln],⟨by rw [hln]; exact hl,hm⟩,⟨by rw [s1,List.length_map],fun h0=>⟨a,rfl,?_,fun j u hu=>?_⟩⟩,?_⟩,hln,fun x hx=>?_⟩
 ·have h0':0 < l.length:=by rw [List.length_map] at h0; exact h0
  obtain ⟨k0,_,k2⟩:=hlc 0 h0'
  have h22:=hR _ _ k0
  have:=cell_lt (k2 0 _ (List.getElem?_eq_getElem (by omega)))
  rw [block_of_add] at this
  exact this
 ·rw [s2 j] at hu
  rcases hg:l[j / k]? with _ | x
  ·rw [hg] at hu; cases hu
  ·rw [hg] at hu
   obtain ⟨hlt,rfl⟩:=List.getElem?_eq_some_iff.1 hg
   have:=(hlc (j / k) hlt).2.2 (j % k) u hu
   rwa [Nat.div_add_mod' j k] at this
 ·exact lr_of l (fun x hx=>by obtain ⟨i,hi',rfl⟩:=List.getElem_of_mem hx; exact (hlc i hi').1)
 ·obtain ⟨y,hy,rfl⟩:=List.mem_map.1 hx
  obtain ⟨i,hi',rfl⟩:=List.getElem_of_mem hy
  exact (hlc i hi').2.1
theorem bs_cells1:Try.prog.cellsOf 38 = 1:=by kernel_rfl
theorem st_cells3:Try.prog.cellsOf 49 = 3:=by kernel_rfl
theorem bsR_len {w:World} {F:Nat → Prop}:∀ (a:Cn) (cs:List Value),BsR w F a cs → cs.length = 1:=fun a cs ⟨_,e,_⟩=>by rw [e]; rfl
section
variable {H:Type} {enc:TypeId × Value → H} {W:World}
/-- Keys that came in. -/
theorem open_keys {v:Value} {fuel:Nat} {y:DataW H × List MemPlace} (h:DataW.trod enc Try.prog W 0 (fun _=>true) true fuel 47 [v] = some y) (hb:Rows.uptoBulk y.1 ≤ 1048576) :
  ∃ l:List Cn,SLk 1 BsR W (fun j=>j < W.heap.size) v l ∧ l.length ≤ 1048576 ∧ ∀ x ∈ l,x.length ≤ 1048576:=by
 rcases open_slice1 Try.underlying47 bs_cells1 h with ⟨hcs,_⟩ | ⟨a,len,cap,m,nn,V,D,Pl,hcs,_,hl,hm,hmm,hx,hi⟩
 ·simp at hcs
  subst hcs
  exact ⟨[],SLk.nil _ _,by simp,fun x hx=>by cases hx⟩
 ·simp at hcs
  subst hcs
  simp only [if_pos] at hmm
  subst hmm
  have hbs:=bulk_slice ((List.range len).map D) ((List.range (m - len)).map fun j=>D (len + j))
  rw [hx] at hb
  simp only [] at hb
  have hn:len ≤ 1048576:=by have:=hbs.1; simp at this; omega
  obtain ⟨l,h1,h2,h3⟩:=slk_of (k:=1) (R:=BsR) (W:=W) (a:=a) (n:=len) (m:=m) (P:=fun x=>x.length ≤ 1048576) (by omega) bsR_len hl hm (fun i hi'=>by
   obtain ⟨c0,t0⟩:=hi i (by omega)
   obtain ⟨lk,hk,bk⟩:=open_bs t0
   have:=bulk_part (d:=D i) (l:=(List.range len).map D) (List.mem_map.2 ⟨i,List.mem_range.2 hi',rfl⟩)
   refine ⟨(lk,[V i]),⟨_,rfl,hk⟩,by simp only at bk ⊢; omega,fun j u hu=>?_⟩
   match j,hu with
   | 0,hu=>simp at hu; subst hu; simpa using c0
   | j + 1,hu=>simp at hu)
  exact ⟨l,h1,by omega,h3⟩
/-- Steps that came in. -/
theorem open_steps {A:Option Addr} {n c:Nat} {d:DataW H} {p:List MemPlace} (h:DataW.Trod enc Try.prog W 0 (fun _=>true) true 22 (.slice A n c) d p) (hb:Rows.uptoBulk d ≤ 1048576) :
  ∃ l:List Stp,SLk 3 StR W (fun j=>j < W.heap.size) (.slice A n c) l ∧ l.length ≤ 1048576 ∧ ∀ s ∈ l,(∀ x ∈ s.put,x.k.length ≤ 1048576 ∧ x.v.length ≤ 1048576) ∧ (∀ k ∈ s.gone,k.length ≤ 1048576) ∧ s.put.length ≤ 1048576 ∧ s.gone.length ≤ 1048576:=by
 obtain ⟨fuel,hf⟩:=h
 rcases open_slice_fields Try.underlying22 Try.underlying49 (by kernel_rfl) st_cells3 hf with ⟨hcs,_⟩ | ⟨a,len,cap,m,D,Pl,hcs,_,hl,hm,hmm,hx,hi⟩
 ·simp [Value.cells] at hcs
  obtain ⟨rfl,rfl,rfl⟩:=hcs
  exact ⟨[],SLk.nil _ _,by simp,fun x hx=>by cases hx⟩
 ·simp [Value.cells] at hcs
  obtain ⟨rfl,rfl,rfl⟩:=hcs
  simp only [if_pos] at hmm
  subst hmm
  simp only [Prod.mk.injEq] at hx
  obtain ⟨hd,hp⟩:=hx
  have hbs:=bulk_slice ((List.range n).map D) ((List.range (m - n)).map fun j=>D (n + j))
  rw [← hd] at hbs
  have hn:n ≤ 1048576:=by have:=hbs.1; simp at this; omega
  obtain ⟨l,h1,h2,h3⟩:=slk_of (k:=3) (R:=StR) (W:=W) (a:=a) (n:=n) (m:=m) (P:=fun s=>(∀ x ∈ s.put,x.k.length ≤ 1048576 ∧ x.v.length ≤ 1048576) ∧ (∀ k ∈ s.gone,k.length ≤ 1048576) ∧ s.put.length ≤ 1048576 ∧ s.gone.length ≤ 1048576) (by omega) stR_len hl hm (fun i hi'=>by
   obtain ⟨ys,k,hD,_,hyl,hf⟩:=hi i (by omega)
   obtain ⟨v0,y0,c0,g0,t0⟩:=hf 0 _ rfl
   obtain ⟨v1,y1,c1,g1,t1⟩:=hf 1 _ rfl
   obtain ⟨v2,y2,c2,g2,t2⟩:=hf 2 _ rfl
   obtain ⟨x0,e0,_,w0⟩:=DataW.trod_int Try.underlying3 t0
   simp at e0
   subst e0
   have hbd:Rows.uptoBulk (D i) ≤ 1048576:=by
    have:=bulk_part (d:=D i) (l:=(List.range n).map D) (List.mem_map.2 ⟨i,List.mem_range.2 hi',rfl⟩)
    omega
   have hys:Rows.uptoBulkAll (ys.map (·.1)) ≤ 1048576:=by
    rw [hD] at hbd
    simp only [Rows.uptoBulk] at hbd
    omega
   have b1:=bulk_part (d:=y1.1) (l:=ys.map (·.1)) (List.mem_map.2 ⟨y1,List.mem_of_getElem? g1,rfl⟩)
   have b2:=bulk_part (d:=y2.1) (l:=ys.map (·.1)) (List.mem_map.2 ⟨y2,List.mem_of_getElem? g2,rfl⟩)
   obtain ⟨A1,n1,cc1,rfl⟩:∃ A n c,v1 = .slice A n c:=by
    rcases open_slice_fields Try.underlying32 Try.underlying44 (by kernel_rfl) it_cells2 t1 with ⟨hcs,_⟩ | ⟨a,len,cap,m,D,Pl,hcs,_⟩
    ·simp at hcs; exact ⟨_,_,_,hcs⟩
    ·simp at hcs; exact ⟨_,_,_,hcs⟩
   obtain ⟨lp,hp1,hp2,hp3⟩:=open_items ⟨_,t1⟩ (by omega)
   obtain ⟨lg,hg1,hg2,hg3⟩:=open_keys t2 (by omega)
   refine ⟨(⟨x0,lp,lg⟩,[.int .i64 x0,.slice A1 n1 cc1,v2]),⟨_,_,rfl,hp1,hg1⟩,⟨hp3,hg3,hp2,hg2⟩,fun j u hu=>?_⟩
   match j,hu with
   | 0,hu=>simp at hu; subst hu; exact c0
   | 1,hu=>simp at hu; subst hu; exact c1
   | 2,hu=>simp at hu; subst hu; exact c2
   | j + 3,hu=>simp at hu)
  exact ⟨l,h1,by omega,h3⟩
end
end Go.Proofs.Ytkolacaceaamoaa
