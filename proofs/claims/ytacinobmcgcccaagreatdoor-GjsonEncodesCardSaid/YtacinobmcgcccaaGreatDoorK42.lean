/- How a plan comes in; what the rows of this chapter lay. -/
import Derived.Test.YtacinobmcgcccaaGreatDoorK41
import Derived.Test.YtacinobmcgcccaaGreatDoorCards
import Derived.Lib.LaidU8T
import Derived.Lib.LaidTab
import Derived.Lib.SmallJoins
import Derived.ChangeMaps5
import Derived.Lay
import Derived.LaidSub
set_option linter.unusedSimpArgs false
set_option linter.unusedVariables false
namespace Go.Proofs.YtacinobmcgcccaaGreatDoor
open Go.ChangeShapes Go.WideShapes Go.ChangeAt Go.RowKit Go.Deep
def u8ren:Go.Shelf.Ren:=⟨fun n=>n,fun|5=>5|119=>197|138=>199|139=>200|n=>n,fun|3=>0|4=>1|n=>n⟩
theorem u8types:U8Types Tryz.prog u8ren:=⟨Tryz.underlying5,Tryz.underlying197,Tryz.underlying199,Tryz.underlying200⟩
theorem u8extra:U8Extra Tryz.prog u8ren:=⟨by kernel_rfl,by kernel_rfl,by kernel_rfl,by kernel_rfl,by kernel_rfl,by kernel_rfl,by kernel_rfl⟩
theorem laid_vars {P:Program} {w:World}:∀ {l:List (String × DataW Unit)} {ps:List MemPlace},DataW.LaidVars P w l ps → ∀ {n:String} {d:DataW Unit},(n,d)∈l →
 ∃ g t cs fuel p,P.globalNamed n=some g∧(P.globals[g]?).map (·.type)=some t∧w.var? P n=some cs∧DataW.trod (fun _=>()) P w 0 (fun _=>true) false fuel t cs.toList=some (d,p)
 | [],_,_,_,_,hm=>by cases hm
 | (n',d') :: r,ps,h,n,d,hm=>by
  obtain ⟨g,t,cs,fuel,p,q,h1,h2,h3,h4,h5,_⟩:=h;rcases List.mem_cons.1 hm with e|e
  ·cases e;exact ⟨g,t,cs,fuel,p,h1,h2,h3,h4⟩
  ·exact laid_vars h5 e
theorem i64_wf2 {n:Int} (h:(Lit.int .i64 n).wf=true):-9223372036854775808≤n∧n<9223372036854775808:=by
 have h1:IntKind.i64.min≤n∧n≤IntKind.i64.max:=by simpa [Lit.wf] using h
 have e1:IntKind.i64.min = -9223372036854775808:=by decide
 have e2:IntKind.i64.max=9223372036854775807:=by decide
 omega
theorem laid_reads {P:Program} {w:World} {l:List (String × DataW Unit)} (h:laidMet P l w) {n:String} {d:DataW Unit} (hm:(n,d)∈l) :
 ∃ g t cs fuel p,P.globalNamed n=some g∧(P.globals[g]?).map (·.type)=some t∧w.var? P n=some cs∧DataW.trod (fun _=>()) P w 0 (fun _=>true) false fuel t cs.toList=some (d,p):=by
 obtain ⟨ps,hv,_⟩:=h;exact laid_vars hv hm
theorem gt_of_laid {W : World} {l : List (String × DataW Unit)} (h0 : laidMetH Tryz.prog l W) (hl : (l.all fun x => x.2.handleName?.isNone) = true) {i j k : Nat} (h1 : l[i]? = some ("unicode/utf8.first", Lib.firstData)) (h2 : l[j]? = some ("unicode/utf8.acceptRanges", Lib.acceptData)) (h3 : l[k]? = some ("internal/strconv.uint64pow10", Lib.tabData .u64 Lib.pow10Tab)) : GT W := by
 have h:=(laidMetH_iff.1 h0).1;rw [List.filter_eq_self.2 (fun x hx=>List.all_eq_true.1 hl x hx)] at h;refine ⟨utf8Tabs_of_readsT u8types u8extra (Lib.laidMet.reads h (List.mem_of_getElem? h1)) (Lib.laidMet.reads h (List.mem_of_getElem? h2)),?_⟩;obtain ⟨g,t,cs,fuel,p,hg,hty,hv,hd⟩:=laid_reads h (List.mem_of_getElem? h3);obtain rfl:=Option.some.inj (pow_named.symm.trans hg);obtain rfl:=Option.some.inj ((show (Tryz.prog.globals[2]?).map (·.type)=some 249 by kernel_rfl).symm.trans hty);unfold Lib.TabIs;rw [hv,← Lib.cells_of_tab Tryz.underlying249 Tryz.underlying78 (by kernel_rfl) (by kernel_rfl) hd]
theorem weights_mem_all {H:Type} {P:Program} {e:TypeId}:∀ {ds:List (DataW H)} {d:DataW H},d∈ds → ∀ n∈d.weights P e,n∈DataW.weightsAll P e ds
 | x :: ds,d,hd,n,hn=>by
   simp only [DataW.weightsAll,List.mem_append];rcases List.mem_cons.1 hd with rfl|hd
   ·exact .inl hn
   ·exact .inr (weights_mem_all hd n hn)
theorem pt_cells:Tryz.prog.cellsOf TPt=2:=by kernel_rfl
theorem pt_bytes:Tryz.prog.bytesOf TPt=16:=by kernel_rfl
theorem pc_cells:Tryz.prog.cellsOf TPc=3:=by kernel_rfl
theorem pc_bytes:Tryz.prog.bytesOf TPc=48:=by kernel_rfl
section
variable {H:Type} {enc:TypeId × Value→H} {W:World}
theorem open_ring {v:Value} {fuel:Nat} {y:DataW H × List MemPlace} (h:DataW.trod enc Tryz.prog W 0 (fun _=>true) true fuel 23 [v]=some y) (hw:∀ x∈y.1.weights Tryz.prog 23,x≤reachBytes) :
 ∃ A n c l,v=.slice A n c∧PR W W.heap.size A n l∧n≤c∧c≤maxLen∧n≤8796093022208:=by
 rcases open_slice_fields Tryz.underlying23 Tryz.underlying56 (by kernel_rfl) pt_cells h with ⟨hcs,_⟩|⟨a,len,cap,m,D,Pl,hcs,_,hl,hm,hmm,hx,hi⟩
 ·simp at hcs;subst hcs;exact ⟨none,0,0,[],rfl,Sl.nil _,Nat.le_refl _,Nat.zero_le _,Nat.zero_le _⟩
 ·simp at hcs;subst hcs;simp only [if_pos] at hmm;subst hmm;obtain ⟨hd,hp⟩:=Prod.mk.inj (show (y.1,y.2)=_ from hx);have hwn:=hw ((((List.range len).map D).length+((List.range (m - len)).map fun j=>D (len+j)).length) * Tryz.prog.bytesOf TPt) (by rw [hd];simp [DataW.weights,Tryz.underlying23]);rw [pt_bytes] at hwn;simp [reachBytes] at hwn;obtain ⟨l,hll,hlc⟩:=list_of_fn (P:=fun i (p:Pt)=>∀ j u,p.enc[j]? = some u→W.cell? (a.add (i * 2+j))=some u) len (fun i hi'=>by
   obtain ⟨ys,k,hD,_,_,hf⟩:=hi i (by omega);obtain ⟨v0,y0,c0,_,t0⟩:=hf 0 _ rfl;obtain ⟨v1,y1,c1,_,t1⟩:=hf 1 _ rfl;obtain ⟨x0,e0,_,w0⟩:=DataW.trod_int Tryz.underlying3 t0;obtain ⟨x1,e1,_,w1⟩:=DataW.trod_int Tryz.underlying3 t1;simp at e0 e1;subst e0 e1;refine ⟨⟨x0,x1⟩,fun j u hu=>?_⟩
   match j,hu with
   | 0,hu=>simp [Pt.enc] at hu;subst hu;exact c0
   | 1,hu=>simp [Pt.enc] at hu;subst hu;exact c1
   | j+2,hu=>simp [Pt.enc] at hu)
  refine ⟨some a,len,m,l,rfl,?_,hl,hm,by omega⟩;rcases Nat.eq_zero_or_pos len with h0|h0
  ·subst h0;have:l=[]:=List.eq_nil_of_length_eq_zero hll;subst this;exact Sl.nil _
  ·refine Sl.mk Pt.enc_len (by omega) hll ?_ (fun i hi'=>hlc i hi');have:=cell_lt (hlc 0 (by omega) 0 _ rfl);rw [block_of_add] at this;exact this
theorem open_parcels {v:Value} {fuel:Nat} {y:DataW H × List MemPlace} (h:DataW.trod enc Tryz.prog W 0 (fun _=>true) true fuel 24 [v]=some y) (hw:∀ x∈y.1.weights Tryz.prog 24,x≤reachBytes) :
 ∃ A n c l,v=.slice A n c∧PsR W W.heap.size A n l∧n≤c∧c≤maxLen∧n≤8796093022208:=by
 rcases open_slice_fields Tryz.underlying24 Tryz.underlying43 (by kernel_rfl) pc_cells h with ⟨hcs,_⟩|⟨a,len,cap,m,D,Pl,hcs,_,hl,hm,hmm,hx,hi⟩
 ·simp at hcs;subst hcs;exact ⟨none,0,0,[],rfl,⟨Sl.nil _,fun v hv=>by cases hv⟩,Nat.le_refl _,Nat.zero_le _,Nat.zero_le _⟩
 ·simp at hcs;subst hcs;simp only [if_pos] at hmm;subst hmm;obtain ⟨hd,hp⟩:=Prod.mk.inj (show (y.1,y.2)=_ from hx);have hwn:=hw ((((List.range len).map D).length+((List.range (m - len)).map fun j=>D (len+j)).length) * Tryz.prog.bytesOf TPc) (by rw [hd];simp [DataW.weights,Tryz.underlying24]);rw [pc_bytes] at hwn;simp [reachBytes] at hwn;obtain ⟨l,hll,hlc⟩:=list_of_fn (P:=fun i (p:Pv)=>PvOk W W.heap.size p ∧ ∀ j u,p.enc[j]? = some u→W.cell? (a.add (i * 3+j))=some u) len (fun i hi'=>by
   obtain ⟨ys,k,hD,_,_,hf⟩:=hi i (by omega);obtain ⟨v0,y0,c0,g0,t0⟩:=hf 0 _ rfl;obtain ⟨v1,y1,c1,g1,t1⟩:=hf 1 _ rfl;obtain ⟨v2,y2,c2,g2,t2⟩:=hf 2 _ rfl;have hin:∀ x∈(D i).weights Tryz.prog TPc,x≤reachBytes:=fun x hx=>hw x (by
    rw [hd];simp only [DataW.weights,Tryz.underlying24];exact List.mem_cons_of_mem _ (List.mem_append_left _ (weights_mem_all (d:=D i) (List.mem_map.2 ⟨i,List.mem_range.2 hi',rfl⟩) x hx)))
   obtain ⟨x0,e0,_,w0⟩:=DataW.trod_int Tryz.underlying3 t0;obtain ⟨A1,n1,c1',l1,e1,r1,q1,q2,q3⟩:=open_ring t1 (fun x hx=>hin x (by
    rw [hD];simp only [DataW.weights,Tryz.underlying43];refine DataW.weights_mem_each (j:=1) (t:=23) (d:=y1.1) rfl ?_ x hx;rw [List.getElem?_map,g1];rfl))
   obtain ⟨s,e2,hy2,_⟩:=DataW.trod_string Tryz.underlying9 t2;have hs:s.size≤140737488355328:=by
    have:=hin s.data.toList.length (by
     rw [hD];simp only [DataW.weights,Tryz.underlying43];refine DataW.weights_mem_each (j:=2) (t:=9) (d:=y2.1) rfl ?_ _ ?_
     ·rw [List.getElem?_map,g2];rfl
     ·rw [hy2];simp [DataW.weights])
    simp [reachBytes] at this;have e:s.data.size=s.size:=rfl;omega
   simp at e0 e2;subst e0 e1 e2;refine ⟨⟨⟨x0,l1,s⟩,A1,n1,c1'⟩,⟨r1,q1,q2,q3,(show -9223372036854775808≤x0∧x0≤9223372036854775807 from by have:=i64_wf2 w0;omega),hs⟩,fun j u hu=>?_⟩
   match j,hu with
   | 0,hu=>simp [Pv.enc] at hu;subst hu;exact c0
   | 1,hu=>simp [Pv.enc] at hu;subst hu;exact c1
   | 2,hu=>simp [Pv.enc] at hu;subst hu;exact c2
   | j+3,hu=>simp [Pv.enc] at hu)
  refine ⟨some a,len,m,l,rfl,⟨?_,fun x hx=>by obtain ⟨i,hi',rfl⟩:=List.getElem_of_mem hx;exact (hlc i hi').1⟩,hl,hm,by omega⟩;rcases Nat.eq_zero_or_pos len with h0|h0
  ·subst h0;have:l=[]:=List.eq_nil_of_length_eq_zero hll;subst this;exact Sl.nil _
  ·refine Sl.mk Pv.enc_len (by omega) hll ?_ (fun i hi'=>(hlc i hi').2);have:=cell_lt ((hlc 0 (by omega)).2 0 _ rfl);rw [block_of_add] at this;exact this
theorem pl_cells:Tryz.prog.cellsOf TPl=2:=by kernel_rfl
set_option maxRecDepth 100000 in
theorem open_plan {r:Reach} {b0:Nat} {v:Value} {d:DataW H} {p:List MemPlace} (hv:Value.okWide Tryz.prog W r b0 TPl v) (h:DataW.Trod enc Tryz.prog W 0 (fun _=>true) true TPl v d p) (hw:∀ x∈d.weights Tryz.prog TPl,x≤reachBytes) :
 ∃ P:PlV,v=P.val∧PlOk W W.heap.size P:=by
 obtain ⟨c0,c1,y0,y1,m,rfl,rfl,_,h0,h1⟩:=Joins.open_agg2 Tryz.underlying26 (by kernel_rfl) pl_cells hv h;obtain ⟨A,n,c,l,rfl,r1,q1,q2,q3⟩:=open_ring h0 (fun x hx=>hw x (by
  simp only [DataW.weights,Tryz.underlying26];exact DataW.weights_mem_each (j:=0) (t:=23) (d:=y0.1) rfl rfl x hx))
 obtain ⟨A',n',c',l',rfl,r1',q1',q2',q3'⟩:=open_parcels h1 (fun x hx=>hw x (by
  simp only [DataW.weights,Tryz.underlying26];exact DataW.weights_mem_each (j:=1) (t:=24) (d:=y1.1) rfl rfl x hx))
 exact ⟨⟨A,n,c,l,A',n',c',l'⟩,rfl,r1,q1,q2,q3,r1',q1',q2',q3'⟩
end
end Go.Proofs.YtacinobmcgcccaaGreatDoor
