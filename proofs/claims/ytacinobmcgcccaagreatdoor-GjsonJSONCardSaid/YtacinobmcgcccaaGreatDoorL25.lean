/- The JSON reader: enough fuel; Parse. -/
import Derived.Test.YtacinobmcgcccaaGreatDoorL24
import Derived.Defers
import Derived.Recover
import Derived.Lib.ConvBytes
import Derived.Lib.SmallJoins
import Derived.Lib.AppendStr
set_option linter.unusedSimpArgs false
set_option linter.unusedVariables false
namespace Go.Proofs.YtacinobmcgcccaaGreatDoor
open Go.RowKit
theorem vm_all:∀ f,ValC f∧ManyC f:=by
 intro f
 induction f using Nat.strongRecOn with
 | ind f ih=>
   cases f with
   | zero=>
     refine ⟨?_,?_⟩
     ·intro w rb A n c b T dp h hT hr2 hdp hin;exact (hin [] (by simp [valF])).elim
     ·intro w rb vb A n c b T kind shut dp t dpi hdpi h hT hr2 hv2 hvr hvA hB hdp hsh hk0 hin;exact (hin [] (by simp [manyF])).elim
   | succ f=>exact ⟨val_step f (ih f (by omega)).2,many_step f (fun g hg=>(ih g (by omega)).1)⟩
theorem Got.In.bind {α β:Type} {g:Got α} {f:α→Got β} (h:g.In) (hf:∀ x,g=.ok x→(f x).In):(g.bind f).In:=by
 cases g with
 | ok x=>exact hf x rfl
 | bad p e=>intro q hq;exact h q (by injection hq with h1 h2;rw [h1,h2])
theorem Got.In.ok {α:Type} (x:α):(Got.ok x).In:=fun p e=>by cases e
theorem nextS_In (s:L8):(nextS s).In:=by
 intro p e;unfold nextS at e;split at e
 ·injection e with _ e;cases e
 ·cases e
theorem wantS_In (k:Nat) (T:Tk):(wantS k T).In:=by
 unfold wantS;split
 ·exact nextS_In _
 ·intro p e;injection e with _ e;cases e
mutual
theorem valF_In:∀ (f dp:Nat) (T:Tk),3 * T.W+1≤f→(valF f dp T).In
 | 0,_,_,h=>by omega
 | f+1,dp,T,h=>by
   unfold valF;split
   ·exact (nextS_In _).bind fun _ _=>Got.In.ok _
   ·split
    ·next hk=>exact manyF_In f 6 93 (dp+1) T.t T (by omega) (by omega) (by omega)
    ·split
     ·next hk=>exact manyF_In f 7 125 (dp+1) T.t T (by omega) (by omega) (by omega)
     ·intro p e;injection e with _ e;cases e
theorem manyF_In:∀ (f kind shut dp:Nat) (t:L8) (T:Tk),shut≠0→T.k≠0→3 * T.W≤f→(manyF f kind shut dp t T).In
 | 0,_,_,_,_,T,_,hk,h=>by have:=W_of hk;omega
 | f+1,kind,shut,dp,t,T,h0,hk,h=>by
   unfold manyF;split
   ·intro p e;injection e with _ e;cases e
   ·refine (nextS_In _).bind fun T1 h1=>?_
    have a:=nextS_W h1;have b:=W_of hk;exact loopF_In f kind shut dp T1 true t [] [] h0 (by omega)
theorem loopF_In:∀ (f kind shut dp:Nat) (T:Tk) (first:Bool) (t:L8) (ks:List L8) (vs:List JV),shut≠0→3 * T.W+2≤f→(loopF f kind shut dp T first t ks vs).In
 | 0,_,_,_,_,_,_,_,_,_,h=>by omega
 | f+1,kind,shut,dp,T,first,t,ks,vs,h0,h=>by
   unfold loopF;split
   ·exact (nextS_In _).bind fun _ _=>Got.In.ok _
   ·refine Got.In.bind ?_ fun T2 h1=>?_
    ·cases first
     ·exact wantS_In _ _
     ·exact Got.In.ok _
    ·have a:T2.W≤T.W:=by
      cases first
      ·exact Nat.le_of_lt (wantS_W (by decide) h1)
      ·injection h1 with h1;subst h1;exact Nat.le_refl _
     split
     ·refine (wantS_In _ _).bind fun T3 h3=>(wantS_In _ _).bind fun T4 h4=>?_
      have b3:=wantS_W (by decide) h3;have b4:=wantS_W (by decide) h4;refine (valF_In f dp T4 (by omega)).bind fun v h5=>?_
      have b5:=valF_W f dp T4 v h5;exact loopF_In f kind shut dp v.2 false t _ _ h0 (by omega)
     ·refine (valF_In f dp T2 (by omega)).bind fun v h5=>?_
      have b5:=valF_W f dp T2 v h5;exact loopF_In f kind shut dp v.2 false t _ _ h0 (by omega)
end
def parseS (b:L8):Got JV:=if 262144<b.length then .bad b 12 else
 (nextS b).bind fun T0=>(valF (3 * b.length+4) 0 T0).bind fun r=>if r.2.k=0 then .ok r.1 else .bad r.2.ts 11
abbrev TIn:TypeId:=3
abbrev TE:TypeId:=30
def isO (bv ba be:Nat):Nat→Prop:=fun j=>j=bv∨j=ba∨j=be
theorem assert_fault (v:Value) (xT:TypeId) (w:World):(Instr.typeAssert (.iface 70 v) xT 70 true).run Tryz.prog w=.ok (.tuple #[v,.bool true]) w:=by
 simp [Instr.typeAssert,run_underlying Tryz.underlying70]
set_option maxRecDepth 100000 in
theorem catch_fault (bv ba be:Nat) (ta e0:Nat) (x0 x1 x2 x3 x4 x5:Value) (w:World) (hv:Blk w bv TV #[x0,x1,x2,x3]) (ha:Blk w ba TIn #[x4]) (he:Blk w be TE #[x5]) (h1:bv≠ba) (h2:bv≠be) (h3:ba≠be) :
 CallsD Tryz.prog 32 #[.pointer (some ⟨bv,0,none⟩),.pointer (some ⟨ba,0,none⟩),.pointer (some ⟨be,0,none⟩)] (.panicking (flt ta e0)) w fun e u' w'=>
  e=.returned (.tuple #[])∧u'=.panicking [{ v:=.iface 70 (.agg #[.int .i64 (ta:Int),.int .i64 (e0:Int)]),recovered:=true }] ∧
   Blk w' bv TV #[.int .i64 0,.string ⟨#[]⟩,.slice none 0 0,.slice none 0 0]∧Blk w' ba TIn #[.int .i64 (ta:Int)]∧Blk w' be TE #[.int .i64 (e0:Int)]∧Fr (isO bv ba be) w w':=by
 unfold flt;refine callsD_of_wpS Tryz.func32 rfl fun c₀ cs hu=>?_
 apply wpS_seq;apply wpS_region;simp [wpOpsS,go_sem,recoverD,hu,Tryz.ntmps32,Exit.thenS,Array.replicate,List.replicate];obtain ⟨cs2,hcs⟩:∃ cs2,({ fn:=c₀.fn,tmps:=c₀.tmps,todo:=c₀.todo,defers:=c₀.defers,mode:=FrameMode.panicking [{ v:=.iface 70 (.agg #[.int .i64 (ta:Int),.int .i64 (e0:Int)]),recovered:=true }],kind:=c₀.kind,roundOf:=c₀.roundOf }:Frame) :: cs=cs2:=⟨_,rfl⟩;refine wpS_of_wp ?_;have kv:=hv.cell;have fv:=hv.frozen;have zv:=hv.lt;have ka:=ha.cell;have fa:=ha.frozen;have za:=ha.lt;have ke:=he.cell;have fe:=he.frozen;have ze:=he.lt;have HV:=hide hv;have HA:=hide ha;have HE:=hide he;have hta:=assert_fault;clear hv ha he hcs hu;go_upto_region 5 with fail
 obtain ⟨w1,hw1⟩:∃ w1,w.alloc (.cells #[.int .i64 (ta:Int),.int .i64 (e0:Int)] 70)=w1:=⟨_,rfl⟩;have HF0:=hide (show Below w.heap.size w w1 from hw1 ▸ al_below w _);have HG1:=hide (show Blk w1 w.heap.size 70 #[.int .i64 (ta:Int),.int .i64 (e0:Int)] from hw1 ▸ Blk.new _ _ _);rw [hw1];clear hw1 kv fv ka fa ke fe hta;have HV1:=hide (HV.out.below HF0.out HV.out.lt);have HA1:=hide (HA.out.below HF0.out HA.out.lt);have HE1:=hide (HE.out.below HF0.out HE.out.lt);refine wp_region_dag (by kernel_rfl) (by kernel_rfl) 22 3
  [⟨some 17,[0,1,2,3],[],[],[],[],fun _ _ v _=>v=.agg #[.int .i64 0,.string ⟨#[]⟩,.slice none 0 0,.slice none 0 0]⟩,
   ⟨some 18,[0,1,2,3],[],[],[],[],fun _ _ v _=>v=.pointer (some ⟨w.heap.size,0,none⟩)⟩,
   ⟨some 19,[0,1,2,3],[],[],[1],[],fun _ _ v _=>v=.int .i64 (ta:Int)⟩,
   ⟨some 20,[0,1,2,3],[],[],[],[],fun _ _ v _=>v=.pointer (some ⟨w.heap.size,1,none⟩)⟩,
   ⟨some 21,[0,1,2,3],[],[],[3],[],fun _ _ v _=>v=.int .i64 (e0:Int)⟩,
   ⟨none,[0],[(0,1)],[1,2,3],[0],[],fun _ _ _ _=>True⟩,
   ⟨none,[1],[(1,2)],[2,3],[2],[],fun _ _ _ _=>True⟩,
   ⟨none,[2],[(2,3)],[3],[4],[],fun _ _ _ _=>True⟩] (fun s w'=>Fr (isO bv ba be) w1 w'∧Blk w' w.heap.size 70 #[.int .i64 (ta:Int),.int .i64 (e0:Int)]∧Blk w' bv TV (if 1≤s then #[.int .i64 0,.string ⟨#[]⟩,.slice none 0 0,.slice none 0 0] else #[x0,x1,x2,x3])∧Blk w' ba TIn (if 2≤s then #[.int .i64 (ta:Int)] else #[x4])∧Blk w' be TE (if 3≤s then #[.int .i64 (e0:Int)] else #[x5])) (fun s s' _ _ _=>s<s') (fun _ w w'=>Below w.heap.size w w') ?gu ?ru ?put [17,18,19,20,21] rfl (by kernel_rfl) rfl ?g0 ?keep ?steps ?fin
 case ru=>
  intro e he s a v w w' hu hv;simp only [List.mem_cons,List.not_mem_nil,or_false] at he;rcases he with rfl|rfl|rfl|rfl|rfl|rfl|rfl|rfl
  all_goals first|exact hv
 case put=>
  intro e he s a d u v w hnd hv;simp only [List.mem_cons,List.not_mem_nil,or_false] at he;rcases he with rfl|rfl|rfl|rfl|rfl|rfl|rfl|rfl
  all_goals first|exact hv
 case keep=>
  intro e he s s' a v w w' hsl hm ht hv;simp only [List.mem_cons,List.not_mem_nil,or_false] at he;rcases he with rfl|rfl|rfl|rfl|rfl|rfl|rfl|rfl
  all_goals first|exact hv
 case steps=>
  refine ⟨?_,?_,?_,?_,?_,?_,?_,?_,trivial⟩
  ·intro st hst ac w3 hg hG hd K hK;dsimp only at hst hG hK;go_simp;exact hK _ _ bR rfl
  ·intro st hst ac w3 hg hG hd K hK;dsimp only at hst hG hK;have k4:=hg.kp 4 (by simp);(try simp [Act.eval] at k4);go_simp;exact hK _ _ bR rfl
  ·intro st hst ac w3 hg hG hd K hK;dsimp only at hst hG hK;have kk:=hG.2.1.cell 0;have zz:=hG.2.1.lt;simp at kk;clear hG;have f1:=hd 1 (by simp) _ rfl _ rfl;(try simp [Act.eval] at f1);go_simp;exact hK _ _ bR rfl
  ·intro st hst ac w3 hg hG hd K hK;dsimp only at hst hG hK;have k4:=hg.kp 4 (by simp);(try simp [Act.eval] at k4);go_simp;exact hK _ _ bR rfl
  ·intro st hst ac w3 hg hG hd K hK;dsimp only at hst hG hK;have kk:=hG.2.1.cell 1;have zz:=hG.2.1.lt;simp at kk;clear hG;have f3:=hd 3 (by simp) _ rfl _ rfl;(try simp [Act.eval] at f3);go_simp;exact hK _ _ bR rfl
  ·intro st st' hmv ac w3 hg hG hd K hK;simp only [List.mem_cons,Prod.mk.injEq,List.not_mem_nil,or_false] at hmv;obtain ⟨rfl,rfl⟩:=hmv;dsimp only at hG hK;have k0:=hg.kp 0 (by simp);have f0:=hd 0 (by simp) _ rfl _ rfl;have hB:=hG.2.2.1;simp only [show ¬ (1≤0) by decide,if_false] at hB;have kk:=hB.cell;have ff:=hB.frozen;have zz:=hB.lt;have HG:=hide hG;have HB:=hide hB;clear hG hB;simp [Act.eval] at k0 f0;go_simp;exact hK undef _ (by decide) ⟨HG.out.1.tr ((set4_fr w3 bv _ _ _ _).up (fun j e=>.inl e)),(set4_fr w3 bv _ _ _ _).blk HG.out.2.1 (by show ¬ w.heap.size=bv;omega),set4_blk HB.out _ _ _ _,(set4_fr w3 bv _ _ _ _).blk HG.out.2.2.2.1 (by show ¬ ba=bv;omega),(set4_fr w3 bv _ _ _ _).blk HG.out.2.2.2.2 (by show ¬ be=bv;omega)⟩ trivial
  ·intro st st' hmv ac w3 hg hG hd K hK;simp only [List.mem_cons,Prod.mk.injEq,List.not_mem_nil,or_false] at hmv;obtain ⟨rfl,rfl⟩:=hmv;dsimp only at hG hK;have k0:=hg.kp 1 (by simp);have f0:=hd 2 (by simp) _ rfl _ rfl;have hB:=hG.2.2.2.1;simp only [show ¬ (2≤1) by decide,if_false] at hB;have kk:=hB.cell;have ff:=hB.frozen;have zz:=hB.lt;have HG:=hide hG;have HB:=hide hB;clear hG hB;simp [Act.eval] at k0 f0;go_simp;exact hK undef _ (by decide) ⟨HG.out.1.tr ((Fr.of_grown (F:=fun j=>j=ba) (gby_set w3 ba 0 _) (fun k e=>by injection e with e;exact e.symm)).up (fun j e=>.inr (.inl e))),(Fr.of_grown (F:=fun j=>j=ba) (gby_set w3 ba 0 _) (fun k e=>by injection e with e;exact e.symm)).blk HG.out.2.1 (by show ¬ w.heap.size=ba;omega),(Fr.of_grown (F:=fun j=>j=ba) (gby_set w3 ba 0 _) (fun k e=>by injection e with e;exact e.symm)).blk HG.out.2.2.1 (by show ¬ bv=ba;omega),HB.out.set_ 0 _,(Fr.of_grown (F:=fun j=>j=ba) (gby_set w3 ba 0 _) (fun k e=>by injection e with e;exact e.symm)).blk HG.out.2.2.2.2 (by show ¬ be=ba;omega)⟩ trivial
  ·intro st st' hmv ac w3 hg hG hd K hK;simp only [List.mem_cons,Prod.mk.injEq,List.not_mem_nil,or_false] at hmv;obtain ⟨rfl,rfl⟩:=hmv;dsimp only at hG hK;have k0:=hg.kp 2 (by simp);have f0:=hd 4 (by simp) _ rfl _ rfl;have hB:=hG.2.2.2.2;simp only [show ¬ (3≤2) by decide,if_false] at hB;have kk:=hB.cell;have ff:=hB.frozen;have zz:=hB.lt;have HG:=hide hG;have HB:=hide hB;clear hG hB;simp [Act.eval] at k0 f0;go_simp;exact hK undef _ (by decide) ⟨HG.out.1.tr ((Fr.of_grown (F:=fun j=>j=be) (gby_set w3 be 0 _) (fun k e=>by injection e with e;exact e.symm)).up (fun j e=>.inr (.inr e))),(Fr.of_grown (F:=fun j=>j=be) (gby_set w3 be 0 _) (fun k e=>by injection e with e;exact e.symm)).blk HG.out.2.1 (by show ¬ w.heap.size=be;omega),(Fr.of_grown (F:=fun j=>j=be) (gby_set w3 be 0 _) (fun k e=>by injection e with e;exact e.symm)).blk HG.out.2.2.1 (by show ¬ bv=be;omega),(Fr.of_grown (F:=fun j=>j=be) (gby_set w3 be 0 _) (fun k e=>by injection e with e;exact e.symm)).blk HG.out.2.2.2.1 (by show ¬ ba=be;omega),HB.out.set_ 0 _⟩ trivial
 case gu=>intro s a b hG hu;exact ⟨hG.1.low hu,hG.2.1.below hu hG.2.1.lt,hG.2.2.1.below hu hG.2.2.1.lt,hG.2.2.2.1.below hu hG.2.2.2.1.lt,hG.2.2.2.2.below hu hG.2.2.2.2.lt⟩
 case g0=>exact ⟨(Fr.refl _ _).low (bR.drew),HG1.out,HV1.out,HA1.out,HE1.out⟩
 case fin=>
  intro f w5 hG hall;clear hall;obtain ⟨g1,g2,g3,g4,g5⟩:=hG;simp only [show (1≤3) by decide,show (2≤3) by decide,show (3≤3) by decide,if_true] at g3 g4 g5;have hr:=(Fr.of_below (F:=isO bv ba be) HF0.out).tr g1;simp +zetaDelta [Exit.then,bodyPostS,results,Tryz.results32];exact ⟨by rw [fillF_defers],g3,g4,g5,hr⟩
theorem catch_none (bv ba be:Nat) (w:World) :
 CallsD Tryz.prog 32 #[.pointer (some ⟨bv,0,none⟩),.pointer (some ⟨ba,0,none⟩),.pointer (some ⟨be,0,none⟩)] .returning w fun e u' w'=>e=.returned (.tuple #[])∧u'=.returning∧w'=w:=by
 refine callsD_of_wpS Tryz.func32 rfl fun c₀ cs hu=>?_
 apply wpS_seq;apply wpS_region;simp [wpOpsS,go_sem,recoverD,hu,Tryz.ntmps32,Exit.thenS,Array.replicate,List.replicate];refine wpS_of_wp ?_;obtain ⟨fn,tm,td,df,md,kd,ro⟩:=c₀;simp only at hu;subst hu
 go_wp2
 simp [bodyPostS,results,Tryz.results32]
abbrev FC:FuncId:=32
def ParseP (w:World) (n:Nat) (l:L8) (e:Ending) (w':World):Prop:=Below w.heap.size w w' ∧
 ((∃ J cs,parseS l=.ok J∧e=.returned (.tuple #[.agg cs.toArray,.int .i64 0,.int .i64 0])∧VRd w' (fun j=>w.heap.size≤j) J cs) ∨
 (∃ p e0,parseS l=.bad p e0∧e0≠0∧e=.returned (.tuple #[zTV,.int .i64 ((n - p.length:Nat):Int),.int .i64 (e0:Int)])))
theorem bel_o {w w5 w9:World} {B:Nat} (h:Below w.heap.size w w5) (hf:Fr (isO B (B+1) (B+2)) w5 w9) (hB:w.heap.size=B):Below w.heap.size w w9:=h.trans (hf.below h.size (fun j hj=>by rcases hj with e|e|e <;> omega))
theorem bel_g {w w4 w5:World} {B:Nat} (h:Below w.heap.size w w4) (hg:w4.grownBy w5 (some (B+3))) (hB:w.heap.size=B):Below w.heap.size w w5:=h.grown hg h.size (fun k e=>by injection e with e;omega)
theorem value_any (F:Nat) (w:World) (rb:Nat) (A:Option Addr) (n c:Nat) (b:L8) (T:Tk) (dp:Nat) (dpi:Int) (he:dpi=(dp:Int)) (h:RdT w rb A n c b T) (hT:Tabs w) (hr2:2≤rb) (hdp:dp≤1000) (hin:(valF F dp T).In) :
 Calls Tryz.prog 34 #[.pointer (some ⟨rb,0,none⟩),.int .i64 dpi] w fun e w'=>
 (∃ J T' cs,valF F dp T=.ok (J,T')∧e=.returned (.agg cs.toArray)∧VRd w' (fun j=>w.heap.size≤j) J cs∧RdT w' rb A n c b T'∧w.grownBy w' (some rb)) ∨
 (∃ p e0,valF F dp T=.bad p e0∧e=.panicked (flt (n - p.length) e0)∧w.grownBy w' (some rb)):=by
 subst he;exact (vm_all F).1 w rb A n c b T dp h hT hr2 hdp hin
set_option maxRecDepth 100000 in
set_option maxHeartbeats 400000 in
theorem parse_any (w:World) (A:Option Addr) (n c:Nat) (l:L8) (hr:RB w w.heap.size A n l) (hc:n≤c) (hT:Tabs w) (hA:∀ ad,A=some ad→ad.block<w.heap.size) :
 Calls Tryz.prog 13 #[.slice A n c] w fun e w'=>ParseP w n l e w':=by
 have hmf:∀ (fn:Fn) (first cap:Array Value) (w:World),(Instr.makeFunc fn first cap).run Tryz.prog w=.ok (.func fn first cap) w:=fun _ _ _ _=>rfl
 have hn:=hr.len;have HR:=hide hr;have HT:=hide hT;clear hr hT;by_cases hlg:262144<n
 ·have d1:decide ((262144:Int)<(n:Int))=true:=by simp;omega
  go_enter_defers Tryz.func13,Tryz.ntmps13
  go_wp2
  have hp:parseS l=.bad l 12:=by unfold parseS;rw [if_pos (by omega)]
  simp [bodyPostD,Leaves,settle,results,Tryz.results13,go_sem];exact ⟨((al_below w _).alloc (by simp) _).alloc (by simp;omega) _,.inr ⟨l,12,hp,by decide,by rw [hn,Nat.sub_self];rfl⟩⟩
 ·have d1:decide ((262144:Int)<(n:Int))=false:=by simp;omega
  go_enter_defers Tryz.func13,Tryz.ntmps13
  go_upto_region 5 with fail
  obtain ⟨w4,hw4⟩:∃ w4,((((w.alloc (.cells #[.int .i64 0,.string ⟨#[]⟩,.slice none 0 0,.slice none 0 0] TV)).alloc (.cells #[.int .i64 0] TIn)).alloc (.cells #[.int .i64 0] TE)).alloc (.cells #[.slice A n c,.int .i64 0,.int .i64 0,.int .i64 0,.string ⟨#[]⟩] TR))=w4:=⟨_,rfl⟩;rw [hw4];have hpb:Below w.heap.size w w4:=by
   rw [← hw4];exact (((al_below w _).alloc (by simp) _).alloc (by simp;omega) _).alloc (by simp;omega) _
  obtain ⟨B,hB⟩:∃ B,w.heap.size=B:=⟨_,rfl⟩;have hs4:w4.heap.size=B+4:=by rw [← hw4,← hB];simp
  have hv4:Blk w4 B TV #[.int .i64 0,.string ⟨#[]⟩,.slice none 0 0,.slice none 0 0]:=by
   rw [← hw4,← hB];exact (((Blk.new _ _ _).alloc _).alloc _).alloc _
  have ha4:Blk w4 (B+1) TIn #[.int .i64 0]:=by
   rw [← hw4,← hB,show w.heap.size+1=(w.alloc (.cells #[.int .i64 0,.string ⟨#[]⟩,.slice none 0 0,.slice none 0 0] TV)).heap.size by simp];exact ((Blk.new _ _ _).alloc _).alloc _
  have he4:Blk w4 (B+2) TE #[.int .i64 0]:=by
   rw [← hw4,← hB,show w.heap.size+2=((w.alloc (.cells #[.int .i64 0,.string ⟨#[]⟩,.slice none 0 0,.slice none 0 0] TV)).alloc (.cells #[.int .i64 0] TIn)).heap.size by simp];exact (Blk.new _ _ _).alloc _
  have hr4:Blk w4 (B+3) TR #[.slice A n c,.int .i64 0,.int .i64 0,.int .i64 0,.string ⟨#[]⟩]:=by
   rw [← hw4,← hB,show w.heap.size+3=(((w.alloc (.cells #[.int .i64 0,.string ⟨#[]⟩,.slice none 0 0,.slice none 0 0] TV)).alloc (.cells #[.int .i64 0] TIn)).alloc (.cells #[.int .i64 0] TE)).heap.size by simp];exact Blk.new _ _ _
  clear hw4;have HT4:=hide (HT.out.below hpb);have HPB:=hide hpb;have h2:=HT.out.size;have HAB:=hide (show ∀ ad,A=some ad→ad.block<B from fun ad e=>hB ▸ hA ad e);have H4:=hide (show RdT w4 (B+3) A n c l ⟨0,[],l,l⟩ from ⟨List.suffix_refl _,List.suffix_refl _,⟨by simpa [hn] using hr4,(HR.out.below hpb).more hpb.size,hc,fun ad e=>by have:=HAB.out ad e;omega,by omega,by omega⟩,fun ad e=>by have:=HAB.out ad e;omega⟩);have hP:parseS l=(nextS l).bind fun T0=>(valF (3 * l.length+4) 0 T0).bind fun r=>if r.2.k=0 then .ok r.1 else .bad r.2.ts 11:=by unfold parseS;rw [if_neg (by omega)]
  obtain ⟨F,hF⟩:∃ F,3 * l.length+4=F:=⟨_,rfl⟩;rw [hF] at hP;have HP:=hide hP;have HV4:=hide hv4;have HA4:=hide ha4;have HE4:=hide he4;clear hpb hv4 ha4 he4 hr4 hP hA;simp only [Nat.add_assoc,Nat.reduceAdd,hB];go_wp2_with (go_at_call 33;(refine (next_tk H4.out HT4.out (by omega)).mono ?_);rintro e w5 (⟨T0,h1,rfl,h2,h3⟩|⟨p,h1,rfl,h3⟩);rotate_left;(have HV5:=hide (blk_gb HV4.out h3 (by omega));have HA5:=hide (blk_gb HA4.out h3 (by omega));have HE5:=hide (blk_gb HE4.out h3 (by omega));have HB5:=hide (bel_g HPB.out h3 hB);have HP5:=hide (show parseS l=.bad p 11 by rw [HP.out,h1];rfl);clear h1 h3);rotate_left;have HV5:=hide (blk_gb HV4.out h3 (by omega));have HA5:=hide (blk_gb HA4.out h3 (by omega));have HE5:=hide (blk_gb HE4.out h3 (by omega));have HB5:=hide (bel_g HPB.out h3 hB);have H5:=hide h2;have HT5:=hide (HT4.out.grown h3 (by omega));have HW5:=nextS_W h1;have hsz5:=h3.size;have HP5:=hide (show parseS l=(valF F 0 T0).bind fun r=>if r.2.k=0 then .ok r.1 else .bad r.2.ts 11 by rw [HP.out,h1];rfl);clear h1 h2 h3)
  rotate_left
  ·refine leaves_cons (f:=FC) (args:=#[.pointer (some ⟨B,0,none⟩),.pointer (some ⟨B+1,0,none⟩),.pointer (some ⟨B+2,0,none⟩)]) (by simp) (by simp [go_sem]) ?_;refine (catch_fault B (B+1) (B+2) _ _ _ _ _ _ _ _ _ HV5.out HA5.out HE5.out (by omega) (by omega) (by omega)).mono ?_;rintro e u' w9 ⟨rfl,rfl,hv9,ha9,he9,hf9⟩;have kv9:=hv9.cell;have fv9:=hv9.frozen;have zv9:=hv9.lt;have ka9:=ha9.cell;have fa9:=ha9.frozen;have za9:=ha9.lt;have ke9:=he9.cell;have fe9:=he9.frozen;have ze9:=he9.lt;have HB9:=hide (show Below w.heap.size w w9 from bel_o HB5.out hf9 hB);clear hv9 ha9 he9 hf9;simp [Leaves,settle,results,Tryz.results13,go_sem,kv9,ka9,ke9];exact ⟨HB9.out,.inr ⟨_,_,HP5.out,(by decide),rfl⟩⟩
  have HIV:=hide (valF_In F 0 T0 (by omega));go_upto_region 7 with (go_at_call 34;(refine (value_any F w5 (B+3) A n c l T0 0 _ (by simp) H5.out HT5.out (by omega) (by omega) HIV.out).mono ?_);rintro e w6 (⟨J,T1,cs,h1,rfl,h2,h3,h4⟩|⟨p,e0,h1,rfl,h4⟩);rotate_left;(have HV6:=hide (blk_gb HV5.out h4 (by omega));have HA6:=hide (blk_gb HA5.out h4 (by omega));have HE6:=hide (blk_gb HE5.out h4 (by omega));have HB6:=hide (bel_g HB5.out h4 hB);have HP6:=hide (show parseS l=.bad p e0 by rw [HP5.out,h1];rfl);have he0:e0≠0:=fun e=>HIV.out p (by rw [h1,e]);clear h1 h4);rotate_left;(obtain ⟨v1,v2,v3,v4,v5,v6,v7,v8,rfl⟩:=h2.four);have HV6:=hide (blk_gb HV5.out h4 (by omega));have HA6:=hide (blk_gb HA5.out h4 (by omega));have HE6:=hide (blk_gb HE5.out h4 (by omega));have HB6:=hide (bel_g HB5.out h4 hB);have H6:=hide h3;have HT6:=hide (HT5.out.grown h4 (by omega));have hsz6:=h4.size;have HJ6:=hide h2;have HP6:=hide (show parseS l=if T1.k=0 then .ok J else .bad T1.ts 11 by rw [HP5.out,h1];rfl);have kb6:=HV6.out.cell;have fb6:=HV6.out.frozen;have zb6:=HV6.out.lt;have kr6:=H6.out.rd.blk.cell;have fr6:=H6.out.rd.blk.frozen;have zr6:=H6.out.rd.blk.lt;clear h1 h2 h3 h4)
  rotate_left
  ·refine leaves_cons (f:=FC) (args:=#[.pointer (some ⟨B,0,none⟩),.pointer (some ⟨B+1,0,none⟩),.pointer (some ⟨B+2,0,none⟩)]) (by simp) (by simp [go_sem]) ?_;refine (catch_fault B (B+1) (B+2) _ _ _ _ _ _ _ _ _ HV6.out HA6.out HE6.out (by omega) (by omega) (by omega)).mono ?_;rintro e u' w9 ⟨rfl,rfl,hv9,ha9,he9,hf9⟩;have kv9:=hv9.cell;have fv9:=hv9.frozen;have zv9:=hv9.lt;have ka9:=ha9.cell;have fa9:=ha9.frozen;have za9:=ha9.lt;have ke9:=he9.cell;have fe9:=he9.frozen;have ze9:=he9.lt;have HB9:=hide (show Below w.heap.size w w9 from bel_o HB6.out hf9 hB);clear hv9 ha9 he9 hf9;simp [Leaves,settle,results,Tryz.results13,go_sem,kv9,ka9,ke9];exact ⟨HB9.out,.inr ⟨_,_,HP6.out,he0,rfl⟩⟩
  obtain ⟨w7,hw7⟩:∃ w7,set4 w6 B (.int .i64 v1) (.string v2) (.slice v3 v4 v5) (.slice v6 v7 v8)=w7:=⟨_,rfl⟩;refine id (show Code.wp _ _ _ _ (set4 w6 B (.int .i64 v1) (.string v2) (.slice v3 v4 v5) (.slice v6 v7 v8)) from ?_);have hf7:Fr (fun j=>j=B) w6 w7:=hw7 ▸ set4_fr w6 B _ _ _ _;have HV7:=hide (show Blk w7 B TV #[.int .i64 v1,.string v2,.slice v3 v4 v5,.slice v6 v7 v8] from hw7 ▸ set4_blk HV6.out _ _ _ _);have HA7:=hide (hf7.blk HA6.out (by show ¬ B+1=B;omega));have HE7:=hide (hf7.blk HE6.out (by show ¬ B+2=B;omega));have HB7:=hide (show Below w.heap.size w w7 from HB6.out.trans (hf7.below HB6.out.size (fun j hj=>by show w.heap.size≤j;subst hj;omega)));have H7:=hide (H6.out.fr hf7 (by show ¬ B+3=B;omega) (fun ad e=>by show ¬ ad.block=B;have:=HAB.out ad e;omega));have HJ7:=hide (show VRd w7 (fun j=>w5.heap.size≤j) J [.int .i64 v1,.string v2,.slice v3 v4 v5,.slice v6 v7 v8] from by rw [← hw7];exact VRd.keep (fun j hj=>set4_heap w6 (by have:w5.heap.size≤j:=hj;omega) _ _ _ _) (fun _ h=>h) _ _ HJ6.out);rw [hw7];have hsz7:w6.heap.size≤w7.heap.size:=hf7.size;clear hw7 hf7 kb6 fb6 zb6 kr6 fr6 zr6 HV6 HA6 HE6 HB6 H6 HJ6;have kb7:=HV7.out.cell;have fb7:=HV7.out.frozen;have zb7:=HV7.out.lt;have kr7:=H7.out.rd.blk.cell;have fr7:=H7.out.rd.blk.frozen;have zr7:=H7.out.rd.blk.lt;by_cases hk0:T1.k=0
  ·have dk:decide ((T1.k:Int)=0)=true:=by simp;omega
   have dk2:((T1.k:Int) != 0)=false:=by simp;omega
   have HPk:=hide (show parseS l=.ok J by rw [HP6.out,if_pos hk0]);have ka7:=HA7.out.cell;have fa7:=HA7.out.frozen;have za7:=HA7.out.lt;have ke7:=HE7.out.cell;have fe7:=HE7.out.frozen;have ze7:=HE7.out.lt
   go_wp2
   obtain ⟨w8,hw8⟩:∃ w8,(((set4 w7 B (.int .i64 v1) (.string v2) (.slice v3 v4 v5) (.slice v6 v7 v8)).setCell ⟨B+1,0,none⟩ (.int .i64 0)).setCell ⟨B+2,0,none⟩ (.int .i64 0))=w8:=⟨_,rfl⟩;refine id (show bodyPostD _ _ _ _ _ (((set4 w7 B (.int .i64 v1) (.string v2) (.slice v3 v4 v5) (.slice v6 v7 v8)).setCell ⟨B+1,0,none⟩ (.int .i64 0)).setCell ⟨B+2,0,none⟩ (.int .i64 0)) from ?_);have hv8:Blk w8 B TV #[.int .i64 v1,.string v2,.slice v3 v4 v5,.slice v6 v7 v8]:=hw8 ▸ ((set4_blk HV7.out _ _ _ _).far (by simp) _).far (by simp) _;have ha8:Blk w8 (B+1) TIn #[.int .i64 0]:=hw8 ▸ (((set4_fr w7 B _ _ _ _).blk HA7.out (by show ¬ B+1=B;omega)).set_ 0 _).far (by simp) _;have he8:Blk w8 (B+2) TE #[.int .i64 0]:=hw8 ▸ (((set4_fr w7 B _ _ _ _).blk HE7.out (by show ¬ B+2=B;omega)).far (by simp) _).set_ 0 _;have hf8:Fr (isO B (B+1) (B+2)) w7 w8:=hw8 ▸ ((set4_fr w7 B _ _ _ _).up (fun j e=>.inl e)).tr (Fr.tr (Fr.of_grown (gby_set _ (B+1) 0 _) (fun k e=>by injection e with e;exact .inr (.inl e.symm))) (Fr.of_grown (gby_set _ (B+2) 0 _) (fun k e=>by injection e with e;exact .inr (.inr e.symm))));rw [hw8];have HB8:=hide (bel_o HB7.out hf8 hB);have HJ8:=hide (VRd.keep (w':=w8) (F:=fun j=>w5.heap.size≤j∧j<w7.heap.size) (F':=fun j=>w.heap.size≤j) (fun j hj=>hf8.block j hj.2 (fun e=>by have:=hj.1;rcases e with e|e|e <;> omega)) (fun j hj=>by have:=hj.1;show w.heap.size≤j;omega) _ _ HJ7.out.lt);have kv8:=hv8.cell;have ka8:=ha8.cell;have ke8:=he8.cell;clear hw8 hf8 hv8 ha8 he8 kb7 fb7 zb7 kr7 fr7 zr7 ka7 fa7 za7 ke7 fe7 ze7;refine leaves_cons (f:=FC) (args:=#[.pointer (some ⟨B,0,none⟩),.pointer (some ⟨B+1,0,none⟩),.pointer (some ⟨B+2,0,none⟩)]) (by simp) (by simp [go_sem]) ?_;refine (catch_none B (B+1) (B+2) w8).mono ?_;rintro e u' w9 ⟨rfl,rfl,rfl⟩;simp [Leaves,settle,results,Tryz.results13,go_sem,kv8,ka8,ke8];exact ⟨HB8.out,.inl ⟨J,_,HPk.out,rfl,HJ8.out⟩⟩
  ·have dk:decide ((T1.k:Int)=0)=false:=by simp;omega
   have dk2:((T1.k:Int) != 0)=true:=by simp;omega
   have HPk:=hide (show parseS l=.bad T1.ts 11 by rw [HP6.out,if_neg hk0]);go_wp2_with (go_at_call 35;(refine (fail_tk 11 H7.out).mono ?_);rintro e w8 ⟨rfl,hg⟩)
   have HV8:=hide (blk_gb HV7.out hg (by omega));have HA8:=hide (blk_gb HA7.out hg (by omega));have HE8:=hide (blk_gb HE7.out hg (by omega));have HB8:=hide (bel_g HB7.out hg hB);refine leaves_cons (f:=FC) (args:=#[.pointer (some ⟨B,0,none⟩),.pointer (some ⟨B+1,0,none⟩),.pointer (some ⟨B+2,0,none⟩)]) (by simp) (by simp [go_sem]) ?_;refine (catch_fault B (B+1) (B+2) _ _ _ _ _ _ _ _ _ HV8.out HA8.out HE8.out (by omega) (by omega) (by omega)).mono ?_;rintro e u' w9 ⟨rfl,rfl,hv9,ha9,he9,hf9⟩;have kv9:=hv9.cell;have fv9:=hv9.frozen;have zv9:=hv9.lt;have ka9:=ha9.cell;have fa9:=ha9.frozen;have za9:=ha9.lt;have ke9:=he9.cell;have fe9:=he9.frozen;have ze9:=he9.lt;have HB9:=hide (show Below w.heap.size w w9 from bel_o HB8.out hf9 hB);clear hv9 ha9 he9 hf9;simp [Leaves,settle,results,Tryz.results13,go_sem,kv9,ka9,ke9];exact ⟨HB9.out,.inr ⟨_,_,HPk.out,(by decide),rfl⟩⟩
section
variable {w:World} {A:Option Addr} {n c:Nat} {l:L8}
end
def numR (l:L8):Bool:=
 if runDg (l.drop (nI l))=0∨(isS (l.drop (nI l)) [48]=true∧1<runDg (l.drop (nI l))) then false
 else match nF (l.drop (nI l+runDg (l.drop (nI l)))) with
  | none=>false
  | some f=>match nE (l.drop (nI l+runDg (l.drop (nI l))+f)) with
    | none=>false
    | some e=>decide (nI l+runDg (l.drop (nI l))+f+e=l.length)
theorem digS_run (s:L8):digS s=decide (0<runDg s):=by
 cases s with
 | nil=>rfl
 | cons x s=>
   rw [runDg_cons];show isDg x=_;cases isDg x <;> simp
def numT (l:L8) (k:Nat):Bool:=match nF (l.drop k) with
 | none=>false
 | some f=>match nE (l.drop (k+f)) with
   | none=>false
   | some e=>decide (k+f+e=l.length)
def numE (l:L8) (k:Nat):Bool:=match nE (l.drop k) with
 | none=>false
 | some e=>decide (k+e=l.length)
def isN (c:UInt8):Bool:=isDg c||([43,45,46,101,69]:L8).contains c
theorem run_zero {s:L8} (h:digS s=false):runDg s=0:=by rw [digS_run] at h;simp at h;exact h
theorem VRd.mk' {w:World} {F:Nat→Prop} {k:Int} {t:L8} {ks:List L8} {vs:List JV} {cs:List Value} (h:VRd w F (.mk k t ks vs) cs):∃ A c A' c' xs,cs=[.int .i64 k,.string ⟨t.toArray⟩,.slice A ks.length c,.slice A' vs.length c']∧(ks.length≤c∧c≤maxLen)∧ReadsF w F 1 A ks.length (sc ks)∧(vs.length≤c'∧c'≤maxLen)∧ReadsF w F 4 A' vs.length xs∧VRdL w F vs xs:=by
 unfold VRd at h;obtain ⟨A,n,c,A',n',c',xs,h1,rfl,h3,h4,rfl,h6,h7,h8⟩:=h;exact ⟨A,c,A',c',xs,h1,h3,h4,h6,h7,h8⟩
theorem parse_to {w:World} {A:Option Addr} {n c:Nat} {l:L8} (hr:RB w w.heap.size A n l) (hc:n≤c) (hT:Tabs w) (hA:∀ ad,A=some ad→ad.block<w.heap.size) :
 Calls Tryz.prog 13 #[.slice A n c] w fun e w'=>ParseP w n l e w':=parse_any w A n c l hr hc hT hA
theorem conv_run (l:L8) (w:World):(convert 9 29 (.string ⟨l.toArray⟩)).run Tryz.prog w=.ok (.slice (some ⟨w.heap.size,0,none⟩) l.length (grownCap w l.length 0 T8)) (Lib.bytesWorld w T8 ⟨l.toArray⟩):=by
 have:=Lib.run_convert_string_bytes w 9 29 5 ⟨l.toArray⟩ Tryz.underlying9 Tryz.underlying29 Tryz.underlying5;exact this
theorem conv_below (l:L8) (w:World):Below w.heap.size w (Lib.bytesWorld w T8 ⟨l.toArray⟩):=
 ⟨rfl,rfl,rfl,by rw [Lib.bytesWorld_size];omega,fun j hj=>Lib.bytesWorld_at_old w T8 _ j hj⟩
theorem conv_rb (l:L8) (w:World):RB (Lib.bytesWorld w T8 ⟨l.toArray⟩) (Lib.bytesWorld w T8 ⟨l.toArray⟩).heap.size (some ⟨w.heap.size,0,none⟩) l.length l:=by
 refine ⟨by rw [cs8_len,Nat.mul_one],fun _=>⟨_,rfl,by rw [Lib.bytesWorld_size];show w.heap.size<_;omega,fun j u hu=>?_⟩⟩;rw [cs8_get] at hu;have hj:j<l.length:=by
  rcases Nat.lt_or_ge j l.length with h|h
  ·exact h
  ·rw [List.getElem?_eq_none h] at hu;cases hu
 rw [List.getElem?_eq_getElem hj] at hu;injection hu with hu;rw [show (⟨w.heap.size,0,none⟩:Addr).add j=⟨w.heap.size,j,none⟩ by simp [Addr.add];exact fun h=>h.symm,Lib.bytesWorld_cell w T8 ⟨l.toArray⟩ j (by show j<l.toArray.size;simpa using hj),← hu];simp [u8v,List.getD_eq_getElem?_getD,List.getElem?_eq_getElem hj]
theorem conv_lt (l:L8) (w:World):∀ ad:Addr,(some (⟨w.heap.size,0,none⟩:Addr))=some ad→ad.block<(Lib.bytesWorld w T8 ⟨l.toArray⟩).heap.size:=fun ad e=>by
 injection e with e;subst e;rw [Lib.bytesWorld_size];show w.heap.size<_;omega
theorem conv_cap (l:L8) (w:World):l.length≤grownCap w l.length 0 T8:=grownCap_ge w _ 0 T8
def ansL:L8:=[91,49,44,34,97,34,93]
abbrev TWr:TypeId:=115
def putO (x:Option L8) (s:L8):Option L8:=x.bind fun o=>if o.length+s.length≤262144 then some (o++s) else none
theorem putO_app (x:Option L8) (a b:L8):putO (putO x a) b=putO x (a++b):=by
 cases x with
 | none=>rfl
 | some o=>
   unfold putO;simp only [Option.bind_some];by_cases h1:o.length+a.length≤262144
   ·rw [if_pos h1];simp only [Option.bind_some];by_cases h2:o.length+a.length+b.length≤262144
    ·rw [if_pos (by rw [List.length_append];omega),if_pos (by rw [List.length_append];omega),List.append_assoc]
    ·rw [if_neg (by rw [List.length_append];omega),if_neg (by rw [List.length_append];omega)]
   ·rw [if_neg h1,if_neg (by rw [List.length_append];omega)];rfl
structure Wr (base wb:Nat) (x:Option L8) (W:World) (o:L8) (bv:Value):Prop where
 blk:Blk W wb TWr #[bv,.bool x.isNone]
 row:W.ownsRow base T8 1 bv o.length (cs8 o)
 len:o.length≤262144
 eq:∀ o',x=some o'→o'=o
 le:base≤wb
 ne:bv.ownBlock≠some wb
def WrX (base wb:Nat) (x:Option L8) (W:World):Prop:=∃ o bv,Wr base wb x W o bv
def KT (W W':World):Prop:=∀ g t cs,t≠TWr→t≠T8→Blk W g t cs→Blk W' g t cs
theorem KT.trans {a b c:World} (h:KT a b) (k:KT b c):KT a c:=fun g t cs h1 h2 hb=>k g t cs h1 h2 (h g t cs h1 h2 hb)
theorem KT.of_below {B:Nat} {a b:World} (h:Below B a b) (hB:a.heap.size≤B):KT a b:=fun g t cs _ _ hb=>(h.block g (nLl hb.lt hB)).trans hb
theorem Blk.ne {W:World} {g g':Nat} {t t':TypeId} {cs cs':Array Value} (h:Blk W g t cs) (h':Blk W g' t' cs') (ht:t≠t'):g≠g':=by
 rintro rfl;have e:some (Obj.cells cs t (0,0))=some (Obj.cells cs' t' (0,0)):=h.symm.trans h';injection e with e;injection e with _ e _;exact ht e
theorem KT.set {W:World} {wb i:Nat} {v:Value} {c0:Array Value} (h:Blk W wb TWr c0):KT W (W.setCell ⟨wb,i,none⟩ v):=fun g t cs h1 _ hb=>(Below.heap_setCell _ _ _ _ (hb.ne h h1)).trans hb
theorem KT.grown {W W':World} {v:Value} {base n:Nat} {l:List Value} (ho:W.ownsRow base T8 1 v n l) (h:W.grownBy W' v.ownBlock):KT W W':=fun g t cs _ h2 hb=>(h.block g hb.lt (fun e=>own_blk_ne ho hb (Ne.symm h2) e.symm)).trans hb
theorem u8_inf':∃ i,Tryz.prog.info? T8=some i∧i.zero=some (.int .u8 0)∧i.size=1∧i.bytes=1:=by
 have h:=u8_info;cases hi:Tryz.prog.info? T8 with
 | none=>rw [hi] at h;cases h
 | some i=>rw [hi] at h;simp only [Option.map_some,Option.some.injEq,Prod.mk.injEq] at h;exact ⟨i,rfl,h.1,h.2.1,h.2.2⟩
theorem str_cells (s:L8):Lib.strCells ⟨s.toArray⟩=cs8 s:=by
 unfold Lib.strCells cs8 u8v;simp
set_option maxRecDepth 100000 in
set_option maxHeartbeats 1000000 in
theorem put_any {base wb:Nat} {x:Option L8} {W:World} (s:L8) (hs:s.length≤4000000) (h:WrX base wb x W) (hb:base≤W.heap.size) :
 Calls Tryz.prog 108 #[.pointer (some ⟨wb,0,none⟩),.string ⟨s.toArray⟩] W fun e W'=>e=.returned (.tuple #[])∧WrX base wb (putO x s) W'∧Below base W W'∧KT W W':=by
 obtain ⟨o,bv,h⟩:=h;obtain ⟨A,c,rfl,hc⟩:=own_slice h.row;have kw:=h.blk.cell;have fw:=h.blk.frozen;have zw:=h.blk.lt;have H:=hide h;have hlo:=h.len;cases x with
 | none=>
   simp only [Option.isNone_none] at kw;clear h
   go_enter Tryz.func108,Tryz.ntmps108
   go_wp2_with fail
   have hX:WrX base wb (putO none s) (W.setCell ⟨wb,1,none⟩ (.bool true)):=
    ⟨o,_,⟨H.out.blk.set_ 1 _,row_fr H.out.row (Fr.of_grown (F:=fun j=>j=wb) (gby_set W wb 1 _) (fun k e=>by injection e with e;exact e.symm)) (fun g hg e=>H.out.ne (by rw [hg,e])),H.out.len,(fun o' e=>by cases e),H.out.le,H.out.ne⟩⟩
   exact ⟨rfl,.tuple #[],results_none rfl _ _ _,rfl,hX,(Below.refl base W).setCell (p:=⟨wb,1,none⟩) H.out.le _,KT.set H.out.blk⟩
 | some o'=>
   obtain rfl:=h.eq o' rfl;simp only [Option.isNone_some] at kw;clear h;by_cases hlg:262144<o'.length+s.length
   ·have d1:decide ((262144:Int)<(o'.length:Int)+(s.length:Int))=true:=by simp;omega
    have hP:putO (some o') s=none:=by unfold putO;simp only [Option.bind_some];rw [if_neg (by omega)]
    go_enter Tryz.func108,Tryz.ntmps108
    go_wp2_with fail
    have hX:WrX base wb (putO (some o') s) (W.setCell ⟨wb,1,none⟩ (.bool true)):=by
     rw [hP];exact ⟨o',_,⟨H.out.blk.set_ 1 _,row_fr H.out.row (Fr.of_grown (F:=fun j=>j=wb) (gby_set W wb 1 _) (fun k e=>by injection e with e;exact e.symm)) (fun g hg e=>H.out.ne (by rw [hg,e])),H.out.len,(fun o' e=>by cases e),H.out.le,H.out.ne⟩⟩
    exact ⟨rfl,.tuple #[],results_none rfl _ _ _,rfl,hX,(Below.refl base W).setCell (p:=⟨wb,1,none⟩) H.out.le _,KT.set H.out.blk⟩
   ·have d1:decide ((262144:Int)<(o'.length:Int)+(s.length:Int))=false:=by simp;omega
    have hP:putO (some o') s=some (o'++s):=by unfold putO;simp only [Option.bind_some];rw [if_pos (by omega)]
    obtain ⟨i0,hi0,hz0,hz1,hz2⟩:=u8_inf';have HI0:=hide hi0;have HZ0:=hide hz0;have HP:=hide hP;clear hi0 hz0 hP;obtain ⟨W1,hW1⟩:∃ W1,W.setCell ⟨wb,1,none⟩ (.bool false)=W1:=⟨_,rfl⟩;have HB1:=hide (show Blk W1 wb TWr #[.slice A o'.length c,.bool false] from hW1 ▸ H.out.blk.set_ 1 _);have HO1:=hide (show W1.ownsRow base T8 1 (.slice A o'.length c) o'.length (cs8 o') from hW1 ▸ row_fr H.out.row (Fr.of_grown (F:=fun j=>j=wb) (gby_set W wb 1 _) (fun k e=>by injection e with e;exact e.symm)) (fun g hg e=>H.out.ne (by rw [hg,e])));have HL1:=hide (show Below base W W1 from hW1 ▸ (Below.refl base W).setCell (p:=⟨wb,1,none⟩) H.out.le _);have HK1:=hide (show KT W W1 from hW1 ▸ KT.set H.out.blk);have HW1:=hide hW1;clear hW1
    go_enter Tryz.func108,Tryz.ntmps108
    go_upto_region 1 with fail
    rw [HW1.out];clear kw fw zw;have kw:=HB1.out.cell;have fw:=HB1.out.frozen;have zw:=HB1.out.lt;go_wp2_with (at_builtin;refine Lib.wpList_append_own_string _ rfl (.tmp 31) (.tmp 32) _ _ rfl base T8 i0 Tryz.underlying29 Tryz.underlying9 HI0.out HZ0.out hz1 hz2 (.slice A o'.length c) o'.length (cs8 o') rfl HO1.out ⟨s.toArray⟩ rfl (by show o'.length+s.toArray.size≤maxLen;unfold maxLen;simp;omega) (by show o'.length+s.toArray.size≤_;simp;omega) (Nat.le_trans hb HL1.out.size) ?_;intro v' W2 ho hgb _;(rw [str_cells,← cs8_append,show o'.length+(⟨s.toArray⟩:ByteArray).size=(o'++s).length by rw [List.length_append];rfl] at ho);(obtain ⟨A2,c2,rfl,hc2⟩:=own_slice ho);have HB2:=hide (HB1.out.grown hgb (fun e=>H.out.ne e.symm));have HK2:=hide (HK1.out.trans (KT.grown HO1.out hgb));have HL2:=hide (HL1.out.grown hgb (Nat.le_trans hb HL1.out.size) (fun k e=>own_block HO1.out k e));have HNE:=hide (own_blk_ne ho HB2.out (by decide));have HO2:=hide ho;clear ho hgb kw fw zw;have kw:=HB2.out.cell;have fw:=HB2.out.frozen;have zw:=HB2.out.lt)
    have hX:WrX base wb (putO (some o') s) (W2.setCell ⟨wb,0,none⟩ (.slice A2 (o'.length+s.length) c2)):=by
     rw [HP.out,← List.length_append];exact ⟨o'++s,_,⟨HB2.out.set_ 0 _,row_fr HO2.out (Fr.of_grown (F:=fun j=>j=wb) (gby_set W2 wb 0 _) (fun k e=>by injection e with e;exact e.symm)) (fun g hg e=>HNE.out (by rw [hg,e])),by rw [List.length_append];omega,(fun o'' e=>by injection e with e;exact e.symm),H.out.le,HNE.out⟩⟩
    exact ⟨rfl,.tuple #[],results_none rfl _ _ _,rfl,hX,HL2.out.setCell (p:=⟨wb,0,none⟩) H.out.le _,HK2.out.trans (KT.set HB2.out)⟩
mutual
def eqJ:JV→JV→Bool
 | .mk k t ks vs,.mk k' t' ks' vs'=>decide (k=k')&&decide (t=t')&&decide (ks=ks')&&eqL vs vs'
def eqL:List JV→List JV→Bool
 | [],[]=>true
 | a :: az,b :: bs=>eqJ a b&&eqL az bs
 | _,_=>false
end
mutual
theorem eqJ_iff:∀ (a b:JV),eqJ a b=true ↔ a=b
 | .mk k t ks vs,.mk k' t' ks' vs'=>by
   unfold eqJ;simp only [Bool.and_eq_true,decide_eq_true_eq,JV.mk.injEq];rw [eqL_iff vs vs'];exact ⟨fun h=>⟨h.1.1.1,h.1.1.2,h.1.2,h.2⟩,fun h=>⟨⟨⟨h.1,h.2.1⟩,h.2.2.1⟩,h.2.2.2⟩⟩
theorem eqL_iff:∀ (az bs:List JV),eqL az bs=true ↔ az=bs
 | [],[]=>by simp [eqL]
 | a :: az,b :: bs=>by
   unfold eqL;rw [Bool.and_eq_true,eqJ_iff a b,eqL_iff az bs];simp
 | [],b :: bs=>by simp [eqL]
 | a :: az,[]=>by simp [eqL]
end
theorem eqJ_refl (a:JV):eqJ a a=true:=(eqJ_iff a a).2 rfl
theorem eqJ_ne {a b:JV} (h:a≠b):eqJ a b=false:=by
 rw [Bool.eq_false_iff];intro e;exact h ((eqJ_iff a b).1 e)
mutual
def szJ:JV→Nat
 | .mk _ _ _ vs=>szL vs+1
def szL:List JV→Nat
 | []=>0
 | a :: az=>szJ a+szL az
end
theorem szL_at:∀ (l:List JV) (i:Nat) (h:i<l.length),szJ l[i]≤szL l
 | a :: az,0,_=>by simp only [List.getElem_cons_zero];unfold szL;omega
 | a :: az,i+1,h=>by
   have:=szL_at az i (by simpa using h);simp only [List.getElem_cons_succ];unfold szL;omega
theorem VRdL.at_ {w:World} {F:Nat→Prop}:∀ (js:List JV) (xs:List Value),VRdL w F js xs → ∀ (i:Nat) (h:i<js.length),∃ cs,VRd w F js[i] cs ∧ ∀ j,j<4→xs[i * 4+j]? = cs[j]?
 | j0 :: js,xs,h,i,hi=>by
   unfold VRdL at h;obtain ⟨cs,rest,rfl,h2,h3⟩:=h;have hl:cs.length=4:=by obtain ⟨k,t,A,n,c,A',n',c',rfl⟩:=h2.four;rfl
   cases i with
   | zero=>
     refine ⟨cs,h2,fun j hj=>?_⟩;rw [Nat.zero_mul,Nat.zero_add,List.getElem?_append_left (by omega)]
   | succ i=>
     obtain ⟨cs',g1,g2⟩:=VRdL.at_ js rest h3 i (by simpa using hi);refine ⟨cs',by simpa using g1,fun j hj=>?_⟩;rw [List.getElem?_append_right (by omega),hl,show (i+1) * 4+j - 4=i * 4+j by omega];exact g2 j hj
theorem VRd.below {w w':World} {F:Nat→Prop} {J:JV} {cs:List Value} (h:VRd w F J cs) (hF:∀ j,F j→j<w.heap.size) (hb:Below w.heap.size w w'):VRd w' F J cs:=VRd.keep (fun j hj=>hb.block j (hF j hj)) (fun _ h=>h) _ _ h
theorem VRd.all {w:World} {F:Nat→Prop} {J:JV} {cs:List Value} (h:VRd w F J cs):VRd w (fun j=>j<w.heap.size) J cs:=VRd.keep (fun _ _=>rfl) (fun j hj=>hj.2) _ _ h.lt
theorem VRd.later {w w':World} {J:JV} {cs:List Value} (h:VRd w (fun j=>j<w.heap.size) J cs) (hb:Below w.heap.size w w'):VRd w' (fun j=>j<w'.heap.size) J cs:=VRd.keep (fun j hj=>hb.block j hj) (fun j hj=>nLl hj hb.size) _ _ h
theorem VRdL.later {w w':World} {js:List JV} {xs:List Value} (h:VRdL w (fun j=>j<w.heap.size) js xs) (hb:Below w.heap.size w w'):VRdL w' (fun j=>j<w'.heap.size) js xs:=VRdL.keep (fun j hj=>hb.block j hj) (fun j hj=>nLl hj hb.size) _ _ h
theorem ReadsF.later {w w':World} {k n:Nat} {A:Option Addr} {xs:List Value} (h:ReadsF w (fun j=>j<w.heap.size) k A n xs) (hb:Below w.heap.size w w'):ReadsF w' (fun j=>j<w'.heap.size) k A n xs:=h.keep (fun j hj=>hb.block j hj) (fun j hj=>nLl hj hb.size)
theorem sc_at {ks:List L8} {i:Nat} (h:i<ks.length):(sc ks)[i]? = some (bstr ks[i]):=by unfold sc;rw [List.getElem?_map,List.getElem?_eq_getElem h];rfl
end Go.Proofs.YtacinobmcgcccaaGreatDoor
