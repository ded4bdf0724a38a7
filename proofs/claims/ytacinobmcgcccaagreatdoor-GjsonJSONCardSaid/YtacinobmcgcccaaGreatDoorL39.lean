/- The reference: Check of plans. -/
import Derived.Test.YtacinobmcgcccaaGreatDoorL38
import Derived.Test.YtacinobmcgcccaaGreatDoorL37
import Derived.Test.YtacinobmcgcccaaGreatDoorL17
import Derived.Test.YtacinobmcgcccaaGreatDoorL32
import Derived.Test.YtacinobmcgcccaaGreatDoorL30
import Derived.Test.YtacinobmcgcccaaGreatDoorL31
import Derived.Test.YtacinobmcgcccaaGreatDoorL10
set_option linter.unusedSimpArgs false
set_option linter.unusedVariables false
namespace Go.Proofs.YtacinobmcgcccaaGreatDoor
open Go.RowKit Go.Shelf
theorem listGo_fine:∀ {ps:List Pc} {n last m:Int},listGo n last ps=some m → ∀ x∈ps,idB x.id=true∧ownerB x.owner=true
 | [],_,_,_,_,x,hx=>by cases hx
 | a :: ps,n,last,m,h,x,hx=>by
   unfold listGo at h;split at h
   ·next hc=>
    simp only [Bool.and_eq_true] at hc;rcases List.mem_cons.1 hx with rfl|hx
    ·exact ⟨hc.1,hc.2.2.1⟩
    ·exact listGo_fine h x hx
   ·cases h
theorem listed_fine {outer:List Pt} {ps:List Pc} (h:listedB outer ps=true):∀ x∈ps,idB x.id=true∧ownerB x.owner=true:=by
 unfold listedB at h;split at h
 ·cases h
 ·next hs=>exact listGo_fine hs
theorem plan_fine {outer:List Pt} {vs:List Pv} (h:planB outer vs=true):(goodAll outer=true∧3≤outer.length∧outer.length≤128)∧(1≤vs.length∧vs.length≤64)∧(∀ v∈vs,3≤v.pc.ring.length∧v.pc.ring.length≤128) ∧ ∀ x∈vs.map Pv.pc,pcFine x:=by
 unfold planB at h;simp only [Bool.and_eq_true,List.all_eq_true] at h;obtain ⟨hl,ho,hv,_⟩:=h;have ho2:=normed_sound ho;have hl2:=listed_len hl;rw [List.length_map] at hl2;refine ⟨⟨ho2.2.2.2.1,ho2.2.1,ho2.2.2.1⟩,hl2,fun v hvv=>⟨(normed_sound (hv v hvv)).2.1,(normed_sound (hv v hvv)).2.2.1⟩,fun x hx=>?_⟩;have hf:=listed_fine hl x hx;obtain ⟨v,hvv,rfl⟩:=List.mem_map.1 hx;exact ⟨(normed_sound (hv v hvv)).2.2.2.1,hf.2,hf.1⟩
theorem enc_text {outer:List Pt} {vs:List Pv} (h:planB outer vs=true):encE outer vs=(if (planT outer (vs.map Pv.pc)).length≤262144 then 0 else 12)∧encR outer vs=(if (planT outer (vs.map Pv.pc)).length≤262144 then planT outer (vs.map Pv.pc) else []):=by
 have hf:=plan_fine h;have hp:=pr_plan (outer:=outer) (ps:=vs.map Pv.pc) fun x hx=>(hf.2.2.2 x hx).2.1
 have hd:=dp_plan (outer:=outer) (ps:=vs.map Pv.pc) hf.1.1 hf.2.2.2;have he:prE (planJ outer (vs.map Pv.pc))=(if (planT outer (vs.map Pv.pc)).length≤262144 then 0 else 12):=by
  unfold prE;rw [if_pos hd,hp]
 unfold encE encR;rw [if_pos h,if_pos h];refine ⟨he,?_⟩;unfold prR;rw [he,hp];by_cases hl:(planT outer (vs.map Pv.pc)).length≤262144
 ·rw [if_pos hl,if_pos hl,if_pos rfl]
 ·rw [if_neg hl,if_neg hl,if_neg (by decide)]
theorem polyT_len {r:List Pt} (h:goodAll r=true) (hl:r.length≤128):(polyT r).length≤6000:=by
 have h1:=joinT_len true ((r++r.take 1).map ptT) 45 fun t ht=>by
  obtain ⟨p,hp,rfl⟩:=List.mem_map.1 ht;refine ptT_len ?_;rcases List.mem_append.1 hp with hp|hp
  ·exact good_mem h hp
  ·exact good_mem h (List.mem_of_mem_take hp)
 rw [List.length_map,List.length_append,List.length_take] at h1;unfold polyT;simp only [List.length_append,List.length_cons,List.length_nil,show polyH.length=34 from rfl];have h2:(r.length+min 1 r.length) * (45+1)≤129 * 46:=Nat.mul_le_mul (by omega) (by omega);omega
theorem quoteQ_len {s:ByteArray} (h:ownerB s=true):(quoteQ s.data.toList).length≤66:=by
 unfold ownerB at h;simp only [Bool.and_eq_true,decide_eq_true_eq] at h;have hs:s.data.toList.length≤32:=by rw [Array.length_toList];exact h.1
 unfold quoteQ;simp only [List.length_cons,List.length_append,List.length_nil];have:∀ l:L8,(l.flatMap escQ).length≤2 * l.length:=by
  intro l
  induction l with
  | nil=>simp
  | cons c l ih=>
    rw [List.flatMap_cons,List.length_append,List.length_cons];have:(escQ c).length≤2:=by unfold escQ;split <;> simp
    omega
 have:=this s.data.toList;omega
section
variable {P:Program} (w:World)
theorem run_append_lit (t ty e:TypeId) (i:TypeInfo) (ht:P.underlying t=some (.slice e)) (hi:P.info? e=some i) (a ad:Addr) (m c:Nat) (hm:0<m) (hs:Builtin.nextslicecap m 0 * i.bytes≤2 ^ 48) :
 (Builtin.append_ #[t,t] ty #[.slice (some a) 0 0,.slice (some ad) m c]).run P w=(Builtin.append_ #[t,t] ty #[.slice none 0 0,.slice (some ad) m c]).run P w:=by
 have h0:¬ m≤0:=by omega
 have h1:m≠0:=by omega
 have h2:¬ (281474976710656<Builtin.nextslicecap m 0 * i.bytes):=by omega
 have hl:∀ w,(loadCells a 0).run P w=.ok #[] w:=fun w=>by first|rfl|simp [loadCells]
 simp [hl,Builtin.append_,run_underlying ht,sizeOf,typeInfo,hi,Builtin.lenOf,Builtin.firstCells,h0,h1,h2]
theorem append_lit_run (t ty e:TypeId) (i:TypeInfo) (z:Value) (size bytes:Nat) (ht:P.underlying t=some (.slice e)) (hi:P.info? e=some i) (hz:i.zero=some z)
 (hsize:i.size=size) (hby:i.bytes=bytes) (hzs:z.cells.size=size) (hsz:0<size) (a:Addr) (A:Option Addr) (m c:Nat) (news:List Value) (hr:Reads w w.heap.size size A m news) (h1:∀ u∈news,u.oneCell'=true) (h63:m≤maxLen) (hbytes:m * bytes≤140737488355328) :
 ∃ v' w',(Builtin.append_ #[t,t] ty #[.slice (some a) 0 0,.slice A m c]).run P w=.ok v' w'∧((m=0∧v'=.slice (some a) 0 0)∨w'.ownsRow w.heap.size e size v' m news)∧Below w.heap.size w w':=by
 rcases Nat.eq_zero_or_pos m with h0|h0
 ·subst h0;refine ⟨.slice (some a) 0 0,w,?_,.inl ⟨rfl,rfl⟩,Below.refl _ _⟩;rcases A with _|ad
  ·simp [Builtin.append_,run_underlying ht,sizeOf,typeInfo,hi,Builtin.lenOf,Builtin.firstCells,storeCells]
  ·have hl:∀ w,(loadCells ad 0).run P w=.ok #[] w:=fun w=>by first|rfl|simp [loadCells]
   simp [hl,Builtin.append_,run_underlying ht,sizeOf,typeInfo,hi,Builtin.lenOf,Builtin.firstCells,storeCells]
 ·obtain ⟨ad,rfl,_,_⟩:=hr.2 h0;have hn:Builtin.nextslicecap m 0=m:=by unfold Builtin.nextslicecap;rw [if_pos (by omega)]
  obtain ⟨v',w',hrun,h2,h3,_⟩:=run_append_any (P:=P) w w.heap.size t ty e i z size bytes ht hi hz hsize hby hzs hsz (.slice none 0 0) 0 [] (World.ownsRow_nil _ _ _ _) w.heap.size (some ad) m c news hr h1 (by omega) (by rw [Nat.zero_add];exact hbytes) (Nat.le_refl _);refine ⟨v',w',?_,.inr (by simpa using h2),?_⟩
  ·rw [run_append_lit w t ty e i ht hi a ad m c h0 (by rw [hn,hby];omega)];exact hrun
  ·exact ⟨h3.os,h3.tape,h3.output,h3.size,fun j hj=>h3.block j hj (by simp [Value.ownBlock])⟩
theorem wp_append_lit {o:Oper} {a:Act} {K:Act→World→Prop} {Q:Exit→Act→World→Prop} (s x:Operand) (t:TypeId)
 (ho:o.op=.call { callee:=.builtin .append,args:=#[s,x],argTypes:=#[t,t] })
 (e:TypeId) (i:TypeInfo) (z:Value) (size bytes:Nat) (ht:P.underlying t=some (.slice e)) (hi:P.info? e=some i) (hz:i.zero=some z)
 (hsize:i.size=size) (hby:i.bytes=bytes) (hzs:z.cells.size=size) (hsz:0<size)
 (g:Addr) (hs:a.eval s=.slice (some g) 0 0) (A:Option Addr) (m c:Nat) (news:List Value) (hx:a.eval x=.slice A m c) (hr:Reads w w.heap.size size A m news) (h1:∀ u∈news,u.oneCell'=true)
 (h63:m≤maxLen) (hbytes:m * bytes≤140737488355328)
 (h:∀ v' w',((m=0∧v'=.slice (some g) 0 0)∨w'.ownsRow w.heap.size e size v' m news)→Below w.heap.size w w'→K (a.put o.dst v') w'):o.wp P a w K Q:=by
 obtain ⟨v',w',hrun,h2,h3⟩:=append_lit_run (P:=P) w t o.type e i z size bytes ht hi hz hsize hby hzs hsz g A m c news hr h1 h63 hbytes;unfold Oper.wp execOp;simp only [ho,resolve,invoke,builtin,Sem.run_bind,Sem.run_pure,Result.andThen_ok,List.map_toArray,List.map_cons,List.map_nil,hs,hx,hrun];exact h v' w' h2 h3
end
theorem wpList_append_lit {P:Program} {ops:Array Oper} {rest:List Oper} (w:World) {o:Oper} {a:Act} {Q:Exit→Act→World→Prop} (hgd:o.guard=none) (s x:Operand) (t:TypeId)
 (ho:o.op=.call { callee:=.builtin .append,args:=#[s,x],argTypes:=#[t,t] })
 (e:TypeId) (i:TypeInfo) (z:Value) (size bytes:Nat) (ht:P.underlying t=some (.slice e)) (hi:P.info? e=some i) (hz:i.zero=some z)
 (hsize:i.size=size) (hby:i.bytes=bytes) (hzs:z.cells.size=size) (hsz:0<size)
 (g:Addr) (hs:a.eval s=.slice (some g) 0 0) (A:Option Addr) (m c:Nat) (news:List Value) (hx:a.eval x=.slice A m c) (hr:Reads w w.heap.size size A m news) (h1:∀ u∈news,u.oneCell'=true)
 (h63:m≤maxLen) (hbytes:m * bytes≤140737488355328)
 (h:∀ v' w',((m=0∧v'=.slice (some g) 0 0)∨w'.ownsRow w.heap.size e size v' m news)→Below w.heap.size w w'→wpList P ops Q rest (a.put o.dst v') w'):wpList P ops Q (o :: rest) a w:=
 wpList_plain hgd fun _ hK=>wp_append_lit w s x t ho e i z size bytes ht hi hz hsize hby hzs hsz g hs A m c news hx hr h1 h63 hbytes fun v' w' h2 h3=>hK _ _ (h v' w' h2 h3)
abbrev TPt:TypeId:=56
abbrev TPc:TypeId:=43
abbrev TPl:TypeId:=26
structure OwR (w:World) (B:Nat) (A:Option Addr) (n c:Nat) (r:List Pt):Prop where
 len:r.length=n
 cap:n≤c
 cm:c≤maxLen
 own:n=0∨w.ownsRow B TPt 2 (.slice A n c) n (r.flatMap Pt.enc)
 blk:∀ a,A=some a→B≤a.block∧a.block<w.heap.size
section
variable {w w':World} {B n c:Nat} {A:Option Addr} {r:List Pt}
theorem OwR.pr (h:OwR w B A n c r):PR w w.heap.size A n r:=by
 rcases h.own with h0|h0
 ·have hr:r=[]:=List.eq_nil_of_length_eq_zero (h.len.trans h0);subst h0 hr;exact ⟨rfl,rfl,fun h=>absurd h (by omega)⟩
 ·exact Sl.own h.len rfl rfl h0
theorem OwR.keep (h:OwR w B A n c r) (hs:w.heap.size≤w'.heap.size) (hk:∀ a,0<n→A=some a→w'.heap[a.block]? = w.heap[a.block]?):OwR w' B A n c r:=by
 refine ⟨h.len,h.cap,h.cm,?_,fun a ha=>⟨(h.blk a ha).1,nLl (h.blk a ha).2 hs⟩⟩;rcases h.own with h0|h0
 ·exact .inl h0
 ·by_cases hn:n=0
  ·exact .inl hn
  right;refine ⟨h0.1,?_⟩;rcases h0.2 with hh|⟨g,cap,cur,e1,hb,hgg,rest⟩
  ·exact .inl hh
  ·injection e1 with e1 e2 e3;exact .inr ⟨g,cap,cur,by rw [e1,e3],hb,(hk ⟨g,0,none⟩ (by omega) e1).trans hgg,rest⟩
theorem OwR.below (h:OwR w B A n c r) (hb:Below w.heap.size w w'):OwR w' B A n c r:=h.keep hb.size fun a _ ha=>hb.block _ (h.blk a ha).2
theorem OwR.more {B':Nat} (h:OwR w B A n c r) (hb:B'≤B):OwR w B' A n c r:=
 ⟨h.len,h.cap,h.cm,h.own.imp id (fun h=>own_base h hb),fun a ha=>⟨Nat.le_trans hb (h.blk a ha).1,(h.blk a ha).2⟩⟩
theorem OwR.ne_blk {g:Nat} {t:TypeId} {cs:Array Value} (h:OwR w B A n c r) (hb:Blk w g t cs) (ht:TPt≠t):∀ a,0<n→A=some a→a.block≠g:=by
 intro a hn ha e;subst ha;rcases h.own with h0|h0
 ·omega
 ·exact own_blk_ne h0 hb ht (by rw [← e];rfl)
theorem OwR.ne_row {b k m:Nat} {e:TypeId} {v:Value} {xs:List Value} (h:OwR w B A n c r) (hr:w.ownsRow b e k v m xs) (ht:TPt≠e):∀ a,0<n→A=some a→v.ownBlock≠some a.block:=by
 intro a hn ha q;subst ha;rcases h.own with h0|h0
 ·omega
 ·exact own_own_ne h0 hr ht a.block q rfl
theorem OwR.set_ {p:Addr} {v:Value} (h:OwR w B A n c r) (hp:∀ a,0<n→A=some a→a.block≠p.block):OwR (w.setCell p v) B A n c r:=
 h.keep (by simp) fun a hn ha=>Below.heap_setCell _ _ _ _ (hp a hn ha)
theorem OwR.lit {W W':World} {g:Nat} {v:Value} (hl:r.length=n) (hg:B≤g) (hgw:g<W.heap.size) (hb:Below W.heap.size W W') (h:(n=0∧v=.slice (some ⟨g,0,none⟩) 0 0)∨W'.ownsRow W.heap.size TPt 2 v n (r.flatMap Pt.enc)) :
 ∃ A c,v=.slice A n c∧OwR W' B A n c r:=by
 rcases h with ⟨h0,rfl⟩|h
 ·subst h0;exact ⟨_,0,rfl,hl,Nat.le_refl _,Nat.zero_le _,.inl rfl,fun a ha=>by injection ha with ha;subst ha;exact ⟨hg,nLl hgw hb.size⟩⟩
 ·obtain ⟨A,c,rfl,h1,h2⟩:=own_slice2 h;refine ⟨A,c,rfl,hl,h1,h2,.inr (own_base h (by omega)),fun a ha=>?_⟩;subst ha;have:=h.lt a.block rfl;omega
end
def apart (l:List (Option Addr)):Prop:=l.Pairwise fun a b=>∀ p q,a=some p→b=some q→p.block<q.block
structure OwS (w wr:World) (P:PlV) (qb:Nat) (Ao:Option Addr) (co k:Nat) (A:Option Addr) (c:Nat) (vs:List Pv):Prop where
 bel:Below w.heap.size w wr
 box:Blk wr w.heap.size TPl #[.slice P.Ao P.no P.co,.slice P.A P.n P.c]
 res:Blk wr (w.heap.size+1) TPl #[.slice none 0 0,.slice none 0 0]
 q:Blk wr qb TPl #[.slice Ao P.no co,.slice A k c]
 qn:w.heap.size+1<qb
 out:OwR wr w.heap.size Ao P.no co P.outer
 pcs:vs.map Pv.pc=(P.vs.take k).map Pv.pc
 row:wr.ownsRow w.heap.size TPc 3 (.slice A k c) k (vs.flatMap Pv.enc)
 ok:∀ v∈vs,OwR wr w.heap.size v.A v.n v.c v.pc.ring
 apt:apart (Ao :: vs.map Pv.A)
theorem apart_snoc {l:List (Option Addr)} {a:Option Addr} (h:apart l) (k:∀ b∈l,∀ p q,b=some p→a=some q→p.block<q.block):apart (l++[a]):=by
 unfold apart;rw [List.pairwise_append];exact ⟨h,List.pairwise_singleton _ _,fun b hb a' ha p q e1 e2=>by rw [List.mem_singleton] at ha;subst ha;exact k b hb p q e1 e2⟩
section
variable {w wr:World} {P:PlV} {qb:Nat} {Ao:Option Addr} {co k:Nat} {A:Option Addr} {c:Nat} {vs:List Pv}
theorem OwS.below {w':World} (h:OwS w wr P qb Ao co k A c vs) (hb:Below wr.heap.size wr w'):OwS w w' P qb Ao co k A c vs:=
 ⟨h.bel.trans (hb.mono h.bel.size),h.box.below hb h.box.lt,h.res.below hb h.res.lt,h.q.below hb h.q.lt,h.qn,h.out.below hb,h.pcs,own_later h.row hb,fun v hv=>(h.ok v hv).below hb,h.apt⟩
theorem OwS.push {we wf wg:World} {v:Pv} {A6:Option Addr} {c6:Nat} (h:OwS w wr P qb Ao co k A c vs) (hb:Below wr.heap.size wr we) (hv:OwR we wr.heap.size v.A v.n v.c v.pc.ring)
 (hk:k<P.vs.length) (hpc:v.pc=P.vs[k].pc) (ho:wf.ownsRow w.heap.size TPc 3 (.slice A6 (k+1) c6) (k+1) (vs.flatMap Pv.enc++v.enc)) (hg:we.grownBy wf (Value.slice A k c).ownBlock)
 (hw:wg=wf.setCell ⟨qb,1,none⟩ (.slice A6 (k+1) c6)):OwS w wg P qb Ao co (k+1) A6 c6 (vs++[v]):=by
 have h2:=h.below hb;have rne:∀ g t cs,Blk we g t cs→TPc≠t→some g≠(Value.slice A k c).ownBlock:=fun g t cs hB ht e=>own_blk_ne h2.row hB ht e.symm
 have b1:=h2.box.grown hg (rne _ _ _ h2.box (by decide));have b2:=h2.res.grown hg (rne _ _ _ h2.res (by decide));have b3:=h2.q.grown hg (rne _ _ _ h2.q (by decide));have keepR:∀ {B:Nat} {A0:Option Addr} {n0 c0:Nat} {r0:List Pt},OwR we B A0 n0 c0 r0→OwR wg B A0 n0 c0 r0:=by
  intro B A0 n0 c0 r0 hr;have h1:OwR wf B A0 n0 c0 r0:=hr.keep hg.size fun a hn ha=>hg.block _ (hr.blk a ha).2 (fun e=>hr.ne_row h2.row (by decide) a hn ha e.symm)
  exact hw ▸ h1.set_ (fun a hn ha=>h1.ne_blk b3 (by decide) a hn ha)
 have hsz:w.heap.size≤wr.heap.size:=h.bel.size;have hbf:Below w.heap.size w wf:=h2.bel.grown hg h2.bel.size (fun g e=>(h2.row.lt g e).1);subst hw;have q1:=h.qn;refine ⟨hbf.setCell (p:=⟨qb,1,none⟩) (by simp only;omega) _,?_,?_,?_,h.qn,keepR h2.out,?_,?_,fun x hx=>?_,?_⟩
 ·exact (Below.heap_setCell _ _ _ _ (by simp only;omega)).trans b1
 ·exact (Below.heap_setCell _ _ _ _ (by simp only;omega)).trans b2
 ·exact b3.set_ 1 _
 ·rw [List.map_append,h.pcs,List.take_succ_eq_append_getElem hk,List.map_append,List.map_singleton,List.map_singleton,hpc]
 ·rw [List.flatMap_append,List.flatMap_singleton];refine ⟨ho.1,?_⟩;rcases ho.2 with hh|⟨g,cap,cur,e1,hb1,hgg,rest⟩
  ·exact .inl hh
  ·refine .inr ⟨g,cap,cur,e1,hb1,(Below.heap_setCell _ _ _ _ ?_).trans hgg,rest⟩;intro e;exact own_blk_ne ho b3 (by decide) (by rw [e1];exact congrArg some e)
 ·rcases List.mem_append.1 hx with hx|hx
  ·exact keepR (h2.ok x hx)
  ·rw [List.mem_singleton] at hx;subst hx;exact keepR (hv.more hsz)
 ·rw [List.map_append,List.map_singleton,← List.cons_append];refine apart_snoc h.apt fun b hbm p q e1 e2=>?_
  have hq:=(hv.blk q e2).1;rcases List.mem_cons.1 hbm with rfl|hbm
  ·have:=(h.out.blk p e1).2;omega
  ·obtain ⟨x,hx,rfl⟩:=List.mem_map.1 hbm;have:=((h.ok x hx).blk p e1).2;omega
end
theorem pc_inf:∃ i z,Tryz.prog.info? TPc=some i∧i.zero=some z∧i.size=3∧i.bytes=48∧z.cells.size=3:=by
 have h:(Tryz.prog.info? TPc).map (fun i=>(i.zero,i.size,i.bytes))=some (some (.agg #[.int .i64 0,.slice none 0 0,.string ⟨#[]⟩]),3,48):=by kernel_rfl
 cases hi:Tryz.prog.info? TPc with
 | none=>rw [hi] at h;cases h
 | some i=>rw [hi] at h;simp only [Option.map_some,Option.some.injEq,Prod.mk.injEq] at h;exact ⟨i,_,rfl,h.1,h.2.1,h.2.2,rfl⟩
structure OwnP (w w':World) (P P':PlV):Prop where
 no:P'.no=P.no
 n:P'.n=P.n
 outer:P'.outer=P.outer
 pcs:P'.vs.map Pv.pc=P.vs.map Pv.pc
 out:OwR w' w.heap.size P'.Ao P'.no P'.co P'.outer
 row:w'.ownsRow w.heap.size TPc 3 (.slice P'.A P'.n P'.c) P'.n (P'.vs.flatMap Pv.enc)
 ok:∀ v∈P'.vs,OwR w' w.heap.size v.A v.n v.c v.pc.ring
 apt:apart (P'.Ao :: P'.vs.map Pv.A)
theorem OwnP.plok {w w':World} {P P':PlV} (h:OwnP w w' P P') (hP:PlOk w w.heap.size P):PlOk w' w'.heap.size P':=by
 have hl:P'.vs.length=P'.n:=by
  have:=congrArg List.length h.pcs;simp only [List.length_map] at this;rw [this,h.n];exact hP.ps.sl.1
 obtain ⟨A,c,e,hc,hm⟩:=own_slice2 h.row;injection e with e1 e2 e3;refine ⟨h.out.pr,h.out.cap,h.out.cm,by rw [h.no];exact hP.osm,⟨Sl.own hl rfl rfl h.row,fun v hv=>?_⟩,by rw [e3];exact hc,by rw [e3];exact hm,by rw [h.n];exact hP.sm⟩;have ho:=h.ok v hv;have hmem:v.pc∈P.vs.map Pv.pc:=h.pcs ▸ List.mem_map_of_mem hv;obtain ⟨u,hu,eu⟩:=List.mem_map.1 hmem;have hk:=hP.ps.ok u hu;have hn:v.n=u.n:=by rw [← ho.len,← hk.pr.1,eu]
 exact ⟨ho.pr,ho.cap,ho.cm,by rw [hn];exact hk.small,by rw [← eu];exact hk.id,by rw [← eu];exact hk.own⟩
theorem own_set {w:World} {base k n g:Nat} {e t:TypeId} {v:Value} {xs:List Value} {cs:Array Value} (ho:w.ownsRow base e k v n xs) (hb:Blk w g t cs) (hne:e≠t) (i:Nat) (x:Value):(w.setCell ⟨g,i,none⟩ x).ownsRow base e k v n xs:=by
 refine ⟨ho.1,?_⟩;rcases ho.2 with hh|⟨g',cap,cur,e1,hb1,hgg,rest⟩
 ·exact .inl hh
 ·refine .inr ⟨g',cap,cur,e1,hb1,(Below.heap_setCell _ _ _ _ ?_).trans hgg,rest⟩;intro e;exact own_blk_ne ho hb hne (by rw [e1];exact congrArg some e)
theorem OwS.fin {w wr:World} {P:PlV} {qb:Nat} {Ao:Option Addr} {co k:Nat} {A:Option Addr} {c:Nat} {vs:List Pv} (h:OwS w wr P qb Ao co k A c vs) (hk:k=P.n) (hl:P.vs.length=P.n) (a b:Value) :
 Below w.heap.size w ((wr.setCell ⟨w.heap.size+1,0,none⟩ a).setCell ⟨w.heap.size+1,1,none⟩ b)∧OwnP w ((wr.setCell ⟨w.heap.size+1,0,none⟩ a).setCell ⟨w.heap.size+1,1,none⟩ b) P ⟨Ao,P.no,co,P.outer,A,P.n,c,vs⟩:=by
 subst hk;have b1:=h.res.set_ 0 a;have keepR:∀ {B:Nat} {A0:Option Addr} {n0 c0:Nat} {r0:List Pt},OwR wr B A0 n0 c0 r0→OwR ((wr.setCell ⟨w.heap.size+1,0,none⟩ a).setCell ⟨w.heap.size+1,1,none⟩ b) B A0 n0 c0 r0:=fun hr=>
  have h1:=hr.set_ (p:=⟨w.heap.size+1,0,none⟩) (v:=a) (fun x hn hx=>hr.ne_blk h.res (by decide) x hn hx)
  h1.set_ (fun x hn hx=>h1.ne_blk b1 (by decide) x hn hx)
 refine ⟨(h.bel.setCell (p:=⟨w.heap.size+1,0,none⟩) (by simp) _).setCell (p:=⟨w.heap.size+1,1,none⟩) (by simp) _,rfl,rfl,rfl,?_,keepR h.out,own_set (own_set h.row h.res (by decide) 0 a) b1 (by decide) 1 b,fun v hv=>keepR (h.ok v hv),h.apt⟩;have:=h.pcs;rw [List.take_of_length_le (by omega)] at this;exact this
set_option maxRecDepth 100000 in
set_option maxHeartbeats 4000000 in
theorem rown_any (P:PlV) (w:World) (hP:PlOk w w.heap.size P) (hn:P.n≤1000000) :
 Calls Tryz.prog 11 #[P.val] w fun e w'=>Below w.heap.size w w' ∧ ∃ P',e=.returned P'.val∧OwnP w w' P P':=by
 obtain ⟨i0,hi0,hy0,hy1,hy2⟩:=info_parts pt_info;obtain ⟨i1,z1,hi1,hz0,hz1,hz2,hz3⟩:=pc_inf;have HI0:=hide hi0;have HY0:=hide hy0;have HI1:=hide hi1;have HZ0:=hide hz0;obtain ⟨Pv0,hPv0⟩:∃ q,P=q:=⟨_,rfl⟩;have HP:=hide hP;obtain ⟨Ao,no,co,outer,A,n,c,vs⟩:=P;have holen:outer.length=no:=hP.out.1;have hvlen:vs.length=n:=hP.ps.sl.1;have hosm:no≤8796093022208:=hP.osm;have HOL:=hide holen;have HVL:=hide hvlen;have HPV:=hide hPv0;simp only at hn;show Calls Tryz.prog 11 #[.agg #[.slice Ao no co,.slice A n c]] w _;obtain ⟨w1,hw1⟩:∃ q,(w.alloc (.cells #[.slice Ao no co,.slice A n c] 26)).alloc (.cells #[.slice none 0 0,.slice none 0 0] 26)=q:=⟨_,rfl⟩;have hbs:Bs w1 [(w.heap.size+1,TPl,#[.slice none 0 0,.slice none 0 0]),(w.heap.size,TPl,#[.slice Ao no co,.slice A n c])]:=by
  have h:=((Bs.nil w).al #[.slice Ao no co,.slice A n c] TPl).al #[.slice none 0 0,.slice none 0 0] TPl;rw [← hw1];simpa using h
 have k2:Blk w1 (w.heap.size+1) TPl #[.slice none 0 0,.slice none 0 0]:=hbs _ (List.mem_of_getElem? (i:=0) rfl);have k1:Blk w1 w.heap.size TPl #[.slice Ao no co,.slice A n c]:=hbs _ (List.mem_of_getElem? (i:=1) rfl);have hs1:w1.heap.size=w.heap.size+2:=by rw [← hw1];simp
 have HB1:=hide (show Below w.heap.size w w1 from hw1 ▸ bal (bal bR _) _);have HK1:=hide k1;have HK2:=hide k2;have HW1:=hide hw1;have HS1:=hide hs1;clear hP holen hvlen hw1 hbs k1 k2 hs1 hi0 hy0 hi1 hz0 hPv0
 go_enter Tryz.func11,Tryz.ntmps11
 go_upto_region 1 with fail
 rw [HW1.out];obtain ⟨w2,hw2⟩:∃ q,w1.alloc (.cells #[] TPt)=q:=⟨_,rfl⟩;have kc:=HK1.out.cell;have fc:=HK1.out.frozen;have zc:=HK1.out.lt;have HB2:=hide (show Below w1.heap.size w1 w2 from hw2 ▸ bal bR _);have HW2:=hide hw2;have HS2:=hide (show w2.heap.size=w1.heap.size+1 from by rw [← hw2];simp);have HO2:=hide (show PR w2 w2.heap.size Ao no outer from HP.out.out.below (btr HB1.out HB2.out) |>.more (btr HB1.out HB2.out).size);clear hw2;go_upto_region 2 with (at_builtin;(try rw [HW2.out]);go_loud (refine wpList_append_lit w2 rfl (.tmp 6) (.tmp 8) _ rfl TPt i0 _ 2 16 Tryz.underlying23 HI0.out HY0.out hy1 hy2 rfl (by omega) ⟨w1.heap.size,0,none⟩ rfl Ao no co (outer.flatMap Pt.enc) rfl HO2.out.2 (pt_one _) (by unfold maxLen;omega) (by omega) ?_);intro v3 w3 ho3 hb3;(obtain ⟨A3,c3,rfl,hr3⟩:=OwR.lit (B:=w.heap.size) HOL.out (by rw [HS1.out];omega) (by rw [HS2.out];omega) hb3 ho3);have HR3:=hide hr3;have HB3:=hide hb3;clear hb3 hr3 ho3)
 obtain ⟨w4,hw4⟩:∃ q,w3.alloc (.cells #[.slice A3 no c3,.slice none 0 0] 26)=q:=⟨_,rfl⟩;rw [hw4];obtain ⟨qb,hqb⟩:∃ q,w3.heap.size=q:=⟨_,rfl⟩;rw [hqb];have HB4:=hide (show Below w3.heap.size w3 w4 from hw4 ▸ bal bR _);have HI4:=hide (show OwS w w4 Pv0 qb A3 c3 0 none 0 [] from by
  have b14:Below w1.heap.size w1 w4:=btr (btr HB2.out HB3.out) HB4.out;have b04:Below w.heap.size w w4:=btr HB1.out b14;have h1:=HB2.out.size;have h2:=HB3.out.size;rw [← HPV.out];exact ⟨b04,HK1.out.below b14 HK1.out.lt,HK2.out.below b14 HK2.out.lt,hqb ▸ hw4 ▸ Blk.new _ _ _,by rw [← hqb];have:=HS1.out;omega,HR3.out.below HB4.out,by simp,World.ownsRow_nil _ _ _ _,by simp,by unfold apart;simp⟩)
 clear HW1 HW2 HS1 HS2 HO2 kc fc zc hw4 hqb HB2 HB3 HB4 HB1 HK1 HK2 HR3;go_wp2_with fail
 go_loopw [4] (fun v4 wr=>∃ (k c5:Nat) (A5:Option Addr),v4=.int .i64 (k:Int)∧k≤n∧Hid (∃ vs',OwS w wr Pv0 qb A3 c3 k A5 c5 vs')) (fun v _=>n - (intOf v).toNat)
 case atStart=>exact ⟨0,0,none,rfl,by omega,hide ⟨[],HI4.out⟩⟩
 case round=>
  obtain ⟨k,c5,A5,rfl,hkn,HI⟩:=hrel;obtain ⟨vs',hI⟩:=HI.out;have HS:=hide hI;clear HI hI HI4;have hbx:=HS.out.box;rw [← HPV.out] at hbx;have kp:=hbx.cell;have fp:=hbx.frozen;have zp:=hbx.lt;clear hbx;by_cases hlt:k<n
  ·have hltI:(k:Int)<n:=by omega
   have hkv:k<vs.length:=by rw [HVL.out];exact hlt
   obtain ⟨b,o,hA,hb,hcs⟩:=HP.out.ps.at (show 0<n by omega);simp only at hA;subst hA;obtain ⟨c0,c1,c2⟩:=hcs k hkv;have hok:=HP.out.ps.ok _ (List.getElem_mem hkv);obtain ⟨v,hv⟩:∃ v,vs[k]=v:=⟨_,rfl⟩;rw [hv] at c0 c1 c2 hok;have HBL:=hide HS.out.bel;have c0:=(HBL.out.cell (p:=⟨b,o+k * 3,none⟩) hb).trans c0;have c1:=(HBL.out.cell (p:=⟨b,o+k * 3+1,none⟩) hb).trans c1;have c2:=(HBL.out.cell (p:=⟨b,o+k * 3+2,none⟩) hb).trans c2;have hbr:b<wr.heap.size:=nLl hb HBL.out.size;have HVK:=hide hv;obtain ⟨⟨id,ring,owner⟩,Av,nv,cv⟩:=v;simp only at c0 c1 c2;have hnv:nv≤8796093022208:=hok.small;have HOK:=hide hok;clear hv hok hcs;go_upto_region 6 with fail
   clear c0 c1 c2;obtain ⟨wa,hwa⟩:∃ q,wr.alloc (.cells #[.int .i64 id,.slice Av nv cv,.string owner] 43)=q:=⟨_,rfl⟩;rw [hwa];have HBA:=hide (show Below wr.heap.size wr wa from hwa ▸ bal bR _);have hka:Blk wa wr.heap.size TPc #[.int .i64 id,.slice Av nv cv,.string owner]:=hwa ▸ Blk.new _ _ _;have HKA:=hide hka;have HSA:=hide (show wa.heap.size=wr.heap.size+1 from by rw [← hwa];simp);have ka:=hka.cell;have fa:=hka.frozen;have za:=hka.lt;obtain ⟨wb,hwb⟩:∃ q,wa.alloc (.cells #[] TPt)=q:=⟨_,rfl⟩;have HWB:=hide hwb;have HBB:=hide (show Below wa.heap.size wa wb from hwb ▸ bal bR _);have HSB:=hide (show wb.heap.size=wa.heap.size+1 from by rw [← hwb];simp);have HOB:=hide (show PR wb wb.heap.size Av nv ring from HOK.out.pr.below (btr (btr HBL.out HBA.out) HBB.out) |>.more (btr (btr HBL.out HBA.out) HBB.out).size);clear hka hwa hwb kp fp zp;go_upto_region 7 with (at_builtin;(try rw [HWB.out]);go_loud (refine wpList_append_lit wb rfl (.tmp 23) (.tmp 25) _ rfl TPt i0 _ 2 16 Tryz.underlying23 HI0.out HY0.out hy1 hy2 rfl (by omega) ⟨wa.heap.size,0,none⟩ rfl Av nv cv (ring.flatMap Pt.enc) rfl HOB.out.2 (pt_one _) (by unfold maxLen;omega) (by omega) ?_);intro v7 w7 ho7 hb7;(obtain ⟨A7,c7,rfl,hr7⟩:=OwR.lit (B:=wr.heap.size+1) HOB.out.1 (by rw [HSA.out];omega) (by rw [HSB.out];omega) hb7 ho7);have HR7:=hide hr7;have HB7:=hide hb7;have hk7:=(HKA.out.below HBB.out HKA.out.lt).below hb7 (nLl HKA.out.lt HBB.out.size);have HK7:=hide hk7;clear ka fa za;have k7:=hk7.cell;have f7:=hk7.frozen;have z7:=hk7.lt;clear hb7 hr7 ho7 hk7)
   obtain ⟨wd,hwd⟩:∃ q,w7.setCell ⟨wr.heap.size,1,none⟩ (.slice A7 nv c7)=q:=⟨_,rfl⟩;rw [hwd];have hb7d:Below wr.heap.size wr wd:=hwd ▸ (btr (btr HBA.out HBB.out) HB7.out).setCell (p:=⟨wr.heap.size,1,none⟩) (Nat.le_refl _) _;have HBD:=hide hb7d;have HRD:=hide (show OwR wd wr.heap.size A7 nv c7 ring from hwd ▸ (HR7.out.set_ (fun a _ ha e=>by have:=(HR7.out.blk a ha).1;simp only at e;omega)).more (Nat.le_succ _));have hkd:Blk wd wr.heap.size TPc #[.int .i64 id,.slice A7 nv c7,.string owner]:=hwd ▸ HK7.out.set_ 1 _;have hqd:=HS.out.q.below hb7d HS.out.q.lt;have HQD:=hide hqd;have kd:=hkd.cell;have fd:=hkd.frozen;have zd:=hkd.lt;have kq:=hqd.cell;have fq:=hqd.frozen;have zq:=hqd.lt;obtain ⟨we,hwe⟩:∃ q,wd.alloc (.cells #[.int .i64 id,.slice A7 nv c7,.string owner] 43)=q:=⟨_,rfl⟩;have HWE:=hide hwe;have hbe:Below wd.heap.size wd we:=hwe ▸ bal bR _;have HBE:=hide hbe;have HKE:=hide (show Blk we wd.heap.size TPc #[.int .i64 id,.slice A7 nv c7,.string owner] from hwe ▸ Blk.new _ _ _);have HROW:=hide (own_later HS.out.row (hb7d.trans (hbe.mono hb7d.size)));have HSZ:=hide (show w.heap.size≤we.heap.size from Nat.le_trans HBL.out.size (Nat.le_trans hb7d.size hbe.size));clear k7 f7 z7 hwd hb7d hkd hqd hwe hbe;go_upto_region 4 with (at_builtin;(try rw [HWE.out]);go_loud (refine wpList_append_any we rfl (.tmp 29) (.tmp 31) _ rfl w.heap.size TPc i1 _ 3 48 Tryz.underlying24 HI1.out HZ0.out hz1 hz2 hz3 (by omega) (.slice A5 k c5) k (vs'.flatMap Pv.enc) rfl HROW.out we.heap.size (some ⟨wd.heap.size,0,none⟩) 1 1 [.int .i64 id,.slice A7 nv c7,.string owner] rfl (reads_blk HKE.out rfl rfl) (by intro u hu;simp at hu;rcases hu with rfl|rfl|rfl <;> rfl) (by unfold maxLen;omega) (by omega) HSZ.out ?_);intro v6 w6 ho6 hg6 hoo6;(obtain ⟨A6,c6,rfl,_⟩:=own_slice2 ho6);have HO6:=hide ho6;have HG6:=hide hg6;have hk6:=(HQD.out.below HBE.out HQD.out.lt).grown hg6 (fun e=>own_blk_ne HROW.out (HQD.out.below HBE.out HQD.out.lt) (by decide) e.symm);clear kq fq zq;have kq:=hk6.cell;have fq:=hk6.frozen;have zq:=hk6.lt;clear ho6 hg6 hoo6 hk6)
   have hkP:k<Pv0.vs.length:=by rw [← HPV.out];exact hkv
   have HN:=hide (HS.out.push (v:=⟨⟨id,ring,owner⟩,A7,nv,c7⟩) (btr HBD.out HBE.out) (HRD.out.below HBE.out) hkP (by have e:=HPV.out;subst e;exact (congrArg Pv.pc HVK.out).symm) HO6.out HG6.out rfl);clear kq fq zq kd fd zd;go_wp2_with fail
   refine ⟨⟨k+1,c6,A6,by go_num,by omega,hide ⟨_,HN.out⟩⟩,?_⟩;simp [intOf];omega
  ·have hltI:¬ (k:Int)<n:=by omega
   obtain rfl:k=n:=by omega
   have kq:=HS.out.q.cell;have fq:=HS.out.q.frozen;have zq:=HS.out.q.lt;have hpn:Pv0.no=no:=by rw [← HPV.out]
   rw [hpn] at kq;have kr:=HS.out.res.cell;have fr:=HS.out.res.frozen;have zr:=HS.out.res.lt;go_wp2_with fail
   have hfin:=HS.out.fin (by rw [← HPV.out]) (by rw [← HPV.out];exact HVL.out) (.slice A3 no c3) (.slice A5 k c5);rw [← HPV.out] at hfin;have hr2:=((HS.out.res.set_ 0 (.slice A3 no c3)).set_ 1 (.slice A5 k c5));refine bodyPost_ret (v:=.agg #[.slice A3 no c3,.slice A5 k c5]) (by simp [results,Tryz.results11,go_sem,hr2.cell 0,hr2.cell 1]) rfl ⟨hfin.1,_,rfl,hfin.2⟩
def bare (x:Pc):Pv:=⟨x,none,0,0⟩
def planP (outer:List Pt) (ps:List Pc):Bool:=planB outer (ps.map bare)
theorem planB_pcs (outer:List Pt) (vs:List Pv):planB outer vs=planP outer (vs.map Pv.pc):=by
 unfold planP planB;have h1:((vs.map Pv.pc).map bare).map Pv.pc=vs.map Pv.pc:=by rw [List.map_map];exact List.map_id _
 have h2:edgesOf ((vs.map Pv.pc).map bare)=edgesOf vs:=by
  unfold edgesOf;rw [List.flatMap_map,List.flatMap_map];rfl
 have h3:(((vs.map Pv.pc).map bare).all fun v=>normedB v.pc.ring)=vs.all fun v=>normedB v.pc.ring:=by
  rw [List.all_map,List.all_map];rfl
 have h4:wholeB outer ((vs.map Pv.pc).map bare)=wholeB outer vs:=by
  unfold wholeB areasV;rw [List.map_map,List.map_map];rfl
 rw [h1,h2,h3,h4]
theorem encE_pcs (outer:List Pt) (vs:List Pv):encE outer vs=if planP outer (vs.map Pv.pc) then prE (planJ outer (vs.map Pv.pc)) else 2:=by unfold encE;rw [planB_pcs]
theorem encR_pcs (outer:List Pt) (vs:List Pv):encR outer vs=if planP outer (vs.map Pv.pc) then prR (planJ outer (vs.map Pv.pc)) else []:=by unfold encR;rw [planB_pcs]
def sqL:List Pt:=[⟨0,0⟩,⟨4,0⟩,⟨4,4⟩,⟨0,4⟩]
def sqP:List Pc:=[⟨1,sqL,⟨#[]⟩⟩]
theorem sq_plan:planP sqL sqP=true:=by decide +kernel
theorem sq_text:100<(planT sqL sqP).length∧(planT sqL sqP).length≤262144:=by
 have h1:(polyT sqL).length≤6000:=polyT_len (by decide +kernel) (by decide);have h2:=Lib.itoa_length_le 1 (by decide) (by decide);obtain ⟨P,hP⟩:∃ q,polyT sqL=q:=⟨_,rfl⟩;obtain ⟨X,hX⟩:∃ q,Lib.itoa 1=q:=⟨_,rfl⟩;unfold planT sqP;simp only [List.map_cons,List.map_nil,joinT,featT,hP,hX,List.length_append,show planH.length=40 from rfl,show planF.length=13 from rfl,show featH.length=23 from rfl,show featP.length=23 from rfl,show featG.length=13 from rfl,List.length_cons,List.length_nil,if_true];rw [hP] at h1;rw [hX] at h2;have:(quoteQ (ByteArray.mk #[]).data.toList).length=2:=rfl;rw [this];omega
set_option maxRecDepth 100000 in
set_option maxHeartbeats 4000000 in
theorem ranswers_any (w:World) (hT:GT w):Calls Tryz.prog 8 #[] w fun e w'=>e=.returned (.bool true)∧Below w.heap.size w w':=by
 obtain ⟨w1,hw1⟩:∃ q,w.alloc (.cells #[.int .i64 0,.int .i64 0,.int .i64 4,.int .i64 0,.int .i64 4,.int .i64 4,.int .i64 0,.int .i64 4] TPt)=q:=⟨_,rfl⟩;have hb1:Below w.heap.size w w1:=hw1 ▸ bal bR _;have hk1:Blk w1 w.heap.size TPt #[.int .i64 0,.int .i64 0,.int .i64 4,.int .i64 0,.int .i64 4,.int .i64 4,.int .i64 0,.int .i64 4]:=hw1 ▸ Blk.new _ _ _;obtain ⟨w2,hw2⟩:∃ q,w1.alloc (.cells #[.int .i64 1,.slice (some ⟨w.heap.size,0,none⟩) 4 4,.string ⟨#[]⟩] TPc)=q:=⟨_,rfl⟩;have hb2:Below w1.heap.size w1 w2:=hw2 ▸ bal bR _;have hk2:Blk w2 w1.heap.size TPc #[.int .i64 1,.slice (some ⟨w.heap.size,0,none⟩) 4 4,.string ⟨#[]⟩]:=hw2 ▸ Blk.new _ _ _;have hr1:PR w2 w2.heap.size (some ⟨w.heap.size,0,none⟩) 4 sqL:=((Sl.of_blk (enc:=Pt.enc) (l:=sqL) (n:=4) (k:=2) hk1 rfl rfl rfl).below hb2).more hb2.size;have hps:PsR w2 w2.heap.size (some ⟨w1.heap.size,0,none⟩) 1 [⟨⟨1,sqL,⟨#[]⟩⟩,some ⟨w.heap.size,0,none⟩,4,4⟩]:=
  ⟨Sl.of_blk hk2 rfl rfl rfl,fun v hv=>by rw [List.mem_singleton] at hv;subst hv;exact ⟨hr1,Nat.le_refl _,show (4:Nat)≤maxLen from by decide,show (4:Nat)≤8796093022208 from by decide,show -9223372036854775808≤(1:Int)∧(1:Int)≤9223372036854775807 from by decide,show (0:Nat)≤140737488355328 from by decide⟩⟩
 have hpl:PlOk w2 w2.heap.size ⟨some ⟨w.heap.size,0,none⟩,4,4,sqL,some ⟨w1.heap.size,0,none⟩,1,1,[⟨⟨1,sqL,⟨#[]⟩⟩,some ⟨w.heap.size,0,none⟩,4,4⟩]⟩:=
  ⟨hr1,Nat.le_refl _,show (4:Nat)≤maxLen from by decide,show (4:Nat)≤8796093022208 from by decide,hps,Nat.le_refl _,show (1:Nat)≤maxLen from by decide,show (1:Nat)≤8796093022208 from by decide⟩
 have hen:=gencode_any _ w2 hpl (hT.below (btr hb1 hb2));have hpb:planB sqL [⟨⟨1,sqL,⟨#[]⟩⟩,some ⟨w.heap.size,0,none⟩,4,4⟩]=true:=(planB_pcs _ _).trans sq_plan;obtain ⟨hE,hR⟩:=enc_text hpb;have hsq:=sq_text;change encE sqL _=(if (planT sqL sqP).length≤262144 then 0 else 12) at hE;change encR sqL _=(if (planT sqL sqP).length≤262144 then planT sqL sqP else []) at hR;rw [if_pos hsq.2] at hE hR;simp only [hE,hR] at hen;obtain ⟨PT,hPT⟩:∃ q,planT sqL sqP=q:=⟨_,rfl⟩;rw [hPT] at hen hsq;have HEN:=hide hen;have HB:=hide (btr hb1 hb2);have HW1:=hide hw1;have HW2:=hide hw2;have h100:=hsq.1;clear hen hw1 hw2 hb1 hb2 hk1 hk2 hr1 hps hpl hpb hE hR hsq hPT hT
 go_enter Tryz.func8,Tryz.ntmps8
 go_upto_region 2 with fail
 rw [HW1.out];go_upto_region 3 with (go_at_call 10;(try rw [HW2.out]);go_loud (refine HEN.out.mono ?_);rintro e w3 ⟨hb3,A3,n3,c3,rfl,hc3,ha3,hr3⟩;have HB3:=hide (btr HB.out hb3);have hn3:n3=PT.length:=(by have h9:=hr3.1;simp [cs8] at h9;omega);clear hb3 hc3 ha3 hr3)
 subst hn3;go_wp2_with fail
 go_ret;refine ⟨?_,HB3.out⟩;show Ending.returned (.bool (decide ((100:Int)<(PT.length:Int))))=_;rw [decide_eq_true (by omega)]
def fewGo:Nat→Nat→List Nat→Nat
 | _,n,[]=>n
 | 0,n,_=>n
 | f+1,n,x :: l=>if n≤300 then fewGo f (n+x) l else n
def fewB (no:Nat) (ns:List Nat):Bool:=decide (fewGo 81 no ns≤300)&&decide (ns.length≤80)
theorem fewGo_sum:∀ (f n:Nat) (l:List Nat),l.length≤f→fewGo f n l≤300→n+l.sum≤300
 | f,n,[],_,h=>by
   have e:fewGo f n []=n:=by cases f <;> rfl
   rw [e] at h;simpa using h
 | 0,n,x :: l,hl,_=>by simp at hl
 | f+1,n,x :: l,hl,h=>by
   unfold fewGo at h;split at h
   ·have:=fewGo_sum f (n+x) l (by simpa using hl) h;rw [List.sum_cons];omega
   ·omega
theorem few_sound {no:Nat} {ns:List Nat} (h:fewB no ns=true):ns.length≤80∧no+ns.sum≤300:=by
 unfold fewB at h;simp only [Bool.and_eq_true,decide_eq_true_eq] at h;exact ⟨h.2,fewGo_sum 81 no ns (by omega) h.1⟩
theorem fewGo_step {f n:Nat} {l:List Nat} {i:Nat} (hi:i<l.length) (hn:n≤300):fewGo (f+1) n (l.drop i)=fewGo f (n+l[i]) (l.drop (i+1)):=by
 rw [List.drop_eq_getElem_cons hi]
 conv=>lhs;unfold fewGo
 rw [if_pos hn]
set_option maxRecDepth 100000 in
set_option maxHeartbeats 4000000 in
theorem few_any (P:PlV) (w:World) (hP:PlOk w w.heap.size P) :
 Calls Tryz.prog 9 #[P.val] w fun e w'=>e=.returned (.bool (fewB P.no (P.vs.map Pv.n)))∧Below w.heap.size w w':=by
 obtain ⟨Ao,no,co,outer,A,n,c,vs⟩:=P;show Calls Tryz.prog 9 #[.agg #[.slice Ao no co,.slice A n c]] w _;obtain ⟨w1,hw1⟩:∃ q,w.alloc (.cells #[.slice Ao no co,.slice A n c] 26)=q:=⟨_,rfl⟩;have HB1:=hide (show Below w.heap.size w w1 from hw1 ▸ bal bR _);have hk1:Blk w1 w.heap.size 26 #[.slice Ao no co,.slice A n c]:=hw1 ▸ Blk.new _ _ _;have HK1:=hide hk1;have kc:=hk1.cell;have fc:=hk1.frozen;have zc:=hk1.lt;have HW1:=hide hw1;have HP:=hide hP;have hvl:vs.length=n:=hP.ps.sl.1;have hosm:no≤8796093022208:=hP.osm;have hnsm:n≤8796093022208:=hP.sm;have HVL:=hide hvl;clear hw1 hk1 hP hvl;simp only
 go_enter Tryz.func9,Tryz.ntmps9
 go_upto_region 1 with fail
 rw [HW1.out];go_wp2_with fail
 clear kc fc zc
 go_loopw [3,4] (fun v3 v4 wr=>∃ (i nn:Nat),v4=.int .i64 (i:Int)∧v3=.int .i64 (nn:Int)∧i≤n∧i≤81∧nn≤9000000000000∧Hid (wr=w1∧fewGo 81 no (vs.map Pv.n)=fewGo (81 - i) nn ((vs.map Pv.n).drop i))) (fun _ v _=>n - (intOf v).toNat)
 case atStart=>exact ⟨0,no,rfl,rfl,by omega,by omega,by omega,hide ⟨rfl,rfl⟩⟩
 case round=>
  obtain ⟨i,nn,rfl,rfl,hin,hi81,hnn,HI⟩:=hrel;obtain rfl:=HI.out.1;have kc:=HK1.out.cell;have zc:=HK1.out.lt;by_cases hgo:i<n∧i<81∧nn≤300
  ·obtain ⟨h1,h2,h3⟩:=hgo;have h1I:(i:Int)<n:=by omega
   have h2I:(i:Int)<81:=by omega
   have h3I:(nn:Int)≤300:=by omega
   have hiv:i<vs.length:=by rw [HVL.out];exact h1
   obtain ⟨b,o,hA,hb,hcs⟩:=HP.out.ps.at (show 0<n by omega);simp only at hA;subst hA;obtain ⟨c0,c1,c2⟩:=hcs i hiv;have hok:=HP.out.ps.ok _ (List.getElem_mem hiv);have hil:i<(vs.map Pv.n).length:=by simpa using hiv
   have hst:=fewGo_step (f:=80 - i) hil h3;rw [show 80 - i+1=81 - i by omega,List.getElem_map] at hst;obtain ⟨v,hv⟩:∃ v,vs[i]=v:=⟨_,rfl⟩;rw [hv] at c1 hok hst;obtain ⟨⟨id,ring,owner⟩,Av,nv,cv⟩:=v;have hnv:nv≤8796093022208:=hok.small;simp only at c1 hst;have c1:=(HB1.out.cell (p:=⟨b,o+i * 3+1,none⟩) hb).trans c1;have hbr:b<wr.heap.size:=nLl hb HB1.out.size;have HST:=hide (HI.out.2.trans hst);clear hcs hok hst hv c0 c2;go_wp2_with fail
   go_roundw
   case rel=>exact ⟨i+1,nn+nv,by go_num,by go_num,by omega,by omega,by omega,hide ⟨(by first|trivial|rfl),by rw [show 81 - (i+1)=80 - i by omega];exact HST.out⟩⟩
   case measure=>simp [intOf];omega
  ·have HE:=hide (show fewGo 81 no (vs.map Pv.n)=nn∨80<n from by
    by_cases hb:80<n
    ·exact .inr hb
    ·left;rw [HI.out.2];by_cases h1:i<n
     ·have h3:¬ nn≤300:=fun h=>hgo ⟨h1,by omega,h⟩
      have hil:i<(vs.map Pv.n).length:=by rw [List.length_map,HVL.out];exact h1
      rw [List.drop_eq_getElem_cons hil,show 81 - i=(80 - i)+1 by omega];unfold fewGo;rw [if_neg h3]
     ·rw [List.drop_of_length_le (by rw [List.length_map,HVL.out];omega)];cases (81 - i) <;> rfl)
   obtain ⟨q1,hq1⟩:∃ q,decide ((nn:Int)≤300)=q:=⟨_,rfl⟩;obtain ⟨q2,hq2⟩:∃ q,decide ((n:Int)≤80)=q:=⟨_,rfl⟩;have HF:=hide (show fewB no (vs.map Pv.n)=(q1&&q2) from by
    unfold fewB;rw [List.length_map,HVL.out,← hq1,← hq2];have e2:decide (n≤80)=decide ((n:Int)≤80):=decide_eq_decide.2 (by omega);rw [e2];rcases HE.out with h|h
    ·rw [h];congr 1;exact decide_eq_decide.2 (by omega)
    ·rw [show decide ((n:Int)≤80)=false from decide_eq_false (by omega)];simp)
   clear HI HE;by_cases h1:i<n
   ·have h1I:(i:Int)<n:=by omega
    by_cases h2:i<81
    ·have h2I:(i:Int)<81:=by omega
     have h3I:¬ (nn:Int)≤300:=by omega
     obtain rfl:q1=false:=by rw [← hq1];exact decide_eq_false h3I
     clear hq1;go_wp2_with fail
     go_ret;exact ⟨by rw [HF.out];rfl,HB1.out⟩
    ·have h2I:¬ (i:Int)<81:=by omega
     cases q1
     ·go_wp2_with fail
      go_ret;exact ⟨by rw [HF.out];rfl,HB1.out⟩
     ·go_wp2_with fail
      go_ret;exact ⟨by rw [HF.out];rfl,HB1.out⟩
   ·have h1I:¬ (i:Int)<n:=by omega
    cases q1
    ·go_wp2_with fail
     go_ret;exact ⟨by rw [HF.out];rfl,HB1.out⟩
    ·go_wp2_with fail
     go_ret;exact ⟨by rw [HF.out];rfl,HB1.out⟩
theorem few_n {P:PlV} {w:World} (hP:PlOk w w.heap.size P) (hf:fewB P.no (P.vs.map Pv.n)=true):P.n≤80:=by
 have h:=(few_sound hf).1;rw [List.length_map,hP.ps.sl.1] at h;exact h
end Go.Proofs.YtacinobmcgcccaaGreatDoor
